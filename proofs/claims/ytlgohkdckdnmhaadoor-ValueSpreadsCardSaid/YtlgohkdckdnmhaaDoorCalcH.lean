/- calc: Parse. -/
import Derived.Test.YtlgohkdckdnmhaaDoorBase
import Derived.Test.YtlgohkdckdnmhaaDoorCalcF
import Derived.Test.YtlgohkdckdnmhaaDoorStr
import Derived.Deep.DeepCutAuto
import Derived.Deep.CutBlock
namespace Go.Proofs.YtlgohkdckdnmhaaDoor
open Go.RowKit Go.Afx

/-- A text without its sign, and whether there was one. -/
def splitL : List UInt8 → List UInt8 × Bool
  | [] => ([], false)
  | c :: t => if c = 45 then (t, true) else (c :: t, false)
def dig (c : UInt8) : Prop := 48 ≤ c.toNat ∧ c.toNat ≤ 57
instance (c : UInt8) : Decidable (dig c) := inferInstanceAs (Decidable (_ ∧ _))
def valN (r : List UInt8) : Nat := r.foldl (fun n c => n * 10 + (c.toNat - 48)) 0
/-- The text's head is right. -/
def headOk (ng : Bool) : List UInt8 → Bool
  | [] => false
  | c :: t => !(c == 48 && (ng || !t.isEmpty))
def right (ng : Bool) (r : List UInt8) : Prop := headOk ng r = true ∧ ∀ c ∈ r, dig c
instance (ng : Bool) (r : List UInt8) : Decidable (right ng r) := inferInstanceAs (Decidable (_ ∧ _))
def numN (ng : Bool) (r : List UInt8) : Int := if right ng r then shortN (sgn ng (valN r)) else 0
def numE (ng : Bool) (r : List UInt8) : Int := if right ng r then shortE (sgn ng (valN r)) else 12
def prsN (l : List UInt8) : Int := numN (splitL l).2 (splitL l).1
def prsE (l : List UInt8) : Int := numE (splitL l).2 (splitL l).1

theorem valN_next (r : List UInt8) (k : Nat) (h : k < r.length) : valN (r.take (k + 1)) = valN (r.take k) * 10 + (r[k].toNat - 48) := by
  unfold valN
  rw [← List.take_append_getElem h, List.foldl_append]; rfl

/-- The number so far, as the program keeps it. -/
def keptV (n : Int) (over : Bool) (v : Nat) : Prop :=
  0 ≤ n ∧ n < 18446744073709551616 ∧ (over = false ∧ n = v ∨ over = true ∧ 18446744073709551616 ≤ v)
theorem keptV_next {n : Int} {over : Bool} {v : Nat} (h : keptV n over v) (c : Int) (h1 : 48 ≤ c) (h2 : c ≤ 57) :
    keptV ((n * 10 % 18446744073709551616 + (c - 48)) % 18446744073709551616) (over || (n * 10 / 18446744073709551616 != 0) || ((n * 10 % 18446744073709551616 + (c - 48)) / 18446744073709551616 != 0)) (v * 10 + (c - 48).toNat) := by
  obtain ⟨h3, h4, h5⟩ := h
  refine ⟨by omega, by omega, ?_⟩
  rcases h5 with ⟨rfl, h6⟩ | ⟨rfl, h6⟩
  · by_cases hz : n * 10 / 18446744073709551616 = 0 ∧ (n * 10 % 18446744073709551616 + (c - 48)) / 18446744073709551616 = 0
    · left
      rw [hz.1, hz.2]
      exact ⟨rfl, by omega⟩
    · right
      refine ⟨?_, by omega⟩
      rw [Bool.false_or, Bool.or_eq_true, bne_iff_ne, bne_iff_ne]
      omega
  · exact .inr ⟨rfl, by omega⟩

theorem headOk_cons {ng : Bool} {c : UInt8} {t : List UInt8} (h : headOk ng (c :: t) = true) :
    ((c.toNat : Int) == 48) = false ∨ (ng = false ∧ ((c.toNat : Int) == 48) = true ∧ t = []) := by
  by_cases hc : c = 48
  · subst hc
    right
    refine ⟨?_, rfl, ?_⟩
    · cases ng
      · rfl
      · simp [headOk] at h
    · cases ng <;> cases t <;> simp_all [headOk]
  · left
    rw [beq_eq_false_iff_ne]
    intro h2
    exact hc (UInt8.toNat_inj.1 (by show c.toNat = 48; omega))
theorem headOk_not {ng : Bool} {c : UInt8} {t : List UInt8} (h : headOk ng (c :: t) = false) :
    (c.toNat : Int) = 48 ∧ (ng = true ∨ ng = false ∧ 1 ≤ t.length) := by
  by_cases hc : c = 48
  · subst hc
    refine ⟨rfl, ?_⟩
    cases ng
    · right
      cases t <;> simp_all [headOk]
    · exact .inl rfl
  · simp [headOk, hc] at h

set_option maxRecDepth 100000 in
set_option maxHeartbeats 4000000 in
theorem parse_any (w : World) (s : ByteArray) (l : List UInt8) (hs : s.data.toList = l) (hl : l.length ≤ 1000) :
    Calls Tryd.prog 72 #[.string s] w fun e w' => e = .returned (.tuple #[.int .i64 (prsN l), .int .i64 (prsE l)]) ∧ Below w.heap.size w w' := by
  cases l with
  | nil =>
    obtain rfl := nil_list s hs
    have e1 : prsN [] = 0 := by rfl
    have e2 : prsE [] = 12 := by rfl
    rw [e1, e2]
    clear hs
    go_enter Tryd.func72, Tryd.ntmps72
    go_wp2
    go_ret2
    exact ⟨rfl, Below.refl _ _⟩
  | cons c t =>
  generalize hpn : prsN (c :: t) = pn
  generalize hpe : prsE (c :: t) = pe
  have hsz := size_list s _ hs
  have h0 : 0 < s.size := by rw [hsz]; simp
  have hc : ((s[0]'h0).toNat : Int) = (c.toNat : Int) := by rw [get_list s _ hs 0 h0 (by simp)]; rfl
  have hem2 : s.toList.isEmpty = false := by rw [toList_list s _ hs]; rfl
  by_cases h45 : c = 45
  · subst h45
    have hc2 : ((s[0]'h0).toNat : Int) = 45 := hc
    have HPN : Hid (numN true t = pn) := hpn
    have HPE : Hid (numE true t = pe) := hpe
    have HR := Lib.hid (tail_list s _ t hs)
    clear hc hpn hpe hsz hs
    go_enter Tryd.func72, Tryd.ntmps72
    go_upto_region 4 with fail
    generalize hrs : s.extract 1 s.size = rs at *
    have hr := HR.out
    have hl2 : t.length ≤ 1000 := by rw [List.length_cons] at hl; omega
    clear HR hl hrs h0 hc2 hem2
    generalize t = r at *
    have hem := toList_list rs r hr
    have hsz : (rs.size : Int) = r.length := by rw [size_list rs r hr]
    cases hok : headOk true r with
    | false =>
      have hbad : ¬ right true r := fun h => by have := h.1; rw [hok] at this; exact absurd this (by decide)
      have e1 : numN true r = 0 := by unfold numN; rw [if_neg hbad]
      have e2 : numE true r = 12 := by unfold numE; rw [if_neg hbad]
      rw [e1] at HPN
      rw [e2] at HPE
      obtain rfl := HPN.out
      obtain rfl := HPE.out
      clear HPN HPE hbad e1 e2
      cases r with
      | nil =>
        obtain rfl := nil_list rs hr
        clear hem hsz hr
        go_wp2
        go_ret2
        exact ⟨rfl, Below.refl _ _⟩
      | cons c t =>
        obtain ⟨h48, hb⟩ := headOk_not hok
        have h0 : 0 < rs.size := by have := size_list rs _ hr; rw [this]; simp
        have hc : ((rs[0]'h0).toNat : Int) = 48 := by rw [← h48, get_list rs _ hr 0 h0 (by simp)]; rfl
        have hem2 : rs.toList.isEmpty = false := hem
        rw [List.length_cons] at hsz
        clear hem hr hok h48
        rcases hb with hb | ⟨hb, hb2⟩
        · go_wp2
          go_ret2
          exact ⟨rfl, Below.refl _ _⟩
        · exact absurd hb (by decide)
    | true =>
      cases r with
      | nil => exact absurd hok (by decide)
      | cons c t =>
        have h0 : 0 < rs.size := by have := size_list rs _ hr; rw [this]; simp
        have hc : ((rs[0]'h0).toNat : Int) = (c.toNat : Int) := by rw [get_list rs _ hr 0 h0 (by simp)]; rfl
        have hem2 : rs.toList.isEmpty = false := hem
        have hhd := headOk_cons hok
        have hsz2 : rs.size = (c :: t).length := size_list rs _ hr
        have kc : ∀ w, (convert 9 92 (.string rs)).run Tryd.prog w = .ok (.slice (some ⟨w.heap.size, 0, none⟩) (c :: t).length (cvCap w rs 5)) (cvW w rs 5) := fun w => by
          rw [← hsz2]; exact run_cv w _ _ _ rs Tryd.underlying9 Tryd.underlying92 Tryd.underlying5
        have HC : Hid (∀ k (hk : k < (c :: t).length), (cvW w rs 5).cell? ⟨w.heap.size, k, none⟩ = some (.int .u8 ((c :: t)[k].toNat : Int))) := fun k hk => cvW_cell w rs _ _ hr k hk
        have HW1 := Lib.hid (cvW_below w rs 5)
        have HW2 := Lib.hid (cvW_size w rs 5)
        have HRT : Hid ((∀ x ∈ c :: t, dig x) → pn = shortN (sgn true (valN (c :: t))) ∧ pe = shortE (sgn true (valN (c :: t)))) := fun h => by
          have h2 : right true (c :: t) := ⟨hok, h⟩
          rw [← HPN.out, ← HPE.out]
          unfold numN numE
          rw [if_pos h2, if_pos h2]; exact ⟨rfl, rfl⟩
        have HRF : Hid (¬ (∀ x ∈ c :: t, dig x) → pn = 0 ∧ pe = 12) := fun h => by
          have h2 : ¬ right true (c :: t) := fun h3 => h h3.2
          rw [← HPN.out, ← HPE.out]
          unfold numN numE
          rw [if_neg h2, if_neg h2]; exact ⟨rfl, rfl⟩
        rcases hhd with hhd | ⟨hng, hhd, rfl⟩
        · clear hem hr hok HPN HPE hsz2
          generalize c :: t = r at *
          generalize hcap : cvCap w rs 5 = cap at *
          generalize hw1 : cvW w rs 5 = w1 at *
          have kc2 := kc w
          rw [hcap, hw1] at kc2
          clear kc hcap hw1
          go_wp2
          clear kc2 hem2 hhd hc hsz
          go_loopw [6, 7, 42] (fun a o i wr => ∃ (k : Nat) (n : Int) (ov : Bool), a = .int .u64 n ∧ o = .bool ov ∧ i = .int .i64 k ∧ k ≤ r.length ∧ (∀ x ∈ r.take k, dig x) ∧ keptV n ov (valN (r.take k)) ∧ Below w1.heap.size w1 wr) (fun _ _ i _ => r.length - (intOf i).toNat)
          case atStart => exact ⟨0, 0, false, rfl, rfl, rfl, Nat.zero_le _, by simp, ⟨by omega, by omega, .inl ⟨rfl, by simp [valN]⟩⟩, Below.refl _ _⟩
          case round =>
            obtain ⟨k, n, ov, rfl, rfl, rfl, hk, hdg, hkv, hb⟩ := hrel
            by_cases hka : k < r.length
            · have hck : wr.cell? ⟨w.heap.size, k, none⟩ = some (.int .u8 (r[k].toNat : Int)) := (hb.cell (by rw [HW2.out]; exact Nat.lt_succ_self _)).trans (HC.out k hka)
              have hmem : r[k] ∈ r := List.getElem_mem hka
              have hx2 : (r[k].toNat : Int) < 256 := by have := r[k].toNat_lt; omega
              have hx0 : (0 : Int) ≤ (r[k].toNat : Int) := by omega
              have HV := Lib.hid (valN_next r k hka)
              have HDG := Lib.hid hdg
              have hcd : (dig r[k] ∧ 48 ≤ (r[k].toNat : Int) ∧ (r[k].toNat : Int) ≤ 57) ∨ (¬ dig r[k] ∧ ((r[k].toNat : Int) < 48 ∨ 48 ≤ (r[k].toNat : Int) ∧ 57 < (r[k].toNat : Int))) := by unfold dig; omega
              have HKV := Lib.hid hkv
              have HB := Lib.hid hb
              rcases hcd with ⟨hd1, hd2, hd3⟩ | ⟨hd1, hd2⟩
              · have HDN : Hid (∀ x ∈ r.take (k + 1), dig x) := fun x hx => by
                  rw [← List.take_append_getElem hka] at hx
                  rcases List.mem_append.1 hx with hx | hx
                  · exact hdg x hx
                  · rw [List.mem_singleton.1 hx]; exact hd1
                have HKN := Lib.hid (keptV_next hkv (r[k].toNat : Int) hd2 hd3)
                have hm := Lib.hid (fun w => mul64_any n 10 hkv.1 hkv.2.1 (by omega) (by omega) w)
                have HVX : Hid (valN (r.take k) * 10 + ((r[k].toNat : Int) - 48).toNat = valN (r.take (k + 1))) := by have := HV.out; show _ = _; omega
                generalize (r[k].toNat : Int) = x at *
                have hlo0 : 0 ≤ n * 10 % 18446744073709551616 := by omega
                have hlo1 : n * 10 % 18446744073709551616 < 18446744073709551616 := by omega
                have hx3 : 0 ≤ x - 48 := by omega
                generalize n * 10 / 18446744073709551616 = hi at *
                generalize n * 10 % 18446744073709551616 = lo at *
                have ha := Lib.hid (add64_0 lo (x - 48) hlo0 hx3)
                generalize (lo + (x - 48)) / 18446744073709551616 = cy at *
                generalize (lo + (x - 48)) % 18446744073709551616 = sm at *
                clear hd1 hdg hkv hb hmem hx2
                cases ov
                · by_cases hhi : (hi != 0) = true
                  · have hhi2 : (hi == 0) = false := by rw [beq_eq_false_iff_ne]; exact bne_iff_ne.1 hhi
                    go_wp2_with (first
                      | (go_at_call 99; refine (hm.out _).mono ?_; rintro e w3 ⟨rfl, rfl⟩)
                      | simp only [ha.out])
                    go_roundw
                    case rel => exact ⟨k + 1, sm, true, rfl, rfl, by go_num, by omega, HDN.out, by rw [← HVX.out]; have := HKN.out; rw [hhi] at this; exact this, HB.out⟩
                    case measure => simp [intOf]; omega
                  · have hhi2 : (hi == 0) = true := by rw [beq_iff_eq]; simpa using hhi
                    have hhi3 : (hi != 0) = false := by simpa using hhi
                    go_wp2_with (first
                      | (go_at_call 99; refine (hm.out _).mono ?_; rintro e w3 ⟨rfl, rfl⟩)
                      | simp only [ha.out])
                    go_roundw
                    case rel => exact ⟨k + 1, sm, (cy != 0), rfl, rfl, by go_num, by omega, HDN.out, by rw [← HVX.out]; have := HKN.out; rw [hhi3] at this; exact this, HB.out⟩
                    case measure => simp [intOf]; omega
                · go_wp2_with (first
                    | (go_at_call 99; refine (hm.out _).mono ?_; rintro e w3 ⟨rfl, rfl⟩)
                    | simp only [ha.out])
                  go_roundw
                  case rel => exact ⟨k + 1, sm, true, rfl, rfl, by go_num, by omega, HDN.out, by rw [← HVX.out]; exact HKN.out, HB.out⟩
                  case measure => simp [intOf]; omega
              · have hz := HRF.out (fun h => hd1 (h _ hmem))
                obtain ⟨rfl, rfl⟩ := hz
                generalize (r[k].toNat : Int) = x at *
                clear hd1 hdg hkv hb hmem HRT HRF
                rcases hd2 with hd2 | ⟨hd2, hd3⟩
                · go_wp2
                  go_ret2
                  exact ⟨rfl, HW1.out.trans (HB.out.mono (by rw [HW2.out]; omega))⟩
                · go_wp2
                  go_ret2
                  exact ⟨rfl, HW1.out.trans (HB.out.mono (by rw [HW2.out]; omega))⟩
            · obtain rfl : k = r.length := by omega
              rw [List.take_length] at hdg hkv
              obtain ⟨h1, h2⟩ := HRT.out hdg
              have HB := Lib.hid hb
              obtain ⟨hn0, hn1, hov⟩ := hkv
              clear HRT HRF hdg hb
              rcases hov with ⟨rfl, rfl⟩ | ⟨rfl, hov⟩
              · have HSG := Lib.hid (fun w => signed_any w true _ hn0 hn1)
                rw [← h1, ← h2] at HSG
                clear h1 h2
                go_wp2_with (go_at_call 101; refine (HSG.out _).mono ?_; rintro e w3 ⟨rfl, hb3⟩)
                go_ret2
                exact ⟨rfl, (HW1.out.trans (HB.out.mono (by rw [HW2.out]; omega))).trans (hb3.mono (by have := HB.out.size; rw [HW2.out] at this; omega))⟩
              · have hnf : ¬ fits (sgn true (valN r)) := by unfold fits sgn; simp; omega
                have e1 : shortN (sgn true (valN r)) = 0 := by unfold shortN; rw [if_neg hnf]
                have e2 : shortE (sgn true (valN r)) = 2 := by unfold shortE; rw [if_neg hnf]
                rw [e1] at h1
                rw [e2] at h2
                subst h1
                subst h2
                clear e1 e2 hnf hov
                go_wp2
                go_ret2
                exact ⟨rfl, HW1.out.trans (HB.out.mono (by rw [HW2.out]; omega))⟩
        · exact absurd hng (by decide)

  · have h46 : ((c.toNat : Int) == 45) = false := by
      rw [beq_eq_false_iff_ne]
      intro h
      exact h45 (UInt8.toNat_inj.1 (by show c.toNat = 45; omega))
    have HPN : Hid (numN false (c :: t) = pn) := by
      have e : splitL (c :: t) = (c :: t, false) := by simp [splitL, h45]
      rw [← hpn]; unfold prsN; rw [e]; exact Lib.hid rfl
    have HPE : Hid (numE false (c :: t) = pe) := by
      have e : splitL (c :: t) = (c :: t, false) := by simp [splitL, h45]
      rw [← hpe]; unfold prsE; rw [e]; exact Lib.hid rfl
    go_enter Tryd.func72, Tryd.ntmps72
    go_upto_region 4 with fail
    have hr := hs
    have hl2 := hl
    clear hpn hpe hsz hs hc hem2 h46 h45 h0 hl
    generalize c :: t = r at *
    generalize s = rs at *
    have hem := toList_list rs r hr
    have hsz : (rs.size : Int) = r.length := by rw [size_list rs r hr]
    cases hok : headOk false r with
    | false =>
      have hbad : ¬ right false r := fun h => by have := h.1; rw [hok] at this; exact absurd this (by decide)
      have e1 : numN false r = 0 := by unfold numN; rw [if_neg hbad]
      have e2 : numE false r = 12 := by unfold numE; rw [if_neg hbad]
      rw [e1] at HPN
      rw [e2] at HPE
      obtain rfl := HPN.out
      obtain rfl := HPE.out
      clear HPN HPE hbad e1 e2
      cases r with
      | nil =>
        obtain rfl := nil_list rs hr
        clear hem hsz hr
        go_wp2
        go_ret2
        exact ⟨rfl, Below.refl _ _⟩
      | cons c t =>
        obtain ⟨h48, hb⟩ := headOk_not hok
        have h0 : 0 < rs.size := by have := size_list rs _ hr; rw [this]; simp
        have hc : ((rs[0]'h0).toNat : Int) = 48 := by rw [← h48, get_list rs _ hr 0 h0 (by simp)]; rfl
        have hem2 : rs.toList.isEmpty = false := hem
        rw [List.length_cons] at hsz
        clear hem hr hok h48
        rcases hb with hb | ⟨hb, hb2⟩
        · exact absurd hb (by decide)
        · have hsz2 : (1 : Int) < rs.size := by omega
          clear hb hb2
          go_wp2
          go_ret2
          exact ⟨rfl, Below.refl _ _⟩
    | true =>
      cases r with
      | nil => exact absurd hok (by decide)
      | cons c t =>
        have h0 : 0 < rs.size := by have := size_list rs _ hr; rw [this]; simp
        have hc : ((rs[0]'h0).toNat : Int) = (c.toNat : Int) := by rw [get_list rs _ hr 0 h0 (by simp)]; rfl
        have hem2 : rs.toList.isEmpty = false := hem
        have hhd := headOk_cons hok
        have hsz2 : rs.size = (c :: t).length := size_list rs _ hr
        have kc : ∀ w, (convert 9 92 (.string rs)).run Tryd.prog w = .ok (.slice (some ⟨w.heap.size, 0, none⟩) (c :: t).length (cvCap w rs 5)) (cvW w rs 5) := fun w => by
          rw [← hsz2]; exact run_cv w _ _ _ rs Tryd.underlying9 Tryd.underlying92 Tryd.underlying5
        have HC : Hid (∀ k (hk : k < (c :: t).length), (cvW w rs 5).cell? ⟨w.heap.size, k, none⟩ = some (.int .u8 ((c :: t)[k].toNat : Int))) := fun k hk => cvW_cell w rs _ _ hr k hk
        have HW1 := Lib.hid (cvW_below w rs 5)
        have HW2 := Lib.hid (cvW_size w rs 5)
        have HRT : Hid ((∀ x ∈ c :: t, dig x) → pn = shortN (sgn false (valN (c :: t))) ∧ pe = shortE (sgn false (valN (c :: t)))) := fun h => by
          have h2 : right false (c :: t) := ⟨hok, h⟩
          rw [← HPN.out, ← HPE.out]
          unfold numN numE
          rw [if_pos h2, if_pos h2]; exact ⟨rfl, rfl⟩
        have HRF : Hid (¬ (∀ x ∈ c :: t, dig x) → pn = 0 ∧ pe = 12) := fun h => by
          have h2 : ¬ right false (c :: t) := fun h3 => h h3.2
          rw [← HPN.out, ← HPE.out]
          unfold numN numE
          rw [if_neg h2, if_neg h2]; exact ⟨rfl, rfl⟩
        rcases hhd with hhd | ⟨hng, hhd, rfl⟩
        · clear hem hr hok HPN HPE hsz2
          generalize c :: t = r at *
          generalize hcap : cvCap w rs 5 = cap at *
          generalize hw1 : cvW w rs 5 = w1 at *
          have kc2 := kc w
          rw [hcap, hw1] at kc2
          clear kc hcap hw1
          go_wp2
          clear kc2 hem2 hhd hc hsz
          go_loopw [6, 7, 42] (fun a o i wr => ∃ (k : Nat) (n : Int) (ov : Bool), a = .int .u64 n ∧ o = .bool ov ∧ i = .int .i64 k ∧ k ≤ r.length ∧ (∀ x ∈ r.take k, dig x) ∧ keptV n ov (valN (r.take k)) ∧ Below w1.heap.size w1 wr) (fun _ _ i _ => r.length - (intOf i).toNat)
          case atStart => exact ⟨0, 0, false, rfl, rfl, rfl, Nat.zero_le _, by simp, ⟨by omega, by omega, .inl ⟨rfl, by simp [valN]⟩⟩, Below.refl _ _⟩
          case round =>
            obtain ⟨k, n, ov, rfl, rfl, rfl, hk, hdg, hkv, hb⟩ := hrel
            by_cases hka : k < r.length
            · have hck : wr.cell? ⟨w.heap.size, k, none⟩ = some (.int .u8 (r[k].toNat : Int)) := (hb.cell (by rw [HW2.out]; exact Nat.lt_succ_self _)).trans (HC.out k hka)
              have hmem : r[k] ∈ r := List.getElem_mem hka
              have hx2 : (r[k].toNat : Int) < 256 := by have := r[k].toNat_lt; omega
              have hx0 : (0 : Int) ≤ (r[k].toNat : Int) := by omega
              have HV := Lib.hid (valN_next r k hka)
              have HDG := Lib.hid hdg
              have hcd : (dig r[k] ∧ 48 ≤ (r[k].toNat : Int) ∧ (r[k].toNat : Int) ≤ 57) ∨ (¬ dig r[k] ∧ ((r[k].toNat : Int) < 48 ∨ 48 ≤ (r[k].toNat : Int) ∧ 57 < (r[k].toNat : Int))) := by unfold dig; omega
              have HKV := Lib.hid hkv
              have HB := Lib.hid hb
              rcases hcd with ⟨hd1, hd2, hd3⟩ | ⟨hd1, hd2⟩
              · have HDN : Hid (∀ x ∈ r.take (k + 1), dig x) := fun x hx => by
                  rw [← List.take_append_getElem hka] at hx
                  rcases List.mem_append.1 hx with hx | hx
                  · exact hdg x hx
                  · rw [List.mem_singleton.1 hx]; exact hd1
                have HKN := Lib.hid (keptV_next hkv (r[k].toNat : Int) hd2 hd3)
                have hm := Lib.hid (fun w => mul64_any n 10 hkv.1 hkv.2.1 (by omega) (by omega) w)
                have HVX : Hid (valN (r.take k) * 10 + ((r[k].toNat : Int) - 48).toNat = valN (r.take (k + 1))) := by have := HV.out; show _ = _; omega
                generalize (r[k].toNat : Int) = x at *
                have hlo0 : 0 ≤ n * 10 % 18446744073709551616 := by omega
                have hlo1 : n * 10 % 18446744073709551616 < 18446744073709551616 := by omega
                have hx3 : 0 ≤ x - 48 := by omega
                generalize n * 10 / 18446744073709551616 = hi at *
                generalize n * 10 % 18446744073709551616 = lo at *
                have ha := Lib.hid (add64_0 lo (x - 48) hlo0 hx3)
                generalize (lo + (x - 48)) / 18446744073709551616 = cy at *
                generalize (lo + (x - 48)) % 18446744073709551616 = sm at *
                clear hd1 hdg hkv hb hmem hx2
                cases ov
                · by_cases hhi : (hi != 0) = true
                  · have hhi2 : (hi == 0) = false := by rw [beq_eq_false_iff_ne]; exact bne_iff_ne.1 hhi
                    go_wp2_with (first
                      | (go_at_call 99; refine (hm.out _).mono ?_; rintro e w3 ⟨rfl, rfl⟩)
                      | simp only [ha.out])
                    go_roundw
                    case rel => exact ⟨k + 1, sm, true, rfl, rfl, by go_num, by omega, HDN.out, by rw [← HVX.out]; have := HKN.out; rw [hhi] at this; exact this, HB.out⟩
                    case measure => simp [intOf]; omega
                  · have hhi2 : (hi == 0) = true := by rw [beq_iff_eq]; simpa using hhi
                    have hhi3 : (hi != 0) = false := by simpa using hhi
                    go_wp2_with (first
                      | (go_at_call 99; refine (hm.out _).mono ?_; rintro e w3 ⟨rfl, rfl⟩)
                      | simp only [ha.out])
                    go_roundw
                    case rel => exact ⟨k + 1, sm, (cy != 0), rfl, rfl, by go_num, by omega, HDN.out, by rw [← HVX.out]; have := HKN.out; rw [hhi3] at this; exact this, HB.out⟩
                    case measure => simp [intOf]; omega
                · go_wp2_with (first
                    | (go_at_call 99; refine (hm.out _).mono ?_; rintro e w3 ⟨rfl, rfl⟩)
                    | simp only [ha.out])
                  go_roundw
                  case rel => exact ⟨k + 1, sm, true, rfl, rfl, by go_num, by omega, HDN.out, by rw [← HVX.out]; exact HKN.out, HB.out⟩
                  case measure => simp [intOf]; omega
              · have hz := HRF.out (fun h => hd1 (h _ hmem))
                obtain ⟨rfl, rfl⟩ := hz
                generalize (r[k].toNat : Int) = x at *
                clear hd1 hdg hkv hb hmem HRT HRF
                rcases hd2 with hd2 | ⟨hd2, hd3⟩
                · go_wp2
                  go_ret2
                  exact ⟨rfl, HW1.out.trans (HB.out.mono (by rw [HW2.out]; omega))⟩
                · go_wp2
                  go_ret2
                  exact ⟨rfl, HW1.out.trans (HB.out.mono (by rw [HW2.out]; omega))⟩
            · obtain rfl : k = r.length := by omega
              rw [List.take_length] at hdg hkv
              obtain ⟨h1, h2⟩ := HRT.out hdg
              have HB := Lib.hid hb
              obtain ⟨hn0, hn1, hov⟩ := hkv
              clear HRT HRF hdg hb
              rcases hov with ⟨rfl, rfl⟩ | ⟨rfl, hov⟩
              · have HSG := Lib.hid (fun w => signed_any w false _ hn0 hn1)
                rw [← h1, ← h2] at HSG
                clear h1 h2
                go_wp2_with (go_at_call 101; refine (HSG.out _).mono ?_; rintro e w3 ⟨rfl, hb3⟩)
                go_ret2
                exact ⟨rfl, (HW1.out.trans (HB.out.mono (by rw [HW2.out]; omega))).trans (hb3.mono (by have := HB.out.size; rw [HW2.out] at this; omega))⟩
              · have hnf : ¬ fits (sgn false (valN r)) := by unfold fits sgn; simp; omega
                have e1 : shortN (sgn false (valN r)) = 0 := by unfold shortN; rw [if_neg hnf]
                have e2 : shortE (sgn false (valN r)) = 2 := by unfold shortE; rw [if_neg hnf]
                rw [e1] at h1
                rw [e2] at h2
                subst h1
                subst h2
                clear e1 e2 hnf hov
                go_wp2
                go_ret2
                exact ⟨rfl, HW1.out.trans (HB.out.mono (by rw [HW2.out]; omega))⟩
        · have hsz3 : (rs.size : Int) = 1 := by rw [hsz]; rfl
          clear hem hr hok HPN HPE hsz2
          generalize [c] = r at *
          generalize hcap : cvCap w rs 5 = cap at *
          generalize hw1 : cvW w rs 5 = w1 at *
          have kc2 := kc w
          rw [hcap, hw1] at kc2
          clear kc hcap hw1
          go_wp2
          clear kc2 hem2 hhd hc hsz
          go_loopw [6, 7, 42] (fun a o i wr => ∃ (k : Nat) (n : Int) (ov : Bool), a = .int .u64 n ∧ o = .bool ov ∧ i = .int .i64 k ∧ k ≤ r.length ∧ (∀ x ∈ r.take k, dig x) ∧ keptV n ov (valN (r.take k)) ∧ Below w1.heap.size w1 wr) (fun _ _ i _ => r.length - (intOf i).toNat)
          case atStart => exact ⟨0, 0, false, rfl, rfl, rfl, Nat.zero_le _, by simp, ⟨by omega, by omega, .inl ⟨rfl, by simp [valN]⟩⟩, Below.refl _ _⟩
          case round =>
            obtain ⟨k, n, ov, rfl, rfl, rfl, hk, hdg, hkv, hb⟩ := hrel
            by_cases hka : k < r.length
            · have hck : wr.cell? ⟨w.heap.size, k, none⟩ = some (.int .u8 (r[k].toNat : Int)) := (hb.cell (by rw [HW2.out]; exact Nat.lt_succ_self _)).trans (HC.out k hka)
              have hmem : r[k] ∈ r := List.getElem_mem hka
              have hx2 : (r[k].toNat : Int) < 256 := by have := r[k].toNat_lt; omega
              have hx0 : (0 : Int) ≤ (r[k].toNat : Int) := by omega
              have HV := Lib.hid (valN_next r k hka)
              have HDG := Lib.hid hdg
              have hcd : (dig r[k] ∧ 48 ≤ (r[k].toNat : Int) ∧ (r[k].toNat : Int) ≤ 57) ∨ (¬ dig r[k] ∧ ((r[k].toNat : Int) < 48 ∨ 48 ≤ (r[k].toNat : Int) ∧ 57 < (r[k].toNat : Int))) := by unfold dig; omega
              have HKV := Lib.hid hkv
              have HB := Lib.hid hb
              rcases hcd with ⟨hd1, hd2, hd3⟩ | ⟨hd1, hd2⟩
              · have HDN : Hid (∀ x ∈ r.take (k + 1), dig x) := fun x hx => by
                  rw [← List.take_append_getElem hka] at hx
                  rcases List.mem_append.1 hx with hx | hx
                  · exact hdg x hx
                  · rw [List.mem_singleton.1 hx]; exact hd1
                have HKN := Lib.hid (keptV_next hkv (r[k].toNat : Int) hd2 hd3)
                have hm := Lib.hid (fun w => mul64_any n 10 hkv.1 hkv.2.1 (by omega) (by omega) w)
                have HVX : Hid (valN (r.take k) * 10 + ((r[k].toNat : Int) - 48).toNat = valN (r.take (k + 1))) := by have := HV.out; show _ = _; omega
                generalize (r[k].toNat : Int) = x at *
                have hlo0 : 0 ≤ n * 10 % 18446744073709551616 := by omega
                have hlo1 : n * 10 % 18446744073709551616 < 18446744073709551616 := by omega
                have hx3 : 0 ≤ x - 48 := by omega
                generalize n * 10 / 18446744073709551616 = hi at *
                generalize n * 10 % 18446744073709551616 = lo at *
                have ha := Lib.hid (add64_0 lo (x - 48) hlo0 hx3)
                generalize (lo + (x - 48)) / 18446744073709551616 = cy at *
                generalize (lo + (x - 48)) % 18446744073709551616 = sm at *
                clear hd1 hdg hkv hb hmem hx2
                cases ov
                · by_cases hhi : (hi != 0) = true
                  · have hhi2 : (hi == 0) = false := by rw [beq_eq_false_iff_ne]; exact bne_iff_ne.1 hhi
                    go_wp2_with (first
                      | (go_at_call 99; refine (hm.out _).mono ?_; rintro e w3 ⟨rfl, rfl⟩)
                      | simp only [ha.out])
                    go_roundw
                    case rel => exact ⟨k + 1, sm, true, rfl, rfl, by go_num, by omega, HDN.out, by rw [← HVX.out]; have := HKN.out; rw [hhi] at this; exact this, HB.out⟩
                    case measure => simp [intOf]; omega
                  · have hhi2 : (hi == 0) = true := by rw [beq_iff_eq]; simpa using hhi
                    have hhi3 : (hi != 0) = false := by simpa using hhi
                    go_wp2_with (first
                      | (go_at_call 99; refine (hm.out _).mono ?_; rintro e w3 ⟨rfl, rfl⟩)
                      | simp only [ha.out])
                    go_roundw
                    case rel => exact ⟨k + 1, sm, (cy != 0), rfl, rfl, by go_num, by omega, HDN.out, by rw [← HVX.out]; have := HKN.out; rw [hhi3] at this; exact this, HB.out⟩
                    case measure => simp [intOf]; omega
                · go_wp2_with (first
                    | (go_at_call 99; refine (hm.out _).mono ?_; rintro e w3 ⟨rfl, rfl⟩)
                    | simp only [ha.out])
                  go_roundw
                  case rel => exact ⟨k + 1, sm, true, rfl, rfl, by go_num, by omega, HDN.out, by rw [← HVX.out]; exact HKN.out, HB.out⟩
                  case measure => simp [intOf]; omega
              · have hz := HRF.out (fun h => hd1 (h _ hmem))
                obtain ⟨rfl, rfl⟩ := hz
                generalize (r[k].toNat : Int) = x at *
                clear hd1 hdg hkv hb hmem HRT HRF
                rcases hd2 with hd2 | ⟨hd2, hd3⟩
                · go_wp2
                  go_ret2
                  exact ⟨rfl, HW1.out.trans (HB.out.mono (by rw [HW2.out]; omega))⟩
                · go_wp2
                  go_ret2
                  exact ⟨rfl, HW1.out.trans (HB.out.mono (by rw [HW2.out]; omega))⟩
            · obtain rfl : k = r.length := by omega
              rw [List.take_length] at hdg hkv
              obtain ⟨h1, h2⟩ := HRT.out hdg
              have HB := Lib.hid hb
              obtain ⟨hn0, hn1, hov⟩ := hkv
              clear HRT HRF hdg hb
              rcases hov with ⟨rfl, rfl⟩ | ⟨rfl, hov⟩
              · have HSG := Lib.hid (fun w => signed_any w false _ hn0 hn1)
                rw [← h1, ← h2] at HSG
                clear h1 h2
                go_wp2_with (go_at_call 101; refine (HSG.out _).mono ?_; rintro e w3 ⟨rfl, hb3⟩)
                go_ret2
                exact ⟨rfl, (HW1.out.trans (HB.out.mono (by rw [HW2.out]; omega))).trans (hb3.mono (by have := HB.out.size; rw [HW2.out] at this; omega))⟩
              · have hnf : ¬ fits (sgn false (valN r)) := by unfold fits sgn; simp; omega
                have e1 : shortN (sgn false (valN r)) = 0 := by unfold shortN; rw [if_neg hnf]
                have e2 : shortE (sgn false (valN r)) = 2 := by unfold shortE; rw [if_neg hnf]
                rw [e1] at h1
                rw [e2] at h2
                subst h1
                subst h2
                clear e1 e2 hnf hov
                go_wp2
                go_ret2
                exact ⟨rfl, HW1.out.trans (HB.out.mono (by rw [HW2.out]; omega))⟩

end Go.Proofs.YtlgohkdckdnmhaaDoor
