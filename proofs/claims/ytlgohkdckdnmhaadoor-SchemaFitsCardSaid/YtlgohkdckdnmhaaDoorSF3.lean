/- Contracts of the functions that the statement reaches, one behind the other. No condition beyond each theorem's own. -/
import Derived.Test.YtlgohkdckdnmhaaDoorBase
import Derived.Test.YtlgohkdckdnmhaaDoorStr
import Derived.Deep.DeepCutAuto
import Derived.Deep.CutBlock
import Derived.Test.YtlgohkdckdnmhaaDoorOpen
import Derived.IntWalk
import Derived.Test.YtlgohkdckdnmhaaDoorSF2
/- calc: Parse. -/
namespace Go.Proofs.YtlgohkdckdnmhaaDoor
open Go.RowKit Go.Afx

/-- A text without its sign, and whether there was one. -/
def splitL : List UInt8 → List UInt8 × Bool
  | [] => ([], false)
  | c :: t => if c = 45 then (t, true) else (c :: t, false)
def dig (c : UInt8) : Prop := 48 ≤ c.toNat ∧ c.toNat ≤ 57
instance (c : UInt8) : Decidable (dig c) := inferInstanceAs (Decidable (_ ∧ _))
def valN (r : List UInt8) : Nat := r.foldl (fun n c => n * 10 + (c.toNat - 48)) 0
/-- The text's head is right. -/
def headOk (ng : Bool) : List UInt8 → Bool
  | [] => false
  | c :: t => !(c == 48 && (ng || !t.isEmpty))
def right (ng : Bool) (r : List UInt8) : Prop := headOk ng r = true ∧ ∀ c ∈ r, dig c
instance (ng : Bool) (r : List UInt8) : Decidable (right ng r) := inferInstanceAs (Decidable (_ ∧ _))
def numN (ng : Bool) (r : List UInt8) : Int := if right ng r then shortN (sgn ng (valN r)) else 0
def numE (ng : Bool) (r : List UInt8) : Int := if right ng r then shortE (sgn ng (valN r)) else 12
def prsN (l : List UInt8) : Int := numN (splitL l).2 (splitL l).1
def prsE (l : List UInt8) : Int := numE (splitL l).2 (splitL l).1

theorem valN_next (r : List UInt8) (k : Nat) (h : k < r.length) : valN (r.take (k + 1)) = valN (r.take k) * 10 + (r[k].toNat - 48) := by
  unfold valN
  rw [← List.take_append_getElem h, List.foldl_append]; rfl

/-- The number so far, as the program keeps it. -/
def keptV (n : Int) (over : Bool) (v : Nat) : Prop :=
  0 ≤ n ∧ n < 18446744073709551616 ∧ (over = false ∧ n = v ∨ over = true ∧ 18446744073709551616 ≤ v)
theorem keptV_next {n : Int} {over : Bool} {v : Nat} (h : keptV n over v) (c : Int) (h1 : 48 ≤ c) (h2 : c ≤ 57) :
    keptV ((n * 10 % 18446744073709551616 + (c - 48)) % 18446744073709551616) (over || (n * 10 / 18446744073709551616 != 0) || ((n * 10 % 18446744073709551616 + (c - 48)) / 18446744073709551616 != 0)) (v * 10 + (c - 48).toNat) := by
  obtain ⟨h3, h4, h5⟩ := h
  refine ⟨by omega, by omega, ?_⟩
  rcases h5 with ⟨rfl, h6⟩ | ⟨rfl, h6⟩
  · by_cases hz : n * 10 / 18446744073709551616 = 0 ∧ (n * 10 % 18446744073709551616 + (c - 48)) / 18446744073709551616 = 0
    · left
      rw [hz.1, hz.2]
      exact ⟨rfl, by omega⟩
    · right
      refine ⟨?_, by omega⟩
      rw [Bool.false_or, Bool.or_eq_true, bne_iff_ne, bne_iff_ne]
      omega
  · exact .inr ⟨rfl, by omega⟩

theorem headOk_cons {ng : Bool} {c : UInt8} {t : List UInt8} (h : headOk ng (c :: t) = true) :
    ((c.toNat : Int) == 48) = false ∨ (ng = false ∧ ((c.toNat : Int) == 48) = true ∧ t = []) := by
  by_cases hc : c = 48
  · subst hc
    right
    refine ⟨?_, rfl, ?_⟩
    · cases ng
      · rfl
      · simp [headOk] at h
    · cases ng <;> cases t <;> simp_all [headOk]
  · left
    rw [beq_eq_false_iff_ne]
    intro h2
    exact hc (UInt8.toNat_inj.1 (by show c.toNat = 48; omega))
theorem headOk_not {ng : Bool} {c : UInt8} {t : List UInt8} (h : headOk ng (c :: t) = false) :
    (c.toNat : Int) = 48 ∧ (ng = true ∨ ng = false ∧ 1 ≤ t.length) := by
  by_cases hc : c = 48
  · subst hc
    refine ⟨rfl, ?_⟩
    cases ng
    · right
      cases t <;> simp_all [headOk]
    · exact .inl rfl
  · simp [headOk, hc] at h

set_option maxRecDepth 100000 in
set_option maxHeartbeats 4000000 in
theorem parse_any (w : World) (s : ByteArray) (l : List UInt8) (hs : s.data.toList = l) (hl : l.length ≤ 1000) :
    Calls Tryd.prog 72 #[.string s] w fun e w' => e = .returned (.tuple #[.int .i64 (prsN l), .int .i64 (prsE l)]) ∧ Below w.heap.size w w' := by
  cases l with
  | nil =>
    obtain rfl := nil_list s hs
    have e1 : prsN [] = 0 := by rfl
    have e2 : prsE [] = 12 := by rfl
    rw [e1, e2]
    clear hs
    go_enter Tryd.func72, Tryd.ntmps72
    go_wp2
    go_ret2
    exact ⟨rfl, Below.refl _ _⟩
  | cons c t =>
  generalize hpn : prsN (c :: t) = pn
  generalize hpe : prsE (c :: t) = pe
  have hsz := size_list s _ hs
  have h0 : 0 < s.size := by rw [hsz]; simp
  have hc : ((s[0]'h0).toNat : Int) = (c.toNat : Int) := by rw [get_list s _ hs 0 h0 (by simp)]; rfl
  have hem2 : s.toList.isEmpty = false := by rw [toList_list s _ hs]; rfl
  by_cases h45 : c = 45
  · subst h45
    have hc2 : ((s[0]'h0).toNat : Int) = 45 := hc
    have HPN : Hid (numN true t = pn) := hpn
    have HPE : Hid (numE true t = pe) := hpe
    have HR := Lib.hid (tail_list s _ t hs)
    clear hc hpn hpe hsz hs
    go_enter Tryd.func72, Tryd.ntmps72
    go_upto_region 4 with fail
    generalize hrs : s.extract 1 s.size = rs at *
    have hr := HR.out
    have hl2 : t.length ≤ 1000 := by rw [List.length_cons] at hl; omega
    clear HR hl hrs h0 hc2 hem2
    generalize t = r at *
    have hem := toList_list rs r hr
    have hsz : (rs.size : Int) = r.length := by rw [size_list rs r hr]
    cases hok : headOk true r with
    | false =>
      have hbad : ¬ right true r := fun h => by have := h.1; rw [hok] at this; exact absurd this (by decide)
      have e1 : numN true r = 0 := by unfold numN; rw [if_neg hbad]
      have e2 : numE true r = 12 := by unfold numE; rw [if_neg hbad]
      rw [e1] at HPN
      rw [e2] at HPE
      obtain rfl := HPN.out
      obtain rfl := HPE.out
      clear HPN HPE hbad e1 e2
      cases r with
      | nil =>
        obtain rfl := nil_list rs hr
        clear hem hsz hr
        go_wp2
        go_ret2
        exact ⟨rfl, Below.refl _ _⟩
      | cons c t =>
        obtain ⟨h48, hb⟩ := headOk_not hok
        have h0 : 0 < rs.size := by have := size_list rs _ hr; rw [this]; simp
        have hc : ((rs[0]'h0).toNat : Int) = 48 := by rw [← h48, get_list rs _ hr 0 h0 (by simp)]; rfl
        have hem2 : rs.toList.isEmpty = false := hem
        rw [List.length_cons] at hsz
        clear hem hr hok h48
        rcases hb with hb | ⟨hb, hb2⟩
        · go_wp2
          go_ret2
          exact ⟨rfl, Below.refl _ _⟩
        · exact absurd hb (by decide)
    | true =>
      cases r with
      | nil => exact absurd hok (by decide)
      | cons c t =>
        have h0 : 0 < rs.size := by have := size_list rs _ hr; rw [this]; simp
        have hc : ((rs[0]'h0).toNat : Int) = (c.toNat : Int) := by rw [get_list rs _ hr 0 h0 (by simp)]; rfl
        have hem2 : rs.toList.isEmpty = false := hem
        have hhd := headOk_cons hok
        have hsz2 : rs.size = (c :: t).length := size_list rs _ hr
        have kc : ∀ w, (convert 9 92 (.string rs)).run Tryd.prog w = .ok (.slice (some ⟨w.heap.size, 0, none⟩) (c :: t).length (cvCap w rs 5)) (cvW w rs 5) := fun w => by
          rw [← hsz2]; exact run_cv w _ _ _ rs Tryd.underlying9 Tryd.underlying92 Tryd.underlying5
        have HC : Hid (∀ k (hk : k < (c :: t).length), (cvW w rs 5).cell? ⟨w.heap.size, k, none⟩ = some (.int .u8 ((c :: t)[k].toNat : Int))) := fun k hk => cvW_cell w rs _ _ hr k hk
        have HW1 := Lib.hid (cvW_below w rs 5)
        have HW2 := Lib.hid (cvW_size w rs 5)
        have HRT : Hid ((∀ x ∈ c :: t, dig x) → pn = shortN (sgn true (valN (c :: t))) ∧ pe = shortE (sgn true (valN (c :: t)))) := fun h => by
          have h2 : right true (c :: t) := ⟨hok, h⟩
          rw [← HPN.out, ← HPE.out]
          unfold numN numE
          rw [if_pos h2, if_pos h2]; exact ⟨rfl, rfl⟩
        have HRF : Hid (¬ (∀ x ∈ c :: t, dig x) → pn = 0 ∧ pe = 12) := fun h => by
          have h2 : ¬ right true (c :: t) := fun h3 => h h3.2
          rw [← HPN.out, ← HPE.out]
          unfold numN numE
          rw [if_neg h2, if_neg h2]; exact ⟨rfl, rfl⟩
        rcases hhd with hhd | ⟨hng, hhd, rfl⟩
        · clear hem hr hok HPN HPE hsz2
          generalize c :: t = r at *
          generalize hcap : cvCap w rs 5 = cap at *
          generalize hw1 : cvW w rs 5 = w1 at *
          have kc2 := kc w
          rw [hcap, hw1] at kc2
          clear kc hcap hw1
          go_wp2
          clear kc2 hem2 hhd hc hsz
          go_loopw [6, 7, 42] (fun a o i wr => ∃ (k : Nat) (n : Int) (ov : Bool), a = .int .u64 n ∧ o = .bool ov ∧ i = .int .i64 k ∧ k ≤ r.length ∧ (∀ x ∈ r.take k, dig x) ∧ keptV n ov (valN (r.take k)) ∧ Below w1.heap.size w1 wr) (fun _ _ i _ => r.length - (intOf i).toNat)
          case atStart => exact ⟨0, 0, false, rfl, rfl, rfl, Nat.zero_le _, by simp, ⟨by omega, by omega, .inl ⟨rfl, by simp [valN]⟩⟩, Below.refl _ _⟩
          case round =>
            obtain ⟨k, n, ov, rfl, rfl, rfl, hk, hdg, hkv, hb⟩ := hrel
            by_cases hka : k < r.length
            · have hck : wr.cell? ⟨w.heap.size, k, none⟩ = some (.int .u8 (r[k].toNat : Int)) := (hb.cell (by rw [HW2.out]; exact Nat.lt_succ_self _)).trans (HC.out k hka)
              have hmem : r[k] ∈ r := List.getElem_mem hka
              have hx2 : (r[k].toNat : Int) < 256 := by have := r[k].toNat_lt; omega
              have hx0 : (0 : Int) ≤ (r[k].toNat : Int) := by omega
              have HV := Lib.hid (valN_next r k hka)
              have HDG := Lib.hid hdg
              have hcd : (dig r[k] ∧ 48 ≤ (r[k].toNat : Int) ∧ (r[k].toNat : Int) ≤ 57) ∨ (¬ dig r[k] ∧ ((r[k].toNat : Int) < 48 ∨ 48 ≤ (r[k].toNat : Int) ∧ 57 < (r[k].toNat : Int))) := by unfold dig; omega
              have HKV := Lib.hid hkv
              have HB := Lib.hid hb
              rcases hcd with ⟨hd1, hd2, hd3⟩ | ⟨hd1, hd2⟩
              · have HDN : Hid (∀ x ∈ r.take (k + 1), dig x) := fun x hx => by
                  rw [← List.take_append_getElem hka] at hx
                  rcases List.mem_append.1 hx with hx | hx
                  · exact hdg x hx
                  · rw [List.mem_singleton.1 hx]; exact hd1
                have HKN := Lib.hid (keptV_next hkv (r[k].toNat : Int) hd2 hd3)
                have hm := Lib.hid (fun w => mul64_any n 10 hkv.1 hkv.2.1 (by omega) (by omega) w)
                have HVX : Hid (valN (r.take k) * 10 + ((r[k].toNat : Int) - 48).toNat = valN (r.take (k + 1))) := by have := HV.out; show _ = _; omega
                generalize (r[k].toNat : Int) = x at *
                have hlo0 : 0 ≤ n * 10 % 18446744073709551616 := by omega
                have hlo1 : n * 10 % 18446744073709551616 < 18446744073709551616 := by omega
                have hx3 : 0 ≤ x - 48 := by omega
                generalize n * 10 / 18446744073709551616 = hi at *
                generalize n * 10 % 18446744073709551616 = lo at *
                have ha := Lib.hid (add64_0 lo (x - 48) hlo0 hx3)
                generalize (lo + (x - 48)) / 18446744073709551616 = cy at *
                generalize (lo + (x - 48)) % 18446744073709551616 = sm at *
                clear hd1 hdg hkv hb hmem hx2
                cases ov
                · by_cases hhi : (hi != 0) = true
                  · have hhi2 : (hi == 0) = false := by rw [beq_eq_false_iff_ne]; exact bne_iff_ne.1 hhi
                    go_wp2_with (first
                      | (go_at_call 99; refine (hm.out _).mono ?_; rintro e w3 ⟨rfl, rfl⟩)
                      | simp only [ha.out])
                    go_roundw
                    case rel => exact ⟨k + 1, sm, true, rfl, rfl, by go_num, by omega, HDN.out, by rw [← HVX.out]; have := HKN.out; rw [hhi] at this; exact this, HB.out⟩
                    case measure => simp [intOf]; omega
                  · have hhi2 : (hi == 0) = true := by rw [beq_iff_eq]; simpa using hhi
                    have hhi3 : (hi != 0) = false := by simpa using hhi
                    go_wp2_with (first
                      | (go_at_call 99; refine (hm.out _).mono ?_; rintro e w3 ⟨rfl, rfl⟩)
                      | simp only [ha.out])
                    go_roundw
                    case rel => exact ⟨k + 1, sm, (cy != 0), rfl, rfl, by go_num, by omega, HDN.out, by rw [← HVX.out]; have := HKN.out; rw [hhi3] at this; exact this, HB.out⟩
                    case measure => simp [intOf]; omega
                · go_wp2_with (first
                    | (go_at_call 99; refine (hm.out _).mono ?_; rintro e w3 ⟨rfl, rfl⟩)
                    | simp only [ha.out])
                  go_roundw
                  case rel => exact ⟨k + 1, sm, true, rfl, rfl, by go_num, by omega, HDN.out, by rw [← HVX.out]; exact HKN.out, HB.out⟩
                  case measure => simp [intOf]; omega
              · have hz := HRF.out (fun h => hd1 (h _ hmem))
                obtain ⟨rfl, rfl⟩ := hz
                generalize (r[k].toNat : Int) = x at *
                clear hd1 hdg hkv hb hmem HRT HRF
                rcases hd2 with hd2 | ⟨hd2, hd3⟩
                · go_wp2
                  go_ret2
                  exact ⟨rfl, HW1.out.trans (HB.out.mono (by rw [HW2.out]; omega))⟩
                · go_wp2
                  go_ret2
                  exact ⟨rfl, HW1.out.trans (HB.out.mono (by rw [HW2.out]; omega))⟩
            · obtain rfl : k = r.length := by omega
              rw [List.take_length] at hdg hkv
              obtain ⟨h1, h2⟩ := HRT.out hdg
              have HB := Lib.hid hb
              obtain ⟨hn0, hn1, hov⟩ := hkv
              clear HRT HRF hdg hb
              rcases hov with ⟨rfl, rfl⟩ | ⟨rfl, hov⟩
              · have HSG := Lib.hid (fun w => signed_any w true _ hn0 hn1)
                rw [← h1, ← h2] at HSG
                clear h1 h2
                go_wp2_with (go_at_call 101; refine (HSG.out _).mono ?_; rintro e w3 ⟨rfl, hb3⟩)
                go_ret2
                exact ⟨rfl, (HW1.out.trans (HB.out.mono (by rw [HW2.out]; omega))).trans (hb3.mono (by have := HB.out.size; rw [HW2.out] at this; omega))⟩
              · have hnf : ¬ fits (sgn true (valN r)) := by unfold fits sgn; simp; omega
                have e1 : shortN (sgn true (valN r)) = 0 := by unfold shortN; rw [if_neg hnf]
                have e2 : shortE (sgn true (valN r)) = 2 := by unfold shortE; rw [if_neg hnf]
                rw [e1] at h1
                rw [e2] at h2
                subst h1
                subst h2
                clear e1 e2 hnf hov
                go_wp2
                go_ret2
                exact ⟨rfl, HW1.out.trans (HB.out.mono (by rw [HW2.out]; omega))⟩
        · exact absurd hng (by decide)

  · have h46 : ((c.toNat : Int) == 45) = false := by
      rw [beq_eq_false_iff_ne]
      intro h
      exact h45 (UInt8.toNat_inj.1 (by show c.toNat = 45; omega))
    have HPN : Hid (numN false (c :: t) = pn) := by
      have e : splitL (c :: t) = (c :: t, false) := by simp [splitL, h45]
      rw [← hpn]; unfold prsN; rw [e]; exact Lib.hid rfl
    have HPE : Hid (numE false (c :: t) = pe) := by
      have e : splitL (c :: t) = (c :: t, false) := by simp [splitL, h45]
      rw [← hpe]; unfold prsE; rw [e]; exact Lib.hid rfl
    go_enter Tryd.func72, Tryd.ntmps72
    go_upto_region 4 with fail
    have hr := hs
    have hl2 := hl
    clear hpn hpe hsz hs hc hem2 h46 h45 h0 hl
    generalize c :: t = r at *
    generalize s = rs at *
    have hem := toList_list rs r hr
    have hsz : (rs.size : Int) = r.length := by rw [size_list rs r hr]
    cases hok : headOk false r with
    | false =>
      have hbad : ¬ right false r := fun h => by have := h.1; rw [hok] at this; exact absurd this (by decide)
      have e1 : numN false r = 0 := by unfold numN; rw [if_neg hbad]
      have e2 : numE false r = 12 := by unfold numE; rw [if_neg hbad]
      rw [e1] at HPN
      rw [e2] at HPE
      obtain rfl := HPN.out
      obtain rfl := HPE.out
      clear HPN HPE hbad e1 e2
      cases r with
      | nil =>
        obtain rfl := nil_list rs hr
        clear hem hsz hr
        go_wp2
        go_ret2
        exact ⟨rfl, Below.refl _ _⟩
      | cons c t =>
        obtain ⟨h48, hb⟩ := headOk_not hok
        have h0 : 0 < rs.size := by have := size_list rs _ hr; rw [this]; simp
        have hc : ((rs[0]'h0).toNat : Int) = 48 := by rw [← h48, get_list rs _ hr 0 h0 (by simp)]; rfl
        have hem2 : rs.toList.isEmpty = false := hem
        rw [List.length_cons] at hsz
        clear hem hr hok h48
        rcases hb with hb | ⟨hb, hb2⟩
        · exact absurd hb (by decide)
        · have hsz2 : (1 : Int) < rs.size := by omega
          clear hb hb2
          go_wp2
          go_ret2
          exact ⟨rfl, Below.refl _ _⟩
    | true =>
      cases r with
      | nil => exact absurd hok (by decide)
      | cons c t =>
        have h0 : 0 < rs.size := by have := size_list rs _ hr; rw [this]; simp
        have hc : ((rs[0]'h0).toNat : Int) = (c.toNat : Int) := by rw [get_list rs _ hr 0 h0 (by simp)]; rfl
        have hem2 : rs.toList.isEmpty = false := hem
        have hhd := headOk_cons hok
        have hsz2 : rs.size = (c :: t).length := size_list rs _ hr
        have kc : ∀ w, (convert 9 92 (.string rs)).run Tryd.prog w = .ok (.slice (some ⟨w.heap.size, 0, none⟩) (c :: t).length (cvCap w rs 5)) (cvW w rs 5) := fun w => by
          rw [← hsz2]; exact run_cv w _ _ _ rs Tryd.underlying9 Tryd.underlying92 Tryd.underlying5
        have HC : Hid (∀ k (hk : k < (c :: t).length), (cvW w rs 5).cell? ⟨w.heap.size, k, none⟩ = some (.int .u8 ((c :: t)[k].toNat : Int))) := fun k hk => cvW_cell w rs _ _ hr k hk
        have HW1 := Lib.hid (cvW_below w rs 5)
        have HW2 := Lib.hid (cvW_size w rs 5)
        have HRT : Hid ((∀ x ∈ c :: t, dig x) → pn = shortN (sgn false (valN (c :: t))) ∧ pe = shortE (sgn false (valN (c :: t)))) := fun h => by
          have h2 : right false (c :: t) := ⟨hok, h⟩
          rw [← HPN.out, ← HPE.out]
          unfold numN numE
          rw [if_pos h2, if_pos h2]; exact ⟨rfl, rfl⟩
        have HRF : Hid (¬ (∀ x ∈ c :: t, dig x) → pn = 0 ∧ pe = 12) := fun h => by
          have h2 : ¬ right false (c :: t) := fun h3 => h h3.2
          rw [← HPN.out, ← HPE.out]
          unfold numN numE
          rw [if_neg h2, if_neg h2]; exact ⟨rfl, rfl⟩
        rcases hhd with hhd | ⟨hng, hhd, rfl⟩
        · clear hem hr hok HPN HPE hsz2
          generalize c :: t = r at *
          generalize hcap : cvCap w rs 5 = cap at *
          generalize hw1 : cvW w rs 5 = w1 at *
          have kc2 := kc w
          rw [hcap, hw1] at kc2
          clear kc hcap hw1
          go_wp2
          clear kc2 hem2 hhd hc hsz
          go_loopw [6, 7, 42] (fun a o i wr => ∃ (k : Nat) (n : Int) (ov : Bool), a = .int .u64 n ∧ o = .bool ov ∧ i = .int .i64 k ∧ k ≤ r.length ∧ (∀ x ∈ r.take k, dig x) ∧ keptV n ov (valN (r.take k)) ∧ Below w1.heap.size w1 wr) (fun _ _ i _ => r.length - (intOf i).toNat)
          case atStart => exact ⟨0, 0, false, rfl, rfl, rfl, Nat.zero_le _, by simp, ⟨by omega, by omega, .inl ⟨rfl, by simp [valN]⟩⟩, Below.refl _ _⟩
          case round =>
            obtain ⟨k, n, ov, rfl, rfl, rfl, hk, hdg, hkv, hb⟩ := hrel
            by_cases hka : k < r.length
            · have hck : wr.cell? ⟨w.heap.size, k, none⟩ = some (.int .u8 (r[k].toNat : Int)) := (hb.cell (by rw [HW2.out]; exact Nat.lt_succ_self _)).trans (HC.out k hka)
              have hmem : r[k] ∈ r := List.getElem_mem hka
              have hx2 : (r[k].toNat : Int) < 256 := by have := r[k].toNat_lt; omega
              have hx0 : (0 : Int) ≤ (r[k].toNat : Int) := by omega
              have HV := Lib.hid (valN_next r k hka)
              have HDG := Lib.hid hdg
              have hcd : (dig r[k] ∧ 48 ≤ (r[k].toNat : Int) ∧ (r[k].toNat : Int) ≤ 57) ∨ (¬ dig r[k] ∧ ((r[k].toNat : Int) < 48 ∨ 48 ≤ (r[k].toNat : Int) ∧ 57 < (r[k].toNat : Int))) := by unfold dig; omega
              have HKV := Lib.hid hkv
              have HB := Lib.hid hb
              rcases hcd with ⟨hd1, hd2, hd3⟩ | ⟨hd1, hd2⟩
              · have HDN : Hid (∀ x ∈ r.take (k + 1), dig x) := fun x hx => by
                  rw [← List.take_append_getElem hka] at hx
                  rcases List.mem_append.1 hx with hx | hx
                  · exact hdg x hx
                  · rw [List.mem_singleton.1 hx]; exact hd1
                have HKN := Lib.hid (keptV_next hkv (r[k].toNat : Int) hd2 hd3)
                have hm := Lib.hid (fun w => mul64_any n 10 hkv.1 hkv.2.1 (by omega) (by omega) w)
                have HVX : Hid (valN (r.take k) * 10 + ((r[k].toNat : Int) - 48).toNat = valN (r.take (k + 1))) := by have := HV.out; show _ = _; omega
                generalize (r[k].toNat : Int) = x at *
                have hlo0 : 0 ≤ n * 10 % 18446744073709551616 := by omega
                have hlo1 : n * 10 % 18446744073709551616 < 18446744073709551616 := by omega
                have hx3 : 0 ≤ x - 48 := by omega
                generalize n * 10 / 18446744073709551616 = hi at *
                generalize n * 10 % 18446744073709551616 = lo at *
                have ha := Lib.hid (add64_0 lo (x - 48) hlo0 hx3)
                generalize (lo + (x - 48)) / 18446744073709551616 = cy at *
                generalize (lo + (x - 48)) % 18446744073709551616 = sm at *
                clear hd1 hdg hkv hb hmem hx2
                cases ov
                · by_cases hhi : (hi != 0) = true
                  · have hhi2 : (hi == 0) = false := by rw [beq_eq_false_iff_ne]; exact bne_iff_ne.1 hhi
                    go_wp2_with (first
                      | (go_at_call 99; refine (hm.out _).mono ?_; rintro e w3 ⟨rfl, rfl⟩)
                      | simp only [ha.out])
                    go_roundw
                    case rel => exact ⟨k + 1, sm, true, rfl, rfl, by go_num, by omega, HDN.out, by rw [← HVX.out]; have := HKN.out; rw [hhi] at this; exact this, HB.out⟩
                    case measure => simp [intOf]; omega
                  · have hhi2 : (hi == 0) = true := by rw [beq_iff_eq]; simpa using hhi
                    have hhi3 : (hi != 0) = false := by simpa using hhi
                    go_wp2_with (first
                      | (go_at_call 99; refine (hm.out _).mono ?_; rintro e w3 ⟨rfl, rfl⟩)
                      | simp only [ha.out])
                    go_roundw
                    case rel => exact ⟨k + 1, sm, (cy != 0), rfl, rfl, by go_num, by omega, HDN.out, by rw [← HVX.out]; have := HKN.out; rw [hhi3] at this; exact this, HB.out⟩
                    case measure => simp [intOf]; omega
                · go_wp2_with (first
                    | (go_at_call 99; refine (hm.out _).mono ?_; rintro e w3 ⟨rfl, rfl⟩)
                    | simp only [ha.out])
                  go_roundw
                  case rel => exact ⟨k + 1, sm, true, rfl, rfl, by go_num, by omega, HDN.out, by rw [← HVX.out]; exact HKN.out, HB.out⟩
                  case measure => simp [intOf]; omega
              · have hz := HRF.out (fun h => hd1 (h _ hmem))
                obtain ⟨rfl, rfl⟩ := hz
                generalize (r[k].toNat : Int) = x at *
                clear hd1 hdg hkv hb hmem HRT HRF
                rcases hd2 with hd2 | ⟨hd2, hd3⟩
                · go_wp2
                  go_ret2
                  exact ⟨rfl, HW1.out.trans (HB.out.mono (by rw [HW2.out]; omega))⟩
                · go_wp2
                  go_ret2
                  exact ⟨rfl, HW1.out.trans (HB.out.mono (by rw [HW2.out]; omega))⟩
            · obtain rfl : k = r.length := by omega
              rw [List.take_length] at hdg hkv
              obtain ⟨h1, h2⟩ := HRT.out hdg
              have HB := Lib.hid hb
              obtain ⟨hn0, hn1, hov⟩ := hkv
              clear HRT HRF hdg hb
              rcases hov with ⟨rfl, rfl⟩ | ⟨rfl, hov⟩
              · have HSG := Lib.hid (fun w => signed_any w false _ hn0 hn1)
                rw [← h1, ← h2] at HSG
                clear h1 h2
                go_wp2_with (go_at_call 101; refine (HSG.out _).mono ?_; rintro e w3 ⟨rfl, hb3⟩)
                go_ret2
                exact ⟨rfl, (HW1.out.trans (HB.out.mono (by rw [HW2.out]; omega))).trans (hb3.mono (by have := HB.out.size; rw [HW2.out] at this; omega))⟩
              · have hnf : ¬ fits (sgn false (valN r)) := by unfold fits sgn; simp; omega
                have e1 : shortN (sgn false (valN r)) = 0 := by unfold shortN; rw [if_neg hnf]
                have e2 : shortE (sgn false (valN r)) = 2 := by unfold shortE; rw [if_neg hnf]
                rw [e1] at h1
                rw [e2] at h2
                subst h1
                subst h2
                clear e1 e2 hnf hov
                go_wp2
                go_ret2
                exact ⟨rfl, HW1.out.trans (HB.out.mono (by rw [HW2.out]; omega))⟩
        · have hsz3 : (rs.size : Int) = 1 := by rw [hsz]; rfl
          clear hem hr hok HPN HPE hsz2
          generalize [c] = r at *
          generalize hcap : cvCap w rs 5 = cap at *
          generalize hw1 : cvW w rs 5 = w1 at *
          have kc2 := kc w
          rw [hcap, hw1] at kc2
          clear kc hcap hw1
          go_wp2
          clear kc2 hem2 hhd hc hsz
          go_loopw [6, 7, 42] (fun a o i wr => ∃ (k : Nat) (n : Int) (ov : Bool), a = .int .u64 n ∧ o = .bool ov ∧ i = .int .i64 k ∧ k ≤ r.length ∧ (∀ x ∈ r.take k, dig x) ∧ keptV n ov (valN (r.take k)) ∧ Below w1.heap.size w1 wr) (fun _ _ i _ => r.length - (intOf i).toNat)
          case atStart => exact ⟨0, 0, false, rfl, rfl, rfl, Nat.zero_le _, by simp, ⟨by omega, by omega, .inl ⟨rfl, by simp [valN]⟩⟩, Below.refl _ _⟩
          case round =>
            obtain ⟨k, n, ov, rfl, rfl, rfl, hk, hdg, hkv, hb⟩ := hrel
            by_cases hka : k < r.length
            · have hck : wr.cell? ⟨w.heap.size, k, none⟩ = some (.int .u8 (r[k].toNat : Int)) := (hb.cell (by rw [HW2.out]; exact Nat.lt_succ_self _)).trans (HC.out k hka)
              have hmem : r[k] ∈ r := List.getElem_mem hka
              have hx2 : (r[k].toNat : Int) < 256 := by have := r[k].toNat_lt; omega
              have hx0 : (0 : Int) ≤ (r[k].toNat : Int) := by omega
              have HV := Lib.hid (valN_next r k hka)
              have HDG := Lib.hid hdg
              have hcd : (dig r[k] ∧ 48 ≤ (r[k].toNat : Int) ∧ (r[k].toNat : Int) ≤ 57) ∨ (¬ dig r[k] ∧ ((r[k].toNat : Int) < 48 ∨ 48 ≤ (r[k].toNat : Int) ∧ 57 < (r[k].toNat : Int))) := by unfold dig; omega
              have HKV := Lib.hid hkv
              have HB := Lib.hid hb
              rcases hcd with ⟨hd1, hd2, hd3⟩ | ⟨hd1, hd2⟩
              · have HDN : Hid (∀ x ∈ r.take (k + 1), dig x) := fun x hx => by
                  rw [← List.take_append_getElem hka] at hx
                  rcases List.mem_append.1 hx with hx | hx
                  · exact hdg x hx
                  · rw [List.mem_singleton.1 hx]; exact hd1
                have HKN := Lib.hid (keptV_next hkv (r[k].toNat : Int) hd2 hd3)
                have hm := Lib.hid (fun w => mul64_any n 10 hkv.1 hkv.2.1 (by omega) (by omega) w)
                have HVX : Hid (valN (r.take k) * 10 + ((r[k].toNat : Int) - 48).toNat = valN (r.take (k + 1))) := by have := HV.out; show _ = _; omega
                generalize (r[k].toNat : Int) = x at *
                have hlo0 : 0 ≤ n * 10 % 18446744073709551616 := by omega
                have hlo1 : n * 10 % 18446744073709551616 < 18446744073709551616 := by omega
                have hx3 : 0 ≤ x - 48 := by omega
                generalize n * 10 / 18446744073709551616 = hi at *
                generalize n * 10 % 18446744073709551616 = lo at *
                have ha := Lib.hid (add64_0 lo (x - 48) hlo0 hx3)
                generalize (lo + (x - 48)) / 18446744073709551616 = cy at *
                generalize (lo + (x - 48)) % 18446744073709551616 = sm at *
                clear hd1 hdg hkv hb hmem hx2
                cases ov
                · by_cases hhi : (hi != 0) = true
                  · have hhi2 : (hi == 0) = false := by rw [beq_eq_false_iff_ne]; exact bne_iff_ne.1 hhi
                    go_wp2_with (first
                      | (go_at_call 99; refine (hm.out _).mono ?_; rintro e w3 ⟨rfl, rfl⟩)
                      | simp only [ha.out])
                    go_roundw
                    case rel => exact ⟨k + 1, sm, true, rfl, rfl, by go_num, by omega, HDN.out, by rw [← HVX.out]; have := HKN.out; rw [hhi] at this; exact this, HB.out⟩
                    case measure => simp [intOf]; omega
                  · have hhi2 : (hi == 0) = true := by rw [beq_iff_eq]; simpa using hhi
                    have hhi3 : (hi != 0) = false := by simpa using hhi
                    go_wp2_with (first
                      | (go_at_call 99; refine (hm.out _).mono ?_; rintro e w3 ⟨rfl, rfl⟩)
                      | simp only [ha.out])
                    go_roundw
                    case rel => exact ⟨k + 1, sm, (cy != 0), rfl, rfl, by go_num, by omega, HDN.out, by rw [← HVX.out]; have := HKN.out; rw [hhi3] at this; exact this, HB.out⟩
                    case measure => simp [intOf]; omega
                · go_wp2_with (first
                    | (go_at_call 99; refine (hm.out _).mono ?_; rintro e w3 ⟨rfl, rfl⟩)
                    | simp only [ha.out])
                  go_roundw
                  case rel => exact ⟨k + 1, sm, true, rfl, rfl, by go_num, by omega, HDN.out, by rw [← HVX.out]; exact HKN.out, HB.out⟩
                  case measure => simp [intOf]; omega
              · have hz := HRF.out (fun h => hd1 (h _ hmem))
                obtain ⟨rfl, rfl⟩ := hz
                generalize (r[k].toNat : Int) = x at *
                clear hd1 hdg hkv hb hmem HRT HRF
                rcases hd2 with hd2 | ⟨hd2, hd3⟩
                · go_wp2
                  go_ret2
                  exact ⟨rfl, HW1.out.trans (HB.out.mono (by rw [HW2.out]; omega))⟩
                · go_wp2
                  go_ret2
                  exact ⟨rfl, HW1.out.trans (HB.out.mono (by rw [HW2.out]; omega))⟩
            · obtain rfl : k = r.length := by omega
              rw [List.take_length] at hdg hkv
              obtain ⟨h1, h2⟩ := HRT.out hdg
              have HB := Lib.hid hb
              obtain ⟨hn0, hn1, hov⟩ := hkv
              clear HRT HRF hdg hb
              rcases hov with ⟨rfl, rfl⟩ | ⟨rfl, hov⟩
              · have HSG := Lib.hid (fun w => signed_any w false _ hn0 hn1)
                rw [← h1, ← h2] at HSG
                clear h1 h2
                go_wp2_with (go_at_call 101; refine (HSG.out _).mono ?_; rintro e w3 ⟨rfl, hb3⟩)
                go_ret2
                exact ⟨rfl, (HW1.out.trans (HB.out.mono (by rw [HW2.out]; omega))).trans (hb3.mono (by have := HB.out.size; rw [HW2.out] at this; omega))⟩
              · have hnf : ¬ fits (sgn false (valN r)) := by unfold fits sgn; simp; omega
                have e1 : shortN (sgn false (valN r)) = 0 := by unfold shortN; rw [if_neg hnf]
                have e2 : shortE (sgn false (valN r)) = 2 := by unfold shortE; rw [if_neg hnf]
                rw [e1] at h1
                rw [e2] at h2
                subst h1
                subst h2
                clear e1 e2 hnf hov
                go_wp2
                go_ret2
                exact ⟨rfl, HW1.out.trans (HB.out.mono (by rw [HW2.out]; omega))⟩

end Go.Proofs.YtlgohkdckdnmhaaDoor
/- calc: Print. -/
namespace Go.Proofs.YtlgohkdckdnmhaaDoor
open Go.RowKit Go.Afx

/-- The decimal digits, the highest first. -/
def dig10 (u : Nat) : List UInt8 := if _h : u = 0 then [] else dig10 (u / 10) ++ [UInt8.ofNat (48 + u % 10)]
decreasing_by exact Nat.div_lt_self (by omega) (by omega)
theorem dig10_zero : dig10 0 = [] := by rw [dig10]; simp
theorem dig10_pos (u : Nat) (h : 0 < u) : dig10 u = dig10 (u / 10) ++ [UInt8.ofNat (48 + u % 10)] := by
  rw [dig10, dif_neg (by omega)]
def printL (n : Int) : List UInt8 := if n = 0 then [48] else if n < 0 then 45 :: dig10 n.natAbs else dig10 n.natAbs

theorem digit_toNat (x : Nat) : (UInt8.ofNat (48 + x % 10)).toNat = 48 + x % 10 := by
  rw [UInt8.toNat_ofNat']
  omega
def zb (k : Nat) : List Value := List.replicate k (.int .u8 0)
theorem zb_set (m : Nat) (suf : List UInt8) (c : UInt8) : (zb (m + 1) ++ by8 suf).set m (.int .u8 (c.toNat : Int)) = zb m ++ by8 (c :: suf) := by
  have e : zb (m + 1) ++ by8 suf = zb m ++ ([.int .u8 0] ++ by8 suf) := by
    unfold zb
    rw [List.replicate_succ', List.append_assoc]
  have hl : (zb m).length = m := by simp [zb]
  rw [e, List.set_append_right _ _ (by omega), hl, Nat.sub_self]
  rfl

theorem by8_cells {w : World} {b m : Nat} {t : TypeId} {q : List UInt8} (h : Blk w b t (zb m ++ by8 q)) : ∀ j (hj : j < q.length), w.cell? ((⟨b, m, none⟩ : Addr).add j) = some (.int .u8 (q[j].toNat : Int)) := by
  intro j hj
  have e : (⟨b, m, none⟩ : Addr).add j = ⟨b, m + j, none⟩ := Addr.add_lit _ _ _
  rw [e]
  refine h.cellE (m + j) ?_
  rw [List.getElem?_append_right (by simp [zb])]
  simp [zb, by8, hj]
theorem sl20 (w : World) (b m : Nat) (q : List UInt8) (hq : m + q.length = 20) (h1 : 1 ≤ q.length) :
    (Instr.sliceAt 130 (.pointer (some ⟨b, 0, none⟩)) (some (.int .i64 (m : Int))) none none).run Tryd.prog w = .ok (.slice (some ⟨b, m, none⟩) q.length q.length) w := by
  have ha : Tryd.prog.arrayLen 130 = 20 := by kernel_rfl
  have he : Tryd.prog.elem 130 = 5 := by kernel_rfl
  have hs : ∀ w, (sizeOf (Tryd.prog.elem 130)).run Tryd.prog w = .ok 1 w := fun _ => by kernel_rfl
  have hu : Tryd.prog.underlying 130 = some (.array (Tryd.prog.arrayLen 130) (Tryd.prog.elem 130)) := by kernel_rfl
  rw [run_sliceAt_array_l w _ _ hu .i64 (m : Int) (by omega) (by rw [ha]; omega), hs, ha]
  have e : 20 - m = q.length := by omega
  simp only [Result.andThen, slicedAt, Int.toNat_natCast]
  rw [if_neg (by omega), e, Addr.add_lit, Nat.zero_add, Nat.mul_one]

set_option maxRecDepth 100000 in
theorem print_any (w : World) (n : Int) (hn : fits n) :
    Calls Tryd.prog 73 #[.int .i64 n] w fun e w' => e = .returned (.string ⟨(printL n).toArray⟩) ∧ Below w.heap.size w w' := by
  by_cases h0 : n = 0
  · subst h0
    have e1 : (⟨(printL 0).toArray⟩ : ByteArray) = ⟨#[48]⟩ := by rfl
    rw [e1]
    clear e1 hn
    go_enter Tryd.func73, Tryd.ntmps73
    go_wp2
    go_ret
    exact ⟨rfl, Below.refl _ _⟩
  · have h1 : (n == 0) = false := by rw [beq_eq_false_iff_ne]; exact h0
    have HSZ := Lib.hid (fun w => size_any w n hn)
    have hx := Lib.hid (show n.natAbs < 10 ^ 19 by unfold fits at hn; omega)
    have HP : Hid (printL n = if n < 0 then 45 :: dig10 n.natAbs else dig10 n.natAbs) := by
      have : printL n = if n < 0 then 45 :: dig10 n.natAbs else dig10 n.natAbs := by unfold printL; rw [if_neg h0]
      exact this
    have hu0 : 0 < n.natAbs := by omega
    clear hn h0
    generalize printL n = pl at *
    generalize n.natAbs = u at *
    generalize hw1 : w.alloc (.cells #[.int .u8 0, .int .u8 0, .int .u8 0, .int .u8 0, .int .u8 0, .int .u8 0, .int .u8 0, .int .u8 0, .int .u8 0, .int .u8 0, .int .u8 0, .int .u8 0, .int .u8 0, .int .u8 0, .int .u8 0, .int .u8 0, .int .u8 0, .int .u8 0, .int .u8 0, .int .u8 0] 130) = w1
    have HW1 := Lib.hid hw1
    have HB0 : Hid (Blk w1 w.heap.size 130 (zb 20 ++ by8 [])) := by rw [← hw1]; exact Blk.new w _ (zb 20 ++ by8 [])
    have HL0 : Hid (Below w.heap.size w w1) := by rw [← hw1]; exact (Below.refl _ _).alloc (Nat.le_refl _) _
    have HS0 : Hid (w.heap.size < w1.heap.size) := by rw [← hw1]; show _ < _; simp
    have al : ∀ t, t = 130 → w.alloc (.cells #[.int .u8 0, .int .u8 0, .int .u8 0, .int .u8 0, .int .u8 0, .int .u8 0, .int .u8 0, .int .u8 0, .int .u8 0, .int .u8 0, .int .u8 0, .int .u8 0, .int .u8 0, .int .u8 0, .int .u8 0, .int .u8 0, .int .u8 0, .int .u8 0, .int .u8 0, .int .u8 0] t) = w1 := fun t ht => by subst ht; exact hw1
    clear hw1 al
    go_enter Tryd.func73, Tryd.ntmps73
    go_wp2_with (go_at_call 102; rw [HW1.out]; refine (HSZ.out _).mono ?_; rintro e w2 ⟨rfl, hb2⟩)
    have HB2 : Hid (Blk w2 w.heap.size 130 (zb 20 ++ by8 [])) := HB0.out.below hb2
    have HL2 := Lib.hid (HL0.out.trans (hb2.mono (Nat.le_of_lt HS0.out)))
    clear hb2 HSZ HB0 HL0 HW1 HS0
    go_loopw [4, 5] (fun a x wr => ∃ (m y : Nat) (suf : List UInt8), a = .int .i64 ((m : Int) + 1) ∧ x = .int .u64 (y : Int) ∧ m + suf.length = 19 ∧ y < 10 ^ m ∧ dig10 u = dig10 y ++ suf ∧ Blk wr w.heap.size 130 (zb (m + 1) ++ by8 suf) ∧ Below w.heap.size w wr) (fun _ x _ => (intOf x).toNat)
    case atStart => exact ⟨19, u, [], rfl, rfl, rfl, hx.out, by simp, HB2.out, HL2.out⟩
    case round =>
      obtain ⟨m, y, suf, rfl, rfl, hm, hy, hd, hb, hl⟩ := hrel
      have HB := Lib.hid hb
      have HL := Lib.hid hl
      have HD := Lib.hid hd
      have HY := Lib.hid hy
      by_cases hpos : 0 < y
      · have hm1 : 1 ≤ m := by
          rcases Nat.eq_zero_or_pos m with h | h
          · subst h; simp at hy; omega
          · exact h
        have hp1 : (0 : Int) < y := by omega
        have hp2 : (1 : Int) ≤ m := by omega
        have hp3 : (m : Int) ≤ 19 := by omega
        have hfr : ∀ i, wr.frozen? ⟨w.heap.size, i, none⟩ = false := hb.frozen
        have hcl : wr.cell? ⟨w.heap.size, m, none⟩ = some (.int .u8 0) := by
          refine hb.cellE m ?_
          rw [List.getElem?_append_left (by simp [zb])]
          simp [zb]
        have hwr : IntKind.u64.wrap ((y : Int) / 10) = (y : Int) / 10 := by
          rw [IntKind.wrap_u64]
          have h2 : 10 ^ m ≤ 10 ^ 19 := Nat.pow_le_pow_right (by omega) (by omega)
          have h3 := HY.out
          have h4 : y < 10 ^ 19 := Nat.lt_of_lt_of_le h3 h2
          omega
        clear hb hl hd hy hpos
        go_wp2
        refine ⟨?_, ?_⟩
        · obtain ⟨j, rfl⟩ : ∃ j, m = j + 1 := ⟨m - 1, by omega⟩
          refine ⟨j, y / 10, UInt8.ofNat (48 + y % 10) :: suf, by go_num, by congr 1, by rw [List.length_cons]; omega, ?_, ?_, ?_, HL.out.setCell (Nat.le_refl _) _⟩
          · have := HY.out
            rw [Nat.pow_succ] at this
            exact Nat.div_lt_of_lt_mul (by omega)
          · rw [HD.out, dig10_pos y (by omega), List.append_assoc]; rfl
          · have h2 := HB.out.set (j + 1) (.int .u8 (((UInt8.ofNat (48 + y % 10)).toNat : Nat) : Int))
            rw [zb_set] at h2
            rw [digit_toNat] at h2
            exact h2
        · show ((y : Int) / 10).toNat < (y : Int).toNat
          omega
      · obtain rfl : y = 0 := by omega
        have hd2 : dig10 u = suf := by rw [HD.out, dig10_zero]; rfl
        have hp3 : (m : Int) ≤ 19 := by omega
        have hp4 : (0 : Int) ≤ m := by omega
        have hfr : ∀ i, wr.frozen? ⟨w.heap.size, i, none⟩ = false := hb.frozen
        have hcl : wr.cell? ⟨w.heap.size, m, none⟩ = some (.int .u8 0) := by
          refine hb.cellE m ?_
          rw [List.getElem?_append_left (by simp [zb])]
          simp [zb]
        by_cases hng : n < 0
        · have hpl : pl = 45 :: suf := by rw [HP.out, if_pos hng, hd2]
          have hbs : Blk (wr.setCell ⟨w.heap.size, m, none⟩ (.int .u8 45)) w.heap.size 130 (zb m ++ by8 pl) := by
            rw [hpl, ← zb_set]; exact hb.set m _
          have hln : m + pl.length = 20 := by rw [hpl, List.length_cons]; omega
          have hsl := fun w' => sl20 w' w.heap.size m pl hln (by rw [hpl]; simp)
          have kc := run_convert_bytes_back (P := Tryd.prog) (wr.setCell ⟨w.heap.size, m, none⟩ (.int .u8 45)) 92 9 5 ⟨w.heap.size, m, none⟩ pl.length pl Tryd.underlying92 Tryd.underlying5 Tryd.underlying9 (by8_cells hbs)
          clear hb hl hd hy hpos HY hd2 hbs hpl hln HP
          go_wp2
          go_ret
          exact ⟨rfl, HL.out.setCell (Nat.le_refl _) _⟩
        · have hng2 : 0 ≤ n := by omega
          have hpl : pl = suf := by rw [HP.out, if_neg hng, hd2]
          subst hpl
          have hl1 : 1 ≤ pl.length := by rw [← hd2, dig10_pos u hu0]; simp
          have hsl := fun w' => sl20 w' w.heap.size (m + 1) pl (by omega) hl1
          have kc := run_convert_bytes_back (P := Tryd.prog) wr 92 9 5 ⟨w.heap.size, m + 1, none⟩ pl.length pl Tryd.underlying92 Tryd.underlying5 Tryd.underlying9 (by8_cells hb)
          rw [show ((m + 1 : Nat) : Int) = (m : Int) + 1 from by omega] at hsl
          clear hb hl hd hy hpos HY hd2 HP hng
          go_wp2
          go_ret
          exact ⟨rfl, HL.out⟩
end Go.Proofs.YtlgohkdckdnmhaaDoor
/- Prints of values; the document's examples. -/
namespace Go.Proofs.YtlgohkdckdnmhaaDoor
open Go.RowKit Go.Afx

def trueL : List UInt8 := [116, 114, 117, 101]
def falseL : List UInt8 := [102, 97, 108, 115, 101]
/-- A right value's print. -/
def prB (v : AV) : List UInt8 := if v.kind = 1 then printL v.n else if v.kind = 2 then 39 :: (esc 39 [39, 39] v.s.data.toList ++ [39]) else if v.n = 1 then trueL else falseL
def printV (v : AV) : List UInt8 := if v.right then prB v else []

set_option maxRecDepth 100000 in
theorem print_val (w : World) (hm : Mx w) (v : AV) (hf : fit64 v.n) : Calls Tryd.prog 37 #[v.agg] w fun e w' => e = .returned (.string (bs (printV v))) ∧ Below w.heap.size w w' := by
  have HW := Lib.hid (fun w => wrong_any w v)
  have hal : Below w.heap.size w (w.alloc (.cells #[.int .i64 v.kind, .int .i64 v.n, .string v.s] 27)) := (Below.refl _ _).alloc (Nat.le_refl _) _
  have hk : Blk (w.alloc (.cells #[.int .i64 v.kind, .int .i64 v.n, .string v.s] 27)) w.heap.size 27 v.cells := Blk.new w _ _
  have HAL := Lib.hid hal
  have HK := Lib.hid hk
  have HM := Lib.hid hm
  clear hal hk hm
  unfold printV
  cases hr : v.right
  · rw [hr] at HW
    have e1 : bs (if (false = true) then prB v else []) = ⟨#[]⟩ := rfl
    rw [e1]
    obtain ⟨k, n, s⟩ := v
    simp only [AV.agg] at HW HAL ⊢
    clear hr hf e1
    go_enter Tryd.func37, Tryd.ntmps37
    go_wp2_with (go_at_call 62; refine (HW.out _).mono ?_; clear HW; rintro e w2 ⟨rfl, hb2⟩; have HB2 := Lib.hid (HAL.out.trans (hb2.mono HAL.out.size)); clear hb2)
    go_ret
    exact ⟨rfl, HB2.out⟩
  · rw [hr] at HW
    rw [if_pos rfl]
    have hcell : Hid (∀ w2, Below (w.alloc (.cells #[.int .i64 v.kind, .int .i64 v.n, .string v.s] 27)).heap.size (w.alloc (.cells #[.int .i64 v.kind, .int .i64 v.n, .string v.s] 27)) w2 → w2.cell? ⟨w.heap.size, 0, none⟩ = some (.int .i64 v.kind) ∧ w2.cell? ⟨w.heap.size, 1, none⟩ = some (.int .i64 v.n) ∧ w2.cell? ⟨w.heap.size, 2, none⟩ = some (.string v.s)) :=
      fun w2 h => ⟨(HK.out.below h).cell 0, (HK.out.below h).cell 1, (HK.out.below h).cell 2⟩
    obtain ⟨k, n, s⟩ := v
    unfold AV.right at hr
    simp only [AV.agg] at HW HAL hr hcell ⊢
    simp only at hf
    unfold prB
    simp only
    by_cases h1 : k = 1
    · subst h1
      rw [if_pos rfl]
      have HP := Lib.hid (fun w => print_any w n hf)
      clear hr hf HK
      go_enter Tryd.func37, Tryd.ntmps37
      go_wp2_with (first
        | (go_at_call 62; refine (HW.out _).mono ?_; clear HW; rintro e w2 ⟨rfl, hb2⟩; obtain ⟨t0, t1, t2⟩ := hcell.out w2 hb2; have HB2 := Lib.hid (HAL.out.trans (hb2.mono HAL.out.size)); clear hb2)
        | (go_at_call 73; refine (HP.out _).mono ?_; clear HP; rintro e w3 ⟨rfl, hb3⟩; have HB3 := Lib.hid (HB2.out.trans (hb3.mono HB2.out.size)); clear hb3))
      go_ret
      exact ⟨rfl, HB3.out⟩
    rw [if_neg h1]
    by_cases h2 : k = 2
    · subst h2
      rw [if_pos rfl]
      simp at hr
      have e39 : (⟨#[39]⟩ : ByteArray).data.toList = [39] := rfl
      have e392 : (⟨#[39, 39]⟩ : ByteArray).data.toList = [39, 39] := rfl
      have HR := Lib.hid (fun (w : World) (h : Mx w) => repl_any w h s ⟨#[39]⟩ ⟨#[39, 39]⟩ (by omega) (by decide) (by decide))
      rw [e39, e392, replaceAll_one 39 [39, 39] (by decide)] at HR
      have hel := (esc_length 39 39 39 s.data.toList).1
      have hsz := size_list s _ rfl
      generalize esc 39 [39, 39] s.data.toList = x at *
      have c1 : (⟨#[39]⟩ : ByteArray) ++ bs x = bs (39 :: x) := bs_append [39] x
      have c2 : bs (39 :: x) ++ (⟨#[39]⟩ : ByteArray) = bs (39 :: (x ++ [39])) := by rw [← List.cons_append]; exact bs_append (39 :: x) [39]
      have l1 : (⟨#[39]⟩ : ByteArray).size = 1 := rfl
      have s1 : (⟨#[39]⟩ : ByteArray).size + (bs x).size ≤ 9223372036854775807 := by rw [l1, bs_size]; omega
      have s2 : (bs (39 :: x)).size + (⟨#[39]⟩ : ByteArray).size ≤ 9223372036854775807 := by rw [l1, bs_size, List.length_cons]; omega
      generalize hS3 : bs (39 :: (x ++ [39])) = S3 at *
      generalize bs (39 :: x) = S2 at *
      generalize bs x = S1 at *
      have HS3 := Lib.hid hS3
      clear hr hf HK h1 e39 e392 hel hsz l1 hS3
      go_enter Tryd.func37, Tryd.ntmps37
      go_wp2_with (first
        | (go_at_call 62; refine (HW.out _).mono ?_; clear HW; rintro e w2 ⟨rfl, hb2⟩; obtain ⟨t0, t1, t2⟩ := hcell.out w2 hb2; have HB2 := Lib.hid (HAL.out.trans (hb2.mono HAL.out.size)); have HM2 := Lib.hid (HM.out.below HB2.out); clear hb2)
        | (go_at_call 71; refine (HR.out _ HM2.out).mono ?_; clear HR; rintro e w3 ⟨rfl, hb3⟩; have HB3 := Lib.hid (HB2.out.trans (hb3.mono HB2.out.size)); clear hb3))
      go_ret
      exact ⟨rfl, HB3.out⟩
    rw [if_neg h2]
    have k1 : (k == 1) = false := by rw [beq_eq_false_iff_ne]; exact h1
    have k2 : (k == 2) = false := by rw [beq_eq_false_iff_ne]; exact h2
    by_cases h3 : n = 1
    · subst h3
      rw [if_pos rfl]
      clear hr hf HK
      go_enter Tryd.func37, Tryd.ntmps37
      go_wp2_with (go_at_call 62; refine (HW.out _).mono ?_; clear HW; rintro e w2 ⟨rfl, hb2⟩; obtain ⟨t0, t1, t2⟩ := hcell.out w2 hb2; have HB2 := Lib.hid (HAL.out.trans (hb2.mono HAL.out.size)); clear hb2)
      go_ret
      exact ⟨rfl, HB2.out⟩
    · rw [if_neg h3]
      have k3 : (n == 1) = false := by rw [beq_eq_false_iff_ne]; exact h3
      clear hr hf HK
      go_enter Tryd.func37, Tryd.ntmps37
      go_wp2_with (go_at_call 62; refine (HW.out _).mono ?_; clear HW; rintro e w2 ⟨rfl, hb2⟩; obtain ⟨t0, t1, t2⟩ := hcell.out w2 hb2; have HB2 := Lib.hid (HAL.out.trans (hb2.mono HAL.out.size)); clear hb2)
      go_ret
      exact ⟨rfl, HB2.out⟩

/-- A row of one's own, in a new block. -/
theorem lit_row (w : World) (l : List AV) (h : l.length ≤ 1000) : Sl (w.alloc (.cells (rowCells l).toArray 27)) (fun _ => True) 3 (.slice (some ⟨w.heap.size, 0, none⟩) l.length l.length) l.length (rowCells l) := by
  have h1 : Ones (rowCells l) := by
    intro u hu
    obtain ⟨c, hc, huc⟩ := List.mem_flatten.1 hu
    obtain ⟨a, _, rfl⟩ := List.mem_map.1 hc
    simp [AV.cells] at huc
    rcases huc with rfl | rfl | rfl <;> rfl
  have := Own.made w 27 3 (rowCells l) [] l.length l.length (rowCells_length l) h1 (Nat.le_refl _) (by unfold maxLen; omega) (by rw [List.append_nil, rowCells_length]; exact Nat.le_refl _)
  rw [List.append_nil] at this
  exact this.sl (fun _ _ => trivial)

theorem nil_right : (⟨#[]⟩ : ByteArray).toList.isEmpty = true := toList_list _ [] rfl
theorem pr_its : printV ⟨2, 0, ⟨#[105, 116, 39, 115]⟩⟩ = [39, 105, 116, 39, 39, 115, 39] := by
  have h : AV.right ⟨2, 0, ⟨#[105, 116, 39, 115]⟩⟩ = true := by unfold AV.right; simp only; rfl
  unfold printV
  rw [h]; rfl
theorem pr_true : printV ⟨3, 1, ⟨#[]⟩⟩ = [116, 114, 117, 101] := by
  have h : AV.right ⟨3, 1, ⟨#[]⟩⟩ = true := by unfold AV.right; simp only; rw [nil_right]; rfl
  unfold printV
  rw [h]; rfl
theorem key_one : rowKey [⟨1, 1, ⟨#[]⟩⟩, ⟨2, 0, ⟨#[97]⟩⟩] = [1, 128, 0, 0, 0, 0, 0, 0, 1, 2, 97, 0, 1] := by
  have h : rightAll [⟨1, 1, ⟨#[]⟩⟩, ⟨2, 0, ⟨#[97]⟩⟩] = true := by
    unfold rightAll AV.right
    simp only [List.all_cons, List.all_nil]
    rw [nil_right]; rfl
  unfold rowKey
  rw [h]; rfl
theorem int_val (w : World) (n : Int) : Calls Tryd.prog 21 #[.int .i64 n] w fun e w' => e = .returned (.agg #[.int .i64 1, .int .i64 n, .string ⟨#[]⟩]) ∧ Below w.heap.size w w' := by
  go_enter Tryd.func21, Tryd.ntmps21
  go_wp2
  refine bodyPost_ret (v := .agg #[.int .i64 1, .int .i64 n, .string ⟨#[]⟩]) (by simp [results, Tryd.results21, go_sem]) rfl ⟨rfl, ?_⟩
  repeat (with_reducible first | exact Below.refl _ _ | apply Below.drew | (refine Below.alloc ?_ (by first | omega | (simp; omega) | simp) _) | (refine Below.setCell ?_ (by first | omega | (simp; omega) | simp) _))
theorem text_val (w : World) (s : ByteArray) : Calls Tryd.prog 22 #[.string s] w fun e w' => e = .returned (.agg #[.int .i64 2, .int .i64 0, .string s]) ∧ Below w.heap.size w w' := by
  go_enter Tryd.func22, Tryd.ntmps22
  go_wp2
  refine bodyPost_ret (v := .agg #[.int .i64 2, .int .i64 0, .string s]) (by simp [results, Tryd.results22, go_sem]) rfl ⟨rfl, ?_⟩
  repeat (with_reducible first | exact Below.refl _ _ | apply Below.drew | (refine Below.alloc ?_ (by first | omega | (simp; omega) | simp) _) | (refine Below.setCell ?_ (by first | omega | (simp; omega) | simp) _))
theorem bool_val (w : World) (b : Bool) : Calls Tryd.prog 23 #[.bool b] w fun e w' => e = .returned (.agg #[.int .i64 3, .int .i64 (if b then 1 else 0), .string ⟨#[]⟩]) ∧ Below w.heap.size w w' := by
  cases b
  · go_enter Tryd.func23, Tryd.ntmps23
    go_wp2
    refine bodyPost_ret (v := .agg #[.int .i64 3, .int .i64 0, .string ⟨#[]⟩]) (by simp [results, Tryd.results23, go_sem]) rfl ⟨rfl, ?_⟩
    repeat (with_reducible first | exact Below.refl _ _ | apply Below.drew | (refine Below.alloc ?_ (by first | omega | (simp; omega) | simp) _) | (refine Below.setCell ?_ (by first | omega | (simp; omega) | simp) _))
  · go_enter Tryd.func23, Tryd.ntmps23
    go_wp2
    refine bodyPost_ret (v := .agg #[.int .i64 3, .int .i64 1, .string ⟨#[]⟩]) (by simp [results, Tryd.results23, go_sem]) rfl ⟨rfl, ?_⟩
    repeat (with_reducible first | exact Below.refl _ _ | apply Below.drew | (refine Below.alloc ?_ (by first | omega | (simp; omega) | simp) _) | (refine Below.setCell ?_ (by first | omega | (simp; omega) | simp) _))
theorem bs_toList (l : List UInt8) : (bs l).toList = l := by rw [ByteArray.toList_eq, bs_data]

set_option maxRecDepth 100000 in
theorem vawake (w : World) (hm : Mx w) : Calls Tryd.prog 14 #[] w fun e w' => e = .returned (.bool true) ∧ Below w.heap.size w w' := by
  have HM := Lib.hid hm
  have hk := fun (w : World) (h : Mx w) => key_any (w.alloc (.cells (rowCells [⟨1, 1, ⟨#[]⟩⟩, ⟨2, 0, ⟨#[97]⟩⟩]).toArray 27)) (h.below ((Below.refl _ _).alloc (Nat.le_refl _) _)) _ _ [⟨1, 1, ⟨#[]⟩⟩, ⟨2, 0, ⟨#[97]⟩⟩] (lit_row w _ (by decide)) (by simp [fit64]) (by decide)
  rw [key_one] at hk
  have h1 := fun (w : World) (h : Mx w) => print_val w h ⟨2, 0, ⟨#[105, 116, 39, 115]⟩⟩ (by simp [fit64])
  rw [pr_its] at h1
  have h2 := fun (w : World) (h : Mx w) => print_val w h ⟨3, 1, ⟨#[]⟩⟩ (by simp [fit64])
  rw [pr_true] at h2
  have HK := Lib.hid hk
  have H1 := Lib.hid h1
  have H2 := Lib.hid h2
  clear hm hk h1 h2
  have HI := Lib.hid (fun w => int_val w 1)
  have HT1 := Lib.hid (fun w => text_val w ⟨#[97]⟩)
  have HT2 := Lib.hid (fun w => text_val w ⟨#[105, 116, 39, 115]⟩)
  have HBo := Lib.hid (fun w => bool_val w true)
  rw [if_pos rfl] at HBo
  have k1 : ((bs [1, 128, 0, 0, 0, 0, 0, 0, 1, 2, 97, 0, 1]).toList == [1, 128, 0, 0, 0, 0, 0, 0, 1, 2, 97, 0, 1]) = true := by rw [bs_toList]; decide
  have k2 : ((bs [39, 105, 116, 39, 39, 115, 39]).toList == [39, 105, 116, 39, 39, 115, 39]) = true := by rw [bs_toList]; decide
  have k3 : ((bs [116, 114, 117, 101]).toList == [116, 114, 117, 101]) = true := by rw [bs_toList]; decide
  go_enter Tryd.func14, Tryd.ntmps14
  go_wp2_with fail
  refine (HI.out _).mono ?_
  rintro e w1 ⟨rfl, hb1⟩
  have HB1 := Lib.hid hb1
  clear hb1 HI
  go_wp2_with fail
  refine (HT1.out _).mono ?_
  rintro e w2 ⟨rfl, hb2⟩
  have HB2 := Lib.hid (HB1.out.trans (hb2.mono HB1.out.size))
  clear hb2 HT1
  go_wp2_with fail
  refine (HK.out _ (HM.out.below HB2.out)).mono ?_
  rintro e w3 ⟨rfl, hb3⟩
  have hz := HB2.out.alloc HB2.out.size (.cells (rowCells [⟨1, 1, ⟨#[]⟩⟩, ⟨2, 0, ⟨#[97]⟩⟩]).toArray 27)
  have HB3 := Lib.hid (hz.trans (hb3.mono hz.size))
  clear hb3 HK hz
  go_wp2_with fail
  refine (HT2.out _).mono ?_
  rintro e w4 ⟨rfl, hb4⟩
  have HB4 := Lib.hid (HB3.out.trans (hb4.mono HB3.out.size))
  clear hb4 HT2
  go_wp2_with fail
  refine (H1.out _ (HM.out.below HB4.out)).mono ?_
  rintro e w5 ⟨rfl, hb5⟩
  have HB5 := Lib.hid (HB4.out.trans (hb5.mono HB4.out.size))
  clear hb5 H1
  go_wp2_with fail
  refine (HBo.out _).mono ?_
  rintro e w6 ⟨rfl, hb6⟩
  have HB6 := Lib.hid (HB5.out.trans (hb6.mono HB5.out.size))
  clear hb6 HBo
  go_wp2_with fail
  refine (H2.out _ (HM.out.below HB6.out)).mono ?_
  rintro e w7 ⟨rfl, hb7⟩
  have HB7 := Lib.hid (HB6.out.trans (hb7.mono HB6.out.size))
  clear hb7 H2
  go_wp2
  go_ret
  exact ⟨rfl, HB7.out⟩
end Go.Proofs.YtlgohkdckdnmhaaDoor
/- The laws CalcEnds and CalcRests: what the walks show. -/
namespace Go.Proofs.YtlgohkdckdnmhaaDoor
open Go.RowKit Go.Afx

theorem wf_fits {n : Int} (h : (Lit.int .i64 n).wf = true) : fits n := by
  have h2 : -9223372036854775808 ≤ n ∧ n ≤ 9223372036854775807 := by simpa [Lit.wf, IntKind.min, IntKind.max, IntKind.bits, IntKind.signed] using h
  exact h2

theorem open_i64s {H : Type} {enc : TypeId × Value → H} {w : World} {v : Value} {d : DataW H} {ps : List MemPlace} (h : DataW.Trod enc Tryd.prog w 0 (fun _ => true) true 171 v d ps) (hv : v.cells.toList = [v]) :
    ∃ l : List Int, Sl w (fun _ => True) 1 v l.length (ints l) ∧ ∀ x ∈ l, fits x := by
  obtain ⟨fuel, hf⟩ := h
  rw [hv] at hf
  obtain ⟨l, h1, h2⟩ := open_ints_sl Tryd.underlying171 Tryd.underlying2 (by kernel_rfl) hf
  exact ⟨l, h1, fun x hx => wf_fits (h2 x hx)⟩

theorem minI_spec : ∀ (l : List Int) (a : Int), (minI a l = a ∨ minI a l ∈ l) ∧ minI a l ≤ a ∧ ∀ x ∈ l, minI a l ≤ x
  | [], a => ⟨.inl rfl, Int.le_refl _, by simp⟩
  | x :: l, a => by
    obtain ⟨h1, h2, h3⟩ := minI_spec l (min a x)
    have e : minI a (x :: l) = minI (min a x) l := rfl
    rw [e]
    refine ⟨?_, by omega, fun y hy => ?_⟩
    · rcases h1 with h1 | h1
      · by_cases hx : a ≤ x
        · exact .inl (by omega)
        · exact .inr (by rw [h1, show min a x = x by omega]; simp)
      · exact .inr (by simp [h1])
    · rcases List.mem_cons.1 hy with rfl | hy
      · omega
      · exact h3 y hy
theorem maxI_spec : ∀ (l : List Int) (a : Int), (maxI a l = a ∨ maxI a l ∈ l) ∧ a ≤ maxI a l ∧ ∀ x ∈ l, x ≤ maxI a l
  | [], a => ⟨.inl rfl, Int.le_refl _, by simp⟩
  | x :: l, a => by
    obtain ⟨h1, h2, h3⟩ := maxI_spec l (max a x)
    have e : maxI a (x :: l) = maxI (max a x) l := rfl
    rw [e]
    refine ⟨?_, by omega, fun y hy => ?_⟩
    · rcases h1 with h1 | h1
      · by_cases hx : x ≤ a
        · exact .inl (by omega)
        · exact .inr (by rw [h1, show max a x = x by omega]; simp)
      · exact .inr (by simp [h1])
    · rcases List.mem_cons.1 hy with rfl | hy
      · omega
      · exact h3 y hy

/-- Is it one of the first? -/
def seen (m a : Int) (l : List Int) (k : Nat) : Bool := decide (m = a ∨ m ∈ l.take k)
theorem seen_zero (m a : Int) (l : List Int) : seen m a l 0 = (m == a) := by
  rw [Bool.eq_iff_iff]; simp [seen]
theorem seen_next (m a : Int) (l : List Int) (k : Nat) (h : k < l.length) : seen m a l (k + 1) = (seen m a l k || m == l[k]) := by
  rw [Bool.eq_iff_iff]
  unfold seen
  rw [← List.take_append_getElem h, Bool.or_eq_true, decide_eq_true_iff, decide_eq_true_iff, List.mem_append, List.mem_singleton, beq_iff_eq, or_assoc]

theorem lit_i64s (w : World) (l : List Int) (h : l.length ≤ 1000) : Sl (w.alloc (.cells (ints l).toArray 2)) (fun _ => True) 1 (.slice (some ⟨w.heap.size, 0, none⟩) l.length l.length) l.length (ints l) := by
  have := Own.made w 2 1 (ints l) [] l.length l.length (by simp [ints]) (ints_ones l) (Nat.le_refl _) (by unfold maxLen; omega) (by simp [ints])
  have h2 : Own (w.alloc (.cells (ints l).toArray 2)) 2 1 (.slice (some ⟨w.heap.size, 0, none⟩) l.length l.length) l.length (ints l) := by simpa using this
  exact h2.sl (fun k hk => trivial)

theorem rests_law (a b : Int) :
    dvE a b = 2 ∨ dvE a b = 3 ∨ (dvE a b = 0 ∧ mdE b = 0 ∧ dvN a b * b + mdN a b = a ∧ (0 < b ∧ 0 ≤ mdN a b ∧ mdN a b < b ∨ b < 0 ∧ mdN a b ≤ 0 ∧ b < mdN a b)) := by
  by_cases h0 : b = 0
  · subst h0; exact .inr (.inl rfl)
  by_cases h1 : b = -1
  · subst h1
    by_cases hf : fits (-a)
    · refine .inr (.inr ⟨?_, rfl, ?_, .inr ⟨by decide, by simp [mdN], by simp [mdN]⟩⟩)
      · simp [dvE, shortE, hf]
      · simp [dvN, mdN, shortN, hf]
    · left; simp [dvE, shortE, hf]
  · refine .inr (.inr ⟨by simp [dvE, h0, h1], by simp [mdE, h0], ?_, ?_⟩)
    · simp only [dvN, mdN, if_neg h0, if_neg h1]
      rw [Int.mul_comm]; exact Int.mul_fdiv_add_fmod a b
    · simp only [mdN, if_neg h0, if_neg h1]
      by_cases hb : 0 < b
      · exact .inl ⟨hb, Int.fmod_nonneg_of_pos a hb, Int.fmod_lt_of_pos a hb⟩
      · right
        have h2 := Int.fmod_nonneg_of_pos (-a) (show 0 < -b by omega)
        have h3 := Int.fmod_lt_of_pos (-a) (show 0 < -b by omega)
        rw [Int.neg_fmod_neg] at h2 h3
        omega

end Go.Proofs.YtlgohkdckdnmhaaDoor
/- The law CalcBack: what the walk shows. -/
namespace Go.Proofs.YtlgohkdckdnmhaaDoor
open Go.RowKit Go.Afx

theorem dig10_val (u : Nat) : valN (dig10 u) = u := by
  induction u using Nat.strongRecOn with
  | ind u ih =>
    rcases Nat.eq_zero_or_pos u with h | h
    · subst h; rw [dig10_zero]; rfl
    · rw [dig10_pos u h]
      unfold valN
      rw [List.foldl_append]
      have := ih (u / 10) (Nat.div_lt_self h (by omega))
      unfold valN at this
      rw [this, List.foldl_cons, List.foldl_nil, digit_toNat]
      omega
theorem dig10_digs (u : Nat) : ∀ c ∈ dig10 u, dig c := by
  induction u using Nat.strongRecOn with
  | ind u ih =>
    rcases Nat.eq_zero_or_pos u with h | h
    · subst h; rw [dig10_zero]; simp
    · rw [dig10_pos u h]
      intro c hc
      rcases List.mem_append.1 hc with hc | hc
      · exact ih (u / 10) (Nat.div_lt_self h (by omega)) c hc
      · rw [List.mem_singleton.1 hc]
        unfold dig
        rw [digit_toNat]
        omega
theorem dig10_head (u : Nat) (h : 0 < u) : ∃ c t, dig10 u = c :: t ∧ c ≠ 48 := by
  induction u using Nat.strongRecOn with
  | ind u ih =>
    rw [dig10_pos u h]
    rcases Nat.eq_zero_or_pos (u / 10) with h2 | h2
    · rw [h2, dig10_zero]
      refine ⟨_, [], rfl, ?_⟩
      intro h3
      have := digit_toNat u
      rw [h3] at this
      have h4 : (48 : UInt8).toNat = 48 := rfl
      omega
    · obtain ⟨c, t, h3, h4⟩ := ih (u / 10) (Nat.div_lt_self h (by omega)) h2
      exact ⟨c, t ++ _, by rw [h3]; rfl, h4⟩
theorem dig10_len (k : Nat) : ∀ u, u < 10 ^ k → (dig10 u).length ≤ k := by
  induction k with
  | zero => intro u hu; have : u = 0 := by simpa using hu
            subst this; rw [dig10_zero]; simp
  | succ k ih =>
    intro u hu
    rcases Nat.eq_zero_or_pos u with h | h
    · subst h; rw [dig10_zero]; simp
    · rw [dig10_pos u h, List.length_append]
      have := ih (u / 10) (Nat.div_lt_of_lt_mul (by rw [Nat.pow_succ] at hu; omega))
      simp
      exact this

theorem right_dig10 (ng : Bool) (u : Nat) (h : 0 < u) : right ng (dig10 u) := by
  obtain ⟨c, t, h1, h2⟩ := dig10_head u h
  refine ⟨?_, dig10_digs u⟩
  rw [h1]
  simp [headOk, h2]

theorem prs_print (n : Int) (hn : fits n) : prsN (printL n) = n ∧ prsE (printL n) = 0 ∧ (printL n).length ≤ 1000 := by
  have hf : shortN n = n ∧ shortE n = 0 := by unfold shortN shortE; rw [if_pos hn, if_pos hn]; exact ⟨rfl, rfl⟩
  have hlen := dig10_len 19 n.natAbs (by unfold fits at hn; omega)
  unfold printL
  by_cases h0 : n = 0
  · subst h0; exact ⟨by rfl, by rfl, by decide⟩
  · rw [if_neg h0]
    by_cases hneg : n < 0
    · rw [if_pos hneg]
      have e : splitL (45 :: dig10 n.natAbs) = (dig10 n.natAbs, true) := rfl
      have hr := right_dig10 true n.natAbs (by omega)
      have hz : sgn true (n.natAbs : Int) = n := by unfold sgn; simp; omega
      unfold prsN prsE numN numE
      simp only [e]
      rw [if_pos hr, if_pos hr, dig10_val, hz]
      exact ⟨hf.1, hf.2, by rw [List.length_cons]; omega⟩
    · rw [if_neg hneg]
      have hr := right_dig10 false n.natAbs (by omega)
      obtain ⟨c, t, h1, h2⟩ := dig10_head n.natAbs (by omega)
      have hd := dig10_digs n.natAbs c (by rw [h1]; simp)
      have h45 : c ≠ 45 := by intro h; subst h; unfold dig at hd; exact absurd hd (by decide)
      have e : splitL (dig10 n.natAbs) = (dig10 n.natAbs, false) := by rw [h1]; simp [splitL, h45]
      have hz : sgn false (n.natAbs : Int) = n := by unfold sgn; simp; omega
      unfold prsN prsE numN numE
      simp only [e]
      rw [if_pos hr, if_pos hr, dig10_val, hz]
      exact ⟨hf.1, hf.2, by omega⟩

end Go.Proofs.YtlgohkdckdnmhaaDoor
/- Values parsed. -/
namespace Go.Proofs.YtlgohkdckdnmhaaDoor
open Go.RowKit Go.Afx

def zeroV : AV := ⟨0, 0, ⟨#[]⟩⟩
def chkV (v : AV) (l : List UInt8) : AV × Int := if v.right && (prB v == l) then (v, 0) else (zeroV, 12)
def midL (l : List UInt8) : List UInt8 := (l.drop 1).take (l.length - 2)
def isText (l : List UInt8) : Bool := decide (2 ≤ l.length) && (l.head? == some 39)
def prsV (l : List UInt8) : AV × Int :=
  if l == trueL then (⟨3, 1, ⟨#[]⟩⟩, 0) else if l == falseL then (⟨3, 0, ⟨#[]⟩⟩, 0)
  else if isText l then chkV ⟨2, 0, bs (unpair 39 (midL l))⟩ l else if prsE l = 0 then chkV ⟨1, prsN l, ⟨#[]⟩⟩ l else (zeroV, 12)
theorem chkV_print (v : AV) (l : List UInt8) : chkV v l = if v.right && (printV v == l) then (v, 0) else (zeroV, 12) := by
  unfold chkV printV
  cases v.right <;> rfl

theorem eq_lit (s : ByteArray) (l : List UInt8) (hs : s.data.toList = l) (x : List UInt8) : (s.toList == x) = (l == x) := by rw [ByteArray.toList_eq, hs]
theorem right_true : AV.right ⟨3, 1, ⟨#[]⟩⟩ = true := by
  unfold AV.right
  simp only
  rw [nil_right]; rfl
theorem right_false : AV.right ⟨3, 0, ⟨#[]⟩⟩ = true := by
  unfold AV.right
  simp only
  rw [nil_right]; rfl
theorem right_int (n : Int) : AV.right ⟨1, n, ⟨#[]⟩⟩ = true := by
  unfold AV.right
  simp only
  rw [nil_right]; rfl
theorem pr_false : printV ⟨3, 0, ⟨#[]⟩⟩ = [102, 97, 108, 115, 101] := by
  unfold printV
  rw [right_false]; rfl

theorem blk3 {w : World} {b : Nat} {t : TypeId} {x y z : Value} (h : Blk w b t [x, y, z]) : w.cell? ⟨b, 0, none⟩ = some x ∧ w.cell? ⟨b, 1, none⟩ = some y ∧ w.cell? ⟨b, 2, none⟩ = some z ∧ ∀ i, w.frozen? ⟨b, i, none⟩ = false :=
  ⟨h.cell 0, h.cell 1, h.cell 2, h.frozen⟩

theorem slice_mid (s : ByteArray) (i j : Nat) (h1 : i ≤ j) (h2 : j ≤ s.size) (w : World) : (Instr.slice 9 (.string s) (some (.int .i64 (i : Int))) (some (.int .i64 (j : Int))) none).run Tryd.prog w = .ok (.string (s.extract i j)) w := by
  have e1 : ((i : Int)).toNat = i := by omega
  have e2 : ((j : Int)).toNat = j := by omega
  simp [Instr.slice, run_underlying Tryd.underlying9, Instr.sliceBounds, run_sliceBound, h1, h2, e1, e2]

--BEGIN GEN
set_option maxRecDepth 100000 in
set_option maxHeartbeats 2000000 in
theorem parse_val (w : World) (hm : Mx w) (s : ByteArray) (l : List UInt8) (hs : s.data.toList = l) (hl : l.length ≤ 1000) :
    Calls Tryd.prog 36 #[.string s] w fun e w' => e = .returned (.tuple #[(prsV l).1.agg, .int .i64 (prsV l).2]) ∧ Below w.heap.size w w' := by
  have e1 := eq_lit s l hs [116, 114, 117, 101]
  have e2 := eq_lit s l hs [102, 97, 108, 115, 101]
  have HM := Lib.hid hm
  have hsz := size_list s l hs
  obtain ⟨out, hout⟩ : ∃ out, prsV l = out := ⟨_, rfl⟩
  rw [hout]
  have HO := Lib.hid hout
  have HS := Lib.hid hs
  have hb00 : Below w.heap.size w (w.alloc (.cells #[.int .i64 0, .int .i64 0, .string ⟨#[]⟩] 27)) := (Below.refl _ _).alloc (Nat.le_refl _) _
  have hw1 : (w.alloc (.cells #[.int .i64 0, .int .i64 0, .string ⟨#[]⟩] 27)).heap.size = w.heap.size + 1 := by simp
  have HB0 := Lib.hid (hb00.alloc hb00.size (.cells #[.int .i64 0, .int .i64 0, .string ⟨#[]⟩] 27))
  have k10 : Blk ((w.alloc (.cells #[.int .i64 0, .int .i64 0, .string ⟨#[]⟩] 27)).alloc (.cells #[.int .i64 0, .int .i64 0, .string ⟨#[]⟩] 27)) w.heap.size 27 [.int .i64 0, .int .i64 0, .string ⟨#[]⟩] := (Blk.new w 27 [.int .i64 0, .int .i64 0, .string ⟨#[]⟩]).alloc _
  have k20 : Blk ((w.alloc (.cells #[.int .i64 0, .int .i64 0, .string ⟨#[]⟩] 27)).alloc (.cells #[.int .i64 0, .int .i64 0, .string ⟨#[]⟩] 27)) (w.heap.size + 1) 27 [.int .i64 0, .int .i64 0, .string ⟨#[]⟩] := hw1 ▸ Blk.new _ 27 [.int .i64 0, .int .i64 0, .string ⟨#[]⟩]
  have K10 := Lib.hid k10
  have K20 := Lib.hid k20
  clear hm hout hb00 hw1 k10 k20 hs
  by_cases h1 : l = trueL
  · have hb1 : (l == [116, 114, 117, 101]) = true := by rw [h1]; rfl
    rw [hb1] at e1
    have HOUT : Hid (out = (⟨3, 1, ⟨#[]⟩⟩, 0)) := by
      show _ = _
      rw [← HO.out]; unfold prsV
      rw [if_pos (by rw [h1]; rfl)]
    have hcb := fun w => bool_val w true
    rw [if_pos rfl] at hcb
    have HCB := Lib.hid hcb
    have hw := fun w => wrong_any w ⟨3, 1, ⟨#[]⟩⟩
    rw [right_true] at hw
    have HW := Lib.hid hw
    have hp := fun w h => print_val w h ⟨3, 1, ⟨#[]⟩⟩ (by simp [fit64])
    rw [pr_true] at hp
    have HP := Lib.hid hp
    have hne : ((bs [116, 114, 117, 101]).toList == s.toList) = true := by
      rw [bs_toList, ByteArray.toList_eq, HS.out, h1]; rfl
    clear hcb hw hp e2 hb1 h1
    simp only [AV.agg] at HW HP
    go_enter Tryd.func36, Tryd.ntmps36
    go_wp2_with fail
    refine (HCB.out _).mono ?_
    rintro e w2 ⟨rfl, hb2⟩
    have K12 := Lib.hid (K10.out.below hb2)
    have K22 := Lib.hid (K20.out.below hb2)
    have HB2 := Lib.hid (HB0.out.trans (hb2.mono HB0.out.size))
    clear hb2
    obtain ⟨a0, a1, a2, af⟩ := blk3 K12.out
    obtain ⟨b0, b1, b2, bf⟩ := blk3 K22.out
    have K13 := Lib.hid (((K12.out.setOther (p := ⟨w.heap.size + 1, 0, none⟩) (by simp) (.int .i64 3)).setOther (p := ⟨w.heap.size + 1, 1, none⟩) (by simp) (.int .i64 (1))).setOther (p := ⟨w.heap.size + 1, 2, none⟩) (by simp) (.string ⟨#[]⟩))
    have K23 := Lib.hid (((K22.out.set 0 (.int .i64 3)).set 1 (.int .i64 (1))).set 2 (.string ⟨#[]⟩))
    have HB3 := Lib.hid (((HB2.out.setCell (p := ⟨w.heap.size + 1, 0, none⟩) (by simp) (.int .i64 3)).setCell (p := ⟨w.heap.size + 1, 1, none⟩) (by simp) (.int .i64 (1))).setCell (p := ⟨w.heap.size + 1, 2, none⟩) (by simp) (.string ⟨#[]⟩))
    go_wp2_with fail
    refine (HW.out _).mono ?_
    clear HW
    rintro e w7 ⟨rfl, hb7⟩
    have K17 := Lib.hid (K13.out.below hb7)
    have K27 := Lib.hid (K23.out.below hb7)
    have HB7 := Lib.hid (HB3.out.trans (hb7.mono HB3.out.size))
    clear hb7 a0 a1 a2 af b0 b1 b2 bf
    obtain ⟨a0, a1, a2, af⟩ := blk3 K17.out
    obtain ⟨b0, b1, b2, bf⟩ := blk3 K27.out
    go_wp2_with fail
    refine (HP.out _ (HM.out.below HB7.out)).mono ?_
    clear HP
    rintro e w8 ⟨rfl, hb8⟩
    have K18 := Lib.hid (K17.out.below hb8)
    have K28 := Lib.hid (K27.out.below hb8)
    have HB8 := Lib.hid (HB7.out.trans (hb8.mono HB7.out.size))
    clear hb8 a0 a1 a2 af b0 b1 b2 bf
    obtain ⟨a0, a1, a2, af⟩ := blk3 K18.out
    obtain ⟨b0, b1, b2, bf⟩ := blk3 K28.out
    go_wp2
    refine bodyPost_ret (v := .tuple #[.agg #[.int .i64 3, .int .i64 (1), .string ⟨#[]⟩], .int .i64 0]) (by simp [results, Tryd.results36, go_sem, a0, a1, a2]) rfl ⟨by rw [HOUT.out]; rfl, ?_⟩
    exact ((HB8.out.setCell (p := ⟨w.heap.size, 0, none⟩) (by simp) _).setCell (p := ⟨w.heap.size, 1, none⟩) (by simp) _).setCell (p := ⟨w.heap.size, 2, none⟩) (by simp) _
  · have hb1 : (l == [116, 114, 117, 101]) = false := by rw [beq_eq_false_iff_ne]; exact h1
    rw [hb1] at e1
    by_cases h2 : l = falseL
    · have hb2 : (l == [102, 97, 108, 115, 101]) = true := by rw [h2]; rfl
      rw [hb2] at e2
      have HOUT : Hid (out = (⟨3, 0, ⟨#[]⟩⟩, 0)) := by
        show _ = _
        rw [← HO.out]; unfold prsV
        rw [if_neg (by rw [h2]; decide), if_pos (by rw [h2]; rfl)]
      have hcb := fun w => bool_val w false
      rw [if_neg (by decide)] at hcb
      have HCB := Lib.hid hcb
      have hw := fun w => wrong_any w ⟨3, 0, ⟨#[]⟩⟩
      rw [right_false] at hw
      have HW := Lib.hid hw
      have hp := fun w h => print_val w h ⟨3, 0, ⟨#[]⟩⟩ (by simp [fit64])
      rw [pr_false] at hp
      have HP := Lib.hid hp
      have hne : ((bs [102, 97, 108, 115, 101]).toList == s.toList) = true := by
        rw [bs_toList, ByteArray.toList_eq, HS.out, h2]; rfl
      clear hcb hw hp hb1 hb2 h1 h2
      simp only [AV.agg] at HW HP
      go_enter Tryd.func36, Tryd.ntmps36
      go_wp2_with fail
      refine (HCB.out _).mono ?_
      rintro e w2 ⟨rfl, hb2⟩
      have K12 := Lib.hid (K10.out.below hb2)
      have K22 := Lib.hid (K20.out.below hb2)
      have HB2 := Lib.hid (HB0.out.trans (hb2.mono HB0.out.size))
      clear hb2
      obtain ⟨a0, a1, a2, af⟩ := blk3 K12.out
      obtain ⟨b0, b1, b2, bf⟩ := blk3 K22.out
      have K13 := Lib.hid (((K12.out.setOther (p := ⟨w.heap.size + 1, 0, none⟩) (by simp) (.int .i64 3)).setOther (p := ⟨w.heap.size + 1, 1, none⟩) (by simp) (.int .i64 (0))).setOther (p := ⟨w.heap.size + 1, 2, none⟩) (by simp) (.string ⟨#[]⟩))
      have K23 := Lib.hid (((K22.out.set 0 (.int .i64 3)).set 1 (.int .i64 (0))).set 2 (.string ⟨#[]⟩))
      have HB3 := Lib.hid (((HB2.out.setCell (p := ⟨w.heap.size + 1, 0, none⟩) (by simp) (.int .i64 3)).setCell (p := ⟨w.heap.size + 1, 1, none⟩) (by simp) (.int .i64 (0))).setCell (p := ⟨w.heap.size + 1, 2, none⟩) (by simp) (.string ⟨#[]⟩))
      go_wp2_with fail
      refine (HW.out _).mono ?_
      clear HW
      rintro e w7 ⟨rfl, hb7⟩
      have K17 := Lib.hid (K13.out.below hb7)
      have K27 := Lib.hid (K23.out.below hb7)
      have HB7 := Lib.hid (HB3.out.trans (hb7.mono HB3.out.size))
      clear hb7 a0 a1 a2 af b0 b1 b2 bf
      obtain ⟨a0, a1, a2, af⟩ := blk3 K17.out
      obtain ⟨b0, b1, b2, bf⟩ := blk3 K27.out
      go_wp2_with fail
      refine (HP.out _ (HM.out.below HB7.out)).mono ?_
      clear HP
      rintro e w8 ⟨rfl, hb8⟩
      have K18 := Lib.hid (K17.out.below hb8)
      have K28 := Lib.hid (K27.out.below hb8)
      have HB8 := Lib.hid (HB7.out.trans (hb8.mono HB7.out.size))
      clear hb8 a0 a1 a2 af b0 b1 b2 bf
      obtain ⟨a0, a1, a2, af⟩ := blk3 K18.out
      obtain ⟨b0, b1, b2, bf⟩ := blk3 K28.out
      go_wp2
      refine bodyPost_ret (v := .tuple #[.agg #[.int .i64 3, .int .i64 (0), .string ⟨#[]⟩], .int .i64 0]) (by simp [results, Tryd.results36, go_sem, a0, a1, a2]) rfl ⟨by rw [HOUT.out]; rfl, ?_⟩
      exact ((HB8.out.setCell (p := ⟨w.heap.size, 0, none⟩) (by simp) _).setCell (p := ⟨w.heap.size, 1, none⟩) (by simp) _).setCell (p := ⟨w.heap.size, 2, none⟩) (by simp) _
    · have hb2 : (l == [102, 97, 108, 115, 101]) = false := by rw [beq_eq_false_iff_ne]; exact h2
      rw [hb2] at e2
      have HO2 : Hid ((if isText l then chkV ⟨2, 0, bs (unpair 39 (midL l))⟩ l else if prsE l = 0 then chkV ⟨1, prsN l, ⟨#[]⟩⟩ l else (zeroV, 12)) = out) := by
        show _ = _
        have hh := HO.out
        unfold prsV at hh
        have n1 : ¬ (l == trueL) = true := by simpa using h1
        have n2 : ¬ (l == falseL) = true := by simpa using h2
        rw [if_neg n1, if_neg n2] at hh
        exact hh
      clear hb1 hb2 h1 h2 HO
      cases ht : isText l
      · rw [ht] at HO2
        rw [if_neg (by decide)] at HO2
        have hnt : ¬ (2 ≤ s.size ∧ ∃ h : 0 < s.size, ((s[0]'h).toNat : Int) = 39) := by
          rintro ⟨h3, h4, h5⟩
          unfold isText at ht
          have h6 := get_list s l HS.out 0 h4 (by omega)
          rw [h6] at h5
          have h7 : l[0]'(by omega) = 39 := UInt8.toNat_inj.1 (by show (l[0]'(by omega)).toNat = 39; omega)
          have h8 : l.head? = some 39 := by rw [List.head?_eq_getElem?, List.getElem?_eq_getElem (by omega), h7]
          rw [h8] at ht
          simp at ht
          omega
        have HPN := Lib.hid (fun w => parse_any w s l HS.out hl)
        by_cases he : prsE l = 0
        · rw [if_pos he] at HO2
          rw [he] at HPN
          have HOC : Hid (chkV ⟨1, prsN l, ⟨#[]⟩⟩ l = out) := HO2
          have hfit : fits (prsN l) := by
            have : ∀ ng r, fits (numN ng r) := fun ng r => by
              unfold numN
              split
              · unfold shortN
                split
                · assumption
                · unfold fits; omega
              · unfold fits; omega
            exact this _ _
          have hw := fun w => wrong_any w ⟨1, prsN l, ⟨#[]⟩⟩
          rw [right_int] at hw
          have HW := Lib.hid hw
          have HP := Lib.hid (fun w h => print_val w h ⟨1, prsN l, ⟨#[]⟩⟩ hfit)
          have HCB := Lib.hid (fun w => int_val w (prsN l))
          rw [chkV_print, right_int] at HOC
          generalize prsN l = n at *
          simp only [AV.agg] at HW HP
          have hcmp : ((bs (printV ⟨1, n, ⟨#[]⟩⟩)).toList == s.toList) = (printV ⟨1, n, ⟨#[]⟩⟩ == l) := by
            rw [bs_toList, ByteArray.toList_eq, HS.out]
          have HOUT0 : Hid (out = if (printV ⟨1, n, ⟨#[]⟩⟩ == l) = true then (⟨1, n, ⟨#[]⟩⟩, 0) else (zeroV, 12)) := by
            show _ = _
            rw [← HOC.out]; rfl
          generalize bs (printV ⟨1, n, ⟨#[]⟩⟩) = P at *
          clear HO2 HOC hw he ht
          by_cases h2s : 2 ≤ s.size
          · have h0s : 0 < s.size := by omega
            have h39 : (((s[0]'h0s).toNat : Int) == 39) = false := by
              rw [beq_eq_false_iff_ne]
              exact fun h => hnt ⟨h2s, h0s, h⟩
            clear hnt
            cases hq : (printV ⟨1, n, ⟨#[]⟩⟩ == l)
            · rw [hq] at hcmp HOUT0
              have HOUT := HOUT0
              first | rw [if_pos rfl] at HOUT | rw [if_neg (by decide)] at HOUT
              clear HOUT0
              go_enter Tryd.func36, Tryd.ntmps36
              go_wp2_with fail
              refine (HPN.out _).mono ?_
              rintro e w1 ⟨rfl, hb1⟩
              have K11 := Lib.hid (K10.out.below hb1)
              have K21 := Lib.hid (K20.out.below hb1)
              have HB1 := Lib.hid (HB0.out.trans (hb1.mono HB0.out.size))
              clear hb1
              go_wp2_with fail
              refine (HCB.out _).mono ?_
              rintro e w2 ⟨rfl, hb2⟩
              have K12 := Lib.hid (K11.out.below hb2)
              have K22 := Lib.hid (K21.out.below hb2)
              have HB2 := Lib.hid (HB1.out.trans (hb2.mono HB1.out.size))
              clear hb2
              obtain ⟨a0, a1, a2, af⟩ := blk3 K12.out
              obtain ⟨b0, b1, b2, bf⟩ := blk3 K22.out
              have K13 := Lib.hid (((K12.out.setOther (p := ⟨w.heap.size + 1, 0, none⟩) (by simp) (.int .i64 1)).setOther (p := ⟨w.heap.size + 1, 1, none⟩) (by simp) (.int .i64 (n))).setOther (p := ⟨w.heap.size + 1, 2, none⟩) (by simp) (.string ⟨#[]⟩))
              have K23 := Lib.hid (((K22.out.set 0 (.int .i64 1)).set 1 (.int .i64 (n))).set 2 (.string ⟨#[]⟩))
              have HB3 := Lib.hid (((HB2.out.setCell (p := ⟨w.heap.size + 1, 0, none⟩) (by simp) (.int .i64 1)).setCell (p := ⟨w.heap.size + 1, 1, none⟩) (by simp) (.int .i64 (n))).setCell (p := ⟨w.heap.size + 1, 2, none⟩) (by simp) (.string ⟨#[]⟩))
              go_wp2_with fail
              refine (HW.out _).mono ?_
              clear HW
              rintro e w7 ⟨rfl, hb7⟩
              have K17 := Lib.hid (K13.out.below hb7)
              have K27 := Lib.hid (K23.out.below hb7)
              have HB7 := Lib.hid (HB3.out.trans (hb7.mono HB3.out.size))
              clear hb7 a0 a1 a2 af b0 b1 b2 bf
              obtain ⟨a0, a1, a2, af⟩ := blk3 K17.out
              obtain ⟨b0, b1, b2, bf⟩ := blk3 K27.out
              go_wp2_with fail
              refine (HP.out _ (HM.out.below HB7.out)).mono ?_
              clear HP
              rintro e w8 ⟨rfl, hb8⟩
              have K18 := Lib.hid (K17.out.below hb8)
              have K28 := Lib.hid (K27.out.below hb8)
              have HB8 := Lib.hid (HB7.out.trans (hb8.mono HB7.out.size))
              clear hb8 a0 a1 a2 af b0 b1 b2 bf
              obtain ⟨a0, a1, a2, af⟩ := blk3 K18.out
              obtain ⟨b0, b1, b2, bf⟩ := blk3 K28.out
              go_wp2
              refine bodyPost_ret (v := .tuple #[.agg #[.int .i64 0, .int .i64 0, .string ⟨#[]⟩], .int .i64 12]) (by simp [results, Tryd.results36, go_sem, a0, a1, a2]) rfl ⟨by rw [HOUT.out]; rfl, ?_⟩
              exact ((HB8.out.setCell (p := ⟨w.heap.size, 0, none⟩) (by simp) _).setCell (p := ⟨w.heap.size, 1, none⟩) (by simp) _).setCell (p := ⟨w.heap.size, 2, none⟩) (by simp) _
            · rw [hq] at hcmp HOUT0
              have HOUT := HOUT0
              first | rw [if_pos rfl] at HOUT | rw [if_neg (by decide)] at HOUT
              clear HOUT0
              go_enter Tryd.func36, Tryd.ntmps36
              go_wp2_with fail
              refine (HPN.out _).mono ?_
              rintro e w1 ⟨rfl, hb1⟩
              have K11 := Lib.hid (K10.out.below hb1)
              have K21 := Lib.hid (K20.out.below hb1)
              have HB1 := Lib.hid (HB0.out.trans (hb1.mono HB0.out.size))
              clear hb1
              go_wp2_with fail
              refine (HCB.out _).mono ?_
              rintro e w2 ⟨rfl, hb2⟩
              have K12 := Lib.hid (K11.out.below hb2)
              have K22 := Lib.hid (K21.out.below hb2)
              have HB2 := Lib.hid (HB1.out.trans (hb2.mono HB1.out.size))
              clear hb2
              obtain ⟨a0, a1, a2, af⟩ := blk3 K12.out
              obtain ⟨b0, b1, b2, bf⟩ := blk3 K22.out
              have K13 := Lib.hid (((K12.out.setOther (p := ⟨w.heap.size + 1, 0, none⟩) (by simp) (.int .i64 1)).setOther (p := ⟨w.heap.size + 1, 1, none⟩) (by simp) (.int .i64 (n))).setOther (p := ⟨w.heap.size + 1, 2, none⟩) (by simp) (.string ⟨#[]⟩))
              have K23 := Lib.hid (((K22.out.set 0 (.int .i64 1)).set 1 (.int .i64 (n))).set 2 (.string ⟨#[]⟩))
              have HB3 := Lib.hid (((HB2.out.setCell (p := ⟨w.heap.size + 1, 0, none⟩) (by simp) (.int .i64 1)).setCell (p := ⟨w.heap.size + 1, 1, none⟩) (by simp) (.int .i64 (n))).setCell (p := ⟨w.heap.size + 1, 2, none⟩) (by simp) (.string ⟨#[]⟩))
              go_wp2_with fail
              refine (HW.out _).mono ?_
              clear HW
              rintro e w7 ⟨rfl, hb7⟩
              have K17 := Lib.hid (K13.out.below hb7)
              have K27 := Lib.hid (K23.out.below hb7)
              have HB7 := Lib.hid (HB3.out.trans (hb7.mono HB3.out.size))
              clear hb7 a0 a1 a2 af b0 b1 b2 bf
              obtain ⟨a0, a1, a2, af⟩ := blk3 K17.out
              obtain ⟨b0, b1, b2, bf⟩ := blk3 K27.out
              go_wp2_with fail
              refine (HP.out _ (HM.out.below HB7.out)).mono ?_
              clear HP
              rintro e w8 ⟨rfl, hb8⟩
              have K18 := Lib.hid (K17.out.below hb8)
              have K28 := Lib.hid (K27.out.below hb8)
              have HB8 := Lib.hid (HB7.out.trans (hb8.mono HB7.out.size))
              clear hb8 a0 a1 a2 af b0 b1 b2 bf
              obtain ⟨a0, a1, a2, af⟩ := blk3 K18.out
              obtain ⟨b0, b1, b2, bf⟩ := blk3 K28.out
              go_wp2
              refine bodyPost_ret (v := .tuple #[.agg #[.int .i64 1, .int .i64 (n), .string ⟨#[]⟩], .int .i64 0]) (by simp [results, Tryd.results36, go_sem, a0, a1, a2]) rfl ⟨by rw [HOUT.out]; rfl, ?_⟩
              exact ((HB8.out.setCell (p := ⟨w.heap.size, 0, none⟩) (by simp) _).setCell (p := ⟨w.heap.size, 1, none⟩) (by simp) _).setCell (p := ⟨w.heap.size, 2, none⟩) (by simp) _
          · clear hnt
            have h2d : decide ((2 : Int) ≤ (s.size : Int)) = false := decide_eq_false (by omega)
            cases hq : (printV ⟨1, n, ⟨#[]⟩⟩ == l)
            · rw [hq] at hcmp HOUT0
              have HOUT := HOUT0
              first | rw [if_pos rfl] at HOUT | rw [if_neg (by decide)] at HOUT
              clear HOUT0
              go_enter Tryd.func36, Tryd.ntmps36
              go_wp2_with fail
              refine (HPN.out _).mono ?_
              rintro e w1 ⟨rfl, hb1⟩
              have K11 := Lib.hid (K10.out.below hb1)
              have K21 := Lib.hid (K20.out.below hb1)
              have HB1 := Lib.hid (HB0.out.trans (hb1.mono HB0.out.size))
              clear hb1
              go_wp2_with fail
              refine (HCB.out _).mono ?_
              rintro e w2 ⟨rfl, hb2⟩
              have K12 := Lib.hid (K11.out.below hb2)
              have K22 := Lib.hid (K21.out.below hb2)
              have HB2 := Lib.hid (HB1.out.trans (hb2.mono HB1.out.size))
              clear hb2
              obtain ⟨a0, a1, a2, af⟩ := blk3 K12.out
              obtain ⟨b0, b1, b2, bf⟩ := blk3 K22.out
              have K13 := Lib.hid (((K12.out.setOther (p := ⟨w.heap.size + 1, 0, none⟩) (by simp) (.int .i64 1)).setOther (p := ⟨w.heap.size + 1, 1, none⟩) (by simp) (.int .i64 (n))).setOther (p := ⟨w.heap.size + 1, 2, none⟩) (by simp) (.string ⟨#[]⟩))
              have K23 := Lib.hid (((K22.out.set 0 (.int .i64 1)).set 1 (.int .i64 (n))).set 2 (.string ⟨#[]⟩))
              have HB3 := Lib.hid (((HB2.out.setCell (p := ⟨w.heap.size + 1, 0, none⟩) (by simp) (.int .i64 1)).setCell (p := ⟨w.heap.size + 1, 1, none⟩) (by simp) (.int .i64 (n))).setCell (p := ⟨w.heap.size + 1, 2, none⟩) (by simp) (.string ⟨#[]⟩))
              go_wp2_with fail
              refine (HW.out _).mono ?_
              clear HW
              rintro e w7 ⟨rfl, hb7⟩
              have K17 := Lib.hid (K13.out.below hb7)
              have K27 := Lib.hid (K23.out.below hb7)
              have HB7 := Lib.hid (HB3.out.trans (hb7.mono HB3.out.size))
              clear hb7 a0 a1 a2 af b0 b1 b2 bf
              obtain ⟨a0, a1, a2, af⟩ := blk3 K17.out
              obtain ⟨b0, b1, b2, bf⟩ := blk3 K27.out
              go_wp2_with fail
              refine (HP.out _ (HM.out.below HB7.out)).mono ?_
              clear HP
              rintro e w8 ⟨rfl, hb8⟩
              have K18 := Lib.hid (K17.out.below hb8)
              have K28 := Lib.hid (K27.out.below hb8)
              have HB8 := Lib.hid (HB7.out.trans (hb8.mono HB7.out.size))
              clear hb8 a0 a1 a2 af b0 b1 b2 bf
              obtain ⟨a0, a1, a2, af⟩ := blk3 K18.out
              obtain ⟨b0, b1, b2, bf⟩ := blk3 K28.out
              go_wp2
              refine bodyPost_ret (v := .tuple #[.agg #[.int .i64 0, .int .i64 0, .string ⟨#[]⟩], .int .i64 12]) (by simp [results, Tryd.results36, go_sem, a0, a1, a2]) rfl ⟨by rw [HOUT.out]; rfl, ?_⟩
              exact ((HB8.out.setCell (p := ⟨w.heap.size, 0, none⟩) (by simp) _).setCell (p := ⟨w.heap.size, 1, none⟩) (by simp) _).setCell (p := ⟨w.heap.size, 2, none⟩) (by simp) _
            · rw [hq] at hcmp HOUT0
              have HOUT := HOUT0
              first | rw [if_pos rfl] at HOUT | rw [if_neg (by decide)] at HOUT
              clear HOUT0
              go_enter Tryd.func36, Tryd.ntmps36
              go_wp2_with fail
              refine (HPN.out _).mono ?_
              rintro e w1 ⟨rfl, hb1⟩
              have K11 := Lib.hid (K10.out.below hb1)
              have K21 := Lib.hid (K20.out.below hb1)
              have HB1 := Lib.hid (HB0.out.trans (hb1.mono HB0.out.size))
              clear hb1
              go_wp2_with fail
              refine (HCB.out _).mono ?_
              rintro e w2 ⟨rfl, hb2⟩
              have K12 := Lib.hid (K11.out.below hb2)
              have K22 := Lib.hid (K21.out.below hb2)
              have HB2 := Lib.hid (HB1.out.trans (hb2.mono HB1.out.size))
              clear hb2
              obtain ⟨a0, a1, a2, af⟩ := blk3 K12.out
              obtain ⟨b0, b1, b2, bf⟩ := blk3 K22.out
              have K13 := Lib.hid (((K12.out.setOther (p := ⟨w.heap.size + 1, 0, none⟩) (by simp) (.int .i64 1)).setOther (p := ⟨w.heap.size + 1, 1, none⟩) (by simp) (.int .i64 (n))).setOther (p := ⟨w.heap.size + 1, 2, none⟩) (by simp) (.string ⟨#[]⟩))
              have K23 := Lib.hid (((K22.out.set 0 (.int .i64 1)).set 1 (.int .i64 (n))).set 2 (.string ⟨#[]⟩))
              have HB3 := Lib.hid (((HB2.out.setCell (p := ⟨w.heap.size + 1, 0, none⟩) (by simp) (.int .i64 1)).setCell (p := ⟨w.heap.size + 1, 1, none⟩) (by simp) (.int .i64 (n))).setCell (p := ⟨w.heap.size + 1, 2, none⟩) (by simp) (.string ⟨#[]⟩))
              go_wp2_with fail
              refine (HW.out _).mono ?_
              clear HW
              rintro e w7 ⟨rfl, hb7⟩
              have K17 := Lib.hid (K13.out.below hb7)
              have K27 := Lib.hid (K23.out.below hb7)
              have HB7 := Lib.hid (HB3.out.trans (hb7.mono HB3.out.size))
              clear hb7 a0 a1 a2 af b0 b1 b2 bf
              obtain ⟨a0, a1, a2, af⟩ := blk3 K17.out
              obtain ⟨b0, b1, b2, bf⟩ := blk3 K27.out
              go_wp2_with fail
              refine (HP.out _ (HM.out.below HB7.out)).mono ?_
              clear HP
              rintro e w8 ⟨rfl, hb8⟩
              have K18 := Lib.hid (K17.out.below hb8)
              have K28 := Lib.hid (K27.out.below hb8)
              have HB8 := Lib.hid (HB7.out.trans (hb8.mono HB7.out.size))
              clear hb8 a0 a1 a2 af b0 b1 b2 bf
              obtain ⟨a0, a1, a2, af⟩ := blk3 K18.out
              obtain ⟨b0, b1, b2, bf⟩ := blk3 K28.out
              go_wp2
              refine bodyPost_ret (v := .tuple #[.agg #[.int .i64 1, .int .i64 (n), .string ⟨#[]⟩], .int .i64 0]) (by simp [results, Tryd.results36, go_sem, a0, a1, a2]) rfl ⟨by rw [HOUT.out]; rfl, ?_⟩
              exact ((HB8.out.setCell (p := ⟨w.heap.size, 0, none⟩) (by simp) _).setCell (p := ⟨w.heap.size, 1, none⟩) (by simp) _).setCell (p := ⟨w.heap.size, 2, none⟩) (by simp) _
        · rw [if_neg he] at HO2
          have hne : (prsE l != 0) = true := by rw [bne_iff_ne]; exact he
          have HOUT : Hid (out = (zeroV, 12)) := Eq.symm HO2
          generalize prsE l = ee at *
          clear HO2 he ht
          by_cases h2s : 2 ≤ s.size
          · have h0s : 0 < s.size := by omega
            have h39 : (((s[0]'h0s).toNat : Int) == 39) = false := by
              rw [beq_eq_false_iff_ne]
              exact fun h => hnt ⟨h2s, h0s, h⟩
            clear hnt
            go_enter Tryd.func36, Tryd.ntmps36
            go_wp2_with fail
            refine (HPN.out _).mono ?_
            rintro e w2 ⟨rfl, hb2⟩
            have K12 := Lib.hid (K10.out.below hb2)
            have K22 := Lib.hid (K20.out.below hb2)
            have HB2 := Lib.hid (HB0.out.trans (hb2.mono HB0.out.size))
            clear hb2
            obtain ⟨a0, a1, a2, af⟩ := blk3 K12.out
            obtain ⟨b0, b1, b2, bf⟩ := blk3 K22.out
            go_wp2
            refine bodyPost_ret (v := .tuple #[.agg #[.int .i64 0, .int .i64 0, .string ⟨#[]⟩], .int .i64 12]) (by simp [results, Tryd.results36, go_sem, a0, a1, a2]) rfl ⟨by rw [HOUT.out]; rfl, ?_⟩
            exact ((HB2.out.setCell (p := ⟨w.heap.size, 0, none⟩) (by simp) _).setCell (p := ⟨w.heap.size, 1, none⟩) (by simp) _).setCell (p := ⟨w.heap.size, 2, none⟩) (by simp) _
          · clear hnt
            have h2d : decide ((2 : Int) ≤ (s.size : Int)) = false := decide_eq_false (by omega)
            go_enter Tryd.func36, Tryd.ntmps36
            go_wp2_with fail
            refine (HPN.out _).mono ?_
            rintro e w2 ⟨rfl, hb2⟩
            have K12 := Lib.hid (K10.out.below hb2)
            have K22 := Lib.hid (K20.out.below hb2)
            have HB2 := Lib.hid (HB0.out.trans (hb2.mono HB0.out.size))
            clear hb2
            obtain ⟨a0, a1, a2, af⟩ := blk3 K12.out
            obtain ⟨b0, b1, b2, bf⟩ := blk3 K22.out
            go_wp2
            refine bodyPost_ret (v := .tuple #[.agg #[.int .i64 0, .int .i64 0, .string ⟨#[]⟩], .int .i64 12]) (by simp [results, Tryd.results36, go_sem, a0, a1, a2]) rfl ⟨by rw [HOUT.out]; rfl, ?_⟩
            exact ((HB2.out.setCell (p := ⟨w.heap.size, 0, none⟩) (by simp) _).setCell (p := ⟨w.heap.size, 1, none⟩) (by simp) _).setCell (p := ⟨w.heap.size, 2, none⟩) (by simp) _
      · rw [ht] at HO2
        rw [if_pos rfl] at HO2
        have h2s : 2 ≤ s.size := by
          unfold isText at ht
          simp at ht
          omega
        have h0s : 0 < s.size := by omega
        have h39 : (((s[0]'h0s).toNat : Int) == 39) = true := by
          unfold isText at ht
          simp only [Bool.and_eq_true, beq_iff_eq] at ht
          have h6 := get_list s l HS.out 0 h0s (by omega)
          rw [beq_iff_eq, h6]
          have h7 := ht.2
          rw [List.head?_eq_getElem?, List.getElem?_eq_getElem (by omega)] at h7
          rw [Option.some.inj h7]; rfl
        have hmid : (s.extract 1 (s.size - 1)).data.toList = midL l := by
          rw [Lib.extract_data, HS.out]
          unfold midL
          congr 1
          omega
        have hml : (midL l).length ≤ 1000 := by unfold midL; rw [List.length_take, List.length_drop]; omega
        have hms := size_list (s.extract 1 (s.size - 1)) _ hmid
        have hr := fun w h => repl_any w h (s.extract 1 (s.size - 1)) ⟨#[39, 39]⟩ ⟨#[39]⟩ (by omega) (by decide) (by decide)
        have x1 : (⟨#[39, 39]⟩ : ByteArray).data.toList = [39, 39] := rfl
        have x2 : (⟨#[39]⟩ : ByteArray).data.toList = [39] := rfl
        rw [hmid, x1, x2, replaceAll_pair] at hr
        have HR := Lib.hid hr
        have hul := unpair_length 39 (midL l)
        generalize unpair 39 (midL l) = u at *
        have HT := Lib.hid (fun w => text_val w (bs u))
        have hw := fun w => wrong_any w ⟨2, 0, bs u⟩
        have HP := Lib.hid (fun w h => print_val w h ⟨2, 0, bs u⟩ (by simp [fit64]))
        rw [chkV_print] at HO2
        have hcmp : ((bs (printV ⟨2, 0, bs u⟩)).toList == s.toList) = (printV ⟨2, 0, bs u⟩ == l) := by
          rw [bs_toList, ByteArray.toList_eq, HS.out]
        simp only [AV.agg] at hw HP
        obtain ⟨m, hm1⟩ : ∃ m : Nat, s.size = m + 1 := ⟨s.size - 1, by omega⟩
        have hm2 : (s.size : Int) - 1 = (m : Int) := by omega
        have hm3 : s.size - 1 = m := by omega
        have hm4 : m ≤ s.size := by omega
        have hm5 : 1 ≤ m := by omega
        have hm6 : wrap64 (m : Int) = (m : Int) := IntWalk.wrap64_in _ ⟨by omega, by omega⟩
        have hm7 : m ≤ 1000 := by omega
        rw [hm3] at HR
        have hks : ∀ W : World, (Instr.slice 9 (.string s) (some (.int .i64 1)) (some (.int .i64 (m : Int))) none).run Tryd.prog W = .ok (.string (s.extract 1 m)) W := fun W => slice_mid s 1 m hm5 hm4 W
        clear hr x1 x2 hmid hml hms ht hul hm1 hm3 hsz
        cases hrt : AV.right ⟨2, 0, bs u⟩
        · rw [hrt] at HO2 hw
          have HOUT : Hid (out = (zeroV, 12)) := Eq.symm HO2
          have HW := Lib.hid hw
          clear hw HO2 hcmp HP
          generalize bs u = U at *
          go_enter Tryd.func36, Tryd.ntmps36
          go_wp2_with fail
          refine (HR.out _ (HM.out.below HB0.out)).mono ?_
          rintro e w1 ⟨rfl, hb1⟩
          have K11 := Lib.hid (K10.out.below hb1)
          have K21 := Lib.hid (K20.out.below hb1)
          have HB1 := Lib.hid (HB0.out.trans (hb1.mono HB0.out.size))
          clear hb1
          go_wp2_with fail
          refine (HT.out _).mono ?_
          rintro e w2 ⟨rfl, hb2⟩
          have K12 := Lib.hid (K11.out.below hb2)
          have K22 := Lib.hid (K21.out.below hb2)
          have HB2 := Lib.hid (HB1.out.trans (hb2.mono HB1.out.size))
          clear hb2
          obtain ⟨a0, a1, a2, af⟩ := blk3 K12.out
          obtain ⟨b0, b1, b2, bf⟩ := blk3 K22.out
          have K13 := Lib.hid (((K12.out.setOther (p := ⟨w.heap.size + 1, 0, none⟩) (by simp) (.int .i64 2)).setOther (p := ⟨w.heap.size + 1, 1, none⟩) (by simp) (.int .i64 (0))).setOther (p := ⟨w.heap.size + 1, 2, none⟩) (by simp) (.string U))
          have K23 := Lib.hid (((K22.out.set 0 (.int .i64 2)).set 1 (.int .i64 (0))).set 2 (.string U))
          have HB3 := Lib.hid (((HB2.out.setCell (p := ⟨w.heap.size + 1, 0, none⟩) (by simp) (.int .i64 2)).setCell (p := ⟨w.heap.size + 1, 1, none⟩) (by simp) (.int .i64 (0))).setCell (p := ⟨w.heap.size + 1, 2, none⟩) (by simp) (.string U))
          go_wp2_with fail
          refine (HW.out _).mono ?_
          clear HW
          rintro e w7 ⟨rfl, hb7⟩
          have K17 := Lib.hid (K13.out.below hb7)
          have K27 := Lib.hid (K23.out.below hb7)
          have HB7 := Lib.hid (HB3.out.trans (hb7.mono HB3.out.size))
          clear hb7 a0 a1 a2 af b0 b1 b2 bf
          obtain ⟨a0, a1, a2, af⟩ := blk3 K17.out
          obtain ⟨b0, b1, b2, bf⟩ := blk3 K27.out
          go_wp2
          refine bodyPost_ret (v := .tuple #[.agg #[.int .i64 0, .int .i64 0, .string ⟨#[]⟩], .int .i64 12]) (by simp [results, Tryd.results36, go_sem, a0, a1, a2]) rfl ⟨by rw [HOUT.out]; rfl, ?_⟩
          exact ((HB7.out.setCell (p := ⟨w.heap.size, 0, none⟩) (by simp) _).setCell (p := ⟨w.heap.size, 1, none⟩) (by simp) _).setCell (p := ⟨w.heap.size, 2, none⟩) (by simp) _
        · rw [hrt] at HO2 hw
          have HW := Lib.hid hw
          have HOUT0 : Hid (out = if (printV ⟨2, 0, bs u⟩ == l) = true then (⟨2, 0, bs u⟩, 0) else (zeroV, 12)) := by
            show _ = _
            rw [← HO2.out]; rfl
          clear hw HO2
          generalize bs (printV ⟨2, 0, bs u⟩) = P at *
          cases hq : (printV ⟨2, 0, bs u⟩ == l)
          · rw [hq] at hcmp HOUT0
            have HOUT := HOUT0
            first | rw [if_pos rfl] at HOUT | rw [if_neg (by decide)] at HOUT
            clear HOUT0 hq hrt
            generalize bs u = U at *
            go_enter Tryd.func36, Tryd.ntmps36
            go_wp2_with fail
            refine (HR.out _ (HM.out.below HB0.out)).mono ?_
            rintro e w1 ⟨rfl, hb1⟩
            have K11 := Lib.hid (K10.out.below hb1)
            have K21 := Lib.hid (K20.out.below hb1)
            have HB1 := Lib.hid (HB0.out.trans (hb1.mono HB0.out.size))
            clear hb1
            go_wp2_with fail
            refine (HT.out _).mono ?_
            rintro e w2 ⟨rfl, hb2⟩
            have K12 := Lib.hid (K11.out.below hb2)
            have K22 := Lib.hid (K21.out.below hb2)
            have HB2 := Lib.hid (HB1.out.trans (hb2.mono HB1.out.size))
            clear hb2
            obtain ⟨a0, a1, a2, af⟩ := blk3 K12.out
            obtain ⟨b0, b1, b2, bf⟩ := blk3 K22.out
            have K13 := Lib.hid (((K12.out.setOther (p := ⟨w.heap.size + 1, 0, none⟩) (by simp) (.int .i64 2)).setOther (p := ⟨w.heap.size + 1, 1, none⟩) (by simp) (.int .i64 (0))).setOther (p := ⟨w.heap.size + 1, 2, none⟩) (by simp) (.string U))
            have K23 := Lib.hid (((K22.out.set 0 (.int .i64 2)).set 1 (.int .i64 (0))).set 2 (.string U))
            have HB3 := Lib.hid (((HB2.out.setCell (p := ⟨w.heap.size + 1, 0, none⟩) (by simp) (.int .i64 2)).setCell (p := ⟨w.heap.size + 1, 1, none⟩) (by simp) (.int .i64 (0))).setCell (p := ⟨w.heap.size + 1, 2, none⟩) (by simp) (.string U))
            go_wp2_with fail
            refine (HW.out _).mono ?_
            clear HW
            rintro e w7 ⟨rfl, hb7⟩
            have K17 := Lib.hid (K13.out.below hb7)
            have K27 := Lib.hid (K23.out.below hb7)
            have HB7 := Lib.hid (HB3.out.trans (hb7.mono HB3.out.size))
            clear hb7 a0 a1 a2 af b0 b1 b2 bf
            obtain ⟨a0, a1, a2, af⟩ := blk3 K17.out
            obtain ⟨b0, b1, b2, bf⟩ := blk3 K27.out
            go_wp2_with fail
            refine (HP.out _ (HM.out.below HB7.out)).mono ?_
            clear HP
            rintro e w8 ⟨rfl, hb8⟩
            have K18 := Lib.hid (K17.out.below hb8)
            have K28 := Lib.hid (K27.out.below hb8)
            have HB8 := Lib.hid (HB7.out.trans (hb8.mono HB7.out.size))
            clear hb8 a0 a1 a2 af b0 b1 b2 bf
            obtain ⟨a0, a1, a2, af⟩ := blk3 K18.out
            obtain ⟨b0, b1, b2, bf⟩ := blk3 K28.out
            go_wp2
            refine bodyPost_ret (v := .tuple #[.agg #[.int .i64 0, .int .i64 0, .string ⟨#[]⟩], .int .i64 12]) (by simp [results, Tryd.results36, go_sem, a0, a1, a2]) rfl ⟨by rw [HOUT.out]; rfl, ?_⟩
            exact ((HB8.out.setCell (p := ⟨w.heap.size, 0, none⟩) (by simp) _).setCell (p := ⟨w.heap.size, 1, none⟩) (by simp) _).setCell (p := ⟨w.heap.size, 2, none⟩) (by simp) _
          · rw [hq] at hcmp HOUT0
            have HOUT := HOUT0
            first | rw [if_pos rfl] at HOUT | rw [if_neg (by decide)] at HOUT
            clear HOUT0 hq hrt
            generalize bs u = U at *
            go_enter Tryd.func36, Tryd.ntmps36
            go_wp2_with fail
            refine (HR.out _ (HM.out.below HB0.out)).mono ?_
            rintro e w1 ⟨rfl, hb1⟩
            have K11 := Lib.hid (K10.out.below hb1)
            have K21 := Lib.hid (K20.out.below hb1)
            have HB1 := Lib.hid (HB0.out.trans (hb1.mono HB0.out.size))
            clear hb1
            go_wp2_with fail
            refine (HT.out _).mono ?_
            rintro e w2 ⟨rfl, hb2⟩
            have K12 := Lib.hid (K11.out.below hb2)
            have K22 := Lib.hid (K21.out.below hb2)
            have HB2 := Lib.hid (HB1.out.trans (hb2.mono HB1.out.size))
            clear hb2
            obtain ⟨a0, a1, a2, af⟩ := blk3 K12.out
            obtain ⟨b0, b1, b2, bf⟩ := blk3 K22.out
            have K13 := Lib.hid (((K12.out.setOther (p := ⟨w.heap.size + 1, 0, none⟩) (by simp) (.int .i64 2)).setOther (p := ⟨w.heap.size + 1, 1, none⟩) (by simp) (.int .i64 (0))).setOther (p := ⟨w.heap.size + 1, 2, none⟩) (by simp) (.string U))
            have K23 := Lib.hid (((K22.out.set 0 (.int .i64 2)).set 1 (.int .i64 (0))).set 2 (.string U))
            have HB3 := Lib.hid (((HB2.out.setCell (p := ⟨w.heap.size + 1, 0, none⟩) (by simp) (.int .i64 2)).setCell (p := ⟨w.heap.size + 1, 1, none⟩) (by simp) (.int .i64 (0))).setCell (p := ⟨w.heap.size + 1, 2, none⟩) (by simp) (.string U))
            go_wp2_with fail
            refine (HW.out _).mono ?_
            clear HW
            rintro e w7 ⟨rfl, hb7⟩
            have K17 := Lib.hid (K13.out.below hb7)
            have K27 := Lib.hid (K23.out.below hb7)
            have HB7 := Lib.hid (HB3.out.trans (hb7.mono HB3.out.size))
            clear hb7 a0 a1 a2 af b0 b1 b2 bf
            obtain ⟨a0, a1, a2, af⟩ := blk3 K17.out
            obtain ⟨b0, b1, b2, bf⟩ := blk3 K27.out
            go_wp2_with fail
            refine (HP.out _ (HM.out.below HB7.out)).mono ?_
            clear HP
            rintro e w8 ⟨rfl, hb8⟩
            have K18 := Lib.hid (K17.out.below hb8)
            have K28 := Lib.hid (K27.out.below hb8)
            have HB8 := Lib.hid (HB7.out.trans (hb8.mono HB7.out.size))
            clear hb8 a0 a1 a2 af b0 b1 b2 bf
            obtain ⟨a0, a1, a2, af⟩ := blk3 K18.out
            obtain ⟨b0, b1, b2, bf⟩ := blk3 K28.out
            go_wp2
            refine bodyPost_ret (v := .tuple #[.agg #[.int .i64 2, .int .i64 (0), .string U], .int .i64 0]) (by simp [results, Tryd.results36, go_sem, a0, a1, a2]) rfl ⟨by rw [HOUT.out]; rfl, ?_⟩
            exact ((HB8.out.setCell (p := ⟨w.heap.size, 0, none⟩) (by simp) _).setCell (p := ⟨w.heap.size, 1, none⟩) (by simp) _).setCell (p := ⟨w.heap.size, 2, none⟩) (by simp) _
--END GEN
end Go.Proofs.YtlgohkdckdnmhaaDoor
/- value.Spread: a value's place, of any many. -/
namespace Go.Proofs.YtlgohkdckdnmhaaDoor
open Go.RowKit Go.Afx

/-- The bytes of a text, each by its place. -/
def sprN (l : List UInt8) (k : Nat) : Nat := ((List.range k).map fun i => (i + 1) * (l.getD i 0).toNat).sum
theorem sprN_next (l : List UInt8) (k : Nat) (h : k < l.length) : sprN l (k + 1) = sprN l k + (k + 1) * l[k].toNat := by
  unfold sprN
  rw [List.range_succ, List.map_append, List.sum_append]
  simp [List.getElem?_eq_getElem h]
theorem prod_le (k : Nat) (c : UInt8) (h : k < 300) : (k + 1) * c.toNat ≤ 76500 := by
  have h1 : c.toNat ≤ 255 := by have := c.toNat_lt; omega
  have h2 : (k + 1) * c.toNat ≤ 300 * 255 := Nat.mul_le_mul (by omega) h1
  omega
theorem sprN_le (l : List UInt8) (k : Nat) (h : k ≤ l.length) (hl : l.length ≤ 300) : sprN l k ≤ 76500 * k := by
  induction k with
  | zero => exact Nat.le_refl _
  | succ k ih =>
    rw [sprN_next l k (by omega)]
    have := prod_le k l[k] (by omega)
    have := ih (by omega)
    omega
/-- What is spread. -/
def spT (k n : Int) (s : ByteArray) : Int := if k = 2 then n + (sprN s.data.toList s.size : Int) else n

set_option maxRecDepth 100000 in
set_option maxHeartbeats 4000000 in
theorem spread_any (w : World) (k n : Int) (s : ByteArray) (m : Int) (hm : fits m) (hn : fits n) (hk : k = 2 → n = 0) (hs : s.size ≤ 300) :
    Calls Tryd.prog 38 #[.agg #[.int .i64 k, .int .i64 n, .string s], .int .i64 m] w fun e w' => e = .returned (.int .i64 (if m < 1 then 0 else mdN (spT k n s) m)) ∧ Below w.heap.size w w' := by
  have hb1 : Below w.heap.size w (w.alloc (.cells #[.int .i64 k, .int .i64 n, .string s] 27)) := (Below.refl _ _).alloc (Nat.le_refl _) _
  have HB1 := Lib.hid hb1
  clear hb1
  by_cases hm1 : m < 1
  · rw [if_pos hm1]
    have hd : decide (m < 1) = true := decide_eq_true hm1
    clear hm1
    go_enter Tryd.func38, Tryd.ntmps38
    go_wp2
    go_ret
    exact ⟨rfl, HB1.out⟩
  · rw [if_neg hm1]
    have hd : decide (m < 1) = false := decide_eq_false hm1
    clear hm1
    obtain ⟨b0, b1, b2, bf⟩ := blk3 (Blk.new w 27 [.int .i64 k, .int .i64 n, .string s])
    by_cases hk2 : k = 2
    · have hn0 := hk hk2
      subst hn0
      subst hk2
      have hsp : spT 2 0 s = (sprN s.data.toList s.size : Int) := by unfold spT; rw [if_pos rfl, Int.zero_add]
      rw [hsp]
      obtain ⟨l, hl⟩ : ∃ l, s.data.toList = l := ⟨_, rfl⟩
      have hsz := size_list s l hl
      rw [hl, hsz]
      have hfin : fits (sprN l l.length : Int) := by
        have := sprN_le l l.length (by omega) (by omega)
        unfold fits
        omega
      have HM := Lib.hid (fun w => mod_any w (sprN l l.length : Int) m hfin hm)
      have HLE : Hid (∀ k, k ≤ l.length → sprN l k ≤ 76500 * k) := fun k h => sprN_le l k h (by omega)
      have HNX := Lib.hid (sprN_next l)
      have kc : ∀ w, (convert 9 92 (.string s)).run Tryd.prog w = .ok (.slice (some ⟨w.heap.size, 0, none⟩) s.size (cvCap w s 5)) (cvW w s 5) := fun w => run_cv w _ _ _ s Tryd.underlying9 Tryd.underlying92 Tryd.underlying5
      clear hk hsp hfin hn hm
      go_enter Tryd.func38, Tryd.ntmps38
      go_wp2
      generalize hw1 : w.alloc (.cells #[.int .i64 2, .int .i64 0, .string s] 27) = w1 at *
      have hs1 : w1.heap.size = w.heap.size + 1 := by rw [← hw1]; simp
      have HC0 : Hid (∀ k (h : k < l.length), (cvW w1 s 5).cell? ⟨w1.heap.size, k, none⟩ = some (.int .u8 (l[k].toNat : Int))) := fun k h => cvW_cell w1 s _ _ hl k h
      have HB2 : Hid (Below w.heap.size w (cvW w1 s 5)) := HB1.out.trans ((cvW_below w1 s _).mono HB1.out.size)
      rw [hs1] at HC0
      have HC := HC0
      clear kc hw1 hl hs1 HC0 b0 b1 b2 bf
      go_loop [5, 21] (fun v i => ∃ k : Nat, i = .int .i64 k ∧ k ≤ l.length ∧ v = .int .i64 (sprN l k : Nat)) (fun _ i => l.length - (intOf i).toNat)
      case atStart => exact ⟨0, rfl, Nat.zero_le _, rfl⟩
      case round =>
        obtain ⟨k, rfl, hk, rfl⟩ := hrel
        have hle := HLE.out k hk
        by_cases hka : k < l.length
        · have hck := HC.out k hka
          have hnx := HNX.out k hka
          have hpl := prod_le k l[k] (by omega)
          have hcl := l[k].toNat_lt
          have hci : ((k : Int) + 1) * (l[k].toNat : Int) = (((k + 1) * l[k].toNat : Nat) : Int) := by rw [Int.natCast_mul]; rfl
          generalize hu2 : sprN l (k + 1) = u2 at *
          have HU2 := Lib.hid hu2
          clear hu2
          generalize sprN l k = u at *
          generalize l[k].toNat = c at *
          have HCI := Lib.hid hci
          generalize hpr : (k + 1) * c = pr at *
          clear hpr
          have hwr : IntKind.i64.wrap (c : Int) = (c : Int) := by rw [IntKind.wrap_i64]; omega
          have HNX2 := Lib.hid hnx
          clear hnx
          go_wp2
          go_round
          case rel => exact ⟨k + 1, by go_num, by omega, by rw [HU2.out]; have := HNX2.out; congr 1; omega⟩
          case measure => (simp [intOf]) <;> omega
        · obtain rfl : k = l.length := by omega
          clear hka hk hle
          generalize huu : sprN l l.length = u at *
          have HUU := Lib.hid huu
          clear huu
          go_wp2_with fail
          refine (HM.out _).mono ?_
          rintro e w5 ⟨rfl, hb5⟩
          have HB5 := Lib.hid (HB2.out.trans (hb5.mono HB2.out.size))
          clear hb5
          go_wp2
          go_ret
          exact ⟨by rw [HUU.out]; rfl, HB5.out⟩
    · have hsp : spT k n s = n := by unfold spT; rw [if_neg hk2]
      rw [hsp]
      have hz : (k == 2) = false := by rw [beq_eq_false_iff_ne]; exact hk2
      have HM := Lib.hid (fun w => mod_any w n m hn hm)
      clear hk hsp hk2
      go_enter Tryd.func38, Tryd.ntmps38
      go_wp2_with fail
      refine (HM.out _).mono ?_
      rintro e w5 ⟨rfl, hb5⟩
      have HB5 := Lib.hid (HB1.out.trans (hb5.mono HB1.out.size))
      clear hb5
      go_wp2
      go_ret
      exact ⟨rfl, HB5.out⟩
end Go.Proofs.YtlgohkdckdnmhaaDoor
/- Schemas: Keys. -/
namespace Go.Proofs.YtlgohkdckdnmhaaDoor
open Go.RowKit Go.Afx

theorem elemStr : Elem Tryd.prog 75 9 1 16 (.string ⟨#[]⟩) :=
  ⟨Tryd.underlying75, by kernel_rfl, rfl, by omega, by intro u hu; simp [Value.cells] at hu; subst hu; rfl⟩
/-- Texts, as cells. -/
def strC (l : List (List UInt8)) : List Value := l.map fun s => .string (bs s)
theorem strC_append (a b : List (List UInt8)) : strC (a ++ b) = strC a ++ strC b := by simp [strC]
theorem one_str (w : World) (s : List UInt8) : Sl (w.alloc (.cells #[.string (bs s)] 9)) (fun _ => True) 1 (.slice (some ⟨w.heap.size, 0, none⟩) 1 1) 1 (strC [s]) := by
  have := Own.made w 9 1 (strC [s]) [] 1 1 rfl (by intro u hu; simp [strC] at hu; subst hu; rfl) (Nat.le_refl _) (by simp [maxLen]) (by simp [strC])
  exact this.sl (fun _ _ => trivial)
theorem chk_right {s : SchV} {i : Int} {row : List AV} (h : chkS s i row = 0) : rightS s = true := by
  obtain ⟨_, _, _, h, _⟩ := chk_in h
  exact h
theorem chk_fit {s : SchV} {i : Int} {row : List AV} (h : chkS s i row = 0) : fitB s.cols row = true := by
  obtain ⟨_, _, _, _, h⟩ := chk_in h
  exact h
/-- A row's keys. -/
def keysO (s : SchV) (row : List AV) : List (List UInt8) := if chkS s 0 row = 0 then s.idx.map (skey s.idx row) else []
theorem map_next {α β : Type} (f : α → β) (l : List α) (k : Nat) (h : k < l.length) : (l.take (k + 1)).map f = (l.take k).map f ++ [f l[k]] := by
  rw [← List.take_append_getElem h, List.map_append]; rfl

set_option maxRecDepth 100000 in
set_option maxHeartbeats 2000000 in
theorem schkeys_any (w : World) (hm : Mx w) (B B' : Nat → Prop) (s : SchV) (v : Value) (row : List AV) (h : SchAt w B s) (hr : Sl w B' 3 v row.length (rowCells row)) (hf : ∀ a ∈ row, fit64 a.n)
    (hrl : row.length ≤ 1000) (hx : ∀ x ∈ s.idx, x.l.length ≤ 200) :
    Calls Tryd.prog 53 #[s.agg, v] w fun e w' => ∃ out, e = .returned (.tuple #[out, .int .i64 (chkS s 0 row)]) ∧ Sl w' (fun q => w.heap.size ≤ q) 1 out (keysO s row).length (strC (keysO s row)) ∧ Below w.heap.size w w' := by
  obtain ⟨nm, cv, cl, iv, il, lim, prt, by_⟩ := s
  have HS := Lib.hid h
  obtain ⟨h1, h2, h3, h4⟩ := h
  simp only at h1 h2 h3 h4 hx
  obtain ⟨pc, cc, rfl, _, hcc⟩ := h1.form
  obtain ⟨pi, ci, rfl, hci1, hci⟩ := h2.1.form
  obtain ⟨pr, cr, rfl, hpr1, hpr2⟩ := hr.form
  have hal : Below w.heap.size w (w.alloc (.cells #[.string nm, .slice pc cl.length cc, .slice pi il.length ci, .int .i64 lim, .int .i64 prt, .int .i64 by_] 47)) := (Below.refl _ _).alloc (Nat.le_refl _) _
  have HBK : Hid (Blk (w.alloc (.cells #[.string nm, .slice pc cl.length cc, .slice pi il.length ci, .int .i64 lim, .int .i64 prt, .int .i64 by_] 47)) w.heap.size 47 [.string nm, .slice pc cl.length cc, .slice pi il.length ci, .int .i64 lim, .int .i64 prt, .int .i64 by_]) := Blk.new w _ _
  have HROW := Lib.hid hr
  have HALW := Lib.hid hal
  have HM := Lib.hid hm
  have HF := Lib.hid hf
  have HX := Lib.hid hx
  obtain ⟨x0, x1, x2, x3, x4, x5⟩ := sch_cells HBK.out
  clear h1 h2 h3 h4 hal hr hcc hpr1 hpr2 hm hf hx
  simp only [SchV.agg]
  have HCK := Lib.hid (fun W hb => checked_any W B B' ⟨nm, .slice pc cl.length cc, cl, .slice pi il.length ci, il, lim, prt, by_⟩ 0 (.slice pr row.length cr) row (SchAt.below (w' := W) HS.out hb) (Sl.below (w' := W) HROW.out hb) (by omega))
  simp only [SchV.agg] at HCK
  obtain ⟨c, hc⟩ : ∃ c, chkS ⟨nm, .slice pc cl.length cc, cl, .slice pi il.length ci, il, lim, prt, by_⟩ 0 row = c := ⟨_, rfl⟩
  have hko : keysO ⟨nm, .slice pc cl.length cc, cl, .slice pi il.length ci, il, lim, prt, by_⟩ row = if c = 0 then il.map (skey il row) else [] := by unfold keysO; rw [hc]
  rw [hc] at HCK ⊢
  rw [hko]
  clear hko
  by_cases h0 : c = 0
  · subst h0
    have hrt := chk_right hc
    have hil4 : il.length ≤ 4 := by
      have := ((frontS_iff _).1 (by have h := hrt; rw [rightS_front] at h; simp only [Bool.and_eq_true] at h; exact h.1.1)).2.2.2.2.1
      simp only at this
      omega
    rw [if_pos rfl]
    have hkk := fun W hb hmm n hn => sckey_any W hmm B B' ⟨nm, .slice pc cl.length cc, cl, .slice pi il.length ci, il, lim, prt, by_⟩ n (.slice pr row.length cr) row (SchAt.below (w' := W) HS.out hb) (Sl.below (w' := W) HROW.out hb) hn HF.out hrl HX.out
    simp only [SchV.agg] at hkk
    have HKK := Lib.hid hkk
    clear hc hkk hrt
    go_enter Tryd.func53, Tryd.ntmps53
    go_wp2_with (first
      | (go_at_call 69; refine (HCK.out _ HALW.out).mono ?_; clear HCK; rintro e w2 ⟨rfl, hb2⟩; have HB2 := Lib.hid (HALW.out.trans (hb2.mono HALW.out.size)); have HBK2 := Lib.hid (HBK.out.below hb2); obtain ⟨y0, y1, y2, y3, y4, y5⟩ := sch_cells HBK2.out; clear hb2 x0 x1 x2 x3 x4 x5 y0 y1 y3 y4 y5))
    have HW2 : Hid (w.heap.size < w2.heap.size) := HBK2.out.lt
    clear y2
    go_loopw [7, 18] (fun v i wr => ∃ k : Nat, i = .int .i64 k ∧ k ≤ il.length ∧ Own wr 9 1 v ((il.take k).map (skey il row)).length (strC ((il.take k).map (skey il row))) ∧ (∀ q, v.ownBlock = some q → w2.heap.size ≤ q) ∧ Below w2.heap.size w2 wr) (fun _ i _ => il.length - (intOf i).toNat)
    case atStart => exact ⟨0, rfl, Nat.zero_le _, Own.nil _ _ _, by simp [Value.ownBlock], Below.refl _ _⟩
    case round =>
      obtain ⟨k, rfl, hk, hown, hnew, hbr⟩ := hrel
      obtain ⟨pv, cv, rfl, hcv1, hcv2⟩ := own_form3 hown
      have HOWN := Lib.hid hown
      have HNEW := Lib.hid hnew
      have HBR := Lib.hid hbr
      have HB3 := Lib.hid (HB2.out.trans (hbr.mono HB2.out.size))
      obtain ⟨y0, y1, y2, y3, y4, y5⟩ := sch_cells (HBK2.out.below hbr)
      by_cases hka : k < il.length
      · have HX1 := Lib.hid (map_next (skey il row) il k hka)
        have HKR := Lib.hid (fun W hb hmm => HKK.out W hb hmm k hka)
        have hle : ((il.take k).map (skey il row)).length ≤ il.length := by rw [List.length_map, List.length_take]; omega
        clear hown hnew hbr
        generalize skey il row il[k] = sk at *
        generalize (il.take k).map (skey il row) = acc at *
        go_wp2_with fail
        refine (HKR.out _ HB3.out (HM.out.below HB3.out)).mono ?_
        rintro e w3 ⟨rfl, hb3⟩
        have hal5 : Below w3.heap.size w3 (w3.alloc (.cells #[.string (bs sk)] 9)) := (Below.refl _ _).alloc (Nat.le_refl _) _
        have ho1 := (HOWN.out.below hb3).below hal5
        have hs1 := one_str w3 sk
        have HX5 := Lib.hid (hb3.trans (hal5.mono hb3.size))
        have HSZ : Hid (wr.heap.size ≤ w3.heap.size) := hb3.size
        clear hal5 hb3 y0 y1 y2 y3 y4 y5 HKR
        go_wp2_with (at_builtin; refine wpList_app rfl _ _ rfl elemStr (by rfl) ho1 (by rfl) hs1 (by unfold maxLen; omega) (by omega) ?_; intro v1 w7 g1 g2 g3 g4 g5; clear ho1 hs1; have G1 := Lib.hid g1; have G2 := Lib.hid g2; have G3 := Lib.hid g3; clear g1 g2 g3 g4 g5)
        have h9 : w2.heap.size ≤ wr.heap.size := HBR.out.size
        refine ⟨⟨k + 1, by go_num, by omega, ?_, fun q hq => ?_, ?_⟩, by (simp [intOf]) <;> omega⟩
        · rw [HX1.out, List.length_append, strC_append]; exact G1.out
        · rcases G3.out with h | h
          · rw [h] at hq; exact HNEW.out q hq
          · rw [h] at hq
            have := HSZ.out
            have : w3.heap.size + 1 = q := by simpa using hq
            omega
        · exact (HBR.out.trans (HX5.out.mono HBR.out.size)).trans (G2.out.below (by have := HX5.out.size; omega) (fun q hq => HNEW.out q hq))
      · obtain rfl : k = il.length := by omega
        have he := hown.sl hnew
        have hv : Value.slice pv ((il.take il.length).map (skey il row)).length cv = Value.slice pv (il.map (skey il row)).length cv := by rw [List.take_length]
        rw [List.take_length] at he
        have HE := Lib.hid (he.mono (Nat.le_refl _) (fun _ _ _ => rfl) (fun q hq _ => Nat.le_trans (Nat.le_of_lt HW2.out) hq))
        have HVV := Lib.hid hv
        clear hown hnew he hv
        go_wp2
        exact bodyPost_ret (v := .tuple #[Value.slice pv ((il.take il.length).map (skey il row)).length cv, .int .i64 0]) (by simp [results, Tryd.results53, go_sem]) rfl ⟨_, by rw [HVV.out], HE.out, HB3.out⟩
  · rw [if_neg h0]
    have hc0 : (c != 0) = true := bne_iff_ne.2 h0
    clear hc h0
    go_enter Tryd.func53, Tryd.ntmps53
    go_wp2_with (first
      | (go_at_call 69; refine (HCK.out _ HALW.out).mono ?_; clear HCK; rintro e w2 ⟨rfl, hb2⟩; have HB2 := Lib.hid (HALW.out.trans (hb2.mono HALW.out.size)); clear hb2))
    exact bodyPost_ret (v := .tuple #[.slice none 0 0, .int .i64 c]) (by simp [results, Tryd.results53, go_sem]) rfl ⟨_, rfl, ⟨rfl, Ones.nil, .inl ⟨none, 0, rfl, rfl, Nat.zero_le _, fun _ => rfl⟩⟩, HB2.out⟩
end Go.Proofs.YtlgohkdckdnmhaaDoor
/- Schemas: Part, Fits. -/
namespace Go.Proofs.YtlgohkdckdnmhaaDoor
open Go.RowKit Go.Afx

theorem right_two (v : AV) (h : v.right = true) (hk : v.kind = 2) : v.n = 0 := by
  unfold AV.right at h
  rw [hk] at h
  simp at h
  exact h.1
theorem right_size (v : AV) (h : v.right = true) : v.s.size ≤ 300 := by
  unfold AV.right at h
  simp only [Bool.or_eq_true, Bool.and_eq_true, beq_iff_eq, decide_eq_true_eq] at h
  have he : v.s.toList.isEmpty = true → v.s.size = 0 := fun h => by
    rw [toList_list v.s _ rfl] at h
    rw [size_list v.s _ rfl]
    cases hq : v.s.data.toList with
    | nil => rfl
    | cons a t => rw [hq] at h; simp at h
  rcases h with (⟨_, h⟩ | ⟨_, h⟩) | ⟨_, h⟩
  · rw [he h]; omega
  · omega
  · rw [he h]; omega
/-- A row's partition. -/
def partO (s : SchV) (row : List AV) : Int := if chkS s 0 row = 0 then (match row[s.by_.toNat]? with
  | some a => mdN (spT a.kind a.n a.s) s.parts
  | none => 0) else 0
theorem rightS_by {s : SchV} (h : rightS s = true) : 0 ≤ s.by_ ∧ s.by_ < (s.cols.length : Int) ∧ 1 ≤ s.parts ∧ s.parts ≤ 8 ∧ 1 ≤ s.limit ∧ s.limit ≤ 1000 ∧ 1 ≤ s.idx.length ∧ s.idx.length ≤ 4 ∧ s.cols.length ≤ 8 := by
  rw [rightS_front] at h
  simp only [Bool.and_eq_true] at h
  have h2 := (frontS_iff _).1 h.1.1
  unfold FrontP at h2
  omega
theorem fitB_len {cl : List ColV} {row : List AV} (h : fitB cl row = true) : row.length = cl.length ∧ rightAll row = true := by
  unfold fitB at h
  simp only [Bool.and_eq_true, decide_eq_true_eq] at h
  exact h.1

set_option maxRecDepth 100000 in
set_option maxHeartbeats 2000000 in
theorem schpart_any (w : World) (B B' : Nat → Prop) (s : SchV) (v : Value) (row : List AV) (h : SchAt w B s) (hr : Sl w B' 3 v row.length (rowCells row)) (hf : ∀ a ∈ row, fit64 a.n) (hrl : row.length ≤ 1000) :
    Calls Tryd.prog 54 #[s.agg, v] w fun e w' => e = .returned (.tuple #[.int .i64 (partO s row), .int .i64 (chkS s 0 row)]) ∧ Below w.heap.size w w' := by
  obtain ⟨nm, cv, cl, iv, il, lim, prt, by_⟩ := s
  have HS := Lib.hid h
  obtain ⟨h1, h2, h3, h4⟩ := h
  simp only at h1 h2 h3 h4
  obtain ⟨pc, cc, rfl, _, hcc⟩ := h1.form
  obtain ⟨pi, ci, rfl, hci1, hci⟩ := h2.1.form
  obtain ⟨pr, cr, rfl, hpr1, hpr2⟩ := hr.form
  have hal : Below w.heap.size w (w.alloc (.cells #[.string nm, .slice pc cl.length cc, .slice pi il.length ci, .int .i64 lim, .int .i64 prt, .int .i64 by_] 47)) := (Below.refl _ _).alloc (Nat.le_refl _) _
  have HBK : Hid (Blk (w.alloc (.cells #[.string nm, .slice pc cl.length cc, .slice pi il.length ci, .int .i64 lim, .int .i64 prt, .int .i64 by_] 47)) w.heap.size 47 [.string nm, .slice pc cl.length cc, .slice pi il.length ci, .int .i64 lim, .int .i64 prt, .int .i64 by_]) := Blk.new w _ _
  have HROW := Lib.hid hr
  have HALW := Lib.hid hal
  obtain ⟨x0, x1, x2, x3, x4, x5⟩ := sch_cells HBK.out
  clear h1 h2 h3 h4 hal hr hcc hpr1 hpr2
  simp only [SchV.agg]
  have HCK := Lib.hid (fun W hb => checked_any W B B' ⟨nm, .slice pc cl.length cc, cl, .slice pi il.length ci, il, lim, prt, by_⟩ 0 (.slice pr row.length cr) row (SchAt.below (w' := W) HS.out hb) (Sl.below (w' := W) HROW.out hb) (by omega))
  simp only [SchV.agg] at HCK
  obtain ⟨c, hc⟩ : ∃ c, chkS ⟨nm, .slice pc cl.length cc, cl, .slice pi il.length ci, il, lim, prt, by_⟩ 0 row = c := ⟨_, rfl⟩
  have hko : partO ⟨nm, .slice pc cl.length cc, cl, .slice pi il.length ci, il, lim, prt, by_⟩ row = if c = 0 then (match row[by_.toNat]? with
    | some a => mdN (spT a.kind a.n a.s) prt
    | none => 0) else 0 := by unfold partO; rw [hc]
  rw [hc] at HCK ⊢
  rw [hko]
  clear hko
  by_cases h0 : c = 0
  · subst h0
    obtain ⟨hby0, hby1, hp1, hp8, _⟩ := rightS_by (chk_right hc)
    have hfl := fitB_len (chk_fit hc)
    simp only at hby0 hby1 hp1 hp8 hfl
    obtain ⟨n, hn⟩ : ∃ n : Nat, by_ = (n : Int) := ⟨by_.toNat, by omega⟩
    subst hn
    have hnr : n < row.length := by omega
    obtain ⟨g, off, cap, hv, hg, e0, e1, e2⟩ := sl_av (HROW.out.below HALW.out) hnr
    cases hv
    have hra : row[n].right = true := by
      have := hfl.2
      unfold rightAll at this
      rw [List.all_eq_true] at this
      exact this _ (List.getElem_mem hnr)
    have hfa : fits row[n].n := hf _ (List.getElem_mem hnr)
    rw [if_pos rfl, Int.toNat_natCast, List.getElem?_eq_getElem hnr]
    simp only
    generalize row[n] = a at *
    obtain ⟨ak, an, sa⟩ := a
    have hnp : ¬ prt < 1 := by omega
    have HSP := Lib.hid (fun W => spread_any W ak an sa prt (by unfold fits; omega) hfa (fun h => right_two _ hra h) (right_size _ hra))
    simp only [if_neg hnp] at HSP e0 e1 e2
    have HG : Hid (g < (w.alloc (.cells #[.string nm, .slice pc cl.length cc, .slice pi il.length ci, .int .i64 lim, .int .i64 prt, .int .i64 (n : Int)] 47)).heap.size) := hg
    have HPL : Hid (1 ≤ prt) := hp1
    simp only at ⊢
    generalize mdN (spT ak an sa) prt = z at *
    clear hc hfl hra hfa hnp hf hp1 hp8 hby0 hby1
    go_enter Tryd.func54, Tryd.ntmps54
    go_wp2_with (first
      | (go_at_call 69; refine (HCK.out _ HALW.out).mono ?_; clear HCK; rintro e w2 ⟨rfl, hb2⟩; have HB2 := Lib.hid (HALW.out.trans (hb2.mono HALW.out.size)); obtain ⟨y0, y1, y2, y3, y4, y5⟩ := sch_cells (HBK.out.below hb2); have z0 := (hb2.cell HG.out).trans e0; have z1 := (hb2.cell HG.out).trans e1; have z2 := (hb2.cell HG.out).trans e2; clear hb2 x0 x1 x2 x3 x4 x5 e0 e1 e2 y0 y1 y2 y3))
    refine wp_region_lit_plan [] [(0, 0), (1, 0), (5, 0), (2, 1), (3, 0), (4, 1), (6, 1), (7, 4), (8, 0), (9, 0)] (fun _ => False) (by kernel_rfl) (by kernel_rfl) (fun c a d v w h => by cases d <;> exact h) ?_
    go_wp2_with (first
      | (refine plan_pure (v := _) (by rfl) (by rfl) (by rfl) (by intro _; go_simp; with_reducible rfl) ?_; simp only [List.setIfInBounds_toArray, List.set_cons_zero, List.set_cons_succ]; try go_bits) | (refine plan_read (v := _) (by rfl) (by rfl) (by rfl) (by go_simp; with_reducible rfl) ?_; simp only [List.setIfInBounds_toArray, List.set_cons_zero, List.set_cons_succ]; try go_bits) | (refine plan_readB (v := _) (by rfl) (by rfl) (by rfl) (by intro _ hag; unfold Agree at hag; go_simp; with_reducible rfl) ?_; simp only [List.setIfInBounds_toArray, List.set_cons_zero, List.set_cons_succ]; try go_bits) | (refine plan_skip0 (by rfl) (by rfl) (by rfl) ?_; simp only [List.setIfInBounds_toArray, List.set_cons_zero, List.set_cons_succ]; try go_bits) | (refine plan_skip1 (by rfl) (by rfl) (by rfl) ?_; simp only [List.setIfInBounds_toArray, List.set_cons_zero, List.set_cons_succ]; try go_bits) | (refine plan_skip2 (by rfl) (by rfl) (by rfl) ?_; simp only [List.setIfInBounds_toArray, List.set_cons_zero, List.set_cons_succ]; try go_bits) | (refine plan_skip4 (by rfl) (by rfl) (by rfl) ?_; simp only [List.setIfInBounds_toArray, List.set_cons_zero, List.set_cons_succ]; try go_bits) | (refine plan_any (by rfl) ?_) | (refine plan_keep (by rfl) ?_) | (refine plan_nil ?_) | (with_reducible refine And.intro (by first | assumption | exact Agree.refl _ _ | exact agree_drew _ _ | exact agree_alloc _ (by intro k hk; subst hk; first | omega | (simp; omega))) ?_) | (unfold Act.put; simp only [List.setIfInBounds_toArray, List.set_cons_zero, List.set_cons_succ])
      | (go_at_call 38; refine (HSP.out _).mono ?_; clear HSP; rintro e w3 ⟨rfl, hb3⟩; have HB3 := Lib.hid (HB2.out.drew.trans (hb3.mono HB2.out.size)); clear hb3))
    exact bodyPost_ret (v := .tuple #[.int .i64 z, .int .i64 0]) (by simp [results, Tryd.results54, go_sem]) rfl ⟨rfl, HB3.out⟩
  · rw [if_neg h0]
    have hc0 : (c != 0) = true := bne_iff_ne.2 h0
    clear hc h0
    go_enter Tryd.func54, Tryd.ntmps54
    go_wp2_with (first
      | (go_at_call 69; refine (HCK.out _ HALW.out).mono ?_; clear HCK; rintro e w2 ⟨rfl, hb2⟩; have HB2 := Lib.hid (HALW.out.trans (hb2.mono HALW.out.size)); clear hb2))
    exact bodyPost_ret (v := .tuple #[.int .i64 0, .int .i64 c]) (by simp [results, Tryd.results54, go_sem]) rfl ⟨rfl, HB2.out⟩

set_option maxRecDepth 100000 in
set_option maxHeartbeats 2000000 in
theorem schfits_any (w : World) (B B' : Nat → Prop) (s : SchV) (v : Value) (row : List AV) (h : SchAt w B s) (hr : Sl w B' 3 v row.length (rowCells row)) (hrl : row.length ≤ 1000) :
    Calls Tryd.prog 33 #[s.agg, v] w fun e w' => e = .returned (.bool (rightS s && fitB s.cols row)) ∧ Below w.heap.size w w' := by
  obtain ⟨nm, cv, cl, iv, il, lim, prt, by_⟩ := s
  have HS := Lib.hid h
  obtain ⟨h1, h2, h3, h4⟩ := h
  simp only at h1 h2 h3 h4
  obtain ⟨pc, cc, rfl, _, hcc⟩ := h1.form
  obtain ⟨pi, ci, rfl, hci1, hci⟩ := h2.1.form
  obtain ⟨pr, cr, rfl, hpr1, hpr2⟩ := hr.form
  have hal : Below w.heap.size w (w.alloc (.cells #[.string nm, .slice pc cl.length cc, .slice pi il.length ci, .int .i64 lim, .int .i64 prt, .int .i64 by_] 47)) := (Below.refl _ _).alloc (Nat.le_refl _) _
  have HBK : Hid (Blk (w.alloc (.cells #[.string nm, .slice pc cl.length cc, .slice pi il.length ci, .int .i64 lim, .int .i64 prt, .int .i64 by_] 47)) w.heap.size 47 [.string nm, .slice pc cl.length cc, .slice pi il.length ci, .int .i64 lim, .int .i64 prt, .int .i64 by_]) := Blk.new w _ _
  have HROW := Lib.hid hr
  have HALW := Lib.hid hal
  obtain ⟨x0, x1, x2, x3, x4, x5⟩ := sch_cells HBK.out
  simp only [SchV.agg]
  have HRT := Lib.hid (fun W hb => schright_any W B ⟨nm, .slice pc cl.length cc, cl, .slice pi il.length ci, il, lim, prt, by_⟩ (SchAt.below (w' := W) HS.out hb))
  have HFT := Lib.hid (fun W hb => scfits_any W B B' (.slice pc cl.length cc) (.slice pr row.length cr) cl row (Sl.below (w' := W) h1 hb) (Sl.below (w' := W) HROW.out hb) (by omega))
  simp only [SchV.agg] at HRT
  generalize rightS _ = r1 at *
  generalize fitB cl row = r2 at *
  clear h1 h2 h3 h4 hal hr hcc hpr1 hpr2 HS
  cases r1
  · simp only [Bool.false_and]
    go_enter Tryd.func33, Tryd.ntmps33
    go_wp2_with (first
      | (go_at_call 49; refine (HRT.out _ HALW.out).mono ?_; clear HRT; rintro e w2 ⟨rfl, hb2⟩; have HB2 := Lib.hid (HALW.out.trans (hb2.mono HALW.out.size)); clear hb2))
    go_ret
    exact ⟨rfl, HB2.out⟩
  · simp only [Bool.true_and]
    go_enter Tryd.func33, Tryd.ntmps33
    go_wp2_with (first
      | (go_at_call 49; refine (HRT.out _ HALW.out).mono ?_; clear HRT; rintro e w2 ⟨rfl, hb2⟩; have HB2 := Lib.hid (HALW.out.trans (hb2.mono HALW.out.size)); obtain ⟨y0, y1, y2, y3, y4, y5⟩ := sch_cells (HBK.out.below hb2); clear hb2 x0 x1 x2 x3 x4 x5)
      | (go_at_call 68; refine (HFT.out _ HB2.out).mono ?_; clear HFT; rintro e w3 ⟨rfl, hb3⟩; have HB3 := Lib.hid (HB2.out.trans (hb3.mono HB2.out.size)); clear hb3))
    go_ret
    exact ⟨rfl, HB3.out⟩
end Go.Proofs.YtlgohkdckdnmhaaDoor
/- Plain: what a row's check says, in each case. -/
namespace Go.Proofs.YtlgohkdckdnmhaaDoor
open Go.RowKit Go.Afx

theorem chk_no (s : SchV) (i : Int) (row : List AV) (h : rightS s = false) : chkS s i row = 1 := by
  unfold chkS; rw [if_pos (.inl h)]
theorem chk_out (s : SchV) (i : Int) (row : List AV) (h : (decide (0 ≤ i) && decide (i < (s.idx.length : Int))) = false) : chkS s i row = 1 := by
  unfold chkS
  refine if_pos (.inr ?_)
  rw [Bool.and_eq_false_iff, decide_eq_false_iff_not, decide_eq_false_iff_not] at *
  omega
theorem chk_unfit (s : SchV) (i : Int) (row : List AV) (hr : rightS s = true) (hi : (decide (0 ≤ i) && decide (i < (s.idx.length : Int))) = true) (hf : fitB s.cols row = false) : chkS s i row = 13 := by
  unfold chkS
  rw [if_neg, if_pos hf]
  rw [not_or, hr]
  rw [Bool.and_eq_true, decide_eq_true_eq, decide_eq_true_eq] at hi
  refine ⟨by simp, ?_⟩
  rw [Bool.not_eq_false, Bool.and_eq_true, decide_eq_true_eq, decide_eq_true_eq]
  omega
theorem chk_ok (s : SchV) (i : Int) (row : List AV) (hr : rightS s = true) (hi : (decide (0 ≤ i) && decide (i < (s.idx.length : Int))) = true) (hf : fitB s.cols row = true) : chkS s i row = 0 := by
  unfold chkS
  rw [if_neg, if_neg (by rw [hf]; simp)]
  rw [not_or, hr]
  rw [Bool.and_eq_true, decide_eq_true_eq, decide_eq_true_eq] at hi
  refine ⟨by simp, ?_⟩
  rw [Bool.not_eq_false, Bool.and_eq_true, decide_eq_true_eq, decide_eq_true_eq]
  omega
theorem keyO_no {s : SchV} {i : Int} {row : List AV} (h : chkS s i row ≠ 0) : bs (keyO s i row) = ⟨#[]⟩ := by unfold keyO; rw [if_neg h]; rfl
theorem keysO_no {s : SchV} {row : List AV} (h : chkS s 0 row ≠ 0) : keysO s row = [] := by unfold keysO; rw [if_neg h]
theorem partO_no {s : SchV} {row : List AV} (h : chkS s 0 row ≠ 0) : partO s row = 0 := by unfold partO; rw [if_neg h]
theorem rightS_in {s : SchV} (h : rightS s = true) (row : List AV) (hl : row.length = s.cols.length) : ∀ x ∈ s.idx, x.l.all (inR row) = true := by
  rw [rightS_front] at h
  simp only [Bool.and_eq_true, List.all_eq_true] at h
  intro x hx
  have h2 := h.2.1 x hx
  unfold placesB at h2
  simp only [Bool.and_eq_true, List.all_eq_true] at h2 ⊢
  intro c hc
  have h3 := h2.1 c hc
  unfold placeOk at h3
  unfold inR
  rw [hl]
  exact h3
end Go.Proofs.YtlgohkdckdnmhaaDoor
/- Schemas: the document's example. -/
namespace Go.Proofs.YtlgohkdckdnmhaaDoor
open Go.RowKit Go.Afx

def exRow : List AV := [⟨1, 1, ⟨#[]⟩⟩, ⟨2, 0, ⟨#[120]⟩⟩]
def exS (a b c d : Value) : SchV := ⟨⟨#[116]⟩, a, [⟨⟨#[97]⟩, 1⟩, ⟨⟨#[98]⟩, 2⟩], b, [⟨c, [0], true⟩, ⟨d, [1], false⟩], 5, 1, 0⟩
theorem exS_right (a b c d : Value) : rightS (exS a b c d) = true := by kernel_rfl
theorem exS_chk (a b c d : Value) : chkS (exS a b c d) 1 exRow = 0 := by
  unfold chkS
  rw [exS_right]
  have h1 : fitB (exS a b c d).cols exRow = true := by kernel_rfl
  rw [h1]
  rfl
theorem exS_key (a b c d : Value) : bs (keyO (exS a b c d) 1 exRow) = ⟨#[2, 120, 0, 1, 1, 128, 0, 0, 0, 0, 0, 0, 1]⟩ := by
  unfold keyO
  rw [exS_chk]
  kernel_rfl

set_option maxRecDepth 100000 in
set_option maxHeartbeats 2000000 in
theorem awake03_any (w : World) (hm : Mx w) : Calls Tryd.prog 29 #[] w fun e w' => e = .returned (.bool true) ∧ Below w.heap.size w w' := by
  obtain ⟨w1, hw1⟩ : ∃ w1, w.alloc (.cells #[.string ⟨#[97]⟩, .int .i64 1, .string ⟨#[98]⟩, .int .i64 2] 66) = w1 := ⟨_, rfl⟩
  obtain ⟨w2, hw2⟩ : ∃ w2, w1.alloc (.cells #[.int .i64 0] 3) = w2 := ⟨_, rfl⟩
  obtain ⟨w3, hw3⟩ : ∃ w3, w2.alloc (.cells #[.int .i64 1] 3) = w3 := ⟨_, rfl⟩
  obtain ⟨w4, hw4⟩ : ∃ w4, w3.alloc (.cells #[.slice (some ⟨w1.heap.size, 0, none⟩) 1 1, .bool true, .slice (some ⟨w2.heap.size, 0, none⟩) 1 1, .bool false] 55) = w4 := ⟨_, rfl⟩
  obtain ⟨w5, hw5⟩ : ∃ w5, w4.alloc (.cells #[.string ⟨#[116]⟩, .slice (some ⟨w.heap.size, 0, none⟩) 2 2, .slice (some ⟨w3.heap.size, 0, none⟩) 2 2, .int .i64 5, .int .i64 1, .int .i64 0] 47) = w5 := ⟨_, rfl⟩
  obtain ⟨w6, hw6⟩ : ∃ w6, w5.alloc (.cells #[.int .i64 1, .int .i64 1, .string ⟨#[]⟩, .int .i64 2, .int .i64 0, .string ⟨#[120]⟩] 27) = w6 := ⟨_, rfl⟩
  have b1 : Below w.heap.size w w1 := hw1 ▸ (Below.refl _ _).alloc (Nat.le_refl _) _
  have b2 : Below w1.heap.size w1 w2 := hw2 ▸ (Below.refl _ _).alloc (Nat.le_refl _) _
  have b3 : Below w2.heap.size w2 w3 := hw3 ▸ (Below.refl _ _).alloc (Nat.le_refl _) _
  have b4 : Below w3.heap.size w3 w4 := hw4 ▸ (Below.refl _ _).alloc (Nat.le_refl _) _
  have b5 : Below w4.heap.size w4 w5 := hw5 ▸ (Below.refl _ _).alloc (Nat.le_refl _) _
  have b6 : Below w5.heap.size w5 w6 := hw6 ▸ (Below.refl _ _).alloc (Nat.le_refl _) _
  have c56 : Below w4.heap.size w4 w6 := b5.trans (b6.mono b5.size)
  have c46 : Below w3.heap.size w3 w6 := b4.trans (c56.mono b4.size)
  have c36 : Below w2.heap.size w2 w6 := b3.trans (c46.mono b3.size)
  have c26 : Below w1.heap.size w1 w6 := b2.trans (c36.mono b2.size)
  have c16 : Below w.heap.size w w6 := b1.trans (c26.mono b1.size)
  have o1 : Own w1 66 2 (.slice (some ⟨w.heap.size, 0, none⟩) 2 2) 2 (colCells [⟨⟨#[97]⟩, 1⟩, ⟨⟨#[98]⟩, 2⟩]) := by
    rw [← hw1]; exact Own.made w 66 2 _ [] 2 2 rfl (by intro u hu; simp [colCells, ColV.cells] at hu; rcases hu with rfl | rfl | rfl | rfl <;> rfl) (by omega) (by simp [maxLen]) (by simp [colCells, ColV.cells])
  have o2 : Own w2 3 1 (.slice (some ⟨w1.heap.size, 0, none⟩) 1 1) 1 (ints [0]) := by
    rw [← hw2]; exact Own.made w1 3 1 _ [] 1 1 rfl (by intro u hu; simp [ints] at hu; subst hu; rfl) (by omega) (by simp [maxLen]) (by simp [ints])
  have o3 : Own w3 3 1 (.slice (some ⟨w2.heap.size, 0, none⟩) 1 1) 1 (ints [1]) := by
    rw [← hw3]; exact Own.made w2 3 1 _ [] 1 1 rfl (by intro u hu; simp [ints] at hu; subst hu; rfl) (by omega) (by simp [maxLen]) (by simp [ints])
  have o4 : Own w4 55 2 (.slice (some ⟨w3.heap.size, 0, none⟩) 2 2) 2 (idxCells [⟨.slice (some ⟨w1.heap.size, 0, none⟩) 1 1, [0], true⟩, ⟨.slice (some ⟨w2.heap.size, 0, none⟩) 1 1, [1], false⟩]) := by
    rw [← hw4]; exact Own.made w3 55 2 _ [] 2 2 rfl (by intro u hu; simp [idxCells, IdxV.cells] at hu; rcases hu with rfl | rfl | rfl | rfl <;> rfl) (by omega) (by simp [maxLen]) (by simp [idxCells, IdxV.cells])
  have o6 : Own w6 27 3 (.slice (some ⟨w5.heap.size, 0, none⟩) 2 2) 2 (rowCells exRow) := by
    rw [← hw6]; exact Own.made w5 27 3 _ [] 2 2 rfl (by intro u hu; simp [exRow, rowCells, AV.cells] at hu; rcases hu with rfl | rfl | rfl | rfl | rfl | rfl <;> rfl) (by omega) (by simp [maxLen]) (by simp [exRow, rowCells, AV.cells])
  have hs5 : w5.heap.size = w4.heap.size + 1 := by rw [← hw5]; simp
  rw [hs5] at o6
  have HBK : Hid (Blk w5 w4.heap.size 47 [.string ⟨#[116]⟩, .slice (some ⟨w.heap.size, 0, none⟩) 2 2, .slice (some ⟨w3.heap.size, 0, none⟩) 2 2, .int .i64 5, .int .i64 1, .int .i64 0]) := by show Blk _ _ _ _; rw [← hw5]; exact Blk.new w4 _ _
  have hsa : SchAt w6 (fun _ => True) (exS (.slice (some ⟨w.heap.size, 0, none⟩) 2 2) (.slice (some ⟨w3.heap.size, 0, none⟩) 2 2) (.slice (some ⟨w1.heap.size, 0, none⟩) 1 1) (.slice (some ⟨w2.heap.size, 0, none⟩) 1 1)) := by
    refine ⟨(o1.sl (fun _ _ => trivial)).below c26, ⟨(o4.sl (fun _ _ => trivial)).below c56, ?_⟩, ?_, by show (1 : Nat) ≤ maxLen; decide⟩
    · intro x hx
      simp only [exS, List.mem_cons, List.not_mem_nil, or_false] at hx
      rcases hx with rfl | rfl
      · exact (o2.sl (fun _ _ => trivial)).below c36
      · exact (o3.sl (fun _ _ => trivial)).below c46
    · intro c hc
      simp only [exS, List.mem_cons, List.not_mem_nil, or_false] at hc
      rcases hc with rfl | rfl <;> decide
  have hkey := schkey_any w6 (hm.below c16) _ (fun _ => True) _ 1 _ exRow hsa (o6.sl (fun _ _ => trivial)) (by intro a ha; simp [exRow] at ha; rcases ha with rfl | rfl <;> simp [fit64]) (by decide) (by intro x hx; simp [exS] at hx; rcases hx with rfl | rfl <;> simp)
  rw [exS_chk, exS_key] at hkey
  have HK := Lib.hid hkey
  have hrt := fun W hb => schright_any W _ _ (SchAt.below (w' := W) hsa hb)
  simp only [exS_right] at hrt
  simp only [SchV.agg, exS] at hrt HK
  have HRT := Lib.hid hrt
  have HB6 := Lib.hid c16
  have HX6 := Lib.hid b6
  obtain ⟨x0, x1, x2, x3, x4, x5⟩ := sch_cells HBK.out
  have HW5 := Lib.hid hw5
  have HW6 := Lib.hid hw6
  clear hw5 hw6 hs5 b1 b2 b3 b4 b5 b6 c56 c46 c36 c26 c16 o1 o2 o3 o4 o6 hsa hkey hrt hm
  go_enter Tryd.func29, Tryd.ntmps29
  go_wp2_with fail
  clear hw1 hw2 hw3 hw4 x0 x1 x2 x3 x4 x5
  rw [HW5.out, HW6.out]
  refine HK.out.mono ?_
  rintro e w7 ⟨rfl, hb7⟩
  obtain ⟨x0, x1, x2, x3, x4, x5⟩ := sch_cells ((HBK.out.below HX6.out).below hb7)
  have HB7 := Lib.hid (HB6.out.trans (hb7.mono HB6.out.size))
  have HRR := Lib.hid (HRT.out w7 hb7)
  clear hb7 HRT
  go_wp2_with fail
  refine HRR.out.mono ?_
  rintro e w8 ⟨rfl, hb8⟩
  have HB8 := Lib.hid (HB7.out.trans (hb8.mono HB7.out.size))
  clear hb8
  go_wp2
  go_ret
  exact ⟨rfl, HB8.out⟩
end Go.Proofs.YtlgohkdckdnmhaaDoor
