/- The document's parse. -/
import Derived.Test.YtlgohkdckdnmhaaDoorRefPrint
namespace Go.Proofs.YtlgohkdckdnmhaaDoor
open Go.RowKit Go.Afx

/-- The digits of the last k bytes, the last one first. -/
def lows (r : List UInt8) : List Nat := r.reverse.map fun c => c.toNat - 48
theorem lows_cons (c : UInt8) (r : List UInt8) : lows (c :: r) = lows r ++ [c.toNat - 48] := by simp [lows]
theorem lows_D10 (r : List UInt8) (h : ∀ c ∈ r, dig c) : D10 (lows r) := by
  intro x hx
  obtain ⟨c, hc, rfl⟩ := List.mem_map.1 hx
  have := h c (List.mem_reverse.1 hc)
  unfold dig at this
  omega
theorem vd_lows (r : List UInt8) : vd (lows r) = valN r := by
  have h : ∀ (r : List UInt8) (a : Nat), r.foldl (fun n c => n * 10 + (c.toNat - 48)) a = a * 10 ^ r.length + vd (lows r) := by
    intro r
    induction r with
    | nil => intro a; simp [lows, vd]
    | cons c r ih =>
      intro a
      rw [List.foldl_cons, ih, lows_cons, vd_append, List.length_cons, Nat.pow_succ]
      have : (lows r).length = r.length := by simp [lows]
      rw [this]
      simp only [vd, Nat.mul_zero, Nat.add_zero]
      rw [Nat.add_mul, Nat.mul_assoc, Nat.mul_comm 10 (10 ^ r.length), Nat.mul_comm (c.toNat - 48)]
      omega
  have := h r 0
  unfold valN
  rw [this]; simp
/-- What stands in a byte. -/
theorem byte_at (s : ByteArray) (l : List UInt8) (h : s.data.toList = l) (i : Nat) (hi : i < s.size) (hi2 : i < l.length) : ((s[i]'hi).toNat : Int) = (l[i].toNat : Int) := by
  rw [get_list s l h i hi hi2]

set_option maxRecDepth 100000 in
set_option maxHeartbeats 4000000 in
theorem refparse_any (w : World) (s : ByteArray) (l : List UInt8) (hs : s.data.toList = l) (hl : l.length ≤ 1000) :
    Calls Tryd.prog 78 #[.string s] w fun e w' => e = .returned (.tuple #[.int .i64 (prsN l), .int .i64 (prsE l)]) ∧ Below w.heap.size w w' := by
  cases l with
  | nil =>
    obtain rfl := nil_list s hs
    have e1 : prsN [] = 0 := by rfl
    have e2 : prsE [] = 12 := by rfl
    rw [e1, e2]
    clear hs
    have hsz : (ByteArray.empty.size : Int) = 0 := rfl
    go_enter Tryd.func78, Tryd.ntmps78
    have hb0 : Below w.heap.size w (w.alloc (.cells #[.bool false, .slice none 0 0] 103)) := (Below.refl _ _).alloc (Nat.le_refl _) _
    go_wp2
    generalize (w.alloc (.cells #[.bool false, .slice none 0 0] 103)) = w1 at *
    go_loopw [6] (fun i wr => i = .int .i64 (-1) ∧ Below w.heap.size w wr) (fun _ _ => 0)
    case atStart => exact ⟨rfl, hb0⟩
    case round =>
      obtain ⟨rfl, hb⟩ := hrel
      go_wp2
      go_ret2
      exact ⟨rfl, hb⟩
  | cons c t =>
  generalize hpn : prsN (c :: t) = pn
  generalize hpe : prsE (c :: t) = pe
  have hsz0 := size_list s _ hs
  have h0 : 0 < s.size := by rw [hsz0]; simp
  have h0i : (0 : Int) < s.size := by omega
  have hc : ((s[0]'h0).toNat : Int) = (c.toNat : Int) := byte_at s _ hs 0 h0 (by simp)
  by_cases h45 : c = 45
  · subst h45
    have hc2 : ((s[0]'h0).toNat : Int) = 45 := hc
    have HPN : Hid (numN true t = pn) := hpn
    have HPE : Hid (numE true t = pe) := hpe
    have HRB : Hid (∀ (i : Nat) (hi : i < t.length) (h : 1 + i < s.size), ((s[1 + i]'h).toNat : Int) = (t[i].toNat : Int)) := fun i hi h => by
      have := byte_at s _ hs (1 + i) h (by rw [List.length_cons]; omega)
      rw [this]
      congr 2
      have : ∀ (j : Nat) (hj : j < ((45 : UInt8) :: t).length), j = i + 1 → ((45 : UInt8) :: t)[j] = t[i] := fun j hj e => by subst e; rfl
      exact this _ _ (by omega)
    have hl2 : t.length ≤ 1000 := by rw [List.length_cons] at hl; omega
    rw [List.length_cons] at hsz0
    clear hc hpn hpe hs hl
    generalize t = r at *
    have hssz : s.size = r.length + 1 := by rw [hsz0]
    clear hsz0
    have HK0 : Hid (Blk (w.alloc (.cells #[.bool false, .slice none 0 0] 103)) w.heap.size 103 [.bool false, .slice none 0 0]) := Blk.new w _ _
    have HB0 : Hid (Below w.heap.size w (w.alloc (.cells #[.bool false, .slice none 0 0] 103))) := (Below.refl _ _).alloc (Nat.le_refl _) _
    have HSZ0 : Hid (w.heap.size < (w.alloc (.cells #[.bool false, .slice none 0 0] 103)).heap.size) := by show _ < _; simp
    have hszi : (s.size : Int) - 1 = (1 : Int) + r.length - 1 := by omega
    go_enter Tryd.func78, Tryd.ntmps78
    go_wp2
    generalize (w.alloc (.cells #[.bool false, .slice none 0 0] 103)) = w1 at *
    clear hc2
    go_loopw [6] (fun i wr => ∃ (j : Nat) (dv : Value), i = .int .i64 ((1 : Int) + j - 1) ∧ j ≤ r.length ∧ (∀ c ∈ r.drop j, dig c) ∧ Blk wr w.heap.size 103 [.bool false, dv] ∧ Own wr 3 1 dv (lows (r.drop j)).length (nats (lows (r.drop j))) ∧ (∀ q, dv.ownBlock = some q → w.heap.size < q) ∧ Below w.heap.size w wr ∧ w.heap.size < wr.heap.size) (fun i _ => (intOf i + 1).toNat)
    case atStart =>
      refine ⟨r.length, .slice none 0 0, ?_, Nat.le_refl _, by rw [List.drop_length]; simp, HK0.out, ?_, by simp [Value.ownBlock], HB0.out, HSZ0.out⟩
      · first | rfl | rw [hszi] | (congr 1; omega)
      · rw [List.drop_length]; exact Own.nil _ _ _
    case round =>
      obtain ⟨j, dv, h6, hj, hdg, hk, how, hfr, hbw, hsz⟩ := hrel
      obtain ⟨p4, c4, rfl, hc41, hc42⟩ := own_form1 how
      have HDG := Lib.hid hdg
      have HK := Lib.hid hk
      have HW := Lib.hid how
      have HF := Lib.hid hfr
      have HBW := Lib.hid hbw
      have k1 : wr.cell? ⟨w.heap.size, 1, none⟩ = some (.slice p4 (lows (r.drop j)).length c4) := hk.cell 1
      have hf : ∀ i, wr.frozen? ⟨w.heap.size, i, none⟩ = false := hk.frozen
      clear hdg hk how hfr hbw
      rcases Nat.eq_zero_or_pos j with hj0 | hpos
      · subst hj0
        have e6 : (1 : Int) + ((0 : Nat) : Int) - 1 = 1 - 1 := by omega
        rw [e6] at h6
        subst h6
        have hrl : r.length ≤ 1000 := by omega
        rw [List.drop_zero] at k1
        have hll : (lows r).length = r.length := by simp [lows]
        rw [hll] at k1
        have HDG0 : Hid (∀ c ∈ r, dig c) := by have := HDG.out; rwa [List.drop_zero] at this
        have HSL : Hid (Sl wr (fun k => w.heap.size < k) 1 (.slice p4 r.length c4) (lows r).length (nats (lows r))) := by
          have h1 := HW.out.sl (B := fun k => w.heap.size < k) HF.out
          rw [List.drop_zero] at h1
          rw [← hll]; exact h1
        clear e6 hll HDG HW HF hf
        cases hok : headOk true r with
        | false =>
          have hbad : ¬ right true r := fun h => by have := h.1; rw [hok] at this; exact absurd this (by decide)
          have e1 : numN true r = 0 := by unfold numN; rw [if_neg hbad]
          have e2 : numE true r = 12 := by unfold numE; rw [if_neg hbad]
          rw [e1] at HPN
          rw [e2] at HPE
          obtain rfl := HPN.out
          obtain rfl := HPE.out
          clear HPN HPE hbad e1 e2
          cases r with
          | nil =>
            have hs0 : (s.size : Int) = 1 := by rw [hssz]; rfl
            clear hssz hszi HRB HSL HDG0
            go_wp2
            go_ret2
            exact ⟨rfl, HBW.out⟩
          | cons c t =>
            obtain ⟨h48, hb⟩ := headOk_not hok
            have hfs : 1 < s.size := by rw [hssz, List.length_cons]; omega
            have hcs : ((s[1]'hfs).toNat : Int) = 48 := by
              rw [← h48]
              exact HRB.out 0 (by simp) hfs
            have hs1 : (1 : Int) < s.size := by
              rw [hssz, List.length_cons]
              omega
            have hs2 : ((s.size : Int) == 1) = false := by rw [beq_eq_false_iff_ne]; omega
            clear hssz hszi HRB HSL HDG0 hb
            go_wp2
            go_ret2
            exact ⟨rfl, HBW.out⟩
        | true =>
          have hr : right true r := ⟨hok, HDG0.out⟩
          have e1 : pn = shortN (sgn true (valN r)) := by rw [← HPN.out]; unfold numN; rw [if_pos hr]
          have e2 : pe = shortE (sgn true (valN r)) := by rw [← HPE.out]; unfold numE; rw [if_pos hr]
          have HSG : Hid (Calls Tryd.prog 104 #[.bool true, .slice p4 r.length c4] wr fun e w' => ∃ v', e = .returned v' ∧ IsNum w' (fun k => w.heap.size < k) v' (sgn true (valN r)) ∧ Below wr.heap.size wr w') := by
            have h1 := sign_any wr _ true _ (lows r) (lows_D10 r HDG0.out) HSL.out (by simp [lows]; omega)
            rwa [vd_lows] at h1
          have hlz : Hid ((ld (sgn true (valN r) : Int).natAbs).length ≤ 10000) := by
            have h1 := vd_lt (lows r) (lows_D10 r HDG0.out)
            rw [vd_lows] at h1
            have h2 := ld_len_le _ _ h1
            have h3 : (lows r).length = r.length := by simp [lows]
            have h4 : (sgn true (valN r) : Int).natAbs = valN r := by unfold sgn; simp
            show _ ≤ _
            rw [h4]; omega
          cases r with
          | nil => exact absurd hok (by decide)
          | cons c t =>
            have hfs : 1 < s.size := by rw [hssz, List.length_cons]; omega
            have hcs : ((s[1]'hfs).toNat : Int) = (c.toNat : Int) := HRB.out 0 (by simp) hfs
            have hhd := headOk_cons hok
            have hs2 : ((s.size : Int) == 1) = false := by rw [beq_eq_false_iff_ne, hssz, List.length_cons]; omega
            have hs3 : t = [] → (s.size : Int) = 1 + 1 := fun h => by subst h; rw [hssz]; simp
            clear HPN HPE hr hok HRB HSL HDG0 hssz hszi
            generalize (sgn true (valN (c :: t)) : Int) = z at *
            generalize (c :: t).length = rl at *
            rcases hhd with hhd | ⟨hng, hhd, ht⟩
            · by_cases hfz : fits z
              · have DFZ : Hid (decide (fits z) = true) := decide_eq_true hfz
                have e3 : shortE z = 0 := by unfold shortE; rw [if_pos hfz]
                rw [e3] at e2
                subst e2
                have SNZ : Hid (shortN z = pn) := e1.symm
                clear e1 e3 hfz
                go_wp2_with (first
                  | (go_at_call 104; refine HSG.out.mono ?_; rintro e w5 ⟨v5, rfl, hn5, hb5⟩; obtain ⟨s5, p5, l5, c5, rfl⟩ := hn5.parts; have HN5 := Lib.hid hn5; have HB5 := Lib.hid (HBW.out.trans (hb5.mono HBW.out.size)); clear hn5 hb5)
                  | (go_at_call 108; refine (small_num w5 _ z (HN5.out.weak fun _ _ => trivial) hlz.out).mono ?_; rw [DFZ.out, SNZ.out]; rintro e w6 ⟨rfl, hb6⟩))
                go_ret2
                exact ⟨rfl, HB5.out.trans (hb6.mono HB5.out.size)⟩
              · have DFZ : Hid (decide (fits z) = false) := decide_eq_false hfz
                have e3 : shortE z = 2 := by unfold shortE; rw [if_neg hfz]
                have e4 : shortN z = 0 := by unfold shortN; rw [if_neg hfz]
                rw [e3] at e2
                subst e2
                rw [e4] at e1
                subst e1
                have SNZ : Hid (shortN z = 0) := e4
                clear e3 e4 hfz
                go_wp2_with (first
                  | (go_at_call 104; refine HSG.out.mono ?_; rintro e w5 ⟨v5, rfl, hn5, hb5⟩; obtain ⟨s5, p5, l5, c5, rfl⟩ := hn5.parts; have HN5 := Lib.hid hn5; have HB5 := Lib.hid (HBW.out.trans (hb5.mono HBW.out.size)); clear hn5 hb5)
                  | (go_at_call 108; refine (small_num w5 _ z (HN5.out.weak fun _ _ => trivial) hlz.out).mono ?_; rw [DFZ.out, SNZ.out]; rintro e w6 ⟨rfl, hb6⟩))
                go_ret2
                exact ⟨rfl, HB5.out.trans (hb6.mono HB5.out.size)⟩
            · exact absurd hng (by decide)
      · obtain ⟨i, rfl⟩ : ∃ i, j = i + 1 := ⟨j - 1, by omega⟩
        have hir : i < r.length := by omega
        obtain ⟨m, hm⟩ : ∃ m : Nat, m = 1 + i := ⟨_, rfl⟩
        have hmi : (1 : Int) + ((i + 1 : Nat) : Int) - 1 = m := by omega
        rw [hmi] at h6
        subst h6
        have hms : m < s.size := by omega
        have hb := HRB.out i hir (by omega : 1 + i < s.size)
        have hbm : ((s[m]'hms).toNat : Int) = (r[i].toNat : Int) := by subst hm; rw [Nat.add_comm] at *; simpa [Nat.add_comm] using hb
        have hx256 : (r[i].toNat : Int) < 256 := by have := r[i].toNat_lt; omega
        have hx0 : (0 : Int) ≤ (r[i].toNat : Int) := by omega
        have hm0 : (1 : Int) ≤ m := by omega
        have hcd : (dig r[i] ∧ 48 ≤ (r[i].toNat : Int) ∧ (r[i].toNat : Int) ≤ 57) ∨ (¬ dig r[i] ∧ ((r[i].toNat : Int) < 48 ∨ 48 ≤ (r[i].toNat : Int) ∧ 57 < (r[i].toNat : Int))) := by unfold dig; omega
        have hmem : r[i] ∈ r := List.getElem_mem hir
        rcases hcd with ⟨hd1, hd2, hd3⟩ | ⟨hd1, hd2⟩
        · have HDN : Hid (∀ c ∈ r.drop i, dig c) := fun c hc => by
            rw [List.drop_eq_getElem_cons hir] at hc
            rcases List.mem_cons.1 hc with rfl | hc
            · exact hd1
            · exact HDG.out c hc
          have HLW : Hid (lows (r.drop i) = lows (r.drop (i + 1)) ++ [r[i].toNat - 48]) := by
            show _ = _
            rw [List.drop_eq_getElem_cons hir, lows_cons]
          have hlen : (lows (r.drop (i + 1))).length ≤ 1000 := by simp [lows]; omega
          obtain ⟨x, hx⟩ : ∃ x : Nat, x = r[i].toNat - 48 := ⟨_, rfl⟩
          have hxi : (r[i].toNat : Int) - 48 = x := by omega
          rw [← hx] at HLW
          have ho1 := HW.out.drew.alloc (.cells #[.int .i64 (x : Int)] 3)
          have hs1 := one_int wr.drew x
          have HMI := Lib.hid hmi
          clear hb hm hmem hd1 hx hmi
          generalize (r[i].toNat : Int) = b at *
          generalize hld : (lows (r.drop (i + 1))).length = ll at *
          have HLD := Lib.hid hld
          clear hld hir
          have hag0 : Agree (fun q => q = w.heap.size) wr.drew ((wr.alloc (.cells #[.int .i64 (x : Int)] 3)).drew) := agree_alloc (w := wr) _ (by intro k hk; subst hk; exact hsz)
          go_wp2
          refine wp_region_lit_plan [] [(0, 0), (2, 0), (3, 0), (4, 0), (5, 0), (6, 0), (1, 2), (7, 3), (8, 4), (9, 0), (10, 4)] (fun q => q = w.heap.size) (by kernel_rfl) (by kernel_rfl) (fun c a d v w h => by cases d <;> exact h) ?_
          go_wp2_with (first
            | (refine plan_pure (v := _) (by rfl) (by rfl) (by rfl) (by intro _; go_simp; with_reducible rfl) ?_; simp only [List.setIfInBounds_toArray, List.set_cons_zero, List.set_cons_succ]; try go_bits) | (refine plan_read (v := _) (by rfl) (by rfl) (by rfl) (by go_simp; with_reducible rfl) ?_; simp only [List.setIfInBounds_toArray, List.set_cons_zero, List.set_cons_succ]; try go_bits) | (refine plan_readB (v := _) (by rfl) (by rfl) (by rfl) (by intro _ hag; unfold Agree at hag; go_simp; with_reducible rfl) ?_; simp only [List.setIfInBounds_toArray, List.set_cons_zero, List.set_cons_succ]; try go_bits) | (refine plan_skip0 (by rfl) (by rfl) (by rfl) ?_; simp only [List.setIfInBounds_toArray, List.set_cons_zero, List.set_cons_succ]; try go_bits) | (refine plan_skip1 (by rfl) (by rfl) (by rfl) ?_; simp only [List.setIfInBounds_toArray, List.set_cons_zero, List.set_cons_succ]; try go_bits) | (refine plan_skip2 (by rfl) (by rfl) (by rfl) ?_; simp only [List.setIfInBounds_toArray, List.set_cons_zero, List.set_cons_succ]; try go_bits) | (refine plan_skip4 (by rfl) (by rfl) (by rfl) ?_; simp only [List.setIfInBounds_toArray, List.set_cons_zero, List.set_cons_succ]; try go_bits) | (refine plan_any (by rfl) ?_) | (refine plan_keep (by rfl) ?_) | (refine plan_nil ?_) | (with_reducible refine And.intro (by first | assumption | exact Agree.refl _ _ | exact agree_drew _ _ | exact agree_alloc _ (by intro k hk; subst hk; first | omega | (simp; omega))) ?_) | (unfold Act.put; simp only [List.setIfInBounds_toArray, List.set_cons_zero, List.set_cons_succ])
            | (at_builtin; refine wpList_app rfl _ _ rfl elemInt (by rfl) ho1 (by rfl) hs1 (by unfold maxLen; omega) (by omega) ?_; intro v1 w2 g1 g2 g3 g4 g5; clear hs1 ho1; obtain ⟨p7, c7, rfl, hc71, hc72⟩ := own_form1 g1;
               have HK2 := Lib.hid ((HK.out.drew.alloc (.cells #[.int .i64 (x : Int)] 3)).only g2 (fun h => Nat.lt_irrefl _ (HF.out _ h)));
               have j1 : w2.cell? ⟨w.heap.size, 1, none⟩ = some (.slice p4 ll c4) := HK2.out.cell 1; have jf : ∀ i, w2.frozen? ⟨w.heap.size, i, none⟩ = false := HK2.out.frozen;
               have G1 := Lib.hid g1; have G2 := Lib.hid g2; have G3 := Lib.hid g3; clear g1 g2 g3 g4 g5))
          obtain ⟨q1, q2, q3, q4⟩ := push_post (x := x) (d := lows (r.drop (i + 1))) (N := w.heap.size + 1) (show w.heap.size + 1 ≤ wr.drew.heap.size from hsz) HF.out (by rw [HLD.out]; exact G1.out) G2.out G3.out
          rw [← HLW.out] at q1
          refine ⟨⟨i, .slice p7 (ll + 1) c7, ?_, by omega, HDN.out, HK2.out.set 1 _, ?_, fun k hk => q3 k hk, (HBW.out.drew.trans (q4.mono (Nat.le_succ _))).setCell (Nat.le_refl _) _, ?_⟩, ?_⟩
          · congr 1; have := HMI.out; omega
          · exact q1.setOther (fun h => by have := q3 _ h; exact absurd this (by show ¬ w.heap.size + 1 ≤ w.heap.size; omega)) _
          · have h1 := q2.size
            have h2 : (w2.setCell ⟨w.heap.size, 1, none⟩ (.slice p7 (ll + 1) c7)).heap.size = w2.heap.size := by simp [World.setCell]
            rw [h2]
            exact Nat.lt_of_lt_of_le hsz h1
          · (simp [intOf]) <;> omega
        · have hbad : ¬ right true r := fun h => hd1 (h.2 _ hmem)
          have e1 : numN true r = 0 := by unfold numN; rw [if_neg hbad]
          have e2 : numE true r = 12 := by unfold numE; rw [if_neg hbad]
          rw [e1] at HPN
          rw [e2] at HPE
          obtain rfl := HPN.out
          obtain rfl := HPE.out
          clear HPN HPE hbad e1 e2 hb hm hmem hd1 hmi
          generalize (r[i].toNat : Int) = b at *
          clear hir HRB
          rcases hd2 with hd2 | ⟨hd2, hd3⟩
          all_goals
            go_wp2
            go_ret2
            exact ⟨rfl, HBW.out⟩

  · have h46 : ((c.toNat : Int) == 45) = false := by
      rw [beq_eq_false_iff_ne]
      intro h
      exact h45 (UInt8.toNat_inj.1 (by show c.toNat = 45; omega))
    have HPN : Hid (numN false (c :: t) = pn) := by
      have e : splitL (c :: t) = (c :: t, false) := by simp [splitL, h45]
      rw [← hpn]; unfold prsN; rw [e]; exact Lib.hid rfl
    have HPE : Hid (numE false (c :: t) = pe) := by
      have e : splitL (c :: t) = (c :: t, false) := by simp [splitL, h45]
      rw [← hpe]; unfold prsE; rw [e]; exact Lib.hid rfl
    have HRB : Hid (∀ (i : Nat) (hi : i < (c :: t).length) (h : 0 + i < s.size), ((s[0 + i]'h).toNat : Int) = ((c :: t)[i].toNat : Int)) := fun i hi h => by
      have := byte_at s _ hs (0 + i) h (by omega)
      rw [this]
      congr 2
      have : ∀ (j : Nat) (hj : j < (c :: t).length), j = i → (c :: t)[j] = (c :: t)[i] := fun j hj e => by subst e; rfl
      exact this _ _ (by omega)
    have hl2 := hl
    clear hpn hpe hs hl h45
    generalize c :: t = r at *
    have hssz : s.size = r.length + 0 := by rw [hsz0]; rfl
    clear hsz0
    have HK0 : Hid (Blk (w.alloc (.cells #[.bool false, .slice none 0 0] 103)) w.heap.size 103 [.bool false, .slice none 0 0]) := Blk.new w _ _
    have HB0 : Hid (Below w.heap.size w (w.alloc (.cells #[.bool false, .slice none 0 0] 103))) := (Below.refl _ _).alloc (Nat.le_refl _) _
    have HSZ0 : Hid (w.heap.size < (w.alloc (.cells #[.bool false, .slice none 0 0] 103)).heap.size) := by show _ < _; simp
    have hszi : (s.size : Int) - 1 = (0 : Int) + r.length - 1 := by omega
    go_enter Tryd.func78, Tryd.ntmps78
    go_wp2
    generalize (w.alloc (.cells #[.bool false, .slice none 0 0] 103)) = w1 at *
    clear hc h46
    go_loopw [6] (fun i wr => ∃ (j : Nat) (dv : Value), i = .int .i64 ((0 : Int) + j - 1) ∧ j ≤ r.length ∧ (∀ c ∈ r.drop j, dig c) ∧ Blk wr w.heap.size 103 [.bool false, dv] ∧ Own wr 3 1 dv (lows (r.drop j)).length (nats (lows (r.drop j))) ∧ (∀ q, dv.ownBlock = some q → w.heap.size < q) ∧ Below w.heap.size w wr ∧ w.heap.size < wr.heap.size) (fun i _ => (intOf i + 1).toNat)
    case atStart =>
      refine ⟨r.length, .slice none 0 0, ?_, Nat.le_refl _, by rw [List.drop_length]; simp, HK0.out, ?_, by simp [Value.ownBlock], HB0.out, HSZ0.out⟩
      · first | rfl | rw [hszi] | (congr 1; omega)
      · rw [List.drop_length]; exact Own.nil _ _ _
    case round =>
      obtain ⟨j, dv, h6, hj, hdg, hk, how, hfr, hbw, hsz⟩ := hrel
      obtain ⟨p4, c4, rfl, hc41, hc42⟩ := own_form1 how
      have HDG := Lib.hid hdg
      have HK := Lib.hid hk
      have HW := Lib.hid how
      have HF := Lib.hid hfr
      have HBW := Lib.hid hbw
      have k1 : wr.cell? ⟨w.heap.size, 1, none⟩ = some (.slice p4 (lows (r.drop j)).length c4) := hk.cell 1
      have hf : ∀ i, wr.frozen? ⟨w.heap.size, i, none⟩ = false := hk.frozen
      clear hdg hk how hfr hbw
      rcases Nat.eq_zero_or_pos j with hj0 | hpos
      · subst hj0
        have e6 : (0 : Int) + ((0 : Nat) : Int) - 1 = 0 - 1 := by omega
        rw [e6] at h6
        subst h6
        have hrl : r.length ≤ 1000 := by omega
        rw [List.drop_zero] at k1
        have hll : (lows r).length = r.length := by simp [lows]
        rw [hll] at k1
        have HDG0 : Hid (∀ c ∈ r, dig c) := by have := HDG.out; rwa [List.drop_zero] at this
        have HSL : Hid (Sl wr (fun k => w.heap.size < k) 1 (.slice p4 r.length c4) (lows r).length (nats (lows r))) := by
          have h1 := HW.out.sl (B := fun k => w.heap.size < k) HF.out
          rw [List.drop_zero] at h1
          rw [← hll]; exact h1
        clear e6 hll HDG HW HF hf
        cases hok : headOk false r with
        | false =>
          have hbad : ¬ right false r := fun h => by have := h.1; rw [hok] at this; exact absurd this (by decide)
          have e1 : numN false r = 0 := by unfold numN; rw [if_neg hbad]
          have e2 : numE false r = 12 := by unfold numE; rw [if_neg hbad]
          rw [e1] at HPN
          rw [e2] at HPE
          obtain rfl := HPN.out
          obtain rfl := HPE.out
          clear HPN HPE hbad e1 e2
          cases r with
          | nil =>
            have hs0 : (s.size : Int) = 0 := by rw [hssz]; rfl
            clear hssz hszi HRB HSL HDG0
            go_wp2
            go_ret2
            exact ⟨rfl, HBW.out⟩
          | cons c t =>
            obtain ⟨h48, hb⟩ := headOk_not hok
            have hfs : 0 < s.size := by rw [hssz, List.length_cons]; omega
            have hcs : ((s[0]'hfs).toNat : Int) = 48 := by
              rw [← h48]
              exact HRB.out 0 (by simp) hfs
            have hs1 : (1 : Int) < s.size := by
              rw [hssz, List.length_cons]
              rcases hb with hb | ⟨_, hb⟩
              · exact absurd hb (by decide)
              · omega
            have hs2 : ((s.size : Int) == 0) = false := by rw [beq_eq_false_iff_ne]; omega
            clear hssz hszi HRB HSL HDG0 hb
            go_wp2
            go_ret2
            exact ⟨rfl, HBW.out⟩
        | true =>
          have hr : right false r := ⟨hok, HDG0.out⟩
          have e1 : pn = shortN (sgn false (valN r)) := by rw [← HPN.out]; unfold numN; rw [if_pos hr]
          have e2 : pe = shortE (sgn false (valN r)) := by rw [← HPE.out]; unfold numE; rw [if_pos hr]
          have HSG : Hid (Calls Tryd.prog 104 #[.bool false, .slice p4 r.length c4] wr fun e w' => ∃ v', e = .returned v' ∧ IsNum w' (fun k => w.heap.size < k) v' (sgn false (valN r)) ∧ Below wr.heap.size wr w') := by
            have h1 := sign_any wr _ false _ (lows r) (lows_D10 r HDG0.out) HSL.out (by simp [lows]; omega)
            rwa [vd_lows] at h1
          have hlz : Hid ((ld (sgn false (valN r) : Int).natAbs).length ≤ 10000) := by
            have h1 := vd_lt (lows r) (lows_D10 r HDG0.out)
            rw [vd_lows] at h1
            have h2 := ld_len_le _ _ h1
            have h3 : (lows r).length = r.length := by simp [lows]
            have h4 : (sgn false (valN r) : Int).natAbs = valN r := by unfold sgn; simp
            show _ ≤ _
            rw [h4]; omega
          cases r with
          | nil => exact absurd hok (by decide)
          | cons c t =>
            have hfs : 0 < s.size := by rw [hssz, List.length_cons]; omega
            have hcs : ((s[0]'hfs).toNat : Int) = (c.toNat : Int) := HRB.out 0 (by simp) hfs
            have hhd := headOk_cons hok
            have hs2 : ((s.size : Int) == 0) = false := by rw [beq_eq_false_iff_ne, hssz, List.length_cons]; omega
            have hs3 : t = [] → (s.size : Int) = 1 + 0 := fun h => by subst h; rw [hssz]; simp
            clear HPN HPE hr hok HRB HSL HDG0 hssz hszi
            generalize (sgn false (valN (c :: t)) : Int) = z at *
            generalize (c :: t).length = rl at *
            rcases hhd with hhd | ⟨hng, hhd, ht⟩
            · by_cases hfz : fits z
              · have DFZ : Hid (decide (fits z) = true) := decide_eq_true hfz
                have e3 : shortE z = 0 := by unfold shortE; rw [if_pos hfz]
                rw [e3] at e2
                subst e2
                have SNZ : Hid (shortN z = pn) := e1.symm
                clear e1 e3 hfz
                go_wp2_with (first
                  | (go_at_call 104; refine HSG.out.mono ?_; rintro e w5 ⟨v5, rfl, hn5, hb5⟩; obtain ⟨s5, p5, l5, c5, rfl⟩ := hn5.parts; have HN5 := Lib.hid hn5; have HB5 := Lib.hid (HBW.out.trans (hb5.mono HBW.out.size)); clear hn5 hb5)
                  | (go_at_call 108; refine (small_num w5 _ z (HN5.out.weak fun _ _ => trivial) hlz.out).mono ?_; rw [DFZ.out, SNZ.out]; rintro e w6 ⟨rfl, hb6⟩))
                go_ret2
                exact ⟨rfl, HB5.out.trans (hb6.mono HB5.out.size)⟩
              · have DFZ : Hid (decide (fits z) = false) := decide_eq_false hfz
                have e3 : shortE z = 2 := by unfold shortE; rw [if_neg hfz]
                have e4 : shortN z = 0 := by unfold shortN; rw [if_neg hfz]
                rw [e3] at e2
                subst e2
                rw [e4] at e1
                subst e1
                have SNZ : Hid (shortN z = 0) := e4
                clear e3 e4 hfz
                go_wp2_with (first
                  | (go_at_call 104; refine HSG.out.mono ?_; rintro e w5 ⟨v5, rfl, hn5, hb5⟩; obtain ⟨s5, p5, l5, c5, rfl⟩ := hn5.parts; have HN5 := Lib.hid hn5; have HB5 := Lib.hid (HBW.out.trans (hb5.mono HBW.out.size)); clear hn5 hb5)
                  | (go_at_call 108; refine (small_num w5 _ z (HN5.out.weak fun _ _ => trivial) hlz.out).mono ?_; rw [DFZ.out, SNZ.out]; rintro e w6 ⟨rfl, hb6⟩))
                go_ret2
                exact ⟨rfl, HB5.out.trans (hb6.mono HB5.out.size)⟩
            · have hs4 := hs3 ht
              have hs5 : (s.size : Int) = 1 := hs4
              clear hs3 hs4 ht
              by_cases hfz : fits z
              · have DFZ : Hid (decide (fits z) = true) := decide_eq_true hfz
                have e3 : shortE z = 0 := by unfold shortE; rw [if_pos hfz]
                rw [e3] at e2
                subst e2
                have SNZ : Hid (shortN z = pn) := e1.symm
                clear e1 e3 hfz
                go_wp2_with (first
                  | (go_at_call 104; refine HSG.out.mono ?_; rintro e w5 ⟨v5, rfl, hn5, hb5⟩; obtain ⟨s5, p5, l5, c5, rfl⟩ := hn5.parts; have HN5 := Lib.hid hn5; have HB5 := Lib.hid (HBW.out.trans (hb5.mono HBW.out.size)); clear hn5 hb5)
                  | (go_at_call 108; refine (small_num w5 _ z (HN5.out.weak fun _ _ => trivial) hlz.out).mono ?_; rw [DFZ.out, SNZ.out]; rintro e w6 ⟨rfl, hb6⟩))
                go_ret2
                exact ⟨rfl, HB5.out.trans (hb6.mono HB5.out.size)⟩
              · have DFZ : Hid (decide (fits z) = false) := decide_eq_false hfz
                have e3 : shortE z = 2 := by unfold shortE; rw [if_neg hfz]
                have e4 : shortN z = 0 := by unfold shortN; rw [if_neg hfz]
                rw [e3] at e2
                subst e2
                rw [e4] at e1
                subst e1
                have SNZ : Hid (shortN z = 0) := e4
                clear e3 e4 hfz
                go_wp2_with (first
                  | (go_at_call 104; refine HSG.out.mono ?_; rintro e w5 ⟨v5, rfl, hn5, hb5⟩; obtain ⟨s5, p5, l5, c5, rfl⟩ := hn5.parts; have HN5 := Lib.hid hn5; have HB5 := Lib.hid (HBW.out.trans (hb5.mono HBW.out.size)); clear hn5 hb5)
                  | (go_at_call 108; refine (small_num w5 _ z (HN5.out.weak fun _ _ => trivial) hlz.out).mono ?_; rw [DFZ.out, SNZ.out]; rintro e w6 ⟨rfl, hb6⟩))
                go_ret2
                exact ⟨rfl, HB5.out.trans (hb6.mono HB5.out.size)⟩
      · obtain ⟨i, rfl⟩ : ∃ i, j = i + 1 := ⟨j - 1, by omega⟩
        have hir : i < r.length := by omega
        obtain ⟨m, hm⟩ : ∃ m : Nat, m = 0 + i := ⟨_, rfl⟩
        have hmi : (0 : Int) + ((i + 1 : Nat) : Int) - 1 = m := by omega
        rw [hmi] at h6
        subst h6
        have hms : m < s.size := by omega
        have hb := HRB.out i hir (by omega : 0 + i < s.size)
        have hbm : ((s[m]'hms).toNat : Int) = (r[i].toNat : Int) := by subst hm; rw [Nat.add_comm] at *; simpa [Nat.add_comm] using hb
        have hx256 : (r[i].toNat : Int) < 256 := by have := r[i].toNat_lt; omega
        have hx0 : (0 : Int) ≤ (r[i].toNat : Int) := by omega
        have hm0 : (0 : Int) ≤ m := by omega
        have hcd : (dig r[i] ∧ 48 ≤ (r[i].toNat : Int) ∧ (r[i].toNat : Int) ≤ 57) ∨ (¬ dig r[i] ∧ ((r[i].toNat : Int) < 48 ∨ 48 ≤ (r[i].toNat : Int) ∧ 57 < (r[i].toNat : Int))) := by unfold dig; omega
        have hmem : r[i] ∈ r := List.getElem_mem hir
        rcases hcd with ⟨hd1, hd2, hd3⟩ | ⟨hd1, hd2⟩
        · have HDN : Hid (∀ c ∈ r.drop i, dig c) := fun c hc => by
            rw [List.drop_eq_getElem_cons hir] at hc
            rcases List.mem_cons.1 hc with rfl | hc
            · exact hd1
            · exact HDG.out c hc
          have HLW : Hid (lows (r.drop i) = lows (r.drop (i + 1)) ++ [r[i].toNat - 48]) := by
            show _ = _
            rw [List.drop_eq_getElem_cons hir, lows_cons]
          have hlen : (lows (r.drop (i + 1))).length ≤ 1000 := by simp [lows]; omega
          obtain ⟨x, hx⟩ : ∃ x : Nat, x = r[i].toNat - 48 := ⟨_, rfl⟩
          have hxi : (r[i].toNat : Int) - 48 = x := by omega
          rw [← hx] at HLW
          have ho1 := HW.out.drew.alloc (.cells #[.int .i64 (x : Int)] 3)
          have hs1 := one_int wr.drew x
          have HMI := Lib.hid hmi
          clear hb hm hmem hd1 hx hmi
          generalize (r[i].toNat : Int) = b at *
          generalize hld : (lows (r.drop (i + 1))).length = ll at *
          have HLD := Lib.hid hld
          clear hld hir
          have hag0 : Agree (fun q => q = w.heap.size) wr.drew ((wr.alloc (.cells #[.int .i64 (x : Int)] 3)).drew) := agree_alloc (w := wr) _ (by intro k hk; subst hk; exact hsz)
          go_wp2
          refine wp_region_lit_plan [] [(0, 0), (2, 0), (3, 0), (4, 0), (5, 0), (6, 0), (1, 2), (7, 3), (8, 4), (9, 0), (10, 4)] (fun q => q = w.heap.size) (by kernel_rfl) (by kernel_rfl) (fun c a d v w h => by cases d <;> exact h) ?_
          go_wp2_with (first
            | (refine plan_pure (v := _) (by rfl) (by rfl) (by rfl) (by intro _; go_simp; with_reducible rfl) ?_; simp only [List.setIfInBounds_toArray, List.set_cons_zero, List.set_cons_succ]; try go_bits) | (refine plan_read (v := _) (by rfl) (by rfl) (by rfl) (by go_simp; with_reducible rfl) ?_; simp only [List.setIfInBounds_toArray, List.set_cons_zero, List.set_cons_succ]; try go_bits) | (refine plan_readB (v := _) (by rfl) (by rfl) (by rfl) (by intro _ hag; unfold Agree at hag; go_simp; with_reducible rfl) ?_; simp only [List.setIfInBounds_toArray, List.set_cons_zero, List.set_cons_succ]; try go_bits) | (refine plan_skip0 (by rfl) (by rfl) (by rfl) ?_; simp only [List.setIfInBounds_toArray, List.set_cons_zero, List.set_cons_succ]; try go_bits) | (refine plan_skip1 (by rfl) (by rfl) (by rfl) ?_; simp only [List.setIfInBounds_toArray, List.set_cons_zero, List.set_cons_succ]; try go_bits) | (refine plan_skip2 (by rfl) (by rfl) (by rfl) ?_; simp only [List.setIfInBounds_toArray, List.set_cons_zero, List.set_cons_succ]; try go_bits) | (refine plan_skip4 (by rfl) (by rfl) (by rfl) ?_; simp only [List.setIfInBounds_toArray, List.set_cons_zero, List.set_cons_succ]; try go_bits) | (refine plan_any (by rfl) ?_) | (refine plan_keep (by rfl) ?_) | (refine plan_nil ?_) | (with_reducible refine And.intro (by first | assumption | exact Agree.refl _ _ | exact agree_drew _ _ | exact agree_alloc _ (by intro k hk; subst hk; first | omega | (simp; omega))) ?_) | (unfold Act.put; simp only [List.setIfInBounds_toArray, List.set_cons_zero, List.set_cons_succ])
            | (at_builtin; refine wpList_app rfl _ _ rfl elemInt (by rfl) ho1 (by rfl) hs1 (by unfold maxLen; omega) (by omega) ?_; intro v1 w2 g1 g2 g3 g4 g5; clear hs1 ho1; obtain ⟨p7, c7, rfl, hc71, hc72⟩ := own_form1 g1;
               have HK2 := Lib.hid ((HK.out.drew.alloc (.cells #[.int .i64 (x : Int)] 3)).only g2 (fun h => Nat.lt_irrefl _ (HF.out _ h)));
               have j1 : w2.cell? ⟨w.heap.size, 1, none⟩ = some (.slice p4 ll c4) := HK2.out.cell 1; have jf : ∀ i, w2.frozen? ⟨w.heap.size, i, none⟩ = false := HK2.out.frozen;
               have G1 := Lib.hid g1; have G2 := Lib.hid g2; have G3 := Lib.hid g3; clear g1 g2 g3 g4 g5))
          obtain ⟨q1, q2, q3, q4⟩ := push_post (x := x) (d := lows (r.drop (i + 1))) (N := w.heap.size + 1) (show w.heap.size + 1 ≤ wr.drew.heap.size from hsz) HF.out (by rw [HLD.out]; exact G1.out) G2.out G3.out
          rw [← HLW.out] at q1
          refine ⟨⟨i, .slice p7 (ll + 1) c7, ?_, by omega, HDN.out, HK2.out.set 1 _, ?_, fun k hk => q3 k hk, (HBW.out.drew.trans (q4.mono (Nat.le_succ _))).setCell (Nat.le_refl _) _, ?_⟩, ?_⟩
          · congr 1; have := HMI.out; omega
          · exact q1.setOther (fun h => by have := q3 _ h; exact absurd this (by show ¬ w.heap.size + 1 ≤ w.heap.size; omega)) _
          · have h1 := q2.size
            have h2 : (w2.setCell ⟨w.heap.size, 1, none⟩ (.slice p7 (ll + 1) c7)).heap.size = w2.heap.size := by simp [World.setCell]
            rw [h2]
            exact Nat.lt_of_lt_of_le hsz h1
          · (simp [intOf]) <;> omega
        · have hbad : ¬ right false r := fun h => hd1 (h.2 _ hmem)
          have e1 : numN false r = 0 := by unfold numN; rw [if_neg hbad]
          have e2 : numE false r = 12 := by unfold numE; rw [if_neg hbad]
          rw [e1] at HPN
          rw [e2] at HPE
          obtain rfl := HPN.out
          obtain rfl := HPE.out
          clear HPN HPE hbad e1 e2 hb hm hmem hd1 hmi
          generalize (r[i].toNat : Int) = b at *
          clear hir HRB
          rcases hd2 with hd2 | ⟨hd2, hd3⟩
          all_goals
            go_wp2
            go_ret2
            exact ⟨rfl, HBW.out⟩

end Go.Proofs.YtlgohkdckdnmhaaDoor
