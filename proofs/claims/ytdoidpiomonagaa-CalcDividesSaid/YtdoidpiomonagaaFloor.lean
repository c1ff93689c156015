/- The document's numbers: Floor; the law CalcDivides. -/
import Derived.Test.YtdoidpiomonagaaNums
import Derived.Deep.DeepCutAuto
import Derived.Deep.CutBlock
namespace Go.Proofs.Ytdoidpiomonagaa
open Go.RowKit Go.Afx

theorem len40 {z : Int} (h1 : -10000000000000000000000000000000000000000 < z) (h2 : z < 10000000000000000000000000000000000000000) : (ld z.natAbs).length ≤ 40 := by
  have e : (10 : Nat) ^ 40 = 10000000000000000000000000000000000000000 := by decide
  exact ld_len_le z.natAbs 40 (by rw [e]; omega)

theorem num_parts {w : World} {B : Nat → Prop} {s : Bool} {p : Option Addr} {l c : Nat} {z : Int} (h : IsNum w B (.agg #[.bool s, .slice p l c]) z) : s = decide (z < 0) ∧ l = (ld z.natAbs).length := by
  obtain ⟨dv, h1, h2⟩ := h
  simp only [Value.agg.injEq, Array.mk.injEq, List.cons.injEq, Value.bool.injEq, and_true] at h1
  obtain ⟨h3, h4⟩ := h1
  subst h4
  obtain ⟨p', c', h5, _⟩ := h2.form
  cases h5
  exact ⟨h3, rfl⟩

set_option maxRecDepth 100000 in
set_option maxHeartbeats 2000000 in
theorem floor_num (w : World) (a b q r : Int) (fa : fits a) (fb : fits b) (fq : fits q) (hr : q * b + r = a) (hs : 0 < b ∧ 0 ≤ r ∧ r < b ∨ b < 0 ∧ r ≤ 0 ∧ b < r) :
    Calls Try.prog 32 #[.int .i64 a, .int .i64 b, .int .i64 q] w fun e w' => e = .returned (.bool true) ∧ Below w.heap.size w w' := by
  have COA := Lib.hid (fun w' => of_num w' a fa)
  have COB := Lib.hid (fun w' => of_num w' b fb)
  have COQ := Lib.hid (fun w' => of_num w' q fq)
  have LA := Lib.hid (fits_small fa)
  have LB := Lib.hid (fits_small fb)
  have LQ := Lib.hid (fits_small fq)
  have elow : b * q = a - r := by rw [Int.mul_comm]; omega
  have LL : Hid ((ld (b * q).natAbs).length ≤ 40) := by rw [elow]; unfold fits at fa fb; exact len40 (by omega) (by omega)
  have LH : Hid ((ld (b * q + b).natAbs).length ≤ 40) := by rw [elow]; unfold fits at fa fb; exact len40 (by omega) (by omega)
  have EL : Hid (a + -(b * q) = r) := by show _ = _; omega
  have EH : Hid (b * q + b + -a = b - r) := by show _ = _; omega
  have fr : Hid ((ld r.natAbs).length ≤ 40 ∧ (ld (b - r).natAbs).length ≤ 40) := by unfold fits at fa fb; exact ⟨len40 (by omega) (by omega), len40 (by omega) (by omega)⟩
  have HS := Lib.hid hs
  clear fa fb fq hr elow hs
  generalize hlo : b * q = lo at *
  have HLO := Lib.hid hlo
  clear hlo
  go_enter Try.func32, Try.ntmps32
  go_upto_region 1 with fail
  go_cut [7] (fun t wc => ∃ b7 bs, t = .pointer (some ⟨b7, 0, none⟩) ∧ Nums w wc none bs [] [(b7, lo)])
  case first =>
    go_wp2_with fail
    refine (COB.out _).mono ?_
    rintro e w1 ⟨v1, rfl, hn1, hb1⟩
    obtain ⟨s1, p1, l1, c1, rfl⟩ := hn1.parts
    have H1 := Lib.hid (Nums.call (Nums.start w) hb1 (hn1.weak fun k hk => Nat.le_of_lt hk))
    clear hn1 hb1
    go_wp2_with fail
    refine (COQ.out _).mono ?_
    rintro e w2 ⟨v2, rfl, hn2, hb2⟩
    obtain ⟨s2, p2, l2, c2, rfl⟩ := hn2.parts
    have H2 := Lib.hid (Nums.call H1.out hb2 (hn2.weak fun k hk => Nat.le_of_lt hk))
    clear hn2 hb2
    go_wp2_with fail
    refine (times_num w2 _ _ b q (H2.out.any (by simp)) (H2.out.any (by simp)) (Nat.le_trans LB.out (by omega)) (Nat.le_trans LQ.out (by omega))).mono ?_
    rintro e w3 ⟨v3, rfl, hn3, hb3⟩
    rw [HLO.out] at hn3
    obtain ⟨s3, p3, l3, c3, rfl⟩ := hn3.parts
    have H3 := Lib.hid (Nums.call H2.out hb3 hn3)
    clear hn3 hb3
    go_wp2
    go_meet
    exact ⟨_, _, rfl, Nums.made H3.out (by simp)⟩
  case rest =>
  obtain ⟨b7, bs7, rfl, hf7⟩ := hcut
  go_upto_region 2 with fail
  go_cut [8] (fun t wc => ∃ b8 bs, t = .pointer (some ⟨b8, 0, none⟩) ∧ Nums w wc none bs [] [(b8, lo + b), (b7, lo)])
  case first =>
    obtain ⟨s3, p3, l3, c3, k70, k71, _, hl7, _, hf⟩ := hf7.read (b := b7) (z := lo) (by simp)
    have HF := Lib.hid hf
    have hag0 : Agree (fun k => k = b7) wc.drew ((wc.alloc (.cells #[.bool false, .slice none 0 0] 48)).drew) := agree_alloc (w := wc) _ (by intro k hk; subst hk; exact hl7)
    clear hf hf7
    go_wp2
    refine wp_region_lit_plans [2, 3, 4, 5] [[(1, 0), (0, 2), (2, 3), (3, 4), (4, 3), (5, 4)], [(1, 0), (0, 2), (2, 3), (4, 3), (3, 4), (5, 4)], [(1, 0), (0, 2), (4, 3), (2, 3), (3, 4), (5, 4)]] (fun k => k = b7) (by kernel_rfl) (by kernel_rfl) (fun c a d v w h => by cases d <;> exact h) ?_; refine ⟨?_, ?_, ?_, trivial⟩
    all_goals
      go_wp2_with (first
        | (refine plan_pure (v := _) (by rfl) (by rfl) (by rfl) (by intro _; go_simp; with_reducible rfl) ?_; simp only [List.setIfInBounds_toArray, List.set_cons_zero, List.set_cons_succ]; try go_bits) | (refine plan_read (v := _) (by rfl) (by rfl) (by rfl) (by go_simp; with_reducible rfl) ?_; simp only [List.setIfInBounds_toArray, List.set_cons_zero, List.set_cons_succ]; try go_bits) | (refine plan_readB (v := _) (by rfl) (by rfl) (by rfl) (by intro _ hag; unfold Agree at hag; go_simp; with_reducible rfl) ?_; simp only [List.setIfInBounds_toArray, List.set_cons_zero, List.set_cons_succ]; try go_bits) | (refine plan_skip0 (by rfl) (by rfl) (by rfl) ?_; simp only [List.setIfInBounds_toArray, List.set_cons_zero, List.set_cons_succ]; try go_bits) | (refine plan_skip1 (by rfl) (by rfl) (by rfl) ?_; simp only [List.setIfInBounds_toArray, List.set_cons_zero, List.set_cons_succ]; try go_bits) | (refine plan_skip2 (by rfl) (by rfl) (by rfl) ?_; simp only [List.setIfInBounds_toArray, List.set_cons_zero, List.set_cons_succ]; try go_bits) | (refine plan_any (by rfl) ?_) | (refine plan_keep (by rfl) ?_) | (refine plan_nil ?_) | (with_reducible refine And.intro (by first | assumption | exact Agree.refl _ _ | exact agree_drew _ _ | exact agree_alloc _ (by intro k hk; subst hk; first | omega | (simp; omega))) ?_) | (unfold Act.put; simp only [List.setIfInBounds_toArray, List.set_cons_zero, List.set_cons_succ])
        | (go_at_call 29; refine (COB.out _).mono ?_; rintro e w5 ⟨v5, rfl, hn5, hb5⟩; obtain ⟨s5, p5, l5, c5, rfl⟩ := hn5.parts;
           have hag : Agree (fun k => k = b7) _ w5 := agree_bel hb5 (by intro k hk; subst hk; first | exact hl7 | (simp; omega));
           first
             | have HG := Lib.hid (Nums.call (Nums.drew HF.out) hb5 (hn5.weak fun k hk => Nat.le_of_lt hk))
             | have HG := Lib.hid (Nums.call (Nums.drew (Nums.alloc HF.out)) hb5 (hn5.weak fun k hk => Nat.le_of_lt hk))
           have hl75 : b7 < w5.heap.size := (HG.out.var (b7, lo) (by simp)).1 |> HG.out.bnd _ |>.2
           clear hn5 hb5)
        | (go_at_call 30;
           first
             | (refine (plus_num w5 _ _ lo b (HG.out.any (by simp)) (HG.out.any (by simp)) (Nat.le_trans LL.out (by omega)) (Nat.le_trans LB.out (by omega))).mono ?_; rintro e w6 ⟨v6, rfl, hn6, hb6⟩; obtain ⟨s6, p6, l6, c6, rfl⟩ := hn6.parts; have HH := Lib.hid (Nums.call HG.out hb6 hn6))
             | (refine (plus_num _ _ _ lo b (HG.out.alloc.any (by simp)) (HG.out.alloc.any (by simp)) (Nat.le_trans LL.out (by omega)) (Nat.le_trans LB.out (by omega))).mono ?_; rintro e w6 ⟨v6, rfl, hn6, hb6⟩; obtain ⟨s6, p6, l6, c6, rfl⟩ := hn6.parts; have HH := Lib.hid (Nums.call HG.out.alloc hb6 hn6))
           first
             | (obtain ⟨cr0, cr1, crf⟩ := Nums.rawc HH.out)
             | skip
           have hl76 : b7 < w6.heap.size := (HH.out.var (b7, lo) (by simp)).1 |> HH.out.bnd _ |>.2
           clear hn6 hb6))
    all_goals
      go_meet
      first
        | exact ⟨_, _, rfl, Nums.store HH.out (by simp)⟩
        | exact ⟨_, _, rfl, Nums.made HH.out (by simp)⟩
  case rest =>
  obtain ⟨b8, bs8, rfl, hfX⟩ := hcut
  go_upto_region 3 with fail
  go_cut [9] (fun t wc => ∃ b9 bs, t = .pointer (some ⟨b9, 0, none⟩) ∧ Nums w wc none bs [] [(b9, r), (b8, lo + b), (b7, lo)])
  case first =>
    obtain ⟨s3, p3, l3, c3, k70, k71, _, hl7, _, hf⟩ := hfX.read (b := b7) (z := lo) (by simp)
    have HF := Lib.hid hf
    have hag0 : Agree (fun k => k = b7) wc.drew ((wc.alloc (.cells #[.bool false, .slice none 0 0] 48)).drew) := agree_alloc (w := wc) _ (by intro k hk; subst hk; exact hl7)
    clear hf hfX
    go_wp2
    refine wp_region_lit_plans [1, 3, 4, 5, 6] [[(0, 0), (2, 2), (1, 3), (3, 4), (4, 4), (5, 3), (6, 4)], [(0, 0), (2, 2), (1, 3), (3, 4), (5, 3), (4, 4), (6, 4)], [(0, 0), (2, 2), (1, 3), (5, 3), (3, 4), (4, 4), (6, 4)], [(0, 0), (2, 2), (5, 3), (1, 3), (3, 4), (4, 4), (6, 4)]] (fun k => k = b7) (by kernel_rfl) (by kernel_rfl) (fun c a d v w h => by cases d <;> exact h) ?_; refine ⟨?_, ?_, ?_, ?_, trivial⟩
    all_goals
      go_wp2_with (first
        | (refine plan_pure (v := _) (by rfl) (by rfl) (by rfl) (by intro _; go_simp; with_reducible rfl) ?_; simp only [List.setIfInBounds_toArray, List.set_cons_zero, List.set_cons_succ]; try go_bits) | (refine plan_read (v := _) (by rfl) (by rfl) (by rfl) (by go_simp; with_reducible rfl) ?_; simp only [List.setIfInBounds_toArray, List.set_cons_zero, List.set_cons_succ]; try go_bits) | (refine plan_readB (v := _) (by rfl) (by rfl) (by rfl) (by intro _ hag; unfold Agree at hag; go_simp; with_reducible rfl) ?_; simp only [List.setIfInBounds_toArray, List.set_cons_zero, List.set_cons_succ]; try go_bits) | (refine plan_skip0 (by rfl) (by rfl) (by rfl) ?_; simp only [List.setIfInBounds_toArray, List.set_cons_zero, List.set_cons_succ]; try go_bits) | (refine plan_skip1 (by rfl) (by rfl) (by rfl) ?_; simp only [List.setIfInBounds_toArray, List.set_cons_zero, List.set_cons_succ]; try go_bits) | (refine plan_skip2 (by rfl) (by rfl) (by rfl) ?_; simp only [List.setIfInBounds_toArray, List.set_cons_zero, List.set_cons_succ]; try go_bits) | (refine plan_any (by rfl) ?_) | (refine plan_keep (by rfl) ?_) | (refine plan_nil ?_) | (with_reducible refine And.intro (by first | assumption | exact Agree.refl _ _ | exact agree_drew _ _ | exact agree_alloc _ (by intro k hk; subst hk; first | omega | (simp; omega))) ?_) | (unfold Act.put; simp only [List.setIfInBounds_toArray, List.set_cons_zero, List.set_cons_succ])
        | (go_at_call 29; refine (COA.out _).mono ?_; rintro e w5 ⟨v5, rfl, hn5, hb5⟩; obtain ⟨s5, p5, l5, c5, rfl⟩ := hn5.parts;
           have hag : Agree (fun k => k = b7) _ w5 := agree_bel hb5 (by intro k hk; subst hk; first | exact hl7 | exact hlM | (simp; omega));
           first
             | have HO := Lib.hid (Nums.call (Nums.drew HF.out) hb5 (hn5.weak fun k hk => Nat.le_of_lt hk))
             | have HO := Lib.hid (Nums.call (Nums.drew (Nums.alloc HF.out)) hb5 (hn5.weak fun k hk => Nat.le_of_lt hk))
             | have HO := Lib.hid (Nums.call HO.out hb5 (hn5.weak fun k hk => Nat.le_of_lt hk))
             | have HO := Lib.hid (Nums.call (Nums.alloc HO.out) hb5 (hn5.weak fun k hk => Nat.le_of_lt hk))
             | have HO := Lib.hid (Nums.call HM.out hb5 (hn5.weak fun k hk => Nat.le_of_lt hk))
             | have HO := Lib.hid (Nums.call (Nums.alloc HM.out) hb5 (hn5.weak fun k hk => Nat.le_of_lt hk))
           have hlO : b7 < w5.heap.size := (HO.out.var (b7, lo) (by simp)).1 |> HO.out.bnd _ |>.2
           clear hn5 hb5)
        | (go_at_call 28;
           first
             | refine (minus_num _ _ _ lo (Nums.num (Nums.drew HF.out) (by simp)) (Nat.le_trans LL.out (by omega))).mono ?_
             | refine (minus_num _ _ _ lo (Nums.num (Nums.drew (Nums.alloc HF.out)) (by simp)) (Nat.le_trans LL.out (by omega))).mono ?_
             | refine (minus_num _ _ _ lo (Nums.num HO.out (by simp)) (Nat.le_trans LL.out (by omega))).mono ?_
             | refine (minus_num _ _ _ lo (Nums.num (Nums.alloc HO.out) (by simp)) (Nat.le_trans LL.out (by omega))).mono ?_
             | refine (minus_num _ _ _ lo (Nums.num HM.out (by simp)) (Nat.le_trans LL.out (by omega))).mono ?_
             | refine (minus_num _ _ _ lo (Nums.num (Nums.alloc HM.out) (by simp)) (Nat.le_trans LL.out (by omega))).mono ?_
           rintro e w6 ⟨v6, rfl, hn6, hb6⟩; obtain ⟨s6, p6, l6, c6, rfl⟩ := hn6.parts
           have hag6 : Agree (fun k => k = b7) _ w6 := agree_bel hb6 (by intro k hk; subst hk; first | exact hl7 | exact hlO | (simp; omega))
           first
             | have HM := Lib.hid (Nums.call' (Nums.drew HF.out) hb6 hn6)
             | have HM := Lib.hid (Nums.call' (Nums.drew (Nums.alloc HF.out)) hb6 hn6)
             | have HM := Lib.hid (Nums.call' HO.out hb6 hn6)
             | have HM := Lib.hid (Nums.call' (Nums.alloc HO.out) hb6 hn6)
             | have HM := Lib.hid (Nums.call' HM.out hb6 hn6)
             | have HM := Lib.hid (Nums.call' (Nums.alloc HM.out) hb6 hn6)
           have hlM : b7 < w6.heap.size := (HM.out.var (b7, lo) (by simp)).1 |> HM.out.bnd _ |>.2
           clear hn6 hb6)
        | (go_at_call 30;
           first
             | refine (plus_num _ _ _ a (-lo) (Nums.any (Nums.drew HF.out) (by simp)) (Nums.any (Nums.drew HF.out) (by simp)) (Nat.le_trans LA.out (by omega)) (by rw [Int.natAbs_neg]; exact Nat.le_trans LL.out (by omega))).mono ?_
             | refine (plus_num _ _ _ a (-lo) (Nums.any (Nums.drew (Nums.alloc HF.out)) (by simp)) (Nums.any (Nums.drew (Nums.alloc HF.out)) (by simp)) (Nat.le_trans LA.out (by omega)) (by rw [Int.natAbs_neg]; exact Nat.le_trans LL.out (by omega))).mono ?_
             | refine (plus_num _ _ _ a (-lo) (Nums.any HO.out (by simp)) (Nums.any HO.out (by simp)) (Nat.le_trans LA.out (by omega)) (by rw [Int.natAbs_neg]; exact Nat.le_trans LL.out (by omega))).mono ?_
             | refine (plus_num _ _ _ a (-lo) (Nums.any (Nums.alloc HO.out) (by simp)) (Nums.any (Nums.alloc HO.out) (by simp)) (Nat.le_trans LA.out (by omega)) (by rw [Int.natAbs_neg]; exact Nat.le_trans LL.out (by omega))).mono ?_
             | refine (plus_num _ _ _ a (-lo) (Nums.any HM.out (by simp)) (Nums.any HM.out (by simp)) (Nat.le_trans LA.out (by omega)) (by rw [Int.natAbs_neg]; exact Nat.le_trans LL.out (by omega))).mono ?_
             | refine (plus_num _ _ _ a (-lo) (Nums.any (Nums.alloc HM.out) (by simp)) (Nums.any (Nums.alloc HM.out) (by simp)) (Nat.le_trans LA.out (by omega)) (by rw [Int.natAbs_neg]; exact Nat.le_trans LL.out (by omega))).mono ?_
           rintro e w7 ⟨v7, rfl, hn7, hb7⟩; obtain ⟨s7, p7, l7, c7, rfl⟩ := hn7.parts
           rw [EL.out] at hn7
           first
             | have HP := Lib.hid (Nums.call (Nums.drew HF.out) hb7 hn7)
             | have HP := Lib.hid (Nums.call (Nums.drew (Nums.alloc HF.out)) hb7 hn7)
             | have HP := Lib.hid (Nums.call HO.out hb7 hn7)
             | have HP := Lib.hid (Nums.call (Nums.alloc HO.out) hb7 hn7)
             | have HP := Lib.hid (Nums.call HM.out hb7 hn7)
             | have HP := Lib.hid (Nums.call (Nums.alloc HM.out) hb7 hn7)
           first
             | (obtain ⟨cr0, cr1, crf⟩ := Nums.rawc HP.out)
             | skip
           have hlP : b7 < w7.heap.size := (HP.out.var (b7, lo) (by simp)).1 |> HP.out.bnd _ |>.2
           clear hn7 hb7))
    all_goals
      go_meet
      first
        | exact ⟨_, _, rfl, Nums.store HP.out (by simp)⟩
        | exact ⟨_, _, rfl, Nums.made HP.out (by simp)⟩
        | exact ⟨_, _, rfl, fun e => ((HP.out.raws _ rfl).2.2 (b9, r) (by simp)) e.symm, Nums.store HP.out (by simp)⟩
        | exact ⟨_, _, rfl, fun e => Nat.lt_irrefl _ (Nat.lt_of_lt_of_eq (HP.out.bnd _ (HP.out.var (b9, r) (by simp)).1).2 e), Nums.made HP.out (by simp)⟩
  case rest =>
  obtain ⟨b9, bs9, rfl, hfX⟩ := hcut
  go_upto_region 4 with fail
  go_cut [10] (fun t wc => ∃ b10 bs, t = .pointer (some ⟨b10, 0, none⟩) ∧ b10 ≠ b9 ∧ Nums w wc none bs [] [(b10, b - r), (b9, r), (b8, lo + b), (b7, lo)])
  case first =>
    obtain ⟨s3, p3, l3, c3, k70, k71, _, hl7, _, hf⟩ := hfX.read (b := b8) (z := lo + b) (by simp)
    have HF := Lib.hid hf
    have hag0 : Agree (fun k => k = b8) wc.drew ((wc.alloc (.cells #[.bool false, .slice none 0 0] 48)).drew) := agree_alloc (w := wc) _ (by intro k hk; subst hk; exact hl7)
    clear hf hfX
    go_wp2
    refine wp_region_lit_plans [2, 3, 4, 5, 6] [[(1, 0), (0, 2), (2, 3), (3, 3), (4, 4), (5, 3), (6, 4)], [(1, 0), (0, 2), (2, 3), (3, 3), (5, 3), (4, 4), (6, 4)], [(1, 0), (0, 2), (2, 3), (5, 3), (3, 3), (4, 4), (6, 4)], [(1, 0), (0, 2), (5, 3), (2, 3), (3, 3), (4, 4), (6, 4)]] (fun k => k = b8) (by kernel_rfl) (by kernel_rfl) (fun c a d v w h => by cases d <;> exact h) ?_; refine ⟨?_, ?_, ?_, ?_, trivial⟩
    all_goals
      go_wp2_with (first
        | (refine plan_pure (v := _) (by rfl) (by rfl) (by rfl) (by intro _; go_simp; with_reducible rfl) ?_; simp only [List.setIfInBounds_toArray, List.set_cons_zero, List.set_cons_succ]; try go_bits) | (refine plan_read (v := _) (by rfl) (by rfl) (by rfl) (by go_simp; with_reducible rfl) ?_; simp only [List.setIfInBounds_toArray, List.set_cons_zero, List.set_cons_succ]; try go_bits) | (refine plan_readB (v := _) (by rfl) (by rfl) (by rfl) (by intro _ hag; unfold Agree at hag; go_simp; with_reducible rfl) ?_; simp only [List.setIfInBounds_toArray, List.set_cons_zero, List.set_cons_succ]; try go_bits) | (refine plan_skip0 (by rfl) (by rfl) (by rfl) ?_; simp only [List.setIfInBounds_toArray, List.set_cons_zero, List.set_cons_succ]; try go_bits) | (refine plan_skip1 (by rfl) (by rfl) (by rfl) ?_; simp only [List.setIfInBounds_toArray, List.set_cons_zero, List.set_cons_succ]; try go_bits) | (refine plan_skip2 (by rfl) (by rfl) (by rfl) ?_; simp only [List.setIfInBounds_toArray, List.set_cons_zero, List.set_cons_succ]; try go_bits) | (refine plan_any (by rfl) ?_) | (refine plan_keep (by rfl) ?_) | (refine plan_nil ?_) | (with_reducible refine And.intro (by first | assumption | exact Agree.refl _ _ | exact agree_drew _ _ | exact agree_alloc _ (by intro k hk; subst hk; first | omega | (simp; omega))) ?_) | (unfold Act.put; simp only [List.setIfInBounds_toArray, List.set_cons_zero, List.set_cons_succ])
        | (go_at_call 29; refine (COA.out _).mono ?_; rintro e w5 ⟨v5, rfl, hn5, hb5⟩; obtain ⟨s5, p5, l5, c5, rfl⟩ := hn5.parts;
           have hag : Agree (fun k => k = b8) _ w5 := agree_bel hb5 (by intro k hk; subst hk; first | exact hl7 | exact hlM | (simp; omega));
           first
             | have HO := Lib.hid (Nums.call (Nums.drew HF.out) hb5 (hn5.weak fun k hk => Nat.le_of_lt hk))
             | have HO := Lib.hid (Nums.call (Nums.drew (Nums.alloc HF.out)) hb5 (hn5.weak fun k hk => Nat.le_of_lt hk))
             | have HO := Lib.hid (Nums.call HO.out hb5 (hn5.weak fun k hk => Nat.le_of_lt hk))
             | have HO := Lib.hid (Nums.call (Nums.alloc HO.out) hb5 (hn5.weak fun k hk => Nat.le_of_lt hk))
             | have HO := Lib.hid (Nums.call HM.out hb5 (hn5.weak fun k hk => Nat.le_of_lt hk))
             | have HO := Lib.hid (Nums.call (Nums.alloc HM.out) hb5 (hn5.weak fun k hk => Nat.le_of_lt hk))
           have hlO : b8 < w5.heap.size := (HO.out.var (b8, lo + b) (by simp)).1 |> HO.out.bnd _ |>.2
           clear hn5 hb5)
        | (go_at_call 28;
           first
             | refine (minus_num _ _ _ a (Nums.num (Nums.drew HF.out) (by simp)) (Nat.le_trans LA.out (by omega))).mono ?_
             | refine (minus_num _ _ _ a (Nums.num (Nums.drew (Nums.alloc HF.out)) (by simp)) (Nat.le_trans LA.out (by omega))).mono ?_
             | refine (minus_num _ _ _ a (Nums.num HO.out (by simp)) (Nat.le_trans LA.out (by omega))).mono ?_
             | refine (minus_num _ _ _ a (Nums.num (Nums.alloc HO.out) (by simp)) (Nat.le_trans LA.out (by omega))).mono ?_
             | refine (minus_num _ _ _ a (Nums.num HM.out (by simp)) (Nat.le_trans LA.out (by omega))).mono ?_
             | refine (minus_num _ _ _ a (Nums.num (Nums.alloc HM.out) (by simp)) (Nat.le_trans LA.out (by omega))).mono ?_
           rintro e w6 ⟨v6, rfl, hn6, hb6⟩; obtain ⟨s6, p6, l6, c6, rfl⟩ := hn6.parts
           have hag6 : Agree (fun k => k = b8) _ w6 := agree_bel hb6 (by intro k hk; subst hk; first | exact hl7 | exact hlO | (simp; omega))
           first
             | have HM := Lib.hid (Nums.call' (Nums.drew HF.out) hb6 hn6)
             | have HM := Lib.hid (Nums.call' (Nums.drew (Nums.alloc HF.out)) hb6 hn6)
             | have HM := Lib.hid (Nums.call' HO.out hb6 hn6)
             | have HM := Lib.hid (Nums.call' (Nums.alloc HO.out) hb6 hn6)
             | have HM := Lib.hid (Nums.call' HM.out hb6 hn6)
             | have HM := Lib.hid (Nums.call' (Nums.alloc HM.out) hb6 hn6)
           have hlM : b8 < w6.heap.size := (HM.out.var (b8, lo + b) (by simp)).1 |> HM.out.bnd _ |>.2
           clear hn6 hb6)
        | (go_at_call 30;
           first
             | refine (plus_num _ _ _ (lo + b) (-a) (Nums.any (Nums.drew HF.out) (by simp)) (Nums.any (Nums.drew HF.out) (by simp)) (Nat.le_trans LH.out (by omega)) (by rw [Int.natAbs_neg]; exact Nat.le_trans LA.out (by omega))).mono ?_
             | refine (plus_num _ _ _ (lo + b) (-a) (Nums.any (Nums.drew (Nums.alloc HF.out)) (by simp)) (Nums.any (Nums.drew (Nums.alloc HF.out)) (by simp)) (Nat.le_trans LH.out (by omega)) (by rw [Int.natAbs_neg]; exact Nat.le_trans LA.out (by omega))).mono ?_
             | refine (plus_num _ _ _ (lo + b) (-a) (Nums.any HO.out (by simp)) (Nums.any HO.out (by simp)) (Nat.le_trans LH.out (by omega)) (by rw [Int.natAbs_neg]; exact Nat.le_trans LA.out (by omega))).mono ?_
             | refine (plus_num _ _ _ (lo + b) (-a) (Nums.any (Nums.alloc HO.out) (by simp)) (Nums.any (Nums.alloc HO.out) (by simp)) (Nat.le_trans LH.out (by omega)) (by rw [Int.natAbs_neg]; exact Nat.le_trans LA.out (by omega))).mono ?_
             | refine (plus_num _ _ _ (lo + b) (-a) (Nums.any HM.out (by simp)) (Nums.any HM.out (by simp)) (Nat.le_trans LH.out (by omega)) (by rw [Int.natAbs_neg]; exact Nat.le_trans LA.out (by omega))).mono ?_
             | refine (plus_num _ _ _ (lo + b) (-a) (Nums.any (Nums.alloc HM.out) (by simp)) (Nums.any (Nums.alloc HM.out) (by simp)) (Nat.le_trans LH.out (by omega)) (by rw [Int.natAbs_neg]; exact Nat.le_trans LA.out (by omega))).mono ?_
           rintro e w7 ⟨v7, rfl, hn7, hb7⟩; obtain ⟨s7, p7, l7, c7, rfl⟩ := hn7.parts
           rw [EH.out] at hn7
           first
             | have HP := Lib.hid (Nums.call (Nums.drew HF.out) hb7 hn7)
             | have HP := Lib.hid (Nums.call (Nums.drew (Nums.alloc HF.out)) hb7 hn7)
             | have HP := Lib.hid (Nums.call HO.out hb7 hn7)
             | have HP := Lib.hid (Nums.call (Nums.alloc HO.out) hb7 hn7)
             | have HP := Lib.hid (Nums.call HM.out hb7 hn7)
             | have HP := Lib.hid (Nums.call (Nums.alloc HM.out) hb7 hn7)
           first
             | (obtain ⟨cr0, cr1, crf⟩ := Nums.rawc HP.out)
             | skip
           have hlP : b8 < w7.heap.size := (HP.out.var (b8, lo + b) (by simp)).1 |> HP.out.bnd _ |>.2
           clear hn7 hb7))
    all_goals
      go_meet
      first
        | exact ⟨_, _, rfl, Nums.store HP.out (by simp)⟩
        | exact ⟨_, _, rfl, Nums.made HP.out (by simp)⟩
        | exact ⟨_, _, rfl, fun e => ((HP.out.raws _ rfl).2.2 (b9, r) (by simp)) e.symm, Nums.store HP.out (by simp)⟩
        | exact ⟨_, _, rfl, fun e => Nat.lt_irrefl _ (Nat.lt_of_lt_of_eq (HP.out.bnd _ (HP.out.var (b9, r) (by simp)).1).2 e), Nums.made HP.out (by simp)⟩
  case rest =>
  obtain ⟨b10, bs10, rfl, hne0, hfX⟩ := hcut
  have hNE := Lib.hid hne0
  clear hne0
  rcases HS.out with ⟨hb, hr1, hr2⟩ | ⟨hb, hr1, hr2⟩
  · obtain ⟨s9, p9, l9, c9, x0, x1, _, _, _, hf9⟩ := hfX.read (b := b9) (z := r) (by simp)
    obtain ⟨s10, p10, l10, c10, y0, y1, _, _, _, hf10⟩ := hf9.read (b := b10) (z := b - r) (by simp)
    obtain ⟨e9, _⟩ := num_parts (hf10.any (z := r) (v := .agg #[.bool s9, .slice p9 l9 c9]) (by simp))
    obtain ⟨e10, e11⟩ := num_parts (hf10.any (z := b - r) (v := .agg #[.bool s10, .slice p10 l10 c10]) (by simp))
    have HBW := Lib.hid hf10.below
    obtain rfl : s9 = false := by rw [e9]; exact decide_eq_false (by omega)
    obtain rfl : s10 = false := by rw [e10]; exact decide_eq_false (by omega)
    have hl : 0 < l10 := by
      rcases Nat.eq_zero_or_pos l10 with h | h
      · rw [h] at e11; have := (ld_nil_iff (b - r).natAbs).1 e11.symm; omega
      · exact h
    clear hfX hf9 hf10 e9 e10 e11 hr1 hr2
    go_wp2
    go_ret
    exact ⟨rfl, HBW.out⟩
  · obtain ⟨s9, p9, l9, c9, x0, x1, xf, _, hk9, hf9⟩ := hfX.read (b := b9) (z := r) (by simp)
    have HF9 := Lib.hid hf9
    have HK9 := Lib.hid hk9
    have hm9 := (hfX.var (b9, r) (by simp)).1
    have hm10 := (hfX.var (b10, b - r) (by simp)).1
    have hne : b10 ≠ b9 := hNE.out
    have HM9 := Lib.hid hm9
    have HM10 := Lib.hid hm10
    clear hfX hf9 hk9 hm9 hm10
    go_wp2_with fail
    refine (minus_num wc _ _ r (HF9.out.num (by simp)) (Nat.le_trans fr.out.1 (by omega))).mono ?_
    rintro e w5 ⟨v5, rfl, hn5, hb5⟩
    obtain ⟨s5, p5, l5, c5, rfl⟩ := hn5.parts
    have H5 := Nums.call' HF9.out hb5 hn5
    have hk95 := HK9.out.below hb5
    have z0 : w5.cell? ⟨b9, 0, none⟩ = some (.bool s9) := hk95.cell 0
    have z1 : w5.cell? ⟨b9, 1, none⟩ = some (.slice p9 l9 c9) := hk95.cell 1
    have zf : ∀ i, w5.frozen? ⟨b9, i, none⟩ = false := hk95.frozen
    have H6 : Nums w ((w5.setCell ⟨b9, 0, none⟩ (.bool s5)).setCell ⟨b9, 1, none⟩ (.slice p5 l5 c5)) none bs10 [] _ := Nums.store' (z := -r) H5 hk95 rfl HM9.out (by simp)
    obtain ⟨s10, p10, l10, c10, y0, y1, yf, _, hk10, hf10⟩ := H6.read (b := b10) (z := b - r) (by simp [hne])
    have HF10 := Lib.hid hf10
    have HK10 := Lib.hid hk10
    clear hn5 hb5 H5 hk95 H6 hk10 hf10
    generalize hw6 : (w5.setCell ⟨b9, 0, none⟩ (.bool s5)).setCell ⟨b9, 1, none⟩ (.slice p5 l5 c5) = w6 at *
    go_wp2_with (first | rw [hw6])
    refine (minus_num w6 _ _ (b - r) (HF10.out.num (by simp)) (Nat.le_trans fr.out.2 (by omega))).mono ?_
    rintro e w7 ⟨v7, rfl, hn7, hb7⟩
    obtain ⟨s7, p7, l7, c7, rfl⟩ := hn7.parts
    have H7 := Nums.call' HF10.out hb7 hn7
    have hk107 := HK10.out.below hb7
    have q0 : w7.cell? ⟨b10, 0, none⟩ = some (.bool s10) := hk107.cell 0
    have q1 : w7.cell? ⟨b10, 1, none⟩ = some (.slice p10 l10 c10) := hk107.cell 1
    have qf : ∀ i, w7.frozen? ⟨b10, i, none⟩ = false := hk107.frozen
    have H8 : Nums w ((w7.setCell ⟨b10, 0, none⟩ (.bool s7)).setCell ⟨b10, 1, none⟩ (.slice p7 l7 c7)) none bs10 [] _ := Nums.store' (z := -(b - r)) H7 hk107 rfl HM10.out (by simp)
    obtain ⟨s11, p11, l11, c11, u0, u1, _, _, _, hf11⟩ := H8.read (b := b9) (z := -r) (by simp [hne, Ne.symm hne])
    obtain ⟨s12, p12, l12, c12, t0, t1, _, _, _, hf12⟩ := hf11.read (b := b10) (z := -(b - r)) (by simp)
    obtain ⟨e9, _⟩ := num_parts (hf12.any (z := -r) (v := .agg #[.bool s11, .slice p11 l11 c11]) (by simp))
    obtain ⟨e10, e11⟩ := num_parts (hf12.any (z := -(b - r)) (v := .agg #[.bool s12, .slice p12 l12 c12]) (by simp))
    have HBW := Lib.hid hf12.below
    obtain rfl : s11 = false := by rw [e9]; exact decide_eq_false (by omega)
    obtain rfl : s12 = false := by rw [e10]; exact decide_eq_false (by omega)
    have hl : 0 < l12 := by
      rcases Nat.eq_zero_or_pos l12 with h | h
      · rw [h] at e11; have := (ld_nil_iff (-(b - r)).natAbs).1 e11.symm; omega
      · exact h
    clear hn7 hb7 H7 hk107 H8 hf11 hf12 e9 e10 e11 hr1 hr2
    generalize hw8 : (w7.setCell ⟨b10, 0, none⟩ (.bool s7)).setCell ⟨b10, 1, none⟩ (.slice p7 l7 c7) = w8 at *
    go_wp2_with (first | rw [hw8])
    go_ret
    exact ⟨rfl, HBW.out⟩
end Go.Proofs.Ytdoidpiomonagaa
