/- Schemas compared: the document's Same. -/
import Derived.Test.YtlgohkdckdnmhaaDoorRtD
import Derived.Test.YtlgohkdckdnmhaaDoorSchF
namespace Go.Proofs.YtlgohkdckdnmhaaDoor
open Go.RowKit Go.Afx

theorem bne_of {α : Type} [BEq α] {a b : α} {t : Bool} (h : (a == b) = t) : (a != b) = !t := by unfold bne; rw [h]
theorem eqBy_len {α : Type} {f : α → α → Bool} {l l' : List α} (h : l.length ≠ l'.length) : eqBy f l l' = false := by unfold eqBy; rw [decide_eq_false h]; rfl
theorem eqBy_all {α : Type} {f : α → α → Bool} {l l' : List α} (h : l.length = l'.length) : eqBy f l l' = (List.range l.length).all (eqByAt f l l') := by unfold eqBy; rw [decide_eq_true h, Bool.true_and]
set_option maxRecDepth 100000 in
set_option maxHeartbeats 4000000 in
theorem refsameS_any (w : World) (B B' : Nat → Prop) (a b : SchV) (ha : SchAt w B a) (hb : SchAt w B' b) :
    Calls Tryd.prog 44 #[a.agg, b.agg] w fun e w' => e = .returned (.bool (sameS a b)) ∧ Below w.heap.size w w' := by
  obtain ⟨nm, cv, cl, iv, il, lim, prt, by_⟩ := a
  obtain ⟨nm', cv', cl', iv', il', lim', prt', by_'⟩ := b
  obtain ⟨h1, h2, h3, h4⟩ := ha
  obtain ⟨h1', h2', h3', h4'⟩ := hb
  simp only at h1 h2 h3 h4 h1' h2' h3' h4'
  simp only [SchV.agg, sameS]
  obtain ⟨pc, cc, rfl, hcc1, hcc⟩ := h1.form
  obtain ⟨pi, ci, rfl, hci1, hci⟩ := h2.1.form
  obtain ⟨pc', cc', rfl, hcc1', hcc'⟩ := h1'.form
  obtain ⟨pi', ci', rfl, hci1', hci'⟩ := h2'.1.form
  obtain ⟨w1, hw1⟩ : ∃ w1, w.alloc (.cells #[.string nm, .slice pc cl.length cc, .slice pi il.length ci, .int .i64 lim, .int .i64 prt, .int .i64 by_] 47) = w1 := ⟨_, rfl⟩
  obtain ⟨w2, hw2⟩ : ∃ w2, w1.alloc (.cells #[.string nm', .slice pc' cl'.length cc', .slice pi' il'.length ci', .int .i64 lim', .int .i64 prt', .int .i64 by_'] 47) = w2 := ⟨_, rfl⟩
  have b1 : Below w.heap.size w w1 := hw1 ▸ (Below.refl _ _).alloc (Nat.le_refl _) _
  have b2 : Below w1.heap.size w1 w2 := hw2 ▸ (Below.refl _ _).alloc (Nat.le_refl _) _
  have b12 : Below w.heap.size w w2 := b1.trans (b2.mono b1.size)
  have k1 : Blk w1 w.heap.size 47 [.string nm, .slice pc cl.length cc, .slice pi il.length ci, .int .i64 lim, .int .i64 prt, .int .i64 by_] := by rw [← hw1]; exact Blk.new w _ _
  have k1b := k1.below b2
  have k2 : Blk w2 w1.heap.size 47 [.string nm', .slice pc' cl'.length cc', .slice pi' il'.length ci', .int .i64 lim', .int .i64 prt', .int .i64 by_'] := by rw [← hw2]; exact Blk.new w1 _ _
  have HB := Lib.hid b12
  have HK1 := Lib.hid k1b
  have HK2 := Lib.hid k2
  obtain ⟨x0, x1, x2, x3, x4, x5⟩ := sch_cells k1b
  obtain ⟨y0, y1, y2, y3, y4, y5⟩ := sch_cells k2
  have HCL := Lib.hid h1
  have HCL' := Lib.hid h1'
  have HIL := Lib.hid h2
  have HIL' := Lib.hid h2'
  clear b1 b2 b12 k1 k1b k2 h1 h1' h2 h2' h3 h3' h4 h4'
  by_cases hf : (nm.toList == nm'.toList && (lim == lim' && (prt == prt' && by_ == by_'))) = false
  · skip
    rw [hf, Bool.false_and]
    cases d1 : (nm.toList == nm'.toList)
    · clear hf
      go_enter Tryd.func44, Tryd.ntmps44
      go_wp2
      go_ret
      exact ⟨rfl, HB.out⟩
    · have n1 := bne_of d1
      cases d2 : (lim == lim')
      · have n2 := bne_of d2
        simp only [Bool.not_true, Bool.not_false] at n1 n2
        clear hf
        go_enter Tryd.func44, Tryd.ntmps44
        go_wp2
        go_ret
        exact ⟨rfl, HB.out⟩
      · have n2 := bne_of d2
        cases d3 : (prt == prt')
        · have n3 := bne_of d3
          simp only [Bool.not_true, Bool.not_false] at n1 n2 n3
          clear hf
          go_enter Tryd.func44, Tryd.ntmps44
          go_wp2
          go_ret
          exact ⟨rfl, HB.out⟩
        · have n3 := bne_of d3
          rw [d1, d2, d3, Bool.true_and, Bool.true_and, Bool.true_and] at hf
          have n4 := bne_of hf
          simp only [Bool.not_true, Bool.not_false] at n1 n2 n3 n4
          go_enter Tryd.func44, Tryd.ntmps44
          go_wp2
          go_ret
          exact ⟨rfl, HB.out⟩
  rw [Bool.not_eq_false] at hf
  rw [hf, Bool.true_and]
  rw [Bool.and_eq_true, Bool.and_eq_true, Bool.and_eq_true] at hf
  obtain ⟨d1, d2, d3, d4⟩ := hf
  have n1 := bne_of d1
  have n2 := bne_of d2
  have n3 := bne_of d3
  have n4 := bne_of d4
  simp only [Bool.not_true] at n1 n2 n3 n4
  rcases Classical.em (¬ cl.length = cl'.length) with hcl | hcl
  · rw [eqBy_len hcl, Bool.false_and]
    have d5 : ((cl.length : Int) == (cl'.length : Int)) = false := beq_eq_false_iff_ne.2 (by omega)
    have d6 : ((cl.length : Int) != (cl'.length : Int)) = true := bne_iff_ne.2 (by omega)
    go_enter Tryd.func44, Tryd.ntmps44
    go_wp2
    go_ret
    exact ⟨rfl, HB.out⟩
  rw [Classical.not_not] at hcl
  rcases Classical.em (¬ il.length = il'.length) with hil | hil
  · rw [eqBy_len hil, Bool.and_false]
    have d5 : ((cl.length : Int) == (cl'.length : Int)) = true := beq_iff_eq.2 (by omega)
    have d6 : ((cl.length : Int) != (cl'.length : Int)) = false := by rw [hcl]; simp
    have d7 : ((il.length : Int) == (il'.length : Int)) = false := beq_eq_false_iff_ne.2 (by omega)
    have d8 : ((il.length : Int) != (il'.length : Int)) = true := bne_iff_ne.2 (by omega)
    clear hcl hil
    go_enter Tryd.func44, Tryd.ntmps44
    go_wp2
    go_ret
    exact ⟨rfl, HB.out⟩
  rw [Classical.not_not] at hil
  rw [eqBy_all hcl, eqBy_all hil]
  have d6 : ((cl.length : Int) != (cl'.length : Int)) = false := by rw [hcl]; simp
  have d8 : ((il.length : Int) != (il'.length : Int)) = false := by rw [hil]; simp
  have HLC := Lib.hid hcl
  have HLI := Lib.hid hil
  obtain ⟨out, hout⟩ : ∃ out, ((List.range cl.length).all (eqByAt colEq cl cl') && (List.range il.length).all (eqByAt idxEq il il')) = out := ⟨_, rfl⟩
  rw [hout]
  have HO := Lib.hid hout
  clear hcl hil hout
  go_enter Tryd.func44, Tryd.ntmps44
  go_wp2
  clear hw1 hw2 d1 d2 d3 d4 n1 n2 n3 n4 d6 d8 x0 x1 x2 x3 x4 x5 y0 y1 y2 y3 y4 y5
  go_loopw [5] (fun i wr => ∃ k : Nat, i = .int .i64 k ∧ k ≤ cl.length ∧ ((List.range cl.length).take k).all (eqByAt colEq cl cl') = true ∧ Below w2.heap.size w2 wr) (fun i _ => cl.length - (intOf i).toNat)
  case atStart => exact ⟨0, rfl, Nat.zero_le _, rfl, Below.refl _ _⟩
  case round =>
    obtain ⟨k, rfl, hk, hall, hb⟩ := hrel
    have HX := Lib.hid hb
    have HA := Lib.hid hall
    have hbw := HB.out.trans (hb.mono HB.out.size)
    obtain ⟨x0, x1, x2, x3, x4, x5⟩ := sch_cells (HK1.out.below hb)
    obtain ⟨y0, y1, y2, y3, y4, y5⟩ := sch_cells (HK2.out.below hb)
    clear hall
    by_cases hka : k < cl.length
    · have hka' : k < cl'.length := by rw [← HLC.out]; exact hka
      obtain ⟨g, off, cap1, hv, hg, e0, e1⟩ := sl_col (HCL.out.below hbw) hka
      obtain ⟨g', off', cap1', hv', hg', e0', e1'⟩ := sl_col (HCL'.out.below hbw) hka'
      cases hv
      cases hv'
      have HX1 := Lib.hid (range_next (eqByAt colEq cl cl') cl.length k hka HA.out)
      have HY1 := Lib.hid (range_not (eqByAt colEq cl cl') cl.length k hka)
      rw [eqByAt_eq colEq cl cl' k hka hka'] at HX1 HY1
      clear hb hbw
      generalize cl[k] = x at *
      generalize cl'[k] = y at *
      obtain ⟨xs, xk⟩ := x
      obtain ⟨ys, yk⟩ := y
      have hav : colEq ⟨xs, xk⟩ ⟨ys, yk⟩ = (xs.toList == ys.toList && xk == yk) := rfl
      rw [hav] at HX1 HY1
      simp only at e0 e1 e0' e1'
      have kn := fun w : World => neqC w xk yk xs ys
      cases ht : (xs.toList == ys.toList && xk == yk)
      · rw [ht] at HX1 HY1 kn
        have HF := Lib.hid (HY1.out rfl)
        clear HX1 HY1 ht hav
        go_wp2
        refine wp_region_lit_plan [] [(0, 0), (2, 0), (5, 0), (7, 0), (1, 1), (3, 0), (4, 1), (6, 1), (8, 0), (9, 1), (10, 0)] (fun _ => False) (by kernel_rfl) (by kernel_rfl) (fun c a d v w h => by cases d <;> exact h) ?_
        go_wp2_with (first
          | (refine plan_pure (v := _) (by rfl) (by rfl) (by rfl) (by intro _; go_simp; with_reducible rfl) ?_; simp only [List.setIfInBounds_toArray, List.set_cons_zero, List.set_cons_succ]; try go_bits) | (refine plan_read (v := _) (by rfl) (by rfl) (by rfl) (by go_simp; with_reducible rfl) ?_; simp only [List.setIfInBounds_toArray, List.set_cons_zero, List.set_cons_succ]; try go_bits) | (refine plan_readB (v := _) (by rfl) (by rfl) (by rfl) (by intro _ hag; unfold Agree at hag; go_simp; with_reducible rfl) ?_; simp only [List.setIfInBounds_toArray, List.set_cons_zero, List.set_cons_succ]; try go_bits) | (refine plan_skip0 (by rfl) (by rfl) (by rfl) ?_; simp only [List.setIfInBounds_toArray, List.set_cons_zero, List.set_cons_succ]; try go_bits) | (refine plan_skip1 (by rfl) (by rfl) (by rfl) ?_; simp only [List.setIfInBounds_toArray, List.set_cons_zero, List.set_cons_succ]; try go_bits) | (refine plan_skip2 (by rfl) (by rfl) (by rfl) ?_; simp only [List.setIfInBounds_toArray, List.set_cons_zero, List.set_cons_succ]; try go_bits) | (refine plan_skip4 (by rfl) (by rfl) (by rfl) ?_; simp only [List.setIfInBounds_toArray, List.set_cons_zero, List.set_cons_succ]; try go_bits) | (refine plan_any (by rfl) ?_) | (refine plan_keep (by rfl) ?_) | (refine plan_nil ?_) | (with_reducible refine And.intro (by first | assumption | exact Agree.refl _ _ | exact agree_drew _ _ | exact agree_alloc _ (by intro k hk; subst hk; first | omega | (simp; omega))) ?_) | (unfold Act.put; simp only [List.setIfInBounds_toArray, List.set_cons_zero, List.set_cons_succ]))
        go_ret
        exact ⟨by rw [← HO.out, HF.out]; rfl, HB.out.trans (HX.out.drew.mono HB.out.size)⟩
      · rw [ht] at HX1 HY1 kn
        have HF := Lib.hid (HX1.out rfl)
        clear HX1 HY1 ht hav
        go_wp2
        refine wp_region_lit_plan [] [(0, 0), (2, 0), (5, 0), (7, 0), (1, 1), (3, 0), (4, 1), (6, 1), (8, 0), (9, 1), (10, 0)] (fun _ => False) (by kernel_rfl) (by kernel_rfl) (fun c a d v w h => by cases d <;> exact h) ?_
        go_wp2_with (first
          | (refine plan_pure (v := _) (by rfl) (by rfl) (by rfl) (by intro _; go_simp; with_reducible rfl) ?_; simp only [List.setIfInBounds_toArray, List.set_cons_zero, List.set_cons_succ]; try go_bits) | (refine plan_read (v := _) (by rfl) (by rfl) (by rfl) (by go_simp; with_reducible rfl) ?_; simp only [List.setIfInBounds_toArray, List.set_cons_zero, List.set_cons_succ]; try go_bits) | (refine plan_readB (v := _) (by rfl) (by rfl) (by rfl) (by intro _ hag; unfold Agree at hag; go_simp; with_reducible rfl) ?_; simp only [List.setIfInBounds_toArray, List.set_cons_zero, List.set_cons_succ]; try go_bits) | (refine plan_skip0 (by rfl) (by rfl) (by rfl) ?_; simp only [List.setIfInBounds_toArray, List.set_cons_zero, List.set_cons_succ]; try go_bits) | (refine plan_skip1 (by rfl) (by rfl) (by rfl) ?_; simp only [List.setIfInBounds_toArray, List.set_cons_zero, List.set_cons_succ]; try go_bits) | (refine plan_skip2 (by rfl) (by rfl) (by rfl) ?_; simp only [List.setIfInBounds_toArray, List.set_cons_zero, List.set_cons_succ]; try go_bits) | (refine plan_skip4 (by rfl) (by rfl) (by rfl) ?_; simp only [List.setIfInBounds_toArray, List.set_cons_zero, List.set_cons_succ]; try go_bits) | (refine plan_any (by rfl) ?_) | (refine plan_keep (by rfl) ?_) | (refine plan_nil ?_) | (with_reducible refine And.intro (by first | assumption | exact Agree.refl _ _ | exact agree_drew _ _ | exact agree_alloc _ (by intro k hk; subst hk; first | omega | (simp; omega))) ?_) | (unfold Act.put; simp only [List.setIfInBounds_toArray, List.set_cons_zero, List.set_cons_succ]))
        exact ⟨⟨k + 1, by go_num, by omega, HF.out, HX.out.drew⟩, by (simp [intOf]) <;> omega⟩
    · obtain rfl : k = cl.length := by omega
      have hc1 := range_all _ _ HA.out
      have HO2 : Hid ((List.range il.length).all (eqByAt idxEq il il') = out) := by
        show _ = _
        have := HO.out
        rwa [hc1, Bool.true_and] at this
      clear hb hbw hc1 HA HO
      go_wp2
      clear x0 x1 x2 x3 x4 x5 y0 y1 y2 y3 y4 y5
      go_loopw [6] (fun i wr => ∃ k : Nat, i = .int .i64 k ∧ k ≤ il.length ∧ ((List.range il.length).take k).all (eqByAt idxEq il il') = true ∧ Below w2.heap.size w2 wr) (fun i _ => il.length - (intOf i).toNat)
      case atStart => exact ⟨0, rfl, Nat.zero_le _, rfl, HX.out⟩
      case round =>
        clear HX
        obtain ⟨k, rfl, hk, hall, hb⟩ := hrel
        have HX := Lib.hid hb
        have HA := Lib.hid hall
        have hbw := HB.out.trans (hb.mono HB.out.size)
        obtain ⟨x0, x1, x2, x3, x4, x5⟩ := sch_cells (HK1.out.below hb)
        obtain ⟨y0, y1, y2, y3, y4, y5⟩ := sch_cells (HK2.out.below hb)
        clear hall
        by_cases hka : k < il.length
        · have hka' : k < il'.length := by rw [← HLI.out]; exact hka
          have g1 := HIL.out.below hbw
          have g2 := HIL'.out.below hbw
          obtain ⟨g, off, cap1, hv, hg, e0, e1⟩ := sl_idx g1.1 hka
          obtain ⟨g', off', cap1', hv', hg', e0', e1'⟩ := sl_idx g2.1 hka'
          cases hv
          cases hv'
          have HX1 := Lib.hid (range_next (eqByAt idxEq il il') il.length k hka HA.out)
          have HY1 := Lib.hid (range_not (eqByAt idxEq il il') il.length k hka)
          rw [eqByAt_eq idxEq il il' k hka hka'] at HX1 HY1
          have sx := g1.2 il[k] (List.getElem_mem hka)
          have sy := g2.2 il'[k] (List.getElem_mem hka')
          clear hb hbw g1 g2
          generalize il[k] = x at *
          generalize il'[k] = y at *
          obtain ⟨xv, xl, xu⟩ := x
          obtain ⟨yv, yl, yu⟩ := y
          simp only at e0 e1 e0' e1' sx sy
          have HS := Lib.hid (refsame wr.drew (fun _ => True) xv yv xl yl (sl_anyw' sx) (sl_anyw' sy))
          have hav : idxEq ⟨xv, xl, xu⟩ ⟨yv, yl, yu⟩ = (xu == yu && xl == yl) := rfl
          rw [hav] at HX1 HY1
          clear sx sy hav
          generalize (xl == yl) = eq at *
          cases hu : (xu == yu)
          · rw [hu, Bool.false_and] at HX1 HY1
            have HF := Lib.hid (HY1.out rfl)
            have hu2 : (xu != yu) = true := by unfold bne; rw [hu]; rfl
            clear HX1 HY1
            go_wp2
            refine wp_region_lit_plan [] [(0, 0), (2, 0), (6, 0), (8, 0), (1, 1), (3, 0), (4, 0), (5, 1), (7, 1), (9, 0), (10, 0), (11, 1), (12, 0), (13, 0), (14, 0), (16, 0), (20, 0), (22, 0), (15, 1), (17, 0), (18, 0), (19, 1), (21, 1), (23, 0), (24, 0), (25, 1), (26, 4), (27, 0), (28, 0)] (fun _ => False) (by kernel_rfl) (by kernel_rfl) (fun c a d v w h => by cases d <;> exact h) ?_
            go_wp2_with (first
              | (refine plan_pure (v := _) (by rfl) (by rfl) (by rfl) (by intro _; go_simp; with_reducible rfl) ?_; simp only [List.setIfInBounds_toArray, List.set_cons_zero, List.set_cons_succ]; try go_bits) | (refine plan_read (v := _) (by rfl) (by rfl) (by rfl) (by go_simp; with_reducible rfl) ?_; simp only [List.setIfInBounds_toArray, List.set_cons_zero, List.set_cons_succ]; try go_bits) | (refine plan_readB (v := _) (by rfl) (by rfl) (by rfl) (by intro _ hag; unfold Agree at hag; go_simp; with_reducible rfl) ?_; simp only [List.setIfInBounds_toArray, List.set_cons_zero, List.set_cons_succ]; try go_bits) | (refine plan_skip0 (by rfl) (by rfl) (by rfl) ?_; simp only [List.setIfInBounds_toArray, List.set_cons_zero, List.set_cons_succ]; try go_bits) | (refine plan_skip1 (by rfl) (by rfl) (by rfl) ?_; simp only [List.setIfInBounds_toArray, List.set_cons_zero, List.set_cons_succ]; try go_bits) | (refine plan_skip2 (by rfl) (by rfl) (by rfl) ?_; simp only [List.setIfInBounds_toArray, List.set_cons_zero, List.set_cons_succ]; try go_bits) | (refine plan_skip4 (by rfl) (by rfl) (by rfl) ?_; simp only [List.setIfInBounds_toArray, List.set_cons_zero, List.set_cons_succ]; try go_bits) | (refine plan_any (by rfl) ?_) | (refine plan_keep (by rfl) ?_) | (refine plan_nil ?_) | (with_reducible refine And.intro (by first | assumption | exact Agree.refl _ _ | exact agree_drew _ _ | exact agree_alloc _ (by intro k hk; subst hk; first | omega | (simp; omega))) ?_) | (unfold Act.put; simp only [List.setIfInBounds_toArray, List.set_cons_zero, List.set_cons_succ]))
            go_ret
            exact ⟨by rw [← HO2.out, HF.out]; rfl, HB.out.trans (HX.out.drew.mono HB.out.size)⟩
          · rw [hu, Bool.true_and] at HX1 HY1
            have hu2 : (xu != yu) = false := by unfold bne; rw [hu]; rfl
            cases eq
            · have HF := Lib.hid (HY1.out rfl)
              clear HX1 HY1
              go_wp2
              refine wp_region_lit_plan [] [(0, 0), (2, 0), (6, 0), (8, 0), (1, 1), (3, 0), (4, 0), (5, 1), (7, 1), (9, 0), (10, 0), (11, 1), (12, 0), (13, 0), (14, 0), (16, 0), (20, 0), (22, 0), (15, 1), (17, 0), (18, 0), (19, 1), (21, 1), (23, 0), (24, 0), (25, 1), (26, 4), (27, 0), (28, 0)] (fun _ => False) (by kernel_rfl) (by kernel_rfl) (fun c a d v w h => by cases d <;> exact h) ?_
              go_wp2_with (first
                | (refine plan_pure (v := _) (by rfl) (by rfl) (by rfl) (by intro _; go_simp; with_reducible rfl) ?_; simp only [List.setIfInBounds_toArray, List.set_cons_zero, List.set_cons_succ]; try go_bits) | (refine plan_read (v := _) (by rfl) (by rfl) (by rfl) (by go_simp; with_reducible rfl) ?_; simp only [List.setIfInBounds_toArray, List.set_cons_zero, List.set_cons_succ]; try go_bits) | (refine plan_readB (v := _) (by rfl) (by rfl) (by rfl) (by intro _ hag; unfold Agree at hag; go_simp; with_reducible rfl) ?_; simp only [List.setIfInBounds_toArray, List.set_cons_zero, List.set_cons_succ]; try go_bits) | (refine plan_skip0 (by rfl) (by rfl) (by rfl) ?_; simp only [List.setIfInBounds_toArray, List.set_cons_zero, List.set_cons_succ]; try go_bits) | (refine plan_skip1 (by rfl) (by rfl) (by rfl) ?_; simp only [List.setIfInBounds_toArray, List.set_cons_zero, List.set_cons_succ]; try go_bits) | (refine plan_skip2 (by rfl) (by rfl) (by rfl) ?_; simp only [List.setIfInBounds_toArray, List.set_cons_zero, List.set_cons_succ]; try go_bits) | (refine plan_skip4 (by rfl) (by rfl) (by rfl) ?_; simp only [List.setIfInBounds_toArray, List.set_cons_zero, List.set_cons_succ]; try go_bits) | (refine plan_any (by rfl) ?_) | (refine plan_keep (by rfl) ?_) | (refine plan_nil ?_) | (with_reducible refine And.intro (by first | assumption | exact Agree.refl _ _ | exact agree_drew _ _ | exact agree_alloc _ (by intro k hk; subst hk; first | omega | (simp; omega))) ?_) | (unfold Act.put; simp only [List.setIfInBounds_toArray, List.set_cons_zero, List.set_cons_succ]))
              refine HS.out.mono ?_
              rintro e w3 ⟨rfl, hb3⟩
              have HX3 := Lib.hid (HX.out.drew.trans (hb3.mono HX.out.size))
              clear hb3
              go_wp2_with (first
                | (refine plan_pure (v := _) (by rfl) (by rfl) (by rfl) (by intro _; go_simp; with_reducible rfl) ?_; simp only [List.setIfInBounds_toArray, List.set_cons_zero, List.set_cons_succ]; try go_bits) | (refine plan_read (v := _) (by rfl) (by rfl) (by rfl) (by go_simp; with_reducible rfl) ?_; simp only [List.setIfInBounds_toArray, List.set_cons_zero, List.set_cons_succ]; try go_bits) | (refine plan_readB (v := _) (by rfl) (by rfl) (by rfl) (by intro _ hag; unfold Agree at hag; go_simp; with_reducible rfl) ?_; simp only [List.setIfInBounds_toArray, List.set_cons_zero, List.set_cons_succ]; try go_bits) | (refine plan_skip0 (by rfl) (by rfl) (by rfl) ?_; simp only [List.setIfInBounds_toArray, List.set_cons_zero, List.set_cons_succ]; try go_bits) | (refine plan_skip1 (by rfl) (by rfl) (by rfl) ?_; simp only [List.setIfInBounds_toArray, List.set_cons_zero, List.set_cons_succ]; try go_bits) | (refine plan_skip2 (by rfl) (by rfl) (by rfl) ?_; simp only [List.setIfInBounds_toArray, List.set_cons_zero, List.set_cons_succ]; try go_bits) | (refine plan_skip4 (by rfl) (by rfl) (by rfl) ?_; simp only [List.setIfInBounds_toArray, List.set_cons_zero, List.set_cons_succ]; try go_bits) | (refine plan_any (by rfl) ?_) | (refine plan_keep (by rfl) ?_) | (refine plan_nil ?_) | (with_reducible refine And.intro (by first | assumption | exact Agree.refl _ _ | exact agree_drew _ _ | exact agree_alloc _ (by intro k hk; subst hk; first | omega | (simp; omega))) ?_) | (unfold Act.put; simp only [List.setIfInBounds_toArray, List.set_cons_zero, List.set_cons_succ]))
              go_ret
              exact ⟨by rw [← HO2.out, HF.out]; rfl, HB.out.trans (HX3.out.mono HB.out.size)⟩
            · have HF := Lib.hid (HX1.out rfl)
              clear HX1 HY1
              go_wp2
              refine wp_region_lit_plan [] [(0, 0), (2, 0), (6, 0), (8, 0), (1, 1), (3, 0), (4, 0), (5, 1), (7, 1), (9, 0), (10, 0), (11, 1), (12, 0), (13, 0), (14, 0), (16, 0), (20, 0), (22, 0), (15, 1), (17, 0), (18, 0), (19, 1), (21, 1), (23, 0), (24, 0), (25, 1), (26, 4), (27, 0), (28, 0)] (fun _ => False) (by kernel_rfl) (by kernel_rfl) (fun c a d v w h => by cases d <;> exact h) ?_
              go_wp2_with (first
                | (refine plan_pure (v := _) (by rfl) (by rfl) (by rfl) (by intro _; go_simp; with_reducible rfl) ?_; simp only [List.setIfInBounds_toArray, List.set_cons_zero, List.set_cons_succ]; try go_bits) | (refine plan_read (v := _) (by rfl) (by rfl) (by rfl) (by go_simp; with_reducible rfl) ?_; simp only [List.setIfInBounds_toArray, List.set_cons_zero, List.set_cons_succ]; try go_bits) | (refine plan_readB (v := _) (by rfl) (by rfl) (by rfl) (by intro _ hag; unfold Agree at hag; go_simp; with_reducible rfl) ?_; simp only [List.setIfInBounds_toArray, List.set_cons_zero, List.set_cons_succ]; try go_bits) | (refine plan_skip0 (by rfl) (by rfl) (by rfl) ?_; simp only [List.setIfInBounds_toArray, List.set_cons_zero, List.set_cons_succ]; try go_bits) | (refine plan_skip1 (by rfl) (by rfl) (by rfl) ?_; simp only [List.setIfInBounds_toArray, List.set_cons_zero, List.set_cons_succ]; try go_bits) | (refine plan_skip2 (by rfl) (by rfl) (by rfl) ?_; simp only [List.setIfInBounds_toArray, List.set_cons_zero, List.set_cons_succ]; try go_bits) | (refine plan_skip4 (by rfl) (by rfl) (by rfl) ?_; simp only [List.setIfInBounds_toArray, List.set_cons_zero, List.set_cons_succ]; try go_bits) | (refine plan_any (by rfl) ?_) | (refine plan_keep (by rfl) ?_) | (refine plan_nil ?_) | (with_reducible refine And.intro (by first | assumption | exact Agree.refl _ _ | exact agree_drew _ _ | exact agree_alloc _ (by intro k hk; subst hk; first | omega | (simp; omega))) ?_) | (unfold Act.put; simp only [List.setIfInBounds_toArray, List.set_cons_zero, List.set_cons_succ]))
              refine HS.out.mono ?_
              rintro e w3 ⟨rfl, hb3⟩
              have HX3 := Lib.hid (HX.out.drew.trans (hb3.mono HX.out.size))
              clear hb3
              go_wp2_with (first
                | (refine plan_pure (v := _) (by rfl) (by rfl) (by rfl) (by intro _; go_simp; with_reducible rfl) ?_; simp only [List.setIfInBounds_toArray, List.set_cons_zero, List.set_cons_succ]; try go_bits) | (refine plan_read (v := _) (by rfl) (by rfl) (by rfl) (by go_simp; with_reducible rfl) ?_; simp only [List.setIfInBounds_toArray, List.set_cons_zero, List.set_cons_succ]; try go_bits) | (refine plan_readB (v := _) (by rfl) (by rfl) (by rfl) (by intro _ hag; unfold Agree at hag; go_simp; with_reducible rfl) ?_; simp only [List.setIfInBounds_toArray, List.set_cons_zero, List.set_cons_succ]; try go_bits) | (refine plan_skip0 (by rfl) (by rfl) (by rfl) ?_; simp only [List.setIfInBounds_toArray, List.set_cons_zero, List.set_cons_succ]; try go_bits) | (refine plan_skip1 (by rfl) (by rfl) (by rfl) ?_; simp only [List.setIfInBounds_toArray, List.set_cons_zero, List.set_cons_succ]; try go_bits) | (refine plan_skip2 (by rfl) (by rfl) (by rfl) ?_; simp only [List.setIfInBounds_toArray, List.set_cons_zero, List.set_cons_succ]; try go_bits) | (refine plan_skip4 (by rfl) (by rfl) (by rfl) ?_; simp only [List.setIfInBounds_toArray, List.set_cons_zero, List.set_cons_succ]; try go_bits) | (refine plan_any (by rfl) ?_) | (refine plan_keep (by rfl) ?_) | (refine plan_nil ?_) | (with_reducible refine And.intro (by first | assumption | exact Agree.refl _ _ | exact agree_drew _ _ | exact agree_alloc _ (by intro k hk; subst hk; first | omega | (simp; omega))) ?_) | (unfold Act.put; simp only [List.setIfInBounds_toArray, List.set_cons_zero, List.set_cons_succ]))
              exact ⟨⟨k + 1, by go_num, by omega, HF.out, HX3.out⟩, by (simp [intOf]) <;> omega⟩
        · obtain rfl : k = il.length := by omega
          have hc1 := range_all _ _ HA.out
          have HZ : Hid (out = true) := by show _ = _; rw [← HO2.out, hc1]
          clear hb hbw hc1
          go_wp2
          go_ret
          exact ⟨by rw [HZ.out]; rfl, HB.out.trans (HX.out.mono HB.out.size)⟩
end Go.Proofs.YtlgohkdckdnmhaaDoor
