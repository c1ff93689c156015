/- Schemas compared whose first columns differ: the document's Same. -/
import Derived.Test.YtlgohkdckdnmhaaDoorRtE
namespace Go.Proofs.YtlgohkdckdnmhaaDoor
open Go.RowKit Go.Afx

set_option maxRecDepth 100000 in
set_option maxHeartbeats 4000000 in
theorem refsame_no (w : World) (B B' : Nat → Prop) (a b : SchV) (h1 : Sl w B 2 a.colsV a.cols.length (colCells a.cols)) (h1' : Sl w B' 2 b.colsV b.cols.length (colCells b.cols)) (h2 : ∃ p c, a.idxV = .slice p a.idx.length c) (h2' : ∃ p c, b.idxV = .slice p b.idx.length c)
    (en : a.name = b.name) (el : a.limit = b.limit) (ep : a.parts = b.parts) (eb : a.by_ = b.by_) (hcl : a.cols.length = b.cols.length) (hil : a.idx.length = b.idx.length) (h0 : 0 < a.cols.length) (h0' : 0 < b.cols.length) (hne : colEq a.cols[0] b.cols[0] = false) :
    Calls Tryd.prog 44 #[a.agg, b.agg] w fun e w' => e = .returned (.bool false) ∧ Below w.heap.size w w' := by
  obtain ⟨nm, cv, cl, iv, il, lim, prt, by_⟩ := a
  obtain ⟨nm', cv', cl', iv', il', lim', prt', by_'⟩ := b
  simp only at h1 h1' h2 h2' en el ep eb hcl hil h0 h0' hne
  subst en el ep eb
  simp only [SchV.agg]
  obtain ⟨pc, cc, rfl, hcc1, hcc⟩ := h1.form
  obtain ⟨pi, ci, rfl⟩ := h2
  obtain ⟨pc', cc', rfl, hcc1', hcc'⟩ := h1'.form
  obtain ⟨pi', ci', rfl⟩ := h2'
  obtain ⟨w1, hw1⟩ : ∃ w1, w.alloc (.cells #[.string nm, .slice pc cl.length cc, .slice pi il.length ci, .int .i64 lim, .int .i64 prt, .int .i64 by_] 47) = w1 := ⟨_, rfl⟩
  obtain ⟨w2, hw2⟩ : ∃ w2, w1.alloc (.cells #[.string nm, .slice pc' cl'.length cc', .slice pi' il'.length ci', .int .i64 lim, .int .i64 prt, .int .i64 by_] 47) = w2 := ⟨_, rfl⟩
  have b1 : Below w.heap.size w w1 := hw1 ▸ (Below.refl _ _).alloc (Nat.le_refl _) _
  have b2 : Below w1.heap.size w1 w2 := hw2 ▸ (Below.refl _ _).alloc (Nat.le_refl _) _
  have b12 : Below w.heap.size w w2 := b1.trans (b2.mono b1.size)
  have k1 : Blk w1 w.heap.size 47 [.string nm, .slice pc cl.length cc, .slice pi il.length ci, .int .i64 lim, .int .i64 prt, .int .i64 by_] := by rw [← hw1]; exact Blk.new w _ _
  have k1b := k1.below b2
  have k2 : Blk w2 w1.heap.size 47 [.string nm, .slice pc' cl'.length cc', .slice pi' il'.length ci', .int .i64 lim, .int .i64 prt, .int .i64 by_] := by rw [← hw2]; exact Blk.new w1 _ _
  have HB := Lib.hid b12
  have HK1 := Lib.hid k1b
  have HK2 := Lib.hid k2
  obtain ⟨x0, x1, x2, x3, x4, x5⟩ := sch_cells k1b
  obtain ⟨y0, y1, y2, y3, y4, y5⟩ := sch_cells k2
  have HCL := Lib.hid h1
  have HCL' := Lib.hid h1'
  clear b1 b2 b12 k1 k1b k2 h1 h1'
  have d1 : (nm.toList == nm.toList) = true := beq_self_eq_true _
  have n1 : (nm.toList != nm.toList) = false := by unfold bne; rw [d1]; rfl
  have n2 : (lim != lim) = false := by simp
  have n3 : (prt != prt) = false := by simp
  have n4 : (by_ != by_) = false := by simp
  have d6 : ((cl.length : Int) != (cl'.length : Int)) = false := by rw [hcl]; simp
  have d8 : ((il.length : Int) != (il'.length : Int)) = false := by rw [hil]; simp
  have H0 := Lib.hid h0
  have H0' := Lib.hid h0'
  have HNE := Lib.hid hne
  clear hcl hil hne
  go_enter Tryd.func44, Tryd.ntmps44
  go_wp2
  clear hw1 hw2 d1 n1 n2 n3 n4 d6 d8 x0 x1 x2 x3 x4 x5 y0 y1 y2 y3 y4 y5
  go_loopw [5] (fun i wr => i = .int .i64 0 ∧ wr = w2) (fun i _ => 0)
  case atStart => exact ⟨rfl, rfl⟩
  case round =>
    obtain ⟨rfl, rfl⟩ := hrel
    obtain ⟨x0, x1, x2, x3, x4, x5⟩ := sch_cells HK1.out
    obtain ⟨y0, y1, y2, y3, y4, y5⟩ := sch_cells HK2.out
    obtain ⟨g, off, cap1, hv, hg, e0, e1⟩ := sl_col (HCL.out.below HB.out) H0.out
    obtain ⟨g', off', cap1', hv', hg', e0', e1'⟩ := sl_col (HCL'.out.below HB.out) H0'.out
    cases hv
    cases hv'

    have hk := HNE.out
    rw [Nat.zero_mul, Nat.add_zero] at e0 e1 e0' e1'
    generalize cl[0] = x at *
    generalize cl'[0] = y at *
    obtain ⟨xs, xk⟩ := x
    obtain ⟨ys, yk⟩ := y
    have hav : colEq ⟨xs, xk⟩ ⟨ys, yk⟩ = (xs.toList == ys.toList && xk == yk) := rfl
    rw [hav] at hk
    simp only at e0 e1 e0' e1'
    have kn := fun w : World => neqC w xk yk xs ys
    rw [hk] at kn
    clear hav hk
    go_wp2
    refine wp_region_lit_plan [] [(0, 0), (2, 0), (5, 0), (7, 0), (1, 1), (3, 0), (4, 1), (6, 1), (8, 0), (9, 1), (10, 0)] (fun _ => False) (by kernel_rfl) (by kernel_rfl) (fun c a d v w h => by cases d <;> exact h) ?_
    go_wp2_with (first
      | (refine plan_pure (v := _) (by rfl) (by rfl) (by rfl) (by intro _; go_simp; with_reducible rfl) ?_; simp only [List.setIfInBounds_toArray, List.set_cons_zero, List.set_cons_succ]; try go_bits) | (refine plan_read (v := _) (by rfl) (by rfl) (by rfl) (by go_simp; with_reducible rfl) ?_; simp only [List.setIfInBounds_toArray, List.set_cons_zero, List.set_cons_succ]; try go_bits) | (refine plan_readB (v := _) (by rfl) (by rfl) (by rfl) (by intro _ hag; unfold Agree at hag; go_simp; with_reducible rfl) ?_; simp only [List.setIfInBounds_toArray, List.set_cons_zero, List.set_cons_succ]; try go_bits) | (refine plan_skip0 (by rfl) (by rfl) (by rfl) ?_; simp only [List.setIfInBounds_toArray, List.set_cons_zero, List.set_cons_succ]; try go_bits) | (refine plan_skip1 (by rfl) (by rfl) (by rfl) ?_; simp only [List.setIfInBounds_toArray, List.set_cons_zero, List.set_cons_succ]; try go_bits) | (refine plan_skip2 (by rfl) (by rfl) (by rfl) ?_; simp only [List.setIfInBounds_toArray, List.set_cons_zero, List.set_cons_succ]; try go_bits) | (refine plan_skip4 (by rfl) (by rfl) (by rfl) ?_; simp only [List.setIfInBounds_toArray, List.set_cons_zero, List.set_cons_succ]; try go_bits) | (refine plan_any (by rfl) ?_) | (refine plan_keep (by rfl) ?_) | (refine plan_nil ?_) | (with_reducible refine And.intro (by first | assumption | exact Agree.refl _ _ | exact agree_drew _ _ | exact agree_alloc _ (by intro k hk; subst hk; first | omega | (simp; omega))) ?_) | (unfold Act.put; simp only [List.setIfInBounds_toArray, List.set_cons_zero, List.set_cons_succ]))
    go_ret
    exact ⟨rfl, HB.out.drew⟩
end Go.Proofs.YtlgohkdckdnmhaaDoor
