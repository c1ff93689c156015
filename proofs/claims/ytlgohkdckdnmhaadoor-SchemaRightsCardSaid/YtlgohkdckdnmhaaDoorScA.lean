/- Schemas: whether a row fits; what is wrong with it. -/
import Derived.Test.YtlgohkdckdnmhaaDoorStA
import Derived.Test.YtlgohkdckdnmhaaDoorPkB
namespace Go.Proofs.YtlgohkdckdnmhaaDoor
open Go.RowKit Go.Afx

set_option maxRecDepth 100000 in
set_option maxHeartbeats 1000000 in
theorem scfits_any (w : World) (B B' : Nat → Prop) (cv v : Value) (cl : List ColV) (rl : List AV) (hc : Sl w B 2 cv cl.length (colCells cl)) (hr : Sl w B' 3 v rl.length (rowCells rl)) (hrl : rl.length ≤ 1000000) :
    Calls Tryd.prog 68 #[cv, v] w fun e w' => e = .returned (.bool (fitB cl rl)) ∧ Below w.heap.size w w' := by
  obtain ⟨pc, cc, rfl, hcc1, hcc⟩ := hc.form
  obtain ⟨pv, cv2, rfl, hpv1, hpv2⟩ := hr.form
  have HC := Lib.hid hc
  have HROW := Lib.hid hr
  have HRT := Lib.hid (right_any w _ _ rl hr hrl)
  have HFB : Hid (fitB cl rl = (decide (rl.length = cl.length) && rightAll rl && kindsB rl cl)) := rfl
  generalize fitB cl rl = fb at *
  clear hc hr hrl
  by_cases hlen : rl.length = cl.length
  · have hli : (rl.length : Int) = (cl.length : Int) := by omega
    have d1 : ((rl.length : Int) != (cl.length : Int)) = false := by rw [hli]; simp
    rw [decide_eq_true hlen, Bool.true_and] at HFB
    have HLEN := Lib.hid hlen
    clear hlen hli
    generalize rightAll rl = ra at *
    cases ra
    · have HZ : Hid (fb = false) := HFB.out
      clear HFB
      go_enter Tryd.func68, Tryd.ntmps68
      go_wp2_with (go_at_call 17; refine HRT.out.mono ?_; clear HRT; rintro e w2 ⟨rfl, hb2⟩)
      go_ret
      exact ⟨by rw [HZ.out]; rfl, hb2⟩
    · rw [Bool.true_and] at HFB
      go_enter Tryd.func68, Tryd.ntmps68
      go_wp2_with (go_at_call 17; refine HRT.out.mono ?_; clear HRT; rintro e w2 ⟨rfl, hb2⟩; have HB2 := Lib.hid hb2; clear hb2)
      clear d1
      go_loopw [19] (fun i wr => ∃ j : Nat, i = .int .i64 j ∧ j ≤ rl.length ∧ ((List.range rl.length).take j).all (kindAt rl cl) = true ∧ Below w.heap.size w wr) (fun i _ => rl.length - (intOf i).toNat)
      case atStart => exact ⟨0, rfl, Nat.zero_le _, rfl, HB2.out⟩
      case round =>
        obtain ⟨j, rfl, hj, ha, hb⟩ := hrel
        have HBJ := Lib.hid hb
        have HAJ := Lib.hid ha
        clear ha
        by_cases hja : j < rl.length
        · have hjc : j < cl.length := by rw [← HLEN.out]; exact hja
          obtain ⟨g1, off1, cap2, hv, hg1, e0, e1, e2⟩ := sl_av (HROW.out.below hb) hja
          cases hv
          obtain ⟨g2, off2, cap3, hv2, hg2, f0, f1⟩ := sl_col (HC.out.below hb) hjc
          cases hv2
          have HX2 := Lib.hid (kinds_next rl cl j hja HAJ.out)
          have HY2 := Lib.hid (kinds_not rl cl j hja)
          have hka2 := kindAt_eq rl cl j hja hjc
          rw [hka2] at HX2 HY2
          clear hb hka2 f0
          generalize rl[j] = x at *
          generalize cl[j] = c at *
          obtain ⟨xk, xn, xs⟩ := x
          obtain ⟨cn, ck⟩ := c
          simp only at e0 e1 e2 f1 HX2 HY2
          have hal2 : Below wr.heap.size wr (wr.alloc (.cells #[.int .i64 xk, .int .i64 xn, .string xs] 27)) := (Below.refl _ _).alloc (Nat.le_refl _) _
          have HBJ2 := Lib.hid (HBJ.out.trans (hal2.mono HBJ.out.size))
          clear hal2
          by_cases hxc : xk = ck
          · have HF := Lib.hid (HX2.out (by rw [hxc]; simp))
            subst hxc
            clear HX2 HY2
            go_wp2
            refine wp_region_lit_plan [] [(0, 0), (2, 0), (3, 0), (4, 0), (5, 0), (1, 1), (6, 1), (7, 0)] (fun _ => False) (by kernel_rfl) (by kernel_rfl) (fun c a d v w h => by cases d <;> exact h) ?_
            go_wp2_with (first
              | (refine plan_pure (v := _) (by rfl) (by rfl) (by rfl) (by intro _; go_simp; with_reducible rfl) ?_; simp only [List.setIfInBounds_toArray, List.set_cons_zero, List.set_cons_succ]; try go_bits) | (refine plan_read (v := _) (by rfl) (by rfl) (by rfl) (by go_simp; with_reducible rfl) ?_; simp only [List.setIfInBounds_toArray, List.set_cons_zero, List.set_cons_succ]; try go_bits) | (refine plan_readB (v := _) (by rfl) (by rfl) (by rfl) (by intro _ hag; unfold Agree at hag; go_simp; with_reducible rfl) ?_; simp only [List.setIfInBounds_toArray, List.set_cons_zero, List.set_cons_succ]; try go_bits) | (refine plan_skip0 (by rfl) (by rfl) (by rfl) ?_; simp only [List.setIfInBounds_toArray, List.set_cons_zero, List.set_cons_succ]; try go_bits) | (refine plan_skip1 (by rfl) (by rfl) (by rfl) ?_; simp only [List.setIfInBounds_toArray, List.set_cons_zero, List.set_cons_succ]; try go_bits) | (refine plan_skip2 (by rfl) (by rfl) (by rfl) ?_; simp only [List.setIfInBounds_toArray, List.set_cons_zero, List.set_cons_succ]; try go_bits) | (refine plan_skip4 (by rfl) (by rfl) (by rfl) ?_; simp only [List.setIfInBounds_toArray, List.set_cons_zero, List.set_cons_succ]; try go_bits) | (refine plan_any (by rfl) ?_) | (refine plan_keep (by rfl) ?_) | (refine plan_nil ?_) | (with_reducible refine And.intro (by first | assumption | exact Agree.refl _ _ | exact agree_drew _ _ | exact agree_alloc _ (by intro k hk; subst hk; first | omega | (simp; omega))) ?_) | (unfold Act.put; simp only [List.setIfInBounds_toArray, List.set_cons_zero, List.set_cons_succ]))
            exact ⟨⟨j + 1, by go_num, by omega, HF.out, HBJ2.out.drew⟩, by (simp [intOf]) <;> omega⟩
          · have HZ : Hid (fb = false) := by
              show _ = _
              rw [HFB.out]
              exact HY2.out (beq_eq_false_iff_ne.2 hxc)
            have d2 : (xk != ck) = true := bne_iff_ne.2 hxc
            have d3 : (xk == ck) = false := beq_eq_false_iff_ne.2 hxc
            clear HX2 HY2 hxc
            go_wp2
            refine wp_region_lit_plan [] [(0, 0), (2, 0), (3, 0), (4, 0), (5, 0), (1, 1), (6, 1), (7, 0)] (fun _ => False) (by kernel_rfl) (by kernel_rfl) (fun c a d v w h => by cases d <;> exact h) ?_
            go_wp2_with (first
              | (refine plan_pure (v := _) (by rfl) (by rfl) (by rfl) (by intro _; go_simp; with_reducible rfl) ?_; simp only [List.setIfInBounds_toArray, List.set_cons_zero, List.set_cons_succ]; try go_bits) | (refine plan_read (v := _) (by rfl) (by rfl) (by rfl) (by go_simp; with_reducible rfl) ?_; simp only [List.setIfInBounds_toArray, List.set_cons_zero, List.set_cons_succ]; try go_bits) | (refine plan_readB (v := _) (by rfl) (by rfl) (by rfl) (by intro _ hag; unfold Agree at hag; go_simp; with_reducible rfl) ?_; simp only [List.setIfInBounds_toArray, List.set_cons_zero, List.set_cons_succ]; try go_bits) | (refine plan_skip0 (by rfl) (by rfl) (by rfl) ?_; simp only [List.setIfInBounds_toArray, List.set_cons_zero, List.set_cons_succ]; try go_bits) | (refine plan_skip1 (by rfl) (by rfl) (by rfl) ?_; simp only [List.setIfInBounds_toArray, List.set_cons_zero, List.set_cons_succ]; try go_bits) | (refine plan_skip2 (by rfl) (by rfl) (by rfl) ?_; simp only [List.setIfInBounds_toArray, List.set_cons_zero, List.set_cons_succ]; try go_bits) | (refine plan_skip4 (by rfl) (by rfl) (by rfl) ?_; simp only [List.setIfInBounds_toArray, List.set_cons_zero, List.set_cons_succ]; try go_bits) | (refine plan_any (by rfl) ?_) | (refine plan_keep (by rfl) ?_) | (refine plan_nil ?_) | (with_reducible refine And.intro (by first | assumption | exact Agree.refl _ _ | exact agree_drew _ _ | exact agree_alloc _ (by intro k hk; subst hk; first | omega | (simp; omega))) ?_) | (unfold Act.put; simp only [List.setIfInBounds_toArray, List.set_cons_zero, List.set_cons_succ]))
            go_ret
            exact ⟨by rw [HZ.out]; rfl, HBJ2.out.drew⟩
        · obtain rfl : j = rl.length := by omega
          have e5 : fb = true := by
            have := HAJ.out
            rw [HFB.out]
            unfold kindsB
            have hl : (List.range rl.length).take rl.length = List.range rl.length := by rw [List.take_of_length_le (by simp)]
            rw [hl] at this
            exact this
          have HZ := Lib.hid e5
          clear hb e5
          go_wp2
          go_ret
          exact ⟨by rw [HZ.out]; rfl, HBJ.out⟩
  · have d1 : ((rl.length : Int) != (cl.length : Int)) = true := bne_iff_ne.2 (by omega)
    have d2 : ((rl.length : Int) == (cl.length : Int)) = false := beq_eq_false_iff_ne.2 (by omega)
    have HZ : Hid (fb = false) := by
      show _ = _
      rw [HFB.out, decide_eq_false hlen]; rfl
    clear HFB
    go_enter Tryd.func68, Tryd.ntmps68
    go_wp2
    go_ret
    exact ⟨by rw [HZ.out]; rfl, Below.refl _ _⟩

/-- The number of what is wrong with a row. -/
def chkS (s : SchV) (i : Int) (row : List AV) : Int := if rightS s = false ∨ (decide (0 ≤ i) && decide (i ≤ (s.idx.length : Int) - 1)) = false then 1 else if fitB s.cols row = false then 13 else 0

set_option maxRecDepth 100000 in
set_option maxHeartbeats 2000000 in
theorem checked_any (w : World) (B B' : Nat → Prop) (s : SchV) (i : Int) (v : Value) (row : List AV) (h : SchAt w B s) (hr : Sl w B' 3 v row.length (rowCells row)) (hrl : row.length ≤ 1000000) :
    Calls Tryd.prog 69 #[s.agg, .int .i64 i, v] w fun e w' => e = .returned (.int .i64 (chkS s i row)) ∧ Below w.heap.size w w' := by
  obtain ⟨nm, cv, cl, iv, il, lim, prt, by_⟩ := s
  have HS := Lib.hid h
  obtain ⟨h1, h2, h3, h4⟩ := h
  simp only at h1 h2 h3 h4
  obtain ⟨pc, cc, rfl, _, hcc⟩ := h1.form
  obtain ⟨pi, ci, rfl, hci1, hci⟩ := h2.1.form
  obtain ⟨pr, cr, rfl, hpr1, hpr2⟩ := hr.form
  have hal : Below w.heap.size w (w.alloc (.cells #[.string nm, .slice pc cl.length cc, .slice pi il.length ci, .int .i64 lim, .int .i64 prt, .int .i64 by_] 47)) := (Below.refl _ _).alloc (Nat.le_refl _) _
  have HBK : Hid (Blk (w.alloc (.cells #[.string nm, .slice pc cl.length cc, .slice pi il.length ci, .int .i64 lim, .int .i64 prt, .int .i64 by_] 47)) w.heap.size 47 [.string nm, .slice pc cl.length cc, .slice pi il.length ci, .int .i64 lim, .int .i64 prt, .int .i64 by_]) := Blk.new w _ _
  have HRT := Lib.hid (fun W hb => schright_any W B ⟨nm, .slice pc cl.length cc, cl, .slice pi il.length ci, il, lim, prt, by_⟩ (SchAt.below (w' := W) HS.out hb))
  have HROW := Lib.hid hr
  have HIX := Lib.hid h2
  have HCL := Lib.hid h1
  have HALW := Lib.hid hal
  obtain ⟨x0, x1, x2, x3, x4, x5⟩ := sch_cells HBK.out
  simp only [SchV.agg, chkS] at HRT ⊢
  have HFT := Lib.hid (fun W hb => scfits_any W B B' (.slice pc cl.length cc) (.slice pr row.length cr) cl row (Sl.below (w' := W) HCL.out hb) (Sl.below (w' := W) HROW.out hb) hrl)
  have HWT := Lib.hid (fun W => within_any W i 0 ((il.length : Int) - 1))
  clear h1 h2 h3 h4 hal hr hcc hpr1 hpr2 HS HIX
  generalize rightS _ = r1 at *
  generalize (decide (0 ≤ i) && decide (i ≤ (il.length : Int) - 1)) = r2 at *
  generalize fitB cl row = r3 at *
  clear x0
  cases r1
  · simp only [true_or, if_true]
    go_enter Tryd.func69, Tryd.ntmps69
    go_wp2_with (first
      | (go_at_call 49; refine (HRT.out _ HALW.out).mono ?_; clear HRT; rintro e w2 ⟨rfl, hb2⟩; have HB2 := Lib.hid (HALW.out.trans (hb2.mono HALW.out.size)); clear hb2))
    go_ret
    exact ⟨rfl, HB2.out⟩
  · cases r2
    · simp only [or_true, if_true]
      go_enter Tryd.func69, Tryd.ntmps69
      go_wp2_with (first
        | (go_at_call 49; refine (HRT.out _ HALW.out).mono ?_; clear HRT; rintro e w2 ⟨rfl, hb2⟩; have HB2 := Lib.hid (HALW.out.trans (hb2.mono HALW.out.size)); obtain ⟨y0, y1, y2, y3, y4, y5⟩ := sch_cells (HBK.out.below hb2); clear hb2 x1 x2 x3 x4 x5 y0 y1 y3 y4 y5)
        | (go_at_call 67; refine (HWT.out _).mono ?_; clear HWT; rintro e w3 ⟨rfl, rfl⟩))
      go_ret
      exact ⟨rfl, HB2.out⟩
    · simp only [Bool.true_eq_false, or_self, if_false]
      cases r3
      all_goals
        simp only [Bool.true_eq_false, if_false, if_true]
        go_enter Tryd.func69, Tryd.ntmps69
        go_wp2_with (first
          | (go_at_call 49; refine (HRT.out _ HALW.out).mono ?_; clear HRT; rintro e w2 ⟨rfl, hb2⟩; have HB2 := Lib.hid (HALW.out.trans (hb2.mono HALW.out.size)); obtain ⟨y0, y1, y2, y3, y4, y5⟩ := sch_cells (HBK.out.below hb2); clear hb2 x1 x2 x3 x4 x5 y0 y3 y4 y5)
          | (go_at_call 67; refine (HWT.out _).mono ?_; clear HWT; rintro e w3 ⟨rfl, rfl⟩)
          | (go_at_call 68; refine (HFT.out _ HB2.out).mono ?_; clear HFT; rintro e w3 ⟨rfl, hb3⟩; have HB3 := Lib.hid (HB2.out.trans (hb3.mono HB2.out.size)); clear hb3))
        go_ret
        exact ⟨rfl, HB3.out⟩
end Go.Proofs.YtlgohkdckdnmhaaDoor
