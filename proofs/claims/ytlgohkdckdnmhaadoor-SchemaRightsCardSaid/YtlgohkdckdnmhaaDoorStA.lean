/- Whether rows fit columns: the document's Fits, the law's, the stream's. -/
import Derived.Test.YtlgohkdckdnmhaaDoorSchH
import Derived.Test.YtlgohkdckdnmhaaDoorRowsG
namespace Go.Proofs.YtlgohkdckdnmhaaDoor
open Go.RowKit Go.Afx

def kindAt (row : List AV) (cols : List ColV) (i : Nat) : Bool := (row[i]?).map AV.kind == (cols[i]?).map ColV.kind
def kindsB (row : List AV) (cols : List ColV) : Bool := (List.range row.length).all (kindAt row cols)
def fitB (cols : List ColV) (row : List AV) : Bool := decide (row.length = cols.length) && rightAll row && kindsB row cols
def fitsB (cols : List ColV) (rows : List (List AV)) : Bool := rows.all (fitB cols) && decide (rows.length ≤ 32)
theorem kindAt_eq (row : List AV) (cols : List ColV) (k : Nat) (h1 : k < row.length) (h2 : k < cols.length) : kindAt row cols k = (row[k].kind == cols[k].kind) := by
  unfold kindAt
  rw [List.getElem?_eq_getElem h1, List.getElem?_eq_getElem h2]
  rw [Bool.eq_iff_iff]; simp
theorem kinds_next (row : List AV) (cols : List ColV) (k : Nat) (h1 : k < row.length) (ha : ((List.range row.length).take k).all (kindAt row cols) = true) (hk : kindAt row cols k = true) : ((List.range row.length).take (k + 1)).all (kindAt row cols) = true :=
  all_next _ _ k (by simpa using h1) ha (by simpa using hk)
theorem kinds_not (row : List AV) (cols : List ColV) (k : Nat) (h1 : k < row.length) (hk : kindAt row cols k = false) : kindsB row cols = false :=
  all_not _ _ k (by simpa using h1) (by simpa using hk)

set_option maxRecDepth 100000 in
set_option maxHeartbeats 1000000 in
theorem reffits_any (w : World) (B B' : Nat → Prop) (s : SchV) (v : Value) (row : List AV) (hc : Sl w B 2 s.colsV s.cols.length (colCells s.cols)) (hr : Sl w B' 3 v row.length (rowCells row)) (hio : ∃ p n c, s.idxV = .slice p n c) :
    Calls Tryd.prog 48 #[s.agg, v] w fun e w' => e = .returned (.bool (fitB s.cols row)) ∧ Below w.heap.size w w' := by
  obtain ⟨nm, cv, cl, iv, il, lim, prt, by_⟩ := s
  simp only at hc hio
  obtain ⟨pi, ni, ci, rfl⟩ := hio
  simp only [SchV.agg]
  obtain ⟨pc, cc, rfl, hcc1, hcc⟩ := hc.form
  obtain ⟨pr, cr, rfl, hcr1, hcr⟩ := hr.form
  have hal : Below w.heap.size w (w.alloc (.cells #[.string nm, .slice pc cl.length cc, .slice pi ni ci, .int .i64 lim, .int .i64 prt, .int .i64 by_] 47)) := (Below.refl _ _).alloc (Nat.le_refl _) _
  have HBK : Hid (Blk (w.alloc (.cells #[.string nm, .slice pc cl.length cc, .slice pi ni ci, .int .i64 lim, .int .i64 prt, .int .i64 by_] 47)) w.heap.size 47 [.string nm, .slice pc cl.length cc, .slice pi ni ci, .int .i64 lim, .int .i64 prt, .int .i64 by_]) := Blk.new w _ _
  have HC := Lib.hid (hc.below hal)
  have HR := Lib.hid (hr.below hal)
  have HALL := Lib.hid (all_row _ _ _ _ (hr.below hal))
  have HAL := Lib.hid hal
  have HE : Hid (fitB cl row = (decide (row.length = cl.length) && rightAll row && kindsB row cl)) := rfl
  generalize fitB cl row = out at *
  clear hc hr hal
  by_cases hlen : row.length = cl.length
  · have hli : (row.length : Int) = (cl.length : Int) := by omega
    have d1 : ((row.length : Int) != (cl.length : Int)) = false := by rw [hli]; simp
    rw [decide_eq_true hlen, Bool.true_and] at HE
    have HLEN := Lib.hid hlen
    clear hlen hli
    generalize rightAll row = ra at *
    cases ra
    · go_enter Tryd.func48, Tryd.ntmps48
      go_wp2_with (go_at_call 18; refine HALL.out.mono ?_; clear HALL; rintro e w2 ⟨rfl, hb2⟩)
      go_ret
      exact ⟨by rw [HE.out]; rfl, HAL.out.trans (hb2.mono HAL.out.size)⟩
    · go_enter Tryd.func48, Tryd.ntmps48
      go_wp2_with (go_at_call 18; refine HALL.out.mono ?_; clear HALL; rintro e w2 ⟨rfl, hb2⟩; have HB2 := Lib.hid hb2; clear hb2)
      clear d1
      generalize hw1 : w.alloc (.cells #[.string nm, .slice pc cl.length cc, .slice pi ni ci, .int .i64 lim, .int .i64 prt, .int .i64 by_] 47) = w1 at *
      clear hw1
      go_loopw [5] (fun i wr => ∃ k : Nat, i = .int .i64 k ∧ k ≤ row.length ∧ ((List.range row.length).take k).all (kindAt row cl) = true ∧ Below w1.heap.size w1 wr) (fun i _ => row.length - (intOf i).toNat)
      case atStart => exact ⟨0, rfl, Nat.zero_le _, rfl, HB2.out⟩
      case round =>
        obtain ⟨k, rfl, hk, ha, hb⟩ := hrel
        have HB := Lib.hid hb
        have HA := Lib.hid ha
        obtain ⟨x0, x1, x2, x3, x4, x5⟩ := sch_cells (HBK.out.below hb)
        clear ha x0 x2 x3 x4 x5
        by_cases hka : k < row.length
        · have hkc : k < cl.length := by rw [← HLEN.out]; exact hka
          obtain ⟨g1, off1, cap2, hv, hg1, e0, e1, e2⟩ := sl_av (HR.out.below hb) hka
          cases hv
          obtain ⟨g2, off2, cap3, hv2, hg2, f0, f1⟩ := sl_col (HC.out.below hb) hkc
          cases hv2
          have HX := Lib.hid (kinds_next row cl k hka HA.out)
          have HY := Lib.hid (kinds_not row cl k hka)
          have hka2 := kindAt_eq row cl k hka hkc
          rw [hka2] at HX HY
          clear hb hka2 e1 e2 f0
          generalize row[k] = x at *
          generalize cl[k] = c at *
          by_cases hxc : x.kind = c.kind
          · have HF := Lib.hid (HX.out (by rw [hxc]; simp))
            have d2 : (x.kind != c.kind) = false := by rw [hxc]; simp
            clear HX HY
            rw [hxc] at e0
            clear hxc d2
            go_wp2
            refine wp_region_lit_plan [] [(0, 0), (1, 0), (2, 0), (3, 0), (5, 0), (7, 0), (4, 1), (6, 1), (8, 0), (9, 0), (10, 1), (11, 0)] (fun _ => False) (by kernel_rfl) (by kernel_rfl) (fun c a d v w h => by cases d <;> exact h) ?_
            go_wp2_with (first
              | (refine plan_pure (v := _) (by rfl) (by rfl) (by rfl) (by intro _; go_simp; with_reducible rfl) ?_; simp only [List.setIfInBounds_toArray, List.set_cons_zero, List.set_cons_succ]; try go_bits) | (refine plan_read (v := _) (by rfl) (by rfl) (by rfl) (by go_simp; with_reducible rfl) ?_; simp only [List.setIfInBounds_toArray, List.set_cons_zero, List.set_cons_succ]; try go_bits) | (refine plan_readB (v := _) (by rfl) (by rfl) (by rfl) (by intro _ hag; unfold Agree at hag; go_simp; with_reducible rfl) ?_; simp only [List.setIfInBounds_toArray, List.set_cons_zero, List.set_cons_succ]; try go_bits) | (refine plan_skip0 (by rfl) (by rfl) (by rfl) ?_; simp only [List.setIfInBounds_toArray, List.set_cons_zero, List.set_cons_succ]; try go_bits) | (refine plan_skip1 (by rfl) (by rfl) (by rfl) ?_; simp only [List.setIfInBounds_toArray, List.set_cons_zero, List.set_cons_succ]; try go_bits) | (refine plan_skip2 (by rfl) (by rfl) (by rfl) ?_; simp only [List.setIfInBounds_toArray, List.set_cons_zero, List.set_cons_succ]; try go_bits) | (refine plan_skip4 (by rfl) (by rfl) (by rfl) ?_; simp only [List.setIfInBounds_toArray, List.set_cons_zero, List.set_cons_succ]; try go_bits) | (refine plan_any (by rfl) ?_) | (refine plan_keep (by rfl) ?_) | (refine plan_nil ?_) | (with_reducible refine And.intro (by first | assumption | exact Agree.refl _ _ | exact agree_drew _ _ | exact agree_alloc _ (by intro k hk; subst hk; first | omega | (simp; omega))) ?_) | (unfold Act.put; simp only [List.setIfInBounds_toArray, List.set_cons_zero, List.set_cons_succ]))
            exact ⟨⟨k + 1, by go_num, by omega, HF.out, HB.out.drew⟩, by (simp [intOf]) <;> omega⟩
          · have HF := Lib.hid (HY.out (beq_eq_false_iff_ne.2 hxc))
            have d2 : (x.kind != c.kind) = true := bne_iff_ne.2 hxc
            have d3 : (x.kind == c.kind) = false := beq_eq_false_iff_ne.2 hxc
            clear HX HY hxc
            go_wp2
            refine wp_region_lit_plan [] [(0, 0), (1, 0), (2, 0), (3, 0), (5, 0), (7, 0), (4, 1), (6, 1), (8, 0), (9, 0), (10, 1), (11, 0)] (fun _ => False) (by kernel_rfl) (by kernel_rfl) (fun c a d v w h => by cases d <;> exact h) ?_
            go_wp2_with (first
              | (refine plan_pure (v := _) (by rfl) (by rfl) (by rfl) (by intro _; go_simp; with_reducible rfl) ?_; simp only [List.setIfInBounds_toArray, List.set_cons_zero, List.set_cons_succ]; try go_bits) | (refine plan_read (v := _) (by rfl) (by rfl) (by rfl) (by go_simp; with_reducible rfl) ?_; simp only [List.setIfInBounds_toArray, List.set_cons_zero, List.set_cons_succ]; try go_bits) | (refine plan_readB (v := _) (by rfl) (by rfl) (by rfl) (by intro _ hag; unfold Agree at hag; go_simp; with_reducible rfl) ?_; simp only [List.setIfInBounds_toArray, List.set_cons_zero, List.set_cons_succ]; try go_bits) | (refine plan_skip0 (by rfl) (by rfl) (by rfl) ?_; simp only [List.setIfInBounds_toArray, List.set_cons_zero, List.set_cons_succ]; try go_bits) | (refine plan_skip1 (by rfl) (by rfl) (by rfl) ?_; simp only [List.setIfInBounds_toArray, List.set_cons_zero, List.set_cons_succ]; try go_bits) | (refine plan_skip2 (by rfl) (by rfl) (by rfl) ?_; simp only [List.setIfInBounds_toArray, List.set_cons_zero, List.set_cons_succ]; try go_bits) | (refine plan_skip4 (by rfl) (by rfl) (by rfl) ?_; simp only [List.setIfInBounds_toArray, List.set_cons_zero, List.set_cons_succ]; try go_bits) | (refine plan_any (by rfl) ?_) | (refine plan_keep (by rfl) ?_) | (refine plan_nil ?_) | (with_reducible refine And.intro (by first | assumption | exact Agree.refl _ _ | exact agree_drew _ _ | exact agree_alloc _ (by intro k hk; subst hk; first | omega | (simp; omega))) ?_) | (unfold Act.put; simp only [List.setIfInBounds_toArray, List.set_cons_zero, List.set_cons_succ]))
            go_ret
            exact ⟨by rw [HE.out, HF.out]; rfl, HAL.out.trans (HB.out.drew.mono HAL.out.size)⟩
        · obtain rfl : k = row.length := by omega
          have e5 : out = true := by
            have := HA.out
            rw [HE.out]
            unfold kindsB
            have hl : (List.range row.length).take row.length = List.range row.length := by rw [List.take_of_length_le (by simp)]
            rw [hl] at this
            rw [this]; rfl
          have E5 := Lib.hid e5
          clear hb e5
          go_wp2
          go_ret
          exact ⟨by rw [E5.out]; rfl, HAL.out.trans (HB.out.mono HAL.out.size)⟩
  · have d1 : ((row.length : Int) != (cl.length : Int)) = true := bne_iff_ne.2 (by omega)
    have d2 : ((row.length : Int) == (cl.length : Int)) = false := beq_eq_false_iff_ne.2 (by omega)
    rw [decide_eq_false hlen] at HE
    go_enter Tryd.func48, Tryd.ntmps48
    go_wp2
    go_ret
    exact ⟨by rw [HE.out]; rfl, HAL.out⟩
end Go.Proofs.YtlgohkdckdnmhaaDoor
