/- The document's Same: of one and the same row, of one and the same rows. -/
import Derived.Test.YtdhdphmehjkbnaaRows2
namespace Go.Proofs.Ytdhdphmehjkbnaa
open Go.RowKit Go.Afx

set_option maxRecDepth 100000 in
theorem same_row (w : World) (B B' : Nat → Prop) (v v' : Value) (l : List AV) (h : Sl w B 3 v l.length (rowCells l)) (h' : Sl w B' 3 v' l.length (rowCells l)) :
    Calls Try.prog 84 #[v, v'] w fun e w' => e = .returned (.bool true) ∧ Below w.heap.size w w' := by
  obtain ⟨p, cap, rfl, hc1, hc2⟩ := h.form
  obtain ⟨p', cap', rfl, hc1', hc2'⟩ := h'.form
  have H := Lib.hid h
  have H' := Lib.hid h'
  clear h h'
  go_enter Try.func84, Try.ntmps84
  go_wp2
  go_loopw [5] (fun i wr => ∃ k : Nat, i = .int .i64 k ∧ k ≤ l.length ∧ Below w.heap.size w wr) (fun i _ => l.length - (intOf i).toNat)
  case atStart => exact ⟨0, rfl, Nat.zero_le _, Below.refl _ _⟩
  case round =>
    obtain ⟨k, rfl, hk, hb⟩ := hrel
    have HB := Lib.hid hb
    by_cases hka : k < l.length
    · obtain ⟨g, off, cap1, hv, hg, e0, e1, e2⟩ := sl_av (H.out.below hb) hka
      obtain ⟨g', off', cap1', hv', hg', e0', e1', e2'⟩ := sl_av (H'.out.below hb) hka
      cases hv
      cases hv'
      clear hb
      generalize l[k] = x at *
      go_wp2
      refine wp_region_lit_plan [] [(0, 0), (1, 0), (2, 0), (4, 0), (5, 0), (6, 0), (3, 1), (7, 1), (8, 0)] (fun _ => False) (by kernel_rfl) (by kernel_rfl) (fun c a d v w h => by cases d <;> exact h) ?_
      go_wp2_with (first
        | (refine plan_pure (v := _) (by rfl) (by rfl) (by rfl) (by intro _; go_simp; with_reducible rfl) ?_; simp only [List.setIfInBounds_toArray, List.set_cons_zero, List.set_cons_succ]; try go_bits) | (refine plan_read (v := _) (by rfl) (by rfl) (by rfl) (by go_simp; with_reducible rfl) ?_; simp only [List.setIfInBounds_toArray, List.set_cons_zero, List.set_cons_succ]; try go_bits) | (refine plan_readB (v := _) (by rfl) (by rfl) (by rfl) (by intro _ hag; unfold Agree at hag; go_simp; with_reducible rfl) ?_; simp only [List.setIfInBounds_toArray, List.set_cons_zero, List.set_cons_succ]; try go_bits) | (refine plan_skip0 (by rfl) (by rfl) (by rfl) ?_; simp only [List.setIfInBounds_toArray, List.set_cons_zero, List.set_cons_succ]; try go_bits) | (refine plan_skip1 (by rfl) (by rfl) (by rfl) ?_; simp only [List.setIfInBounds_toArray, List.set_cons_zero, List.set_cons_succ]; try go_bits) | (refine plan_skip2 (by rfl) (by rfl) (by rfl) ?_; simp only [List.setIfInBounds_toArray, List.set_cons_zero, List.set_cons_succ]; try go_bits) | (refine plan_any (by rfl) ?_) | (refine plan_keep (by rfl) ?_) | (refine plan_nil ?_) | (with_reducible refine And.intro (by first | assumption | exact Agree.refl _ _ | exact agree_drew _ _ | exact agree_alloc _ (by intro k hk; subst hk; first | omega | (simp; omega))) ?_) | (unfold Act.put; simp only [List.setIfInBounds_toArray, List.set_cons_zero, List.set_cons_succ]))
      exact ⟨⟨k + 1, by go_num, by omega, HB.out.drew⟩, by (simp [intOf]) <;> omega⟩
    · obtain rfl : k = l.length := by omega
      clear hb
      go_wp2
      go_ret
      exact ⟨rfl, HB.out⟩

set_option maxRecDepth 100000 in
theorem same_rows (w : World) (B B' : Nat → Prop) (v v' : Value) (rows rows' : List RowV) (h : RowsAt w B v rows) (h' : RowsAt w B' v' rows') (he : rows.map RowV.l = rows'.map RowV.l) :
    Calls Try.prog 49 #[v, v'] w fun e w' => e = .returned (.bool true) ∧ Below w.heap.size w w' := by
  obtain ⟨p, cap, rfl, hc1, hc2⟩ := h.1.form
  obtain ⟨p', cap', rfl, hc1', hc2'⟩ := h'.1.form
  have hl : rows'.length = rows.length := by have := congrArg List.length he; simpa using this.symm
  have hel : ∀ k (h1 : k < rows.length) (h2 : k < rows'.length), rows'[k].l = rows[k].l := fun k h1 h2 => by
    have := congrArg (fun x : List (List AV) => x[k]?) he
    simp [h1, h2] at this
    exact this.symm
  have H := Lib.hid h
  have H' := Lib.hid h'
  have HEL := Lib.hid hel
  have HL := Lib.hid hl
  clear h h' he hel
  rw [hl]
  clear hl
  go_enter Try.func49, Try.ntmps49
  go_wp2
  go_loopw [5] (fun i wr => ∃ k : Nat, i = .int .i64 k ∧ k ≤ rows.length ∧ Below w.heap.size w wr) (fun i _ => rows.length - (intOf i).toNat)
  case atStart => exact ⟨0, rfl, Nat.zero_le _, Below.refl _ _⟩
  case round =>
    obtain ⟨k, rfl, hk, hb⟩ := hrel
    have HB := Lib.hid hb
    by_cases hka : k < rows.length
    · have hka' : k < rows'.length := by rw [HL.out]; exact hka
      obtain ⟨g, off, cap1, hv, hck⟩ := (H.out.below hb).at hka
      obtain ⟨g', off', cap1', hv', hck'⟩ := (H'.out.below hb).at hka'
      have hr := (H.out.below hb).2 rows[k] (List.getElem_mem hka)
      have hr' := (H'.out.below hb).2 rows'[k] (List.getElem_mem hka')
      have e1 := HEL.out k hka hka'
      cases hv
      rw [HL.out] at hv'
      cases hv'
      generalize rows[k] = x at *
      generalize rows'[k] = x' at *
      obtain ⟨xv, xl⟩ := x
      obtain ⟨xv', xl'⟩ := x'
      have e2 : xl' = xl := e1
      subst e2
      simp only at hr hr' hck hck'
      have HS := Lib.hid (same_row wr.drew _ _ xv xv' xl' hr.drew hr'.drew)
      clear hr hr' e1 hb
      go_wp2
      refine wp_region_lit_plan [] [(0, 0), (1, 0), (2, 0), (4, 0), (5, 0), (6, 0), (3, 1), (7, 1), (8, 4), (9, 0)] (fun _ => False) (by kernel_rfl) (by kernel_rfl) (fun c a d v w h => by cases d <;> exact h) ?_
      go_wp2_with (first
        | (refine plan_pure (v := _) (by rfl) (by rfl) (by rfl) (by intro _; go_simp; with_reducible rfl) ?_; simp only [List.setIfInBounds_toArray, List.set_cons_zero, List.set_cons_succ]; try go_bits) | (refine plan_read (v := _) (by rfl) (by rfl) (by rfl) (by go_simp; with_reducible rfl) ?_; simp only [List.setIfInBounds_toArray, List.set_cons_zero, List.set_cons_succ]; try go_bits) | (refine plan_readB (v := _) (by rfl) (by rfl) (by rfl) (by intro _ hag; unfold Agree at hag; go_simp; with_reducible rfl) ?_; simp only [List.setIfInBounds_toArray, List.set_cons_zero, List.set_cons_succ]; try go_bits) | (refine plan_skip0 (by rfl) (by rfl) (by rfl) ?_; simp only [List.setIfInBounds_toArray, List.set_cons_zero, List.set_cons_succ]; try go_bits) | (refine plan_skip1 (by rfl) (by rfl) (by rfl) ?_; simp only [List.setIfInBounds_toArray, List.set_cons_zero, List.set_cons_succ]; try go_bits) | (refine plan_skip2 (by rfl) (by rfl) (by rfl) ?_; simp only [List.setIfInBounds_toArray, List.set_cons_zero, List.set_cons_succ]; try go_bits) | (refine plan_any (by rfl) ?_) | (refine plan_keep (by rfl) ?_) | (refine plan_nil ?_) | (with_reducible refine And.intro (by first | assumption | exact Agree.refl _ _ | exact agree_drew _ _ | exact agree_alloc _ (by intro k hk; subst hk; first | omega | (simp; omega))) ?_) | (unfold Act.put; simp only [List.setIfInBounds_toArray, List.set_cons_zero, List.set_cons_succ])
        | (go_at_call 84; refine HS.out.mono ?_; clear HS; rintro e w2 ⟨rfl, hb2⟩))
      have hbd : Below w.heap.size w wr.drew := HB.out.drew
      exact ⟨⟨k + 1, by go_num, by omega, hbd.trans (hb2.mono hbd.size)⟩, by (simp [intOf]) <;> omega⟩
    · obtain rfl : k = rows.length := by omega
      clear hb
      go_wp2
      go_ret
      exact ⟨rfl, HB.out⟩
end Go.Proofs.Ytdhdphmehjkbnaa
