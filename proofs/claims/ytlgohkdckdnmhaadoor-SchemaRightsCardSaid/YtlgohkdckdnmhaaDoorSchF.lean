/- The document's schemas: same, Right. -/
import Derived.Test.YtlgohkdckdnmhaaDoorSchP
namespace Go.Proofs.YtlgohkdckdnmhaaDoor
open Go.RowKit Go.Afx

set_option maxRecDepth 100000 in
theorem refsame (w : World) (B : Nat → Prop) (v v' : Value) (l l' : List Int) (h : Sl w B 1 v l.length (ints l)) (h' : Sl w B 1 v' l'.length (ints l')) :
    Calls Tryd.prog 83 #[v, v'] w fun e w' => e = .returned (.bool (l == l')) ∧ Below w.heap.size w w' := by
  obtain ⟨p, cap, rfl, hc1, hc2⟩ := h.form
  obtain ⟨p', cap', rfl, hc1', hc2'⟩ := h'.form
  have H := Lib.hid h
  have H' := Lib.hid h'
  clear h h'
  by_cases hlen : l.length = l'.length
  · have HLEN := Lib.hid hlen
    rw [← hlen] at H' hc1' ⊢
    clear hlen
    go_enter Tryd.func83, Tryd.ntmps83
    go_wp2
    go_loopw [5] (fun i wr => ∃ k : Nat, i = .int .i64 k ∧ k ≤ l.length ∧ l.take k = l'.take k ∧ Below w.heap.size w wr) (fun i _ => l.length - (intOf i).toNat)
    case atStart => exact ⟨0, rfl, Nat.zero_le _, rfl, Below.refl _ _⟩
    case round =>
      obtain ⟨k, rfl, hk, ht, hb⟩ := hrel
      have HB := Lib.hid hb
      have HT := Lib.hid ht
      clear ht
      by_cases hka : k < l.length
      · have hka' : k < l'.length := by rw [← HLEN.out]; exact hka
        have h1' := H'.out
        rw [HLEN.out] at h1'
        obtain ⟨g, off, cap1, hv, hg, e0⟩ := sl_int (H.out.below hb) hka
        obtain ⟨g', off', cap1', hv', hg', e0'⟩ := sl_int (h1'.below hb) hka'
        rw [← HLEN.out] at hv'
        cases hv
        cases hv'
        have HX : Hid (l[k] = l'[k] → l.take (k + 1) = l'.take (k + 1)) := fun h => take_eq_next l l' k hka hka' HT.out h
        have HY : Hid (l[k] ≠ l'[k] → (l == l') = false) := fun h => by
          rw [beq_eq_false_iff_ne]
          intro he
          subst he
          exact h rfl
        clear hb h1'
        generalize l[k] = x at *
        generalize l'[k] = y at *
        by_cases hxy : x = y
        · have HF := Lib.hid (HX.out hxy)
          subst hxy
          clear HX HY
          go_wp2
          refine wp_region_lit_plan [] [(0, 0), (1, 0), (2, 0), (4, 0), (5, 0), (6, 0), (3, 1), (7, 1), (8, 0)] (fun _ => False) (by kernel_rfl) (by kernel_rfl) (fun c a d v w h => by cases d <;> exact h) ?_
          go_wp2_with (first
            | (refine plan_pure (v := _) (by rfl) (by rfl) (by rfl) (by intro _; go_simp; with_reducible rfl) ?_; simp only [List.setIfInBounds_toArray, List.set_cons_zero, List.set_cons_succ]; try go_bits) | (refine plan_read (v := _) (by rfl) (by rfl) (by rfl) (by go_simp; with_reducible rfl) ?_; simp only [List.setIfInBounds_toArray, List.set_cons_zero, List.set_cons_succ]; try go_bits) | (refine plan_readB (v := _) (by rfl) (by rfl) (by rfl) (by intro _ hag; unfold Agree at hag; go_simp; with_reducible rfl) ?_; simp only [List.setIfInBounds_toArray, List.set_cons_zero, List.set_cons_succ]; try go_bits) | (refine plan_skip0 (by rfl) (by rfl) (by rfl) ?_; simp only [List.setIfInBounds_toArray, List.set_cons_zero, List.set_cons_succ]; try go_bits) | (refine plan_skip1 (by rfl) (by rfl) (by rfl) ?_; simp only [List.setIfInBounds_toArray, List.set_cons_zero, List.set_cons_succ]; try go_bits) | (refine plan_skip2 (by rfl) (by rfl) (by rfl) ?_; simp only [List.setIfInBounds_toArray, List.set_cons_zero, List.set_cons_succ]; try go_bits) | (refine plan_skip4 (by rfl) (by rfl) (by rfl) ?_; simp only [List.setIfInBounds_toArray, List.set_cons_zero, List.set_cons_succ]; try go_bits) | (refine plan_any (by rfl) ?_) | (refine plan_keep (by rfl) ?_) | (refine plan_nil ?_) | (with_reducible refine And.intro (by first | assumption | exact Agree.refl _ _ | exact agree_drew _ _ | exact agree_alloc _ (by intro k hk; subst hk; first | omega | (simp; omega))) ?_) | (unfold Act.put; simp only [List.setIfInBounds_toArray, List.set_cons_zero, List.set_cons_succ]))
          exact ⟨⟨k + 1, by go_num, by omega, HF.out, HB.out.drew⟩, by (simp [intOf]) <;> omega⟩
        · have HF := Lib.hid (HY.out hxy)
          have d1 : (x == y) = false := beq_eq_false_iff_ne.2 hxy
          have d2 : (x != y) = true := bne_iff_ne.2 hxy
          clear HX HY hxy
          go_wp2
          refine wp_region_lit_plan [] [(0, 0), (1, 0), (2, 0), (4, 0), (5, 0), (6, 0), (3, 1), (7, 1), (8, 0)] (fun _ => False) (by kernel_rfl) (by kernel_rfl) (fun c a d v w h => by cases d <;> exact h) ?_
          go_wp2_with (first
            | (refine plan_pure (v := _) (by rfl) (by rfl) (by rfl) (by intro _; go_simp; with_reducible rfl) ?_; simp only [List.setIfInBounds_toArray, List.set_cons_zero, List.set_cons_succ]; try go_bits) | (refine plan_read (v := _) (by rfl) (by rfl) (by rfl) (by go_simp; with_reducible rfl) ?_; simp only [List.setIfInBounds_toArray, List.set_cons_zero, List.set_cons_succ]; try go_bits) | (refine plan_readB (v := _) (by rfl) (by rfl) (by rfl) (by intro _ hag; unfold Agree at hag; go_simp; with_reducible rfl) ?_; simp only [List.setIfInBounds_toArray, List.set_cons_zero, List.set_cons_succ]; try go_bits) | (refine plan_skip0 (by rfl) (by rfl) (by rfl) ?_; simp only [List.setIfInBounds_toArray, List.set_cons_zero, List.set_cons_succ]; try go_bits) | (refine plan_skip1 (by rfl) (by rfl) (by rfl) ?_; simp only [List.setIfInBounds_toArray, List.set_cons_zero, List.set_cons_succ]; try go_bits) | (refine plan_skip2 (by rfl) (by rfl) (by rfl) ?_; simp only [List.setIfInBounds_toArray, List.set_cons_zero, List.set_cons_succ]; try go_bits) | (refine plan_skip4 (by rfl) (by rfl) (by rfl) ?_; simp only [List.setIfInBounds_toArray, List.set_cons_zero, List.set_cons_succ]; try go_bits) | (refine plan_any (by rfl) ?_) | (refine plan_keep (by rfl) ?_) | (refine plan_nil ?_) | (with_reducible refine And.intro (by first | assumption | exact Agree.refl _ _ | exact agree_drew _ _ | exact agree_alloc _ (by intro k hk; subst hk; first | omega | (simp; omega))) ?_) | (unfold Act.put; simp only [List.setIfInBounds_toArray, List.set_cons_zero, List.set_cons_succ]))
          go_ret
          exact ⟨by rw [HF.out]; rfl, HB.out.drew⟩
      · obtain rfl : k = l.length := by omega
        have e1 : (l == l') = true := by
          have := HT.out
          rw [List.take_length, HLEN.out, List.take_length] at this
          rw [this]; exact beq_self_eq_true _
        have E1 := Lib.hid e1
        clear e1 hb
        go_wp2
        go_ret
        exact ⟨by rw [E1.out]; rfl, HB.out⟩
  · have e1 : (l == l') = false := by
      rw [beq_eq_false_iff_ne]
      intro he
      exact hlen (by rw [he])
    rw [e1]
    have d1 : ((l.length : Int) == (l'.length : Int)) = false := beq_eq_false_iff_ne.2 (by omega)
    have d2 : ((l.length : Int) != (l'.length : Int)) = true := bne_iff_ne.2 (by omega)
    clear e1
    go_enter Tryd.func83, Tryd.ntmps83
    go_wp2
    go_ret
    exact ⟨rfl, Below.refl _ _⟩

/-- The first test of the document's Right. -/
def frontS (s : SchV) : Bool :=
  namedB s.name && (decide (1 ≤ s.cols.length) && decide (s.cols.length ≤ 8)) && (decide (1 ≤ s.idx.length) && decide (s.idx.length ≤ 4)) && ((decide (1 ≤ s.limit) && decide (s.limit ≤ 1000)) && ((decide (1 ≤ s.parts) && decide (s.parts ≤ 8)) && (decide (0 ≤ s.by_) && decide (s.by_ ≤ (s.cols.length : Int) - 1)))) && firstU s.idx
theorem rightS_front (s : SchV) : rightS s = (frontS s && (s.cols.all colOk && unlikeB sameCol s.cols) && (s.idx.all (placesB s.cols.length) && unlikeB sameIdx s.idx)) := by
  unfold rightS frontS colsB idxB
  generalize namedB s.name = a1
  generalize s.cols.all colOk = a2
  generalize (decide (1 ≤ s.cols.length) && decide (s.cols.length ≤ 8)) = a3
  generalize unlikeB sameCol s.cols = a4
  generalize s.idx.all (placesB s.cols.length) = a5
  generalize (decide (1 ≤ s.idx.length) && decide (s.idx.length ≤ 4)) = a6
  generalize firstU s.idx = a7
  generalize unlikeB sameIdx s.idx = a8
  generalize ((decide (1 ≤ s.limit) && decide (s.limit ≤ 1000)) && ((decide (1 ≤ s.parts) && decide (s.parts ≤ 8)) && (decide (0 ≤ s.by_) && decide (s.by_ ≤ (s.cols.length : Int) - 1)))) = a9
  cases a1 <;> cases a2 <;> cases a3 <;> cases a4 <;> cases a5 <;> cases a6 <;> cases a7 <;> cases a8 <;> cases a9 <;> rfl
end Go.Proofs.YtlgohkdckdnmhaaDoor
