/- Rows of values compared: the document's Same, slices.Equal. -/
import Derived.Test.YtlgohkdckdnmhaaDoorEqV
import Derived.Test.YtlgohkdckdnmhaaDoorSchP
namespace Go.Proofs.YtlgohkdckdnmhaaDoor
open Go.RowKit Go.Afx

def eqAt (l l' : List AV) (i : Nat) : Bool := match l[i]?, l'[i]? with
  | some x, some y => avEq x y
  | _, _ => false
def rowEq (l l' : List AV) : Bool := decide (l.length = l'.length) && (List.range l.length).all (eqAt l l')
theorem eqAt_eq (l l' : List AV) (k : Nat) (h1 : k < l.length) (h2 : k < l'.length) : eqAt l l' k = avEq l[k] l'[k] := by
  unfold eqAt
  rw [List.getElem?_eq_getElem h1, List.getElem?_eq_getElem h2]
theorem rowEq_self (l : List AV) : rowEq l l = true := by
  unfold rowEq
  rw [Bool.and_eq_true, List.all_eq_true]
  refine ⟨decide_eq_true rfl, fun k hk => ?_⟩
  have hk2 : k < l.length := by simpa using hk
  rw [eqAt_eq l l k hk2 hk2]
  exact (avEq_iff _ _).2 rfl
theorem range_next (f : Nat → Bool) (n k : Nat) (h : k < n) (ha : ((List.range n).take k).all f = true) (hk : f k = true) : ((List.range n).take (k + 1)).all f = true :=
  all_next f (List.range n) k (by simpa using h) ha (by simpa using hk)
theorem range_not (f : Nat → Bool) (n k : Nat) (h : k < n) (hk : f k = false) : (List.range n).all f = false :=
  all_not f (List.range n) k (by simpa using h) (by simpa using hk)
theorem range_all (f : Nat → Bool) (n : Nat) (ha : ((List.range n).take n).all f = true) : (List.range n).all f = true := by
  rwa [List.take_of_length_le (by simp)] at ha

set_option maxRecDepth 100000 in
theorem same_rowG (w : World) (B B' : Nat → Prop) (v v' : Value) (l l' : List AV) (h : Sl w B 3 v l.length (rowCells l)) (h' : Sl w B' 3 v' l'.length (rowCells l')) :
    Calls Tryd.prog 28 #[v, v'] w fun e w' => e = .returned (.bool (rowEq l l')) ∧ Below w.heap.size w w' := by
  have HE : Hid (rowEq l l' = (decide (l.length = l'.length) && (List.range l.length).all (eqAt l l'))) := rfl
  generalize rowEq l l' = out at *
  by_cases hlen : l'.length = l.length
  · rw [hlen] at h'
    rw [decide_eq_true hlen.symm, Bool.true_and] at HE
    obtain ⟨p, cap, rfl, hc1, hc2⟩ := h.form
    obtain ⟨p', cap', rfl, hc1', hc2'⟩ := h'.form
    have H := Lib.hid h
    have H' := Lib.hid h'
    have HL := Lib.hid hlen
    clear h h' hlen
    go_enter Tryd.func28, Tryd.ntmps28
    go_wp2
    go_loopw [5] (fun i wr => ∃ k : Nat, i = .int .i64 k ∧ k ≤ l.length ∧ ((List.range l.length).take k).all (eqAt l l') = true ∧ Below w.heap.size w wr) (fun i _ => l.length - (intOf i).toNat)
    case atStart => exact ⟨0, rfl, Nat.zero_le _, rfl, Below.refl _ _⟩
    case round =>
      obtain ⟨k, rfl, hk, ha, hb⟩ := hrel
      have HB := Lib.hid hb
      have HA := Lib.hid ha
      clear ha
      by_cases hka : k < l.length
      · have hka' : k < l'.length := by rw [HL.out]; exact hka
        have h1' := H'.out
        rw [← HL.out] at h1'
        obtain ⟨g, off, cap1, hv, hg, e0, e1, e2⟩ := sl_av (H.out.below hb) hka
        obtain ⟨g', off', cap1', hv', hg', e0', e1', e2'⟩ := sl_av (h1'.below hb) hka'
        rw [HL.out] at hv'
        cases hv
        cases hv'
        have HX := Lib.hid (range_next (eqAt l l') l.length k hka HA.out)
        have HY := Lib.hid (range_not (eqAt l l') l.length k hka)
        rw [eqAt_eq l l' k hka hka'] at HX HY
        clear hb h1'
        generalize l[k] = x at *
        generalize l'[k] = y at *
        obtain ⟨xk, xn, xs⟩ := x
        obtain ⟨yk, yn, ys⟩ := y
        have hav : avEq ⟨xk, xn, xs⟩ ⟨yk, yn, ys⟩ = (xk == yk && xn == yn && xs.toList == ys.toList) := rfl
        rw [hav] at HX HY
        simp only at e0 e1 e2 e0' e1' e2'
        have kn := fun w : World => neqV w xk yk xn yn xs ys
        cases ht : (xk == yk && xn == yn && xs.toList == ys.toList)
        · rw [ht] at HX HY kn
          have HF := Lib.hid (HY.out rfl)
          clear HX HY ht hav
          go_wp2
          refine wp_region_lit_plan [] [(0, 0), (1, 0), (2, 0), (4, 0), (5, 0), (6, 0), (3, 1), (7, 1), (8, 0)] (fun _ => False) (by kernel_rfl) (by kernel_rfl) (fun c a d v w h => by cases d <;> exact h) ?_
          go_wp2_with (first
            | (refine plan_pure (v := _) (by rfl) (by rfl) (by rfl) (by intro _; go_simp; with_reducible rfl) ?_; simp only [List.setIfInBounds_toArray, List.set_cons_zero, List.set_cons_succ]; try go_bits) | (refine plan_read (v := _) (by rfl) (by rfl) (by rfl) (by go_simp; with_reducible rfl) ?_; simp only [List.setIfInBounds_toArray, List.set_cons_zero, List.set_cons_succ]; try go_bits) | (refine plan_readB (v := _) (by rfl) (by rfl) (by rfl) (by intro _ hag; unfold Agree at hag; go_simp; with_reducible rfl) ?_; simp only [List.setIfInBounds_toArray, List.set_cons_zero, List.set_cons_succ]; try go_bits) | (refine plan_skip0 (by rfl) (by rfl) (by rfl) ?_; simp only [List.setIfInBounds_toArray, List.set_cons_zero, List.set_cons_succ]; try go_bits) | (refine plan_skip1 (by rfl) (by rfl) (by rfl) ?_; simp only [List.setIfInBounds_toArray, List.set_cons_zero, List.set_cons_succ]; try go_bits) | (refine plan_skip2 (by rfl) (by rfl) (by rfl) ?_; simp only [List.setIfInBounds_toArray, List.set_cons_zero, List.set_cons_succ]; try go_bits) | (refine plan_skip4 (by rfl) (by rfl) (by rfl) ?_; simp only [List.setIfInBounds_toArray, List.set_cons_zero, List.set_cons_succ]; try go_bits) | (refine plan_any (by rfl) ?_) | (refine plan_keep (by rfl) ?_) | (refine plan_nil ?_) | (with_reducible refine And.intro (by first | assumption | exact Agree.refl _ _ | exact agree_drew _ _ | exact agree_alloc _ (by intro k hk; subst hk; first | omega | (simp; omega))) ?_) | (unfold Act.put; simp only [List.setIfInBounds_toArray, List.set_cons_zero, List.set_cons_succ]))
          go_ret
          exact ⟨by rw [HE.out, HF.out]; rfl, HB.out.drew⟩
        · rw [ht] at HX HY kn
          have HF := Lib.hid (HX.out rfl)
          clear HX HY ht hav
          go_wp2
          refine wp_region_lit_plan [] [(0, 0), (1, 0), (2, 0), (4, 0), (5, 0), (6, 0), (3, 1), (7, 1), (8, 0)] (fun _ => False) (by kernel_rfl) (by kernel_rfl) (fun c a d v w h => by cases d <;> exact h) ?_
          go_wp2_with (first
            | (refine plan_pure (v := _) (by rfl) (by rfl) (by rfl) (by intro _; go_simp; with_reducible rfl) ?_; simp only [List.setIfInBounds_toArray, List.set_cons_zero, List.set_cons_succ]; try go_bits) | (refine plan_read (v := _) (by rfl) (by rfl) (by rfl) (by go_simp; with_reducible rfl) ?_; simp only [List.setIfInBounds_toArray, List.set_cons_zero, List.set_cons_succ]; try go_bits) | (refine plan_readB (v := _) (by rfl) (by rfl) (by rfl) (by intro _ hag; unfold Agree at hag; go_simp; with_reducible rfl) ?_; simp only [List.setIfInBounds_toArray, List.set_cons_zero, List.set_cons_succ]; try go_bits) | (refine plan_skip0 (by rfl) (by rfl) (by rfl) ?_; simp only [List.setIfInBounds_toArray, List.set_cons_zero, List.set_cons_succ]; try go_bits) | (refine plan_skip1 (by rfl) (by rfl) (by rfl) ?_; simp only [List.setIfInBounds_toArray, List.set_cons_zero, List.set_cons_succ]; try go_bits) | (refine plan_skip2 (by rfl) (by rfl) (by rfl) ?_; simp only [List.setIfInBounds_toArray, List.set_cons_zero, List.set_cons_succ]; try go_bits) | (refine plan_skip4 (by rfl) (by rfl) (by rfl) ?_; simp only [List.setIfInBounds_toArray, List.set_cons_zero, List.set_cons_succ]; try go_bits) | (refine plan_any (by rfl) ?_) | (refine plan_keep (by rfl) ?_) | (refine plan_nil ?_) | (with_reducible refine And.intro (by first | assumption | exact Agree.refl _ _ | exact agree_drew _ _ | exact agree_alloc _ (by intro k hk; subst hk; first | omega | (simp; omega))) ?_) | (unfold Act.put; simp only [List.setIfInBounds_toArray, List.set_cons_zero, List.set_cons_succ]))
          exact ⟨⟨k + 1, by go_num, by omega, HF.out, HB.out.drew⟩, by (simp [intOf]) <;> omega⟩
      · obtain rfl : k = l.length := by omega
        have e5 : out = true := by rw [HE.out]; exact range_all _ _ HA.out
        have E5 := Lib.hid e5
        clear hb e5
        go_wp2
        go_ret
        exact ⟨by rw [E5.out]; rfl, HB.out⟩
  · obtain ⟨p, cap, rfl, hc1, hc2⟩ := h.form
    obtain ⟨p', cap', rfl, hc1', hc2'⟩ := h'.form
    rw [decide_eq_false (fun e => hlen e.symm)] at HE
    have d1 : ((l.length : Int) == (l'.length : Int)) = false := beq_eq_false_iff_ne.2 (by omega)
    have d2 : ((l.length : Int) != (l'.length : Int)) = true := bne_iff_ne.2 (by omega)
    clear h h' hlen
    go_enter Tryd.func28, Tryd.ntmps28
    go_wp2
    go_ret
    exact ⟨by rw [HE.out]; rfl, Below.refl _ _⟩

end Go.Proofs.YtlgohkdckdnmhaaDoor
