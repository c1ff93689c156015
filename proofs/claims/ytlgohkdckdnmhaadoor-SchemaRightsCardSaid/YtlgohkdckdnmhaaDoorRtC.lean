/- Schemas: columns and indexes compared. -/
import Derived.Test.YtlgohkdckdnmhaaDoorEqR
import Derived.Test.YtlgohkdckdnmhaaDoorSchE
namespace Go.Proofs.YtlgohkdckdnmhaaDoor
open Go.RowKit Go.Afx

theorem sl_anyw' {w : World} {B : Nat → Prop} {sz : Nat} {v : Value} {n : Nat} {cs : List Value} (h : Sl w B sz v n cs) : Sl w (fun _ => True) sz v n cs := h.mono (Nat.le_refl _) (fun _ _ _ => rfl) (fun _ _ _ => trivial)
/-- Two lists, one by one. -/
def eqByAt {α : Type} (f : α → α → Bool) (l l' : List α) (i : Nat) : Bool := match l[i]?, l'[i]? with
  | some x, some y => f x y
  | _, _ => false
def eqBy {α : Type} (f : α → α → Bool) (l l' : List α) : Bool := decide (l.length = l'.length) && (List.range l.length).all (eqByAt f l l')
theorem eqByAt_eq {α : Type} (f : α → α → Bool) (l l' : List α) (k : Nat) (h1 : k < l.length) (h2 : k < l'.length) : eqByAt f l l' k = f l[k] l'[k] := by
  unfold eqByAt
  rw [List.getElem?_eq_getElem h1, List.getElem?_eq_getElem h2]
def colEq (a b : ColV) : Bool := a.name.toList == b.name.toList && a.kind == b.kind
def idxEq (a b : IdxV) : Bool := a.unique == b.unique && a.l == b.l
theorem eqC (w : World) (d : Nat) (k k' : Int) (s s' : ByteArray) : (Op.equalIn (d + 2) 66 (.agg #[.string s, .int .i64 k]) (.agg #[.string s', .int .i64 k'])).run Tryd.prog w = .ok (s.toList == s'.toList && k == k') w := by
  have p0 : ∀ (x y : Value) w, (part 9 #[x, y] 0).run Tryd.prog w = .ok x w := fun _ _ _ => by kernel_rfl
  have p1 : ∀ (x y : Value) w, (part 3 #[x, y] 1).run Tryd.prog w = .ok y w := fun _ _ _ => by kernel_rfl
  rw [Op.equalIn]
  simp [run_underlying Tryd.underlying66, p0, p1, eqI, eqS]
  cases hk : (k == k') <;> cases hs : (s.toList == s'.toList) <;> simp_all
@[go_sem] theorem neqC (w : World) (k k' : Int) (s s' : ByteArray) : (binOp .neq 66 (.agg #[.string s, .int .i64 k]) (.agg #[.string s', .int .i64 k'])).run Tryd.prog w = .ok (.bool (!(s.toList == s'.toList && k == k'))) w := by
  simp only [binOp]
  simp [Op.equal, Op.maxDepth, eqC w 9998]

set_option maxRecDepth 100000 in
theorem eq_cols (w : World) (B B' : Nat → Prop) (v v' : Value) (l l' : List ColV) (h : Sl w B 2 v l.length (colCells l)) (h' : Sl w B' 2 v' l'.length (colCells l')) :
    Calls Tryd.prog 86 #[v, v'] w fun e w' => e = .returned (.bool (eqBy colEq l l')) ∧ Below w.heap.size w w' := by
  have HE : Hid (eqBy colEq l l' = (decide (l.length = l'.length) && (List.range l.length).all (eqByAt colEq l l'))) := rfl
  generalize eqBy colEq l l' = out at *
  by_cases hlen : l'.length = l.length
  · rw [hlen] at h'
    rw [decide_eq_true hlen.symm, Bool.true_and] at HE
    obtain ⟨p, cap, rfl, hc1, hc2⟩ := h.form
    obtain ⟨p', cap', rfl, hc1', hc2'⟩ := h'.form
    have H := Lib.hid h
    have H' := Lib.hid h'
    have HL := Lib.hid hlen
    clear h h' hlen
    go_enter Tryd.func86, Tryd.ntmps86
    go_wp2
    go_loopw [13] (fun i wr => ∃ k : Nat, i = .int .i64 k ∧ k ≤ l.length ∧ ((List.range l.length).take k).all (eqByAt colEq l l') = true ∧ Below w.heap.size w wr) (fun i _ => l.length - (intOf i).toNat)
    case atStart => exact ⟨0, rfl, Nat.zero_le _, rfl, Below.refl _ _⟩
    case round =>
      obtain ⟨k, rfl, hk, ha, hb⟩ := hrel
      have HB := Lib.hid hb
      have HA := Lib.hid ha
      clear ha
      by_cases hka : k < l.length
      · have hka' : k < l'.length := by rw [HL.out]; exact hka
        have h1' := H'.out
        rw [← HL.out] at h1'
        obtain ⟨g, off, cap1, hv, hg, e0, e1⟩ := sl_col (H.out.below hb) hka
        obtain ⟨g', off', cap1', hv', hg', e0', e1'⟩ := sl_col (h1'.below hb) hka'
        rw [HL.out] at hv'
        cases hv
        cases hv'
        have HX := Lib.hid (range_next (eqByAt colEq l l') l.length k hka HA.out)
        have HY := Lib.hid (range_not (eqByAt colEq l l') l.length k hka)
        rw [eqByAt_eq colEq l l' k hka hka'] at HX HY
        clear hb h1'
        generalize l[k] = x at *
        generalize l'[k] = y at *
        obtain ⟨xs, xk⟩ := x
        obtain ⟨ys, yk⟩ := y
        have hav : colEq ⟨xs, xk⟩ ⟨ys, yk⟩ = (xs.toList == ys.toList && xk == yk) := rfl
        rw [hav] at HX HY
        simp only at e0 e1 e0' e1'
        have kn := fun w : World => neqC w xk yk xs ys
        cases ht : (xs.toList == ys.toList && xk == yk)
        · rw [ht] at HX HY kn
          have HF := Lib.hid (HY.out rfl)
          clear HX HY ht hav
          go_wp2
          refine wp_region_lit_plan [] [(0, 0), (1, 0), (2, 0), (4, 0), (5, 0), (6, 0), (3, 1), (7, 1), (8, 0)] (fun _ => False) (by kernel_rfl) (by kernel_rfl) (fun c a d v w h => by cases d <;> exact h) ?_
          go_wp2_with (first
            | (refine plan_pure (v := _) (by rfl) (by rfl) (by rfl) (by intro _; go_simp; with_reducible rfl) ?_; simp only [List.setIfInBounds_toArray, List.set_cons_zero, List.set_cons_succ]; try go_bits) | (refine plan_read (v := _) (by rfl) (by rfl) (by rfl) (by go_simp; with_reducible rfl) ?_; simp only [List.setIfInBounds_toArray, List.set_cons_zero, List.set_cons_succ]; try go_bits) | (refine plan_readB (v := _) (by rfl) (by rfl) (by rfl) (by intro _ hag; unfold Agree at hag; go_simp; with_reducible rfl) ?_; simp only [List.setIfInBounds_toArray, List.set_cons_zero, List.set_cons_succ]; try go_bits) | (refine plan_skip0 (by rfl) (by rfl) (by rfl) ?_; simp only [List.setIfInBounds_toArray, List.set_cons_zero, List.set_cons_succ]; try go_bits) | (refine plan_skip1 (by rfl) (by rfl) (by rfl) ?_; simp only [List.setIfInBounds_toArray, List.set_cons_zero, List.set_cons_succ]; try go_bits) | (refine plan_skip2 (by rfl) (by rfl) (by rfl) ?_; simp only [List.setIfInBounds_toArray, List.set_cons_zero, List.set_cons_succ]; try go_bits) | (refine plan_skip4 (by rfl) (by rfl) (by rfl) ?_; simp only [List.setIfInBounds_toArray, List.set_cons_zero, List.set_cons_succ]; try go_bits) | (refine plan_any (by rfl) ?_) | (refine plan_keep (by rfl) ?_) | (refine plan_nil ?_) | (with_reducible refine And.intro (by first | assumption | exact Agree.refl _ _ | exact agree_drew _ _ | exact agree_alloc _ (by intro k hk; subst hk; first | omega | (simp; omega))) ?_) | (unfold Act.put; simp only [List.setIfInBounds_toArray, List.set_cons_zero, List.set_cons_succ]))
          go_ret
          exact ⟨by rw [HE.out, HF.out]; rfl, HB.out.drew⟩
        · rw [ht] at HX HY kn
          have HF := Lib.hid (HX.out rfl)
          clear HX HY ht hav
          go_wp2
          refine wp_region_lit_plan [] [(0, 0), (1, 0), (2, 0), (4, 0), (5, 0), (6, 0), (3, 1), (7, 1), (8, 0)] (fun _ => False) (by kernel_rfl) (by kernel_rfl) (fun c a d v w h => by cases d <;> exact h) ?_
          go_wp2_with (first
            | (refine plan_pure (v := _) (by rfl) (by rfl) (by rfl) (by intro _; go_simp; with_reducible rfl) ?_; simp only [List.setIfInBounds_toArray, List.set_cons_zero, List.set_cons_succ]; try go_bits) | (refine plan_read (v := _) (by rfl) (by rfl) (by rfl) (by go_simp; with_reducible rfl) ?_; simp only [List.setIfInBounds_toArray, List.set_cons_zero, List.set_cons_succ]; try go_bits) | (refine plan_readB (v := _) (by rfl) (by rfl) (by rfl) (by intro _ hag; unfold Agree at hag; go_simp; with_reducible rfl) ?_; simp only [List.setIfInBounds_toArray, List.set_cons_zero, List.set_cons_succ]; try go_bits) | (refine plan_skip0 (by rfl) (by rfl) (by rfl) ?_; simp only [List.setIfInBounds_toArray, List.set_cons_zero, List.set_cons_succ]; try go_bits) | (refine plan_skip1 (by rfl) (by rfl) (by rfl) ?_; simp only [List.setIfInBounds_toArray, List.set_cons_zero, List.set_cons_succ]; try go_bits) | (refine plan_skip2 (by rfl) (by rfl) (by rfl) ?_; simp only [List.setIfInBounds_toArray, List.set_cons_zero, List.set_cons_succ]; try go_bits) | (refine plan_skip4 (by rfl) (by rfl) (by rfl) ?_; simp only [List.setIfInBounds_toArray, List.set_cons_zero, List.set_cons_succ]; try go_bits) | (refine plan_any (by rfl) ?_) | (refine plan_keep (by rfl) ?_) | (refine plan_nil ?_) | (with_reducible refine And.intro (by first | assumption | exact Agree.refl _ _ | exact agree_drew _ _ | exact agree_alloc _ (by intro k hk; subst hk; first | omega | (simp; omega))) ?_) | (unfold Act.put; simp only [List.setIfInBounds_toArray, List.set_cons_zero, List.set_cons_succ]))
          exact ⟨⟨k + 1, by go_num, by omega, HF.out, HB.out.drew⟩, by (simp [intOf]) <;> omega⟩
      · obtain rfl : k = l.length := by omega
        have e5 : out = true := by rw [HE.out]; exact range_all _ _ HA.out
        have E5 := Lib.hid e5
        clear hb e5
        go_wp2
        go_ret
        exact ⟨by rw [E5.out]; rfl, HB.out⟩
  · obtain ⟨p, cap, rfl, hc1, hc2⟩ := h.form
    obtain ⟨p', cap', rfl, hc1', hc2'⟩ := h'.form
    rw [decide_eq_false (fun e => hlen e.symm)] at HE
    have d1 : ((l.length : Int) == (l'.length : Int)) = false := beq_eq_false_iff_ne.2 (by omega)
    have d2 : ((l.length : Int) != (l'.length : Int)) = true := bne_iff_ne.2 (by omega)
    clear h h' hlen
    go_enter Tryd.func86, Tryd.ntmps86
    go_wp2
    go_ret
    exact ⟨by rw [HE.out]; rfl, Below.refl _ _⟩


set_option maxRecDepth 100000 in
theorem same1_any (w : World) (B B' : Nat → Prop) (a b : IdxV) (ha : Sl w B 1 a.v a.l.length (ints a.l)) (hb : Sl w B' 1 b.v b.l.length (ints b.l)) :
    Calls Tryd.prog 84 #[.agg #[a.v, .bool a.unique], .agg #[b.v, .bool b.unique]] w fun e w' => e = .returned (.bool (idxEq a b)) ∧ Below w.heap.size w w' := by
  obtain ⟨av, al, au⟩ := a
  obtain ⟨bv, bl, bu⟩ := b
  simp only at ha hb ⊢
  obtain ⟨pa, ca, rfl, _, _⟩ := ha.form
  obtain ⟨pb, cb, rfl, _, _⟩ := hb.form
  obtain ⟨w1, hw1⟩ : ∃ w1, w.alloc (.cells #[.slice pa al.length ca, .bool au] 55) = w1 := ⟨_, rfl⟩
  obtain ⟨w2, hw2⟩ : ∃ w2, w1.alloc (.cells #[.slice pb bl.length cb, .bool bu] 55) = w2 := ⟨_, rfl⟩
  have b1 : Below w.heap.size w w1 := hw1 ▸ (Below.refl _ _).alloc (Nat.le_refl _) _
  have b2 : Below w1.heap.size w1 w2 := hw2 ▸ (Below.refl _ _).alloc (Nat.le_refl _) _
  have b12 : Below w.heap.size w w2 := b1.trans (b2.mono b1.size)
  have k1 : Blk w1 w.heap.size 55 [.slice pa al.length ca, .bool au] := by rw [← hw1]; exact Blk.new w _ _
  have k1b := k1.below b2
  have k2 : Blk w2 w1.heap.size 55 [.slice pb bl.length cb, .bool bu] := by rw [← hw2]; exact Blk.new w1 _ _
  have x0 := k1b.cell 0
  have x1 := k1b.cell 1
  have y0 := k2.cell 0
  have y1 := k2.cell 1
  simp only [List.getElem?_cons_zero, List.getElem?_cons_succ] at x0 x1 y0 y1
  have HE := Lib.hid (fun W (hb2 : Below w.heap.size w W) => eq_ints W (fun _ => True) _ _ al bl (sl_anyw' (ha.below hb2)) (sl_anyw' (hb.below hb2)))
  have HB := Lib.hid b12
  have HX : Hid (idxEq ⟨.slice pa al.length ca, al, au⟩ ⟨.slice pb bl.length cb, bl, bu⟩ = (au == bu && al == bl)) := rfl
  generalize idxEq ⟨.slice pa al.length ca, al, au⟩ ⟨.slice pb bl.length cb, bl, bu⟩ = out at *
  clear ha hb b1 b2 b12 k1 k1b k2
  generalize (al == bl) = eq at *
  cases hu : (au == bu)
  · rw [hu] at HX
    go_enter Tryd.func84, Tryd.ntmps84
    go_wp2
    go_ret
    exact ⟨by rw [HX.out]; rfl, HB.out⟩
  · rw [hu, Bool.true_and] at HX
    go_enter Tryd.func84, Tryd.ntmps84
    go_wp2_with fail
    clear hw1 hw2
    refine (HE.out _ HB.out).mono ?_
    rintro e w3 ⟨rfl, hb3⟩
    have HB3 := Lib.hid (HB.out.trans (hb3.mono HB.out.size))
    clear hb3
    go_wp2
    go_ret
    exact ⟨by rw [HX.out]; rfl, HB3.out⟩
end Go.Proofs.YtlgohkdckdnmhaaDoor
