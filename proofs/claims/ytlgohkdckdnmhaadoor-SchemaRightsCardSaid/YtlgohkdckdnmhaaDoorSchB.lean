/- Schemas: columns, indexes; what is alike. -/
import Derived.Test.YtlgohkdckdnmhaaDoorSchR
namespace Go.Proofs.YtlgohkdckdnmhaaDoor
open Go.RowKit Go.Afx

structure ColV where
  name : ByteArray
  kind : Int
def ColV.cells (c : ColV) : List Value := [.string c.name, .int .i64 c.kind]
def ColV.agg (c : ColV) : Value := .agg #[.string c.name, .int .i64 c.kind]
structure IdxV where
  v : Value
  l : List Int
  unique : Bool
def IdxV.cells (x : IdxV) : List Value := [x.v, .bool x.unique]
def IdxV.agg (x : IdxV) : Value := .agg #[x.v, .bool x.unique]
def colCells (l : List ColV) : List Value := (l.map ColV.cells).flatten
def idxCells (l : List IdxV) : List Value := (l.map IdxV.cells).flatten
/-- Indexes that read, with their places. -/
def IdxAt (w : World) (B : Nat → Prop) (v : Value) (l : List IdxV) : Prop := Sl w B 2 v l.length (idxCells l) ∧ ∀ x ∈ l, Sl w B 1 x.v x.l.length (ints x.l)
theorem IdxAt.below {w w' : World} {B : Nat → Prop} {v : Value} {l : List IdxV} (h : IdxAt w B v l) (hb : Below w.heap.size w w') : IdxAt w' B v l := ⟨h.1.below hb, fun x hx => (h.2 x hx).below hb⟩

theorem cells2_at {α : Type} (f : α → List Value) (hf : ∀ a, (f a).length = 2) (l : List α) (k r : Nat) (hk : k < l.length) (hr : r < 2) : ((l.map f).flatten)[k * 2 + r]? = (f l[k])[r]? := by
  have hlen : ∀ c ∈ l.map f, c.length = 2 := by
    intro c hc
    obtain ⟨a, _, rfl⟩ := List.mem_map.1 hc
    exact hf a
  rw [flatten_get _ hlen k r hr, List.getElem?_map, List.getElem?_eq_getElem hk]
  rfl
theorem cells2_length {α : Type} (f : α → List Value) (hf : ∀ a, (f a).length = 2) (l : List α) : ((l.map f).flatten).length = l.length * 2 := by
  have hlen : ∀ c ∈ l.map f, c.length = 2 := by
    intro c hc
    obtain ⟨a, _, rfl⟩ := List.mem_map.1 hc
    exact hf a
  rw [flatten_length _ hlen, List.length_map]
theorem sl_two {α : Type} {f : α → List Value} (hf : ∀ a, (f a).length = 2) {w : World} {B : Nat → Prop} {v : Value} {l : List α} (h : Sl w B 2 v l.length ((l.map f).flatten)) {k : Nat} (hk : k < l.length) :
    ∃ g off cap, v = .slice (some ⟨g, off, none⟩) l.length cap ∧ g < w.heap.size ∧ w.cell? ⟨g, off + k * 2, none⟩ = (f l[k])[0]? ∧ w.cell? ⟨g, off + k * 2 + 1, none⟩ = (f l[k])[1]? := by
  obtain ⟨g, off, cap, hv, _, _, hgb, hglt, hc⟩ := h.place (by omega)
  have get : ∀ r, r < 2 → w.cell? ⟨g, off + (k * 2 + r), none⟩ = (f l[k])[r]? := fun r hr => by
    rw [hc _ (by rw [cells2_length f hf]; omega), cells2_at f hf l k r hk hr]
  exact ⟨g, off, cap, hv, hglt, get 0 (by omega), get 1 (by omega)⟩
theorem sl_col {w : World} {B : Nat → Prop} {v : Value} {l : List ColV} (h : Sl w B 2 v l.length (colCells l)) {k : Nat} (hk : k < l.length) :
    ∃ g off cap, v = .slice (some ⟨g, off, none⟩) l.length cap ∧ g < w.heap.size ∧ w.cell? ⟨g, off + k * 2, none⟩ = some (.string l[k].name) ∧ w.cell? ⟨g, off + k * 2 + 1, none⟩ = some (.int .i64 l[k].kind) :=
  sl_two (f := ColV.cells) (fun _ => rfl) h hk
theorem sl_idx {w : World} {B : Nat → Prop} {v : Value} {l : List IdxV} (h : Sl w B 2 v l.length (idxCells l)) {k : Nat} (hk : k < l.length) :
    ∃ g off cap, v = .slice (some ⟨g, off, none⟩) l.length cap ∧ g < w.heap.size ∧ w.cell? ⟨g, off + k * 2, none⟩ = some l[k].v ∧ w.cell? ⟨g, off + k * 2 + 1, none⟩ = some (.bool l[k].unique) :=
  sl_two (f := IdxV.cells) (fun _ => rfl) h hk
theorem sl_int {w : World} {B : Nat → Prop} {v : Value} {l : List Int} (h : Sl w B 1 v l.length (ints l)) {k : Nat} (hk : k < l.length) :
    ∃ g off cap, v = .slice (some ⟨g, off, none⟩) l.length cap ∧ g < w.heap.size ∧ w.cell? ⟨g, off + k, none⟩ = some (.int .i64 l[k]) := by
  obtain ⟨g, off, cap, hv, _, _, hgb, hglt, hc⟩ := h.place (by omega)
  exact ⟨g, off, cap, hv, hglt, by rw [hc k (by simpa [ints] using hk)]; simp [ints, hk]⟩

/-- No two alike. -/
def unlikeGo {α : Type} (same : α → α → Bool) : List α → List α → Bool
  | _, [] => true
  | seen, a :: t => seen.all (fun b => !same a b) && unlikeGo same (seen ++ [a]) t
def unlikeB {α : Type} (same : α → α → Bool) (l : List α) : Bool := unlikeGo same [] l
theorem unlike_step {α : Type} (same : α → α → Bool) (l : List α) (k : Nat) (h : k < l.length) :
    ((l.take k).all (fun b => !same l[k] b) = true → unlikeGo same (l.take (k + 1)) (l.drop (k + 1)) = unlikeGo same (l.take k) (l.drop k)) ∧
    ((l.take k).all (fun b => !same l[k] b) = false → unlikeGo same (l.take k) (l.drop k) = false) := by
  rw [List.drop_eq_getElem_cons h, ← List.take_append_getElem h]
  unfold unlikeGo
  refine ⟨fun ha => ?_, fun ha => ?_⟩
  · rw [ha, Bool.true_and]
    cases l.drop (k + 1) <;> rfl
  · rw [ha, Bool.false_and]
theorem all_next {α : Type} (f : α → Bool) (l : List α) (j : Nat) (h : j < l.length) (ha : (l.take j).all f = true) : f l[j] = true → (l.take (j + 1)).all f = true := fun hf => by
  rw [← List.take_append_getElem h, List.all_append, ha]
  simp [hf]
theorem all_false {α : Type} (f : α → Bool) (l : List α) (j k : Nat) (hjk : j < k) (h : j < l.length) : f l[j] = false → (l.take k).all f = false := fun hf => by
  rw [List.all_eq_false]
  refine ⟨l[j], ?_, by simp [hf]⟩
  rw [List.mem_iff_getElem]
  exact ⟨j, by rw [List.length_take]; omega, by rw [List.getElem_take]⟩

def sameCol (a b : ColV) : Bool := a.name.toList == b.name.toList
def sameIdx (a b : IdxV) : Bool := a.l == b.l
def sameInt (a b : Int) : Bool := a == b

theorem within_any (w : World) (n lo hi : Int) : Calls Tryd.prog 67 #[.int .i64 n, .int .i64 lo, .int .i64 hi] w fun e w' => e = .returned (.bool (decide (lo ≤ n) && decide (n ≤ hi))) ∧ w = w' := by
  by_cases h1 : lo ≤ n
  · have e1 : decide (lo ≤ n) = true := decide_eq_true h1
    rw [e1]
    go_enter Tryd.func67, Tryd.ntmps67
    go_wp2
    go_ret
    exact ⟨rfl, rfl⟩
  · have e1 : decide (lo ≤ n) = false := decide_eq_false h1
    rw [e1]
    go_enter Tryd.func67, Tryd.ntmps67
    go_wp2
    go_ret
    exact ⟨rfl, rfl⟩
theorem col_same (w : World) (a b : ColV) : Calls Tryd.prog 115 #[.agg #[.string a.name, .int .i64 a.kind], .agg #[.string b.name, .int .i64 b.kind]] w fun e w' => e = .returned (.bool (sameCol a b)) ∧ Below w.heap.size w w' := by
  obtain ⟨n, k⟩ := a
  obtain ⟨n', k'⟩ := b
  show Calls _ _ _ _ fun e w' => e = .returned (.bool (n.toList == n'.toList)) ∧ Below w.heap.size w w'
  go_enter Tryd.func115, Tryd.ntmps115
  go_wp2
  go_ret
  refine ⟨rfl, ?_⟩
  repeat (with_reducible first | exact Below.refl _ _ | apply Below.drew | (refine Below.alloc ?_ (by first | omega | (simp; omega) | simp) _) | (refine Below.setCell ?_ (by first | omega | (simp; omega) | simp) _))
theorem int_same (w : World) (a b : Int) : Calls Tryd.prog 129 #[.int .i64 a, .int .i64 b] w fun e w' => e = .returned (.bool (sameInt a b)) ∧ Below w.heap.size w w' := by
  show Calls _ _ _ _ fun e w' => e = .returned (.bool (a == b)) ∧ Below w.heap.size w w'
  go_enter Tryd.func129, Tryd.ntmps129
  go_wp2
  go_ret
  exact ⟨rfl, Below.refl _ _⟩
theorem take_eq_next {α : Type} [DecidableEq α] (l l' : List α) (k : Nat) (h : k < l.length) (h' : k < l'.length) (he : l.take k = l'.take k) (hk : l[k] = l'[k]) : l.take (k + 1) = l'.take (k + 1) := by
  rw [← List.take_append_getElem h, ← List.take_append_getElem h', he, hk]
set_option maxRecDepth 100000 in
theorem eq_ints (w : World) (B : Nat → Prop) (v v' : Value) (l l' : List Int) (h : Sl w B 1 v l.length (ints l)) (h' : Sl w B 1 v' l'.length (ints l')) :
    Calls Tryd.prog 85 #[v, v'] w fun e w' => e = .returned (.bool (l == l')) ∧ Below w.heap.size w w' := by
  obtain ⟨p, cap, rfl, hc1, hc2⟩ := h.form
  obtain ⟨p', cap', rfl, hc1', hc2'⟩ := h'.form
  have H := Lib.hid h
  have H' := Lib.hid h'
  clear h h'
  by_cases hlen : l.length = l'.length
  · have HLEN := Lib.hid hlen
    rw [← hlen] at H' hc1' ⊢
    clear hlen
    go_enter Tryd.func85, Tryd.ntmps85
    go_wp2
    go_loopw [13] (fun i wr => ∃ k : Nat, i = .int .i64 k ∧ k ≤ l.length ∧ l.take k = l'.take k ∧ Below w.heap.size w wr) (fun i _ => l.length - (intOf i).toNat)
    case atStart => exact ⟨0, rfl, Nat.zero_le _, rfl, Below.refl _ _⟩
    case round =>
      obtain ⟨k, rfl, hk, ht, hb⟩ := hrel
      have HB := Lib.hid hb
      have HT := Lib.hid ht
      clear ht
      by_cases hka : k < l.length
      · have hka' : k < l'.length := by rw [← HLEN.out]; exact hka
        have h1' := H'.out
        rw [HLEN.out] at h1'
        obtain ⟨g, off, cap1, hv, hg, e0⟩ := sl_int (H.out.below hb) hka
        obtain ⟨g', off', cap1', hv', hg', e0'⟩ := sl_int (h1'.below hb) hka'
        rw [← HLEN.out] at hv'
        cases hv
        cases hv'
        have HX : Hid (l[k] = l'[k] → l.take (k + 1) = l'.take (k + 1)) := fun h => take_eq_next l l' k hka hka' HT.out h
        have HY : Hid (l[k] ≠ l'[k] → (l == l') = false) := fun h => by
          rw [beq_eq_false_iff_ne]
          intro he
          subst he
          exact h rfl
        clear hb h1'
        generalize l[k] = x at *
        generalize l'[k] = y at *
        by_cases hxy : x = y
        · have HF := Lib.hid (HX.out hxy)
          subst hxy
          clear HX HY
          go_wp2
          refine wp_region_lit_plan [] [(0, 0), (1, 0), (2, 0), (4, 0), (5, 0), (6, 0), (3, 1), (7, 1), (8, 0)] (fun _ => False) (by kernel_rfl) (by kernel_rfl) (fun c a d v w h => by cases d <;> exact h) ?_
          go_wp2_with (first
            | (refine plan_pure (v := _) (by rfl) (by rfl) (by rfl) (by intro _; go_simp; with_reducible rfl) ?_; simp only [List.setIfInBounds_toArray, List.set_cons_zero, List.set_cons_succ]; try go_bits) | (refine plan_read (v := _) (by rfl) (by rfl) (by rfl) (by go_simp; with_reducible rfl) ?_; simp only [List.setIfInBounds_toArray, List.set_cons_zero, List.set_cons_succ]; try go_bits) | (refine plan_readB (v := _) (by rfl) (by rfl) (by rfl) (by intro _ hag; unfold Agree at hag; go_simp; with_reducible rfl) ?_; simp only [List.setIfInBounds_toArray, List.set_cons_zero, List.set_cons_succ]; try go_bits) | (refine plan_skip0 (by rfl) (by rfl) (by rfl) ?_; simp only [List.setIfInBounds_toArray, List.set_cons_zero, List.set_cons_succ]; try go_bits) | (refine plan_skip1 (by rfl) (by rfl) (by rfl) ?_; simp only [List.setIfInBounds_toArray, List.set_cons_zero, List.set_cons_succ]; try go_bits) | (refine plan_skip2 (by rfl) (by rfl) (by rfl) ?_; simp only [List.setIfInBounds_toArray, List.set_cons_zero, List.set_cons_succ]; try go_bits) | (refine plan_skip4 (by rfl) (by rfl) (by rfl) ?_; simp only [List.setIfInBounds_toArray, List.set_cons_zero, List.set_cons_succ]; try go_bits) | (refine plan_any (by rfl) ?_) | (refine plan_keep (by rfl) ?_) | (refine plan_nil ?_) | (with_reducible refine And.intro (by first | assumption | exact Agree.refl _ _ | exact agree_drew _ _ | exact agree_alloc _ (by intro k hk; subst hk; first | omega | (simp; omega))) ?_) | (unfold Act.put; simp only [List.setIfInBounds_toArray, List.set_cons_zero, List.set_cons_succ]))
          exact ⟨⟨k + 1, by go_num, by omega, HF.out, HB.out.drew⟩, by (simp [intOf]) <;> omega⟩
        · have HF := Lib.hid (HY.out hxy)
          have d1 : (x == y) = false := beq_eq_false_iff_ne.2 hxy
          have d2 : (x != y) = true := bne_iff_ne.2 hxy
          clear HX HY hxy
          go_wp2
          refine wp_region_lit_plan [] [(0, 0), (1, 0), (2, 0), (4, 0), (5, 0), (6, 0), (3, 1), (7, 1), (8, 0)] (fun _ => False) (by kernel_rfl) (by kernel_rfl) (fun c a d v w h => by cases d <;> exact h) ?_
          go_wp2_with (first
            | (refine plan_pure (v := _) (by rfl) (by rfl) (by rfl) (by intro _; go_simp; with_reducible rfl) ?_; simp only [List.setIfInBounds_toArray, List.set_cons_zero, List.set_cons_succ]; try go_bits) | (refine plan_read (v := _) (by rfl) (by rfl) (by rfl) (by go_simp; with_reducible rfl) ?_; simp only [List.setIfInBounds_toArray, List.set_cons_zero, List.set_cons_succ]; try go_bits) | (refine plan_readB (v := _) (by rfl) (by rfl) (by rfl) (by intro _ hag; unfold Agree at hag; go_simp; with_reducible rfl) ?_; simp only [List.setIfInBounds_toArray, List.set_cons_zero, List.set_cons_succ]; try go_bits) | (refine plan_skip0 (by rfl) (by rfl) (by rfl) ?_; simp only [List.setIfInBounds_toArray, List.set_cons_zero, List.set_cons_succ]; try go_bits) | (refine plan_skip1 (by rfl) (by rfl) (by rfl) ?_; simp only [List.setIfInBounds_toArray, List.set_cons_zero, List.set_cons_succ]; try go_bits) | (refine plan_skip2 (by rfl) (by rfl) (by rfl) ?_; simp only [List.setIfInBounds_toArray, List.set_cons_zero, List.set_cons_succ]; try go_bits) | (refine plan_skip4 (by rfl) (by rfl) (by rfl) ?_; simp only [List.setIfInBounds_toArray, List.set_cons_zero, List.set_cons_succ]; try go_bits) | (refine plan_any (by rfl) ?_) | (refine plan_keep (by rfl) ?_) | (refine plan_nil ?_) | (with_reducible refine And.intro (by first | assumption | exact Agree.refl _ _ | exact agree_drew _ _ | exact agree_alloc _ (by intro k hk; subst hk; first | omega | (simp; omega))) ?_) | (unfold Act.put; simp only [List.setIfInBounds_toArray, List.set_cons_zero, List.set_cons_succ]))
          go_ret
          exact ⟨by rw [HF.out]; rfl, HB.out.drew⟩
      · obtain rfl : k = l.length := by omega
        have e1 : (l == l') = true := by
          have := HT.out
          rw [List.take_length, HLEN.out, List.take_length] at this
          rw [this]; exact beq_self_eq_true _
        have E1 := Lib.hid e1
        clear e1 hb
        go_wp2
        go_ret
        exact ⟨by rw [E1.out]; rfl, HB.out⟩
  · have e1 : (l == l') = false := by
      rw [beq_eq_false_iff_ne]
      intro he
      exact hlen (by rw [he])
    rw [e1]
    have d1 : ((l.length : Int) == (l'.length : Int)) = false := beq_eq_false_iff_ne.2 (by omega)
    have d2 : ((l.length : Int) != (l'.length : Int)) = true := bne_iff_ne.2 (by omega)
    clear e1
    go_enter Tryd.func85, Tryd.ntmps85
    go_wp2
    go_ret
    exact ⟨rfl, Below.refl _ _⟩
set_option maxRecDepth 100000 in
theorem idx_same (w : World) (B : Nat → Prop) (a b : IdxV) (ha : Sl w B 1 a.v a.l.length (ints a.l)) (hb : Sl w B 1 b.v b.l.length (ints b.l)) :
    Calls Tryd.prog 118 #[.agg #[a.v, .bool a.unique], .agg #[b.v, .bool b.unique]] w fun e w' => e = .returned (.bool (sameIdx a b)) ∧ Below w.heap.size w w' := by
  obtain ⟨v, l, u⟩ := a
  obtain ⟨v', l', u'⟩ := b
  show Calls _ _ _ _ fun e w' => e = .returned (.bool (l == l')) ∧ Below w.heap.size w w'
  simp only at ha hb
  have h1 : Below w.heap.size w ((w.alloc (.cells #[v, .bool u] 55)).alloc (.cells #[v', .bool u'] 55)) := ((Below.refl _ _).alloc (Nat.le_refl _) _).alloc (by simp) _
  have HE := Lib.hid (eq_ints _ B v v' l l' (ha.below h1) (hb.below h1))
  obtain ⟨p, cap, rfl, _, _⟩ := ha.form
  obtain ⟨p', cap', rfl, _, _⟩ := hb.form
  have H1 := Lib.hid h1
  clear ha hb h1
  generalize (l == l') = r at *
  go_enter Tryd.func118, Tryd.ntmps118
  go_wp2_with (go_at_call 85; refine HE.out.mono ?_; rintro e w2 ⟨rfl, hb2⟩)
  go_ret
  exact ⟨rfl, H1.out.trans (hb2.mono H1.out.size)⟩
end Go.Proofs.YtlgohkdckdnmhaaDoor
