/- Contracts of slices.Clone and slices.Delete at []int. -/
import Derived.Test.YtdoidpiomonagaaRows
import Derived.Test.YtdoidpiomonagaaMemB
import Derived.Lib.Hide
import Derived.Lib.SliceRun
namespace Go.Proofs.Ytdoidpiomonagaa
open Go.RowKit Go.Afx

@[go_sem] theorem eqlNilInts (w : World) (a : Option Addr) (n c : Nat) : (binOp .eql 26 (.slice a n c) (.slice none 0 0)).run Try.prog w = .ok (.bool a.isNone) w := Lib.run_eql_slice_nil w _ _ a n c 0 0 Try.underlying26

theorem elemInt : Elem Try.prog 26 3 1 8 (.int .i64 0) :=
  ⟨Try.underlying26, by kernel_rfl, rfl, by omega, by intro u hu; simp [Value.cells] at hu; subst hu; rfl⟩
def ints (l : List Int) : List Value := l.map (Value.int .i64)
theorem ints_length (l : List Int) : (ints l).length = l.length := by simp [ints]
theorem ints_append (a b : List Int) : ints (a ++ b) = ints a ++ ints b := by simp [ints]
theorem ints_take (l : List Int) (n : Nat) : (ints l).take n = ints (l.take n) := by simp [ints, List.map_take]
theorem ints_drop (l : List Int) (n : Nat) : (ints l).drop n = ints (l.drop n) := by simp [ints, List.map_drop]
theorem ints_ones (l : List Int) : Ones (ints l) := by
  intro u hu
  obtain ⟨x, _, rfl⟩ := List.mem_map.1 hu
  rfl

set_option maxRecDepth 100000 in
set_option maxHeartbeats 400000 in
theorem clone_int (w : World) (B : Nat → Prop) (v : Value) (n : Nat) (cs : List Value) (h : Sl w B 1 v n cs) (hn : n ≤ 1000000000) :
    Calls Try.prog 50 #[v] w fun e w' => ∃ v', e = .returned v' ∧ Own w' 3 1 v' n cs ∧ Below w.heap.size w w' ∧ (∀ k, v'.ownBlock = some k → w.heap.size ≤ k) := by
  obtain ⟨p, cap, rfl, _, _⟩ := h.form
  cases p with
  | none =>
    have hn0 : n = 0 := by
      rcases h.2.2 with ⟨_, _, _, h0, _⟩ | ⟨_, _, _, h0, _⟩
      · exact h0
      · cases h0
    subst hn0
    have hc : cs = [] := List.eq_nil_of_length_eq_zero (by simpa using h.1)
    subst hc
    go_enter Try.func50, Try.ntmps50
    go_wp2
    go_ret
    exact ⟨_, rfl, Own.nil _ _ _, Below.refl _ _, by simp [Value.ownBlock]⟩
  | some a =>
    have hs := h.alloc (.cells #[] 3)
    have ho : Own (w.alloc (.cells #[] 3)) 3 1 (.slice (some ⟨w.heap.size, 0, none⟩) 0 0) 0 [] := Own.made w 3 1 [] [] 0 0 rfl Ones.nil (Nat.le_refl _) (by simp [maxLen]) (by simp)
    clear h
    go_enter Try.func50, Try.ntmps50
    go_wp2_with (at_builtin; refine wpList_app rfl _ _ rfl elemInt (by rfl) ho (by rfl) hs (by unfold maxLen; omega) (by omega) ?_; intro v' w' h1 h2 h3 _ _)
    go_ret
    have hb : Below w.heap.size w w' := (((Below.refl w.heap.size w).alloc (Nat.le_refl _) _).trans (h2.below (B := w.heap.size) (by simp) (fun i hi => by have : w.heap.size = i := (by simpa [Value.ownBlock] using hi); omega)))
    refine ⟨v', rfl, by simpa using h1, hb, fun k hk => ?_⟩
    rw [hk] at h3
    have h7 : k = w.heap.size ∨ k = w.heap.size + 1 := by simpa [Value.ownBlock] using h3
    omega

set_option maxRecDepth 100000 in
set_option maxHeartbeats 400000 in
theorem delete_int (w : World) (g off cap n i j : Nat) (cs : List Value) (h : Own w 3 1 (.slice (some ⟨g, off, none⟩) n cap) n cs) (hn : n ≤ 1000000000) (hi : i < j) (hj : j ≤ n) :
    Calls Try.prog 51 #[.slice (some ⟨g, off, none⟩) n cap, .int .i64 i, .int .i64 j] w fun e w' =>
      e = .returned (.slice (some ⟨g, off, none⟩) (i + (n - j)) cap) ∧ Own w' 3 1 (.slice (some ⟨g, off, none⟩) (i + (n - j)) cap) (i + (n - j)) (cs.take i ++ cs.drop j) ∧ Only (fun k => k = g) w w' ∧ w'.heap.size = w.heap.size := by
  have hnc : n ≤ cap := by
    rcases h.2.2 with ⟨h0, _⟩ | ⟨g', off', cap', cur, hv, _, h1, _⟩
    · cases h0
    · cases hv; exact h1
  have hcm : cap ≤ maxLen := by
    rcases h.2.2 with ⟨h0, _⟩ | ⟨g', off', cap', cur, hv, _, _, h1, _⟩
    · cases h0
    · cases hv; exact h1
  unfold maxLen at hcm
  have ho := (h.take (m := i) (by omega)).drew
  have hsl := (h.sl (B := fun _ => True) (fun _ _ => trivial))
  have hij : ((i : Int) == (j : Int)) = false := by rw [beq_eq_false_iff_ne]; omega
  simp only [Nat.mul_one] at ho
  have hic : i ≤ cap := by omega
  have hlen := h.1
  by_cases hcj : cap = j
  · have hnj : n = j := by omega
    subst hcj
    subst hnj
    have hs : Sl w.drew (fun _ => True) 1 (.slice (some ⟨g, off, none⟩) 0 0) 0 (cs.drop n) := by
      refine ⟨by rw [List.length_drop]; omega, h.2.1.drop _, .inr ?_⟩
      obtain ⟨g', off', cap', hv, h1, h2, h3, h4, h5⟩ := hsl.place (by omega)
      cases hv
      exact ⟨g, off, 0, rfl, by omega, by omega, trivial, h4, fun q hq => by rw [List.length_drop] at hq; omega⟩
    have HL := Lib.hid hlen
    clear h hsl hlen
    go_enter Try.func51, Try.ntmps51
    go_wp2
    refine wp_region_lit_plan [] [(0, 0), (1, 0), (2, 0), (3, 0), (4, 0), (5, 0), (6, 4), (7, 0)] (fun _ => False) (by kernel_rfl) (by kernel_rfl) (fun c a d v w h => by cases d <;> exact h) ?_
    go_wp2_with (first
      | (refine plan_pure (v := _) (by rfl) (by rfl) (by rfl) (by intro _; go_simp; with_reducible rfl) ?_; simp only [List.setIfInBounds_toArray, List.set_cons_zero, List.set_cons_succ]; try go_bits) | (refine plan_read (v := _) (by rfl) (by rfl) (by rfl) (by go_simp; with_reducible rfl) ?_; simp only [List.setIfInBounds_toArray, List.set_cons_zero, List.set_cons_succ]; try go_bits) | (refine plan_readB (v := _) (by rfl) (by rfl) (by rfl) (by intro _ hag; unfold Agree at hag; go_simp; with_reducible rfl) ?_; simp only [List.setIfInBounds_toArray, List.set_cons_zero, List.set_cons_succ]; try go_bits) | (refine plan_skip0 (by rfl) (by rfl) (by rfl) ?_; simp only [List.setIfInBounds_toArray, List.set_cons_zero, List.set_cons_succ]; try go_bits) | (refine plan_skip1 (by rfl) (by rfl) (by rfl) ?_; simp only [List.setIfInBounds_toArray, List.set_cons_zero, List.set_cons_succ]; try go_bits) | (refine plan_skip2 (by rfl) (by rfl) (by rfl) ?_; simp only [List.setIfInBounds_toArray, List.set_cons_zero, List.set_cons_succ]; try go_bits) | (refine plan_any (by rfl) ?_) | (refine plan_keep (by rfl) ?_) | (refine plan_nil ?_) | (with_reducible refine And.intro (by first | assumption | exact Agree.refl _ _ | exact agree_drew _ _ | exact agree_alloc _ (by intro k hk; subst hk; first | omega | (simp; omega))) ?_) | (unfold Act.put; simp only [List.setIfInBounds_toArray, List.set_cons_zero, List.set_cons_succ])
      | (at_builtin; refine wpList_app_room rfl _ _ rfl elemInt (by rfl) ho (by rfl) hs (by omega) ?_; intro w1 h1 h2 h3)
      | (refine wpList_clear_spare rfl _ rfl elemInt h1 (by rfl) (by omega) (by omega) ?_; intro w2 h4 h5 h6))
    go_ret
    refine ⟨by simp, by rw [Nat.sub_self]; exact h4, ?_, by rw [h6, h3]; rfl⟩
    exact ((Only.refl (fun k => k = g) w).drew.trans h2 (fun _ _ h => h)).trans h5 (fun _ _ h => h)
  · have hs : Sl w.drew (fun _ => True) 1 (.slice (some ⟨g, off + j, none⟩) (n - j) (cap - j)) (n - j) (cs.drop j) := by
      refine ⟨by rw [List.length_drop]; omega, h.2.1.drop _, .inr ?_⟩
      obtain ⟨g', off', cap', hv, h1, h2, h3, h4, h5⟩ := hsl.place (by omega)
      cases hv
      refine ⟨g, off + j, cap - j, rfl, by omega, by unfold maxLen; omega, trivial, h4, fun q hq => ?_⟩
      rw [List.length_drop] at hq
      rw [Nat.add_assoc]
      show w.cell? _ = _
      rw [h5 (j + q) (by omega), List.getElem?_drop]
    have HL := Lib.hid hlen
    clear h hsl hlen
    go_enter Try.func51, Try.ntmps51
    go_wp2
    refine wp_region_lit_plan [] [(0, 0), (1, 0), (2, 0), (3, 0), (4, 0), (5, 0), (6, 4), (7, 0)] (fun _ => False) (by kernel_rfl) (by kernel_rfl) (fun c a d v w h => by cases d <;> exact h) ?_
    go_wp2_with (first
      | (refine plan_pure (v := _) (by rfl) (by rfl) (by rfl) (by intro _; go_simp; with_reducible rfl) ?_; simp only [List.setIfInBounds_toArray, List.set_cons_zero, List.set_cons_succ]; try go_bits) | (refine plan_read (v := _) (by rfl) (by rfl) (by rfl) (by go_simp; with_reducible rfl) ?_; simp only [List.setIfInBounds_toArray, List.set_cons_zero, List.set_cons_succ]; try go_bits) | (refine plan_readB (v := _) (by rfl) (by rfl) (by rfl) (by intro _ hag; unfold Agree at hag; go_simp; with_reducible rfl) ?_; simp only [List.setIfInBounds_toArray, List.set_cons_zero, List.set_cons_succ]; try go_bits) | (refine plan_skip0 (by rfl) (by rfl) (by rfl) ?_; simp only [List.setIfInBounds_toArray, List.set_cons_zero, List.set_cons_succ]; try go_bits) | (refine plan_skip1 (by rfl) (by rfl) (by rfl) ?_; simp only [List.setIfInBounds_toArray, List.set_cons_zero, List.set_cons_succ]; try go_bits) | (refine plan_skip2 (by rfl) (by rfl) (by rfl) ?_; simp only [List.setIfInBounds_toArray, List.set_cons_zero, List.set_cons_succ]; try go_bits) | (refine plan_any (by rfl) ?_) | (refine plan_keep (by rfl) ?_) | (refine plan_nil ?_) | (with_reducible refine And.intro (by first | assumption | exact Agree.refl _ _ | exact agree_drew _ _ | exact agree_alloc _ (by intro k hk; subst hk; first | omega | (simp; omega))) ?_) | (unfold Act.put; simp only [List.setIfInBounds_toArray, List.set_cons_zero, List.set_cons_succ])
      | (at_builtin; refine wpList_app_room rfl _ _ rfl elemInt (by rfl) ho (by rfl) hs (by omega) ?_; intro w1 h1 h2 h3)
      | (refine wpList_clear_spare rfl _ rfl elemInt h1 (by rfl) (by omega) (by omega) ?_; intro w2 h4 h5 h6))
    go_ret
    refine ⟨rfl, h4, ?_, by rw [h6, h3]; rfl⟩
    exact ((Only.refl (fun k => k = g) w).drew.trans h2 (fun _ _ h => h)).trans h5 (fun _ _ h => h)
end Go.Proofs.Ytdoidpiomonagaa
