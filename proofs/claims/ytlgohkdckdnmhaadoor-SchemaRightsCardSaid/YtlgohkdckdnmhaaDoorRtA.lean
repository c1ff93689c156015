/- Clones of columns, indexes and places. -/
import Derived.Test.YtlgohkdckdnmhaaDoorSchB
import Derived.Test.YtlgohkdckdnmhaaDoorMemB
import Derived.Test.YtlgohkdckdnmhaaDoorSlices
namespace Go.Proofs.YtlgohkdckdnmhaaDoor
open Go.RowKit Go.Afx

theorem elemCol : Elem Tryd.prog 44 66 2 24 (.agg #[.string ⟨#[]⟩, .int .i64 0]) :=
  ⟨Tryd.underlying44, by kernel_rfl, rfl, by omega, by intro u hu; simp [Value.cells] at hu; rcases hu with rfl | rfl <;> rfl⟩
theorem elemIdx : Elem Tryd.prog 45 55 2 32 (.agg #[.slice none 0 0, .bool false]) :=
  ⟨Tryd.underlying45, by kernel_rfl, rfl, by omega, by intro u hu; simp [Value.cells] at hu; rcases hu with rfl | rfl <;> rfl⟩
@[go_sem] theorem eqlNilCol (w : World) (a : Option Addr) (n c : Nat) : (binOp .eql 44 (.slice a n c) (.slice none 0 0)).run Tryd.prog w = .ok (.bool a.isNone) w := Lib.run_eql_slice_nil w _ _ a n c 0 0 Tryd.underlying44
set_option maxRecDepth 100000 in
theorem clone_col (w : World) (B : Nat → Prop) (v : Value) (n : Nat) (cs : List Value) (h : Sl w B 2 v n cs) (hn : n ≤ 1000000000) :
    Calls Tryd.prog 80 #[v] w fun e w' => ∃ v', e = .returned v' ∧ Own w' 66 2 v' n cs ∧ Below w.heap.size w w' ∧ (∀ k, v'.ownBlock = some k → w.heap.size ≤ k) := by
  obtain ⟨p, cap, rfl, _, _⟩ := h.form
  cases p with
  | none =>
    have hn0 : n = 0 := by
      rcases h.2.2 with ⟨_, _, _, h0, _⟩ | ⟨_, _, _, h0, _⟩
      · exact h0
      · cases h0
    subst hn0
    have hc : cs = [] := List.eq_nil_of_length_eq_zero (by simpa using h.1)
    subst hc
    go_enter Tryd.func80, Tryd.ntmps80
    go_wp2
    go_ret
    exact ⟨_, rfl, Own.nil _ _ _, Below.refl _ _, by simp [Value.ownBlock]⟩
  | some a =>
    have hs := h.alloc (.cells #[] 66)
    have ho : Own (w.alloc (.cells #[] 66)) 66 2 (.slice (some ⟨w.heap.size, 0, none⟩) 0 0) 0 [] := Own.made w 66 2 [] [] 0 0 rfl Ones.nil (Nat.le_refl _) (by simp [maxLen]) (by simp)
    clear h
    go_enter Tryd.func80, Tryd.ntmps80
    go_wp2_with (at_builtin; refine wpList_app rfl _ _ rfl elemCol (by rfl) ho (by rfl) hs (by unfold maxLen; omega) (by omega) ?_; intro v' w' h1 h2 h3 _ _)
    go_ret
    have hb : Below w.heap.size w w' := (((Below.refl w.heap.size w).alloc (Nat.le_refl _) _).trans (h2.below (B := w.heap.size) (by simp) (fun i hi => by have : w.heap.size = i := (by simpa [Value.ownBlock] using hi); omega)))
    refine ⟨v', rfl, by simpa using h1, hb, fun k hk => ?_⟩
    rw [hk] at h3
    have h7 : k = w.heap.size ∨ k = w.heap.size + 1 := by simpa [Value.ownBlock] using h3
    omega
@[go_sem] theorem eqlNilIdx (w : World) (a : Option Addr) (n c : Nat) : (binOp .eql 45 (.slice a n c) (.slice none 0 0)).run Tryd.prog w = .ok (.bool a.isNone) w := Lib.run_eql_slice_nil w _ _ a n c 0 0 Tryd.underlying45
set_option maxRecDepth 100000 in
theorem clone_idx (w : World) (B : Nat → Prop) (v : Value) (n : Nat) (cs : List Value) (h : Sl w B 2 v n cs) (hn : n ≤ 1000000000) :
    Calls Tryd.prog 81 #[v] w fun e w' => ∃ v', e = .returned v' ∧ Own w' 55 2 v' n cs ∧ Below w.heap.size w w' ∧ (∀ k, v'.ownBlock = some k → w.heap.size ≤ k) := by
  obtain ⟨p, cap, rfl, _, _⟩ := h.form
  cases p with
  | none =>
    have hn0 : n = 0 := by
      rcases h.2.2 with ⟨_, _, _, h0, _⟩ | ⟨_, _, _, h0, _⟩
      · exact h0
      · cases h0
    subst hn0
    have hc : cs = [] := List.eq_nil_of_length_eq_zero (by simpa using h.1)
    subst hc
    go_enter Tryd.func81, Tryd.ntmps81
    go_wp2
    go_ret
    exact ⟨_, rfl, Own.nil _ _ _, Below.refl _ _, by simp [Value.ownBlock]⟩
  | some a =>
    have hs := h.alloc (.cells #[] 55)
    have ho : Own (w.alloc (.cells #[] 55)) 55 2 (.slice (some ⟨w.heap.size, 0, none⟩) 0 0) 0 [] := Own.made w 55 2 [] [] 0 0 rfl Ones.nil (Nat.le_refl _) (by simp [maxLen]) (by simp)
    clear h
    go_enter Tryd.func81, Tryd.ntmps81
    go_wp2_with (at_builtin; refine wpList_app rfl _ _ rfl elemIdx (by rfl) ho (by rfl) hs (by unfold maxLen; omega) (by omega) ?_; intro v' w' h1 h2 h3 _ _)
    go_ret
    have hb : Below w.heap.size w w' := (((Below.refl w.heap.size w).alloc (Nat.le_refl _) _).trans (h2.below (B := w.heap.size) (by simp) (fun i hi => by have : w.heap.size = i := (by simpa [Value.ownBlock] using hi); omega)))
    refine ⟨v', rfl, by simpa using h1, hb, fun k hk => ?_⟩
    rw [hk] at h3
    have h7 : k = w.heap.size ∨ k = w.heap.size + 1 := by simpa [Value.ownBlock] using h3
    omega
@[go_sem] theorem eqlNilInt (w : World) (a : Option Addr) (n c : Nat) : (binOp .eql 40 (.slice a n c) (.slice none 0 0)).run Tryd.prog w = .ok (.bool a.isNone) w := Lib.run_eql_slice_nil w _ _ a n c 0 0 Tryd.underlying40
end Go.Proofs.YtlgohkdckdnmhaaDoor
