/- Rows cloned: slices.Clone on values. -/
import Derived.Test.YtdhdphmehjkbnaaStO
namespace Go.Proofs.Ytdhdphmehjkbnaa
open Go.RowKit Go.Afx

theorem elemValLn : Elem Try.prog 48 56 3 32 (.agg #[.int .i64 0, .int .i64 0, .string ⟨#[]⟩]) :=
  ⟨Try.underlying48, by kernel_rfl, rfl, by omega, by intro u hu; simp [Value.cells] at hu; rcases hu with rfl | rfl | rfl <;> rfl⟩

@[go_sem] theorem eqlNilValLn (w : World) (a : Option Addr) (n c : Nat) : (binOp .eql 48 (.slice a n c) (.slice none 0 0)).run Try.prog w = .ok (.bool a.isNone) w := Lib.run_eql_slice_nil w _ _ a n c 0 0 Try.underlying48
set_option maxRecDepth 100000 in
theorem clone_val (w : World) (B : Nat → Prop) (v : Value) (n : Nat) (cs : List Value) (h : Sl w B 3 v n cs) (hn : n ≤ 1000000000) :
    Calls Try.prog 102 #[v] w fun e w' => ∃ v', e = .returned v' ∧ Own w' 56 3 v' n cs ∧ Below w.heap.size w w' ∧ (∀ k, v'.ownBlock = some k → w.heap.size ≤ k) := by
  obtain ⟨p, cap, rfl, _, _⟩ := h.form
  cases p with
  | none =>
    have hn0 : n = 0 := by
      rcases h.2.2 with ⟨_, _, _, h0, _⟩ | ⟨_, _, _, h0, _⟩
      · exact h0
      · cases h0
    subst hn0
    have hc : cs = [] := List.eq_nil_of_length_eq_zero (by simpa using h.1)
    subst hc
    go_enter Try.func102, Try.ntmps102
    go_wp2
    go_ret
    exact ⟨_, rfl, Own.nil _ _ _, Below.refl _ _, by simp [Value.ownBlock]⟩
  | some a =>
    have hs := h.alloc (.cells #[] 56)
    have ho : Own (w.alloc (.cells #[] 56)) 56 3 (.slice (some ⟨w.heap.size, 0, none⟩) 0 0) 0 [] := Own.made w 56 3 [] [] 0 0 rfl Ones.nil (Nat.le_refl _) (by simp [maxLen]) (by simp)
    clear h
    go_enter Try.func102, Try.ntmps102
    go_wp2_with (at_builtin; refine wpList_app rfl _ _ rfl elemValLn (by rfl) ho (by rfl) hs (by unfold maxLen; omega) (by omega) ?_; intro v' w' h1 h2 h3 _ _)
    go_ret
    have hb : Below w.heap.size w w' := (((Below.refl w.heap.size w).alloc (Nat.le_refl _) _).trans (h2.below (B := w.heap.size) (by simp) (fun i hi => by have : w.heap.size = i := (by simpa [Value.ownBlock] using hi); omega)))
    refine ⟨v', rfl, by simpa using h1, hb, fun k hk => ?_⟩
    rw [hk] at h3
    have h7 : k = w.heap.size ∨ k = w.heap.size + 1 := by simpa [Value.ownBlock] using h3
    omega
end Go.Proofs.Ytdhdphmehjkbnaa
