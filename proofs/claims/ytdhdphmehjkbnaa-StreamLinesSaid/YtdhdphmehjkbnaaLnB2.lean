/- Slices of one's own: cut at the front. -/
import Derived.Test.YtdhdphmehjkbnaaLnB
namespace Go.Afx
open Go Go.RowKit
theorem Own.behind {w : World} {e : TypeId} {sz g off n cap : Nat} {cs : List Value} (h : Own w e sz (.slice (some ⟨g, off, none⟩) (n + 1) cap) (n + 1) cs) :
    Own w e sz (.slice (some ⟨g, off + sz, none⟩) n (cap - 1)) n (cs.drop sz) := by
  obtain ⟨h1, h2, h3⟩ := h
  rcases h3 with ⟨h0, _⟩ | ⟨g', off', cap', cur, hv, hb, a1, a2, a3, a4⟩
  · cases h0
  · cases hv
    have e1 : (n + 1) * sz = n * sz + sz := by rw [Nat.add_mul, Nat.one_mul]
    obtain ⟨c, rfl⟩ : ∃ c, cap = c + 1 := ⟨cap - 1, by omega⟩
    have e2 : (c + 1) * sz = c * sz + sz := by rw [Nat.add_mul, Nat.one_mul]
    refine ⟨by rw [List.length_drop, h1]; omega, h2.drop _, .inr ⟨g, off + sz, c + 1 - 1, cur, rfl, hb, by omega, by omega, ?_, ?_⟩⟩
    · rw [Nat.add_sub_cancel]; omega
    · rw [← a4, List.drop_take, List.drop_drop]
      congr 1
      omega
theorem Own.behind_none {w : World} {e : TypeId} {sz g off n cap : Nat} {cs : List Value} (h : Own w e sz (.slice (some ⟨g, off, none⟩) n cap) n cs) :
    Own w e sz (.slice (some ⟨g, off, none⟩) 0 0) 0 [] := by
  obtain ⟨h1, h2, h3⟩ := h
  rcases h3 with ⟨h0, _⟩ | ⟨g', off', cap', cur, hv, hb, a1, a2, a3, a4⟩
  · cases h0
  · cases hv
    exact ⟨by simp, Ones.nil, .inr ⟨g, off, 0, cur, rfl, hb, Nat.le_refl _, Nat.zero_le _, by omega, by simp⟩⟩
theorem own_form {w : World} {e : TypeId} {sz : Nat} {v : Value} {n : Nat} {cs : List Value} (h : Own w e sz v n cs) : ∃ p cap, v = .slice p n cap ∧ n ≤ cap ∧ cap ≤ 9223372036854775807 :=
  (h.sl (B := fun _ => True) (fun _ _ => trivial)).form
end Go.Afx
namespace Go.Proofs.Ytdhdphmehjkbnaa
open Go.RowKit Go.Afx
theorem plan_skip4 {P : Program} {B : Nat → Prop} {Q : Exit → Act → World → Prop} {i : Nat} {rest : List (Nat × Nat)} {a : Act} {w : World} {o : Oper} {l : List Oper} {d : Tmp} (ho : l[i]? = some o) (hd : o.dst = some d) (hw : Region.wanted o (yielded l.toArray a.tmps) = false)
    (h : wpPlan P l.toArray B Q rest { a with tmps := a.tmps.setIfInBounds d undef } w) : wpPlan P l.toArray B Q ((i, 4) :: rest) a w := by
  have hy : Yields P l.toArray o undef a := .inr ⟨hw, rfl⟩
  have hr : wpPlan P l.toArray B Q rest (a.put o.dst undef) w := by rw [hd]; exact h
  exact hy.wpOp (by simpa using ho) hr
theorem agree_bdrew {w w' : World} {n : Nat} (h : Below w.heap.size w w') (hn : n < w.heap.size) : Agree (fun q => q = n) w.drew w' := fun b o hb => by
  have := agree_below h hn b o hb
  exact this

end Go.Proofs.Ytdhdphmehjkbnaa
