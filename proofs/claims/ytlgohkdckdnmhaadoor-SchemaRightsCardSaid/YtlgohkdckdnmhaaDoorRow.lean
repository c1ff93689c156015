/- Rows of values: what append takes. -/
import Derived.Test.YtlgohkdckdnmhaaDoorVal
import Derived.Test.YtlgohkdckdnmhaaDoorMemB
namespace Go.Proofs.YtlgohkdckdnmhaaDoor
open Go.RowKit Go.Afx

theorem elemAV : Elem Tryd.prog 22 27 3 32 (.agg #[.int .i64 0, .int .i64 0, .string ⟨#[]⟩]) :=
  ⟨Tryd.underlying22, by kernel_rfl, rfl, by omega, by intro u hu; simp [Value.cells] at hu; rcases hu with rfl | rfl | rfl <;> rfl⟩
theorem rowCells_append (a b : List AV) : rowCells (a ++ b) = rowCells a ++ rowCells b := by simp [rowCells]
theorem own_form3 {w : World} {e : TypeId} {sz : Nat} {v : Value} {n : Nat} {cs : List Value} (h : Own w e sz v n cs) : ∃ p cap, v = .slice p n cap ∧ n ≤ cap ∧ cap ≤ 9223372036854775807 :=
  (h.sl (B := fun _ => True) fun _ _ => trivial).form
theorem one_av (w : World) (v : AV) : Sl (w.alloc (.cells #[.int .i64 v.kind, .int .i64 v.n, .string v.s] 27)) (fun _ => True) 3 (.slice (some ⟨w.heap.size, 0, none⟩) 1 1) 1 (rowCells [v]) := by
  have := Own.made w 27 3 (rowCells [v]) [] 1 1 rfl (by intro u hu; simp [rowCells, AV.cells] at hu; rcases hu with rfl | rfl | rfl <;> rfl) (Nat.le_refl _) (by simp [maxLen]) (by simp [rowCells, AV.cells])
  exact this.sl (fun _ _ => trivial)

end Go.Proofs.YtlgohkdckdnmhaaDoor
