/- Texts in memory; a list's next. -/
import Derived.Test.YtlgohkdckdnmhaaDoorMemB
import Derived.Test.YtlgohkdckdnmhaaDoorStr
import Derived.Test.YtlgohkdckdnmhaaDoorVal
namespace Go.Proofs.YtlgohkdckdnmhaaDoor
open Go.RowKit Go.Afx

theorem elemStr : Elem Tryd.prog 75 9 1 16 (.string ⟨#[]⟩) :=
  ⟨Tryd.underlying75, by kernel_rfl, rfl, by omega, by intro u hu; simp [Value.cells] at hu; subst hu; rfl⟩
/-- Texts, as cells. -/
def strC (l : List (List UInt8)) : List Value := l.map fun s => .string (bs s)
theorem strC_append (a b : List (List UInt8)) : strC (a ++ b) = strC a ++ strC b := by simp [strC]
theorem one_str (w : World) (s : List UInt8) : Sl (w.alloc (.cells #[.string (bs s)] 9)) (fun _ => True) 1 (.slice (some ⟨w.heap.size, 0, none⟩) 1 1) 1 (strC [s]) := by
  have := Own.made w 9 1 (strC [s]) [] 1 1 rfl (by intro u hu; simp [strC] at hu; subst hu; rfl) (Nat.le_refl _) (by simp [maxLen]) (by simp [strC])
  exact this.sl (fun _ _ => trivial)
theorem map_next {α β : Type} (f : α → β) (l : List α) (k : Nat) (h : k < l.length) : (l.take (k + 1)).map f = (l.take k).map f ++ [f l[k]] := by
  rw [← List.take_append_getElem h, List.map_append]; rfl
end Go.Proofs.YtlgohkdckdnmhaaDoor
