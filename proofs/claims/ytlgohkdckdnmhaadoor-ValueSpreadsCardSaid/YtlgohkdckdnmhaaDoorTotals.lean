/- The law CalcTotals: what the walk shows. -/
import Derived.Test.YtlgohkdckdnmhaaDoorTotalsA
namespace Go.Proofs.YtlgohkdckdnmhaaDoor
open Go.RowKit Go.Afx

theorem boxes2t (w : World) (A C : List Value) (t u : TypeId) :
    Blk ((w.alloc (.cells A.toArray t)).alloc (.cells C.toArray u)) w.heap.size t A ∧
    Blk ((w.alloc (.cells A.toArray t)).alloc (.cells C.toArray u)) (w.heap.size + 1) u C ∧
    Below w.heap.size w ((w.alloc (.cells A.toArray t)).alloc (.cells C.toArray u)) ∧
    ((w.alloc (.cells A.toArray t)).alloc (.cells C.toArray u)).heap.size = w.heap.size + 2 := by
  have h1 := Blk.new w t A
  have h2 := Blk.new (w.alloc (.cells A.toArray t)) u C
  have e1 : (w.alloc (.cells A.toArray t)).heap.size = w.heap.size + 1 := by simp
  rw [e1] at h2
  refine ⟨h1.alloc _, h2, ?_, by simp⟩
  exact ((Below.refl _ _).alloc (Nat.le_refl _) _).alloc (by omega) _

theorem msum_range (minus : Bool) (l : List Int) (hf : ∀ x ∈ l, fits x) (hl : l.length ≤ 20) : -184467440737095516160 ≤ msum minus l ∧ msum minus l ≤ 184467440737095516160 := by
  have h := sum_range l hf
  unfold msum
  split <;> omega

theorem IsNum.drew {w : World} {B : Nat → Prop} {v : Value} {z : Int} (h : IsNum w B v z) : IsNum w.drew B v z := by
  obtain ⟨dv, h1, h2⟩ := h
  exact ⟨dv, h1, h2.drew⟩
theorem near_len {z : Int} {k : Int} (h1 : -184467440737095516160 * k ≤ z) (h2 : z ≤ 184467440737095516160 * k) (hk : k ≤ 31 := by omega) : (ld z.natAbs).length ≤ 5000 := by
  have e : (10 : Nat) ^ 30 = 1000000000000000000000000000000 := by decide
  have h := ld_len_le z.natAbs 30 (by rw [e]; omega)
  omega

end Go.Proofs.YtlgohkdckdnmhaaDoor
