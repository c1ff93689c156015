/- The document's numbers: Product; the law CalcSums. -/
import Derived.Test.YtlgohkdckdnmhaaDoorBigH
import Derived.Test.YtlgohkdckdnmhaaDoorTotals
namespace Go.Proofs.YtlgohkdckdnmhaaDoor
open Go.RowKit Go.Afx

theorem prod_small (l : List Int) (hf : ∀ x ∈ l, fits x) : ∀ k, (prodI (l.take k)).natAbs ≤ 10 ^ (19 * k)
  | 0 => by simp [prodI]
  | k + 1 => by
    have ih := prod_small l hf k
    by_cases h : k < l.length
    · rw [prodI_next l k h, Int.natAbs_mul, Nat.mul_succ, Nat.pow_add]
      exact Nat.mul_le_mul ih (by have := hf l[k] (List.getElem_mem h); unfold fits at this; omega)
    · rw [List.take_of_length_le (by omega)]
      rw [List.take_of_length_le (by omega)] at ih
      exact Nat.le_trans ih (Nat.pow_le_pow_right (by omega) (by omega))
theorem prod_len (l : List Int) (hf : ∀ x ∈ l, fits x) (k : Nat) (hk : k ≤ 100) : (ld (prodI (l.take k)).natAbs).length ≤ 2000 := by
  have h := prod_small l hf k
  have h2 := ld_len_le (prodI (l.take k)).natAbs (19 * k + 1) (by rw [Nat.pow_succ]; have : 0 < 10 ^ (19 * k) := Nat.pow_pos (by omega); omega)
  omega

end Go.Proofs.YtlgohkdckdnmhaaDoor
