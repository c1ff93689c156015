/- The document's numbers: told, Sum. -/
import Derived.Test.YtlgohkdckdnmhaaDoorBigF
namespace Go.Proofs.YtlgohkdckdnmhaaDoor
open Go.RowKit Go.Afx

/-- The sum, signed. -/
def msum (minus : Bool) (l : List Int) : Int := if minus then -l.sum else l.sum
theorem msum_next (minus : Bool) (l : List Int) (k : Nat) (h : k < l.length) : msum minus (l.take (k + 1)) = msum minus (l.take k) + (if minus then -l[k] else l[k]) := by
  unfold msum
  rw [sum_next l k h]
  cases minus <;> simp <;> omega
theorem msum_small (minus : Bool) (l : List Int) (hf : ∀ x ∈ l, fits x) (hl : l.length ≤ 1000) : (ld (msum minus l).natAbs).length ≤ 30 := by
  apply ld_len_le
  have h := sum_range l hf
  unfold msum
  have e : (10 : Nat) ^ 30 = 1000000000000000000000000000000 := by decide
  rw [e]
  split <;> omega
theorem fits_small {x : Int} (h : fits x) : (ld x.natAbs).length ≤ 30 := by
  have := ld_len_le x.natAbs 20 (by unfold fits at h; omega)
  omega
theorem IsNum.only {w w' : World} {S B : Nat → Prop} {v : Value} {z : Int} (h : IsNum w B v z) (ho : Only S w w') (hd : ∀ k, B k → ¬ S k) : IsNum w' B v z := by
  obtain ⟨dv, h1, h2⟩ := h
  exact ⟨dv, h1, h2.only ho hd⟩
/-- A new block beside: the number does not lie in it. -/
theorem IsNum.alloc' {w : World} {B B' : Nat → Prop} {v : Value} {z : Int} (h : IsNum w B v z) (o : Obj) (hB : ∀ k, B k → B' k) : IsNum (w.alloc o) (fun k => B' k ∧ k ≠ w.heap.size) v z := by
  obtain ⟨dv, h1, h2⟩ := h
  exact ⟨dv, h1, h2.mono (by simp) (fun k _ hk => heap_alloc_old w o hk) (fun k h3 h4 => ⟨hB k h3, by omega⟩)⟩
/-- A cell pair that holds a number. -/
theorem IsNum.parts {w : World} {B : Nat → Prop} {v : Value} {z : Int} (h : IsNum w B v z) : ∃ s p n c, v = .agg #[.bool s, .slice p n c] := by
  obtain ⟨s, x, p, c, rfl, _⟩ := h.open'
  exact ⟨s, p, _, c, rfl⟩

end Go.Proofs.YtlgohkdckdnmhaaDoor
