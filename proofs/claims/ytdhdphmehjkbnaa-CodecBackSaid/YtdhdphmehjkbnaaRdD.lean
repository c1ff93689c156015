/- The reader: numbers (the plain part). -/
import Derived.Test.YtdhdphmehjkbnaaRdC
import Derived.Laws.Bits64b
namespace Go.Proofs.Ytdhdphmehjkbnaa
open Go.RowKit Go.Afx

/-- The number of some bytes, the highest first. -/
def ofBytes (l : List UInt8) : Nat := l.foldl (fun n c => n * 256 + c.toNat) 0
theorem ofBytes_next (l : List UInt8) (k : Nat) (h : k < l.length) : ofBytes (l.take (k + 1)) = ofBytes (l.take k) * 256 + l[k].toNat := by
  unfold ofBytes
  rw [← List.take_append_getElem h, List.foldl_append]; rfl
theorem ofBytes_lt (l : List UInt8) : ∀ k, ofBytes (l.take k) < 256 ^ k
  | 0 => by simp [ofBytes]
  | k + 1 => by
    have ih := ofBytes_lt l k
    by_cases h : k < l.length
    · rw [ofBytes_next l k h, Nat.pow_succ]
      have := l[k].toNat_lt
      omega
    · rw [List.take_of_length_le (by omega)]
      rw [List.take_of_length_le (by omega)] at ih
      exact Nat.lt_of_lt_of_le ih (Nat.pow_le_pow_right (by omega) (by omega))
theorem or_byte (n c : Nat) (hn : n < 72057594037927936) (hc : c < 256) : bits .or .u64 (IntKind.u64.wrap ((n : Int) * 256)) (c : Int) = ((n * 256 + c : Nat) : Int) := by
  have e1 : IntKind.u64.wrap ((n : Int) * 256) = ((n * 256 : Nat) : Int) := by rw [IntKind.wrap_u64]; omega
  rw [e1, bits_or_u64_nat _ _ (by omega) (by omega)]
  have h2 : n * 256 = n <<< 8 := by rw [Nat.shiftLeft_eq]
  rw [h2, ← Nat.shiftLeft_add_eq_or_of_lt (show c < 2 ^ 8 from hc)]

/-- A number, and the reader behind it. -/
def rNum (bad : Bool) (l : List UInt8) : Nat × Bool × List UInt8 :=
  let r := rByte bad l
  let size := r.1.toNat
  if r.2.1 then (0, true, []) else if 8 < size ∨ r.2.2.length < size then (0, true, []) else if (r.2.2.take size).head? = some 0 then (0, true, []) else (ofBytes (r.2.2.take size), false, r.2.2.drop size)
end Go.Proofs.Ytdhdphmehjkbnaa
