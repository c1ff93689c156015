/- The row of a key: what the walk of the document's Unkey leans on. -/
import Derived.Test.YtlgohkdckdnmhaaDoorUkC
namespace Go.Proofs.YtlgohkdckdnmhaaDoor
open Go.RowKit Go.Afx

theorem mul_low (u c : Nat) (hu : u < 72057594037927936) (hc : c < 256) : ((256 * (u : Int)) % 18446744073709551616 + (c : Int)) % 18446744073709551616 = ((u * 256 + c : Nat) : Int) := by omega
theorem scan_next (l : List UInt8) (k : Nat) (h : k + 1 < l.length) : scanF (l.drop k) = if l[k] = 0 ∧ l[k + 1] = 1 then [] else if l[k] = 0 then l[k] :: scanF (l.drop (k + 2)) else l[k] :: scanF (l.drop (k + 1)) := by
  rw [List.drop_eq_getElem_cons (show k < l.length by omega), List.drop_eq_getElem_cons h, scanF]
theorem scan_last (l : List UInt8) (k : Nat) (h : l.length ≤ k + 1) : scanF (l.drop k) = [] := by
  rcases Nat.lt_or_ge k l.length with h2 | h2
  · rw [List.drop_eq_getElem_cons h2, List.drop_eq_nil_of_le h]; rfl
  · rw [List.drop_eq_nil_of_le h2]; rfl
def NextOf (tot : Option (List AV)) (acc : List AV) (f : Nat) (p : Option (AV × List UInt8)) : Prop :=
  ((match p with
    | none => none
    | some (v, r) => (unkF f r).map (v :: ·)).map (acc ++ ·)) = tot
theorem NextOf.none' {tot : Option (List AV)} {acc : List AV} {f : Nat} (h : NextOf tot acc f none) : tot = none := Eq.symm h
theorem NextOf.some' {tot : Option (List AV)} {acc : List AV} {f : Nat} {v : AV} {r : List UInt8} (h : NextOf tot acc f (some (v, r))) : (unkF f r).map ((acc ++ [v]) ++ ·) = tot := by
  unfold NextOf at h
  simp only at h
  rw [← h]
  cases unkF f r <;> simp
end Go.Proofs.YtlgohkdckdnmhaaDoor
