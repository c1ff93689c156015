/- calc: the document's examples; the least and the greatest; sizes, products. -/
import Derived.Test.YtlgohkdckdnmhaaDoorCalcD
import Derived.Lib.Mul64
import Derived.Laws.Bits64b
namespace Go.Proofs.YtlgohkdckdnmhaaDoor
open Go.RowKit Go.Afx

@[go_sem] theorem ite_lt_max (x y : Int) : (if x < y then y else x) = max x y := by omega
@[go_sem] theorem ite_lt_min (x y : Int) : (if x < y then x else y) = min x y := by omega

def minI (a : Int) (l : List Int) : Int := l.foldl min a
def maxI (a : Int) (l : List Int) : Int := l.foldl max a
theorem minI_next (a : Int) (l : List Int) (i : Nat) (h : i < l.length) : minI a (l.take (i + 1)) = min (minI a (l.take i)) l[i] := by
  unfold minI
  rw [← List.take_append_getElem h, List.foldl_append]; rfl
theorem maxI_next (a : Int) (l : List Int) (i : Nat) (h : i < l.length) : maxI a (l.take (i + 1)) = max (maxI a (l.take i)) l[i] := by
  unfold maxI
  rw [← List.take_append_getElem h, List.foldl_append]; rfl

theorem size_any (w : World) (a : Int) (ha : fits a) : Calls Tryd.prog 102 #[.int .i64 a] w fun e w' => e = .returned (.int .u64 (a.natAbs : Int)) ∧ Below w.heap.size w w' := by
  unfold fits at ha
  by_cases h : a < 0
  · have h2 : decide (a < 0) = true := decide_eq_true h
    have e1 : IntKind.u64.wrap (-IntKind.u64.wrap a) = (a.natAbs : Int) := by rw [IntKind.wrap_u64, IntKind.wrap_u64]; omega
    generalize (a.natAbs : Int) = z at *
    go_enter Tryd.func102, Tryd.ntmps102
    go_wp2
    go_ret
    exact ⟨rfl, Below.refl _ _⟩
  · have h2 : decide (a < 0) = false := decide_eq_false h
    have e1 : (a.natAbs : Int) = a := by omega
    rw [e1]
    go_enter Tryd.func102, Tryd.ntmps102
    go_wp2
    go_ret
    exact ⟨rfl, Below.refl _ _⟩

def sgn (neg : Bool) (n : Int) : Int := if neg then -n else n
theorem signed_any (w : World) (neg : Bool) (n : Int) (h0 : 0 ≤ n) (h1 : n < 18446744073709551616) :
    Calls Tryd.prog 101 #[.bool neg, .int .u64 n] w fun e w' => e = .returned (.tuple #[.int .i64 (shortN (sgn neg n)), .int .i64 (shortE (sgn neg n))]) ∧ Below w.heap.size w w' := by
  have hf : (fits (sgn neg n) ∧ shortN (sgn neg n) = sgn neg n ∧ shortE (sgn neg n) = 0) ∨ (¬ fits (sgn neg n) ∧ shortN (sgn neg n) = 0 ∧ shortE (sgn neg n) = 2) := by
    unfold shortN shortE; split
    · exact .inl ⟨by assumption, rfl, rfl⟩
    · exact .inr ⟨by assumption, rfl, rfl⟩
  rcases hf with ⟨h2, e1, e2⟩ | ⟨h2, e1, e2⟩
  · rw [e1, e2]
    clear e1 e2
    cases neg
    · simp only [sgn, fits, Bool.false_eq_true, if_false] at h2 ⊢
      go_enter Tryd.func101, Tryd.ntmps101
      go_wp2
      go_ret2
      exact ⟨rfl, Below.refl _ _⟩
    · simp only [sgn, fits, if_true] at h2 ⊢
      have h3 : n ≤ 9223372036854775808 := by omega
      go_enter Tryd.func101, Tryd.ntmps101
      go_wp2
      rw [show wrap64 (-wrap64 n) = -n by unfold wrap64; omega]
      go_ret2
      exact ⟨rfl, Below.refl _ _⟩
  · rw [e1, e2]
    clear e1 e2
    cases neg
    · simp only [sgn, fits, Bool.false_eq_true, if_false] at h2
      have h3 : 9223372036854775807 < n := by omega
      clear h2
      go_enter Tryd.func101, Tryd.ntmps101
      go_wp2
      go_ret2
      exact ⟨rfl, Below.refl _ _⟩
    · simp only [sgn, fits, if_true] at h2
      have h3 : 9223372036854775808 < n := by omega
      clear h2
      go_enter Tryd.func101, Tryd.ntmps101
      go_wp2
      go_ret2
      exact ⟨rfl, Below.refl _ _⟩

end Go.Proofs.YtlgohkdckdnmhaaDoor
