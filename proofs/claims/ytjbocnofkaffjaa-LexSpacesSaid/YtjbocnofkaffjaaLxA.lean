/- Words: which bytes are a name's part. -/
import Derived.Test.YtjbocnofkaffjaaLxS
import Derived.Test.YtjbocnofkaffjaaProg
import Derived.Lib.Hide
namespace Go.Proofs.Ytjbocnofkaffjaa
open Go.RowKit Go.Afx

theorem lxpart_any (w : World) (c : UInt8) : Calls Try.prog 21 #[.int .u8 (c.toNat : Int)] w fun e w' => e = .returned (.bool (lxPart c)) ∧ w = w' := by
  have hc : (c.toNat : Int) < 256 := by have := c.toNat_lt; omega
  have hp : lxPart c = ((decide ((97 : Int) ≤ (c.toNat : Int)) && decide ((c.toNat : Int) ≤ 122)) || (decide ((65 : Int) ≤ (c.toNat : Int)) && decide ((c.toNat : Int) ≤ 90)) || (decide ((48 : Int) ≤ (c.toNat : Int)) && decide ((c.toNat : Int) ≤ 57)) || ((c.toNat : Int) == 95)) := by
    unfold lxPart
    rw [Bool.eq_iff_iff]; simp; omega
  rw [hp]
  have h0 : (0 : Int) ≤ (c.toNat : Int) := by omega
  generalize (c.toNat : Int) = n at *
  clear hp
  have hr : n < 48 ∨ (48 ≤ n ∧ n ≤ 57) ∨ (57 < n ∧ n < 65) ∨ (65 ≤ n ∧ n ≤ 90) ∨ (90 < n ∧ n < 95) ∨ n = 95 ∨ n = 96 ∨ (97 ≤ n ∧ n ≤ 122) ∨ 122 < n := by omega
  rcases hr with h | h | h | h | h | h | h | h | h
  all_goals
    first | (have d1 : decide ((97 : Int) ≤ n) = true := decide_eq_true (by omega); rw [d1]) | (have d1 : decide ((97 : Int) ≤ n) = false := decide_eq_false (by omega); rw [d1])
    first | (have d2 : decide (n ≤ 122) = true := decide_eq_true (by omega); rw [d2]) | (have d2 : decide (n ≤ 122) = false := decide_eq_false (by omega); rw [d2])
    first | (have d3 : decide ((65 : Int) ≤ n) = true := decide_eq_true (by omega); rw [d3]) | (have d3 : decide ((65 : Int) ≤ n) = false := decide_eq_false (by omega); rw [d3])
    first | (have d4 : decide (n ≤ 90) = true := decide_eq_true (by omega); rw [d4]) | (have d4 : decide (n ≤ 90) = false := decide_eq_false (by omega); rw [d4])
    first | (have d5 : decide ((48 : Int) ≤ n) = true := decide_eq_true (by omega); rw [d5]) | (have d5 : decide ((48 : Int) ≤ n) = false := decide_eq_false (by omega); rw [d5])
    first | (have d6 : decide (n ≤ 57) = true := decide_eq_true (by omega); rw [d6]) | (have d6 : decide (n ≤ 57) = false := decide_eq_false (by omega); rw [d6])
    first | (have d7 : (n == 95) = true := (by rw [beq_iff_eq]; omega); rw [d7]) | (have d7 : (n == 95) = false := beq_eq_false_iff_ne.2 (by omega); rw [d7])
    go_enter Try.func21, Try.ntmps21
    go_wp2
    go_ret
    exact ⟨rfl, rfl⟩
end Go.Proofs.Ytjbocnofkaffjaa
