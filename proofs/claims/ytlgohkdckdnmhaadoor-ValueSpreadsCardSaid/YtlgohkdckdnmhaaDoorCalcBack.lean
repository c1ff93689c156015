/- The law CalcBack: what the walk shows. -/
import Derived.Test.YtlgohkdckdnmhaaDoorCalcI
import Derived.Test.YtlgohkdckdnmhaaDoorCalcG
namespace Go.Proofs.YtlgohkdckdnmhaaDoor
open Go.RowKit Go.Afx

theorem dig10_val (u : Nat) : valN (dig10 u) = u := by
  induction u using Nat.strongRecOn with
  | ind u ih =>
    rcases Nat.eq_zero_or_pos u with h | h
    · subst h; rw [dig10_zero]; rfl
    · rw [dig10_pos u h]
      unfold valN
      rw [List.foldl_append]
      have := ih (u / 10) (Nat.div_lt_self h (by omega))
      unfold valN at this
      rw [this, List.foldl_cons, List.foldl_nil, digit_toNat]
      omega
theorem dig10_digs (u : Nat) : ∀ c ∈ dig10 u, dig c := by
  induction u using Nat.strongRecOn with
  | ind u ih =>
    rcases Nat.eq_zero_or_pos u with h | h
    · subst h; rw [dig10_zero]; simp
    · rw [dig10_pos u h]
      intro c hc
      rcases List.mem_append.1 hc with hc | hc
      · exact ih (u / 10) (Nat.div_lt_self h (by omega)) c hc
      · rw [List.mem_singleton.1 hc]
        unfold dig
        rw [digit_toNat]
        omega
theorem dig10_head (u : Nat) (h : 0 < u) : ∃ c t, dig10 u = c :: t ∧ c ≠ 48 := by
  induction u using Nat.strongRecOn with
  | ind u ih =>
    rw [dig10_pos u h]
    rcases Nat.eq_zero_or_pos (u / 10) with h2 | h2
    · rw [h2, dig10_zero]
      refine ⟨_, [], rfl, ?_⟩
      intro h3
      have := digit_toNat u
      rw [h3] at this
      have h4 : (48 : UInt8).toNat = 48 := rfl
      omega
    · obtain ⟨c, t, h3, h4⟩ := ih (u / 10) (Nat.div_lt_self h (by omega)) h2
      exact ⟨c, t ++ _, by rw [h3]; rfl, h4⟩
theorem dig10_len (k : Nat) : ∀ u, u < 10 ^ k → (dig10 u).length ≤ k := by
  induction k with
  | zero => intro u hu; have : u = 0 := by simpa using hu
            subst this; rw [dig10_zero]; simp
  | succ k ih =>
    intro u hu
    rcases Nat.eq_zero_or_pos u with h | h
    · subst h; rw [dig10_zero]; simp
    · rw [dig10_pos u h, List.length_append]
      have := ih (u / 10) (Nat.div_lt_of_lt_mul (by rw [Nat.pow_succ] at hu; omega))
      simp
      exact this

theorem right_dig10 (ng : Bool) (u : Nat) (h : 0 < u) : right ng (dig10 u) := by
  obtain ⟨c, t, h1, h2⟩ := dig10_head u h
  refine ⟨?_, dig10_digs u⟩
  rw [h1]
  simp [headOk, h2]

theorem prs_print (n : Int) (hn : fits n) : prsN (printL n) = n ∧ prsE (printL n) = 0 ∧ (printL n).length ≤ 1000 := by
  have hf : shortN n = n ∧ shortE n = 0 := by unfold shortN shortE; rw [if_pos hn, if_pos hn]; exact ⟨rfl, rfl⟩
  have hlen := dig10_len 19 n.natAbs (by unfold fits at hn; omega)
  unfold printL
  by_cases h0 : n = 0
  · subst h0; exact ⟨by rfl, by rfl, by decide⟩
  · rw [if_neg h0]
    by_cases hneg : n < 0
    · rw [if_pos hneg]
      have e : splitL (45 :: dig10 n.natAbs) = (dig10 n.natAbs, true) := rfl
      have hr := right_dig10 true n.natAbs (by omega)
      have hz : sgn true (n.natAbs : Int) = n := by unfold sgn; simp; omega
      unfold prsN prsE numN numE
      simp only [e]
      rw [if_pos hr, if_pos hr, dig10_val, hz]
      exact ⟨hf.1, hf.2, by rw [List.length_cons]; omega⟩
    · rw [if_neg hneg]
      have hr := right_dig10 false n.natAbs (by omega)
      obtain ⟨c, t, h1, h2⟩ := dig10_head n.natAbs (by omega)
      have hd := dig10_digs n.natAbs c (by rw [h1]; simp)
      have h45 : c ≠ 45 := by intro h; subst h; unfold dig at hd; exact absurd hd (by decide)
      have e : splitL (dig10 n.natAbs) = (dig10 n.natAbs, false) := by rw [h1]; simp [splitL, h45]
      have hz : sgn false (n.natAbs : Int) = n := by unfold sgn; simp; omega
      unfold prsN prsE numN numE
      simp only [e]
      rw [if_pos hr, if_pos hr, dig10_val, hz]
      exact ⟨hf.1, hf.2, by omega⟩

end Go.Proofs.YtlgohkdckdnmhaaDoor
