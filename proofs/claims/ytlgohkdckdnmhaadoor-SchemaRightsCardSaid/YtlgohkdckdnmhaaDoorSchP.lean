/- Places that are all unlike are no more than there are columns (plain). -/
import Derived.Test.YtlgohkdckdnmhaaDoorSchE
namespace Go.Proofs.YtlgohkdckdnmhaaDoor
open Go.RowKit Go.Afx

theorem unlikeGo_spec {α : Type} (same : α → α → Bool) : ∀ (t seen : List α), unlikeGo same seen t = true → (∀ i j (hi : i < t.length), j < i → ∀ hj : j < t.length, same t[i] t[j] = false) ∧ ∀ i (hi : i < t.length), ∀ b ∈ seen, same t[i] b = false
  | [], _, _ => ⟨fun i j hi => absurd hi (Nat.not_lt_zero _), fun i hi => absurd hi (Nat.not_lt_zero _)⟩
  | a :: t, seen, h => by
    unfold unlikeGo at h
    rw [Bool.and_eq_true, List.all_eq_true] at h
    obtain ⟨h1, h2⟩ := unlikeGo_spec same t (seen ++ [a]) h.2
    refine ⟨fun i j hi hji hj => ?_, fun i hi b hb => ?_⟩
    · cases i with
      | zero => omega
      | succ i =>
        cases j with
        | zero => exact h2 i (by simpa using hi) a (by simp)
        | succ j => exact h1 i j (by simpa using hi) (by omega) (by simpa using hj)
    · cases i with
      | zero => have := h.1 b hb; simpa using this
      | succ i => exact h2 i (by simpa using hi) b (List.mem_append_left _ hb)
/-- Unlike numbers from 0 on, below n, are no more than n. -/
theorem pigeon : ∀ (n : Nat) (l : List Int), (∀ c ∈ l, 0 ≤ c ∧ c < (n : Int)) → (∀ i j (hi : i < l.length) (hj : j < l.length), j < i → l[i] ≠ l[j]) → l.length ≤ n := by
  intro n
  induction n with
  | zero =>
    intro l h _
    cases l with
    | nil => simp
    | cons a t => have := h a (by simp); omega
  | succ n ih =>
    intro l h hd
    have hp : l.Nodup := by
      rw [List.nodup_iff_pairwise_ne]
      rw [List.pairwise_iff_getElem]
      intro i j hi hj hij
      exact fun e => hd j i hj hi hij e.symm
    have hl := ih (l.filter (fun c => c ≠ (n : Int))) (fun c hc => by
      rw [List.mem_filter] at hc
      have h1 := h c hc.1
      have h2 : c ≠ (n : Int) := by simpa using hc.2
      omega) (by
      have hq := List.Pairwise.filter (fun c => decide (c ≠ (n : Int))) (List.nodup_iff_pairwise_ne.1 hp)
      rw [List.pairwise_iff_getElem] at hq
      intro i j hi hj hji
      exact fun e => hq j i hj hi hji e.symm)
    have hcount : l.length ≤ (l.filter (fun c => c ≠ (n : Int))).length + 1 := by
      clear ih hl h hd
      induction l with
      | nil => simp
      | cons a t ih2 =>
        rw [List.nodup_cons] at hp
        by_cases ha : a = (n : Int)
        · have : t.filter (fun c => decide (c ≠ (n : Int))) = t := by
            rw [List.filter_eq_self]
            intro x hx
            have : x ≠ a := fun e => hp.1 (e ▸ hx)
            simpa [← ha] using this
          rw [List.filter_cons_of_neg (by simp [ha]), this, List.length_cons]
          omega
        · rw [List.filter_cons_of_pos (by simp [ha]), List.length_cons, List.length_cons]
          have := ih2 hp.2
          omega
    omega
theorem places_len (n : Nat) (x : IdxV) (h : placesB n x = true) : 1 ≤ x.l.length ∧ x.l.length ≤ n := by
  unfold placesB at h
  simp only [Bool.and_eq_true, List.all_eq_true, decide_eq_true_eq] at h
  obtain ⟨h1, h2, h3⟩ := h
  refine ⟨h2, pigeon n x.l (fun c hc => ?_) (fun i j hi hj hji => ?_)⟩
  · have := h1 c hc
    unfold placeOk at this
    simp at this
    omega
  · have := (unlikeGo_spec sameInt x.l [] h3).1 i j hi hji hj
    unfold sameInt at this
    simpa using this
theorem sameCol_comm (a b : ColV) : sameCol a b = sameCol b a := by
  unfold sameCol
  rw [Bool.eq_iff_iff]; simp only [beq_iff_eq]; exact ⟨Eq.symm, Eq.symm⟩
theorem sameIdx_comm (a b : IdxV) : sameIdx a b = sameIdx b a := by
  unfold sameIdx
  rw [Bool.eq_iff_iff]; simp only [beq_iff_eq]; exact ⟨Eq.symm, Eq.symm⟩
theorem sameInt_comm (a b : Int) : sameInt a b = sameInt b a := by
  unfold sameInt
  rw [Bool.eq_iff_iff]; simp only [beq_iff_eq]; exact ⟨Eq.symm, Eq.symm⟩
end Go.Proofs.YtlgohkdckdnmhaaDoor
