/- The laws CalcEnds and CalcRests: what the walks show. -/
import Derived.Test.YtlgohkdckdnmhaaDoorCalcF
import Derived.Test.YtlgohkdckdnmhaaDoorOpen
namespace Go.Proofs.YtlgohkdckdnmhaaDoor
open Go.RowKit Go.Afx

theorem wf_fits {n : Int} (h : (Lit.int .i64 n).wf = true) : fits n := by
  have h2 : -9223372036854775808 ≤ n ∧ n ≤ 9223372036854775807 := by simpa [Lit.wf, IntKind.min, IntKind.max, IntKind.bits, IntKind.signed] using h
  exact h2

theorem open_i64s {H : Type} {enc : TypeId × Value → H} {w : World} {v : Value} {d : DataW H} {ps : List MemPlace} (h : DataW.Trod enc Tryd.prog w 0 (fun _ => true) true 171 v d ps) (hv : v.cells.toList = [v]) :
    ∃ l : List Int, Sl w (fun _ => True) 1 v l.length (ints l) ∧ ∀ x ∈ l, fits x := by
  obtain ⟨fuel, hf⟩ := h
  rw [hv] at hf
  obtain ⟨l, h1, h2⟩ := open_ints_sl Tryd.underlying171 Tryd.underlying2 (by kernel_rfl) hf
  exact ⟨l, h1, fun x hx => wf_fits (h2 x hx)⟩

theorem minI_spec : ∀ (l : List Int) (a : Int), (minI a l = a ∨ minI a l ∈ l) ∧ minI a l ≤ a ∧ ∀ x ∈ l, minI a l ≤ x
  | [], a => ⟨.inl rfl, Int.le_refl _, by simp⟩
  | x :: l, a => by
    obtain ⟨h1, h2, h3⟩ := minI_spec l (min a x)
    have e : minI a (x :: l) = minI (min a x) l := rfl
    rw [e]
    refine ⟨?_, by omega, fun y hy => ?_⟩
    · rcases h1 with h1 | h1
      · by_cases hx : a ≤ x
        · exact .inl (by omega)
        · exact .inr (by rw [h1, show min a x = x by omega]; simp)
      · exact .inr (by simp [h1])
    · rcases List.mem_cons.1 hy with rfl | hy
      · omega
      · exact h3 y hy
theorem maxI_spec : ∀ (l : List Int) (a : Int), (maxI a l = a ∨ maxI a l ∈ l) ∧ a ≤ maxI a l ∧ ∀ x ∈ l, x ≤ maxI a l
  | [], a => ⟨.inl rfl, Int.le_refl _, by simp⟩
  | x :: l, a => by
    obtain ⟨h1, h2, h3⟩ := maxI_spec l (max a x)
    have e : maxI a (x :: l) = maxI (max a x) l := rfl
    rw [e]
    refine ⟨?_, by omega, fun y hy => ?_⟩
    · rcases h1 with h1 | h1
      · by_cases hx : x ≤ a
        · exact .inl (by omega)
        · exact .inr (by rw [h1, show max a x = x by omega]; simp)
      · exact .inr (by simp [h1])
    · rcases List.mem_cons.1 hy with rfl | hy
      · omega
      · exact h3 y hy

/-- Is it one of the first? -/
def seen (m a : Int) (l : List Int) (k : Nat) : Bool := decide (m = a ∨ m ∈ l.take k)
theorem seen_zero (m a : Int) (l : List Int) : seen m a l 0 = (m == a) := by
  rw [Bool.eq_iff_iff]; simp [seen]
theorem seen_next (m a : Int) (l : List Int) (k : Nat) (h : k < l.length) : seen m a l (k + 1) = (seen m a l k || m == l[k]) := by
  rw [Bool.eq_iff_iff]
  unfold seen
  rw [← List.take_append_getElem h, Bool.or_eq_true, decide_eq_true_iff, decide_eq_true_iff, List.mem_append, List.mem_singleton, beq_iff_eq, or_assoc]

theorem lit_i64s (w : World) (l : List Int) (h : l.length ≤ 1000) : Sl (w.alloc (.cells (ints l).toArray 2)) (fun _ => True) 1 (.slice (some ⟨w.heap.size, 0, none⟩) l.length l.length) l.length (ints l) := by
  have := Own.made w 2 1 (ints l) [] l.length l.length (by simp [ints]) (ints_ones l) (Nat.le_refl _) (by unfold maxLen; omega) (by simp [ints])
  have h2 : Own (w.alloc (.cells (ints l).toArray 2)) 2 1 (.slice (some ⟨w.heap.size, 0, none⟩) l.length l.length) l.length (ints l) := by simpa using this
  exact h2.sl (fun k hk => trivial)

theorem rests_law (a b : Int) :
    dvE a b = 2 ∨ dvE a b = 3 ∨ (dvE a b = 0 ∧ mdE b = 0 ∧ dvN a b * b + mdN a b = a ∧ (0 < b ∧ 0 ≤ mdN a b ∧ mdN a b < b ∨ b < 0 ∧ mdN a b ≤ 0 ∧ b < mdN a b)) := by
  by_cases h0 : b = 0
  · subst h0; exact .inr (.inl rfl)
  by_cases h1 : b = -1
  · subst h1
    by_cases hf : fits (-a)
    · refine .inr (.inr ⟨?_, rfl, ?_, .inr ⟨by decide, by simp [mdN], by simp [mdN]⟩⟩)
      · simp [dvE, shortE, hf]
      · simp [dvN, mdN, shortN, hf]
    · left; simp [dvE, shortE, hf]
  · refine .inr (.inr ⟨by simp [dvE, h0, h1], by simp [mdE, h0], ?_, ?_⟩)
    · simp only [dvN, mdN, if_neg h0, if_neg h1]
      rw [Int.mul_comm]; exact Int.mul_fdiv_add_fmod a b
    · simp only [mdN, if_neg h0, if_neg h1]
      by_cases hb : 0 < b
      · exact .inl ⟨hb, Int.fmod_nonneg_of_pos a hb, Int.fmod_lt_of_pos a hb⟩
      · right
        have h2 := Int.fmod_nonneg_of_pos (-a) (show 0 < -b by omega)
        have h3 := Int.fmod_lt_of_pos (-a) (show 0 < -b by omega)
        rw [Int.neg_fmod_neg] at h2 h3
        omega

end Go.Proofs.YtlgohkdckdnmhaaDoor
