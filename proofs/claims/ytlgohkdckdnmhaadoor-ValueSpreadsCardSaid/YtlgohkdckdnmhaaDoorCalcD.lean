/- calc: parts, Div, Mod. -/
import Derived.Test.YtlgohkdckdnmhaaDoorCalcC
namespace Go.Proofs.YtlgohkdckdnmhaaDoor
open Go.RowKit Go.Afx

def dvN (a b : Int) : Int := if b = 0 then 0 else if b = -1 then shortN (-a) else a.fdiv b
def dvE (a b : Int) : Int := if b = 0 then 3 else if b = -1 then shortE (-a) else 0
def mdN (a b : Int) : Int := if b = 0 then 0 else if b = -1 then 0 else a.fmod b
def mdE (b : Int) : Int := if b = 0 then 3 else 0

theorem tdiv_fits (a b : Int) (ha : fits a) (hb : b ≠ -1) : fits (a.tdiv b) := by
  unfold fits at *
  have h := Int.natAbs_tdiv a b
  by_cases h2 : b.natAbs ≤ 1
  · have : b = 0 ∨ b = 1 := by omega
    rcases this with rfl | rfl
    · simp
    · simpa using ha
  · have h3 : a.natAbs / b.natAbs ≤ a.natAbs / 2 := Nat.div_le_div_left (by omega) (by omega)
    have h4 : a.natAbs.div b.natAbs ≤ a.natAbs / 2 := h3
    rw [← h] at h4
    omega
theorem tdiv_low (a b : Int) (ha : fits a) (hb : b ≠ -1) (hr : a.tmod b ≠ 0) : b ≠ 0 → -9223372036854775808 < a.tdiv b := by
  unfold fits at *
  have h := Int.natAbs_tdiv a b
  intro h0
  by_cases h2 : b.natAbs ≤ 1
  · have : b = 1 := by omega
    subst this
    simp at hr
  · have h3 : a.natAbs / b.natAbs ≤ a.natAbs / 2 := Nat.div_le_div_left (by omega) (by omega)
    have h4 : a.natAbs.div b.natAbs ≤ a.natAbs / 2 := h3
    rw [← h] at h4
    omega
theorem tmod_near (a b : Int) : (a.tmod b).natAbs ≤ a.natAbs ∧ (a ≤ 0 → a.tmod b ≤ 0) := by
  refine ⟨?_, fun h => ?_⟩
  · rw [Int.natAbs_tmod]; exact Nat.mod_le _ _
  · have := Int.tmod_nonneg b (a := -a) (by omega)
    rw [Int.neg_tmod] at this; omega

/-- Go's quotient and rest, put right, are those rounded down. -/
theorem parts_law (a b : Int) (hb : b ≠ 0) :
    (a.tmod b ≠ 0 ∧ (decide (a.tmod b < 0) == decide (b < 0)) = false ∧ (a.tmod b < 0 ∧ 0 ≤ b ∨ 0 ≤ a.tmod b ∧ b < 0) ∧ a.fdiv b = a.tdiv b - 1 ∧ a.fmod b = a.tmod b + b) ∨
    ((a.tmod b ≠ 0 ∧ (decide (a.tmod b < 0) == decide (b < 0)) = true ∨ a.tmod b = 0) ∧ a.fdiv b = a.tdiv b ∧ a.fmod b = a.tmod b) := by
  have h3 : b ∣ a ↔ a.tmod b = 0 := Int.dvd_iff_tmod_eq_zero
  have h1 := Int.fdiv_eq_tdiv (a := a) (b := b)
  have h2 := Int.fmod_eq_tmod (a := a) (b := b)
  by_cases hd : b ∣ a
  · rw [if_pos hd] at h1 h2
    exact Or.inr ⟨Or.inr (h3.mp hd), by omega, by omega⟩
  · rw [if_neg hd] at h1 h2
    have hn : a.tmod b ≠ 0 := fun h => hd (h3.mpr h)
    by_cases ha : 0 ≤ a
    · have ht := Int.tmod_nonneg b ha
      rw [if_pos ha] at h1 h2
      by_cases hb0 : 0 ≤ b
      · rw [if_pos hb0] at h1 h2
        refine Or.inr ⟨Or.inl ⟨hn, ?_⟩, by omega, by omega⟩
        rw [decide_eq_false (show ¬ a.tmod b < 0 by omega), decide_eq_false (show ¬ b < 0 by omega)]; rfl
      · rw [if_neg hb0] at h1 h2
        refine Or.inl ⟨hn, ?_, by omega, by omega, by omega⟩
        rw [decide_eq_false (show ¬ a.tmod b < 0 by omega), decide_eq_true (show b < 0 by omega)]; rfl
    · have ht : a.tmod b ≤ 0 := by
        have := Int.tmod_nonneg b (a := -a) (by omega)
        rw [Int.neg_tmod] at this; omega
      rw [if_neg ha] at h1 h2
      by_cases hb0 : 0 ≤ b
      · rw [if_pos hb0] at h1 h2
        rw [Int.sign_eq_one_of_pos (by omega)] at h1
        refine Or.inl ⟨hn, ?_, by omega, by omega, by omega⟩
        rw [decide_eq_true (show a.tmod b < 0 by omega), decide_eq_false (show ¬ b < 0 by omega)]; rfl
      · rw [if_neg hb0] at h1 h2
        rw [Int.sign_eq_neg_one_of_neg (by omega)] at h1
        refine Or.inr ⟨Or.inl ⟨hn, ?_⟩, by omega, by omega⟩
        rw [decide_eq_true (show a.tmod b < 0 by omega), decide_eq_true (show b < 0 by omega)]; rfl

theorem parts_any (w : World) (a b : Int) (ha : fits a) (hbf : fits b) :
    Calls Tryd.prog 103 #[.int .i64 a, .int .i64 b] w fun e w' => e = .returned (.tuple #[.int .i64 (dvN a b), .int .i64 (mdN a b), .int .i64 (dvE a b)]) ∧ Below w.heap.size w w' := by
  by_cases h0 : b = 0
  · subst h0
    simp only [dvN, dvE, mdN, if_pos]
    go_enter Tryd.func103, Tryd.ntmps103
    go_wp2
    refine bodyPost_ret (v := .tuple #[.int .i64 0, .int .i64 0, .int .i64 3]) (by simp [results, Tryd.results103, go_sem]) rfl ⟨rfl, Below.refl _ _⟩
  by_cases h1 : b = -1
  · subst h1
    simp only [dvN, dvE, mdN, if_pos, if_neg h0]
    have HN := Lib.hid (fun w => neg_any w a ha)
    clear ha hbf h0
    generalize shortN (-a) = sn at *
    generalize shortE (-a) = se at *
    go_enter Tryd.func103, Tryd.ntmps103
    go_wp2_with (go_at_call 123; refine (HN.out _).mono ?_; rintro e w2 ⟨rfl, hb2⟩)
    refine bodyPost_ret (v := .tuple #[.int .i64 sn, .int .i64 0, .int .i64 se]) (by simp [results, Tryd.results103, go_sem]) rfl ⟨rfl, hb2⟩
  simp only [dvN, dvE, mdN, if_neg h0, if_neg h1]
  have hq := tdiv_fits a b ha h1
  have hr := tmod_near a b
  have hl := parts_law a b h0
  unfold fits at ha hbf hq
  have q0 : (b == 0) = false := by rw [beq_eq_false_iff_ne]; exact h0
  have q1 : (b == -1) = false := by rw [beq_eq_false_iff_ne]; exact h1
  have hw1 : IntKind.i64.wrap (a.tdiv b) = a.tdiv b := by rw [IntKind.wrap_i64]; omega
  have hw2 : IntKind.i64.wrap (a.tmod b) = a.tmod b := by rw [IntKind.wrap_i64]; omega
  rcases hl with ⟨hn, hs, hsg, e1, e2⟩ | ⟨hs, e1, e2⟩
  · rw [e1, e2]
    have hlo := tdiv_low a b (by unfold fits; exact ha) h1 hn h0
    have hlo2 : -9223372036854775808 ≤ a.tmod b + b := by omega
    have hlo3 : a.tmod b + b ≤ 9223372036854775807 := by omega
    clear e1 e2 h1 hsg
    have hn' : (a.tmod b == 0) = false := by rw [beq_eq_false_iff_ne]; exact hn
    go_enter Tryd.func103, Tryd.ntmps103
    go_wp2
    go_region
    go_wp2
    refine bodyPost_ret (v := .tuple #[.int .i64 (a.tdiv b - 1), .int .i64 (a.tmod b + b), .int .i64 0]) (by simp [results, Tryd.results103, go_sem]) rfl ⟨rfl, Below.drew (Below.refl _ _)⟩
  · rw [e1, e2]
    clear e1 e2 h1
    rcases hs with ⟨hn, hs⟩ | hs
    · have hn' : (a.tmod b == 0) = false := by rw [beq_eq_false_iff_ne]; exact hn
      go_enter Tryd.func103, Tryd.ntmps103
      go_wp2
      go_region
      go_wp2
      refine bodyPost_ret (v := .tuple #[.int .i64 (a.tdiv b), .int .i64 (a.tmod b), .int .i64 0]) (by simp [results, Tryd.results103, go_sem]) rfl ⟨rfl, Below.drew (Below.refl _ _)⟩
    · rw [hs] at hw2 ⊢
      clear hr
      go_enter Tryd.func103, Tryd.ntmps103
      go_wp2
      go_region
      go_wp2
      refine bodyPost_ret (v := .tuple #[.int .i64 (a.tdiv b), .int .i64 0, .int .i64 0]) (by simp [results, Tryd.results103, go_sem]) rfl ⟨rfl, Below.drew (Below.refl _ _)⟩

theorem mod_any (w : World) (a b : Int) (ha : fits a) (hb : fits b) :
    Calls Tryd.prog 74 #[.int .i64 a, .int .i64 b] w fun e w' => e = .returned (.tuple #[.int .i64 (mdN a b), .int .i64 (mdE b)]) ∧ Below w.heap.size w w' := by
  have HP := Lib.hid (fun w => parts_any w a b ha hb)
  have hm : (b == -1) = false → dvE a b = mdE b := by intro h; unfold dvE mdE; rw [beq_eq_false_iff_ne] at h; rw [if_neg h]
  by_cases h1 : b = -1
  · subst h1
    clear hm HP ha hb
    go_enter Tryd.func74, Tryd.ntmps74
    go_wp2
    go_ret2
    exact ⟨rfl, Below.refl _ _⟩
  · have h2 : (b == -1) = false := by rw [beq_eq_false_iff_ne]; exact h1
    rw [hm h2] at HP
    clear ha hb hm h1
    generalize dvN a b = dn at *
    generalize mdE b = de at *
    generalize mdN a b = mn at *
    go_enter Tryd.func74, Tryd.ntmps74
    go_wp2_with (go_at_call 103; refine (HP.out _).mono ?_; rintro e w2 ⟨rfl, hb2⟩)
    go_ret2
    exact ⟨rfl, hb2⟩
end Go.Proofs.YtlgohkdckdnmhaaDoor
