/- The reader: cut. -/
import Derived.Test.YtdhdphmehjkbnaaRd
namespace Go.Proofs.Ytdhdphmehjkbnaa
open Go.RowKit Go.Afx
variable {RB : Nat → Prop}

theorem cut_bad (w : World) (b : Nat) (bad : Bool) (l : List UInt8) (h : IsRd w b RB bad l) (n : Nat) (hn : bad = true ∨ l.length < n) :
    Calls Try.prog 90 #[.pointer (some ⟨b, 0, none⟩), .int .i64 n] w fun e w' => e = .returned (.slice none 0 0) ∧ IsRd w' b RB true [] ∧ Only (fun k => k = b) w w' := by
  have HG := Lib.hid (good_rd w b bad l h)
  have HF := Lib.hid (fail_rd w b bad l h)
  obtain ⟨bv, h1, h2, h3⟩ := h
  obtain ⟨p, c, rfl, _, _⟩ := h2.form
  have k0 : w.cell? ⟨b, 0, none⟩ = some (.slice p l.length c) := h1.cell 0
  clear h1 h2 h3
  cases bad
  · have hlt : l.length < n := by simpa using hn
    clear hn
    go_enter Try.func90, Try.ntmps90
    go_wp2_with (first
      | (go_at_call 52; refine HG.out.mono ?_; rintro e w2 ⟨rfl, rfl⟩)
      | (go_at_call 87; refine HF.out.mono ?_; rintro e w2 ⟨rfl, h1, h2⟩))
    go_ret
    exact ⟨rfl, h1, h2⟩
  · clear hn
    go_enter Try.func90, Try.ntmps90
    go_wp2_with (first
      | (go_at_call 52; refine HG.out.mono ?_; rintro e w2 ⟨rfl, rfl⟩)
      | (go_at_call 87; refine HF.out.mono ?_; rintro e w2 ⟨rfl, h1, h2⟩))
    go_ret
    exact ⟨rfl, h1, h2⟩

theorem by8_take (l : List UInt8) (n : Nat) : (by8 l).take n = by8 (l.take n) := by simp [by8, List.map_take]

set_option maxRecDepth 100000 in
theorem cut_ok (w : World) (b : Nat) (l : List UInt8) (h : IsRd w b RB false l) (n : Nat) (hn : n ≤ l.length) :
    Calls Try.prog 90 #[.pointer (some ⟨b, 0, none⟩), .int .i64 n] w fun e w' => ∃ p c, e = .returned (.slice p n c) ∧ Sl w' (fun k => k ≠ b ∧ RB k) 1 (.slice p n c) n (by8 (l.take n)) ∧ IsRd w' b RB false (l.drop n) ∧ Only (fun k => k = b) w w' := by
  have HG := Lib.hid (good_rd w b false l h)
  obtain ⟨bv, h1, h2, h3⟩ := h
  have hoS : ∀ v, Only (fun k => k = b) w (w.setCell ⟨b, 0, none⟩ v) := fun v => (Only.refl (fun k => k = b) w).setCell (p := ⟨b, 0, none⟩) (fun _ => rfl) _
  have HOS := Lib.hid hoS
  clear hoS
  rcases Nat.eq_zero_or_pos l.length with hl0 | hlp
  · -- nothing to come
    have hl : l = [] := List.eq_nil_of_length_eq_zero hl0
    subst hl
    obtain rfl : n = 0 := by simpa using hn
    obtain ⟨p, c, rfl, hc1, hc2⟩ := h2.form
    have k0 : w.cell? ⟨b, 0, none⟩ = some (.slice p 0 c) := h1.cell 0
    have hf : ∀ i, w.frozen? ⟨b, i, none⟩ = false := h1.frozen
    have H1 := Lib.hid h1
    have H2 : Hid (Sl w (fun k => k ≠ b ∧ RB k) 1 (.slice p 0 c) 0 (by8 [])) := h2
    clear h1 h2 h3 hl0 hn
    have hc0 : (0 : Int) ≤ c := by omega
    by_cases hcz : c = 0
    · subst hcz
      go_enter Try.func90, Try.ntmps90
      go_wp2_with (first
        | (go_at_call 52; refine HG.out.mono ?_; rintro e w2 ⟨rfl, rfl⟩))
      go_ret
      exact ⟨_, _, rfl, H2.out.only (HOS.out _) (fun k h1 h2 => h1.1 h2), ⟨_, H1.out.set 0 _, H2.out.only (HOS.out _) (fun k h1 h2 => h1.1 h2), fun h => absurd h (by decide)⟩, HOS.out _⟩
    · skip
      go_enter Try.func90, Try.ntmps90
      go_wp2_with (first
        | (go_at_call 52; refine HG.out.mono ?_; rintro e w2 ⟨rfl, rfl⟩))
      go_ret
      exact ⟨_, _, rfl, H2.out.only (HOS.out _) (fun k h1 h2 => h1.1 h2), ⟨_, H1.out.set 0 _, H2.out.only (HOS.out _) (fun k h1 h2 => h1.1 h2), fun h => absurd h (by decide)⟩, HOS.out _⟩
  · obtain ⟨g, off, c, rfl, hc1, hc2, hgb, hglt, hcl⟩ := h2.place hlp
    have k0 : w.cell? ⟨b, 0, none⟩ = some (.slice (some ⟨g, off, none⟩) l.length c) := h1.cell 0
    have hf : ∀ i, w.frozen? ⟨b, i, none⟩ = false := h1.frozen
    have H1 := Lib.hid h1
    have H2 := Lib.hid h2
    have HCL := Lib.hid hcl
    have hc3 : c ≤ 9223372036854775807 := hc2
    have hnc : (n : Int) ≤ c := by omega
    have hnl : (n : Int) ≤ l.length := by omega
    clear h1 h2 h3 hcl
    by_cases hcn : c = n
    · go_enter Try.func90, Try.ntmps90
      go_wp2_with (first
        | (go_at_call 52; refine HG.out.mono ?_; rintro e w2 ⟨rfl, rfl⟩))
      go_ret
      have hs1 := H2.out.take hn
      rw [Nat.mul_one, by8_take] at hs1
      have hln : l.length = n := by omega
      have hd : l.drop n = [] := List.drop_of_length_le (by omega)
      subst hcn
      refine ⟨_, _, rfl, hs1.only (HOS.out _) (fun k h1 h2 => h1.1 h2), ⟨_, H1.out.set 0 _, ?_, fun h => absurd h (by decide)⟩, HOS.out _⟩
      rw [hd]
      exact ⟨by simp [by8], by8_ones _, .inl ⟨some ⟨g, off, none⟩, 0, by rw [hln, Nat.sub_self], rfl, Nat.zero_le _, fun h => by cases h⟩⟩
    · go_enter Try.func90, Try.ntmps90
      go_wp2_with (first
        | (go_at_call 52; refine HG.out.mono ?_; rintro e w2 ⟨rfl, rfl⟩))
      go_ret
      have hs1 := H2.out.take hn
      rw [Nat.mul_one, by8_take] at hs1
      refine ⟨_, _, rfl, hs1.only (HOS.out _) (fun k h1 h2 => h1.1 h2), ⟨_, H1.out.set 0 _, ?_, fun h => absurd h (by decide)⟩, HOS.out _⟩
      have hs2 : Sl w (fun k => k ≠ b ∧ RB k) 1 (.slice (some ⟨g, off + n, none⟩) (l.length - n) (c - n)) (l.drop n).length (by8 (l.drop n)) :=
        ⟨by rw [by8_length, Nat.mul_one], by8_ones _, .inr ⟨g, off + n, c - n, by rw [List.length_drop], by rw [List.length_drop]; omega, by unfold maxLen; omega, hgb, hglt, fun j hj => by
          rw [by8_length, List.length_drop] at hj
          have h1 := HCL.out (n + j) (by rw [by8_length]; omega)
          rw [Nat.add_assoc, h1, by8_get _ _ (show n + j < l.length by omega), by8_get _ j (by rw [List.length_drop]; omega), List.getElem_drop]⟩⟩
      exact hs2.only (HOS.out _) (fun k h1 h2 => h1.1 h2)
end Go.Proofs.Ytdhdphmehjkbnaa
