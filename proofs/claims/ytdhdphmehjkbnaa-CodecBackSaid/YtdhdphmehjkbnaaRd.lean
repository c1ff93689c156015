/- The reader: what it keeps; Good, Len, End, Fail, cut. -/
import Derived.Test.YtdhdphmehjkbnaaWrG
namespace Go.Proofs.Ytdhdphmehjkbnaa
open Go.RowKit Go.Afx
variable {RB : Nat → Prop}

@[go_sem] theorem eqlNilU8 (w : World) (a : Option Addr) (n c : Nat) : (binOp .eql 60 (.slice a n c) (.slice none 0 0)).run Try.prog w = .ok (.bool a.isNone) w := Lib.run_eql_slice_nil w _ _ a n c 0 0 Try.underlying60

/-- A reader in the block b: bad, or with the bytes l to come, that lie elsewhere. -/
def IsRd (w : World) (b : Nat) (RB : Nat → Prop) (bad : Bool) (l : List UInt8) : Prop :=
  ∃ bv, Blk w b 130 [bv, .bool bad] ∧ Sl w (fun k => k ≠ b ∧ RB k) 1 bv l.length (by8 l) ∧ (bad = true → l = [])

theorem good_rd (w : World) (b : Nat) (bad : Bool) (l : List UInt8) (h : IsRd w b RB bad l) :
    Calls Try.prog 52 #[.pointer (some ⟨b, 0, none⟩)] w fun e w' => e = .returned (.bool (!bad)) ∧ w = w' := by
  obtain ⟨bv, h1, h2, h3⟩ := h
  have k1 : w.cell? ⟨b, 1, none⟩ = some (.bool bad) := h1.cell 1
  clear h1 h2 h3
  go_enter Try.func52, Try.ntmps52
  go_wp2
  go_ret
  exact ⟨rfl, rfl⟩
theorem good_nil (w : World) : Calls Try.prog 52 #[.pointer none] w fun e w' => e = .returned (.bool false) ∧ w = w' := by
  go_enter Try.func52, Try.ntmps52
  go_wp2
  go_ret
  exact ⟨rfl, rfl⟩
theorem fail_rd (w : World) (b : Nat) (bad : Bool) (l : List UInt8) (h : IsRd w b RB bad l) :
    Calls Try.prog 87 #[.pointer (some ⟨b, 0, none⟩)] w fun e w' => e = .returned (.tuple #[]) ∧ IsRd w' b RB true [] ∧ Only (fun k => k = b) w w' := by
  obtain ⟨bv, h1, h2, h3⟩ := h
  obtain ⟨p, c, rfl, _, _⟩ := h2.form
  have k0 : w.cell? ⟨b, 0, none⟩ = some (.slice p l.length c) := h1.cell 0
  have k1 : w.cell? ⟨b, 1, none⟩ = some (.bool bad) := h1.cell 1
  have hf : ∀ i, w.frozen? ⟨b, i, none⟩ = false := h1.frozen
  have H1 := Lib.hid h1
  clear h1 h2 h3
  go_enter Try.func87, Try.ntmps87
  go_wp2
  go_end0
  refine ⟨rfl, ⟨.slice none 0 0, (H1.out.set 1 (.bool true)).set 0 (.slice none 0 0), ⟨by simp [by8], by8_ones _, .inl ⟨none, 0, rfl, rfl, Nat.zero_le _, fun _ => rfl⟩⟩, fun _ => rfl⟩, ?_⟩
  exact ((Only.refl (fun k => k = b) w).setCell (p := ⟨b, 1, none⟩) (fun _ => rfl) _).setCell (p := ⟨b, 0, none⟩) (fun _ => rfl) _
theorem fail_nil (w : World) : Calls Try.prog 87 #[.pointer none] w fun e w' => e = .returned (.tuple #[]) ∧ w = w' := by
  go_enter Try.func87, Try.ntmps87
  go_wp2
  go_end0
  exact ⟨rfl, rfl⟩
theorem rdlen_bytes (w : World) (b : Nat) (bad : Bool) (l : List UInt8) (h : IsRd w b RB bad l) :
    Calls Try.prog 43 #[.pointer (some ⟨b, 0, none⟩)] w fun e w' => e = .returned (.int .i64 l.length) ∧ w = w' := by
  obtain ⟨bv, h1, h2, h3⟩ := h
  obtain ⟨p, c, rfl, _, _⟩ := h2.form
  have k0 : w.cell? ⟨b, 0, none⟩ = some (.slice p l.length c) := h1.cell 0
  clear h1 h2 h3
  go_enter Try.func43, Try.ntmps43
  go_wp2
  go_ret
  exact ⟨rfl, rfl⟩
theorem len_rd (w : World) (b : Nat) (bad : Bool) (l : List UInt8) (h : IsRd w b RB bad l) :
    Calls Try.prog 88 #[.pointer (some ⟨b, 0, none⟩)] w fun e w' => e = .returned (.int .i64 l.length) ∧ w = w' := by
  have HL := Lib.hid (rdlen_bytes w b bad l h)
  clear h
  go_enter Try.func88, Try.ntmps88
  go_wp2_with (go_at_call 43; refine HL.out.mono ?_; rintro e w2 ⟨rfl, rfl⟩)
  go_ret
  exact ⟨rfl, rfl⟩
theorem end_rd (w : World) (b : Nat) (bad : Bool) (l : List UInt8) (h : IsRd w b RB bad l) :
    Calls Try.prog 73 #[.pointer (some ⟨b, 0, none⟩)] w fun e w' => e = .returned (.bool (!bad && l.isEmpty)) ∧ w = w' := by
  have HL := Lib.hid (len_rd w b bad l h)
  have HG := Lib.hid (good_rd w b bad l h)
  clear h
  have he : l.isEmpty = ((l.length : Int) == 0) := by
    cases l
    · rfl
    · symm; rw [beq_eq_false_iff_ne.2]
      · rfl
      · rw [List.length_cons]; omega
  rw [he]
  cases bad
  all_goals
    go_enter Try.func73, Try.ntmps73
    go_wp2_with (first
      | (go_at_call 52; refine HG.out.mono ?_; rintro e w2 ⟨rfl, rfl⟩)
      | (go_at_call 88; refine HL.out.mono ?_; rintro e w2 ⟨rfl, rfl⟩))
    go_ret
    exact ⟨rfl, rfl⟩
end Go.Proofs.Ytdhdphmehjkbnaa
