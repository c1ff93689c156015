/- The reader: byte. -/
import Derived.Test.YtdhdphmehjkbnaaRdB
namespace Go.Proofs.Ytdhdphmehjkbnaa
open Go.RowKit Go.Afx
variable {RB : Nat → Prop}

/-- A byte, and the reader behind it. -/
def rByte (bad : Bool) (l : List UInt8) : Int × Bool × List UInt8 :=
  match bad, l with
  | false, c :: t => ((c.toNat : Int), false, t)
  | _, _ => (0, true, [])

set_option maxRecDepth 100000 in
theorem byte_rd (w : World) (b : Nat) (bad : Bool) (l : List UInt8) (h : IsRd w b RB bad l) :
    Calls Try.prog 101 #[.pointer (some ⟨b, 0, none⟩)] w fun e w' => e = .returned (.int .i64 (rByte bad l).1) ∧ IsRd w' b RB (rByte bad l).2.1 (rByte bad l).2.2 ∧ Only (fun k => k = b) w w' := by
  by_cases hok : bad = false ∧ 1 ≤ l.length
  · obtain ⟨rfl, hl⟩ := hok
    have HC := Lib.hid (cut_ok w b l h 1 hl)
    clear h
    cases l with
    | nil => simp at hl
    | cons c t =>
      show Calls _ _ _ _ fun e w' => e = .returned (.int .i64 (c.toNat : Int)) ∧ IsRd w' b RB false t ∧ Only (fun k => k = b) w w'
      obtain ⟨ci0, hci⟩ : ∃ ci0 : Int, (c.toNat : Int) = ci0 := ⟨_, rfl⟩
      rw [hci]
      go_enter Try.func101, Try.ntmps101
      go_wp2_with fail
      refine HC.out.mono ?_
      clear HC
      rintro e w2 ⟨p, cp, rfl, hs, hr, ho⟩
      obtain ⟨g, off, cp', hv, _, _, _, hg, hcl⟩ := hs.place (by omega)
      cases hv
      have hc0 : w2.cell? ⟨g, off, none⟩ = some (.int .u8 (c.toNat : Int)) := by
        have := hcl 0 (by simp [by8])
        rw [Nat.add_zero] at this
        rw [this]; simp [by8]
      have HR := Lib.hid hr
      have HO := Lib.hid ho
      have hc256 : (c.toNat : Int) < 256 := by have := c.toNat_lt; omega
      have hc00 : (0 : Int) ≤ (c.toNat : Int) := by omega
      clear hs hr ho hcl
      rw [hci] at hc0 hc256 hc00
      clear hci
      go_wp2
      go_ret
      exact ⟨rfl, HR.out, HO.out⟩
  · have hb : bad = true ∨ l.length < 1 := by
      cases bad
      · right; simpa using hok
      · exact .inl rfl
    have er : rByte bad l = (0, true, []) := by
      cases bad
      · cases l
        · rfl
        · simp at hb
      · rfl
    rw [er]
    have HC := Lib.hid (cut_bad w b bad l h 1 hb)
    clear h hok hb er
    go_enter Try.func101, Try.ntmps101
    go_wp2_with (go_at_call 90; refine HC.out.mono ?_; clear HC; rintro e w2 ⟨rfl, hr, ho⟩)
    go_ret
    exact ⟨rfl, hr, ho⟩
end Go.Proofs.Ytdhdphmehjkbnaa
