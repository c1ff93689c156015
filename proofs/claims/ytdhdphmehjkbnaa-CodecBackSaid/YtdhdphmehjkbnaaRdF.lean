/- The reader, or none: Good, Fail, Len, End, String, cut, byte, number. -/
import Derived.Test.YtdhdphmehjkbnaaRdE
namespace Go.Proofs.Ytdhdphmehjkbnaa
open Go.RowKit Go.Afx
variable {RB : Nat → Prop}

theorem cut_nil (w : World) (n : Int) : Calls Try.prog 90 #[.pointer none, .int .i64 n] w fun e w' => e = .returned (.slice none 0 0) ∧ w = w' := by
  have HG := Lib.hid (good_nil w)
  have HF := Lib.hid (fail_nil w)
  go_enter Try.func90, Try.ntmps90
  go_wp2_with (first
    | (go_at_call 52; refine HG.out.mono ?_; rintro e w2 ⟨rfl, rfl⟩)
    | (go_at_call 87; refine HF.out.mono ?_; rintro e w2 ⟨rfl, rfl⟩))
  go_ret
  exact ⟨rfl, rfl⟩
theorem byte_nil (w : World) : Calls Try.prog 101 #[.pointer none] w fun e w' => e = .returned (.int .i64 0) ∧ w = w' := by
  have HC := Lib.hid (cut_nil w 1)
  go_enter Try.func101, Try.ntmps101
  go_wp2_with (go_at_call 90; refine HC.out.mono ?_; clear HC; rintro e w2 ⟨rfl, rfl⟩)
  go_ret
  exact ⟨rfl, rfl⟩
theorem number_nil (w : World) : Calls Try.prog 89 #[.pointer none] w fun e w' => e = .returned (.int .u64 0) ∧ w = w' := by
  have HC := Lib.hid (cut_nil w 0)
  have HB := Lib.hid (byte_nil w)
  go_enter Try.func89, Try.ntmps89
  go_wp2_with (first
    | (go_at_call 101; refine HB.out.mono ?_; clear HB; rintro e w2 ⟨rfl, rfl⟩)
    | (go_at_call 90; refine HC.out.mono ?_; clear HC; rintro e w2 ⟨rfl, rfl⟩))
  go_loopw [5, 30] (fun a i wr => a = .int .u64 0 ∧ i = .int .i64 0 ∧ w = wr) (fun _ _ _ => 0)
  case atStart => exact ⟨rfl, rfl, rfl⟩
  case round =>
    obtain ⟨rfl, rfl, rfl⟩ := hrel
    go_wp2
    go_ret
    exact ⟨rfl, rfl⟩
theorem len_nil (w : World) : Calls Try.prog 88 #[.pointer none] w fun e w' => e = .returned (.int .i64 0) ∧ w = w' := by
  go_enter Try.func88, Try.ntmps88
  go_wp2
  go_ret
  exact ⟨rfl, rfl⟩
theorem end_nil (w : World) : Calls Try.prog 73 #[.pointer none] w fun e w' => e = .returned (.bool false) ∧ w = w' := by
  have HG := Lib.hid (good_nil w)
  go_enter Try.func73, Try.ntmps73
  go_wp2_with (go_at_call 52; refine HG.out.mono ?_; rintro e w2 ⟨rfl, rfl⟩)
  go_ret
  exact ⟨rfl, rfl⟩
theorem rdstr_nil (w : World) : Calls Try.prog 51 #[.pointer none] w fun e w' => e = .returned (.string .empty) ∧ w = w' := by
  go_enter Try.func51, Try.ntmps51
  go_wp2
  go_ret
  exact ⟨rfl, rfl⟩

theorem sl_string (w : World) (B : Nat → Prop) (v : Value) (l : List UInt8) (h : Sl w B 1 v l.length (by8 l)) :
    (convert 60 9 v).run Try.prog w = .ok (.string ⟨l.toArray⟩) w := by
  rcases h.2.2 with ⟨p, cap, rfl, h0, _, hp⟩ | ⟨g, off, cap, rfl, _, _, _, _, hc⟩
  · obtain rfl : l = [] := List.eq_nil_of_length_eq_zero h0
    cases p with
    | none => obtain rfl := hp rfl; kernel_rfl
    | some a => exact run_convert_bytes_back (P := Try.prog) w 60 9 5 a cap [] Try.underlying60 Try.underlying5 Try.underlying9 (fun j hj => absurd hj (Nat.not_lt_zero _))
  · exact run_convert_bytes_back (P := Try.prog) w 60 9 5 ⟨g, off, none⟩ cap l Try.underlying60 Try.underlying5 Try.underlying9 (fun j hj => by
      rw [Addr.add_lit, hc j (by rw [by8_length]; exact hj)]
      exact by8_get l j hj)

theorem rdstr_bytes (w : World) (b : Nat) (bad : Bool) (l : List UInt8) (h : IsRd w b RB bad l) :
    Calls Try.prog 42 #[.pointer (some ⟨b, 0, none⟩)] w fun e w' => e = .returned (.string ⟨l.toArray⟩) ∧ w = w' := by
  obtain ⟨bv, h1, h2, h3⟩ := h
  have kc := sl_string w _ _ _ h2
  obtain ⟨p, c, rfl, _, _⟩ := h2.form
  have k0 : w.cell? ⟨b, 0, none⟩ = some (.slice p l.length c) := h1.cell 0
  clear h1 h2 h3
  generalize (⟨l.toArray⟩ : ByteArray) = s at *
  go_enter Try.func42, Try.ntmps42
  go_wp2
  go_ret
  exact ⟨rfl, rfl⟩
theorem rdstr_rd (w : World) (b : Nat) (bad : Bool) (l : List UInt8) (h : IsRd w b RB bad l) :
    Calls Try.prog 51 #[.pointer (some ⟨b, 0, none⟩)] w fun e w' => e = .returned (.string ⟨l.toArray⟩) ∧ w = w' := by
  have HS := Lib.hid (rdstr_bytes w b bad l h)
  clear h
  generalize (⟨l.toArray⟩ : ByteArray) = s at *
  go_enter Try.func51, Try.ntmps51
  go_wp2_with (go_at_call 42; refine HS.out.mono ?_; rintro e w2 ⟨rfl, rfl⟩)
  go_ret
  exact ⟨rfl, rfl⟩

/-- A reader, or none: p its pointer. -/
def Rdr (w : World) (p : Option Addr) (RB : Nat → Prop) (bad : Bool) (l : List UInt8) : Prop :=
  (p = none ∧ bad = true ∧ l = []) ∨ ∃ b, p = some ⟨b, 0, none⟩ ∧ IsRd w b RB bad l
/-- What a reader changes. -/
def Mine (p : Option Addr) (k : Nat) : Prop := p = some ⟨k, 0, none⟩

theorem Rdr.empty {w : World} {p : Option Addr} {bad : Bool} {l : List UInt8} (h : Rdr w p RB bad l) : bad = true → l = [] := by
  rcases h with ⟨_, rfl, rfl⟩ | ⟨b, _, h⟩
  · exact fun _ => rfl
  · exact h.choose_spec.2.2
theorem mine_only {w w' : World} {b : Nat} (h : Only (fun k => k = b) w w') : Only (Mine (some ⟨b, 0, none⟩)) w w' :=
  h.mono fun k _ h => by subst h; rfl
theorem mine_eq {b k : Nat} (h : Mine (some ⟨b, 0, none⟩) k) : k = b := by unfold Mine at h; injection h with h; injection h with h1; exact h1.symm

theorem good_r (w : World) (p : Option Addr) (bad : Bool) (l : List UInt8) (h : Rdr w p RB bad l) :
    Calls Try.prog 52 #[.pointer p] w fun e w' => e = .returned (.bool (!bad)) ∧ w = w' := by
  rcases h with ⟨rfl, rfl, rfl⟩ | ⟨b, rfl, h⟩
  · exact good_nil w
  · exact good_rd w b bad l h
theorem len_r (w : World) (p : Option Addr) (bad : Bool) (l : List UInt8) (h : Rdr w p RB bad l) :
    Calls Try.prog 88 #[.pointer p] w fun e w' => e = .returned (.int .i64 l.length) ∧ w = w' := by
  rcases h with ⟨rfl, rfl, rfl⟩ | ⟨b, rfl, h⟩
  · exact len_nil w
  · exact len_rd w b bad l h
theorem end_r (w : World) (p : Option Addr) (bad : Bool) (l : List UInt8) (h : Rdr w p RB bad l) :
    Calls Try.prog 73 #[.pointer p] w fun e w' => e = .returned (.bool (!bad && l.isEmpty)) ∧ w = w' := by
  rcases h with ⟨rfl, rfl, rfl⟩ | ⟨b, rfl, h⟩
  · exact end_nil w
  · exact end_rd w b bad l h
theorem rdstr_r (w : World) (p : Option Addr) (bad : Bool) (l : List UInt8) (h : Rdr w p RB bad l) :
    Calls Try.prog 51 #[.pointer p] w fun e w' => e = .returned (.string ⟨l.toArray⟩) ∧ w = w' := by
  rcases h with ⟨rfl, rfl, rfl⟩ | ⟨b, rfl, h⟩
  · exact rdstr_nil w
  · exact rdstr_rd w b bad l h
theorem fail_r (w : World) (p : Option Addr) (bad : Bool) (l : List UInt8) (h : Rdr w p RB bad l) :
    Calls Try.prog 87 #[.pointer p] w fun e w' => e = .returned (.tuple #[]) ∧ Rdr w' p RB true [] ∧ Only (Mine p) w w' := by
  rcases h with ⟨rfl, rfl, rfl⟩ | ⟨b, rfl, h⟩
  · exact (fail_nil w).mono fun e w' ⟨h1, h2⟩ => ⟨h1, .inl ⟨rfl, rfl, rfl⟩, by subst h2; exact Only.refl _ _⟩
  · exact (fail_rd w b bad l h).mono fun e w' ⟨h1, h2, h3⟩ => ⟨h1, .inr ⟨b, rfl, h2⟩, mine_only h3⟩

/-- So many bytes, and the reader behind them. -/
def rCut (n : Nat) (bad : Bool) (l : List UInt8) : List UInt8 × Bool × List UInt8 :=
  if bad = true ∨ l.length < n then ([], true, []) else (l.take n, false, l.drop n)
theorem sl_none (w : World) (B : Nat → Prop) : Sl w B 1 (.slice none 0 0) ([] : List UInt8).length (by8 []) := ⟨by simp [by8], by8_ones _, .inl ⟨none, 0, rfl, rfl, Nat.zero_le _, fun _ => rfl⟩⟩
theorem cut_r (w : World) (p : Option Addr) (bad : Bool) (l : List UInt8) (h : Rdr w p RB bad l) (n : Nat) :
    Calls Try.prog 90 #[.pointer p, .int .i64 n] w fun e w' => ∃ v, e = .returned v ∧ Sl w' (fun k => ¬ Mine p k) 1 v (rCut n bad l).1.length (by8 (rCut n bad l).1) ∧ Rdr w' p RB (rCut n bad l).2.1 (rCut n bad l).2.2 ∧ Only (Mine p) w w' := by
  by_cases hb : bad = true ∨ l.length < n
  · unfold rCut
    rw [if_pos hb]
    rcases h with ⟨rfl, rfl, rfl⟩ | ⟨b, rfl, h⟩
    · exact (cut_nil w n).mono fun e w' ⟨h1, h2⟩ => ⟨_, h1, sl_none _ _, .inl ⟨rfl, rfl, rfl⟩, by subst h2; exact Only.refl _ _⟩
    · exact (cut_bad w b bad l h n hb).mono fun e w' ⟨h1, h2, h3⟩ => ⟨_, h1, sl_none _ _, .inr ⟨b, rfl, h2⟩, mine_only h3⟩
  · unfold rCut
    rw [if_neg hb]
    rcases h with ⟨rfl, rfl, rfl⟩ | ⟨b, rfl, h⟩
    · exact absurd (.inl rfl) hb
    · obtain rfl : bad = false := by cases bad; rfl; exact absurd (.inl rfl) hb
      have hn : n ≤ l.length := by
        have : ¬ l.length < n := fun h => hb (.inr h)
        omega
      exact (cut_ok w b l h n hn).mono fun e w' ⟨q, c, h1, h2, h3, h4⟩ => ⟨_, h1, by
        have hl : (l.take n).length = n := by rw [List.length_take]; omega
        rw [hl]
        exact Sl.mono h2 (Nat.le_refl _) (fun _ _ _ => rfl) (fun k hk _ h => hk.1 (mine_eq h)), .inr ⟨b, rfl, h3⟩, mine_only h4⟩
theorem byte_r (w : World) (p : Option Addr) (bad : Bool) (l : List UInt8) (h : Rdr w p RB bad l) :
    Calls Try.prog 101 #[.pointer p] w fun e w' => e = .returned (.int .i64 (rByte bad l).1) ∧ Rdr w' p RB (rByte bad l).2.1 (rByte bad l).2.2 ∧ Only (Mine p) w w' := by
  rcases h with ⟨rfl, rfl, rfl⟩ | ⟨b, rfl, h⟩
  · exact (byte_nil w).mono fun e w' ⟨h1, h2⟩ => ⟨h1, .inl ⟨rfl, rfl, rfl⟩, by subst h2; exact Only.refl _ _⟩
  · exact (byte_rd w b bad l h).mono fun e w' ⟨h1, h2, h3⟩ => ⟨h1, .inr ⟨b, rfl, h2⟩, mine_only h3⟩
theorem number_r (w : World) (p : Option Addr) (bad : Bool) (l : List UInt8) (h : Rdr w p RB bad l) :
    Calls Try.prog 89 #[.pointer p] w fun e w' => e = .returned (.int .u64 ((rNum bad l).1 : Int)) ∧ Rdr w' p RB (rNum bad l).2.1 (rNum bad l).2.2 ∧ Only (Mine p) w w' := by
  rcases h with ⟨rfl, rfl, rfl⟩ | ⟨b, rfl, h⟩
  · exact (number_nil w).mono fun e w' ⟨h1, h2⟩ => ⟨h1, .inl ⟨rfl, rfl, rfl⟩, by subst h2; exact Only.refl _ _⟩
  · exact (number_rd w b bad l h).mono fun e w' ⟨h1, h2, h3⟩ => ⟨h1, .inr ⟨b, rfl, h2⟩, mine_only h3⟩
end Go.Proofs.Ytdhdphmehjkbnaa
