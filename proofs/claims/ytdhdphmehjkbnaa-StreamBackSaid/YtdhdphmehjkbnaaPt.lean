/- The document's reader (Part): cut, number. -/
import Derived.Test.YtdhdphmehjkbnaaRefG
namespace Go.Proofs.Ytdhdphmehjkbnaa
open Go.RowKit Go.Afx

theorem bs_ext0 (x : List UInt8) (n : Nat) : (bs x).extract 0 n = bs (x.take n) := by
  rw [← bs_of ((bs x).extract 0 n), Lib.extract_data, bs_data, List.drop_zero, Nat.sub_zero]
theorem bs_ext1 (x : List UInt8) (n : Nat) : (bs x).extract n (bs x).size = bs (x.drop n) := by
  rw [← bs_of ((bs x).extract n (bs x).size), Lib.extract_data, bs_data, bs_size, List.take_of_length_le (by rw [List.length_drop]; exact Nat.le_refl _)]

/-- A Part in the block q: bad, or with the bytes l to come. -/
def Prt (w : World) (q : Nat) (bad : Bool) (l : List UInt8) : Prop :=
  ∃ x : List UInt8, Blk w q 77 [.string (bs x), .bool bad] ∧ (bad = false → x = l) ∧ (bad = true → l = []) ∧ x.length ≤ 1000000

theorem Prt.lt {w : World} {q : Nat} {bad : Bool} {l : List UInt8} (h : Prt w q bad l) : q < w.heap.size := by
  obtain ⟨x, h1, _⟩ := h; exact h1.lt
theorem Prt.empty {w : World} {q : Nat} {bad : Bool} {l : List UInt8} (h : Prt w q bad l) : bad = true → l = [] := by
  obtain ⟨x, _, _, h3, _⟩ := h; exact h3
theorem Prt.below {w w' : World} {q : Nat} {bad : Bool} {l : List UInt8} (h : Prt w q bad l) (hb : Below w.heap.size w w') : Prt w' q bad l := by
  obtain ⟨x, h1, h2⟩ := h; exact ⟨x, h1.below hb, h2⟩
theorem Prt.only {S : Nat → Prop} {w w' : World} {q : Nat} {bad : Bool} {l : List UInt8} (h : Prt w q bad l) (hb : Only S w w') (hn : ¬ S q) : Prt w' q bad l := by
  obtain ⟨x, h1, h2⟩ := h; exact ⟨x, h1.only hb hn, h2⟩
theorem Prt.len {w : World} {q : Nat} {bad : Bool} {l : List UInt8} (h : Prt w q bad l) : l.length ≤ 1000000 := by
  obtain ⟨x, _, h2, h3, h4⟩ := h
  cases bad
  · rw [← h2 rfl]; exact h4
  · rw [h3 rfl]; exact Nat.zero_le _
theorem Prt.cellBad {w : World} {q : Nat} {bad : Bool} {l : List UInt8} (h : Prt w q bad l) : w.cell? ⟨q, 1, none⟩ = some (.bool bad) := by
  obtain ⟨x, h1, _⟩ := h; exact h1.cell 1
theorem Prt.free {w : World} {q : Nat} {bad : Bool} {l : List UInt8} (h : Prt w q bad l) : ∀ i, w.frozen? ⟨q, i, none⟩ = false := by
  obtain ⟨x, h1, _⟩ := h; exact h1.frozen
/-- Bad is set. -/
theorem Prt.spoil {w : World} {q : Nat} {bad : Bool} {l : List UInt8} (h : Prt w q bad l) : Prt (w.setCell ⟨q, 1, none⟩ (.bool true)) q true [] := by
  obtain ⟨x, h1, _, _, h4⟩ := h; exact ⟨x, h1.set 1 _, fun h => by (cases h), fun _ => rfl, h4⟩
theorem only_cell (w : World) (q i : Nat) (v : Value) : Only (fun k => k = q) w (w.setCell ⟨q, i, none⟩ v) := (Only.refl (fun k => k = q) w).setCell (p := ⟨q, i, none⟩) (fun _ => rfl) _

set_option maxRecDepth 100000 in
theorem cut_pt (w : World) (q : Nat) (bad : Bool) (l : List UInt8) (h : Prt w q bad l) (n : Nat) :
    Calls Try.prog 100 #[.pointer (some ⟨q, 0, none⟩), .int .i64 n] w fun e w' => e = .returned (.string (bs (rCut n bad l).1)) ∧ Prt w' q (rCut n bad l).2.1 (rCut n bad l).2.2 ∧ Only (fun k => k = q) w w' := by
  have HP := Lib.hid h
  obtain ⟨x, h1, h2, h3, h4⟩ := h
  have k0 : w.cell? ⟨q, 0, none⟩ = some (.string (bs x)) := h1.cell 0
  have k1 : w.cell? ⟨q, 1, none⟩ = some (.bool bad) := h1.cell 1
  have kf : ∀ i, w.frozen? ⟨q, i, none⟩ = false := h1.frozen
  have hsz := bs_size x
  have e0 := bs_ext0 x n
  have e1 := bs_ext1 x n
  rw [hsz] at e1
  by_cases hb : bad = true ∨ l.length < n
  · have er : rCut n bad l = ([], true, []) := by unfold rCut; rw [if_pos hb]
    rw [er]
    cases bad
    · have hx := h2 rfl
      subst hx
      have hlt : x.length < n := by simpa using hb
      have hlt2 : (x.length : Int) < n := by omega
      clear h1 h2 h3 e0 e1 hb er
      generalize bs x = S at *
      have hd : decide (S.size < n) = true := decide_eq_true (by omega)
      clear hsz
      go_enter Try.func100, Try.ntmps100
      go_wp2
      go_ret
      exact ⟨rfl, HP.out.spoil, only_cell _ _ _ _⟩
    · clear h1 h2 h3 e0 e1 hb er hsz
      generalize bs x = S at *
      go_enter Try.func100, Try.ntmps100
      go_wp2
      go_ret
      exact ⟨rfl, HP.out.spoil, only_cell _ _ _ _⟩
  · have er : rCut n bad l = (l.take n, false, l.drop n) := by unfold rCut; rw [if_neg hb]
    rw [er]
    dsimp only
    have hbf : bad = false := by cases bad; rfl; exact absurd (.inl rfl) hb
    subst hbf
    have hx := h2 rfl
    subst hx
    have hle : n ≤ x.length := by simpa using hb
    have H1 := Lib.hid h1
    have hd4 : (x.drop n).length ≤ 1000000 := by rw [List.length_drop]; omega
    have HD4 := Lib.hid hd4
    clear h1 h2 h3 hb er hd4
    generalize hS : bs x = S at *
    generalize hS0 : bs (x.take n) = S0 at *
    generalize hS1 : bs (x.drop n) = S1 at *
    have HS0 := Lib.hid hS0
    have HS1 := Lib.hid hS1
    clear hS hS0 hS1
    have hsl : ¬ (S.size : Int) < n := by omega
    have hd : decide (S.size < n) = false := decide_eq_false (by omega)
    have hns : n ≤ S.size := by omega
    have hni : (n : Int) ≤ S.size := by omega
    rw [← hsz] at e1
    clear hsz hsl
    go_enter Try.func100, Try.ntmps100
    go_wp2
    go_ret
    refine ⟨rfl, ⟨x.drop n, ?_, fun _ => rfl, fun h => by (cases h), HD4.out⟩, only_cell _ _ _ _⟩
    rw [HS1.out]
    exact H1.out.set 0 _
end Go.Proofs.Ytdhdphmehjkbnaa
