/- Lines: NewLine, Len, Rows. -/
import Derived.Test.YtdhdphmehjkbnaaLnC
namespace Go.Proofs.Ytdhdphmehjkbnaa
open Go.RowKit Go.Afx
variable {F : Nat → Prop}

def rowsN (l : List BatV) : Nat := (l.map fun b => b.rows.length).sum
theorem rowsN_append (a b : List BatV) : rowsN (a ++ b) = rowsN a + rowsN b := by simp [rowsN]
theorem batCells_append (a b : List BatV) : batCells (a ++ b) = batCells a ++ batCells b := by simp [batCells]
theorem rowsN_key {a b : List BatV} (h : a.map BatV.key = b.map BatV.key) : rowsN a = rowsN b := by
  have e : ∀ l : List BatV, rowsN l = ((l.map BatV.key).map (fun k => k.2.length)).sum := fun l => by
    unfold rowsN
    rw [List.map_map]
    congr 1
    refine List.map_congr_left fun b _ => ?_
    simp [BatV.key]
  rw [e, e, h]
/-- A line in the block b; its batches in lv, a slice of its own. -/
def IsLine (F : Nat → Prop) (w : World) (b : Nat) (lv : Value) (nm : ByteArray) (cl : List ColV) (room : Int) (l : List BatV) : Prop :=
  ∃ cv, Blk w b 135 [.string nm, cv, lv, .int .i64 room, .int .i64 (rowsN l : Nat)] ∧ Sl w (fun k => k ≠ b ∧ lv.ownBlock ≠ some k ∧ F k) 2 cv cl.length (colCells cl) ∧
    Own w 38 2 lv l.length (batCells l) ∧ lv.ownBlock ≠ some b ∧ ∀ x ∈ l, RowsAt w (fun k => k ≠ b ∧ lv.ownBlock ≠ some k ∧ F k) x.v x.rows
theorem IsLine.below {w w' : World} {b : Nat} {lv : Value} {nm : ByteArray} {cl : List ColV} {room : Int} {l : List BatV} (h : IsLine F w b lv nm cl room l) (hb : Below w.heap.size w w') : IsLine F w' b lv nm cl room l := by
  obtain ⟨cv, h1, h2, h3, h4, h5⟩ := h
  exact ⟨cv, h1.below hb, h2.below hb, h3.below hb, h4, fun x hx => (h5 x hx).below hb⟩
theorem IsLine.lt {w : World} {b : Nat} {lv : Value} {nm : ByteArray} {cl : List ColV} {room : Int} {l : List BatV} (h : IsLine F w b lv nm cl room l) : b < w.heap.size := by
  obtain ⟨cv, h1, _⟩ := h; exact h1.lt
def NewLineOut (F : Nat → Prop) (w : World) (nm : ByteArray) (cl : List ColV) (room : Int) (e : Ending) (w' : World) : Prop :=
  ((rightC nm cl = false ∨ room < 1) ∧ e = .returned (.tuple #[.pointer none, .int .i64 1]) ∧ Below w.heap.size w w') ∨
  (rightC nm cl = true ∧ 1 ≤ room ∧ ∃ b, e = .returned (.tuple #[.pointer (some ⟨b, 0, none⟩), .int .i64 0]) ∧ w.heap.size ≤ b ∧ IsLine F w' b (.slice none 0 0) nm cl room [] ∧ Below w.heap.size w w')

set_option maxRecDepth 100000 in
theorem newline_any (w : World) (B : Nat → Prop) (nm : ByteArray) (cv : Value) (cl : List ColV) (hc : Sl w B 2 cv cl.length (colCells cl)) (hn : nm.size ≤ maxLen) (hns : ∀ c ∈ cl, c.name.size ≤ maxLen) (hcl : cl.length ≤ 1000000) (room : Int) (hF : ∀ k, w.heap.size ≤ k → F k) :
    Calls Try.prog 53 #[.agg #[.string nm, cv], .int .i64 room] w (NewLineOut F w nm cl room) := by
  obtain ⟨pc, cc, rfl, hcc1, hcc⟩ := hc.form
  have hal : Below w.heap.size w (w.alloc (.cells #[.string nm, .slice pc cl.length cc] 24)) := (Below.refl _ _).alloc (Nat.le_refl _) _
  have HO := Lib.hid (open_any _ B nm _ cl (hc.below hal) hn hns hcl)
  have HAL := Lib.hid hal
  have HF := Lib.hid hF
  clear hc hal hn hns hF
  go_enter Try.func53, Try.ntmps53
  go_wp2_with fail
  refine HO.out.mono ?_
  clear HO
  rintro e w2 hoo
  rcases hoo with ⟨hr, rfl, hb⟩ | ⟨hr, v, rfl, hs, hb⟩
  · have HB := Lib.hid (HAL.out.trans (hb.mono HAL.out.size))
    have HR := Lib.hid hr
    clear hb hr
    go_wp2
    go_ret2
    exact Or.inl ⟨.inl HR.out, rfl, HB.out.alloc HB.out.size _⟩
  · obtain ⟨p2, c2, rfl, _, _⟩ := hs.form
    have HB := Lib.hid (HAL.out.trans (hb.mono HAL.out.size))
    have HR := Lib.hid hr
    have HS := Lib.hid hs
    have h0 : (w2.alloc (.cells #[.string nm, .slice p2 cl.length c2] 111)).heap.size = w2.heap.size + 1 := by simp
    clear hb hr hs
    by_cases hroom : room < 1
    · have d1 : decide (room < 1) = true := decide_eq_true hroom
      go_wp2
      go_ret2
      exact Or.inl ⟨.inr hroom, rfl, HB.out.alloc HB.out.size _⟩
    · have d1 : decide (room < 1) = false := decide_eq_false hroom
      go_wp2
      go_ret2
      have hal2 : Below w2.heap.size w2 (w2.alloc (.cells #[.string nm, .slice p2 cl.length c2] 111)) := (Below.refl _ _).alloc (Nat.le_refl _) _
      have hal3 : Below w2.heap.size w2 ((w2.alloc (.cells #[.string nm, .slice p2 cl.length c2] 111)).alloc (.cells #[.string nm, .slice p2 cl.length c2, .slice none 0 0, .int .i64 room, .int .i64 0] 135)) := hal2.alloc (by omega) _
      have hk := Blk.new (w2.alloc (.cells #[.string nm, .slice p2 cl.length c2] 111)) 135 [.string nm, .slice p2 cl.length c2, .slice none 0 0, .int .i64 room, .int .i64 0]
      rw [h0] at hk
      have hsz := HB.out.size
      refine Or.inr ⟨HR.out, by omega, w2.heap.size + 1, rfl, by omega, ⟨_, hk, ?_, Own.nil _ _ _, by simp [Value.ownBlock], by simp⟩, HB.out.trans (hal3.mono HB.out.size)⟩
      exact HS.out.mono hal3.size (fun k _ hl => hal3.block k hl) (fun k hk hl => ⟨by omega, by simp [Value.ownBlock], HF.out k (Nat.le_trans HAL.out.size hk)⟩)

theorem llen (w : World) (b : Nat) (lv : Value) (nm : ByteArray) (cl : List ColV) (room : Int) (l : List BatV) (h : IsLine F w b lv nm cl room l) :
    Calls Try.prog 58 #[.pointer (some ⟨b, 0, none⟩)] w fun e w' => e = .returned (.int .i64 l.length) ∧ w = w' := by
  obtain ⟨cv, h1, h2, h3, h4, h5⟩ := h
  have k0 : w.cell? ⟨b, 2, none⟩ = some lv := h1.cell 2
  obtain ⟨p, c, rfl, hc1, hc2⟩ := own_form h3
  clear h1 h2 h3 h4 h5
  go_enter Try.func58, Try.ntmps58
  go_wp2
  go_ret
  exact ⟨rfl, rfl⟩
theorem lrows (w : World) (b : Nat) (lv : Value) (nm : ByteArray) (cl : List ColV) (room : Int) (l : List BatV) (h : IsLine F w b lv nm cl room l) :
    Calls Try.prog 59 #[.pointer (some ⟨b, 0, none⟩)] w fun e w' => e = .returned (.int .i64 (rowsN l : Nat)) ∧ w = w' := by
  obtain ⟨cv, h1, h2, h3, h4, h5⟩ := h
  have k0 : w.cell? ⟨b, 4, none⟩ = some (.int .i64 (rowsN l : Nat)) := h1.cell 4
  clear h1 h2 h3 h4 h5
  generalize (rowsN l : Nat) = n at *
  go_enter Try.func59, Try.ntmps59
  go_wp2
  go_ret
  exact ⟨rfl, rfl⟩
end Go.Proofs.Ytdhdphmehjkbnaa
