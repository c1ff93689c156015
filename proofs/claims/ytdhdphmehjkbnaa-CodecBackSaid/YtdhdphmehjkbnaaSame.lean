/- The codec law's own 'same': a reader and the document's. -/
import Derived.Test.YtdhdphmehjkbnaaPtM
import Derived.Test.YtdhdphmehjkbnaaOpenV
namespace Go.Proofs.Ytdhdphmehjkbnaa
open Go.RowKit Go.Afx
variable {RB : Nat → Prop}

/-- What two readers change. -/
def Ours (p : Option Addr) (q : Nat) (k : Nat) : Prop := Mine p k ∨ k = q
/-- A reader, the document's, and a question in the block n0. -/
structure Two (w0 : World) (p : Option Addr) (RB : Nat → Prop) (q n0 : Nat) (cs : List Value) (br : Bool) (lr : List UInt8) (bp : Bool) (lp : List UInt8) (w : World) : Prop where
  rd : Rdr w p RB br lr
  pt : Prt w q bp lp
  bx : Blk w n0 80 cs
  on : Only (Ours p q) w0 w
  pq : ¬ Mine p q
  rq : ¬ RB q
  rb : ∀ k, RB k → k < w.heap.size
  nm : ¬ Mine p n0
  nq : n0 ≠ q

theorem agree_only {S : Nat → Prop} {w w' : World} {n : Nat} (h : Only S w w') (hn : n < w.heap.size) (hs : ¬ S n) : Agree (fun k => k = n) w w' := fun b o hb => by
  subst hb
  exact h.cell (p := ⟨b, o, none⟩) hn hs
section
variable {w0 w : World} {p : Option Addr} {q n0 : Nat} {cs : List Value} {br bp : Bool} {lr lp : List UInt8}
theorem Two.stepR (h : Two w0 p RB q n0 cs br lr bp lp w) {w' : World} {br' : Bool} {lr' : List UInt8} (hr : Rdr w' p RB br' lr') (ho : Only (Mine p) w w') : Two w0 p RB q n0 cs br' lr' bp lp w' ∧ Agree (fun k => k = n0) w w' ∧ Only (Ours p q) w w' :=
  ⟨⟨hr, h.pt.only ho h.pq, h.bx.only ho h.nm, h.on.trans ho (fun _ _ h => .inl h), h.pq, h.rq, fun k hk => Nat.lt_of_lt_of_le (h.rb k hk) ho.size, h.nm, h.nq⟩, agree_only ho h.bx.lt h.nm, ho.mono (fun _ _ h => .inl h)⟩
theorem Two.stepP (h : Two w0 p RB q n0 cs br lr bp lp w) {w' : World} {bp' : Bool} {lp' : List UInt8} (hp : Prt w' q bp' lp') (ho : Only (fun k => k = q) w w') : Two w0 p RB q n0 cs br lr bp' lp' w' ∧ Agree (fun k => k = n0) w w' ∧ Only (Ours p q) w w' :=
  ⟨⟨h.rd.only ho (fun _ hk hm => h.pq (hk ▸ hm)) (fun _ hk hm => h.rq (hk ▸ hm)), hp, h.bx.only ho h.nq, h.on.trans ho (fun _ _ h => .inr h), h.pq, h.rq, fun k hk => Nat.lt_of_lt_of_le (h.rb k hk) ho.size, h.nm, h.nq⟩, agree_only ho h.bx.lt h.nq, ho.mono (fun _ _ h => .inr h)⟩
theorem Two.drew (h : Two w0 p RB q n0 cs br lr bp lp w) : Two w0 p RB q n0 cs br lr bp lp w.drew :=
  ⟨h.rd.below ((Below.refl _ _).drew), h.pt.below ((Below.refl _ _).drew), h.bx.drew, h.on.drew, h.pq, h.rq, h.rb, h.nm, h.nq⟩
theorem Two.belowW (h : Two w0 p RB q n0 cs br lr bp lp w) {w' : World} (hb : Below w.heap.size w w') : Two w0 p RB q n0 cs br lr bp lp w' :=
  ⟨h.rd.below hb, h.pt.below hb, h.bx.below hb, h.on.trans (Only.of_none hb (S := fun _ => False)) (fun _ _ h => h.elim), h.pq, h.rq, fun k hk => Nat.lt_of_lt_of_le (h.rb k hk) hb.size, h.nm, h.nq⟩

theorem t_size_r (h : Two w0 p RB q n0 cs br lr bp lp w) (most : Int) (hm : fit64 most) : Calls Try.prog 71 #[.pointer p, .int .i64 most] w fun e w' => e = .returned (.int .i64 ((rSize most br lr).1 : Int)) ∧ Two w0 p RB q n0 cs (rSize most br lr).2.1 (rSize most br lr).2.2 bp lp w' ∧ Agree (fun k => k = n0) w w' ∧ Only (Ours p q) w w' :=
  (size_r w p br lr h.rd most hm).mono fun _ _ ⟨h1, h2, h3⟩ => ⟨h1, h.stepR h2 h3⟩
theorem t_size_p (h : Two w0 p RB q n0 cs br lr bp lp w) (most : Int) (hm : fit64 most) : Calls Try.prog 79 #[.pointer (some ⟨q, 0, none⟩), .int .i64 most] w fun e w' => e = .returned (.int .i64 ((rSize most bp lp).1 : Int)) ∧ Two w0 p RB q n0 cs br lr (rSize most bp lp).2.1 (rSize most bp lp).2.2 w' ∧ Agree (fun k => k = n0) w w' ∧ Only (Ours p q) w w' :=
  (size_pt w q bp lp h.pt most hm).mono fun _ _ ⟨h1, h2, h3⟩ => ⟨h1, h.stepP h2 h3⟩
theorem t_text_r (h : Two w0 p RB q n0 cs br lr bp lp w) (most : Int) (hm : fit64 most) : Calls Try.prog 48 #[.pointer p, .int .i64 most] w fun e w' => e = .returned (.string (bs (rText most br lr).1)) ∧ Two w0 p RB q n0 cs (rText most br lr).2.1 (rText most br lr).2.2 bp lp w' ∧ Agree (fun k => k = n0) w w' ∧ Only (Ours p q) w w' :=
  (text_r w p br lr h.rd most hm).mono fun _ _ ⟨h1, h2, h3⟩ => ⟨h1, h.stepR h2 h3⟩
theorem t_text_p (h : Two w0 p RB q n0 cs br lr bp lp w) (most : Int) (hm : fit64 most) : Calls Try.prog 81 #[.pointer (some ⟨q, 0, none⟩), .int .i64 most] w fun e w' => e = .returned (.string (bs (rText most bp lp).1)) ∧ Two w0 p RB q n0 cs br lr (rText most bp lp).2.1 (rText most bp lp).2.2 w' ∧ Agree (fun k => k = n0) w w' ∧ Only (Ours p q) w w' :=
  (text_pt w q bp lp h.pt most hm).mono fun _ _ ⟨h1, h2, h3⟩ => ⟨h1, h.stepP h2 h3⟩
theorem t_sign_r (h : Two w0 p RB q n0 cs br lr bp lp w) : Calls Try.prog 47 #[.pointer p] w fun e w' => e = .returned (.int .i64 (rSign br lr).1) ∧ Two w0 p RB q n0 cs (rSign br lr).2.1 (rSign br lr).2.2 bp lp w' ∧ Agree (fun k => k = n0) w w' ∧ Only (Ours p q) w w' :=
  (sign_r w p br lr h.rd).mono fun _ _ ⟨h1, h2, h3⟩ => ⟨h1, h.stepR h2 h3⟩
theorem t_sign_p (h : Two w0 p RB q n0 cs br lr bp lp w) : Calls Try.prog 80 #[.pointer (some ⟨q, 0, none⟩)] w fun e w' => e = .returned (.int .i64 (rSign bp lp).1) ∧ Two w0 p RB q n0 cs br lr (rSign bp lp).2.1 (rSign bp lp).2.2 w' ∧ Agree (fun k => k = n0) w w' ∧ Only (Ours p q) w w' :=
  (sign_pt w q bp lp h.pt).mono fun _ _ ⟨h1, h2, h3⟩ => ⟨h1, h.stepP h2 h3⟩
theorem t_val_r (h : Two w0 p RB q n0 cs br lr bp lp w) : Calls Try.prog 82 #[.pointer p] w fun e w' => e = .returned (rVal br lr).1.agg ∧ Two w0 p RB q n0 cs (rVal br lr).2.1 (rVal br lr).2.2 bp lp w' ∧ Agree (fun k => k = n0) w w' ∧ Only (Ours p q) w w' :=
  (val_r w p br lr h.rd h.rb).mono fun _ _ ⟨h1, h2, h3⟩ => ⟨h1, h.stepR h2 h3⟩
theorem t_val_p (h : Two w0 p RB q n0 cs br lr bp lp w) : Calls Try.prog 83 #[.pointer (some ⟨q, 0, none⟩)] w fun e w' => e = .returned (rVal bp lp).1.agg ∧ Two w0 p RB q n0 cs br lr (rVal bp lp).2.1 (rVal bp lp).2.2 w' ∧ Agree (fun k => k = n0) w w' ∧ Only (Ours p q) w w' :=
  (val_pt w q bp lp h.pt).mono fun _ _ ⟨h1, h2, h3⟩ => ⟨h1, h.stepP h2 h3⟩
theorem ours_lt (h : Two w0 p RB q n0 cs br lr bp lp w) {k : Nat} (hk : Ours p q k) : k < w.heap.size := by
  rcases hk with hk | rfl
  · exact h.rd.lt k hk
  · exact h.pt.lt
/-- A row that stays as it is. -/
def RowIn (p : Option Addr) (q : Nat) (v : Value) (l : List AV) (w : World) : Prop := Sl w (fun k => ¬ Ours p q k) 3 v l.length (rowCells l)
theorem t_row_r (h : Two w0 p RB q n0 cs br lr bp lp w) (hl : lr.length ≤ 1000000) (most : Int) (hm : fit64 most) : Calls Try.prog 72 #[.pointer p, .int .i64 most] w fun e w' => ∃ v, e = .returned v ∧ RowIn p q v (rRow most br lr).1 w' ∧ Two w0 p RB q n0 cs (rRow most br lr).2.1 (rRow most br lr).2.2 bp lp w' ∧ Agree (fun k => k = n0) w w' ∧ Only (Ours p q) w w' :=
  (row_r w p br lr h.rd h.rb most hm hl).mono fun _ _ ⟨v, h1, h2, h3, h4, h5⟩ => ⟨v, h1, h2.sl (fun k hk ho => by have := h3 k hk; have := ours_lt h ho; omega), h.stepR h4 h5⟩
theorem t_row_p (h : Two w0 p RB q n0 cs br lr bp lp w) (most : Int) (hm : fit64 most) : Calls Try.prog 85 #[.pointer (some ⟨q, 0, none⟩), .int .i64 most] w fun e w' => ∃ v, e = .returned v ∧ RowIn p q v (rRow most bp lp).1 w' ∧ Two w0 p RB q n0 cs br lr (rRow most bp lp).2.1 (rRow most bp lp).2.2 w' ∧ Agree (fun k => k = n0) w w' ∧ Only (Ours p q) w w' :=
  (row_pt w q bp lp h.pt most hm).mono fun _ _ ⟨v, h1, h2, h3, h4, h5⟩ => ⟨v, h1, h2.sl (fun k hk ho => by have := h3 k hk; have := ours_lt h ho; omega), h.stepP h4 h5⟩
/-- Rows that stay as they are. -/
def RowsIn (p : Option Addr) (q : Nat) (v : Value) (l : List (List AV)) (w : World) : Prop := ∃ rows : List RowV, rows.map RowV.l = l ∧ RowsAt w (fun k => ¬ Ours p q k) v rows
theorem t_rows_r (h : Two w0 p RB q n0 cs br lr bp lp w) (hl : lr.length ≤ 1000000) (most cols : Int) (hm : fit64 most) (hc : fit64 cols) : Calls Try.prog 50 #[.pointer p, .int .i64 most, .int .i64 cols] w fun e w' => ∃ v, e = .returned v ∧ RowsIn p q v (rRows most cols br lr).1 w' ∧ Two w0 p RB q n0 cs (rRows most cols br lr).2.1 (rRows most cols br lr).2.2 bp lp w' ∧ Agree (fun k => k = n0) w w' ∧ Only (Ours p q) w w' :=
  (rows_r w p br lr h.rd h.rb most cols hm hc hl).mono fun _ _ ⟨v, rows, h1, h2, h3, h4, h5, h6, h7⟩ => ⟨v, h1, ⟨rows, h2, h3.sl (fun k hk ho => by have := h4 k hk; have := ours_lt h ho; omega), fun r hr => (h5 r hr).mono (Nat.le_refl _) (fun _ _ _ => rfl) (fun k hk _ ho => by have := ours_lt h ho; omega)⟩, h.stepR h6 h7⟩
theorem t_rows_p (h : Two w0 p RB q n0 cs br lr bp lp w) (most cols : Int) (hm : fit64 most) (hc : fit64 cols) : Calls Try.prog 86 #[.pointer (some ⟨q, 0, none⟩), .int .i64 most, .int .i64 cols] w fun e w' => ∃ v, e = .returned v ∧ RowsIn p q v (rRows most cols bp lp).1 w' ∧ Two w0 p RB q n0 cs br lr (rRows most cols bp lp).2.1 (rRows most cols bp lp).2.2 w' ∧ Agree (fun k => k = n0) w w' ∧ Only (Ours p q) w w' :=
  (rows_pt w q bp lp h.pt most cols hm hc).mono fun _ _ ⟨v, rows, h1, h2, h3, h4, h5, h6, h7⟩ => ⟨v, h1, ⟨rows, h2, h3.sl (fun k hk ho => by have := h4 k hk; have := ours_lt h ho; omega), fun r hr => (h5 r hr).mono (Nat.le_refl _) (fun _ _ _ => rfl) (fun k hk _ ho => by have := ours_lt h ho; omega)⟩, h.stepP h6 h7⟩
theorem RowIn.step {v : Value} {l : List AV} {w' : World} (h : RowIn p q v l w) (ho : Only (Ours p q) w w') : RowIn p q v l w' := Sl.only h ho (fun _ h => h)
theorem RowsIn.step {v : Value} {l : List (List AV)} {w' : World} (h : RowsIn p q v l w) (ho : Only (Ours p q) w w') : RowsIn p q v l w' := by
  obtain ⟨rows, h1, h2⟩ := h
  exact ⟨rows, h1, h2.only ho (fun _ h => h)⟩
theorem t_same_row {v v' : Value} {l : List AV} (h : RowIn p q v l w) (h' : RowIn p q v' l w) : Calls Try.prog 84 #[v, v'] w fun e w' => e = .returned (.bool true) ∧ Below w.heap.size w w' := same_row w _ _ v v' l h h'
theorem t_same_rows {v v' : Value} {l : List (List AV)} (h : RowsIn p q v l w) (h' : RowsIn p q v' l w) : Calls Try.prog 49 #[v, v'] w fun e w' => e = .returned (.bool true) ∧ Below w.heap.size w w' := by
  obtain ⟨rows, h1, h2⟩ := h
  obtain ⟨rows', h1', h2'⟩ := h'
  exact same_rows w _ _ v v' rows rows' h2 h2' (h1.trans h1'.symm)
end
end Go.Proofs.Ytdhdphmehjkbnaa
