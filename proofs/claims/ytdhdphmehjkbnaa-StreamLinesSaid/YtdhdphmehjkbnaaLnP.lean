/- Lines: Put. -/
import Derived.Test.YtdhdphmehjkbnaaLnF
import Derived.Test.YtdhdphmehjkbnaaLnT
import Derived.Deep.CutBlock
import Derived.Deep.DeepCutAuto
import Derived.IntWalk
namespace Go.Proofs.Ytdhdphmehjkbnaa
open Go.RowKit Go.Afx
variable {F : Nat → Prop}

def lateB (id : Int) (l : List BatV) : Bool := match l.getLast? with | none => false | some x => decide (id ≤ x.id)
def putE (fit : Bool) (id : Int) (l : List BatV) (room : Int) (n : Nat) : Int := if fit = false then 13 else if id < 1 then 1 else if lateB id l = true then 1 else if room - (rowsN l : Nat) < n then 18 else 0
/-- What Put leaves. -/
def PutOut (F : Nat → Prop) (w : World) (b : Nat) (lv : Value) (nm : ByteArray) (cl : List ColV) (room : Int) (l : List BatV) (id : Int) (rows : List RowV) (e : Ending) (w' : World) : Prop :=
  e = .returned (.int .i64 (putE (fitsB cl (rows.map RowV.l)) id l room rows.length)) ∧
  ((putE (fitsB cl (rows.map RowV.l)) id l room rows.length ≠ 0 ∧ Below w.heap.size w w') ∨
   (putE (fitsB cl (rows.map RowV.l)) id l room rows.length = 0 ∧ ∃ lv' y, IsLine F w' b lv' nm cl room (l ++ [y]) ∧ y.key = (id, rows.map RowV.l) ∧ (∀ k, lv'.ownBlock = some k → lv.ownBlock = some k ∨ w.heap.size ≤ k) ∧ Only (fun k => k = b ∨ lv.ownBlock = some k) w w'))

theorem only_put {w w' : World} {v u : Value} {b i : Nat} (h : Only (fun q => v.ownBlock = some q) w w') : Only (fun q => q = b ∨ v.ownBlock = some q) w (w'.setCell ⟨b, i, none⟩ u) :=
  (h.mono (S' := fun q => q = b ∨ v.ownBlock = some q) (fun _ _ h => Or.inr h)).setCell (p := ⟨b, i, none⟩) (fun _ => Or.inl rfl) _
theorem line_put {w w7 w8 w9 : World} {b : Nat} {lv cv v7 lv8 : Value} {l : List BatV} {nm : ByteArray} {cl : List ColV} {room id : Int} {rows racc : List RowV}
    (HA2 : Sl w (fun k => k ≠ b ∧ lv.ownBlock ≠ some k ∧ F k) 2 cv cl.length (colCells cl)) (HA4 : lv.ownBlock ≠ some b) (HA5 : ∀ x ∈ l, RowsAt w (fun k => k ≠ b ∧ lv.ownBlock ≠ some k ∧ F k) x.v x.rows)
    (hF : ∀ k, w.heap.size ≤ k → F k) (hne : ∀ q, lv.ownBlock = some q → q < w.heap.size) (hbl : b < w.heap.size) (hw7 : Below w.heap.size w w7) (HRA : RowsAt w7 (fun k => w.heap.size ≤ k) v7 racc) (HRACC : racc.map RowV.l = rows.map RowV.l)
    (hal : Below w7.heap.size w7 w8) (hs8 : w8.heap.size = w7.heap.size + 1) (HB9 : Blk w9 b 135 [.string nm, cv, lv8, .int .i64 room, .int .i64 (rowsN l : Nat)])
    (HG1 : Own w9 38 2 lv8 (l.length + 1) (batCells l ++ batCells [⟨id, v7, racc⟩])) (HG2 : Only (fun q => q = b ∨ lv.ownBlock = some q) w8 w9) (G3 : lv8.ownBlock = lv.ownBlock ∨ lv8.ownBlock = some w8.heap.size) :
    ∃ lv' y, IsLine F (w9.setCell ⟨b, 4, none⟩ (.int .i64 (((rowsN l : Nat) : Int) + (rows.length : Int)))).drew b lv' nm cl room (l ++ [y]) ∧ y.key = (id, rows.map RowV.l) ∧ (∀ k, lv'.ownBlock = some k → lv.ownBlock = some k ∨ w.heap.size ≤ k) ∧
      Only (fun k => k = b ∨ lv.ownBlock = some k) w (w9.setCell ⟨b, 4, none⟩ (.int .i64 (((rowsN l : Nat) : Int) + (rows.length : Int)))).drew := by
  have hw8 : w.heap.size < w8.heap.size := by have := hw7.size; omega
  have hob : ∀ q, lv8.ownBlock = some q → lv.ownBlock = some q ∨ q = w8.heap.size := fun q hq => by
    rcases G3 with h | h
    · rw [h] at hq; exact .inl hq
    · rw [h] at hq
      exact .inr (by simpa using hq.symm)
  have hO : Only (fun k => k = b ∨ lv.ownBlock = some k) w8 (w9.setCell ⟨b, 4, none⟩ (.int .i64 (((rowsN l : Nat) : Int) + (rows.length : Int)))).drew := (HG2.setCell (p := ⟨b, 4, none⟩) (fun _ => Or.inl rfl) _).drew
  have hb8 : Below w.heap.size w w8 := hw7.trans (hal.mono hw7.size)
  have hOw : Only (fun k => k = b ∨ lv.ownBlock = some k) w (w9.setCell ⟨b, 4, none⟩ (.int .i64 (((rowsN l : Nat) : Int) + (rows.length : Int)))).drew := (Only.of_none hb8).trans hO (fun _ _ h => h)
  have hlen : racc.length = rows.length := by
    have := congrArg List.length HRACC
    simpa using this
  have hold : ∀ q, q < w.heap.size → (q ≠ b ∧ lv.ownBlock ≠ some q ∧ F q) → q ≠ b ∧ lv8.ownBlock ≠ some q ∧ F q := fun q hq h => ⟨h.1, fun h9 => by
    rcases hob q h9 with h8 | h8
    · exact h.2.1 h8
    · omega, h.2.2⟩
  have hnew : ∀ q, q < w7.heap.size → w.heap.size ≤ q → q ≠ b ∧ lv8.ownBlock ≠ some q ∧ F q := fun q hq h => ⟨by omega, fun h9 => by
    rcases hob q h9 with h8 | h8
    · have := hne q h8; omega
    · omega, hF q h⟩
  have hd : ∀ q, q ≠ b ∧ lv.ownBlock ≠ some q ∧ F q → ¬ (q = b ∨ lv.ownBlock = some q) := fun q h h9 => h9.elim h.1 h.2.1
  refine ⟨lv8, ⟨id, v7, racc⟩, ⟨cv, ?_, ?_, ?_, ?_, ?_⟩, ?_, ?_, hOw⟩
  · refine Blk.congr (HB9.set 4 _).drew ?_
    rw [rowsN_append]
    simp [rowsN, hlen]
  · exact HA2.mono hOw.size (fun q hq hl => hOw.block q hl (hd q hq)) (fun q hq hl => hold q hl hq)
  · rw [List.length_append, batCells_append]
    exact (HG1.setOther (p := ⟨b, 4, none⟩) (fun h => by
      rcases hob b h with h8 | h8
      · exact HA4 h8
      · omega) _).drew
  · intro h
    rcases hob b h with h8 | h8
    · exact HA4 h8
    · omega
  · intro y hy
    rcases List.mem_append.1 hy with hy | hy
    · have h8 := HA5 y hy
      exact ⟨h8.1.mono hOw.size (fun q hq hl => hOw.block q hl (hd q hq)) (fun q hq hl => hold q hl hq), fun r hr => (h8.2 r hr).mono hOw.size (fun q hq hl => hOw.block q hl (hd q hq)) (fun q hq hl => hold q hl hq)⟩
    · rw [List.mem_singleton.1 hy]
      have hbl7 : ∀ q, w.heap.size ≤ q → q < w7.heap.size → (w9.setCell ⟨b, 4, none⟩ (.int .i64 (((rowsN l : Nat) : Int) + (rows.length : Int)))).drew.heap[q]? = w7.heap[q]? := fun q hq hl => by
        rw [hO.block q (Nat.lt_of_lt_of_le hl hal.size) (fun h => by
          rcases h with h | h
          · omega
          · have := hne q h; omega), hal.block q hl]
      have hsz : w7.heap.size ≤ (w9.setCell ⟨b, 4, none⟩ (.int .i64 (((rowsN l : Nat) : Int) + (rows.length : Int)))).drew.heap.size := Nat.le_trans hal.size hO.size
      exact ⟨HRA.1.mono hsz (fun q hq hl => hbl7 q hq hl) (fun q hq hl => hnew q hl hq), fun r hr => (HRA.2 r hr).mono hsz (fun q hq hl => hbl7 q hq hl) (fun q hq hl => hnew q hl hq)⟩
  · simp [BatV.key, HRACC]
  · intro k hk
    rcases hob k hk with h8 | h8
    · exact .inl h8
    · exact .inr (by omega)
set_option maxRecDepth 100000 in
set_option maxHeartbeats 1000000 in
theorem lput (w : World) (b : Nat) (lv : Value) (nm : ByteArray) (cl : List ColV) (room : Int) (l : List BatV) (h : IsLine F w b lv nm cl room l) (hroom : 1 ≤ room ∧ room ≤ 9223372036854775807) (hll : l.length ≤ 1000000) (hrn : rowsN l ≤ 1000000000)
    (hF : ∀ k, w.heap.size ≤ k → F k) (id : Int) (B : Nat → Prop) (rv : Value) (rows : List RowV) (hr : RowsAt w B rv rows) (hrl : rows.length ≤ 1000000) (hrr : ∀ r ∈ rows, r.l.length ≤ 1000000) :
    Calls Try.prog 54 #[.pointer (some ⟨b, 0, none⟩), .agg #[.int .i64 id, rv]] w (PutOut F w b lv nm cl room l id rows) := by
  obtain ⟨pr, cr, rfl, hcr1, hcr2⟩ := hr.1.form
  have hal : Below w.heap.size w (w.alloc (.cells #[.int .i64 id, .slice pr rows.length cr] 38)) := (Below.refl _ _).alloc (Nat.le_refl _) _
  have HBK : Hid (Blk (w.alloc (.cells #[.int .i64 id, .slice pr rows.length cr] 38)) w.heap.size 38 [.int .i64 id, .slice pr rows.length cr]) := Blk.new w _ _
  obtain ⟨cv, a1, a2, a3, a4, a5⟩ := h
  have HFF := Lib.hid hF
  clear hF
  have hbl := a1.lt
  obtain ⟨pl, cpl, rfl, hpl1, hpl2⟩ := own_form a3
  obtain ⟨pc, cc, rfl, hcc1, hcc2⟩ := a2.form
  have HA2 := Lib.hid a2
  have HA3 := Lib.hid a3
  have HA4 := Lib.hid a4
  have HA5 := Lib.hid a5
  have HAL := Lib.hid hal
  have H1 := Lib.hid (a1.below hal)
  have HF := Lib.hid (fun W (hb : Below (w.alloc (.cells #[.int .i64 id, .slice pr rows.length cr] 38)).heap.size (w.alloc (.cells #[.int .i64 id, .slice pr rows.length cr] 38)) W) => colfits_any W _ B nm _ _ cl rows ((a2.below hal).below hb) ((hr.below hal).below hb) hrr)
  have hd0 : Below (w.alloc (.cells #[.int .i64 id, .slice pr rows.length cr] 38)).heap.size (w.alloc (.cells #[.int .i64 id, .slice pr rows.length cr] 38)) (w.alloc (.cells #[.int .i64 id, .slice pr rows.length cr] 38)).drew := (Below.refl _ _).drew
  have HFD := Lib.hid (HF.out _ hd0)
  have HD0 := Lib.hid hd0
  have hlate : Hid (∀ m : Nat, ∀ hm : m < l.length, l.length = m + 1 → lateB id l = decide (id ≤ l[m].id)) := fun m hm h => by
    unfold lateB
    rw [List.getLast?_eq_getElem?, h, Nat.add_sub_cancel, List.getElem?_eq_getElem hm]
  have hlate0 : Hid (l.length = 0 → lateB id l = false) := fun h => by
    rw [List.eq_nil_of_length_eq_zero h]; rfl
  have HCE : Hid (∀ f, putE f id l room rows.length = if f = false then 13 else if id < 1 then 1 else if lateB id l = true then 1 else if room - (rowsN l : Nat) < rows.length then 18 else 0) := fun f => rfl
  have hbat : BatAt w (fun _ => True) (.slice pl l.length cpl) l := ⟨a3.sl (fun _ _ => trivial), fun x hx => ⟨(a5 x hx).1.mono (Nat.le_refl _) (fun _ _ _ => rfl) (fun _ _ _ => trivial), fun r hr => ((a5 x hx).2 r hr).mono (Nat.le_refl _) (fun _ _ _ => rfl) (fun _ _ _ => trivial)⟩⟩
  have HBAT := Lib.hid (hbat.below hal)
  have HR := Lib.hid hr
  have HRR := Lib.hid hrr
  unfold PutOut
  generalize fitsB cl (rows.map RowV.l) = f at *
  have HCF := Lib.hid (HCE.out f)
  clear HCE hr hal hrr HF hd0 a1 a2 a3 a4 a5 hbat
  generalize putE f id l room rows.length = out at *
  have hbw : ∀ W, Below (w.alloc (.cells #[.int .i64 id, .slice pr rows.length cr] 38)).heap.size (w.alloc (.cells #[.int .i64 id, .slice pr rows.length cr] 38)) W → Below w.heap.size w W := fun W h => HAL.out.trans (h.mono HAL.out.size)
  have HBW := Lib.hid hbw
  clear hbw
  cases f
  · have e1 : out = 13 := HCF.out
    subst e1
    go_enter Try.func54, Try.ntmps54
    go_upto_region 3 with fail
    generalize hw1 : w.alloc (.cells #[.int .i64 id, .slice pr rows.length cr] 38) = w1 at *
    clear hw1
    have b0 : w1.cell? ⟨b, 0, none⟩ = some (.string nm) := H1.out.cell 0
    have b1 : w1.cell? ⟨b, 1, none⟩ = some (.slice pc cl.length cc) := H1.out.cell 1
    have x1 : w1.cell? ⟨w.heap.size, 1, none⟩ = some (.slice pr rows.length cr) := HBK.out.cell 1
    refine wp_region_lit_plan [] [(0, 0), (1, 0), (2, 0), (4, 0), (3, 1), (5, 1), (6, 4), (7, 0), (8, 0)] (fun _ => False) (by kernel_rfl) (by kernel_rfl) (fun c a d v w h => by cases d <;> exact h) ?_
    go_wp2_with (first
      | (refine plan_pure (v := _) (by rfl) (by rfl) (by rfl) (by intro _; go_simp; with_reducible rfl) ?_; simp only [List.setIfInBounds_toArray, List.set_cons_zero, List.set_cons_succ]; try go_bits) | (refine plan_read (v := _) (by rfl) (by rfl) (by rfl) (by go_simp; with_reducible rfl) ?_; simp only [List.setIfInBounds_toArray, List.set_cons_zero, List.set_cons_succ]; try go_bits) | (refine plan_readB (v := _) (by rfl) (by rfl) (by rfl) (by intro _ hag; unfold Agree at hag; go_simp; with_reducible rfl) ?_; simp only [List.setIfInBounds_toArray, List.set_cons_zero, List.set_cons_succ]; try go_bits) | (refine plan_skip0 (by rfl) (by rfl) (by rfl) ?_; simp only [List.setIfInBounds_toArray, List.set_cons_zero, List.set_cons_succ]; try go_bits) | (refine plan_skip1 (by rfl) (by rfl) (by rfl) ?_; simp only [List.setIfInBounds_toArray, List.set_cons_zero, List.set_cons_succ]; try go_bits) | (refine plan_skip2 (by rfl) (by rfl) (by rfl) ?_; simp only [List.setIfInBounds_toArray, List.set_cons_zero, List.set_cons_succ]; try go_bits) | (refine plan_skip4 (by rfl) (by rfl) (by rfl) ?_; simp only [List.setIfInBounds_toArray, List.set_cons_zero, List.set_cons_succ]; try go_bits) | (refine plan_any (by rfl) ?_) | (refine plan_keep (by rfl) ?_) | (refine plan_nil ?_) | (with_reducible refine And.intro (by first | assumption | exact Agree.refl _ _ | exact agree_drew _ _ | exact agree_alloc _ (by intro k hk; subst hk; first | omega | (simp; omega))) ?_) | (unfold Act.put; simp only [List.setIfInBounds_toArray, List.set_cons_zero, List.set_cons_succ])
      | (go_at_call 67; refine HFD.out.mono ?_; clear HFD; rintro e w2 ⟨rfl, hb2⟩; have hb2d := HD0.out.trans (hb2.mono HD0.out.size); have c2 : w2.cell? ⟨b, 2, none⟩ = some (.slice pl l.length cpl) := (H1.out.below hb2d).cell 2; have c3 : w2.cell? ⟨b, 3, none⟩ = some (.int .i64 room) := (H1.out.below hb2d).cell 3; have c4 : w2.cell? ⟨b, 4, none⟩ = some (.int .i64 (rowsN l : Nat)) := (H1.out.below hb2d).cell 4; have x0 : w2.cell? ⟨w.heap.size, 0, none⟩ = some (.int .i64 id) := (HBK.out.below hb2d).cell 0; have x12 : w2.cell? ⟨w.heap.size, 1, none⟩ = some (.slice pr rows.length cr) := (HBK.out.below hb2d).cell 1; have HB2 := Lib.hid hb2d; clear hb2 hb2d))
    go_ret
    exact ⟨rfl, .inl ⟨by decide, HBW.out _ HB2.out⟩⟩
  have HCF2 : Hid (out = if id < 1 then 1 else if lateB id l = true then 1 else if room - (rowsN l : Nat) < rows.length then 18 else 0) := HCF.out
  clear HCF
  by_cases h1 : id < 1
  · have e1 : out = 1 := by rw [HCF2.out, if_pos h1]
    subst e1
    have d1 : decide (id < 1) = true := decide_eq_true h1
    go_enter Try.func54, Try.ntmps54
    go_upto_region 3 with fail
    generalize hw1 : w.alloc (.cells #[.int .i64 id, .slice pr rows.length cr] 38) = w1 at *
    clear hw1
    have b0 : w1.cell? ⟨b, 0, none⟩ = some (.string nm) := H1.out.cell 0
    have b1 : w1.cell? ⟨b, 1, none⟩ = some (.slice pc cl.length cc) := H1.out.cell 1
    have x1 : w1.cell? ⟨w.heap.size, 1, none⟩ = some (.slice pr rows.length cr) := HBK.out.cell 1
    refine wp_region_lit_plan [] [(0, 0), (1, 0), (2, 0), (4, 0), (3, 1), (5, 1), (6, 4), (7, 0), (8, 0)] (fun _ => False) (by kernel_rfl) (by kernel_rfl) (fun c a d v w h => by cases d <;> exact h) ?_
    go_wp2_with (first
      | (refine plan_pure (v := _) (by rfl) (by rfl) (by rfl) (by intro _; go_simp; with_reducible rfl) ?_; simp only [List.setIfInBounds_toArray, List.set_cons_zero, List.set_cons_succ]; try go_bits) | (refine plan_read (v := _) (by rfl) (by rfl) (by rfl) (by go_simp; with_reducible rfl) ?_; simp only [List.setIfInBounds_toArray, List.set_cons_zero, List.set_cons_succ]; try go_bits) | (refine plan_readB (v := _) (by rfl) (by rfl) (by rfl) (by intro _ hag; unfold Agree at hag; go_simp; with_reducible rfl) ?_; simp only [List.setIfInBounds_toArray, List.set_cons_zero, List.set_cons_succ]; try go_bits) | (refine plan_skip0 (by rfl) (by rfl) (by rfl) ?_; simp only [List.setIfInBounds_toArray, List.set_cons_zero, List.set_cons_succ]; try go_bits) | (refine plan_skip1 (by rfl) (by rfl) (by rfl) ?_; simp only [List.setIfInBounds_toArray, List.set_cons_zero, List.set_cons_succ]; try go_bits) | (refine plan_skip2 (by rfl) (by rfl) (by rfl) ?_; simp only [List.setIfInBounds_toArray, List.set_cons_zero, List.set_cons_succ]; try go_bits) | (refine plan_skip4 (by rfl) (by rfl) (by rfl) ?_; simp only [List.setIfInBounds_toArray, List.set_cons_zero, List.set_cons_succ]; try go_bits) | (refine plan_any (by rfl) ?_) | (refine plan_keep (by rfl) ?_) | (refine plan_nil ?_) | (with_reducible refine And.intro (by first | assumption | exact Agree.refl _ _ | exact agree_drew _ _ | exact agree_alloc _ (by intro k hk; subst hk; first | omega | (simp; omega))) ?_) | (unfold Act.put; simp only [List.setIfInBounds_toArray, List.set_cons_zero, List.set_cons_succ])
      | (go_at_call 67; refine HFD.out.mono ?_; clear HFD; rintro e w2 ⟨rfl, hb2⟩; have hb2d := HD0.out.trans (hb2.mono HD0.out.size); have c2 : w2.cell? ⟨b, 2, none⟩ = some (.slice pl l.length cpl) := (H1.out.below hb2d).cell 2; have c3 : w2.cell? ⟨b, 3, none⟩ = some (.int .i64 room) := (H1.out.below hb2d).cell 3; have c4 : w2.cell? ⟨b, 4, none⟩ = some (.int .i64 (rowsN l : Nat)) := (H1.out.below hb2d).cell 4; have x0 : w2.cell? ⟨w.heap.size, 0, none⟩ = some (.int .i64 id) := (HBK.out.below hb2d).cell 0; have x12 : w2.cell? ⟨w.heap.size, 1, none⟩ = some (.slice pr rows.length cr) := (HBK.out.below hb2d).cell 1; have HB2 := Lib.hid hb2d; clear hb2 hb2d))
    refine wp_region_lit_plan [] [(0, 0), (1, 1), (2, 0), (3, 0), (4, 0), (5, 0), (6, 0), (7, 1), (8, 0), (9, 0), (10, 0), (11, 0), (13, 0), (14, 0), (15, 0), (17, 0), (18, 0), (19, 0), (12, 1), (16, 1), (20, 1), (21, 0), (22, 0), (23, 0), (24, 0), (25, 1), (26, 0), (27, 0), (28, 0), (29, 0)] (fun _ => False) (by kernel_rfl) (by kernel_rfl) (fun c a d v w h => by cases d <;> exact h) ?_
    go_wp2_with (first
      | (refine plan_pure (v := _) (by rfl) (by rfl) (by rfl) (by intro _; go_simp; with_reducible rfl) ?_; simp only [List.setIfInBounds_toArray, List.set_cons_zero, List.set_cons_succ]; try go_bits) | (refine plan_read (v := _) (by rfl) (by rfl) (by rfl) (by go_simp; with_reducible rfl) ?_; simp only [List.setIfInBounds_toArray, List.set_cons_zero, List.set_cons_succ]; try go_bits) | (refine plan_readB (v := _) (by rfl) (by rfl) (by rfl) (by intro _ hag; unfold Agree at hag; go_simp; with_reducible rfl) ?_; simp only [List.setIfInBounds_toArray, List.set_cons_zero, List.set_cons_succ]; try go_bits) | (refine plan_skip0 (by rfl) (by rfl) (by rfl) ?_; simp only [List.setIfInBounds_toArray, List.set_cons_zero, List.set_cons_succ]; try go_bits) | (refine plan_skip1 (by rfl) (by rfl) (by rfl) ?_; simp only [List.setIfInBounds_toArray, List.set_cons_zero, List.set_cons_succ]; try go_bits) | (refine plan_skip2 (by rfl) (by rfl) (by rfl) ?_; simp only [List.setIfInBounds_toArray, List.set_cons_zero, List.set_cons_succ]; try go_bits) | (refine plan_skip4 (by rfl) (by rfl) (by rfl) ?_; simp only [List.setIfInBounds_toArray, List.set_cons_zero, List.set_cons_succ]; try go_bits) | (refine plan_any (by rfl) ?_) | (refine plan_keep (by rfl) ?_) | (refine plan_nil ?_) | (with_reducible refine And.intro (by first | assumption | exact Agree.refl _ _ | exact agree_drew _ _ | exact agree_alloc _ (by intro k hk; subst hk; first | omega | (simp; omega))) ?_) | (unfold Act.put; simp only [List.setIfInBounds_toArray, List.set_cons_zero, List.set_cons_succ]))
    go_ret
    exact ⟨rfl, .inl ⟨by decide, HBW.out _ HB2.out.drew⟩⟩
  have d1 : decide (id < 1) = false := decide_eq_false h1
  have hrm1 : -9223372036854775808 ≤ room - ((rowsN l : Nat) : Int) := by omega
  have hrm2 : room - ((rowsN l : Nat) : Int) ≤ 9223372036854775807 := by omega
  have hrw : IntKind.i64.wrap (room - ((rowsN l : Nat) : Int)) = room - ((rowsN l : Nat) : Int) := IntWalk.i64_in _ (by omega)
  by_cases hl0 : l.length = 0
  · have d2 : decide (0 < l.length) = false := decide_eq_false (by omega)
    have hcf3 : out = if room - (rowsN l : Nat) < rows.length then 18 else 0 := by
      rw [HCF2.out, if_neg h1, if_neg (by rw [hlate0.out hl0]; decide)]
    have HCF3 := Lib.hid hcf3
    clear hcf3 hlate hlate0 hl0
    go_enter Try.func54, Try.ntmps54
    go_upto_region 3 with fail
    generalize hw1 : w.alloc (.cells #[.int .i64 id, .slice pr rows.length cr] 38) = w1 at *
    clear hw1
    have b0 : w1.cell? ⟨b, 0, none⟩ = some (.string nm) := H1.out.cell 0
    have b1 : w1.cell? ⟨b, 1, none⟩ = some (.slice pc cl.length cc) := H1.out.cell 1
    have x1 : w1.cell? ⟨w.heap.size, 1, none⟩ = some (.slice pr rows.length cr) := HBK.out.cell 1
    refine wp_region_lit_plan [] [(0, 0), (1, 0), (2, 0), (4, 0), (3, 1), (5, 1), (6, 4), (7, 0), (8, 0)] (fun _ => False) (by kernel_rfl) (by kernel_rfl) (fun c a d v w h => by cases d <;> exact h) ?_
    go_wp2_with (first
      | (refine plan_pure (v := _) (by rfl) (by rfl) (by rfl) (by intro _; go_simp; with_reducible rfl) ?_; simp only [List.setIfInBounds_toArray, List.set_cons_zero, List.set_cons_succ]; try go_bits) | (refine plan_read (v := _) (by rfl) (by rfl) (by rfl) (by go_simp; with_reducible rfl) ?_; simp only [List.setIfInBounds_toArray, List.set_cons_zero, List.set_cons_succ]; try go_bits) | (refine plan_readB (v := _) (by rfl) (by rfl) (by rfl) (by intro _ hag; unfold Agree at hag; go_simp; with_reducible rfl) ?_; simp only [List.setIfInBounds_toArray, List.set_cons_zero, List.set_cons_succ]; try go_bits) | (refine plan_skip0 (by rfl) (by rfl) (by rfl) ?_; simp only [List.setIfInBounds_toArray, List.set_cons_zero, List.set_cons_succ]; try go_bits) | (refine plan_skip1 (by rfl) (by rfl) (by rfl) ?_; simp only [List.setIfInBounds_toArray, List.set_cons_zero, List.set_cons_succ]; try go_bits) | (refine plan_skip2 (by rfl) (by rfl) (by rfl) ?_; simp only [List.setIfInBounds_toArray, List.set_cons_zero, List.set_cons_succ]; try go_bits) | (refine plan_skip4 (by rfl) (by rfl) (by rfl) ?_; simp only [List.setIfInBounds_toArray, List.set_cons_zero, List.set_cons_succ]; try go_bits) | (refine plan_any (by rfl) ?_) | (refine plan_keep (by rfl) ?_) | (refine plan_nil ?_) | (with_reducible refine And.intro (by first | assumption | exact Agree.refl _ _ | exact agree_drew _ _ | exact agree_alloc _ (by intro k hk; subst hk; first | omega | (simp; omega))) ?_) | (unfold Act.put; simp only [List.setIfInBounds_toArray, List.set_cons_zero, List.set_cons_succ])
      | (go_at_call 67; refine HFD.out.mono ?_; clear HFD; rintro e w2 ⟨rfl, hb2⟩; have hb2d := HD0.out.trans (hb2.mono HD0.out.size); have c2 : w2.cell? ⟨b, 2, none⟩ = some (.slice pl l.length cpl) := (H1.out.below hb2d).cell 2; have c3 : w2.cell? ⟨b, 3, none⟩ = some (.int .i64 room) := (H1.out.below hb2d).cell 3; have c4 : w2.cell? ⟨b, 4, none⟩ = some (.int .i64 (rowsN l : Nat)) := (H1.out.below hb2d).cell 4; have x0 : w2.cell? ⟨w.heap.size, 0, none⟩ = some (.int .i64 id) := (HBK.out.below hb2d).cell 0; have x12 : w2.cell? ⟨w.heap.size, 1, none⟩ = some (.slice pr rows.length cr) := (HBK.out.below hb2d).cell 1; have HB2 := Lib.hid hb2d; clear hb2 hb2d))
    refine wp_region_lit_plan [] [(0, 0), (1, 1), (2, 0), (3, 0), (4, 0), (5, 0), (6, 0), (7, 1), (8, 0), (9, 0), (10, 0), (11, 0), (13, 0), (14, 0), (15, 0), (17, 0), (18, 0), (19, 0), (12, 1), (16, 1), (20, 1), (21, 0), (22, 0), (23, 0), (24, 0), (25, 1), (26, 0), (27, 0), (28, 0), (29, 0)] (fun _ => False) (by kernel_rfl) (by kernel_rfl) (fun c a d v w h => by cases d <;> exact h) ?_
    go_wp2_with (first
      | (refine plan_pure (v := _) (by rfl) (by rfl) (by rfl) (by intro _; go_simp; with_reducible rfl) ?_; simp only [List.setIfInBounds_toArray, List.set_cons_zero, List.set_cons_succ]; try go_bits) | (refine plan_read (v := _) (by rfl) (by rfl) (by rfl) (by go_simp; with_reducible rfl) ?_; simp only [List.setIfInBounds_toArray, List.set_cons_zero, List.set_cons_succ]; try go_bits) | (refine plan_readB (v := _) (by rfl) (by rfl) (by rfl) (by intro _ hag; unfold Agree at hag; go_simp; with_reducible rfl) ?_; simp only [List.setIfInBounds_toArray, List.set_cons_zero, List.set_cons_succ]; try go_bits) | (refine plan_skip0 (by rfl) (by rfl) (by rfl) ?_; simp only [List.setIfInBounds_toArray, List.set_cons_zero, List.set_cons_succ]; try go_bits) | (refine plan_skip1 (by rfl) (by rfl) (by rfl) ?_; simp only [List.setIfInBounds_toArray, List.set_cons_zero, List.set_cons_succ]; try go_bits) | (refine plan_skip2 (by rfl) (by rfl) (by rfl) ?_; simp only [List.setIfInBounds_toArray, List.set_cons_zero, List.set_cons_succ]; try go_bits) | (refine plan_skip4 (by rfl) (by rfl) (by rfl) ?_; simp only [List.setIfInBounds_toArray, List.set_cons_zero, List.set_cons_succ]; try go_bits) | (refine plan_any (by rfl) ?_) | (refine plan_keep (by rfl) ?_) | (refine plan_nil ?_) | (with_reducible refine And.intro (by first | assumption | exact Agree.refl _ _ | exact agree_drew _ _ | exact agree_alloc _ (by intro k hk; subst hk; first | omega | (simp; omega))) ?_) | (unfold Act.put; simp only [List.setIfInBounds_toArray, List.set_cons_zero, List.set_cons_succ]))
    have c2d : w2.drew.cell? ⟨b, 2, none⟩ = _ := c2
    have c3d : w2.drew.cell? ⟨b, 3, none⟩ = some (.int .i64 room) := c3
    have c4d : w2.drew.cell? ⟨b, 4, none⟩ = some (.int .i64 (rowsN l : Nat)) := c4
    have x0d : w2.drew.cell? ⟨w.heap.size, 0, none⟩ = some (.int .i64 id) := x0
    have x1d : w2.drew.cell? ⟨w.heap.size, 1, none⟩ = some (.slice pr rows.length cr) := x12
    have HB2d : Hid (Below w1.heap.size w1 w2.drew) := HB2.out.drew
    clear c2 c3 c4 x0 x12 HB2
    generalize w2.drew = w5 at *
    by_cases h3 : room - (rowsN l : Nat) < rows.length
    · have e1 : out = 18 := by rw [HCF3.out, if_pos h3]
      subst e1
      have d3 : decide (room - ((rowsN l : Nat) : Int) < (rows.length : Int)) = true := decide_eq_true h3
      refine wp_region_lit_plan [] [(0, 0), (3, 0), (4, 0), (5, 0), (7, 0), (8, 0), (9, 0), (1, 1), (2, 0), (6, 1), (10, 1), (11, 0), (12, 0), (13, 0)] (fun _ => False) (by kernel_rfl) (by kernel_rfl) (fun c a d v w h => by cases d <;> exact h) ?_
      go_wp2_with (first
        | (refine plan_pure (v := _) (by rfl) (by rfl) (by rfl) (by intro _; go_simp; with_reducible rfl) ?_; simp only [List.setIfInBounds_toArray, List.set_cons_zero, List.set_cons_succ]; try go_bits) | (refine plan_read (v := _) (by rfl) (by rfl) (by rfl) (by go_simp; with_reducible rfl) ?_; simp only [List.setIfInBounds_toArray, List.set_cons_zero, List.set_cons_succ]; try go_bits) | (refine plan_readB (v := _) (by rfl) (by rfl) (by rfl) (by intro _ hag; unfold Agree at hag; go_simp; with_reducible rfl) ?_; simp only [List.setIfInBounds_toArray, List.set_cons_zero, List.set_cons_succ]; try go_bits) | (refine plan_skip0 (by rfl) (by rfl) (by rfl) ?_; simp only [List.setIfInBounds_toArray, List.set_cons_zero, List.set_cons_succ]; try go_bits) | (refine plan_skip1 (by rfl) (by rfl) (by rfl) ?_; simp only [List.setIfInBounds_toArray, List.set_cons_zero, List.set_cons_succ]; try go_bits) | (refine plan_skip2 (by rfl) (by rfl) (by rfl) ?_; simp only [List.setIfInBounds_toArray, List.set_cons_zero, List.set_cons_succ]; try go_bits) | (refine plan_skip4 (by rfl) (by rfl) (by rfl) ?_; simp only [List.setIfInBounds_toArray, List.set_cons_zero, List.set_cons_succ]; try go_bits) | (refine plan_any (by rfl) ?_) | (refine plan_keep (by rfl) ?_) | (refine plan_nil ?_) | (with_reducible refine And.intro (by first | assumption | exact Agree.refl _ _ | exact agree_drew _ _ | exact agree_alloc _ (by intro k hk; subst hk; first | omega | (simp; omega))) ?_) | (unfold Act.put; simp only [List.setIfInBounds_toArray, List.set_cons_zero, List.set_cons_succ]))
      go_ret
      exact ⟨rfl, .inl ⟨by decide, HBW.out _ HB2d.out.drew⟩⟩
    have e1 : out = 0 := by rw [HCF3.out, if_neg h3]
    subst e1
    have d3 : decide (room - ((rowsN l : Nat) : Int) < (rows.length : Int)) = false := decide_eq_false h3
    clear HCF3 h3
    refine wp_region_lit_plan [] [(0, 0), (3, 0), (4, 0), (5, 0), (7, 0), (8, 0), (9, 0), (1, 1), (2, 0), (6, 1), (10, 1), (11, 0), (12, 0), (13, 0)] (fun _ => False) (by kernel_rfl) (by kernel_rfl) (fun c a d v w h => by cases d <;> exact h) ?_
    go_wp2_with (first
      | (refine plan_pure (v := _) (by rfl) (by rfl) (by rfl) (by intro _; go_simp; with_reducible rfl) ?_; simp only [List.setIfInBounds_toArray, List.set_cons_zero, List.set_cons_succ]; try go_bits) | (refine plan_read (v := _) (by rfl) (by rfl) (by rfl) (by go_simp; with_reducible rfl) ?_; simp only [List.setIfInBounds_toArray, List.set_cons_zero, List.set_cons_succ]; try go_bits) | (refine plan_readB (v := _) (by rfl) (by rfl) (by rfl) (by intro _ hag; unfold Agree at hag; go_simp; with_reducible rfl) ?_; simp only [List.setIfInBounds_toArray, List.set_cons_zero, List.set_cons_succ]; try go_bits) | (refine plan_skip0 (by rfl) (by rfl) (by rfl) ?_; simp only [List.setIfInBounds_toArray, List.set_cons_zero, List.set_cons_succ]; try go_bits) | (refine plan_skip1 (by rfl) (by rfl) (by rfl) ?_; simp only [List.setIfInBounds_toArray, List.set_cons_zero, List.set_cons_succ]; try go_bits) | (refine plan_skip2 (by rfl) (by rfl) (by rfl) ?_; simp only [List.setIfInBounds_toArray, List.set_cons_zero, List.set_cons_succ]; try go_bits) | (refine plan_skip4 (by rfl) (by rfl) (by rfl) ?_; simp only [List.setIfInBounds_toArray, List.set_cons_zero, List.set_cons_succ]; try go_bits) | (refine plan_any (by rfl) ?_) | (refine plan_keep (by rfl) ?_) | (refine plan_nil ?_) | (with_reducible refine And.intro (by first | assumption | exact Agree.refl _ _ | exact agree_drew _ _ | exact agree_alloc _ (by intro k hk; subst hk; first | omega | (simp; omega))) ?_) | (unfold Act.put; simp only [List.setIfInBounds_toArray, List.set_cons_zero, List.set_cons_succ]))
    have c2e : w5.drew.cell? ⟨b, 2, none⟩ = _ := c2d
    have x0e : w5.drew.cell? ⟨w.heap.size, 0, none⟩ = some (.int .i64 id) := x0d
    have x1e : w5.drew.cell? ⟨w.heap.size, 1, none⟩ = some (.slice pr rows.length cr) := x1d
    have HB5 : Hid (Below w1.heap.size w1 w5.drew) := HB2d.out.drew
    clear c2d c3d c4d x0d x1d HB2d HCF2
    generalize w5.drew = w6 at *
    have hw6 := HBW.out _ HB5.out
    have HW6 := Lib.hid hw6
    have HB16 := Lib.hid (H1.out.below HB5.out)
    have HBK6 := Lib.hid (HBK.out.below HB5.out)
    have HOWN6 := Lib.hid (HA3.out.below hw6)
    have hb6lt : b < w6.heap.size := Nat.lt_of_lt_of_le hbl hw6.size
    have HCP := Lib.hid (copied_any w6.drew _ id _ rows ((HR.out.below hw6).below ((Below.refl _ _).drew)) hrl HRR.out)
    have HX6 : Hid (∀ W, Below w6.heap.size w6 W → W.cell? ⟨b, 2, none⟩ = _) := fun W h => (HB16.out.below h).cell 2
    have hsum : -9223372036854775808 ≤ ((rowsN l : Nat) : Int) + (rows.length : Int) := by omega
    have hsum2 : ((rowsN l : Nat) : Int) + (rows.length : Int) ≤ 9223372036854775807 := by omega
    have hsw : IntKind.i64.wrap (((rowsN l : Nat) : Int) + (rows.length : Int)) = ((rowsN l : Nat) : Int) + (rows.length : Int) := IntWalk.i64_in _ (by omega)
    have hne : ∀ q, _ → q < w.heap.size := HA3.out.lt
    have HNE := Lib.hid hne
    have hbne : b ≠ w.heap.size := by omega
    have hbne2 : w.heap.size ≠ b := by omega
    clear hw6 hne
    refine wp_region_lit_plan [] [(0, 0), (1, 0), (2, 0), (3, 0), (4, 2), (5, 1), (6, 3), (7, 3), (8, 4), (9, 0), (10, 0), (11, 4)] (fun q => q = b) (by kernel_rfl) (by kernel_rfl) (fun c a d v w h => by cases d <;> exact h) ?_
    go_wp2_with (first
      | (refine plan_pure (v := _) (by rfl) (by rfl) (by rfl) (by intro _; go_simp; with_reducible rfl) ?_; simp only [List.setIfInBounds_toArray, List.set_cons_zero, List.set_cons_succ]; try go_bits) | (refine plan_read (v := _) (by rfl) (by rfl) (by rfl) (by go_simp; with_reducible rfl) ?_; simp only [List.setIfInBounds_toArray, List.set_cons_zero, List.set_cons_succ]; try go_bits) | (refine plan_readB (v := _) (by rfl) (by rfl) (by rfl) (by intro _ hag; unfold Agree at hag; go_simp; with_reducible rfl) ?_; simp only [List.setIfInBounds_toArray, List.set_cons_zero, List.set_cons_succ]; try go_bits) | (refine plan_skip0 (by rfl) (by rfl) (by rfl) ?_; simp only [List.setIfInBounds_toArray, List.set_cons_zero, List.set_cons_succ]; try go_bits) | (refine plan_skip1 (by rfl) (by rfl) (by rfl) ?_; simp only [List.setIfInBounds_toArray, List.set_cons_zero, List.set_cons_succ]; try go_bits) | (refine plan_skip2 (by rfl) (by rfl) (by rfl) ?_; simp only [List.setIfInBounds_toArray, List.set_cons_zero, List.set_cons_succ]; try go_bits) | (refine plan_skip4 (by rfl) (by rfl) (by rfl) ?_; simp only [List.setIfInBounds_toArray, List.set_cons_zero, List.set_cons_succ]; try go_bits) | (refine plan_any (by rfl) ?_) | (refine plan_keep (by rfl) ?_) | (refine plan_nil ?_) | (with_reducible refine And.intro (by first | assumption | exact Agree.refl _ _ | exact agree_drew _ _ | exact agree_alloc _ (by intro k hk; subst hk; first | omega | (simp; omega))) ?_) | (unfold Act.put; simp only [List.setIfInBounds_toArray, List.set_cons_zero, List.set_cons_succ])
      | (go_at_call 91; refine HCP.out.mono ?_; clear HCP; rintro e w7 hco; unfold CopyOut at hco; obtain ⟨v7, racc, rfl, hra, hracc, hb7⟩ := hco; obtain ⟨p7, c7, rfl, hc71, hc72⟩ := hra.1.form; have hb7b : Below w6.heap.size w6 w7 := ((Below.refl w6.heap.size w6).drew).trans (hb7.mono (Nat.le_refl _)); have ha7 : Agree (fun q => q = b) w6.drew w7 := agree_bdrew hb7b hb6lt; have hal8 : Below w7.heap.size w7 (w7.alloc (.cells #[.int .i64 id, .slice p7 racc.length c7] 38)) := (Below.refl _ _).alloc (Nat.le_refl _) _; have ho1 := (HOWN6.out.below hb7b).below hal8; have hs1 : Sl (w7.alloc (.cells #[.int .i64 id, .slice p7 racc.length c7] 38)) (fun _ => True) 2 (.slice (some ⟨w7.heap.size, 0, none⟩) 1 1) 1 (batCells [⟨id, .slice p7 racc.length c7, racc⟩]) := (Own.made w7 38 2 (batCells [⟨id, .slice p7 racc.length c7, racc⟩]) [] 1 1 rfl (by intro u hu; simp [batCells, BatV.cells] at hu; rcases hu with rfl | rfl <;> rfl) (Nat.le_refl _) (by simp [maxLen]) (by simp [batCells, BatV.cells])).sl (fun _ _ => trivial); have x27 := HX6.out _ hb7b; have xlt7 : b < w7.heap.size := Nat.lt_of_lt_of_le hb6lt hb7b.size; have HB7 := Lib.hid hb7b; have HAL8 := Lib.hid hal8; have HRA := Lib.hid hra; have HRACC := Lib.hid hracc; clear hb7 hb7b hal8 hra hracc)
      | (at_builtin; refine wpList_app rfl _ _ rfl elemBat (by rfl) ho1 (by rfl) hs1 (by unfold maxLen; omega) (by omega) ?_; intro v1 w8 g1 g2 g3 g4 g5; clear ho1 hs1; obtain ⟨p8, c8, rfl, hc81, hc82⟩ := own_form g1; have hb8 := ((HB16.out.below HB7.out).below HAL8.out).only g2 HA4.out; have kf : ∀ i, w8.frozen? ⟨b, i, none⟩ = false := hb8.frozen; have hb8c : w8.cell? ⟨b, 2, none⟩ = _ := hb8.cell 2; have HB8 := Lib.hid hb8; have G1 := Lib.hid g1; have G2 := Lib.hid g2; have G3 := Lib.hid g3; clear g1 g2 g3 g4 g5 hb8))
    have k94 := (HB8.out.set 2 (.slice p8 (l.length + 1) c8)).cell 4
    have k9f := (HB8.out.set 2 (.slice p8 (l.length + 1) c8)).frozen
    have hx9 := ((((HBK6.out.below HB7.out).below HAL8.out).only G2.out (fun h => by have := HNE.out _ h; omega)).setOther (p := ⟨b, 2, none⟩) hbne2 (.slice p8 (l.length + 1) c8)).cell 1
    have HB9 := Lib.hid (HB8.out.set 2 (.slice p8 (l.length + 1) c8))
    have k94b : (w8.setCell ⟨b, 2, none⟩ (.slice p8 (l.length + 1) c8)).cell? ⟨b, 4, none⟩ = some (.int .i64 (rowsN l : Nat)) := k94
    have k9x : (w8.setCell ⟨b, 2, none⟩ (.slice p8 (l.length + 1) c8)).cell? ⟨w.heap.size, 1, none⟩ = some (.slice pr rows.length cr) := hx9
    have hg1 := G1.out.setOther (p := ⟨b, 2, none⟩) (u := .slice p8 (l.length + 1) c8) (fun h => by
      rcases G3.out with h2 | h2
      · rw [h2] at h; exact HA4.out h
      · rw [h2] at h
        have : w7.heap.size + 1 = b := by simpa using h
        omega)
    have HG1 := Lib.hid hg1
    have hg2 := only_put (b := b) (i := 2) (u := .slice p8 (l.length + 1) c8) G2.out
    have HG2 := Lib.hid hg2
    clear k94 hx9 kf hb8c hg1 hg2 G2 G1 HB8
    generalize w8.setCell ⟨b, 2, none⟩ (.slice p8 (l.length + 1) c8) = w9 at *
    refine wp_region_lit_plan [] [(0, 0), (1, 0), (2, 0), (4, 0), (3, 1), (5, 1), (6, 0), (7, 0), (8, 0), (9, 0), (10, 4)] (fun _ => False) (by kernel_rfl) (by kernel_rfl) (fun c a d v w h => by cases d <;> exact h) ?_
    go_wp2_with (first
      | (refine plan_pure (v := _) (by rfl) (by rfl) (by rfl) (by intro _; go_simp; with_reducible rfl) ?_; simp only [List.setIfInBounds_toArray, List.set_cons_zero, List.set_cons_succ]; try go_bits) | (refine plan_read (v := _) (by rfl) (by rfl) (by rfl) (by go_simp; with_reducible rfl) ?_; simp only [List.setIfInBounds_toArray, List.set_cons_zero, List.set_cons_succ]; try go_bits) | (refine plan_readB (v := _) (by rfl) (by rfl) (by rfl) (by intro _ hag; unfold Agree at hag; go_simp; with_reducible rfl) ?_; simp only [List.setIfInBounds_toArray, List.set_cons_zero, List.set_cons_succ]; try go_bits) | (refine plan_skip0 (by rfl) (by rfl) (by rfl) ?_; simp only [List.setIfInBounds_toArray, List.set_cons_zero, List.set_cons_succ]; try go_bits) | (refine plan_skip1 (by rfl) (by rfl) (by rfl) ?_; simp only [List.setIfInBounds_toArray, List.set_cons_zero, List.set_cons_succ]; try go_bits) | (refine plan_skip2 (by rfl) (by rfl) (by rfl) ?_; simp only [List.setIfInBounds_toArray, List.set_cons_zero, List.set_cons_succ]; try go_bits) | (refine plan_skip4 (by rfl) (by rfl) (by rfl) ?_; simp only [List.setIfInBounds_toArray, List.set_cons_zero, List.set_cons_succ]; try go_bits) | (refine plan_any (by rfl) ?_) | (refine plan_keep (by rfl) ?_) | (refine plan_nil ?_) | (with_reducible refine And.intro (by first | assumption | exact Agree.refl _ _ | exact agree_drew _ _ | exact agree_alloc _ (by intro k hk; subst hk; first | omega | (simp; omega))) ?_) | (unfold Act.put; simp only [List.setIfInBounds_toArray, List.set_cons_zero, List.set_cons_succ]))
    go_ret
    have hra : RowsAt w7 (fun k => w.heap.size ≤ k) (.slice p7 racc.length c7) racc := by
      have h8 := HRA.out
      have h9 : w.heap.size ≤ w6.drew.heap.size := HW6.out.size
      exact ⟨h8.1.mono (Nat.le_refl _) (fun _ _ _ => rfl) (fun q hq _ => Nat.le_trans h9 hq), fun r hr => (h8.2 r hr).mono (Nat.le_refl _) (fun _ _ _ => rfl) (fun q hq _ => Nat.le_trans h9 hq)⟩
    exact ⟨rfl, line_put HA2.out HA4.out HA5.out HFF.out HNE.out hbl (HW6.out.trans (HB7.out.mono HW6.out.size)) hra HRACC.out HAL8.out (by simp) HB9.out HG1.out HG2.out G3.out⟩
  · obtain ⟨m, hm⟩ : ∃ m, l.length = m + 1 := ⟨l.length - 1, by omega⟩
    have hm1 : (l.length : Int) - 1 = (m : Int) := by omega
    have hml : m < l.length := by omega
    have hlt : Hid (lateB id l = decide (id ≤ l[m].id)) := hlate.out m hml hm
    have d2 : decide (0 < l.length) = true := decide_eq_true (by omega)
    have HXL : Hid (∀ W, Below (w.alloc (.cells #[.int .i64 id, .slice pr rows.length cr] 38)).heap.size (w.alloc (.cells #[.int .i64 id, .slice pr rows.length cr] 38)) W → ∃ g off, pl = some ⟨g, off, none⟩ ∧ W.cell? ⟨g, off + m * 2, none⟩ = some (.int .i64 l[m].id)) := fun W h => by
      obtain ⟨g, off, cap, hv, hg, e0, e1⟩ := sl_bat (HBAT.out.below h).1 hml
      cases hv
      exact ⟨g, off, rfl, e0⟩
    clear hm hlate hlate0 hl0
    generalize l[m].id = last at *
    by_cases h2 : id ≤ last
    · have d4 : decide (id ≤ last) = true := decide_eq_true h2
      have e1 : out = 1 := by rw [HCF2.out, if_neg h1, if_pos (by rw [hlt.out, d4])]
      subst e1
      clear hlt
      go_enter Try.func54, Try.ntmps54
      go_upto_region 3 with fail
      generalize hw1 : w.alloc (.cells #[.int .i64 id, .slice pr rows.length cr] 38) = w1 at *
      clear hw1
      have b0 : w1.cell? ⟨b, 0, none⟩ = some (.string nm) := H1.out.cell 0
      have b1 : w1.cell? ⟨b, 1, none⟩ = some (.slice pc cl.length cc) := H1.out.cell 1
      have x1 : w1.cell? ⟨w.heap.size, 1, none⟩ = some (.slice pr rows.length cr) := HBK.out.cell 1
      refine wp_region_lit_plan [] [(0, 0), (1, 0), (2, 0), (4, 0), (3, 1), (5, 1), (6, 4), (7, 0), (8, 0)] (fun _ => False) (by kernel_rfl) (by kernel_rfl) (fun c a d v w h => by cases d <;> exact h) ?_
      go_wp2_with (first
        | (refine plan_pure (v := _) (by rfl) (by rfl) (by rfl) (by intro _; go_simp; with_reducible rfl) ?_; simp only [List.setIfInBounds_toArray, List.set_cons_zero, List.set_cons_succ]; try go_bits) | (refine plan_read (v := _) (by rfl) (by rfl) (by rfl) (by go_simp; with_reducible rfl) ?_; simp only [List.setIfInBounds_toArray, List.set_cons_zero, List.set_cons_succ]; try go_bits) | (refine plan_readB (v := _) (by rfl) (by rfl) (by rfl) (by intro _ hag; unfold Agree at hag; go_simp; with_reducible rfl) ?_; simp only [List.setIfInBounds_toArray, List.set_cons_zero, List.set_cons_succ]; try go_bits) | (refine plan_skip0 (by rfl) (by rfl) (by rfl) ?_; simp only [List.setIfInBounds_toArray, List.set_cons_zero, List.set_cons_succ]; try go_bits) | (refine plan_skip1 (by rfl) (by rfl) (by rfl) ?_; simp only [List.setIfInBounds_toArray, List.set_cons_zero, List.set_cons_succ]; try go_bits) | (refine plan_skip2 (by rfl) (by rfl) (by rfl) ?_; simp only [List.setIfInBounds_toArray, List.set_cons_zero, List.set_cons_succ]; try go_bits) | (refine plan_skip4 (by rfl) (by rfl) (by rfl) ?_; simp only [List.setIfInBounds_toArray, List.set_cons_zero, List.set_cons_succ]; try go_bits) | (refine plan_any (by rfl) ?_) | (refine plan_keep (by rfl) ?_) | (refine plan_nil ?_) | (with_reducible refine And.intro (by first | assumption | exact Agree.refl _ _ | exact agree_drew _ _ | exact agree_alloc _ (by intro k hk; subst hk; first | omega | (simp; omega))) ?_) | (unfold Act.put; simp only [List.setIfInBounds_toArray, List.set_cons_zero, List.set_cons_succ])
        | (go_at_call 67; refine HFD.out.mono ?_; clear HFD; rintro e w2 ⟨rfl, hb2⟩; have hb2d := HD0.out.trans (hb2.mono HD0.out.size); have c2 : w2.cell? ⟨b, 2, none⟩ = some (.slice pl l.length cpl) := (H1.out.below hb2d).cell 2; have c3 : w2.cell? ⟨b, 3, none⟩ = some (.int .i64 room) := (H1.out.below hb2d).cell 3; have c4 : w2.cell? ⟨b, 4, none⟩ = some (.int .i64 (rowsN l : Nat)) := (H1.out.below hb2d).cell 4; have x0 : w2.cell? ⟨w.heap.size, 0, none⟩ = some (.int .i64 id) := (HBK.out.below hb2d).cell 0; have x12 : w2.cell? ⟨w.heap.size, 1, none⟩ = some (.slice pr rows.length cr) := (HBK.out.below hb2d).cell 1; have HB2 := Lib.hid hb2d; clear hb2 hb2d))
      obtain ⟨g, off, rfl, e0⟩ := HXL.out _ HB2.out
      refine wp_region_lit_plan [] [(0, 0), (1, 1), (2, 0), (3, 0), (4, 0), (5, 0), (6, 0), (7, 1), (8, 0), (9, 0), (10, 0), (11, 0), (13, 0), (14, 0), (15, 0), (17, 0), (18, 0), (19, 0), (12, 1), (16, 1), (20, 1), (21, 0), (22, 0), (23, 0), (24, 0), (25, 1), (26, 0), (27, 0), (28, 0), (29, 0)] (fun _ => False) (by kernel_rfl) (by kernel_rfl) (fun c a d v w h => by cases d <;> exact h) ?_
      go_wp2_with (first
        | (refine plan_pure (v := _) (by rfl) (by rfl) (by rfl) (by intro _; go_simp; with_reducible rfl) ?_; simp only [List.setIfInBounds_toArray, List.set_cons_zero, List.set_cons_succ]; try go_bits) | (refine plan_read (v := _) (by rfl) (by rfl) (by rfl) (by go_simp; with_reducible rfl) ?_; simp only [List.setIfInBounds_toArray, List.set_cons_zero, List.set_cons_succ]; try go_bits) | (refine plan_readB (v := _) (by rfl) (by rfl) (by rfl) (by intro _ hag; unfold Agree at hag; go_simp; with_reducible rfl) ?_; simp only [List.setIfInBounds_toArray, List.set_cons_zero, List.set_cons_succ]; try go_bits) | (refine plan_skip0 (by rfl) (by rfl) (by rfl) ?_; simp only [List.setIfInBounds_toArray, List.set_cons_zero, List.set_cons_succ]; try go_bits) | (refine plan_skip1 (by rfl) (by rfl) (by rfl) ?_; simp only [List.setIfInBounds_toArray, List.set_cons_zero, List.set_cons_succ]; try go_bits) | (refine plan_skip2 (by rfl) (by rfl) (by rfl) ?_; simp only [List.setIfInBounds_toArray, List.set_cons_zero, List.set_cons_succ]; try go_bits) | (refine plan_skip4 (by rfl) (by rfl) (by rfl) ?_; simp only [List.setIfInBounds_toArray, List.set_cons_zero, List.set_cons_succ]; try go_bits) | (refine plan_any (by rfl) ?_) | (refine plan_keep (by rfl) ?_) | (refine plan_nil ?_) | (with_reducible refine And.intro (by first | assumption | exact Agree.refl _ _ | exact agree_drew _ _ | exact agree_alloc _ (by intro k hk; subst hk; first | omega | (simp; omega))) ?_) | (unfold Act.put; simp only [List.setIfInBounds_toArray, List.set_cons_zero, List.set_cons_succ]))
      go_ret
      exact ⟨rfl, .inl ⟨by decide, HBW.out _ HB2.out.drew⟩⟩
    · have d4 : decide (id ≤ last) = false := decide_eq_false h2
      have hcf3 : out = if room - (rowsN l : Nat) < rows.length then 18 else 0 := by
        rw [HCF2.out, if_neg h1, if_neg (by rw [hlt.out, d4]; decide)]
      have HCF3 := Lib.hid hcf3
      clear hcf3 hlt
      go_enter Try.func54, Try.ntmps54
      go_upto_region 3 with fail
      generalize hw1 : w.alloc (.cells #[.int .i64 id, .slice pr rows.length cr] 38) = w1 at *
      clear hw1
      have b0 : w1.cell? ⟨b, 0, none⟩ = some (.string nm) := H1.out.cell 0
      have b1 : w1.cell? ⟨b, 1, none⟩ = some (.slice pc cl.length cc) := H1.out.cell 1
      have x1 : w1.cell? ⟨w.heap.size, 1, none⟩ = some (.slice pr rows.length cr) := HBK.out.cell 1
      refine wp_region_lit_plan [] [(0, 0), (1, 0), (2, 0), (4, 0), (3, 1), (5, 1), (6, 4), (7, 0), (8, 0)] (fun _ => False) (by kernel_rfl) (by kernel_rfl) (fun c a d v w h => by cases d <;> exact h) ?_
      go_wp2_with (first
        | (refine plan_pure (v := _) (by rfl) (by rfl) (by rfl) (by intro _; go_simp; with_reducible rfl) ?_; simp only [List.setIfInBounds_toArray, List.set_cons_zero, List.set_cons_succ]; try go_bits) | (refine plan_read (v := _) (by rfl) (by rfl) (by rfl) (by go_simp; with_reducible rfl) ?_; simp only [List.setIfInBounds_toArray, List.set_cons_zero, List.set_cons_succ]; try go_bits) | (refine plan_readB (v := _) (by rfl) (by rfl) (by rfl) (by intro _ hag; unfold Agree at hag; go_simp; with_reducible rfl) ?_; simp only [List.setIfInBounds_toArray, List.set_cons_zero, List.set_cons_succ]; try go_bits) | (refine plan_skip0 (by rfl) (by rfl) (by rfl) ?_; simp only [List.setIfInBounds_toArray, List.set_cons_zero, List.set_cons_succ]; try go_bits) | (refine plan_skip1 (by rfl) (by rfl) (by rfl) ?_; simp only [List.setIfInBounds_toArray, List.set_cons_zero, List.set_cons_succ]; try go_bits) | (refine plan_skip2 (by rfl) (by rfl) (by rfl) ?_; simp only [List.setIfInBounds_toArray, List.set_cons_zero, List.set_cons_succ]; try go_bits) | (refine plan_skip4 (by rfl) (by rfl) (by rfl) ?_; simp only [List.setIfInBounds_toArray, List.set_cons_zero, List.set_cons_succ]; try go_bits) | (refine plan_any (by rfl) ?_) | (refine plan_keep (by rfl) ?_) | (refine plan_nil ?_) | (with_reducible refine And.intro (by first | assumption | exact Agree.refl _ _ | exact agree_drew _ _ | exact agree_alloc _ (by intro k hk; subst hk; first | omega | (simp; omega))) ?_) | (unfold Act.put; simp only [List.setIfInBounds_toArray, List.set_cons_zero, List.set_cons_succ])
        | (go_at_call 67; refine HFD.out.mono ?_; clear HFD; rintro e w2 ⟨rfl, hb2⟩; have hb2d := HD0.out.trans (hb2.mono HD0.out.size); have c2 : w2.cell? ⟨b, 2, none⟩ = some (.slice pl l.length cpl) := (H1.out.below hb2d).cell 2; have c3 : w2.cell? ⟨b, 3, none⟩ = some (.int .i64 room) := (H1.out.below hb2d).cell 3; have c4 : w2.cell? ⟨b, 4, none⟩ = some (.int .i64 (rowsN l : Nat)) := (H1.out.below hb2d).cell 4; have x0 : w2.cell? ⟨w.heap.size, 0, none⟩ = some (.int .i64 id) := (HBK.out.below hb2d).cell 0; have x12 : w2.cell? ⟨w.heap.size, 1, none⟩ = some (.slice pr rows.length cr) := (HBK.out.below hb2d).cell 1; have HB2 := Lib.hid hb2d; clear hb2 hb2d))
      obtain ⟨g, off, rfl, e0⟩ := HXL.out _ HB2.out
      refine wp_region_lit_plan [] [(0, 0), (1, 1), (2, 0), (3, 0), (4, 0), (5, 0), (6, 0), (7, 1), (8, 0), (9, 0), (10, 0), (11, 0), (13, 0), (14, 0), (15, 0), (17, 0), (18, 0), (19, 0), (12, 1), (16, 1), (20, 1), (21, 0), (22, 0), (23, 0), (24, 0), (25, 1), (26, 0), (27, 0), (28, 0), (29, 0)] (fun _ => False) (by kernel_rfl) (by kernel_rfl) (fun c a d v w h => by cases d <;> exact h) ?_
      go_wp2_with (first
        | (refine plan_pure (v := _) (by rfl) (by rfl) (by rfl) (by intro _; go_simp; with_reducible rfl) ?_; simp only [List.setIfInBounds_toArray, List.set_cons_zero, List.set_cons_succ]; try go_bits) | (refine plan_read (v := _) (by rfl) (by rfl) (by rfl) (by go_simp; with_reducible rfl) ?_; simp only [List.setIfInBounds_toArray, List.set_cons_zero, List.set_cons_succ]; try go_bits) | (refine plan_readB (v := _) (by rfl) (by rfl) (by rfl) (by intro _ hag; unfold Agree at hag; go_simp; with_reducible rfl) ?_; simp only [List.setIfInBounds_toArray, List.set_cons_zero, List.set_cons_succ]; try go_bits) | (refine plan_skip0 (by rfl) (by rfl) (by rfl) ?_; simp only [List.setIfInBounds_toArray, List.set_cons_zero, List.set_cons_succ]; try go_bits) | (refine plan_skip1 (by rfl) (by rfl) (by rfl) ?_; simp only [List.setIfInBounds_toArray, List.set_cons_zero, List.set_cons_succ]; try go_bits) | (refine plan_skip2 (by rfl) (by rfl) (by rfl) ?_; simp only [List.setIfInBounds_toArray, List.set_cons_zero, List.set_cons_succ]; try go_bits) | (refine plan_skip4 (by rfl) (by rfl) (by rfl) ?_; simp only [List.setIfInBounds_toArray, List.set_cons_zero, List.set_cons_succ]; try go_bits) | (refine plan_any (by rfl) ?_) | (refine plan_keep (by rfl) ?_) | (refine plan_nil ?_) | (with_reducible refine And.intro (by first | assumption | exact Agree.refl _ _ | exact agree_drew _ _ | exact agree_alloc _ (by intro k hk; subst hk; first | omega | (simp; omega))) ?_) | (unfold Act.put; simp only [List.setIfInBounds_toArray, List.set_cons_zero, List.set_cons_succ]))
      clear e0
      have c2d : w2.drew.cell? ⟨b, 2, none⟩ = _ := c2
      have c3d : w2.drew.cell? ⟨b, 3, none⟩ = some (.int .i64 room) := c3
      have c4d : w2.drew.cell? ⟨b, 4, none⟩ = some (.int .i64 (rowsN l : Nat)) := c4
      have x0d : w2.drew.cell? ⟨w.heap.size, 0, none⟩ = some (.int .i64 id) := x0
      have x1d : w2.drew.cell? ⟨w.heap.size, 1, none⟩ = some (.slice pr rows.length cr) := x12
      have HB2d : Hid (Below w1.heap.size w1 w2.drew) := HB2.out.drew
      clear c2 c3 c4 x0 x12 HB2
      generalize w2.drew = w5 at *
      by_cases h3 : room - (rowsN l : Nat) < rows.length
      · have e1 : out = 18 := by rw [HCF3.out, if_pos h3]
        subst e1
        have d3 : decide (room - ((rowsN l : Nat) : Int) < (rows.length : Int)) = true := decide_eq_true h3
        refine wp_region_lit_plan [] [(0, 0), (3, 0), (4, 0), (5, 0), (7, 0), (8, 0), (9, 0), (1, 1), (2, 0), (6, 1), (10, 1), (11, 0), (12, 0), (13, 0)] (fun _ => False) (by kernel_rfl) (by kernel_rfl) (fun c a d v w h => by cases d <;> exact h) ?_
        go_wp2_with (first
          | (refine plan_pure (v := _) (by rfl) (by rfl) (by rfl) (by intro _; go_simp; with_reducible rfl) ?_; simp only [List.setIfInBounds_toArray, List.set_cons_zero, List.set_cons_succ]; try go_bits) | (refine plan_read (v := _) (by rfl) (by rfl) (by rfl) (by go_simp; with_reducible rfl) ?_; simp only [List.setIfInBounds_toArray, List.set_cons_zero, List.set_cons_succ]; try go_bits) | (refine plan_readB (v := _) (by rfl) (by rfl) (by rfl) (by intro _ hag; unfold Agree at hag; go_simp; with_reducible rfl) ?_; simp only [List.setIfInBounds_toArray, List.set_cons_zero, List.set_cons_succ]; try go_bits) | (refine plan_skip0 (by rfl) (by rfl) (by rfl) ?_; simp only [List.setIfInBounds_toArray, List.set_cons_zero, List.set_cons_succ]; try go_bits) | (refine plan_skip1 (by rfl) (by rfl) (by rfl) ?_; simp only [List.setIfInBounds_toArray, List.set_cons_zero, List.set_cons_succ]; try go_bits) | (refine plan_skip2 (by rfl) (by rfl) (by rfl) ?_; simp only [List.setIfInBounds_toArray, List.set_cons_zero, List.set_cons_succ]; try go_bits) | (refine plan_skip4 (by rfl) (by rfl) (by rfl) ?_; simp only [List.setIfInBounds_toArray, List.set_cons_zero, List.set_cons_succ]; try go_bits) | (refine plan_any (by rfl) ?_) | (refine plan_keep (by rfl) ?_) | (refine plan_nil ?_) | (with_reducible refine And.intro (by first | assumption | exact Agree.refl _ _ | exact agree_drew _ _ | exact agree_alloc _ (by intro k hk; subst hk; first | omega | (simp; omega))) ?_) | (unfold Act.put; simp only [List.setIfInBounds_toArray, List.set_cons_zero, List.set_cons_succ]))
        go_ret
        exact ⟨rfl, .inl ⟨by decide, HBW.out _ HB2d.out.drew⟩⟩
      have e1 : out = 0 := by rw [HCF3.out, if_neg h3]
      subst e1
      have d3 : decide (room - ((rowsN l : Nat) : Int) < (rows.length : Int)) = false := decide_eq_false h3
      clear HCF3 h3
      refine wp_region_lit_plan [] [(0, 0), (3, 0), (4, 0), (5, 0), (7, 0), (8, 0), (9, 0), (1, 1), (2, 0), (6, 1), (10, 1), (11, 0), (12, 0), (13, 0)] (fun _ => False) (by kernel_rfl) (by kernel_rfl) (fun c a d v w h => by cases d <;> exact h) ?_
      go_wp2_with (first
        | (refine plan_pure (v := _) (by rfl) (by rfl) (by rfl) (by intro _; go_simp; with_reducible rfl) ?_; simp only [List.setIfInBounds_toArray, List.set_cons_zero, List.set_cons_succ]; try go_bits) | (refine plan_read (v := _) (by rfl) (by rfl) (by rfl) (by go_simp; with_reducible rfl) ?_; simp only [List.setIfInBounds_toArray, List.set_cons_zero, List.set_cons_succ]; try go_bits) | (refine plan_readB (v := _) (by rfl) (by rfl) (by rfl) (by intro _ hag; unfold Agree at hag; go_simp; with_reducible rfl) ?_; simp only [List.setIfInBounds_toArray, List.set_cons_zero, List.set_cons_succ]; try go_bits) | (refine plan_skip0 (by rfl) (by rfl) (by rfl) ?_; simp only [List.setIfInBounds_toArray, List.set_cons_zero, List.set_cons_succ]; try go_bits) | (refine plan_skip1 (by rfl) (by rfl) (by rfl) ?_; simp only [List.setIfInBounds_toArray, List.set_cons_zero, List.set_cons_succ]; try go_bits) | (refine plan_skip2 (by rfl) (by rfl) (by rfl) ?_; simp only [List.setIfInBounds_toArray, List.set_cons_zero, List.set_cons_succ]; try go_bits) | (refine plan_skip4 (by rfl) (by rfl) (by rfl) ?_; simp only [List.setIfInBounds_toArray, List.set_cons_zero, List.set_cons_succ]; try go_bits) | (refine plan_any (by rfl) ?_) | (refine plan_keep (by rfl) ?_) | (refine plan_nil ?_) | (with_reducible refine And.intro (by first | assumption | exact Agree.refl _ _ | exact agree_drew _ _ | exact agree_alloc _ (by intro k hk; subst hk; first | omega | (simp; omega))) ?_) | (unfold Act.put; simp only [List.setIfInBounds_toArray, List.set_cons_zero, List.set_cons_succ]))
      have c2e : w5.drew.cell? ⟨b, 2, none⟩ = _ := c2d
      have x0e : w5.drew.cell? ⟨w.heap.size, 0, none⟩ = some (.int .i64 id) := x0d
      have x1e : w5.drew.cell? ⟨w.heap.size, 1, none⟩ = some (.slice pr rows.length cr) := x1d
      have HB5 : Hid (Below w1.heap.size w1 w5.drew) := HB2d.out.drew
      clear c2d c3d c4d x0d x1d HB2d HCF2
      generalize w5.drew = w6 at *
      have hw6 := HBW.out _ HB5.out
      have HW6 := Lib.hid hw6
      have HB16 := Lib.hid (H1.out.below HB5.out)
      have HBK6 := Lib.hid (HBK.out.below HB5.out)
      have HOWN6 := Lib.hid (HA3.out.below hw6)
      have hb6lt : b < w6.heap.size := Nat.lt_of_lt_of_le hbl hw6.size
      have HCP := Lib.hid (copied_any w6.drew _ id _ rows ((HR.out.below hw6).below ((Below.refl _ _).drew)) hrl HRR.out)
      have HX6 : Hid (∀ W, Below w6.heap.size w6 W → W.cell? ⟨b, 2, none⟩ = _) := fun W h => (HB16.out.below h).cell 2
      have hsum : -9223372036854775808 ≤ ((rowsN l : Nat) : Int) + (rows.length : Int) := by omega
      have hsum2 : ((rowsN l : Nat) : Int) + (rows.length : Int) ≤ 9223372036854775807 := by omega
      have hsw : IntKind.i64.wrap (((rowsN l : Nat) : Int) + (rows.length : Int)) = ((rowsN l : Nat) : Int) + (rows.length : Int) := IntWalk.i64_in _ (by omega)
      have hne : ∀ q, _ → q < w.heap.size := HA3.out.lt
      have HNE := Lib.hid hne
      have hbne : b ≠ w.heap.size := by omega
      have hbne2 : w.heap.size ≠ b := by omega
      clear hw6 hne
      refine wp_region_lit_plan [] [(0, 0), (1, 0), (2, 0), (3, 0), (4, 2), (5, 1), (6, 3), (7, 3), (8, 4), (9, 0), (10, 0), (11, 4)] (fun q => q = b) (by kernel_rfl) (by kernel_rfl) (fun c a d v w h => by cases d <;> exact h) ?_
      go_wp2_with (first
        | (refine plan_pure (v := _) (by rfl) (by rfl) (by rfl) (by intro _; go_simp; with_reducible rfl) ?_; simp only [List.setIfInBounds_toArray, List.set_cons_zero, List.set_cons_succ]; try go_bits) | (refine plan_read (v := _) (by rfl) (by rfl) (by rfl) (by go_simp; with_reducible rfl) ?_; simp only [List.setIfInBounds_toArray, List.set_cons_zero, List.set_cons_succ]; try go_bits) | (refine plan_readB (v := _) (by rfl) (by rfl) (by rfl) (by intro _ hag; unfold Agree at hag; go_simp; with_reducible rfl) ?_; simp only [List.setIfInBounds_toArray, List.set_cons_zero, List.set_cons_succ]; try go_bits) | (refine plan_skip0 (by rfl) (by rfl) (by rfl) ?_; simp only [List.setIfInBounds_toArray, List.set_cons_zero, List.set_cons_succ]; try go_bits) | (refine plan_skip1 (by rfl) (by rfl) (by rfl) ?_; simp only [List.setIfInBounds_toArray, List.set_cons_zero, List.set_cons_succ]; try go_bits) | (refine plan_skip2 (by rfl) (by rfl) (by rfl) ?_; simp only [List.setIfInBounds_toArray, List.set_cons_zero, List.set_cons_succ]; try go_bits) | (refine plan_skip4 (by rfl) (by rfl) (by rfl) ?_; simp only [List.setIfInBounds_toArray, List.set_cons_zero, List.set_cons_succ]; try go_bits) | (refine plan_any (by rfl) ?_) | (refine plan_keep (by rfl) ?_) | (refine plan_nil ?_) | (with_reducible refine And.intro (by first | assumption | exact Agree.refl _ _ | exact agree_drew _ _ | exact agree_alloc _ (by intro k hk; subst hk; first | omega | (simp; omega))) ?_) | (unfold Act.put; simp only [List.setIfInBounds_toArray, List.set_cons_zero, List.set_cons_succ])
        | (go_at_call 91; refine HCP.out.mono ?_; clear HCP; rintro e w7 hco; unfold CopyOut at hco; obtain ⟨v7, racc, rfl, hra, hracc, hb7⟩ := hco; obtain ⟨p7, c7, rfl, hc71, hc72⟩ := hra.1.form; have hb7b : Below w6.heap.size w6 w7 := ((Below.refl w6.heap.size w6).drew).trans (hb7.mono (Nat.le_refl _)); have ha7 : Agree (fun q => q = b) w6.drew w7 := agree_bdrew hb7b hb6lt; have hal8 : Below w7.heap.size w7 (w7.alloc (.cells #[.int .i64 id, .slice p7 racc.length c7] 38)) := (Below.refl _ _).alloc (Nat.le_refl _) _; have ho1 := (HOWN6.out.below hb7b).below hal8; have hs1 : Sl (w7.alloc (.cells #[.int .i64 id, .slice p7 racc.length c7] 38)) (fun _ => True) 2 (.slice (some ⟨w7.heap.size, 0, none⟩) 1 1) 1 (batCells [⟨id, .slice p7 racc.length c7, racc⟩]) := (Own.made w7 38 2 (batCells [⟨id, .slice p7 racc.length c7, racc⟩]) [] 1 1 rfl (by intro u hu; simp [batCells, BatV.cells] at hu; rcases hu with rfl | rfl <;> rfl) (Nat.le_refl _) (by simp [maxLen]) (by simp [batCells, BatV.cells])).sl (fun _ _ => trivial); have x27 := HX6.out _ hb7b; have xlt7 : b < w7.heap.size := Nat.lt_of_lt_of_le hb6lt hb7b.size; have HB7 := Lib.hid hb7b; have HAL8 := Lib.hid hal8; have HRA := Lib.hid hra; have HRACC := Lib.hid hracc; clear hb7 hb7b hal8 hra hracc)
        | (at_builtin; refine wpList_app rfl _ _ rfl elemBat (by rfl) ho1 (by rfl) hs1 (by unfold maxLen; omega) (by omega) ?_; intro v1 w8 g1 g2 g3 g4 g5; clear ho1 hs1; obtain ⟨p8, c8, rfl, hc81, hc82⟩ := own_form g1; have hb8 := ((HB16.out.below HB7.out).below HAL8.out).only g2 HA4.out; have kf : ∀ i, w8.frozen? ⟨b, i, none⟩ = false := hb8.frozen; have hb8c : w8.cell? ⟨b, 2, none⟩ = _ := hb8.cell 2; have HB8 := Lib.hid hb8; have G1 := Lib.hid g1; have G2 := Lib.hid g2; have G3 := Lib.hid g3; clear g1 g2 g3 g4 g5 hb8))
      have k94 := (HB8.out.set 2 (.slice p8 (l.length + 1) c8)).cell 4
      have k9f := (HB8.out.set 2 (.slice p8 (l.length + 1) c8)).frozen
      have hx9 := ((((HBK6.out.below HB7.out).below HAL8.out).only G2.out (fun h => by have := HNE.out _ h; omega)).setOther (p := ⟨b, 2, none⟩) hbne2 (.slice p8 (l.length + 1) c8)).cell 1
      have HB9 := Lib.hid (HB8.out.set 2 (.slice p8 (l.length + 1) c8))
      have k94b : (w8.setCell ⟨b, 2, none⟩ (.slice p8 (l.length + 1) c8)).cell? ⟨b, 4, none⟩ = some (.int .i64 (rowsN l : Nat)) := k94
      have k9x : (w8.setCell ⟨b, 2, none⟩ (.slice p8 (l.length + 1) c8)).cell? ⟨w.heap.size, 1, none⟩ = some (.slice pr rows.length cr) := hx9
      have hg1 := G1.out.setOther (p := ⟨b, 2, none⟩) (u := .slice p8 (l.length + 1) c8) (fun h => by
        rcases G3.out with h2 | h2
        · rw [h2] at h; exact HA4.out h
        · rw [h2] at h
          have : w7.heap.size + 1 = b := by simpa using h
          omega)
      have HG1 := Lib.hid hg1
      have hg2 := only_put (b := b) (i := 2) (u := .slice p8 (l.length + 1) c8) G2.out
      have HG2 := Lib.hid hg2
      clear k94 hx9 kf hb8c hg1 hg2 G2 G1 HB8
      generalize w8.setCell ⟨b, 2, none⟩ (.slice p8 (l.length + 1) c8) = w9 at *
      refine wp_region_lit_plan [] [(0, 0), (1, 0), (2, 0), (4, 0), (3, 1), (5, 1), (6, 0), (7, 0), (8, 0), (9, 0), (10, 4)] (fun _ => False) (by kernel_rfl) (by kernel_rfl) (fun c a d v w h => by cases d <;> exact h) ?_
      go_wp2_with (first
        | (refine plan_pure (v := _) (by rfl) (by rfl) (by rfl) (by intro _; go_simp; with_reducible rfl) ?_; simp only [List.setIfInBounds_toArray, List.set_cons_zero, List.set_cons_succ]; try go_bits) | (refine plan_read (v := _) (by rfl) (by rfl) (by rfl) (by go_simp; with_reducible rfl) ?_; simp only [List.setIfInBounds_toArray, List.set_cons_zero, List.set_cons_succ]; try go_bits) | (refine plan_readB (v := _) (by rfl) (by rfl) (by rfl) (by intro _ hag; unfold Agree at hag; go_simp; with_reducible rfl) ?_; simp only [List.setIfInBounds_toArray, List.set_cons_zero, List.set_cons_succ]; try go_bits) | (refine plan_skip0 (by rfl) (by rfl) (by rfl) ?_; simp only [List.setIfInBounds_toArray, List.set_cons_zero, List.set_cons_succ]; try go_bits) | (refine plan_skip1 (by rfl) (by rfl) (by rfl) ?_; simp only [List.setIfInBounds_toArray, List.set_cons_zero, List.set_cons_succ]; try go_bits) | (refine plan_skip2 (by rfl) (by rfl) (by rfl) ?_; simp only [List.setIfInBounds_toArray, List.set_cons_zero, List.set_cons_succ]; try go_bits) | (refine plan_skip4 (by rfl) (by rfl) (by rfl) ?_; simp only [List.setIfInBounds_toArray, List.set_cons_zero, List.set_cons_succ]; try go_bits) | (refine plan_any (by rfl) ?_) | (refine plan_keep (by rfl) ?_) | (refine plan_nil ?_) | (with_reducible refine And.intro (by first | assumption | exact Agree.refl _ _ | exact agree_drew _ _ | exact agree_alloc _ (by intro k hk; subst hk; first | omega | (simp; omega))) ?_) | (unfold Act.put; simp only [List.setIfInBounds_toArray, List.set_cons_zero, List.set_cons_succ]))
      go_ret
      have hra : RowsAt w7 (fun k => w.heap.size ≤ k) (.slice p7 racc.length c7) racc := by
        have h8 := HRA.out
        have h9 : w.heap.size ≤ w6.drew.heap.size := HW6.out.size
        exact ⟨h8.1.mono (Nat.le_refl _) (fun _ _ _ => rfl) (fun q hq _ => Nat.le_trans h9 hq), fun r hr => (h8.2 r hr).mono (Nat.le_refl _) (fun _ _ _ => rfl) (fun q hq _ => Nat.le_trans h9 hq)⟩
      exact ⟨rfl, line_put HA2.out HA4.out HA5.out HFF.out HNE.out hbl (HW6.out.trans (HB7.out.mono HW6.out.size)) hra HRACC.out HAL8.out (by simp) HB9.out HG1.out HG2.out G3.out⟩
end Go.Proofs.Ytdhdphmehjkbnaa
