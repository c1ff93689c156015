/- Borders: NewBorder, Name, Mark, Set, Check, Take. -/
import Derived.Test.YtdhdphmehjkbnaaStD
import Derived.IntWalk
namespace Go.Proofs.Ytdhdphmehjkbnaa
open Go.RowKit Go.Afx

/-- A border in the block b. -/
def IsBorder (w : World) (b : Nat) (nm : ByteArray) (cl : List ColV) (mark : Int) : Prop :=
  ∃ v, Blk w b 115 [.string nm, v, .int .i64 mark] ∧ Sl w (fun k => k ≠ b) 2 v cl.length (colCells cl)
theorem IsBorder.below {w w' : World} {b : Nat} {nm : ByteArray} {cl : List ColV} {m : Int} (h : IsBorder w b nm cl m) (hb : Below w.heap.size w w') : IsBorder w' b nm cl m := by
  obtain ⟨v, h1, h2⟩ := h
  exact ⟨v, h1.below hb, h2.below hb⟩
theorem IsBorder.lt {w : World} {b : Nat} {nm : ByteArray} {cl : List ColV} {m : Int} (h : IsBorder w b nm cl m) : b < w.heap.size := by
  obtain ⟨v, h1, _⟩ := h; exact h1.lt
theorem IsBorder.setMark {w : World} {b : Nat} {nm : ByteArray} {cl : List ColV} {m : Int} (h : IsBorder w b nm cl m) (n : Int) : IsBorder (w.setCell ⟨b, 2, none⟩ (.int .i64 n)) b nm cl n := by
  obtain ⟨v, h1, h2⟩ := h
  exact ⟨v, h1.set 2 _, h2.only ((Only.refl (fun k => k = b) w).setCell (p := ⟨b, 2, none⟩) (fun _ => rfl) _) (fun k hk h => hk h)⟩
def NewOut (w : World) (nm : ByteArray) (cl : List ColV) (e : Ending) (w' : World) : Prop :=
  (rightC nm cl = false ∧ e = .returned (.tuple #[.pointer none, .int .i64 1]) ∧ Below w.heap.size w w') ∨
  (rightC nm cl = true ∧ ∃ b, e = .returned (.tuple #[.pointer (some ⟨b, 0, none⟩), .int .i64 0]) ∧ w.heap.size ≤ b ∧ IsBorder w' b nm cl 0 ∧ Below w.heap.size w w')

set_option maxRecDepth 100000 in
theorem newborder_any (w : World) (B : Nat → Prop) (nm : ByteArray) (cv : Value) (cl : List ColV) (hc : Sl w B 2 cv cl.length (colCells cl)) (hn : nm.size ≤ maxLen) (hns : ∀ c ∈ cl, c.name.size ≤ maxLen) (hcl : cl.length ≤ 1000000) :
    Calls Try.prog 14 #[.agg #[.string nm, cv]] w (NewOut w nm cl) := by
  obtain ⟨pc, cc, rfl, hcc1, hcc⟩ := hc.form
  have hal : Below w.heap.size w (w.alloc (.cells #[.string nm, .slice pc cl.length cc] 24)) := (Below.refl _ _).alloc (Nat.le_refl _) _
  have HO := Lib.hid (open_any _ B nm _ cl (hc.below hal) hn hns hcl)
  have HAL := Lib.hid hal
  clear hc hal hn hns
  go_enter Try.func14, Try.ntmps14
  go_wp2_with fail
  refine HO.out.mono ?_
  clear HO
  rintro e w2 hoo
  rcases hoo with ⟨hr, rfl, hb⟩ | ⟨hr, v, rfl, hs, hb⟩
  · have HB := Lib.hid (HAL.out.trans (hb.mono HAL.out.size))
    have HR := Lib.hid hr
    clear hb hr
    go_wp2
    go_ret2
    exact Or.inl ⟨HR.out, rfl, HB.out.alloc HB.out.size _⟩
  · obtain ⟨p2, c2, rfl, _, _⟩ := hs.form
    have HB := Lib.hid (HAL.out.trans (hb.mono HAL.out.size))
    have HR := Lib.hid hr
    have HS := Lib.hid hs
    have h0 : (w2.alloc (.cells #[.string nm, .slice p2 cl.length c2] 111)).heap.size = w2.heap.size + 1 := by simp
    clear hb hr hs
    go_wp2
    go_ret2
    have hal2 : Below w2.heap.size w2 (w2.alloc (.cells #[.string nm, .slice p2 cl.length c2] 111)) := (Below.refl _ _).alloc (Nat.le_refl _) _
    have hal3 : Below w2.heap.size w2 ((w2.alloc (.cells #[.string nm, .slice p2 cl.length c2] 111)).alloc (.cells #[.string nm, .slice p2 cl.length c2, .int .i64 0] 115)) := hal2.alloc (by omega) _
    have hk := Blk.new (w2.alloc (.cells #[.string nm, .slice p2 cl.length c2] 111)) 115 [.string nm, .slice p2 cl.length c2, .int .i64 0]
    rw [h0] at hk
    have hsz := HB.out.size
    refine Or.inr ⟨HR.out, w2.heap.size + 1, rfl, by omega, ⟨_, hk, ?_⟩, HB.out.trans (hal3.mono HB.out.size)⟩
    exact HS.out.mono hal3.size (fun k _ hl => hal3.block k hl) (fun k _ hl => by omega)

theorem bname (w : World) (b : Nat) (nm : ByteArray) (cl : List ColV) (m : Int) (h : IsBorder w b nm cl m) :
    Calls Try.prog 16 #[.pointer (some ⟨b, 0, none⟩)] w fun e w' => e = .returned (.string nm) ∧ w = w' := by
  obtain ⟨v, h1, h2⟩ := h
  have k0 : w.cell? ⟨b, 0, none⟩ = some (.string nm) := h1.cell 0
  clear h1 h2
  go_enter Try.func16, Try.ntmps16
  go_wp2
  go_ret
  exact ⟨rfl, rfl⟩
theorem bname_nil (w : World) : Calls Try.prog 16 #[.pointer none] w fun e w' => e = .returned (.string ⟨#[]⟩) ∧ w = w' := by
  go_enter Try.func16, Try.ntmps16
  go_wp2
  go_ret
  exact ⟨rfl, rfl⟩
theorem bmark (w : World) (b : Nat) (nm : ByteArray) (cl : List ColV) (m : Int) (h : IsBorder w b nm cl m) :
    Calls Try.prog 20 #[.pointer (some ⟨b, 0, none⟩)] w fun e w' => e = .returned (.int .i64 m) ∧ w = w' := by
  obtain ⟨v, h1, h2⟩ := h
  have k0 : w.cell? ⟨b, 2, none⟩ = some (.int .i64 m) := h1.cell 2
  clear h1 h2
  go_enter Try.func20, Try.ntmps20
  go_wp2
  go_ret
  exact ⟨rfl, rfl⟩
theorem bmark_nil (w : World) : Calls Try.prog 20 #[.pointer none] w fun e w' => e = .returned (.int .i64 0) ∧ w = w' := by
  go_enter Try.func20, Try.ntmps20
  go_wp2
  go_ret
  exact ⟨rfl, rfl⟩
theorem bset (w : World) (b : Nat) (nm : ByteArray) (cl : List ColV) (m : Int) (h : IsBorder w b nm cl m) (n : Int) :
    Calls Try.prog 17 #[.pointer (some ⟨b, 0, none⟩), .int .i64 n] w fun e w' => e = .returned (.int .i64 (if 0 ≤ n then 0 else 1)) ∧ IsBorder w' b nm cl (if 0 ≤ n then n else m) ∧ Only (fun k => k = b) w w' := by
  have H := Lib.hid h
  obtain ⟨v, h1, h2⟩ := h
  have k0 : w.cell? ⟨b, 2, none⟩ = some (.int .i64 m) := h1.cell 2
  have kf : ∀ i, w.frozen? ⟨b, i, none⟩ = false := h1.frozen
  clear h1 h2
  by_cases hn : 0 ≤ n
  · rw [if_pos hn, if_pos hn]
    have d : decide (n < 0) = false := decide_eq_false (by omega)
    go_enter Try.func17, Try.ntmps17
    go_wp2
    go_ret
    exact ⟨rfl, H.out.setMark n, (Only.refl (fun k => k = b) w).setCell (p := ⟨b, 2, none⟩) (fun _ => rfl) _⟩
  · rw [if_neg hn, if_neg hn]
    have d : decide (n < 0) = true := decide_eq_true (by omega)
    go_enter Try.func17, Try.ntmps17
    go_wp2
    go_ret
    exact ⟨rfl, H.out, Only.refl _ _⟩
theorem bset_nil (w : World) (n : Int) : Calls Try.prog 17 #[.pointer none, .int .i64 n] w fun e w' => e = .returned (.int .i64 1) ∧ w = w' := by
  go_enter Try.func17, Try.ntmps17
  go_wp2
  go_ret
  exact ⟨rfl, rfl⟩

/-- What Check answers. -/
def checkE (fit : Bool) (id mark : Int) : Int := if fit = false then 13 else if id < 1 then 1 else if id ≤ mark then 9 else if mark + 1 < id then 10 else 0
set_option maxRecDepth 100000 in
set_option maxHeartbeats 1000000 in
theorem bcheck (w : World) (b : Nat) (nm : ByteArray) (cl : List ColV) (m : Int) (h : IsBorder w b nm cl m) (id : Int) (hid : fit64 id) (B : Nat → Prop) (rv : Value) (rows : List RowV) (hr : RowsAt w B rv rows) (hrl : ∀ r ∈ rows, r.l.length ≤ 1000000) :
    Calls Try.prog 19 #[.pointer (some ⟨b, 0, none⟩), .agg #[.int .i64 id, rv]] w fun e w' => e = .returned (.int .i64 (checkE (fitsB cl (rows.map RowV.l)) id m)) ∧ Below w.heap.size w w' := by
  unfold fit64 at hid
  obtain ⟨pr, cr, rfl, hcr1, hcr2⟩ := hr.1.form
  have hal : Below w.heap.size w (w.alloc (.cells #[.int .i64 id, .slice pr rows.length cr] 38)) := (Below.refl _ _).alloc (Nat.le_refl _) _
  have HBK : Hid (Blk (w.alloc (.cells #[.int .i64 id, .slice pr rows.length cr] 38)) w.heap.size 38 [.int .i64 id, .slice pr rows.length cr]) := Blk.new w _ _
  have HI := Lib.hid (h.below hal)
  have HAL := Lib.hid hal
  have hbl := h.lt
  obtain ⟨v, h1, h2⟩ := HI.out
  obtain ⟨pc, cc, rfl, hcc1, hcc2⟩ := h2.form
  have HF := Lib.hid (fun W (hb : Below (w.alloc (.cells #[.int .i64 id, .slice pr rows.length cr] 38)).heap.size (w.alloc (.cells #[.int .i64 id, .slice pr rows.length cr] 38)) W) => colfits_any W _ B nm _ _ cl rows (h2.below hb) ((hr.below hal).below hb) hrl)
  have H1 := Lib.hid h1
  have hd0 : Below (w.alloc (.cells #[.int .i64 id, .slice pr rows.length cr] 38)).heap.size (w.alloc (.cells #[.int .i64 id, .slice pr rows.length cr] 38)) (w.alloc (.cells #[.int .i64 id, .slice pr rows.length cr] 38)).drew := (Below.refl _ _).drew
  have HFD := Lib.hid (HF.out _ hd0)
  have HD0 := Lib.hid hd0
  have HCE : Hid (∀ f, checkE f id m = if f = false then 13 else if id < 1 then 1 else if id ≤ m then 9 else if m + 1 < id then 10 else 0) := fun f => rfl
  clear h h1 h2 hr hal hrl HF HI hd0
  generalize fitsB cl (rows.map RowV.l) = f at *
  have HCF := Lib.hid (HCE.out f)
  clear HCE
  generalize checkE f id m = out at *
  have hbw : ∀ W, Below (w.alloc (.cells #[.int .i64 id, .slice pr rows.length cr] 38)).heap.size (w.alloc (.cells #[.int .i64 id, .slice pr rows.length cr] 38)) W → Below w.heap.size w W := fun W h => HAL.out.trans (h.mono HAL.out.size)
  have HBW := Lib.hid hbw
  clear hbw
  cases f
  · have e1 : out = 13 := HCF.out
    subst e1
    go_enter Try.func19, Try.ntmps19
    go_upto_region 3 with fail
    generalize hw1 : w.alloc (.cells #[.int .i64 id, .slice pr rows.length cr] 38) = w1 at *
    clear hw1
    have b0 : w1.cell? ⟨b, 0, none⟩ = some (.string nm) := H1.out.cell 0
    have b1 : w1.cell? ⟨b, 1, none⟩ = some (.slice pc cl.length cc) := H1.out.cell 1
    have x1 : w1.cell? ⟨w.heap.size, 1, none⟩ = some (.slice pr rows.length cr) := HBK.out.cell 1
    refine wp_region_lit_plan [] [(0, 0), (1, 0), (2, 0), (4, 0), (3, 1), (5, 1), (6, 4), (7, 0), (8, 0)] (fun _ => False) (by kernel_rfl) (by kernel_rfl) (fun c a d v w h => by cases d <;> exact h) ?_
    go_wp2_with (first
      | (refine plan_pure (v := _) (by rfl) (by rfl) (by rfl) (by intro _; go_simp; with_reducible rfl) ?_; simp only [List.setIfInBounds_toArray, List.set_cons_zero, List.set_cons_succ]; try go_bits) | (refine plan_read (v := _) (by rfl) (by rfl) (by rfl) (by go_simp; with_reducible rfl) ?_; simp only [List.setIfInBounds_toArray, List.set_cons_zero, List.set_cons_succ]; try go_bits) | (refine plan_readB (v := _) (by rfl) (by rfl) (by rfl) (by intro _ hag; unfold Agree at hag; go_simp; with_reducible rfl) ?_; simp only [List.setIfInBounds_toArray, List.set_cons_zero, List.set_cons_succ]; try go_bits) | (refine plan_skip0 (by rfl) (by rfl) (by rfl) ?_; simp only [List.setIfInBounds_toArray, List.set_cons_zero, List.set_cons_succ]; try go_bits) | (refine plan_skip1 (by rfl) (by rfl) (by rfl) ?_; simp only [List.setIfInBounds_toArray, List.set_cons_zero, List.set_cons_succ]; try go_bits) | (refine plan_skip2 (by rfl) (by rfl) (by rfl) ?_; simp only [List.setIfInBounds_toArray, List.set_cons_zero, List.set_cons_succ]; try go_bits) | (refine plan_skip4 (by rfl) (by rfl) (by rfl) ?_; simp only [List.setIfInBounds_toArray, List.set_cons_zero, List.set_cons_succ]; try go_bits) | (refine plan_any (by rfl) ?_) | (refine plan_keep (by rfl) ?_) | (refine plan_nil ?_) | (with_reducible refine And.intro (by first | assumption | exact Agree.refl _ _ | exact agree_drew _ _ | exact agree_alloc _ (by intro k hk; subst hk; first | omega | (simp; omega))) ?_) | (unfold Act.put; simp only [List.setIfInBounds_toArray, List.set_cons_zero, List.set_cons_succ])
      | (go_at_call 67; refine HFD.out.mono ?_; clear HFD; rintro e w2 ⟨rfl, hb2⟩; have hb2d := HD0.out.trans (hb2.mono HD0.out.size); have c2 : w2.cell? ⟨b, 2, none⟩ = some (.int .i64 m) := (H1.out.below hb2d).cell 2; have x0 : w2.cell? ⟨w.heap.size, 0, none⟩ = some (.int .i64 id) := (HBK.out.below hb2d).cell 0; have HB2 := Lib.hid hb2d; clear hb2 hb2d))
    go_ret
    exact ⟨rfl, HBW.out _ HB2.out⟩
  have HCF2 : Hid (out = if id < 1 then 1 else if id ≤ m then 9 else if m + 1 < id then 10 else 0) := HCF.out
  clear HCF
  by_cases h1 : id < 1
  · have e1 : out = 1 := by rw [HCF2.out, if_pos h1]
    subst e1
    have d1 : decide (id < 1) = true := decide_eq_true h1
    go_enter Try.func19, Try.ntmps19
    go_upto_region 3 with fail
    generalize hw1 : w.alloc (.cells #[.int .i64 id, .slice pr rows.length cr] 38) = w1 at *
    clear hw1
    have b0 : w1.cell? ⟨b, 0, none⟩ = some (.string nm) := H1.out.cell 0
    have b1 : w1.cell? ⟨b, 1, none⟩ = some (.slice pc cl.length cc) := H1.out.cell 1
    have x1 : w1.cell? ⟨w.heap.size, 1, none⟩ = some (.slice pr rows.length cr) := HBK.out.cell 1
    refine wp_region_lit_plan [] [(0, 0), (1, 0), (2, 0), (4, 0), (3, 1), (5, 1), (6, 4), (7, 0), (8, 0)] (fun _ => False) (by kernel_rfl) (by kernel_rfl) (fun c a d v w h => by cases d <;> exact h) ?_
    go_wp2_with (first
      | (refine plan_pure (v := _) (by rfl) (by rfl) (by rfl) (by intro _; go_simp; with_reducible rfl) ?_; simp only [List.setIfInBounds_toArray, List.set_cons_zero, List.set_cons_succ]; try go_bits) | (refine plan_read (v := _) (by rfl) (by rfl) (by rfl) (by go_simp; with_reducible rfl) ?_; simp only [List.setIfInBounds_toArray, List.set_cons_zero, List.set_cons_succ]; try go_bits) | (refine plan_readB (v := _) (by rfl) (by rfl) (by rfl) (by intro _ hag; unfold Agree at hag; go_simp; with_reducible rfl) ?_; simp only [List.setIfInBounds_toArray, List.set_cons_zero, List.set_cons_succ]; try go_bits) | (refine plan_skip0 (by rfl) (by rfl) (by rfl) ?_; simp only [List.setIfInBounds_toArray, List.set_cons_zero, List.set_cons_succ]; try go_bits) | (refine plan_skip1 (by rfl) (by rfl) (by rfl) ?_; simp only [List.setIfInBounds_toArray, List.set_cons_zero, List.set_cons_succ]; try go_bits) | (refine plan_skip2 (by rfl) (by rfl) (by rfl) ?_; simp only [List.setIfInBounds_toArray, List.set_cons_zero, List.set_cons_succ]; try go_bits) | (refine plan_skip4 (by rfl) (by rfl) (by rfl) ?_; simp only [List.setIfInBounds_toArray, List.set_cons_zero, List.set_cons_succ]; try go_bits) | (refine plan_any (by rfl) ?_) | (refine plan_keep (by rfl) ?_) | (refine plan_nil ?_) | (with_reducible refine And.intro (by first | assumption | exact Agree.refl _ _ | exact agree_drew _ _ | exact agree_alloc _ (by intro k hk; subst hk; first | omega | (simp; omega))) ?_) | (unfold Act.put; simp only [List.setIfInBounds_toArray, List.set_cons_zero, List.set_cons_succ])
      | (go_at_call 67; refine HFD.out.mono ?_; clear HFD; rintro e w2 ⟨rfl, hb2⟩; have hb2d := HD0.out.trans (hb2.mono HD0.out.size); have c2 : w2.cell? ⟨b, 2, none⟩ = some (.int .i64 m) := (H1.out.below hb2d).cell 2; have x0 : w2.cell? ⟨w.heap.size, 0, none⟩ = some (.int .i64 id) := (HBK.out.below hb2d).cell 0; have HB2 := Lib.hid hb2d; clear hb2 hb2d))
    go_ret
    exact ⟨rfl, HBW.out _ HB2.out⟩
  have d1 : decide (id < 1) = false := decide_eq_false h1
  by_cases h2 : id ≤ m
  · have e1 : out = 9 := by rw [HCF2.out, if_neg h1, if_pos h2]
    subst e1
    have d2 : decide (id ≤ m) = true := decide_eq_true h2
    go_enter Try.func19, Try.ntmps19
    go_upto_region 3 with fail
    generalize hw1 : w.alloc (.cells #[.int .i64 id, .slice pr rows.length cr] 38) = w1 at *
    clear hw1
    have b0 : w1.cell? ⟨b, 0, none⟩ = some (.string nm) := H1.out.cell 0
    have b1 : w1.cell? ⟨b, 1, none⟩ = some (.slice pc cl.length cc) := H1.out.cell 1
    have x1 : w1.cell? ⟨w.heap.size, 1, none⟩ = some (.slice pr rows.length cr) := HBK.out.cell 1
    refine wp_region_lit_plan [] [(0, 0), (1, 0), (2, 0), (4, 0), (3, 1), (5, 1), (6, 4), (7, 0), (8, 0)] (fun _ => False) (by kernel_rfl) (by kernel_rfl) (fun c a d v w h => by cases d <;> exact h) ?_
    go_wp2_with (first
      | (refine plan_pure (v := _) (by rfl) (by rfl) (by rfl) (by intro _; go_simp; with_reducible rfl) ?_; simp only [List.setIfInBounds_toArray, List.set_cons_zero, List.set_cons_succ]; try go_bits) | (refine plan_read (v := _) (by rfl) (by rfl) (by rfl) (by go_simp; with_reducible rfl) ?_; simp only [List.setIfInBounds_toArray, List.set_cons_zero, List.set_cons_succ]; try go_bits) | (refine plan_readB (v := _) (by rfl) (by rfl) (by rfl) (by intro _ hag; unfold Agree at hag; go_simp; with_reducible rfl) ?_; simp only [List.setIfInBounds_toArray, List.set_cons_zero, List.set_cons_succ]; try go_bits) | (refine plan_skip0 (by rfl) (by rfl) (by rfl) ?_; simp only [List.setIfInBounds_toArray, List.set_cons_zero, List.set_cons_succ]; try go_bits) | (refine plan_skip1 (by rfl) (by rfl) (by rfl) ?_; simp only [List.setIfInBounds_toArray, List.set_cons_zero, List.set_cons_succ]; try go_bits) | (refine plan_skip2 (by rfl) (by rfl) (by rfl) ?_; simp only [List.setIfInBounds_toArray, List.set_cons_zero, List.set_cons_succ]; try go_bits) | (refine plan_skip4 (by rfl) (by rfl) (by rfl) ?_; simp only [List.setIfInBounds_toArray, List.set_cons_zero, List.set_cons_succ]; try go_bits) | (refine plan_any (by rfl) ?_) | (refine plan_keep (by rfl) ?_) | (refine plan_nil ?_) | (with_reducible refine And.intro (by first | assumption | exact Agree.refl _ _ | exact agree_drew _ _ | exact agree_alloc _ (by intro k hk; subst hk; first | omega | (simp; omega))) ?_) | (unfold Act.put; simp only [List.setIfInBounds_toArray, List.set_cons_zero, List.set_cons_succ])
      | (go_at_call 67; refine HFD.out.mono ?_; clear HFD; rintro e w2 ⟨rfl, hb2⟩; have hb2d := HD0.out.trans (hb2.mono HD0.out.size); have c2 : w2.cell? ⟨b, 2, none⟩ = some (.int .i64 m) := (H1.out.below hb2d).cell 2; have x0 : w2.cell? ⟨w.heap.size, 0, none⟩ = some (.int .i64 id) := (HBK.out.below hb2d).cell 0; have HB2 := Lib.hid hb2d; clear hb2 hb2d))
    refine wp_region_lit_plan [] [(0, 0), (2, 0), (3, 0), (4, 0), (1, 1), (5, 1), (6, 0), (7, 0)] (fun _ => False) (by kernel_rfl) (by kernel_rfl) (fun c a d v w h => by cases d <;> exact h) ?_
    go_wp2_with (first
      | (refine plan_pure (v := _) (by rfl) (by rfl) (by rfl) (by intro _; go_simp; with_reducible rfl) ?_; simp only [List.setIfInBounds_toArray, List.set_cons_zero, List.set_cons_succ]; try go_bits) | (refine plan_read (v := _) (by rfl) (by rfl) (by rfl) (by go_simp; with_reducible rfl) ?_; simp only [List.setIfInBounds_toArray, List.set_cons_zero, List.set_cons_succ]; try go_bits) | (refine plan_readB (v := _) (by rfl) (by rfl) (by rfl) (by intro _ hag; unfold Agree at hag; go_simp; with_reducible rfl) ?_; simp only [List.setIfInBounds_toArray, List.set_cons_zero, List.set_cons_succ]; try go_bits) | (refine plan_skip0 (by rfl) (by rfl) (by rfl) ?_; simp only [List.setIfInBounds_toArray, List.set_cons_zero, List.set_cons_succ]; try go_bits) | (refine plan_skip1 (by rfl) (by rfl) (by rfl) ?_; simp only [List.setIfInBounds_toArray, List.set_cons_zero, List.set_cons_succ]; try go_bits) | (refine plan_skip2 (by rfl) (by rfl) (by rfl) ?_; simp only [List.setIfInBounds_toArray, List.set_cons_zero, List.set_cons_succ]; try go_bits) | (refine plan_skip4 (by rfl) (by rfl) (by rfl) ?_; simp only [List.setIfInBounds_toArray, List.set_cons_zero, List.set_cons_succ]; try go_bits) | (refine plan_any (by rfl) ?_) | (refine plan_keep (by rfl) ?_) | (refine plan_nil ?_) | (with_reducible refine And.intro (by first | assumption | exact Agree.refl _ _ | exact agree_drew _ _ | exact agree_alloc _ (by intro k hk; subst hk; first | omega | (simp; omega))) ?_) | (unfold Act.put; simp only [List.setIfInBounds_toArray, List.set_cons_zero, List.set_cons_succ]))
    go_ret
    exact ⟨rfl, HBW.out _ HB2.out.drew⟩
  have d2 : decide (id ≤ m) = false := decide_eq_false h2
  have hsub : -9223372036854775808 ≤ id - 1 := by omega
  have hsub2 : id - 1 ≤ 9223372036854775807 := by omega
  have hwr : IntKind.i64.wrap (id - 1) = id - 1 := IntWalk.i64_in _ (by omega)
  by_cases h3 : m + 1 < id
  · have e1 : out = 10 := by rw [HCF2.out, if_neg h1, if_neg h2, if_pos h3]
    subst e1
    have d3 : decide (m < id - 1) = true := decide_eq_true (by omega)
    go_enter Try.func19, Try.ntmps19
    go_upto_region 3 with fail
    generalize hw1 : w.alloc (.cells #[.int .i64 id, .slice pr rows.length cr] 38) = w1 at *
    clear hw1
    have b0 : w1.cell? ⟨b, 0, none⟩ = some (.string nm) := H1.out.cell 0
    have b1 : w1.cell? ⟨b, 1, none⟩ = some (.slice pc cl.length cc) := H1.out.cell 1
    have x1 : w1.cell? ⟨w.heap.size, 1, none⟩ = some (.slice pr rows.length cr) := HBK.out.cell 1
    refine wp_region_lit_plan [] [(0, 0), (1, 0), (2, 0), (4, 0), (3, 1), (5, 1), (6, 4), (7, 0), (8, 0)] (fun _ => False) (by kernel_rfl) (by kernel_rfl) (fun c a d v w h => by cases d <;> exact h) ?_
    go_wp2_with (first
      | (refine plan_pure (v := _) (by rfl) (by rfl) (by rfl) (by intro _; go_simp; with_reducible rfl) ?_; simp only [List.setIfInBounds_toArray, List.set_cons_zero, List.set_cons_succ]; try go_bits) | (refine plan_read (v := _) (by rfl) (by rfl) (by rfl) (by go_simp; with_reducible rfl) ?_; simp only [List.setIfInBounds_toArray, List.set_cons_zero, List.set_cons_succ]; try go_bits) | (refine plan_readB (v := _) (by rfl) (by rfl) (by rfl) (by intro _ hag; unfold Agree at hag; go_simp; with_reducible rfl) ?_; simp only [List.setIfInBounds_toArray, List.set_cons_zero, List.set_cons_succ]; try go_bits) | (refine plan_skip0 (by rfl) (by rfl) (by rfl) ?_; simp only [List.setIfInBounds_toArray, List.set_cons_zero, List.set_cons_succ]; try go_bits) | (refine plan_skip1 (by rfl) (by rfl) (by rfl) ?_; simp only [List.setIfInBounds_toArray, List.set_cons_zero, List.set_cons_succ]; try go_bits) | (refine plan_skip2 (by rfl) (by rfl) (by rfl) ?_; simp only [List.setIfInBounds_toArray, List.set_cons_zero, List.set_cons_succ]; try go_bits) | (refine plan_skip4 (by rfl) (by rfl) (by rfl) ?_; simp only [List.setIfInBounds_toArray, List.set_cons_zero, List.set_cons_succ]; try go_bits) | (refine plan_any (by rfl) ?_) | (refine plan_keep (by rfl) ?_) | (refine plan_nil ?_) | (with_reducible refine And.intro (by first | assumption | exact Agree.refl _ _ | exact agree_drew _ _ | exact agree_alloc _ (by intro k hk; subst hk; first | omega | (simp; omega))) ?_) | (unfold Act.put; simp only [List.setIfInBounds_toArray, List.set_cons_zero, List.set_cons_succ])
      | (go_at_call 67; refine HFD.out.mono ?_; clear HFD; rintro e w2 ⟨rfl, hb2⟩; have hb2d := HD0.out.trans (hb2.mono HD0.out.size); have c2 : w2.cell? ⟨b, 2, none⟩ = some (.int .i64 m) := (H1.out.below hb2d).cell 2; have x0 : w2.cell? ⟨w.heap.size, 0, none⟩ = some (.int .i64 id) := (HBK.out.below hb2d).cell 0; have HB2 := Lib.hid hb2d; clear hb2 hb2d))
    refine wp_region_lit_plan [] [(0, 0), (2, 0), (3, 0), (4, 0), (1, 1), (5, 1), (6, 0), (7, 0)] (fun _ => False) (by kernel_rfl) (by kernel_rfl) (fun c a d v w h => by cases d <;> exact h) ?_
    go_wp2_with (first
      | (refine plan_pure (v := _) (by rfl) (by rfl) (by rfl) (by intro _; go_simp; with_reducible rfl) ?_; simp only [List.setIfInBounds_toArray, List.set_cons_zero, List.set_cons_succ]; try go_bits) | (refine plan_read (v := _) (by rfl) (by rfl) (by rfl) (by go_simp; with_reducible rfl) ?_; simp only [List.setIfInBounds_toArray, List.set_cons_zero, List.set_cons_succ]; try go_bits) | (refine plan_readB (v := _) (by rfl) (by rfl) (by rfl) (by intro _ hag; unfold Agree at hag; go_simp; with_reducible rfl) ?_; simp only [List.setIfInBounds_toArray, List.set_cons_zero, List.set_cons_succ]; try go_bits) | (refine plan_skip0 (by rfl) (by rfl) (by rfl) ?_; simp only [List.setIfInBounds_toArray, List.set_cons_zero, List.set_cons_succ]; try go_bits) | (refine plan_skip1 (by rfl) (by rfl) (by rfl) ?_; simp only [List.setIfInBounds_toArray, List.set_cons_zero, List.set_cons_succ]; try go_bits) | (refine plan_skip2 (by rfl) (by rfl) (by rfl) ?_; simp only [List.setIfInBounds_toArray, List.set_cons_zero, List.set_cons_succ]; try go_bits) | (refine plan_skip4 (by rfl) (by rfl) (by rfl) ?_; simp only [List.setIfInBounds_toArray, List.set_cons_zero, List.set_cons_succ]; try go_bits) | (refine plan_any (by rfl) ?_) | (refine plan_keep (by rfl) ?_) | (refine plan_nil ?_) | (with_reducible refine And.intro (by first | assumption | exact Agree.refl _ _ | exact agree_drew _ _ | exact agree_alloc _ (by intro k hk; subst hk; first | omega | (simp; omega))) ?_) | (unfold Act.put; simp only [List.setIfInBounds_toArray, List.set_cons_zero, List.set_cons_succ]))
    have x0d : w2.drew.cell? ⟨w.heap.size, 0, none⟩ = some (.int .i64 id) := x0
    have c2d : w2.drew.cell? ⟨b, 2, none⟩ = some (.int .i64 m) := c2
    refine wp_region_lit_plan [] [(0, 0), (3, 0), (4, 0), (5, 0), (1, 1), (2, 0), (6, 1), (7, 0), (8, 0)] (fun _ => False) (by kernel_rfl) (by kernel_rfl) (fun c a d v w h => by cases d <;> exact h) ?_
    go_wp2_with (first
      | (refine plan_pure (v := _) (by rfl) (by rfl) (by rfl) (by intro _; go_simp; with_reducible rfl) ?_; simp only [List.setIfInBounds_toArray, List.set_cons_zero, List.set_cons_succ]; try go_bits) | (refine plan_read (v := _) (by rfl) (by rfl) (by rfl) (by go_simp; with_reducible rfl) ?_; simp only [List.setIfInBounds_toArray, List.set_cons_zero, List.set_cons_succ]; try go_bits) | (refine plan_readB (v := _) (by rfl) (by rfl) (by rfl) (by intro _ hag; unfold Agree at hag; go_simp; with_reducible rfl) ?_; simp only [List.setIfInBounds_toArray, List.set_cons_zero, List.set_cons_succ]; try go_bits) | (refine plan_skip0 (by rfl) (by rfl) (by rfl) ?_; simp only [List.setIfInBounds_toArray, List.set_cons_zero, List.set_cons_succ]; try go_bits) | (refine plan_skip1 (by rfl) (by rfl) (by rfl) ?_; simp only [List.setIfInBounds_toArray, List.set_cons_zero, List.set_cons_succ]; try go_bits) | (refine plan_skip2 (by rfl) (by rfl) (by rfl) ?_; simp only [List.setIfInBounds_toArray, List.set_cons_zero, List.set_cons_succ]; try go_bits) | (refine plan_skip4 (by rfl) (by rfl) (by rfl) ?_; simp only [List.setIfInBounds_toArray, List.set_cons_zero, List.set_cons_succ]; try go_bits) | (refine plan_any (by rfl) ?_) | (refine plan_keep (by rfl) ?_) | (refine plan_nil ?_) | (with_reducible refine And.intro (by first | assumption | exact Agree.refl _ _ | exact agree_drew _ _ | exact agree_alloc _ (by intro k hk; subst hk; first | omega | (simp; omega))) ?_) | (unfold Act.put; simp only [List.setIfInBounds_toArray, List.set_cons_zero, List.set_cons_succ]))
    go_ret
    exact ⟨rfl, HBW.out _ HB2.out.drew.drew⟩
  · have e1 : out = 0 := by rw [HCF2.out, if_neg h1, if_neg h2, if_neg h3]
    subst e1
    have d3 : decide (m < id - 1) = false := decide_eq_false (by omega)
    go_enter Try.func19, Try.ntmps19
    go_upto_region 3 with fail
    generalize hw1 : w.alloc (.cells #[.int .i64 id, .slice pr rows.length cr] 38) = w1 at *
    clear hw1
    have b0 : w1.cell? ⟨b, 0, none⟩ = some (.string nm) := H1.out.cell 0
    have b1 : w1.cell? ⟨b, 1, none⟩ = some (.slice pc cl.length cc) := H1.out.cell 1
    have x1 : w1.cell? ⟨w.heap.size, 1, none⟩ = some (.slice pr rows.length cr) := HBK.out.cell 1
    refine wp_region_lit_plan [] [(0, 0), (1, 0), (2, 0), (4, 0), (3, 1), (5, 1), (6, 4), (7, 0), (8, 0)] (fun _ => False) (by kernel_rfl) (by kernel_rfl) (fun c a d v w h => by cases d <;> exact h) ?_
    go_wp2_with (first
      | (refine plan_pure (v := _) (by rfl) (by rfl) (by rfl) (by intro _; go_simp; with_reducible rfl) ?_; simp only [List.setIfInBounds_toArray, List.set_cons_zero, List.set_cons_succ]; try go_bits) | (refine plan_read (v := _) (by rfl) (by rfl) (by rfl) (by go_simp; with_reducible rfl) ?_; simp only [List.setIfInBounds_toArray, List.set_cons_zero, List.set_cons_succ]; try go_bits) | (refine plan_readB (v := _) (by rfl) (by rfl) (by rfl) (by intro _ hag; unfold Agree at hag; go_simp; with_reducible rfl) ?_; simp only [List.setIfInBounds_toArray, List.set_cons_zero, List.set_cons_succ]; try go_bits) | (refine plan_skip0 (by rfl) (by rfl) (by rfl) ?_; simp only [List.setIfInBounds_toArray, List.set_cons_zero, List.set_cons_succ]; try go_bits) | (refine plan_skip1 (by rfl) (by rfl) (by rfl) ?_; simp only [List.setIfInBounds_toArray, List.set_cons_zero, List.set_cons_succ]; try go_bits) | (refine plan_skip2 (by rfl) (by rfl) (by rfl) ?_; simp only [List.setIfInBounds_toArray, List.set_cons_zero, List.set_cons_succ]; try go_bits) | (refine plan_skip4 (by rfl) (by rfl) (by rfl) ?_; simp only [List.setIfInBounds_toArray, List.set_cons_zero, List.set_cons_succ]; try go_bits) | (refine plan_any (by rfl) ?_) | (refine plan_keep (by rfl) ?_) | (refine plan_nil ?_) | (with_reducible refine And.intro (by first | assumption | exact Agree.refl _ _ | exact agree_drew _ _ | exact agree_alloc _ (by intro k hk; subst hk; first | omega | (simp; omega))) ?_) | (unfold Act.put; simp only [List.setIfInBounds_toArray, List.set_cons_zero, List.set_cons_succ])
      | (go_at_call 67; refine HFD.out.mono ?_; clear HFD; rintro e w2 ⟨rfl, hb2⟩; have hb2d := HD0.out.trans (hb2.mono HD0.out.size); have c2 : w2.cell? ⟨b, 2, none⟩ = some (.int .i64 m) := (H1.out.below hb2d).cell 2; have x0 : w2.cell? ⟨w.heap.size, 0, none⟩ = some (.int .i64 id) := (HBK.out.below hb2d).cell 0; have HB2 := Lib.hid hb2d; clear hb2 hb2d))
    refine wp_region_lit_plan [] [(0, 0), (2, 0), (3, 0), (4, 0), (1, 1), (5, 1), (6, 0), (7, 0)] (fun _ => False) (by kernel_rfl) (by kernel_rfl) (fun c a d v w h => by cases d <;> exact h) ?_
    go_wp2_with (first
      | (refine plan_pure (v := _) (by rfl) (by rfl) (by rfl) (by intro _; go_simp; with_reducible rfl) ?_; simp only [List.setIfInBounds_toArray, List.set_cons_zero, List.set_cons_succ]; try go_bits) | (refine plan_read (v := _) (by rfl) (by rfl) (by rfl) (by go_simp; with_reducible rfl) ?_; simp only [List.setIfInBounds_toArray, List.set_cons_zero, List.set_cons_succ]; try go_bits) | (refine plan_readB (v := _) (by rfl) (by rfl) (by rfl) (by intro _ hag; unfold Agree at hag; go_simp; with_reducible rfl) ?_; simp only [List.setIfInBounds_toArray, List.set_cons_zero, List.set_cons_succ]; try go_bits) | (refine plan_skip0 (by rfl) (by rfl) (by rfl) ?_; simp only [List.setIfInBounds_toArray, List.set_cons_zero, List.set_cons_succ]; try go_bits) | (refine plan_skip1 (by rfl) (by rfl) (by rfl) ?_; simp only [List.setIfInBounds_toArray, List.set_cons_zero, List.set_cons_succ]; try go_bits) | (refine plan_skip2 (by rfl) (by rfl) (by rfl) ?_; simp only [List.setIfInBounds_toArray, List.set_cons_zero, List.set_cons_succ]; try go_bits) | (refine plan_skip4 (by rfl) (by rfl) (by rfl) ?_; simp only [List.setIfInBounds_toArray, List.set_cons_zero, List.set_cons_succ]; try go_bits) | (refine plan_any (by rfl) ?_) | (refine plan_keep (by rfl) ?_) | (refine plan_nil ?_) | (with_reducible refine And.intro (by first | assumption | exact Agree.refl _ _ | exact agree_drew _ _ | exact agree_alloc _ (by intro k hk; subst hk; first | omega | (simp; omega))) ?_) | (unfold Act.put; simp only [List.setIfInBounds_toArray, List.set_cons_zero, List.set_cons_succ]))
    have x0d : w2.drew.cell? ⟨w.heap.size, 0, none⟩ = some (.int .i64 id) := x0
    have c2d : w2.drew.cell? ⟨b, 2, none⟩ = some (.int .i64 m) := c2
    refine wp_region_lit_plan [] [(0, 0), (3, 0), (4, 0), (5, 0), (1, 1), (2, 0), (6, 1), (7, 0), (8, 0)] (fun _ => False) (by kernel_rfl) (by kernel_rfl) (fun c a d v w h => by cases d <;> exact h) ?_
    go_wp2_with (first
      | (refine plan_pure (v := _) (by rfl) (by rfl) (by rfl) (by intro _; go_simp; with_reducible rfl) ?_; simp only [List.setIfInBounds_toArray, List.set_cons_zero, List.set_cons_succ]; try go_bits) | (refine plan_read (v := _) (by rfl) (by rfl) (by rfl) (by go_simp; with_reducible rfl) ?_; simp only [List.setIfInBounds_toArray, List.set_cons_zero, List.set_cons_succ]; try go_bits) | (refine plan_readB (v := _) (by rfl) (by rfl) (by rfl) (by intro _ hag; unfold Agree at hag; go_simp; with_reducible rfl) ?_; simp only [List.setIfInBounds_toArray, List.set_cons_zero, List.set_cons_succ]; try go_bits) | (refine plan_skip0 (by rfl) (by rfl) (by rfl) ?_; simp only [List.setIfInBounds_toArray, List.set_cons_zero, List.set_cons_succ]; try go_bits) | (refine plan_skip1 (by rfl) (by rfl) (by rfl) ?_; simp only [List.setIfInBounds_toArray, List.set_cons_zero, List.set_cons_succ]; try go_bits) | (refine plan_skip2 (by rfl) (by rfl) (by rfl) ?_; simp only [List.setIfInBounds_toArray, List.set_cons_zero, List.set_cons_succ]; try go_bits) | (refine plan_skip4 (by rfl) (by rfl) (by rfl) ?_; simp only [List.setIfInBounds_toArray, List.set_cons_zero, List.set_cons_succ]; try go_bits) | (refine plan_any (by rfl) ?_) | (refine plan_keep (by rfl) ?_) | (refine plan_nil ?_) | (with_reducible refine And.intro (by first | assumption | exact Agree.refl _ _ | exact agree_drew _ _ | exact agree_alloc _ (by intro k hk; subst hk; first | omega | (simp; omega))) ?_) | (unfold Act.put; simp only [List.setIfInBounds_toArray, List.set_cons_zero, List.set_cons_succ]))
    go_ret
    exact ⟨rfl, HBW.out _ HB2.out.drew.drew⟩

theorem bcheck_nil (w : World) (id : Int) (p : Option Addr) (n c : Nat) : Calls Try.prog 19 #[.pointer none, .agg #[.int .i64 id, .slice p n c]] w fun e w' => e = .returned (.int .i64 1) ∧ Below w.heap.size w w' := by
  go_enter Try.func19, Try.ntmps19
  go_wp2
  go_ret
  exact ⟨rfl, (Below.refl _ _).alloc (Nat.le_refl _) _⟩

set_option maxRecDepth 100000 in
set_option maxHeartbeats 1000000 in
theorem btake (w : World) (b : Nat) (nm : ByteArray) (cl : List ColV) (m : Int) (h : IsBorder w b nm cl m) (id : Int) (hid : fit64 id) (B : Nat → Prop) (rv : Value) (rows : List RowV) (hr : RowsAt w B rv rows) (hrl : ∀ r ∈ rows, r.l.length ≤ 1000000) :
    Calls Try.prog 21 #[.pointer (some ⟨b, 0, none⟩), .agg #[.int .i64 id, rv]] w fun e w' => e = .returned (.int .i64 (checkE (fitsB cl (rows.map RowV.l)) id m)) ∧ IsBorder w' b nm cl (if checkE (fitsB cl (rows.map RowV.l)) id m = 0 then id else m) ∧ Only (fun k => k = b) w w' := by
  obtain ⟨pr, cr, rfl, hcr1, hcr2⟩ := hr.1.form
  have hal : Below w.heap.size w (w.alloc (.cells #[.int .i64 id, .slice pr rows.length cr] 38)) := (Below.refl _ _).alloc (Nat.le_refl _) _
  have HBK : Hid (Blk (w.alloc (.cells #[.int .i64 id, .slice pr rows.length cr] 38)) w.heap.size 38 [.int .i64 id, .slice pr rows.length cr]) := Blk.new w _ _
  have HI := Lib.hid (h.below hal)
  have hbl := h.lt
  have HAL := Lib.hid hal
  have HC := Lib.hid (bcheck _ b nm cl m (h.below hal) id hid B _ rows (hr.below hal) hrl)
  clear h hr hrl hal
  generalize checkE (fitsB cl (rows.map RowV.l)) id m = out at *
  go_enter Try.func21, Try.ntmps21
  go_wp2_with fail
  refine HC.out.mono ?_
  clear HC
  rintro e w2 ⟨rfl, hb2⟩
  have hi2 := HI.out.below hb2
  have x0 : w2.cell? ⟨w.heap.size, 0, none⟩ = some (.int .i64 id) := (HBK.out.below hb2).cell 0
  obtain ⟨v, h1, h2⟩ := hi2
  have c2 : w2.cell? ⟨b, 2, none⟩ = some (.int .i64 m) := h1.cell 2
  have cf : ∀ i, w2.frozen? ⟨b, i, none⟩ = false := h1.frozen
  have HI2 : Hid (IsBorder w2 b nm cl m) := ⟨v, h1, h2⟩
  have HO2 : Hid (Only (fun k => k = b) w w2) := (Only.of_none HAL.out).trans (Only.of_none hb2 (S := fun _ => False)) (fun _ _ h => h.elim)
  clear h1 h2 hb2
  by_cases h0 : out = 0
  · subst h0
    go_wp2
    go_ret
    exact ⟨rfl, by first | exact HI2.out.setMark id | (rw [if_pos rfl]; exact HI2.out.setMark id), HO2.out.setCell (p := ⟨b, 2, none⟩) (fun _ => rfl) _⟩
  · have d0 : (out == 0) = false := beq_eq_false_iff_ne.2 h0
    have H0 := Lib.hid h0
    clear h0
    go_wp2
    go_ret
    exact ⟨rfl, by first | exact HI2.out | (rw [if_neg H0.out]; exact HI2.out), HO2.out⟩
theorem btake_nil (w : World) (id : Int) (p : Option Addr) (n c : Nat) : Calls Try.prog 21 #[.pointer none, .agg #[.int .i64 id, .slice p n c]] w fun e w' => e = .returned (.int .i64 1) ∧ Below w.heap.size w w' := by
  have hal : Below w.heap.size w (w.alloc (.cells #[.int .i64 id, .slice p n c] 38)) := (Below.refl _ _).alloc (Nat.le_refl _) _
  have HC := Lib.hid (bcheck_nil (w.alloc (.cells #[.int .i64 id, .slice p n c] 38)) id p n c)
  have HAL := Lib.hid hal
  clear hal
  go_enter Try.func21, Try.ntmps21
  go_wp2_with (go_at_call 19; refine HC.out.mono ?_; clear HC; rintro e w2 ⟨rfl, hb2⟩)
  go_ret
  exact ⟨rfl, HAL.out.trans (hb2.mono HAL.out.size)⟩
end Go.Proofs.Ytdhdphmehjkbnaa
