/- Schemas: Right. -/
import Derived.Test.YtlgohkdckdnmhaaDoorSchD
namespace Go.Proofs.YtlgohkdckdnmhaaDoor
open Go.RowKit Go.Afx

structure SchV where
  name : ByteArray
  colsV : Value
  cols : List ColV
  idxV : Value
  idx : List IdxV
  limit : Int
  parts : Int
  by_ : Int
def SchV.cells (s : SchV) : List Value := [.string s.name, s.colsV, s.idxV, .int .i64 s.limit, .int .i64 s.parts, .int .i64 s.by_]
def SchV.agg (s : SchV) : Value := .agg #[.string s.name, s.colsV, s.idxV, .int .i64 s.limit, .int .i64 s.parts, .int .i64 s.by_]
/-- A schema that reads. -/
structure SchAt (w : World) (B : Nat → Prop) (s : SchV) : Prop where
  cols : Sl w B 2 s.colsV s.cols.length (colCells s.cols)
  idx : IdxAt w B s.idxV s.idx
  names : ∀ c ∈ s.cols, c.name.size ≤ maxLen
  name : s.name.size ≤ maxLen
theorem SchAt.below {w w' : World} {B : Nat → Prop} {s : SchV} (h : SchAt w B s) (hb : Below w.heap.size w w') : SchAt w' B s := ⟨h.cols.below hb, h.idx.below hb, h.names, h.name⟩

def rightS (s : SchV) : Bool :=
  namedB s.name && (colsB s.cols && (idxB s.cols.length s.idx && ((decide (1 ≤ s.limit) && decide (s.limit ≤ 1000)) && ((decide (1 ≤ s.parts) && decide (s.parts ≤ 8)) && (decide (0 ≤ s.by_) && decide (s.by_ ≤ (s.cols.length : Int) - 1))))))
theorem colsB_len {l : List ColV} (h : colsB l = true) : 1 ≤ l.length ∧ l.length ≤ 8 := by
  unfold colsB at h
  simp at h
  omega

/-- The six cells of a schema in a block. -/
theorem sch_cells {w : World} {b : Nat} {t : TypeId} {v0 v1 v2 v3 v4 v5 : Value} (h : Blk w b t [v0, v1, v2, v3, v4, v5]) :
    w.cell? ⟨b, 0, none⟩ = some v0 ∧ w.cell? ⟨b, 1, none⟩ = some v1 ∧ w.cell? ⟨b, 2, none⟩ = some v2 ∧ w.cell? ⟨b, 3, none⟩ = some v3 ∧ w.cell? ⟨b, 4, none⟩ = some v4 ∧ w.cell? ⟨b, 5, none⟩ = some v5 :=
  ⟨h.cell 0, h.cell 1, h.cell 2, h.cell 3, h.cell 4, h.cell 5⟩

set_option maxRecDepth 100000 in
set_option maxHeartbeats 1000000 in
theorem schright_any (w : World) (B : Nat → Prop) (s : SchV) (h : SchAt w B s) :
    Calls Tryd.prog 49 #[s.agg] w fun e w' => e = .returned (.bool (rightS s)) ∧ Below w.heap.size w w' := by
  obtain ⟨nm, cv, cl, iv, il, lim, prt, by_⟩ := s
  obtain ⟨h1, h2, h3, h4⟩ := h
  simp only at h1 h2 h3 h4
  simp only [SchV.agg, rightS]
  obtain ⟨pc, cc, rfl, _, hcc⟩ := h1.form
  obtain ⟨pi, ci, rfl, _, hci⟩ := h2.1.form
  have hal : Below w.heap.size w (w.alloc (.cells #[.string nm, .slice pc cl.length cc, .slice pi il.length ci, .int .i64 lim, .int .i64 prt, .int .i64 by_] 47)) := (Below.refl _ _).alloc (Nat.le_refl _) _
  have HBK : Hid (Blk (w.alloc (.cells #[.string nm, .slice pc cl.length cc, .slice pi il.length ci, .int .i64 lim, .int .i64 prt, .int .i64 by_] 47)) w.heap.size 47 [.string nm, .slice pc cl.length cc, .slice pi il.length ci, .int .i64 lim, .int .i64 prt, .int .i64 by_]) := Blk.new w _ _
  have HN := Lib.hid (named_any (w.alloc (.cells #[.string nm, .slice pc cl.length cc, .slice pi il.length ci, .int .i64 lim, .int .i64 prt, .int .i64 by_] 47)) nm h4)
  have hcl := @colsB_len cl
  have HC := Lib.hid (fun W (hb : Below (w.alloc (.cells #[.string nm, .slice pc cl.length cc, .slice pi il.length ci, .int .i64 lim, .int .i64 prt, .int .i64 by_] 47)).heap.size (w.alloc (.cells #[.string nm, .slice pc cl.length cc, .slice pi il.length ci, .int .i64 lim, .int .i64 prt, .int .i64 by_] 47)) W) => columns_any W B _ cl ((h1.below hal).below hb) h3)
  have HALW := Lib.hid hal
  cases hn : namedB nm
  · rw [hn] at HN
    clear HC hcl hn
    simp only [Bool.false_and]
    go_enter Tryd.func49, Tryd.ntmps49
    go_wp2_with (go_at_call 88; refine HN.out.mono ?_; rintro e w2 ⟨rfl, hb2⟩)
    go_ret
    exact ⟨rfl, HALW.out.trans (hb2.mono HALW.out.size)⟩
  rw [hn] at HN
  simp only [Bool.true_and]
  cases hc : colsB cl
  · rw [hc] at HC
    clear hcl hn hc
    simp only [Bool.false_and]
    go_enter Tryd.func49, Tryd.ntmps49
    go_wp2_with (first
      | (go_at_call 88; refine HN.out.mono ?_; rintro e w2 ⟨rfl, hb2⟩; obtain ⟨x0, x1, x2, x3, x4, x5⟩ := sch_cells (HBK.out.below hb2); have HB2 := Lib.hid hb2; have HC2 := Lib.hid (HC.out w2 hb2); clear hb2 x0 x3 x4 x5)
      | (go_at_call 89; refine HC2.out.mono ?_; rintro e w3 ⟨rfl, hb3⟩; have HB3 := Lib.hid (HB2.out.trans (hb3.mono HB2.out.size)); clear hb3))
    go_ret
    exact ⟨rfl, HALW.out.trans (HB3.out.mono HALW.out.size)⟩
  rw [hc] at HC
  obtain ⟨hcl1, hcl8⟩ := hcl hc
  simp only [Bool.true_and]
  have HI := Lib.hid (fun W (hb : Below (w.alloc (.cells #[.string nm, .slice pc cl.length cc, .slice pi il.length ci, .int .i64 lim, .int .i64 prt, .int .i64 by_] 47)).heap.size (w.alloc (.cells #[.string nm, .slice pc cl.length cc, .slice pi il.length ci, .int .i64 lim, .int .i64 prt, .int .i64 by_] 47)) W) => indexes_any W B _ il (cl.length : Int) ⟨by omega, by omega⟩ ((h2.below hal).below hb))
  have HL := Lib.hid (fun W => within_any W lim 1 1000)
  have HP := Lib.hid (fun W => within_any W prt 1 8)
  have HY := Lib.hid (fun W => within_any W by_ 0 ((cl.length : Int) - 1))
  have hsub : 0 ≤ (cl.length : Int) - 1 := by omega
  have hcl8i : (cl.length : Int) ≤ 8 := by omega
  have hcl1i : (1 : Int) ≤ (cl.length : Int) := by omega
  clear h1 h2 h3 h4 hal hn hc hcl hcc hci
  generalize idxB (cl.length : Int) il = r3 at *
  generalize (decide (1 ≤ lim) && decide (lim ≤ 1000)) = r4 at *
  generalize (decide (1 ≤ prt) && decide (prt ≤ 8)) = r5 at *
  generalize (decide (0 ≤ by_) && decide (by_ ≤ (cl.length : Int) - 1)) = r6 at *
  cases r3
  · simp only [Bool.false_and]
    go_enter Tryd.func49, Tryd.ntmps49
    go_wp2_with (first
      | (go_at_call 88; refine HN.out.mono ?_; rintro e w2 ⟨rfl, hb2⟩; obtain ⟨x0, x1, x2, x3, x4, x5⟩ := sch_cells (HBK.out.below hb2); have HB2 := Lib.hid hb2; have HC2 := Lib.hid (HC.out w2 hb2); clear hb2 x0 x3 x4 x5)
      | (go_at_call 89; refine HC2.out.mono ?_; rintro e w3 ⟨rfl, hb3⟩; have hb23 := HB2.out.trans (hb3.mono HB2.out.size); obtain ⟨y0, y1, y2, y3, y4, y5⟩ := sch_cells (HBK.out.below hb23); have HB3 := Lib.hid hb23; have HI3 := Lib.hid (HI.out w3 hb23); clear hb3 hb23 y0 y3 y4 y5 x1 x2)
      | (go_at_call 90; refine HI3.out.mono ?_; rintro e w4 ⟨rfl, hb4⟩; have hb34 := HB3.out.trans (hb4.mono HB3.out.size); obtain ⟨z0, z1, z2, z3, z4, z5⟩ := sch_cells (HBK.out.below hb34); have HB4 := Lib.hid hb34; clear hb4 hb34 z0 z2 y1 y2)
      | (go_at_call 67; (with_reducible refine (HL.out _).mono ?_); rintro e w5 ⟨rfl, rfl⟩)
      | (go_at_call 67; (with_reducible refine (HP.out _).mono ?_); rintro e w5 ⟨rfl, rfl⟩)
      | (go_at_call 67; (with_reducible refine (HY.out _).mono ?_); rintro e w5 ⟨rfl, rfl⟩))
    go_ret
    exact ⟨rfl, HALW.out.trans (HB4.out.mono HALW.out.size)⟩
  simp only [Bool.true_and]
  cases r4
  · simp only [Bool.false_and]
    go_enter Tryd.func49, Tryd.ntmps49
    go_wp2_with (first
      | (go_at_call 88; refine HN.out.mono ?_; rintro e w2 ⟨rfl, hb2⟩; obtain ⟨x0, x1, x2, x3, x4, x5⟩ := sch_cells (HBK.out.below hb2); have HB2 := Lib.hid hb2; have HC2 := Lib.hid (HC.out w2 hb2); clear hb2 x0 x3 x4 x5)
      | (go_at_call 89; refine HC2.out.mono ?_; rintro e w3 ⟨rfl, hb3⟩; have hb23 := HB2.out.trans (hb3.mono HB2.out.size); obtain ⟨y0, y1, y2, y3, y4, y5⟩ := sch_cells (HBK.out.below hb23); have HB3 := Lib.hid hb23; have HI3 := Lib.hid (HI.out w3 hb23); clear hb3 hb23 y0 y3 y4 y5 x1 x2)
      | (go_at_call 90; refine HI3.out.mono ?_; rintro e w4 ⟨rfl, hb4⟩; have hb34 := HB3.out.trans (hb4.mono HB3.out.size); obtain ⟨z0, z1, z2, z3, z4, z5⟩ := sch_cells (HBK.out.below hb34); have HB4 := Lib.hid hb34; clear hb4 hb34 z0 z2 y1 y2)
      | (go_at_call 67; (with_reducible refine (HL.out _).mono ?_); rintro e w5 ⟨rfl, rfl⟩)
      | (go_at_call 67; (with_reducible refine (HP.out _).mono ?_); rintro e w5 ⟨rfl, rfl⟩)
      | (go_at_call 67; (with_reducible refine (HY.out _).mono ?_); rintro e w5 ⟨rfl, rfl⟩))
    go_ret
    exact ⟨rfl, HALW.out.trans (HB4.out.mono HALW.out.size)⟩
  simp only [Bool.true_and]
  cases r5
  · simp only [Bool.false_and]
    go_enter Tryd.func49, Tryd.ntmps49
    go_wp2_with (first
      | (go_at_call 88; refine HN.out.mono ?_; rintro e w2 ⟨rfl, hb2⟩; obtain ⟨x0, x1, x2, x3, x4, x5⟩ := sch_cells (HBK.out.below hb2); have HB2 := Lib.hid hb2; have HC2 := Lib.hid (HC.out w2 hb2); clear hb2 x0 x3 x4 x5)
      | (go_at_call 89; refine HC2.out.mono ?_; rintro e w3 ⟨rfl, hb3⟩; have hb23 := HB2.out.trans (hb3.mono HB2.out.size); obtain ⟨y0, y1, y2, y3, y4, y5⟩ := sch_cells (HBK.out.below hb23); have HB3 := Lib.hid hb23; have HI3 := Lib.hid (HI.out w3 hb23); clear hb3 hb23 y0 y3 y4 y5 x1 x2)
      | (go_at_call 90; refine HI3.out.mono ?_; rintro e w4 ⟨rfl, hb4⟩; have hb34 := HB3.out.trans (hb4.mono HB3.out.size); obtain ⟨z0, z1, z2, z3, z4, z5⟩ := sch_cells (HBK.out.below hb34); have HB4 := Lib.hid hb34; clear hb4 hb34 z0 z2 y1 y2)
      | (go_at_call 67; (with_reducible refine (HL.out _).mono ?_); rintro e w5 ⟨rfl, rfl⟩)
      | (go_at_call 67; (with_reducible refine (HP.out _).mono ?_); rintro e w5 ⟨rfl, rfl⟩)
      | (go_at_call 67; (with_reducible refine (HY.out _).mono ?_); rintro e w5 ⟨rfl, rfl⟩))
    go_ret
    exact ⟨rfl, HALW.out.trans (HB4.out.mono HALW.out.size)⟩
  simp only [Bool.true_and]
  go_enter Tryd.func49, Tryd.ntmps49
  go_wp2_with (first
    | (go_at_call 88; refine HN.out.mono ?_; rintro e w2 ⟨rfl, hb2⟩; obtain ⟨x0, x1, x2, x3, x4, x5⟩ := sch_cells (HBK.out.below hb2); have HB2 := Lib.hid hb2; have HC2 := Lib.hid (HC.out w2 hb2); clear hb2 x0 x3 x4 x5)
    | (go_at_call 89; refine HC2.out.mono ?_; rintro e w3 ⟨rfl, hb3⟩; have hb23 := HB2.out.trans (hb3.mono HB2.out.size); obtain ⟨y0, y1, y2, y3, y4, y5⟩ := sch_cells (HBK.out.below hb23); have HB3 := Lib.hid hb23; have HI3 := Lib.hid (HI.out w3 hb23); clear hb3 hb23 y0 y3 y4 y5 x1 x2)
    | (go_at_call 90; refine HI3.out.mono ?_; rintro e w4 ⟨rfl, hb4⟩; have hb34 := HB3.out.trans (hb4.mono HB3.out.size); obtain ⟨z0, z1, z2, z3, z4, z5⟩ := sch_cells (HBK.out.below hb34); have HB4 := Lib.hid hb34; clear hb4 hb34 z0 z2 y1 y2)
    | (go_at_call 67; (with_reducible refine (HL.out _).mono ?_); rintro e w5 ⟨rfl, rfl⟩)
    | (go_at_call 67; (with_reducible refine (HP.out _).mono ?_); rintro e w5 ⟨rfl, rfl⟩)
    | (go_at_call 67; (with_reducible refine (HY.out _).mono ?_); rintro e w5 ⟨rfl, rfl⟩))
  go_ret
  exact ⟨rfl, HALW.out.trans (HB4.out.mono HALW.out.size)⟩
end Go.Proofs.YtlgohkdckdnmhaaDoor
