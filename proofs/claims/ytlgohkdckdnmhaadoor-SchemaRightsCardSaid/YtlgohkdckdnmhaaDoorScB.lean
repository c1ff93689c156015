/- Schemas: a row's key. -/
import Derived.Test.YtlgohkdckdnmhaaDoorScA
import Derived.Test.YtlgohkdckdnmhaaDoorKyA
namespace Go.Proofs.YtlgohkdckdnmhaaDoor
open Go.RowKit Go.Afx

theorem pickO_fit {row : List AV} (ps : List Int) (h : ∀ a ∈ row, fit64 a.n) : ∀ a ∈ pickO row ps, fit64 a.n := by
  intro a ha
  unfold pickO at ha
  split at ha
  · unfold pickR at ha
    obtain ⟨p, _, rfl⟩ := List.mem_map.1 ha
    rw [List.getD_eq_getElem?_getD]
    cases hg : row[p.toNat]? with
    | none => simp [fit64]
    | some b => simpa using h b (List.mem_of_getElem? hg)
  · simp at ha
theorem pickO_len (row : List AV) (ps : List Int) : (pickO row ps).length ≤ ps.length := by
  unfold pickO
  split
  · rw [pickR_len]; omega
  · simp
theorem rowKey_len (l : List AV) : (rowKey l).length ≤ 410 * l.length := by
  unfold rowKey
  split
  · have h := keysB_len l ‹_› l.length
    rwa [List.take_length] at h
  · simp
theorem sl_anyw {w : World} {B : Nat → Prop} {sz : Nat} {v : Value} {n : Nat} {cs : List Value} (h : Sl w B sz v n cs) : Sl w (fun _ => True) sz v n cs := h.mono (Nat.le_refl _) (fun _ _ _ => rfl) (fun _ _ _ => trivial)
/-- The key by an index, of a schema's indexes. -/
def skey (il : List IdxV) (row : List AV) (x : IdxV) : List UInt8 := rowKey (pickO row x.l) ++ (if x.unique then [] else rowKey (pickO row (il.headD x).l))

set_option maxRecDepth 100000 in
set_option maxHeartbeats 2000000 in
theorem sckey_any (w : World) (hm : Mx w) (B B' : Nat → Prop) (s : SchV) (i : Nat) (v : Value) (row : List AV) (h : SchAt w B s) (hr : Sl w B' 3 v row.length (rowCells row)) (hi : i < s.idx.length) (hf : ∀ a ∈ row, fit64 a.n)
    (hrl : row.length ≤ 1000) (hx : ∀ x ∈ s.idx, x.l.length ≤ 200) :
    Calls Tryd.prog 70 #[s.agg, .int .i64 (i : Int), v] w fun e w' => e = .returned (.string (bs (skey s.idx row s.idx[i]))) ∧ Below w.heap.size w w' := by
  obtain ⟨nm, cv, cl, iv, il, lim, prt, by_⟩ := s
  obtain ⟨h1, h2, h3, h4⟩ := h
  simp only at h1 h2 h3 h4 hi hx
  simp only [SchV.agg]
  obtain ⟨pc, cc, rfl, _, hcc⟩ := h1.form
  have hidx := h2.1
  obtain ⟨g, off, ci, rfl, hci1, hci, _, hglt0, _⟩ := hidx.place (by omega)
  have hal : Below w.heap.size w (w.alloc (.cells #[.string nm, .slice pc cl.length cc, .slice (some ⟨g, off, none⟩) il.length ci, .int .i64 lim, .int .i64 prt, .int .i64 by_] 47)) := (Below.refl _ _).alloc (Nat.le_refl _) _
  have HBK : Hid (Blk (w.alloc (.cells #[.string nm, .slice pc cl.length cc, .slice (some ⟨g, off, none⟩) il.length ci, .int .i64 lim, .int .i64 prt, .int .i64 by_] 47)) w.heap.size 47 [.string nm, .slice pc cl.length cc, .slice (some ⟨g, off, none⟩) il.length ci, .int .i64 lim, .int .i64 prt, .int .i64 by_]) := Blk.new w _ _
  have HALW := Lib.hid hal
  have HIX := Lib.hid (h2.below hal)
  have HROW := Lib.hid (hr.below hal)
  have HM := Lib.hid (hm.below hal)
  have HF := Lib.hid hf
  obtain ⟨x0, x1, x2, x3, x4, x5⟩ := sch_cells HBK.out
  clear x0 x1 x3 x4 x5 h1 h2 h3 h4 hidx hm hr hf hcc
  obtain ⟨g', off', cap', hv, hglt, e0, e1⟩ := sl_idx HIX.out.1 hi
  cases hv
  have hil0 : 0 < il.length := by omega
  obtain ⟨g', off', cap', hv, hglt', d0, d1⟩ := sl_idx HIX.out.1 hil0
  cases hv
  have hxi := hx il[i] (List.getElem_mem hi)
  have hx0 := hx il[0] (List.getElem_mem hil0)
  have hsl := HIX.out.2 il[i] (List.getElem_mem hi)
  have hsl0 := HIX.out.2 il[0] (List.getElem_mem hil0)
  have hhd : (il.headD il[i]) = il[0] := by cases il with
    | nil => simp at hil0
    | cons a t => rfl
  have HSK : Hid (skey il row il[i] = rowKey (pickO row il[i].l) ++ (if il[i].unique then [] else rowKey (pickO row il[0].l))) := by
    show _ = _
    unfold skey
    rw [hhd]
  generalize skey il row il[i] = out at *
  clear hhd hx
  generalize hxx : il[i] = x at *
  generalize hyy : il[0] = y at *
  clear hxx hyy d1
  obtain ⟨xv, xl, xu⟩ := x
  obtain ⟨yv, yl, yu⟩ := y
  simp only at *
  rw [Nat.zero_mul, Nat.add_zero] at d0
  obtain ⟨px, cx, rfl, _, _⟩ := hsl.form
  generalize hw1 : w.alloc (.cells #[.string nm, .slice pc cl.length cc, .slice (some ⟨g, off, none⟩) il.length ci, .int .i64 lim, .int .i64 prt, .int .i64 by_] 47) = w1 at *
  have hb1 : Below w1.heap.size w1 (w1.alloc (.cells #[.slice px xl.length cx, .bool xu] 55)) := (Below.refl _ _).alloc (Nat.le_refl _) _
  have HB1 := Lib.hid hb1
  have HBX : Hid (Blk (w1.alloc (.cells #[.slice px xl.length cx, .bool xu] 55)) w1.heap.size 55 [.slice px xl.length cx, .bool xu]) := Blk.new w1 _ _
  have HY0 := Lib.hid (fun W (hb : Below w1.heap.size w1 W) => hsl0.below hb)
  have HPK := Lib.hid (fun W (hb : Below w1.heap.size w1 W) => pick_any W B' B v _ row xl (HROW.out.below hb) (hsl.below hb) hrl (by omega))
  have HPK0 := Lib.hid (fun W (hb : Below w1.heap.size w1 W) => pick_any W B' B v yv row yl (HROW.out.below hb) (hsl0.below hb) hrl (by omega))
  have HKY := Lib.hid (fun W (hb : Below w1.heap.size w1 W) v (hv : Sl W (fun _ => True) 3 v (pickO row xl).length (rowCells (pickO row xl))) => key_any W (HM.out.below hb) (fun _ => True) v (pickO row xl) hv (pickO_fit _ HF.out) (by have := pickO_len row xl; omega))
  have HKY0 := Lib.hid (fun W (hb : Below w1.heap.size w1 W) v (hv : Sl W (fun _ => True) 3 v (pickO row yl).length (rowCells (pickO row yl))) => key_any W (HM.out.below hb) (fun _ => True) v (pickO row yl) hv (pickO_fit _ HF.out) (by have := pickO_len row yl; omega))
  have c0 := HBX.out.cell 0
  have c1 := HBX.out.cell 1
  simp only [List.getElem?_cons_zero, List.getElem?_cons_succ] at c0 c1
  have hsum : (bs (rowKey (pickO row xl))).size + (bs (rowKey (pickO row yl))).size ≤ 9223372036854775807 := by
    rw [bs_size, bs_size]
    have := rowKey_len (pickO row xl)
    have := rowKey_len (pickO row yl)
    have := pickO_len row xl
    have := pickO_len row yl
    omega
  clear hsl hsl0 hb1
  generalize rowKey (pickO row xl) = kx at *
  generalize rowKey (pickO row yl) = ky at *
  cases xu
  · simp only [Bool.false_eq_true, if_false] at HSK
    go_enter Tryd.func70, Tryd.ntmps70
    go_wp2_with fail
    clear hw1
    refine (HPK.out _ HB1.out).mono ?_
    rintro e w2 ⟨p1, rfl, hp1, hb2⟩
    have HB2 := Lib.hid (HB1.out.trans (hb2.mono HB1.out.size))
    have HP1 := Lib.hid (sl_anyw hp1)
    have HBX2 := Lib.hid (HBX.out.below hb2)
    clear hp1 hb2 c0 c1 HPK
    go_wp2_with fail
    refine (HKY.out _ HB2.out p1 HP1.out).mono ?_
    rintro e w3 ⟨rfl, hb3⟩
    have HB3 := Lib.hid (HB2.out.trans (hb3.mono HB2.out.size))
    have hbx3 := HBX2.out.below hb3
    have c1 := hbx3.cell 1
    simp only [List.getElem?_cons_zero, List.getElem?_cons_succ] at c1
    have x2 := (HBK.out.below HB3.out).cell 2
    simp only [List.getElem?_cons_zero, List.getElem?_cons_succ] at x2
    have d0 : w3.cell? ⟨g, off, none⟩ = some yv := (HB3.out.cell hglt').trans d0
    clear hbx3 hb3 HKY
    go_wp2_with fail
    refine (HPK0.out _ HB3.out).mono ?_
    rintro e w4 ⟨p2, rfl, hp2, hb4⟩
    have HB4 := Lib.hid (HB3.out.trans (hb4.mono HB3.out.size))
    have HP2 := Lib.hid (sl_anyw hp2)
    clear hp2 hb4 HPK0
    go_wp2_with fail
    refine (HKY0.out _ HB4.out p2 HP2.out).mono ?_
    rintro e w5 ⟨rfl, hb5⟩
    have HB5 := Lib.hid (HB4.out.trans (hb5.mono HB4.out.size))
    clear hb5
    go_wp2
    go_ret
    exact ⟨by rw [HSK.out, ← bs_append]; rfl, HALW.out.trans (HB5.out.mono HALW.out.size)⟩
  · simp only [if_true, List.append_nil] at HSK
    go_enter Tryd.func70, Tryd.ntmps70
    go_wp2_with fail
    clear hw1
    refine (HPK.out _ HB1.out).mono ?_
    rintro e w2 ⟨p1, rfl, hp1, hb2⟩
    have HB2 := Lib.hid (HB1.out.trans (hb2.mono HB1.out.size))
    have HP1 := Lib.hid (sl_anyw hp1)
    have HBX2 := Lib.hid (HBX.out.below hb2)
    clear hp1 hb2 c0 c1 HPK
    go_wp2_with fail
    refine (HKY.out _ HB2.out p1 HP1.out).mono ?_
    rintro e w3 ⟨rfl, hb3⟩
    have HB3 := Lib.hid (HB2.out.trans (hb3.mono HB2.out.size))
    have hbx3 := HBX2.out.below hb3
    have c1 := hbx3.cell 1
    simp only [List.getElem?_cons_zero, List.getElem?_cons_succ] at c1
    clear hbx3 hb3 HKY
    go_wp2
    go_ret
    exact ⟨by rw [HSK.out]; rfl, HALW.out.trans (HB3.out.mono HALW.out.size)⟩
end Go.Proofs.YtlgohkdckdnmhaaDoor
