/- Schemas compared: schema.Same. -/
import Derived.Test.YtlgohkdckdnmhaaDoorRtC
namespace Go.Proofs.YtlgohkdckdnmhaaDoor
open Go.RowKit Go.Afx

set_option maxRecDepth 100000 in
theorem eqf_idx (w : World) (B B' : Nat → Prop) (v v' : Value) (l l' : List IdxV) (h : IdxAt w B v l) (h' : IdxAt w B' v' l') :
    Calls Tryd.prog 87 #[v, v', .func (.func 84) #[] #[]] w fun e w' => e = .returned (.bool (eqBy idxEq l l')) ∧ Below w.heap.size w w' := by
  have HE : Hid (eqBy idxEq l l' = (decide (l.length = l'.length) && (List.range l.length).all (eqByAt idxEq l l'))) := rfl
  generalize eqBy idxEq l l' = out at *
  by_cases hlen : l'.length = l.length
  · rw [decide_eq_true hlen.symm, Bool.true_and] at HE
    obtain ⟨p, cap, rfl, hc1, hc2⟩ := h.1.form
    obtain ⟨p', cap', rfl, hc1', hc2'⟩ := h'.1.form
    rw [hlen] at h' hc1' ⊢
    have H := Lib.hid h
    have H' := Lib.hid h'
    have HL := Lib.hid hlen
    clear h h' hlen
    go_enter Tryd.func87, Tryd.ntmps87
    go_wp2
    go_loopw [17] (fun i wr => ∃ k : Nat, i = .int .i64 k ∧ k ≤ l.length ∧ ((List.range l.length).take k).all (eqByAt idxEq l l') = true ∧ Below w.heap.size w wr) (fun i _ => l.length - (intOf i).toNat)
    case atStart => exact ⟨0, rfl, Nat.zero_le _, rfl, Below.refl _ _⟩
    case round =>
      obtain ⟨k, rfl, hk, ha, hb⟩ := hrel
      have HB := Lib.hid hb
      have HA := Lib.hid ha
      clear ha
      by_cases hka : k < l.length
      · have hka' : k < l'.length := by rw [HL.out]; exact hka
        have h1 := (H.out.below hb)
        have h1' := (H'.out.below hb)
        obtain ⟨g, off, cap1, hv, hg, e0, e1⟩ := sl_idx h1.1 hka
        have h1'' := h1'.1
        rw [← HL.out] at h1''
        obtain ⟨g', off', cap1', hv', hg', e0', e1'⟩ := sl_idx h1'' hka'
        rw [HL.out] at hv'
        cases hv
        cases hv'
        have HX := Lib.hid (range_next (eqByAt idxEq l l') l.length k hka HA.out)
        have HY := Lib.hid (range_not (eqByAt idxEq l l') l.length k hka)
        rw [eqByAt_eq idxEq l l' k hka hka'] at HX HY
        have sx := h1.2 l[k] (List.getElem_mem hka)
        have sy := h1'.2 l'[k] (List.getElem_mem hka')
        clear hb h1 h1' h1''
        generalize l[k] = x at *
        generalize l'[k] = y at *
        obtain ⟨xv, xl, xu⟩ := x
        obtain ⟨yv, yl, yu⟩ := y
        simp only at e0 e1 e0' e1' sx sy
        obtain ⟨px, cx, rfl, _, _⟩ := sx.form
        obtain ⟨py, cy, rfl, _, _⟩ := sy.form
        have b1 : Below wr.heap.size wr (wr.alloc (.cells #[.slice px xl.length cx, .bool xu] 55)) := (Below.refl _ _).alloc (Nat.le_refl _) _
        have b2 : Below wr.heap.size wr ((wr.alloc (.cells #[.slice px xl.length cx, .bool xu] 55)).alloc (.cells #[.slice py yl.length cy, .bool yu] 55)) := b1.trans (((Below.refl _ _).alloc (Nat.le_refl _) _).mono b1.size)
        have k1 := (Blk.new wr 55 [.slice px xl.length cx, .bool xu]).below ((Below.refl _ _).alloc (Nat.le_refl _) (.cells #[.slice py yl.length cy, .bool yu] 55))
        have k2 := Blk.new (wr.alloc (.cells #[.slice px xl.length cx, .bool xu] 55)) 55 [.slice py yl.length cy, .bool yu]
        have z1 := (b1.cell hg').trans e0'
        have z2 := (b1.cell hg').trans e1'
        have x0 := k1.cell 0
        have x1 := k1.cell 1
        have y0 := k2.cell 0
        have y1 := k2.cell 1
        simp only [List.getElem?_cons_zero, List.getElem?_cons_succ] at x0 x1 y0 y1
        have HS := Lib.hid (same1_any _ _ _ ⟨.slice px xl.length cx, xl, xu⟩ ⟨.slice py yl.length cy, yl, yu⟩ (sx.below b2) (sy.below b2))
        simp only at HS
        have HB2 := Lib.hid (HB.out.trans (b2.mono HB.out.size))
        clear b1 b2 k1 k2 sx sy
        generalize idxEq ⟨.slice px xl.length cx, xl, xu⟩ ⟨.slice py yl.length cy, yl, yu⟩ = eq at *
        cases eq
        · have HF := Lib.hid (HY.out rfl)
          clear HX HY
          go_wp2_with fail
          refine HS.out.mono ?_
          rintro e w3 ⟨rfl, hb3⟩
          have HB3 := Lib.hid (HB2.out.trans (hb3.mono HB2.out.size))
          clear hb3
          go_wp2
          go_ret
          exact ⟨by rw [HE.out, HF.out]; rfl, HB3.out⟩
        · have HF := Lib.hid (HX.out rfl)
          clear HX HY
          go_wp2_with fail
          refine HS.out.mono ?_
          rintro e w3 ⟨rfl, hb3⟩
          have HB3 := Lib.hid (HB2.out.trans (hb3.mono HB2.out.size))
          clear hb3
          go_wp2
          exact ⟨⟨k + 1, by go_num, by omega, HF.out, HB3.out⟩, by (simp [intOf]) <;> omega⟩
      · obtain rfl : k = l.length := by omega
        have e5 : out = true := by rw [HE.out]; exact range_all _ _ HA.out
        have E5 := Lib.hid e5
        clear hb e5
        go_wp2
        go_ret
        exact ⟨by rw [E5.out]; rfl, HB.out⟩
  · obtain ⟨p, cap, rfl, hc1, hc2⟩ := h.1.form
    obtain ⟨p', cap', rfl, hc1', hc2'⟩ := h'.1.form
    rw [decide_eq_false (fun e => hlen e.symm)] at HE
    have d1 : ((l.length : Int) == (l'.length : Int)) = false := beq_eq_false_iff_ne.2 (by omega)
    have d2 : ((l.length : Int) != (l'.length : Int)) = true := bne_iff_ne.2 (by omega)
    clear h h' hlen
    go_enter Tryd.func87, Tryd.ntmps87
    go_wp2
    go_ret
    exact ⟨by rw [HE.out]; rfl, Below.refl _ _⟩

/-- Two schemas compared. -/
def sameS (a b : SchV) : Bool := (a.name.toList == b.name.toList && (a.limit == b.limit && (a.parts == b.parts && a.by_ == b.by_))) && (eqBy colEq a.cols b.cols && eqBy idxEq a.idx b.idx)

set_option maxRecDepth 100000 in
set_option maxHeartbeats 4000000 in
theorem scsame_any (w : World) (B B' : Nat → Prop) (a b : SchV) (ha : SchAt w B a) (hb : SchAt w B' b) :
    Calls Tryd.prog 45 #[a.agg, b.agg] w fun e w' => e = .returned (.bool (sameS a b)) ∧ Below w.heap.size w w' := by
  obtain ⟨nm, cv, cl, iv, il, lim, prt, by_⟩ := a
  obtain ⟨nm', cv', cl', iv', il', lim', prt', by_'⟩ := b
  obtain ⟨h1, h2, h3, h4⟩ := ha
  obtain ⟨h1', h2', h3', h4'⟩ := hb
  simp only at h1 h2 h3 h4 h1' h2' h3' h4'
  simp only [SchV.agg, sameS]
  obtain ⟨pc, cc, rfl, hcc1, hcc⟩ := h1.form
  obtain ⟨pi, ci, rfl, hci1, hci⟩ := h2.1.form
  obtain ⟨pc', cc', rfl, hcc1', hcc'⟩ := h1'.form
  obtain ⟨pi', ci', rfl, hci1', hci'⟩ := h2'.1.form
  obtain ⟨w1, hw1⟩ : ∃ w1, w.alloc (.cells #[.string nm, .slice pc cl.length cc, .slice pi il.length ci, .int .i64 lim, .int .i64 prt, .int .i64 by_] 47) = w1 := ⟨_, rfl⟩
  obtain ⟨w2, hw2⟩ : ∃ w2, w1.alloc (.cells #[.string nm', .slice pc' cl'.length cc', .slice pi' il'.length ci', .int .i64 lim', .int .i64 prt', .int .i64 by_'] 47) = w2 := ⟨_, rfl⟩
  have b1 : Below w.heap.size w w1 := hw1 ▸ (Below.refl _ _).alloc (Nat.le_refl _) _
  have b2 : Below w1.heap.size w1 w2 := hw2 ▸ (Below.refl _ _).alloc (Nat.le_refl _) _
  have b12 : Below w.heap.size w w2 := b1.trans (b2.mono b1.size)
  have k1 : Blk w1 w.heap.size 47 [.string nm, .slice pc cl.length cc, .slice pi il.length ci, .int .i64 lim, .int .i64 prt, .int .i64 by_] := by rw [← hw1]; exact Blk.new w _ _
  have k1b := k1.below b2
  have k2 : Blk w2 w1.heap.size 47 [.string nm', .slice pc' cl'.length cc', .slice pi' il'.length ci', .int .i64 lim', .int .i64 prt', .int .i64 by_'] := by rw [← hw2]; exact Blk.new w1 _ _
  have HB := Lib.hid b12
  have HK1 := Lib.hid k1b
  have HK2 := Lib.hid k2
  obtain ⟨x0, x1, x2, x3, x4, x5⟩ := sch_cells k1b
  obtain ⟨y0, y1, y2, y3, y4, y5⟩ := sch_cells k2
  have HCL := Lib.hid h1
  have HCL' := Lib.hid h1'
  have HIL := Lib.hid h2
  have HIL' := Lib.hid h2'
  clear b1 b2 b12 k1 k1b k2 h1 h1' h2 h2' h3 h3' h4 h4'
  have HEC := Lib.hid (fun W (hb : Below w.heap.size w W) => eq_cols W _ _ _ _ cl cl' (HCL.out.below hb) (HCL'.out.below hb))
  have HEI := Lib.hid (fun W (hb : Below w.heap.size w W) => eqf_idx W _ _ _ _ il il' (HIL.out.below hb) (HIL'.out.below hb))
  generalize eqBy colEq cl cl' = ec at *
  generalize eqBy idxEq il il' = ei at *
  by_cases hf : (nm.toList == nm'.toList && (lim == lim' && (prt == prt' && by_ == by_'))) = true
  · rw [hf, Bool.true_and]
    rw [Bool.and_eq_true, Bool.and_eq_true, Bool.and_eq_true] at hf
    obtain ⟨d1, d2, d3, d4⟩ := hf
    cases ec
    · rw [Bool.false_and]
      go_enter Tryd.func45, Tryd.ntmps45
      go_wp2_with fail
      clear hw1 hw2
      refine (HEC.out _ HB.out).mono ?_
      rintro e w3 ⟨rfl, hb3⟩
      have HB3 := Lib.hid (HB.out.trans (hb3.mono HB.out.size))
      clear hb3
      go_wp2
      go_ret
      exact ⟨rfl, HB3.out⟩
    · rw [Bool.true_and]
      go_enter Tryd.func45, Tryd.ntmps45
      go_wp2_with fail
      clear hw1 hw2
      refine (HEC.out _ HB.out).mono ?_
      rintro e w3 ⟨rfl, hb3⟩
      have HB3 := Lib.hid (HB.out.trans (hb3.mono HB.out.size))
      obtain ⟨x0, x1, x2, x3, x4, x5⟩ := sch_cells (HK1.out.below hb3)
      obtain ⟨y0, y1, y2, y3, y4, y5⟩ := sch_cells (HK2.out.below hb3)
      clear hb3
      go_wp2_with fail
      refine (HEI.out _ HB3.out).mono ?_
      rintro e w4 ⟨rfl, hb4⟩
      have HB4 := Lib.hid (HB3.out.trans (hb4.mono HB3.out.size))
      clear hb4
      go_wp2
      go_ret
      exact ⟨rfl, HB4.out⟩
  · rw [Bool.not_eq_true] at hf
    rw [hf, Bool.false_and]
    cases d1 : (nm.toList == nm'.toList)
    · clear hf
      go_enter Tryd.func45, Tryd.ntmps45
      go_wp2
      go_ret
      exact ⟨rfl, HB.out⟩
    · cases d2 : (lim == lim')
      · clear hf
        go_enter Tryd.func45, Tryd.ntmps45
        go_wp2
        go_ret
        exact ⟨rfl, HB.out⟩
      · cases d3 : (prt == prt')
        · clear hf
          go_enter Tryd.func45, Tryd.ntmps45
          go_wp2
          go_ret
          exact ⟨rfl, HB.out⟩
        · rw [d1, d2, d3, Bool.true_and, Bool.true_and, Bool.true_and] at hf
          go_enter Tryd.func45, Tryd.ntmps45
          go_wp2
          go_ret
          exact ⟨rfl, HB.out⟩
end Go.Proofs.YtlgohkdckdnmhaaDoor
