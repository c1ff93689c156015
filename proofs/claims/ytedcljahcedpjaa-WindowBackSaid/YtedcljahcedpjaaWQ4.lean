/- Contracts of the functions that the statement reaches, one behind the other. No condition beyond each theorem's own. -/
import Derived.Deep.DeepCutAuto
import Derived.Deep.CutBlock
import Derived.IntWalk
import Derived.Test.YtedcljahcedpjaaOpen
import Derived.Test.YtedcljahcedpjaaWQ3
set_option linter.unusedSimpArgs false
set_option linter.unusedVariables false
/- Windows: the law's own right, fits, great. -/
namespace Go.Proofs.Ytedcljahcedpjaa
open Go.RowKit Go.Afx

set_option maxRecDepth 100000 in
set_option maxHeartbeats 1000000 in
theorem lright_any (w : World) (v : WinV) (hs : v.small) :
    Calls Try.prog 10 #[v.agg] w fun e w' => e = .returned (.bool (rightW v)) ∧ Below w.heap.size w w' := by
  obtain ⟨nm, on, ow, bt, sz, sl⟩ := v
  obtain ⟨n1, n2, n3⟩ := hs
  simp only at n1 n2 n3
  unfold WinV.agg
  simp only
  obtain ⟨w1, hw1⟩ : ∃ w1, w.alloc (.cells #[.string nm, .string on, .string ow, .bool bt, .int .i64 sz, .int .i64 sl] 23) = w1 := ⟨_, rfl⟩
  have k1 : Blk w1 w.heap.size 23 [.string nm, .string on, .string ow, .bool bt, .int .i64 sz, .int .i64 sl] := hw1 ▸ Blk.new w _ _
  have b1 : Below w.heap.size w w1 := hw1 ▸ (Below.refl _ _).alloc (Nat.le_refl _) _
  obtain ⟨c0, c1, c2, c3, c4, c5⟩ := win_cells k1
  have HN1 := Lib.hid (refnamed w1 nm (by unfold maxLen; omega))
  have HN2 := Lib.hid (refnamed w1 on (by unfold maxLen; omega))
  have HN3 := Lib.hid (refnamed w1 ow (by unfold maxLen; omega))
  have HB := Lib.hid b1
  have hlt : w.heap.size < w1.heap.size := k1.lt
  have HE : Hid (rightW ⟨nm, on, ow, bt, sz, sl⟩ = (namedB nm && (namedB on && (namedB ow && (decide (1 ≤ sz) && (decide (sz ≤ 100) && (decide (1 ≤ sl) && decide (sl ≤ sz)))))))) := rfl
  generalize rightW ⟨nm, on, ow, bt, sz, sl⟩ = out at *
  generalize namedB nm = nb1 at *
  generalize namedB on = nb2 at *
  generalize namedB ow = nb3 at *
  obtain ⟨d1, hd1⟩ : ∃ d, decide (1 ≤ sz) = d := ⟨_, rfl⟩
  obtain ⟨d2, hd2⟩ : ∃ d, decide (sz ≤ 100) = d := ⟨_, rfl⟩
  obtain ⟨d3, hd3⟩ : ∃ d, decide (1 ≤ sl) = d := ⟨_, rfl⟩
  obtain ⟨d4, hd4⟩ : ∃ d, decide (sl ≤ sz) = d := ⟨_, rfl⟩
  rw [hd1, hd2, hd3, hd4] at HE
  clear k1 b1 n1 n2 n3
  cases nb1
  · go_enter Try.func10, Try.ntmps10
    go_wp2_with (first
      | (go_at_call 27; refine HN1.out.mono ?_; clear HN1; rintro e w2 ⟨rfl, rfl⟩)
      | (go_at_call 27; refine HN2.out.mono ?_; clear HN2; rintro e w2 ⟨rfl, rfl⟩)
      | (go_at_call 27; refine HN3.out.mono ?_; clear HN3; rintro e w2 ⟨rfl, rfl⟩))
    go_ret
    exact ⟨by rw [HE.out]; rfl, HB.out⟩
  · cases nb2
    · go_enter Try.func10, Try.ntmps10
      go_wp2_with (first
        | (go_at_call 27; refine HN1.out.mono ?_; clear HN1; rintro e w2 ⟨rfl, rfl⟩)
        | (go_at_call 27; refine HN2.out.mono ?_; clear HN2; rintro e w2 ⟨rfl, rfl⟩)
        | (go_at_call 27; refine HN3.out.mono ?_; clear HN3; rintro e w2 ⟨rfl, rfl⟩))
      go_ret
      exact ⟨by rw [HE.out]; rfl, HB.out⟩
    · cases nb3
      · go_enter Try.func10, Try.ntmps10
        go_wp2_with (first
          | (go_at_call 27; refine HN1.out.mono ?_; clear HN1; rintro e w2 ⟨rfl, rfl⟩)
          | (go_at_call 27; refine HN2.out.mono ?_; clear HN2; rintro e w2 ⟨rfl, rfl⟩)
          | (go_at_call 27; refine HN3.out.mono ?_; clear HN3; rintro e w2 ⟨rfl, rfl⟩))
        go_ret
        exact ⟨by rw [HE.out]; rfl, HB.out⟩
      · cases d1
        · go_enter Try.func10, Try.ntmps10
          go_wp2_with (first
            | (go_at_call 27; refine HN1.out.mono ?_; clear HN1; rintro e w2 ⟨rfl, rfl⟩)
            | (go_at_call 27; refine HN2.out.mono ?_; clear HN2; rintro e w2 ⟨rfl, rfl⟩)
            | (go_at_call 27; refine HN3.out.mono ?_; clear HN3; rintro e w2 ⟨rfl, rfl⟩))
          go_ret
          exact ⟨by rw [HE.out]; rfl, HB.out⟩
        · cases d2
          · go_enter Try.func10, Try.ntmps10
            go_wp2_with (first
              | (go_at_call 27; refine HN1.out.mono ?_; clear HN1; rintro e w2 ⟨rfl, rfl⟩)
              | (go_at_call 27; refine HN2.out.mono ?_; clear HN2; rintro e w2 ⟨rfl, rfl⟩)
              | (go_at_call 27; refine HN3.out.mono ?_; clear HN3; rintro e w2 ⟨rfl, rfl⟩))
            go_ret
            exact ⟨by rw [HE.out]; rfl, HB.out⟩
          · cases d3
            · go_enter Try.func10, Try.ntmps10
              go_wp2_with (first
                | (go_at_call 27; refine HN1.out.mono ?_; clear HN1; rintro e w2 ⟨rfl, rfl⟩)
                | (go_at_call 27; refine HN2.out.mono ?_; clear HN2; rintro e w2 ⟨rfl, rfl⟩)
                | (go_at_call 27; refine HN3.out.mono ?_; clear HN3; rintro e w2 ⟨rfl, rfl⟩))
              go_ret
              exact ⟨by rw [HE.out]; rfl, HB.out⟩
            · cases d4
              · go_enter Try.func10, Try.ntmps10
                go_wp2_with (first
                  | (go_at_call 27; refine HN1.out.mono ?_; clear HN1; rintro e w2 ⟨rfl, rfl⟩)
                  | (go_at_call 27; refine HN2.out.mono ?_; clear HN2; rintro e w2 ⟨rfl, rfl⟩)
                  | (go_at_call 27; refine HN3.out.mono ?_; clear HN3; rintro e w2 ⟨rfl, rfl⟩))
                go_ret
                exact ⟨by rw [HE.out]; rfl, HB.out⟩
              · go_enter Try.func10, Try.ntmps10
                go_wp2_with (first
                  | (go_at_call 27; refine HN1.out.mono ?_; clear HN1; rintro e w2 ⟨rfl, rfl⟩)
                  | (go_at_call 27; refine HN2.out.mono ?_; clear HN2; rintro e w2 ⟨rfl, rfl⟩)
                  | (go_at_call 27; refine HN3.out.mono ?_; clear HN3; rintro e w2 ⟨rfl, rfl⟩))
                go_ret
                exact ⟨by rw [HE.out]; rfl, HB.out⟩
set_option maxRecDepth 100000 in
set_option maxHeartbeats 1000000 in
theorem wfits_any (w : World) (B B' : Nat → Prop) (cv v : Value) (cl : List ColV) (rows : List RowV) (hc : Sl w B 2 cv cl.length (colCells cl)) (hr : RowsAt w B' v rows) :
    Calls Try.prog 11 #[cv, v] w fun e w' => e = .returned (.bool (fitsB cl (rows.map RowV.l))) ∧ Below w.heap.size w w' := by
  obtain ⟨pc, cc, rfl, hcc1, hcc⟩ := hc.form
  obtain ⟨pr, cr, rfl, hcr1, hcr⟩ := hr.1.form
  have HC := Lib.hid hc
  have HR := Lib.hid hr
  have HE : Hid (fitsB cl (rows.map RowV.l) = (rows.all (fun r => fitB cl r.l) && decide ((rows.length : Int) ≤ 32))) := by
    show _ = _
    unfold fitsB
    rw [List.all_map, List.length_map]
    congr 1
    rw [Bool.eq_iff_iff]; simp; omega
  generalize fitsB cl (rows.map RowV.l) = out at *
  clear hc hr
  go_enter Try.func11, Try.ntmps11
  go_wp2
  go_loopw [5] (fun i wr => ∃ k : Nat, i = .int .i64 k ∧ k ≤ rows.length ∧ (rows.take k).all (fun r => fitB cl r.l) = true ∧ Below w.heap.size w wr) (fun i _ => rows.length - (intOf i).toNat)
  case atStart => exact ⟨0, rfl, Nat.zero_le _, rfl, Below.refl _ _⟩
  case round =>
    obtain ⟨k, rfl, hk, ha, hb⟩ := hrel
    have HB := Lib.hid hb
    have HA := Lib.hid ha
    clear ha
    by_cases hka : k < rows.length
    · obtain ⟨g, off, cap', hv, hck⟩ := (HR.out.below hb).at hka
      cases hv
      have hrow := (HR.out.below hb).2 rows[k] (List.getElem_mem hka)
      have HX := Lib.hid (all_next (fun r : RowV => fitB cl r.l) rows k hka HA.out)
      have HY := Lib.hid (all_not (fun r : RowV => fitB cl r.l) rows k hka)
      generalize rows[k] = r at *
      obtain ⟨rv, rl⟩ := r
      simp only at hck hrow HX HY
      have hf := reffits_any wr B B' ⟨⟨#[]⟩, .slice pc cl.length cc, cl, .slice none 0 0, [], 0, 0, 0⟩ rv rl (HC.out.below hb) hrow ⟨_, _, _, rfl⟩
      simp only [SchV.agg] at hf
      have HF := Lib.hid hf
      obtain ⟨pv, cv2, rfl, _, _⟩ := hrow.form
      generalize fitB cl rl = fb at *
      clear hb hf hrow
      cases fb
      · have HZ := Lib.hid (HY.out rfl)
        clear HX HY
        go_wp2_with (go_at_call 28; refine HF.out.mono ?_; clear HF; rintro e w2 ⟨rfl, hb2⟩)
        go_ret
        exact ⟨by rw [HE.out, HZ.out]; rfl, HB.out.trans (hb2.mono HB.out.size)⟩
      · have HZ := Lib.hid (HX.out rfl)
        clear HX HY
        go_wp2_with (go_at_call 28; refine HF.out.mono ?_; clear HF; rintro e w2 ⟨rfl, hb2⟩)
        go_roundw
        case rel => exact ⟨k + 1, by go_num, by omega, HZ.out, HB.out.trans (hb2.mono HB.out.size)⟩
        case measure => (simp [intOf]) <;> omega
    · obtain rfl : k = rows.length := by omega
      have e5 : out = decide ((rows.length : Int) ≤ 32) := by
        have := HA.out
        rw [List.take_length] at this
        rw [HE.out, this, Bool.true_and]
      have E5 := Lib.hid e5
      clear hb e5
      go_wp2
      go_ret
      exact ⟨by rw [E5.out]; rfl, HB.out⟩
/-- Groups of batches. -/
structure GrpV where
  v : Value
  bats : List BatV
def GrpsAt (w : World) (B : Nat → Prop) (v : Value) (gs : List GrpV) : Prop := Sl w B 1 v gs.length (gs.map GrpV.v) ∧ ∀ g ∈ gs, BatAt w B g.v g.bats
theorem GrpsAt.below {w w' : World} {B : Nat → Prop} {v : Value} {gs : List GrpV} (h : GrpsAt w B v gs) (hb : Below w.heap.size w w') : GrpsAt w' B v gs := ⟨h.1.below hb, fun g hg => (h.2 g hg).below hb⟩
theorem GrpsAt.at {w : World} {B : Nat → Prop} {v : Value} {gs : List GrpV} (h : GrpsAt w B v gs) {k : Nat} (hk : k < gs.length) :
    ∃ g off cap, v = .slice (some ⟨g, off, none⟩) gs.length cap ∧ g < w.heap.size ∧ w.cell? ⟨g, off + k, none⟩ = some gs[k].v := by
  obtain ⟨g, off, cap, hv, _, _, _, hl, hc⟩ := h.1.place (by omega)
  exact ⟨g, off, cap, hv, hl, by rw [hc k (by rw [List.length_map]; exact hk)]; simp [hk]⟩
/-- What great's no says of a batch. -/
def BatOk (b : BatV) : Prop := b.rows.length ≤ 40 ∧ ∀ r ∈ b.rows, greatB r.l = false
def GrpOk (g : GrpV) : Prop := g.bats.length ≤ 10 ∧ ∀ b ∈ g.bats, BatOk b
def GreatNo (v : WinV) (cl : List ColV) (gs : List GrpV) : Prop := cl.length ≤ 8 ∧ gs.length ≤ 20 ∧ v.small ∧ ∀ g ∈ gs, GrpOk g
def GreatOutW (w : World) (v : WinV) (cl : List ColV) (gs : List GrpV) (e : Ending) (w' : World) : Prop := ∃ b, e = .returned (.bool b) ∧ Below w.heap.size w w' ∧ (b = false → GreatNo v cl gs)
theorem all_take_succ {α : Type} {p : α → Prop} {l : List α} {k : Nat} (hk : k < l.length) (h : ∀ x ∈ l.take k, p x) (hx : p l[k]) : ∀ x ∈ l.take (k + 1), p x := by
  rw [List.take_succ_eq_append_getElem hk]
  intro x h2
  rcases List.mem_append.1 h2 with h3 | h3
  · exact h x h3
  · rw [List.mem_singleton.1 h3]; exact hx
set_option maxRecDepth 100000 in
set_option maxHeartbeats 4000000 in
theorem wgreat_any (w : World) (B B' : Nat → Prop) (v : WinV) (cv lv : Value) (cl : List ColV) (gs : List GrpV) (hc : Sl w B 2 cv cl.length (colCells cl)) (hl : GrpsAt w B' lv gs) :
    Calls Try.prog 6 #[v.agg, cv, lv] w (GreatOutW w v cl gs) := by
  obtain ⟨nm, on, ow, bt, sz, sl⟩ := v
  obtain ⟨pc, cc, rfl, hcc1, hcc⟩ := hc.form
  obtain ⟨pl, cp, rfl, hpl1, hpl⟩ := hl.1.form
  unfold WinV.agg
  simp only
  obtain ⟨w1, hw1⟩ : ∃ w1, w.alloc (.cells #[.string nm, .string on, .string ow, .bool bt, .int .i64 sz, .int .i64 sl] 23) = w1 := ⟨_, rfl⟩
  have k1 : Blk w1 w.heap.size 23 [.string nm, .string on, .string ow, .bool bt, .int .i64 sz, .int .i64 sl] := hw1 ▸ Blk.new w _ _
  have b1 : Below w.heap.size w w1 := hw1 ▸ (Below.refl _ _).alloc (Nat.le_refl _) _
  obtain ⟨c0, c1, c2, c3, c4, c5⟩ := win_cells k1
  have hlt : w.heap.size < w1.heap.size := k1.lt
  have HL := Lib.hid (hl.below b1)
  have HB := Lib.hid b1
  clear hc hl k1 b1
  by_cases a1 : 8 < cl.length
  · go_enter Try.func6, Try.ntmps6
    go_wp2
    go_ret
    exact ⟨true, rfl, HB.out, by simp⟩
  by_cases a2 : 20 < gs.length
  · go_enter Try.func6, Try.ntmps6
    go_wp2
    go_ret
    exact ⟨true, rfl, HB.out, by simp⟩
  obtain ⟨s1, hs1⟩ : ∃ n, nm.size = n := ⟨_, rfl⟩
  obtain ⟨s2, hs2⟩ : ∃ n, on.size = n := ⟨_, rfl⟩
  obtain ⟨s3, hs3⟩ : ∃ n, ow.size = n := ⟨_, rfl⟩
  by_cases a3 : 100 < s1
  · go_enter Try.func6, Try.ntmps6
    go_wp2
    go_ret
    exact ⟨true, rfl, HB.out, by simp⟩
  by_cases a4 : 100 < s2
  · go_enter Try.func6, Try.ntmps6
    go_wp2
    go_ret
    exact ⟨true, rfl, HB.out, by simp⟩
  by_cases a5 : 100 < s3
  · go_enter Try.func6, Try.ntmps6
    go_wp2
    go_ret
    exact ⟨true, rfl, HB.out, by simp⟩
  go_enter Try.func6, Try.ntmps6
  go_wp2
  have HSM : Hid (WinV.small ⟨nm, on, ow, bt, sz, sl⟩) := ⟨by simp only; omega, by simp only; omega, by simp only; omega⟩
  clear hs1 hs2 hs3 a3 a4 a5 c0 c1 c2 c3 c4 c5 hw1
  go_loopw [7] (fun i wr => ∃ k : Nat, i = .int .i64 k ∧ k ≤ gs.length ∧ Hid (∀ g ∈ gs.take k, GrpOk g) ∧ Below w1.heap.size w1 wr) (fun i _ => gs.length - (intOf i).toNat)
  case atStart => exact ⟨0, rfl, Nat.zero_le _, Lib.hid (by simp), Below.refl _ _⟩
  case round =>
    obtain ⟨k, rfl, hk, ha, hb⟩ := hrel
    have HB2 := Lib.hid hb
    obtain ⟨wo, rfl⟩ : ∃ wo : World, wo = wr := ⟨_, rfl⟩
    by_cases hkl : k < gs.length
    · obtain ⟨g1, off1, cap1, hv1, hg1, e0⟩ := (HL.out.below hb).at hkl
      cases hv1
      have hbt := HL.out.2 gs[k] (List.getElem_mem hkl)
      have HCELL : Hid (∀ W, Below w1.heap.size w1 W → W.cell? ⟨g1, off1 + k, none⟩ = some gs[k].v) := fun W h => by
        obtain ⟨g9, off9, cap9, hv9, _, h9⟩ := (HL.out.below h).at hkl
        cases hv9
        exact h9
      have HX := Lib.hid (fun hx => all_take_succ hkl ha.out hx)
      generalize gs[k] = g at *
      obtain ⟨gv, bats⟩ := g
      simp only at e0 hbt HCELL HX
      obtain ⟨pb, cb, rfl, hcb1, hcb2⟩ := hbt.1.form
      have HBT := Lib.hid hbt
      clear hbt ha
      by_cases a6 : 10 < bats.length
      · clear hb
        go_wp2
        go_ret
        exact ⟨true, rfl, HB.out.trans (HB2.out.mono HB.out.size), by simp⟩
      · clear hb
        go_wp2
        clear e0
        go_loopw [8] (fun i wr => ∃ m : Nat, i = .int .i64 m ∧ m ≤ bats.length ∧ Hid (∀ b ∈ bats.take m, BatOk b) ∧ Below w1.heap.size w1 wr) (fun i _ => bats.length - (intOf i).toNat)
        case atStart => exact ⟨0, rfl, Nat.zero_le _, Lib.hid (by simp), HB2.out⟩
        case round =>
          obtain ⟨m, rfl, hm, ha2, hb2⟩ := hrel
          have HB3 := Lib.hid hb2
          have e0 := HCELL.out wr hb2
          obtain ⟨wp, rfl⟩ : ∃ wo : World, wo = wr := ⟨_, rfl⟩
          by_cases hml : m < bats.length
          · obtain ⟨g2, off2, cap2, hv2, hg2, f0, f1⟩ := sl_bat (HBT.out.below hb2).1 hml
            cases hv2
            have hrw := HBT.out.2 bats[m] (List.getElem_mem hml)
            have HCELL2 : Hid (∀ W, Below w1.heap.size w1 W → W.cell? ⟨g2, off2 + m * 2 + 1, none⟩ = some bats[m].v) := fun W h => by
              obtain ⟨g9, off9, cap9, hv9, _, _, h9⟩ := sl_bat (HBT.out.below h).1 hml
              cases hv9
              exact h9
            have HX2 := Lib.hid (fun hx => all_take_succ hml ha2.out hx)
            generalize bats[m] = x at *
            obtain ⟨id, xv, rows⟩ := x
            simp only at f0 f1 hrw HCELL2 HX2
            obtain ⟨px, cx, rfl, hcx1, hcx2⟩ := hrw.1.form
            have HRW := Lib.hid hrw
            clear hrw ha2 f0 hb2
            by_cases a7 : 40 < rows.length
            · go_wp2
              go_ret
              exact ⟨true, rfl, HB.out.trans (HB3.out.mono HB.out.size), by simp⟩
            · go_wp2
              clear f1 e0
              go_loopw [9] (fun i wr => ∃ j : Nat, i = .int .i64 j ∧ j ≤ rows.length ∧ Hid (∀ r ∈ rows.take j, greatB r.l = false) ∧ Below w1.heap.size w1 wr) (fun i _ => rows.length - (intOf i).toNat)
              case atStart => exact ⟨0, rfl, Nat.zero_le _, Lib.hid (by simp), HB3.out⟩
              case round =>
                obtain ⟨j, rfl, hj, ha3, hb3⟩ := hrel
                have HB4 := Lib.hid hb3
                have e0 := HCELL.out wr hb3
                have f1 := HCELL2.out wr hb3
                by_cases hjl : j < rows.length
                · obtain ⟨g3, off3, cap3, hv3, hc3⟩ := (HRW.out.below hb3).at hjl
                  cases hv3
                  have hrow := (HRW.out.below hb3).2 rows[j] (List.getElem_mem hjl)
                  have HX3 := Lib.hid (fun hx => all_take_succ hjl ha3.out hx)
                  generalize rows[j] = r at *
                  obtain ⟨rv, rl⟩ := r
                  simp only at hc3 hrow HX3
                  have HG := Lib.hid (great_row wr _ rv rl hrow)
                  obtain ⟨pr, cr, rfl, _, _⟩ := hrow.form
                  clear hrow hb3 ha3
                  generalize greatB rl = gb at *
                  cases gb
                  · have HX4 := Lib.hid (HX3.out rfl)
                    clear HX3
                    go_wp2_with (go_at_call 22; refine HG.out.mono ?_; clear HG; rintro e w5 ⟨rfl, hb5⟩)
                    go_roundw
                    case rel => exact ⟨j + 1, by go_num, by omega, HX4, HB4.out.trans (hb5.mono HB4.out.size)⟩
                    case measure => (simp [intOf]) <;> omega
                  · clear HX3
                    go_wp2_with (go_at_call 22; refine HG.out.mono ?_; clear HG; rintro e w5 ⟨rfl, hb5⟩)
                    go_ret
                    exact ⟨true, rfl, HB.out.trans ((HB4.out.trans (hb5.mono HB4.out.size)).mono HB.out.size), by simp⟩
                · obtain rfl : j = rows.length := by omega
                  have hok : BatOk ⟨id, .slice px rows.length cx, rows⟩ := ⟨by simp only; omega, by have := ha3.out; rw [List.take_length] at this; exact this⟩
                  have HX4 := Lib.hid (HX2.out hok)
                  clear hb3 ha3 hok HX2
                  go_wp2
                  go_roundw
                  case rel => exact ⟨m + 1, by go_num, by omega, HX4, HB4.out⟩
                  case measure => (simp [intOf]) <;> omega
          · obtain rfl : m = bats.length := by omega
            have hok : GrpOk ⟨.slice pb bats.length cb, bats⟩ := ⟨by simp only; omega, by have := ha2.out; rw [List.take_length] at this; exact this⟩
            have HX4 := Lib.hid (HX.out hok)
            clear hb2 ha2 hok HX
            go_wp2
            go_roundw
            case rel => exact ⟨k + 1, by go_num, by omega, HX4, HB3.out⟩
            case measure => (simp [intOf]) <;> omega
    · obtain rfl : k = gs.length := by omega
      clear hb
      go_wp2
      go_ret
      refine ⟨false, rfl, HB.out.trans (HB2.out.mono HB.out.size), fun _ => ⟨by omega, by omega, HSM.out, ?_⟩⟩
      have := ha.out
      rw [List.take_length] at this
      exact this
end Go.Proofs.Ytedcljahcedpjaa
/- Windows: the law's own units, flat, lay. -/
namespace Go.Proofs.Ytedcljahcedpjaa
open Go.RowKit Go.Afx

theorem elemGrp : Elem Try.prog 33 36 1 24 (.slice none 0 0) :=
  ⟨Try.underlying33, by kernel_rfl, rfl, by omega, by intro u hu; simp [Value.cells] at hu; subst hu; rfl⟩
/-- Units that are gathered; their rows lie where they lay. -/
def GathSt (w wr : World) (B : Nat → Prop) (ov : Value) (us : List UnitV) : Prop :=
  Own wr 36 1 ov us.length (unitVals us) ∧ (∀ q, ov.ownBlock = some q → w.heap.size ≤ q) ∧ Below w.heap.size w wr ∧ ∀ u ∈ us, RowsAt w B u.v u.rows
theorem GathSt.nil (w : World) (B : Nat → Prop) : GathSt w w B (.slice none 0 0) [] := ⟨Own.nil _ _ _, by simp [Value.ownBlock], Below.refl _ _, by simp⟩
theorem GathSt.app {w wr w3 : World} {B : Nat → Prop} {ov v3 : Value} {us : List UnitV} {u : UnitV} {t : TypeId} (h : GathSt w wr B ov us) (hu : RowsAt w B u.v u.rows)
    (g1 : Own w3 36 1 v3 (us.length + 1) (unitVals us ++ [u.v])) (g2 : Only (fun k => ov.ownBlock = some k) (wr.alloc (.cells #[u.v] t)) w3) (g3 : v3.ownBlock = ov.ownBlock ∨ v3.ownBlock = some (wr.alloc (.cells #[u.v] t)).heap.size) :
    GathSt w w3 B v3 (us ++ [u]) := by
  obtain ⟨ho, hn, hb, hi⟩ := h
  have hal : Below wr.heap.size wr (wr.alloc (.cells #[u.v] t)) := (Below.refl _ _).alloc (Nat.le_refl _) _
  have hz := hb.size
  have hz2 := hal.size
  refine ⟨by rw [List.length_append, unitVals_append]; exact g1, fun q hq => ?_, (hb.trans (hal.mono hz)).trans (g2.below (by omega) (fun q hq => hn q hq)), fun x hx => ?_⟩
  · rcases g3 with h | h
    · rw [h] at hq; exact hn q hq
    · rw [h] at hq
      have : (wr.alloc (.cells #[u.v] t)).heap.size = q := Option.some.inj hq
      omega
  · rcases List.mem_append.1 hx with h | h
    · exact hi x h
    · rw [List.mem_singleton.1 h]; exact hu
theorem rows_one {w : World} {B : Nat → Prop} {g off cap : Nat} {rows : List RowV} (h : RowsAt w B (.slice (some ⟨g, off, none⟩) rows.length cap) rows) {k : Nat} (hk : k < rows.length) :
    RowsAt w B (.slice (some ⟨g, off + k, none⟩) 1 (cap - k)) [rows[k]] := by
  have h1 := (h.1.from (Nat.le_of_lt hk)).take (m := 1) (by omega)
  refine ⟨?_, fun r hr => by rw [List.mem_singleton.1 hr]; exact h.2 _ (List.getElem_mem hk)⟩
  have e1 : ((rowVals rows).drop (k * 1)).take (1 * 1) = rowVals [rows[k]] := by
    unfold rowVals
    rw [Nat.mul_one, Nat.mul_one, List.drop_eq_getElem_cons (by simpa using hk)]
    simp
  rw [e1] at h1
  simpa using h1
set_option maxRecDepth 100000 in
set_option maxHeartbeats 2000000 in
theorem units_any (w : World) (B : Nat → Prop) (v : WinV) (lv : Value) (l : List BatV) (hl : BatAt w B lv l) (hlr : ∀ x ∈ l, x.rows.length ≤ 40) (hll : l.length ≤ 100) :
    Calls Try.prog 13 #[v.agg, lv] w fun e w' => ∃ ov us, e = .returned ov ∧ us.map UnitV.abs = newUnits v.batches l ∧ Own w' 36 1 ov us.length (unitVals us) ∧ (∀ q, ov.ownBlock = some q → w.heap.size ≤ q) ∧ Below w.heap.size w w' ∧ ∀ u ∈ us, RowsAt w' B u.v u.rows := by
  obtain ⟨nm, on, ow, bt, sz, sl⟩ := v
  obtain ⟨pl, cp, rfl, hpl1, hpl⟩ := hl.1.form
  unfold WinV.agg
  simp only
  obtain ⟨w1, hw1⟩ : ∃ w1, w.alloc (.cells #[.string nm, .string on, .string ow, .bool bt, .int .i64 sz, .int .i64 sl] 23) = w1 := ⟨_, rfl⟩
  have k1 : Blk w1 w.heap.size 23 [.string nm, .string on, .string ow, .bool bt, .int .i64 sz, .int .i64 sl] := hw1 ▸ Blk.new w _ _
  have b1 : Below w.heap.size w w1 := hw1 ▸ (Below.refl _ _).alloc (Nat.le_refl _) _
  have HL := Lib.hid (hl.below b1)
  have HB := Lib.hid b1
  have HK := Lib.hid k1
  have HLR := Lib.hid hlr
  have HS0 := Lib.hid (GathSt.nil w1 B)
  clear hl k1 b1 hlr
  go_enter Try.func13, Try.ntmps13
  go_wp2
  clear hw1
  go_loopw [5, 6] (fun ov i wr => ∃ (k : Nat) (us : List UnitV), i = .int .i64 k ∧ k ≤ l.length ∧ us.map UnitV.abs = newUnits bt (l.take k) ∧ us.length ≤ k * 40 ∧ GathSt w1 wr B ov us) (fun _ i _ => l.length - (intOf i).toNat)
  case atStart => exact ⟨0, [], rfl, Nat.zero_le _, rfl, Nat.zero_le _, HS0.out⟩
  case round =>
    obtain ⟨k, us, rfl, hk, hus, hul, hst⟩ := hrel
    have HUS := Lib.hid hus
    have HST := Lib.hid hst
    obtain ⟨po, co, hov, hco1, hco2⟩ := own_formW hst.1
    subst hov
    by_cases hkl : k < l.length
    · obtain ⟨g, off, cap, hv, hg, e0, e1⟩ := sl_bat (HL.out.below hst.2.2.1).1 hkl
      cases hv
      have hrw := HL.out.2 l[k] (List.getElem_mem hkl)
      have hlr := HLR.out l[k] (List.getElem_mem hkl)
      have HTK : Hid (newUnits bt (l.take (k + 1)) = newUnits bt (l.take k) ++ unitsOf bt (l[k].rows.map RowV.l)) := by show _ = _; rw [List.take_succ_eq_append_getElem hkl, newUnits_append, newUnits_one]
      have HCELL : Hid (∀ W, Below w1.heap.size w1 W → W.cell? ⟨g, off + k * 2 + 1, none⟩ = some l[k].v) := fun W h => by
        obtain ⟨g9, off9, cap9, hv9, _, _, h9⟩ := sl_bat (HL.out.below h).1 hkl
        cases hv9
        exact h9
      generalize l[k] = x at *
      obtain ⟨id, xv, rows⟩ := x
      simp only at e0 e1 hrw hlr HTK HCELL
      obtain ⟨px, cx, rfl, hcx1, hcx2⟩ := hrw.1.form
      have HRW := Lib.hid hrw
      have hkb := HK.out.below hst.2.2.1
      have z3 : wr.cell? ⟨w.heap.size, 3, none⟩ = some (.bool bt) := hkb.cell 3
      have hltw : w.heap.size < wr.heap.size := hkb.lt
      cases bt
      · clear hus hst hrw e0 hkb hg
        go_wp2
        clear z3 hltw e1
        obtain ⟨wo, rfl⟩ : ∃ wo : World, wo = wr := ⟨_, rfl⟩
        go_loopw [5, 7] (fun ov i wr => ∃ (m : Nat) (us : List UnitV), i = .int .i64 m ∧ m ≤ rows.length ∧ us.map UnitV.abs = newUnits false (l.take k) ++ (rows.take m).map (fun r => [r.l]) ∧ us.length ≤ k * 40 + m ∧ GathSt w1 wr B ov us) (fun _ i _ => rows.length - (intOf i).toNat)
        case atStart => exact ⟨0, us, rfl, Nat.zero_le _, by simpa using HUS.out, by omega, HST.out⟩
        case round =>
          obtain ⟨m, us2, rfl, hm, hus2, hul2, hst2⟩ := hrel
          have HUS2 := Lib.hid hus2
          have HST2 := Lib.hid hst2
          obtain ⟨po2, co2, hov2, hco21, hco22⟩ := own_formW hst2.1
          subst hov2
          have e1 := HCELL.out wr hst2.2.2.1
          by_cases hml : m < rows.length
          · obtain ⟨g2, off2, cap2, hv2, hc2⟩ := HRW.out.at hml
            cases hv2
            have hr1 := rows_one HRW.out hml
            have HTM : Hid ((rows.take (m + 1)).map (fun r => [r.l]) = (rows.take m).map (fun r => [r.l]) ++ [[rows[m].l]]) := by show _ = _; rw [List.take_succ_eq_append_getElem hml, List.map_append]; rfl
            generalize rows[m] = r at *
            have HR1 := Lib.hid hr1
            have hne : ¬ cx = m := by omega
            have hal2 : Below wr.heap.size wr (wr.alloc (.cells #[.slice (some ⟨g2, off2 + m, none⟩) 1 (cx - m)] 36)) := (Below.refl _ _).alloc (Nat.le_refl _) _
            have ho1 := hst2.1.below hal2
            have hs1 := box1 wr 36 (.slice (some ⟨g2, off2 + m, none⟩) 1 (cx - m)) rfl
            clear hus2 hst2 hr1 hc2 hal2
            go_upto_region 9 with (at_builtin; refine wpList_app rfl _ _ rfl elemGrp (by rfl) ho1 (by rfl) hs1 (by unfold maxLen; omega) (by omega) ?_; intro v3 w3 q1 q2 q3 q4 q5)
            have hnew := GathSt.app (u := ⟨.slice (some ⟨g2, off2 + m, none⟩) 1 (cx - m), [r]⟩) HST2.out HR1.out q1 q2 q3
            have HNEW := Lib.hid hnew
            clear q1 q2 q3 q4 q5 hnew
            go_wp2
            go_roundw
            case rel => exact ⟨m + 1, us2 ++ [⟨.slice (some ⟨g2, off2 + m, none⟩) 1 (cx - m), [r]⟩], by go_num, by omega, by rw [List.map_append, HUS2.out, HTM.out]; simp [UnitV.abs], by rw [List.length_append]; simp only [List.length_cons, List.length_nil]; omega, HNEW.out⟩
            case measure => (simp [intOf]) <;> omega
          · obtain rfl : m = rows.length := by omega
            rw [List.take_length] at hus2
            have hus3 : us2.map UnitV.abs = newUnits false (l.take (k + 1)) := by
              rw [hus2, HTK.out]
              simp [unitsOf, Function.comp_def]
            have HUS3 := Lib.hid hus3
            clear hus2 hst2 hus3
            go_wp2
            go_roundw
            case rel => exact ⟨k + 1, us2, by go_num, by omega, HUS3.out, by omega, HST2.out⟩
            case measure => (simp [intOf]) <;> omega
      · have hal2 : Below wr.heap.size wr (wr.alloc (.cells #[.slice px rows.length cx] 36)) := (Below.refl _ _).alloc (Nat.le_refl _) _
        have ho1 := hst.1.below hal2
        have hs1 := box1 wr 36 (.slice px rows.length cx) rfl
        clear hus hst hrw e0 hkb hg hal2
        go_upto_region 4 with (at_builtin; refine wpList_app rfl _ _ rfl elemGrp (by rfl) ho1 (by rfl) hs1 (by unfold maxLen; omega) (by omega) ?_; intro v3 w3 q1 q2 q3 q4 q5)
        have hnew := GathSt.app (u := ⟨.slice px rows.length cx, rows⟩) HST.out HRW.out q1 q2 q3
        have HNEW := Lib.hid hnew
        clear q1 q2 q3 q4 q5 hnew
        go_wp2
        go_roundw
        case rel => exact ⟨k + 1, us ++ [⟨.slice px rows.length cx, rows⟩], by go_num, by omega, by rw [List.map_append, HUS.out, HTK.out]; simp [UnitV.abs, unitsOf], by rw [List.length_append]; simp only [List.length_cons, List.length_nil]; omega, HNEW.out⟩
        case measure => (simp [intOf]) <;> omega
    · obtain rfl : k = l.length := by omega
      rw [List.take_length] at hus
      have HU3 := Lib.hid hus
      clear hus hst
      go_wp2
      go_ret
      have h1 := HST.out.2.2.1
      exact ⟨_, us, rfl, HU3.out, HST.out.1, fun q hq => Nat.le_trans HB.out.size (HST.out.2.1 q hq), HB.out.trans (h1.mono HB.out.size), fun u hu => (HST.out.2.2.2 u hu).below h1⟩
theorem rowsAt_nil (w : World) (B : Nat → Prop) : RowsAt w B (.slice none 0 0) [] := ⟨⟨by simp [rowVals], Ones.nil, .inl ⟨none, 0, rfl, rfl, Nat.zero_le _, fun _ => rfl⟩⟩, by simp⟩
set_option maxRecDepth 100000 in
set_option maxHeartbeats 1000000 in
theorem flat_any (w : World) (B : Nat → Prop) (v : Value) (us : List UnitV) (h : UnitsAt w B v us) (hs : ∀ u ∈ us, u.rows.length ≤ 40) (hl : us.length ≤ 100000) :
    Calls Try.prog 34 #[v] w fun e w' => ∃ ov rws, e = .returned ov ∧ rws.map RowV.l = (us.map UnitV.abs).flatten ∧ RowsAt w' (fun _ => True) ov rws ∧ Below w.heap.size w w' := by
  obtain ⟨p, cap, rfl, hc1, hc2⟩ := h.1.form
  have HU := Lib.hid h
  have HS := Lib.hid hs
  clear h hs
  go_enter Try.func34, Try.ntmps34
  go_wp2
  go_loopw [3, 4] (fun ov i wr => ∃ (k : Nat) (rws : List RowV), i = .int .i64 k ∧ k ≤ us.length ∧ rws.map RowV.l = ((us.take k).map UnitV.abs).flatten ∧ rws.length ≤ k * 40 ∧ Own wr 56 1 ov rws.length (rowVals rws) ∧ (∀ q, ov.ownBlock = some q → w.heap.size ≤ q) ∧ Below w.heap.size w wr ∧ ∀ r ∈ rws, Sl w B 3 r.v r.l.length (rowCells r.l)) (fun _ i _ => us.length - (intOf i).toNat)
  case atStart => exact ⟨0, [], rfl, Nat.zero_le _, rfl, Nat.zero_le _, Own.nil _ _ _, by simp [Value.ownBlock], Below.refl _ _, by simp⟩
  case round =>
    obtain ⟨k, rws, rfl, hk, hr, hrl, ho, hn, hb, hi⟩ := hrel
    obtain ⟨po, co, hov, hco1, hco2⟩ := own_formW ho
    subst hov
    have HR := Lib.hid hr
    have HO := Lib.hid ho
    have HN := Lib.hid hn
    have HB := Lib.hid hb
    have HI := Lib.hid hi
    by_cases hkl : k < us.length
    · obtain ⟨g, off, cap1, hv, hck⟩ := (HU.out.below hb).at hkl
      cases hv
      have hrw := HU.out.2 us[k] (List.getElem_mem hkl)
      have hsl := HS.out us[k] (List.getElem_mem hkl)
      have HTK : Hid (((us.take (k + 1)).map UnitV.abs).flatten = ((us.take k).map UnitV.abs).flatten ++ us[k].rows.map RowV.l) := by
        show _ = _
        rw [List.take_succ_eq_append_getElem hkl, List.map_append, List.flatten_append]
        simp [UnitV.abs]
      generalize us[k] = u at *
      obtain ⟨uv, ur⟩ := u
      simp only at hck hrw hsl HTK
      obtain ⟨pu, cu, rfl, _, _⟩ := hrw.1.form
      have hs1 := (hrw.below hb).1
      have HRW := Lib.hid hrw
      have ho1 := ho
      clear hr ho hn hi hrw hb
      go_upto_region 4 with (at_builtin; refine wpList_app rfl _ _ rfl elemRows (by rfl) ho1 (by rfl) hs1 (by unfold maxLen; omega) (by omega) ?_; intro v3 w3 q1 q2 q3 q4 q5)
      have hb3 : Below w.heap.size w w3 := HB.out.trans (q2.below HB.out.size (fun q hq => HN.out q hq))
      have hn3 : ∀ q, v3.ownBlock = some q → w.heap.size ≤ q := fun q hq => by
        rcases q3 with h | h
        · rw [h] at hq; exact HN.out q hq
        · rw [h] at hq
          have : wr.heap.size = q := Option.some.inj hq
          have := HB.out.size
          omega
      have Q1 := Lib.hid q1
      have HB3 := Lib.hid hb3
      have HN3 := Lib.hid hn3
      clear q1 q2 q3 q4 q5 hb3 hn3 ho1 hs1
      go_wp2
      go_roundw
      case rel => exact ⟨k + 1, rws ++ ur, by go_num, by omega, by rw [List.map_append, HR.out, HTK.out], by rw [List.length_append]; omega, by rw [List.length_append, rowVals_append]; exact Q1.out, HN3.out, HB3.out, fun r hr => by
        rcases List.mem_append.1 hr with h | h
        · exact HI.out r h
        · exact HRW.out.2 r h⟩
      case measure => (simp [intOf]) <;> omega
    · obtain rfl : k = us.length := by omega
      rw [List.take_length] at hr
      have HR3 := Lib.hid hr
      clear hr ho hn hi hb
      go_wp2
      go_ret
      exact ⟨_, rws, rfl, HR3.out, ⟨HO.out.sl (fun _ _ => trivial), fun r hr => ((HI.out r hr).below HB.out).mono (Nat.le_refl _) (fun _ _ _ => rfl) (fun _ _ _ => trivial)⟩, HB.out⟩
set_option maxRecDepth 100000 in
set_option maxHeartbeats 1000000 in
theorem lay_units (w : World) (B : Nat → Prop) (v : Value) (us : List UnitV) (h : UnitsAt w B v us) (hs : ∀ u ∈ us, SmallU u.abs) (hl : us.length ≤ 100) :
    Calls Try.prog 35 #[v] w fun e w' => e = .returned (.string (bs (layU (us.map UnitV.abs)))) ∧ Below w.heap.size w w' := by
  obtain ⟨p, cap, rfl, hc1, hc2⟩ := h.1.form
  have HU := Lib.hid h
  have HS := Lib.hid hs
  have HSZ := Lib.hid (refsize w us.length (by unfold fit64; omega))
  clear h hs
  obtain ⟨out, hout⟩ : ∃ out, bs (layU (us.map UnitV.abs)) = out := ⟨_, rfl⟩
  rw [hout]
  have HOUT := Lib.hid hout
  clear hout
  go_enter Try.func35, Try.ntmps35
  go_wp2_with (go_at_call 48; refine HSZ.out.mono ?_; clear HSZ; rintro e w2 ⟨rfl, hb2⟩)
  have HB2 := Lib.hid hb2
  clear hb2
  go_loopw [3, 4] (fun s i wr => ∃ k : Nat, i = .int .i64 k ∧ k ≤ us.length ∧ s = .string (bs (sizeB us.length ++ laid rowsB2 ((us.take k).map UnitV.abs))) ∧ Below w.heap.size w wr) (fun _ i _ => us.length - (intOf i).toNat)
  case atStart => exact ⟨0, rfl, Nat.zero_le _, by simp [laid], HB2.out⟩
  case round =>
    obtain ⟨k, rfl, hk, rfl, hb⟩ := hrel
    have HB := Lib.hid hb
    have hlen : (bs (sizeB us.length ++ laid rowsB2 ((us.take k).map UnitV.abs))).size ≤ 5405709 := by
      rw [bs_size]
      exact layPart_len us.length _ (fun u hu => by
        obtain ⟨x, hx, rfl⟩ := List.mem_map.1 hu
        exact HS.out x (List.mem_of_mem_take hx)) (by rw [List.length_map, List.length_take]; omega) hl
    by_cases hkl : k < us.length
    · obtain ⟨g, off, cap1, hv, hck⟩ := (HU.out.below hb).at hkl
      cases hv
      have hrw := HU.out.2 us[k] (List.getElem_mem hkl)
      have hsm := HS.out us[k] (List.getElem_mem hkl)
      have hbl := unitB_len _ hsm
      have HTK : Hid (bs (sizeB us.length ++ laid rowsB2 ((us.take k).map UnitV.abs)) ++ bs (rowsB us[k].rows) = bs (sizeB us.length ++ laid rowsB2 ((us.take (k + 1)).map UnitV.abs))) := by
        show _ = _
        rw [bs_append, List.take_succ_eq_append_getElem hkl, List.map_append, rowsB_2]
        simp [laid, UnitV.abs]
      generalize us[k] = u at *
      obtain ⟨uv, ur⟩ := u
      simp only at hck hrw hsm hbl HTK
      obtain ⟨pu, cu, rfl, _, _⟩ := hrw.1.form
      have hsm2 : ur.length ≤ 32 ∧ ∀ r ∈ ur, r.l.length ≤ 8 ∧ rightAll r.l = true ∧ ∀ a ∈ r.l, fit64 a.n := ⟨by simpa [UnitV.abs] using hsm.1, fun r hr => hsm.2 r.l (by unfold UnitV.abs; exact List.mem_map_of_mem hr)⟩
      have HRW := Lib.hid (refrows wr B _ ur (hrw.below hb) (fun r hr => ⟨(hsm2.2 r hr).2.2, by have := (hsm2.2 r hr).1; omega⟩) (by omega))
      have hsz2 : (bs (rowsB ur)).size ≤ 54057 := by rw [bs_size, rowsB_2]; exact hbl
      generalize bs (sizeB us.length ++ laid rowsB2 ((us.take k).map UnitV.abs)) = cur at *
      generalize bs (rowsB ur) = nx at *
      have hsum : cur.size + nx.size ≤ 9223372036854775807 := by omega
      clear hb hrw hsm hsm2 hbl
      go_wp2_with (go_at_call 49; refine HRW.out.mono ?_; clear HRW; rintro e w5 ⟨rfl, hb5⟩)
      go_roundw
      case rel => exact ⟨k + 1, by go_num, by omega, by rw [HTK.out], HB.out.trans (hb5.mono HB.out.size)⟩
      case measure => (simp [intOf]) <;> omega
    · obtain rfl : k = us.length := by omega
      rw [List.take_length]
      have hfin : bs (sizeB us.length ++ laid rowsB2 (us.map UnitV.abs)) = out := by rw [← HOUT.out]; unfold layU; rw [List.length_map]
      rw [hfin]
      clear hb hlen hfin
      go_wp2
      go_ret
      exact ⟨rfl, HB.out⟩
end Go.Proofs.Ytedcljahcedpjaa
/- The document's Same: of one and the same row, of one and the same rows. -/
namespace Go.Proofs.Ytedcljahcedpjaa
open Go.RowKit Go.Afx

set_option maxRecDepth 100000 in
theorem same_row (w : World) (B B' : Nat → Prop) (v v' : Value) (l : List AV) (h : Sl w B 3 v l.length (rowCells l)) (h' : Sl w B' 3 v' l.length (rowCells l)) :
    Calls Try.prog 43 #[v, v'] w fun e w' => e = .returned (.bool true) ∧ Below w.heap.size w w' := by
  obtain ⟨p, cap, rfl, hc1, hc2⟩ := h.form
  obtain ⟨p', cap', rfl, hc1', hc2'⟩ := h'.form
  have H := Lib.hid h
  have H' := Lib.hid h'
  clear h h'
  go_enter Try.func43, Try.ntmps43
  go_wp2
  go_loopw [5] (fun i wr => ∃ k : Nat, i = .int .i64 k ∧ k ≤ l.length ∧ Below w.heap.size w wr) (fun i _ => l.length - (intOf i).toNat)
  case atStart => exact ⟨0, rfl, Nat.zero_le _, Below.refl _ _⟩
  case round =>
    obtain ⟨k, rfl, hk, hb⟩ := hrel
    have HB := Lib.hid hb
    by_cases hka : k < l.length
    · obtain ⟨g, off, cap1, hv, hg, e0, e1, e2⟩ := sl_av (H.out.below hb) hka
      obtain ⟨g', off', cap1', hv', hg', e0', e1', e2'⟩ := sl_av (H'.out.below hb) hka
      cases hv
      cases hv'
      clear hb
      generalize l[k] = x at *
      go_wp2
      refine wp_region_lit_plan [] [(0, 0), (1, 0), (2, 0), (4, 0), (5, 0), (6, 0), (3, 1), (7, 1), (8, 0)] (fun _ => False) (by kernel_rfl) (by kernel_rfl) (fun c a d v w h => by cases d <;> exact h) ?_
      go_wp2_with (first
        | (refine plan_pure (v := _) (by rfl) (by rfl) (by rfl) (by intro _; go_simp; with_reducible rfl) ?_; simp only [List.setIfInBounds_toArray, List.set_cons_zero, List.set_cons_succ]; try go_bits) | (refine plan_read (v := _) (by rfl) (by rfl) (by rfl) (by go_simp; with_reducible rfl) ?_; simp only [List.setIfInBounds_toArray, List.set_cons_zero, List.set_cons_succ]; try go_bits) | (refine plan_readB (v := _) (by rfl) (by rfl) (by rfl) (by intro _ hag; unfold Agree at hag; go_simp; with_reducible rfl) ?_; simp only [List.setIfInBounds_toArray, List.set_cons_zero, List.set_cons_succ]; try go_bits) | (refine plan_skip0 (by rfl) (by rfl) (by rfl) ?_; simp only [List.setIfInBounds_toArray, List.set_cons_zero, List.set_cons_succ]; try go_bits) | (refine plan_skip1 (by rfl) (by rfl) (by rfl) ?_; simp only [List.setIfInBounds_toArray, List.set_cons_zero, List.set_cons_succ]; try go_bits) | (refine plan_skip2 (by rfl) (by rfl) (by rfl) ?_; simp only [List.setIfInBounds_toArray, List.set_cons_zero, List.set_cons_succ]; try go_bits) | (refine plan_skip4 (by rfl) (by rfl) (by rfl) ?_; simp only [List.setIfInBounds_toArray, List.set_cons_zero, List.set_cons_succ]; try go_bits) | (refine plan_any (by rfl) ?_) | (refine plan_keep (by rfl) ?_) | (refine plan_nil ?_) | (with_reducible refine And.intro (by first | assumption | exact Agree.refl _ _ | exact agree_drew _ _ | exact agree_alloc _ (by intro k hk; subst hk; first | omega | (simp; omega))) ?_) | (unfold Act.put; simp only [List.setIfInBounds_toArray, List.set_cons_zero, List.set_cons_succ]))
      exact ⟨⟨k + 1, by go_num, by omega, HB.out.drew⟩, by (simp [intOf]) <;> omega⟩
    · obtain rfl : k = l.length := by omega
      clear hb
      go_wp2
      go_ret
      exact ⟨rfl, HB.out⟩

set_option maxRecDepth 100000 in
theorem same_rows (w : World) (B B' : Nat → Prop) (v v' : Value) (rows rows' : List RowV) (h : RowsAt w B v rows) (h' : RowsAt w B' v' rows') (he : rows.map RowV.l = rows'.map RowV.l) :
    Calls Try.prog 24 #[v, v'] w fun e w' => e = .returned (.bool true) ∧ Below w.heap.size w w' := by
  obtain ⟨p, cap, rfl, hc1, hc2⟩ := h.1.form
  obtain ⟨p', cap', rfl, hc1', hc2'⟩ := h'.1.form
  have hl : rows'.length = rows.length := by have := congrArg List.length he; simpa using this.symm
  have hel : ∀ k (h1 : k < rows.length) (h2 : k < rows'.length), rows'[k].l = rows[k].l := fun k h1 h2 => by
    have := congrArg (fun x : List (List AV) => x[k]?) he
    simp [h1, h2] at this
    exact this.symm
  have H := Lib.hid h
  have H' := Lib.hid h'
  have HEL := Lib.hid hel
  have HL := Lib.hid hl
  clear h h' he hel
  rw [hl]
  clear hl
  go_enter Try.func24, Try.ntmps24
  go_wp2
  go_loopw [5] (fun i wr => ∃ k : Nat, i = .int .i64 k ∧ k ≤ rows.length ∧ Below w.heap.size w wr) (fun i _ => rows.length - (intOf i).toNat)
  case atStart => exact ⟨0, rfl, Nat.zero_le _, Below.refl _ _⟩
  case round =>
    obtain ⟨k, rfl, hk, hb⟩ := hrel
    have HB := Lib.hid hb
    by_cases hka : k < rows.length
    · have hka' : k < rows'.length := by rw [HL.out]; exact hka
      obtain ⟨g, off, cap1, hv, hck⟩ := (H.out.below hb).at hka
      obtain ⟨g', off', cap1', hv', hck'⟩ := (H'.out.below hb).at hka'
      have hr := (H.out.below hb).2 rows[k] (List.getElem_mem hka)
      have hr' := (H'.out.below hb).2 rows'[k] (List.getElem_mem hka')
      have e1 := HEL.out k hka hka'
      cases hv
      rw [HL.out] at hv'
      cases hv'
      generalize rows[k] = x at *
      generalize rows'[k] = x' at *
      obtain ⟨xv, xl⟩ := x
      obtain ⟨xv', xl'⟩ := x'
      have e2 : xl' = xl := e1
      subst e2
      simp only at hr hr' hck hck'
      have HS := Lib.hid (same_row wr.drew _ _ xv xv' xl' hr.drew hr'.drew)
      clear hr hr' e1 hb
      go_wp2
      refine wp_region_lit_plan [] [(0, 0), (1, 0), (2, 0), (4, 0), (5, 0), (6, 0), (3, 1), (7, 1), (8, 4), (9, 0)] (fun _ => False) (by kernel_rfl) (by kernel_rfl) (fun c a d v w h => by cases d <;> exact h) ?_
      go_wp2_with (first
        | (refine plan_pure (v := _) (by rfl) (by rfl) (by rfl) (by intro _; go_simp; with_reducible rfl) ?_; simp only [List.setIfInBounds_toArray, List.set_cons_zero, List.set_cons_succ]; try go_bits) | (refine plan_read (v := _) (by rfl) (by rfl) (by rfl) (by go_simp; with_reducible rfl) ?_; simp only [List.setIfInBounds_toArray, List.set_cons_zero, List.set_cons_succ]; try go_bits) | (refine plan_readB (v := _) (by rfl) (by rfl) (by rfl) (by intro _ hag; unfold Agree at hag; go_simp; with_reducible rfl) ?_; simp only [List.setIfInBounds_toArray, List.set_cons_zero, List.set_cons_succ]; try go_bits) | (refine plan_skip0 (by rfl) (by rfl) (by rfl) ?_; simp only [List.setIfInBounds_toArray, List.set_cons_zero, List.set_cons_succ]; try go_bits) | (refine plan_skip1 (by rfl) (by rfl) (by rfl) ?_; simp only [List.setIfInBounds_toArray, List.set_cons_zero, List.set_cons_succ]; try go_bits) | (refine plan_skip2 (by rfl) (by rfl) (by rfl) ?_; simp only [List.setIfInBounds_toArray, List.set_cons_zero, List.set_cons_succ]; try go_bits) | (refine plan_skip4 (by rfl) (by rfl) (by rfl) ?_; simp only [List.setIfInBounds_toArray, List.set_cons_zero, List.set_cons_succ]; try go_bits) | (refine plan_any (by rfl) ?_) | (refine plan_keep (by rfl) ?_) | (refine plan_nil ?_) | (with_reducible refine And.intro (by first | assumption | exact Agree.refl _ _ | exact agree_drew _ _ | exact agree_alloc _ (by intro k hk; subst hk; first | omega | (simp; omega))) ?_) | (unfold Act.put; simp only [List.setIfInBounds_toArray, List.set_cons_zero, List.set_cons_succ])
        | (go_at_call 43; refine HS.out.mono ?_; clear HS; rintro e w2 ⟨rfl, hb2⟩))
      have hbd : Below w.heap.size w wr.drew := HB.out.drew
      exact ⟨⟨k + 1, by go_num, by omega, hbd.trans (hb2.mono hbd.size)⟩, by (simp [intOf]) <;> omega⟩
    · obtain rfl : k = rows.length := by omega
      clear hb
      go_wp2
      go_ret
      exact ⟨rfl, HB.out⟩
end Go.Proofs.Ytedcljahcedpjaa
/- Windows: the law's own split, looks. -/
namespace Go.Proofs.Ytedcljahcedpjaa
open Go.RowKit Go.Afx

/-- What the law's split leaves. -/
def LSplitOut (w : World) (B : Nat → Prop) (zn ln : Nat) (us : List UnitV) (e : Ending) (w' : World) : Prop :=
  ∃ s1 s2 us1 us2, e = .returned (.tuple #[s1, s2]) ∧ us1.map UnitV.abs = seenW zn ln (us.map UnitV.abs) ∧ us2.map UnitV.abs = stagW ln (us.map UnitV.abs) ∧ UnitsAt w' B s1 us1 ∧ UnitsAt w' B s2 us2 ∧ Below w.heap.size w w'
theorem units_mid {w : World} {B : Nat → Prop} {g off cap : Nat} {us : List UnitV} (h : UnitsAt w B (.slice (some ⟨g, off, none⟩) us.length cap) us) {lo k : Nat} (h1 : lo ≤ k) (h2 : k ≤ us.length) :
    UnitsAt w B (.slice (some ⟨g, off + lo, none⟩) (k - lo) (cap - lo)) ((us.take k).drop lo) := by
  have h3 := (h.1.from (Nat.le_trans h1 h2)).take (m := k - lo) (by omega)
  have hl : ((us.take k).drop lo).length = k - lo := by rw [List.length_drop, List.length_take]; omega
  refine ⟨?_, fun u hu => h.2 u (List.mem_of_mem_take (List.mem_of_mem_drop hu))⟩
  have e1 : ((unitVals us).drop (lo * 1)).take ((k - lo) * 1) = unitVals ((us.take k).drop lo) := by
    unfold unitVals
    rw [Nat.mul_one, Nat.mul_one, List.map_drop, List.map_take, List.drop_take]
  rw [e1] at h3
  rw [hl]
  simpa using h3
theorem units_none {w : World} {B : Nat → Prop} {p : Option Addr} {cap : Nat} {us : List UnitV} {v : Value} (h : UnitsAt w B v us) (hc : cap ≤ maxLen) (hp : p = none → cap = 0) : UnitsAt w B (.slice p 0 cap) [] :=
  ⟨⟨by simp [unitVals], Ones.nil, .inl ⟨p, cap, rfl, rfl, hc, hp⟩⟩, by simp⟩
set_option maxRecDepth 100000 in
set_option maxHeartbeats 1000000 in
theorem lsplit_any (w : World) (B : Nat → Prop) (v : WinV) (zn ln : Nat) (hzn : v.size = zn) (hln : v.slide = ln) (hz1 : 1 ≤ zn) (hl1 : 1 ≤ ln) (hz2 : zn ≤ 100) (av : Value) (us : List UnitV) (h : UnitsAt w B av us) (hl : us.length ≤ 1000000) :
    Calls Try.prog 33 #[v.agg, av] w (LSplitOut w B zn ln us) := by
  obtain ⟨nm, on, ow, bt, sz, sl⟩ := v
  simp only at hzn hln
  subst hzn
  subst hln
  obtain ⟨p, cap, rfl, hc1, hc2⟩ := h.1.form
  unfold WinV.agg
  simp only
  obtain ⟨w1, hw1⟩ : ∃ w1, w.alloc (.cells #[.string nm, .string on, .string ow, .bool bt, .int .i64 (zn : Int), .int .i64 (ln : Int)] 23) = w1 := ⟨_, rfl⟩
  have k1 : Blk w1 w.heap.size 23 [.string nm, .string on, .string ow, .bool bt, .int .i64 (zn : Int), .int .i64 (ln : Int)] := hw1 ▸ Blk.new w _ _
  have b1 : Below w.heap.size w w1 := hw1 ▸ (Below.refl _ _).alloc (Nat.le_refl _) _
  have c4 : w1.cell? ⟨w.heap.size, 4, none⟩ = some (.int .i64 (zn : Int)) := k1.cell 4
  have c5 : w1.cell? ⟨w.heap.size, 5, none⟩ = some (.int .i64 (ln : Int)) := k1.cell 5
  have c5d : w1.drew.cell? ⟨w.heap.size, 5, none⟩ = some (.int .i64 (ln : Int)) := c5
  have hlt : w.heap.size < w1.heap.size := k1.lt
  have hu1 := h.below b1
  have HU := Lib.hid hu1
  have HB := Lib.hid b1
  have hkl := slidK_le ln us.length
  obtain ⟨n, hn⟩ : ∃ n, us.length = n := ⟨_, rfl⟩
  have hq : ((n : Int) / (ln : Int)) = ((n / ln : Nat) : Int) := by simp
  have hq2 : (((n / ln : Nat) : Int) * (ln : Int)) = ((slidK ln n : Nat) : Int) := by unfold slidK; simp
  have hqn : n / ln ≤ n := Nat.div_le_self _ _
  have htd : (n : Int).tdiv (ln : Int) = ((n / ln : Nat) : Int) := by rw [Int.tdiv_eq_ediv_of_nonneg (by omega)]; simp
  have hz0 : ¬ (ln = 0) := by omega
  have hz0b : ((ln : Int) == 0) = false := beq_eq_false_iff_ne.2 (by omega)
  have hl1i : (1 : Int) ≤ (ln : Int) := by omega
  rw [hn] at hkl hc1 hl ⊢
  have hlo : max ((slidK ln n : Int) - (zn : Int)) 0 = ((slidK ln n - zn : Nat) : Int) := by omega
  have hs : (us.map UnitV.abs).length = n := by rw [List.length_map, hn]
  have HSE : Hid (seenW zn ln (us.map UnitV.abs) = (((us.take (slidK ln n)).drop (slidK ln n - zn)).map UnitV.abs)) := by show _ = _; unfold seenW; rw [hs, List.map_drop, List.map_take]
  have HST : Hid (stagW ln (us.map UnitV.abs) = ((us.drop (slidK ln n)).map UnitV.abs)) := by show _ = _; unfold stagW; rw [hs, List.map_drop]
  have hll : slidK ln n - zn ≤ slidK ln n := Nat.sub_le _ _
  have hlow : 0 < n → slidK ln n - zn < n := fun h => by omega
  generalize slidK ln n = k at *
  generalize k - zn = lo at *
  generalize n / ln = q at *
  have HN := Lib.hid hn
  have hwq : IntKind.i64.wrap (q : Int) = (q : Int) := IntWalk.i64_in _ (by omega)
  have hwr : IntKind.i64.wrap ((q : Int) * (ln : Int)) = (k : Int) := by rw [hq2]; exact IntWalk.i64_in _ (by omega)
  clear h k1 b1 hu1 hs hn
  by_cases h0 : n = 0
  · subst h0
    obtain rfl : k = 0 := by omega
    obtain rfl : lo = 0 := by omega
    have hue : us = [] := List.eq_nil_of_length_eq_zero HN.out
    have hpc : p = none → cap = 0 := by
      rcases HU.out.1.2.2 with ⟨p', c', hv, _, _, h⟩ | ⟨g, off, c', hv, _⟩
      · have h9 := Value.slice.inj hv
        intro hp
        rw [h9.2.2]
        exact h (h9.1.symm.trans hp)
      · have h9 := Value.slice.inj hv
        intro hp
        have h8 := h9.1.symm.trans hp
        cases h8
    have hun := units_none (p := p) (cap := cap) HU.out (by unfold maxLen; omega) hpc
    have hun0 := units_none (p := p) (cap := 0) HU.out (by simp [maxLen]) (fun _ => rfl)
    have HUN := Lib.hid hun
    have HUN0 := Lib.hid hun0
    have HSE2 : Hid (seenW zn ln (us.map UnitV.abs) = []) := by show _ = _; rw [HSE.out, hue]; rfl
    have HST2 : Hid (stagW ln (us.map UnitV.abs) = []) := by show _ = _; rw [HST.out, hue]; rfl
    clear hue hun hun0 hlow
    cases p with
    | none =>
      have hc0 : cap = 0 := hpc rfl
      subst hc0
      clear hpc
      go_enter Try.func33, Try.ntmps33
      go_wp2
      refine wp_region_lit_plan [] [(0, 0), (1, 0), (2, 0), (5, 0), (3, 1), (4, 0), (6, 1), (7, 0), (8, 0)] (fun _ => False) (by kernel_rfl) (by kernel_rfl) (fun c a d v w h => by cases d <;> exact h) ?_
      go_upto_region 2 with (first
        | (refine plan_pure (v := _) (by rfl) (by rfl) (by rfl) (by intro _; go_simp; with_reducible rfl) ?_; simp only [List.setIfInBounds_toArray, List.set_cons_zero, List.set_cons_succ]; try go_bits) | (refine plan_read (v := _) (by rfl) (by rfl) (by rfl) (by go_simp; with_reducible rfl) ?_; simp only [List.setIfInBounds_toArray, List.set_cons_zero, List.set_cons_succ]; try go_bits) | (refine plan_readB (v := _) (by rfl) (by rfl) (by rfl) (by intro _ hag; unfold Agree at hag; go_simp; with_reducible rfl) ?_; simp only [List.setIfInBounds_toArray, List.set_cons_zero, List.set_cons_succ]; try go_bits) | (refine plan_skip0 (by rfl) (by rfl) (by rfl) ?_; simp only [List.setIfInBounds_toArray, List.set_cons_zero, List.set_cons_succ]; try go_bits) | (refine plan_skip1 (by rfl) (by rfl) (by rfl) ?_; simp only [List.setIfInBounds_toArray, List.set_cons_zero, List.set_cons_succ]; try go_bits) | (refine plan_skip2 (by rfl) (by rfl) (by rfl) ?_; simp only [List.setIfInBounds_toArray, List.set_cons_zero, List.set_cons_succ]; try go_bits) | (refine plan_skip4 (by rfl) (by rfl) (by rfl) ?_; simp only [List.setIfInBounds_toArray, List.set_cons_zero, List.set_cons_succ]; try go_bits) | (refine plan_any (by rfl) ?_) | (refine plan_keep (by rfl) ?_) | (refine plan_nil ?_) | (with_reducible refine And.intro (by first | assumption | exact Agree.refl _ _ | exact agree_drew _ _ | exact agree_alloc _ (by intro k hk; subst hk; first | omega | (simp; omega))) ?_) | (unfold Act.put; simp only [List.setIfInBounds_toArray, List.set_cons_zero, List.set_cons_succ]))
      have d4 : w1.drew.drew.cell? ⟨w.heap.size, 4, none⟩ = some (.int .i64 (zn : Int)) := c4
      refine wp_region_lit_plan [] [(0, 0), (1, 0), (2, 0), (6, 0), (8, 0), (9, 0), (10, 0), (3, 1), (4, 0), (5, 0), (7, 0), (11, 0), (12, 0)] (fun _ => False) (by kernel_rfl) (by kernel_rfl) (fun c a d v w h => by cases d <;> exact h) ?_
      go_wp2_with (first
        | (refine plan_pure (v := _) (by rfl) (by rfl) (by rfl) (by intro _; go_simp; with_reducible rfl) ?_; simp only [List.setIfInBounds_toArray, List.set_cons_zero, List.set_cons_succ]; try go_bits) | (refine plan_read (v := _) (by rfl) (by rfl) (by rfl) (by go_simp; with_reducible rfl) ?_; simp only [List.setIfInBounds_toArray, List.set_cons_zero, List.set_cons_succ]; try go_bits) | (refine plan_readB (v := _) (by rfl) (by rfl) (by rfl) (by intro _ hag; unfold Agree at hag; go_simp; with_reducible rfl) ?_; simp only [List.setIfInBounds_toArray, List.set_cons_zero, List.set_cons_succ]; try go_bits) | (refine plan_skip0 (by rfl) (by rfl) (by rfl) ?_; simp only [List.setIfInBounds_toArray, List.set_cons_zero, List.set_cons_succ]; try go_bits) | (refine plan_skip1 (by rfl) (by rfl) (by rfl) ?_; simp only [List.setIfInBounds_toArray, List.set_cons_zero, List.set_cons_succ]; try go_bits) | (refine plan_skip2 (by rfl) (by rfl) (by rfl) ?_; simp only [List.setIfInBounds_toArray, List.set_cons_zero, List.set_cons_succ]; try go_bits) | (refine plan_skip4 (by rfl) (by rfl) (by rfl) ?_; simp only [List.setIfInBounds_toArray, List.set_cons_zero, List.set_cons_succ]; try go_bits) | (refine plan_any (by rfl) ?_) | (refine plan_keep (by rfl) ?_) | (refine plan_nil ?_) | (with_reducible refine And.intro (by first | assumption | exact Agree.refl _ _ | exact agree_drew _ _ | exact agree_alloc _ (by intro k hk; subst hk; first | omega | (simp; omega))) ?_) | (unfold Act.put; simp only [List.setIfInBounds_toArray, List.set_cons_zero, List.set_cons_succ]))
      go_ret2
      exact ⟨_, _, [], [], rfl, HSE2.out.symm, HST2.out.symm, HUN.out, HUN.out, HB.out.drew.drew⟩
    | some a =>
      clear hpc
      by_cases hc0 : cap = 0
      · subst hc0
        go_enter Try.func33, Try.ntmps33
        go_wp2
        refine wp_region_lit_plan [] [(0, 0), (1, 0), (2, 0), (5, 0), (3, 1), (4, 0), (6, 1), (7, 0), (8, 0)] (fun _ => False) (by kernel_rfl) (by kernel_rfl) (fun c a d v w h => by cases d <;> exact h) ?_
        go_upto_region 2 with (first
          | (refine plan_pure (v := _) (by rfl) (by rfl) (by rfl) (by intro _; go_simp; with_reducible rfl) ?_; simp only [List.setIfInBounds_toArray, List.set_cons_zero, List.set_cons_succ]; try go_bits) | (refine plan_read (v := _) (by rfl) (by rfl) (by rfl) (by go_simp; with_reducible rfl) ?_; simp only [List.setIfInBounds_toArray, List.set_cons_zero, List.set_cons_succ]; try go_bits) | (refine plan_readB (v := _) (by rfl) (by rfl) (by rfl) (by intro _ hag; unfold Agree at hag; go_simp; with_reducible rfl) ?_; simp only [List.setIfInBounds_toArray, List.set_cons_zero, List.set_cons_succ]; try go_bits) | (refine plan_skip0 (by rfl) (by rfl) (by rfl) ?_; simp only [List.setIfInBounds_toArray, List.set_cons_zero, List.set_cons_succ]; try go_bits) | (refine plan_skip1 (by rfl) (by rfl) (by rfl) ?_; simp only [List.setIfInBounds_toArray, List.set_cons_zero, List.set_cons_succ]; try go_bits) | (refine plan_skip2 (by rfl) (by rfl) (by rfl) ?_; simp only [List.setIfInBounds_toArray, List.set_cons_zero, List.set_cons_succ]; try go_bits) | (refine plan_skip4 (by rfl) (by rfl) (by rfl) ?_; simp only [List.setIfInBounds_toArray, List.set_cons_zero, List.set_cons_succ]; try go_bits) | (refine plan_any (by rfl) ?_) | (refine plan_keep (by rfl) ?_) | (refine plan_nil ?_) | (with_reducible refine And.intro (by first | assumption | exact Agree.refl _ _ | exact agree_drew _ _ | exact agree_alloc _ (by intro k hk; subst hk; first | omega | (simp; omega))) ?_) | (unfold Act.put; simp only [List.setIfInBounds_toArray, List.set_cons_zero, List.set_cons_succ]))
        have d4 : w1.drew.drew.cell? ⟨w.heap.size, 4, none⟩ = some (.int .i64 (zn : Int)) := c4
        refine wp_region_lit_plan [] [(0, 0), (1, 0), (2, 0), (6, 0), (8, 0), (9, 0), (10, 0), (3, 1), (4, 0), (5, 0), (7, 0), (11, 0), (12, 0)] (fun _ => False) (by kernel_rfl) (by kernel_rfl) (fun c a d v w h => by cases d <;> exact h) ?_
        go_wp2_with (first
          | (refine plan_pure (v := _) (by rfl) (by rfl) (by rfl) (by intro _; go_simp; with_reducible rfl) ?_; simp only [List.setIfInBounds_toArray, List.set_cons_zero, List.set_cons_succ]; try go_bits) | (refine plan_read (v := _) (by rfl) (by rfl) (by rfl) (by go_simp; with_reducible rfl) ?_; simp only [List.setIfInBounds_toArray, List.set_cons_zero, List.set_cons_succ]; try go_bits) | (refine plan_readB (v := _) (by rfl) (by rfl) (by rfl) (by intro _ hag; unfold Agree at hag; go_simp; with_reducible rfl) ?_; simp only [List.setIfInBounds_toArray, List.set_cons_zero, List.set_cons_succ]; try go_bits) | (refine plan_skip0 (by rfl) (by rfl) (by rfl) ?_; simp only [List.setIfInBounds_toArray, List.set_cons_zero, List.set_cons_succ]; try go_bits) | (refine plan_skip1 (by rfl) (by rfl) (by rfl) ?_; simp only [List.setIfInBounds_toArray, List.set_cons_zero, List.set_cons_succ]; try go_bits) | (refine plan_skip2 (by rfl) (by rfl) (by rfl) ?_; simp only [List.setIfInBounds_toArray, List.set_cons_zero, List.set_cons_succ]; try go_bits) | (refine plan_skip4 (by rfl) (by rfl) (by rfl) ?_; simp only [List.setIfInBounds_toArray, List.set_cons_zero, List.set_cons_succ]; try go_bits) | (refine plan_any (by rfl) ?_) | (refine plan_keep (by rfl) ?_) | (refine plan_nil ?_) | (with_reducible refine And.intro (by first | assumption | exact Agree.refl _ _ | exact agree_drew _ _ | exact agree_alloc _ (by intro k hk; subst hk; first | omega | (simp; omega))) ?_) | (unfold Act.put; simp only [List.setIfInBounds_toArray, List.set_cons_zero, List.set_cons_succ]))
        go_ret2
        exact ⟨_, _, [], [], rfl, HSE2.out.symm, HST2.out.symm, HUN.out, HUN.out, HB.out.drew.drew⟩
      · go_enter Try.func33, Try.ntmps33
        go_wp2
        refine wp_region_lit_plan [] [(0, 0), (1, 0), (2, 0), (5, 0), (3, 1), (4, 0), (6, 1), (7, 0), (8, 0)] (fun _ => False) (by kernel_rfl) (by kernel_rfl) (fun c a d v w h => by cases d <;> exact h) ?_
        go_upto_region 2 with (first
          | (refine plan_pure (v := _) (by rfl) (by rfl) (by rfl) (by intro _; go_simp; with_reducible rfl) ?_; simp only [List.setIfInBounds_toArray, List.set_cons_zero, List.set_cons_succ]; try go_bits) | (refine plan_read (v := _) (by rfl) (by rfl) (by rfl) (by go_simp; with_reducible rfl) ?_; simp only [List.setIfInBounds_toArray, List.set_cons_zero, List.set_cons_succ]; try go_bits) | (refine plan_readB (v := _) (by rfl) (by rfl) (by rfl) (by intro _ hag; unfold Agree at hag; go_simp; with_reducible rfl) ?_; simp only [List.setIfInBounds_toArray, List.set_cons_zero, List.set_cons_succ]; try go_bits) | (refine plan_skip0 (by rfl) (by rfl) (by rfl) ?_; simp only [List.setIfInBounds_toArray, List.set_cons_zero, List.set_cons_succ]; try go_bits) | (refine plan_skip1 (by rfl) (by rfl) (by rfl) ?_; simp only [List.setIfInBounds_toArray, List.set_cons_zero, List.set_cons_succ]; try go_bits) | (refine plan_skip2 (by rfl) (by rfl) (by rfl) ?_; simp only [List.setIfInBounds_toArray, List.set_cons_zero, List.set_cons_succ]; try go_bits) | (refine plan_skip4 (by rfl) (by rfl) (by rfl) ?_; simp only [List.setIfInBounds_toArray, List.set_cons_zero, List.set_cons_succ]; try go_bits) | (refine plan_any (by rfl) ?_) | (refine plan_keep (by rfl) ?_) | (refine plan_nil ?_) | (with_reducible refine And.intro (by first | assumption | exact Agree.refl _ _ | exact agree_drew _ _ | exact agree_alloc _ (by intro k hk; subst hk; first | omega | (simp; omega))) ?_) | (unfold Act.put; simp only [List.setIfInBounds_toArray, List.set_cons_zero, List.set_cons_succ]))
        have d4 : w1.drew.drew.cell? ⟨w.heap.size, 4, none⟩ = some (.int .i64 (zn : Int)) := c4
        refine wp_region_lit_plan [] [(0, 0), (1, 0), (2, 0), (6, 0), (8, 0), (9, 0), (10, 0), (3, 1), (4, 0), (5, 0), (7, 0), (11, 0), (12, 0)] (fun _ => False) (by kernel_rfl) (by kernel_rfl) (fun c a d v w h => by cases d <;> exact h) ?_
        go_wp2_with (first
          | (refine plan_pure (v := _) (by rfl) (by rfl) (by rfl) (by intro _; go_simp; with_reducible rfl) ?_; simp only [List.setIfInBounds_toArray, List.set_cons_zero, List.set_cons_succ]; try go_bits) | (refine plan_read (v := _) (by rfl) (by rfl) (by rfl) (by go_simp; with_reducible rfl) ?_; simp only [List.setIfInBounds_toArray, List.set_cons_zero, List.set_cons_succ]; try go_bits) | (refine plan_readB (v := _) (by rfl) (by rfl) (by rfl) (by intro _ hag; unfold Agree at hag; go_simp; with_reducible rfl) ?_; simp only [List.setIfInBounds_toArray, List.set_cons_zero, List.set_cons_succ]; try go_bits) | (refine plan_skip0 (by rfl) (by rfl) (by rfl) ?_; simp only [List.setIfInBounds_toArray, List.set_cons_zero, List.set_cons_succ]; try go_bits) | (refine plan_skip1 (by rfl) (by rfl) (by rfl) ?_; simp only [List.setIfInBounds_toArray, List.set_cons_zero, List.set_cons_succ]; try go_bits) | (refine plan_skip2 (by rfl) (by rfl) (by rfl) ?_; simp only [List.setIfInBounds_toArray, List.set_cons_zero, List.set_cons_succ]; try go_bits) | (refine plan_skip4 (by rfl) (by rfl) (by rfl) ?_; simp only [List.setIfInBounds_toArray, List.set_cons_zero, List.set_cons_succ]; try go_bits) | (refine plan_any (by rfl) ?_) | (refine plan_keep (by rfl) ?_) | (refine plan_nil ?_) | (with_reducible refine And.intro (by first | assumption | exact Agree.refl _ _ | exact agree_drew _ _ | exact agree_alloc _ (by intro k hk; subst hk; first | omega | (simp; omega))) ?_) | (unfold Act.put; simp only [List.setIfInBounds_toArray, List.set_cons_zero, List.set_cons_succ]))
        go_ret2
        exact ⟨_, _, [], [], rfl, HSE2.out.symm, HST2.out.symm, HUN.out, HUN.out, HB.out.drew.drew⟩
  · have hlo2 := hlow (by omega)
    have hncl : ¬ cap = lo := by omega
    obtain ⟨g, off, cap', hv, _, _, _, _, _⟩ := HU.out.1.place (by rw [HN.out]; omega)
    cases hv
    clear hlow
    have hkc : k ≤ cap := by omega
    have hkci : (k : Int) ≤ (cap : Int) := by omega
    have hkni : (k : Int) ≤ (n : Int) := by omega
    have hlki : (lo : Int) ≤ (k : Int) := by omega
    by_cases hck : cap = k
    · go_enter Try.func33, Try.ntmps33
      go_wp2
      refine wp_region_lit_plan [] [(0, 0), (1, 0), (2, 0), (5, 0), (3, 1), (4, 0), (6, 1), (7, 0), (8, 0)] (fun _ => False) (by kernel_rfl) (by kernel_rfl) (fun c a d v w h => by cases d <;> exact h) ?_
      go_upto_region 2 with (first
        | (refine plan_pure (v := _) (by rfl) (by rfl) (by rfl) (by intro _; go_simp; with_reducible rfl) ?_; simp only [List.setIfInBounds_toArray, List.set_cons_zero, List.set_cons_succ]; try go_bits) | (refine plan_read (v := _) (by rfl) (by rfl) (by rfl) (by go_simp; with_reducible rfl) ?_; simp only [List.setIfInBounds_toArray, List.set_cons_zero, List.set_cons_succ]; try go_bits) | (refine plan_readB (v := _) (by rfl) (by rfl) (by rfl) (by intro _ hag; unfold Agree at hag; go_simp; with_reducible rfl) ?_; simp only [List.setIfInBounds_toArray, List.set_cons_zero, List.set_cons_succ]; try go_bits) | (refine plan_skip0 (by rfl) (by rfl) (by rfl) ?_; simp only [List.setIfInBounds_toArray, List.set_cons_zero, List.set_cons_succ]; try go_bits) | (refine plan_skip1 (by rfl) (by rfl) (by rfl) ?_; simp only [List.setIfInBounds_toArray, List.set_cons_zero, List.set_cons_succ]; try go_bits) | (refine plan_skip2 (by rfl) (by rfl) (by rfl) ?_; simp only [List.setIfInBounds_toArray, List.set_cons_zero, List.set_cons_succ]; try go_bits) | (refine plan_skip4 (by rfl) (by rfl) (by rfl) ?_; simp only [List.setIfInBounds_toArray, List.set_cons_zero, List.set_cons_succ]; try go_bits) | (refine plan_any (by rfl) ?_) | (refine plan_keep (by rfl) ?_) | (refine plan_nil ?_) | (with_reducible refine And.intro (by first | assumption | exact Agree.refl _ _ | exact agree_drew _ _ | exact agree_alloc _ (by intro k hk; subst hk; first | omega | (simp; omega))) ?_) | (unfold Act.put; simp only [List.setIfInBounds_toArray, List.set_cons_zero, List.set_cons_succ]))
      have d4 : w1.drew.drew.cell? ⟨w.heap.size, 4, none⟩ = some (.int .i64 (zn : Int)) := c4
      refine wp_region_lit_plan [] [(0, 0), (1, 0), (2, 0), (6, 0), (8, 0), (9, 0), (10, 0), (3, 1), (4, 0), (5, 0), (7, 0), (11, 0), (12, 0)] (fun _ => False) (by kernel_rfl) (by kernel_rfl) (fun c a d v w h => by cases d <;> exact h) ?_
      go_wp2_with (first
        | (refine plan_pure (v := _) (by rfl) (by rfl) (by rfl) (by intro _; go_simp; with_reducible rfl) ?_; simp only [List.setIfInBounds_toArray, List.set_cons_zero, List.set_cons_succ]; try go_bits) | (refine plan_read (v := _) (by rfl) (by rfl) (by rfl) (by go_simp; with_reducible rfl) ?_; simp only [List.setIfInBounds_toArray, List.set_cons_zero, List.set_cons_succ]; try go_bits) | (refine plan_readB (v := _) (by rfl) (by rfl) (by rfl) (by intro _ hag; unfold Agree at hag; go_simp; with_reducible rfl) ?_; simp only [List.setIfInBounds_toArray, List.set_cons_zero, List.set_cons_succ]; try go_bits) | (refine plan_skip0 (by rfl) (by rfl) (by rfl) ?_; simp only [List.setIfInBounds_toArray, List.set_cons_zero, List.set_cons_succ]; try go_bits) | (refine plan_skip1 (by rfl) (by rfl) (by rfl) ?_; simp only [List.setIfInBounds_toArray, List.set_cons_zero, List.set_cons_succ]; try go_bits) | (refine plan_skip2 (by rfl) (by rfl) (by rfl) ?_; simp only [List.setIfInBounds_toArray, List.set_cons_zero, List.set_cons_succ]; try go_bits) | (refine plan_skip4 (by rfl) (by rfl) (by rfl) ?_; simp only [List.setIfInBounds_toArray, List.set_cons_zero, List.set_cons_succ]; try go_bits) | (refine plan_any (by rfl) ?_) | (refine plan_keep (by rfl) ?_) | (refine plan_nil ?_) | (with_reducible refine And.intro (by first | assumption | exact Agree.refl _ _ | exact agree_drew _ _ | exact agree_alloc _ (by intro k hk; subst hk; first | omega | (simp; omega))) ?_) | (unfold Act.put; simp only [List.setIfInBounds_toArray, List.set_cons_zero, List.set_cons_succ]))
      go_ret2
      have hu := HU.out
      have hkn : k = us.length := by have := HN.out; omega
      refine ⟨_, _, (us.take k).drop lo, us.drop k, rfl, HSE.out.symm, HST.out.symm, ?_, ?_, HB.out.drew.drew⟩
      · have h1 := units_mid hu hll (by omega)
        rw [hck] at h1
        exact h1
      · have h2 : us.drop k = [] := List.drop_of_length_le (by omega)
        rw [h2]
        have h3 := units_none (p := some ⟨g, off, none⟩) (cap := 0) hu (by simp [maxLen]) (fun h => by cases h)
        rw [show n - k = 0 from by omega]
        exact h3
    · go_enter Try.func33, Try.ntmps33
      go_wp2
      refine wp_region_lit_plan [] [(0, 0), (1, 0), (2, 0), (5, 0), (3, 1), (4, 0), (6, 1), (7, 0), (8, 0)] (fun _ => False) (by kernel_rfl) (by kernel_rfl) (fun c a d v w h => by cases d <;> exact h) ?_
      go_upto_region 2 with (first
        | (refine plan_pure (v := _) (by rfl) (by rfl) (by rfl) (by intro _; go_simp; with_reducible rfl) ?_; simp only [List.setIfInBounds_toArray, List.set_cons_zero, List.set_cons_succ]; try go_bits) | (refine plan_read (v := _) (by rfl) (by rfl) (by rfl) (by go_simp; with_reducible rfl) ?_; simp only [List.setIfInBounds_toArray, List.set_cons_zero, List.set_cons_succ]; try go_bits) | (refine plan_readB (v := _) (by rfl) (by rfl) (by rfl) (by intro _ hag; unfold Agree at hag; go_simp; with_reducible rfl) ?_; simp only [List.setIfInBounds_toArray, List.set_cons_zero, List.set_cons_succ]; try go_bits) | (refine plan_skip0 (by rfl) (by rfl) (by rfl) ?_; simp only [List.setIfInBounds_toArray, List.set_cons_zero, List.set_cons_succ]; try go_bits) | (refine plan_skip1 (by rfl) (by rfl) (by rfl) ?_; simp only [List.setIfInBounds_toArray, List.set_cons_zero, List.set_cons_succ]; try go_bits) | (refine plan_skip2 (by rfl) (by rfl) (by rfl) ?_; simp only [List.setIfInBounds_toArray, List.set_cons_zero, List.set_cons_succ]; try go_bits) | (refine plan_skip4 (by rfl) (by rfl) (by rfl) ?_; simp only [List.setIfInBounds_toArray, List.set_cons_zero, List.set_cons_succ]; try go_bits) | (refine plan_any (by rfl) ?_) | (refine plan_keep (by rfl) ?_) | (refine plan_nil ?_) | (with_reducible refine And.intro (by first | assumption | exact Agree.refl _ _ | exact agree_drew _ _ | exact agree_alloc _ (by intro k hk; subst hk; first | omega | (simp; omega))) ?_) | (unfold Act.put; simp only [List.setIfInBounds_toArray, List.set_cons_zero, List.set_cons_succ]))
      have d4 : w1.drew.drew.cell? ⟨w.heap.size, 4, none⟩ = some (.int .i64 (zn : Int)) := c4
      refine wp_region_lit_plan [] [(0, 0), (1, 0), (2, 0), (6, 0), (8, 0), (9, 0), (10, 0), (3, 1), (4, 0), (5, 0), (7, 0), (11, 0), (12, 0)] (fun _ => False) (by kernel_rfl) (by kernel_rfl) (fun c a d v w h => by cases d <;> exact h) ?_
      go_wp2_with (first
        | (refine plan_pure (v := _) (by rfl) (by rfl) (by rfl) (by intro _; go_simp; with_reducible rfl) ?_; simp only [List.setIfInBounds_toArray, List.set_cons_zero, List.set_cons_succ]; try go_bits) | (refine plan_read (v := _) (by rfl) (by rfl) (by rfl) (by go_simp; with_reducible rfl) ?_; simp only [List.setIfInBounds_toArray, List.set_cons_zero, List.set_cons_succ]; try go_bits) | (refine plan_readB (v := _) (by rfl) (by rfl) (by rfl) (by intro _ hag; unfold Agree at hag; go_simp; with_reducible rfl) ?_; simp only [List.setIfInBounds_toArray, List.set_cons_zero, List.set_cons_succ]; try go_bits) | (refine plan_skip0 (by rfl) (by rfl) (by rfl) ?_; simp only [List.setIfInBounds_toArray, List.set_cons_zero, List.set_cons_succ]; try go_bits) | (refine plan_skip1 (by rfl) (by rfl) (by rfl) ?_; simp only [List.setIfInBounds_toArray, List.set_cons_zero, List.set_cons_succ]; try go_bits) | (refine plan_skip2 (by rfl) (by rfl) (by rfl) ?_; simp only [List.setIfInBounds_toArray, List.set_cons_zero, List.set_cons_succ]; try go_bits) | (refine plan_skip4 (by rfl) (by rfl) (by rfl) ?_; simp only [List.setIfInBounds_toArray, List.set_cons_zero, List.set_cons_succ]; try go_bits) | (refine plan_any (by rfl) ?_) | (refine plan_keep (by rfl) ?_) | (refine plan_nil ?_) | (with_reducible refine And.intro (by first | assumption | exact Agree.refl _ _ | exact agree_drew _ _ | exact agree_alloc _ (by intro k hk; subst hk; first | omega | (simp; omega))) ?_) | (unfold Act.put; simp only [List.setIfInBounds_toArray, List.set_cons_zero, List.set_cons_succ]))
      go_ret2
      have hu := HU.out
      refine ⟨_, _, (us.take k).drop lo, us.drop k, rfl, HSE.out.symm, HST.out.symm, units_mid hu hll (by have := HN.out; omega), ?_, HB.out.drew.drew⟩
      have h1 := units_mid hu (lo := k) (k := us.length) (by have := HN.out; omega) (Nat.le_refl _)
      rw [List.take_length, HN.out] at h1
      exact h1
end Go.Proofs.Ytedcljahcedpjaa
/- Windows: the law's own looks, num; awake. -/
namespace Go.Proofs.Ytedcljahcedpjaa
open Go.RowKit Go.Afx

set_option maxRecDepth 100000 in
set_option maxHeartbeats 2000000 in
theorem wlooks_any (w : World) (b : Nat) (F B : Nat → Prop) (v : WinV) (cl : List ColV) (all : List UnitA) (h : IsWin w b F v cl all) (hr : rightW v = true) (hs : ∀ u ∈ all, SmallU u) (av : Value) (us : List UnitV) (hu : UnitsAt w B av us) (hua : us.map UnitV.abs = all) (hl : us.length ≤ 1000000) :
    Calls Try.prog 14 #[.pointer (some ⟨b, 0, none⟩), v.agg, av] w fun e w' => e = .returned (.bool true) ∧ Below w.heap.size w w' := by
  obtain ⟨z1, z2, l1, l2⟩ := rightW_bounds hr
  obtain ⟨w1, hw1⟩ : ∃ w1, w.alloc (.cells v.cells.toArray 23) = w1 := ⟨_, rfl⟩
  have b1 : Below w.heap.size w w1 := hw1 ▸ (Below.refl _ _).alloc (Nat.le_refl _) _
  have k1 : Blk w1 w.heap.size 23 v.cells := hw1 ▸ Blk.new w _ _
  have hh := h.below b1
  have HSP := Lib.hid (lsplit_any w1 B v v.size.toNat v.slide.toNat (by omega) (by omega) (by omega) (by omega) (by omega) av us (hu.below b1) hl)
  have HRW := Lib.hid (fun w2 (hb : Below w1.heap.size w1 w2) => (rows_any w2 b F v cl all (hh.below hb) (fun u hu => ⟨by have := (hs u hu).1; omega, fun r hr => by have := ((hs u hu).2 r hr).1; omega⟩) z2))
  have HSN := Lib.hid (fun w2 (hb : Below w1.heap.size w1 w2) => seen_any w2 b F v cl all (hh.below hb))
  have HSG := Lib.hid (fun w2 (hb : Below w1.heap.size w1 w2) => staged_any w2 b F v cl all (hh.below hb))
  have HBY := Lib.hid (fun w2 (hb : Below w1.heap.size w1 w2) => wbytes_any w2 b F v cl all (hh.below hb) hs z2 l1 l2)
  have hsl : (seenW v.size.toNat v.slide.toNat all).length ≤ 100 := by rw [seenW_len]; omega
  have htl : (stagW v.slide.toNat all).length ≤ 100 := by
    rw [stagW_len]
    have h2 := slidK_lt (show 0 < v.slide.toNat by omega) all.length
    omega
  have hsu : ∀ u ∈ seenW v.size.toNat v.slide.toNat all, SmallU u := fun u hu => hs _ (List.mem_of_mem_take (List.mem_of_mem_drop hu))
  have hst : ∀ u ∈ stagW v.slide.toNat all, SmallU u := fun u hu => hs _ (List.mem_of_mem_drop hu)
  unfold LSplitOut at HSP
  rw [hua] at HSP
  obtain ⟨SA, hsa⟩ : ∃ SA, seenW v.size.toNat v.slide.toNat all = SA := ⟨_, rfl⟩
  obtain ⟨TA, hta⟩ : ∃ TA, stagW v.slide.toNat all = TA := ⟨_, rfl⟩
  rw [hsa] at HSP HRW HSN HBY hsl hsu
  rw [hta] at HSP HSG HBY htl hst
  have hl1 : (layU SA).length ≤ 5405709 := layPart_len SA.length SA hsu hsl hsl
  have hl2 : (layU TA).length ≤ 5405709 := layPart_len TA.length TA hst htl htl
  have HSU := Lib.hid hsu
  have HTU := Lib.hid hst
  have HB1 := Lib.hid b1
  have HK := Lib.hid k1
  obtain ⟨pa, ca, rfl, _, _⟩ := hu.1.form
  clear hua hu hs hsu hst hh h hr b1 k1 hsa hta
  obtain ⟨nm, on, ow, bt, sz, sl⟩ := v
  simp only [WinV.agg, WinV.cells] at HSP HSN HSG HBY HRW HK hw1 z1 z2 l1 l2 ⊢
  obtain ⟨c0, c1, c2, c3, c4, c5⟩ := win_cells HK.out
  have hltw : w.heap.size < w1.heap.size := HK.out.lt
  have hw1' : w.alloc (.cells #[.string nm, .string on, .string ow, .bool bt, .int .i64 sz, .int .i64 sl] 23) = w1 := hw1
  clear hw1
  go_enter Try.func14, Try.ntmps14
  go_wp2_with fail
  refine HSP.out.mono ?_
  clear HSP hw1' c0 c1 c2 c3 c4 c5
  rintro e w2 ⟨s1, s2, u1, u2, rfl, hu1, hu2, ha1, ha2, hb2⟩
  obtain ⟨p1, c1, rfl, hc11, hc12⟩ := ha1.1.form
  obtain ⟨p2, c2, rfl, hc21, hc22⟩ := ha2.1.form
  have hn1 : u1.length = SA.length := by rw [← hu1, List.length_map]
  have hn2 : u2.length = TA.length := by rw [← hu2, List.length_map]
  have HFL := Lib.hid (fun w3 (hb : Below w2.heap.size w2 w3) => flat_any w3 B _ u1 (ha1.below hb) (fun u hu => by
    have h1 := (HSU.out u.abs (by rw [← hu1]; exact List.mem_map_of_mem hu)).1
    have h2 : u.abs.length = u.rows.length := by simp [UnitV.abs]
    omega) (by omega))
  have HL1 := Lib.hid (fun w3 (hb : Below w2.heap.size w2 w3) => lay_units w3 B _ u1 (ha1.below hb) (fun u hu => HSU.out u.abs (by rw [← hu1]; exact List.mem_map_of_mem hu)) (by omega))
  have HL2 := Lib.hid (fun w3 (hb : Below w2.heap.size w2 w3) => lay_units w3 B _ u2 (ha2.below hb) (fun u hu => HTU.out u.abs (by rw [← hu2]; exact List.mem_map_of_mem hu)) (by omega))
  rw [hu1] at HFL HL1
  rw [hu2] at HL2
  rw [← hn1] at HSN
  rw [← hn2] at HSG
  have hcat : bs (layU SA) ++ bs (layU TA) = bs (layU SA ++ layU TA) := bs_append _ _
  have hsz1 : (bs (layU SA)).size ≤ 5405709 := by rw [bs_size]; exact hl1
  have hsz2 : (bs (layU TA)).size ≤ 5405709 := by rw [bs_size]; exact hl2
  have hsum : (bs (layU SA)).size + (bs (layU TA)).size ≤ 9223372036854775807 := by omega
  have HRF : Hid (∀ w3, Below w2.heap.size w2 w3 → Below w1.heap.size w1 w3) := fun w3 hb => hb2.trans (hb.mono hb2.size)
  have HB2 := Lib.hid hb2
  generalize bs (layU SA) = S1 at *
  generalize bs (layU TA) = S2 at *
  generalize bs (layU SA ++ layU TA) = S3 at *
  clear hu1 hu2 ha1 ha2 hb2 hn1 hn2 hl1 hl2 hsl htl
  go_wp2_with (first
    | (go_at_call 15; refine (HRW.out _ (HRF.out _ (Below.refl _ _))).mono ?_; rintro e w3 ⟨lv, rws, rfl, hr3, ha3, hb3⟩; clear HRW; obtain ⟨p3, c3, hlv, _, _⟩ := ha3.1.form; subst hlv; have HR3 := Lib.hid hr3; have HA3 := Lib.hid ha3; have HB3 := Lib.hid hb3; clear hr3 ha3 hb3)
    | (go_at_call 34; refine (HFL.out _ HB3.out).mono ?_; rintro e w4 ⟨ov, rw4, rfl, hr4, ha4, hb4⟩; clear HFL; obtain ⟨p4, c4, hov, _, _⟩ := ha4.1.form; subst hov; have HSM := Lib.hid (same_rows w4 _ _ _ _ rws rw4 (HA3.out.below hb4) ha4 (by rw [HR3.out, hr4])); have HB4 := Lib.hid (HB3.out.trans (hb4.mono HB3.out.size)); clear hr4 ha4 hb4 HR3 HA3)
    | (go_at_call 24; refine HSM.out.mono ?_; rintro e w5 ⟨rfl, hb5⟩; clear HSM; have HB5 := Lib.hid (HB4.out.trans (hb5.mono HB4.out.size)); clear hb5)
    | (go_at_call 16; refine (HSN.out _ (HRF.out _ HB5.out)).mono ?_; rintro e w6 ⟨rfl, rfl⟩; clear HSN)
    | (go_at_call 17; refine (HSG.out _ (HRF.out _ HB5.out)).mono ?_; rintro e w6 ⟨rfl, rfl⟩; clear HSG)
    | (go_at_call 18; refine (HBY.out _ (HRF.out _ HB5.out)).mono ?_; rintro e w7 ⟨rfl, hb7⟩; clear HBY; have HB7 := Lib.hid (HB5.out.trans (hb7.mono HB5.out.size)); clear hb7)
    | (go_at_call 35; refine (HL1.out _ HB7.out).mono ?_; rintro e w8 ⟨rfl, hb8⟩; clear HL1; have HB8 := Lib.hid (HB7.out.trans (hb8.mono HB7.out.size)); clear hb8)
    | (go_at_call 35; refine (HL2.out _ HB8.out).mono ?_; rintro e w9 ⟨rfl, hb9⟩; clear HL2; have HB9 := Lib.hid (HB8.out.trans (hb9.mono HB8.out.size)); clear hb9))
  go_ret
  have h9 := HRF.out _ HB9.out
  exact ⟨rfl, HB1.out.trans (h9.mono HB1.out.size)⟩
theorem num_any (w : World) (n : Int) :
    Calls Try.prog 23 #[.int .i64 n] w fun e w' => e = .returned (.slice (some ⟨w.heap.size, 0, none⟩) 1 1) ∧ w' = w.alloc (.cells #[.int .i64 1, .int .i64 n, .string ⟨#[]⟩] 86) := by
  go_enter Try.func23, Try.ntmps23
  go_wp2
  go_ret
  exact ⟨rfl, rfl⟩
end Go.Proofs.Ytedcljahcedpjaa
/- Windows: awake. -/
namespace Go.Proofs.Ytedcljahcedpjaa
open Go.RowKit Go.Afx

/-- What Put without a journal leaves. -/
def WPutOut (w : World) (b : Nat) (F : Nat → Prop) (v : WinV) (cl : List ColV) (all : List UnitA) (l : List BatV) (e : Ending) (w' : World) : Prop :=
  (fitsAll cl l = false ∧ e = .returned (.tuple #[.int .i64 0, .int .i64 13]) ∧ Below w.heap.size w w') ∨
  (fitsAll cl l = true ∧ ∃ (c : Nat) (F' : Nat → Prop), e = .returned (.tuple #[.int .i64 c, .int .i64 0]) ∧ c + all.length / v.slide.toNat = (all ++ newUnits v.batches l).length / v.slide.toNat ∧
    IsWin w' b F' v cl (all ++ newUnits v.batches l) ∧ (∀ k, F' k → F k ∨ w.heap.size ≤ k) ∧ Only (fun k => k = b) w w')
theorem wput_any (w : World) (b : Nat) (F B : Nat → Prop) (v : WinV) (cl : List ColV) (all : List UnitA) (h : IsWin w b F v cl all) (hrt : 1 ≤ v.size ∧ v.size ≤ 100 ∧ 1 ≤ v.slide ∧ v.slide ≤ v.size)
    (lv : Value) (l : List BatV) (hl : BatAt w B lv l) (hB : ∀ k, B k → k ≠ b) (hlr : ∀ x ∈ l, x.rows.length ≤ 40 ∧ ∀ r ∈ x.rows, r.l.length ≤ 1000) (hll : l.length ≤ 100) (hal : all.length ≤ 1000000) :
    Calls Try.prog 12 #[.pointer (some ⟨b, 0, none⟩), .pointer none, lv] w (WPutOut w b F v cl all l) := by
  refine (put_any (fun _ _ w2 w3 => Below w2.heap.size w2 w3) (fun _ => False) (.pointer none) w b F B v cl all h hrt lv l hl (fun k hk => ⟨hB k hk, fun h => h⟩) (fun _ _ h => h) (fun h => h)
    (fun w2 sv tv _ _ _ => (note_nil _ _ _ _).mono fun e w' ⟨he, hw⟩ => ⟨he, by rw [← hw]; exact (Below.refl _ _).alloc (Nat.le_refl _) _, by rw [← hw]; exact (Only.refl _ _).alloc _⟩) hlr hll hal).mono ?_
  rintro e w' (h1 | ⟨h1, c, F', sv, tv, w2, w3, he, hc, hw, hf, hz, hb2, _, _, hb3, ho⟩)
  · exact .inl h1
  · exact .inr ⟨h1, c, F', he, hc, hw, fun k hk => (hf k hk).imp id (Nat.le_trans hz), ((Only.of_none (S := fun k => k = b) hb2).trans (Only.of_none (S := fun k => k = b) hb3) (fun _ _ h => h)).trans ho (fun _ _ h => h)⟩
def nV (n : Int) : AV := ⟨1, n, ⟨#[]⟩⟩
theorem num_row (w : World) (n : Int) :
    Calls Try.prog 23 #[.int .i64 n] w fun e w' => e = .returned (.slice (some ⟨w.heap.size, 0, none⟩) 1 1) ∧ Sl w' (fun q => w.heap.size ≤ q) 3 (.slice (some ⟨w.heap.size, 0, none⟩) 1 1) 1 (rowCells [nV n]) ∧ Below w.heap.size w w' := by
  refine (num_any w n).mono ?_
  rintro e w' ⟨rfl, rfl⟩
  refine ⟨rfl, ⟨rfl, ?_, .inr ⟨w.heap.size, 0, 1, rfl, Nat.le_refl _, by simp [maxLen], Nat.le_refl _, (Blk.new w 86 (rowCells [nV n])).lt, fun j _ => by rw [Nat.zero_add]; exact (Blk.new w 86 (rowCells [nV n])).cell j⟩⟩, (Below.refl _ _).alloc (Nat.le_refl _) _⟩
  intro u hu
  simp [rowCells, AV.cells, nV] at hu
  rcases hu with rfl | rfl | rfl <;> rfl
theorem rows_lit (W : World) (B : Nat → Prop) (rows : List RowV) (h : ∀ r ∈ rows, Sl W B 3 r.v r.l.length (rowCells r.l)) (hB : B W.heap.size) (hl : rows.length ≤ 100) (h1 : Ones (rowVals rows)) (t : TypeId) :
    RowsAt (W.alloc (.cells (rowVals rows).toArray t)) B (.slice (some ⟨W.heap.size, 0, none⟩) rows.length rows.length) rows :=
  ⟨⟨by simp [rowVals], h1, .inr ⟨W.heap.size, 0, rows.length, rfl, Nat.le_refl _, by unfold maxLen; omega, hB, (Blk.new W t (rowVals rows)).lt, fun j _ => by rw [Nat.zero_add]; exact (Blk.new W t (rowVals rows)).cell j⟩⟩, fun r hr => (h r hr).alloc _⟩
theorem bats_lit (W : World) (B : Nat → Prop) (l : List BatV) (h : ∀ x ∈ l, RowsAt W B x.v x.rows) (hB : B W.heap.size) (hl : l.length ≤ 100) (h1 : Ones (batCells l)) (h2 : (batCells l).length = l.length * 2) (t : TypeId) :
    BatAt (W.alloc (.cells (batCells l).toArray t)) B (.slice (some ⟨W.heap.size, 0, none⟩) l.length l.length) l :=
  ⟨⟨h2, h1, .inr ⟨W.heap.size, 0, l.length, rfl, Nat.le_refl _, by unfold maxLen; omega, hB, (Blk.new W t (batCells l)).lt, fun j _ => by rw [Nat.zero_add]; exact (Blk.new W t (batCells l)).cell j⟩⟩, fun x hx => (h x hx).below ((Below.refl _ _).alloc (Nat.le_refl _) _)⟩
def awW : WinV := ⟨⟨#[119]⟩, ⟨#[115]⟩, ⟨#[112]⟩, false, 3, 2⟩
def awC : List ColV := [⟨⟨#[97]⟩, 1⟩]
def awU : List UnitA := [[[nV 1]], [[nV 2]], [[nV 3]], [[nV 4]], [[nV 5]]]
theorem awW_right : rightW awW = true := by decide
theorem awR1 (a b c : Value) : fitsB awC ((([⟨a, [nV 1]⟩, ⟨b, [nV 2]⟩, ⟨c, [nV 3]⟩] : List RowV)).map RowV.l) = true := by simp [fitsB, fitB, rightAll, kindsB, kindAt, AV.right, nV, awC, List.range, List.range.loop]
theorem awR2 (a b : Value) : fitsB awC ((([⟨a, [nV 4]⟩, ⟨b, [nV 5]⟩] : List RowV)).map RowV.l) = true := by simp [fitsB, fitB, rightAll, kindsB, kindAt, AV.right, nV, awC, List.range, List.range.loop]
theorem aw_seen : seenW 3 2 awU = [[[nV 2]], [[nV 3]], [[nV 4]]] := by rfl
theorem aw_stag : (stagW 2 awU).length = 1 := by rfl
set_option maxRecDepth 100000 in
set_option maxHeartbeats 2000000 in
theorem wawake_any (w : World) : Calls Try.prog 7 #[] w fun e w' => e = .returned (.bool true) ∧ Below w.heap.size w w' := by
  have hcol : Sl (w.alloc (.cells #[.string ⟨#[97]⟩, .int .i64 1] 58)) (fun _ => True) 2 (.slice (some ⟨w.heap.size, 0, none⟩) 1 1) awC.length (colCells awC) := one_col w ⟨⟨#[97]⟩, 1⟩
  have hal : Below w.heap.size w (w.alloc (.cells #[.string ⟨#[97]⟩, .int .i64 1] 58)) := (Below.refl _ _).alloc (Nat.le_refl _) _
  have hnw := newwin_any _ _ awW ⟨by decide, by decide, by decide⟩ _ awC hcol (by decide)
  unfold NewOutW at hnw
  rw [awW_right] at hnw
  have HNW := Lib.hid hnw
  have HAL := Lib.hid hal
  unfold WinV.agg awW at HNW
  simp only at HNW
  clear hcol hnw hal
  go_enter Try.func7, Try.ntmps7
  go_wp2_with fail
  refine HNW.out.mono ?_
  clear HNW
  rintro e w2 (⟨h, _⟩ | ⟨_, b, F, rfl, hbw, hwin, hb2, hF⟩)
  · cases h
  have HWIN : Hid (IsWin w2 b F awW awC []) := hwin
  have HB2 : Hid (Below w.heap.size w w2) := HAL.out.trans (hb2.mono HAL.out.size)
  have hbl := hwin.lt
  have HBW : Hid (w.heap.size ≤ b) := Nat.le_trans HAL.out.size hbw
  clear hwin hb2 hF hbw
  go_wp2_with fail
  refine (num_row _ 1).mono ?_
  rintro e a1 ⟨rfl, r1, q1⟩
  go_wp2_with fail
  refine (num_row _ 2).mono ?_
  rintro e a2 ⟨rfl, r2, q2⟩
  go_wp2_with fail
  refine (num_row _ 3).mono ?_
  rintro e a3 ⟨rfl, r3, q3⟩
  have z1 := q1.size
  have z2 := q2.size
  have z3 := q3.size
  have g3 : ∀ r ∈ ([⟨.slice (some ⟨w2.heap.size, 0, none⟩) 1 1, [nV 1]⟩, ⟨.slice (some ⟨a1.heap.size, 0, none⟩) 1 1, [nV 2]⟩, ⟨.slice (some ⟨a2.heap.size, 0, none⟩) 1 1, [nV 3]⟩] : List RowV), Sl a3 (fun q => w2.heap.size ≤ q) 3 r.v r.l.length (rowCells r.l) := by
    intro r hr
    simp only [List.mem_cons, List.not_mem_nil, or_false] at hr
    rcases hr with rfl | rfl | rfl
    · exact (r1.below q2).below q3
    · exact (r2.below q3).mono (Nat.le_refl _) (fun _ _ _ => rfl) (fun q h _ => Nat.le_trans z1 h)
    · exact r3.mono (Nat.le_refl _) (fun _ _ _ => rfl) (fun q h _ => Nat.le_trans (Nat.le_trans z1 z2) h)
  have g4 := rows_lit a3 (fun q => w2.heap.size ≤ q) _ g3 (by omega) (by simp) (by intro u hu; simp [rowVals] at hu; rcases hu with rfl | rfl | rfl <;> rfl) 56
  have q4 : Below a3.heap.size a3 (a3.alloc (.cells #[.slice (some ⟨w2.heap.size, 0, none⟩) 1 1, .slice (some ⟨a1.heap.size, 0, none⟩) 1 1, .slice (some ⟨a2.heap.size, 0, none⟩) 1 1] 56)) := (Below.refl _ _).alloc (Nat.le_refl _) _
  have p3 := (q1.trans (q2.mono z1)).trans (q3.mono (Nat.le_trans z1 z2))
  have g4' : RowsAt (a3.alloc (.cells #[.slice (some ⟨w2.heap.size, 0, none⟩) 1 1, .slice (some ⟨a1.heap.size, 0, none⟩) 1 1, .slice (some ⟨a2.heap.size, 0, none⟩) 1 1] 56)) (fun q => w2.heap.size ≤ q) (.slice (some ⟨a3.heap.size, 0, none⟩) 3 3) [⟨.slice (some ⟨w2.heap.size, 0, none⟩) 1 1, [nV 1]⟩, ⟨.slice (some ⟨a1.heap.size, 0, none⟩) 1 1, [nV 2]⟩, ⟨.slice (some ⟨a2.heap.size, 0, none⟩) 1 1, [nV 3]⟩] := g4
  have Q4 := Lib.hid q4
  have G4 := Lib.hid g4'
  have P3 := Lib.hid p3
  clear r1 r2 r3 q1 q2 q3 g3 g4 g4' q4 p3
  obtain ⟨a4, ha4⟩ : ∃ a4, a3.alloc (.cells #[.slice (some ⟨w2.heap.size, 0, none⟩) 1 1, .slice (some ⟨a1.heap.size, 0, none⟩) 1 1, .slice (some ⟨a2.heap.size, 0, none⟩) 1 1] 56) = a4 := ⟨_, rfl⟩
  rw [ha4] at Q4 G4
  go_wp2_with fail
  clear ha4
  refine (num_row _ 4).mono ?_
  rintro e a5 ⟨rfl, r5, q5⟩
  go_wp2_with fail
  refine (num_row _ 5).mono ?_
  rintro e a6 ⟨rfl, r6, q6⟩
  have z4 := Q4.out.size
  have z5 := q5.size
  have z6 := q6.size
  have g6 : ∀ r ∈ ([⟨.slice (some ⟨a4.heap.size, 0, none⟩) 1 1, [nV 4]⟩, ⟨.slice (some ⟨a5.heap.size, 0, none⟩) 1 1, [nV 5]⟩] : List RowV), Sl a6 (fun q => w2.heap.size ≤ q) 3 r.v r.l.length (rowCells r.l) := by
    intro r hr
    simp only [List.mem_cons, List.not_mem_nil, or_false] at hr
    rcases hr with rfl | rfl
    · exact (r5.below q6).mono (Nat.le_refl _) (fun _ _ _ => rfl) (fun q h _ => by omega)
    · exact r6.mono (Nat.le_refl _) (fun _ _ _ => rfl) (fun q h _ => by omega)
  have g7 : RowsAt (a6.alloc (.cells #[.slice (some ⟨a4.heap.size, 0, none⟩) 1 1, .slice (some ⟨a5.heap.size, 0, none⟩) 1 1] 56)) (fun q => w2.heap.size ≤ q) (.slice (some ⟨a6.heap.size, 0, none⟩) 2 2) [⟨.slice (some ⟨a4.heap.size, 0, none⟩) 1 1, [nV 4]⟩, ⟨.slice (some ⟨a5.heap.size, 0, none⟩) 1 1, [nV 5]⟩] :=
    rows_lit a6 (fun q => w2.heap.size ≤ q) _ g6 (by omega) (by simp) (by intro u hu; simp [rowVals] at hu; rcases hu with rfl | rfl <;> rfl) 56
  obtain ⟨a7, ha7⟩ : ∃ a7, a6.alloc (.cells #[.slice (some ⟨a4.heap.size, 0, none⟩) 1 1, .slice (some ⟨a5.heap.size, 0, none⟩) 1 1] 56) = a7 := ⟨_, rfl⟩
  have q7 : Below a6.heap.size a6 a7 := ha7 ▸ (Below.refl _ _).alloc (Nat.le_refl _) _
  rw [ha7] at g7
  have g4b := ((G4.out.below q5).below q6).below q7
  have z7 := q7.size
  have p7 : Below w2.heap.size w2 a7 := (((P3.out.trans (Q4.out.mono (by omega))).trans (q5.mono (by omega))).trans (q6.mono (by omega))).trans (q7.mono (by omega))
  have g8 := bats_lit a7 (fun q => w2.heap.size ≤ q) [⟨1, .slice (some ⟨a3.heap.size, 0, none⟩) 3 3, [⟨.slice (some ⟨w2.heap.size, 0, none⟩) 1 1, [nV 1]⟩, ⟨.slice (some ⟨a1.heap.size, 0, none⟩) 1 1, [nV 2]⟩, ⟨.slice (some ⟨a2.heap.size, 0, none⟩) 1 1, [nV 3]⟩]⟩, ⟨2, .slice (some ⟨a6.heap.size, 0, none⟩) 2 2, [⟨.slice (some ⟨a4.heap.size, 0, none⟩) 1 1, [nV 4]⟩, ⟨.slice (some ⟨a5.heap.size, 0, none⟩) 1 1, [nV 5]⟩]⟩]
    (by intro x hx; simp only [List.mem_cons, List.not_mem_nil, or_false] at hx; rcases hx with rfl | rfl; exact g4b; exact g7) (by omega) (by simp) (by intro u hu; simp [batCells, BatV.cells] at hu; rcases hu with rfl | rfl | rfl | rfl <;> rfl) rfl 38
  have p8 : Below w2.heap.size w2 (a7.alloc (.cells #[.int .i64 1, .slice (some ⟨a3.heap.size, 0, none⟩) 3 3, .int .i64 2, .slice (some ⟨a6.heap.size, 0, none⟩) 2 2] 38)) := p7.alloc p7.size _
  have hput := wput_any _ b F _ awW awC [] (HWIN.out.below p8) (by decide) _ _ g8 (fun k hk => by omega) (by
    intro x hx
    simp only [List.mem_cons, List.not_mem_nil, or_false] at hx
    rcases hx with rfl | rfl
    · exact ⟨by simp, fun r hr => by simp at hr; rcases hr with rfl | rfl | rfl <;> simp⟩
    · exact ⟨by simp, fun r hr => by simp at hr; rcases hr with rfl | rfl <;> simp⟩) (by simp) (by simp)
  have HP8 := Lib.hid p8
  have HPUT := Lib.hid hput
  clear r5 r6 q5 q6 g6 g7 q7 g4b p7 g8 p8 hput G4 Q4
  have HFA : Hid (fitsAll awC [⟨1, .slice (some ⟨a3.heap.size, 0, none⟩) 3 3, [⟨.slice (some ⟨w2.heap.size, 0, none⟩) 1 1, [nV 1]⟩, ⟨.slice (some ⟨a1.heap.size, 0, none⟩) 1 1, [nV 2]⟩, ⟨.slice (some ⟨a2.heap.size, 0, none⟩) 1 1, [nV 3]⟩]⟩, ⟨2, .slice (some ⟨a6.heap.size, 0, none⟩) 2 2, [⟨.slice (some ⟨a4.heap.size, 0, none⟩) 1 1, [nV 4]⟩, ⟨.slice (some ⟨a5.heap.size, 0, none⟩) 1 1, [nV 5]⟩]⟩] = true) := by
    show _ = _
    unfold fitsAll
    simp only [List.all_cons, List.all_nil, awR1, awR2, Bool.and_true]
  go_wp2_with fail
  refine HPUT.out.mono ?_
  clear HPUT
  rintro e w9 hpo
  have hpo2 : ∃ F', e = .returned (.tuple #[.int .i64 2, .int .i64 0]) ∧ IsWin w9 b F' awW awC awU ∧ Below w.heap.size w w9 := by
    rcases hpo with ⟨h, _⟩ | ⟨_, c, F', he, hc, hw, _, hon⟩
    · rw [HFA.out] at h; cases h
    · have hc2 : c = 2 := by simpa [newUnits, unitsOf, awW] using hc
      subst hc2
      refine ⟨F', he, hw, ?_⟩
      have h1 := HB2.out.trans (HP8.out.mono HB2.out.size)
      exact h1.trans (hon.below h1.size (fun q hq => by rw [hq]; exact HBW.out))
  obtain ⟨F', rfl, hw9, hb9⟩ := hpo2
  have HW9 := Lib.hid hw9
  have HB9 := Lib.hid hb9
  have HRW := Lib.hid (rows_any w9 b F' awW awC awU hw9 (by decide) (by decide))
  have HSG := Lib.hid (fun w2 (hb : Below w9.heap.size w9 w2) => staged_any w2 b F' awW awC awU (hw9.below hb))
  have e1 : seenW awW.size.toNat awW.slide.toNat awU = [[[nV 2]], [[nV 3]], [[nV 4]]] := by rfl
  have e2 : (stagW awW.slide.toNat awU).length = 1 := by rfl
  rw [e1] at HRW
  rw [e2] at HSG
  clear hw9 hb9 hpo HWIN HFA e1 e2
  go_wp2_with fail
  refine HRW.out.mono ?_
  clear HRW
  rintro e b0 ⟨lv, rws, rfl, hrws, hra, hb0⟩
  obtain ⟨pr, cr, hlv, _, _⟩ := hra.1.form
  subst hlv
  have HRS := Lib.hid hrws
  have HRA := Lib.hid hra
  have HB0 := Lib.hid hb0
  clear hrws hra hb0
  go_wp2_with fail
  refine (num_row _ 2).mono ?_
  rintro e b1 ⟨rfl, r1, q1⟩
  go_wp2_with fail
  refine (num_row _ 3).mono ?_
  rintro e b2 ⟨rfl, r2, q2⟩
  go_wp2_with fail
  refine (num_row _ 4).mono ?_
  rintro e b3 ⟨rfl, r3, q3⟩
  have g3 : ∀ r ∈ ([⟨.slice (some ⟨b0.heap.size, 0, none⟩) 1 1, [nV 2]⟩, ⟨.slice (some ⟨b1.heap.size, 0, none⟩) 1 1, [nV 3]⟩, ⟨.slice (some ⟨b2.heap.size, 0, none⟩) 1 1, [nV 4]⟩] : List RowV), Sl b3 (fun _ => True) 3 r.v r.l.length (rowCells r.l) := by
    intro r hr
    simp only [List.mem_cons, List.not_mem_nil, or_false] at hr
    rcases hr with rfl | rfl | rfl
    · exact ((r1.below q2).below q3).mono (Nat.le_refl _) (fun _ _ _ => rfl) (fun _ _ _ => trivial)
    · exact (r2.below q3).mono (Nat.le_refl _) (fun _ _ _ => rfl) (fun _ _ _ => trivial)
    · exact r3.mono (Nat.le_refl _) (fun _ _ _ => rfl) (fun _ _ _ => trivial)
  have g4 : RowsAt (b3.alloc (.cells #[.slice (some ⟨b0.heap.size, 0, none⟩) 1 1, .slice (some ⟨b1.heap.size, 0, none⟩) 1 1, .slice (some ⟨b2.heap.size, 0, none⟩) 1 1] 56)) (fun _ => True) (.slice (some ⟨b3.heap.size, 0, none⟩) 3 3) [⟨.slice (some ⟨b0.heap.size, 0, none⟩) 1 1, [nV 2]⟩, ⟨.slice (some ⟨b1.heap.size, 0, none⟩) 1 1, [nV 3]⟩, ⟨.slice (some ⟨b2.heap.size, 0, none⟩) 1 1, [nV 4]⟩] :=
    rows_lit b3 (fun _ => True) _ g3 trivial (by simp) (by intro u hu; simp [rowVals] at hu; rcases hu with rfl | rfl | rfl <;> rfl) 56
  have p3 := (q1.trans (q2.mono q1.size)).trans (q3.mono (Nat.le_trans q1.size q2.size))
  have p4 : Below b0.heap.size b0 (b3.alloc (.cells #[.slice (some ⟨b0.heap.size, 0, none⟩) 1 1, .slice (some ⟨b1.heap.size, 0, none⟩) 1 1, .slice (some ⟨b2.heap.size, 0, none⟩) 1 1] 56)) := p3.alloc p3.size _
  have HSM := Lib.hid (same_rows _ _ _ _ _ rws _ (HRA.out.below p4) g4 (by rw [HRS.out]; rfl))
  have HP4 := Lib.hid (HB0.out.trans (p4.mono HB0.out.size))
  clear r1 r2 r3 q1 q2 q3 g3 g4 p3 p4
  go_wp2_with fail
  refine HSM.out.mono ?_
  clear HSM
  rintro e b5 ⟨rfl, h5⟩
  have HP5 := Lib.hid (HP4.out.trans (h5.mono HP4.out.size))
  clear h5
  go_wp2_with fail
  refine (HSG.out _ HP5.out).mono ?_
  rintro e b6 ⟨rfl, rfl⟩
  go_wp2
  go_ret
  exact ⟨rfl, HB9.out.trans (HP5.out.mono HB9.out.size)⟩
end Go.Proofs.Ytedcljahcedpjaa
/- The window's laws: their arguments opened. -/
namespace Go.Proofs.Ytedcljahcedpjaa
open Go.RowKit Go.Afx
theorem ocBool : Try.prog.cellsOf 4 = 1 := by kernel_rfl
theorem ocBats : Try.prog.cellsOf 34 = 1 := by kernel_rfl
section
variable {H : Type} {enc : TypeId × Value → H} {w : World}
theorem list6 {α : Type} {l : List α} (h : l.length = 6) : ∃ a b c d e f, l = [a, b, c, d, e, f] := by
  match l, h with
  | [a, b, c, d, e, f], _ => exact ⟨a, b, c, d, e, f, rfl⟩
theorem open_window {cs : Array Value} {d : DataW H} {ps : List MemPlace} (h : DataW.Trod enc Try.prog w 0 (fun _ => true) true 23 (.agg cs) d ps) (hs : cs.size = 6) :
    ∃ v : WinV, Value.agg cs = v.agg := by
  obtain ⟨fuel, hf⟩ := h
  have hf2 : DataW.trod enc Try.prog w 0 (fun _ => true) true fuel 23 cs.toList = some _ := hf
  obtain ⟨n, hfs⟩ := open_fields Try.underlying23 hf2
  obtain ⟨c0, c1, c2, c3, c4, c5, hcs⟩ := list6 (l := cs.toList) (by simpa using hs)
  rw [hcs] at hfs
  obtain ⟨y0, h0⟩ := hfs 0 _ rfl
  obtain ⟨y1, h1⟩ := hfs 1 _ rfl
  obtain ⟨y2, h2⟩ := hfs 2 _ rfl
  obtain ⟨y3, h3⟩ := hfs 3 _ rfl
  obtain ⟨y4, h4⟩ := hfs 4 _ rfl
  obtain ⟨y5, h5⟩ := hfs 5 _ rfl
  simp only [ocStr, ocBool, ocInt, List.drop_zero, List.drop_succ_cons, List.take_succ_cons, List.take_zero] at h0 h1 h2 h3 h4 h5
  obtain ⟨s0, e0, _, _⟩ := DataW.trod_string Try.underlying9 h0
  obtain ⟨s1, e1, _, _⟩ := DataW.trod_string Try.underlying9 h1
  obtain ⟨s2, e2, _, _⟩ := DataW.trod_string Try.underlying9 h2
  obtain ⟨s3, e3, _⟩ := DataW.trod_bool Try.underlying4 h3
  obtain ⟨s4, e4, _, _⟩ := DataW.trod_int Try.underlying3 h4
  obtain ⟨s5, e5, _, _⟩ := DataW.trod_int Try.underlying3 h5
  simp only [List.cons.injEq, and_true] at e0 e1 e2 e3 e4 e5
  subst e0 e1 e2 e3 e4 e5
  refine ⟨⟨s0, s1, s2, s3, s4, s5⟩, ?_⟩
  have : cs = #[.string s0, .string s1, .string s2, .bool s3, .int .i64 s4, .int .i64 s5] := by rw [← Array.toList_inj, hcs]
  rw [this]; rfl
theorem open_batch {cs : Array Value} {d : DataW H} {ps : List MemPlace} (h : DataW.Trod enc Try.prog w 0 (fun _ => true) true 38 (.agg cs) d ps) (hs : cs.size = 2) :
    ∃ b : BatV, Value.agg cs = b.agg ∧ RowsAt w (fun _ => True) b.v b.rows ∧ b.read := by
  obtain ⟨fuel, hf⟩ := h
  have hf2 : DataW.trod enc Try.prog w 0 (fun _ => true) true fuel 38 cs.toList = some _ := hf
  obtain ⟨b, h1, h2, h3⟩ := open_bat_at (by simpa using hs) hf2
  refine ⟨b, ?_, h2, h3⟩
  have : cs = #[.int .i64 b.id, b.v] := by rw [← Array.toList_inj, h1]; rfl
  rw [this]; rfl
theorem open_bats_at {fuel : Nat} {v : Value} {y : DataW H × List MemPlace} (hf : DataW.trod enc Try.prog w 0 (fun _ => true) true fuel 34 [v] = some y) : ∃ l : List BatV, BatAt w (fun _ => True) v l ∧ ∀ b ∈ l, b.read := by
  obtain ⟨es, h1, h2⟩ := open_sl Try.underlying34 ocBat (by omega) hf (fun c => ∃ b : BatV, c = b.cells ∧ RowsAt w (fun _ => True) b.v b.rows ∧ b.read) (fun c ⟨b, hc, hr, _⟩ => by subst hc; exact Ones.nil.cons (sl_one hr.1) |>.cons rfl) (fun f c y hl hy => open_bat_at hl hy)
  obtain ⟨l, rfl, h4⟩ := choose_list es (fun c hcm => (h1 c hcm).2)
  rw [List.length_map] at h2
  exact ⟨l, ⟨h2, fun b hb => (h4 b hb).1⟩, fun b hb => (h4 b hb).2⟩
theorem open_groups {v : Value} {d : DataW H} {ps : List MemPlace} (h : DataW.Trod enc Try.prog w 0 (fun _ => true) true 25 v d ps) (hv : v.cells.toList = [v]) :
    ∃ gs : List GrpV, GrpsAt w (fun _ => True) v gs ∧ ∀ g ∈ gs, ∀ b ∈ g.bats, b.read := by
  obtain ⟨fuel, hf⟩ := h
  rw [hv] at hf
  obtain ⟨es, h1, h2⟩ := open_sl Try.underlying25 ocBats (by omega) hf (fun c => ∃ g : GrpV, c = [g.v] ∧ BatAt w (fun _ => True) g.v g.bats ∧ ∀ b ∈ g.bats, b.read) (fun c ⟨g, hc, hr, _⟩ => by subst hc; exact Ones.nil.cons (sl_one hr.1))
    (fun f c y hl hy => by
      obtain ⟨x, rfl⟩ : ∃ x, c = [x] := by
        match c, hl with
        | [x], _ => exact ⟨x, rfl⟩
      obtain ⟨l, h3, h4⟩ := open_bats_at hy
      exact ⟨⟨x, l⟩, rfl, h3, h4⟩)
  obtain ⟨gs, rfl, h4⟩ := choose_list es (fun c hcm => (h1 c hcm).2)
  rw [List.length_map] at h2
  have e : (gs.map fun g => [g.v]).flatten = gs.map GrpV.v := flat_one GrpV.v gs
  rw [e] at h2
  exact ⟨gs, ⟨h2, fun g hg => (h4 g hg).1⟩, fun g hg => (h4 g hg).2⟩
end
end Go.Proofs.Ytedcljahcedpjaa
/- WindowPuts: its walk. -/
namespace Go.Proofs.Ytedcljahcedpjaa
open Go.RowKit Go.Afx

theorem IsWin.tight {w : World} {b : Nat} {F : Nat → Prop} {v : WinV} {cl : List ColV} {all : List UnitA} (h : IsWin w b F v cl all) : IsWin w b (fun q => F q ∧ q < w.heap.size) v cl all := by
  obtain ⟨sv, tv, cv, h1, h2, h3, h4, h5⟩ := h
  exact ⟨sv, tv, cv, h1, h2.mono (Nat.le_refl _) (fun _ _ _ => rfl) (fun k hk hl => ⟨hk, hl⟩), h3.mono (Nat.le_refl _) (fun _ _ _ => rfl) (fun k hk hl => ⟨hk, hl⟩), h4.mono (Nat.le_refl _) (fun _ _ _ => rfl) (fun k hk hl => ⟨hk, hl⟩), fun h => h5 h.1⟩
theorem RowsAt.tight {w : World} {B : Nat → Prop} {v : Value} {rows : List RowV} (h : RowsAt w B v rows) : RowsAt w (fun q => q < w.heap.size) v rows := h.mono (Nat.le_refl _) (fun _ _ _ => rfl) (fun _ _ hl => hl)
theorem GrpsAt.tight {w : World} {B : Nat → Prop} {v : Value} {gs : List GrpV} (h : GrpsAt w B v gs) : GrpsAt w (fun q => q < w.heap.size) v gs :=
  ⟨h.1.mono (Nat.le_refl _) (fun _ _ _ => rfl) (fun _ _ hl => hl), fun g hg => ⟨(h.2 g hg).1.mono (Nat.le_refl _) (fun _ _ _ => rfl) (fun _ _ hl => hl), fun x hx => ((h.2 g hg).2 x hx).tight⟩⟩
theorem fits_small {cl : List ColV} {x : BatV} (h : fitsB cl (x.rows.map RowV.l) = true) (hc : cl.length ≤ 8) (hr : ∀ r ∈ x.rows, ∀ a ∈ r.l, a.read) : SmallU (x.rows.map RowV.l) := by
  unfold fitsB at h
  rw [Bool.and_eq_true, List.all_eq_true, decide_eq_true_eq] at h
  refine ⟨h.2, fun r hr2 => ?_⟩
  have h1 := h.1 r hr2
  unfold fitB at h1
  rw [Bool.and_eq_true, Bool.and_eq_true, decide_eq_true_eq] at h1
  obtain ⟨y, hy, rfl⟩ := List.mem_map.1 hr2
  exact ⟨by omega, h1.1.2, fun a ha => (hr y hy a ha).2.1⟩
theorem small_units {bt : Bool} {cl : List ColV} {l : List BatV} (h : fitsAll cl l = true) (hc : cl.length ≤ 8) (hr : ∀ x ∈ l, x.read) : ∀ u ∈ newUnits bt l, SmallU u := by
  intro u hu
  unfold newUnits at hu
  obtain ⟨m, hm, hum⟩ := List.mem_flatten.1 hu
  obtain ⟨x, hx, rfl⟩ := List.mem_map.1 hm
  have h1 := fits_small (List.all_eq_true.1 h x hx) hc (hr x hx).2
  unfold unitsOf at hum
  split at hum
  · rw [List.mem_singleton.1 hum]; exact h1
  · obtain ⟨r, hr2, rfl⟩ := List.mem_map.1 hum
    exact ⟨by simp, fun r2 h3 => by rw [List.mem_singleton.1 h3]; exact h1.2 r hr2⟩
/-- What the law's loop keeps: the window, all that came. -/
def PutsSt (w1 w3 wr : World) (b : Nat) (v : WinV) (cl : List ColV) (av : Value) (us : List UnitV) : Prop :=
  ∃ F, IsWin wr b F v cl (us.map UnitV.abs) ∧ (∀ q, F q → q < wr.heap.size) ∧ Own wr 36 1 av us.length (unitVals us) ∧ (∀ q, av.ownBlock = some q → ¬ F q ∧ q ≠ b ∧ w3.heap.size ≤ q) ∧
    (∀ u ∈ us, RowsAt wr (fun q => q < w1.heap.size) u.v u.rows) ∧ (∀ u ∈ us, SmallU u.abs) ∧ Below w1.heap.size w1 wr ∧ w3.heap.size ≤ wr.heap.size
theorem PutsSt.below {w1 w3 wr w' : World} {b : Nat} {v : WinV} {cl : List ColV} {av : Value} {us : List UnitV} (h : PutsSt w1 w3 wr b v cl av us) (hb : Below wr.heap.size wr w') : PutsSt w1 w3 w' b v cl av us := by
  obtain ⟨F, h1, h2, h3, h4, h5, h6, h7, h8⟩ := h
  exact ⟨F, h1.below hb, fun q hq => Nat.lt_of_lt_of_le (h2 q hq) hb.size, h3.below hb, h4, fun u hu => (h5 u hu).below hb, h6, h7.trans (hb.mono h7.size), Nat.le_trans h8 hb.size⟩
theorem PutsSt.units {w1 w3 wr : World} {b : Nat} {v : WinV} {cl : List ColV} {av : Value} {us : List UnitV} (h : PutsSt w1 w3 wr b v cl av us) : UnitsAt wr (fun _ => True) av us := by
  obtain ⟨F, h1, h2, h3, h4, h5, h6, h7, h8⟩ := h
  exact ⟨h3.sl (fun _ _ => trivial), fun u hu => (h5 u hu).mono (Nat.le_refl _) (fun _ _ _ => rfl) (fun _ _ _ => trivial)⟩
/-- The window behind a Put. -/
theorem PutsSt.put {w1 w3 wr w' : World} {b : Nat} {F F' : Nat → Prop} {v : WinV} {cl : List ColV} {av : Value} {us : List UnitV} {new : List UnitA} (hb1 : w1.heap.size ≤ b)
    (h2 : ∀ q, F q → q < wr.heap.size) (h3 : Own wr 36 1 av us.length (unitVals us)) (h4 : ∀ q, av.ownBlock = some q → ¬ F q ∧ q ≠ b ∧ w3.heap.size ≤ q) (h7 : Below w1.heap.size w1 wr) (h8 : w3.heap.size ≤ wr.heap.size)
    (hw : IsWin w' b F' v cl (us.map UnitV.abs ++ new)) (hf : ∀ k, F' k → F k ∨ wr.heap.size ≤ k) (ho : Only (fun k => k = b) wr w') :
    ∃ G, IsWin w' b G v cl (us.map UnitV.abs ++ new) ∧ (∀ q, G q → q < w'.heap.size) ∧ Own w' 36 1 av us.length (unitVals us) ∧ (∀ q, av.ownBlock = some q → ¬ G q ∧ q ≠ b ∧ w3.heap.size ≤ q) ∧ Below w1.heap.size w1 w' ∧ w3.heap.size ≤ w'.heap.size := by
  refine ⟨_, hw.tight, fun q hq => hq.2, h3.only ho (fun q hq h => (h4 q hq).2.1 h), fun q hq => ⟨fun h => ?_, (h4 q hq).2⟩, h7.trans (ho.below h7.size (fun q hq => by rw [hq]; exact hb1)), Nat.le_trans h8 ho.size⟩
  rcases hf q h.1 with h9 | h9
  · exact (h4 q hq).1 h9
  · have := h3.lt q hq; omega
/-- All that came, with what came anew. -/
theorem PutsSt.app {w1 w3 wr w5 w6 : World} {b : Nat} {G : Nat → Prop} {v : WinV} {cl : List ColV} {av v6 : Value} {us u2 : List UnitV} {new : List UnitA} (hn : u2.map UnitV.abs = new) (hb3 : b < w3.heap.size)
    (h1 : IsWin wr b G v cl (us.map UnitV.abs ++ new)) (h2 : ∀ q, G q → q < wr.heap.size) (h4 : ∀ q, av.ownBlock = some q → ¬ G q ∧ q ≠ b ∧ w3.heap.size ≤ q) (h5 : ∀ u ∈ us, RowsAt wr (fun q => q < w1.heap.size) u.v u.rows) (h6 : ∀ u ∈ us, SmallU u.abs)
    (h7 : Below w1.heap.size w1 wr) (h8 : w3.heap.size ≤ wr.heap.size) (h9 : w1.heap.size ≤ w3.heap.size) (hb5 : Below wr.heap.size wr w5) (hr : ∀ u ∈ u2, RowsAt w5 (fun q => q < w1.heap.size) u.v u.rows) (hs : ∀ u ∈ new, SmallU u)
    (g1 : Own w6 36 1 v6 (us.length + u2.length) (unitVals us ++ unitVals u2)) (g2 : Only (fun k => av.ownBlock = some k) w5 w6) (g3 : v6.ownBlock = av.ownBlock ∨ v6.ownBlock = some w5.heap.size) :
    PutsSt w1 w3 w6 b v cl v6 (us ++ u2) := by
  have hz := hb5.size
  refine ⟨G, ?_, fun q hq => Nat.lt_of_lt_of_le (h2 q hq) (Nat.le_trans hz g2.size), by rw [List.length_append, unitVals_append]; exact g1, fun q hq => ?_, fun u hu => ?_, fun u hu => ?_, ?_, Nat.le_trans h8 (Nat.le_trans hz g2.size)⟩
  · rw [List.map_append, hn]
    exact (h1.below hb5).only g2 (fun q hq h => (h4 q h).1 hq) (fun h => (h4 b h).2.1 rfl)
  · rcases g3 with h | h
    · rw [h] at hq; exact h4 q hq
    · rw [h] at hq
      have he : w5.heap.size = q := Option.some.inj hq
      exact ⟨fun h => by have := h2 q h; omega, by omega, by omega⟩
  · rcases List.mem_append.1 hu with h | h
    · exact ((h5 u h).below hb5).only g2 (fun q hq h => by have := (h4 q h).2.2; omega)
    · exact (hr u h).only g2 (fun q hq h => by have := (h4 q h).2.2; omega)
  · rcases List.mem_append.1 hu with h | h
    · exact h6 u h
    · exact hs _ (by rw [← hn]; exact List.mem_map_of_mem h)
  · have h10 := h7.trans (hb5.mono h7.size)
    exact h10.trans (g2.below h10.size (fun q hq => Nat.le_trans h9 (h4 q hq).2.2))
theorem IsWin.drewW {w : World} {b : Nat} {F : Nat → Prop} {v : WinV} {cl : List ColV} {all : List UnitA} (h : IsWin w b F v cl all) : IsWin w.drew b F v cl all := h.below ((Below.refl _ _).drew)
theorem looks_puts {w1 w3 wr : World} {b : Nat} {v : WinV} {cl : List ColV} {av : Value} {us : List UnitV} (h : PutsSt w1 w3 wr b v cl av us) (hr : rightW v = true) (hl : us.length ≤ 1000000) :
    Calls Try.prog 14 #[.pointer (some ⟨b, 0, none⟩), v.agg, av] wr fun e w' => e = .returned (.bool true) ∧ Below wr.heap.size wr w' := by
  have hu := h.units
  obtain ⟨F, h1, h2, h3, h4, h5, h6, h7, h8⟩ := h
  exact wlooks_any wr b F _ v cl _ h1 hr (fun u hu => by
    obtain ⟨x, hx, rfl⟩ := List.mem_map.1 hu
    exact h6 x hx) av us hu rfl hl
end Go.Proofs.Ytedcljahcedpjaa
/- A journal of what a window had: Mark, Note, Back. -/
namespace Go.Proofs.Ytedcljahcedpjaa
open Go.RowKit Go.Afx

theorem elemStep : Elem Try.prog 44 100 1 16 .nilIface :=
  ⟨Try.underlying44, by kernel_rfl, rfl, by omega, by intro u hu; simp [Value.cells] at hu; subst hu; rfl⟩
/-- A step: what a window had, and all that had come. -/
structure StepV where
  sv : Value
  tv : Value
  all : List UnitA
def stepVals (b : Nat) (l : List StepV) : List Value := l.map fun s => backV s.sv s.tv b
theorem stepVals_append (b : Nat) (x y : List StepV) : stepVals b (x ++ y) = stepVals b x ++ stepVals b y := by simp [stepVals]
theorem stepVals_length (b : Nat) (x : List StepV) : (stepVals b x).length = x.length := by simp [stepVals]
/-- What had come when so many steps were noted. -/
def atJ (l : List StepV) (all : List UnitA) (m : Nat) : List UnitA := match l[m]? with
  | some s => s.all
  | none => all
theorem atJ_push (l : List StepV) (s : StepV) (all' : List UnitA) {m : Nat} (h : m ≤ l.length) : atJ (l ++ [s]) all' m = atJ l s.all m := by
  unfold atJ
  by_cases h1 : m < l.length
  · rw [List.getElem?_append_left h1, List.getElem?_eq_getElem h1]
  · obtain rfl : m = l.length := by omega
    simp
theorem atJ_end (l : List StepV) (all : List UnitA) : atJ l all l.length = all := by simp [atJ]
/-- A window, and a journal of its steps. -/
def JourSt (n1 : Nat) (w : World) (b jb : Nat) (F : Nat → Prop) (v : WinV) (cl : List ColV) (l : List StepV) (all : List UnitA) : Prop :=
  IsWin w b F v cl all ∧ ¬ F jb ∧ jb ≠ b ∧ (∀ q, F q → q < w.heap.size) ∧ n1 ≤ b ∧ n1 ≤ jb ∧
    (∃ jv, Blk w jb 46 [jv] ∧ Own w 100 1 jv l.length (stepVals b l) ∧ ∀ q, jv.ownBlock = some q → ¬ F q ∧ q ≠ b ∧ q ≠ jb ∧ n1 ≤ q) ∧
    ∀ s ∈ l, UnitsIs w F s.sv (seenW v.size.toNat v.slide.toNat s.all) ∧ UnitsIs w F s.tv (stagW v.slide.toNat s.all)
theorem JourSt.below {n1 : Nat} {w w' : World} {b jb : Nat} {F : Nat → Prop} {v : WinV} {cl : List ColV} {l : List StepV} {all : List UnitA} (h : JourSt n1 w b jb F v cl l all) (hb : Below w.heap.size w w') : JourSt n1 w' b jb F v cl l all := by
  obtain ⟨h1, h2, h3, h4, h5, h6, ⟨jv, k1, k2, k3⟩, h8⟩ := h
  exact ⟨h1.below hb, h2, h3, fun q hq => Nat.lt_of_lt_of_le (h4 q hq) hb.size, h5, h6, ⟨jv, k1.below hb, k2.below hb, k3⟩, fun s hs => ⟨(h8 s hs).1.below hb, (h8 s hs).2.below hb⟩⟩
theorem mark_any {n1 : Nat} {w : World} {b jb : Nat} {F : Nat → Prop} {v : WinV} {cl : List ColV} {l : List StepV} {all : List UnitA} (h : JourSt n1 w b jb F v cl l all) :
    Calls Try.prog 20 #[.pointer (some ⟨jb, 0, none⟩)] w fun e w' => e = .returned (.int .i64 l.length) ∧ w = w' := by
  obtain ⟨h1, h2, h3, h4, h5, h6, ⟨jv, k1, k2, k3⟩, h8⟩ := h
  obtain ⟨p, c, rfl, _, _⟩ := own_formW k2
  have c0 : w.cell? ⟨jb, 0, none⟩ = some (.slice p l.length c) := k1.cell 0
  have hl := k1.lt
  clear h1 h2 h3 h4 h5 h6 k1 k2 k3 h8
  go_enter Try.func20, Try.ntmps20
  go_wp2
  go_ret
  exact ⟨rfl, rfl⟩
/-- What Note leaves. -/
def NoteQ (b jb : Nat) (jv : Value) (l : List StepV) (sv tv : Value) (w2 w' : World) : Prop :=
  ∃ jv', Blk w' jb 46 [jv'] ∧ Own w' 100 1 jv' (l.length + 1) (stepVals b l ++ [backV sv tv b]) ∧ (∀ q, jv'.ownBlock = some q → jv.ownBlock = some q ∨ w2.heap.size ≤ q ∧ q < w'.heap.size)
theorem note_any (w : World) (b jb : Nat) (jv : Value) (l : List StepV) (hk : Blk w jb 46 [jv]) (ho : Own w 100 1 jv l.length (stepVals b l)) (hj : ∀ q, jv.ownBlock = some q → q ≠ jb) (hl : l.length ≤ 1000) (sv tv : Value) :
    Calls Try.prog 30 #[.pointer (some ⟨jb, 0, none⟩), .slice (some ⟨w.heap.size, 0, none⟩) 1 1] (w.alloc (.cells #[backV sv tv b] 100)) fun e w' => e = .returned (.tuple #[]) ∧ NoteQ b jb jv l sv tv w w' ∧ Only (fun q => q = jb ∨ jv.ownBlock = some q) w w' := by
  obtain ⟨p, c, rfl, hc1, hc2⟩ := own_formW ho
  obtain ⟨x, hx⟩ : ∃ x, backV sv tv b = x := ⟨_, rfl⟩
  have h1x : x.oneCell' = true := by rw [← hx]; rfl
  rw [hx]
  obtain ⟨w1, hw1⟩ : ∃ w1, w.alloc (.cells #[x] 100) = w1 := ⟨_, rfl⟩
  have b1 : Below w.heap.size w w1 := hw1 ▸ (Below.refl _ _).alloc (Nat.le_refl _) _
  have hs1 := box1 w 100 x h1x
  rw [hw1] at hs1 ⊢
  have k1 := hk.below b1
  have ho1 := ho.below b1
  have c0 : w1.cell? ⟨jb, 0, none⟩ = some (.slice p l.length c) := k1.cell 0
  have hf : ∀ i, w1.frozen? ⟨jb, i, none⟩ = false := k1.frozen
  have hlt := k1.lt
  have hjl := hk.lt
  have HK := Lib.hid k1
  have HB := Lib.hid b1
  have HJ := Lib.hid hj
  have HOL : Hid (∀ q, (Value.slice p l.length c).ownBlock = some q → q < w.heap.size) := ho.lt
  have HX := Lib.hid hx
  clear hk ho k1 b1 hj hw1 hx h1x
  go_enter Try.func30, Try.ntmps30
  go_wp2_with (at_builtin; refine wpList_app rfl _ _ rfl elemStep (by rfl) ho1 (by rfl) hs1 (by unfold maxLen; omega) (by omega) ?_; intro v2 w2 g1 g2 g3 g4 g5; clear ho1 hs1; have k2 := HK.out.only g2 (fun h => HJ.out _ h rfl); have j0 : w2.cell? ⟨jb, 0, none⟩ = some (.slice p l.length c) := k2.cell 0; have jf : ∀ i, w2.frozen? ⟨jb, i, none⟩ = false := k2.frozen; have jl := k2.lt; obtain ⟨p2, c2, hv2, hc21, hc22⟩ := own_formW g1; subst hv2; have G1 := Lib.hid g1; have G2 := Lib.hid g2; have G3 := Lib.hid g3; have HK2 := Lib.hid k2; clear g1 g2 g3 g4 g5 k2)
  go_end0
  have hz := HB.out.size
  have hz2 := G2.out.size
  have hnj : ∀ q, (Value.slice p2 (l.length + 1) c2).ownBlock = some q → q ≠ jb := fun q hq => by
    rcases G3.out with h | h
    · rw [h] at hq; exact HJ.out q hq
    · rw [h] at hq
      have : w1.heap.size = q := Option.some.inj hq
      omega
  refine ⟨rfl, ⟨_, HK2.out.set 0 _, ?_, fun q hq => ?_⟩, ?_⟩
  · rw [HX.out]
    exact G1.out.setOther (p := ⟨jb, 0, none⟩) (fun h => hnj _ h rfl) _
  · rcases G3.out with h | h
    · rw [h] at hq; exact .inl hq
    · right
      have hq2 := hq
      rw [h] at hq2
      have h9 : w1.heap.size = q := Option.some.inj hq2
      have h8 := G1.out.lt q hq
      refine ⟨by omega, ?_⟩
      simpa using h8
  · exact ((Only.of_none (S := fun q => q = jb ∨ (Value.slice p l.length c).ownBlock = some q) HB.out).trans (G2.out.mono (S' := fun q => q = jb ∨ (Value.slice p l.length c).ownBlock = some q) (fun q _ h => .inr h)) (fun q _ h => h)).setCell (p := ⟨jb, 0, none⟩) (fun _ => .inl rfl) _
/-- The window has again what it had. -/
theorem back_any (w : World) (b : Nat) (v : WinV) (s0 t0 cv : Value) (ps : Option Addr) (ns cs : Nat) (pt : Option Addr) (nt ct : Nat)
    (hk : Blk w b 66 [.string v.name, .string v.on, .string v.owner, .bool v.batches, .int .i64 v.size, .int .i64 v.slide, s0, t0, cv]) :
    Calls Try.prog 100 #[.agg #[.slice ps ns cs, .slice pt nt ct, .pointer (some ⟨b, 0, none⟩)]] w fun e w' => e = .returned (.tuple #[]) ∧
      Blk w' b 66 [.string v.name, .string v.on, .string v.owner, .bool v.batches, .int .i64 v.size, .int .i64 v.slide, .slice ps ns cs, .slice pt nt ct, cv] ∧ Only (fun q => q = b) w w' := by
  obtain ⟨w1, hw1⟩ : ∃ w1, w.alloc (.cells #[.slice ps ns cs, .slice pt nt ct, .pointer (some ⟨b, 0, none⟩)] 76) = w1 := ⟨_, rfl⟩
  have b1 : Below w.heap.size w w1 := hw1 ▸ (Below.refl _ _).alloc (Nat.le_refl _) _
  have kx : Blk w1 w.heap.size 76 [.slice ps ns cs, .slice pt nt ct, .pointer (some ⟨b, 0, none⟩)] := hw1 ▸ Blk.new w _ _
  have x0 : w1.cell? ⟨w.heap.size, 0, none⟩ = some (.slice ps ns cs) := kx.cell 0
  have x1 : w1.cell? ⟨w.heap.size, 1, none⟩ = some (.slice pt nt ct) := kx.cell 1
  have x2 : w1.cell? ⟨w.heap.size, 2, none⟩ = some (.pointer (some ⟨b, 0, none⟩)) := kx.cell 2
  have hlx := kx.lt
  have k1 := hk.below b1
  have c6 : w1.cell? ⟨b, 6, none⟩ = some s0 := k1.cell 6
  have c7 : w1.cell? ⟨b, 7, none⟩ = some t0 := k1.cell 7
  have hf : ∀ i, w1.frozen? ⟨b, i, none⟩ = false := k1.frozen
  have hlt := k1.lt
  have HK := Lib.hid k1
  have HB := Lib.hid b1
  clear hk k1 b1 kx
  go_enter Try.func100, Try.ntmps100
  go_wp2
  go_end0
  exact ⟨rfl, (HK.out.set 6 _).set 7 _, (((Only.of_none (S := fun q => q = b) HB.out).setCell (p := ⟨b, 6, none⟩) (fun _ => rfl) _).setCell (p := ⟨b, 7, none⟩) (fun _ => rfl) _)⟩
theorem UnitsIs.along {w w2 w3 w' : World} {b : Nat} {F F2 JS : Nat → Prop} {v : Value} {l : List UnitA} (h : UnitsIs w F v l) (hb2 : Below w.heap.size w w2) (h3 : Only JS w2 w3) (ho : Only (fun k => k = b) w3 w') (hJ : ∀ q, F q → ¬ JS q) (hb : ¬ F b) (hF : ∀ q, F q → F2 q) : UnitsIs w' F2 v l :=
  (((h.below hb2).only h3 hJ).only ho (fun q hq e => hb (e ▸ hq))).mono (Nat.le_refl _) (fun _ _ _ => rfl) (fun q hq _ => hF q hq)
/-- What Put with a journal leaves. -/
def JPutOut (n1 : Nat) (w : World) (b jb : Nat) (v : WinV) (cl : List ColV) (steps : List StepV) (all : List UnitA) (l : List BatV) (e : Ending) (w' : World) : Prop :=
  (∃ x, e = .returned x) ∧ Only (fun q => n1 ≤ q) w w' ∧ ∃ steps' all' F', JourSt n1 w' b jb F' v cl steps' all' ∧ ((steps' = steps ∧ all' = all) ∨ (fitsAll cl l = true ∧ ∃ s : StepV, s.all = all ∧ steps' = steps ++ [s] ∧ all' = all ++ newUnits v.batches l))
theorem jput_any {n1 : Nat} {w : World} {b jb : Nat} {F : Nat → Prop} {v : WinV} {cl : List ColV} {steps : List StepV} {all : List UnitA} (h : JourSt n1 w b jb F v cl steps all) (hrt : 1 ≤ v.size ∧ v.size ≤ 100 ∧ 1 ≤ v.slide ∧ v.slide ≤ v.size) (hn1 : n1 ≤ w.heap.size)
    (B : Nat → Prop) (lv : Value) (l : List BatV) (hl : BatAt w B lv l) (hB : ∀ k, B k → k < n1) (hlr : ∀ x ∈ l, x.rows.length ≤ 40 ∧ ∀ r ∈ x.rows, r.l.length ≤ 1000) (hll : l.length ≤ 100) (hal : all.length ≤ 1000000) (hsl : steps.length ≤ 1000) :
    Calls Try.prog 12 #[.pointer (some ⟨b, 0, none⟩), .pointer (some ⟨jb, 0, none⟩), lv] w (JPutOut n1 w b jb v cl steps all l) := by
  have hj := h
  obtain ⟨h1, h2, h3, h4, h5, h6, ⟨jv, k1, k2, k3⟩, h8⟩ := h
  have hFb : ¬ F b := by obtain ⟨_, _, _, _, _, _, _, h9⟩ := h1; exact h9
  have hbl := h1.lt
  have hjl := k1.lt
  refine (put_any (fun sv tv w2 w3 => NoteQ b jb jv steps sv tv w2 w3 ∧ Only (fun q => q = jb ∨ jv.ownBlock = some q) w2 w3) (fun q => q = jb ∨ jv.ownBlock = some q) (.pointer (some ⟨jb, 0, none⟩)) w b F B v cl all h1 hrt lv l hl
    (fun k hk => ⟨by have := hB k hk; omega, fun h => by
      have := hB k hk
      rcases h with h | h
      · omega
      · have := (k3 k h).2.2.2; omega⟩)
    (fun k hk h => by
      rcases h with h | h
      · exact h2 (h ▸ hk)
      · exact (k3 k h).1 hk)
    (fun h => by
      rcases h with h | h
      · exact h3 h.symm
      · exact (k3 b h).2.1 rfl)
    (fun w2 sv tv hb _ _ => (note_any w2 b jb jv steps (k1.below hb) (k2.below hb) (fun q hq => (k3 q hq).2.2.1) hsl sv tv).mono fun e w' ⟨he, hq, ho⟩ => ⟨he, ⟨hq, ho⟩, ho⟩) hlr hll hal).mono ?_
  rintro e w' (⟨_, he, hb⟩ | ⟨hfit, c, F', sv, tv, w2, w3, he, hc, hw, hf, hz, hb2, hs1, hs2, ⟨⟨jv', q1, q2, q3⟩, ho3⟩, ho⟩)
  · exact ⟨⟨_, he⟩, Only.of_none hb, steps, all, F, hj.below hb, .inl ⟨rfl, rfl⟩⟩
  · have hJ : ∀ q, F q → ¬ (q = jb ∨ jv.ownBlock = some q) := fun q hq h => by
      rcases h with h | h
      · exact h2 (h ▸ hq)
      · exact (k3 q h).1 hq
    have hz2 := hb2.size
    have hz3 := ho3.size
    have hF'b : ¬ F' b := by obtain ⟨_, _, _, _, _, _, _, h9⟩ := hw; exact h9
    have hon : Only (fun q => n1 ≤ q) w w' := ((Only.of_none (S := fun q => n1 ≤ q) hb2).trans (ho3.mono (S' := fun q => n1 ≤ q) (fun q _ h => by
      rcases h with h | h
      · omega
      · exact (k3 q h).2.2.2)) (fun _ _ h => h)).trans (ho.mono (S' := fun q => n1 ≤ q) (fun q _ h => by omega)) (fun _ _ h => h)
    refine ⟨⟨_, he⟩, hon, steps ++ [⟨sv, tv, all⟩], all ++ newUnits v.batches l, fun q => F q ∨ (F' q ∧ q < w'.heap.size), ⟨?_, ?_, h3, ?_, h5, h6, ⟨jv', q1.only ho (fun h => h3 h), ?_, ?_⟩, ?_⟩, .inr ⟨hfit, _, rfl, rfl, rfl⟩⟩
    · exact hw.tight.wider (fun q hq => .inr hq) (fun h => h.elim hFb (fun h => hF'b h.1))
    · rintro (h | ⟨h, _⟩)
      · exact h2 h
      · rcases hf jb h with h9 | h9
        · exact h2 h9
        · omega
    · rintro q (h | ⟨_, h⟩)
      · have := h4 q h; have := hon.size; omega
      · exact h
    · rw [List.length_append, stepVals_append]
      exact q2.only ho (fun q hq h => by
        have h9 : q = b := h
        rcases q3 q hq with h10 | h10
        · exact (k3 q h10).2.1 h9
        · omega)
    · intro q hq
      rcases q3 q hq with h10 | h10
      · have hql := k2.lt q h10
        refine ⟨?_, (k3 q h10).2⟩
        rintro (h | ⟨h, _⟩)
        · exact (k3 q h10).1 h
        · rcases hf q h with h9 | h9
          · exact (k3 q h10).1 h9
          · omega
      · refine ⟨?_, by omega, by omega, by omega⟩
        rintro (h | ⟨h, _⟩)
        · have := h4 q h; omega
        · rcases hf q h with h9 | h9
          · have := h4 q h9; omega
          · omega
    · intro s hs
      rcases List.mem_append.1 hs with h | h
      · exact ⟨(h8 s h).1.along hb2 ho3 ho hJ hFb (fun q hq => .inl hq), (h8 s h).2.along hb2 ho3 ho hJ hFb (fun q hq => .inl hq)⟩
      · rw [List.mem_singleton.1 h]
        exact ⟨hs1.along (Below.refl _ _) ho3 ho hJ hFb (fun q hq => .inl hq), hs2.along (Below.refl _ _) ho3 ho hJ hFb (fun q hq => .inl hq)⟩
end Go.Proofs.Ytedcljahcedpjaa
/- A journal of what a window had: Back. -/
namespace Go.Proofs.Ytedcljahcedpjaa
open Go.RowKit Go.Afx

@[go_sem] theorem meth_back (ps pt : Option Addr) (ns cs nt ct b : Nat) (w : World) : (method 256 76 (.agg #[.slice ps ns cs, .slice pt nt ct, .pointer (some ⟨b, 0, none⟩)]) "Back").run Try.prog w = .ok (100, .agg #[.slice ps ns cs, .slice pt nt ct, .pointer (some ⟨b, 0, none⟩)]) w := by kernel_rfl
set_option maxRecDepth 100000 in
set_option maxHeartbeats 2000000 in
theorem jback_any {n1 : Nat} {w : World} {b jb : Nat} {F : Nat → Prop} {v : WinV} {cl : List ColV} {l : List StepV} {all : List UnitA} (h : JourSt n1 w b jb F v cl l all) (hn1 : n1 ≤ w.heap.size) (m : Nat) (hm : m ≤ l.length) (hl : l.length ≤ 1000) :
    Calls Try.prog 21 #[.pointer (some ⟨jb, 0, none⟩), .int .i64 m] w fun e w' => ∃ (c : Nat) (l' : List StepV) (all' : List UnitA), e = .returned (.int .i64 c) ∧ l'.length = m ∧ (∀ k, k ≤ m → atJ l' all' k = atJ l all k) ∧ JourSt n1 w' b jb F v cl l' all' ∧ Only (fun q => n1 ≤ q) w w' := by
  have hmx : max (m : Int) 0 = (m : Int) := by omega
  have H0 := Lib.hid h
  clear h
  go_enter Try.func21, Try.ntmps21
  go_wp2
  clear hmx
  go_loopw [5] (fun n wr => ∃ (c : Nat) (l' : List StepV) (all' : List UnitA), n = .int .i64 c ∧ c + l'.length = l.length ∧ m ≤ l'.length ∧ (∀ k, k ≤ m → atJ l' all' k = atJ l all k) ∧ JourSt n1 wr b jb F v cl l' all' ∧ Only (fun q => n1 ≤ q) w wr) (fun n _ => l.length - (intOf n).toNat)
  case atStart => exact ⟨0, l, all, rfl, by omega, hm, fun _ _ => rfl, H0.out, Only.refl _ _⟩
  case round =>
    obtain ⟨c, l', all', rfl, hc, hm', hat, hj, hon⟩ := hrel
    have HAT := Lib.hid hat
    have HJ := Lib.hid hj
    have HON := Lib.hid hon
    have HMK := Lib.hid (mark_any hj)
    by_cases hml : m < l'.length
    · obtain ⟨init, s, rfl⟩ : ∃ init s, l' = init ++ [s] := by
        rcases List.eq_nil_or_concat l' with h | ⟨a, x, h⟩
        · rw [h] at hml; simp at hml
        · exact ⟨a, x, by rw [h]; simp⟩
      have hil : (init ++ [s]).length = init.length + 1 := by simp
      rw [hil] at hml hm' hc HMK
      obtain ⟨h1, h2, h3, h4, h5, h6, ⟨jv, k1, k2, k3⟩, h8⟩ := hj
      rw [hil] at k2
      obtain ⟨g, off, cap, hjv, hc1, hc2, _, hgl, hcs⟩ := (k2.sl (B := fun _ => True) (fun _ _ => trivial)).place (by omega)
      subst hjv
      unfold maxLen at hc2
      have c0 : wr.cell? ⟨jb, 0, none⟩ = some (.slice (some ⟨g, off, none⟩) (init.length + 1) cap) := k1.cell 0
      have hf : ∀ i, wr.frozen? ⟨jb, i, none⟩ = false := k1.frozen
      have hlt := k1.lt
      have cs : wr.cell? ⟨g, off + init.length, none⟩ = some (backV s.sv s.tv b) := by
        rw [hcs init.length (by rw [stepVals_length]; simp), stepVals_append, List.getElem?_append_right (by rw [stepVals_length]; exact Nat.le_refl _), stepVals_length]
        simp [stepVals]
      have hss := h8 s (by simp)
      obtain ⟨us, hus, hu⟩ := hss.1
      obtain ⟨ut, hut, ht⟩ := hss.2
      obtain ⟨ssv, stv, sall⟩ := s
      simp only at cs hus hut hu ht
      obtain ⟨ps, cps, rfl, _, _⟩ := hu.1.form
      obtain ⟨pt, cpt, rfl, _, _⟩ := ht.1.form
      unfold backV at cs
      have K1 := Lib.hid k1
      have K2 := Lib.hid k2
      have K3 := Lib.hid k3
      have H1 := Lib.hid h1
      have H2 := Lib.hid h2
      have H3 := Lib.hid h3
      have H4 := Lib.hid h4
      have H8 := Lib.hid h8
      have HU := Lib.hid hss
      have hni : (init.length : Int) + 1 - 1 = (init.length : Int) := by omega
      have hgj : Hid (g ≠ jb) := (k3 g rfl).2.2.1
      clear hus hu hut ht hss k1 k2 k3 h1 h2 h3 h4 h8 hcs hat hon
      go_wp2_with (go_at_call 20; refine HMK.out.mono ?_; clear HMK; rintro e w2 ⟨rfl, rfl⟩)
      obtain ⟨sv0, tv0, cv, hkb, _, _, hcv, hFb⟩ := H1.out
      have hkb1 := hkb.setOther (p := ⟨jb, 0, none⟩) (fun h => H3.out h.symm) (.slice (some ⟨g, off, none⟩) init.length cap)
      refine (back_any _ b v sv0 tv0 cv ps us.length cps pt ut.length cpt hkb1).mono ?_
      rintro e w3 ⟨rfl, hk3, ho3⟩
      have hoj : Only (fun q => q = jb ∨ q = b) wr (wr.setCell ⟨jb, 0, none⟩ (.slice (some ⟨g, off, none⟩) init.length cap)) := (Only.refl (fun q => q = jb ∨ q = b) wr).setCell (p := ⟨jb, 0, none⟩) (fun _ => .inl rfl) _
      have hall : Only (fun q => q = jb ∨ q = b) wr w3 := hoj.trans (ho3.mono (S' := fun q => q = jb ∨ q = b) (fun q _ h => .inr h)) (fun _ _ h => h)
      have hFo : ∀ q, F q → ¬ (q = jb ∨ q = b) := fun q hq h => by
        rcases h with h | h
        · exact H2.out (h ▸ hq)
        · exact hFb (h ▸ hq)
      have hgp := K3.out g rfl
      have hjo : JourSt n1 w3 b jb F v cl init sall := by
        refine ⟨⟨_, _, cv, hk3, HU.out.1.only hall hFo, HU.out.2.only hall hFo, hcv.only hall hFo, hFb⟩, H2.out, H3.out, fun q hq => Nat.lt_of_lt_of_le (H4.out q hq) hall.size, h5, h6, ⟨.slice (some ⟨g, off, none⟩) init.length cap, (K1.out.set 0 _).only ho3 (fun h => H3.out h), ?_, fun q hq => ?_⟩, fun s hs => ⟨(H8.out s (List.mem_append_left _ hs)).1.only hall hFo, (H8.out s (List.mem_append_left _ hs)).2.only hall hFo⟩⟩
        · have h1 := ((K2.out.take (m := init.length) (by omega)).setOther (p := ⟨jb, 0, none⟩) (fun h => hgj.out (Option.some.inj h)) (.slice (some ⟨g, off, none⟩) init.length cap)).only ho3 (fun q hq h => by
            have h2 : g = q := Option.some.inj hq
            have h3 : q = b := h
            exact hgp.2.1 (h2.trans h3))
          rw [stepVals_append, Nat.mul_one, List.take_left' (by rw [stepVals_length])] at h1
          exact h1
        · have h2 : g = q := Option.some.inj hq
          rw [← h2]; exact hgp
      have HJO := Lib.hid hjo
      have hat2 : ∀ k, k ≤ m → atJ init sall k = atJ l all k := fun k hk => by
        rw [← HAT.out k hk, atJ_push init ⟨.slice ps us.length cps, .slice pt ut.length cpt, sall⟩ all' (by omega)]
      have HAT2 := Lib.hid hat2
      have hon2 : Only (fun q => n1 ≤ q) w w3 := HON.out.trans (hall.mono (S' := fun q => n1 ≤ q) (fun q _ h => by omega)) (fun _ _ h => h)
      have HON2 := Lib.hid hon2
      clear hkb hkb1 hcv hFb hk3 ho3 hoj hall hFo hgp hjo hat2 hon2
      go_wp2
      go_roundw
      case rel => exact ⟨c + 1, init, sall, by go_num, by omega, by omega, HAT2.out, HJO.out, HON2.out⟩
      case measure => (simp [intOf]) <;> omega
    · obtain rfl : m = l'.length := by omega
      clear hat hj hon
      go_wp2_with (go_at_call 20; refine HMK.out.mono ?_; clear HMK; rintro e w2 ⟨rfl, rfl⟩)
      go_ret
      exact ⟨c, l', all', rfl, rfl, HAT.out, HJ.out, HON.out⟩
end Go.Proofs.Ytedcljahcedpjaa
/- WindowBack: its walk. -/
namespace Go.Proofs.Ytedcljahcedpjaa
open Go.RowKit Go.Afx

def lay2 (v : WinV) (all : List UnitA) : List UInt8 := layU (seenW v.size.toNat v.slide.toNat all) ++ layU (stagW v.slide.toNat all)
/-- What the law's loop keeps. -/
def BackSt (w1 wr : World) (b jb : Nat) (v : WinV) (cl : List ColV) (k : Nat) (s : ByteArray) (mark : Nat) : Prop :=
  ∃ steps all F allm, JourSt w1.heap.size wr b jb F v cl steps all ∧ Below w1.heap.size w1 wr ∧ steps.length ≤ k ∧ all.length ≤ k * 400 ∧ (∀ u ∈ all, SmallU u) ∧ (∀ u ∈ allm, SmallU u) ∧ s = bs (lay2 v allm) ∧ mark ≤ steps.length ∧ atJ steps all mark = allm ∧ atJ steps all 0 = []
theorem BackSt.below {w1 wr w' : World} {b jb : Nat} {v : WinV} {cl : List ColV} {k : Nat} {s : ByteArray} {mark : Nat} (h : BackSt w1 wr b jb v cl k s mark) (hb : Below wr.heap.size wr w') : BackSt w1 w' b jb v cl k s mark := by
  obtain ⟨steps, all, F, allm, h1, h2, h3⟩ := h
  exact ⟨steps, all, F, allm, h1.below hb, h2.trans (hb.mono h2.size), h3⟩
theorem BackSt.low {w1 wr : World} {b jb : Nat} {v : WinV} {cl : List ColV} {k : Nat} {s : ByteArray} {mark : Nat} (h : BackSt w1 wr b jb v cl k s mark) : Below w1.heap.size w1 wr := by
  obtain ⟨steps, all, F, allm, h1, h2, h3⟩ := h
  exact h2
theorem BackSt.remark {w1 wr : World} {b jb : Nat} {v : WinV} {cl : List ColV} {k : Nat} {s : ByteArray} {mark : Nat} (h : BackSt w1 wr b jb v cl k s mark) (hr : rightW v = true) :
    Calls Try.prog 18 #[.pointer (some ⟨b, 0, none⟩)] wr fun e w' => ∃ (s' : ByteArray) (n : Nat), e = .returned (.string s') ∧ BackSt w1 w' b jb v cl k s' n ∧
      (∀ w2, Below w'.heap.size w' w2 → Calls Try.prog 20 #[.pointer (some ⟨jb, 0, none⟩)] w2 fun e w3 => e = .returned (.int .i64 n) ∧ w2 = w3) := by
  obtain ⟨z1, z2, l1, l2⟩ := rightW_bounds hr
  obtain ⟨steps, all, F, allm, h1, h2, h3, h4, h5, h6, h7, h8, h9, h10⟩ := h
  have hj := h1
  obtain ⟨hw, _⟩ := h1
  refine (wbytes_any wr b F v cl all hw h5 z2 l1 l2).mono ?_
  rintro e w' ⟨he, hb⟩
  exact ⟨_, steps.length, he, ⟨steps, all, F, all, hj.below hb, h2.trans (hb.mono h2.size), h3, h4, h5, h5, rfl, Nat.le_refl _, atJ_end _ _, h10⟩, fun w2 hb2 => mark_any ((hj.below hb).below hb2)⟩
set_option maxRecDepth 100000 in
theorem BackSt.put {w1 wr : World} {b jb : Nat} {v : WinV} {cl : List ColV} {k : Nat} {s : ByteArray} {mark : Nat} (h : BackSt w1 wr b jb v cl k s mark) (hr : rightW v = true) (hk : k ≤ 100) (hcl : cl.length ≤ 8)
    (lv : Value) (l : List BatV) (hl : BatAt wr (fun q => q < w1.heap.size) lv l) (hg : l.length ≤ 10 ∧ ∀ x ∈ l, BatOk x) (hrd : ∀ x ∈ l, x.read) :
    Calls Try.prog 12 #[.pointer (some ⟨b, 0, none⟩), .pointer (some ⟨jb, 0, none⟩), lv] wr fun e w' => (∃ x, e = .returned x) ∧ BackSt w1 w' b jb v cl (k + 1) s mark := by
  have hrt := rightW_bounds hr
  obtain ⟨steps, all, F, allm, h1, h2, h3, h4, h5, h6, h7, h8, h9, h10⟩ := h
  refine (jput_any h1 hrt h2.size _ lv l hl (fun _ h => h) (fun x hx => ⟨(hg.2 x hx).1, fun r hr => by
    have h1 := (hg.2 x hx).2 r hr
    unfold greatB at h1
    rw [Bool.or_eq_false_iff, decide_eq_false_iff_not] at h1
    omega⟩) (by omega) (by omega) (by omega)).mono ?_
  rintro e w' ⟨he, hon, steps', all', F', hj, hd⟩
  have hb : Below w1.heap.size w1 w' := h2.trans (hon.below h2.size (fun q hq => hq))
  rcases hd with ⟨rfl, rfl⟩ | ⟨hf, st, hst, rfl, rfl⟩
  · exact ⟨he, steps', all', F', allm, hj, hb, by omega, by omega, h5, h6, h7, h8, h9, h10⟩
  · have hnl : (newUnits v.batches l).length ≤ 400 := by
      have h3 : ∀ (m : List BatV), (∀ x ∈ m, x.rows.length ≤ 40) → (newUnits v.batches m).length ≤ m.length * 40 := by
        intro m
        induction m with
        | nil => intro _; simp [newUnits]
        | cons x m ih =>
          intro hx
          rw [show x :: m = [x] ++ m from rfl, newUnits_append, newUnits_one, List.length_append]
          have h4 := ih (fun y hy => hx y (by simp [hy]))
          have h5 := hx x (by simp)
          have h6 : (unitsOf v.batches (x.rows.map RowV.l)).length ≤ 40 := by
            unfold unitsOf
            split
            · simp
            · simpa using h5
          simp only [List.length_append, List.length_cons, List.length_nil]
          omega
      have h4 := h3 l (fun x hx => (hg.2 x hx).1)
      have := hg.1
      omega
    refine ⟨he, _, _, F', allm, hj, hb, by simp; omega, by rw [List.length_append]; omega, fun u hu => ?_, h6, h7, by simp; omega, ?_, ?_⟩
    · rcases List.mem_append.1 hu with h | h
      · exact h5 u h
      · exact small_units hf hcl hrd u h
    · rw [atJ_push _ _ _ h8, hst, h9]
    · rw [atJ_push _ _ _ (Nat.zero_le _), hst, h10]
/-- What is told when all is taken back. -/
def Bare (w3 : World) (b : Nat) : Prop := ∀ w4, Below w3.heap.size w3 w4 →
  (Calls Try.prog 16 #[.pointer (some ⟨b, 0, none⟩)] w4 fun e w' => e = .returned (.int .i64 0) ∧ w4 = w') ∧
  (Calls Try.prog 17 #[.pointer (some ⟨b, 0, none⟩)] w4 fun e w' => e = .returned (.int .i64 0) ∧ w4 = w') ∧
  (Calls Try.prog 15 #[.pointer (some ⟨b, 0, none⟩)] w4 fun e w' => ∃ p c, e = .returned (.slice p 0 c) ∧ Below w4.heap.size w4 w')
theorem BackSt.back {w1 wr : World} {b jb : Nat} {v : WinV} {cl : List ColV} {k : Nat} {s : ByteArray} {mark : Nat} (h : BackSt w1 wr b jb v cl k s mark) (hr : rightW v = true) (hk : k ≤ 100) :
    Calls Try.prog 21 #[.pointer (some ⟨jb, 0, none⟩), .int .i64 mark] wr fun e w' => (∃ x, e = .returned x) ∧ Below w1.heap.size w1 w' ∧
      (Calls Try.prog 18 #[.pointer (some ⟨b, 0, none⟩)] w' fun e w3 => e = .returned (.string s) ∧ Below w'.heap.size w' w3) ∧
      (∀ w2, Below w'.heap.size w' w2 → Calls Try.prog 21 #[.pointer (some ⟨jb, 0, none⟩), .int .i64 0] w2 fun e w3 => (∃ x, e = .returned x) ∧ Below w1.heap.size w1 w3 ∧ Bare w3 b) := by
  obtain ⟨z1, z2, l1, l2⟩ := rightW_bounds hr
  obtain ⟨steps, all, F, allm, h1, h2, h3, h4, h5, h6, h7, h8, h9, h10⟩ := h
  refine (jback_any h1 h2.size mark h8 (by omega)).mono ?_
  rintro e w' ⟨c, l', all', he, hl', hat, hj, hon⟩
  have hb : Below w1.heap.size w1 w' := h2.trans (hon.below h2.size (fun q hq => hq))
  have hall : all' = allm := by
    have h11 := hat mark (Nat.le_refl _)
    rw [h9, ← hl', atJ_end] at h11
    exact h11
  subst hall
  refine ⟨⟨_, he⟩, hb, ?_, fun w2 hb2 => ?_⟩
  · rw [h7]
    exact wbytes_any w' b F v cl all' hj.1 h6 z2 l1 l2
  · have hb3 := hb.trans (hb2.mono hb.size)
    refine (jback_any (hj.below hb2) hb3.size 0 (Nat.zero_le _) (by omega)).mono ?_
    rintro e w3 ⟨c2, l2, all2, he2, hl2, hat2, hj2, hon2⟩
    have hb4 : Below w1.heap.size w1 w3 := hb3.trans (hon2.below hb3.size (fun q hq => hq))
    have hall2 : all2 = [] := by
      have h11 := hat2 0 (Nat.le_refl _)
      have h12 := hat 0 (Nat.zero_le _)
      rw [h12, h10] at h11
      have h13 := atJ_end l2 all2
      rw [hl2] at h13
      exact h13.symm.trans h11
    subst hall2
    refine ⟨⟨_, he2⟩, hb4, fun w4 hb5 => ?_⟩
    have hw := hj2.1.below hb5
    refine ⟨?_, ?_, ?_⟩
    · have h := seen_any w4 b F v cl [] hw
      rw [show (seenW v.size.toNat v.slide.toNat []).length = 0 from by simp [seenW]] at h
      exact h
    · have h := staged_any w4 b F v cl [] hw
      rw [show (stagW v.slide.toNat []).length = 0 from by simp [stagW]] at h
      exact h
    · refine (rows_any w4 b F v cl [] hw (by simp) z2).mono ?_
      rintro e w5 ⟨lv, rws, he, hm, ha, hb⟩
      have hr0 : rws = [] := by
        rw [show seenW v.size.toNat v.slide.toNat [] = [] from by simp [seenW]] at hm
        simpa using hm
      subst hr0
      obtain ⟨p, cp, hlv, _, _⟩ := ha.1.form
      exact ⟨p, cp, by rw [he, hlv]; rfl, hb⟩
end Go.Proofs.Ytedcljahcedpjaa
/- WindowBack: its walk. -/
namespace Go.Proofs.Ytedcljahcedpjaa
open Go.RowKit Go.Afx
set_option maxRecDepth 100000 in
set_option maxHeartbeats 4000000 in
theorem wback_any (w : World) (v : WinV) (cv lv : Value) (cl : List ColV) (gs : List GrpV) (at_ : Int) (hc : Sl w (fun _ => True) 2 cv cl.length (colCells cl)) (hl : GrpsAt w (fun _ => True) lv gs) (hrd : ∀ g ∈ gs, ∀ x ∈ g.bats, x.read) :
    Calls Try.prog 5 #[v.agg, cv, lv, .int .i64 at_] w fun e w' => e = .returned (.bool true) ∧ Below w.heap.size w w' := by
  obtain ⟨w1, hw1⟩ : ∃ w1, w.alloc (.cells v.cells.toArray 23) = w1 := ⟨_, rfl⟩
  have b1 : Below w.heap.size w w1 := hw1 ▸ (Below.refl _ _).alloc (Nat.le_refl _) _
  have k1 : Blk w1 w.heap.size 23 v.cells := hw1 ▸ Blk.new w _ _
  have HGR := Lib.hid (wgreat_any w1 _ _ v cv lv cl gs (hc.below b1) (hl.below b1))
  unfold GreatOutW at HGR
  have HNW := Lib.hid (fun (hs : v.small) (hcl : cl.length ≤ 1000000) (w2 : World) (hb : Below w1.heap.size w1 w2) => newwin_any w2 _ v hs cv cl ((hc.below b1).below hb) hcl)
  unfold NewOutW at HNW
  have HL := Lib.hid (hl.below b1).tight
  have HRD := Lib.hid hrd
  have HB1 := Lib.hid b1
  have HBX : Hid (∀ W, Below w1.heap.size w1 W → Blk W w.heap.size 23 v.cells) := fun W hb => k1.below hb
  have HK := Lib.hid k1
  obtain ⟨pc, cc, rfl, _, _⟩ := hc.form
  obtain ⟨pl, cp, rfl, hcp1, hcp2⟩ := hl.1.form
  clear hc hl hrd b1 k1
  obtain ⟨nm, on, ow, bt, sz, sl⟩ := v
  simp only [WinV.agg, WinV.cells] at HGR HNW HBX HK hw1 ⊢
  obtain ⟨c0, c1, c2, c3, c4, c5⟩ := win_cells HK.out
  have hltw : w.heap.size < w1.heap.size := HK.out.lt
  have hw1' : w.alloc (.cells #[.string nm, .string on, .string ow, .bool bt, .int .i64 sz, .int .i64 sl] 23) = w1 := hw1
  clear hw1
  go_enter Try.func5, Try.ntmps5
  go_wp2_with (first
    | (go_at_call 6; refine HGR.out.mono ?_; clear HGR c0 c1 c2 c3 c4 c5; rintro e w2 ⟨gb, rfl, hb2, hgn⟩; have HB2 := Lib.hid hb2; have HGN := Lib.hid hgn; clear hb2 hgn; cases gb))
  · obtain ⟨hcl8, hgl, hsm, hgo⟩ := HGN.out (by first | rfl | trivial)
    have HNW2 := Lib.hid (HNW.out hsm (by omega))
    have HGO := Lib.hid hgo
    clear hsm hgo HGN HNW hw1'
    go_wp2_with (go_at_call 7; refine (wawake_any _).mono ?_; rintro e w3 ⟨rfl, hb3⟩; have HB3 := Lib.hid (HB2.out.trans (hb3.mono HB2.out.size)); obtain ⟨c0, c1, c2, c3, c4, c5⟩ := win_cells (HBX.out w3 HB3.out); have hl3 := (HBX.out w3 HB3.out).lt; clear hb3)
    refine (HNW2.out w3 HB3.out).mono ?_
    clear HNW2
    rintro e w4 (⟨hr, rfl, hb4⟩ | ⟨hr, b, F, rfl, hbw, hwin, hb4, hF⟩)
    · have HB4 := Lib.hid (HB3.out.trans (hb4.mono HB3.out.size))
      clear hb4 hr c0 c1 c2 c3 c4 c5 hl3
      go_wp2
      go_ret
      exact ⟨rfl, HB1.out.trans (HB4.out.mono HB1.out.size)⟩
    · have hb14 := HB3.out.trans (hb4.mono HB3.out.size)
      have HR := Lib.hid hr
      have hbl4 := hwin.lt
      have hwt := hwin.tight
      have hb1l : w1.heap.size ≤ b := Nat.le_trans HB3.out.size hbw
      obtain ⟨w5, hw5⟩ : ∃ w5, w4.alloc (.cells #[.slice none 0 0] 46) = w5 := ⟨_, rfl⟩
      have b5 : Below w4.heap.size w4 w5 := hw5 ▸ (Below.refl _ _).alloc (Nat.le_refl _) _
      have kj : Blk w5 w4.heap.size 46 [.slice none 0 0] := hw5 ▸ Blk.new w4 _ _
      have hz5 := b5.size
      have hst : BackSt w1 w5 b w4.heap.size ⟨nm, on, ow, bt, sz, sl⟩ cl 0 (bs (lay2 ⟨nm, on, ow, bt, sz, sl⟩ [])) 0 :=
        ⟨[], [], _, [], ⟨hwt.below b5, fun h => by omega, by omega, fun q hq => by omega, hb1l, hb14.size, ⟨_, kj, Own.nil _ _ _, by simp [Value.ownBlock]⟩, by simp⟩, hb14.trans (b5.mono hb14.size), by simp, by simp, by simp, by simp, rfl, by simp, rfl, rfl⟩
      have HST0 := Lib.hid hst
      have HBY0 := Lib.hid (hst.remark hr)
      obtain ⟨n, hn⟩ : ∃ n, gs.length = n := ⟨_, rfl⟩
      obtain ⟨ua, hua⟩ : ∃ ua : Nat, IntKind.u64.wrap at_ = (ua : Int) := ⟨(IntKind.u64.wrap at_).toNat, by rw [IntKind.wrap_u64]; omega⟩
      have hmod : (ua : Int) % ((n : Int) + 1) = ((ua % (n + 1) : Nat) : Int) := by simp
      have hkn : ua % (n + 1) ≤ n := by have := Nat.mod_lt ua (show 0 < n + 1 by omega); omega
      have hgl2 : n ≤ 20 := by omega
      rw [hn]
      have HN := Lib.hid hn
      generalize ua % (n + 1) = kq at *
      clear hb4 hr c0 c1 c2 c3 c4 c5 hl3 hwin hF hbw hb14 hwt b5 kj hst hn
      go_wp2_with fail
      clear hw5 hua hmod
      refine HBY0.out.mono ?_
      clear HBY0
      rintro e w6 ⟨s0, n0, rfl, hst6, _⟩
      have hn0 : n0 = 0 := by
        obtain ⟨steps, _, _, _, _, _, h3, _, _, _, _, h8, _⟩ := hst6
        omega
      subst hn0
      have HST6 := Lib.hid hst6
      clear hst6 HST0
      go_wp2
      go_loopw [13, 14, 15] (fun was mk i wr => ∃ (k m : Nat) (s : ByteArray), was = .string s ∧ mk = .int .i64 m ∧ i = .int .i64 k ∧ k ≤ n ∧ BackSt w1 wr b w4.heap.size ⟨nm, on, ow, bt, sz, sl⟩ cl k s m) (fun _ _ i _ => n - (intOf i).toNat)
      case atStart => exact ⟨0, 0, s0, rfl, rfl, rfl, Nat.zero_le _, HST6.out⟩
      case round =>
        obtain ⟨k, m, s, rfl, rfl, rfl, hk, hst⟩ := hrel
        have HST := Lib.hid hst
        clear HST6
        by_cases hkl : k < n
        · have hkg : k < gs.length := by rw [HN.out]; exact hkl
          have hlow := hst.low
          obtain ⟨g1, off1, cap1, hv1, hg1, e0⟩ := (HL.out.below hlow).at hkg
          rw [HN.out] at hv1
          cases hv1
          have hbt := HL.out.2 gs[k] (List.getElem_mem hkg)
          have hgo := HGO.out gs[k] (List.getElem_mem hkg)
          have hrd := HRD.out gs[k] (List.getElem_mem hkg)
          have HCELL : Hid (∀ W, Below w1.heap.size w1 W → W.cell? ⟨g1, off1 + k, none⟩ = some gs[k].v) := fun W h => by
            obtain ⟨g9, off9, cap9, hv9, _, h9⟩ := (HL.out.below h).at hkg
            rw [HN.out] at hv9
            cases hv9
            exact h9
          generalize gs[k] = g at *
          obtain ⟨gv, bats⟩ := g
          simp only [GrpOk] at e0 hbt hgo hrd HCELL
          obtain ⟨pb, cb, rfl, hcb1, hcb2⟩ := hbt.1.form
          have HBT := Lib.hid hbt
          have HG1 := Lib.hid hgo
          have HRD2 := Lib.hid hrd
          clear hbt hgo hrd hkg
          by_cases hkk : k = kq
          · have hkb : ((k : Int) == (kq : Int)) = true := beq_iff_eq.2 (by omega)
            have HRE := Lib.hid (hst.remark HR.out)
            clear hst hlow e0 hkk
            go_wp2_with fail
            refine HRE.out.mono ?_
            clear HRE
            rintro e x1 ⟨s2, m2, rfl, hs2, hmk⟩
            have HS2 := Lib.hid hs2
            have HMK := Lib.hid hmk
            clear hs2 hmk
            go_wp2_with fail
            refine (HMK.out _ (Below.refl _ _)).mono ?_
            clear HMK
            rintro e x2 ⟨rfl, rfl⟩
            have e0 := HCELL.out x1 HS2.out.low
            have HPUT := Lib.hid (HS2.out.put HR.out (by omega) hcl8 _ bats (HBT.out.below HS2.out.low) HG1.out HRD2.out)
            go_wp2_with fail
            refine HPUT.out.mono ?_
            clear HPUT
            rintro e x3 ⟨⟨xv, rfl⟩, hs3⟩
            have HS3 := Lib.hid hs3
            clear hs3
            go_wp2_with fail
            go_roundw
            case rel => exact ⟨k + 1, m2, s2, rfl, rfl, by go_num, by omega, HS3.out⟩
            case measure => (simp [intOf]) <;> omega
          · have hkb : ((k : Int) == (kq : Int)) = false := beq_eq_false_iff_ne.2 (by omega)
            have HPUT := Lib.hid (hst.put HR.out (by omega) hcl8 _ bats (HBT.out.below hlow) HG1.out HRD2.out)
            clear hst hlow hkk
            go_wp2_with fail
            refine HPUT.out.mono ?_
            clear HPUT
            rintro e x3 ⟨⟨xv, rfl⟩, hs3⟩
            have HS3 := Lib.hid hs3
            clear hs3
            go_wp2_with fail
            go_roundw
            case rel => exact ⟨k + 1, m, s, rfl, rfl, by go_num, by omega, HS3.out⟩
            case measure => (simp [intOf]) <;> omega
        · obtain rfl : k = n := by omega
          by_cases hkk : kq = k
          · have hkb : ((kq : Int) == (k : Int)) = true := beq_iff_eq.2 (by omega)
            have HRE := Lib.hid (hst.remark HR.out)
            clear hst hkk HST
            go_wp2_with fail
            refine HRE.out.mono ?_
            clear HRE
            rintro e x1 ⟨s2, m2, rfl, hs2, hmk⟩
            have HST := Lib.hid hs2
            have HMK := Lib.hid hmk
            clear hs2 hmk
            go_wp2_with fail
            refine (HMK.out _ (Below.refl _ _)).mono ?_
            clear HMK
            rintro e x2 ⟨rfl, rfl⟩
            obtain ⟨sq, hsq⟩ : ∃ sq, sq = s := ⟨_, rfl⟩
            clear hsq
            obtain ⟨s, rfl⟩ : ∃ s', s' = s2 := ⟨_, rfl⟩
            have HBK := Lib.hid (HST.out.back HR.out (by omega))
            go_wp2_with fail
            refine HBK.out.mono ?_
            clear HBK
            rintro e y1 ⟨⟨xv, rfl⟩, hy1, hby, hbk⟩
            have HY1 := Lib.hid hy1
            have HBY := Lib.hid hby
            have HBK2 := Lib.hid hbk
            have dsm : (!s.toList == s.toList) = false := by simp
            clear hy1 hby hbk
            go_wp2_with fail
            refine HBY.out.mono ?_
            clear HBY
            rintro e y2 ⟨rfl, hy2⟩
            have HY2 := Lib.hid hy2
            clear hy2
            go_wp2_with fail
            refine (HBK2.out _ HY2.out).mono ?_
            clear HBK2
            rintro e y3 ⟨⟨xv3, rfl⟩, hy3, hbare⟩
            have HY3 := Lib.hid hy3
            have HBR := Lib.hid hbare
            clear hy3 hbare
            go_wp2_with (first
              | (go_at_call 16; refine (HBR.out _ (Below.refl _ _)).1.mono ?_; rintro e y4 ⟨rfl, rfl⟩)
              | (go_at_call 17; refine (HBR.out _ (Below.refl _ _)).2.1.mono ?_; rintro e y4 ⟨rfl, rfl⟩)
              | (go_at_call 15; refine (HBR.out _ (Below.refl _ _)).2.2.mono ?_; rintro e y5 ⟨pz, cz, rfl, hy5⟩; have HY5 := Lib.hid hy5; clear hy5))
            go_ret
            exact ⟨rfl, HB1.out.trans ((HY3.out.trans (HY5.out.mono HY3.out.size)).mono HB1.out.size)⟩
          · have hkb : ((kq : Int) == (k : Int)) = false := beq_eq_false_iff_ne.2 (by omega)
            clear hst hkk
            have HBK := Lib.hid (HST.out.back HR.out (by omega))
            go_wp2_with fail
            refine HBK.out.mono ?_
            clear HBK
            rintro e y1 ⟨⟨xv, rfl⟩, hy1, hby, hbk⟩
            have HY1 := Lib.hid hy1
            have HBY := Lib.hid hby
            have HBK2 := Lib.hid hbk
            have dsm : (!s.toList == s.toList) = false := by simp
            clear hy1 hby hbk
            go_wp2_with fail
            refine HBY.out.mono ?_
            clear HBY
            rintro e y2 ⟨rfl, hy2⟩
            have HY2 := Lib.hid hy2
            clear hy2
            go_wp2_with fail
            refine (HBK2.out _ HY2.out).mono ?_
            clear HBK2
            rintro e y3 ⟨⟨xv3, rfl⟩, hy3, hbare⟩
            have HY3 := Lib.hid hy3
            have HBR := Lib.hid hbare
            clear hy3 hbare
            go_wp2_with (first
              | (go_at_call 16; refine (HBR.out _ (Below.refl _ _)).1.mono ?_; rintro e y4 ⟨rfl, rfl⟩)
              | (go_at_call 17; refine (HBR.out _ (Below.refl _ _)).2.1.mono ?_; rintro e y4 ⟨rfl, rfl⟩)
              | (go_at_call 15; refine (HBR.out _ (Below.refl _ _)).2.2.mono ?_; rintro e y5 ⟨pz, cz, rfl, hy5⟩; have HY5 := Lib.hid hy5; clear hy5))
            go_ret
            exact ⟨rfl, HB1.out.trans ((HY3.out.trans (HY5.out.mono HY3.out.size)).mono HB1.out.size)⟩
  · go_wp2_with (go_at_call 7; refine (wawake_any _).mono ?_; rintro e w4 ⟨rfl, hb4⟩)
    go_ret
    exact ⟨rfl, HB1.out.trans ((HB2.out.trans (hb4.mono HB2.out.size)).mono HB1.out.size)⟩
theorem wback_walk (v0 : Value) (v : WinV) (v1 : Value) (cl : List ColV) (v2 : Value) (gs : List GrpV) (at_ : Int) (_ : (Lit.int .i64 at_).wf = true) (w : World) (h0 : v0 = v.agg) (h1 : Sl w (fun _ => True) 2 v1 cl.length (colCells cl) ∧ ∀ c ∈ cl, c.read) (h2 : GrpsAt w (fun _ => True) v2 gs ∧ ∀ g ∈ gs, ∀ b ∈ g.bats, b.read) :
    Calls Try.prog 5 #[v0, v1, v2, .int .i64 at_] w fun e w' => e = .returned (.bool true) ∧ Below w.heap.size w w' := by
  subst h0
  exact wback_any w v v1 v2 cl gs at_ h1.1 h2.1 h2.2
end Go.Proofs.Ytedcljahcedpjaa
