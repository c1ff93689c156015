/- Whether rows fit columns: the law's fits; the stream's fits, Fits. -/
import Derived.Test.YtdhdphmehjkbnaaStA
namespace Go.Proofs.Ytdhdphmehjkbnaa
open Go.RowKit Go.Afx

set_option maxRecDepth 100000 in
set_option maxHeartbeats 1000000 in
theorem lawfits_any (w : World) (B B' : Nat → Prop) (cv v : Value) (cl : List ColV) (rows : List RowV) (hc : Sl w B 2 cv cl.length (colCells cl)) (hr : RowsAt w B' v rows) :
    Calls Try.prog 18 #[cv, v] w fun e w' => e = .returned (.bool (fitsB cl (rows.map RowV.l))) ∧ Below w.heap.size w w' := by
  obtain ⟨pc, cc, rfl, hcc1, hcc⟩ := hc.form
  obtain ⟨pr, cr, rfl, hcr1, hcr⟩ := hr.1.form
  have HC := Lib.hid hc
  have HR := Lib.hid hr
  have HE : Hid (fitsB cl (rows.map RowV.l) = (rows.all (fun r => fitB cl r.l) && decide ((rows.length : Int) ≤ 32))) := by
    show _ = _
    unfold fitsB
    rw [List.all_map, List.length_map]
    congr 1
    rw [Bool.eq_iff_iff]; simp; omega
  generalize fitsB cl (rows.map RowV.l) = out at *
  clear hc hr
  go_enter Try.func18, Try.ntmps18
  go_wp2
  go_loopw [5] (fun i wr => ∃ k : Nat, i = .int .i64 k ∧ k ≤ rows.length ∧ (rows.take k).all (fun r => fitB cl r.l) = true ∧ Below w.heap.size w wr) (fun i _ => rows.length - (intOf i).toNat)
  case atStart => exact ⟨0, rfl, Nat.zero_le _, rfl, Below.refl _ _⟩
  case round =>
    obtain ⟨k, rfl, hk, ha, hb⟩ := hrel
    have HB := Lib.hid hb
    have HA := Lib.hid ha
    clear ha
    by_cases hka : k < rows.length
    · obtain ⟨g, off, cap', hv, hck⟩ := (HR.out.below hb).at hka
      cases hv
      have hrow := (HR.out.below hb).2 rows[k] (List.getElem_mem hka)
      have HX := Lib.hid (all_next (fun r : RowV => fitB cl r.l) rows k hka HA.out)
      have HY := Lib.hid (all_not (fun r : RowV => fitB cl r.l) rows k hka)
      generalize rows[k] = r at *
      obtain ⟨rv, rl⟩ := r
      simp only at hck hrow HX HY
      have hf := reffits_any wr B B' ⟨⟨#[]⟩, .slice pc cl.length cc, cl, .slice none 0 0, [], 0, 0, 0⟩ rv rl (HC.out.below hb) hrow ⟨_, _, _, rfl⟩
      simp only [SchV.agg] at hf
      have HF := Lib.hid hf
      obtain ⟨pv, cv2, rfl, _, _⟩ := hrow.form
      generalize fitB cl rl = fb at *
      clear hb hf hrow
      cases fb
      · have HZ := Lib.hid (HY.out rfl)
        clear HX HY
        go_wp2_with (go_at_call 66; refine HF.out.mono ?_; clear HF; rintro e w2 ⟨rfl, hb2⟩)
        go_ret
        exact ⟨by rw [HE.out, HZ.out]; rfl, HB.out.trans (hb2.mono HB.out.size)⟩
      · have HZ := Lib.hid (HX.out rfl)
        clear HX HY
        go_wp2_with (go_at_call 66; refine HF.out.mono ?_; clear HF; rintro e w2 ⟨rfl, hb2⟩)
        go_roundw
        case rel => exact ⟨k + 1, by go_num, by omega, HZ.out, HB.out.trans (hb2.mono HB.out.size)⟩
        case measure => (simp [intOf]) <;> omega
    · obtain rfl : k = rows.length := by omega
      have e5 : out = decide ((rows.length : Int) ≤ 32) := by
        have := HA.out
        rw [List.take_length] at this
        rw [HE.out, this, Bool.true_and]
      have E5 := Lib.hid e5
      clear hb e5
      go_wp2
      go_ret
      exact ⟨by rw [E5.out]; rfl, HB.out⟩

set_option maxRecDepth 100000 in
set_option maxHeartbeats 1000000 in
theorem colfits_any (w : World) (B B' : Nat → Prop) (nm : ByteArray) (cv v : Value) (cl : List ColV) (rows : List RowV) (hc : Sl w B 2 cv cl.length (colCells cl)) (hr : RowsAt w B' v rows) (hrl : ∀ r ∈ rows, r.l.length ≤ 1000000) :
    Calls Try.prog 67 #[.agg #[.string nm, cv], v] w fun e w' => e = .returned (.bool (fitsB cl (rows.map RowV.l))) ∧ Below w.heap.size w w' := by
  obtain ⟨pc, cc, rfl, hcc1, hcc⟩ := hc.form
  obtain ⟨pr, cr, rfl, hcr1, hcr⟩ := hr.1.form
  have hal : Below w.heap.size w (w.alloc (.cells #[.string nm, .slice pc cl.length cc] 111)) := (Below.refl _ _).alloc (Nat.le_refl _) _
  have HBK : Hid (Blk (w.alloc (.cells #[.string nm, .slice pc cl.length cc] 111)) w.heap.size 111 [.string nm, .slice pc cl.length cc]) := Blk.new w _ _
  have HC := Lib.hid (hc.below hal)
  have HR := Lib.hid (hr.below hal)
  have HRL := Lib.hid hrl
  have HAL := Lib.hid hal
  have HE : Hid (fitsB cl (rows.map RowV.l) = (rows.all (fun r => fitB cl r.l) && decide ((rows.length : Int) ≤ 32))) := by
    show _ = _
    unfold fitsB
    rw [List.all_map, List.length_map]
    congr 1
    rw [Bool.eq_iff_iff]; simp; omega
  generalize fitsB cl (rows.map RowV.l) = out at *
  clear hc hr hal hrl
  go_enter Try.func67, Try.ntmps67
  go_wp2
  generalize hw1 : w.alloc (.cells #[.string nm, .slice pc cl.length cc] 111) = w1 at *
  clear hw1
  go_loopw [11] (fun i wr => ∃ k : Nat, i = .int .i64 k ∧ k ≤ rows.length ∧ (rows.take k).all (fun r => fitB cl r.l) = true ∧ Below w1.heap.size w1 wr) (fun i _ => rows.length - (intOf i).toNat)
  case atStart => exact ⟨0, rfl, Nat.zero_le _, rfl, Below.refl _ _⟩
  case round =>
    obtain ⟨k, rfl, hk, ha, hb⟩ := hrel
    obtain ⟨wo, rfl⟩ : ∃ wo : World, wo = wr := ⟨_, rfl⟩
    have HB := Lib.hid hb
    have HA := Lib.hid ha
    have hbk := HBK.out.below hb
    have b1 : wo.cell? ⟨w.heap.size, 1, none⟩ = some (.slice pc cl.length cc) := hbk.cell 1
    clear ha hbk
    by_cases hka : k < rows.length
    · obtain ⟨g, off, cap', hv, hck⟩ := (HR.out.below hb).at hka
      cases hv
      have hrow := (HR.out.below hb).2 rows[k] (List.getElem_mem hka)
      have hrowL := HRL.out rows[k] (List.getElem_mem hka)
      have hrow1 := HR.out.2 rows[k] (List.getElem_mem hka)
      have HX := Lib.hid (all_next (fun r : RowV => fitB cl r.l) rows k hka HA.out)
      have HY := Lib.hid (all_not (fun r : RowV => fitB cl r.l) rows k hka)
      generalize rows[k] = r at *
      obtain ⟨rv, rl⟩ := r
      simp only at hck hrow HX HY hrowL hrow1
      have HRT := Lib.hid (right_any wo _ rv rl hrow hrowL)
      have HROW := Lib.hid hrow1
      obtain ⟨pv, cv2, rfl, hpv1, hpv2⟩ := hrow.form
      have HFB : Hid (fitB cl rl = (decide (rl.length = cl.length) && rightAll rl && kindsB rl cl)) := rfl
      generalize fitB cl rl = fb at *
      clear hb hrow hrow1 hrowL
      by_cases hlen : rl.length = cl.length
      · have hli : (rl.length : Int) = (cl.length : Int) := by omega
        have d1 : ((rl.length : Int) != (cl.length : Int)) = false := by rw [hli]; simp
        rw [decide_eq_true hlen, Bool.true_and] at HFB
        have HLEN := Lib.hid hlen
        clear hlen hli
        generalize rightAll rl = ra at *
        cases ra
        · have HZ := Lib.hid (HY.out HFB.out)
          clear HX HY
          go_wp2_with (go_at_call 97; refine HRT.out.mono ?_; clear HRT; rintro e w2 ⟨rfl, hb2⟩)
          go_ret
          have h1 := HB.out.trans (hb2.mono HB.out.size)
          exact ⟨by rw [HE.out, HZ.out]; rfl, HAL.out.trans (h1.mono HAL.out.size)⟩
        · rw [Bool.true_and] at HFB
          go_wp2_with (go_at_call 97; refine HRT.out.mono ?_; clear HRT; rintro e w2 ⟨rfl, hb2⟩; have HB2 := Lib.hid (HB.out.trans (hb2.mono HB.out.size)); clear hb2)
          clear d1 b1
          go_loopw [29] (fun i wr => ∃ j : Nat, i = .int .i64 j ∧ j ≤ rl.length ∧ ((List.range rl.length).take j).all (kindAt rl cl) = true ∧ Below w1.heap.size w1 wr) (fun i _ => rl.length - (intOf i).toNat)
          case atStart => exact ⟨0, rfl, Nat.zero_le _, rfl, HB2.out⟩
          case round =>
            obtain ⟨j, rfl, hj, ha, hb⟩ := hrel
            have HBJ := Lib.hid hb
            have HAJ := Lib.hid ha
            have hbk := HBK.out.below hb
            have b1 : wr.cell? ⟨w.heap.size, 1, none⟩ = some (.slice pc cl.length cc) := hbk.cell 1
            have hbkl := hbk.lt
            clear ha hbk
            by_cases hja : j < rl.length
            · have hjc : j < cl.length := by rw [← HLEN.out]; exact hja
              obtain ⟨g1, off1, cap2, hv, hg1, e0, e1, e2⟩ := sl_av (HROW.out.below hb) hja
              cases hv
              obtain ⟨g2, off2, cap3, hv2, hg2, f0, f1⟩ := sl_col (HC.out.below hb) hjc
              cases hv2
              have HX2 := Lib.hid (kinds_next rl cl j hja HAJ.out)
              have HY2 := Lib.hid (kinds_not rl cl j hja)
              have hka2 := kindAt_eq rl cl j hja hjc
              rw [hka2] at HX2 HY2
              clear hb hka2 f0
              generalize rl[j] = x at *
              generalize cl[j] = c at *
              obtain ⟨xk, xn, xs⟩ := x
              obtain ⟨cn, ck⟩ := c
              simp only at e0 e1 e2 f1 HX2 HY2
              have hal2 : Below wr.heap.size wr (wr.alloc (.cells #[.int .i64 xk, .int .i64 xn, .string xs] 56)) := (Below.refl _ _).alloc (Nat.le_refl _) _
              have HBJ2 := Lib.hid (HBJ.out.trans (hal2.mono HBJ.out.size))
              clear hal2
              by_cases hxc : xk = ck
              · have HF := Lib.hid (HX2.out (by rw [hxc]; simp))
                subst hxc
                clear HX2 HY2
                go_wp2
                refine wp_region_lit_plan [] [(0, 0), (2, 0), (3, 0), (5, 0), (1, 1), (4, 1), (6, 0), (7, 0), (8, 1), (9, 0)] (fun _ => False) (by kernel_rfl) (by kernel_rfl) (fun c a d v w h => by cases d <;> exact h) ?_
                go_wp2_with (first
                  | (refine plan_pure (v := _) (by rfl) (by rfl) (by rfl) (by intro _; go_simp; with_reducible rfl) ?_; simp only [List.setIfInBounds_toArray, List.set_cons_zero, List.set_cons_succ]; try go_bits) | (refine plan_read (v := _) (by rfl) (by rfl) (by rfl) (by go_simp; with_reducible rfl) ?_; simp only [List.setIfInBounds_toArray, List.set_cons_zero, List.set_cons_succ]; try go_bits) | (refine plan_readB (v := _) (by rfl) (by rfl) (by rfl) (by intro _ hag; unfold Agree at hag; go_simp; with_reducible rfl) ?_; simp only [List.setIfInBounds_toArray, List.set_cons_zero, List.set_cons_succ]; try go_bits) | (refine plan_skip0 (by rfl) (by rfl) (by rfl) ?_; simp only [List.setIfInBounds_toArray, List.set_cons_zero, List.set_cons_succ]; try go_bits) | (refine plan_skip1 (by rfl) (by rfl) (by rfl) ?_; simp only [List.setIfInBounds_toArray, List.set_cons_zero, List.set_cons_succ]; try go_bits) | (refine plan_skip2 (by rfl) (by rfl) (by rfl) ?_; simp only [List.setIfInBounds_toArray, List.set_cons_zero, List.set_cons_succ]; try go_bits) | (refine plan_skip4 (by rfl) (by rfl) (by rfl) ?_; simp only [List.setIfInBounds_toArray, List.set_cons_zero, List.set_cons_succ]; try go_bits) | (refine plan_any (by rfl) ?_) | (refine plan_keep (by rfl) ?_) | (refine plan_nil ?_) | (with_reducible refine And.intro (by first | assumption | exact Agree.refl _ _ | exact agree_drew _ _ | exact agree_alloc _ (by intro k hk; subst hk; first | omega | (simp; omega))) ?_) | (unfold Act.put; simp only [List.setIfInBounds_toArray, List.set_cons_zero, List.set_cons_succ]))
                exact ⟨⟨j + 1, by go_num, by omega, HF.out, HBJ2.out.drew⟩, by (simp [intOf]) <;> omega⟩
              · have HZ := Lib.hid (HY.out (by rw [HFB.out, HY2.out (beq_eq_false_iff_ne.2 hxc)]))
                have d2 : (xk != ck) = true := bne_iff_ne.2 hxc
                have d3 : (xk == ck) = false := beq_eq_false_iff_ne.2 hxc
                clear HX2 HY2 hxc
                go_wp2
                refine wp_region_lit_plan [] [(0, 0), (2, 0), (3, 0), (5, 0), (1, 1), (4, 1), (6, 0), (7, 0), (8, 1), (9, 0)] (fun _ => False) (by kernel_rfl) (by kernel_rfl) (fun c a d v w h => by cases d <;> exact h) ?_
                go_wp2_with (first
                  | (refine plan_pure (v := _) (by rfl) (by rfl) (by rfl) (by intro _; go_simp; with_reducible rfl) ?_; simp only [List.setIfInBounds_toArray, List.set_cons_zero, List.set_cons_succ]; try go_bits) | (refine plan_read (v := _) (by rfl) (by rfl) (by rfl) (by go_simp; with_reducible rfl) ?_; simp only [List.setIfInBounds_toArray, List.set_cons_zero, List.set_cons_succ]; try go_bits) | (refine plan_readB (v := _) (by rfl) (by rfl) (by rfl) (by intro _ hag; unfold Agree at hag; go_simp; with_reducible rfl) ?_; simp only [List.setIfInBounds_toArray, List.set_cons_zero, List.set_cons_succ]; try go_bits) | (refine plan_skip0 (by rfl) (by rfl) (by rfl) ?_; simp only [List.setIfInBounds_toArray, List.set_cons_zero, List.set_cons_succ]; try go_bits) | (refine plan_skip1 (by rfl) (by rfl) (by rfl) ?_; simp only [List.setIfInBounds_toArray, List.set_cons_zero, List.set_cons_succ]; try go_bits) | (refine plan_skip2 (by rfl) (by rfl) (by rfl) ?_; simp only [List.setIfInBounds_toArray, List.set_cons_zero, List.set_cons_succ]; try go_bits) | (refine plan_skip4 (by rfl) (by rfl) (by rfl) ?_; simp only [List.setIfInBounds_toArray, List.set_cons_zero, List.set_cons_succ]; try go_bits) | (refine plan_any (by rfl) ?_) | (refine plan_keep (by rfl) ?_) | (refine plan_nil ?_) | (with_reducible refine And.intro (by first | assumption | exact Agree.refl _ _ | exact agree_drew _ _ | exact agree_alloc _ (by intro k hk; subst hk; first | omega | (simp; omega))) ?_) | (unfold Act.put; simp only [List.setIfInBounds_toArray, List.set_cons_zero, List.set_cons_succ]))
                go_ret
                exact ⟨by rw [HE.out, HZ.out]; rfl, HAL.out.trans (HBJ2.out.drew.mono HAL.out.size)⟩
            · obtain rfl : j = rl.length := by omega
              have e5 : fb = true := by
                have := HAJ.out
                rw [HFB.out]
                unfold kindsB
                have hl : (List.range rl.length).take rl.length = List.range rl.length := by rw [List.take_of_length_le (by simp)]
                rw [hl] at this
                exact this
              have HZ := Lib.hid (HX.out e5)
              clear hb e5
              go_wp2
              go_roundw
              case rel => exact ⟨k + 1, by go_num, by omega, HZ.out, HBJ.out⟩
              case measure => (simp [intOf]) <;> omega
      · have d1 : ((rl.length : Int) != (cl.length : Int)) = true := bne_iff_ne.2 (by omega)
        have d2 : ((rl.length : Int) == (cl.length : Int)) = false := beq_eq_false_iff_ne.2 (by omega)
        have HZ := Lib.hid (HY.out (by rw [HFB.out, decide_eq_false hlen]; rfl))
        clear HX HY
        go_wp2
        go_ret
        exact ⟨by rw [HE.out, HZ.out]; rfl, HAL.out.trans (HB.out.mono HAL.out.size)⟩
    · obtain rfl : k = rows.length := by omega
      have e5 : out = decide ((rows.length : Int) ≤ 32) := by
        have := HA.out
        rw [List.take_length] at this
        rw [HE.out, this, Bool.true_and]
      have E5 := Lib.hid e5
      clear hb e5
      go_wp2
      go_ret
      exact ⟨by rw [E5.out]; rfl, HAL.out.trans (HB.out.mono HAL.out.size)⟩

theorem stfits_any (w : World) (B B' : Nat → Prop) (cv v : Value) (cl : List ColV) (rows : List RowV) (hc : Sl w B 2 cv cl.length (colCells cl)) (hr : RowsAt w B' v rows) (hrl : ∀ r ∈ rows, r.l.length ≤ 1000000) :
    Calls Try.prog 22 #[cv, v] w fun e w' => e = .returned (.bool (fitsB cl (rows.map RowV.l))) ∧ Below w.heap.size w w' := by
  have HF := Lib.hid (colfits_any w B B' ⟨#[]⟩ cv v cl rows hc hr hrl)
  obtain ⟨pc, cc, rfl, hcc1, hcc⟩ := hc.form
  obtain ⟨pr, cr, rfl, hcr1, hcr⟩ := hr.1.form
  clear hc hr hrl
  generalize fitsB cl (rows.map RowV.l) = out at *
  go_enter Try.func22, Try.ntmps22
  go_wp2_with (go_at_call 67; refine HF.out.mono ?_; clear HF; rintro e w2 ⟨rfl, hb2⟩)
  go_ret
  exact ⟨rfl, hb2⟩
end Go.Proofs.Ytdhdphmehjkbnaa
