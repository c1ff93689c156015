/- The document's schemas: Right, behind its first test. -/
import Derived.Test.YtlgohkdckdnmhaaDoorSchG
namespace Go.Proofs.YtlgohkdckdnmhaaDoor
open Go.RowKit Go.Afx

theorem all_snoc {α : Type} {f : α → Bool} {l : List α} {j k : Nat} (h : (l.take j).all f = true) (e : j = k) : (l.take k).all f = true := e ▸ h

set_option maxRecDepth 100000 in
set_option maxHeartbeats 4000000 in
theorem refright_main (w : World) (B : Nat → Prop) (s : SchV) (h : SchAt w B s) (hf : frontS s = true) :
    Calls Tryd.prog 47 #[s.agg] w fun e w' => e = .returned (.bool (rightS s)) ∧ Below w.heap.size w w' := by
  have hfp := (frontS_iff s).1 hf
  have hrf := rightS_front s
  rw [hf, Bool.true_and] at hrf
  obtain ⟨nm, cv, cl, iv, il, lim, prt, by_⟩ := s
  obtain ⟨h1, h2, h3, h4⟩ := h
  simp only at h1 h2 h3 h4 hfp hrf
  simp only [SchV.agg]
  generalize rightS ⟨nm, cv, cl, iv, il, lim, prt, by_⟩ = out at *
  obtain ⟨p1, p2, p3, p4, p5, p6, p7, p8, p9, p10, p11, p12⟩ := hfp
  have HRF := Lib.hid hrf
  obtain ⟨pc, cc, rfl, hcl, hcc⟩ := h1.form
  obtain ⟨pi, ci, rfl, hil, hci⟩ := h2.1.form
  have hal : Below w.heap.size w (w.alloc (.cells #[.string nm, .slice pc cl.length cc, .slice pi il.length ci, .int .i64 lim, .int .i64 prt, .int .i64 by_] 47)) := (Below.refl _ _).alloc (Nat.le_refl _) _
  have HBK : Hid (Blk (w.alloc (.cells #[.string nm, .slice pc cl.length cc, .slice pi il.length ci, .int .i64 lim, .int .i64 prt, .int .i64 by_] 47)) w.heap.size 47 [.string nm, .slice pc cl.length cc, .slice pi il.length ci, .int .i64 lim, .int .i64 prt, .int .i64 by_]) := Blk.new w _ _
  have HN := Lib.hid (refnamed (w.alloc (.cells #[.string nm, .slice pc cl.length cc, .slice pi il.length ci, .int .i64 lim, .int .i64 prt, .int .i64 by_] 47)) nm h4)
  have HAL := Lib.hid hal
  have H1 := Lib.hid (h1.below hal)
  have H2 := Lib.hid (h2.below hal)
  have H3 := Lib.hid h3
  have h0 : 0 < il.length := by omega
  obtain ⟨g, off, cap1, hv, hg, e0, e1⟩ := sl_idx (h2.below hal).1 h0
  cases hv
  have hfu : il[0].unique = true := by
    cases il with
    | nil => simp at h0
    | cons a t => exact p12
  have e2 : (w.alloc (.cells #[.string nm, .slice pc cl.length cc, .slice (some ⟨g, off, none⟩) il.length ci, .int .i64 lim, .int .i64 prt, .int .i64 by_] 47)).cell? ⟨g, off + 1, none⟩ = some (.bool true) := by rw [Nat.zero_mul, Nat.add_zero, hfu] at e1; exact e1
  have h0i : (0 : Int) < (il.length : Int) := by omega
  rw [p1] at HN
  have t1 : decide ((cl.length : Int) < 1) = false := decide_eq_false (by omega)
  have t2 : decide ((8 : Int) < (cl.length : Int)) = false := decide_eq_false (by omega)
  have t3 : decide ((il.length : Int) < 1) = false := decide_eq_false (by omega)
  have t4 : decide ((4 : Int) < (il.length : Int)) = false := decide_eq_false (by omega)
  have t5 : decide (lim < 1) = false := decide_eq_false (by omega)
  have t6 : decide (1000 < lim) = false := decide_eq_false (by omega)
  have t7 : decide (prt < 1) = false := decide_eq_false (by omega)
  have t8 : decide (8 < prt) = false := decide_eq_false (by omega)
  have t9 : decide (by_ < 0) = false := decide_eq_false (by omega)
  have t10 : decide ((cl.length : Int) ≤ by_) = false := decide_eq_false (by omega)
  clear h1 h2 h3 h4 hal hf hrf e0 e1 hfu p1 p12 h0
  go_enter Tryd.func47, Tryd.ntmps47
  go_wp2_with (go_at_call 51; refine HN.out.mono ?_; clear HN; rintro e w2 ⟨rfl, rfl⟩)
  generalize hw1 : w.alloc (.cells #[.string nm, .slice pc cl.length cc, .slice (some ⟨g, off, none⟩) il.length ci, .int .i64 lim, .int .i64 prt, .int .i64 by_] 47) = w1 at *
  clear hw1 e2 t1 t2 t3 t4 t5 t6 t7 t8 t9 t10
  go_loopw [4] (fun i wr => ∃ k : Nat, i = .int .i64 k ∧ k ≤ cl.length ∧ (cl.take k).all colOk = true ∧ unlikeGo sameCol (cl.take k) (cl.drop k) = unlikeB sameCol cl ∧ Below w1.heap.size w1 wr) (fun i _ => cl.length - (intOf i).toNat)
  case atStart => exact ⟨0, rfl, Nat.zero_le _, rfl, rfl, Below.refl _ _⟩
  case round =>
    obtain ⟨k, rfl, hk, ha, hu, hb⟩ := hrel
    obtain ⟨wo, rfl⟩ : ∃ wo : World, wo = wr := ⟨_, rfl⟩
    have HB := Lib.hid hb
    have HA := Lib.hid ha
    have HU := Lib.hid hu
    obtain ⟨x0, x1, x2, x3, x4, x5⟩ := sch_cells (HBK.out.below hb)
    clear ha hu
    by_cases hka : k < cl.length
    · obtain ⟨g1, off1, cap2, hv, hg1, e0, e1⟩ := sl_col (H1.out.below hb) hka
      cases hv
      have HX := Lib.hid (all_next colOk cl k hka HA.out)
      have HY := Lib.hid (all_not colOk cl k hka)
      have hrk := H3.out cl[k] (List.getElem_mem hka)
      have hstep := unlike_step sameCol cl k hka
      have HT := Lib.hid hstep.1
      have HFF := Lib.hid hstep.2
      clear hb hstep x0 x3 x4 x5
      generalize hce : cl[k] = c at *
      have HCE := Lib.hid hce
      obtain ⟨nm2, kd⟩ := c
      have hok : colOk ⟨nm2, kd⟩ = (namedB nm2 && (decide (1 ≤ kd) && decide (kd ≤ 3))) := rfl
      simp only at e0 e1 hrk
      have HN2 := Lib.hid (fun W => refnamed W nm2 hrk)
      generalize namedB nm2 = nb at *
      clear hrk hce
      by_cases hbad : nb = false ∨ kd < 1 ∨ 3 < kd
      · have e5 : out = false := by
          rw [HRF.out, HY.out (by
            rw [hok]
            rcases hbad with h | h | h
            · rw [h]; rfl
            · rw [decide_eq_false (by omega)]; simp
            · rw [decide_eq_false (p := kd ≤ 3) (by omega)]; simp)]
          rfl
        have E5 := Lib.hid e5
        clear HX HY hok e5
        rcases hbad with rfl | h | h
        · go_wp2_with (go_at_call 51; refine (HN2.out _).mono ?_; rintro e w2 ⟨rfl, rfl⟩)
          go_ret
          exact ⟨by rw [E5.out]; rfl, HAL.out.trans (HB.out.mono HAL.out.size)⟩
        · cases nb
          all_goals
            go_wp2_with (go_at_call 51; refine (HN2.out _).mono ?_; rintro e w2 ⟨rfl, rfl⟩)
            go_ret
            exact ⟨by rw [E5.out]; rfl, HAL.out.trans (HB.out.mono HAL.out.size)⟩
        · have h1' : ¬ kd < 1 := by omega
          cases nb
          all_goals
            go_wp2_with (go_at_call 51; refine (HN2.out _).mono ?_; rintro e w2 ⟨rfl, rfl⟩)
            go_ret
            exact ⟨by rw [E5.out]; rfl, HAL.out.trans (HB.out.mono HAL.out.size)⟩
      · have hnb : nb = true := by cases nb; exact absurd (.inl rfl) hbad; rfl
        subst hnb
        have hk1 : ¬ kd < 1 := fun h => hbad (.inr (.inl h))
        have hk3 : ¬ 3 < kd := fun h => hbad (.inr (.inr h))
        have HF := Lib.hid (HX.out (by rw [hok, decide_eq_true (by omega), decide_eq_true (by omega)]; rfl))
        clear HX HY hok hbad
        go_wp2_with (go_at_call 51; refine (HN2.out _).mono ?_; rintro e w2 ⟨rfl, rfl⟩)
        go_loopw [5] (fun i wr => ∃ j : Nat, i = .int .i64 j ∧ j ≤ k ∧ (cl.take j).all (fun b => !sameCol ⟨nm2, kd⟩ b) = true ∧ Below w1.heap.size w1 wr) (fun i _ => k - (intOf i).toNat)
        case atStart => exact ⟨0, rfl, Nat.zero_le _, rfl, HB.out⟩
        case round =>
          obtain ⟨j, rfl, hj, hall, hbq⟩ := hrel
          have HBQ := Lib.hid hbq
          have HALL := Lib.hid hall
          obtain ⟨y0, y1, y2, y3, y4, y5⟩ := sch_cells (HBK.out.below hbq)
          clear hall y0 y2 y3 y4 y5
          by_cases hjk : j < k
          · have hjl : j < cl.length := by omega
            have HNX := Lib.hid (all_next (fun b => !sameCol ⟨nm2, kd⟩ b) cl j hjl HALL.out)
            have HNF := Lib.hid (all_false (fun b => !sameCol ⟨nm2, kd⟩ b) cl j k hjk hjl)
            obtain ⟨g2, off2, cap3, hv2, hg2, f0, f1⟩ := sl_col (H1.out.below hbq) hjl
            cases hv2
            obtain ⟨g3, off3, cap4, hv3, hg3, r0, r1⟩ := sl_col (H1.out.below hbq) hka
            cases hv3
            rw [HCE.out] at r0
            clear hbq
            generalize cl[j] = b at *
            obtain ⟨nm3, kd3⟩ := b
            simp only at f0 r0
            have hsd : sameCol ⟨nm2, kd⟩ ⟨nm3, kd3⟩ = (nm3.toList == nm2.toList) := by rw [sameCol_comm]; rfl
            cases hs : (nm3.toList == nm2.toList)
            · have HF2 := Lib.hid (HNX.out (by rw [hsd, hs]; rfl))
              clear HNX HNF hsd
              go_wp2
              refine wp_region_lit_plan [] [(0, 0), (2, 0), (6, 0), (8, 0), (1, 1), (3, 0), (4, 0), (5, 1), (7, 1), (9, 0), (10, 0), (11, 1), (12, 0)] (fun _ => False) (by kernel_rfl) (by kernel_rfl) (fun c a d v w h => by cases d <;> exact h) ?_
              go_wp2_with (first
                | (refine plan_pure (v := _) (by rfl) (by rfl) (by rfl) (by intro _; go_simp; with_reducible rfl) ?_; simp only [List.setIfInBounds_toArray, List.set_cons_zero, List.set_cons_succ]; try go_bits) | (refine plan_read (v := _) (by rfl) (by rfl) (by rfl) (by go_simp; with_reducible rfl) ?_; simp only [List.setIfInBounds_toArray, List.set_cons_zero, List.set_cons_succ]; try go_bits) | (refine plan_readB (v := _) (by rfl) (by rfl) (by rfl) (by intro _ hag; unfold Agree at hag; go_simp; with_reducible rfl) ?_; simp only [List.setIfInBounds_toArray, List.set_cons_zero, List.set_cons_succ]; try go_bits) | (refine plan_skip0 (by rfl) (by rfl) (by rfl) ?_; simp only [List.setIfInBounds_toArray, List.set_cons_zero, List.set_cons_succ]; try go_bits) | (refine plan_skip1 (by rfl) (by rfl) (by rfl) ?_; simp only [List.setIfInBounds_toArray, List.set_cons_zero, List.set_cons_succ]; try go_bits) | (refine plan_skip2 (by rfl) (by rfl) (by rfl) ?_; simp only [List.setIfInBounds_toArray, List.set_cons_zero, List.set_cons_succ]; try go_bits) | (refine plan_skip4 (by rfl) (by rfl) (by rfl) ?_; simp only [List.setIfInBounds_toArray, List.set_cons_zero, List.set_cons_succ]; try go_bits) | (refine plan_any (by rfl) ?_) | (refine plan_keep (by rfl) ?_) | (refine plan_nil ?_) | (with_reducible refine And.intro (by first | assumption | exact Agree.refl _ _ | exact agree_drew _ _ | exact agree_alloc _ (by intro k hk; subst hk; first | omega | (simp; omega))) ?_) | (unfold Act.put; simp only [List.setIfInBounds_toArray, List.set_cons_zero, List.set_cons_succ]))
              exact ⟨⟨j + 1, by go_num, by omega, HF2.out, HBQ.out.drew⟩, by (simp [intOf]) <;> omega⟩
            · have e5 : out = false := by
                rw [HRF.out, ← HU.out, HFF.out (HNF.out (by rw [hsd, hs]; rfl))]
                simp
              have E5 := Lib.hid e5
              clear HNX HNF hsd e5
              go_wp2
              refine wp_region_lit_plan [] [(0, 0), (2, 0), (6, 0), (8, 0), (1, 1), (3, 0), (4, 0), (5, 1), (7, 1), (9, 0), (10, 0), (11, 1), (12, 0)] (fun _ => False) (by kernel_rfl) (by kernel_rfl) (fun c a d v w h => by cases d <;> exact h) ?_
              go_wp2_with (first
                | (refine plan_pure (v := _) (by rfl) (by rfl) (by rfl) (by intro _; go_simp; with_reducible rfl) ?_; simp only [List.setIfInBounds_toArray, List.set_cons_zero, List.set_cons_succ]; try go_bits) | (refine plan_read (v := _) (by rfl) (by rfl) (by rfl) (by go_simp; with_reducible rfl) ?_; simp only [List.setIfInBounds_toArray, List.set_cons_zero, List.set_cons_succ]; try go_bits) | (refine plan_readB (v := _) (by rfl) (by rfl) (by rfl) (by intro _ hag; unfold Agree at hag; go_simp; with_reducible rfl) ?_; simp only [List.setIfInBounds_toArray, List.set_cons_zero, List.set_cons_succ]; try go_bits) | (refine plan_skip0 (by rfl) (by rfl) (by rfl) ?_; simp only [List.setIfInBounds_toArray, List.set_cons_zero, List.set_cons_succ]; try go_bits) | (refine plan_skip1 (by rfl) (by rfl) (by rfl) ?_; simp only [List.setIfInBounds_toArray, List.set_cons_zero, List.set_cons_succ]; try go_bits) | (refine plan_skip2 (by rfl) (by rfl) (by rfl) ?_; simp only [List.setIfInBounds_toArray, List.set_cons_zero, List.set_cons_succ]; try go_bits) | (refine plan_skip4 (by rfl) (by rfl) (by rfl) ?_; simp only [List.setIfInBounds_toArray, List.set_cons_zero, List.set_cons_succ]; try go_bits) | (refine plan_any (by rfl) ?_) | (refine plan_keep (by rfl) ?_) | (refine plan_nil ?_) | (with_reducible refine And.intro (by first | assumption | exact Agree.refl _ _ | exact agree_drew _ _ | exact agree_alloc _ (by intro k hk; subst hk; first | omega | (simp; omega))) ?_) | (unfold Act.put; simp only [List.setIfInBounds_toArray, List.set_cons_zero, List.set_cons_succ]))
              go_ret
              exact ⟨by rw [E5.out]; rfl, HAL.out.trans (HBQ.out.drew.mono HAL.out.size)⟩
          · obtain rfl : j = k := by omega
            clear hbq
            go_wp2
            go_roundw
            case rel => exact ⟨j + 1, by go_num, by omega, HF.out, by rw [← HU.out, HT.out HALL.out], HBQ.out⟩
            case measure => (simp [intOf]) <;> omega
    · obtain rfl : k = cl.length := by omega
      have hca : cl.all colOk = true := by have := HA.out; rwa [List.take_length] at this
      have hcu : unlikeB sameCol cl = true := by rw [← HU.out, List.drop_length]; rfl
      have hr2 := HRF.out
      rw [hca, hcu, Bool.true_and, Bool.true_and] at hr2
      have HR2 := Lib.hid hr2
      clear hb hca hcu hr2 hka hk
      go_wp2
      go_loopw [6] (fun i wr => ∃ m : Nat, i = .int .i64 m ∧ m ≤ il.length ∧ (il.take m).all (placesB (cl.length : Int)) = true ∧ unlikeGo sameIdx (il.take m) (il.drop m) = unlikeB sameIdx il ∧ Below w1.heap.size w1 wr) (fun i _ => il.length - (intOf i).toNat)
      case atStart => exact ⟨0, rfl, Nat.zero_le _, rfl, rfl, HB.out⟩
      case round =>
        obtain ⟨m, rfl, hm, ha, hu, hb⟩ := hrel
        obtain ⟨wp, rfl⟩ : ∃ wp : World, wp = wr := ⟨_, rfl⟩
        have HBP := Lib.hid hb
        have HAP := Lib.hid ha
        have HUP := Lib.hid hu
        obtain ⟨z0, z1, z2, z3, z4, z5⟩ := sch_cells (HBK.out.below hb)
        clear ha hu z0 z1 z3 z4 z5 x0 x1 x2 x3 x4 x5
        by_cases hma : m < il.length
        · obtain ⟨g1, off1, cap2, hv, hg1, e0, e1⟩ := sl_idx (H2.out.below hb).1 hma
          cases hv
          have hxs := (H2.out.below hb).2 il[m] (List.getElem_mem hma)
          have HX := Lib.hid (all_next (placesB (cl.length : Int)) il m hma HAP.out)
          have HY := Lib.hid (all_not (placesB (cl.length : Int)) il m hma)
          have hstep := unlike_step sameIdx il m hma
          have HT := Lib.hid hstep.1
          have HFF := Lib.hid hstep.2
          have HXS0 := Lib.hid (H2.out.2 il[m] (List.getElem_mem hma))
          clear hb hstep e1
          generalize hxe : il[m] = x at *
          have HXE := Lib.hid hxe
          have hpl := places_len cl.length x
          obtain ⟨xv, xl, xu⟩ := x
          simp only at e0 hxs HXS0 hpl
          obtain ⟨px, cx, rfl, hcx1, hcx2⟩ := hxs.form
          have hpb : placesB (cl.length : Int) ⟨.slice px xl.length cx, xl, xu⟩ = (xl.all (placeOk (cl.length : Int)) && (decide (0 < xl.length) && unlikeB sameInt xl)) := rfl
          have HPB := Lib.hid hpb
          have HOF : Hid (placesB (cl.length : Int) ⟨.slice px xl.length cx, xl, xu⟩ = false → out = false) := fun h => by rw [HR2.out, HY.out h]; rfl
          generalize placesB (cl.length : Int) ⟨.slice px xl.length cx, xl, xu⟩ = pb at *
          clear hxe hpb HY hxs
          by_cases hx1 : xl.length < 1
          · have e5 := HOF.out (by rw [HPB.out, decide_eq_false (show ¬ 0 < xl.length by omega)]; simp)
            have E5 := Lib.hid e5
            have d1 : decide ((xl.length : Int) < 1) = true := decide_eq_true (by omega)
            clear e5 hpl
            go_wp2
            go_ret
            exact ⟨by rw [E5.out]; rfl, HAL.out.trans (HBP.out.mono HAL.out.size)⟩
          by_cases hx8 : 8 < xl.length
          · have e5 := HOF.out (by
              cases pb
              · rfl
              · have := hpl rfl; omega)
            have E5 := Lib.hid e5
            have d1 : decide ((xl.length : Int) < 1) = false := decide_eq_false (by omega)
            have d2 : decide ((8 : Int) < (xl.length : Int)) = true := decide_eq_true (by omega)
            clear e5 hpl
            go_wp2
            go_ret
            exact ⟨by rw [E5.out]; rfl, HAL.out.trans (HBP.out.mono HAL.out.size)⟩
          have d1 : decide ((xl.length : Int) < 1) = false := decide_eq_false (by omega)
          have d2 : decide ((8 : Int) < (xl.length : Int)) = false := decide_eq_false (by omega)
          have hxp : decide (0 < xl.length) = true := decide_eq_true (by omega)
          rw [hxp, Bool.true_and] at HPB
          clear hpl hxp
          go_wp2
          clear d1 d2
          go_loopw [8] (fun i wr => ∃ k : Nat, i = .int .i64 k ∧ k ≤ xl.length ∧ (xl.take k).all (placeOk (cl.length : Int)) = true ∧ unlikeGo sameInt (xl.take k) (xl.drop k) = unlikeB sameInt xl ∧ Below w1.heap.size w1 wr) (fun i _ => xl.length - (intOf i).toNat)
          case atStart => exact ⟨0, rfl, Nat.zero_le _, rfl, rfl, HBP.out⟩
          case round =>
            obtain ⟨k, rfl, hk, ha, hu, hb⟩ := hrel
            obtain ⟨wq, rfl⟩ : ∃ wq : World, wq = wr := ⟨_, rfl⟩
            have HBQ := Lib.hid hb
            have HAQ := Lib.hid ha
            have HUQ := Lib.hid hu
            clear ha hu
            by_cases hka : k < xl.length
            · obtain ⟨g2, off2, cap3, hv, hg2, f0⟩ := sl_int (HXS0.out.below hb) hka
              cases hv
              have HX2 := Lib.hid (all_next (placeOk (cl.length : Int)) xl k hka HAQ.out)
              have HY2 := Lib.hid (all_not (placeOk (cl.length : Int)) xl k hka)
              have hstep := unlike_step sameInt xl k hka
              have HT2 := Lib.hid hstep.1
              have HFF2 := Lib.hid hstep.2
              clear hb hstep
              generalize hce : xl[k] = c at *
              have HCE := Lib.hid hce
              have hok : placeOk (cl.length : Int) c = (decide (0 ≤ c) && decide (c ≤ (cl.length : Int) - 1)) := rfl
              clear hce
              by_cases hbad : c < 0 ∨ (cl.length : Int) ≤ c
              · have e5 := HOF.out (by
                  rw [HPB.out, HY2.out (by
                    rw [hok]
                    rcases hbad with h | h
                    · rw [decide_eq_false (by omega)]; rfl
                    · rw [decide_eq_false (p := c ≤ (cl.length : Int) - 1) (by omega)]; simp)]
                  rfl)
                have E5 := Lib.hid e5
                clear e5 HX2 HY2 hok
                rcases hbad with h | h
                · have d1 : decide (c < 0) = true := decide_eq_true h
                  go_wp2
                  go_ret
                  exact ⟨by rw [E5.out]; rfl, HAL.out.trans (HBQ.out.mono HAL.out.size)⟩
                · have d1 : decide (c < 0) = false := decide_eq_false (by omega)
                  have d2 : decide ((cl.length : Int) ≤ c) = true := decide_eq_true h
                  go_wp2
                  go_ret
                  exact ⟨by rw [E5.out]; rfl, HAL.out.trans (HBQ.out.mono HAL.out.size)⟩
              · have hc0 : ¬ c < 0 := fun h => hbad (.inl h)
                have hcn : ¬ (cl.length : Int) ≤ c := fun h => hbad (.inr h)
                have d1 : decide (c < 0) = false := decide_eq_false hc0
                have d2 : decide ((cl.length : Int) ≤ c) = false := decide_eq_false hcn
                have HF := Lib.hid (HX2.out (by rw [hok, decide_eq_true (by omega), decide_eq_true (by omega)]; rfl))
                clear HX2 HY2 hok hbad
                go_wp2
                clear d1 d2
                go_loopw [9] (fun i wr => ∃ j : Nat, i = .int .i64 j ∧ j ≤ k ∧ (xl.take j).all (fun b => !sameInt c b) = true ∧ Below w1.heap.size w1 wr) (fun i _ => k - (intOf i).toNat)
                case atStart => exact ⟨0, rfl, Nat.zero_le _, rfl, HBQ.out⟩
                case round =>
                  obtain ⟨j, rfl, hj, hall, hbq⟩ := hrel
                  have HBR := Lib.hid hbq
                  have HALL := Lib.hid hall
                  clear hall
                  by_cases hjk : j < k
                  · have hjl : j < xl.length := by omega
                    have HNX := Lib.hid (all_next (fun b => !sameInt c b) xl j hjl HALL.out)
                    have HNF := Lib.hid (all_false (fun b => !sameInt c b) xl j k hjk hjl)
                    obtain ⟨g3, off3, cap4, hv3, hg3, r0⟩ := sl_int (HXS0.out.below hbq) hjl
                    cases hv3
                    obtain ⟨g4, off4, cap5, hv4, hg4, s0⟩ := sl_int (HXS0.out.below hbq) hka
                    cases hv4
                    rw [HCE.out] at s0
                    clear hbq
                    generalize xl[j] = b at *
                    have hsd : sameInt c b = (b == c) := by rw [sameInt_comm]; rfl
                    cases hs : (b == c)
                    · have HF2 := Lib.hid (HNX.out (by rw [hsd, hs]; rfl))
                      clear HNX HNF hsd
                      go_wp2
                      refine wp_region_lit_plan [] [(0, 0), (1, 0), (2, 0), (4, 0), (5, 0), (6, 0), (3, 1), (7, 1), (8, 0)] (fun _ => False) (by kernel_rfl) (by kernel_rfl) (fun c a d v w h => by cases d <;> exact h) ?_
                      go_wp2_with (first
                        | (refine plan_pure (v := _) (by rfl) (by rfl) (by rfl) (by intro _; go_simp; with_reducible rfl) ?_; simp only [List.setIfInBounds_toArray, List.set_cons_zero, List.set_cons_succ]; try go_bits) | (refine plan_read (v := _) (by rfl) (by rfl) (by rfl) (by go_simp; with_reducible rfl) ?_; simp only [List.setIfInBounds_toArray, List.set_cons_zero, List.set_cons_succ]; try go_bits) | (refine plan_readB (v := _) (by rfl) (by rfl) (by rfl) (by intro _ hag; unfold Agree at hag; go_simp; with_reducible rfl) ?_; simp only [List.setIfInBounds_toArray, List.set_cons_zero, List.set_cons_succ]; try go_bits) | (refine plan_skip0 (by rfl) (by rfl) (by rfl) ?_; simp only [List.setIfInBounds_toArray, List.set_cons_zero, List.set_cons_succ]; try go_bits) | (refine plan_skip1 (by rfl) (by rfl) (by rfl) ?_; simp only [List.setIfInBounds_toArray, List.set_cons_zero, List.set_cons_succ]; try go_bits) | (refine plan_skip2 (by rfl) (by rfl) (by rfl) ?_; simp only [List.setIfInBounds_toArray, List.set_cons_zero, List.set_cons_succ]; try go_bits) | (refine plan_skip4 (by rfl) (by rfl) (by rfl) ?_; simp only [List.setIfInBounds_toArray, List.set_cons_zero, List.set_cons_succ]; try go_bits) | (refine plan_any (by rfl) ?_) | (refine plan_keep (by rfl) ?_) | (refine plan_nil ?_) | (with_reducible refine And.intro (by first | assumption | exact Agree.refl _ _ | exact agree_drew _ _ | exact agree_alloc _ (by intro k hk; subst hk; first | omega | (simp; omega))) ?_) | (unfold Act.put; simp only [List.setIfInBounds_toArray, List.set_cons_zero, List.set_cons_succ]))
                      exact ⟨⟨j + 1, by go_num, by omega, HF2.out, HBR.out.drew⟩, by (simp [intOf]) <;> omega⟩
                    · have e5 := HOF.out (by
                        rw [HPB.out, ← HUQ.out, HFF2.out (HNF.out (by rw [hsd, hs]; rfl))]
                        simp)
                      have E5 := Lib.hid e5
                      clear HNX HNF hsd e5
                      go_wp2
                      refine wp_region_lit_plan [] [(0, 0), (1, 0), (2, 0), (4, 0), (5, 0), (6, 0), (3, 1), (7, 1), (8, 0)] (fun _ => False) (by kernel_rfl) (by kernel_rfl) (fun c a d v w h => by cases d <;> exact h) ?_
                      go_wp2_with (first
                        | (refine plan_pure (v := _) (by rfl) (by rfl) (by rfl) (by intro _; go_simp; with_reducible rfl) ?_; simp only [List.setIfInBounds_toArray, List.set_cons_zero, List.set_cons_succ]; try go_bits) | (refine plan_read (v := _) (by rfl) (by rfl) (by rfl) (by go_simp; with_reducible rfl) ?_; simp only [List.setIfInBounds_toArray, List.set_cons_zero, List.set_cons_succ]; try go_bits) | (refine plan_readB (v := _) (by rfl) (by rfl) (by rfl) (by intro _ hag; unfold Agree at hag; go_simp; with_reducible rfl) ?_; simp only [List.setIfInBounds_toArray, List.set_cons_zero, List.set_cons_succ]; try go_bits) | (refine plan_skip0 (by rfl) (by rfl) (by rfl) ?_; simp only [List.setIfInBounds_toArray, List.set_cons_zero, List.set_cons_succ]; try go_bits) | (refine plan_skip1 (by rfl) (by rfl) (by rfl) ?_; simp only [List.setIfInBounds_toArray, List.set_cons_zero, List.set_cons_succ]; try go_bits) | (refine plan_skip2 (by rfl) (by rfl) (by rfl) ?_; simp only [List.setIfInBounds_toArray, List.set_cons_zero, List.set_cons_succ]; try go_bits) | (refine plan_skip4 (by rfl) (by rfl) (by rfl) ?_; simp only [List.setIfInBounds_toArray, List.set_cons_zero, List.set_cons_succ]; try go_bits) | (refine plan_any (by rfl) ?_) | (refine plan_keep (by rfl) ?_) | (refine plan_nil ?_) | (with_reducible refine And.intro (by first | assumption | exact Agree.refl _ _ | exact agree_drew _ _ | exact agree_alloc _ (by intro k hk; subst hk; first | omega | (simp; omega))) ?_) | (unfold Act.put; simp only [List.setIfInBounds_toArray, List.set_cons_zero, List.set_cons_succ]))
                      go_ret
                      exact ⟨by rw [E5.out]; rfl, HAL.out.trans (HBR.out.drew.mono HAL.out.size)⟩
                  · obtain rfl : j = k := by omega
                    clear hbq
                    go_wp2
                    go_roundw
                    case rel => exact ⟨j + 1, by go_num, by omega, HF.out, by rw [← HUQ.out, HT2.out HALL.out], HBR.out⟩
                    case measure => (simp [intOf]) <;> omega
            · obtain rfl : k = xl.length := by omega
              have hca : xl.all (placeOk (cl.length : Int)) = true := by have := HAQ.out; rwa [List.take_length] at this
              have hcu : unlikeB sameInt xl = true := by rw [← HUQ.out, List.drop_length]; rfl
              have hpbt : pb = true := by rw [HPB.out, hca, hcu]; rfl
              have HF := Lib.hid (HX.out hpbt)
              clear hb hca hcu hka hk hpbt HOF HPB HX
              go_wp2
              go_loopw [10] (fun i wr => ∃ j : Nat, i = .int .i64 j ∧ j ≤ m ∧ (il.take j).all (fun b => !sameIdx ⟨.slice px xl.length cx, xl, xu⟩ b) = true ∧ Below w1.heap.size w1 wr) (fun i _ => m - (intOf i).toNat)
              case atStart => exact ⟨0, rfl, Nat.zero_le _, rfl, HBQ.out⟩
              case round =>
                obtain ⟨j, rfl, hj, hall, hbq⟩ := hrel
                have HBR := Lib.hid hbq
                have HALL := Lib.hid hall
                obtain ⟨v0, v1, v2, v3, v4, v5⟩ := sch_cells (HBK.out.below hbq)
                clear hall v0 v1 v3 v4 v5
                by_cases hjm : j < m
                · have hjl : j < il.length := by omega
                  have HNX := Lib.hid (all_next (fun b => !sameIdx ⟨.slice px xl.length cx, xl, xu⟩ b) il j hjl HALL.out)
                  have HNF := Lib.hid (all_false (fun b => !sameIdx ⟨.slice px xl.length cx, xl, xu⟩ b) il j m hjm hjl)
                  obtain ⟨g3, off3, cap4, hv3, hg3, r0, r1⟩ := sl_idx (H2.out.below hbq).1 hjl
                  cases hv3
                  have hys := (H2.out.below hbq).2 il[j] (List.getElem_mem hjl)
                  generalize il[j] = b at *
                  obtain ⟨bv, bl, bu⟩ := b
                  simp only at r0 hys
                  have HS := Lib.hid (refsame wr B bv (.slice px xl.length cx) bl xl hys (HXS0.out.below hbq))
                  obtain ⟨pb2, cb2, rfl, _, _⟩ := hys.form
                  have hsd : sameIdx ⟨.slice px xl.length cx, xl, xu⟩ ⟨.slice pb2 bl.length cb2, bl, bu⟩ = (bl == xl) := by rw [sameIdx_comm]; rfl
                  clear hbq hys r1
                  cases hs : (bl == xl)
                  · rw [hs] at HS
                    have HF2 := Lib.hid (HNX.out (by rw [hsd, hs]; rfl))
                    clear HNX HNF hsd hs
                    go_wp2_with (go_at_call 83; refine HS.out.mono ?_; clear HS; rintro e w5 ⟨rfl, hb5⟩)
                    go_roundw
                    case rel => exact ⟨j + 1, by go_num, by omega, HF2.out, HBR.out.trans (hb5.mono HBR.out.size)⟩
                    case measure => (simp [intOf]) <;> omega
                  · rw [hs] at HS
                    have e5 : out = false := by
                      rw [HR2.out, ← HUP.out, HFF.out (HNF.out (by rw [hsd, hs]; rfl))]
                      simp
                    have E5 := Lib.hid e5
                    clear HNX HNF hsd hs e5
                    go_wp2_with (go_at_call 83; refine HS.out.mono ?_; clear HS; rintro e w5 ⟨rfl, hb5⟩)
                    go_ret
                    have h7 := HBR.out.trans (hb5.mono HBR.out.size)
                    exact ⟨by rw [E5.out]; rfl, HAL.out.trans (h7.mono HAL.out.size)⟩
                · obtain rfl : j = m := by omega
                  clear hbq
                  go_wp2
                  go_roundw
                  case rel => exact ⟨j + 1, by go_num, by omega, HF.out, by rw [← HUP.out, HT.out HALL.out], HBR.out⟩
                  case measure => (simp [intOf]) <;> omega
        · obtain rfl : m = il.length := by omega
          have hca : il.all (placesB (cl.length : Int)) = true := by have := HAP.out; rwa [List.take_length] at this
          have hcu : unlikeB sameIdx il = true := by rw [← HUP.out, List.drop_length]; rfl
          have e5 : out = true := by rw [HR2.out, hca, hcu]; rfl
          have E5 := Lib.hid e5
          clear hb hca hcu e5
          go_wp2
          go_ret
          exact ⟨by rw [E5.out]; rfl, HAL.out.trans (HBP.out.mono HAL.out.size)⟩

theorem refright_any (w : World) (B : Nat → Prop) (s : SchV) (h : SchAt w B s) :
    Calls Tryd.prog 47 #[s.agg] w fun e w' => e = .returned (.bool (rightS s)) ∧ Below w.heap.size w w' := by
  cases hf : frontS s
  · have : rightS s = false := by rw [rightS_front, hf]; rfl
    rw [this]
    exact refright_front w B s h hf
  · exact refright_main w B s h hf
end Go.Proofs.YtlgohkdckdnmhaaDoor
