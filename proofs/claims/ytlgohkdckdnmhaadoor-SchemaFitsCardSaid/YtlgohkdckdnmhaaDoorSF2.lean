/- Contracts of the functions that the statement reaches, one behind the other. No condition beyond each theorem's own. -/
import Derived.Test.YtlgohkdckdnmhaaDoorMemB
import Derived.Test.YtlgohkdckdnmhaaDoorBase
import Derived.Test.YtlgohkdckdnmhaaDoorRows
import Derived.Lib.Hide
import Derived.Lib.SliceRun
import Derived.Laws.Externs
import Derived.Shelf.Spec.BitsCarry
import Derived.Lib.Mul64
import Derived.Laws.Bits64b
import Derived.Test.YtlgohkdckdnmhaaDoorSF1
/- The document's schemas: Right, behind its first test. -/
namespace Go.Proofs.YtlgohkdckdnmhaaDoor
open Go.RowKit Go.Afx

theorem all_snoc {α : Type} {f : α → Bool} {l : List α} {j k : Nat} (h : (l.take j).all f = true) (e : j = k) : (l.take k).all f = true := e ▸ h

set_option maxRecDepth 100000 in
set_option maxHeartbeats 4000000 in
theorem refright_main (w : World) (B : Nat → Prop) (s : SchV) (h : SchAt w B s) (hf : frontS s = true) :
    Calls Tryd.prog 47 #[s.agg] w fun e w' => e = .returned (.bool (rightS s)) ∧ Below w.heap.size w w' := by
  have hfp := (frontS_iff s).1 hf
  have hrf := rightS_front s
  rw [hf, Bool.true_and] at hrf
  obtain ⟨nm, cv, cl, iv, il, lim, prt, by_⟩ := s
  obtain ⟨h1, h2, h3, h4⟩ := h
  simp only at h1 h2 h3 h4 hfp hrf
  simp only [SchV.agg]
  generalize rightS ⟨nm, cv, cl, iv, il, lim, prt, by_⟩ = out at *
  obtain ⟨p1, p2, p3, p4, p5, p6, p7, p8, p9, p10, p11, p12⟩ := hfp
  have HRF := Lib.hid hrf
  obtain ⟨pc, cc, rfl, hcl, hcc⟩ := h1.form
  obtain ⟨pi, ci, rfl, hil, hci⟩ := h2.1.form
  have hal : Below w.heap.size w (w.alloc (.cells #[.string nm, .slice pc cl.length cc, .slice pi il.length ci, .int .i64 lim, .int .i64 prt, .int .i64 by_] 47)) := (Below.refl _ _).alloc (Nat.le_refl _) _
  have HBK : Hid (Blk (w.alloc (.cells #[.string nm, .slice pc cl.length cc, .slice pi il.length ci, .int .i64 lim, .int .i64 prt, .int .i64 by_] 47)) w.heap.size 47 [.string nm, .slice pc cl.length cc, .slice pi il.length ci, .int .i64 lim, .int .i64 prt, .int .i64 by_]) := Blk.new w _ _
  have HN := Lib.hid (refnamed (w.alloc (.cells #[.string nm, .slice pc cl.length cc, .slice pi il.length ci, .int .i64 lim, .int .i64 prt, .int .i64 by_] 47)) nm h4)
  have HAL := Lib.hid hal
  have H1 := Lib.hid (h1.below hal)
  have H2 := Lib.hid (h2.below hal)
  have H3 := Lib.hid h3
  have h0 : 0 < il.length := by omega
  obtain ⟨g, off, cap1, hv, hg, e0, e1⟩ := sl_idx (h2.below hal).1 h0
  cases hv
  have hfu : il[0].unique = true := by
    cases il with
    | nil => simp at h0
    | cons a t => exact p12
  have e2 : (w.alloc (.cells #[.string nm, .slice pc cl.length cc, .slice (some ⟨g, off, none⟩) il.length ci, .int .i64 lim, .int .i64 prt, .int .i64 by_] 47)).cell? ⟨g, off + 1, none⟩ = some (.bool true) := by rw [Nat.zero_mul, Nat.add_zero, hfu] at e1; exact e1
  have h0i : (0 : Int) < (il.length : Int) := by omega
  rw [p1] at HN
  have t1 : decide ((cl.length : Int) < 1) = false := decide_eq_false (by omega)
  have t2 : decide ((8 : Int) < (cl.length : Int)) = false := decide_eq_false (by omega)
  have t3 : decide ((il.length : Int) < 1) = false := decide_eq_false (by omega)
  have t4 : decide ((4 : Int) < (il.length : Int)) = false := decide_eq_false (by omega)
  have t5 : decide (lim < 1) = false := decide_eq_false (by omega)
  have t6 : decide (1000 < lim) = false := decide_eq_false (by omega)
  have t7 : decide (prt < 1) = false := decide_eq_false (by omega)
  have t8 : decide (8 < prt) = false := decide_eq_false (by omega)
  have t9 : decide (by_ < 0) = false := decide_eq_false (by omega)
  have t10 : decide ((cl.length : Int) ≤ by_) = false := decide_eq_false (by omega)
  clear h1 h2 h3 h4 hal hf hrf e0 e1 hfu p1 p12 h0
  go_enter Tryd.func47, Tryd.ntmps47
  go_wp2_with (go_at_call 51; refine HN.out.mono ?_; clear HN; rintro e w2 ⟨rfl, rfl⟩)
  generalize hw1 : w.alloc (.cells #[.string nm, .slice pc cl.length cc, .slice (some ⟨g, off, none⟩) il.length ci, .int .i64 lim, .int .i64 prt, .int .i64 by_] 47) = w1 at *
  clear hw1 e2 t1 t2 t3 t4 t5 t6 t7 t8 t9 t10
  go_loopw [4] (fun i wr => ∃ k : Nat, i = .int .i64 k ∧ k ≤ cl.length ∧ (cl.take k).all colOk = true ∧ unlikeGo sameCol (cl.take k) (cl.drop k) = unlikeB sameCol cl ∧ Below w1.heap.size w1 wr) (fun i _ => cl.length - (intOf i).toNat)
  case atStart => exact ⟨0, rfl, Nat.zero_le _, rfl, rfl, Below.refl _ _⟩
  case round =>
    obtain ⟨k, rfl, hk, ha, hu, hb⟩ := hrel
    obtain ⟨wo, rfl⟩ : ∃ wo : World, wo = wr := ⟨_, rfl⟩
    have HB := Lib.hid hb
    have HA := Lib.hid ha
    have HU := Lib.hid hu
    obtain ⟨x0, x1, x2, x3, x4, x5⟩ := sch_cells (HBK.out.below hb)
    clear ha hu
    by_cases hka : k < cl.length
    · obtain ⟨g1, off1, cap2, hv, hg1, e0, e1⟩ := sl_col (H1.out.below hb) hka
      cases hv
      have HX := Lib.hid (all_next colOk cl k hka HA.out)
      have HY := Lib.hid (all_not colOk cl k hka)
      have hrk := H3.out cl[k] (List.getElem_mem hka)
      have hstep := unlike_step sameCol cl k hka
      have HT := Lib.hid hstep.1
      have HFF := Lib.hid hstep.2
      clear hb hstep x0 x3 x4 x5
      generalize hce : cl[k] = c at *
      have HCE := Lib.hid hce
      obtain ⟨nm2, kd⟩ := c
      have hok : colOk ⟨nm2, kd⟩ = (namedB nm2 && (decide (1 ≤ kd) && decide (kd ≤ 3))) := rfl
      simp only at e0 e1 hrk
      have HN2 := Lib.hid (fun W => refnamed W nm2 hrk)
      generalize namedB nm2 = nb at *
      clear hrk hce
      by_cases hbad : nb = false ∨ kd < 1 ∨ 3 < kd
      · have e5 : out = false := by
          rw [HRF.out, HY.out (by
            rw [hok]
            rcases hbad with h | h | h
            · rw [h]; rfl
            · rw [decide_eq_false (by omega)]; simp
            · rw [decide_eq_false (p := kd ≤ 3) (by omega)]; simp)]
          rfl
        have E5 := Lib.hid e5
        clear HX HY hok e5
        rcases hbad with rfl | h | h
        · go_wp2_with (go_at_call 51; refine (HN2.out _).mono ?_; rintro e w2 ⟨rfl, rfl⟩)
          go_ret
          exact ⟨by rw [E5.out]; rfl, HAL.out.trans (HB.out.mono HAL.out.size)⟩
        · cases nb
          all_goals
            go_wp2_with (go_at_call 51; refine (HN2.out _).mono ?_; rintro e w2 ⟨rfl, rfl⟩)
            go_ret
            exact ⟨by rw [E5.out]; rfl, HAL.out.trans (HB.out.mono HAL.out.size)⟩
        · have h1' : ¬ kd < 1 := by omega
          cases nb
          all_goals
            go_wp2_with (go_at_call 51; refine (HN2.out _).mono ?_; rintro e w2 ⟨rfl, rfl⟩)
            go_ret
            exact ⟨by rw [E5.out]; rfl, HAL.out.trans (HB.out.mono HAL.out.size)⟩
      · have hnb : nb = true := by cases nb; exact absurd (.inl rfl) hbad; rfl
        subst hnb
        have hk1 : ¬ kd < 1 := fun h => hbad (.inr (.inl h))
        have hk3 : ¬ 3 < kd := fun h => hbad (.inr (.inr h))
        have HF := Lib.hid (HX.out (by rw [hok, decide_eq_true (by omega), decide_eq_true (by omega)]; rfl))
        clear HX HY hok hbad
        go_wp2_with (go_at_call 51; refine (HN2.out _).mono ?_; rintro e w2 ⟨rfl, rfl⟩)
        go_loopw [5] (fun i wr => ∃ j : Nat, i = .int .i64 j ∧ j ≤ k ∧ (cl.take j).all (fun b => !sameCol ⟨nm2, kd⟩ b) = true ∧ Below w1.heap.size w1 wr) (fun i _ => k - (intOf i).toNat)
        case atStart => exact ⟨0, rfl, Nat.zero_le _, rfl, HB.out⟩
        case round =>
          obtain ⟨j, rfl, hj, hall, hbq⟩ := hrel
          have HBQ := Lib.hid hbq
          have HALL := Lib.hid hall
          obtain ⟨y0, y1, y2, y3, y4, y5⟩ := sch_cells (HBK.out.below hbq)
          clear hall y0 y2 y3 y4 y5
          by_cases hjk : j < k
          · have hjl : j < cl.length := by omega
            have HNX := Lib.hid (all_next (fun b => !sameCol ⟨nm2, kd⟩ b) cl j hjl HALL.out)
            have HNF := Lib.hid (all_false (fun b => !sameCol ⟨nm2, kd⟩ b) cl j k hjk hjl)
            obtain ⟨g2, off2, cap3, hv2, hg2, f0, f1⟩ := sl_col (H1.out.below hbq) hjl
            cases hv2
            obtain ⟨g3, off3, cap4, hv3, hg3, r0, r1⟩ := sl_col (H1.out.below hbq) hka
            cases hv3
            rw [HCE.out] at r0
            clear hbq
            generalize cl[j] = b at *
            obtain ⟨nm3, kd3⟩ := b
            simp only at f0 r0
            have hsd : sameCol ⟨nm2, kd⟩ ⟨nm3, kd3⟩ = (nm3.toList == nm2.toList) := by rw [sameCol_comm]; rfl
            cases hs : (nm3.toList == nm2.toList)
            · have HF2 := Lib.hid (HNX.out (by rw [hsd, hs]; rfl))
              clear HNX HNF hsd
              go_wp2
              refine wp_region_lit_plan [] [(0, 0), (2, 0), (6, 0), (8, 0), (1, 1), (3, 0), (4, 0), (5, 1), (7, 1), (9, 0), (10, 0), (11, 1), (12, 0)] (fun _ => False) (by kernel_rfl) (by kernel_rfl) (fun c a d v w h => by cases d <;> exact h) ?_
              go_wp2_with (first
                | (refine plan_pure (v := _) (by rfl) (by rfl) (by rfl) (by intro _; go_simp; with_reducible rfl) ?_; simp only [List.setIfInBounds_toArray, List.set_cons_zero, List.set_cons_succ]; try go_bits) | (refine plan_read (v := _) (by rfl) (by rfl) (by rfl) (by go_simp; with_reducible rfl) ?_; simp only [List.setIfInBounds_toArray, List.set_cons_zero, List.set_cons_succ]; try go_bits) | (refine plan_readB (v := _) (by rfl) (by rfl) (by rfl) (by intro _ hag; unfold Agree at hag; go_simp; with_reducible rfl) ?_; simp only [List.setIfInBounds_toArray, List.set_cons_zero, List.set_cons_succ]; try go_bits) | (refine plan_skip0 (by rfl) (by rfl) (by rfl) ?_; simp only [List.setIfInBounds_toArray, List.set_cons_zero, List.set_cons_succ]; try go_bits) | (refine plan_skip1 (by rfl) (by rfl) (by rfl) ?_; simp only [List.setIfInBounds_toArray, List.set_cons_zero, List.set_cons_succ]; try go_bits) | (refine plan_skip2 (by rfl) (by rfl) (by rfl) ?_; simp only [List.setIfInBounds_toArray, List.set_cons_zero, List.set_cons_succ]; try go_bits) | (refine plan_skip4 (by rfl) (by rfl) (by rfl) ?_; simp only [List.setIfInBounds_toArray, List.set_cons_zero, List.set_cons_succ]; try go_bits) | (refine plan_any (by rfl) ?_) | (refine plan_keep (by rfl) ?_) | (refine plan_nil ?_) | (with_reducible refine And.intro (by first | assumption | exact Agree.refl _ _ | exact agree_drew _ _ | exact agree_alloc _ (by intro k hk; subst hk; first | omega | (simp; omega))) ?_) | (unfold Act.put; simp only [List.setIfInBounds_toArray, List.set_cons_zero, List.set_cons_succ]))
              exact ⟨⟨j + 1, by go_num, by omega, HF2.out, HBQ.out.drew⟩, by (simp [intOf]) <;> omega⟩
            · have e5 : out = false := by
                rw [HRF.out, ← HU.out, HFF.out (HNF.out (by rw [hsd, hs]; rfl))]
                simp
              have E5 := Lib.hid e5
              clear HNX HNF hsd e5
              go_wp2
              refine wp_region_lit_plan [] [(0, 0), (2, 0), (6, 0), (8, 0), (1, 1), (3, 0), (4, 0), (5, 1), (7, 1), (9, 0), (10, 0), (11, 1), (12, 0)] (fun _ => False) (by kernel_rfl) (by kernel_rfl) (fun c a d v w h => by cases d <;> exact h) ?_
              go_wp2_with (first
                | (refine plan_pure (v := _) (by rfl) (by rfl) (by rfl) (by intro _; go_simp; with_reducible rfl) ?_; simp only [List.setIfInBounds_toArray, List.set_cons_zero, List.set_cons_succ]; try go_bits) | (refine plan_read (v := _) (by rfl) (by rfl) (by rfl) (by go_simp; with_reducible rfl) ?_; simp only [List.setIfInBounds_toArray, List.set_cons_zero, List.set_cons_succ]; try go_bits) | (refine plan_readB (v := _) (by rfl) (by rfl) (by rfl) (by intro _ hag; unfold Agree at hag; go_simp; with_reducible rfl) ?_; simp only [List.setIfInBounds_toArray, List.set_cons_zero, List.set_cons_succ]; try go_bits) | (refine plan_skip0 (by rfl) (by rfl) (by rfl) ?_; simp only [List.setIfInBounds_toArray, List.set_cons_zero, List.set_cons_succ]; try go_bits) | (refine plan_skip1 (by rfl) (by rfl) (by rfl) ?_; simp only [List.setIfInBounds_toArray, List.set_cons_zero, List.set_cons_succ]; try go_bits) | (refine plan_skip2 (by rfl) (by rfl) (by rfl) ?_; simp only [List.setIfInBounds_toArray, List.set_cons_zero, List.set_cons_succ]; try go_bits) | (refine plan_skip4 (by rfl) (by rfl) (by rfl) ?_; simp only [List.setIfInBounds_toArray, List.set_cons_zero, List.set_cons_succ]; try go_bits) | (refine plan_any (by rfl) ?_) | (refine plan_keep (by rfl) ?_) | (refine plan_nil ?_) | (with_reducible refine And.intro (by first | assumption | exact Agree.refl _ _ | exact agree_drew _ _ | exact agree_alloc _ (by intro k hk; subst hk; first | omega | (simp; omega))) ?_) | (unfold Act.put; simp only [List.setIfInBounds_toArray, List.set_cons_zero, List.set_cons_succ]))
              go_ret
              exact ⟨by rw [E5.out]; rfl, HAL.out.trans (HBQ.out.drew.mono HAL.out.size)⟩
          · obtain rfl : j = k := by omega
            clear hbq
            go_wp2
            go_roundw
            case rel => exact ⟨j + 1, by go_num, by omega, HF.out, by rw [← HU.out, HT.out HALL.out], HBQ.out⟩
            case measure => (simp [intOf]) <;> omega
    · obtain rfl : k = cl.length := by omega
      have hca : cl.all colOk = true := by have := HA.out; rwa [List.take_length] at this
      have hcu : unlikeB sameCol cl = true := by rw [← HU.out, List.drop_length]; rfl
      have hr2 := HRF.out
      rw [hca, hcu, Bool.true_and, Bool.true_and] at hr2
      have HR2 := Lib.hid hr2
      clear hb hca hcu hr2 hka hk
      go_wp2
      go_loopw [6] (fun i wr => ∃ m : Nat, i = .int .i64 m ∧ m ≤ il.length ∧ (il.take m).all (placesB (cl.length : Int)) = true ∧ unlikeGo sameIdx (il.take m) (il.drop m) = unlikeB sameIdx il ∧ Below w1.heap.size w1 wr) (fun i _ => il.length - (intOf i).toNat)
      case atStart => exact ⟨0, rfl, Nat.zero_le _, rfl, rfl, HB.out⟩
      case round =>
        obtain ⟨m, rfl, hm, ha, hu, hb⟩ := hrel
        obtain ⟨wp, rfl⟩ : ∃ wp : World, wp = wr := ⟨_, rfl⟩
        have HBP := Lib.hid hb
        have HAP := Lib.hid ha
        have HUP := Lib.hid hu
        obtain ⟨z0, z1, z2, z3, z4, z5⟩ := sch_cells (HBK.out.below hb)
        clear ha hu z0 z1 z3 z4 z5 x0 x1 x2 x3 x4 x5
        by_cases hma : m < il.length
        · obtain ⟨g1, off1, cap2, hv, hg1, e0, e1⟩ := sl_idx (H2.out.below hb).1 hma
          cases hv
          have hxs := (H2.out.below hb).2 il[m] (List.getElem_mem hma)
          have HX := Lib.hid (all_next (placesB (cl.length : Int)) il m hma HAP.out)
          have HY := Lib.hid (all_not (placesB (cl.length : Int)) il m hma)
          have hstep := unlike_step sameIdx il m hma
          have HT := Lib.hid hstep.1
          have HFF := Lib.hid hstep.2
          have HXS0 := Lib.hid (H2.out.2 il[m] (List.getElem_mem hma))
          clear hb hstep e1
          generalize hxe : il[m] = x at *
          have HXE := Lib.hid hxe
          have hpl := places_len cl.length x
          obtain ⟨xv, xl, xu⟩ := x
          simp only at e0 hxs HXS0 hpl
          obtain ⟨px, cx, rfl, hcx1, hcx2⟩ := hxs.form
          have hpb : placesB (cl.length : Int) ⟨.slice px xl.length cx, xl, xu⟩ = (xl.all (placeOk (cl.length : Int)) && (decide (0 < xl.length) && unlikeB sameInt xl)) := rfl
          have HPB := Lib.hid hpb
          have HOF : Hid (placesB (cl.length : Int) ⟨.slice px xl.length cx, xl, xu⟩ = false → out = false) := fun h => by rw [HR2.out, HY.out h]; rfl
          generalize placesB (cl.length : Int) ⟨.slice px xl.length cx, xl, xu⟩ = pb at *
          clear hxe hpb HY hxs
          by_cases hx1 : xl.length < 1
          · have e5 := HOF.out (by rw [HPB.out, decide_eq_false (show ¬ 0 < xl.length by omega)]; simp)
            have E5 := Lib.hid e5
            have d1 : decide ((xl.length : Int) < 1) = true := decide_eq_true (by omega)
            clear e5 hpl
            go_wp2
            go_ret
            exact ⟨by rw [E5.out]; rfl, HAL.out.trans (HBP.out.mono HAL.out.size)⟩
          by_cases hx8 : 8 < xl.length
          · have e5 := HOF.out (by
              cases pb
              · rfl
              · have := hpl rfl; omega)
            have E5 := Lib.hid e5
            have d1 : decide ((xl.length : Int) < 1) = false := decide_eq_false (by omega)
            have d2 : decide ((8 : Int) < (xl.length : Int)) = true := decide_eq_true (by omega)
            clear e5 hpl
            go_wp2
            go_ret
            exact ⟨by rw [E5.out]; rfl, HAL.out.trans (HBP.out.mono HAL.out.size)⟩
          have d1 : decide ((xl.length : Int) < 1) = false := decide_eq_false (by omega)
          have d2 : decide ((8 : Int) < (xl.length : Int)) = false := decide_eq_false (by omega)
          have hxp : decide (0 < xl.length) = true := decide_eq_true (by omega)
          rw [hxp, Bool.true_and] at HPB
          clear hpl hxp
          go_wp2
          clear d1 d2
          go_loopw [8] (fun i wr => ∃ k : Nat, i = .int .i64 k ∧ k ≤ xl.length ∧ (xl.take k).all (placeOk (cl.length : Int)) = true ∧ unlikeGo sameInt (xl.take k) (xl.drop k) = unlikeB sameInt xl ∧ Below w1.heap.size w1 wr) (fun i _ => xl.length - (intOf i).toNat)
          case atStart => exact ⟨0, rfl, Nat.zero_le _, rfl, rfl, HBP.out⟩
          case round =>
            obtain ⟨k, rfl, hk, ha, hu, hb⟩ := hrel
            obtain ⟨wq, rfl⟩ : ∃ wq : World, wq = wr := ⟨_, rfl⟩
            have HBQ := Lib.hid hb
            have HAQ := Lib.hid ha
            have HUQ := Lib.hid hu
            clear ha hu
            by_cases hka : k < xl.length
            · obtain ⟨g2, off2, cap3, hv, hg2, f0⟩ := sl_int (HXS0.out.below hb) hka
              cases hv
              have HX2 := Lib.hid (all_next (placeOk (cl.length : Int)) xl k hka HAQ.out)
              have HY2 := Lib.hid (all_not (placeOk (cl.length : Int)) xl k hka)
              have hstep := unlike_step sameInt xl k hka
              have HT2 := Lib.hid hstep.1
              have HFF2 := Lib.hid hstep.2
              clear hb hstep
              generalize hce : xl[k] = c at *
              have HCE := Lib.hid hce
              have hok : placeOk (cl.length : Int) c = (decide (0 ≤ c) && decide (c ≤ (cl.length : Int) - 1)) := rfl
              clear hce
              by_cases hbad : c < 0 ∨ (cl.length : Int) ≤ c
              · have e5 := HOF.out (by
                  rw [HPB.out, HY2.out (by
                    rw [hok]
                    rcases hbad with h | h
                    · rw [decide_eq_false (by omega)]; rfl
                    · rw [decide_eq_false (p := c ≤ (cl.length : Int) - 1) (by omega)]; simp)]
                  rfl)
                have E5 := Lib.hid e5
                clear e5 HX2 HY2 hok
                rcases hbad with h | h
                · have d1 : decide (c < 0) = true := decide_eq_true h
                  go_wp2
                  go_ret
                  exact ⟨by rw [E5.out]; rfl, HAL.out.trans (HBQ.out.mono HAL.out.size)⟩
                · have d1 : decide (c < 0) = false := decide_eq_false (by omega)
                  have d2 : decide ((cl.length : Int) ≤ c) = true := decide_eq_true h
                  go_wp2
                  go_ret
                  exact ⟨by rw [E5.out]; rfl, HAL.out.trans (HBQ.out.mono HAL.out.size)⟩
              · have hc0 : ¬ c < 0 := fun h => hbad (.inl h)
                have hcn : ¬ (cl.length : Int) ≤ c := fun h => hbad (.inr h)
                have d1 : decide (c < 0) = false := decide_eq_false hc0
                have d2 : decide ((cl.length : Int) ≤ c) = false := decide_eq_false hcn
                have HF := Lib.hid (HX2.out (by rw [hok, decide_eq_true (by omega), decide_eq_true (by omega)]; rfl))
                clear HX2 HY2 hok hbad
                go_wp2
                clear d1 d2
                go_loopw [9] (fun i wr => ∃ j : Nat, i = .int .i64 j ∧ j ≤ k ∧ (xl.take j).all (fun b => !sameInt c b) = true ∧ Below w1.heap.size w1 wr) (fun i _ => k - (intOf i).toNat)
                case atStart => exact ⟨0, rfl, Nat.zero_le _, rfl, HBQ.out⟩
                case round =>
                  obtain ⟨j, rfl, hj, hall, hbq⟩ := hrel
                  have HBR := Lib.hid hbq
                  have HALL := Lib.hid hall
                  clear hall
                  by_cases hjk : j < k
                  · have hjl : j < xl.length := by omega
                    have HNX := Lib.hid (all_next (fun b => !sameInt c b) xl j hjl HALL.out)
                    have HNF := Lib.hid (all_false (fun b => !sameInt c b) xl j k hjk hjl)
                    obtain ⟨g3, off3, cap4, hv3, hg3, r0⟩ := sl_int (HXS0.out.below hbq) hjl
                    cases hv3
                    obtain ⟨g4, off4, cap5, hv4, hg4, s0⟩ := sl_int (HXS0.out.below hbq) hka
                    cases hv4
                    rw [HCE.out] at s0
                    clear hbq
                    generalize xl[j] = b at *
                    have hsd : sameInt c b = (b == c) := by rw [sameInt_comm]; rfl
                    cases hs : (b == c)
                    · have HF2 := Lib.hid (HNX.out (by rw [hsd, hs]; rfl))
                      clear HNX HNF hsd
                      go_wp2
                      refine wp_region_lit_plan [] [(0, 0), (1, 0), (2, 0), (4, 0), (5, 0), (6, 0), (3, 1), (7, 1), (8, 0)] (fun _ => False) (by kernel_rfl) (by kernel_rfl) (fun c a d v w h => by cases d <;> exact h) ?_
                      go_wp2_with (first
                        | (refine plan_pure (v := _) (by rfl) (by rfl) (by rfl) (by intro _; go_simp; with_reducible rfl) ?_; simp only [List.setIfInBounds_toArray, List.set_cons_zero, List.set_cons_succ]; try go_bits) | (refine plan_read (v := _) (by rfl) (by rfl) (by rfl) (by go_simp; with_reducible rfl) ?_; simp only [List.setIfInBounds_toArray, List.set_cons_zero, List.set_cons_succ]; try go_bits) | (refine plan_readB (v := _) (by rfl) (by rfl) (by rfl) (by intro _ hag; unfold Agree at hag; go_simp; with_reducible rfl) ?_; simp only [List.setIfInBounds_toArray, List.set_cons_zero, List.set_cons_succ]; try go_bits) | (refine plan_skip0 (by rfl) (by rfl) (by rfl) ?_; simp only [List.setIfInBounds_toArray, List.set_cons_zero, List.set_cons_succ]; try go_bits) | (refine plan_skip1 (by rfl) (by rfl) (by rfl) ?_; simp only [List.setIfInBounds_toArray, List.set_cons_zero, List.set_cons_succ]; try go_bits) | (refine plan_skip2 (by rfl) (by rfl) (by rfl) ?_; simp only [List.setIfInBounds_toArray, List.set_cons_zero, List.set_cons_succ]; try go_bits) | (refine plan_skip4 (by rfl) (by rfl) (by rfl) ?_; simp only [List.setIfInBounds_toArray, List.set_cons_zero, List.set_cons_succ]; try go_bits) | (refine plan_any (by rfl) ?_) | (refine plan_keep (by rfl) ?_) | (refine plan_nil ?_) | (with_reducible refine And.intro (by first | assumption | exact Agree.refl _ _ | exact agree_drew _ _ | exact agree_alloc _ (by intro k hk; subst hk; first | omega | (simp; omega))) ?_) | (unfold Act.put; simp only [List.setIfInBounds_toArray, List.set_cons_zero, List.set_cons_succ]))
                      exact ⟨⟨j + 1, by go_num, by omega, HF2.out, HBR.out.drew⟩, by (simp [intOf]) <;> omega⟩
                    · have e5 := HOF.out (by
                        rw [HPB.out, ← HUQ.out, HFF2.out (HNF.out (by rw [hsd, hs]; rfl))]
                        simp)
                      have E5 := Lib.hid e5
                      clear HNX HNF hsd e5
                      go_wp2
                      refine wp_region_lit_plan [] [(0, 0), (1, 0), (2, 0), (4, 0), (5, 0), (6, 0), (3, 1), (7, 1), (8, 0)] (fun _ => False) (by kernel_rfl) (by kernel_rfl) (fun c a d v w h => by cases d <;> exact h) ?_
                      go_wp2_with (first
                        | (refine plan_pure (v := _) (by rfl) (by rfl) (by rfl) (by intro _; go_simp; with_reducible rfl) ?_; simp only [List.setIfInBounds_toArray, List.set_cons_zero, List.set_cons_succ]; try go_bits) | (refine plan_read (v := _) (by rfl) (by rfl) (by rfl) (by go_simp; with_reducible rfl) ?_; simp only [List.setIfInBounds_toArray, List.set_cons_zero, List.set_cons_succ]; try go_bits) | (refine plan_readB (v := _) (by rfl) (by rfl) (by rfl) (by intro _ hag; unfold Agree at hag; go_simp; with_reducible rfl) ?_; simp only [List.setIfInBounds_toArray, List.set_cons_zero, List.set_cons_succ]; try go_bits) | (refine plan_skip0 (by rfl) (by rfl) (by rfl) ?_; simp only [List.setIfInBounds_toArray, List.set_cons_zero, List.set_cons_succ]; try go_bits) | (refine plan_skip1 (by rfl) (by rfl) (by rfl) ?_; simp only [List.setIfInBounds_toArray, List.set_cons_zero, List.set_cons_succ]; try go_bits) | (refine plan_skip2 (by rfl) (by rfl) (by rfl) ?_; simp only [List.setIfInBounds_toArray, List.set_cons_zero, List.set_cons_succ]; try go_bits) | (refine plan_skip4 (by rfl) (by rfl) (by rfl) ?_; simp only [List.setIfInBounds_toArray, List.set_cons_zero, List.set_cons_succ]; try go_bits) | (refine plan_any (by rfl) ?_) | (refine plan_keep (by rfl) ?_) | (refine plan_nil ?_) | (with_reducible refine And.intro (by first | assumption | exact Agree.refl _ _ | exact agree_drew _ _ | exact agree_alloc _ (by intro k hk; subst hk; first | omega | (simp; omega))) ?_) | (unfold Act.put; simp only [List.setIfInBounds_toArray, List.set_cons_zero, List.set_cons_succ]))
                      go_ret
                      exact ⟨by rw [E5.out]; rfl, HAL.out.trans (HBR.out.drew.mono HAL.out.size)⟩
                  · obtain rfl : j = k := by omega
                    clear hbq
                    go_wp2
                    go_roundw
                    case rel => exact ⟨j + 1, by go_num, by omega, HF.out, by rw [← HUQ.out, HT2.out HALL.out], HBR.out⟩
                    case measure => (simp [intOf]) <;> omega
            · obtain rfl : k = xl.length := by omega
              have hca : xl.all (placeOk (cl.length : Int)) = true := by have := HAQ.out; rwa [List.take_length] at this
              have hcu : unlikeB sameInt xl = true := by rw [← HUQ.out, List.drop_length]; rfl
              have hpbt : pb = true := by rw [HPB.out, hca, hcu]; rfl
              have HF := Lib.hid (HX.out hpbt)
              clear hb hca hcu hka hk hpbt HOF HPB HX
              go_wp2
              go_loopw [10] (fun i wr => ∃ j : Nat, i = .int .i64 j ∧ j ≤ m ∧ (il.take j).all (fun b => !sameIdx ⟨.slice px xl.length cx, xl, xu⟩ b) = true ∧ Below w1.heap.size w1 wr) (fun i _ => m - (intOf i).toNat)
              case atStart => exact ⟨0, rfl, Nat.zero_le _, rfl, HBQ.out⟩
              case round =>
                obtain ⟨j, rfl, hj, hall, hbq⟩ := hrel
                have HBR := Lib.hid hbq
                have HALL := Lib.hid hall
                obtain ⟨v0, v1, v2, v3, v4, v5⟩ := sch_cells (HBK.out.below hbq)
                clear hall v0 v1 v3 v4 v5
                by_cases hjm : j < m
                · have hjl : j < il.length := by omega
                  have HNX := Lib.hid (all_next (fun b => !sameIdx ⟨.slice px xl.length cx, xl, xu⟩ b) il j hjl HALL.out)
                  have HNF := Lib.hid (all_false (fun b => !sameIdx ⟨.slice px xl.length cx, xl, xu⟩ b) il j m hjm hjl)
                  obtain ⟨g3, off3, cap4, hv3, hg3, r0, r1⟩ := sl_idx (H2.out.below hbq).1 hjl
                  cases hv3
                  have hys := (H2.out.below hbq).2 il[j] (List.getElem_mem hjl)
                  generalize il[j] = b at *
                  obtain ⟨bv, bl, bu⟩ := b
                  simp only at r0 hys
                  have HS := Lib.hid (refsame wr B bv (.slice px xl.length cx) bl xl hys (HXS0.out.below hbq))
                  obtain ⟨pb2, cb2, rfl, _, _⟩ := hys.form
                  have hsd : sameIdx ⟨.slice px xl.length cx, xl, xu⟩ ⟨.slice pb2 bl.length cb2, bl, bu⟩ = (bl == xl) := by rw [sameIdx_comm]; rfl
                  clear hbq hys r1
                  cases hs : (bl == xl)
                  · rw [hs] at HS
                    have HF2 := Lib.hid (HNX.out (by rw [hsd, hs]; rfl))
                    clear HNX HNF hsd hs
                    go_wp2_with (go_at_call 83; refine HS.out.mono ?_; clear HS; rintro e w5 ⟨rfl, hb5⟩)
                    go_roundw
                    case rel => exact ⟨j + 1, by go_num, by omega, HF2.out, HBR.out.trans (hb5.mono HBR.out.size)⟩
                    case measure => (simp [intOf]) <;> omega
                  · rw [hs] at HS
                    have e5 : out = false := by
                      rw [HR2.out, ← HUP.out, HFF.out (HNF.out (by rw [hsd, hs]; rfl))]
                      simp
                    have E5 := Lib.hid e5
                    clear HNX HNF hsd hs e5
                    go_wp2_with (go_at_call 83; refine HS.out.mono ?_; clear HS; rintro e w5 ⟨rfl, hb5⟩)
                    go_ret
                    have h7 := HBR.out.trans (hb5.mono HBR.out.size)
                    exact ⟨by rw [E5.out]; rfl, HAL.out.trans (h7.mono HAL.out.size)⟩
                · obtain rfl : j = m := by omega
                  clear hbq
                  go_wp2
                  go_roundw
                  case rel => exact ⟨j + 1, by go_num, by omega, HF.out, by rw [← HUP.out, HT.out HALL.out], HBR.out⟩
                  case measure => (simp [intOf]) <;> omega
        · obtain rfl : m = il.length := by omega
          have hca : il.all (placesB (cl.length : Int)) = true := by have := HAP.out; rwa [List.take_length] at this
          have hcu : unlikeB sameIdx il = true := by rw [← HUP.out, List.drop_length]; rfl
          have e5 : out = true := by rw [HR2.out, hca, hcu]; rfl
          have E5 := Lib.hid e5
          clear hb hca hcu e5
          go_wp2
          go_ret
          exact ⟨by rw [E5.out]; rfl, HAL.out.trans (HBP.out.mono HAL.out.size)⟩

theorem refright_any (w : World) (B : Nat → Prop) (s : SchV) (h : SchAt w B s) :
    Calls Tryd.prog 47 #[s.agg] w fun e w' => e = .returned (.bool (rightS s)) ∧ Below w.heap.size w w' := by
  cases hf : frontS s
  · have : rightS s = false := by rw [rightS_front, hf]; rfl
    rw [this]
    exact refright_front w B s h hf
  · exact refright_main w B s h hf
end Go.Proofs.YtlgohkdckdnmhaaDoor
/- Rows among rows. -/
namespace Go.Proofs.YtlgohkdckdnmhaaDoor
open Go.RowKit Go.Afx

/-- A row among others: its slice, its values. -/
structure RowV where
  v : Value
  l : List AV
def rowVals (rows : List RowV) : List Value := rows.map RowV.v
theorem rowVals_append (a b : List RowV) : rowVals (a ++ b) = rowVals a ++ rowVals b := by simp [rowVals]
/-- Rows that read: a slice of slices, in blocks of B. -/
def RowsAt (w : World) (B : Nat → Prop) (v : Value) (rows : List RowV) : Prop :=
  Sl w B 1 v rows.length (rowVals rows) ∧ ∀ r ∈ rows, Sl w B 3 r.v r.l.length (rowCells r.l)
theorem RowsAt.below {w w' : World} {B : Nat → Prop} {v : Value} {rows : List RowV} (h : RowsAt w B v rows) (hb : Below w.heap.size w w') : RowsAt w' B v rows :=
  ⟨h.1.below hb, fun r hr => (h.2 r hr).below hb⟩
theorem RowsAt.only {w w' : World} {S B : Nat → Prop} {v : Value} {rows : List RowV} (h : RowsAt w B v rows) (hb : Only S w w') (hd : ∀ k, B k → ¬ S k) : RowsAt w' B v rows :=
  ⟨h.1.only hb hd, fun r hr => (h.2 r hr).only hb hd⟩
theorem RowsAt.at {w : World} {B : Nat → Prop} {v : Value} {rows : List RowV} (h : RowsAt w B v rows) {k : Nat} (hk : k < rows.length) :
    ∃ g off cap, v = .slice (some ⟨g, off, none⟩) rows.length cap ∧ w.cell? ⟨g, off + k, none⟩ = some rows[k].v := by
  obtain ⟨g, off, cap, hv, _, _, _, _, hc⟩ := h.1.place (by omega)
  exact ⟨g, off, cap, hv, by rw [hc k (by simpa [rowVals] using hk)]; simp [rowVals, hk]⟩

end Go.Proofs.YtlgohkdckdnmhaaDoor
/- The document's rows: Great. -/
namespace Go.Proofs.YtlgohkdckdnmhaaDoor
open Go.RowKit Go.Afx

def greatRowsB (rows : List (List AV)) : Bool := decide (30 < rows.length) || rows.any greatB
end Go.Proofs.YtlgohkdckdnmhaaDoor
/- Whether rows fit columns: the document's Fits, the law's, the stream's. -/
namespace Go.Proofs.YtlgohkdckdnmhaaDoor
open Go.RowKit Go.Afx

def kindAt (row : List AV) (cols : List ColV) (i : Nat) : Bool := (row[i]?).map AV.kind == (cols[i]?).map ColV.kind
def kindsB (row : List AV) (cols : List ColV) : Bool := (List.range row.length).all (kindAt row cols)
def fitB (cols : List ColV) (row : List AV) : Bool := decide (row.length = cols.length) && rightAll row && kindsB row cols
def fitsB (cols : List ColV) (rows : List (List AV)) : Bool := rows.all (fitB cols) && decide (rows.length ≤ 32)
theorem kindAt_eq (row : List AV) (cols : List ColV) (k : Nat) (h1 : k < row.length) (h2 : k < cols.length) : kindAt row cols k = (row[k].kind == cols[k].kind) := by
  unfold kindAt
  rw [List.getElem?_eq_getElem h1, List.getElem?_eq_getElem h2]
  rw [Bool.eq_iff_iff]; simp
theorem kinds_next (row : List AV) (cols : List ColV) (k : Nat) (h1 : k < row.length) (ha : ((List.range row.length).take k).all (kindAt row cols) = true) (hk : kindAt row cols k = true) : ((List.range row.length).take (k + 1)).all (kindAt row cols) = true :=
  all_next _ _ k (by simpa using h1) ha (by simpa using hk)
theorem kinds_not (row : List AV) (cols : List ColV) (k : Nat) (h1 : k < row.length) (hk : kindAt row cols k = false) : kindsB row cols = false :=
  all_not _ _ k (by simpa using h1) (by simpa using hk)

set_option maxRecDepth 100000 in
set_option maxHeartbeats 1000000 in
theorem reffits_any (w : World) (B B' : Nat → Prop) (s : SchV) (v : Value) (row : List AV) (hc : Sl w B 2 s.colsV s.cols.length (colCells s.cols)) (hr : Sl w B' 3 v row.length (rowCells row)) (hio : ∃ p n c, s.idxV = .slice p n c) :
    Calls Tryd.prog 48 #[s.agg, v] w fun e w' => e = .returned (.bool (fitB s.cols row)) ∧ Below w.heap.size w w' := by
  obtain ⟨nm, cv, cl, iv, il, lim, prt, by_⟩ := s
  simp only at hc hio
  obtain ⟨pi, ni, ci, rfl⟩ := hio
  simp only [SchV.agg]
  obtain ⟨pc, cc, rfl, hcc1, hcc⟩ := hc.form
  obtain ⟨pr, cr, rfl, hcr1, hcr⟩ := hr.form
  have hal : Below w.heap.size w (w.alloc (.cells #[.string nm, .slice pc cl.length cc, .slice pi ni ci, .int .i64 lim, .int .i64 prt, .int .i64 by_] 47)) := (Below.refl _ _).alloc (Nat.le_refl _) _
  have HBK : Hid (Blk (w.alloc (.cells #[.string nm, .slice pc cl.length cc, .slice pi ni ci, .int .i64 lim, .int .i64 prt, .int .i64 by_] 47)) w.heap.size 47 [.string nm, .slice pc cl.length cc, .slice pi ni ci, .int .i64 lim, .int .i64 prt, .int .i64 by_]) := Blk.new w _ _
  have HC := Lib.hid (hc.below hal)
  have HR := Lib.hid (hr.below hal)
  have HALL := Lib.hid (all_row _ _ _ _ (hr.below hal))
  have HAL := Lib.hid hal
  have HE : Hid (fitB cl row = (decide (row.length = cl.length) && rightAll row && kindsB row cl)) := rfl
  generalize fitB cl row = out at *
  clear hc hr hal
  by_cases hlen : row.length = cl.length
  · have hli : (row.length : Int) = (cl.length : Int) := by omega
    have d1 : ((row.length : Int) != (cl.length : Int)) = false := by rw [hli]; simp
    rw [decide_eq_true hlen, Bool.true_and] at HE
    have HLEN := Lib.hid hlen
    clear hlen hli
    generalize rightAll row = ra at *
    cases ra
    · go_enter Tryd.func48, Tryd.ntmps48
      go_wp2_with (go_at_call 18; refine HALL.out.mono ?_; clear HALL; rintro e w2 ⟨rfl, hb2⟩)
      go_ret
      exact ⟨by rw [HE.out]; rfl, HAL.out.trans (hb2.mono HAL.out.size)⟩
    · go_enter Tryd.func48, Tryd.ntmps48
      go_wp2_with (go_at_call 18; refine HALL.out.mono ?_; clear HALL; rintro e w2 ⟨rfl, hb2⟩; have HB2 := Lib.hid hb2; clear hb2)
      clear d1
      generalize hw1 : w.alloc (.cells #[.string nm, .slice pc cl.length cc, .slice pi ni ci, .int .i64 lim, .int .i64 prt, .int .i64 by_] 47) = w1 at *
      clear hw1
      go_loopw [5] (fun i wr => ∃ k : Nat, i = .int .i64 k ∧ k ≤ row.length ∧ ((List.range row.length).take k).all (kindAt row cl) = true ∧ Below w1.heap.size w1 wr) (fun i _ => row.length - (intOf i).toNat)
      case atStart => exact ⟨0, rfl, Nat.zero_le _, rfl, HB2.out⟩
      case round =>
        obtain ⟨k, rfl, hk, ha, hb⟩ := hrel
        have HB := Lib.hid hb
        have HA := Lib.hid ha
        obtain ⟨x0, x1, x2, x3, x4, x5⟩ := sch_cells (HBK.out.below hb)
        clear ha x0 x2 x3 x4 x5
        by_cases hka : k < row.length
        · have hkc : k < cl.length := by rw [← HLEN.out]; exact hka
          obtain ⟨g1, off1, cap2, hv, hg1, e0, e1, e2⟩ := sl_av (HR.out.below hb) hka
          cases hv
          obtain ⟨g2, off2, cap3, hv2, hg2, f0, f1⟩ := sl_col (HC.out.below hb) hkc
          cases hv2
          have HX := Lib.hid (kinds_next row cl k hka HA.out)
          have HY := Lib.hid (kinds_not row cl k hka)
          have hka2 := kindAt_eq row cl k hka hkc
          rw [hka2] at HX HY
          clear hb hka2 e1 e2 f0
          generalize row[k] = x at *
          generalize cl[k] = c at *
          by_cases hxc : x.kind = c.kind
          · have HF := Lib.hid (HX.out (by rw [hxc]; simp))
            have d2 : (x.kind != c.kind) = false := by rw [hxc]; simp
            clear HX HY
            rw [hxc] at e0
            clear hxc d2
            go_wp2
            refine wp_region_lit_plan [] [(0, 0), (1, 0), (2, 0), (3, 0), (5, 0), (7, 0), (4, 1), (6, 1), (8, 0), (9, 0), (10, 1), (11, 0)] (fun _ => False) (by kernel_rfl) (by kernel_rfl) (fun c a d v w h => by cases d <;> exact h) ?_
            go_wp2_with (first
              | (refine plan_pure (v := _) (by rfl) (by rfl) (by rfl) (by intro _; go_simp; with_reducible rfl) ?_; simp only [List.setIfInBounds_toArray, List.set_cons_zero, List.set_cons_succ]; try go_bits) | (refine plan_read (v := _) (by rfl) (by rfl) (by rfl) (by go_simp; with_reducible rfl) ?_; simp only [List.setIfInBounds_toArray, List.set_cons_zero, List.set_cons_succ]; try go_bits) | (refine plan_readB (v := _) (by rfl) (by rfl) (by rfl) (by intro _ hag; unfold Agree at hag; go_simp; with_reducible rfl) ?_; simp only [List.setIfInBounds_toArray, List.set_cons_zero, List.set_cons_succ]; try go_bits) | (refine plan_skip0 (by rfl) (by rfl) (by rfl) ?_; simp only [List.setIfInBounds_toArray, List.set_cons_zero, List.set_cons_succ]; try go_bits) | (refine plan_skip1 (by rfl) (by rfl) (by rfl) ?_; simp only [List.setIfInBounds_toArray, List.set_cons_zero, List.set_cons_succ]; try go_bits) | (refine plan_skip2 (by rfl) (by rfl) (by rfl) ?_; simp only [List.setIfInBounds_toArray, List.set_cons_zero, List.set_cons_succ]; try go_bits) | (refine plan_skip4 (by rfl) (by rfl) (by rfl) ?_; simp only [List.setIfInBounds_toArray, List.set_cons_zero, List.set_cons_succ]; try go_bits) | (refine plan_any (by rfl) ?_) | (refine plan_keep (by rfl) ?_) | (refine plan_nil ?_) | (with_reducible refine And.intro (by first | assumption | exact Agree.refl _ _ | exact agree_drew _ _ | exact agree_alloc _ (by intro k hk; subst hk; first | omega | (simp; omega))) ?_) | (unfold Act.put; simp only [List.setIfInBounds_toArray, List.set_cons_zero, List.set_cons_succ]))
            exact ⟨⟨k + 1, by go_num, by omega, HF.out, HB.out.drew⟩, by (simp [intOf]) <;> omega⟩
          · have HF := Lib.hid (HY.out (beq_eq_false_iff_ne.2 hxc))
            have d2 : (x.kind != c.kind) = true := bne_iff_ne.2 hxc
            have d3 : (x.kind == c.kind) = false := beq_eq_false_iff_ne.2 hxc
            clear HX HY hxc
            go_wp2
            refine wp_region_lit_plan [] [(0, 0), (1, 0), (2, 0), (3, 0), (5, 0), (7, 0), (4, 1), (6, 1), (8, 0), (9, 0), (10, 1), (11, 0)] (fun _ => False) (by kernel_rfl) (by kernel_rfl) (fun c a d v w h => by cases d <;> exact h) ?_
            go_wp2_with (first
              | (refine plan_pure (v := _) (by rfl) (by rfl) (by rfl) (by intro _; go_simp; with_reducible rfl) ?_; simp only [List.setIfInBounds_toArray, List.set_cons_zero, List.set_cons_succ]; try go_bits) | (refine plan_read (v := _) (by rfl) (by rfl) (by rfl) (by go_simp; with_reducible rfl) ?_; simp only [List.setIfInBounds_toArray, List.set_cons_zero, List.set_cons_succ]; try go_bits) | (refine plan_readB (v := _) (by rfl) (by rfl) (by rfl) (by intro _ hag; unfold Agree at hag; go_simp; with_reducible rfl) ?_; simp only [List.setIfInBounds_toArray, List.set_cons_zero, List.set_cons_succ]; try go_bits) | (refine plan_skip0 (by rfl) (by rfl) (by rfl) ?_; simp only [List.setIfInBounds_toArray, List.set_cons_zero, List.set_cons_succ]; try go_bits) | (refine plan_skip1 (by rfl) (by rfl) (by rfl) ?_; simp only [List.setIfInBounds_toArray, List.set_cons_zero, List.set_cons_succ]; try go_bits) | (refine plan_skip2 (by rfl) (by rfl) (by rfl) ?_; simp only [List.setIfInBounds_toArray, List.set_cons_zero, List.set_cons_succ]; try go_bits) | (refine plan_skip4 (by rfl) (by rfl) (by rfl) ?_; simp only [List.setIfInBounds_toArray, List.set_cons_zero, List.set_cons_succ]; try go_bits) | (refine plan_any (by rfl) ?_) | (refine plan_keep (by rfl) ?_) | (refine plan_nil ?_) | (with_reducible refine And.intro (by first | assumption | exact Agree.refl _ _ | exact agree_drew _ _ | exact agree_alloc _ (by intro k hk; subst hk; first | omega | (simp; omega))) ?_) | (unfold Act.put; simp only [List.setIfInBounds_toArray, List.set_cons_zero, List.set_cons_succ]))
            go_ret
            exact ⟨by rw [HE.out, HF.out]; rfl, HAL.out.trans (HB.out.drew.mono HAL.out.size)⟩
        · obtain rfl : k = row.length := by omega
          have e5 : out = true := by
            have := HA.out
            rw [HE.out]
            unfold kindsB
            have hl : (List.range row.length).take row.length = List.range row.length := by rw [List.take_of_length_le (by simp)]
            rw [hl] at this
            rw [this]; rfl
          have E5 := Lib.hid e5
          clear hb e5
          go_wp2
          go_ret
          exact ⟨by rw [E5.out]; rfl, HAL.out.trans (HB.out.mono HAL.out.size)⟩
  · have d1 : ((row.length : Int) != (cl.length : Int)) = true := bne_iff_ne.2 (by omega)
    have d2 : ((row.length : Int) == (cl.length : Int)) = false := beq_eq_false_iff_ne.2 (by omega)
    rw [decide_eq_false hlen] at HE
    go_enter Tryd.func48, Tryd.ntmps48
    go_wp2
    go_ret
    exact ⟨by rw [HE.out]; rfl, HAL.out⟩
end Go.Proofs.YtlgohkdckdnmhaaDoor
/- Rows of values: what append takes. -/
namespace Go.Proofs.YtlgohkdckdnmhaaDoor
open Go.RowKit Go.Afx

theorem elemAV : Elem Tryd.prog 22 27 3 32 (.agg #[.int .i64 0, .int .i64 0, .string ⟨#[]⟩]) :=
  ⟨Tryd.underlying22, by kernel_rfl, rfl, by omega, by intro u hu; simp [Value.cells] at hu; rcases hu with rfl | rfl | rfl <;> rfl⟩
theorem rowCells_append (a b : List AV) : rowCells (a ++ b) = rowCells a ++ rowCells b := by simp [rowCells]
theorem own_form3 {w : World} {e : TypeId} {sz : Nat} {v : Value} {n : Nat} {cs : List Value} (h : Own w e sz v n cs) : ∃ p cap, v = .slice p n cap ∧ n ≤ cap ∧ cap ≤ 9223372036854775807 :=
  (h.sl (B := fun _ => True) fun _ _ => trivial).form
theorem one_av (w : World) (v : AV) : Sl (w.alloc (.cells #[.int .i64 v.kind, .int .i64 v.n, .string v.s] 27)) (fun _ => True) 3 (.slice (some ⟨w.heap.size, 0, none⟩) 1 1) 1 (rowCells [v]) := by
  have := Own.made w 27 3 (rowCells [v]) [] 1 1 rfl (by intro u hu; simp [rowCells, AV.cells] at hu; rcases hu with rfl | rfl | rfl <;> rfl) (Nat.le_refl _) (by simp [maxLen]) (by simp [rowCells, AV.cells])
  exact this.sl (fun _ _ => trivial)

end Go.Proofs.YtlgohkdckdnmhaaDoor
/- A row's values at places: the document's Pick. -/
namespace Go.Proofs.YtlgohkdckdnmhaaDoor
open Go.RowKit Go.Afx

def pickR (l : List AV) (ps : List Int) : List AV := ps.map fun p => l.getD p.toNat ⟨0, 0, ⟨#[]⟩⟩
/-- A place of a row. -/
def inR (l : List AV) (p : Int) : Bool := decide (0 ≤ p) && decide (p ≤ (l.length : Int) - 1)
theorem inR_lt {l : List AV} {p : Int} (h : inR l p = true) : 0 ≤ p ∧ p.toNat < l.length := by
  unfold inR at h
  rw [Bool.and_eq_true, decide_eq_true_eq, decide_eq_true_eq] at h
  omega
theorem pickR_next (l : List AV) (ps : List Int) (k : Nat) (h : k < ps.length) (hp : ps[k].toNat < l.length) : pickR l (ps.take (k + 1)) = pickR l (ps.take k) ++ [l[ps[k].toNat]] := by
  unfold pickR
  rw [← List.take_append_getElem h, List.map_append]
  simp [List.getElem?_eq_getElem hp]
theorem pickR_len (l : List AV) (ps : List Int) : (pickR l ps).length = ps.length := by unfold pickR; simp

set_option maxRecDepth 100000 in
set_option maxHeartbeats 4000000 in
theorem refpick_any (w : World) (B B' : Nat → Prop) (v v' : Value) (l : List AV) (ps : List Int) (hl : Sl w B 3 v l.length (rowCells l)) (hp : Sl w B' 1 v' ps.length (ints ps)) (hin : ∀ p ∈ ps, inR l p = true) (hll : ps.length ≤ 1000) :
    Calls Tryd.prog 31 #[v, v'] w fun e w' => ∃ out, e = .returned out ∧ Sl w' (fun q => w.heap.size ≤ q) 3 out (pickR l ps).length (rowCells (pickR l ps)) ∧ Below w.heap.size w w' := by
  have HL := Lib.hid hl
  have HP := Lib.hid hp
  have HIN := Lib.hid hin
  obtain ⟨p, cap, rfl, hc1, hc2⟩ := hl.form
  obtain ⟨p', cap', rfl, hc1', hc2'⟩ := hp.form
  clear hl hp hin
  go_enter Tryd.func31, Tryd.ntmps31
  go_wp2
  go_loopw [5, 6] (fun v i wr => ∃ k : Nat, i = .int .i64 k ∧ k ≤ ps.length ∧ Own wr 27 3 v (pickR l (ps.take k)).length (rowCells (pickR l (ps.take k))) ∧ (∀ q, v.ownBlock = some q → w.heap.size ≤ q) ∧ Below w.heap.size w wr) (fun _ i _ => ps.length - (intOf i).toNat)
  case atStart => exact ⟨0, rfl, Nat.zero_le _, Own.nil _ _ _, by simp [Value.ownBlock], Below.refl _ _⟩
  case round =>
    obtain ⟨k, rfl, hk, hown, hnew, hbr⟩ := hrel
    obtain ⟨pv, cv, rfl, hcv1, hcv2⟩ := own_form3 hown
    have HOWN := Lib.hid hown
    have HNEW := Lib.hid hnew
    have HBR := Lib.hid hbr
    by_cases hka : k < ps.length
    · obtain ⟨hp0, hpk⟩ := inR_lt (HIN.out ps[k] (List.getElem_mem hka))
      have HX := Lib.hid (pickR_next l ps k hka hpk)
      have hlen := pickR_len l (ps.take k)
      rw [List.length_take] at hlen
      obtain ⟨g, off, cap1, hv, _, _, hgb, hglt, hc⟩ := (HP.out.below hbr).place (by omega)
      cases hv
      have hc0 : wr.cell? ⟨g, off + k, none⟩ = some (.int .i64 (ps[k].toNat : Int)) := by rw [hc k (by simpa [ints] using hka), Int.toNat_of_nonneg hp0]; simp [ints, hka]
      obtain ⟨g', off', cap2, hv', hg', f0, f1, f2⟩ := sl_av (HL.out.below hbr) hpk
      cases hv'
      clear hown hnew hbr hc
      generalize ps[k].toNat = pk at *
      generalize l[pk] = x at *
      generalize pickR l (ps.take k) = acc at *
      have hal5 : Below wr.heap.size wr (wr.alloc (.cells #[.int .i64 x.kind, .int .i64 x.n, .string x.s] 27)) := (Below.refl _ _).alloc (Nat.le_refl _) _
      have ho1 := HOWN.out.below hal5
      have hs1 := one_av wr x
      have HX5 := Lib.hid hal5
      clear hal5
      go_wp2_with (at_builtin; refine wpList_app rfl _ _ rfl elemAV (by rfl) ho1 (by rfl) hs1 (by unfold maxLen; omega) (by omega) ?_; intro v1 w7 g1 g2 g3 g4 g5; clear ho1 hs1; have G1 := Lib.hid g1; have G2 := Lib.hid g2; have G3 := Lib.hid g3; clear g1 g2 g3 g4 g5)
      have h9 : w.heap.size ≤ wr.heap.size := HBR.out.size
      refine ⟨⟨k + 1, by go_num, by omega, ?_, fun q hq => ?_, ?_⟩, by (simp [intOf]) <;> omega⟩
      · rw [HX.out, List.length_append, rowCells_append]; exact G1.out
      · rcases G3.out with h | h
        · rw [h] at hq; exact HNEW.out q hq
        · rw [h] at hq
          have : wr.heap.size + 1 = q := by simpa using hq
          omega
      · exact (HBR.out.trans (HX5.out.mono HBR.out.size)).trans (G2.out.below (by have := HX5.out.size; omega) (fun q hq => HNEW.out q hq))
    · obtain rfl : k = ps.length := by omega
      have he := hown.sl hnew
      have hv : Value.slice pv (pickR l (ps.take ps.length)).length cv = Value.slice pv (pickR l ps).length cv := by rw [List.take_length]
      rw [List.take_length] at he
      have HE := Lib.hid he
      have HVV := Lib.hid hv
      clear hown hnew he hv
      go_wp2
      go_ret
      exact ⟨Value.slice pv (pickR l ps).length cv, by rw [← HVV.out]; rfl, HE.out, HBR.out⟩
end Go.Proofs.YtlgohkdckdnmhaaDoor
/- A row's values at places: schema.Pick. -/
namespace Go.Proofs.YtlgohkdckdnmhaaDoor
open Go.RowKit Go.Afx

/-- What Pick answers: nothing, if a place isn't there. -/
def pickO (l : List AV) (ps : List Int) : List AV := if ps.all (inR l) then pickR l ps else []
theorem nil_row (w : World) (B : Nat → Prop) : Sl w B 3 (.slice none 0 0) ([] : List AV).length (rowCells []) := ⟨rfl, Ones.nil, .inl ⟨none, 0, rfl, rfl, Nat.zero_le _, fun _ => rfl⟩⟩

set_option maxRecDepth 100000 in
set_option maxHeartbeats 4000000 in
theorem pick_any (w : World) (B B' : Nat → Prop) (v v' : Value) (l : List AV) (ps : List Int) (hl : Sl w B 3 v l.length (rowCells l)) (hp : Sl w B' 1 v' ps.length (ints ps)) (hlr : l.length ≤ 1000) (hll : ps.length ≤ 1000) :
    Calls Tryd.prog 30 #[v, v'] w fun e w' => ∃ out, e = .returned out ∧ Sl w' (fun q => w.heap.size ≤ q) 3 out (pickO l ps).length (rowCells (pickO l ps)) ∧ Below w.heap.size w w' := by
  have HL := Lib.hid hl
  have HP := Lib.hid hp
  obtain ⟨p, cap, rfl, hc1, hc2⟩ := hl.form
  obtain ⟨p', cap', rfl, hc1', hc2'⟩ := hp.form
  clear hl hp
  go_enter Tryd.func30, Tryd.ntmps30
  go_wp2
  go_loopw [5, 10] (fun v i wr => ∃ k : Nat, i = .int .i64 k ∧ k ≤ ps.length ∧ (ps.take k).all (inR l) = true ∧ Own wr 27 3 v (pickR l (ps.take k)).length (rowCells (pickR l (ps.take k))) ∧ (∀ q, v.ownBlock = some q → w.heap.size ≤ q) ∧ Below w.heap.size w wr) (fun _ i _ => ps.length - (intOf i).toNat)
  case atStart => exact ⟨0, rfl, Nat.zero_le _, rfl, Own.nil _ _ _, by simp [Value.ownBlock], Below.refl _ _⟩
  case round =>
    obtain ⟨k, rfl, hk, hall, hown, hnew, hbr⟩ := hrel
    obtain ⟨pv, cv, rfl, hcv1, hcv2⟩ := own_form3 hown
    have HOWN := Lib.hid hown
    have HNEW := Lib.hid hnew
    have HBR := Lib.hid hbr
    have HALL := Lib.hid hall
    by_cases hka : k < ps.length
    · obtain ⟨g, off, cap1, hv, _, _, hgb, hglt, hc⟩ := (HP.out.below hbr).place (by omega)
      cases hv
      have hc0 : wr.cell? ⟨g, off + k, none⟩ = some (.int .i64 ps[k]) := by rw [hc k (by simpa [ints] using hka)]; simp [ints, hka]
      have hlen := pickR_len l (ps.take k)
      have hle : (pickR l (ps.take k)).length ≤ ps.length := by rw [hlen, List.length_take]; omega
      clear hlen
      have HW := Lib.hid (fun w => within_any w ps[k] 0 ((l.length : Int) - 1))
      have HIN := Lib.hid (all_next (inR l) ps k hka hall)
      have HOUT := Lib.hid (all_not (inR l) ps k hka)
      cases hin : inR l ps[k]
      · have hd1 : (decide ((0 : Int) ≤ ps[k]) && decide (ps[k] ≤ (l.length : Int) - 1)) = false := hin
        rw [hd1] at HW
        have hno : ps.all (inR l) = false := HOUT.out hin
        have HNO := Lib.hid hno
        clear hd1 hin hown hnew hbr hc hno hall HIN HOUT
        generalize ps[k] = pk at *
        go_wp2_with fail
        refine (HW.out _).mono ?_
        rintro e w3 ⟨rfl, rfl⟩
        go_wp2
        go_ret
        refine ⟨_, rfl, ?_, HBR.out⟩
        unfold pickO
        rw [HNO.out]
        exact nil_row _ _
      · have hd1 : (decide ((0 : Int) ≤ ps[k]) && decide (ps[k] ≤ (l.length : Int) - 1)) = true := hin
        rw [hd1] at HW
        obtain ⟨hp0, hpk⟩ := inR_lt hin
        have HNX := Lib.hid (HIN.out hin)
        have HX := Lib.hid (pickR_next l ps k hka hpk)
        obtain ⟨g', off', cap2, hv', hg', f0, f1, f2⟩ := sl_av (HL.out.below hbr) hpk
        cases hv'
        have hpe : ps[k] = (ps[k].toNat : Int) := (Int.toNat_of_nonneg hp0).symm
        rw [hpe] at hc0 HW
        clear hown hnew hbr hc hd1 hin hpe hall HIN HOUT hp0
        generalize ps[k].toNat = pk at *
        generalize l[pk] = x at *
        generalize pickR l (ps.take k) = acc at *
        have hal5 : Below wr.heap.size wr (wr.alloc (.cells #[.int .i64 x.kind, .int .i64 x.n, .string x.s] 27)) := (Below.refl _ _).alloc (Nat.le_refl _) _
        have ho1 := HOWN.out.below hal5
        have hs1 := one_av wr x
        have HX5 := Lib.hid hal5
        clear hal5
        go_wp2_with fail
        refine (HW.out _).mono ?_
        rintro e w3 ⟨rfl, rfl⟩
        go_wp2_with (at_builtin; refine wpList_app rfl _ _ rfl elemAV (by rfl) ho1 (by rfl) hs1 (by unfold maxLen; omega) (by omega) ?_; intro v1 w7 g1 g2 g3 g4 g5; clear ho1 hs1; have G1 := Lib.hid g1; have G2 := Lib.hid g2; have G3 := Lib.hid g3; clear g1 g2 g3 g4 g5)
        have h9 : w.heap.size ≤ wr.heap.size := HBR.out.size
        refine ⟨⟨k + 1, by go_num, by omega, HNX.out, ?_, fun q hq => ?_, ?_⟩, by (simp [intOf]) <;> omega⟩
        · rw [HX.out, List.length_append, rowCells_append]; exact G1.out
        · rcases G3.out with h | h
          · rw [h] at hq; exact HNEW.out q hq
          · rw [h] at hq
            have : wr.heap.size + 1 = q := by simpa using hq
            omega
        · exact (HBR.out.trans (HX5.out.mono HBR.out.size)).trans (G2.out.below (by have := HX5.out.size; omega) (fun q hq => HNEW.out q hq))
    · obtain rfl : k = ps.length := by omega
      have he := hown.sl hnew
      rw [List.take_length] at hall
      have hpo : pickO l ps = pickR l ps := by unfold pickO; rw [if_pos hall]
      have hv : Value.slice pv (pickR l (ps.take ps.length)).length cv = Value.slice pv (pickR l ps).length cv := by rw [List.take_length]
      rw [List.take_length] at he
      rw [← hpo] at he hv
      have HE := Lib.hid he
      have HVV := Lib.hid hv
      clear hown hnew he hv hall hpo
      go_wp2
      go_ret
      exact ⟨Value.slice pv (pickO l ps).length cv, by rw [← HVV.out]; rfl, HE.out, HBR.out⟩
end Go.Proofs.YtlgohkdckdnmhaaDoor
/- Schemas: whether a row fits; what is wrong with it. -/
namespace Go.Proofs.YtlgohkdckdnmhaaDoor
open Go.RowKit Go.Afx

set_option maxRecDepth 100000 in
set_option maxHeartbeats 1000000 in
theorem scfits_any (w : World) (B B' : Nat → Prop) (cv v : Value) (cl : List ColV) (rl : List AV) (hc : Sl w B 2 cv cl.length (colCells cl)) (hr : Sl w B' 3 v rl.length (rowCells rl)) (hrl : rl.length ≤ 1000000) :
    Calls Tryd.prog 68 #[cv, v] w fun e w' => e = .returned (.bool (fitB cl rl)) ∧ Below w.heap.size w w' := by
  obtain ⟨pc, cc, rfl, hcc1, hcc⟩ := hc.form
  obtain ⟨pv, cv2, rfl, hpv1, hpv2⟩ := hr.form
  have HC := Lib.hid hc
  have HROW := Lib.hid hr
  have HRT := Lib.hid (right_any w _ _ rl hr hrl)
  have HFB : Hid (fitB cl rl = (decide (rl.length = cl.length) && rightAll rl && kindsB rl cl)) := rfl
  generalize fitB cl rl = fb at *
  clear hc hr hrl
  by_cases hlen : rl.length = cl.length
  · have hli : (rl.length : Int) = (cl.length : Int) := by omega
    have d1 : ((rl.length : Int) != (cl.length : Int)) = false := by rw [hli]; simp
    rw [decide_eq_true hlen, Bool.true_and] at HFB
    have HLEN := Lib.hid hlen
    clear hlen hli
    generalize rightAll rl = ra at *
    cases ra
    · have HZ : Hid (fb = false) := HFB.out
      clear HFB
      go_enter Tryd.func68, Tryd.ntmps68
      go_wp2_with (go_at_call 17; refine HRT.out.mono ?_; clear HRT; rintro e w2 ⟨rfl, hb2⟩)
      go_ret
      exact ⟨by rw [HZ.out]; rfl, hb2⟩
    · rw [Bool.true_and] at HFB
      go_enter Tryd.func68, Tryd.ntmps68
      go_wp2_with (go_at_call 17; refine HRT.out.mono ?_; clear HRT; rintro e w2 ⟨rfl, hb2⟩; have HB2 := Lib.hid hb2; clear hb2)
      clear d1
      go_loopw [19] (fun i wr => ∃ j : Nat, i = .int .i64 j ∧ j ≤ rl.length ∧ ((List.range rl.length).take j).all (kindAt rl cl) = true ∧ Below w.heap.size w wr) (fun i _ => rl.length - (intOf i).toNat)
      case atStart => exact ⟨0, rfl, Nat.zero_le _, rfl, HB2.out⟩
      case round =>
        obtain ⟨j, rfl, hj, ha, hb⟩ := hrel
        have HBJ := Lib.hid hb
        have HAJ := Lib.hid ha
        clear ha
        by_cases hja : j < rl.length
        · have hjc : j < cl.length := by rw [← HLEN.out]; exact hja
          obtain ⟨g1, off1, cap2, hv, hg1, e0, e1, e2⟩ := sl_av (HROW.out.below hb) hja
          cases hv
          obtain ⟨g2, off2, cap3, hv2, hg2, f0, f1⟩ := sl_col (HC.out.below hb) hjc
          cases hv2
          have HX2 := Lib.hid (kinds_next rl cl j hja HAJ.out)
          have HY2 := Lib.hid (kinds_not rl cl j hja)
          have hka2 := kindAt_eq rl cl j hja hjc
          rw [hka2] at HX2 HY2
          clear hb hka2 f0
          generalize rl[j] = x at *
          generalize cl[j] = c at *
          obtain ⟨xk, xn, xs⟩ := x
          obtain ⟨cn, ck⟩ := c
          simp only at e0 e1 e2 f1 HX2 HY2
          have hal2 : Below wr.heap.size wr (wr.alloc (.cells #[.int .i64 xk, .int .i64 xn, .string xs] 27)) := (Below.refl _ _).alloc (Nat.le_refl _) _
          have HBJ2 := Lib.hid (HBJ.out.trans (hal2.mono HBJ.out.size))
          clear hal2
          by_cases hxc : xk = ck
          · have HF := Lib.hid (HX2.out (by rw [hxc]; simp))
            subst hxc
            clear HX2 HY2
            go_wp2
            refine wp_region_lit_plan [] [(0, 0), (2, 0), (3, 0), (4, 0), (5, 0), (1, 1), (6, 1), (7, 0)] (fun _ => False) (by kernel_rfl) (by kernel_rfl) (fun c a d v w h => by cases d <;> exact h) ?_
            go_wp2_with (first
              | (refine plan_pure (v := _) (by rfl) (by rfl) (by rfl) (by intro _; go_simp; with_reducible rfl) ?_; simp only [List.setIfInBounds_toArray, List.set_cons_zero, List.set_cons_succ]; try go_bits) | (refine plan_read (v := _) (by rfl) (by rfl) (by rfl) (by go_simp; with_reducible rfl) ?_; simp only [List.setIfInBounds_toArray, List.set_cons_zero, List.set_cons_succ]; try go_bits) | (refine plan_readB (v := _) (by rfl) (by rfl) (by rfl) (by intro _ hag; unfold Agree at hag; go_simp; with_reducible rfl) ?_; simp only [List.setIfInBounds_toArray, List.set_cons_zero, List.set_cons_succ]; try go_bits) | (refine plan_skip0 (by rfl) (by rfl) (by rfl) ?_; simp only [List.setIfInBounds_toArray, List.set_cons_zero, List.set_cons_succ]; try go_bits) | (refine plan_skip1 (by rfl) (by rfl) (by rfl) ?_; simp only [List.setIfInBounds_toArray, List.set_cons_zero, List.set_cons_succ]; try go_bits) | (refine plan_skip2 (by rfl) (by rfl) (by rfl) ?_; simp only [List.setIfInBounds_toArray, List.set_cons_zero, List.set_cons_succ]; try go_bits) | (refine plan_skip4 (by rfl) (by rfl) (by rfl) ?_; simp only [List.setIfInBounds_toArray, List.set_cons_zero, List.set_cons_succ]; try go_bits) | (refine plan_any (by rfl) ?_) | (refine plan_keep (by rfl) ?_) | (refine plan_nil ?_) | (with_reducible refine And.intro (by first | assumption | exact Agree.refl _ _ | exact agree_drew _ _ | exact agree_alloc _ (by intro k hk; subst hk; first | omega | (simp; omega))) ?_) | (unfold Act.put; simp only [List.setIfInBounds_toArray, List.set_cons_zero, List.set_cons_succ]))
            exact ⟨⟨j + 1, by go_num, by omega, HF.out, HBJ2.out.drew⟩, by (simp [intOf]) <;> omega⟩
          · have HZ : Hid (fb = false) := by
              show _ = _
              rw [HFB.out]
              exact HY2.out (beq_eq_false_iff_ne.2 hxc)
            have d2 : (xk != ck) = true := bne_iff_ne.2 hxc
            have d3 : (xk == ck) = false := beq_eq_false_iff_ne.2 hxc
            clear HX2 HY2 hxc
            go_wp2
            refine wp_region_lit_plan [] [(0, 0), (2, 0), (3, 0), (4, 0), (5, 0), (1, 1), (6, 1), (7, 0)] (fun _ => False) (by kernel_rfl) (by kernel_rfl) (fun c a d v w h => by cases d <;> exact h) ?_
            go_wp2_with (first
              | (refine plan_pure (v := _) (by rfl) (by rfl) (by rfl) (by intro _; go_simp; with_reducible rfl) ?_; simp only [List.setIfInBounds_toArray, List.set_cons_zero, List.set_cons_succ]; try go_bits) | (refine plan_read (v := _) (by rfl) (by rfl) (by rfl) (by go_simp; with_reducible rfl) ?_; simp only [List.setIfInBounds_toArray, List.set_cons_zero, List.set_cons_succ]; try go_bits) | (refine plan_readB (v := _) (by rfl) (by rfl) (by rfl) (by intro _ hag; unfold Agree at hag; go_simp; with_reducible rfl) ?_; simp only [List.setIfInBounds_toArray, List.set_cons_zero, List.set_cons_succ]; try go_bits) | (refine plan_skip0 (by rfl) (by rfl) (by rfl) ?_; simp only [List.setIfInBounds_toArray, List.set_cons_zero, List.set_cons_succ]; try go_bits) | (refine plan_skip1 (by rfl) (by rfl) (by rfl) ?_; simp only [List.setIfInBounds_toArray, List.set_cons_zero, List.set_cons_succ]; try go_bits) | (refine plan_skip2 (by rfl) (by rfl) (by rfl) ?_; simp only [List.setIfInBounds_toArray, List.set_cons_zero, List.set_cons_succ]; try go_bits) | (refine plan_skip4 (by rfl) (by rfl) (by rfl) ?_; simp only [List.setIfInBounds_toArray, List.set_cons_zero, List.set_cons_succ]; try go_bits) | (refine plan_any (by rfl) ?_) | (refine plan_keep (by rfl) ?_) | (refine plan_nil ?_) | (with_reducible refine And.intro (by first | assumption | exact Agree.refl _ _ | exact agree_drew _ _ | exact agree_alloc _ (by intro k hk; subst hk; first | omega | (simp; omega))) ?_) | (unfold Act.put; simp only [List.setIfInBounds_toArray, List.set_cons_zero, List.set_cons_succ]))
            go_ret
            exact ⟨by rw [HZ.out]; rfl, HBJ2.out.drew⟩
        · obtain rfl : j = rl.length := by omega
          have e5 : fb = true := by
            have := HAJ.out
            rw [HFB.out]
            unfold kindsB
            have hl : (List.range rl.length).take rl.length = List.range rl.length := by rw [List.take_of_length_le (by simp)]
            rw [hl] at this
            exact this
          have HZ := Lib.hid e5
          clear hb e5
          go_wp2
          go_ret
          exact ⟨by rw [HZ.out]; rfl, HBJ.out⟩
  · have d1 : ((rl.length : Int) != (cl.length : Int)) = true := bne_iff_ne.2 (by omega)
    have d2 : ((rl.length : Int) == (cl.length : Int)) = false := beq_eq_false_iff_ne.2 (by omega)
    have HZ : Hid (fb = false) := by
      show _ = _
      rw [HFB.out, decide_eq_false hlen]; rfl
    clear HFB
    go_enter Tryd.func68, Tryd.ntmps68
    go_wp2
    go_ret
    exact ⟨by rw [HZ.out]; rfl, Below.refl _ _⟩

/-- The number of what is wrong with a row. -/
def chkS (s : SchV) (i : Int) (row : List AV) : Int := if rightS s = false ∨ (decide (0 ≤ i) && decide (i ≤ (s.idx.length : Int) - 1)) = false then 1 else if fitB s.cols row = false then 13 else 0

set_option maxRecDepth 100000 in
set_option maxHeartbeats 2000000 in
theorem checked_any (w : World) (B B' : Nat → Prop) (s : SchV) (i : Int) (v : Value) (row : List AV) (h : SchAt w B s) (hr : Sl w B' 3 v row.length (rowCells row)) (hrl : row.length ≤ 1000000) :
    Calls Tryd.prog 69 #[s.agg, .int .i64 i, v] w fun e w' => e = .returned (.int .i64 (chkS s i row)) ∧ Below w.heap.size w w' := by
  obtain ⟨nm, cv, cl, iv, il, lim, prt, by_⟩ := s
  have HS := Lib.hid h
  obtain ⟨h1, h2, h3, h4⟩ := h
  simp only at h1 h2 h3 h4
  obtain ⟨pc, cc, rfl, _, hcc⟩ := h1.form
  obtain ⟨pi, ci, rfl, hci1, hci⟩ := h2.1.form
  obtain ⟨pr, cr, rfl, hpr1, hpr2⟩ := hr.form
  have hal : Below w.heap.size w (w.alloc (.cells #[.string nm, .slice pc cl.length cc, .slice pi il.length ci, .int .i64 lim, .int .i64 prt, .int .i64 by_] 47)) := (Below.refl _ _).alloc (Nat.le_refl _) _
  have HBK : Hid (Blk (w.alloc (.cells #[.string nm, .slice pc cl.length cc, .slice pi il.length ci, .int .i64 lim, .int .i64 prt, .int .i64 by_] 47)) w.heap.size 47 [.string nm, .slice pc cl.length cc, .slice pi il.length ci, .int .i64 lim, .int .i64 prt, .int .i64 by_]) := Blk.new w _ _
  have HRT := Lib.hid (fun W hb => schright_any W B ⟨nm, .slice pc cl.length cc, cl, .slice pi il.length ci, il, lim, prt, by_⟩ (SchAt.below (w' := W) HS.out hb))
  have HROW := Lib.hid hr
  have HIX := Lib.hid h2
  have HCL := Lib.hid h1
  have HALW := Lib.hid hal
  obtain ⟨x0, x1, x2, x3, x4, x5⟩ := sch_cells HBK.out
  simp only [SchV.agg, chkS] at HRT ⊢
  have HFT := Lib.hid (fun W hb => scfits_any W B B' (.slice pc cl.length cc) (.slice pr row.length cr) cl row (Sl.below (w' := W) HCL.out hb) (Sl.below (w' := W) HROW.out hb) hrl)
  have HWT := Lib.hid (fun W => within_any W i 0 ((il.length : Int) - 1))
  clear h1 h2 h3 h4 hal hr hcc hpr1 hpr2 HS HIX
  generalize rightS _ = r1 at *
  generalize (decide (0 ≤ i) && decide (i ≤ (il.length : Int) - 1)) = r2 at *
  generalize fitB cl row = r3 at *
  clear x0
  cases r1
  · simp only [true_or, if_true]
    go_enter Tryd.func69, Tryd.ntmps69
    go_wp2_with (first
      | (go_at_call 49; refine (HRT.out _ HALW.out).mono ?_; clear HRT; rintro e w2 ⟨rfl, hb2⟩; have HB2 := Lib.hid (HALW.out.trans (hb2.mono HALW.out.size)); clear hb2))
    go_ret
    exact ⟨rfl, HB2.out⟩
  · cases r2
    · simp only [or_true, if_true]
      go_enter Tryd.func69, Tryd.ntmps69
      go_wp2_with (first
        | (go_at_call 49; refine (HRT.out _ HALW.out).mono ?_; clear HRT; rintro e w2 ⟨rfl, hb2⟩; have HB2 := Lib.hid (HALW.out.trans (hb2.mono HALW.out.size)); obtain ⟨y0, y1, y2, y3, y4, y5⟩ := sch_cells (HBK.out.below hb2); clear hb2 x1 x2 x3 x4 x5 y0 y1 y3 y4 y5)
        | (go_at_call 67; refine (HWT.out _).mono ?_; clear HWT; rintro e w3 ⟨rfl, rfl⟩))
      go_ret
      exact ⟨rfl, HB2.out⟩
    · simp only [Bool.true_eq_false, or_self, if_false]
      cases r3
      all_goals
        simp only [Bool.true_eq_false, if_false, if_true]
        go_enter Tryd.func69, Tryd.ntmps69
        go_wp2_with (first
          | (go_at_call 49; refine (HRT.out _ HALW.out).mono ?_; clear HRT; rintro e w2 ⟨rfl, hb2⟩; have HB2 := Lib.hid (HALW.out.trans (hb2.mono HALW.out.size)); obtain ⟨y0, y1, y2, y3, y4, y5⟩ := sch_cells (HBK.out.below hb2); clear hb2 x1 x2 x3 x4 x5 y0 y3 y4 y5)
          | (go_at_call 67; refine (HWT.out _).mono ?_; clear HWT; rintro e w3 ⟨rfl, rfl⟩)
          | (go_at_call 68; refine (HFT.out _ HB2.out).mono ?_; clear HFT; rintro e w3 ⟨rfl, hb3⟩; have HB3 := Lib.hid (HB2.out.trans (hb3.mono HB2.out.size)); clear hb3))
        go_ret
        exact ⟨rfl, HB3.out⟩
end Go.Proofs.YtlgohkdckdnmhaaDoor
/- Schemas: a row's key. -/
namespace Go.Proofs.YtlgohkdckdnmhaaDoor
open Go.RowKit Go.Afx

theorem pickO_fit {row : List AV} (ps : List Int) (h : ∀ a ∈ row, fit64 a.n) : ∀ a ∈ pickO row ps, fit64 a.n := by
  intro a ha
  unfold pickO at ha
  split at ha
  · unfold pickR at ha
    obtain ⟨p, _, rfl⟩ := List.mem_map.1 ha
    rw [List.getD_eq_getElem?_getD]
    cases hg : row[p.toNat]? with
    | none => simp [fit64]
    | some b => simpa using h b (List.mem_of_getElem? hg)
  · simp at ha
theorem pickO_len (row : List AV) (ps : List Int) : (pickO row ps).length ≤ ps.length := by
  unfold pickO
  split
  · rw [pickR_len]; omega
  · simp
theorem rowKey_len (l : List AV) : (rowKey l).length ≤ 410 * l.length := by
  unfold rowKey
  split
  · have h := keysB_len l ‹_› l.length
    rwa [List.take_length] at h
  · simp
theorem sl_anyw {w : World} {B : Nat → Prop} {sz : Nat} {v : Value} {n : Nat} {cs : List Value} (h : Sl w B sz v n cs) : Sl w (fun _ => True) sz v n cs := h.mono (Nat.le_refl _) (fun _ _ _ => rfl) (fun _ _ _ => trivial)
/-- The key by an index, of a schema's indexes. -/
def skey (il : List IdxV) (row : List AV) (x : IdxV) : List UInt8 := rowKey (pickO row x.l) ++ (if x.unique then [] else rowKey (pickO row (il.headD x).l))

set_option maxRecDepth 100000 in
set_option maxHeartbeats 2000000 in
theorem sckey_any (w : World) (hm : Mx w) (B B' : Nat → Prop) (s : SchV) (i : Nat) (v : Value) (row : List AV) (h : SchAt w B s) (hr : Sl w B' 3 v row.length (rowCells row)) (hi : i < s.idx.length) (hf : ∀ a ∈ row, fit64 a.n)
    (hrl : row.length ≤ 1000) (hx : ∀ x ∈ s.idx, x.l.length ≤ 200) :
    Calls Tryd.prog 70 #[s.agg, .int .i64 (i : Int), v] w fun e w' => e = .returned (.string (bs (skey s.idx row s.idx[i]))) ∧ Below w.heap.size w w' := by
  obtain ⟨nm, cv, cl, iv, il, lim, prt, by_⟩ := s
  obtain ⟨h1, h2, h3, h4⟩ := h
  simp only at h1 h2 h3 h4 hi hx
  simp only [SchV.agg]
  obtain ⟨pc, cc, rfl, _, hcc⟩ := h1.form
  have hidx := h2.1
  obtain ⟨g, off, ci, rfl, hci1, hci, _, hglt0, _⟩ := hidx.place (by omega)
  have hal : Below w.heap.size w (w.alloc (.cells #[.string nm, .slice pc cl.length cc, .slice (some ⟨g, off, none⟩) il.length ci, .int .i64 lim, .int .i64 prt, .int .i64 by_] 47)) := (Below.refl _ _).alloc (Nat.le_refl _) _
  have HBK : Hid (Blk (w.alloc (.cells #[.string nm, .slice pc cl.length cc, .slice (some ⟨g, off, none⟩) il.length ci, .int .i64 lim, .int .i64 prt, .int .i64 by_] 47)) w.heap.size 47 [.string nm, .slice pc cl.length cc, .slice (some ⟨g, off, none⟩) il.length ci, .int .i64 lim, .int .i64 prt, .int .i64 by_]) := Blk.new w _ _
  have HALW := Lib.hid hal
  have HIX := Lib.hid (h2.below hal)
  have HROW := Lib.hid (hr.below hal)
  have HM := Lib.hid (hm.below hal)
  have HF := Lib.hid hf
  obtain ⟨x0, x1, x2, x3, x4, x5⟩ := sch_cells HBK.out
  clear x0 x1 x3 x4 x5 h1 h2 h3 h4 hidx hm hr hf hcc
  obtain ⟨g', off', cap', hv, hglt, e0, e1⟩ := sl_idx HIX.out.1 hi
  cases hv
  have hil0 : 0 < il.length := by omega
  obtain ⟨g', off', cap', hv, hglt', d0, d1⟩ := sl_idx HIX.out.1 hil0
  cases hv
  have hxi := hx il[i] (List.getElem_mem hi)
  have hx0 := hx il[0] (List.getElem_mem hil0)
  have hsl := HIX.out.2 il[i] (List.getElem_mem hi)
  have hsl0 := HIX.out.2 il[0] (List.getElem_mem hil0)
  have hhd : (il.headD il[i]) = il[0] := by cases il with
    | nil => simp at hil0
    | cons a t => rfl
  have HSK : Hid (skey il row il[i] = rowKey (pickO row il[i].l) ++ (if il[i].unique then [] else rowKey (pickO row il[0].l))) := by
    show _ = _
    unfold skey
    rw [hhd]
  generalize skey il row il[i] = out at *
  clear hhd hx
  generalize hxx : il[i] = x at *
  generalize hyy : il[0] = y at *
  clear hxx hyy d1
  obtain ⟨xv, xl, xu⟩ := x
  obtain ⟨yv, yl, yu⟩ := y
  simp only at *
  rw [Nat.zero_mul, Nat.add_zero] at d0
  obtain ⟨px, cx, rfl, _, _⟩ := hsl.form
  generalize hw1 : w.alloc (.cells #[.string nm, .slice pc cl.length cc, .slice (some ⟨g, off, none⟩) il.length ci, .int .i64 lim, .int .i64 prt, .int .i64 by_] 47) = w1 at *
  have hb1 : Below w1.heap.size w1 (w1.alloc (.cells #[.slice px xl.length cx, .bool xu] 55)) := (Below.refl _ _).alloc (Nat.le_refl _) _
  have HB1 := Lib.hid hb1
  have HBX : Hid (Blk (w1.alloc (.cells #[.slice px xl.length cx, .bool xu] 55)) w1.heap.size 55 [.slice px xl.length cx, .bool xu]) := Blk.new w1 _ _
  have HY0 := Lib.hid (fun W (hb : Below w1.heap.size w1 W) => hsl0.below hb)
  have HPK := Lib.hid (fun W (hb : Below w1.heap.size w1 W) => pick_any W B' B v _ row xl (HROW.out.below hb) (hsl.below hb) hrl (by omega))
  have HPK0 := Lib.hid (fun W (hb : Below w1.heap.size w1 W) => pick_any W B' B v yv row yl (HROW.out.below hb) (hsl0.below hb) hrl (by omega))
  have HKY := Lib.hid (fun W (hb : Below w1.heap.size w1 W) v (hv : Sl W (fun _ => True) 3 v (pickO row xl).length (rowCells (pickO row xl))) => key_any W (HM.out.below hb) (fun _ => True) v (pickO row xl) hv (pickO_fit _ HF.out) (by have := pickO_len row xl; omega))
  have HKY0 := Lib.hid (fun W (hb : Below w1.heap.size w1 W) v (hv : Sl W (fun _ => True) 3 v (pickO row yl).length (rowCells (pickO row yl))) => key_any W (HM.out.below hb) (fun _ => True) v (pickO row yl) hv (pickO_fit _ HF.out) (by have := pickO_len row yl; omega))
  have c0 := HBX.out.cell 0
  have c1 := HBX.out.cell 1
  simp only [List.getElem?_cons_zero, List.getElem?_cons_succ] at c0 c1
  have hsum : (bs (rowKey (pickO row xl))).size + (bs (rowKey (pickO row yl))).size ≤ 9223372036854775807 := by
    rw [bs_size, bs_size]
    have := rowKey_len (pickO row xl)
    have := rowKey_len (pickO row yl)
    have := pickO_len row xl
    have := pickO_len row yl
    omega
  clear hsl hsl0 hb1
  generalize rowKey (pickO row xl) = kx at *
  generalize rowKey (pickO row yl) = ky at *
  cases xu
  · simp only [Bool.false_eq_true, if_false] at HSK
    go_enter Tryd.func70, Tryd.ntmps70
    go_wp2_with fail
    clear hw1
    refine (HPK.out _ HB1.out).mono ?_
    rintro e w2 ⟨p1, rfl, hp1, hb2⟩
    have HB2 := Lib.hid (HB1.out.trans (hb2.mono HB1.out.size))
    have HP1 := Lib.hid (sl_anyw hp1)
    have HBX2 := Lib.hid (HBX.out.below hb2)
    clear hp1 hb2 c0 c1 HPK
    go_wp2_with fail
    refine (HKY.out _ HB2.out p1 HP1.out).mono ?_
    rintro e w3 ⟨rfl, hb3⟩
    have HB3 := Lib.hid (HB2.out.trans (hb3.mono HB2.out.size))
    have hbx3 := HBX2.out.below hb3
    have c1 := hbx3.cell 1
    simp only [List.getElem?_cons_zero, List.getElem?_cons_succ] at c1
    have x2 := (HBK.out.below HB3.out).cell 2
    simp only [List.getElem?_cons_zero, List.getElem?_cons_succ] at x2
    have d0 : w3.cell? ⟨g, off, none⟩ = some yv := (HB3.out.cell hglt').trans d0
    clear hbx3 hb3 HKY
    go_wp2_with fail
    refine (HPK0.out _ HB3.out).mono ?_
    rintro e w4 ⟨p2, rfl, hp2, hb4⟩
    have HB4 := Lib.hid (HB3.out.trans (hb4.mono HB3.out.size))
    have HP2 := Lib.hid (sl_anyw hp2)
    clear hp2 hb4 HPK0
    go_wp2_with fail
    refine (HKY0.out _ HB4.out p2 HP2.out).mono ?_
    rintro e w5 ⟨rfl, hb5⟩
    have HB5 := Lib.hid (HB4.out.trans (hb5.mono HB4.out.size))
    clear hb5
    go_wp2
    go_ret
    exact ⟨by rw [HSK.out, ← bs_append]; rfl, HALW.out.trans (HB5.out.mono HALW.out.size)⟩
  · simp only [if_true, List.append_nil] at HSK
    go_enter Tryd.func70, Tryd.ntmps70
    go_wp2_with fail
    clear hw1
    refine (HPK.out _ HB1.out).mono ?_
    rintro e w2 ⟨p1, rfl, hp1, hb2⟩
    have HB2 := Lib.hid (HB1.out.trans (hb2.mono HB1.out.size))
    have HP1 := Lib.hid (sl_anyw hp1)
    have HBX2 := Lib.hid (HBX.out.below hb2)
    clear hp1 hb2 c0 c1 HPK
    go_wp2_with fail
    refine (HKY.out _ HB2.out p1 HP1.out).mono ?_
    rintro e w3 ⟨rfl, hb3⟩
    have HB3 := Lib.hid (HB2.out.trans (hb3.mono HB2.out.size))
    have hbx3 := HBX2.out.below hb3
    have c1 := hbx3.cell 1
    simp only [List.getElem?_cons_zero, List.getElem?_cons_succ] at c1
    clear hbx3 hb3 HKY
    go_wp2
    go_ret
    exact ⟨by rw [HSK.out]; rfl, HALW.out.trans (HB3.out.mono HALW.out.size)⟩
end Go.Proofs.YtlgohkdckdnmhaaDoor
/- The document's schemas: Great. -/
namespace Go.Proofs.YtlgohkdckdnmhaaDoor
open Go.RowKit Go.Afx

def colBig (c : ColV) : Bool := decide (100 < c.name.size)
def idxBig (x : IdxV) : Bool := decide (12 < x.l.length)
def greatS (nm : ByteArray) (cl : List ColV) (il : List IdxV) : Bool := decide (12 < cl.length) || decide (8 < il.length) || decide (100 < nm.size) || cl.any colBig || il.any idxBig
theorem greatS_no {nm : ByteArray} {cl : List ColV} {il : List IdxV} (h : greatS nm cl il = false) : cl.length ≤ 12 ∧ il.length ≤ 8 ∧ nm.size ≤ 100 ∧ (∀ c ∈ cl, c.name.size ≤ 100) ∧ ∀ x ∈ il, x.l.length ≤ 12 := by
  unfold greatS at h
  simp only [Bool.or_eq_false_iff, decide_eq_false_iff_not, List.any_eq_false] at h
  obtain ⟨⟨⟨⟨h1, h2⟩, h3⟩, h4⟩, h5⟩ := h
  refine ⟨by omega, by omega, by omega, fun c hc => ?_, fun x hx => ?_⟩
  · have := h4 c hc; unfold colBig at this; simpa using this
  · have := h5 x hx; unfold idxBig at this; simpa using this
theorem any_next {α : Type} (f : α → Bool) (l : List α) (k : Nat) (h : k < l.length) (ha : (l.take k).any f = false) : f l[k] = false → (l.take (k + 1)).any f = false := fun hf => by
  rw [← List.take_append_getElem h, List.any_append, ha]
  simp [hf]
theorem any_yes {α : Type} (f : α → Bool) (l : List α) (k : Nat) (h : k < l.length) : f l[k] = true → l.any f = true := fun hf => by
  rw [List.any_eq_true]
  exact ⟨l[k], List.getElem_mem h, hf⟩

set_option maxRecDepth 100000 in
set_option maxHeartbeats 1000000 in
theorem great_sch (w : World) (B : Nat → Prop) (s : SchV) (h1 : Sl w B 2 s.colsV s.cols.length (colCells s.cols)) (h2 : IdxAt w B s.idxV s.idx) :
    Calls Tryd.prog 32 #[s.agg] w fun e w' => e = .returned (.bool (greatS s.name s.cols s.idx)) ∧ Below w.heap.size w w' := by
  obtain ⟨nm, cv, cl, iv, il, lim, prt, by_⟩ := s
  simp only at h1 h2
  simp only [SchV.agg]
  obtain ⟨pc, cc, rfl, hcl, hcc⟩ := h1.form
  obtain ⟨pi, ci, rfl, hil, hci⟩ := h2.1.form
  have hal : Below w.heap.size w (w.alloc (.cells #[.string nm, .slice pc cl.length cc, .slice pi il.length ci, .int .i64 lim, .int .i64 prt, .int .i64 by_] 47)) := (Below.refl _ _).alloc (Nat.le_refl _) _
  have HBK : Hid (Blk (w.alloc (.cells #[.string nm, .slice pc cl.length cc, .slice pi il.length ci, .int .i64 lim, .int .i64 prt, .int .i64 by_] 47)) w.heap.size 47 [.string nm, .slice pc cl.length cc, .slice pi il.length ci, .int .i64 lim, .int .i64 prt, .int .i64 by_]) := Blk.new w _ _
  have HAL := Lib.hid hal
  have H1 := Lib.hid (h1.below hal)
  have H2 := Lib.hid (h2.below hal)
  have hg : greatS nm cl il = (decide ((12 : Int) < (cl.length : Int)) || decide ((8 : Int) < (il.length : Int)) || decide ((100 : Int) < (nm.size : Int)) || cl.any colBig || il.any idxBig) := by
    unfold greatS
    congr 2
    congr 1
    congr 1
    all_goals first
      | rfl
      | (rw [Bool.eq_iff_iff]; simp; omega)
  generalize greatS nm cl il = out at *
  clear h1 h2 hal
  by_cases a1 : (12 : Int) < (cl.length : Int)
  · have d1 : decide ((12 : Int) < (cl.length : Int)) = true := decide_eq_true a1
    rw [d1] at hg
    have HG := Lib.hid hg
    clear hg
    go_enter Tryd.func32, Tryd.ntmps32
    go_wp2
    go_ret
    exact ⟨by rw [HG.out]; rfl, HAL.out⟩
  have d1 : decide ((12 : Int) < (cl.length : Int)) = false := decide_eq_false a1
  rw [d1, Bool.false_or] at hg
  by_cases a2 : (8 : Int) < (il.length : Int)
  · have d2 : decide ((8 : Int) < (il.length : Int)) = true := decide_eq_true a2
    rw [d2] at hg
    have HG := Lib.hid hg
    clear hg
    go_enter Tryd.func32, Tryd.ntmps32
    go_wp2
    go_ret
    exact ⟨by rw [HG.out]; rfl, HAL.out⟩
  have d2 : decide ((8 : Int) < (il.length : Int)) = false := decide_eq_false a2
  rw [d2, Bool.false_or] at hg
  by_cases a3 : (100 : Int) < (nm.size : Int)
  · have d3 : decide ((100 : Int) < (nm.size : Int)) = true := decide_eq_true a3
    rw [d3] at hg
    have HG := Lib.hid hg
    clear hg
    go_enter Tryd.func32, Tryd.ntmps32
    go_wp2
    go_ret
    exact ⟨by rw [HG.out]; rfl, HAL.out⟩
  have d3 : decide ((100 : Int) < (nm.size : Int)) = false := decide_eq_false a3
  rw [d3, Bool.false_or] at hg
  have HG := Lib.hid hg
  have hl1 : cl.length ≤ 12 := by omega
  have hl2 : il.length ≤ 8 := by omega
  clear hg
  go_enter Tryd.func32, Tryd.ntmps32
  go_wp2
  generalize hw1 : w.alloc (.cells #[.string nm, .slice pc cl.length cc, .slice pi il.length ci, .int .i64 lim, .int .i64 prt, .int .i64 by_] 47) = w1 at *
  clear hw1 d1 d2 d3 a1 a2 a3
  obtain ⟨x0, x1, x2, x3, x4, x5⟩ := sch_cells HBK.out
  clear x0 x3 x4 x5
  go_loop [3] (fun i => ∃ k : Nat, i = .int .i64 k ∧ k ≤ cl.length ∧ (cl.take k).any colBig = false) (fun i => cl.length - (intOf i).toNat)
  case atStart => exact ⟨0, rfl, Nat.zero_le _, rfl⟩
  case round =>
    obtain ⟨k, rfl, hk, ha⟩ := hrel
    have HA := Lib.hid ha
    clear ha
    by_cases hka : k < cl.length
    · obtain ⟨g1, off1, cap2, hv, hg1, e0, e1⟩ := sl_col H1.out hka
      cases hv
      have HX := Lib.hid (any_next colBig cl k hka HA.out)
      have HY := Lib.hid (any_yes colBig cl k hka)
      generalize cl[k] = c at *
      by_cases hb : (100 : Int) < (c.name.size : Int)
      · have hcb : colBig c = true := decide_eq_true (by omega)
        have d1 : decide ((100 : Int) < (c.name.size : Int)) = true := decide_eq_true hb
        have HF := Lib.hid (HY.out hcb)
        clear HX HY hcb hb
        go_wp2
        go_ret
        exact ⟨by rw [HG.out, HF.out]; rfl, HAL.out⟩
      · have hcb : colBig c = false := decide_eq_false (by omega)
        have d1 : decide ((100 : Int) < (c.name.size : Int)) = false := decide_eq_false hb
        have HF := Lib.hid (HX.out hcb)
        clear HX HY hcb hb
        go_wp2
        go_round
        case rel => exact ⟨k + 1, by go_num, by omega, HF.out⟩
        case measure => (simp [intOf]) <;> omega
    · obtain rfl : k = cl.length := by omega
      have hca : out = il.any idxBig := by
        have := HA.out
        rw [List.take_length] at this
        rw [HG.out, this, Bool.false_or]
      have HG2 := Lib.hid hca
      clear hca hka hk
      go_wp2
      go_loop [4] (fun i => ∃ k : Nat, i = .int .i64 k ∧ k ≤ il.length ∧ (il.take k).any idxBig = false) (fun i => il.length - (intOf i).toNat)
      case atStart => exact ⟨0, rfl, Nat.zero_le _, rfl⟩
      case round =>
        obtain ⟨k, rfl, hk, ha⟩ := hrel
        have HA2 := Lib.hid ha
        clear ha
        by_cases hka : k < il.length
        · obtain ⟨g1, off1, cap2, hv, hg1, e0, e1⟩ := sl_idx H2.out.1 hka
          cases hv
          have hxs := H2.out.2 il[k] (List.getElem_mem hka)
          have HX := Lib.hid (any_next idxBig il k hka HA2.out)
          have HY := Lib.hid (any_yes idxBig il k hka)
          generalize il[k] = c at *
          obtain ⟨cv, cl2, cu⟩ := c
          simp only at e0 hxs
          obtain ⟨px, cx, rfl, _, _⟩ := hxs.form
          clear hxs
          by_cases hb : (12 : Int) < (cl2.length : Int)
          · have hcb : idxBig ⟨.slice px cl2.length cx, cl2, cu⟩ = true := decide_eq_true (by simp only; omega)
            have d1 : decide ((12 : Int) < (cl2.length : Int)) = true := decide_eq_true hb
            have HF := Lib.hid (HY.out hcb)
            clear HX HY hcb hb
            go_wp2
            go_ret
            exact ⟨by rw [HG2.out, HF.out]; rfl, HAL.out⟩
          · have hcb : idxBig ⟨.slice px cl2.length cx, cl2, cu⟩ = false := decide_eq_false (by simp only; omega)
            have d1 : decide ((12 : Int) < (cl2.length : Int)) = false := decide_eq_false hb
            have HF := Lib.hid (HX.out hcb)
            clear HX HY hcb hb
            go_wp2
            go_round
            case rel => exact ⟨k + 1, by go_num, by omega, HF.out⟩
            case measure => (simp [intOf]) <;> omega
        · obtain rfl : k = il.length := by omega
          have e5 : out = false := by
            have := HA2.out
            rw [List.take_length] at this
            rw [HG2.out, this]
          have E5 := Lib.hid e5
          clear e5
          go_wp2
          go_ret
          exact ⟨by rw [E5.out]; rfl, HAL.out⟩
end Go.Proofs.YtlgohkdckdnmhaaDoor
/- Schemas: Key. -/
namespace Go.Proofs.YtlgohkdckdnmhaaDoor
open Go.RowKit Go.Afx

/-- The key by an index that may not be there. -/
def keyO (s : SchV) (i : Int) (row : List AV) : List UInt8 := if chkS s i row = 0 then (match s.idx[i.toNat]? with
  | some x => skey s.idx row x
  | none => []) else []
theorem chk_in {s : SchV} {i : Int} {row : List AV} (h : chkS s i row = 0) : ∃ n : Nat, i = (n : Int) ∧ n < s.idx.length ∧ rightS s = true ∧ fitB s.cols row = true := by
  unfold chkS at h
  split at h
  · omega
  · split at h
    · omega
    · rename_i h1 h2
      rw [not_or] at h1
      obtain ⟨h3, h4⟩ := h1
      rw [Bool.not_eq_false, Bool.and_eq_true, decide_eq_true_eq, decide_eq_true_eq] at h4
      rw [Bool.not_eq_false] at h2 h3
      exact ⟨i.toNat, by omega, by omega, h3, h2⟩
theorem chk_cases (s : SchV) (i : Int) (row : List AV) : chkS s i row = 0 ∨ chkS s i row = 1 ∨ chkS s i row = 13 := by
  unfold chkS
  split
  · simp
  · split <;> simp

set_option maxRecDepth 100000 in
set_option maxHeartbeats 2000000 in
theorem schkey_any (w : World) (hm : Mx w) (B B' : Nat → Prop) (s : SchV) (i : Int) (v : Value) (row : List AV) (h : SchAt w B s) (hr : Sl w B' 3 v row.length (rowCells row)) (hf : ∀ a ∈ row, fit64 a.n)
    (hrl : row.length ≤ 1000) (hx : ∀ x ∈ s.idx, x.l.length ≤ 200) :
    Calls Tryd.prog 34 #[s.agg, .int .i64 i, v] w fun e w' => e = .returned (.tuple #[.string (bs (keyO s i row)), .int .i64 (chkS s i row)]) ∧ Below w.heap.size w w' := by
  obtain ⟨nm, cv, cl, iv, il, lim, prt, by_⟩ := s
  have HS := Lib.hid h
  obtain ⟨h1, h2, h3, h4⟩ := h
  simp only at h1 h2 h3 h4 hx
  obtain ⟨pc, cc, rfl, _, hcc⟩ := h1.form
  obtain ⟨pi, ci, rfl, hci1, hci⟩ := h2.1.form
  obtain ⟨pr, cr, rfl, hpr1, hpr2⟩ := hr.form
  have hal : Below w.heap.size w (w.alloc (.cells #[.string nm, .slice pc cl.length cc, .slice pi il.length ci, .int .i64 lim, .int .i64 prt, .int .i64 by_] 47)) := (Below.refl _ _).alloc (Nat.le_refl _) _
  have HBK : Hid (Blk (w.alloc (.cells #[.string nm, .slice pc cl.length cc, .slice pi il.length ci, .int .i64 lim, .int .i64 prt, .int .i64 by_] 47)) w.heap.size 47 [.string nm, .slice pc cl.length cc, .slice pi il.length ci, .int .i64 lim, .int .i64 prt, .int .i64 by_]) := Blk.new w _ _
  have HROW := Lib.hid hr
  have HALW := Lib.hid hal
  have HM := Lib.hid hm
  have HF := Lib.hid hf
  have HX := Lib.hid hx
  obtain ⟨x0, x1, x2, x3, x4, x5⟩ := sch_cells HBK.out
  clear h1 h2 h3 h4 hal hr hcc hpr1 hpr2 hm hf hx
  simp only [SchV.agg]
  have HCK := Lib.hid (fun W hb => checked_any W B B' ⟨nm, .slice pc cl.length cc, cl, .slice pi il.length ci, il, lim, prt, by_⟩ i (.slice pr row.length cr) row (SchAt.below (w' := W) HS.out hb) (Sl.below (w' := W) HROW.out hb) (by omega))
  simp only [SchV.agg] at HCK
  obtain ⟨c, hc⟩ : ∃ c, chkS ⟨nm, .slice pc cl.length cc, cl, .slice pi il.length ci, il, lim, prt, by_⟩ i row = c := ⟨_, rfl⟩
  have hko : keyO ⟨nm, .slice pc cl.length cc, cl, .slice pi il.length ci, il, lim, prt, by_⟩ i row = if c = 0 then (match il[i.toNat]? with
    | some x => skey il row x
    | none => []) else [] := by unfold keyO; rw [hc]
  rw [hc] at HCK ⊢
  rw [hko]
  clear hko
  by_cases h0 : c = 0
  · subst h0
    obtain ⟨n, rfl, hn, _, _⟩ := chk_in hc
    simp only at hn
    have hkk := fun W hb hmm => sckey_any W hmm B B' ⟨nm, .slice pc cl.length cc, cl, .slice pi il.length ci, il, lim, prt, by_⟩ n (.slice pr row.length cr) row (SchAt.below (w' := W) HS.out hb) (Sl.below (w' := W) HROW.out hb) hn HF.out hrl HX.out
    simp only [SchV.agg] at hkk
    have HKK := Lib.hid hkk
    rw [if_pos rfl, Int.toNat_natCast, List.getElem?_eq_getElem hn]
    simp only
    generalize skey il row il[n] = out at *
    clear hc hkk
    go_enter Tryd.func34, Tryd.ntmps34
    go_wp2_with (first
      | (go_at_call 69; refine (HCK.out _ HALW.out).mono ?_; clear HCK; rintro e w2 ⟨rfl, hb2⟩; have HB2 := Lib.hid (HALW.out.trans (hb2.mono HALW.out.size)); obtain ⟨y0, y1, y2, y3, y4, y5⟩ := sch_cells (HBK.out.below hb2); clear hb2 x0 x1 x2 x3 x4 x5)
      | (go_at_call 70; refine (HKK.out _ HB2.out (HM.out.below HB2.out)).mono ?_; clear HKK; rintro e w3 ⟨rfl, hb3⟩; have HB3 := Lib.hid (HB2.out.trans (hb3.mono HB2.out.size)); clear hb3))
    exact bodyPost_ret (v := .tuple #[.string (bs out), .int .i64 0]) (by simp [results, Tryd.results34, go_sem]) rfl ⟨rfl, HB3.out⟩
  · rw [if_neg h0]
    have hc0 : (c != 0) = true := bne_iff_ne.2 h0
    clear hc h0
    go_enter Tryd.func34, Tryd.ntmps34
    go_wp2_with (first
      | (go_at_call 69; refine (HCK.out _ HALW.out).mono ?_; clear HCK; rintro e w2 ⟨rfl, hb2⟩; have HB2 := Lib.hid (HALW.out.trans (hb2.mono HALW.out.size)); clear hb2))
    exact bodyPost_ret (v := .tuple #[.string ⟨#[]⟩, .int .i64 c]) (by simp [results, Tryd.results34, go_sem]) rfl ⟨rfl, HB2.out⟩
end Go.Proofs.YtlgohkdckdnmhaaDoor
/- Contracts of slices.Clone and slices.Delete at []int. -/
namespace Go.Proofs.YtlgohkdckdnmhaaDoor
open Go.RowKit Go.Afx

@[go_sem] theorem eqlNilInts (w : World) (a : Option Addr) (n c : Nat) : (binOp .eql 40 (.slice a n c) (.slice none 0 0)).run Tryd.prog w = .ok (.bool a.isNone) w := Lib.run_eql_slice_nil w _ _ a n c 0 0 Tryd.underlying40

theorem elemInt : Elem Tryd.prog 40 3 1 8 (.int .i64 0) :=
  ⟨Tryd.underlying40, by kernel_rfl, rfl, by omega, by intro u hu; simp [Value.cells] at hu; subst hu; rfl⟩
set_option maxRecDepth 100000 in
set_option maxHeartbeats 400000 in
theorem clone_int (w : World) (B : Nat → Prop) (v : Value) (n : Nat) (cs : List Value) (h : Sl w B 1 v n cs) (hn : n ≤ 1000000000) :
    Calls Tryd.prog 82 #[v] w fun e w' => ∃ v', e = .returned v' ∧ Own w' 3 1 v' n cs ∧ Below w.heap.size w w' ∧ (∀ k, v'.ownBlock = some k → w.heap.size ≤ k) := by
  obtain ⟨p, cap, rfl, _, _⟩ := h.form
  cases p with
  | none =>
    have hn0 : n = 0 := by
      rcases h.2.2 with ⟨_, _, _, h0, _⟩ | ⟨_, _, _, h0, _⟩
      · exact h0
      · cases h0
    subst hn0
    have hc : cs = [] := List.eq_nil_of_length_eq_zero (by simpa using h.1)
    subst hc
    go_enter Tryd.func82, Tryd.ntmps82
    go_wp2
    go_ret
    exact ⟨_, rfl, Own.nil _ _ _, Below.refl _ _, by simp [Value.ownBlock]⟩
  | some a =>
    have hs := h.alloc (.cells #[] 3)
    have ho : Own (w.alloc (.cells #[] 3)) 3 1 (.slice (some ⟨w.heap.size, 0, none⟩) 0 0) 0 [] := Own.made w 3 1 [] [] 0 0 rfl Ones.nil (Nat.le_refl _) (by simp [maxLen]) (by simp)
    clear h
    go_enter Tryd.func82, Tryd.ntmps82
    go_wp2_with (at_builtin; refine wpList_app rfl _ _ rfl elemInt (by rfl) ho (by rfl) hs (by unfold maxLen; omega) (by omega) ?_; intro v' w' h1 h2 h3 _ _)
    go_ret
    have hb : Below w.heap.size w w' := (((Below.refl w.heap.size w).alloc (Nat.le_refl _) _).trans (h2.below (B := w.heap.size) (by simp) (fun i hi => by have : w.heap.size = i := (by simpa [Value.ownBlock] using hi); omega)))
    refine ⟨v', rfl, by simpa using h1, hb, fun k hk => ?_⟩
    rw [hk] at h3
    have h7 : k = w.heap.size ∨ k = w.heap.size + 1 := by simpa [Value.ownBlock] using h3
    omega

end Go.Proofs.YtlgohkdckdnmhaaDoor
/- calc: numbers of two words; the sum that comes and goes. -/
namespace Go.Proofs.YtlgohkdckdnmhaaDoor
open Go.RowKit Go.Afx

theorem agree_bel {B : Nat → Prop} {b : Nat} {w w' : World} (h : Below b w w') (hB : ∀ k, B k → k < b) : Agree B w w' := fun k _ hk => h.cell (hB k hk)

theorem add64 (x y c : Int) (hx : 0 ≤ x) (hy : 0 ≤ y) (hc0 : 0 ≤ c) (hc : c ≤ 1) (w : World) : (callFunc 100 #[.int .u64 x, .int .u64 y, .int .u64 c]).run Tryd.prog w =
    .ok (.value (.tuple #[.int .u64 ((x + y + c) % 18446744073709551616), .int .u64 ((x + y + c) / 18446744073709551616)])) w := by
  rw [run_callFunc_extern Tryd.func100 (by kernel_rfl) (by kernel_rfl) (by kernel_rfl) (e := add64Entry) (by kernel_rfl), run_add64 x y c hx hy hc0 hc]
  rfl
theorem add64_0 (x y : Int) (hx : 0 ≤ x) (hy : 0 ≤ y) (w : World) : (callFunc 100 #[.int .u64 x, .int .u64 y, .int .u64 0]).run Tryd.prog w =
    .ok (.value (.tuple #[.int .u64 ((x + y) % 18446744073709551616), .int .u64 ((x + y) / 18446744073709551616)])) w := by
  simpa using add64 x y 0 hx hy (Int.le_refl 0) (by decide) w

/-- The borrow, under a name. -/
def bor (x y : Int) : Int := if x < y then 1 else 0
theorem bor_range (x y : Int) : 0 ≤ bor x y ∧ bor x y ≤ 1 := by unfold bor; split <;> decide

theorem sub64 (x y b : Int) (hx : 0 ≤ x) (hy : 0 ≤ y) (hy' : y < 18446744073709551616) (hb0 : 0 ≤ b) (hb : b ≤ 1) (w : World) : (callFunc 151 #[.int .u64 x, .int .u64 y, .int .u64 b]).run Tryd.prog w =
    .ok (.value (.tuple #[.int .u64 ((x - y - b) % 18446744073709551616), .int .u64 (bor x (y + b))])) w := by
  obtain ⟨x, rfl⟩ := Int.eq_ofNat_of_zero_le hx
  obtain ⟨y, rfl⟩ := Int.eq_ofNat_of_zero_le hy
  obtain ⟨b, rfl⟩ := Int.eq_ofNat_of_zero_le hb0
  have e1 : (((x + 18446744073709551616 - y - b) % 18446744073709551616 : Nat) : Int) = ((x : Int) - y - b) % 18446744073709551616 := by omega
  have e2 : ((if x < y + b then 1 else 0 : Nat) : Int) = bor x (y + b) := by unfold bor; split <;> split <;> omega
  rw [← e1, ← e2]
  rw [run_callFunc_extern Tryd.func151 (by kernel_rfl) (by kernel_rfl) (by kernel_rfl) (e := sub64Entry) (by kernel_rfl), run_sub64 x y b (by omega)]
  rfl
theorem sub64_0 (x y : Int) (hx : 0 ≤ x) (hy : 0 ≤ y) (hy' : y < 18446744073709551616) (w : World) : (callFunc 151 #[.int .u64 x, .int .u64 y, .int .u64 0]).run Tryd.prog w =
    .ok (.value (.tuple #[.int .u64 ((x - y) % 18446744073709551616), .int .u64 (bor x y)])) w := by
  simpa using sub64 x y 0 hx hy hy' (Int.le_refl 0) (by decide) w

/-- The two words of a number of 128 bits. -/
def loW (z : Int) : Int := z % 18446744073709551616
def hiW (z : Int) : Int := z / 18446744073709551616 % 18446744073709551616
theorem loW_range (z : Int) : 0 ≤ loW z ∧ loW z < 18446744073709551616 := by unfold loW; omega
theorem hiW_range (z : Int) : 0 ≤ hiW z ∧ hiW z < 18446744073709551616 := by unfold hiW; omega
theorem loW_add (x y : Int) : (loW x + loW y) % 18446744073709551616 = loW (x + y) := by unfold loW; omega
theorem hiW_add (x y : Int) : (hiW x + hiW y + (loW x + loW y) / 18446744073709551616) % 18446744073709551616 = hiW (x + y) := by unfold hiW loW; omega
theorem loW_sub (x y : Int) : (loW x - loW y) % 18446744073709551616 = loW (x - y) := by unfold loW; omega
theorem hiW_sub (x y : Int) : (hiW x - hiW y - bor (loW x) (loW y)) % 18446744073709551616 = hiW (x - y) := by unfold bor hiW loW; split <;> omega

theorem of_any (n : Int) (h1 : -9223372036854775808 ≤ n) (h2 : n ≤ 9223372036854775807) (w : World) :
    Calls Tryd.prog 148 #[.int .i64 n] w fun e w' => e = .returned (.agg #[.int .u64 (hiW n), .int .u64 (loW n)]) ∧ Below w.heap.size w w' := by
  go_enter Tryd.func148, Tryd.ntmps148
  go_wp2
  have e1 : IntKind.u64.wrap (n / 9223372036854775808) = hiW n := by rw [IntKind.wrap_u64]; unfold hiW; omega
  have e2 : IntKind.u64.wrap n = loW n := by rw [IntKind.wrap_u64]; rfl
  rw [e1, e2]
  refine bodyPost_ret (v := .agg #[.int .u64 (hiW n), .int .u64 (loW n)]) (by simp [results, Tryd.results148, go_sem]) rfl ⟨rfl, ?_⟩
  repeat (with_reducible first | exact Below.refl _ _ | apply Below.drew | (refine Below.alloc ?_ (by first | omega | (simp; omega) | simp) _) | (refine Below.setCell ?_ (by first | omega | (simp; omega) | simp) _))

theorem plus_any (x y : Int) (w : World) :
    Calls Tryd.prog 147 #[.agg #[.int .u64 (hiW x), .int .u64 (loW x)], .agg #[.int .u64 (hiW y), .int .u64 (loW y)]] w fun e w' => e = .returned (.agg #[.int .u64 (hiW (x + y)), .int .u64 (loW (x + y))]) ∧ Below w.heap.size w w' := by
  have a1 := loW_range x
  have a2 := loW_range y
  have a3 := hiW_range x
  have a4 := hiW_range y
  have E1 := Lib.hid (loW_add x y)
  have E2 := Lib.hid (hiW_add x y)
  generalize loW x = xl at *
  generalize loW y = yl at *
  generalize hiW x = xh at *
  generalize hiW y = yh at *
  have k0 : 0 ≤ (xl + yl) / 18446744073709551616 := by omega
  have k1 : (xl + yl) / 18446744073709551616 ≤ 1 := by omega
  go_enter Tryd.func147, Tryd.ntmps147
  go_wp2_with (first | simp only [add64_0 xl yl a1.1 a2.1] | simp only [add64 xh yh _ a3.1 a4.1 k0 k1])
  rw [E1.out, E2.out]
  refine bodyPost_ret (v := .agg #[.int .u64 (hiW (x + y)), .int .u64 (loW (x + y))]) (by simp [results, Tryd.results147, go_sem]) rfl ⟨rfl, ?_⟩
  repeat (with_reducible first | exact Below.refl _ _ | apply Below.drew | (refine Below.alloc ?_ (by first | omega | (simp; omega) | simp) _) | (refine Below.setCell ?_ (by first | omega | (simp; omega) | simp) _))

theorem minus_any (x y : Int) (w : World) :
    Calls Tryd.prog 149 #[.agg #[.int .u64 (hiW x), .int .u64 (loW x)], .agg #[.int .u64 (hiW y), .int .u64 (loW y)]] w fun e w' => e = .returned (.agg #[.int .u64 (hiW (x - y)), .int .u64 (loW (x - y))]) ∧ Below w.heap.size w w' := by
  have a1 := loW_range x
  have a2 := loW_range y
  have a3 := hiW_range x
  have a4 := hiW_range y
  have E1 := Lib.hid (loW_sub x y)
  have E2 := Lib.hid (hiW_sub x y)
  generalize loW x = xl at *
  generalize loW y = yl at *
  generalize hiW x = xh at *
  generalize hiW y = yh at *
  have k := bor_range xl yl
  go_enter Tryd.func149, Tryd.ntmps149
  go_wp2_with (first | simp only [sub64_0 xl yl a1.1 a2.1 a2.2] | simp only [sub64 xh yh _ a3.1 a4.1 a4.2 k.1 k.2])
  rw [E1.out, E2.out]
  refine bodyPost_ret (v := .agg #[.int .u64 (hiW (x - y)), .int .u64 (loW (x - y))]) (by simp [results, Tryd.results149, go_sem]) rfl ⟨rfl, ?_⟩
  repeat (with_reducible first | exact Below.refl _ _ | apply Below.drew | (refine Below.alloc ?_ (by first | omega | (simp; omega) | simp) _) | (refine Below.setCell ?_ (by first | omega | (simp; omega) | simp) _))

/-- The number, if it is one of 64 bits; else 0 and what says so. -/
def fits (z : Int) : Prop := -9223372036854775808 ≤ z ∧ z ≤ 9223372036854775807
instance (z : Int) : Decidable (fits z) := inferInstanceAs (Decidable (_ ∧ _))
def shortN (z : Int) : Int := if fits z then z else 0
def shortE (z : Int) : Int := if fits z then 0 else 2

theorem short_any (z : Int) (hz1 : -85070591730234615865843651857942052864 ≤ z) (hz2 : z ≤ 85070591730234615865843651857942052864) (w : World) :
    Calls Tryd.prog 150 #[.agg #[.int .u64 (hiW z), .int .u64 (loW z)]] w fun e w' => e = .returned (.tuple #[.int .i64 (shortN z), .int .i64 (shortE z)]) ∧ Below w.heap.size w w' := by
  have a1 := loW_range z
  have hk : ∃ k : Int, IntKind.i64.wrap (loW z) = k ∧ -9223372036854775808 ≤ k ∧ k ≤ 9223372036854775807 ∧ loW k = loW z := by
    refine ⟨_, rfl, ?_⟩
    rw [IntKind.wrap_i64]
    unfold loW
    omega
  obtain ⟨k, hk1, hk2, hk3, hk4⟩ := hk
  have hof := Lib.hid (fun w => of_any k hk2 hk3 w)
  have hk5 : (hiW z = hiW k ∧ z = k ∧ fits z) ∨ (¬ hiW z = hiW k ∧ ¬ fits z) := by
    unfold fits
    unfold hiW loW at *
    omega
  have HK4 := Lib.hid hk4
  rcases hk5 with ⟨h5, h6, h7⟩ | ⟨h5, h7⟩
  · have e1 : shortN z = k := by unfold shortN; rw [if_pos h7]; exact h6
    have e2 : shortE z = 0 := by unfold shortE; rw [if_pos h7]
    rw [e1, e2]
    have H5 := Lib.hid h5
    clear h5 h6 h7 e1 e2 hk4
    generalize hiW z = zh at *
    generalize loW z = zl at *
    go_enter Tryd.func150, Tryd.ntmps150
    go_wp2
    refine wp_region_lit_plan [] [(1, 0), (0, 2), (2, 1), (3, 0), (4, 3), (5, 0)] (fun k => k = w.heap.size) (by kernel_rfl) (by kernel_rfl) (fun c a d v w h => by cases d <;> exact h) ?_
    go_wp2_with (first
      | (refine plan_pure (v := _) (by rfl) (by rfl) (by rfl) (by intro _; go_simp; with_reducible rfl) ?_; simp only [List.setIfInBounds_toArray, List.set_cons_zero, List.set_cons_succ]; try go_bits) | (refine plan_read (v := _) (by rfl) (by rfl) (by rfl) (by go_simp; with_reducible rfl) ?_; simp only [List.setIfInBounds_toArray, List.set_cons_zero, List.set_cons_succ]; try go_bits) | (refine plan_readB (v := _) (by rfl) (by rfl) (by rfl) (by intro _ hag; unfold Agree at hag; go_simp; with_reducible rfl) ?_; simp only [List.setIfInBounds_toArray, List.set_cons_zero, List.set_cons_succ]; try go_bits) | (refine plan_skip0 (by rfl) (by rfl) (by rfl) ?_; simp only [List.setIfInBounds_toArray, List.set_cons_zero, List.set_cons_succ]; try go_bits) | (refine plan_skip1 (by rfl) (by rfl) (by rfl) ?_; simp only [List.setIfInBounds_toArray, List.set_cons_zero, List.set_cons_succ]; try go_bits) | (refine plan_skip2 (by rfl) (by rfl) (by rfl) ?_; simp only [List.setIfInBounds_toArray, List.set_cons_zero, List.set_cons_succ]; try go_bits) | (refine plan_skip4 (by rfl) (by rfl) (by rfl) ?_; simp only [List.setIfInBounds_toArray, List.set_cons_zero, List.set_cons_succ]; try go_bits) | (refine plan_any (by rfl) ?_) | (refine plan_keep (by rfl) ?_) | (refine plan_nil ?_) | (with_reducible refine And.intro (by first | assumption | exact Agree.refl _ _ | exact agree_drew _ _ | exact agree_alloc _ (by intro k hk; subst hk; first | omega | (simp; omega))) ?_) | (unfold Act.put; simp only [List.setIfInBounds_toArray, List.set_cons_zero, List.set_cons_succ])
      | (go_at_call 148; refine (hof.out _).mono ?_; rintro e w2 ⟨rfl, hb2⟩; rw [HK4.out, ← H5.out];
         have hag : Agree (fun k => k = w.heap.size) ((w.alloc (.cells #[.int .u64 zh, .int .u64 zl] 173)).drew) w2 := agree_bel hb2 (by intro k hk; subst hk; simp);
         have hc1 : w2.cell? ⟨w.heap.size, 1, none⟩ = some (.int .u64 zl) := (hag w.heap.size 1 rfl).trans (by go_simp)))
    go_ret2
    refine ⟨rfl, Below.trans ?_ (hb2.mono (by simp))⟩
    repeat (with_reducible first | exact Below.refl _ _ | apply Below.drew | (refine Below.alloc ?_ (by first | omega | (simp; omega) | simp) _) | (refine Below.setCell ?_ (by first | omega | (simp; omega) | simp) _))
  · have e1 : shortN z = 0 := by unfold shortN; rw [if_neg h7]
    have e2 : shortE z = 2 := by unfold shortE; rw [if_neg h7]
    rw [e1, e2]
    have h5' : (hiW z == hiW k) = false := by rw [beq_eq_false_iff_ne]; exact h5
    clear h5 h7 e1 e2 hk4
    generalize hiW z = zh at *
    generalize loW z = zl at *
    go_enter Tryd.func150, Tryd.ntmps150
    go_wp2
    refine wp_region_lit_plan [] [(1, 0), (0, 2), (2, 1), (3, 0), (4, 3), (5, 0)] (fun k => k = w.heap.size) (by kernel_rfl) (by kernel_rfl) (fun c a d v w h => by cases d <;> exact h) ?_
    go_wp2_with (first
      | (refine plan_pure (v := _) (by rfl) (by rfl) (by rfl) (by intro _; go_simp; with_reducible rfl) ?_; simp only [List.setIfInBounds_toArray, List.set_cons_zero, List.set_cons_succ]; try go_bits) | (refine plan_read (v := _) (by rfl) (by rfl) (by rfl) (by go_simp; with_reducible rfl) ?_; simp only [List.setIfInBounds_toArray, List.set_cons_zero, List.set_cons_succ]; try go_bits) | (refine plan_readB (v := _) (by rfl) (by rfl) (by rfl) (by intro _ hag; unfold Agree at hag; go_simp; with_reducible rfl) ?_; simp only [List.setIfInBounds_toArray, List.set_cons_zero, List.set_cons_succ]; try go_bits) | (refine plan_skip0 (by rfl) (by rfl) (by rfl) ?_; simp only [List.setIfInBounds_toArray, List.set_cons_zero, List.set_cons_succ]; try go_bits) | (refine plan_skip1 (by rfl) (by rfl) (by rfl) ?_; simp only [List.setIfInBounds_toArray, List.set_cons_zero, List.set_cons_succ]; try go_bits) | (refine plan_skip2 (by rfl) (by rfl) (by rfl) ?_; simp only [List.setIfInBounds_toArray, List.set_cons_zero, List.set_cons_succ]; try go_bits) | (refine plan_skip4 (by rfl) (by rfl) (by rfl) ?_; simp only [List.setIfInBounds_toArray, List.set_cons_zero, List.set_cons_succ]; try go_bits) | (refine plan_any (by rfl) ?_) | (refine plan_keep (by rfl) ?_) | (refine plan_nil ?_) | (with_reducible refine And.intro (by first | assumption | exact Agree.refl _ _ | exact agree_drew _ _ | exact agree_alloc _ (by intro k hk; subst hk; first | omega | (simp; omega))) ?_) | (unfold Act.put; simp only [List.setIfInBounds_toArray, List.set_cons_zero, List.set_cons_succ])
      | (go_at_call 148; refine (hof.out _).mono ?_; rintro e w2 ⟨rfl, hb2⟩; rw [HK4.out];
         have hag : Agree (fun k => k = w.heap.size) ((w.alloc (.cells #[.int .u64 zh, .int .u64 zl] 173)).drew) w2 := agree_bel hb2 (by intro k hk; subst hk; simp)))
    go_ret2
    refine ⟨rfl, Below.trans ?_ (hb2.mono (by simp))⟩
    repeat (with_reducible first | exact Below.refl _ _ | apply Below.drew | (refine Below.alloc ?_ (by first | omega | (simp; omega) | simp) _) | (refine Below.setCell ?_ (by first | omega | (simp; omega) | simp) _))
end Go.Proofs.YtlgohkdckdnmhaaDoor
/- calc: Total's methods, and the sum of all. -/
namespace Go.Proofs.YtlgohkdckdnmhaaDoor
open Go.RowKit Go.Afx

def IsTot (w : World) (b : Nat) (z n : Int) : Prop := Blk w b 175 [.int .u64 (hiW z), .int .u64 (loW z), .int .i64 n]

theorem sum_next (l : List Int) (i : Nat) (h : i < l.length) : (l.take (i + 1)).sum = (l.take i).sum + l[i] := by
  have e : (l.take i ++ [l[i]]).sum = (l.take (i + 1)).sum := by rw [List.take_append_getElem h]
  rw [← e, List.sum_append, List.sum_cons, List.sum_nil, Int.add_zero]

set_option maxHeartbeats 1000000 in
theorem put_tot (w : World) (b : Nat) (z n : Int) (v : Value) (l : List Int) (hb : IsTot w b z n) (hl : Sl w (fun k => k ≠ b) 1 v l.length (ints l)) (hfit : ∀ x ∈ l, fits x) (hn1 : -1000000 ≤ n) (hn2 : n ≤ 1000000) (hll : l.length ≤ 1000000) :
    Calls Tryd.prog 142 #[.pointer (some ⟨b, 0, none⟩), v] w fun e w' => e = .returned (.tuple #[]) ∧ IsTot w' b (z + l.sum) (n + l.length) ∧ Only (fun k => k = b) w w' := by
  obtain ⟨p, cap, rfl, hc1, hc2⟩ := hl.form
  have HB := Lib.hid hb
  have HL := Lib.hid hl
  have HF := Lib.hid hfit
  clear hb hl hfit
  go_enter Tryd.func142, Tryd.ntmps142
  go_wp2
  go_loopw [10] (fun i wr => ∃ k : Nat, i = .int .i64 k ∧ k ≤ l.length ∧ IsTot wr b (z + (l.take k).sum) n ∧ Only (fun k => k = b) w wr) (fun i _ => l.length - (intOf i).toNat)
  case atStart => exact ⟨0, rfl, Nat.zero_le _, by simpa using HB.out, Only.refl _ _⟩
  case round =>
    obtain ⟨k, rfl, hk, ht, ho⟩ := hrel
    have hlt := ht.lt
    by_cases hka : k < l.length
    · obtain ⟨g, off, cap', hv, _, _, hgb, hglt, hc⟩ := HL.out.place (by omega)
      cases hv
      have hc0 : w.cell? ⟨g, off + k, none⟩ = some (.int .i64 l[k]) := by rw [hc k (by simpa [ints] using hka)]; simp [ints, hka]
      have hck : wr.cell? ⟨g, off + k, none⟩ = some (.int .i64 l[k]) := (ho.cell (p := ⟨g, off + k, none⟩) hglt hgb).trans hc0
      have hfx := HF.out l[k] (List.getElem_mem hka)
      have HX := Lib.hid (sum_next l k hka)
      generalize l[k] = x at *
      have HOF := Lib.hid (fun w => of_any x hfx.1 hfx.2 w)
      generalize hz : z + (l.take k).sum = zk at *
      have HZ := Lib.hid hz
      have t0 : wr.cell? ⟨b, 0, none⟩ = some (.int .u64 (hiW zk)) := ht.cell 0
      have t1 : wr.cell? ⟨b, 1, none⟩ = some (.int .u64 (loW zk)) := ht.cell 1
      have HT := Lib.hid ht
      have HO := Lib.hid ho
      clear ht ho hc hfx hz hc0
      go_wp2
      refine wp_region_lit_plan [] [(0, 0), (1, 0), (2, 0), (3, 0), (5, 0), (4, 2), (6, 3), (7, 4), (8, 0), (9, 0), (10, 4)] (fun k => k = b) (by kernel_rfl) (by kernel_rfl) (fun c a d v w h => by cases d <;> exact h) ?_
      go_wp2_with (first
        | (refine plan_pure (v := _) (by rfl) (by rfl) (by rfl) (by intro _; go_simp; with_reducible rfl) ?_; simp only [List.setIfInBounds_toArray, List.set_cons_zero, List.set_cons_succ]; try go_bits) | (refine plan_read (v := _) (by rfl) (by rfl) (by rfl) (by go_simp; with_reducible rfl) ?_; simp only [List.setIfInBounds_toArray, List.set_cons_zero, List.set_cons_succ]; try go_bits) | (refine plan_readB (v := _) (by rfl) (by rfl) (by rfl) (by intro _ hag; unfold Agree at hag; go_simp; with_reducible rfl) ?_; simp only [List.setIfInBounds_toArray, List.set_cons_zero, List.set_cons_succ]; try go_bits) | (refine plan_skip0 (by rfl) (by rfl) (by rfl) ?_; simp only [List.setIfInBounds_toArray, List.set_cons_zero, List.set_cons_succ]; try go_bits) | (refine plan_skip1 (by rfl) (by rfl) (by rfl) ?_; simp only [List.setIfInBounds_toArray, List.set_cons_zero, List.set_cons_succ]; try go_bits) | (refine plan_skip2 (by rfl) (by rfl) (by rfl) ?_; simp only [List.setIfInBounds_toArray, List.set_cons_zero, List.set_cons_succ]; try go_bits) | (refine plan_skip4 (by rfl) (by rfl) (by rfl) ?_; simp only [List.setIfInBounds_toArray, List.set_cons_zero, List.set_cons_succ]; try go_bits) | (refine plan_any (by rfl) ?_) | (refine plan_keep (by rfl) ?_) | (refine plan_nil ?_) | (with_reducible refine And.intro (by first | assumption | exact Agree.refl _ _ | exact agree_drew _ _ | exact agree_alloc _ (by intro k hk; subst hk; first | omega | (simp; omega))) ?_) | (unfold Act.put; simp only [List.setIfInBounds_toArray, List.set_cons_zero, List.set_cons_succ])
        | (go_at_call 148; refine (HOF.out _).mono ?_; rintro e w2 ⟨rfl, hb2⟩; have hag : Agree (fun k => k = b) wr.drew w2 := agree_bel hb2 (by intro k hk; subst hk; exact hlt))
        | (go_at_call 147; refine (plus_any zk x _).mono ?_; rintro e w3 ⟨rfl, hb3⟩; have ht3 := (HT.out.drew.below hb2).below hb3; have hf3 : ∀ i, w3.frozen? ⟨b, i, none⟩ = false := ht3.frozen;
           have t03 : w3.cell? ⟨b, 0, none⟩ = some (.int .u64 (hiW zk)) := ht3.cell 0; have t13 : w3.cell? ⟨b, 1, none⟩ = some (.int .u64 (loW zk)) := ht3.cell 1; have HT3 := Lib.hid ht3; clear ht3))
      have hzx : zk + x = z + (l.take (k + 1)).sum := by have := HX.out; have := HZ.out; omega
      have HZX := Lib.hid hzx
      clear hzx
      go_roundw
      case rel =>
        refine ⟨k + 1, by go_num, by omega, ?_, ?_⟩
        · rw [← HZX.out]
          exact (HT3.out.set 0 _).set 1 _
        · have ho3 : Only (fun k => k = b) w w3 := (HO.out.drew.trans (Only.of_none hb2) (fun _ _ h => h)).trans (Only.of_none hb3) (fun _ _ h => h)
          exact (ho3.setCell (fun _ => rfl) _).setCell (fun _ => rfl) _
      case measure => simp [intOf]; omega
    · have hkl : k = l.length := by omega
      have hz : z + (l.take k).sum = z + l.sum := by rw [hkl, List.take_length]
      rw [hz] at ht
      have t2 : wr.cell? ⟨b, 2, none⟩ = some (.int .i64 n) := ht.cell 2
      have hf : ∀ i, wr.frozen? ⟨b, i, none⟩ = false := ht.frozen
      have HT := Lib.hid ht
      have HO := Lib.hid ho
      clear ht ho hkl hz
      go_wp2
      go_end0
      exact ⟨rfl, HT.out.set 2 _, HO.out.setCell (fun _ => rfl) _⟩

set_option maxHeartbeats 1000000 in
theorem take_tot (w : World) (b : Nat) (z n : Int) (v : Value) (l : List Int) (hb : IsTot w b z n) (hl : Sl w (fun k => k ≠ b) 1 v l.length (ints l)) (hfit : ∀ x ∈ l, fits x) (hn1 : -1000000 ≤ n) (hn2 : n ≤ 1000000) (hll : l.length ≤ 1000000) :
    Calls Tryd.prog 143 #[.pointer (some ⟨b, 0, none⟩), v] w fun e w' => e = .returned (.tuple #[]) ∧ IsTot w' b (z - l.sum) (n - l.length) ∧ Only (fun k => k = b) w w' := by
  obtain ⟨p, cap, rfl, hc1, hc2⟩ := hl.form
  have HB := Lib.hid hb
  have HL := Lib.hid hl
  have HF := Lib.hid hfit
  clear hb hl hfit
  go_enter Tryd.func143, Tryd.ntmps143
  go_wp2
  go_loopw [10] (fun i wr => ∃ k : Nat, i = .int .i64 k ∧ k ≤ l.length ∧ IsTot wr b (z - (l.take k).sum) n ∧ Only (fun k => k = b) w wr) (fun i _ => l.length - (intOf i).toNat)
  case atStart => exact ⟨0, rfl, Nat.zero_le _, by simpa using HB.out, Only.refl _ _⟩
  case round =>
    obtain ⟨k, rfl, hk, ht, ho⟩ := hrel
    have hlt := ht.lt
    by_cases hka : k < l.length
    · obtain ⟨g, off, cap', hv, _, _, hgb, hglt, hc⟩ := HL.out.place (by omega)
      cases hv
      have hc0 : w.cell? ⟨g, off + k, none⟩ = some (.int .i64 l[k]) := by rw [hc k (by simpa [ints] using hka)]; simp [ints, hka]
      have hck : wr.cell? ⟨g, off + k, none⟩ = some (.int .i64 l[k]) := (ho.cell (p := ⟨g, off + k, none⟩) hglt hgb).trans hc0
      have hfx := HF.out l[k] (List.getElem_mem hka)
      have HX := Lib.hid (sum_next l k hka)
      generalize l[k] = x at *
      have HOF := Lib.hid (fun w => of_any x hfx.1 hfx.2 w)
      generalize hz : z - (l.take k).sum = zk at *
      have HZ := Lib.hid hz
      have t0 : wr.cell? ⟨b, 0, none⟩ = some (.int .u64 (hiW zk)) := ht.cell 0
      have t1 : wr.cell? ⟨b, 1, none⟩ = some (.int .u64 (loW zk)) := ht.cell 1
      have HT := Lib.hid ht
      have HO := Lib.hid ho
      clear ht ho hc hfx hz hc0
      go_wp2
      refine wp_region_lit_plan [] [(0, 0), (1, 0), (2, 0), (3, 0), (5, 0), (4, 2), (6, 3), (7, 4), (8, 0), (9, 0), (10, 4)] (fun k => k = b) (by kernel_rfl) (by kernel_rfl) (fun c a d v w h => by cases d <;> exact h) ?_
      go_wp2_with (first
        | (refine plan_pure (v := _) (by rfl) (by rfl) (by rfl) (by intro _; go_simp; with_reducible rfl) ?_; simp only [List.setIfInBounds_toArray, List.set_cons_zero, List.set_cons_succ]; try go_bits) | (refine plan_read (v := _) (by rfl) (by rfl) (by rfl) (by go_simp; with_reducible rfl) ?_; simp only [List.setIfInBounds_toArray, List.set_cons_zero, List.set_cons_succ]; try go_bits) | (refine plan_readB (v := _) (by rfl) (by rfl) (by rfl) (by intro _ hag; unfold Agree at hag; go_simp; with_reducible rfl) ?_; simp only [List.setIfInBounds_toArray, List.set_cons_zero, List.set_cons_succ]; try go_bits) | (refine plan_skip0 (by rfl) (by rfl) (by rfl) ?_; simp only [List.setIfInBounds_toArray, List.set_cons_zero, List.set_cons_succ]; try go_bits) | (refine plan_skip1 (by rfl) (by rfl) (by rfl) ?_; simp only [List.setIfInBounds_toArray, List.set_cons_zero, List.set_cons_succ]; try go_bits) | (refine plan_skip2 (by rfl) (by rfl) (by rfl) ?_; simp only [List.setIfInBounds_toArray, List.set_cons_zero, List.set_cons_succ]; try go_bits) | (refine plan_skip4 (by rfl) (by rfl) (by rfl) ?_; simp only [List.setIfInBounds_toArray, List.set_cons_zero, List.set_cons_succ]; try go_bits) | (refine plan_any (by rfl) ?_) | (refine plan_keep (by rfl) ?_) | (refine plan_nil ?_) | (with_reducible refine And.intro (by first | assumption | exact Agree.refl _ _ | exact agree_drew _ _ | exact agree_alloc _ (by intro k hk; subst hk; first | omega | (simp; omega))) ?_) | (unfold Act.put; simp only [List.setIfInBounds_toArray, List.set_cons_zero, List.set_cons_succ])
        | (go_at_call 148; refine (HOF.out _).mono ?_; rintro e w2 ⟨rfl, hb2⟩; have hag : Agree (fun k => k = b) wr.drew w2 := agree_bel hb2 (by intro k hk; subst hk; exact hlt))
        | (go_at_call 149; refine (minus_any zk x _).mono ?_; rintro e w3 ⟨rfl, hb3⟩; have ht3 := (HT.out.drew.below hb2).below hb3; have hf3 : ∀ i, w3.frozen? ⟨b, i, none⟩ = false := ht3.frozen;
           have t03 : w3.cell? ⟨b, 0, none⟩ = some (.int .u64 (hiW zk)) := ht3.cell 0; have t13 : w3.cell? ⟨b, 1, none⟩ = some (.int .u64 (loW zk)) := ht3.cell 1; have HT3 := Lib.hid ht3; clear ht3))
      have hzx : zk - x = z - (l.take (k + 1)).sum := by have := HX.out; have := HZ.out; omega
      have HZX := Lib.hid hzx
      clear hzx
      go_roundw
      case rel =>
        refine ⟨k + 1, by go_num, by omega, ?_, ?_⟩
        · rw [← HZX.out]
          exact (HT3.out.set 0 _).set 1 _
        · have ho3 : Only (fun k => k = b) w w3 := (HO.out.drew.trans (Only.of_none hb2) (fun _ _ h => h)).trans (Only.of_none hb3) (fun _ _ h => h)
          exact (ho3.setCell (fun _ => rfl) _).setCell (fun _ => rfl) _
      case measure => simp [intOf]; omega
    · have hkl : k = l.length := by omega
      have hz : z - (l.take k).sum = z - l.sum := by rw [hkl, List.take_length]
      rw [hz] at ht
      have t2 : wr.cell? ⟨b, 2, none⟩ = some (.int .i64 n) := ht.cell 2
      have hf : ∀ i, wr.frozen? ⟨b, i, none⟩ = false := ht.frozen
      have HT := Lib.hid ht
      have HO := Lib.hid ho
      clear ht ho hkl hz
      go_wp2
      go_end0
      exact ⟨rfl, HT.out.set 2 _, HO.out.setCell (fun _ => rfl) _⟩

theorem put_nil (w : World) (p : Option Addr) (n cap : Nat) : Calls Tryd.prog 142 #[.pointer none, .slice p n cap] w fun e w' => e = .returned (.tuple #[]) ∧ w = w' := by
  go_enter Tryd.func142, Tryd.ntmps142
  go_wp2
  exact bodyPost_ret (v := .tuple #[]) (by simp [results, Tryd.results142, go_sem]) rfl ⟨rfl, rfl⟩
theorem take_nilT (w : World) (p : Option Addr) (n cap : Nat) : Calls Tryd.prog 143 #[.pointer none, .slice p n cap] w fun e w' => e = .returned (.tuple #[]) ∧ w = w' := by
  go_enter Tryd.func143, Tryd.ntmps143
  go_wp2
  exact bodyPost_ret (v := .tuple #[]) (by simp [results, Tryd.results143, go_sem]) rfl ⟨rfl, rfl⟩
def near (z : Int) : Prop := -85070591730234615865843651857942052864 ≤ z ∧ z ≤ 85070591730234615865843651857942052864
theorem sum_tot (w : World) (b : Nat) (z n : Int) (hb : IsTot w b z n) (hz : near z) :
    Calls Tryd.prog 144 #[.pointer (some ⟨b, 0, none⟩)] w fun e w' => e = .returned (.tuple #[.int .i64 (shortN z), .int .i64 (shortE z)]) ∧ Below w.heap.size w w' := by
  have HS := Lib.hid (fun w => short_any z hz.1 hz.2 w)
  have t0 : w.cell? ⟨b, 0, none⟩ = some (.int .u64 (hiW z)) := hb.cell 0
  have t1 : w.cell? ⟨b, 1, none⟩ = some (.int .u64 (loW z)) := hb.cell 1
  clear hb hz
  generalize shortN z = sn at *
  generalize shortE z = se at *
  go_enter Tryd.func144, Tryd.ntmps144
  go_wp2_with (go_at_call 150; refine (HS.out _).mono ?_; rintro e w2 ⟨rfl, hb2⟩)
  go_ret2
  exact ⟨rfl, hb2⟩
theorem sum_nil (w : World) : Calls Tryd.prog 144 #[.pointer none] w fun e w' => e = .returned (.tuple #[.int .i64 0, .int .i64 0]) ∧ w = w' := by
  go_enter Tryd.func144, Tryd.ntmps144
  go_wp2
  go_ret2
  exact ⟨rfl, rfl⟩
theorem sum_range : ∀ (l : List Int), (∀ x ∈ l, fits x) → -9223372036854775808 * (l.length : Int) ≤ l.sum ∧ l.sum ≤ 9223372036854775808 * (l.length : Int)
  | [], _ => by simp
  | x :: l, h => by
    have h1 := sum_range l (fun y hy => h y (by simp [hy]))
    have h2 := h x (by simp)
    unfold fits at h2
    rw [List.sum_cons, List.length_cons]
    omega

end Go.Proofs.YtlgohkdckdnmhaaDoor
/- calc: Sub, Neg, parts, Div, Mod. -/
namespace Go.Proofs.YtlgohkdckdnmhaaDoor
open Go.RowKit Go.Afx

theorem one_sl (w : World) (x : Int) (b : Nat) (hb : b ≠ w.heap.size) : Sl (w.alloc (.cells #[.int .i64 x] 2)) (fun k => k ≠ b) 1 (.slice (some ⟨w.heap.size, 0, none⟩) 1 1) 1 (ints [x]) :=
  (Own.made w 2 1 (ints [x]) [] 1 1 rfl (ints_ones _) (Nat.le_refl _) (by simp [maxLen]) (by simp [ints])).sl (fun k hk => by simp [Value.ownBlock] at hk; omega)

set_option maxHeartbeats 1000000 in
theorem sub_any (w : World) (a : Int) (ha : fits a) (v : Value) (l : List Int) (hl : Sl w (fun _ => True) 1 v l.length (ints l)) (hfit : ∀ x ∈ l, fits x) (hll : l.length ≤ 1000000) :
    Calls Tryd.prog 135 #[.int .i64 a, v] w fun e w' => e = .returned (.tuple #[.int .i64 (shortN (a - l.sum)), .int .i64 (shortE (a - l.sum))]) ∧ Below w.heap.size w w' := by
  have hr := sum_range l hfit
  have hn : near (a - l.sum) := by unfold near; unfold fits at ha; omega
  have ht : IsTot ((w.alloc (.cells #[.int .u64 0, .int .u64 0, .int .i64 0] 175)).alloc (.cells #[.int .i64 a] 2)) w.heap.size 0 0 := (Blk.new w 175 [.int .u64 0, .int .u64 0, .int .i64 0]).alloc _
  have hs1 := one_sl (w.alloc (.cells #[.int .u64 0, .int .u64 0, .int .i64 0] 175)) a w.heap.size (by simp)
  have HP := Lib.hid (put_tot _ w.heap.size 0 0 _ [a] ht hs1 (by simpa using ha) (by omega) (by omega) (by simp))
  have hl2 : Sl ((w.alloc (.cells #[.int .u64 0, .int .u64 0, .int .i64 0] 175)).alloc (.cells #[.int .i64 a] 2)) (fun k => k ≠ w.heap.size ∧ k < w.heap.size) 1 v l.length (ints l) :=
    hl.mono (by simp; omega) (fun k _ hk => (heap_alloc_old _ _ (by simp; omega)).trans (heap_alloc_old w _ hk)) (fun k _ hk => by omega)
  have HL2 := Lib.hid hl2
  obtain ⟨p, cap, rfl, _, _⟩ := hl.form
  clear hr ht hl2 hl hs1
  have hz : (0 : Int) + [a].sum = a := by simp
  have hk : (0 : Int) + ([a] : List Int).length = 1 := by simp
  rw [hz, hk] at HP
  clear hz hk
  have hsz : (w.alloc (.cells #[.int .u64 0, .int .u64 0, .int .i64 0] 175)).heap.size = w.heap.size + 1 := by simp
  rw [hsz] at HP
  clear hsz
  have HP2 : RowKit.Hid (Calls Tryd.prog 142 #[.pointer (some ⟨w.heap.size, 0, none⟩), .slice (some ⟨w.heap.size + 1, 0, none⟩) 1 1] ((w.alloc (.cells #[.int .u64 0, .int .u64 0, .int .i64 0] 175)).alloc (.cells #[.int .i64 a] 2)) fun e w' => e = .returned (.tuple #[]) ∧ IsTot w' w.heap.size a 1 ∧ Only (fun k => k = w.heap.size) ((w.alloc (.cells #[.int .u64 0, .int .u64 0, .int .i64 0] 175)).alloc (.cells #[.int .i64 a] 2)) w') := HP
  clear HP
  have HSM := Lib.hid (fun (w : World) (b : Nat) (n : Int) (h : IsTot w b (a - l.sum) n) => sum_tot w b _ n h hn)
  have HTK := Lib.hid (fun (w2 : World) (b : Nat) (h : IsTot w2 b a 1) (hs : Sl w2 (fun k => k ≠ b) 1 (.slice p l.length cap) l.length (ints l)) => take_tot w2 b a 1 _ l h hs hfit (by omega) (by omega) hll)
  clear ha hn hfit
  go_enter Tryd.func135, Tryd.ntmps135
  go_wp2_with (first
    | (go_at_call 142; refine HP2.out.mono ?_; clear HP2; rintro e w2 ⟨rfl, ht2, ho2⟩; have HT2 := Lib.hid ht2; have HO2 := Lib.hid ho2; clear ht2 ho2)
    | (go_at_call 143; refine (HTK.out w2 w.heap.size HT2.out ((HL2.out.only HO2.out (fun k hk => hk.1)).mono (Nat.le_refl _) (fun _ _ _ => rfl) (fun k hk _ => hk.1))).mono ?_; rintro e w3 ⟨rfl, ht3, ho3⟩; have HT3 := Lib.hid ht3; clear ht3)
    | (go_at_call 144; refine (HSM.out _ _ _ HT3.out).mono ?_; rintro e w4 ⟨rfl, hb4⟩))
  go_ret2
  have hb2 : Below w.heap.size w w2 := (((Below.refl w.heap.size w).alloc (Nat.le_refl _) _).alloc (by simp) _).trans (HO2.out.below (by simp; omega) (fun i hi => by omega))
  have hb3 := hb2.trans (ho3.below hb2.size (fun i hi => by omega))
  exact ⟨rfl, hb3.trans (hb4.mono hb3.size)⟩

theorem neg_any (w : World) (a : Int) (ha : fits a) :
    Calls Tryd.prog 123 #[.int .i64 a] w fun e w' => e = .returned (.tuple #[.int .i64 (shortN (-a)), .int .i64 (shortE (-a))]) ∧ Below w.heap.size w w' := by
  have hs1 : Sl (w.alloc (.cells #[.int .i64 a] 2)) (fun _ => True) 1 (.slice (some ⟨w.heap.size, 0, none⟩) 1 1) [a].length (ints [a]) := (one_sl w a (w.heap.size + 1) (by omega)).mono (Nat.le_refl _) (fun _ _ _ => rfl) (fun _ _ _ => trivial)
  have HS := Lib.hid (sub_any _ 0 (by unfold fits; omega) _ [a] hs1 (by simpa using ha) (by simp))
  have hz : (0 : Int) - [a].sum = -a := by simp
  rw [hz] at HS
  clear hs1 hz ha
  generalize shortN (-a) = sn at *
  generalize shortE (-a) = se at *
  go_enter Tryd.func123, Tryd.ntmps123
  go_wp2_with (go_at_call 135; refine HS.out.mono ?_; rintro e w2 ⟨rfl, hb2⟩)
  go_ret2
  exact ⟨rfl, ((Below.refl w.heap.size w).alloc (Nat.le_refl _) _).trans (hb2.mono (by simp))⟩
end Go.Proofs.YtlgohkdckdnmhaaDoor
/- calc: parts, Div, Mod. -/
namespace Go.Proofs.YtlgohkdckdnmhaaDoor
open Go.RowKit Go.Afx

def dvN (a b : Int) : Int := if b = 0 then 0 else if b = -1 then shortN (-a) else a.fdiv b
def dvE (a b : Int) : Int := if b = 0 then 3 else if b = -1 then shortE (-a) else 0
def mdN (a b : Int) : Int := if b = 0 then 0 else if b = -1 then 0 else a.fmod b
def mdE (b : Int) : Int := if b = 0 then 3 else 0

theorem tdiv_fits (a b : Int) (ha : fits a) (hb : b ≠ -1) : fits (a.tdiv b) := by
  unfold fits at *
  have h := Int.natAbs_tdiv a b
  by_cases h2 : b.natAbs ≤ 1
  · have : b = 0 ∨ b = 1 := by omega
    rcases this with rfl | rfl
    · simp
    · simpa using ha
  · have h3 : a.natAbs / b.natAbs ≤ a.natAbs / 2 := Nat.div_le_div_left (by omega) (by omega)
    have h4 : a.natAbs.div b.natAbs ≤ a.natAbs / 2 := h3
    rw [← h] at h4
    omega
theorem tdiv_low (a b : Int) (ha : fits a) (hb : b ≠ -1) (hr : a.tmod b ≠ 0) : b ≠ 0 → -9223372036854775808 < a.tdiv b := by
  unfold fits at *
  have h := Int.natAbs_tdiv a b
  intro h0
  by_cases h2 : b.natAbs ≤ 1
  · have : b = 1 := by omega
    subst this
    simp at hr
  · have h3 : a.natAbs / b.natAbs ≤ a.natAbs / 2 := Nat.div_le_div_left (by omega) (by omega)
    have h4 : a.natAbs.div b.natAbs ≤ a.natAbs / 2 := h3
    rw [← h] at h4
    omega
theorem tmod_near (a b : Int) : (a.tmod b).natAbs ≤ a.natAbs ∧ (a ≤ 0 → a.tmod b ≤ 0) := by
  refine ⟨?_, fun h => ?_⟩
  · rw [Int.natAbs_tmod]; exact Nat.mod_le _ _
  · have := Int.tmod_nonneg b (a := -a) (by omega)
    rw [Int.neg_tmod] at this; omega

/-- Go's quotient and rest, put right, are those rounded down. -/
theorem parts_law (a b : Int) (hb : b ≠ 0) :
    (a.tmod b ≠ 0 ∧ (decide (a.tmod b < 0) == decide (b < 0)) = false ∧ (a.tmod b < 0 ∧ 0 ≤ b ∨ 0 ≤ a.tmod b ∧ b < 0) ∧ a.fdiv b = a.tdiv b - 1 ∧ a.fmod b = a.tmod b + b) ∨
    ((a.tmod b ≠ 0 ∧ (decide (a.tmod b < 0) == decide (b < 0)) = true ∨ a.tmod b = 0) ∧ a.fdiv b = a.tdiv b ∧ a.fmod b = a.tmod b) := by
  have h3 : b ∣ a ↔ a.tmod b = 0 := Int.dvd_iff_tmod_eq_zero
  have h1 := Int.fdiv_eq_tdiv (a := a) (b := b)
  have h2 := Int.fmod_eq_tmod (a := a) (b := b)
  by_cases hd : b ∣ a
  · rw [if_pos hd] at h1 h2
    exact Or.inr ⟨Or.inr (h3.mp hd), by omega, by omega⟩
  · rw [if_neg hd] at h1 h2
    have hn : a.tmod b ≠ 0 := fun h => hd (h3.mpr h)
    by_cases ha : 0 ≤ a
    · have ht := Int.tmod_nonneg b ha
      rw [if_pos ha] at h1 h2
      by_cases hb0 : 0 ≤ b
      · rw [if_pos hb0] at h1 h2
        refine Or.inr ⟨Or.inl ⟨hn, ?_⟩, by omega, by omega⟩
        rw [decide_eq_false (show ¬ a.tmod b < 0 by omega), decide_eq_false (show ¬ b < 0 by omega)]; rfl
      · rw [if_neg hb0] at h1 h2
        refine Or.inl ⟨hn, ?_, by omega, by omega, by omega⟩
        rw [decide_eq_false (show ¬ a.tmod b < 0 by omega), decide_eq_true (show b < 0 by omega)]; rfl
    · have ht : a.tmod b ≤ 0 := by
        have := Int.tmod_nonneg b (a := -a) (by omega)
        rw [Int.neg_tmod] at this; omega
      rw [if_neg ha] at h1 h2
      by_cases hb0 : 0 ≤ b
      · rw [if_pos hb0] at h1 h2
        rw [Int.sign_eq_one_of_pos (by omega)] at h1
        refine Or.inl ⟨hn, ?_, by omega, by omega, by omega⟩
        rw [decide_eq_true (show a.tmod b < 0 by omega), decide_eq_false (show ¬ b < 0 by omega)]; rfl
      · rw [if_neg hb0] at h1 h2
        rw [Int.sign_eq_neg_one_of_neg (by omega)] at h1
        refine Or.inr ⟨Or.inl ⟨hn, ?_⟩, by omega, by omega⟩
        rw [decide_eq_true (show a.tmod b < 0 by omega), decide_eq_true (show b < 0 by omega)]; rfl

theorem parts_any (w : World) (a b : Int) (ha : fits a) (hbf : fits b) :
    Calls Tryd.prog 103 #[.int .i64 a, .int .i64 b] w fun e w' => e = .returned (.tuple #[.int .i64 (dvN a b), .int .i64 (mdN a b), .int .i64 (dvE a b)]) ∧ Below w.heap.size w w' := by
  by_cases h0 : b = 0
  · subst h0
    simp only [dvN, dvE, mdN, if_pos]
    go_enter Tryd.func103, Tryd.ntmps103
    go_wp2
    refine bodyPost_ret (v := .tuple #[.int .i64 0, .int .i64 0, .int .i64 3]) (by simp [results, Tryd.results103, go_sem]) rfl ⟨rfl, Below.refl _ _⟩
  by_cases h1 : b = -1
  · subst h1
    simp only [dvN, dvE, mdN, if_pos, if_neg h0]
    have HN := Lib.hid (fun w => neg_any w a ha)
    clear ha hbf h0
    generalize shortN (-a) = sn at *
    generalize shortE (-a) = se at *
    go_enter Tryd.func103, Tryd.ntmps103
    go_wp2_with (go_at_call 123; refine (HN.out _).mono ?_; rintro e w2 ⟨rfl, hb2⟩)
    refine bodyPost_ret (v := .tuple #[.int .i64 sn, .int .i64 0, .int .i64 se]) (by simp [results, Tryd.results103, go_sem]) rfl ⟨rfl, hb2⟩
  simp only [dvN, dvE, mdN, if_neg h0, if_neg h1]
  have hq := tdiv_fits a b ha h1
  have hr := tmod_near a b
  have hl := parts_law a b h0
  unfold fits at ha hbf hq
  have q0 : (b == 0) = false := by rw [beq_eq_false_iff_ne]; exact h0
  have q1 : (b == -1) = false := by rw [beq_eq_false_iff_ne]; exact h1
  have hw1 : IntKind.i64.wrap (a.tdiv b) = a.tdiv b := by rw [IntKind.wrap_i64]; omega
  have hw2 : IntKind.i64.wrap (a.tmod b) = a.tmod b := by rw [IntKind.wrap_i64]; omega
  rcases hl with ⟨hn, hs, hsg, e1, e2⟩ | ⟨hs, e1, e2⟩
  · rw [e1, e2]
    have hlo := tdiv_low a b (by unfold fits; exact ha) h1 hn h0
    have hlo2 : -9223372036854775808 ≤ a.tmod b + b := by omega
    have hlo3 : a.tmod b + b ≤ 9223372036854775807 := by omega
    clear e1 e2 h1 hsg
    have hn' : (a.tmod b == 0) = false := by rw [beq_eq_false_iff_ne]; exact hn
    go_enter Tryd.func103, Tryd.ntmps103
    go_wp2
    go_region
    go_wp2
    refine bodyPost_ret (v := .tuple #[.int .i64 (a.tdiv b - 1), .int .i64 (a.tmod b + b), .int .i64 0]) (by simp [results, Tryd.results103, go_sem]) rfl ⟨rfl, Below.drew (Below.refl _ _)⟩
  · rw [e1, e2]
    clear e1 e2 h1
    rcases hs with ⟨hn, hs⟩ | hs
    · have hn' : (a.tmod b == 0) = false := by rw [beq_eq_false_iff_ne]; exact hn
      go_enter Tryd.func103, Tryd.ntmps103
      go_wp2
      go_region
      go_wp2
      refine bodyPost_ret (v := .tuple #[.int .i64 (a.tdiv b), .int .i64 (a.tmod b), .int .i64 0]) (by simp [results, Tryd.results103, go_sem]) rfl ⟨rfl, Below.drew (Below.refl _ _)⟩
    · rw [hs] at hw2 ⊢
      clear hr
      go_enter Tryd.func103, Tryd.ntmps103
      go_wp2
      go_region
      go_wp2
      refine bodyPost_ret (v := .tuple #[.int .i64 (a.tdiv b), .int .i64 0, .int .i64 0]) (by simp [results, Tryd.results103, go_sem]) rfl ⟨rfl, Below.drew (Below.refl _ _)⟩

theorem mod_any (w : World) (a b : Int) (ha : fits a) (hb : fits b) :
    Calls Tryd.prog 74 #[.int .i64 a, .int .i64 b] w fun e w' => e = .returned (.tuple #[.int .i64 (mdN a b), .int .i64 (mdE b)]) ∧ Below w.heap.size w w' := by
  have HP := Lib.hid (fun w => parts_any w a b ha hb)
  have hm : (b == -1) = false → dvE a b = mdE b := by intro h; unfold dvE mdE; rw [beq_eq_false_iff_ne] at h; rw [if_neg h]
  by_cases h1 : b = -1
  · subst h1
    clear hm HP ha hb
    go_enter Tryd.func74, Tryd.ntmps74
    go_wp2
    go_ret2
    exact ⟨rfl, Below.refl _ _⟩
  · have h2 : (b == -1) = false := by rw [beq_eq_false_iff_ne]; exact h1
    rw [hm h2] at HP
    clear ha hb hm h1
    generalize dvN a b = dn at *
    generalize mdE b = de at *
    generalize mdN a b = mn at *
    go_enter Tryd.func74, Tryd.ntmps74
    go_wp2_with (go_at_call 103; refine (HP.out _).mono ?_; rintro e w2 ⟨rfl, hb2⟩)
    go_ret2
    exact ⟨rfl, hb2⟩
end Go.Proofs.YtlgohkdckdnmhaaDoor
/- calc: the document's examples; the least and the greatest; sizes, products. -/
namespace Go.Proofs.YtlgohkdckdnmhaaDoor
open Go.RowKit Go.Afx

@[go_sem] theorem ite_lt_max (x y : Int) : (if x < y then y else x) = max x y := by omega
@[go_sem] theorem ite_lt_min (x y : Int) : (if x < y then x else y) = min x y := by omega

def minI (a : Int) (l : List Int) : Int := l.foldl min a
def maxI (a : Int) (l : List Int) : Int := l.foldl max a
theorem minI_next (a : Int) (l : List Int) (i : Nat) (h : i < l.length) : minI a (l.take (i + 1)) = min (minI a (l.take i)) l[i] := by
  unfold minI
  rw [← List.take_append_getElem h, List.foldl_append]; rfl
theorem maxI_next (a : Int) (l : List Int) (i : Nat) (h : i < l.length) : maxI a (l.take (i + 1)) = max (maxI a (l.take i)) l[i] := by
  unfold maxI
  rw [← List.take_append_getElem h, List.foldl_append]; rfl

theorem size_any (w : World) (a : Int) (ha : fits a) : Calls Tryd.prog 102 #[.int .i64 a] w fun e w' => e = .returned (.int .u64 (a.natAbs : Int)) ∧ Below w.heap.size w w' := by
  unfold fits at ha
  by_cases h : a < 0
  · have h2 : decide (a < 0) = true := decide_eq_true h
    have e1 : IntKind.u64.wrap (-IntKind.u64.wrap a) = (a.natAbs : Int) := by rw [IntKind.wrap_u64, IntKind.wrap_u64]; omega
    generalize (a.natAbs : Int) = z at *
    go_enter Tryd.func102, Tryd.ntmps102
    go_wp2
    go_ret
    exact ⟨rfl, Below.refl _ _⟩
  · have h2 : decide (a < 0) = false := decide_eq_false h
    have e1 : (a.natAbs : Int) = a := by omega
    rw [e1]
    go_enter Tryd.func102, Tryd.ntmps102
    go_wp2
    go_ret
    exact ⟨rfl, Below.refl _ _⟩

def sgn (neg : Bool) (n : Int) : Int := if neg then -n else n
theorem signed_any (w : World) (neg : Bool) (n : Int) (h0 : 0 ≤ n) (h1 : n < 18446744073709551616) :
    Calls Tryd.prog 101 #[.bool neg, .int .u64 n] w fun e w' => e = .returned (.tuple #[.int .i64 (shortN (sgn neg n)), .int .i64 (shortE (sgn neg n))]) ∧ Below w.heap.size w w' := by
  have hf : (fits (sgn neg n) ∧ shortN (sgn neg n) = sgn neg n ∧ shortE (sgn neg n) = 0) ∨ (¬ fits (sgn neg n) ∧ shortN (sgn neg n) = 0 ∧ shortE (sgn neg n) = 2) := by
    unfold shortN shortE; split
    · exact .inl ⟨by assumption, rfl, rfl⟩
    · exact .inr ⟨by assumption, rfl, rfl⟩
  rcases hf with ⟨h2, e1, e2⟩ | ⟨h2, e1, e2⟩
  · rw [e1, e2]
    clear e1 e2
    cases neg
    · simp only [sgn, fits, Bool.false_eq_true, if_false] at h2 ⊢
      go_enter Tryd.func101, Tryd.ntmps101
      go_wp2
      go_ret2
      exact ⟨rfl, Below.refl _ _⟩
    · simp only [sgn, fits, if_true] at h2 ⊢
      have h3 : n ≤ 9223372036854775808 := by omega
      go_enter Tryd.func101, Tryd.ntmps101
      go_wp2
      rw [show wrap64 (-wrap64 n) = -n by unfold wrap64; omega]
      go_ret2
      exact ⟨rfl, Below.refl _ _⟩
  · rw [e1, e2]
    clear e1 e2
    cases neg
    · simp only [sgn, fits, Bool.false_eq_true, if_false] at h2
      have h3 : 9223372036854775807 < n := by omega
      clear h2
      go_enter Tryd.func101, Tryd.ntmps101
      go_wp2
      go_ret2
      exact ⟨rfl, Below.refl _ _⟩
    · simp only [sgn, fits, if_true] at h2
      have h3 : 9223372036854775808 < n := by omega
      clear h2
      go_enter Tryd.func101, Tryd.ntmps101
      go_wp2
      go_ret2
      exact ⟨rfl, Below.refl _ _⟩

end Go.Proofs.YtlgohkdckdnmhaaDoor
/- calc: the product. -/
namespace Go.Proofs.YtlgohkdckdnmhaaDoor
open Go.RowKit Go.Afx

namespace M64
theorem maskN (a : Nat) (ha : a < 18446744073709551616) : bits .and .u64 (a : Int) 4294967295 = ((a % 4294967296 : Nat) : Int) := by
  have h := bits_and_u64_nat a 4294967295 ha (by omega)
  have e : a &&& 4294967295 = a % 4294967296 := Nat.and_two_pow_sub_one_eq_mod a 32
  rw [e] at h
  exact h
theorem divN (a : Nat) : (a : Int) / 4294967296 = ((a / 4294967296 : Nat) : Int) := by omega
theorem mulN (a b : Nat) : (a : Int) * (b : Int) = ((a * b : Nat) : Int) := (Int.natCast_mul a b).symm
theorem addN (a b : Nat) : (a : Int) + (b : Int) = ((a + b : Nat) : Int) := (Int.natCast_add a b).symm
theorem wrapN (a : Nat) (ha : a < 18446744073709551616) : IntKind.u64.wrap (a : Int) = (a : Int) := by rw [IntKind.wrap_u64]; omega
theorem wrapM (a : Nat) : IntKind.u64.wrap (a : Int) = ((a % 18446744073709551616 : Nat) : Int) := by rw [IntKind.wrap_u64]; omega
end M64

set_option maxHeartbeats 1000000 in
theorem mul64_nat (x y : Nat) (hx : x < 18446744073709551616) (hy : y < 18446744073709551616) (w : World) :
    Calls Tryd.prog 99 #[.int .u64 x, .int .u64 y] w fun e w' => e = .returned (.tuple #[.int .u64 ((x * y / 18446744073709551616 : Nat) : Int), .int .u64 ((x * y % 18446744073709551616 : Nat) : Int)]) ∧ w' = w := by
  obtain ⟨bd, bt, bw, hhi⟩ := Lib.mul64_hi x y hx hy
  have ba := Lib.half_mul_le (a := x / 4294967296) (b := y / 4294967296) (by omega) (by omega)
  have bb := Lib.half_mul_le (a := x / 4294967296) (b := y % 4294967296) (by omega) (by omega)
  have bc := Lib.half_mul_le (a := x % 4294967296) (b := y / 4294967296) (by omega) (by omega)
  have ba' : x / 4294967296 * (y / 4294967296) < 18446744073709551616 := by omega
  have bb' : x / 4294967296 * (y % 4294967296) < 18446744073709551616 := by omega
  have bc' : x % 4294967296 * (y / 4294967296) < 18446744073709551616 := by omega
  have bh1 : x / 4294967296 * (y / 4294967296) + (x / 4294967296 * (y % 4294967296) + x % 4294967296 * (y % 4294967296) / 4294967296) / 4294967296 < 18446744073709551616 := by omega
  have bh : x / 4294967296 * (y / 4294967296) + (x / 4294967296 * (y % 4294967296) + x % 4294967296 * (y % 4294967296) / 4294967296) / 4294967296 + ((x / 4294967296 * (y % 4294967296) + x % 4294967296 * (y % 4294967296) / 4294967296) % 4294967296 + x % 4294967296 * (y / 4294967296)) / 4294967296 < 18446744073709551616 := by omega
  go_enter Tryd.func99, Tryd.ntmps99
  go_wp2
  simp only [M64.maskN x hx, M64.maskN y hy, M64.divN, M64.mulN, M64.addN, M64.wrapN _ bd, M64.wrapN _ bb', M64.wrapN _ bt, M64.maskN _ bt, M64.wrapN _ bc', M64.wrapN _ bw, M64.wrapN _ ba', M64.wrapN _ bh1, M64.wrapN _ bh, M64.wrapM (x * y)]
  rw [hhi]
  go_ret2
  exact ⟨rfl, rfl⟩

theorem mul64_any (x y : Int) (hx0 : 0 ≤ x) (hx : x < 18446744073709551616) (hy0 : 0 ≤ y) (hy : y < 18446744073709551616) (w : World) :
    Calls Tryd.prog 99 #[.int .u64 x, .int .u64 y] w fun e w' => e = .returned (.tuple #[.int .u64 (x * y / 18446744073709551616), .int .u64 (x * y % 18446744073709551616)]) ∧ w = w' := by
  obtain ⟨x, rfl⟩ := Int.eq_ofNat_of_zero_le hx0
  obtain ⟨y, rfl⟩ := Int.eq_ofNat_of_zero_le hy0
  refine (mul64_nat x y (by omega) (by omega) w).mono ?_
  rintro e w' ⟨rfl, rfl⟩
  refine ⟨?_, rfl⟩
  rw [Int.natCast_ediv, Int.natCast_emod, Int.natCast_mul]
  rfl

def prodI (l : List Int) : Int := l.foldl (· * ·) 1
theorem prodI_next (l : List Int) (i : Nat) (h : i < l.length) : prodI (l.take (i + 1)) = prodI (l.take i) * l[i] := by
  unfold prodI
  rw [← List.take_append_getElem h, List.foldl_append]; rfl
theorem prodI_zero (l : List Int) (i : Nat) (h : i < l.length) (h0 : l[i] = 0) : prodI l = 0 := by
  have h1 : prodI (l.take (i + 1)) = 0 := by rw [prodI_next l i h, h0, Int.mul_zero]
  have h2 : ∀ (m : List Int), m.foldl (· * ·) (0 : Int) = 0 := by
    intro m
    induction m with
    | nil => rfl
    | cons a m ih => simpa using ih
  have h3 : prodI l = (l.drop (i + 1)).foldl (· * ·) (prodI (l.take (i + 1))) := by
    conv => lhs; rw [← List.take_append_drop (i + 1) l]
    unfold prodI
    rw [List.foldl_append]
  rw [h3, h1, h2]

/-- The product so far, as the program keeps it. -/
def kept (neg : Bool) (out : Int) (over : Bool) (p : Int) : Prop :=
  p ≠ 0 ∧ neg = decide (p < 0) ∧ 0 ≤ out ∧ out < 18446744073709551616 ∧
    (over = false ∧ out = p.natAbs ∨ over = true ∧ 18446744073709551616 ≤ p.natAbs)

theorem kept_next {neg : Bool} {out : Int} {over : Bool} {p : Int} (h : kept neg out over p) (x : Int) (hx : x ≠ 0) :
    kept (neg != decide (x < 0)) (out * (x.natAbs : Int) % 18446744073709551616) (over || (out * (x.natAbs : Int) / 18446744073709551616 != 0)) (p * x) := by
  obtain ⟨h1, h2, h3, h4, h5⟩ := h
  refine ⟨Int.mul_ne_zero h1 hx, ?_, Int.emod_nonneg _ (by omega), Int.emod_lt_of_pos _ (by omega), ?_⟩
  · rw [h2]
    by_cases hp : p < 0 <;> by_cases hx2 : x < 0
    · have := Int.mul_pos_of_neg_of_neg hp hx2
      rw [decide_eq_true hp, decide_eq_true hx2, decide_eq_false (by omega)]; rfl
    · have := Int.mul_neg_of_neg_of_pos hp (show 0 < x by omega)
      rw [decide_eq_true hp, decide_eq_false hx2, decide_eq_true this]; rfl
    · have := Int.mul_neg_of_pos_of_neg (show 0 < p by omega) hx2
      rw [decide_eq_false hp, decide_eq_true hx2, decide_eq_true this]; rfl
    · have := Int.mul_pos (show 0 < p by omega) (show 0 < x by omega)
      rw [decide_eq_false hp, decide_eq_false hx2, decide_eq_false (by omega)]; rfl
  · have hx1 : 1 ≤ x.natAbs := by omega
    rcases h5 with ⟨rfl, h6⟩ | ⟨rfl, h6⟩
    · have h7 : out * (x.natAbs : Int) = ((p * x).natAbs : Int) := by rw [h6, Int.natAbs_mul]; simp
      rw [h7]
      generalize (p * x).natAbs = z
      by_cases hz : 18446744073709551616 ≤ z
      · right
        refine ⟨?_, hz⟩
        have : ((z : Int) / 18446744073709551616 != 0) = true := by rw [bne_iff_ne]; omega
        rw [this]; rfl
      · left
        refine ⟨?_, by omega⟩
        have : ((z : Int) / 18446744073709551616 != 0) = false := by rw [bne_eq_false_iff_eq]; omega
        rw [this]; rfl
    · right
      refine ⟨rfl, ?_⟩
      rw [Int.natAbs_mul]
      exact Nat.le_trans h6 (Nat.le_mul_of_pos_right _ hx1)

theorem kept_end {neg : Bool} {out : Int} {over : Bool} {p : Int} (h : kept neg out over p) :
    (over = true ∧ shortN p = 0 ∧ shortE p = 2) ∨ (over = false ∧ sgn neg out = p) := by
  obtain ⟨h1, h2, h3, h4, h5⟩ := h
  rcases h5 with ⟨h5, h6⟩ | ⟨h5, h6⟩
  · right
    refine ⟨h5, ?_⟩
    subst h2
    unfold sgn
    by_cases hp : p < 0
    · rw [decide_eq_true hp, if_pos rfl]; omega
    · rw [decide_eq_false hp, if_neg (by decide)]; omega
  · left
    have : ¬ fits p := by unfold fits; omega
    exact ⟨h5, by unfold shortN; rw [if_neg this], by unfold shortE; rw [if_neg this]⟩

end Go.Proofs.YtlgohkdckdnmhaaDoor
