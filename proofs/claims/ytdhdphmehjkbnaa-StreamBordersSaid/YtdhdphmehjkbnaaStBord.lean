/- The law StreamBorders: what the walk shows. -/
import Derived.Test.YtdhdphmehjkbnaaStO
import Derived.Deep.CutBlock
import Derived.Deep.DeepCutAuto
namespace Go.Proofs.Ytdhdphmehjkbnaa
open Go.RowKit Go.Afx

theorem greatL_lens {nm : ByteArray} {cl : List ColV} {l : List BatV} (h : greatL nm cl l = false) : cl.length ≤ 12 ∧ l.length ≤ 40 ∧ ∀ b ∈ l, b.rows.length ≤ 40 ∧ ∀ r ∈ b.rows, r.l.length ≤ 30 := by
  obtain ⟨h1, h2, h3⟩ := greatL_no h
  refine ⟨(greatS_no h1).1, h2, fun b hb => ⟨(h3 b hb).1, fun r hr => ?_⟩⟩
  have := (h3 b hb).2 r hr
  unfold greatB at this
  rw [Bool.or_eq_false_iff, decide_eq_false_iff_not] at this
  omega

set_option maxRecDepth 100000 in
set_option maxHeartbeats 4000000 in
theorem borders_walk (v0 : Value) (s : StrV) (mark : Int) (wm : (Lit.int .i64 mark).wf = true) (v2 : Value) (l : List BatV) (w : World)
    (o0 : v0 = s.agg ∧ s.name.size ≤ maxLen ∧ Sl w (fun _ => True) 2 s.v s.cols.length (colCells s.cols) ∧ ∀ c ∈ s.cols, c.read) (o2 : BatAt w (fun _ => True) v2 l ∧ ∀ b ∈ l, b.read) :
    Calls Try.prog 3 #[v0, .int .i64 mark, v2] w fun e w' => e = .returned (.bool true) ∧ Below w.heap.size w w' := by
  obtain ⟨rfl, hnm, hc, hcr⟩ := o0
  obtain ⟨hl, hlr⟩ := o2
  obtain ⟨nm, cv, cl⟩ := s
  simp only [StrV.agg] at *
  have hmark := wf_fit64 wm
  obtain ⟨pc, cc, rfl, hcc1, hcc⟩ := hc.form
  obtain ⟨pl, cp, rfl, hpl1, hpl⟩ := hl.1.form
  have hal : Below w.heap.size w (w.alloc (.cells #[.string nm, .slice pc cl.length cc] 24)) := (Below.refl _ _).alloc (Nat.le_refl _) _
  have HBK : Hid (Blk (w.alloc (.cells #[.string nm, .slice pc cl.length cc] 24)) w.heap.size 24 [.string nm, .slice pc cl.length cc]) := Blk.new w _ _
  have HG := Lib.hid (great_any _ _ _ nm _ _ cl l (hc.below hal) (hl.below hal))
  have HC := Lib.hid (hc.below hal)
  have HL := Lib.hid (hl.below hal)
  have HLR := Lib.hid hlr
  have HCR : Hid (∀ c ∈ cl, c.name.size ≤ maxLen) := fun c h => (hcr c h).1
  have HAL := Lib.hid hal
  have HNM := Lib.hid hnm
  clear hc hl hlr hcr hal hnm wm
  cases hgl : greatL nm cl l
  case true =>
    rw [hgl] at HG
    clear hgl
    go_enter Try.func3, Try.ntmps3
    go_wp2_with (first
      | (go_at_call 12; refine HG.out.mono ?_; clear HG; rintro e w2 ⟨rfl, hb2⟩; have HB2 := Lib.hid (HAL.out.trans (hb2.mono HAL.out.size)); clear hb2)
      | (go_at_call 13; refine (st_awake _).mono ?_; rintro e w3 ⟨rfl, hb3⟩))
    go_ret
    exact ⟨rfl, HB2.out.trans (hb3.mono HB2.out.size)⟩
  rw [hgl] at HG
  obtain ⟨hcl12, hl40, hlens⟩ := greatL_lens hgl
  have HLENS := Lib.hid hlens
  clear hgl hlens
  go_enter Try.func3, Try.ntmps3
  go_wp2_with fail
  generalize hw1 : w.alloc (.cells #[.string nm, .slice pc cl.length cc] 24) = w1 at *
  clear hw1
  refine HG.out.mono ?_
  clear HG
  rintro e w2 ⟨rfl, hb2⟩
  have HB2 := Lib.hid hb2
  clear hb2
  go_wp2_with (first
    | (go_at_call 13; refine (st_awake _).mono ?_; rintro e w3 ⟨rfl, hb3⟩; have hb23 := HB2.out.trans (hb3.mono HB2.out.size); have x0 : w3.cell? ⟨w.heap.size, 0, none⟩ = some (.string nm) := (HBK.out.below hb23).cell 0; have x1 : w3.cell? ⟨w.heap.size, 1, none⟩ = some (.slice pc cl.length cc) := (HBK.out.below hb23).cell 1; have HB3 := Lib.hid hb23; clear hb3 hb23))
  have HNB := Lib.hid (newborder_any w3 _ nm _ cl (HC.out.below HB3.out) HNM.out HCR.out (by omega))
  refine HNB.out.mono ?_
  clear HNB
  rintro e w4 hno
  rcases hno with ⟨hr, rfl, hb4⟩ | ⟨hr, b, rfl, hb0, hi, hb4⟩
  · have HB4 := Lib.hid (HB3.out.trans (hb4.mono HB3.out.size))
    have z0 : w4.cell? ⟨w.heap.size, 0, none⟩ = some (.string nm) := (HBK.out.below HB4.out).cell 0
    have z1 : w4.cell? ⟨w.heap.size, 1, none⟩ = some (.slice pc cl.length cc) := (HBK.out.below HB4.out).cell 1
    have hlr := lawright_any w4 _ nm _ cl (HC.out.below HB4.out) HNM.out HCR.out
    rw [hr] at hlr
    have HLR2 := Lib.hid hlr
    clear hlr hr hb4 x0 x1
    go_wp2_with (go_at_call 15; refine HLR2.out.mono ?_; clear HLR2; rintro e w5 ⟨rfl, hb5⟩)
    go_ret
    have h5 := HB4.out.trans (hb5.mono HB4.out.size)
    exact ⟨rfl, HAL.out.trans (h5.mono HAL.out.size)⟩
  · have HB4 := Lib.hid (HB3.out.trans (hb4.mono HB3.out.size))
    have z0 : w4.cell? ⟨w.heap.size, 0, none⟩ = some (.string nm) := (HBK.out.below HB4.out).cell 0
    have z1 : w4.cell? ⟨w.heap.size, 1, none⟩ = some (.slice pc cl.length cc) := (HBK.out.below HB4.out).cell 1
    have hlr := lawright_any w4 _ nm _ cl (HC.out.below HB4.out) HNM.out HCR.out
    rw [hr] at hlr
    have HLR2 := Lib.hid hlr
    have HI := Lib.hid hi
    have hlt3 : w1.heap.size ≤ w3.heap.size := HB3.out.size
    have hwlt : w.heap.size < w1.heap.size := HBK.out.lt
    have hbw : w1.heap.size ≤ b := by omega
    clear hlr hr hb4 x0 x1 hi hb0 hlt3
    go_wp2_with (go_at_call 15; refine HLR2.out.mono ?_; clear HLR2; rintro e w5 ⟨rfl, hb5⟩; have HI5 := Lib.hid (HI.out.below hb5); have HB5 := Lib.hid (HB4.out.trans (hb5.mono HB4.out.size)); clear hb5)
    have q0 : w5.cell? ⟨w.heap.size, 0, none⟩ = some (.string nm) := (HBK.out.below HB5.out).cell 0
    have hd5 : Below w5.heap.size w5 w5.drew := (Below.refl _ _).drew
    have HNME := Lib.hid (bname w5.drew b nm cl 0 (HI5.out.below hd5))
    have HSET := Lib.hid (bset w5.drew b nm cl 0 (HI5.out.below hd5) mark)
    have HD5 := Lib.hid hd5
    clear z0 z1 hd5
    by_cases hm0 : 0 ≤ mark
    · rw [if_pos hm0, if_pos hm0] at HSET
      have dm : decide (0 ≤ mark) = true := decide_eq_true hm0
      refine wp_region_lit_plan [] [(0, 0), (1, 0), (2, 0), (3, 0), (4, 0), (5, 0), (6, 0), (7, 0), (9, 0), (10, 2), (8, 3), (11, 0), (12, 0), (13, 0), (14, 0), (15, 0), (18, 0), (19, 0), (16, 4), (17, 0), (20, 0), (21, 0)] (fun q => q = w.heap.size) (by kernel_rfl) (by kernel_rfl) (fun c a d v w h => by cases d <;> exact h) ?_
      go_wp2_with (first
        | (refine plan_pure (v := _) (by rfl) (by rfl) (by rfl) (by intro _; go_simp; with_reducible rfl) ?_; simp only [List.setIfInBounds_toArray, List.set_cons_zero, List.set_cons_succ]; try go_bits) | (refine plan_read (v := _) (by rfl) (by rfl) (by rfl) (by go_simp; with_reducible rfl) ?_; simp only [List.setIfInBounds_toArray, List.set_cons_zero, List.set_cons_succ]; try go_bits) | (refine plan_readB (v := _) (by rfl) (by rfl) (by rfl) (by intro _ hag; unfold Agree at hag; go_simp; with_reducible rfl) ?_; simp only [List.setIfInBounds_toArray, List.set_cons_zero, List.set_cons_succ]; try go_bits) | (refine plan_skip0 (by rfl) (by rfl) (by rfl) ?_; simp only [List.setIfInBounds_toArray, List.set_cons_zero, List.set_cons_succ]; try go_bits) | (refine plan_skip1 (by rfl) (by rfl) (by rfl) ?_; simp only [List.setIfInBounds_toArray, List.set_cons_zero, List.set_cons_succ]; try go_bits) | (refine plan_skip2 (by rfl) (by rfl) (by rfl) ?_; simp only [List.setIfInBounds_toArray, List.set_cons_zero, List.set_cons_succ]; try go_bits) | (refine plan_any (by rfl) ?_) | (refine plan_keep (by rfl) ?_) | (refine plan_nil ?_) | (with_reducible refine And.intro (by first | assumption | exact Agree.refl _ _ | exact agree_drew _ _ | exact agree_alloc _ (by intro k hk; subst hk; first | omega | (simp; omega))) ?_) | (unfold Act.put; simp only [List.setIfInBounds_toArray, List.set_cons_zero, List.set_cons_succ])
        | (go_at_call 16; refine HNME.out.mono ?_; clear HNME; rintro e w6 ⟨rfl, rfl⟩)
        | (go_at_call 17; refine HSET.out.mono ?_; clear HSET; rintro e w7 ⟨rfl, hi7, ho7⟩; have HI7 := Lib.hid hi7; have HO7 := Lib.hid ho7; clear hi7 ho7))
      have HD5B := HD5
      clear HI HD5 HI5 q0
      have hw7 : Below w1.heap.size w1 w7 := (HB5.out.trans (HD5B.out.mono HB5.out.size)).trans (HO7.out.below (Nat.le_trans HB5.out.size HD5B.out.size) (fun q hq => by omega))
      have HW7 := Lib.hid hw7
      clear hw7 HO7 HD5B HB5 HB4
      go_loopw [9, 10] (fun s9 i wr => ∃ (k : Nat) (now : Int), i = .int .i64 k ∧ k ≤ l.length ∧ s9 = .int .i64 now ∧ 0 ≤ now ∧ now ≤ 9223372036854775807 ∧ IsBorder wr b nm cl now ∧ Below w1.heap.size w1 wr) (fun _ i _ => l.length - (intOf i).toNat)
      case atStart => exact ⟨0, _, rfl, Nat.zero_le _, rfl, by first | exact hm0 | decide, by first | exact hmark.2 | decide, HI7.out, HW7.out⟩
      case round =>
        obtain ⟨k, now, rfl, hk, rfl, hn0, hn1, hi, hb⟩ := hrel
        have HIR := Lib.hid hi
        have HBR := Lib.hid hb
        have hbl := hi.lt
        clear hi
        by_cases hka : k < l.length
        · obtain ⟨g1, off1, cap2, hv, hg1, e0, e1⟩ := sl_bat (HL.out.below hb).1 hka
          cases hv
          have hrw := HL.out.2 l[k] (List.getElem_mem hka)
          have hfit := (HLR.out l[k] (List.getElem_mem hka)).1
          have hlen := (HLENS.out l[k] (List.getElem_mem hka)).2
          have HBS : Hid (∀ W, Below w1.heap.size w1 W → W.cell? ⟨g1, off1 + k * 2, none⟩ = some (.int .i64 l[k].id) ∧ W.cell? ⟨g1, off1 + k * 2 + 1, none⟩ = some l[k].v) := fun W h => by
            obtain ⟨g9, off9, cap9, hv9, _, h8, h9⟩ := sl_bat (HL.out.below h).1 hka
            cases hv9
            exact ⟨h8, h9⟩
          generalize l[k] = c at *
          obtain ⟨id, cv, crows⟩ := c
          simp only at e0 e1 hrw hfit hlen HBS
          obtain ⟨px, cx, rfl, hx1, hx2⟩ := hrw.1.form
          have z1 : wr.cell? ⟨w.heap.size, 1, none⟩ = some (.slice pc cl.length cc) := (HBK.out.below hb).cell 1
          have hd : Below wr.heap.size wr wr.drew := (Below.refl _ _).drew
          have hbd := HBR.out.trans (hd.mono HBR.out.size)
          have HF := Lib.hid (lawfits_any wr.drew _ _ _ _ cl crows (HC.out.below hbd) (hrw.below hbd))
          have HRW := Lib.hid hrw
          have HLEN := Lib.hid hlen
          have HD := Lib.hid hd
          have HCE : Hid (∀ f, checkE f id now = if f = false then 13 else if id < 1 then 1 else if id ≤ now then 9 else if now + 1 < id then 10 else 0) := fun f => rfl
          have HFB : Hid (fitsB cl (crows.map RowV.l) = fitsB cl (crows.map RowV.l)) := rfl
          generalize hfe : fitsB cl (crows.map RowV.l) = f at *
          have HFE := Lib.hid hfe
          have HC2 := Lib.hid (HCE.out f)
          generalize hwe : checkE f id now = want at *
          have HWE := Lib.hid hwe
          have HFIT := Lib.hid hfit
          unfold fit64 at hfit
          clear hb hrw hlen hd hbd hfe hwe HCE HFB
          go_upto_block 2 with fail
          go_cut [11] (fun s11 wc => s11 = .int .i64 want ∧ Below wr.heap.size wr wc)
          case first =>
            cases f
            · have e5 : want = 13 := HC2.out
              subst e5
              clear HC2 HWE
              go_wp2_with fail
              refine wp_region_lit_plan [] [(0, 0), (2, 0), (3, 0), (4, 0), (5, 0), (1, 1), (6, 1), (7, 4), (8, 0), (9, 0)] (fun _ => False) (by kernel_rfl) (by kernel_rfl) (fun c a d v w h => by cases d <;> exact h) ?_
              go_wp2_with (first
                | (refine plan_pure (v := _) (by rfl) (by rfl) (by rfl) (by intro _; go_simp; with_reducible rfl) ?_; simp only [List.setIfInBounds_toArray, List.set_cons_zero, List.set_cons_succ]; try go_bits) | (refine plan_read (v := _) (by rfl) (by rfl) (by rfl) (by go_simp; with_reducible rfl) ?_; simp only [List.setIfInBounds_toArray, List.set_cons_zero, List.set_cons_succ]; try go_bits) | (refine plan_readB (v := _) (by rfl) (by rfl) (by rfl) (by intro _ hag; unfold Agree at hag; go_simp; with_reducible rfl) ?_; simp only [List.setIfInBounds_toArray, List.set_cons_zero, List.set_cons_succ]; try go_bits) | (refine plan_skip0 (by rfl) (by rfl) (by rfl) ?_; simp only [List.setIfInBounds_toArray, List.set_cons_zero, List.set_cons_succ]; try go_bits) | (refine plan_skip1 (by rfl) (by rfl) (by rfl) ?_; simp only [List.setIfInBounds_toArray, List.set_cons_zero, List.set_cons_succ]; try go_bits) | (refine plan_skip2 (by rfl) (by rfl) (by rfl) ?_; simp only [List.setIfInBounds_toArray, List.set_cons_zero, List.set_cons_succ]; try go_bits) | (refine plan_any (by rfl) ?_) | (refine plan_keep (by rfl) ?_) | (refine plan_nil ?_) | (with_reducible refine And.intro (by first | assumption | exact Agree.refl _ _ | exact agree_drew _ _ | exact agree_alloc _ (by intro k hk; subst hk; first | omega | (simp; omega))) ?_) | (unfold Act.put; simp only [List.setIfInBounds_toArray, List.set_cons_zero, List.set_cons_succ])
                | (go_at_call 18; refine HF.out.mono ?_; clear HF; rintro e w8 ⟨rfl, hb8⟩; have HB8 := Lib.hid (HD.out.trans (hb8.mono HD.out.size)); clear hb8))
              go_meet
              exact ⟨rfl, HB8.out⟩
            have HC3 : Hid (want = if id < 1 then 1 else if id ≤ now then 9 else if now + 1 < id then 10 else 0) := HC2.out
            clear HC2
            by_cases h1 : id < 1
            · have e5 : want = 1 := by rw [HC3.out, if_pos h1]
              subst e5
              clear HC3 HWE
              have d1 : decide (id < 1) = true := decide_eq_true h1
              go_wp2_with fail
              refine wp_region_lit_plan [] [(0, 0), (2, 0), (3, 0), (4, 0), (5, 0), (1, 1), (6, 1), (7, 4), (8, 0), (9, 0)] (fun _ => False) (by kernel_rfl) (by kernel_rfl) (fun c a d v w h => by cases d <;> exact h) ?_
              go_wp2_with (first
                | (refine plan_pure (v := _) (by rfl) (by rfl) (by rfl) (by intro _; go_simp; with_reducible rfl) ?_; simp only [List.setIfInBounds_toArray, List.set_cons_zero, List.set_cons_succ]; try go_bits) | (refine plan_read (v := _) (by rfl) (by rfl) (by rfl) (by go_simp; with_reducible rfl) ?_; simp only [List.setIfInBounds_toArray, List.set_cons_zero, List.set_cons_succ]; try go_bits) | (refine plan_readB (v := _) (by rfl) (by rfl) (by rfl) (by intro _ hag; unfold Agree at hag; go_simp; with_reducible rfl) ?_; simp only [List.setIfInBounds_toArray, List.set_cons_zero, List.set_cons_succ]; try go_bits) | (refine plan_skip0 (by rfl) (by rfl) (by rfl) ?_; simp only [List.setIfInBounds_toArray, List.set_cons_zero, List.set_cons_succ]; try go_bits) | (refine plan_skip1 (by rfl) (by rfl) (by rfl) ?_; simp only [List.setIfInBounds_toArray, List.set_cons_zero, List.set_cons_succ]; try go_bits) | (refine plan_skip2 (by rfl) (by rfl) (by rfl) ?_; simp only [List.setIfInBounds_toArray, List.set_cons_zero, List.set_cons_succ]; try go_bits) | (refine plan_any (by rfl) ?_) | (refine plan_keep (by rfl) ?_) | (refine plan_nil ?_) | (with_reducible refine And.intro (by first | assumption | exact Agree.refl _ _ | exact agree_drew _ _ | exact agree_alloc _ (by intro k hk; subst hk; first | omega | (simp; omega))) ?_) | (unfold Act.put; simp only [List.setIfInBounds_toArray, List.set_cons_zero, List.set_cons_succ])
                | (go_at_call 18; refine HF.out.mono ?_; clear HF; rintro e w8 ⟨rfl, hb8⟩; have hb89 := HD.out.trans (hb8.mono HD.out.size); obtain ⟨f0, f1⟩ := HBS.out w8 (HBR.out.trans (hb89.mono HBR.out.size)); have HB8 := Lib.hid hb89; clear hb8 hb89))
              go_meet
              exact ⟨rfl, HB8.out⟩
            have d1 : decide (id < 1) = false := decide_eq_false h1
            by_cases h2 : id ≤ now
            · have e5 : want = 9 := by rw [HC3.out, if_neg h1, if_pos h2]
              subst e5
              clear HC3 HWE
              have d2 : decide (id ≤ now) = true := decide_eq_true h2
              go_wp2_with fail
              refine wp_region_lit_plan [] [(0, 0), (2, 0), (3, 0), (4, 0), (5, 0), (1, 1), (6, 1), (7, 4), (8, 0), (9, 0)] (fun _ => False) (by kernel_rfl) (by kernel_rfl) (fun c a d v w h => by cases d <;> exact h) ?_
              go_wp2_with (first
                | (refine plan_pure (v := _) (by rfl) (by rfl) (by rfl) (by intro _; go_simp; with_reducible rfl) ?_; simp only [List.setIfInBounds_toArray, List.set_cons_zero, List.set_cons_succ]; try go_bits) | (refine plan_read (v := _) (by rfl) (by rfl) (by rfl) (by go_simp; with_reducible rfl) ?_; simp only [List.setIfInBounds_toArray, List.set_cons_zero, List.set_cons_succ]; try go_bits) | (refine plan_readB (v := _) (by rfl) (by rfl) (by rfl) (by intro _ hag; unfold Agree at hag; go_simp; with_reducible rfl) ?_; simp only [List.setIfInBounds_toArray, List.set_cons_zero, List.set_cons_succ]; try go_bits) | (refine plan_skip0 (by rfl) (by rfl) (by rfl) ?_; simp only [List.setIfInBounds_toArray, List.set_cons_zero, List.set_cons_succ]; try go_bits) | (refine plan_skip1 (by rfl) (by rfl) (by rfl) ?_; simp only [List.setIfInBounds_toArray, List.set_cons_zero, List.set_cons_succ]; try go_bits) | (refine plan_skip2 (by rfl) (by rfl) (by rfl) ?_; simp only [List.setIfInBounds_toArray, List.set_cons_zero, List.set_cons_succ]; try go_bits) | (refine plan_any (by rfl) ?_) | (refine plan_keep (by rfl) ?_) | (refine plan_nil ?_) | (with_reducible refine And.intro (by first | assumption | exact Agree.refl _ _ | exact agree_drew _ _ | exact agree_alloc _ (by intro k hk; subst hk; first | omega | (simp; omega))) ?_) | (unfold Act.put; simp only [List.setIfInBounds_toArray, List.set_cons_zero, List.set_cons_succ])
                | (go_at_call 18; refine HF.out.mono ?_; clear HF; rintro e w8 ⟨rfl, hb8⟩; have hb89 := HD.out.trans (hb8.mono HD.out.size); obtain ⟨f0, f1⟩ := HBS.out w8 (HBR.out.trans (hb89.mono HBR.out.size)); have HB8 := Lib.hid hb89; clear hb8 hb89))
              go_meet
              exact ⟨rfl, HB8.out⟩
            have d2 : decide (id ≤ now) = false := decide_eq_false h2
            have hnow : now + 1 ≤ 9223372036854775807 := by omega
            by_cases h3 : now + 1 < id
            · have e5 : want = 10 := by rw [HC3.out, if_neg h1, if_neg h2, if_pos h3]
              subst e5
              clear HC3 HWE
              have d3 : decide (now + 1 < id) = true := decide_eq_true h3
              go_wp2_with fail
              refine wp_region_lit_plan [] [(0, 0), (2, 0), (3, 0), (4, 0), (5, 0), (1, 1), (6, 1), (7, 4), (8, 0), (9, 0)] (fun _ => False) (by kernel_rfl) (by kernel_rfl) (fun c a d v w h => by cases d <;> exact h) ?_
              go_wp2_with (first
                | (refine plan_pure (v := _) (by rfl) (by rfl) (by rfl) (by intro _; go_simp; with_reducible rfl) ?_; simp only [List.setIfInBounds_toArray, List.set_cons_zero, List.set_cons_succ]; try go_bits) | (refine plan_read (v := _) (by rfl) (by rfl) (by rfl) (by go_simp; with_reducible rfl) ?_; simp only [List.setIfInBounds_toArray, List.set_cons_zero, List.set_cons_succ]; try go_bits) | (refine plan_readB (v := _) (by rfl) (by rfl) (by rfl) (by intro _ hag; unfold Agree at hag; go_simp; with_reducible rfl) ?_; simp only [List.setIfInBounds_toArray, List.set_cons_zero, List.set_cons_succ]; try go_bits) | (refine plan_skip0 (by rfl) (by rfl) (by rfl) ?_; simp only [List.setIfInBounds_toArray, List.set_cons_zero, List.set_cons_succ]; try go_bits) | (refine plan_skip1 (by rfl) (by rfl) (by rfl) ?_; simp only [List.setIfInBounds_toArray, List.set_cons_zero, List.set_cons_succ]; try go_bits) | (refine plan_skip2 (by rfl) (by rfl) (by rfl) ?_; simp only [List.setIfInBounds_toArray, List.set_cons_zero, List.set_cons_succ]; try go_bits) | (refine plan_any (by rfl) ?_) | (refine plan_keep (by rfl) ?_) | (refine plan_nil ?_) | (with_reducible refine And.intro (by first | assumption | exact Agree.refl _ _ | exact agree_drew _ _ | exact agree_alloc _ (by intro k hk; subst hk; first | omega | (simp; omega))) ?_) | (unfold Act.put; simp only [List.setIfInBounds_toArray, List.set_cons_zero, List.set_cons_succ])
                | (go_at_call 18; refine HF.out.mono ?_; clear HF; rintro e w8 ⟨rfl, hb8⟩; have hb89 := HD.out.trans (hb8.mono HD.out.size); obtain ⟨f0, f1⟩ := HBS.out w8 (HBR.out.trans (hb89.mono HBR.out.size)); have HB8 := Lib.hid hb89; clear hb8 hb89))
              go_meet
              exact ⟨rfl, HB8.out⟩
            · have e5 : want = 0 := by rw [HC3.out, if_neg h1, if_neg h2, if_neg h3]
              subst e5
              clear HC3 HWE
              have d3 : decide (now + 1 < id) = false := decide_eq_false h3
              go_wp2_with fail
              refine wp_region_lit_plan [] [(0, 0), (2, 0), (3, 0), (4, 0), (5, 0), (1, 1), (6, 1), (7, 4), (8, 0), (9, 0)] (fun _ => False) (by kernel_rfl) (by kernel_rfl) (fun c a d v w h => by cases d <;> exact h) ?_
              go_wp2_with (first
                | (refine plan_pure (v := _) (by rfl) (by rfl) (by rfl) (by intro _; go_simp; with_reducible rfl) ?_; simp only [List.setIfInBounds_toArray, List.set_cons_zero, List.set_cons_succ]; try go_bits) | (refine plan_read (v := _) (by rfl) (by rfl) (by rfl) (by go_simp; with_reducible rfl) ?_; simp only [List.setIfInBounds_toArray, List.set_cons_zero, List.set_cons_succ]; try go_bits) | (refine plan_readB (v := _) (by rfl) (by rfl) (by rfl) (by intro _ hag; unfold Agree at hag; go_simp; with_reducible rfl) ?_; simp only [List.setIfInBounds_toArray, List.set_cons_zero, List.set_cons_succ]; try go_bits) | (refine plan_skip0 (by rfl) (by rfl) (by rfl) ?_; simp only [List.setIfInBounds_toArray, List.set_cons_zero, List.set_cons_succ]; try go_bits) | (refine plan_skip1 (by rfl) (by rfl) (by rfl) ?_; simp only [List.setIfInBounds_toArray, List.set_cons_zero, List.set_cons_succ]; try go_bits) | (refine plan_skip2 (by rfl) (by rfl) (by rfl) ?_; simp only [List.setIfInBounds_toArray, List.set_cons_zero, List.set_cons_succ]; try go_bits) | (refine plan_any (by rfl) ?_) | (refine plan_keep (by rfl) ?_) | (refine plan_nil ?_) | (with_reducible refine And.intro (by first | assumption | exact Agree.refl _ _ | exact agree_drew _ _ | exact agree_alloc _ (by intro k hk; subst hk; first | omega | (simp; omega))) ?_) | (unfold Act.put; simp only [List.setIfInBounds_toArray, List.set_cons_zero, List.set_cons_succ])
                | (go_at_call 18; refine HF.out.mono ?_; clear HF; rintro e w8 ⟨rfl, hb8⟩; have hb89 := HD.out.trans (hb8.mono HD.out.size); obtain ⟨f0, f1⟩ := HBS.out w8 (HBR.out.trans (hb89.mono HBR.out.size)); have HB8 := Lib.hid hb89; clear hb8 hb89))
              go_meet
              exact ⟨rfl, HB8.out⟩
          case rest =>
            obtain ⟨rfl, hbc⟩ := hcut
            have hbw := HBR.out.trans (hbc.mono HBR.out.size)
            obtain ⟨f0, f1⟩ := HBS.out wc hbw
            have hck := bcheck wc b nm cl now (HIR.out.below hbc) id HFIT.out _ _ crows (HRW.out.below hbw) (fun r hr => by have := HLEN.out r hr; omega)
            rw [HFE.out, HWE.out] at hck
            have HCK := Lib.hid hck
            have HIC := Lib.hid (HIR.out.below hbc)
            have HBC := Lib.hid hbw
            clear hbc hbw hck e0 e1 z1 HC2 HF HD
            go_wp2_with fail
            refine HCK.out.mono ?_
            clear HCK
            rintro e w9 ⟨rfl, hb9⟩
            have hbw9 := HBC.out.trans (hb9.mono HBC.out.size)
            obtain ⟨f2, f3⟩ := HBS.out w9 hbw9
            have hi9 := HIC.out.below hb9
            have HMK := Lib.hid (bmark w9 b nm cl now hi9)
            have htk := btake w9 b nm cl now hi9 id HFIT.out _ _ crows (HRW.out.below hbw9) (fun r hr => by have := HLEN.out r hr; omega)
            rw [HFE.out, HWE.out] at htk
            have HTK := Lib.hid htk
            have HB9 := Lib.hid hbw9
            clear hb9 hbw9 hi9 htk f0 f1
            go_wp2_with (first
              | (go_at_call 20; refine HMK.out.mono ?_; clear HMK; rintro e w10 ⟨rfl, rfl⟩)
              | fail)
            refine HTK.out.mono ?_
            clear HTK
            rintro e w10 ⟨rfl, hi10, ho10⟩
            have hbw10 := HB9.out.trans (ho10.below HB9.out.size (fun q hq => by omega))
            obtain ⟨f4, f5⟩ := HBS.out w10 hbw10
            have HB10 := Lib.hid hbw10
            by_cases h0 : want = 0
            · rw [if_pos h0] at hi10
              have HMK2 := Lib.hid (bmark w10 b nm cl id hi10)
              have HI10 := Lib.hid hi10
              have hid1 : 0 ≤ id := by
                have h5 := HWE.out
                rw [h0] at h5
                unfold checkE at h5
                by_cases hf : f = false
                · rw [if_pos hf] at h5; cases h5
                · rw [if_neg hf] at h5
                  by_cases h6 : id < 1
                  · rw [if_pos h6] at h5; cases h5
                  · omega
              subst h0
              clear hi10 ho10 hbw10 HWE f2 f3
              go_wp2_with (go_at_call 20; refine HMK2.out.mono ?_; clear HMK2; rintro e w11 ⟨rfl, rfl⟩)
              go_roundw
              case rel => exact ⟨k + 1, id, by go_num, by omega, rfl, hid1, by omega, HI10.out, HB10.out⟩
              case measure => (simp [intOf]) <;> omega
            · rw [if_neg h0] at hi10
              have d0 : (want == 0) = false := beq_eq_false_iff_ne.2 h0
              have HMK2 := Lib.hid (bmark w10 b nm cl now hi10)
              have HI10 := Lib.hid hi10
              clear hi10 ho10 hbw10 HWE f2 f3 h0
              go_wp2_with (go_at_call 20; refine HMK2.out.mono ?_; clear HMK2; rintro e w11 ⟨rfl, rfl⟩)
              go_roundw
              case rel => exact ⟨k + 1, now, by go_num, by omega, rfl, hn0, hn1, HI10.out, HB10.out⟩
              case measure => (simp [intOf]) <;> omega
        · obtain rfl : k = l.length := by omega
          clear hb
          go_wp2
          go_ret
          exact ⟨rfl, HAL.out.trans (HBR.out.mono HAL.out.size)⟩
    · rw [if_neg hm0, if_neg hm0] at HSET
      have dm : decide (0 ≤ mark) = false := decide_eq_false hm0
      have hmx : max mark 0 = 0 := by omega
      refine wp_region_lit_plan [] [(0, 0), (1, 0), (2, 0), (3, 0), (4, 0), (5, 0), (6, 0), (7, 0), (9, 0), (10, 2), (8, 3), (11, 0), (12, 0), (13, 0), (14, 0), (15, 0), (18, 0), (19, 0), (16, 4), (17, 0), (20, 0), (21, 0)] (fun q => q = w.heap.size) (by kernel_rfl) (by kernel_rfl) (fun c a d v w h => by cases d <;> exact h) ?_
      go_wp2_with (first
        | (refine plan_pure (v := _) (by rfl) (by rfl) (by rfl) (by intro _; go_simp; with_reducible rfl) ?_; simp only [List.setIfInBounds_toArray, List.set_cons_zero, List.set_cons_succ]; try go_bits) | (refine plan_read (v := _) (by rfl) (by rfl) (by rfl) (by go_simp; with_reducible rfl) ?_; simp only [List.setIfInBounds_toArray, List.set_cons_zero, List.set_cons_succ]; try go_bits) | (refine plan_readB (v := _) (by rfl) (by rfl) (by rfl) (by intro _ hag; unfold Agree at hag; go_simp; with_reducible rfl) ?_; simp only [List.setIfInBounds_toArray, List.set_cons_zero, List.set_cons_succ]; try go_bits) | (refine plan_skip0 (by rfl) (by rfl) (by rfl) ?_; simp only [List.setIfInBounds_toArray, List.set_cons_zero, List.set_cons_succ]; try go_bits) | (refine plan_skip1 (by rfl) (by rfl) (by rfl) ?_; simp only [List.setIfInBounds_toArray, List.set_cons_zero, List.set_cons_succ]; try go_bits) | (refine plan_skip2 (by rfl) (by rfl) (by rfl) ?_; simp only [List.setIfInBounds_toArray, List.set_cons_zero, List.set_cons_succ]; try go_bits) | (refine plan_any (by rfl) ?_) | (refine plan_keep (by rfl) ?_) | (refine plan_nil ?_) | (with_reducible refine And.intro (by first | assumption | exact Agree.refl _ _ | exact agree_drew _ _ | exact agree_alloc _ (by intro k hk; subst hk; first | omega | (simp; omega))) ?_) | (unfold Act.put; simp only [List.setIfInBounds_toArray, List.set_cons_zero, List.set_cons_succ])
        | (go_at_call 16; refine HNME.out.mono ?_; clear HNME; rintro e w6 ⟨rfl, rfl⟩)
        | (go_at_call 17; refine HSET.out.mono ?_; clear HSET; rintro e w7 ⟨rfl, hi7, ho7⟩; have HI7 := Lib.hid hi7; have HO7 := Lib.hid ho7; clear hi7 ho7))
      have HD5B := HD5
      clear hmx
      clear HI HD5 HI5 q0
      have hw7 : Below w1.heap.size w1 w7 := (HB5.out.trans (HD5B.out.mono HB5.out.size)).trans (HO7.out.below (Nat.le_trans HB5.out.size HD5B.out.size) (fun q hq => by omega))
      have HW7 := Lib.hid hw7
      clear hw7 HO7 HD5B HB5 HB4
      go_loopw [9, 10] (fun s9 i wr => ∃ (k : Nat) (now : Int), i = .int .i64 k ∧ k ≤ l.length ∧ s9 = .int .i64 now ∧ 0 ≤ now ∧ now ≤ 9223372036854775807 ∧ IsBorder wr b nm cl now ∧ Below w1.heap.size w1 wr) (fun _ i _ => l.length - (intOf i).toNat)
      case atStart => exact ⟨0, _, rfl, Nat.zero_le _, rfl, by first | exact hm0 | decide, by first | exact hmark.2 | decide, HI7.out, HW7.out⟩
      case round =>
        obtain ⟨k, now, rfl, hk, rfl, hn0, hn1, hi, hb⟩ := hrel
        have HIR := Lib.hid hi
        have HBR := Lib.hid hb
        have hbl := hi.lt
        clear hi
        by_cases hka : k < l.length
        · obtain ⟨g1, off1, cap2, hv, hg1, e0, e1⟩ := sl_bat (HL.out.below hb).1 hka
          cases hv
          have hrw := HL.out.2 l[k] (List.getElem_mem hka)
          have hfit := (HLR.out l[k] (List.getElem_mem hka)).1
          have hlen := (HLENS.out l[k] (List.getElem_mem hka)).2
          have HBS : Hid (∀ W, Below w1.heap.size w1 W → W.cell? ⟨g1, off1 + k * 2, none⟩ = some (.int .i64 l[k].id) ∧ W.cell? ⟨g1, off1 + k * 2 + 1, none⟩ = some l[k].v) := fun W h => by
            obtain ⟨g9, off9, cap9, hv9, _, h8, h9⟩ := sl_bat (HL.out.below h).1 hka
            cases hv9
            exact ⟨h8, h9⟩
          generalize l[k] = c at *
          obtain ⟨id, cv, crows⟩ := c
          simp only at e0 e1 hrw hfit hlen HBS
          obtain ⟨px, cx, rfl, hx1, hx2⟩ := hrw.1.form
          have z1 : wr.cell? ⟨w.heap.size, 1, none⟩ = some (.slice pc cl.length cc) := (HBK.out.below hb).cell 1
          have hd : Below wr.heap.size wr wr.drew := (Below.refl _ _).drew
          have hbd := HBR.out.trans (hd.mono HBR.out.size)
          have HF := Lib.hid (lawfits_any wr.drew _ _ _ _ cl crows (HC.out.below hbd) (hrw.below hbd))
          have HRW := Lib.hid hrw
          have HLEN := Lib.hid hlen
          have HD := Lib.hid hd
          have HCE : Hid (∀ f, checkE f id now = if f = false then 13 else if id < 1 then 1 else if id ≤ now then 9 else if now + 1 < id then 10 else 0) := fun f => rfl
          have HFB : Hid (fitsB cl (crows.map RowV.l) = fitsB cl (crows.map RowV.l)) := rfl
          generalize hfe : fitsB cl (crows.map RowV.l) = f at *
          have HFE := Lib.hid hfe
          have HC2 := Lib.hid (HCE.out f)
          generalize hwe : checkE f id now = want at *
          have HWE := Lib.hid hwe
          have HFIT := Lib.hid hfit
          unfold fit64 at hfit
          clear hb hrw hlen hd hbd hfe hwe HCE HFB
          go_upto_block 2 with fail
          go_cut [11] (fun s11 wc => s11 = .int .i64 want ∧ Below wr.heap.size wr wc)
          case first =>
            cases f
            · have e5 : want = 13 := HC2.out
              subst e5
              clear HC2 HWE
              go_wp2_with fail
              refine wp_region_lit_plan [] [(0, 0), (2, 0), (3, 0), (4, 0), (5, 0), (1, 1), (6, 1), (7, 4), (8, 0), (9, 0)] (fun _ => False) (by kernel_rfl) (by kernel_rfl) (fun c a d v w h => by cases d <;> exact h) ?_
              go_wp2_with (first
                | (refine plan_pure (v := _) (by rfl) (by rfl) (by rfl) (by intro _; go_simp; with_reducible rfl) ?_; simp only [List.setIfInBounds_toArray, List.set_cons_zero, List.set_cons_succ]; try go_bits) | (refine plan_read (v := _) (by rfl) (by rfl) (by rfl) (by go_simp; with_reducible rfl) ?_; simp only [List.setIfInBounds_toArray, List.set_cons_zero, List.set_cons_succ]; try go_bits) | (refine plan_readB (v := _) (by rfl) (by rfl) (by rfl) (by intro _ hag; unfold Agree at hag; go_simp; with_reducible rfl) ?_; simp only [List.setIfInBounds_toArray, List.set_cons_zero, List.set_cons_succ]; try go_bits) | (refine plan_skip0 (by rfl) (by rfl) (by rfl) ?_; simp only [List.setIfInBounds_toArray, List.set_cons_zero, List.set_cons_succ]; try go_bits) | (refine plan_skip1 (by rfl) (by rfl) (by rfl) ?_; simp only [List.setIfInBounds_toArray, List.set_cons_zero, List.set_cons_succ]; try go_bits) | (refine plan_skip2 (by rfl) (by rfl) (by rfl) ?_; simp only [List.setIfInBounds_toArray, List.set_cons_zero, List.set_cons_succ]; try go_bits) | (refine plan_any (by rfl) ?_) | (refine plan_keep (by rfl) ?_) | (refine plan_nil ?_) | (with_reducible refine And.intro (by first | assumption | exact Agree.refl _ _ | exact agree_drew _ _ | exact agree_alloc _ (by intro k hk; subst hk; first | omega | (simp; omega))) ?_) | (unfold Act.put; simp only [List.setIfInBounds_toArray, List.set_cons_zero, List.set_cons_succ])
                | (go_at_call 18; refine HF.out.mono ?_; clear HF; rintro e w8 ⟨rfl, hb8⟩; have HB8 := Lib.hid (HD.out.trans (hb8.mono HD.out.size)); clear hb8))
              go_meet
              exact ⟨rfl, HB8.out⟩
            have HC3 : Hid (want = if id < 1 then 1 else if id ≤ now then 9 else if now + 1 < id then 10 else 0) := HC2.out
            clear HC2
            by_cases h1 : id < 1
            · have e5 : want = 1 := by rw [HC3.out, if_pos h1]
              subst e5
              clear HC3 HWE
              have d1 : decide (id < 1) = true := decide_eq_true h1
              go_wp2_with fail
              refine wp_region_lit_plan [] [(0, 0), (2, 0), (3, 0), (4, 0), (5, 0), (1, 1), (6, 1), (7, 4), (8, 0), (9, 0)] (fun _ => False) (by kernel_rfl) (by kernel_rfl) (fun c a d v w h => by cases d <;> exact h) ?_
              go_wp2_with (first
                | (refine plan_pure (v := _) (by rfl) (by rfl) (by rfl) (by intro _; go_simp; with_reducible rfl) ?_; simp only [List.setIfInBounds_toArray, List.set_cons_zero, List.set_cons_succ]; try go_bits) | (refine plan_read (v := _) (by rfl) (by rfl) (by rfl) (by go_simp; with_reducible rfl) ?_; simp only [List.setIfInBounds_toArray, List.set_cons_zero, List.set_cons_succ]; try go_bits) | (refine plan_readB (v := _) (by rfl) (by rfl) (by rfl) (by intro _ hag; unfold Agree at hag; go_simp; with_reducible rfl) ?_; simp only [List.setIfInBounds_toArray, List.set_cons_zero, List.set_cons_succ]; try go_bits) | (refine plan_skip0 (by rfl) (by rfl) (by rfl) ?_; simp only [List.setIfInBounds_toArray, List.set_cons_zero, List.set_cons_succ]; try go_bits) | (refine plan_skip1 (by rfl) (by rfl) (by rfl) ?_; simp only [List.setIfInBounds_toArray, List.set_cons_zero, List.set_cons_succ]; try go_bits) | (refine plan_skip2 (by rfl) (by rfl) (by rfl) ?_; simp only [List.setIfInBounds_toArray, List.set_cons_zero, List.set_cons_succ]; try go_bits) | (refine plan_any (by rfl) ?_) | (refine plan_keep (by rfl) ?_) | (refine plan_nil ?_) | (with_reducible refine And.intro (by first | assumption | exact Agree.refl _ _ | exact agree_drew _ _ | exact agree_alloc _ (by intro k hk; subst hk; first | omega | (simp; omega))) ?_) | (unfold Act.put; simp only [List.setIfInBounds_toArray, List.set_cons_zero, List.set_cons_succ])
                | (go_at_call 18; refine HF.out.mono ?_; clear HF; rintro e w8 ⟨rfl, hb8⟩; have hb89 := HD.out.trans (hb8.mono HD.out.size); obtain ⟨f0, f1⟩ := HBS.out w8 (HBR.out.trans (hb89.mono HBR.out.size)); have HB8 := Lib.hid hb89; clear hb8 hb89))
              go_meet
              exact ⟨rfl, HB8.out⟩
            have d1 : decide (id < 1) = false := decide_eq_false h1
            by_cases h2 : id ≤ now
            · have e5 : want = 9 := by rw [HC3.out, if_neg h1, if_pos h2]
              subst e5
              clear HC3 HWE
              have d2 : decide (id ≤ now) = true := decide_eq_true h2
              go_wp2_with fail
              refine wp_region_lit_plan [] [(0, 0), (2, 0), (3, 0), (4, 0), (5, 0), (1, 1), (6, 1), (7, 4), (8, 0), (9, 0)] (fun _ => False) (by kernel_rfl) (by kernel_rfl) (fun c a d v w h => by cases d <;> exact h) ?_
              go_wp2_with (first
                | (refine plan_pure (v := _) (by rfl) (by rfl) (by rfl) (by intro _; go_simp; with_reducible rfl) ?_; simp only [List.setIfInBounds_toArray, List.set_cons_zero, List.set_cons_succ]; try go_bits) | (refine plan_read (v := _) (by rfl) (by rfl) (by rfl) (by go_simp; with_reducible rfl) ?_; simp only [List.setIfInBounds_toArray, List.set_cons_zero, List.set_cons_succ]; try go_bits) | (refine plan_readB (v := _) (by rfl) (by rfl) (by rfl) (by intro _ hag; unfold Agree at hag; go_simp; with_reducible rfl) ?_; simp only [List.setIfInBounds_toArray, List.set_cons_zero, List.set_cons_succ]; try go_bits) | (refine plan_skip0 (by rfl) (by rfl) (by rfl) ?_; simp only [List.setIfInBounds_toArray, List.set_cons_zero, List.set_cons_succ]; try go_bits) | (refine plan_skip1 (by rfl) (by rfl) (by rfl) ?_; simp only [List.setIfInBounds_toArray, List.set_cons_zero, List.set_cons_succ]; try go_bits) | (refine plan_skip2 (by rfl) (by rfl) (by rfl) ?_; simp only [List.setIfInBounds_toArray, List.set_cons_zero, List.set_cons_succ]; try go_bits) | (refine plan_any (by rfl) ?_) | (refine plan_keep (by rfl) ?_) | (refine plan_nil ?_) | (with_reducible refine And.intro (by first | assumption | exact Agree.refl _ _ | exact agree_drew _ _ | exact agree_alloc _ (by intro k hk; subst hk; first | omega | (simp; omega))) ?_) | (unfold Act.put; simp only [List.setIfInBounds_toArray, List.set_cons_zero, List.set_cons_succ])
                | (go_at_call 18; refine HF.out.mono ?_; clear HF; rintro e w8 ⟨rfl, hb8⟩; have hb89 := HD.out.trans (hb8.mono HD.out.size); obtain ⟨f0, f1⟩ := HBS.out w8 (HBR.out.trans (hb89.mono HBR.out.size)); have HB8 := Lib.hid hb89; clear hb8 hb89))
              go_meet
              exact ⟨rfl, HB8.out⟩
            have d2 : decide (id ≤ now) = false := decide_eq_false h2
            have hnow : now + 1 ≤ 9223372036854775807 := by omega
            by_cases h3 : now + 1 < id
            · have e5 : want = 10 := by rw [HC3.out, if_neg h1, if_neg h2, if_pos h3]
              subst e5
              clear HC3 HWE
              have d3 : decide (now + 1 < id) = true := decide_eq_true h3
              go_wp2_with fail
              refine wp_region_lit_plan [] [(0, 0), (2, 0), (3, 0), (4, 0), (5, 0), (1, 1), (6, 1), (7, 4), (8, 0), (9, 0)] (fun _ => False) (by kernel_rfl) (by kernel_rfl) (fun c a d v w h => by cases d <;> exact h) ?_
              go_wp2_with (first
                | (refine plan_pure (v := _) (by rfl) (by rfl) (by rfl) (by intro _; go_simp; with_reducible rfl) ?_; simp only [List.setIfInBounds_toArray, List.set_cons_zero, List.set_cons_succ]; try go_bits) | (refine plan_read (v := _) (by rfl) (by rfl) (by rfl) (by go_simp; with_reducible rfl) ?_; simp only [List.setIfInBounds_toArray, List.set_cons_zero, List.set_cons_succ]; try go_bits) | (refine plan_readB (v := _) (by rfl) (by rfl) (by rfl) (by intro _ hag; unfold Agree at hag; go_simp; with_reducible rfl) ?_; simp only [List.setIfInBounds_toArray, List.set_cons_zero, List.set_cons_succ]; try go_bits) | (refine plan_skip0 (by rfl) (by rfl) (by rfl) ?_; simp only [List.setIfInBounds_toArray, List.set_cons_zero, List.set_cons_succ]; try go_bits) | (refine plan_skip1 (by rfl) (by rfl) (by rfl) ?_; simp only [List.setIfInBounds_toArray, List.set_cons_zero, List.set_cons_succ]; try go_bits) | (refine plan_skip2 (by rfl) (by rfl) (by rfl) ?_; simp only [List.setIfInBounds_toArray, List.set_cons_zero, List.set_cons_succ]; try go_bits) | (refine plan_any (by rfl) ?_) | (refine plan_keep (by rfl) ?_) | (refine plan_nil ?_) | (with_reducible refine And.intro (by first | assumption | exact Agree.refl _ _ | exact agree_drew _ _ | exact agree_alloc _ (by intro k hk; subst hk; first | omega | (simp; omega))) ?_) | (unfold Act.put; simp only [List.setIfInBounds_toArray, List.set_cons_zero, List.set_cons_succ])
                | (go_at_call 18; refine HF.out.mono ?_; clear HF; rintro e w8 ⟨rfl, hb8⟩; have hb89 := HD.out.trans (hb8.mono HD.out.size); obtain ⟨f0, f1⟩ := HBS.out w8 (HBR.out.trans (hb89.mono HBR.out.size)); have HB8 := Lib.hid hb89; clear hb8 hb89))
              go_meet
              exact ⟨rfl, HB8.out⟩
            · have e5 : want = 0 := by rw [HC3.out, if_neg h1, if_neg h2, if_neg h3]
              subst e5
              clear HC3 HWE
              have d3 : decide (now + 1 < id) = false := decide_eq_false h3
              go_wp2_with fail
              refine wp_region_lit_plan [] [(0, 0), (2, 0), (3, 0), (4, 0), (5, 0), (1, 1), (6, 1), (7, 4), (8, 0), (9, 0)] (fun _ => False) (by kernel_rfl) (by kernel_rfl) (fun c a d v w h => by cases d <;> exact h) ?_
              go_wp2_with (first
                | (refine plan_pure (v := _) (by rfl) (by rfl) (by rfl) (by intro _; go_simp; with_reducible rfl) ?_; simp only [List.setIfInBounds_toArray, List.set_cons_zero, List.set_cons_succ]; try go_bits) | (refine plan_read (v := _) (by rfl) (by rfl) (by rfl) (by go_simp; with_reducible rfl) ?_; simp only [List.setIfInBounds_toArray, List.set_cons_zero, List.set_cons_succ]; try go_bits) | (refine plan_readB (v := _) (by rfl) (by rfl) (by rfl) (by intro _ hag; unfold Agree at hag; go_simp; with_reducible rfl) ?_; simp only [List.setIfInBounds_toArray, List.set_cons_zero, List.set_cons_succ]; try go_bits) | (refine plan_skip0 (by rfl) (by rfl) (by rfl) ?_; simp only [List.setIfInBounds_toArray, List.set_cons_zero, List.set_cons_succ]; try go_bits) | (refine plan_skip1 (by rfl) (by rfl) (by rfl) ?_; simp only [List.setIfInBounds_toArray, List.set_cons_zero, List.set_cons_succ]; try go_bits) | (refine plan_skip2 (by rfl) (by rfl) (by rfl) ?_; simp only [List.setIfInBounds_toArray, List.set_cons_zero, List.set_cons_succ]; try go_bits) | (refine plan_any (by rfl) ?_) | (refine plan_keep (by rfl) ?_) | (refine plan_nil ?_) | (with_reducible refine And.intro (by first | assumption | exact Agree.refl _ _ | exact agree_drew _ _ | exact agree_alloc _ (by intro k hk; subst hk; first | omega | (simp; omega))) ?_) | (unfold Act.put; simp only [List.setIfInBounds_toArray, List.set_cons_zero, List.set_cons_succ])
                | (go_at_call 18; refine HF.out.mono ?_; clear HF; rintro e w8 ⟨rfl, hb8⟩; have hb89 := HD.out.trans (hb8.mono HD.out.size); obtain ⟨f0, f1⟩ := HBS.out w8 (HBR.out.trans (hb89.mono HBR.out.size)); have HB8 := Lib.hid hb89; clear hb8 hb89))
              go_meet
              exact ⟨rfl, HB8.out⟩
          case rest =>
            obtain ⟨rfl, hbc⟩ := hcut
            have hbw := HBR.out.trans (hbc.mono HBR.out.size)
            obtain ⟨f0, f1⟩ := HBS.out wc hbw
            have hck := bcheck wc b nm cl now (HIR.out.below hbc) id HFIT.out _ _ crows (HRW.out.below hbw) (fun r hr => by have := HLEN.out r hr; omega)
            rw [HFE.out, HWE.out] at hck
            have HCK := Lib.hid hck
            have HIC := Lib.hid (HIR.out.below hbc)
            have HBC := Lib.hid hbw
            clear hbc hbw hck e0 e1 z1 HC2 HF HD
            go_wp2_with fail
            refine HCK.out.mono ?_
            clear HCK
            rintro e w9 ⟨rfl, hb9⟩
            have hbw9 := HBC.out.trans (hb9.mono HBC.out.size)
            obtain ⟨f2, f3⟩ := HBS.out w9 hbw9
            have hi9 := HIC.out.below hb9
            have HMK := Lib.hid (bmark w9 b nm cl now hi9)
            have htk := btake w9 b nm cl now hi9 id HFIT.out _ _ crows (HRW.out.below hbw9) (fun r hr => by have := HLEN.out r hr; omega)
            rw [HFE.out, HWE.out] at htk
            have HTK := Lib.hid htk
            have HB9 := Lib.hid hbw9
            clear hb9 hbw9 hi9 htk f0 f1
            go_wp2_with (first
              | (go_at_call 20; refine HMK.out.mono ?_; clear HMK; rintro e w10 ⟨rfl, rfl⟩)
              | fail)
            refine HTK.out.mono ?_
            clear HTK
            rintro e w10 ⟨rfl, hi10, ho10⟩
            have hbw10 := HB9.out.trans (ho10.below HB9.out.size (fun q hq => by omega))
            obtain ⟨f4, f5⟩ := HBS.out w10 hbw10
            have HB10 := Lib.hid hbw10
            by_cases h0 : want = 0
            · rw [if_pos h0] at hi10
              have HMK2 := Lib.hid (bmark w10 b nm cl id hi10)
              have HI10 := Lib.hid hi10
              have hid1 : 0 ≤ id := by
                have h5 := HWE.out
                rw [h0] at h5
                unfold checkE at h5
                by_cases hf : f = false
                · rw [if_pos hf] at h5; cases h5
                · rw [if_neg hf] at h5
                  by_cases h6 : id < 1
                  · rw [if_pos h6] at h5; cases h5
                  · omega
              subst h0
              clear hi10 ho10 hbw10 HWE f2 f3
              go_wp2_with (go_at_call 20; refine HMK2.out.mono ?_; clear HMK2; rintro e w11 ⟨rfl, rfl⟩)
              go_roundw
              case rel => exact ⟨k + 1, id, by go_num, by omega, rfl, hid1, by omega, HI10.out, HB10.out⟩
              case measure => (simp [intOf]) <;> omega
            · rw [if_neg h0] at hi10
              have d0 : (want == 0) = false := beq_eq_false_iff_ne.2 h0
              have HMK2 := Lib.hid (bmark w10 b nm cl now hi10)
              have HI10 := Lib.hid hi10
              clear hi10 ho10 hbw10 HWE f2 f3 h0
              go_wp2_with (go_at_call 20; refine HMK2.out.mono ?_; clear HMK2; rintro e w11 ⟨rfl, rfl⟩)
              go_roundw
              case rel => exact ⟨k + 1, now, by go_num, by omega, rfl, hn0, hn1, HI10.out, HB10.out⟩
              case measure => (simp [intOf]) <;> omega
        · obtain rfl : k = l.length := by omega
          clear hb
          go_wp2
          go_ret
          exact ⟨rfl, HAL.out.trans (HBR.out.mono HAL.out.size)⟩
end Go.Proofs.Ytdhdphmehjkbnaa
