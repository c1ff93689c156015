/- The law StreamFits: what the walk shows. -/
import Derived.Test.YtdhdphmehjkbnaaStO
import Derived.Test.YtdhdphmehjkbnaaEqS
namespace Go.Proofs.Ytdhdphmehjkbnaa
open Go.RowKit Go.Afx

theorem plan_skip4 {P : Program} {B : Nat → Prop} {Q : Exit → Act → World → Prop} {i : Nat} {rest : List (Nat × Nat)} {a : Act} {w : World} {o : Oper} {l : List Oper} {d : Tmp} (ho : l[i]? = some o) (hd : o.dst = some d) (hw : Region.wanted o (yielded l.toArray a.tmps) = false)
    (h : wpPlan P l.toArray B Q rest { a with tmps := a.tmps.setIfInBounds d undef } w) : wpPlan P l.toArray B Q ((i, 4) :: rest) a w := by
  have hy : Yields P l.toArray o undef a := .inr ⟨hw, rfl⟩
  have hr : wpPlan P l.toArray B Q rest (a.put o.dst undef) w := by rw [hd]; exact h
  exact hy.wpOp (by simpa using ho) hr
theorem agree_bdrew {w w' : World} {n : Nat} (h : Below w.heap.size w w') (hn : n < w.heap.size) : Agree (fun q => q = n) w.drew w' := fun b o hb => by
  have := agree_below h hn b o hb
  exact this

set_option maxRecDepth 100000 in
set_option maxHeartbeats 4000000 in
theorem fits_walk (v0 : Value) (cl : List ColV) (v1 : Value) (l : List BatV) (w : World)
    (o0 : Sl w (fun _ => True) 2 v0 cl.length (colCells cl) ∧ ∀ c ∈ cl, c.read) (o1 : BatAt w (fun _ => True) v1 l ∧ ∀ b ∈ l, b.read) :
    Calls Try.prog 4 #[v0, v1] w fun e w' => e = .returned (.bool true) ∧ Below w.heap.size w w' := by
  obtain ⟨hc, _⟩ := o0
  obtain ⟨hl, _⟩ := o1
  obtain ⟨pc, cc, rfl, hcc1, hcc⟩ := hc.form
  obtain ⟨pl, cp, rfl, hpl1, hpl⟩ := hl.1.form
  have HG := Lib.hid (great_any _ _ _ ⟨#[]⟩ _ _ cl l hc hl)
  have HC := Lib.hid hc
  have HL := Lib.hid hl
  clear hc hl
  cases hgl : greatL ⟨#[]⟩ cl l
  case true =>
    rw [hgl] at HG
    clear hgl
    go_enter Try.func4, Try.ntmps4
    go_wp2_with (first
      | (go_at_call 12; refine HG.out.mono ?_; clear HG; rintro e w2 ⟨rfl, hb2⟩; have HB2 := Lib.hid hb2; clear hb2)
      | (go_at_call 13; refine (st_awake _).mono ?_; rintro e w3 ⟨rfl, hb3⟩))
    go_ret
    exact ⟨rfl, HB2.out.trans (hb3.mono HB2.out.size)⟩
  rw [hgl] at HG
  obtain ⟨hn0, hl40, hlens⟩ := greatL_no hgl
  have hlens2 : ∀ b ∈ l, ∀ r ∈ b.rows, r.l.length ≤ 1000000 := fun b hb r hr => by
    have := (hlens b hb).2 r hr
    unfold greatB at this
    rw [Bool.or_eq_false_iff, decide_eq_false_iff_not] at this
    omega
  have HLENS := Lib.hid hlens2
  clear hgl hlens hlens2 hn0
  go_enter Try.func4, Try.ntmps4
  go_wp2_with (first
    | (go_at_call 12; refine HG.out.mono ?_; clear HG; rintro e w2 ⟨rfl, hb2⟩; have HB2 := Lib.hid hb2; clear hb2))
  go_loopw [5] (fun i wr => ∃ k : Nat, i = .int .i64 k ∧ k ≤ l.length ∧ Below w.heap.size w wr) (fun i _ => l.length - (intOf i).toNat)
  case atStart => exact ⟨0, rfl, Nat.zero_le _, HB2.out⟩
  case round =>
    clear HB2
    obtain ⟨k, rfl, hk, hb⟩ := hrel
    have HBR := Lib.hid hb
    by_cases hka : k < l.length
    · obtain ⟨g1, off1, cap2, hv, hg1, e0, e1⟩ := sl_bat (HL.out.below hb).1 hka
      cases hv
      have HBS : Hid (∀ W, Below wr.heap.size wr W → W.cell? ⟨g1, off1 + k * 2, none⟩ = some (.int .i64 l[k].id) ∧ W.cell? ⟨g1, off1 + k * 2 + 1, none⟩ = some l[k].v) := fun W h => ⟨(h.cell (p := ⟨g1, off1 + k * 2, none⟩) hg1).trans e0, (h.cell (p := ⟨g1, off1 + k * 2 + 1, none⟩) hg1).trans e1⟩
      have hrw := HL.out.2 l[k] (List.getElem_mem hka)
      have hlen := HLENS.out l[k] (List.getElem_mem hka)
      have nb : (batEq l[k] l[k] != batEq l[k] l[k]) = false := by cases batEq l[k] l[k] <;> rfl
      have HS1 : Hid (∀ W, Below wr.heap.size wr W → Calls Try.prog 23 #[l[k].agg, l[k].agg] W fun e w' => e = .returned (.bool true) ∧ Below W.heap.size W w') := fun W h => by
        have := stsame_any W _ _ l[k] l[k] (hrw.below (HBR.out.trans (h.mono HBR.out.size))) (hrw.below (HBR.out.trans (h.mono HBR.out.size)))
        rw [batEq_self] at this
        exact this
      have HF1 : Hid (∀ W, Below wr.heap.size wr W → Calls Try.prog 22 #[.slice pc cl.length cc, l[k].v] W fun e w' => e = .returned (.bool (fitsB cl (l[k].rows.map RowV.l))) ∧ Below W.heap.size W w') := fun W h =>
        stfits_any W _ _ _ _ cl _ (HC.out.below (HBR.out.trans (h.mono HBR.out.size))) (hrw.below (HBR.out.trans (h.mono HBR.out.size))) hlen
      have HF2 : Hid (∀ W, Below wr.heap.size wr W → Calls Try.prog 18 #[.slice pc cl.length cc, l[k].v] W fun e w' => e = .returned (.bool (fitsB cl (l[k].rows.map RowV.l))) ∧ Below W.heap.size W w') := fun W h =>
        lawfits_any W _ _ _ _ cl _ (HC.out.below (HBR.out.trans (h.mono HBR.out.size))) (hrw.below (HBR.out.trans (h.mono HBR.out.size)))
      by_cases hk0 : k = 0
      · subst hk0
        clear nb
        simp only [Nat.zero_mul, Nat.add_zero] at e0 e1 HBS
        generalize l[0] = c at *
        obtain ⟨id, cv, crows⟩ := c
        simp only [BatV.agg] at e0 e1 hrw hlen HS1 HF1 HF2 HBS
        obtain ⟨px, cx, rfl, hx1, hx2⟩ := hrw.1.form
        generalize fitsB cl (crows.map RowV.l) = f at *
        have nf : (f != f) = false := by cases f <;> rfl
        clear hb hrw hlen
        go_wp2_with fail
        refine wp_region_lit_plan [] [(0, 0), (1, 0), (2, 0), (3, 0), (4, 0), (7, 0), (8, 0), (9, 0), (10, 0), (11, 0), (5, 1), (12, 2), (6, 3), (13, 4), (14, 0), (15, 0), (16, 0), (17, 0), (18, 0), (19, 0), (20, 0), (21, 0), (23, 0), (24, 0), (25, 0), (26, 0), (29, 0), (30, 0), (31, 0), (33, 0), (34, 0), (35, 0), (36, 0), (22, 1), (27, 1), (32, 2), (37, 2), (28, 3), (38, 4), (39, 0), (40, 0), (41, 0), (42, 0), (43, 0), (44, 0), (45, 0), (47, 0), (48, 0), (49, 0), (46, 1), (50, 1), (51, 4), (52, 0), (53, 0)] (fun q => q = g1) (by kernel_rfl) (by kernel_rfl) (fun c a d v w h => by cases d <;> exact h) ?_
        go_wp2_with (first
          | (refine plan_pure (v := _) (by rfl) (by rfl) (by rfl) (by intro _; go_simp; with_reducible rfl) ?_; simp only [List.setIfInBounds_toArray, List.set_cons_zero, List.set_cons_succ]; try go_bits) | (refine plan_read (v := _) (by rfl) (by rfl) (by rfl) (by go_simp; with_reducible rfl) ?_; simp only [List.setIfInBounds_toArray, List.set_cons_zero, List.set_cons_succ]; try go_bits) | (refine plan_readB (v := _) (by rfl) (by rfl) (by rfl) (by intro _ hag; unfold Agree at hag; go_simp; with_reducible rfl) ?_; simp only [List.setIfInBounds_toArray, List.set_cons_zero, List.set_cons_succ]; try go_bits) | (refine plan_skip0 (by rfl) (by rfl) (by rfl) ?_; simp only [List.setIfInBounds_toArray, List.set_cons_zero, List.set_cons_succ]; try go_bits) | (refine plan_skip1 (by rfl) (by rfl) (by rfl) ?_; simp only [List.setIfInBounds_toArray, List.set_cons_zero, List.set_cons_succ]; try go_bits) | (refine plan_skip2 (by rfl) (by rfl) (by rfl) ?_; simp only [List.setIfInBounds_toArray, List.set_cons_zero, List.set_cons_succ]; try go_bits) | (refine plan_skip4 (by rfl) (by rfl) (by rfl) ?_; simp only [List.setIfInBounds_toArray, List.set_cons_zero, List.set_cons_succ]; try go_bits) | (refine plan_any (by rfl) ?_) | (refine plan_keep (by rfl) ?_) | (refine plan_nil ?_) | (with_reducible refine And.intro (by first | assumption | exact Agree.refl _ _ | exact agree_drew _ _ | exact agree_alloc _ (by intro k hk; subst hk; first | omega | (simp; omega))) ?_) | (unfold Act.put; simp only [List.setIfInBounds_toArray, List.set_cons_zero, List.set_cons_succ])
          | (go_at_call 22; refine (HF1.out _ (Below.refl _ _).drew).mono ?_; rintro e w8 ⟨rfl, hb8⟩; have hb8b := ((Below.refl wr.heap.size wr).drew).trans (hb8.mono (Nat.le_refl _)); have ha8 : Agree (fun q => q = g1) wr.drew w8 := agree_bdrew hb8b hg1; obtain ⟨y0, y1⟩ := HBS.out _ hb8b; have HB8 := Lib.hid hb8b; clear hb8 hb8b)
          | (go_at_call 18; refine (HF2.out _ HB8.out).mono ?_; rintro e w9 ⟨rfl, hb9⟩; have hb9b := HB8.out.trans (hb9.mono HB8.out.size); have ha9 : Agree (fun q => q = g1) wr.drew w9 := agree_bdrew hb9b hg1; obtain ⟨y0, y1⟩ := HBS.out _ hb9b; have HB9 := Lib.hid hb9b; clear hb9 hb9b)
          | (go_at_call 23; refine (HS1.out _ HB9.out).mono ?_; rintro e w12 ⟨rfl, hb12⟩; have HB12 := Lib.hid (HB9.out.trans (hb12.mono HB9.out.size)); clear hb12))
        exact ⟨⟨1, rfl, by omega, HBR.out.trans (HB12.out.mono HBR.out.size)⟩, by (simp [intOf]) <;> omega⟩
      · obtain ⟨m, hkm⟩ : ∃ m, k = m + 1 := ⟨k - 1, by omega⟩
        have hk1 : 0 < k := by omega
        have hm1 : (k : Int) - 1 = (m : Int) := by omega
        have hma : m < l.length := by omega
        clear hkm hk0
        obtain ⟨g2, off2, cap3, hv2, hg2, u0, u1⟩ := sl_bat (HL.out.below hb).1 hma
        cases hv2
        have HBS2 : Hid (∀ W, Below wr.heap.size wr W → W.cell? ⟨g1, off1 + m * 2, none⟩ = some (.int .i64 l[m].id) ∧ W.cell? ⟨g1, off1 + m * 2 + 1, none⟩ = some l[m].v) := fun W h => ⟨(h.cell (p := ⟨g1, off1 + m * 2, none⟩) hg1).trans u0, (h.cell (p := ⟨g1, off1 + m * 2 + 1, none⟩) hg1).trans u1⟩
        have hrw2 := HL.out.2 l[m] (List.getElem_mem hma)
        have HS2 : Hid (∀ W, Below wr.heap.size wr W → Calls Try.prog 23 #[l[k].agg, l[m].agg] W fun e w' => e = .returned (.bool (batEq l[k] l[m])) ∧ Below W.heap.size W w') := fun W h => 
          stsame_any W _ _ _ _ (hrw.below (HBR.out.trans (h.mono HBR.out.size))) (hrw2.below (HBR.out.trans (h.mono HBR.out.size)))
        have HS3 : Hid (∀ W, Below wr.heap.size wr W → Calls Try.prog 24 #[l[k].agg, l[m].agg] W fun e w' => e = .returned (.bool (batEq l[k] l[m])) ∧ Below W.heap.size W w') := fun W h => 
          lawsame_any W _ _ _ _ (hrw.below (HBR.out.trans (h.mono HBR.out.size))) (hrw2.below (HBR.out.trans (h.mono HBR.out.size)))
        clear nb
        generalize batEq l[k] l[m] = r at *
        have nr : (r != r) = false := by cases r <;> rfl
        generalize l[k] = c at *
        generalize l[m] = d at *
        obtain ⟨id, cv, crows⟩ := c
        obtain ⟨id2, cv2, crows2⟩ := d
        simp only [BatV.agg] at e0 e1 u0 u1 hrw hrw2 hlen HS1 HF1 HF2 HS2 HS3 HBS HBS2
        obtain ⟨px, cx, rfl, hx1, hx2⟩ := hrw.1.form
        obtain ⟨px2, cx2, rfl, hx12, hx22⟩ := hrw2.1.form
        generalize fitsB cl (crows.map RowV.l) = f at *
        have nf : (f != f) = false := by cases f <;> rfl
        clear hb hrw hlen hrw2
        go_wp2_with fail
        refine wp_region_lit_plan [] [(0, 0), (1, 0), (2, 0), (3, 0), (4, 0), (7, 0), (8, 0), (9, 0), (10, 0), (11, 0), (5, 1), (12, 2), (6, 3), (13, 4), (14, 0), (15, 0), (16, 0), (17, 0), (18, 0), (19, 0), (20, 0), (21, 0), (23, 0), (24, 0), (25, 0), (26, 0), (29, 0), (30, 0), (31, 0), (33, 0), (34, 0), (35, 0), (36, 0), (22, 1), (27, 1), (32, 2), (37, 2), (28, 3), (38, 4), (39, 0), (40, 0), (41, 0), (42, 0), (43, 0), (44, 0), (45, 0), (47, 0), (48, 0), (49, 0), (46, 1), (50, 1), (51, 4), (52, 0), (53, 0)] (fun q => q = g1) (by kernel_rfl) (by kernel_rfl) (fun c a d v w h => by cases d <;> exact h) ?_
        go_wp2_with (first
          | (refine plan_pure (v := _) (by rfl) (by rfl) (by rfl) (by intro _; go_simp; with_reducible rfl) ?_; simp only [List.setIfInBounds_toArray, List.set_cons_zero, List.set_cons_succ]; try go_bits) | (refine plan_read (v := _) (by rfl) (by rfl) (by rfl) (by go_simp; with_reducible rfl) ?_; simp only [List.setIfInBounds_toArray, List.set_cons_zero, List.set_cons_succ]; try go_bits) | (refine plan_readB (v := _) (by rfl) (by rfl) (by rfl) (by intro _ hag; unfold Agree at hag; go_simp; with_reducible rfl) ?_; simp only [List.setIfInBounds_toArray, List.set_cons_zero, List.set_cons_succ]; try go_bits) | (refine plan_skip0 (by rfl) (by rfl) (by rfl) ?_; simp only [List.setIfInBounds_toArray, List.set_cons_zero, List.set_cons_succ]; try go_bits) | (refine plan_skip1 (by rfl) (by rfl) (by rfl) ?_; simp only [List.setIfInBounds_toArray, List.set_cons_zero, List.set_cons_succ]; try go_bits) | (refine plan_skip2 (by rfl) (by rfl) (by rfl) ?_; simp only [List.setIfInBounds_toArray, List.set_cons_zero, List.set_cons_succ]; try go_bits) | (refine plan_skip4 (by rfl) (by rfl) (by rfl) ?_; simp only [List.setIfInBounds_toArray, List.set_cons_zero, List.set_cons_succ]; try go_bits) | (refine plan_any (by rfl) ?_) | (refine plan_keep (by rfl) ?_) | (refine plan_nil ?_) | (with_reducible refine And.intro (by first | assumption | exact Agree.refl _ _ | exact agree_drew _ _ | exact agree_alloc _ (by intro k hk; subst hk; first | omega | (simp; omega))) ?_) | (unfold Act.put; simp only [List.setIfInBounds_toArray, List.set_cons_zero, List.set_cons_succ])
          | (go_at_call 22; refine (HF1.out _ (Below.refl _ _).drew).mono ?_; rintro e w8 ⟨rfl, hb8⟩; have hb8b := ((Below.refl wr.heap.size wr).drew).trans (hb8.mono (Nat.le_refl _)); have ha8 : Agree (fun q => q = g1) wr.drew w8 := agree_bdrew hb8b hg1; obtain ⟨y0, y1⟩ := HBS.out _ hb8b; obtain ⟨z0, z1⟩ := HBS2.out _ hb8b; have HB8 := Lib.hid hb8b; clear hb8 hb8b)
          | (go_at_call 18; refine (HF2.out _ HB8.out).mono ?_; rintro e w9 ⟨rfl, hb9⟩; have hb9b := HB8.out.trans (hb9.mono HB8.out.size); have ha9 : Agree (fun q => q = g1) wr.drew w9 := agree_bdrew hb9b hg1; obtain ⟨y0, y1⟩ := HBS.out _ hb9b; obtain ⟨z0, z1⟩ := HBS2.out _ hb9b; have HB9 := Lib.hid hb9b; clear hb9 hb9b)
          | (go_at_call 24; refine (HS3.out _ HB10.out).mono ?_; rintro e w11 ⟨rfl, hb11⟩; have hb11b := HB10.out.trans (hb11.mono HB10.out.size); have ha11 : Agree (fun q => q = g1) wr.drew w11 := agree_bdrew hb11b hg1; obtain ⟨y0, y1⟩ := HBS.out _ hb11b; obtain ⟨z0, z1⟩ := HBS2.out _ hb11b; have HB11 := Lib.hid hb11b; clear hb11 hb11b)
          | (go_at_call 23; refine (HS2.out _ HB9.out).mono ?_; clear HS2; rintro e w10 ⟨rfl, hb10⟩; have hb10b := HB9.out.trans (hb10.mono HB9.out.size); have ha10 : Agree (fun q => q = g1) w9 w10 := agree_below hb10 (Nat.lt_of_lt_of_le hg1 HB9.out.size); obtain ⟨y0, y1⟩ := HBS.out _ hb10b; obtain ⟨z0, z1⟩ := HBS2.out _ hb10b; have HB10 := Lib.hid hb10b; clear hb10 hb10b)
          | (go_at_call 23; refine (HS1.out _ HB11.out).mono ?_; rintro e w12 ⟨rfl, hb12⟩; have HB12 := Lib.hid (HB11.out.trans (hb12.mono HB11.out.size)); clear hb12))
        exact ⟨⟨k + 1, by go_num, by omega, HBR.out.trans (HB12.out.mono HBR.out.size)⟩, by (simp [intOf]) <;> omega⟩
    · obtain rfl : k = l.length := by omega
      clear hb
      go_wp2_with (first
        | (go_at_call 13; refine (st_awake _).mono ?_; rintro e w3 ⟨rfl, hb3⟩; have HB3 := Lib.hid (HBR.out.trans (hb3.mono HBR.out.size)); clear hb3))
      go_ret
      exact ⟨rfl, HB3.out⟩
end Go.Proofs.Ytdhdphmehjkbnaa
