/- The law StreamLines: what the walk shows. -/
import Derived.Test.YtdhdphmehjkbnaaLnX
namespace Go.Proofs.Ytdhdphmehjkbnaa
open Go.RowKit Go.Afx

set_option maxRecDepth 100000 in
set_option maxHeartbeats 40000000 in
theorem lines_walk (v0 : Value) (s : StrV) (room : Int) (wm : (Lit.int .i64 room).wf = true) (v2 : Value) (l : List ActV) (v3 : Value) (ids : List Int) (w : World)
    (o0 : v0 = s.agg ∧ s.name.size ≤ maxLen ∧ Sl w (fun _ => True) 2 s.v s.cols.length (colCells s.cols) ∧ ∀ c ∈ s.cols, c.read) (o2 : ActAt w (fun _ => True) v2 l ∧ ∀ a ∈ l, a.x.read ∧ fit64 a.kind) (o3 : Sl w (fun _ => True) 1 v3 ids.length (ints ids)) :
    Calls Try.prog 9 #[v0, .int .i64 room, v2, v3] w fun e w' => e = .returned (.bool true) ∧ Below w.heap.size w w' := by
  obtain ⟨rfl, hnm, hc, hcr⟩ := o0
  obtain ⟨hl, hlr⟩ := o2
  obtain ⟨nm, cv, cl⟩ := s
  simp only [StrV.agg] at *
  have hrm := wf_fit64 wm
  obtain ⟨pc, cc, rfl, hcc1, hcc⟩ := hc.form
  obtain ⟨pl, cp, rfl, hpl1, hpl⟩ := hl.1.form
  obtain ⟨pi, ci, rfl, hpi1, hpi⟩ := o3.form
  have hal : Below w.heap.size w (w.alloc (.cells #[.string nm, .slice pc cl.length cc] 24)) := (Below.refl _ _).alloc (Nat.le_refl _) _
  have HBK : Hid (Blk (w.alloc (.cells #[.string nm, .slice pc cl.length cc] 24)) w.heap.size 24 [.string nm, .slice pc cl.length cc]) := Blk.new w _ _
  have HC := Lib.hid (hc.below hal)
  have HL := Lib.hid (hl.below hal)
  have HI := Lib.hid (o3.below hal)
  have HLR := Lib.hid hlr
  have HCR : Hid (∀ c ∈ cl, c.name.size ≤ maxLen) := fun c h => (hcr c h).1
  have HAL := Lib.hid hal
  have HNM := Lib.hid hnm
  have HRM := Lib.hid hrm
  clear hc hl hlr hcr hal hnm wm o3 hrm
  go_enter Try.func9, Try.ntmps9
  go_wp2
  generalize hw1 : w.alloc (.cells #[.string nm, .slice pc cl.length cc] 24) = w1 at *
  clear hw1
  go_loopw [9, 10] (fun v i wr => ∃ k : Nat, i = .int .i64 k ∧ k ≤ l.length ∧ k ≤ 50 ∧ Own wr 38 2 v k (batCells ((l.take k).map ActV.x)) ∧ (∀ q, v.ownBlock = some q → w1.heap.size ≤ q) ∧ Below w1.heap.size w1 wr) (fun _ i _ => l.length - (intOf i).toNat)
  case atStart => exact ⟨0, rfl, Nat.zero_le _, Nat.zero_le _, Own.nil _ _ _, by simp [Value.ownBlock], Below.refl _ _⟩
  case round =>
    obtain ⟨k, rfl, hk, hk50, hown, hnew, hbr⟩ := hrel
    obtain ⟨pv, cv2, rfl, hcv1, hcv2⟩ := own_form hown
    have HOWN := Lib.hid hown
    have HNEW := Lib.hid hnew
    have HBR := Lib.hid hbr
    clear hown hnew
    by_cases hgo : k < l.length ∧ k < 50
    · obtain ⟨hka, hk5⟩ := hgo
      have d5 : decide ((k : Int) < 50) = true := decide_eq_true (by omega)
      obtain ⟨g, off, rfl, hg, e0, e1, e2⟩ := act_at (HL.out.below hbr) hka
      obtain ⟨px, cx, hxv, hcx1, hcx2⟩ := ((HL.out.below hbr).2 l[k] (List.getElem_mem hka)).1.form
      have hT : (l.take (k + 1)).map ActV.x = (l.take k).map ActV.x ++ [l[k].x] := by
        rw [List.take_succ_eq_append_getElem hka, List.map_append]; rfl
      have HT := Lib.hid hT
      clear hT hbr e0
      generalize l[k] = a at *
      obtain ⟨kd, id, xv, rows⟩ := a
      simp only at e1 e2 hxv hcx1 HT
      subst hxv
      have hal : Below wr.heap.size wr (wr.alloc (.cells #[.int .i64 id, .slice px rows.length cx] 38)) := (Below.refl _ _).alloc (Nat.le_refl _) _
      have ho1 := HOWN.out.below hal
      have hs1 : Sl (wr.alloc (.cells #[.int .i64 id, .slice px rows.length cx] 38)) (fun _ => True) 2 (.slice (some ⟨wr.heap.size, 0, none⟩) 1 1) 1 (batCells [⟨id, .slice px rows.length cx, rows⟩]) :=
        (Own.made wr 38 2 (batCells [⟨id, .slice px rows.length cx, rows⟩]) [] 1 1 rfl (by intro u hu; simp [batCells, BatV.cells] at hu; rcases hu with rfl | rfl <;> rfl) (Nat.le_refl _) (by simp [maxLen]) (by simp [batCells, BatV.cells])).sl (fun _ _ => trivial)
      have HAL2 := Lib.hid hal
      clear hal
      go_wp2_with (at_builtin; refine wpList_app rfl _ _ rfl elemBat (by rfl) ho1 (by rfl) hs1 (by unfold maxLen; omega) (by omega) ?_; intro v1 w7 g1 g2 g3 g4 g5; clear ho1 hs1; have G1 := Lib.hid g1; have G2 := Lib.hid g2; have G3 := Lib.hid g3; clear g1 g2 g3 g4 g5)
      refine ⟨⟨k + 1, by go_num, by omega, by omega, ?_⟩, by (simp [intOf]) <;> omega⟩
      rw [HT.out, batCells_append]
      have h8 := HBR.out.trans (HAL2.out.mono HBR.out.size)
      refine ⟨G1.out, fun q hq => ?_, h8.trans (G2.out.below h8.size (fun q hq => HNEW.out q hq))⟩
      rcases G3.out with h2 | h2
      · rw [h2] at hq; exact HNEW.out q hq
      · rw [h2] at hq
        have h3 : wr.heap.size + 1 = q := by simpa using hq
        have := HBR.out.size
        omega
    · have hd : decide (k < l.length) = false ∨ (decide (k < l.length) = true ∧ decide ((k : Int) < 50) = false) := by
        by_cases h : k < l.length
        · exact .inr ⟨decide_eq_true h, decide_eq_false (fun h5 => hgo ⟨h, by omega⟩)⟩
        · exact .inl (decide_eq_false h)
      have htk : l.take k = l.take 50 := by
        rcases Nat.lt_or_ge k l.length with h | h
        · have : k = 50 := by omega
          rw [this]
        · rw [List.take_of_length_le h, List.take_of_length_le (by omega)]
      have hlk : k = ((l.take 50).map ActV.x).length := by
        rw [List.length_map, ← htk, List.length_take]; omega
      have hbat : BatAt wr (fun _ => True) (.slice pv k cv2) ((l.take 50).map ActV.x) := by
        have h8 := HOWN.out.sl (B := fun _ => True) (fun _ _ => trivial)
        rw [htk] at h8
        refine ⟨by rw [← hlk]; exact h8, fun x hx => ?_⟩
        obtain ⟨a, ha, rfl⟩ := List.mem_map.1 hx
        exact (HL.out.below hbr).2 a (List.mem_of_mem_take ha)
      have HG := Lib.hid (great_any wr _ _ nm _ _ cl _ (HC.out.below hbr) hbat)
      have z0 : wr.cell? ⟨w.heap.size, 0, none⟩ = some (.string nm) := (HBK.out.below hbr).cell 0
      have z1 : wr.cell? ⟨w.heap.size, 1, none⟩ = some (.slice pc cl.length cc) := (HBK.out.below hbr).cell 1
      clear hbat hlk htk hgo hbr HOWN HNEW
      generalize hgl : greatL nm cl ((l.take 50).map ActV.x) = gl at *
      have HGL := Lib.hid hgl
      clear hgl
      cases gl
      case true =>
        rcases hd with hd | ⟨hd, hd2⟩
        all_goals
          go_wp2_with (first
            | (go_at_call 12; refine HG.out.mono ?_; clear HG; rintro e w2 ⟨rfl, hb2⟩; have HB2 := Lib.hid (HBR.out.trans (hb2.mono HBR.out.size)); clear hb2)
            | (go_at_call 13; refine (st_awake _).mono ?_; rintro e w3 ⟨rfl, hb3⟩))
          go_ret
          exact ⟨rfl, HAL.out.trans ((HB2.out.trans (hb3.mono HB2.out.size)).mono HAL.out.size)⟩
      case false =>
        obtain ⟨hcl12, hl40, hlens⟩ := greatL_lens2 HGL.out
        rw [List.length_map, List.length_take] at hl40
        have hkl : k = l.length := by
          rcases hd with h | ⟨_, h⟩
          · rw [decide_eq_false_iff_not] at h; omega
          · rw [decide_eq_false_iff_not] at h; omega
        have hll : l.length ≤ 40 := by omega
        have hlens2 : ∀ a ∈ l, a.x.rows.length ≤ 40 ∧ ∀ r ∈ a.x.rows, r.l.length ≤ 30 := fun a ha => hlens a.x (by
          rw [List.take_of_length_le (by omega)]
          exact List.mem_map_of_mem ha)
        have HLENS := Lib.hid hlens2
        clear hd hlens hlens2 hl40 HGL
        subst hkl
        by_cases hids : 10 < ids.length
        · have d6 : decide ((10 : Int) < (ids.length : Int)) = true := decide_eq_true (by omega)
          go_wp2_with (first
            | (go_at_call 12; refine HG.out.mono ?_; clear HG; rintro e w2 ⟨rfl, hb2⟩; have HB2 := Lib.hid (HBR.out.trans (hb2.mono HBR.out.size)); clear hb2)
            | (go_at_call 13; refine (st_awake _).mono ?_; rintro e w3 ⟨rfl, hb3⟩))
          go_ret
          exact ⟨rfl, HAL.out.trans ((HB2.out.trans (hb3.mono HB2.out.size)).mono HAL.out.size)⟩
        · have d6 : decide ((10 : Int) < (ids.length : Int)) = false := decide_eq_false (by omega)
          clear hids
          go_wp2_with fail
          refine HG.out.mono ?_
          clear HG
          rintro e w2 ⟨rfl, hb2⟩
          have HB2 := Lib.hid (HBR.out.trans (hb2.mono HBR.out.size))
          clear hb2 z0 z1
          go_wp2_with fail
          refine (st_awake _).mono ?_
          rintro e w3 ⟨rfl, hb3⟩
          have hb23 := HB2.out.trans (hb3.mono HB2.out.size)
          have x0 : w3.cell? ⟨w.heap.size, 0, none⟩ = some (.string nm) := (HBK.out.below hb23).cell 0
          have x1 : w3.cell? ⟨w.heap.size, 1, none⟩ = some (.slice pc cl.length cc) := (HBK.out.below hb23).cell 1
          have HB3 := Lib.hid hb23
          have HNL := Lib.hid (newline_any (F := fun _ => True) w3 _ nm _ cl (HC.out.below hb23) HNM.out HCR.out (by omega) room (fun _ _ => trivial))
          clear hb3 hb23 HB2 HBR
          go_wp2_with fail
          refine HNL.out.mono ?_
          clear HNL
          rintro e w4 hno
          rcases hno with ⟨hr, rfl, hb4⟩ | ⟨hr, hroom, b, rfl, hb0, hi, hb4⟩
          · have HB4 := Lib.hid (HB3.out.trans (hb4.mono HB3.out.size))
            have y0 : w4.cell? ⟨w.heap.size, 0, none⟩ = some (.string nm) := (HBK.out.below HB4.out).cell 0
            have y1 : w4.cell? ⟨w.heap.size, 1, none⟩ = some (.slice pc cl.length cc) := (HBK.out.below HB4.out).cell 1
            have hlr := lawright_any w4 _ nm _ cl (HC.out.below HB4.out) HNM.out HCR.out
            cases hrc : rightC nm cl
            · rw [hrc] at hlr
              have HLR2 := Lib.hid hlr
              clear hlr hr hb4 x0 x1 hrc
              go_wp2_with (go_at_call 15; refine HLR2.out.mono ?_; clear HLR2; rintro e w5 ⟨rfl, hb5⟩)
              go_ret
              exact ⟨rfl, HAL.out.trans ((HB4.out.trans (hb5.mono HB4.out.size)).mono HAL.out.size)⟩
            · have hrm : room < 1 := by
                rcases hr with h | h
                · rw [hrc] at h; cases h
                · exact h
              have d7 : decide (room < 1) = true := decide_eq_true hrm
              rw [hrc] at hlr
              have HLR2 := Lib.hid hlr
              clear hlr hr hb4 x0 x1 hrc hrm
              go_wp2_with (go_at_call 15; refine HLR2.out.mono ?_; clear HLR2; rintro e w5 ⟨rfl, hb5⟩)
              go_ret
              exact ⟨rfl, HAL.out.trans ((HB4.out.trans (hb5.mono HB4.out.size)).mono HAL.out.size)⟩
          · have HB4 := Lib.hid (HB3.out.trans (hb4.mono HB3.out.size))
            have y0 : w4.cell? ⟨w.heap.size, 0, none⟩ = some (.string nm) := (HBK.out.below HB4.out).cell 0
            have y1 : w4.cell? ⟨w.heap.size, 1, none⟩ = some (.slice pc cl.length cc) := (HBK.out.below HB4.out).cell 1
            have hlr := lawright_any w4 _ nm _ cl (HC.out.below HB4.out) HNM.out HCR.out
            rw [hr] at hlr
            have HLR2 := Lib.hid hlr
            have d7 : decide (room < 1) = false := decide_eq_false (by omega)
            have hbw : w1.heap.size ≤ b := Nat.le_trans HB3.out.size hb0
            have HI4 := Lib.hid hi
            clear hlr hr hb4 x0 x1 hi hb0
            go_wp2_with (go_at_call 15; refine HLR2.out.mono ?_; clear HLR2; rintro e w5 ⟨rfl, hb5⟩; have HI5 := Lib.hid (HI4.out.below hb5); have HB5 := Lib.hid (HB4.out.trans (hb5.mono HB4.out.size)); clear hb5)
            clear y0 y1 HI4 HB4 HB3 HCR HNM d6 d7 hcv1 hk50 hk
            go_loopw [13, 14] (fun v i wr => ∃ k : Nat, i = .int .i64 k ∧ k ≤ l.length ∧ MainSt w1 b nm cl room l k v wr) (fun _ i _ => l.length - (intOf i).toNat)
            case atStart => exact ⟨0, rfl, Nat.zero_le _, _, [], [], HI5.out.mono (fun _ _ _ => by simp [Value.ownBlock]), Own.nil _ _ _, rfl, by simp, Nat.le_refl _, by simp [Value.ownBlock], by simp [Value.ownBlock], HB5.out⟩
            case round =>
              obtain ⟨k, rfl, hk, lv, ll, nl, hi, hown, hkey, hmem, hnk, hlv, hnv, hbr⟩ := hrel
              obtain ⟨pv, cv2, rfl, hcv1, hcv2⟩ := own_form hown
              have HIL := Lib.hid hi
              have HOWN := Lib.hid hown
              have HKEY := Lib.hid hkey
              have HMEM := Lib.hid hmem
              have HLV := Lib.hid hlv
              have HNV := Lib.hid hnv
              have HBR := Lib.hid hbr
              have hnb : ∀ x ∈ nl, x.rows.length ≤ 40 ∧ ∀ r ∈ x.rows, r.l.length ≤ 30 := fun x hx => by
                obtain ⟨a, ha, rfl⟩ := hmem x hx
                exact HLENS.out a ha
              have hrn : rowsN nl ≤ 40 * nl.length := rowsN_le (fun x hx => (hnb x hx).1)
              have hnl40 : nl.length ≤ 40 := by omega
              have hrnb : rowsN nl ≤ 1600 := by omega
              have HLB := Lib.hid (key_bounds hkey hnb)
              have HST : Hid (MainSt w1 b nm cl room l k (.slice pv nl.length cv2) wr) := ⟨lv, ll, nl, hi, hown, hkey, hmem, hnk, hlv, hnv, hbr⟩
              have HNBAT : Hid (BatAt wr (fun _ => True) (.slice pv nl.length cv2) nl) := ⟨hown.sl (fun _ _ => trivial), fun x hx => by
                obtain ⟨a, ha, rfl⟩ := hmem x hx
                exact (HL.out.below hbr).2 a ha⟩
              have z0 : wr.cell? ⟨w.heap.size, 0, none⟩ = some (.string nm) := (HBK.out.below hbr).cell 0
              have z1 : wr.cell? ⟨w.heap.size, 1, none⟩ = some (.slice pc cl.length cc) := (HBK.out.below hbr).cell 1
              clear hi hown hkey hmem hlv hnv hnb hrn
              obtain ⟨wo, rfl⟩ : ∃ wo : World, wo = wr := ⟨_, rfl⟩
              by_cases hka : k < l.length
              · obtain ⟨g, off, rfl, hg, e0, e1, e2⟩ := act_at (HL.out.below hbr) hka
                have hrow := (HL.out.below hbr).2 l[k] (List.getElem_mem hka)
                obtain ⟨px, cx, hxv, hcx1, hcx2⟩ := hrow.1.form
                have hln := HLENS.out l[k] (List.getElem_mem hka)
                have hrd := HLR.out l[k] (List.getElem_mem hka)
                have hmm : ∃ a ∈ l, a.x = l[k].x := ⟨_, List.getElem_mem hka, rfl⟩
                have HBS : Hid (∀ W, Below w1.heap.size w1 W → W.cell? ⟨g, off + k * 3, none⟩ = some (.int .i64 l[k].kind) ∧ W.cell? ⟨g, off + k * 3 + 1, none⟩ = some (.int .i64 l[k].x.id) ∧ W.cell? ⟨g, off + k * 3 + 2, none⟩ = some l[k].x.v) := fun W h => by
                  obtain ⟨g', o', hp, _, h0, h1, h2⟩ := act_at (HL.out.below h) hka
                  cases hp
                  exact ⟨h0, h1, h2⟩
                have HROW := Lib.hid hrow
                have HLN := Lib.hid hln
                have HRD := Lib.hid hrd
                have HMM := Lib.hid hmm
                clear hbr hrow hln hrd hmm
                generalize l[k] = a at *
                obtain ⟨kd, id, xv, rows⟩ := a
                simp only at e0 e1 e2 hxv hcx1 HBS HROW HLN HRD HMM
                subst hxv
                go_wp2_with fail
                go_loopw [15, 16] (fun s i wr => ∃ j : Nat, i = .int .i64 j ∧ j ≤ nl.length ∧ s = .int .i64 (rowsN (nl.take j) : Nat) ∧ wr = wo) (fun _ i _ => nl.length - (intOf i).toNat)
                case atStart => exact ⟨0, rfl, Nat.zero_le _, rfl, rfl⟩
                case round =>
                  obtain ⟨j, rfl, hj, rfl, rfl⟩ := hrel
                  by_cases hja : j < nl.length
                  · obtain ⟨g3, o3, rfl, u0, u1⟩ := bat_at HNBAT.out hja
                    obtain ⟨p5, c5, hv5, _, _⟩ := (HNBAT.out.2 nl[j] (List.getElem_mem hja)).1.form
                    rw [hv5] at u1
                    have hT : rowsN (nl.take (j + 1)) = rowsN (nl.take j) + nl[j].rows.length := by
                      rw [List.take_succ_eq_append_getElem hja, rowsN_append]; simp [rowsN]
                    have hT2 : rowsN (nl.take (j + 1)) ≤ rowsN nl := by
                      have := rowsN_append (nl.take (j + 1)) (nl.drop (j + 1))
                      rw [List.take_append_drop] at this
                      omega
                    have hs1 : ((rowsN (nl.take j) : Nat) : Int) + (nl[j].rows.length : Int) = ((rowsN (nl.take (j + 1)) : Nat) : Int) := by omega
                    have HS1 := Lib.hid hs1
                    have hs2 : rowsN (nl.take j) + nl[j].rows.length ≤ 1600 := by omega
                    clear hT hT2 hs1 u0 hv5
                    generalize rowsN (nl.take j) = n1 at *
                    generalize nl[j].rows.length = n2 at *
                    go_wp2_with fail
                    exact ⟨⟨j + 1, by go_num, by omega, by rw [HS1.out], by first | rfl | trivial⟩, by (simp [intOf]) <;> omega⟩
                  · obtain rfl : j = nl.length := by omega
                    rw [List.take_length]
                    clear hja hj
                    by_cases hk0 : kd = 0
                    · subst hk0
                      as_aux_lemma =>
                        have hrow := HROW.out
                        have HF := Lib.hid (lawfits_any wr.drew _ _ _ _ cl rows ((HC.out.below HBR.out).below ((Below.refl _ _).drew)) (hrow.below ((Below.refl _ _).drew)))
                        generalize hfe : fitsB cl (rows.map RowV.l) = f at *
                        have HFE := Lib.hid hfe
                        generalize hwe : putE f id nl room rows.length = want at *
                        have HWP := Lib.hid hwe
                        have hwe2 : want = if f = false then 13 else if id < 1 then 1 else if lateB id nl = true then 1 else if room - (rowsN nl : Nat) < rows.length then 18 else 0 := by rw [← hwe]; rfl
                        have HWE := Lib.hid hwe2
                        have hid := HRD.out.1.1
                        unfold fit64 at hid
                        simp only at hid
                        have hln := HLN.out.1
                        have hlate : Hid (∀ m : Nat, ∀ hm : m < nl.length, nl.length = m + 1 → lateB id nl = decide (id ≤ nl[m].id)) := fun m hm h => by
                          unfold lateB
                          rw [List.getLast?_eq_getElem?, h, Nat.add_sub_cancel, List.getElem?_eq_getElem hm]
                        have hlate0 : Hid (nl.length = 0 → lateB id nl = false) := fun h => by
                          rw [List.eq_nil_of_length_eq_zero h]; rfl
                        clear hfe hwe hwe2 hrow
                        go_upto_block 6 with fail
                        go_cut [17] (fun s17 wc => s17 = .int .i64 want ∧ Below wr.heap.size wr wc)
                        case first =>
                          cases f
                          · have e5 : want = 13 := HWE.out
                            subst e5
                            clear HWE hlate hlate0
                            go_wp2_with fail
                            refine wp_region_lit_plan [] [(0, 0), (2, 0), (3, 0), (4, 0), (5, 0), (6, 0), (1, 1), (7, 1), (8, 4), (9, 0), (10, 0)] (fun _ => False) (by kernel_rfl) (by kernel_rfl) (fun c a d v w h => by cases d <;> exact h) ?_
                            go_wp2_with (first
                              | (refine plan_pure (v := _) (by rfl) (by rfl) (by rfl) (by intro _; go_simp; with_reducible rfl) ?_; simp only [List.setIfInBounds_toArray, List.set_cons_zero, List.set_cons_succ]; try go_bits) | (refine plan_read (v := _) (by rfl) (by rfl) (by rfl) (by go_simp; with_reducible rfl) ?_; simp only [List.setIfInBounds_toArray, List.set_cons_zero, List.set_cons_succ]; try go_bits) | (refine plan_readB (v := _) (by rfl) (by rfl) (by rfl) (by intro _ hag; unfold Agree at hag; go_simp; with_reducible rfl) ?_; simp only [List.setIfInBounds_toArray, List.set_cons_zero, List.set_cons_succ]; try go_bits) | (refine plan_skip0 (by rfl) (by rfl) (by rfl) ?_; simp only [List.setIfInBounds_toArray, List.set_cons_zero, List.set_cons_succ]; try go_bits) | (refine plan_skip1 (by rfl) (by rfl) (by rfl) ?_; simp only [List.setIfInBounds_toArray, List.set_cons_zero, List.set_cons_succ]; try go_bits) | (refine plan_skip2 (by rfl) (by rfl) (by rfl) ?_; simp only [List.setIfInBounds_toArray, List.set_cons_zero, List.set_cons_succ]; try go_bits) | (refine plan_skip4 (by rfl) (by rfl) (by rfl) ?_; simp only [List.setIfInBounds_toArray, List.set_cons_zero, List.set_cons_succ]; try go_bits) | (refine plan_any (by rfl) ?_) | (refine plan_keep (by rfl) ?_) | (refine plan_nil ?_) | (with_reducible refine And.intro (by first | assumption | exact Agree.refl _ _ | exact agree_drew _ _ | exact agree_alloc _ (by intro k hk; subst hk; first | omega | (simp; omega))) ?_) | (unfold Act.put; simp only [List.setIfInBounds_toArray, List.set_cons_zero, List.set_cons_succ])
                              | (go_at_call 18; refine HF.out.mono ?_; clear HF; rintro e w8 ⟨rfl, hb8⟩; have hb8b : Below wr.heap.size wr w8 := ((Below.refl wr.heap.size wr).drew).trans (hb8.mono (Nat.le_refl _)); obtain ⟨f0, f1, f2⟩ := HBS.out w8 (HBR.out.trans (hb8b.mono HBR.out.size)); have HB8 := Lib.hid hb8b; clear hb8 hb8b))
                            go_meet
                            exact ⟨rfl, HB8.out⟩
                          have hwe : want = if id < 1 then 1 else if lateB id nl = true then 1 else if room - (rowsN nl : Nat) < rows.length then 18 else 0 := HWE.out
                          clear HWE
                          by_cases h1 : id < 1
                          · have e5 : want = 1 := by rw [hwe, if_pos h1]
                            subst e5
                            clear hwe hlate hlate0
                            have d1 : decide (id < 1) = true := decide_eq_true h1
                            go_wp2_with fail
                            refine wp_region_lit_plan [] [(0, 0), (2, 0), (3, 0), (4, 0), (5, 0), (6, 0), (1, 1), (7, 1), (8, 4), (9, 0), (10, 0)] (fun _ => False) (by kernel_rfl) (by kernel_rfl) (fun c a d v w h => by cases d <;> exact h) ?_
                            go_wp2_with (first
                              | (refine plan_pure (v := _) (by rfl) (by rfl) (by rfl) (by intro _; go_simp; with_reducible rfl) ?_; simp only [List.setIfInBounds_toArray, List.set_cons_zero, List.set_cons_succ]; try go_bits) | (refine plan_read (v := _) (by rfl) (by rfl) (by rfl) (by go_simp; with_reducible rfl) ?_; simp only [List.setIfInBounds_toArray, List.set_cons_zero, List.set_cons_succ]; try go_bits) | (refine plan_readB (v := _) (by rfl) (by rfl) (by rfl) (by intro _ hag; unfold Agree at hag; go_simp; with_reducible rfl) ?_; simp only [List.setIfInBounds_toArray, List.set_cons_zero, List.set_cons_succ]; try go_bits) | (refine plan_skip0 (by rfl) (by rfl) (by rfl) ?_; simp only [List.setIfInBounds_toArray, List.set_cons_zero, List.set_cons_succ]; try go_bits) | (refine plan_skip1 (by rfl) (by rfl) (by rfl) ?_; simp only [List.setIfInBounds_toArray, List.set_cons_zero, List.set_cons_succ]; try go_bits) | (refine plan_skip2 (by rfl) (by rfl) (by rfl) ?_; simp only [List.setIfInBounds_toArray, List.set_cons_zero, List.set_cons_succ]; try go_bits) | (refine plan_skip4 (by rfl) (by rfl) (by rfl) ?_; simp only [List.setIfInBounds_toArray, List.set_cons_zero, List.set_cons_succ]; try go_bits) | (refine plan_any (by rfl) ?_) | (refine plan_keep (by rfl) ?_) | (refine plan_nil ?_) | (with_reducible refine And.intro (by first | assumption | exact Agree.refl _ _ | exact agree_drew _ _ | exact agree_alloc _ (by intro k hk; subst hk; first | omega | (simp; omega))) ?_) | (unfold Act.put; simp only [List.setIfInBounds_toArray, List.set_cons_zero, List.set_cons_succ])
                              | (go_at_call 18; refine HF.out.mono ?_; clear HF; rintro e w8 ⟨rfl, hb8⟩; have hb8b : Below wr.heap.size wr w8 := ((Below.refl wr.heap.size wr).drew).trans (hb8.mono (Nat.le_refl _)); obtain ⟨f0, f1, f2⟩ := HBS.out w8 (HBR.out.trans (hb8b.mono HBR.out.size)); have HB8 := Lib.hid hb8b; clear hb8 hb8b))
                            refine wp_region_lit_plan [] [(0, 0), (1, 0), (2, 0), (3, 0), (4, 0), (5, 1), (6, 0), (7, 0), (8, 0), (9, 0), (10, 0), (11, 0), (12, 0), (13, 0), (14, 0), (15, 0), (16, 0), (18, 0), (19, 0), (20, 0), (21, 0), (22, 0), (23, 0), (17, 1), (24, 1), (25, 0), (26, 0), (27, 0), (28, 0)] (fun _ => False) (by kernel_rfl) (by kernel_rfl) (fun c a d v w h => by cases d <;> exact h) ?_
                            go_wp2_with (first
                              | (refine plan_pure (v := _) (by rfl) (by rfl) (by rfl) (by intro _; go_simp; with_reducible rfl) ?_; simp only [List.setIfInBounds_toArray, List.set_cons_zero, List.set_cons_succ]; try go_bits) | (refine plan_read (v := _) (by rfl) (by rfl) (by rfl) (by go_simp; with_reducible rfl) ?_; simp only [List.setIfInBounds_toArray, List.set_cons_zero, List.set_cons_succ]; try go_bits) | (refine plan_readB (v := _) (by rfl) (by rfl) (by rfl) (by intro _ hag; unfold Agree at hag; go_simp; with_reducible rfl) ?_; simp only [List.setIfInBounds_toArray, List.set_cons_zero, List.set_cons_succ]; try go_bits) | (refine plan_skip0 (by rfl) (by rfl) (by rfl) ?_; simp only [List.setIfInBounds_toArray, List.set_cons_zero, List.set_cons_succ]; try go_bits) | (refine plan_skip1 (by rfl) (by rfl) (by rfl) ?_; simp only [List.setIfInBounds_toArray, List.set_cons_zero, List.set_cons_succ]; try go_bits) | (refine plan_skip2 (by rfl) (by rfl) (by rfl) ?_; simp only [List.setIfInBounds_toArray, List.set_cons_zero, List.set_cons_succ]; try go_bits) | (refine plan_skip4 (by rfl) (by rfl) (by rfl) ?_; simp only [List.setIfInBounds_toArray, List.set_cons_zero, List.set_cons_succ]; try go_bits) | (refine plan_any (by rfl) ?_) | (refine plan_keep (by rfl) ?_) | (refine plan_nil ?_) | (with_reducible refine And.intro (by first | assumption | exact Agree.refl _ _ | exact agree_drew _ _ | exact agree_alloc _ (by intro k hk; subst hk; first | omega | (simp; omega))) ?_) | (unfold Act.put; simp only [List.setIfInBounds_toArray, List.set_cons_zero, List.set_cons_succ]))
                            go_meet
                            exact ⟨rfl, HB8.out.drew⟩
                          have d1 : decide (id < 1) = false := decide_eq_false h1
                          rw [if_neg h1] at hwe
                          by_cases hl0 : nl.length = 0
                          · have d2 : decide (0 < nl.length) = false := decide_eq_false (by omega)
                            rw [if_neg (by rw [hlate0.out hl0]; decide)] at hwe
                            have HWE := Lib.hid hwe
                            clear hwe hlate hlate0 hl0 h1
                            by_cases h3 : (rowsN nl : Nat) + (rows.length : Int) > room
                            · have e5 : want = 18 := by rw [HWE.out, if_pos (by omega)]
                              subst e5
                              have d3 : decide (room < ((rowsN nl : Nat) : Int) + (rows.length : Int)) = true := decide_eq_true h3
                              clear HWE h3
                              go_wp2_with fail
                              refine wp_region_lit_plan [] [(0, 0), (2, 0), (3, 0), (4, 0), (5, 0), (6, 0), (1, 1), (7, 1), (8, 4), (9, 0), (10, 0)] (fun _ => False) (by kernel_rfl) (by kernel_rfl) (fun c a d v w h => by cases d <;> exact h) ?_
                              go_wp2_with (first
                                | (refine plan_pure (v := _) (by rfl) (by rfl) (by rfl) (by intro _; go_simp; with_reducible rfl) ?_; simp only [List.setIfInBounds_toArray, List.set_cons_zero, List.set_cons_succ]; try go_bits) | (refine plan_read (v := _) (by rfl) (by rfl) (by rfl) (by go_simp; with_reducible rfl) ?_; simp only [List.setIfInBounds_toArray, List.set_cons_zero, List.set_cons_succ]; try go_bits) | (refine plan_readB (v := _) (by rfl) (by rfl) (by rfl) (by intro _ hag; unfold Agree at hag; go_simp; with_reducible rfl) ?_; simp only [List.setIfInBounds_toArray, List.set_cons_zero, List.set_cons_succ]; try go_bits) | (refine plan_skip0 (by rfl) (by rfl) (by rfl) ?_; simp only [List.setIfInBounds_toArray, List.set_cons_zero, List.set_cons_succ]; try go_bits) | (refine plan_skip1 (by rfl) (by rfl) (by rfl) ?_; simp only [List.setIfInBounds_toArray, List.set_cons_zero, List.set_cons_succ]; try go_bits) | (refine plan_skip2 (by rfl) (by rfl) (by rfl) ?_; simp only [List.setIfInBounds_toArray, List.set_cons_zero, List.set_cons_succ]; try go_bits) | (refine plan_skip4 (by rfl) (by rfl) (by rfl) ?_; simp only [List.setIfInBounds_toArray, List.set_cons_zero, List.set_cons_succ]; try go_bits) | (refine plan_any (by rfl) ?_) | (refine plan_keep (by rfl) ?_) | (refine plan_nil ?_) | (with_reducible refine And.intro (by first | assumption | exact Agree.refl _ _ | exact agree_drew _ _ | exact agree_alloc _ (by intro k hk; subst hk; first | omega | (simp; omega))) ?_) | (unfold Act.put; simp only [List.setIfInBounds_toArray, List.set_cons_zero, List.set_cons_succ])
                                | (go_at_call 18; refine HF.out.mono ?_; clear HF; rintro e w8 ⟨rfl, hb8⟩; have hb8b : Below wr.heap.size wr w8 := ((Below.refl wr.heap.size wr).drew).trans (hb8.mono (Nat.le_refl _)); obtain ⟨f0, f1, f2⟩ := HBS.out w8 (HBR.out.trans (hb8b.mono HBR.out.size)); have HB8 := Lib.hid hb8b; clear hb8 hb8b))
                              try have f5 := HXL.out w8 HB8.out
                              have f2d : w8.drew.cell? ⟨g, off + k * 3 + 2, none⟩ = some (.slice px rows.length cx) := f2
                              refine wp_region_lit_plan [] [(0, 0), (1, 0), (2, 0), (3, 0), (4, 0), (5, 1), (6, 0), (7, 0), (8, 0), (9, 0), (10, 0), (11, 0), (12, 0), (13, 0), (14, 0), (15, 0), (16, 0), (18, 0), (19, 0), (20, 0), (21, 0), (22, 0), (23, 0), (17, 1), (24, 1), (25, 0), (26, 0), (27, 0), (28, 0)] (fun _ => False) (by kernel_rfl) (by kernel_rfl) (fun c a d v w h => by cases d <;> exact h) ?_
                              go_wp2_with (first
                                | (refine plan_pure (v := _) (by rfl) (by rfl) (by rfl) (by intro _; go_simp; with_reducible rfl) ?_; simp only [List.setIfInBounds_toArray, List.set_cons_zero, List.set_cons_succ]; try go_bits) | (refine plan_read (v := _) (by rfl) (by rfl) (by rfl) (by go_simp; with_reducible rfl) ?_; simp only [List.setIfInBounds_toArray, List.set_cons_zero, List.set_cons_succ]; try go_bits) | (refine plan_readB (v := _) (by rfl) (by rfl) (by rfl) (by intro _ hag; unfold Agree at hag; go_simp; with_reducible rfl) ?_; simp only [List.setIfInBounds_toArray, List.set_cons_zero, List.set_cons_succ]; try go_bits) | (refine plan_skip0 (by rfl) (by rfl) (by rfl) ?_; simp only [List.setIfInBounds_toArray, List.set_cons_zero, List.set_cons_succ]; try go_bits) | (refine plan_skip1 (by rfl) (by rfl) (by rfl) ?_; simp only [List.setIfInBounds_toArray, List.set_cons_zero, List.set_cons_succ]; try go_bits) | (refine plan_skip2 (by rfl) (by rfl) (by rfl) ?_; simp only [List.setIfInBounds_toArray, List.set_cons_zero, List.set_cons_succ]; try go_bits) | (refine plan_skip4 (by rfl) (by rfl) (by rfl) ?_; simp only [List.setIfInBounds_toArray, List.set_cons_zero, List.set_cons_succ]; try go_bits) | (refine plan_any (by rfl) ?_) | (refine plan_keep (by rfl) ?_) | (refine plan_nil ?_) | (with_reducible refine And.intro (by first | assumption | exact Agree.refl _ _ | exact agree_drew _ _ | exact agree_alloc _ (by intro k hk; subst hk; first | omega | (simp; omega))) ?_) | (unfold Act.put; simp only [List.setIfInBounds_toArray, List.set_cons_zero, List.set_cons_succ]))
                              go_meet
                              exact ⟨rfl, HB8.out.drew⟩
                            · have e5 : want = 0 := by rw [HWE.out, if_neg (by omega)]
                              subst e5
                              have d3 : decide (room < ((rowsN nl : Nat) : Int) + (rows.length : Int)) = false := decide_eq_false h3
                              clear HWE h3
                              go_wp2_with fail
                              refine wp_region_lit_plan [] [(0, 0), (2, 0), (3, 0), (4, 0), (5, 0), (6, 0), (1, 1), (7, 1), (8, 4), (9, 0), (10, 0)] (fun _ => False) (by kernel_rfl) (by kernel_rfl) (fun c a d v w h => by cases d <;> exact h) ?_
                              go_wp2_with (first
                                | (refine plan_pure (v := _) (by rfl) (by rfl) (by rfl) (by intro _; go_simp; with_reducible rfl) ?_; simp only [List.setIfInBounds_toArray, List.set_cons_zero, List.set_cons_succ]; try go_bits) | (refine plan_read (v := _) (by rfl) (by rfl) (by rfl) (by go_simp; with_reducible rfl) ?_; simp only [List.setIfInBounds_toArray, List.set_cons_zero, List.set_cons_succ]; try go_bits) | (refine plan_readB (v := _) (by rfl) (by rfl) (by rfl) (by intro _ hag; unfold Agree at hag; go_simp; with_reducible rfl) ?_; simp only [List.setIfInBounds_toArray, List.set_cons_zero, List.set_cons_succ]; try go_bits) | (refine plan_skip0 (by rfl) (by rfl) (by rfl) ?_; simp only [List.setIfInBounds_toArray, List.set_cons_zero, List.set_cons_succ]; try go_bits) | (refine plan_skip1 (by rfl) (by rfl) (by rfl) ?_; simp only [List.setIfInBounds_toArray, List.set_cons_zero, List.set_cons_succ]; try go_bits) | (refine plan_skip2 (by rfl) (by rfl) (by rfl) ?_; simp only [List.setIfInBounds_toArray, List.set_cons_zero, List.set_cons_succ]; try go_bits) | (refine plan_skip4 (by rfl) (by rfl) (by rfl) ?_; simp only [List.setIfInBounds_toArray, List.set_cons_zero, List.set_cons_succ]; try go_bits) | (refine plan_any (by rfl) ?_) | (refine plan_keep (by rfl) ?_) | (refine plan_nil ?_) | (with_reducible refine And.intro (by first | assumption | exact Agree.refl _ _ | exact agree_drew _ _ | exact agree_alloc _ (by intro k hk; subst hk; first | omega | (simp; omega))) ?_) | (unfold Act.put; simp only [List.setIfInBounds_toArray, List.set_cons_zero, List.set_cons_succ])
                                | (go_at_call 18; refine HF.out.mono ?_; clear HF; rintro e w8 ⟨rfl, hb8⟩; have hb8b : Below wr.heap.size wr w8 := ((Below.refl wr.heap.size wr).drew).trans (hb8.mono (Nat.le_refl _)); obtain ⟨f0, f1, f2⟩ := HBS.out w8 (HBR.out.trans (hb8b.mono HBR.out.size)); have HB8 := Lib.hid hb8b; clear hb8 hb8b))
                              try have f5 := HXL.out w8 HB8.out
                              have f2d : w8.drew.cell? ⟨g, off + k * 3 + 2, none⟩ = some (.slice px rows.length cx) := f2
                              refine wp_region_lit_plan [] [(0, 0), (1, 0), (2, 0), (3, 0), (4, 0), (5, 1), (6, 0), (7, 0), (8, 0), (9, 0), (10, 0), (11, 0), (12, 0), (13, 0), (14, 0), (15, 0), (16, 0), (18, 0), (19, 0), (20, 0), (21, 0), (22, 0), (23, 0), (17, 1), (24, 1), (25, 0), (26, 0), (27, 0), (28, 0)] (fun _ => False) (by kernel_rfl) (by kernel_rfl) (fun c a d v w h => by cases d <;> exact h) ?_
                              go_wp2_with (first
                                | (refine plan_pure (v := _) (by rfl) (by rfl) (by rfl) (by intro _; go_simp; with_reducible rfl) ?_; simp only [List.setIfInBounds_toArray, List.set_cons_zero, List.set_cons_succ]; try go_bits) | (refine plan_read (v := _) (by rfl) (by rfl) (by rfl) (by go_simp; with_reducible rfl) ?_; simp only [List.setIfInBounds_toArray, List.set_cons_zero, List.set_cons_succ]; try go_bits) | (refine plan_readB (v := _) (by rfl) (by rfl) (by rfl) (by intro _ hag; unfold Agree at hag; go_simp; with_reducible rfl) ?_; simp only [List.setIfInBounds_toArray, List.set_cons_zero, List.set_cons_succ]; try go_bits) | (refine plan_skip0 (by rfl) (by rfl) (by rfl) ?_; simp only [List.setIfInBounds_toArray, List.set_cons_zero, List.set_cons_succ]; try go_bits) | (refine plan_skip1 (by rfl) (by rfl) (by rfl) ?_; simp only [List.setIfInBounds_toArray, List.set_cons_zero, List.set_cons_succ]; try go_bits) | (refine plan_skip2 (by rfl) (by rfl) (by rfl) ?_; simp only [List.setIfInBounds_toArray, List.set_cons_zero, List.set_cons_succ]; try go_bits) | (refine plan_skip4 (by rfl) (by rfl) (by rfl) ?_; simp only [List.setIfInBounds_toArray, List.set_cons_zero, List.set_cons_succ]; try go_bits) | (refine plan_any (by rfl) ?_) | (refine plan_keep (by rfl) ?_) | (refine plan_nil ?_) | (with_reducible refine And.intro (by first | assumption | exact Agree.refl _ _ | exact agree_drew _ _ | exact agree_alloc _ (by intro k hk; subst hk; first | omega | (simp; omega))) ?_) | (unfold Act.put; simp only [List.setIfInBounds_toArray, List.set_cons_zero, List.set_cons_succ]))
                              go_meet
                              exact ⟨rfl, HB8.out.drew⟩
                          · obtain ⟨m, hm⟩ : ∃ m, nl.length = m + 1 := ⟨nl.length - 1, by omega⟩
                            have hm1 : (nl.length : Int) - 1 = (m : Int) := by omega
                            have hml : m < nl.length := by omega
                            have d2 : decide (0 < nl.length) = true := decide_eq_true (by omega)
                            rw [hlate.out m hml hm] at hwe
                            obtain ⟨g3, o3, rfl, _, _⟩ := bat_at HNBAT.out hml
                            have HXL : Hid (∀ W, Below wr.heap.size wr W → W.cell? ⟨g3, o3 + m * 2, none⟩ = some (.int .i64 nl[m].id)) := fun W h => by
                              obtain ⟨g', o', hp, h8, _⟩ := bat_at (HNBAT.out.below h) hml
                              cases hp
                              exact h8
                            clear hm hlate hlate0 hl0 h1
                            generalize nl[m].id = last at *
                            have HXD := Lib.hid (HXL.out)
                            by_cases h2 : id ≤ last
                            · have d4 : decide (id ≤ last) = true := decide_eq_true h2
                              have e5 : want = 1 := by rw [hwe, if_pos d4]
                              subst e5
                              clear hwe
                              go_wp2_with fail
                              refine wp_region_lit_plan [] [(0, 0), (2, 0), (3, 0), (4, 0), (5, 0), (6, 0), (1, 1), (7, 1), (8, 4), (9, 0), (10, 0)] (fun _ => False) (by kernel_rfl) (by kernel_rfl) (fun c a d v w h => by cases d <;> exact h) ?_
                              go_wp2_with (first
                                | (refine plan_pure (v := _) (by rfl) (by rfl) (by rfl) (by intro _; go_simp; with_reducible rfl) ?_; simp only [List.setIfInBounds_toArray, List.set_cons_zero, List.set_cons_succ]; try go_bits) | (refine plan_read (v := _) (by rfl) (by rfl) (by rfl) (by go_simp; with_reducible rfl) ?_; simp only [List.setIfInBounds_toArray, List.set_cons_zero, List.set_cons_succ]; try go_bits) | (refine plan_readB (v := _) (by rfl) (by rfl) (by rfl) (by intro _ hag; unfold Agree at hag; go_simp; with_reducible rfl) ?_; simp only [List.setIfInBounds_toArray, List.set_cons_zero, List.set_cons_succ]; try go_bits) | (refine plan_skip0 (by rfl) (by rfl) (by rfl) ?_; simp only [List.setIfInBounds_toArray, List.set_cons_zero, List.set_cons_succ]; try go_bits) | (refine plan_skip1 (by rfl) (by rfl) (by rfl) ?_; simp only [List.setIfInBounds_toArray, List.set_cons_zero, List.set_cons_succ]; try go_bits) | (refine plan_skip2 (by rfl) (by rfl) (by rfl) ?_; simp only [List.setIfInBounds_toArray, List.set_cons_zero, List.set_cons_succ]; try go_bits) | (refine plan_skip4 (by rfl) (by rfl) (by rfl) ?_; simp only [List.setIfInBounds_toArray, List.set_cons_zero, List.set_cons_succ]; try go_bits) | (refine plan_any (by rfl) ?_) | (refine plan_keep (by rfl) ?_) | (refine plan_nil ?_) | (with_reducible refine And.intro (by first | assumption | exact Agree.refl _ _ | exact agree_drew _ _ | exact agree_alloc _ (by intro k hk; subst hk; first | omega | (simp; omega))) ?_) | (unfold Act.put; simp only [List.setIfInBounds_toArray, List.set_cons_zero, List.set_cons_succ])
                                | (go_at_call 18; refine HF.out.mono ?_; clear HF; rintro e w8 ⟨rfl, hb8⟩; have hb8b : Below wr.heap.size wr w8 := ((Below.refl wr.heap.size wr).drew).trans (hb8.mono (Nat.le_refl _)); obtain ⟨f0, f1, f2⟩ := HBS.out w8 (HBR.out.trans (hb8b.mono HBR.out.size)); have HB8 := Lib.hid hb8b; clear hb8 hb8b))
                              have f5 := HXL.out w8 HB8.out
                              refine wp_region_lit_plan [] [(0, 0), (1, 0), (2, 0), (3, 0), (4, 0), (5, 1), (6, 0), (7, 0), (8, 0), (9, 0), (10, 0), (11, 0), (12, 0), (13, 0), (14, 0), (15, 0), (16, 0), (18, 0), (19, 0), (20, 0), (21, 0), (22, 0), (23, 0), (17, 1), (24, 1), (25, 0), (26, 0), (27, 0), (28, 0)] (fun _ => False) (by kernel_rfl) (by kernel_rfl) (fun c a d v w h => by cases d <;> exact h) ?_
                              go_wp2_with (first
                                | (refine plan_pure (v := _) (by rfl) (by rfl) (by rfl) (by intro _; go_simp; with_reducible rfl) ?_; simp only [List.setIfInBounds_toArray, List.set_cons_zero, List.set_cons_succ]; try go_bits) | (refine plan_read (v := _) (by rfl) (by rfl) (by rfl) (by go_simp; with_reducible rfl) ?_; simp only [List.setIfInBounds_toArray, List.set_cons_zero, List.set_cons_succ]; try go_bits) | (refine plan_readB (v := _) (by rfl) (by rfl) (by rfl) (by intro _ hag; unfold Agree at hag; go_simp; with_reducible rfl) ?_; simp only [List.setIfInBounds_toArray, List.set_cons_zero, List.set_cons_succ]; try go_bits) | (refine plan_skip0 (by rfl) (by rfl) (by rfl) ?_; simp only [List.setIfInBounds_toArray, List.set_cons_zero, List.set_cons_succ]; try go_bits) | (refine plan_skip1 (by rfl) (by rfl) (by rfl) ?_; simp only [List.setIfInBounds_toArray, List.set_cons_zero, List.set_cons_succ]; try go_bits) | (refine plan_skip2 (by rfl) (by rfl) (by rfl) ?_; simp only [List.setIfInBounds_toArray, List.set_cons_zero, List.set_cons_succ]; try go_bits) | (refine plan_skip4 (by rfl) (by rfl) (by rfl) ?_; simp only [List.setIfInBounds_toArray, List.set_cons_zero, List.set_cons_succ]; try go_bits) | (refine plan_any (by rfl) ?_) | (refine plan_keep (by rfl) ?_) | (refine plan_nil ?_) | (with_reducible refine And.intro (by first | assumption | exact Agree.refl _ _ | exact agree_drew _ _ | exact agree_alloc _ (by intro k hk; subst hk; first | omega | (simp; omega))) ?_) | (unfold Act.put; simp only [List.setIfInBounds_toArray, List.set_cons_zero, List.set_cons_succ]))
                              go_meet
                              exact ⟨rfl, HB8.out.drew⟩
                            · have d4 : decide (id ≤ last) = false := decide_eq_false h2
                              rw [if_neg (by rw [d4]; decide)] at hwe
                              have HWE := Lib.hid hwe
                              clear hwe h2
                              by_cases h3 : (rowsN nl : Nat) + (rows.length : Int) > room
                              · have e5 : want = 18 := by rw [HWE.out, if_pos (by omega)]
                                subst e5
                                have d3 : decide (room < ((rowsN nl : Nat) : Int) + (rows.length : Int)) = true := decide_eq_true h3
                                clear HWE h3
                                go_wp2_with fail
                                refine wp_region_lit_plan [] [(0, 0), (2, 0), (3, 0), (4, 0), (5, 0), (6, 0), (1, 1), (7, 1), (8, 4), (9, 0), (10, 0)] (fun _ => False) (by kernel_rfl) (by kernel_rfl) (fun c a d v w h => by cases d <;> exact h) ?_
                                go_wp2_with (first
                                  | (refine plan_pure (v := _) (by rfl) (by rfl) (by rfl) (by intro _; go_simp; with_reducible rfl) ?_; simp only [List.setIfInBounds_toArray, List.set_cons_zero, List.set_cons_succ]; try go_bits) | (refine plan_read (v := _) (by rfl) (by rfl) (by rfl) (by go_simp; with_reducible rfl) ?_; simp only [List.setIfInBounds_toArray, List.set_cons_zero, List.set_cons_succ]; try go_bits) | (refine plan_readB (v := _) (by rfl) (by rfl) (by rfl) (by intro _ hag; unfold Agree at hag; go_simp; with_reducible rfl) ?_; simp only [List.setIfInBounds_toArray, List.set_cons_zero, List.set_cons_succ]; try go_bits) | (refine plan_skip0 (by rfl) (by rfl) (by rfl) ?_; simp only [List.setIfInBounds_toArray, List.set_cons_zero, List.set_cons_succ]; try go_bits) | (refine plan_skip1 (by rfl) (by rfl) (by rfl) ?_; simp only [List.setIfInBounds_toArray, List.set_cons_zero, List.set_cons_succ]; try go_bits) | (refine plan_skip2 (by rfl) (by rfl) (by rfl) ?_; simp only [List.setIfInBounds_toArray, List.set_cons_zero, List.set_cons_succ]; try go_bits) | (refine plan_skip4 (by rfl) (by rfl) (by rfl) ?_; simp only [List.setIfInBounds_toArray, List.set_cons_zero, List.set_cons_succ]; try go_bits) | (refine plan_any (by rfl) ?_) | (refine plan_keep (by rfl) ?_) | (refine plan_nil ?_) | (with_reducible refine And.intro (by first | assumption | exact Agree.refl _ _ | exact agree_drew _ _ | exact agree_alloc _ (by intro k hk; subst hk; first | omega | (simp; omega))) ?_) | (unfold Act.put; simp only [List.setIfInBounds_toArray, List.set_cons_zero, List.set_cons_succ])
                                  | (go_at_call 18; refine HF.out.mono ?_; clear HF; rintro e w8 ⟨rfl, hb8⟩; have hb8b : Below wr.heap.size wr w8 := ((Below.refl wr.heap.size wr).drew).trans (hb8.mono (Nat.le_refl _)); obtain ⟨f0, f1, f2⟩ := HBS.out w8 (HBR.out.trans (hb8b.mono HBR.out.size)); have HB8 := Lib.hid hb8b; clear hb8 hb8b))
                                try have f5 := HXL.out w8 HB8.out
                                have f2d : w8.drew.cell? ⟨g, off + k * 3 + 2, none⟩ = some (.slice px rows.length cx) := f2
                                refine wp_region_lit_plan [] [(0, 0), (1, 0), (2, 0), (3, 0), (4, 0), (5, 1), (6, 0), (7, 0), (8, 0), (9, 0), (10, 0), (11, 0), (12, 0), (13, 0), (14, 0), (15, 0), (16, 0), (18, 0), (19, 0), (20, 0), (21, 0), (22, 0), (23, 0), (17, 1), (24, 1), (25, 0), (26, 0), (27, 0), (28, 0)] (fun _ => False) (by kernel_rfl) (by kernel_rfl) (fun c a d v w h => by cases d <;> exact h) ?_
                                go_wp2_with (first
                                  | (refine plan_pure (v := _) (by rfl) (by rfl) (by rfl) (by intro _; go_simp; with_reducible rfl) ?_; simp only [List.setIfInBounds_toArray, List.set_cons_zero, List.set_cons_succ]; try go_bits) | (refine plan_read (v := _) (by rfl) (by rfl) (by rfl) (by go_simp; with_reducible rfl) ?_; simp only [List.setIfInBounds_toArray, List.set_cons_zero, List.set_cons_succ]; try go_bits) | (refine plan_readB (v := _) (by rfl) (by rfl) (by rfl) (by intro _ hag; unfold Agree at hag; go_simp; with_reducible rfl) ?_; simp only [List.setIfInBounds_toArray, List.set_cons_zero, List.set_cons_succ]; try go_bits) | (refine plan_skip0 (by rfl) (by rfl) (by rfl) ?_; simp only [List.setIfInBounds_toArray, List.set_cons_zero, List.set_cons_succ]; try go_bits) | (refine plan_skip1 (by rfl) (by rfl) (by rfl) ?_; simp only [List.setIfInBounds_toArray, List.set_cons_zero, List.set_cons_succ]; try go_bits) | (refine plan_skip2 (by rfl) (by rfl) (by rfl) ?_; simp only [List.setIfInBounds_toArray, List.set_cons_zero, List.set_cons_succ]; try go_bits) | (refine plan_skip4 (by rfl) (by rfl) (by rfl) ?_; simp only [List.setIfInBounds_toArray, List.set_cons_zero, List.set_cons_succ]; try go_bits) | (refine plan_any (by rfl) ?_) | (refine plan_keep (by rfl) ?_) | (refine plan_nil ?_) | (with_reducible refine And.intro (by first | assumption | exact Agree.refl _ _ | exact agree_drew _ _ | exact agree_alloc _ (by intro k hk; subst hk; first | omega | (simp; omega))) ?_) | (unfold Act.put; simp only [List.setIfInBounds_toArray, List.set_cons_zero, List.set_cons_succ]))
                                go_meet
                                exact ⟨rfl, HB8.out.drew⟩
                              · have e5 : want = 0 := by rw [HWE.out, if_neg (by omega)]
                                subst e5
                                have d3 : decide (room < ((rowsN nl : Nat) : Int) + (rows.length : Int)) = false := decide_eq_false h3
                                clear HWE h3
                                go_wp2_with fail
                                refine wp_region_lit_plan [] [(0, 0), (2, 0), (3, 0), (4, 0), (5, 0), (6, 0), (1, 1), (7, 1), (8, 4), (9, 0), (10, 0)] (fun _ => False) (by kernel_rfl) (by kernel_rfl) (fun c a d v w h => by cases d <;> exact h) ?_
                                go_wp2_with (first
                                  | (refine plan_pure (v := _) (by rfl) (by rfl) (by rfl) (by intro _; go_simp; with_reducible rfl) ?_; simp only [List.setIfInBounds_toArray, List.set_cons_zero, List.set_cons_succ]; try go_bits) | (refine plan_read (v := _) (by rfl) (by rfl) (by rfl) (by go_simp; with_reducible rfl) ?_; simp only [List.setIfInBounds_toArray, List.set_cons_zero, List.set_cons_succ]; try go_bits) | (refine plan_readB (v := _) (by rfl) (by rfl) (by rfl) (by intro _ hag; unfold Agree at hag; go_simp; with_reducible rfl) ?_; simp only [List.setIfInBounds_toArray, List.set_cons_zero, List.set_cons_succ]; try go_bits) | (refine plan_skip0 (by rfl) (by rfl) (by rfl) ?_; simp only [List.setIfInBounds_toArray, List.set_cons_zero, List.set_cons_succ]; try go_bits) | (refine plan_skip1 (by rfl) (by rfl) (by rfl) ?_; simp only [List.setIfInBounds_toArray, List.set_cons_zero, List.set_cons_succ]; try go_bits) | (refine plan_skip2 (by rfl) (by rfl) (by rfl) ?_; simp only [List.setIfInBounds_toArray, List.set_cons_zero, List.set_cons_succ]; try go_bits) | (refine plan_skip4 (by rfl) (by rfl) (by rfl) ?_; simp only [List.setIfInBounds_toArray, List.set_cons_zero, List.set_cons_succ]; try go_bits) | (refine plan_any (by rfl) ?_) | (refine plan_keep (by rfl) ?_) | (refine plan_nil ?_) | (with_reducible refine And.intro (by first | assumption | exact Agree.refl _ _ | exact agree_drew _ _ | exact agree_alloc _ (by intro k hk; subst hk; first | omega | (simp; omega))) ?_) | (unfold Act.put; simp only [List.setIfInBounds_toArray, List.set_cons_zero, List.set_cons_succ])
                                  | (go_at_call 18; refine HF.out.mono ?_; clear HF; rintro e w8 ⟨rfl, hb8⟩; have hb8b : Below wr.heap.size wr w8 := ((Below.refl wr.heap.size wr).drew).trans (hb8.mono (Nat.le_refl _)); obtain ⟨f0, f1, f2⟩ := HBS.out w8 (HBR.out.trans (hb8b.mono HBR.out.size)); have HB8 := Lib.hid hb8b; clear hb8 hb8b))
                                try have f5 := HXL.out w8 HB8.out
                                have f2d : w8.drew.cell? ⟨g, off + k * 3 + 2, none⟩ = some (.slice px rows.length cx) := f2
                                refine wp_region_lit_plan [] [(0, 0), (1, 0), (2, 0), (3, 0), (4, 0), (5, 1), (6, 0), (7, 0), (8, 0), (9, 0), (10, 0), (11, 0), (12, 0), (13, 0), (14, 0), (15, 0), (16, 0), (18, 0), (19, 0), (20, 0), (21, 0), (22, 0), (23, 0), (17, 1), (24, 1), (25, 0), (26, 0), (27, 0), (28, 0)] (fun _ => False) (by kernel_rfl) (by kernel_rfl) (fun c a d v w h => by cases d <;> exact h) ?_
                                go_wp2_with (first
                                  | (refine plan_pure (v := _) (by rfl) (by rfl) (by rfl) (by intro _; go_simp; with_reducible rfl) ?_; simp only [List.setIfInBounds_toArray, List.set_cons_zero, List.set_cons_succ]; try go_bits) | (refine plan_read (v := _) (by rfl) (by rfl) (by rfl) (by go_simp; with_reducible rfl) ?_; simp only [List.setIfInBounds_toArray, List.set_cons_zero, List.set_cons_succ]; try go_bits) | (refine plan_readB (v := _) (by rfl) (by rfl) (by rfl) (by intro _ hag; unfold Agree at hag; go_simp; with_reducible rfl) ?_; simp only [List.setIfInBounds_toArray, List.set_cons_zero, List.set_cons_succ]; try go_bits) | (refine plan_skip0 (by rfl) (by rfl) (by rfl) ?_; simp only [List.setIfInBounds_toArray, List.set_cons_zero, List.set_cons_succ]; try go_bits) | (refine plan_skip1 (by rfl) (by rfl) (by rfl) ?_; simp only [List.setIfInBounds_toArray, List.set_cons_zero, List.set_cons_succ]; try go_bits) | (refine plan_skip2 (by rfl) (by rfl) (by rfl) ?_; simp only [List.setIfInBounds_toArray, List.set_cons_zero, List.set_cons_succ]; try go_bits) | (refine plan_skip4 (by rfl) (by rfl) (by rfl) ?_; simp only [List.setIfInBounds_toArray, List.set_cons_zero, List.set_cons_succ]; try go_bits) | (refine plan_any (by rfl) ?_) | (refine plan_keep (by rfl) ?_) | (refine plan_nil ?_) | (with_reducible refine And.intro (by first | assumption | exact Agree.refl _ _ | exact agree_drew _ _ | exact agree_alloc _ (by intro k hk; subst hk; first | omega | (simp; omega))) ?_) | (unfold Act.put; simp only [List.setIfInBounds_toArray, List.set_cons_zero, List.set_cons_succ]))
                                go_meet
                                exact ⟨rfl, HB8.out.drew⟩
                        case rest =>
                          obtain ⟨rfl, hbc⟩ := hcut
                          obtain ⟨f0, f1, f2⟩ := HBS.out wc (HBR.out.trans (hbc.mono HBR.out.size))
                          have hput := lput wc b lv nm cl room ll (HIL.out.below hbc) ⟨by omega, HRM.out.2⟩ (by rw [len_key HKEY.out]; omega) (by rw [rowsN_key HKEY.out]; omega) (fun q hq h => by have h8 := HOWN.out.lt q h; have := hbc.size; omega) id _ _ rows (HROW.out.below hbc) (by omega) (fun r hr => by have := HLN.out.2 r hr; omega)
                          unfold PutOut at hput
                          rw [putE_key _ id HKEY.out, HFE.out, HWP.out] at hput
                          have HPUT := Lib.hid hput
                          have HBC := Lib.hid hbc
                          clear hput hbc HF HWE hlate hlate0
                          by_cases h0 : want = 0
                          · subst h0
                            go_wp2_with fail
                            refine HPUT.out.mono ?_
                            clear HPUT
                            rintro e w9 ⟨rfl, hpo⟩
                            rcases hpo with ⟨h, _⟩ | ⟨_, lv', y, hi9, hy, hlv', ho9⟩
                            · exact absurd rfl h
                            have HI9 := Lib.hid hi9
                            have hlv10 : ∀ q, lv'.ownBlock = some q → lv.ownBlock = some q ∨ wr.heap.size ≤ q := fun q hq => by
                              rcases hlv' q hq with h | h
                              · exact .inl h
                              · exact .inr (Nat.le_trans HBC.out.size h)
                            have HLV10 := Lib.hid hlv10
                            have HO9 : Hid (Only (fun q => q = b ∨ lv.ownBlock = some q) wr w9) := (Only.of_none HBC.out).trans ho9 (fun _ _ h => h)
                            have hblt := HIL.out.lt
                            have hb19 : Below w1.heap.size w1 w9 := HBR.out.trans (HO9.out.below HBR.out.size (fun q hq => by
                              rcases hq with h | h
                              · omega
                              · exact HLV.out q h))
                            obtain ⟨s0, s1, s2⟩ := HBS.out w9 hb19
                            have hal : Below w9.heap.size w9 (w9.alloc (.cells #[.int .i64 id, .slice px rows.length cx] 38)) := (Below.refl _ _).alloc (Nat.le_refl _) _
                            have ho1 := (HOWN.out.only HO9.out (fun q hq h => by
                              rcases h with h | h
                              · exact (HNV.out q hq).2.1 h
                              · exact (HNV.out q hq).2.2 h)).below hal
                            have hs1 : Sl (w9.alloc (.cells #[.int .i64 id, .slice px rows.length cx] 38)) (fun _ => True) 2 (.slice (some ⟨w9.heap.size, 0, none⟩) 1 1) 1 (batCells [⟨id, .slice px rows.length cx, rows⟩]) :=
                              (Own.made w9 38 2 (batCells [⟨id, .slice px rows.length cx, rows⟩]) [] 1 1 rfl (by intro u hu; simp [batCells, BatV.cells] at hu; rcases hu with rfl | rfl <;> rfl) (Nat.le_refl _) (by simp [maxLen]) (by simp [batCells, BatV.cells])).sl (fun _ _ => trivial)
                            have HAL9 := Lib.hid hal
                            clear hal hi9 hlv' hlv10 ho9 hb19 f0 f1 f2
                            go_wp2_with (at_builtin; refine wpList_app rfl _ _ rfl elemBat (by rfl) ho1 (by rfl) hs1 (by unfold maxLen; omega) (by omega) ?_; intro v1 w10 g1 g2 g3 g4 g5; clear ho1 hs1; obtain ⟨p10, c10, rfl, hc101, hc102⟩ := own_form g1; have G1 := Lib.hid g1; have G2 := Lib.hid g2; have G3 := Lib.hid g3; clear g1 g2 g3 g4 g5)
                            have HST2 := Lib.hid (main_put (x := ⟨id, .slice px rows.length cx, rows⟩) HOWN.out HKEY.out HMEM.out hnk HLV.out HNV.out HBR.out hbw hblt HI9.out hy HMM.out HLV10.out HO9.out HAL9.out (by simp) G1.out G2.out G3.out)
                            go_wp2_with fail
                            refine (main_waits HST2.out HL.out HLENS.out (by omega) HI.out).mono ?_
                            rintro e w20 ⟨rfl, hst3⟩
                            have HST3 := Lib.hid hst3
                            clear hst3
                            go_wp2_with fail
                            exact ⟨⟨k + 1, by go_num, by omega, HST3.out⟩, by (simp [intOf]) <;> omega⟩
                          · have d0 : (want == 0) = false := beq_eq_false_iff_ne.2 h0
                            go_wp2_with fail
                            refine HPUT.out.mono ?_
                            clear HPUT
                            rintro e w9 ⟨rfl, hpo⟩
                            rcases hpo with ⟨_, hb9⟩ | ⟨h, _⟩
                            · have HST2 := Lib.hid (HST.out.below (HBC.out.trans (hb9.mono HBC.out.size)) (Nat.le_succ k))
                              have hb19 := HBR.out.trans ((HBC.out.trans (hb9.mono HBC.out.size)).mono HBR.out.size)
                              obtain ⟨s0, s1, s2⟩ := HBS.out w9 hb19
                              clear hb9 hb19 h0 f0 f1 f2
                              go_wp2_with fail
                              refine (main_waits HST2.out HL.out HLENS.out (by omega) HI.out).mono ?_
                              rintro e w20 ⟨rfl, hst3⟩
                              have HST3 := Lib.hid hst3
                              clear hst3
                              go_wp2_with fail
                              exact ⟨⟨k + 1, by go_num, by omega, HST3.out⟩, by (simp [intOf]) <;> omega⟩
                            · exact absurd h h0
                    · as_aux_lemma =>
                        have d0 : (kd == 0) = false := beq_eq_false_iff_ne.2 hk0
                        have HFI := Lib.hid (lfirst wr b lv nm cl room ll HIL.out HLB.out)
                        have hrl : rowsN ll ≤ 1000000000 := by rw [rowsN_key HKEY.out]; omega
                        have HRL := Lib.hid hrl
                        have hblt := HIL.out.lt
                        clear hrl hk0
                        go_wp2_with fail
                        refine HFI.out.mono ?_
                        clear HFI
                        rintro e w2 hfo
                        rcases hfo with ⟨hll2, rfl, hb2⟩ | ⟨y, t, v2, acc, hll2, rfl, hra, hacc, hb2⟩
                        · have d8 : decide (0 < nl.length) = false := decide_eq_false (by rw [← len_key HKEY.out, hll2]; decide)
                          have hal3 : Below w2.heap.size w2 (w2.alloc (.cells #[.int .i64 0, .slice none 0 0] 38)) := (Below.refl _ _).alloc (Nat.le_refl _) _
                          have HK3 := Lib.hid (Blk.new w2 38 [.int .i64 0, .slice none 0 0])
                          have hb3 := hb2.trans (hal3.mono hb2.size)
                          obtain ⟨f0, f1, f2⟩ := HBS.out _ (HBR.out.trans (hb3.mono HBR.out.size))
                          have hf2 : wr.heap.size ≤ w2.heap.size := hb2.size
                          have HB3 := Lib.hid hb3
                          have HLL := Lib.hid hll2
                          clear hal3 hb3 hb2 hll2
                          by_cases hk1 : kd = 1
                          · subst hk1
                            have HTK := Lib.hid (ltake _ b lv nm cl room ll (HIL.out.below HB3.out) HLB.out HRL.out)
                            go_wp2_with fail
                            generalize w2.alloc (.cells #[.int .i64 0, .slice none 0 0] 38) = w3 at *
                            refine HTK.out.mono ?_
                            clear HTK
                            rintro e w4 hto
                            rcases hto with ⟨_, rfl, hb4⟩ | ⟨y, t, _, _, _, h9, _⟩
                            · have hk4 := HK3.out.below hb4
                              have kf : ∀ i, w4.frozen? ⟨w2.heap.size, i, none⟩ = false := hk4.frozen
                              have k0 : w4.cell? ⟨w2.heap.size, 0, none⟩ = some (.int .i64 0) := hk4.cell 0
                              have k1 : w4.cell? ⟨w2.heap.size, 1, none⟩ = some (.slice none 0 0) := hk4.cell 1
                              have hb4w := HB3.out.trans (hb4.mono HB3.out.size)
                              have hbX : Below wr.heap.size wr ((w4.setCell ⟨w2.heap.size, 0, none⟩ (.int .i64 0)).setCell ⟨w2.heap.size, 1, none⟩ (.slice none 0 0)) := (hb4w.setCell (p := ⟨w2.heap.size, 0, none⟩) hf2 _).setCell (p := ⟨w2.heap.size, 1, none⟩) hf2 _
                              have HKX : Hid (Blk ((w4.setCell ⟨w2.heap.size, 0, none⟩ (.int .i64 0)).setCell ⟨w2.heap.size, 1, none⟩ (.slice none 0 0)) w2.heap.size 38 [.int .i64 0, .slice none 0 0]) := (hk4.set 0 _).set 1 _
                              have HBX := Lib.hid hbX
                              clear hk4 hb4 hb4w hbX f0 f1 f2
                              go_wp2_with fail
                              clear kf k0 k1
                              generalize (w4.setCell ⟨w2.heap.size, 0, none⟩ (.int .i64 0)).setCell ⟨w2.heap.size, 1, none⟩ (.slice none 0 0) = wX at *
                              have c0 : wX.cell? ⟨w2.heap.size, 0, none⟩ = some (.int .i64 0) := HKX.out.cell 0
                              have c1 : wX.cell? ⟨w2.heap.size, 1, none⟩ = some (.slice none 0 0) := HKX.out.cell 1
                              have hsm := lawsame_any wX.drew _ _ ⟨0, .slice none 0 0, []⟩ ⟨0, .slice none 0 0, []⟩ (rowsat_nil _ (fun _ => True)) (rowsat_nil _ (fun _ => True))
                              rw [batEq_self] at hsm
                              simp only [BatV.agg] at hsm
                              have HSM := Lib.hid hsm
                              clear hsm
                              refine wp_region_lit_plan [] [(0, 0), (1, 0), (2, 0), (3, 0), (4, 0), (5, 0), (6, 0), (7, 0), (9, 0), (10, 0), (8, 1), (11, 1), (12, 4), (13, 0), (14, 0), (15, 0), (16, 0), (17, 0), (18, 0), (19, 0), (21, 0), (20, 1), (22, 4), (23, 0), (24, 0), (25, 0)] (fun _ => False) (by kernel_rfl) (by kernel_rfl) (fun c a d v w h => by cases d <;> exact h) ?_
                              go_wp2_with (first
                                | (refine plan_pure (v := _) (by rfl) (by rfl) (by rfl) (by intro _; go_simp; with_reducible rfl) ?_; simp only [List.setIfInBounds_toArray, List.set_cons_zero, List.set_cons_succ]; try go_bits) | (refine plan_read (v := _) (by rfl) (by rfl) (by rfl) (by go_simp; with_reducible rfl) ?_; simp only [List.setIfInBounds_toArray, List.set_cons_zero, List.set_cons_succ]; try go_bits) | (refine plan_readB (v := _) (by rfl) (by rfl) (by rfl) (by intro _ hag; unfold Agree at hag; go_simp; with_reducible rfl) ?_; simp only [List.setIfInBounds_toArray, List.set_cons_zero, List.set_cons_succ]; try go_bits) | (refine plan_skip0 (by rfl) (by rfl) (by rfl) ?_; simp only [List.setIfInBounds_toArray, List.set_cons_zero, List.set_cons_succ]; try go_bits) | (refine plan_skip1 (by rfl) (by rfl) (by rfl) ?_; simp only [List.setIfInBounds_toArray, List.set_cons_zero, List.set_cons_succ]; try go_bits) | (refine plan_skip2 (by rfl) (by rfl) (by rfl) ?_; simp only [List.setIfInBounds_toArray, List.set_cons_zero, List.set_cons_succ]; try go_bits) | (refine plan_skip4 (by rfl) (by rfl) (by rfl) ?_; simp only [List.setIfInBounds_toArray, List.set_cons_zero, List.set_cons_succ]; try go_bits) | (refine plan_any (by rfl) ?_) | (refine plan_keep (by rfl) ?_) | (refine plan_nil ?_) | (with_reducible refine And.intro (by first | assumption | exact Agree.refl _ _ | exact agree_drew _ _ | exact agree_alloc _ (by intro k hk; subst hk; first | omega | (simp; omega))) ?_) | (unfold Act.put; simp only [List.setIfInBounds_toArray, List.set_cons_zero, List.set_cons_succ])
                                | (go_at_call 24; refine HSM.out.mono ?_; clear HSM; rintro e w8 ⟨rfl, hb8⟩; have HB8 := Lib.hid (HBX.out.trans ((((Below.refl wX.heap.size wX).drew).trans (hb8.mono (Nat.le_refl _))).mono HBX.out.size)); clear hb8))
                              have HST2 := Lib.hid (HST.out.below HB8.out (Nat.le_succ k))
                              go_wp2_with fail
                              refine (main_waits HST2.out HL.out HLENS.out (by omega) HI.out).mono ?_
                              rintro e w20 ⟨rfl, hst3⟩
                              have HST3 := Lib.hid hst3
                              clear hst3
                              go_wp2_with fail
                              exact ⟨⟨k + 1, by go_num, by omega, HST3.out⟩, by (simp [intOf]) <;> omega⟩
                            · rw [HLL.out] at h9; cases h9
                          · have d9 : (kd == 1) = false := beq_eq_false_iff_ne.2 hk1
                            clear hk1
                            go_wp2_with fail
                            have HKX := HK3
                            have HBX := HB3
                            clear f0 f1 f2 HK3
                            generalize w2.alloc (.cells #[.int .i64 0, .slice none 0 0] 38) = wX at *
                            have c0 : wX.cell? ⟨w2.heap.size, 0, none⟩ = some (.int .i64 0) := HKX.out.cell 0
                            have c1 : wX.cell? ⟨w2.heap.size, 1, none⟩ = some (.slice none 0 0) := HKX.out.cell 1
                            have hsm := lawsame_any wX.drew _ _ ⟨0, .slice none 0 0, []⟩ ⟨0, .slice none 0 0, []⟩ (rowsat_nil _ (fun _ => True)) (rowsat_nil _ (fun _ => True))
                            rw [batEq_self] at hsm
                            simp only [BatV.agg] at hsm
                            have HSM := Lib.hid hsm
                            clear hsm
                            refine wp_region_lit_plan [] [(0, 0), (1, 0), (2, 0), (3, 0), (4, 0), (5, 0), (6, 0), (7, 0), (9, 0), (10, 0), (8, 1), (11, 1), (12, 4), (13, 0), (14, 0), (15, 0), (16, 0), (17, 0), (18, 0), (19, 0), (21, 0), (20, 1), (22, 4), (23, 0), (24, 0), (25, 0)] (fun _ => False) (by kernel_rfl) (by kernel_rfl) (fun c a d v w h => by cases d <;> exact h) ?_
                            go_wp2_with (first
                              | (refine plan_pure (v := _) (by rfl) (by rfl) (by rfl) (by intro _; go_simp; with_reducible rfl) ?_; simp only [List.setIfInBounds_toArray, List.set_cons_zero, List.set_cons_succ]; try go_bits) | (refine plan_read (v := _) (by rfl) (by rfl) (by rfl) (by go_simp; with_reducible rfl) ?_; simp only [List.setIfInBounds_toArray, List.set_cons_zero, List.set_cons_succ]; try go_bits) | (refine plan_readB (v := _) (by rfl) (by rfl) (by rfl) (by intro _ hag; unfold Agree at hag; go_simp; with_reducible rfl) ?_; simp only [List.setIfInBounds_toArray, List.set_cons_zero, List.set_cons_succ]; try go_bits) | (refine plan_skip0 (by rfl) (by rfl) (by rfl) ?_; simp only [List.setIfInBounds_toArray, List.set_cons_zero, List.set_cons_succ]; try go_bits) | (refine plan_skip1 (by rfl) (by rfl) (by rfl) ?_; simp only [List.setIfInBounds_toArray, List.set_cons_zero, List.set_cons_succ]; try go_bits) | (refine plan_skip2 (by rfl) (by rfl) (by rfl) ?_; simp only [List.setIfInBounds_toArray, List.set_cons_zero, List.set_cons_succ]; try go_bits) | (refine plan_skip4 (by rfl) (by rfl) (by rfl) ?_; simp only [List.setIfInBounds_toArray, List.set_cons_zero, List.set_cons_succ]; try go_bits) | (refine plan_any (by rfl) ?_) | (refine plan_keep (by rfl) ?_) | (refine plan_nil ?_) | (with_reducible refine And.intro (by first | assumption | exact Agree.refl _ _ | exact agree_drew _ _ | exact agree_alloc _ (by intro k hk; subst hk; first | omega | (simp; omega))) ?_) | (unfold Act.put; simp only [List.setIfInBounds_toArray, List.set_cons_zero, List.set_cons_succ])
                              | (go_at_call 24; refine HSM.out.mono ?_; clear HSM; rintro e w8 ⟨rfl, hb8⟩; have HB8 := Lib.hid (HBX.out.trans ((((Below.refl wX.heap.size wX).drew).trans (hb8.mono (Nat.le_refl _))).mono HBX.out.size)); clear hb8))
                            have HST2 := Lib.hid (HST.out.below HB8.out (Nat.le_succ k))
                            go_wp2_with fail
                            refine (main_waits HST2.out HL.out HLENS.out (by omega) HI.out).mono ?_
                            rintro e w20 ⟨rfl, hst3⟩
                            have HST3 := Lib.hid hst3
                            clear hst3
                            go_wp2_with fail
                            exact ⟨⟨k + 1, by go_num, by omega, HST3.out⟩, by (simp [intOf]) <;> omega⟩
                        · obtain ⟨x, nt, hnl⟩ : ∃ x nt, nl = x :: nt := by
                            have h9 := HKEY.out
                            rw [hll2] at h9
                            cases hc : nl with
                            | nil => rw [hc] at h9; cases h9
                            | cons x nt => exact ⟨x, nt, rfl⟩
                          have hyx : y.key = x.key ∧ t.map BatV.key = nt.map BatV.key := by
                            have h9 := HKEY.out
                            rw [hll2, hnl] at h9
                            simpa using h9
                          have hnpos : 0 < nl.length := by rw [hnl]; simp
                          have hx0 : nl[0] = x := by simp only [hnl, List.getElem_cons_zero]
                          have d8 : decide (0 < nl.length) = true := decide_eq_true hnpos
                          obtain ⟨g3, o3, rfl, _, _⟩ := bat_at HNBAT.out hnpos
                          obtain ⟨a9, ha9, hax⟩ := HMEM.out x (by rw [hnl]; exact List.mem_cons_self ..)
                          obtain ⟨p6, c6, hxv, hc61, hc62⟩ := (HL.out.2 a9 ha9).1.form
                          have HXR : Hid (∀ W, Below w1.heap.size w1 W → RowsAt W (fun _ => True) x.v x.rows) := fun W h => by
                            rw [← hax]
                            exact (HL.out.2 a9 ha9).below h
                          have hxv2 : x.v = .slice p6 x.rows.length c6 := by rw [← hax]; exact hxv
                          have HXC : Hid (∀ W, Only (fun q => q = b) wr W → W.cell? ⟨g3, o3, none⟩ = some (.int .i64 x.id) ∧ W.cell? ⟨g3, o3 + 1, none⟩ = some x.v) := fun W h => by
                            have h8 := (HOWN.out.only h (fun q hq h => (HNV.out q hq).2.1 h)).sl (B := fun _ => True) (fun _ _ => trivial)
                            obtain ⟨g', o', cap, hv, _, e8, e9⟩ := sl_bat h8 hnpos
                            cases hv
                            rw [hx0] at e8 e9
                            simpa using ⟨e8, e9⟩
                          have HYX := Lib.hid hyx.1
                          have HNL := Lib.hid hnl
                          have hnlen : nl.length = nt.length + 1 := by rw [hnl]; rfl
                          have HNLEN := Lib.hid hnlen
                          clear hx0 hnlen hyx hnl ha9 hax hxv hc61
                          obtain ⟨xid, xv, xrows⟩ := x
                          simp only at hxv2 HXC HXR
                          subst hxv2
                          obtain ⟨p2, c2, rfl, hc21, hc22⟩ := hra.1.form
                          have hal3 : Below w2.heap.size w2 (w2.alloc (.cells #[.int .i64 y.id, .slice p2 acc.length c2] 38)) := (Below.refl _ _).alloc (Nat.le_refl _) _
                          have HK3 := Lib.hid (Blk.new w2 38 [.int .i64 y.id, .slice p2 acc.length c2])
                          have hb3 := hb2.trans (hal3.mono hb2.size)
                          obtain ⟨f0, f1, f2⟩ := HBS.out _ (HBR.out.trans (hb3.mono HBR.out.size))
                          have hf2 : wr.heap.size ≤ w2.heap.size := hb2.size
                          have HRA3 := Lib.hid (hra.below hal3)
                          have HACC := Lib.hid hacc
                          have HB3 := Lib.hid hb3
                          have HLL := Lib.hid hll2
                          have hs3 : (w2.alloc (.cells #[.int .i64 y.id, .slice p2 acc.length c2] 38)).heap.size = w2.heap.size + 1 := by simp
                          have HS3 := Lib.hid hs3
                          clear hal3 hb3 hb2 hll2 hra hacc hs3
                          by_cases hk1 : kd = 1
                          · subst hk1
                            have HTK := Lib.hid (ltake (F := fun q => (Value.slice (some ⟨g3, o3, none⟩) nl.length cv2).ownBlock ≠ some q ∧ q < wr.heap.size) _ b lv nm cl room ll ((HIL.out.mono (fun k hk h => ⟨h, hk⟩)).below HB3.out) HLB.out HRL.out)
                            go_wp2_with fail
                            generalize w2.alloc (.cells #[.int .i64 y.id, .slice p2 acc.length c2] 38) = w3 at *
                            refine HTK.out.mono ?_
                            clear HTK
                            rintro e w4 hto
                            rcases hto with ⟨h9, _⟩ | ⟨y', t', v4, acc7, lv4, h9, rfl, hra4, hacc4, hi4, hlv4, ho4⟩
                            · rw [HLL.out] at h9; cases h9
                            · obtain ⟨rfl, rfl⟩ : y = y' ∧ t = t' := by
                                rw [HLL.out] at h9
                                simpa using h9
                              obtain ⟨p7, c7, rfl, hc71, hc72⟩ := hra4.1.form
                              have hs3 := HS3.out
                              have hk4 := HK3.out.only ho4 (fun h => by omega)
                              have kf : ∀ i, w4.frozen? ⟨w2.heap.size, i, none⟩ = false := hk4.frozen
                              have k0 : w4.cell? ⟨w2.heap.size, 0, none⟩ = some (.int .i64 y.id) := hk4.cell 0
                              have k1 : w4.cell? ⟨w2.heap.size, 1, none⟩ = some (.slice p2 acc.length c2) := hk4.cell 1
                              have ho4w : Only (fun q => q = b) wr w4 := (Only.of_none HB3.out).trans ho4 (fun _ _ h => h)
                              have HOX : Hid (Only (fun q => q = b) wr ((w4.setCell ⟨w2.heap.size, 0, none⟩ (.int .i64 y.id)).setCell ⟨w2.heap.size, 1, none⟩ (.slice p7 acc7.length c7))) :=
                                (ho4w.setCell (p := ⟨w2.heap.size, 0, none⟩) (fun h => absurd h (Nat.not_lt.2 hf2)) _).setCell (p := ⟨w2.heap.size, 1, none⟩) (fun h => absurd h (Nat.not_lt.2 hf2)) _
                              have hoX : Only (fun q => q = w2.heap.size) w4 ((w4.setCell ⟨w2.heap.size, 0, none⟩ (.int .i64 y.id)).setCell ⟨w2.heap.size, 1, none⟩ (.slice p7 acc7.length c7)) := ((Only.refl (fun q => q = w2.heap.size) w4).setCell (p := ⟨w2.heap.size, 0, none⟩) (fun _ => rfl) _).setCell (p := ⟨w2.heap.size, 1, none⟩) (fun _ => rfl) _
                              have HKX : Hid (Blk ((w4.setCell ⟨w2.heap.size, 0, none⟩ (.int .i64 y.id)).setCell ⟨w2.heap.size, 1, none⟩ (.slice p7 acc7.length c7)) w2.heap.size 38 [.int .i64 y.id, .slice p7 acc7.length c7]) := (hk4.set 0 _).set 1 _
                              have HRX := Lib.hid (hra4.only hoX (fun q hq h => by omega))
                              have HACC7 := Lib.hid hacc4
                              have HIX := Lib.hid (hi4.only hoX (fun h => by omega) (fun q hq h => by
                                rw [hlv4] at hq
                                have := HIL.out.ownlt q hq; omega) (fun q hq h => by have := hq.2; omega))
                              have HLV4 := Lib.hid hlv4
                              clear hk4 ho4 ho4w hoX f0 f1 f2 hra4 hacc4 hi4 hlv4 h9 HRA3 HACC hs3
                              go_wp2_with fail
                              clear kf k0 k1
                              generalize (w4.setCell ⟨w2.heap.size, 0, none⟩ (.int .i64 y.id)).setCell ⟨w2.heap.size, 1, none⟩ (.slice p7 acc7.length c7) = wX at *
                              by_cases hcv : cv2 = 1
                              · subst hcv
                                have HNV2 : Hid (∀ W, Only (fun q => q = b) wr W → Own W 38 2 (.slice (some ⟨g3, o3, none⟩) 0 0) nt.length (batCells nt)) := fun W h => by
                                  have h8 := HOWN.out.only h (fun q hq h => (HNV.out q hq).2.1 h)
                                  have hl := HNL.out
                                  subst hl
                                  have h9 := own_cap h8
                                  have ht : nt = [] := List.eq_nil_of_length_eq_zero (by simp only [List.length_cons] at h9; omega)
                                  subst ht
                                  exact h8.behind_none
                                have c0 : wX.cell? ⟨w2.heap.size, 0, none⟩ = some (.int .i64 y.id) := HKX.out.cell 0
                                have c1 : wX.cell? ⟨w2.heap.size, 1, none⟩ = some (.slice p7 acc7.length c7) := HKX.out.cell 1
                                obtain ⟨n0, n1⟩ := HXC.out _ HOX.out
                                have hb1X := HBR.out.trans (HOX.out.below HBR.out.size (fun q hq => by omega))
                                have hsm := lawsame_any wX.drew _ _ ⟨y.id, .slice p7 acc7.length c7, acc7⟩ ⟨xid, .slice p6 xrows.length c6, xrows⟩ (HRX.out.below ((Below.refl _ _).drew)) ((HXR.out _ hb1X).below ((Below.refl _ _).drew))
                                rw [batEq_key (by rw [← HYX.out]; simp only [BatV.key]; rw [HACC7.out])] at hsm
                                simp only [BatV.agg] at hsm
                                have HSM := Lib.hid hsm
                                have HB1X := Lib.hid hb1X
                                clear hsm hb1X
                                refine wp_region_lit_plan [] [(0, 0), (1, 0), (2, 0), (3, 0), (4, 0), (5, 0), (6, 0), (7, 0), (9, 0), (10, 0), (8, 1), (11, 1), (12, 4), (13, 0), (14, 0), (15, 0), (16, 0), (17, 0), (18, 0), (19, 0), (21, 0), (20, 1), (22, 4), (23, 0), (24, 0), (25, 0)] (fun _ => False) (by kernel_rfl) (by kernel_rfl) (fun c a d v w h => by cases d <;> exact h) ?_
                                go_wp2_with (first
                                  | (refine plan_pure (v := _) (by rfl) (by rfl) (by rfl) (by intro _; go_simp; with_reducible rfl) ?_; simp only [List.setIfInBounds_toArray, List.set_cons_zero, List.set_cons_succ]; try go_bits) | (refine plan_read (v := _) (by rfl) (by rfl) (by rfl) (by go_simp; with_reducible rfl) ?_; simp only [List.setIfInBounds_toArray, List.set_cons_zero, List.set_cons_succ]; try go_bits) | (refine plan_readB (v := _) (by rfl) (by rfl) (by rfl) (by intro _ hag; unfold Agree at hag; go_simp; with_reducible rfl) ?_; simp only [List.setIfInBounds_toArray, List.set_cons_zero, List.set_cons_succ]; try go_bits) | (refine plan_skip0 (by rfl) (by rfl) (by rfl) ?_; simp only [List.setIfInBounds_toArray, List.set_cons_zero, List.set_cons_succ]; try go_bits) | (refine plan_skip1 (by rfl) (by rfl) (by rfl) ?_; simp only [List.setIfInBounds_toArray, List.set_cons_zero, List.set_cons_succ]; try go_bits) | (refine plan_skip2 (by rfl) (by rfl) (by rfl) ?_; simp only [List.setIfInBounds_toArray, List.set_cons_zero, List.set_cons_succ]; try go_bits) | (refine plan_skip4 (by rfl) (by rfl) (by rfl) ?_; simp only [List.setIfInBounds_toArray, List.set_cons_zero, List.set_cons_succ]; try go_bits) | (refine plan_any (by rfl) ?_) | (refine plan_keep (by rfl) ?_) | (refine plan_nil ?_) | (with_reducible refine And.intro (by first | assumption | exact Agree.refl _ _ | exact agree_drew _ _ | exact agree_alloc _ (by intro k hk; subst hk; first | omega | (simp; omega))) ?_) | (unfold Act.put; simp only [List.setIfInBounds_toArray, List.set_cons_zero, List.set_cons_succ])
                                  | (go_at_call 24; refine HSM.out.mono ?_; clear HSM; rintro e w8 ⟨rfl, hb8⟩; have hb8X : Below wX.heap.size wX w8 := ((Below.refl wX.heap.size wX).drew).trans (hb8.mono (Nat.le_refl _)); obtain ⟨f0, f1, f2⟩ := HBS.out w8 (HB1X.out.trans (hb8X.mono HB1X.out.size)); have HB8X := Lib.hid hb8X; clear hb8 hb8X))
                                have ho8 : Only (fun q => q = b) wr w8 := HOX.out.trans (Only.of_none HB8X.out (S := fun _ => False)) (fun _ _ h => h.elim)
                                have HST2 := Lib.hid (main_take (x := ⟨xid, .slice p6 xrows.length c6, xrows⟩) (HNV2.out _ ho8) rfl HKEY.out HLL.out HNL.out HMEM.out hnk HLV.out HNV.out HBR.out hbw ((HIX.out.below HB8X.out).mono (fun k _ h => h.1)) HLV4.out ho8)
                                clear ho8
                                go_wp2_with fail
                                refine (main_waits HST2.out HL.out HLENS.out (by omega) HI.out).mono ?_
                                rintro e w20 ⟨rfl, hst3⟩
                                have HST3 := Lib.hid hst3
                                clear hst3
                                go_wp2_with fail
                                exact ⟨⟨k + 1, by go_num, by omega, HST3.out⟩, by (simp [intOf]) <;> omega⟩
                              · have HNV2 : Hid (∀ W, Only (fun q => q = b) wr W → Own W 38 2 (.slice (some ⟨g3, o3 + 2, none⟩) (nl.length - 1) (cv2 - 1)) nt.length (batCells nt)) := fun W h => by
                                  have h8 := HOWN.out.only h (fun q hq h => (HNV.out q hq).2.1 h)
                                  have hl := HNL.out
                                  subst hl
                                  exact h8.behind
                                have c0 : wX.cell? ⟨w2.heap.size, 0, none⟩ = some (.int .i64 y.id) := HKX.out.cell 0
                                have c1 : wX.cell? ⟨w2.heap.size, 1, none⟩ = some (.slice p7 acc7.length c7) := HKX.out.cell 1
                                obtain ⟨n0, n1⟩ := HXC.out _ HOX.out
                                have hb1X := HBR.out.trans (HOX.out.below HBR.out.size (fun q hq => by omega))
                                have hsm := lawsame_any wX.drew _ _ ⟨y.id, .slice p7 acc7.length c7, acc7⟩ ⟨xid, .slice p6 xrows.length c6, xrows⟩ (HRX.out.below ((Below.refl _ _).drew)) ((HXR.out _ hb1X).below ((Below.refl _ _).drew))
                                rw [batEq_key (by rw [← HYX.out]; simp only [BatV.key]; rw [HACC7.out])] at hsm
                                simp only [BatV.agg] at hsm
                                have HSM := Lib.hid hsm
                                have HB1X := Lib.hid hb1X
                                clear hsm hb1X
                                refine wp_region_lit_plan [] [(0, 0), (1, 0), (2, 0), (3, 0), (4, 0), (5, 0), (6, 0), (7, 0), (9, 0), (10, 0), (8, 1), (11, 1), (12, 4), (13, 0), (14, 0), (15, 0), (16, 0), (17, 0), (18, 0), (19, 0), (21, 0), (20, 1), (22, 4), (23, 0), (24, 0), (25, 0)] (fun _ => False) (by kernel_rfl) (by kernel_rfl) (fun c a d v w h => by cases d <;> exact h) ?_
                                go_wp2_with (first
                                  | (refine plan_pure (v := _) (by rfl) (by rfl) (by rfl) (by intro _; go_simp; with_reducible rfl) ?_; simp only [List.setIfInBounds_toArray, List.set_cons_zero, List.set_cons_succ]; try go_bits) | (refine plan_read (v := _) (by rfl) (by rfl) (by rfl) (by go_simp; with_reducible rfl) ?_; simp only [List.setIfInBounds_toArray, List.set_cons_zero, List.set_cons_succ]; try go_bits) | (refine plan_readB (v := _) (by rfl) (by rfl) (by rfl) (by intro _ hag; unfold Agree at hag; go_simp; with_reducible rfl) ?_; simp only [List.setIfInBounds_toArray, List.set_cons_zero, List.set_cons_succ]; try go_bits) | (refine plan_skip0 (by rfl) (by rfl) (by rfl) ?_; simp only [List.setIfInBounds_toArray, List.set_cons_zero, List.set_cons_succ]; try go_bits) | (refine plan_skip1 (by rfl) (by rfl) (by rfl) ?_; simp only [List.setIfInBounds_toArray, List.set_cons_zero, List.set_cons_succ]; try go_bits) | (refine plan_skip2 (by rfl) (by rfl) (by rfl) ?_; simp only [List.setIfInBounds_toArray, List.set_cons_zero, List.set_cons_succ]; try go_bits) | (refine plan_skip4 (by rfl) (by rfl) (by rfl) ?_; simp only [List.setIfInBounds_toArray, List.set_cons_zero, List.set_cons_succ]; try go_bits) | (refine plan_any (by rfl) ?_) | (refine plan_keep (by rfl) ?_) | (refine plan_nil ?_) | (with_reducible refine And.intro (by first | assumption | exact Agree.refl _ _ | exact agree_drew _ _ | exact agree_alloc _ (by intro k hk; subst hk; first | omega | (simp; omega))) ?_) | (unfold Act.put; simp only [List.setIfInBounds_toArray, List.set_cons_zero, List.set_cons_succ])
                                  | (go_at_call 24; refine HSM.out.mono ?_; clear HSM; rintro e w8 ⟨rfl, hb8⟩; have hb8X : Below wX.heap.size wX w8 := ((Below.refl wX.heap.size wX).drew).trans (hb8.mono (Nat.le_refl _)); obtain ⟨f0, f1, f2⟩ := HBS.out w8 (HB1X.out.trans (hb8X.mono HB1X.out.size)); have HB8X := Lib.hid hb8X; clear hb8 hb8X))
                                have ho8 : Only (fun q => q = b) wr w8 := HOX.out.trans (Only.of_none HB8X.out (S := fun _ => False)) (fun _ _ h => h.elim)
                                have HST2 := Lib.hid (main_take (x := ⟨xid, .slice p6 xrows.length c6, xrows⟩) (HNV2.out _ ho8) rfl HKEY.out HLL.out HNL.out HMEM.out hnk HLV.out HNV.out HBR.out hbw ((HIX.out.below HB8X.out).mono (fun k _ h => h.1)) HLV4.out ho8)
                                clear ho8
                                go_wp2_with fail
                                refine (main_waits HST2.out HL.out HLENS.out (by omega) HI.out).mono ?_
                                rintro e w20 ⟨rfl, hst3⟩
                                have HST3 := Lib.hid hst3
                                clear hst3
                                go_wp2_with fail
                                exact ⟨⟨k + 1, by go_num, by omega, HST3.out⟩, by (simp [intOf]) <;> omega⟩
                          · have d9 : (kd == 1) = false := beq_eq_false_iff_ne.2 hk1
                            clear hk1
                            go_wp2_with fail
                            have HKX := HK3
                            have HOX : Hid (Only (fun q => q = b) wr _) := Only.of_none HB3.out
                            have HRX := HRA3
                            have HACC7 := HACC
                            have HBX := HB3
                            clear f0 f1 f2 HK3 HRA3 HACC HB3 HS3
                            generalize w2.alloc (.cells #[.int .i64 y.id, .slice p2 acc.length c2] 38) = wX at *
                            obtain ⟨p7, rfl⟩ : ∃ p7, p7 = p2 := ⟨_, rfl⟩
                            obtain ⟨c7, rfl⟩ : ∃ c7, c7 = c2 := ⟨_, rfl⟩
                            obtain ⟨acc7, rfl⟩ : ∃ acc7, acc7 = acc := ⟨_, rfl⟩
                            have c0 : wX.cell? ⟨w2.heap.size, 0, none⟩ = some (.int .i64 y.id) := HKX.out.cell 0
                            have c1 : wX.cell? ⟨w2.heap.size, 1, none⟩ = some (.slice p7 acc7.length c7) := HKX.out.cell 1
                            obtain ⟨n0, n1⟩ := HXC.out _ HOX.out
                            have hb1X := HBR.out.trans (HOX.out.below HBR.out.size (fun q hq => by omega))
                            have hsm := lawsame_any wX.drew _ _ ⟨y.id, .slice p7 acc7.length c7, acc7⟩ ⟨xid, .slice p6 xrows.length c6, xrows⟩ (HRX.out.below ((Below.refl _ _).drew)) ((HXR.out _ hb1X).below ((Below.refl _ _).drew))
                            rw [batEq_key (by rw [← HYX.out]; simp only [BatV.key]; rw [HACC7.out])] at hsm
                            simp only [BatV.agg] at hsm
                            have HSM := Lib.hid hsm
                            have HB1X := Lib.hid hb1X
                            clear hsm hb1X
                            refine wp_region_lit_plan [] [(0, 0), (1, 0), (2, 0), (3, 0), (4, 0), (5, 0), (6, 0), (7, 0), (9, 0), (10, 0), (8, 1), (11, 1), (12, 4), (13, 0), (14, 0), (15, 0), (16, 0), (17, 0), (18, 0), (19, 0), (21, 0), (20, 1), (22, 4), (23, 0), (24, 0), (25, 0)] (fun _ => False) (by kernel_rfl) (by kernel_rfl) (fun c a d v w h => by cases d <;> exact h) ?_
                            go_wp2_with (first
                              | (refine plan_pure (v := _) (by rfl) (by rfl) (by rfl) (by intro _; go_simp; with_reducible rfl) ?_; simp only [List.setIfInBounds_toArray, List.set_cons_zero, List.set_cons_succ]; try go_bits) | (refine plan_read (v := _) (by rfl) (by rfl) (by rfl) (by go_simp; with_reducible rfl) ?_; simp only [List.setIfInBounds_toArray, List.set_cons_zero, List.set_cons_succ]; try go_bits) | (refine plan_readB (v := _) (by rfl) (by rfl) (by rfl) (by intro _ hag; unfold Agree at hag; go_simp; with_reducible rfl) ?_; simp only [List.setIfInBounds_toArray, List.set_cons_zero, List.set_cons_succ]; try go_bits) | (refine plan_skip0 (by rfl) (by rfl) (by rfl) ?_; simp only [List.setIfInBounds_toArray, List.set_cons_zero, List.set_cons_succ]; try go_bits) | (refine plan_skip1 (by rfl) (by rfl) (by rfl) ?_; simp only [List.setIfInBounds_toArray, List.set_cons_zero, List.set_cons_succ]; try go_bits) | (refine plan_skip2 (by rfl) (by rfl) (by rfl) ?_; simp only [List.setIfInBounds_toArray, List.set_cons_zero, List.set_cons_succ]; try go_bits) | (refine plan_skip4 (by rfl) (by rfl) (by rfl) ?_; simp only [List.setIfInBounds_toArray, List.set_cons_zero, List.set_cons_succ]; try go_bits) | (refine plan_any (by rfl) ?_) | (refine plan_keep (by rfl) ?_) | (refine plan_nil ?_) | (with_reducible refine And.intro (by first | assumption | exact Agree.refl _ _ | exact agree_drew _ _ | exact agree_alloc _ (by intro k hk; subst hk; first | omega | (simp; omega))) ?_) | (unfold Act.put; simp only [List.setIfInBounds_toArray, List.set_cons_zero, List.set_cons_succ])
                              | (go_at_call 24; refine HSM.out.mono ?_; clear HSM; rintro e w8 ⟨rfl, hb8⟩; have hb8X : Below wX.heap.size wX w8 := ((Below.refl wX.heap.size wX).drew).trans (hb8.mono (Nat.le_refl _)); obtain ⟨f0, f1, f2⟩ := HBS.out w8 (HB1X.out.trans (hb8X.mono HB1X.out.size)); have HB8X := Lib.hid hb8X; clear hb8 hb8X))
                            have HST2 := Lib.hid (HST.out.below (HBX.out.trans (HB8X.out.mono HBX.out.size)) (Nat.le_succ k))
                            go_wp2_with fail
                            refine (main_waits HST2.out HL.out HLENS.out (by omega) HI.out).mono ?_
                            rintro e w20 ⟨rfl, hst3⟩
                            have HST3 := Lib.hid hst3
                            clear hst3
                            go_wp2_with fail
                            exact ⟨⟨k + 1, by go_num, by omega, HST3.out⟩, by (simp [intOf]) <;> omega⟩
              · obtain rfl : k = l.length := by omega
                clear hbr
                go_wp2_with fail
                go_ret
                exact ⟨rfl, HAL.out.trans (HBR.out.mono HAL.out.size)⟩
end Go.Proofs.Ytdhdphmehjkbnaa
