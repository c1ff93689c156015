/- The law StreamBack: what the walk shows. -/
import Derived.Test.YtdhdphmehjkbnaaBkB
import Derived.Test.YtdhdphmehjkbnaaEqS
namespace Go.Proofs.Ytdhdphmehjkbnaa
open Go.RowKit Go.Afx

theorem batEq_data {a b : BatV} (h : a.data = b.data) : batEq a b = true := by
  obtain ⟨i, v, r⟩ := a
  obtain ⟨i', v', r'⟩ := b
  simp only [BatV.data, Prod.mk.injEq] at h
  obtain ⟨rfl, h⟩ := h
  have := batEq_self (⟨i, v, r⟩ : BatV)
  unfold batEq at *
  simp only at *
  rw [← h]
  exact this
def dataB (v : Int × List (List AV)) : List UInt8 := sizeB v.1 ++ rowsB2 v.2
theorem laid_data (l : List BatV) : laid batB l = laid dataB (l.map BatV.data) := by
  unfold laid
  rw [List.map_map]
  congr 1
  refine List.map_congr_left fun b _ => ?_
  show batB b = dataB b.data
  unfold batB dataB BatV.data
  rw [rowsB_2]
theorem reads_bat (cl : List ColV) (b : BatV) (h1 : 1 ≤ b.id) (hf : fitsB cl (b.rows.map RowV.l) = true) (hs : b.small) : Reads (rBat cl) (dataB b.data) b.data := by
  obtain ⟨id, v, rows⟩ := b
  obtain ⟨hid, hrl, hrr⟩ := hs
  simp only at h1 hf hid hrl hrr
  unfold fit64 at hid
  have hsz := reads_size id.toNat 9223372036854775807 (by omega) (by omega)
  have hz : sizeB id = numB id.toNat := by unfold sizeB; congr 2; omega
  rw [← hz] at hsz
  have hidn : ((id.toNat : Nat) : Int) = id := by omega
  have hrs := reads_rows (rows.map RowV.l) (fun l hl => by
    obtain ⟨r, hr, rfl⟩ := List.mem_map.1 hl
    obtain ⟨h3, h4, h5⟩ := hrr r hr
    exact ⟨fun a ha => ⟨List.all_eq_true.1 h4 a ha, h5 a ha⟩, by omega⟩) 32 8 (by rw [List.length_map]; omega) (by rw [List.length_map]; omega) (fun l hl => by
    obtain ⟨r, hr, rfl⟩ := List.mem_map.1 hl
    have := (hrr r hr).1; omega)
  unfold BatV.data dataB
  simp only
  refine ⟨fun rest => ?_, fun x y hx hy => ?_⟩
  · unfold rBat
    rw [List.append_assoc, hsz.1]
    simp only
    rw [hrs.1 rest]
    simp only
    rw [if_neg (by rw [hidn, hf]; simp; omega), hidn]
  · have hpt := part_two hsz hrs (sticks_list (rRow 8) 32) x y hx hy
    unfold rBat
    split
    · rfl
    · exact hpt
theorem rAll_list (cl : List ColV) (l : List UInt8) : rList (rBat cl) 1048576 false l = if (rAll cl l).2.1 = true then ([], true, []) else rAll cl l := rfl
theorem rAll_whole (cl : List ColV) (l : List BatV) (hl : l.length ≤ 40) (h : ∀ b ∈ l, 1 ≤ b.id ∧ fitsB cl (b.rows.map RowV.l) = true ∧ b.small) :
    rAll cl (sizeB l.length ++ laid batB l) = (l.map BatV.data, false, []) ∧ ∀ k, k < (sizeB l.length ++ laid batB l).length → (rAll cl ((sizeB l.length ++ laid batB l).take k)).2.1 = true := by
  have hr := reads_list (f := rBat cl) (e := dataB) (l.map BatV.data) (fun v hv => by
    obtain ⟨b, hb, rfl⟩ := List.mem_map.1 hv
    exact reads_bat cl b (h b hb).1 (h b hb).2.1 (h b hb).2.2) 1048576 (by rw [List.length_map]; omega) (by rw [List.length_map]; omega)
  rw [List.length_map, ← laid_data] at hr
  refine ⟨?_, fun k hk => ?_⟩
  · have h1 := hr.1 []
    rw [List.append_nil, rAll_list] at h1
    split at h1
    · have h3 := congrArg (fun x => x.2.1) h1
      cases h3
    · exact h1
  · have h2 := hr.2 ((sizeB l.length ++ laid batB l).take k) ((sizeB l.length ++ laid batB l).drop k) (List.take_append_drop _ _) (by
      intro hd
      have := congrArg List.length hd
      rw [List.length_drop, List.length_nil] at this
      omega)
    rw [rAll_list] at h2
    split at h2
    · assumption
    · exact h2
theorem small_of (cl : List ColV) (hcl : cl.length ≤ 8) (b : BatV) (hf : fitsB cl (b.rows.map RowV.l) = true) (hb : b.read) : b.small := by
  unfold fitsB at hf
  rw [Bool.and_eq_true, List.all_eq_true, decide_eq_true_iff, List.length_map] at hf
  refine ⟨hb.1, hf.2, fun r hr => ?_⟩
  have h1 := hf.1 r.l (List.mem_map_of_mem hr)
  unfold fitB at h1
  rw [Bool.and_eq_true, Bool.and_eq_true, decide_eq_true_iff] at h1
  exact ⟨by omega, h1.1.2, fun a ha => (hb.2 r hr a ha).2.1⟩
theorem got_at {w : World} {B : Nat → Prop} {p : Option Addr} {n c k : Nat} {l : List BatV} (h : BatAt w B (.slice p n c) l) (hk : k < l.length) :
    ∃ g off, p = some ⟨g, off, none⟩ ∧ w.cell? ⟨g, off + k * 2, none⟩ = some (.int .i64 l[k].id) ∧ w.cell? ⟨g, off + k * 2 + 1, none⟩ = some l[k].v := by
  obtain ⟨g, off, cap, hv, _, e0, e1⟩ := sl_bat h.1 hk
  injection hv with hp _ _
  exact ⟨g, off, hp, e0, e1⟩
theorem at_data {a b : List BatV} (h : a.map BatV.data = b.map BatV.data) (k : Nat) (h1 : k < a.length) (h2 : k < b.length) : a[k].data = b[k].data := by
  have e : (a.map BatV.data)[k]'(by simpa using h1) = (b.map BatV.data)[k]'(by simpa using h2) := by simp only [h]
  simpa using e

set_option maxRecDepth 100000 in
set_option maxHeartbeats 8000000 in
theorem sback_walk (v0 : Value) (cl : List ColV) (v1 : Value) (l : List BatV) (at_ : Int) (wa : (Lit.int .i64 at_).wf = true) (w : World)
    (o0 : Sl w (fun _ => True) 2 v0 cl.length (colCells cl) ∧ ∀ c ∈ cl, c.read) (o1 : BatAt w (fun _ => True) v1 l ∧ ∀ b ∈ l, b.read) :
    Calls Try.prog 11 #[v0, v1, .int .i64 at_] w fun e w' => e = .returned (.bool true) ∧ Below w.heap.size w w' := by
  obtain ⟨hc, _⟩ := o0
  obtain ⟨hl, hlr⟩ := o1
  have hat := wf_fit64 wa
  obtain ⟨pc, cc, rfl, hcc1, hcc⟩ := hc.form
  obtain ⟨pl, cp, rfl, hpl1, hpl⟩ := hl.1.form
  have HG := Lib.hid (great_any _ _ _ ⟨#[]⟩ _ _ cl l hc hl)
  have HC := Lib.hid hc
  have HL := Lib.hid hl
  have HLR := Lib.hid hlr
  have HAT := Lib.hid hat
  clear hc hl hlr hat wa
  cases hgl : greatL ⟨#[]⟩ cl l
  case true =>
    rw [hgl] at HG
    clear hgl
    go_enter Try.func11, Try.ntmps11
    go_wp2_with (first
      | (go_at_call 12; refine HG.out.mono ?_; clear HG; rintro e w2 ⟨rfl, hb2⟩; have HB2 := Lib.hid hb2; clear hb2)
      | (go_at_call 13; refine (st_awake _).mono ?_; rintro e w3 ⟨rfl, hb3⟩))
    go_ret
    exact ⟨rfl, HB2.out.trans (hb3.mono HB2.out.size)⟩
  rw [hgl] at HG
  obtain ⟨hn0, hl40, hlens⟩ := greatL_no hgl
  have hlens2 : ∀ b ∈ l, ∀ r ∈ b.rows, r.l.length ≤ 1000000 := fun b hb r hr => by
    have := (hlens b hb).2 r hr
    unfold greatB at this
    rw [Bool.or_eq_false_iff, decide_eq_false_iff_not] at this
    omega
  have HLENS := Lib.hid hlens2
  clear hgl hlens hlens2 hn0
  by_cases hcl : 8 < cl.length
  · have d8 : decide ((8 : Int) < (cl.length : Int)) = true := decide_eq_true (by omega)
    go_enter Try.func11, Try.ntmps11
    go_wp2_with (first
      | (go_at_call 12; refine HG.out.mono ?_; clear HG; rintro e w2 ⟨rfl, hb2⟩; have HB2 := Lib.hid hb2; clear hb2)
      | (go_at_call 13; refine (st_awake _).mono ?_; rintro e w3 ⟨rfl, hb3⟩))
    go_ret
    exact ⟨rfl, HB2.out.trans (hb3.mono HB2.out.size)⟩
  have d8 : decide ((8 : Int) < (cl.length : Int)) = false := decide_eq_false (by omega)
  go_enter Try.func11, Try.ntmps11
  go_wp2_with (first
    | (go_at_call 12; refine HG.out.mono ?_; clear HG; rintro e w2 ⟨rfl, hb2⟩; have HB2 := Lib.hid hb2; clear hb2))
  clear d8
  go_loopw [7] (fun i wr => ∃ k : Nat, i = .int .i64 k ∧ k ≤ l.length ∧ (∀ b ∈ l.take k, 1 ≤ b.id ∧ fitsB cl (b.rows.map RowV.l) = true) ∧ Below w.heap.size w wr) (fun i _ => l.length - (intOf i).toNat)
  case atStart => exact ⟨0, rfl, Nat.zero_le _, by simp, HB2.out⟩
  case round =>
    clear HB2
    obtain ⟨k, rfl, hk, hall, hb⟩ := hrel
    have HBR := Lib.hid hb
    have HALL := Lib.hid hall
    clear hall
    by_cases hka : k < l.length
    · obtain ⟨g1, off1, rfl, e0, e1⟩ := got_at (HL.out.below hb) hka
      have hrw := (HL.out.below hb).2 l[k] (List.getElem_mem hka)
      have hft := lawfits_any wr _ _ _ _ cl _ (HC.out.below hb) hrw
      have hT : l.take (k + 1) = l.take k ++ [l[k]] := List.take_succ_eq_append_getElem hka
      obtain ⟨px, cx, hxv, hcx1, hcx2⟩ := hrw.1.form
      rw [hxv] at e1 hft
      have HFT := Lib.hid hft
      have HT := Lib.hid hT
      clear hrw hft hT hxv hb
      by_cases hid : l[k].id < 1
      · have d1 : decide (l[k].id < 1) = true := decide_eq_true hid
        generalize l[k] = x at *
        go_wp2_with (go_at_call 13; refine (st_awake _).mono ?_; rintro e w3 ⟨rfl, hb3⟩)
        go_ret
        exact ⟨rfl, HBR.out.trans (hb3.mono HBR.out.size)⟩
      · have d1 : decide (l[k].id < 1) = false := decide_eq_false hid
        generalize l[k] = x at *
        have HF9 : Hid (fitsB cl (x.rows.map RowV.l) = true → ∀ b ∈ l.take (k + 1), 1 ≤ b.id ∧ fitsB cl (b.rows.map RowV.l) = true) := fun h b hb => by
          rw [HT.out] at hb
          rcases List.mem_append.1 hb with hb | hb
          · exact HALL.out b hb
          · rw [List.mem_singleton.1 hb]; exact ⟨by omega, h⟩
        generalize fitsB cl (x.rows.map RowV.l) = f at *
        clear hid
        cases f
        · go_wp2_with (first
            | (go_at_call 18; refine HFT.out.mono ?_; clear HFT; rintro e w4 ⟨rfl, hb4⟩; have HB4 := Lib.hid (HBR.out.trans (hb4.mono HBR.out.size)); clear hb4)
            | (go_at_call 13; refine (st_awake _).mono ?_; rintro e w3 ⟨rfl, hb3⟩))
          go_ret
          exact ⟨rfl, HB4.out.trans (hb3.mono HB4.out.size)⟩
        · have HF10 := Lib.hid (HF9.out rfl)
          clear HF9
          go_wp2_with (first
            | (go_at_call 18; refine HFT.out.mono ?_; clear HFT; rintro e w4 ⟨rfl, hb4⟩; have HB4 := Lib.hid (HBR.out.trans (hb4.mono HBR.out.size)); clear hb4))
          exact ⟨⟨k + 1, by go_num, by omega, HF10.out, HB4.out⟩, by (simp [intOf]) <;> omega⟩
    · obtain rfl : k = l.length := by omega
      have hall2 : ∀ b ∈ l, 1 ≤ b.id ∧ fitsB cl (b.rows.map RowV.l) = true ∧ b.small := fun b hb => by
        have h8 := HALL.out b (by rw [List.take_length]; exact hb)
        exact ⟨h8.1, h8.2, small_of cl (by omega) b h8.2 (HLR.out b hb)⟩
      obtain ⟨hw1, hw2⟩ := rAll_whole cl l hl40 hall2
      have hby := bytes_any wr _ l (HL.out.below hb) hl40 (fun b hb => (hall2 b hb).2.2)
      have hll := laid_len batB 54066 l (fun b hb => batB_len b (hall2 b hb).2.2)
      have hz : (sizeB l.length).length ≤ 9 := be_len8 _ (by omega)
      have hz1 : 1 ≤ (sizeB l.length).length := by unfold sizeB numB; simp
      have hlen0 : (sizeB l.length ++ laid batB l).length ≤ 2200000 := by rw [List.length_append]; omega
      have hlen1 : 1 ≤ (sizeB l.length ++ laid batB l).length := by rw [List.length_append]; omega
      have HBY0 : Hid (Calls Try.prog 61 #[.slice pl l.length cp] wr fun e w' => e = .returned (.string (bs (sizeB l.length ++ laid batB l))) ∧ Below wr.heap.size wr w') := hby
      generalize sizeB l.length ++ laid batB l = all at *
      have hbsz := bs_size all
      have HX0 := Lib.hid (fun k => bs_ext0 all k)
      have HRA : Hid (∀ W, Below w.heap.size w W → Calls Try.prog 62 #[.string (bs all), .slice pc cl.length cc] W (ReadOut W (l.map BatV.data, false, []))) := fun W h => by
        have := stread_any W (bs all) (by rw [hbsz]; omega) _ cl (HC.out.below h)
        rw [bs_data, hw1] at this
        exact this
      have HRB : Hid (∀ k, k < all.length → ∀ W, Below w.heap.size w W → ∃ t, t.2.1 = true ∧ Calls Try.prog 62 #[.string (bs (all.take k)), .slice pc cl.length cc] W (ReadOut W t)) := fun k hk W h => by
        have := stread_any W (bs (all.take k)) (by rw [bs_size, List.length_take]; omega) _ cl (HC.out.below h)
        rw [bs_data] at this
        exact ⟨_, hw2 k hk, this⟩
      have HSZ := Lib.hid hbsz
      have hlen2 : (bs all).size ≤ 2200000 := by omega
      have hlen3 : 1 ≤ (bs all).size := by omega
      clear hw1 hw2 hby hll hz hz1 hlen0 hlen1 hall2 hbsz hb
      generalize bs all = S at *
      go_wp2_with fail
      refine HBY0.out.mono ?_
      clear HBY0
      rintro e w4 ⟨rfl, hb4⟩
      have HB4 := Lib.hid (HBR.out.trans (hb4.mono HBR.out.size))
      have HR4 := Lib.hid (HRA.out w4 HB4.out)
      clear hb4 HRA
      go_wp2_with fail
      refine HR4.out.mono ?_
      clear HR4
      rintro e w5 ⟨hb5, hro⟩
      rcases hro with ⟨hbad, _⟩ | ⟨_, _, vg, acc, rfl, hacc, hdata⟩
      · rcases hbad with h | h
        · cases h
        · exact absurd rfl h
      simp only at hdata
      have hlA : acc.length = l.length := by
        have := congrArg List.length hdata
        simpa using this
      obtain ⟨pg, cg, hvg, hcg1, hcg2⟩ := hacc.1.form
      rw [hlA] at hvg hcg1
      subst hvg
      have HB5 := Lib.hid (HB4.out.trans (hb5.mono HB4.out.size))
      have HAC := Lib.hid hacc
      have HDA := Lib.hid hdata
      have HLA := Lib.hid hlA
      have hs0 : ((S.size : Int) == 0) = false := beq_eq_false_iff_ne.2 (by omega)
      clear hb5 hacc hdata hlA HB4
      go_wp2_with fail
      clear hs0
      go_loopw [11] (fun i wr => ∃ j : Nat, i = .int .i64 j ∧ j ≤ l.length ∧ Below w5.heap.size w5 wr) (fun i _ => l.length - (intOf i).toNat)
      case atStart => exact ⟨0, rfl, Nat.zero_le _, Below.refl _ _⟩
      case round =>
        obtain ⟨j, rfl, hj, hbj⟩ := hrel
        have HBJ := Lib.hid hbj
        have hb1j := HB5.out.trans (hbj.mono HB5.out.size)
        by_cases hja : j < l.length
        · have hjA : j < acc.length := by rw [HLA.out]; exact hja
          obtain ⟨g1, o1, rfl, u0, u1⟩ := got_at (HAC.out.below hbj) hjA
          obtain ⟨g2, o2, rfl, v0, v1⟩ := got_at (HL.out.below hb1j) hja
          have hr1 := (HAC.out.below hbj).2 acc[j] (List.getElem_mem hjA)
          have hr2 := (HL.out.below hb1j).2 l[j] (List.getElem_mem hja)
          have hsm := lawsame_any wr.drew _ _ _ _ (hr1.below ((Below.refl _ _).drew)) (hr2.below ((Below.refl _ _).drew))
          rw [batEq_data (at_data HDA.out j hjA hja)] at hsm
          obtain ⟨q1, z1, hq1, _, _⟩ := hr1.1.form
          obtain ⟨q2, z2, hq2, _, _⟩ := hr2.1.form
          have HSM := Lib.hid hsm
          clear hsm hr1 hr2 hbj hb1j
          generalize acc[j] = a1 at *
          generalize l[j] = a2 at *
          obtain ⟨i1, y1, r1⟩ := a1
          obtain ⟨i2, y2, r2⟩ := a2
          simp only [BatV.agg] at u0 u1 v0 v1 hq1 hq2 HSM
          subst hq1 hq2
          go_wp2_with fail
          refine wp_region_lit_plan [] [(0, 0), (1, 0), (2, 0), (4, 0), (5, 0), (6, 0), (3, 1), (7, 1), (8, 4), (9, 0)] (fun _ => False) (by kernel_rfl) (by kernel_rfl) (fun c a d v w h => by cases d <;> exact h) ?_
          go_wp2_with (first
            | (refine plan_pure (v := _) (by rfl) (by rfl) (by rfl) (by intro _; go_simp; with_reducible rfl) ?_; simp only [List.setIfInBounds_toArray, List.set_cons_zero, List.set_cons_succ]; try go_bits) | (refine plan_read (v := _) (by rfl) (by rfl) (by rfl) (by go_simp; with_reducible rfl) ?_; simp only [List.setIfInBounds_toArray, List.set_cons_zero, List.set_cons_succ]; try go_bits) | (refine plan_readB (v := _) (by rfl) (by rfl) (by rfl) (by intro _ hag; unfold Agree at hag; go_simp; with_reducible rfl) ?_; simp only [List.setIfInBounds_toArray, List.set_cons_zero, List.set_cons_succ]; try go_bits) | (refine plan_skip0 (by rfl) (by rfl) (by rfl) ?_; simp only [List.setIfInBounds_toArray, List.set_cons_zero, List.set_cons_succ]; try go_bits) | (refine plan_skip1 (by rfl) (by rfl) (by rfl) ?_; simp only [List.setIfInBounds_toArray, List.set_cons_zero, List.set_cons_succ]; try go_bits) | (refine plan_skip2 (by rfl) (by rfl) (by rfl) ?_; simp only [List.setIfInBounds_toArray, List.set_cons_zero, List.set_cons_succ]; try go_bits) | (refine plan_skip4 (by rfl) (by rfl) (by rfl) ?_; simp only [List.setIfInBounds_toArray, List.set_cons_zero, List.set_cons_succ]; try go_bits) | (refine plan_any (by rfl) ?_) | (refine plan_keep (by rfl) ?_) | (refine plan_nil ?_) | (with_reducible refine And.intro (by first | assumption | exact Agree.refl _ _ | exact agree_drew _ _ | exact agree_alloc _ (by intro k hk; subst hk; first | omega | (simp; omega))) ?_) | (unfold Act.put; simp only [List.setIfInBounds_toArray, List.set_cons_zero, List.set_cons_succ])
            | (go_at_call 24; refine HSM.out.mono ?_; clear HSM; rintro e w8 ⟨rfl, hb8⟩; have HB8 := Lib.hid (HBJ.out.trans (((Below.refl _ _).drew).trans (hb8.mono (Nat.le_refl _)) |>.mono HBJ.out.size)); clear hb8))
          exact ⟨⟨j + 1, by go_num, by omega, HB8.out⟩, by (simp [intOf]) <;> omega⟩
        · obtain rfl : j = l.length := by omega
          have HB6 := Lib.hid hb1j
          clear hbj hb1j
          obtain ⟨ua, hua⟩ : ∃ ua : Nat, IntKind.u64.wrap at_ = (ua : Int) := ⟨(IntKind.u64.wrap at_).toNat, by rw [IntKind.wrap_u64]; omega⟩
          have hua2 : (ua : Int) < 18446744073709551616 := by rw [← hua, IntKind.wrap_u64]; omega
          have hmod : (ua : Int) % (S.size : Int) = ((ua % S.size : Nat) : Int) := by omega
          have hmlt : ua % S.size < S.size := Nat.mod_lt _ (by omega)
          generalize ua % S.size = kq at *
          have hx0 := HX0.out kq
          have hkl : kq < all.length := by rw [← HSZ.out]; exact hmlt
          have hml : kq ≤ S.size := by omega
          have hmli : (kq : Int) ≤ S.size := by omega
          have hs0 : S.size ≠ 0 := by omega
          obtain ⟨t9, ht9, hr9⟩ := HRB.out kq hkl wr HB6.out
          have HT9 := Lib.hid ht9
          have HR9 := Lib.hid hr9
          generalize bs (all.take kq) = SQ at *
          clear ht9 hr9
          go_wp2_with fail
          refine HR9.out.mono ?_
          clear HR9
          rintro e w9 ⟨hb9, hro⟩
          rcases hro with ⟨_, rfl⟩ | ⟨h, _⟩
          · have HB9 := Lib.hid (HB6.out.trans (hb9.mono HB6.out.size))
            clear hb9
            go_wp2_with (go_at_call 13; refine (st_awake _).mono ?_; rintro e w3 ⟨rfl, hb3⟩)
            go_ret
            exact ⟨rfl, HB9.out.trans (hb3.mono HB9.out.size)⟩
          · rw [HT9.out] at h; cases h
end Go.Proofs.Ytdhdphmehjkbnaa
