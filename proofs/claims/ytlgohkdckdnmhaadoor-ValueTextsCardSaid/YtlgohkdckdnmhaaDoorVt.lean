/- The law ValueTexts: its walk. -/
import Derived.Test.YtlgohkdckdnmhaaDoorPrsR
import Derived.Test.YtlgohkdckdnmhaaDoorEqV
import Derived.Test.YtlgohkdckdnmhaaDoorOpenV
namespace Go.Proofs.YtlgohkdckdnmhaaDoor
open Go.RowKit Go.Afx

theorem line_next (l : List AV) (k : Nat) (h : k < l.length) : lineB (l.take (k + 1)) = (if k = 0 then [] else lineB (l.take k) ++ comma) ++ printV l[k] := by
  unfold lineB
  cases l with
  | nil => simp at h
  | cons a l =>
    cases k with
    | zero => simp [Lib.join_one]
    | succ k =>
      rw [if_neg (by omega), List.take_succ_cons, List.take_succ_cons, List.map_cons, List.map_cons, Lib.join_cons, Lib.join_cons, List.map_take, List.map_take]
      have h2 : (l.map printV)[k]? = some (printV (l[k]'(by simpa using h))) := by
        rw [List.getElem?_map, List.getElem?_eq_getElem (by simpa using h)]; rfl
      rw [Lib.joinTail_take_succ comma _ k _ h2]
      simp only [List.append_assoc, List.getElem_cons_succ]
theorem prsV_err (l : List UInt8) : (prsV l).2 = 0 ∨ (prsV l).2 = 12 := by
  have hc : ∀ v, (chkV v l).2 = 0 ∨ (chkV v l).2 = 12 := fun v => by
    unfold chkV
    split
    · exact .inl rfl
    · exact .inr rfl
  unfold prsV
  split
  · exact .inl rfl
  split
  · exact .inl rfl
  split
  · exact hc _
  split
  · exact hc _
  · exact .inr rfl

theorem greatB_no' {l : List AV} (h : greatB l = false) : l.length ≤ 30 := by
  unfold greatB at h
  simp only [Bool.or_eq_false_iff, decide_eq_false_iff_not, List.any_eq_false] at h
  omega

set_option maxRecDepth 100000 in
set_option maxHeartbeats 4000000 in
theorem texts_walkV (v0 : Value) (l : List AV) (s : ByteArray) (_ : s.size ≤ maxLen) (w : World) (hm : Mx w) (h0 : Sl w (fun _ => True) 3 v0 l.length (rowCells l) ∧ ∀ x ∈ l, x.read) :
    Calls Tryd.prog 10 #[v0, .string s] w fun e w' => e = .returned (.bool true) ∧ Below w.heap.size w w' := by
  have HGa := Lib.hid (fun w' (h : Below w.heap.size w w') => great_row w' _ v0 l (h0.1.below h))
  have HAW := Lib.hid (fun w' (h : Below w.heap.size w w') => vawake w' (hm.below h))
  have HS0 := Lib.hid h0.1
  have HF := Lib.hid (fun x hx => (h0.2 x hx).2.1)
  have HM := Lib.hid hm
  obtain ⟨p, cap, rfl, hc1, hc2⟩ := h0.1.form
  clear h0 hm
  cases hga : greatB l
  · rw [hga] at HGa
    have hll := greatB_no' hga
    by_cases hs : s.size ≤ 600
    · have hd : decide ((600 : Int) < (s.size : Int)) = false := decide_eq_false (by omega)
      have hsl := size_list s _ rfl
      have HP := Lib.hid (fun w' (h : Below w.heap.size w w') => parse_val w' (HM.out.below h) s _ rfl (by omega))
      have HRP := Lib.hid (fun w => refparse_val w s _ rfl (by omega))
      have hpe := prsV_err s.data.toList
      generalize prsV s.data.toList = out at *
      obtain ⟨⟨ok, on, os⟩, oe⟩ := out
      simp only [AV.agg] at HP HRP hpe
      have HLN := Lib.hid (fun w' (h : Below w.heap.size w w') => line_any w' (HM.out.below h) _ _ l (HS0.out.below h) HF.out (by omega))
      clear hga hsl
      go_enter Tryd.func10, Tryd.ntmps10
      go_wp2_with fail
      refine (HGa.out _ (Below.refl _ _)).mono ?_
      rintro e w1 ⟨rfl, hb1⟩
      have HB1 := Lib.hid hb1
      clear hb1 HGa
      go_wp2_with fail
      go_loopw [5, 6] (fun v i wr => ∃ k : Nat, i = .int .i64 k ∧ k ≤ l.length ∧ v = .string (bs (lineB (l.take k))) ∧ Below w.heap.size w wr) (fun _ i _ => l.length - (intOf i).toNat)
      case atStart => exact ⟨0, rfl, Nat.zero_le _, rfl, HB1.out⟩
      case round =>
        obtain ⟨k, rfl, hk, rfl, hbr⟩ := hrel
        have HBR := Lib.hid hbr
        by_cases hka : k < l.length
        · obtain ⟨g, off, cap1, hv, hg, e0, e1, e2⟩ := sl_av (HS0.out.below hbr) hka
          cases hv
          have HE : Hid (∀ w2, Below wr.heap.size wr w2 → w2.cell? ⟨g, off + k * 3, none⟩ = wr.cell? ⟨g, off + k * 3, none⟩ ∧ w2.cell? ⟨g, off + k * 3 + 1, none⟩ = wr.cell? ⟨g, off + k * 3 + 1, none⟩ ∧ w2.cell? ⟨g, off + k * 3 + 2, none⟩ = wr.cell? ⟨g, off + k * 3 + 2, none⟩) :=
            fun w2 h => ⟨h.cell hg, h.cell hg, h.cell hg⟩
          have hfk := HF.out _ (List.getElem_mem hka)
          have hln := line_next l k hka
          have hl1 := line_len (l.take k) (fun a ha => HF.out a (List.mem_of_mem_take ha))
          have hl2 : (l.take k).length ≤ 30 := by rw [List.length_take]; omega
          have hl3 := printV_len' l[k] hfk
          generalize l[k] = x at *
          have HR := Lib.hid (fun w => refright w x)
          have hx : x.agg = .agg #[.int .i64 x.kind, .int .i64 x.n, .string x.s] := rfl
          have HPV := Lib.hid (fun w h => print_val w h x hfk)
          have hrp := fun h w => refprint_val w x h hfk
          have hpv : x.right = true → prB x = printV x := fun h => by unfold printV; rw [h]; rfl
          have hpn : x.right = false → printV x = [] := fun h => by unfold printV; rw [h]; rfl
          have hx' := hx
          rw [hx] at HR HPV
          have hsum : (bs (lineB (l.take k) ++ comma)).size + (bs (printV x)).size ≤ 9223372036854775807 := by rw [bs_size, bs_size, List.length_append]; simp only [comma, List.length_cons, List.length_nil]; omega
          have hsum0 : (bs (lineB (l.take k))).size + (⟨#[44, 32]⟩ : ByteArray).size ≤ 9223372036854775807 := by
            have : (⟨#[44, 32]⟩ : ByteArray).size = 2 := rfl
            rw [bs_size, this]; omega
          have hcat0 : bs (lineB (l.take k)) ++ (⟨#[44, 32]⟩ : ByteArray) = bs (lineB (l.take k) ++ comma) := bs_append _ comma
          have hcat : bs (lineB (l.take k) ++ comma) ++ bs (printV x) = bs (lineB (l.take k) ++ comma ++ printV x) := bs_append _ _
          have HLN2 : Hid ((if k = 0 then bs (printV x) else bs (lineB (l.take k) ++ comma ++ printV x)) = bs (lineB (l.take (k + 1)))) := by
            show _ = _
            rw [hln]
            split <;> simp
          have hz1 : (⟨#[]⟩ : ByteArray) ++ bs (printV x) = bs (printV x) := bs_append [] _
          have hz2 : (⟨#[]⟩ : ByteArray).size + (bs (printV x)).size ≤ 9223372036854775807 := by
            have : (⟨#[]⟩ : ByteArray).size = 0 := rfl
            rw [bs_size, this]; omega
          clear hln hl1 hl2 hl3 hbr hx
          cases hr : x.right
          · rw [hr] at HR
            have hpn2 := hpn hr
            rw [hpn2] at HPV HLN2 hcat hsum hz1 hz2
            have qe : ((⟨#[]⟩ : ByteArray).toList == (⟨#[]⟩ : ByteArray).toList) = true := by simp
            rw [bs_nil] at HPV hcat hsum hz1 hz2
            clear hpn hpv hrp hpn2 hr
            by_cases hk0 : k = 0
            · subst hk0
              rw [if_pos rfl, bs_nil] at HLN2
              simp only [Nat.zero_mul, Nat.add_zero] at e0 e1 e2 HE
              have hq0 : bs (lineB (l.take 0)) = ⟨#[]⟩ := rfl
              rw [hq0]
              clear hcat hcat0 hsum hsum0 hq0
              go_wp2_with fail
              refine (HR.out _).mono ?_
              rintro e w2 ⟨rfl, hb2⟩
              obtain ⟨f0, f1, f2⟩ := HE.out w2 hb2
              rw [e0] at f0
              rw [e1] at f1
              rw [e2] at f2
              have HB2 := Lib.hid (HBR.out.trans (hb2.mono HBR.out.size))
              have HX2 := Lib.hid hb2
              clear hb2
              go_wp2_with fail
              refine (HPV.out _ (HM.out.below HB2.out)).mono ?_
              rintro e w4 ⟨rfl, hb4⟩
              have HB4 := Lib.hid (HB2.out.trans (hb4.mono HB2.out.size))
              clear hb4
              go_wp2
              go_roundw
              case rel => exact ⟨1, by go_num, by omega, by rw [HLN2.out], HB4.out⟩
              case measure => (simp [intOf]) <;> omega
            · have hk1 : (0 : Int) < (k : Int) := by omega
              rw [if_neg hk0] at HLN2
              generalize bs (lineB (l.take k) ++ comma ++ []) = L3 at *
              generalize bs (lineB (l.take k) ++ comma) = L2 at *
              generalize bs (lineB (l.take k)) = L1 at *
              clear hk0
              go_wp2_with fail
              refine (HR.out _).mono ?_
              rintro e w2 ⟨rfl, hb2⟩
              obtain ⟨f0, f1, f2⟩ := HE.out w2 hb2
              rw [e0] at f0
              rw [e1] at f1
              rw [e2] at f2
              have HB2 := Lib.hid (HBR.out.trans (hb2.mono HBR.out.size))
              have HX2 := Lib.hid hb2
              clear hb2
              go_wp2_with fail
              refine (HPV.out _ (HM.out.below HB2.out)).mono ?_
              rintro e w4 ⟨rfl, hb4⟩
              have HB4 := Lib.hid (HB2.out.trans (hb4.mono HB2.out.size))
              clear hb4
              go_wp2
              go_roundw
              case rel => exact ⟨k + 1, by go_num, by omega, by rw [HLN2.out], HB4.out⟩
              case measure => (simp [intOf]) <;> omega
          · rw [hr] at HR
            have HRP := Lib.hid (hrp hr)
            rw [hx', hpv hr] at HRP
            have qe : ((bs (printV x)).toList == (bs (printV x)).toList) = true := by simp
            clear hpn hpv hrp hr
            by_cases hk0 : k = 0
            · subst hk0
              rw [if_pos rfl] at HLN2
              simp only [Nat.zero_mul, Nat.add_zero] at e0 e1 e2 HE
              have hq0 : bs (lineB (l.take 0)) = ⟨#[]⟩ := rfl
              rw [hq0]
              generalize bs (printV x) = PV at *
              clear hcat hcat0 hsum hsum0 hq0
              go_wp2_with fail
              refine (HR.out _).mono ?_
              rintro e w2 ⟨rfl, hb2⟩
              obtain ⟨f0, f1, f2⟩ := HE.out w2 hb2
              rw [e0] at f0
              rw [e1] at f1
              rw [e2] at f2
              have HB2 := Lib.hid (HBR.out.trans (hb2.mono HBR.out.size))
              have HX2 := Lib.hid hb2
              clear hb2
              go_wp2_with fail
              refine (HRP.out _).mono ?_
              rintro e w3 ⟨rfl, hb3⟩
              obtain ⟨g0, g1, g2⟩ := HE.out w3 (HX2.out.trans (hb3.mono HX2.out.size))
              rw [e0] at g0
              rw [e1] at g1
              rw [e2] at g2
              have HB3 := Lib.hid (HB2.out.trans (hb3.mono HB2.out.size))
              clear hb3
              go_wp2_with fail
              refine (HPV.out _ (HM.out.below HB3.out)).mono ?_
              rintro e w4 ⟨rfl, hb4⟩
              have HB4 := Lib.hid (HB3.out.trans (hb4.mono HB3.out.size))
              clear hb4
              go_wp2
              go_roundw
              case rel => exact ⟨1, by go_num, by omega, by rw [HLN2.out], HB4.out⟩
              case measure => (simp [intOf]) <;> omega
            · have hk1 : (0 : Int) < (k : Int) := by omega
              rw [if_neg hk0] at HLN2
              generalize bs (lineB (l.take k) ++ comma ++ printV x) = L3 at *
              generalize bs (lineB (l.take k) ++ comma) = L2 at *
              generalize bs (lineB (l.take k)) = L1 at *
              generalize bs (printV x) = PV at *
              clear hk0
              go_wp2_with fail
              refine (HR.out _).mono ?_
              rintro e w2 ⟨rfl, hb2⟩
              obtain ⟨f0, f1, f2⟩ := HE.out w2 hb2
              rw [e0] at f0
              rw [e1] at f1
              rw [e2] at f2
              have HB2 := Lib.hid (HBR.out.trans (hb2.mono HBR.out.size))
              have HX2 := Lib.hid hb2
              clear hb2
              go_wp2_with fail
              refine (HRP.out _).mono ?_
              rintro e w3 ⟨rfl, hb3⟩
              obtain ⟨g0, g1, g2⟩ := HE.out w3 (HX2.out.trans (hb3.mono HX2.out.size))
              rw [e0] at g0
              rw [e1] at g1
              rw [e2] at g2
              have HB3 := Lib.hid (HB2.out.trans (hb3.mono HB2.out.size))
              clear hb3
              go_wp2_with fail
              refine (HPV.out _ (HM.out.below HB3.out)).mono ?_
              rintro e w4 ⟨rfl, hb4⟩
              have HB4 := Lib.hid (HB3.out.trans (hb4.mono HB3.out.size))
              clear hb4
              go_wp2
              go_roundw
              case rel => exact ⟨k + 1, by go_num, by omega, by rw [HLN2.out], HB4.out⟩
              case measure => (simp [intOf]) <;> omega
        · obtain rfl : k = l.length := by omega
          rw [List.take_length]
          have qe : ((bs (lineB l)).toList == (bs (lineB l)).toList) = true := by simp
          generalize bs (lineB l) = L at *
          have q3 : (ok == ok) = true := by simp
          have q4 : (on == on) = true := by simp
          have q5 : (os.toList == os.toList) = true := by simp
          clear hbr
          rcases hpe with rfl | rfl
          · have hoe : decide ((0 : Int) = 0) = true := rfl
            rw [hoe] at HRP
            go_wp2_with fail
            refine (HP.out _ HBR.out).mono ?_
            rintro e w2 ⟨rfl, hb2⟩
            have hz2 := HBR.out.trans (hb2.mono HBR.out.size)
            have hz3 := hz2.alloc hz2.size (.cells #[.int .i64 ok, .int .i64 on, .string os] 27)
            have HB3 := Lib.hid hz3
            have HK3 := Lib.hid (Blk.new w2 27 [.int .i64 ok, .int .i64 on, .string os])
            clear hb2 hz2 hz3
            go_wp2_with fail
            refine (HRP.out _).mono ?_
            rintro e w4 ⟨rfl, hb4⟩
            have hz4 := HB3.out.trans (hb4.mono HB3.out.size)
            have hz5 := hz4.alloc hz4.size (.cells #[.int .i64 ok, .int .i64 on, .string os] 27)
            have HB5 := Lib.hid hz5
            have HK5 := Lib.hid ((HK3.out.below hb4).alloc (.cells #[.int .i64 ok, .int .i64 on, .string os] 27))
            have HK6 := Lib.hid (Blk.new w4 27 [.int .i64 ok, .int .i64 on, .string os])
            clear hb4 hz4 hz5
            go_wp2_with fail
            refine (HLN.out _ HB5.out).mono ?_
            rintro e w6 ⟨rfl, hb6⟩
            obtain ⟨a0, a1, a2, _⟩ := blk3 (HK5.out.below hb6)
            obtain ⟨b0, b1, b2, _⟩ := blk3 (HK6.out.below hb6)
            have HB6 := Lib.hid (HB5.out.trans (hb6.mono HB5.out.size))
            clear hb6
            go_wp2_with fail
            refine (HAW.out _ HB6.out).mono ?_
            rintro e w7 ⟨rfl, hb7⟩
            have HB7 := Lib.hid (HB6.out.trans (hb7.mono HB6.out.size))
            clear hb7
            go_wp2
            go_ret
            exact ⟨rfl, HB7.out⟩
          · have hoe : decide ((12 : Int) = 0) = false := rfl
            rw [hoe] at HRP
            go_wp2_with fail
            refine (HP.out _ HBR.out).mono ?_
            rintro e w2 ⟨rfl, hb2⟩
            have hz2 := HBR.out.trans (hb2.mono HBR.out.size)
            have hz3 := hz2.alloc hz2.size (.cells #[.int .i64 ok, .int .i64 on, .string os] 27)
            have HB3 := Lib.hid hz3
            have HK3 := Lib.hid (Blk.new w2 27 [.int .i64 ok, .int .i64 on, .string os])
            clear hb2 hz2 hz3
            go_wp2_with fail
            refine (HRP.out _).mono ?_
            rintro e w4 ⟨rfl, hb4⟩
            have hz4 := HB3.out.trans (hb4.mono HB3.out.size)
            have hz5 := hz4.alloc hz4.size (.cells #[.int .i64 ok, .int .i64 on, .string os] 27)
            have HB5 := Lib.hid hz5
            have HK5 := Lib.hid ((HK3.out.below hb4).alloc (.cells #[.int .i64 ok, .int .i64 on, .string os] 27))
            have HK6 := Lib.hid (Blk.new w4 27 [.int .i64 ok, .int .i64 on, .string os])
            clear hb4 hz4 hz5
            go_wp2_with fail
            refine (HLN.out _ HB5.out).mono ?_
            rintro e w6 ⟨rfl, hb6⟩
            obtain ⟨a0, a1, a2, _⟩ := blk3 (HK5.out.below hb6)
            obtain ⟨b0, b1, b2, _⟩ := blk3 (HK6.out.below hb6)
            have HB6 := Lib.hid (HB5.out.trans (hb6.mono HB5.out.size))
            clear hb6
            go_wp2_with fail
            refine (HAW.out _ HB6.out).mono ?_
            rintro e w7 ⟨rfl, hb7⟩
            have HB7 := Lib.hid (HB6.out.trans (hb7.mono HB6.out.size))
            clear hb7
            go_wp2
            go_ret
            exact ⟨rfl, HB7.out⟩
    · have hd : decide ((600 : Int) < (s.size : Int)) = true := decide_eq_true (by omega)
      clear hga
      go_enter Tryd.func10, Tryd.ntmps10
      go_wp2_with fail
      refine (HGa.out _ (Below.refl _ _)).mono ?_
      rintro e w1 ⟨rfl, hb1⟩
      have HB1 := Lib.hid hb1
      clear hb1 HGa
      go_wp2_with fail
      refine (HAW.out _ HB1.out).mono ?_
      rintro e w3 ⟨rfl, hb3⟩
      have HB3 := Lib.hid (HB1.out.trans (hb3.mono HB1.out.size))
      clear hb3
      go_wp2
      go_ret
      exact ⟨rfl, HB3.out⟩
  · rw [hga] at HGa
    clear hga
    go_enter Tryd.func10, Tryd.ntmps10
    go_wp2_with fail
    refine (HGa.out _ (Below.refl _ _)).mono ?_
    rintro e w1 ⟨rfl, hb1⟩
    have HB1 := Lib.hid hb1
    clear hb1 HGa
    go_wp2_with fail
    refine (HAW.out _ HB1.out).mono ?_
    rintro e w3 ⟨rfl, hb3⟩
    have HB3 := Lib.hid (HB1.out.trans (hb3.mono HB1.out.size))
    clear hb3
    go_wp2
    go_ret
    exact ⟨rfl, HB3.out⟩
end Go.Proofs.YtlgohkdckdnmhaaDoor
