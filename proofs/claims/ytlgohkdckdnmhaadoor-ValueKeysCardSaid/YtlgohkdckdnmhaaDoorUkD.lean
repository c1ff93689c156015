/- The row of a key: the walk of the document's Unkey. -/
import Derived.Test.YtlgohkdckdnmhaaDoorUkDh
namespace Go.Proofs.YtlgohkdckdnmhaaDoor
open Go.RowKit Go.Afx

set_option maxRecDepth 100000 in
set_option maxHeartbeats 40000000 in
theorem refunkey_any (w : World) (s : ByteArray) (l : List UInt8) (hs : s.data.toList = l) (hl : l.length ≤ 9000) :
    Calls Tryd.prog 26 #[.string s] w (UnkOut w (unkB l)) := by
  obtain ⟨tot, htot⟩ : ∃ tot, unkB l = tot := ⟨_, rfl⟩
  rw [htot]
  have HTOT := Lib.hid htot
  have hss : s = bs l := by rw [← hs]; rfl
  subst hss
  clear hs htot
  go_enter Tryd.func26, Tryd.ntmps26
  go_wp2
  go_loopw [0, 4] (fun s v wr => ∃ rest : List UInt8, s = .string (bs rest) ∧ rest.length ≤ 9000 ∧ UnkSt w tot l.length rest v wr) (fun s _ _ => strLen s)
  case atStart =>
    refine ⟨l, rfl, hl, [], l.length + 1, Own.nil _ _ _, by simp [Value.ownBlock], ?_, by omega, by simp, Below.refl _ _⟩
    rw [← HTOT.out]
    unfold unkB
    cases unkF (l.length + 1) l <;> simp
  case round =>
    obtain ⟨rest, rfl, hrl, acc, f, hown, hnew, hacc, hf, hN, hbr⟩ := hrel
    obtain ⟨wo, rfl⟩ : ∃ wo : World, wo = wr := ⟨_, rfl⟩
    obtain ⟨pv, cv, rfl, hcv1, hcv2⟩ := own_form3 hown
    have HOWN := Lib.hid hown
    have HNEW := Lib.hid hnew
    have HBR := Lib.hid hbr
    have HACC := Lib.hid hacc
    clear hown hnew hbr hacc
    obtain ⟨f, rfl⟩ : ∃ g, f = g + 1 := ⟨f - 1, by omega⟩
    cases rest with
    | nil =>
      have hz : (bs []).size = 0 := rfl
      have hac := HACC.out
      have HT : Hid (tot = some acc) := by
        show _ = _
        rw [← hac]; simp [unkF]
      clear hac
      generalize bs [] = S at *
      go_wp2
      exact bodyPost_ret (v := .tuple #[.slice pv acc.length cv, .bool true]) (by simp [results, Tryd.results26, go_sem]) rfl ⟨HBR.out, .inr ⟨acc, _, HT.out, rfl, HOWN.out.sl HNEW.out⟩⟩
    | cons c t =>
      have hac : NextOf tot acc f (stepK (c :: t)) := by
        have := HACC.out
        rw [unkF] at this
        exact this
      rw [← ref_step] at hac
      have hrs : refStep (c :: t) = match refCand (c :: t) with
        | none => none
        | some v => chkP v (c :: t) := rfl
      rw [hrs, refCand_cons] at hac
      have hSd := bs_data (c :: t)
      have hSs := bs_size (c :: t)
      obtain ⟨S, hS⟩ : ∃ S, bs (c :: t) = S := ⟨_, rfl⟩
      rw [hS] at hSd hSs
      rw [hS]
      have h0s : 0 < S.size := by rw [hSs]; simp
      have hg0 : (S[0]'h0s) = c := by
        have := get_list S _ hSd 0 h0s (by simp)
        rwa [List.getElem_cons_zero] at this
      have HG := Lib.hid (get_list S _ hSd)
      have HSD := Lib.hid hSd
      have hSl : S.size ≤ 9000 := by omega
      have hci : ((S[0]'h0s).toNat : Int) = (c.toNat : Int) := by rw [hg0]
      obtain ⟨w1, hw1⟩ : ∃ w1, wo.alloc (.cells #[.int .i64 (c.toNat : Int), .int .i64 0, .string ⟨#[]⟩] 27) = w1 := ⟨_, rfl⟩
      have hbw1 : Below wo.heap.size wo w1 := by rw [← hw1]; exact (Below.refl _ _).alloc (Nat.le_refl _) _
      have hbk1 : Blk w1 wo.heap.size 27 [.int .i64 (c.toNat : Int), .int .i64 0, .string ⟨#[]⟩] := by rw [← hw1]; exact Blk.new wo _ _
      have hsz1 : w1.heap.size = wo.heap.size + 1 := by rw [← hw1]; simp
      have HX1 := Lib.hid hbw1
      have HK1 := Lib.hid hbk1
      have HZ1 := Lib.hid hsz1
      have HSS := Lib.hid hSs
      clear HACC hbw1 hbk1 hsz1 hrs hSs
      by_cases h1 : c = 1 ∧ 8 ≤ t.length
      · rw [if_pos h1] at hac
        obtain ⟨rfl, h8⟩ := h1
        simp only at hac
        have hz1 : (((S[0]'h0s).toNat : Int) == 1) = true := by rw [hg0]; rfl
        have h9 : 9 ≤ S.size := by rw [HSS.out, List.length_cons]; omega
        have hd9 : decide ((9 : Int) ≤ (S.size : Int)) = true := decide_eq_true (by omega)
        have hl8 : (t.take 8).length = 8 := by rw [List.length_take]; omega
        have hge : Hid (∀ k (h1 : k + 1 < S.size) (h : k < (t.take 8).length), (S[k + 1]'h1).toNat = ((t.take 8)[k]'h).toNat) := fun k h1 h => by
          rw [hl8] at h
          rw [HG.out (k + 1) (by omega) (by rw [List.length_cons]; omega), List.getElem_cons_succ, List.getElem_take]
        have HQ0 : Hid (keyB ⟨1, dn64 (valB (t.take 8)), ⟨#[]⟩⟩ ≠ []) := fun e => by cases e
        have hrf : fit64 (dn64 (valB (t.take 8))) := by
          have hlt := valB_lt (t.take 8)
          rw [hl8] at hlt
          exact dn_fit _ hlt
        have HFX := Lib.hid hrf
        have hc1 : ((1 : UInt8).toNat : Int) = 1 := rfl
        rw [hc1] at HK1 hw1 hci
        generalize t.take 8 = b8 at *
        have HL8 := Lib.hid hl8
        clear hl8 h8 hrf hc1
        have HW1 := Lib.hid hw1
        clear hw1
        go_wp2
        rw [HW1.out]
        go_loopw [6, 7] (fun u i wr => ∃ k : Nat, i = .int .i64 ((k : Int) + 1) ∧ k ≤ 8 ∧ u = .int .u64 (valB (b8.take k) : Nat) ∧ wr = w1) (fun _ i _ => 9 - (intOf i).toNat)
        case atStart => exact ⟨0, rfl, by omega, rfl, rfl⟩
        case round =>
          obtain ⟨k, rfl, hk, rfl, rfl⟩ := hrel
          by_cases hk8 : k < 8
          · have hkl : k < b8.length := by rw [HL8.out]; exact hk8
            have hks : k + 1 < S.size := by omega
            have hgk := hge.out k hks hkl
            have hv : valB (b8.take (k + 1)) = valB (b8.take k) * 256 + b8[k].toNat := by
              rw [← List.take_append_getElem hkl, valB_snoc]
            have hlt := valB_lt (b8.take k)
            rw [List.length_take, HL8.out, Nat.min_eq_left hk] at hlt
            have hlt2 : valB (b8.take k) < 72057594037927936 := by
              have : 256 ^ k ≤ 256 ^ 7 := Nat.pow_le_pow_right (by omega) (by omega)
              have h7 : 256 ^ 7 = 72057594037927936 := by decide
              omega
            have hcb := b8[k].toNat_lt
            have hgi : ((S[k + 1]'hks).toNat : Int) = (b8[k].toNat : Int) := by rw [hgk]
            generalize hu2 : valB (b8.take (k + 1)) = u2 at *
            have HU2 := Lib.hid hu2
            generalize valB (b8.take k) = u at *
            clear hge
            generalize b8[k].toNat = d at *
            clear hu2 hlt hgk
            go_wp2
            refine ⟨⟨k + 1, by go_num, by omega, ?_, trivial⟩, by (simp [intOf]) <;> omega⟩
            rw [HU2.out, hv]
            congr 1
            omega
          · obtain rfl : k = 8 := by omega
            have hlt := valB_lt b8
            rw [HL8.out] at hlt
            have htk : b8.take 8 = b8 := List.take_of_length_le (by rw [HL8.out]; omega)
            rw [htk]
            have hx : IntKind.i64.wrap (IntKind.u64.wrap ((valB b8 : Int) - 9223372036854775808)) = dn64 (valB b8) := by
              rw [IntKind.wrap_u64, IntKind.wrap_i64]; unfold dn64; omega
            generalize valB b8 = u at *
            generalize hn : dn64 u = n at *
            clear hlt htk hge hn
            obtain ⟨a0, a1, a2, af⟩ := blk3 HK1.out
            have BK := Lib.hid (HK1.out.set 1 (.int .i64 n))
            have HX5 := Lib.hid (HX1.out.setCell (p := ⟨wo.heap.size, 1, none⟩) (by simp) (.int .i64 n))
            have hr := fun w => refright w ⟨1, n, ⟨#[]⟩⟩
            have hky := fun h w => refkey_any w ⟨1, n, ⟨#[]⟩⟩ h HFX.out
            simp only [AV.agg] at hr hky
            obtain ⟨b0, b1, b2, bf⟩ := blk3 BK.out
            cases hrt : AV.right ⟨1, n, ⟨#[]⟩⟩
            · rw [hrt] at hr
              have hch : chkP ⟨1, n, ⟨#[]⟩⟩ (1 :: t) = none := by unfold chkP; rw [hrt]; rfl
              rw [hch] at hac
              have HTN := Lib.hid hac.none'
              have HR := Lib.hid hr
              clear hr hky hac hch hrt
              as_aux_lemma =>
                go_wp2_with fail
                refine (HR.out _).mono ?_
                rintro e w7 ⟨rfl, hb7⟩
                have HX7 := Lib.hid (HX5.out.trans (hb7.mono HX5.out.size))
                clear hb7
                go_wp2
                exact bodyPost_ret (v := .tuple #[.slice none 0 0, .bool false]) (by simp [results, Tryd.results26, go_sem]) rfl ⟨HBR.out.trans (HX7.out.mono HBR.out.size), .inl ⟨HTN.out, rfl⟩⟩
            · rw [hrt] at hr
              have hkl := keyB_length ⟨1, n, ⟨#[]⟩⟩ hrt
              have HR := Lib.hid hr
              have HKY := Lib.hid (hky hrt)
              have hch : chkP ⟨1, n, ⟨#[]⟩⟩ (1 :: t) = if (keyB ⟨1, n, ⟨#[]⟩⟩).isPrefixOf (1 :: t) = true then some (⟨1, n, ⟨#[]⟩⟩, (1 :: t).drop (keyB ⟨1, n, ⟨#[]⟩⟩).length) else none := by unfold chkP; rw [hrt, Bool.true_and]
              rw [hch] at hac
              clear hr hky hch hrt
              generalize keyB ⟨1, n, ⟨#[]⟩⟩ = q at *
              have hqs := bs_size q
              have HQS := Lib.hid hqs
              have hSs := HSS.out
              by_cases hlen : q.length ≤ (1 :: t).length
              · have hd1 : decide ((S.size : Int) < ((bs q).size : Int)) = false := decide_eq_false (by omega)
                have hqS : (bs q).size ≤ S.size := by omega
                have hpre : ((S.extract 0 (bs q).size).toList == (bs q).toList) = q.isPrefixOf (1 :: t) := by
                  rw [ByteArray.toList_eq, Lib.extract_data, HSD.out, bs_toList, hqs, List.drop_zero, Nat.sub_zero, Bool.eq_iff_iff, beq_iff_eq, List.isPrefixOf_iff_prefix, List.prefix_iff_eq_take]
                  exact eq_comm
                have hdr : S.extract (bs q).size S.size = bs ((1 :: t).drop q.length) := by rw [hqs]; exact ext_drop S _ HSD.out q.length
                have hks : ∀ W : World, (Instr.slice 9 (.string S) (some (.int .i64 ((bs q).size : Int))) none none).run Tryd.prog W = .ok (.string (bs ((1 :: t).drop q.length))) W := fun W => by
                  rw [← hdr]; exact slice_from S _ hqS W
                clear hdr
                cases hp : q.isPrefixOf (1 :: t)
                · rw [hp] at hac hpre
                  rw [if_neg (by decide)] at hac
                  have HTN := Lib.hid hac.none'
                  clear hac hp hlen hks hqs hSs
                  generalize bs q = Q at *
                  as_aux_lemma =>
                    go_wp2_with fail
                    refine (HR.out _).mono ?_
                    rintro e w7 ⟨rfl, hb7⟩
                    obtain ⟨c0, c1, c2, cf⟩ := blk3 (BK.out.below hb7)
                    have HX7 := Lib.hid (HX5.out.trans (hb7.mono HX5.out.size))
                    clear hb7
                    go_wp2_with fail
                    refine (HKY.out _).mono ?_
                    rintro e w8 ⟨rfl, hb8⟩
                    have HX8 := Lib.hid (HX7.out.trans (hb8.mono HX7.out.size))
                    clear hb8
                    go_wp2
                    exact bodyPost_ret (v := .tuple #[.slice none 0 0, .bool false]) (by simp [results, Tryd.results26, go_sem]) rfl ⟨HBR.out.trans (HX8.out.mono HBR.out.size), .inl ⟨HTN.out, rfl⟩⟩
                · rw [hp] at hac hpre
                  rw [if_pos rfl] at hac
                  have hq0 : 0 < q.length := by
                    cases q with
                    | nil => exact absurd HQ0.out (by decide)
                    | cons a b => simp
                  have hrb := bs_size ((1 :: t).drop q.length)
                  have hrd : ((1 :: t).drop q.length).length = (1 :: t).length - q.length := List.length_drop
                  have HA2 := Lib.hid hac.some'
                  clear hac hp hlen hqs hSs
                  generalize hrr : (1 :: t).drop q.length = r at *
                  generalize hR : bs r = R at *
                  have HRR := Lib.hid hR
                  clear hR hrr
                  generalize bs q = Q at *
                  as_aux_lemma =>
                    go_wp2_with fail
                    refine (HR.out _).mono ?_
                    rintro e w7 ⟨rfl, hb7⟩
                    have HK7 := Lib.hid (BK.out.below hb7)
                    have HX7 := Lib.hid (HX5.out.trans (hb7.mono HX5.out.size))
                    clear hb7
                    obtain ⟨c0, c1, c2, cf⟩ := blk3 HK7.out
                    go_wp2_with fail
                    refine (HKY.out _).mono ?_
                    rintro e w8 ⟨rfl, hb8⟩
                    obtain ⟨d0, d1, d2, df⟩ := blk3 (HK7.out.below hb8)
                    have HX8 := Lib.hid (HX7.out.trans (hb8.mono HX7.out.size))
                    clear hb8
                    have hal5 : Below wo.heap.size wo (w8.alloc (.cells #[.int .i64 1, .int .i64 n, .string ⟨#[]⟩] 27)) := HX8.out.alloc HX8.out.size _
                    have ho1 := HOWN.out.below hal5
                    have hs1 := one_av w8 ⟨1, n, ⟨#[]⟩⟩
                    have HX9 := Lib.hid hal5
                    clear hal5
                    go_wp2_with (at_builtin; refine wpList_app rfl _ _ rfl elemAV (by rfl) ho1 (by rfl) hs1 (by unfold maxLen; omega) (by omega) ?_; intro v1 w9 g1 g2 g3 g4 g5; clear ho1 hs1; have G1 := Lib.hid g1; have G2 := Lib.hid g2; have G3 := Lib.hid g3; clear g1 g2 g3 g4 g5)
                    have hSs := HSS.out
                    rw [List.length_cons] at hrl hN hf hrd hSs
                    have h8 := HX8.out.size
                    have h9 : w.heap.size ≤ wo.heap.size := HBR.out.size
                    refine ⟨⟨r, by rw [HRR.out], by omega, acc ++ [⟨1, n, ⟨#[]⟩⟩], f, ?_, fun z hz => ?_, HA2.out, by omega, by rw [List.length_append]; simp only [List.length_cons, List.length_nil]; omega, ?_⟩, by show R.size < S.size; omega⟩
                    · rw [List.length_append, rowCells_append]; exact G1.out
                    · rcases G3.out with h | h
                      · rw [h] at hz; exact HNEW.out z hz
                      · rw [h] at hz
                        have : w8.heap.size + 1 = z := by simpa using hz
                        omega
                    · exact (HBR.out.trans (HX9.out.mono HBR.out.size)).trans (G2.out.below (by have := HX9.out.size; omega) (fun z hz => HNEW.out z hz))
              · have hd1 : decide ((S.size : Int) < ((bs q).size : Int)) = true := decide_eq_true (by omega)
                have hnq : S.size < (bs q).size := by omega
                have hp : q.isPrefixOf (1 :: t) = false := by
                  rw [Bool.eq_false_iff]
                  intro hp
                  exact hlen (List.isPrefixOf_iff_prefix.1 hp).length_le
                rw [hp, if_neg (by decide)] at hac
                have HTN := Lib.hid hac.none'
                clear hac hp hlen hqs hSs
                generalize bs q = Q at *
                as_aux_lemma =>
                  go_wp2_with fail
                  refine (HR.out _).mono ?_
                  rintro e w7 ⟨rfl, hb7⟩
                  obtain ⟨c0, c1, c2, cf⟩ := blk3 (BK.out.below hb7)
                  have HX7 := Lib.hid (HX5.out.trans (hb7.mono HX5.out.size))
                  clear hb7
                  go_wp2_with fail
                  refine (HKY.out _).mono ?_
                  rintro e w8 ⟨rfl, hb8⟩
                  have HX8 := Lib.hid (HX7.out.trans (hb8.mono HX7.out.size))
                  clear hb8
                  go_wp2
                  exact bodyPost_ret (v := .tuple #[.slice none 0 0, .bool false]) (by simp [results, Tryd.results26, go_sem]) rfl ⟨HBR.out.trans (HX8.out.mono HBR.out.size), .inl ⟨HTN.out, rfl⟩⟩
      · rw [if_neg h1] at hac
        by_cases h2 : c = 2
        · subst h2
          rw [if_pos rfl] at hac
          simp only at hac
          have hz1 : (((S[0]'h0s).toNat : Int) == 1) = false := by rw [hg0]; rfl
          have hz2 : (((S[0]'h0s).toNat : Int) == 2) = true := by rw [hg0]; rfl
          have hc2 : ((2 : UInt8).toNat : Int) = 2 := rfl
          rw [hc2] at HK1 hw1 hci
          have HSC0 : Hid (scanF ((2 :: t).drop 1) = scanF t) := rfl
          have HW1 := Lib.hid hw1
          have HLN : Hid (S.size = (2 :: t).length) := HSS.out
          clear hw1 h1 hc2
          generalize hL : 2 :: t = L at *
          have HLL := Lib.hid hL
          clear hL
          go_wp2
          rw [HW1.out]
          go_loopw [8, 9] (fun v i wr => ∃ (k : Nat) (a2 : List UInt8), i = .int .i64 k ∧ 1 ≤ k ∧ k ≤ S.size ∧ Own wr 5 1 v a2.length (by8 a2) ∧ (∀ q, v.ownBlock = some q → wo.heap.size < q) ∧ a2 ++ scanF (L.drop k) = scanF t ∧ a2.length ≤ k ∧ Below w1.heap.size w1 wr) (fun _ i _ => S.size - (intOf i).toNat)
          case atStart => exact ⟨1, [], rfl, Nat.le_refl _, h0s, Own.nil _ _ _, by simp [Value.ownBlock], HSC0.out, Nat.zero_le _, Below.refl _ _⟩
          case round =>
            obtain ⟨k, a2, rfl, hk1, hk, hown, hnew, hsc, hal, hbr⟩ := hrel
            obtain ⟨p2, cv2, rfl, hcv3, hcv4⟩ := own_form hown
            have HOWN2 := Lib.hid hown
            have HNEW2 := Lib.hid hnew
            have HBR2 := Lib.hid hbr
            have HSCN := Lib.hid hsc
            have HKB := Lib.hid (HK1.out.below hbr)
            have HXB := Lib.hid (HX1.out.trans (hbr.mono HX1.out.size))
            have hln := HLN.out
            clear hown hnew hbr hsc
            by_cases hka : k + 1 < S.size
            · have hks : k < S.size := by omega
              have hki : (k : Int) + 1 < (S.size : Int) := by omega
              have hn0 := scan_next L k (by omega)
              have hs0 := HSCN.out
              rw [hn0] at hs0
              have hg1 : (S[k]'hks) = L[k]'(by omega) := HG.out k hks (by omega)
              have hg2 : (S[k + 1]'hka) = L[k + 1]'(by omega) := HG.out (k + 1) hka (by omega)
              obtain ⟨a, ha⟩ : ∃ a, L[k]'(by omega) = a := ⟨_, rfl⟩
              obtain ⟨b, hb⟩ : ∃ b, L[k + 1]'(by omega) = b := ⟨_, rfl⟩
              rw [ha] at hg1
              rw [hb] at hg2
              rw [ha, hb] at hs0
              clear hn0
              by_cases ha0 : a = 0
              · have hza : (((S[k]'hks).toNat : Int) == 0) = true := by rw [hg1, ha0]; rfl
                by_cases hb1 : b = 1
                · have hzb : (((S[k + 1]'hka).toNat : Int) == 1) = true := by rw [hg2, hb1]; rfl
                  rw [if_pos ⟨ha0, hb1⟩, List.append_nil] at hs0
                  clear ha hb ha0 hb1 hg1 hg2 hln
                  have HQ0 : Hid (keyB ⟨2, 0, bs a2⟩ ≠ []) := fun e => by cases e
                  rw [← hs0] at hac
                  have HFX : Hid (fit64 0) := by show fit64 0; simp [fit64]
                  have kc := sl_string wr (fun _ => True) _ a2 (HOWN2.out.sl (fun _ _ => trivial))
                  have hba : (⟨a2.toArray⟩ : ByteArray) = bs a2 := rfl
                  rw [hba] at kc
                  obtain ⟨a0, a1, a3, af⟩ := blk3 HKB.out
                  have BK := Lib.hid (HKB.out.set 2 (.string (bs a2)))
                  have HX5 := Lib.hid (HXB.out.setCell (p := ⟨wo.heap.size, 2, none⟩) (by simp) (.string (bs a2)))
                  rw [← HLL.out] at hac
                  clear hs0 hba
                  generalize bs a2 = U at *
                  rw [HLL.out] at hac
                  have hr := fun w => refright w ⟨2, 0, U⟩
                  have hky := fun h w => refkey_any w ⟨2, 0, U⟩ h HFX.out
                  simp only [AV.agg] at hr hky
                  obtain ⟨b0, b1, b2, bf⟩ := blk3 BK.out
                  cases hrt : AV.right ⟨2, 0, U⟩
                  · rw [hrt] at hr
                    have hch : chkP ⟨2, 0, U⟩ L = none := by unfold chkP; rw [hrt]; rfl
                    rw [hch] at hac
                    have HTN := Lib.hid hac.none'
                    have HR := Lib.hid hr
                    clear hr hky hac hch hrt
                    as_aux_lemma =>
                      go_wp2_with fail
                      refine (HR.out _).mono ?_
                      rintro e w7 ⟨rfl, hb7⟩
                      have HX7 := Lib.hid (HX5.out.trans (hb7.mono HX5.out.size))
                      clear hb7
                      go_wp2
                      exact bodyPost_ret (v := .tuple #[.slice none 0 0, .bool false]) (by simp [results, Tryd.results26, go_sem]) rfl ⟨HBR.out.trans (HX7.out.mono HBR.out.size), .inl ⟨HTN.out, rfl⟩⟩
                  · rw [hrt] at hr
                    have hkl := keyB_length ⟨2, 0, U⟩ hrt
                    have HR := Lib.hid hr
                    have HKY := Lib.hid (hky hrt)
                    have hch : chkP ⟨2, 0, U⟩ L = if (keyB ⟨2, 0, U⟩).isPrefixOf L = true then some (⟨2, 0, U⟩, L.drop (keyB ⟨2, 0, U⟩).length) else none := by unfold chkP; rw [hrt, Bool.true_and]
                    rw [hch] at hac
                    clear hr hky hch hrt
                    generalize keyB ⟨2, 0, U⟩ = q at *
                    have hqs := bs_size q
                    have HQS := Lib.hid hqs
                    have hSs := HSS.out
                    by_cases hlen : q.length ≤ L.length
                    · have hd1 : decide ((S.size : Int) < ((bs q).size : Int)) = false := decide_eq_false (by omega)
                      have hqS : (bs q).size ≤ S.size := by omega
                      have hpre : ((S.extract 0 (bs q).size).toList == (bs q).toList) = q.isPrefixOf L := by
                        rw [ByteArray.toList_eq, Lib.extract_data, HSD.out, bs_toList, hqs, List.drop_zero, Nat.sub_zero, Bool.eq_iff_iff, beq_iff_eq, List.isPrefixOf_iff_prefix, List.prefix_iff_eq_take]
                        exact eq_comm
                      have hdr : S.extract (bs q).size S.size = bs (L.drop q.length) := by rw [hqs]; exact ext_drop S _ HSD.out q.length
                      have hks : ∀ W : World, (Instr.slice 9 (.string S) (some (.int .i64 ((bs q).size : Int))) none none).run Tryd.prog W = .ok (.string (bs (L.drop q.length))) W := fun W => by
                        rw [← hdr]; exact slice_from S _ hqS W
                      clear hdr
                      cases hp : q.isPrefixOf L
                      · rw [hp] at hac hpre
                        rw [if_neg (by decide)] at hac
                        have HTN := Lib.hid hac.none'
                        clear hac hp hlen hks hqs hSs
                        generalize bs q = Q at *
                        as_aux_lemma =>
                          go_wp2_with fail
                          refine (HR.out _).mono ?_
                          rintro e w7 ⟨rfl, hb7⟩
                          obtain ⟨c0, c1, c2, cf⟩ := blk3 (BK.out.below hb7)
                          have HX7 := Lib.hid (HX5.out.trans (hb7.mono HX5.out.size))
                          clear hb7
                          go_wp2_with fail
                          refine (HKY.out _).mono ?_
                          rintro e w8 ⟨rfl, hb8⟩
                          have HX8 := Lib.hid (HX7.out.trans (hb8.mono HX7.out.size))
                          clear hb8
                          go_wp2
                          exact bodyPost_ret (v := .tuple #[.slice none 0 0, .bool false]) (by simp [results, Tryd.results26, go_sem]) rfl ⟨HBR.out.trans (HX8.out.mono HBR.out.size), .inl ⟨HTN.out, rfl⟩⟩
                      · rw [hp] at hac hpre
                        rw [if_pos rfl] at hac
                        have hq0 : 0 < q.length := by
                          cases q with
                          | nil => exact absurd HQ0.out (by decide)
                          | cons a b => simp
                        have hrb := bs_size (L.drop q.length)
                        have hrd : (L.drop q.length).length = L.length - q.length := List.length_drop
                        have HA2 := Lib.hid hac.some'
                        clear hac hp hlen hqs hSs
                        generalize hrr : L.drop q.length = r at *
                        generalize hR : bs r = R at *
                        have HRR := Lib.hid hR
                        clear hR hrr
                        generalize bs q = Q at *
                        as_aux_lemma =>
                          go_wp2_with fail
                          refine (HR.out _).mono ?_
                          rintro e w7 ⟨rfl, hb7⟩
                          have HK7 := Lib.hid (BK.out.below hb7)
                          have HX7 := Lib.hid (HX5.out.trans (hb7.mono HX5.out.size))
                          clear hb7
                          obtain ⟨c0, c1, c2, cf⟩ := blk3 HK7.out
                          go_wp2_with fail
                          refine (HKY.out _).mono ?_
                          rintro e w8 ⟨rfl, hb8⟩
                          obtain ⟨d0, d1, d2, df⟩ := blk3 (HK7.out.below hb8)
                          have HX8 := Lib.hid (HX7.out.trans (hb8.mono HX7.out.size))
                          clear hb8
                          have hal5 : Below wo.heap.size wo (w8.alloc (.cells #[.int .i64 2, .int .i64 0, .string U] 27)) := HX8.out.alloc HX8.out.size _
                          have ho1 := HOWN.out.below hal5
                          have hs1 := one_av w8 ⟨2, 0, U⟩
                          have HX9 := Lib.hid hal5
                          clear hal5
                          go_wp2_with (at_builtin; refine wpList_app rfl _ _ rfl elemAV (by rfl) ho1 (by rfl) hs1 (by unfold maxLen; omega) (by omega) ?_; intro v1 w9 g1 g2 g3 g4 g5; clear ho1 hs1; have G1 := Lib.hid g1; have G2 := Lib.hid g2; have G3 := Lib.hid g3; clear g1 g2 g3 g4 g5)
                          have hSs := HSS.out
                          have hLL := HLL.out
                          have h8 := HX8.out.size
                          have h9 : w.heap.size ≤ wo.heap.size := HBR.out.size
                          refine ⟨⟨r, by rw [HRR.out], by omega, acc ++ [⟨2, 0, U⟩], f, ?_, fun z hz => ?_, HA2.out, by omega, by rw [List.length_append]; simp only [List.length_cons, List.length_nil]; omega, ?_⟩, by show R.size < S.size; omega⟩
                          · rw [List.length_append, rowCells_append]; exact G1.out
                          · rcases G3.out with h | h
                            · rw [h] at hz; exact HNEW.out z hz
                            · rw [h] at hz
                              have : w8.heap.size + 1 = z := by simpa using hz
                              omega
                          · exact (HBR.out.trans (HX9.out.mono HBR.out.size)).trans (G2.out.below (by have := HX9.out.size; omega) (fun z hz => HNEW.out z hz))
                    · have hd1 : decide ((S.size : Int) < ((bs q).size : Int)) = true := decide_eq_true (by omega)
                      have hnq : S.size < (bs q).size := by omega
                      have hp : q.isPrefixOf L = false := by
                        rw [Bool.eq_false_iff]
                        intro hp
                        exact hlen (List.isPrefixOf_iff_prefix.1 hp).length_le
                      rw [hp, if_neg (by decide)] at hac
                      have HTN := Lib.hid hac.none'
                      clear hac hp hlen hqs hSs
                      generalize bs q = Q at *
                      as_aux_lemma =>
                        go_wp2_with fail
                        refine (HR.out _).mono ?_
                        rintro e w7 ⟨rfl, hb7⟩
                        obtain ⟨c0, c1, c2, cf⟩ := blk3 (BK.out.below hb7)
                        have HX7 := Lib.hid (HX5.out.trans (hb7.mono HX5.out.size))
                        clear hb7
                        go_wp2_with fail
                        refine (HKY.out _).mono ?_
                        rintro e w8 ⟨rfl, hb8⟩
                        have HX8 := Lib.hid (HX7.out.trans (hb8.mono HX7.out.size))
                        clear hb8
                        go_wp2
                        exact bodyPost_ret (v := .tuple #[.slice none 0 0, .bool false]) (by simp [results, Tryd.results26, go_sem]) rfl ⟨HBR.out.trans (HX8.out.mono HBR.out.size), .inl ⟨HTN.out, rfl⟩⟩
                · have hzb : (((S[k + 1]'hka).toNat : Int) == 1) = false := by
                    rw [hg2, beq_eq_false_iff_ne]
                    intro h
                    exact hb1 (UInt8.toNat_inj.1 (by show b.toNat = 1; omega))
                  rw [if_neg (fun h => hb1 h.2), if_pos ha0] at hs0
                  have hal2 : Below wr.heap.size wr (wr.alloc (.cells #[.int .u8 ((S[k]'hks).toNat : Int)] 5)) := (Below.refl _ _).alloc (Nat.le_refl _) _
                  have ho1 := HOWN2.out.below hal2
                  have hs1 := one_byte wr (S[k]'hks)
                  have HG0 := Lib.hid (Grew.start HOWN2.out)
                  have HAL2 := Lib.hid hal2
                  rw [← hg1] at hs0
                  have HS0 := Lib.hid hs0
                  have HZ := HZ1.out
                  clear hal2 ha hb ha0 hb1 hg1 hg2 hs0 hln
                  as_aux_lemma =>
                    go_wp2_with (at_builtin; refine wpList_app rfl _ _ rfl elemU8 (by rfl) ho1 (by rfl) hs1 (by unfold maxLen; omega) (by omega) ?_; intro v1 w7 g1 g2 g3 g4 g5; clear ho1 hs1; have G0 := Lib.hid (HG0.out.push HAL2.out g1 g2 g3 rfl rfl rfl); clear g1 g2 g3 g4 g5)
                    have h8 := HBR2.out.size
                    refine ⟨⟨k + 2, a2 ++ [S[k]'hks], by go_num, by omega, by omega, G0.out.1, fun q hq => ?_, ?_, by rw [List.length_append]; simp only [List.length_cons, List.length_nil]; omega, ?_⟩, by (simp [intOf]) <;> omega⟩
                    · rcases G0.out.2.2 q hq with h | h
                      · exact HNEW2.out q h
                      · omega
                    · rw [List.append_assoc]; exact HS0.out
                    · exact HBR2.out.trans (G0.out.2.1.below h8 (fun q hq => by have := HNEW2.out q hq; omega))
              · have hza : (((S[k]'hks).toNat : Int) == 0) = false := by
                  rw [hg1, beq_eq_false_iff_ne]
                  intro h
                  exact ha0 (UInt8.toNat_inj.1 (by show a.toNat = 0; omega))
                rw [if_neg (fun h => ha0 h.1), if_neg ha0] at hs0
                have hal2 : Below wr.heap.size wr (wr.alloc (.cells #[.int .u8 ((S[k]'hks).toNat : Int)] 5)) := (Below.refl _ _).alloc (Nat.le_refl _) _
                have ho1 := HOWN2.out.below hal2
                have hs1 := one_byte wr (S[k]'hks)
                have HG0 := Lib.hid (Grew.start HOWN2.out)
                have HAL2 := Lib.hid hal2
                rw [← hg1] at hs0
                have HS0 := Lib.hid hs0
                have HZ := HZ1.out
                clear hal2 ha hb ha0 hg1 hg2 hs0 hln
                as_aux_lemma =>
                  go_wp2_with (at_builtin; refine wpList_app rfl _ _ rfl elemU8 (by rfl) ho1 (by rfl) hs1 (by unfold maxLen; omega) (by omega) ?_; intro v1 w7 g1 g2 g3 g4 g5; clear ho1 hs1; have G0 := Lib.hid (HG0.out.push HAL2.out g1 g2 g3 rfl rfl rfl); clear g1 g2 g3 g4 g5)
                  have h8 := HBR2.out.size
                  refine ⟨⟨k + 1, a2 ++ [S[k]'hks], by go_num, by omega, by omega, G0.out.1, fun q hq => ?_, ?_, by rw [List.length_append]; simp only [List.length_cons, List.length_nil]; omega, ?_⟩, by (simp [intOf]) <;> omega⟩
                  · rcases G0.out.2.2 q hq with h | h
                    · exact HNEW2.out q h
                    · omega
                  · rw [List.append_assoc]; exact HS0.out
                  · exact HBR2.out.trans (G0.out.2.1.below h8 (fun q hq => by have := HNEW2.out q hq; omega))
            · have hki : ¬ ((k : Int) + 1 < (S.size : Int)) := by omega
              have hs0 := HSCN.out
              rw [scan_last L k (by omega), List.append_nil] at hs0
              clear hln
              have HQ0 : Hid (keyB ⟨2, 0, bs a2⟩ ≠ []) := fun e => by cases e
              rw [← hs0] at hac
              have HFX : Hid (fit64 0) := by show fit64 0; simp [fit64]
              have kc := sl_string wr (fun _ => True) _ a2 (HOWN2.out.sl (fun _ _ => trivial))
              have hba : (⟨a2.toArray⟩ : ByteArray) = bs a2 := rfl
              rw [hba] at kc
              obtain ⟨a0, a1, a3, af⟩ := blk3 HKB.out
              have BK := Lib.hid (HKB.out.set 2 (.string (bs a2)))
              have HX5 := Lib.hid (HXB.out.setCell (p := ⟨wo.heap.size, 2, none⟩) (by simp) (.string (bs a2)))
              rw [← HLL.out] at hac
              clear hs0 hba
              generalize bs a2 = U at *
              rw [HLL.out] at hac
              have hr := fun w => refright w ⟨2, 0, U⟩
              have hky := fun h w => refkey_any w ⟨2, 0, U⟩ h HFX.out
              simp only [AV.agg] at hr hky
              obtain ⟨b0, b1, b2, bf⟩ := blk3 BK.out
              cases hrt : AV.right ⟨2, 0, U⟩
              · rw [hrt] at hr
                have hch : chkP ⟨2, 0, U⟩ L = none := by unfold chkP; rw [hrt]; rfl
                rw [hch] at hac
                have HTN := Lib.hid hac.none'
                have HR := Lib.hid hr
                clear hr hky hac hch hrt
                as_aux_lemma =>
                  go_wp2_with fail
                  refine (HR.out _).mono ?_
                  rintro e w7 ⟨rfl, hb7⟩
                  have HX7 := Lib.hid (HX5.out.trans (hb7.mono HX5.out.size))
                  clear hb7
                  go_wp2
                  exact bodyPost_ret (v := .tuple #[.slice none 0 0, .bool false]) (by simp [results, Tryd.results26, go_sem]) rfl ⟨HBR.out.trans (HX7.out.mono HBR.out.size), .inl ⟨HTN.out, rfl⟩⟩
              · rw [hrt] at hr
                have hkl := keyB_length ⟨2, 0, U⟩ hrt
                have HR := Lib.hid hr
                have HKY := Lib.hid (hky hrt)
                have hch : chkP ⟨2, 0, U⟩ L = if (keyB ⟨2, 0, U⟩).isPrefixOf L = true then some (⟨2, 0, U⟩, L.drop (keyB ⟨2, 0, U⟩).length) else none := by unfold chkP; rw [hrt, Bool.true_and]
                rw [hch] at hac
                clear hr hky hch hrt
                generalize keyB ⟨2, 0, U⟩ = q at *
                have hqs := bs_size q
                have HQS := Lib.hid hqs
                have hSs := HSS.out
                by_cases hlen : q.length ≤ L.length
                · have hd1 : decide ((S.size : Int) < ((bs q).size : Int)) = false := decide_eq_false (by omega)
                  have hqS : (bs q).size ≤ S.size := by omega
                  have hpre : ((S.extract 0 (bs q).size).toList == (bs q).toList) = q.isPrefixOf L := by
                    rw [ByteArray.toList_eq, Lib.extract_data, HSD.out, bs_toList, hqs, List.drop_zero, Nat.sub_zero, Bool.eq_iff_iff, beq_iff_eq, List.isPrefixOf_iff_prefix, List.prefix_iff_eq_take]
                    exact eq_comm
                  have hdr : S.extract (bs q).size S.size = bs (L.drop q.length) := by rw [hqs]; exact ext_drop S _ HSD.out q.length
                  have hks : ∀ W : World, (Instr.slice 9 (.string S) (some (.int .i64 ((bs q).size : Int))) none none).run Tryd.prog W = .ok (.string (bs (L.drop q.length))) W := fun W => by
                    rw [← hdr]; exact slice_from S _ hqS W
                  clear hdr
                  cases hp : q.isPrefixOf L
                  · rw [hp] at hac hpre
                    rw [if_neg (by decide)] at hac
                    have HTN := Lib.hid hac.none'
                    clear hac hp hlen hks hqs hSs
                    generalize bs q = Q at *
                    as_aux_lemma =>
                      go_wp2_with fail
                      refine (HR.out _).mono ?_
                      rintro e w7 ⟨rfl, hb7⟩
                      obtain ⟨c0, c1, c2, cf⟩ := blk3 (BK.out.below hb7)
                      have HX7 := Lib.hid (HX5.out.trans (hb7.mono HX5.out.size))
                      clear hb7
                      go_wp2_with fail
                      refine (HKY.out _).mono ?_
                      rintro e w8 ⟨rfl, hb8⟩
                      have HX8 := Lib.hid (HX7.out.trans (hb8.mono HX7.out.size))
                      clear hb8
                      go_wp2
                      exact bodyPost_ret (v := .tuple #[.slice none 0 0, .bool false]) (by simp [results, Tryd.results26, go_sem]) rfl ⟨HBR.out.trans (HX8.out.mono HBR.out.size), .inl ⟨HTN.out, rfl⟩⟩
                  · rw [hp] at hac hpre
                    rw [if_pos rfl] at hac
                    have hq0 : 0 < q.length := by
                      cases q with
                      | nil => exact absurd HQ0.out (by decide)
                      | cons a b => simp
                    have hrb := bs_size (L.drop q.length)
                    have hrd : (L.drop q.length).length = L.length - q.length := List.length_drop
                    have HA2 := Lib.hid hac.some'
                    clear hac hp hlen hqs hSs
                    generalize hrr : L.drop q.length = r at *
                    generalize hR : bs r = R at *
                    have HRR := Lib.hid hR
                    clear hR hrr
                    generalize bs q = Q at *
                    as_aux_lemma =>
                      go_wp2_with fail
                      refine (HR.out _).mono ?_
                      rintro e w7 ⟨rfl, hb7⟩
                      have HK7 := Lib.hid (BK.out.below hb7)
                      have HX7 := Lib.hid (HX5.out.trans (hb7.mono HX5.out.size))
                      clear hb7
                      obtain ⟨c0, c1, c2, cf⟩ := blk3 HK7.out
                      go_wp2_with fail
                      refine (HKY.out _).mono ?_
                      rintro e w8 ⟨rfl, hb8⟩
                      obtain ⟨d0, d1, d2, df⟩ := blk3 (HK7.out.below hb8)
                      have HX8 := Lib.hid (HX7.out.trans (hb8.mono HX7.out.size))
                      clear hb8
                      have hal5 : Below wo.heap.size wo (w8.alloc (.cells #[.int .i64 2, .int .i64 0, .string U] 27)) := HX8.out.alloc HX8.out.size _
                      have ho1 := HOWN.out.below hal5
                      have hs1 := one_av w8 ⟨2, 0, U⟩
                      have HX9 := Lib.hid hal5
                      clear hal5
                      go_wp2_with (at_builtin; refine wpList_app rfl _ _ rfl elemAV (by rfl) ho1 (by rfl) hs1 (by unfold maxLen; omega) (by omega) ?_; intro v1 w9 g1 g2 g3 g4 g5; clear ho1 hs1; have G1 := Lib.hid g1; have G2 := Lib.hid g2; have G3 := Lib.hid g3; clear g1 g2 g3 g4 g5)
                      have hSs := HSS.out
                      have hLL := HLL.out
                      have h8 := HX8.out.size
                      have h9 : w.heap.size ≤ wo.heap.size := HBR.out.size
                      refine ⟨⟨r, by rw [HRR.out], by omega, acc ++ [⟨2, 0, U⟩], f, ?_, fun z hz => ?_, HA2.out, by omega, by rw [List.length_append]; simp only [List.length_cons, List.length_nil]; omega, ?_⟩, by show R.size < S.size; omega⟩
                      · rw [List.length_append, rowCells_append]; exact G1.out
                      · rcases G3.out with h | h
                        · rw [h] at hz; exact HNEW.out z hz
                        · rw [h] at hz
                          have : w8.heap.size + 1 = z := by simpa using hz
                          omega
                      · exact (HBR.out.trans (HX9.out.mono HBR.out.size)).trans (G2.out.below (by have := HX9.out.size; omega) (fun z hz => HNEW.out z hz))
                · have hd1 : decide ((S.size : Int) < ((bs q).size : Int)) = true := decide_eq_true (by omega)
                  have hnq : S.size < (bs q).size := by omega
                  have hp : q.isPrefixOf L = false := by
                    rw [Bool.eq_false_iff]
                    intro hp
                    exact hlen (List.isPrefixOf_iff_prefix.1 hp).length_le
                  rw [hp, if_neg (by decide)] at hac
                  have HTN := Lib.hid hac.none'
                  clear hac hp hlen hqs hSs
                  generalize bs q = Q at *
                  as_aux_lemma =>
                    go_wp2_with fail
                    refine (HR.out _).mono ?_
                    rintro e w7 ⟨rfl, hb7⟩
                    obtain ⟨c0, c1, c2, cf⟩ := blk3 (BK.out.below hb7)
                    have HX7 := Lib.hid (HX5.out.trans (hb7.mono HX5.out.size))
                    clear hb7
                    go_wp2_with fail
                    refine (HKY.out _).mono ?_
                    rintro e w8 ⟨rfl, hb8⟩
                    have HX8 := Lib.hid (HX7.out.trans (hb8.mono HX7.out.size))
                    clear hb8
                    go_wp2
                    exact bodyPost_ret (v := .tuple #[.slice none 0 0, .bool false]) (by simp [results, Tryd.results26, go_sem]) rfl ⟨HBR.out.trans (HX8.out.mono HBR.out.size), .inl ⟨HTN.out, rfl⟩⟩
        · rw [if_neg h2] at hac
          have hz2 : (((S[0]'h0s).toNat : Int) == 2) = false := by
            rw [hg0, beq_eq_false_iff_ne]
            intro h
            exact h2 (UInt8.toNat_inj.1 (by show c.toNat = 2; omega))
          by_cases h3 : c = 3
          · subst h3
            have hz1 : (((S[0]'h0s).toNat : Int) == 1) = false := by rw [hg0]; rfl
            have hz3 : (((S[0]'h0s).toNat : Int) == 3) = true := by rw [hg0]; rfl
            have hc3 : ((3 : UInt8).toNat : Int) = 3 := rfl
            rw [hc3] at hci
            clear hc3
            cases t with
            | nil =>
              have HTN := Lib.hid (NextOf.none' (acc := acc) (f := f) hac)
              have h9 : S.size < 2 := by rw [HSS.out]; decide
              clear hac h1 h2 hci hg0 HK1 hw1 hS hSd hrl hN hf
              go_wp2
              exact bodyPost_ret (v := .tuple #[.slice none 0 0, .bool false]) (by simp [results, Tryd.results26, go_sem]) rfl ⟨HBR.out.alloc HBR.out.size _, .inl ⟨HTN.out, rfl⟩⟩
            | cons d r0 =>
              simp only [if_true] at hac
              have h9 : 2 ≤ S.size := by rw [HSS.out]; simp
              have h1s : 1 < S.size := by omega
              have hg1 : (S[1]'h1s) = d := HG.out 1 h1s (by simp)
              obtain ⟨nn, hnn⟩ : ∃ nn : Int, ((S[1]'h1s).toNat : Int) = nn := ⟨_, rfl⟩
              have hgi : (d.toNat : Int) = nn := by rw [← hnn, hg1]
              rw [hgi] at hac
              have hn2 := (S[1]'h1s).toNat_lt
              have hwr : IntKind.i64.wrap nn = nn := by rw [← hnn, IntKind.wrap_i64]; omega
              have HFX : Hid (fit64 nn) := by
                show fit64 _
                unfold fit64
                omega
              have HQ0 : Hid (keyB ⟨3, nn, ⟨#[]⟩⟩ ≠ []) := fun e => by cases e
              have BK := Lib.hid (Blk.new wo 27 [.int .i64 3, .int .i64 nn, .string ⟨#[]⟩])
              have hz5 : Below wo.heap.size wo (wo.alloc (.cells #[.int .i64 3, .int .i64 nn, .string ⟨#[]⟩] 27)) := (Below.refl _ _).alloc (Nat.le_refl _) _
              have HX5 := Lib.hid hz5
              clear h1 h2 hg0 HK1 hw1 hz5 hg1 hgi hn2 hS hSd hz1 hz2 hz3
              have hr := fun w => refright w ⟨3, nn, ⟨#[]⟩⟩
              have hky := fun h w => refkey_any w ⟨3, nn, ⟨#[]⟩⟩ h HFX.out
              simp only [AV.agg] at hr hky
              obtain ⟨b0, b1, b2, bf⟩ := blk3 BK.out
              cases hrt : AV.right ⟨3, nn, ⟨#[]⟩⟩
              · rw [hrt] at hr
                have hch : chkP ⟨3, nn, ⟨#[]⟩⟩ (3 :: d :: r0) = none := by unfold chkP; rw [hrt]; rfl
                rw [hch] at hac
                have HTN := Lib.hid hac.none'
                have HR := Lib.hid hr
                clear hr hky hac hch hrt
                as_aux_lemma =>
                  go_wp2_with fail
                  refine (HR.out _).mono ?_
                  rintro e w7 ⟨rfl, hb7⟩
                  have HX7 := Lib.hid (HX5.out.trans (hb7.mono HX5.out.size))
                  clear hb7
                  go_wp2
                  exact bodyPost_ret (v := .tuple #[.slice none 0 0, .bool false]) (by simp [results, Tryd.results26, go_sem]) rfl ⟨HBR.out.trans (HX7.out.mono HBR.out.size), .inl ⟨HTN.out, rfl⟩⟩
              · rw [hrt] at hr
                have hkl := keyB_length ⟨3, nn, ⟨#[]⟩⟩ hrt
                have HR := Lib.hid hr
                have HKY := Lib.hid (hky hrt)
                have hch : chkP ⟨3, nn, ⟨#[]⟩⟩ (3 :: d :: r0) = if (keyB ⟨3, nn, ⟨#[]⟩⟩).isPrefixOf (3 :: d :: r0) = true then some (⟨3, nn, ⟨#[]⟩⟩, (3 :: d :: r0).drop (keyB ⟨3, nn, ⟨#[]⟩⟩).length) else none := by unfold chkP; rw [hrt, Bool.true_and]
                rw [hch] at hac
                clear hr hky hch hrt
                generalize keyB ⟨3, nn, ⟨#[]⟩⟩ = q at *
                have hqs := bs_size q
                have HQS := Lib.hid hqs
                have hSs := HSS.out
                by_cases hlen : q.length ≤ (3 :: d :: r0).length
                · have hd1 : decide ((S.size : Int) < ((bs q).size : Int)) = false := decide_eq_false (by omega)
                  have hqS : (bs q).size ≤ S.size := by omega
                  have hpre : ((S.extract 0 (bs q).size).toList == (bs q).toList) = q.isPrefixOf (3 :: d :: r0) := by
                    rw [ByteArray.toList_eq, Lib.extract_data, HSD.out, bs_toList, hqs, List.drop_zero, Nat.sub_zero, Bool.eq_iff_iff, beq_iff_eq, List.isPrefixOf_iff_prefix, List.prefix_iff_eq_take]
                    exact eq_comm
                  have hdr : S.extract (bs q).size S.size = bs ((3 :: d :: r0).drop q.length) := by rw [hqs]; exact ext_drop S _ HSD.out q.length
                  have hks : ∀ W : World, (Instr.slice 9 (.string S) (some (.int .i64 ((bs q).size : Int))) none none).run Tryd.prog W = .ok (.string (bs ((3 :: d :: r0).drop q.length))) W := fun W => by
                    rw [← hdr]; exact slice_from S _ hqS W
                  clear hdr
                  cases hp : q.isPrefixOf (3 :: d :: r0)
                  · rw [hp] at hac hpre
                    rw [if_neg (by decide)] at hac
                    have HTN := Lib.hid hac.none'
                    clear hac hp hlen hks hqs hSs
                    generalize bs q = Q at *
                    as_aux_lemma =>
                      go_wp2_with fail
                      refine (HR.out _).mono ?_
                      rintro e w7 ⟨rfl, hb7⟩
                      obtain ⟨c0, c1, c2, cf⟩ := blk3 (BK.out.below hb7)
                      have HX7 := Lib.hid (HX5.out.trans (hb7.mono HX5.out.size))
                      clear hb7
                      go_wp2_with fail
                      refine (HKY.out _).mono ?_
                      rintro e w8 ⟨rfl, hb8⟩
                      have HX8 := Lib.hid (HX7.out.trans (hb8.mono HX7.out.size))
                      clear hb8
                      go_wp2
                      exact bodyPost_ret (v := .tuple #[.slice none 0 0, .bool false]) (by simp [results, Tryd.results26, go_sem]) rfl ⟨HBR.out.trans (HX8.out.mono HBR.out.size), .inl ⟨HTN.out, rfl⟩⟩
                  · rw [hp] at hac hpre
                    rw [if_pos rfl] at hac
                    have hq0 : 0 < q.length := by
                      cases q with
                      | nil => exact absurd HQ0.out (by decide)
                      | cons a b => simp
                    have hrb := bs_size ((3 :: d :: r0).drop q.length)
                    have hrd : ((3 :: d :: r0).drop q.length).length = (3 :: d :: r0).length - q.length := List.length_drop
                    have HA2 := Lib.hid hac.some'
                    clear hac hp hlen hqs hSs
                    generalize hrr : (3 :: d :: r0).drop q.length = r at *
                    generalize hR : bs r = R at *
                    have HRR := Lib.hid hR
                    clear hR hrr
                    generalize bs q = Q at *
                    as_aux_lemma =>
                      go_wp2_with fail
                      refine (HR.out _).mono ?_
                      rintro e w7 ⟨rfl, hb7⟩
                      have HK7 := Lib.hid (BK.out.below hb7)
                      have HX7 := Lib.hid (HX5.out.trans (hb7.mono HX5.out.size))
                      clear hb7
                      obtain ⟨c0, c1, c2, cf⟩ := blk3 HK7.out
                      go_wp2_with fail
                      refine (HKY.out _).mono ?_
                      rintro e w8 ⟨rfl, hb8⟩
                      obtain ⟨d0, d1, d2, df⟩ := blk3 (HK7.out.below hb8)
                      have HX8 := Lib.hid (HX7.out.trans (hb8.mono HX7.out.size))
                      clear hb8
                      have hal5 : Below wo.heap.size wo (w8.alloc (.cells #[.int .i64 3, .int .i64 nn, .string ⟨#[]⟩] 27)) := HX8.out.alloc HX8.out.size _
                      have ho1 := HOWN.out.below hal5
                      have hs1 := one_av w8 ⟨3, nn, ⟨#[]⟩⟩
                      have HX9 := Lib.hid hal5
                      clear hal5
                      go_wp2_with (at_builtin; refine wpList_app rfl _ _ rfl elemAV (by rfl) ho1 (by rfl) hs1 (by unfold maxLen; omega) (by omega) ?_; intro v1 w9 g1 g2 g3 g4 g5; clear ho1 hs1; have G1 := Lib.hid g1; have G2 := Lib.hid g2; have G3 := Lib.hid g3; clear g1 g2 g3 g4 g5)
                      have hSs := HSS.out
                      rw [List.length_cons, List.length_cons] at hrl hN hf hrd hSs
                      have h8 := HX8.out.size
                      have h9 : w.heap.size ≤ wo.heap.size := HBR.out.size
                      refine ⟨⟨r, by rw [HRR.out], by omega, acc ++ [⟨3, nn, ⟨#[]⟩⟩], f, ?_, fun z hz => ?_, HA2.out, by omega, by rw [List.length_append]; simp only [List.length_cons, List.length_nil]; omega, ?_⟩, by show R.size < S.size; omega⟩
                      · rw [List.length_append, rowCells_append]; exact G1.out
                      · rcases G3.out with h | h
                        · rw [h] at hz; exact HNEW.out z hz
                        · rw [h] at hz
                          have : w8.heap.size + 1 = z := by simpa using hz
                          omega
                      · exact (HBR.out.trans (HX9.out.mono HBR.out.size)).trans (G2.out.below (by have := HX9.out.size; omega) (fun z hz => HNEW.out z hz))
                · have hd1 : decide ((S.size : Int) < ((bs q).size : Int)) = true := decide_eq_true (by omega)
                  have hnq : S.size < (bs q).size := by omega
                  have hp : q.isPrefixOf (3 :: d :: r0) = false := by
                    rw [Bool.eq_false_iff]
                    intro hp
                    exact hlen (List.isPrefixOf_iff_prefix.1 hp).length_le
                  rw [hp, if_neg (by decide)] at hac
                  have HTN := Lib.hid hac.none'
                  clear hac hp hlen hqs hSs
                  generalize bs q = Q at *
                  as_aux_lemma =>
                    go_wp2_with fail
                    refine (HR.out _).mono ?_
                    rintro e w7 ⟨rfl, hb7⟩
                    obtain ⟨c0, c1, c2, cf⟩ := blk3 (BK.out.below hb7)
                    have HX7 := Lib.hid (HX5.out.trans (hb7.mono HX5.out.size))
                    clear hb7
                    go_wp2_with fail
                    refine (HKY.out _).mono ?_
                    rintro e w8 ⟨rfl, hb8⟩
                    have HX8 := Lib.hid (HX7.out.trans (hb8.mono HX7.out.size))
                    clear hb8
                    go_wp2
                    exact bodyPost_ret (v := .tuple #[.slice none 0 0, .bool false]) (by simp [results, Tryd.results26, go_sem]) rfl ⟨HBR.out.trans (HX8.out.mono HBR.out.size), .inl ⟨HTN.out, rfl⟩⟩
          · have hz3 : (((S[0]'h0s).toNat : Int) == 3) = false := by
              rw [hg0, beq_eq_false_iff_ne]
              intro h
              exact h3 (UInt8.toNat_inj.1 (by show c.toNat = 3; omega))
            have hn2 : NextOf tot acc f none := by
              cases t with
              | nil => exact hac
              | cons d t =>
                simp only [if_neg h3] at hac
                exact hac
            have HTN := Lib.hid (NextOf.none' (acc := acc) (f := f) hn2)
            by_cases hc1 : c = 1
            · subst hc1
              have hz1 : (((S[0]'h0s).toNat : Int) == 1) = true := by rw [hg0]; rfl
              have h9 : S.size < 9 := by
                rw [HSS.out, List.length_cons]
                have : ¬ 8 ≤ t.length := fun h => h1 ⟨rfl, h⟩
                omega
              have hd9 : decide ((9 : Int) ≤ (S.size : Int)) = false := decide_eq_false (by omega)
              clear hac h1 h2 h3 hci hg0 HK1 hw1 hn2 hS hSd hrl hN hf
              go_wp2
              exact bodyPost_ret (v := .tuple #[.slice none 0 0, .bool false]) (by simp [results, Tryd.results26, go_sem]) rfl ⟨HBR.out.alloc HBR.out.size _, .inl ⟨HTN.out, rfl⟩⟩
            · have hz1 : (((S[0]'h0s).toNat : Int) == 1) = false := by
                rw [hg0, beq_eq_false_iff_ne]
                intro h
                exact hc1 (UInt8.toNat_inj.1 (by show c.toNat = 1; omega))
              clear hac h1 h2 h3 hc1 hci hg0 HK1 hw1 hn2 hS hSd hrl hN hf
              go_wp2
              exact bodyPost_ret (v := .tuple #[.slice none 0 0, .bool false]) (by simp [results, Tryd.results26, go_sem]) rfl ⟨HBR.out.alloc HBR.out.size _, .inl ⟨HTN.out, rfl⟩⟩
end Go.Proofs.YtlgohkdckdnmhaaDoor
