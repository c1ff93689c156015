/- The law ValueKeys: its walk. -/
import Derived.Test.YtlgohkdckdnmhaaDoorUkD
import Derived.Test.YtlgohkdckdnmhaaDoorEqR
import Derived.Test.YtlgohkdckdnmhaaDoorOpenV
namespace Go.Proofs.YtlgohkdckdnmhaaDoor
open Go.RowKit Go.Afx

theorem greatB_len2 {l : List AV} (h : greatB l = false) : l.length ≤ 30 := by
  unfold greatB at h
  simp only [Bool.or_eq_false_iff, decide_eq_false_iff_not, List.any_eq_false] at h
  omega

set_option maxRecDepth 100000 in
set_option maxHeartbeats 8000000 in
theorem keys_walkV (v0 : Value) (a : List AV) (s : ByteArray) (_ : s.size ≤ maxLen) (w : World) (hm : Mx w) (h0 : Sl w (fun _ => True) 3 v0 a.length (rowCells a) ∧ ∀ x ∈ a, x.read) :
    Calls Tryd.prog 4 #[v0, .string s] w fun e w' => e = .returned (.bool true) ∧ Below w.heap.size w w' := by
  have HGa := Lib.hid (fun w' (h : Below w.heap.size w w') => great_row w' _ v0 a (h0.1.below h))
  have HAa := Lib.hid (fun w' (h : Below w.heap.size w w') => all_row w' _ v0 a (h0.1.below h))
  have HAW := Lib.hid (fun w' (h : Below w.heap.size w w') => vawake w' (hm.below h))
  have HS0 := Lib.hid h0.1
  have HF0 := Lib.hid (fun x hx => (h0.2 x hx).2.1)
  have HM := Lib.hid hm
  obtain ⟨p, cap, rfl, hc1, hc2⟩ := h0.1.form
  clear h0 hm
  have HB0 : Hid (Below w.heap.size w w) := Below.refl _ _
  cases hga : greatB a
  · rw [hga] at HGa
    have hla := greatB_len2 hga
    by_cases hs : s.size ≤ 2000
    · have hd : decide ((2000 : Int) < (s.size : Int)) = false := decide_eq_false (by omega)
      have hls : s.data.toList.length ≤ 2000 := by
        have := size_list s _ rfl
        omega
      have HU := Lib.hid (fun w => unkey_any w s _ rfl (by omega))
      have HR := Lib.hid (fun w => refunkey_any w s _ rfl (by omega))
      have HKY := Lib.hid (fun w' (h : Below w.heap.size w w') => key_any w' (HM.out.below h) _ _ a (HS0.out.below h) HF0.out (by omega))
      have hnn := fun w => same_rowG w (fun _ => True) (fun _ => True) (.slice none 0 0) (.slice none 0 0) [] [] ((Own.nil w 27 3).sl (fun _ _ => trivial)) ((Own.nil w 27 3).sl (fun _ _ => trivial))
      rw [rowEq_self] at hnn
      have HNN := Lib.hid hnn
      clear hnn hls
      generalize unkB s.data.toList = tot at *
      cases hra : rightAll a
      · rw [hra] at HAa
        have r1 : rowKey a = [] := by unfold rowKey; rw [hra]; rfl
        rw [r1] at HKY
        have e1 : ((bs []).toList == (⟨#[]⟩ : ByteArray).toList) = true := by show ((bs []).toList == (bs []).toList) = true; exact beq_self_eq_true _
        have e2 : ((bs []).toList == []) = true := by rw [bs_toList]; rfl
        have e3 : (bs []).toList = [] := bs_toList _
        clear hga hra r1
        generalize bs [] = K at *
        go_enter Tryd.func4, Tryd.ntmps4
        go_wp2_with fail
        refine (HGa.out _ HB0.out).mono ?_
        rintro e w1 ⟨rfl, hb1⟩
        have HB1 := Lib.hid hb1
        clear hb1
        go_wp2_with fail
        refine (HAa.out _ HB1.out).mono ?_
        rintro e w3 ⟨rfl, hb3⟩
        have HB4 := Lib.hid (HB1.out.trans (hb3.mono HB1.out.size))
        clear hb3
        go_wp2_with fail
        refine (HU.out _).mono ?_
        rintro e w5 hu
        unfold UnkOut at hu
        obtain ⟨hb5, hu⟩ := hu
        have HB5 := Lib.hid (HB4.out.trans (hb5.mono HB4.out.size))
        clear hb5
        rcases hu with ⟨hu, rfl⟩ | ⟨l1, v1, hu, rfl, hv1⟩
        · go_wp2_with fail
          refine (HR.out _).mono ?_
          rintro e w6 hr
          unfold UnkOut at hr
          obtain ⟨hb6, hr⟩ := hr
          have HB6 := Lib.hid (HB5.out.trans (hb6.mono HB5.out.size))
          clear hb6
          rcases hr with ⟨_, rfl⟩ | ⟨l2, v2, hr, _⟩
          · clear hu
            go_wp2_with fail
            refine (HKY.out _ HB6.out).mono ?_
            rintro e w7 ⟨rfl, hb7⟩
            have HB7 := Lib.hid (HB6.out.trans (hb7.mono HB6.out.size))
            clear hb7
            go_wp2_with fail
            refine (HNN.out _).mono ?_
            rintro e w8 ⟨rfl, hb8⟩
            have HBZ := Lib.hid (HB7.out.trans (hb8.mono HB7.out.size))
            clear hb8
            go_wp2_with fail
            refine (HAW.out _ HBZ.out).mono ?_
            rintro e w9 ⟨rfl, hb9⟩
            have HB9 := Lib.hid (HBZ.out.trans (hb9.mono HBZ.out.size))
            clear hb9
            go_wp2
            go_ret
            exact ⟨rfl, HB9.out⟩
          · rw [hu] at hr
            cases hr
        · have HV1 := Lib.hid hv1
          clear hv1
          go_wp2_with fail
          refine (HR.out _).mono ?_
          rintro e w6 hr
          unfold UnkOut at hr
          obtain ⟨hb6, hr⟩ := hr
          have HV2 := Lib.hid (HV1.out.below hb6)
          have HB6 := Lib.hid (HB5.out.trans (hb6.mono HB5.out.size))
          clear hb6
          rcases hr with ⟨hr, _⟩ | ⟨l2, v2, hr, rfl, hv2⟩
          · rw [hu] at hr
            cases hr
          · rw [hu] at hr
            cases hr
            have HV3 := Lib.hid hv2
            clear hv2 hu
            go_wp2_with fail
            refine (HKY.out _ HB6.out).mono ?_
            rintro e w7 ⟨rfl, hb7⟩
            have HV4 := Lib.hid (HV2.out.below hb7)
            have HV5 := Lib.hid (HV3.out.below hb7)
            have HB7 := Lib.hid (HB6.out.trans (hb7.mono HB6.out.size))
            clear hb7
            have hsm := fun w B B' h h' => same_rowG w B B' v1 v2 l1 l1 h h'
            rw [rowEq_self] at hsm
            have HSM := Lib.hid hsm
            clear hsm
            go_wp2_with fail
            refine (HSM.out _ _ _ HV4.out HV5.out).mono ?_
            rintro e w8 ⟨rfl, hb8⟩
            have HBZ := Lib.hid (HB7.out.trans (hb8.mono HB7.out.size))
            clear hb8
            go_wp2_with fail
            refine (HAW.out _ HBZ.out).mono ?_
            rintro e w9 ⟨rfl, hb9⟩
            have HB9 := Lib.hid (HBZ.out.trans (hb9.mono HBZ.out.size))
            clear hb9
            go_wp2
            go_ret
            exact ⟨rfl, HB9.out⟩
      · rw [hra] at HAa
        have HRK := Lib.hid (fun w' (h : Below w.heap.size w w') => refkeys_any w' _ _ a (HS0.out.below h) hra HF0.out (by omega))
        have r1 : rowKey a = keysB a := by unfold rowKey; rw [hra]; rfl
        rw [r1] at HKY
        have e1 : ((bs (keysB a)).toList == (bs (keysB a)).toList) = true := by simp
        clear hga hra r1
        generalize bs (keysB a) = K at *
        go_enter Tryd.func4, Tryd.ntmps4
        go_wp2_with fail
        refine (HGa.out _ HB0.out).mono ?_
        rintro e w1 ⟨rfl, hb1⟩
        have HB1 := Lib.hid hb1
        clear hb1
        go_wp2_with fail
        refine (HAa.out _ HB1.out).mono ?_
        rintro e w2 ⟨rfl, hb2⟩
        have HB2 := Lib.hid (HB1.out.trans (hb2.mono HB1.out.size))
        clear hb2
        go_wp2_with fail
        refine (HRK.out _ HB2.out).mono ?_
        rintro e w3 ⟨rfl, hb3⟩
        have HB4 := Lib.hid (HB2.out.trans (hb3.mono HB2.out.size))
        clear hb3
        go_wp2_with fail
        refine (HU.out _).mono ?_
        rintro e w5 hu
        unfold UnkOut at hu
        obtain ⟨hb5, hu⟩ := hu
        have HB5 := Lib.hid (HB4.out.trans (hb5.mono HB4.out.size))
        clear hb5
        rcases hu with ⟨hu, rfl⟩ | ⟨l1, v1, hu, rfl, hv1⟩
        · go_wp2_with fail
          refine (HR.out _).mono ?_
          rintro e w6 hr
          unfold UnkOut at hr
          obtain ⟨hb6, hr⟩ := hr
          have HB6 := Lib.hid (HB5.out.trans (hb6.mono HB5.out.size))
          clear hb6
          rcases hr with ⟨_, rfl⟩ | ⟨l2, v2, hr, _⟩
          · clear hu
            go_wp2_with fail
            refine (HKY.out _ HB6.out).mono ?_
            rintro e w7 ⟨rfl, hb7⟩
            have HB7 := Lib.hid (HB6.out.trans (hb7.mono HB6.out.size))
            clear hb7
            go_wp2_with fail
            refine (HNN.out _).mono ?_
            rintro e w8 ⟨rfl, hb8⟩
            have HBZ := Lib.hid (HB7.out.trans (hb8.mono HB7.out.size))
            clear hb8
            go_wp2_with fail
            refine (HAW.out _ HBZ.out).mono ?_
            rintro e w9 ⟨rfl, hb9⟩
            have HB9 := Lib.hid (HBZ.out.trans (hb9.mono HBZ.out.size))
            clear hb9
            go_wp2
            go_ret
            exact ⟨rfl, HB9.out⟩
          · rw [hu] at hr
            cases hr
        · have HV1 := Lib.hid hv1
          clear hv1
          go_wp2_with fail
          refine (HR.out _).mono ?_
          rintro e w6 hr
          unfold UnkOut at hr
          obtain ⟨hb6, hr⟩ := hr
          have HV2 := Lib.hid (HV1.out.below hb6)
          have HB6 := Lib.hid (HB5.out.trans (hb6.mono HB5.out.size))
          clear hb6
          rcases hr with ⟨hr, _⟩ | ⟨l2, v2, hr, rfl, hv2⟩
          · rw [hu] at hr
            cases hr
          · rw [hu] at hr
            cases hr
            have HV3 := Lib.hid hv2
            clear hv2 hu
            go_wp2_with fail
            refine (HKY.out _ HB6.out).mono ?_
            rintro e w7 ⟨rfl, hb7⟩
            have HV4 := Lib.hid (HV2.out.below hb7)
            have HV5 := Lib.hid (HV3.out.below hb7)
            have HB7 := Lib.hid (HB6.out.trans (hb7.mono HB6.out.size))
            clear hb7
            have hsm := fun w B B' h h' => same_rowG w B B' v1 v2 l1 l1 h h'
            rw [rowEq_self] at hsm
            have HSM := Lib.hid hsm
            clear hsm
            go_wp2_with fail
            refine (HSM.out _ _ _ HV4.out HV5.out).mono ?_
            rintro e w8 ⟨rfl, hb8⟩
            have HBZ := Lib.hid (HB7.out.trans (hb8.mono HB7.out.size))
            clear hb8
            go_wp2_with fail
            refine (HAW.out _ HBZ.out).mono ?_
            rintro e w9 ⟨rfl, hb9⟩
            have HB9 := Lib.hid (HBZ.out.trans (hb9.mono HBZ.out.size))
            clear hb9
            go_wp2
            go_ret
            exact ⟨rfl, HB9.out⟩
    · have hd : decide ((2000 : Int) < (s.size : Int)) = true := decide_eq_true (by omega)
      clear hga
      go_enter Tryd.func4, Tryd.ntmps4
      go_wp2_with fail
      refine (HGa.out _ HB0.out).mono ?_
      rintro e w1 ⟨rfl, hb1⟩
      have HBZ := Lib.hid hb1
      clear hb1
      go_wp2_with fail
      refine (HAW.out _ HBZ.out).mono ?_
      rintro e w9 ⟨rfl, hb9⟩
      have HB9 := Lib.hid (HBZ.out.trans (hb9.mono HBZ.out.size))
      clear hb9
      go_wp2
      go_ret
      exact ⟨rfl, HB9.out⟩
  · rw [hga] at HGa
    clear hga
    go_enter Tryd.func4, Tryd.ntmps4
    go_wp2_with fail
    refine (HGa.out _ HB0.out).mono ?_
    rintro e w1 ⟨rfl, hb1⟩
    have HBZ := Lib.hid hb1
    clear hb1
    go_wp2_with fail
    refine (HAW.out _ HBZ.out).mono ?_
    rintro e w9 ⟨rfl, hb9⟩
    have HB9 := Lib.hid (HBZ.out.trans (hb9.mono HBZ.out.size))
    clear hb9
    go_wp2
    go_ret
    exact ⟨rfl, HB9.out⟩
end Go.Proofs.YtlgohkdckdnmhaaDoor
