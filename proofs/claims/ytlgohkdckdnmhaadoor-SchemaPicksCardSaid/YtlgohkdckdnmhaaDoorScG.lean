/- The law SchemaPicks: its walk. -/
import Derived.Test.YtlgohkdckdnmhaaDoorScF
import Derived.Test.YtlgohkdckdnmhaaDoorEqR
import Derived.Test.YtlgohkdckdnmhaaDoorOpenV
namespace Go.Proofs.YtlgohkdckdnmhaaDoor
open Go.RowKit Go.Afx

theorem all_take_next {α : Type} (f : α → Bool) (l : List α) (k : Nat) (h : k < l.length) : (l.take (k + 1)).all f = ((l.take k).all f && f l[k]) := by
  rw [← List.take_append_getElem h, List.all_append]; simp
set_option maxRecDepth 100000 in
set_option maxHeartbeats 2000000 in
theorem picks_walk (w : World) (hm : Mx w) (v v' : Value) (l : List AV) (ps : List Int) (hl : Sl w (fun _ => True) 3 v l.length (rowCells l)) (hp : Sl w (fun _ => True) 1 v' ps.length (ints ps)) :
    Calls Tryd.prog 5 #[v, v'] w fun e w' => e = .returned (.bool true) ∧ Below w.heap.size w w' := by
  have HAW := Lib.hid (fun w' (h : Below w.heap.size w w') => awake03_any w' (hm.below h))
  have HGR := Lib.hid (great_row w _ v l hl)
  have HL := Lib.hid hl
  have HP := Lib.hid hp
  obtain ⟨p, cap, rfl, hc1, hc2⟩ := hl.form
  obtain ⟨p', cap', rfl, hc1', hc2'⟩ := hp.form
  clear hl hp hm
  by_cases hgb : greatB l = true
  · rw [hgb] at HGR
    clear hgb
    go_enter Tryd.func5, Tryd.ntmps5
    go_wp2_with fail
    refine HGR.out.mono ?_
    rintro e w2 ⟨rfl, hb2⟩
    have HBZ := Lib.hid hb2
    clear hb2
    go_wp2_with fail
    refine (HAW.out _ HBZ.out).mono ?_
    rintro e w9 ⟨rfl, hb9⟩
    have HB9 := Lib.hid (HBZ.out.trans (hb9.mono HBZ.out.size))
    clear hb9
    go_wp2
    go_ret
    exact ⟨rfl, HB9.out⟩
  rw [Bool.not_eq_true] at hgb
  rw [hgb] at HGR
  by_cases hpl : 30 < ps.length
  · have hd : decide ((30 : Int) < (ps.length : Int)) = true := decide_eq_true (by omega)
    clear hgb
    go_enter Tryd.func5, Tryd.ntmps5
    go_wp2_with fail
    refine HGR.out.mono ?_
    rintro e w2 ⟨rfl, hb2⟩
    have HBZ := Lib.hid hb2
    clear hb2
    go_wp2_with fail
    refine (HAW.out _ HBZ.out).mono ?_
    rintro e w9 ⟨rfl, hb9⟩
    have HB9 := Lib.hid (HBZ.out.trans (hb9.mono HBZ.out.size))
    clear hb9
    go_wp2
    go_ret
    exact ⟨rfl, HB9.out⟩
  have hd : decide ((30 : Int) < (ps.length : Int)) = false := decide_eq_false (by omega)
  have hl30 : l.length ≤ 30 := by
    unfold greatB at hgb
    simp only [Bool.or_eq_false_iff, decide_eq_false_iff_not] at hgb
    omega
  have HPK := Lib.hid (fun W (hb : Below w.heap.size w W) => pick_any W _ _ (.slice p l.length cap) (.slice p' ps.length cap') l ps (HL.out.below hb) (HP.out.below hb) (by omega) (by omega))
  have HRP := Lib.hid (fun W (hb : Below w.heap.size w W) hin => refpick_any W _ _ (.slice p l.length cap) (.slice p' ps.length cap') l ps (HL.out.below hb) (HP.out.below hb) hin (by omega))
  clear hgb
  go_enter Tryd.func5, Tryd.ntmps5
  go_wp2_with (first | (go_at_call 13; refine HGR.out.mono ?_; rintro e w2 ⟨rfl, hb2⟩; have HB2 := Lib.hid hb2; clear hb2))
  go_loopw [5, 6] (fun t i wr => ∃ k : Nat, i = .int .i64 k ∧ k ≤ ps.length ∧ t = .bool ((ps.take k).all (inR l)) ∧ Below w.heap.size w wr) (fun _ i _ => ps.length - (intOf i).toNat)
  case atStart => exact ⟨0, rfl, Nat.zero_le _, rfl, HB2.out⟩
  case round =>
    obtain ⟨k, rfl, hk, rfl, hb⟩ := hrel
    have HB := Lib.hid hb
    by_cases hka : k < ps.length
    · have hnx := all_take_next (inR l) ps k hka
      obtain ⟨g, off, cap1, hv, hg, hc0⟩ := sl_int (HP.out.below hb) hka
      cases hv
      have HNX := Lib.hid hnx
      clear hb hnx
      generalize (ps.take k).all (inR l) = b at *
      have hin : inR l ps[k] = (decide (0 ≤ ps[k]) && decide (ps[k] < (l.length : Int))) := by
        unfold inR
        congr 1
        rw [Bool.eq_iff_iff, decide_eq_true_eq, decide_eq_true_eq]
        omega
      have HIN := Lib.hid hin
      clear hin
      cases b
      · go_wp2
        go_roundw
        case rel => exact ⟨k + 1, by go_num, by omega, by rw [HNX.out]; rfl, HB.out⟩
        case measure => (simp [intOf]) <;> omega
      · by_cases h0 : 0 ≤ ps[k]
        · have hd0 : decide (0 ≤ ps[k]) = true := decide_eq_true h0
          generalize hpk : ps[k] = pk at *
          clear hpk h0
          cases hd1 : decide (pk < (l.length : Int))
          all_goals
            have HD := Lib.hid hd1
            go_wp2
            go_roundw
            case rel => exact ⟨k + 1, by go_num, by omega, by rw [HNX.out, HIN.out, HD.out, hd0]; rfl, HB.out⟩
            case measure => (simp [intOf]) <;> omega
        · have hd0 : decide (0 ≤ ps[k]) = false := decide_eq_false h0
          generalize hpk : ps[k] = pk at *
          clear hpk h0
          go_wp2
          go_roundw
          case rel => exact ⟨k + 1, by go_num, by omega, by rw [HNX.out, HIN.out, hd0]; rfl, HB.out⟩
          case measure => (simp [intOf]) <;> omega
    · obtain rfl : k = ps.length := by omega
      rw [List.take_length]
      clear hb
      have hpo : ps.all (inR l) = false → pickO l ps = [] := fun h => by unfold pickO; rw [h]; rfl
      have hpo2 : ps.all (inR l) = true → pickO l ps = pickR l ps := fun h => by unfold pickO; rw [h]; rfl
      have hal : ps.all (inR l) = true → ∀ p ∈ ps, inR l p = true := fun h => by rw [List.all_eq_true] at h; exact h
      generalize ps.all (inR l) = b at *
      cases b
      · have HE := Lib.hid (hpo rfl)
        clear hpo hpo2 hal HRP
        go_wp2_with fail
        refine (HPK.out _ HB.out).mono ?_
        rintro e w3 ⟨out, rfl, hout, hb3⟩
        rw [HE.out] at hout
        obtain ⟨po, co, rfl, _, _⟩ := hout.form
        have HBZ := Lib.hid (HB.out.trans (hb3.mono HB.out.size))
        clear hout hb3
        go_wp2_with fail
        refine (HAW.out _ HBZ.out).mono ?_
        rintro e w9 ⟨rfl, hb9⟩
        have HB9 := Lib.hid (HBZ.out.trans (hb9.mono HBZ.out.size))
        clear hb9
        go_wp2
        go_ret
        exact ⟨rfl, HB9.out⟩
      · have HE := Lib.hid (hpo2 rfl)
        have HAL := Lib.hid (hal rfl)
        clear hpo hpo2 hal
        go_wp2_with fail
        refine (HPK.out _ HB.out).mono ?_
        rintro e w3 ⟨out, rfl, hout, hb3⟩
        rw [HE.out] at hout
        have HO := Lib.hid hout
        have HB3 := Lib.hid (HB.out.trans (hb3.mono HB.out.size))
        clear hout hb3
        go_wp2_with fail
        refine (HRP.out _ HB3.out HAL.out).mono ?_
        rintro e w4 ⟨out2, rfl, hout2, hb4⟩
        have hsame := same_rowG w4 _ _ out out2 _ _ (HO.out.below hb4) hout2
        rw [rowEq_self] at hsame
        have HS := Lib.hid hsame
        have HB4 := Lib.hid (HB3.out.trans (hb4.mono HB3.out.size))
        clear hout2 hb4 hsame
        go_wp2_with fail
        refine HS.out.mono ?_
        rintro e w5 ⟨rfl, hb5⟩
        have HBZ := Lib.hid (HB4.out.trans (hb5.mono HB4.out.size))
        clear hb5
        go_wp2_with fail
        refine (HAW.out _ HBZ.out).mono ?_
        rintro e w9 ⟨rfl, hb9⟩
        have HB9 := Lib.hid (HBZ.out.trans (hb9.mono HBZ.out.size))
        clear hb9
        go_wp2
        go_ret
        exact ⟨rfl, HB9.out⟩
theorem picks_law (v0 : Value) (l : List AV) (v1 : Value) (ps : List Int) (w : World) (hm : Mx w) (h0 : Sl w (fun _ => True) 3 v0 l.length (rowCells l) ∧ ∀ a ∈ l, a.read) (h1 : Sl w (fun _ => True) 1 v1 ps.length (ints ps) ∧ ∀ n ∈ ps, fit64 n) :
    Calls Tryd.prog 5 #[v0, v1] w fun e w' => e = .returned (.bool true) ∧ Below w.heap.size w w' := picks_walk w hm v0 v1 l ps h0.1 h1.1
end Go.Proofs.YtlgohkdckdnmhaaDoor
