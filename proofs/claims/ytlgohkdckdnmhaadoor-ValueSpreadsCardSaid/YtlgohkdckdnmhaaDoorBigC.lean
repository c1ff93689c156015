/- The document's numbers: at, less. -/
import Derived.Test.YtlgohkdckdnmhaaDoorBigB
namespace Go.Proofs.YtlgohkdckdnmhaaDoor
open Go.RowKit Go.Afx

theorem at_any (w : World) (B : Nat → Prop) (v : Value) (d : List Nat) (hl : Sl w B 1 v d.length (nats d)) (_ : d.length ≤ 1000000) (i : Nat) :
    Calls Tryd.prog 125 #[v, .int .i64 i] w fun e w' => e = .returned (.int .i64 (d.getD i 0 : Nat)) ∧ w = w' := by
  by_cases h : i < d.length
  · have e1 : d.getD i 0 = d[i] := by simp [List.getD, h]
    obtain ⟨g, off, cap, rfl, hg, hc⟩ := sl_nat hl h
    rw [e1]
    clear e1 hl
    generalize (d[i] : Int) = x at *
    go_enter Tryd.func125, Tryd.ntmps125
    go_wp2
    go_ret
    exact ⟨rfl, rfl⟩
  · have e1 : d.getD i 0 = 0 := by simp [List.getD, List.getElem?_eq_none (show d.length ≤ i by omega)]
    obtain ⟨p, cap, rfl, _, _⟩ := hl.form
    rw [e1]
    clear e1 hl
    go_enter Tryd.func125, Tryd.ntmps125
    go_wp2
    go_ret
    exact ⟨rfl, rfl⟩

set_option maxRecDepth 100000 in
theorem less_any (w : World) (B B' : Nat → Prop) (va vb : Value) (x y : Nat) (ha : Sl w B 1 va (ld x).length (nats (ld x))) (hb : Sl w B' 1 vb (ld y).length (nats (ld y))) (hla : (ld x).length ≤ 1000000) (hlb : (ld y).length ≤ 1000000) :
    Calls Tryd.prog 106 #[va, vb] w fun e w' => e = .returned (.bool (decide (x < y))) ∧ Below w.heap.size w w' := by
  obtain ⟨pa, ca, rfl, hc1, hc2⟩ := ha.form
  obtain ⟨pb, cb, rfl, hc3, hc4⟩ := hb.form
  have HL := Lib.hid (fun h : (ld x).length < (ld y).length => ld_len_lt h)
  have HG := Lib.hid (fun h : (ld y).length < (ld x).length => ld_len_lt h)
  have HV : Hid (∀ i, i < (ld x).length → i < (ld y).length → (ld x).drop (i + 1) = (ld y).drop (i + 1) → (ld x).getD i 0 ≠ (ld y).getD i 0 → ((ld x).getD i 0 < (ld y).getD i 0 ↔ vd (ld x) < vd (ld y))) := fun i h1 h2 h3 h4 => by
    have e1 : (ld x).getD i 0 = (ld x)[i] := by simp [List.getD, h1]
    have e2 : (ld y).getD i 0 = (ld y)[i] := by simp [List.getD, h2]
    rw [e1, e2] at h4 ⊢
    exact vd_less (ld x) (ld y) (ld_D10 x) (ld_D10 y) i h1 h2 h3 h4
  have HE : Hid (ld x = ld y → x = y) := fun h => by have := congrArg vd h; rwa [vd_ld, vd_ld] at this
  have HX := Lib.hid (vd_ld x)
  have HY := Lib.hid (vd_ld y)
  have HA := Lib.hid ha
  have HB := Lib.hid hb
  clear ha hb
  generalize ld x = a at *
  generalize ld y = b at *
  generalize hr : decide (x < y) = r
  have HR := Lib.hid hr
  clear hr
  generalize hna : a.length = na at *
  generalize hnb : b.length = nb at *
  have HNA := Lib.hid hna
  have HNB := Lib.hid hnb
  clear hna hnb
  by_cases hne : na = nb
  · subst hne
    go_enter Tryd.func106, Tryd.ntmps106
    go_wp2
    go_loopw [5] (fun i wr => ∃ j : Nat, i = .int .i64 ((j : Int) - 1) ∧ j ≤ na ∧ a.drop j = b.drop j ∧ Below w.heap.size w wr) (fun i _ => (intOf i + 1).toNat)
    case atStart => exact ⟨na, rfl, Nat.le_refl _, by rw [List.drop_of_length_le (by rw [HNA.out]; exact Nat.le_refl _), List.drop_of_length_le (by rw [HNB.out]; exact Nat.le_refl _)], Below.refl _ _⟩
    case round =>
      obtain ⟨j, rfl, hj, hd, hbw⟩ := hrel
      have HD := Lib.hid hd
      have HW := Lib.hid hbw
      clear hd
      rcases Nat.eq_zero_or_pos j with rfl | hpos
      · have hxy : x = y := by
          apply HE.out
          have := HD.out
          rwa [List.drop_zero, List.drop_zero] at this
        subst hxy
        obtain rfl : r = false := by rw [← HR.out]; exact decide_eq_false (by omega)
        clear hbw
        go_wp2
        go_ret
        exact ⟨rfl, HW.out⟩
      · obtain ⟨i, rfl⟩ : ∃ i, j = i + 1 := ⟨j - 1, by omega⟩
        have hia : i < a.length := by rw [HNA.out]; omega
        have hib : i < b.length := by rw [HNB.out]; omega
        have ha2 := HA.out.below HW.out
        have hb2 := HB.out.below HW.out
        have hvv := HV.out i (by omega) (by omega) HD.out
        rw [← HNA.out] at ha2
        rw [show na = b.length from HNB.out.symm] at hb2
        obtain ⟨g, off, cap', hv1, hg, hca⟩ := sl_nat ha2 hia
        obtain ⟨g', off', cap'', hv2, hg', hcb⟩ := sl_nat hb2 hib
        cases hv1
        cases hv2
        have HN : Hid (a[i] = b[i] → a.drop i = b.drop i) := fun h => by rw [List.drop_eq_getElem_cons hia, List.drop_eq_getElem_cons hib, h, HD.out]
        have ea : a.getD i 0 = a[i] := by simp [List.getD, hia]
        have eb : b.getD i 0 = b[i] := by simp [List.getD, hib]
        rw [HX.out, HY.out, ea, eb] at hvv
        have HVV := Lib.hid hvv
        clear hbw ha2 hb2 hvv ea eb
        generalize a[i] = p at *
        generalize b[i] = q at *
        by_cases hpq : p = q
        · subst hpq
          have HN2 := Lib.hid (HN.out rfl)
          clear HN HVV
          go_wp2
          go_region
          go_wp2
          go_roundw
          case rel => exact ⟨i, by go_num, by omega, HN2.out, HW.out.drew⟩
          case measure => (simp [intOf]) <;> omega
        · have hne2 : ((p : Int) == q) = false := by rw [beq_eq_false_iff_ne]; omega
          have hr : decide (p < q) = r := by
            rw [← HR.out]
            exact decide_eq_decide.2 (HVV.out hpq)
          clear HN HVV
          go_wp2
          go_region
          go_wp2
          go_region
          go_wp2
          go_ret
          exact ⟨rfl, HW.out.drew.drew⟩
  · have hne2 : ((na : Int) == nb) = false := by rw [beq_eq_false_iff_ne]; omega
    have hr : decide (na < nb) = r := by
      rw [← HR.out]
      apply decide_eq_decide.2
      constructor
      · intro h; exact HL.out h
      · intro h
        rcases Nat.lt_or_ge na nb with h2 | h2
        · omega
        · have := HG.out (by omega); omega
    go_enter Tryd.func106, Tryd.ntmps106
    go_wp2
    go_ret
    exact ⟨rfl, Below.refl _ _⟩
end Go.Proofs.YtlgohkdckdnmhaaDoor
