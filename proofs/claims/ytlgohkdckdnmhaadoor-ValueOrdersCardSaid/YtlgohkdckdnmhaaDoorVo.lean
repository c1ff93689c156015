/- The law ValueOrders: its walk. -/
import Derived.Test.YtlgohkdckdnmhaaDoorCmpR
import Derived.Test.YtlgohkdckdnmhaaDoorPri
import Derived.Test.YtlgohkdckdnmhaaDoorEqV
import Derived.Test.YtlgohkdckdnmhaaDoorOpenV
namespace Go.Proofs.YtlgohkdckdnmhaaDoor
open Go.RowKit Go.Afx

theorem greatB_no {l : List AV} (h : greatB l = false) : l.length ≤ 30 ∧ ∀ a ∈ l, a.s.size ≤ 300 := by
  unfold greatB at h
  simp only [Bool.or_eq_false_iff, decide_eq_false_iff_not, List.any_eq_false] at h
  exact ⟨by omega, fun a ha => by have := h.2 a ha; simpa using this⟩

set_option maxRecDepth 100000 in
set_option maxHeartbeats 4000000 in
theorem orders_walk (v0 : Value) (a : List AV) (v1 : Value) (b : List AV) (n : Int) (_ : (Lit.int .i64 n).wf = true) (s : ByteArray) (_ : s.size ≤ maxLen) (t : Bool) (w : World) (hm : Mx w) (h0 : Sl w (fun _ => True) 3 v0 a.length (rowCells a) ∧ ∀ x ∈ a, x.read) (h1 : Sl w (fun _ => True) 3 v1 b.length (rowCells b) ∧ ∀ x ∈ b, x.read) :
    Calls Tryd.prog 3 #[v0, v1, .int .i64 n, .string s, .bool t] w fun e w' => e = .returned (.bool true) ∧ Below w.heap.size w w' := by
  have HGa := Lib.hid (fun w' (h : Below w.heap.size w w') => great_row w' _ v0 a (h0.1.below h))
  have HGb := Lib.hid (fun w' (h : Below w.heap.size w w') => great_row w' _ v1 b (h1.1.below h))
  have HAW := Lib.hid (fun w' (h : Below w.heap.size w w') => vawake w' (hm.below h))
  have HS0 := Lib.hid h0.1
  have HS1 := Lib.hid h1.1
  obtain ⟨p, cap, rfl, hc1, hc2⟩ := h0.1.form
  obtain ⟨p', cap', rfl, hc1', hc2'⟩ := h1.1.form
  clear h0 h1 hm
  cases hga : greatB a
  · rw [hga] at HGa
    cases hgb : greatB b
    · rw [hgb] at HGb
      by_cases hs : s.size ≤ 300
      · have hla := (greatB_no hga).1
        have hlb := (greatB_no hgb).1
        have HRa := Lib.hid (fun w' (h : Below w.heap.size w w') => right_any w' _ _ a (HS0.out.below h) (by omega))
        have HAa := Lib.hid (fun w' (h : Below w.heap.size w w') => all_row w' _ _ a (HS0.out.below h))
        have HCR := Lib.hid (fun w' (h : Below w.heap.size w w') => rows_any w' _ _ _ _ a b (HS0.out.below h) (HS1.out.below h))
        have HRR := Lib.hid (fun w' (h : Below w.heap.size w w') => refrows_any w' _ _ _ _ a b (HS0.out.below h) (HS1.out.below h))
        have HCI := Lib.hid (fun w => int_val w n)
        have HCT := Lib.hid (fun w => text_val w s)
        have HCB := Lib.hid (fun w => bool_val w t)
        have hd : decide ((300 : Int) < (s.size : Int)) = false := decide_eq_false (by omega)
        clear hga hgb
        go_enter Tryd.func3, Tryd.ntmps3
        go_wp2_with fail
        refine (HGa.out _ (Below.refl _ _)).mono ?_
        rintro e w1 ⟨rfl, hb1⟩
        have HB1 := Lib.hid hb1
        clear hb1 HGa
        go_wp2_with fail
        refine (HGb.out _ HB1.out).mono ?_
        rintro e w2 ⟨rfl, hb2⟩
        have HB2 := Lib.hid (HB1.out.trans (hb2.mono HB1.out.size))
        clear hb2 HGb
        go_wp2_with fail
        go_loopw [11] (fun i wr => ∃ k : Nat, i = .int .i64 k ∧ k ≤ a.length ∧ k ≤ b.length ∧ Below w.heap.size w wr) (fun i _ => a.length - (intOf i).toNat)
        case atStart => exact ⟨0, rfl, Nat.zero_le _, Nat.zero_le _, HB2.out⟩
        case round =>
          obtain ⟨k, rfl, hka, hkb, hbr⟩ := hrel
          have HBR := Lib.hid hbr
          by_cases h12 : k < a.length ∧ k < b.length
          · obtain ⟨h1, h2⟩ := h12
            obtain ⟨g, off, cap1, hv, hg, e0, e1, e2⟩ := sl_av (HS0.out.below hbr) h1
            cases hv
            obtain ⟨g', off', cap2, hv', hg', f0, f1, f2⟩ := sl_av (HS1.out.below hbr) h2
            cases hv'
            have hag : Hid (∀ w2, Below wr.heap.size wr.drew w2 → Agree (fun q => q = g ∨ q = g') wr.drew w2) := fun w2 h q o hq => h.cell (by rcases hq with rfl | rfl <;> omega)
            generalize a[k] = x at *
            generalize b[k] = y at *
            have HC := Lib.hid (fun w => cmp_val w x y)
            have HR := Lib.hid (fun w => refcmp w x y)
            have hx : x.agg = .agg #[.int .i64 x.kind, .int .i64 x.n, .string x.s] := rfl
            have hy : y.agg = .agg #[.int .i64 y.kind, .int .i64 y.n, .string y.s] := rfl
            rw [hx, hy] at HC HR
            generalize cmpV x y = c at *
            have hcc : (c != c) = false := by simp
            clear hx hy hbr
            go_wp2_with fail
            refine wp_region_lit_plan [] [(0, 0), (1, 0), (2, 0), (4, 0), (5, 0), (6, 0), (9, 0), (10, 0), (11, 0), (13, 0), (14, 0), (15, 0), (3, 1), (7, 1), (12, 2), (16, 2), (8, 3), (17, 4), (18, 0)] (fun q => q = g ∨ q = g') (by kernel_rfl) (by kernel_rfl) (fun c a d v w h => by cases d <;> exact h) ?_
            go_wp2_with (first
              | (refine plan_pure (v := _) (by rfl) (by rfl) (by rfl) (by intro _; go_simp; with_reducible rfl) ?_; simp only [List.setIfInBounds_toArray, List.set_cons_zero, List.set_cons_succ]; try go_bits) | (refine plan_read (v := _) (by rfl) (by rfl) (by rfl) (by go_simp; with_reducible rfl) ?_; simp only [List.setIfInBounds_toArray, List.set_cons_zero, List.set_cons_succ]; try go_bits) | (refine plan_readB (v := _) (by rfl) (by rfl) (by rfl) (by intro _ hag; unfold Agree at hag; go_simp; with_reducible rfl) ?_; simp only [List.setIfInBounds_toArray, List.set_cons_zero, List.set_cons_succ]; try go_bits) | (refine plan_skip0 (by rfl) (by rfl) (by rfl) ?_; simp only [List.setIfInBounds_toArray, List.set_cons_zero, List.set_cons_succ]; try go_bits) | (refine plan_skip1 (by rfl) (by rfl) (by rfl) ?_; simp only [List.setIfInBounds_toArray, List.set_cons_zero, List.set_cons_succ]; try go_bits) | (refine plan_skip2 (by rfl) (by rfl) (by rfl) ?_; simp only [List.setIfInBounds_toArray, List.set_cons_zero, List.set_cons_succ]; try go_bits) | (refine plan_skip4 (by rfl) (by rfl) (by rfl) ?_; simp only [List.setIfInBounds_toArray, List.set_cons_zero, List.set_cons_succ]; try go_bits) | (refine plan_any (by rfl) ?_) | (refine plan_keep (by rfl) ?_) | (refine plan_nil ?_) | (with_reducible refine And.intro (by first | assumption | exact Agree.refl _ _ | exact agree_drew _ _ | exact agree_alloc _ (by intro k hk; subst hk; first | omega | (simp; omega))) ?_) | (unfold Act.put; simp only [List.setIfInBounds_toArray, List.set_cons_zero, List.set_cons_succ])
              | (go_at_call 15; refine (HC.out _).mono ?_; clear HC; rintro e w3 ⟨rfl, hb3⟩; have hag3 := hag.out _ hb3; have HB3 := Lib.hid (HBR.out.drew.trans (hb3.mono HBR.out.size)); clear hb3)
              | (go_at_call 16; refine (HR.out _).mono ?_; clear HR; rintro e w4 ⟨rfl, hb4⟩; have HB4 := Lib.hid (HB3.out.trans (hb4.mono HB3.out.size)); clear hb4))
            go_roundw
            case rel => exact ⟨k + 1, by go_num, by omega, by omega, HB4.out⟩
            case measure => (simp [intOf]) <;> omega
          · have hd2 : (decide (k < a.length) && decide (k < b.length)) = false := by
              rw [Bool.and_eq_false_iff, decide_eq_false_iff_not, decide_eq_false_iff_not]
              omega
            clear hbr
            have q1 : (rightAll a == rightAll a) = true := by simp
            have q2 : (cmpR a b == cmpR a b) = true := by simp
            have q3 : (n == n) = true := by simp
            have q4 : (s.toList == s.toList) = true := by simp
            generalize rightAll a = ra at *
            generalize cmpR a b = cr at *
            cases t
            · rw [if_neg (by decide)] at HCB
              by_cases hk1 : k = a.length
              · have hk2 : ¬ k < a.length := by omega
                go_wp2_with fail
                refine (HRa.out _ HBR.out).mono ?_
                rintro e w5 ⟨rfl, hb5⟩
                have HB5 := Lib.hid (HBR.out.trans (hb5.mono HBR.out.size))
                clear hb5
                go_wp2_with fail
                refine (HAa.out _ HB5.out).mono ?_
                rintro e w6 ⟨rfl, hb6⟩
                have HB6 := Lib.hid (HB5.out.trans (hb6.mono HB5.out.size))
                clear hb6
                go_wp2_with fail
                refine (HCR.out _ HB6.out).mono ?_
                rintro e w7 ⟨rfl, hb7⟩
                have HB7 := Lib.hid (HB6.out.trans (hb7.mono HB6.out.size))
                clear hb7
                go_wp2_with fail
                refine (HRR.out _ HB7.out).mono ?_
                rintro e w8 ⟨rfl, hb8⟩
                have HB8 := Lib.hid (HB7.out.trans (hb8.mono HB7.out.size))
                clear hb8
                go_wp2_with fail
                refine (HCI.out _).mono ?_
                rintro e w9 ⟨rfl, hb9⟩
                have HB9 := Lib.hid (HB8.out.trans (hb9.mono HB8.out.size))
                clear hb9
                go_wp2_with fail
                refine (HCT.out _).mono ?_
                rintro e w10 ⟨rfl, hb10⟩
                have HB10 := Lib.hid (HB9.out.trans (hb10.mono HB9.out.size))
                clear hb10
                go_wp2_with fail
                refine (HCB.out _).mono ?_
                rintro e w11 ⟨rfl, hb11⟩
                have HB11 := Lib.hid (HB10.out.trans (hb11.mono HB10.out.size))
                clear hb11
                go_wp2_with fail
                refine (HAW.out _ HB11.out).mono ?_
                rintro e w12 ⟨rfl, hb12⟩
                have HB12 := Lib.hid (HB11.out.trans (hb12.mono HB11.out.size))
                clear hb12
                go_wp2
                go_ret
                exact ⟨rfl, HB12.out⟩
              · have hk2 : k < a.length := by omega
                have hk3 : ¬ k < b.length := by omega
                go_wp2_with fail
                refine (HRa.out _ HBR.out).mono ?_
                rintro e w5 ⟨rfl, hb5⟩
                have HB5 := Lib.hid (HBR.out.trans (hb5.mono HBR.out.size))
                clear hb5
                go_wp2_with fail
                refine (HAa.out _ HB5.out).mono ?_
                rintro e w6 ⟨rfl, hb6⟩
                have HB6 := Lib.hid (HB5.out.trans (hb6.mono HB5.out.size))
                clear hb6
                go_wp2_with fail
                refine (HCR.out _ HB6.out).mono ?_
                rintro e w7 ⟨rfl, hb7⟩
                have HB7 := Lib.hid (HB6.out.trans (hb7.mono HB6.out.size))
                clear hb7
                go_wp2_with fail
                refine (HRR.out _ HB7.out).mono ?_
                rintro e w8 ⟨rfl, hb8⟩
                have HB8 := Lib.hid (HB7.out.trans (hb8.mono HB7.out.size))
                clear hb8
                go_wp2_with fail
                refine (HCI.out _).mono ?_
                rintro e w9 ⟨rfl, hb9⟩
                have HB9 := Lib.hid (HB8.out.trans (hb9.mono HB8.out.size))
                clear hb9
                go_wp2_with fail
                refine (HCT.out _).mono ?_
                rintro e w10 ⟨rfl, hb10⟩
                have HB10 := Lib.hid (HB9.out.trans (hb10.mono HB9.out.size))
                clear hb10
                go_wp2_with fail
                refine (HCB.out _).mono ?_
                rintro e w11 ⟨rfl, hb11⟩
                have HB11 := Lib.hid (HB10.out.trans (hb11.mono HB10.out.size))
                clear hb11
                go_wp2_with fail
                refine (HAW.out _ HB11.out).mono ?_
                rintro e w12 ⟨rfl, hb12⟩
                have HB12 := Lib.hid (HB11.out.trans (hb12.mono HB11.out.size))
                clear hb12
                go_wp2
                go_ret
                exact ⟨rfl, HB12.out⟩
            · rw [if_pos rfl] at HCB
              by_cases hk1 : k = a.length
              · have hk2 : ¬ k < a.length := by omega
                go_wp2_with fail
                refine (HRa.out _ HBR.out).mono ?_
                rintro e w5 ⟨rfl, hb5⟩
                have HB5 := Lib.hid (HBR.out.trans (hb5.mono HBR.out.size))
                clear hb5
                go_wp2_with fail
                refine (HAa.out _ HB5.out).mono ?_
                rintro e w6 ⟨rfl, hb6⟩
                have HB6 := Lib.hid (HB5.out.trans (hb6.mono HB5.out.size))
                clear hb6
                go_wp2_with fail
                refine (HCR.out _ HB6.out).mono ?_
                rintro e w7 ⟨rfl, hb7⟩
                have HB7 := Lib.hid (HB6.out.trans (hb7.mono HB6.out.size))
                clear hb7
                go_wp2_with fail
                refine (HRR.out _ HB7.out).mono ?_
                rintro e w8 ⟨rfl, hb8⟩
                have HB8 := Lib.hid (HB7.out.trans (hb8.mono HB7.out.size))
                clear hb8
                go_wp2_with fail
                refine (HCI.out _).mono ?_
                rintro e w9 ⟨rfl, hb9⟩
                have HB9 := Lib.hid (HB8.out.trans (hb9.mono HB8.out.size))
                clear hb9
                go_wp2_with fail
                refine (HCT.out _).mono ?_
                rintro e w10 ⟨rfl, hb10⟩
                have HB10 := Lib.hid (HB9.out.trans (hb10.mono HB9.out.size))
                clear hb10
                go_wp2_with fail
                refine (HCB.out _).mono ?_
                rintro e w11 ⟨rfl, hb11⟩
                have HB11 := Lib.hid (HB10.out.trans (hb11.mono HB10.out.size))
                clear hb11
                go_wp2_with fail
                refine (HAW.out _ HB11.out).mono ?_
                rintro e w12 ⟨rfl, hb12⟩
                have HB12 := Lib.hid (HB11.out.trans (hb12.mono HB11.out.size))
                clear hb12
                go_wp2
                go_ret
                exact ⟨rfl, HB12.out⟩
              · have hk2 : k < a.length := by omega
                have hk3 : ¬ k < b.length := by omega
                go_wp2_with fail
                refine (HRa.out _ HBR.out).mono ?_
                rintro e w5 ⟨rfl, hb5⟩
                have HB5 := Lib.hid (HBR.out.trans (hb5.mono HBR.out.size))
                clear hb5
                go_wp2_with fail
                refine (HAa.out _ HB5.out).mono ?_
                rintro e w6 ⟨rfl, hb6⟩
                have HB6 := Lib.hid (HB5.out.trans (hb6.mono HB5.out.size))
                clear hb6
                go_wp2_with fail
                refine (HCR.out _ HB6.out).mono ?_
                rintro e w7 ⟨rfl, hb7⟩
                have HB7 := Lib.hid (HB6.out.trans (hb7.mono HB6.out.size))
                clear hb7
                go_wp2_with fail
                refine (HRR.out _ HB7.out).mono ?_
                rintro e w8 ⟨rfl, hb8⟩
                have HB8 := Lib.hid (HB7.out.trans (hb8.mono HB7.out.size))
                clear hb8
                go_wp2_with fail
                refine (HCI.out _).mono ?_
                rintro e w9 ⟨rfl, hb9⟩
                have HB9 := Lib.hid (HB8.out.trans (hb9.mono HB8.out.size))
                clear hb9
                go_wp2_with fail
                refine (HCT.out _).mono ?_
                rintro e w10 ⟨rfl, hb10⟩
                have HB10 := Lib.hid (HB9.out.trans (hb10.mono HB9.out.size))
                clear hb10
                go_wp2_with fail
                refine (HCB.out _).mono ?_
                rintro e w11 ⟨rfl, hb11⟩
                have HB11 := Lib.hid (HB10.out.trans (hb11.mono HB10.out.size))
                clear hb11
                go_wp2_with fail
                refine (HAW.out _ HB11.out).mono ?_
                rintro e w12 ⟨rfl, hb12⟩
                have HB12 := Lib.hid (HB11.out.trans (hb12.mono HB11.out.size))
                clear hb12
                go_wp2
                go_ret
                exact ⟨rfl, HB12.out⟩
      · have hd : decide ((300 : Int) < (s.size : Int)) = true := decide_eq_true (by omega)
        clear hga hgb
        go_enter Tryd.func3, Tryd.ntmps3
        go_wp2_with fail
        refine (HGa.out _ (Below.refl _ _)).mono ?_
        rintro e w1 ⟨rfl, hb1⟩
        have HB1 := Lib.hid hb1
        clear hb1 HGa
        go_wp2_with fail
        refine (HGb.out _ HB1.out).mono ?_
        rintro e w2 ⟨rfl, hb2⟩
        have HB2 := Lib.hid (HB1.out.trans (hb2.mono HB1.out.size))
        clear hb2 HGb
        go_wp2_with fail
        refine (HAW.out _ HB2.out).mono ?_
        rintro e w3 ⟨rfl, hb3⟩
        have HB3 := Lib.hid (HB2.out.trans (hb3.mono HB2.out.size))
        clear hb3
        go_wp2
        go_ret
        exact ⟨rfl, HB3.out⟩
    · rw [hgb] at HGb
      clear hga hgb
      go_enter Tryd.func3, Tryd.ntmps3
      go_wp2_with fail
      refine (HGa.out _ (Below.refl _ _)).mono ?_
      rintro e w1 ⟨rfl, hb1⟩
      have HB1 := Lib.hid hb1
      clear hb1 HGa
      go_wp2_with fail
      refine (HGb.out _ HB1.out).mono ?_
      rintro e w2 ⟨rfl, hb2⟩
      have HB2 := Lib.hid (HB1.out.trans (hb2.mono HB1.out.size))
      clear hb2 HGb
      go_wp2_with fail
      refine (HAW.out _ HB2.out).mono ?_
      rintro e w3 ⟨rfl, hb3⟩
      have HB3 := Lib.hid (HB2.out.trans (hb3.mono HB2.out.size))
      clear hb3
      go_wp2
      go_ret
      exact ⟨rfl, HB3.out⟩
  · rw [hga] at HGa
    clear hga HGb
    go_enter Tryd.func3, Tryd.ntmps3
    go_wp2_with fail
    refine (HGa.out _ (Below.refl _ _)).mono ?_
    rintro e w1 ⟨rfl, hb1⟩
    have HB1 := Lib.hid hb1
    clear hb1 HGa
    go_wp2_with fail
    refine (HAW.out _ HB1.out).mono ?_
    rintro e w3 ⟨rfl, hb3⟩
    have HB3 := Lib.hid (HB1.out.trans (hb3.mono HB1.out.size))
    clear hb3
    go_wp2
    go_ret
    exact ⟨rfl, HB3.out⟩
end Go.Proofs.YtlgohkdckdnmhaaDoor
