/- The law ValueSpreads: its walk. -/
import Derived.Test.YtlgohkdckdnmhaaDoorSpB
import Derived.Test.YtlgohkdckdnmhaaDoorOpenV
import Derived.Test.YtlgohkdckdnmhaaDoorCalcG
namespace Go.Proofs.YtlgohkdckdnmhaaDoor
open Go.RowKit Go.Afx

theorem right_two (v : AV) (h : v.right = true) (hk : v.kind = 2) : v.n = 0 := by
  unfold AV.right at h
  rw [hk] at h
  simp at h
  exact h.1

set_option maxRecDepth 100000 in
set_option maxHeartbeats 4000000 in
theorem spreads_walk (k n : Int) (s : ByteArray) (m : Int) (hm0 : fits m) (w : World) (hm : Mx w) (hn : fits n) :
    Calls Tryd.prog 8 #[.agg #[.int .i64 k, .int .i64 n, .string s], .int .i64 m] w fun e w' => e = .returned (.bool true) ∧ Below w.heap.size w w' := by
  have HAW := Lib.hid (fun w' (h : Below w.heap.size w w') => vawake w' (hm.below h))
  have hb1 : Below w.heap.size w (w.alloc (.cells #[.int .i64 k, .int .i64 n, .string s] 27)) := (Below.refl _ _).alloc (Nat.le_refl _) _
  have HB1 := Lib.hid hb1
  have HBX := Lib.hid (Blk.new w 27 [.int .i64 k, .int .i64 n, .string s])
  obtain ⟨b0, b1, b2, bf⟩ := blk3 HBX.out
  have hr := fun w => refright w ⟨k, n, s⟩
  simp only [AV.agg] at hr
  have hs1 : (w.alloc (.cells #[.int .i64 k, .int .i64 n, .string s] 27)).heap.size = w.heap.size + 1 := by simp
  have HS1 := Lib.hid hs1
  clear hb1 hs1 hm
  by_cases hs : s.size ≤ 300
  · have hd : decide ((300 : Int) < (s.size : Int)) = false := decide_eq_false (by omega)
    cases hrt : AV.right ⟨k, n, s⟩
    · rw [hrt] at hr
      have HR := Lib.hid hr
      clear hr hrt
      go_enter Tryd.func8, Tryd.ntmps8
      go_wp2_with fail
      refine (HR.out _).mono ?_
      rintro e w2 ⟨rfl, hb2⟩
      have HBZ := Lib.hid (HB1.out.trans (hb2.mono HB1.out.size))
      clear hb2
      go_wp2_with fail
      refine (HAW.out _ HBZ.out).mono ?_
      rintro e w9 ⟨rfl, hb9⟩
      have HB9 := Lib.hid (HBZ.out.trans (hb9.mono HBZ.out.size))
      clear hb9
      go_wp2
      go_ret
      exact ⟨rfl, HB9.out⟩
    · rw [hrt] at hr
      have HR := Lib.hid hr
      have hk0 : k = 2 → n = 0 := fun h => right_two ⟨k, n, s⟩ hrt h
      have HSP := Lib.hid (fun w => spread_any w k n s m hm0 hn hk0 hs)
      clear hr hrt
      by_cases hbig : 1000000 < m
      · have hd2 : decide ((1000000 : Int) < m) = true := decide_eq_true hbig
        go_enter Tryd.func8, Tryd.ntmps8
        go_wp2_with fail
        refine (HR.out _).mono ?_
        rintro e w2 ⟨rfl, hb2⟩
        have HBZ := Lib.hid (HB1.out.trans (hb2.mono HB1.out.size))
        clear hb2
        go_wp2_with fail
        refine (HAW.out _ HBZ.out).mono ?_
        rintro e w9 ⟨rfl, hb9⟩
        have HB9 := Lib.hid (HBZ.out.trans (hb9.mono HBZ.out.size))
        clear hb9
        go_wp2
        go_ret
        exact ⟨rfl, HB9.out⟩
      · have hd2 : decide ((1000000 : Int) < m) = false := decide_eq_false hbig
        by_cases hsm : m < 1
        · have hd3 : decide (m < 1) = true := decide_eq_true hsm
          simp only [if_pos hsm] at HSP
          go_enter Tryd.func8, Tryd.ntmps8
          go_wp2_with fail
          refine (HR.out _).mono ?_
          rintro e w2 ⟨rfl, hb2⟩
          have HB2 := Lib.hid (HB1.out.trans (hb2.mono HB1.out.size))
          obtain ⟨c0, c1, c2, cf⟩ := blk3 (HBX.out.below hb2)
          clear hb2
          go_wp2_with fail
          refine (HSP.out _).mono ?_
          rintro e w3 ⟨rfl, hb3⟩
          have HBZ := Lib.hid (HB2.out.trans (hb3.mono HB2.out.size))
          clear hb3
          go_wp2_with fail
          refine (HAW.out _ HBZ.out).mono ?_
          rintro e w9 ⟨rfl, hb9⟩
          have HB9 := Lib.hid (HBZ.out.trans (hb9.mono HBZ.out.size))
          clear hb9
          go_wp2
          go_ret
          exact ⟨rfl, HB9.out⟩
        · have hd3 : decide (m < 1) = false := decide_eq_false hsm
          simp only [if_neg hsm] at HSP
          obtain ⟨M, rfl⟩ : ∃ M : Nat, m = (M : Int) := ⟨m.toNat, by omega⟩
          have HRS := Lib.hid (fun w => refspread_any w k n s M (by omega) (by omega) hn hk0 hs)
          generalize mdN (spT k n s) M = z at *
          have hzz : (z == z) = true := by simp
          clear hk0 hn hm0
          go_enter Tryd.func8, Tryd.ntmps8
          go_wp2_with fail
          refine (HR.out _).mono ?_
          rintro e w2 ⟨rfl, hb2⟩
          have HB2 := Lib.hid (HB1.out.trans (hb2.mono HB1.out.size))
          obtain ⟨c0, c1, c2, cf⟩ := blk3 (HBX.out.below hb2)
          have hxl : w.heap.size < w2.heap.size := by have := hb2.size; have := HS1.out; omega
          clear hb2 HR b0 b1 b2 bf
          have hag : Hid (∀ w3, Below w2.heap.size w2.drew w3 → Agree (fun q => q = w.heap.size) w2.drew w3) := fun w3 h q o hq => h.cell (by cases hq; exact hxl)
          have hag2 : Hid (∀ w3, Below w2.heap.size w2.drew w3 → ∀ w4, Below w3.heap.size w3 w4 → Agree (fun q => q = w.heap.size) w2.drew w4) := fun w3 h w4 h4 => hag.out _ (h.trans (h4.mono h.size))
          go_wp2_with fail
          refine wp_region_lit_plan [] [(1, 0), (4, 0), (0, 1), (3, 2), (2, 3), (5, 4), (6, 0), (7, 0), (8, 4), (9, 0), (10, 0)] (fun q => q = w.heap.size) (by kernel_rfl) (by kernel_rfl) (fun c a d v w h => by cases d <;> exact h) ?_
          go_wp2_with (first
            | (refine plan_pure (v := _) (by rfl) (by rfl) (by rfl) (by intro _; go_simp; with_reducible rfl) ?_; simp only [List.setIfInBounds_toArray, List.set_cons_zero, List.set_cons_succ]; try go_bits) | (refine plan_read (v := _) (by rfl) (by rfl) (by rfl) (by go_simp; with_reducible rfl) ?_; simp only [List.setIfInBounds_toArray, List.set_cons_zero, List.set_cons_succ]; try go_bits) | (refine plan_readB (v := _) (by rfl) (by rfl) (by rfl) (by intro _ hag; unfold Agree at hag; go_simp; with_reducible rfl) ?_; simp only [List.setIfInBounds_toArray, List.set_cons_zero, List.set_cons_succ]; try go_bits) | (refine plan_skip0 (by rfl) (by rfl) (by rfl) ?_; simp only [List.setIfInBounds_toArray, List.set_cons_zero, List.set_cons_succ]; try go_bits) | (refine plan_skip1 (by rfl) (by rfl) (by rfl) ?_; simp only [List.setIfInBounds_toArray, List.set_cons_zero, List.set_cons_succ]; try go_bits) | (refine plan_skip2 (by rfl) (by rfl) (by rfl) ?_; simp only [List.setIfInBounds_toArray, List.set_cons_zero, List.set_cons_succ]; try go_bits) | (refine plan_skip4 (by rfl) (by rfl) (by rfl) ?_; simp only [List.setIfInBounds_toArray, List.set_cons_zero, List.set_cons_succ]; try go_bits) | (refine plan_any (by rfl) ?_) | (refine plan_keep (by rfl) ?_) | (refine plan_nil ?_) | (with_reducible refine And.intro (by first | assumption | exact Agree.refl _ _ | exact agree_drew _ _ | exact agree_alloc _ (by intro k hk; subst hk; first | omega | (simp; omega))) ?_) | (unfold Act.put; simp only [List.setIfInBounds_toArray, List.set_cons_zero, List.set_cons_succ])
            | (go_at_call 38; refine (HSP.out _).mono ?_; clear HSP; rintro e w3 ⟨rfl, hb3⟩; have hag3 := hag.out _ hb3; have hb3' := Lib.hid hb3; have HB3 := Lib.hid (HB2.out.drew.trans (hb3.mono HB2.out.size)); clear hb3)
            | (go_at_call 39; refine (HRS.out _).mono ?_; clear HRS; rintro e w4 ⟨rfl, hb4⟩; have HB4 := Lib.hid (HB3.out.trans (hb4.mono HB3.out.size)); have hag4 := hag2.out _ hb3'.out _ hb4; clear hb4)
            | (go_at_call 14; refine (HAW.out _ HB4.out).mono ?_; rintro e w5 ⟨rfl, hb5⟩; have HB5 := Lib.hid (HB4.out.trans (hb5.mono HB4.out.size)); clear hb5))
          go_ret
          exact ⟨rfl, HB5.out⟩
  · have hd : decide ((300 : Int) < (s.size : Int)) = true := decide_eq_true (by omega)
    have HBZ := HB1
    go_enter Tryd.func8, Tryd.ntmps8
    go_wp2_with fail
    refine (HAW.out _ HBZ.out).mono ?_
    rintro e w9 ⟨rfl, hb9⟩
    have HB9 := Lib.hid (HBZ.out.trans (hb9.mono HBZ.out.size))
    clear hb9
    go_wp2
    go_ret
    exact ⟨rfl, HB9.out⟩
theorem spreads_law (v0 : Value) (v : AV) (m : Int) (hm0 : (Lit.int .i64 m).wf = true) (w : World) (hm : Mx w) (h : v0 = v.agg ∧ v.read) :
    Calls Tryd.prog 8 #[v0, .int .i64 m] w fun e w' => e = .returned (.bool true) ∧ Below w.heap.size w w' := by
  obtain ⟨rfl, h2⟩ := h
  obtain ⟨k, n, s⟩ := v
  exact spreads_walk k n s m (wf_fits hm0) w hm h2.2.1
end Go.Proofs.YtlgohkdckdnmhaaDoor
