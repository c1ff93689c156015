/- The law CalcDivides: what the walk shows. -/
import Derived.Test.YtdoidpiomonagaaFloor
namespace Go.Proofs.Ytdoidpiomonagaa
open Go.RowKit Go.Afx

set_option maxRecDepth 100000 in
set_option maxHeartbeats 2000000 in
theorem divides_walk (a : Int) (wa : (Lit.int .i64 a).wf = true) (b : Int) (wb : (Lit.int .i64 b).wf = true) (w : World) :
    Calls Try.prog 6 #[.int .i64 a, .int .i64 b] w fun e w' => e = .returned (.bool true) ∧ Below w.heap.size w w' := by
  have fa := wf_fits wa
  have fb := wf_fits wb
  have HD := Lib.hid (fun w => div_any w a b fa fb)
  have HM := Lib.hid (fun w => mod_any w a b fa fb)
  clear wa wb
  by_cases h0 : b = 0
  · subst h0
    have e1 : dvN a 0 = 0 := by simp [dvN]
    have e2 : dvE a 0 = 3 := by simp [dvE]
    have e3 : mdN a 0 = 0 := by simp [mdN]
    have e4 : mdE 0 = 3 := by simp [mdE]
    rw [e1, e2] at HD
    rw [e3, e4] at HM
    clear e1 e2 e3 e4 fa fb
    go_enter Try.func6, Try.ntmps6
    go_wp2_with (first
      | (go_at_call 24; refine (HD.out _).mono ?_; rintro e w2 ⟨rfl, hb2⟩)
      | (go_at_call 25; refine (HM.out _).mono ?_; rintro e w3 ⟨rfl, hb3⟩)
      | (go_at_call 26; refine (awake_true _).mono ?_; rintro e w4 ⟨rfl, hb4⟩))
    go_ret
    have h3 := hb2.trans (hb3.mono hb2.size)
    exact ⟨rfl, h3.trans (hb4.mono h3.size)⟩
  by_cases h1 : b = -1
  · subst h1
    have e1 : dvN a (-1) = shortN (-a) := by simp [dvN]
    have e2 : dvE a (-1) = shortE (-a) := by simp [dvE]
    have e3 : mdN a (-1) = 0 := by simp [mdN]
    have e4 : mdE (-1) = 0 := by simp [mdE]
    rw [e1, e2] at HD
    rw [e3, e4] at HM
    have COA := Lib.hid (fun w' => of_num w' a fa)
    have LA := Lib.hid (fits_small fa)
    have CT : Hid (∀ (w' : World) (va : Value), IsNum w' (fun _ => True) va (-a) → Calls Try.prog 27 #[va, .int .i64 (shortN (-a)), .int .i64 (shortE (-a))] w' fun e w2 => e = .returned (.bool true) ∧ Below w'.heap.size w' w2) := fun w' va h =>
      told_any w' va (-a) h (by have := LA.out; rw [Int.natAbs_neg]; omega)
    clear e1 e2 e3 e4 fa fb h0
    generalize shortN (-a) = n at *
    generalize shortE (-a) = f at *
    go_enter Try.func6, Try.ntmps6
    go_wp2_with (first
      | (go_at_call 24; refine (HD.out _).mono ?_; rintro e w2 ⟨rfl, hb2⟩)
      | (go_at_call 25; refine (HM.out _).mono ?_; rintro e w3 ⟨rfl, hb3⟩))
    have hb23 := Lib.hid (hb2.trans (hb3.mono hb2.size))
    clear hb2 hb3
    refine (COA.out _).mono ?_
    rintro e w4 ⟨v4, rfl, hn4, hb4⟩
    obtain ⟨s4, p4, l4, c4, rfl⟩ := hn4.parts
    have HN4 := Lib.hid hn4
    have HC4 := Lib.hid (hb23.out.trans (hb4.mono hb23.out.size))
    clear hn4 hb4
    go_wp2_with fail
    refine (minus_num w4 _ _ a HN4.out (Nat.le_trans LA.out (by omega))).mono ?_
    rintro e w5 ⟨v5, rfl, hn5, hb5⟩
    obtain ⟨s5, p5, l5, c5, rfl⟩ := hn5.parts
    have HN5 := Lib.hid (hn5.weak (B' := fun _ => True) (fun _ _ => trivial))
    have HC5 := Lib.hid (HC4.out.trans (hb5.mono HC4.out.size))
    clear hn5 hb5
    go_wp2_with (first
      | (go_at_call 27; refine (CT.out _ _ HN5.out).mono ?_; rintro e w6 ⟨rfl, hb6⟩; have HC6 := Lib.hid (HC5.out.trans (hb6.mono HC5.out.size)); clear hb6)
      | (go_at_call 26; refine (awake_true _).mono ?_; rintro e w7 ⟨rfl, hb7⟩))
    go_ret
    exact ⟨rfl, HC6.out.trans (hb7.mono HC6.out.size)⟩
  have hl := rests_law a b
  have ed : dvE a b = 0 := by simp [dvE, h0, h1]
  have em : mdE b = 0 := by simp [mdE, h0]
  have hl2 : dvN a b * b + mdN a b = a ∧ (0 < b ∧ 0 ≤ mdN a b ∧ mdN a b < b ∨ b < 0 ∧ mdN a b ≤ 0 ∧ b < mdN a b) := by
    rcases hl with h | h | h
    · omega
    · omega
    · exact ⟨h.2.2.1, h.2.2.2⟩
  have fq : fits (dvN a b) := by
    unfold dvN
    rw [if_neg h0, if_neg h1]
    rcases parts_law a b h0 with ⟨hn, _, _, e1, _⟩ | ⟨_, e1, _⟩
    · have := tdiv_low a b fa h1 hn h0
      have := tdiv_fits a b fa h1
      unfold fits at *; omega
    · rw [e1]; exact tdiv_fits a b fa h1
  rw [ed] at HD
  rw [em] at HM
  clear hl ed em
  have q0 : (b == 0) = false := by rw [beq_eq_false_iff_ne]; exact h0
  have q1 : (b == -1) = false := by rw [beq_eq_false_iff_ne]; exact h1
  generalize dvN a b = q at *
  generalize mdN a b = r at *
  have fr : fits r := by unfold fits at *; omega
  have COA := Lib.hid (fun w' => of_num w' a fa)
  have COB := Lib.hid (fun w' => of_num w' b fb)
  have COQ := Lib.hid (fun w' => of_num w' q fq)
  have LA := Lib.hid (fits_small fa)
  have LB := Lib.hid (fits_small fb)
  have LQ := Lib.hid (fits_small fq)
  have LR := Lib.hid (fits_small fr)
  have CF := Lib.hid (fun w' => floor_num w' a b q r fa fb fq hl2.1 hl2.2)
  have er1 : shortN r = r := by unfold shortN; rw [if_pos fr]
  have er2 : shortE r = 0 := by unfold shortE; rw [if_pos fr]
  have CT : Hid (∀ (w' : World) (va : Value), IsNum w' (fun _ => True) va r → Calls Try.prog 27 #[va, .int .i64 r, .int .i64 0] w' fun e w2 => e = .returned (.bool true) ∧ Below w'.heap.size w' w2) := fun w' va h => by
    have := told_any w' va r h (by have := LR.out; omega)
    rwa [er1, er2] at this
  have elow : b * q = a - r := by rw [Int.mul_comm]; omega
  have LL : Hid ((ld (b * q).natAbs).length ≤ 40) := by rw [elow]; unfold fits at fa fr; exact len40 (by omega) (by omega)
  have EL : Hid (a + -(b * q) = r) := by show _ = _; omega
  clear fa fb fq fr hl2 er1 er2 elow h0 h1
  go_enter Try.func6, Try.ntmps6
  go_wp2_with (first
    | (go_at_call 24; refine (HD.out _).mono ?_; rintro e w2 ⟨rfl, hb2⟩)
    | (go_at_call 25; refine (HM.out _).mono ?_; rintro e w3 ⟨rfl, hb3⟩))
  have H0 := Lib.hid (Nums.keep (Nums.keep (Nums.start w) hb2) hb3)
  clear hb2 hb3
  refine (COA.out _).mono ?_
  rintro e w4 ⟨v4, rfl, hn4, hb4⟩
  obtain ⟨s4, p4, l4, c4, rfl⟩ := hn4.parts
  have H4 := Lib.hid (Nums.call H0.out hb4 (hn4.weak fun k hk => Nat.le_of_lt hk))
  clear hn4 hb4
  go_wp2_with fail
  refine (COB.out _).mono ?_
  rintro e w5 ⟨v5, rfl, hn5, hb5⟩
  obtain ⟨s5, p5, l5, c5, rfl⟩ := hn5.parts
  have H5 := Lib.hid (Nums.call H4.out hb5 (hn5.weak fun k hk => Nat.le_of_lt hk))
  clear hn5 hb5
  go_wp2_with fail
  refine (COQ.out _).mono ?_
  rintro e w6 ⟨v6, rfl, hn6, hb6⟩
  obtain ⟨s6, p6, l6, c6, rfl⟩ := hn6.parts
  have H6 := Lib.hid (Nums.call H5.out hb6 (hn6.weak fun k hk => Nat.le_of_lt hk))
  clear hn6 hb6
  go_wp2_with fail
  refine (times_num w6 _ _ b q (H6.out.any (by simp)) (H6.out.any (by simp)) (Nat.le_trans LB.out (by omega)) (Nat.le_trans LQ.out (by omega))).mono ?_
  rintro e w7 ⟨v7, rfl, hn7, hb7⟩
  obtain ⟨s7, p7, l7, c7, rfl⟩ := hn7.parts
  have H7 := Lib.hid (Nums.call H6.out hb7 hn7)
  clear hn7 hb7
  go_wp2_with fail
  refine (minus_num w7 _ _ (b * q) (H7.out.num (by simp)) (Nat.le_trans LL.out (by omega))).mono ?_
  rintro e w8 ⟨v8, rfl, hn8, hb8⟩
  obtain ⟨s8, p8, l8, c8, rfl⟩ := hn8.parts
  have H8 := Lib.hid (Nums.call' H7.out hb8 hn8)
  clear hn8 hb8
  go_wp2_with fail
  refine (plus_num w8 _ _ a (-(b * q)) (H8.out.any (by simp)) (H8.out.any (by simp)) (Nat.le_trans LA.out (by omega)) (by rw [Int.natAbs_neg]; exact Nat.le_trans LL.out (by omega))).mono ?_
  rintro e w9 ⟨v9, rfl, hn9, hb9⟩
  obtain ⟨s9, p9, l9, c9, rfl⟩ := hn9.parts
  rw [EL.out] at hn9
  have H9 := Nums.made (s := s9) (p := p9) (l := l9) (c := c9) (z := r) (Nums.call H8.out hb9 hn9) (by simp)
  have H9' := Lib.hid H9
  obtain ⟨s10, p10, l10, c10, y0, y1, yf, _, _, hf10⟩ := H9.read (b := w9.heap.size) (z := r) (by simp)
  have HF10 := Lib.hid hf10
  clear hn9 hb9 H9 hf10 y0 y1 yf
  generalize hw10 : (w9.alloc (.cells #[.bool s9, .slice p9 l9 c9] 48)) = w10 at *
  go_wp2_with (first
    | rw [hw10])
  refine (CF.out _).mono ?_
  rintro e w11 ⟨rfl, hb11⟩
  have H11 := Nums.keep H9'.out hb11
  obtain ⟨s12, p12, l12, c12, x0, x1, _, _, _, hf12⟩ := H11.read (b := w9.heap.size) (z := r) (by simp)
  have HF12 := Lib.hid hf12
  clear H11 hf12 hb11
  go_wp2_with (first
    | (go_at_call 27; refine (CT.out _ _ (HF12.out.any (by simp))).mono ?_; rintro e w13 ⟨rfl, hb13⟩)
    | (go_at_call 26; refine (awake_true _).mono ?_; rintro e w14 ⟨rfl, hb14⟩))
  go_ret
  have h1 := HF12.out.below.trans (hb13.mono HF12.out.below.size)
  exact ⟨rfl, h1.trans (hb14.mono h1.size)⟩
end Go.Proofs.Ytdoidpiomonagaa
