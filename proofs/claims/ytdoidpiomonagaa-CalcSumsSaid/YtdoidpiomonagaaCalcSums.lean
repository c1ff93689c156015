/- The law CalcSums: what the walk shows. -/
import Derived.Test.YtdoidpiomonagaaBigI
namespace Go.Proofs.Ytdoidpiomonagaa
open Go.RowKit Go.Afx

set_option maxRecDepth 100000 in
set_option maxHeartbeats 2000000 in
theorem sums_walk (a : Int) (wa : (Lit.int .i64 a).wf = true) (v : Value) (l : List Int) (w : World) (hlf : Sl w (fun _ => True) 1 v l.length (ints l) ∧ ∀ x ∈ l, fits x) :
    Calls Try.prog 9 #[.int .i64 a, v] w fun e w' => e = .returned (.bool true) ∧ Below w.heap.size w w' := by
  have fa := wf_fits wa
  obtain ⟨hl, hfit⟩ := hlf
  obtain ⟨p, cap, rfl, hc1, hc2⟩ := hl.form
  by_cases hlen : 40 < l.length
  · have d1 : (40 : Int) < l.length := by omega
    clear hl hfit
    go_enter Try.func9, Try.ntmps9
    go_wp2_with (go_at_call 26; refine (awake_true _).mono ?_; rintro e w2 ⟨rfl, hb2⟩)
    go_ret
    exact ⟨rfl, hb2⟩
  have d1 : (l.length : Int) ≤ 40 := by omega
  have CADD := Lib.hid (fun (w' : World) (h : Below w.heap.size w w') => add_any w' (.slice p l.length cap) l (hl.below h) hfit (by omega))
  have CMUL := Lib.hid (fun (w' : World) (h : Below w.heap.size w w') => mul_any w' (.slice p l.length cap) l (hl.below h) hfit (by omega))
  have CSUB := Lib.hid (fun (w' : World) (h : Below w.heap.size w w') => sub_any w' a fa (.slice p l.length cap) l (hl.below h) hfit (by omega))
  have CNEG := Lib.hid (fun w' => neg_any w' a fa)
  have CSUM := Lib.hid (fun (w' : World) (m : Bool) (h : Below w.heap.size w w') => sum_num w' (.slice p l.length cap) l m (hl.below h) hfit (by omega))
  have CPRO := Lib.hid (fun (w' : World) (h : Below w.heap.size w w') => product_num w' (.slice p l.length cap) l (hl.below h) hfit (by omega))
  have COF := Lib.hid (fun w' => of_num w' a fa)
  have HLS : Hid (∀ m, (ld (msum m l).natAbs).length ≤ 30) := fun m => msum_small m l hfit (by omega)
  have HLP : Hid ((ld (prodI l).natAbs).length ≤ 2000) := by have := prod_len l hfit l.length (by omega); rwa [List.take_length] at this
  have HLA := Lib.hid (fits_small fa)
  have HLD : Hid ((ld (a + msum true l).natAbs).length ≤ 30) := by
    have h := sum_range l hfit
    have e : (10 : Nat) ^ 30 = 1000000000000000000000000000000 := by decide
    refine ld_len_le _ 30 ?_
    rw [e]
    unfold fits at fa
    show (a + -l.sum).natAbs < _
    omega
  have e1 : l.sum = msum false l := rfl
  have e2 : a - l.sum = a + msum true l := by show a - l.sum = a + -l.sum; omega
  rw [e1] at CADD
  rw [e2] at CSUB
  clear wa fa hl hfit hlen e1 e2
  have CT := Lib.hid (fun (w' : World) (va : Value) (z : Int) (sn se : Int) (h1 : IsNum w' (fun _ => True) va z) (h2 : (ld z.natAbs).length ≤ 10000) (h3 : sn = shortN z) (h4 : se = shortE z) => by
    have := told_any w' va z h1 h2
    rw [← h3, ← h4] at this
    exact this)
  have HNA : Hid ((ld (-a).natAbs).length ≤ 30) := by have := HLA.out; rw [Int.natAbs_neg]; exact this
  generalize hms1 : msum false l = m1 at *
  generalize hms2 : msum true l = m2 at *
  have HM1 := Lib.hid hms1
  have HM2 := Lib.hid hms2
  clear hms1 hms2
  generalize prodI l = pr at *
  obtain ⟨n1, hn1⟩ : ∃ n, n = shortN m1 := ⟨_, rfl⟩
  obtain ⟨f1, hf1⟩ : ∃ n, n = shortE m1 := ⟨_, rfl⟩
  obtain ⟨n2, hn2⟩ : ∃ n, n = shortN pr := ⟨_, rfl⟩
  obtain ⟨f2, hf2⟩ : ∃ n, n = shortE pr := ⟨_, rfl⟩
  obtain ⟨n3, hn3⟩ : ∃ n, n = shortN (a + m2) := ⟨_, rfl⟩
  obtain ⟨f3, hf3⟩ : ∃ n, n = shortE (a + m2) := ⟨_, rfl⟩
  obtain ⟨n4, hn4⟩ : ∃ n, n = shortN (-a) := ⟨_, rfl⟩
  obtain ⟨f4, hf4⟩ : ∃ n, n = shortE (-a) := ⟨_, rfl⟩
  rw [← hn1, ← hf1] at CADD
  rw [← hn2, ← hf2] at CMUL
  rw [← hn3, ← hf3] at CSUB
  rw [← hn4, ← hf4] at CNEG
  have CT1 := Lib.hid (fun w' va h1 h2 => CT.out w' va m1 n1 f1 h1 h2 hn1 hf1)
  have CT2 := Lib.hid (fun w' va h1 h2 => CT.out w' va pr n2 f2 h1 h2 hn2 hf2)
  have CT3 := Lib.hid (fun w' va h1 h2 => CT.out w' va (a + m2) n3 f3 h1 h2 hn3 hf3)
  have CT4 := Lib.hid (fun w' va h1 h2 => CT.out w' va (-a) n4 f4 h1 h2 hn4 hf4)
  clear hn1 hf1 hn2 hf2 hn3 hf3 hn4 hf4 CT
  go_enter Try.func9, Try.ntmps9
  go_wp2_with (first
    | (go_at_call 40; refine (CADD.out _ (Below.refl _ _)).mono ?_; rintro e w1 ⟨rfl, hb1⟩)
    | (go_at_call 41; refine (CMUL.out _ hb1).mono ?_; rintro e w2 ⟨rfl, hb2⟩; have hc2 := hb1.trans (hb2.mono hb1.size))
    | (go_at_call 42; refine (CSUB.out _ hc2).mono ?_; rintro e w3 ⟨rfl, hb3⟩; have hc3 := hc2.trans (hb3.mono hc2.size))
    | (go_at_call 43; refine (CNEG.out _).mono ?_; rintro e w4 ⟨rfl, hb4⟩; have hc4 := hc3.trans (hb4.mono hc3.size)))
  have HC4 := Lib.hid hc4
  clear hb1 hb2 hb3 hb4 hc2 hc3 hc4
  refine (CSUM.out _ false HC4.out).mono ?_
  rintro e w5 ⟨v5, rfl, hn5, hb5⟩
  obtain ⟨s5, p5, l5, c5, rfl⟩ := hn5.parts
  have HN5 : Hid (IsNum w5 (fun _ => True) (.agg #[.bool s5, .slice p5 l5 c5]) m1) := by have := hn5.weak (B' := fun _ => True) (fun _ _ => trivial); rwa [HM1.out] at this
  have HC5 := Lib.hid (HC4.out.trans (hb5.mono HC4.out.size))
  clear hn5 hb5
  go_wp2_with (first
    | (go_at_call 27; refine (CT1.out _ _ HN5.out (Nat.le_trans (by have := HLS.out false; rwa [HM1.out] at this) (by omega))).mono ?_; clear CT1; rintro e w6 ⟨rfl, hb6⟩; have HC6 := Lib.hid (HC5.out.trans (hb6.mono HC5.out.size)); clear hb6))
  refine (CPRO.out _ HC6.out).mono ?_
  rintro e w7 ⟨v7, rfl, hn7, hb7⟩
  obtain ⟨s7, p7, l7, c7, rfl⟩ := hn7.parts
  have HN7 := Lib.hid (hn7.weak (B' := fun _ => True) (fun _ _ => trivial))
  have HC7 := Lib.hid (HC6.out.trans (hb7.mono HC6.out.size))
  clear hn7 hb7
  go_wp2_with (first
    | (go_at_call 27; refine (CT2.out _ _ HN7.out (Nat.le_trans HLP.out (by omega))).mono ?_; clear CT2; rintro e w8 ⟨rfl, hb8⟩; have HC8 := Lib.hid (HC7.out.trans (hb8.mono HC7.out.size)); clear hb8))
  refine (COF.out _).mono ?_
  rintro e w9 ⟨v9, rfl, hn9, hb9⟩
  obtain ⟨s9, p9, l9, c9, rfl⟩ := hn9.parts
  have HN9 := Lib.hid (hn9.weak (B' := fun _ => True) (fun _ _ => trivial))
  have HC9 := Lib.hid (HC8.out.trans (hb9.mono HC8.out.size))
  clear hn9 hb9
  go_wp2_with fail
  refine (CSUM.out _ true HC9.out).mono ?_
  rintro e w10 ⟨v10, rfl, hn10, hb10⟩
  obtain ⟨s10, p10, l10, c10, rfl⟩ := hn10.parts
  have HN10 : Hid (IsNum w10 (fun _ => True) (.agg #[.bool s10, .slice p10 l10 c10]) m2) := by have := hn10.weak (B' := fun _ => True) (fun _ _ => trivial); rwa [HM2.out] at this
  have HN9' := Lib.hid (HN9.out.below hb10)
  have HC10 := Lib.hid (HC9.out.trans (hb10.mono HC9.out.size))
  clear hn10 hb10
  go_wp2_with fail
  refine (plus_num w10 _ _ _ _ HN9'.out HN10.out (Nat.le_trans HLA.out (by omega)) (Nat.le_trans (by have := HLS.out true; rwa [HM2.out] at this) (by omega))).mono ?_
  rintro e w11 ⟨v11, rfl, hn11, hb11⟩
  obtain ⟨s11, p11, l11, c11, rfl⟩ := hn11.parts
  have HN11 := Lib.hid (hn11.weak (B' := fun _ => True) (fun _ _ => trivial))
  have HC11 := Lib.hid (HC10.out.trans (hb11.mono HC10.out.size))
  clear hn11 hb11
  go_wp2_with (first
    | (go_at_call 27; refine (CT3.out _ _ HN11.out (Nat.le_trans HLD.out (by omega))).mono ?_; clear CT3; rintro e w12 ⟨rfl, hb12⟩; have HC12 := Lib.hid (HC11.out.trans (hb12.mono HC11.out.size)); clear hb12))
  refine (COF.out _).mono ?_
  rintro e w13 ⟨v13, rfl, hn13, hb13⟩
  obtain ⟨s13, p13, l13, c13, rfl⟩ := hn13.parts
  have HN13 := Lib.hid (hn13.weak (B' := fun _ => True) (fun _ _ => trivial))
  have HC13 := Lib.hid (HC12.out.trans (hb13.mono HC12.out.size))
  clear hn13 hb13
  go_wp2_with fail
  refine (minus_num w13 _ _ _ HN13.out (Nat.le_trans HLA.out (by omega))).mono ?_
  rintro e w14 ⟨v14, rfl, hn14, hb14⟩
  obtain ⟨s14, p14, l14, c14, rfl⟩ := hn14.parts
  have HN14 := Lib.hid hn14
  have HC14 := Lib.hid (HC13.out.trans (hb14.mono HC13.out.size))
  clear hn14 hb14
  go_wp2_with (first
    | (go_at_call 27; refine (CT4.out _ _ HN14.out (Nat.le_trans HNA.out (by omega))).mono ?_; clear CT4; rintro e w15 ⟨rfl, hb15⟩; have HC15 := Lib.hid (HC14.out.trans (hb15.mono HC14.out.size)); clear hb15)
    | (go_at_call 26; refine (awake_true _).mono ?_; rintro e w16 ⟨rfl, hb16⟩))
  go_ret
  exact ⟨rfl, HC15.out.trans (hb16.mono HC15.out.size)⟩
end Go.Proofs.Ytdoidpiomonagaa
