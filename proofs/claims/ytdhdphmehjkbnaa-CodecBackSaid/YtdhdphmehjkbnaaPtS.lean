/- The document's reader (Part): Size, Signed, Text. -/
import Derived.Test.YtdhdphmehjkbnaaPtN
namespace Go.Proofs.Ytdhdphmehjkbnaa
open Go.RowKit Go.Afx

set_option maxRecDepth 100000 in
theorem size_pt (w : World) (q : Nat) (bad : Bool) (l : List UInt8) (h : Prt w q bad l) (most : Int) (hm : fit64 most) :
    Calls Try.prog 79 #[.pointer (some ⟨q, 0, none⟩), .int .i64 most] w fun e w' => e = .returned (.int .i64 ((rSize most bad l).1 : Int)) ∧ Prt w' q (rSize most bad l).2.1 (rSize most bad l).2.2 ∧ Only (fun k => k = q) w w' := by
  have HN := Lib.hid (number_pt w q bad l h)
  have hb := rNum_bad bad l
  have hlt := rNum_lt bad l
  unfold fit64 at hm
  unfold rSize
  simp only
  clear h
  generalize rNum bad l = r at *
  obtain ⟨n, bd, l1⟩ := r
  simp only at *
  by_cases hneg : most < 0
  · rw [if_pos (.inr (.inl hneg))]
    clear hb
    have hd : decide (most < 0) = true := decide_eq_true hneg
    go_enter Try.func79, Try.ntmps79
    go_wp2_with fail
    refine HN.out.mono ?_
    clear HN
    rintro e w1 ⟨rfl, hp1, ho1⟩
    have k1 := hp1.cellBad
    have kf := hp1.free
    have HP1 := Lib.hid hp1
    have HO1 := Lib.hid ho1
    clear hp1 ho1
    go_wp2
    go_ret
    exact ⟨rfl, HP1.out.spoil, only_trans HO1.out (only_cell _ _ _ _)⟩
  · have hw : IntKind.u64.wrap most = most := by rw [IntKind.wrap_u64]; omega
    have hd : decide (most < 0) = false := decide_eq_false hneg
    by_cases hgt : most < (n : Int)
    · rw [if_pos (.inr (.inr hgt))]
      clear hb
      go_enter Try.func79, Try.ntmps79
      go_wp2_with fail
      refine HN.out.mono ?_
      clear HN
      rintro e w1 ⟨rfl, hp1, ho1⟩
      have k1 := hp1.cellBad
      have kf := hp1.free
      have HP1 := Lib.hid hp1
      have HO1 := Lib.hid ho1
      clear hp1 ho1
      go_wp2
      go_ret
      exact ⟨rfl, HP1.out.spoil, only_trans HO1.out (only_cell _ _ _ _)⟩
    · have hw2 : IntKind.i64.wrap (n : Int) = n := by rw [IntKind.wrap_i64]; omega
      cases bd
      · rw [if_neg (by simp [hneg, hgt])]
        clear hb
        go_enter Try.func79, Try.ntmps79
        go_wp2_with fail
        refine HN.out.mono ?_
        clear HN
        rintro e w1 ⟨rfl, hp1, ho1⟩
        have k1 := hp1.cellBad
        have HP1 := Lib.hid hp1
        have HO1 := Lib.hid ho1
        clear hp1 ho1
        go_wp2
        go_ret
        exact ⟨by first | rfl | rw [hw2], HP1.out, HO1.out⟩
      · rw [if_pos (.inl rfl)]
        obtain ⟨rfl, rfl⟩ := hb rfl
        clear hb
        go_enter Try.func79, Try.ntmps79
        go_wp2_with fail
        refine HN.out.mono ?_
        clear HN
        rintro e w1 ⟨rfl, hp1, ho1⟩
        have k1 := hp1.cellBad
        have HP1 := Lib.hid hp1
        have HO1 := Lib.hid ho1
        clear hp1 ho1
        go_wp2
        go_ret
        exact ⟨rfl, HP1.out, HO1.out⟩

set_option maxRecDepth 100000 in
theorem sign_pt (w : World) (q : Nat) (bad : Bool) (l : List UInt8) (h : Prt w q bad l) :
    Calls Try.prog 80 #[.pointer (some ⟨q, 0, none⟩)] w fun e w' => e = .returned (.int .i64 (rSign bad l).1) ∧ Prt w' q (rSign bad l).2.1 (rSign bad l).2.2 ∧ Only (fun k => k = q) w w' := by
  have HN := Lib.hid (number_pt w q bad l h)
  have hlt := rNum_lt bad l
  unfold rSign
  simp only
  clear h
  generalize rNum bad l = r at *
  obtain ⟨n, bd, l1⟩ := r
  simp only at *
  have hdiv : (n : Int) / 2 ≤ 9223372036854775807 := by omega
  have hdiv0 : 0 ≤ (n : Int) / 2 := by omega
  have hu : unzig n = if n % 2 = 0 then (n : Int) / 2 else -((n : Int) / 2) - 1 := by
    unfold unzig
    split <;> omega
  have HU := Lib.hid hu
  rcases Nat.mod_two_eq_zero_or_one n with h0 | h0
  · have hm : (n : Int) % 2 = 0 := by omega
    have e1 : unzig n = (n : Int) / 2 := by rw [hu, if_pos h0]
    rw [e1]
    clear hu e1 h0
    go_enter Try.func80, Try.ntmps80
    go_wp2_with (go_at_call 99; refine HN.out.mono ?_; clear HN; rintro e w1 ⟨rfl, hp1, ho1⟩)
    go_ret
    exact ⟨rfl, hp1, ho1⟩
  · have hm : (n : Int) % 2 = 1 := by omega
    have e1 : unzig n = -((n : Int) / 2) - 1 := by rw [hu, if_neg (by omega)]
    rw [e1]
    clear hu e1 h0
    go_enter Try.func80, Try.ntmps80
    go_wp2_with (go_at_call 99; refine HN.out.mono ?_; clear HN; rintro e w1 ⟨rfl, hp1, ho1⟩)
    go_ret
    exact ⟨rfl, hp1, ho1⟩

set_option maxRecDepth 100000 in
theorem text_pt (w : World) (q : Nat) (bad : Bool) (l : List UInt8) (h : Prt w q bad l) (most : Int) (hm : fit64 most) :
    Calls Try.prog 81 #[.pointer (some ⟨q, 0, none⟩), .int .i64 most] w fun e w' => e = .returned (.string (bs (rText most bad l).1)) ∧ Prt w' q (rText most bad l).2.1 (rText most bad l).2.2 ∧ Only (fun k => k = q) w w' := by
  have HS := Lib.hid (size_pt w q bad l h most hm)
  unfold rText
  clear h hm
  generalize rSize most bad l = r at *
  obtain ⟨n, bd, l1⟩ := r
  simp only at *
  go_enter Try.func81, Try.ntmps81
  go_wp2_with (go_at_call 79; refine HS.out.mono ?_; clear HS; rintro e w1 ⟨rfl, hr1, ho1⟩; have HC := Lib.hid (cut_pt w1 q _ _ hr1 n); have HO1 := Lib.hid ho1; clear hr1 ho1)
  refine HC.out.mono ?_
  rintro e w2 ⟨rfl, hp2, ho2⟩
  have HP2 := Lib.hid hp2
  have HO2 := Lib.hid ho2
  clear hp2 ho2 HC
  go_wp2
  go_ret
  exact ⟨rfl, HP2.out, only_trans HO1.out HO2.out⟩
end Go.Proofs.Ytdhdphmehjkbnaa
