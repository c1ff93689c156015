/- The reader: Size, Signed, Text. -/
import Derived.Test.YtdhdphmehjkbnaaRdF
import Derived.Laws.Bits64
namespace Go.Proofs.Ytdhdphmehjkbnaa
open Go.RowKit Go.Afx
variable {RB : Nat → Prop}

theorem mine_trans {w w' w'' : World} {p : Option Addr} (h : Only (Mine p) w w') (h2 : Only (Mine p) w' w'') : Only (Mine p) w w'' := h.trans h2 (fun _ _ h => h)
theorem rNum_bad (bad : Bool) (l : List UInt8) (h : (rNum bad l).2.1 = true) : (rNum bad l).1 = 0 ∧ (rNum bad l).2.2 = [] := by
  unfold rNum at *
  simp only at *
  split at h
  · rename_i h1; rw [if_pos h1]; exact ⟨rfl, rfl⟩
  · rename_i h1
    rw [if_neg h1]
    split at h
    · rename_i h2; rw [if_pos h2]; exact ⟨rfl, rfl⟩
    · rename_i h2
      rw [if_neg h2]
      split at h
      · rename_i h3; rw [if_pos h3]; exact ⟨rfl, rfl⟩
      · cases h
theorem rNum_lt (bad : Bool) (l : List UInt8) : (rNum bad l).1 < 18446744073709551616 := by
  unfold rNum
  simp only
  split
  · exact (by decide)
  · split
    · exact (by decide)
    · rename_i h2
      split
      · exact (by decide)
      · have h1 := ofBytes_lt (rByte bad l).2.2 (rByte bad l).1.toNat
        have h3 : (rByte bad l).1.toNat ≤ 8 := by
          rcases Nat.lt_or_ge 8 (rByte bad l).1.toNat with h | h
          · exact absurd (.inl h) h2
          · exact h
        exact Nat.lt_of_lt_of_le h1 (Nat.le_trans (Nat.pow_le_pow_right (by omega) h3) (by decide))

/-- A number of at most 'most', and the reader behind it. -/
def rSize (most : Int) (bad : Bool) (l : List UInt8) : Nat × Bool × List UInt8 :=
  let r := rNum bad l
  if r.2.1 = true ∨ most < 0 ∨ most < (r.1 : Int) then (0, true, []) else r

set_option maxRecDepth 100000 in
theorem size_r (w : World) (p : Option Addr) (bad : Bool) (l : List UInt8) (h : Rdr w p RB bad l) (most : Int) (hm : fit64 most) :
    Calls Try.prog 71 #[.pointer p, .int .i64 most] w fun e w' => e = .returned (.int .i64 ((rSize most bad l).1 : Int)) ∧ Rdr w' p RB (rSize most bad l).2.1 (rSize most bad l).2.2 ∧ Only (Mine p) w w' := by
  have HN := Lib.hid (number_r w p bad l h)
  have hb := rNum_bad bad l
  have hlt := rNum_lt bad l
  unfold fit64 at hm
  unfold rSize
  simp only
  clear h
  generalize rNum bad l = r at *
  obtain ⟨n, bd, l1⟩ := r
  simp only at *
  cases bd
  · by_cases hneg : most < 0
    · rw [if_pos (.inr (.inl hneg))]
      clear hb
      have hd : decide (most < 0) = true := decide_eq_true hneg
      go_enter Try.func71, Try.ntmps71
      go_wp2_with fail
      refine HN.out.mono ?_
      rintro e w1 ⟨rfl, hr1, ho1⟩
      have HG := Lib.hid (good_r w1 p _ _ hr1)
      have HF := Lib.hid (fail_r w1 p _ _ hr1)
      have HO1 := Lib.hid ho1
      clear hr1 ho1
      go_wp2_with (go_at_call 52; refine HG.out.mono ?_; clear HG; rintro e w2 ⟨rfl, rfl⟩)
      refine HF.out.mono ?_
      rintro e w3 ⟨rfl, hr3, ho3⟩
      have HG := Lib.hid (good_r w3 p _ _ hr3)
      have HR3 := Lib.hid hr3
      have HO3 := Lib.hid ho3
      clear hr3 ho3
      go_wp2_with (go_at_call 52; refine HG.out.mono ?_; clear HG; rintro e w2 ⟨rfl, rfl⟩)
      go_ret
      exact ⟨rfl, HR3.out, mine_trans HO1.out HO3.out⟩
    · have hw : IntKind.u64.wrap most = most := by rw [IntKind.wrap_u64]; omega
      by_cases hgt : most < (n : Int)
      · rw [if_pos (.inr (.inr hgt))]
        clear hb
        go_enter Try.func71, Try.ntmps71
        go_wp2_with fail
        refine HN.out.mono ?_
        rintro e w1 ⟨rfl, hr1, ho1⟩
        have HG := Lib.hid (good_r w1 p _ _ hr1)
        have HF := Lib.hid (fail_r w1 p _ _ hr1)
        have HO1 := Lib.hid ho1
        clear hr1 ho1
        go_wp2_with (go_at_call 52; refine HG.out.mono ?_; clear HG; rintro e w2 ⟨rfl, rfl⟩)
        refine HF.out.mono ?_
        rintro e w3 ⟨rfl, hr3, ho3⟩
        have HG := Lib.hid (good_r w3 p _ _ hr3)
        have HR3 := Lib.hid hr3
        have HO3 := Lib.hid ho3
        clear hr3 ho3
        go_wp2_with (go_at_call 52; refine HG.out.mono ?_; clear HG; rintro e w2 ⟨rfl, rfl⟩)
        go_ret
        exact ⟨rfl, HR3.out, mine_trans HO1.out HO3.out⟩
      · rw [if_neg (by simp [hneg, hgt])]
        clear hb
        have hw2 : IntKind.i64.wrap (n : Int) = n := by rw [IntKind.wrap_i64]; omega
        go_enter Try.func71, Try.ntmps71
        go_wp2_with fail
        refine HN.out.mono ?_
        rintro e w1 ⟨rfl, hr1, ho1⟩
        have HG := Lib.hid (good_r w1 p _ _ hr1)
        have HR1 := Lib.hid hr1
        have HO1 := Lib.hid ho1
        clear hr1 ho1
        go_wp2_with (go_at_call 52; refine HG.out.mono ?_; rintro e w2 ⟨rfl, rfl⟩)
        go_ret
        exact ⟨by first | rfl | rw [hw2], HR1.out, HO1.out⟩
  · rw [if_pos (.inl rfl)]
    obtain ⟨rfl, rfl⟩ := hb rfl
    clear hb
    go_enter Try.func71, Try.ntmps71
    go_wp2_with fail
    refine HN.out.mono ?_
    rintro e w1 ⟨rfl, hr1, ho1⟩
    have HG := Lib.hid (good_r w1 p _ _ hr1)
    have HR1 := Lib.hid hr1
    have HO1 := Lib.hid ho1
    clear hr1 ho1
    go_wp2_with (go_at_call 52; refine HG.out.mono ?_; rintro e w2 ⟨rfl, rfl⟩)
    go_ret
    exact ⟨rfl, HR1.out, HO1.out⟩

/-- A signed number, out of its place. -/
def unzig (n : Nat) : Int := if n % 2 = 0 then n / 2 else -(n / 2 : Nat) - 1
theorem wrap_64 (x : Int) : wrap64 x = IntKind.i64.wrap x := by rw [IntKind.wrap_i64]; unfold wrap64; first | rfl | omega
theorem unzig_bits (n : Nat) (h : n < 18446744073709551616) : bits .xor .i64 ((n : Int) / 2) (IntKind.i64.wrap (-IntKind.i64.wrap (bits .and .u64 (n : Int) 1))) = unzig n := by
  have e1 : bits .and .u64 (n : Int) 1 = ((n % 2 : Nat) : Int) := by
    have := bits_and_u64_nat n 1 h (by decide)
    rw [Nat.and_one_is_mod] at this
    exact this
  have e2 : (n : Int) / 2 = ((n / 2 : Nat) : Int) := by omega
  have h1 : (BitVec.ofInt 64 ((n / 2 : Nat) : Int)).toNat = n / 2 := by
    rw [BitVec.ofInt_natCast, BitVec.toNat_ofNat]; exact Nat.mod_eq_of_lt (by omega)
  rw [e1, e2]
  unfold unzig
  rcases Nat.mod_two_eq_zero_or_one n with h0 | h0
  · rw [h0, if_pos rfl]
    have e3 : IntKind.i64.wrap (-IntKind.i64.wrap ((0 : Nat) : Int)) = ((0 : Nat) : Int) := by rfl
    rw [e3]
    show IntKind.i64.wrap ((BitVec.ofInt 64 ((n / 2 : Nat) : Int) ^^^ BitVec.ofInt 64 ((0 : Nat) : Int)).toNat : Int) = _
    have h2 : (BitVec.ofInt 64 ((0 : Nat) : Int)).toNat = 0 := by rfl
    rw [BitVec.toNat_xor, h1, h2, Nat.xor_zero, IntKind.wrap_i64]
    omega
  · rw [h0, if_neg (by decide)]
    have e3 : IntKind.i64.wrap (-IntKind.i64.wrap ((1 : Nat) : Int)) = -1 := by rfl
    rw [e3]
    show IntKind.i64.wrap ((BitVec.ofInt 64 ((n / 2 : Nat) : Int) ^^^ BitVec.ofInt 64 (-1)).toNat : Int) = _
    have h2 : (BitVec.ofInt 64 (-1)).toNat = 18446744073709551615 := by rfl
    rw [BitVec.toNat_xor, h1, h2, xor_ones _ (by omega), IntKind.wrap_i64]
    omega
def rSign (bad : Bool) (l : List UInt8) : Int × Bool × List UInt8 := (unzig (rNum bad l).1, (rNum bad l).2)
set_option maxRecDepth 100000 in
theorem sign_r (w : World) (p : Option Addr) (bad : Bool) (l : List UInt8) (h : Rdr w p RB bad l) :
    Calls Try.prog 47 #[.pointer p] w fun e w' => e = .returned (.int .i64 (rSign bad l).1) ∧ Rdr w' p RB (rSign bad l).2.1 (rSign bad l).2.2 ∧ Only (Mine p) w w' := by
  have HN := Lib.hid (number_r w p bad l h)
  have hlt := rNum_lt bad l
  unfold rSign
  simp only
  clear h
  generalize rNum bad l = r at *
  obtain ⟨n, bd, l1⟩ := r
  simp only at *
  go_enter Try.func47, Try.ntmps47
  go_wp2_with (go_at_call 89; refine HN.out.mono ?_; clear HN; rintro e w1 ⟨rfl, hr1, ho1⟩)
  have he : bits .xor .i64 ((n : Int) / 2) (wrap64 (-wrap64 (bits .and .u64 (n : Int) 1))) = unzig n := by rw [wrap_64, wrap_64]; exact unzig_bits n hlt
  go_ret
  exact ⟨by first | rfl | rw [← he]; rfl, hr1, ho1⟩

/-- A text of at most 'most' bytes, and the reader behind it. -/
def rText (most : Int) (bad : Bool) (l : List UInt8) : List UInt8 × Bool × List UInt8 := rCut (rSize most bad l).1 (rSize most bad l).2.1 (rSize most bad l).2.2
set_option maxRecDepth 100000 in
theorem text_r (w : World) (p : Option Addr) (bad : Bool) (l : List UInt8) (h : Rdr w p RB bad l) (most : Int) (hm : fit64 most) :
    Calls Try.prog 48 #[.pointer p, .int .i64 most] w fun e w' => e = .returned (.string ⟨(rText most bad l).1.toArray⟩) ∧ Rdr w' p RB (rText most bad l).2.1 (rText most bad l).2.2 ∧ Only (Mine p) w w' := by
  have HS := Lib.hid (size_r w p bad l h most hm)
  unfold rText
  clear h hm
  generalize rSize most bad l = r at *
  obtain ⟨n, bd, l1⟩ := r
  simp only at *
  go_enter Try.func48, Try.ntmps48
  go_wp2_with (go_at_call 71; refine HS.out.mono ?_; clear HS; rintro e w1 ⟨rfl, hr1, ho1⟩; have HC := Lib.hid (cut_r w1 p _ _ hr1 n); have HO1 := Lib.hid ho1; clear hr1 ho1)
  refine HC.out.mono ?_
  rintro e w2 ⟨v, rfl, hs, hr2, ho2⟩
  have kc := sl_string _ _ _ _ hs
  have HR2 := Lib.hid hr2
  have HO2 := Lib.hid ho2
  clear hs hr2 ho2 HC
  go_wp2
  go_ret
  exact ⟨rfl, HR2.out, mine_trans HO1.out HO2.out⟩
end Go.Proofs.Ytdhdphmehjkbnaa
