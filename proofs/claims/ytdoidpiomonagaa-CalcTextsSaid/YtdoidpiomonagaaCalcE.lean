/- calc: the document's examples; the least and the greatest; sizes, products. -/
import Derived.Test.YtdoidpiomonagaaCalcD
import Derived.Lib.Mul64
import Derived.Laws.Bits64b
namespace Go.Proofs.Ytdoidpiomonagaa
open Go.RowKit Go.Afx

@[go_sem] theorem ite_lt_max (x y : Int) : (if x < y then y else x) = max x y := by omega
@[go_sem] theorem ite_lt_min (x y : Int) : (if x < y then x else y) = min x y := by omega

def minI (a : Int) (l : List Int) : Int := l.foldl min a
def maxI (a : Int) (l : List Int) : Int := l.foldl max a
theorem minI_next (a : Int) (l : List Int) (i : Nat) (h : i < l.length) : minI a (l.take (i + 1)) = min (minI a (l.take i)) l[i] := by
  unfold minI
  rw [← List.take_append_getElem h, List.foldl_append]; rfl
theorem maxI_next (a : Int) (l : List Int) (i : Nat) (h : i < l.length) : maxI a (l.take (i + 1)) = max (maxI a (l.take i)) l[i] := by
  unfold maxI
  rw [← List.take_append_getElem h, List.foldl_append]; rfl

theorem least_any (w : World) (a : Int) (v : Value) (l : List Int) (hl : Sl w (fun _ => True) 1 v l.length (ints l)) (hll : l.length ≤ 1000000) :
    Calls Try.prog 38 #[.int .i64 a, v] w fun e w' => e = .returned (.int .i64 (minI a l)) ∧ Below w.heap.size w w' := by
  obtain ⟨p, cap, rfl, hc1, hc2⟩ := hl.form
  have HL := Lib.hid hl
  clear hl
  generalize hz : minI a l = z
  have HZ := Lib.hid hz
  clear hz
  go_enter Try.func38, Try.ntmps38
  go_wp2
  go_loopw [0, 9] (fun m i wr => ∃ k : Nat, i = .int .i64 k ∧ k ≤ l.length ∧ m = .int .i64 (minI a (l.take k)) ∧ Below w.heap.size w wr) (fun _ i _ => l.length - (intOf i).toNat)
  case atStart => exact ⟨0, rfl, Nat.zero_le _, rfl, Below.refl _ _⟩
  case round =>
    obtain ⟨k, rfl, hk, rfl, hb⟩ := hrel
    by_cases hka : k < l.length
    · obtain ⟨g, off, cap', hv, _, _, hgb, hglt, hc⟩ := HL.out.place (by omega)
      cases hv
      have hc0 : w.cell? ⟨g, off + k, none⟩ = some (.int .i64 l[k]) := by rw [hc k (by simpa [ints] using hka)]; simp [ints, hka]
      have hck : wr.cell? ⟨g, off + k, none⟩ = some (.int .i64 l[k]) := (hb.cell hglt).trans hc0
      have HX := Lib.hid (minI_next a l k hka)
      have HB := Lib.hid hb
      clear hc hc0 hb
      generalize minI a (l.take k) = m at *
      generalize l[k] = x at *
      go_wp2
      go_roundw
      case rel => exact ⟨k + 1, by go_num, by omega, by rw [HX.out, Int.min_comm], HB.out⟩
      case measure => simp [intOf]; omega
    · have hkl : k = l.length := by omega
      subst hkl
      rw [List.take_length, HZ.out]
      go_wp2
      go_ret
      exact ⟨rfl, hb⟩

theorem most_any (w : World) (a : Int) (v : Value) (l : List Int) (hl : Sl w (fun _ => True) 1 v l.length (ints l)) (hll : l.length ≤ 1000000) :
    Calls Try.prog 39 #[.int .i64 a, v] w fun e w' => e = .returned (.int .i64 (maxI a l)) ∧ Below w.heap.size w w' := by
  obtain ⟨p, cap, rfl, hc1, hc2⟩ := hl.form
  have HL := Lib.hid hl
  clear hl
  generalize hz : maxI a l = z
  have HZ := Lib.hid hz
  clear hz
  go_enter Try.func39, Try.ntmps39
  go_wp2
  go_loopw [0, 9] (fun m i wr => ∃ k : Nat, i = .int .i64 k ∧ k ≤ l.length ∧ m = .int .i64 (maxI a (l.take k)) ∧ Below w.heap.size w wr) (fun _ i _ => l.length - (intOf i).toNat)
  case atStart => exact ⟨0, rfl, Nat.zero_le _, rfl, Below.refl _ _⟩
  case round =>
    obtain ⟨k, rfl, hk, rfl, hb⟩ := hrel
    by_cases hka : k < l.length
    · obtain ⟨g, off, cap', hv, _, _, hgb, hglt, hc⟩ := HL.out.place (by omega)
      cases hv
      have hc0 : w.cell? ⟨g, off + k, none⟩ = some (.int .i64 l[k]) := by rw [hc k (by simpa [ints] using hka)]; simp [ints, hka]
      have hck : wr.cell? ⟨g, off + k, none⟩ = some (.int .i64 l[k]) := (hb.cell hglt).trans hc0
      have HX := Lib.hid (maxI_next a l k hka)
      have HB := Lib.hid hb
      clear hc hc0 hb
      generalize maxI a (l.take k) = m at *
      generalize l[k] = x at *
      go_wp2
      go_roundw
      case rel => exact ⟨k + 1, by go_num, by omega, by rw [HX.out, Int.max_comm], HB.out⟩
      case measure => simp [intOf]; omega
    · have hkl : k = l.length := by omega
      subst hkl
      rw [List.take_length, HZ.out]
      go_wp2
      go_ret
      exact ⟨rfl, hb⟩

theorem size_any (w : World) (a : Int) (ha : fits a) : Calls Try.prog 63 #[.int .i64 a] w fun e w' => e = .returned (.int .u64 (a.natAbs : Int)) ∧ Below w.heap.size w w' := by
  unfold fits at ha
  by_cases h : a < 0
  · have h2 : decide (a < 0) = true := decide_eq_true h
    have e1 : IntKind.u64.wrap (-IntKind.u64.wrap a) = (a.natAbs : Int) := by rw [IntKind.wrap_u64, IntKind.wrap_u64]; omega
    generalize (a.natAbs : Int) = z at *
    go_enter Try.func63, Try.ntmps63
    go_wp2
    go_ret
    exact ⟨rfl, Below.refl _ _⟩
  · have h2 : decide (a < 0) = false := decide_eq_false h
    have e1 : (a.natAbs : Int) = a := by omega
    rw [e1]
    go_enter Try.func63, Try.ntmps63
    go_wp2
    go_ret
    exact ⟨rfl, Below.refl _ _⟩

def sgn (neg : Bool) (n : Int) : Int := if neg then -n else n
theorem signed_any (w : World) (neg : Bool) (n : Int) (h0 : 0 ≤ n) (h1 : n < 18446744073709551616) :
    Calls Try.prog 64 #[.bool neg, .int .u64 n] w fun e w' => e = .returned (.tuple #[.int .i64 (shortN (sgn neg n)), .int .i64 (shortE (sgn neg n))]) ∧ Below w.heap.size w w' := by
  have hf : (fits (sgn neg n) ∧ shortN (sgn neg n) = sgn neg n ∧ shortE (sgn neg n) = 0) ∨ (¬ fits (sgn neg n) ∧ shortN (sgn neg n) = 0 ∧ shortE (sgn neg n) = 2) := by
    unfold shortN shortE; split
    · exact .inl ⟨by assumption, rfl, rfl⟩
    · exact .inr ⟨by assumption, rfl, rfl⟩
  rcases hf with ⟨h2, e1, e2⟩ | ⟨h2, e1, e2⟩
  · rw [e1, e2]
    clear e1 e2
    cases neg
    · simp only [sgn, fits, Bool.false_eq_true, if_false] at h2 ⊢
      go_enter Try.func64, Try.ntmps64
      go_wp2
      go_ret2
      exact ⟨rfl, Below.refl _ _⟩
    · simp only [sgn, fits, if_true] at h2 ⊢
      have h3 : n ≤ 9223372036854775808 := by omega
      go_enter Try.func64, Try.ntmps64
      go_wp2
      rw [show wrap64 (-wrap64 n) = -n by unfold wrap64; omega]
      go_ret2
      exact ⟨rfl, Below.refl _ _⟩
  · rw [e1, e2]
    clear e1 e2
    cases neg
    · simp only [sgn, fits, Bool.false_eq_true, if_false] at h2
      have h3 : 9223372036854775807 < n := by omega
      clear h2
      go_enter Try.func64, Try.ntmps64
      go_wp2
      go_ret2
      exact ⟨rfl, Below.refl _ _⟩
    · simp only [sgn, fits, if_true] at h2
      have h3 : 9223372036854775808 < n := by omega
      clear h2
      go_enter Try.func64, Try.ntmps64
      go_wp2
      go_ret2
      exact ⟨rfl, Below.refl _ _⟩

theorem awake_true (w : World) : Calls Try.prog 26 #[] w fun e w' => e = .returned (.bool true) ∧ Below w.heap.size w w' := by
  have HD := Lib.hid (fun w => div_any w (-7) 2 (by decide) (by decide))
  have HM := Lib.hid (fun w => mod_any w (-7) 2 (by decide) (by decide))
  have e1 : dvN (-7) 2 = -4 := by decide
  have e2 : dvE (-7) 2 = 0 := by decide
  have e3 : mdN (-7) 2 = 1 := by decide
  have e4 : mdE 2 = 0 := by decide
  rw [e1, e2] at HD
  rw [e3, e4] at HM
  have HA := Lib.hid (fun (w : World) (v : Value) (hl : Sl w (fun _ => True) 1 v 3 (ints [4611686018427387904, 4611686018427387904, -1])) => add_any w v [4611686018427387904, 4611686018427387904, -1] hl (by decide) (by decide))
  have e5 : shortN ([4611686018427387904, 4611686018427387904, -1] : List Int).sum = 9223372036854775807 := by decide
  have e6 : shortE ([4611686018427387904, 4611686018427387904, -1] : List Int).sum = 0 := by decide
  rw [e5, e6] at HA
  clear e1 e2 e3 e4 e5 e6
  go_enter Try.func26, Try.ntmps26
  go_wp2_with (first
    | (go_at_call 24; refine (HD.out _).mono ?_; rintro e w2 ⟨rfl, hb2⟩)
    | (go_at_call 25; refine (HM.out _).mono ?_; rintro e w3 ⟨rfl, hb3⟩)
    | (go_at_call 40; refine (HA.out _ _ ?_).mono ?_
       · exact (Own.made w3 2 1 (ints [4611686018427387904, 4611686018427387904, -1]) [] 3 3 rfl (ints_ones _) (by decide) (by simp [maxLen]) (by simp [ints])).sl (fun k hk => trivial)
       rintro e w4 ⟨rfl, hb4⟩))
  go_ret
  refine ⟨rfl, ?_⟩
  have h3 := hb2.trans (hb3.mono hb2.size)
  exact (h3.alloc h3.size _).trans (hb4.mono (by have := h3.size; simp; omega))
end Go.Proofs.Ytdoidpiomonagaa
