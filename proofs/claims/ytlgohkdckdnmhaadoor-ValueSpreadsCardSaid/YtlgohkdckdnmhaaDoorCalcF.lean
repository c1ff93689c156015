/- calc: the product. -/
import Derived.Test.YtlgohkdckdnmhaaDoorCalcE
namespace Go.Proofs.YtlgohkdckdnmhaaDoor
open Go.RowKit Go.Afx

namespace M64
theorem maskN (a : Nat) (ha : a < 18446744073709551616) : bits .and .u64 (a : Int) 4294967295 = ((a % 4294967296 : Nat) : Int) := by
  have h := bits_and_u64_nat a 4294967295 ha (by omega)
  have e : a &&& 4294967295 = a % 4294967296 := Nat.and_two_pow_sub_one_eq_mod a 32
  rw [e] at h
  exact h
theorem divN (a : Nat) : (a : Int) / 4294967296 = ((a / 4294967296 : Nat) : Int) := by omega
theorem mulN (a b : Nat) : (a : Int) * (b : Int) = ((a * b : Nat) : Int) := (Int.natCast_mul a b).symm
theorem addN (a b : Nat) : (a : Int) + (b : Int) = ((a + b : Nat) : Int) := (Int.natCast_add a b).symm
theorem wrapN (a : Nat) (ha : a < 18446744073709551616) : IntKind.u64.wrap (a : Int) = (a : Int) := by rw [IntKind.wrap_u64]; omega
theorem wrapM (a : Nat) : IntKind.u64.wrap (a : Int) = ((a % 18446744073709551616 : Nat) : Int) := by rw [IntKind.wrap_u64]; omega
end M64

set_option maxHeartbeats 1000000 in
theorem mul64_nat (x y : Nat) (hx : x < 18446744073709551616) (hy : y < 18446744073709551616) (w : World) :
    Calls Tryd.prog 99 #[.int .u64 x, .int .u64 y] w fun e w' => e = .returned (.tuple #[.int .u64 ((x * y / 18446744073709551616 : Nat) : Int), .int .u64 ((x * y % 18446744073709551616 : Nat) : Int)]) ∧ w' = w := by
  obtain ⟨bd, bt, bw, hhi⟩ := Lib.mul64_hi x y hx hy
  have ba := Lib.half_mul_le (a := x / 4294967296) (b := y / 4294967296) (by omega) (by omega)
  have bb := Lib.half_mul_le (a := x / 4294967296) (b := y % 4294967296) (by omega) (by omega)
  have bc := Lib.half_mul_le (a := x % 4294967296) (b := y / 4294967296) (by omega) (by omega)
  have ba' : x / 4294967296 * (y / 4294967296) < 18446744073709551616 := by omega
  have bb' : x / 4294967296 * (y % 4294967296) < 18446744073709551616 := by omega
  have bc' : x % 4294967296 * (y / 4294967296) < 18446744073709551616 := by omega
  have bh1 : x / 4294967296 * (y / 4294967296) + (x / 4294967296 * (y % 4294967296) + x % 4294967296 * (y % 4294967296) / 4294967296) / 4294967296 < 18446744073709551616 := by omega
  have bh : x / 4294967296 * (y / 4294967296) + (x / 4294967296 * (y % 4294967296) + x % 4294967296 * (y % 4294967296) / 4294967296) / 4294967296 + ((x / 4294967296 * (y % 4294967296) + x % 4294967296 * (y % 4294967296) / 4294967296) % 4294967296 + x % 4294967296 * (y / 4294967296)) / 4294967296 < 18446744073709551616 := by omega
  go_enter Tryd.func99, Tryd.ntmps99
  go_wp2
  simp only [M64.maskN x hx, M64.maskN y hy, M64.divN, M64.mulN, M64.addN, M64.wrapN _ bd, M64.wrapN _ bb', M64.wrapN _ bt, M64.maskN _ bt, M64.wrapN _ bc', M64.wrapN _ bw, M64.wrapN _ ba', M64.wrapN _ bh1, M64.wrapN _ bh, M64.wrapM (x * y)]
  rw [hhi]
  go_ret2
  exact ⟨rfl, rfl⟩

theorem mul64_any (x y : Int) (hx0 : 0 ≤ x) (hx : x < 18446744073709551616) (hy0 : 0 ≤ y) (hy : y < 18446744073709551616) (w : World) :
    Calls Tryd.prog 99 #[.int .u64 x, .int .u64 y] w fun e w' => e = .returned (.tuple #[.int .u64 (x * y / 18446744073709551616), .int .u64 (x * y % 18446744073709551616)]) ∧ w = w' := by
  obtain ⟨x, rfl⟩ := Int.eq_ofNat_of_zero_le hx0
  obtain ⟨y, rfl⟩ := Int.eq_ofNat_of_zero_le hy0
  refine (mul64_nat x y (by omega) (by omega) w).mono ?_
  rintro e w' ⟨rfl, rfl⟩
  refine ⟨?_, rfl⟩
  rw [Int.natCast_ediv, Int.natCast_emod, Int.natCast_mul]
  rfl

def prodI (l : List Int) : Int := l.foldl (· * ·) 1
theorem prodI_next (l : List Int) (i : Nat) (h : i < l.length) : prodI (l.take (i + 1)) = prodI (l.take i) * l[i] := by
  unfold prodI
  rw [← List.take_append_getElem h, List.foldl_append]; rfl
theorem prodI_zero (l : List Int) (i : Nat) (h : i < l.length) (h0 : l[i] = 0) : prodI l = 0 := by
  have h1 : prodI (l.take (i + 1)) = 0 := by rw [prodI_next l i h, h0, Int.mul_zero]
  have h2 : ∀ (m : List Int), m.foldl (· * ·) (0 : Int) = 0 := by
    intro m
    induction m with
    | nil => rfl
    | cons a m ih => simpa using ih
  have h3 : prodI l = (l.drop (i + 1)).foldl (· * ·) (prodI (l.take (i + 1))) := by
    conv => lhs; rw [← List.take_append_drop (i + 1) l]
    unfold prodI
    rw [List.foldl_append]
  rw [h3, h1, h2]

/-- The product so far, as the program keeps it. -/
def kept (neg : Bool) (out : Int) (over : Bool) (p : Int) : Prop :=
  p ≠ 0 ∧ neg = decide (p < 0) ∧ 0 ≤ out ∧ out < 18446744073709551616 ∧
    (over = false ∧ out = p.natAbs ∨ over = true ∧ 18446744073709551616 ≤ p.natAbs)

theorem kept_next {neg : Bool} {out : Int} {over : Bool} {p : Int} (h : kept neg out over p) (x : Int) (hx : x ≠ 0) :
    kept (neg != decide (x < 0)) (out * (x.natAbs : Int) % 18446744073709551616) (over || (out * (x.natAbs : Int) / 18446744073709551616 != 0)) (p * x) := by
  obtain ⟨h1, h2, h3, h4, h5⟩ := h
  refine ⟨Int.mul_ne_zero h1 hx, ?_, Int.emod_nonneg _ (by omega), Int.emod_lt_of_pos _ (by omega), ?_⟩
  · rw [h2]
    by_cases hp : p < 0 <;> by_cases hx2 : x < 0
    · have := Int.mul_pos_of_neg_of_neg hp hx2
      rw [decide_eq_true hp, decide_eq_true hx2, decide_eq_false (by omega)]; rfl
    · have := Int.mul_neg_of_neg_of_pos hp (show 0 < x by omega)
      rw [decide_eq_true hp, decide_eq_false hx2, decide_eq_true this]; rfl
    · have := Int.mul_neg_of_pos_of_neg (show 0 < p by omega) hx2
      rw [decide_eq_false hp, decide_eq_true hx2, decide_eq_true this]; rfl
    · have := Int.mul_pos (show 0 < p by omega) (show 0 < x by omega)
      rw [decide_eq_false hp, decide_eq_false hx2, decide_eq_false (by omega)]; rfl
  · have hx1 : 1 ≤ x.natAbs := by omega
    rcases h5 with ⟨rfl, h6⟩ | ⟨rfl, h6⟩
    · have h7 : out * (x.natAbs : Int) = ((p * x).natAbs : Int) := by rw [h6, Int.natAbs_mul]; simp
      rw [h7]
      generalize (p * x).natAbs = z
      by_cases hz : 18446744073709551616 ≤ z
      · right
        refine ⟨?_, hz⟩
        have : ((z : Int) / 18446744073709551616 != 0) = true := by rw [bne_iff_ne]; omega
        rw [this]; rfl
      · left
        refine ⟨?_, by omega⟩
        have : ((z : Int) / 18446744073709551616 != 0) = false := by rw [bne_eq_false_iff_eq]; omega
        rw [this]; rfl
    · right
      refine ⟨rfl, ?_⟩
      rw [Int.natAbs_mul]
      exact Nat.le_trans h6 (Nat.le_mul_of_pos_right _ hx1)

theorem kept_end {neg : Bool} {out : Int} {over : Bool} {p : Int} (h : kept neg out over p) :
    (over = true ∧ shortN p = 0 ∧ shortE p = 2) ∨ (over = false ∧ sgn neg out = p) := by
  obtain ⟨h1, h2, h3, h4, h5⟩ := h
  rcases h5 with ⟨h5, h6⟩ | ⟨h5, h6⟩
  · right
    refine ⟨h5, ?_⟩
    subst h2
    unfold sgn
    by_cases hp : p < 0
    · rw [decide_eq_true hp, if_pos rfl]; omega
    · rw [decide_eq_false hp, if_neg (by decide)]; omega
  · left
    have : ¬ fits p := by unfold fits; omega
    exact ⟨h5, by unfold shortN; rw [if_neg this], by unfold shortE; rw [if_neg this]⟩

end Go.Proofs.YtlgohkdckdnmhaaDoor
