/- calc: numbers of two words; the sum that comes and goes. -/
import Derived.Test.YtlgohkdckdnmhaaDoorSlices
import Derived.Laws.Externs
import Derived.Shelf.Spec.BitsCarry
namespace Go.Proofs.YtlgohkdckdnmhaaDoor
open Go.RowKit Go.Afx

theorem agree_bel {B : Nat → Prop} {b : Nat} {w w' : World} (h : Below b w w') (hB : ∀ k, B k → k < b) : Agree B w w' := fun k _ hk => h.cell (hB k hk)

theorem add64 (x y c : Int) (hx : 0 ≤ x) (hy : 0 ≤ y) (hc0 : 0 ≤ c) (hc : c ≤ 1) (w : World) : (callFunc 100 #[.int .u64 x, .int .u64 y, .int .u64 c]).run Tryd.prog w =
    .ok (.value (.tuple #[.int .u64 ((x + y + c) % 18446744073709551616), .int .u64 ((x + y + c) / 18446744073709551616)])) w := by
  rw [run_callFunc_extern Tryd.func100 (by kernel_rfl) (by kernel_rfl) (by kernel_rfl) (e := add64Entry) (by kernel_rfl), run_add64 x y c hx hy hc0 hc]
  rfl
theorem add64_0 (x y : Int) (hx : 0 ≤ x) (hy : 0 ≤ y) (w : World) : (callFunc 100 #[.int .u64 x, .int .u64 y, .int .u64 0]).run Tryd.prog w =
    .ok (.value (.tuple #[.int .u64 ((x + y) % 18446744073709551616), .int .u64 ((x + y) / 18446744073709551616)])) w := by
  simpa using add64 x y 0 hx hy (Int.le_refl 0) (by decide) w

/-- The borrow, under a name. -/
def bor (x y : Int) : Int := if x < y then 1 else 0
theorem bor_range (x y : Int) : 0 ≤ bor x y ∧ bor x y ≤ 1 := by unfold bor; split <;> decide

theorem sub64 (x y b : Int) (hx : 0 ≤ x) (hy : 0 ≤ y) (hy' : y < 18446744073709551616) (hb0 : 0 ≤ b) (hb : b ≤ 1) (w : World) : (callFunc 151 #[.int .u64 x, .int .u64 y, .int .u64 b]).run Tryd.prog w =
    .ok (.value (.tuple #[.int .u64 ((x - y - b) % 18446744073709551616), .int .u64 (bor x (y + b))])) w := by
  obtain ⟨x, rfl⟩ := Int.eq_ofNat_of_zero_le hx
  obtain ⟨y, rfl⟩ := Int.eq_ofNat_of_zero_le hy
  obtain ⟨b, rfl⟩ := Int.eq_ofNat_of_zero_le hb0
  have e1 : (((x + 18446744073709551616 - y - b) % 18446744073709551616 : Nat) : Int) = ((x : Int) - y - b) % 18446744073709551616 := by omega
  have e2 : ((if x < y + b then 1 else 0 : Nat) : Int) = bor x (y + b) := by unfold bor; split <;> split <;> omega
  rw [← e1, ← e2]
  rw [run_callFunc_extern Tryd.func151 (by kernel_rfl) (by kernel_rfl) (by kernel_rfl) (e := sub64Entry) (by kernel_rfl), run_sub64 x y b (by omega)]
  rfl
theorem sub64_0 (x y : Int) (hx : 0 ≤ x) (hy : 0 ≤ y) (hy' : y < 18446744073709551616) (w : World) : (callFunc 151 #[.int .u64 x, .int .u64 y, .int .u64 0]).run Tryd.prog w =
    .ok (.value (.tuple #[.int .u64 ((x - y) % 18446744073709551616), .int .u64 (bor x y)])) w := by
  simpa using sub64 x y 0 hx hy hy' (Int.le_refl 0) (by decide) w

/-- The two words of a number of 128 bits. -/
def loW (z : Int) : Int := z % 18446744073709551616
def hiW (z : Int) : Int := z / 18446744073709551616 % 18446744073709551616
theorem loW_range (z : Int) : 0 ≤ loW z ∧ loW z < 18446744073709551616 := by unfold loW; omega
theorem hiW_range (z : Int) : 0 ≤ hiW z ∧ hiW z < 18446744073709551616 := by unfold hiW; omega
theorem loW_add (x y : Int) : (loW x + loW y) % 18446744073709551616 = loW (x + y) := by unfold loW; omega
theorem hiW_add (x y : Int) : (hiW x + hiW y + (loW x + loW y) / 18446744073709551616) % 18446744073709551616 = hiW (x + y) := by unfold hiW loW; omega
theorem loW_sub (x y : Int) : (loW x - loW y) % 18446744073709551616 = loW (x - y) := by unfold loW; omega
theorem hiW_sub (x y : Int) : (hiW x - hiW y - bor (loW x) (loW y)) % 18446744073709551616 = hiW (x - y) := by unfold bor hiW loW; split <;> omega

theorem of_any (n : Int) (h1 : -9223372036854775808 ≤ n) (h2 : n ≤ 9223372036854775807) (w : World) :
    Calls Tryd.prog 148 #[.int .i64 n] w fun e w' => e = .returned (.agg #[.int .u64 (hiW n), .int .u64 (loW n)]) ∧ Below w.heap.size w w' := by
  go_enter Tryd.func148, Tryd.ntmps148
  go_wp2
  have e1 : IntKind.u64.wrap (n / 9223372036854775808) = hiW n := by rw [IntKind.wrap_u64]; unfold hiW; omega
  have e2 : IntKind.u64.wrap n = loW n := by rw [IntKind.wrap_u64]; rfl
  rw [e1, e2]
  refine bodyPost_ret (v := .agg #[.int .u64 (hiW n), .int .u64 (loW n)]) (by simp [results, Tryd.results148, go_sem]) rfl ⟨rfl, ?_⟩
  repeat (with_reducible first | exact Below.refl _ _ | apply Below.drew | (refine Below.alloc ?_ (by first | omega | (simp; omega) | simp) _) | (refine Below.setCell ?_ (by first | omega | (simp; omega) | simp) _))

theorem plus_any (x y : Int) (w : World) :
    Calls Tryd.prog 147 #[.agg #[.int .u64 (hiW x), .int .u64 (loW x)], .agg #[.int .u64 (hiW y), .int .u64 (loW y)]] w fun e w' => e = .returned (.agg #[.int .u64 (hiW (x + y)), .int .u64 (loW (x + y))]) ∧ Below w.heap.size w w' := by
  have a1 := loW_range x
  have a2 := loW_range y
  have a3 := hiW_range x
  have a4 := hiW_range y
  have E1 := Lib.hid (loW_add x y)
  have E2 := Lib.hid (hiW_add x y)
  generalize loW x = xl at *
  generalize loW y = yl at *
  generalize hiW x = xh at *
  generalize hiW y = yh at *
  have k0 : 0 ≤ (xl + yl) / 18446744073709551616 := by omega
  have k1 : (xl + yl) / 18446744073709551616 ≤ 1 := by omega
  go_enter Tryd.func147, Tryd.ntmps147
  go_wp2_with (first | simp only [add64_0 xl yl a1.1 a2.1] | simp only [add64 xh yh _ a3.1 a4.1 k0 k1])
  rw [E1.out, E2.out]
  refine bodyPost_ret (v := .agg #[.int .u64 (hiW (x + y)), .int .u64 (loW (x + y))]) (by simp [results, Tryd.results147, go_sem]) rfl ⟨rfl, ?_⟩
  repeat (with_reducible first | exact Below.refl _ _ | apply Below.drew | (refine Below.alloc ?_ (by first | omega | (simp; omega) | simp) _) | (refine Below.setCell ?_ (by first | omega | (simp; omega) | simp) _))

theorem minus_any (x y : Int) (w : World) :
    Calls Tryd.prog 149 #[.agg #[.int .u64 (hiW x), .int .u64 (loW x)], .agg #[.int .u64 (hiW y), .int .u64 (loW y)]] w fun e w' => e = .returned (.agg #[.int .u64 (hiW (x - y)), .int .u64 (loW (x - y))]) ∧ Below w.heap.size w w' := by
  have a1 := loW_range x
  have a2 := loW_range y
  have a3 := hiW_range x
  have a4 := hiW_range y
  have E1 := Lib.hid (loW_sub x y)
  have E2 := Lib.hid (hiW_sub x y)
  generalize loW x = xl at *
  generalize loW y = yl at *
  generalize hiW x = xh at *
  generalize hiW y = yh at *
  have k := bor_range xl yl
  go_enter Tryd.func149, Tryd.ntmps149
  go_wp2_with (first | simp only [sub64_0 xl yl a1.1 a2.1 a2.2] | simp only [sub64 xh yh _ a3.1 a4.1 a4.2 k.1 k.2])
  rw [E1.out, E2.out]
  refine bodyPost_ret (v := .agg #[.int .u64 (hiW (x - y)), .int .u64 (loW (x - y))]) (by simp [results, Tryd.results149, go_sem]) rfl ⟨rfl, ?_⟩
  repeat (with_reducible first | exact Below.refl _ _ | apply Below.drew | (refine Below.alloc ?_ (by first | omega | (simp; omega) | simp) _) | (refine Below.setCell ?_ (by first | omega | (simp; omega) | simp) _))

/-- The number, if it is one of 64 bits; else 0 and what says so. -/
def fits (z : Int) : Prop := -9223372036854775808 ≤ z ∧ z ≤ 9223372036854775807
instance (z : Int) : Decidable (fits z) := inferInstanceAs (Decidable (_ ∧ _))
def shortN (z : Int) : Int := if fits z then z else 0
def shortE (z : Int) : Int := if fits z then 0 else 2

theorem short_any (z : Int) (hz1 : -85070591730234615865843651857942052864 ≤ z) (hz2 : z ≤ 85070591730234615865843651857942052864) (w : World) :
    Calls Tryd.prog 150 #[.agg #[.int .u64 (hiW z), .int .u64 (loW z)]] w fun e w' => e = .returned (.tuple #[.int .i64 (shortN z), .int .i64 (shortE z)]) ∧ Below w.heap.size w w' := by
  have a1 := loW_range z
  have hk : ∃ k : Int, IntKind.i64.wrap (loW z) = k ∧ -9223372036854775808 ≤ k ∧ k ≤ 9223372036854775807 ∧ loW k = loW z := by
    refine ⟨_, rfl, ?_⟩
    rw [IntKind.wrap_i64]
    unfold loW
    omega
  obtain ⟨k, hk1, hk2, hk3, hk4⟩ := hk
  have hof := Lib.hid (fun w => of_any k hk2 hk3 w)
  have hk5 : (hiW z = hiW k ∧ z = k ∧ fits z) ∨ (¬ hiW z = hiW k ∧ ¬ fits z) := by
    unfold fits
    unfold hiW loW at *
    omega
  have HK4 := Lib.hid hk4
  rcases hk5 with ⟨h5, h6, h7⟩ | ⟨h5, h7⟩
  · have e1 : shortN z = k := by unfold shortN; rw [if_pos h7]; exact h6
    have e2 : shortE z = 0 := by unfold shortE; rw [if_pos h7]
    rw [e1, e2]
    have H5 := Lib.hid h5
    clear h5 h6 h7 e1 e2 hk4
    generalize hiW z = zh at *
    generalize loW z = zl at *
    go_enter Tryd.func150, Tryd.ntmps150
    go_wp2
    refine wp_region_lit_plan [] [(1, 0), (0, 2), (2, 1), (3, 0), (4, 3), (5, 0)] (fun k => k = w.heap.size) (by kernel_rfl) (by kernel_rfl) (fun c a d v w h => by cases d <;> exact h) ?_
    go_wp2_with (first
      | (refine plan_pure (v := _) (by rfl) (by rfl) (by rfl) (by intro _; go_simp; with_reducible rfl) ?_; simp only [List.setIfInBounds_toArray, List.set_cons_zero, List.set_cons_succ]; try go_bits) | (refine plan_read (v := _) (by rfl) (by rfl) (by rfl) (by go_simp; with_reducible rfl) ?_; simp only [List.setIfInBounds_toArray, List.set_cons_zero, List.set_cons_succ]; try go_bits) | (refine plan_readB (v := _) (by rfl) (by rfl) (by rfl) (by intro _ hag; unfold Agree at hag; go_simp; with_reducible rfl) ?_; simp only [List.setIfInBounds_toArray, List.set_cons_zero, List.set_cons_succ]; try go_bits) | (refine plan_skip0 (by rfl) (by rfl) (by rfl) ?_; simp only [List.setIfInBounds_toArray, List.set_cons_zero, List.set_cons_succ]; try go_bits) | (refine plan_skip1 (by rfl) (by rfl) (by rfl) ?_; simp only [List.setIfInBounds_toArray, List.set_cons_zero, List.set_cons_succ]; try go_bits) | (refine plan_skip2 (by rfl) (by rfl) (by rfl) ?_; simp only [List.setIfInBounds_toArray, List.set_cons_zero, List.set_cons_succ]; try go_bits) | (refine plan_skip4 (by rfl) (by rfl) (by rfl) ?_; simp only [List.setIfInBounds_toArray, List.set_cons_zero, List.set_cons_succ]; try go_bits) | (refine plan_any (by rfl) ?_) | (refine plan_keep (by rfl) ?_) | (refine plan_nil ?_) | (with_reducible refine And.intro (by first | assumption | exact Agree.refl _ _ | exact agree_drew _ _ | exact agree_alloc _ (by intro k hk; subst hk; first | omega | (simp; omega))) ?_) | (unfold Act.put; simp only [List.setIfInBounds_toArray, List.set_cons_zero, List.set_cons_succ])
      | (go_at_call 148; refine (hof.out _).mono ?_; rintro e w2 ⟨rfl, hb2⟩; rw [HK4.out, ← H5.out];
         have hag : Agree (fun k => k = w.heap.size) ((w.alloc (.cells #[.int .u64 zh, .int .u64 zl] 173)).drew) w2 := agree_bel hb2 (by intro k hk; subst hk; simp);
         have hc1 : w2.cell? ⟨w.heap.size, 1, none⟩ = some (.int .u64 zl) := (hag w.heap.size 1 rfl).trans (by go_simp)))
    go_ret2
    refine ⟨rfl, Below.trans ?_ (hb2.mono (by simp))⟩
    repeat (with_reducible first | exact Below.refl _ _ | apply Below.drew | (refine Below.alloc ?_ (by first | omega | (simp; omega) | simp) _) | (refine Below.setCell ?_ (by first | omega | (simp; omega) | simp) _))
  · have e1 : shortN z = 0 := by unfold shortN; rw [if_neg h7]
    have e2 : shortE z = 2 := by unfold shortE; rw [if_neg h7]
    rw [e1, e2]
    have h5' : (hiW z == hiW k) = false := by rw [beq_eq_false_iff_ne]; exact h5
    clear h5 h7 e1 e2 hk4
    generalize hiW z = zh at *
    generalize loW z = zl at *
    go_enter Tryd.func150, Tryd.ntmps150
    go_wp2
    refine wp_region_lit_plan [] [(1, 0), (0, 2), (2, 1), (3, 0), (4, 3), (5, 0)] (fun k => k = w.heap.size) (by kernel_rfl) (by kernel_rfl) (fun c a d v w h => by cases d <;> exact h) ?_
    go_wp2_with (first
      | (refine plan_pure (v := _) (by rfl) (by rfl) (by rfl) (by intro _; go_simp; with_reducible rfl) ?_; simp only [List.setIfInBounds_toArray, List.set_cons_zero, List.set_cons_succ]; try go_bits) | (refine plan_read (v := _) (by rfl) (by rfl) (by rfl) (by go_simp; with_reducible rfl) ?_; simp only [List.setIfInBounds_toArray, List.set_cons_zero, List.set_cons_succ]; try go_bits) | (refine plan_readB (v := _) (by rfl) (by rfl) (by rfl) (by intro _ hag; unfold Agree at hag; go_simp; with_reducible rfl) ?_; simp only [List.setIfInBounds_toArray, List.set_cons_zero, List.set_cons_succ]; try go_bits) | (refine plan_skip0 (by rfl) (by rfl) (by rfl) ?_; simp only [List.setIfInBounds_toArray, List.set_cons_zero, List.set_cons_succ]; try go_bits) | (refine plan_skip1 (by rfl) (by rfl) (by rfl) ?_; simp only [List.setIfInBounds_toArray, List.set_cons_zero, List.set_cons_succ]; try go_bits) | (refine plan_skip2 (by rfl) (by rfl) (by rfl) ?_; simp only [List.setIfInBounds_toArray, List.set_cons_zero, List.set_cons_succ]; try go_bits) | (refine plan_skip4 (by rfl) (by rfl) (by rfl) ?_; simp only [List.setIfInBounds_toArray, List.set_cons_zero, List.set_cons_succ]; try go_bits) | (refine plan_any (by rfl) ?_) | (refine plan_keep (by rfl) ?_) | (refine plan_nil ?_) | (with_reducible refine And.intro (by first | assumption | exact Agree.refl _ _ | exact agree_drew _ _ | exact agree_alloc _ (by intro k hk; subst hk; first | omega | (simp; omega))) ?_) | (unfold Act.put; simp only [List.setIfInBounds_toArray, List.set_cons_zero, List.set_cons_succ])
      | (go_at_call 148; refine (hof.out _).mono ?_; rintro e w2 ⟨rfl, hb2⟩; rw [HK4.out];
         have hag : Agree (fun k => k = w.heap.size) ((w.alloc (.cells #[.int .u64 zh, .int .u64 zl] 173)).drew) w2 := agree_bel hb2 (by intro k hk; subst hk; simp)))
    go_ret2
    refine ⟨rfl, Below.trans ?_ (hb2.mono (by simp))⟩
    repeat (with_reducible first | exact Below.refl _ _ | apply Below.drew | (refine Below.alloc ?_ (by first | omega | (simp; omega) | simp) _) | (refine Below.setCell ?_ (by first | omega | (simp; omega) | simp) _))
end Go.Proofs.YtlgohkdckdnmhaaDoor
