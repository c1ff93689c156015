/- value.Spread: a value's place, of any many. -/
import Derived.Test.YtlgohkdckdnmhaaDoorKyA
import Derived.Test.YtlgohkdckdnmhaaDoorCalcD
import Derived.Test.YtlgohkdckdnmhaaDoorPrs
namespace Go.Proofs.YtlgohkdckdnmhaaDoor
open Go.RowKit Go.Afx

/-- The bytes of a text, each by its place. -/
def sprN (l : List UInt8) (k : Nat) : Nat := ((List.range k).map fun i => (i + 1) * (l.getD i 0).toNat).sum
theorem sprN_next (l : List UInt8) (k : Nat) (h : k < l.length) : sprN l (k + 1) = sprN l k + (k + 1) * l[k].toNat := by
  unfold sprN
  rw [List.range_succ, List.map_append, List.sum_append]
  simp [List.getElem?_eq_getElem h]
theorem prod_le (k : Nat) (c : UInt8) (h : k < 300) : (k + 1) * c.toNat ≤ 76500 := by
  have h1 : c.toNat ≤ 255 := by have := c.toNat_lt; omega
  have h2 : (k + 1) * c.toNat ≤ 300 * 255 := Nat.mul_le_mul (by omega) h1
  omega
theorem sprN_le (l : List UInt8) (k : Nat) (h : k ≤ l.length) (hl : l.length ≤ 300) : sprN l k ≤ 76500 * k := by
  induction k with
  | zero => exact Nat.le_refl _
  | succ k ih =>
    rw [sprN_next l k (by omega)]
    have := prod_le k l[k] (by omega)
    have := ih (by omega)
    omega
/-- What is spread. -/
def spT (k n : Int) (s : ByteArray) : Int := if k = 2 then n + (sprN s.data.toList s.size : Int) else n

set_option maxRecDepth 100000 in
set_option maxHeartbeats 4000000 in
theorem spread_any (w : World) (k n : Int) (s : ByteArray) (m : Int) (hm : fits m) (hn : fits n) (hk : k = 2 → n = 0) (hs : s.size ≤ 300) :
    Calls Tryd.prog 38 #[.agg #[.int .i64 k, .int .i64 n, .string s], .int .i64 m] w fun e w' => e = .returned (.int .i64 (if m < 1 then 0 else mdN (spT k n s) m)) ∧ Below w.heap.size w w' := by
  have hb1 : Below w.heap.size w (w.alloc (.cells #[.int .i64 k, .int .i64 n, .string s] 27)) := (Below.refl _ _).alloc (Nat.le_refl _) _
  have HB1 := Lib.hid hb1
  clear hb1
  by_cases hm1 : m < 1
  · rw [if_pos hm1]
    have hd : decide (m < 1) = true := decide_eq_true hm1
    clear hm1
    go_enter Tryd.func38, Tryd.ntmps38
    go_wp2
    go_ret
    exact ⟨rfl, HB1.out⟩
  · rw [if_neg hm1]
    have hd : decide (m < 1) = false := decide_eq_false hm1
    clear hm1
    obtain ⟨b0, b1, b2, bf⟩ := blk3 (Blk.new w 27 [.int .i64 k, .int .i64 n, .string s])
    by_cases hk2 : k = 2
    · have hn0 := hk hk2
      subst hn0
      subst hk2
      have hsp : spT 2 0 s = (sprN s.data.toList s.size : Int) := by unfold spT; rw [if_pos rfl, Int.zero_add]
      rw [hsp]
      obtain ⟨l, hl⟩ : ∃ l, s.data.toList = l := ⟨_, rfl⟩
      have hsz := size_list s l hl
      rw [hl, hsz]
      have hfin : fits (sprN l l.length : Int) := by
        have := sprN_le l l.length (by omega) (by omega)
        unfold fits
        omega
      have HM := Lib.hid (fun w => mod_any w (sprN l l.length : Int) m hfin hm)
      have HLE : Hid (∀ k, k ≤ l.length → sprN l k ≤ 76500 * k) := fun k h => sprN_le l k h (by omega)
      have HNX := Lib.hid (sprN_next l)
      have kc : ∀ w, (convert 9 92 (.string s)).run Tryd.prog w = .ok (.slice (some ⟨w.heap.size, 0, none⟩) s.size (cvCap w s 5)) (cvW w s 5) := fun w => run_cv w _ _ _ s Tryd.underlying9 Tryd.underlying92 Tryd.underlying5
      clear hk hsp hfin hn hm
      go_enter Tryd.func38, Tryd.ntmps38
      go_wp2
      generalize hw1 : w.alloc (.cells #[.int .i64 2, .int .i64 0, .string s] 27) = w1 at *
      have hs1 : w1.heap.size = w.heap.size + 1 := by rw [← hw1]; simp
      have HC0 : Hid (∀ k (h : k < l.length), (cvW w1 s 5).cell? ⟨w1.heap.size, k, none⟩ = some (.int .u8 (l[k].toNat : Int))) := fun k h => cvW_cell w1 s _ _ hl k h
      have HB2 : Hid (Below w.heap.size w (cvW w1 s 5)) := HB1.out.trans ((cvW_below w1 s _).mono HB1.out.size)
      rw [hs1] at HC0
      have HC := HC0
      clear kc hw1 hl hs1 HC0 b0 b1 b2 bf
      go_loop [5, 21] (fun v i => ∃ k : Nat, i = .int .i64 k ∧ k ≤ l.length ∧ v = .int .i64 (sprN l k : Nat)) (fun _ i => l.length - (intOf i).toNat)
      case atStart => exact ⟨0, rfl, Nat.zero_le _, rfl⟩
      case round =>
        obtain ⟨k, rfl, hk, rfl⟩ := hrel
        have hle := HLE.out k hk
        by_cases hka : k < l.length
        · have hck := HC.out k hka
          have hnx := HNX.out k hka
          have hpl := prod_le k l[k] (by omega)
          have hcl := l[k].toNat_lt
          have hci : ((k : Int) + 1) * (l[k].toNat : Int) = (((k + 1) * l[k].toNat : Nat) : Int) := by rw [Int.natCast_mul]; rfl
          generalize hu2 : sprN l (k + 1) = u2 at *
          have HU2 := Lib.hid hu2
          clear hu2
          generalize sprN l k = u at *
          generalize l[k].toNat = c at *
          have HCI := Lib.hid hci
          generalize hpr : (k + 1) * c = pr at *
          clear hpr
          have hwr : IntKind.i64.wrap (c : Int) = (c : Int) := by rw [IntKind.wrap_i64]; omega
          have HNX2 := Lib.hid hnx
          clear hnx
          go_wp2
          go_round
          case rel => exact ⟨k + 1, by go_num, by omega, by rw [HU2.out]; have := HNX2.out; congr 1; omega⟩
          case measure => (simp [intOf]) <;> omega
        · obtain rfl : k = l.length := by omega
          clear hka hk hle
          generalize huu : sprN l l.length = u at *
          have HUU := Lib.hid huu
          clear huu
          go_wp2_with fail
          refine (HM.out _).mono ?_
          rintro e w5 ⟨rfl, hb5⟩
          have HB5 := Lib.hid (HB2.out.trans (hb5.mono HB2.out.size))
          clear hb5
          go_wp2
          go_ret
          exact ⟨by rw [HUU.out]; rfl, HB5.out⟩
    · have hsp : spT k n s = n := by unfold spT; rw [if_neg hk2]
      rw [hsp]
      have hz : (k == 2) = false := by rw [beq_eq_false_iff_ne]; exact hk2
      have HM := Lib.hid (fun w => mod_any w n m hn hm)
      clear hk hsp hk2
      go_enter Tryd.func38, Tryd.ntmps38
      go_wp2_with fail
      refine (HM.out _).mono ?_
      rintro e w5 ⟨rfl, hb5⟩
      have HB5 := Lib.hid (HB1.out.trans (hb5.mono HB1.out.size))
      clear hb5
      go_wp2
      go_ret
      exact ⟨rfl, HB5.out⟩
end Go.Proofs.YtlgohkdckdnmhaaDoor
