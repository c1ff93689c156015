/- calc: Print. -/
import Derived.Test.YtlgohkdckdnmhaaDoorCalcH
namespace Go.Proofs.YtlgohkdckdnmhaaDoor
open Go.RowKit Go.Afx

/-- The decimal digits, the highest first. -/
def dig10 (u : Nat) : List UInt8 := if _h : u = 0 then [] else dig10 (u / 10) ++ [UInt8.ofNat (48 + u % 10)]
decreasing_by exact Nat.div_lt_self (by omega) (by omega)
theorem dig10_zero : dig10 0 = [] := by rw [dig10]; simp
theorem dig10_pos (u : Nat) (h : 0 < u) : dig10 u = dig10 (u / 10) ++ [UInt8.ofNat (48 + u % 10)] := by
  rw [dig10, dif_neg (by omega)]
def printL (n : Int) : List UInt8 := if n = 0 then [48] else if n < 0 then 45 :: dig10 n.natAbs else dig10 n.natAbs

theorem digit_toNat (x : Nat) : (UInt8.ofNat (48 + x % 10)).toNat = 48 + x % 10 := by
  rw [UInt8.toNat_ofNat']
  omega
def zb (k : Nat) : List Value := List.replicate k (.int .u8 0)
theorem zb_set (m : Nat) (suf : List UInt8) (c : UInt8) : (zb (m + 1) ++ by8 suf).set m (.int .u8 (c.toNat : Int)) = zb m ++ by8 (c :: suf) := by
  have e : zb (m + 1) ++ by8 suf = zb m ++ ([.int .u8 0] ++ by8 suf) := by
    unfold zb
    rw [List.replicate_succ', List.append_assoc]
  have hl : (zb m).length = m := by simp [zb]
  rw [e, List.set_append_right _ _ (by omega), hl, Nat.sub_self]
  rfl

theorem by8_cells {w : World} {b m : Nat} {t : TypeId} {q : List UInt8} (h : Blk w b t (zb m ++ by8 q)) : ∀ j (hj : j < q.length), w.cell? ((⟨b, m, none⟩ : Addr).add j) = some (.int .u8 (q[j].toNat : Int)) := by
  intro j hj
  have e : (⟨b, m, none⟩ : Addr).add j = ⟨b, m + j, none⟩ := Addr.add_lit _ _ _
  rw [e]
  refine h.cellE (m + j) ?_
  rw [List.getElem?_append_right (by simp [zb])]
  simp [zb, by8, hj]
theorem sl20 (w : World) (b m : Nat) (q : List UInt8) (hq : m + q.length = 20) (h1 : 1 ≤ q.length) :
    (Instr.sliceAt 130 (.pointer (some ⟨b, 0, none⟩)) (some (.int .i64 (m : Int))) none none).run Tryd.prog w = .ok (.slice (some ⟨b, m, none⟩) q.length q.length) w := by
  have ha : Tryd.prog.arrayLen 130 = 20 := by kernel_rfl
  have he : Tryd.prog.elem 130 = 5 := by kernel_rfl
  have hs : ∀ w, (sizeOf (Tryd.prog.elem 130)).run Tryd.prog w = .ok 1 w := fun _ => by kernel_rfl
  have hu : Tryd.prog.underlying 130 = some (.array (Tryd.prog.arrayLen 130) (Tryd.prog.elem 130)) := by kernel_rfl
  rw [run_sliceAt_array_l w _ _ hu .i64 (m : Int) (by omega) (by rw [ha]; omega), hs, ha]
  have e : 20 - m = q.length := by omega
  simp only [Result.andThen, slicedAt, Int.toNat_natCast]
  rw [if_neg (by omega), e, Addr.add_lit, Nat.zero_add, Nat.mul_one]

set_option maxRecDepth 100000 in
theorem print_any (w : World) (n : Int) (hn : fits n) :
    Calls Tryd.prog 73 #[.int .i64 n] w fun e w' => e = .returned (.string ⟨(printL n).toArray⟩) ∧ Below w.heap.size w w' := by
  by_cases h0 : n = 0
  · subst h0
    have e1 : (⟨(printL 0).toArray⟩ : ByteArray) = ⟨#[48]⟩ := by rfl
    rw [e1]
    clear e1 hn
    go_enter Tryd.func73, Tryd.ntmps73
    go_wp2
    go_ret
    exact ⟨rfl, Below.refl _ _⟩
  · have h1 : (n == 0) = false := by rw [beq_eq_false_iff_ne]; exact h0
    have HSZ := Lib.hid (fun w => size_any w n hn)
    have hx := Lib.hid (show n.natAbs < 10 ^ 19 by unfold fits at hn; omega)
    have HP : Hid (printL n = if n < 0 then 45 :: dig10 n.natAbs else dig10 n.natAbs) := by
      have : printL n = if n < 0 then 45 :: dig10 n.natAbs else dig10 n.natAbs := by unfold printL; rw [if_neg h0]
      exact this
    have hu0 : 0 < n.natAbs := by omega
    clear hn h0
    generalize printL n = pl at *
    generalize n.natAbs = u at *
    generalize hw1 : w.alloc (.cells #[.int .u8 0, .int .u8 0, .int .u8 0, .int .u8 0, .int .u8 0, .int .u8 0, .int .u8 0, .int .u8 0, .int .u8 0, .int .u8 0, .int .u8 0, .int .u8 0, .int .u8 0, .int .u8 0, .int .u8 0, .int .u8 0, .int .u8 0, .int .u8 0, .int .u8 0, .int .u8 0] 130) = w1
    have HW1 := Lib.hid hw1
    have HB0 : Hid (Blk w1 w.heap.size 130 (zb 20 ++ by8 [])) := by rw [← hw1]; exact Blk.new w _ (zb 20 ++ by8 [])
    have HL0 : Hid (Below w.heap.size w w1) := by rw [← hw1]; exact (Below.refl _ _).alloc (Nat.le_refl _) _
    have HS0 : Hid (w.heap.size < w1.heap.size) := by rw [← hw1]; show _ < _; simp
    have al : ∀ t, t = 130 → w.alloc (.cells #[.int .u8 0, .int .u8 0, .int .u8 0, .int .u8 0, .int .u8 0, .int .u8 0, .int .u8 0, .int .u8 0, .int .u8 0, .int .u8 0, .int .u8 0, .int .u8 0, .int .u8 0, .int .u8 0, .int .u8 0, .int .u8 0, .int .u8 0, .int .u8 0, .int .u8 0, .int .u8 0] t) = w1 := fun t ht => by subst ht; exact hw1
    clear hw1 al
    go_enter Tryd.func73, Tryd.ntmps73
    go_wp2_with (go_at_call 102; rw [HW1.out]; refine (HSZ.out _).mono ?_; rintro e w2 ⟨rfl, hb2⟩)
    have HB2 : Hid (Blk w2 w.heap.size 130 (zb 20 ++ by8 [])) := HB0.out.below hb2
    have HL2 := Lib.hid (HL0.out.trans (hb2.mono (Nat.le_of_lt HS0.out)))
    clear hb2 HSZ HB0 HL0 HW1 HS0
    go_loopw [4, 5] (fun a x wr => ∃ (m y : Nat) (suf : List UInt8), a = .int .i64 ((m : Int) + 1) ∧ x = .int .u64 (y : Int) ∧ m + suf.length = 19 ∧ y < 10 ^ m ∧ dig10 u = dig10 y ++ suf ∧ Blk wr w.heap.size 130 (zb (m + 1) ++ by8 suf) ∧ Below w.heap.size w wr) (fun _ x _ => (intOf x).toNat)
    case atStart => exact ⟨19, u, [], rfl, rfl, rfl, hx.out, by simp, HB2.out, HL2.out⟩
    case round =>
      obtain ⟨m, y, suf, rfl, rfl, hm, hy, hd, hb, hl⟩ := hrel
      have HB := Lib.hid hb
      have HL := Lib.hid hl
      have HD := Lib.hid hd
      have HY := Lib.hid hy
      by_cases hpos : 0 < y
      · have hm1 : 1 ≤ m := by
          rcases Nat.eq_zero_or_pos m with h | h
          · subst h; simp at hy; omega
          · exact h
        have hp1 : (0 : Int) < y := by omega
        have hp2 : (1 : Int) ≤ m := by omega
        have hp3 : (m : Int) ≤ 19 := by omega
        have hfr : ∀ i, wr.frozen? ⟨w.heap.size, i, none⟩ = false := hb.frozen
        have hcl : wr.cell? ⟨w.heap.size, m, none⟩ = some (.int .u8 0) := by
          refine hb.cellE m ?_
          rw [List.getElem?_append_left (by simp [zb])]
          simp [zb]
        have hwr : IntKind.u64.wrap ((y : Int) / 10) = (y : Int) / 10 := by
          rw [IntKind.wrap_u64]
          have h2 : 10 ^ m ≤ 10 ^ 19 := Nat.pow_le_pow_right (by omega) (by omega)
          have h3 := HY.out
          have h4 : y < 10 ^ 19 := Nat.lt_of_lt_of_le h3 h2
          omega
        clear hb hl hd hy hpos
        go_wp2
        refine ⟨?_, ?_⟩
        · obtain ⟨j, rfl⟩ : ∃ j, m = j + 1 := ⟨m - 1, by omega⟩
          refine ⟨j, y / 10, UInt8.ofNat (48 + y % 10) :: suf, by go_num, by congr 1, by rw [List.length_cons]; omega, ?_, ?_, ?_, HL.out.setCell (Nat.le_refl _) _⟩
          · have := HY.out
            rw [Nat.pow_succ] at this
            exact Nat.div_lt_of_lt_mul (by omega)
          · rw [HD.out, dig10_pos y (by omega), List.append_assoc]; rfl
          · have h2 := HB.out.set (j + 1) (.int .u8 (((UInt8.ofNat (48 + y % 10)).toNat : Nat) : Int))
            rw [zb_set] at h2
            rw [digit_toNat] at h2
            exact h2
        · show ((y : Int) / 10).toNat < (y : Int).toNat
          omega
      · obtain rfl : y = 0 := by omega
        have hd2 : dig10 u = suf := by rw [HD.out, dig10_zero]; rfl
        have hp3 : (m : Int) ≤ 19 := by omega
        have hp4 : (0 : Int) ≤ m := by omega
        have hfr : ∀ i, wr.frozen? ⟨w.heap.size, i, none⟩ = false := hb.frozen
        have hcl : wr.cell? ⟨w.heap.size, m, none⟩ = some (.int .u8 0) := by
          refine hb.cellE m ?_
          rw [List.getElem?_append_left (by simp [zb])]
          simp [zb]
        by_cases hng : n < 0
        · have hpl : pl = 45 :: suf := by rw [HP.out, if_pos hng, hd2]
          have hbs : Blk (wr.setCell ⟨w.heap.size, m, none⟩ (.int .u8 45)) w.heap.size 130 (zb m ++ by8 pl) := by
            rw [hpl, ← zb_set]; exact hb.set m _
          have hln : m + pl.length = 20 := by rw [hpl, List.length_cons]; omega
          have hsl := fun w' => sl20 w' w.heap.size m pl hln (by rw [hpl]; simp)
          have kc := run_convert_bytes_back (P := Tryd.prog) (wr.setCell ⟨w.heap.size, m, none⟩ (.int .u8 45)) 92 9 5 ⟨w.heap.size, m, none⟩ pl.length pl Tryd.underlying92 Tryd.underlying5 Tryd.underlying9 (by8_cells hbs)
          clear hb hl hd hy hpos HY hd2 hbs hpl hln HP
          go_wp2
          go_ret
          exact ⟨rfl, HL.out.setCell (Nat.le_refl _) _⟩
        · have hng2 : 0 ≤ n := by omega
          have hpl : pl = suf := by rw [HP.out, if_neg hng, hd2]
          subst hpl
          have hl1 : 1 ≤ pl.length := by rw [← hd2, dig10_pos u hu0]; simp
          have hsl := fun w' => sl20 w' w.heap.size (m + 1) pl (by omega) hl1
          have kc := run_convert_bytes_back (P := Tryd.prog) wr 92 9 5 ⟨w.heap.size, m + 1, none⟩ pl.length pl Tryd.underlying92 Tryd.underlying5 Tryd.underlying9 (by8_cells hb)
          rw [show ((m + 1 : Nat) : Int) = (m : Int) + 1 from by omega] at hsl
          clear hb hl hd hy hpos HY hd2 HP hng
          go_wp2
          go_ret
          exact ⟨rfl, HL.out⟩
end Go.Proofs.YtlgohkdckdnmhaaDoor
