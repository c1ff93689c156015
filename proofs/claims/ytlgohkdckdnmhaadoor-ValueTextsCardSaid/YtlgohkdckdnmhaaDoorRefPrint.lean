/- The document's print. -/
import Derived.Test.YtlgohkdckdnmhaaDoorNums
import Derived.Test.YtlgohkdckdnmhaaDoorCalcI
namespace Go.Proofs.YtlgohkdckdnmhaaDoor
open Go.RowKit Go.Afx

def chars (d : List Nat) : List UInt8 := d.map fun x => UInt8.ofNat (48 + x)
theorem dig10_ld (u : Nat) : dig10 u = chars (ld u).reverse := by
  induction u using Nat.strongRecOn with
  | ind u ih =>
    rcases Nat.eq_zero_or_pos u with h | h
    · subst h; rw [dig10_zero, ld_zero]; rfl
    · rw [dig10_pos u h, ld_pos u h, ih (u / 10) (Nat.div_lt_self h (by omega))]
      simp [chars]
theorem chars_next (d : List Nat) (k : Nat) (h : k < d.length) : chars (d.take (k + 1)).reverse = UInt8.ofNat (48 + d[k]) :: chars (d.take k).reverse := by
  rw [← List.take_append_getElem h, List.reverse_append]
  rfl

set_option maxRecDepth 100000 in
set_option maxHeartbeats 1000000 in
theorem refprint_any (w : World) (n : Int) (hn : fits n) :
    Calls Tryd.prog 77 #[.int .i64 n] w fun e w' => e = .returned (.string ⟨(printL n).toArray⟩) ∧ Below w.heap.size w w' := by
  have HOF := Lib.hid (of_num w n hn)
  have HL20 := Lib.hid (fits_small hn)
  have HPR : Hid (n ≠ 0 → printL n = if decide (n < 0) then 45 :: chars (ld n.natAbs).reverse else chars (ld n.natAbs).reverse) := fun h => by
    unfold printL
    rw [if_neg h, ← dig10_ld]
    by_cases h2 : n < 0 <;> simp [h2]
  have HP0 : Hid (n = 0 → printL n = [48]) := fun h => by subst h; rfl
  have hnz := ld_nil_iff n.natAbs
  have HD10 := Lib.hid (ld_D10 n.natAbs)
  have HNZ : Hid ((ld n.natAbs).length = 0 ↔ n = 0) := by
    show _ ↔ _
    rw [hnz]; omega
  clear hn hnz
  generalize printL n = pl at *
  generalize hz : decide (n < 0) = neg at *
  generalize hd : ld n.natAbs = d at *
  have HZ := Lib.hid hz
  have HDE := Lib.hid hd
  clear hz hd
  go_enter Tryd.func77, Tryd.ntmps77
  go_wp2_with fail
  refine HOF.out.mono ?_
  clear HOF
  rintro e w1 ⟨v1, rfl, ⟨dv, rfl, hs⟩, hb1⟩
  rw [HZ.out]
  rw [HDE.out] at hs
  obtain ⟨p1, c1, rfl, hc1, hc2⟩ := hs.form
  have HS : Hid (Sl (w1.alloc (.cells #[.bool neg, .slice p1 d.length c1] 103)) (fun _ => True) 1 (.slice p1 d.length c1) d.length (nats d)) := Sl.weak (hs.alloc _) (fun _ _ => trivial)
  have HK : Hid (Blk (w1.alloc (.cells #[.bool neg, .slice p1 d.length c1] 103)) w1.heap.size 103 [.bool neg, .slice p1 d.length c1]) := Blk.new w1 _ _
  have HB : Hid (Below w.heap.size w (w1.alloc (.cells #[.bool neg, .slice p1 d.length c1] 103))) := hb1.alloc hb1.size _
  have hlt : w1.heap.size < (w1.alloc (.cells #[.bool neg, .slice p1 d.length c1] 103)).heap.size := by simp
  have HB0 : Hid (∀ n, n = d.length → Below w.heap.size w (w1.alloc (.cells #[.bool neg, .slice p1 n c1] 103))) := fun n hn => by subst hn; exact HB.out
  generalize hw2 : (w1.alloc (.cells #[.bool neg, .slice p1 d.length c1] 103)) = w2 at *
  have k0 : w2.cell? ⟨w1.heap.size, 0, none⟩ = some (.bool neg) := HK.out.cell 0
  have k1 : w2.cell? ⟨w1.heap.size, 1, none⟩ = some (.slice p1 d.length c1) := HK.out.cell 1
  clear hs hb1
  rcases Nat.eq_zero_or_pos d.length with h0 | hpos
  · have e1 := HP0.out (HNZ.out.1 h0)
    subst e1
    go_wp2_with (first | rw [hw2])
    go_ret
    first
      | exact ⟨rfl, HB.out⟩
      | exact ⟨rfl, HB0.out _ h0.symm⟩
  · have e1 := HPR.out (fun h => by have := HNZ.out.2 h; omega)
    have E1 := Lib.hid e1
    clear e1
    go_wp2_with (first | rw [hw2])
    clear hw2 k0 k1
    go_loopw [4, 5] (fun s i wr => ∃ k : Nat, i = .int .i64 k ∧ k ≤ d.length ∧ s = .string ⟨(chars (d.take k).reverse).toArray⟩ ∧ Below w2.heap.size w2 wr) (fun _ i _ => d.length - (intOf i).toNat)
    case atStart => exact ⟨0, rfl, Nat.zero_le _, rfl, Below.refl _ _⟩
    case round =>
      obtain ⟨k, rfl, hk, rfl, hbr⟩ := hrel
      have hkr := HK.out.below hbr
      have k0 : wr.cell? ⟨w1.heap.size, 0, none⟩ = some (.bool neg) := hkr.cell 0
      have k1 : wr.cell? ⟨w1.heap.size, 1, none⟩ = some (.slice p1 d.length c1) := hkr.cell 1
      have HBR := Lib.hid hbr
      by_cases hka : k < d.length
      · obtain ⟨g, off, cap', hv, hg, hca⟩ := sl_nat (HS.out.below hbr) hka
        cases hv
        have hd9 : d[k] < 10 := HD10.out _ (List.getElem_mem hka)
        have HCN := Lib.hid (chars_next d k hka)
        have hcv := fun w : World => run_convert_bytes_back (P := Tryd.prog) (w.alloc (.cells #[.int .u8 (48 + (d[k] : Int))] 5)) 92 9 5 ⟨w.heap.size, 0, none⟩ 1 [UInt8.ofNat (48 + d[k])] Tryd.underlying92 Tryd.underlying5 Tryd.underlying9 (fun j hj => by
          obtain rfl : j = 0 := by simpa using hj
          have h1 : (⟨w.heap.size, 0, none⟩ : Addr).add 0 = ⟨w.heap.size, 0, none⟩ := Addr.add_lit _ _ _
          rw [h1]
          have h2 := (Blk.new w 5 [.int .u8 (48 + (d[k] : Int))]).cell 0
          rw [show (w.alloc (.cells #[.int .u8 (48 + (d[k] : Int))] 5)) = (w.alloc (.cells [.int .u8 (48 + (d[k] : Int))].toArray 5)) from rfl, h2]
          have h3 : (UInt8.ofNat (48 + d[k])).toNat = 48 + d[k] := by rw [UInt8.toNat_ofNat']; omega
          simp only [List.getElem?_cons_zero, List.getElem_cons_zero, h3]
          rw [Int.natCast_add]; rfl)
        have hcat : (⟨[UInt8.ofNat (48 + d[k])].toArray⟩ : ByteArray) ++ ⟨(chars (d.take k).reverse).toArray⟩ = ⟨(chars (d.take (k + 1)).reverse).toArray⟩ := by
          rw [HCN.out]
          apply ByteArray.ext
          simp
        simp only [List.length_cons, List.length_nil, Nat.zero_add] at hcv
        have hsz : (⟨[UInt8.ofNat (48 + d[k])].toArray⟩ : ByteArray).size + (⟨(chars (d.take k).reverse).toArray⟩ : ByteArray).size ≤ 9223372036854775807 := by
          have h1 : (⟨(chars (d.take k).reverse).toArray⟩ : ByteArray).size = k := by
            show (chars (d.take k).reverse).toArray.size = k
            simp [chars]; omega
          have h2 := HL20.out
          rw [h1]
          show 1 + k ≤ _
          omega
        have HS2 : Hid ((⟨(chars (d.take (k + 1)).reverse).toArray⟩ : ByteArray) = ⟨(chars (d.take (k + 1)).reverse).toArray⟩) := rfl
        clear hkr hbr HCN
        generalize (⟨(chars (d.take k).reverse).toArray⟩ : ByteArray) = S at *
        generalize hS2 : (⟨(chars (d.take (k + 1)).reverse).toArray⟩ : ByteArray) = S2 at *
        have HSS := Lib.hid hS2
        clear hS2 HS2
        generalize (⟨[UInt8.ofNat (48 + d[k])].toArray⟩ : ByteArray) = ch at *
        generalize d[k] = x at *
        go_wp2
        go_roundw
        case rel => exact ⟨k + 1, by congr 1, by omega, by rw [HSS.out], HBR.out.alloc HBR.out.size _⟩
        case measure => (simp [intOf]) <;> omega
      · obtain rfl : k = d.length := by omega
        rw [List.take_length]
        have hsz : (⟨#[45]⟩ : ByteArray).size + (⟨(chars d.reverse).toArray⟩ : ByteArray).size ≤ 9223372036854775807 := by
          have h1 : (⟨(chars d.reverse).toArray⟩ : ByteArray).size = d.length := by
            show (chars d.reverse).toArray.size = _
            simp [chars]
          have h2 := HL20.out
          rw [h1]
          show 1 + d.length ≤ _
          omega
        clear hkr hbr hka
        cases neg
        · have e2 : pl = chars d.reverse := E1.out
          subst e2
          clear hsz
          go_wp2
          go_ret
          exact ⟨rfl, HB.out.trans (HBR.out.mono HB.out.size)⟩
        · have e2 : pl = 45 :: chars d.reverse := E1.out
          have hcat : (⟨#[45]⟩ : ByteArray) ++ ⟨(chars d.reverse).toArray⟩ = ⟨pl.toArray⟩ := by
            rw [e2]
            apply ByteArray.ext
            simp
          clear e2
          generalize (⟨(chars d.reverse).toArray⟩ : ByteArray) = S at *
          go_wp2
          go_ret
          exact ⟨rfl, HB.out.trans (HBR.out.mono HB.out.size)⟩
end Go.Proofs.YtlgohkdckdnmhaaDoor
