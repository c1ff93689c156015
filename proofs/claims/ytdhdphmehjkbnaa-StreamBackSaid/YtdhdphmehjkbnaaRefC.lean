/- The document's numbers: Number, Size, Signed, Text. -/
import Derived.Test.YtdhdphmehjkbnaaRdJ
namespace Go.Proofs.Ytdhdphmehjkbnaa
open Go.RowKit Go.Afx

/-- Bytes as a string. -/
def bs (l : List UInt8) : ByteArray := ⟨l.toArray⟩
theorem bs_append (a b : List UInt8) : bs a ++ bs b = bs (a ++ b) := by
  apply ByteArray.ext
  simp [bs]
theorem bs_size (l : List UInt8) : (bs l).size = l.length := by
  show l.toArray.size = _
  simp
theorem bs_data (l : List UInt8) : (bs l).data.toList = l := by simp [bs]
theorem bs_nil : bs [] = ⟨#[]⟩ := rfl
theorem bs_of (s : ByteArray) : bs s.data.toList = s := rfl

theorem cv_byte (w : World) (x : Nat) (hx : x < 256) : (convert 60 9 (.slice (some ⟨w.heap.size, 0, none⟩) 1 1)).run Try.prog (w.alloc (.cells #[.int .u8 (x : Int)] 5)) = .ok (.string (bs [UInt8.ofNat x])) (w.alloc (.cells #[.int .u8 (x : Int)] 5)) :=
  run_convert_bytes_back (P := Try.prog) (w.alloc (.cells #[.int .u8 (x : Int)] 5)) 60 9 5 ⟨w.heap.size, 0, none⟩ 1 [UInt8.ofNat x] Try.underlying60 Try.underlying5 Try.underlying9 (fun j hj => by
    obtain rfl : j = 0 := by simpa using hj
    have h1 : (⟨w.heap.size, 0, none⟩ : Addr).add 0 = ⟨w.heap.size, 0, none⟩ := Addr.add_lit _ _ _
    rw [h1]
    have h2 := (Blk.new w 5 [.int .u8 (x : Int)]).cell 0
    rw [show (w.alloc (.cells #[.int .u8 (x : Int)] 5)) = (w.alloc (.cells [.int .u8 (x : Int)].toArray 5)) from rfl, h2]
    have h3 : (UInt8.ofNat x).toNat = x := by rw [UInt8.toNat_ofNat']; omega
    simp only [List.getElem?_cons_zero, List.getElem_cons_zero, h3])

set_option maxRecDepth 100000 in
theorem refnum (w : World) (n : Nat) (hn : n < 18446744073709551616) :
    Calls Try.prog 74 #[.int .u64 (n : Int)] w fun e w' => e = .returned (.string (bs (numB n))) ∧ Below w.heap.size w w' := by
  have hl8 := be_len_le 8 n hn
  have HL8 := Lib.hid hl8
  clear hl8
  go_enter Try.func74, Try.ntmps74
  go_wp2
  go_loopw [0, 3] (fun n0 s wr => ∃ (u : Nat) (acc : List UInt8), n0 = .int .u64 (u : Int) ∧ u ≤ n ∧ s = .string (bs acc) ∧ be256 u ++ acc = be256 n ∧ Below w.heap.size w wr) (fun n0 _ _ => (intOf n0).toNat)
  case atStart => exact ⟨n, [], rfl, Nat.le_refl _, by rw [bs_nil], by simp, Below.refl _ _⟩
  case round =>
    obtain ⟨u, acc, rfl, hu, rfl, hacc, hb⟩ := hrel
    have hal8 : acc.length ≤ 8 := by have := HL8.out; rw [← hacc, List.length_append] at this; omega
    have HB := Lib.hid hb
    have HSZ : Hid ((bs acc).size = acc.length) := bs_size acc
    clear hb
    rcases Nat.eq_zero_or_pos u with h0 | h0
    · subst h0
      rw [be_zero, List.nil_append] at hacc
      subst hacc
      have cvb := cv_byte wr (be256 n).length (by omega)
      have hsz := HSZ.out
      have hcat : bs [UInt8.ofNat (be256 n).length] ++ bs (be256 n) = bs (numB n) := by rw [bs_append]; rfl
      have hsl : (bs [UInt8.ofNat (be256 n).length]).size = 1 := by rw [bs_size]; rfl
      have hsum : (bs [UInt8.ofNat (be256 n).length]).size + (bs (be256 n)).size ≤ 9223372036854775807 := by rw [hsl, hsz]; omega
      clear hsl
      generalize bs (be256 n) = S at *
      generalize (be256 n).length = k at *
      generalize bs [UInt8.ofNat k] = ch at *
      generalize hR : bs (numB n) = R at *
      have HR := Lib.hid hR
      clear hR
      go_wp2
      go_ret
      exact ⟨by rw [HR.out]; rfl, HB.out.alloc HB.out.size _⟩
    · have HE := Lib.hid (be_pos u h0)
      obtain ⟨x, hx⟩ : ∃ x : Nat, x = u % 256 := ⟨_, rfl⟩
      have hx2 : (u : Int) % 256 = (x : Int) := by omega
      have hx256 : x < 256 := by omega
      have hxi : (x : Int) < 256 := by omega
      have hu0 : (0 : Int) < (u : Int) := by omega
      rw [← hx] at HE
      have HX := Lib.hid hx
      have hq : (u : Int) / 256 = ((u / 256 : Nat) : Int) := by omega
      have hlt : u / 256 < u := Nat.div_lt_self h0 (by omega)
      have cvb := cv_byte wr x hx256
      have hcat : bs [UInt8.ofNat x] ++ bs acc = bs ([UInt8.ofNat x] ++ acc) := bs_append _ _
      have hsum : (bs [UInt8.ofNat x]).size + (bs acc).size ≤ 9223372036854775807 := by rw [bs_size, bs_size]; simp; omega
      have HACC : Hid (be256 (u / 256) ++ ([UInt8.ofNat x] ++ acc) = be256 n) := by
        show _ = _
        rw [← List.append_assoc, ← HE.out]; exact hacc
      clear hx hacc
      generalize hbs : bs ([UInt8.ofNat x] ++ acc) = S2 at *
      have HBS := Lib.hid hbs
      clear hbs
      generalize bs acc = S at *
      generalize bs [UInt8.ofNat x] = ch at *
      generalize u / 256 = u2 at *
      go_wp2
      go_roundw
      case rel => exact ⟨u2, [UInt8.ofNat x] ++ acc, by congr 1, by omega, by rw [HBS.out], HACC.out, HB.out.alloc HB.out.size _⟩
      case measure => (simp [intOf]) <;> omega

set_option maxRecDepth 100000 in
theorem refsize (w : World) (n : Int) (hn : fit64 n) :
    Calls Try.prog 28 #[.int .i64 n] w fun e w' => e = .returned (.string (bs (sizeB n))) ∧ Below w.heap.size w w' := by
  unfold fit64 at hn
  by_cases h : n < 0
  · have h0 : sizeB n = numB 0 := by unfold sizeB; congr 1; omega
    rw [h0]
    have HN := Lib.hid (refnum w 0 (by decide))
    generalize bs (numB 0) = S at *
    have HN2 : Hid (Calls Try.prog 74 #[.int .u64 0] w fun e w' => e = .returned (.string S) ∧ Below w.heap.size w w') := HN
    go_enter Try.func28, Try.ntmps28
    go_wp2_with (go_at_call 74; refine HN2.out.mono ?_; rintro e w2 ⟨rfl, hb⟩)
    go_ret
    exact ⟨rfl, hb⟩
  · obtain ⟨m, rfl⟩ : ∃ m : Nat, n = m := ⟨n.toNat, by omega⟩
    have h0 : sizeB (m : Int) = numB m := by unfold sizeB; congr 1; omega
    rw [h0]
    have HN := Lib.hid (refnum w m (by omega))
    generalize bs (numB m) = S at *
    go_enter Try.func28, Try.ntmps28
    go_wp2_with (go_at_call 74; refine HN.out.mono ?_; rintro e w2 ⟨rfl, hb⟩)
    go_ret
    exact ⟨rfl, hb⟩

set_option maxRecDepth 100000 in
theorem refsign (w : World) (n : Int) (hn : fit64 n) :
    Calls Try.prog 29 #[.int .i64 n] w fun e w' => e = .returned (.string (bs (signB n))) ∧ Below w.heap.size w w' := by
  unfold fit64 at hn
  unfold signB
  by_cases h : n < 0
  · obtain ⟨u, hu⟩ : ∃ u : Nat, u = zig n := ⟨_, rfl⟩
    have hu2 : (u : Int) = -2 * n - 1 := by rw [hu]; unfold zig; rw [if_pos h]; omega
    rw [← hu]
    have HN := Lib.hid (refnum w u (by omega))
    clear hu
    generalize bs (numB u) = S at *
    obtain ⟨m, hm⟩ : ∃ m : Nat, n = -(m : Int) - 1 := ⟨(-n - 1).toNat, by omega⟩
    subst hm
    have hu3 : u = 2 * m + 1 := by omega
    subst hu3
    have HN2 : Hid (Calls Try.prog 74 #[.int .u64 (2 * (m : Int) + 1)] w fun e w' => e = .returned (.string S) ∧ Below w.heap.size w w') := by
      have := HN.out
      rw [Int.natCast_add, Int.natCast_mul] at this
      exact this
    have e1 : -(-(m : Int) - 1 + 1) = m := by omega
    clear hu2 HN
    go_enter Try.func29, Try.ntmps29
    go_wp2_with (go_at_call 74; refine HN2.out.mono ?_; rintro e w2 ⟨rfl, hb⟩)
    go_ret
    exact ⟨rfl, hb⟩
  · obtain ⟨m, rfl⟩ : ∃ m : Nat, n = m := ⟨n.toNat, by omega⟩
    have hz : zig (m : Int) = 2 * m := by unfold zig; rw [if_neg h]; omega
    rw [hz]
    have HN := Lib.hid (refnum w (2 * m) (by omega))
    generalize bs (numB (2 * m)) = S at *
    have HN2 : Hid (Calls Try.prog 74 #[.int .u64 (2 * (m : Int))] w fun e w' => e = .returned (.string S) ∧ Below w.heap.size w w') := by
      have := HN.out
      rw [Int.natCast_mul] at this
      exact this
    clear HN
    go_enter Try.func29, Try.ntmps29
    go_wp2_with (go_at_call 74; refine HN2.out.mono ?_; rintro e w2 ⟨rfl, hb⟩)
    go_ret
    exact ⟨rfl, hb⟩

set_option maxRecDepth 100000 in
theorem reftext (w : World) (s : ByteArray) (hs : s.size ≤ 1000000) :
    Calls Try.prog 30 #[.string s] w fun e w' => e = .returned (.string (bs (textB s))) ∧ Below w.heap.size w w' := by
  have HN := Lib.hid (refsize w s.size (by unfold fit64; omega))
  have h0 : sizeB (s.size : Int) = numB s.size := by unfold sizeB; congr 1; omega
  rw [h0] at HN
  have hcat : bs (numB s.size) ++ s = bs (textB s) := by
    have := bs_append (numB s.size) s.data.toList
    rw [bs_of] at this
    rw [this]; rfl
  have hl := be_len8 s.size (by omega)
  have hsum : (bs (numB s.size)).size + s.size ≤ 9223372036854775807 := by rw [bs_size]; omega
  clear h0 hl
  generalize bs (textB s) = R at *
  generalize bs (numB s.size) = S at *
  go_enter Try.func30, Try.ntmps30
  go_wp2_with (go_at_call 28; refine HN.out.mono ?_; rintro e w2 ⟨rfl, hb⟩)
  go_ret
  exact ⟨rfl, hb⟩
end Go.Proofs.Ytdhdphmehjkbnaa
