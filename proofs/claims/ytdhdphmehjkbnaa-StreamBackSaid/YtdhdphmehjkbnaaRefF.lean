/- The document's bytes: Value, Row, Rows. -/
import Derived.Test.YtdhdphmehjkbnaaRefC
import Derived.Test.YtdhdphmehjkbnaaRowsG
namespace Go.Proofs.Ytdhdphmehjkbnaa
open Go.RowKit Go.Afx

theorem cv_block (w : World) (l : List UInt8) : (convert 60 9 (.slice (some ⟨w.heap.size, 0, none⟩) l.length l.length)).run Try.prog (w.alloc (.cells (by8 l).toArray 5)) = .ok (.string (bs l)) (w.alloc (.cells (by8 l).toArray 5)) :=
  run_convert_bytes_back (P := Try.prog) (w.alloc (.cells (by8 l).toArray 5)) 60 9 5 ⟨w.heap.size, 0, none⟩ l.length l Try.underlying60 Try.underlying5 Try.underlying9 (fun j hj => by
    have h1 : (⟨w.heap.size, 0, none⟩ : Addr).add j = ⟨w.heap.size, j, none⟩ := by rw [Addr.add_lit, Nat.zero_add]
    rw [h1, (Blk.new w 5 (by8 l)).cell j]
    exact by8_get l j hj)

set_option maxRecDepth 100000 in
theorem refval (w : World) (v : AV) (hn : fit64 v.n) :
    Calls Try.prog 31 #[v.agg] w fun e w' => e = .returned (.string (bs (valB v))) ∧ Below w.heap.size w w' := by
  have HR := Lib.hid (fun w => refright w v)
  have hcat1 : ∀ l : List UInt8, (⟨#[1]⟩ : ByteArray) ++ bs l = bs (1 :: l) := fun l => bs_append [1] l
  have hcat2 : ∀ l : List UInt8, (⟨#[2]⟩ : ByteArray) ++ bs l = bs (2 :: l) := fun l => bs_append [2] l
  have hsz1 : (⟨#[1]⟩ : ByteArray).size = 1 := rfl
  have hsz2 : (⟨#[2]⟩ : ByteArray).size = 1 := rfl
  have hvl := valB_len v hn
  have HV : Hid (valB v = if v.right then rightB v else rightB AV.zero) := rfl
  have HRB : Hid (rightB v = UInt8.ofNat v.kind.toNat :: (if v.kind = 1 then signB v.n else if v.kind = 2 then textB v.s else [UInt8.ofNat v.n.toNat])) := rfl
  have hrd : v.right = ((v.kind == 1 && v.s.toList.isEmpty) || (v.kind == 2 && v.n == 0 && decide (v.s.size ≤ 200)) || (v.kind == 3 && (v.n == 0 || v.n == 1) && v.s.toList.isEmpty)) := rfl
  generalize valB v = out at *
  generalize rightB v = rb at *
  have HC1 := Lib.hid hcat1
  have HC2 := Lib.hid hcat2
  have hag : v.agg = .agg #[.int .i64 v.kind, .int .i64 v.n, .string v.s] := rfl
  rw [hag] at HR ⊢
  have HRD := Lib.hid hrd
  clear hag hcat1 hcat2 hrd
  generalize v.right = r at *
  generalize v.kind = k at *
  generalize v.n = n at *
  generalize v.s = s at *
  cases r
  · have HO : Hid (out = 1 :: signB 0) := HV.out
    have hc := HC1.out (signB 0)
    rw [← HO.out] at hc
    have HS := Lib.hid (fun w => refsign w 0 ⟨by omega, by omega⟩)
    have hsl : (bs (signB 0)).size ≤ 1010 := by rw [bs_size]; have := HO.out; rw [this] at hvl; simp at hvl; omega
    have hsum : (⟨#[1]⟩ : ByteArray).size + (bs (signB 0)).size ≤ 9223372036854775807 := by rw [hsz1]; omega
    clear HV HRB hvl HO hsz1 hsz2 hsl
    generalize bs (signB 0) = S at *
    generalize bs out = R at *
    go_enter Try.func31, Try.ntmps31
    go_wp2_with (first
      | (go_at_call 75; refine (HR.out _).mono ?_; rintro e w2 ⟨rfl, hb2⟩; have HB2 := Lib.hid hb2; clear hb2)
      | (go_at_call 29; refine (HS.out _).mono ?_; rintro e w3 ⟨rfl, hb3⟩; have HB3 := Lib.hid hb3; clear hb3))
    go_ret
    have h1 : Below w.heap.size w (w.alloc (.cells #[.int .i64 k, .int .i64 n, .string s] 56)) := (Below.refl _ _).alloc (Nat.le_refl _) _
    have h2 := h1.trans (HB2.out.mono h1.size)
    exact ⟨rfl, h2.trans (HB3.out.mono h2.size)⟩
  · have hcase : k = 1 ∨ (k = 2 ∧ n = 0 ∧ s.size ≤ 200) ∨ (k = 3 ∧ (n = 0 ∨ n = 1)) := by
      have := HRD.out
      simp at this
      omega
    have HO : Hid (out = rb) := HV.out
    clear HRD HV
    rcases hcase with rfl | ⟨rfl, rfl, hs⟩ | ⟨rfl, hn01⟩
    · have hrb : rb = 1 :: signB n := HRB.out
      rw [HO.out, hrb] at hvl ⊢
      have hc := HC1.out (signB n)
      have HS := Lib.hid (fun w => refsign w n hn)
      have hsl : (bs (signB n)).size ≤ 1010 := by rw [bs_size]; simp at hvl; omega
      have hsum : (⟨#[1]⟩ : ByteArray).size + (bs (signB n)).size ≤ 9223372036854775807 := by rw [hsz1]; omega
      clear HC1 HC2 HRB HO hrb hsz1 hsz2 hsl hvl
      generalize bs (1 :: signB n) = R at *
      generalize bs (signB n) = S at *
      have h1 : Below w.heap.size w (w.alloc (.cells #[.int .i64 1, .int .i64 n, .string s] 56)) := (Below.refl _ _).alloc (Nat.le_refl _) _
      have HK : Hid (Blk (w.alloc (.cells #[.int .i64 1, .int .i64 n, .string s] 56)) w.heap.size 56 [.int .i64 1, .int .i64 n, .string s]) := Blk.new w _ _
      have H1 := Lib.hid h1
      clear h1
      go_enter Try.func31, Try.ntmps31
      go_wp2_with fail
      refine (HR.out _).mono ?_
      clear HR
      rintro e w2 ⟨rfl, hb2⟩
      have hk2 := HK.out.below hb2
      have k0 : w2.cell? ⟨w.heap.size, 0, none⟩ = some (.int .i64 1) := hk2.cell 0
      have k1 : w2.cell? ⟨w.heap.size, 1, none⟩ = some (.int .i64 n) := hk2.cell 1
      have k2 : w2.cell? ⟨w.heap.size, 2, none⟩ = some (.string s) := hk2.cell 2
      have HB2 := Lib.hid (H1.out.trans (hb2.mono H1.out.size))
      clear hk2 hb2 HK H1
      go_wp2_with (go_at_call 29; refine (HS.out _).mono ?_; rintro e w3 ⟨rfl, hb3⟩)
      go_ret
      exact ⟨rfl, HB2.out.trans (hb3.mono HB2.out.size)⟩
    · have hrb : rb = 2 :: textB s := HRB.out
      rw [HO.out, hrb] at hvl ⊢
      have hc := HC2.out (textB s)
      have HS := Lib.hid (fun w => reftext w s (by omega))
      have hsl : (bs (textB s)).size ≤ 1010 := by rw [bs_size]; simp at hvl; omega
      have hsum : (⟨#[2]⟩ : ByteArray).size + (bs (textB s)).size ≤ 9223372036854775807 := by rw [hsz2]; omega
      clear HC1 HC2 HRB HO hrb hsz1 hsz2 hsl hvl hs
      generalize bs (2 :: textB s) = R at *
      generalize bs (textB s) = S at *
      have h1 : Below w.heap.size w (w.alloc (.cells #[.int .i64 2, .int .i64 0, .string s] 56)) := (Below.refl _ _).alloc (Nat.le_refl _) _
      have HK : Hid (Blk (w.alloc (.cells #[.int .i64 2, .int .i64 0, .string s] 56)) w.heap.size 56 [.int .i64 2, .int .i64 0, .string s]) := Blk.new w _ _
      have H1 := Lib.hid h1
      clear h1
      go_enter Try.func31, Try.ntmps31
      go_wp2_with fail
      refine (HR.out _).mono ?_
      clear HR
      rintro e w2 ⟨rfl, hb2⟩
      have hk2 := HK.out.below hb2
      have k0 : w2.cell? ⟨w.heap.size, 0, none⟩ = some (.int .i64 2) := hk2.cell 0
      have k1 : w2.cell? ⟨w.heap.size, 1, none⟩ = some (.int .i64 0) := hk2.cell 1
      have k2 : w2.cell? ⟨w.heap.size, 2, none⟩ = some (.string s) := hk2.cell 2
      have HB2 := Lib.hid (H1.out.trans (hb2.mono H1.out.size))
      clear hk2 hb2 HK H1
      go_wp2_with (go_at_call 30; refine (HS.out _).mono ?_; rintro e w3 ⟨rfl, hb3⟩)
      go_ret
      exact ⟨rfl, HB2.out.trans (hb3.mono HB2.out.size)⟩
    · rcases hn01 with rfl | rfl
      · have hrb : rb = [3, 0] := HRB.out
        rw [HO.out, hrb] at hvl ⊢
        have HCV : Hid (∀ w : World, (convert 60 9 (.slice (some ⟨w.heap.size, 0, none⟩) 2 2)).run Try.prog (w.alloc (.cells #[.int .u8 3, .int .u8 0] 5)) = .ok (.string (bs [3, 0])) (w.alloc (.cells #[.int .u8 3, .int .u8 0] 5))) := fun w => cv_block w [3, 0]
        clear HC1 HC2 HRB HO hrb hsz1 hsz2 hvl hn
        generalize bs [3, 0] = R at *
        have h1 : Below w.heap.size w (w.alloc (.cells #[.int .i64 3, .int .i64 0, .string s] 56)) := (Below.refl _ _).alloc (Nat.le_refl _) _
        have HK : Hid (Blk (w.alloc (.cells #[.int .i64 3, .int .i64 0, .string s] 56)) w.heap.size 56 [.int .i64 3, .int .i64 0, .string s]) := Blk.new w _ _
        have H1 := Lib.hid h1
        clear h1
        go_enter Try.func31, Try.ntmps31
        go_wp2_with fail
        refine (HR.out _).mono ?_
        clear HR
        rintro e w2 ⟨rfl, hb2⟩
        have hk2 := HK.out.below hb2
        have k0 : w2.cell? ⟨w.heap.size, 0, none⟩ = some (.int .i64 3) := hk2.cell 0
        have k1 : w2.cell? ⟨w.heap.size, 1, none⟩ = some (.int .i64 0) := hk2.cell 1
        have k2 : w2.cell? ⟨w.heap.size, 2, none⟩ = some (.string s) := hk2.cell 2
        have HB2 := Lib.hid (H1.out.trans (hb2.mono H1.out.size))
        clear hk2 hb2 HK H1
        have cv := HCV.out w2
        go_wp2
        go_ret
        exact ⟨rfl, HB2.out.alloc HB2.out.size _⟩
      · have hrb : rb = [3, 1] := HRB.out
        rw [HO.out, hrb] at hvl ⊢
        have HCV : Hid (∀ w : World, (convert 60 9 (.slice (some ⟨w.heap.size, 0, none⟩) 2 2)).run Try.prog (w.alloc (.cells #[.int .u8 3, .int .u8 1] 5)) = .ok (.string (bs [3, 1])) (w.alloc (.cells #[.int .u8 3, .int .u8 1] 5))) := fun w => cv_block w [3, 1]
        clear HC1 HC2 HRB HO hrb hsz1 hsz2 hvl hn
        generalize bs [3, 1] = R at *
        have h1 : Below w.heap.size w (w.alloc (.cells #[.int .i64 3, .int .i64 1, .string s] 56)) := (Below.refl _ _).alloc (Nat.le_refl _) _
        have HK : Hid (Blk (w.alloc (.cells #[.int .i64 3, .int .i64 1, .string s] 56)) w.heap.size 56 [.int .i64 3, .int .i64 1, .string s]) := Blk.new w _ _
        have H1 := Lib.hid h1
        clear h1
        go_enter Try.func31, Try.ntmps31
        go_wp2_with fail
        refine (HR.out _).mono ?_
        clear HR
        rintro e w2 ⟨rfl, hb2⟩
        have hk2 := HK.out.below hb2
        have k0 : w2.cell? ⟨w.heap.size, 0, none⟩ = some (.int .i64 3) := hk2.cell 0
        have k1 : w2.cell? ⟨w.heap.size, 1, none⟩ = some (.int .i64 1) := hk2.cell 1
        have k2 : w2.cell? ⟨w.heap.size, 2, none⟩ = some (.string s) := hk2.cell 2
        have HB2 := Lib.hid (H1.out.trans (hb2.mono H1.out.size))
        clear hk2 hb2 HK H1
        have cv := HCV.out w2
        go_wp2
        go_ret
        exact ⟨rfl, HB2.out.alloc HB2.out.size _⟩
end Go.Proofs.Ytdhdphmehjkbnaa
