/- The lex law's awake. -/
import Derived.Test.YtjbocnofkaffjaaLxG
namespace Go.Proofs.Ytjbocnofkaffjaa
open Go.RowKit Go.Afx

theorem awake_words : wordsAll lxNum lxNam [97, 62, 61, 39, 105, 116, 39, 39, 115, 39] = (some [⟨3, [97], 0, 0⟩, ⟨0, [62, 61], 0, 1⟩, ⟨2, [105, 116, 39, 115], 0, 3⟩], 0) := by rfl

set_option maxRecDepth 100000 in
set_option maxHeartbeats 2000000 in
theorem lx_awake (w : World) : Calls Try.prog 7 #[] w fun e w' => e = .returned (.bool true) ∧ Below w.heap.size w w' := by
  have hw := words_any w ⟨#[97, 62, 61, 39, 105, 116, 39, 39, 115, 39]⟩ _ rfl (by decide)
  rw [awake_words] at hw
  have HW := Lib.hid hw
  clear hw
  go_enter Try.func7, Try.ntmps7
  go_wp2_with fail
  refine HW.out.mono ?_
  clear HW
  rintro e w2 ⟨hb2, hwo⟩
  rcases hwo with ⟨ws, v, he, rfl, hs⟩ | ⟨h, _⟩
  · obtain rfl : ws = [⟨3, [97], 0, 0⟩, ⟨0, [62, 61], 0, 1⟩, ⟨2, [105, 116, 39, 115], 0, 3⟩] := (Option.some.inj he).symm
    have HON := Lib.hid (on_any w2 _ v _ hs (by decide) (by decide) 10)
    obtain ⟨p, cap, hv, hc1, hc2⟩ := hs.form
    have hv2 : v = .slice p 3 cap := hv
    subst hv2
    have HS := Lib.hid hs
    have HB2 := Lib.hid hb2
    clear hs hb2 he hv
    go_wp2_with fail
    refine HON.out.mono ?_
    clear HON
    rintro e w3 ⟨b, v', rfl, hbb, hic, hb3⟩
    obtain ⟨g, off, rfl, hg, e0, e1, e2, e3⟩ := wv_at (HS.out.below hb3) (k := 2) (by decide)
    have e0b : w3.cell? ⟨g, off + 8, none⟩ = some (.int .i64 2) := e0
    have e1b : w3.cell? ⟨g, off + 8 + 1, none⟩ = some (.string ⟨#[105, 116, 39, 115]⟩) := e1
    have e2b : w3.cell? ⟨g, off + 8 + 2, none⟩ = some (.int .i64 0) := e2
    have e3b : w3.cell? ⟨g, off + 8 + 3, none⟩ = some (.int .i64 3) := e3
    have HB3 := Lib.hid (HB2.out.trans (hb3.mono HB2.out.size))
    have hbw : w.heap.size ≤ b := Nat.le_trans HB2.out.size hbb
    have hal : Below w3.heap.size w3 (w3.alloc (.cells #[.string ⟨#[97]⟩, .string ⟨#[62, 61]⟩] 9)) := (Below.refl _ _).alloc (Nat.le_refl _) _
    have hblt := hic.1.lt
    have hts : Sl (w3.alloc (.cells #[.string ⟨#[97]⟩, .string ⟨#[62, 61]⟩] 9)) (fun q => q ≠ b) 1 (.slice (some ⟨w3.heap.size, 0, none⟩) 2 2) 2 (txCells [⟨#[97]⟩, ⟨#[62, 61]⟩]) :=
      (Own.made w3 9 1 [.string ⟨#[97]⟩, .string ⟨#[62, 61]⟩] [] 2 2 rfl (by intro u hu; simp at hu; rcases hu with rfl | rfl <;> rfl) (Nat.le_refl _) (by simp [maxLen]) (by simp)).sl (fun q hq => by
        have : w3.heap.size = q := by simpa [Value.ownBlock] using hq
        omega)
    have htk := take_any _ b 10 v' _ (hic.below hal) _ [⟨#[97]⟩, ⟨#[62, 61]⟩] hts (by decide) (by decide) (by
      intro k h1 h2
      have hk : k = 0 ∨ k = 1 := by simp only [List.length_cons, List.length_nil] at h1; omega
      rcases hk with rfl | rfl
      · exact ⟨.inr rfl, rfl⟩
      · exact ⟨.inl rfl, rfl⟩)
    have HTK : Hid (Calls Try.prog 11 #[.pointer (some ⟨b, 0, none⟩), .slice (some ⟨w3.heap.size, 0, none⟩) 2 2] (w3.alloc (.cells #[.string ⟨#[97]⟩, .string ⟨#[62, 61]⟩] 9)) fun e2 w' => e2 = .returned (.bool true) ∧ IsCur w' b (2 : Int) 10 v' [⟨3, [97], 0, 0⟩, ⟨0, [62, 61], 0, 1⟩, ⟨2, [105, 116, 39, 115], 0, 3⟩] ∧ Only (fun q => q = b) (w3.alloc (.cells #[.string ⟨#[97]⟩, .string ⟨#[62, 61]⟩] 9)) w') := htk
    have HAL := Lib.hid hal
    clear htk hts hic hal hb3 hbb e0 e1 e2 e3 HS HB2 hblt
    go_wp2_with fail
    refine HTK.out.mono ?_
    clear HTK
    rintro e w4 ⟨rfl, hic4, ho4⟩
    have hb34 := HB3.out.trans (HAL.out.mono HB3.out.size)
    have HB4 := Lib.hid (hb34.trans (ho4.below hb34.size (fun q hq => by omega)))
    have hlf := left_any w4 b 2 10 v' _ hic4 (by decide) (by decide)
    have HLF : Hid (Calls Try.prog 12 #[.pointer (some ⟨b, 0, none⟩)] w4 fun e w' => e = .returned (.int .i64 1) ∧ Below w4.heap.size w4 w') := hlf
    clear hlf hic4 ho4 hb34
    go_wp2_with (go_at_call 12; refine HLF.out.mono ?_; clear HLF; rintro e w5 ⟨rfl, hb5⟩; have HB5 := Lib.hid (HB4.out.trans (hb5.mono HB4.out.size)); clear hb5)
    go_ret
    exact ⟨rfl, HB5.out⟩
  · cases h
end Go.Proofs.Ytjbocnofkaffjaa
