/- The writer: signed numbers, texts; what was laid. -/
import Derived.Test.YtdhdphmehjkbnaaWr
import Derived.Laws.Bits64
namespace Go.Proofs.Ytdhdphmehjkbnaa
open Go.RowKit Go.Afx

/-- A signed number's place among those that have no sign. -/
def zig (n : Int) : Nat := if n < 0 then (-2 * n - 1).toNat else (2 * n).toNat
def signB (n : Int) : List UInt8 := numB (zig n)

theorem xor_ones (m : Nat) (h : m < 18446744073709551616) : m ^^^ 18446744073709551615 = 18446744073709551615 - m := by
  have := @BitVec.toNat_not 64 (BitVec.ofNat 64 m)
  have h2 : (BitVec.ofNat 64 m ^^^ BitVec.allOnes 64) = ~~~ (BitVec.ofNat 64 m) := BitVec.xor_allOnes
  have h3 := congrArg BitVec.toNat h2
  rw [BitVec.toNat_xor, this] at h3
  simp at h3
  rw [Nat.mod_eq_of_lt h] at h3
  omega
theorem zig_neg (n : Int) (h : fit64 n) (hn : n < 0) : bits .xor .u64 (IntKind.u64.wrap (IntKind.u64.wrap n * 2)) (IntKind.u64.wrap (n / 9223372036854775808)) = (zig n : Int) := by
  unfold fit64 at h
  have e1 : IntKind.u64.wrap (IntKind.u64.wrap n * 2) = (((2 * n) % 18446744073709551616).toNat : Int) := by rw [IntKind.wrap_u64, IntKind.wrap_u64]; omega
  have e2 : IntKind.u64.wrap (n / 9223372036854775808) = ((18446744073709551615 : Nat) : Int) := by rw [IntKind.wrap_u64]; omega
  rw [e1, e2, bits_xor_u64_nat _ _ (by omega) (by omega), xor_ones _ (by omega)]
  unfold zig
  rw [if_pos hn]
  omega
theorem zig_pos (n : Int) (h : fit64 n) (hn : ¬ n < 0) : bits .xor .u64 (n * 2) (n / 9223372036854775808) = (zig n : Int) := by
  unfold fit64 at h
  have e1 : n * 2 = ((2 * n).toNat : Int) := by omega
  have e2 : n / 9223372036854775808 = ((0 : Nat) : Int) := by omega
  rw [e1, e2, bits_xor_u64_nat _ _ (by omega) (by omega), Nat.xor_zero]
  unfold zig
  rw [if_neg hn]

set_option maxRecDepth 100000 in
set_option maxHeartbeats 1000000 in
theorem signed_wr (w : World) (t : TypeId) (b : Nat) (F : Nat → Prop) (rest : List Value) (l : List UInt8) (hb : Buf w t b F rest l) (v : Value) (x : List Int) (hx : Sl w (fun k => ¬ F k) 1 v x.length (ints x)) (hf : ∀ n ∈ x, fit64 n) (hlen : l.length ≤ 100000000) (hxl : x.length ≤ 1000000) :
    Calls Try.prog 35 #[.pointer (some ⟨b, 0, none⟩), v] w fun e w' => e = .returned (.pointer (some ⟨b, 0, none⟩)) ∧ ∃ F', Buf w' t b F' rest (l ++ laid signB x) ∧ Only F w w' ∧ ∀ k, F' k → F k ∨ w.heap.size ≤ k := by
  obtain ⟨p, cap, rfl, hc1, hc2⟩ := hx.form
  have HB := Lib.hid hb
  have HX := Lib.hid hx
  have HF := Lib.hid hf
  clear hb hx hf
  go_enter Try.func35, Try.ntmps35
  go_wp2
  go_loopw [9] (fun i wr => ∃ (k : Nat) (F3 : Nat → Prop), i = .int .i64 k ∧ k ≤ x.length ∧ Buf wr t b F3 rest (l ++ laid signB (x.take k)) ∧ Only F w wr ∧ ∀ q, F3 q → F q ∨ w.heap.size ≤ q) (fun i _ => x.length - (intOf i).toNat)
  case atStart => exact ⟨0, F, rfl, Nat.zero_le _, by simpa [laid] using HB.out, Only.refl _ _, fun q h => .inl h⟩
  case round =>
    obtain ⟨k, F3, rfl, hk, hb3, ho3, hf3⟩ := hrel
    have HB3 := Lib.hid hb3
    have HO3 := Lib.hid ho3
    have HF3 := Lib.hid hf3
    by_cases hka : k < x.length
    · obtain ⟨g, off, cap', hv, _, _, hgb, hglt, hc⟩ := HX.out.place (by omega)
      cases hv
      have hc0 : w.cell? ⟨g, off + k, none⟩ = some (.int .i64 x[k]) := by rw [hc k (by simpa [ints] using hka)]; simp [ints, hka]
      have hck : wr.cell? ⟨g, off + k, none⟩ = some (.int .i64 x[k]) := (ho3.cell (p := ⟨g, off + k, none⟩) hglt hgb).trans hc0
      have hfx := HF.out x[k] (List.getElem_mem hka)
      have HN := Lib.hid (laid_next signB x k hka)
      have HXN := Lib.hid (zig_neg x[k] hfx)
      have HXP := Lib.hid (zig_pos x[k] hfx)
      have hll := laid_len signB 9 (x.take k) (fun n hn => be_len8 _ (by have := HF.out n (List.mem_of_mem_take hn); unfold fit64 at this; unfold zig; split <;> omega))
      have hlk : (x.take k).length ≤ 1000000 := by rw [List.length_take]; omega
      unfold fit64 at hfx
      clear hc hc0 hb3 ho3 hf3
      generalize x[k] = n at *
      obtain ⟨u, hu⟩ : ∃ u : Nat, u = zig n := ⟨_, rfl⟩
      have hu64 : u < 18446744073709551616 := by rw [hu]; unfold zig; split <;> omega
      have hL := number_any wr t b F3 rest _ HB3.out u hu64 (by rw [List.length_append]; omega)
      have hsb : signB n = numB u := by unfold signB; rw [hu]
      rw [List.append_assoc, ← hsb, ← HN.out] at hL
      have HL := Lib.hid hL
      have HU := Lib.hid hu
      clear hL hll hlk hu hsb
      by_cases hneg : n < 0
      · have hxo := HXN.out hneg
        rw [← HU.out] at hxo
        clear HXN HXP
        go_wp2_with (go_at_call 76; refine HL.out.mono ?_; clear HL; rintro e w4 ⟨rfl, F4, h41, h42, h43⟩; have H41 := Lib.hid h41; have H42 := Lib.hid h42; have H43 := Lib.hid h43; clear h41 h42 h43)
        have ho4 : Only F w w4 := HO3.out.trans H42.out (fun q hq h => by
          rcases HF3.out q h with h2 | h2
          · exact h2
          · omega)
        refine ⟨⟨k + 1, F4, by congr 1, by omega, H41.out, ho4, fun q hq => ?_⟩, ?_⟩
        · rcases H43.out q hq with h | h
          · exact HF3.out q h
          · exact .inr (Nat.le_trans HO3.out.size h)
        · (simp [intOf]) <;> omega
      · have hxo := HXP.out hneg
        rw [← HU.out] at hxo
        clear HXN HXP
        go_wp2_with (go_at_call 76; refine HL.out.mono ?_; clear HL; rintro e w4 ⟨rfl, F4, h41, h42, h43⟩; have H41 := Lib.hid h41; have H42 := Lib.hid h42; have H43 := Lib.hid h43; clear h41 h42 h43)
        have ho4 : Only F w w4 := HO3.out.trans H42.out (fun q hq h => by
          rcases HF3.out q h with h2 | h2
          · exact h2
          · omega)
        refine ⟨⟨k + 1, F4, by congr 1, by omega, H41.out, ho4, fun q hq => ?_⟩, ?_⟩
        · rcases H43.out q hq with h | h
          · exact HF3.out q h
          · exact .inr (Nat.le_trans HO3.out.size h)
        · (simp [intOf]) <;> omega
    · obtain rfl : k = x.length := by omega
      clear hb3 ho3 hf3
      go_wp2
      go_ret
      refine ⟨rfl, F3, ?_, HO3.out, HF3.out⟩
      have := HB3.out
      rwa [List.take_length] at this

set_option maxRecDepth 100000 in
theorem string_bytes (w : World) (t : TypeId) (b : Nat) (F : Nat → Prop) (rest : List Value) (l : List UInt8) (hb : Buf w t b F rest l) :
    Calls Try.prog 42 #[.pointer (some ⟨b, 0, none⟩)] w fun e w' => e = .returned (.string ⟨l.toArray⟩) ∧ w = w' := by
  obtain ⟨bv, h1, h2, h3, h4⟩ := hb
  have k0 := h1.cell 0
  rcases h2.2.2 with ⟨rfl, h0⟩ | ⟨g, off, cap, cur, rfl, hcur, hc1, hc2, hrest⟩
  · have hl : l = [] := List.eq_nil_of_length_eq_zero h0
    subst hl
    have k1 : w.cell? ⟨b, 0, none⟩ = some (.slice none 0 0) := k0
    have kc : ∀ w, (convert 60 9 (.slice none 0 0)).run Try.prog w = .ok (.string ⟨#[]⟩) w := fun _ => by kernel_rfl
    clear h1 h2 h3 h4 k0
    go_enter Try.func42, Try.ntmps42
    go_wp2
    go_ret
    exact ⟨rfl, rfl⟩
  · have k1 : w.cell? ⟨b, 0, none⟩ = some (.slice (some ⟨g, off, none⟩) l.length cap) := k0
    have kc := run_convert_bytes_back (P := Try.prog) w 60 9 5 ⟨g, off, none⟩ cap l Try.underlying60 Try.underlying5 Try.underlying9 (fun j hj => by
      have h5 := (h2.cellAt (j := j) (by omega)).1
      rw [Addr.add_lit, h5]
      exact by8_get l j hj)
    clear h1 h2 h3 h4 k0 hcur hrest
    go_enter Try.func42, Try.ntmps42
    go_wp2
    go_ret
    exact ⟨rfl, rfl⟩
theorem string_wr (w : World) (t : TypeId) (b : Nat) (F : Nat → Prop) (rest : List Value) (l : List UInt8) (hb : Buf w t b F rest l) :
    Calls Try.prog 40 #[.pointer (some ⟨b, 0, none⟩)] w fun e w' => e = .returned (.string ⟨l.toArray⟩) ∧ w = w' := by
  have HS := Lib.hid (string_bytes w t b F rest l hb)
  clear hb
  generalize (⟨l.toArray⟩ : ByteArray) = s at *
  go_enter Try.func40, Try.ntmps40
  go_wp2_with (go_at_call 42; refine HS.out.mono ?_; rintro e w2 ⟨rfl, rfl⟩)
  go_ret
  exact ⟨rfl, rfl⟩
theorem len_bytes (w : World) (t : TypeId) (b : Nat) (F : Nat → Prop) (rest : List Value) (l : List UInt8) (hb : Buf w t b F rest l) :
    Calls Try.prog 43 #[.pointer (some ⟨b, 0, none⟩)] w fun e w' => e = .returned (.int .i64 l.length) ∧ w = w' := by
  obtain ⟨bv, h1, h2, h3, h4⟩ := hb
  obtain ⟨p, c, rfl, _, _⟩ := own_form2 h2
  have k0 : w.cell? ⟨b, 0, none⟩ = some (.slice p l.length c) := h1.cell 0
  clear h1 h2 h3 h4
  go_enter Try.func43, Try.ntmps43
  go_wp2
  go_ret
  exact ⟨rfl, rfl⟩
theorem len_wr (w : World) (t : TypeId) (b : Nat) (F : Nat → Prop) (rest : List Value) (l : List UInt8) (hb : Buf w t b F rest l) :
    Calls Try.prog 41 #[.pointer (some ⟨b, 0, none⟩)] w fun e w' => e = .returned (.int .i64 l.length) ∧ w = w' := by
  have HS := Lib.hid (len_bytes w t b F rest l hb)
  clear hb
  go_enter Try.func41, Try.ntmps41
  go_wp2_with (go_at_call 43; refine HS.out.mono ?_; rintro e w2 ⟨rfl, rfl⟩)
  go_ret
  exact ⟨rfl, rfl⟩
end Go.Proofs.Ytdhdphmehjkbnaa
