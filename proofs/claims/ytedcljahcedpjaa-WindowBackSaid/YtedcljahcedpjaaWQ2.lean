/- Contracts of the functions that the statement reaches, one behind the other. No condition beyond each theorem's own. -/
import Derived.Laws.Bits64b
import Derived.Laws.Bits64
import Derived.Deep.CutBlock
import Derived.Deep.DeepCutAuto
import Derived.Lib.Hide
import Derived.Test.YtedcljahcedpjaaWQ1
set_option linter.unusedSimpArgs false
set_option linter.unusedVariables false
/- The reader: Rows. -/
/- The reader: what it keeps; Good, Len, End, Fail, cut. -/
namespace Go.Proofs.Ytedcljahcedpjaa
open Go.RowKit Go.Afx
variable {RB : Nat → Prop}

@[go_sem] theorem eqlNilU8 (w : World) (a : Option Addr) (n c : Nat) : (binOp .eql 88 (.slice a n c) (.slice none 0 0)).run Try.prog w = .ok (.bool a.isNone) w := Lib.run_eql_slice_nil w _ _ a n c 0 0 Try.underlying88

/-- A reader in the block b: bad, or with the bytes l to come, that lie elsewhere. -/
def IsRd (w : World) (b : Nat) (RB : Nat → Prop) (bad : Bool) (l : List UInt8) : Prop :=
  ∃ bv, Blk w b 116 [bv, .bool bad] ∧ Sl w (fun k => k ≠ b ∧ RB k) 1 bv l.length (by8 l) ∧ (bad = true → l = [])

theorem good_rd (w : World) (b : Nat) (bad : Bool) (l : List UInt8) (h : IsRd w b RB bad l) :
    Calls Try.prog 54 #[.pointer (some ⟨b, 0, none⟩)] w fun e w' => e = .returned (.bool (!bad)) ∧ w = w' := by
  obtain ⟨bv, h1, h2, h3⟩ := h
  have k1 : w.cell? ⟨b, 1, none⟩ = some (.bool bad) := h1.cell 1
  clear h1 h2 h3
  go_enter Try.func54, Try.ntmps54
  go_wp2
  go_ret
  exact ⟨rfl, rfl⟩
theorem good_nil (w : World) : Calls Try.prog 54 #[.pointer none] w fun e w' => e = .returned (.bool false) ∧ w = w' := by
  go_enter Try.func54, Try.ntmps54
  go_wp2
  go_ret
  exact ⟨rfl, rfl⟩
theorem fail_rd (w : World) (b : Nat) (bad : Bool) (l : List UInt8) (h : IsRd w b RB bad l) :
    Calls Try.prog 56 #[.pointer (some ⟨b, 0, none⟩)] w fun e w' => e = .returned (.tuple #[]) ∧ IsRd w' b RB true [] ∧ Only (fun k => k = b) w w' := by
  obtain ⟨bv, h1, h2, h3⟩ := h
  obtain ⟨p, c, rfl, _, _⟩ := h2.form
  have k0 : w.cell? ⟨b, 0, none⟩ = some (.slice p l.length c) := h1.cell 0
  have k1 : w.cell? ⟨b, 1, none⟩ = some (.bool bad) := h1.cell 1
  have hf : ∀ i, w.frozen? ⟨b, i, none⟩ = false := h1.frozen
  have H1 := Lib.hid h1
  clear h1 h2 h3
  go_enter Try.func56, Try.ntmps56
  go_wp2
  go_end0
  refine ⟨rfl, ⟨.slice none 0 0, (H1.out.set 1 (.bool true)).set 0 (.slice none 0 0), ⟨by simp [by8], by8_ones _, .inl ⟨none, 0, rfl, rfl, Nat.zero_le _, fun _ => rfl⟩⟩, fun _ => rfl⟩, ?_⟩
  exact ((Only.refl (fun k => k = b) w).setCell (p := ⟨b, 1, none⟩) (fun _ => rfl) _).setCell (p := ⟨b, 0, none⟩) (fun _ => rfl) _
theorem fail_nil (w : World) : Calls Try.prog 56 #[.pointer none] w fun e w' => e = .returned (.tuple #[]) ∧ w = w' := by
  go_enter Try.func56, Try.ntmps56
  go_wp2
  go_end0
  exact ⟨rfl, rfl⟩
theorem rdlen_bytes (w : World) (b : Nat) (bad : Bool) (l : List UInt8) (h : IsRd w b RB bad l) :
    Calls Try.prog 68 #[.pointer (some ⟨b, 0, none⟩)] w fun e w' => e = .returned (.int .i64 l.length) ∧ w = w' := by
  obtain ⟨bv, h1, h2, h3⟩ := h
  obtain ⟨p, c, rfl, _, _⟩ := h2.form
  have k0 : w.cell? ⟨b, 0, none⟩ = some (.slice p l.length c) := h1.cell 0
  clear h1 h2 h3
  go_enter Try.func68, Try.ntmps68
  go_wp2
  go_ret
  exact ⟨rfl, rfl⟩
theorem len_rd (w : World) (b : Nat) (bad : Bool) (l : List UInt8) (h : IsRd w b RB bad l) :
    Calls Try.prog 57 #[.pointer (some ⟨b, 0, none⟩)] w fun e w' => e = .returned (.int .i64 l.length) ∧ w = w' := by
  have HL := Lib.hid (rdlen_bytes w b bad l h)
  clear h
  go_enter Try.func57, Try.ntmps57
  go_wp2_with (go_at_call 68; refine HL.out.mono ?_; rintro e w2 ⟨rfl, rfl⟩)
  go_ret
  exact ⟨rfl, rfl⟩
theorem end_rd (w : World) (b : Nat) (bad : Bool) (l : List UInt8) (h : IsRd w b RB bad l) :
    Calls Try.prog 42 #[.pointer (some ⟨b, 0, none⟩)] w fun e w' => e = .returned (.bool (!bad && l.isEmpty)) ∧ w = w' := by
  have HL := Lib.hid (len_rd w b bad l h)
  have HG := Lib.hid (good_rd w b bad l h)
  clear h
  have he : l.isEmpty = ((l.length : Int) == 0) := by
    cases l
    · rfl
    · symm; rw [beq_eq_false_iff_ne.2]
      · rfl
      · rw [List.length_cons]; omega
  rw [he]
  cases bad
  all_goals
    go_enter Try.func42, Try.ntmps42
    go_wp2_with (first
      | (go_at_call 54; refine HG.out.mono ?_; rintro e w2 ⟨rfl, rfl⟩)
      | (go_at_call 57; refine HL.out.mono ?_; rintro e w2 ⟨rfl, rfl⟩))
    go_ret
    exact ⟨rfl, rfl⟩
end Go.Proofs.Ytedcljahcedpjaa
/- The reader: cut. -/
namespace Go.Proofs.Ytedcljahcedpjaa
open Go.RowKit Go.Afx
variable {RB : Nat → Prop}

theorem cut_bad (w : World) (b : Nat) (bad : Bool) (l : List UInt8) (h : IsRd w b RB bad l) (n : Nat) (hn : bad = true ∨ l.length < n) :
    Calls Try.prog 74 #[.pointer (some ⟨b, 0, none⟩), .int .i64 n] w fun e w' => e = .returned (.slice none 0 0) ∧ IsRd w' b RB true [] ∧ Only (fun k => k = b) w w' := by
  have HG := Lib.hid (good_rd w b bad l h)
  have HF := Lib.hid (fail_rd w b bad l h)
  obtain ⟨bv, h1, h2, h3⟩ := h
  obtain ⟨p, c, rfl, _, _⟩ := h2.form
  have k0 : w.cell? ⟨b, 0, none⟩ = some (.slice p l.length c) := h1.cell 0
  clear h1 h2 h3
  cases bad
  · have hlt : l.length < n := by simpa using hn
    clear hn
    go_enter Try.func74, Try.ntmps74
    go_wp2_with (first
      | (go_at_call 54; refine HG.out.mono ?_; rintro e w2 ⟨rfl, rfl⟩)
      | (go_at_call 56; refine HF.out.mono ?_; rintro e w2 ⟨rfl, h1, h2⟩))
    go_ret
    exact ⟨rfl, h1, h2⟩
  · clear hn
    go_enter Try.func74, Try.ntmps74
    go_wp2_with (first
      | (go_at_call 54; refine HG.out.mono ?_; rintro e w2 ⟨rfl, rfl⟩)
      | (go_at_call 56; refine HF.out.mono ?_; rintro e w2 ⟨rfl, h1, h2⟩))
    go_ret
    exact ⟨rfl, h1, h2⟩

theorem by8_take (l : List UInt8) (n : Nat) : (by8 l).take n = by8 (l.take n) := by simp [by8, List.map_take]

set_option maxRecDepth 100000 in
theorem cut_ok (w : World) (b : Nat) (l : List UInt8) (h : IsRd w b RB false l) (n : Nat) (hn : n ≤ l.length) :
    Calls Try.prog 74 #[.pointer (some ⟨b, 0, none⟩), .int .i64 n] w fun e w' => ∃ p c, e = .returned (.slice p n c) ∧ Sl w' (fun k => k ≠ b ∧ RB k) 1 (.slice p n c) n (by8 (l.take n)) ∧ IsRd w' b RB false (l.drop n) ∧ Only (fun k => k = b) w w' := by
  have HG := Lib.hid (good_rd w b false l h)
  obtain ⟨bv, h1, h2, h3⟩ := h
  have hoS : ∀ v, Only (fun k => k = b) w (w.setCell ⟨b, 0, none⟩ v) := fun v => (Only.refl (fun k => k = b) w).setCell (p := ⟨b, 0, none⟩) (fun _ => rfl) _
  have HOS := Lib.hid hoS
  clear hoS
  rcases Nat.eq_zero_or_pos l.length with hl0 | hlp
  · -- nothing to come
    have hl : l = [] := List.eq_nil_of_length_eq_zero hl0
    subst hl
    obtain rfl : n = 0 := by simpa using hn
    obtain ⟨p, c, rfl, hc1, hc2⟩ := h2.form
    have k0 : w.cell? ⟨b, 0, none⟩ = some (.slice p 0 c) := h1.cell 0
    have hf : ∀ i, w.frozen? ⟨b, i, none⟩ = false := h1.frozen
    have H1 := Lib.hid h1
    have H2 : Hid (Sl w (fun k => k ≠ b ∧ RB k) 1 (.slice p 0 c) 0 (by8 [])) := h2
    clear h1 h2 h3 hl0 hn
    have hc0 : (0 : Int) ≤ c := by omega
    by_cases hcz : c = 0
    · subst hcz
      go_enter Try.func74, Try.ntmps74
      go_wp2_with (first
        | (go_at_call 54; refine HG.out.mono ?_; rintro e w2 ⟨rfl, rfl⟩))
      go_ret
      exact ⟨_, _, rfl, H2.out.only (HOS.out _) (fun k h1 h2 => h1.1 h2), ⟨_, H1.out.set 0 _, H2.out.only (HOS.out _) (fun k h1 h2 => h1.1 h2), fun h => absurd h (by decide)⟩, HOS.out _⟩
    · skip
      go_enter Try.func74, Try.ntmps74
      go_wp2_with (first
        | (go_at_call 54; refine HG.out.mono ?_; rintro e w2 ⟨rfl, rfl⟩))
      go_ret
      exact ⟨_, _, rfl, H2.out.only (HOS.out _) (fun k h1 h2 => h1.1 h2), ⟨_, H1.out.set 0 _, H2.out.only (HOS.out _) (fun k h1 h2 => h1.1 h2), fun h => absurd h (by decide)⟩, HOS.out _⟩
  · obtain ⟨g, off, c, rfl, hc1, hc2, hgb, hglt, hcl⟩ := h2.place hlp
    have k0 : w.cell? ⟨b, 0, none⟩ = some (.slice (some ⟨g, off, none⟩) l.length c) := h1.cell 0
    have hf : ∀ i, w.frozen? ⟨b, i, none⟩ = false := h1.frozen
    have H1 := Lib.hid h1
    have H2 := Lib.hid h2
    have HCL := Lib.hid hcl
    have hc3 : c ≤ 9223372036854775807 := hc2
    have hnc : (n : Int) ≤ c := by omega
    have hnl : (n : Int) ≤ l.length := by omega
    clear h1 h2 h3 hcl
    by_cases hcn : c = n
    · go_enter Try.func74, Try.ntmps74
      go_wp2_with (first
        | (go_at_call 54; refine HG.out.mono ?_; rintro e w2 ⟨rfl, rfl⟩))
      go_ret
      have hs1 := H2.out.take hn
      rw [Nat.mul_one, by8_take] at hs1
      have hln : l.length = n := by omega
      have hd : l.drop n = [] := List.drop_of_length_le (by omega)
      subst hcn
      refine ⟨_, _, rfl, hs1.only (HOS.out _) (fun k h1 h2 => h1.1 h2), ⟨_, H1.out.set 0 _, ?_, fun h => absurd h (by decide)⟩, HOS.out _⟩
      rw [hd]
      exact ⟨by simp [by8], by8_ones _, .inl ⟨some ⟨g, off, none⟩, 0, by rw [hln, Nat.sub_self], rfl, Nat.zero_le _, fun h => by cases h⟩⟩
    · go_enter Try.func74, Try.ntmps74
      go_wp2_with (first
        | (go_at_call 54; refine HG.out.mono ?_; rintro e w2 ⟨rfl, rfl⟩))
      go_ret
      have hs1 := H2.out.take hn
      rw [Nat.mul_one, by8_take] at hs1
      refine ⟨_, _, rfl, hs1.only (HOS.out _) (fun k h1 h2 => h1.1 h2), ⟨_, H1.out.set 0 _, ?_, fun h => absurd h (by decide)⟩, HOS.out _⟩
      have hs2 : Sl w (fun k => k ≠ b ∧ RB k) 1 (.slice (some ⟨g, off + n, none⟩) (l.length - n) (c - n)) (l.drop n).length (by8 (l.drop n)) :=
        ⟨by rw [by8_length, Nat.mul_one], by8_ones _, .inr ⟨g, off + n, c - n, by rw [List.length_drop], by rw [List.length_drop]; omega, by unfold maxLen; omega, hgb, hglt, fun j hj => by
          rw [by8_length, List.length_drop] at hj
          have h1 := HCL.out (n + j) (by rw [by8_length]; omega)
          rw [Nat.add_assoc, h1, by8_get _ _ (show n + j < l.length by omega), by8_get _ j (by rw [List.length_drop]; omega), List.getElem_drop]⟩⟩
      exact hs2.only (HOS.out _) (fun k h1 h2 => h1.1 h2)
end Go.Proofs.Ytedcljahcedpjaa
/- The reader: byte. -/
namespace Go.Proofs.Ytedcljahcedpjaa
open Go.RowKit Go.Afx
variable {RB : Nat → Prop}

/-- A byte, and the reader behind it. -/
def rByte (bad : Bool) (l : List UInt8) : Int × Bool × List UInt8 :=
  match bad, l with
  | false, c :: t => ((c.toNat : Int), false, t)
  | _, _ => (0, true, [])

set_option maxRecDepth 100000 in
theorem byte_rd (w : World) (b : Nat) (bad : Bool) (l : List UInt8) (h : IsRd w b RB bad l) :
    Calls Try.prog 73 #[.pointer (some ⟨b, 0, none⟩)] w fun e w' => e = .returned (.int .i64 (rByte bad l).1) ∧ IsRd w' b RB (rByte bad l).2.1 (rByte bad l).2.2 ∧ Only (fun k => k = b) w w' := by
  by_cases hok : bad = false ∧ 1 ≤ l.length
  · obtain ⟨rfl, hl⟩ := hok
    have HC := Lib.hid (cut_ok w b l h 1 hl)
    clear h
    cases l with
    | nil => simp at hl
    | cons c t =>
      show Calls _ _ _ _ fun e w' => e = .returned (.int .i64 (c.toNat : Int)) ∧ IsRd w' b RB false t ∧ Only (fun k => k = b) w w'
      obtain ⟨ci0, hci⟩ : ∃ ci0 : Int, (c.toNat : Int) = ci0 := ⟨_, rfl⟩
      rw [hci]
      go_enter Try.func73, Try.ntmps73
      go_wp2_with fail
      refine HC.out.mono ?_
      clear HC
      rintro e w2 ⟨p, cp, rfl, hs, hr, ho⟩
      obtain ⟨g, off, cp', hv, _, _, _, hg, hcl⟩ := hs.place (by omega)
      cases hv
      have hc0 : w2.cell? ⟨g, off, none⟩ = some (.int .u8 (c.toNat : Int)) := by
        have := hcl 0 (by simp [by8])
        rw [Nat.add_zero] at this
        rw [this]; simp [by8]
      have HR := Lib.hid hr
      have HO := Lib.hid ho
      have hc256 : (c.toNat : Int) < 256 := by have := c.toNat_lt; omega
      have hc00 : (0 : Int) ≤ (c.toNat : Int) := by omega
      clear hs hr ho hcl
      rw [hci] at hc0 hc256 hc00
      clear hci
      go_wp2
      go_ret
      exact ⟨rfl, HR.out, HO.out⟩
  · have hb : bad = true ∨ l.length < 1 := by
      cases bad
      · right; simpa using hok
      · exact .inl rfl
    have er : rByte bad l = (0, true, []) := by
      cases bad
      · cases l
        · rfl
        · simp at hb
      · rfl
    rw [er]
    have HC := Lib.hid (cut_bad w b bad l h 1 hb)
    clear h hok hb er
    go_enter Try.func73, Try.ntmps73
    go_wp2_with (go_at_call 74; refine HC.out.mono ?_; clear HC; rintro e w2 ⟨rfl, hr, ho⟩)
    go_ret
    exact ⟨rfl, hr, ho⟩
end Go.Proofs.Ytedcljahcedpjaa
/- The reader: numbers (the plain part). -/
namespace Go.Proofs.Ytedcljahcedpjaa
open Go.RowKit Go.Afx

/-- The number of some bytes, the highest first. -/
def ofBytes (l : List UInt8) : Nat := l.foldl (fun n c => n * 256 + c.toNat) 0
theorem ofBytes_next (l : List UInt8) (k : Nat) (h : k < l.length) : ofBytes (l.take (k + 1)) = ofBytes (l.take k) * 256 + l[k].toNat := by
  unfold ofBytes
  rw [← List.take_append_getElem h, List.foldl_append]; rfl
theorem ofBytes_lt (l : List UInt8) : ∀ k, ofBytes (l.take k) < 256 ^ k
  | 0 => by simp [ofBytes]
  | k + 1 => by
    have ih := ofBytes_lt l k
    by_cases h : k < l.length
    · rw [ofBytes_next l k h, Nat.pow_succ]
      have := l[k].toNat_lt
      omega
    · rw [List.take_of_length_le (by omega)]
      rw [List.take_of_length_le (by omega)] at ih
      exact Nat.lt_of_lt_of_le ih (Nat.pow_le_pow_right (by omega) (by omega))
theorem or_byte (n c : Nat) (hn : n < 72057594037927936) (hc : c < 256) : bits .or .u64 (IntKind.u64.wrap ((n : Int) * 256)) (c : Int) = ((n * 256 + c : Nat) : Int) := by
  have e1 : IntKind.u64.wrap ((n : Int) * 256) = ((n * 256 : Nat) : Int) := by rw [IntKind.wrap_u64]; omega
  rw [e1, bits_or_u64_nat _ _ (by omega) (by omega)]
  have h2 : n * 256 = n <<< 8 := by rw [Nat.shiftLeft_eq]
  rw [h2, ← Nat.shiftLeft_add_eq_or_of_lt (show c < 2 ^ 8 from hc)]

/-- A number, and the reader behind it. -/
def rNum (bad : Bool) (l : List UInt8) : Nat × Bool × List UInt8 :=
  let r := rByte bad l
  let size := r.1.toNat
  if r.2.1 then (0, true, []) else if 8 < size ∨ r.2.2.length < size then (0, true, []) else if (r.2.2.take size).head? = some 0 then (0, true, []) else (ofBytes (r.2.2.take size), false, r.2.2.drop size)
end Go.Proofs.Ytedcljahcedpjaa
/- The reader: numbers. -/
namespace Go.Proofs.Ytedcljahcedpjaa
open Go.RowKit Go.Afx
variable {RB : Nat → Prop}

theorem rByte_bad (bad : Bool) (l : List UInt8) (h : (rByte bad l).2.1 = true) : (rByte bad l).1 = 0 ∧ (rByte bad l).2.2 = [] := by
  unfold rByte at *
  split
  · rename_i h2; simp at h
  · exact ⟨rfl, rfl⟩
theorem rByte_range (bad : Bool) (l : List UInt8) : ∃ m : Nat, (rByte bad l).1 = m ∧ m < 256 := by
  unfold rByte
  split
  · rename_i c t; exact ⟨c.toNat, rfl, c.toNat_lt⟩
  · exact ⟨0, rfl, by omega⟩

set_option maxRecDepth 100000 in
set_option maxHeartbeats 1000000 in
theorem number_rd (w : World) (b : Nat) (bad : Bool) (l : List UInt8) (h : IsRd w b RB bad l) :
    Calls Try.prog 66 #[.pointer (some ⟨b, 0, none⟩)] w fun e w' => e = .returned (.int .u64 ((rNum bad l).1 : Int)) ∧ IsRd w' b RB (rNum bad l).2.1 (rNum bad l).2.2 ∧ Only (fun k => k = b) w w' := by
  have HBY := Lib.hid (byte_rd w b bad l h)
  obtain ⟨m, hm, hm256⟩ := rByte_range bad l
  have hbb := rByte_bad bad l
  unfold rNum
  simp only [hm, Int.toNat_natCast]
  rw [hm] at HBY hbb
  clear h hm
  generalize (rByte bad l).2.1 = bd at *
  generalize (rByte bad l).2.2 = l1 at *
  by_cases hbd : bd = true
  · subst hbd
    obtain ⟨hm0, rfl⟩ := hbb rfl
    have hm1 : m = 0 := by omega
    subst hm1
    simp only [if_true]
    clear hbb hm0 hm256
    go_enter Try.func66, Try.ntmps66
    go_wp2_with (go_at_call 73; refine HBY.out.mono ?_; clear HBY; rintro e w2 ⟨rfl, hr2, ho2⟩; have HC := Lib.hid (cut_bad w2 b true [] hr2 0 (.inl rfl)); have HO2 := Lib.hid ho2; clear hr2 ho2)
    refine HC.out.mono ?_
    rintro e w3 ⟨rfl, hr3, ho3⟩
    have HR3 := Lib.hid hr3
    have HO3 := Lib.hid (HO2.out.trans ho3 (fun _ _ h => h))
    clear hr3 ho3
    go_wp2
    go_loopw [5, 30] (fun a i wr => a = .int .u64 0 ∧ i = .int .i64 0 ∧ w3 = wr) (fun _ _ _ => 0)
    case atStart => exact ⟨rfl, rfl, rfl⟩
    case round =>
      obtain ⟨rfl, rfl, rfl⟩ := hrel
      go_wp2
      go_ret
      exact ⟨rfl, HR3.out, HO3.out⟩
  · obtain rfl : bd = false := by simpa using hbd
    simp only [Bool.false_eq_true, if_false]
    clear hbb hbd
    by_cases h8 : 8 < m
    · rw [if_pos (.inl h8)]
      have h8i : (8 : Int) < m := by omega
      go_enter Try.func66, Try.ntmps66
      go_wp2_with (go_at_call 73; refine HBY.out.mono ?_; clear HBY; rintro e w1 ⟨rfl, hr1, ho1⟩; have HF := Lib.hid (fail_rd w1 b false l1 hr1); have HO1 := Lib.hid ho1; clear hr1 ho1)
      refine HF.out.mono ?_
      rintro e w2 ⟨rfl, hr2, ho2⟩
      have HC := Lib.hid (cut_bad w2 b true [] hr2 m (.inl rfl))
      have HO2 := Lib.hid (HO1.out.trans ho2 (fun _ _ h => h))
      clear hr2 ho2
      go_wp2_with fail
      refine HC.out.mono ?_
      rintro e w3 ⟨rfl, hr3, ho3⟩
      have HR3 := Lib.hid hr3
      have HO3 := Lib.hid (HO2.out.trans ho3 (fun _ _ h => h))
      clear hr3 ho3
      go_wp2
      go_loopw [5, 30] (fun a i wr => a = .int .u64 0 ∧ i = .int .i64 0 ∧ w3 = wr) (fun _ _ _ => 0)
      case atStart => exact ⟨rfl, rfl, rfl⟩
      case round =>
        obtain ⟨rfl, rfl, rfl⟩ := hrel
        go_wp2
        go_ret
        exact ⟨rfl, HR3.out, HO3.out⟩
    · have h8i : (m : Int) ≤ 8 := by omega
      by_cases hl1 : l1.length < m
      · rw [if_pos (.inr hl1)]
        go_enter Try.func66, Try.ntmps66
        go_wp2_with (go_at_call 73; refine HBY.out.mono ?_; clear HBY; rintro e w2 ⟨rfl, hr2, ho2⟩; have HC := Lib.hid (cut_bad w2 b false l1 hr2 m (.inr hl1)); have HO2 := Lib.hid ho2; clear hr2 ho2)
        refine HC.out.mono ?_
        rintro e w3 ⟨rfl, hr3, ho3⟩
        have HR3 := Lib.hid hr3
        have HO3 := Lib.hid (HO2.out.trans ho3 (fun _ _ h => h))
        clear hr3 ho3
        go_wp2
        go_loopw [5, 30] (fun a i wr => a = .int .u64 0 ∧ i = .int .i64 0 ∧ w3 = wr) (fun _ _ _ => 0)
        case atStart => exact ⟨rfl, rfl, rfl⟩
        case round =>
          obtain ⟨rfl, rfl, rfl⟩ := hrel
          go_wp2
          go_ret
          exact ⟨rfl, HR3.out, HO3.out⟩
      · rw [if_neg (by omega)]
        have hml : m ≤ l1.length := by omega
        have hd8 : (l1.take m).length = m := by rw [List.length_take]; omega
        have HCUT := Lib.hid (fun w2 (hr2 : IsRd w2 b RB false l1) => cut_ok w2 b l1 hr2 m hml)
        generalize l1.take m = d at *
        generalize l1.drop m = dr at *
        cases d with
        | nil =>
          obtain rfl : m = 0 := by simpa using hd8.symm
          have e : (if ([] : List UInt8).head? = some 0 then ((0 : Nat), true, ([] : List UInt8)) else (ofBytes [], false, dr)) = (0, false, dr) := by simp [ofBytes]
          rw [e]
          clear e h8 hl1 hml hd8 hm256
          go_enter Try.func66, Try.ntmps66
          go_wp2_with (go_at_call 73; refine HBY.out.mono ?_; clear HBY; rintro e w2 ⟨rfl, hr2, ho2⟩; have HC := Lib.hid (HCUT.out w2 hr2); have HO2 := Lib.hid ho2; clear hr2 ho2)
          refine HC.out.mono ?_
          rintro e w3 ⟨p, cp, rfl, hs3, hr3, ho3⟩
          have HO3 := Lib.hid (HO2.out.trans ho3 (fun _ _ h => h))
          have HR3 := Lib.hid hr3
          clear hr3 ho3 hs3
          go_wp2
          go_loopw [5, 30] (fun a i wr => a = .int .u64 0 ∧ i = .int .i64 0 ∧ w3 = wr) (fun _ _ _ => 0)
          case atStart => exact ⟨rfl, rfl, rfl⟩
          case round =>
            obtain ⟨rfl, rfl, rfl⟩ := hrel
            go_wp2
            go_ret
            exact ⟨rfl, HR3.out, HO3.out⟩
        | cons c t =>
          have hm1 : (0 : Int) < m := by rw [← hd8, List.length_cons]; omega
          by_cases hc0 : c = 0
          · subst hc0
            have e : (if ((0 : UInt8) :: t).head? = some 0 then ((0 : Nat), true, ([] : List UInt8)) else (ofBytes (0 :: t), false, dr)) = (0, true, []) := by simp
            rw [e]
            clear e h8 hl1 hml hm256
            go_enter Try.func66, Try.ntmps66
            go_wp2_with (go_at_call 73; refine HBY.out.mono ?_; clear HBY; rintro e w2 ⟨rfl, hr2, ho2⟩; have HC := Lib.hid (HCUT.out w2 hr2); have HO2 := Lib.hid ho2; clear hr2 ho2)
            refine HC.out.mono ?_
            rintro e w3 ⟨p, cp, rfl, hs3, hr3, ho3⟩
            have HO3 := Lib.hid (HO2.out.trans ho3 (fun _ _ h => h))
            have hs4 : Sl w3 (fun k => k ≠ b ∧ RB k) 1 (.slice p m cp) ((0 : UInt8) :: t).length (by8 (0 :: t)) := by rw [hd8]; exact hs3
            obtain ⟨g, off, cp', hv, _, _, _, hg, hcl⟩ := hs4.place (by simp)
            cases hv
            have hb0 : w3.cell? ⟨g, off, none⟩ = some (.int .u8 0) := by
              have := hcl 0 (by simp [by8])
              rw [Nat.add_zero] at this
              rw [this]; simp [by8]
            have HF := Lib.hid (fail_rd w3 b false dr hr3)
            clear hr3 ho3 hs3 hs4 hcl
            go_wp2_with (go_at_call 56; refine HF.out.mono ?_; clear HF; rintro e w4 ⟨rfl, hr4, ho4⟩)
            go_ret
            exact ⟨rfl, hr4, HO3.out.trans ho4 (fun _ _ h => h)⟩
          · have e : (if (c :: t).head? = some 0 then ((0 : Nat), true, ([] : List UInt8)) else (ofBytes (c :: t), false, dr)) = (ofBytes (c :: t), false, dr) := by simp [hc0]
            rw [e]
            have hcn : ((c.toNat : Int) == 0) = false := by
              rw [beq_eq_false_iff_ne]
              intro h
              exact hc0 (UInt8.toNat_inj.1 (by show c.toNat = 0; omega))
            have hm9 : m ≤ 8 := by omega
            clear e h8 hl1 hml hm256
            generalize hz : ofBytes (c :: t) = z at *
            have HZ := Lib.hid hz
            clear hz
            go_enter Try.func66, Try.ntmps66
            go_wp2_with (go_at_call 73; refine HBY.out.mono ?_; clear HBY; rintro e w2 ⟨rfl, hr2, ho2⟩; have HC := Lib.hid (HCUT.out w2 hr2); have HO2 := Lib.hid ho2; clear hr2 ho2)
            refine HC.out.mono ?_
            rintro e w3 ⟨p, cp, rfl, hs3, hr3, ho3⟩
            have HO3 := Lib.hid (HO2.out.trans ho3 (fun _ _ h => h))
            obtain ⟨g, off, cp', hv, _, _, _, hg, hcl⟩ := hs3.place (by omega)
            cases hv
            have hb0 : w3.cell? ⟨g, off, none⟩ = some (.int .u8 (c.toNat : Int)) := by
              have := hcl 0 (by simp [by8])
              rw [Nat.add_zero] at this
              rw [this]; simp [by8]
            have HCL := Lib.hid hcl
            have HR3 := Lib.hid hr3
            clear hr3 ho3 hs3 hcl
            generalize (c.toNat : Int) = ci at *
            generalize c :: t = d at *
            have HD8 := Lib.hid hd8
            clear hd8 hc0
            go_wp2
            clear hb0 hcn
            go_loopw [5, 30] (fun a i wr => ∃ k : Nat, i = .int .i64 k ∧ k ≤ m ∧ a = .int .u64 (ofBytes (d.take k) : Nat) ∧ w3 = wr) (fun _ i _ => m - (intOf i).toNat)
            case atStart => exact ⟨0, rfl, Nat.zero_le _, by simp [ofBytes], rfl⟩
            case round =>
              obtain ⟨k, rfl, hk, rfl, rfl⟩ := hrel
              by_cases hkm : k < m
              · have hkd : k < d.length := by rw [HD8.out]; exact hkm
                have hck : w3.cell? ⟨g, off + k, none⟩ = some (.int .u8 (d[k].toNat : Int)) := by
                  rw [HCL.out k (by rw [by8_length]; exact hkd), by8_get d k hkd]
                have HN := Lib.hid (ofBytes_next d k hkd)
                have hlt := ofBytes_lt d k
                have hlt2 : ofBytes (d.take k) < 72057594037927936 := Nat.lt_of_lt_of_le hlt (Nat.le_trans (Nat.pow_le_pow_right (by omega) (show k ≤ 7 by omega)) (by decide))
                have hor := or_byte (ofBytes (d.take k)) d[k].toNat hlt2 d[k].toNat_lt
                rw [← HN.out] at hor
                have hcn256 : d[k].toNat < 256 := d[k].toNat_lt
                clear hlt
                generalize d[k].toNat = cn at *
                have ew1 : IntKind.u64.wrap ((ofBytes (d.take k) : Int) * 256) = (ofBytes (d.take k) : Int) * 256 := by rw [IntKind.wrap_u64]; omega
                have ew2 : IntKind.u64.wrap (cn : Int) = cn := by rw [IntKind.wrap_u64]; omega
                rw [ew1] at hor
                have HOR := Lib.hid hor
                clear hor ew1
                go_wp2
                refine ⟨⟨k + 1, by congr 1, by omega, ?_, trivial⟩, ?_⟩
                · first
                    | rw [HOR.out]
                    | rw [ew2, HOR.out]
                · (simp [intOf]) <;> omega
              · obtain rfl : k = m := by omega
                have hfin : Hid (ofBytes (d.take k) = z) := by show _ = _; rw [List.take_of_length_le (by rw [HD8.out]; exact Nat.le_refl _)]; exact HZ.out
                rw [hfin.out]
                go_wp2
                go_ret
                exact ⟨rfl, HR3.out, HO3.out⟩
end Go.Proofs.Ytedcljahcedpjaa
/- The reader, or none: Good, Fail, Len, End, String, cut, byte, number. -/
namespace Go.Proofs.Ytedcljahcedpjaa
open Go.RowKit Go.Afx
variable {RB : Nat → Prop}

theorem cut_nil (w : World) (n : Int) : Calls Try.prog 74 #[.pointer none, .int .i64 n] w fun e w' => e = .returned (.slice none 0 0) ∧ w = w' := by
  have HG := Lib.hid (good_nil w)
  have HF := Lib.hid (fail_nil w)
  go_enter Try.func74, Try.ntmps74
  go_wp2_with (first
    | (go_at_call 54; refine HG.out.mono ?_; rintro e w2 ⟨rfl, rfl⟩)
    | (go_at_call 56; refine HF.out.mono ?_; rintro e w2 ⟨rfl, rfl⟩))
  go_ret
  exact ⟨rfl, rfl⟩
theorem byte_nil (w : World) : Calls Try.prog 73 #[.pointer none] w fun e w' => e = .returned (.int .i64 0) ∧ w = w' := by
  have HC := Lib.hid (cut_nil w 1)
  go_enter Try.func73, Try.ntmps73
  go_wp2_with (go_at_call 74; refine HC.out.mono ?_; clear HC; rintro e w2 ⟨rfl, rfl⟩)
  go_ret
  exact ⟨rfl, rfl⟩
theorem number_nil (w : World) : Calls Try.prog 66 #[.pointer none] w fun e w' => e = .returned (.int .u64 0) ∧ w = w' := by
  have HC := Lib.hid (cut_nil w 0)
  have HB := Lib.hid (byte_nil w)
  go_enter Try.func66, Try.ntmps66
  go_wp2_with (first
    | (go_at_call 73; refine HB.out.mono ?_; clear HB; rintro e w2 ⟨rfl, rfl⟩)
    | (go_at_call 74; refine HC.out.mono ?_; clear HC; rintro e w2 ⟨rfl, rfl⟩))
  go_loopw [5, 30] (fun a i wr => a = .int .u64 0 ∧ i = .int .i64 0 ∧ w = wr) (fun _ _ _ => 0)
  case atStart => exact ⟨rfl, rfl, rfl⟩
  case round =>
    obtain ⟨rfl, rfl, rfl⟩ := hrel
    go_wp2
    go_ret
    exact ⟨rfl, rfl⟩
theorem len_nil (w : World) : Calls Try.prog 57 #[.pointer none] w fun e w' => e = .returned (.int .i64 0) ∧ w = w' := by
  go_enter Try.func57, Try.ntmps57
  go_wp2
  go_ret
  exact ⟨rfl, rfl⟩
theorem end_nil (w : World) : Calls Try.prog 42 #[.pointer none] w fun e w' => e = .returned (.bool false) ∧ w = w' := by
  have HG := Lib.hid (good_nil w)
  go_enter Try.func42, Try.ntmps42
  go_wp2_with (go_at_call 54; refine HG.out.mono ?_; rintro e w2 ⟨rfl, rfl⟩)
  go_ret
  exact ⟨rfl, rfl⟩
theorem rdstr_bytes (w : World) (b : Nat) (bad : Bool) (l : List UInt8) (h : IsRd w b RB bad l) :
    Calls Try.prog 52 #[.pointer (some ⟨b, 0, none⟩)] w fun e w' => e = .returned (.string ⟨l.toArray⟩) ∧ w = w' := by
  obtain ⟨bv, h1, h2, h3⟩ := h
  have kc := sl_string w _ _ _ h2
  obtain ⟨p, c, rfl, _, _⟩ := h2.form
  have k0 : w.cell? ⟨b, 0, none⟩ = some (.slice p l.length c) := h1.cell 0
  clear h1 h2 h3
  generalize (⟨l.toArray⟩ : ByteArray) = s at *
  go_enter Try.func52, Try.ntmps52
  go_wp2
  go_ret
  exact ⟨rfl, rfl⟩
/-- A reader, or none: p its pointer. -/
def Rdr (w : World) (p : Option Addr) (RB : Nat → Prop) (bad : Bool) (l : List UInt8) : Prop :=
  (p = none ∧ bad = true ∧ l = []) ∨ ∃ b, p = some ⟨b, 0, none⟩ ∧ IsRd w b RB bad l
/-- What a reader changes. -/
def Mine (p : Option Addr) (k : Nat) : Prop := p = some ⟨k, 0, none⟩

theorem Rdr.empty {w : World} {p : Option Addr} {bad : Bool} {l : List UInt8} (h : Rdr w p RB bad l) : bad = true → l = [] := by
  rcases h with ⟨_, rfl, rfl⟩ | ⟨b, _, h⟩
  · exact fun _ => rfl
  · exact h.choose_spec.2.2
theorem mine_only {w w' : World} {b : Nat} (h : Only (fun k => k = b) w w') : Only (Mine (some ⟨b, 0, none⟩)) w w' :=
  h.mono fun k _ h => by subst h; rfl
theorem mine_eq {b k : Nat} (h : Mine (some ⟨b, 0, none⟩) k) : k = b := by unfold Mine at h; injection h with h; injection h with h1; exact h1.symm

theorem good_r (w : World) (p : Option Addr) (bad : Bool) (l : List UInt8) (h : Rdr w p RB bad l) :
    Calls Try.prog 54 #[.pointer p] w fun e w' => e = .returned (.bool (!bad)) ∧ w = w' := by
  rcases h with ⟨rfl, rfl, rfl⟩ | ⟨b, rfl, h⟩
  · exact good_nil w
  · exact good_rd w b bad l h
theorem len_r (w : World) (p : Option Addr) (bad : Bool) (l : List UInt8) (h : Rdr w p RB bad l) :
    Calls Try.prog 57 #[.pointer p] w fun e w' => e = .returned (.int .i64 l.length) ∧ w = w' := by
  rcases h with ⟨rfl, rfl, rfl⟩ | ⟨b, rfl, h⟩
  · exact len_nil w
  · exact len_rd w b bad l h
theorem end_r (w : World) (p : Option Addr) (bad : Bool) (l : List UInt8) (h : Rdr w p RB bad l) :
    Calls Try.prog 42 #[.pointer p] w fun e w' => e = .returned (.bool (!bad && l.isEmpty)) ∧ w = w' := by
  rcases h with ⟨rfl, rfl, rfl⟩ | ⟨b, rfl, h⟩
  · exact end_nil w
  · exact end_rd w b bad l h
theorem fail_r (w : World) (p : Option Addr) (bad : Bool) (l : List UInt8) (h : Rdr w p RB bad l) :
    Calls Try.prog 56 #[.pointer p] w fun e w' => e = .returned (.tuple #[]) ∧ Rdr w' p RB true [] ∧ Only (Mine p) w w' := by
  rcases h with ⟨rfl, rfl, rfl⟩ | ⟨b, rfl, h⟩
  · exact (fail_nil w).mono fun e w' ⟨h1, h2⟩ => ⟨h1, .inl ⟨rfl, rfl, rfl⟩, by subst h2; exact Only.refl _ _⟩
  · exact (fail_rd w b bad l h).mono fun e w' ⟨h1, h2, h3⟩ => ⟨h1, .inr ⟨b, rfl, h2⟩, mine_only h3⟩

/-- So many bytes, and the reader behind them. -/
def rCut (n : Nat) (bad : Bool) (l : List UInt8) : List UInt8 × Bool × List UInt8 :=
  if bad = true ∨ l.length < n then ([], true, []) else (l.take n, false, l.drop n)
theorem sl_none (w : World) (B : Nat → Prop) : Sl w B 1 (.slice none 0 0) ([] : List UInt8).length (by8 []) := ⟨by simp [by8], by8_ones _, .inl ⟨none, 0, rfl, rfl, Nat.zero_le _, fun _ => rfl⟩⟩
theorem cut_r (w : World) (p : Option Addr) (bad : Bool) (l : List UInt8) (h : Rdr w p RB bad l) (n : Nat) :
    Calls Try.prog 74 #[.pointer p, .int .i64 n] w fun e w' => ∃ v, e = .returned v ∧ Sl w' (fun k => ¬ Mine p k) 1 v (rCut n bad l).1.length (by8 (rCut n bad l).1) ∧ Rdr w' p RB (rCut n bad l).2.1 (rCut n bad l).2.2 ∧ Only (Mine p) w w' := by
  by_cases hb : bad = true ∨ l.length < n
  · unfold rCut
    rw [if_pos hb]
    rcases h with ⟨rfl, rfl, rfl⟩ | ⟨b, rfl, h⟩
    · exact (cut_nil w n).mono fun e w' ⟨h1, h2⟩ => ⟨_, h1, sl_none _ _, .inl ⟨rfl, rfl, rfl⟩, by subst h2; exact Only.refl _ _⟩
    · exact (cut_bad w b bad l h n hb).mono fun e w' ⟨h1, h2, h3⟩ => ⟨_, h1, sl_none _ _, .inr ⟨b, rfl, h2⟩, mine_only h3⟩
  · unfold rCut
    rw [if_neg hb]
    rcases h with ⟨rfl, rfl, rfl⟩ | ⟨b, rfl, h⟩
    · exact absurd (.inl rfl) hb
    · obtain rfl : bad = false := by cases bad; rfl; exact absurd (.inl rfl) hb
      have hn : n ≤ l.length := by
        have : ¬ l.length < n := fun h => hb (.inr h)
        omega
      exact (cut_ok w b l h n hn).mono fun e w' ⟨q, c, h1, h2, h3, h4⟩ => ⟨_, h1, by
        have hl : (l.take n).length = n := by rw [List.length_take]; omega
        rw [hl]
        exact Sl.mono h2 (Nat.le_refl _) (fun _ _ _ => rfl) (fun k hk _ h => hk.1 (mine_eq h)), .inr ⟨b, rfl, h3⟩, mine_only h4⟩
theorem byte_r (w : World) (p : Option Addr) (bad : Bool) (l : List UInt8) (h : Rdr w p RB bad l) :
    Calls Try.prog 73 #[.pointer p] w fun e w' => e = .returned (.int .i64 (rByte bad l).1) ∧ Rdr w' p RB (rByte bad l).2.1 (rByte bad l).2.2 ∧ Only (Mine p) w w' := by
  rcases h with ⟨rfl, rfl, rfl⟩ | ⟨b, rfl, h⟩
  · exact (byte_nil w).mono fun e w' ⟨h1, h2⟩ => ⟨h1, .inl ⟨rfl, rfl, rfl⟩, by subst h2; exact Only.refl _ _⟩
  · exact (byte_rd w b bad l h).mono fun e w' ⟨h1, h2, h3⟩ => ⟨h1, .inr ⟨b, rfl, h2⟩, mine_only h3⟩
theorem number_r (w : World) (p : Option Addr) (bad : Bool) (l : List UInt8) (h : Rdr w p RB bad l) :
    Calls Try.prog 66 #[.pointer p] w fun e w' => e = .returned (.int .u64 ((rNum bad l).1 : Int)) ∧ Rdr w' p RB (rNum bad l).2.1 (rNum bad l).2.2 ∧ Only (Mine p) w w' := by
  rcases h with ⟨rfl, rfl, rfl⟩ | ⟨b, rfl, h⟩
  · exact (number_nil w).mono fun e w' ⟨h1, h2⟩ => ⟨h1, .inl ⟨rfl, rfl, rfl⟩, by subst h2; exact Only.refl _ _⟩
  · exact (number_rd w b bad l h).mono fun e w' ⟨h1, h2, h3⟩ => ⟨h1, .inr ⟨b, rfl, h2⟩, mine_only h3⟩
end Go.Proofs.Ytedcljahcedpjaa
/- The reader: Size, Signed, Text. -/
namespace Go.Proofs.Ytedcljahcedpjaa
open Go.RowKit Go.Afx
variable {RB : Nat → Prop}

theorem mine_trans {w w' w'' : World} {p : Option Addr} (h : Only (Mine p) w w') (h2 : Only (Mine p) w' w'') : Only (Mine p) w w'' := h.trans h2 (fun _ _ h => h)
theorem rNum_bad (bad : Bool) (l : List UInt8) (h : (rNum bad l).2.1 = true) : (rNum bad l).1 = 0 ∧ (rNum bad l).2.2 = [] := by
  unfold rNum at *
  simp only at *
  split at h
  · rename_i h1; rw [if_pos h1]; exact ⟨rfl, rfl⟩
  · rename_i h1
    rw [if_neg h1]
    split at h
    · rename_i h2; rw [if_pos h2]; exact ⟨rfl, rfl⟩
    · rename_i h2
      rw [if_neg h2]
      split at h
      · rename_i h3; rw [if_pos h3]; exact ⟨rfl, rfl⟩
      · cases h
theorem rNum_lt (bad : Bool) (l : List UInt8) : (rNum bad l).1 < 18446744073709551616 := by
  unfold rNum
  simp only
  split
  · exact (by decide)
  · split
    · exact (by decide)
    · rename_i h2
      split
      · exact (by decide)
      · have h1 := ofBytes_lt (rByte bad l).2.2 (rByte bad l).1.toNat
        have h3 : (rByte bad l).1.toNat ≤ 8 := by
          rcases Nat.lt_or_ge 8 (rByte bad l).1.toNat with h | h
          · exact absurd (.inl h) h2
          · exact h
        exact Nat.lt_of_lt_of_le h1 (Nat.le_trans (Nat.pow_le_pow_right (by omega) h3) (by decide))

/-- A number of at most 'most', and the reader behind it. -/
def rSize (most : Int) (bad : Bool) (l : List UInt8) : Nat × Bool × List UInt8 :=
  let r := rNum bad l
  if r.2.1 = true ∨ most < 0 ∨ most < (r.1 : Int) then (0, true, []) else r

set_option maxRecDepth 100000 in
theorem size_r (w : World) (p : Option Addr) (bad : Bool) (l : List UInt8) (h : Rdr w p RB bad l) (most : Int) (hm : fit64 most) :
    Calls Try.prog 53 #[.pointer p, .int .i64 most] w fun e w' => e = .returned (.int .i64 ((rSize most bad l).1 : Int)) ∧ Rdr w' p RB (rSize most bad l).2.1 (rSize most bad l).2.2 ∧ Only (Mine p) w w' := by
  have HN := Lib.hid (number_r w p bad l h)
  have hb := rNum_bad bad l
  have hlt := rNum_lt bad l
  unfold fit64 at hm
  unfold rSize
  simp only
  clear h
  generalize rNum bad l = r at *
  obtain ⟨n, bd, l1⟩ := r
  simp only at *
  cases bd
  · by_cases hneg : most < 0
    · rw [if_pos (.inr (.inl hneg))]
      clear hb
      have hd : decide (most < 0) = true := decide_eq_true hneg
      go_enter Try.func53, Try.ntmps53
      go_wp2_with fail
      refine HN.out.mono ?_
      rintro e w1 ⟨rfl, hr1, ho1⟩
      have HG := Lib.hid (good_r w1 p _ _ hr1)
      have HF := Lib.hid (fail_r w1 p _ _ hr1)
      have HO1 := Lib.hid ho1
      clear hr1 ho1
      go_wp2_with (go_at_call 54; refine HG.out.mono ?_; clear HG; rintro e w2 ⟨rfl, rfl⟩)
      refine HF.out.mono ?_
      rintro e w3 ⟨rfl, hr3, ho3⟩
      have HG := Lib.hid (good_r w3 p _ _ hr3)
      have HR3 := Lib.hid hr3
      have HO3 := Lib.hid ho3
      clear hr3 ho3
      go_wp2_with (go_at_call 54; refine HG.out.mono ?_; clear HG; rintro e w2 ⟨rfl, rfl⟩)
      go_ret
      exact ⟨rfl, HR3.out, mine_trans HO1.out HO3.out⟩
    · have hw : IntKind.u64.wrap most = most := by rw [IntKind.wrap_u64]; omega
      by_cases hgt : most < (n : Int)
      · rw [if_pos (.inr (.inr hgt))]
        clear hb
        go_enter Try.func53, Try.ntmps53
        go_wp2_with fail
        refine HN.out.mono ?_
        rintro e w1 ⟨rfl, hr1, ho1⟩
        have HG := Lib.hid (good_r w1 p _ _ hr1)
        have HF := Lib.hid (fail_r w1 p _ _ hr1)
        have HO1 := Lib.hid ho1
        clear hr1 ho1
        go_wp2_with (go_at_call 54; refine HG.out.mono ?_; clear HG; rintro e w2 ⟨rfl, rfl⟩)
        refine HF.out.mono ?_
        rintro e w3 ⟨rfl, hr3, ho3⟩
        have HG := Lib.hid (good_r w3 p _ _ hr3)
        have HR3 := Lib.hid hr3
        have HO3 := Lib.hid ho3
        clear hr3 ho3
        go_wp2_with (go_at_call 54; refine HG.out.mono ?_; clear HG; rintro e w2 ⟨rfl, rfl⟩)
        go_ret
        exact ⟨rfl, HR3.out, mine_trans HO1.out HO3.out⟩
      · rw [if_neg (by simp [hneg, hgt])]
        clear hb
        have hw2 : IntKind.i64.wrap (n : Int) = n := by rw [IntKind.wrap_i64]; omega
        go_enter Try.func53, Try.ntmps53
        go_wp2_with fail
        refine HN.out.mono ?_
        rintro e w1 ⟨rfl, hr1, ho1⟩
        have HG := Lib.hid (good_r w1 p _ _ hr1)
        have HR1 := Lib.hid hr1
        have HO1 := Lib.hid ho1
        clear hr1 ho1
        go_wp2_with (go_at_call 54; refine HG.out.mono ?_; rintro e w2 ⟨rfl, rfl⟩)
        go_ret
        exact ⟨by first | rfl | rw [hw2], HR1.out, HO1.out⟩
  · rw [if_pos (.inl rfl)]
    obtain ⟨rfl, rfl⟩ := hb rfl
    clear hb
    go_enter Try.func53, Try.ntmps53
    go_wp2_with fail
    refine HN.out.mono ?_
    rintro e w1 ⟨rfl, hr1, ho1⟩
    have HG := Lib.hid (good_r w1 p _ _ hr1)
    have HR1 := Lib.hid hr1
    have HO1 := Lib.hid ho1
    clear hr1 ho1
    go_wp2_with (go_at_call 54; refine HG.out.mono ?_; rintro e w2 ⟨rfl, rfl⟩)
    go_ret
    exact ⟨rfl, HR1.out, HO1.out⟩

/-- A signed number, out of its place. -/
def unzig (n : Nat) : Int := if n % 2 = 0 then n / 2 else -(n / 2 : Nat) - 1
theorem wrap_64 (x : Int) : wrap64 x = IntKind.i64.wrap x := by rw [IntKind.wrap_i64]; unfold wrap64; first | rfl | omega
theorem unzig_bits (n : Nat) (h : n < 18446744073709551616) : bits .xor .i64 ((n : Int) / 2) (IntKind.i64.wrap (-IntKind.i64.wrap (bits .and .u64 (n : Int) 1))) = unzig n := by
  have e1 : bits .and .u64 (n : Int) 1 = ((n % 2 : Nat) : Int) := by
    have := bits_and_u64_nat n 1 h (by decide)
    rw [Nat.and_one_is_mod] at this
    exact this
  have e2 : (n : Int) / 2 = ((n / 2 : Nat) : Int) := by omega
  have h1 : (BitVec.ofInt 64 ((n / 2 : Nat) : Int)).toNat = n / 2 := by
    rw [BitVec.ofInt_natCast, BitVec.toNat_ofNat]; exact Nat.mod_eq_of_lt (by omega)
  rw [e1, e2]
  unfold unzig
  rcases Nat.mod_two_eq_zero_or_one n with h0 | h0
  · rw [h0, if_pos rfl]
    have e3 : IntKind.i64.wrap (-IntKind.i64.wrap ((0 : Nat) : Int)) = ((0 : Nat) : Int) := by rfl
    rw [e3]
    show IntKind.i64.wrap ((BitVec.ofInt 64 ((n / 2 : Nat) : Int) ^^^ BitVec.ofInt 64 ((0 : Nat) : Int)).toNat : Int) = _
    have h2 : (BitVec.ofInt 64 ((0 : Nat) : Int)).toNat = 0 := by rfl
    rw [BitVec.toNat_xor, h1, h2, Nat.xor_zero, IntKind.wrap_i64]
    omega
  · rw [h0, if_neg (by decide)]
    have e3 : IntKind.i64.wrap (-IntKind.i64.wrap ((1 : Nat) : Int)) = -1 := by rfl
    rw [e3]
    show IntKind.i64.wrap ((BitVec.ofInt 64 ((n / 2 : Nat) : Int) ^^^ BitVec.ofInt 64 (-1)).toNat : Int) = _
    have h2 : (BitVec.ofInt 64 (-1)).toNat = 18446744073709551615 := by rfl
    rw [BitVec.toNat_xor, h1, h2, xor_ones _ (by omega), IntKind.wrap_i64]
    omega
def rSign (bad : Bool) (l : List UInt8) : Int × Bool × List UInt8 := (unzig (rNum bad l).1, (rNum bad l).2)
set_option maxRecDepth 100000 in
theorem sign_r (w : World) (p : Option Addr) (bad : Bool) (l : List UInt8) (h : Rdr w p RB bad l) :
    Calls Try.prog 82 #[.pointer p] w fun e w' => e = .returned (.int .i64 (rSign bad l).1) ∧ Rdr w' p RB (rSign bad l).2.1 (rSign bad l).2.2 ∧ Only (Mine p) w w' := by
  have HN := Lib.hid (number_r w p bad l h)
  have hlt := rNum_lt bad l
  unfold rSign
  simp only
  clear h
  generalize rNum bad l = r at *
  obtain ⟨n, bd, l1⟩ := r
  simp only at *
  go_enter Try.func82, Try.ntmps82
  go_wp2_with (go_at_call 66; refine HN.out.mono ?_; clear HN; rintro e w1 ⟨rfl, hr1, ho1⟩)
  have he : bits .xor .i64 ((n : Int) / 2) (wrap64 (-wrap64 (bits .and .u64 (n : Int) 1))) = unzig n := by rw [wrap_64, wrap_64]; exact unzig_bits n hlt
  go_ret
  exact ⟨by first | rfl | rw [← he]; rfl, hr1, ho1⟩

/-- A text of at most 'most' bytes, and the reader behind it. -/
def rText (most : Int) (bad : Bool) (l : List UInt8) : List UInt8 × Bool × List UInt8 := rCut (rSize most bad l).1 (rSize most bad l).2.1 (rSize most bad l).2.2
set_option maxRecDepth 100000 in
theorem text_r (w : World) (p : Option Addr) (bad : Bool) (l : List UInt8) (h : Rdr w p RB bad l) (most : Int) (hm : fit64 most) :
    Calls Try.prog 83 #[.pointer p, .int .i64 most] w fun e w' => e = .returned (.string ⟨(rText most bad l).1.toArray⟩) ∧ Rdr w' p RB (rText most bad l).2.1 (rText most bad l).2.2 ∧ Only (Mine p) w w' := by
  have HS := Lib.hid (size_r w p bad l h most hm)
  unfold rText
  clear h hm
  generalize rSize most bad l = r at *
  obtain ⟨n, bd, l1⟩ := r
  simp only at *
  go_enter Try.func83, Try.ntmps83
  go_wp2_with (go_at_call 53; refine HS.out.mono ?_; clear HS; rintro e w1 ⟨rfl, hr1, ho1⟩; have HC := Lib.hid (cut_r w1 p _ _ hr1 n); have HO1 := Lib.hid ho1; clear hr1 ho1)
  refine HC.out.mono ?_
  rintro e w2 ⟨v, rfl, hs, hr2, ho2⟩
  have kc := sl_string _ _ _ _ hs
  have HR2 := Lib.hid hr2
  have HO2 := Lib.hid ho2
  clear hs hr2 ho2 HC
  go_wp2
  go_ret
  exact ⟨rfl, HR2.out, mine_trans HO1.out HO2.out⟩
end Go.Proofs.Ytedcljahcedpjaa
/- The reader: Value. -/
namespace Go.Proofs.Ytedcljahcedpjaa
open Go.RowKit Go.Afx
variable {RB : Nat → Prop}

theorem Rdr.lt {w : World} {p : Option Addr} {bad : Bool} {l : List UInt8} (h : Rdr w p RB bad l) : ∀ k, Mine p k → k < w.heap.size := by
  intro k hk
  rcases h with ⟨rfl, _, _⟩ | ⟨b, rfl, h⟩
  · cases hk
  · obtain ⟨bv, h1, _⟩ := h
    rw [mine_eq hk]; exact h1.lt
theorem Rdr.below {w w' : World} {p : Option Addr} {bad : Bool} {l : List UInt8} (h : Rdr w p RB bad l) (hb : Below w.heap.size w w') : Rdr w' p RB bad l := by
  rcases h with ⟨rfl, rfl, rfl⟩ | ⟨b, rfl, h⟩
  · exact .inl ⟨rfl, rfl, rfl⟩
  · obtain ⟨bv, h1, h2, h3⟩ := h
    exact .inr ⟨b, rfl, bv, h1.below hb, h2.below hb, h3⟩
theorem Rdr.only {w w' : World} {p : Option Addr} {bad : Bool} {l : List UInt8} {S : Nat → Prop} (h : Rdr w p RB bad l) (hb : Only S w w') (hbb : ∀ k, S k → ¬ Mine p k) (hs : ∀ k, S k → ¬ RB k) : Rdr w' p RB bad l := by
  rcases h with ⟨rfl, rfl, rfl⟩ | ⟨b2, rfl, h⟩
  · exact .inl ⟨rfl, rfl, rfl⟩
  · obtain ⟨bv, h1, h2, h3⟩ := h
    exact .inr ⟨b2, rfl, bv, h1.only hb (fun h => hbb _ h rfl), h2.only hb (fun k hk h => hs k h hk.2), h3⟩

/-- A value as it stands, and the reader behind it. -/
def rRaw (bad : Bool) (l : List UInt8) : AV × Bool × List UInt8 :=
  let k := rByte bad l
  if k.1 = 1 then (⟨1, (rSign k.2.1 k.2.2).1, ⟨#[]⟩⟩, (rSign k.2.1 k.2.2).2) else if k.1 = 2 then (⟨2, 0, ⟨(rText 200 k.2.1 k.2.2).1.toArray⟩⟩, (rText 200 k.2.1 k.2.2).2)
    else if k.1 = 3 then (⟨3, (rByte k.2.1 k.2.2).1, ⟨#[]⟩⟩, (rByte k.2.1 k.2.2).2) else (⟨k.1, 0, ⟨#[]⟩⟩, k.2)
def AV.none : AV := ⟨0, 0, ⟨#[]⟩⟩
/-- A right value, and the reader behind it. -/
def rVal (bad : Bool) (l : List UInt8) : AV × Bool × List UInt8 := if (rRaw bad l).1.right = true ∧ (rRaw bad l).2.1 = false then rRaw bad l else (AV.none, true, [])

theorem AV.cells_none : AV.none.cells = [.int .i64 0, .int .i64 0, .string ⟨#[]⟩] := rfl
set_option maxRecDepth 100000 in
set_option maxHeartbeats 1000000 in
theorem val_r (w : World) (p : Option Addr) (bad : Bool) (l : List UInt8) (h : Rdr w p RB bad l) (hRB : ∀ k, RB k → k < w.heap.size) :
    Calls Try.prog 75 #[.pointer p] w fun e w' => e = .returned (rVal bad l).1.agg ∧ Rdr w' p RB (rVal bad l).2.1 (rVal bad l).2.2 ∧ Only (Mine p) w w' := by
  have hlt := h.lt
  have hal : Below w.heap.size w (w.alloc (.cells #[.int .i64 0, .int .i64 0, .string .empty] 86)) := (Below.refl _ _).alloc (Nat.le_refl _) _
  have HB := Lib.hid (byte_r _ p bad l (h.below hal))
  have HK2 : Hid (Blk (w.alloc (.cells #[.int .i64 0, .int .i64 0, .string .empty] 86)) w.heap.size 86 [.int .i64 0, .int .i64 0, .string .empty]) := Blk.new w 86 [.int .i64 0, .int .i64 0, .string .empty]
  have HO0 := Lib.hid ((Only.refl (Mine p) w).alloc (.cells #[.int .i64 0, .int .i64 0, .string .empty] 86))
  have hsz0 : (w.alloc (.cells #[.int .i64 0, .int .i64 0, .string .empty] 86)).heap.size = w.heap.size + 1 := by simp
  have HLT := Lib.hid hlt
  have HRB := Lib.hid hRB
  have HV : Hid (rVal bad l = if (rRaw bad l).1.right = true ∧ (rRaw bad l).2.1 = false then rRaw bad l else (AV.none, true, [])) := rfl
  generalize hv : rVal bad l = out at *
  have HRAW : Hid (∀ n bd l1, rByte bad l = (n, bd, l1) → rRaw bad l = if n = 1 then (⟨1, (rSign bd l1).1, ⟨#[]⟩⟩, (rSign bd l1).2) else if n = 2 then (⟨2, 0, ⟨(rText 200 bd l1).1.toArray⟩⟩, (rText 200 bd l1).2)
    else if n = 3 then (⟨3, (rByte bd l1).1, ⟨#[]⟩⟩, (rByte bd l1).2) else (⟨n, 0, ⟨#[]⟩⟩, bd, l1)) := fun n bd l1 h => by unfold rRaw; rw [h]
  generalize hr : rRaw bad l = rw at *
  clear h hal hr hlt hRB hv
  generalize hrb : rByte bad l = r at *
  obtain ⟨n, bd, l1⟩ := r
  have HRAW2 := Lib.hid (HRAW.out n bd l1 rfl)
  clear HRAW
  simp only at *
  clear hrb
  go_enter Try.func75, Try.ntmps75
  go_upto_block 0 with (go_at_call 73; refine HB.out.mono ?_; clear HB; rintro e w1 ⟨rfl, hr1, ho1⟩; have HR1 := Lib.hid hr1; have HO1 := Lib.hid ho1; clear hr1 ho1)
  have hlt1 : w.heap.size < w1.heap.size := by have := HO1.out.size; omega
  have hq1 : ∀ k, Mine p k → k < w.heap.size := HLT.out
  have hnm2 : ¬ Mine p w.heap.size := fun h => Nat.lt_irrefl _ (hq1 _ h)
  have hnm3 : ¬ Mine p w1.heap.size := fun h => by have := hq1 _ h; omega
  have HNM2 := Lib.hid hnm2
  have HNM3 := Lib.hid hnm3
  have HZ1 := Lib.hid (HK2.out.only HO1.out hnm2)
  have HW1 := Lib.hid (HO0.out.trans HO1.out (fun _ _ h => h))
  have hal1 : Below w1.heap.size w1 (w1.alloc (.cells #[.int .i64 n, .int .i64 0, .string ⟨#[]⟩] 86)) := (Below.refl _ _).alloc (Nat.le_refl _) _
  have HB3 : Hid (Blk (w1.alloc (.cells #[.int .i64 n, .int .i64 0, .string ⟨#[]⟩] 86)) w1.heap.size 86 [.int .i64 n, .int .i64 0, .string ⟨#[]⟩]) := Blk.new w1 _ _
  have HZ3 := Lib.hid (HZ1.out.below hal1)
  have HR3 := Lib.hid (HR1.out.below hal1)
  have HW3 := Lib.hid (HW1.out.alloc (.cells #[.int .i64 n, .int .i64 0, .string ⟨#[]⟩] 86))
  have hsz3 : (w1.alloc (.cells #[.int .i64 n, .int .i64 0, .string ⟨#[]⟩] 86)).heap.size = w1.heap.size + 1 := by simp
  clear hq1 hnm2 hnm3 hal1 HK2 HO0
  generalize hw3 : w1.alloc (.cells #[.int .i64 n, .int .i64 0, .string ⟨#[]⟩] 86) = w3 at *
  have k0 : w3.cell? ⟨w1.heap.size, 0, none⟩ = some (.int .i64 n) := HB3.out.cell 0
  clear hw3
  go_cut [] (fun wc => Blk wc w1.heap.size 86 rw.1.cells ∧ Blk wc w.heap.size 86 [.int .i64 0, .int .i64 0, .string .empty] ∧ Rdr wc p RB rw.2.1 rw.2.2 ∧ Only (Mine p) w wc)
  case first =>
    by_cases h1 : n = 1
    · subst h1
      have HS := Lib.hid (sign_r w3 p _ _ HR3.out)
      have HE : Hid (rw = (⟨1, (rSign bd l1).1, ⟨#[]⟩⟩, (rSign bd l1).2)) := by have := HRAW2.out; rw [if_pos rfl] at this; exact this
      clear HRAW2
      generalize rSign bd l1 = rs at *
      obtain ⟨x, bd2, l2⟩ := rs
      simp only at HE HS
      go_wp2_with fail
      refine HS.out.mono ?_
      rintro e w4 ⟨rfl, hr4, ho4⟩
      have hb4 := HB3.out.only ho4 HNM3.out
      have HR4 := Lib.hid hr4
      have k1 : w4.cell? ⟨w1.heap.size, 1, none⟩ = some (.int .i64 0) := hb4.cell 1
      have kf : ∀ i, w4.frozen? ⟨w1.heap.size, i, none⟩ = false := hb4.frozen
      have HB5 := Lib.hid (hb4.set 1 (.int .i64 x))
      have HZ5 := Lib.hid ((HZ3.out.only ho4 HNM2.out).setOther (p := ⟨w1.heap.size, 1, none⟩) (Nat.ne_of_lt hlt1) (.int .i64 x))
      have HW4 := Lib.hid (HW3.out.trans ho4 (fun _ _ h => h))
      clear hb4 hr4 ho4 HS HB3 HZ3 HR3 k0
      go_wp2
      go_meet
      rw [HE.out]
      exact ⟨HB5.out, HZ5.out, HR4.out.only ((Only.refl (fun k => k = w1.heap.size) w4).setCell (p := ⟨w1.heap.size, 1, none⟩) (fun _ => rfl) _) (fun k hk => by rw [hk]; exact HNM3.out) (fun k hk h => by rw [hk] at h; have := HRB.out _ h; omega), HW4.out.setCell (p := ⟨w1.heap.size, 1, none⟩) (fun h => absurd h (by simp; omega)) _⟩
    · have n1 : (n == 1) = false := by rw [beq_eq_false_iff_ne]; exact h1
      by_cases h2 : n = 2
      · subst h2
        have HS := Lib.hid (text_r w3 p _ _ HR3.out 200 (by unfold fit64; omega))
        have HE : Hid (rw = (⟨2, 0, ⟨(rText 200 bd l1).1.toArray⟩⟩, (rText 200 bd l1).2)) := by have := HRAW2.out; rw [if_neg (by decide), if_pos rfl] at this; exact this
        clear HRAW2
        generalize rText 200 bd l1 = rs at *
        obtain ⟨x, bd2, l2⟩ := rs
        simp only at HE HS
        clear n1 h1
        go_wp2_with fail
        refine HS.out.mono ?_
        rintro e w4 ⟨rfl, hr4, ho4⟩
        have hb4 := HB3.out.only ho4 HNM3.out
        have HR4 := Lib.hid hr4
        have k1 : w4.cell? ⟨w1.heap.size, 2, none⟩ = some (.string ⟨#[]⟩) := hb4.cell 2
        have kf : ∀ i, w4.frozen? ⟨w1.heap.size, i, none⟩ = false := hb4.frozen
        have HB5 := Lib.hid (hb4.set 2 (.string ⟨x.toArray⟩))
        have HZ5 := Lib.hid ((HZ3.out.only ho4 HNM2.out).setOther (p := ⟨w1.heap.size, 2, none⟩) (Nat.ne_of_lt hlt1) (.string ⟨x.toArray⟩))
        have HW4 := Lib.hid (HW3.out.trans ho4 (fun _ _ h => h))
        clear hb4 hr4 ho4 HS HB3 HZ3 HR3 k0
        go_wp2
        go_meet
        rw [HE.out]
        exact ⟨HB5.out, HZ5.out, HR4.out.only ((Only.refl (fun k => k = w1.heap.size) w4).setCell (p := ⟨w1.heap.size, 2, none⟩) (fun _ => rfl) _) (fun k hk => by rw [hk]; exact HNM3.out) (fun k hk h => by rw [hk] at h; have := HRB.out _ h; omega), HW4.out.setCell (p := ⟨w1.heap.size, 2, none⟩) (fun h => absurd h (by simp; omega)) _⟩
      · have n2 : (n == 2) = false := by rw [beq_eq_false_iff_ne]; exact h2
        by_cases h3 : n = 3
        · subst h3
          have HS := Lib.hid (byte_r w3 p _ _ HR3.out)
          have HE : Hid (rw = (⟨3, (rByte bd l1).1, ⟨#[]⟩⟩, (rByte bd l1).2)) := by have := HRAW2.out; rw [if_neg (by decide), if_neg (by decide), if_pos rfl] at this; exact this
          clear HRAW2
          generalize rByte bd l1 = rs at *
          obtain ⟨x, bd2, l2⟩ := rs
          simp only at HE HS
          clear n1 h1 n2 h2
          go_wp2_with fail
          refine HS.out.mono ?_
          rintro e w4 ⟨rfl, hr4, ho4⟩
          have hb4 := HB3.out.only ho4 HNM3.out
          have HR4 := Lib.hid hr4
          have k1 : w4.cell? ⟨w1.heap.size, 1, none⟩ = some (.int .i64 0) := hb4.cell 1
          have kf : ∀ i, w4.frozen? ⟨w1.heap.size, i, none⟩ = false := hb4.frozen
          have HB5 := Lib.hid (hb4.set 1 (.int .i64 x))
          have HZ5 := Lib.hid ((HZ3.out.only ho4 HNM2.out).setOther (p := ⟨w1.heap.size, 1, none⟩) (Nat.ne_of_lt hlt1) (.int .i64 x))
          have HW4 := Lib.hid (HW3.out.trans ho4 (fun _ _ h => h))
          clear hb4 hr4 ho4 HS HB3 HZ3 HR3 k0
          go_wp2
          go_meet
          rw [HE.out]
          exact ⟨HB5.out, HZ5.out, HR4.out.only ((Only.refl (fun k => k = w1.heap.size) w4).setCell (p := ⟨w1.heap.size, 1, none⟩) (fun _ => rfl) _) (fun k hk => by rw [hk]; exact HNM3.out) (fun k hk h => by rw [hk] at h; have := HRB.out _ h; omega), HW4.out.setCell (p := ⟨w1.heap.size, 1, none⟩) (fun h => absurd h (by simp; omega)) _⟩
        · have n3 : (n == 3) = false := by rw [beq_eq_false_iff_ne]; exact h3
          have HE : Hid (rw = (⟨n, 0, ⟨#[]⟩⟩, bd, l1)) := by have := HRAW2.out; rw [if_neg h1, if_neg h2, if_neg h3] at this; exact this
          clear HRAW2 h1 h2 h3
          go_wp2
          go_meet
          rw [HE.out]
          exact ⟨HB3.out, HZ3.out, HR3.out, HW3.out⟩
  case rest =>
    obtain ⟨hb, hz, hr, ho⟩ := hcut
    have HR := Lib.hid hr
    have HO := Lib.hid ho
    clear HRAW2 HR1 HO1 HZ1 HW1 HB3 HZ3 HR3 HW3 k0 hsz3 hsz0
    obtain ⟨⟨k, n2, s⟩, bd2, l2⟩ := rw
    have k0 : wc.cell? ⟨w1.heap.size, 0, none⟩ = some (.int .i64 k) := hb.cell 0
    have k1 : wc.cell? ⟨w1.heap.size, 1, none⟩ = some (.int .i64 n2) := hb.cell 1
    have k2 : wc.cell? ⟨w1.heap.size, 2, none⟩ = some (.string s) := hb.cell 2
    have HB := Lib.hid hb
    have HZ := Lib.hid hz
    simp only at HR HV HO
    have hsl : Sl (wc.alloc (.cells #[.int .i64 k, .int .i64 n2, .string s] 86)) (fun _ => True) 3 (.slice (some ⟨wc.heap.size, 0, none⟩) 1 1) [(⟨k, n2, s⟩ : AV)].length (rowCells [⟨k, n2, s⟩]) :=
      (Own.made wc 86 3 (rowCells [⟨k, n2, s⟩]) [] 1 1 rfl (by intro u hu; simp [rowCells, AV.cells] at hu; rcases hu with rfl | rfl | rfl <;> rfl) (Nat.le_refl _) (by simp [maxLen]) (by simp [rowCells, AV.cells])).sl (fun _ _ => trivial)
    have HRT := Lib.hid (right_any _ _ _ [⟨k, n2, s⟩] hsl (by simp))
    have era : rightAll [⟨k, n2, s⟩] = (⟨k, n2, s⟩ : AV).right := by simp [rightAll]
    rw [era] at HRT
    generalize hvr : (⟨k, n2, s⟩ : AV).right = r at *
    have hblw : Below wc.heap.size wc (wc.alloc (.cells #[.int .i64 k, .int .i64 n2, .string s] 86)) := (Below.refl _ _).alloc (Nat.le_refl _) _
    have HBLW := Lib.hid hblw
    clear hsl era hvr hb hz hr ho hblw
    have hltc : w1.heap.size < wc.heap.size := HB.out.lt
    go_wp2_with fail
    refine HRT.out.mono ?_
    clear HRT
    rintro e w5 ⟨rfl, hb5⟩
    have hbl5 : Below wc.heap.size wc w5 := HBLW.out.trans (hb5.mono HBLW.out.size)
    have HB5 := Lib.hid (HB.out.below hbl5)
    have HZ5 := Lib.hid (HZ.out.below hbl5)
    have HR5 := Lib.hid (HR.out.below hbl5)
    have HO5 := Lib.hid (HO.out.trans (Only.of_none hbl5 (S := fun _ => False)) (fun _ _ h => h.elim))
    clear hb5 hbl5 HB HZ HR HO k0 k1 k2 HBLW
    cases r
    · have HE : Hid (out = (AV.none, true, [])) := by have := HV.out; rw [if_neg (by simp)] at this; exact this
      clear HV
      have HF := Lib.hid (fail_r w5 p _ _ HR5.out)
      go_wp2_with fail
      refine HF.out.mono ?_
      clear HF
      rintro e w6 ⟨rfl, hr6, ho6⟩
      have HG := Lib.hid (good_r w6 p _ _ hr6)
      have HR6 := Lib.hid hr6
      have HO6 := Lib.hid (HO5.out.trans ho6 (fun _ _ h => h))
      have hz6 := HZ5.out.only ho6 HNM2.out
      have z0 : w6.cell? ⟨w.heap.size, 0, none⟩ = some (.int .i64 0) := hz6.cell 0
      have z1 : w6.cell? ⟨w.heap.size, 1, none⟩ = some (.int .i64 0) := hz6.cell 1
      have z2 : w6.cell? ⟨w.heap.size, 2, none⟩ = some (.string .empty) := hz6.cell 2
      have zf : ∀ i, w6.frozen? ⟨w.heap.size, i, none⟩ = false := hz6.frozen
      have HZ6 := Lib.hid hz6
      clear hr6 ho6 hz6 HB5 HZ5 HR5 HO5
      go_wp2_with (go_at_call 54; refine HG.out.mono ?_; clear HG; rintro e w7 ⟨rfl, rfl⟩)
      rw [HE.out]
      refine bodyPost_ret (v := .agg #[.int .i64 0, .int .i64 0, .string ⟨#[]⟩]) (by simp [results, Try.results75, go_sem, z0, z1, z2]) rfl ⟨rfl, ?_⟩
      have ho7 : Only (fun k => k = w.heap.size) w6 (((w6.setCell ⟨w.heap.size, 0, none⟩ (.int .i64 0)).setCell ⟨w.heap.size, 1, none⟩ (.int .i64 0)).setCell ⟨w.heap.size, 2, none⟩ (.string ⟨#[]⟩)) :=
        (((Only.refl (fun k => k = w.heap.size) _).setCell (p := ⟨w.heap.size, 0, none⟩) (fun _ => rfl) _).setCell (p := ⟨w.heap.size, 1, none⟩) (fun _ => rfl) _).setCell (p := ⟨w.heap.size, 2, none⟩) (fun _ => rfl) _
      exact ⟨HR6.out.only ho7 (fun k hk => by rw [hk]; exact HNM2.out) (fun k hk h => by rw [hk] at h; have := HRB.out _ h; omega), HO6.out.trans ho7 (fun k hk h => by omega)⟩
    · have HG := Lib.hid (good_r w5 p _ _ HR5.out)
      have hz5 := HZ5.out
      have z0 : w5.cell? ⟨w.heap.size, 0, none⟩ = some (.int .i64 0) := hz5.cell 0
      have z1 : w5.cell? ⟨w.heap.size, 1, none⟩ = some (.int .i64 0) := hz5.cell 1
      have z2 : w5.cell? ⟨w.heap.size, 2, none⟩ = some (.string .empty) := hz5.cell 2
      have zf : ∀ i, w5.frozen? ⟨w.heap.size, i, none⟩ = false := hz5.frozen
      have v0 : w5.cell? ⟨w1.heap.size, 0, none⟩ = some (.int .i64 k) := HB5.out.cell 0
      have v1 : w5.cell? ⟨w1.heap.size, 1, none⟩ = some (.int .i64 n2) := HB5.out.cell 1
      have v2 : w5.cell? ⟨w1.heap.size, 2, none⟩ = some (.string s) := HB5.out.cell 2
      clear hz5
      cases bd2
      · have HE : Hid (out = (⟨k, n2, s⟩, false, l2)) := by have := HV.out; rw [if_pos ⟨rfl, rfl⟩] at this; exact this
        clear HV
        go_wp2_with (go_at_call 54; refine HG.out.mono ?_; clear HG; rintro e w7 ⟨rfl, rfl⟩)
        rw [HE.out]
        refine bodyPost_ret (v := .agg #[.int .i64 k, .int .i64 n2, .string s]) (by simp [results, Try.results75, go_sem, z0, z1, z2]) rfl ⟨rfl, ?_⟩
        have ho7 : Only (fun k => k = w.heap.size) w5 (((w5.setCell ⟨w.heap.size, 0, none⟩ (.int .i64 k)).setCell ⟨w.heap.size, 1, none⟩ (.int .i64 n2)).setCell ⟨w.heap.size, 2, none⟩ (.string s)) :=
          (((Only.refl (fun k => k = w.heap.size) _).setCell (p := ⟨w.heap.size, 0, none⟩) (fun _ => rfl) _).setCell (p := ⟨w.heap.size, 1, none⟩) (fun _ => rfl) _).setCell (p := ⟨w.heap.size, 2, none⟩) (fun _ => rfl) _
        exact ⟨HR5.out.only ho7 (fun k hk => by rw [hk]; exact HNM2.out) (fun k hk h => by rw [hk] at h; have := HRB.out _ h; omega), HO5.out.trans ho7 (fun k hk h => by omega)⟩
      · have HE : Hid (out = (AV.none, true, [])) := by have := HV.out; rw [if_neg (by simp)] at this; exact this
        have hl2 : l2 = [] := HR5.out.empty rfl
        subst hl2
        clear HV
        go_wp2_with (go_at_call 54; refine HG.out.mono ?_; clear HG; rintro e w7 ⟨rfl, rfl⟩)
        rw [HE.out]
        refine bodyPost_ret (v := .agg #[.int .i64 0, .int .i64 0, .string ⟨#[]⟩]) (by simp [results, Try.results75, go_sem, z0, z1, z2]) rfl ⟨rfl, ?_⟩
        have ho7 : Only (fun k => k = w.heap.size) w5 (((w5.setCell ⟨w.heap.size, 0, none⟩ (.int .i64 0)).setCell ⟨w.heap.size, 1, none⟩ (.int .i64 0)).setCell ⟨w.heap.size, 2, none⟩ (.string ⟨#[]⟩)) :=
          (((Only.refl (fun k => k = w.heap.size) _).setCell (p := ⟨w.heap.size, 0, none⟩) (fun _ => rfl) _).setCell (p := ⟨w.heap.size, 1, none⟩) (fun _ => rfl) _).setCell (p := ⟨w.heap.size, 2, none⟩) (fun _ => rfl) _
        exact ⟨HR5.out.only ho7 (fun k hk => by rw [hk]; exact HNM2.out) (fun k hk h => by rw [hk] at h; have := HRB.out _ h; omega), HO5.out.trans ho7 (fun k hk h => by omega)⟩
end Go.Proofs.Ytedcljahcedpjaa
/- The reader: how much is taken (plain); Row. -/
namespace Go.Proofs.Ytedcljahcedpjaa
open Go.RowKit Go.Afx
variable {RB : Nat → Prop}

theorem elemAV : Elem Try.prog 56 86 3 32 (.agg #[.int .i64 0, .int .i64 0, .string ⟨#[]⟩]) :=
  ⟨Try.underlying56, by kernel_rfl, rfl, by omega, by intro u hu; simp [Value.cells] at hu; rcases hu with rfl | rfl | rfl <;> rfl⟩

theorem rByte_good (bad : Bool) (l : List UInt8) (h : (rByte bad l).2.1 = false) : bad = false ∧ (rByte bad l).2.2.length + 1 = l.length := by
  cases bad
  · cases l
    · cases h
    · exact ⟨rfl, rfl⟩
  · cases h
theorem rNum_good (bad : Bool) (l : List UInt8) (h : (rNum bad l).2.1 = false) : bad = false ∧ (rNum bad l).2.2.length + 1 ≤ l.length := by
  unfold rNum at *
  simp only at *
  split at h
  · cases h
  · rename_i h1
    rw [if_neg h1]
    have hb := rByte_good bad l (by simpa using h1)
    split at h
    · cases h
    · rename_i h2
      rw [if_neg h2]
      split at h
      · cases h
      · rename_i h3
        rw [if_neg h3]
        refine ⟨hb.1, ?_⟩
        rw [List.length_drop]; omega
theorem rSize_good (most : Int) (bad : Bool) (l : List UInt8) (h : (rSize most bad l).2.1 = false) : bad = false ∧ (rSize most bad l).2.2.length + 1 ≤ l.length := by
  unfold rSize at *
  simp only at *
  split at h
  · cases h
  · rename_i h1
    rw [if_neg h1]
    exact rNum_good bad l h
theorem rText_good (most : Int) (bad : Bool) (l : List UInt8) (h : (rText most bad l).2.1 = false) : bad = false ∧ (rText most bad l).2.2.length + 1 ≤ l.length := by
  unfold rText rCut at *
  split at h
  · cases h
  · rename_i h1
    rw [if_neg h1]
    have h2 := rSize_good most bad l (by cases hq : (rSize most bad l).2.1; rfl; exact absurd (.inl hq) h1)
    refine ⟨h2.1, ?_⟩
    simp only [List.length_drop]; omega
theorem rRaw_good (bad : Bool) (l : List UInt8) (h : (rRaw bad l).2.1 = false) : bad = false ∧ (rRaw bad l).2.2.length + 1 ≤ l.length := by
  unfold rRaw at *
  simp only at *
  split at h
  · rename_i h1
    rw [if_pos h1]
    have h2 := rNum_good _ _ h
    have h3 := rByte_good bad l h2.1
    have h4 := h2.2
    exact ⟨h3.1, by simp only [rSign]; omega⟩
  · rename_i h1
    rw [if_neg h1]
    split at h
    · rename_i h2
      rw [if_pos h2]
      have h2 := rText_good _ _ _ h
      have h3 := rByte_good bad l h2.1
      exact ⟨h3.1, by simp only; omega⟩
    · rename_i h2
      rw [if_neg h2]
      split at h
      · rename_i h3
        rw [if_pos h3]
        have h2 := rByte_good _ _ h
        have h3 := rByte_good bad l h2.1
        exact ⟨h3.1, by simp only; omega⟩
      · rename_i h3
        rw [if_neg h3]
        have h3 := rByte_good bad l h
        exact ⟨h3.1, by simp only; omega⟩
theorem unzig_fit (n : Nat) (h : n < 18446744073709551616) : fit64 (unzig n) := by
  unfold fit64 unzig
  split <;> omega
theorem rVal_good (bad : Bool) (l : List UInt8) (h : (rVal bad l).2.1 = false) : bad = false ∧ (rVal bad l).2.2.length + 1 ≤ l.length ∧ (rVal bad l).1.right = true ∧ fit64 (rVal bad l).1.n := by
  unfold rVal at *
  split at h
  · rename_i h1
    rw [if_pos h1]
    have h2 := rRaw_good bad l h1.2
    refine ⟨h2.1, h2.2, h1.1, ?_⟩
    have hr := h1.1
    unfold rRaw at *
    simp only at *
    split
    · exact unzig_fit _ (rNum_lt _ _)
    · rename_i h3
      rw [if_neg h3] at hr
      split
      · unfold fit64; simp only; omega
      · rename_i h4
        rw [if_neg h4] at hr
        split
        · rename_i h5
          rw [if_pos h5] at hr
          simp [AV.right] at hr
          unfold fit64; simp only; omega
        · unfold fit64; simp only; omega
  · cases h

/-- So many, one behind the other, while the reader is good. -/
def rMany {α : Type} (f : Bool → List UInt8 → α × Bool × List UInt8) : Nat → Bool → List UInt8 → List α × Bool × List UInt8
  | 0, bad, l => ([], bad, l)
  | n + 1, bad, l => if bad then ([], bad, l) else ((f bad l).1 :: (rMany f n (f bad l).2.1 (f bad l).2.2).1, (rMany f n (f bad l).2.1 (f bad l).2.2).2)
def rList {α : Type} (f : Bool → List UInt8 → α × Bool × List UInt8) (most : Int) (bad : Bool) (l : List UInt8) : List α × Bool × List UInt8 :=
  let s := rSize most bad l
  let q := rMany f s.1 s.2.1 s.2.2
  if q.2.1 then ([], true, []) else q
def rRow (most : Int) (bad : Bool) (l : List UInt8) : List AV × Bool × List UInt8 := rList rVal most bad l

theorem rowCells_append (a b : List AV) : rowCells (a ++ b) = rowCells a ++ rowCells b := by simp [rowCells]
theorem own_val (w : World) (v : AV) : Own (w.alloc (.cells #[.int .i64 v.kind, .int .i64 v.n, .string v.s] 86)) 86 3 (.slice (some ⟨w.heap.size, 0, none⟩) 1 1) 1 (rowCells [v]) :=
  Own.made w 86 3 (rowCells [v]) [] 1 1 rfl (by intro u hu; simp [rowCells, AV.cells] at hu; rcases hu with rfl | rfl | rfl <;> rfl) (Nat.le_refl _) (by simp [maxLen]) (by simp [rowCells, AV.cells])
theorem sl_val (w : World) (v : AV) : Sl (w.alloc (.cells #[.int .i64 v.kind, .int .i64 v.n, .string v.s] 86)) (fun _ => True) 3 (.slice (some ⟨w.heap.size, 0, none⟩) 1 1) 1 (rowCells [v]) :=
  (own_val w v).sl (fun _ _ => trivial)

set_option maxRecDepth 100000 in
set_option maxHeartbeats 1000000 in
theorem row_r (w : World) (p : Option Addr) (bad : Bool) (l : List UInt8) (h : Rdr w p RB bad l) (hRB : ∀ k, RB k → k < w.heap.size) (most : Int) (hm : fit64 most) (hl : l.length ≤ 10000000) :
    Calls Try.prog 67 #[.pointer p, .int .i64 most] w fun e w' => ∃ v, e = .returned v ∧ Own w' 86 3 v (rRow most bad l).1.length (rowCells (rRow most bad l).1) ∧ (∀ k, v.ownBlock = some k → w.heap.size ≤ k) ∧
      Rdr w' p RB (rRow most bad l).2.1 (rRow most bad l).2.2 ∧ Only (Mine p) w w' := by
  have HS := Lib.hid (size_r w p bad l h most hm)
  have HLT := Lib.hid h.lt
  have HRB := Lib.hid hRB
  have hsg := rSize_good most bad l
  have HV : Hid (rRow most bad l = if (rMany rVal (rSize most bad l).1 (rSize most bad l).2.1 (rSize most bad l).2.2).2.1 then ([], true, []) else rMany rVal (rSize most bad l).1 (rSize most bad l).2.1 (rSize most bad l).2.2) := rfl
  generalize rRow most bad l = out at *
  have hsb : (rSize most bad l).1 < 18446744073709551616 := by
    have := rNum_lt bad l
    unfold rSize
    simp only
    split
    · simp
    · exact this
  have hsm : ((rSize most bad l).1 : Int) ≤ 9223372036854775807 := by
    unfold fit64 at hm
    unfold rSize
    simp only
    split
    · simp
    · rename_i hx; simp only [not_or] at hx; omega
  generalize hs : rSize most bad l = sz at *
  clear h hRB hm hs hsb
  obtain ⟨n, bd, l1⟩ := sz
  simp only at HV HS hsg hsm
  have hl1 : bd = false → l1.length ≤ 10000000 := fun hb => by have := (hsg hb).2; omega
  have HL1 := Lib.hid hl1
  clear hsg hl1
  generalize htot : rMany rVal n bd l1 = tot at *
  have HT := Lib.hid htot
  clear htot
  go_enter Try.func67, Try.ntmps67
  go_wp2_with (go_at_call 53; refine HS.out.mono ?_; clear HS; rintro e w1 ⟨rfl, hr1, ho1⟩; have HR1 := Lib.hid hr1; have HO1 := Lib.hid ho1; clear hr1 ho1)
  go_loopw [5, 6] (fun v i wr => ∃ (m : Nat) (acc : List AV) (bk : Bool) (lk : List UInt8), i = .int .i64 m ∧ m ≤ n ∧ Own wr 86 3 v acc.length (rowCells acc) ∧ (∀ k, v.ownBlock = some k → w.heap.size ≤ k) ∧
    Rdr wr p RB bk lk ∧ Only (Mine p) w wr ∧ acc ++ (rMany rVal m bk lk).1 = tot.1 ∧ (rMany rVal m bk lk).2 = tot.2 ∧ (bk = false → acc.length + lk.length ≤ 10000000) ∧ acc.length ≤ 10000001) (fun _ i _ => (intOf i).toNat)
  case atStart => exact ⟨n, [], bd, l1, rfl, Nat.le_refl _, Own.nil _ _ _, by simp [Value.ownBlock], HR1.out, HO1.out, by rw [HT.out]; rfl, by rw [HT.out], fun hb => by simpa using HL1.out hb, by simp⟩
  case round =>
    obtain ⟨m, acc, bk, lk, rfl, hmn, hown, hnew, hrd, ho, ht1, ht2, hc1, hc2⟩ := hrel
    obtain ⟨pv, cv, rfl, hcv1, hcv2⟩ := own_form2 hown
    have HG := Lib.hid (good_r _ p _ _ hrd)
    have HOWN := Lib.hid hown
    have HNEW := Lib.hid hnew
    have HRD := Lib.hid hrd
    have HO := Lib.hid ho
    have HT1 := Lib.hid ht1
    have HT2 := Lib.hid ht2
    have HC1 := Lib.hid hc1
    clear hown hnew hrd ho ht1 ht2 hc1
    cases bk
    · rcases Nat.eq_zero_or_pos m with hm0 | hm0
      · subst hm0
        go_wp2_with (go_at_call 54; refine HG.out.mono ?_; rintro e w7 ⟨rfl, rfl⟩)
        go_ret
        have e1 : tot = (acc, false, lk) := by
          have := HT1.out; have h2 := HT2.out
          simp [rMany] at this h2
          exact Prod.ext this.symm h2.symm
        have e2 := HV.out
        rw [e1] at e2
        simp at e2
        rw [e2]
        exact ⟨_, rfl, HOWN.out, HNEW.out, HRD.out, HO.out⟩
      · obtain ⟨m, rfl⟩ : ∃ m', m = m' + 1 := ⟨m - 1, by omega⟩
        have HX := Lib.hid (val_r wr p false lk HRD.out (fun k hk => Nat.lt_of_lt_of_le (HRB.out k hk) HO.out.size))
        have HGV := Lib.hid (rVal_good false lk)
        have hst1 : acc ++ (rVal false lk).1 :: (rMany rVal m (rVal false lk).2.1 (rVal false lk).2.2).1 = tot.1 := HT1.out
        have hst2 : (rMany rVal m (rVal false lk).2.1 (rVal false lk).2.2).2 = tot.2 := HT2.out
        have HST1 := Lib.hid hst1
        have HST2 := Lib.hid hst2
        clear hst1 hst2 HT1 HT2
        generalize rVal false lk = r at *
        obtain ⟨⟨xk, xn, xs⟩, b2, l2⟩ := r
        simp only [AV.agg] at HX HGV HST1 HST2
        have hpos : (0 : Int) < ((m + 1 : Nat) : Int) := by omega
        go_wp2_with (go_at_call 54; refine HG.out.mono ?_; clear HG; rintro e w7 ⟨rfl, rfl⟩)
        refine HX.out.mono ?_
        clear HX
        rintro e w2 ⟨rfl, hr2, ho2⟩
        have HO2 := Lib.hid ho2
        have hnm : ∀ k, (Value.slice pv acc.length cv).ownBlock = some k → ¬ Mine p k := fun k hk h => by have h1 := HNEW.out k hk; have h2 := HLT.out k h; omega
        have hal : Below w2.heap.size w2 (w2.alloc (.cells #[.int .i64 xk, .int .i64 xn, .string xs] 86)) := (Below.refl _ _).alloc (Nat.le_refl _) _
        have ho1 := (HOWN.out.only ho2 hnm).below hal
        have hs1 := sl_val w2 ⟨xk, xn, xs⟩
        have HR2 := Lib.hid (hr2.below hal)
        have HNM := Lib.hid hnm
        have hsz2 : (w2.alloc (.cells #[.int .i64 xk, .int .i64 xn, .string xs] 86)).heap.size = w2.heap.size + 1 := by simp
        have HSZ2 := Lib.hid hsz2
        have HAL := Lib.hid hal
        clear ho2 hr2 hnm hal hsz2
        go_wp2_with (at_builtin; refine wpList_app rfl _ _ rfl elemAV (by rfl) ho1 (by rfl) hs1 (by unfold maxLen; omega) (by omega) ?_; intro v1 w3 g1 g2 g3 g4 g5; clear ho1 hs1; have G1 := Lib.hid g1; have G2 := Lib.hid g2; have G3 := Lib.hid g3; clear g1 g2 g3 g4 g5)
        have hww : w.heap.size ≤ wr.heap.size := HO.out.size
        have hw2 : wr.heap.size ≤ w2.heap.size := HO2.out.size
        go_roundw
        case rel =>
          refine ⟨m, acc ++ [⟨xk, xn, xs⟩], b2, l2, by go_num, by omega, ?_, fun k hk => ?_, ?_, ?_, ?_, HST2.out, fun hb => ?_, ?_⟩
          · rw [List.length_append, rowCells_append]; exact G1.out
          · rcases G3.out with h | h
            · exact HNEW.out k (by rw [← h]; exact hk)
            · rw [h, HSZ2.out] at hk
              have : w2.heap.size + 1 = k := by simpa using hk
              omega
          · exact HR2.out.only G2.out HNM.out (fun k hk h => by have h1 := HNEW.out k hk; have h2 := HRB.out k h; omega)
          · refine ((HO.out.trans HO2.out (fun _ _ h => h)).trans (Only.of_none HAL.out (S := fun _ => False)) (fun _ _ h => h.elim)).trans G2.out (fun k hk h => ?_)
            have h1 := HNEW.out k h; omega
          · rw [List.append_assoc]; exact HST1.out
          · have h1 := HGV.out hb; have h2 := HC1.out trivial; rw [List.length_append]; simp only [List.length_cons, List.length_nil]; omega
          · have h2 := HC1.out trivial; rw [List.length_append]; simp only [List.length_cons, List.length_nil]; omega
        case measure => (simp [intOf]) <;> omega
    · have e1 : tot.2.1 = true := by
        rw [← HT2.out]
        cases m <;> rfl
      have e2 := HV.out
      rw [if_pos e1] at e2
      subst e2
      have hlk : lk = [] := HRD.out.empty rfl
      subst hlk
      clear HV HT1 HT2 HT
      go_wp2_with (go_at_call 54; refine HG.out.mono ?_; rintro e w7 ⟨rfl, rfl⟩)
      all_goals
        go_ret
        exact ⟨_, rfl, Own.nil _ _ _, by simp [Value.ownBlock], HRD.out, HO.out⟩
end Go.Proofs.Ytedcljahcedpjaa
namespace Go.Proofs.Ytedcljahcedpjaa
open Go.RowKit Go.Afx
variable {RB : Nat → Prop}

theorem elemRow : Elem Try.prog 36 56 1 24 (.slice none 0 0) :=
  ⟨Try.underlying36, by kernel_rfl, rfl, by omega, by intro u hu; simp [Value.cells] at hu; subst hu; rfl⟩

theorem rMany_good {α : Type} (f : Bool → List UInt8 → α × Bool × List UInt8) (hf : ∀ bad l, (f bad l).2.1 = false → bad = false ∧ (f bad l).2.2.length ≤ l.length) :
    ∀ n bad l, (rMany f n bad l).2.1 = false → bad = false ∧ (rMany f n bad l).2.2.length ≤ l.length
  | 0, bad, l, h => ⟨h, Nat.le_refl _⟩
  | n + 1, bad, l, h => by
    unfold rMany at *
    cases bad
    · rw [if_neg (by decide)] at h ⊢
      have h1 := rMany_good f hf n _ _ h
      have h2 := hf _ _ h1.1
      exact ⟨rfl, Nat.le_trans h1.2 h2.2⟩
    · cases h
theorem rList_good {α : Type} (f : Bool → List UInt8 → α × Bool × List UInt8) (hf : ∀ bad l, (f bad l).2.1 = false → bad = false ∧ (f bad l).2.2.length ≤ l.length) (most : Int) (bad : Bool) (l : List UInt8)
    (h : (rList f most bad l).2.1 = false) : bad = false ∧ (rList f most bad l).2.2.length + 1 ≤ l.length := by
  unfold rList at *
  simp only at *
  split at h
  · cases h
  · rename_i h1
    rw [if_neg h1]
    have h2 := rMany_good f hf _ _ _ h
    have h3 := rSize_good most bad l h2.1
    exact ⟨h3.1, by omega⟩
theorem rRow_good (most : Int) (bad : Bool) (l : List UInt8) (h : (rRow most bad l).2.1 = false) : bad = false ∧ (rRow most bad l).2.2.length + 1 ≤ l.length :=
  rList_good rVal (fun bad l h => by have := rVal_good bad l h; exact ⟨this.1, by omega⟩) most bad l h
def rRows (most cols : Int) (bad : Bool) (l : List UInt8) : List (List AV) × Bool × List UInt8 := rList (rRow cols) most bad l

/-- What Rows leaves. -/
def RowsOut (RB : Nat → Prop) (w : World) (p : Option Addr) (out : List (List AV) × Bool × List UInt8) (e : Ending) (w' : World) : Prop :=
  ∃ v rows, e = .returned v ∧ rows.map RowV.l = out.1 ∧ Own w' 56 1 v rows.length (rowVals rows) ∧ (∀ k, v.ownBlock = some k → w.heap.size ≤ k) ∧ (∀ r ∈ rows, Sl w' (fun k => w.heap.size ≤ k) 3 r.v r.l.length (rowCells r.l)) ∧
      Rdr w' p RB out.2.1 out.2.2 ∧ Only (Mine p) w w'

set_option maxRecDepth 100000 in
set_option maxHeartbeats 1000000 in
theorem rows_r (w : World) (p : Option Addr) (bad : Bool) (l : List UInt8) (h : Rdr w p RB bad l) (hRB : ∀ k, RB k → k < w.heap.size) (most cols : Int) (hm : fit64 most) (hcol : fit64 cols) (hl : l.length ≤ 10000000) :
    Calls Try.prog 55 #[.pointer p, .int .i64 most, .int .i64 cols] w fun e w' => RowsOut RB w p (rRows most cols bad l) e w' := by
  have HS := Lib.hid (size_r w p bad l h most hm)
  have HLT := Lib.hid h.lt
  have HRB := Lib.hid hRB
  have hsg := rSize_good most bad l
  have HV : Hid (rRows most cols bad l = if (rMany (rRow cols) (rSize most bad l).1 (rSize most bad l).2.1 (rSize most bad l).2.2).2.1 then ([], true, []) else rMany (rRow cols) (rSize most bad l).1 (rSize most bad l).2.1 (rSize most bad l).2.2) := rfl
  generalize rRows most cols bad l = out at *
  have hsb : (rSize most bad l).1 < 18446744073709551616 := by
    have := rNum_lt bad l
    unfold rSize
    simp only
    split
    · simp
    · exact this
  have hsm : ((rSize most bad l).1 : Int) ≤ 9223372036854775807 := by
    unfold fit64 at hm
    unfold rSize
    simp only
    split
    · simp
    · rename_i hx; simp only [not_or] at hx; omega
  generalize hs : rSize most bad l = sz at *
  clear h hRB hm hs hsb
  obtain ⟨n, bd, l1⟩ := sz
  simp only at HV HS hsg hsm
  have hl1 : bd = false → l1.length ≤ 10000000 := fun hb => by have := (hsg hb).2; omega
  have HL1 := Lib.hid hl1
  clear hsg hl1
  generalize htot : rMany (rRow cols) n bd l1 = tot at *
  have HT := Lib.hid htot
  clear htot
  go_enter Try.func55, Try.ntmps55
  go_wp2_with (go_at_call 53; refine HS.out.mono ?_; clear HS; rintro e w1 ⟨rfl, hr1, ho1⟩; have HR1 := Lib.hid hr1; have HO1 := Lib.hid ho1; clear hr1 ho1)
  go_loopw [7, 8] (fun v i wr => ∃ (m : Nat) (acc : List RowV) (bk : Bool) (lk : List UInt8), i = .int .i64 m ∧ m ≤ n ∧ Own wr 56 1 v acc.length (rowVals acc) ∧ (∀ r ∈ acc, Sl wr (fun k => w.heap.size ≤ k ∧ v.ownBlock ≠ some k) 3 r.v r.l.length (rowCells r.l)) ∧ (∀ k, v.ownBlock = some k → w.heap.size ≤ k) ∧
    Rdr wr p RB bk lk ∧ Only (Mine p) w wr ∧ acc.map RowV.l ++ (rMany (rRow cols) m bk lk).1 = tot.1 ∧ (rMany (rRow cols) m bk lk).2 = tot.2 ∧ (bk = false → acc.length + lk.length ≤ 10000000) ∧ acc.length ≤ 10000001) (fun _ i _ => (intOf i).toNat)
  case atStart => exact ⟨n, [], bd, l1, rfl, Nat.le_refl _, Own.nil _ _ _, by simp, by simp [Value.ownBlock], HR1.out, HO1.out, by rw [HT.out]; rfl, by rw [HT.out], fun hb => by simpa using HL1.out hb, by simp⟩
  case round =>
    obtain ⟨m, acc, bk, lk, rfl, hmn, hown, hrows, hnew, hrd, ho, ht1, ht2, hc1, hc2⟩ := hrel
    obtain ⟨pv, cv, rfl, hcv1, hcv2⟩ := own_form2 hown
    have HG := Lib.hid (good_r _ p _ _ hrd)
    have HOWN := Lib.hid hown
    have HNEW := Lib.hid hnew
    have HROWS := Lib.hid hrows
    have HRD := Lib.hid hrd
    have HO := Lib.hid ho
    have HT1 := Lib.hid ht1
    have HT2 := Lib.hid ht2
    have HC1 := Lib.hid hc1
    clear hown hrows hnew hrd ho ht1 ht2 hc1
    cases bk
    · rcases Nat.eq_zero_or_pos m with hm0 | hm0
      · subst hm0
        go_wp2_with (go_at_call 54; refine HG.out.mono ?_; rintro e w7 ⟨rfl, rfl⟩)
        go_ret
        have e1 : tot = (acc.map RowV.l, false, lk) := by
          have := HT1.out; have h2 := HT2.out
          simp [rMany] at this h2
          exact Prod.ext this.symm h2.symm
        have e2 := HV.out
        rw [e1] at e2
        simp at e2
        rw [e2]
        unfold RowsOut
        exact ⟨_, acc, rfl, rfl, HOWN.out, HNEW.out, fun r hr => (HROWS.out r hr).mono (Nat.le_refl _) (fun _ _ _ => rfl) (fun _ h _ => h.1), HRD.out, HO.out⟩
      · obtain ⟨m, rfl⟩ : ∃ m', m = m' + 1 := ⟨m - 1, by omega⟩
        have hlk6 : lk.length ≤ 10000000 := by have := HC1.out rfl; omega
        have HX := Lib.hid (row_r wr p false lk HRD.out (fun k hk => Nat.lt_of_lt_of_le (HRB.out k hk) HO.out.size) cols hcol hlk6)
        have HGV := Lib.hid (rRow_good cols false lk)
        have hst1 : acc.map RowV.l ++ (rRow cols false lk).1 :: (rMany (rRow cols) m (rRow cols false lk).2.1 (rRow cols false lk).2.2).1 = tot.1 := HT1.out
        have hst2 : (rMany (rRow cols) m (rRow cols false lk).2.1 (rRow cols false lk).2.2).2 = tot.2 := HT2.out
        have HST1 := Lib.hid hst1
        have HST2 := Lib.hid hst2
        clear hst1 hst2 HT1 HT2
        generalize rRow cols false lk = r at *
        obtain ⟨x, b2, l2⟩ := r
        simp only at HX HGV HST1 HST2
        have hpos : (0 : Int) < ((m + 1 : Nat) : Int) := by omega
        go_wp2_with (go_at_call 54; refine HG.out.mono ?_; clear HG; rintro e w7 ⟨rfl, rfl⟩)
        refine HX.out.mono ?_
        clear HX
        rintro e w2 ⟨xv, rfl, hx, hxn, hr2, ho2⟩
        have HO2 := Lib.hid ho2
        have hnm : ∀ k, (Value.slice pv acc.length cv).ownBlock = some k → ¬ Mine p k := fun k hk h => by have h1 := HNEW.out k hk; have h2 := HLT.out k h; omega
        obtain ⟨px, cx, rfl, hcx1, hcx2⟩ := own_form2 hx
        have hal : Below w2.heap.size w2 (w2.alloc (.cells #[.slice px x.length cx] 56)) := (Below.refl _ _).alloc (Nat.le_refl _) _
        have ho1 := (HOWN.out.only ho2 hnm).below hal
        have hs1 : Sl (w2.alloc (.cells #[.slice px x.length cx] 56)) (fun _ => True) 1 (.slice (some ⟨w2.heap.size, 0, none⟩) 1 1) 1 (rowVals [⟨.slice px x.length cx, x⟩]) :=
          (Own.made w2 56 1 (rowVals [⟨.slice px x.length cx, x⟩]) [] 1 1 rfl (Ones.nil.cons rfl) (Nat.le_refl _) (by simp [maxLen]) (by simp [rowVals])).sl (fun _ _ => trivial)
        have HR2 := Lib.hid (hr2.below hal)
        have HNM := Lib.hid hnm
        have hsz2 : (w2.alloc (.cells #[.slice px x.length cx] 56)).heap.size = w2.heap.size + 1 := by simp
        have hov : ∀ k, (Value.slice pv acc.length cv).ownBlock = some k → k < wr.heap.size := HOWN.out.lt
        have HXS : Hid (Sl (w2.alloc (.cells #[.slice px x.length cx] 56)) (fun k => w.heap.size ≤ k ∧ (Value.slice pv acc.length cv).ownBlock ≠ some k) 3 (.slice px x.length cx) x.length (rowCells x)) :=
          (hx.sl (fun k hk => ⟨Nat.le_trans HO.out.size (hxn k hk), fun h => by have h1 := hxn k hk; have h2 := hov k h; omega⟩)).below hal
        have HRS : Hid (∀ r ∈ acc, Sl (w2.alloc (.cells #[.slice px x.length cx] 56)) (fun k => w.heap.size ≤ k ∧ (Value.slice pv acc.length cv).ownBlock ≠ some k) 3 r.v r.l.length (rowCells r.l)) :=
          fun r hr => ((HROWS.out r hr).only ho2 (fun k hk h => by have h1 := HLT.out k h; omega)).below hal
        have HSZ2 := Lib.hid hsz2
        have HAL := Lib.hid hal
        clear ho2 hr2 hnm hal hsz2 hov hx hxn
        go_wp2_with (at_builtin; refine wpList_app rfl _ _ rfl elemRow (by rfl) ho1 (by rfl) hs1 (by unfold maxLen; omega) (by omega) ?_; intro v1 w3 g1 g2 g3 g4 g5; clear ho1 hs1; have G1 := Lib.hid g1; have G2 := Lib.hid g2; have G3 := Lib.hid g3; clear g1 g2 g3 g4 g5)
        have hww : w.heap.size ≤ wr.heap.size := HO.out.size
        have hw2 : wr.heap.size ≤ w2.heap.size := HO2.out.size
        have hmv : ∀ r : RowV, Sl (w2.alloc (.cells #[.slice px x.length cx] 56)) (fun k => w.heap.size ≤ k ∧ (Value.slice pv acc.length cv).ownBlock ≠ some k) 3 r.v r.l.length (rowCells r.l) → Sl w3 (fun k => w.heap.size ≤ k ∧ v1.ownBlock ≠ some k) 3 r.v r.l.length (rowCells r.l) := fun r h =>
          h.mono G2.out.size (fun k hk hl => G2.out.block k hl hk.2) (fun k hk hl => ⟨hk.1, fun h => by
            rcases G3.out with h1 | h1
            · rw [h1] at h; exact hk.2 h
            · rw [h1] at h
              have : (w2.alloc (.cells #[.slice px x.length cx] 56)).heap.size = k := by simpa using h
              omega⟩)
        go_roundw
        case rel =>
          refine ⟨m, acc ++ [⟨.slice px x.length cx, x⟩], b2, l2, by go_num, by omega, ?_, fun r hr => ?_, fun k hk => ?_, ?_, ?_, ?_, HST2.out, fun hb => ?_, ?_⟩
          · rw [List.length_append, rowVals_append]; exact G1.out
          · rcases List.mem_append.1 hr with hr | hr
            · exact hmv r (HRS.out r hr)
            · rw [List.mem_singleton.1 hr]; exact hmv ⟨.slice px x.length cx, x⟩ HXS.out
          · rcases G3.out with h | h
            · exact HNEW.out k (by rw [← h]; exact hk)
            · rw [h, HSZ2.out] at hk
              have : w2.heap.size + 1 = k := by simpa using hk
              omega
          · exact HR2.out.only G2.out HNM.out (fun k hk h => by have h1 := HNEW.out k hk; have h2 := HRB.out k h; omega)
          · refine ((HO.out.trans HO2.out (fun _ _ h => h)).trans (Only.of_none HAL.out (S := fun _ => False)) (fun _ _ h => h.elim)).trans G2.out (fun k hk h => ?_)
            have h1 := HNEW.out k h; omega
          · rw [List.map_append, List.append_assoc]; exact HST1.out
          · have h1 := HGV.out hb; have h2 := HC1.out trivial; rw [List.length_append]; simp only [List.length_cons, List.length_nil]; omega
          · have h2 := HC1.out trivial; rw [List.length_append]; simp only [List.length_cons, List.length_nil]; omega
        case measure => (simp [intOf]) <;> omega
    · have e1 : tot.2.1 = true := by
        rw [← HT2.out]
        cases m <;> rfl
      have e2 := HV.out
      rw [if_pos e1] at e2
      subst e2
      have hlk : lk = [] := HRD.out.empty rfl
      subst hlk
      clear HV HT1 HT2 HT
      go_wp2_with (go_at_call 54; refine HG.out.mono ?_; rintro e w7 ⟨rfl, rfl⟩)
      all_goals
        go_ret
        unfold RowsOut
        exact ⟨_, [], rfl, rfl, Own.nil _ _ _, by simp [Value.ownBlock], by simp, HRD.out, HO.out⟩
end Go.Proofs.Ytedcljahcedpjaa
/- The document's numbers: Number, Size, Signed, Text. -/
namespace Go.Proofs.Ytedcljahcedpjaa
open Go.RowKit Go.Afx

set_option maxRecDepth 100000 in
theorem refnum (w : World) (n : Nat) (hn : n < 18446744073709551616) :
    Calls Try.prog 62 #[.int .u64 (n : Int)] w fun e w' => e = .returned (.string (bs (numB n))) ∧ Below w.heap.size w w' := by
  have hl8 := be_len_le 8 n hn
  have HL8 := Lib.hid hl8
  clear hl8
  go_enter Try.func62, Try.ntmps62
  go_wp2
  go_loopw [0, 3] (fun n0 s wr => ∃ (u : Nat) (acc : List UInt8), n0 = .int .u64 (u : Int) ∧ u ≤ n ∧ s = .string (bs acc) ∧ be256 u ++ acc = be256 n ∧ Below w.heap.size w wr) (fun n0 _ _ => (intOf n0).toNat)
  case atStart => exact ⟨n, [], rfl, Nat.le_refl _, by rw [bs_nil], by simp, Below.refl _ _⟩
  case round =>
    obtain ⟨u, acc, rfl, hu, rfl, hacc, hb⟩ := hrel
    have hal8 : acc.length ≤ 8 := by have := HL8.out; rw [← hacc, List.length_append] at this; omega
    have HB := Lib.hid hb
    have HSZ : Hid ((bs acc).size = acc.length) := bs_size acc
    clear hb
    rcases Nat.eq_zero_or_pos u with h0 | h0
    · subst h0
      rw [be_zero, List.nil_append] at hacc
      subst hacc
      have cvb := cv_byte wr (be256 n).length (by omega)
      have hsz := HSZ.out
      have hcat : bs [UInt8.ofNat (be256 n).length] ++ bs (be256 n) = bs (numB n) := by rw [bs_append]; rfl
      have hsl : (bs [UInt8.ofNat (be256 n).length]).size = 1 := by rw [bs_size]; rfl
      have hsum : (bs [UInt8.ofNat (be256 n).length]).size + (bs (be256 n)).size ≤ 9223372036854775807 := by rw [hsl, hsz]; omega
      clear hsl
      generalize bs (be256 n) = S at *
      generalize (be256 n).length = k at *
      generalize bs [UInt8.ofNat k] = ch at *
      generalize hR : bs (numB n) = R at *
      have HR := Lib.hid hR
      clear hR
      go_wp2
      go_ret
      exact ⟨by rw [HR.out]; rfl, HB.out.alloc HB.out.size _⟩
    · have HE := Lib.hid (be_pos u h0)
      obtain ⟨x, hx⟩ : ∃ x : Nat, x = u % 256 := ⟨_, rfl⟩
      have hx2 : (u : Int) % 256 = (x : Int) := by omega
      have hx256 : x < 256 := by omega
      have hxi : (x : Int) < 256 := by omega
      have hu0 : (0 : Int) < (u : Int) := by omega
      rw [← hx] at HE
      have HX := Lib.hid hx
      have hq : (u : Int) / 256 = ((u / 256 : Nat) : Int) := by omega
      have hlt : u / 256 < u := Nat.div_lt_self h0 (by omega)
      have cvb := cv_byte wr x hx256
      have hcat : bs [UInt8.ofNat x] ++ bs acc = bs ([UInt8.ofNat x] ++ acc) := bs_append _ _
      have hsum : (bs [UInt8.ofNat x]).size + (bs acc).size ≤ 9223372036854775807 := by rw [bs_size, bs_size]; simp; omega
      have HACC : Hid (be256 (u / 256) ++ ([UInt8.ofNat x] ++ acc) = be256 n) := by
        show _ = _
        rw [← List.append_assoc, ← HE.out]; exact hacc
      clear hx hacc
      generalize hbs : bs ([UInt8.ofNat x] ++ acc) = S2 at *
      have HBS := Lib.hid hbs
      clear hbs
      generalize bs acc = S at *
      generalize bs [UInt8.ofNat x] = ch at *
      generalize u / 256 = u2 at *
      go_wp2
      go_roundw
      case rel => exact ⟨u2, [UInt8.ofNat x] ++ acc, by congr 1, by omega, by rw [HBS.out], HACC.out, HB.out.alloc HB.out.size _⟩
      case measure => (simp [intOf]) <;> omega

set_option maxRecDepth 100000 in
theorem refsize (w : World) (n : Int) (hn : fit64 n) :
    Calls Try.prog 48 #[.int .i64 n] w fun e w' => e = .returned (.string (bs (sizeB n))) ∧ Below w.heap.size w w' := by
  unfold fit64 at hn
  by_cases h : n < 0
  · have h0 : sizeB n = numB 0 := by unfold sizeB; congr 1; omega
    rw [h0]
    have HN := Lib.hid (refnum w 0 (by decide))
    generalize bs (numB 0) = S at *
    have HN2 : Hid (Calls Try.prog 62 #[.int .u64 0] w fun e w' => e = .returned (.string S) ∧ Below w.heap.size w w') := HN
    go_enter Try.func48, Try.ntmps48
    go_wp2_with (go_at_call 62; refine HN2.out.mono ?_; rintro e w2 ⟨rfl, hb⟩)
    go_ret
    exact ⟨rfl, hb⟩
  · obtain ⟨m, rfl⟩ : ∃ m : Nat, n = m := ⟨n.toNat, by omega⟩
    have h0 : sizeB (m : Int) = numB m := by unfold sizeB; congr 1; omega
    rw [h0]
    have HN := Lib.hid (refnum w m (by omega))
    generalize bs (numB m) = S at *
    go_enter Try.func48, Try.ntmps48
    go_wp2_with (go_at_call 62; refine HN.out.mono ?_; rintro e w2 ⟨rfl, hb⟩)
    go_ret
    exact ⟨rfl, hb⟩

set_option maxRecDepth 100000 in
theorem refsign (w : World) (n : Int) (hn : fit64 n) :
    Calls Try.prog 77 #[.int .i64 n] w fun e w' => e = .returned (.string (bs (signB n))) ∧ Below w.heap.size w w' := by
  unfold fit64 at hn
  unfold signB
  by_cases h : n < 0
  · obtain ⟨u, hu⟩ : ∃ u : Nat, u = zig n := ⟨_, rfl⟩
    have hu2 : (u : Int) = -2 * n - 1 := by rw [hu]; unfold zig; rw [if_pos h]; omega
    rw [← hu]
    have HN := Lib.hid (refnum w u (by omega))
    clear hu
    generalize bs (numB u) = S at *
    obtain ⟨m, hm⟩ : ∃ m : Nat, n = -(m : Int) - 1 := ⟨(-n - 1).toNat, by omega⟩
    subst hm
    have hu3 : u = 2 * m + 1 := by omega
    subst hu3
    have HN2 : Hid (Calls Try.prog 62 #[.int .u64 (2 * (m : Int) + 1)] w fun e w' => e = .returned (.string S) ∧ Below w.heap.size w w') := by
      have := HN.out
      rw [Int.natCast_add, Int.natCast_mul] at this
      exact this
    have e1 : -(-(m : Int) - 1 + 1) = m := by omega
    clear hu2 HN
    go_enter Try.func77, Try.ntmps77
    go_wp2_with (go_at_call 62; refine HN2.out.mono ?_; rintro e w2 ⟨rfl, hb⟩)
    go_ret
    exact ⟨rfl, hb⟩
  · obtain ⟨m, rfl⟩ : ∃ m : Nat, n = m := ⟨n.toNat, by omega⟩
    have hz : zig (m : Int) = 2 * m := by unfold zig; rw [if_neg h]; omega
    rw [hz]
    have HN := Lib.hid (refnum w (2 * m) (by omega))
    generalize bs (numB (2 * m)) = S at *
    have HN2 : Hid (Calls Try.prog 62 #[.int .u64 (2 * (m : Int))] w fun e w' => e = .returned (.string S) ∧ Below w.heap.size w w') := by
      have := HN.out
      rw [Int.natCast_mul] at this
      exact this
    clear HN
    go_enter Try.func77, Try.ntmps77
    go_wp2_with (go_at_call 62; refine HN2.out.mono ?_; rintro e w2 ⟨rfl, hb⟩)
    go_ret
    exact ⟨rfl, hb⟩

set_option maxRecDepth 100000 in
theorem reftext (w : World) (s : ByteArray) (hs : s.size ≤ 1000000) :
    Calls Try.prog 78 #[.string s] w fun e w' => e = .returned (.string (bs (textB s))) ∧ Below w.heap.size w w' := by
  have HN := Lib.hid (refsize w s.size (by unfold fit64; omega))
  have h0 : sizeB (s.size : Int) = numB s.size := by unfold sizeB; congr 1; omega
  rw [h0] at HN
  have hcat : bs (numB s.size) ++ s = bs (textB s) := by
    have := bs_append (numB s.size) s.data.toList
    rw [bs_of] at this
    rw [this]; rfl
  have hl := be_len8 s.size (by omega)
  have hsum : (bs (numB s.size)).size + s.size ≤ 9223372036854775807 := by rw [bs_size]; omega
  clear h0 hl
  generalize bs (textB s) = R at *
  generalize bs (numB s.size) = S at *
  go_enter Try.func78, Try.ntmps78
  go_wp2_with (go_at_call 48; refine HN.out.mono ?_; rintro e w2 ⟨rfl, hb⟩)
  go_ret
  exact ⟨rfl, hb⟩
end Go.Proofs.Ytedcljahcedpjaa
/- Schemas: columns, indexes; what is alike. -/
namespace Go.Proofs.Ytedcljahcedpjaa
open Go.RowKit Go.Afx

structure ColV where
  name : ByteArray
  kind : Int
def ColV.cells (c : ColV) : List Value := [.string c.name, .int .i64 c.kind]
def ColV.agg (c : ColV) : Value := .agg #[.string c.name, .int .i64 c.kind]
structure IdxV where
  v : Value
  l : List Int
  unique : Bool
def IdxV.cells (x : IdxV) : List Value := [x.v, .bool x.unique]
def IdxV.agg (x : IdxV) : Value := .agg #[x.v, .bool x.unique]
def colCells (l : List ColV) : List Value := (l.map ColV.cells).flatten
def idxCells (l : List IdxV) : List Value := (l.map IdxV.cells).flatten
/-- Indexes that read, with their places. -/
def IdxAt (w : World) (B : Nat → Prop) (v : Value) (l : List IdxV) : Prop := Sl w B 2 v l.length (idxCells l) ∧ ∀ x ∈ l, Sl w B 1 x.v x.l.length (ints x.l)
theorem IdxAt.below {w w' : World} {B : Nat → Prop} {v : Value} {l : List IdxV} (h : IdxAt w B v l) (hb : Below w.heap.size w w') : IdxAt w' B v l := ⟨h.1.below hb, fun x hx => (h.2 x hx).below hb⟩

theorem cells2_at {α : Type} (f : α → List Value) (hf : ∀ a, (f a).length = 2) (l : List α) (k r : Nat) (hk : k < l.length) (hr : r < 2) : ((l.map f).flatten)[k * 2 + r]? = (f l[k])[r]? := by
  have hlen : ∀ c ∈ l.map f, c.length = 2 := by
    intro c hc
    obtain ⟨a, _, rfl⟩ := List.mem_map.1 hc
    exact hf a
  rw [flatten_get _ hlen k r hr, List.getElem?_map, List.getElem?_eq_getElem hk]
  rfl
theorem cells2_length {α : Type} (f : α → List Value) (hf : ∀ a, (f a).length = 2) (l : List α) : ((l.map f).flatten).length = l.length * 2 := by
  have hlen : ∀ c ∈ l.map f, c.length = 2 := by
    intro c hc
    obtain ⟨a, _, rfl⟩ := List.mem_map.1 hc
    exact hf a
  rw [flatten_length _ hlen, List.length_map]
theorem sl_two {α : Type} {f : α → List Value} (hf : ∀ a, (f a).length = 2) {w : World} {B : Nat → Prop} {v : Value} {l : List α} (h : Sl w B 2 v l.length ((l.map f).flatten)) {k : Nat} (hk : k < l.length) :
    ∃ g off cap, v = .slice (some ⟨g, off, none⟩) l.length cap ∧ g < w.heap.size ∧ w.cell? ⟨g, off + k * 2, none⟩ = (f l[k])[0]? ∧ w.cell? ⟨g, off + k * 2 + 1, none⟩ = (f l[k])[1]? := by
  obtain ⟨g, off, cap, hv, _, _, hgb, hglt, hc⟩ := h.place (by omega)
  have get : ∀ r, r < 2 → w.cell? ⟨g, off + (k * 2 + r), none⟩ = (f l[k])[r]? := fun r hr => by
    rw [hc _ (by rw [cells2_length f hf]; omega), cells2_at f hf l k r hk hr]
  exact ⟨g, off, cap, hv, hglt, get 0 (by omega), get 1 (by omega)⟩
theorem sl_col {w : World} {B : Nat → Prop} {v : Value} {l : List ColV} (h : Sl w B 2 v l.length (colCells l)) {k : Nat} (hk : k < l.length) :
    ∃ g off cap, v = .slice (some ⟨g, off, none⟩) l.length cap ∧ g < w.heap.size ∧ w.cell? ⟨g, off + k * 2, none⟩ = some (.string l[k].name) ∧ w.cell? ⟨g, off + k * 2 + 1, none⟩ = some (.int .i64 l[k].kind) :=
  sl_two (f := ColV.cells) (fun _ => rfl) h hk
theorem sl_idx {w : World} {B : Nat → Prop} {v : Value} {l : List IdxV} (h : Sl w B 2 v l.length (idxCells l)) {k : Nat} (hk : k < l.length) :
    ∃ g off cap, v = .slice (some ⟨g, off, none⟩) l.length cap ∧ g < w.heap.size ∧ w.cell? ⟨g, off + k * 2, none⟩ = some l[k].v ∧ w.cell? ⟨g, off + k * 2 + 1, none⟩ = some (.bool l[k].unique) :=
  sl_two (f := IdxV.cells) (fun _ => rfl) h hk
theorem sl_int {w : World} {B : Nat → Prop} {v : Value} {l : List Int} (h : Sl w B 1 v l.length (ints l)) {k : Nat} (hk : k < l.length) :
    ∃ g off cap, v = .slice (some ⟨g, off, none⟩) l.length cap ∧ g < w.heap.size ∧ w.cell? ⟨g, off + k, none⟩ = some (.int .i64 l[k]) := by
  obtain ⟨g, off, cap, hv, _, _, hgb, hglt, hc⟩ := h.place (by omega)
  exact ⟨g, off, cap, hv, hglt, by rw [hc k (by simpa [ints] using hk)]; simp [ints, hk]⟩

/-- No two alike. -/
def unlikeGo {α : Type} (same : α → α → Bool) : List α → List α → Bool
  | _, [] => true
  | seen, a :: t => seen.all (fun b => !same a b) && unlikeGo same (seen ++ [a]) t
def unlikeB {α : Type} (same : α → α → Bool) (l : List α) : Bool := unlikeGo same [] l
theorem unlike_step {α : Type} (same : α → α → Bool) (l : List α) (k : Nat) (h : k < l.length) :
    ((l.take k).all (fun b => !same l[k] b) = true → unlikeGo same (l.take (k + 1)) (l.drop (k + 1)) = unlikeGo same (l.take k) (l.drop k)) ∧
    ((l.take k).all (fun b => !same l[k] b) = false → unlikeGo same (l.take k) (l.drop k) = false) := by
  rw [List.drop_eq_getElem_cons h, ← List.take_append_getElem h]
  unfold unlikeGo
  refine ⟨fun ha => ?_, fun ha => ?_⟩
  · rw [ha, Bool.true_and]
    cases l.drop (k + 1) <;> rfl
  · rw [ha, Bool.false_and]
theorem all_next {α : Type} (f : α → Bool) (l : List α) (j : Nat) (h : j < l.length) (ha : (l.take j).all f = true) : f l[j] = true → (l.take (j + 1)).all f = true := fun hf => by
  rw [← List.take_append_getElem h, List.all_append, ha]
  simp [hf]
theorem all_false {α : Type} (f : α → Bool) (l : List α) (j k : Nat) (hjk : j < k) (h : j < l.length) : f l[j] = false → (l.take k).all f = false := fun hf => by
  rw [List.all_eq_false]
  refine ⟨l[j], ?_, by simp [hf]⟩
  rw [List.mem_iff_getElem]
  exact ⟨j, by rw [List.length_take]; omega, by rw [List.getElem_take]⟩

def sameCol (a b : ColV) : Bool := a.name.toList == b.name.toList
def sameIdx (a b : IdxV) : Bool := a.l == b.l
def sameInt (a b : Int) : Bool := a == b

theorem take_eq_next {α : Type} [DecidableEq α] (l l' : List α) (k : Nat) (h : k < l.length) (h' : k < l'.length) (he : l.take k = l'.take k) (hk : l[k] = l'[k]) : l.take (k + 1) = l'.take (k + 1) := by
  rw [← List.take_append_getElem h, ← List.take_append_getElem h', he, hk]
end Go.Proofs.Ytedcljahcedpjaa
/- Windows: what one is; schema.Named of three texts; window.Right; the law's right. -/
namespace Go.Proofs.Ytedcljahcedpjaa
open Go.RowKit Go.Afx

structure WinV where
  name : ByteArray
  on : ByteArray
  owner : ByteArray
  batches : Bool
  size : Int
  slide : Int
def WinV.cells (v : WinV) : List Value := [.string v.name, .string v.on, .string v.owner, .bool v.batches, .int .i64 v.size, .int .i64 v.slide]
def WinV.agg (v : WinV) : Value := .agg #[.string v.name, .string v.on, .string v.owner, .bool v.batches, .int .i64 v.size, .int .i64 v.slide]
structure WinV.small (v : WinV) : Prop where
  n1 : v.name.size ≤ 100
  n2 : v.on.size ≤ 100
  n3 : v.owner.size ≤ 100
def rightW (v : WinV) : Bool := namedB v.name && (namedB v.on && (namedB v.owner && (decide (1 ≤ v.size) && (decide (v.size ≤ 100) && (decide (1 ≤ v.slide) && decide (v.slide ≤ v.size))))))
theorem win_cells {w : World} {b : Nat} {t : TypeId} {v0 v1 v2 v3 v4 v5 : Value} {r : List Value} (h : Blk w b t (v0 :: v1 :: v2 :: v3 :: v4 :: v5 :: r)) :
    w.cell? ⟨b, 0, none⟩ = some v0 ∧ w.cell? ⟨b, 1, none⟩ = some v1 ∧ w.cell? ⟨b, 2, none⟩ = some v2 ∧ w.cell? ⟨b, 3, none⟩ = some v3 ∧ w.cell? ⟨b, 4, none⟩ = some v4 ∧ w.cell? ⟨b, 5, none⟩ = some v5 :=
  ⟨h.cell 0, h.cell 1, h.cell 2, h.cell 3, h.cell 4, h.cell 5⟩
def strV (l : List ByteArray) : List Value := l.map Value.string
theorem strV_length (l : List ByteArray) : (strV l).length = l.length := by simp [strV]
set_option maxRecDepth 100000 in
theorem wnamed_list (w : World) (B : Nat → Prop) (v : Value) (l : List ByteArray) (h : Sl w B 1 v l.length (strV l)) (hl : ∀ s ∈ l, s.size ≤ 1000000) :
    Calls Try.prog 26 #[v] w fun e w' => e = .returned (.bool (l.all namedB)) ∧ Below w.heap.size w w' := by
  obtain ⟨p, cap, rfl, hc1, hc2⟩ := h.form
  have H := Lib.hid h
  have HL := Lib.hid hl
  clear h hl
  obtain ⟨out, hout⟩ : ∃ out, l.all namedB = out := ⟨_, rfl⟩
  rw [hout]
  have HO := Lib.hid hout
  clear hout
  go_enter Try.func26, Try.ntmps26
  go_wp2
  go_loopw [7] (fun i wr => ∃ k : Nat, i = .int .i64 k ∧ k ≤ l.length ∧ (l.take k).all namedB = true ∧ Below w.heap.size w wr) (fun i _ => l.length - (intOf i).toNat)
  case atStart => exact ⟨0, rfl, Nat.zero_le _, rfl, Below.refl _ _⟩
  case round =>
    obtain ⟨k, rfl, hk, hall, hb⟩ := hrel
    have HB := Lib.hid hb
    have HA := Lib.hid hall
    clear hall
    by_cases hka : k < l.length
    · obtain ⟨g, off, cap1, hv, _, _, hgb, hglt, hc⟩ := (H.out.below hb).place (by omega)
      cases hv
      have e0 : wr.cell? ⟨g, off + k, none⟩ = some (.string l[k]) := by rw [hc k (by rw [strV_length]; exact hka)]; simp [strV, hka]
      have HX := Lib.hid (all_next namedB l k hka HA.out)
      have HY := Lib.hid (all_false namedB l k (k + 1) (by omega) hka)
      have hn := named_any wr l[k] (by have := HL.out l[k] (List.getElem_mem hka); unfold maxLen; omega)
      have HN := Lib.hid hn
      have HZ : Hid (namedB l[k] = false → l.all namedB = false) := fun h => by
        rw [List.all_eq_false]
        exact ⟨l[k], List.getElem_mem hka, by simp [h]⟩
      clear hb hc hn HY
      generalize l[k] = x at *
      cases hx : namedB x
      · rw [hx] at HN
        have HF := Lib.hid (HZ.out hx)
        clear HX HZ hx
        go_wp2_with fail
        refine HN.out.mono ?_
        rintro e w3 ⟨rfl, hb3⟩
        have HB3 := Lib.hid (HB.out.trans (hb3.mono HB.out.size))
        clear hb3
        go_wp2
        go_ret
        exact ⟨by rw [← HO.out, HF.out]; rfl, HB3.out⟩
      · rw [hx] at HN
        have HF := Lib.hid (HX.out hx)
        clear HX HZ hx
        go_wp2_with fail
        refine HN.out.mono ?_
        rintro e w3 ⟨rfl, hb3⟩
        have HB3 := Lib.hid (HB.out.trans (hb3.mono HB.out.size))
        clear hb3
        go_wp2
        exact ⟨⟨k + 1, by go_num, by omega, HF.out, HB3.out⟩, by (simp [intOf]) <;> omega⟩
    · obtain rfl : k = l.length := by omega
      have hz : out = true := by rw [← HO.out, ← HA.out, List.take_length]
      have HZ := Lib.hid hz
      clear hb hz
      go_wp2
      go_ret
      exact ⟨by rw [HZ.out]; rfl, HB.out⟩
theorem three_sl (w : World) (a b c : ByteArray) : Sl (w.alloc (.cells #[.string a, .string b, .string c] 9)) (fun _ => True) 1 (.slice (some ⟨w.heap.size, 0, none⟩) 3 3) 3 (strV [a, b, c]) :=
  ⟨rfl, fun u hu => by simp [strV] at hu; rcases hu with rfl | rfl | rfl <;> rfl, .inr ⟨w.heap.size, 0, 3, rfl, Nat.le_refl _, by simp [maxLen], trivial, (Blk.new w 9 _).lt, fun j hj => by rw [Nat.zero_add]; exact (Blk.new w 9 (strV [a, b, c])).cell j⟩⟩
set_option maxRecDepth 100000 in
set_option maxHeartbeats 1000000 in
theorem wright_any (w : World) (v : WinV) (hs : v.small) :
    Calls Try.prog 9 #[v.agg] w fun e w' => e = .returned (.bool (rightW v)) ∧ Below w.heap.size w w' := by
  obtain ⟨nm, on, ow, bt, sz, sl⟩ := v
  obtain ⟨n1, n2, n3⟩ := hs
  simp only at n1 n2 n3
  unfold WinV.agg
  simp only
  obtain ⟨w1, hw1⟩ : ∃ w1, w.alloc (.cells #[.string nm, .string on, .string ow, .bool bt, .int .i64 sz, .int .i64 sl] 23) = w1 := ⟨_, rfl⟩
  have k1 : Blk w1 w.heap.size 23 [.string nm, .string on, .string ow, .bool bt, .int .i64 sz, .int .i64 sl] := hw1 ▸ Blk.new w _ _
  have b1 : Below w.heap.size w w1 := hw1 ▸ (Below.refl _ _).alloc (Nat.le_refl _) _
  obtain ⟨c0, c1, c2, c3, c4, c5⟩ := win_cells k1
  have b2 : Below w1.heap.size w1 (w1.alloc (.cells #[.string nm, .string on, .string ow] 9)) := (Below.refl _ _).alloc (Nat.le_refl _) _
  have HN := Lib.hid (wnamed_list _ _ _ [nm, on, ow] (three_sl w1 nm on ow) (by intro s hs; simp at hs; rcases hs with rfl | rfl | rfl <;> omega))
  have HK := Lib.hid (k1.below b2)
  have HB := Lib.hid (b1.trans (b2.mono b1.size))
  have HE : Hid (rightW ⟨nm, on, ow, bt, sz, sl⟩ = ((List.all [nm, on, ow] namedB) && (decide (1 ≤ sz) && (decide (sz ≤ 100) && (decide (1 ≤ sl) && decide (sl ≤ sz)))))) := by
    show _ = _
    unfold rightW
    simp [Bool.and_assoc]
  generalize rightW ⟨nm, on, ow, bt, sz, sl⟩ = out at *
  generalize List.all [nm, on, ow] namedB = nb at *
  clear k1 b1 b2 n1 n2 n3
  cases nb
  · go_enter Try.func9, Try.ntmps9
    go_wp2_with (go_at_call 26; refine HN.out.mono ?_; clear HN hw1; rintro e w2 ⟨rfl, hb2⟩)
    go_ret
    exact ⟨by rw [HE.out]; rfl, HB.out.trans (hb2.mono HB.out.size)⟩
  · have hd1 : decide (1 ≤ sz) = true ∨ decide (1 ≤ sz) = false := by cases decide (1 ≤ sz) <;> simp
    have hd2 : decide (sz ≤ 100) = true ∨ decide (sz ≤ 100) = false := by cases decide (sz ≤ 100) <;> simp
    have hd3 : decide (1 ≤ sl) = true ∨ decide (1 ≤ sl) = false := by cases decide (1 ≤ sl) <;> simp
    have hd4 : decide (sl ≤ sz) = true ∨ decide (sl ≤ sz) = false := by cases decide (sl ≤ sz) <;> simp
    rcases hd1 with h1 | h1
    · rcases hd2 with h2 | h2
      · rcases hd3 with h3 | h3
        · rcases hd4 with h4 | h4
          · rw [h1, h2, h3, h4] at HE
            go_enter Try.func9, Try.ntmps9
            go_wp2_with (go_at_call 26; refine HN.out.mono ?_; clear HN hw1; rintro e w2 ⟨rfl, hb2⟩; have k2 := HK.out.below hb2; have z4 : w2.cell? ⟨w.heap.size, 4, none⟩ = some (.int .i64 sz) := k2.cell 4; have z5 : w2.cell? ⟨w.heap.size, 5, none⟩ = some (.int .i64 sl) := k2.cell 5; have HB2 := Lib.hid (HB.out.trans (hb2.mono HB.out.size)); clear k2 hb2)
            go_ret
            exact ⟨by rw [HE.out]; simp, HB2.out⟩
          · rw [h1, h2, h3, h4] at HE
            go_enter Try.func9, Try.ntmps9
            go_wp2_with (go_at_call 26; refine HN.out.mono ?_; clear HN hw1; rintro e w2 ⟨rfl, hb2⟩; have k2 := HK.out.below hb2; have z4 : w2.cell? ⟨w.heap.size, 4, none⟩ = some (.int .i64 sz) := k2.cell 4; have z5 : w2.cell? ⟨w.heap.size, 5, none⟩ = some (.int .i64 sl) := k2.cell 5; have HB2 := Lib.hid (HB.out.trans (hb2.mono HB.out.size)); clear k2 hb2)
            go_ret
            exact ⟨by rw [HE.out]; simp, HB2.out⟩
        · rw [h1, h2, h3] at HE
          go_enter Try.func9, Try.ntmps9
          go_wp2_with (go_at_call 26; refine HN.out.mono ?_; clear HN hw1; rintro e w2 ⟨rfl, hb2⟩; have k2 := HK.out.below hb2; have z4 : w2.cell? ⟨w.heap.size, 4, none⟩ = some (.int .i64 sz) := k2.cell 4; have z5 : w2.cell? ⟨w.heap.size, 5, none⟩ = some (.int .i64 sl) := k2.cell 5; have HB2 := Lib.hid (HB.out.trans (hb2.mono HB.out.size)); clear k2 hb2)
          go_ret
          exact ⟨by rw [HE.out]; simp, HB2.out⟩
      · rw [h1, h2] at HE
        go_enter Try.func9, Try.ntmps9
        go_wp2_with (go_at_call 26; refine HN.out.mono ?_; clear HN hw1; rintro e w2 ⟨rfl, hb2⟩; have k2 := HK.out.below hb2; have z4 : w2.cell? ⟨w.heap.size, 4, none⟩ = some (.int .i64 sz) := k2.cell 4; have z5 : w2.cell? ⟨w.heap.size, 5, none⟩ = some (.int .i64 sl) := k2.cell 5; have HB2 := Lib.hid (HB.out.trans (hb2.mono HB.out.size)); clear k2 hb2)
        go_ret
        exact ⟨by rw [HE.out]; simp, HB2.out⟩
    · rw [h1] at HE
      go_enter Try.func9, Try.ntmps9
      go_wp2_with (go_at_call 26; refine HN.out.mono ?_; clear HN hw1; rintro e w2 ⟨rfl, hb2⟩; have k2 := HK.out.below hb2; have z4 : w2.cell? ⟨w.heap.size, 4, none⟩ = some (.int .i64 sz) := k2.cell 4; have z5 : w2.cell? ⟨w.heap.size, 5, none⟩ = some (.int .i64 sl) := k2.cell 5; have HB2 := Lib.hid (HB.out.trans (hb2.mono HB.out.size)); clear k2 hb2)
      go_ret
      exact ⟨by rw [HE.out]; simp, HB2.out⟩
end Go.Proofs.Ytedcljahcedpjaa
/- Windows: units; plain: which are seen, which are staged. -/
namespace Go.Proofs.Ytedcljahcedpjaa
open Go.RowKit Go.Afx

abbrev UnitA := List (List AV)
/-- How many units have been taken into sight. -/
def slidK (slide n : Nat) : Nat := n / slide * slide
def seenW (size slide : Nat) (all : List UnitA) : List UnitA := (all.take (slidK slide all.length)).drop (slidK slide all.length - size)
def stagW (slide : Nat) (all : List UnitA) : List UnitA := all.drop (slidK slide all.length)
theorem slidK_le (slide n : Nat) : slidK slide n ≤ n := Nat.div_mul_le_self n slide
theorem slidK_lt {slide : Nat} (h : 0 < slide) (n : Nat) : n < slidK slide n + slide := by
  have := Nat.lt_div_mul_add h (a := n)
  unfold slidK
  omega
theorem div_of {slide n q : Nat} (h : 0 < slide) (h1 : q * slide ≤ n) (h2 : n < q * slide + slide) : n / slide = q := by
  rw [Nat.div_eq_iff h]
  constructor
  · omega
  · rw [show q * slide + slide - 1 = q * slide + slide - 1 from rfl]; omega
theorem stagW_len (slide : Nat) (all : List UnitA) : (stagW slide all).length = all.length - slidK slide all.length := by
  unfold stagW; rw [List.length_drop]
theorem seenW_len (size slide : Nat) (all : List UnitA) : (seenW size slide all).length = slidK slide all.length - (slidK slide all.length - size) := by
  unfold seenW
  rw [List.length_drop, List.length_take, Nat.min_eq_left (slidK_le _ _)]
theorem come_no {size slide : Nat} {all : List UnitA} (hs : 0 < slide) (h : (stagW slide all).length + 1 < slide) (u : UnitA) :
    seenW size slide (all ++ [u]) = seenW size slide all ∧ stagW slide (all ++ [u]) = stagW slide all ++ [u] ∧ (all.length + 1) / slide = all.length / slide := by
  have hle := slidK_le slide all.length
  rw [stagW_len] at h
  have hq : (all.length + 1) / slide = all.length / slide := div_of hs (by unfold slidK at hle; omega) (by unfold slidK at h hle; omega)
  have hk : slidK slide (all ++ [u]).length = slidK slide all.length := by
    unfold slidK
    rw [List.length_append, List.length_singleton, hq]
  refine ⟨?_, ?_, hq⟩
  · unfold seenW
    rw [hk, List.take_append_of_le_length hle]
  · unfold stagW
    rw [hk, List.drop_append_of_le_length hle]
theorem come_yes {size slide : Nat} {all : List UnitA} (hs : 0 < slide) (h : ¬ (stagW slide all).length + 1 < slide) (u : UnitA) :
    seenW size slide (all ++ [u]) = (seenW size slide all ++ (stagW slide all ++ [u])).drop ((seenW size slide all ++ (stagW slide all ++ [u])).length - size) ∧ stagW slide (all ++ [u]) = [] ∧ (all.length + 1) / slide = all.length / slide + 1 := by
  have hle := slidK_le slide all.length
  have hlt := slidK_lt hs all.length
  rw [stagW_len] at h
  have hn : all.length + 1 = slidK slide all.length + slide := by omega
  have hq : (all.length + 1) / slide = all.length / slide + 1 := by
    rw [hn]
    unfold slidK
    rw [Nat.add_div_right _ hs, Nat.mul_div_cancel _ hs]
  have hk : slidK slide (all ++ [u]).length = all.length + 1 := by
    unfold slidK
    rw [List.length_append, List.length_singleton, hq, Nat.add_mul, Nat.one_mul]
    unfold slidK at hn
    omega
  refine ⟨?_, ?_, hq⟩
  · have hlen : (seenW size slide all ++ (stagW slide all ++ [u])).length = slidK slide all.length - (slidK slide all.length - size) + slide := by
      rw [List.length_append, seenW_len, List.length_append, stagW_len, List.length_singleton]
      omega
    rw [hlen]
    have hall : seenW size slide all ++ (stagW slide all ++ [u]) = (all ++ [u]).drop (slidK slide all.length - size) := by
      unfold seenW stagW
      rw [← List.append_assoc]
      have h1 : (all.take (slidK slide all.length)).drop (slidK slide all.length - size) ++ all.drop (slidK slide all.length) = all.drop (slidK slide all.length - size) := by
        have h2 := List.take_append_drop (slidK slide all.length) all
        have h3 : all.drop (slidK slide all.length - size) = (all.take (slidK slide all.length) ++ all.drop (slidK slide all.length)).drop (slidK slide all.length - size) := by rw [h2]
        rw [h3, List.drop_append_of_le_length (by rw [List.length_take]; omega)]
      rw [h1, List.drop_append_of_le_length (by omega)]
    rw [hall, List.drop_drop]
    unfold seenW
    rw [hk, List.take_of_length_le (by simp)]
    congr 1
    omega
  · unfold stagW
    rw [hk, List.drop_of_length_le (by simp)]

structure UnitV where
  v : Value
  rows : List RowV
def UnitV.abs (u : UnitV) : UnitA := u.rows.map RowV.l
def unitVals (us : List UnitV) : List Value := us.map UnitV.v
theorem unitVals_append (a b : List UnitV) : unitVals (a ++ b) = unitVals a ++ unitVals b := by simp [unitVals]
theorem unitVals_length (a : List UnitV) : (unitVals a).length = a.length := by simp [unitVals]
/-- Units in memory. -/
def UnitsAt (w : World) (B : Nat → Prop) (v : Value) (us : List UnitV) : Prop :=
  Sl w B 1 v us.length (unitVals us) ∧ ∀ u ∈ us, RowsAt w B u.v u.rows
theorem RowsAt.mono {w w' : World} {B B' : Nat → Prop} {v : Value} {rows : List RowV} (h : RowsAt w B v rows) (hs : w.heap.size ≤ w'.heap.size) (hb : ∀ k, B k → k < w.heap.size → w'.heap[k]? = w.heap[k]?) (hB : ∀ k, B k → k < w.heap.size → B' k) : RowsAt w' B' v rows :=
  ⟨h.1.mono hs hb hB, fun r hr => (h.2 r hr).mono hs hb hB⟩
theorem UnitsAt.mono {w w' : World} {B B' : Nat → Prop} {v : Value} {us : List UnitV} (h : UnitsAt w B v us) (hs : w.heap.size ≤ w'.heap.size) (hb : ∀ k, B k → k < w.heap.size → w'.heap[k]? = w.heap[k]?) (hB : ∀ k, B k → k < w.heap.size → B' k) : UnitsAt w' B' v us :=
  ⟨h.1.mono hs hb hB, fun u hu => (h.2 u hu).mono hs hb hB⟩
theorem UnitsAt.only {w w' : World} {S B : Nat → Prop} {v : Value} {us : List UnitV} (h : UnitsAt w B v us) (ho : Only S w w') (hd : ∀ k, B k → ¬ S k) : UnitsAt w' B v us :=
  h.mono ho.size (fun k hk hl => ho.block k hl (hd k hk)) (fun _ hk _ => hk)
theorem UnitsAt.below {w w' : World} {B : Nat → Prop} {v : Value} {us : List UnitV} (h : UnitsAt w B v us) (hb : Below w.heap.size w w') : UnitsAt w' B v us :=
  h.mono hb.size (fun k _ hl => hb.block k hl) (fun _ hk _ => hk)
theorem UnitsAt.at {w : World} {B : Nat → Prop} {v : Value} {us : List UnitV} (h : UnitsAt w B v us) {k : Nat} (hk : k < us.length) :
    ∃ g off cap, v = .slice (some ⟨g, off, none⟩) us.length cap ∧ w.cell? ⟨g, off + k, none⟩ = some us[k].v := by
  obtain ⟨g, off, cap, hv, _, _, _, _, hc⟩ := h.1.place (by omega)
  exact ⟨g, off, cap, hv, by rw [hc k (by rw [unitVals_length]; exact hk)]; simp [unitVals, hk]⟩
theorem UnitsAt.nil (w : World) (B : Nat → Prop) : UnitsAt w B (.slice none 0 0) [] := ⟨⟨by simp [unitVals], Ones.nil, .inl ⟨none, 0, rfl, rfl, Nat.zero_le _, fun _ => rfl⟩⟩, by simp⟩
/-- The same, and what they hold. -/
def UnitsIs (w : World) (B : Nat → Prop) (v : Value) (l : List UnitA) : Prop := ∃ us, us.map UnitV.abs = l ∧ UnitsAt w B v us
theorem UnitsIs.mono {w w' : World} {B B' : Nat → Prop} {v : Value} {l : List UnitA} (h : UnitsIs w B v l) (hs : w.heap.size ≤ w'.heap.size) (hb : ∀ k, B k → k < w.heap.size → w'.heap[k]? = w.heap[k]?) (hB : ∀ k, B k → k < w.heap.size → B' k) : UnitsIs w' B' v l := by
  obtain ⟨us, h1, h2⟩ := h
  exact ⟨us, h1, h2.mono hs hb hB⟩
theorem UnitsIs.only {w w' : World} {S B : Nat → Prop} {v : Value} {l : List UnitA} (h : UnitsIs w B v l) (ho : Only S w w') (hd : ∀ k, B k → ¬ S k) : UnitsIs w' B v l :=
  h.mono ho.size (fun k hk hl => ho.block k hl (hd k hk)) (fun _ hk _ => hk)
theorem UnitsIs.below {w w' : World} {B : Nat → Prop} {v : Value} {l : List UnitA} (h : UnitsIs w B v l) (hb : Below w.heap.size w w') : UnitsIs w' B v l :=
  h.mono hb.size (fun k _ hl => hb.block k hl) (fun _ hk _ => hk)
/-- A window in memory: what came to it decides what it has. -/
def IsWin (w : World) (b : Nat) (F : Nat → Prop) (v : WinV) (cl : List ColV) (all : List UnitA) : Prop :=
  ∃ sv tv cv, Blk w b 66 [.string v.name, .string v.on, .string v.owner, .bool v.batches, .int .i64 v.size, .int .i64 v.slide, sv, tv, cv] ∧
    UnitsIs w F sv (seenW v.size.toNat v.slide.toNat all) ∧ UnitsIs w F tv (stagW v.slide.toNat all) ∧ Sl w F 2 cv cl.length (colCells cl) ∧ ¬ F b
theorem IsWin.lt {w : World} {b : Nat} {F : Nat → Prop} {v : WinV} {cl : List ColV} {all : List UnitA} (h : IsWin w b F v cl all) : b < w.heap.size := by
  obtain ⟨sv, tv, cv, hb, _⟩ := h
  exact hb.lt
theorem IsWin.below {w w' : World} {b : Nat} {F : Nat → Prop} {v : WinV} {cl : List ColV} {all : List UnitA} (h : IsWin w b F v cl all) (hb : Below w.heap.size w w') : IsWin w' b F v cl all := by
  obtain ⟨sv, tv, cv, h1, h2, h3, h4, h5⟩ := h
  exact ⟨sv, tv, cv, h1.below hb, h2.below hb, h3.below hb, h4.below hb, h5⟩
theorem IsWin.only {w w' : World} {b : Nat} {F S : Nat → Prop} {v : WinV} {cl : List ColV} {all : List UnitA} (h : IsWin w b F v cl all) (ho : Only S w w') (hS : ∀ k, F k → ¬ S k) (hb : ¬ S b) : IsWin w' b F v cl all := by
  obtain ⟨sv, tv, cv, h1, h2, h3, h4, h5⟩ := h
  exact ⟨sv, tv, cv, h1.only ho hb, h2.only ho hS, h3.only ho hS, h4.only ho hS, h5⟩
theorem rightW_bounds {v : WinV} (h : rightW v = true) : 1 ≤ v.size ∧ v.size ≤ 100 ∧ 1 ≤ v.slide ∧ v.slide ≤ v.size := by
  unfold rightW at h
  simp only [Bool.and_eq_true, decide_eq_true_eq] at h
  exact h.2.2.2
end Go.Proofs.Ytedcljahcedpjaa
/- Windows: slices.Clone on units; come. -/
namespace Go.Afx
open Go Go.RowKit
@[go_sem] theorem ite_lt_maxW (x y : Int) : (if x < y then y else x) = max x y := by omega
theorem agree_blkW {w w' : World} {b : Nat} {t : TypeId} {cs : List Value} (h : Blk w b t cs) (h' : Blk w' b t cs) : Agree (fun q => q = b) w w' := fun q o hq => by
  subst hq
  exact World.cell?_of_block (w := w) (h'.trans h.symm)
end Go.Afx
namespace Go.Proofs.Ytedcljahcedpjaa
open Go.RowKit Go.Afx

theorem elemUnit : Elem Try.prog 62 78 1 24 (.slice none 0 0) :=
  ⟨Try.underlying62, by kernel_rfl, rfl, by omega, by intro u hu; simp [Value.cells] at hu; subst hu; rfl⟩
@[go_sem] theorem eqlNilUnit (w : World) (a : Option Addr) (n c : Nat) : (binOp .eql 62 (.slice a n c) (.slice none 0 0)).run Try.prog w = .ok (.bool a.isNone) w := Lib.run_eql_slice_nil w _ _ a n c 0 0 Try.underlying62
set_option maxRecDepth 100000 in
theorem clone_unit (w : World) (B : Nat → Prop) (v : Value) (n : Nat) (cs : List Value) (h : Sl w B 1 v n cs) (hn : n ≤ 1000000000) :
    Calls Try.prog 47 #[v] w fun e w' => ∃ v', e = .returned v' ∧ Own w' 78 1 v' n cs ∧ Below w.heap.size w w' ∧ (∀ k, v'.ownBlock = some k → w.heap.size ≤ k) := by
  obtain ⟨p, cap, rfl, _, _⟩ := h.form
  cases p with
  | none =>
    have hn0 : n = 0 := by
      rcases h.2.2 with ⟨_, _, _, h0, _⟩ | ⟨_, _, _, h0, _⟩
      · exact h0
      · cases h0
    subst hn0
    have hc : cs = [] := List.eq_nil_of_length_eq_zero (by simpa using h.1)
    subst hc
    go_enter Try.func47, Try.ntmps47
    go_wp2
    go_ret
    exact ⟨_, rfl, Own.nil _ _ _, Below.refl _ _, by simp [Value.ownBlock]⟩
  | some a =>
    have hs := h.alloc (.cells #[] 78)
    have ho : Own (w.alloc (.cells #[] 78)) 78 1 (.slice (some ⟨w.heap.size, 0, none⟩) 0 0) 0 [] := Own.made w 78 1 [] [] 0 0 rfl Ones.nil (Nat.le_refl _) (by simp [maxLen]) (by simp)
    clear h
    go_enter Try.func47, Try.ntmps47
    go_wp2_with (at_builtin; refine wpList_app rfl _ _ rfl elemUnit (by rfl) ho (by rfl) hs (by unfold maxLen; omega) (by omega) ?_; intro v' w' h1 h2 h3 _ _)
    go_ret
    have hb : Below w.heap.size w w' := (((Below.refl w.heap.size w).alloc (Nat.le_refl _) _).trans (h2.below (B := w.heap.size) (by simp) (fun i hi => by have : w.heap.size = i := (by simpa [Value.ownBlock] using hi); omega)))
    refine ⟨v', rfl, by simpa using h1, hb, fun k hk => ?_⟩
    rw [hk] at h3
    have h7 : k = w.heap.size ∨ k = w.heap.size + 1 := by simpa [Value.ownBlock] using h3
    omega

/-- What come leaves. -/
def ComeOut (w : World) (b : Nat) (F : Nat → Prop) (v : WinV) (cl : List ColV) (all : List UnitA) (u : UnitA) (e : Ending) (w' : World) : Prop :=
  ∃ sb F', e = .returned (.bool sb) ∧ (all.length + 1) / v.slide.toNat = all.length / v.slide.toNat + (if sb then 1 else 0) ∧ IsWin w' b F' v cl (all ++ [u]) ∧ Only (fun k => k = b) w w' ∧ ∀ k, F' k → F k ∨ w.heap.size ≤ k
theorem unit_box (w : World) (u : Value) (hu : u.oneCell' = true) : Sl (w.alloc (.cells #[u] 78)) (fun _ => True) 1 (.slice (some ⟨w.heap.size, 0, none⟩) 1 1) 1 [u] :=
  ⟨rfl, Ones.cons hu Ones.nil, .inr ⟨w.heap.size, 0, 1, rfl, Nat.le_refl _, by simp [maxLen], trivial, (Blk.new w 78 [u]).lt, fun j _ => by rw [Nat.zero_add]; exact (Blk.new w 78 [u]).cell j⟩⟩
theorem own_formW {w : World} {e : TypeId} {sz : Nat} {v : Value} {n : Nat} {cs : List Value} (h : Own w e sz v n cs) : ∃ p cap, v = .slice p n cap ∧ n ≤ cap ∧ cap ≤ 9223372036854775807 :=
  (h.sl (B := fun _ => True) (fun _ _ => trivial)).form
theorem oneCell_slice (p : Option Addr) (n c : Nat) : (Value.slice p n c).oneCell' = true := rfl
set_option maxRecDepth 100000 in
set_option maxHeartbeats 2000000 in
theorem come_any (w : World) (b : Nat) (F : Nat → Prop) (v : WinV) (cl : List ColV) (all : List UnitA) (h : IsWin w b F v cl all) (hrt : 1 ≤ v.size ∧ v.size ≤ 100 ∧ 1 ≤ v.slide ∧ v.slide ≤ v.size) (uv : Value) (ur : List RowV) (hu : RowsAt w F uv ur) :
    Calls Try.prog 32 #[.pointer (some ⟨b, 0, none⟩), uv] w (ComeOut w b F v cl all (ur.map RowV.l)) := by
  obtain ⟨nm, on, ow, bt, sz, sl⟩ := v
  simp only at hrt
  obtain ⟨hz1, hz2, hl1, hl2⟩ := hrt
  obtain ⟨zn, rfl⟩ := Int.eq_ofNat_of_zero_le (show 0 ≤ sz by omega)
  obtain ⟨ln, rfl⟩ := Int.eq_ofNat_of_zero_le (show 0 ≤ sl by omega)
  obtain ⟨sv, tv, cv, hk, hs, ht, hc, hF⟩ := h
  simp only [Int.toNat_natCast] at hk hs ht
  have hkl := hk.lt
  have hslen := seenW_len zn ln all
  have htlen := stagW_len ln all
  have hK1 := slidK_le ln all.length
  have hK2 := slidK_lt (show 0 < ln by omega) all.length
  obtain ⟨us, hus, hsu⟩ := hs
  obtain ⟨ut, hut, htu⟩ := ht
  have hul : us.length = (seenW zn ln all).length := by rw [← hus, List.length_map]
  have htl : ut.length = (stagW ln all).length := by rw [← hut, List.length_map]
  have hul2 : us.length ≤ 100 := by omega
  have htl2 : ut.length ≤ 100 := by omega
  obtain ⟨pu, cu, rfl, _, _⟩ := hu.1.form
  have HSU := Lib.hid hsu
  have HTU := Lib.hid htu
  have HU := Lib.hid hu
  have HUS := Lib.hid hus
  have HUT := Lib.hid hut
  have HC := Lib.hid hc
  have HK := Lib.hid hk
  have HF := Lib.hid hF
  have k7 : w.cell? ⟨b, 7, none⟩ = some tv := hk.cell 7
  have HCL := Lib.hid (clone_unit w F tv ut.length _ htu.1 (by omega))
  obtain ⟨pt, ct, rfl, _, _⟩ := htu.1.form
  have HNO := Lib.hid (fun (h : ut.length + 1 < ln) => come_no (size := zn) (show 0 < ln by omega) (by rw [← htl]; exact h) (ur.map RowV.l))
  have HYES := Lib.hid (fun (h : ¬ ut.length + 1 < ln) => come_yes (size := zn) (all := all) (show 0 < ln by omega) (by rw [← htl]; exact h) (ur.map RowV.l))
  clear hsu htu hu hus hut hc hk hslen htlen hul htl hK1 hK2 hF
  go_enter Try.func32, Try.ntmps32
  go_wp2_with fail
  refine HCL.out.mono ?_
  clear HCL
  rintro e w1 ⟨v1, rfl, ho1, hb1, hn1⟩
  have hal : Below w1.heap.size w1 (w1.alloc (.cells #[.slice pu ur.length cu] 78)) := (Below.refl _ _).alloc (Nat.le_refl _) _
  have ho2 := ho1.below hal
  have hsb := unit_box w1 (.slice pu ur.length cu) rfl
  have HB1 := Lib.hid hb1
  have HN1 := Lib.hid hn1
  have HAL := Lib.hid hal
  have kb1 := HK.out.below (hb1.trans (hal.mono hb1.size))
  have HKB1 := Lib.hid kb1
  clear hb1 hn1 ho1 hal k7 kb1
  go_wp2_with (at_builtin; refine wpList_app rfl _ _ rfl elemUnit (by rfl) ho2 (by rfl) hsb (by unfold maxLen; omega) (by omega) ?_; intro v2 w3 g1 g2 g3 g4 g5; clear ho2 hsb; have kb3 := HKB1.out.only g2 (fun h => by have h1 := HN1.out b h; omega); have k37 : w3.cell? ⟨b, 7, none⟩ = some (.slice pt ut.length ct) := kb3.cell 7; have kf3 : ∀ i, w3.frozen? ⟨b, i, none⟩ = false := kb3.frozen; have hlt3 : b < w3.heap.size := kb3.lt; obtain ⟨p2, c2, hv2, hc21, hc22⟩ := own_formW g1; subst hv2; obtain ⟨w4, hw4⟩ : ∃ w4, w3.setCell ⟨b, 7, none⟩ (.slice p2 (ut.length + 1) c2) = w4 := ⟨_, rfl⟩; have G1 := Lib.hid g1; have G2 := Lib.hid g2; have G3 := Lib.hid g3; have KB3 := Lib.hid kb3; clear g1 g2 g3 g4 g5 kb3)
  have hb3 : Below w.heap.size w w3 := (HB1.out.trans (HAL.out.mono HB1.out.size)).trans (G2.out.below (Nat.le_trans HB1.out.size HAL.out.size) (fun q hq => HN1.out q hq))
  have hb34 : Only (fun q => q = b) w3 w4 := by rw [← hw4]; exact (Only.refl (fun q => q = b) w3).setCell (p := ⟨b, 7, none⟩) (fun _ => rfl) _
  have hon4 : Only (fun q => q = b) w w4 := (Only.of_none hb3).trans hb34 (fun q hq h => h)
  have hkb4 : Blk w4 b 66 [.string nm, .string on, .string ow, .bool bt, .int .i64 (zn : Int), .int .i64 (ln : Int), sv, .slice p2 (ut.length + 1) c2, cv] := by rw [← hw4]; exact KB3.out.set 7 _
  have hnb : ∀ q, (F q ∨ w.heap.size ≤ q) → q ≠ b := fun q hq e => by
    subst e
    rcases hq with h | h
    · exact HF.out h
    · omega
  -- what is staged now
  have hst4 : UnitsIs w4 (fun q => F q ∨ w.heap.size ≤ q) (.slice p2 (ut.length + 1) c2) (stagW ln all ++ [ur.map RowV.l]) := by
    refine ⟨ut ++ [⟨.slice pu ur.length cu, ur⟩], by rw [List.map_append, HUT.out]; rfl, ?_⟩
    have h3 : UnitsAt w3 (fun q => F q ∨ w.heap.size ≤ q) (.slice p2 (ut.length + 1) c2) (ut ++ [⟨.slice pu ur.length cu, ur⟩]) := by
      refine ⟨?_, fun x hx => ?_⟩
      · rw [List.length_append, unitVals_append]
        refine G1.out.sl fun q hq => .inr ?_
        rcases G3.out with h | h
        · rw [h] at hq; exact HN1.out q hq
        · rw [h] at hq
          have h1 : (w1.alloc (.cells #[.slice pu ur.length cu] 78)).heap.size = q := Option.some.inj hq
          have h2 := HAL.out.size
          have h3 := HB1.out.size
          omega
      · have h4 : RowsAt w F x.v x.rows := by
          rcases List.mem_append.1 hx with h | h
          · exact HTU.out.2 x h
          · rw [List.mem_singleton.1 h]; exact HU.out
        exact h4.mono hb3.size (fun q _ hl => hb3.block q hl) (fun q hq _ => .inl hq)
    exact h3.only hb34 (fun q hq h => hnb q hq h)
  have hss4 : UnitsAt w4 F sv us := HSU.out.only hon4 (fun q hq h => hnb q (.inl hq) h)
  have hcc4 : Sl w4 F 2 cv cl.length (colCells cl) := HC.out.only hon4 (fun q hq h => hnb q (.inl hq) h)
  have HST4 := Lib.hid hst4
  have HSS4 := Lib.hid hss4
  have HCC4 := Lib.hid hcc4
  have HON4 := Lib.hid hon4
  have HKB4 := Lib.hid hkb4
  have HNB := Lib.hid hnb
  have k45 : w4.cell? ⟨b, 5, none⟩ = some (.int .i64 (ln : Int)) := hkb4.cell 5
  have k47 : w4.cell? ⟨b, 7, none⟩ = some (.slice p2 (ut.length + 1) c2) := hkb4.cell 7
  have hlt4 : b < w4.heap.size := hkb4.lt
  clear hst4 hss4 hcc4 hon4 hkb4 hnb hb34 hb3 hw4 k37 kf3 hlt3 HKB1 KB3 G1 G2 G3 HB1 HN1 HAL HSU HTU HU HC HK
  by_cases hno : ut.length + 1 < ln
  · obtain ⟨n1, n2, n3⟩ := HNO.out hno
    have HN1 := Lib.hid n1
    have HN2 := Lib.hid n2
    have HN3 := Lib.hid n3
    clear n1 n2 n3 HNO HYES
    refine wp_region_lit_plan [] [(0, 0), (1, 0), (2, 0), (3, 0), (6, 0), (7, 0), (8, 0), (9, 0), (4, 1), (5, 0), (10, 1), (11, 0)] (fun _ => False) (by kernel_rfl) (by kernel_rfl) (fun c a d v w h => by cases d <;> exact h) ?_
    go_wp2_with (first
      | (refine plan_pure (v := _) (by rfl) (by rfl) (by rfl) (by intro _; go_simp; with_reducible rfl) ?_; simp only [List.setIfInBounds_toArray, List.set_cons_zero, List.set_cons_succ]; try go_bits) | (refine plan_read (v := _) (by rfl) (by rfl) (by rfl) (by go_simp; with_reducible rfl) ?_; simp only [List.setIfInBounds_toArray, List.set_cons_zero, List.set_cons_succ]; try go_bits) | (refine plan_readB (v := _) (by rfl) (by rfl) (by rfl) (by intro _ hag; unfold Agree at hag; go_simp; with_reducible rfl) ?_; simp only [List.setIfInBounds_toArray, List.set_cons_zero, List.set_cons_succ]; try go_bits) | (refine plan_skip0 (by rfl) (by rfl) (by rfl) ?_; simp only [List.setIfInBounds_toArray, List.set_cons_zero, List.set_cons_succ]; try go_bits) | (refine plan_skip1 (by rfl) (by rfl) (by rfl) ?_; simp only [List.setIfInBounds_toArray, List.set_cons_zero, List.set_cons_succ]; try go_bits) | (refine plan_skip2 (by rfl) (by rfl) (by rfl) ?_; simp only [List.setIfInBounds_toArray, List.set_cons_zero, List.set_cons_succ]; try go_bits) | (refine plan_skip4 (by rfl) (by rfl) (by rfl) ?_; simp only [List.setIfInBounds_toArray, List.set_cons_zero, List.set_cons_succ]; try go_bits) | (refine plan_any (by rfl) ?_) | (refine plan_keep (by rfl) ?_) | (refine plan_nil ?_) | (with_reducible refine And.intro (by first | assumption | exact Agree.refl _ _ | exact agree_drew _ _ | exact agree_alloc _ (by intro k hk; subst hk; first | omega | (simp; omega))) ?_) | (unfold Act.put; simp only [List.setIfInBounds_toArray, List.set_cons_zero, List.set_cons_succ]))
    go_ret
    refine ⟨false, fun q => F q ∨ w.heap.size ≤ q, rfl, by simp only [Int.toNat_natCast]; exact HN3.out, ⟨sv, _, cv, HKB4.out.drew, ?_, ?_, HCC4.out.mono (Nat.le_refl _) (fun _ _ _ => rfl) (fun q hq _ => .inl hq), fun h => HNB.out b h rfl⟩, HON4.out.drew, fun q hq => hq⟩
    · simp only [Int.toNat_natCast]
      rw [HN1.out]
      exact UnitsIs.mono ⟨us, HUS.out, HSS4.out⟩ (Nat.le_refl _) (fun _ _ _ => rfl) (fun q hq _ => .inl hq)
    · simp only [Int.toNat_natCast]
      rw [HN2.out]
      exact HST4.out
  · obtain ⟨n1, n2, n3⟩ := HYES.out hno
    have HN1 := Lib.hid n1
    have HN2 := Lib.hid n2
    have HN3 := Lib.hid n3
    clear n1 n2 n3 HNO HYES
    refine wp_region_lit_plan [] [(0, 0), (1, 0), (2, 0), (3, 0), (6, 0), (7, 0), (8, 0), (9, 0), (4, 1), (5, 0), (10, 1), (11, 0)] (fun _ => False) (by kernel_rfl) (by kernel_rfl) (fun c a d v w h => by cases d <;> exact h) ?_
    go_wp2_with (first
      | (refine plan_pure (v := _) (by rfl) (by rfl) (by rfl) (by intro _; go_simp; with_reducible rfl) ?_; simp only [List.setIfInBounds_toArray, List.set_cons_zero, List.set_cons_succ]; try go_bits) | (refine plan_read (v := _) (by rfl) (by rfl) (by rfl) (by go_simp; with_reducible rfl) ?_; simp only [List.setIfInBounds_toArray, List.set_cons_zero, List.set_cons_succ]; try go_bits) | (refine plan_readB (v := _) (by rfl) (by rfl) (by rfl) (by intro _ hag; unfold Agree at hag; go_simp; with_reducible rfl) ?_; simp only [List.setIfInBounds_toArray, List.set_cons_zero, List.set_cons_succ]; try go_bits) | (refine plan_skip0 (by rfl) (by rfl) (by rfl) ?_; simp only [List.setIfInBounds_toArray, List.set_cons_zero, List.set_cons_succ]; try go_bits) | (refine plan_skip1 (by rfl) (by rfl) (by rfl) ?_; simp only [List.setIfInBounds_toArray, List.set_cons_zero, List.set_cons_succ]; try go_bits) | (refine plan_skip2 (by rfl) (by rfl) (by rfl) ?_; simp only [List.setIfInBounds_toArray, List.set_cons_zero, List.set_cons_succ]; try go_bits) | (refine plan_skip4 (by rfl) (by rfl) (by rfl) ?_; simp only [List.setIfInBounds_toArray, List.set_cons_zero, List.set_cons_succ]; try go_bits) | (refine plan_any (by rfl) ?_) | (refine plan_keep (by rfl) ?_) | (refine plan_nil ?_) | (with_reducible refine And.intro (by first | assumption | exact Agree.refl _ _ | exact agree_drew _ _ | exact agree_alloc _ (by intro k hk; subst hk; first | omega | (simp; omega))) ?_) | (unfold Act.put; simp only [List.setIfInBounds_toArray, List.set_cons_zero, List.set_cons_succ]))
    have k46 : w4.drew.cell? ⟨b, 6, none⟩ = some sv := HKB4.out.cell 6
    have k47d : w4.drew.cell? ⟨b, 7, none⟩ = some (.slice p2 (ut.length + 1) c2) := k47
    have k46e : w4.drew.drew.cell? ⟨b, 6, none⟩ = some sv := HKB4.out.cell 6
    have k47e : w4.drew.drew.cell? ⟨b, 7, none⟩ = some (.slice p2 (ut.length + 1) c2) := k47
    have HCL2 := Lib.hid (clone_unit w4.drew.drew F sv us.length _ HSS4.out.1 (by omega))
    obtain ⟨ut2, hut2, hst2⟩ := HST4.out
    have hutl : ut2.length = ut.length + 1 := by
      have h1 := congrArg List.length hut2
      have h2 := congrArg List.length HUT.out
      rw [List.length_map, List.length_append, ← h2, List.length_map, List.length_singleton] at h1
      exact h1
    have HUT2 := Lib.hid hut2
    have hs2 := hst2.1
    rw [hutl] at hs2
    have HS2 := Lib.hid hs2
    have HST2 := Lib.hid hst2
    have HUTL := Lib.hid hutl
    have HSL : Hid (∃ ps cs, sv = .slice ps us.length cs) := by
      obtain ⟨ps, cs, h, _⟩ := HSS4.out.1.form
      exact ⟨ps, cs, h⟩
    obtain ⟨ps, cs, hsv⟩ := HSL.out
    subst hsv
    clear hut2 hst2 hs2 hutl HSL
    refine wp_region_lit_plan [] [(0, 0), (1, 0), (2, 0), (3, 0), (6, 0), (7, 0), (8, 0), (9, 0), (4, 1), (10, 2), (5, 3), (11, 4), (12, 0)] (fun k => k = b) (by kernel_rfl) (by kernel_rfl) (fun c a d v w h => by cases d <;> exact h) ?_
    go_upto_region 5 with (first
      | (refine plan_pure (v := _) (by rfl) (by rfl) (by rfl) (by intro _; go_simp; with_reducible rfl) ?_; simp only [List.setIfInBounds_toArray, List.set_cons_zero, List.set_cons_succ]; try go_bits) | (refine plan_read (v := _) (by rfl) (by rfl) (by rfl) (by go_simp; with_reducible rfl) ?_; simp only [List.setIfInBounds_toArray, List.set_cons_zero, List.set_cons_succ]; try go_bits) | (refine plan_readB (v := _) (by rfl) (by rfl) (by rfl) (by intro _ hag; unfold Agree at hag; go_simp; with_reducible rfl) ?_; simp only [List.setIfInBounds_toArray, List.set_cons_zero, List.set_cons_succ]; try go_bits) | (refine plan_skip0 (by rfl) (by rfl) (by rfl) ?_; simp only [List.setIfInBounds_toArray, List.set_cons_zero, List.set_cons_succ]; try go_bits) | (refine plan_skip1 (by rfl) (by rfl) (by rfl) ?_; simp only [List.setIfInBounds_toArray, List.set_cons_zero, List.set_cons_succ]; try go_bits) | (refine plan_skip2 (by rfl) (by rfl) (by rfl) ?_; simp only [List.setIfInBounds_toArray, List.set_cons_zero, List.set_cons_succ]; try go_bits) | (refine plan_skip4 (by rfl) (by rfl) (by rfl) ?_; simp only [List.setIfInBounds_toArray, List.set_cons_zero, List.set_cons_succ]; try go_bits) | (refine plan_any (by rfl) ?_) | (refine plan_keep (by rfl) ?_) | (refine plan_nil ?_) | (with_reducible refine And.intro (by first | assumption | exact Agree.refl _ _ | exact agree_drew _ _ | exact agree_alloc _ (by intro k hk; subst hk; first | omega | (simp; omega))) ?_) | (unfold Act.put; simp only [List.setIfInBounds_toArray, List.set_cons_zero, List.set_cons_succ])
      | (go_at_call 47; refine HCL2.out.mono ?_; clear HCL2; rintro e w5 ⟨v5, rfl, ho5, hb5, hn5⟩; have kb5 := HKB4.out.drew.drew.below hb5; have hag5 : Agree (fun k => k = b) w4.drew.drew w5 := agree_blkW HKB4.out.drew.drew kb5; have hag6 : Agree (fun k => k = b) w4.drew w5 := hag5; have k57 : w5.cell? ⟨b, 7, none⟩ = some (.slice p2 (ut.length + 1) c2) := kb5.cell 7; have HS5 := Lib.hid (HS2.out.drew.drew.below hb5); have HO5 := Lib.hid ho5; have HB5 := Lib.hid hb5; have HN5 := Lib.hid hn5; have HKB5 := Lib.hid kb5; clear ho5 hb5 hn5 kb5)
      | (at_builtin; refine wpList_app rfl _ _ rfl elemUnit (by rfl) HO5.out (by rfl) HS5.out (by unfold maxLen; omega) (by omega) ?_; intro v6 w6 g1 g2 g3 g4 g5))
    have hb6 := g2.below HB5.out.size (fun q hq => HN5.out q hq)
    have kb6 := HKB5.out.only g2 (fun h => by have h1 := HN5.out b h; simp at h1; omega)
    obtain ⟨g6, o6, c6, hv6, hc61, hc62, _, _, _⟩ := (g1.sl (B := fun _ => True) (fun _ _ => trivial)).place (by omega)
    subst hv6
    unfold maxLen at hc62
    obtain ⟨d, hd0⟩ : ∃ d : Nat, d = us.length + (ut.length + 1) - zn := ⟨_, rfl⟩
    have hd : max ((us.length : Int) + ((ut.length : Int) + 1) - (zn : Int)) 0 = (d : Int) := by omega
    have hd1 : d ≤ us.length + (ut.length + 1) := by omega
    have hd2 : d < c6 := by omega
    have hd3 : (d : Int) ≤ (us.length : Int) + ((ut.length : Int) + 1) := by omega
    have hd4 : ¬ (c6 = d) := by omega
    have hd5 : (d : Int) ≤ (c6 : Int) := by omega
    have HD := Lib.hid hd0
    clear hd0
    have k64 : w6.cell? ⟨b, 4, none⟩ = some (.int .i64 (zn : Int)) := kb6.cell 4
    have k66 : w6.cell? ⟨b, 6, none⟩ = some (.slice ps us.length cs) := kb6.cell 6
    have k67 : w6.cell? ⟨b, 7, none⟩ = some (.slice p2 (ut.length + 1) c2) := kb6.cell 7
    have kf6 : ∀ i, w6.frozen? ⟨b, i, none⟩ = false := kb6.frozen
    have hlt6 : b < w6.heap.size := kb6.lt
    have HG1 := Lib.hid g1
    have HG2 := Lib.hid g2
    have HG3 := Lib.hid g3
    have HB6 := Lib.hid hb6
    have HKB6 := Lib.hid kb6
    clear g1 g2 g3 g4 g5 hb6 kb6
    go_wp2
    go_ret
    have hb46 : Below w4.heap.size w4 w6 := (((Below.refl w4.heap.size w4).drew).drew).trans (HB5.out.trans HB6.out)
    have hon6 : Only (fun q => q = b) w w6 := HON4.out.trans (Only.of_none (S := fun _ => False) hb46) (fun q hq h => False.elim h)
    have hon7 : Only (fun q => q = b) w6 ((w6.setCell ⟨b, 6, none⟩ (.slice (some ⟨g6, o6 + d, none⟩) (us.length + (ut.length + 1) - d) (c6 - d))).setCell ⟨b, 7, none⟩ (.slice none 0 0)) :=
      ((Only.refl (fun q => q = b) w6).setCell (p := ⟨b, 6, none⟩) (fun _ => rfl) _).setCell (p := ⟨b, 7, none⟩) (fun _ => rfl) _
    have hlen : (seenW zn ln all ++ (stagW ln all ++ [ur.map RowV.l])).length = us.length + (ut.length + 1) := by
      rw [← HUT2.out, ← HUS.out, List.length_append, List.length_map, List.length_map, HUTL.out]
    have hsz4 : w.heap.size ≤ w4.heap.size := HON4.out.size
    refine ⟨true, fun q => F q ∨ w.heap.size ≤ q, rfl, by simp only [Int.toNat_natCast]; exact HN3.out, ⟨_, _, cv, (HKB6.out.set 6 _).set 7 _, ?_, ?_, ?_, fun h => HNB.out b h rfl⟩, hon6.trans hon7 (fun q hq h => h), fun q hq => hq⟩
    · simp only [Int.toNat_natCast]
      refine UnitsIs.only ⟨(us ++ ut2).drop d, ?_, ?_⟩ hon7 (fun q hq h => HNB.out q hq h)
      · rw [HN1.out, hlen, ← HUS.out, ← HUT2.out, List.map_drop, List.map_append, HD.out]
      · refine ⟨?_, fun x hx => ?_⟩
        · have h1 := (HG1.out.sl (B := fun q => F q ∨ w.heap.size ≤ q) (fun q hq => .inr (by
            rcases HG3.out with h | h
            · rw [h] at hq; have h2 := HN5.out q hq; simp at h2; omega
            · rw [h] at hq
              have h2 : w5.heap.size = q := Option.some.inj hq
              have h3 := HB5.out.size
              simp at h3
              omega))).from hd1
          have h2 : ((us ++ ut2).drop d).length = us.length + (ut.length + 1) - d := by rw [List.length_drop, List.length_append, HUTL.out]
          have h3 : unitVals ((us ++ ut2).drop d) = (unitVals us ++ unitVals ut2).drop (d * 1) := by rw [Nat.mul_one, ← unitVals_append]; unfold unitVals; rw [List.map_drop]
          rw [h2, h3, ← Nat.mul_one d]
          simpa using h1
        · have h4 : RowsAt w4 (fun q => F q ∨ w.heap.size ≤ q) x.v x.rows := by
            rcases List.mem_append.1 (List.mem_of_mem_drop hx) with h | h
            · exact (HSS4.out.2 x h).mono (Nat.le_refl _) (fun _ _ _ => rfl) (fun q hq _ => .inl hq)
            · exact HST2.out.2 x h
          exact h4.mono hb46.size (fun q _ hl => hb46.block q hl) (fun q hq _ => hq)
    · simp only [Int.toNat_natCast]
      rw [HN2.out]
      exact ⟨[], rfl, UnitsAt.nil _ _⟩
    · have h1 := (HCC4.out.mono hb46.size (fun q _ hl => hb46.block q hl) (fun q hq _ => (.inl hq : F q ∨ w.heap.size ≤ q)))
      exact h1.only hon7 (fun q hq h => HNB.out q hq h)
end Go.Proofs.Ytedcljahcedpjaa
/- No two alike: schema.unlike, of columns, of indexes, of places. -/
namespace Go.Proofs.Ytedcljahcedpjaa
open Go.RowKit Go.Afx

end Go.Proofs.Ytedcljahcedpjaa
/- Schemas: columns, places, indexes, Right. -/
namespace Go.Proofs.Ytedcljahcedpjaa
open Go.RowKit Go.Afx

def colOk (c : ColV) : Bool := namedB c.name && (decide (1 ≤ c.kind) && decide (c.kind ≤ 3))
def colsB (l : List ColV) : Bool := l.all colOk && ((decide (1 ≤ l.length) && decide (l.length ≤ 8)) && unlikeB sameCol l)
def placeOk (n : Int) (c : Int) : Bool := decide (0 ≤ c) && decide (c ≤ n - 1)
def placesB (n : Int) (x : IdxV) : Bool := x.l.all (placeOk n) && (decide (0 < x.l.length) && unlikeB sameInt x.l)
def firstU (l : List IdxV) : Bool := match l with
  | [] => false
  | x :: _ => x.unique
def idxB (n : Int) (l : List IdxV) : Bool := l.all (placesB n) && ((decide (1 ≤ l.length) && decide (l.length ≤ 4)) && firstU l && unlikeB sameIdx l)

theorem all_not {α : Type} (f : α → Bool) (l : List α) (k : Nat) (h : k < l.length) : f l[k] = false → l.all f = false := fun hf => by
  rw [List.all_eq_false]
  exact ⟨l[k], List.getElem_mem h, by simp [hf]⟩

end Go.Proofs.Ytedcljahcedpjaa
/- Schemas: Right. -/
namespace Go.Proofs.Ytedcljahcedpjaa
open Go.RowKit Go.Afx

structure SchV where
  name : ByteArray
  colsV : Value
  cols : List ColV
  idxV : Value
  idx : List IdxV
  limit : Int
  parts : Int
  by_ : Int
def SchV.cells (s : SchV) : List Value := [.string s.name, s.colsV, s.idxV, .int .i64 s.limit, .int .i64 s.parts, .int .i64 s.by_]
def SchV.agg (s : SchV) : Value := .agg #[.string s.name, s.colsV, s.idxV, .int .i64 s.limit, .int .i64 s.parts, .int .i64 s.by_]
/-- A schema that reads. -/
structure SchAt (w : World) (B : Nat → Prop) (s : SchV) : Prop where
  cols : Sl w B 2 s.colsV s.cols.length (colCells s.cols)
  idx : IdxAt w B s.idxV s.idx
  names : ∀ c ∈ s.cols, c.name.size ≤ maxLen
  name : s.name.size ≤ maxLen
theorem SchAt.below {w w' : World} {B : Nat → Prop} {s : SchV} (h : SchAt w B s) (hb : Below w.heap.size w w') : SchAt w' B s := ⟨h.cols.below hb, h.idx.below hb, h.names, h.name⟩

def rightS (s : SchV) : Bool :=
  namedB s.name && (colsB s.cols && (idxB s.cols.length s.idx && ((decide (1 ≤ s.limit) && decide (s.limit ≤ 1000)) && ((decide (1 ≤ s.parts) && decide (s.parts ≤ 8)) && (decide (0 ≤ s.by_) && decide (s.by_ ≤ (s.cols.length : Int) - 1))))))
theorem colsB_len {l : List ColV} (h : colsB l = true) : 1 ≤ l.length ∧ l.length ≤ 8 := by
  unfold colsB at h
  simp at h
  omega

/-- The six cells of a schema in a block. -/
theorem sch_cells {w : World} {b : Nat} {t : TypeId} {v0 v1 v2 v3 v4 v5 : Value} (h : Blk w b t [v0, v1, v2, v3, v4, v5]) :
    w.cell? ⟨b, 0, none⟩ = some v0 ∧ w.cell? ⟨b, 1, none⟩ = some v1 ∧ w.cell? ⟨b, 2, none⟩ = some v2 ∧ w.cell? ⟨b, 3, none⟩ = some v3 ∧ w.cell? ⟨b, 4, none⟩ = some v4 ∧ w.cell? ⟨b, 5, none⟩ = some v5 :=
  ⟨h.cell 0, h.cell 1, h.cell 2, h.cell 3, h.cell 4, h.cell 5⟩

end Go.Proofs.Ytedcljahcedpjaa
/- Places that are all unlike are no more than there are columns (plain). -/
namespace Go.Proofs.Ytedcljahcedpjaa
open Go.RowKit Go.Afx

theorem unlikeGo_spec {α : Type} (same : α → α → Bool) : ∀ (t seen : List α), unlikeGo same seen t = true → (∀ i j (hi : i < t.length), j < i → ∀ hj : j < t.length, same t[i] t[j] = false) ∧ ∀ i (hi : i < t.length), ∀ b ∈ seen, same t[i] b = false
  | [], _, _ => ⟨fun i j hi => absurd hi (Nat.not_lt_zero _), fun i hi => absurd hi (Nat.not_lt_zero _)⟩
  | a :: t, seen, h => by
    unfold unlikeGo at h
    rw [Bool.and_eq_true, List.all_eq_true] at h
    obtain ⟨h1, h2⟩ := unlikeGo_spec same t (seen ++ [a]) h.2
    refine ⟨fun i j hi hji hj => ?_, fun i hi b hb => ?_⟩
    · cases i with
      | zero => omega
      | succ i =>
        cases j with
        | zero => exact h2 i (by simpa using hi) a (by simp)
        | succ j => exact h1 i j (by simpa using hi) (by omega) (by simpa using hj)
    · cases i with
      | zero => have := h.1 b hb; simpa using this
      | succ i => exact h2 i (by simpa using hi) b (List.mem_append_left _ hb)
/-- Unlike numbers from 0 on, below n, are no more than n. -/
theorem pigeon : ∀ (n : Nat) (l : List Int), (∀ c ∈ l, 0 ≤ c ∧ c < (n : Int)) → (∀ i j (hi : i < l.length) (hj : j < l.length), j < i → l[i] ≠ l[j]) → l.length ≤ n := by
  intro n
  induction n with
  | zero =>
    intro l h _
    cases l with
    | nil => simp
    | cons a t => have := h a (by simp); omega
  | succ n ih =>
    intro l h hd
    have hp : l.Nodup := by
      rw [List.nodup_iff_pairwise_ne]
      rw [List.pairwise_iff_getElem]
      intro i j hi hj hij
      exact fun e => hd j i hj hi hij e.symm
    have hl := ih (l.filter (fun c => c ≠ (n : Int))) (fun c hc => by
      rw [List.mem_filter] at hc
      have h1 := h c hc.1
      have h2 : c ≠ (n : Int) := by simpa using hc.2
      omega) (by
      have hq := List.Pairwise.filter (fun c => decide (c ≠ (n : Int))) (List.nodup_iff_pairwise_ne.1 hp)
      rw [List.pairwise_iff_getElem] at hq
      intro i j hi hj hji
      exact fun e => hq j i hj hi hji e.symm)
    have hcount : l.length ≤ (l.filter (fun c => c ≠ (n : Int))).length + 1 := by
      clear ih hl h hd
      induction l with
      | nil => simp
      | cons a t ih2 =>
        rw [List.nodup_cons] at hp
        by_cases ha : a = (n : Int)
        · have : t.filter (fun c => decide (c ≠ (n : Int))) = t := by
            rw [List.filter_eq_self]
            intro x hx
            have : x ≠ a := fun e => hp.1 (e ▸ hx)
            simpa [← ha] using this
          rw [List.filter_cons_of_neg (by simp [ha]), this, List.length_cons]
          omega
        · rw [List.filter_cons_of_pos (by simp [ha]), List.length_cons, List.length_cons]
          have := ih2 hp.2
          omega
    omega
theorem places_len (n : Nat) (x : IdxV) (h : placesB n x = true) : 1 ≤ x.l.length ∧ x.l.length ≤ n := by
  unfold placesB at h
  simp only [Bool.and_eq_true, List.all_eq_true, decide_eq_true_eq] at h
  obtain ⟨h1, h2, h3⟩ := h
  refine ⟨h2, pigeon n x.l (fun c hc => ?_) (fun i j hi hj hji => ?_)⟩
  · have := h1 c hc
    unfold placeOk at this
    simp at this
    omega
  · have := (unlikeGo_spec sameInt x.l [] h3).1 i j hi hji hj
    unfold sameInt at this
    simpa using this
theorem sameCol_comm (a b : ColV) : sameCol a b = sameCol b a := by
  unfold sameCol
  rw [Bool.eq_iff_iff]; simp only [beq_iff_eq]; exact ⟨Eq.symm, Eq.symm⟩
theorem sameIdx_comm (a b : IdxV) : sameIdx a b = sameIdx b a := by
  unfold sameIdx
  rw [Bool.eq_iff_iff]; simp only [beq_iff_eq]; exact ⟨Eq.symm, Eq.symm⟩
theorem sameInt_comm (a b : Int) : sameInt a b = sameInt b a := by
  unfold sameInt
  rw [Bool.eq_iff_iff]; simp only [beq_iff_eq]; exact ⟨Eq.symm, Eq.symm⟩
end Go.Proofs.Ytedcljahcedpjaa
/- The document's schemas: same, Right. -/
namespace Go.Proofs.Ytedcljahcedpjaa
open Go.RowKit Go.Afx

/-- The first test of the document's Right. -/
def frontS (s : SchV) : Bool :=
  namedB s.name && (decide (1 ≤ s.cols.length) && decide (s.cols.length ≤ 8)) && (decide (1 ≤ s.idx.length) && decide (s.idx.length ≤ 4)) && ((decide (1 ≤ s.limit) && decide (s.limit ≤ 1000)) && ((decide (1 ≤ s.parts) && decide (s.parts ≤ 8)) && (decide (0 ≤ s.by_) && decide (s.by_ ≤ (s.cols.length : Int) - 1)))) && firstU s.idx
theorem rightS_front (s : SchV) : rightS s = (frontS s && (s.cols.all colOk && unlikeB sameCol s.cols) && (s.idx.all (placesB s.cols.length) && unlikeB sameIdx s.idx)) := by
  unfold rightS frontS colsB idxB
  generalize namedB s.name = a1
  generalize s.cols.all colOk = a2
  generalize (decide (1 ≤ s.cols.length) && decide (s.cols.length ≤ 8)) = a3
  generalize unlikeB sameCol s.cols = a4
  generalize s.idx.all (placesB s.cols.length) = a5
  generalize (decide (1 ≤ s.idx.length) && decide (s.idx.length ≤ 4)) = a6
  generalize firstU s.idx = a7
  generalize unlikeB sameIdx s.idx = a8
  generalize ((decide (1 ≤ s.limit) && decide (s.limit ≤ 1000)) && ((decide (1 ≤ s.parts) && decide (s.parts ≤ 8)) && (decide (0 ≤ s.by_) && decide (s.by_ ≤ (s.cols.length : Int) - 1)))) = a9
  cases a1 <;> cases a2 <;> cases a3 <;> cases a4 <;> cases a5 <;> cases a6 <;> cases a7 <;> cases a8 <;> cases a9 <;> rfl
end Go.Proofs.Ytedcljahcedpjaa
/- The document's schemas: Right. -/
namespace Go.Proofs.Ytedcljahcedpjaa
open Go.RowKit Go.Afx

def FrontP (nb : Bool) (n ni lim prt by_ : Int) (fu : Bool) : Prop := nb = true ∧ 1 ≤ n ∧ n ≤ 8 ∧ 1 ≤ ni ∧ ni ≤ 4 ∧ 1 ≤ lim ∧ lim ≤ 1000 ∧ 1 ≤ prt ∧ prt ≤ 8 ∧ 0 ≤ by_ ∧ by_ < n ∧ fu = true
theorem frontS_iff (s : SchV) : frontS s = true ↔ FrontP (namedB s.name) s.cols.length s.idx.length s.limit s.parts s.by_ (firstU s.idx) := by
  unfold frontS FrontP
  simp only [Bool.and_eq_true, decide_eq_true_eq]
  constructor
  · rintro ⟨⟨⟨⟨h1, h2⟩, h3⟩, ⟨h4, h5⟩, ⟨h6, h7⟩, h8⟩, h9⟩
    exact ⟨h1, by omega, by omega, by omega, by omega, h4, h5, h6, h7, h8.1, by omega, h9⟩
  · rintro ⟨h1, h2, h3, h4, h5, h6, h7, h8, h9, h10, h11, h12⟩
    exact ⟨⟨⟨⟨h1, by omega, by omega⟩, by omega, by omega⟩, ⟨h6, h7⟩, ⟨h8, h9⟩, h10, by omega⟩, h12⟩

end Go.Proofs.Ytedcljahcedpjaa
/- The document's schemas: Right, behind its first test. -/
namespace Go.Proofs.Ytedcljahcedpjaa
open Go.RowKit Go.Afx

theorem all_snoc {α : Type} {f : α → Bool} {l : List α} {j k : Nat} (h : (l.take j).all f = true) (e : j = k) : (l.take k).all f = true := e ▸ h

end Go.Proofs.Ytedcljahcedpjaa
