/- The reader: Rows. -/
import Derived.Test.YtdhdphmehjkbnaaWrG
import Derived.Laws.Bits64b
import Derived.Laws.Bits64
import Derived.Deep.CutBlock
import Derived.Deep.DeepCutAuto
/- The reader: what it keeps; Good, Len, End, Fail, cut. -/
namespace Go.Proofs.Ytdhdphmehjkbnaa
open Go.RowKit Go.Afx
variable {RB : Nat → Prop}

@[go_sem] theorem eqlNilU8 (w : World) (a : Option Addr) (n c : Nat) : (binOp .eql 60 (.slice a n c) (.slice none 0 0)).run Try.prog w = .ok (.bool a.isNone) w := Lib.run_eql_slice_nil w _ _ a n c 0 0 Try.underlying60

/-- A reader in the block b: bad, or with the bytes l to come, that lie elsewhere. -/
def IsRd (w : World) (b : Nat) (RB : Nat → Prop) (bad : Bool) (l : List UInt8) : Prop :=
  ∃ bv, Blk w b 130 [bv, .bool bad] ∧ Sl w (fun k => k ≠ b ∧ RB k) 1 bv l.length (by8 l) ∧ (bad = true → l = [])

theorem good_rd (w : World) (b : Nat) (bad : Bool) (l : List UInt8) (h : IsRd w b RB bad l) :
    Calls Try.prog 52 #[.pointer (some ⟨b, 0, none⟩)] w fun e w' => e = .returned (.bool (!bad)) ∧ w = w' := by
  obtain ⟨bv, h1, h2, h3⟩ := h
  have k1 : w.cell? ⟨b, 1, none⟩ = some (.bool bad) := h1.cell 1
  clear h1 h2 h3
  go_enter Try.func52, Try.ntmps52
  go_wp2
  go_ret
  exact ⟨rfl, rfl⟩
theorem good_nil (w : World) : Calls Try.prog 52 #[.pointer none] w fun e w' => e = .returned (.bool false) ∧ w = w' := by
  go_enter Try.func52, Try.ntmps52
  go_wp2
  go_ret
  exact ⟨rfl, rfl⟩
theorem fail_rd (w : World) (b : Nat) (bad : Bool) (l : List UInt8) (h : IsRd w b RB bad l) :
    Calls Try.prog 87 #[.pointer (some ⟨b, 0, none⟩)] w fun e w' => e = .returned (.tuple #[]) ∧ IsRd w' b RB true [] ∧ Only (fun k => k = b) w w' := by
  obtain ⟨bv, h1, h2, h3⟩ := h
  obtain ⟨p, c, rfl, _, _⟩ := h2.form
  have k0 : w.cell? ⟨b, 0, none⟩ = some (.slice p l.length c) := h1.cell 0
  have k1 : w.cell? ⟨b, 1, none⟩ = some (.bool bad) := h1.cell 1
  have hf : ∀ i, w.frozen? ⟨b, i, none⟩ = false := h1.frozen
  have H1 := Lib.hid h1
  clear h1 h2 h3
  go_enter Try.func87, Try.ntmps87
  go_wp2
  go_end0
  refine ⟨rfl, ⟨.slice none 0 0, (H1.out.set 1 (.bool true)).set 0 (.slice none 0 0), ⟨by simp [by8], by8_ones _, .inl ⟨none, 0, rfl, rfl, Nat.zero_le _, fun _ => rfl⟩⟩, fun _ => rfl⟩, ?_⟩
  exact ((Only.refl (fun k => k = b) w).setCell (p := ⟨b, 1, none⟩) (fun _ => rfl) _).setCell (p := ⟨b, 0, none⟩) (fun _ => rfl) _
theorem fail_nil (w : World) : Calls Try.prog 87 #[.pointer none] w fun e w' => e = .returned (.tuple #[]) ∧ w = w' := by
  go_enter Try.func87, Try.ntmps87
  go_wp2
  go_end0
  exact ⟨rfl, rfl⟩
theorem rdlen_bytes (w : World) (b : Nat) (bad : Bool) (l : List UInt8) (h : IsRd w b RB bad l) :
    Calls Try.prog 43 #[.pointer (some ⟨b, 0, none⟩)] w fun e w' => e = .returned (.int .i64 l.length) ∧ w = w' := by
  obtain ⟨bv, h1, h2, h3⟩ := h
  obtain ⟨p, c, rfl, _, _⟩ := h2.form
  have k0 : w.cell? ⟨b, 0, none⟩ = some (.slice p l.length c) := h1.cell 0
  clear h1 h2 h3
  go_enter Try.func43, Try.ntmps43
  go_wp2
  go_ret
  exact ⟨rfl, rfl⟩
theorem len_rd (w : World) (b : Nat) (bad : Bool) (l : List UInt8) (h : IsRd w b RB bad l) :
    Calls Try.prog 88 #[.pointer (some ⟨b, 0, none⟩)] w fun e w' => e = .returned (.int .i64 l.length) ∧ w = w' := by
  have HL := Lib.hid (rdlen_bytes w b bad l h)
  clear h
  go_enter Try.func88, Try.ntmps88
  go_wp2_with (go_at_call 43; refine HL.out.mono ?_; rintro e w2 ⟨rfl, rfl⟩)
  go_ret
  exact ⟨rfl, rfl⟩
theorem end_rd (w : World) (b : Nat) (bad : Bool) (l : List UInt8) (h : IsRd w b RB bad l) :
    Calls Try.prog 73 #[.pointer (some ⟨b, 0, none⟩)] w fun e w' => e = .returned (.bool (!bad && l.isEmpty)) ∧ w = w' := by
  have HL := Lib.hid (len_rd w b bad l h)
  have HG := Lib.hid (good_rd w b bad l h)
  clear h
  have he : l.isEmpty = ((l.length : Int) == 0) := by
    cases l
    · rfl
    · symm; rw [beq_eq_false_iff_ne.2]
      · rfl
      · rw [List.length_cons]; omega
  rw [he]
  cases bad
  all_goals
    go_enter Try.func73, Try.ntmps73
    go_wp2_with (first
      | (go_at_call 52; refine HG.out.mono ?_; rintro e w2 ⟨rfl, rfl⟩)
      | (go_at_call 88; refine HL.out.mono ?_; rintro e w2 ⟨rfl, rfl⟩))
    go_ret
    exact ⟨rfl, rfl⟩
end Go.Proofs.Ytdhdphmehjkbnaa
/- The reader: cut. -/
namespace Go.Proofs.Ytdhdphmehjkbnaa
open Go.RowKit Go.Afx
variable {RB : Nat → Prop}

theorem cut_bad (w : World) (b : Nat) (bad : Bool) (l : List UInt8) (h : IsRd w b RB bad l) (n : Nat) (hn : bad = true ∨ l.length < n) :
    Calls Try.prog 90 #[.pointer (some ⟨b, 0, none⟩), .int .i64 n] w fun e w' => e = .returned (.slice none 0 0) ∧ IsRd w' b RB true [] ∧ Only (fun k => k = b) w w' := by
  have HG := Lib.hid (good_rd w b bad l h)
  have HF := Lib.hid (fail_rd w b bad l h)
  obtain ⟨bv, h1, h2, h3⟩ := h
  obtain ⟨p, c, rfl, _, _⟩ := h2.form
  have k0 : w.cell? ⟨b, 0, none⟩ = some (.slice p l.length c) := h1.cell 0
  clear h1 h2 h3
  cases bad
  · have hlt : l.length < n := by simpa using hn
    clear hn
    go_enter Try.func90, Try.ntmps90
    go_wp2_with (first
      | (go_at_call 52; refine HG.out.mono ?_; rintro e w2 ⟨rfl, rfl⟩)
      | (go_at_call 87; refine HF.out.mono ?_; rintro e w2 ⟨rfl, h1, h2⟩))
    go_ret
    exact ⟨rfl, h1, h2⟩
  · clear hn
    go_enter Try.func90, Try.ntmps90
    go_wp2_with (first
      | (go_at_call 52; refine HG.out.mono ?_; rintro e w2 ⟨rfl, rfl⟩)
      | (go_at_call 87; refine HF.out.mono ?_; rintro e w2 ⟨rfl, h1, h2⟩))
    go_ret
    exact ⟨rfl, h1, h2⟩

theorem by8_take (l : List UInt8) (n : Nat) : (by8 l).take n = by8 (l.take n) := by simp [by8, List.map_take]

set_option maxRecDepth 100000 in
theorem cut_ok (w : World) (b : Nat) (l : List UInt8) (h : IsRd w b RB false l) (n : Nat) (hn : n ≤ l.length) :
    Calls Try.prog 90 #[.pointer (some ⟨b, 0, none⟩), .int .i64 n] w fun e w' => ∃ p c, e = .returned (.slice p n c) ∧ Sl w' (fun k => k ≠ b ∧ RB k) 1 (.slice p n c) n (by8 (l.take n)) ∧ IsRd w' b RB false (l.drop n) ∧ Only (fun k => k = b) w w' := by
  have HG := Lib.hid (good_rd w b false l h)
  obtain ⟨bv, h1, h2, h3⟩ := h
  have hoS : ∀ v, Only (fun k => k = b) w (w.setCell ⟨b, 0, none⟩ v) := fun v => (Only.refl (fun k => k = b) w).setCell (p := ⟨b, 0, none⟩) (fun _ => rfl) _
  have HOS := Lib.hid hoS
  clear hoS
  rcases Nat.eq_zero_or_pos l.length with hl0 | hlp
  · -- nothing to come
    have hl : l = [] := List.eq_nil_of_length_eq_zero hl0
    subst hl
    obtain rfl : n = 0 := by simpa using hn
    obtain ⟨p, c, rfl, hc1, hc2⟩ := h2.form
    have k0 : w.cell? ⟨b, 0, none⟩ = some (.slice p 0 c) := h1.cell 0
    have hf : ∀ i, w.frozen? ⟨b, i, none⟩ = false := h1.frozen
    have H1 := Lib.hid h1
    have H2 : Hid (Sl w (fun k => k ≠ b ∧ RB k) 1 (.slice p 0 c) 0 (by8 [])) := h2
    clear h1 h2 h3 hl0 hn
    have hc0 : (0 : Int) ≤ c := by omega
    by_cases hcz : c = 0
    · subst hcz
      go_enter Try.func90, Try.ntmps90
      go_wp2_with (first
        | (go_at_call 52; refine HG.out.mono ?_; rintro e w2 ⟨rfl, rfl⟩))
      go_ret
      exact ⟨_, _, rfl, H2.out.only (HOS.out _) (fun k h1 h2 => h1.1 h2), ⟨_, H1.out.set 0 _, H2.out.only (HOS.out _) (fun k h1 h2 => h1.1 h2), fun h => absurd h (by decide)⟩, HOS.out _⟩
    · skip
      go_enter Try.func90, Try.ntmps90
      go_wp2_with (first
        | (go_at_call 52; refine HG.out.mono ?_; rintro e w2 ⟨rfl, rfl⟩))
      go_ret
      exact ⟨_, _, rfl, H2.out.only (HOS.out _) (fun k h1 h2 => h1.1 h2), ⟨_, H1.out.set 0 _, H2.out.only (HOS.out _) (fun k h1 h2 => h1.1 h2), fun h => absurd h (by decide)⟩, HOS.out _⟩
  · obtain ⟨g, off, c, rfl, hc1, hc2, hgb, hglt, hcl⟩ := h2.place hlp
    have k0 : w.cell? ⟨b, 0, none⟩ = some (.slice (some ⟨g, off, none⟩) l.length c) := h1.cell 0
    have hf : ∀ i, w.frozen? ⟨b, i, none⟩ = false := h1.frozen
    have H1 := Lib.hid h1
    have H2 := Lib.hid h2
    have HCL := Lib.hid hcl
    have hc3 : c ≤ 9223372036854775807 := hc2
    have hnc : (n : Int) ≤ c := by omega
    have hnl : (n : Int) ≤ l.length := by omega
    clear h1 h2 h3 hcl
    by_cases hcn : c = n
    · go_enter Try.func90, Try.ntmps90
      go_wp2_with (first
        | (go_at_call 52; refine HG.out.mono ?_; rintro e w2 ⟨rfl, rfl⟩))
      go_ret
      have hs1 := H2.out.take hn
      rw [Nat.mul_one, by8_take] at hs1
      have hln : l.length = n := by omega
      have hd : l.drop n = [] := List.drop_of_length_le (by omega)
      subst hcn
      refine ⟨_, _, rfl, hs1.only (HOS.out _) (fun k h1 h2 => h1.1 h2), ⟨_, H1.out.set 0 _, ?_, fun h => absurd h (by decide)⟩, HOS.out _⟩
      rw [hd]
      exact ⟨by simp [by8], by8_ones _, .inl ⟨some ⟨g, off, none⟩, 0, by rw [hln, Nat.sub_self], rfl, Nat.zero_le _, fun h => by cases h⟩⟩
    · go_enter Try.func90, Try.ntmps90
      go_wp2_with (first
        | (go_at_call 52; refine HG.out.mono ?_; rintro e w2 ⟨rfl, rfl⟩))
      go_ret
      have hs1 := H2.out.take hn
      rw [Nat.mul_one, by8_take] at hs1
      refine ⟨_, _, rfl, hs1.only (HOS.out _) (fun k h1 h2 => h1.1 h2), ⟨_, H1.out.set 0 _, ?_, fun h => absurd h (by decide)⟩, HOS.out _⟩
      have hs2 : Sl w (fun k => k ≠ b ∧ RB k) 1 (.slice (some ⟨g, off + n, none⟩) (l.length - n) (c - n)) (l.drop n).length (by8 (l.drop n)) :=
        ⟨by rw [by8_length, Nat.mul_one], by8_ones _, .inr ⟨g, off + n, c - n, by rw [List.length_drop], by rw [List.length_drop]; omega, by unfold maxLen; omega, hgb, hglt, fun j hj => by
          rw [by8_length, List.length_drop] at hj
          have h1 := HCL.out (n + j) (by rw [by8_length]; omega)
          rw [Nat.add_assoc, h1, by8_get _ _ (show n + j < l.length by omega), by8_get _ j (by rw [List.length_drop]; omega), List.getElem_drop]⟩⟩
      exact hs2.only (HOS.out _) (fun k h1 h2 => h1.1 h2)
end Go.Proofs.Ytdhdphmehjkbnaa
/- The reader: byte. -/
namespace Go.Proofs.Ytdhdphmehjkbnaa
open Go.RowKit Go.Afx
variable {RB : Nat → Prop}

/-- A byte, and the reader behind it. -/
def rByte (bad : Bool) (l : List UInt8) : Int × Bool × List UInt8 :=
  match bad, l with
  | false, c :: t => ((c.toNat : Int), false, t)
  | _, _ => (0, true, [])

set_option maxRecDepth 100000 in
theorem byte_rd (w : World) (b : Nat) (bad : Bool) (l : List UInt8) (h : IsRd w b RB bad l) :
    Calls Try.prog 101 #[.pointer (some ⟨b, 0, none⟩)] w fun e w' => e = .returned (.int .i64 (rByte bad l).1) ∧ IsRd w' b RB (rByte bad l).2.1 (rByte bad l).2.2 ∧ Only (fun k => k = b) w w' := by
  by_cases hok : bad = false ∧ 1 ≤ l.length
  · obtain ⟨rfl, hl⟩ := hok
    have HC := Lib.hid (cut_ok w b l h 1 hl)
    clear h
    cases l with
    | nil => simp at hl
    | cons c t =>
      show Calls _ _ _ _ fun e w' => e = .returned (.int .i64 (c.toNat : Int)) ∧ IsRd w' b RB false t ∧ Only (fun k => k = b) w w'
      obtain ⟨ci0, hci⟩ : ∃ ci0 : Int, (c.toNat : Int) = ci0 := ⟨_, rfl⟩
      rw [hci]
      go_enter Try.func101, Try.ntmps101
      go_wp2_with fail
      refine HC.out.mono ?_
      clear HC
      rintro e w2 ⟨p, cp, rfl, hs, hr, ho⟩
      obtain ⟨g, off, cp', hv, _, _, _, hg, hcl⟩ := hs.place (by omega)
      cases hv
      have hc0 : w2.cell? ⟨g, off, none⟩ = some (.int .u8 (c.toNat : Int)) := by
        have := hcl 0 (by simp [by8])
        rw [Nat.add_zero] at this
        rw [this]; simp [by8]
      have HR := Lib.hid hr
      have HO := Lib.hid ho
      have hc256 : (c.toNat : Int) < 256 := by have := c.toNat_lt; omega
      have hc00 : (0 : Int) ≤ (c.toNat : Int) := by omega
      clear hs hr ho hcl
      rw [hci] at hc0 hc256 hc00
      clear hci
      go_wp2
      go_ret
      exact ⟨rfl, HR.out, HO.out⟩
  · have hb : bad = true ∨ l.length < 1 := by
      cases bad
      · right; simpa using hok
      · exact .inl rfl
    have er : rByte bad l = (0, true, []) := by
      cases bad
      · cases l
        · rfl
        · simp at hb
      · rfl
    rw [er]
    have HC := Lib.hid (cut_bad w b bad l h 1 hb)
    clear h hok hb er
    go_enter Try.func101, Try.ntmps101
    go_wp2_with (go_at_call 90; refine HC.out.mono ?_; clear HC; rintro e w2 ⟨rfl, hr, ho⟩)
    go_ret
    exact ⟨rfl, hr, ho⟩
end Go.Proofs.Ytdhdphmehjkbnaa
/- The reader: numbers (the plain part). -/
namespace Go.Proofs.Ytdhdphmehjkbnaa
open Go.RowKit Go.Afx

/-- The number of some bytes, the highest first. -/
def ofBytes (l : List UInt8) : Nat := l.foldl (fun n c => n * 256 + c.toNat) 0
theorem ofBytes_next (l : List UInt8) (k : Nat) (h : k < l.length) : ofBytes (l.take (k + 1)) = ofBytes (l.take k) * 256 + l[k].toNat := by
  unfold ofBytes
  rw [← List.take_append_getElem h, List.foldl_append]; rfl
theorem ofBytes_lt (l : List UInt8) : ∀ k, ofBytes (l.take k) < 256 ^ k
  | 0 => by simp [ofBytes]
  | k + 1 => by
    have ih := ofBytes_lt l k
    by_cases h : k < l.length
    · rw [ofBytes_next l k h, Nat.pow_succ]
      have := l[k].toNat_lt
      omega
    · rw [List.take_of_length_le (by omega)]
      rw [List.take_of_length_le (by omega)] at ih
      exact Nat.lt_of_lt_of_le ih (Nat.pow_le_pow_right (by omega) (by omega))
theorem or_byte (n c : Nat) (hn : n < 72057594037927936) (hc : c < 256) : bits .or .u64 (IntKind.u64.wrap ((n : Int) * 256)) (c : Int) = ((n * 256 + c : Nat) : Int) := by
  have e1 : IntKind.u64.wrap ((n : Int) * 256) = ((n * 256 : Nat) : Int) := by rw [IntKind.wrap_u64]; omega
  rw [e1, bits_or_u64_nat _ _ (by omega) (by omega)]
  have h2 : n * 256 = n <<< 8 := by rw [Nat.shiftLeft_eq]
  rw [h2, ← Nat.shiftLeft_add_eq_or_of_lt (show c < 2 ^ 8 from hc)]

/-- A number, and the reader behind it. -/
def rNum (bad : Bool) (l : List UInt8) : Nat × Bool × List UInt8 :=
  let r := rByte bad l
  let size := r.1.toNat
  if r.2.1 then (0, true, []) else if 8 < size ∨ r.2.2.length < size then (0, true, []) else if (r.2.2.take size).head? = some 0 then (0, true, []) else (ofBytes (r.2.2.take size), false, r.2.2.drop size)
end Go.Proofs.Ytdhdphmehjkbnaa
/- The reader: numbers. -/
namespace Go.Proofs.Ytdhdphmehjkbnaa
open Go.RowKit Go.Afx
variable {RB : Nat → Prop}

theorem rByte_bad (bad : Bool) (l : List UInt8) (h : (rByte bad l).2.1 = true) : (rByte bad l).1 = 0 ∧ (rByte bad l).2.2 = [] := by
  unfold rByte at *
  split
  · rename_i h2; simp at h
  · exact ⟨rfl, rfl⟩
theorem rByte_range (bad : Bool) (l : List UInt8) : ∃ m : Nat, (rByte bad l).1 = m ∧ m < 256 := by
  unfold rByte
  split
  · rename_i c t; exact ⟨c.toNat, rfl, c.toNat_lt⟩
  · exact ⟨0, rfl, by omega⟩

set_option maxRecDepth 100000 in
set_option maxHeartbeats 1000000 in
theorem number_rd (w : World) (b : Nat) (bad : Bool) (l : List UInt8) (h : IsRd w b RB bad l) :
    Calls Try.prog 89 #[.pointer (some ⟨b, 0, none⟩)] w fun e w' => e = .returned (.int .u64 ((rNum bad l).1 : Int)) ∧ IsRd w' b RB (rNum bad l).2.1 (rNum bad l).2.2 ∧ Only (fun k => k = b) w w' := by
  have HBY := Lib.hid (byte_rd w b bad l h)
  obtain ⟨m, hm, hm256⟩ := rByte_range bad l
  have hbb := rByte_bad bad l
  unfold rNum
  simp only [hm, Int.toNat_natCast]
  rw [hm] at HBY hbb
  clear h hm
  generalize (rByte bad l).2.1 = bd at *
  generalize (rByte bad l).2.2 = l1 at *
  by_cases hbd : bd = true
  · subst hbd
    obtain ⟨hm0, rfl⟩ := hbb rfl
    have hm1 : m = 0 := by omega
    subst hm1
    simp only [if_true]
    clear hbb hm0 hm256
    go_enter Try.func89, Try.ntmps89
    go_wp2_with (go_at_call 101; refine HBY.out.mono ?_; clear HBY; rintro e w2 ⟨rfl, hr2, ho2⟩; have HC := Lib.hid (cut_bad w2 b true [] hr2 0 (.inl rfl)); have HO2 := Lib.hid ho2; clear hr2 ho2)
    refine HC.out.mono ?_
    rintro e w3 ⟨rfl, hr3, ho3⟩
    have HR3 := Lib.hid hr3
    have HO3 := Lib.hid (HO2.out.trans ho3 (fun _ _ h => h))
    clear hr3 ho3
    go_wp2
    go_loopw [5, 30] (fun a i wr => a = .int .u64 0 ∧ i = .int .i64 0 ∧ w3 = wr) (fun _ _ _ => 0)
    case atStart => exact ⟨rfl, rfl, rfl⟩
    case round =>
      obtain ⟨rfl, rfl, rfl⟩ := hrel
      go_wp2
      go_ret
      exact ⟨rfl, HR3.out, HO3.out⟩
  · obtain rfl : bd = false := by simpa using hbd
    simp only [Bool.false_eq_true, if_false]
    clear hbb hbd
    by_cases h8 : 8 < m
    · rw [if_pos (.inl h8)]
      have h8i : (8 : Int) < m := by omega
      go_enter Try.func89, Try.ntmps89
      go_wp2_with (go_at_call 101; refine HBY.out.mono ?_; clear HBY; rintro e w1 ⟨rfl, hr1, ho1⟩; have HF := Lib.hid (fail_rd w1 b false l1 hr1); have HO1 := Lib.hid ho1; clear hr1 ho1)
      refine HF.out.mono ?_
      rintro e w2 ⟨rfl, hr2, ho2⟩
      have HC := Lib.hid (cut_bad w2 b true [] hr2 m (.inl rfl))
      have HO2 := Lib.hid (HO1.out.trans ho2 (fun _ _ h => h))
      clear hr2 ho2
      go_wp2_with fail
      refine HC.out.mono ?_
      rintro e w3 ⟨rfl, hr3, ho3⟩
      have HR3 := Lib.hid hr3
      have HO3 := Lib.hid (HO2.out.trans ho3 (fun _ _ h => h))
      clear hr3 ho3
      go_wp2
      go_loopw [5, 30] (fun a i wr => a = .int .u64 0 ∧ i = .int .i64 0 ∧ w3 = wr) (fun _ _ _ => 0)
      case atStart => exact ⟨rfl, rfl, rfl⟩
      case round =>
        obtain ⟨rfl, rfl, rfl⟩ := hrel
        go_wp2
        go_ret
        exact ⟨rfl, HR3.out, HO3.out⟩
    · have h8i : (m : Int) ≤ 8 := by omega
      by_cases hl1 : l1.length < m
      · rw [if_pos (.inr hl1)]
        go_enter Try.func89, Try.ntmps89
        go_wp2_with (go_at_call 101; refine HBY.out.mono ?_; clear HBY; rintro e w2 ⟨rfl, hr2, ho2⟩; have HC := Lib.hid (cut_bad w2 b false l1 hr2 m (.inr hl1)); have HO2 := Lib.hid ho2; clear hr2 ho2)
        refine HC.out.mono ?_
        rintro e w3 ⟨rfl, hr3, ho3⟩
        have HR3 := Lib.hid hr3
        have HO3 := Lib.hid (HO2.out.trans ho3 (fun _ _ h => h))
        clear hr3 ho3
        go_wp2
        go_loopw [5, 30] (fun a i wr => a = .int .u64 0 ∧ i = .int .i64 0 ∧ w3 = wr) (fun _ _ _ => 0)
        case atStart => exact ⟨rfl, rfl, rfl⟩
        case round =>
          obtain ⟨rfl, rfl, rfl⟩ := hrel
          go_wp2
          go_ret
          exact ⟨rfl, HR3.out, HO3.out⟩
      · rw [if_neg (by omega)]
        have hml : m ≤ l1.length := by omega
        have hd8 : (l1.take m).length = m := by rw [List.length_take]; omega
        have HCUT := Lib.hid (fun w2 (hr2 : IsRd w2 b RB false l1) => cut_ok w2 b l1 hr2 m hml)
        generalize l1.take m = d at *
        generalize l1.drop m = dr at *
        cases d with
        | nil =>
          obtain rfl : m = 0 := by simpa using hd8.symm
          have e : (if ([] : List UInt8).head? = some 0 then ((0 : Nat), true, ([] : List UInt8)) else (ofBytes [], false, dr)) = (0, false, dr) := by simp [ofBytes]
          rw [e]
          clear e h8 hl1 hml hd8 hm256
          go_enter Try.func89, Try.ntmps89
          go_wp2_with (go_at_call 101; refine HBY.out.mono ?_; clear HBY; rintro e w2 ⟨rfl, hr2, ho2⟩; have HC := Lib.hid (HCUT.out w2 hr2); have HO2 := Lib.hid ho2; clear hr2 ho2)
          refine HC.out.mono ?_
          rintro e w3 ⟨p, cp, rfl, hs3, hr3, ho3⟩
          have HO3 := Lib.hid (HO2.out.trans ho3 (fun _ _ h => h))
          have HR3 := Lib.hid hr3
          clear hr3 ho3 hs3
          go_wp2
          go_loopw [5, 30] (fun a i wr => a = .int .u64 0 ∧ i = .int .i64 0 ∧ w3 = wr) (fun _ _ _ => 0)
          case atStart => exact ⟨rfl, rfl, rfl⟩
          case round =>
            obtain ⟨rfl, rfl, rfl⟩ := hrel
            go_wp2
            go_ret
            exact ⟨rfl, HR3.out, HO3.out⟩
        | cons c t =>
          have hm1 : (0 : Int) < m := by rw [← hd8, List.length_cons]; omega
          by_cases hc0 : c = 0
          · subst hc0
            have e : (if ((0 : UInt8) :: t).head? = some 0 then ((0 : Nat), true, ([] : List UInt8)) else (ofBytes (0 :: t), false, dr)) = (0, true, []) := by simp
            rw [e]
            clear e h8 hl1 hml hm256
            go_enter Try.func89, Try.ntmps89
            go_wp2_with (go_at_call 101; refine HBY.out.mono ?_; clear HBY; rintro e w2 ⟨rfl, hr2, ho2⟩; have HC := Lib.hid (HCUT.out w2 hr2); have HO2 := Lib.hid ho2; clear hr2 ho2)
            refine HC.out.mono ?_
            rintro e w3 ⟨p, cp, rfl, hs3, hr3, ho3⟩
            have HO3 := Lib.hid (HO2.out.trans ho3 (fun _ _ h => h))
            have hs4 : Sl w3 (fun k => k ≠ b ∧ RB k) 1 (.slice p m cp) ((0 : UInt8) :: t).length (by8 (0 :: t)) := by rw [hd8]; exact hs3
            obtain ⟨g, off, cp', hv, _, _, _, hg, hcl⟩ := hs4.place (by simp)
            cases hv
            have hb0 : w3.cell? ⟨g, off, none⟩ = some (.int .u8 0) := by
              have := hcl 0 (by simp [by8])
              rw [Nat.add_zero] at this
              rw [this]; simp [by8]
            have HF := Lib.hid (fail_rd w3 b false dr hr3)
            clear hr3 ho3 hs3 hs4 hcl
            go_wp2_with (go_at_call 87; refine HF.out.mono ?_; clear HF; rintro e w4 ⟨rfl, hr4, ho4⟩)
            go_ret
            exact ⟨rfl, hr4, HO3.out.trans ho4 (fun _ _ h => h)⟩
          · have e : (if (c :: t).head? = some 0 then ((0 : Nat), true, ([] : List UInt8)) else (ofBytes (c :: t), false, dr)) = (ofBytes (c :: t), false, dr) := by simp [hc0]
            rw [e]
            have hcn : ((c.toNat : Int) == 0) = false := by
              rw [beq_eq_false_iff_ne]
              intro h
              exact hc0 (UInt8.toNat_inj.1 (by show c.toNat = 0; omega))
            have hm9 : m ≤ 8 := by omega
            clear e h8 hl1 hml hm256
            generalize hz : ofBytes (c :: t) = z at *
            have HZ := Lib.hid hz
            clear hz
            go_enter Try.func89, Try.ntmps89
            go_wp2_with (go_at_call 101; refine HBY.out.mono ?_; clear HBY; rintro e w2 ⟨rfl, hr2, ho2⟩; have HC := Lib.hid (HCUT.out w2 hr2); have HO2 := Lib.hid ho2; clear hr2 ho2)
            refine HC.out.mono ?_
            rintro e w3 ⟨p, cp, rfl, hs3, hr3, ho3⟩
            have HO3 := Lib.hid (HO2.out.trans ho3 (fun _ _ h => h))
            obtain ⟨g, off, cp', hv, _, _, _, hg, hcl⟩ := hs3.place (by omega)
            cases hv
            have hb0 : w3.cell? ⟨g, off, none⟩ = some (.int .u8 (c.toNat : Int)) := by
              have := hcl 0 (by simp [by8])
              rw [Nat.add_zero] at this
              rw [this]; simp [by8]
            have HCL := Lib.hid hcl
            have HR3 := Lib.hid hr3
            clear hr3 ho3 hs3 hcl
            generalize (c.toNat : Int) = ci at *
            generalize c :: t = d at *
            have HD8 := Lib.hid hd8
            clear hd8 hc0
            go_wp2
            clear hb0 hcn
            go_loopw [5, 30] (fun a i wr => ∃ k : Nat, i = .int .i64 k ∧ k ≤ m ∧ a = .int .u64 (ofBytes (d.take k) : Nat) ∧ w3 = wr) (fun _ i _ => m - (intOf i).toNat)
            case atStart => exact ⟨0, rfl, Nat.zero_le _, by simp [ofBytes], rfl⟩
            case round =>
              obtain ⟨k, rfl, hk, rfl, rfl⟩ := hrel
              by_cases hkm : k < m
              · have hkd : k < d.length := by rw [HD8.out]; exact hkm
                have hck : w3.cell? ⟨g, off + k, none⟩ = some (.int .u8 (d[k].toNat : Int)) := by
                  rw [HCL.out k (by rw [by8_length]; exact hkd), by8_get d k hkd]
                have HN := Lib.hid (ofBytes_next d k hkd)
                have hlt := ofBytes_lt d k
                have hlt2 : ofBytes (d.take k) < 72057594037927936 := Nat.lt_of_lt_of_le hlt (Nat.le_trans (Nat.pow_le_pow_right (by omega) (show k ≤ 7 by omega)) (by decide))
                have hor := or_byte (ofBytes (d.take k)) d[k].toNat hlt2 d[k].toNat_lt
                rw [← HN.out] at hor
                have hcn256 : d[k].toNat < 256 := d[k].toNat_lt
                clear hlt
                generalize d[k].toNat = cn at *
                have ew1 : IntKind.u64.wrap ((ofBytes (d.take k) : Int) * 256) = (ofBytes (d.take k) : Int) * 256 := by rw [IntKind.wrap_u64]; omega
                have ew2 : IntKind.u64.wrap (cn : Int) = cn := by rw [IntKind.wrap_u64]; omega
                rw [ew1] at hor
                have HOR := Lib.hid hor
                clear hor ew1
                go_wp2
                refine ⟨⟨k + 1, by congr 1, by omega, ?_, trivial⟩, ?_⟩
                · first
                    | rw [HOR.out]
                    | rw [ew2, HOR.out]
                · (simp [intOf]) <;> omega
              · obtain rfl : k = m := by omega
                have hfin : Hid (ofBytes (d.take k) = z) := by show _ = _; rw [List.take_of_length_le (by rw [HD8.out]; exact Nat.le_refl _)]; exact HZ.out
                rw [hfin.out]
                go_wp2
                go_ret
                exact ⟨rfl, HR3.out, HO3.out⟩
end Go.Proofs.Ytdhdphmehjkbnaa
/- The reader, or none: Good, Fail, Len, End, String, cut, byte, number. -/
namespace Go.Proofs.Ytdhdphmehjkbnaa
open Go.RowKit Go.Afx
variable {RB : Nat → Prop}

theorem cut_nil (w : World) (n : Int) : Calls Try.prog 90 #[.pointer none, .int .i64 n] w fun e w' => e = .returned (.slice none 0 0) ∧ w = w' := by
  have HG := Lib.hid (good_nil w)
  have HF := Lib.hid (fail_nil w)
  go_enter Try.func90, Try.ntmps90
  go_wp2_with (first
    | (go_at_call 52; refine HG.out.mono ?_; rintro e w2 ⟨rfl, rfl⟩)
    | (go_at_call 87; refine HF.out.mono ?_; rintro e w2 ⟨rfl, rfl⟩))
  go_ret
  exact ⟨rfl, rfl⟩
theorem byte_nil (w : World) : Calls Try.prog 101 #[.pointer none] w fun e w' => e = .returned (.int .i64 0) ∧ w = w' := by
  have HC := Lib.hid (cut_nil w 1)
  go_enter Try.func101, Try.ntmps101
  go_wp2_with (go_at_call 90; refine HC.out.mono ?_; clear HC; rintro e w2 ⟨rfl, rfl⟩)
  go_ret
  exact ⟨rfl, rfl⟩
theorem number_nil (w : World) : Calls Try.prog 89 #[.pointer none] w fun e w' => e = .returned (.int .u64 0) ∧ w = w' := by
  have HC := Lib.hid (cut_nil w 0)
  have HB := Lib.hid (byte_nil w)
  go_enter Try.func89, Try.ntmps89
  go_wp2_with (first
    | (go_at_call 101; refine HB.out.mono ?_; clear HB; rintro e w2 ⟨rfl, rfl⟩)
    | (go_at_call 90; refine HC.out.mono ?_; clear HC; rintro e w2 ⟨rfl, rfl⟩))
  go_loopw [5, 30] (fun a i wr => a = .int .u64 0 ∧ i = .int .i64 0 ∧ w = wr) (fun _ _ _ => 0)
  case atStart => exact ⟨rfl, rfl, rfl⟩
  case round =>
    obtain ⟨rfl, rfl, rfl⟩ := hrel
    go_wp2
    go_ret
    exact ⟨rfl, rfl⟩
theorem len_nil (w : World) : Calls Try.prog 88 #[.pointer none] w fun e w' => e = .returned (.int .i64 0) ∧ w = w' := by
  go_enter Try.func88, Try.ntmps88
  go_wp2
  go_ret
  exact ⟨rfl, rfl⟩
theorem end_nil (w : World) : Calls Try.prog 73 #[.pointer none] w fun e w' => e = .returned (.bool false) ∧ w = w' := by
  have HG := Lib.hid (good_nil w)
  go_enter Try.func73, Try.ntmps73
  go_wp2_with (go_at_call 52; refine HG.out.mono ?_; rintro e w2 ⟨rfl, rfl⟩)
  go_ret
  exact ⟨rfl, rfl⟩
theorem rdstr_nil (w : World) : Calls Try.prog 51 #[.pointer none] w fun e w' => e = .returned (.string .empty) ∧ w = w' := by
  go_enter Try.func51, Try.ntmps51
  go_wp2
  go_ret
  exact ⟨rfl, rfl⟩

theorem sl_string (w : World) (B : Nat → Prop) (v : Value) (l : List UInt8) (h : Sl w B 1 v l.length (by8 l)) :
    (convert 60 9 v).run Try.prog w = .ok (.string ⟨l.toArray⟩) w := by
  rcases h.2.2 with ⟨p, cap, rfl, h0, _, hp⟩ | ⟨g, off, cap, rfl, _, _, _, _, hc⟩
  · obtain rfl : l = [] := List.eq_nil_of_length_eq_zero h0
    cases p with
    | none => obtain rfl := hp rfl; kernel_rfl
    | some a => exact run_convert_bytes_back (P := Try.prog) w 60 9 5 a cap [] Try.underlying60 Try.underlying5 Try.underlying9 (fun j hj => absurd hj (Nat.not_lt_zero _))
  · exact run_convert_bytes_back (P := Try.prog) w 60 9 5 ⟨g, off, none⟩ cap l Try.underlying60 Try.underlying5 Try.underlying9 (fun j hj => by
      rw [Addr.add_lit, hc j (by rw [by8_length]; exact hj)]
      exact by8_get l j hj)

theorem rdstr_bytes (w : World) (b : Nat) (bad : Bool) (l : List UInt8) (h : IsRd w b RB bad l) :
    Calls Try.prog 42 #[.pointer (some ⟨b, 0, none⟩)] w fun e w' => e = .returned (.string ⟨l.toArray⟩) ∧ w = w' := by
  obtain ⟨bv, h1, h2, h3⟩ := h
  have kc := sl_string w _ _ _ h2
  obtain ⟨p, c, rfl, _, _⟩ := h2.form
  have k0 : w.cell? ⟨b, 0, none⟩ = some (.slice p l.length c) := h1.cell 0
  clear h1 h2 h3
  generalize (⟨l.toArray⟩ : ByteArray) = s at *
  go_enter Try.func42, Try.ntmps42
  go_wp2
  go_ret
  exact ⟨rfl, rfl⟩
theorem rdstr_rd (w : World) (b : Nat) (bad : Bool) (l : List UInt8) (h : IsRd w b RB bad l) :
    Calls Try.prog 51 #[.pointer (some ⟨b, 0, none⟩)] w fun e w' => e = .returned (.string ⟨l.toArray⟩) ∧ w = w' := by
  have HS := Lib.hid (rdstr_bytes w b bad l h)
  clear h
  generalize (⟨l.toArray⟩ : ByteArray) = s at *
  go_enter Try.func51, Try.ntmps51
  go_wp2_with (go_at_call 42; refine HS.out.mono ?_; rintro e w2 ⟨rfl, rfl⟩)
  go_ret
  exact ⟨rfl, rfl⟩

/-- A reader, or none: p its pointer. -/
def Rdr (w : World) (p : Option Addr) (RB : Nat → Prop) (bad : Bool) (l : List UInt8) : Prop :=
  (p = none ∧ bad = true ∧ l = []) ∨ ∃ b, p = some ⟨b, 0, none⟩ ∧ IsRd w b RB bad l
/-- What a reader changes. -/
def Mine (p : Option Addr) (k : Nat) : Prop := p = some ⟨k, 0, none⟩

theorem Rdr.empty {w : World} {p : Option Addr} {bad : Bool} {l : List UInt8} (h : Rdr w p RB bad l) : bad = true → l = [] := by
  rcases h with ⟨_, rfl, rfl⟩ | ⟨b, _, h⟩
  · exact fun _ => rfl
  · exact h.choose_spec.2.2
theorem mine_only {w w' : World} {b : Nat} (h : Only (fun k => k = b) w w') : Only (Mine (some ⟨b, 0, none⟩)) w w' :=
  h.mono fun k _ h => by subst h; rfl
theorem mine_eq {b k : Nat} (h : Mine (some ⟨b, 0, none⟩) k) : k = b := by unfold Mine at h; injection h with h; injection h with h1; exact h1.symm

theorem good_r (w : World) (p : Option Addr) (bad : Bool) (l : List UInt8) (h : Rdr w p RB bad l) :
    Calls Try.prog 52 #[.pointer p] w fun e w' => e = .returned (.bool (!bad)) ∧ w = w' := by
  rcases h with ⟨rfl, rfl, rfl⟩ | ⟨b, rfl, h⟩
  · exact good_nil w
  · exact good_rd w b bad l h
theorem len_r (w : World) (p : Option Addr) (bad : Bool) (l : List UInt8) (h : Rdr w p RB bad l) :
    Calls Try.prog 88 #[.pointer p] w fun e w' => e = .returned (.int .i64 l.length) ∧ w = w' := by
  rcases h with ⟨rfl, rfl, rfl⟩ | ⟨b, rfl, h⟩
  · exact len_nil w
  · exact len_rd w b bad l h
theorem end_r (w : World) (p : Option Addr) (bad : Bool) (l : List UInt8) (h : Rdr w p RB bad l) :
    Calls Try.prog 73 #[.pointer p] w fun e w' => e = .returned (.bool (!bad && l.isEmpty)) ∧ w = w' := by
  rcases h with ⟨rfl, rfl, rfl⟩ | ⟨b, rfl, h⟩
  · exact end_nil w
  · exact end_rd w b bad l h
theorem rdstr_r (w : World) (p : Option Addr) (bad : Bool) (l : List UInt8) (h : Rdr w p RB bad l) :
    Calls Try.prog 51 #[.pointer p] w fun e w' => e = .returned (.string ⟨l.toArray⟩) ∧ w = w' := by
  rcases h with ⟨rfl, rfl, rfl⟩ | ⟨b, rfl, h⟩
  · exact rdstr_nil w
  · exact rdstr_rd w b bad l h
theorem fail_r (w : World) (p : Option Addr) (bad : Bool) (l : List UInt8) (h : Rdr w p RB bad l) :
    Calls Try.prog 87 #[.pointer p] w fun e w' => e = .returned (.tuple #[]) ∧ Rdr w' p RB true [] ∧ Only (Mine p) w w' := by
  rcases h with ⟨rfl, rfl, rfl⟩ | ⟨b, rfl, h⟩
  · exact (fail_nil w).mono fun e w' ⟨h1, h2⟩ => ⟨h1, .inl ⟨rfl, rfl, rfl⟩, by subst h2; exact Only.refl _ _⟩
  · exact (fail_rd w b bad l h).mono fun e w' ⟨h1, h2, h3⟩ => ⟨h1, .inr ⟨b, rfl, h2⟩, mine_only h3⟩

/-- So many bytes, and the reader behind them. -/
def rCut (n : Nat) (bad : Bool) (l : List UInt8) : List UInt8 × Bool × List UInt8 :=
  if bad = true ∨ l.length < n then ([], true, []) else (l.take n, false, l.drop n)
theorem sl_none (w : World) (B : Nat → Prop) : Sl w B 1 (.slice none 0 0) ([] : List UInt8).length (by8 []) := ⟨by simp [by8], by8_ones _, .inl ⟨none, 0, rfl, rfl, Nat.zero_le _, fun _ => rfl⟩⟩
theorem cut_r (w : World) (p : Option Addr) (bad : Bool) (l : List UInt8) (h : Rdr w p RB bad l) (n : Nat) :
    Calls Try.prog 90 #[.pointer p, .int .i64 n] w fun e w' => ∃ v, e = .returned v ∧ Sl w' (fun k => ¬ Mine p k) 1 v (rCut n bad l).1.length (by8 (rCut n bad l).1) ∧ Rdr w' p RB (rCut n bad l).2.1 (rCut n bad l).2.2 ∧ Only (Mine p) w w' := by
  by_cases hb : bad = true ∨ l.length < n
  · unfold rCut
    rw [if_pos hb]
    rcases h with ⟨rfl, rfl, rfl⟩ | ⟨b, rfl, h⟩
    · exact (cut_nil w n).mono fun e w' ⟨h1, h2⟩ => ⟨_, h1, sl_none _ _, .inl ⟨rfl, rfl, rfl⟩, by subst h2; exact Only.refl _ _⟩
    · exact (cut_bad w b bad l h n hb).mono fun e w' ⟨h1, h2, h3⟩ => ⟨_, h1, sl_none _ _, .inr ⟨b, rfl, h2⟩, mine_only h3⟩
  · unfold rCut
    rw [if_neg hb]
    rcases h with ⟨rfl, rfl, rfl⟩ | ⟨b, rfl, h⟩
    · exact absurd (.inl rfl) hb
    · obtain rfl : bad = false := by cases bad; rfl; exact absurd (.inl rfl) hb
      have hn : n ≤ l.length := by
        have : ¬ l.length < n := fun h => hb (.inr h)
        omega
      exact (cut_ok w b l h n hn).mono fun e w' ⟨q, c, h1, h2, h3, h4⟩ => ⟨_, h1, by
        have hl : (l.take n).length = n := by rw [List.length_take]; omega
        rw [hl]
        exact Sl.mono h2 (Nat.le_refl _) (fun _ _ _ => rfl) (fun k hk _ h => hk.1 (mine_eq h)), .inr ⟨b, rfl, h3⟩, mine_only h4⟩
theorem byte_r (w : World) (p : Option Addr) (bad : Bool) (l : List UInt8) (h : Rdr w p RB bad l) :
    Calls Try.prog 101 #[.pointer p] w fun e w' => e = .returned (.int .i64 (rByte bad l).1) ∧ Rdr w' p RB (rByte bad l).2.1 (rByte bad l).2.2 ∧ Only (Mine p) w w' := by
  rcases h with ⟨rfl, rfl, rfl⟩ | ⟨b, rfl, h⟩
  · exact (byte_nil w).mono fun e w' ⟨h1, h2⟩ => ⟨h1, .inl ⟨rfl, rfl, rfl⟩, by subst h2; exact Only.refl _ _⟩
  · exact (byte_rd w b bad l h).mono fun e w' ⟨h1, h2, h3⟩ => ⟨h1, .inr ⟨b, rfl, h2⟩, mine_only h3⟩
theorem number_r (w : World) (p : Option Addr) (bad : Bool) (l : List UInt8) (h : Rdr w p RB bad l) :
    Calls Try.prog 89 #[.pointer p] w fun e w' => e = .returned (.int .u64 ((rNum bad l).1 : Int)) ∧ Rdr w' p RB (rNum bad l).2.1 (rNum bad l).2.2 ∧ Only (Mine p) w w' := by
  rcases h with ⟨rfl, rfl, rfl⟩ | ⟨b, rfl, h⟩
  · exact (number_nil w).mono fun e w' ⟨h1, h2⟩ => ⟨h1, .inl ⟨rfl, rfl, rfl⟩, by subst h2; exact Only.refl _ _⟩
  · exact (number_rd w b bad l h).mono fun e w' ⟨h1, h2, h3⟩ => ⟨h1, .inr ⟨b, rfl, h2⟩, mine_only h3⟩
end Go.Proofs.Ytdhdphmehjkbnaa
/- The reader: Size, Signed, Text. -/
namespace Go.Proofs.Ytdhdphmehjkbnaa
open Go.RowKit Go.Afx
variable {RB : Nat → Prop}

theorem mine_trans {w w' w'' : World} {p : Option Addr} (h : Only (Mine p) w w') (h2 : Only (Mine p) w' w'') : Only (Mine p) w w'' := h.trans h2 (fun _ _ h => h)
theorem rNum_bad (bad : Bool) (l : List UInt8) (h : (rNum bad l).2.1 = true) : (rNum bad l).1 = 0 ∧ (rNum bad l).2.2 = [] := by
  unfold rNum at *
  simp only at *
  split at h
  · rename_i h1; rw [if_pos h1]; exact ⟨rfl, rfl⟩
  · rename_i h1
    rw [if_neg h1]
    split at h
    · rename_i h2; rw [if_pos h2]; exact ⟨rfl, rfl⟩
    · rename_i h2
      rw [if_neg h2]
      split at h
      · rename_i h3; rw [if_pos h3]; exact ⟨rfl, rfl⟩
      · cases h
theorem rNum_lt (bad : Bool) (l : List UInt8) : (rNum bad l).1 < 18446744073709551616 := by
  unfold rNum
  simp only
  split
  · exact (by decide)
  · split
    · exact (by decide)
    · rename_i h2
      split
      · exact (by decide)
      · have h1 := ofBytes_lt (rByte bad l).2.2 (rByte bad l).1.toNat
        have h3 : (rByte bad l).1.toNat ≤ 8 := by
          rcases Nat.lt_or_ge 8 (rByte bad l).1.toNat with h | h
          · exact absurd (.inl h) h2
          · exact h
        exact Nat.lt_of_lt_of_le h1 (Nat.le_trans (Nat.pow_le_pow_right (by omega) h3) (by decide))

/-- A number of at most 'most', and the reader behind it. -/
def rSize (most : Int) (bad : Bool) (l : List UInt8) : Nat × Bool × List UInt8 :=
  let r := rNum bad l
  if r.2.1 = true ∨ most < 0 ∨ most < (r.1 : Int) then (0, true, []) else r

set_option maxRecDepth 100000 in
theorem size_r (w : World) (p : Option Addr) (bad : Bool) (l : List UInt8) (h : Rdr w p RB bad l) (most : Int) (hm : fit64 most) :
    Calls Try.prog 71 #[.pointer p, .int .i64 most] w fun e w' => e = .returned (.int .i64 ((rSize most bad l).1 : Int)) ∧ Rdr w' p RB (rSize most bad l).2.1 (rSize most bad l).2.2 ∧ Only (Mine p) w w' := by
  have HN := Lib.hid (number_r w p bad l h)
  have hb := rNum_bad bad l
  have hlt := rNum_lt bad l
  unfold fit64 at hm
  unfold rSize
  simp only
  clear h
  generalize rNum bad l = r at *
  obtain ⟨n, bd, l1⟩ := r
  simp only at *
  cases bd
  · by_cases hneg : most < 0
    · rw [if_pos (.inr (.inl hneg))]
      clear hb
      have hd : decide (most < 0) = true := decide_eq_true hneg
      go_enter Try.func71, Try.ntmps71
      go_wp2_with fail
      refine HN.out.mono ?_
      rintro e w1 ⟨rfl, hr1, ho1⟩
      have HG := Lib.hid (good_r w1 p _ _ hr1)
      have HF := Lib.hid (fail_r w1 p _ _ hr1)
      have HO1 := Lib.hid ho1
      clear hr1 ho1
      go_wp2_with (go_at_call 52; refine HG.out.mono ?_; clear HG; rintro e w2 ⟨rfl, rfl⟩)
      refine HF.out.mono ?_
      rintro e w3 ⟨rfl, hr3, ho3⟩
      have HG := Lib.hid (good_r w3 p _ _ hr3)
      have HR3 := Lib.hid hr3
      have HO3 := Lib.hid ho3
      clear hr3 ho3
      go_wp2_with (go_at_call 52; refine HG.out.mono ?_; clear HG; rintro e w2 ⟨rfl, rfl⟩)
      go_ret
      exact ⟨rfl, HR3.out, mine_trans HO1.out HO3.out⟩
    · have hw : IntKind.u64.wrap most = most := by rw [IntKind.wrap_u64]; omega
      by_cases hgt : most < (n : Int)
      · rw [if_pos (.inr (.inr hgt))]
        clear hb
        go_enter Try.func71, Try.ntmps71
        go_wp2_with fail
        refine HN.out.mono ?_
        rintro e w1 ⟨rfl, hr1, ho1⟩
        have HG := Lib.hid (good_r w1 p _ _ hr1)
        have HF := Lib.hid (fail_r w1 p _ _ hr1)
        have HO1 := Lib.hid ho1
        clear hr1 ho1
        go_wp2_with (go_at_call 52; refine HG.out.mono ?_; clear HG; rintro e w2 ⟨rfl, rfl⟩)
        refine HF.out.mono ?_
        rintro e w3 ⟨rfl, hr3, ho3⟩
        have HG := Lib.hid (good_r w3 p _ _ hr3)
        have HR3 := Lib.hid hr3
        have HO3 := Lib.hid ho3
        clear hr3 ho3
        go_wp2_with (go_at_call 52; refine HG.out.mono ?_; clear HG; rintro e w2 ⟨rfl, rfl⟩)
        go_ret
        exact ⟨rfl, HR3.out, mine_trans HO1.out HO3.out⟩
      · rw [if_neg (by simp [hneg, hgt])]
        clear hb
        have hw2 : IntKind.i64.wrap (n : Int) = n := by rw [IntKind.wrap_i64]; omega
        go_enter Try.func71, Try.ntmps71
        go_wp2_with fail
        refine HN.out.mono ?_
        rintro e w1 ⟨rfl, hr1, ho1⟩
        have HG := Lib.hid (good_r w1 p _ _ hr1)
        have HR1 := Lib.hid hr1
        have HO1 := Lib.hid ho1
        clear hr1 ho1
        go_wp2_with (go_at_call 52; refine HG.out.mono ?_; rintro e w2 ⟨rfl, rfl⟩)
        go_ret
        exact ⟨by first | rfl | rw [hw2], HR1.out, HO1.out⟩
  · rw [if_pos (.inl rfl)]
    obtain ⟨rfl, rfl⟩ := hb rfl
    clear hb
    go_enter Try.func71, Try.ntmps71
    go_wp2_with fail
    refine HN.out.mono ?_
    rintro e w1 ⟨rfl, hr1, ho1⟩
    have HG := Lib.hid (good_r w1 p _ _ hr1)
    have HR1 := Lib.hid hr1
    have HO1 := Lib.hid ho1
    clear hr1 ho1
    go_wp2_with (go_at_call 52; refine HG.out.mono ?_; rintro e w2 ⟨rfl, rfl⟩)
    go_ret
    exact ⟨rfl, HR1.out, HO1.out⟩

/-- A signed number, out of its place. -/
def unzig (n : Nat) : Int := if n % 2 = 0 then n / 2 else -(n / 2 : Nat) - 1
theorem wrap_64 (x : Int) : wrap64 x = IntKind.i64.wrap x := by rw [IntKind.wrap_i64]; unfold wrap64; first | rfl | omega
theorem unzig_bits (n : Nat) (h : n < 18446744073709551616) : bits .xor .i64 ((n : Int) / 2) (IntKind.i64.wrap (-IntKind.i64.wrap (bits .and .u64 (n : Int) 1))) = unzig n := by
  have e1 : bits .and .u64 (n : Int) 1 = ((n % 2 : Nat) : Int) := by
    have := bits_and_u64_nat n 1 h (by decide)
    rw [Nat.and_one_is_mod] at this
    exact this
  have e2 : (n : Int) / 2 = ((n / 2 : Nat) : Int) := by omega
  have h1 : (BitVec.ofInt 64 ((n / 2 : Nat) : Int)).toNat = n / 2 := by
    rw [BitVec.ofInt_natCast, BitVec.toNat_ofNat]; exact Nat.mod_eq_of_lt (by omega)
  rw [e1, e2]
  unfold unzig
  rcases Nat.mod_two_eq_zero_or_one n with h0 | h0
  · rw [h0, if_pos rfl]
    have e3 : IntKind.i64.wrap (-IntKind.i64.wrap ((0 : Nat) : Int)) = ((0 : Nat) : Int) := by rfl
    rw [e3]
    show IntKind.i64.wrap ((BitVec.ofInt 64 ((n / 2 : Nat) : Int) ^^^ BitVec.ofInt 64 ((0 : Nat) : Int)).toNat : Int) = _
    have h2 : (BitVec.ofInt 64 ((0 : Nat) : Int)).toNat = 0 := by rfl
    rw [BitVec.toNat_xor, h1, h2, Nat.xor_zero, IntKind.wrap_i64]
    omega
  · rw [h0, if_neg (by decide)]
    have e3 : IntKind.i64.wrap (-IntKind.i64.wrap ((1 : Nat) : Int)) = -1 := by rfl
    rw [e3]
    show IntKind.i64.wrap ((BitVec.ofInt 64 ((n / 2 : Nat) : Int) ^^^ BitVec.ofInt 64 (-1)).toNat : Int) = _
    have h2 : (BitVec.ofInt 64 (-1)).toNat = 18446744073709551615 := by rfl
    rw [BitVec.toNat_xor, h1, h2, xor_ones _ (by omega), IntKind.wrap_i64]
    omega
def rSign (bad : Bool) (l : List UInt8) : Int × Bool × List UInt8 := (unzig (rNum bad l).1, (rNum bad l).2)
set_option maxRecDepth 100000 in
theorem sign_r (w : World) (p : Option Addr) (bad : Bool) (l : List UInt8) (h : Rdr w p RB bad l) :
    Calls Try.prog 47 #[.pointer p] w fun e w' => e = .returned (.int .i64 (rSign bad l).1) ∧ Rdr w' p RB (rSign bad l).2.1 (rSign bad l).2.2 ∧ Only (Mine p) w w' := by
  have HN := Lib.hid (number_r w p bad l h)
  have hlt := rNum_lt bad l
  unfold rSign
  simp only
  clear h
  generalize rNum bad l = r at *
  obtain ⟨n, bd, l1⟩ := r
  simp only at *
  go_enter Try.func47, Try.ntmps47
  go_wp2_with (go_at_call 89; refine HN.out.mono ?_; clear HN; rintro e w1 ⟨rfl, hr1, ho1⟩)
  have he : bits .xor .i64 ((n : Int) / 2) (wrap64 (-wrap64 (bits .and .u64 (n : Int) 1))) = unzig n := by rw [wrap_64, wrap_64]; exact unzig_bits n hlt
  go_ret
  exact ⟨by first | rfl | rw [← he]; rfl, hr1, ho1⟩

/-- A text of at most 'most' bytes, and the reader behind it. -/
def rText (most : Int) (bad : Bool) (l : List UInt8) : List UInt8 × Bool × List UInt8 := rCut (rSize most bad l).1 (rSize most bad l).2.1 (rSize most bad l).2.2
set_option maxRecDepth 100000 in
theorem text_r (w : World) (p : Option Addr) (bad : Bool) (l : List UInt8) (h : Rdr w p RB bad l) (most : Int) (hm : fit64 most) :
    Calls Try.prog 48 #[.pointer p, .int .i64 most] w fun e w' => e = .returned (.string ⟨(rText most bad l).1.toArray⟩) ∧ Rdr w' p RB (rText most bad l).2.1 (rText most bad l).2.2 ∧ Only (Mine p) w w' := by
  have HS := Lib.hid (size_r w p bad l h most hm)
  unfold rText
  clear h hm
  generalize rSize most bad l = r at *
  obtain ⟨n, bd, l1⟩ := r
  simp only at *
  go_enter Try.func48, Try.ntmps48
  go_wp2_with (go_at_call 71; refine HS.out.mono ?_; clear HS; rintro e w1 ⟨rfl, hr1, ho1⟩; have HC := Lib.hid (cut_r w1 p _ _ hr1 n); have HO1 := Lib.hid ho1; clear hr1 ho1)
  refine HC.out.mono ?_
  rintro e w2 ⟨v, rfl, hs, hr2, ho2⟩
  have kc := sl_string _ _ _ _ hs
  have HR2 := Lib.hid hr2
  have HO2 := Lib.hid ho2
  clear hs hr2 ho2 HC
  go_wp2
  go_ret
  exact ⟨rfl, HR2.out, mine_trans HO1.out HO2.out⟩
end Go.Proofs.Ytdhdphmehjkbnaa
/- The reader: Value. -/
namespace Go.Proofs.Ytdhdphmehjkbnaa
open Go.RowKit Go.Afx
variable {RB : Nat → Prop}

theorem Rdr.lt {w : World} {p : Option Addr} {bad : Bool} {l : List UInt8} (h : Rdr w p RB bad l) : ∀ k, Mine p k → k < w.heap.size := by
  intro k hk
  rcases h with ⟨rfl, _, _⟩ | ⟨b, rfl, h⟩
  · cases hk
  · obtain ⟨bv, h1, _⟩ := h
    rw [mine_eq hk]; exact h1.lt
theorem Rdr.below {w w' : World} {p : Option Addr} {bad : Bool} {l : List UInt8} (h : Rdr w p RB bad l) (hb : Below w.heap.size w w') : Rdr w' p RB bad l := by
  rcases h with ⟨rfl, rfl, rfl⟩ | ⟨b, rfl, h⟩
  · exact .inl ⟨rfl, rfl, rfl⟩
  · obtain ⟨bv, h1, h2, h3⟩ := h
    exact .inr ⟨b, rfl, bv, h1.below hb, h2.below hb, h3⟩
theorem Rdr.only {w w' : World} {p : Option Addr} {bad : Bool} {l : List UInt8} {S : Nat → Prop} (h : Rdr w p RB bad l) (hb : Only S w w') (hbb : ∀ k, S k → ¬ Mine p k) (hs : ∀ k, S k → ¬ RB k) : Rdr w' p RB bad l := by
  rcases h with ⟨rfl, rfl, rfl⟩ | ⟨b2, rfl, h⟩
  · exact .inl ⟨rfl, rfl, rfl⟩
  · obtain ⟨bv, h1, h2, h3⟩ := h
    exact .inr ⟨b2, rfl, bv, h1.only hb (fun h => hbb _ h rfl), h2.only hb (fun k hk h => hs k h hk.2), h3⟩

/-- A value as it stands, and the reader behind it. -/
def rRaw (bad : Bool) (l : List UInt8) : AV × Bool × List UInt8 :=
  let k := rByte bad l
  if k.1 = 1 then (⟨1, (rSign k.2.1 k.2.2).1, ⟨#[]⟩⟩, (rSign k.2.1 k.2.2).2) else if k.1 = 2 then (⟨2, 0, ⟨(rText 200 k.2.1 k.2.2).1.toArray⟩⟩, (rText 200 k.2.1 k.2.2).2)
    else if k.1 = 3 then (⟨3, (rByte k.2.1 k.2.2).1, ⟨#[]⟩⟩, (rByte k.2.1 k.2.2).2) else (⟨k.1, 0, ⟨#[]⟩⟩, k.2)
def AV.none : AV := ⟨0, 0, ⟨#[]⟩⟩
/-- A right value, and the reader behind it. -/
def rVal (bad : Bool) (l : List UInt8) : AV × Bool × List UInt8 := if (rRaw bad l).1.right = true ∧ (rRaw bad l).2.1 = false then rRaw bad l else (AV.none, true, [])

theorem AV.cells_none : AV.none.cells = [.int .i64 0, .int .i64 0, .string ⟨#[]⟩] := rfl
set_option maxRecDepth 100000 in
set_option maxHeartbeats 1000000 in
theorem val_r (w : World) (p : Option Addr) (bad : Bool) (l : List UInt8) (h : Rdr w p RB bad l) (hRB : ∀ k, RB k → k < w.heap.size) :
    Calls Try.prog 82 #[.pointer p] w fun e w' => e = .returned (rVal bad l).1.agg ∧ Rdr w' p RB (rVal bad l).2.1 (rVal bad l).2.2 ∧ Only (Mine p) w w' := by
  have hlt := h.lt
  have hal : Below w.heap.size w (w.alloc (.cells #[.int .i64 0, .int .i64 0, .string .empty] 56)) := (Below.refl _ _).alloc (Nat.le_refl _) _
  have HB := Lib.hid (byte_r _ p bad l (h.below hal))
  have HK2 : Hid (Blk (w.alloc (.cells #[.int .i64 0, .int .i64 0, .string .empty] 56)) w.heap.size 56 [.int .i64 0, .int .i64 0, .string .empty]) := Blk.new w 56 [.int .i64 0, .int .i64 0, .string .empty]
  have HO0 := Lib.hid ((Only.refl (Mine p) w).alloc (.cells #[.int .i64 0, .int .i64 0, .string .empty] 56))
  have hsz0 : (w.alloc (.cells #[.int .i64 0, .int .i64 0, .string .empty] 56)).heap.size = w.heap.size + 1 := by simp
  have HLT := Lib.hid hlt
  have HRB := Lib.hid hRB
  have HV : Hid (rVal bad l = if (rRaw bad l).1.right = true ∧ (rRaw bad l).2.1 = false then rRaw bad l else (AV.none, true, [])) := rfl
  generalize hv : rVal bad l = out at *
  have HRAW : Hid (∀ n bd l1, rByte bad l = (n, bd, l1) → rRaw bad l = if n = 1 then (⟨1, (rSign bd l1).1, ⟨#[]⟩⟩, (rSign bd l1).2) else if n = 2 then (⟨2, 0, ⟨(rText 200 bd l1).1.toArray⟩⟩, (rText 200 bd l1).2)
    else if n = 3 then (⟨3, (rByte bd l1).1, ⟨#[]⟩⟩, (rByte bd l1).2) else (⟨n, 0, ⟨#[]⟩⟩, bd, l1)) := fun n bd l1 h => by unfold rRaw; rw [h]
  generalize hr : rRaw bad l = rw at *
  clear h hal hr hlt hRB hv
  generalize hrb : rByte bad l = r at *
  obtain ⟨n, bd, l1⟩ := r
  have HRAW2 := Lib.hid (HRAW.out n bd l1 rfl)
  clear HRAW
  simp only at *
  clear hrb
  go_enter Try.func82, Try.ntmps82
  go_upto_block 0 with (go_at_call 101; refine HB.out.mono ?_; clear HB; rintro e w1 ⟨rfl, hr1, ho1⟩; have HR1 := Lib.hid hr1; have HO1 := Lib.hid ho1; clear hr1 ho1)
  have hlt1 : w.heap.size < w1.heap.size := by have := HO1.out.size; omega
  have hq1 : ∀ k, Mine p k → k < w.heap.size := HLT.out
  have hnm2 : ¬ Mine p w.heap.size := fun h => Nat.lt_irrefl _ (hq1 _ h)
  have hnm3 : ¬ Mine p w1.heap.size := fun h => by have := hq1 _ h; omega
  have HNM2 := Lib.hid hnm2
  have HNM3 := Lib.hid hnm3
  have HZ1 := Lib.hid (HK2.out.only HO1.out hnm2)
  have HW1 := Lib.hid (HO0.out.trans HO1.out (fun _ _ h => h))
  have hal1 : Below w1.heap.size w1 (w1.alloc (.cells #[.int .i64 n, .int .i64 0, .string ⟨#[]⟩] 56)) := (Below.refl _ _).alloc (Nat.le_refl _) _
  have HB3 : Hid (Blk (w1.alloc (.cells #[.int .i64 n, .int .i64 0, .string ⟨#[]⟩] 56)) w1.heap.size 56 [.int .i64 n, .int .i64 0, .string ⟨#[]⟩]) := Blk.new w1 _ _
  have HZ3 := Lib.hid (HZ1.out.below hal1)
  have HR3 := Lib.hid (HR1.out.below hal1)
  have HW3 := Lib.hid (HW1.out.alloc (.cells #[.int .i64 n, .int .i64 0, .string ⟨#[]⟩] 56))
  have hsz3 : (w1.alloc (.cells #[.int .i64 n, .int .i64 0, .string ⟨#[]⟩] 56)).heap.size = w1.heap.size + 1 := by simp
  clear hq1 hnm2 hnm3 hal1 HK2 HO0
  generalize hw3 : w1.alloc (.cells #[.int .i64 n, .int .i64 0, .string ⟨#[]⟩] 56) = w3 at *
  have k0 : w3.cell? ⟨w1.heap.size, 0, none⟩ = some (.int .i64 n) := HB3.out.cell 0
  clear hw3
  go_cut [] (fun wc => Blk wc w1.heap.size 56 rw.1.cells ∧ Blk wc w.heap.size 56 [.int .i64 0, .int .i64 0, .string .empty] ∧ Rdr wc p RB rw.2.1 rw.2.2 ∧ Only (Mine p) w wc)
  case first =>
    by_cases h1 : n = 1
    · subst h1
      have HS := Lib.hid (sign_r w3 p _ _ HR3.out)
      have HE : Hid (rw = (⟨1, (rSign bd l1).1, ⟨#[]⟩⟩, (rSign bd l1).2)) := by have := HRAW2.out; rw [if_pos rfl] at this; exact this
      clear HRAW2
      generalize rSign bd l1 = rs at *
      obtain ⟨x, bd2, l2⟩ := rs
      simp only at HE HS
      go_wp2_with fail
      refine HS.out.mono ?_
      rintro e w4 ⟨rfl, hr4, ho4⟩
      have hb4 := HB3.out.only ho4 HNM3.out
      have HR4 := Lib.hid hr4
      have k1 : w4.cell? ⟨w1.heap.size, 1, none⟩ = some (.int .i64 0) := hb4.cell 1
      have kf : ∀ i, w4.frozen? ⟨w1.heap.size, i, none⟩ = false := hb4.frozen
      have HB5 := Lib.hid (hb4.set 1 (.int .i64 x))
      have HZ5 := Lib.hid ((HZ3.out.only ho4 HNM2.out).setOther (p := ⟨w1.heap.size, 1, none⟩) (Nat.ne_of_lt hlt1) (.int .i64 x))
      have HW4 := Lib.hid (HW3.out.trans ho4 (fun _ _ h => h))
      clear hb4 hr4 ho4 HS HB3 HZ3 HR3 k0
      go_wp2
      go_meet
      rw [HE.out]
      exact ⟨HB5.out, HZ5.out, HR4.out.only ((Only.refl (fun k => k = w1.heap.size) w4).setCell (p := ⟨w1.heap.size, 1, none⟩) (fun _ => rfl) _) (fun k hk => by rw [hk]; exact HNM3.out) (fun k hk h => by rw [hk] at h; have := HRB.out _ h; omega), HW4.out.setCell (p := ⟨w1.heap.size, 1, none⟩) (fun h => absurd h (by simp; omega)) _⟩
    · have n1 : (n == 1) = false := by rw [beq_eq_false_iff_ne]; exact h1
      by_cases h2 : n = 2
      · subst h2
        have HS := Lib.hid (text_r w3 p _ _ HR3.out 200 (by unfold fit64; omega))
        have HE : Hid (rw = (⟨2, 0, ⟨(rText 200 bd l1).1.toArray⟩⟩, (rText 200 bd l1).2)) := by have := HRAW2.out; rw [if_neg (by decide), if_pos rfl] at this; exact this
        clear HRAW2
        generalize rText 200 bd l1 = rs at *
        obtain ⟨x, bd2, l2⟩ := rs
        simp only at HE HS
        clear n1 h1
        go_wp2_with fail
        refine HS.out.mono ?_
        rintro e w4 ⟨rfl, hr4, ho4⟩
        have hb4 := HB3.out.only ho4 HNM3.out
        have HR4 := Lib.hid hr4
        have k1 : w4.cell? ⟨w1.heap.size, 2, none⟩ = some (.string ⟨#[]⟩) := hb4.cell 2
        have kf : ∀ i, w4.frozen? ⟨w1.heap.size, i, none⟩ = false := hb4.frozen
        have HB5 := Lib.hid (hb4.set 2 (.string ⟨x.toArray⟩))
        have HZ5 := Lib.hid ((HZ3.out.only ho4 HNM2.out).setOther (p := ⟨w1.heap.size, 2, none⟩) (Nat.ne_of_lt hlt1) (.string ⟨x.toArray⟩))
        have HW4 := Lib.hid (HW3.out.trans ho4 (fun _ _ h => h))
        clear hb4 hr4 ho4 HS HB3 HZ3 HR3 k0
        go_wp2
        go_meet
        rw [HE.out]
        exact ⟨HB5.out, HZ5.out, HR4.out.only ((Only.refl (fun k => k = w1.heap.size) w4).setCell (p := ⟨w1.heap.size, 2, none⟩) (fun _ => rfl) _) (fun k hk => by rw [hk]; exact HNM3.out) (fun k hk h => by rw [hk] at h; have := HRB.out _ h; omega), HW4.out.setCell (p := ⟨w1.heap.size, 2, none⟩) (fun h => absurd h (by simp; omega)) _⟩
      · have n2 : (n == 2) = false := by rw [beq_eq_false_iff_ne]; exact h2
        by_cases h3 : n = 3
        · subst h3
          have HS := Lib.hid (byte_r w3 p _ _ HR3.out)
          have HE : Hid (rw = (⟨3, (rByte bd l1).1, ⟨#[]⟩⟩, (rByte bd l1).2)) := by have := HRAW2.out; rw [if_neg (by decide), if_neg (by decide), if_pos rfl] at this; exact this
          clear HRAW2
          generalize rByte bd l1 = rs at *
          obtain ⟨x, bd2, l2⟩ := rs
          simp only at HE HS
          clear n1 h1 n2 h2
          go_wp2_with fail
          refine HS.out.mono ?_
          rintro e w4 ⟨rfl, hr4, ho4⟩
          have hb4 := HB3.out.only ho4 HNM3.out
          have HR4 := Lib.hid hr4
          have k1 : w4.cell? ⟨w1.heap.size, 1, none⟩ = some (.int .i64 0) := hb4.cell 1
          have kf : ∀ i, w4.frozen? ⟨w1.heap.size, i, none⟩ = false := hb4.frozen
          have HB5 := Lib.hid (hb4.set 1 (.int .i64 x))
          have HZ5 := Lib.hid ((HZ3.out.only ho4 HNM2.out).setOther (p := ⟨w1.heap.size, 1, none⟩) (Nat.ne_of_lt hlt1) (.int .i64 x))
          have HW4 := Lib.hid (HW3.out.trans ho4 (fun _ _ h => h))
          clear hb4 hr4 ho4 HS HB3 HZ3 HR3 k0
          go_wp2
          go_meet
          rw [HE.out]
          exact ⟨HB5.out, HZ5.out, HR4.out.only ((Only.refl (fun k => k = w1.heap.size) w4).setCell (p := ⟨w1.heap.size, 1, none⟩) (fun _ => rfl) _) (fun k hk => by rw [hk]; exact HNM3.out) (fun k hk h => by rw [hk] at h; have := HRB.out _ h; omega), HW4.out.setCell (p := ⟨w1.heap.size, 1, none⟩) (fun h => absurd h (by simp; omega)) _⟩
        · have n3 : (n == 3) = false := by rw [beq_eq_false_iff_ne]; exact h3
          have HE : Hid (rw = (⟨n, 0, ⟨#[]⟩⟩, bd, l1)) := by have := HRAW2.out; rw [if_neg h1, if_neg h2, if_neg h3] at this; exact this
          clear HRAW2 h1 h2 h3
          go_wp2
          go_meet
          rw [HE.out]
          exact ⟨HB3.out, HZ3.out, HR3.out, HW3.out⟩
  case rest =>
    obtain ⟨hb, hz, hr, ho⟩ := hcut
    have HR := Lib.hid hr
    have HO := Lib.hid ho
    clear HRAW2 HR1 HO1 HZ1 HW1 HB3 HZ3 HR3 HW3 k0 hsz3 hsz0
    obtain ⟨⟨k, n2, s⟩, bd2, l2⟩ := rw
    have k0 : wc.cell? ⟨w1.heap.size, 0, none⟩ = some (.int .i64 k) := hb.cell 0
    have k1 : wc.cell? ⟨w1.heap.size, 1, none⟩ = some (.int .i64 n2) := hb.cell 1
    have k2 : wc.cell? ⟨w1.heap.size, 2, none⟩ = some (.string s) := hb.cell 2
    have HB := Lib.hid hb
    have HZ := Lib.hid hz
    simp only at HR HV HO
    have hsl : Sl (wc.alloc (.cells #[.int .i64 k, .int .i64 n2, .string s] 56)) (fun _ => True) 3 (.slice (some ⟨wc.heap.size, 0, none⟩) 1 1) [(⟨k, n2, s⟩ : AV)].length (rowCells [⟨k, n2, s⟩]) :=
      (Own.made wc 56 3 (rowCells [⟨k, n2, s⟩]) [] 1 1 rfl (by intro u hu; simp [rowCells, AV.cells] at hu; rcases hu with rfl | rfl | rfl <;> rfl) (Nat.le_refl _) (by simp [maxLen]) (by simp [rowCells, AV.cells])).sl (fun _ _ => trivial)
    have HRT := Lib.hid (right_any _ _ _ [⟨k, n2, s⟩] hsl (by simp))
    have era : rightAll [⟨k, n2, s⟩] = (⟨k, n2, s⟩ : AV).right := by simp [rightAll]
    rw [era] at HRT
    generalize hvr : (⟨k, n2, s⟩ : AV).right = r at *
    have hblw : Below wc.heap.size wc (wc.alloc (.cells #[.int .i64 k, .int .i64 n2, .string s] 56)) := (Below.refl _ _).alloc (Nat.le_refl _) _
    have HBLW := Lib.hid hblw
    clear hsl era hvr hb hz hr ho hblw
    have hltc : w1.heap.size < wc.heap.size := HB.out.lt
    go_wp2_with fail
    refine HRT.out.mono ?_
    clear HRT
    rintro e w5 ⟨rfl, hb5⟩
    have hbl5 : Below wc.heap.size wc w5 := HBLW.out.trans (hb5.mono HBLW.out.size)
    have HB5 := Lib.hid (HB.out.below hbl5)
    have HZ5 := Lib.hid (HZ.out.below hbl5)
    have HR5 := Lib.hid (HR.out.below hbl5)
    have HO5 := Lib.hid (HO.out.trans (Only.of_none hbl5 (S := fun _ => False)) (fun _ _ h => h.elim))
    clear hb5 hbl5 HB HZ HR HO k0 k1 k2 HBLW
    cases r
    · have HE : Hid (out = (AV.none, true, [])) := by have := HV.out; rw [if_neg (by simp)] at this; exact this
      clear HV
      have HF := Lib.hid (fail_r w5 p _ _ HR5.out)
      go_wp2_with fail
      refine HF.out.mono ?_
      clear HF
      rintro e w6 ⟨rfl, hr6, ho6⟩
      have HG := Lib.hid (good_r w6 p _ _ hr6)
      have HR6 := Lib.hid hr6
      have HO6 := Lib.hid (HO5.out.trans ho6 (fun _ _ h => h))
      have hz6 := HZ5.out.only ho6 HNM2.out
      have z0 : w6.cell? ⟨w.heap.size, 0, none⟩ = some (.int .i64 0) := hz6.cell 0
      have z1 : w6.cell? ⟨w.heap.size, 1, none⟩ = some (.int .i64 0) := hz6.cell 1
      have z2 : w6.cell? ⟨w.heap.size, 2, none⟩ = some (.string .empty) := hz6.cell 2
      have zf : ∀ i, w6.frozen? ⟨w.heap.size, i, none⟩ = false := hz6.frozen
      have HZ6 := Lib.hid hz6
      clear hr6 ho6 hz6 HB5 HZ5 HR5 HO5
      go_wp2_with (go_at_call 52; refine HG.out.mono ?_; clear HG; rintro e w7 ⟨rfl, rfl⟩)
      rw [HE.out]
      refine bodyPost_ret (v := .agg #[.int .i64 0, .int .i64 0, .string ⟨#[]⟩]) (by simp [results, Try.results82, go_sem, z0, z1, z2]) rfl ⟨rfl, ?_⟩
      have ho7 : Only (fun k => k = w.heap.size) w6 (((w6.setCell ⟨w.heap.size, 0, none⟩ (.int .i64 0)).setCell ⟨w.heap.size, 1, none⟩ (.int .i64 0)).setCell ⟨w.heap.size, 2, none⟩ (.string ⟨#[]⟩)) :=
        (((Only.refl (fun k => k = w.heap.size) _).setCell (p := ⟨w.heap.size, 0, none⟩) (fun _ => rfl) _).setCell (p := ⟨w.heap.size, 1, none⟩) (fun _ => rfl) _).setCell (p := ⟨w.heap.size, 2, none⟩) (fun _ => rfl) _
      exact ⟨HR6.out.only ho7 (fun k hk => by rw [hk]; exact HNM2.out) (fun k hk h => by rw [hk] at h; have := HRB.out _ h; omega), HO6.out.trans ho7 (fun k hk h => by omega)⟩
    · have HG := Lib.hid (good_r w5 p _ _ HR5.out)
      have hz5 := HZ5.out
      have z0 : w5.cell? ⟨w.heap.size, 0, none⟩ = some (.int .i64 0) := hz5.cell 0
      have z1 : w5.cell? ⟨w.heap.size, 1, none⟩ = some (.int .i64 0) := hz5.cell 1
      have z2 : w5.cell? ⟨w.heap.size, 2, none⟩ = some (.string .empty) := hz5.cell 2
      have zf : ∀ i, w5.frozen? ⟨w.heap.size, i, none⟩ = false := hz5.frozen
      have v0 : w5.cell? ⟨w1.heap.size, 0, none⟩ = some (.int .i64 k) := HB5.out.cell 0
      have v1 : w5.cell? ⟨w1.heap.size, 1, none⟩ = some (.int .i64 n2) := HB5.out.cell 1
      have v2 : w5.cell? ⟨w1.heap.size, 2, none⟩ = some (.string s) := HB5.out.cell 2
      clear hz5
      cases bd2
      · have HE : Hid (out = (⟨k, n2, s⟩, false, l2)) := by have := HV.out; rw [if_pos ⟨rfl, rfl⟩] at this; exact this
        clear HV
        go_wp2_with (go_at_call 52; refine HG.out.mono ?_; clear HG; rintro e w7 ⟨rfl, rfl⟩)
        rw [HE.out]
        refine bodyPost_ret (v := .agg #[.int .i64 k, .int .i64 n2, .string s]) (by simp [results, Try.results82, go_sem, z0, z1, z2]) rfl ⟨rfl, ?_⟩
        have ho7 : Only (fun k => k = w.heap.size) w5 (((w5.setCell ⟨w.heap.size, 0, none⟩ (.int .i64 k)).setCell ⟨w.heap.size, 1, none⟩ (.int .i64 n2)).setCell ⟨w.heap.size, 2, none⟩ (.string s)) :=
          (((Only.refl (fun k => k = w.heap.size) _).setCell (p := ⟨w.heap.size, 0, none⟩) (fun _ => rfl) _).setCell (p := ⟨w.heap.size, 1, none⟩) (fun _ => rfl) _).setCell (p := ⟨w.heap.size, 2, none⟩) (fun _ => rfl) _
        exact ⟨HR5.out.only ho7 (fun k hk => by rw [hk]; exact HNM2.out) (fun k hk h => by rw [hk] at h; have := HRB.out _ h; omega), HO5.out.trans ho7 (fun k hk h => by omega)⟩
      · have HE : Hid (out = (AV.none, true, [])) := by have := HV.out; rw [if_neg (by simp)] at this; exact this
        have hl2 : l2 = [] := HR5.out.empty rfl
        subst hl2
        clear HV
        go_wp2_with (go_at_call 52; refine HG.out.mono ?_; clear HG; rintro e w7 ⟨rfl, rfl⟩)
        rw [HE.out]
        refine bodyPost_ret (v := .agg #[.int .i64 0, .int .i64 0, .string ⟨#[]⟩]) (by simp [results, Try.results82, go_sem, z0, z1, z2]) rfl ⟨rfl, ?_⟩
        have ho7 : Only (fun k => k = w.heap.size) w5 (((w5.setCell ⟨w.heap.size, 0, none⟩ (.int .i64 0)).setCell ⟨w.heap.size, 1, none⟩ (.int .i64 0)).setCell ⟨w.heap.size, 2, none⟩ (.string ⟨#[]⟩)) :=
          (((Only.refl (fun k => k = w.heap.size) _).setCell (p := ⟨w.heap.size, 0, none⟩) (fun _ => rfl) _).setCell (p := ⟨w.heap.size, 1, none⟩) (fun _ => rfl) _).setCell (p := ⟨w.heap.size, 2, none⟩) (fun _ => rfl) _
        exact ⟨HR5.out.only ho7 (fun k hk => by rw [hk]; exact HNM2.out) (fun k hk h => by rw [hk] at h; have := HRB.out _ h; omega), HO5.out.trans ho7 (fun k hk h => by omega)⟩
end Go.Proofs.Ytdhdphmehjkbnaa
/- The reader: how much is taken (plain); Row. -/
namespace Go.Proofs.Ytdhdphmehjkbnaa
open Go.RowKit Go.Afx
variable {RB : Nat → Prop}

theorem elemAV : Elem Try.prog 48 56 3 32 (.agg #[.int .i64 0, .int .i64 0, .string ⟨#[]⟩]) :=
  ⟨Try.underlying48, by kernel_rfl, rfl, by omega, by intro u hu; simp [Value.cells] at hu; rcases hu with rfl | rfl | rfl <;> rfl⟩

theorem rByte_good (bad : Bool) (l : List UInt8) (h : (rByte bad l).2.1 = false) : bad = false ∧ (rByte bad l).2.2.length + 1 = l.length := by
  cases bad
  · cases l
    · cases h
    · exact ⟨rfl, rfl⟩
  · cases h
theorem rNum_good (bad : Bool) (l : List UInt8) (h : (rNum bad l).2.1 = false) : bad = false ∧ (rNum bad l).2.2.length + 1 ≤ l.length := by
  unfold rNum at *
  simp only at *
  split at h
  · cases h
  · rename_i h1
    rw [if_neg h1]
    have hb := rByte_good bad l (by simpa using h1)
    split at h
    · cases h
    · rename_i h2
      rw [if_neg h2]
      split at h
      · cases h
      · rename_i h3
        rw [if_neg h3]
        refine ⟨hb.1, ?_⟩
        rw [List.length_drop]; omega
theorem rSize_good (most : Int) (bad : Bool) (l : List UInt8) (h : (rSize most bad l).2.1 = false) : bad = false ∧ (rSize most bad l).2.2.length + 1 ≤ l.length := by
  unfold rSize at *
  simp only at *
  split at h
  · cases h
  · rename_i h1
    rw [if_neg h1]
    exact rNum_good bad l h
theorem rText_good (most : Int) (bad : Bool) (l : List UInt8) (h : (rText most bad l).2.1 = false) : bad = false ∧ (rText most bad l).2.2.length + 1 ≤ l.length := by
  unfold rText rCut at *
  split at h
  · cases h
  · rename_i h1
    rw [if_neg h1]
    have h2 := rSize_good most bad l (by cases hq : (rSize most bad l).2.1; rfl; exact absurd (.inl hq) h1)
    refine ⟨h2.1, ?_⟩
    simp only [List.length_drop]; omega
theorem rRaw_good (bad : Bool) (l : List UInt8) (h : (rRaw bad l).2.1 = false) : bad = false ∧ (rRaw bad l).2.2.length + 1 ≤ l.length := by
  unfold rRaw at *
  simp only at *
  split at h
  · rename_i h1
    rw [if_pos h1]
    have h2 := rNum_good _ _ h
    have h3 := rByte_good bad l h2.1
    have h4 := h2.2
    exact ⟨h3.1, by simp only [rSign]; omega⟩
  · rename_i h1
    rw [if_neg h1]
    split at h
    · rename_i h2
      rw [if_pos h2]
      have h2 := rText_good _ _ _ h
      have h3 := rByte_good bad l h2.1
      exact ⟨h3.1, by simp only; omega⟩
    · rename_i h2
      rw [if_neg h2]
      split at h
      · rename_i h3
        rw [if_pos h3]
        have h2 := rByte_good _ _ h
        have h3 := rByte_good bad l h2.1
        exact ⟨h3.1, by simp only; omega⟩
      · rename_i h3
        rw [if_neg h3]
        have h3 := rByte_good bad l h
        exact ⟨h3.1, by simp only; omega⟩
theorem unzig_fit (n : Nat) (h : n < 18446744073709551616) : fit64 (unzig n) := by
  unfold fit64 unzig
  split <;> omega
theorem rVal_good (bad : Bool) (l : List UInt8) (h : (rVal bad l).2.1 = false) : bad = false ∧ (rVal bad l).2.2.length + 1 ≤ l.length ∧ (rVal bad l).1.right = true ∧ fit64 (rVal bad l).1.n := by
  unfold rVal at *
  split at h
  · rename_i h1
    rw [if_pos h1]
    have h2 := rRaw_good bad l h1.2
    refine ⟨h2.1, h2.2, h1.1, ?_⟩
    have hr := h1.1
    unfold rRaw at *
    simp only at *
    split
    · exact unzig_fit _ (rNum_lt _ _)
    · rename_i h3
      rw [if_neg h3] at hr
      split
      · unfold fit64; simp only; omega
      · rename_i h4
        rw [if_neg h4] at hr
        split
        · rename_i h5
          rw [if_pos h5] at hr
          simp [AV.right] at hr
          unfold fit64; simp only; omega
        · unfold fit64; simp only; omega
  · cases h

/-- So many, one behind the other, while the reader is good. -/
def rMany {α : Type} (f : Bool → List UInt8 → α × Bool × List UInt8) : Nat → Bool → List UInt8 → List α × Bool × List UInt8
  | 0, bad, l => ([], bad, l)
  | n + 1, bad, l => if bad then ([], bad, l) else ((f bad l).1 :: (rMany f n (f bad l).2.1 (f bad l).2.2).1, (rMany f n (f bad l).2.1 (f bad l).2.2).2)
def rList {α : Type} (f : Bool → List UInt8 → α × Bool × List UInt8) (most : Int) (bad : Bool) (l : List UInt8) : List α × Bool × List UInt8 :=
  let s := rSize most bad l
  let q := rMany f s.1 s.2.1 s.2.2
  if q.2.1 then ([], true, []) else q
def rRow (most : Int) (bad : Bool) (l : List UInt8) : List AV × Bool × List UInt8 := rList rVal most bad l

theorem rowCells_append (a b : List AV) : rowCells (a ++ b) = rowCells a ++ rowCells b := by simp [rowCells]
theorem own_val (w : World) (v : AV) : Own (w.alloc (.cells #[.int .i64 v.kind, .int .i64 v.n, .string v.s] 56)) 56 3 (.slice (some ⟨w.heap.size, 0, none⟩) 1 1) 1 (rowCells [v]) :=
  Own.made w 56 3 (rowCells [v]) [] 1 1 rfl (by intro u hu; simp [rowCells, AV.cells] at hu; rcases hu with rfl | rfl | rfl <;> rfl) (Nat.le_refl _) (by simp [maxLen]) (by simp [rowCells, AV.cells])
theorem sl_val (w : World) (v : AV) : Sl (w.alloc (.cells #[.int .i64 v.kind, .int .i64 v.n, .string v.s] 56)) (fun _ => True) 3 (.slice (some ⟨w.heap.size, 0, none⟩) 1 1) 1 (rowCells [v]) :=
  (own_val w v).sl (fun _ _ => trivial)

set_option maxRecDepth 100000 in
set_option maxHeartbeats 1000000 in
theorem row_r (w : World) (p : Option Addr) (bad : Bool) (l : List UInt8) (h : Rdr w p RB bad l) (hRB : ∀ k, RB k → k < w.heap.size) (most : Int) (hm : fit64 most) (hl : l.length ≤ 10000000) :
    Calls Try.prog 72 #[.pointer p, .int .i64 most] w fun e w' => ∃ v, e = .returned v ∧ Own w' 56 3 v (rRow most bad l).1.length (rowCells (rRow most bad l).1) ∧ (∀ k, v.ownBlock = some k → w.heap.size ≤ k) ∧
      Rdr w' p RB (rRow most bad l).2.1 (rRow most bad l).2.2 ∧ Only (Mine p) w w' := by
  have HS := Lib.hid (size_r w p bad l h most hm)
  have HLT := Lib.hid h.lt
  have HRB := Lib.hid hRB
  have hsg := rSize_good most bad l
  have HV : Hid (rRow most bad l = if (rMany rVal (rSize most bad l).1 (rSize most bad l).2.1 (rSize most bad l).2.2).2.1 then ([], true, []) else rMany rVal (rSize most bad l).1 (rSize most bad l).2.1 (rSize most bad l).2.2) := rfl
  generalize rRow most bad l = out at *
  have hsb : (rSize most bad l).1 < 18446744073709551616 := by
    have := rNum_lt bad l
    unfold rSize
    simp only
    split
    · simp
    · exact this
  have hsm : ((rSize most bad l).1 : Int) ≤ 9223372036854775807 := by
    unfold fit64 at hm
    unfold rSize
    simp only
    split
    · simp
    · rename_i hx; simp only [not_or] at hx; omega
  generalize hs : rSize most bad l = sz at *
  clear h hRB hm hs hsb
  obtain ⟨n, bd, l1⟩ := sz
  simp only at HV HS hsg hsm
  have hl1 : bd = false → l1.length ≤ 10000000 := fun hb => by have := (hsg hb).2; omega
  have HL1 := Lib.hid hl1
  clear hsg hl1
  generalize htot : rMany rVal n bd l1 = tot at *
  have HT := Lib.hid htot
  clear htot
  go_enter Try.func72, Try.ntmps72
  go_wp2_with (go_at_call 71; refine HS.out.mono ?_; clear HS; rintro e w1 ⟨rfl, hr1, ho1⟩; have HR1 := Lib.hid hr1; have HO1 := Lib.hid ho1; clear hr1 ho1)
  go_loopw [5, 6] (fun v i wr => ∃ (m : Nat) (acc : List AV) (bk : Bool) (lk : List UInt8), i = .int .i64 m ∧ m ≤ n ∧ Own wr 56 3 v acc.length (rowCells acc) ∧ (∀ k, v.ownBlock = some k → w.heap.size ≤ k) ∧
    Rdr wr p RB bk lk ∧ Only (Mine p) w wr ∧ acc ++ (rMany rVal m bk lk).1 = tot.1 ∧ (rMany rVal m bk lk).2 = tot.2 ∧ (bk = false → acc.length + lk.length ≤ 10000000) ∧ acc.length ≤ 10000001) (fun _ i _ => (intOf i).toNat)
  case atStart => exact ⟨n, [], bd, l1, rfl, Nat.le_refl _, Own.nil _ _ _, by simp [Value.ownBlock], HR1.out, HO1.out, by rw [HT.out]; rfl, by rw [HT.out], fun hb => by simpa using HL1.out hb, by simp⟩
  case round =>
    obtain ⟨m, acc, bk, lk, rfl, hmn, hown, hnew, hrd, ho, ht1, ht2, hc1, hc2⟩ := hrel
    obtain ⟨pv, cv, rfl, hcv1, hcv2⟩ := own_form2 hown
    have HG := Lib.hid (good_r _ p _ _ hrd)
    have HOWN := Lib.hid hown
    have HNEW := Lib.hid hnew
    have HRD := Lib.hid hrd
    have HO := Lib.hid ho
    have HT1 := Lib.hid ht1
    have HT2 := Lib.hid ht2
    have HC1 := Lib.hid hc1
    clear hown hnew hrd ho ht1 ht2 hc1
    cases bk
    · rcases Nat.eq_zero_or_pos m with hm0 | hm0
      · subst hm0
        go_wp2_with (go_at_call 52; refine HG.out.mono ?_; rintro e w7 ⟨rfl, rfl⟩)
        go_ret
        have e1 : tot = (acc, false, lk) := by
          have := HT1.out; have h2 := HT2.out
          simp [rMany] at this h2
          exact Prod.ext this.symm h2.symm
        have e2 := HV.out
        rw [e1] at e2
        simp at e2
        rw [e2]
        exact ⟨_, rfl, HOWN.out, HNEW.out, HRD.out, HO.out⟩
      · obtain ⟨m, rfl⟩ : ∃ m', m = m' + 1 := ⟨m - 1, by omega⟩
        have HX := Lib.hid (val_r wr p false lk HRD.out (fun k hk => Nat.lt_of_lt_of_le (HRB.out k hk) HO.out.size))
        have HGV := Lib.hid (rVal_good false lk)
        have hst1 : acc ++ (rVal false lk).1 :: (rMany rVal m (rVal false lk).2.1 (rVal false lk).2.2).1 = tot.1 := HT1.out
        have hst2 : (rMany rVal m (rVal false lk).2.1 (rVal false lk).2.2).2 = tot.2 := HT2.out
        have HST1 := Lib.hid hst1
        have HST2 := Lib.hid hst2
        clear hst1 hst2 HT1 HT2
        generalize rVal false lk = r at *
        obtain ⟨⟨xk, xn, xs⟩, b2, l2⟩ := r
        simp only [AV.agg] at HX HGV HST1 HST2
        have hpos : (0 : Int) < ((m + 1 : Nat) : Int) := by omega
        go_wp2_with (go_at_call 52; refine HG.out.mono ?_; clear HG; rintro e w7 ⟨rfl, rfl⟩)
        refine HX.out.mono ?_
        clear HX
        rintro e w2 ⟨rfl, hr2, ho2⟩
        have HO2 := Lib.hid ho2
        have hnm : ∀ k, (Value.slice pv acc.length cv).ownBlock = some k → ¬ Mine p k := fun k hk h => by have h1 := HNEW.out k hk; have h2 := HLT.out k h; omega
        have hal : Below w2.heap.size w2 (w2.alloc (.cells #[.int .i64 xk, .int .i64 xn, .string xs] 56)) := (Below.refl _ _).alloc (Nat.le_refl _) _
        have ho1 := (HOWN.out.only ho2 hnm).below hal
        have hs1 := sl_val w2 ⟨xk, xn, xs⟩
        have HR2 := Lib.hid (hr2.below hal)
        have HNM := Lib.hid hnm
        have hsz2 : (w2.alloc (.cells #[.int .i64 xk, .int .i64 xn, .string xs] 56)).heap.size = w2.heap.size + 1 := by simp
        have HSZ2 := Lib.hid hsz2
        have HAL := Lib.hid hal
        clear ho2 hr2 hnm hal hsz2
        go_wp2_with (at_builtin; refine wpList_app rfl _ _ rfl elemAV (by rfl) ho1 (by rfl) hs1 (by unfold maxLen; omega) (by omega) ?_; intro v1 w3 g1 g2 g3 g4 g5; clear ho1 hs1; have G1 := Lib.hid g1; have G2 := Lib.hid g2; have G3 := Lib.hid g3; clear g1 g2 g3 g4 g5)
        have hww : w.heap.size ≤ wr.heap.size := HO.out.size
        have hw2 : wr.heap.size ≤ w2.heap.size := HO2.out.size
        go_roundw
        case rel =>
          refine ⟨m, acc ++ [⟨xk, xn, xs⟩], b2, l2, by go_num, by omega, ?_, fun k hk => ?_, ?_, ?_, ?_, HST2.out, fun hb => ?_, ?_⟩
          · rw [List.length_append, rowCells_append]; exact G1.out
          · rcases G3.out with h | h
            · exact HNEW.out k (by rw [← h]; exact hk)
            · rw [h, HSZ2.out] at hk
              have : w2.heap.size + 1 = k := by simpa using hk
              omega
          · exact HR2.out.only G2.out HNM.out (fun k hk h => by have h1 := HNEW.out k hk; have h2 := HRB.out k h; omega)
          · refine ((HO.out.trans HO2.out (fun _ _ h => h)).trans (Only.of_none HAL.out (S := fun _ => False)) (fun _ _ h => h.elim)).trans G2.out (fun k hk h => ?_)
            have h1 := HNEW.out k h; omega
          · rw [List.append_assoc]; exact HST1.out
          · have h1 := HGV.out hb; have h2 := HC1.out trivial; rw [List.length_append]; simp only [List.length_cons, List.length_nil]; omega
          · have h2 := HC1.out trivial; rw [List.length_append]; simp only [List.length_cons, List.length_nil]; omega
        case measure => (simp [intOf]) <;> omega
    · have e1 : tot.2.1 = true := by
        rw [← HT2.out]
        cases m <;> rfl
      have e2 := HV.out
      rw [if_pos e1] at e2
      subst e2
      have hlk : lk = [] := HRD.out.empty rfl
      subst hlk
      clear HV HT1 HT2 HT
      go_wp2_with (go_at_call 52; refine HG.out.mono ?_; rintro e w7 ⟨rfl, rfl⟩)
      all_goals
        go_ret
        exact ⟨_, rfl, Own.nil _ _ _, by simp [Value.ownBlock], HRD.out, HO.out⟩
end Go.Proofs.Ytdhdphmehjkbnaa
namespace Go.Proofs.Ytdhdphmehjkbnaa
open Go.RowKit Go.Afx
variable {RB : Nat → Prop}

theorem elemRow : Elem Try.prog 36 48 1 24 (.slice none 0 0) :=
  ⟨Try.underlying36, by kernel_rfl, rfl, by omega, by intro u hu; simp [Value.cells] at hu; subst hu; rfl⟩

theorem rMany_good {α : Type} (f : Bool → List UInt8 → α × Bool × List UInt8) (hf : ∀ bad l, (f bad l).2.1 = false → bad = false ∧ (f bad l).2.2.length ≤ l.length) :
    ∀ n bad l, (rMany f n bad l).2.1 = false → bad = false ∧ (rMany f n bad l).2.2.length ≤ l.length
  | 0, bad, l, h => ⟨h, Nat.le_refl _⟩
  | n + 1, bad, l, h => by
    unfold rMany at *
    cases bad
    · rw [if_neg (by decide)] at h ⊢
      have h1 := rMany_good f hf n _ _ h
      have h2 := hf _ _ h1.1
      exact ⟨rfl, Nat.le_trans h1.2 h2.2⟩
    · cases h
theorem rList_good {α : Type} (f : Bool → List UInt8 → α × Bool × List UInt8) (hf : ∀ bad l, (f bad l).2.1 = false → bad = false ∧ (f bad l).2.2.length ≤ l.length) (most : Int) (bad : Bool) (l : List UInt8)
    (h : (rList f most bad l).2.1 = false) : bad = false ∧ (rList f most bad l).2.2.length + 1 ≤ l.length := by
  unfold rList at *
  simp only at *
  split at h
  · cases h
  · rename_i h1
    rw [if_neg h1]
    have h2 := rMany_good f hf _ _ _ h
    have h3 := rSize_good most bad l h2.1
    exact ⟨h3.1, by omega⟩
theorem rRow_good (most : Int) (bad : Bool) (l : List UInt8) (h : (rRow most bad l).2.1 = false) : bad = false ∧ (rRow most bad l).2.2.length + 1 ≤ l.length :=
  rList_good rVal (fun bad l h => by have := rVal_good bad l h; exact ⟨this.1, by omega⟩) most bad l h
def rRows (most cols : Int) (bad : Bool) (l : List UInt8) : List (List AV) × Bool × List UInt8 := rList (rRow cols) most bad l

/-- What Rows leaves. -/
def RowsOut (RB : Nat → Prop) (w : World) (p : Option Addr) (out : List (List AV) × Bool × List UInt8) (e : Ending) (w' : World) : Prop :=
  ∃ v rows, e = .returned v ∧ rows.map RowV.l = out.1 ∧ Own w' 48 1 v rows.length (rowVals rows) ∧ (∀ k, v.ownBlock = some k → w.heap.size ≤ k) ∧ (∀ r ∈ rows, Sl w' (fun k => w.heap.size ≤ k) 3 r.v r.l.length (rowCells r.l)) ∧
      Rdr w' p RB out.2.1 out.2.2 ∧ Only (Mine p) w w'

set_option maxRecDepth 100000 in
set_option maxHeartbeats 1000000 in
theorem rows_r (w : World) (p : Option Addr) (bad : Bool) (l : List UInt8) (h : Rdr w p RB bad l) (hRB : ∀ k, RB k → k < w.heap.size) (most cols : Int) (hm : fit64 most) (hcol : fit64 cols) (hl : l.length ≤ 10000000) :
    Calls Try.prog 50 #[.pointer p, .int .i64 most, .int .i64 cols] w fun e w' => RowsOut RB w p (rRows most cols bad l) e w' := by
  have HS := Lib.hid (size_r w p bad l h most hm)
  have HLT := Lib.hid h.lt
  have HRB := Lib.hid hRB
  have hsg := rSize_good most bad l
  have HV : Hid (rRows most cols bad l = if (rMany (rRow cols) (rSize most bad l).1 (rSize most bad l).2.1 (rSize most bad l).2.2).2.1 then ([], true, []) else rMany (rRow cols) (rSize most bad l).1 (rSize most bad l).2.1 (rSize most bad l).2.2) := rfl
  generalize rRows most cols bad l = out at *
  have hsb : (rSize most bad l).1 < 18446744073709551616 := by
    have := rNum_lt bad l
    unfold rSize
    simp only
    split
    · simp
    · exact this
  have hsm : ((rSize most bad l).1 : Int) ≤ 9223372036854775807 := by
    unfold fit64 at hm
    unfold rSize
    simp only
    split
    · simp
    · rename_i hx; simp only [not_or] at hx; omega
  generalize hs : rSize most bad l = sz at *
  clear h hRB hm hs hsb
  obtain ⟨n, bd, l1⟩ := sz
  simp only at HV HS hsg hsm
  have hl1 : bd = false → l1.length ≤ 10000000 := fun hb => by have := (hsg hb).2; omega
  have HL1 := Lib.hid hl1
  clear hsg hl1
  generalize htot : rMany (rRow cols) n bd l1 = tot at *
  have HT := Lib.hid htot
  clear htot
  go_enter Try.func50, Try.ntmps50
  go_wp2_with (go_at_call 71; refine HS.out.mono ?_; clear HS; rintro e w1 ⟨rfl, hr1, ho1⟩; have HR1 := Lib.hid hr1; have HO1 := Lib.hid ho1; clear hr1 ho1)
  go_loopw [7, 8] (fun v i wr => ∃ (m : Nat) (acc : List RowV) (bk : Bool) (lk : List UInt8), i = .int .i64 m ∧ m ≤ n ∧ Own wr 48 1 v acc.length (rowVals acc) ∧ (∀ r ∈ acc, Sl wr (fun k => w.heap.size ≤ k ∧ v.ownBlock ≠ some k) 3 r.v r.l.length (rowCells r.l)) ∧ (∀ k, v.ownBlock = some k → w.heap.size ≤ k) ∧
    Rdr wr p RB bk lk ∧ Only (Mine p) w wr ∧ acc.map RowV.l ++ (rMany (rRow cols) m bk lk).1 = tot.1 ∧ (rMany (rRow cols) m bk lk).2 = tot.2 ∧ (bk = false → acc.length + lk.length ≤ 10000000) ∧ acc.length ≤ 10000001) (fun _ i _ => (intOf i).toNat)
  case atStart => exact ⟨n, [], bd, l1, rfl, Nat.le_refl _, Own.nil _ _ _, by simp, by simp [Value.ownBlock], HR1.out, HO1.out, by rw [HT.out]; rfl, by rw [HT.out], fun hb => by simpa using HL1.out hb, by simp⟩
  case round =>
    obtain ⟨m, acc, bk, lk, rfl, hmn, hown, hrows, hnew, hrd, ho, ht1, ht2, hc1, hc2⟩ := hrel
    obtain ⟨pv, cv, rfl, hcv1, hcv2⟩ := own_form2 hown
    have HG := Lib.hid (good_r _ p _ _ hrd)
    have HOWN := Lib.hid hown
    have HNEW := Lib.hid hnew
    have HROWS := Lib.hid hrows
    have HRD := Lib.hid hrd
    have HO := Lib.hid ho
    have HT1 := Lib.hid ht1
    have HT2 := Lib.hid ht2
    have HC1 := Lib.hid hc1
    clear hown hrows hnew hrd ho ht1 ht2 hc1
    cases bk
    · rcases Nat.eq_zero_or_pos m with hm0 | hm0
      · subst hm0
        go_wp2_with (go_at_call 52; refine HG.out.mono ?_; rintro e w7 ⟨rfl, rfl⟩)
        go_ret
        have e1 : tot = (acc.map RowV.l, false, lk) := by
          have := HT1.out; have h2 := HT2.out
          simp [rMany] at this h2
          exact Prod.ext this.symm h2.symm
        have e2 := HV.out
        rw [e1] at e2
        simp at e2
        rw [e2]
        unfold RowsOut
        exact ⟨_, acc, rfl, rfl, HOWN.out, HNEW.out, fun r hr => (HROWS.out r hr).mono (Nat.le_refl _) (fun _ _ _ => rfl) (fun _ h _ => h.1), HRD.out, HO.out⟩
      · obtain ⟨m, rfl⟩ : ∃ m', m = m' + 1 := ⟨m - 1, by omega⟩
        have hlk6 : lk.length ≤ 10000000 := by have := HC1.out rfl; omega
        have HX := Lib.hid (row_r wr p false lk HRD.out (fun k hk => Nat.lt_of_lt_of_le (HRB.out k hk) HO.out.size) cols hcol hlk6)
        have HGV := Lib.hid (rRow_good cols false lk)
        have hst1 : acc.map RowV.l ++ (rRow cols false lk).1 :: (rMany (rRow cols) m (rRow cols false lk).2.1 (rRow cols false lk).2.2).1 = tot.1 := HT1.out
        have hst2 : (rMany (rRow cols) m (rRow cols false lk).2.1 (rRow cols false lk).2.2).2 = tot.2 := HT2.out
        have HST1 := Lib.hid hst1
        have HST2 := Lib.hid hst2
        clear hst1 hst2 HT1 HT2
        generalize rRow cols false lk = r at *
        obtain ⟨x, b2, l2⟩ := r
        simp only at HX HGV HST1 HST2
        have hpos : (0 : Int) < ((m + 1 : Nat) : Int) := by omega
        go_wp2_with (go_at_call 52; refine HG.out.mono ?_; clear HG; rintro e w7 ⟨rfl, rfl⟩)
        refine HX.out.mono ?_
        clear HX
        rintro e w2 ⟨xv, rfl, hx, hxn, hr2, ho2⟩
        have HO2 := Lib.hid ho2
        have hnm : ∀ k, (Value.slice pv acc.length cv).ownBlock = some k → ¬ Mine p k := fun k hk h => by have h1 := HNEW.out k hk; have h2 := HLT.out k h; omega
        obtain ⟨px, cx, rfl, hcx1, hcx2⟩ := own_form2 hx
        have hal : Below w2.heap.size w2 (w2.alloc (.cells #[.slice px x.length cx] 48)) := (Below.refl _ _).alloc (Nat.le_refl _) _
        have ho1 := (HOWN.out.only ho2 hnm).below hal
        have hs1 : Sl (w2.alloc (.cells #[.slice px x.length cx] 48)) (fun _ => True) 1 (.slice (some ⟨w2.heap.size, 0, none⟩) 1 1) 1 (rowVals [⟨.slice px x.length cx, x⟩]) :=
          (Own.made w2 48 1 (rowVals [⟨.slice px x.length cx, x⟩]) [] 1 1 rfl (Ones.nil.cons rfl) (Nat.le_refl _) (by simp [maxLen]) (by simp [rowVals])).sl (fun _ _ => trivial)
        have HR2 := Lib.hid (hr2.below hal)
        have HNM := Lib.hid hnm
        have hsz2 : (w2.alloc (.cells #[.slice px x.length cx] 48)).heap.size = w2.heap.size + 1 := by simp
        have hov : ∀ k, (Value.slice pv acc.length cv).ownBlock = some k → k < wr.heap.size := HOWN.out.lt
        have HXS : Hid (Sl (w2.alloc (.cells #[.slice px x.length cx] 48)) (fun k => w.heap.size ≤ k ∧ (Value.slice pv acc.length cv).ownBlock ≠ some k) 3 (.slice px x.length cx) x.length (rowCells x)) :=
          (hx.sl (fun k hk => ⟨Nat.le_trans HO.out.size (hxn k hk), fun h => by have h1 := hxn k hk; have h2 := hov k h; omega⟩)).below hal
        have HRS : Hid (∀ r ∈ acc, Sl (w2.alloc (.cells #[.slice px x.length cx] 48)) (fun k => w.heap.size ≤ k ∧ (Value.slice pv acc.length cv).ownBlock ≠ some k) 3 r.v r.l.length (rowCells r.l)) :=
          fun r hr => ((HROWS.out r hr).only ho2 (fun k hk h => by have h1 := HLT.out k h; omega)).below hal
        have HSZ2 := Lib.hid hsz2
        have HAL := Lib.hid hal
        clear ho2 hr2 hnm hal hsz2 hov hx hxn
        go_wp2_with (at_builtin; refine wpList_app rfl _ _ rfl elemRow (by rfl) ho1 (by rfl) hs1 (by unfold maxLen; omega) (by omega) ?_; intro v1 w3 g1 g2 g3 g4 g5; clear ho1 hs1; have G1 := Lib.hid g1; have G2 := Lib.hid g2; have G3 := Lib.hid g3; clear g1 g2 g3 g4 g5)
        have hww : w.heap.size ≤ wr.heap.size := HO.out.size
        have hw2 : wr.heap.size ≤ w2.heap.size := HO2.out.size
        have hmv : ∀ r : RowV, Sl (w2.alloc (.cells #[.slice px x.length cx] 48)) (fun k => w.heap.size ≤ k ∧ (Value.slice pv acc.length cv).ownBlock ≠ some k) 3 r.v r.l.length (rowCells r.l) → Sl w3 (fun k => w.heap.size ≤ k ∧ v1.ownBlock ≠ some k) 3 r.v r.l.length (rowCells r.l) := fun r h =>
          h.mono G2.out.size (fun k hk hl => G2.out.block k hl hk.2) (fun k hk hl => ⟨hk.1, fun h => by
            rcases G3.out with h1 | h1
            · rw [h1] at h; exact hk.2 h
            · rw [h1] at h
              have : (w2.alloc (.cells #[.slice px x.length cx] 48)).heap.size = k := by simpa using h
              omega⟩)
        go_roundw
        case rel =>
          refine ⟨m, acc ++ [⟨.slice px x.length cx, x⟩], b2, l2, by go_num, by omega, ?_, fun r hr => ?_, fun k hk => ?_, ?_, ?_, ?_, HST2.out, fun hb => ?_, ?_⟩
          · rw [List.length_append, rowVals_append]; exact G1.out
          · rcases List.mem_append.1 hr with hr | hr
            · exact hmv r (HRS.out r hr)
            · rw [List.mem_singleton.1 hr]; exact hmv ⟨.slice px x.length cx, x⟩ HXS.out
          · rcases G3.out with h | h
            · exact HNEW.out k (by rw [← h]; exact hk)
            · rw [h, HSZ2.out] at hk
              have : w2.heap.size + 1 = k := by simpa using hk
              omega
          · exact HR2.out.only G2.out HNM.out (fun k hk h => by have h1 := HNEW.out k hk; have h2 := HRB.out k h; omega)
          · refine ((HO.out.trans HO2.out (fun _ _ h => h)).trans (Only.of_none HAL.out (S := fun _ => False)) (fun _ _ h => h.elim)).trans G2.out (fun k hk h => ?_)
            have h1 := HNEW.out k h; omega
          · rw [List.map_append, List.append_assoc]; exact HST1.out
          · have h1 := HGV.out hb; have h2 := HC1.out trivial; rw [List.length_append]; simp only [List.length_cons, List.length_nil]; omega
          · have h2 := HC1.out trivial; rw [List.length_append]; simp only [List.length_cons, List.length_nil]; omega
        case measure => (simp [intOf]) <;> omega
    · have e1 : tot.2.1 = true := by
        rw [← HT2.out]
        cases m <;> rfl
      have e2 := HV.out
      rw [if_pos e1] at e2
      subst e2
      have hlk : lk = [] := HRD.out.empty rfl
      subst hlk
      clear HV HT1 HT2 HT
      go_wp2_with (go_at_call 52; refine HG.out.mono ?_; rintro e w7 ⟨rfl, rfl⟩)
      all_goals
        go_ret
        unfold RowsOut
        exact ⟨_, [], rfl, rfl, Own.nil _ _ _, by simp [Value.ownBlock], by simp, HRD.out, HO.out⟩
end Go.Proofs.Ytdhdphmehjkbnaa
