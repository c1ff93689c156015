/- The reader: numbers. -/
import Derived.Test.YtdhdphmehjkbnaaRdD
namespace Go.Proofs.Ytdhdphmehjkbnaa
open Go.RowKit Go.Afx
variable {RB : Nat → Prop}

theorem rByte_bad (bad : Bool) (l : List UInt8) (h : (rByte bad l).2.1 = true) : (rByte bad l).1 = 0 ∧ (rByte bad l).2.2 = [] := by
  unfold rByte at *
  split
  · rename_i h2; simp at h
  · exact ⟨rfl, rfl⟩
theorem rByte_range (bad : Bool) (l : List UInt8) : ∃ m : Nat, (rByte bad l).1 = m ∧ m < 256 := by
  unfold rByte
  split
  · rename_i c t; exact ⟨c.toNat, rfl, c.toNat_lt⟩
  · exact ⟨0, rfl, by omega⟩

set_option maxRecDepth 100000 in
set_option maxHeartbeats 1000000 in
theorem number_rd (w : World) (b : Nat) (bad : Bool) (l : List UInt8) (h : IsRd w b RB bad l) :
    Calls Try.prog 89 #[.pointer (some ⟨b, 0, none⟩)] w fun e w' => e = .returned (.int .u64 ((rNum bad l).1 : Int)) ∧ IsRd w' b RB (rNum bad l).2.1 (rNum bad l).2.2 ∧ Only (fun k => k = b) w w' := by
  have HBY := Lib.hid (byte_rd w b bad l h)
  obtain ⟨m, hm, hm256⟩ := rByte_range bad l
  have hbb := rByte_bad bad l
  unfold rNum
  simp only [hm, Int.toNat_natCast]
  rw [hm] at HBY hbb
  clear h hm
  generalize (rByte bad l).2.1 = bd at *
  generalize (rByte bad l).2.2 = l1 at *
  by_cases hbd : bd = true
  · subst hbd
    obtain ⟨hm0, rfl⟩ := hbb rfl
    have hm1 : m = 0 := by omega
    subst hm1
    simp only [if_true]
    clear hbb hm0 hm256
    go_enter Try.func89, Try.ntmps89
    go_wp2_with (go_at_call 101; refine HBY.out.mono ?_; clear HBY; rintro e w2 ⟨rfl, hr2, ho2⟩; have HC := Lib.hid (cut_bad w2 b true [] hr2 0 (.inl rfl)); have HO2 := Lib.hid ho2; clear hr2 ho2)
    refine HC.out.mono ?_
    rintro e w3 ⟨rfl, hr3, ho3⟩
    have HR3 := Lib.hid hr3
    have HO3 := Lib.hid (HO2.out.trans ho3 (fun _ _ h => h))
    clear hr3 ho3
    go_wp2
    go_loopw [5, 30] (fun a i wr => a = .int .u64 0 ∧ i = .int .i64 0 ∧ w3 = wr) (fun _ _ _ => 0)
    case atStart => exact ⟨rfl, rfl, rfl⟩
    case round =>
      obtain ⟨rfl, rfl, rfl⟩ := hrel
      go_wp2
      go_ret
      exact ⟨rfl, HR3.out, HO3.out⟩
  · obtain rfl : bd = false := by simpa using hbd
    simp only [Bool.false_eq_true, if_false]
    clear hbb hbd
    by_cases h8 : 8 < m
    · rw [if_pos (.inl h8)]
      have h8i : (8 : Int) < m := by omega
      go_enter Try.func89, Try.ntmps89
      go_wp2_with (go_at_call 101; refine HBY.out.mono ?_; clear HBY; rintro e w1 ⟨rfl, hr1, ho1⟩; have HF := Lib.hid (fail_rd w1 b false l1 hr1); have HO1 := Lib.hid ho1; clear hr1 ho1)
      refine HF.out.mono ?_
      rintro e w2 ⟨rfl, hr2, ho2⟩
      have HC := Lib.hid (cut_bad w2 b true [] hr2 m (.inl rfl))
      have HO2 := Lib.hid (HO1.out.trans ho2 (fun _ _ h => h))
      clear hr2 ho2
      go_wp2_with fail
      refine HC.out.mono ?_
      rintro e w3 ⟨rfl, hr3, ho3⟩
      have HR3 := Lib.hid hr3
      have HO3 := Lib.hid (HO2.out.trans ho3 (fun _ _ h => h))
      clear hr3 ho3
      go_wp2
      go_loopw [5, 30] (fun a i wr => a = .int .u64 0 ∧ i = .int .i64 0 ∧ w3 = wr) (fun _ _ _ => 0)
      case atStart => exact ⟨rfl, rfl, rfl⟩
      case round =>
        obtain ⟨rfl, rfl, rfl⟩ := hrel
        go_wp2
        go_ret
        exact ⟨rfl, HR3.out, HO3.out⟩
    · have h8i : (m : Int) ≤ 8 := by omega
      by_cases hl1 : l1.length < m
      · rw [if_pos (.inr hl1)]
        go_enter Try.func89, Try.ntmps89
        go_wp2_with (go_at_call 101; refine HBY.out.mono ?_; clear HBY; rintro e w2 ⟨rfl, hr2, ho2⟩; have HC := Lib.hid (cut_bad w2 b false l1 hr2 m (.inr hl1)); have HO2 := Lib.hid ho2; clear hr2 ho2)
        refine HC.out.mono ?_
        rintro e w3 ⟨rfl, hr3, ho3⟩
        have HR3 := Lib.hid hr3
        have HO3 := Lib.hid (HO2.out.trans ho3 (fun _ _ h => h))
        clear hr3 ho3
        go_wp2
        go_loopw [5, 30] (fun a i wr => a = .int .u64 0 ∧ i = .int .i64 0 ∧ w3 = wr) (fun _ _ _ => 0)
        case atStart => exact ⟨rfl, rfl, rfl⟩
        case round =>
          obtain ⟨rfl, rfl, rfl⟩ := hrel
          go_wp2
          go_ret
          exact ⟨rfl, HR3.out, HO3.out⟩
      · rw [if_neg (by omega)]
        have hml : m ≤ l1.length := by omega
        have hd8 : (l1.take m).length = m := by rw [List.length_take]; omega
        have HCUT := Lib.hid (fun w2 (hr2 : IsRd w2 b RB false l1) => cut_ok w2 b l1 hr2 m hml)
        generalize l1.take m = d at *
        generalize l1.drop m = dr at *
        cases d with
        | nil =>
          obtain rfl : m = 0 := by simpa using hd8.symm
          have e : (if ([] : List UInt8).head? = some 0 then ((0 : Nat), true, ([] : List UInt8)) else (ofBytes [], false, dr)) = (0, false, dr) := by simp [ofBytes]
          rw [e]
          clear e h8 hl1 hml hd8 hm256
          go_enter Try.func89, Try.ntmps89
          go_wp2_with (go_at_call 101; refine HBY.out.mono ?_; clear HBY; rintro e w2 ⟨rfl, hr2, ho2⟩; have HC := Lib.hid (HCUT.out w2 hr2); have HO2 := Lib.hid ho2; clear hr2 ho2)
          refine HC.out.mono ?_
          rintro e w3 ⟨p, cp, rfl, hs3, hr3, ho3⟩
          have HO3 := Lib.hid (HO2.out.trans ho3 (fun _ _ h => h))
          have HR3 := Lib.hid hr3
          clear hr3 ho3 hs3
          go_wp2
          go_loopw [5, 30] (fun a i wr => a = .int .u64 0 ∧ i = .int .i64 0 ∧ w3 = wr) (fun _ _ _ => 0)
          case atStart => exact ⟨rfl, rfl, rfl⟩
          case round =>
            obtain ⟨rfl, rfl, rfl⟩ := hrel
            go_wp2
            go_ret
            exact ⟨rfl, HR3.out, HO3.out⟩
        | cons c t =>
          have hm1 : (0 : Int) < m := by rw [← hd8, List.length_cons]; omega
          by_cases hc0 : c = 0
          · subst hc0
            have e : (if ((0 : UInt8) :: t).head? = some 0 then ((0 : Nat), true, ([] : List UInt8)) else (ofBytes (0 :: t), false, dr)) = (0, true, []) := by simp
            rw [e]
            clear e h8 hl1 hml hm256
            go_enter Try.func89, Try.ntmps89
            go_wp2_with (go_at_call 101; refine HBY.out.mono ?_; clear HBY; rintro e w2 ⟨rfl, hr2, ho2⟩; have HC := Lib.hid (HCUT.out w2 hr2); have HO2 := Lib.hid ho2; clear hr2 ho2)
            refine HC.out.mono ?_
            rintro e w3 ⟨p, cp, rfl, hs3, hr3, ho3⟩
            have HO3 := Lib.hid (HO2.out.trans ho3 (fun _ _ h => h))
            have hs4 : Sl w3 (fun k => k ≠ b ∧ RB k) 1 (.slice p m cp) ((0 : UInt8) :: t).length (by8 (0 :: t)) := by rw [hd8]; exact hs3
            obtain ⟨g, off, cp', hv, _, _, _, hg, hcl⟩ := hs4.place (by simp)
            cases hv
            have hb0 : w3.cell? ⟨g, off, none⟩ = some (.int .u8 0) := by
              have := hcl 0 (by simp [by8])
              rw [Nat.add_zero] at this
              rw [this]; simp [by8]
            have HF := Lib.hid (fail_rd w3 b false dr hr3)
            clear hr3 ho3 hs3 hs4 hcl
            go_wp2_with (go_at_call 87; refine HF.out.mono ?_; clear HF; rintro e w4 ⟨rfl, hr4, ho4⟩)
            go_ret
            exact ⟨rfl, hr4, HO3.out.trans ho4 (fun _ _ h => h)⟩
          · have e : (if (c :: t).head? = some 0 then ((0 : Nat), true, ([] : List UInt8)) else (ofBytes (c :: t), false, dr)) = (ofBytes (c :: t), false, dr) := by simp [hc0]
            rw [e]
            have hcn : ((c.toNat : Int) == 0) = false := by
              rw [beq_eq_false_iff_ne]
              intro h
              exact hc0 (UInt8.toNat_inj.1 (by show c.toNat = 0; omega))
            have hm9 : m ≤ 8 := by omega
            clear e h8 hl1 hml hm256
            generalize hz : ofBytes (c :: t) = z at *
            have HZ := Lib.hid hz
            clear hz
            go_enter Try.func89, Try.ntmps89
            go_wp2_with (go_at_call 101; refine HBY.out.mono ?_; clear HBY; rintro e w2 ⟨rfl, hr2, ho2⟩; have HC := Lib.hid (HCUT.out w2 hr2); have HO2 := Lib.hid ho2; clear hr2 ho2)
            refine HC.out.mono ?_
            rintro e w3 ⟨p, cp, rfl, hs3, hr3, ho3⟩
            have HO3 := Lib.hid (HO2.out.trans ho3 (fun _ _ h => h))
            obtain ⟨g, off, cp', hv, _, _, _, hg, hcl⟩ := hs3.place (by omega)
            cases hv
            have hb0 : w3.cell? ⟨g, off, none⟩ = some (.int .u8 (c.toNat : Int)) := by
              have := hcl 0 (by simp [by8])
              rw [Nat.add_zero] at this
              rw [this]; simp [by8]
            have HCL := Lib.hid hcl
            have HR3 := Lib.hid hr3
            clear hr3 ho3 hs3 hcl
            generalize (c.toNat : Int) = ci at *
            generalize c :: t = d at *
            have HD8 := Lib.hid hd8
            clear hd8 hc0
            go_wp2
            clear hb0 hcn
            go_loopw [5, 30] (fun a i wr => ∃ k : Nat, i = .int .i64 k ∧ k ≤ m ∧ a = .int .u64 (ofBytes (d.take k) : Nat) ∧ w3 = wr) (fun _ i _ => m - (intOf i).toNat)
            case atStart => exact ⟨0, rfl, Nat.zero_le _, by simp [ofBytes], rfl⟩
            case round =>
              obtain ⟨k, rfl, hk, rfl, rfl⟩ := hrel
              by_cases hkm : k < m
              · have hkd : k < d.length := by rw [HD8.out]; exact hkm
                have hck : w3.cell? ⟨g, off + k, none⟩ = some (.int .u8 (d[k].toNat : Int)) := by
                  rw [HCL.out k (by rw [by8_length]; exact hkd), by8_get d k hkd]
                have HN := Lib.hid (ofBytes_next d k hkd)
                have hlt := ofBytes_lt d k
                have hlt2 : ofBytes (d.take k) < 72057594037927936 := Nat.lt_of_lt_of_le hlt (Nat.le_trans (Nat.pow_le_pow_right (by omega) (show k ≤ 7 by omega)) (by decide))
                have hor := or_byte (ofBytes (d.take k)) d[k].toNat hlt2 d[k].toNat_lt
                rw [← HN.out] at hor
                have hcn256 : d[k].toNat < 256 := d[k].toNat_lt
                clear hlt
                generalize d[k].toNat = cn at *
                have ew1 : IntKind.u64.wrap ((ofBytes (d.take k) : Int) * 256) = (ofBytes (d.take k) : Int) * 256 := by rw [IntKind.wrap_u64]; omega
                have ew2 : IntKind.u64.wrap (cn : Int) = cn := by rw [IntKind.wrap_u64]; omega
                rw [ew1] at hor
                have HOR := Lib.hid hor
                clear hor ew1
                go_wp2
                refine ⟨⟨k + 1, by congr 1, by omega, ?_, trivial⟩, ?_⟩
                · first
                    | rw [HOR.out]
                    | rw [ew2, HOR.out]
                · (simp [intOf]) <;> omega
              · obtain rfl : k = m := by omega
                have hfin : Hid (ofBytes (d.take k) = z) := by show _ = _; rw [List.take_of_length_le (by rw [HD8.out]; exact Nat.le_refl _)]; exact HZ.out
                rw [hfin.out]
                go_wp2
                go_ret
                exact ⟨rfl, HR3.out, HO3.out⟩
end Go.Proofs.Ytdhdphmehjkbnaa
