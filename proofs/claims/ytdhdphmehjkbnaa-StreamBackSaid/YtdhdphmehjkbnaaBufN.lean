/- Numbers, laid. -/
import Derived.Test.YtdhdphmehjkbnaaBuf
namespace Go.Proofs.Ytdhdphmehjkbnaa
open Go.RowKit Go.Afx

/-- A number's bytes, the highest first. -/
def be256 (u : Nat) : List UInt8 := if _h : u = 0 then [] else be256 (u / 256) ++ [UInt8.ofNat (u % 256)]
decreasing_by exact Nat.div_lt_self (by omega) (by omega)
theorem be_zero : be256 0 = [] := by rw [be256]; simp
theorem be_pos (u : Nat) (h : 0 < u) : be256 u = be256 (u / 256) ++ [UInt8.ofNat (u % 256)] := by rw [be256, dif_neg (by omega)]
def numB (u : Nat) : List UInt8 := UInt8.ofNat (be256 u).length :: be256 u
theorem be_len_le (k : Nat) : ∀ u, u < 256 ^ k → (be256 u).length ≤ k := by
  induction k with
  | zero => intro u hu; obtain rfl : u = 0 := by simpa using hu
            rw [be_zero]; simp
  | succ k ih =>
    intro u hu
    rcases Nat.eq_zero_or_pos u with h | h
    · subst h; rw [be_zero]; simp
    · rw [be_pos u h, List.length_append]
      have := ih (u / 256) (Nat.div_lt_of_lt_mul (by rw [Nat.pow_succ] at hu; omega))
      simpa using this
theorem be_len_ge (k : Nat) : ∀ u, 256 ^ k ≤ u → k + 1 ≤ (be256 u).length := by
  induction k with
  | zero => intro u hu; rw [be_pos u (by simp at hu; omega)]; simp
  | succ k ih =>
    intro u hu
    have hp : 0 < 256 ^ (k + 1) := Nat.pow_pos (by omega)
    rw [be_pos u (by omega), List.length_append]
    have h1 : 256 ^ k ≤ u / 256 := by
      rw [Nat.le_div_iff_mul_le (by omega)]
      rw [Nat.pow_succ] at hu; exact hu
    have := ih (u / 256) h1
    simpa using this
/-- The byte at a place, counted from the last one. -/
theorem be_get : ∀ (i u : Nat) (h : i < (be256 u).length), (be256 u)[(be256 u).length - 1 - i]'(by omega) = UInt8.ofNat (u / 256 ^ i % 256) := by
  intro i
  induction i with
  | zero =>
    intro u h
    rcases Nat.eq_zero_or_pos u with h0 | h0
    · subst h0; rw [be_zero] at h; simp at h
    · have e := be_pos u h0
      have : ∀ (l : List UInt8) (hl : l = be256 (u / 256) ++ [UInt8.ofNat (u % 256)]) (hlt : l.length - 1 - 0 < l.length), l[l.length - 1 - 0] = UInt8.ofNat (u % 256) := by
        intro l hl hlt
        subst hl
        simp
      rw [this _ e (by omega)]
      simp
  | succ i ih =>
    intro u h
    rcases Nat.eq_zero_or_pos u with h0 | h0
    · subst h0; rw [be_zero] at h; simp at h
    · have e := be_pos u h0
      have hl : (be256 u).length = (be256 (u / 256)).length + 1 := by rw [e]; simp
      have h2 : i < (be256 (u / 256)).length := by omega
      have h3 := ih (u / 256) h2
      have : ∀ (l : List UInt8) (hl2 : l = be256 (u / 256) ++ [UInt8.ofNat (u % 256)]) (j : Nat) (hj : j = (be256 (u / 256)).length - 1 - i) (hlt : j < l.length), l[j] = (be256 (u / 256))[(be256 (u / 256)).length - 1 - i]'(by omega) := by
        intro l hl2 j hj hlt
        subst hl2
        subst hj
        rw [List.getElem_append_left (by omega)]
      rw [this _ e _ (by omega) (by omega), h3, Nat.div_div_eq_div_mul, Nat.pow_succ, Nat.mul_comm]

theorem shr_nat (u k : Nat) : (u : Int) / 2 ^ (8 * k) = ((u / 256 ^ k : Nat) : Int) := by
  have e : (2 : Int) ^ (8 * k) = ((256 ^ k : Nat) : Int) := by
    have e1 : (256 : Nat) ^ k = 2 ^ (8 * k) := by rw [Nat.pow_mul]
    rw [e1, Int.natCast_pow]; rfl
  rw [e, Int.natCast_ediv]
theorem one_u8 (w : World) (x : Nat) (hx : x < 256) : Sl (w.alloc (.cells #[.int .u8 (x : Int)] 5)) (fun _ => True) 1 (.slice (some ⟨w.heap.size, 0, none⟩) 1 1) [UInt8.ofNat x].length (by8 [UInt8.ofNat x]) := by
  have e : by8 [UInt8.ofNat x] = [.int .u8 (x : Int)] := by
    have h : (UInt8.ofNat x).toNat = x := by rw [UInt8.toNat_ofNat']; omega
    simp [by8, h]
  rw [e]
  exact (Own.made w 5 1 [.int .u8 (x : Int)] [] 1 1 rfl (Ones.nil.cons rfl) (Nat.le_refl _) (by simp [maxLen]) (by simp)).sl (fun _ _ => trivial)
/-- One byte, laid: beside a new row that holds it. -/
theorem lay_one (w : World) (t : TypeId) (b : Nat) (F : Nat → Prop) (rest : List Value) (l : List UInt8) (hb : Buf w t b F rest l) (x : Nat) (hx : x < 256) (hlen : l.length ≤ 950000000) :
    Calls Try.prog 77 #[.pointer (some ⟨b, 0, none⟩), .slice (some ⟨w.heap.size, 0, none⟩) 1 1] (w.alloc (.cells #[.int .u8 (x : Int)] 5)) fun e w' => e = .returned (.tuple #[]) ∧ ∃ F', Buf w' t b F' rest (l ++ [UInt8.ofNat x]) ∧ Only F w w' ∧ ∀ k, F' k → F k ∨ w.heap.size ≤ k := by
  have hb1 : Buf (w.alloc (.cells #[.int .u8 (x : Int)] 5)) t b F rest l := hb.below ((Below.refl _ _).alloc (Nat.le_refl _) _)
  refine (lay_any _ t b F rest l hb1 _ _ [UInt8.ofNat x] (one_u8 w x hx) (by simp; omega)).mono ?_
  rintro e w' ⟨he, F', h1, h2, h3⟩
  refine ⟨he, F', h1, ((Only.refl F w).alloc _).trans h2 (fun _ _ h => h), fun k hk => ?_⟩
  rcases h3 k hk with h | h
  · exact .inl h
  · exact .inr (by simp at h; omega)

set_option maxRecDepth 100000 in
set_option maxHeartbeats 1000000 in
theorem number_any (w : World) (t : TypeId) (b : Nat) (F : Nat → Prop) (rest : List Value) (l : List UInt8) (hb : Buf w t b F rest l) (u : Nat) (hu : u < 18446744073709551616) (hlen : l.length ≤ 900000000) :
    Calls Try.prog 76 #[.pointer (some ⟨b, 0, none⟩), .int .u64 (u : Int)] w fun e w' => e = .returned (.tuple #[]) ∧ ∃ F', Buf w' t b F' rest (l ++ numB u) ∧ Only F w w' ∧ ∀ k, F' k → F k ∨ w.heap.size ≤ k := by
  have HB := Lib.hid hb
  clear hb
  go_enter Try.func76, Try.ntmps76
  go_wp2
  go_loopw [4] (fun i wr => ∃ k : Nat, i = .int .i64 k ∧ k ≤ 8 ∧ k ≤ (be256 u).length ∧ w = wr) (fun i _ => 8 - (intOf i).toNat)
  case atStart => exact ⟨0, rfl, Nat.zero_le _, Nat.zero_le _, rfl⟩
  case round =>
    obtain ⟨k, rfl, hk, hkl, rfl⟩ := hrel
    by_cases hk8 : k < 8
    · have hsh := shr_nat u k
      by_cases hq : u / 256 ^ k = 0
      · have hlt : u < 256 ^ k := by
          rcases Nat.lt_or_ge u (256 ^ k) with h | h
          · exact h
          · have := Nat.div_pos h (Nat.pow_pos (by omega)); omega
        have hle := be_len_le k u hlt
        rw [hq] at hsh
        clear hlt hq
        have hm : k = (be256 u).length := by omega
        have HM := Lib.hid hm
        have HL1 := Lib.hid (lay_one w t b F rest l HB.out k (by omega) (by omega))
        clear hkl hm
        go_wp2_with (go_at_call 77; refine HL1.out.mono ?_; clear HL1; rintro e w2 ⟨rfl, F2, h21, h22, h23⟩; have H21 := Lib.hid h21; have H22 := Lib.hid h22; have H23 := Lib.hid h23; clear h21 h22 h23)
        go_loopw [5] (fun i wr => ∃ (j : Nat) (F3 : Nat → Prop), i = .int .i64 ((j : Int) - 1) ∧ j ≤ k ∧ Buf wr t b F3 rest (l ++ [UInt8.ofNat k] ++ (be256 u).take (k - j)) ∧ Only F w wr ∧ ∀ q, F3 q → F q ∨ w.heap.size ≤ q) (fun i _ => (intOf i + 1).toNat)
        case atStart => exact ⟨k, F2, rfl, Nat.le_refl _, by rw [Nat.sub_self, List.take_zero, List.append_nil]; exact H21.out, H22.out, H23.out⟩
        case round =>
          obtain ⟨j, F3, h5, hj, hb3, ho3, hf3⟩ := hrel
          have HB3 := Lib.hid hb3
          have HO3 := Lib.hid ho3
          have HF3 := Lib.hid hf3
          clear hb3 ho3 hf3
          rcases Nat.eq_zero_or_pos j with rfl | hpos
          · have e5 : (((0 : Nat) : Int) - 1) = -1 := by omega
            rw [e5] at h5
            subst h5
            go_wp2
            go_end0
            refine ⟨rfl, F3, ?_, HO3.out, HF3.out⟩
            have h1 := HB3.out
            rw [Nat.sub_zero, List.take_of_length_le (by rw [← HM.out]; exact Nat.le_refl _), List.append_assoc] at h1
            have h2 : numB u = [UInt8.ofNat k] ++ be256 u := by unfold numB; rw [← HM.out]; rfl
            rw [h2]; exact h1
          · obtain ⟨i, rfl⟩ : ∃ i, j = i + 1 := ⟨j - 1, by omega⟩
            have e5 : (((i + 1 : Nat) : Int) - 1) = i := by omega
            rw [e5] at h5
            subst h5
            have hi8 : (i : Int) < 8 := by omega
            have hsh := shr_nat u i
            obtain ⟨d, hd⟩ : ∃ d, d = u / 256 ^ i % 256 := ⟨_, rfl⟩
            have hd256 : d < 256 := by omega
            have hwr : IntKind.u8.wrap ((u / 256 ^ i : Nat) : Int) = (d : Int) := by rw [IntKind.wrap_u8]; omega
            have hL3 := lay_one wr t b F3 rest _ HB3.out d hd256 (by simp only [List.length_append, List.length_take, List.length_cons, List.length_nil]; omega)
            have hcat : l ++ [UInt8.ofNat k] ++ (be256 u).take (k - (i + 1)) ++ [UInt8.ofNat d] = l ++ [UInt8.ofNat k] ++ (be256 u).take (k - i) := by
              have hg := be_get i u (by rw [← HM.out]; omega)
              have hlt : k - (i + 1) < (be256 u).length := by rw [← HM.out]; omega
              have e1 : k - i = k - (i + 1) + 1 := by omega
              rw [e1, ← List.take_append_getElem hlt, ← List.append_assoc]
              congr 2
              rw [hd, ← hg]
              congr 1
              rw [← HM.out]; omega
            rw [hcat] at hL3
            have HL3 := Lib.hid hL3
            clear hL3 hcat hd
            generalize ((u / 256 ^ i : Nat) : Int) = q at *
            go_wp2_with (go_at_call 77; refine HL3.out.mono ?_; clear HL3; rintro e w4 ⟨rfl, F4, h41, h42, h43⟩; have H41 := Lib.hid h41; have H42 := Lib.hid h42; have H43 := Lib.hid h43; clear h41 h42 h43)
            have ho4 : Only F w w4 := HO3.out.trans H42.out (fun q hq h => by
              rcases HF3.out q h with h2 | h2
              · exact h2
              · omega)
            refine ⟨⟨i, F4, by congr 1, by omega, H41.out, ho4, fun q hq => ?_⟩, ?_⟩
            · rcases H43.out q hq with h | h
              · exact HF3.out q h
              · exact .inr (Nat.le_trans HO3.out.size h)
            · (simp [intOf]) <;> omega
      · have hge : 256 ^ k ≤ u := by
          rcases Nat.lt_or_ge u (256 ^ k) with h | h
          · exact absurd (Nat.div_eq_of_lt h) hq
          · exact h
        have hle := be_len_ge k u hge
        have hq2 : (((u / 256 ^ k : Nat) : Int) != 0) = true := by rw [bne_iff_ne]; omega
        have hq3 : ¬ ((u / 256 ^ k : Nat) : Int) = 0 := by omega
        clear hge hq
        generalize ((u / 256 ^ k : Nat) : Int) = q at *
        go_wp2
        go_roundw
        case rel => exact ⟨k + 1, by go_num, by omega, hle, by first | rfl | trivial⟩
        case measure => (simp [intOf]) <;> omega
    · have hle := be_len_le 8 u (by have : (256 : Nat) ^ 8 = 18446744073709551616 := by decide
                                    omega)
      have hk9 : (8 : Int) ≤ k := by omega
      have hm : k = (be256 u).length := by omega
      have HM := Lib.hid hm
      have HL1 := Lib.hid (lay_one w t b F rest l HB.out k (by omega) (by omega))
      clear hkl hm
      go_wp2_with (go_at_call 77; refine HL1.out.mono ?_; clear HL1; rintro e w2 ⟨rfl, F2, h21, h22, h23⟩; have H21 := Lib.hid h21; have H22 := Lib.hid h22; have H23 := Lib.hid h23; clear h21 h22 h23)
      go_loopw [5] (fun i wr => ∃ (j : Nat) (F3 : Nat → Prop), i = .int .i64 ((j : Int) - 1) ∧ j ≤ k ∧ Buf wr t b F3 rest (l ++ [UInt8.ofNat k] ++ (be256 u).take (k - j)) ∧ Only F w wr ∧ ∀ q, F3 q → F q ∨ w.heap.size ≤ q) (fun i _ => (intOf i + 1).toNat)
      case atStart => exact ⟨k, F2, rfl, Nat.le_refl _, by rw [Nat.sub_self, List.take_zero, List.append_nil]; exact H21.out, H22.out, H23.out⟩
      case round =>
        obtain ⟨j, F3, h5, hj, hb3, ho3, hf3⟩ := hrel
        have HB3 := Lib.hid hb3
        have HO3 := Lib.hid ho3
        have HF3 := Lib.hid hf3
        clear hb3 ho3 hf3
        rcases Nat.eq_zero_or_pos j with rfl | hpos
        · have e5 : (((0 : Nat) : Int) - 1) = -1 := by omega
          rw [e5] at h5
          subst h5
          go_wp2
          go_end0
          refine ⟨rfl, F3, ?_, HO3.out, HF3.out⟩
          have h1 := HB3.out
          rw [Nat.sub_zero, List.take_of_length_le (by rw [← HM.out]; exact Nat.le_refl _), List.append_assoc] at h1
          have h2 : numB u = [UInt8.ofNat k] ++ be256 u := by unfold numB; rw [← HM.out]; rfl
          rw [h2]; exact h1
        · obtain ⟨i, rfl⟩ : ∃ i, j = i + 1 := ⟨j - 1, by omega⟩
          have e5 : (((i + 1 : Nat) : Int) - 1) = i := by omega
          rw [e5] at h5
          subst h5
          have hi8 : (i : Int) < 8 := by omega
          have hsh := shr_nat u i
          obtain ⟨d, hd⟩ : ∃ d, d = u / 256 ^ i % 256 := ⟨_, rfl⟩
          have hd256 : d < 256 := by omega
          have hwr : IntKind.u8.wrap ((u / 256 ^ i : Nat) : Int) = (d : Int) := by rw [IntKind.wrap_u8]; omega
          have hL3 := lay_one wr t b F3 rest _ HB3.out d hd256 (by simp only [List.length_append, List.length_take, List.length_cons, List.length_nil]; omega)
          have hcat : l ++ [UInt8.ofNat k] ++ (be256 u).take (k - (i + 1)) ++ [UInt8.ofNat d] = l ++ [UInt8.ofNat k] ++ (be256 u).take (k - i) := by
            have hg := be_get i u (by rw [← HM.out]; omega)
            have hlt : k - (i + 1) < (be256 u).length := by rw [← HM.out]; omega
            have e1 : k - i = k - (i + 1) + 1 := by omega
            rw [e1, ← List.take_append_getElem hlt, ← List.append_assoc]
            congr 2
            rw [hd, ← hg]
            congr 1
            rw [← HM.out]; omega
          rw [hcat] at hL3
          have HL3 := Lib.hid hL3
          clear hL3 hcat hd
          generalize ((u / 256 ^ i : Nat) : Int) = q at *
          go_wp2_with (go_at_call 77; refine HL3.out.mono ?_; clear HL3; rintro e w4 ⟨rfl, F4, h41, h42, h43⟩; have H41 := Lib.hid h41; have H42 := Lib.hid h42; have H43 := Lib.hid h43; clear h41 h42 h43)
          have ho4 : Only F w w4 := HO3.out.trans H42.out (fun q hq h => by
            rcases HF3.out q h with h2 | h2
            · exact h2
            · omega)
          refine ⟨⟨i, F4, by congr 1, by omega, H41.out, ho4, fun q hq => ?_⟩, ?_⟩
          · rcases H43.out q hq with h | h
            · exact HF3.out q h
            · exact .inr (Nat.le_trans HO3.out.size h)
          · (simp [intOf]) <;> omega
end Go.Proofs.Ytdhdphmehjkbnaa
