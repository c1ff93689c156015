/- Words: strings.HasPrefix, strings.IndexByte; blank. -/
import Derived.Test.YtjbocnofkaffjaaLxA
import Derived.Lib.Strings
import Derived.Lib.Slices
import Derived.Lib.Walk
import Derived.Lib.Bytealg
import Derived.Laws.Externs
namespace Go.Proofs.Ytjbocnofkaffjaa
open Go.RowKit Go.Afx

theorem prefix_any (s p : ByteArray) (w : World) :
    Calls Try.prog 20 #[.string s, .string p] w fun e w' => e = .returned (.bool (p.data.toList.isPrefixOf s.data.toList)) ∧ w' = w := by
  show Calls Try.prog 20 #[.string s, .string p] w fun e w' => e = .returned (.bool (Lib.hasPrefix s.data.toList p.data.toList)) ∧ w' = w
  rw [← Lib.hasPrefix_of_take, ← Lib.size_eq, ← Lib.size_eq]
  go_enter Try.func20, Try.ntmps20
  go_wp2
  · rename_i h
    go_ret
    refine ⟨?_, rfl⟩
    show Ending.returned (Value.bool ((s.extract 0 p.size).toList == p.toList)) = _
    rw [Lib.extract_toList, Lib.toList_data]
    simp [h]
  · rename_i h
    go_ret
    refine ⟨?_, rfl⟩
    show Ending.returned (Value.bool false) = _
    simp [h]
theorem idx_inner (s : ByteArray) (c : Int) (w : World) :
    Calls Try.prog 27 #[.string s, .int .u8 c] w fun e w' => e = .returned (.int .i64 (Lib.indexByte s.data.toList c.toNat.toUInt8)) ∧ w' = w := by
  go_enter Try.func27, Try.ntmps27
  go_wp2
  rw [run_callFunc_extern Try.func31 (by kernel_rfl) (by kernel_rfl) (by kernel_rfl) (e := Extern.BytealgIndexByte.indexByte) (by kernel_rfl), Lib.run_indexByteString]
  simp only [Result.andThen]
  go_wp2
  go_ret
  exact ⟨rfl, rfl⟩
theorem idx_any (s : ByteArray) (c : Int) (w : World) :
    Calls Try.prog 19 #[.string s, .int .u8 c] w fun e w' => e = .returned (.int .i64 (Lib.indexByte s.data.toList c.toNat.toUInt8)) ∧ w' = w := by
  go_enter Try.func19, Try.ntmps19
  go_wp2_with (go_at_call 27; refine (idx_inner _ _ _).mono ?_; rintro e w' ⟨rfl, rfl⟩)
  go_ret
  exact ⟨rfl, rfl⟩
theorem idxF_lib (x : UInt8) : ∀ l : List UInt8, Lib.indexByte l x = match idxF x l with | none => -1 | some k => (k : Int)
  | [] => rfl
  | c :: t => by
    unfold Lib.indexByte idxF
    by_cases h : c = x
    · subst h; simp
    · have h1 : (c == x) = false := beq_eq_false_iff_ne.2 h
      rw [h1, if_neg (by decide), if_neg h, idxF_lib x t]
      cases idxF x t with
      | none => rfl
      | some k =>
        simp only [Option.map_some]
        rw [if_neg (by rw [beq_iff_eq]; omega)]
        exact (Int.natCast_add k 1).symm
theorem blank_idx (c : UInt8) : decide (0 ≤ Lib.indexByte [32, 9, 10] c) = lxBlank c := by
  unfold lxBlank
  rw [idxF_lib]
  by_cases h1 : (32 : UInt8) = c
  · subst h1; rfl
  by_cases h2 : (9 : UInt8) = c
  · subst h2; rfl
  by_cases h3 : (10 : UInt8) = c
  · subst h3; rfl
  · have e1 : (c == 32) = false := beq_eq_false_iff_ne.2 (Ne.symm h1)
    have e2 : (c == 9) = false := beq_eq_false_iff_ne.2 (Ne.symm h2)
    have e3 : (c == 10) = false := beq_eq_false_iff_ne.2 (Ne.symm h3)
    rw [e1, e2, e3]
    simp [idxF, h1, h2, h3]
theorem u8_back (c : UInt8) : ((c.toNat : Int)).toNat.toUInt8 = c := by simp

theorem idxF_slash {t : List UInt8} {k : Nat} (h : idxF 10 (47 :: t) = some k) : 1 ≤ k := by
  obtain ⟨_, _, u, h3⟩ := idxF_some h
  rcases Nat.eq_zero_or_pos k with h0 | h0
  · subst h0
    rw [List.drop_zero] at h3
    injection h3 with h4 _
    exact absurd h4 (by decide)
  · exact h0
theorem slash_head {c : UInt8} {t : List UInt8} (h : [47, 47].isPrefixOf (c :: t) = true) : c = 47 := by
  rw [List.isPrefixOf_cons_cons, Bool.and_eq_true, beq_iff_eq] at h
  exact h.1.symm
theorem blankF_fuel : ∀ (f g : Nat) (l : List UInt8), l.length ≤ f → l.length ≤ g → blankF f l = blankF g l
  | 0, g, l, h, _ => by
    have : l = [] := List.eq_nil_of_length_eq_zero (by omega)
    subst this
    cases g <;> rfl
  | f + 1, 0, l, _, h => by
    have : l = [] := List.eq_nil_of_length_eq_zero (by omega)
    subst this
    rfl
  | f + 1, g + 1, [], _, _ => rfl
  | f + 1, g + 1, c :: t, h1, h2 => by
    simp only [List.length_cons] at h1 h2
    rw [blankF, blankF]
    by_cases hb : lxBlank c = true
    · rw [if_pos hb, if_pos hb, blankF_fuel f g t (by omega) (by omega)]
    · rw [if_neg hb, if_neg hb]
      by_cases hp : [47, 47].isPrefixOf (c :: t) = true
      · rw [if_pos hp, if_pos hp]
        have hc := slash_head hp
        subst hc
        cases hi : idxF 10 (47 :: t) with
        | none => rfl
        | some k =>
          have hk := idxF_slash hi
          simp only
          rw [blankF_fuel f g _ (by rw [List.length_drop]; simp only [List.length_cons]; omega) (by rw [List.length_drop]; simp only [List.length_cons]; omega)]
      · rw [if_neg hp, if_neg hp]
def blankN (l : List UInt8) : Nat := blankF l.length l
theorem blankN_cons (c : UInt8) (t : List UInt8) : blankN (c :: t) = if lxBlank c = true then 1 + blankN t else if [47, 47].isPrefixOf (c :: t) = true then (match idxF 10 (c :: t) with | none => (c :: t).length | some k => k + blankN ((c :: t).drop k)) else 0 := by
  show blankF (t.length + 1) (c :: t) = _
  rw [blankF]
  by_cases hb : lxBlank c = true
  · rw [if_pos hb, if_pos hb]; rfl
  · rw [if_neg hb, if_neg hb]
    by_cases hp : [47, 47].isPrefixOf (c :: t) = true
    · rw [if_pos hp, if_pos hp]
      have hc := slash_head hp
      subst hc
      cases hi : idxF 10 (47 :: t) with
      | none => rfl
      | some k =>
        have hk := idxF_slash hi
        simp only
        unfold blankN
        rw [blankF_fuel t.length _ _ (by rw [List.length_drop]; simp only [List.length_cons]; omega) (Nat.le_refl _)]
    · rw [if_neg hp, if_neg hp]
theorem ext_list (s : ByteArray) (l : List UInt8) (h : s.data.toList = l) (a : Nat) : (s.extract a s.size).data.toList = l.drop a := by
  have h1 := Lib.extract_toList s a s.size
  rw [Lib.toList_data, h] at h1
  rw [h1, List.take_of_length_le (by rw [List.length_drop, ← h, ← Lib.size_eq]; omega)]

set_option maxRecDepth 100000 in
set_option maxHeartbeats 1000000 in
theorem blank_any (w : World) (s : ByteArray) (l : List UInt8) (hs : s.data.toList = l) (hl : l.length ≤ 100000) :
    Calls Try.prog 13 #[.string s] w fun e w' => e = .returned (.int .i64 (blankN l : Nat)) ∧ w' = w := by
  have hsz := size_list s l hs
  have HS := Lib.hid hs
  have HG := Lib.hid (get_list s l hs)
  have HSZ := Lib.hid hsz
  have hsl : s.size ≤ 100000 := by omega
  generalize hout : blankN l = out
  have HOUT := Lib.hid hout
  clear hs hsz hout
  go_enter Try.func13, Try.ntmps13
  go_wp2
  go_loopw [3] (fun i wr => ∃ k : Nat, i = .int .i64 k ∧ k ≤ s.size ∧ out = k + blankN (l.drop k) ∧ wr = w) (fun i _ => s.size - (intOf i).toNat)
  case atStart => exact ⟨0, rfl, Nat.zero_le _, by rw [← HOUT.out]; simp, rfl⟩
  case round =>
    obtain ⟨k, rfl, hk, hr, rfl⟩ := hrel
    by_cases hka : k < s.size
    · have hkl : k < l.length := by rw [← HSZ.out]; exact hka
      have hdr : l.drop k = l[k] :: l.drop (k + 1) := List.drop_eq_getElem_cons hkl
      have hg : s[k]'hka = l[k] := HG.out k hka hkl
      have HR := Lib.hid hr
      have hst := blankN_cons l[k] (l.drop (k + 1))
      rw [← hdr] at hst
      have hi1 : ∀ W, Calls Try.prog 19 #[.string ⟨#[32, 9, 10]⟩, .int .u8 ((s[k]'hka).toNat : Int)] W fun e w' => e = .returned (.int .i64 (Lib.indexByte [32, 9, 10] l[k])) ∧ w' = W := fun W => by
        have h := idx_any ⟨#[32, 9, 10]⟩ ((s[k]'hka).toNat : Int) W
        rw [u8_back] at h
        have e : Lib.indexByte ((⟨#[32, 9, 10]⟩ : ByteArray).data.toList) (s[k]'hka) = Lib.indexByte [32, 9, 10] l[k] := by rw [hg]
        rw [e] at h
        exact h
      have hb1 := blank_idx l[k]
      have hp : ∀ W, Calls Try.prog 20 #[.string (s.extract k s.size), .string ⟨#[47, 47]⟩] W fun e w' => e = .returned (.bool ([47, 47].isPrefixOf (l.drop k))) ∧ w' = W := fun W => by
        have h := prefix_any (s.extract k s.size) ⟨#[47, 47]⟩ W
        rw [ext_list s l HS.out k] at h
        exact h
      have hi2 : ∀ W, Calls Try.prog 19 #[.string (s.extract k s.size), .int .u8 10] W fun e w' => e = .returned (.int .i64 (match idxF 10 (l.drop k) with | none => -1 | some j => (j : Int))) ∧ w' = W := fun W => by
        have h := idx_any (s.extract k s.size) 10 W
        rw [ext_list s l HS.out k, idxF_lib] at h
        exact h
      have HI1 := Lib.hid hi1
      have HP := Lib.hid hp
      have HI2 := Lib.hid hi2
      clear hi1 hp hi2 hr hg hdr
      generalize Lib.indexByte [32, 9, 10] l[k] = i1 at *
      generalize l[k] = c at *
      by_cases hb : lxBlank c = true
      · rw [hb] at hb1
        rw [if_pos hb] at hst
        have HF : Hid (out = (k + 1) + blankN (l.drop (k + 1))) := by
          have := HR.out
          rw [hst] at this
          have h2 : out = (k + 1) + blankN (l.drop (k + 1)) := by omega
          exact Lib.hid h2
        clear hst hb HR HP HI2
        go_wp2_with (go_at_call 19; refine (HI1.out _).mono ?_; clear HI1; rintro e w2 ⟨rfl, rfl⟩)
        exact ⟨⟨k + 1, by go_num, by omega, HF.out, by first | rfl | trivial⟩, by (simp [intOf]) <;> omega⟩
      · have hb2 : lxBlank c = false := by simpa using hb
        rw [hb2] at hb1
        rw [if_neg hb] at hst
        by_cases hpp : [47, 47].isPrefixOf (l.drop k) = true
        · rw [if_pos hpp] at hst
          rw [hpp] at HP
          cases hi : idxF 10 (l.drop k) with
          | none =>
            rw [hi] at hst HI2
            simp only at hst HI2
            have hout2 : out = s.size := by rw [HR.out, hst, List.length_drop, ← HSZ.out]; omega
            subst hout2
            clear hst hb hb2 HR hpp hi
            have dm : decide ((-1 : Int) < 0) = true := rfl
            go_wp2_with (first
              | (go_at_call 19; refine (HI1.out _).mono ?_; clear HI1; rintro e w2 ⟨rfl, rfl⟩)
              | (go_at_call 20; refine (HP.out _).mono ?_; clear HP; rintro e w2 ⟨rfl, rfl⟩)
              | (go_at_call 19; refine (HI2.out _).mono ?_; clear HI2; rintro e w2 ⟨rfl, rfl⟩))
            go_ret
            exact ⟨rfl, rfl⟩
          | some j =>
            rw [hi] at hst HI2
            simp only at hst HI2
            obtain ⟨hj1, _, _⟩ := idxF_some hi
            rw [List.length_drop] at hj1
            have hj0 : 1 ≤ j := by
              rw [List.drop_eq_getElem_cons hkl] at hi hpp
              have := slash_head hpp
              rw [this] at hi
              exact idxF_slash hi
            have hjs : k + j ≤ s.size := by rw [HSZ.out]; omega
            have HF : Hid (out = (k + j) + blankN (l.drop (k + j))) := by
              have := HR.out
              rw [hst, List.drop_drop] at this
              have h2 : out = (k + j) + blankN (l.drop (k + j)) := by omega
              exact Lib.hid h2
            have dm : decide ((j : Int) < 0) = false := decide_eq_false (by omega)
            have hkj : (k : Int) + (j : Int) = ((k + j : Nat) : Int) := (Int.natCast_add k j).symm
            have HKJ := Lib.hid hkj
            clear hst hb hb2 HR hpp hi hj1 hkj
            go_wp2_with (first
              | (go_at_call 19; refine (HI1.out _).mono ?_; clear HI1; rintro e w2 ⟨rfl, rfl⟩)
              | (go_at_call 20; refine (HP.out _).mono ?_; clear HP; rintro e w2 ⟨rfl, rfl⟩)
              | (go_at_call 19; refine (HI2.out _).mono ?_; clear HI2; rintro e w2 ⟨rfl, rfl⟩))
            exact ⟨⟨k + j, by rw [HKJ.out], by omega, HF.out, by first | rfl | trivial⟩, by (simp [intOf]) <;> omega⟩
        · have hpf : [47, 47].isPrefixOf (l.drop k) = false := Bool.eq_false_iff.2 hpp
          rw [if_neg hpp] at hst
          rw [hpf] at HP
          have hout2 : out = k := by rw [HR.out, hst]; omega
          subst hout2
          clear hst hb hb2 HR hpp hpf HI2
          go_wp2_with (first
            | (go_at_call 19; refine (HI1.out _).mono ?_; clear HI1; rintro e w2 ⟨rfl, rfl⟩)
            | (go_at_call 20; refine (HP.out _).mono ?_; clear HP; rintro e w2 ⟨rfl, rfl⟩))
          go_ret
          exact ⟨rfl, rfl⟩
    · obtain rfl : k = s.size := by omega
      have hd : l.drop s.size = [] := List.drop_eq_nil_of_le (by rw [HSZ.out]; exact Nat.le_refl _)
      rw [hd] at hr
      have hr2 : out = s.size := by rw [hr]; rfl
      subst hr2
      clear hr hd
      go_wp2
      go_ret
      exact ⟨rfl, rfl⟩
end Go.Proofs.Ytjbocnofkaffjaa
