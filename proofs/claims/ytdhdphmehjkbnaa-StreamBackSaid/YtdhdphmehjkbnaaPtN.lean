/- The document's reader (Part): number. -/
import Derived.Test.YtdhdphmehjkbnaaPt
namespace Go.Proofs.Ytdhdphmehjkbnaa
open Go.RowKit Go.Afx

theorem ofBytes_snoc (l : List UInt8) (c : UInt8) : ofBytes (l ++ [c]) = ofBytes l * 256 + c.toNat := by unfold ofBytes; rw [List.foldl_append]; rfl
theorem ofBytes_lt_len (l : List UInt8) : ofBytes l < 256 ^ l.length := by
  have := ofBytes_lt l l.length
  rwa [List.take_length] at this
theorem ofBytes_zero (l : List UInt8) : ofBytes (0 :: l) = ofBytes l := by unfold ofBytes; rw [List.foldl_cons]; rfl
theorem u8_ofNat (c : UInt8) : UInt8.ofNat c.toNat = c := by simp
theorem snoc_ind {P : List UInt8 → Prop} (h0 : P []) (h1 : ∀ l c, P l → P (l ++ [c])) (l : List UInt8) : P l := by
  obtain ⟨r, rfl⟩ : ∃ r, l = List.reverse r := ⟨l.reverse, by simp⟩
  induction r with
  | nil => exact h0
  | cons c r ih => rw [List.reverse_cons]; exact h1 _ _ ih
theorem ofBytes_pos : ∀ l : List UInt8, l ≠ [] → l.head? ≠ some 0 → 0 < ofBytes l := by
  intro l
  refine snoc_ind (P := fun l => l ≠ [] → l.head? ≠ some 0 → 0 < ofBytes l) (fun h => absurd rfl h) (fun l c ih _ h2 => ?_) l
  rw [ofBytes_snoc]
  cases l with
  | nil =>
    have hc : c ≠ 0 := fun h => h2 (by rw [h]; rfl)
    have : c.toNat ≠ 0 := fun h => hc (UInt8.toNat_inj.1 (by simpa using h))
    omega
  | cons a t =>
    have := ih (by simp) (by simpa using h2)
    omega
theorem be_ofBytes : ∀ l : List UInt8, l.head? ≠ some 0 → be256 (ofBytes l) = l := by
  intro l
  refine snoc_ind (P := fun l => l.head? ≠ some 0 → be256 (ofBytes l) = l) (fun _ => be_zero) (fun l c ih h => ?_) l
  have hp := ofBytes_pos (l ++ [c]) (by simp) h
  rw [be_pos _ hp, ofBytes_snoc]
  have hc := c.toNat_lt
  rw [show (ofBytes l * 256 + c.toNat) / 256 = ofBytes l by omega, show (ofBytes l * 256 + c.toNat) % 256 = c.toNat by omega, u8_ofNat]
  cases l with
  | nil => rw [show ofBytes [] = 0 from rfl, be_zero]
  | cons a t => rw [ih (by simpa using h)]
theorem numB_same (l : List UInt8) (h : l.head? ≠ some 0) : numB (ofBytes l) = UInt8.ofNat l.length :: l := by
  unfold numB; rw [be_ofBytes l h]
theorem numB_other (l : List UInt8) (h8 : l.length ≤ 8) (h : l.head? = some 0) : numB (ofBytes l) ≠ UInt8.ofNat l.length :: l := by
  cases l with
  | nil => cases h
  | cons a t =>
    have ha : a = 0 := by simpa using h
    subst ha
    intro he
    have h1 := congrArg List.length he
    unfold numB at h1
    have h2 := be_len_le t.length (ofBytes (0 :: t)) (by rw [ofBytes_zero]; exact ofBytes_lt_len t)
    simp at h1
    omega
theorem ba_ne {A B : ByteArray} (h : A ≠ B) : (A.toList == B.toList) = false := by
  rw [beq_eq_false_iff_ne, ByteArray.toList_eq, ByteArray.toList_eq]
  exact fun e => h (by rw [← bs_of A, ← bs_of B, e])
theorem bs_inj {a b : List UInt8} (h : bs a = bs b) : a = b := by
  have := congrArg (fun s : ByteArray => s.data.toList) h
  simpa [bs] using this
theorem bs_get (l : List UInt8) (k : Nat) (hk : k < (bs l).size) (hk2 : k < l.length) : (bs l)[k] = l[k] := get_list (bs l) l (bs_data l) k hk hk2

theorem only_below {q : Nat} {w w1 w2 : World} (h : Only (fun k => k = q) w w1) (hb : Below w1.heap.size w1 w2) : Only (fun k => k = q) w w2 := h.trans (Only.of_none hb (S := fun _ => False)) (fun _ _ h => h.elim)
theorem only_trans {q : Nat} {w w1 w2 : World} (h : Only (fun k => k = q) w w1) (hb : Only (fun k => k = q) w1 w2) : Only (fun k => k = q) w w2 := h.trans hb (fun _ _ h => h)

set_option maxRecDepth 100000 in
set_option maxHeartbeats 1000000 in
theorem number_pt (w : World) (q : Nat) (bad : Bool) (l : List UInt8) (h : Prt w q bad l) :
    Calls Try.prog 99 #[.pointer (some ⟨q, 0, none⟩)] w fun e w' => e = .returned (.int .u64 ((rNum bad l).1 : Int)) ∧ Prt w' q (rNum bad l).2.1 (rNum bad l).2.2 ∧ Only (fun k => k = q) w w' := by
  have HC := Lib.hid (cut_pt w q bad l h 1)
  by_cases hok : bad = false ∧ l ≠ []
  · obtain ⟨rfl, hne⟩ := hok
    obtain ⟨c, t, rfl⟩ : ∃ c t, l = c :: t := by
      cases l with
      | nil => exact absurd rfl hne
      | cons c t => exact ⟨c, t, rfl⟩
    have er : rCut 1 false (c :: t) = ([c], false, t) := by unfold rCut; rw [if_neg (by simp)]; rfl
    rw [er] at HC
    have hgc : ∀ (h : 0 < (bs [c]).size), (((bs [c])[0]'h).toNat : Int) = (c.toNat : Int) := fun h => congrArg (fun x : UInt8 => (x.toNat : Int)) (bs_get [c] 0 h (by simp))
    have hszc : 0 < (bs [c]).size := by rw [bs_size]; simp
    have hc256 : c.toNat < 256 := c.toNat_lt
    have hlt := h.len
    rw [List.length_cons] at hlt
    have hrn : rNum false (c :: t) = if 8 < c.toNat ∨ t.length < c.toNat then (0, true, []) else if (t.take c.toNat).head? = some 0 then (0, true, []) else (ofBytes (t.take c.toNat), false, t.drop c.toNat) := by
      unfold rNum rByte
      simp
    have HRN := Lib.hid hrn
    have hbc : ∀ x : List UInt8, bs [c] ++ bs x = bs (c :: x) := fun x => bs_append [c] x
    have HBC := Lib.hid hbc
    have hs1 : (bs [c]).size = 1 := by rw [bs_size]; rfl
    have HS1 := Lib.hid hs1
    clear hrn er hne h hbc hs1
    generalize hBc : bs [c] = Bc at *
    have HBc := Lib.hid hBc
    clear hBc
    obtain ⟨m, hm⟩ : ∃ m : Nat, m = c.toNat := ⟨_, rfl⟩
    rw [← hm] at hgc hc256 HRN
    have HM := Lib.hid hm
    clear hm
    by_cases h8 : 8 < m
    · have e1 : rNum false (c :: t) = (0, true, []) := by rw [HRN.out, if_pos (.inl h8)]
      rw [e1]
      have d8 : decide ((8 : Int) < m) = true := decide_eq_true (by omega)
      clear e1 HRN HBC
      go_enter Try.func99, Try.ntmps99
      go_wp2_with fail
      refine HC.out.mono ?_
      clear HC
      rintro e w1 ⟨rfl, hp1, ho1⟩
      have k1 := hp1.cellBad
      have kf := hp1.free
      have HP1 := Lib.hid hp1
      have hg1 := hgc hszc
      clear hp1
      go_wp2
      go_ret
      exact ⟨rfl, HP1.out.spoil, only_trans ho1 (only_cell _ _ _ _)⟩
    · have d8 : decide ((8 : Int) < m) = false := decide_eq_false (by omega)
      go_enter Try.func99, Try.ntmps99
      go_wp2_with fail
      refine HC.out.mono ?_
      clear HC
      rintro e w1 ⟨rfl, hp1, ho1⟩
      have k1 := hp1.cellBad
      have hg1 := hgc hszc
      have HO1 := Lib.hid ho1
      have HC2 := Lib.hid (cut_pt w1 q false t hp1 m)
      clear hp1 ho1
      by_cases hsh : t.length < m
      · have e1 : rNum false (c :: t) = (0, true, []) := by rw [HRN.out, if_pos (.inr hsh)]
        have er : rCut m false t = ([], true, []) := by unfold rCut; rw [if_pos (.inr hsh)]
        rw [er] at HC2
        have E1 := Lib.hid e1
        clear HRN e1 er HBC
        go_wp2_with fail
        refine HC2.out.mono ?_
        clear HC2
        rintro e w2 ⟨rfl, hp2, ho2⟩
        have k2 := hp2.cellBad
        have HP2 := Lib.hid hp2
        have HO2 := Lib.hid (only_trans HO1.out ho2)
        have hz : (bs []).size = 0 := rfl
        clear hp2 ho2 k1
        simp only at *
        generalize bs [] = Z at *
        go_wp2
        go_loopw [5, 6] (fun a i wr => a = .int .u64 0 ∧ i = .int .i64 0 ∧ w2 = wr) (fun _ _ _ => 0)
        case atStart => exact ⟨rfl, rfl, rfl⟩
        case round =>
          obtain ⟨rfl, rfl, rfl⟩ := hrel
          have dz : decide ((0 : Int) < Z.size) = false := decide_eq_false (by omega)
          have dz2 : decide (0 < Z.size) = false := decide_eq_false (by omega)
          clear hz
          go_wp2
          go_ret
          exact ⟨by rw [E1.out]; rfl, by rw [E1.out]; exact HP2.out, HO2.out⟩
      · have er : rCut m false t = (t.take m, false, t.drop m) := by unfold rCut; rw [if_neg (by simp; omega)]
        rw [er] at HC2
        have hlen : (t.take m).length = m := by rw [List.length_take]; omega
        have HCM : Hid (c = UInt8.ofNat (t.take m).length) := by show _ = _; rw [hlen, HM.out, u8_ofNat]
        have HRN2 : Hid (rNum false (c :: t) = if (t.take m).head? = some 0 then (0, true, []) else (ofBytes (t.take m), false, t.drop m)) := by
          show _ = _
          rw [HRN.out, if_neg (by omega)]
        clear HRN er
        generalize t.take m = x at *
        generalize t.drop m = rest at *
        have hbs := bs_size x
        rw [hlen] at hbs
        have hgx : ∀ k (h : k < (bs x).size), ∃ d : Nat, ((bs x)[k]'h).toNat = d ∧ d < 256 ∧ ofBytes (x.take (k + 1)) = ofBytes (x.take k) * 256 + d := fun k hk => by
          have h2 : k < x.length := by rw [bs_size] at hk; exact hk
          have hg := bs_get x k hk h2
          exact ⟨x[k].toNat, congrArg UInt8.toNat hg, x[k].toNat_lt, ofBytes_next x k h2⟩
        have HGX := Lib.hid hgx
        have hcat := HBC.out x
        have hs12 : Bc.size + (bs x).size ≤ 9223372036854775807 := by rw [HS1.out, hbs]; omega
        have HLEN := Lib.hid hlen
        clear hgx HBC hlen
        go_wp2_with fail
        refine HC2.out.mono ?_
        clear HC2
        rintro e w2 ⟨rfl, hp2, ho2⟩
        have k2 := hp2.cellBad
        have HP2 := Lib.hid hp2
        have HO2 := Lib.hid (only_trans HO1.out ho2)
        clear hp2 ho2 k1
        simp only at *
        generalize hX : bs x = X at *
        have HXE := Lib.hid hX
        clear hX
        go_wp2
        go_loopw [5, 6] (fun a i wr => ∃ k : Nat, i = .int .i64 k ∧ k ≤ m ∧ a = .int .u64 (ofBytes (x.take k) : Int) ∧ w2 = wr) (fun _ i _ => m - (intOf i).toNat)
        case atStart => exact ⟨0, rfl, Nat.zero_le _, rfl, rfl⟩
        case round =>
          obtain ⟨k, rfl, hk, rfl, rfl⟩ := hrel
          by_cases hka : k < m
          · have hkx : k < X.size := by omega
            obtain ⟨d, hd, hd256, hnx⟩ := HGX.out k hkx
            have hu := ofBytes_lt x k
            have hu2 : ofBytes (x.take k) < 72057594037927936 := Nat.lt_of_lt_of_le hu (Nat.le_trans (Nat.pow_le_pow_right (by decide) (show k ≤ 7 by omega)) (by decide))
            have hdi : ((X[k]'hkx).toNat : Int) = (d : Int) := by rw [hd]
            have HNX := Lib.hid hnx
            clear hu hnx hd
            generalize ofBytes (x.take k) = u at *
            go_wp2
            go_roundw
            case rel => exact ⟨k + 1, by go_num, by omega, by rw [HNX.out]; congr 1; omega, by first | rfl | trivial⟩
            case measure => (simp [intOf]) <;> omega
          · obtain rfl : k = m := by omega
            have htk : x.take k = x := List.take_of_length_le (by rw [HLEN.out]; exact Nat.le_refl _)
            rw [htk]
            have hox : ofBytes x < 18446744073709551616 := Nat.lt_of_lt_of_le (ofBytes_lt_len x) (Nat.le_trans (Nat.pow_le_pow_right (by decide) (show x.length ≤ 8 by rw [HLEN.out]; omega)) (by decide))
            have HN := Lib.hid (refnum w2 (ofBytes x) hox)
            clear htk hox HGX
            by_cases hh : x.head? = some 0
            · have e1 : rNum false (c :: t) = (0, true, []) := by rw [HRN2.out, if_pos hh]
              have hne := numB_other x (by rw [HLEN.out]; omega) hh
              rw [← HCM.out] at hne
              have hneb : bs (numB (ofBytes x)) ≠ bs (c :: x) := fun h => hne (bs_inj h)
              have E1 := Lib.hid e1
              clear e1 hh hne HRN2
              generalize bs (numB (ofBytes x)) = A at *
              generalize bs (c :: x) = B at *
              have hb1 := ba_ne hneb
              have hb2 : (!A.toList == B.toList) = true := by rw [hb1]; rfl
              have hb3 : decide (A = B) = false := decide_eq_false hneb
              clear hneb
              go_wp2_with fail
              refine HN.out.mono ?_
              clear HN
              rintro e w3 ⟨rfl, hb⟩
              have hp3 := HP2.out.below hb
              have k3 := hp3.cellBad
              have kf := hp3.free
              have HP3 := Lib.hid hp3
              have HO3 := Lib.hid (only_below HO2.out hb)
              clear hp3 hb
              go_wp2
              go_ret
              exact ⟨by rw [E1.out]; rfl, by rw [E1.out]; exact HP3.out.spoil, only_trans HO3.out (only_cell _ _ _ _)⟩
            · have e1 : rNum false (c :: t) = (ofBytes x, false, rest) := by rw [HRN2.out, if_neg hh]
              have heq := numB_same x hh
              rw [← HCM.out] at heq
              rw [heq] at HN
              have E1 := Lib.hid e1
              clear e1 hh heq HRN2
              generalize bs (c :: x) = B at *
              go_wp2_with fail
              refine HN.out.mono ?_
              clear HN
              rintro e w3 ⟨rfl, hb⟩
              have hp3 := HP2.out.below hb
              have k3 := hp3.cellBad
              have HP3 := Lib.hid hp3
              have HO3 := Lib.hid (only_below HO2.out hb)
              clear hp3 hb
              go_wp2
              go_ret
              exact ⟨by rw [E1.out]; rfl, by rw [E1.out]; exact HP3.out, HO3.out⟩
  · have er : rCut 1 bad l = ([], true, []) := by
      unfold rCut; rw [if_pos]
      cases bad
      · right; simp at hok; simp [hok]
      · exact .inl rfl
    have e1 : rNum bad l = (0, true, []) := by
      have : rByte bad l = (0, true, []) := by
        cases bad
        · simp at hok; rw [hok]; rfl
        · cases l <;> rfl
      unfold rNum
      simp [this]
    rw [er] at HC
    rw [e1]
    clear er e1 hok h
    go_enter Try.func99, Try.ntmps99
    go_wp2_with fail
    refine HC.out.mono ?_
    clear HC
    rintro e w1 ⟨rfl, hp1, ho1⟩
    have k1 := hp1.cellBad
    have kf := hp1.free
    have HP1 := Lib.hid hp1
    clear hp1
    go_wp2
    go_ret
    exact ⟨rfl, HP1.out.spoil, only_trans ho1 (only_cell _ _ _ _)⟩
end Go.Proofs.Ytdhdphmehjkbnaa
