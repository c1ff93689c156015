/- Values parsed, the document's. -/
import Derived.Test.YtlgohkdckdnmhaaDoorPriR
import Derived.Test.YtlgohkdckdnmhaaDoorRefParse
namespace Go.Proofs.YtlgohkdckdnmhaaDoor
open Go.RowKit Go.Afx


/-- Of each pair that begins with a quote the first. -/
def skipQ : List UInt8 → List UInt8
  | [] => []
  | [c] => [c]
  | c :: d :: t => if c = 39 then c :: skipQ t else c :: skipQ (d :: t)
theorem skipQ_cons (c : UInt8) (t : List UInt8) : skipQ (c :: t) = if c = 39 then c :: skipQ (t.drop 1) else c :: skipQ t := by
  cases t with
  | nil => simp [skipQ]
  | cons d t => rw [skipQ]; rfl
theorem skipQ_esc (s : List UInt8) : skipQ (esc 39 [39, 39] s) = s := by
  induction s with
  | nil => rfl
  | cons c t ih =>
    unfold esc
    by_cases h : c = 39
    · subst h
      rw [if_pos rfl]
      show skipQ (39 :: 39 :: esc 39 [39, 39] t) = _
      rw [skipQ, if_pos rfl, ih]
    · rw [if_neg h]
      show skipQ (c :: esc 39 [39, 39] t) = _
      rw [skipQ_cons, if_neg h, ih]
theorem skipQ_length (s : List UInt8) : (skipQ s).length ≤ s.length := by
  fun_induction skipQ s <;> simp_all <;> omega
theorem pr_text (x : List UInt8) : prB ⟨2, 0, bs x⟩ = 39 :: (esc 39 [39, 39] x ++ [39]) := by
  show (39 :: (esc 39 [39, 39] (bs x).data.toList ++ [39])) = _
  rw [bs_data]
theorem midL_mid' (x : List UInt8) : midL (39 :: (x ++ [39])) = x := by
  unfold midL
  simp
theorem chk_texts (l : List UInt8) : chkV ⟨2, 0, bs (skipQ (midL l))⟩ l = chkV ⟨2, 0, bs (unpair 39 (midL l))⟩ l := by
  by_cases h : ∃ x, l = 39 :: (esc 39 [39, 39] x ++ [39])
  · obtain ⟨x, rfl⟩ := h
    rw [midL_mid', skipQ_esc, unpair_esc]
  · have h1 : ∀ x, (prB ⟨2, 0, bs x⟩ == l) = false := fun x => by
      rw [beq_eq_false_iff_ne, pr_text]
      exact fun e => h ⟨x, e.symm⟩
    unfold chkV
    rw [h1, h1, Bool.and_false, Bool.and_false, if_neg (by decide), if_neg (by decide)]
theorem prsV_text (l : List UInt8) (h : l.head? = some 39) : prsV l = chkV ⟨2, 0, bs (skipQ (midL l))⟩ l := by
  rw [chk_texts]
  cases l with
  | nil => simp at h
  | cons c t =>
    obtain rfl : c = 39 := by simpa using h
    have n1 : ¬ ((39 :: t) == trueL) = true := by unfold trueL; simp
    have n2 : ¬ ((39 :: t) == falseL) = true := by unfold falseL; simp
    unfold prsV
    rw [if_neg n1, if_neg n2]
    cases t with
    | nil =>
      have e1 : ¬ isText [39] = true := by decide
      have e2 : ¬ prsE [39] = 0 := by decide
      have e3 : (prB ⟨2, 0, bs (unpair 39 (midL [39]))⟩ == [39]) = false := by decide
      rw [if_neg e1, if_neg e2]
      unfold chkV
      rw [e3, Bool.and_false, if_neg (by decide)]
    | cons d t => rw [if_pos (by unfold isText; simp)]
theorem prsV_num (l : List UInt8) (h : l.head? ≠ some 39) (n1 : l ≠ trueL) (n2 : l ≠ falseL) : prsV l = if prsE l = 0 then chkV ⟨1, prsN l, ⟨#[]⟩⟩ l else (zeroV, 12) := by
  unfold prsV
  rw [if_neg (by simpa using n1), if_neg (by simpa using n2), if_neg (by unfold isText; simp [h])]
theorem prsN_fits (l : List UInt8) : fits (prsN l) := by
  have : ∀ ng r, fits (numN ng r) := fun ng r => by
    unfold numN
    split
    · unfold shortN
      split
      · assumption
      · unfold fits; omega
    · unfold fits; omega
  exact this _ _

--BEGIN GEN
set_option maxRecDepth 100000 in
set_option maxHeartbeats 4000000 in
theorem refparse_val (w : World) (s : ByteArray) (l : List UInt8) (hs : s.data.toList = l) (hl : l.length ≤ 1000) :
    Calls Tryd.prog 41 #[.string s] w fun e w' => e = .returned (.tuple #[(prsV l).1.agg, .bool (decide ((prsV l).2 = 0))]) ∧ Below w.heap.size w w' := by
  have e1 := eq_lit s l hs [116, 114, 117, 101]
  have e2 := eq_lit s l hs [102, 97, 108, 115, 101]
  have hsz := size_list s l hs
  have htext := prsV_text l
  have hnum := prsV_num l
  obtain ⟨out, hout⟩ : ∃ out, prsV l = out := ⟨_, rfl⟩
  rw [hout] at htext hnum ⊢
  have HO := Lib.hid hout
  have HS := Lib.hid hs
  clear hout hs
  have h0s : ∀ h : 0 < s.size, (((s[0]'h).toNat : Int) == 39) = decide (l.head? = some 39) := fun h => by
    have h6 := get_list s l HS.out 0 h (by omega)
    rw [h6]
    rw [List.head?_eq_getElem?, List.getElem?_eq_getElem (by omega)]
    rw [Bool.eq_iff_iff, beq_iff_eq, decide_eq_true_eq]
    constructor
    · intro h7
      rw [UInt8.toNat_inj.1 (show (l[0]'(by omega)).toNat = (39 : UInt8).toNat by show _ = 39; omega)]
    · intro h7
      rw [Option.some.inj h7]; rfl
  by_cases h1 : l = trueL
  · have hb1 : (l == [116, 114, 117, 101]) = true := by rw [h1]; rfl
    rw [hb1] at e1
    have HOUT : Hid (out = (⟨3, 1, ⟨#[]⟩⟩, 0)) := by
      show _ = _
      rw [← HO.out, h1]; rfl
    have hr := fun w => refright w ⟨3, 1, ⟨#[]⟩⟩
    rw [right_true] at hr
    have HR := Lib.hid hr
    have hp := fun w => refprint_val w ⟨3, 1, ⟨#[]⟩⟩ right_true (by simp [fit64])
    have hpb : prB ⟨3, 1, ⟨#[]⟩⟩ = [116, 114, 117, 101] := rfl
    rw [hpb] at hp
    have HP := Lib.hid hp
    have hne : ((bs [116, 114, 117, 101]).toList == s.toList) = true := by
      rw [bs_toList, ByteArray.toList_eq, HS.out, h1]; rfl
    clear hr hp htext hnum h0s hpb h1 
    simp only [AV.agg] at HR HP
    have K13 : Hid (Blk ((w.alloc (.cells #[.int .i64 0, .int .i64 0, .string ⟨#[]⟩] 27)).alloc (.cells #[.int .i64 3, .int .i64 1, .string ⟨#[]⟩] 27)) w.heap.size 27 [.int .i64 0, .int .i64 0, .string ⟨#[]⟩]) := (Blk.new w 27 [.int .i64 0, .int .i64 0, .string ⟨#[]⟩]).alloc _
    have K23 : Hid (Blk ((w.alloc (.cells #[.int .i64 0, .int .i64 0, .string ⟨#[]⟩] 27)).alloc (.cells #[.int .i64 3, .int .i64 1, .string ⟨#[]⟩] 27)) (w.heap.size + 1) 27 [.int .i64 3, .int .i64 1, .string ⟨#[]⟩]) := (show (w.alloc (.cells #[.int .i64 0, .int .i64 0, .string ⟨#[]⟩] 27)).heap.size = w.heap.size + 1 by simp) ▸ Blk.new _ 27 [.int .i64 3, .int .i64 1, .string ⟨#[]⟩]
    have HB3 : Hid (Below w.heap.size w ((w.alloc (.cells #[.int .i64 0, .int .i64 0, .string ⟨#[]⟩] 27)).alloc (.cells #[.int .i64 3, .int .i64 1, .string ⟨#[]⟩] 27))) := by
      have h : Below w.heap.size w (w.alloc (.cells #[.int .i64 0, .int .i64 0, .string ⟨#[]⟩] 27)) := (Below.refl _ _).alloc (Nat.le_refl _) _
      exact h.alloc h.size _
    go_enter Tryd.func41, Tryd.ntmps41
    go_wp2_with fail
    refine (HR.out _).mono ?_
    clear HR
    rintro e w7 ⟨rfl, hb7⟩
    have K17 := Lib.hid (K13.out.below hb7)
    have K27 := Lib.hid (K23.out.below hb7)
    have HB7 := Lib.hid (HB3.out.trans (hb7.mono HB3.out.size))
    clear hb7
    obtain ⟨a0, a1, a2, af⟩ := blk3 K17.out
    obtain ⟨b0, b1, b2, bf⟩ := blk3 K27.out
    go_wp2_with fail
    refine (HP.out _).mono ?_
    clear HP
    rintro e w8 ⟨rfl, hb8⟩
    have K18 := Lib.hid (K17.out.below hb8)
    have K28 := Lib.hid (K27.out.below hb8)
    have HB8 := Lib.hid (HB7.out.trans (hb8.mono HB7.out.size))
    clear hb8 a0 a1 a2 af b0 b1 b2 bf
    obtain ⟨a0, a1, a2, af⟩ := blk3 K18.out
    obtain ⟨b0, b1, b2, bf⟩ := blk3 K28.out
    go_wp2
    refine bodyPost_ret (v := .tuple #[.agg #[.int .i64 3, .int .i64 1, .string ⟨#[]⟩], .bool true]) (by simp [results, Tryd.results41, go_sem, a0, a1, a2]) rfl ⟨by rw [HOUT.out]; rfl, ?_⟩
    exact ((HB8.out.setCell (p := ⟨w.heap.size, 0, none⟩) (by simp) _).setCell (p := ⟨w.heap.size, 1, none⟩) (by simp) _).setCell (p := ⟨w.heap.size, 2, none⟩) (by simp) _
  · have hb1 : (l == [116, 114, 117, 101]) = false := by rw [beq_eq_false_iff_ne]; exact h1
    rw [hb1] at e1
    by_cases h2 : l = falseL
    · have hb2 : (l == [102, 97, 108, 115, 101]) = true := by rw [h2]; rfl
      rw [hb2] at e2
      have HOUT : Hid (out = (⟨3, 0, ⟨#[]⟩⟩, 0)) := by
        show _ = _
        rw [← HO.out, h2]; rfl
      have hr := fun w => refright w ⟨3, 0, ⟨#[]⟩⟩
      rw [right_false] at hr
      have HR := Lib.hid hr
      have hp := fun w => refprint_val w ⟨3, 0, ⟨#[]⟩⟩ right_false (by simp [fit64])
      have hpb : prB ⟨3, 0, ⟨#[]⟩⟩ = [102, 97, 108, 115, 101] := rfl
      rw [hpb] at hp
      have HP := Lib.hid hp
      have hne : ((bs [102, 97, 108, 115, 101]).toList == s.toList) = true := by
        rw [bs_toList, ByteArray.toList_eq, HS.out, h2]; rfl
      clear hr hp htext hnum h0s hpb h1 h2
      simp only [AV.agg] at HR HP
      have K13 : Hid (Blk ((w.alloc (.cells #[.int .i64 0, .int .i64 0, .string ⟨#[]⟩] 27)).alloc (.cells #[.int .i64 3, .int .i64 0, .string ⟨#[]⟩] 27)) w.heap.size 27 [.int .i64 0, .int .i64 0, .string ⟨#[]⟩]) := (Blk.new w 27 [.int .i64 0, .int .i64 0, .string ⟨#[]⟩]).alloc _
      have K23 : Hid (Blk ((w.alloc (.cells #[.int .i64 0, .int .i64 0, .string ⟨#[]⟩] 27)).alloc (.cells #[.int .i64 3, .int .i64 0, .string ⟨#[]⟩] 27)) (w.heap.size + 1) 27 [.int .i64 3, .int .i64 0, .string ⟨#[]⟩]) := (show (w.alloc (.cells #[.int .i64 0, .int .i64 0, .string ⟨#[]⟩] 27)).heap.size = w.heap.size + 1 by simp) ▸ Blk.new _ 27 [.int .i64 3, .int .i64 0, .string ⟨#[]⟩]
      have HB3 : Hid (Below w.heap.size w ((w.alloc (.cells #[.int .i64 0, .int .i64 0, .string ⟨#[]⟩] 27)).alloc (.cells #[.int .i64 3, .int .i64 0, .string ⟨#[]⟩] 27))) := by
        have h : Below w.heap.size w (w.alloc (.cells #[.int .i64 0, .int .i64 0, .string ⟨#[]⟩] 27)) := (Below.refl _ _).alloc (Nat.le_refl _) _
        exact h.alloc h.size _
      go_enter Tryd.func41, Tryd.ntmps41
      go_wp2_with fail
      refine (HR.out _).mono ?_
      clear HR
      rintro e w7 ⟨rfl, hb7⟩
      have K17 := Lib.hid (K13.out.below hb7)
      have K27 := Lib.hid (K23.out.below hb7)
      have HB7 := Lib.hid (HB3.out.trans (hb7.mono HB3.out.size))
      clear hb7
      obtain ⟨a0, a1, a2, af⟩ := blk3 K17.out
      obtain ⟨b0, b1, b2, bf⟩ := blk3 K27.out
      go_wp2_with fail
      refine (HP.out _).mono ?_
      clear HP
      rintro e w8 ⟨rfl, hb8⟩
      have K18 := Lib.hid (K17.out.below hb8)
      have K28 := Lib.hid (K27.out.below hb8)
      have HB8 := Lib.hid (HB7.out.trans (hb8.mono HB7.out.size))
      clear hb8 a0 a1 a2 af b0 b1 b2 bf
      obtain ⟨a0, a1, a2, af⟩ := blk3 K18.out
      obtain ⟨b0, b1, b2, bf⟩ := blk3 K28.out
      go_wp2
      refine bodyPost_ret (v := .tuple #[.agg #[.int .i64 3, .int .i64 0, .string ⟨#[]⟩], .bool true]) (by simp [results, Tryd.results41, go_sem, a0, a1, a2]) rfl ⟨by rw [HOUT.out]; rfl, ?_⟩
      exact ((HB8.out.setCell (p := ⟨w.heap.size, 0, none⟩) (by simp) _).setCell (p := ⟨w.heap.size, 1, none⟩) (by simp) _).setCell (p := ⟨w.heap.size, 2, none⟩) (by simp) _
    · have hb2 : (l == [102, 97, 108, 115, 101]) = false := by rw [beq_eq_false_iff_ne]; exact h2
      rw [hb2] at e2
      by_cases ht : l.head? = some 39
      · have hot := htext ht
        have h0p : 0 < s.size := by
          rw [hsz]
          cases l with
          | nil => simp at ht
          | cons a b => simp
        have h39 := h0s h0p
        rw [decide_eq_true ht] at h39
        have HOT := Lib.hid hot
        have HG := Lib.hid (get_list s l HS.out)
        have HSZ := Lib.hid hsz
        have hs1000 : s.size ≤ 1000 := by omega
        clear hot htext hnum h0s ht h1 h2 hb1 hb2 hsz
        have K14 : Hid (Blk ((w.alloc (.cells #[.int .i64 0, .int .i64 0, .string ⟨#[]⟩] 27)).alloc (.cells #[.int .i64 2, .int .i64 0, .string ⟨#[]⟩] 27)) w.heap.size 27 [.int .i64 0, .int .i64 0, .string ⟨#[]⟩]) := (Blk.new w 27 [.int .i64 0, .int .i64 0, .string ⟨#[]⟩]).alloc _
        have K24 : Hid (Blk ((w.alloc (.cells #[.int .i64 0, .int .i64 0, .string ⟨#[]⟩] 27)).alloc (.cells #[.int .i64 2, .int .i64 0, .string ⟨#[]⟩] 27)) (w.heap.size + 1) 27 [.int .i64 2, .int .i64 0, .string ⟨#[]⟩]) := (show (w.alloc (.cells #[.int .i64 0, .int .i64 0, .string ⟨#[]⟩] 27)).heap.size = w.heap.size + 1 by simp) ▸ Blk.new _ 27 [.int .i64 2, .int .i64 0, .string ⟨#[]⟩]
        have HB4 : Hid (Below w.heap.size w ((w.alloc (.cells #[.int .i64 0, .int .i64 0, .string ⟨#[]⟩] 27)).alloc (.cells #[.int .i64 2, .int .i64 0, .string ⟨#[]⟩] 27))) := by
          have h : Below w.heap.size w (w.alloc (.cells #[.int .i64 0, .int .i64 0, .string ⟨#[]⟩] 27)) := (Below.refl _ _).alloc (Nat.le_refl _) _
          exact h.alloc h.size _
        have hw4 : ((w.alloc (.cells #[.int .i64 0, .int .i64 0, .string ⟨#[]⟩] 27)).alloc (.cells #[.int .i64 2, .int .i64 0, .string ⟨#[]⟩] 27)).heap.size = w.heap.size + 2 := by simp
        obtain ⟨w4, hw4e⟩ : ∃ w4, ((w.alloc (.cells #[.int .i64 0, .int .i64 0, .string ⟨#[]⟩] 27)).alloc (.cells #[.int .i64 2, .int .i64 0, .string ⟨#[]⟩] 27)) = w4 := ⟨_, rfl⟩
        rw [hw4e] at K14 K24 HB4 hw4
        have HW4 := Lib.hid hw4
        clear hw4
        have HSK0 : Hid (skipQ ((l.drop 1).take (l.length - 1 - 1)) = skipQ (midL l)) := by
          show _ = _
          unfold midL
          rw [Nat.sub_sub]
        go_enter Tryd.func41, Tryd.ntmps41
        go_wp2_with (rw [hw4e])
        clear hw4e
        go_loopw [5, 6] (fun v i wr => ∃ (k : Nat) (acc : List UInt8), i = .int .i64 k ∧ 1 ≤ k ∧ k ≤ s.size ∧ Own wr 5 1 v acc.length (by8 acc) ∧ (∀ q, v.ownBlock = some q → w.heap.size + 1 < q) ∧ acc ++ skipQ ((l.drop k).take (l.length - 1 - k)) = skipQ (midL l) ∧ acc.length ≤ k ∧ Below w4.heap.size w4 wr) (fun _ i _ => s.size - (intOf i).toNat)
        case atStart => exact ⟨1, [], rfl, Nat.le_refl _, h0p, Own.nil _ _ _, by simp [Value.ownBlock], HSK0.out, Nat.zero_le _, Below.refl _ _⟩
        case round =>
          obtain ⟨k, acc, rfl, hk1, hk, hown, hnew, hacc, hal, hbr⟩ := hrel
          obtain ⟨pv, cv, rfl, hcv1, hcv2⟩ := own_form hown
          have HOWN := Lib.hid hown
          have HNEW := Lib.hid hnew
          have HBR := Lib.hid hbr
          have HACC := Lib.hid hacc
          have HKA := Lib.hid (K14.out.below hbr)
          have HKB := Lib.hid (K24.out.below hbr)
          have HBW := Lib.hid (HB4.out.trans (hbr.mono HB4.out.size))
          clear hown hnew hbr hacc
          by_cases hka : k + 1 < s.size
          · have hkl : k < l.length := by have := HSZ.out; omega
            have hks : k < s.size := by omega
            have hki : (k : Int) + 1 < (s.size : Int) := by omega
            have hsp : (l.drop k).take (l.length - 1 - k) = l[k] :: (l.drop (k + 1)).take (l.length - 1 - (k + 1)) := by
              rw [List.drop_eq_getElem_cons hkl]
              have : l.length - 1 - k = (l.length - 1 - (k + 1)) + 1 := by have := HSZ.out; omega
              rw [this, List.take_succ_cons]
            have hsd : ((l.drop (k + 1)).take (l.length - 1 - (k + 1))).drop 1 = (l.drop (k + 2)).take (l.length - 1 - (k + 2)) := by
              rw [List.drop_take, List.drop_drop]
              congr 1
            have hcc : (s[k]'hks) = l[k] := HG.out k hks hkl
            have hac := HACC.out
            rw [hsp, skipQ_cons, hsd] at hac
            have HAC := Lib.hid hac
            have hal2 : Below wr.heap.size wr (wr.alloc (.cells #[.int .u8 ((s[k]'hks).toNat : Int)] 5)) := (Below.refl _ _).alloc (Nat.le_refl _) _
            have ho1 := HOWN.out.below hal2
            have hs1 := one_byte wr (s[k]'hks)
            have HG0 := Lib.hid (Grew.start HOWN.out)
            have HAL2 := Lib.hid hal2
            clear hal2 hac hsp hsd
            cases hz : ((((s[k]'hks).toNat : Int) == 39))
            · have hne : ¬ l[k] = 39 := fun h => by
                rw [hcc, h] at hz; cases hz
              have HAC2 := HAC.out
              rw [if_neg hne] at HAC2
              have HA3 := Lib.hid HAC2
              have HCC := Lib.hid hcc
              clear hne hcc HAC2
              go_wp2_with (at_builtin; refine wpList_app rfl _ _ rfl elemU8 (by rfl) ho1 (by rfl) hs1 (by unfold maxLen; omega) (by omega) ?_; intro v1 w7 g1 g2 g3 g4 g5; clear ho1 hs1; have G0 := Lib.hid (HG0.out.push HAL2.out g1 g2 g3 rfl rfl rfl); clear g1 g2 g3 g4 g5)
              have h8 := HBR.out.size
              have h9 := HW4.out
              refine ⟨⟨k + 1, acc ++ [s[k]'hks], by go_num, by omega, by omega, G0.out.1, fun q hq => ?_, ?_, by rw [List.length_append]; simp only [List.length_cons, List.length_nil]; omega, ?_⟩, by (simp [intOf]) <;> omega⟩
              · rcases G0.out.2.2 q hq with h | h
                · exact HNEW.out q h
                · omega
              · rw [List.append_assoc, HCC.out]; exact HA3.out
              · exact HBR.out.trans (G0.out.2.1.below h8 (fun q hq => by have := HNEW.out q hq; omega))
            · have hne : l[k] = 39 := by
                have h1 : ((s[k]'hks).toNat : Int) = 39 := by simpa using hz
                rw [hcc] at h1
                exact UInt8.toNat_inj.1 (by show l[k].toNat = 39; omega)
              have HAC2 := HAC.out
              rw [if_pos hne] at HAC2
              have HA3 := Lib.hid HAC2
              have HCC := Lib.hid hcc
              clear hne hcc HAC2
              go_wp2_with (at_builtin; refine wpList_app rfl _ _ rfl elemU8 (by rfl) ho1 (by rfl) hs1 (by unfold maxLen; omega) (by omega) ?_; intro v1 w7 g1 g2 g3 g4 g5; clear ho1 hs1; have G0 := Lib.hid (HG0.out.push HAL2.out g1 g2 g3 rfl rfl rfl); clear g1 g2 g3 g4 g5)
              have h8 := HBR.out.size
              have h9 := HW4.out
              refine ⟨⟨k + 2, acc ++ [s[k]'hks], by go_num, by omega, by omega, G0.out.1, fun q hq => ?_, ?_, by rw [List.length_append]; simp only [List.length_cons, List.length_nil]; omega, ?_⟩, by (simp [intOf]) <;> omega⟩
              · rcases G0.out.2.2 q hq with h | h
                · exact HNEW.out q h
                · omega
              · rw [List.append_assoc, HCC.out]; exact HA3.out
              · exact HBR.out.trans (G0.out.2.1.below h8 (fun q hq => by have := HNEW.out q hq; omega))
          · have hki : ¬ ((k : Int) + 1 < (s.size : Int)) := by omega
            have hend : acc = skipQ (midL l) := by
              have h1 := HACC.out
              have h2 : l.length - 1 - k = 0 := by have := HSZ.out; omega
              rw [h2, List.take_zero] at h1
              simpa [skipQ] using h1
            have HOC := HOT.out
            rw [← hend] at HOC
            have kc := sl_string wr (fun _ => True) _ acc (HOWN.out.sl (fun _ _ => trivial))
            have hr := fun w => refright w ⟨2, 0, bs acc⟩
            have hpp := fun h w => refprint_val w ⟨2, 0, bs acc⟩ h (by simp [fit64])
            have hcmp : ((bs (prB ⟨2, 0, bs acc⟩)).toList == s.toList) = (prB ⟨2, 0, bs acc⟩ == l) := by
              rw [bs_toList, ByteArray.toList_eq, HS.out]
            simp only [AV.agg] at hr hpp
            unfold chkV at HOC
            have hba : (⟨acc.toArray⟩ : ByteArray) = bs acc := rfl
            rw [hba] at kc
            obtain ⟨a0, a1, a2, af⟩ := blk3 HKA.out
            obtain ⟨b0, b1, b2, bf⟩ := blk3 HKB.out
            clear hend hba
            have K15 := Lib.hid (HKA.out.setOther (p := ⟨w.heap.size + 1, 2, none⟩) (by simp) (.string (bs acc)))
            have K25 := Lib.hid (HKB.out.set 2 (.string (bs acc)))
            have HB5 := Lib.hid (HBW.out.setCell (p := ⟨w.heap.size + 1, 2, none⟩) (by simp) (.string (bs acc)))
            cases hrt : AV.right ⟨2, 0, bs acc⟩
            · rw [hrt] at HOC hr
              have HR := Lib.hid hr
              have HOUT : Hid (out = (zeroV, 12)) := HOC
              clear hpp hcmp hr HOC hrt
              generalize bs acc = U at *
              go_wp2_with fail
              refine (HR.out _).mono ?_
              clear HR
              rintro e w7 ⟨rfl, hb7⟩
              have K17 := Lib.hid (K15.out.below hb7)
              have K27 := Lib.hid (K25.out.below hb7)
              have HB7 := Lib.hid (HB5.out.trans (hb7.mono HB5.out.size))
              clear hb7
              clear a0 a1 a2 af b0 b1 b2 bf
              obtain ⟨a0, a1, a2, af⟩ := blk3 K17.out
              obtain ⟨b0, b1, b2, bf⟩ := blk3 K27.out
              go_wp2
              refine bodyPost_ret (v := .tuple #[.agg #[.int .i64 0, .int .i64 0, .string ⟨#[]⟩], .bool false]) (by simp [results, Tryd.results41, go_sem, a0, a1, a2]) rfl ⟨by rw [HOUT.out]; rfl, ?_⟩
              exact ((HB7.out.setCell (p := ⟨w.heap.size, 0, none⟩) (by simp) _).setCell (p := ⟨w.heap.size, 1, none⟩) (by simp) _).setCell (p := ⟨w.heap.size, 2, none⟩) (by simp) _
            · rw [hrt] at HOC hr
              have HR := Lib.hid hr
              have HP := Lib.hid (hpp hrt)
              have HOC0 : Hid (out = if (prB ⟨2, 0, bs acc⟩ == l) = true then (⟨2, 0, bs acc⟩, 0) else (zeroV, 12)) := by
                show _ = _
                rw [HOC]; rfl
              clear hpp hr HOC hrt
              generalize bs (prB ⟨2, 0, bs acc⟩) = P at *
              cases hq : (prB ⟨2, 0, bs acc⟩ == l)
              · rw [hq] at hcmp HOC0
                have HOUT := HOC0
                first | rw [if_pos rfl] at HOUT | rw [if_neg (by decide)] at HOUT
                clear HOC0 hq
                generalize bs acc = U at *
                go_wp2_with fail
                refine (HR.out _).mono ?_
                clear HR
                rintro e w7 ⟨rfl, hb7⟩
                have K17 := Lib.hid (K15.out.below hb7)
                have K27 := Lib.hid (K25.out.below hb7)
                have HB7 := Lib.hid (HB5.out.trans (hb7.mono HB5.out.size))
                clear hb7
                clear a0 a1 a2 af b0 b1 b2 bf
                obtain ⟨a0, a1, a2, af⟩ := blk3 K17.out
                obtain ⟨b0, b1, b2, bf⟩ := blk3 K27.out
                go_wp2_with fail
                refine (HP.out _).mono ?_
                clear HP
                rintro e w8 ⟨rfl, hb8⟩
                have K18 := Lib.hid (K17.out.below hb8)
                have K28 := Lib.hid (K27.out.below hb8)
                have HB8 := Lib.hid (HB7.out.trans (hb8.mono HB7.out.size))
                clear hb8 a0 a1 a2 af b0 b1 b2 bf
                obtain ⟨a0, a1, a2, af⟩ := blk3 K18.out
                obtain ⟨b0, b1, b2, bf⟩ := blk3 K28.out
                go_wp2
                refine bodyPost_ret (v := .tuple #[.agg #[.int .i64 0, .int .i64 0, .string ⟨#[]⟩], .bool false]) (by simp [results, Tryd.results41, go_sem, a0, a1, a2]) rfl ⟨by rw [HOUT.out]; rfl, ?_⟩
                exact ((HB8.out.setCell (p := ⟨w.heap.size, 0, none⟩) (by simp) _).setCell (p := ⟨w.heap.size, 1, none⟩) (by simp) _).setCell (p := ⟨w.heap.size, 2, none⟩) (by simp) _
              · rw [hq] at hcmp HOC0
                have HOUT := HOC0
                first | rw [if_pos rfl] at HOUT | rw [if_neg (by decide)] at HOUT
                clear HOC0 hq
                generalize bs acc = U at *
                go_wp2_with fail
                refine (HR.out _).mono ?_
                clear HR
                rintro e w7 ⟨rfl, hb7⟩
                have K17 := Lib.hid (K15.out.below hb7)
                have K27 := Lib.hid (K25.out.below hb7)
                have HB7 := Lib.hid (HB5.out.trans (hb7.mono HB5.out.size))
                clear hb7
                clear a0 a1 a2 af b0 b1 b2 bf
                obtain ⟨a0, a1, a2, af⟩ := blk3 K17.out
                obtain ⟨b0, b1, b2, bf⟩ := blk3 K27.out
                go_wp2_with fail
                refine (HP.out _).mono ?_
                clear HP
                rintro e w8 ⟨rfl, hb8⟩
                have K18 := Lib.hid (K17.out.below hb8)
                have K28 := Lib.hid (K27.out.below hb8)
                have HB8 := Lib.hid (HB7.out.trans (hb8.mono HB7.out.size))
                clear hb8 a0 a1 a2 af b0 b1 b2 bf
                obtain ⟨a0, a1, a2, af⟩ := blk3 K18.out
                obtain ⟨b0, b1, b2, bf⟩ := blk3 K28.out
                go_wp2
                refine bodyPost_ret (v := .tuple #[.agg #[.int .i64 2, .int .i64 0, .string U], .bool true]) (by simp [results, Tryd.results41, go_sem, a0, a1, a2]) rfl ⟨by rw [HOUT.out]; rfl, ?_⟩
                exact ((HB8.out.setCell (p := ⟨w.heap.size, 0, none⟩) (by simp) _).setCell (p := ⟨w.heap.size, 1, none⟩) (by simp) _).setCell (p := ⟨w.heap.size, 2, none⟩) (by simp) _
      · have hon := hnum ht h1 h2
        have HPN := Lib.hid (fun w => refparse_any w s l HS.out hl)
        have h0e : ∀ h : 0 < s.size, (((s[0]'h).toNat : Int) == 39) = false := fun h => by rw [h0s h]; exact decide_eq_false ht
        clear htext hnum h0s ht h1 h2 hb1 hb2
        have K14 : Hid (Blk ((w.alloc (.cells #[.int .i64 0, .int .i64 0, .string ⟨#[]⟩] 27)).alloc (.cells #[.int .i64 3, .int .i64 0, .string ⟨#[]⟩] 27)) w.heap.size 27 [.int .i64 0, .int .i64 0, .string ⟨#[]⟩]) := (Blk.new w 27 [.int .i64 0, .int .i64 0, .string ⟨#[]⟩]).alloc _
        have K24 : Hid (Blk ((w.alloc (.cells #[.int .i64 0, .int .i64 0, .string ⟨#[]⟩] 27)).alloc (.cells #[.int .i64 3, .int .i64 0, .string ⟨#[]⟩] 27)) (w.heap.size + 1) 27 [.int .i64 3, .int .i64 0, .string ⟨#[]⟩]) := (show (w.alloc (.cells #[.int .i64 0, .int .i64 0, .string ⟨#[]⟩] 27)).heap.size = w.heap.size + 1 by simp) ▸ Blk.new _ 27 [.int .i64 3, .int .i64 0, .string ⟨#[]⟩]
        have HB4 : Hid (Below w.heap.size w ((w.alloc (.cells #[.int .i64 0, .int .i64 0, .string ⟨#[]⟩] 27)).alloc (.cells #[.int .i64 3, .int .i64 0, .string ⟨#[]⟩] 27))) := by
          have h : Below w.heap.size w (w.alloc (.cells #[.int .i64 0, .int .i64 0, .string ⟨#[]⟩] 27)) := (Below.refl _ _).alloc (Nat.le_refl _) _
          exact h.alloc h.size _
        have HLZ : Hid (0 < s.size ∨ s.size = 0) := by show _ ∨ _; omega
        by_cases he : prsE l = 0
        · rw [if_pos he] at hon
          rw [he] at HPN
          have hfit := prsN_fits l
          have hr := fun w => refright w ⟨1, prsN l, ⟨#[]⟩⟩
          rw [right_int] at hr
          have HR := Lib.hid hr
          have HP := Lib.hid (fun w => refprint_val w ⟨1, prsN l, ⟨#[]⟩⟩ (right_int _) hfit)
          have hcmp : ((bs (prB ⟨1, prsN l, ⟨#[]⟩⟩)).toList == s.toList) = (prB ⟨1, prsN l, ⟨#[]⟩⟩ == l) := by
            rw [bs_toList, ByteArray.toList_eq, HS.out]
          unfold chkV at hon
          rw [right_int] at hon
          have HOC0 : Hid (out = if (prB ⟨1, prsN l, ⟨#[]⟩⟩ == l) = true then (⟨1, prsN l, ⟨#[]⟩⟩, 0) else (zeroV, 12)) := by
            show _ = _
            rw [hon]; rfl
          generalize prsN l = n at *
          simp only [AV.agg] at HR HP
          generalize bs (prB ⟨1, n, ⟨#[]⟩⟩) = P at *
          clear hon hr he hfit
          cases hq : (prB ⟨1, n, ⟨#[]⟩⟩ == l)
          · rw [hq] at hcmp HOC0
            have HOUT := HOC0
            first | rw [if_pos rfl] at HOUT | rw [if_neg (by decide)] at HOUT
            clear HOC0 hq
            rcases HLZ.out with hz | hz
            · have h39 := h0e hz
              clear h0e
              go_enter Tryd.func41, Tryd.ntmps41
              go_wp2_with fail
              refine (HPN.out _).mono ?_
              rintro e w2 ⟨rfl, hb2⟩
              have K12 := Lib.hid (K14.out.below hb2)
              have K22 := Lib.hid (K24.out.below hb2)
              have HB2 := Lib.hid (HB4.out.trans (hb2.mono HB4.out.size))
              clear hb2
              obtain ⟨a0, a1, a2, af⟩ := blk3 K12.out
              obtain ⟨b0, b1, b2, bf⟩ := blk3 K22.out
              have K13 := Lib.hid (((K12.out.setOther (p := ⟨w.heap.size + 1, 0, none⟩) (by simp) (.int .i64 1)).setOther (p := ⟨w.heap.size + 1, 1, none⟩) (by simp) (.int .i64 n)).setOther (p := ⟨w.heap.size + 1, 2, none⟩) (by simp) (.string ⟨#[]⟩))
              have K23 := Lib.hid (((K22.out.set 0 (.int .i64 1)).set 1 (.int .i64 n)).set 2 (.string ⟨#[]⟩))
              have HB3 := Lib.hid (((HB2.out.setCell (p := ⟨w.heap.size + 1, 0, none⟩) (by simp) (.int .i64 1)).setCell (p := ⟨w.heap.size + 1, 1, none⟩) (by simp) (.int .i64 n)).setCell (p := ⟨w.heap.size + 1, 2, none⟩) (by simp) (.string ⟨#[]⟩))
              go_wp2_with fail
              refine (HR.out _).mono ?_
              clear HR
              rintro e w7 ⟨rfl, hb7⟩
              have K17 := Lib.hid (K13.out.below hb7)
              have K27 := Lib.hid (K23.out.below hb7)
              have HB7 := Lib.hid (HB3.out.trans (hb7.mono HB3.out.size))
              clear hb7
              clear a0 a1 a2 af b0 b1 b2 bf
              obtain ⟨a0, a1, a2, af⟩ := blk3 K17.out
              obtain ⟨b0, b1, b2, bf⟩ := blk3 K27.out
              go_wp2_with fail
              refine (HP.out _).mono ?_
              clear HP
              rintro e w8 ⟨rfl, hb8⟩
              have K18 := Lib.hid (K17.out.below hb8)
              have K28 := Lib.hid (K27.out.below hb8)
              have HB8 := Lib.hid (HB7.out.trans (hb8.mono HB7.out.size))
              clear hb8 a0 a1 a2 af b0 b1 b2 bf
              obtain ⟨a0, a1, a2, af⟩ := blk3 K18.out
              obtain ⟨b0, b1, b2, bf⟩ := blk3 K28.out
              go_wp2
              refine bodyPost_ret (v := .tuple #[.agg #[.int .i64 0, .int .i64 0, .string ⟨#[]⟩], .bool false]) (by simp [results, Tryd.results41, go_sem, a0, a1, a2]) rfl ⟨by rw [HOUT.out]; rfl, ?_⟩
              exact ((HB8.out.setCell (p := ⟨w.heap.size, 0, none⟩) (by simp) _).setCell (p := ⟨w.heap.size, 1, none⟩) (by simp) _).setCell (p := ⟨w.heap.size, 2, none⟩) (by simp) _
            · clear h0e
              go_enter Tryd.func41, Tryd.ntmps41
              go_wp2_with fail
              refine (HPN.out _).mono ?_
              rintro e w2 ⟨rfl, hb2⟩
              have K12 := Lib.hid (K14.out.below hb2)
              have K22 := Lib.hid (K24.out.below hb2)
              have HB2 := Lib.hid (HB4.out.trans (hb2.mono HB4.out.size))
              clear hb2
              obtain ⟨a0, a1, a2, af⟩ := blk3 K12.out
              obtain ⟨b0, b1, b2, bf⟩ := blk3 K22.out
              have K13 := Lib.hid (((K12.out.setOther (p := ⟨w.heap.size + 1, 0, none⟩) (by simp) (.int .i64 1)).setOther (p := ⟨w.heap.size + 1, 1, none⟩) (by simp) (.int .i64 n)).setOther (p := ⟨w.heap.size + 1, 2, none⟩) (by simp) (.string ⟨#[]⟩))
              have K23 := Lib.hid (((K22.out.set 0 (.int .i64 1)).set 1 (.int .i64 n)).set 2 (.string ⟨#[]⟩))
              have HB3 := Lib.hid (((HB2.out.setCell (p := ⟨w.heap.size + 1, 0, none⟩) (by simp) (.int .i64 1)).setCell (p := ⟨w.heap.size + 1, 1, none⟩) (by simp) (.int .i64 n)).setCell (p := ⟨w.heap.size + 1, 2, none⟩) (by simp) (.string ⟨#[]⟩))
              go_wp2_with fail
              refine (HR.out _).mono ?_
              clear HR
              rintro e w7 ⟨rfl, hb7⟩
              have K17 := Lib.hid (K13.out.below hb7)
              have K27 := Lib.hid (K23.out.below hb7)
              have HB7 := Lib.hid (HB3.out.trans (hb7.mono HB3.out.size))
              clear hb7
              clear a0 a1 a2 af b0 b1 b2 bf
              obtain ⟨a0, a1, a2, af⟩ := blk3 K17.out
              obtain ⟨b0, b1, b2, bf⟩ := blk3 K27.out
              go_wp2_with fail
              refine (HP.out _).mono ?_
              clear HP
              rintro e w8 ⟨rfl, hb8⟩
              have K18 := Lib.hid (K17.out.below hb8)
              have K28 := Lib.hid (K27.out.below hb8)
              have HB8 := Lib.hid (HB7.out.trans (hb8.mono HB7.out.size))
              clear hb8 a0 a1 a2 af b0 b1 b2 bf
              obtain ⟨a0, a1, a2, af⟩ := blk3 K18.out
              obtain ⟨b0, b1, b2, bf⟩ := blk3 K28.out
              go_wp2
              refine bodyPost_ret (v := .tuple #[.agg #[.int .i64 0, .int .i64 0, .string ⟨#[]⟩], .bool false]) (by simp [results, Tryd.results41, go_sem, a0, a1, a2]) rfl ⟨by rw [HOUT.out]; rfl, ?_⟩
              exact ((HB8.out.setCell (p := ⟨w.heap.size, 0, none⟩) (by simp) _).setCell (p := ⟨w.heap.size, 1, none⟩) (by simp) _).setCell (p := ⟨w.heap.size, 2, none⟩) (by simp) _
          · rw [hq] at hcmp HOC0
            have HOUT := HOC0
            first | rw [if_pos rfl] at HOUT | rw [if_neg (by decide)] at HOUT
            clear HOC0 hq
            rcases HLZ.out with hz | hz
            · have h39 := h0e hz
              clear h0e
              go_enter Tryd.func41, Tryd.ntmps41
              go_wp2_with fail
              refine (HPN.out _).mono ?_
              rintro e w2 ⟨rfl, hb2⟩
              have K12 := Lib.hid (K14.out.below hb2)
              have K22 := Lib.hid (K24.out.below hb2)
              have HB2 := Lib.hid (HB4.out.trans (hb2.mono HB4.out.size))
              clear hb2
              obtain ⟨a0, a1, a2, af⟩ := blk3 K12.out
              obtain ⟨b0, b1, b2, bf⟩ := blk3 K22.out
              have K13 := Lib.hid (((K12.out.setOther (p := ⟨w.heap.size + 1, 0, none⟩) (by simp) (.int .i64 1)).setOther (p := ⟨w.heap.size + 1, 1, none⟩) (by simp) (.int .i64 n)).setOther (p := ⟨w.heap.size + 1, 2, none⟩) (by simp) (.string ⟨#[]⟩))
              have K23 := Lib.hid (((K22.out.set 0 (.int .i64 1)).set 1 (.int .i64 n)).set 2 (.string ⟨#[]⟩))
              have HB3 := Lib.hid (((HB2.out.setCell (p := ⟨w.heap.size + 1, 0, none⟩) (by simp) (.int .i64 1)).setCell (p := ⟨w.heap.size + 1, 1, none⟩) (by simp) (.int .i64 n)).setCell (p := ⟨w.heap.size + 1, 2, none⟩) (by simp) (.string ⟨#[]⟩))
              go_wp2_with fail
              refine (HR.out _).mono ?_
              clear HR
              rintro e w7 ⟨rfl, hb7⟩
              have K17 := Lib.hid (K13.out.below hb7)
              have K27 := Lib.hid (K23.out.below hb7)
              have HB7 := Lib.hid (HB3.out.trans (hb7.mono HB3.out.size))
              clear hb7
              clear a0 a1 a2 af b0 b1 b2 bf
              obtain ⟨a0, a1, a2, af⟩ := blk3 K17.out
              obtain ⟨b0, b1, b2, bf⟩ := blk3 K27.out
              go_wp2_with fail
              refine (HP.out _).mono ?_
              clear HP
              rintro e w8 ⟨rfl, hb8⟩
              have K18 := Lib.hid (K17.out.below hb8)
              have K28 := Lib.hid (K27.out.below hb8)
              have HB8 := Lib.hid (HB7.out.trans (hb8.mono HB7.out.size))
              clear hb8 a0 a1 a2 af b0 b1 b2 bf
              obtain ⟨a0, a1, a2, af⟩ := blk3 K18.out
              obtain ⟨b0, b1, b2, bf⟩ := blk3 K28.out
              go_wp2
              refine bodyPost_ret (v := .tuple #[.agg #[.int .i64 1, .int .i64 n, .string ⟨#[]⟩], .bool true]) (by simp [results, Tryd.results41, go_sem, a0, a1, a2]) rfl ⟨by rw [HOUT.out]; rfl, ?_⟩
              exact ((HB8.out.setCell (p := ⟨w.heap.size, 0, none⟩) (by simp) _).setCell (p := ⟨w.heap.size, 1, none⟩) (by simp) _).setCell (p := ⟨w.heap.size, 2, none⟩) (by simp) _
            · clear h0e
              go_enter Tryd.func41, Tryd.ntmps41
              go_wp2_with fail
              refine (HPN.out _).mono ?_
              rintro e w2 ⟨rfl, hb2⟩
              have K12 := Lib.hid (K14.out.below hb2)
              have K22 := Lib.hid (K24.out.below hb2)
              have HB2 := Lib.hid (HB4.out.trans (hb2.mono HB4.out.size))
              clear hb2
              obtain ⟨a0, a1, a2, af⟩ := blk3 K12.out
              obtain ⟨b0, b1, b2, bf⟩ := blk3 K22.out
              have K13 := Lib.hid (((K12.out.setOther (p := ⟨w.heap.size + 1, 0, none⟩) (by simp) (.int .i64 1)).setOther (p := ⟨w.heap.size + 1, 1, none⟩) (by simp) (.int .i64 n)).setOther (p := ⟨w.heap.size + 1, 2, none⟩) (by simp) (.string ⟨#[]⟩))
              have K23 := Lib.hid (((K22.out.set 0 (.int .i64 1)).set 1 (.int .i64 n)).set 2 (.string ⟨#[]⟩))
              have HB3 := Lib.hid (((HB2.out.setCell (p := ⟨w.heap.size + 1, 0, none⟩) (by simp) (.int .i64 1)).setCell (p := ⟨w.heap.size + 1, 1, none⟩) (by simp) (.int .i64 n)).setCell (p := ⟨w.heap.size + 1, 2, none⟩) (by simp) (.string ⟨#[]⟩))
              go_wp2_with fail
              refine (HR.out _).mono ?_
              clear HR
              rintro e w7 ⟨rfl, hb7⟩
              have K17 := Lib.hid (K13.out.below hb7)
              have K27 := Lib.hid (K23.out.below hb7)
              have HB7 := Lib.hid (HB3.out.trans (hb7.mono HB3.out.size))
              clear hb7
              clear a0 a1 a2 af b0 b1 b2 bf
              obtain ⟨a0, a1, a2, af⟩ := blk3 K17.out
              obtain ⟨b0, b1, b2, bf⟩ := blk3 K27.out
              go_wp2_with fail
              refine (HP.out _).mono ?_
              clear HP
              rintro e w8 ⟨rfl, hb8⟩
              have K18 := Lib.hid (K17.out.below hb8)
              have K28 := Lib.hid (K27.out.below hb8)
              have HB8 := Lib.hid (HB7.out.trans (hb8.mono HB7.out.size))
              clear hb8 a0 a1 a2 af b0 b1 b2 bf
              obtain ⟨a0, a1, a2, af⟩ := blk3 K18.out
              obtain ⟨b0, b1, b2, bf⟩ := blk3 K28.out
              go_wp2
              refine bodyPost_ret (v := .tuple #[.agg #[.int .i64 1, .int .i64 n, .string ⟨#[]⟩], .bool true]) (by simp [results, Tryd.results41, go_sem, a0, a1, a2]) rfl ⟨by rw [HOUT.out]; rfl, ?_⟩
              exact ((HB8.out.setCell (p := ⟨w.heap.size, 0, none⟩) (by simp) _).setCell (p := ⟨w.heap.size, 1, none⟩) (by simp) _).setCell (p := ⟨w.heap.size, 2, none⟩) (by simp) _
        · rw [if_neg he] at hon
          have hne : (prsE l != 0) = true := by rw [bne_iff_ne]; exact he
          have HOUT : Hid (out = (zeroV, 12)) := hon
          generalize prsE l = ee at *
          clear hon he
          rcases HLZ.out with hz | hz
          · have h39 := h0e hz
            clear h0e
            go_enter Tryd.func41, Tryd.ntmps41
            go_wp2_with fail
            refine (HPN.out _).mono ?_
            rintro e w2 ⟨rfl, hb2⟩
            have K12 := Lib.hid (K14.out.below hb2)
            have K22 := Lib.hid (K24.out.below hb2)
            have HB2 := Lib.hid (HB4.out.trans (hb2.mono HB4.out.size))
            clear hb2
            obtain ⟨a0, a1, a2, af⟩ := blk3 K12.out
            obtain ⟨b0, b1, b2, bf⟩ := blk3 K22.out
            go_wp2
            refine bodyPost_ret (v := .tuple #[.agg #[.int .i64 0, .int .i64 0, .string ⟨#[]⟩], .bool false]) (by simp [results, Tryd.results41, go_sem, a0, a1, a2]) rfl ⟨by rw [HOUT.out]; rfl, ?_⟩
            repeat (with_reducible first | exact HB2.out | apply Below.drew | (refine Below.alloc ?_ (by first | omega | (simp; omega) | simp) _) | (refine Below.setCell ?_ (by first | omega | (simp; omega) | simp) _))
          · clear h0e
            go_enter Tryd.func41, Tryd.ntmps41
            go_wp2_with fail
            refine (HPN.out _).mono ?_
            rintro e w2 ⟨rfl, hb2⟩
            have K12 := Lib.hid (K14.out.below hb2)
            have K22 := Lib.hid (K24.out.below hb2)
            have HB2 := Lib.hid (HB4.out.trans (hb2.mono HB4.out.size))
            clear hb2
            obtain ⟨a0, a1, a2, af⟩ := blk3 K12.out
            obtain ⟨b0, b1, b2, bf⟩ := blk3 K22.out
            go_wp2
            refine bodyPost_ret (v := .tuple #[.agg #[.int .i64 0, .int .i64 0, .string ⟨#[]⟩], .bool false]) (by simp [results, Tryd.results41, go_sem, a0, a1, a2]) rfl ⟨by rw [HOUT.out]; rfl, ?_⟩
            repeat (with_reducible first | exact HB2.out | apply Below.drew | (refine Below.alloc ?_ (by first | omega | (simp; omega) | simp) _) | (refine Below.setCell ?_ (by first | omega | (simp; omega) | simp) _))
--END GEN
end Go.Proofs.YtlgohkdckdnmhaaDoor
