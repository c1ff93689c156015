/- Values parsed. -/
import Derived.Test.YtlgohkdckdnmhaaDoorPri
import Derived.Test.YtlgohkdckdnmhaaDoorCalcH
import Derived.Test.YtlgohkdckdnmhaaDoorCalcBack
import Derived.IntWalk
namespace Go.Proofs.YtlgohkdckdnmhaaDoor
open Go.RowKit Go.Afx

def zeroV : AV := ⟨0, 0, ⟨#[]⟩⟩
def chkV (v : AV) (l : List UInt8) : AV × Int := if v.right && (prB v == l) then (v, 0) else (zeroV, 12)
def midL (l : List UInt8) : List UInt8 := (l.drop 1).take (l.length - 2)
def isText (l : List UInt8) : Bool := decide (2 ≤ l.length) && (l.head? == some 39)
def prsV (l : List UInt8) : AV × Int :=
  if l == trueL then (⟨3, 1, ⟨#[]⟩⟩, 0) else if l == falseL then (⟨3, 0, ⟨#[]⟩⟩, 0)
  else if isText l then chkV ⟨2, 0, bs (unpair 39 (midL l))⟩ l else if prsE l = 0 then chkV ⟨1, prsN l, ⟨#[]⟩⟩ l else (zeroV, 12)
theorem chkV_print (v : AV) (l : List UInt8) : chkV v l = if v.right && (printV v == l) then (v, 0) else (zeroV, 12) := by
  unfold chkV printV
  cases v.right <;> rfl

theorem eq_lit (s : ByteArray) (l : List UInt8) (hs : s.data.toList = l) (x : List UInt8) : (s.toList == x) = (l == x) := by rw [ByteArray.toList_eq, hs]
theorem right_true : AV.right ⟨3, 1, ⟨#[]⟩⟩ = true := by
  unfold AV.right
  simp only
  rw [nil_right]; rfl
theorem right_false : AV.right ⟨3, 0, ⟨#[]⟩⟩ = true := by
  unfold AV.right
  simp only
  rw [nil_right]; rfl
theorem right_int (n : Int) : AV.right ⟨1, n, ⟨#[]⟩⟩ = true := by
  unfold AV.right
  simp only
  rw [nil_right]; rfl
theorem pr_false : printV ⟨3, 0, ⟨#[]⟩⟩ = [102, 97, 108, 115, 101] := by
  unfold printV
  rw [right_false]; rfl

theorem blk3 {w : World} {b : Nat} {t : TypeId} {x y z : Value} (h : Blk w b t [x, y, z]) : w.cell? ⟨b, 0, none⟩ = some x ∧ w.cell? ⟨b, 1, none⟩ = some y ∧ w.cell? ⟨b, 2, none⟩ = some z ∧ ∀ i, w.frozen? ⟨b, i, none⟩ = false :=
  ⟨h.cell 0, h.cell 1, h.cell 2, h.frozen⟩

theorem slice_mid (s : ByteArray) (i j : Nat) (h1 : i ≤ j) (h2 : j ≤ s.size) (w : World) : (Instr.slice 9 (.string s) (some (.int .i64 (i : Int))) (some (.int .i64 (j : Int))) none).run Tryd.prog w = .ok (.string (s.extract i j)) w := by
  have e1 : ((i : Int)).toNat = i := by omega
  have e2 : ((j : Int)).toNat = j := by omega
  simp [Instr.slice, run_underlying Tryd.underlying9, Instr.sliceBounds, run_sliceBound, h1, h2, e1, e2]

--BEGIN GEN
set_option maxRecDepth 100000 in
set_option maxHeartbeats 2000000 in
theorem parse_val (w : World) (hm : Mx w) (s : ByteArray) (l : List UInt8) (hs : s.data.toList = l) (hl : l.length ≤ 1000) :
    Calls Tryd.prog 36 #[.string s] w fun e w' => e = .returned (.tuple #[(prsV l).1.agg, .int .i64 (prsV l).2]) ∧ Below w.heap.size w w' := by
  have e1 := eq_lit s l hs [116, 114, 117, 101]
  have e2 := eq_lit s l hs [102, 97, 108, 115, 101]
  have HM := Lib.hid hm
  have hsz := size_list s l hs
  obtain ⟨out, hout⟩ : ∃ out, prsV l = out := ⟨_, rfl⟩
  rw [hout]
  have HO := Lib.hid hout
  have HS := Lib.hid hs
  have hb00 : Below w.heap.size w (w.alloc (.cells #[.int .i64 0, .int .i64 0, .string ⟨#[]⟩] 27)) := (Below.refl _ _).alloc (Nat.le_refl _) _
  have hw1 : (w.alloc (.cells #[.int .i64 0, .int .i64 0, .string ⟨#[]⟩] 27)).heap.size = w.heap.size + 1 := by simp
  have HB0 := Lib.hid (hb00.alloc hb00.size (.cells #[.int .i64 0, .int .i64 0, .string ⟨#[]⟩] 27))
  have k10 : Blk ((w.alloc (.cells #[.int .i64 0, .int .i64 0, .string ⟨#[]⟩] 27)).alloc (.cells #[.int .i64 0, .int .i64 0, .string ⟨#[]⟩] 27)) w.heap.size 27 [.int .i64 0, .int .i64 0, .string ⟨#[]⟩] := (Blk.new w 27 [.int .i64 0, .int .i64 0, .string ⟨#[]⟩]).alloc _
  have k20 : Blk ((w.alloc (.cells #[.int .i64 0, .int .i64 0, .string ⟨#[]⟩] 27)).alloc (.cells #[.int .i64 0, .int .i64 0, .string ⟨#[]⟩] 27)) (w.heap.size + 1) 27 [.int .i64 0, .int .i64 0, .string ⟨#[]⟩] := hw1 ▸ Blk.new _ 27 [.int .i64 0, .int .i64 0, .string ⟨#[]⟩]
  have K10 := Lib.hid k10
  have K20 := Lib.hid k20
  clear hm hout hb00 hw1 k10 k20 hs
  by_cases h1 : l = trueL
  · have hb1 : (l == [116, 114, 117, 101]) = true := by rw [h1]; rfl
    rw [hb1] at e1
    have HOUT : Hid (out = (⟨3, 1, ⟨#[]⟩⟩, 0)) := by
      show _ = _
      rw [← HO.out]; unfold prsV
      rw [if_pos (by rw [h1]; rfl)]
    have hcb := fun w => bool_val w true
    rw [if_pos rfl] at hcb
    have HCB := Lib.hid hcb
    have hw := fun w => wrong_any w ⟨3, 1, ⟨#[]⟩⟩
    rw [right_true] at hw
    have HW := Lib.hid hw
    have hp := fun w h => print_val w h ⟨3, 1, ⟨#[]⟩⟩ (by simp [fit64])
    rw [pr_true] at hp
    have HP := Lib.hid hp
    have hne : ((bs [116, 114, 117, 101]).toList == s.toList) = true := by
      rw [bs_toList, ByteArray.toList_eq, HS.out, h1]; rfl
    clear hcb hw hp e2 hb1 h1
    simp only [AV.agg] at HW HP
    go_enter Tryd.func36, Tryd.ntmps36
    go_wp2_with fail
    refine (HCB.out _).mono ?_
    rintro e w2 ⟨rfl, hb2⟩
    have K12 := Lib.hid (K10.out.below hb2)
    have K22 := Lib.hid (K20.out.below hb2)
    have HB2 := Lib.hid (HB0.out.trans (hb2.mono HB0.out.size))
    clear hb2
    obtain ⟨a0, a1, a2, af⟩ := blk3 K12.out
    obtain ⟨b0, b1, b2, bf⟩ := blk3 K22.out
    have K13 := Lib.hid (((K12.out.setOther (p := ⟨w.heap.size + 1, 0, none⟩) (by simp) (.int .i64 3)).setOther (p := ⟨w.heap.size + 1, 1, none⟩) (by simp) (.int .i64 (1))).setOther (p := ⟨w.heap.size + 1, 2, none⟩) (by simp) (.string ⟨#[]⟩))
    have K23 := Lib.hid (((K22.out.set 0 (.int .i64 3)).set 1 (.int .i64 (1))).set 2 (.string ⟨#[]⟩))
    have HB3 := Lib.hid (((HB2.out.setCell (p := ⟨w.heap.size + 1, 0, none⟩) (by simp) (.int .i64 3)).setCell (p := ⟨w.heap.size + 1, 1, none⟩) (by simp) (.int .i64 (1))).setCell (p := ⟨w.heap.size + 1, 2, none⟩) (by simp) (.string ⟨#[]⟩))
    go_wp2_with fail
    refine (HW.out _).mono ?_
    clear HW
    rintro e w7 ⟨rfl, hb7⟩
    have K17 := Lib.hid (K13.out.below hb7)
    have K27 := Lib.hid (K23.out.below hb7)
    have HB7 := Lib.hid (HB3.out.trans (hb7.mono HB3.out.size))
    clear hb7 a0 a1 a2 af b0 b1 b2 bf
    obtain ⟨a0, a1, a2, af⟩ := blk3 K17.out
    obtain ⟨b0, b1, b2, bf⟩ := blk3 K27.out
    go_wp2_with fail
    refine (HP.out _ (HM.out.below HB7.out)).mono ?_
    clear HP
    rintro e w8 ⟨rfl, hb8⟩
    have K18 := Lib.hid (K17.out.below hb8)
    have K28 := Lib.hid (K27.out.below hb8)
    have HB8 := Lib.hid (HB7.out.trans (hb8.mono HB7.out.size))
    clear hb8 a0 a1 a2 af b0 b1 b2 bf
    obtain ⟨a0, a1, a2, af⟩ := blk3 K18.out
    obtain ⟨b0, b1, b2, bf⟩ := blk3 K28.out
    go_wp2
    refine bodyPost_ret (v := .tuple #[.agg #[.int .i64 3, .int .i64 (1), .string ⟨#[]⟩], .int .i64 0]) (by simp [results, Tryd.results36, go_sem, a0, a1, a2]) rfl ⟨by rw [HOUT.out]; rfl, ?_⟩
    exact ((HB8.out.setCell (p := ⟨w.heap.size, 0, none⟩) (by simp) _).setCell (p := ⟨w.heap.size, 1, none⟩) (by simp) _).setCell (p := ⟨w.heap.size, 2, none⟩) (by simp) _
  · have hb1 : (l == [116, 114, 117, 101]) = false := by rw [beq_eq_false_iff_ne]; exact h1
    rw [hb1] at e1
    by_cases h2 : l = falseL
    · have hb2 : (l == [102, 97, 108, 115, 101]) = true := by rw [h2]; rfl
      rw [hb2] at e2
      have HOUT : Hid (out = (⟨3, 0, ⟨#[]⟩⟩, 0)) := by
        show _ = _
        rw [← HO.out]; unfold prsV
        rw [if_neg (by rw [h2]; decide), if_pos (by rw [h2]; rfl)]
      have hcb := fun w => bool_val w false
      rw [if_neg (by decide)] at hcb
      have HCB := Lib.hid hcb
      have hw := fun w => wrong_any w ⟨3, 0, ⟨#[]⟩⟩
      rw [right_false] at hw
      have HW := Lib.hid hw
      have hp := fun w h => print_val w h ⟨3, 0, ⟨#[]⟩⟩ (by simp [fit64])
      rw [pr_false] at hp
      have HP := Lib.hid hp
      have hne : ((bs [102, 97, 108, 115, 101]).toList == s.toList) = true := by
        rw [bs_toList, ByteArray.toList_eq, HS.out, h2]; rfl
      clear hcb hw hp hb1 hb2 h1 h2
      simp only [AV.agg] at HW HP
      go_enter Tryd.func36, Tryd.ntmps36
      go_wp2_with fail
      refine (HCB.out _).mono ?_
      rintro e w2 ⟨rfl, hb2⟩
      have K12 := Lib.hid (K10.out.below hb2)
      have K22 := Lib.hid (K20.out.below hb2)
      have HB2 := Lib.hid (HB0.out.trans (hb2.mono HB0.out.size))
      clear hb2
      obtain ⟨a0, a1, a2, af⟩ := blk3 K12.out
      obtain ⟨b0, b1, b2, bf⟩ := blk3 K22.out
      have K13 := Lib.hid (((K12.out.setOther (p := ⟨w.heap.size + 1, 0, none⟩) (by simp) (.int .i64 3)).setOther (p := ⟨w.heap.size + 1, 1, none⟩) (by simp) (.int .i64 (0))).setOther (p := ⟨w.heap.size + 1, 2, none⟩) (by simp) (.string ⟨#[]⟩))
      have K23 := Lib.hid (((K22.out.set 0 (.int .i64 3)).set 1 (.int .i64 (0))).set 2 (.string ⟨#[]⟩))
      have HB3 := Lib.hid (((HB2.out.setCell (p := ⟨w.heap.size + 1, 0, none⟩) (by simp) (.int .i64 3)).setCell (p := ⟨w.heap.size + 1, 1, none⟩) (by simp) (.int .i64 (0))).setCell (p := ⟨w.heap.size + 1, 2, none⟩) (by simp) (.string ⟨#[]⟩))
      go_wp2_with fail
      refine (HW.out _).mono ?_
      clear HW
      rintro e w7 ⟨rfl, hb7⟩
      have K17 := Lib.hid (K13.out.below hb7)
      have K27 := Lib.hid (K23.out.below hb7)
      have HB7 := Lib.hid (HB3.out.trans (hb7.mono HB3.out.size))
      clear hb7 a0 a1 a2 af b0 b1 b2 bf
      obtain ⟨a0, a1, a2, af⟩ := blk3 K17.out
      obtain ⟨b0, b1, b2, bf⟩ := blk3 K27.out
      go_wp2_with fail
      refine (HP.out _ (HM.out.below HB7.out)).mono ?_
      clear HP
      rintro e w8 ⟨rfl, hb8⟩
      have K18 := Lib.hid (K17.out.below hb8)
      have K28 := Lib.hid (K27.out.below hb8)
      have HB8 := Lib.hid (HB7.out.trans (hb8.mono HB7.out.size))
      clear hb8 a0 a1 a2 af b0 b1 b2 bf
      obtain ⟨a0, a1, a2, af⟩ := blk3 K18.out
      obtain ⟨b0, b1, b2, bf⟩ := blk3 K28.out
      go_wp2
      refine bodyPost_ret (v := .tuple #[.agg #[.int .i64 3, .int .i64 (0), .string ⟨#[]⟩], .int .i64 0]) (by simp [results, Tryd.results36, go_sem, a0, a1, a2]) rfl ⟨by rw [HOUT.out]; rfl, ?_⟩
      exact ((HB8.out.setCell (p := ⟨w.heap.size, 0, none⟩) (by simp) _).setCell (p := ⟨w.heap.size, 1, none⟩) (by simp) _).setCell (p := ⟨w.heap.size, 2, none⟩) (by simp) _
    · have hb2 : (l == [102, 97, 108, 115, 101]) = false := by rw [beq_eq_false_iff_ne]; exact h2
      rw [hb2] at e2
      have HO2 : Hid ((if isText l then chkV ⟨2, 0, bs (unpair 39 (midL l))⟩ l else if prsE l = 0 then chkV ⟨1, prsN l, ⟨#[]⟩⟩ l else (zeroV, 12)) = out) := by
        show _ = _
        have hh := HO.out
        unfold prsV at hh
        have n1 : ¬ (l == trueL) = true := by simpa using h1
        have n2 : ¬ (l == falseL) = true := by simpa using h2
        rw [if_neg n1, if_neg n2] at hh
        exact hh
      clear hb1 hb2 h1 h2 HO
      cases ht : isText l
      · rw [ht] at HO2
        rw [if_neg (by decide)] at HO2
        have hnt : ¬ (2 ≤ s.size ∧ ∃ h : 0 < s.size, ((s[0]'h).toNat : Int) = 39) := by
          rintro ⟨h3, h4, h5⟩
          unfold isText at ht
          have h6 := get_list s l HS.out 0 h4 (by omega)
          rw [h6] at h5
          have h7 : l[0]'(by omega) = 39 := UInt8.toNat_inj.1 (by show (l[0]'(by omega)).toNat = 39; omega)
          have h8 : l.head? = some 39 := by rw [List.head?_eq_getElem?, List.getElem?_eq_getElem (by omega), h7]
          rw [h8] at ht
          simp at ht
          omega
        have HPN := Lib.hid (fun w => parse_any w s l HS.out hl)
        by_cases he : prsE l = 0
        · rw [if_pos he] at HO2
          rw [he] at HPN
          have HOC : Hid (chkV ⟨1, prsN l, ⟨#[]⟩⟩ l = out) := HO2
          have hfit : fits (prsN l) := by
            have : ∀ ng r, fits (numN ng r) := fun ng r => by
              unfold numN
              split
              · unfold shortN
                split
                · assumption
                · unfold fits; omega
              · unfold fits; omega
            exact this _ _
          have hw := fun w => wrong_any w ⟨1, prsN l, ⟨#[]⟩⟩
          rw [right_int] at hw
          have HW := Lib.hid hw
          have HP := Lib.hid (fun w h => print_val w h ⟨1, prsN l, ⟨#[]⟩⟩ hfit)
          have HCB := Lib.hid (fun w => int_val w (prsN l))
          rw [chkV_print, right_int] at HOC
          generalize prsN l = n at *
          simp only [AV.agg] at HW HP
          have hcmp : ((bs (printV ⟨1, n, ⟨#[]⟩⟩)).toList == s.toList) = (printV ⟨1, n, ⟨#[]⟩⟩ == l) := by
            rw [bs_toList, ByteArray.toList_eq, HS.out]
          have HOUT0 : Hid (out = if (printV ⟨1, n, ⟨#[]⟩⟩ == l) = true then (⟨1, n, ⟨#[]⟩⟩, 0) else (zeroV, 12)) := by
            show _ = _
            rw [← HOC.out]; rfl
          generalize bs (printV ⟨1, n, ⟨#[]⟩⟩) = P at *
          clear HO2 HOC hw he ht
          by_cases h2s : 2 ≤ s.size
          · have h0s : 0 < s.size := by omega
            have h39 : (((s[0]'h0s).toNat : Int) == 39) = false := by
              rw [beq_eq_false_iff_ne]
              exact fun h => hnt ⟨h2s, h0s, h⟩
            clear hnt
            cases hq : (printV ⟨1, n, ⟨#[]⟩⟩ == l)
            · rw [hq] at hcmp HOUT0
              have HOUT := HOUT0
              first | rw [if_pos rfl] at HOUT | rw [if_neg (by decide)] at HOUT
              clear HOUT0
              go_enter Tryd.func36, Tryd.ntmps36
              go_wp2_with fail
              refine (HPN.out _).mono ?_
              rintro e w1 ⟨rfl, hb1⟩
              have K11 := Lib.hid (K10.out.below hb1)
              have K21 := Lib.hid (K20.out.below hb1)
              have HB1 := Lib.hid (HB0.out.trans (hb1.mono HB0.out.size))
              clear hb1
              go_wp2_with fail
              refine (HCB.out _).mono ?_
              rintro e w2 ⟨rfl, hb2⟩
              have K12 := Lib.hid (K11.out.below hb2)
              have K22 := Lib.hid (K21.out.below hb2)
              have HB2 := Lib.hid (HB1.out.trans (hb2.mono HB1.out.size))
              clear hb2
              obtain ⟨a0, a1, a2, af⟩ := blk3 K12.out
              obtain ⟨b0, b1, b2, bf⟩ := blk3 K22.out
              have K13 := Lib.hid (((K12.out.setOther (p := ⟨w.heap.size + 1, 0, none⟩) (by simp) (.int .i64 1)).setOther (p := ⟨w.heap.size + 1, 1, none⟩) (by simp) (.int .i64 (n))).setOther (p := ⟨w.heap.size + 1, 2, none⟩) (by simp) (.string ⟨#[]⟩))
              have K23 := Lib.hid (((K22.out.set 0 (.int .i64 1)).set 1 (.int .i64 (n))).set 2 (.string ⟨#[]⟩))
              have HB3 := Lib.hid (((HB2.out.setCell (p := ⟨w.heap.size + 1, 0, none⟩) (by simp) (.int .i64 1)).setCell (p := ⟨w.heap.size + 1, 1, none⟩) (by simp) (.int .i64 (n))).setCell (p := ⟨w.heap.size + 1, 2, none⟩) (by simp) (.string ⟨#[]⟩))
              go_wp2_with fail
              refine (HW.out _).mono ?_
              clear HW
              rintro e w7 ⟨rfl, hb7⟩
              have K17 := Lib.hid (K13.out.below hb7)
              have K27 := Lib.hid (K23.out.below hb7)
              have HB7 := Lib.hid (HB3.out.trans (hb7.mono HB3.out.size))
              clear hb7 a0 a1 a2 af b0 b1 b2 bf
              obtain ⟨a0, a1, a2, af⟩ := blk3 K17.out
              obtain ⟨b0, b1, b2, bf⟩ := blk3 K27.out
              go_wp2_with fail
              refine (HP.out _ (HM.out.below HB7.out)).mono ?_
              clear HP
              rintro e w8 ⟨rfl, hb8⟩
              have K18 := Lib.hid (K17.out.below hb8)
              have K28 := Lib.hid (K27.out.below hb8)
              have HB8 := Lib.hid (HB7.out.trans (hb8.mono HB7.out.size))
              clear hb8 a0 a1 a2 af b0 b1 b2 bf
              obtain ⟨a0, a1, a2, af⟩ := blk3 K18.out
              obtain ⟨b0, b1, b2, bf⟩ := blk3 K28.out
              go_wp2
              refine bodyPost_ret (v := .tuple #[.agg #[.int .i64 0, .int .i64 0, .string ⟨#[]⟩], .int .i64 12]) (by simp [results, Tryd.results36, go_sem, a0, a1, a2]) rfl ⟨by rw [HOUT.out]; rfl, ?_⟩
              exact ((HB8.out.setCell (p := ⟨w.heap.size, 0, none⟩) (by simp) _).setCell (p := ⟨w.heap.size, 1, none⟩) (by simp) _).setCell (p := ⟨w.heap.size, 2, none⟩) (by simp) _
            · rw [hq] at hcmp HOUT0
              have HOUT := HOUT0
              first | rw [if_pos rfl] at HOUT | rw [if_neg (by decide)] at HOUT
              clear HOUT0
              go_enter Tryd.func36, Tryd.ntmps36
              go_wp2_with fail
              refine (HPN.out _).mono ?_
              rintro e w1 ⟨rfl, hb1⟩
              have K11 := Lib.hid (K10.out.below hb1)
              have K21 := Lib.hid (K20.out.below hb1)
              have HB1 := Lib.hid (HB0.out.trans (hb1.mono HB0.out.size))
              clear hb1
              go_wp2_with fail
              refine (HCB.out _).mono ?_
              rintro e w2 ⟨rfl, hb2⟩
              have K12 := Lib.hid (K11.out.below hb2)
              have K22 := Lib.hid (K21.out.below hb2)
              have HB2 := Lib.hid (HB1.out.trans (hb2.mono HB1.out.size))
              clear hb2
              obtain ⟨a0, a1, a2, af⟩ := blk3 K12.out
              obtain ⟨b0, b1, b2, bf⟩ := blk3 K22.out
              have K13 := Lib.hid (((K12.out.setOther (p := ⟨w.heap.size + 1, 0, none⟩) (by simp) (.int .i64 1)).setOther (p := ⟨w.heap.size + 1, 1, none⟩) (by simp) (.int .i64 (n))).setOther (p := ⟨w.heap.size + 1, 2, none⟩) (by simp) (.string ⟨#[]⟩))
              have K23 := Lib.hid (((K22.out.set 0 (.int .i64 1)).set 1 (.int .i64 (n))).set 2 (.string ⟨#[]⟩))
              have HB3 := Lib.hid (((HB2.out.setCell (p := ⟨w.heap.size + 1, 0, none⟩) (by simp) (.int .i64 1)).setCell (p := ⟨w.heap.size + 1, 1, none⟩) (by simp) (.int .i64 (n))).setCell (p := ⟨w.heap.size + 1, 2, none⟩) (by simp) (.string ⟨#[]⟩))
              go_wp2_with fail
              refine (HW.out _).mono ?_
              clear HW
              rintro e w7 ⟨rfl, hb7⟩
              have K17 := Lib.hid (K13.out.below hb7)
              have K27 := Lib.hid (K23.out.below hb7)
              have HB7 := Lib.hid (HB3.out.trans (hb7.mono HB3.out.size))
              clear hb7 a0 a1 a2 af b0 b1 b2 bf
              obtain ⟨a0, a1, a2, af⟩ := blk3 K17.out
              obtain ⟨b0, b1, b2, bf⟩ := blk3 K27.out
              go_wp2_with fail
              refine (HP.out _ (HM.out.below HB7.out)).mono ?_
              clear HP
              rintro e w8 ⟨rfl, hb8⟩
              have K18 := Lib.hid (K17.out.below hb8)
              have K28 := Lib.hid (K27.out.below hb8)
              have HB8 := Lib.hid (HB7.out.trans (hb8.mono HB7.out.size))
              clear hb8 a0 a1 a2 af b0 b1 b2 bf
              obtain ⟨a0, a1, a2, af⟩ := blk3 K18.out
              obtain ⟨b0, b1, b2, bf⟩ := blk3 K28.out
              go_wp2
              refine bodyPost_ret (v := .tuple #[.agg #[.int .i64 1, .int .i64 (n), .string ⟨#[]⟩], .int .i64 0]) (by simp [results, Tryd.results36, go_sem, a0, a1, a2]) rfl ⟨by rw [HOUT.out]; rfl, ?_⟩
              exact ((HB8.out.setCell (p := ⟨w.heap.size, 0, none⟩) (by simp) _).setCell (p := ⟨w.heap.size, 1, none⟩) (by simp) _).setCell (p := ⟨w.heap.size, 2, none⟩) (by simp) _
          · clear hnt
            have h2d : decide ((2 : Int) ≤ (s.size : Int)) = false := decide_eq_false (by omega)
            cases hq : (printV ⟨1, n, ⟨#[]⟩⟩ == l)
            · rw [hq] at hcmp HOUT0
              have HOUT := HOUT0
              first | rw [if_pos rfl] at HOUT | rw [if_neg (by decide)] at HOUT
              clear HOUT0
              go_enter Tryd.func36, Tryd.ntmps36
              go_wp2_with fail
              refine (HPN.out _).mono ?_
              rintro e w1 ⟨rfl, hb1⟩
              have K11 := Lib.hid (K10.out.below hb1)
              have K21 := Lib.hid (K20.out.below hb1)
              have HB1 := Lib.hid (HB0.out.trans (hb1.mono HB0.out.size))
              clear hb1
              go_wp2_with fail
              refine (HCB.out _).mono ?_
              rintro e w2 ⟨rfl, hb2⟩
              have K12 := Lib.hid (K11.out.below hb2)
              have K22 := Lib.hid (K21.out.below hb2)
              have HB2 := Lib.hid (HB1.out.trans (hb2.mono HB1.out.size))
              clear hb2
              obtain ⟨a0, a1, a2, af⟩ := blk3 K12.out
              obtain ⟨b0, b1, b2, bf⟩ := blk3 K22.out
              have K13 := Lib.hid (((K12.out.setOther (p := ⟨w.heap.size + 1, 0, none⟩) (by simp) (.int .i64 1)).setOther (p := ⟨w.heap.size + 1, 1, none⟩) (by simp) (.int .i64 (n))).setOther (p := ⟨w.heap.size + 1, 2, none⟩) (by simp) (.string ⟨#[]⟩))
              have K23 := Lib.hid (((K22.out.set 0 (.int .i64 1)).set 1 (.int .i64 (n))).set 2 (.string ⟨#[]⟩))
              have HB3 := Lib.hid (((HB2.out.setCell (p := ⟨w.heap.size + 1, 0, none⟩) (by simp) (.int .i64 1)).setCell (p := ⟨w.heap.size + 1, 1, none⟩) (by simp) (.int .i64 (n))).setCell (p := ⟨w.heap.size + 1, 2, none⟩) (by simp) (.string ⟨#[]⟩))
              go_wp2_with fail
              refine (HW.out _).mono ?_
              clear HW
              rintro e w7 ⟨rfl, hb7⟩
              have K17 := Lib.hid (K13.out.below hb7)
              have K27 := Lib.hid (K23.out.below hb7)
              have HB7 := Lib.hid (HB3.out.trans (hb7.mono HB3.out.size))
              clear hb7 a0 a1 a2 af b0 b1 b2 bf
              obtain ⟨a0, a1, a2, af⟩ := blk3 K17.out
              obtain ⟨b0, b1, b2, bf⟩ := blk3 K27.out
              go_wp2_with fail
              refine (HP.out _ (HM.out.below HB7.out)).mono ?_
              clear HP
              rintro e w8 ⟨rfl, hb8⟩
              have K18 := Lib.hid (K17.out.below hb8)
              have K28 := Lib.hid (K27.out.below hb8)
              have HB8 := Lib.hid (HB7.out.trans (hb8.mono HB7.out.size))
              clear hb8 a0 a1 a2 af b0 b1 b2 bf
              obtain ⟨a0, a1, a2, af⟩ := blk3 K18.out
              obtain ⟨b0, b1, b2, bf⟩ := blk3 K28.out
              go_wp2
              refine bodyPost_ret (v := .tuple #[.agg #[.int .i64 0, .int .i64 0, .string ⟨#[]⟩], .int .i64 12]) (by simp [results, Tryd.results36, go_sem, a0, a1, a2]) rfl ⟨by rw [HOUT.out]; rfl, ?_⟩
              exact ((HB8.out.setCell (p := ⟨w.heap.size, 0, none⟩) (by simp) _).setCell (p := ⟨w.heap.size, 1, none⟩) (by simp) _).setCell (p := ⟨w.heap.size, 2, none⟩) (by simp) _
            · rw [hq] at hcmp HOUT0
              have HOUT := HOUT0
              first | rw [if_pos rfl] at HOUT | rw [if_neg (by decide)] at HOUT
              clear HOUT0
              go_enter Tryd.func36, Tryd.ntmps36
              go_wp2_with fail
              refine (HPN.out _).mono ?_
              rintro e w1 ⟨rfl, hb1⟩
              have K11 := Lib.hid (K10.out.below hb1)
              have K21 := Lib.hid (K20.out.below hb1)
              have HB1 := Lib.hid (HB0.out.trans (hb1.mono HB0.out.size))
              clear hb1
              go_wp2_with fail
              refine (HCB.out _).mono ?_
              rintro e w2 ⟨rfl, hb2⟩
              have K12 := Lib.hid (K11.out.below hb2)
              have K22 := Lib.hid (K21.out.below hb2)
              have HB2 := Lib.hid (HB1.out.trans (hb2.mono HB1.out.size))
              clear hb2
              obtain ⟨a0, a1, a2, af⟩ := blk3 K12.out
              obtain ⟨b0, b1, b2, bf⟩ := blk3 K22.out
              have K13 := Lib.hid (((K12.out.setOther (p := ⟨w.heap.size + 1, 0, none⟩) (by simp) (.int .i64 1)).setOther (p := ⟨w.heap.size + 1, 1, none⟩) (by simp) (.int .i64 (n))).setOther (p := ⟨w.heap.size + 1, 2, none⟩) (by simp) (.string ⟨#[]⟩))
              have K23 := Lib.hid (((K22.out.set 0 (.int .i64 1)).set 1 (.int .i64 (n))).set 2 (.string ⟨#[]⟩))
              have HB3 := Lib.hid (((HB2.out.setCell (p := ⟨w.heap.size + 1, 0, none⟩) (by simp) (.int .i64 1)).setCell (p := ⟨w.heap.size + 1, 1, none⟩) (by simp) (.int .i64 (n))).setCell (p := ⟨w.heap.size + 1, 2, none⟩) (by simp) (.string ⟨#[]⟩))
              go_wp2_with fail
              refine (HW.out _).mono ?_
              clear HW
              rintro e w7 ⟨rfl, hb7⟩
              have K17 := Lib.hid (K13.out.below hb7)
              have K27 := Lib.hid (K23.out.below hb7)
              have HB7 := Lib.hid (HB3.out.trans (hb7.mono HB3.out.size))
              clear hb7 a0 a1 a2 af b0 b1 b2 bf
              obtain ⟨a0, a1, a2, af⟩ := blk3 K17.out
              obtain ⟨b0, b1, b2, bf⟩ := blk3 K27.out
              go_wp2_with fail
              refine (HP.out _ (HM.out.below HB7.out)).mono ?_
              clear HP
              rintro e w8 ⟨rfl, hb8⟩
              have K18 := Lib.hid (K17.out.below hb8)
              have K28 := Lib.hid (K27.out.below hb8)
              have HB8 := Lib.hid (HB7.out.trans (hb8.mono HB7.out.size))
              clear hb8 a0 a1 a2 af b0 b1 b2 bf
              obtain ⟨a0, a1, a2, af⟩ := blk3 K18.out
              obtain ⟨b0, b1, b2, bf⟩ := blk3 K28.out
              go_wp2
              refine bodyPost_ret (v := .tuple #[.agg #[.int .i64 1, .int .i64 (n), .string ⟨#[]⟩], .int .i64 0]) (by simp [results, Tryd.results36, go_sem, a0, a1, a2]) rfl ⟨by rw [HOUT.out]; rfl, ?_⟩
              exact ((HB8.out.setCell (p := ⟨w.heap.size, 0, none⟩) (by simp) _).setCell (p := ⟨w.heap.size, 1, none⟩) (by simp) _).setCell (p := ⟨w.heap.size, 2, none⟩) (by simp) _
        · rw [if_neg he] at HO2
          have hne : (prsE l != 0) = true := by rw [bne_iff_ne]; exact he
          have HOUT : Hid (out = (zeroV, 12)) := Eq.symm HO2
          generalize prsE l = ee at *
          clear HO2 he ht
          by_cases h2s : 2 ≤ s.size
          · have h0s : 0 < s.size := by omega
            have h39 : (((s[0]'h0s).toNat : Int) == 39) = false := by
              rw [beq_eq_false_iff_ne]
              exact fun h => hnt ⟨h2s, h0s, h⟩
            clear hnt
            go_enter Tryd.func36, Tryd.ntmps36
            go_wp2_with fail
            refine (HPN.out _).mono ?_
            rintro e w2 ⟨rfl, hb2⟩
            have K12 := Lib.hid (K10.out.below hb2)
            have K22 := Lib.hid (K20.out.below hb2)
            have HB2 := Lib.hid (HB0.out.trans (hb2.mono HB0.out.size))
            clear hb2
            obtain ⟨a0, a1, a2, af⟩ := blk3 K12.out
            obtain ⟨b0, b1, b2, bf⟩ := blk3 K22.out
            go_wp2
            refine bodyPost_ret (v := .tuple #[.agg #[.int .i64 0, .int .i64 0, .string ⟨#[]⟩], .int .i64 12]) (by simp [results, Tryd.results36, go_sem, a0, a1, a2]) rfl ⟨by rw [HOUT.out]; rfl, ?_⟩
            exact ((HB2.out.setCell (p := ⟨w.heap.size, 0, none⟩) (by simp) _).setCell (p := ⟨w.heap.size, 1, none⟩) (by simp) _).setCell (p := ⟨w.heap.size, 2, none⟩) (by simp) _
          · clear hnt
            have h2d : decide ((2 : Int) ≤ (s.size : Int)) = false := decide_eq_false (by omega)
            go_enter Tryd.func36, Tryd.ntmps36
            go_wp2_with fail
            refine (HPN.out _).mono ?_
            rintro e w2 ⟨rfl, hb2⟩
            have K12 := Lib.hid (K10.out.below hb2)
            have K22 := Lib.hid (K20.out.below hb2)
            have HB2 := Lib.hid (HB0.out.trans (hb2.mono HB0.out.size))
            clear hb2
            obtain ⟨a0, a1, a2, af⟩ := blk3 K12.out
            obtain ⟨b0, b1, b2, bf⟩ := blk3 K22.out
            go_wp2
            refine bodyPost_ret (v := .tuple #[.agg #[.int .i64 0, .int .i64 0, .string ⟨#[]⟩], .int .i64 12]) (by simp [results, Tryd.results36, go_sem, a0, a1, a2]) rfl ⟨by rw [HOUT.out]; rfl, ?_⟩
            exact ((HB2.out.setCell (p := ⟨w.heap.size, 0, none⟩) (by simp) _).setCell (p := ⟨w.heap.size, 1, none⟩) (by simp) _).setCell (p := ⟨w.heap.size, 2, none⟩) (by simp) _
      · rw [ht] at HO2
        rw [if_pos rfl] at HO2
        have h2s : 2 ≤ s.size := by
          unfold isText at ht
          simp at ht
          omega
        have h0s : 0 < s.size := by omega
        have h39 : (((s[0]'h0s).toNat : Int) == 39) = true := by
          unfold isText at ht
          simp only [Bool.and_eq_true, beq_iff_eq] at ht
          have h6 := get_list s l HS.out 0 h0s (by omega)
          rw [beq_iff_eq, h6]
          have h7 := ht.2
          rw [List.head?_eq_getElem?, List.getElem?_eq_getElem (by omega)] at h7
          rw [Option.some.inj h7]; rfl
        have hmid : (s.extract 1 (s.size - 1)).data.toList = midL l := by
          rw [Lib.extract_data, HS.out]
          unfold midL
          congr 1
          omega
        have hml : (midL l).length ≤ 1000 := by unfold midL; rw [List.length_take, List.length_drop]; omega
        have hms := size_list (s.extract 1 (s.size - 1)) _ hmid
        have hr := fun w h => repl_any w h (s.extract 1 (s.size - 1)) ⟨#[39, 39]⟩ ⟨#[39]⟩ (by omega) (by decide) (by decide)
        have x1 : (⟨#[39, 39]⟩ : ByteArray).data.toList = [39, 39] := rfl
        have x2 : (⟨#[39]⟩ : ByteArray).data.toList = [39] := rfl
        rw [hmid, x1, x2, replaceAll_pair] at hr
        have HR := Lib.hid hr
        have hul := unpair_length 39 (midL l)
        generalize unpair 39 (midL l) = u at *
        have HT := Lib.hid (fun w => text_val w (bs u))
        have hw := fun w => wrong_any w ⟨2, 0, bs u⟩
        have HP := Lib.hid (fun w h => print_val w h ⟨2, 0, bs u⟩ (by simp [fit64]))
        rw [chkV_print] at HO2
        have hcmp : ((bs (printV ⟨2, 0, bs u⟩)).toList == s.toList) = (printV ⟨2, 0, bs u⟩ == l) := by
          rw [bs_toList, ByteArray.toList_eq, HS.out]
        simp only [AV.agg] at hw HP
        obtain ⟨m, hm1⟩ : ∃ m : Nat, s.size = m + 1 := ⟨s.size - 1, by omega⟩
        have hm2 : (s.size : Int) - 1 = (m : Int) := by omega
        have hm3 : s.size - 1 = m := by omega
        have hm4 : m ≤ s.size := by omega
        have hm5 : 1 ≤ m := by omega
        have hm6 : wrap64 (m : Int) = (m : Int) := IntWalk.wrap64_in _ ⟨by omega, by omega⟩
        have hm7 : m ≤ 1000 := by omega
        rw [hm3] at HR
        have hks : ∀ W : World, (Instr.slice 9 (.string s) (some (.int .i64 1)) (some (.int .i64 (m : Int))) none).run Tryd.prog W = .ok (.string (s.extract 1 m)) W := fun W => slice_mid s 1 m hm5 hm4 W
        clear hr x1 x2 hmid hml hms ht hul hm1 hm3 hsz
        cases hrt : AV.right ⟨2, 0, bs u⟩
        · rw [hrt] at HO2 hw
          have HOUT : Hid (out = (zeroV, 12)) := Eq.symm HO2
          have HW := Lib.hid hw
          clear hw HO2 hcmp HP
          generalize bs u = U at *
          go_enter Tryd.func36, Tryd.ntmps36
          go_wp2_with fail
          refine (HR.out _ (HM.out.below HB0.out)).mono ?_
          rintro e w1 ⟨rfl, hb1⟩
          have K11 := Lib.hid (K10.out.below hb1)
          have K21 := Lib.hid (K20.out.below hb1)
          have HB1 := Lib.hid (HB0.out.trans (hb1.mono HB0.out.size))
          clear hb1
          go_wp2_with fail
          refine (HT.out _).mono ?_
          rintro e w2 ⟨rfl, hb2⟩
          have K12 := Lib.hid (K11.out.below hb2)
          have K22 := Lib.hid (K21.out.below hb2)
          have HB2 := Lib.hid (HB1.out.trans (hb2.mono HB1.out.size))
          clear hb2
          obtain ⟨a0, a1, a2, af⟩ := blk3 K12.out
          obtain ⟨b0, b1, b2, bf⟩ := blk3 K22.out
          have K13 := Lib.hid (((K12.out.setOther (p := ⟨w.heap.size + 1, 0, none⟩) (by simp) (.int .i64 2)).setOther (p := ⟨w.heap.size + 1, 1, none⟩) (by simp) (.int .i64 (0))).setOther (p := ⟨w.heap.size + 1, 2, none⟩) (by simp) (.string U))
          have K23 := Lib.hid (((K22.out.set 0 (.int .i64 2)).set 1 (.int .i64 (0))).set 2 (.string U))
          have HB3 := Lib.hid (((HB2.out.setCell (p := ⟨w.heap.size + 1, 0, none⟩) (by simp) (.int .i64 2)).setCell (p := ⟨w.heap.size + 1, 1, none⟩) (by simp) (.int .i64 (0))).setCell (p := ⟨w.heap.size + 1, 2, none⟩) (by simp) (.string U))
          go_wp2_with fail
          refine (HW.out _).mono ?_
          clear HW
          rintro e w7 ⟨rfl, hb7⟩
          have K17 := Lib.hid (K13.out.below hb7)
          have K27 := Lib.hid (K23.out.below hb7)
          have HB7 := Lib.hid (HB3.out.trans (hb7.mono HB3.out.size))
          clear hb7 a0 a1 a2 af b0 b1 b2 bf
          obtain ⟨a0, a1, a2, af⟩ := blk3 K17.out
          obtain ⟨b0, b1, b2, bf⟩ := blk3 K27.out
          go_wp2
          refine bodyPost_ret (v := .tuple #[.agg #[.int .i64 0, .int .i64 0, .string ⟨#[]⟩], .int .i64 12]) (by simp [results, Tryd.results36, go_sem, a0, a1, a2]) rfl ⟨by rw [HOUT.out]; rfl, ?_⟩
          exact ((HB7.out.setCell (p := ⟨w.heap.size, 0, none⟩) (by simp) _).setCell (p := ⟨w.heap.size, 1, none⟩) (by simp) _).setCell (p := ⟨w.heap.size, 2, none⟩) (by simp) _
        · rw [hrt] at HO2 hw
          have HW := Lib.hid hw
          have HOUT0 : Hid (out = if (printV ⟨2, 0, bs u⟩ == l) = true then (⟨2, 0, bs u⟩, 0) else (zeroV, 12)) := by
            show _ = _
            rw [← HO2.out]; rfl
          clear hw HO2
          generalize bs (printV ⟨2, 0, bs u⟩) = P at *
          cases hq : (printV ⟨2, 0, bs u⟩ == l)
          · rw [hq] at hcmp HOUT0
            have HOUT := HOUT0
            first | rw [if_pos rfl] at HOUT | rw [if_neg (by decide)] at HOUT
            clear HOUT0 hq hrt
            generalize bs u = U at *
            go_enter Tryd.func36, Tryd.ntmps36
            go_wp2_with fail
            refine (HR.out _ (HM.out.below HB0.out)).mono ?_
            rintro e w1 ⟨rfl, hb1⟩
            have K11 := Lib.hid (K10.out.below hb1)
            have K21 := Lib.hid (K20.out.below hb1)
            have HB1 := Lib.hid (HB0.out.trans (hb1.mono HB0.out.size))
            clear hb1
            go_wp2_with fail
            refine (HT.out _).mono ?_
            rintro e w2 ⟨rfl, hb2⟩
            have K12 := Lib.hid (K11.out.below hb2)
            have K22 := Lib.hid (K21.out.below hb2)
            have HB2 := Lib.hid (HB1.out.trans (hb2.mono HB1.out.size))
            clear hb2
            obtain ⟨a0, a1, a2, af⟩ := blk3 K12.out
            obtain ⟨b0, b1, b2, bf⟩ := blk3 K22.out
            have K13 := Lib.hid (((K12.out.setOther (p := ⟨w.heap.size + 1, 0, none⟩) (by simp) (.int .i64 2)).setOther (p := ⟨w.heap.size + 1, 1, none⟩) (by simp) (.int .i64 (0))).setOther (p := ⟨w.heap.size + 1, 2, none⟩) (by simp) (.string U))
            have K23 := Lib.hid (((K22.out.set 0 (.int .i64 2)).set 1 (.int .i64 (0))).set 2 (.string U))
            have HB3 := Lib.hid (((HB2.out.setCell (p := ⟨w.heap.size + 1, 0, none⟩) (by simp) (.int .i64 2)).setCell (p := ⟨w.heap.size + 1, 1, none⟩) (by simp) (.int .i64 (0))).setCell (p := ⟨w.heap.size + 1, 2, none⟩) (by simp) (.string U))
            go_wp2_with fail
            refine (HW.out _).mono ?_
            clear HW
            rintro e w7 ⟨rfl, hb7⟩
            have K17 := Lib.hid (K13.out.below hb7)
            have K27 := Lib.hid (K23.out.below hb7)
            have HB7 := Lib.hid (HB3.out.trans (hb7.mono HB3.out.size))
            clear hb7 a0 a1 a2 af b0 b1 b2 bf
            obtain ⟨a0, a1, a2, af⟩ := blk3 K17.out
            obtain ⟨b0, b1, b2, bf⟩ := blk3 K27.out
            go_wp2_with fail
            refine (HP.out _ (HM.out.below HB7.out)).mono ?_
            clear HP
            rintro e w8 ⟨rfl, hb8⟩
            have K18 := Lib.hid (K17.out.below hb8)
            have K28 := Lib.hid (K27.out.below hb8)
            have HB8 := Lib.hid (HB7.out.trans (hb8.mono HB7.out.size))
            clear hb8 a0 a1 a2 af b0 b1 b2 bf
            obtain ⟨a0, a1, a2, af⟩ := blk3 K18.out
            obtain ⟨b0, b1, b2, bf⟩ := blk3 K28.out
            go_wp2
            refine bodyPost_ret (v := .tuple #[.agg #[.int .i64 0, .int .i64 0, .string ⟨#[]⟩], .int .i64 12]) (by simp [results, Tryd.results36, go_sem, a0, a1, a2]) rfl ⟨by rw [HOUT.out]; rfl, ?_⟩
            exact ((HB8.out.setCell (p := ⟨w.heap.size, 0, none⟩) (by simp) _).setCell (p := ⟨w.heap.size, 1, none⟩) (by simp) _).setCell (p := ⟨w.heap.size, 2, none⟩) (by simp) _
          · rw [hq] at hcmp HOUT0
            have HOUT := HOUT0
            first | rw [if_pos rfl] at HOUT | rw [if_neg (by decide)] at HOUT
            clear HOUT0 hq hrt
            generalize bs u = U at *
            go_enter Tryd.func36, Tryd.ntmps36
            go_wp2_with fail
            refine (HR.out _ (HM.out.below HB0.out)).mono ?_
            rintro e w1 ⟨rfl, hb1⟩
            have K11 := Lib.hid (K10.out.below hb1)
            have K21 := Lib.hid (K20.out.below hb1)
            have HB1 := Lib.hid (HB0.out.trans (hb1.mono HB0.out.size))
            clear hb1
            go_wp2_with fail
            refine (HT.out _).mono ?_
            rintro e w2 ⟨rfl, hb2⟩
            have K12 := Lib.hid (K11.out.below hb2)
            have K22 := Lib.hid (K21.out.below hb2)
            have HB2 := Lib.hid (HB1.out.trans (hb2.mono HB1.out.size))
            clear hb2
            obtain ⟨a0, a1, a2, af⟩ := blk3 K12.out
            obtain ⟨b0, b1, b2, bf⟩ := blk3 K22.out
            have K13 := Lib.hid (((K12.out.setOther (p := ⟨w.heap.size + 1, 0, none⟩) (by simp) (.int .i64 2)).setOther (p := ⟨w.heap.size + 1, 1, none⟩) (by simp) (.int .i64 (0))).setOther (p := ⟨w.heap.size + 1, 2, none⟩) (by simp) (.string U))
            have K23 := Lib.hid (((K22.out.set 0 (.int .i64 2)).set 1 (.int .i64 (0))).set 2 (.string U))
            have HB3 := Lib.hid (((HB2.out.setCell (p := ⟨w.heap.size + 1, 0, none⟩) (by simp) (.int .i64 2)).setCell (p := ⟨w.heap.size + 1, 1, none⟩) (by simp) (.int .i64 (0))).setCell (p := ⟨w.heap.size + 1, 2, none⟩) (by simp) (.string U))
            go_wp2_with fail
            refine (HW.out _).mono ?_
            clear HW
            rintro e w7 ⟨rfl, hb7⟩
            have K17 := Lib.hid (K13.out.below hb7)
            have K27 := Lib.hid (K23.out.below hb7)
            have HB7 := Lib.hid (HB3.out.trans (hb7.mono HB3.out.size))
            clear hb7 a0 a1 a2 af b0 b1 b2 bf
            obtain ⟨a0, a1, a2, af⟩ := blk3 K17.out
            obtain ⟨b0, b1, b2, bf⟩ := blk3 K27.out
            go_wp2_with fail
            refine (HP.out _ (HM.out.below HB7.out)).mono ?_
            clear HP
            rintro e w8 ⟨rfl, hb8⟩
            have K18 := Lib.hid (K17.out.below hb8)
            have K28 := Lib.hid (K27.out.below hb8)
            have HB8 := Lib.hid (HB7.out.trans (hb8.mono HB7.out.size))
            clear hb8 a0 a1 a2 af b0 b1 b2 bf
            obtain ⟨a0, a1, a2, af⟩ := blk3 K18.out
            obtain ⟨b0, b1, b2, bf⟩ := blk3 K28.out
            go_wp2
            refine bodyPost_ret (v := .tuple #[.agg #[.int .i64 2, .int .i64 (0), .string U], .int .i64 0]) (by simp [results, Tryd.results36, go_sem, a0, a1, a2]) rfl ⟨by rw [HOUT.out]; rfl, ?_⟩
            exact ((HB8.out.setCell (p := ⟨w.heap.size, 0, none⟩) (by simp) _).setCell (p := ⟨w.heap.size, 1, none⟩) (by simp) _).setCell (p := ⟨w.heap.size, 2, none⟩) (by simp) _
--END GEN
end Go.Proofs.YtlgohkdckdnmhaaDoor
