/- The law ValueStands: its walk. -/
import Derived.Test.YtlgohkdckdnmhaaDoorKyO
import Derived.Test.YtlgohkdckdnmhaaDoorUkB
import Derived.Test.YtlgohkdckdnmhaaDoorEqR
import Derived.Test.YtlgohkdckdnmhaaDoorOpenV
namespace Go.Proofs.YtlgohkdckdnmhaaDoor
open Go.RowKit Go.Afx

theorem greatB_len {l : List AV} (h : greatB l = false) : l.length ≤ 30 := by
  unfold greatB at h
  simp only [Bool.or_eq_false_iff, decide_eq_false_iff_not, List.any_eq_false] at h
  omega
theorem rowEq_iff (a b : List AV) : rowEq a b = true ↔ a = b := by
  constructor
  · intro h
    unfold rowEq at h
    rw [Bool.and_eq_true, decide_eq_true_eq, List.all_eq_true] at h
    obtain ⟨h1, h2⟩ := h
    apply List.ext_getElem h1
    intro i hi hi'
    have := h2 i (by simpa using hi)
    rw [eqAt_eq a b i hi hi'] at this
    exact (avEq_iff _ _).1 this
  · intro h
    subst h
    exact rowEq_self _
theorem take_row (b : List AV) (n : Nat) : (rowCells b).take (n * 3) = rowCells (b.take n) := by
  induction b generalizing n with
  | nil => simp [rowCells]
  | cons v b ih =>
    cases n with
    | zero => simp [rowCells]
    | succ n =>
      have e : rowCells (v :: b) = v.cells ++ rowCells b := rfl
      have e2 : rowCells (v :: b.take n) = v.cells ++ rowCells (b.take n) := rfl
      have hl : v.cells.length = 3 := rfl
      rw [e, List.take_succ_cons, e2, List.take_append, ← ih n, List.take_of_length_le (by omega)]
      congr 2
      omega
theorem begins_row (a b : List AV) (ha : okRow a) (hb : okRow b) : (decide ((keysB a).length ≤ (keysB b).length) && ((keysB b).take (keysB a).length == keysB a)) = (decide (a.length ≤ b.length) && rowEq a (b.take a.length)) := by
  have h := keys_prefix a b ha hb
  rw [Bool.eq_iff_iff, Bool.and_eq_true, Bool.and_eq_true, beq_iff_eq, decide_eq_true_eq, decide_eq_true_eq, rowEq_iff]
  constructor
  · rintro ⟨_, h2⟩
    have h3 := h.1 (List.prefix_iff_eq_take.2 h2.symm)
    exact ⟨h3.length_le, List.prefix_iff_eq_take.1 h3⟩
  · rintro ⟨_, h2⟩
    have h3 := h.2 (List.prefix_iff_eq_take.2 h2)
    exact ⟨h3.length_le, (List.prefix_iff_eq_take.1 h3).symm⟩

theorem bs_ext_list (s : ByteArray) (l : List UInt8) (h : s.data.toList = l) (j : Nat) : (s.extract 0 j).toList = l.take j := by
  rw [← bs_of (s.extract 0 j), bs_toList, Lib.extract_data, h]
  simp
theorem vs_gtr (x y : ByteArray) (w : World) : (binOp .gtr 9 (.string x) (.string y)).run Tryd.prog w = .ok (.bool (!(Op.bytesLess x.toList y.toList || x.toList == y.toList))) w := by kernel_rfl
set_option maxRecDepth 100000 in
set_option maxHeartbeats 8000000 in
theorem stands_walkV (v0 : Value) (a : List AV) (v1 : Value) (b : List AV) (w : World) (hm : Mx w) (h0 : Sl w (fun _ => True) 3 v0 a.length (rowCells a) ∧ ∀ x ∈ a, x.read) (h1 : Sl w (fun _ => True) 3 v1 b.length (rowCells b) ∧ ∀ x ∈ b, x.read) :
    Calls Tryd.prog 9 #[v0, v1] w fun e w' => e = .returned (.bool true) ∧ Below w.heap.size w w' := by
  have HGa := Lib.hid (fun w' (h : Below w.heap.size w w') => great_row w' _ v0 a (h0.1.below h))
  have HGb := Lib.hid (fun w' (h : Below w.heap.size w w') => great_row w' _ v1 b (h1.1.below h))
  have HAa := Lib.hid (fun w' (h : Below w.heap.size w w') => all_row w' _ v0 a (h0.1.below h))
  have HAb := Lib.hid (fun w' (h : Below w.heap.size w w') => all_row w' _ v1 b (h1.1.below h))
  have HAW := Lib.hid (fun w' (h : Below w.heap.size w w') => vawake w' (hm.below h))
  have HS0 := Lib.hid h0.1
  have HS1 := Lib.hid h1.1
  have HF0 := Lib.hid (fun x hx => (h0.2 x hx).2.1)
  have HF1 := Lib.hid (fun x hx => (h1.2 x hx).2.1)
  have HM := Lib.hid hm
  obtain ⟨p, cap, rfl, hc1, hc2⟩ := h0.1.form
  obtain ⟨p', cap', rfl, hc1', hc2'⟩ := h1.1.form
  clear h0 h1 hm
  have HB0 : Hid (Below w.heap.size w w) := Below.refl _ _
  cases hga : greatB a
  · rw [hga] at HGa
    have hla := greatB_len hga
    cases hgb : greatB b
    · rw [hgb] at HGb
      have hlb := greatB_len hgb
      cases hra : rightAll a
      · rw [hra] at HAa
        clear hga hgb hra
        go_enter Tryd.func9, Tryd.ntmps9
        go_wp2_with fail
        refine (HGa.out _ HB0.out).mono ?_
        rintro e w1 ⟨rfl, hb1⟩
        have HB1 := Lib.hid hb1
        clear hb1
        go_wp2_with fail
        refine (HGb.out _ HB1.out).mono ?_
        rintro e w2 ⟨rfl, hb2⟩
        have HB2 := Lib.hid (HB1.out.trans (hb2.mono HB1.out.size))
        clear hb2
        go_wp2_with fail
        refine (HAa.out _ HB2.out).mono ?_
        rintro e w3 ⟨rfl, hb3⟩
        have HBZ := Lib.hid (HB2.out.trans (hb3.mono HB2.out.size))
        clear hb3
        go_wp2_with fail
        refine (HAW.out _ HBZ.out).mono ?_
        rintro e w9 ⟨rfl, hb9⟩
        have HB9 := Lib.hid (HBZ.out.trans (hb9.mono HBZ.out.size))
        clear hb9
        go_wp2
        go_ret
        exact ⟨rfl, HB9.out⟩
      · rw [hra] at HAa
        cases hrb : rightAll b
        · rw [hrb] at HAb
          clear hga hgb hra hrb
          go_enter Tryd.func9, Tryd.ntmps9
          go_wp2_with fail
          refine (HGa.out _ HB0.out).mono ?_
          rintro e w1 ⟨rfl, hb1⟩
          have HB1 := Lib.hid hb1
          clear hb1
          go_wp2_with fail
          refine (HGb.out _ HB1.out).mono ?_
          rintro e w2 ⟨rfl, hb2⟩
          have HB2 := Lib.hid (HB1.out.trans (hb2.mono HB1.out.size))
          clear hb2
          go_wp2_with fail
          refine (HAa.out _ HB2.out).mono ?_
          rintro e w3 ⟨rfl, hb3⟩
          have HB3 := Lib.hid (HB2.out.trans (hb3.mono HB2.out.size))
          clear hb3
          go_wp2_with fail
          refine (HAb.out _ HB3.out).mono ?_
          rintro e w4 ⟨rfl, hb4⟩
          have HBZ := Lib.hid (HB3.out.trans (hb4.mono HB3.out.size))
          clear hb4
          go_wp2_with fail
          refine (HAW.out _ HBZ.out).mono ?_
          rintro e w9 ⟨rfl, hb9⟩
          have HB9 := Lib.hid (HBZ.out.trans (hb9.mono HBZ.out.size))
          clear hb9
          go_wp2
          go_ret
          exact ⟨rfl, HB9.out⟩
        · rw [hrb] at HAb
          have ok1 : okRow a := ⟨hra, HF0.out⟩
          have ok2 : okRow b := ⟨hrb, HF1.out⟩
          have hk1 := fun w' (h : Below w.heap.size w w') => key_any w' (HM.out.below h) _ _ a (HS0.out.below h) HF0.out (by omega)
          have hk2 := fun w' (h : Below w.heap.size w w') => key_any w' (HM.out.below h) _ _ b (HS1.out.below h) HF1.out (by omega)
          have r1 : rowKey a = keysB a := by unfold rowKey; rw [hra]; rfl
          have r2 : rowKey b = keysB b := by unfold rowKey; rw [hrb]; rfl
          rw [r1] at hk1
          rw [r2] at hk2
          have HK1 := Lib.hid hk1
          have HK2 := Lib.hid hk2
          have hord := keys_order a b ok1 ok2
          have hbeg := begins_row a b ok1 ok2
          have hlen1 := keysB_len a hra a.length
          rw [List.take_length] at hlen1
          have huk := unkB_keys a hra HF0.out
          have hun := fun w => unkey_any w (bs (keysB a)) (keysB a) (bs_data _) (by omega)
          rw [huk] at hun
          have HUN := Lib.hid hun
          have HRW := Lib.hid (fun w' (h : Below w.heap.size w w') => rows_any w' _ _ _ _ a b (HS0.out.below h) (HS1.out.below h))
          have HSM := Lib.hid (fun w' (h : Below w.heap.size w w') (B : Nat → Prop) (v : Value) (hv : Sl w' B 3 v a.length (rowCells a)) => same_rowG w' _ _ v _ a a hv (HS0.out.below h))
          have HSM2 := Lib.hid (fun w' (h : Below w.heap.size w w') (hab : a.length ≤ b.length) => same_rowG w' _ _ (.slice p a.length cap) (.slice p' a.length cap') a (b.take a.length) (HS0.out.below h) (by
            have h2 := (HS1.out.below h).take hab
            rw [take_row] at h2
            rw [List.length_take, Nat.min_eq_left hab]
            exact h2))
          rw [rowEq_self] at HSM
          rw [← hord] at HRW
          have e1 : (bs (keysB a)).toList = keysB a := bs_toList _
          have e2 : (bs (keysB b)).toList = keysB b := bs_toList _
          have l1 : (bs (keysB a)).size = (keysB a).length := bs_size _
          have l2 : (bs (keysB b)).size = (keysB b).length := bs_size _
          have d2 : (bs (keysB b)).data.toList = keysB b := bs_data _
          clear hga hgb hra hrb hk1 hk2 r1 r2 hord huk hun ok1 ok2 hlen1 hla hlb
          generalize keysB a = x at *
          generalize keysB b = y at *
          have kg := fun W => vs_gtr (bs x) (bs y) W
          have hex : ((bs y).extract 0 (bs x).size).toList = y.take x.length := by
            rw [bs_ext_list (bs y) y d2, l1]
          have hsl : (bs x).size ≤ (bs y).size → ∀ W : World, (Instr.slice 9 (.string (bs y)) none (some (.int .i64 ((bs x).size : Int))) none).run Tryd.prog W = .ok (.string ((bs y).extract 0 (bs x).size)) W := fun h W => by
            have := run_slice_string_h (P := Tryd.prog) W 9 (bs y) Tryd.underlying9 .i64 ((bs x).size : Int) (by omega) (by omega)
            simpa using this
          rw [e1, e2] at kg
          rw [← l1, ← l2] at hbeg
          generalize (bs y).extract 0 (bs x).size = Z at *
          generalize bs x = X at *
          generalize bs y = Y at *
          have hbb : (decide (X.size ≤ Y.size) && (Z.toList == X.toList)) = (decide (a.length ≤ b.length) && rowEq a (b.take a.length)) := by
            rw [hex, e1, ← l1]; exact hbeg
          clear hbeg hex d2
          obtain ⟨q, hq⟩ : ∃ q, (Z.toList == X.toList) = q := ⟨_, rfl⟩
          obtain ⟨r, hr⟩ : ∃ r, rowEq a (b.take a.length) = r := ⟨_, rfl⟩
          rw [hq, hr] at hbb
          rw [hr] at HSM2
          clear hr
          have hes : X.toList = x ∧ Y.toList = y := ⟨e1, e2⟩
          cases hless : Op.bytesLess x y
          · cases hsame : x == y
            · have hc : cmpL x y = 1 := by unfold cmpL; rw [hless, hsame]; rfl
              rw [hc] at HRW
              rw [hless, hsame] at kg
              rw [← e1, ← e2] at hless
              clear hes hc hsame e1 e2 l1 l2
              as_aux_lemma =>
              go_enter Tryd.func9, Tryd.ntmps9
              go_wp2_with fail
              refine (HGa.out _ HB0.out).mono ?_
              rintro e w1 ⟨rfl, hb1⟩
              have HB1 := Lib.hid hb1
              clear hb1
              go_wp2_with fail
              refine (HGb.out _ HB1.out).mono ?_
              rintro e w2 ⟨rfl, hb2⟩
              have HB2 := Lib.hid (HB1.out.trans (hb2.mono HB1.out.size))
              clear hb2
              go_wp2_with fail
              refine (HAa.out _ HB2.out).mono ?_
              rintro e w3 ⟨rfl, hb3⟩
              have HB3 := Lib.hid (HB2.out.trans (hb3.mono HB2.out.size))
              clear hb3
              go_wp2_with fail
              refine (HAb.out _ HB3.out).mono ?_
              rintro e w4 ⟨rfl, hb4⟩
              have HB4 := Lib.hid (HB3.out.trans (hb4.mono HB3.out.size))
              clear hb4
              go_wp2_with fail
              refine (HK1.out _ HB4.out).mono ?_
              rintro e w5 ⟨rfl, hb5⟩
              have HB5 := Lib.hid (HB4.out.trans (hb5.mono HB4.out.size))
              clear hb5
              go_wp2_with fail
              refine (HK2.out _ HB5.out).mono ?_
              rintro e w6 ⟨rfl, hb6⟩
              have HB6 := Lib.hid (HB5.out.trans (hb6.mono HB5.out.size))
              clear hb6
              go_wp2_with fail
              refine (HUN.out _).mono ?_
              rintro e w7 hu
              unfold UnkOut at hu
              obtain ⟨hb7, hu⟩ := hu
              rcases hu with ⟨hu, _⟩ | ⟨l', v, hu, rfl, hv⟩
              · cases hu
              cases hu
              have HV := Lib.hid hv
              have HB7 := Lib.hid (HB6.out.trans (hb7.mono HB6.out.size))
              clear hb7 hv
              go_wp2_with fail
              refine (HRW.out _ HB7.out).mono ?_
              rintro e w8 ⟨rfl, hb8⟩
              have HV8 := Lib.hid (HV.out.below hb8)
              have HB8 := Lib.hid (HB7.out.trans (hb8.mono HB7.out.size))
              clear hb8
              go_wp2_with fail
              refine (HSM.out _ HB8.out _ _ HV8.out).mono ?_
              rintro e w9 ⟨rfl, hb9⟩
              have HB9 := Lib.hid (HB8.out.trans (hb9.mono HB8.out.size))
              clear hb9
              by_cases hxy : X.size ≤ Y.size
              · have hsl2 := hsl hxy
                have hxy2 : (X.size : Int) ≤ (Y.size : Int) := by omega
                by_cases hab : a.length ≤ b.length
                · have hab2 : (a.length : Int) ≤ (b.length : Int) := by omega
                  have hac : a.length ≤ cap' := by omega
                  have hqr : q = r := by simpa [hxy, hab] using hbb
                  subst hqr
                  clear hbb hsl
                  go_wp2_with fail
                  refine (HSM2.out _ HB9.out hab).mono ?_
                  rintro e w10 ⟨rfl, hb10⟩
                  have HBZ := Lib.hid (HB9.out.trans (hb10.mono HB9.out.size))
                  clear hb10
                  go_wp2_with fail
                  refine (HAW.out _ HBZ.out).mono ?_
                  rintro e w12 ⟨rfl, hb12⟩
                  have HB12 := Lib.hid (HBZ.out.trans (hb12.mono HBZ.out.size))
                  clear hb12
                  go_wp2
                  go_ret
                  exact ⟨rfl, HB12.out⟩
                · have hab2 : ¬ (a.length : Int) ≤ (b.length : Int) := by omega
                  have hqr : q = false := by simpa [hxy, hab] using hbb
                  subst hqr
                  clear hbb hsl
                  have HBZ := HB9
                  go_wp2_with fail
                  refine (HAW.out _ HBZ.out).mono ?_
                  rintro e w12 ⟨rfl, hb12⟩
                  have HB12 := Lib.hid (HBZ.out.trans (hb12.mono HBZ.out.size))
                  clear hb12
                  go_wp2
                  go_ret
                  exact ⟨rfl, HB12.out⟩
              · have hxy2 : ¬ (X.size : Int) ≤ (Y.size : Int) := by omega
                by_cases hab : a.length ≤ b.length
                · have hab2 : (a.length : Int) ≤ (b.length : Int) := by omega
                  have hac : a.length ≤ cap' := by omega
                  have hqr : r = false := by simpa [hxy, hab] using hbb.symm
                  subst hqr
                  clear hbb hsl hq
                  go_wp2_with fail
                  refine (HSM2.out _ HB9.out hab).mono ?_
                  rintro e w10 ⟨rfl, hb10⟩
                  have HBZ := Lib.hid (HB9.out.trans (hb10.mono HB9.out.size))
                  clear hb10
                  go_wp2_with fail
                  refine (HAW.out _ HBZ.out).mono ?_
                  rintro e w12 ⟨rfl, hb12⟩
                  have HB12 := Lib.hid (HBZ.out.trans (hb12.mono HBZ.out.size))
                  clear hb12
                  go_wp2
                  go_ret
                  exact ⟨rfl, HB12.out⟩
                · have hab2 : ¬ (a.length : Int) ≤ (b.length : Int) := by omega
                  clear hbb hsl hq
                  have HBZ := HB9
                  go_wp2_with fail
                  refine (HAW.out _ HBZ.out).mono ?_
                  rintro e w12 ⟨rfl, hb12⟩
                  have HB12 := Lib.hid (HBZ.out.trans (hb12.mono HBZ.out.size))
                  clear hb12
                  go_wp2
                  go_ret
                  exact ⟨rfl, HB12.out⟩
            · have hc : cmpL x y = 0 := by unfold cmpL; rw [hless, hsame]; rfl
              rw [hc] at HRW
              rw [hless, hsame] at kg
              rw [← e1, ← e2] at hless
              clear hes hc hsame e1 e2 l1 l2
              as_aux_lemma =>
              go_enter Tryd.func9, Tryd.ntmps9
              go_wp2_with fail
              refine (HGa.out _ HB0.out).mono ?_
              rintro e w1 ⟨rfl, hb1⟩
              have HB1 := Lib.hid hb1
              clear hb1
              go_wp2_with fail
              refine (HGb.out _ HB1.out).mono ?_
              rintro e w2 ⟨rfl, hb2⟩
              have HB2 := Lib.hid (HB1.out.trans (hb2.mono HB1.out.size))
              clear hb2
              go_wp2_with fail
              refine (HAa.out _ HB2.out).mono ?_
              rintro e w3 ⟨rfl, hb3⟩
              have HB3 := Lib.hid (HB2.out.trans (hb3.mono HB2.out.size))
              clear hb3
              go_wp2_with fail
              refine (HAb.out _ HB3.out).mono ?_
              rintro e w4 ⟨rfl, hb4⟩
              have HB4 := Lib.hid (HB3.out.trans (hb4.mono HB3.out.size))
              clear hb4
              go_wp2_with fail
              refine (HK1.out _ HB4.out).mono ?_
              rintro e w5 ⟨rfl, hb5⟩
              have HB5 := Lib.hid (HB4.out.trans (hb5.mono HB4.out.size))
              clear hb5
              go_wp2_with fail
              refine (HK2.out _ HB5.out).mono ?_
              rintro e w6 ⟨rfl, hb6⟩
              have HB6 := Lib.hid (HB5.out.trans (hb6.mono HB5.out.size))
              clear hb6
              go_wp2_with fail
              refine (HUN.out _).mono ?_
              rintro e w7 hu
              unfold UnkOut at hu
              obtain ⟨hb7, hu⟩ := hu
              rcases hu with ⟨hu, _⟩ | ⟨l', v, hu, rfl, hv⟩
              · cases hu
              cases hu
              have HV := Lib.hid hv
              have HB7 := Lib.hid (HB6.out.trans (hb7.mono HB6.out.size))
              clear hb7 hv
              go_wp2_with fail
              refine (HRW.out _ HB7.out).mono ?_
              rintro e w8 ⟨rfl, hb8⟩
              have HV8 := Lib.hid (HV.out.below hb8)
              have HB8 := Lib.hid (HB7.out.trans (hb8.mono HB7.out.size))
              clear hb8
              go_wp2_with fail
              refine (HSM.out _ HB8.out _ _ HV8.out).mono ?_
              rintro e w9 ⟨rfl, hb9⟩
              have HB9 := Lib.hid (HB8.out.trans (hb9.mono HB8.out.size))
              clear hb9
              by_cases hxy : X.size ≤ Y.size
              · have hsl2 := hsl hxy
                have hxy2 : (X.size : Int) ≤ (Y.size : Int) := by omega
                by_cases hab : a.length ≤ b.length
                · have hab2 : (a.length : Int) ≤ (b.length : Int) := by omega
                  have hac : a.length ≤ cap' := by omega
                  have hqr : q = r := by simpa [hxy, hab] using hbb
                  subst hqr
                  clear hbb hsl
                  go_wp2_with fail
                  refine (HSM2.out _ HB9.out hab).mono ?_
                  rintro e w10 ⟨rfl, hb10⟩
                  have HBZ := Lib.hid (HB9.out.trans (hb10.mono HB9.out.size))
                  clear hb10
                  go_wp2_with fail
                  refine (HAW.out _ HBZ.out).mono ?_
                  rintro e w12 ⟨rfl, hb12⟩
                  have HB12 := Lib.hid (HBZ.out.trans (hb12.mono HBZ.out.size))
                  clear hb12
                  go_wp2
                  go_ret
                  exact ⟨rfl, HB12.out⟩
                · have hab2 : ¬ (a.length : Int) ≤ (b.length : Int) := by omega
                  have hqr : q = false := by simpa [hxy, hab] using hbb
                  subst hqr
                  clear hbb hsl
                  have HBZ := HB9
                  go_wp2_with fail
                  refine (HAW.out _ HBZ.out).mono ?_
                  rintro e w12 ⟨rfl, hb12⟩
                  have HB12 := Lib.hid (HBZ.out.trans (hb12.mono HBZ.out.size))
                  clear hb12
                  go_wp2
                  go_ret
                  exact ⟨rfl, HB12.out⟩
              · have hxy2 : ¬ (X.size : Int) ≤ (Y.size : Int) := by omega
                by_cases hab : a.length ≤ b.length
                · have hab2 : (a.length : Int) ≤ (b.length : Int) := by omega
                  have hac : a.length ≤ cap' := by omega
                  have hqr : r = false := by simpa [hxy, hab] using hbb.symm
                  subst hqr
                  clear hbb hsl hq
                  go_wp2_with fail
                  refine (HSM2.out _ HB9.out hab).mono ?_
                  rintro e w10 ⟨rfl, hb10⟩
                  have HBZ := Lib.hid (HB9.out.trans (hb10.mono HB9.out.size))
                  clear hb10
                  go_wp2_with fail
                  refine (HAW.out _ HBZ.out).mono ?_
                  rintro e w12 ⟨rfl, hb12⟩
                  have HB12 := Lib.hid (HBZ.out.trans (hb12.mono HBZ.out.size))
                  clear hb12
                  go_wp2
                  go_ret
                  exact ⟨rfl, HB12.out⟩
                · have hab2 : ¬ (a.length : Int) ≤ (b.length : Int) := by omega
                  clear hbb hsl hq
                  have HBZ := HB9
                  go_wp2_with fail
                  refine (HAW.out _ HBZ.out).mono ?_
                  rintro e w12 ⟨rfl, hb12⟩
                  have HB12 := Lib.hid (HBZ.out.trans (hb12.mono HBZ.out.size))
                  clear hb12
                  go_wp2
                  go_ret
                  exact ⟨rfl, HB12.out⟩
          · have hc : cmpL x y = -1 := by unfold cmpL; rw [hless]; rfl
            rw [hc] at HRW
            rw [hless, Bool.true_or] at kg
            rw [← e1, ← e2] at hless
            clear hes hc e1 e2 l1 l2
            as_aux_lemma =>
            go_enter Tryd.func9, Tryd.ntmps9
            go_wp2_with fail
            refine (HGa.out _ HB0.out).mono ?_
            rintro e w1 ⟨rfl, hb1⟩
            have HB1 := Lib.hid hb1
            clear hb1
            go_wp2_with fail
            refine (HGb.out _ HB1.out).mono ?_
            rintro e w2 ⟨rfl, hb2⟩
            have HB2 := Lib.hid (HB1.out.trans (hb2.mono HB1.out.size))
            clear hb2
            go_wp2_with fail
            refine (HAa.out _ HB2.out).mono ?_
            rintro e w3 ⟨rfl, hb3⟩
            have HB3 := Lib.hid (HB2.out.trans (hb3.mono HB2.out.size))
            clear hb3
            go_wp2_with fail
            refine (HAb.out _ HB3.out).mono ?_
            rintro e w4 ⟨rfl, hb4⟩
            have HB4 := Lib.hid (HB3.out.trans (hb4.mono HB3.out.size))
            clear hb4
            go_wp2_with fail
            refine (HK1.out _ HB4.out).mono ?_
            rintro e w5 ⟨rfl, hb5⟩
            have HB5 := Lib.hid (HB4.out.trans (hb5.mono HB4.out.size))
            clear hb5
            go_wp2_with fail
            refine (HK2.out _ HB5.out).mono ?_
            rintro e w6 ⟨rfl, hb6⟩
            have HB6 := Lib.hid (HB5.out.trans (hb6.mono HB5.out.size))
            clear hb6
            go_wp2_with fail
            refine (HUN.out _).mono ?_
            rintro e w7 hu
            unfold UnkOut at hu
            obtain ⟨hb7, hu⟩ := hu
            rcases hu with ⟨hu, _⟩ | ⟨l', v, hu, rfl, hv⟩
            · cases hu
            cases hu
            have HV := Lib.hid hv
            have HB7 := Lib.hid (HB6.out.trans (hb7.mono HB6.out.size))
            clear hb7 hv
            go_wp2_with fail
            refine (HRW.out _ HB7.out).mono ?_
            rintro e w8 ⟨rfl, hb8⟩
            have HV8 := Lib.hid (HV.out.below hb8)
            have HB8 := Lib.hid (HB7.out.trans (hb8.mono HB7.out.size))
            clear hb8
            go_wp2_with fail
            refine (HSM.out _ HB8.out _ _ HV8.out).mono ?_
            rintro e w9 ⟨rfl, hb9⟩
            have HB9 := Lib.hid (HB8.out.trans (hb9.mono HB8.out.size))
            clear hb9
            by_cases hxy : X.size ≤ Y.size
            · have hsl2 := hsl hxy
              have hxy2 : (X.size : Int) ≤ (Y.size : Int) := by omega
              by_cases hab : a.length ≤ b.length
              · have hab2 : (a.length : Int) ≤ (b.length : Int) := by omega
                have hac : a.length ≤ cap' := by omega
                have hqr : q = r := by simpa [hxy, hab] using hbb
                subst hqr
                clear hbb hsl
                go_wp2_with fail
                refine (HSM2.out _ HB9.out hab).mono ?_
                rintro e w10 ⟨rfl, hb10⟩
                have HBZ := Lib.hid (HB9.out.trans (hb10.mono HB9.out.size))
                clear hb10
                go_wp2_with fail
                refine (HAW.out _ HBZ.out).mono ?_
                rintro e w12 ⟨rfl, hb12⟩
                have HB12 := Lib.hid (HBZ.out.trans (hb12.mono HBZ.out.size))
                clear hb12
                go_wp2
                go_ret
                exact ⟨rfl, HB12.out⟩
              · have hab2 : ¬ (a.length : Int) ≤ (b.length : Int) := by omega
                have hqr : q = false := by simpa [hxy, hab] using hbb
                subst hqr
                clear hbb hsl
                have HBZ := HB9
                go_wp2_with fail
                refine (HAW.out _ HBZ.out).mono ?_
                rintro e w12 ⟨rfl, hb12⟩
                have HB12 := Lib.hid (HBZ.out.trans (hb12.mono HBZ.out.size))
                clear hb12
                go_wp2
                go_ret
                exact ⟨rfl, HB12.out⟩
            · have hxy2 : ¬ (X.size : Int) ≤ (Y.size : Int) := by omega
              by_cases hab : a.length ≤ b.length
              · have hab2 : (a.length : Int) ≤ (b.length : Int) := by omega
                have hac : a.length ≤ cap' := by omega
                have hqr : r = false := by simpa [hxy, hab] using hbb.symm
                subst hqr
                clear hbb hsl hq
                go_wp2_with fail
                refine (HSM2.out _ HB9.out hab).mono ?_
                rintro e w10 ⟨rfl, hb10⟩
                have HBZ := Lib.hid (HB9.out.trans (hb10.mono HB9.out.size))
                clear hb10
                go_wp2_with fail
                refine (HAW.out _ HBZ.out).mono ?_
                rintro e w12 ⟨rfl, hb12⟩
                have HB12 := Lib.hid (HBZ.out.trans (hb12.mono HBZ.out.size))
                clear hb12
                go_wp2
                go_ret
                exact ⟨rfl, HB12.out⟩
              · have hab2 : ¬ (a.length : Int) ≤ (b.length : Int) := by omega
                clear hbb hsl hq
                have HBZ := HB9
                go_wp2_with fail
                refine (HAW.out _ HBZ.out).mono ?_
                rintro e w12 ⟨rfl, hb12⟩
                have HB12 := Lib.hid (HBZ.out.trans (hb12.mono HBZ.out.size))
                clear hb12
                go_wp2
                go_ret
                exact ⟨rfl, HB12.out⟩
    · rw [hgb] at HGb
      clear hga hgb
      go_enter Tryd.func9, Tryd.ntmps9
      go_wp2_with fail
      refine (HGa.out _ HB0.out).mono ?_
      rintro e w1 ⟨rfl, hb1⟩
      have HB1 := Lib.hid hb1
      clear hb1
      go_wp2_with fail
      refine (HGb.out _ HB1.out).mono ?_
      rintro e w2 ⟨rfl, hb2⟩
      have HBZ := Lib.hid (HB1.out.trans (hb2.mono HB1.out.size))
      clear hb2
      go_wp2_with fail
      refine (HAW.out _ HBZ.out).mono ?_
      rintro e w9 ⟨rfl, hb9⟩
      have HB9 := Lib.hid (HBZ.out.trans (hb9.mono HBZ.out.size))
      clear hb9
      go_wp2
      go_ret
      exact ⟨rfl, HB9.out⟩
  · rw [hga] at HGa
    clear hga
    go_enter Tryd.func9, Tryd.ntmps9
    go_wp2_with fail
    refine (HGa.out _ HB0.out).mono ?_
    rintro e w1 ⟨rfl, hb1⟩
    have HBZ := Lib.hid hb1
    clear hb1
    go_wp2_with fail
    refine (HAW.out _ HBZ.out).mono ?_
    rintro e w9 ⟨rfl, hb9⟩
    have HB9 := Lib.hid (HBZ.out.trans (hb9.mono HBZ.out.size))
    clear hb9
    go_wp2
    go_ret
    exact ⟨rfl, HB9.out⟩
end Go.Proofs.YtlgohkdckdnmhaaDoor
