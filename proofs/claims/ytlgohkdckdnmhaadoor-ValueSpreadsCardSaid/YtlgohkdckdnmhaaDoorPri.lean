/- Prints of values; the document's examples. -/
import Derived.Test.YtlgohkdckdnmhaaDoorKyA
import Derived.Test.YtlgohkdckdnmhaaDoorCalcI
namespace Go.Proofs.YtlgohkdckdnmhaaDoor
open Go.RowKit Go.Afx

def trueL : List UInt8 := [116, 114, 117, 101]
def falseL : List UInt8 := [102, 97, 108, 115, 101]
/-- A right value's print. -/
def prB (v : AV) : List UInt8 := if v.kind = 1 then printL v.n else if v.kind = 2 then 39 :: (esc 39 [39, 39] v.s.data.toList ++ [39]) else if v.n = 1 then trueL else falseL
def printV (v : AV) : List UInt8 := if v.right then prB v else []

set_option maxRecDepth 100000 in
theorem print_val (w : World) (hm : Mx w) (v : AV) (hf : fit64 v.n) : Calls Tryd.prog 37 #[v.agg] w fun e w' => e = .returned (.string (bs (printV v))) ∧ Below w.heap.size w w' := by
  have HW := Lib.hid (fun w => wrong_any w v)
  have hal : Below w.heap.size w (w.alloc (.cells #[.int .i64 v.kind, .int .i64 v.n, .string v.s] 27)) := (Below.refl _ _).alloc (Nat.le_refl _) _
  have hk : Blk (w.alloc (.cells #[.int .i64 v.kind, .int .i64 v.n, .string v.s] 27)) w.heap.size 27 v.cells := Blk.new w _ _
  have HAL := Lib.hid hal
  have HK := Lib.hid hk
  have HM := Lib.hid hm
  clear hal hk hm
  unfold printV
  cases hr : v.right
  · rw [hr] at HW
    have e1 : bs (if (false = true) then prB v else []) = ⟨#[]⟩ := rfl
    rw [e1]
    obtain ⟨k, n, s⟩ := v
    simp only [AV.agg] at HW HAL ⊢
    clear hr hf e1
    go_enter Tryd.func37, Tryd.ntmps37
    go_wp2_with (go_at_call 62; refine (HW.out _).mono ?_; clear HW; rintro e w2 ⟨rfl, hb2⟩; have HB2 := Lib.hid (HAL.out.trans (hb2.mono HAL.out.size)); clear hb2)
    go_ret
    exact ⟨rfl, HB2.out⟩
  · rw [hr] at HW
    rw [if_pos rfl]
    have hcell : Hid (∀ w2, Below (w.alloc (.cells #[.int .i64 v.kind, .int .i64 v.n, .string v.s] 27)).heap.size (w.alloc (.cells #[.int .i64 v.kind, .int .i64 v.n, .string v.s] 27)) w2 → w2.cell? ⟨w.heap.size, 0, none⟩ = some (.int .i64 v.kind) ∧ w2.cell? ⟨w.heap.size, 1, none⟩ = some (.int .i64 v.n) ∧ w2.cell? ⟨w.heap.size, 2, none⟩ = some (.string v.s)) :=
      fun w2 h => ⟨(HK.out.below h).cell 0, (HK.out.below h).cell 1, (HK.out.below h).cell 2⟩
    obtain ⟨k, n, s⟩ := v
    unfold AV.right at hr
    simp only [AV.agg] at HW HAL hr hcell ⊢
    simp only at hf
    unfold prB
    simp only
    by_cases h1 : k = 1
    · subst h1
      rw [if_pos rfl]
      have HP := Lib.hid (fun w => print_any w n hf)
      clear hr hf HK
      go_enter Tryd.func37, Tryd.ntmps37
      go_wp2_with (first
        | (go_at_call 62; refine (HW.out _).mono ?_; clear HW; rintro e w2 ⟨rfl, hb2⟩; obtain ⟨t0, t1, t2⟩ := hcell.out w2 hb2; have HB2 := Lib.hid (HAL.out.trans (hb2.mono HAL.out.size)); clear hb2)
        | (go_at_call 73; refine (HP.out _).mono ?_; clear HP; rintro e w3 ⟨rfl, hb3⟩; have HB3 := Lib.hid (HB2.out.trans (hb3.mono HB2.out.size)); clear hb3))
      go_ret
      exact ⟨rfl, HB3.out⟩
    rw [if_neg h1]
    by_cases h2 : k = 2
    · subst h2
      rw [if_pos rfl]
      simp at hr
      have e39 : (⟨#[39]⟩ : ByteArray).data.toList = [39] := rfl
      have e392 : (⟨#[39, 39]⟩ : ByteArray).data.toList = [39, 39] := rfl
      have HR := Lib.hid (fun (w : World) (h : Mx w) => repl_any w h s ⟨#[39]⟩ ⟨#[39, 39]⟩ (by omega) (by decide) (by decide))
      rw [e39, e392, replaceAll_one 39 [39, 39] (by decide)] at HR
      have hel := (esc_length 39 39 39 s.data.toList).1
      have hsz := size_list s _ rfl
      generalize esc 39 [39, 39] s.data.toList = x at *
      have c1 : (⟨#[39]⟩ : ByteArray) ++ bs x = bs (39 :: x) := bs_append [39] x
      have c2 : bs (39 :: x) ++ (⟨#[39]⟩ : ByteArray) = bs (39 :: (x ++ [39])) := by rw [← List.cons_append]; exact bs_append (39 :: x) [39]
      have l1 : (⟨#[39]⟩ : ByteArray).size = 1 := rfl
      have s1 : (⟨#[39]⟩ : ByteArray).size + (bs x).size ≤ 9223372036854775807 := by rw [l1, bs_size]; omega
      have s2 : (bs (39 :: x)).size + (⟨#[39]⟩ : ByteArray).size ≤ 9223372036854775807 := by rw [l1, bs_size, List.length_cons]; omega
      generalize hS3 : bs (39 :: (x ++ [39])) = S3 at *
      generalize bs (39 :: x) = S2 at *
      generalize bs x = S1 at *
      have HS3 := Lib.hid hS3
      clear hr hf HK h1 e39 e392 hel hsz l1 hS3
      go_enter Tryd.func37, Tryd.ntmps37
      go_wp2_with (first
        | (go_at_call 62; refine (HW.out _).mono ?_; clear HW; rintro e w2 ⟨rfl, hb2⟩; obtain ⟨t0, t1, t2⟩ := hcell.out w2 hb2; have HB2 := Lib.hid (HAL.out.trans (hb2.mono HAL.out.size)); have HM2 := Lib.hid (HM.out.below HB2.out); clear hb2)
        | (go_at_call 71; refine (HR.out _ HM2.out).mono ?_; clear HR; rintro e w3 ⟨rfl, hb3⟩; have HB3 := Lib.hid (HB2.out.trans (hb3.mono HB2.out.size)); clear hb3))
      go_ret
      exact ⟨rfl, HB3.out⟩
    rw [if_neg h2]
    have k1 : (k == 1) = false := by rw [beq_eq_false_iff_ne]; exact h1
    have k2 : (k == 2) = false := by rw [beq_eq_false_iff_ne]; exact h2
    by_cases h3 : n = 1
    · subst h3
      rw [if_pos rfl]
      clear hr hf HK
      go_enter Tryd.func37, Tryd.ntmps37
      go_wp2_with (go_at_call 62; refine (HW.out _).mono ?_; clear HW; rintro e w2 ⟨rfl, hb2⟩; obtain ⟨t0, t1, t2⟩ := hcell.out w2 hb2; have HB2 := Lib.hid (HAL.out.trans (hb2.mono HAL.out.size)); clear hb2)
      go_ret
      exact ⟨rfl, HB2.out⟩
    · rw [if_neg h3]
      have k3 : (n == 1) = false := by rw [beq_eq_false_iff_ne]; exact h3
      clear hr hf HK
      go_enter Tryd.func37, Tryd.ntmps37
      go_wp2_with (go_at_call 62; refine (HW.out _).mono ?_; clear HW; rintro e w2 ⟨rfl, hb2⟩; obtain ⟨t0, t1, t2⟩ := hcell.out w2 hb2; have HB2 := Lib.hid (HAL.out.trans (hb2.mono HAL.out.size)); clear hb2)
      go_ret
      exact ⟨rfl, HB2.out⟩

/-- A row of one's own, in a new block. -/
theorem lit_row (w : World) (l : List AV) (h : l.length ≤ 1000) : Sl (w.alloc (.cells (rowCells l).toArray 27)) (fun _ => True) 3 (.slice (some ⟨w.heap.size, 0, none⟩) l.length l.length) l.length (rowCells l) := by
  have h1 : Ones (rowCells l) := by
    intro u hu
    obtain ⟨c, hc, huc⟩ := List.mem_flatten.1 hu
    obtain ⟨a, _, rfl⟩ := List.mem_map.1 hc
    simp [AV.cells] at huc
    rcases huc with rfl | rfl | rfl <;> rfl
  have := Own.made w 27 3 (rowCells l) [] l.length l.length (rowCells_length l) h1 (Nat.le_refl _) (by unfold maxLen; omega) (by rw [List.append_nil, rowCells_length]; exact Nat.le_refl _)
  rw [List.append_nil] at this
  exact this.sl (fun _ _ => trivial)

theorem nil_right : (⟨#[]⟩ : ByteArray).toList.isEmpty = true := toList_list _ [] rfl
theorem pr_its : printV ⟨2, 0, ⟨#[105, 116, 39, 115]⟩⟩ = [39, 105, 116, 39, 39, 115, 39] := by
  have h : AV.right ⟨2, 0, ⟨#[105, 116, 39, 115]⟩⟩ = true := by unfold AV.right; simp only; rfl
  unfold printV
  rw [h]; rfl
theorem pr_true : printV ⟨3, 1, ⟨#[]⟩⟩ = [116, 114, 117, 101] := by
  have h : AV.right ⟨3, 1, ⟨#[]⟩⟩ = true := by unfold AV.right; simp only; rw [nil_right]; rfl
  unfold printV
  rw [h]; rfl
theorem key_one : rowKey [⟨1, 1, ⟨#[]⟩⟩, ⟨2, 0, ⟨#[97]⟩⟩] = [1, 128, 0, 0, 0, 0, 0, 0, 1, 2, 97, 0, 1] := by
  have h : rightAll [⟨1, 1, ⟨#[]⟩⟩, ⟨2, 0, ⟨#[97]⟩⟩] = true := by
    unfold rightAll AV.right
    simp only [List.all_cons, List.all_nil]
    rw [nil_right]; rfl
  unfold rowKey
  rw [h]; rfl
theorem int_val (w : World) (n : Int) : Calls Tryd.prog 21 #[.int .i64 n] w fun e w' => e = .returned (.agg #[.int .i64 1, .int .i64 n, .string ⟨#[]⟩]) ∧ Below w.heap.size w w' := by
  go_enter Tryd.func21, Tryd.ntmps21
  go_wp2
  refine bodyPost_ret (v := .agg #[.int .i64 1, .int .i64 n, .string ⟨#[]⟩]) (by simp [results, Tryd.results21, go_sem]) rfl ⟨rfl, ?_⟩
  repeat (with_reducible first | exact Below.refl _ _ | apply Below.drew | (refine Below.alloc ?_ (by first | omega | (simp; omega) | simp) _) | (refine Below.setCell ?_ (by first | omega | (simp; omega) | simp) _))
theorem text_val (w : World) (s : ByteArray) : Calls Tryd.prog 22 #[.string s] w fun e w' => e = .returned (.agg #[.int .i64 2, .int .i64 0, .string s]) ∧ Below w.heap.size w w' := by
  go_enter Tryd.func22, Tryd.ntmps22
  go_wp2
  refine bodyPost_ret (v := .agg #[.int .i64 2, .int .i64 0, .string s]) (by simp [results, Tryd.results22, go_sem]) rfl ⟨rfl, ?_⟩
  repeat (with_reducible first | exact Below.refl _ _ | apply Below.drew | (refine Below.alloc ?_ (by first | omega | (simp; omega) | simp) _) | (refine Below.setCell ?_ (by first | omega | (simp; omega) | simp) _))
theorem bool_val (w : World) (b : Bool) : Calls Tryd.prog 23 #[.bool b] w fun e w' => e = .returned (.agg #[.int .i64 3, .int .i64 (if b then 1 else 0), .string ⟨#[]⟩]) ∧ Below w.heap.size w w' := by
  cases b
  · go_enter Tryd.func23, Tryd.ntmps23
    go_wp2
    refine bodyPost_ret (v := .agg #[.int .i64 3, .int .i64 0, .string ⟨#[]⟩]) (by simp [results, Tryd.results23, go_sem]) rfl ⟨rfl, ?_⟩
    repeat (with_reducible first | exact Below.refl _ _ | apply Below.drew | (refine Below.alloc ?_ (by first | omega | (simp; omega) | simp) _) | (refine Below.setCell ?_ (by first | omega | (simp; omega) | simp) _))
  · go_enter Tryd.func23, Tryd.ntmps23
    go_wp2
    refine bodyPost_ret (v := .agg #[.int .i64 3, .int .i64 1, .string ⟨#[]⟩]) (by simp [results, Tryd.results23, go_sem]) rfl ⟨rfl, ?_⟩
    repeat (with_reducible first | exact Below.refl _ _ | apply Below.drew | (refine Below.alloc ?_ (by first | omega | (simp; omega) | simp) _) | (refine Below.setCell ?_ (by first | omega | (simp; omega) | simp) _))
theorem bs_toList (l : List UInt8) : (bs l).toList = l := by rw [ByteArray.toList_eq, bs_data]

set_option maxRecDepth 100000 in
theorem vawake (w : World) (hm : Mx w) : Calls Tryd.prog 14 #[] w fun e w' => e = .returned (.bool true) ∧ Below w.heap.size w w' := by
  have HM := Lib.hid hm
  have hk := fun (w : World) (h : Mx w) => key_any (w.alloc (.cells (rowCells [⟨1, 1, ⟨#[]⟩⟩, ⟨2, 0, ⟨#[97]⟩⟩]).toArray 27)) (h.below ((Below.refl _ _).alloc (Nat.le_refl _) _)) _ _ [⟨1, 1, ⟨#[]⟩⟩, ⟨2, 0, ⟨#[97]⟩⟩] (lit_row w _ (by decide)) (by simp [fit64]) (by decide)
  rw [key_one] at hk
  have h1 := fun (w : World) (h : Mx w) => print_val w h ⟨2, 0, ⟨#[105, 116, 39, 115]⟩⟩ (by simp [fit64])
  rw [pr_its] at h1
  have h2 := fun (w : World) (h : Mx w) => print_val w h ⟨3, 1, ⟨#[]⟩⟩ (by simp [fit64])
  rw [pr_true] at h2
  have HK := Lib.hid hk
  have H1 := Lib.hid h1
  have H2 := Lib.hid h2
  clear hm hk h1 h2
  have HI := Lib.hid (fun w => int_val w 1)
  have HT1 := Lib.hid (fun w => text_val w ⟨#[97]⟩)
  have HT2 := Lib.hid (fun w => text_val w ⟨#[105, 116, 39, 115]⟩)
  have HBo := Lib.hid (fun w => bool_val w true)
  rw [if_pos rfl] at HBo
  have k1 : ((bs [1, 128, 0, 0, 0, 0, 0, 0, 1, 2, 97, 0, 1]).toList == [1, 128, 0, 0, 0, 0, 0, 0, 1, 2, 97, 0, 1]) = true := by rw [bs_toList]; decide
  have k2 : ((bs [39, 105, 116, 39, 39, 115, 39]).toList == [39, 105, 116, 39, 39, 115, 39]) = true := by rw [bs_toList]; decide
  have k3 : ((bs [116, 114, 117, 101]).toList == [116, 114, 117, 101]) = true := by rw [bs_toList]; decide
  go_enter Tryd.func14, Tryd.ntmps14
  go_wp2_with fail
  refine (HI.out _).mono ?_
  rintro e w1 ⟨rfl, hb1⟩
  have HB1 := Lib.hid hb1
  clear hb1 HI
  go_wp2_with fail
  refine (HT1.out _).mono ?_
  rintro e w2 ⟨rfl, hb2⟩
  have HB2 := Lib.hid (HB1.out.trans (hb2.mono HB1.out.size))
  clear hb2 HT1
  go_wp2_with fail
  refine (HK.out _ (HM.out.below HB2.out)).mono ?_
  rintro e w3 ⟨rfl, hb3⟩
  have hz := HB2.out.alloc HB2.out.size (.cells (rowCells [⟨1, 1, ⟨#[]⟩⟩, ⟨2, 0, ⟨#[97]⟩⟩]).toArray 27)
  have HB3 := Lib.hid (hz.trans (hb3.mono hz.size))
  clear hb3 HK hz
  go_wp2_with fail
  refine (HT2.out _).mono ?_
  rintro e w4 ⟨rfl, hb4⟩
  have HB4 := Lib.hid (HB3.out.trans (hb4.mono HB3.out.size))
  clear hb4 HT2
  go_wp2_with fail
  refine (H1.out _ (HM.out.below HB4.out)).mono ?_
  rintro e w5 ⟨rfl, hb5⟩
  have HB5 := Lib.hid (HB4.out.trans (hb5.mono HB4.out.size))
  clear hb5 H1
  go_wp2_with fail
  refine (HBo.out _).mono ?_
  rintro e w6 ⟨rfl, hb6⟩
  have HB6 := Lib.hid (HB5.out.trans (hb6.mono HB5.out.size))
  clear hb6 HBo
  go_wp2_with fail
  refine (H2.out _ (HM.out.below HB6.out)).mono ?_
  rintro e w7 ⟨rfl, hb7⟩
  have HB7 := Lib.hid (HB6.out.trans (hb7.mono HB6.out.size))
  clear hb7 H2
  go_wp2
  go_ret
  exact ⟨rfl, HB7.out⟩
end Go.Proofs.YtlgohkdckdnmhaaDoor
