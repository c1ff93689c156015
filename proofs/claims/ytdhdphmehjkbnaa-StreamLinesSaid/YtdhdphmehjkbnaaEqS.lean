/- Rows among rows compared, batches compared. -/
import Derived.Test.YtdhdphmehjkbnaaEqR
import Derived.Test.YtdhdphmehjkbnaaStO
namespace Go.Proofs.Ytdhdphmehjkbnaa
open Go.RowKit Go.Afx

def rowsAt (a b : List (List AV)) (i : Nat) : Bool := match a[i]?, b[i]? with
  | some x, some y => rowEq x y
  | _, _ => false
def rowsEq (a b : List (List AV)) : Bool := decide (a.length = b.length) && (List.range a.length).all (rowsAt a b)
theorem rowsAt_eq (a b : List RowV) (k : Nat) (h1 : k < a.length) (h2 : k < b.length) : rowsAt (a.map RowV.l) (b.map RowV.l) k = rowEq a[k].l b[k].l := by
  unfold rowsAt
  rw [List.getElem?_map, List.getElem?_map, List.getElem?_eq_getElem h1, List.getElem?_eq_getElem h2]
  rfl
theorem rowsEq_self (a : List (List AV)) : rowsEq a a = true := by
  unfold rowsEq
  rw [Bool.and_eq_true, List.all_eq_true]
  refine ⟨decide_eq_true rfl, fun k hk => ?_⟩
  have hk2 : k < a.length := by simpa using hk
  unfold rowsAt
  rw [List.getElem?_eq_getElem hk2]
  exact rowEq_self _

theorem eq_fun (w : World) (B B' : Nat → Prop) (v v' : Value) (l l' : List AV) (h : Sl w B 3 v l.length (rowCells l)) (h' : Sl w B' 3 v' l'.length (rowCells l')) :
    Calls Try.prog 69 #[v, v'] w fun e w' => e = .returned (.bool (rowEq l l')) ∧ Below w.heap.size w w' := by
  have HE := Lib.hid (eq_vals w B B' v v' l l' h h')
  obtain ⟨p, cap, rfl, hc1, hc2⟩ := h.form
  obtain ⟨p', cap', rfl, hc1', hc2'⟩ := h'.form
  clear h h'
  generalize rowEq l l' = r at *
  go_enter Try.func69, Try.ntmps69
  go_wp2_with (go_at_call 70; refine HE.out.mono ?_; clear HE; rintro e w2 ⟨rfl, hb2⟩)
  go_ret
  exact ⟨rfl, hb2⟩

set_option maxRecDepth 100000 in
theorem same_rowsG (w : World) (B B' : Nat → Prop) (v v' : Value) (rows rows' : List RowV) (h : RowsAt w B v rows) (h' : RowsAt w B' v' rows') :
    Calls Try.prog 49 #[v, v'] w fun e w' => e = .returned (.bool (rowsEq (rows.map RowV.l) (rows'.map RowV.l))) ∧ Below w.heap.size w w' := by
  have HE : Hid (rowsEq (rows.map RowV.l) (rows'.map RowV.l) = (decide (rows.length = rows'.length) && (List.range rows.length).all (rowsAt (rows.map RowV.l) (rows'.map RowV.l)))) := by
    show _ = _
    unfold rowsEq
    rw [List.length_map, List.length_map]
  generalize rowsEq (rows.map RowV.l) (rows'.map RowV.l) = out at *
  obtain ⟨p, cap, rfl, hc1, hc2⟩ := h.1.form
  obtain ⟨p', cap', rfl, hc1', hc2'⟩ := h'.1.form
  have H := Lib.hid h
  have H' := Lib.hid h'
  clear h h'
  by_cases hl : rows'.length = rows.length
  · have HL := Lib.hid hl
    rw [decide_eq_true hl.symm, Bool.true_and] at HE
    rw [hl] at hc1'
    have H2 : Hid (∀ W, Below w.heap.size w W → RowsAt W B' (.slice p' rows'.length cap') rows') := fun W hb => H'.out.below hb
    rw [hl]
    clear hl
    go_enter Try.func49, Try.ntmps49
    go_wp2
    go_loopw [5] (fun i wr => ∃ k : Nat, i = .int .i64 k ∧ k ≤ rows.length ∧ ((List.range rows.length).take k).all (rowsAt (rows.map RowV.l) (rows'.map RowV.l)) = true ∧ Below w.heap.size w wr) (fun i _ => rows.length - (intOf i).toNat)
    case atStart => exact ⟨0, rfl, Nat.zero_le _, rfl, Below.refl _ _⟩
    case round =>
      obtain ⟨k, rfl, hk, ha, hb⟩ := hrel
      have HB := Lib.hid hb
      have HA := Lib.hid ha
      clear ha
      by_cases hka : k < rows.length
      · have hka' : k < rows'.length := by rw [HL.out]; exact hka
        obtain ⟨g, off, cap1, hv, hck⟩ := (H.out.below hb).at hka
        obtain ⟨g', off', cap1', hv', hck'⟩ := (H2.out wr hb).at hka'
        have hr := (H.out.below hb).2 rows[k] (List.getElem_mem hka)
        have hr' := (H2.out wr hb).2 rows'[k] (List.getElem_mem hka')
        have HX := Lib.hid (range_next _ rows.length k hka HA.out)
        have HY := Lib.hid (range_not (rowsAt (rows.map RowV.l) (rows'.map RowV.l)) rows.length k hka)
        rw [rowsAt_eq rows rows' k hka hka'] at HX HY
        cases hv
        cases hv'
        generalize rows[k] = x at *
        generalize rows'[k] = x' at *
        obtain ⟨xv, xl⟩ := x
        obtain ⟨xv', xl'⟩ := x'
        simp only at hr hr' hck hck' HX HY
        have HS := Lib.hid (same_rowG wr.drew _ _ xv xv' xl xl' hr.drew hr'.drew)
        have hbd : Below w.heap.size w wr.drew := HB.out.drew
        have HBD := Lib.hid hbd
        clear hr hr' hb hbd
        generalize rowEq xl xl' = r at *
        cases r
        · have HF := Lib.hid (HY.out rfl)
          clear HX HY
          go_wp2
          refine wp_region_lit_plan [] [(0, 0), (1, 0), (2, 0), (4, 0), (5, 0), (6, 0), (3, 1), (7, 1), (8, 4), (9, 0)] (fun _ => False) (by kernel_rfl) (by kernel_rfl) (fun c a d v w h => by cases d <;> exact h) ?_
          go_wp2_with (first
            | (refine plan_pure (v := _) (by rfl) (by rfl) (by rfl) (by intro _; go_simp; with_reducible rfl) ?_; simp only [List.setIfInBounds_toArray, List.set_cons_zero, List.set_cons_succ]; try go_bits) | (refine plan_read (v := _) (by rfl) (by rfl) (by rfl) (by go_simp; with_reducible rfl) ?_; simp only [List.setIfInBounds_toArray, List.set_cons_zero, List.set_cons_succ]; try go_bits) | (refine plan_readB (v := _) (by rfl) (by rfl) (by rfl) (by intro _ hag; unfold Agree at hag; go_simp; with_reducible rfl) ?_; simp only [List.setIfInBounds_toArray, List.set_cons_zero, List.set_cons_succ]; try go_bits) | (refine plan_skip0 (by rfl) (by rfl) (by rfl) ?_; simp only [List.setIfInBounds_toArray, List.set_cons_zero, List.set_cons_succ]; try go_bits) | (refine plan_skip1 (by rfl) (by rfl) (by rfl) ?_; simp only [List.setIfInBounds_toArray, List.set_cons_zero, List.set_cons_succ]; try go_bits) | (refine plan_skip2 (by rfl) (by rfl) (by rfl) ?_; simp only [List.setIfInBounds_toArray, List.set_cons_zero, List.set_cons_succ]; try go_bits) | (refine plan_skip4 (by rfl) (by rfl) (by rfl) ?_; simp only [List.setIfInBounds_toArray, List.set_cons_zero, List.set_cons_succ]; try go_bits) | (refine plan_any (by rfl) ?_) | (refine plan_keep (by rfl) ?_) | (refine plan_nil ?_) | (with_reducible refine And.intro (by first | assumption | exact Agree.refl _ _ | exact agree_drew _ _ | exact agree_alloc _ (by intro k hk; subst hk; first | omega | (simp; omega))) ?_) | (unfold Act.put; simp only [List.setIfInBounds_toArray, List.set_cons_zero, List.set_cons_succ])
            | (go_at_call 84; refine HS.out.mono ?_; clear HS; rintro e w2 ⟨rfl, hb2⟩))
          go_ret
          exact ⟨by rw [HE.out, HF.out]; rfl, HBD.out.trans (hb2.mono HBD.out.size)⟩
        · have HF := Lib.hid (HX.out rfl)
          clear HX HY
          go_wp2
          refine wp_region_lit_plan [] [(0, 0), (1, 0), (2, 0), (4, 0), (5, 0), (6, 0), (3, 1), (7, 1), (8, 4), (9, 0)] (fun _ => False) (by kernel_rfl) (by kernel_rfl) (fun c a d v w h => by cases d <;> exact h) ?_
          go_wp2_with (first
            | (refine plan_pure (v := _) (by rfl) (by rfl) (by rfl) (by intro _; go_simp; with_reducible rfl) ?_; simp only [List.setIfInBounds_toArray, List.set_cons_zero, List.set_cons_succ]; try go_bits) | (refine plan_read (v := _) (by rfl) (by rfl) (by rfl) (by go_simp; with_reducible rfl) ?_; simp only [List.setIfInBounds_toArray, List.set_cons_zero, List.set_cons_succ]; try go_bits) | (refine plan_readB (v := _) (by rfl) (by rfl) (by rfl) (by intro _ hag; unfold Agree at hag; go_simp; with_reducible rfl) ?_; simp only [List.setIfInBounds_toArray, List.set_cons_zero, List.set_cons_succ]; try go_bits) | (refine plan_skip0 (by rfl) (by rfl) (by rfl) ?_; simp only [List.setIfInBounds_toArray, List.set_cons_zero, List.set_cons_succ]; try go_bits) | (refine plan_skip1 (by rfl) (by rfl) (by rfl) ?_; simp only [List.setIfInBounds_toArray, List.set_cons_zero, List.set_cons_succ]; try go_bits) | (refine plan_skip2 (by rfl) (by rfl) (by rfl) ?_; simp only [List.setIfInBounds_toArray, List.set_cons_zero, List.set_cons_succ]; try go_bits) | (refine plan_skip4 (by rfl) (by rfl) (by rfl) ?_; simp only [List.setIfInBounds_toArray, List.set_cons_zero, List.set_cons_succ]; try go_bits) | (refine plan_any (by rfl) ?_) | (refine plan_keep (by rfl) ?_) | (refine plan_nil ?_) | (with_reducible refine And.intro (by first | assumption | exact Agree.refl _ _ | exact agree_drew _ _ | exact agree_alloc _ (by intro k hk; subst hk; first | omega | (simp; omega))) ?_) | (unfold Act.put; simp only [List.setIfInBounds_toArray, List.set_cons_zero, List.set_cons_succ])
            | (go_at_call 84; refine HS.out.mono ?_; clear HS; rintro e w2 ⟨rfl, hb2⟩))
          exact ⟨⟨k + 1, by go_num, by omega, HF.out, HBD.out.trans (hb2.mono HBD.out.size)⟩, by (simp [intOf]) <;> omega⟩
      · obtain rfl : k = rows.length := by omega
        have e5 : out = true := by rw [HE.out]; exact range_all _ _ HA.out
        have E5 := Lib.hid e5
        clear hb e5
        go_wp2
        go_ret
        exact ⟨by rw [E5.out]; rfl, HB.out⟩
  · rw [decide_eq_false (fun e => hl e.symm)] at HE
    have d1 : ((rows.length : Int) == (rows'.length : Int)) = false := beq_eq_false_iff_ne.2 (by omega)
    have d2 : ((rows.length : Int) != (rows'.length : Int)) = true := bne_iff_ne.2 (by omega)
    go_enter Try.func49, Try.ntmps49
    go_wp2
    go_ret
    exact ⟨by rw [HE.out]; rfl, Below.refl _ _⟩

set_option maxRecDepth 100000 in
theorem eq_func (w : World) (B B' : Nat → Prop) (v v' : Value) (rows rows' : List RowV) (h : RowsAt w B v rows) (h' : RowsAt w B' v' rows') :
    Calls Try.prog 68 #[v, v', .func (.func 69) #[] #[]] w fun e w' => e = .returned (.bool (rowsEq (rows.map RowV.l) (rows'.map RowV.l))) ∧ Below w.heap.size w w' := by
  have HE : Hid (rowsEq (rows.map RowV.l) (rows'.map RowV.l) = (decide (rows.length = rows'.length) && (List.range rows.length).all (rowsAt (rows.map RowV.l) (rows'.map RowV.l)))) := by
    show _ = _
    unfold rowsEq
    rw [List.length_map, List.length_map]
  generalize rowsEq (rows.map RowV.l) (rows'.map RowV.l) = out at *
  obtain ⟨p, cap, rfl, hc1, hc2⟩ := h.1.form
  obtain ⟨p', cap', rfl, hc1', hc2'⟩ := h'.1.form
  have H := Lib.hid h
  have H' := Lib.hid h'
  clear h h'
  by_cases hl : rows'.length = rows.length
  · have HL := Lib.hid hl
    rw [decide_eq_true hl.symm, Bool.true_and] at HE
    rw [hl] at hc1'
    have H2 : Hid (∀ W, Below w.heap.size w W → RowsAt W B' (.slice p' rows'.length cap') rows') := fun W hb => H'.out.below hb
    rw [hl]
    clear hl
    go_enter Try.func68, Try.ntmps68
    go_wp2
    go_loopw [17] (fun i wr => ∃ k : Nat, i = .int .i64 k ∧ k ≤ rows.length ∧ ((List.range rows.length).take k).all (rowsAt (rows.map RowV.l) (rows'.map RowV.l)) = true ∧ Below w.heap.size w wr) (fun i _ => rows.length - (intOf i).toNat)
    case atStart => exact ⟨0, rfl, Nat.zero_le _, rfl, Below.refl _ _⟩
    case round =>
      obtain ⟨k, rfl, hk, ha, hb⟩ := hrel
      have HB := Lib.hid hb
      have HA := Lib.hid ha
      clear ha
      by_cases hka : k < rows.length
      · have hka' : k < rows'.length := by rw [HL.out]; exact hka
        obtain ⟨g, off, cap1, hv, hck⟩ := (H.out.below hb).at hka
        obtain ⟨g', off', cap1', hv', hck'⟩ := (H2.out wr hb).at hka'
        have hr := (H.out.below hb).2 rows[k] (List.getElem_mem hka)
        have hr' := (H2.out wr hb).2 rows'[k] (List.getElem_mem hka')
        have HX := Lib.hid (range_next _ rows.length k hka HA.out)
        have HY := Lib.hid (range_not (rowsAt (rows.map RowV.l) (rows'.map RowV.l)) rows.length k hka)
        rw [rowsAt_eq rows rows' k hka hka'] at HX HY
        cases hv
        cases hv'
        generalize rows[k] = x at *
        generalize rows'[k] = x' at *
        obtain ⟨xv, xl⟩ := x
        obtain ⟨xv', xl'⟩ := x'
        simp only at hr hr' hck hck' HX HY
        have HS := Lib.hid (eq_fun wr _ _ xv xv' xl xl' hr hr')
        clear hr hr' hb
        generalize rowEq xl xl' = r at *
        cases r
        · have HF := Lib.hid (HY.out rfl)
          clear HX HY
          go_wp2_with (go_at_call 69; refine HS.out.mono ?_; clear HS; rintro e w2 ⟨rfl, hb2⟩)
          go_ret
          exact ⟨by rw [HE.out, HF.out]; rfl, HB.out.trans (hb2.mono HB.out.size)⟩
        · have HF := Lib.hid (HX.out rfl)
          clear HX HY
          go_wp2_with (go_at_call 69; refine HS.out.mono ?_; clear HS; rintro e w2 ⟨rfl, hb2⟩)
          go_roundw
          case rel => exact ⟨k + 1, by go_num, by omega, HF.out, HB.out.trans (hb2.mono HB.out.size)⟩
          case measure => (simp [intOf]) <;> omega
      · obtain rfl : k = rows.length := by omega
        have e5 : out = true := by rw [HE.out]; exact range_all _ _ HA.out
        have E5 := Lib.hid e5
        clear hb e5
        go_wp2
        go_ret
        exact ⟨by rw [E5.out]; rfl, HB.out⟩
  · rw [decide_eq_false (fun e => hl e.symm)] at HE
    have d1 : ((rows.length : Int) == (rows'.length : Int)) = false := beq_eq_false_iff_ne.2 (by omega)
    have d2 : ((rows.length : Int) != (rows'.length : Int)) = true := bne_iff_ne.2 (by omega)
    go_enter Try.func68, Try.ntmps68
    go_wp2
    go_ret
    exact ⟨by rw [HE.out]; rfl, Below.refl _ _⟩

def batEq (a b : BatV) : Bool := (a.id == b.id) && rowsEq (a.rows.map RowV.l) (b.rows.map RowV.l)
theorem batEq_self (a : BatV) : batEq a a = true := by unfold batEq; rw [rowsEq_self]; simp
set_option maxRecDepth 100000 in
theorem lawsame_any (w : World) (B B' : Nat → Prop) (a b : BatV) (h : RowsAt w B a.v a.rows) (h' : RowsAt w B' b.v b.rows) :
    Calls Try.prog 24 #[a.agg, b.agg] w fun e w' => e = .returned (.bool (batEq a b)) ∧ Below w.heap.size w w' := by
  obtain ⟨id, v, rows⟩ := a
  obtain ⟨id', v', rows'⟩ := b
  simp only [BatV.agg] at *
  obtain ⟨p, cap, rfl, hc1, hc2⟩ := h.1.form
  obtain ⟨p', cap', rfl, hc1', hc2'⟩ := h'.1.form
  have hal : Below w.heap.size w ((w.alloc (.cells #[.int .i64 id, .slice p rows.length cap] 38)).alloc (.cells #[.int .i64 id', .slice p' rows'.length cap'] 38)) := ((Below.refl _ _).alloc (Nat.le_refl _) _).alloc (by simp) _
  have HS := Lib.hid (same_rowsG _ B B' _ _ rows rows' (h.below hal) (h'.below hal))
  have HAL := Lib.hid hal
  have HBE : Hid (batEq ⟨id, .slice p rows.length cap, rows⟩ ⟨id', .slice p' rows'.length cap', rows'⟩ = ((id == id') && rowsEq (rows.map RowV.l) (rows'.map RowV.l))) := rfl
  generalize batEq ⟨id, .slice p rows.length cap, rows⟩ ⟨id', .slice p' rows'.length cap', rows'⟩ = out at *
  generalize rowsEq (rows.map RowV.l) (rows'.map RowV.l) = r at *
  clear h h' hal
  cases hid : (id == id')
  all_goals
    rw [hid] at HBE
    go_enter Try.func24, Try.ntmps24
    go_wp2_with (go_at_call 49; refine HS.out.mono ?_; clear HS; rintro e w2 ⟨rfl, hb2⟩)
    go_ret
  · exact ⟨by rw [HBE.out]; rfl, HAL.out⟩
  · exact ⟨by rw [HBE.out]; rfl, HAL.out.trans (hb2.mono HAL.out.size)⟩
set_option maxRecDepth 100000 in
theorem stsame_any (w : World) (B B' : Nat → Prop) (a b : BatV) (h : RowsAt w B a.v a.rows) (h' : RowsAt w B' b.v b.rows) :
    Calls Try.prog 23 #[a.agg, b.agg] w fun e w' => e = .returned (.bool (batEq a b)) ∧ Below w.heap.size w w' := by
  obtain ⟨id, v, rows⟩ := a
  obtain ⟨id', v', rows'⟩ := b
  simp only [BatV.agg] at *
  obtain ⟨p, cap, rfl, hc1, hc2⟩ := h.1.form
  obtain ⟨p', cap', rfl, hc1', hc2'⟩ := h'.1.form
  have hal : Below w.heap.size w ((w.alloc (.cells #[.int .i64 id, .slice p rows.length cap] 38)).alloc (.cells #[.int .i64 id', .slice p' rows'.length cap'] 38)) := ((Below.refl _ _).alloc (Nat.le_refl _) _).alloc (by simp) _
  have HS := Lib.hid (eq_func _ B B' _ _ rows rows' (h.below hal) (h'.below hal))
  have HAL := Lib.hid hal
  have HBE : Hid (batEq ⟨id, .slice p rows.length cap, rows⟩ ⟨id', .slice p' rows'.length cap', rows'⟩ = ((id == id') && rowsEq (rows.map RowV.l) (rows'.map RowV.l))) := rfl
  generalize batEq ⟨id, .slice p rows.length cap, rows⟩ ⟨id', .slice p' rows'.length cap', rows'⟩ = out at *
  generalize rowsEq (rows.map RowV.l) (rows'.map RowV.l) = r at *
  clear h h' hal
  cases hid : (id == id')
  all_goals
    rw [hid] at HBE
    go_enter Try.func23, Try.ntmps23
    go_wp2_with (go_at_call 68; refine HS.out.mono ?_; clear HS; rintro e w2 ⟨rfl, hb2⟩)
    go_ret
  · exact ⟨by rw [HBE.out]; rfl, HAL.out⟩
  · exact ⟨by rw [HBE.out]; rfl, HAL.out.trans (hb2.mono HAL.out.size)⟩
end Go.Proofs.Ytdhdphmehjkbnaa
