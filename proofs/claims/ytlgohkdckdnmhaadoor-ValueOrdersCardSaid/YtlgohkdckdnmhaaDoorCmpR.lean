/- Which of two stands first: the document's. -/
import Derived.Test.YtlgohkdckdnmhaaDoorCmp
namespace Go.Proofs.YtlgohkdckdnmhaaDoor
open Go.RowKit Go.Afx

def lessV (a b : AV) : Bool := if a.kind != b.kind then decide (a.kind < b.kind) else if a.n != b.n then decide (a.n < b.n) else Op.bytesLess a.s.toList b.s.toList
theorem cmpL_less (x y : List UInt8) : cmpL x y = if Op.bytesLess x y = true then -1 else if Op.bytesLess y x = true then 1 else 0 := by
  unfold cmpL
  cases h : Op.bytesLess x y
  · cases k : Op.bytesLess y x
    · rw [less_total x y h k]; simp
    · have : (x == y) = false := by
        rw [beq_eq_false_iff_ne]
        intro e
        subst e
        rw [less_irrefl] at k; cases k
      rw [this]; rfl
  · rfl
theorem cmpV_less (a b : AV) : cmpV a b = if lessV a b = true then -1 else if lessV b a = true then 1 else 0 := by
  obtain ⟨ka, na, sa⟩ := a
  obtain ⟨kb, nb, sb⟩ := b
  unfold cmpV lessV cmpI
  simp only
  by_cases h1 : ka = kb
  · subst h1
    have e1 : (ka != ka) = false := by simp
    rw [e1]
    simp only [Int.lt_irrefl, if_false, ne_eq, not_true_eq_false, Bool.false_eq_true]
    by_cases h2 : na = nb
    · subst h2
      have e2 : (na != na) = false := by simp
      rw [e2]
      simp only [Int.lt_irrefl, if_false, not_true_eq_false, Bool.false_eq_true]
      exact cmpL_less _ _
    · have e2 : (na != nb) = true := by simpa using h2
      have e3 : (nb != na) = true := by simpa using fun e => h2 e.symm
      rw [e2, e3]
      by_cases h3 : na < nb
      · simp [h3]
      · have h4 : nb < na := by omega
        simp [h3, h4]
  · have e2 : (ka != kb) = true := by simpa using h1
    have e3 : (kb != ka) = true := by simpa using fun e => h1 e.symm
    rw [e2, e3]
    by_cases h3 : ka < kb
    · simp [h3]
    · have h4 : kb < ka := by omega
      simp [h3, h4]

set_option maxRecDepth 100000 in
theorem refless (w : World) (a b : AV) : Calls Tryd.prog 60 #[a.agg, b.agg] w fun e w' => e = .returned (.bool (lessV a b)) ∧ Below w.heap.size w w' := by
  obtain ⟨ka, na, sa⟩ := a
  obtain ⟨kb, nb, sb⟩ := b
  have hc : lessV ⟨ka, na, sa⟩ ⟨kb, nb, sb⟩ = if ka != kb then decide (ka < kb) else if na != nb then decide (na < nb) else Op.bytesLess sa.toList sb.toList := rfl
  rw [hc]
  clear hc
  simp only [AV.agg]
  cases h1 : (ka != kb)
  · cases h2 : (na != nb)
    all_goals
      go_enter Tryd.func60, Tryd.ntmps60
      go_wp2
      go_ret
      refine ⟨rfl, ?_⟩
      repeat (with_reducible first | exact Below.refl _ _ | apply Below.drew | (refine Below.alloc ?_ (by first | omega | (simp; omega) | simp) _) | (refine Below.setCell ?_ (by first | omega | (simp; omega) | simp) _))
  · go_enter Tryd.func60, Tryd.ntmps60
    go_wp2
    go_ret
    refine ⟨rfl, ?_⟩
    repeat (with_reducible first | exact Below.refl _ _ | apply Below.drew | (refine Below.alloc ?_ (by first | omega | (simp; omega) | simp) _) | (refine Below.setCell ?_ (by first | omega | (simp; omega) | simp) _))

set_option maxRecDepth 100000 in
theorem refcmp (w : World) (a b : AV) : Calls Tryd.prog 16 #[a.agg, b.agg] w fun e w' => e = .returned (.int .i64 (cmpV a b)) ∧ Below w.heap.size w w' := by
  have HC := Lib.hid (cmpV_less a b)
  have H1 := Lib.hid (fun w => refless w a b)
  have H2 := Lib.hid (fun w => refless w b a)
  have hz := (Below.refl w.heap.size w).alloc (Nat.le_refl _) (.cells #[.int .i64 a.kind, .int .i64 a.n, .string a.s] 27)
  have hal := hz.alloc hz.size (.cells #[.int .i64 b.kind, .int .i64 b.n, .string b.s] 27)
  have hsz : (w.alloc (.cells #[.int .i64 a.kind, .int .i64 a.n, .string a.s] 27)).heap.size = w.heap.size + 1 := by simp
  have hk1 := (Blk.new w 27 a.cells).alloc (.cells #[.int .i64 b.kind, .int .i64 b.n, .string b.s] 27)
  have hk2 := Blk.new (w.alloc (.cells #[.int .i64 a.kind, .int .i64 a.n, .string a.s] 27)) 27 b.cells
  rw [hsz] at hk2
  have hk1' : Blk ((w.alloc (.cells #[.int .i64 a.kind, .int .i64 a.n, .string a.s] 27)).alloc (.cells #[.int .i64 b.kind, .int .i64 b.n, .string b.s] 27)) w.heap.size 27 a.cells := hk1
  have hk2' : Blk ((w.alloc (.cells #[.int .i64 a.kind, .int .i64 a.n, .string a.s] 27)).alloc (.cells #[.int .i64 b.kind, .int .i64 b.n, .string b.s] 27)) (w.heap.size + 1) 27 b.cells := hk2
  have HK1 := Lib.hid hk1'
  have HK2 := Lib.hid hk2'
  have HAL := Lib.hid hal
  clear hz hal hsz hk1 hk2 hk1' hk2'
  simp only [AV.agg] at H1 H2 ⊢
  generalize cmpV a b = c at *
  cases h1 : lessV a b
  · rw [h1] at H1 HC
    rw [if_neg (by decide)] at HC
    cases h2 : lessV b a
    all_goals
      rw [h2] at H2 HC
      clear h1 h2
      go_enter Tryd.func16, Tryd.ntmps16
      go_wp2_with fail
      refine (H1.out _).mono ?_
      rintro e w2 ⟨rfl, hb2⟩
      have HB2 := Lib.hid (HAL.out.trans (hb2.mono HAL.out.size))
      have hq1 := HK1.out.below hb2
      have hq2 := HK2.out.below hb2
      have a0 : w2.cell? ⟨w.heap.size, 0, none⟩ = some (.int .i64 a.kind) := hq1.cell 0
      have a1 : w2.cell? ⟨w.heap.size, 1, none⟩ = some (.int .i64 a.n) := hq1.cell 1
      have a2 : w2.cell? ⟨w.heap.size, 2, none⟩ = some (.string a.s) := hq1.cell 2
      have b0 : w2.cell? ⟨w.heap.size + 1, 0, none⟩ = some (.int .i64 b.kind) := hq2.cell 0
      have b1 : w2.cell? ⟨w.heap.size + 1, 1, none⟩ = some (.int .i64 b.n) := hq2.cell 1
      have b2 : w2.cell? ⟨w.heap.size + 1, 2, none⟩ = some (.string b.s) := hq2.cell 2
      clear hb2 hq1 hq2
      go_wp2_with fail
      refine (H2.out _).mono ?_
      rintro e w3 ⟨rfl, hb3⟩
      have HB3 := Lib.hid (HB2.out.trans (hb3.mono HB2.out.size))
      clear hb3
      go_wp2
      go_ret
      exact ⟨by rw [HC.out]; rfl, HB3.out⟩
  · rw [h1] at H1 HC
    rw [if_pos rfl] at HC
    clear h1
    go_enter Tryd.func16, Tryd.ntmps16
    go_wp2_with fail
    refine (H1.out _).mono ?_
    rintro e w2 ⟨rfl, hb2⟩
    have HB2 := Lib.hid (HAL.out.trans (hb2.mono HAL.out.size))
    clear hb2
    go_wp2
    go_ret
    exact ⟨by rw [HC.out]; rfl, HB2.out⟩

set_option maxRecDepth 100000 in
theorem refrows_any (w : World) (B B' : Nat → Prop) (v v' : Value) (a b : List AV) (ha : Sl w B 3 v a.length (rowCells a)) (hb : Sl w B' 3 v' b.length (rowCells b)) :
    Calls Tryd.prog 20 #[v, v'] w fun e w' => e = .returned (.int .i64 (cmpR a b)) ∧ Below w.heap.size w w' := by
  obtain ⟨p, cap, rfl, hc1, hc2⟩ := ha.form
  obtain ⟨p', cap', rfl, hc1', hc2'⟩ := hb.form
  have HA := Lib.hid ha
  have HB := Lib.hid hb
  clear ha hb
  go_enter Tryd.func20, Tryd.ntmps20
  go_wp2
  go_loopw [5] (fun i wr => ∃ k : Nat, i = .int .i64 k ∧ k ≤ a.length ∧ k ≤ b.length ∧ SameTo a b k ∧ Below w.heap.size w wr) (fun i _ => a.length - (intOf i).toNat)
  case atStart => exact ⟨0, rfl, Nat.zero_le _, Nat.zero_le _, fun j hj => absurd hj (Nat.not_lt_zero _), Below.refl _ _⟩
  case round =>
    obtain ⟨k, rfl, hka, hkb, hst, hbr⟩ := hrel
    have HST := Lib.hid hst
    have HBR := Lib.hid hbr
    by_cases h12 : k < a.length ∧ k < b.length
    · obtain ⟨h1, h2⟩ := h12
      obtain ⟨g, off, cap1, hv, hg, e0, e1, e2⟩ := sl_av (HA.out.below hbr) h1
      cases hv
      obtain ⟨g', off', cap2, hv', hg', f0, f1, f2⟩ := sl_av (HB.out.below hbr) h2
      cases hv'
      have HN : Hid (cmpV a[k] b[k] = 0 → SameTo a b (k + 1)) := fun h j hj hja hjb => by
        rcases Nat.lt_succ_iff_lt_or_eq.1 hj with h3 | rfl
        · exact HST.out j h3 hja hjb
        · exact h
      have HE : Hid (cmpV a[k] b[k] ≠ 0 → cmpR a b = cmpV a[k] b[k]) := fun h => cmpR_at a b k HST.out h1 h2 h
      have HC := Lib.hid (fun w => refcmp w a[k] b[k])
      generalize a[k] = x at *
      generalize b[k] = y at *
      have hx : x.agg = .agg #[.int .i64 x.kind, .int .i64 x.n, .string x.s] := rfl
      have hy : y.agg = .agg #[.int .i64 y.kind, .int .i64 y.n, .string y.s] := rfl
      rw [hx, hy] at HC
      generalize cmpV x y = c at *
      clear hst hx hy
      cases hz : (c != 0)
      · have h3 : c = 0 := by simpa using hz
        have HN2 := Lib.hid (HN.out h3)
        clear HN HE h3
        go_wp2
        refine wp_region_lit_plan [] [(0, 0), (1, 0), (2, 0), (4, 0), (5, 0), (6, 0), (3, 1), (7, 1), (8, 4), (9, 0)] (fun _ => False) (by kernel_rfl) (by kernel_rfl) (fun c a d v w h => by cases d <;> exact h) ?_
        go_wp2_with (first | (refine plan_pure (v := _) (by rfl) (by rfl) (by rfl) (by intro _; go_simp; with_reducible rfl) ?_; simp only [List.setIfInBounds_toArray, List.set_cons_zero, List.set_cons_succ]; try go_bits) | (refine plan_read (v := _) (by rfl) (by rfl) (by rfl) (by go_simp; with_reducible rfl) ?_; simp only [List.setIfInBounds_toArray, List.set_cons_zero, List.set_cons_succ]; try go_bits) | (refine plan_readB (v := _) (by rfl) (by rfl) (by rfl) (by intro _ hag; unfold Agree at hag; go_simp; with_reducible rfl) ?_; simp only [List.setIfInBounds_toArray, List.set_cons_zero, List.set_cons_succ]; try go_bits) | (refine plan_skip0 (by rfl) (by rfl) (by rfl) ?_; simp only [List.setIfInBounds_toArray, List.set_cons_zero, List.set_cons_succ]; try go_bits) | (refine plan_skip1 (by rfl) (by rfl) (by rfl) ?_; simp only [List.setIfInBounds_toArray, List.set_cons_zero, List.set_cons_succ]; try go_bits) | (refine plan_skip2 (by rfl) (by rfl) (by rfl) ?_; simp only [List.setIfInBounds_toArray, List.set_cons_zero, List.set_cons_succ]; try go_bits) | (refine plan_skip4 (by rfl) (by rfl) (by rfl) ?_; simp only [List.setIfInBounds_toArray, List.set_cons_zero, List.set_cons_succ]; try go_bits) | (refine plan_any (by rfl) ?_) | (refine plan_keep (by rfl) ?_) | (refine plan_nil ?_) | (with_reducible refine And.intro (by first | assumption | exact Agree.refl _ _ | exact agree_drew _ _ | exact agree_alloc _ (by intro k hk; subst hk; first | omega | (simp; omega))) ?_) | (unfold Act.put; simp only [List.setIfInBounds_toArray, List.set_cons_zero, List.set_cons_succ]) | (go_at_call 16; refine (HC.out _).mono ?_; rintro e w2 ⟨rfl, hb2⟩; have HB2 := Lib.hid (HBR.out.drew.trans (hb2.mono HBR.out.size)); clear hb2))
        go_roundw
        case rel => exact ⟨k + 1, by go_num, by omega, by omega, HN2.out, HB2.out⟩
        case measure => (simp [intOf]) <;> omega
      · have h3 : c ≠ 0 := by simpa using hz
        have HE2 := Lib.hid (HE.out h3)
        clear HN HE h3
        go_wp2
        refine wp_region_lit_plan [] [(0, 0), (1, 0), (2, 0), (4, 0), (5, 0), (6, 0), (3, 1), (7, 1), (8, 4), (9, 0)] (fun _ => False) (by kernel_rfl) (by kernel_rfl) (fun c a d v w h => by cases d <;> exact h) ?_
        go_wp2_with (first | (refine plan_pure (v := _) (by rfl) (by rfl) (by rfl) (by intro _; go_simp; with_reducible rfl) ?_; simp only [List.setIfInBounds_toArray, List.set_cons_zero, List.set_cons_succ]; try go_bits) | (refine plan_read (v := _) (by rfl) (by rfl) (by rfl) (by go_simp; with_reducible rfl) ?_; simp only [List.setIfInBounds_toArray, List.set_cons_zero, List.set_cons_succ]; try go_bits) | (refine plan_readB (v := _) (by rfl) (by rfl) (by rfl) (by intro _ hag; unfold Agree at hag; go_simp; with_reducible rfl) ?_; simp only [List.setIfInBounds_toArray, List.set_cons_zero, List.set_cons_succ]; try go_bits) | (refine plan_skip0 (by rfl) (by rfl) (by rfl) ?_; simp only [List.setIfInBounds_toArray, List.set_cons_zero, List.set_cons_succ]; try go_bits) | (refine plan_skip1 (by rfl) (by rfl) (by rfl) ?_; simp only [List.setIfInBounds_toArray, List.set_cons_zero, List.set_cons_succ]; try go_bits) | (refine plan_skip2 (by rfl) (by rfl) (by rfl) ?_; simp only [List.setIfInBounds_toArray, List.set_cons_zero, List.set_cons_succ]; try go_bits) | (refine plan_skip4 (by rfl) (by rfl) (by rfl) ?_; simp only [List.setIfInBounds_toArray, List.set_cons_zero, List.set_cons_succ]; try go_bits) | (refine plan_any (by rfl) ?_) | (refine plan_keep (by rfl) ?_) | (refine plan_nil ?_) | (with_reducible refine And.intro (by first | assumption | exact Agree.refl _ _ | exact agree_drew _ _ | exact agree_alloc _ (by intro k hk; subst hk; first | omega | (simp; omega))) ?_) | (unfold Act.put; simp only [List.setIfInBounds_toArray, List.set_cons_zero, List.set_cons_succ]) | (go_at_call 16; refine (HC.out _).mono ?_; rintro e w2 ⟨rfl, hb2⟩; have HB2 := Lib.hid (HBR.out.drew.trans (hb2.mono HBR.out.size)); clear hb2))
        go_ret
        exact ⟨by rw [HE2.out]; rfl, HB2.out⟩
    · have HE : Hid (cmpR a b = if a.length = b.length then 0 else if a.length < b.length then -1 else 1) := by
        show _ = _
        rw [cmpR_end a b (fun j hja hjb => HST.out j (by omega) hja hjb)]
        rcases Nat.lt_trichotomy a.length b.length with h | h | h
        · rw [if_neg (by omega), if_pos h, if_neg (by omega), if_pos h]
        · rw [if_neg (by omega), if_neg (by omega), if_pos h]
        · rw [if_pos h, if_neg (by omega), if_neg (by omega)]
      clear hst
      have hd : (decide (k < a.length) && decide (k < b.length)) = false := by
        rw [Bool.and_eq_false_iff, decide_eq_false_iff_not, decide_eq_false_iff_not]
        omega
      rcases Nat.lt_trichotomy a.length b.length with h | h | h
      · rw [if_neg (by omega), if_pos h] at HE
        obtain rfl : k = a.length := by omega
        go_wp2
        go_ret
        exact ⟨by rw [HE.out]; rfl, HBR.out⟩
      · rw [if_pos h] at HE
        obtain rfl : k = a.length := by omega
        go_wp2
        go_ret
        exact ⟨by rw [HE.out]; rfl, HBR.out⟩
      · rw [if_neg (by omega), if_neg (by omega)] at HE
        obtain rfl : k = b.length := by omega
        go_wp2
        go_ret
        exact ⟨by rw [HE.out]; rfl, HBR.out⟩
end Go.Proofs.YtlgohkdckdnmhaaDoor
