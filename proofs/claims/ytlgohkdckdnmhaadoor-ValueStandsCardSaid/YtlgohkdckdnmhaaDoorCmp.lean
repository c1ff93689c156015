/- Which of two stands first: numbers, texts, values, rows. -/
import Derived.Test.YtlgohkdckdnmhaaDoorRefE
namespace Go.Proofs.YtlgohkdckdnmhaaDoor
open Go.RowKit Go.Afx


def cmpI (x y : Int) : Int := if x < y then -1 else if y < x then 1 else 0
def cmpL (a b : List UInt8) : Int := if Op.bytesLess a b then -1 else if a == b then 0 else 1
def cmpV (a b : AV) : Int := if cmpI a.kind b.kind ≠ 0 then cmpI a.kind b.kind else if cmpI a.n b.n ≠ 0 then cmpI a.n b.n else cmpL a.s.toList b.s.toList
def cmpR : List AV → List AV → Int
  | [], [] => 0
  | [], _ :: _ => -1
  | _ :: _, [] => 1
  | a :: x, b :: y => if cmpV a b ≠ 0 then cmpV a b else cmpR x y

theorem less_irrefl : ∀ a : List UInt8, Op.bytesLess a a = false
  | [] => rfl
  | c :: a => by simp [Op.bytesLess, less_irrefl a]
theorem less_asymm : ∀ a b : List UInt8, Op.bytesLess a b = true → Op.bytesLess b a = false
  | _, [], h => by simp [Op.bytesLess] at h
  | [], c :: b, _ => rfl
  | c :: a, d :: b, h => by
    simp only [Op.bytesLess, Bool.or_eq_true, Bool.and_eq_true, decide_eq_true_eq, beq_iff_eq] at h
    rcases h with h | ⟨rfl, h⟩
    · have h1 : ¬ d < c := fun h2 => by have := UInt8.lt_irrefl c; exact this (UInt8.lt_trans h h2)
      have h2 : ¬ d = c := fun h2 => by subst h2; exact UInt8.lt_irrefl d h
      simp [Op.bytesLess, h1, h2]
    · simp [Op.bytesLess, less_asymm a b h]
theorem less_total : ∀ a b : List UInt8, Op.bytesLess a b = false → Op.bytesLess b a = false → a = b
  | [], [], _, _ => rfl
  | [], c :: b, h, _ => by simp [Op.bytesLess] at h
  | c :: a, [], _, h => by simp [Op.bytesLess] at h
  | c :: a, d :: b, h, k => by
    simp only [Op.bytesLess, Bool.or_eq_false_iff, decide_eq_false_iff_not] at h k
    have h1 : c = d := by
      rcases UInt8.lt_or_lt_of_ne (a := c) (b := d) |> fun f => Classical.em (c = d) with h2 | h2
      · exact h2
      · rcases UInt8.lt_or_lt_of_ne h2 with h3 | h3
        · exact absurd h3 h.1
        · exact absurd h3 k.1
    subst h1
    have h2 : Op.bytesLess a b = false := by simpa using h.2
    have h3 : Op.bytesLess b a = false := by simpa using k.2
    rw [less_total a b h2 h3]

theorem nan_int (w : World) (x : Int) : Calls Tryd.prog 93 #[.int .i64 x] w fun e w' => e = .returned (.bool false) ∧ w = w' := by
  go_enter Tryd.func93, Tryd.ntmps93
  go_wp2
  go_ret
  exact ⟨rfl, rfl⟩
theorem nan_str (w : World) (x : ByteArray) : Calls Tryd.prog 95 #[.string x] w fun e w' => e = .returned (.bool false) ∧ w = w' := by
  go_enter Tryd.func95, Tryd.ntmps95
  go_wp2
  go_ret
  exact ⟨rfl, rfl⟩
theorem gtr_str (x y : ByteArray) (w : World) : (binOp .gtr 9 (.string x) (.string y)).run Tryd.prog w = .ok (.bool (!(Op.bytesLess x.toList y.toList || x.toList == y.toList))) w := by kernel_rfl
theorem cmp_str (w : World) (x y : ByteArray) : Calls Tryd.prog 59 #[.string x, .string y] w fun e w' => e = .returned (.int .i64 (cmpL x.toList y.toList)) ∧ w = w' := by
  have kg := gtr_str x y w
  unfold cmpL
  cases h1 : Op.bytesLess x.toList y.toList
  · cases h2 : x.toList == y.toList
    all_goals
      rw [h1, h2] at kg
      go_enter Tryd.func59, Tryd.ntmps59
      go_wp2_with (first | (go_at_call 95; refine (nan_str _ _).mono ?_; rintro e w2 ⟨rfl, rfl⟩))
      go_ret
      exact ⟨rfl, rfl⟩
  · go_enter Tryd.func59, Tryd.ntmps59
    go_wp2_with (first | (go_at_call 95; refine (nan_str _ _).mono ?_; rintro e w2 ⟨rfl, rfl⟩))
    go_ret
    exact ⟨rfl, rfl⟩
theorem nan_i64 (w : World) (x : Int) : Calls Tryd.prog 94 #[.int .i64 x] w fun e w' => e = .returned (.bool false) ∧ w = w' := by
  go_enter Tryd.func94, Tryd.ntmps94
  go_wp2
  go_ret
  exact ⟨rfl, rfl⟩
theorem cmp_int (w : World) (x y : Int) : Calls Tryd.prog 57 #[.int .i64 x, .int .i64 y] w fun e w' => e = .returned (.int .i64 (cmpI x y)) ∧ w = w' := by
  unfold cmpI
  by_cases h1 : x < y
  · have hd : decide (x < y) = true := decide_eq_true h1
    rw [if_pos h1]
    go_enter Tryd.func57, Tryd.ntmps57
    go_wp2_with (first | (go_at_call 93; refine (nan_int _ _).mono ?_; rintro e w2 ⟨rfl, rfl⟩))
    go_ret
    exact ⟨rfl, rfl⟩
  · rw [if_neg h1]
    have hd : decide (x < y) = false := decide_eq_false h1
    by_cases h2 : y < x
    · have hd2 : decide (y < x) = true := decide_eq_true h2
      rw [if_pos h2]
      go_enter Tryd.func57, Tryd.ntmps57
      go_wp2_with (first | (go_at_call 93; refine (nan_int _ _).mono ?_; rintro e w2 ⟨rfl, rfl⟩))
      go_ret
      exact ⟨rfl, rfl⟩
    · have hd2 : decide (y < x) = false := decide_eq_false h2
      rw [if_neg h2]
      go_enter Tryd.func57, Tryd.ntmps57
      go_wp2_with (first | (go_at_call 93; refine (nan_int _ _).mono ?_; rintro e w2 ⟨rfl, rfl⟩))
      go_ret
      exact ⟨rfl, rfl⟩
theorem cmp_i64 (w : World) (x y : Int) : Calls Tryd.prog 58 #[.int .i64 x, .int .i64 y] w fun e w' => e = .returned (.int .i64 (cmpI x y)) ∧ w = w' := by
  unfold cmpI
  by_cases h1 : x < y
  · have hd : decide (x < y) = true := decide_eq_true h1
    rw [if_pos h1]
    go_enter Tryd.func58, Tryd.ntmps58
    go_wp2_with (first | (go_at_call 94; refine (nan_i64 _ _).mono ?_; rintro e w2 ⟨rfl, rfl⟩))
    go_ret
    exact ⟨rfl, rfl⟩
  · rw [if_neg h1]
    have hd : decide (x < y) = false := decide_eq_false h1
    by_cases h2 : y < x
    · have hd2 : decide (y < x) = true := decide_eq_true h2
      rw [if_pos h2]
      go_enter Tryd.func58, Tryd.ntmps58
      go_wp2_with (first | (go_at_call 94; refine (nan_i64 _ _).mono ?_; rintro e w2 ⟨rfl, rfl⟩))
      go_ret
      exact ⟨rfl, rfl⟩
    · have hd2 : decide (y < x) = false := decide_eq_false h2
      rw [if_neg h2]
      go_enter Tryd.func58, Tryd.ntmps58
      go_wp2_with (first | (go_at_call 94; refine (nan_i64 _ _).mono ?_; rintro e w2 ⟨rfl, rfl⟩))
      go_ret
      exact ⟨rfl, rfl⟩

/-- The first of three numbers that isn't nought. -/
def or3 (a b c : Int) : Int := if a ≠ 0 then a else if b ≠ 0 then b else c
def OrSt (a b c : Int) (k : Nat) : Prop := (1 ≤ k → a = 0) ∧ (2 ≤ k → b = 0) ∧ (3 ≤ k → c = 0)
theorem or_three (w : World) (a b c : Int) (g : Nat) (h0 : w.cell? ⟨g, 0, none⟩ = some (.int .i64 a)) (h1 : w.cell? ⟨g, 1, none⟩ = some (.int .i64 b)) (h2 : w.cell? ⟨g, 2, none⟩ = some (.int .i64 c)) :
    Calls Tryd.prog 56 #[.slice (some ⟨g, 0, none⟩) 3 3] w fun e w' => e = .returned (.int .i64 (or3 a b c)) ∧ w = w' := by
  go_enter Tryd.func56, Tryd.ntmps56
  go_wp2
  go_loopw [8] (fun i wr => ∃ k : Nat, i = .int .i64 k ∧ k ≤ 3 ∧ OrSt a b c k ∧ w = wr) (fun i _ => 3 - (intOf i).toNat)
  case atStart => exact ⟨0, rfl, by omega, ⟨by omega, by omega, by omega⟩, rfl⟩
  case round =>
    obtain ⟨k, rfl, hk, hst, rfl⟩ := hrel
    have HS := Lib.hid hst
    clear hst
    have hk4 : k = 0 ∨ k = 1 ∨ k = 2 ∨ k = 3 := by omega
    rcases hk4 with rfl | rfl | rfl | rfl
    · cases hn : (a != 0)
      · have hz : a = 0 := by simpa using hn
        have HZ := Lib.hid hz
        clear hz
        go_wp2
        go_roundw
        case rel => exact ⟨1, by go_num, by omega, ⟨fun _ => HZ.out, by omega, by omega⟩, trivial⟩
        case measure => (simp [intOf]) <;> omega
      · have h : a ≠ 0 := by simpa using hn
        have HR : Hid (or3 a b c = a) := by
          show _ = _
          unfold or3
          rw [if_pos h]
        clear h
        go_wp2
        go_ret
        exact ⟨by rw [HR.out]; rfl, rfl⟩
    · cases hn : (b != 0)
      · have hz : b = 0 := by simpa using hn
        have HZ := Lib.hid hz
        clear hz
        go_wp2
        go_roundw
        case rel => exact ⟨2, by go_num, by omega, ⟨fun _ => HS.out.1 (by omega), fun _ => HZ.out, by omega⟩, trivial⟩
        case measure => (simp [intOf]) <;> omega
      · have h : b ≠ 0 := by simpa using hn
        have HR : Hid (or3 a b c = b) := by
          show _ = _
          unfold or3
          rw [if_neg (by rw [HS.out.1 (by omega)]; decide), if_pos h]
        clear h
        go_wp2
        go_ret
        exact ⟨by rw [HR.out]; rfl, rfl⟩
    · cases hn : (c != 0)
      · have hz : c = 0 := by simpa using hn
        have HZ := Lib.hid hz
        clear hz
        go_wp2
        go_roundw
        case rel => exact ⟨3, by go_num, by omega, ⟨fun _ => HS.out.1 (by omega), fun _ => HS.out.2.1 (by omega), fun _ => HZ.out⟩, trivial⟩
        case measure => (simp [intOf]) <;> omega
      · have h : c ≠ 0 := by simpa using hn
        have HR : Hid (or3 a b c = c) := by
          show _ = _
          unfold or3
          rw [if_neg (by rw [HS.out.1 (by omega)]; decide), if_neg (by rw [HS.out.2.1 (by omega)]; decide)]
        clear h
        go_wp2
        go_ret
        exact ⟨by rw [HR.out]; rfl, rfl⟩
    · have HR : Hid (or3 a b c = 0) := by
        show _ = _
        unfold or3
        rw [if_neg (by rw [HS.out.1 (by omega)]; decide), if_neg (by rw [HS.out.2.1 (by omega)]; decide), HS.out.2.2 (by omega)]
      go_wp2
      go_ret
      exact ⟨by rw [HR.out]; rfl, rfl⟩
set_option maxRecDepth 100000 in
theorem cmp_val (w : World) (a b : AV) : Calls Tryd.prog 15 #[a.agg, b.agg] w fun e w' => e = .returned (.int .i64 (cmpV a b)) ∧ Below w.heap.size w w' := by
  obtain ⟨ka, na, sa⟩ := a
  obtain ⟨kb, nb, sb⟩ := b
  have hc : cmpV ⟨ka, na, sa⟩ ⟨kb, nb, sb⟩ = or3 (cmpI ka kb) (cmpI na nb) (cmpL sa.toList sb.toList) := rfl
  rw [hc]
  clear hc
  simp only [AV.agg]
  have HK := Lib.hid (fun w => cmp_int w ka kb)
  have HN := Lib.hid (fun w => cmp_i64 w na nb)
  have HS := Lib.hid (fun w => cmp_str w sa sb)
  generalize cmpI ka kb = x at *
  generalize cmpI na nb = y at *
  generalize cmpL sa.toList sb.toList = z at *
  have HO := Lib.hid (fun w => or_three w x y z)
  have hnew := Blk.new ((w.alloc (.cells #[.int .i64 ka, .int .i64 na, .string sa] 27)).alloc (.cells #[.int .i64 kb, .int .i64 nb, .string sb] 27)) 3 [.int .i64 x, .int .i64 y, .int .i64 z]
  have hz : ((w.alloc (.cells #[.int .i64 ka, .int .i64 na, .string sa] 27)).alloc (.cells #[.int .i64 kb, .int .i64 nb, .string sb] 27)).heap.size = w.heap.size + 1 + 1 := by simp
  rw [hz] at hnew
  have HNEW := Lib.hid hnew.drew
  clear hnew hz
  go_enter Tryd.func15, Tryd.ntmps15
  go_wp2
  refine wp_region_lit_plan [] [(0, 0), (2, 0), (5, 0), (7, 0), (10, 0), (12, 0), (1, 1), (3, 1), (6, 2), (8, 2), (11, 2), (13, 2), (4, 3), (9, 3), (14, 4), (15, 4), (16, 4), (17, 0)] (fun k => k = w.heap.size ∨ k = w.heap.size + 1) (by kernel_rfl) (by kernel_rfl) (fun c a d v w h => by cases d <;> exact h) ?_
  go_wp2_with (first
    | (refine plan_pure (v := _) (by rfl) (by rfl) (by rfl) (by intro _; go_simp; with_reducible rfl) ?_; simp only [List.setIfInBounds_toArray, List.set_cons_zero, List.set_cons_succ]; try go_bits) | (refine plan_read (v := _) (by rfl) (by rfl) (by rfl) (by go_simp; with_reducible rfl) ?_; simp only [List.setIfInBounds_toArray, List.set_cons_zero, List.set_cons_succ]; try go_bits) | (refine plan_readB (v := _) (by rfl) (by rfl) (by rfl) (by intro _ hag; unfold Agree at hag; go_simp; with_reducible rfl) ?_; simp only [List.setIfInBounds_toArray, List.set_cons_zero, List.set_cons_succ]; try go_bits) | (refine plan_skip0 (by rfl) (by rfl) (by rfl) ?_; simp only [List.setIfInBounds_toArray, List.set_cons_zero, List.set_cons_succ]; try go_bits) | (refine plan_skip1 (by rfl) (by rfl) (by rfl) ?_; simp only [List.setIfInBounds_toArray, List.set_cons_zero, List.set_cons_succ]; try go_bits) | (refine plan_skip2 (by rfl) (by rfl) (by rfl) ?_; simp only [List.setIfInBounds_toArray, List.set_cons_zero, List.set_cons_succ]; try go_bits) | (refine plan_skip4 (by rfl) (by rfl) (by rfl) ?_; simp only [List.setIfInBounds_toArray, List.set_cons_zero, List.set_cons_succ]; try go_bits) | (refine plan_any (by rfl) ?_) | (refine plan_keep (by rfl) ?_) | (refine plan_nil ?_) | (with_reducible refine And.intro (by first | assumption | exact Agree.refl _ _ | exact agree_drew _ _ | exact agree_alloc _ (by intro k hk; subst hk; first | omega | (simp; omega))) ?_) | (unfold Act.put; simp only [List.setIfInBounds_toArray, List.set_cons_zero, List.set_cons_succ])
    | (go_at_call 57; refine (HK.out _).mono ?_; rintro e w2 ⟨rfl, rfl⟩)
    | (go_at_call 58; refine (HN.out _).mono ?_; rintro e w2 ⟨rfl, rfl⟩)
    | (go_at_call 59; refine (HS.out _).mono ?_; rintro e w2 ⟨rfl, rfl⟩)
    | (go_at_call 56; refine (HO.out _ _ (HNEW.out.cell 0) (HNEW.out.cell 1) (HNEW.out.cell 2)).mono ?_; rintro e w2 ⟨rfl, rfl⟩))
  go_ret
  refine ⟨rfl, ?_⟩
  repeat (with_reducible first | exact Below.refl _ _ | apply Below.drew | (refine Below.alloc ?_ (by first | omega | (simp; omega) | simp) _) | (refine Below.setCell ?_ (by first | omega | (simp; omega) | simp) _))

/-- Cmp of two values as one's own function value is called. -/
theorem cmpR_take (a b : List AV) (k : Nat) : (∀ j (_ : j < k) (ha : j < a.length) (hb : j < b.length), cmpV a[j] b[j] = 0) → k ≤ a.length → k ≤ b.length → cmpR a b = cmpR (a.drop k) (b.drop k) := by
  induction k generalizing a b with
  | zero => intros; rfl
  | succ k ih =>
    intro h ha hb
    cases a with
    | nil => simp at ha
    | cons x a =>
      cases b with
      | nil => simp at hb
      | cons y b =>
        have h0 := h 0 (by omega) (by simp) (by simp)
        simp only [List.getElem_cons_zero] at h0
        show (if cmpV x y ≠ 0 then cmpV x y else cmpR a b) = _
        rw [if_neg (by rw [h0]; decide), List.drop_succ_cons, List.drop_succ_cons]
        exact ih a b (fun j hj ha' hb' => h (j + 1) (by omega) (by simpa using ha') (by simpa using hb')) (by simpa using ha) (by simpa using hb)
theorem cmpR_at (a b : List AV) (k : Nat) (h : ∀ j (_ : j < k) (ha : j < a.length) (hb : j < b.length), cmpV a[j] b[j] = 0) (ha : k < a.length) (hb : k < b.length) (hne : cmpV a[k] b[k] ≠ 0) : cmpR a b = cmpV a[k] b[k] := by
  rw [cmpR_take a b k h (by omega) (by omega), List.drop_eq_getElem_cons ha, List.drop_eq_getElem_cons hb]
  show (if _ then _ else _) = _
  rw [if_pos hne]
theorem cmpR_end (a b : List AV) (h : ∀ j (ha : j < a.length) (hb : j < b.length), cmpV a[j] b[j] = 0) : cmpR a b = if b.length < a.length then 1 else if a.length < b.length then -1 else 0 := by
  rcases Nat.lt_trichotomy a.length b.length with h1 | h1 | h1
  · rw [cmpR_take a b a.length (fun j _ ha hb => h j ha hb) (Nat.le_refl _) (by omega), if_neg (by omega), if_pos h1, List.drop_length, List.drop_eq_getElem_cons h1]; rfl
  · rw [cmpR_take a b a.length (fun j _ ha hb => h j ha hb) (Nat.le_refl _) (by omega), if_neg (by omega), if_neg (by omega), List.drop_length, h1, List.drop_length]; rfl
  · rw [cmpR_take a b b.length (fun j _ ha hb => h j ha hb) (by omega) (Nat.le_refl _), if_pos h1, List.drop_length, List.drop_eq_getElem_cons h1]; rfl
def SameTo (a b : List AV) (k : Nat) : Prop := ∀ j (_ : j < k) (ha : j < a.length) (hb : j < b.length), cmpV a[j] b[j] = 0

set_option maxRecDepth 100000 in
theorem compare_rows (w : World) (B B' : Nat → Prop) (v v' : Value) (a b : List AV) (ha : Sl w B 3 v a.length (rowCells a)) (hb : Sl w B' 3 v' b.length (rowCells b)) :
    Calls Tryd.prog 63 #[v, v', .func (.func 15) #[] #[]] w fun e w' => e = .returned (.int .i64 (cmpR a b)) ∧ Below w.heap.size w w' := by
  obtain ⟨p, cap, rfl, hc1, hc2⟩ := ha.form
  obtain ⟨p', cap', rfl, hc1', hc2'⟩ := hb.form
  have HA := Lib.hid ha
  have HB := Lib.hid hb
  clear ha hb
  go_enter Tryd.func63, Tryd.ntmps63
  go_wp2
  go_loopw [13] (fun i wr => ∃ k : Nat, i = .int .i64 k ∧ k ≤ a.length ∧ k ≤ b.length ∧ SameTo a b k ∧ Below w.heap.size w wr) (fun i _ => a.length - (intOf i).toNat)
  case atStart => exact ⟨0, rfl, Nat.zero_le _, Nat.zero_le _, fun j hj => absurd hj (Nat.not_lt_zero _), Below.refl _ _⟩
  case round =>
    obtain ⟨k, rfl, hka, hkb, hst, hbr⟩ := hrel
    have HST := Lib.hid hst
    have HBR := Lib.hid hbr
    by_cases h1 : k < a.length
    · obtain ⟨g, off, cap1, hv, hg, e0, e1, e2⟩ := sl_av (HA.out.below hbr) h1
      cases hv
      by_cases h2 : k < b.length
      · obtain ⟨g', off', cap2, hv', hg', f0, f1, f2⟩ := sl_av (HB.out.below hbr) h2
        cases hv'
        have HN : Hid (cmpV a[k] b[k] = 0 → SameTo a b (k + 1)) := fun h j hj hja hjb => by
          rcases Nat.lt_succ_iff_lt_or_eq.1 hj with h3 | rfl
          · exact HST.out j h3 hja hjb
          · exact h
        have HE : Hid (cmpV a[k] b[k] ≠ 0 → cmpR a b = cmpV a[k] b[k]) := fun h => cmpR_at a b k HST.out h1 h2 h
        have HC := Lib.hid (fun w => cmp_val w a[k] b[k])
        generalize a[k] = x at *
        generalize b[k] = y at *
        have hx : x.agg = .agg #[.int .i64 x.kind, .int .i64 x.n, .string x.s] := rfl
        have hy : y.agg = .agg #[.int .i64 y.kind, .int .i64 y.n, .string y.s] := rfl
        rw [hx, hy] at HC
        generalize cmpV x y = c at *
        have hal1 : Below w.heap.size w (wr.alloc (.cells #[.int .i64 x.kind, .int .i64 x.n, .string x.s] 27)) := hbr.alloc hbr.size _
        have HAL := Lib.hid (hal1.alloc hal1.size (.cells #[.int .i64 y.kind, .int .i64 y.n, .string y.s] 27))
        clear hst hx hy hal1
        cases hz : (c != 0)
        · have h3 : c = 0 := by simpa using hz
          have HN2 := Lib.hid (HN.out h3)
          clear HN HE h3
          go_wp2_with (go_at_call 15; refine (HC.out _).mono ?_; rintro e w2 ⟨rfl, hb2⟩; have HB2 := Lib.hid hb2; clear hb2)
          go_roundw
          case rel => exact ⟨k + 1, by go_num, by omega, by omega, HN2.out, HAL.out.trans (HB2.out.mono HAL.out.size)⟩
          case measure => (simp [intOf]) <;> omega
        · have h3 : c ≠ 0 := by simpa using hz
          have HE2 := Lib.hid (HE.out h3)
          clear HN HE h3
          go_wp2_with (go_at_call 15; refine (HC.out _).mono ?_; rintro e w2 ⟨rfl, hb2⟩; have HB2 := Lib.hid hb2; clear hb2)
          go_ret
          exact ⟨by rw [HE2.out]; rfl, HAL.out.trans (HB2.out.mono HAL.out.size)⟩
      · obtain rfl : k = b.length := by omega
        have HE : Hid (cmpR a b = 1) := by
          show _ = _
          rw [cmpR_end a b (fun j hja hjb => HST.out j (by omega) hja hjb), if_pos h1]
        clear hst
        go_wp2
        go_ret
        exact ⟨by rw [HE.out]; rfl, HBR.out.alloc HBR.out.size _⟩
    · obtain rfl : k = a.length := by omega
      have HE : Hid (cmpR a b = if a.length < b.length then -1 else 0) := by
        show _ = _
        rw [cmpR_end a b (fun j hja hjb => HST.out j (by omega) hja hjb), if_neg (by omega)]
      clear hst
      by_cases h3 : a.length < b.length
      · rw [if_pos h3] at HE
        go_wp2
        go_ret
        exact ⟨by rw [HE.out]; rfl, HBR.out⟩
      · rw [if_neg h3] at HE
        go_wp2
        go_ret
        exact ⟨by rw [HE.out]; rfl, HBR.out⟩

theorem rows_any (w : World) (B B' : Nat → Prop) (v v' : Value) (a b : List AV) (ha : Sl w B 3 v a.length (rowCells a)) (hb : Sl w B' 3 v' b.length (rowCells b)) :
    Calls Tryd.prog 19 #[v, v'] w fun e w' => e = .returned (.int .i64 (cmpR a b)) ∧ Below w.heap.size w w' := by
  have HC := Lib.hid (compare_rows w B B' v v' a b ha hb)
  obtain ⟨p, cap, rfl, hc1, hc2⟩ := ha.form
  obtain ⟨p', cap', rfl, hc1', hc2'⟩ := hb.form
  clear ha hb
  go_enter Tryd.func19, Tryd.ntmps19
  go_wp2_with (go_at_call 63; refine HC.out.mono ?_; rintro e w2 ⟨rfl, hb2⟩; have HB2 := Lib.hid hb2; clear hb2)
  go_ret
  exact ⟨rfl, HB2.out⟩
end Go.Proofs.YtlgohkdckdnmhaaDoor
