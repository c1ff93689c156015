/- The codec law's own 'same': the walk. -/
import Derived.Test.YtdhdphmehjkbnaaSame
import Derived.Deep.CutBlock
import Derived.Deep.DeepCutAuto
namespace Go.Proofs.Ytdhdphmehjkbnaa
open Go.RowKit Go.Afx
variable {RB : Nat → Prop}

/-- What 'same' leaves. -/
def SameOut (w0 : World) (p : Option Addr) (RB : Nat → Prop) (q n0 : Nat) (cs : List Value) (w : World) : Prop := ∃ b l, Two w0 p RB q n0 cs b l b l w

set_option maxRecDepth 100000 in
set_option maxHeartbeats 4000000 in
theorem same_any (w : World) (p : Option Addr) (q : Nat) (b : Bool) (l : List UInt8) (hr : Rdr w p RB b l) (hp : Prt w q b l) (hpq : ¬ Mine p q) (hrq : ¬ RB q) (hrb : ∀ k, RB k → k < w.heap.size) (k n m : Int) (hn : fit64 n) (hm : fit64 m) :
    Calls Try.prog 45 #[.pointer p, .pointer (some ⟨q, 0, none⟩), .agg #[.int .i64 k, .int .i64 n, .int .i64 m]] w fun e w' => e = .returned (.bool true) ∧ SameOut w p RB q w.heap.size [.int .i64 k, .int .i64 n, .int .i64 m] w' := by
  have hal : Below w.heap.size w (w.alloc (.cells #[.int .i64 k, .int .i64 n, .int .i64 m] 80)) := (Below.refl _ _).alloc (Nat.le_refl _) _
  have hl := hp.len
  obtain ⟨cs, hcs⟩ : ∃ cs : List Value, cs = [.int .i64 k, .int .i64 n, .int .i64 m] := ⟨_, rfl⟩
  have HS : Hid (Two w p RB q w.heap.size cs b l b l (w.alloc (.cells #[.int .i64 k, .int .i64 n, .int .i64 m] 80))) :=
    ⟨hr.below hal, hp.below hal, by rw [hcs]; exact Blk.new w _ [.int .i64 k, .int .i64 n, .int .i64 m], (Only.refl _ _).alloc _, hpq, hrq, fun k hk => Nat.lt_of_lt_of_le (hrb k hk) hal.size, fun h => Nat.lt_irrefl _ (hr.lt _ h), fun h => absurd hp.lt (by omega)⟩
  have HCS := Lib.hid hcs
  clear hal hr hp hpq hrq hrb hcs
  go_enter Try.func45, Try.ntmps45
  go_upto_block 0 with fail
  generalize hw1 : w.alloc (.cells #[.int .i64 k, .int .i64 n, .int .i64 m] 80) = w1 at *
  clear hw1
  have x0 : w1.cell? ⟨w.heap.size, 0, none⟩ = some (.int .i64 k) := by have := HS.out.bx; rw [HCS.out] at this; exact this.cell 0
  go_cut [7] (fun s7 wc => s7 = .bool true ∧ ∃ b l, Two w p RB q w.heap.size cs b l b l wc)
  case first =>
    have x1 : w1.cell? ⟨w.heap.size, 1, none⟩ = some (.int .i64 n) := by have := HS.out.bx; rw [HCS.out] at this; exact this.cell 1
    have x2 : w1.cell? ⟨w.heap.size, 2, none⟩ = some (.int .i64 m) := by have := HS.out.bx; rw [HCS.out] at this; exact this.cell 2
    have HSD := Lib.hid HS.out.drew
    by_cases h0 : k = 0
    · subst h0
      have H1 := Lib.hid (fun W (h : Two w p RB q w.heap.size cs b l b l W) => t_size_r h n hn)
      have H2 := Lib.hid (fun W (h : Two w p RB q w.heap.size cs (rSize n b l).2.1 (rSize n b l).2.2 b l W) => t_size_p h n hn)
      generalize rSize n b l = r at *
      obtain ⟨y, b2, l2⟩ := r
      simp only at H1 H2
      go_wp2
      refine wp_region_lit_plan [] [(0, 0), (1, 0), (4, 0), (5, 0), (2, 1), (6, 2), (3, 3), (7, 4), (8, 0), (9, 0)] (fun q => q = w.heap.size) (by kernel_rfl) (by kernel_rfl) (fun c a d v w h => by cases d <;> exact h) ?_
      go_wp2_with (first
        | (refine plan_pure (v := _) (by rfl) (by rfl) (by rfl) (by intro _; go_simp; with_reducible rfl) ?_; simp only [List.setIfInBounds_toArray, List.set_cons_zero, List.set_cons_succ]; try go_bits) | (refine plan_read (v := _) (by rfl) (by rfl) (by rfl) (by go_simp; with_reducible rfl) ?_; simp only [List.setIfInBounds_toArray, List.set_cons_zero, List.set_cons_succ]; try go_bits) | (refine plan_readB (v := _) (by rfl) (by rfl) (by rfl) (by intro _ hag; unfold Agree at hag; go_simp; with_reducible rfl) ?_; simp only [List.setIfInBounds_toArray, List.set_cons_zero, List.set_cons_succ]; try go_bits) | (refine plan_skip0 (by rfl) (by rfl) (by rfl) ?_; simp only [List.setIfInBounds_toArray, List.set_cons_zero, List.set_cons_succ]; try go_bits) | (refine plan_skip1 (by rfl) (by rfl) (by rfl) ?_; simp only [List.setIfInBounds_toArray, List.set_cons_zero, List.set_cons_succ]; try go_bits) | (refine plan_skip2 (by rfl) (by rfl) (by rfl) ?_; simp only [List.setIfInBounds_toArray, List.set_cons_zero, List.set_cons_succ]; try go_bits) | (refine plan_any (by rfl) ?_) | (refine plan_keep (by rfl) ?_) | (refine plan_nil ?_) | (with_reducible refine And.intro (by first | assumption | exact Agree.refl _ _ | exact agree_drew _ _ | exact agree_alloc _ (by intro k hk; subst hk; first | omega | (simp; omega))) ?_) | (unfold Act.put; simp only [List.setIfInBounds_toArray, List.set_cons_zero, List.set_cons_succ])
        | (go_at_call 71; refine (H1.out _ HSD.out).mono ?_; rintro e w2 ⟨rfl, hs2, hag, _⟩; have HS2 := Lib.hid hs2; clear hs2)
        | (go_at_call 79; refine (H2.out _ HS2.out).mono ?_; rintro e w3 ⟨rfl, hs3, _, _⟩; have HS3 := Lib.hid hs3; clear hs3))
      go_meet
      exact ⟨rfl, _, _, HS3.out⟩
    have n0 : (k == 0) = false := by rw [beq_eq_false_iff_ne]; exact h0
    by_cases h1 : k = 1
    · subst h1
      have H1 := Lib.hid (fun W (h : Two w p RB q w.heap.size cs b l b l W) => t_sign_r h)
      have H2 := Lib.hid (fun W (h : Two w p RB q w.heap.size cs (rSign b l).2.1 (rSign b l).2.2 b l W) => t_sign_p h)
      generalize rSign b l = r at *
      obtain ⟨y, b2, l2⟩ := r
      simp only at H1 H2
      go_wp2_with (first
        | (go_at_call 47; refine (H1.out _ HS.out).mono ?_; rintro e w2 ⟨rfl, hs2, _, _⟩; have HS2 := Lib.hid hs2; clear hs2)
        | (go_at_call 80; refine (H2.out _ HS2.out).mono ?_; rintro e w3 ⟨rfl, hs3, _, _⟩; have HS3 := Lib.hid hs3; clear hs3))
      go_meet
      exact ⟨rfl, _, _, HS3.out⟩
    have n1 : (k == 1) = false := by rw [beq_eq_false_iff_ne]; exact h1
    by_cases h2 : k = 2
    · subst h2
      have H1 := Lib.hid (fun W (h : Two w p RB q w.heap.size cs b l b l W) => t_text_r h n hn)
      have H2 := Lib.hid (fun W (h : Two w p RB q w.heap.size cs (rText n b l).2.1 (rText n b l).2.2 b l W) => t_text_p h n hn)
      generalize rText n b l = r at *
      obtain ⟨y, b2, l2⟩ := r
      simp only at H1 H2
      generalize bs y = Y at *
      go_wp2
      refine wp_region_lit_plan [] [(0, 0), (1, 0), (4, 0), (5, 0), (2, 1), (6, 2), (3, 3), (7, 4), (8, 0), (9, 0)] (fun q => q = w.heap.size) (by kernel_rfl) (by kernel_rfl) (fun c a d v w h => by cases d <;> exact h) ?_
      go_wp2_with (first
        | (refine plan_pure (v := _) (by rfl) (by rfl) (by rfl) (by intro _; go_simp; with_reducible rfl) ?_; simp only [List.setIfInBounds_toArray, List.set_cons_zero, List.set_cons_succ]; try go_bits) | (refine plan_read (v := _) (by rfl) (by rfl) (by rfl) (by go_simp; with_reducible rfl) ?_; simp only [List.setIfInBounds_toArray, List.set_cons_zero, List.set_cons_succ]; try go_bits) | (refine plan_readB (v := _) (by rfl) (by rfl) (by rfl) (by intro _ hag; unfold Agree at hag; go_simp; with_reducible rfl) ?_; simp only [List.setIfInBounds_toArray, List.set_cons_zero, List.set_cons_succ]; try go_bits) | (refine plan_skip0 (by rfl) (by rfl) (by rfl) ?_; simp only [List.setIfInBounds_toArray, List.set_cons_zero, List.set_cons_succ]; try go_bits) | (refine plan_skip1 (by rfl) (by rfl) (by rfl) ?_; simp only [List.setIfInBounds_toArray, List.set_cons_zero, List.set_cons_succ]; try go_bits) | (refine plan_skip2 (by rfl) (by rfl) (by rfl) ?_; simp only [List.setIfInBounds_toArray, List.set_cons_zero, List.set_cons_succ]; try go_bits) | (refine plan_any (by rfl) ?_) | (refine plan_keep (by rfl) ?_) | (refine plan_nil ?_) | (with_reducible refine And.intro (by first | assumption | exact Agree.refl _ _ | exact agree_drew _ _ | exact agree_alloc _ (by intro k hk; subst hk; first | omega | (simp; omega))) ?_) | (unfold Act.put; simp only [List.setIfInBounds_toArray, List.set_cons_zero, List.set_cons_succ])
        | (go_at_call 48; refine (H1.out _ HSD.out).mono ?_; rintro e w2 ⟨rfl, hs2, hag, _⟩; have HS2 := Lib.hid hs2; clear hs2)
        | (go_at_call 81; refine (H2.out _ HS2.out).mono ?_; rintro e w3 ⟨rfl, hs3, _, _⟩; have HS3 := Lib.hid hs3; clear hs3))
      go_meet
      exact ⟨rfl, _, _, HS3.out⟩
    have n2 : (k == 2) = false := by rw [beq_eq_false_iff_ne]; exact h2
    by_cases h3 : k = 3
    · subst h3
      have H1 := Lib.hid (fun W (h : Two w p RB q w.heap.size cs b l b l W) => t_val_r h)
      have H2 := Lib.hid (fun W (h : Two w p RB q w.heap.size cs (rVal b l).2.1 (rVal b l).2.2 b l W) => t_val_p h)
      generalize rVal b l = r at *
      obtain ⟨⟨y1, y2, y3⟩, b2, l2⟩ := r
      simp only [AV.agg] at H1 H2
      go_wp2_with (first
        | (go_at_call 82; refine (H1.out _ HS.out).mono ?_; rintro e w2 ⟨rfl, hs2, _, _⟩; have HS2 := Lib.hid hs2; clear hs2)
        | (go_at_call 83; refine (H2.out _ HS2.out).mono ?_; rintro e w3 ⟨rfl, hs3, _, _⟩; have HS3 := Lib.hid hs3; clear hs3))
      go_meet
      exact ⟨rfl, _, _, HS3.out⟩
    have n3 : (k == 3) = false := by rw [beq_eq_false_iff_ne]; exact h3
    by_cases h4 : k = 4
    · subst h4
      have H1 := Lib.hid (fun W (h : Two w p RB q w.heap.size cs b l b l W) => t_row_r h hl n hn)
      have H2 := Lib.hid (fun W (h : Two w p RB q w.heap.size cs (rRow n b l).2.1 (rRow n b l).2.2 b l W) => t_row_p h n hn)
      generalize rRow n b l = r at *
      obtain ⟨y, b2, l2⟩ := r
      simp only at H1 H2
      go_wp2
      refine wp_region_lit_plan [] [(0, 0), (1, 0), (4, 0), (5, 0), (2, 1), (6, 2), (3, 3), (7, 4), (8, 4), (9, 0)] (fun q => q = w.heap.size) (by kernel_rfl) (by kernel_rfl) (fun c a d v w h => by cases d <;> exact h) ?_
      go_wp2_with (first
        | (refine plan_pure (v := _) (by rfl) (by rfl) (by rfl) (by intro _; go_simp; with_reducible rfl) ?_; simp only [List.setIfInBounds_toArray, List.set_cons_zero, List.set_cons_succ]; try go_bits) | (refine plan_read (v := _) (by rfl) (by rfl) (by rfl) (by go_simp; with_reducible rfl) ?_; simp only [List.setIfInBounds_toArray, List.set_cons_zero, List.set_cons_succ]; try go_bits) | (refine plan_readB (v := _) (by rfl) (by rfl) (by rfl) (by intro _ hag; unfold Agree at hag; go_simp; with_reducible rfl) ?_; simp only [List.setIfInBounds_toArray, List.set_cons_zero, List.set_cons_succ]; try go_bits) | (refine plan_skip0 (by rfl) (by rfl) (by rfl) ?_; simp only [List.setIfInBounds_toArray, List.set_cons_zero, List.set_cons_succ]; try go_bits) | (refine plan_skip1 (by rfl) (by rfl) (by rfl) ?_; simp only [List.setIfInBounds_toArray, List.set_cons_zero, List.set_cons_succ]; try go_bits) | (refine plan_skip2 (by rfl) (by rfl) (by rfl) ?_; simp only [List.setIfInBounds_toArray, List.set_cons_zero, List.set_cons_succ]; try go_bits) | (refine plan_any (by rfl) ?_) | (refine plan_keep (by rfl) ?_) | (refine plan_nil ?_) | (with_reducible refine And.intro (by first | assumption | exact Agree.refl _ _ | exact agree_drew _ _ | exact agree_alloc _ (by intro k hk; subst hk; first | omega | (simp; omega))) ?_) | (unfold Act.put; simp only [List.setIfInBounds_toArray, List.set_cons_zero, List.set_cons_succ])
        | (go_at_call 72; refine (H1.out _ HSD.out).mono ?_; rintro e w2 ⟨v2, rfl, hx2, hs2, hag, _⟩; have HX2 := Lib.hid hx2; have HS2 := Lib.hid hs2; clear hs2 hx2)
        | (go_at_call 85; refine (H2.out _ HS2.out).mono ?_; rintro e w3 ⟨v3, rfl, hx3, hs3, hag3, ho3⟩; have HM := Lib.hid (t_same_row (HX2.out.step ho3) hx3); have HS3p := Lib.hid hs3; clear hs3 hx3 ho3)
        | (go_at_call 84; refine HM.out.mono ?_; rintro e w4 ⟨rfl, hb4⟩; have HS3 := Lib.hid (HS3p.out.belowW hb4); clear hb4))
      go_meet
      exact ⟨rfl, _, _, HS3.out⟩
    have n4 : (k == 4) = false := by rw [beq_eq_false_iff_ne]; exact h4
    by_cases h5 : k = 5
    · subst h5
      have H1 := Lib.hid (fun W (h : Two w p RB q w.heap.size cs b l b l W) => t_rows_r h hl n m hn hm)
      have H2 := Lib.hid (fun W (h : Two w p RB q w.heap.size cs (rRows n m b l).2.1 (rRows n m b l).2.2 b l W) => t_rows_p h n m hn hm)
      generalize rRows n m b l = r at *
      obtain ⟨y, b2, l2⟩ := r
      simp only at H1 H2
      go_wp2
      refine wp_region_lit_plan [] [(0, 0), (1, 0), (3, 0), (6, 0), (7, 0), (9, 0), (2, 1), (4, 1), (8, 2), (10, 2), (5, 3), (11, 4), (12, 4), (13, 0)] (fun q => q = w.heap.size) (by kernel_rfl) (by kernel_rfl) (fun c a d v w h => by cases d <;> exact h) ?_
      go_wp2_with (first
        | (refine plan_pure (v := _) (by rfl) (by rfl) (by rfl) (by intro _; go_simp; with_reducible rfl) ?_; simp only [List.setIfInBounds_toArray, List.set_cons_zero, List.set_cons_succ]; try go_bits) | (refine plan_read (v := _) (by rfl) (by rfl) (by rfl) (by go_simp; with_reducible rfl) ?_; simp only [List.setIfInBounds_toArray, List.set_cons_zero, List.set_cons_succ]; try go_bits) | (refine plan_readB (v := _) (by rfl) (by rfl) (by rfl) (by intro _ hag; unfold Agree at hag; go_simp; with_reducible rfl) ?_; simp only [List.setIfInBounds_toArray, List.set_cons_zero, List.set_cons_succ]; try go_bits) | (refine plan_skip0 (by rfl) (by rfl) (by rfl) ?_; simp only [List.setIfInBounds_toArray, List.set_cons_zero, List.set_cons_succ]; try go_bits) | (refine plan_skip1 (by rfl) (by rfl) (by rfl) ?_; simp only [List.setIfInBounds_toArray, List.set_cons_zero, List.set_cons_succ]; try go_bits) | (refine plan_skip2 (by rfl) (by rfl) (by rfl) ?_; simp only [List.setIfInBounds_toArray, List.set_cons_zero, List.set_cons_succ]; try go_bits) | (refine plan_any (by rfl) ?_) | (refine plan_keep (by rfl) ?_) | (refine plan_nil ?_) | (with_reducible refine And.intro (by first | assumption | exact Agree.refl _ _ | exact agree_drew _ _ | exact agree_alloc _ (by intro k hk; subst hk; first | omega | (simp; omega))) ?_) | (unfold Act.put; simp only [List.setIfInBounds_toArray, List.set_cons_zero, List.set_cons_succ])
        | (go_at_call 50; refine (H1.out _ HSD.out).mono ?_; rintro e w2 ⟨v2, rfl, hx2, hs2, hag, _⟩; have HX2 := Lib.hid hx2; have HS2 := Lib.hid hs2; clear hs2 hx2)
        | (go_at_call 86; refine (H2.out _ HS2.out).mono ?_; rintro e w3 ⟨v3, rfl, hx3, hs3, hag3, ho3⟩; have HM := Lib.hid (t_same_rows (HX2.out.step ho3) hx3); have HS3p := Lib.hid hs3; clear hs3 hx3 ho3)
        | (go_at_call 49; refine HM.out.mono ?_; rintro e w4 ⟨rfl, hb4⟩; have HS3 := Lib.hid (HS3p.out.belowW hb4); clear hb4))
      go_meet
      exact ⟨rfl, _, _, HS3.out⟩
    have n5 : (k == 5) = false := by rw [beq_eq_false_iff_ne]; exact h5
    have H1 := Lib.hid (fail_r w1 p b l HS.out.rd)
    go_wp2_with fail
    refine H1.out.mono ?_
    clear H1
    rintro e w2 ⟨rfl, hr2, ho2⟩
    have HS2 := Lib.hid (HS.out.stepR hr2 ho2).1
    have k1 := HS2.out.pt.cellBad
    have kf := HS2.out.pt.free
    clear hr2 ho2
    go_wp2
    go_meet
    exact ⟨rfl, _, _, (HS2.out.stepP HS2.out.pt.spoil (only_cell _ _ _ _)).1⟩
  case rest =>
    obtain ⟨rfl, b2, l2, hs⟩ := hcut
    have HS2 := Lib.hid hs
    have hsd := hs.drew
    have HG := Lib.hid (good_r _ _ _ _ hsd.rd)
    have HL := Lib.hid (len_r _ _ _ _ hsd.rd)
    have HE := Lib.hid (end_r _ _ _ _ hsd.rd)
    have HT : Hid (Calls Try.prog 51 #[.pointer p] wc.drew fun e w' => e = .returned (.string (bs l2)) ∧ wc.drew = w') := rdstr_r _ _ _ _ hsd.rd
    have hsz := bs_size l2
    have HO : Hid (SameOut w p RB q w.heap.size [.int .i64 k, .int .i64 n, .int .i64 m] wc.drew) := ⟨b2, l2, by rw [HCS.out] at hsd; exact hsd⟩
    have hbl := hs.pt.empty
    obtain ⟨x, hx1, hx2, hx3, _⟩ := hs.pt
    have q0 : wc.cell? ⟨q, 0, none⟩ = some (.string (bs x)) := hx1.cell 0
    have q1 : wc.cell? ⟨q, 1, none⟩ = some (.bool b2) := hx1.cell 1
    clear hsd hs hx1 hx3 HS x0
    cases b2
    · have hxe := hx2 rfl
      subst hxe
      clear hx2 hbl
      have hll : (x.length : Int) = ((bs x).size : Int) := by rw [hsz]
      rw [hll] at HL
      cases hem : x.isEmpty
      · have hz : ((bs x).size : Int) ≠ 0 := by
          rw [hsz]
          cases x
          · cases hem
          · rw [List.length_cons]; omega
        have hz2 : (((bs x).size : Int) == 0) = false := beq_eq_false_iff_ne.2 hz
        rw [hem] at HE
        clear hem hz hll hsz
        generalize bs x = X at *
        go_wp2
        refine wp_region_lit_plan [] [(0, 0), (1, 0), (2, 0), (4, 0), (5, 0), (6, 0), (7, 2), (8, 0), (3, 3), (9, 0), (10, 0), (11, 0), (12, 0), (14, 0), (15, 0), (13, 4), (16, 0), (17, 0), (18, 0), (19, 0), (21, 0), (20, 4), (22, 0), (23, 0), (24, 0), (25, 0), (27, 0), (28, 0), (29, 0), (30, 2), (31, 0), (26, 3), (32, 0), (33, 0), (34, 0), (35, 0), (36, 0), (37, 0), (38, 0), (39, 0)] (fun k => k = q) (by kernel_rfl) (by kernel_rfl) (fun c a d v w h => by cases d <;> exact h) ?_
        go_wp2_with (first
          | (refine plan_pure (v := _) (by rfl) (by rfl) (by rfl) (by intro _; go_simp; with_reducible rfl) ?_; simp only [List.setIfInBounds_toArray, List.set_cons_zero, List.set_cons_succ]; try go_bits) | (refine plan_read (v := _) (by rfl) (by rfl) (by rfl) (by go_simp; with_reducible rfl) ?_; simp only [List.setIfInBounds_toArray, List.set_cons_zero, List.set_cons_succ]; try go_bits) | (refine plan_readB (v := _) (by rfl) (by rfl) (by rfl) (by intro _ hag; unfold Agree at hag; go_simp; with_reducible rfl) ?_; simp only [List.setIfInBounds_toArray, List.set_cons_zero, List.set_cons_succ]; try go_bits) | (refine plan_skip0 (by rfl) (by rfl) (by rfl) ?_; simp only [List.setIfInBounds_toArray, List.set_cons_zero, List.set_cons_succ]; try go_bits) | (refine plan_skip1 (by rfl) (by rfl) (by rfl) ?_; simp only [List.setIfInBounds_toArray, List.set_cons_zero, List.set_cons_succ]; try go_bits) | (refine plan_skip2 (by rfl) (by rfl) (by rfl) ?_; simp only [List.setIfInBounds_toArray, List.set_cons_zero, List.set_cons_succ]; try go_bits) | (refine plan_any (by rfl) ?_) | (refine plan_keep (by rfl) ?_) | (refine plan_nil ?_) | (with_reducible refine And.intro (by first | assumption | exact Agree.refl _ _ | exact agree_drew _ _ | exact agree_alloc _ (by intro k hk; subst hk; first | omega | (simp; omega))) ?_) | (unfold Act.put; simp only [List.setIfInBounds_toArray, List.set_cons_zero, List.set_cons_succ])
          | (go_at_call 52; refine HG.out.mono ?_; rintro e w2 ⟨rfl, rfl⟩)
          | (go_at_call 88; refine HL.out.mono ?_; rintro e w2 ⟨rfl, rfl⟩)
          | (go_at_call 51; refine HT.out.mono ?_; rintro e w2 ⟨rfl, rfl⟩)
          | (go_at_call 73; refine HE.out.mono ?_; rintro e w2 ⟨rfl, rfl⟩))
        go_ret
        exact ⟨rfl, HO.out⟩
      · have hz : ((bs x).size : Int) = 0 := by
          rw [hsz]
          cases x
          · rfl
          · cases hem
        have hz2 : (((bs x).size : Int) == 0) = true := by rw [hz]; rfl
        rw [hem] at HE
        clear hem hz hll hsz
        generalize bs x = X at *
        go_wp2
        refine wp_region_lit_plan [] [(0, 0), (1, 0), (2, 0), (4, 0), (5, 0), (6, 0), (7, 2), (8, 0), (3, 3), (9, 0), (10, 0), (11, 0), (12, 0), (14, 0), (15, 0), (13, 4), (16, 0), (17, 0), (18, 0), (19, 0), (21, 0), (20, 4), (22, 0), (23, 0), (24, 0), (25, 0), (27, 0), (28, 0), (29, 0), (30, 2), (31, 0), (26, 3), (32, 0), (33, 0), (34, 0), (35, 0), (36, 0), (37, 0), (38, 0), (39, 0)] (fun k => k = q) (by kernel_rfl) (by kernel_rfl) (fun c a d v w h => by cases d <;> exact h) ?_
        go_wp2_with (first
          | (refine plan_pure (v := _) (by rfl) (by rfl) (by rfl) (by intro _; go_simp; with_reducible rfl) ?_; simp only [List.setIfInBounds_toArray, List.set_cons_zero, List.set_cons_succ]; try go_bits) | (refine plan_read (v := _) (by rfl) (by rfl) (by rfl) (by go_simp; with_reducible rfl) ?_; simp only [List.setIfInBounds_toArray, List.set_cons_zero, List.set_cons_succ]; try go_bits) | (refine plan_readB (v := _) (by rfl) (by rfl) (by rfl) (by intro _ hag; unfold Agree at hag; go_simp; with_reducible rfl) ?_; simp only [List.setIfInBounds_toArray, List.set_cons_zero, List.set_cons_succ]; try go_bits) | (refine plan_skip0 (by rfl) (by rfl) (by rfl) ?_; simp only [List.setIfInBounds_toArray, List.set_cons_zero, List.set_cons_succ]; try go_bits) | (refine plan_skip1 (by rfl) (by rfl) (by rfl) ?_; simp only [List.setIfInBounds_toArray, List.set_cons_zero, List.set_cons_succ]; try go_bits) | (refine plan_skip2 (by rfl) (by rfl) (by rfl) ?_; simp only [List.setIfInBounds_toArray, List.set_cons_zero, List.set_cons_succ]; try go_bits) | (refine plan_any (by rfl) ?_) | (refine plan_keep (by rfl) ?_) | (refine plan_nil ?_) | (with_reducible refine And.intro (by first | assumption | exact Agree.refl _ _ | exact agree_drew _ _ | exact agree_alloc _ (by intro k hk; subst hk; first | omega | (simp; omega))) ?_) | (unfold Act.put; simp only [List.setIfInBounds_toArray, List.set_cons_zero, List.set_cons_succ])
          | (go_at_call 52; refine HG.out.mono ?_; rintro e w2 ⟨rfl, rfl⟩)
          | (go_at_call 88; refine HL.out.mono ?_; rintro e w2 ⟨rfl, rfl⟩)
          | (go_at_call 51; refine HT.out.mono ?_; rintro e w2 ⟨rfl, rfl⟩)
          | (go_at_call 73; refine HE.out.mono ?_; rintro e w2 ⟨rfl, rfl⟩))
        go_ret
        exact ⟨rfl, HO.out⟩
    · have hl2 := hbl rfl
      subst hl2
      have HL2 : Hid (Calls Try.prog 88 #[.pointer p] wc.drew fun e w' => e = .returned (.int .i64 0) ∧ wc.drew = w') := HL
      have HT2 : Hid (Calls Try.prog 51 #[.pointer p] wc.drew fun e w' => e = .returned (.string ⟨#[]⟩) ∧ wc.drew = w') := HT
      clear hx2 hbl hsz HL HT
      generalize bs x = X at *
      go_wp2
      refine wp_region_lit_plan [] [(0, 0), (1, 0), (2, 0), (4, 0), (5, 0), (6, 0), (7, 2), (8, 0), (3, 3), (9, 0), (10, 0), (11, 0), (12, 0), (14, 0), (15, 0), (13, 4), (16, 0), (17, 0), (18, 0), (19, 0), (21, 0), (20, 4), (22, 0), (23, 0), (24, 0), (25, 0), (27, 0), (28, 0), (29, 0), (30, 2), (31, 0), (26, 3), (32, 0), (33, 0), (34, 0), (35, 0), (36, 0), (37, 0), (38, 0), (39, 0)] (fun k => k = q) (by kernel_rfl) (by kernel_rfl) (fun c a d v w h => by cases d <;> exact h) ?_
      go_wp2_with (first
        | (refine plan_pure (v := _) (by rfl) (by rfl) (by rfl) (by intro _; go_simp; with_reducible rfl) ?_; simp only [List.setIfInBounds_toArray, List.set_cons_zero, List.set_cons_succ]; try go_bits) | (refine plan_read (v := _) (by rfl) (by rfl) (by rfl) (by go_simp; with_reducible rfl) ?_; simp only [List.setIfInBounds_toArray, List.set_cons_zero, List.set_cons_succ]; try go_bits) | (refine plan_readB (v := _) (by rfl) (by rfl) (by rfl) (by intro _ hag; unfold Agree at hag; go_simp; with_reducible rfl) ?_; simp only [List.setIfInBounds_toArray, List.set_cons_zero, List.set_cons_succ]; try go_bits) | (refine plan_skip0 (by rfl) (by rfl) (by rfl) ?_; simp only [List.setIfInBounds_toArray, List.set_cons_zero, List.set_cons_succ]; try go_bits) | (refine plan_skip1 (by rfl) (by rfl) (by rfl) ?_; simp only [List.setIfInBounds_toArray, List.set_cons_zero, List.set_cons_succ]; try go_bits) | (refine plan_skip2 (by rfl) (by rfl) (by rfl) ?_; simp only [List.setIfInBounds_toArray, List.set_cons_zero, List.set_cons_succ]; try go_bits) | (refine plan_any (by rfl) ?_) | (refine plan_keep (by rfl) ?_) | (refine plan_nil ?_) | (with_reducible refine And.intro (by first | assumption | exact Agree.refl _ _ | exact agree_drew _ _ | exact agree_alloc _ (by intro k hk; subst hk; first | omega | (simp; omega))) ?_) | (unfold Act.put; simp only [List.setIfInBounds_toArray, List.set_cons_zero, List.set_cons_succ])
        | (go_at_call 52; refine HG.out.mono ?_; rintro e w2 ⟨rfl, rfl⟩)
        | (go_at_call 88; refine HL2.out.mono ?_; rintro e w2 ⟨rfl, rfl⟩)
        | (go_at_call 51; refine HT2.out.mono ?_; rintro e w2 ⟨rfl, rfl⟩)
        | (go_at_call 73; refine HE.out.mono ?_; rintro e w2 ⟨rfl, rfl⟩))
      go_ret
      exact ⟨rfl, HO.out⟩
end Go.Proofs.Ytdhdphmehjkbnaa
