/- Contracts of package queue at int: New, Len, Free, At, came, Put. -/
import Derived.Test.YtdoidpiomonagaaSlices
namespace Go.Proofs.Ytdoidpiomonagaa
open Go.RowKit Go.Afx

structure QSt where
  came : Int
  went : Int
  refused : Int
  most : Int
  l : List Int
  room : Nat

def QSt.cells (s : QSt) (v : Value) : List Value := [.int .i64 s.came, .int .i64 s.went, .int .i64 s.refused, .int .i64 s.most, v, .int .i64 s.room]

/-- A queue at block b, in blocks of F. -/
def IsQ (w : World) (F : Nat → Prop) (b : Nat) (s : QSt) : Prop :=
  ∃ v, Blk w b 81 (s.cells v) ∧ Own w 3 1 v s.l.length (ints s.l) ∧ v.ownBlock ≠ some b ∧ F b ∧ ∀ k, v.ownBlock = some k → F k

/-- The bounds within which all is counted. -/
structure QOk (s : QSt) : Prop where
  c0 : 0 ≤ s.came
  c1 : s.came ≤ 1000000
  w0 : 0 ≤ s.went
  w1 : s.went ≤ 1000000
  r0 : 0 ≤ s.refused
  r1 : s.refused ≤ 1000000
  m0 : 0 ≤ s.most
  m1 : s.most ≤ 1000000
  room : s.room ≤ 10000
  len : s.l.length ≤ s.room

theorem IsQ.keep {w w' : World} {F S : Nat → Prop} {b : Nat} {s : QSt} (h : IsQ w F b s) (ho : Only S w w') (hd : ∀ k, F k → ¬ S k) : IsQ w' F b s := by
  obtain ⟨v, h1, h2, h3, h4, h5⟩ := h
  exact ⟨v, h1.only ho (hd _ h4), h2.only ho (fun k hk => hd k (h5 k hk)), h3, h4, h5⟩
theorem IsQ.below {w w' : World} {F : Nat → Prop} {b : Nat} {s : QSt} (h : IsQ w F b s) (ho : Below w.heap.size w w') : IsQ w' F b s := by
  obtain ⟨v, h1, h2, h3, h4, h5⟩ := h
  exact ⟨v, h1.below ho, h2.below ho, h3, h4, h5⟩

theorem own_form {w : World} {e : TypeId} {sz : Nat} {v : Value} {n : Nat} {cs : List Value} (h : Own w e sz v n cs) : ∃ p cap, v = .slice p n cap ∧ n ≤ cap ∧ cap ≤ 9223372036854775807 := by
  rcases h.2.2 with ⟨rfl, rfl⟩ | ⟨g, off, cap, cur, rfl, _, h1, h2, _⟩
  · exact ⟨none, 0, rfl, Nat.le_refl _, by omega⟩
  · exact ⟨_, cap, rfl, h1, by unfold maxLen at h2; omega⟩

theorem new_yes (n : Nat) (w : World) (h1 : 1 ≤ n) (h2 : n ≤ 10000) :
    Calls Try.prog 14 #[.int .i64 n] w fun e w' => e = .returned (.pointer (some ⟨w.heap.size, 0, none⟩)) ∧ w' = w.alloc (.cells (QSt.cells ⟨0, 0, 0, 0, [], n⟩ (.slice none 0 0)).toArray 81) := by
  have d1 : ¬ (n : Int) < 1 := by omega
  have d2 : ¬ (10000 : Int) < (n : Int) := by omega
  go_enter Try.func14, Try.ntmps14
  go_wp2
  go_ret
  exact ⟨rfl, rfl⟩

theorem new_no (n : Int) (w : World) (h1 : n < 1 ∨ 10000 < n) :
    Calls Try.prog 14 #[.int .i64 n] w fun e w' => e = .returned (.pointer none) ∧ w = w' := by
  by_cases h2 : n < 1
  · go_enter Try.func14, Try.ntmps14
    go_wp2
    go_ret
    exact ⟨rfl, rfl⟩
  · have h3 : 10000 < n := by omega
    clear h1
    go_enter Try.func14, Try.ntmps14
    go_wp2
    go_ret
    exact ⟨rfl, rfl⟩

theorem len_any (w : World) (F : Nat → Prop) (b : Nat) (s : QSt) (h : IsQ w F b s) :
    Calls Try.prog 22 #[.pointer (some ⟨b, 0, none⟩)] w fun e w' => e = .returned (.int .i64 s.l.length) ∧ w = w' := by
  obtain ⟨v, hb, ho, h3, h4, h5⟩ := h
  obtain ⟨p, cap, rfl, _, _⟩ := own_form ho
  have c4 : w.cell? ⟨b, 4, none⟩ = some (.slice p s.l.length cap) := hb.cell 4
  clear hb ho h3 h4 h5
  go_enter Try.func22, Try.ntmps22
  go_wp2
  go_ret
  exact ⟨rfl, rfl⟩

theorem len_nil (w : World) : Calls Try.prog 22 #[.pointer none] w fun e w' => e = .returned (.int .i64 0) ∧ w = w' := by
  go_enter Try.func22, Try.ntmps22
  go_wp2
  go_ret
  exact ⟨rfl, rfl⟩

theorem free_any (w : World) (F : Nat → Prop) (b : Nat) (s : QSt) (h : IsQ w F b s) (hs : QOk s) :
    Calls Try.prog 23 #[.pointer (some ⟨b, 0, none⟩)] w fun e w' => e = .returned (.int .i64 (s.room - s.l.length)) ∧ w' = w.drew := by
  have r1 := hs.room
  have r2 := hs.len
  obtain ⟨v, hb, ho, h3, h4, h5⟩ := h
  obtain ⟨p, cap, rfl, _, _⟩ := own_form ho
  have c4 : w.cell? ⟨b, 4, none⟩ = some (.slice p s.l.length cap) := hb.cell 4
  have c5 : w.cell? ⟨b, 5, none⟩ = some (.int .i64 s.room) := hb.cell 5
  clear hb ho h3 h4 h5 hs
  go_enter Try.func23, Try.ntmps23
  go_wp2
  refine wp_region_lit_plan [] [(0, 0), (1, 0), (2, 0), (4, 0), (5, 0), (6, 0), (3, 1), (7, 1), (8, 0), (9, 0), (10, 0)] (fun _ => False) (by kernel_rfl) (by kernel_rfl) (fun c a d v w h => by cases d <;> exact h) ?_
  go_wp2_with (first
    | (refine plan_pure (v := _) (by rfl) (by rfl) (by rfl) (by intro _; go_simp; with_reducible rfl) ?_; simp only [List.setIfInBounds_toArray, List.set_cons_zero, List.set_cons_succ]; try go_bits) | (refine plan_read (v := _) (by rfl) (by rfl) (by rfl) (by go_simp; with_reducible rfl) ?_; simp only [List.setIfInBounds_toArray, List.set_cons_zero, List.set_cons_succ]; try go_bits) | (refine plan_readB (v := _) (by rfl) (by rfl) (by rfl) (by intro _ hag; unfold Agree at hag; go_simp; with_reducible rfl) ?_; simp only [List.setIfInBounds_toArray, List.set_cons_zero, List.set_cons_succ]; try go_bits) | (refine plan_skip0 (by rfl) (by rfl) (by rfl) ?_; simp only [List.setIfInBounds_toArray, List.set_cons_zero, List.set_cons_succ]; try go_bits) | (refine plan_skip1 (by rfl) (by rfl) (by rfl) ?_; simp only [List.setIfInBounds_toArray, List.set_cons_zero, List.set_cons_succ]; try go_bits) | (refine plan_skip2 (by rfl) (by rfl) (by rfl) ?_; simp only [List.setIfInBounds_toArray, List.set_cons_zero, List.set_cons_succ]; try go_bits) | (refine plan_any (by rfl) ?_) | (refine plan_keep (by rfl) ?_) | (refine plan_nil ?_) | (with_reducible refine And.intro (by first | assumption | exact Agree.refl _ _ | exact agree_drew _ _ | exact agree_alloc _ (by intro k hk; subst hk; first | omega | (simp; omega))) ?_) | (unfold Act.put; simp only [List.setIfInBounds_toArray, List.set_cons_zero, List.set_cons_succ]))
  go_ret
  exact ⟨rfl, rfl⟩

theorem free_nil (w : World) : Calls Try.prog 23 #[.pointer none] w fun e w' => e = .returned (.int .i64 0) ∧ w = w' := by
  go_enter Try.func23, Try.ntmps23
  go_wp2
  go_ret
  exact ⟨rfl, rfl⟩

set_option maxHeartbeats 400000 in
theorem at_yes (w : World) (F : Nat → Prop) (b : Nat) (s : QSt) (i : Nat) (h : IsQ w F b s) (hs : QOk s) (hi : i < s.l.length) :
    Calls Try.prog 21 #[.pointer (some ⟨b, 0, none⟩), .int .i64 i] w fun e w' => e = .returned (.tuple #[.int .i64 (s.l.getD i 0), .bool true]) ∧ w = w' := by
  have r1 := hs.room
  have r2 := hs.len
  have hl := len_any w F b s h
  obtain ⟨v, hb, ho, h3, h4, h5⟩ := h
  have hsl := ho.sl (B := fun _ => True) (fun _ _ => trivial)
  obtain ⟨g, off, cap, rfl, hnc, hcm, _, _, hcell⟩ := hsl.place (by omega)
  have c4 : w.cell? ⟨b, 4, none⟩ = some (.slice (some ⟨g, off, none⟩) s.l.length cap) := hb.cell 4
  have ce : w.cell? ⟨g, off + i, none⟩ = some (.int .i64 (s.l.getD i 0)) := by
    rw [hcell i (by simpa [ints] using hi)]
    simp [ints, List.getD, hi]
  have HL := Lib.hid hl
  clear hb ho h3 h4 h5 hs hcell hsl hl
  have d1 : ¬ (i : Int) < 0 := by omega
  have d2 : ¬ (s.l.length : Int) ≤ (i : Int) := by omega
  go_enter Try.func21, Try.ntmps21
  go_wp2_with (go_at_call 22; refine HL.out.mono ?_; rintro e w' ⟨rfl, rfl⟩)
  go_ret2
  exact ⟨by simp [List.getD, hi], rfl⟩

set_option maxHeartbeats 400000 in
theorem at_no (w : World) (F : Nat → Prop) (b : Nat) (s : QSt) (i : Int) (h : IsQ w F b s) (hi : i < 0 ∨ s.l.length ≤ i) :
    Calls Try.prog 21 #[.pointer (some ⟨b, 0, none⟩), .int .i64 i] w fun e w' => e = .returned (.tuple #[.int .i64 0, .bool false]) ∧ w = w' := by
  have HL := Lib.hid (len_any w F b s h)
  clear h
  by_cases h2 : i < 0
  · clear hi
    go_enter Try.func21, Try.ntmps21
    go_wp2
    go_ret2
    exact ⟨rfl, rfl⟩
  · have d2 : (s.l.length : Int) ≤ i := by omega
    clear hi
    go_enter Try.func21, Try.ntmps21
    go_wp2_with (go_at_call 22; refine HL.out.mono ?_; rintro e w' ⟨rfl, rfl⟩)
    go_ret2
    exact ⟨rfl, rfl⟩

theorem at_nil (w : World) (i : Int) :
    Calls Try.prog 21 #[.pointer none, .int .i64 i] w fun e w' => e = .returned (.tuple #[.int .i64 0, .bool false]) ∧ w = w' := by
  have HL := Lib.hid (len_nil w)
  by_cases h2 : i < 0
  · go_enter Try.func21, Try.ntmps21
    go_wp2
    go_ret2
    exact ⟨rfl, rfl⟩
  · have d2 : (0 : Int) ≤ i := by omega
    go_enter Try.func21, Try.ntmps21
    go_wp2_with (go_at_call 22; refine HL.out.mono ?_; rintro e w' ⟨rfl, rfl⟩)
    go_ret2
    exact ⟨rfl, rfl⟩

theorem came_any (b : Nat) (c m n k : Int) (w : World)
    (h0 : w.cell? ⟨b, 0, none⟩ = some (.int .i64 c)) (h3 : w.cell? ⟨b, 3, none⟩ = some (.int .i64 m))
    (f : ∀ i, w.frozen? ⟨b, i, none⟩ = false)
    (b1 : 0 ≤ c) (b2 : c ≤ 1000000000) (b3 : 0 ≤ n) (b4 : n ≤ 1000000000) :
    Calls Try.prog 49 #[.pointer (some ⟨b, 0, none⟩), .int .i64 n, .int .i64 k] w fun e w' =>
      e = .returned (.tuple #[]) ∧ w' = (w.setCell ⟨b, 0, none⟩ (.int .i64 (c + n))).setCell ⟨b, 3, none⟩ (.int .i64 (max m k)) := by
  by_cases hmk : m < k
  · have e1 : max m k = k := by omega
    rw [e1]
    clear e1
    go_enter Try.func49, Try.ntmps49
    go_wp2
    go_end0
    exact ⟨rfl, rfl⟩
  · have e1 : max m k = m := by omega
    rw [e1]
    clear e1
    go_enter Try.func49, Try.ntmps49
    go_wp2
    go_end0
    exact ⟨rfl, rfl⟩
end Go.Proofs.Ytdoidpiomonagaa
