/- Contracts of package queue at int: Put, Take, Remove, Counts. -/
import Derived.Test.YtdoidpiomonagaaQueueA
namespace Go.Proofs.Ytdoidpiomonagaa
open Go.RowKit Go.Afx

/-- From one holder's blocks to the next: only those have turned; the new ones are those, or fresh. -/
def Evolves (F : Nat → Prop) (w w' : World) (F' : Nat → Prop) : Prop := Only F w w' ∧ ∀ k, F' k → F k ∨ (w.heap.size ≤ k ∧ k < w'.heap.size)

def QSt.put (s : QSt) (x : List Int) : QSt :=
  ⟨s.came + (min x.length (s.room - s.l.length) : Nat), s.went, s.refused + (x.length - min x.length (s.room - s.l.length) : Nat),
    max s.most (s.l ++ x.take (s.room - s.l.length)).length, s.l ++ x.take (s.room - s.l.length), s.room⟩

/-- How many are put, and the error. -/
def QSt.kput (s : QSt) (x : List Int) : Nat := min x.length (s.room - s.l.length)
def QSt.perr (s : QSt) (x : List Int) : Int := if s.room - s.l.length < x.length then 18 else 0

set_option maxRecDepth 100000 in
set_option maxHeartbeats 1000000 in
theorem put_any (w : World) (F : Nat → Prop) (b : Nat) (s : QSt) (h : IsQ w F b s) (hs : QOk s) (B : Nat → Prop) (iv : Value) (x : List Int) (hx : Sl w B 1 iv x.length (ints x)) (hxl : x.length ≤ 10000) :
    Calls Try.prog 15 #[.pointer (some ⟨b, 0, none⟩), iv] w fun e w' =>
      e = .returned (.tuple #[.int .i64 (s.kput x), .int .i64 (s.perr x)]) ∧ ∃ F', IsQ w' F' b (s.put x) ∧ Evolves F w w' F' := by
  have q1 := hs.room
  have q2 := hs.len
  have q3 := hs.c0
  have q4 := hs.c1
  have q5 := hs.r0
  have q6 := hs.r1
  have hf := Lib.hid (free_any w F b s h hs)
  obtain ⟨v, hb, ho, h3, h4, h5⟩ := h
  obtain ⟨p, cap, rfl, _, _⟩ := own_form ho
  have c4 : w.cell? ⟨b, 4, none⟩ = some (.slice p s.l.length cap) := hb.cell 4
  obtain ⟨ip, icap, rfl, hic, _⟩ := hx.form
  have hb2 : Blk w.drew.drew b 81 (s.cells (.slice p s.l.length cap)) := hb
  have ho2 : Own w.drew.drew 3 1 (.slice p s.l.length cap) s.l.length (ints s.l) := ho
  by_cases d : s.room - s.l.length < x.length
  · have hx2 : Sl w.drew.drew B 1 (.slice ip (s.room - s.l.length) icap) (s.room - s.l.length) (ints (x.take (s.room - s.l.length))) := by
      have := hx.take (m := s.room - s.l.length) (by omega)
      rw [Nat.mul_one, ints_take] at this
      exact this
    have d2 : (s.room : Int) - s.l.length < x.length := by omega
    have e1 : min x.length (s.room - s.l.length) = s.room - s.l.length := by omega
    have k1 : (s.room : Int) - s.l.length ≤ icap := by omega
    have E1 := Lib.hid e1
    clear hb ho hx hs e1
    go_enter Try.func15, Try.ntmps15
    go_wp2_with (go_at_call 23; refine hf.out.mono ?_; rintro e w' ⟨rfl, rfl⟩)
    refine wp_region_lit_plan [] [(0, 0), (1, 0), (2, 0), (3, 0), (5, 0), (6, 0), (7, 0), (4, 1), (8, 4), (9, 0), (10, 0), (11, 4)] (fun _ => False) (by kernel_rfl) (by kernel_rfl) (fun c a d v w h => by cases d <;> exact h) ?_
    go_wp2_with (first
      | (refine plan_pure (v := _) (by rfl) (by rfl) (by rfl) (by intro _; go_simp; with_reducible rfl) ?_; simp only [List.setIfInBounds_toArray, List.set_cons_zero, List.set_cons_succ]; try go_bits) | (refine plan_read (v := _) (by rfl) (by rfl) (by rfl) (by go_simp; with_reducible rfl) ?_; simp only [List.setIfInBounds_toArray, List.set_cons_zero, List.set_cons_succ]; try go_bits) | (refine plan_readB (v := _) (by rfl) (by rfl) (by rfl) (by intro _ hag; unfold Agree at hag; go_simp; with_reducible rfl) ?_; simp only [List.setIfInBounds_toArray, List.set_cons_zero, List.set_cons_succ]; try go_bits) | (refine plan_skip0 (by rfl) (by rfl) (by rfl) ?_; simp only [List.setIfInBounds_toArray, List.set_cons_zero, List.set_cons_succ]; try go_bits) | (refine plan_skip1 (by rfl) (by rfl) (by rfl) ?_; simp only [List.setIfInBounds_toArray, List.set_cons_zero, List.set_cons_succ]; try go_bits) | (refine plan_skip2 (by rfl) (by rfl) (by rfl) ?_; simp only [List.setIfInBounds_toArray, List.set_cons_zero, List.set_cons_succ]; try go_bits) | (refine plan_any (by rfl) ?_) | (refine plan_keep (by rfl) ?_) | (refine plan_nil ?_) | (with_reducible refine And.intro (by first | assumption | exact Agree.refl _ _ | exact agree_drew _ _ | exact agree_alloc _ (by intro k hk; subst hk; first | omega | (simp; omega))) ?_) | (unfold Act.put; simp only [List.setIfInBounds_toArray, List.set_cons_zero, List.set_cons_succ])
      | (at_builtin; refine wpList_app rfl _ _ rfl elemInt (by rfl) ho2 (by rfl) hx2 (by unfold maxLen; omega) (by omega) ?_; intro v' w1 g1 g2 g3 g4 g5;
         obtain ⟨p', cap', rfl, _, _⟩ := own_form g1; have hb1 := hb2.only g2 (fun he => h3 he);
         have e0 : w1.cell? ⟨b, 0, none⟩ = some (.int .i64 s.came) := hb1.cell 0; have e2 : w1.cell? ⟨b, 2, none⟩ = some (.int .i64 s.refused) := hb1.cell 2;
         have e3 : w1.cell? ⟨b, 3, none⟩ = some (.int .i64 s.most) := hb1.cell 3; have e4 : w1.cell? ⟨b, 4, none⟩ = some (.slice p s.l.length cap) := hb1.cell 4;
         have f1 : ∀ i, w1.frozen? ⟨b, i, none⟩ = false := hb1.frozen))
    refine wp_region_lit_plan [] [(0, 0), (1, 0), (2, 0), (3, 0), (4, 0), (5, 0), (6, 0), (7, 1), (8, 0), (9, 4)] (fun _ => False) (by kernel_rfl) (by kernel_rfl) (fun c a d v w h => by cases d <;> exact h) ?_
    go_wp2_with (first
      | (refine plan_pure (v := _) (by rfl) (by rfl) (by rfl) (by intro _; go_simp; with_reducible rfl) ?_; simp only [List.setIfInBounds_toArray, List.set_cons_zero, List.set_cons_succ]; try go_bits) | (refine plan_read (v := _) (by rfl) (by rfl) (by rfl) (by go_simp; with_reducible rfl) ?_; simp only [List.setIfInBounds_toArray, List.set_cons_zero, List.set_cons_succ]; try go_bits) | (refine plan_readB (v := _) (by rfl) (by rfl) (by rfl) (by intro _ hag; unfold Agree at hag; go_simp; with_reducible rfl) ?_; simp only [List.setIfInBounds_toArray, List.set_cons_zero, List.set_cons_succ]; try go_bits) | (refine plan_skip0 (by rfl) (by rfl) (by rfl) ?_; simp only [List.setIfInBounds_toArray, List.set_cons_zero, List.set_cons_succ]; try go_bits) | (refine plan_skip1 (by rfl) (by rfl) (by rfl) ?_; simp only [List.setIfInBounds_toArray, List.set_cons_zero, List.set_cons_succ]; try go_bits) | (refine plan_skip2 (by rfl) (by rfl) (by rfl) ?_; simp only [List.setIfInBounds_toArray, List.set_cons_zero, List.set_cons_succ]; try go_bits) | (refine plan_any (by rfl) ?_) | (refine plan_keep (by rfl) ?_) | (refine plan_nil ?_) | (with_reducible refine And.intro (by first | assumption | exact Agree.refl _ _ | exact agree_drew _ _ | exact agree_alloc _ (by intro k hk; subst hk; first | omega | (simp; omega))) ?_) | (unfold Act.put; simp only [List.setIfInBounds_toArray, List.set_cons_zero, List.set_cons_succ])
      | (go_at_call 49; refine (came_any b s.came s.most _ _ _ (by go_simp) (by go_simp) (by intro i; go_simp) (by omega) (by omega) (by omega) (by omega)).mono ?_; rintro e w' ⟨rfl, rfl⟩))
    have z5 : s.l.length + (s.room - s.l.length) = s.room := by omega
    have z4 : (s.l ++ x.take (s.room - s.l.length)).length = s.room := by simp; omega
    have z1 : ((s.room - s.l.length : Nat) : Int) = s.room - s.l.length := by omega
    have z2 : ((x.length - (s.room - s.l.length) : Nat) : Int) = x.length - (s.room - s.l.length) := by omega
    rw [z5] at g1 g3
    rw [← ints_append] at g1
    have ho1 : Only F w w1 := ((Only.refl F w).drew.drew).trans g2 (fun i _ hi => h5 i hi)
    have hnb : (Value.slice p' s.room cap').ownBlock ≠ some b := by
      intro he
      have g3' : (Value.slice p' s.room cap').ownBlock = (Value.slice p s.l.length cap).ownBlock ∨ (Value.slice p' s.room cap').ownBlock = some w.heap.size := g3
      rcases g3' with g3 | g3
      · exact h3 (g3.symm.trans he)
      · rw [g3] at he
        have := hb2.lt
        simp at he this
        omega
    go_ret2
    refine ⟨by simp [QSt.kput, QSt.perr, E1.out, z1, d], fun k => F k ∨ (Value.slice p' s.room cap').ownBlock = some k, ⟨.slice p' s.room cap', ?_, ?_, hnb, .inl h4, fun k hk => .inr hk⟩, ?_, ?_⟩
    · refine Blk.congr (by repeat (with_reducible first | exact hb1 | apply Blk.drew | apply Blk.set)) ?_
      simp [QSt.cells, QSt.put, E1.out, z1, z2, z4]
    · have : (s.put x).l.length = s.room := z4
      rw [this]
      exact ((((g1.setOther (p := ⟨b, 4, none⟩) hnb _).setOther (p := ⟨b, 0, none⟩) hnb _).setOther (p := ⟨b, 3, none⟩) hnb _).setOther (p := ⟨b, 2, none⟩) hnb _).drew
    · repeat (with_reducible first | exact ho1 | apply Only.drew | (refine Only.setCell ?_ (fun _ => h4) _))
    · intro k hk
      rcases hk with hk | hk
      · exact .inl hk
      · have g3' : (Value.slice p' s.room cap').ownBlock = (Value.slice p s.l.length cap).ownBlock ∨ (Value.slice p' s.room cap').ownBlock = some w.heap.size := g3
        rcases g3' with g3 | g3
        · exact .inl (h5 k (g3.symm.trans hk))
        · have hlt := g1.lt k hk
          rw [g3] at hk
          simp at hk
          exact .inr ⟨by omega, by simpa using hlt⟩
  · have hx2 : Sl w.drew.drew B 1 (.slice ip x.length icap) x.length (ints x) := by
      exact hx
    have d2 : ¬ (s.room : Int) - s.l.length < x.length := by omega
    have e1 : min x.length (s.room - s.l.length) = x.length := by omega
    have d3 : ¬ (x.length : Int) < x.length := by omega
    have e6 : x.take (s.room - s.l.length) = x := List.take_of_length_le (by omega)
    have E6 := Lib.hid e6
    clear e6
    have E1 := Lib.hid e1
    clear hb ho hx hs e1
    go_enter Try.func15, Try.ntmps15
    go_wp2_with (go_at_call 23; refine hf.out.mono ?_; rintro e w' ⟨rfl, rfl⟩)
    refine wp_region_lit_plan [] [(0, 0), (1, 0), (2, 0), (3, 0), (5, 0), (6, 0), (7, 0), (4, 1), (8, 4), (9, 0), (10, 0), (11, 4)] (fun _ => False) (by kernel_rfl) (by kernel_rfl) (fun c a d v w h => by cases d <;> exact h) ?_
    go_wp2_with (first
      | (refine plan_pure (v := _) (by rfl) (by rfl) (by rfl) (by intro _; go_simp; with_reducible rfl) ?_; simp only [List.setIfInBounds_toArray, List.set_cons_zero, List.set_cons_succ]; try go_bits) | (refine plan_read (v := _) (by rfl) (by rfl) (by rfl) (by go_simp; with_reducible rfl) ?_; simp only [List.setIfInBounds_toArray, List.set_cons_zero, List.set_cons_succ]; try go_bits) | (refine plan_readB (v := _) (by rfl) (by rfl) (by rfl) (by intro _ hag; unfold Agree at hag; go_simp; with_reducible rfl) ?_; simp only [List.setIfInBounds_toArray, List.set_cons_zero, List.set_cons_succ]; try go_bits) | (refine plan_skip0 (by rfl) (by rfl) (by rfl) ?_; simp only [List.setIfInBounds_toArray, List.set_cons_zero, List.set_cons_succ]; try go_bits) | (refine plan_skip1 (by rfl) (by rfl) (by rfl) ?_; simp only [List.setIfInBounds_toArray, List.set_cons_zero, List.set_cons_succ]; try go_bits) | (refine plan_skip2 (by rfl) (by rfl) (by rfl) ?_; simp only [List.setIfInBounds_toArray, List.set_cons_zero, List.set_cons_succ]; try go_bits) | (refine plan_any (by rfl) ?_) | (refine plan_keep (by rfl) ?_) | (refine plan_nil ?_) | (with_reducible refine And.intro (by first | assumption | exact Agree.refl _ _ | exact agree_drew _ _ | exact agree_alloc _ (by intro k hk; subst hk; first | omega | (simp; omega))) ?_) | (unfold Act.put; simp only [List.setIfInBounds_toArray, List.set_cons_zero, List.set_cons_succ])
      | (at_builtin; refine wpList_app rfl _ _ rfl elemInt (by rfl) ho2 (by rfl) hx2 (by unfold maxLen; omega) (by omega) ?_; intro v' w1 g1 g2 g3 g4 g5;
         obtain ⟨p', cap', rfl, _, _⟩ := own_form g1; have hb1 := hb2.only g2 (fun he => h3 he);
         have e0 : w1.cell? ⟨b, 0, none⟩ = some (.int .i64 s.came) := hb1.cell 0; have e2 : w1.cell? ⟨b, 2, none⟩ = some (.int .i64 s.refused) := hb1.cell 2;
         have e3 : w1.cell? ⟨b, 3, none⟩ = some (.int .i64 s.most) := hb1.cell 3; have e4 : w1.cell? ⟨b, 4, none⟩ = some (.slice p s.l.length cap) := hb1.cell 4;
         have f1 : ∀ i, w1.frozen? ⟨b, i, none⟩ = false := hb1.frozen))
    refine wp_region_lit_plan [] [(0, 0), (1, 0), (2, 0), (3, 0), (4, 0), (5, 0), (6, 0), (7, 1), (8, 0), (9, 4)] (fun _ => False) (by kernel_rfl) (by kernel_rfl) (fun c a d v w h => by cases d <;> exact h) ?_
    go_wp2_with (first
      | (refine plan_pure (v := _) (by rfl) (by rfl) (by rfl) (by intro _; go_simp; with_reducible rfl) ?_; simp only [List.setIfInBounds_toArray, List.set_cons_zero, List.set_cons_succ]; try go_bits) | (refine plan_read (v := _) (by rfl) (by rfl) (by rfl) (by go_simp; with_reducible rfl) ?_; simp only [List.setIfInBounds_toArray, List.set_cons_zero, List.set_cons_succ]; try go_bits) | (refine plan_readB (v := _) (by rfl) (by rfl) (by rfl) (by intro _ hag; unfold Agree at hag; go_simp; with_reducible rfl) ?_; simp only [List.setIfInBounds_toArray, List.set_cons_zero, List.set_cons_succ]; try go_bits) | (refine plan_skip0 (by rfl) (by rfl) (by rfl) ?_; simp only [List.setIfInBounds_toArray, List.set_cons_zero, List.set_cons_succ]; try go_bits) | (refine plan_skip1 (by rfl) (by rfl) (by rfl) ?_; simp only [List.setIfInBounds_toArray, List.set_cons_zero, List.set_cons_succ]; try go_bits) | (refine plan_skip2 (by rfl) (by rfl) (by rfl) ?_; simp only [List.setIfInBounds_toArray, List.set_cons_zero, List.set_cons_succ]; try go_bits) | (refine plan_any (by rfl) ?_) | (refine plan_keep (by rfl) ?_) | (refine plan_nil ?_) | (with_reducible refine And.intro (by first | assumption | exact Agree.refl _ _ | exact agree_drew _ _ | exact agree_alloc _ (by intro k hk; subst hk; first | omega | (simp; omega))) ?_) | (unfold Act.put; simp only [List.setIfInBounds_toArray, List.set_cons_zero, List.set_cons_succ])
      | (go_at_call 49; refine (came_any b s.came s.most _ _ _ (by go_simp) (by go_simp) (by intro i; go_simp) (by omega) (by omega) (by omega) (by omega)).mono ?_; rintro e w' ⟨rfl, rfl⟩))
    have z4 : (s.l ++ x).length = s.l.length + x.length := by simp
    rw [← ints_append] at g1
    have ho1 : Only F w w1 := ((Only.refl F w).drew.drew).trans g2 (fun i _ hi => h5 i hi)
    have hnb : (Value.slice p' (s.l.length + x.length) cap').ownBlock ≠ some b := by
      intro he
      have g3' : (Value.slice p' (s.l.length + x.length) cap').ownBlock = (Value.slice p s.l.length cap).ownBlock ∨ (Value.slice p' (s.l.length + x.length) cap').ownBlock = some w.heap.size := g3
      rcases g3' with g3 | g3
      · exact h3 (g3.symm.trans he)
      · rw [g3] at he
        have := hb2.lt
        simp at he this
        omega
    go_ret2
    refine ⟨by simp [QSt.kput, QSt.perr, E1.out, d], fun k => F k ∨ (Value.slice p' (s.l.length + x.length) cap').ownBlock = some k, ⟨.slice p' (s.l.length + x.length) cap', ?_, ?_, hnb, .inl h4, fun k hk => .inr hk⟩, ?_, ?_⟩
    · refine Blk.congr (by repeat (with_reducible first | exact hb1 | apply Blk.drew | apply Blk.set)) ?_
      simp [QSt.cells, QSt.put, E1.out, E6.out]
    · have e7 : (s.put x).l = s.l ++ x := by simp [QSt.put, E6.out]
      rw [e7, z4]
      exact ((((g1.setOther (p := ⟨b, 4, none⟩) hnb _).setOther (p := ⟨b, 0, none⟩) hnb _).setOther (p := ⟨b, 3, none⟩) hnb _).setOther (p := ⟨b, 2, none⟩) hnb _).drew
    · repeat (with_reducible first | exact ho1 | apply Only.drew | (refine Only.setCell ?_ (fun _ => h4) _))
    · intro k hk
      rcases hk with hk | hk
      · exact .inl hk
      · have g3' : (Value.slice p' (s.l.length + x.length) cap').ownBlock = (Value.slice p s.l.length cap).ownBlock ∨ (Value.slice p' (s.l.length + x.length) cap').ownBlock = some w.heap.size := g3
        rcases g3' with g3 | g3
        · exact .inl (h5 k (g3.symm.trans hk))
        · have hlt := g1.lt k hk
          rw [g3] at hk
          simp at hk
          exact .inr ⟨by omega, by simpa using hlt⟩
end Go.Proofs.Ytdoidpiomonagaa
