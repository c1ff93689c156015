/- Contracts of package queue at int: Counts, Take, Remove. -/
import Derived.Test.YtdoidpiomonagaaQueueB
namespace Go.Proofs.Ytdoidpiomonagaa
open Go.RowKit Go.Afx

theorem counts_any (w : World) (F : Nat → Prop) (b : Nat) (s : QSt) (h : IsQ w F b s) :
    Calls Try.prog 20 #[.pointer (some ⟨b, 0, none⟩)] w fun e w' =>
      e = .returned (.agg #[.int .i64 s.came, .int .i64 s.went, .int .i64 s.refused, .int .i64 s.most]) ∧ Below w.heap.size w w' := by
  obtain ⟨v, hb, ho, h3, h4, h5⟩ := h
  have c0 : w.cell? ⟨b, 0, none⟩ = some (.int .i64 s.came) := hb.cell 0
  have c1 : w.cell? ⟨b, 1, none⟩ = some (.int .i64 s.went) := hb.cell 1
  have c2 : w.cell? ⟨b, 2, none⟩ = some (.int .i64 s.refused) := hb.cell 2
  have c3 : w.cell? ⟨b, 3, none⟩ = some (.int .i64 s.most) := hb.cell 3
  have hlt := hb.lt
  clear hb ho h3 h4 h5
  go_enter Try.func20, Try.ntmps20
  go_wp2
  refine bodyPost_ret (v := .agg #[.int .i64 s.came, .int .i64 s.went, .int .i64 s.refused, .int .i64 s.most]) (by simp [results, Try.results20, go_sem]) rfl ⟨rfl, ?_⟩
  repeat (with_reducible first | exact Below.refl _ _ | (refine Below.alloc ?_ (by simp) _) | (refine Below.setCell ?_ (by simp) _))

theorem counts_nil (w : World) :
    Calls Try.prog 20 #[.pointer none] w fun e w' =>
      e = .returned (.agg #[.int .i64 0, .int .i64 0, .int .i64 0, .int .i64 0]) ∧ Below w.heap.size w w' := by
  go_enter Try.func20, Try.ntmps20
  go_wp2
  refine bodyPost_ret (v := .agg #[.int .i64 0, .int .i64 0, .int .i64 0, .int .i64 0]) (by simp [results, Try.results20, go_sem]) rfl ⟨rfl, ?_⟩
  repeat (with_reducible first | exact Below.refl _ _ | (refine Below.alloc ?_ (by simp) _) | (refine Below.setCell ?_ (by simp) _))

def QSt.took (s : QSt) (k : Nat) : QSt := ⟨s.came, s.went + k, s.refused, s.most, s.l.drop k, s.room⟩

/-- What Take leaves. -/
def Took (w : World) (F : Nat → Prop) (b : Nat) (s : QSt) (k : Nat) (e : Ending) (w' : World) : Prop :=
  ∃ v', e = .returned v' ∧ Own w' 3 1 v' k (ints (s.l.take k)) ∧ IsQ w' F b (s.took k) ∧ Only F w w' ∧ ∀ g, v'.ownBlock = some g → w.heap.size ≤ g

set_option maxHeartbeats 400000 in
theorem take_none (w : World) (F : Nat → Prop) (b : Nat) (s : QSt) (n : Int) (h : IsQ w F b s) (hn : n ≤ 0 ∨ s.l = []) :
    Calls Try.prog 17 #[.pointer (some ⟨b, 0, none⟩), .int .i64 n] w (Took w F b s 0) := by
  have HL := Lib.hid (len_any w F b s h)
  have fin : Took w F b s 0 (.returned (.slice none 0 0)) w := ⟨_, rfl, by simpa [ints] using Own.nil w _ _, by simpa [QSt.took] using h, Only.refl _ _, by simp [Value.ownBlock]⟩
  have FIN := Lib.hid fin
  clear h fin
  by_cases d1 : n ≤ 0
  · have d2 : ¬ (0 : Int) < n := by omega
    have d3 : n = 0 ∨ n < 0 := by omega
    have d4 : ¬ (s.l.length : Int) < 0 := by omega
    clear hn
    rcases d3 with rfl | d3
    all_goals
      go_enter Try.func17, Try.ntmps17
      go_wp2_with (go_at_call 22; refine HL.out.mono ?_; rintro e w' ⟨rfl, rfl⟩)
      go_ret
      exact FIN.out
  · have d2 : s.l.length = 0 := by rcases hn with h | h; · omega
                                   · simp [h]
    have d3 : ¬ n < 0 := by omega
    have d4 : (s.l.length : Int) < n := by omega
    clear hn
    go_enter Try.func17, Try.ntmps17
    go_wp2_with (go_at_call 22; refine HL.out.mono ?_; rintro e w' ⟨rfl, rfl⟩)
    go_ret
    exact FIN.out

theorem take_nil (w : World) (n : Int) : Calls Try.prog 17 #[.pointer none, .int .i64 n] w fun e w' => e = .returned (.slice none 0 0) ∧ w = w' := by
  have HL := Lib.hid (len_nil w)
  by_cases d1 : n < 0
  · go_enter Try.func17, Try.ntmps17
    go_wp2_with (go_at_call 22; refine HL.out.mono ?_; rintro e w' ⟨rfl, rfl⟩)
    go_ret
    exact ⟨rfl, rfl⟩
  · by_cases d2 : n = 0
    · subst d2
      go_enter Try.func17, Try.ntmps17
      go_wp2_with (go_at_call 22; refine HL.out.mono ?_; rintro e w' ⟨rfl, rfl⟩)
      go_ret
      exact ⟨rfl, rfl⟩
    · have d3 : (0 : Int) < n := by omega
      clear d2
      go_enter Try.func17, Try.ntmps17
      go_wp2_with (go_at_call 22; refine HL.out.mono ?_; rintro e w' ⟨rfl, rfl⟩)
      go_ret
      exact ⟨rfl, rfl⟩

set_option maxRecDepth 100000 in
set_option maxHeartbeats 1000000 in
theorem take_some (w : World) (F : Nat → Prop) (b : Nat) (s : QSt) (n : Int) (k : Nat) (h : IsQ w F b s) (hs : QOk s) (hk : 0 < k) (hkl : k ≤ s.l.length) (hn : n = k ∨ ((s.l.length : Int) < n ∧ k = s.l.length)) :
    Calls Try.prog 17 #[.pointer (some ⟨b, 0, none⟩), .int .i64 n] w (Took w F b s k) := by
  have q1 := hs.room
  have q2 := hs.len
  have q3 := hs.w0
  have q4 := hs.w1
  have HL := Lib.hid (len_any w F b s h)
  obtain ⟨v, hb, ho, h3, h4, h5⟩ := h
  rcases ho.2.2 with ⟨_, h0⟩ | ⟨g, off, cap, cur, rfl, hbk, hnc, hcm, hcs, htake⟩
  · omega
  have hgb : ¬ g = b := fun e => h3 (by simp [Value.ownBlock, e])
  have hFg : F g := h5 g rfl
  unfold maxLen at hcm
  have c4 : w.cell? ⟨b, 4, none⟩ = some (.slice (some ⟨g, off, none⟩) s.l.length cap) := hb.cell 4
  have hcl := clone_int w (fun _ => True) _ k _ ((ho.take hkl).sl (B := fun _ => True) (fun _ _ => trivial)) (by omega)
  rw [Nat.mul_one, ints_take] at hcl
  have HC := Lib.hid hcl
  have D1 := Lib.hid hn
  have d1 : ¬ n < 0 := by omega
  have d2 : k ≤ cap := by omega
  have d4 : ¬ k = 0 := by omega
  have HB := Lib.hid hb
  have HO := Lib.hid ho
  clear hb ho hs hbk htake hcl h5
  have walk : ∀ (w1 : World) (v1 : Value), Own w1 3 1 v1 k (ints (s.l.take k)) → Below w.heap.size w w1 → (∀ g, v1.ownBlock = some g → w.heap.size ≤ g) →
      ∀ w2, Own w2 3 1 (.slice (some ⟨g, off, none⟩) (0 + (s.l.length - k)) cap) (0 + (s.l.length - k)) ((ints s.l).take 0 ++ (ints s.l).drop k) → Only (fun k => k = g) w1 w2 →
      Took w F b s k (.returned v1) ((w2.setCell ⟨b, 4, none⟩ (.slice (some ⟨g, off, none⟩) (s.l.length - k) cap)).setCell ⟨b, 1, none⟩ (.int .i64 (s.went + k))) := by
    intro w1 v1 g1 g2 g3 w2 g4 g5
    rw [Nat.zero_add, List.take_zero, List.nil_append, ints_drop] at g4
    have hb1 := HB.out.below g2
    have hb2 := hb1.only g5 (fun e => hgb e.symm)
    have hlt1 : b < w.heap.size := HB.out.lt
    have hlt2 : g < w.heap.size := HO.out.lt g rfl
    have hv1 : ∀ p : Addr, p.block < w.heap.size → v1.ownBlock ≠ some p.block := fun p hp he => by have := g3 _ he; omega
    have o1 := ((g1.only g5 (fun k hk e => by subst e; exact hv1 ⟨k, 0, none⟩ hlt2 hk)).setOther (p := ⟨b, 4, none⟩) (hv1 _ hlt1) (.slice (some ⟨g, off, none⟩) (s.l.length - k) cap)).setOther (p := ⟨b, 1, none⟩) (hv1 _ hlt1) (.int .i64 (s.went + k))
    have hgb' : (Value.slice (some ⟨g, off, none⟩) (s.l.length - k) cap).ownBlock ≠ some b := by simpa [Value.ownBlock] using hgb
    refine ⟨v1, rfl, o1, ⟨.slice (some ⟨g, off, none⟩) (s.l.length - k) cap, ?_, ?_, hgb', h4, by intro q hq; simp [Value.ownBlock] at hq; subst hq; exact hFg⟩, ?_, g3⟩
    · refine Blk.congr (by repeat (with_reducible first | exact hb2 | apply Blk.drew | apply Blk.set)) ?_
      simp [QSt.cells, QSt.took]
    · have : (s.took k).l.length = s.l.length - k := by simp [QSt.took]
      rw [this]
      exact (g4.setOther (p := ⟨b, 4, none⟩) hgb' _).setOther (p := ⟨b, 1, none⟩) hgb' _
    · have o2 : Only F w w2 := (Only.of_none g2).trans g5 (fun i _ e => by subst e; exact hFg)
      exact (o2.setCell (fun _ => h4) _).setCell (fun _ => h4) _
  have WALK := Lib.hid walk
  clear walk
  have dk : ((k : Int) == 0) = false := by rw [beq_eq_false_iff_ne]; omega
  rcases D1.out with rfl | ⟨d5, rfl⟩
  · have d7 : ¬ (s.l.length : Int) < k := by omega
    clear D1
    go_enter Try.func17, Try.ntmps17
    go_wp2_with (first
      | (go_at_call 22; refine HL.out.mono ?_; rintro e w' ⟨rfl, rfl⟩)
      | (go_at_call 50; refine HC.out.mono ?_; rintro e w1 ⟨v1, rfl, g1, g2, g3⟩;
         have e4 : w1.cell? ⟨b, 4, none⟩ = some (.slice (some ⟨g, off, none⟩) s.l.length cap) := (HB.out.below g2).cell 4)
      | (go_at_call 51; refine (delete_int w1 g off cap s.l.length 0 k (ints s.l) (HO.out.below g2) (by omega) hk hkl).mono ?_; rintro e w2 ⟨rfl, g4, g5, _⟩;
         have e1 : w2.cell? ⟨b, 1, none⟩ = some (.int .i64 s.went) := ((HB.out.below g2).only g5 (fun e => hgb e.symm)).cell 1;
         have f1 : ∀ i, w2.frozen? ⟨b, i, none⟩ = false := ((HB.out.below g2).only g5 (fun e => hgb e.symm)).frozen;
         have e4 : w2.cell? ⟨b, 4, none⟩ = some (.slice (some ⟨g, off, none⟩) s.l.length cap) := ((HB.out.below g2).only g5 (fun e => hgb e.symm)).cell 4))
    go_ret
    exact WALK.out _ _ g1 g2 g3 _ g4 g5
  · clear D1
    go_enter Try.func17, Try.ntmps17
    go_wp2_with (first
      | (go_at_call 22; refine HL.out.mono ?_; rintro e w' ⟨rfl, rfl⟩)
      | (go_at_call 50; refine HC.out.mono ?_; rintro e w1 ⟨v1, rfl, g1, g2, g3⟩;
         have e4 : w1.cell? ⟨b, 4, none⟩ = some (.slice (some ⟨g, off, none⟩) s.l.length cap) := (HB.out.below g2).cell 4)
      | (go_at_call 51; refine (delete_int w1 g off cap s.l.length 0 s.l.length (ints s.l) (HO.out.below g2) (by omega) hk hkl).mono ?_; rintro e w2 ⟨rfl, g4, g5, _⟩;
         have e1 : w2.cell? ⟨b, 1, none⟩ = some (.int .i64 s.went) := ((HB.out.below g2).only g5 (fun e => hgb e.symm)).cell 1;
         have f1 : ∀ i, w2.frozen? ⟨b, i, none⟩ = false := ((HB.out.below g2).only g5 (fun e => hgb e.symm)).frozen;
         have e4 : w2.cell? ⟨b, 4, none⟩ = some (.slice (some ⟨g, off, none⟩) s.l.length cap) := ((HB.out.below g2).only g5 (fun e => hgb e.symm)).cell 4))
    go_ret
    have fin := WALK.out _ _ g1 g2 g3 _ g4 g5
    simp only [Nat.sub_self] at fin
    exact fin

/-- Take, whatever is asked. -/
theorem take_any (w : World) (F : Nat → Prop) (b : Nat) (s : QSt) (n : Int) (h : IsQ w F b s) (hs : QOk s) :
    Calls Try.prog 17 #[.pointer (some ⟨b, 0, none⟩), .int .i64 n] w (Took w F b s (min n.toNat s.l.length)) := by
  by_cases h1 : n ≤ 0 ∨ s.l = []
  · have e : min n.toNat s.l.length = 0 := by
      rcases h1 with h1 | h1
      · omega
      · simp [h1]
    rw [e]
    exact take_none w F b s n h h1
  · have hl : 0 < s.l.length := by
      rcases Nat.eq_zero_or_pos s.l.length with h2 | h2
      · exact absurd (.inr (List.eq_nil_of_length_eq_zero h2)) h1
      · exact h2
    have hn : 0 < n := by
      rcases Int.lt_or_le 0 n with h2 | h2
      · exact h2
      · exact absurd (.inl h2) h1
    exact take_some w F b s n _ h hs (by omega) (by omega) (by omega)

def QSt.removed (s : QSt) (i : Nat) : QSt := ⟨s.came, s.went + 1, s.refused, s.most, s.l.take i ++ s.l.drop (i + 1), s.room⟩

set_option maxHeartbeats 400000 in
theorem remove_no (w : World) (F : Nat → Prop) (b : Nat) (s : QSt) (i : Int) (h : IsQ w F b s) (hi : i < 0 ∨ s.l.length ≤ i) :
    Calls Try.prog 18 #[.pointer (some ⟨b, 0, none⟩), .int .i64 i] w fun e w' => e = .returned (.tuple #[.int .i64 0, .bool false]) ∧ w = w' := by
  have HA := Lib.hid (at_no w F b s i h hi)
  clear h hi
  go_enter Try.func18, Try.ntmps18
  go_wp2_with (go_at_call 21; refine HA.out.mono ?_; rintro e w' ⟨rfl, rfl⟩)
  go_ret2
  exact ⟨rfl, rfl⟩

theorem remove_nil (w : World) (i : Int) :
    Calls Try.prog 18 #[.pointer none, .int .i64 i] w fun e w' => e = .returned (.tuple #[.int .i64 0, .bool false]) ∧ w = w' := by
  have HA := Lib.hid (at_nil w i)
  go_enter Try.func18, Try.ntmps18
  go_wp2_with (go_at_call 21; refine HA.out.mono ?_; rintro e w' ⟨rfl, rfl⟩)
  go_ret2
  exact ⟨rfl, rfl⟩

set_option maxRecDepth 100000 in
set_option maxHeartbeats 1000000 in
theorem remove_yes (w : World) (F : Nat → Prop) (b : Nat) (s : QSt) (i : Nat) (h : IsQ w F b s) (hs : QOk s) (hi : i < s.l.length) :
    Calls Try.prog 18 #[.pointer (some ⟨b, 0, none⟩), .int .i64 i] w fun e w' =>
      e = .returned (.tuple #[.int .i64 (s.l.getD i 0), .bool true]) ∧ IsQ w' F b (s.removed i) ∧ Only F w w' := by
  have q1 := hs.room
  have q2 := hs.len
  have q3 := hs.w0
  have q4 := hs.w1
  have HA := Lib.hid (at_yes w F b s i h hs hi)
  obtain ⟨v, hb, ho, h3, h4, h5⟩ := h
  rcases ho.2.2 with ⟨_, h0⟩ | ⟨g, off, cap, cur, rfl, hbk, hnc, hcm, hcs, htake⟩
  · omega
  have hgb : ¬ g = b := fun e => h3 (by simp [Value.ownBlock, e])
  have hFg : F g := h5 g rfl
  have c4 : w.cell? ⟨b, 4, none⟩ = some (.slice (some ⟨g, off, none⟩) s.l.length cap) := hb.cell 4
  have HB := Lib.hid hb
  have HO := Lib.hid ho
  generalize hx : s.l.getD i 0 = x at HA ⊢
  clear hb ho hs hbk htake h5 hx
  go_enter Try.func18, Try.ntmps18
  go_wp2_with (first
    | (go_at_call 21; refine HA.out.mono ?_; rintro e w' ⟨rfl, rfl⟩)
    | (go_at_call 51; refine (delete_int w g off cap s.l.length i (i + 1) (ints s.l) HO.out (by omega) (by omega) (by omega)).mono ?_; rintro e w2 ⟨rfl, g4, g5, _⟩;
       have e1 : w2.cell? ⟨b, 1, none⟩ = some (.int .i64 s.went) := (HB.out.only g5 (fun e => hgb e.symm)).cell 1;
       have f1 : ∀ i, w2.frozen? ⟨b, i, none⟩ = false := (HB.out.only g5 (fun e => hgb e.symm)).frozen;
       have e4 : w2.cell? ⟨b, 4, none⟩ = some (.slice (some ⟨g, off, none⟩) s.l.length cap) := (HB.out.only g5 (fun e => hgb e.symm)).cell 4))
  go_ret2
  have hl : (s.removed i).l.length = i + (s.l.length - (i + 1)) := by simp [QSt.removed]; omega
  have hgb' : ∀ n, (Value.slice (some ⟨g, off, none⟩) n cap).ownBlock ≠ some b := fun n => by simpa [Value.ownBlock] using hgb
  refine ⟨rfl, ⟨.slice (some ⟨g, off, none⟩) (i + (s.l.length - (i + 1))) cap, ?_, ?_, hgb' _, h4, by intro q hq; simp [Value.ownBlock] at hq; subst hq; exact hFg⟩, ?_⟩
  · have hb2 := HB.out.only g5 (fun e => hgb e.symm)
    refine Blk.congr (by repeat (with_reducible first | exact hb2 | apply Blk.drew | apply Blk.set)) ?_
    simp [QSt.cells, QSt.removed]
  · rw [hl]
    rw [ints_take, ints_drop, ← ints_append] at g4
    exact (g4.setOther (p := ⟨b, 4, none⟩) (hgb' _) _).setOther (p := ⟨b, 1, none⟩) (hgb' _) _
  · have o2 : Only F w w2 := g5.mono (fun i _ e => by subst e; exact hFg)
    exact (o2.setCell (fun _ => h4) _).setCell (fun _ => h4) _
end Go.Proofs.Ytdoidpiomonagaa
