/- The law QueuePlays: what is kept round by round, and the steps of it. -/
import Derived.Test.YtdoidpiomonagaaQueuePlaysA
namespace Go.Proofs.Ytdoidpiomonagaa
open Go.RowKit Go.Afx

structure PInv (N k : Nat) (s : QSt) : Prop where
  room : s.room = N
  n1 : 1 ≤ N
  n2 : N ≤ 10000
  sum : s.came = s.went + s.l.length
  len : s.l.length ≤ N
  m0 : 0 ≤ s.most
  m1 : s.most ≤ N
  w0 : 0 ≤ s.went
  c1 : s.came ≤ 100 * k
  r0 : 0 ≤ s.refused
  r1 : s.refused ≤ 100 * k
  k1 : k ≤ 60

theorem PInv.ok {N k : Nat} {s : QSt} (h : PInv N k s) : QOk s := by
  obtain ⟨h1, h2, h3, h4, h5, h6, h7, h8, h9, h10, h11, h12⟩ := h
  exact ⟨by omega, by omega, by omega, by omega, by omega, by omega, by omega, by omega, by omega, by omega⟩
theorem PInv.put {N k : Nat} {s : QSt} (h : PInv N k s) (x : List Int) (hx : x.length ≤ 100) (hk : k < 60) : PInv N (k + 1) (s.put x) := by
  obtain ⟨h1, h2, h3, h4, h5, h6, h7, h8, h9, h10, h11, h12⟩ := h
  have hl : (s.l ++ x.take (s.room - s.l.length)).length = s.l.length + min (s.room - s.l.length) x.length := by simp
  refine ⟨h1, h2, h3, ?_, ?_, ?_, ?_, h8, ?_, ?_, ?_, by omega⟩ <;> simp only [QSt.put, hl] <;> omega
theorem PInv.took {N k j : Nat} {s : QSt} (h : PInv N k s) (hj : j ≤ s.l.length) (hk : k < 60) : PInv N (k + 1) (s.took j) := by
  obtain ⟨h1, h2, h3, h4, h5, h6, h7, h8, h9, h10, h11, h12⟩ := h
  have hl : (s.l.drop j).length = s.l.length - j := by simp
  refine ⟨h1, h2, h3, ?_, ?_, h6, h7, ?_, ?_, h10, ?_, by omega⟩ <;> simp only [QSt.took, hl] <;> omega
theorem PInv.removed {N k j : Nat} {s : QSt} (h : PInv N k s) (hj : j < s.l.length) (hk : k < 60) : PInv N (k + 1) (s.removed j) := by
  obtain ⟨h1, h2, h3, h4, h5, h6, h7, h8, h9, h10, h11, h12⟩ := h
  have hl : (s.l.take j ++ s.l.drop (j + 1)).length = s.l.length - 1 := by simp; omega
  refine ⟨h1, h2, h3, ?_, ?_, h6, h7, ?_, ?_, h10, ?_, by omega⟩ <;> simp only [QSt.removed, hl] <;> omega
theorem PInv.next {N k : Nat} {s : QSt} (h : PInv N k s) (hk : k < 60) : PInv N (k + 1) s := by
  obtain ⟨h1, h2, h3, h4, h5, h6, h7, h8, h9, h10, h11, h12⟩ := h
  exact ⟨h1, h2, h3, h4, h5, h6, h7, h8, by omega, h10, by omega, by omega⟩

def QSt.tally (s : QSt) : List Value := [.int .i64 s.came, .int .i64 s.went, .int .i64 s.refused, .int .i64 s.most]

/-- The law's own list and tally beside the queue. -/
structure PSt (w wr : World) (b tb : Nat) (s : QSt) (F : Nat → Prop) (va : Value) (l : List Int) (tc : List Value) : Prop where
  bel : Below w.heap.size w wr
  q : IsQ wr F b s
  fb : ∀ g, F g → w.heap.size ≤ g ∧ g < wr.heap.size
  own : Own wr 3 1 va l.length (ints l)
  vb : ∀ g, va.ownBlock = some g → w.heap.size ≤ g ∧ ¬ F g ∧ g ≠ tb
  t : Blk wr tb 28 tc
  ft : ¬ F tb
  tl : w.heap.size ≤ tb

section
variable {w wr : World} {b tb : Nat} {s : QSt} {F : Nat → Prop} {va : Value} {l : List Int} {tc : List Value}
/-- New blocks alone. -/
theorem PSt.below (h : PSt w wr b tb s F va l tc) {w2 : World} (hb : Below wr.heap.size wr w2) : PSt w w2 b tb s F va l tc :=
  ⟨h.bel.trans (hb.mono h.bel.size), h.q.below hb, fun g hg => by have := h.fb g hg; have := hb.size; omega, h.own.below hb, h.vb, h.t.below hb, h.ft, h.tl⟩
/-- The list grows, or is another one. -/
theorem PSt.app (h : PSt w wr b tb s F va l tc) {w1 w2 : World} {v1 v2 : Value} {l2 : List Int} (hb : Below wr.heap.size wr w1) (hv1 : ∀ g, v1.ownBlock = some g → va.ownBlock = some g ∨ wr.heap.size ≤ g)
    (h1 : Own w2 3 1 v2 l2.length (ints l2)) (h2 : Only (fun g => v1.ownBlock = some g) w1 w2) (h3 : v2.ownBlock = v1.ownBlock ∨ v2.ownBlock = some w1.heap.size) : PSt w w2 b tb s F v2 l2 tc := by
  have hz1 := hb.size
  have hz2 := h2.size
  have hz0 := h.bel.size
  have ht := h.t.lt
  have hnF : ∀ g, v1.ownBlock = some g → ¬ F g := fun g hg hF => by
    rcases hv1 g hg with h4 | h4
    · exact (h.vb g h4).2.1 hF
    · have := (h.fb g hF).2; omega
  have hnt : ∀ g, v1.ownBlock = some g → g ≠ tb := fun g hg e => by
    rcases hv1 g hg with h4 | h4
    · exact (h.vb g h4).2.2 e
    · omega
  have hlow : ∀ g, v1.ownBlock = some g → w.heap.size ≤ g := fun g hg => by
    rcases hv1 g hg with h4 | h4
    · exact (h.vb g h4).1
    · omega
  have hp := h.below hb
  refine ⟨hp.bel.trans (h2.below (by omega) hlow), hp.q.keep h2 (fun g hg hv => hnF g hv hg), fun g hg => by have := h.fb g hg; omega, h1, fun g hg => ?_, hp.t.only h2 (fun e => hnt _ e rfl), h.ft, h.tl⟩
  rcases h3 with h3 | h3
  · rw [h3] at hg
    exact ⟨hlow g hg, hnF g hg, hnt g hg⟩
  · rw [h3] at hg
    simp only [Option.some.injEq] at hg
    subst hg
    exact ⟨by omega, fun hF => by have := (h.fb _ hF).2; omega, by omega⟩
/-- The queue turns. -/
theorem PSt.turn (h : PSt w wr b tb s F va l tc) {w2 : World} {s2 : QSt} {F2 : Nat → Prop} (hq : IsQ w2 F2 b s2) (ho : Only F wr w2) (hf : ∀ g, F2 g → F g ∨ (wr.heap.size ≤ g ∧ g < w2.heap.size)) : PSt w w2 b tb s2 F2 va l tc := by
  have hz := ho.size
  have hz0 := h.bel.size
  refine ⟨h.bel.trans (ho.below hz0 (fun g hg => (h.fb g hg).1)), hq, fun g hg => ?_, h.own.only ho (fun g hg => (h.vb g hg).2.1), fun g hg => ⟨(h.vb g hg).1, fun hF => ?_, (h.vb g hg).2.2⟩, h.t.only ho h.ft, fun hF => ?_, h.tl⟩
  · rcases hf g hg with h1 | h1
    · have := h.fb g h1; omega
    · omega
  · rcases hf g hF with h1 | h1
    · exact (h.vb g hg).2.1 h1
    · have := h.own.lt g hg; omega
  · rcases hf tb hF with h1 | h1
    · exact h.ft h1
    · have := h.t.lt; omega
/-- A store into the tally. -/
theorem PSt.store (h : PSt w wr b tb s F va l tc) (i : Nat) (v : Value) : PSt w (wr.setCell ⟨tb, i, none⟩ v) b tb s F va l (tc.set i v) := by
  have ho : Only (fun k => k = tb) wr (wr.setCell ⟨tb, i, none⟩ v) := Only.setCell (S := fun k => k = tb) (Only.refl _ wr) (fun _ => rfl) _
  exact ⟨h.bel.trans (ho.below h.bel.size (fun g hg => by subst hg; exact h.tl)), h.q.keep ho (fun g hg e => by subst e; exact h.ft hg), fun g hg => by have := h.fb g hg; have := ho.size; omega,
    h.own.only ho (fun g hg e => (h.vb g hg).2.2 e), h.vb, h.t.set i v, h.ft, h.tl⟩
theorem PSt.drew (h : PSt w wr b tb s F va l tc) : PSt w wr.drew b tb s F va l tc := ⟨h.bel.drew, h.q, h.fb, h.own, h.vb, h.t, h.ft, h.tl⟩
theorem PSt.congr (h : PSt w wr b tb s F va l tc) {l2 : List Int} {tc2 : List Value} (hl : l = l2) (ht : tc = tc2) : PSt w wr b tb s F va l2 tc2 := by subst hl; subst ht; exact h
end

/-- The back of a slice. -/
theorem Sl_back {w : World} {B : Nat → Prop} {p : Option Addr} {n cap j : Nat} {l : List Int} (h : Sl w B 1 (.slice p n cap) n (ints l)) (hj : j ≤ n) :
    (cap = j → Sl w B 1 (.slice p (n - j) (cap - j)) (n - j) (ints (l.drop j))) ∧ (cap ≠ j → ∀ g off, p = some ⟨g, off, none⟩ → Sl w B 1 (.slice (some ⟨g, off + j, none⟩) (n - j) (cap - j)) (n - j) (ints (l.drop j))) ∧
      (p = none → cap = 0 ∧ n = 0) ∧ (n = 0 → l = []) ∧ (0 < n → ∃ g off, p = some ⟨g, off, none⟩) ∧ n ≤ cap := by
  have hln : l.length = n := by have := h.1; rw [ints_length, Nat.mul_one] at this; exact this
  obtain ⟨p', cap', hv, hnc, _⟩ := h.form
  cases hv
  have hdl : (ints (l.drop j)).length = (n - j) * 1 := by rw [ints_length, List.length_drop]; omega
  refine ⟨fun hc => ⟨hdl, ints_ones _, ?_⟩, fun hc g off hp => ⟨hdl, ints_ones _, ?_⟩, fun hp => ?_, fun h0 => List.eq_nil_of_length_eq_zero (by omega), fun hn => ?_, hnc⟩
  · have : n - j = 0 := by omega
    rw [this]
    refine .inl ⟨p, cap - j, rfl, rfl, by omega, fun _ => by omega⟩
  · subst hp
    rcases h.2.2 with ⟨p', cap', hv, hn0, hcm, _⟩ | ⟨g', off', cap', hv, a1, a2, a3, a4, a5⟩
    · have : n - j = 0 := by omega
      rw [this]
      cases hv
      exact .inl ⟨_, cap - j, rfl, rfl, by omega, fun h => by cases h⟩
    · cases hv
      refine .inr ⟨g, off + j, cap - j, rfl, by omega, by omega, a3, a4, fun q hq => ?_⟩
      rw [ints_length, List.length_drop] at hq
      have h5 := a5 (j + q) (by rw [ints_length]; omega)
      rw [Nat.add_assoc, h5]
      simp [ints]
  · subst hp
    rcases h.2.2 with ⟨p', cap', hv, hn0, hcm, hp⟩ | ⟨g', off', cap', hv, _⟩
    · cases hv
      exact ⟨hp rfl, hn0⟩
    · cases hv
  · obtain ⟨g, off, cap', hv, _⟩ := h.place hn
    cases hv
    exact ⟨g, off, rfl⟩
end Go.Proofs.Ytdoidpiomonagaa
