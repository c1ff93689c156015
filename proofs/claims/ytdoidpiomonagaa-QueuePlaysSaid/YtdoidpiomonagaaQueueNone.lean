/- The document's example (awake), and the law QueueNone: of no queue nothing comes. -/
import Derived.Test.YtdoidpiomonagaaQueueC
namespace Go.Proofs.Ytdoidpiomonagaa
open Go.RowKit Go.Afx

theorem new_q (n : Nat) (w : World) (h1 : 1 ≤ n) (h2 : n ≤ 10000) :
    Calls Try.prog 14 #[.int .i64 n] w fun e w' => e = .returned (.pointer (some ⟨w.heap.size, 0, none⟩)) ∧
      IsQ w' (fun k => k = w.heap.size) w.heap.size ⟨0, 0, 0, 0, [], n⟩ ∧ Below w.heap.size w w' ∧ w.heap.size < w'.heap.size :=
  (new_yes n w h1 h2).mono fun e w' ⟨he, hw⟩ => by
    subst hw
    exact ⟨he, ⟨.slice none 0 0, Blk.new w _ _, Own.nil _ _ _, by simp [Value.ownBlock], rfl, by simp [Value.ownBlock]⟩, (Below.refl _ _).alloc (Nat.le_refl _) _, by simp⟩

/-- A slice literal of ints. -/
theorem lit_ints (w : World) (l : List Int) (h : l.length ≤ 1000) : Own (w.alloc (.cells (ints l).toArray 3)) 3 1 (.slice (some ⟨w.heap.size, 0, none⟩) l.length l.length) l.length (ints l) := by
  have := Own.made w 3 1 (ints l) [] l.length l.length (by simp [ints]) (ints_ones l) (Nat.le_refl _) (by unfold maxLen; omega) (by simp [ints])
  simpa using this

theorem only_below {F : Nat → Prop} {w0 w w' : World} (hb : Below w0.heap.size w0 w) (h : Only F w w') (hF : ∀ k, F k → w0.heap.size ≤ k) : Below w0.heap.size w0 w' :=
  hb.trans (h.below hb.size hF)

set_option maxRecDepth 100000 in
set_option maxHeartbeats 1000000 in
theorem qawake (w : World) : Calls Try.prog 13 #[] w fun e w' => e = .returned (.bool true) ∧ Below w.heap.size w w' := by
  go_enter Try.func13, Try.ntmps13
  go_wp2_with fail
  refine (new_q 2 w (by omega) (by omega)).mono ?_
  rintro e w1 ⟨rfl, hq1, hb1, hz1⟩
  have hs2 := (lit_ints w1 [1, 2, 3] (by simp)).sl (B := fun _ => True) (fun _ _ => trivial)
  have hb2 : Below w.heap.size w (w1.alloc (.cells (ints [1, 2, 3]).toArray 3)) := hb1.alloc hb1.size _
  have hq2 := hq1.below (((Below.refl w1.heap.size w1).alloc (Nat.le_refl _) (.cells (ints [1, 2, 3]).toArray 3)))
  have hp := put_any _ _ _ _ hq2 ⟨by simp, by simp, by simp, by simp, by simp, by simp, by simp, by simp, by simp, by simp⟩ (fun _ => True) _ [1, 2, 3] hs2 (by simp)
  have e1 : QSt.kput ⟨0, 0, 0, 0, [], 2⟩ [1, 2, 3] = 2 := rfl
  have e2 : QSt.perr ⟨0, 0, 0, 0, [], 2⟩ [1, 2, 3] = 18 := rfl
  simp only [ints, List.map_cons, List.map_nil, e1, e2] at hp hb2
  clear e1 e2
  have HP := Lib.hid hp
  have HB2 := Lib.hid hb2
  clear hp hs2 hq2 hq1 hb2
  go_wp2_with fail
  refine HP.out.mono ?_
  rintro e w2 ⟨rfl, F2, hq3, ho2, hf2⟩
  have hF2 : ∀ k, F2 k → w.heap.size ≤ k := fun k hk => by
    have := hb1.size
    rcases hf2 k hk with h | ⟨h, _⟩
    · omega
    · simp at h; omega
  have hb3 := only_below HB2.out ho2 (fun k hk => by omega)
  have e3 : QSt.put ⟨0, 0, 0, 0, [], 2⟩ [1, 2, 3] = ⟨2, 0, 1, 2, [1, 2], 2⟩ := by simp [QSt.put]; rfl
  rw [e3] at hq3
  have ht := take_any w2 F2 _ _ 1 hq3 ⟨by simp, by simp, by simp, by simp, by simp, by simp, by simp, by simp, by simp, by simp⟩
  have HT := Lib.hid ht
  have HB3 := Lib.hid hb3
  clear HP HB2 ht e3 ho2 hf2 hq3 hb3
  go_wp2_with fail
  refine HT.out.mono ?_
  rintro e w3 ⟨v3, rfl, hv, hq4, ho3, hg3⟩
  have hb4 := only_below HB3.out ho3 hF2
  have hv' : Own w3 3 1 v3 1 (ints [1]) := hv
  have hsl := hv'.sl (B := fun _ => True) (fun _ _ => trivial)
  obtain ⟨g, off, cap, rfl, hnc, hcm, _, _, hcell⟩ := hsl.place (by omega)
  have c0 : w3.cell? ⟨g, off, none⟩ = some (.int .i64 1) := hcell 0 (by simp [ints])
  have hc := counts_any w3 F2 _ ⟨2, 1, 1, 2, [2], 2⟩ hq4
  have HC := Lib.hid hc
  clear hc
  have HB4 := Lib.hid hb4
  clear HT HB3 hb4 hv hv' hsl hq4 ho3 hg3 hcell
  go_wp2_with (go_at_call 20; refine HC.out.mono ?_; rintro e w4 ⟨rfl, hb5⟩)
  go_ret
  exact ⟨rfl, HB4.out.trans (hb5.mono HB4.out.size)⟩

theorem put_nil (w : World) (v : Value) : Calls Try.prog 15 #[.pointer none, v] w fun e w' => e = .returned (.tuple #[.int .i64 0, .int .i64 1]) ∧ w = w' := by
  go_enter Try.func15, Try.ntmps15
  go_wp2
  go_ret2
  exact ⟨rfl, rfl⟩

set_option maxRecDepth 100000 in
set_option maxHeartbeats 1000000 in
theorem none_walk (n : Int) (_ : (Lit.int .i64 n).wf = true) (w : World) : Calls Try.prog 5 #[.int .i64 n] w fun e w' => e = .returned (.bool true) ∧ Below w.heap.size w w' := by
  go_enter Try.func5, Try.ntmps5
  go_wp2_with (first
    | (go_at_call 15; refine (put_nil _ _).mono ?_; rintro e w' ⟨rfl, rfl⟩)
    | (go_at_call 21; refine (at_nil _ _).mono ?_; rintro e w' ⟨rfl, rfl⟩)
    | (go_at_call 18; refine (remove_nil _ _).mono ?_; rintro e w' ⟨rfl, rfl⟩)
    | (go_at_call 17; refine (take_nil _ _).mono ?_; rintro e w' ⟨rfl, rfl⟩)
    | (go_at_call 22; refine (len_nil _).mono ?_; rintro e w' ⟨rfl, rfl⟩)
    | (go_at_call 23; refine (free_nil _).mono ?_; rintro e w' ⟨rfl, rfl⟩)
    | (go_at_call 20; refine (counts_nil _).mono ?_; rintro e w1 ⟨rfl, hb1⟩)
    | (go_at_call 13; refine (qawake _).mono ?_; rintro e w2 ⟨rfl, hb2⟩))
  go_ret
  have hb0 : Below w.heap.size w w1 := ((Below.refl w.heap.size w).alloc (Nat.le_refl _) _).trans (hb1.mono (by simp))
  exact ⟨rfl, hb0.trans (hb2.mono hb0.size)⟩
end Go.Proofs.Ytdoidpiomonagaa
