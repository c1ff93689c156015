/- The document's schemas: Right. -/
import Derived.Test.YtlgohkdckdnmhaaDoorSchF
namespace Go.Proofs.YtlgohkdckdnmhaaDoor
open Go.RowKit Go.Afx

def FrontP (nb : Bool) (n ni lim prt by_ : Int) (fu : Bool) : Prop := nb = true ∧ 1 ≤ n ∧ n ≤ 8 ∧ 1 ≤ ni ∧ ni ≤ 4 ∧ 1 ≤ lim ∧ lim ≤ 1000 ∧ 1 ≤ prt ∧ prt ≤ 8 ∧ 0 ≤ by_ ∧ by_ < n ∧ fu = true
theorem frontS_iff (s : SchV) : frontS s = true ↔ FrontP (namedB s.name) s.cols.length s.idx.length s.limit s.parts s.by_ (firstU s.idx) := by
  unfold frontS FrontP
  simp only [Bool.and_eq_true, decide_eq_true_eq]
  constructor
  · rintro ⟨⟨⟨⟨h1, h2⟩, h3⟩, ⟨h4, h5⟩, ⟨h6, h7⟩, h8⟩, h9⟩
    exact ⟨h1, by omega, by omega, by omega, by omega, h4, h5, h6, h7, h8.1, by omega, h9⟩
  · rintro ⟨h1, h2, h3, h4, h5, h6, h7, h8, h9, h10, h11, h12⟩
    exact ⟨⟨⟨⟨h1, by omega, by omega⟩, by omega, by omega⟩, ⟨h6, h7⟩, ⟨h8, h9⟩, h10, by omega⟩, h12⟩

set_option maxRecDepth 100000 in
set_option maxHeartbeats 4000000 in
theorem refright_front (w : World) (B : Nat → Prop) (s : SchV) (h : SchAt w B s) (hf : frontS s = false) :
    Calls Tryd.prog 47 #[s.agg] w fun e w' => e = .returned (.bool false) ∧ Below w.heap.size w w' := by
  have hnf : ¬ FrontP (namedB s.name) s.cols.length s.idx.length s.limit s.parts s.by_ (firstU s.idx) := fun hc => by
    rw [(frontS_iff s).2 hc] at hf; cases hf
  obtain ⟨nm, cv, cl, iv, il, lim, prt, by_⟩ := s
  obtain ⟨h1, h2, h3, h4⟩ := h
  simp only at h1 h2 h3 h4 hnf
  simp only [SchV.agg]
  obtain ⟨pc, cc, rfl, _, hcc⟩ := h1.form
  obtain ⟨pi, ci, rfl, _, hci⟩ := h2.1.form
  have hal : Below w.heap.size w (w.alloc (.cells #[.string nm, .slice pc cl.length cc, .slice pi il.length ci, .int .i64 lim, .int .i64 prt, .int .i64 by_] 47)) := (Below.refl _ _).alloc (Nat.le_refl _) _
  have HN := Lib.hid (refnamed (w.alloc (.cells #[.string nm, .slice pc cl.length cc, .slice pi il.length ci, .int .i64 lim, .int .i64 prt, .int .i64 by_] 47)) nm h4)
  have HAL := Lib.hid hal
  rcases Nat.eq_zero_or_pos il.length with h0 | h0
  · have hi0 : (il.length : Int) < 1 := by omega
    clear h1 h2 h3 h4 hal hf hnf hcc hci h0
    generalize namedB nm = nb at *
    cases nb
    all_goals
      go_enter Tryd.func47, Tryd.ntmps47
      go_wp2_with (go_at_call 51; refine HN.out.mono ?_; clear HN; rintro e w2 ⟨rfl, rfl⟩)
      all_goals (go_ret; exact ⟨rfl, HAL.out⟩)
  · obtain ⟨g, off, cap1, hv, hg, e0, e1⟩ := sl_idx (h2.below hal).1 h0
    cases hv
    have hfu : il[0].unique = firstU il := by
      cases il with
      | nil => simp at h0
      | cons a t => rfl
    have e2 : (w.alloc (.cells #[.string nm, .slice pc cl.length cc, .slice (some ⟨g, off, none⟩) il.length ci, .int .i64 lim, .int .i64 prt, .int .i64 by_] 47)).cell? ⟨g, off + 1, none⟩ = some (.bool il[0].unique) := by rw [Nat.zero_mul, Nat.add_zero] at e1; exact e1
    rw [hfu] at e2
    have h0i : (0 : Int) < (il.length : Int) := by omega
    have HNF := Lib.hid hnf
    clear h1 h2 h3 h4 hal hf hnf hcc hci e0 e1 hfu
    generalize namedB nm = nb at *
    generalize firstU il = fu at *
    cases nb
    · go_enter Tryd.func47, Tryd.ntmps47
      go_wp2_with (go_at_call 51; refine HN.out.mono ?_; clear HN; rintro e w2 ⟨rfl, rfl⟩)
      go_ret
      exact ⟨rfl, HAL.out⟩
    · cases fu
      · go_enter Tryd.func47, Tryd.ntmps47
        go_wp2_with (go_at_call 51; refine HN.out.mono ?_; clear HN; rintro e w2 ⟨rfl, rfl⟩)
        all_goals (go_ret; exact ⟨rfl, HAL.out⟩)
      · go_enter Tryd.func47, Tryd.ntmps47
        go_wp2_with (go_at_call 51; refine HN.out.mono ?_; clear HN; rintro e w2 ⟨rfl, rfl⟩)
        all_goals first
          | (go_ret; exact ⟨rfl, HAL.out⟩)
          | (exfalso; exact HNF.out ⟨rfl, by omega, by omega, by omega, by omega, by omega, by omega, by omega, by omega, by omega, by omega, rfl⟩)

end Go.Proofs.YtlgohkdckdnmhaaDoor
