/- Streams: whether one is right; Clone of columns; open; NewBorder. -/
import Derived.Test.YtdhdphmehjkbnaaStB
namespace Go.Proofs.Ytdhdphmehjkbnaa
open Go.RowKit Go.Afx

def rightC (nm : ByteArray) (cl : List ColV) : Bool := rightS ⟨nm, undef, cl, undef, [⟨undef, [0], true⟩], 1, 1, 0⟩
theorem rightC_eq (nm : ByteArray) (cl : List ColV) (x y z : Value) : rightS ⟨nm, x, cl, y, [⟨z, [0], true⟩], 1, 1, 0⟩ = rightC nm cl := rfl
theorem elemCol : Elem Try.prog 22 109 2 24 (.agg #[.string ⟨#[]⟩, .int .i64 0]) :=
  ⟨Try.underlying22, by kernel_rfl, rfl, by omega, by intro u hu; simp [Value.cells] at hu; rcases hu with rfl | rfl <;> rfl⟩
theorem Sl.anyw {w : World} {B : Nat → Prop} {sz : Nat} {v : Value} {n : Nat} {cs : List Value} (h : Sl w B sz v n cs) : Sl w (fun _ => True) sz v n cs := h.mono (Nat.le_refl _) (fun _ _ _ => rfl) (fun _ _ _ => trivial)

/-- The one index that a stream's schema bears: its two blocks. -/
theorem one_idx (w : World) : IdxAt ((w.alloc (.cells #[.int .i64 0] 3)).alloc (.cells #[.slice (some ⟨w.heap.size, 0, none⟩) 1 1, .bool true] 117)) (fun _ => True) (.slice (some ⟨w.heap.size + 1, 0, none⟩) 1 1) [⟨.slice (some ⟨w.heap.size, 0, none⟩) 1 1, [0], true⟩] := by
  have h1 : (w.alloc (.cells #[.int .i64 0] 3)).heap.size = w.heap.size + 1 := by simp
  refine ⟨?_, fun x hx => ?_⟩
  · have := (Own.made (w.alloc (.cells #[.int .i64 0] 3)) 117 2 (idxCells [⟨.slice (some ⟨w.heap.size, 0, none⟩) 1 1, [0], true⟩]) [] 1 1 rfl (by intro u hu; simp [idxCells, IdxV.cells] at hu; rcases hu with rfl | rfl <;> rfl) (Nat.le_refl _) (by simp [maxLen]) (by simp [idxCells, IdxV.cells])).sl (B := fun _ => True) (fun _ _ => trivial)
    rw [h1] at this
    exact this
  · rw [List.mem_singleton.1 hx]
    have h := (Own.made w 3 1 (ints [0]) [] 1 1 rfl (Ones.nil.cons rfl) (Nat.le_refl _) (by simp [maxLen]) (by simp [ints])).sl (B := fun _ => True) (fun _ _ => trivial)
    exact h.alloc _

set_option maxRecDepth 100000 in
theorem lawright_any (w : World) (B : Nat → Prop) (nm : ByteArray) (cv : Value) (cl : List ColV) (hc : Sl w B 2 cv cl.length (colCells cl)) (hn : nm.size ≤ maxLen) (hns : ∀ c ∈ cl, c.name.size ≤ maxLen) :
    Calls Try.prog 15 #[.agg #[.string nm, cv]] w fun e w' => e = .returned (.bool (rightC nm cl)) ∧ Below w.heap.size w w' := by
  obtain ⟨pc, cc, rfl, hcc1, hcc⟩ := hc.form
  have hs1 : (w.alloc (.cells #[.string nm, .slice pc cl.length cc] 24)).heap.size = w.heap.size + 1 := by simp
  have hal : Below w.heap.size w (w.alloc (.cells #[.string nm, .slice pc cl.length cc] 24)) := (Below.refl _ _).alloc (Nat.le_refl _) _
  have hal2 : Below w.heap.size w (((w.alloc (.cells #[.string nm, .slice pc cl.length cc] 24)).alloc (.cells #[.int .i64 0] 3)).alloc (.cells #[.slice (some ⟨w.heap.size + 1, 0, none⟩) 1 1, .bool true] 117)) := (hal.alloc (by omega) _).alloc (by simp; omega) _
  have hi := one_idx (w.alloc (.cells #[.string nm, .slice pc cl.length cc] 24))
  rw [hs1] at hi
  have hr := refright_any _ (fun _ => True) ⟨nm, .slice pc cl.length cc, cl, .slice (some ⟨w.heap.size + 1 + 1, 0, none⟩) 1 1, [⟨.slice (some ⟨w.heap.size + 1, 0, none⟩) 1 1, [0], true⟩], 1, 1, 0⟩ ⟨(Sl.anyw hc).below hal2, hi, hns, hn⟩
  rw [rightC_eq] at hr
  simp only [SchV.agg] at hr
  have HR := Lib.hid hr
  have HAL := Lib.hid hal2
  clear hr hi hal hal2 hc
  generalize rightC nm cl = r at *
  go_enter Try.func15, Try.ntmps15
  go_wp2_with (go_at_call 65; refine HR.out.mono ?_; clear HR; rintro e w2 ⟨rfl, hb2⟩)
  go_ret
  exact ⟨rfl, HAL.out.trans (hb2.mono HAL.out.size)⟩

set_option maxRecDepth 100000 in
theorem colright_any (w : World) (B : Nat → Prop) (nm : ByteArray) (cv : Value) (cl : List ColV) (hc : Sl w B 2 cv cl.length (colCells cl)) (hn : nm.size ≤ maxLen) (hns : ∀ c ∈ cl, c.name.size ≤ maxLen) :
    Calls Try.prog 94 #[.agg #[.string nm, cv]] w fun e w' => e = .returned (.bool (rightC nm cl)) ∧ Below w.heap.size w w' := by
  obtain ⟨pc, cc, rfl, hcc1, hcc⟩ := hc.form
  have hs1 : (w.alloc (.cells #[.string nm, .slice pc cl.length cc] 111)).heap.size = w.heap.size + 1 := by simp
  have hal : Below w.heap.size w (w.alloc (.cells #[.string nm, .slice pc cl.length cc] 111)) := (Below.refl _ _).alloc (Nat.le_refl _) _
  have hal2 : Below w.heap.size w (((w.alloc (.cells #[.string nm, .slice pc cl.length cc] 111)).alloc (.cells #[.int .i64 0] 3)).alloc (.cells #[.slice (some ⟨w.heap.size + 1, 0, none⟩) 1 1, .bool true] 117)) := (hal.alloc (by omega) _).alloc (by simp; omega) _
  have hi := one_idx (w.alloc (.cells #[.string nm, .slice pc cl.length cc] 111))
  rw [hs1] at hi
  have hr := schright_any _ (fun _ => True) ⟨nm, .slice pc cl.length cc, cl, .slice (some ⟨w.heap.size + 1 + 1, 0, none⟩) 1 1, [⟨.slice (some ⟨w.heap.size + 1, 0, none⟩) 1 1, [0], true⟩], 1, 1, 0⟩ ⟨(Sl.anyw hc).below hal2, hi, hns, hn⟩
  rw [rightC_eq] at hr
  simp only [SchV.agg] at hr
  have HR := Lib.hid hr
  have HAL := Lib.hid hal2
  clear hr hi hal hal2 hc
  generalize rightC nm cl = r at *
  go_enter Try.func94, Try.ntmps94
  go_wp2_with (go_at_call 104; refine HR.out.mono ?_; clear HR; rintro e w2 ⟨rfl, hb2⟩)
  go_ret
  exact ⟨rfl, HAL.out.trans (hb2.mono HAL.out.size)⟩

@[go_sem] theorem eqlNilCol (w : World) (a : Option Addr) (n c : Nat) : (binOp .eql 22 (.slice a n c) (.slice none 0 0)).run Try.prog w = .ok (.bool a.isNone) w := Lib.run_eql_slice_nil w _ _ a n c 0 0 Try.underlying22
set_option maxRecDepth 100000 in
theorem clone_col (w : World) (B : Nat → Prop) (v : Value) (n : Nat) (cs : List Value) (h : Sl w B 2 v n cs) (hn : n ≤ 1000000000) :
    Calls Try.prog 93 #[v] w fun e w' => ∃ v', e = .returned v' ∧ Own w' 109 2 v' n cs ∧ Below w.heap.size w w' ∧ (∀ k, v'.ownBlock = some k → w.heap.size ≤ k) := by
  obtain ⟨p, cap, rfl, _, _⟩ := h.form
  cases p with
  | none =>
    have hn0 : n = 0 := by
      rcases h.2.2 with ⟨_, _, _, h0, _⟩ | ⟨_, _, _, h0, _⟩
      · exact h0
      · cases h0
    subst hn0
    have hc : cs = [] := List.eq_nil_of_length_eq_zero (by simpa using h.1)
    subst hc
    go_enter Try.func93, Try.ntmps93
    go_wp2
    go_ret
    exact ⟨_, rfl, Own.nil _ _ _, Below.refl _ _, by simp [Value.ownBlock]⟩
  | some a =>
    have hs := h.alloc (.cells #[] 109)
    have ho : Own (w.alloc (.cells #[] 109)) 109 2 (.slice (some ⟨w.heap.size, 0, none⟩) 0 0) 0 [] := Own.made w 109 2 [] [] 0 0 rfl Ones.nil (Nat.le_refl _) (by simp [maxLen]) (by simp)
    clear h
    go_enter Try.func93, Try.ntmps93
    go_wp2_with (at_builtin; refine wpList_app rfl _ _ rfl elemCol (by rfl) ho (by rfl) hs (by unfold maxLen; omega) (by omega) ?_; intro v' w' h1 h2 h3 _ _)
    go_ret
    have hb : Below w.heap.size w w' := (((Below.refl w.heap.size w).alloc (Nat.le_refl _) _).trans (h2.below (B := w.heap.size) (by simp) (fun i hi => by have : w.heap.size = i := (by simpa [Value.ownBlock] using hi); omega)))
    refine ⟨v', rfl, by simpa using h1, hb, fun k hk => ?_⟩
    rw [hk] at h3
    have h7 : k = w.heap.size ∨ k = w.heap.size + 1 := by simpa [Value.ownBlock] using h3
    omega

/-- What open leaves: the name, and the columns in memory of their own. -/
def OpenOut (w : World) (nm : ByteArray) (cl : List ColV) (e : Ending) (w' : World) : Prop :=
  (rightC nm cl = false ∧ e = .returned (.tuple #[.agg #[.string ⟨#[]⟩, .slice none 0 0], .int .i64 1]) ∧ Below w.heap.size w w') ∨
  (rightC nm cl = true ∧ ∃ v, e = .returned (.tuple #[.agg #[.string nm, v], .int .i64 0]) ∧ Sl w' (fun k => w.heap.size ≤ k) 2 v cl.length (colCells cl) ∧ Below w.heap.size w w')
end Go.Proofs.Ytdhdphmehjkbnaa
