/- How numbers, texts, values and rows that came in are read. -/
import Derived.Test.YtlgohkdckdnmhaaDoorRows2
import Derived.ChangeArms
namespace Go.Proofs.YtlgohkdckdnmhaaDoor
open Go.RowKit Go.Afx

theorem wf_fit64 {n : Int} (h : (Lit.int .i64 n).wf = true) : fit64 n := by
  have h2 : -9223372036854775808 ≤ n ∧ n ≤ 9223372036854775807 := by simpa [Lit.wf, IntKind.min, IntKind.max, IntKind.bits, IntKind.signed] using h
  exact h2
theorem ocInt : Tryd.prog.cellsOf 3 = 1 := by kernel_rfl
theorem ocI64 : Tryd.prog.cellsOf 2 = 1 := by kernel_rfl
theorem ocStr : Tryd.prog.cellsOf 9 = 1 := by kernel_rfl
theorem ocVal : Tryd.prog.cellsOf 27 = 3 := by kernel_rfl
theorem ocRow : Tryd.prog.cellsOf 22 = 1 := by kernel_rfl

section
variable {H : Type} {enc : TypeId × Value → H} {w : World}
theorem open_ints {v : Value} {d : DataW H} {ps : List MemPlace} (h : DataW.Trod enc Tryd.prog w 0 (fun _ => true) true 40 v d ps) (hv : v.cells.toList = [v]) :
    ∃ l : List Int, Sl w (fun _ => True) 1 v l.length (ints l) ∧ ∀ n ∈ l, fit64 n := by
  obtain ⟨fuel, hf⟩ := h
  rw [hv] at hf
  obtain ⟨l, h1, h2⟩ := open_ints_sl Tryd.underlying40 Tryd.underlying3 ocInt hf
  exact ⟨l, h1, fun n hn => wf_fit64 (h2 n hn)⟩
theorem flat_one {α : Type} (f : α → Value) (l : List α) : (l.map fun x => [f x]).flatten = l.map f := by
  induction l with
  | nil => rfl
  | cons a l ih => simp [ih]
/-- A value's reading. -/
def AV.read (a : AV) : Prop := fit64 a.kind ∧ fit64 a.n ∧ a.s.size ≤ maxLen
theorem open_av {fuel : Nat} {c : List Value} {y : DataW H × List MemPlace} (hl : c.length = 3) (hy : DataW.trod enc Tryd.prog w 0 (fun _ => true) true fuel 27 c = some y) : ∃ a : AV, c = a.cells ∧ a.read := by
  obtain ⟨n, hfs⟩ := open_fields Tryd.underlying27 hy
  obtain ⟨c0, c1, c2, rfl⟩ := list3 hl
  obtain ⟨y0, h0⟩ := hfs 0 _ rfl
  obtain ⟨y1, h1⟩ := hfs 1 _ rfl
  obtain ⟨y2, h2⟩ := hfs 2 _ rfl
  simp only [ocInt, ocI64, ocStr, List.drop_zero, List.drop_succ_cons, List.take_succ_cons, List.take_zero] at h0 h1 h2
  obtain ⟨k, e0, _, w0⟩ := DataW.trod_int Tryd.underlying3 h0
  obtain ⟨m, e1, _, w1⟩ := DataW.trod_int Tryd.underlying2 h1
  obtain ⟨s, e2, _, w2⟩ := DataW.trod_string Tryd.underlying9 h2
  simp only [List.cons.injEq, and_true] at e0 e1 e2
  subst e0 e1 e2
  exact ⟨⟨k, m, s⟩, rfl, wf_fit64 w0, wf_fit64 w1, w2⟩
theorem av_ones (a : AV) : Ones a.cells := by
  intro u hu
  simp [AV.cells] at hu
  rcases hu with rfl | rfl | rfl <;> rfl
theorem open_row_at {fuel : Nat} {v : Value} {y : DataW H × List MemPlace} (hf : DataW.trod enc Tryd.prog w 0 (fun _ => true) true fuel 22 [v] = some y) : ∃ l : List AV, Sl w (fun _ => True) 3 v l.length (rowCells l) ∧ ∀ a ∈ l, a.read := by
  obtain ⟨es, h1, h2⟩ := open_sl Tryd.underlying22 ocVal (by omega) hf (fun c => ∃ a : AV, c = a.cells ∧ a.read) (fun c ⟨a, hc, _⟩ => by subst hc; exact av_ones a) (fun f c y hl hy => open_av hl hy)
  obtain ⟨l, rfl, h4⟩ := choose_list es (fun c hcm => (h1 c hcm).2)
  rw [List.length_map] at h2
  exact ⟨l, h2, h4⟩
theorem open_row {v : Value} {d : DataW H} {ps : List MemPlace} (h : DataW.Trod enc Tryd.prog w 0 (fun _ => true) true 22 v d ps) (hv : v.cells.toList = [v]) :
    ∃ l : List AV, Sl w (fun _ => True) 3 v l.length (rowCells l) ∧ ∀ a ∈ l, a.read := by
  obtain ⟨fuel, hf⟩ := h
  rw [hv] at hf
  exact open_row_at hf
theorem sl_one {w : World} {B : Nat → Prop} {sz : Nat} {v : Value} {n : Nat} {cs : List Value} (h : Sl w B sz v n cs) : v.oneCell' = true := by
  obtain ⟨p, cap, rfl, _⟩ := h.form
  rfl
end
end Go.Proofs.YtlgohkdckdnmhaaDoor
