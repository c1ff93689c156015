/- How schemas that came in are read. -/
import Derived.Test.YtlgohkdckdnmhaaDoorSchE
import Derived.Test.YtlgohkdckdnmhaaDoorOpenV
namespace Go.Proofs.YtlgohkdckdnmhaaDoor
open Go.RowKit Go.Afx

theorem ocCol : Tryd.prog.cellsOf 66 = 2 := by kernel_rfl
theorem ocCols : Tryd.prog.cellsOf 44 = 1 := by kernel_rfl
theorem ocIdx : Tryd.prog.cellsOf 55 = 2 := by kernel_rfl
theorem ocIdxs : Tryd.prog.cellsOf 45 = 1 := by kernel_rfl
theorem ocInts : Tryd.prog.cellsOf 40 = 1 := by kernel_rfl
theorem ocBool : Tryd.prog.cellsOf 4 = 1 := by kernel_rfl
def ColV.read (c : ColV) : Prop := c.name.size ≤ maxLen ∧ fit64 c.kind
def SchV.read (s : SchV) : Prop := fit64 s.limit ∧ fit64 s.parts ∧ fit64 s.by_ ∧ ∀ c ∈ s.cols, c.read
section
variable {H : Type} {enc : TypeId × Value → H} {w : World}
theorem open_cols_at {fuel : Nat} {v : Value} {y : DataW H × List MemPlace} (hf : DataW.trod enc Tryd.prog w 0 (fun _ => true) true fuel 44 [v] = some y) : ∃ l : List ColV, Sl w (fun _ => True) 2 v l.length (colCells l) ∧ ∀ c ∈ l, c.read := by
  obtain ⟨es, h1, h2⟩ := open_sl Tryd.underlying44 ocCol (by omega) hf (fun c => ∃ a : ColV, c = a.cells ∧ a.read) (fun c ⟨a, hc, _⟩ => by subst hc; intro u hu; simp [ColV.cells] at hu; rcases hu with rfl | rfl <;> rfl) (fun f c y hl hy => by
    obtain ⟨n, hfs⟩ := open_fields Tryd.underlying66 hy
    obtain ⟨c0, c1, rfl⟩ := list2 hl
    obtain ⟨y0, h0⟩ := hfs 0 _ rfl
    obtain ⟨y1, h1⟩ := hfs 1 _ rfl
    simp only [ocInt, ocStr, List.drop_zero, List.drop_succ_cons, List.take_succ_cons, List.take_zero] at h0 h1
    obtain ⟨s, e0, _, w0⟩ := DataW.trod_string Tryd.underlying9 h0
    obtain ⟨k, e1, _, w1⟩ := DataW.trod_int Tryd.underlying3 h1
    simp only [List.cons.injEq, and_true] at e0 e1
    subst e0 e1
    exact ⟨⟨s, k⟩, rfl, w0, wf_fit64 w1⟩)
  obtain ⟨l, rfl, h4⟩ := choose_list es (fun c hcm => (h1 c hcm).2)
  rw [List.length_map] at h2
  exact ⟨l, h2, h4⟩
theorem open_ints_at {fuel : Nat} {v : Value} {y : DataW H × List MemPlace} (hf : DataW.trod enc Tryd.prog w 0 (fun _ => true) true fuel 40 [v] = some y) : ∃ l : List Int, Sl w (fun _ => True) 1 v l.length (ints l) := by
  obtain ⟨l, h1, _⟩ := open_ints_sl Tryd.underlying40 Tryd.underlying3 ocInt hf
  exact ⟨l, h1⟩
theorem open_idxs_at {fuel : Nat} {v : Value} {y : DataW H × List MemPlace} (hf : DataW.trod enc Tryd.prog w 0 (fun _ => true) true fuel 45 [v] = some y) : ∃ l : List IdxV, IdxAt w (fun _ => True) v l := by
  obtain ⟨es, h1, h2⟩ := open_sl Tryd.underlying45 ocIdx (by omega) hf (fun c => ∃ x : IdxV, c = x.cells ∧ Sl w (fun _ => True) 1 x.v x.l.length (ints x.l)) (fun c ⟨x, hc, hx⟩ => by subst hc; exact (Ones.nil.cons (rfl : (Value.bool x.unique).oneCell' = true)).cons (sl_one hx)) (fun f c y hl hy => by
    obtain ⟨n, hfs⟩ := open_fields Tryd.underlying55 hy
    obtain ⟨c0, c1, rfl⟩ := list2 hl
    obtain ⟨y0, h0⟩ := hfs 0 _ rfl
    obtain ⟨y1, h1⟩ := hfs 1 _ rfl
    simp only [ocInts, ocBool, List.drop_zero, List.drop_succ_cons, List.take_succ_cons, List.take_zero] at h0 h1
    obtain ⟨l, h2⟩ := open_ints_at h0
    obtain ⟨b, e1, _⟩ := DataW.trod_bool Tryd.underlying4 h1
    simp only [List.cons.injEq, and_true] at e1
    subst e1
    exact ⟨⟨c0, l, b⟩, rfl, h2⟩)
  obtain ⟨l, rfl, h4⟩ := choose_list es (fun c hcm => (h1 c hcm).2)
  rw [List.length_map] at h2
  exact ⟨l, h2, h4⟩
theorem open_sch {cs : Array Value} {d : DataW H} {ps : List MemPlace} (h : DataW.Trod enc Tryd.prog w 0 (fun _ => true) true 47 (.agg cs) d ps) (hs : cs.size = 6) :
    ∃ s : SchV, Value.agg cs = s.agg ∧ SchAt w (fun _ => True) s ∧ s.read := by
  obtain ⟨fuel, hf⟩ := h
  have hf2 : DataW.trod enc Tryd.prog w 0 (fun _ => true) true fuel 47 cs.toList = some _ := hf
  obtain ⟨n, hfs⟩ := open_fields Tryd.underlying47 hf2
  obtain ⟨c0, c1, c2, c3, c4, c5, hcs⟩ := list6 (l := cs.toList) (by simpa using hs)
  rw [hcs] at hfs
  obtain ⟨y0, h0⟩ := hfs 0 _ rfl
  obtain ⟨y1, h1⟩ := hfs 1 _ rfl
  obtain ⟨y2, h2⟩ := hfs 2 _ rfl
  obtain ⟨y3, h3⟩ := hfs 3 _ rfl
  obtain ⟨y4, h4⟩ := hfs 4 _ rfl
  obtain ⟨y5, h5⟩ := hfs 5 _ rfl
  simp only [ocStr, ocCols, ocIdxs, ocInt, List.drop_zero, List.drop_succ_cons, List.take_succ_cons, List.take_zero] at h0 h1 h2 h3 h4 h5
  obtain ⟨s, e0, _, w0⟩ := DataW.trod_string Tryd.underlying9 h0
  obtain ⟨l, hl1, hl2⟩ := open_cols_at h1
  obtain ⟨il, hi1⟩ := open_idxs_at h2
  obtain ⟨k3, e3, _, w3⟩ := DataW.trod_int Tryd.underlying3 h3
  obtain ⟨k4, e4, _, w4⟩ := DataW.trod_int Tryd.underlying3 h4
  obtain ⟨k5, e5, _, w5⟩ := DataW.trod_int Tryd.underlying3 h5
  simp only [List.cons.injEq, and_true] at e0 e3 e4 e5
  subst e0 e3 e4 e5
  refine ⟨⟨s, c1, l, c2, il, k3, k4, k5⟩, ?_, ⟨hl1, hi1, fun c hc => (hl2 c hc).1, w0⟩, wf_fit64 w3, wf_fit64 w4, wf_fit64 w5, hl2⟩
  have : cs = #[.string s, c1, c2, .int .i64 k3, .int .i64 k4, .int .i64 k5] := by rw [← Array.toList_inj, hcs]
  rw [this]; rfl
end
end Go.Proofs.YtlgohkdckdnmhaaDoor
