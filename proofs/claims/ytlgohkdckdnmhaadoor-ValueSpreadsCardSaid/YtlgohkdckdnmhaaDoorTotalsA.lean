/- The law CalcTotals: the acts as they are read. -/
import Derived.Test.YtlgohkdckdnmhaaDoorBigG
import Derived.Test.YtlgohkdckdnmhaaDoorCalcG
namespace Go.Proofs.YtlgohkdckdnmhaaDoor
open Go.RowKit Go.Afx

structure TAct where
  take : Bool
  lv : Value
  l : List Int
def TAct.cells (a : TAct) : List Value := [.bool a.take, a.lv]
def IsTActs (w : World) (v : Value) (acts : List TAct) : Prop :=
  Sl w (fun _ => True) 2 v acts.length (acts.map TAct.cells).flatten ∧ ∀ a ∈ acts, Sl w (fun _ => True) 1 a.lv a.l.length (ints a.l) ∧ ∀ x ∈ a.l, fits x
theorem IsTActs.below {w w' : World} {v : Value} {acts : List TAct} (h : IsTActs w v acts) (hb : Below w.heap.size w w') : IsTActs w' v acts :=
  ⟨h.1.below hb, fun a ha => ⟨(h.2 a ha).1.below hb, (h.2 a ha).2⟩⟩

theorem tcBool : Tryd.prog.cellsOf 4 = 1 := by kernel_rfl
theorem tcI64 : Tryd.prog.cellsOf 2 = 1 := by kernel_rfl
theorem tcI64s : Tryd.prog.cellsOf 171 = 1 := by kernel_rfl
theorem sl_one' {w : World} {B : Nat → Prop} {sz : Nat} {v : Value} {n : Nat} {cs : List Value} (h : Sl w B sz v n cs) : v.oneCell' = true := by
  obtain ⟨p, cap, rfl, _⟩ := h.form
  rfl

theorem IsTActs.at {w : World} {v : Value} {acts : List TAct} (h : IsTActs w v acts) {k : Nat} (hk : k < acts.length) :
    ∃ g off cap, v = .slice (some ⟨g, off, none⟩) acts.length cap ∧ g < w.heap.size ∧ w.cell? ⟨g, off + k * 2, none⟩ = some (.bool acts[k].take) ∧
      w.cell? ⟨g, off + k * 2 + 1, none⟩ = some acts[k].lv ∧ Sl w (fun _ => True) 1 acts[k].lv acts[k].l.length (ints acts[k].l) ∧ ∀ x ∈ acts[k].l, fits x := by
  obtain ⟨g, off, cap, rfl, _, _, _, hlt, hc⟩ := h.1.place (by omega)
  have hlen : ∀ c ∈ acts.map TAct.cells, c.length = 2 := by
    intro c hcm
    obtain ⟨a, _, rfl⟩ := List.mem_map.1 hcm
    rfl
  have hfl := flatten_length _ hlen
  rw [List.length_map] at hfl
  have get : ∀ r, r < 2 → w.cell? ⟨g, off + (k * 2 + r), none⟩ = acts[k].cells[r]? := fun r hr => by
    rw [hc _ (by omega), flatten_get _ hlen k r hr, List.getElem?_map, List.getElem?_eq_getElem hk]
    rfl
  exact ⟨g, off, cap, rfl, hlt, get 0 (by omega), get 1 (by omega), h.2 _ (List.getElem_mem hk)⟩

/-- The sum and the count behind some acts. -/
def totZ (acts : List TAct) : Int := (acts.map fun a => msum a.take a.l).sum
def totN (acts : List TAct) : Int := (acts.map fun a => if a.take then -(a.l.length : Int) else a.l.length).sum
theorem totZ_next (acts : List TAct) (k : Nat) (h : k < acts.length) : totZ (acts.take (k + 1)) = totZ (acts.take k) + msum acts[k].take acts[k].l := by
  unfold totZ
  rw [← List.take_append_getElem h, List.map_append, List.sum_append]
  simp
theorem totN_next (acts : List TAct) (k : Nat) (h : k < acts.length) : totN (acts.take (k + 1)) = totN (acts.take k) + (if acts[k].take then -(acts[k].l.length : Int) else acts[k].l.length) := by
  unfold totN
  rw [← List.take_append_getElem h, List.map_append, List.sum_append]
  simp
end Go.Proofs.YtlgohkdckdnmhaaDoor
