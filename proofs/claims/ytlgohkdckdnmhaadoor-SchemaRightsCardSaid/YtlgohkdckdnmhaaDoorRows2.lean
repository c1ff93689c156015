/- Rows among rows. -/
import Derived.Test.YtlgohkdckdnmhaaDoorVal
namespace Go.Proofs.YtlgohkdckdnmhaaDoor
open Go.RowKit Go.Afx

/-- A row among others: its slice, its values. -/
structure RowV where
  v : Value
  l : List AV
def rowVals (rows : List RowV) : List Value := rows.map RowV.v
theorem rowVals_append (a b : List RowV) : rowVals (a ++ b) = rowVals a ++ rowVals b := by simp [rowVals]
/-- Rows that read: a slice of slices, in blocks of B. -/
def RowsAt (w : World) (B : Nat → Prop) (v : Value) (rows : List RowV) : Prop :=
  Sl w B 1 v rows.length (rowVals rows) ∧ ∀ r ∈ rows, Sl w B 3 r.v r.l.length (rowCells r.l)
theorem RowsAt.below {w w' : World} {B : Nat → Prop} {v : Value} {rows : List RowV} (h : RowsAt w B v rows) (hb : Below w.heap.size w w') : RowsAt w' B v rows :=
  ⟨h.1.below hb, fun r hr => (h.2 r hr).below hb⟩
theorem RowsAt.only {w w' : World} {S B : Nat → Prop} {v : Value} {rows : List RowV} (h : RowsAt w B v rows) (hb : Only S w w') (hd : ∀ k, B k → ¬ S k) : RowsAt w' B v rows :=
  ⟨h.1.only hb hd, fun r hr => (h.2 r hr).only hb hd⟩
theorem RowsAt.at {w : World} {B : Nat → Prop} {v : Value} {rows : List RowV} (h : RowsAt w B v rows) {k : Nat} (hk : k < rows.length) :
    ∃ g off cap, v = .slice (some ⟨g, off, none⟩) rows.length cap ∧ w.cell? ⟨g, off + k, none⟩ = some rows[k].v := by
  obtain ⟨g, off, cap, hv, _, _, _, _, hc⟩ := h.1.place (by omega)
  exact ⟨g, off, cap, hv, by rw [hc k (by simpa [rowVals] using hk)]; simp [rowVals, hk]⟩

end Go.Proofs.YtlgohkdckdnmhaaDoor
