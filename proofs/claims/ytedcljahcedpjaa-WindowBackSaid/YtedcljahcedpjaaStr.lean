/- Strings as lists of bytes: how '[]byte(s)' reads, and the bytes of a text. -/
import Derived.Test.YtedcljahcedpjaaMemB
import Derived.Laws.IdiomStrings
import Derived.Lib.Strings
namespace Go.Afx
open Go Go.RowKit
variable {P : Program}

/-- The capacity that '[]byte(s)' gets, and the world behind it. -/
def cvCap (w : World) (s : ByteArray) (e : TypeId) : Nat := grownCap w s.size 0 e
def cvW (w : World) (s : ByteArray) (e : TypeId) : World := w.drew.alloc (.cells (bytesRow s (grownCap w s.size 0 e)) e ((bytesRow s (grownCap w s.size 0 e)).size, (bytesRow s (grownCap w s.size 0 e)).size + 1))

theorem run_cv (w : World) (src dst e : TypeId) (s : ByteArray) (hs : P.underlying src = some .string) (hd : P.underlying dst = some (.slice e)) (he : P.underlying e = some (.int .u8)) :
    (convert src dst (.string s)).run P w = .ok (.slice (some ⟨w.heap.size, 0, none⟩) s.size (cvCap w s e)) (cvW w s e) :=
  run_bytes_of_string w src dst e s hs hd he
theorem cvW_below (w : World) (s : ByteArray) (e : TypeId) : Below w.heap.size w (cvW w s e) :=
  (Below.drew (Below.refl _ _)).alloc (Nat.le_refl _) _
theorem cvW_size (w : World) (s : ByteArray) (e : TypeId) : (cvW w s e).heap.size = w.heap.size + 1 := by
  unfold cvW; simp
theorem cvW_cell (w : World) (s : ByteArray) (e : TypeId) (l : List UInt8) (hl : s.data.toList = l) (k : Nat) (hk : k < l.length) :
    (cvW w s e).cell? ⟨w.heap.size, k, none⟩ = some (.int .u8 (l[k].toNat : Int)) := by
  subst hl
  have h1 := World.cell?_alloc_mark w.drew (bytesRow s (grownCap w s.size 0 e)) e ((bytesRow s (grownCap w s.size 0 e)).size, (bytesRow s (grownCap w s.size 0 e)).size + 1) k
  have h2 : (cvW w s e).cell? ⟨w.heap.size, k, none⟩ = (bytesRow s (grownCap w s.size 0 e))[k]? := h1
  rw [h2, bytesRow_at s _ k (by simpa using hk)]
  simp

theorem size_list (s : ByteArray) (l : List UInt8) (h : s.data.toList = l) : s.size = l.length := by
  rw [← h, Array.length_toList]; rfl
theorem toList_list (s : ByteArray) (l : List UInt8) (h : s.data.toList = l) : s.toList.isEmpty = l.isEmpty := by
  rw [ByteArray.toList_eq, h]
theorem get_list (s : ByteArray) (l : List UInt8) (h : s.data.toList = l) (i : Nat) (hi : i < s.size) (hi2 : i < l.length) : s[i] = l[i] := by
  subst h
  rw [Array.getElem_toList]; rfl
theorem nil_list (s : ByteArray) (h : s.data.toList = []) : s = ByteArray.empty := by
  obtain ⟨d⟩ := s
  have : d = #[] := by simpa using h
  subst this; rfl
theorem tail_list (s : ByteArray) (c : UInt8) (t : List UInt8) (h : s.data.toList = c :: t) : (s.extract 1 s.size).data.toList = t := by
  have h2 := size_list s _ h
  rw [List.length_cons] at h2
  rw [Lib.extract_data, h, List.drop_succ_cons, List.drop_zero, List.take_of_length_le (by omega)]
end Go.Afx
