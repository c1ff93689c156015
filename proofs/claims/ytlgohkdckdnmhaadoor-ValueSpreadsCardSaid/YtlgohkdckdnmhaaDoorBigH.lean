/- The document's numbers: Times. -/
import Derived.Test.YtlgohkdckdnmhaaDoorBigG
import Derived.Deep.DeepCutAuto
import Derived.Deep.CutBlock
namespace Go.Proofs.YtlgohkdckdnmhaaDoor
open Go.RowKit Go.Afx

theorem mk_ints (w : World) (N : Nat) (h : N ≤ 1000000) :
    (Instr.makeSlice 40 (.int .i64 (N : Int)) (.int .i64 (N : Int))).run Tryd.prog w = .ok (.slice (some ⟨w.heap.size, 0, none⟩) N N) (w.alloc (.cells (nats (List.replicate N 0)).toArray 3)) := by
  obtain ⟨i, hi, hz, hsize, hby⟩ := elemInt.parts
  have hr := run_make (P := Tryd.prog) w 40 3 i (.int .i64 0) Tryd.underlying40 hi hz .i64 .i64 N N (by omega) (Int.le_refl _) (by rw [hby]; omega) (by omega)
  rw [hr, hsize]
  simp only [Int.toNat_natCast, Nat.mul_one]
  have e : madeCells (Value.int .i64 0).cells N = (nats (List.replicate N 0)).toArray := by
    apply Array.ext
    · simp [madeCells, nats, ints]
    · intro k h1 h2
      simp [madeCells, nats, ints, Value.cells, Nat.mod_one]
  rw [e]

/-- What Times keeps. -/
structure TimesS (w wr : World) (A Bv C : List Value) (out : List Nat) : Prop where
  a : Blk wr w.heap.size 103 A
  b : Blk wr (w.heap.size + 1) 103 Bv
  c : Blk wr (w.heap.size + 1 + 1) 103 C
  o : Blk wr (w.heap.size + 3) 3 (nats out)
  below : Below w.heap.size w wr
theorem TimesS.drew {w wr : World} {A Bv C : List Value} {out : List Nat} (h : TimesS w wr A Bv C out) : TimesS w wr.drew A Bv C out := ⟨h.a, h.b, h.c, h.o, h.below.drew⟩
theorem TimesS.set {w wr : World} {A Bv C : List Value} {out : List Nat} (h : TimesS w wr A Bv C out) (j x : Nat) : TimesS w (wr.setCell ⟨w.heap.size + 3, j, none⟩ (.int .i64 (x : Int))) A Bv C (out.set j x) :=
  ⟨h.a.setOther (show w.heap.size ≠ w.heap.size + 3 by omega) _, h.b.setOther (show w.heap.size + 1 ≠ w.heap.size + 3 by omega) _, h.c.setOther (show w.heap.size + 1 + 1 ≠ w.heap.size + 3 by omega) _,
    (nats_set out j x) ▸ h.o.set j _, h.below.setCell (show w.heap.size ≤ w.heap.size + 3 by omega) _⟩

theorem getD_set (out : List Nat) (j k v : Nat) : (out.set j v).getD k 0 = if k = j ∧ j < out.length then v else out.getD k 0 := by
  simp only [List.getD, List.getElem?_set]
  by_cases h1 : j = k
  · subst h1
    by_cases h2 : j < out.length
    · simp [h2]
    · simp [h2]
  · simp [h1, show ¬ k = j from fun h => h1 h.symm]

theorem carry_step (out : List Nat) (m : Nat) (h : m + 1 < out.length) :
    vd ((out.set (m + 1) (out.getD (m + 1) 0 + out.getD m 0 / 10)).set m (out.getD m 0 % 10)) = vd out := by
  have e1 : out.getD (m + 1) 0 = out[m + 1] := by simp [List.getD, h]
  have hm : m < out.length := by omega
  have e2 : out.getD m 0 = out[m] := by simp [List.getD, hm]
  rw [e1, e2]
  have h1 := vd_set out (m + 1) (out[m] / 10) h
  have hl : m < (out.set (m + 1) (out[m + 1] + out[m] / 10)).length := by simpa using hm
  have e3 : (out.set (m + 1) (out[m + 1] + out[m] / 10))[m] = out[m] := by rw [List.getElem_set]; simp
  have h2 := vd_set_sub (out.set (m + 1) (out[m + 1] + out[m] / 10)) m (out[m] % 10) hl (by rw [e3]; omega)
  rw [e3, h1] at h2
  have e4 : out[m] - out[m] % 10 = 10 * (out[m] / 10) := by omega
  have e5 : 10 ^ (m + 1) = 10 ^ m * 10 := Nat.pow_succ ..
  rw [e4, ← Nat.mul_assoc, e5] at h2
  omega

theorem D10_of_top (out : List Nat) (m : Nat) (hl : out.length = m + 1) (h : ∀ j, j < m → out.getD j 0 < 10) (hv : vd out < 10 ^ m) : D10 out := by
  have hs := vd_split out m
  have hm : m < out.length := by omega
  have hd := vd_drop out m hm
  rw [List.drop_of_length_le (show out.length ≤ m + 1 by omega)] at hd
  have h0 : out[m] = 0 := by
    rcases Nat.eq_zero_or_pos out[m] with h0 | h0
    · exact h0
    · have : 10 ^ m * 1 ≤ 10 ^ m * vd (out.drop m) := Nat.mul_le_mul_left _ (by rw [hd]; omega)
      omega
  intro x hx
  obtain ⟨j, hj, rfl⟩ := List.mem_iff_getElem.1 hx
  by_cases hjm : j < m
  · have := h j hjm
    simpa [List.getD, hj] using this
  · obtain rfl : j = m := by omega
    omega

end Go.Proofs.YtlgohkdckdnmhaaDoor
