/- Values: whether they are right. -/
import Derived.Test.YtlgohkdckdnmhaaDoorBase
import Derived.Test.YtlgohkdckdnmhaaDoorProg
import Derived.Test.YtlgohkdckdnmhaaDoorStr
import Derived.Test.YtlgohkdckdnmhaaDoorOpen
import Derived.Lib.Hide
import Derived.Lib.SliceRun
namespace Go.Proofs.YtlgohkdckdnmhaaDoor
open Go.RowKit Go.Afx

def fit64 (n : Int) : Prop := -9223372036854775808 ≤ n ∧ n ≤ 9223372036854775807
/-- A value: its kind, its number, its text. -/
structure AV where
  kind : Int
  n : Int
  s : ByteArray
def AV.cells (v : AV) : List Value := [.int .i64 v.kind, .int .i64 v.n, .string v.s]
def AV.agg (v : AV) : Value := .agg #[.int .i64 v.kind, .int .i64 v.n, .string v.s]
def AV.right (v : AV) : Bool := (v.kind == 1 && v.s.toList.isEmpty) || (v.kind == 2 && v.n == 0 && decide (v.s.size ≤ 200)) || (v.kind == 3 && (v.n == 0 || v.n == 1) && v.s.toList.isEmpty)

set_option maxRecDepth 100000 in
theorem wrong_any (w : World) (v : AV) : Calls Tryd.prog 62 #[v.agg] w fun e w' => e = .returned (.bool (!v.right)) ∧ Below w.heap.size w w' := by
  obtain ⟨k, n, s⟩ := v
  simp only [AV.agg, AV.right]
  generalize hem : s.toList.isEmpty = em
  by_cases h1 : k = 1
  · subst h1
    have e1 : (!((((1 : Int) == 1) && em) || (((1 : Int) == 2) && n == 0 && decide (s.size ≤ 200)) || (((1 : Int) == 3) && (n == 0 || n == 1) && em))) = !em := by cases em <;> rfl
    rw [e1]
    clear e1
    go_enter Tryd.func62, Tryd.ntmps62
    go_wp2
    go_ret
    refine ⟨rfl, ?_⟩
    repeat (with_reducible first | exact Below.refl _ _ | apply Below.drew | (refine Below.alloc ?_ (by first | omega | (simp; omega) | simp) _) | (refine Below.setCell ?_ (by first | omega | (simp; omega) | simp) _))
  · have k1 : (k == 1) = false := by rw [beq_eq_false_iff_ne]; exact h1
    by_cases h2 : k = 2
    · subst h2
      have e1 : (!((((2 : Int) == 1) && em) || (((2 : Int) == 2) && n == 0 && decide (s.size ≤ 200)) || (((2 : Int) == 3) && (n == 0 || n == 1) && em))) = !(n == 0 && decide (s.size ≤ 200)) := by cases em <;> simp
      rw [e1]
      clear e1 hem k1 h1
      by_cases hn : n = 0
      · subst hn
        by_cases hs : s.size ≤ 200
        · have e2 : (!(((0 : Int) == 0) && decide (s.size ≤ 200))) = false := by simp [hs]
          rw [e2]
          have hs2 : decide ((200 : Int) < s.size) = false := decide_eq_false (by omega)
          clear e2
          go_enter Tryd.func62, Tryd.ntmps62
          go_wp2
          go_ret
          refine ⟨rfl, ?_⟩
          repeat (with_reducible first | exact Below.refl _ _ | apply Below.drew | (refine Below.alloc ?_ (by first | omega | (simp; omega) | simp) _) | (refine Below.setCell ?_ (by first | omega | (simp; omega) | simp) _))
        · have e2 : (!(((0 : Int) == 0) && decide (s.size ≤ 200))) = true := by simp [hs]
          rw [e2]
          have hs2 : decide ((200 : Int) < s.size) = true := decide_eq_true (by omega)
          clear e2
          go_enter Tryd.func62, Tryd.ntmps62
          go_wp2
          go_ret
          refine ⟨rfl, ?_⟩
          repeat (with_reducible first | exact Below.refl _ _ | apply Below.drew | (refine Below.alloc ?_ (by first | omega | (simp; omega) | simp) _) | (refine Below.setCell ?_ (by first | omega | (simp; omega) | simp) _))
      · have hn2 : (n == 0) = false := by rw [beq_eq_false_iff_ne]; exact hn
        have e2 : (!((n == 0) && decide (s.size ≤ 200))) = true := by rw [hn2]; rfl
        rw [e2]
        clear e2
        go_enter Tryd.func62, Tryd.ntmps62
        go_wp2
        go_ret
        refine ⟨rfl, ?_⟩
        repeat (with_reducible first | exact Below.refl _ _ | apply Below.drew | (refine Below.alloc ?_ (by first | omega | (simp; omega) | simp) _) | (refine Below.setCell ?_ (by first | omega | (simp; omega) | simp) _))
    · have k2 : (k == 2) = false := by rw [beq_eq_false_iff_ne]; exact h2
      by_cases h3 : k = 3
      · subst h3
        have e1 : (!((((3 : Int) == 1) && em) || (((3 : Int) == 2) && n == 0 && decide (s.size ≤ 200)) || (((3 : Int) == 3) && (n == 0 || n == 1) && em))) = !((n == 0 || n == 1) && em) := by cases em <;> simp
        rw [e1]
        clear e1 k1 k2 h1 h2
        by_cases hn : n = 0 ∨ n = 1
        · have e2 : (!((n == 0 || n == 1) && em)) = !em := by rcases hn with rfl | rfl <;> rfl
          rw [e2]
          have hd : n / 2 = 0 := by omega
          clear e2
          go_enter Tryd.func62, Tryd.ntmps62
          go_wp2
          go_ret
          refine ⟨rfl, ?_⟩
          repeat (with_reducible first | exact Below.refl _ _ | apply Below.drew | (refine Below.alloc ?_ (by first | omega | (simp; omega) | simp) _) | (refine Below.setCell ?_ (by first | omega | (simp; omega) | simp) _))
        · have e2 : (!((n == 0 || n == 1) && em)) = true := by
            have a1 : (n == 0) = false := by rw [beq_eq_false_iff_ne]; omega
            have a2 : (n == 1) = false := by rw [beq_eq_false_iff_ne]; omega
            rw [a1, a2]; rfl
          rw [e2]
          have hd : ¬ n / 2 = 0 := by omega
          have hd2 : (n / 2 != 0) = true := by rw [bne_iff_ne]; exact hd
          clear e2 hn
          go_enter Tryd.func62, Tryd.ntmps62
          go_wp2
          first | rw [hd2] | skip
          go_ret
          refine ⟨rfl, ?_⟩
          repeat (with_reducible first | exact Below.refl _ _ | apply Below.drew | (refine Below.alloc ?_ (by first | omega | (simp; omega) | simp) _) | (refine Below.setCell ?_ (by first | omega | (simp; omega) | simp) _))
      · have k3 : (k == 3) = false := by rw [beq_eq_false_iff_ne]; exact h3
        rw [k1, k2, k3]
        simp only [Bool.false_and, Bool.or_false, Bool.not_false]
        clear h1 h2 h3
        go_enter Tryd.func62, Tryd.ntmps62
        go_wp2
        go_ret
        refine ⟨rfl, ?_⟩
        repeat (with_reducible first | exact Below.refl _ _ | apply Below.drew | (refine Below.alloc ?_ (by first | omega | (simp; omega) | simp) _) | (refine Below.setCell ?_ (by first | omega | (simp; omega) | simp) _))

/-- A row's cells. -/
def rowCells (l : List AV) : List Value := (l.map AV.cells).flatten
theorem rowCells_at (l : List AV) (k r : Nat) (hk : k < l.length) (hr : r < 3) : (rowCells l)[k * 3 + r]? = (l[k].cells)[r]? := by
  have hlen : ∀ c ∈ l.map AV.cells, c.length = 3 := by
    intro c hc
    obtain ⟨a, _, rfl⟩ := List.mem_map.1 hc
    rfl
  unfold rowCells
  rw [flatten_get _ hlen k r hr, List.getElem?_map, List.getElem?_eq_getElem hk]
  rfl
theorem rowCells_length (l : List AV) : (rowCells l).length = l.length * 3 := by
  have hlen : ∀ c ∈ l.map AV.cells, c.length = 3 := by
    intro c hc
    obtain ⟨a, _, rfl⟩ := List.mem_map.1 hc
    rfl
  unfold rowCells
  rw [flatten_length _ hlen, List.length_map]
theorem sl_av {w : World} {B : Nat → Prop} {v : Value} {l : List AV} (h : Sl w B 3 v l.length (rowCells l)) {k : Nat} (hk : k < l.length) :
    ∃ g off cap, v = .slice (some ⟨g, off, none⟩) l.length cap ∧ g < w.heap.size ∧ w.cell? ⟨g, off + k * 3, none⟩ = some (.int .i64 l[k].kind) ∧ w.cell? ⟨g, off + k * 3 + 1, none⟩ = some (.int .i64 l[k].n) ∧ w.cell? ⟨g, off + k * 3 + 2, none⟩ = some (.string l[k].s) := by
  obtain ⟨g, off, cap, hv, _, _, hgb, hglt, hc⟩ := h.place (by omega)
  have get : ∀ r, r < 3 → w.cell? ⟨g, off + (k * 3 + r), none⟩ = (l[k].cells)[r]? := fun r hr => by
    rw [hc _ (by rw [rowCells_length]; omega), rowCells_at l k r hk hr]
  exact ⟨g, off, cap, hv, hglt, get 0 (by omega), get 1 (by omega), get 2 (by omega)⟩

def rightAll (l : List AV) : Bool := l.all AV.right

set_option maxRecDepth 100000 in
theorem index_wrong (w : World) (B : Nat → Prop) (v : Value) (l : List AV) (hl : Sl w B 3 v l.length (rowCells l)) (_ : l.length ≤ 1000000) :
    Calls Tryd.prog 96 #[v, .func (.func 62) #[] #[]] w fun e w' => ∃ i : Int, e = .returned (.int .i64 i) ∧ decide (0 ≤ i) = !(rightAll l) ∧ Below w.heap.size w w' := by
  obtain ⟨p, cap, rfl, hc1, hc2⟩ := hl.form
  have HL := Lib.hid hl
  clear hl
  go_enter Tryd.func96, Tryd.ntmps96
  go_wp2
  go_loopw [8] (fun i wr => ∃ k : Nat, i = .int .i64 k ∧ k ≤ l.length ∧ (l.take k).all AV.right = true ∧ Below w.heap.size w wr) (fun i _ => l.length - (intOf i).toNat)
  case atStart => exact ⟨0, rfl, Nat.zero_le _, rfl, Below.refl _ _⟩
  case round =>
    obtain ⟨k, rfl, hk, hr, hb⟩ := hrel
    have HR := Lib.hid hr
    have HB := Lib.hid hb
    by_cases hka : k < l.length
    · obtain ⟨g, off, cap', hv, hg, e0, e1, e2⟩ := sl_av (HL.out.below hb) hka
      cases hv
      have HX : Hid (∀ b, l[k].right = b → (l.take (k + 1)).all AV.right = b) := fun b hb => by
        rw [← List.take_append_getElem hka, List.all_append, hr]
        simp [hb]
      have HY : Hid (l[k].right = false → rightAll l = false) := fun h => by
        unfold rightAll
        rw [List.all_eq_false]
        exact ⟨l[k], List.getElem_mem hka, by simp [h]⟩
      clear hr hb
      generalize l[k] = x at *
      have HW := Lib.hid (fun w => wrong_any w x)
      have hag : x.agg = .agg #[.int .i64 x.kind, .int .i64 x.n, .string x.s] := rfl
      rw [hag] at HW
      clear hag
      cases hx : x.right
      · rw [hx] at HW
        have HF := Lib.hid (HY.out hx)
        clear HX HY hx
        go_wp2_with (go_at_call 62; refine (HW.out _).mono ?_; rintro e w2 ⟨rfl, hb2⟩)
        go_ret
        refine ⟨_, rfl, ?_, HB.out.trans (hb2.mono HB.out.size)⟩
        rw [HF.out]
        exact decide_eq_true (by omega)
      · rw [hx] at HW
        have HF := Lib.hid (HX.out true hx)
        clear HX HY hx
        go_wp2_with (go_at_call 62; refine (HW.out _).mono ?_; rintro e w2 ⟨rfl, hb2⟩)
        go_roundw
        case rel => exact ⟨k + 1, by go_num, by omega, HF.out, HB.out.trans (hb2.mono HB.out.size)⟩
        case measure => (simp [intOf]) <;> omega
    · obtain rfl : k = l.length := by omega
      rw [List.take_length] at hr
      go_wp2
      go_ret
      refine ⟨-1, rfl, ?_, HB.out⟩
      unfold rightAll
      rw [hr]; rfl

theorem right_any (w : World) (B : Nat → Prop) (v : Value) (l : List AV) (hl : Sl w B 3 v l.length (rowCells l)) (hll : l.length ≤ 1000000) :
    Calls Tryd.prog 17 #[v] w fun e w' => e = .returned (.bool (rightAll l)) ∧ Below w.heap.size w w' := by
  obtain ⟨p, cap, rfl, hc1, hc2⟩ := hl.form
  have HI := Lib.hid (fun w' (h : Below w.heap.size w w') => index_wrong w' B (.slice p l.length cap) l (hl.below h) hll)
  clear hl
  have HC : Hid (Calls Tryd.prog 61 #[.slice p l.length cap, .func (.func 62) #[] #[]] w fun e w' => e = .returned (.bool (!(rightAll l))) ∧ Below w.heap.size w w') := by
    generalize rightAll l = b at *
    show Calls _ _ _ _ _
    go_enter Tryd.func61, Tryd.ntmps61
    go_wp2_with (go_at_call 96; refine (HI.out _ (Below.refl _ _)).mono ?_; rintro e w2 ⟨i, rfl, hi, hb2⟩)
    go_ret
    exact ⟨rfl, hb2⟩
  cases hb : rightAll l
  all_goals
    rw [hb] at HC
    clear hb HI
    go_enter Tryd.func17, Tryd.ntmps17
    go_wp2_with (go_at_call 61; refine HC.out.mono ?_; rintro e w2 ⟨rfl, hb2⟩)
    go_ret
    exact ⟨rfl, hb2⟩
end Go.Proofs.YtlgohkdckdnmhaaDoor
