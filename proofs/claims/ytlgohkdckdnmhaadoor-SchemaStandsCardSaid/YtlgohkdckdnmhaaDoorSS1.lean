/- Contracts of the functions that the statement reaches, one behind the other. No condition beyond each theorem's own. -/
import Derived.Test.YtlgohkdckdnmhaaDoorBase
import Derived.Test.YtlgohkdckdnmhaaDoorProg
import Derived.Test.YtlgohkdckdnmhaaDoorStr
import Derived.Test.YtlgohkdckdnmhaaDoorOpen
import Derived.Lib.Hide
import Derived.Lib.SliceRun
import Derived.Test.YtlgohkdckdnmhaaDoorShelf
import Derived.Test.YtlgohkdckdnmhaaDoorEsc
import Derived.Test.YtlgohkdckdnmhaaDoorMemS
import Derived.Laws.Bits64
import Derived.Shelf.Vars
/- Values: whether they are right. -/
namespace Go.Proofs.YtlgohkdckdnmhaaDoor
open Go.RowKit Go.Afx

def fit64 (n : Int) : Prop := -9223372036854775808 ≤ n ∧ n ≤ 9223372036854775807
/-- A value: its kind, its number, its text. -/
structure AV where
  kind : Int
  n : Int
  s : ByteArray
def AV.cells (v : AV) : List Value := [.int .i64 v.kind, .int .i64 v.n, .string v.s]
def AV.agg (v : AV) : Value := .agg #[.int .i64 v.kind, .int .i64 v.n, .string v.s]
def AV.right (v : AV) : Bool := (v.kind == 1 && v.s.toList.isEmpty) || (v.kind == 2 && v.n == 0 && decide (v.s.size ≤ 200)) || (v.kind == 3 && (v.n == 0 || v.n == 1) && v.s.toList.isEmpty)

set_option maxRecDepth 100000 in
theorem wrong_any (w : World) (v : AV) : Calls Tryd.prog 62 #[v.agg] w fun e w' => e = .returned (.bool (!v.right)) ∧ Below w.heap.size w w' := by
  obtain ⟨k, n, s⟩ := v
  simp only [AV.agg, AV.right]
  generalize hem : s.toList.isEmpty = em
  by_cases h1 : k = 1
  · subst h1
    have e1 : (!((((1 : Int) == 1) && em) || (((1 : Int) == 2) && n == 0 && decide (s.size ≤ 200)) || (((1 : Int) == 3) && (n == 0 || n == 1) && em))) = !em := by cases em <;> rfl
    rw [e1]
    clear e1
    go_enter Tryd.func62, Tryd.ntmps62
    go_wp2
    go_ret
    refine ⟨rfl, ?_⟩
    repeat (with_reducible first | exact Below.refl _ _ | apply Below.drew | (refine Below.alloc ?_ (by first | omega | (simp; omega) | simp) _) | (refine Below.setCell ?_ (by first | omega | (simp; omega) | simp) _))
  · have k1 : (k == 1) = false := by rw [beq_eq_false_iff_ne]; exact h1
    by_cases h2 : k = 2
    · subst h2
      have e1 : (!((((2 : Int) == 1) && em) || (((2 : Int) == 2) && n == 0 && decide (s.size ≤ 200)) || (((2 : Int) == 3) && (n == 0 || n == 1) && em))) = !(n == 0 && decide (s.size ≤ 200)) := by cases em <;> simp
      rw [e1]
      clear e1 hem k1 h1
      by_cases hn : n = 0
      · subst hn
        by_cases hs : s.size ≤ 200
        · have e2 : (!(((0 : Int) == 0) && decide (s.size ≤ 200))) = false := by simp [hs]
          rw [e2]
          have hs2 : decide ((200 : Int) < s.size) = false := decide_eq_false (by omega)
          clear e2
          go_enter Tryd.func62, Tryd.ntmps62
          go_wp2
          go_ret
          refine ⟨rfl, ?_⟩
          repeat (with_reducible first | exact Below.refl _ _ | apply Below.drew | (refine Below.alloc ?_ (by first | omega | (simp; omega) | simp) _) | (refine Below.setCell ?_ (by first | omega | (simp; omega) | simp) _))
        · have e2 : (!(((0 : Int) == 0) && decide (s.size ≤ 200))) = true := by simp [hs]
          rw [e2]
          have hs2 : decide ((200 : Int) < s.size) = true := decide_eq_true (by omega)
          clear e2
          go_enter Tryd.func62, Tryd.ntmps62
          go_wp2
          go_ret
          refine ⟨rfl, ?_⟩
          repeat (with_reducible first | exact Below.refl _ _ | apply Below.drew | (refine Below.alloc ?_ (by first | omega | (simp; omega) | simp) _) | (refine Below.setCell ?_ (by first | omega | (simp; omega) | simp) _))
      · have hn2 : (n == 0) = false := by rw [beq_eq_false_iff_ne]; exact hn
        have e2 : (!((n == 0) && decide (s.size ≤ 200))) = true := by rw [hn2]; rfl
        rw [e2]
        clear e2
        go_enter Tryd.func62, Tryd.ntmps62
        go_wp2
        go_ret
        refine ⟨rfl, ?_⟩
        repeat (with_reducible first | exact Below.refl _ _ | apply Below.drew | (refine Below.alloc ?_ (by first | omega | (simp; omega) | simp) _) | (refine Below.setCell ?_ (by first | omega | (simp; omega) | simp) _))
    · have k2 : (k == 2) = false := by rw [beq_eq_false_iff_ne]; exact h2
      by_cases h3 : k = 3
      · subst h3
        have e1 : (!((((3 : Int) == 1) && em) || (((3 : Int) == 2) && n == 0 && decide (s.size ≤ 200)) || (((3 : Int) == 3) && (n == 0 || n == 1) && em))) = !((n == 0 || n == 1) && em) := by cases em <;> simp
        rw [e1]
        clear e1 k1 k2 h1 h2
        by_cases hn : n = 0 ∨ n = 1
        · have e2 : (!((n == 0 || n == 1) && em)) = !em := by rcases hn with rfl | rfl <;> rfl
          rw [e2]
          have hd : n / 2 = 0 := by omega
          clear e2
          go_enter Tryd.func62, Tryd.ntmps62
          go_wp2
          go_ret
          refine ⟨rfl, ?_⟩
          repeat (with_reducible first | exact Below.refl _ _ | apply Below.drew | (refine Below.alloc ?_ (by first | omega | (simp; omega) | simp) _) | (refine Below.setCell ?_ (by first | omega | (simp; omega) | simp) _))
        · have e2 : (!((n == 0 || n == 1) && em)) = true := by
            have a1 : (n == 0) = false := by rw [beq_eq_false_iff_ne]; omega
            have a2 : (n == 1) = false := by rw [beq_eq_false_iff_ne]; omega
            rw [a1, a2]; rfl
          rw [e2]
          have hd : ¬ n / 2 = 0 := by omega
          have hd2 : (n / 2 != 0) = true := by rw [bne_iff_ne]; exact hd
          clear e2 hn
          go_enter Tryd.func62, Tryd.ntmps62
          go_wp2
          first | rw [hd2] | skip
          go_ret
          refine ⟨rfl, ?_⟩
          repeat (with_reducible first | exact Below.refl _ _ | apply Below.drew | (refine Below.alloc ?_ (by first | omega | (simp; omega) | simp) _) | (refine Below.setCell ?_ (by first | omega | (simp; omega) | simp) _))
      · have k3 : (k == 3) = false := by rw [beq_eq_false_iff_ne]; exact h3
        rw [k1, k2, k3]
        simp only [Bool.false_and, Bool.or_false, Bool.not_false]
        clear h1 h2 h3
        go_enter Tryd.func62, Tryd.ntmps62
        go_wp2
        go_ret
        refine ⟨rfl, ?_⟩
        repeat (with_reducible first | exact Below.refl _ _ | apply Below.drew | (refine Below.alloc ?_ (by first | omega | (simp; omega) | simp) _) | (refine Below.setCell ?_ (by first | omega | (simp; omega) | simp) _))

/-- A row's cells. -/
def rowCells (l : List AV) : List Value := (l.map AV.cells).flatten
theorem rowCells_at (l : List AV) (k r : Nat) (hk : k < l.length) (hr : r < 3) : (rowCells l)[k * 3 + r]? = (l[k].cells)[r]? := by
  have hlen : ∀ c ∈ l.map AV.cells, c.length = 3 := by
    intro c hc
    obtain ⟨a, _, rfl⟩ := List.mem_map.1 hc
    rfl
  unfold rowCells
  rw [flatten_get _ hlen k r hr, List.getElem?_map, List.getElem?_eq_getElem hk]
  rfl
theorem rowCells_length (l : List AV) : (rowCells l).length = l.length * 3 := by
  have hlen : ∀ c ∈ l.map AV.cells, c.length = 3 := by
    intro c hc
    obtain ⟨a, _, rfl⟩ := List.mem_map.1 hc
    rfl
  unfold rowCells
  rw [flatten_length _ hlen, List.length_map]
theorem sl_av {w : World} {B : Nat → Prop} {v : Value} {l : List AV} (h : Sl w B 3 v l.length (rowCells l)) {k : Nat} (hk : k < l.length) :
    ∃ g off cap, v = .slice (some ⟨g, off, none⟩) l.length cap ∧ g < w.heap.size ∧ w.cell? ⟨g, off + k * 3, none⟩ = some (.int .i64 l[k].kind) ∧ w.cell? ⟨g, off + k * 3 + 1, none⟩ = some (.int .i64 l[k].n) ∧ w.cell? ⟨g, off + k * 3 + 2, none⟩ = some (.string l[k].s) := by
  obtain ⟨g, off, cap, hv, _, _, hgb, hglt, hc⟩ := h.place (by omega)
  have get : ∀ r, r < 3 → w.cell? ⟨g, off + (k * 3 + r), none⟩ = (l[k].cells)[r]? := fun r hr => by
    rw [hc _ (by rw [rowCells_length]; omega), rowCells_at l k r hk hr]
  exact ⟨g, off, cap, hv, hglt, get 0 (by omega), get 1 (by omega), get 2 (by omega)⟩

def rightAll (l : List AV) : Bool := l.all AV.right

set_option maxRecDepth 100000 in
theorem index_wrong (w : World) (B : Nat → Prop) (v : Value) (l : List AV) (hl : Sl w B 3 v l.length (rowCells l)) (_ : l.length ≤ 1000000) :
    Calls Tryd.prog 96 #[v, .func (.func 62) #[] #[]] w fun e w' => ∃ i : Int, e = .returned (.int .i64 i) ∧ decide (0 ≤ i) = !(rightAll l) ∧ Below w.heap.size w w' := by
  obtain ⟨p, cap, rfl, hc1, hc2⟩ := hl.form
  have HL := Lib.hid hl
  clear hl
  go_enter Tryd.func96, Tryd.ntmps96
  go_wp2
  go_loopw [8] (fun i wr => ∃ k : Nat, i = .int .i64 k ∧ k ≤ l.length ∧ (l.take k).all AV.right = true ∧ Below w.heap.size w wr) (fun i _ => l.length - (intOf i).toNat)
  case atStart => exact ⟨0, rfl, Nat.zero_le _, rfl, Below.refl _ _⟩
  case round =>
    obtain ⟨k, rfl, hk, hr, hb⟩ := hrel
    have HR := Lib.hid hr
    have HB := Lib.hid hb
    by_cases hka : k < l.length
    · obtain ⟨g, off, cap', hv, hg, e0, e1, e2⟩ := sl_av (HL.out.below hb) hka
      cases hv
      have HX : Hid (∀ b, l[k].right = b → (l.take (k + 1)).all AV.right = b) := fun b hb => by
        rw [← List.take_append_getElem hka, List.all_append, hr]
        simp [hb]
      have HY : Hid (l[k].right = false → rightAll l = false) := fun h => by
        unfold rightAll
        rw [List.all_eq_false]
        exact ⟨l[k], List.getElem_mem hka, by simp [h]⟩
      clear hr hb
      generalize l[k] = x at *
      have HW := Lib.hid (fun w => wrong_any w x)
      have hag : x.agg = .agg #[.int .i64 x.kind, .int .i64 x.n, .string x.s] := rfl
      rw [hag] at HW
      clear hag
      cases hx : x.right
      · rw [hx] at HW
        have HF := Lib.hid (HY.out hx)
        clear HX HY hx
        go_wp2_with (go_at_call 62; refine (HW.out _).mono ?_; rintro e w2 ⟨rfl, hb2⟩)
        go_ret
        refine ⟨_, rfl, ?_, HB.out.trans (hb2.mono HB.out.size)⟩
        rw [HF.out]
        exact decide_eq_true (by omega)
      · rw [hx] at HW
        have HF := Lib.hid (HX.out true hx)
        clear HX HY hx
        go_wp2_with (go_at_call 62; refine (HW.out _).mono ?_; rintro e w2 ⟨rfl, hb2⟩)
        go_roundw
        case rel => exact ⟨k + 1, by go_num, by omega, HF.out, HB.out.trans (hb2.mono HB.out.size)⟩
        case measure => (simp [intOf]) <;> omega
    · obtain rfl : k = l.length := by omega
      rw [List.take_length] at hr
      go_wp2
      go_ret
      refine ⟨-1, rfl, ?_, HB.out⟩
      unfold rightAll
      rw [hr]; rfl

theorem right_any (w : World) (B : Nat → Prop) (v : Value) (l : List AV) (hl : Sl w B 3 v l.length (rowCells l)) (hll : l.length ≤ 1000000) :
    Calls Tryd.prog 17 #[v] w fun e w' => e = .returned (.bool (rightAll l)) ∧ Below w.heap.size w w' := by
  obtain ⟨p, cap, rfl, hc1, hc2⟩ := hl.form
  have HI := Lib.hid (fun w' (h : Below w.heap.size w w') => index_wrong w' B (.slice p l.length cap) l (hl.below h) hll)
  clear hl
  have HC : Hid (Calls Tryd.prog 61 #[.slice p l.length cap, .func (.func 62) #[] #[]] w fun e w' => e = .returned (.bool (!(rightAll l))) ∧ Below w.heap.size w w') := by
    generalize rightAll l = b at *
    show Calls _ _ _ _ _
    go_enter Tryd.func61, Tryd.ntmps61
    go_wp2_with (go_at_call 96; refine (HI.out _ (Below.refl _ _)).mono ?_; rintro e w2 ⟨i, rfl, hi, hb2⟩)
    go_ret
    exact ⟨rfl, hb2⟩
  cases hb : rightAll l
  all_goals
    rw [hb] at HC
    clear hb HI
    go_enter Tryd.func17, Tryd.ntmps17
    go_wp2_with (go_at_call 61; refine HC.out.mono ?_; rintro e w2 ⟨rfl, hb2⟩)
    go_ret
    exact ⟨rfl, hb2⟩
end Go.Proofs.YtlgohkdckdnmhaaDoor
/- The document's values: Right, All, Great; Value, Row, Rows. -/
namespace Go.Proofs.YtlgohkdckdnmhaaDoor
open Go.RowKit Go.Afx

set_option maxRecDepth 100000 in
set_option maxHeartbeats 1000000 in
theorem refright (w : World) (v : AV) : Calls Tryd.prog 35 #[v.agg] w fun e w' => e = .returned (.bool v.right) ∧ Below w.heap.size w w' := by
  obtain ⟨k, n, s⟩ := v
  have er : (⟨k, n, s⟩ : AV).right = ((k == 1 && s.toList.isEmpty) || (k == 2 && n == 0 && decide (s.size ≤ 200)) || (k == 3 && (n == 0 || n == 1) && s.toList.isEmpty)) := rfl
  rw [er]
  clear er
  generalize hem : s.toList.isEmpty = em
  by_cases h1 : k = 1
  · subst h1
    have e1 : ((((1 : Int) == 1) && em) || (((1 : Int) == 2) && n == 0 && decide (s.size ≤ 200)) || (((1 : Int) == 3) && (n == 0 || n == 1) && em)) = em := by cases em <;> rfl
    rw [e1]
    clear e1
    cases em
    · simp only [AV.agg]
      go_enter Tryd.func35, Tryd.ntmps35
      go_wp2
      go_ret
      refine ⟨rfl, ?_⟩
      repeat (with_reducible first | exact Below.refl _ _ | apply Below.drew | (refine Below.alloc ?_ (by first | omega | (simp; omega) | simp) _) | (refine Below.setCell ?_ (by first | omega | (simp; omega) | simp) _))
    · simp only [AV.agg]
      go_enter Tryd.func35, Tryd.ntmps35
      go_wp2
      go_ret
      refine ⟨rfl, ?_⟩
      repeat (with_reducible first | exact Below.refl _ _ | apply Below.drew | (refine Below.alloc ?_ (by first | omega | (simp; omega) | simp) _) | (refine Below.setCell ?_ (by first | omega | (simp; omega) | simp) _))
  · have k1 : (k == 1) = false := by rw [beq_eq_false_iff_ne]; exact h1
    by_cases h2 : k = 2
    · subst h2
      clear k1 h1
      by_cases hn : n = 0
      · subst hn
        by_cases hs : s.size ≤ 200
        · have e1 : ((((2 : Int) == 1) && em) || (((2 : Int) == 2) && ((0 : Int) == 0) && decide (s.size ≤ 200)) || (((2 : Int) == 3) && (((0 : Int) == 0) || ((0 : Int) == 1)) && em)) = true := by simp [hs]
          rw [e1]
          have hs2 : decide ((s.size : Int) ≤ 200) = true := decide_eq_true (by omega)
          clear e1 hem
          simp only [AV.agg]
          go_enter Tryd.func35, Tryd.ntmps35
          go_wp2
          go_ret
          refine ⟨rfl, ?_⟩
          repeat (with_reducible first | exact Below.refl _ _ | apply Below.drew | (refine Below.alloc ?_ (by first | omega | (simp; omega) | simp) _) | (refine Below.setCell ?_ (by first | omega | (simp; omega) | simp) _))
        · have e1 : ((((2 : Int) == 1) && em) || (((2 : Int) == 2) && ((0 : Int) == 0) && decide (s.size ≤ 200)) || (((2 : Int) == 3) && (((0 : Int) == 0) || ((0 : Int) == 1)) && em)) = false := by simp [hs]
          rw [e1]
          have hs2 : decide ((s.size : Int) ≤ 200) = false := decide_eq_false (by omega)
          clear e1 hem
          simp only [AV.agg]
          go_enter Tryd.func35, Tryd.ntmps35
          go_wp2
          go_ret
          refine ⟨rfl, ?_⟩
          repeat (with_reducible first | exact Below.refl _ _ | apply Below.drew | (refine Below.alloc ?_ (by first | omega | (simp; omega) | simp) _) | (refine Below.setCell ?_ (by first | omega | (simp; omega) | simp) _))
      · have hn2 : (n == 0) = false := by rw [beq_eq_false_iff_ne]; exact hn
        have e1 : ((((2 : Int) == 1) && em) || (((2 : Int) == 2) && (n == 0) && decide (s.size ≤ 200)) || (((2 : Int) == 3) && ((n == 0) || (n == 1)) && em)) = false := by simp [hn]
        rw [e1]
        clear e1 hem
        simp only [AV.agg]
        go_enter Tryd.func35, Tryd.ntmps35
        go_wp2
        go_ret
        refine ⟨rfl, ?_⟩
        repeat (with_reducible first | exact Below.refl _ _ | apply Below.drew | (refine Below.alloc ?_ (by first | omega | (simp; omega) | simp) _) | (refine Below.setCell ?_ (by first | omega | (simp; omega) | simp) _))
    · have k2 : (k == 2) = false := by rw [beq_eq_false_iff_ne]; exact h2
      by_cases h3 : k = 3
      · subst h3
        clear k1 k2 h1 h2
        by_cases hn0 : n = 0
        · subst hn0
          have e1 : ((((3 : Int) == 1) && em) || (((3 : Int) == 2) && ((0 : Int) == 0) && decide (s.size ≤ 200)) || (((3 : Int) == 3) && (((0 : Int) == 0) || ((0 : Int) == 1)) && em)) = em := by simp
          rw [e1]
          clear e1
          cases em
          · simp only [AV.agg]
            go_enter Tryd.func35, Tryd.ntmps35
            go_wp2
            go_ret
            refine ⟨rfl, ?_⟩
            repeat (with_reducible first | exact Below.refl _ _ | apply Below.drew | (refine Below.alloc ?_ (by first | omega | (simp; omega) | simp) _) | (refine Below.setCell ?_ (by first | omega | (simp; omega) | simp) _))
          · simp only [AV.agg]
            go_enter Tryd.func35, Tryd.ntmps35
            go_wp2
            go_ret
            refine ⟨rfl, ?_⟩
            repeat (with_reducible first | exact Below.refl _ _ | apply Below.drew | (refine Below.alloc ?_ (by first | omega | (simp; omega) | simp) _) | (refine Below.setCell ?_ (by first | omega | (simp; omega) | simp) _))
        · have a1 : (n == 0) = false := by rw [beq_eq_false_iff_ne]; exact hn0
          by_cases hn1 : n = 1
          · subst hn1
            have e1 : ((((3 : Int) == 1) && em) || (((3 : Int) == 2) && ((1 : Int) == 0) && decide (s.size ≤ 200)) || (((3 : Int) == 3) && (((1 : Int) == 0) || ((1 : Int) == 1)) && em)) = em := by simp
            rw [e1]
            clear e1
            cases em
            · simp only [AV.agg]
              go_enter Tryd.func35, Tryd.ntmps35
              go_wp2
              go_ret
              refine ⟨rfl, ?_⟩
              repeat (with_reducible first | exact Below.refl _ _ | apply Below.drew | (refine Below.alloc ?_ (by first | omega | (simp; omega) | simp) _) | (refine Below.setCell ?_ (by first | omega | (simp; omega) | simp) _))
            · simp only [AV.agg]
              go_enter Tryd.func35, Tryd.ntmps35
              go_wp2
              go_ret
              refine ⟨rfl, ?_⟩
              repeat (with_reducible first | exact Below.refl _ _ | apply Below.drew | (refine Below.alloc ?_ (by first | omega | (simp; omega) | simp) _) | (refine Below.setCell ?_ (by first | omega | (simp; omega) | simp) _))
          · have a2 : (n == 1) = false := by rw [beq_eq_false_iff_ne]; exact hn1
            have e1 : ((((3 : Int) == 1) && em) || (((3 : Int) == 2) && (n == 0) && decide (s.size ≤ 200)) || (((3 : Int) == 3) && ((n == 0) || (n == 1)) && em)) = false := by simp [hn0, hn1]
            rw [e1]
            clear e1 hem
            simp only [AV.agg]
            go_enter Tryd.func35, Tryd.ntmps35
            go_wp2
            go_ret
            refine ⟨rfl, ?_⟩
            repeat (with_reducible first | exact Below.refl _ _ | apply Below.drew | (refine Below.alloc ?_ (by first | omega | (simp; omega) | simp) _) | (refine Below.setCell ?_ (by first | omega | (simp; omega) | simp) _))
      · have k3 : (k == 3) = false := by rw [beq_eq_false_iff_ne]; exact h3
        rw [k1, k2, k3]
        simp only [Bool.false_and, Bool.or_false]
        clear h1 h2 h3 hem
        simp only [AV.agg]
        go_enter Tryd.func35, Tryd.ntmps35
        go_wp2
        go_ret
        refine ⟨rfl, ?_⟩
        repeat (with_reducible first | exact Below.refl _ _ | apply Below.drew | (refine Below.alloc ?_ (by first | omega | (simp; omega) | simp) _) | (refine Below.setCell ?_ (by first | omega | (simp; omega) | simp) _))
end Go.Proofs.YtlgohkdckdnmhaaDoor
/- The document's rows: Great, All, Same. -/
namespace Go.Proofs.YtlgohkdckdnmhaaDoor
open Go.RowKit Go.Afx

def greatB (l : List AV) : Bool := decide (30 < l.length) || l.any (fun v => decide (300 < v.s.size))
set_option maxRecDepth 100000 in
theorem great_row (w : World) (B : Nat → Prop) (v : Value) (l : List AV) (hl : Sl w B 3 v l.length (rowCells l)) :
    Calls Tryd.prog 13 #[v] w fun e w' => e = .returned (.bool (greatB l)) ∧ Below w.heap.size w w' := by
  obtain ⟨p, cap, rfl, hc1, hc2⟩ := hl.form
  have HL := Lib.hid hl
  clear hl
  by_cases h30 : 30 < l.length
  · have e1 : greatB l = true := by unfold greatB; simp [h30]
    rw [e1]
    have d : decide ((30 : Int) < l.length) = true := decide_eq_true (by omega)
    clear e1
    go_enter Tryd.func13, Tryd.ntmps13
    go_wp2
    go_ret
    exact ⟨rfl, Below.refl _ _⟩
  · have d : decide ((30 : Int) < l.length) = false := decide_eq_false (by omega)
    have hll : l.length ≤ 30 := by omega
    have HE : Hid (greatB l = l.any (fun v => decide (300 < v.s.size))) := by show _ = _; unfold greatB; simp; omega
    go_enter Tryd.func13, Tryd.ntmps13
    go_wp2
    go_loop [3] (fun i => ∃ k : Nat, i = .int .i64 k ∧ k ≤ l.length ∧ (l.take k).any (fun v => decide (300 < v.s.size)) = false) (fun i => l.length - (intOf i).toNat)
    case atStart => exact ⟨0, rfl, Nat.zero_le _, rfl⟩
    case round =>
      obtain ⟨k, rfl, hk, hr⟩ := hrel
      have HR := Lib.hid hr
      by_cases hka : k < l.length
      · obtain ⟨g, off, cap', hv, hg, e0, e1, e2⟩ := sl_av HL.out hka
        cases hv
        have HX : Hid (∀ b, decide (300 < l[k].s.size) = b → (l.take (k + 1)).any (fun v => decide (300 < v.s.size)) = b) := fun b hb => by
          rw [← List.take_append_getElem hka, List.any_append, hr]
          simp [← hb]
        have HY : Hid (decide (300 < l[k].s.size) = true → l.any (fun v => decide (300 < v.s.size)) = true) := fun h => by
          rw [List.any_eq_true]
          exact ⟨l[k], List.getElem_mem hka, h⟩
        clear hr e0 e1
        generalize l[k] = x at *
        by_cases hs : 300 < x.s.size
        · have d2 : decide ((300 : Int) < x.s.size) = true := decide_eq_true (by omega)
          go_wp2
          go_ret
          exact ⟨by rw [HE.out, HY.out (decide_eq_true hs)]; rfl, Below.refl _ _⟩
        · have d2 : decide ((300 : Int) < x.s.size) = false := decide_eq_false (by omega)
          go_wp2
          go_round
          case rel => exact ⟨k + 1, by go_num, by omega, HX.out false (decide_eq_false hs)⟩
          case measure => (simp [intOf]) <;> omega
      · obtain rfl : k = l.length := by omega
        rw [List.take_length] at hr
        have HR2 := Lib.hid hr
        clear hr HR
        go_wp2
        go_ret
        exact ⟨by rw [HE.out, HR2.out]; rfl, Below.refl _ _⟩

set_option maxRecDepth 100000 in
theorem all_row (w : World) (B : Nat → Prop) (v : Value) (l : List AV) (hl : Sl w B 3 v l.length (rowCells l)) :
    Calls Tryd.prog 18 #[v] w fun e w' => e = .returned (.bool (rightAll l)) ∧ Below w.heap.size w w' := by
  obtain ⟨p, cap, rfl, hc1, hc2⟩ := hl.form
  have HL := Lib.hid hl
  clear hl
  go_enter Tryd.func18, Tryd.ntmps18
  go_wp2
  go_loopw [3] (fun i wr => ∃ k : Nat, i = .int .i64 k ∧ k ≤ l.length ∧ (l.take k).all AV.right = true ∧ Below w.heap.size w wr) (fun i _ => l.length - (intOf i).toNat)
  case atStart => exact ⟨0, rfl, Nat.zero_le _, rfl, Below.refl _ _⟩
  case round =>
    obtain ⟨k, rfl, hk, hr, hb⟩ := hrel
    have HR := Lib.hid hr
    have HB := Lib.hid hb
    by_cases hka : k < l.length
    · obtain ⟨g, off, cap', hv, hg, e0, e1, e2⟩ := sl_av (HL.out.below hb) hka
      cases hv
      have HX : Hid (∀ b, l[k].right = b → (l.take (k + 1)).all AV.right = b) := fun b hb => by
        rw [← List.take_append_getElem hka, List.all_append, hr]
        simp [hb]
      have HY : Hid (l[k].right = false → rightAll l = false) := fun h => by
        unfold rightAll
        rw [List.all_eq_false]
        exact ⟨l[k], List.getElem_mem hka, by simp [h]⟩
      clear hr hb
      generalize l[k] = x at *
      have HW := Lib.hid (fun w => refright w x)
      have hag : x.agg = .agg #[.int .i64 x.kind, .int .i64 x.n, .string x.s] := rfl
      rw [hag] at HW
      clear hag
      cases hx : x.right
      · rw [hx] at HW
        have HF := Lib.hid (HY.out hx)
        clear HX HY hx
        go_wp2_with (go_at_call 35; refine (HW.out _).mono ?_; rintro e w2 ⟨rfl, hb2⟩)
        go_ret
        exact ⟨by rw [HF.out]; rfl, HB.out.trans (hb2.mono HB.out.size)⟩
      · rw [hx] at HW
        have HF := Lib.hid (HX.out true hx)
        clear HX HY hx
        go_wp2_with (go_at_call 35; refine (HW.out _).mono ?_; rintro e w2 ⟨rfl, hb2⟩)
        go_roundw
        case rel => exact ⟨k + 1, by go_num, by omega, HF.out, HB.out.trans (hb2.mono HB.out.size)⟩
        case measure => (simp [intOf]) <;> omega
    · obtain rfl : k = l.length := by omega
      rw [List.take_length] at hr
      have HR2 := Lib.hid hr
      clear hr HR
      go_wp2
      go_ret
      exact ⟨by unfold rightAll; rw [HR2.out]; rfl, HB.out⟩

end Go.Proofs.YtlgohkdckdnmhaaDoor
/- Keys: strings.ReplaceAll in one's own words; a value's key laid behind bytes. -/
namespace Go.Proofs.YtlgohkdckdnmhaaDoor
open Go.RowKit Go.Afx

/-- The library's variable holds a number. -/
def Mx (w : World) : Prop := ∃ m, w.cell? ⟨Tryd.lays155_ren.g 1, 0, none⟩ = some (.int .i64 m)
theorem Mx.below {w w' : World} (h : Mx w) (hb : Below w.heap.size w w') : Mx w' := by
  obtain ⟨m, hm⟩ := h
  exact ⟨m, (hb.cell (World.block_lt_of_cell? _ _ hm)).trans hm⟩
theorem Mx.only {S : Nat → Prop} {w w' : World} (h : Mx w) (hb : Only S w w') (hn : ¬ S (Tryd.lays155_ren.g 1)) : Mx w' := by
  obtain ⟨m, hm⟩ := h
  exact ⟨m, (hb.cell (World.block_lt_of_cell? _ _ hm) hn).trans hm⟩

theorem repl_any (w : World) (hm : Mx w) (s old new : ByteArray) (hs : s.size ≤ 1000000) (h1 : 1 ≤ old.size) (hn : new.size ≤ 2) :
    Calls Tryd.prog 71 #[.string s, .string old, .string new] w fun e w' => e = .returned (.string (bs (Lib.replaceAll s.data.toList old.data.toList new.data.toList))) ∧ Below w.heap.size w w' := by
  obtain ⟨m, hm⟩ := hm
  refine Tryd.strings_ReplaceAll s old new m w (by omega) hm h1 ?_
  have h2 := Lib.count_le s.data.toList old.data.toList
  have h3 := size_list s _ rfl
  have h4 : Lib.countB s old * new.size ≤ 1000001 * 2 := Nat.mul_le_mul (by show Lib.count _ _ ≤ _; omega) hn
  omega

/-- A number's bytes, the highest first. -/
def be : Nat → Nat → List UInt8
  | 0, _ => []
  | k + 1, u => be k (u / 256) ++ [UInt8.ofNat (u % 256)]
theorem be_length (k u : Nat) : (be k u).length = k := by
  induction k generalizing u with
  | zero => rfl
  | succ k ih => simp [be, ih]
/-- A number's place among the numbers from 0 on. -/
def up64 (n : Int) : Nat := (n + 9223372036854775808).toNat
/-- A value's key. -/
def keyB (v : AV) : List UInt8 :=
  if v.kind = 1 then 1 :: be 8 (up64 v.n) else if v.kind = 2 then 2 :: (esc 0 [0, 255] v.s.data.toList ++ [0, 1]) else [3, UInt8.ofNat v.n.toNat]
def keysB (l : List AV) : List UInt8 := (l.map keyB).flatten
theorem keyB_length (v : AV) (h : v.right = true) : (keyB v).length ≤ 410 := by
  unfold keyB
  split
  · simp [be_length]
  split
  · have h1 := (esc_length 0 0 255 v.s.data.toList).1
    have h2 := size_list v.s _ rfl
    unfold AV.right at h
    rename_i h3 h4
    simp [h4] at h
    simp only [List.length_cons, List.length_append, List.length_nil]
    omega
  · simp

theorem xor_top (x : Nat) (h : x < 18446744073709551616) : x ^^^ 9223372036854775808 = (x + 9223372036854775808) % 18446744073709551616 := by
  have h1 := Nat.xor_div_two_pow (a := x) (b := 9223372036854775808) (n := 63)
  have h2 := Nat.xor_mod_two_pow (a := x) (b := 9223372036854775808) (n := 63)
  have e1 : (2 : Nat) ^ 63 = 9223372036854775808 := by decide
  rw [e1] at h1 h2
  have e2 : 9223372036854775808 / 9223372036854775808 = 1 := by decide
  have e3 : 9223372036854775808 % 9223372036854775808 = 0 := by decide
  rw [e2] at h1
  rw [e3, Nat.xor_zero] at h2
  have h3 : x / 9223372036854775808 = 0 ∨ x / 9223372036854775808 = 1 := by omega
  rcases h3 with h3 | h3
  · rw [h3] at h1
    have : 0 ^^^ 1 = 1 := by decide
    omega
  · rw [h3] at h1
    have : 1 ^^^ 1 = 0 := by decide
    omega
theorem up64_xor (n : Int) (h : fit64 n) : bits .xor .u64 (IntKind.u64.wrap n) 9223372036854775808 = (up64 n : Int) := by
  rw [IntKind.wrap_u64]
  unfold fit64 at h
  obtain ⟨x, hx⟩ : ∃ x : Nat, n % 18446744073709551616 = x := ⟨(n % 18446744073709551616).toNat, by omega⟩
  have h1 := bits_xor_u64_nat x 9223372036854775808 (by omega) (by omega)
  rw [xor_top x (by omega)] at h1
  rw [hx]
  refine h1.trans ?_
  unfold up64
  omega
theorem up64_lt (n : Int) (h : fit64 n) : up64 n < 18446744073709551616 := by
  unfold fit64 at h; unfold up64; omega

/-- Bytes behind bytes: bv was there at w0; v holds l now. -/
def Grew (w0 : World) (bv : Value) (l : List UInt8) (v : Value) (w : World) : Prop :=
  Own w 5 1 v l.length (by8 l) ∧ Only (fun k => bv.ownBlock = some k) w0 w ∧ ∀ k, v.ownBlock = some k → bv.ownBlock = some k ∨ w0.heap.size ≤ k
theorem Grew.start {w : World} {bv : Value} {l : List UInt8} (h : Own w 5 1 bv l.length (by8 l)) : Grew w bv l bv w := ⟨h, Only.refl _ w, fun _ hk => .inl hk⟩
theorem Grew.push {w0 w w1 w2 : World} {bv v v2 : Value} {l r : List UInt8} {n m : Nat} {cs : List Value} (h : Grew w0 bv l v w) (hb : Below w.heap.size w w1) (g1 : Own w2 5 1 v2 (n + m) cs)
    (g2 : Only (fun k => v.ownBlock = some k) w1 w2) (g3 : v2.ownBlock = v.ownBlock ∨ v2.ownBlock = some w1.heap.size) (hn : n = l.length) (hm : m = r.length) (hc : cs = by8 l ++ by8 r) : Grew w0 bv (l ++ r) v2 w2 := by
  obtain ⟨h1, h2, h3⟩ := h
  subst hn; subst hm; subst hc
  refine ⟨by rw [List.length_append, by8_append]; exact g1, ?_, fun k hk => ?_⟩
  · refine (h2.trans (Only.of_none (S := fun k => bv.ownBlock = some k) hb) (fun _ _ hh => hh)).trans g2 fun i hi hk => ?_
    rcases h3 i hk with h4 | h4
    · exact h4
    · omega
  · rcases g3 with h4 | h4
    · rw [h4] at hk; exact h3 k hk
    · rw [h4] at hk
      have h5 : w1.heap.size = k := by simpa using hk
      have h6 := hb.size
      have h7 := h2.size
      exact .inr (by omega)
theorem Grew.of {w0 w : World} {bv v : Value} {l l' : List UInt8} (h : Grew w0 bv l v w) (e : l = l') : Grew w0 bv l' v w := e ▸ h
theorem sl_byte (w : World) (c : UInt8) (x : Int) (hx : x = (c.toNat : Int)) : Sl (w.alloc (.cells #[.int .u8 x] 5)) (fun _ => True) 1 (.slice (some ⟨w.heap.size, 0, none⟩) 1 1) 1 (by8 [c]) := by
  subst hx
  exact one_byte w c
theorem byte_of (u k : Nat) : ((u / k : Nat) : Int) % 256 = ((UInt8.ofNat (u / k % 256)).toNat : Int) := by
  rw [UInt8.toNat_ofNat']; omega

theorem be_step (u j : Nat) (h : j ≤ 7) : be (j + 1) (u / 256 ^ (8 - (j + 1))) = be j (u / 256 ^ (8 - j)) ++ [UInt8.ofNat (u / 256 ^ (7 - j) % 256)] := by
  have e1 : 8 - (j + 1) = 7 - j := by omega
  have e2 : 256 ^ (8 - j) = 256 ^ (7 - j) * 256 := by rw [← Nat.pow_succ]; congr 1; omega
  rw [be, e1, e2, Nat.div_div_eq_div_mul]
theorem byte_at8 (u j K : Nat) (h : 256 ^ (7 - j) = K) : ((u : Int) / (K : Int)) % 256 = ((UInt8.ofNat (u / 256 ^ (7 - j) % 256)).toNat : Int) := by
  rw [h, UInt8.toNat_ofNat']; omega
theorem byte_last (u : Nat) : (u : Int) % 256 = ((UInt8.ofNat (u / 256 ^ (7 - 7) % 256)).toNat : Int) := by
  have := byte_at8 u 7 1 rfl
  rwa [show ((1 : Nat) : Int) = 1 from rfl, Int.ediv_one] at this

set_option maxRecDepth 100000 in
theorem put_num (w : World) (bv : Value) (l : List UInt8) (n : Int) (s : ByteArray) (hf : fit64 n) (ho : Own w 5 1 bv l.length (by8 l)) (hl : l.length ≤ 100000) :
    Calls Tryd.prog 66 #[bv, .agg #[.int .i64 1, .int .i64 n, .string s]] w fun e w' => ∃ v', e = .returned v' ∧ Grew w bv (l ++ 1 :: be 8 (up64 n)) v' w' := by
  obtain ⟨p, cap, rfl, hc1, hc2⟩ := own_form ho
  have hx := up64_xor n hf
  have hlt := up64_lt n hf
  generalize up64 n = u at *
  obtain ⟨wb, hwb⟩ : ∃ wb, w.alloc (.cells #[.int .i64 1, .int .i64 n, .string s] 27) = wb := ⟨_, rfl⟩
  have hbb : Below w.heap.size w wb := by rw [← hwb]; exact (Below.refl _ _).alloc (Nat.le_refl _) _
  have hs0 := sl_byte wb 1 1 rfl
  have hal : Below w.heap.size w (wb.alloc (.cells #[.int .u8 1] 5)) := hbb.alloc hbb.size _
  have ho1 := ho.below hal
  have hk : Blk wb w.heap.size 27 [.int .i64 1, .int .i64 n, .string s] := by rw [← hwb]; exact Blk.new w _ _
  have hno : ¬ (Value.slice p l.length cap).ownBlock = some w.heap.size := fun h => by have := ho.lt _ h; omega
  have HK := Lib.hid (fun (w1 : World) (h : Only (fun k => (Value.slice p l.length cap).ownBlock = some k) (wb.alloc (.cells #[.int .u8 1] 5)) w1) => (hk.alloc (.cells #[.int .u8 1] 5)).only h hno)
  have t0 : wb.cell? ⟨w.heap.size, 0, none⟩ = some (.int .i64 1) := hk.cell 0
  have HG := Lib.hid (Grew.start ho)
  have HAL := Lib.hid hal
  clear hbb hal hk ho hno
  go_enter Tryd.func66, Tryd.ntmps66
  go_wp2_with (first
    | rw [hwb]
    | (at_builtin; refine wpList_app rfl _ _ rfl elemU8 (by rfl) ho1 (by rfl) hs0 (by unfold maxLen; omega) (by omega) ?_; intro v1 w1 g1 g2 g3 g4 g5; clear ho1 hs0
       have HK1 := HK.out w1 g2
       have t0 : w1.cell? ⟨w.heap.size, 0, none⟩ = some (.int .i64 1) := HK1.cell 0
       have t1 : w1.cell? ⟨w.heap.size, 1, none⟩ = some (.int .i64 n) := HK1.cell 1
       have G0 := Lib.hid (HG.out.push HAL.out g1 g2 g3 rfl rfl rfl); clear g1 g2 g3 g4 g5 HK1))
  clear HK HG HAL t0 t1 hlt
  go_loopw [0, 6] (fun v i wr => ∃ j : Nat, i = .int .i64 (56 - 8 * (j : Int)) ∧ j ≤ 8 ∧ Grew w (.slice p l.length cap) (l ++ [1] ++ be j (u / 256 ^ (8 - j))) v wr) (fun _ i _ => (intOf i + 8).toNat)
  case atStart => exact ⟨0, rfl, by omega, by rw [show be 0 (u / 256 ^ (8 - 0)) = [] from rfl, List.append_nil]; exact G0.out⟩
  case round =>
    obtain ⟨j, rfl, hj, hg⟩ := hrel
    obtain ⟨q, hq⟩ : ∃ q, l ++ [1] ++ be j (u / 256 ^ (8 - j)) = q := ⟨_, rfl⟩
    have hql : q.length = l.length + 1 + j := by rw [← hq]; simp only [List.length_append, be_length, List.length_cons, List.length_nil]
    rw [hq] at hg
    obtain ⟨pv, cv, rfl, hcv1, hcv2⟩ := own_form hg.1
    have HR := Lib.hid hg
    have HQ := Lib.hid hq
    clear hg hq
    have hj9 : j = 0 ∨ j = 1 ∨ j = 2 ∨ j = 3 ∨ j = 4 ∨ j = 5 ∨ j = 6 ∨ j = 7 ∨ j = 8 := by omega
    rcases hj9 with rfl | rfl | rfl | rfl | rfl | rfl | rfl | rfl | rfl
    · have hs1 := sl_byte wr (UInt8.ofNat (u / 256 ^ (7 - 0) % 256)) ((u : Int) / 72057594037927936 % 256) (byte_at8 u 0 72057594037927936 rfl)
      have hal : Below wr.heap.size wr (wr.alloc (.cells #[.int .u8 ((u : Int) / 72057594037927936 % 256)] 5)) := (Below.refl _ _).alloc (Nat.le_refl _) _
      have HB := Lib.hid hal
      have ho2 := HR.out.1.below hal
      have HE := Lib.hid (be_step u 0 (by omega))
      clear hal
      go_wp2_with (at_builtin; refine wpList_app rfl _ _ rfl elemU8 (by rfl) ho2 (by rfl) hs1 (by unfold maxLen; omega) (by omega) ?_; intro v7 w7 g1 g2 g3 g4 g5; clear ho2 hs1; have G7 := Lib.hid (HR.out.push HB.out g1 g2 g3 rfl rfl rfl); clear g1 g2 g3 g4 g5)
      refine ⟨⟨1, by go_num, by omega, ?_⟩, by (simp [intOf]) <;> omega⟩
      rw [HE.out, ← List.append_assoc, HQ.out]
      exact G7.out
    · have hs1 := sl_byte wr (UInt8.ofNat (u / 256 ^ (7 - 1) % 256)) ((u : Int) / 281474976710656 % 256) (byte_at8 u 1 281474976710656 rfl)
      have hal : Below wr.heap.size wr (wr.alloc (.cells #[.int .u8 ((u : Int) / 281474976710656 % 256)] 5)) := (Below.refl _ _).alloc (Nat.le_refl _) _
      have HB := Lib.hid hal
      have ho2 := HR.out.1.below hal
      have HE := Lib.hid (be_step u 1 (by omega))
      clear hal
      go_wp2_with (at_builtin; refine wpList_app rfl _ _ rfl elemU8 (by rfl) ho2 (by rfl) hs1 (by unfold maxLen; omega) (by omega) ?_; intro v7 w7 g1 g2 g3 g4 g5; clear ho2 hs1; have G7 := Lib.hid (HR.out.push HB.out g1 g2 g3 rfl rfl rfl); clear g1 g2 g3 g4 g5)
      refine ⟨⟨2, by go_num, by omega, ?_⟩, by (simp [intOf]) <;> omega⟩
      rw [HE.out, ← List.append_assoc, HQ.out]
      exact G7.out
    · have hs1 := sl_byte wr (UInt8.ofNat (u / 256 ^ (7 - 2) % 256)) ((u : Int) / 1099511627776 % 256) (byte_at8 u 2 1099511627776 rfl)
      have hal : Below wr.heap.size wr (wr.alloc (.cells #[.int .u8 ((u : Int) / 1099511627776 % 256)] 5)) := (Below.refl _ _).alloc (Nat.le_refl _) _
      have HB := Lib.hid hal
      have ho2 := HR.out.1.below hal
      have HE := Lib.hid (be_step u 2 (by omega))
      clear hal
      go_wp2_with (at_builtin; refine wpList_app rfl _ _ rfl elemU8 (by rfl) ho2 (by rfl) hs1 (by unfold maxLen; omega) (by omega) ?_; intro v7 w7 g1 g2 g3 g4 g5; clear ho2 hs1; have G7 := Lib.hid (HR.out.push HB.out g1 g2 g3 rfl rfl rfl); clear g1 g2 g3 g4 g5)
      refine ⟨⟨3, by go_num, by omega, ?_⟩, by (simp [intOf]) <;> omega⟩
      rw [HE.out, ← List.append_assoc, HQ.out]
      exact G7.out
    · have hs1 := sl_byte wr (UInt8.ofNat (u / 256 ^ (7 - 3) % 256)) ((u : Int) / 4294967296 % 256) (byte_at8 u 3 4294967296 rfl)
      have hal : Below wr.heap.size wr (wr.alloc (.cells #[.int .u8 ((u : Int) / 4294967296 % 256)] 5)) := (Below.refl _ _).alloc (Nat.le_refl _) _
      have HB := Lib.hid hal
      have ho2 := HR.out.1.below hal
      have HE := Lib.hid (be_step u 3 (by omega))
      clear hal
      go_wp2_with (at_builtin; refine wpList_app rfl _ _ rfl elemU8 (by rfl) ho2 (by rfl) hs1 (by unfold maxLen; omega) (by omega) ?_; intro v7 w7 g1 g2 g3 g4 g5; clear ho2 hs1; have G7 := Lib.hid (HR.out.push HB.out g1 g2 g3 rfl rfl rfl); clear g1 g2 g3 g4 g5)
      refine ⟨⟨4, by go_num, by omega, ?_⟩, by (simp [intOf]) <;> omega⟩
      rw [HE.out, ← List.append_assoc, HQ.out]
      exact G7.out
    · have hs1 := sl_byte wr (UInt8.ofNat (u / 256 ^ (7 - 4) % 256)) ((u : Int) / 16777216 % 256) (byte_at8 u 4 16777216 rfl)
      have hal : Below wr.heap.size wr (wr.alloc (.cells #[.int .u8 ((u : Int) / 16777216 % 256)] 5)) := (Below.refl _ _).alloc (Nat.le_refl _) _
      have HB := Lib.hid hal
      have ho2 := HR.out.1.below hal
      have HE := Lib.hid (be_step u 4 (by omega))
      clear hal
      go_wp2_with (at_builtin; refine wpList_app rfl _ _ rfl elemU8 (by rfl) ho2 (by rfl) hs1 (by unfold maxLen; omega) (by omega) ?_; intro v7 w7 g1 g2 g3 g4 g5; clear ho2 hs1; have G7 := Lib.hid (HR.out.push HB.out g1 g2 g3 rfl rfl rfl); clear g1 g2 g3 g4 g5)
      refine ⟨⟨5, by go_num, by omega, ?_⟩, by (simp [intOf]) <;> omega⟩
      rw [HE.out, ← List.append_assoc, HQ.out]
      exact G7.out
    · have hs1 := sl_byte wr (UInt8.ofNat (u / 256 ^ (7 - 5) % 256)) ((u : Int) / 65536 % 256) (byte_at8 u 5 65536 rfl)
      have hal : Below wr.heap.size wr (wr.alloc (.cells #[.int .u8 ((u : Int) / 65536 % 256)] 5)) := (Below.refl _ _).alloc (Nat.le_refl _) _
      have HB := Lib.hid hal
      have ho2 := HR.out.1.below hal
      have HE := Lib.hid (be_step u 5 (by omega))
      clear hal
      go_wp2_with (at_builtin; refine wpList_app rfl _ _ rfl elemU8 (by rfl) ho2 (by rfl) hs1 (by unfold maxLen; omega) (by omega) ?_; intro v7 w7 g1 g2 g3 g4 g5; clear ho2 hs1; have G7 := Lib.hid (HR.out.push HB.out g1 g2 g3 rfl rfl rfl); clear g1 g2 g3 g4 g5)
      refine ⟨⟨6, by go_num, by omega, ?_⟩, by (simp [intOf]) <;> omega⟩
      rw [HE.out, ← List.append_assoc, HQ.out]
      exact G7.out
    · have hs1 := sl_byte wr (UInt8.ofNat (u / 256 ^ (7 - 6) % 256)) ((u : Int) / 256 % 256) (byte_at8 u 6 256 rfl)
      have hal : Below wr.heap.size wr (wr.alloc (.cells #[.int .u8 ((u : Int) / 256 % 256)] 5)) := (Below.refl _ _).alloc (Nat.le_refl _) _
      have HB := Lib.hid hal
      have ho2 := HR.out.1.below hal
      have HE := Lib.hid (be_step u 6 (by omega))
      clear hal
      go_wp2_with (at_builtin; refine wpList_app rfl _ _ rfl elemU8 (by rfl) ho2 (by rfl) hs1 (by unfold maxLen; omega) (by omega) ?_; intro v7 w7 g1 g2 g3 g4 g5; clear ho2 hs1; have G7 := Lib.hid (HR.out.push HB.out g1 g2 g3 rfl rfl rfl); clear g1 g2 g3 g4 g5)
      refine ⟨⟨7, by go_num, by omega, ?_⟩, by (simp [intOf]) <;> omega⟩
      rw [HE.out, ← List.append_assoc, HQ.out]
      exact G7.out
    · have hs1 := sl_byte wr (UInt8.ofNat (u / 256 ^ (7 - 7) % 256)) ((u : Int) % 256) (byte_last u)
      have hal : Below wr.heap.size wr (wr.alloc (.cells #[.int .u8 ((u : Int) % 256)] 5)) := (Below.refl _ _).alloc (Nat.le_refl _) _
      have HB := Lib.hid hal
      have ho2 := HR.out.1.below hal
      have HE := Lib.hid (be_step u 7 (by omega))
      clear hal
      go_wp2_with (at_builtin; refine wpList_app rfl _ _ rfl elemU8 (by rfl) ho2 (by rfl) hs1 (by unfold maxLen; omega) (by omega) ?_; intro v7 w7 g1 g2 g3 g4 g5; clear ho2 hs1; have G7 := Lib.hid (HR.out.push HB.out g1 g2 g3 rfl rfl rfl); clear g1 g2 g3 g4 g5)
      refine ⟨⟨8, by go_num, by omega, ?_⟩, by (simp [intOf]) <;> omega⟩
      rw [HE.out, ← List.append_assoc, HQ.out]
      exact G7.out
    · go_wp2
      go_ret
      have h7 := HQ.out
      simp only [Nat.sub_self, Nat.pow_zero, Nat.div_one, List.append_assoc, List.singleton_append] at h7
      rw [h7]
      exact ⟨_, rfl, HR.out⟩

theorem byteCells_by8 (s : ByteArray) : byteCells s = by8 s.data.toList := rfl
theorem byteCells_bs (l : List UInt8) : byteCells (bs l) = by8 l := by rw [byteCells_by8, bs_data]

set_option maxRecDepth 100000 in
theorem put_text (w : World) (hm : Mx w) (bv : Value) (l : List UInt8) (n : Int) (s : ByteArray) (hs : s.size ≤ 1000) (ho : Own w 5 1 bv l.length (by8 l)) (hbm : ¬ bv.ownBlock = some (Tryd.lays155_ren.g 1)) (hl : l.length ≤ 100000) :
    Calls Tryd.prog 66 #[bv, .agg #[.int .i64 2, .int .i64 n, .string s]] w fun e w' => ∃ v', e = .returned v' ∧ Grew w bv (l ++ 2 :: (esc 0 [0, 255] s.data.toList ++ [0, 1])) v' w' := by
  obtain ⟨p, cap, rfl, hc1, hc2⟩ := own_form ho
  obtain ⟨wb, hwb⟩ : ∃ wb, w.alloc (.cells #[.int .i64 2, .int .i64 n, .string s] 27) = wb := ⟨_, rfl⟩
  have hbb : Below w.heap.size w wb := by rw [← hwb]; exact (Below.refl _ _).alloc (Nat.le_refl _) _
  have hs0 := sl_byte wb 2 2 rfl
  have hal : Below w.heap.size w (wb.alloc (.cells #[.int .u8 2] 5)) := hbb.alloc hbb.size _
  have ho1 := ho.below hal
  have hk : Blk wb w.heap.size 27 [.int .i64 2, .int .i64 n, .string s] := by rw [← hwb]; exact Blk.new w _ _
  have hno : ¬ (Value.slice p l.length cap).ownBlock = some w.heap.size := fun h => by have := ho.lt _ h; omega
  have HK := Lib.hid (fun (w1 : World) (h : Only (fun k => (Value.slice p l.length cap).ownBlock = some k) (wb.alloc (.cells #[.int .u8 2] 5)) w1) => (hk.alloc (.cells #[.int .u8 2] 5)).only h hno)
  have t0 : wb.cell? ⟨w.heap.size, 0, none⟩ = some (.int .i64 2) := hk.cell 0
  have HG := Lib.hid (Grew.start ho)
  have HAL := Lib.hid hal
  have HM := Lib.hid (hm.below hal)
  have HBM := Lib.hid hbm
  have e255 : (⟨#[0, 255]⟩ : ByteArray).data.toList = [0, 255] := rfl
  have e0 : (⟨#[0]⟩ : ByteArray).data.toList = [0] := rfl
  have HR := Lib.hid (fun (w : World) (h : Mx w) => repl_any w h s ⟨#[0]⟩ ⟨#[0, 255]⟩ (by omega) (by decide) (by decide))
  rw [e0, e255, replaceAll_one 0 [0, 255] (by decide)] at HR
  have hel := (esc_length 0 0 255 s.data.toList).1
  have hsz := size_list s _ rfl
  generalize esc 0 [0, 255] s.data.toList = x at *
  have hx : (bs x).size ≤ 2000 := by rw [bs_size]; omega
  have hxl : (bs x).size = x.length := bs_size x
  have hcx := Lib.hid (byteCells_bs x)
  clear hbb hal hk ho hno hm hbm e255 e0 hel hsz
  generalize hbx : bs x = sx at *
  clear hbx
  go_enter Tryd.func66, Tryd.ntmps66
  go_wp2_with (first
    | rw [hwb]
    | (at_builtin; refine wpList_app rfl _ _ rfl elemU8 (by rfl) ho1 (by rfl) hs0 (by unfold maxLen; omega) (by omega) ?_; intro v1 w1 g1 g2 g3 g4 g5; clear ho1 hs0
       have HK1 := HK.out w1 g2
       have t0 : w1.cell? ⟨w.heap.size, 0, none⟩ = some (.int .i64 2) := HK1.cell 0
       have t2 : w1.cell? ⟨w.heap.size, 2, none⟩ = some (.string s) := HK1.cell 2
       have HM1 := Lib.hid (HM.out.only g2 HBM.out)
       have G0 := Lib.hid (HG.out.push HAL.out g1 g2 g3 rfl rfl rfl); clear g1 g2 g3 g4 g5 HK1 HK HG HAL)
    | (go_at_call 71; refine (HR.out _ HM1.out).mono ?_; clear HR; rintro e w2 ⟨rfl, hb2⟩; have HB2 := Lib.hid hb2; have ho2 := G0.out.1.below hb2; clear hb2)
    | (at_builtin; refine wpList_app_str rfl _ _ rfl elemU8 Tryd.underlying9 (by rfl) ho2 sx (by rfl) (by simp only [List.length_append, List.length_cons, List.length_nil]; omega) ?_; intro v3 w3 g1 g2 g3 g4; clear ho2
       have G2 := Lib.hid (G0.out.push HB2.out g1 g2 g3 rfl hxl (by rw [hcx.out])); have ho3 := G2.out.1; clear g1 g2 g3 g4)
    | (at_builtin; refine wpList_app_str rfl _ _ rfl elemU8 Tryd.underlying9 (by rfl) ho3 ⟨#[0, 1]⟩ (by rfl) (by simp only [List.length_append, List.length_cons, List.length_nil, ← hxl]; show _ + 2 ≤ _; omega) ?_; intro v4 w4 g1 g2 g3 g4; clear ho3
       have G3 := Lib.hid (G2.out.push (Below.refl _ _) g1 g2 g3 rfl rfl (byteCells_by8 ⟨#[0, 1]⟩ ▸ rfl)); clear g1 g2 g3 g4))
  go_ret
  exact ⟨_, rfl, G3.out.of (by simp)⟩

set_option maxRecDepth 100000 in
theorem put_bool (w : World) (bv : Value) (l : List UInt8) (n : Int) (s : ByteArray) (hn : n = 0 ∨ n = 1) (ho : Own w 5 1 bv l.length (by8 l)) (hl : l.length ≤ 100000) :
    Calls Tryd.prog 66 #[bv, .agg #[.int .i64 3, .int .i64 n, .string s]] w fun e w' => ∃ v', e = .returned v' ∧ Grew w bv (l ++ [3, UInt8.ofNat n.toNat]) v' w' := by
  obtain ⟨p, cap, rfl, hc1, hc2⟩ := own_form ho
  obtain ⟨wb, hwb⟩ : ∃ wb, w.alloc (.cells #[.int .i64 3, .int .i64 n, .string s] 27) = wb := ⟨_, rfl⟩
  have hbb : Below w.heap.size w wb := by rw [← hwb]; exact (Below.refl _ _).alloc (Nat.le_refl _) _
  have hs0 := sl_byte wb 3 3 rfl
  have hal : Below w.heap.size w (wb.alloc (.cells #[.int .u8 3] 5)) := hbb.alloc hbb.size _
  have ho1 := ho.below hal
  have hk : Blk wb w.heap.size 27 [.int .i64 3, .int .i64 n, .string s] := by rw [← hwb]; exact Blk.new w _ _
  have hno : ¬ (Value.slice p l.length cap).ownBlock = some w.heap.size := fun h => by have := ho.lt _ h; omega
  have HK := Lib.hid (fun (w1 : World) (h : Only (fun k => (Value.slice p l.length cap).ownBlock = some k) (wb.alloc (.cells #[.int .u8 3] 5)) w1) => (hk.alloc (.cells #[.int .u8 3] 5)).only h hno)
  have t0 : wb.cell? ⟨w.heap.size, 0, none⟩ = some (.int .i64 3) := hk.cell 0
  have HG := Lib.hid (Grew.start ho)
  have HAL := Lib.hid hal
  have hbyte : n = ((UInt8.ofNat n.toNat).toNat : Int) := by rcases hn with rfl | rfl <;> rfl
  have HS2 := Lib.hid (fun w => sl_byte w (UInt8.ofNat n.toNat) n hbyte)
  have hnr : 0 ≤ n ∧ n ≤ 255 := by omega
  obtain ⟨hn0, hn1⟩ := hnr
  clear hbb hal hk ho hno hbyte hn
  go_enter Tryd.func66, Tryd.ntmps66
  go_wp2_with (first
    | rw [hwb]
    | (at_builtin; refine wpList_app rfl _ _ rfl elemU8 (by rfl) ho1 (by rfl) hs0 (by unfold maxLen; omega) (by omega) ?_; intro v1 w1 g1 g2 g3 g4 g5; clear ho1 hs0
       have HK1 := HK.out w1 g2
       have t0 : w1.cell? ⟨w.heap.size, 0, none⟩ = some (.int .i64 3) := HK1.cell 0
       have t1 : w1.cell? ⟨w.heap.size, 1, none⟩ = some (.int .i64 n) := HK1.cell 1
       have hs5 := HS2.out w1
       have HB1 : Hid (Below w1.heap.size w1 (w1.alloc (.cells #[.int .u8 n] 5))) := (Below.refl _ _).alloc (Nat.le_refl _) _
       have G0 := Lib.hid (HG.out.push HAL.out g1 g2 g3 rfl rfl rfl); have ho2 := G0.out.1.below HB1.out; clear g1 g2 g3 g4 g5 HK1 HK HG HAL)
    | (at_builtin; refine wpList_app rfl _ _ rfl elemU8 (by rfl) ho2 (by rfl) hs5 (by unfold maxLen; simp only [List.length_append, List.length_cons, List.length_nil]; omega) (by simp only [List.length_append, List.length_cons, List.length_nil]; omega) ?_; intro v3 w3 g1 g2 g3 g4 g5; clear ho2 hs5
       have G2 := Lib.hid (G0.out.push HB1.out g1 g2 g3 rfl rfl rfl); clear g1 g2 g3 g4))
  go_ret
  exact ⟨_, rfl, G2.out.of (by simp)⟩

theorem put_any (w : World) (hm : Mx w) (bv : Value) (l : List UInt8) (v : AV) (hr : v.right = true) (hf : fit64 v.n) (ho : Own w 5 1 bv l.length (by8 l)) (hbm : ¬ bv.ownBlock = some (Tryd.lays155_ren.g 1)) (hl : l.length ≤ 100000) :
    Calls Tryd.prog 66 #[bv, v.agg] w fun e w' => ∃ v', e = .returned v' ∧ Grew w bv (l ++ keyB v) v' w' := by
  obtain ⟨k, n, s⟩ := v
  unfold AV.right at hr
  simp only [AV.agg, keyB] at hr hf ⊢
  by_cases h1 : k = 1
  · subst h1
    rw [if_pos rfl]
    exact put_num w bv l n s hf ho hl
  rw [if_neg h1]
  by_cases h2 : k = 2
  · subst h2
    rw [if_pos rfl]
    simp at hr
    exact put_text w hm bv l n s (by omega) ho hbm hl
  rw [if_neg h2]
  simp [h1, h2] at hr
  obtain ⟨⟨rfl, h4⟩, _⟩ := hr
  exact put_bool w bv l n s h4 ho hl

theorem keysB_next (l : List AV) (k : Nat) (h : k < l.length) : keysB (l.take (k + 1)) = keysB (l.take k) ++ keyB l[k] := by
  unfold keysB
  rw [← List.take_append_getElem h, List.map_append, List.flatten_append]
  simp only [List.map_cons, List.map_nil, List.flatten_cons, List.flatten_nil, List.append_nil]
theorem keysB_len (l : List AV) (h : rightAll l = true) (k : Nat) : (keysB (l.take k)).length ≤ 410 * (l.take k).length := by
  unfold rightAll at h
  rw [List.all_eq_true] at h
  have h2 : ∀ a ∈ l.take k, a.right = true := fun a ha => h a (List.mem_of_mem_take ha)
  generalize l.take k = m at *
  unfold keysB
  induction m with
  | nil => simp
  | cons a m ih =>
    have h3 := keyB_length a (h2 a (by simp))
    have h4 := ih (fun b hb => h2 b (by simp [hb]))
    simp only [List.map_cons, List.flatten_cons, List.length_append, List.length_cons]
    omega

/-- A row's key. -/
def rowKey (l : List AV) : List UInt8 := if rightAll l then keysB l else []

set_option maxRecDepth 100000 in
theorem key_any (w : World) (hm : Mx w) (B : Nat → Prop) (v : Value) (l : List AV) (hl : Sl w B 3 v l.length (rowCells l)) (hf : ∀ a ∈ l, fit64 a.n) (hll : l.length ≤ 200) :
    Calls Tryd.prog 27 #[v] w fun e w' => e = .returned (.string (bs (rowKey l))) ∧ Below w.heap.size w w' := by
  obtain ⟨p, cap, rfl, hc1, hc2⟩ := hl.form
  have HL := Lib.hid hl
  have HM := Lib.hid hm
  have HF := Lib.hid hf
  have HR := Lib.hid (right_any w B _ l hl (by omega))
  clear hl hm hf
  cases hr : rightAll l
  · rw [hr] at HR
    have e1 : bs (rowKey l) = ⟨#[]⟩ := by unfold rowKey; rw [hr]; rfl
    rw [e1]
    clear hr e1
    go_enter Tryd.func27, Tryd.ntmps27
    go_wp2_with (go_at_call 17; refine HR.out.mono ?_; clear HR; rintro e w2 ⟨rfl, hb2⟩)
    go_ret
    exact ⟨rfl, hb2⟩
  · rw [hr] at HR
    have e1 : rowKey l = keysB l := by unfold rowKey; rw [hr]; rfl
    rw [e1]
    have HRR := Lib.hid hr
    clear hr e1
    go_enter Tryd.func27, Tryd.ntmps27
    go_wp2_with (go_at_call 17; refine HR.out.mono ?_; clear HR; rintro e w2 ⟨rfl, hb2⟩; have HB2 := Lib.hid hb2; clear hb2)
    go_loopw [3, 11] (fun v i wr => ∃ k : Nat, i = .int .i64 k ∧ k ≤ l.length ∧ Own wr 5 1 v (keysB (l.take k)).length (by8 (keysB (l.take k))) ∧ (∀ q, v.ownBlock = some q → w.heap.size ≤ q) ∧ Below w.heap.size w wr) (fun _ i _ => l.length - (intOf i).toNat)
    case atStart => exact ⟨0, rfl, Nat.zero_le _, Own.nil _ _ _, by simp [Value.ownBlock], HB2.out⟩
    case round =>
      obtain ⟨k, rfl, hk, hown, hnew, hbr⟩ := hrel
      have hlen := keysB_len l HRR.out k
      rw [List.length_take] at hlen
      have HN := Lib.hid (fun h => keysB_next l k h)
      generalize hq : keysB (l.take k) = q at *
      obtain ⟨pv, cv, rfl, hcv1, hcv2⟩ := own_form hown
      have HOWN := Lib.hid hown
      have HNEW := Lib.hid hnew
      have HBR := Lib.hid hbr
      have HLR := HL.out.below hbr
      clear hown hnew hbr
      by_cases hka : k < l.length
      · obtain ⟨g, off, cap', hv, hg, e0, e1, e2⟩ := sl_av HLR hka
        cases hv
        have hrk : l[k].right = true := by
          have := HRR.out
          unfold rightAll at this
          rw [List.all_eq_true] at this
          exact this _ (List.getElem_mem hka)
        have hfk := HF.out _ (List.getElem_mem hka)
        have HN2 := Lib.hid (HN.out hka)
        clear HN HLR
        generalize l[k] = x at *
        have hal : Below wr.heap.size wr (wr.alloc (.cells #[.int .i64 x.kind, .int .i64 x.n, .string x.s] 27)) := (Below.refl _ _).alloc (Nat.le_refl _) _
        have hmr := ((HM.out.below HBR.out).below hal)
        have HP := Lib.hid (put_any _ hmr (.slice pv q.length cv) q x hrk hfk (HOWN.out.below hal) (fun h => by
          have h1 := HNEW.out _ h
          obtain ⟨m, h2⟩ := HM.out
          have h3 : Tryd.lays155_ren.g 1 < w.heap.size := World.block_lt_of_cell? _ _ h2
          omega) (by omega))
        have hag : x.agg = .agg #[.int .i64 x.kind, .int .i64 x.n, .string x.s] := rfl
        rw [hag] at HP
        have HAL := Lib.hid hal
        clear hrk hfk hal hmr hag
        go_wp2_with (go_at_call 66; refine HP.out.mono ?_; clear HP; rintro e w3 ⟨v3, rfl, hg3⟩; have HG3 := Lib.hid hg3; clear hg3)
        refine ⟨⟨k + 1, by go_num, by omega, ?_, fun z hz => ?_, ?_⟩, by (simp [intOf]) <;> omega⟩
        · rw [HN2.out]; exact HG3.out.1
        · have h5 := HBR.out.size
          have h6 := HAL.out.size
          rcases HG3.out.2.2 z hz with h | h
          · exact HNEW.out z h
          · omega
        · exact (HBR.out.trans (HAL.out.mono HBR.out.size)).trans (HG3.out.2.1.below (by have := HBR.out.size; have := HAL.out.size; omega) (fun z hz => HNEW.out z hz))
      · obtain rfl : k = l.length := by omega
        rw [List.take_length] at hq
        subst hq
        have kc := sl_string wr (fun _ => True) _ (keysB l) (HOWN.out.sl (fun _ _ => trivial))
        go_wp2
        go_ret
        exact ⟨rfl, HBR.out⟩
end Go.Proofs.YtlgohkdckdnmhaaDoor
/- What the world's shape gives: the library's variable holds a number. -/
namespace Go.Proofs.YtlgohkdckdnmhaaDoor
theorem mx_of {W : World} (h : W.ShapedOpen Tryd.prog) : Mx W :=
  cell_of_shapedOpen_int (g := Tryd.lays155_ren.g 1) (t := 3) (zero := #[.int .i64 0]) (k := .i64) h (by decide) (by kernel_rfl) rfl (by kernel_rfl) (by kernel_rfl) Tryd.underlying3
end Go.Proofs.YtlgohkdckdnmhaaDoor
/- Names: letter, part, named; the document's Named. -/
namespace Go.Proofs.YtlgohkdckdnmhaaDoor
open Go.RowKit Go.Afx

def letterB (c : UInt8) : Bool := decide (97 ≤ c.toNat) && decide (c.toNat ≤ 122)
def partB (c : UInt8) : Bool := letterB c || (decide (48 ≤ c.toNat) && decide (c.toNat ≤ 57)) || c.toNat == 95
def namedL : List UInt8 → Bool
  | [] => false
  | c :: t => decide (t.length ≤ 15) && letterB c && t.all partB
def namedB (s : ByteArray) : Bool := namedL s.data.toList
theorem letter_part (c : UInt8) (h : letterB c = true) : partB c = true := by unfold partB; rw [h]; rfl

theorem letter_any (w : World) (c : UInt8) : Calls Tryd.prog 112 #[.int .u8 (c.toNat : Int)] w fun e w' => e = .returned (.bool (letterB c)) ∧ w = w' := by
  have hc : (c.toNat : Int) < 256 := by have := c.toNat_lt; omega
  have hl : letterB c = (decide ((97 : Int) ≤ (c.toNat : Int)) && decide ((c.toNat : Int) ≤ 122)) := by
    unfold letterB
    congr 1 <;> (rw [Bool.eq_iff_iff]; simp; omega)
  rw [hl]
  have h0 : (0 : Int) ≤ (c.toNat : Int) := by omega
  generalize (c.toNat : Int) = n at *
  clear hl
  by_cases h1 : 97 ≤ n
  · have e1 : decide ((97 : Int) ≤ n) = true := decide_eq_true h1
    rw [e1]
    go_enter Tryd.func112, Tryd.ntmps112
    go_wp2
    go_ret
    exact ⟨rfl, rfl⟩
  · have e1 : decide ((97 : Int) ≤ n) = false := decide_eq_false h1
    rw [e1]
    go_enter Tryd.func112, Tryd.ntmps112
    go_wp2
    go_ret
    exact ⟨rfl, rfl⟩

theorem part_any (w : World) (c : UInt8) : Calls Tryd.prog 113 #[.int .u8 (c.toNat : Int)] w fun e w' => e = .returned (.bool (partB c)) ∧ w = w' := by
  have HL := Lib.hid (letter_any w c)
  have hc : (c.toNat : Int) < 256 := by have := c.toNat_lt; omega
  have hp : partB c = (letterB c || (decide ((48 : Int) ≤ (c.toNat : Int)) && decide ((c.toNat : Int) ≤ 57)) || ((c.toNat : Int) == 95)) := by
    unfold partB
    congr 1
    · congr 1
      congr 1 <;> (rw [Bool.eq_iff_iff]; simp; omega)
    · rw [Bool.eq_iff_iff]; simp; omega
  rw [hp]
  have h0 : (0 : Int) ≤ (c.toNat : Int) := by omega
  generalize letterB c = lb at *
  generalize (c.toNat : Int) = n at *
  clear hp
  cases lb
  · by_cases h1 : 48 ≤ n
    · have e1 : decide ((48 : Int) ≤ n) = true := decide_eq_true h1
      by_cases h2 : n ≤ 57
      · have e2 : decide (n ≤ 57) = true := decide_eq_true h2
        rw [e1, e2]
        go_enter Tryd.func113, Tryd.ntmps113
        go_wp2_with (go_at_call 112; refine HL.out.mono ?_; rintro e w2 ⟨rfl, rfl⟩)
        go_ret
        exact ⟨rfl, rfl⟩
      · have e2 : decide (n ≤ 57) = false := decide_eq_false h2
        rw [e1, e2]
        go_enter Tryd.func113, Tryd.ntmps113
        go_wp2_with (go_at_call 112; refine HL.out.mono ?_; rintro e w2 ⟨rfl, rfl⟩)
        go_ret
        exact ⟨rfl, rfl⟩
    · have e1 : decide ((48 : Int) ≤ n) = false := decide_eq_false h1
      rw [e1]
      go_enter Tryd.func113, Tryd.ntmps113
      go_wp2_with (go_at_call 112; refine HL.out.mono ?_; rintro e w2 ⟨rfl, rfl⟩)
      go_ret
      exact ⟨rfl, rfl⟩
  · go_enter Tryd.func113, Tryd.ntmps113
    go_wp2_with (go_at_call 112; refine HL.out.mono ?_; rintro e w2 ⟨rfl, rfl⟩)
    go_ret
    exact ⟨rfl, rfl⟩

theorem named_any (w : World) (s : ByteArray) (hs : s.size ≤ maxLen) : Calls Tryd.prog 88 #[.string s] w fun e w' => e = .returned (.bool (namedB s)) ∧ Below w.heap.size w w' := by
  obtain ⟨l, hl⟩ : ∃ l, s.data.toList = l := ⟨_, rfl⟩
  have hsz := size_list s l hl
  have hem := toList_list s l hl
  have hN : namedB s = namedL l := by unfold namedB; rw [hl]
  rw [hN]
  have HG := Lib.hid (get_list s l hl)
  have kc : ∀ w, (convert 9 92 (.string s)).run Tryd.prog w = .ok (.slice (some ⟨w.heap.size, 0, none⟩) s.size (cvCap w s 5)) (cvW w s 5) := fun w => run_cv w _ _ _ s Tryd.underlying9 Tryd.underlying92 Tryd.underlying5
  unfold maxLen at hs
  cases l with
  | nil =>
    have e1 : s.toList.isEmpty = true := hem
    clear kc hem HG hN hl
    go_enter Tryd.func88, Tryd.ntmps88
    go_wp2
    go_ret
    exact ⟨rfl, Below.refl _ _⟩
  | cons c t =>
    have e1 : s.toList.isEmpty = false := hem
    rw [List.length_cons] at hsz
    have hg0 : ∀ (h : 0 < s.size), ((s[0]'h).toNat : Int) = (c.toNat : Int) := fun h => by rw [HG.out 0 h (by simp)]; rfl
    have h0s : 0 < s.size := by omega
    have hg1 := hg0 h0s
    have HLT := Lib.hid (fun w => letter_any w c)
    by_cases h16 : 15 < t.length
    · have e2 : decide ((16 : Int) < s.size) = true := decide_eq_true (by omega)
      have e3 : namedL (c :: t) = false := by show (decide (t.length ≤ 15) && letterB c && t.all partB) = false; rw [decide_eq_false (by omega)]; rfl
      rw [e3]
      clear kc hem HG hN hl e3
      go_enter Tryd.func88, Tryd.ntmps88
      go_wp2
      go_ret
      exact ⟨rfl, Below.refl _ _⟩
    · have e2 : decide ((16 : Int) < s.size) = false := decide_eq_false (by omega)
      have e3 : namedL (c :: t) = (letterB c && t.all partB) := by show (decide (t.length ≤ 15) && letterB c && t.all partB) = _; rw [decide_eq_true (by omega)]; rfl
      cases hlb : letterB c
      · have e4 : namedL (c :: t) = false := by rw [e3, hlb]; rfl
        rw [e4]
        rw [hlb] at HLT
        clear kc hem HG hN hl e3 e4 hlb
        go_enter Tryd.func88, Tryd.ntmps88
        go_wp2_with (go_at_call 112; refine (HLT.out _).mono ?_; rintro e w2 ⟨rfl, rfl⟩)
        go_ret
        exact ⟨rfl, Below.refl _ _⟩
      · have e4 : namedL (c :: t) = (c :: t).all partB := by rw [e3, hlb, List.all_cons, letter_part c hlb]
        rw [e4]
        rw [hlb] at HLT
        have HC : Hid (∀ k (h : k < (c :: t).length), (cvW w s 5).cell? ⟨w.heap.size, k, none⟩ = some (.int .u8 ((c :: t)[k].toNat : Int))) := fun k h => cvW_cell w s _ _ hl k h
        have HB : Hid (Below w.heap.size w (cvW w s 5)) := cvW_below w s _
        have hs2 : s.size = (c :: t).length := by rw [List.length_cons]; exact hsz
        have hl17 : (c :: t).length ≤ 16 := by rw [List.length_cons]; omega
        clear hem HG hN hl e3 e4 hlb hsz h16
        generalize (c :: t) = l at *
        go_enter Tryd.func88, Tryd.ntmps88
        go_wp2_with (go_at_call 112; refine (HLT.out _).mono ?_; rintro e w2 ⟨rfl, rfl⟩)
        clear kc hg0 hg1 e1 e2
        go_loop [21] (fun i => ∃ k : Nat, i = .int .i64 k ∧ k ≤ l.length ∧ (l.take k).all partB = true) (fun i => l.length - (intOf i).toNat)
        case atStart => exact ⟨0, rfl, Nat.zero_le _, rfl⟩
        case round =>
          obtain ⟨k, rfl, hk, hr⟩ := hrel
          by_cases hka : k < l.length
          · have hck := HC.out k hka
            have HX : Hid (∀ b, partB l[k] = b → (l.take (k + 1)).all partB = b) := fun b hb => by
              rw [← List.take_append_getElem hka, List.all_append, hr]
              simp [hb]
            have HY : Hid (partB l[k] = false → l.all partB = false) := fun h => by
              rw [List.all_eq_false]
              exact ⟨l[k], List.getElem_mem hka, by simp [h]⟩
            have HP := Lib.hid (fun w => part_any w l[k])
            clear hr
            generalize l[k] = x at *
            cases hx : partB x
            · rw [hx] at HP
              have HF := Lib.hid (HY.out hx)
              clear hx HX HY
              go_wp2_with (go_at_call 113; refine (HP.out _).mono ?_; rintro e w2 ⟨rfl, rfl⟩)
              go_ret
              exact ⟨by rw [HF.out]; rfl, HB.out⟩
            · rw [hx] at HP
              have HF := Lib.hid (HX.out true hx)
              clear hx HX HY
              go_wp2_with (go_at_call 113; refine (HP.out _).mono ?_; rintro e w2 ⟨rfl, rfl⟩)
              go_round
              case rel => exact ⟨k + 1, by go_num, by omega, HF.out⟩
              case measure => (simp [intOf]) <;> omega
          · obtain rfl : k = l.length := by omega
            rw [List.take_length] at hr
            have HR := Lib.hid hr
            clear hr
            go_wp2
            go_ret
            exact ⟨by rw [HR.out]; rfl, HB.out⟩
end Go.Proofs.YtlgohkdckdnmhaaDoor
/- Names: the document's Named. -/
namespace Go.Proofs.YtlgohkdckdnmhaaDoor
open Go.RowKit Go.Afx

/-- What the document asks of the byte at a place. -/
def nameAt (k : Nat) (c : UInt8) : Bool := letterB c || (decide (k ≠ 0) && partB c)
theorem namedL_at (l : List UInt8) (h1 : 1 ≤ l.length) (h16 : l.length ≤ 16) (h : ∀ k (hk : k < l.length), nameAt k l[k] = true) : namedL l = true := by
  cases l with
  | nil => simp at h1
  | cons c t =>
    show (decide (t.length ≤ 15) && letterB c && t.all partB) = true
    have h0 := h 0 (by simp)
    simp only [List.length_cons] at h16
    have hl : letterB c = true := by simpa [nameAt] using h0
    rw [decide_eq_true (by omega), hl, List.all_eq_true.2]
    · rfl
    · intro x hx
      obtain ⟨k, hk, rfl⟩ := List.getElem_of_mem hx
      have := h (k + 1) (by simp; omega)
      unfold nameAt at this
      rw [List.getElem_cons_succ] at this
      simp at this
      rcases this with h | h
      · exact letter_part _ h
      · exact h
theorem namedL_not (l : List UInt8) (k : Nat) (hk : k < l.length) (h : nameAt k l[k] = false) : namedL l = false := by
  cases l with
  | nil => rfl
  | cons c t =>
    show (decide (t.length ≤ 15) && letterB c && t.all partB) = false
    unfold nameAt at h
    rw [Bool.or_eq_false_iff] at h
    cases k with
    | zero =>
      rw [List.getElem_cons_zero] at h
      rw [h.1]; simp
    | succ k =>
      rw [List.getElem_cons_succ] at h
      have : t.all partB = false := by
        rw [List.all_eq_false]
        exact ⟨t[k]'(by simpa using hk), List.getElem_mem _, by have := h.2; simp at this; simp [this]⟩
      rw [this]; simp

set_option maxRecDepth 100000 in
set_option maxHeartbeats 1000000 in
theorem refnamed (w : World) (s : ByteArray) (hs : s.size ≤ maxLen) : Calls Tryd.prog 51 #[.string s] w fun e w' => e = .returned (.bool (namedB s)) ∧ w = w' := by
  obtain ⟨l, hl⟩ : ∃ l, s.data.toList = l := ⟨_, rfl⟩
  have hsz := size_list s l hl
  have hN : namedB s = namedL l := by unfold namedB; rw [hl]
  rw [hN]
  have HG := Lib.hid (get_list s l hl)
  unfold maxLen at hs
  clear hN hl
  by_cases h1 : s.size < 1
  · have e1 : decide ((s.size : Int) < 1) = true := decide_eq_true (by omega)
    obtain rfl : l = [] := List.eq_nil_of_length_eq_zero (by omega)
    go_enter Tryd.func51, Tryd.ntmps51
    go_wp2
    go_ret
    exact ⟨rfl, rfl⟩
  have e1 : decide ((s.size : Int) < 1) = false := decide_eq_false (by omega)
  by_cases h16 : 16 < s.size
  · have e2 : decide ((16 : Int) < s.size) = true := decide_eq_true (by omega)
    have e3 : namedL l = false := by
      cases l with
      | nil => rfl
      | cons c t =>
        rw [List.length_cons] at hsz
        show (decide (t.length ≤ 15) && letterB c && t.all partB) = false
        rw [decide_eq_false (by omega)]; rfl
    rw [e3]
    clear e3
    go_enter Tryd.func51, Tryd.ntmps51
    go_wp2
    go_ret
    exact ⟨rfl, rfl⟩
  have e2 : decide ((16 : Int) < s.size) = false := decide_eq_false (by omega)
  have HT : Hid ((∀ k (hk : k < l.length), nameAt k l[k] = true) → namedL l = true) := fun h => namedL_at l (by omega) (by omega) h
  have HF : Hid (∀ k (hk : k < l.length), nameAt k l[k] = false → namedL l = false) := fun k hk h => namedL_not l k hk h
  have hlen : l.length ≤ 16 := by omega
  have HSZ := Lib.hid hsz
  clear h1 h16 hsz
  go_enter Tryd.func51, Tryd.ntmps51
  go_wp2
  clear e1 e2
  go_loop [3] (fun i => ∃ k : Nat, i = .int .i64 k ∧ k ≤ l.length ∧ ∀ j (hj : j < l.length), j < k → nameAt j l[j] = true) (fun i => l.length - (intOf i).toNat)
  case atStart => exact ⟨0, rfl, Nat.zero_le _, fun j _ h => absurd h (Nat.not_lt_zero _)⟩
  case round =>
    obtain ⟨k, rfl, hk, hr⟩ := hrel
    have HR := Lib.hid hr
    clear hr
    have hks : (s.size : Int) = l.length := by rw [HSZ.out]
    by_cases hka : k < l.length
    · have hki : (k : Int) < s.size := by omega
      have hks2 : k < s.size := by omega
      have hg : ((s[k]'hks2).toNat : Int) = (l[k].toNat : Int) := by rw [HG.out k hks2 hka]
      have HX : Hid (nameAt k l[k] = true → ∀ j (hj : j < l.length), j < k + 1 → nameAt j l[j] = true) := fun h j hj hjk => by
        rcases Nat.lt_or_ge j k with h2 | h2
        · exact HR.out j hj h2
        · obtain rfl : j = k := by omega
          exact h
      have HY := Lib.hid (HF.out k hka)
      have hna : nameAt k l[k] = ((decide ((97 : Int) ≤ (l[k].toNat : Int)) && decide ((l[k].toNat : Int) ≤ 122)) || (decide ((k : Int) ≠ 0) && ((decide ((48 : Int) ≤ (l[k].toNat : Int)) && decide ((l[k].toNat : Int) ≤ 57)) || ((l[k].toNat : Int) == 95)))) := by
        have hl : letterB l[k] = (decide ((97 : Int) ≤ (l[k].toNat : Int)) && decide ((l[k].toNat : Int) ≤ 122)) := by
          unfold letterB
          congr 1 <;> (rw [Bool.eq_iff_iff]; simp; omega)
        have hp : (decide (48 ≤ l[k].toNat) && decide (l[k].toNat ≤ 57)) = (decide ((48 : Int) ≤ (l[k].toNat : Int)) && decide ((l[k].toNat : Int) ≤ 57)) := by congr 1 <;> (rw [Bool.eq_iff_iff]; simp; omega)
        have hq : (l[k].toNat == 95) = ((l[k].toNat : Int) == 95) := by rw [Bool.eq_iff_iff]; simp; omega
        have hz : decide (k ≠ 0) = decide ((k : Int) ≠ 0) := by rw [Bool.eq_iff_iff]; simp
        unfold nameAt partB
        rw [hl, hp, hq, hz]
        generalize (decide ((97 : Int) ≤ (l[k].toNat : Int)) && decide ((l[k].toNat : Int) ≤ 122)) = a
        generalize decide ((k : Int) ≠ 0) = b
        cases a <;> cases b <;> rfl
      have hc : (l[k].toNat : Int) < 256 := by have := l[k].toNat_lt; omega
      have hc0 : (0 : Int) ≤ (l[k].toNat : Int) := by omega
      rw [hna] at HX HY
      clear hna
      generalize (l[k].toNat : Int) = c at *
      cases a1 : decide ((97 : Int) ≤ c) <;> cases a2 : decide (c ≤ 122) <;> cases a3 : decide ((48 : Int) ≤ c) <;> cases a4 : decide (c ≤ 57) <;> cases a5 : (c == 95) <;> (first | (exfalso; simp at a1 a2 a3 a4 a5; omega) | skip)
      all_goals
        rw [a1, a2, a3, a4, a5] at HX HY
        have b5 : (c != 95) = !(c == 95) := rfl
        rw [a5] at b5
        simp only [Bool.not_true, Bool.not_false] at b5
        rcases Nat.eq_zero_or_pos k with hk0 | hk0
      all_goals
        first
          | subst hk0
          | (have hkb : ((k : Int) == 0) = false := beq_eq_false_iff_ne.2 (by omega); have hkd : decide ((k : Int) ≠ 0) = true := decide_eq_true (by omega); rw [hkd] at HX HY; clear hkd)
        go_wp2
        first
          | (go_ret; exact ⟨by rw [HY.out (by simp)]; rfl, rfl⟩)
          | (go_round;
             case rel => exact ⟨_, by go_num, by omega, HX.out (by simp)⟩
             case measure => (simp [intOf]) <;> omega)
    · obtain rfl : k = l.length := by omega
      have e1 := HT.out (fun j hj => HR.out j hj hj)
      have E1 := Lib.hid e1
      clear e1
      go_wp2
      go_ret
      exact ⟨by rw [E1.out]; rfl, rfl⟩
end Go.Proofs.YtlgohkdckdnmhaaDoor
/- Schemas: columns, indexes; what is alike. -/
namespace Go.Proofs.YtlgohkdckdnmhaaDoor
open Go.RowKit Go.Afx

structure ColV where
  name : ByteArray
  kind : Int
def ColV.cells (c : ColV) : List Value := [.string c.name, .int .i64 c.kind]
def ColV.agg (c : ColV) : Value := .agg #[.string c.name, .int .i64 c.kind]
structure IdxV where
  v : Value
  l : List Int
  unique : Bool
def IdxV.cells (x : IdxV) : List Value := [x.v, .bool x.unique]
def IdxV.agg (x : IdxV) : Value := .agg #[x.v, .bool x.unique]
def colCells (l : List ColV) : List Value := (l.map ColV.cells).flatten
def idxCells (l : List IdxV) : List Value := (l.map IdxV.cells).flatten
/-- Indexes that read, with their places. -/
def IdxAt (w : World) (B : Nat → Prop) (v : Value) (l : List IdxV) : Prop := Sl w B 2 v l.length (idxCells l) ∧ ∀ x ∈ l, Sl w B 1 x.v x.l.length (ints x.l)
theorem IdxAt.below {w w' : World} {B : Nat → Prop} {v : Value} {l : List IdxV} (h : IdxAt w B v l) (hb : Below w.heap.size w w') : IdxAt w' B v l := ⟨h.1.below hb, fun x hx => (h.2 x hx).below hb⟩

theorem cells2_at {α : Type} (f : α → List Value) (hf : ∀ a, (f a).length = 2) (l : List α) (k r : Nat) (hk : k < l.length) (hr : r < 2) : ((l.map f).flatten)[k * 2 + r]? = (f l[k])[r]? := by
  have hlen : ∀ c ∈ l.map f, c.length = 2 := by
    intro c hc
    obtain ⟨a, _, rfl⟩ := List.mem_map.1 hc
    exact hf a
  rw [flatten_get _ hlen k r hr, List.getElem?_map, List.getElem?_eq_getElem hk]
  rfl
theorem cells2_length {α : Type} (f : α → List Value) (hf : ∀ a, (f a).length = 2) (l : List α) : ((l.map f).flatten).length = l.length * 2 := by
  have hlen : ∀ c ∈ l.map f, c.length = 2 := by
    intro c hc
    obtain ⟨a, _, rfl⟩ := List.mem_map.1 hc
    exact hf a
  rw [flatten_length _ hlen, List.length_map]
theorem sl_two {α : Type} {f : α → List Value} (hf : ∀ a, (f a).length = 2) {w : World} {B : Nat → Prop} {v : Value} {l : List α} (h : Sl w B 2 v l.length ((l.map f).flatten)) {k : Nat} (hk : k < l.length) :
    ∃ g off cap, v = .slice (some ⟨g, off, none⟩) l.length cap ∧ g < w.heap.size ∧ w.cell? ⟨g, off + k * 2, none⟩ = (f l[k])[0]? ∧ w.cell? ⟨g, off + k * 2 + 1, none⟩ = (f l[k])[1]? := by
  obtain ⟨g, off, cap, hv, _, _, hgb, hglt, hc⟩ := h.place (by omega)
  have get : ∀ r, r < 2 → w.cell? ⟨g, off + (k * 2 + r), none⟩ = (f l[k])[r]? := fun r hr => by
    rw [hc _ (by rw [cells2_length f hf]; omega), cells2_at f hf l k r hk hr]
  exact ⟨g, off, cap, hv, hglt, get 0 (by omega), get 1 (by omega)⟩
theorem sl_col {w : World} {B : Nat → Prop} {v : Value} {l : List ColV} (h : Sl w B 2 v l.length (colCells l)) {k : Nat} (hk : k < l.length) :
    ∃ g off cap, v = .slice (some ⟨g, off, none⟩) l.length cap ∧ g < w.heap.size ∧ w.cell? ⟨g, off + k * 2, none⟩ = some (.string l[k].name) ∧ w.cell? ⟨g, off + k * 2 + 1, none⟩ = some (.int .i64 l[k].kind) :=
  sl_two (f := ColV.cells) (fun _ => rfl) h hk
theorem sl_idx {w : World} {B : Nat → Prop} {v : Value} {l : List IdxV} (h : Sl w B 2 v l.length (idxCells l)) {k : Nat} (hk : k < l.length) :
    ∃ g off cap, v = .slice (some ⟨g, off, none⟩) l.length cap ∧ g < w.heap.size ∧ w.cell? ⟨g, off + k * 2, none⟩ = some l[k].v ∧ w.cell? ⟨g, off + k * 2 + 1, none⟩ = some (.bool l[k].unique) :=
  sl_two (f := IdxV.cells) (fun _ => rfl) h hk
theorem sl_int {w : World} {B : Nat → Prop} {v : Value} {l : List Int} (h : Sl w B 1 v l.length (ints l)) {k : Nat} (hk : k < l.length) :
    ∃ g off cap, v = .slice (some ⟨g, off, none⟩) l.length cap ∧ g < w.heap.size ∧ w.cell? ⟨g, off + k, none⟩ = some (.int .i64 l[k]) := by
  obtain ⟨g, off, cap, hv, _, _, hgb, hglt, hc⟩ := h.place (by omega)
  exact ⟨g, off, cap, hv, hglt, by rw [hc k (by simpa [ints] using hk)]; simp [ints, hk]⟩

/-- No two alike. -/
def unlikeGo {α : Type} (same : α → α → Bool) : List α → List α → Bool
  | _, [] => true
  | seen, a :: t => seen.all (fun b => !same a b) && unlikeGo same (seen ++ [a]) t
def unlikeB {α : Type} (same : α → α → Bool) (l : List α) : Bool := unlikeGo same [] l
theorem unlike_step {α : Type} (same : α → α → Bool) (l : List α) (k : Nat) (h : k < l.length) :
    ((l.take k).all (fun b => !same l[k] b) = true → unlikeGo same (l.take (k + 1)) (l.drop (k + 1)) = unlikeGo same (l.take k) (l.drop k)) ∧
    ((l.take k).all (fun b => !same l[k] b) = false → unlikeGo same (l.take k) (l.drop k) = false) := by
  rw [List.drop_eq_getElem_cons h, ← List.take_append_getElem h]
  unfold unlikeGo
  refine ⟨fun ha => ?_, fun ha => ?_⟩
  · rw [ha, Bool.true_and]
    cases l.drop (k + 1) <;> rfl
  · rw [ha, Bool.false_and]
theorem all_next {α : Type} (f : α → Bool) (l : List α) (j : Nat) (h : j < l.length) (ha : (l.take j).all f = true) : f l[j] = true → (l.take (j + 1)).all f = true := fun hf => by
  rw [← List.take_append_getElem h, List.all_append, ha]
  simp [hf]
theorem all_false {α : Type} (f : α → Bool) (l : List α) (j k : Nat) (hjk : j < k) (h : j < l.length) : f l[j] = false → (l.take k).all f = false := fun hf => by
  rw [List.all_eq_false]
  refine ⟨l[j], ?_, by simp [hf]⟩
  rw [List.mem_iff_getElem]
  exact ⟨j, by rw [List.length_take]; omega, by rw [List.getElem_take]⟩

def sameCol (a b : ColV) : Bool := a.name.toList == b.name.toList
def sameIdx (a b : IdxV) : Bool := a.l == b.l
def sameInt (a b : Int) : Bool := a == b

theorem within_any (w : World) (n lo hi : Int) : Calls Tryd.prog 67 #[.int .i64 n, .int .i64 lo, .int .i64 hi] w fun e w' => e = .returned (.bool (decide (lo ≤ n) && decide (n ≤ hi))) ∧ w = w' := by
  by_cases h1 : lo ≤ n
  · have e1 : decide (lo ≤ n) = true := decide_eq_true h1
    rw [e1]
    go_enter Tryd.func67, Tryd.ntmps67
    go_wp2
    go_ret
    exact ⟨rfl, rfl⟩
  · have e1 : decide (lo ≤ n) = false := decide_eq_false h1
    rw [e1]
    go_enter Tryd.func67, Tryd.ntmps67
    go_wp2
    go_ret
    exact ⟨rfl, rfl⟩
theorem col_same (w : World) (a b : ColV) : Calls Tryd.prog 115 #[.agg #[.string a.name, .int .i64 a.kind], .agg #[.string b.name, .int .i64 b.kind]] w fun e w' => e = .returned (.bool (sameCol a b)) ∧ Below w.heap.size w w' := by
  obtain ⟨n, k⟩ := a
  obtain ⟨n', k'⟩ := b
  show Calls _ _ _ _ fun e w' => e = .returned (.bool (n.toList == n'.toList)) ∧ Below w.heap.size w w'
  go_enter Tryd.func115, Tryd.ntmps115
  go_wp2
  go_ret
  refine ⟨rfl, ?_⟩
  repeat (with_reducible first | exact Below.refl _ _ | apply Below.drew | (refine Below.alloc ?_ (by first | omega | (simp; omega) | simp) _) | (refine Below.setCell ?_ (by first | omega | (simp; omega) | simp) _))
theorem int_same (w : World) (a b : Int) : Calls Tryd.prog 129 #[.int .i64 a, .int .i64 b] w fun e w' => e = .returned (.bool (sameInt a b)) ∧ Below w.heap.size w w' := by
  show Calls _ _ _ _ fun e w' => e = .returned (.bool (a == b)) ∧ Below w.heap.size w w'
  go_enter Tryd.func129, Tryd.ntmps129
  go_wp2
  go_ret
  exact ⟨rfl, Below.refl _ _⟩
theorem take_eq_next {α : Type} [DecidableEq α] (l l' : List α) (k : Nat) (h : k < l.length) (h' : k < l'.length) (he : l.take k = l'.take k) (hk : l[k] = l'[k]) : l.take (k + 1) = l'.take (k + 1) := by
  rw [← List.take_append_getElem h, ← List.take_append_getElem h', he, hk]
set_option maxRecDepth 100000 in
theorem eq_ints (w : World) (B : Nat → Prop) (v v' : Value) (l l' : List Int) (h : Sl w B 1 v l.length (ints l)) (h' : Sl w B 1 v' l'.length (ints l')) :
    Calls Tryd.prog 85 #[v, v'] w fun e w' => e = .returned (.bool (l == l')) ∧ Below w.heap.size w w' := by
  obtain ⟨p, cap, rfl, hc1, hc2⟩ := h.form
  obtain ⟨p', cap', rfl, hc1', hc2'⟩ := h'.form
  have H := Lib.hid h
  have H' := Lib.hid h'
  clear h h'
  by_cases hlen : l.length = l'.length
  · have HLEN := Lib.hid hlen
    rw [← hlen] at H' hc1' ⊢
    clear hlen
    go_enter Tryd.func85, Tryd.ntmps85
    go_wp2
    go_loopw [13] (fun i wr => ∃ k : Nat, i = .int .i64 k ∧ k ≤ l.length ∧ l.take k = l'.take k ∧ Below w.heap.size w wr) (fun i _ => l.length - (intOf i).toNat)
    case atStart => exact ⟨0, rfl, Nat.zero_le _, rfl, Below.refl _ _⟩
    case round =>
      obtain ⟨k, rfl, hk, ht, hb⟩ := hrel
      have HB := Lib.hid hb
      have HT := Lib.hid ht
      clear ht
      by_cases hka : k < l.length
      · have hka' : k < l'.length := by rw [← HLEN.out]; exact hka
        have h1' := H'.out
        rw [HLEN.out] at h1'
        obtain ⟨g, off, cap1, hv, hg, e0⟩ := sl_int (H.out.below hb) hka
        obtain ⟨g', off', cap1', hv', hg', e0'⟩ := sl_int (h1'.below hb) hka'
        rw [← HLEN.out] at hv'
        cases hv
        cases hv'
        have HX : Hid (l[k] = l'[k] → l.take (k + 1) = l'.take (k + 1)) := fun h => take_eq_next l l' k hka hka' HT.out h
        have HY : Hid (l[k] ≠ l'[k] → (l == l') = false) := fun h => by
          rw [beq_eq_false_iff_ne]
          intro he
          subst he
          exact h rfl
        clear hb h1'
        generalize l[k] = x at *
        generalize l'[k] = y at *
        by_cases hxy : x = y
        · have HF := Lib.hid (HX.out hxy)
          subst hxy
          clear HX HY
          go_wp2
          refine wp_region_lit_plan [] [(0, 0), (1, 0), (2, 0), (4, 0), (5, 0), (6, 0), (3, 1), (7, 1), (8, 0)] (fun _ => False) (by kernel_rfl) (by kernel_rfl) (fun c a d v w h => by cases d <;> exact h) ?_
          go_wp2_with (first
            | (refine plan_pure (v := _) (by rfl) (by rfl) (by rfl) (by intro _; go_simp; with_reducible rfl) ?_; simp only [List.setIfInBounds_toArray, List.set_cons_zero, List.set_cons_succ]; try go_bits) | (refine plan_read (v := _) (by rfl) (by rfl) (by rfl) (by go_simp; with_reducible rfl) ?_; simp only [List.setIfInBounds_toArray, List.set_cons_zero, List.set_cons_succ]; try go_bits) | (refine plan_readB (v := _) (by rfl) (by rfl) (by rfl) (by intro _ hag; unfold Agree at hag; go_simp; with_reducible rfl) ?_; simp only [List.setIfInBounds_toArray, List.set_cons_zero, List.set_cons_succ]; try go_bits) | (refine plan_skip0 (by rfl) (by rfl) (by rfl) ?_; simp only [List.setIfInBounds_toArray, List.set_cons_zero, List.set_cons_succ]; try go_bits) | (refine plan_skip1 (by rfl) (by rfl) (by rfl) ?_; simp only [List.setIfInBounds_toArray, List.set_cons_zero, List.set_cons_succ]; try go_bits) | (refine plan_skip2 (by rfl) (by rfl) (by rfl) ?_; simp only [List.setIfInBounds_toArray, List.set_cons_zero, List.set_cons_succ]; try go_bits) | (refine plan_skip4 (by rfl) (by rfl) (by rfl) ?_; simp only [List.setIfInBounds_toArray, List.set_cons_zero, List.set_cons_succ]; try go_bits) | (refine plan_any (by rfl) ?_) | (refine plan_keep (by rfl) ?_) | (refine plan_nil ?_) | (with_reducible refine And.intro (by first | assumption | exact Agree.refl _ _ | exact agree_drew _ _ | exact agree_alloc _ (by intro k hk; subst hk; first | omega | (simp; omega))) ?_) | (unfold Act.put; simp only [List.setIfInBounds_toArray, List.set_cons_zero, List.set_cons_succ]))
          exact ⟨⟨k + 1, by go_num, by omega, HF.out, HB.out.drew⟩, by (simp [intOf]) <;> omega⟩
        · have HF := Lib.hid (HY.out hxy)
          have d1 : (x == y) = false := beq_eq_false_iff_ne.2 hxy
          have d2 : (x != y) = true := bne_iff_ne.2 hxy
          clear HX HY hxy
          go_wp2
          refine wp_region_lit_plan [] [(0, 0), (1, 0), (2, 0), (4, 0), (5, 0), (6, 0), (3, 1), (7, 1), (8, 0)] (fun _ => False) (by kernel_rfl) (by kernel_rfl) (fun c a d v w h => by cases d <;> exact h) ?_
          go_wp2_with (first
            | (refine plan_pure (v := _) (by rfl) (by rfl) (by rfl) (by intro _; go_simp; with_reducible rfl) ?_; simp only [List.setIfInBounds_toArray, List.set_cons_zero, List.set_cons_succ]; try go_bits) | (refine plan_read (v := _) (by rfl) (by rfl) (by rfl) (by go_simp; with_reducible rfl) ?_; simp only [List.setIfInBounds_toArray, List.set_cons_zero, List.set_cons_succ]; try go_bits) | (refine plan_readB (v := _) (by rfl) (by rfl) (by rfl) (by intro _ hag; unfold Agree at hag; go_simp; with_reducible rfl) ?_; simp only [List.setIfInBounds_toArray, List.set_cons_zero, List.set_cons_succ]; try go_bits) | (refine plan_skip0 (by rfl) (by rfl) (by rfl) ?_; simp only [List.setIfInBounds_toArray, List.set_cons_zero, List.set_cons_succ]; try go_bits) | (refine plan_skip1 (by rfl) (by rfl) (by rfl) ?_; simp only [List.setIfInBounds_toArray, List.set_cons_zero, List.set_cons_succ]; try go_bits) | (refine plan_skip2 (by rfl) (by rfl) (by rfl) ?_; simp only [List.setIfInBounds_toArray, List.set_cons_zero, List.set_cons_succ]; try go_bits) | (refine plan_skip4 (by rfl) (by rfl) (by rfl) ?_; simp only [List.setIfInBounds_toArray, List.set_cons_zero, List.set_cons_succ]; try go_bits) | (refine plan_any (by rfl) ?_) | (refine plan_keep (by rfl) ?_) | (refine plan_nil ?_) | (with_reducible refine And.intro (by first | assumption | exact Agree.refl _ _ | exact agree_drew _ _ | exact agree_alloc _ (by intro k hk; subst hk; first | omega | (simp; omega))) ?_) | (unfold Act.put; simp only [List.setIfInBounds_toArray, List.set_cons_zero, List.set_cons_succ]))
          go_ret
          exact ⟨by rw [HF.out]; rfl, HB.out.drew⟩
      · obtain rfl : k = l.length := by omega
        have e1 : (l == l') = true := by
          have := HT.out
          rw [List.take_length, HLEN.out, List.take_length] at this
          rw [this]; exact beq_self_eq_true _
        have E1 := Lib.hid e1
        clear e1 hb
        go_wp2
        go_ret
        exact ⟨by rw [E1.out]; rfl, HB.out⟩
  · have e1 : (l == l') = false := by
      rw [beq_eq_false_iff_ne]
      intro he
      exact hlen (by rw [he])
    rw [e1]
    have d1 : ((l.length : Int) == (l'.length : Int)) = false := beq_eq_false_iff_ne.2 (by omega)
    have d2 : ((l.length : Int) != (l'.length : Int)) = true := bne_iff_ne.2 (by omega)
    clear e1
    go_enter Tryd.func85, Tryd.ntmps85
    go_wp2
    go_ret
    exact ⟨rfl, Below.refl _ _⟩
set_option maxRecDepth 100000 in
theorem idx_same (w : World) (B : Nat → Prop) (a b : IdxV) (ha : Sl w B 1 a.v a.l.length (ints a.l)) (hb : Sl w B 1 b.v b.l.length (ints b.l)) :
    Calls Tryd.prog 118 #[.agg #[a.v, .bool a.unique], .agg #[b.v, .bool b.unique]] w fun e w' => e = .returned (.bool (sameIdx a b)) ∧ Below w.heap.size w w' := by
  obtain ⟨v, l, u⟩ := a
  obtain ⟨v', l', u'⟩ := b
  show Calls _ _ _ _ fun e w' => e = .returned (.bool (l == l')) ∧ Below w.heap.size w w'
  simp only at ha hb
  have h1 : Below w.heap.size w ((w.alloc (.cells #[v, .bool u] 55)).alloc (.cells #[v', .bool u'] 55)) := ((Below.refl _ _).alloc (Nat.le_refl _) _).alloc (by simp) _
  have HE := Lib.hid (eq_ints _ B v v' l l' (ha.below h1) (hb.below h1))
  obtain ⟨p, cap, rfl, _, _⟩ := ha.form
  obtain ⟨p', cap', rfl, _, _⟩ := hb.form
  have H1 := Lib.hid h1
  clear ha hb h1
  generalize (l == l') = r at *
  go_enter Tryd.func118, Tryd.ntmps118
  go_wp2_with (go_at_call 85; refine HE.out.mono ?_; rintro e w2 ⟨rfl, hb2⟩)
  go_ret
  exact ⟨rfl, H1.out.trans (hb2.mono H1.out.size)⟩
end Go.Proofs.YtlgohkdckdnmhaaDoor
/- No two alike: schema.unlike, of columns, of indexes, of places. -/
namespace Go.Proofs.YtlgohkdckdnmhaaDoor
open Go.RowKit Go.Afx

set_option maxRecDepth 100000 in
set_option maxHeartbeats 1000000 in
theorem unlike_col (w : World) (B : Nat → Prop) (v : Value) (l : List ColV) (hl : Sl w B 2 v l.length (colCells l)) :
    Calls Tryd.prog 114 #[v, .func (.func 115) #[] #[]] w fun e w' => e = .returned (.bool (unlikeB sameCol l)) ∧ Below w.heap.size w w' := by
  obtain ⟨p, cap, rfl, hc1, hc2⟩ := hl.form
  have HL := Lib.hid hl
  clear hl
  have HU : Hid (unlikeB sameCol l = unlikeB sameCol l) := rfl
  clear HU
  go_enter Tryd.func114, Tryd.ntmps114
  go_wp2
  go_loopw [11] (fun i wr => ∃ k : Nat, i = .int .i64 k ∧ k ≤ l.length ∧ unlikeGo sameCol (l.take k) (l.drop k) = unlikeB sameCol l ∧ Below w.heap.size w wr) (fun i _ => l.length - (intOf i).toNat)
  case atStart => exact ⟨0, rfl, Nat.zero_le _, rfl, Below.refl _ _⟩
  case round =>
    obtain ⟨k, rfl, hk, hu, hb⟩ := hrel
    obtain ⟨wo, rfl⟩ : ∃ wo : World, wo = wr := ⟨_, rfl⟩
    have HB := Lib.hid hb
    have HU := Lib.hid hu
    clear hu
    by_cases hka : k < l.length
    · have hstep := unlike_step sameCol l k hka
      have HT := Lib.hid hstep.1
      have HFF := Lib.hid hstep.2
      clear hstep
      obtain ⟨g, off, cap1, hv, hg, e0, e1⟩ := sl_col (HL.out.below hb) hka
      cases hv
      have hki : (k : Int) ≤ l.length := by omega
      have hkc : (k : Int) ≤ cap := by omega
      clear hb
      generalize l[k] = a at *
      have hal : Below wo.heap.size wo (wo.alloc (.cells #[.string a.name, .int .i64 a.kind] 66)) := (Below.refl _ _).alloc (Nat.le_refl _) _
      have HBK : Hid (Blk (wo.alloc (.cells #[.string a.name, .int .i64 a.kind] 66)) wo.heap.size 66 [.string a.name, .int .i64 a.kind]) := Blk.new wo _ _
      have HB2 := Lib.hid (HB.out.trans (hal.mono HB.out.size))
      clear hal
      go_wp2
      generalize hw1 : wo.alloc (.cells #[.string a.name, .int .i64 a.kind] 66) = w1 at *
      clear hw1 e0 e1
      go_loopw [20] (fun i wr => ∃ j : Nat, i = .int .i64 j ∧ j ≤ k ∧ (l.take j).all (fun b => !sameCol a b) = true ∧ Below w1.heap.size w1 wr) (fun i _ => k - (intOf i).toNat)
      case atStart => exact ⟨0, rfl, Nat.zero_le _, rfl, Below.refl _ _⟩
      case round =>
        obtain ⟨j, rfl, hj, hall, hbq⟩ := hrel
        have HBQ := Lib.hid hbq
        have HALL := Lib.hid hall
        clear hall
        have hbw := HB2.out.trans (hbq.mono HB2.out.size)
        have HBW := Lib.hid hbw
        by_cases hjk : j < k
        · have hjl : j < l.length := by omega
          have HNX := Lib.hid (all_next (fun b => !sameCol a b) l j hjl HALL.out)
          have HNF := Lib.hid (all_false (fun b => !sameCol a b) l j k hjk hjl)
          obtain ⟨g2, off2, cap2, hv2, hg2, f0, f1⟩ := sl_col (HL.out.below hbw) hjl
          cases hv2
          have hbk := HBK.out.below hbq
          have b0 : wr.cell? ⟨wo.heap.size, 0, none⟩ = some (.string a.name) := hbk.cell 0
          have b1 : wr.cell? ⟨wo.heap.size, 1, none⟩ = some (.int .i64 a.kind) := hbk.cell 1
          clear hbw hbq hbk
          generalize l[j] = b at *
          have HS := Lib.hid (fun w => col_same w a b)
          cases hs : sameCol a b
          all_goals
            rw [hs] at HS
            have ha5 : Below wr.heap.size wr (wr.alloc (.cells #[.string b.name, .int .i64 b.kind] 66)) := (Below.refl _ _).alloc (Nat.le_refl _) _
            have HA5 := Lib.hid ha5
            have hz5 : wo.heap.size < wr.heap.size := by have := HBQ.out.size; have := HBK.out.lt; omega
            clear ha5
          · have HF := Lib.hid (HNX.out (by rw [hs]; rfl))
            clear hs HNX HNF
            go_wp2_with (go_at_call 115; refine (HS.out _).mono ?_; rintro e w5 ⟨rfl, hb5⟩; have HB5 := Lib.hid hb5; clear hb5)
            go_roundw
            case rel => exact ⟨j + 1, by go_num, by omega, HF.out, HBQ.out.trans ((HA5.out.trans (HB5.out.mono (by simp))).mono HBQ.out.size)⟩
            case measure => (simp [intOf]) <;> omega
          · have HF := Lib.hid (HNF.out (by rw [hs]; rfl))
            clear hs HNX HNF
            go_wp2_with (go_at_call 115; refine (HS.out _).mono ?_; rintro e w5 ⟨rfl, hb5⟩; have HB5 := Lib.hid hb5; clear hb5)
            go_ret
            exact ⟨by rw [← HU.out, HFF.out HF.out]; rfl, HBW.out.trans ((HA5.out.trans (HB5.out.mono (by simp))).mono HBW.out.size)⟩
        · obtain rfl : j = k := by omega
          clear hbw hbq
          go_wp2
          go_roundw
          case rel => exact ⟨j + 1, by go_num, by omega, by rw [← HU.out, HT.out HALL.out], HBW.out⟩
          case measure => (simp [intOf]) <;> omega
    · obtain rfl : k = l.length := by omega
      have e1 : unlikeB sameCol l = true := by rw [← HU.out, List.drop_length]; rfl
      have E1 := Lib.hid e1
      clear e1 hb
      go_wp2
      go_ret
      exact ⟨by rw [E1.out]; rfl, HB.out⟩

set_option maxRecDepth 100000 in
set_option maxHeartbeats 1000000 in
theorem unlike_idx (w : World) (B : Nat → Prop) (v : Value) (l : List IdxV) (hl : IdxAt w B v l) :
    Calls Tryd.prog 117 #[v, .func (.func 118) #[] #[]] w fun e w' => e = .returned (.bool (unlikeB sameIdx l)) ∧ Below w.heap.size w w' := by
  obtain ⟨p, cap, rfl, hc1, hc2⟩ := hl.1.form
  have HL := Lib.hid hl
  clear hl
  have HU : Hid (unlikeB sameIdx l = unlikeB sameIdx l) := rfl
  clear HU
  go_enter Tryd.func117, Tryd.ntmps117
  go_wp2
  go_loopw [11] (fun i wr => ∃ k : Nat, i = .int .i64 k ∧ k ≤ l.length ∧ unlikeGo sameIdx (l.take k) (l.drop k) = unlikeB sameIdx l ∧ Below w.heap.size w wr) (fun i _ => l.length - (intOf i).toNat)
  case atStart => exact ⟨0, rfl, Nat.zero_le _, rfl, Below.refl _ _⟩
  case round =>
    obtain ⟨k, rfl, hk, hu, hb⟩ := hrel
    obtain ⟨wo, rfl⟩ : ∃ wo : World, wo = wr := ⟨_, rfl⟩
    have HB := Lib.hid hb
    have HU := Lib.hid hu
    clear hu
    by_cases hka : k < l.length
    · have hstep := unlike_step sameIdx l k hka
      have HT := Lib.hid hstep.1
      have HFF := Lib.hid hstep.2
      clear hstep
      obtain ⟨g, off, cap1, hv, hg, e0, e1⟩ := sl_idx (HL.out.1.below hb) hka
      cases hv
      have hki : (k : Int) ≤ l.length := by omega
      have hkc : (k : Int) ≤ cap := by omega
      clear hb
      have HXS := Lib.hid (HL.out.2 l[k] (List.getElem_mem hka))
      generalize l[k] = a at *
      obtain ⟨pa, ca, hav, _, _⟩ := HXS.out.form
      rw [hav] at e0
      have HAV := Lib.hid hav
      clear hav
      have hal : Below wo.heap.size wo (wo.alloc (.cells #[.slice pa a.l.length ca, .bool a.unique] 55)) := (Below.refl _ _).alloc (Nat.le_refl _) _
      have HBK : Hid (Blk (wo.alloc (.cells #[.slice pa a.l.length ca, .bool a.unique] 55)) wo.heap.size 55 [.slice pa a.l.length ca, .bool a.unique]) := Blk.new wo _ _
      have HB2 := Lib.hid (HB.out.trans (hal.mono HB.out.size))
      clear hal
      go_wp2
      generalize hw1 : wo.alloc (.cells #[.slice pa a.l.length ca, .bool a.unique] 55) = w1 at *
      clear hw1 e0 e1
      go_loopw [20] (fun i wr => ∃ j : Nat, i = .int .i64 j ∧ j ≤ k ∧ (l.take j).all (fun b => !sameIdx a b) = true ∧ Below w1.heap.size w1 wr) (fun i _ => k - (intOf i).toNat)
      case atStart => exact ⟨0, rfl, Nat.zero_le _, rfl, Below.refl _ _⟩
      case round =>
        obtain ⟨j, rfl, hj, hall, hbq⟩ := hrel
        have HBQ := Lib.hid hbq
        have HALL := Lib.hid hall
        clear hall
        have hbw := HB2.out.trans (hbq.mono HB2.out.size)
        have HBW := Lib.hid hbw
        by_cases hjk : j < k
        · have hjl : j < l.length := by omega
          have HNX := Lib.hid (all_next (fun b => !sameIdx a b) l j hjl HALL.out)
          have HNF := Lib.hid (all_false (fun b => !sameIdx a b) l j k hjk hjl)
          obtain ⟨g2, off2, cap2, hv2, hg2, f0, f1⟩ := sl_idx (HL.out.1.below hbw) hjl
          cases hv2
          have hbk := HBK.out.below hbq
          have b0 : wr.cell? ⟨wo.heap.size, 0, none⟩ = some (.slice pa a.l.length ca) := hbk.cell 0
          have b1 : wr.cell? ⟨wo.heap.size, 1, none⟩ = some (.bool a.unique) := hbk.cell 1
          have HYS := Lib.hid (HL.out.2 l[j] (List.getElem_mem hjl))
          clear hbw hbq hbk
          generalize l[j] = b at *
          obtain ⟨pb, cb, hbv, _, _⟩ := HYS.out.form
          rw [hbv] at f0
          have HBV := Lib.hid hbv
          clear hbv
          have HS := Lib.hid (fun w' (h : Below w.heap.size w w') => idx_same w' B a b (HXS.out.below h) (HYS.out.below h))
          rw [HAV.out, HBV.out] at HS
          cases hs : sameIdx a b
          all_goals
            rw [hs] at HS
            have ha5 : Below wr.heap.size wr (wr.alloc (.cells #[.slice pb b.l.length cb, .bool b.unique] 55)) := (Below.refl _ _).alloc (Nat.le_refl _) _
            have HA5 := Lib.hid ha5
            have hz5 : wo.heap.size < wr.heap.size := by have := HBQ.out.size; have := HBK.out.lt; omega
            clear ha5
          · have HF := Lib.hid (HNX.out (by rw [hs]; rfl))
            clear hs HNX HNF
            go_wp2_with (go_at_call 118; refine (HS.out _ ((HBW.out.trans (HA5.out.mono HBW.out.size)))).mono ?_; rintro e w5 ⟨rfl, hb5⟩; have HB5 := Lib.hid hb5; clear hb5)
            go_roundw
            case rel => exact ⟨j + 1, by go_num, by omega, HF.out, HBQ.out.trans ((HA5.out.trans (HB5.out.mono (by simp))).mono HBQ.out.size)⟩
            case measure => (simp [intOf]) <;> omega
          · have HF := Lib.hid (HNF.out (by rw [hs]; rfl))
            clear hs HNX HNF
            go_wp2_with (go_at_call 118; refine (HS.out _ ((HBW.out.trans (HA5.out.mono HBW.out.size)))).mono ?_; rintro e w5 ⟨rfl, hb5⟩; have HB5 := Lib.hid hb5; clear hb5)
            go_ret
            exact ⟨by rw [← HU.out, HFF.out HF.out]; rfl, HBW.out.trans ((HA5.out.trans (HB5.out.mono (by simp))).mono HBW.out.size)⟩
        · obtain rfl : j = k := by omega
          clear hbw hbq
          go_wp2
          go_roundw
          case rel => exact ⟨j + 1, by go_num, by omega, by rw [← HU.out, HT.out HALL.out], HBW.out⟩
          case measure => (simp [intOf]) <;> omega
    · obtain rfl : k = l.length := by omega
      have e1 : unlikeB sameIdx l = true := by rw [← HU.out, List.drop_length]; rfl
      have E1 := Lib.hid e1
      clear e1 hb
      go_wp2
      go_ret
      exact ⟨by rw [E1.out]; rfl, HB.out⟩

set_option maxRecDepth 100000 in
set_option maxHeartbeats 1000000 in
theorem unlike_int (w : World) (B : Nat → Prop) (v : Value) (l : List Int) (hl : Sl w B 1 v l.length (ints l)) :
    Calls Tryd.prog 128 #[v, .func (.func 129) #[] #[]] w fun e w' => e = .returned (.bool (unlikeB sameInt l)) ∧ Below w.heap.size w w' := by
  obtain ⟨p, cap, rfl, hc1, hc2⟩ := hl.form
  have HL := Lib.hid hl
  clear hl
  go_enter Tryd.func128, Tryd.ntmps128
  go_wp2
  go_loopw [11] (fun i wr => ∃ k : Nat, i = .int .i64 k ∧ k ≤ l.length ∧ unlikeGo sameInt (l.take k) (l.drop k) = unlikeB sameInt l ∧ Below w.heap.size w wr) (fun i _ => l.length - (intOf i).toNat)
  case atStart => exact ⟨0, rfl, Nat.zero_le _, rfl, Below.refl _ _⟩
  case round =>
    obtain ⟨k, rfl, hk, hu, hb⟩ := hrel
    obtain ⟨wo, rfl⟩ : ∃ wo : World, wo = wr := ⟨_, rfl⟩
    have HB := Lib.hid hb
    have HU := Lib.hid hu
    clear hu
    by_cases hka : k < l.length
    · have hstep := unlike_step sameInt l k hka
      have HT := Lib.hid hstep.1
      have HFF := Lib.hid hstep.2
      clear hstep
      obtain ⟨g, off, cap1, hv, hg, e0⟩ := sl_int (HL.out.below hb) hka
      cases hv
      have hki : (k : Int) ≤ l.length := by omega
      have hkc : (k : Int) ≤ cap := by omega
      clear hb
      generalize l[k] = a at *
      have HB2 := HB
      go_wp2
      go_loopw [20] (fun i wr => ∃ j : Nat, i = .int .i64 j ∧ j ≤ k ∧ (l.take j).all (fun b => !sameInt a b) = true ∧ Below wo.heap.size wo wr) (fun i _ => k - (intOf i).toNat)
      case atStart => exact ⟨0, rfl, Nat.zero_le _, rfl, Below.refl _ _⟩
      case round =>
        obtain ⟨j, rfl, hj, hall, hbq⟩ := hrel
        have HBQ := Lib.hid hbq
        have HALL := Lib.hid hall
        clear hall
        have hbw := HB2.out.trans (hbq.mono HB2.out.size)
        have HBW := Lib.hid hbw
        by_cases hjk : j < k
        · have hjl : j < l.length := by omega
          have HNX := Lib.hid (all_next (fun b => !sameInt a b) l j hjl HALL.out)
          have HNF := Lib.hid (all_false (fun b => !sameInt a b) l j k hjk hjl)
          obtain ⟨g2, off2, cap2, hv2, hg2, f0⟩ := sl_int (HL.out.below hbw) hjl
          cases hv2
          clear hbw hbq
          generalize l[j] = b at *
          have HS := Lib.hid (fun w => int_same w a b)
          cases hs : sameInt a b
          all_goals
            rw [hs] at HS
          · have HF := Lib.hid (HNX.out (by rw [hs]; rfl))
            clear hs HNX HNF
            go_wp2_with (go_at_call 129; refine (HS.out _).mono ?_; rintro e w5 ⟨rfl, hb5⟩; have HB5 := Lib.hid hb5; clear hb5)
            go_roundw
            case rel => exact ⟨j + 1, by go_num, by omega, HF.out, HBQ.out.trans (HB5.out.mono HBQ.out.size)⟩
            case measure => (simp [intOf]) <;> omega
          · have HF := Lib.hid (HNF.out (by rw [hs]; rfl))
            clear hs HNX HNF
            go_wp2_with (go_at_call 129; refine (HS.out _).mono ?_; rintro e w5 ⟨rfl, hb5⟩; have HB5 := Lib.hid hb5; clear hb5)
            go_ret
            exact ⟨by rw [← HU.out, HFF.out HF.out]; rfl, HBW.out.trans (HB5.out.mono HBW.out.size)⟩
        · obtain rfl : j = k := by omega
          clear hbw hbq
          go_wp2
          go_roundw
          case rel => exact ⟨j + 1, by go_num, by omega, by rw [← HU.out, HT.out HALL.out], HBW.out⟩
          case measure => (simp [intOf]) <;> omega
    · obtain rfl : k = l.length := by omega
      have e1 : unlikeB sameInt l = true := by rw [← HU.out, List.drop_length]; rfl
      have E1 := Lib.hid e1
      clear e1 hb
      go_wp2
      go_ret
      exact ⟨by rw [E1.out]; rfl, HB.out⟩

end Go.Proofs.YtlgohkdckdnmhaaDoor
/- Schemas: columns, places, indexes, Right. -/
namespace Go.Proofs.YtlgohkdckdnmhaaDoor
open Go.RowKit Go.Afx

def colOk (c : ColV) : Bool := namedB c.name && (decide (1 ≤ c.kind) && decide (c.kind ≤ 3))
def colsB (l : List ColV) : Bool := l.all colOk && ((decide (1 ≤ l.length) && decide (l.length ≤ 8)) && unlikeB sameCol l)
def placeOk (n : Int) (c : Int) : Bool := decide (0 ≤ c) && decide (c ≤ n - 1)
def placesB (n : Int) (x : IdxV) : Bool := x.l.all (placeOk n) && (decide (0 < x.l.length) && unlikeB sameInt x.l)
def firstU (l : List IdxV) : Bool := match l with
  | [] => false
  | x :: _ => x.unique
def idxB (n : Int) (l : List IdxV) : Bool := l.all (placesB n) && ((decide (1 ≤ l.length) && decide (l.length ≤ 4)) && firstU l && unlikeB sameIdx l)

theorem all_not {α : Type} (f : α → Bool) (l : List α) (k : Nat) (h : k < l.length) : f l[k] = false → l.all f = false := fun hf => by
  rw [List.all_eq_false]
  exact ⟨l[k], List.getElem_mem h, by simp [hf]⟩

set_option maxRecDepth 100000 in
set_option maxHeartbeats 1000000 in
theorem columns_any (w : World) (B : Nat → Prop) (v : Value) (l : List ColV) (hl : Sl w B 2 v l.length (colCells l)) (hr : ∀ c ∈ l, c.name.size ≤ maxLen) :
    Calls Tryd.prog 89 #[v] w fun e w' => e = .returned (.bool (colsB l)) ∧ Below w.heap.size w w' := by
  have HUN := Lib.hid (fun w' (h : Below w.heap.size w w') => unlike_col w' B v l (hl.below h))
  obtain ⟨p, cap, rfl, hc1, hc2⟩ := hl.form
  have HL := Lib.hid hl
  have HR := Lib.hid hr
  clear hl hr
  go_enter Tryd.func89, Tryd.ntmps89
  go_wp2
  go_loopw [7] (fun i wr => ∃ k : Nat, i = .int .i64 k ∧ k ≤ l.length ∧ (l.take k).all colOk = true ∧ Below w.heap.size w wr) (fun i _ => l.length - (intOf i).toNat)
  case atStart => exact ⟨0, rfl, Nat.zero_le _, rfl, Below.refl _ _⟩
  case round =>
    obtain ⟨k, rfl, hk, ha, hb⟩ := hrel
    have HB := Lib.hid hb
    have HA := Lib.hid ha
    clear ha
    by_cases hka : k < l.length
    · obtain ⟨g, off, cap1, hv, hg, e0, e1⟩ := sl_col (HL.out.below hb) hka
      cases hv
      have HX := Lib.hid (all_next colOk l k hka HA.out)
      have HY := Lib.hid (all_not colOk l k hka)
      have hrk := HR.out l[k] (List.getElem_mem hka)
      clear hb
      generalize l[k] = c at *
      obtain ⟨nm, kd⟩ := c
      have hok : colOk ⟨nm, kd⟩ = (namedB nm && (decide (1 ≤ kd) && decide (kd ≤ 3))) := rfl
      simp only at e0 e1 hrk
      have hal : Below wr.heap.size wr (wr.alloc (.cells #[.string nm, .int .i64 kd] 66)) := (Below.refl _ _).alloc (Nat.le_refl _) _
      have HBK : Hid (Blk (wr.alloc (.cells #[.string nm, .int .i64 kd] 66)) wr.heap.size 66 [.string nm, .int .i64 kd]) := Blk.new wr _ _
      have HAL := Lib.hid hal
      have HN := Lib.hid (named_any (wr.alloc (.cells #[.string nm, .int .i64 kd] 66)) nm hrk)
      have HW := Lib.hid (fun w => within_any w kd 1 3)
      generalize namedB nm = nb at *
      clear hal hrk
      cases nb
      · have HF := Lib.hid (HY.out (by rw [hok]; rfl))
        clear HX HY hok
        go_wp2_with (go_at_call 88; refine HN.out.mono ?_; clear HN; rintro e w3 ⟨rfl, hb3⟩)
        go_ret
        refine ⟨by unfold colsB; rw [HF.out]; rfl, ?_⟩
        have h1 := HB.out.trans (HAL.out.mono HB.out.size)
        exact h1.trans (hb3.mono h1.size)
      · cases hwi : (decide (1 ≤ kd) && decide (kd ≤ 3))
        · rw [hwi] at hok HW
          have HF := Lib.hid (HY.out (by rw [hok]; rfl))
          clear HX HY hok hwi
          go_wp2_with (first
            | (go_at_call 88; refine HN.out.mono ?_; clear HN; rintro e w3 ⟨rfl, hb3⟩; have hbk := HBK.out.below hb3; have b1 : w3.cell? ⟨wr.heap.size, 1, none⟩ = some (.int .i64 kd) := hbk.cell 1; have HB3 := Lib.hid hb3; clear hb3 hbk)
            | (go_at_call 67; refine (HW.out _).mono ?_; rintro e w4 ⟨rfl, rfl⟩))
          go_ret
          refine ⟨by unfold colsB; rw [HF.out]; rfl, ?_⟩
          have h1 := HB.out.trans (HAL.out.mono HB.out.size)
          exact h1.trans (HB3.out.mono h1.size)
        · rw [hwi] at hok HW
          have HF := Lib.hid (HX.out (by rw [hok]; rfl))
          clear HX HY hok hwi
          go_wp2_with (first
            | (go_at_call 88; refine HN.out.mono ?_; clear HN; rintro e w3 ⟨rfl, hb3⟩; have hbk := HBK.out.below hb3; have b1 : w3.cell? ⟨wr.heap.size, 1, none⟩ = some (.int .i64 kd) := hbk.cell 1; have HB3 := Lib.hid hb3; clear hb3 hbk)
            | (go_at_call 67; refine (HW.out _).mono ?_; rintro e w4 ⟨rfl, rfl⟩))
          go_roundw
          case rel =>
            have h1 := HB.out.trans (HAL.out.mono HB.out.size)
            exact ⟨k + 1, by go_num, by omega, HF.out, h1.trans (HB3.out.mono h1.size)⟩
          case measure => (simp [intOf]) <;> omega
    · obtain rfl : k = l.length := by omega
      have e1 : colsB l = ((decide ((1 : Int) ≤ (l.length : Int)) && decide ((l.length : Int) ≤ 8)) && unlikeB sameCol l) := by
        have := HA.out
        rw [List.take_length] at this
        unfold colsB
        rw [this, Bool.true_and]
        congr 2 <;> (rw [Bool.eq_iff_iff]; simp; omega)
      have E1 := Lib.hid e1
      have HW := Lib.hid (fun w => within_any w (l.length : Int) 1 8)
      have HU := Lib.hid (HUN.out wr hb)
      clear e1 hb
      generalize unlikeB sameCol l = u at *
      cases hwi : (decide ((1 : Int) ≤ (l.length : Int)) && decide ((l.length : Int) ≤ 8))
      all_goals
        rw [hwi] at HW E1
        clear hwi
        go_wp2_with (first
          | (go_at_call 67; refine (HW.out _).mono ?_; rintro e w4 ⟨rfl, rfl⟩)
          | (go_at_call 114; refine HU.out.mono ?_; clear HU; rintro e w5 ⟨rfl, hb5⟩))
        go_ret
      · exact ⟨by rw [E1.out]; rfl, HB.out⟩
      · exact ⟨by rw [E1.out]; rfl, HB.out.trans (hb5.mono HB.out.size)⟩

set_option maxRecDepth 100000 in
set_option maxHeartbeats 1000000 in
theorem places_any (w : World) (B : Nat → Prop) (x : IdxV) (n : Int) (hn : 0 ≤ n ∧ n ≤ 1000000) (hl : Sl w B 1 x.v x.l.length (ints x.l)) :
    Calls Tryd.prog 116 #[.agg #[x.v, .bool x.unique], .int .i64 n] w fun e w' => e = .returned (.bool (placesB n x)) ∧ Below w.heap.size w w' := by
  obtain ⟨v, l, u⟩ := x
  simp only at hl
  obtain ⟨hn0, hn1⟩ := hn
  obtain ⟨p, cap, rfl, hc1, hc2⟩ := hl.form
  have hal : Below w.heap.size w (w.alloc (.cells #[.slice p l.length cap, .bool u] 55)) := (Below.refl _ _).alloc (Nat.le_refl _) _
  have HL := Lib.hid (hl.below hal)
  have HUN := Lib.hid (unlike_int _ B _ l (hl.below hal))
  have HAL := Lib.hid hal
  have HP : Hid (placesB n ⟨.slice p l.length cap, l, u⟩ = (l.all (placeOk n) && (decide (0 < l.length) && unlikeB sameInt l))) := rfl
  generalize placesB n ⟨.slice p l.length cap, l, u⟩ = out at *
  have hm1 : -1 ≤ n - 1 := by omega
  have hm2 : n - 1 ≤ 1000000 := by omega
  clear hl hal
  go_enter Tryd.func116, Tryd.ntmps116
  go_wp2
  go_loop [10] (fun i => ∃ k : Nat, i = .int .i64 k ∧ k ≤ l.length ∧ (l.take k).all (placeOk n) = true) (fun i => l.length - (intOf i).toNat)
  case atStart => exact ⟨0, rfl, Nat.zero_le _, rfl⟩
  case round =>
    obtain ⟨k, rfl, hk, ha⟩ := hrel
    have HA := Lib.hid ha
    clear ha
    by_cases hka : k < l.length
    · obtain ⟨g, off, cap1, hv, hg, e0⟩ := sl_int HL.out hka
      cases hv
      have HX := Lib.hid (all_next (placeOk n) l k hka HA.out)
      have HY := Lib.hid (all_not (placeOk n) l k hka)
      generalize l[k] = c at *
      have HW := Lib.hid (fun w => within_any w c 0 (n - 1))
      have hok : placeOk n c = (decide (0 ≤ c) && decide (c ≤ n - 1)) := rfl
      cases hwi : (decide (0 ≤ c) && decide (c ≤ n - 1))
      · rw [hwi] at hok HW
        have HF := Lib.hid (HY.out hok)
        clear HX HY hok hwi
        go_wp2_with (go_at_call 67; refine (HW.out _).mono ?_; rintro e w4 ⟨rfl, rfl⟩)
        go_ret
        exact ⟨by rw [HP.out, HF.out]; rfl, HAL.out⟩
      · rw [hwi] at hok HW
        have HF := Lib.hid (HX.out hok)
        clear HX HY hok hwi
        go_wp2_with (go_at_call 67; refine (HW.out _).mono ?_; rintro e w4 ⟨rfl, rfl⟩)
        go_round
        case rel => exact ⟨k + 1, by go_num, by omega, HF.out⟩
        case measure => (simp [intOf]) <;> omega
    · obtain rfl : k = l.length := by omega
      have e1 : out = (decide (0 < l.length) && unlikeB sameInt l) := by
        have := HA.out
        rw [List.take_length] at this
        rw [HP.out, this, Bool.true_and]
      have E1 := Lib.hid e1
      clear e1
      generalize unlikeB sameInt l = un at *
      rcases Nat.eq_zero_or_pos l.length with h0 | h0
      · have d1 : decide (0 < l.length) = false := decide_eq_false (by omega)
        rw [d1] at E1
        have hl0 : l = [] := List.eq_nil_of_length_eq_zero h0
        subst hl0
        clear h0
        go_wp2
        go_ret
        exact ⟨by rw [E1.out]; rfl, HAL.out⟩
      · have d1 : decide (0 < l.length) = true := decide_eq_true h0
        rw [d1] at E1
        have h0i : (0 : Int) < (l.length : Int) := by omega
        go_wp2_with (go_at_call 128; refine HUN.out.mono ?_; clear HUN; rintro e w5 ⟨rfl, hb5⟩)
        go_ret
        exact ⟨by rw [E1.out]; rfl, HAL.out.trans (hb5.mono HAL.out.size)⟩

set_option maxRecDepth 100000 in
set_option maxHeartbeats 1000000 in
theorem indexes_any (w : World) (B : Nat → Prop) (v : Value) (l : List IdxV) (n : Int) (hn : 0 ≤ n ∧ n ≤ 1000000) (hl : IdxAt w B v l) :
    Calls Tryd.prog 90 #[v, .int .i64 n] w fun e w' => e = .returned (.bool (idxB n l)) ∧ Below w.heap.size w w' := by
  have HUN := Lib.hid (fun w' (h : Below w.heap.size w w') => unlike_idx w' B v l (hl.below h))
  obtain ⟨p, cap, rfl, hc1, hc2⟩ := hl.1.form
  have HL := Lib.hid hl
  have HN := Lib.hid hn
  clear hl hn
  go_enter Tryd.func90, Tryd.ntmps90
  go_wp2
  go_loopw [9] (fun i wr => ∃ k : Nat, i = .int .i64 k ∧ k ≤ l.length ∧ (l.take k).all (placesB n) = true ∧ Below w.heap.size w wr) (fun i _ => l.length - (intOf i).toNat)
  case atStart => exact ⟨0, rfl, Nat.zero_le _, rfl, Below.refl _ _⟩
  case round =>
    obtain ⟨k, rfl, hk, ha, hb⟩ := hrel
    have HB := Lib.hid hb
    have HA := Lib.hid ha
    clear ha
    by_cases hka : k < l.length
    · obtain ⟨g, off, cap1, hv, hg, e0, e1⟩ := sl_idx (HL.out.1.below hb) hka
      cases hv
      have HX := Lib.hid (all_next (placesB n) l k hka HA.out)
      have HY := Lib.hid (all_not (placesB n) l k hka)
      have hxs := HL.out.2 l[k] (List.getElem_mem hka)
      generalize l[k] = c at *
      obtain ⟨cv, cl, cu⟩ := c
      simp only at e0 e1 hxs
      obtain ⟨pa, ca, rfl, _, _⟩ := hxs.form
      have hal : Below wr.heap.size wr (wr.alloc (.cells #[.slice pa cl.length ca, .bool cu] 55)) := (Below.refl _ _).alloc (Nat.le_refl _) _
      have HB2 := Lib.hid (HB.out.trans (hal.mono HB.out.size))
      have HP := Lib.hid (places_any (wr.alloc (.cells #[.slice pa cl.length ca, .bool cu] 55)) B ⟨.slice pa cl.length ca, cl, cu⟩ n HN.out (hxs.below HB2.out))
      simp only at HP
      generalize placesB n ⟨.slice pa cl.length ca, cl, cu⟩ = pb at *
      clear hal hb hxs
      cases pb
      · have HF := Lib.hid (HY.out rfl)
        clear HX HY
        go_wp2_with (go_at_call 116; refine HP.out.mono ?_; clear HP; rintro e w4 ⟨rfl, hb4⟩)
        go_ret
        exact ⟨by unfold idxB; rw [HF.out]; rfl, HB2.out.trans (hb4.mono HB2.out.size)⟩
      · have HF := Lib.hid (HX.out rfl)
        clear HX HY
        go_wp2_with (go_at_call 116; refine HP.out.mono ?_; clear HP; rintro e w4 ⟨rfl, hb4⟩)
        go_roundw
        case rel => exact ⟨k + 1, by go_num, by omega, HF.out, HB2.out.trans (hb4.mono HB2.out.size)⟩
        case measure => (simp [intOf]) <;> omega
    · obtain rfl : k = l.length := by omega
      have e1 : idxB n l = ((decide ((1 : Int) ≤ (l.length : Int)) && decide ((l.length : Int) ≤ 4)) && firstU l && unlikeB sameIdx l) := by
        have := HA.out
        rw [List.take_length] at this
        unfold idxB
        rw [this, Bool.true_and]
        congr 2
        congr 1 <;> (rw [Bool.eq_iff_iff]; simp; omega)
      have E1 := Lib.hid e1
      have HW := Lib.hid (fun w => within_any w (l.length : Int) 1 4)
      have HU := Lib.hid (HUN.out wr hb)
      clear e1 hka
      generalize unlikeB sameIdx l = u at *
      cases hwi : (decide ((1 : Int) ≤ (l.length : Int)) && decide ((l.length : Int) ≤ 4))
      · rw [hwi] at HW E1
        clear hwi hb
        go_wp2_with (first
          | (go_at_call 67; refine (HW.out _).mono ?_; rintro e w4 ⟨rfl, rfl⟩))
        go_ret
        exact ⟨by rw [E1.out]; rfl, HB.out⟩
      · have hpos : 0 < l.length := by simp at hwi; omega
        have hposi : (0 : Int) < (l.length : Int) := by omega
        obtain ⟨g, off, cap1, hv, hg, e0, e1⟩ := sl_idx (HL.out.1.below hb) hpos
        cases hv
        have hfu : l[0].unique = firstU l := by
          cases l with
          | nil => simp at hpos
          | cons a t => rfl
        have e2 : wr.cell? ⟨g, off + 1, none⟩ = some (.bool l[0].unique) := by rw [Nat.zero_mul, Nat.add_zero] at e1; exact e1
        rw [hfu] at e2
        rw [hwi] at HW E1
        clear hwi hb e0 e1 hfu
        generalize firstU l = fu at *
        cases fu
        · go_wp2_with (first
            | (go_at_call 67; refine (HW.out _).mono ?_; rintro e w4 ⟨rfl, rfl⟩))
          go_ret
          exact ⟨by rw [E1.out]; rfl, HB.out⟩
        · go_wp2_with (first
            | (go_at_call 67; refine (HW.out _).mono ?_; rintro e w4 ⟨rfl, rfl⟩)
            | (go_at_call 117; refine HU.out.mono ?_; clear HU; rintro e w5 ⟨rfl, hb5⟩))
          go_ret
          exact ⟨by rw [E1.out]; rfl, HB.out.trans (hb5.mono HB.out.size)⟩
end Go.Proofs.YtlgohkdckdnmhaaDoor
/- Schemas: Right. -/
namespace Go.Proofs.YtlgohkdckdnmhaaDoor
open Go.RowKit Go.Afx

structure SchV where
  name : ByteArray
  colsV : Value
  cols : List ColV
  idxV : Value
  idx : List IdxV
  limit : Int
  parts : Int
  by_ : Int
def SchV.cells (s : SchV) : List Value := [.string s.name, s.colsV, s.idxV, .int .i64 s.limit, .int .i64 s.parts, .int .i64 s.by_]
def SchV.agg (s : SchV) : Value := .agg #[.string s.name, s.colsV, s.idxV, .int .i64 s.limit, .int .i64 s.parts, .int .i64 s.by_]
/-- A schema that reads. -/
structure SchAt (w : World) (B : Nat → Prop) (s : SchV) : Prop where
  cols : Sl w B 2 s.colsV s.cols.length (colCells s.cols)
  idx : IdxAt w B s.idxV s.idx
  names : ∀ c ∈ s.cols, c.name.size ≤ maxLen
  name : s.name.size ≤ maxLen
theorem SchAt.below {w w' : World} {B : Nat → Prop} {s : SchV} (h : SchAt w B s) (hb : Below w.heap.size w w') : SchAt w' B s := ⟨h.cols.below hb, h.idx.below hb, h.names, h.name⟩

def rightS (s : SchV) : Bool :=
  namedB s.name && (colsB s.cols && (idxB s.cols.length s.idx && ((decide (1 ≤ s.limit) && decide (s.limit ≤ 1000)) && ((decide (1 ≤ s.parts) && decide (s.parts ≤ 8)) && (decide (0 ≤ s.by_) && decide (s.by_ ≤ (s.cols.length : Int) - 1))))))
theorem colsB_len {l : List ColV} (h : colsB l = true) : 1 ≤ l.length ∧ l.length ≤ 8 := by
  unfold colsB at h
  simp at h
  omega

/-- The six cells of a schema in a block. -/
theorem sch_cells {w : World} {b : Nat} {t : TypeId} {v0 v1 v2 v3 v4 v5 : Value} (h : Blk w b t [v0, v1, v2, v3, v4, v5]) :
    w.cell? ⟨b, 0, none⟩ = some v0 ∧ w.cell? ⟨b, 1, none⟩ = some v1 ∧ w.cell? ⟨b, 2, none⟩ = some v2 ∧ w.cell? ⟨b, 3, none⟩ = some v3 ∧ w.cell? ⟨b, 4, none⟩ = some v4 ∧ w.cell? ⟨b, 5, none⟩ = some v5 :=
  ⟨h.cell 0, h.cell 1, h.cell 2, h.cell 3, h.cell 4, h.cell 5⟩

set_option maxRecDepth 100000 in
set_option maxHeartbeats 1000000 in
theorem schright_any (w : World) (B : Nat → Prop) (s : SchV) (h : SchAt w B s) :
    Calls Tryd.prog 49 #[s.agg] w fun e w' => e = .returned (.bool (rightS s)) ∧ Below w.heap.size w w' := by
  obtain ⟨nm, cv, cl, iv, il, lim, prt, by_⟩ := s
  obtain ⟨h1, h2, h3, h4⟩ := h
  simp only at h1 h2 h3 h4
  simp only [SchV.agg, rightS]
  obtain ⟨pc, cc, rfl, _, hcc⟩ := h1.form
  obtain ⟨pi, ci, rfl, _, hci⟩ := h2.1.form
  have hal : Below w.heap.size w (w.alloc (.cells #[.string nm, .slice pc cl.length cc, .slice pi il.length ci, .int .i64 lim, .int .i64 prt, .int .i64 by_] 47)) := (Below.refl _ _).alloc (Nat.le_refl _) _
  have HBK : Hid (Blk (w.alloc (.cells #[.string nm, .slice pc cl.length cc, .slice pi il.length ci, .int .i64 lim, .int .i64 prt, .int .i64 by_] 47)) w.heap.size 47 [.string nm, .slice pc cl.length cc, .slice pi il.length ci, .int .i64 lim, .int .i64 prt, .int .i64 by_]) := Blk.new w _ _
  have HN := Lib.hid (named_any (w.alloc (.cells #[.string nm, .slice pc cl.length cc, .slice pi il.length ci, .int .i64 lim, .int .i64 prt, .int .i64 by_] 47)) nm h4)
  have hcl := @colsB_len cl
  have HC := Lib.hid (fun W (hb : Below (w.alloc (.cells #[.string nm, .slice pc cl.length cc, .slice pi il.length ci, .int .i64 lim, .int .i64 prt, .int .i64 by_] 47)).heap.size (w.alloc (.cells #[.string nm, .slice pc cl.length cc, .slice pi il.length ci, .int .i64 lim, .int .i64 prt, .int .i64 by_] 47)) W) => columns_any W B _ cl ((h1.below hal).below hb) h3)
  have HALW := Lib.hid hal
  cases hn : namedB nm
  · rw [hn] at HN
    clear HC hcl hn
    simp only [Bool.false_and]
    go_enter Tryd.func49, Tryd.ntmps49
    go_wp2_with (go_at_call 88; refine HN.out.mono ?_; rintro e w2 ⟨rfl, hb2⟩)
    go_ret
    exact ⟨rfl, HALW.out.trans (hb2.mono HALW.out.size)⟩
  rw [hn] at HN
  simp only [Bool.true_and]
  cases hc : colsB cl
  · rw [hc] at HC
    clear hcl hn hc
    simp only [Bool.false_and]
    go_enter Tryd.func49, Tryd.ntmps49
    go_wp2_with (first
      | (go_at_call 88; refine HN.out.mono ?_; rintro e w2 ⟨rfl, hb2⟩; obtain ⟨x0, x1, x2, x3, x4, x5⟩ := sch_cells (HBK.out.below hb2); have HB2 := Lib.hid hb2; have HC2 := Lib.hid (HC.out w2 hb2); clear hb2 x0 x3 x4 x5)
      | (go_at_call 89; refine HC2.out.mono ?_; rintro e w3 ⟨rfl, hb3⟩; have HB3 := Lib.hid (HB2.out.trans (hb3.mono HB2.out.size)); clear hb3))
    go_ret
    exact ⟨rfl, HALW.out.trans (HB3.out.mono HALW.out.size)⟩
  rw [hc] at HC
  obtain ⟨hcl1, hcl8⟩ := hcl hc
  simp only [Bool.true_and]
  have HI := Lib.hid (fun W (hb : Below (w.alloc (.cells #[.string nm, .slice pc cl.length cc, .slice pi il.length ci, .int .i64 lim, .int .i64 prt, .int .i64 by_] 47)).heap.size (w.alloc (.cells #[.string nm, .slice pc cl.length cc, .slice pi il.length ci, .int .i64 lim, .int .i64 prt, .int .i64 by_] 47)) W) => indexes_any W B _ il (cl.length : Int) ⟨by omega, by omega⟩ ((h2.below hal).below hb))
  have HL := Lib.hid (fun W => within_any W lim 1 1000)
  have HP := Lib.hid (fun W => within_any W prt 1 8)
  have HY := Lib.hid (fun W => within_any W by_ 0 ((cl.length : Int) - 1))
  have hsub : 0 ≤ (cl.length : Int) - 1 := by omega
  have hcl8i : (cl.length : Int) ≤ 8 := by omega
  have hcl1i : (1 : Int) ≤ (cl.length : Int) := by omega
  clear h1 h2 h3 h4 hal hn hc hcl hcc hci
  generalize idxB (cl.length : Int) il = r3 at *
  generalize (decide (1 ≤ lim) && decide (lim ≤ 1000)) = r4 at *
  generalize (decide (1 ≤ prt) && decide (prt ≤ 8)) = r5 at *
  generalize (decide (0 ≤ by_) && decide (by_ ≤ (cl.length : Int) - 1)) = r6 at *
  cases r3
  · simp only [Bool.false_and]
    go_enter Tryd.func49, Tryd.ntmps49
    go_wp2_with (first
      | (go_at_call 88; refine HN.out.mono ?_; rintro e w2 ⟨rfl, hb2⟩; obtain ⟨x0, x1, x2, x3, x4, x5⟩ := sch_cells (HBK.out.below hb2); have HB2 := Lib.hid hb2; have HC2 := Lib.hid (HC.out w2 hb2); clear hb2 x0 x3 x4 x5)
      | (go_at_call 89; refine HC2.out.mono ?_; rintro e w3 ⟨rfl, hb3⟩; have hb23 := HB2.out.trans (hb3.mono HB2.out.size); obtain ⟨y0, y1, y2, y3, y4, y5⟩ := sch_cells (HBK.out.below hb23); have HB3 := Lib.hid hb23; have HI3 := Lib.hid (HI.out w3 hb23); clear hb3 hb23 y0 y3 y4 y5 x1 x2)
      | (go_at_call 90; refine HI3.out.mono ?_; rintro e w4 ⟨rfl, hb4⟩; have hb34 := HB3.out.trans (hb4.mono HB3.out.size); obtain ⟨z0, z1, z2, z3, z4, z5⟩ := sch_cells (HBK.out.below hb34); have HB4 := Lib.hid hb34; clear hb4 hb34 z0 z2 y1 y2)
      | (go_at_call 67; (with_reducible refine (HL.out _).mono ?_); rintro e w5 ⟨rfl, rfl⟩)
      | (go_at_call 67; (with_reducible refine (HP.out _).mono ?_); rintro e w5 ⟨rfl, rfl⟩)
      | (go_at_call 67; (with_reducible refine (HY.out _).mono ?_); rintro e w5 ⟨rfl, rfl⟩))
    go_ret
    exact ⟨rfl, HALW.out.trans (HB4.out.mono HALW.out.size)⟩
  simp only [Bool.true_and]
  cases r4
  · simp only [Bool.false_and]
    go_enter Tryd.func49, Tryd.ntmps49
    go_wp2_with (first
      | (go_at_call 88; refine HN.out.mono ?_; rintro e w2 ⟨rfl, hb2⟩; obtain ⟨x0, x1, x2, x3, x4, x5⟩ := sch_cells (HBK.out.below hb2); have HB2 := Lib.hid hb2; have HC2 := Lib.hid (HC.out w2 hb2); clear hb2 x0 x3 x4 x5)
      | (go_at_call 89; refine HC2.out.mono ?_; rintro e w3 ⟨rfl, hb3⟩; have hb23 := HB2.out.trans (hb3.mono HB2.out.size); obtain ⟨y0, y1, y2, y3, y4, y5⟩ := sch_cells (HBK.out.below hb23); have HB3 := Lib.hid hb23; have HI3 := Lib.hid (HI.out w3 hb23); clear hb3 hb23 y0 y3 y4 y5 x1 x2)
      | (go_at_call 90; refine HI3.out.mono ?_; rintro e w4 ⟨rfl, hb4⟩; have hb34 := HB3.out.trans (hb4.mono HB3.out.size); obtain ⟨z0, z1, z2, z3, z4, z5⟩ := sch_cells (HBK.out.below hb34); have HB4 := Lib.hid hb34; clear hb4 hb34 z0 z2 y1 y2)
      | (go_at_call 67; (with_reducible refine (HL.out _).mono ?_); rintro e w5 ⟨rfl, rfl⟩)
      | (go_at_call 67; (with_reducible refine (HP.out _).mono ?_); rintro e w5 ⟨rfl, rfl⟩)
      | (go_at_call 67; (with_reducible refine (HY.out _).mono ?_); rintro e w5 ⟨rfl, rfl⟩))
    go_ret
    exact ⟨rfl, HALW.out.trans (HB4.out.mono HALW.out.size)⟩
  simp only [Bool.true_and]
  cases r5
  · simp only [Bool.false_and]
    go_enter Tryd.func49, Tryd.ntmps49
    go_wp2_with (first
      | (go_at_call 88; refine HN.out.mono ?_; rintro e w2 ⟨rfl, hb2⟩; obtain ⟨x0, x1, x2, x3, x4, x5⟩ := sch_cells (HBK.out.below hb2); have HB2 := Lib.hid hb2; have HC2 := Lib.hid (HC.out w2 hb2); clear hb2 x0 x3 x4 x5)
      | (go_at_call 89; refine HC2.out.mono ?_; rintro e w3 ⟨rfl, hb3⟩; have hb23 := HB2.out.trans (hb3.mono HB2.out.size); obtain ⟨y0, y1, y2, y3, y4, y5⟩ := sch_cells (HBK.out.below hb23); have HB3 := Lib.hid hb23; have HI3 := Lib.hid (HI.out w3 hb23); clear hb3 hb23 y0 y3 y4 y5 x1 x2)
      | (go_at_call 90; refine HI3.out.mono ?_; rintro e w4 ⟨rfl, hb4⟩; have hb34 := HB3.out.trans (hb4.mono HB3.out.size); obtain ⟨z0, z1, z2, z3, z4, z5⟩ := sch_cells (HBK.out.below hb34); have HB4 := Lib.hid hb34; clear hb4 hb34 z0 z2 y1 y2)
      | (go_at_call 67; (with_reducible refine (HL.out _).mono ?_); rintro e w5 ⟨rfl, rfl⟩)
      | (go_at_call 67; (with_reducible refine (HP.out _).mono ?_); rintro e w5 ⟨rfl, rfl⟩)
      | (go_at_call 67; (with_reducible refine (HY.out _).mono ?_); rintro e w5 ⟨rfl, rfl⟩))
    go_ret
    exact ⟨rfl, HALW.out.trans (HB4.out.mono HALW.out.size)⟩
  simp only [Bool.true_and]
  go_enter Tryd.func49, Tryd.ntmps49
  go_wp2_with (first
    | (go_at_call 88; refine HN.out.mono ?_; rintro e w2 ⟨rfl, hb2⟩; obtain ⟨x0, x1, x2, x3, x4, x5⟩ := sch_cells (HBK.out.below hb2); have HB2 := Lib.hid hb2; have HC2 := Lib.hid (HC.out w2 hb2); clear hb2 x0 x3 x4 x5)
    | (go_at_call 89; refine HC2.out.mono ?_; rintro e w3 ⟨rfl, hb3⟩; have hb23 := HB2.out.trans (hb3.mono HB2.out.size); obtain ⟨y0, y1, y2, y3, y4, y5⟩ := sch_cells (HBK.out.below hb23); have HB3 := Lib.hid hb23; have HI3 := Lib.hid (HI.out w3 hb23); clear hb3 hb23 y0 y3 y4 y5 x1 x2)
    | (go_at_call 90; refine HI3.out.mono ?_; rintro e w4 ⟨rfl, hb4⟩; have hb34 := HB3.out.trans (hb4.mono HB3.out.size); obtain ⟨z0, z1, z2, z3, z4, z5⟩ := sch_cells (HBK.out.below hb34); have HB4 := Lib.hid hb34; clear hb4 hb34 z0 z2 y1 y2)
    | (go_at_call 67; (with_reducible refine (HL.out _).mono ?_); rintro e w5 ⟨rfl, rfl⟩)
    | (go_at_call 67; (with_reducible refine (HP.out _).mono ?_); rintro e w5 ⟨rfl, rfl⟩)
    | (go_at_call 67; (with_reducible refine (HY.out _).mono ?_); rintro e w5 ⟨rfl, rfl⟩))
  go_ret
  exact ⟨rfl, HALW.out.trans (HB4.out.mono HALW.out.size)⟩
end Go.Proofs.YtlgohkdckdnmhaaDoor
/- Places that are all unlike are no more than there are columns (plain). -/
namespace Go.Proofs.YtlgohkdckdnmhaaDoor
open Go.RowKit Go.Afx

theorem unlikeGo_spec {α : Type} (same : α → α → Bool) : ∀ (t seen : List α), unlikeGo same seen t = true → (∀ i j (hi : i < t.length), j < i → ∀ hj : j < t.length, same t[i] t[j] = false) ∧ ∀ i (hi : i < t.length), ∀ b ∈ seen, same t[i] b = false
  | [], _, _ => ⟨fun i j hi => absurd hi (Nat.not_lt_zero _), fun i hi => absurd hi (Nat.not_lt_zero _)⟩
  | a :: t, seen, h => by
    unfold unlikeGo at h
    rw [Bool.and_eq_true, List.all_eq_true] at h
    obtain ⟨h1, h2⟩ := unlikeGo_spec same t (seen ++ [a]) h.2
    refine ⟨fun i j hi hji hj => ?_, fun i hi b hb => ?_⟩
    · cases i with
      | zero => omega
      | succ i =>
        cases j with
        | zero => exact h2 i (by simpa using hi) a (by simp)
        | succ j => exact h1 i j (by simpa using hi) (by omega) (by simpa using hj)
    · cases i with
      | zero => have := h.1 b hb; simpa using this
      | succ i => exact h2 i (by simpa using hi) b (List.mem_append_left _ hb)
/-- Unlike numbers from 0 on, below n, are no more than n. -/
theorem pigeon : ∀ (n : Nat) (l : List Int), (∀ c ∈ l, 0 ≤ c ∧ c < (n : Int)) → (∀ i j (hi : i < l.length) (hj : j < l.length), j < i → l[i] ≠ l[j]) → l.length ≤ n := by
  intro n
  induction n with
  | zero =>
    intro l h _
    cases l with
    | nil => simp
    | cons a t => have := h a (by simp); omega
  | succ n ih =>
    intro l h hd
    have hp : l.Nodup := by
      rw [List.nodup_iff_pairwise_ne]
      rw [List.pairwise_iff_getElem]
      intro i j hi hj hij
      exact fun e => hd j i hj hi hij e.symm
    have hl := ih (l.filter (fun c => c ≠ (n : Int))) (fun c hc => by
      rw [List.mem_filter] at hc
      have h1 := h c hc.1
      have h2 : c ≠ (n : Int) := by simpa using hc.2
      omega) (by
      have hq := List.Pairwise.filter (fun c => decide (c ≠ (n : Int))) (List.nodup_iff_pairwise_ne.1 hp)
      rw [List.pairwise_iff_getElem] at hq
      intro i j hi hj hji
      exact fun e => hq j i hj hi hji e.symm)
    have hcount : l.length ≤ (l.filter (fun c => c ≠ (n : Int))).length + 1 := by
      clear ih hl h hd
      induction l with
      | nil => simp
      | cons a t ih2 =>
        rw [List.nodup_cons] at hp
        by_cases ha : a = (n : Int)
        · have : t.filter (fun c => decide (c ≠ (n : Int))) = t := by
            rw [List.filter_eq_self]
            intro x hx
            have : x ≠ a := fun e => hp.1 (e ▸ hx)
            simpa [← ha] using this
          rw [List.filter_cons_of_neg (by simp [ha]), this, List.length_cons]
          omega
        · rw [List.filter_cons_of_pos (by simp [ha]), List.length_cons, List.length_cons]
          have := ih2 hp.2
          omega
    omega
theorem places_len (n : Nat) (x : IdxV) (h : placesB n x = true) : 1 ≤ x.l.length ∧ x.l.length ≤ n := by
  unfold placesB at h
  simp only [Bool.and_eq_true, List.all_eq_true, decide_eq_true_eq] at h
  obtain ⟨h1, h2, h3⟩ := h
  refine ⟨h2, pigeon n x.l (fun c hc => ?_) (fun i j hi hj hji => ?_)⟩
  · have := h1 c hc
    unfold placeOk at this
    simp at this
    omega
  · have := (unlikeGo_spec sameInt x.l [] h3).1 i j hi hji hj
    unfold sameInt at this
    simpa using this
theorem sameCol_comm (a b : ColV) : sameCol a b = sameCol b a := by
  unfold sameCol
  rw [Bool.eq_iff_iff]; simp only [beq_iff_eq]; exact ⟨Eq.symm, Eq.symm⟩
theorem sameIdx_comm (a b : IdxV) : sameIdx a b = sameIdx b a := by
  unfold sameIdx
  rw [Bool.eq_iff_iff]; simp only [beq_iff_eq]; exact ⟨Eq.symm, Eq.symm⟩
theorem sameInt_comm (a b : Int) : sameInt a b = sameInt b a := by
  unfold sameInt
  rw [Bool.eq_iff_iff]; simp only [beq_iff_eq]; exact ⟨Eq.symm, Eq.symm⟩
end Go.Proofs.YtlgohkdckdnmhaaDoor
/- The document's schemas: same, Right. -/
namespace Go.Proofs.YtlgohkdckdnmhaaDoor
open Go.RowKit Go.Afx

set_option maxRecDepth 100000 in
theorem refsame (w : World) (B : Nat → Prop) (v v' : Value) (l l' : List Int) (h : Sl w B 1 v l.length (ints l)) (h' : Sl w B 1 v' l'.length (ints l')) :
    Calls Tryd.prog 83 #[v, v'] w fun e w' => e = .returned (.bool (l == l')) ∧ Below w.heap.size w w' := by
  obtain ⟨p, cap, rfl, hc1, hc2⟩ := h.form
  obtain ⟨p', cap', rfl, hc1', hc2'⟩ := h'.form
  have H := Lib.hid h
  have H' := Lib.hid h'
  clear h h'
  by_cases hlen : l.length = l'.length
  · have HLEN := Lib.hid hlen
    rw [← hlen] at H' hc1' ⊢
    clear hlen
    go_enter Tryd.func83, Tryd.ntmps83
    go_wp2
    go_loopw [5] (fun i wr => ∃ k : Nat, i = .int .i64 k ∧ k ≤ l.length ∧ l.take k = l'.take k ∧ Below w.heap.size w wr) (fun i _ => l.length - (intOf i).toNat)
    case atStart => exact ⟨0, rfl, Nat.zero_le _, rfl, Below.refl _ _⟩
    case round =>
      obtain ⟨k, rfl, hk, ht, hb⟩ := hrel
      have HB := Lib.hid hb
      have HT := Lib.hid ht
      clear ht
      by_cases hka : k < l.length
      · have hka' : k < l'.length := by rw [← HLEN.out]; exact hka
        have h1' := H'.out
        rw [HLEN.out] at h1'
        obtain ⟨g, off, cap1, hv, hg, e0⟩ := sl_int (H.out.below hb) hka
        obtain ⟨g', off', cap1', hv', hg', e0'⟩ := sl_int (h1'.below hb) hka'
        rw [← HLEN.out] at hv'
        cases hv
        cases hv'
        have HX : Hid (l[k] = l'[k] → l.take (k + 1) = l'.take (k + 1)) := fun h => take_eq_next l l' k hka hka' HT.out h
        have HY : Hid (l[k] ≠ l'[k] → (l == l') = false) := fun h => by
          rw [beq_eq_false_iff_ne]
          intro he
          subst he
          exact h rfl
        clear hb h1'
        generalize l[k] = x at *
        generalize l'[k] = y at *
        by_cases hxy : x = y
        · have HF := Lib.hid (HX.out hxy)
          subst hxy
          clear HX HY
          go_wp2
          refine wp_region_lit_plan [] [(0, 0), (1, 0), (2, 0), (4, 0), (5, 0), (6, 0), (3, 1), (7, 1), (8, 0)] (fun _ => False) (by kernel_rfl) (by kernel_rfl) (fun c a d v w h => by cases d <;> exact h) ?_
          go_wp2_with (first
            | (refine plan_pure (v := _) (by rfl) (by rfl) (by rfl) (by intro _; go_simp; with_reducible rfl) ?_; simp only [List.setIfInBounds_toArray, List.set_cons_zero, List.set_cons_succ]; try go_bits) | (refine plan_read (v := _) (by rfl) (by rfl) (by rfl) (by go_simp; with_reducible rfl) ?_; simp only [List.setIfInBounds_toArray, List.set_cons_zero, List.set_cons_succ]; try go_bits) | (refine plan_readB (v := _) (by rfl) (by rfl) (by rfl) (by intro _ hag; unfold Agree at hag; go_simp; with_reducible rfl) ?_; simp only [List.setIfInBounds_toArray, List.set_cons_zero, List.set_cons_succ]; try go_bits) | (refine plan_skip0 (by rfl) (by rfl) (by rfl) ?_; simp only [List.setIfInBounds_toArray, List.set_cons_zero, List.set_cons_succ]; try go_bits) | (refine plan_skip1 (by rfl) (by rfl) (by rfl) ?_; simp only [List.setIfInBounds_toArray, List.set_cons_zero, List.set_cons_succ]; try go_bits) | (refine plan_skip2 (by rfl) (by rfl) (by rfl) ?_; simp only [List.setIfInBounds_toArray, List.set_cons_zero, List.set_cons_succ]; try go_bits) | (refine plan_skip4 (by rfl) (by rfl) (by rfl) ?_; simp only [List.setIfInBounds_toArray, List.set_cons_zero, List.set_cons_succ]; try go_bits) | (refine plan_any (by rfl) ?_) | (refine plan_keep (by rfl) ?_) | (refine plan_nil ?_) | (with_reducible refine And.intro (by first | assumption | exact Agree.refl _ _ | exact agree_drew _ _ | exact agree_alloc _ (by intro k hk; subst hk; first | omega | (simp; omega))) ?_) | (unfold Act.put; simp only [List.setIfInBounds_toArray, List.set_cons_zero, List.set_cons_succ]))
          exact ⟨⟨k + 1, by go_num, by omega, HF.out, HB.out.drew⟩, by (simp [intOf]) <;> omega⟩
        · have HF := Lib.hid (HY.out hxy)
          have d1 : (x == y) = false := beq_eq_false_iff_ne.2 hxy
          have d2 : (x != y) = true := bne_iff_ne.2 hxy
          clear HX HY hxy
          go_wp2
          refine wp_region_lit_plan [] [(0, 0), (1, 0), (2, 0), (4, 0), (5, 0), (6, 0), (3, 1), (7, 1), (8, 0)] (fun _ => False) (by kernel_rfl) (by kernel_rfl) (fun c a d v w h => by cases d <;> exact h) ?_
          go_wp2_with (first
            | (refine plan_pure (v := _) (by rfl) (by rfl) (by rfl) (by intro _; go_simp; with_reducible rfl) ?_; simp only [List.setIfInBounds_toArray, List.set_cons_zero, List.set_cons_succ]; try go_bits) | (refine plan_read (v := _) (by rfl) (by rfl) (by rfl) (by go_simp; with_reducible rfl) ?_; simp only [List.setIfInBounds_toArray, List.set_cons_zero, List.set_cons_succ]; try go_bits) | (refine plan_readB (v := _) (by rfl) (by rfl) (by rfl) (by intro _ hag; unfold Agree at hag; go_simp; with_reducible rfl) ?_; simp only [List.setIfInBounds_toArray, List.set_cons_zero, List.set_cons_succ]; try go_bits) | (refine plan_skip0 (by rfl) (by rfl) (by rfl) ?_; simp only [List.setIfInBounds_toArray, List.set_cons_zero, List.set_cons_succ]; try go_bits) | (refine plan_skip1 (by rfl) (by rfl) (by rfl) ?_; simp only [List.setIfInBounds_toArray, List.set_cons_zero, List.set_cons_succ]; try go_bits) | (refine plan_skip2 (by rfl) (by rfl) (by rfl) ?_; simp only [List.setIfInBounds_toArray, List.set_cons_zero, List.set_cons_succ]; try go_bits) | (refine plan_skip4 (by rfl) (by rfl) (by rfl) ?_; simp only [List.setIfInBounds_toArray, List.set_cons_zero, List.set_cons_succ]; try go_bits) | (refine plan_any (by rfl) ?_) | (refine plan_keep (by rfl) ?_) | (refine plan_nil ?_) | (with_reducible refine And.intro (by first | assumption | exact Agree.refl _ _ | exact agree_drew _ _ | exact agree_alloc _ (by intro k hk; subst hk; first | omega | (simp; omega))) ?_) | (unfold Act.put; simp only [List.setIfInBounds_toArray, List.set_cons_zero, List.set_cons_succ]))
          go_ret
          exact ⟨by rw [HF.out]; rfl, HB.out.drew⟩
      · obtain rfl : k = l.length := by omega
        have e1 : (l == l') = true := by
          have := HT.out
          rw [List.take_length, HLEN.out, List.take_length] at this
          rw [this]; exact beq_self_eq_true _
        have E1 := Lib.hid e1
        clear e1 hb
        go_wp2
        go_ret
        exact ⟨by rw [E1.out]; rfl, HB.out⟩
  · have e1 : (l == l') = false := by
      rw [beq_eq_false_iff_ne]
      intro he
      exact hlen (by rw [he])
    rw [e1]
    have d1 : ((l.length : Int) == (l'.length : Int)) = false := beq_eq_false_iff_ne.2 (by omega)
    have d2 : ((l.length : Int) != (l'.length : Int)) = true := bne_iff_ne.2 (by omega)
    clear e1
    go_enter Tryd.func83, Tryd.ntmps83
    go_wp2
    go_ret
    exact ⟨rfl, Below.refl _ _⟩

/-- The first test of the document's Right. -/
def frontS (s : SchV) : Bool :=
  namedB s.name && (decide (1 ≤ s.cols.length) && decide (s.cols.length ≤ 8)) && (decide (1 ≤ s.idx.length) && decide (s.idx.length ≤ 4)) && ((decide (1 ≤ s.limit) && decide (s.limit ≤ 1000)) && ((decide (1 ≤ s.parts) && decide (s.parts ≤ 8)) && (decide (0 ≤ s.by_) && decide (s.by_ ≤ (s.cols.length : Int) - 1)))) && firstU s.idx
theorem rightS_front (s : SchV) : rightS s = (frontS s && (s.cols.all colOk && unlikeB sameCol s.cols) && (s.idx.all (placesB s.cols.length) && unlikeB sameIdx s.idx)) := by
  unfold rightS frontS colsB idxB
  generalize namedB s.name = a1
  generalize s.cols.all colOk = a2
  generalize (decide (1 ≤ s.cols.length) && decide (s.cols.length ≤ 8)) = a3
  generalize unlikeB sameCol s.cols = a4
  generalize s.idx.all (placesB s.cols.length) = a5
  generalize (decide (1 ≤ s.idx.length) && decide (s.idx.length ≤ 4)) = a6
  generalize firstU s.idx = a7
  generalize unlikeB sameIdx s.idx = a8
  generalize ((decide (1 ≤ s.limit) && decide (s.limit ≤ 1000)) && ((decide (1 ≤ s.parts) && decide (s.parts ≤ 8)) && (decide (0 ≤ s.by_) && decide (s.by_ ≤ (s.cols.length : Int) - 1)))) = a9
  cases a1 <;> cases a2 <;> cases a3 <;> cases a4 <;> cases a5 <;> cases a6 <;> cases a7 <;> cases a8 <;> cases a9 <;> rfl
end Go.Proofs.YtlgohkdckdnmhaaDoor
/- The document's schemas: Right. -/
namespace Go.Proofs.YtlgohkdckdnmhaaDoor
open Go.RowKit Go.Afx

def FrontP (nb : Bool) (n ni lim prt by_ : Int) (fu : Bool) : Prop := nb = true ∧ 1 ≤ n ∧ n ≤ 8 ∧ 1 ≤ ni ∧ ni ≤ 4 ∧ 1 ≤ lim ∧ lim ≤ 1000 ∧ 1 ≤ prt ∧ prt ≤ 8 ∧ 0 ≤ by_ ∧ by_ < n ∧ fu = true
theorem frontS_iff (s : SchV) : frontS s = true ↔ FrontP (namedB s.name) s.cols.length s.idx.length s.limit s.parts s.by_ (firstU s.idx) := by
  unfold frontS FrontP
  simp only [Bool.and_eq_true, decide_eq_true_eq]
  constructor
  · rintro ⟨⟨⟨⟨h1, h2⟩, h3⟩, ⟨h4, h5⟩, ⟨h6, h7⟩, h8⟩, h9⟩
    exact ⟨h1, by omega, by omega, by omega, by omega, h4, h5, h6, h7, h8.1, by omega, h9⟩
  · rintro ⟨h1, h2, h3, h4, h5, h6, h7, h8, h9, h10, h11, h12⟩
    exact ⟨⟨⟨⟨h1, by omega, by omega⟩, by omega, by omega⟩, ⟨h6, h7⟩, ⟨h8, h9⟩, h10, by omega⟩, h12⟩

set_option maxRecDepth 100000 in
set_option maxHeartbeats 4000000 in
theorem refright_front (w : World) (B : Nat → Prop) (s : SchV) (h : SchAt w B s) (hf : frontS s = false) :
    Calls Tryd.prog 47 #[s.agg] w fun e w' => e = .returned (.bool false) ∧ Below w.heap.size w w' := by
  have hnf : ¬ FrontP (namedB s.name) s.cols.length s.idx.length s.limit s.parts s.by_ (firstU s.idx) := fun hc => by
    rw [(frontS_iff s).2 hc] at hf; cases hf
  obtain ⟨nm, cv, cl, iv, il, lim, prt, by_⟩ := s
  obtain ⟨h1, h2, h3, h4⟩ := h
  simp only at h1 h2 h3 h4 hnf
  simp only [SchV.agg]
  obtain ⟨pc, cc, rfl, _, hcc⟩ := h1.form
  obtain ⟨pi, ci, rfl, _, hci⟩ := h2.1.form
  have hal : Below w.heap.size w (w.alloc (.cells #[.string nm, .slice pc cl.length cc, .slice pi il.length ci, .int .i64 lim, .int .i64 prt, .int .i64 by_] 47)) := (Below.refl _ _).alloc (Nat.le_refl _) _
  have HN := Lib.hid (refnamed (w.alloc (.cells #[.string nm, .slice pc cl.length cc, .slice pi il.length ci, .int .i64 lim, .int .i64 prt, .int .i64 by_] 47)) nm h4)
  have HAL := Lib.hid hal
  rcases Nat.eq_zero_or_pos il.length with h0 | h0
  · have hi0 : (il.length : Int) < 1 := by omega
    clear h1 h2 h3 h4 hal hf hnf hcc hci h0
    generalize namedB nm = nb at *
    cases nb
    all_goals
      go_enter Tryd.func47, Tryd.ntmps47
      go_wp2_with (go_at_call 51; refine HN.out.mono ?_; clear HN; rintro e w2 ⟨rfl, rfl⟩)
      all_goals (go_ret; exact ⟨rfl, HAL.out⟩)
  · obtain ⟨g, off, cap1, hv, hg, e0, e1⟩ := sl_idx (h2.below hal).1 h0
    cases hv
    have hfu : il[0].unique = firstU il := by
      cases il with
      | nil => simp at h0
      | cons a t => rfl
    have e2 : (w.alloc (.cells #[.string nm, .slice pc cl.length cc, .slice (some ⟨g, off, none⟩) il.length ci, .int .i64 lim, .int .i64 prt, .int .i64 by_] 47)).cell? ⟨g, off + 1, none⟩ = some (.bool il[0].unique) := by rw [Nat.zero_mul, Nat.add_zero] at e1; exact e1
    rw [hfu] at e2
    have h0i : (0 : Int) < (il.length : Int) := by omega
    have HNF := Lib.hid hnf
    clear h1 h2 h3 h4 hal hf hnf hcc hci e0 e1 hfu
    generalize namedB nm = nb at *
    generalize firstU il = fu at *
    cases nb
    · go_enter Tryd.func47, Tryd.ntmps47
      go_wp2_with (go_at_call 51; refine HN.out.mono ?_; clear HN; rintro e w2 ⟨rfl, rfl⟩)
      go_ret
      exact ⟨rfl, HAL.out⟩
    · cases fu
      · go_enter Tryd.func47, Tryd.ntmps47
        go_wp2_with (go_at_call 51; refine HN.out.mono ?_; clear HN; rintro e w2 ⟨rfl, rfl⟩)
        all_goals (go_ret; exact ⟨rfl, HAL.out⟩)
      · go_enter Tryd.func47, Tryd.ntmps47
        go_wp2_with (go_at_call 51; refine HN.out.mono ?_; clear HN; rintro e w2 ⟨rfl, rfl⟩)
        all_goals first
          | (go_ret; exact ⟨rfl, HAL.out⟩)
          | (exfalso; exact HNF.out ⟨rfl, by omega, by omega, by omega, by omega, by omega, by omega, by omega, by omega, by omega, by omega, rfl⟩)

end Go.Proofs.YtlgohkdckdnmhaaDoor
