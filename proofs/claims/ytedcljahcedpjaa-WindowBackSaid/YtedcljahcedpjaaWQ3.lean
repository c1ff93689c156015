/- Contracts of the functions that the statement reaches, one behind the other. No condition beyond each theorem's own. -/
import Derived.Deep.CutBlock
import Derived.Deep.DeepCutAuto
import Derived.IntWalk
import Derived.ChangeArms
import Derived.Test.YtedcljahcedpjaaWQ2
set_option linter.unusedSimpArgs false
set_option linter.unusedVariables false
/- The document's values: Right, All, Great; Value, Row, Rows. -/
namespace Go.Proofs.Ytedcljahcedpjaa
open Go.RowKit Go.Afx

set_option maxRecDepth 100000 in
set_option maxHeartbeats 1000000 in
theorem refright (w : World) (v : AV) : Calls Try.prog 60 #[v.agg] w fun e w' => e = .returned (.bool v.right) ∧ Below w.heap.size w w' := by
  obtain ⟨k, n, s⟩ := v
  have er : (⟨k, n, s⟩ : AV).right = ((k == 1 && s.toList.isEmpty) || (k == 2 && n == 0 && decide (s.size ≤ 200)) || (k == 3 && (n == 0 || n == 1) && s.toList.isEmpty)) := rfl
  rw [er]
  clear er
  generalize hem : s.toList.isEmpty = em
  by_cases h1 : k = 1
  · subst h1
    have e1 : ((((1 : Int) == 1) && em) || (((1 : Int) == 2) && n == 0 && decide (s.size ≤ 200)) || (((1 : Int) == 3) && (n == 0 || n == 1) && em)) = em := by cases em <;> rfl
    rw [e1]
    clear e1
    cases em
    · simp only [AV.agg]
      go_enter Try.func60, Try.ntmps60
      go_wp2
      go_ret
      refine ⟨rfl, ?_⟩
      repeat (with_reducible first | exact Below.refl _ _ | apply Below.drew | (refine Below.alloc ?_ (by first | omega | (simp; omega) | simp) _) | (refine Below.setCell ?_ (by first | omega | (simp; omega) | simp) _))
    · simp only [AV.agg]
      go_enter Try.func60, Try.ntmps60
      go_wp2
      go_ret
      refine ⟨rfl, ?_⟩
      repeat (with_reducible first | exact Below.refl _ _ | apply Below.drew | (refine Below.alloc ?_ (by first | omega | (simp; omega) | simp) _) | (refine Below.setCell ?_ (by first | omega | (simp; omega) | simp) _))
  · have k1 : (k == 1) = false := by rw [beq_eq_false_iff_ne]; exact h1
    by_cases h2 : k = 2
    · subst h2
      clear k1 h1
      by_cases hn : n = 0
      · subst hn
        by_cases hs : s.size ≤ 200
        · have e1 : ((((2 : Int) == 1) && em) || (((2 : Int) == 2) && ((0 : Int) == 0) && decide (s.size ≤ 200)) || (((2 : Int) == 3) && (((0 : Int) == 0) || ((0 : Int) == 1)) && em)) = true := by simp [hs]
          rw [e1]
          have hs2 : decide ((s.size : Int) ≤ 200) = true := decide_eq_true (by omega)
          clear e1 hem
          simp only [AV.agg]
          go_enter Try.func60, Try.ntmps60
          go_wp2
          go_ret
          refine ⟨rfl, ?_⟩
          repeat (with_reducible first | exact Below.refl _ _ | apply Below.drew | (refine Below.alloc ?_ (by first | omega | (simp; omega) | simp) _) | (refine Below.setCell ?_ (by first | omega | (simp; omega) | simp) _))
        · have e1 : ((((2 : Int) == 1) && em) || (((2 : Int) == 2) && ((0 : Int) == 0) && decide (s.size ≤ 200)) || (((2 : Int) == 3) && (((0 : Int) == 0) || ((0 : Int) == 1)) && em)) = false := by simp [hs]
          rw [e1]
          have hs2 : decide ((s.size : Int) ≤ 200) = false := decide_eq_false (by omega)
          clear e1 hem
          simp only [AV.agg]
          go_enter Try.func60, Try.ntmps60
          go_wp2
          go_ret
          refine ⟨rfl, ?_⟩
          repeat (with_reducible first | exact Below.refl _ _ | apply Below.drew | (refine Below.alloc ?_ (by first | omega | (simp; omega) | simp) _) | (refine Below.setCell ?_ (by first | omega | (simp; omega) | simp) _))
      · have hn2 : (n == 0) = false := by rw [beq_eq_false_iff_ne]; exact hn
        have e1 : ((((2 : Int) == 1) && em) || (((2 : Int) == 2) && (n == 0) && decide (s.size ≤ 200)) || (((2 : Int) == 3) && ((n == 0) || (n == 1)) && em)) = false := by simp [hn]
        rw [e1]
        clear e1 hem
        simp only [AV.agg]
        go_enter Try.func60, Try.ntmps60
        go_wp2
        go_ret
        refine ⟨rfl, ?_⟩
        repeat (with_reducible first | exact Below.refl _ _ | apply Below.drew | (refine Below.alloc ?_ (by first | omega | (simp; omega) | simp) _) | (refine Below.setCell ?_ (by first | omega | (simp; omega) | simp) _))
    · have k2 : (k == 2) = false := by rw [beq_eq_false_iff_ne]; exact h2
      by_cases h3 : k = 3
      · subst h3
        clear k1 k2 h1 h2
        by_cases hn0 : n = 0
        · subst hn0
          have e1 : ((((3 : Int) == 1) && em) || (((3 : Int) == 2) && ((0 : Int) == 0) && decide (s.size ≤ 200)) || (((3 : Int) == 3) && (((0 : Int) == 0) || ((0 : Int) == 1)) && em)) = em := by simp
          rw [e1]
          clear e1
          cases em
          · simp only [AV.agg]
            go_enter Try.func60, Try.ntmps60
            go_wp2
            go_ret
            refine ⟨rfl, ?_⟩
            repeat (with_reducible first | exact Below.refl _ _ | apply Below.drew | (refine Below.alloc ?_ (by first | omega | (simp; omega) | simp) _) | (refine Below.setCell ?_ (by first | omega | (simp; omega) | simp) _))
          · simp only [AV.agg]
            go_enter Try.func60, Try.ntmps60
            go_wp2
            go_ret
            refine ⟨rfl, ?_⟩
            repeat (with_reducible first | exact Below.refl _ _ | apply Below.drew | (refine Below.alloc ?_ (by first | omega | (simp; omega) | simp) _) | (refine Below.setCell ?_ (by first | omega | (simp; omega) | simp) _))
        · have a1 : (n == 0) = false := by rw [beq_eq_false_iff_ne]; exact hn0
          by_cases hn1 : n = 1
          · subst hn1
            have e1 : ((((3 : Int) == 1) && em) || (((3 : Int) == 2) && ((1 : Int) == 0) && decide (s.size ≤ 200)) || (((3 : Int) == 3) && (((1 : Int) == 0) || ((1 : Int) == 1)) && em)) = em := by simp
            rw [e1]
            clear e1
            cases em
            · simp only [AV.agg]
              go_enter Try.func60, Try.ntmps60
              go_wp2
              go_ret
              refine ⟨rfl, ?_⟩
              repeat (with_reducible first | exact Below.refl _ _ | apply Below.drew | (refine Below.alloc ?_ (by first | omega | (simp; omega) | simp) _) | (refine Below.setCell ?_ (by first | omega | (simp; omega) | simp) _))
            · simp only [AV.agg]
              go_enter Try.func60, Try.ntmps60
              go_wp2
              go_ret
              refine ⟨rfl, ?_⟩
              repeat (with_reducible first | exact Below.refl _ _ | apply Below.drew | (refine Below.alloc ?_ (by first | omega | (simp; omega) | simp) _) | (refine Below.setCell ?_ (by first | omega | (simp; omega) | simp) _))
          · have a2 : (n == 1) = false := by rw [beq_eq_false_iff_ne]; exact hn1
            have e1 : ((((3 : Int) == 1) && em) || (((3 : Int) == 2) && (n == 0) && decide (s.size ≤ 200)) || (((3 : Int) == 3) && ((n == 0) || (n == 1)) && em)) = false := by simp [hn0, hn1]
            rw [e1]
            clear e1 hem
            simp only [AV.agg]
            go_enter Try.func60, Try.ntmps60
            go_wp2
            go_ret
            refine ⟨rfl, ?_⟩
            repeat (with_reducible first | exact Below.refl _ _ | apply Below.drew | (refine Below.alloc ?_ (by first | omega | (simp; omega) | simp) _) | (refine Below.setCell ?_ (by first | omega | (simp; omega) | simp) _))
      · have k3 : (k == 3) = false := by rw [beq_eq_false_iff_ne]; exact h3
        rw [k1, k2, k3]
        simp only [Bool.false_and, Bool.or_false]
        clear h1 h2 h3 hem
        simp only [AV.agg]
        go_enter Try.func60, Try.ntmps60
        go_wp2
        go_ret
        refine ⟨rfl, ?_⟩
        repeat (with_reducible first | exact Below.refl _ _ | apply Below.drew | (refine Below.alloc ?_ (by first | omega | (simp; omega) | simp) _) | (refine Below.setCell ?_ (by first | omega | (simp; omega) | simp) _))
end Go.Proofs.Ytedcljahcedpjaa
/- The document's rows: Great, All, Same. -/
namespace Go.Proofs.Ytedcljahcedpjaa
open Go.RowKit Go.Afx

def greatB (l : List AV) : Bool := decide (30 < l.length) || l.any (fun v => decide (300 < v.s.size))
set_option maxRecDepth 100000 in
theorem great_row (w : World) (B : Nat → Prop) (v : Value) (l : List AV) (hl : Sl w B 3 v l.length (rowCells l)) :
    Calls Try.prog 22 #[v] w fun e w' => e = .returned (.bool (greatB l)) ∧ Below w.heap.size w w' := by
  obtain ⟨p, cap, rfl, hc1, hc2⟩ := hl.form
  have HL := Lib.hid hl
  clear hl
  by_cases h30 : 30 < l.length
  · have e1 : greatB l = true := by unfold greatB; simp [h30]
    rw [e1]
    have d : decide ((30 : Int) < l.length) = true := decide_eq_true (by omega)
    clear e1
    go_enter Try.func22, Try.ntmps22
    go_wp2
    go_ret
    exact ⟨rfl, Below.refl _ _⟩
  · have d : decide ((30 : Int) < l.length) = false := decide_eq_false (by omega)
    have hll : l.length ≤ 30 := by omega
    have HE : Hid (greatB l = l.any (fun v => decide (300 < v.s.size))) := by show _ = _; unfold greatB; simp; omega
    go_enter Try.func22, Try.ntmps22
    go_wp2
    go_loop [3] (fun i => ∃ k : Nat, i = .int .i64 k ∧ k ≤ l.length ∧ (l.take k).any (fun v => decide (300 < v.s.size)) = false) (fun i => l.length - (intOf i).toNat)
    case atStart => exact ⟨0, rfl, Nat.zero_le _, rfl⟩
    case round =>
      obtain ⟨k, rfl, hk, hr⟩ := hrel
      have HR := Lib.hid hr
      by_cases hka : k < l.length
      · obtain ⟨g, off, cap', hv, hg, e0, e1, e2⟩ := sl_av HL.out hka
        cases hv
        have HX : Hid (∀ b, decide (300 < l[k].s.size) = b → (l.take (k + 1)).any (fun v => decide (300 < v.s.size)) = b) := fun b hb => by
          rw [← List.take_append_getElem hka, List.any_append, hr]
          simp [← hb]
        have HY : Hid (decide (300 < l[k].s.size) = true → l.any (fun v => decide (300 < v.s.size)) = true) := fun h => by
          rw [List.any_eq_true]
          exact ⟨l[k], List.getElem_mem hka, h⟩
        clear hr e0 e1
        generalize l[k] = x at *
        by_cases hs : 300 < x.s.size
        · have d2 : decide ((300 : Int) < x.s.size) = true := decide_eq_true (by omega)
          go_wp2
          go_ret
          exact ⟨by rw [HE.out, HY.out (decide_eq_true hs)]; rfl, Below.refl _ _⟩
        · have d2 : decide ((300 : Int) < x.s.size) = false := decide_eq_false (by omega)
          go_wp2
          go_round
          case rel => exact ⟨k + 1, by go_num, by omega, HX.out false (decide_eq_false hs)⟩
          case measure => (simp [intOf]) <;> omega
      · obtain rfl : k = l.length := by omega
        rw [List.take_length] at hr
        have HR2 := Lib.hid hr
        clear hr HR
        go_wp2
        go_ret
        exact ⟨by rw [HE.out, HR2.out]; rfl, Below.refl _ _⟩

set_option maxRecDepth 100000 in
theorem all_row (w : World) (B : Nat → Prop) (v : Value) (l : List AV) (hl : Sl w B 3 v l.length (rowCells l)) :
    Calls Try.prog 45 #[v] w fun e w' => e = .returned (.bool (rightAll l)) ∧ Below w.heap.size w w' := by
  obtain ⟨p, cap, rfl, hc1, hc2⟩ := hl.form
  have HL := Lib.hid hl
  clear hl
  go_enter Try.func45, Try.ntmps45
  go_wp2
  go_loopw [3] (fun i wr => ∃ k : Nat, i = .int .i64 k ∧ k ≤ l.length ∧ (l.take k).all AV.right = true ∧ Below w.heap.size w wr) (fun i _ => l.length - (intOf i).toNat)
  case atStart => exact ⟨0, rfl, Nat.zero_le _, rfl, Below.refl _ _⟩
  case round =>
    obtain ⟨k, rfl, hk, hr, hb⟩ := hrel
    have HR := Lib.hid hr
    have HB := Lib.hid hb
    by_cases hka : k < l.length
    · obtain ⟨g, off, cap', hv, hg, e0, e1, e2⟩ := sl_av (HL.out.below hb) hka
      cases hv
      have HX : Hid (∀ b, l[k].right = b → (l.take (k + 1)).all AV.right = b) := fun b hb => by
        rw [← List.take_append_getElem hka, List.all_append, hr]
        simp [hb]
      have HY : Hid (l[k].right = false → rightAll l = false) := fun h => by
        unfold rightAll
        rw [List.all_eq_false]
        exact ⟨l[k], List.getElem_mem hka, by simp [h]⟩
      clear hr hb
      generalize l[k] = x at *
      have HW := Lib.hid (fun w => refright w x)
      have hag : x.agg = .agg #[.int .i64 x.kind, .int .i64 x.n, .string x.s] := rfl
      rw [hag] at HW
      clear hag
      cases hx : x.right
      · rw [hx] at HW
        have HF := Lib.hid (HY.out hx)
        clear HX HY hx
        go_wp2_with (go_at_call 60; refine (HW.out _).mono ?_; rintro e w2 ⟨rfl, hb2⟩)
        go_ret
        exact ⟨by rw [HF.out]; rfl, HB.out.trans (hb2.mono HB.out.size)⟩
      · rw [hx] at HW
        have HF := Lib.hid (HX.out true hx)
        clear HX HY hx
        go_wp2_with (go_at_call 60; refine (HW.out _).mono ?_; rintro e w2 ⟨rfl, hb2⟩)
        go_roundw
        case rel => exact ⟨k + 1, by go_num, by omega, HF.out, HB.out.trans (hb2.mono HB.out.size)⟩
        case measure => (simp [intOf]) <;> omega
    · obtain rfl : k = l.length := by omega
      rw [List.take_length] at hr
      have HR2 := Lib.hid hr
      clear hr HR
      go_wp2
      go_ret
      exact ⟨by unfold rightAll; rw [HR2.out]; rfl, HB.out⟩

end Go.Proofs.Ytedcljahcedpjaa
/- The document's rows: Great. -/
namespace Go.Proofs.Ytedcljahcedpjaa
open Go.RowKit Go.Afx

def greatRowsB (rows : List (List AV)) : Bool := decide (30 < rows.length) || rows.any greatB
end Go.Proofs.Ytedcljahcedpjaa
/- Whether rows fit columns: the document's Fits, the law's, the stream's. -/
namespace Go.Proofs.Ytedcljahcedpjaa
open Go.RowKit Go.Afx

def kindAt (row : List AV) (cols : List ColV) (i : Nat) : Bool := (row[i]?).map AV.kind == (cols[i]?).map ColV.kind
def kindsB (row : List AV) (cols : List ColV) : Bool := (List.range row.length).all (kindAt row cols)
def fitB (cols : List ColV) (row : List AV) : Bool := decide (row.length = cols.length) && rightAll row && kindsB row cols
def fitsB (cols : List ColV) (rows : List (List AV)) : Bool := rows.all (fitB cols) && decide (rows.length ≤ 32)
theorem kindAt_eq (row : List AV) (cols : List ColV) (k : Nat) (h1 : k < row.length) (h2 : k < cols.length) : kindAt row cols k = (row[k].kind == cols[k].kind) := by
  unfold kindAt
  rw [List.getElem?_eq_getElem h1, List.getElem?_eq_getElem h2]
  rw [Bool.eq_iff_iff]; simp
theorem kinds_next (row : List AV) (cols : List ColV) (k : Nat) (h1 : k < row.length) (ha : ((List.range row.length).take k).all (kindAt row cols) = true) (hk : kindAt row cols k = true) : ((List.range row.length).take (k + 1)).all (kindAt row cols) = true :=
  all_next _ _ k (by simpa using h1) ha (by simpa using hk)
theorem kinds_not (row : List AV) (cols : List ColV) (k : Nat) (h1 : k < row.length) (hk : kindAt row cols k = false) : kindsB row cols = false :=
  all_not _ _ k (by simpa using h1) (by simpa using hk)

set_option maxRecDepth 100000 in
set_option maxHeartbeats 1000000 in
theorem reffits_any (w : World) (B B' : Nat → Prop) (s : SchV) (v : Value) (row : List AV) (hc : Sl w B 2 s.colsV s.cols.length (colCells s.cols)) (hr : Sl w B' 3 v row.length (rowCells row)) (hio : ∃ p n c, s.idxV = .slice p n c) :
    Calls Try.prog 28 #[s.agg, v] w fun e w' => e = .returned (.bool (fitB s.cols row)) ∧ Below w.heap.size w w' := by
  obtain ⟨nm, cv, cl, iv, il, lim, prt, by_⟩ := s
  simp only at hc hio
  obtain ⟨pi, ni, ci, rfl⟩ := hio
  simp only [SchV.agg]
  obtain ⟨pc, cc, rfl, hcc1, hcc⟩ := hc.form
  obtain ⟨pr, cr, rfl, hcr1, hcr⟩ := hr.form
  have hal : Below w.heap.size w (w.alloc (.cells #[.string nm, .slice pc cl.length cc, .slice pi ni ci, .int .i64 lim, .int .i64 prt, .int .i64 by_] 72)) := (Below.refl _ _).alloc (Nat.le_refl _) _
  have HBK : Hid (Blk (w.alloc (.cells #[.string nm, .slice pc cl.length cc, .slice pi ni ci, .int .i64 lim, .int .i64 prt, .int .i64 by_] 72)) w.heap.size 72 [.string nm, .slice pc cl.length cc, .slice pi ni ci, .int .i64 lim, .int .i64 prt, .int .i64 by_]) := Blk.new w _ _
  have HC := Lib.hid (hc.below hal)
  have HR := Lib.hid (hr.below hal)
  have HALL := Lib.hid (all_row _ _ _ _ (hr.below hal))
  have HAL := Lib.hid hal
  have HE : Hid (fitB cl row = (decide (row.length = cl.length) && rightAll row && kindsB row cl)) := rfl
  generalize fitB cl row = out at *
  clear hc hr hal
  by_cases hlen : row.length = cl.length
  · have hli : (row.length : Int) = (cl.length : Int) := by omega
    have d1 : ((row.length : Int) != (cl.length : Int)) = false := by rw [hli]; simp
    rw [decide_eq_true hlen, Bool.true_and] at HE
    have HLEN := Lib.hid hlen
    clear hlen hli
    generalize rightAll row = ra at *
    cases ra
    · go_enter Try.func28, Try.ntmps28
      go_wp2_with (go_at_call 45; refine HALL.out.mono ?_; clear HALL; rintro e w2 ⟨rfl, hb2⟩)
      go_ret
      exact ⟨by rw [HE.out]; rfl, HAL.out.trans (hb2.mono HAL.out.size)⟩
    · go_enter Try.func28, Try.ntmps28
      go_wp2_with (go_at_call 45; refine HALL.out.mono ?_; clear HALL; rintro e w2 ⟨rfl, hb2⟩; have HB2 := Lib.hid hb2; clear hb2)
      clear d1
      generalize hw1 : w.alloc (.cells #[.string nm, .slice pc cl.length cc, .slice pi ni ci, .int .i64 lim, .int .i64 prt, .int .i64 by_] 72) = w1 at *
      clear hw1
      go_loopw [5] (fun i wr => ∃ k : Nat, i = .int .i64 k ∧ k ≤ row.length ∧ ((List.range row.length).take k).all (kindAt row cl) = true ∧ Below w1.heap.size w1 wr) (fun i _ => row.length - (intOf i).toNat)
      case atStart => exact ⟨0, rfl, Nat.zero_le _, rfl, HB2.out⟩
      case round =>
        obtain ⟨k, rfl, hk, ha, hb⟩ := hrel
        have HB := Lib.hid hb
        have HA := Lib.hid ha
        obtain ⟨x0, x1, x2, x3, x4, x5⟩ := sch_cells (HBK.out.below hb)
        clear ha x0 x2 x3 x4 x5
        by_cases hka : k < row.length
        · have hkc : k < cl.length := by rw [← HLEN.out]; exact hka
          obtain ⟨g1, off1, cap2, hv, hg1, e0, e1, e2⟩ := sl_av (HR.out.below hb) hka
          cases hv
          obtain ⟨g2, off2, cap3, hv2, hg2, f0, f1⟩ := sl_col (HC.out.below hb) hkc
          cases hv2
          have HX := Lib.hid (kinds_next row cl k hka HA.out)
          have HY := Lib.hid (kinds_not row cl k hka)
          have hka2 := kindAt_eq row cl k hka hkc
          rw [hka2] at HX HY
          clear hb hka2 e1 e2 f0
          generalize row[k] = x at *
          generalize cl[k] = c at *
          by_cases hxc : x.kind = c.kind
          · have HF := Lib.hid (HX.out (by rw [hxc]; simp))
            have d2 : (x.kind != c.kind) = false := by rw [hxc]; simp
            clear HX HY
            rw [hxc] at e0
            clear hxc d2
            go_wp2
            refine wp_region_lit_plan [] [(0, 0), (1, 0), (2, 0), (3, 0), (5, 0), (7, 0), (4, 1), (6, 1), (8, 0), (9, 0), (10, 1), (11, 0)] (fun _ => False) (by kernel_rfl) (by kernel_rfl) (fun c a d v w h => by cases d <;> exact h) ?_
            go_wp2_with (first
              | (refine plan_pure (v := _) (by rfl) (by rfl) (by rfl) (by intro _; go_simp; with_reducible rfl) ?_; simp only [List.setIfInBounds_toArray, List.set_cons_zero, List.set_cons_succ]; try go_bits) | (refine plan_read (v := _) (by rfl) (by rfl) (by rfl) (by go_simp; with_reducible rfl) ?_; simp only [List.setIfInBounds_toArray, List.set_cons_zero, List.set_cons_succ]; try go_bits) | (refine plan_readB (v := _) (by rfl) (by rfl) (by rfl) (by intro _ hag; unfold Agree at hag; go_simp; with_reducible rfl) ?_; simp only [List.setIfInBounds_toArray, List.set_cons_zero, List.set_cons_succ]; try go_bits) | (refine plan_skip0 (by rfl) (by rfl) (by rfl) ?_; simp only [List.setIfInBounds_toArray, List.set_cons_zero, List.set_cons_succ]; try go_bits) | (refine plan_skip1 (by rfl) (by rfl) (by rfl) ?_; simp only [List.setIfInBounds_toArray, List.set_cons_zero, List.set_cons_succ]; try go_bits) | (refine plan_skip2 (by rfl) (by rfl) (by rfl) ?_; simp only [List.setIfInBounds_toArray, List.set_cons_zero, List.set_cons_succ]; try go_bits) | (refine plan_skip4 (by rfl) (by rfl) (by rfl) ?_; simp only [List.setIfInBounds_toArray, List.set_cons_zero, List.set_cons_succ]; try go_bits) | (refine plan_any (by rfl) ?_) | (refine plan_keep (by rfl) ?_) | (refine plan_nil ?_) | (with_reducible refine And.intro (by first | assumption | exact Agree.refl _ _ | exact agree_drew _ _ | exact agree_alloc _ (by intro k hk; subst hk; first | omega | (simp; omega))) ?_) | (unfold Act.put; simp only [List.setIfInBounds_toArray, List.set_cons_zero, List.set_cons_succ]))
            exact ⟨⟨k + 1, by go_num, by omega, HF.out, HB.out.drew⟩, by (simp [intOf]) <;> omega⟩
          · have HF := Lib.hid (HY.out (beq_eq_false_iff_ne.2 hxc))
            have d2 : (x.kind != c.kind) = true := bne_iff_ne.2 hxc
            have d3 : (x.kind == c.kind) = false := beq_eq_false_iff_ne.2 hxc
            clear HX HY hxc
            go_wp2
            refine wp_region_lit_plan [] [(0, 0), (1, 0), (2, 0), (3, 0), (5, 0), (7, 0), (4, 1), (6, 1), (8, 0), (9, 0), (10, 1), (11, 0)] (fun _ => False) (by kernel_rfl) (by kernel_rfl) (fun c a d v w h => by cases d <;> exact h) ?_
            go_wp2_with (first
              | (refine plan_pure (v := _) (by rfl) (by rfl) (by rfl) (by intro _; go_simp; with_reducible rfl) ?_; simp only [List.setIfInBounds_toArray, List.set_cons_zero, List.set_cons_succ]; try go_bits) | (refine plan_read (v := _) (by rfl) (by rfl) (by rfl) (by go_simp; with_reducible rfl) ?_; simp only [List.setIfInBounds_toArray, List.set_cons_zero, List.set_cons_succ]; try go_bits) | (refine plan_readB (v := _) (by rfl) (by rfl) (by rfl) (by intro _ hag; unfold Agree at hag; go_simp; with_reducible rfl) ?_; simp only [List.setIfInBounds_toArray, List.set_cons_zero, List.set_cons_succ]; try go_bits) | (refine plan_skip0 (by rfl) (by rfl) (by rfl) ?_; simp only [List.setIfInBounds_toArray, List.set_cons_zero, List.set_cons_succ]; try go_bits) | (refine plan_skip1 (by rfl) (by rfl) (by rfl) ?_; simp only [List.setIfInBounds_toArray, List.set_cons_zero, List.set_cons_succ]; try go_bits) | (refine plan_skip2 (by rfl) (by rfl) (by rfl) ?_; simp only [List.setIfInBounds_toArray, List.set_cons_zero, List.set_cons_succ]; try go_bits) | (refine plan_skip4 (by rfl) (by rfl) (by rfl) ?_; simp only [List.setIfInBounds_toArray, List.set_cons_zero, List.set_cons_succ]; try go_bits) | (refine plan_any (by rfl) ?_) | (refine plan_keep (by rfl) ?_) | (refine plan_nil ?_) | (with_reducible refine And.intro (by first | assumption | exact Agree.refl _ _ | exact agree_drew _ _ | exact agree_alloc _ (by intro k hk; subst hk; first | omega | (simp; omega))) ?_) | (unfold Act.put; simp only [List.setIfInBounds_toArray, List.set_cons_zero, List.set_cons_succ]))
            go_ret
            exact ⟨by rw [HE.out, HF.out]; rfl, HAL.out.trans (HB.out.drew.mono HAL.out.size)⟩
        · obtain rfl : k = row.length := by omega
          have e5 : out = true := by
            have := HA.out
            rw [HE.out]
            unfold kindsB
            have hl : (List.range row.length).take row.length = List.range row.length := by rw [List.take_of_length_le (by simp)]
            rw [hl] at this
            rw [this]; rfl
          have E5 := Lib.hid e5
          clear hb e5
          go_wp2
          go_ret
          exact ⟨by rw [E5.out]; rfl, HAL.out.trans (HB.out.mono HAL.out.size)⟩
  · have d1 : ((row.length : Int) != (cl.length : Int)) = true := bne_iff_ne.2 (by omega)
    have d2 : ((row.length : Int) == (cl.length : Int)) = false := beq_eq_false_iff_ne.2 (by omega)
    rw [decide_eq_false hlen] at HE
    go_enter Try.func28, Try.ntmps28
    go_wp2
    go_ret
    exact ⟨by rw [HE.out]; rfl, HAL.out⟩
end Go.Proofs.Ytedcljahcedpjaa
/- Whether rows fit columns: the law's fits; the stream's fits, Fits. -/
namespace Go.Proofs.Ytedcljahcedpjaa
open Go.RowKit Go.Afx

set_option maxRecDepth 100000 in
set_option maxHeartbeats 1000000 in
theorem colfits_any (w : World) (B B' : Nat → Prop) (nm : ByteArray) (cv v : Value) (cl : List ColV) (rows : List RowV) (hc : Sl w B 2 cv cl.length (colCells cl)) (hr : RowsAt w B' v rows) (hrl : ∀ r ∈ rows, r.l.length ≤ 1000000) :
    Calls Try.prog 46 #[.agg #[.string nm, cv], v] w fun e w' => e = .returned (.bool (fitsB cl (rows.map RowV.l))) ∧ Below w.heap.size w w' := by
  obtain ⟨pc, cc, rfl, hcc1, hcc⟩ := hc.form
  obtain ⟨pr, cr, rfl, hcr1, hcr⟩ := hr.1.form
  have hal : Below w.heap.size w (w.alloc (.cells #[.string nm, .slice pc cl.length cc] 106)) := (Below.refl _ _).alloc (Nat.le_refl _) _
  have HBK : Hid (Blk (w.alloc (.cells #[.string nm, .slice pc cl.length cc] 106)) w.heap.size 106 [.string nm, .slice pc cl.length cc]) := Blk.new w _ _
  have HC := Lib.hid (hc.below hal)
  have HR := Lib.hid (hr.below hal)
  have HRL := Lib.hid hrl
  have HAL := Lib.hid hal
  have HE : Hid (fitsB cl (rows.map RowV.l) = (rows.all (fun r => fitB cl r.l) && decide ((rows.length : Int) ≤ 32))) := by
    show _ = _
    unfold fitsB
    rw [List.all_map, List.length_map]
    congr 1
    rw [Bool.eq_iff_iff]; simp; omega
  generalize fitsB cl (rows.map RowV.l) = out at *
  clear hc hr hal hrl
  go_enter Try.func46, Try.ntmps46
  go_wp2
  generalize hw1 : w.alloc (.cells #[.string nm, .slice pc cl.length cc] 106) = w1 at *
  clear hw1
  go_loopw [11] (fun i wr => ∃ k : Nat, i = .int .i64 k ∧ k ≤ rows.length ∧ (rows.take k).all (fun r => fitB cl r.l) = true ∧ Below w1.heap.size w1 wr) (fun i _ => rows.length - (intOf i).toNat)
  case atStart => exact ⟨0, rfl, Nat.zero_le _, rfl, Below.refl _ _⟩
  case round =>
    obtain ⟨k, rfl, hk, ha, hb⟩ := hrel
    obtain ⟨wo, rfl⟩ : ∃ wo : World, wo = wr := ⟨_, rfl⟩
    have HB := Lib.hid hb
    have HA := Lib.hid ha
    have hbk := HBK.out.below hb
    have b1 : wo.cell? ⟨w.heap.size, 1, none⟩ = some (.slice pc cl.length cc) := hbk.cell 1
    clear ha hbk
    by_cases hka : k < rows.length
    · obtain ⟨g, off, cap', hv, hck⟩ := (HR.out.below hb).at hka
      cases hv
      have hrow := (HR.out.below hb).2 rows[k] (List.getElem_mem hka)
      have hrowL := HRL.out rows[k] (List.getElem_mem hka)
      have hrow1 := HR.out.2 rows[k] (List.getElem_mem hka)
      have HX := Lib.hid (all_next (fun r : RowV => fitB cl r.l) rows k hka HA.out)
      have HY := Lib.hid (all_not (fun r : RowV => fitB cl r.l) rows k hka)
      generalize rows[k] = r at *
      obtain ⟨rv, rl⟩ := r
      simp only at hck hrow HX HY hrowL hrow1
      have HRT := Lib.hid (right_any wo _ rv rl hrow hrowL)
      have HROW := Lib.hid hrow1
      obtain ⟨pv, cv2, rfl, hpv1, hpv2⟩ := hrow.form
      have HFB : Hid (fitB cl rl = (decide (rl.length = cl.length) && rightAll rl && kindsB rl cl)) := rfl
      generalize fitB cl rl = fb at *
      clear hb hrow hrow1 hrowL
      by_cases hlen : rl.length = cl.length
      · have hli : (rl.length : Int) = (cl.length : Int) := by omega
        have d1 : ((rl.length : Int) != (cl.length : Int)) = false := by rw [hli]; simp
        rw [decide_eq_true hlen, Bool.true_and] at HFB
        have HLEN := Lib.hid hlen
        clear hlen hli
        generalize rightAll rl = ra at *
        cases ra
        · have HZ := Lib.hid (HY.out HFB.out)
          clear HX HY
          go_wp2_with (go_at_call 61; refine HRT.out.mono ?_; clear HRT; rintro e w2 ⟨rfl, hb2⟩)
          go_ret
          have h1 := HB.out.trans (hb2.mono HB.out.size)
          exact ⟨by rw [HE.out, HZ.out]; rfl, HAL.out.trans (h1.mono HAL.out.size)⟩
        · rw [Bool.true_and] at HFB
          go_wp2_with (go_at_call 61; refine HRT.out.mono ?_; clear HRT; rintro e w2 ⟨rfl, hb2⟩; have HB2 := Lib.hid (HB.out.trans (hb2.mono HB.out.size)); clear hb2)
          clear d1 b1
          go_loopw [29] (fun i wr => ∃ j : Nat, i = .int .i64 j ∧ j ≤ rl.length ∧ ((List.range rl.length).take j).all (kindAt rl cl) = true ∧ Below w1.heap.size w1 wr) (fun i _ => rl.length - (intOf i).toNat)
          case atStart => exact ⟨0, rfl, Nat.zero_le _, rfl, HB2.out⟩
          case round =>
            obtain ⟨j, rfl, hj, ha, hb⟩ := hrel
            have HBJ := Lib.hid hb
            have HAJ := Lib.hid ha
            have hbk := HBK.out.below hb
            have b1 : wr.cell? ⟨w.heap.size, 1, none⟩ = some (.slice pc cl.length cc) := hbk.cell 1
            have hbkl := hbk.lt
            clear ha hbk
            by_cases hja : j < rl.length
            · have hjc : j < cl.length := by rw [← HLEN.out]; exact hja
              obtain ⟨g1, off1, cap2, hv, hg1, e0, e1, e2⟩ := sl_av (HROW.out.below hb) hja
              cases hv
              obtain ⟨g2, off2, cap3, hv2, hg2, f0, f1⟩ := sl_col (HC.out.below hb) hjc
              cases hv2
              have HX2 := Lib.hid (kinds_next rl cl j hja HAJ.out)
              have HY2 := Lib.hid (kinds_not rl cl j hja)
              have hka2 := kindAt_eq rl cl j hja hjc
              rw [hka2] at HX2 HY2
              clear hb hka2 f0
              generalize rl[j] = x at *
              generalize cl[j] = c at *
              obtain ⟨xk, xn, xs⟩ := x
              obtain ⟨cn, ck⟩ := c
              simp only at e0 e1 e2 f1 HX2 HY2
              have hal2 : Below wr.heap.size wr (wr.alloc (.cells #[.int .i64 xk, .int .i64 xn, .string xs] 86)) := (Below.refl _ _).alloc (Nat.le_refl _) _
              have HBJ2 := Lib.hid (HBJ.out.trans (hal2.mono HBJ.out.size))
              clear hal2
              by_cases hxc : xk = ck
              · have HF := Lib.hid (HX2.out (by rw [hxc]; simp))
                subst hxc
                clear HX2 HY2
                go_wp2
                refine wp_region_lit_plan [] [(0, 0), (2, 0), (3, 0), (5, 0), (1, 1), (4, 1), (6, 0), (7, 0), (8, 1), (9, 0)] (fun _ => False) (by kernel_rfl) (by kernel_rfl) (fun c a d v w h => by cases d <;> exact h) ?_
                go_wp2_with (first
                  | (refine plan_pure (v := _) (by rfl) (by rfl) (by rfl) (by intro _; go_simp; with_reducible rfl) ?_; simp only [List.setIfInBounds_toArray, List.set_cons_zero, List.set_cons_succ]; try go_bits) | (refine plan_read (v := _) (by rfl) (by rfl) (by rfl) (by go_simp; with_reducible rfl) ?_; simp only [List.setIfInBounds_toArray, List.set_cons_zero, List.set_cons_succ]; try go_bits) | (refine plan_readB (v := _) (by rfl) (by rfl) (by rfl) (by intro _ hag; unfold Agree at hag; go_simp; with_reducible rfl) ?_; simp only [List.setIfInBounds_toArray, List.set_cons_zero, List.set_cons_succ]; try go_bits) | (refine plan_skip0 (by rfl) (by rfl) (by rfl) ?_; simp only [List.setIfInBounds_toArray, List.set_cons_zero, List.set_cons_succ]; try go_bits) | (refine plan_skip1 (by rfl) (by rfl) (by rfl) ?_; simp only [List.setIfInBounds_toArray, List.set_cons_zero, List.set_cons_succ]; try go_bits) | (refine plan_skip2 (by rfl) (by rfl) (by rfl) ?_; simp only [List.setIfInBounds_toArray, List.set_cons_zero, List.set_cons_succ]; try go_bits) | (refine plan_skip4 (by rfl) (by rfl) (by rfl) ?_; simp only [List.setIfInBounds_toArray, List.set_cons_zero, List.set_cons_succ]; try go_bits) | (refine plan_any (by rfl) ?_) | (refine plan_keep (by rfl) ?_) | (refine plan_nil ?_) | (with_reducible refine And.intro (by first | assumption | exact Agree.refl _ _ | exact agree_drew _ _ | exact agree_alloc _ (by intro k hk; subst hk; first | omega | (simp; omega))) ?_) | (unfold Act.put; simp only [List.setIfInBounds_toArray, List.set_cons_zero, List.set_cons_succ]))
                exact ⟨⟨j + 1, by go_num, by omega, HF.out, HBJ2.out.drew⟩, by (simp [intOf]) <;> omega⟩
              · have HZ := Lib.hid (HY.out (by rw [HFB.out, HY2.out (beq_eq_false_iff_ne.2 hxc)]))
                have d2 : (xk != ck) = true := bne_iff_ne.2 hxc
                have d3 : (xk == ck) = false := beq_eq_false_iff_ne.2 hxc
                clear HX2 HY2 hxc
                go_wp2
                refine wp_region_lit_plan [] [(0, 0), (2, 0), (3, 0), (5, 0), (1, 1), (4, 1), (6, 0), (7, 0), (8, 1), (9, 0)] (fun _ => False) (by kernel_rfl) (by kernel_rfl) (fun c a d v w h => by cases d <;> exact h) ?_
                go_wp2_with (first
                  | (refine plan_pure (v := _) (by rfl) (by rfl) (by rfl) (by intro _; go_simp; with_reducible rfl) ?_; simp only [List.setIfInBounds_toArray, List.set_cons_zero, List.set_cons_succ]; try go_bits) | (refine plan_read (v := _) (by rfl) (by rfl) (by rfl) (by go_simp; with_reducible rfl) ?_; simp only [List.setIfInBounds_toArray, List.set_cons_zero, List.set_cons_succ]; try go_bits) | (refine plan_readB (v := _) (by rfl) (by rfl) (by rfl) (by intro _ hag; unfold Agree at hag; go_simp; with_reducible rfl) ?_; simp only [List.setIfInBounds_toArray, List.set_cons_zero, List.set_cons_succ]; try go_bits) | (refine plan_skip0 (by rfl) (by rfl) (by rfl) ?_; simp only [List.setIfInBounds_toArray, List.set_cons_zero, List.set_cons_succ]; try go_bits) | (refine plan_skip1 (by rfl) (by rfl) (by rfl) ?_; simp only [List.setIfInBounds_toArray, List.set_cons_zero, List.set_cons_succ]; try go_bits) | (refine plan_skip2 (by rfl) (by rfl) (by rfl) ?_; simp only [List.setIfInBounds_toArray, List.set_cons_zero, List.set_cons_succ]; try go_bits) | (refine plan_skip4 (by rfl) (by rfl) (by rfl) ?_; simp only [List.setIfInBounds_toArray, List.set_cons_zero, List.set_cons_succ]; try go_bits) | (refine plan_any (by rfl) ?_) | (refine plan_keep (by rfl) ?_) | (refine plan_nil ?_) | (with_reducible refine And.intro (by first | assumption | exact Agree.refl _ _ | exact agree_drew _ _ | exact agree_alloc _ (by intro k hk; subst hk; first | omega | (simp; omega))) ?_) | (unfold Act.put; simp only [List.setIfInBounds_toArray, List.set_cons_zero, List.set_cons_succ]))
                go_ret
                exact ⟨by rw [HE.out, HZ.out]; rfl, HAL.out.trans (HBJ2.out.drew.mono HAL.out.size)⟩
            · obtain rfl : j = rl.length := by omega
              have e5 : fb = true := by
                have := HAJ.out
                rw [HFB.out]
                unfold kindsB
                have hl : (List.range rl.length).take rl.length = List.range rl.length := by rw [List.take_of_length_le (by simp)]
                rw [hl] at this
                exact this
              have HZ := Lib.hid (HX.out e5)
              clear hb e5
              go_wp2
              go_roundw
              case rel => exact ⟨k + 1, by go_num, by omega, HZ.out, HBJ.out⟩
              case measure => (simp [intOf]) <;> omega
      · have d1 : ((rl.length : Int) != (cl.length : Int)) = true := bne_iff_ne.2 (by omega)
        have d2 : ((rl.length : Int) == (cl.length : Int)) = false := beq_eq_false_iff_ne.2 (by omega)
        have HZ := Lib.hid (HY.out (by rw [HFB.out, decide_eq_false hlen]; rfl))
        clear HX HY
        go_wp2
        go_ret
        exact ⟨by rw [HE.out, HZ.out]; rfl, HAL.out.trans (HB.out.mono HAL.out.size)⟩
    · obtain rfl : k = rows.length := by omega
      have e5 : out = decide ((rows.length : Int) ≤ 32) := by
        have := HA.out
        rw [List.take_length] at this
        rw [HE.out, this, Bool.true_and]
      have E5 := Lib.hid e5
      clear hb e5
      go_wp2
      go_ret
      exact ⟨by rw [E5.out]; rfl, HAL.out.trans (HB.out.mono HAL.out.size)⟩

theorem stfits_any (w : World) (B B' : Nat → Prop) (cv v : Value) (cl : List ColV) (rows : List RowV) (hc : Sl w B 2 cv cl.length (colCells cl)) (hr : RowsAt w B' v rows) (hrl : ∀ r ∈ rows, r.l.length ≤ 1000000) :
    Calls Try.prog 29 #[cv, v] w fun e w' => e = .returned (.bool (fitsB cl (rows.map RowV.l))) ∧ Below w.heap.size w w' := by
  have HF := Lib.hid (colfits_any w B B' ⟨#[]⟩ cv v cl rows hc hr hrl)
  obtain ⟨pc, cc, rfl, hcc1, hcc⟩ := hc.form
  obtain ⟨pr, cr, rfl, hcr1, hcr⟩ := hr.1.form
  clear hc hr hrl
  generalize fitsB cl (rows.map RowV.l) = out at *
  go_enter Try.func29, Try.ntmps29
  go_wp2_with (go_at_call 46; refine HF.out.mono ?_; clear HF; rintro e w2 ⟨rfl, hb2⟩)
  go_ret
  exact ⟨rfl, hb2⟩
end Go.Proofs.Ytedcljahcedpjaa
/- Streams: whether one is right; Clone of columns; open; NewBorder. -/
namespace Go.Proofs.Ytedcljahcedpjaa
open Go.RowKit Go.Afx

def rightC (nm : ByteArray) (cl : List ColV) : Bool := rightS ⟨nm, undef, cl, undef, [⟨undef, [0], true⟩], 1, 1, 0⟩
theorem rightC_eq (nm : ByteArray) (cl : List ColV) (x y z : Value) : rightS ⟨nm, x, cl, y, [⟨z, [0], true⟩], 1, 1, 0⟩ = rightC nm cl := rfl
theorem elemCol : Elem Try.prog 24 58 2 24 (.agg #[.string ⟨#[]⟩, .int .i64 0]) :=
  ⟨Try.underlying24, by kernel_rfl, rfl, by omega, by intro u hu; simp [Value.cells] at hu; rcases hu with rfl | rfl <;> rfl⟩
theorem Sl.anyw {w : World} {B : Nat → Prop} {sz : Nat} {v : Value} {n : Nat} {cs : List Value} (h : Sl w B sz v n cs) : Sl w (fun _ => True) sz v n cs := h.mono (Nat.le_refl _) (fun _ _ _ => rfl) (fun _ _ _ => trivial)

/-- The one index that a stream's schema bears: its two blocks. -/
theorem one_idx (w : World) : IdxAt ((w.alloc (.cells #[.int .i64 0] 3)).alloc (.cells #[.slice (some ⟨w.heap.size, 0, none⟩) 1 1, .bool true] 154)) (fun _ => True) (.slice (some ⟨w.heap.size + 1, 0, none⟩) 1 1) [⟨.slice (some ⟨w.heap.size, 0, none⟩) 1 1, [0], true⟩] := by
  have h1 : (w.alloc (.cells #[.int .i64 0] 3)).heap.size = w.heap.size + 1 := by simp
  refine ⟨?_, fun x hx => ?_⟩
  · have := (Own.made (w.alloc (.cells #[.int .i64 0] 3)) 154 2 (idxCells [⟨.slice (some ⟨w.heap.size, 0, none⟩) 1 1, [0], true⟩]) [] 1 1 rfl (by intro u hu; simp [idxCells, IdxV.cells] at hu; rcases hu with rfl | rfl <;> rfl) (Nat.le_refl _) (by simp [maxLen]) (by simp [idxCells, IdxV.cells])).sl (B := fun _ => True) (fun _ _ => trivial)
    rw [h1] at this
    exact this
  · rw [List.mem_singleton.1 hx]
    have h := (Own.made w 3 1 (ints [0]) [] 1 1 rfl (Ones.nil.cons rfl) (Nat.le_refl _) (by simp [maxLen]) (by simp [ints])).sl (B := fun _ => True) (fun _ _ => trivial)
    exact h.alloc _

@[go_sem] theorem eqlNilCol (w : World) (a : Option Addr) (n c : Nat) : (binOp .eql 24 (.slice a n c) (.slice none 0 0)).run Try.prog w = .ok (.bool a.isNone) w := Lib.run_eql_slice_nil w _ _ a n c 0 0 Try.underlying24
set_option maxRecDepth 100000 in
theorem clone_col (w : World) (B : Nat → Prop) (v : Value) (n : Nat) (cs : List Value) (h : Sl w B 2 v n cs) (hn : n ≤ 1000000000) :
    Calls Try.prog 25 #[v] w fun e w' => ∃ v', e = .returned v' ∧ Own w' 58 2 v' n cs ∧ Below w.heap.size w w' ∧ (∀ k, v'.ownBlock = some k → w.heap.size ≤ k) := by
  obtain ⟨p, cap, rfl, _, _⟩ := h.form
  cases p with
  | none =>
    have hn0 : n = 0 := by
      rcases h.2.2 with ⟨_, _, _, h0, _⟩ | ⟨_, _, _, h0, _⟩
      · exact h0
      · cases h0
    subst hn0
    have hc : cs = [] := List.eq_nil_of_length_eq_zero (by simpa using h.1)
    subst hc
    go_enter Try.func25, Try.ntmps25
    go_wp2
    go_ret
    exact ⟨_, rfl, Own.nil _ _ _, Below.refl _ _, by simp [Value.ownBlock]⟩
  | some a =>
    have hs := h.alloc (.cells #[] 58)
    have ho : Own (w.alloc (.cells #[] 58)) 58 2 (.slice (some ⟨w.heap.size, 0, none⟩) 0 0) 0 [] := Own.made w 58 2 [] [] 0 0 rfl Ones.nil (Nat.le_refl _) (by simp [maxLen]) (by simp)
    clear h
    go_enter Try.func25, Try.ntmps25
    go_wp2_with (at_builtin; refine wpList_app rfl _ _ rfl elemCol (by rfl) ho (by rfl) hs (by unfold maxLen; omega) (by omega) ?_; intro v' w' h1 h2 h3 _ _)
    go_ret
    have hb : Below w.heap.size w w' := (((Below.refl w.heap.size w).alloc (Nat.le_refl _) _).trans (h2.below (B := w.heap.size) (by simp) (fun i hi => by have : w.heap.size = i := (by simpa [Value.ownBlock] using hi); omega)))
    refine ⟨v', rfl, by simpa using h1, hb, fun k hk => ?_⟩
    rw [hk] at h3
    have h7 : k = w.heap.size ∨ k = w.heap.size + 1 := by simpa [Value.ownBlock] using h3
    omega

/-- What open leaves: the name, and the columns in memory of their own. -/
def OpenOut (w : World) (nm : ByteArray) (cl : List ColV) (e : Ending) (w' : World) : Prop :=
  (rightC nm cl = false ∧ e = .returned (.tuple #[.agg #[.string ⟨#[]⟩, .slice none 0 0], .int .i64 1]) ∧ Below w.heap.size w w') ∨
  (rightC nm cl = true ∧ ∃ v, e = .returned (.tuple #[.agg #[.string nm, v], .int .i64 0]) ∧ Sl w' (fun k => w.heap.size ≤ k) 2 v cl.length (colCells cl) ∧ Below w.heap.size w w')
end Go.Proofs.Ytedcljahcedpjaa
/- Streams: open. -/
namespace Go.Proofs.Ytedcljahcedpjaa
open Go.RowKit Go.Afx

theorem own_form3 {w : World} {e : TypeId} {sz : Nat} {v : Value} {n : Nat} {cs : List Value} (h : Own w e sz v n cs) : ∃ p cap, v = .slice p n cap ∧ n ≤ cap ∧ cap ≤ 9223372036854775807 :=
  (h.sl (B := fun _ => True) fun _ _ => trivial).form
theorem agree_below {w w' : World} {n : Nat} (h : Below w.heap.size w w') (hn : n < w.heap.size) : Agree (fun k => k = n) w w' := fun b o hb => by
  subst hb
  exact h.cell (p := ⟨b, o, none⟩) hn

end Go.Proofs.Ytedcljahcedpjaa
/- Borders: NewBorder, Name, Mark, Set, Check, Take. -/
namespace Go.Proofs.Ytedcljahcedpjaa
open Go.RowKit Go.Afx

/-- What Check answers. -/
def checkE (fit : Bool) (id mark : Int) : Int := if fit = false then 13 else if id < 1 then 1 else if id ≤ mark then 9 else if mark + 1 < id then 10 else 0
end Go.Proofs.Ytedcljahcedpjaa
/- The document's schemas: Great. -/
namespace Go.Proofs.Ytedcljahcedpjaa
open Go.RowKit Go.Afx

def colBig (c : ColV) : Bool := decide (100 < c.name.size)
def idxBig (x : IdxV) : Bool := decide (12 < x.l.length)
def greatS (nm : ByteArray) (cl : List ColV) (il : List IdxV) : Bool := decide (12 < cl.length) || decide (8 < il.length) || decide (100 < nm.size) || cl.any colBig || il.any idxBig
theorem greatS_no {nm : ByteArray} {cl : List ColV} {il : List IdxV} (h : greatS nm cl il = false) : cl.length ≤ 12 ∧ il.length ≤ 8 ∧ nm.size ≤ 100 ∧ (∀ c ∈ cl, c.name.size ≤ 100) ∧ ∀ x ∈ il, x.l.length ≤ 12 := by
  unfold greatS at h
  simp only [Bool.or_eq_false_iff, decide_eq_false_iff_not, List.any_eq_false] at h
  obtain ⟨⟨⟨⟨h1, h2⟩, h3⟩, h4⟩, h5⟩ := h
  refine ⟨by omega, by omega, by omega, fun c hc => ?_, fun x hx => ?_⟩
  · have := h4 c hc; unfold colBig at this; simpa using this
  · have := h5 x hx; unfold idxBig at this; simpa using this
theorem any_next {α : Type} (f : α → Bool) (l : List α) (k : Nat) (h : k < l.length) (ha : (l.take k).any f = false) : f l[k] = false → (l.take (k + 1)).any f = false := fun hf => by
  rw [← List.take_append_getElem h, List.any_append, ha]
  simp [hf]
theorem any_yes {α : Type} (f : α → Bool) (l : List α) (k : Nat) (h : k < l.length) : f l[k] = true → l.any f = true := fun hf => by
  rw [List.any_eq_true]
  exact ⟨l[k], List.getElem_mem h, hf⟩

end Go.Proofs.Ytedcljahcedpjaa
/- Batches: what is great. -/
namespace Go.Proofs.Ytedcljahcedpjaa
open Go.RowKit Go.Afx

structure BatV where
  id : Int
  v : Value
  rows : List RowV
def BatV.cells (b : BatV) : List Value := [.int .i64 b.id, b.v]
def batCells (l : List BatV) : List Value := (l.map BatV.cells).flatten
def BatAt (w : World) (B : Nat → Prop) (v : Value) (l : List BatV) : Prop := Sl w B 2 v l.length (batCells l) ∧ ∀ b ∈ l, RowsAt w B b.v b.rows
theorem BatAt.below {w w' : World} {B : Nat → Prop} {v : Value} {l : List BatV} (h : BatAt w B v l) (hb : Below w.heap.size w w') : BatAt w' B v l := ⟨h.1.below hb, fun x hx => (h.2 x hx).below hb⟩
theorem sl_bat {w : World} {B : Nat → Prop} {v : Value} {l : List BatV} (h : Sl w B 2 v l.length (batCells l)) {k : Nat} (hk : k < l.length) :
    ∃ g off cap, v = .slice (some ⟨g, off, none⟩) l.length cap ∧ g < w.heap.size ∧ w.cell? ⟨g, off + k * 2, none⟩ = some (.int .i64 l[k].id) ∧ w.cell? ⟨g, off + k * 2 + 1, none⟩ = some l[k].v :=
  sl_two (f := BatV.cells) (fun _ => rfl) h hk

def batBig (b : BatV) : Bool := decide (40 < b.rows.length) || b.rows.any (fun r => greatB r.l)
def greatL (nm : ByteArray) (cl : List ColV) (l : List BatV) : Bool := greatS nm cl [] || decide (40 < l.length) || l.any batBig
theorem greatL_no {nm : ByteArray} {cl : List ColV} {l : List BatV} (h : greatL nm cl l = false) : greatS nm cl [] = false ∧ l.length ≤ 40 ∧ ∀ b ∈ l, b.rows.length ≤ 40 ∧ ∀ r ∈ b.rows, greatB r.l = false := by
  unfold greatL at h
  simp only [Bool.or_eq_false_iff, decide_eq_false_iff_not, List.any_eq_false] at h
  refine ⟨h.1.1, by omega, fun b hb => ?_⟩
  have := h.2 b hb
  unfold batBig at this
  simp only [Bool.not_eq_true, Bool.or_eq_false_iff, decide_eq_false_iff_not, List.any_eq_false] at this
  exact ⟨by omega, fun r hr => this.2 r hr⟩

end Go.Proofs.Ytedcljahcedpjaa
/- How numbers, texts, values and rows that came in are read. -/
namespace Go.Proofs.Ytedcljahcedpjaa
open Go.RowKit Go.Afx

theorem wf_fit64 {n : Int} (h : (Lit.int .i64 n).wf = true) : fit64 n := by
  have h2 : -9223372036854775808 ≤ n ∧ n ≤ 9223372036854775807 := by simpa [Lit.wf, IntKind.min, IntKind.max, IntKind.bits, IntKind.signed] using h
  exact h2
theorem ocInt : Try.prog.cellsOf 3 = 1 := by kernel_rfl
theorem ocI64 : Try.prog.cellsOf 2 = 1 := by kernel_rfl
theorem ocStr : Try.prog.cellsOf 9 = 1 := by kernel_rfl
theorem ocVal : Try.prog.cellsOf 86 = 3 := by kernel_rfl
theorem ocRow : Try.prog.cellsOf 56 = 1 := by kernel_rfl

section
variable {H : Type} {enc : TypeId × Value → H} {w : World}
theorem open_ints {v : Value} {d : DataW H} {ps : List MemPlace} (h : DataW.Trod enc Try.prog w 0 (fun _ => true) true 111 v d ps) (hv : v.cells.toList = [v]) :
    ∃ l : List Int, Sl w (fun _ => True) 1 v l.length (ints l) ∧ ∀ n ∈ l, fit64 n := by
  obtain ⟨fuel, hf⟩ := h
  rw [hv] at hf
  obtain ⟨l, h1, h2⟩ := open_ints_sl Try.underlying111 Try.underlying3 ocInt hf
  exact ⟨l, h1, fun n hn => wf_fit64 (h2 n hn)⟩
theorem open_i64s {v : Value} {d : DataW H} {ps : List MemPlace} (h : DataW.Trod enc Try.prog w 0 (fun _ => true) true 138 v d ps) (hv : v.cells.toList = [v]) :
    ∃ l : List Int, Sl w (fun _ => True) 1 v l.length (ints l) ∧ ∀ n ∈ l, fit64 n := by
  obtain ⟨fuel, hf⟩ := h
  rw [hv] at hf
  obtain ⟨l, h1, h2⟩ := open_ints_sl Try.underlying138 Try.underlying2 ocI64 hf
  exact ⟨l, h1, fun n hn => wf_fit64 (h2 n hn)⟩
theorem flat_one {α : Type} (f : α → Value) (l : List α) : (l.map fun x => [f x]).flatten = l.map f := by
  induction l with
  | nil => rfl
  | cons a l ih => simp [ih]
/-- A value's reading. -/
def AV.read (a : AV) : Prop := fit64 a.kind ∧ fit64 a.n ∧ a.s.size ≤ maxLen
theorem open_av {fuel : Nat} {c : List Value} {y : DataW H × List MemPlace} (hl : c.length = 3) (hy : DataW.trod enc Try.prog w 0 (fun _ => true) true fuel 86 c = some y) : ∃ a : AV, c = a.cells ∧ a.read := by
  obtain ⟨n, hfs⟩ := open_fields Try.underlying86 hy
  obtain ⟨c0, c1, c2, rfl⟩ := list3 hl
  obtain ⟨y0, h0⟩ := hfs 0 _ rfl
  obtain ⟨y1, h1⟩ := hfs 1 _ rfl
  obtain ⟨y2, h2⟩ := hfs 2 _ rfl
  simp only [ocInt, ocI64, ocStr, List.drop_zero, List.drop_succ_cons, List.take_succ_cons, List.take_zero] at h0 h1 h2
  obtain ⟨k, e0, _, w0⟩ := DataW.trod_int Try.underlying3 h0
  obtain ⟨m, e1, _, w1⟩ := DataW.trod_int Try.underlying2 h1
  obtain ⟨s, e2, _, w2⟩ := DataW.trod_string Try.underlying9 h2
  simp only [List.cons.injEq, and_true] at e0 e1 e2
  subst e0 e1 e2
  exact ⟨⟨k, m, s⟩, rfl, wf_fit64 w0, wf_fit64 w1, w2⟩
theorem av_ones (a : AV) : Ones a.cells := by
  intro u hu
  simp [AV.cells] at hu
  rcases hu with rfl | rfl | rfl <;> rfl
theorem open_row_at {fuel : Nat} {v : Value} {y : DataW H × List MemPlace} (hf : DataW.trod enc Try.prog w 0 (fun _ => true) true fuel 56 [v] = some y) : ∃ l : List AV, Sl w (fun _ => True) 3 v l.length (rowCells l) ∧ ∀ a ∈ l, a.read := by
  obtain ⟨es, h1, h2⟩ := open_sl Try.underlying56 ocVal (by omega) hf (fun c => ∃ a : AV, c = a.cells ∧ a.read) (fun c ⟨a, hc, _⟩ => by subst hc; exact av_ones a) (fun f c y hl hy => open_av hl hy)
  obtain ⟨l, rfl, h4⟩ := choose_list es (fun c hcm => (h1 c hcm).2)
  rw [List.length_map] at h2
  exact ⟨l, h2, h4⟩
theorem open_row {v : Value} {d : DataW H} {ps : List MemPlace} (h : DataW.Trod enc Try.prog w 0 (fun _ => true) true 56 v d ps) (hv : v.cells.toList = [v]) :
    ∃ l : List AV, Sl w (fun _ => True) 3 v l.length (rowCells l) ∧ ∀ a ∈ l, a.read := by
  obtain ⟨fuel, hf⟩ := h
  rw [hv] at hf
  exact open_row_at hf
theorem sl_one {w : World} {B : Nat → Prop} {sz : Nat} {v : Value} {n : Nat} {cs : List Value} (h : Sl w B sz v n cs) : v.oneCell' = true := by
  obtain ⟨p, cap, rfl, _⟩ := h.form
  rfl
theorem open_rows_at {fuel : Nat} {v : Value} {y : DataW H × List MemPlace} (hf : DataW.trod enc Try.prog w 0 (fun _ => true) true fuel 36 [v] = some y) : ∃ rows : List RowV, RowsAt w (fun _ => True) v rows ∧ ∀ r ∈ rows, ∀ a ∈ r.l, a.read := by
  obtain ⟨es, h1, h2⟩ := open_sl Try.underlying36 ocRow (by omega) hf (fun c => ∃ r : RowV, c = [r.v] ∧ Sl w (fun _ => True) 3 r.v r.l.length (rowCells r.l) ∧ ∀ a ∈ r.l, a.read) (fun c ⟨r, hc, hr, _⟩ => by subst hc; exact Ones.nil.cons (sl_one hr))
    (fun f c y hl hy => by
      obtain ⟨u, rfl⟩ := list1 hl
      obtain ⟨l, h3, h4⟩ := open_row_at hy
      exact ⟨⟨u, l⟩, rfl, h3, h4⟩)
  obtain ⟨rows, rfl, h4⟩ := choose_list (f := fun r : RowV => [r.v]) es (fun c hcm => (h1 c hcm).2)
  rw [flat_one, List.length_map] at h2
  exact ⟨rows, ⟨h2, fun r hr => (h4 r hr).1⟩, fun r hr => (h4 r hr).2⟩
theorem open_rows {v : Value} {d : DataW H} {ps : List MemPlace} (h : DataW.Trod enc Try.prog w 0 (fun _ => true) true 36 v d ps) (hv : v.cells.toList = [v]) :
    ∃ rows : List RowV, RowsAt w (fun _ => True) v rows ∧ ∀ r ∈ rows, ∀ a ∈ r.l, a.read := by
  obtain ⟨fuel, hf⟩ := h
  rw [hv] at hf
  exact open_rows_at hf
end
end Go.Proofs.Ytedcljahcedpjaa
/- How streams and batches that came in are read; the stream law's awake. -/
namespace Go.Proofs.Ytedcljahcedpjaa
open Go.RowKit Go.Afx

theorem ocCol : Try.prog.cellsOf 58 = 2 := by kernel_rfl
theorem ocCols : Try.prog.cellsOf 24 = 1 := by kernel_rfl
theorem ocBat : Try.prog.cellsOf 38 = 2 := by kernel_rfl
theorem ocRows : Try.prog.cellsOf 36 = 1 := by kernel_rfl
def ColV.read (c : ColV) : Prop := c.name.size ≤ maxLen ∧ fit64 c.kind
structure StrV where
  name : ByteArray
  v : Value
  cols : List ColV
def StrV.agg (s : StrV) : Value := .agg #[.string s.name, s.v]
def BatV.read (b : BatV) : Prop := fit64 b.id ∧ ∀ r ∈ b.rows, ∀ a ∈ r.l, a.read
def BatV.agg (b : BatV) : Value := .agg #[.int .i64 b.id, b.v]
section
variable {H : Type} {enc : TypeId × Value → H} {w : World}
theorem open_cols_at {fuel : Nat} {v : Value} {y : DataW H × List MemPlace} (hf : DataW.trod enc Try.prog w 0 (fun _ => true) true fuel 24 [v] = some y) : ∃ l : List ColV, Sl w (fun _ => True) 2 v l.length (colCells l) ∧ ∀ c ∈ l, c.read := by
  obtain ⟨es, h1, h2⟩ := open_sl Try.underlying24 ocCol (by omega) hf (fun c => ∃ a : ColV, c = a.cells ∧ a.read) (fun c ⟨a, hc, _⟩ => by subst hc; intro u hu; simp [ColV.cells] at hu; rcases hu with rfl | rfl <;> rfl) (fun f c y hl hy => by
    obtain ⟨n, hfs⟩ := open_fields Try.underlying58 hy
    obtain ⟨c0, c1, rfl⟩ := list2 hl
    obtain ⟨y0, h0⟩ := hfs 0 _ rfl
    obtain ⟨y1, h1⟩ := hfs 1 _ rfl
    simp only [ocInt, ocStr, List.drop_zero, List.drop_succ_cons, List.take_succ_cons, List.take_zero] at h0 h1
    obtain ⟨s, e0, _, w0⟩ := DataW.trod_string Try.underlying9 h0
    obtain ⟨k, e1, _, w1⟩ := DataW.trod_int Try.underlying3 h1
    simp only [List.cons.injEq, and_true] at e0 e1
    subst e0 e1
    exact ⟨⟨s, k⟩, rfl, w0, wf_fit64 w1⟩)
  obtain ⟨l, rfl, h4⟩ := choose_list es (fun c hcm => (h1 c hcm).2)
  rw [List.length_map] at h2
  exact ⟨l, h2, h4⟩
theorem open_cols {v : Value} {d : DataW H} {ps : List MemPlace} (h : DataW.Trod enc Try.prog w 0 (fun _ => true) true 24 v d ps) (hv : v.cells.toList = [v]) :
    ∃ l : List ColV, Sl w (fun _ => True) 2 v l.length (colCells l) ∧ ∀ c ∈ l, c.read := by
  obtain ⟨fuel, hf⟩ := h
  rw [hv] at hf
  exact open_cols_at hf
theorem open_stream {cs : Array Value} {d : DataW H} {ps : List MemPlace} (h : DataW.Trod enc Try.prog w 0 (fun _ => true) true 104 (.agg cs) d ps) (hs : cs.size = 2) :
    ∃ s : StrV, Value.agg cs = s.agg ∧ s.name.size ≤ maxLen ∧ Sl w (fun _ => True) 2 s.v s.cols.length (colCells s.cols) ∧ ∀ c ∈ s.cols, c.read := by
  obtain ⟨fuel, hf⟩ := h
  have hf2 : DataW.trod enc Try.prog w 0 (fun _ => true) true fuel 104 cs.toList = some _ := hf
  obtain ⟨n, hfs⟩ := open_fields Try.underlying104 hf2
  obtain ⟨c0, c1, hcs⟩ := list2 (l := cs.toList) (by simpa using hs)
  rw [hcs] at hfs
  obtain ⟨y0, h0⟩ := hfs 0 _ rfl
  obtain ⟨y1, h1⟩ := hfs 1 _ rfl
  simp only [ocStr, ocCols, List.drop_zero, List.drop_succ_cons, List.take_succ_cons, List.take_zero] at h0 h1
  obtain ⟨s, e0, _, w0⟩ := DataW.trod_string Try.underlying9 h0
  obtain ⟨l, h2, h3⟩ := open_cols_at h1
  simp only [List.cons.injEq, and_true] at e0
  subst e0
  refine ⟨⟨s, c1, l⟩, ?_, w0, h2, h3⟩
  have : cs = #[.string s, c1] := by rw [← Array.toList_inj, hcs]
  rw [this]; rfl
theorem open_bat_at {fuel : Nat} {c : List Value} {y : DataW H × List MemPlace} (hl : c.length = 2) (hy : DataW.trod enc Try.prog w 0 (fun _ => true) true fuel 38 c = some y) : ∃ b : BatV, c = b.cells ∧ RowsAt w (fun _ => True) b.v b.rows ∧ b.read := by
  obtain ⟨n, hfs⟩ := open_fields Try.underlying38 hy
  obtain ⟨c0, c1, rfl⟩ := list2 hl
  obtain ⟨y0, h0⟩ := hfs 0 _ rfl
  obtain ⟨y1, h1⟩ := hfs 1 _ rfl
  simp only [ocInt, ocRows, List.drop_zero, List.drop_succ_cons, List.take_succ_cons, List.take_zero] at h0 h1
  obtain ⟨k, e0, _, w0⟩ := DataW.trod_int Try.underlying3 h0
  obtain ⟨rows, h2, h3⟩ := open_rows_at h1
  simp only [List.cons.injEq, and_true] at e0
  subst e0
  exact ⟨⟨k, c1, rows⟩, rfl, h2, wf_fit64 w0, h3⟩
theorem open_bats {v : Value} {d : DataW H} {ps : List MemPlace} (h : DataW.Trod enc Try.prog w 0 (fun _ => true) true 34 v d ps) (hv : v.cells.toList = [v]) :
    ∃ l : List BatV, BatAt w (fun _ => True) v l ∧ ∀ b ∈ l, b.read := by
  obtain ⟨fuel, hf⟩ := h
  rw [hv] at hf
  obtain ⟨es, h1, h2⟩ := open_sl Try.underlying34 ocBat (by omega) hf (fun c => ∃ b : BatV, c = b.cells ∧ RowsAt w (fun _ => True) b.v b.rows ∧ b.read) (fun c ⟨b, hc, hr, _⟩ => by subst hc; exact Ones.nil.cons (sl_one hr.1) |>.cons rfl) (fun f c y hl hy => open_bat_at hl hy)
  obtain ⟨l, rfl, h4⟩ := choose_list es (fun c hcm => (h1 c hcm).2)
  rw [List.length_map] at h2
  exact ⟨l, ⟨h2, fun b hb => (h4 b hb).1⟩, fun b hb => (h4 b hb).2⟩
end

theorem rowsat_nil (w : World) (B : Nat → Prop) : RowsAt w B (.slice none 0 0) [] := ⟨⟨by simp [rowVals], Ones.nil, .inl ⟨none, 0, rfl, rfl, Nat.zero_le _, fun _ => rfl⟩⟩, by simp⟩
theorem awake_right : rightC ⟨#[115]⟩ [⟨⟨#[97]⟩, 1⟩] = true := by rfl
theorem awake_fits : fitsB [⟨⟨#[97]⟩, 1⟩] (([] : List RowV).map RowV.l) = true := by rfl
theorem one_col (w : World) (c : ColV) : Sl (w.alloc (.cells #[.string c.name, .int .i64 c.kind] 58)) (fun _ => True) 2 (.slice (some ⟨w.heap.size, 0, none⟩) 1 1) [c].length (colCells [c]) :=
  (Own.made w 58 2 (colCells [c]) [] 1 1 rfl (by intro u hu; simp [colCells, ColV.cells] at hu; rcases hu with rfl | rfl <;> rfl) (Nat.le_refl _) (by simp [maxLen]) (by simp [colCells, ColV.cells])).sl (fun _ _ => trivial)

end Go.Proofs.Ytedcljahcedpjaa
/- Rows cloned: slices.Clone on values. -/
namespace Go.Proofs.Ytedcljahcedpjaa
open Go.RowKit Go.Afx

theorem elemValLn : Elem Try.prog 56 86 3 32 (.agg #[.int .i64 0, .int .i64 0, .string ⟨#[]⟩]) :=
  ⟨Try.underlying56, by kernel_rfl, rfl, by omega, by intro u hu; simp [Value.cells] at hu; rcases hu with rfl | rfl | rfl <;> rfl⟩

@[go_sem] theorem eqlNilValLn (w : World) (a : Option Addr) (n c : Nat) : (binOp .eql 56 (.slice a n c) (.slice none 0 0)).run Try.prog w = .ok (.bool a.isNone) w := Lib.run_eql_slice_nil w _ _ a n c 0 0 Try.underlying56
set_option maxRecDepth 100000 in
theorem clone_val (w : World) (B : Nat → Prop) (v : Value) (n : Nat) (cs : List Value) (h : Sl w B 3 v n cs) (hn : n ≤ 1000000000) :
    Calls Try.prog 36 #[v] w fun e w' => ∃ v', e = .returned v' ∧ Own w' 86 3 v' n cs ∧ Below w.heap.size w w' ∧ (∀ k, v'.ownBlock = some k → w.heap.size ≤ k) := by
  obtain ⟨p, cap, rfl, _, _⟩ := h.form
  cases p with
  | none =>
    have hn0 : n = 0 := by
      rcases h.2.2 with ⟨_, _, _, h0, _⟩ | ⟨_, _, _, h0, _⟩
      · exact h0
      · cases h0
    subst hn0
    have hc : cs = [] := List.eq_nil_of_length_eq_zero (by simpa using h.1)
    subst hc
    go_enter Try.func36, Try.ntmps36
    go_wp2
    go_ret
    exact ⟨_, rfl, Own.nil _ _ _, Below.refl _ _, by simp [Value.ownBlock]⟩
  | some a =>
    have hs := h.alloc (.cells #[] 86)
    have ho : Own (w.alloc (.cells #[] 86)) 86 3 (.slice (some ⟨w.heap.size, 0, none⟩) 0 0) 0 [] := Own.made w 86 3 [] [] 0 0 rfl Ones.nil (Nat.le_refl _) (by simp [maxLen]) (by simp)
    clear h
    go_enter Try.func36, Try.ntmps36
    go_wp2_with (at_builtin; refine wpList_app rfl _ _ rfl elemValLn (by rfl) ho (by rfl) hs (by unfold maxLen; omega) (by omega) ?_; intro v' w' h1 h2 h3 _ _)
    go_ret
    have hb : Below w.heap.size w w' := (((Below.refl w.heap.size w).alloc (Nat.le_refl _) _).trans (h2.below (B := w.heap.size) (by simp) (fun i hi => by have : w.heap.size = i := (by simpa [Value.ownBlock] using hi); omega)))
    refine ⟨v', rfl, by simpa using h1, hb, fun k hk => ?_⟩
    rw [hk] at h3
    have h7 : k = w.heap.size ∨ k = w.heap.size + 1 := by simpa [Value.ownBlock] using h3
    omega
end Go.Proofs.Ytedcljahcedpjaa
/- Windows: split. -/
namespace Go.Proofs.Ytedcljahcedpjaa
open Go.RowKit Go.Afx

theorem elemRowU : Elem Try.prog 78 56 1 24 (.slice none 0 0) :=
  ⟨Try.underlying78, by kernel_rfl, rfl, by omega, by intro u hu; simp [Value.cells] at hu; subst hu; rfl⟩
/-- The units of rows that came together. -/
def unitsOf (bt : Bool) (rows : List (List AV)) : List UnitA := if bt then [rows] else rows.map fun r => [r]
/-- What split has made of the first rows. -/
def SplitSt (w wr : World) (rows : List RowV) (k : Nat) (wv ev : Value) : Prop :=
  ∃ (rws : List RowV) (us : List UnitV), rws.map RowV.l = (rows.take k).map RowV.l ∧ us.map UnitV.abs = (rows.take k).map (fun r => [r.l]) ∧ rws.length = k ∧ us.length = k ∧
    Own wr 56 1 wv k (rowVals rws) ∧ Own wr 78 1 ev k (unitVals us) ∧ (∀ q, wv.ownBlock = some q → w.heap.size ≤ q) ∧ (∀ q, ev.ownBlock = some q → w.heap.size ≤ q) ∧
    (∀ q, wv.ownBlock = some q → ev.ownBlock ≠ some q) ∧ Below w.heap.size w wr ∧
    (∀ r ∈ rws, Sl wr (fun q => w.heap.size ≤ q ∧ wv.ownBlock ≠ some q ∧ ev.ownBlock ≠ some q) 3 r.v r.l.length (rowCells r.l)) ∧
    (∀ u ∈ us, RowsAt wr (fun q => w.heap.size ≤ q ∧ wv.ownBlock ≠ some q ∧ ev.ownBlock ≠ some q) u.v u.rows)
theorem box1 (w : World) (t : TypeId) (u : Value) (hu : u.oneCell' = true) : Sl (w.alloc (.cells #[u] t)) (fun q => q = w.heap.size) 1 (.slice (some ⟨w.heap.size, 0, none⟩) 1 1) 1 [u] :=
  ⟨rfl, Ones.cons hu Ones.nil, .inr ⟨w.heap.size, 0, 1, rfl, Nat.le_refl _, by simp [maxLen], rfl, (Blk.new w t [u]).lt, fun j _ => by rw [Nat.zero_add]; exact (Blk.new w t [u]).cell j⟩⟩
set_option maxRecDepth 100000 in
set_option maxHeartbeats 2000000 in
theorem split_any (w : World) (b : Nat) (F : Nat → Prop) (v : WinV) (cl : List ColV) (all : List UnitA) (h : IsWin w b F v cl all) (id : Int) (B : Nat → Prop) (rv : Value) (rows : List RowV) (hr : RowsAt w B rv rows) (hl : rows.length ≤ 100) (hrl : ∀ r ∈ rows, r.l.length ≤ 1000) :
    Calls Try.prog 31 #[.pointer (some ⟨b, 0, none⟩), .agg #[.int .i64 id, rv]] w fun e w' => ∃ uv, e = .returned uv ∧ UnitsIs w' (fun k => w.heap.size ≤ k) uv (unitsOf v.batches (rows.map RowV.l)) ∧ Below w.heap.size w w' := by
  obtain ⟨nm, on, ow, bt, sz, sl⟩ := v
  obtain ⟨sv, tv, cv, hk, _, _, _, _⟩ := h
  simp only at hk
  obtain ⟨pr, cr, rfl, hcr1, hcr2⟩ := hr.1.form
  have hal : Below w.heap.size w (w.alloc (.cells #[.int .i64 id, .slice pr rows.length cr] 38)) := (Below.refl _ _).alloc (Nat.le_refl _) _
  have HK := Lib.hid hk
  have HR := Lib.hid hr
  have HRL := Lib.hid hrl
  have H0 : Hid (∀ wr, Below w.heap.size w wr → SplitSt w wr rows 0 (.slice none 0 0) (.slice none 0 0)) := fun wr hb =>
    ⟨[], [], by simp, by simp, rfl, rfl, Own.nil _ _ _, Own.nil _ _ _, by simp [Value.ownBlock], by simp [Value.ownBlock], by simp [Value.ownBlock], hb, by simp, by simp⟩
  have HS0 := Lib.hid (H0.out _ hal)
  clear hr hrl hk hal H0
  go_enter Try.func31, Try.ntmps31
  go_wp2
  go_loopw [5, 6, 12] (fun wv ev i wr => ∃ k : Nat, i = .int .i64 k ∧ k ≤ rows.length ∧ SplitSt w wr rows k wv ev) (fun _ _ i _ => rows.length - (intOf i).toNat)
  case atStart => exact ⟨0, rfl, Nat.zero_le _, HS0.out⟩
  case round =>
    obtain ⟨k, rfl, hk, rws, us, e1, e2, e3, e4, ho1, ho2, hn1, hn2, hne, hb, hi1, hi2⟩ := hrel
    obtain ⟨pw, cw, hw1, hcw1, hcw2⟩ := own_formW ho1
    obtain ⟨pe, ce, hw2, hce1, hce2⟩ := own_formW ho2
    subst hw1
    subst hw2
    have HO1 := Lib.hid ho1
    have HO2 := Lib.hid ho2
    have HN1 := Lib.hid hn1
    have HN2 := Lib.hid hn2
    have HNE := Lib.hid hne
    have HB := Lib.hid hb
    have HI1 := Lib.hid hi1
    have HI2 := Lib.hid hi2
    have E1 := Lib.hid e1
    have E2 := Lib.hid e2
    have E3 := Lib.hid e3
    have E4 := Lib.hid e4
    by_cases hkl : k < rows.length
    · obtain ⟨g, off, cap, hv, hck⟩ := (HR.out.below hb).at hkl
      cases hv
      have hrow := (HR.out.below hb).2 rows[k] (List.getElem_mem hkl)
      have hll := HRL.out rows[k] (List.getElem_mem hkl)
      have HTK : Hid (rows.take (k + 1) = rows.take k ++ [rows[k]]) := by show _ = _; rw [List.take_succ_eq_append_getElem hkl]
      generalize rows[k] = r at *
      obtain ⟨rv, rl⟩ := r
      simp only at hck hrow hll
      have HCL := Lib.hid (clone_val wr B rv _ _ hrow (by omega))
      obtain ⟨prr, crr, rfl, _, _⟩ := hrow.form
      clear ho1 ho2 hn1 hn2 hne hb hi1 hi2 hrow e1 e2 e3 e4
      go_wp2_with fail
      refine HCL.out.mono ?_
      clear HCL
      rintro e w1 ⟨v1, rfl, h1, hb1, hf1⟩
      obtain ⟨p1, c1, hv1, hc11, hc12⟩ := own_formW h1
      subst hv1
      have HR1 := Lib.hid h1
      have HF1 := Lib.hid hf1
      have HB1 := Lib.hid hb1
      have hal2 : Below w1.heap.size w1 (w1.alloc (.cells #[.slice p1 rl.length c1] 56)) := (Below.refl _ _).alloc (Nat.le_refl _) _
      have ho1 := (HO1.out.below hb1).below hal2
      have hs1 := box1 w1 56 (.slice p1 rl.length c1) rfl
      clear h1 hf1 hb1
      have HAL2 := Lib.hid hal2
      clear hal2
      go_upto_region 8 with (at_builtin; refine wpList_app rfl _ _ rfl elemRowU (by rfl) ho1 (by rfl) hs1 (by unfold maxLen; omega) (by omega) ?_; intro v3 w3 g1 g2 g3 g4 g5)
      obtain ⟨p3, c3, hv3, hc31, hc32⟩ := own_formW g1
      subst hv3
      have hal4 : Below w3.heap.size w3 (w3.alloc (.cells #[.slice p1 rl.length c1] 56)) := (Below.refl _ _).alloc (Nat.le_refl _) _
      obtain ⟨w4, hw4⟩ : ∃ w4, w3.alloc (.cells #[.slice p1 rl.length c1] 56) = w4 := ⟨_, rfl⟩
      have hb4 := box1 w3 56 (.slice p1 rl.length c1) rfl
      rw [hw4] at hal4 hb4
      have hs4 : w4.heap.size = w3.heap.size + 1 := by rw [← hw4]; simp
      have hal5 : Below w4.heap.size w4 (w4.alloc (.cells #[.slice (some ⟨w3.heap.size, 0, none⟩) 1 1] 78)) := (Below.refl _ _).alloc (Nat.le_refl _) _
      have hs5 := box1 w4 78 (.slice (some ⟨w3.heap.size, 0, none⟩) 1 1) rfl
      have hz : w.heap.size ≤ wr.heap.size := HB.out.size
      have hz1 : wr.heap.size ≤ w1.heap.size := HB1.out.size
      have hz2 : w1.heap.size < w3.heap.size := by have := g2.size; simp at this; omega
      -- up to the second append nothing else has turned
      have hlw : ∀ q, (Value.slice pw k cw).ownBlock = some q → q < wr.heap.size := HO1.out.lt
      have hle : ∀ q, (Value.slice pe k ce).ownBlock = some q → q < wr.heap.size := HO2.out.lt
      have hbk : ∀ q, q < wr.heap.size → (Value.slice pw k cw).ownBlock ≠ some q → w3.heap[q]? = wr.heap[q]? := fun q hq hn => by
        rw [g2.block q (Nat.lt_of_lt_of_le hq (Nat.le_trans hz1 HAL2.out.size)) hn, HAL2.out.block q (Nat.lt_of_lt_of_le hq hz1), HB1.out.block q hq]
      have hbk1 : ∀ q, wr.heap.size ≤ q → q < w1.heap.size → w3.heap[q]? = w1.heap[q]? := fun q hq hq1 => by
        rw [g2.block q (Nat.lt_of_lt_of_le hq1 HAL2.out.size) (fun h => by have := hlw q h; omega), HAL2.out.block q hq1]
      have ho2 : Own w3 78 1 (.slice pe k ce) k (unitVals us) := HO2.out.keep fun q hq => hbk q (hle q hq) (fun h => HNE.out q h hq)
      have ho5 := (ho2.below hal4).below hal5
      have hnw3 : ∀ q, (Value.slice p3 (k + 1) c3).ownBlock = some q → q < w3.heap.size ∧ w.heap.size ≤ q ∧ (q < wr.heap.size → (Value.slice pw k cw).ownBlock = some q) ∧ (wr.heap.size ≤ q → w1.heap.size ≤ q) := fun q hq => by
        refine ⟨g1.lt q hq, ?_⟩
        rcases g3 with h | h
        · rw [h] at hq
          have := hlw q hq
          exact ⟨HN1.out q hq, fun _ => hq, fun h2 => by omega⟩
        · rw [h] at hq
          have h2 : (w1.alloc (.cells #[.slice p1 rl.length c1] 56)).heap.size = q := Option.some.inj hq
          have h3 := HAL2.out.size
          exact ⟨by omega, fun h4 => by omega, fun _ => by omega⟩
      have hb3 : Below w.heap.size w w3 := ((HB.out.trans (HB1.out.mono HB.out.size)).trans (HAL2.out.mono (Nat.le_trans HB.out.size HB1.out.size))).trans (g2.below (Nat.le_trans (Nat.le_trans HB.out.size HB1.out.size) HAL2.out.size) (fun q hq => HN1.out q hq))
      have HB3 := Lib.hid hb3
      have G1 := Lib.hid g1
      have G3 := Lib.hid hnw3
      have HBK := Lib.hid hbk
      have HBK1 := Lib.hid hbk1
      have HB4 := Lib.hid hb4
      have HAL4 := Lib.hid hal4
      have HAL5 := Lib.hid hal5
      have HLE := Lib.hid hle
      have HLW := Lib.hid hlw
      have HS4 := Lib.hid hs4
      clear g1 g2 g3 g4 g5 hbk hbk1 hb4 hal4 hal5 hnw3 ho2 hle hlw hs4 hb3
      go_upto_region 9 with (at_builtin; refine wpList_app rfl _ _ rfl elemUnit (by rfl) ho5 (by rfl) hs5 (by unfold maxLen; omega) (by omega) ?_; intro v6 w6 g1 g2 g3 g4 g5)
      obtain ⟨p6, c6, hv6, hc61, hc62⟩ := own_formW g1
      subst hv6
      obtain ⟨w5, hw5⟩ : ∃ w5, w4.alloc (.cells #[.slice (some ⟨w3.heap.size, 0, none⟩) 1 1] 78) = w5 := ⟨_, rfl⟩
      have hal5 := HAL5.out
      rw [hw5] at hal5 g2 g3
      have hz3 : w3.heap.size < w4.heap.size := by have := HS4.out; omega
      have hz4 : w4.heap.size < w5.heap.size := by rw [← hw5]; simp
      have hb5 : Below w3.heap.size w3 w5 := HAL4.out.trans (hal5.mono HAL4.out.size)
      have hne6 : ∀ q, (Value.slice p3 (k + 1) c3).ownBlock = some q → (Value.slice pe k ce).ownBlock ≠ some q := fun q hq h => by
        have h1 := HLE.out q h
        exact HNE.out q ((G3.out q hq).2.2.1 h1) h
      have hv6 : ∀ q, (Value.slice p6 (k + 1) c6).ownBlock = some q → (Value.slice pe k ce).ownBlock = some q ∨ q = w5.heap.size := fun q hq => by
        rcases g3 with h | h
        · rw [h] at hq; exact .inl hq
        · rw [h] at hq; exact .inr (Option.some.inj hq).symm
      have blkA : ∀ q, q < wr.heap.size → (Value.slice pw k cw).ownBlock ≠ some q → (Value.slice pe k ce).ownBlock ≠ some q → w6.heap[q]? = wr.heap[q]? := fun q hq h1 h2 => by
        rw [g2.block q (by omega) h2, hb5.block q (by omega), HBK.out q hq h1]
      have blkB : ∀ q, wr.heap.size ≤ q → q < w1.heap.size → w6.heap[q]? = w1.heap[q]? := fun q h1 h2 => by
        rw [g2.block q (by omega) (fun h => by have := HLE.out q h; omega), hb5.block q (by omega), HBK1.out q h1 h2]
      have blkC : w6.heap[w3.heap.size]? = w4.heap[w3.heap.size]? := by
        rw [g2.block _ (by omega) (fun h => by have := HLE.out _ h; omega), hal5.block _ (by omega)]
      have nA : ∀ q, q < wr.heap.size → (w.heap.size ≤ q ∧ (Value.slice pw k cw).ownBlock ≠ some q ∧ (Value.slice pe k ce).ownBlock ≠ some q) → (w.heap.size ≤ q ∧ (Value.slice p3 (k + 1) c3).ownBlock ≠ some q ∧ (Value.slice p6 (k + 1) c6).ownBlock ≠ some q) := fun q hq h => by
        refine ⟨h.1, fun h1 => h.2.1 ((G3.out q h1).2.2.1 hq), fun h1 => ?_⟩
        rcases hv6 q h1 with h2 | h2
        · exact h.2.2 h2
        · omega
      have nB : ∀ q, wr.heap.size ≤ q → q < w1.heap.size → (w.heap.size ≤ q ∧ (Value.slice p3 (k + 1) c3).ownBlock ≠ some q ∧ (Value.slice p6 (k + 1) c6).ownBlock ≠ some q) := fun q h1 h2 => by
        refine ⟨by omega, fun h => by have := (G3.out q h).2.2.2 h1; omega, fun h => ?_⟩
        rcases hv6 q h with h3 | h3
        · have := HLE.out q h3; omega
        · omega
      have nC : (w.heap.size ≤ w3.heap.size ∧ (Value.slice p3 (k + 1) c3).ownBlock ≠ some w3.heap.size ∧ (Value.slice p6 (k + 1) c6).ownBlock ≠ some w3.heap.size) := by
        refine ⟨by omega, fun h => by have := (G3.out _ h).1; omega, fun h => ?_⟩
        rcases hv6 _ h with h3 | h3
        · have := HLE.out _ h3; omega
        · omega
      have hnew : Sl w6 (fun q => w.heap.size ≤ q ∧ (Value.slice p3 (k + 1) c3).ownBlock ≠ some q ∧ (Value.slice p6 (k + 1) c6).ownBlock ≠ some q) 3 (.slice p1 rl.length c1) rl.length (rowCells rl) :=
        (HR1.out.sl (B := fun q => wr.heap.size ≤ q) HF1.out).mono (by have := g2.size; omega) (fun q h1 h2 => blkB q h1 h2) (fun q h1 h2 => nB q h1 h2)
      have hfin : SplitSt w w6 rows (k + 1) (.slice p3 (k + 1) c3) (.slice p6 (k + 1) c6) := by
        refine ⟨rws ++ [⟨.slice p1 rl.length c1, rl⟩], us ++ [⟨.slice (some ⟨w3.heap.size, 0, none⟩) 1 1, [⟨.slice p1 rl.length c1, rl⟩]⟩], ?_, ?_, ?_, ?_, ?_, ?_, fun q hq => (G3.out q hq).2.1, fun q hq => ?_, fun q hq h => ?_, ?_, fun r hr => ?_, fun u hu => ?_⟩
        · rw [HTK.out, List.map_append, List.map_append, E1.out]; rfl
        · rw [HTK.out, List.map_append, List.map_append, E2.out]; rfl
        · rw [List.length_append, E3.out]; rfl
        · rw [List.length_append, E4.out]; rfl
        · rw [rowVals_append]
          exact ((G1.out.below HAL4.out).below hal5).only g2 (fun q hq h => hne6 q hq h)
        · rw [unitVals_append]; exact g1
        · rcases hv6 q hq with h | h
          · exact HN2.out q h
          · omega
        · rcases hv6 q h with h2 | h2
          · exact hne6 q hq h2
          · have := (G3.out q hq).1; omega
        · exact (HB3.out.trans (hb5.mono HB3.out.size)).trans (g2.below (by omega) (fun q hq => HN2.out q hq))
        · rcases List.mem_append.1 hr with h | h
          · exact (HI1.out r h).mono (by have := g2.size; omega) (fun q h1 h2 => blkA q h2 h1.2.1 h1.2.2) (fun q h1 h2 => nA q h2 h1)
          · rw [List.mem_singleton.1 h]; exact hnew
        · rcases List.mem_append.1 hu with h | h
          · exact (HI2.out u h).mono (by have := g2.size; omega) (fun q h1 h2 => blkA q h2 h1.2.1 h1.2.2) (fun q h1 h2 => nA q h2 h1)
          · rw [List.mem_singleton.1 h]
            refine ⟨?_, fun r hr => by rw [List.mem_singleton.1 hr]; exact hnew⟩
            exact HB4.out.mono (by have := g2.size; omega) (fun q h1 _ => by rw [h1]; exact blkC) (fun q h1 _ => by rw [h1]; exact nC)
      have HFIN := Lib.hid hfin
      clear g1 g2 g3 g4 g5 hw5 hal5 hb5 hne6 hv6 blkA blkB blkC nA nB nC hnew hfin
      go_wp2
      go_roundw
      case rel => exact ⟨k + 1, by go_num, by omega, HFIN.out⟩
      case measure => (simp [intOf]) <;> omega
    · obtain rfl : k = rows.length := by omega
      rw [List.take_length] at e1 e2
      have k3 := (HK.out.below hb).cell 3
      have k3' : wr.cell? ⟨b, 3, none⟩ = some (.bool bt) := k3
      have hlb : b < wr.heap.size := (HK.out.below hb).lt
      have E1' := Lib.hid e1
      have E2' := Lib.hid e2
      clear ho1 ho2 hn1 hn2 hne hb hi1 hi2 e1 e2 e3 e4 k3
      cases bt
      · go_wp2
        go_ret
        refine ⟨_, rfl, ⟨us, by rw [E2'.out]; simp [unitsOf, Function.comp_def], ?_⟩, HB.out⟩
        refine ⟨?_, fun u hu => (HI2.out u hu).mono (Nat.le_refl _) (fun _ _ _ => rfl) (fun q hq _ => hq.1)⟩
        rw [E4.out]
        exact HO2.out.sl HN2.out
      · go_wp2
        go_ret
        have hbx := box1 wr 78 (.slice pw rows.length cw) rfl
        refine ⟨_, rfl, ⟨[⟨.slice pw rows.length cw, rws⟩], ?_, ?_⟩, HB.out.alloc HB.out.size _⟩
        · simp only [List.map_cons, List.map_nil, unitsOf, if_true, UnitV.abs, E1'.out]
        · refine ⟨hbx.mono (Nat.le_refl _) (fun _ _ _ => rfl) (fun q hq _ => by rw [hq]; exact HB.out.size), fun u hu => ?_⟩
          rw [List.mem_singleton.1 hu]
          have hal9 : Below wr.heap.size wr (wr.alloc (.cells #[.slice pw rows.length cw] 78)) := (Below.refl _ _).alloc (Nat.le_refl _) _
          refine RowsAt.below (w := wr) ⟨?_, fun r hr => (HI1.out r hr).mono (Nat.le_refl _) (fun _ _ _ => rfl) (fun q hq _ => hq.1)⟩ hal9
          rw [E3.out]
          exact HO1.out.sl HN1.out
end Go.Proofs.Ytedcljahcedpjaa
/- Windows: Put. -/
namespace Go.Proofs.Ytedcljahcedpjaa
open Go.RowKit Go.Afx

theorem IsWin.wider {w : World} {b : Nat} {F F' : Nat → Prop} {v : WinV} {cl : List ColV} {all : List UnitA} (h : IsWin w b F v cl all) (hF : ∀ k, F k → F' k) (hb : ¬ F' b) : IsWin w b F' v cl all := by
  obtain ⟨sv, tv, cv, h1, h2, h3, h4, _⟩ := h
  exact ⟨sv, tv, cv, h1, h2.mono (Nat.le_refl _) (fun _ _ _ => rfl) (fun k hk _ => hF k hk), h3.mono (Nat.le_refl _) (fun _ _ _ => rfl) (fun k hk _ => hF k hk), h4.mono (Nat.le_refl _) (fun _ _ _ => rfl) (fun k hk _ => hF k hk), hb⟩
theorem len_snocW {α : Type} (x : List α) (a : α) : (x ++ [a]).length = x.length + 1 := by simp
/-- The units that batches bring. -/
def newUnits (bt : Bool) (l : List BatV) : List UnitA := (l.map fun x => unitsOf bt (x.rows.map RowV.l)).flatten
theorem newUnits_append (bt : Bool) (a b : List BatV) : newUnits bt (a ++ b) = newUnits bt a ++ newUnits bt b := by simp [newUnits]
theorem newUnits_one (bt : Bool) (x : BatV) : newUnits bt [x] = unitsOf bt (x.rows.map RowV.l) := by simp [newUnits]
def fitsAll (cl : List ColV) (l : List BatV) : Bool := l.all fun x => fitsB cl (x.rows.map RowV.l)
/-- What a window had, as a journal's step. -/
def backV (sv tv : Value) (b : Nat) : Value := .iface 76 (.agg #[sv, tv, .pointer (some ⟨b, 0, none⟩)])
/-- What Put leaves. -/
def PutOut (JQ : Value → Value → World → World → Prop) (w : World) (b : Nat) (F : Nat → Prop) (v : WinV) (cl : List ColV) (all : List UnitA) (l : List BatV) (e : Ending) (w' : World) : Prop :=
  (fitsAll cl l = false ∧ e = .returned (.tuple #[.int .i64 0, .int .i64 13]) ∧ Below w.heap.size w w') ∨
  (fitsAll cl l = true ∧ ∃ (c : Nat) (F' : Nat → Prop) (sv tv : Value) (w2 w3 : World), e = .returned (.tuple #[.int .i64 c, .int .i64 0]) ∧ c + all.length / v.slide.toNat = (all ++ newUnits v.batches l).length / v.slide.toNat ∧
    IsWin w' b F' v cl (all ++ newUnits v.batches l) ∧ (∀ k, F' k → F k ∨ w3.heap.size ≤ k) ∧ w.heap.size ≤ w3.heap.size ∧ Below w.heap.size w w2 ∧ UnitsIs w2 F sv (seenW v.size.toNat v.slide.toNat all) ∧ UnitsIs w2 F tv (stagW v.slide.toNat all) ∧ JQ sv tv w2 w3 ∧ Only (fun k => k = b) w3 w')
set_option maxRecDepth 100000 in
set_option maxHeartbeats 4000000 in
theorem put_any (JQ : Value → Value → World → World → Prop) (JS : Nat → Prop) (jv : Value) (w : World) (b : Nat) (F B : Nat → Prop) (v : WinV) (cl : List ColV) (all : List UnitA) (h : IsWin w b F v cl all) (hrt : 1 ≤ v.size ∧ v.size ≤ 100 ∧ 1 ≤ v.slide ∧ v.slide ≤ v.size)
    (lv : Value) (l : List BatV) (hl : BatAt w B lv l) (hB : ∀ k, B k → k ≠ b ∧ ¬ JS k) (hF : ∀ k, F k → ¬ JS k) (hJb : ¬ JS b)
    (hN : ∀ w2 sv tv, Below w.heap.size w w2 → w2.cell? ⟨b, 6, none⟩ = some sv → w2.cell? ⟨b, 7, none⟩ = some tv → Calls Try.prog 30 #[jv, .slice (some ⟨w2.heap.size, 0, none⟩) 1 1] (w2.alloc (.cells #[backV sv tv b] 100)) fun e w' => e = .returned (.tuple #[]) ∧ JQ sv tv w2 w' ∧ Only JS w2 w')
    (hlr : ∀ x ∈ l, x.rows.length ≤ 40 ∧ ∀ r ∈ x.rows, r.l.length ≤ 1000) (hll : l.length ≤ 100) (hal : all.length ≤ 1000000) :
    Calls Try.prog 12 #[.pointer (some ⟨b, 0, none⟩), jv, lv] w (PutOut JQ w b F v cl all l) := by
  obtain ⟨pl, cap, rfl, hcl1, hcl2⟩ := hl.1.form
  have HL := Lib.hid hl
  have HW := Lib.hid h
  have HB := Lib.hid hB
  have HF := Lib.hid hF
  have HN := Lib.hid hN
  have HLR := Lib.hid hlr
  have hbl := h.lt
  clear hl h hB hF hN hlr
  go_enter Try.func12, Try.ntmps12
  go_wp2
  go_loopw [19] (fun i wr => ∃ k : Nat, i = .int .i64 k ∧ k ≤ l.length ∧ (l.take k).all (fun x => fitsB cl (x.rows.map RowV.l)) = true ∧ Below w.heap.size w wr) (fun i _ => l.length - (intOf i).toNat)
  case atStart => exact ⟨0, rfl, Nat.zero_le _, rfl, Below.refl _ _⟩
  case round =>
    obtain ⟨k, rfl, hk, ha, hb⟩ := hrel
    have HBR := Lib.hid hb
    have HA := Lib.hid ha
    clear ha
    by_cases hkl : k < l.length
    · obtain ⟨g, off, cap', hv, hg, e0, e1⟩ := sl_bat (HL.out.below hb).1 hkl
      cases hv
      have hrw := (HL.out.below hb).2 l[k] (List.getElem_mem hkl)
      have hlr := HLR.out l[k] (List.getElem_mem hkl)
      have HX := Lib.hid (all_next (fun x : BatV => fitsB cl (x.rows.map RowV.l)) l k hkl HA.out)
      have HY : Hid (fitsB cl (l[k].rows.map RowV.l) = false → fitsAll cl l = false) := fun h => by
        unfold fitsAll
        rw [List.all_eq_false]
        exact ⟨l[k], List.getElem_mem hkl, by simp [h]⟩
      generalize l[k] = x at *
      obtain ⟨id, xv, rows⟩ := x
      simp only at e0 e1 hrw hlr HX HY
      obtain ⟨px, cx, rfl, hcx1, hcx2⟩ := hrw.1.form
      have hal3 : Below wr.heap.size wr (wr.alloc (.cells #[.int .i64 id, .slice px rows.length cx] 38)) := (Below.refl _ _).alloc (Nat.le_refl _) _
      have HK := Lib.hid (Blk.new wr 38 [.int .i64 id, .slice px rows.length cx])
      have hwb := HW.out.below (hb.trans (hal3.mono hb.size))
      obtain ⟨sv, tv, cv, hkb, hs1, hs2, hs3, hs4⟩ := hwb
      have HKB := Lib.hid hkb
      have HS3 := Lib.hid hs3
      have HRW := Lib.hid (hrw.below hal3)
      have HAL3 := Lib.hid (hb.trans (hal3.mono hb.size))
      have HLR1 := Lib.hid hlr.2
      clear hkb hs1 hs2 hs3 hs4 hrw hal3 hb hlr hg
      go_wp2_with fail
      generalize hw3 : wr.alloc (.cells #[.int .i64 id, .slice px rows.length cx] 38) = w3 at *
      clear hw3
      have x1 : w3.cell? ⟨wr.heap.size, 1, none⟩ = some (.slice px rows.length cx) := HK.out.cell 1
      have x1d : w3.drew.cell? ⟨wr.heap.size, 1, none⟩ = some (.slice px rows.length cx) := x1
      have x8d : w3.drew.cell? ⟨b, 8, none⟩ = some cv := HKB.out.cell 8
      have hlt3 : wr.heap.size < w3.drew.heap.size := HK.out.lt
      have hltb : b < w3.drew.heap.size := HKB.out.lt
      have HFT := Lib.hid (stfits_any w3.drew F B cv _ cl rows HS3.out HRW.out (fun r hr => by have := HLR1.out r hr; omega))
      obtain ⟨pc, cc, hcv, _, _⟩ := HS3.out.form
      subst hcv
      generalize fitsB cl (rows.map RowV.l) = fb at *
      cases fb
      · have HZ := Lib.hid (HY.out rfl)
        clear HX HY
        refine wp_region_lit_plan [] [(0, 0), (1, 0), (2, 0), (4, 0), (3, 1), (5, 1), (6, 4), (7, 0)] (fun _ => False) (by kernel_rfl) (by kernel_rfl) (fun c a d v w h => by cases d <;> exact h) ?_
        go_wp2_with (first
          | (refine plan_pure (v := _) (by rfl) (by rfl) (by rfl) (by intro _; go_simp; with_reducible rfl) ?_; simp only [List.setIfInBounds_toArray, List.set_cons_zero, List.set_cons_succ]; try go_bits) | (refine plan_read (v := _) (by rfl) (by rfl) (by rfl) (by go_simp; with_reducible rfl) ?_; simp only [List.setIfInBounds_toArray, List.set_cons_zero, List.set_cons_succ]; try go_bits) | (refine plan_readB (v := _) (by rfl) (by rfl) (by rfl) (by intro _ hag; unfold Agree at hag; go_simp; with_reducible rfl) ?_; simp only [List.setIfInBounds_toArray, List.set_cons_zero, List.set_cons_succ]; try go_bits) | (refine plan_skip0 (by rfl) (by rfl) (by rfl) ?_; simp only [List.setIfInBounds_toArray, List.set_cons_zero, List.set_cons_succ]; try go_bits) | (refine plan_skip1 (by rfl) (by rfl) (by rfl) ?_; simp only [List.setIfInBounds_toArray, List.set_cons_zero, List.set_cons_succ]; try go_bits) | (refine plan_skip2 (by rfl) (by rfl) (by rfl) ?_; simp only [List.setIfInBounds_toArray, List.set_cons_zero, List.set_cons_succ]; try go_bits) | (refine plan_skip4 (by rfl) (by rfl) (by rfl) ?_; simp only [List.setIfInBounds_toArray, List.set_cons_zero, List.set_cons_succ]; try go_bits) | (refine plan_any (by rfl) ?_) | (refine plan_keep (by rfl) ?_) | (refine plan_nil ?_) | (with_reducible refine And.intro (by first | assumption | exact Agree.refl _ _ | exact agree_drew _ _ | exact agree_alloc _ (by intro k hk; subst hk; first | omega | (simp; omega))) ?_) | (unfold Act.put; simp only [List.setIfInBounds_toArray, List.set_cons_zero, List.set_cons_succ])
          | (go_at_call 29; refine HFT.out.mono ?_; clear HFT; rintro e w4 ⟨rfl, hb4⟩; have HB4 := Lib.hid (HAL3.out.drew.trans (hb4.mono HAL3.out.drew.size)); clear hb4))
        go_ret2
        exact .inl ⟨HZ.out, rfl, HB4.out⟩
      · have HZ := Lib.hid (HX.out rfl)
        clear HX HY
        refine wp_region_lit_plan [] [(0, 0), (1, 0), (2, 0), (4, 0), (3, 1), (5, 1), (6, 4), (7, 0)] (fun _ => False) (by kernel_rfl) (by kernel_rfl) (fun c a d v w h => by cases d <;> exact h) ?_
        go_wp2_with (first
          | (refine plan_pure (v := _) (by rfl) (by rfl) (by rfl) (by intro _; go_simp; with_reducible rfl) ?_; simp only [List.setIfInBounds_toArray, List.set_cons_zero, List.set_cons_succ]; try go_bits) | (refine plan_read (v := _) (by rfl) (by rfl) (by rfl) (by go_simp; with_reducible rfl) ?_; simp only [List.setIfInBounds_toArray, List.set_cons_zero, List.set_cons_succ]; try go_bits) | (refine plan_readB (v := _) (by rfl) (by rfl) (by rfl) (by intro _ hag; unfold Agree at hag; go_simp; with_reducible rfl) ?_; simp only [List.setIfInBounds_toArray, List.set_cons_zero, List.set_cons_succ]; try go_bits) | (refine plan_skip0 (by rfl) (by rfl) (by rfl) ?_; simp only [List.setIfInBounds_toArray, List.set_cons_zero, List.set_cons_succ]; try go_bits) | (refine plan_skip1 (by rfl) (by rfl) (by rfl) ?_; simp only [List.setIfInBounds_toArray, List.set_cons_zero, List.set_cons_succ]; try go_bits) | (refine plan_skip2 (by rfl) (by rfl) (by rfl) ?_; simp only [List.setIfInBounds_toArray, List.set_cons_zero, List.set_cons_succ]; try go_bits) | (refine plan_skip4 (by rfl) (by rfl) (by rfl) ?_; simp only [List.setIfInBounds_toArray, List.set_cons_zero, List.set_cons_succ]; try go_bits) | (refine plan_any (by rfl) ?_) | (refine plan_keep (by rfl) ?_) | (refine plan_nil ?_) | (with_reducible refine And.intro (by first | assumption | exact Agree.refl _ _ | exact agree_drew _ _ | exact agree_alloc _ (by intro k hk; subst hk; first | omega | (simp; omega))) ?_) | (unfold Act.put; simp only [List.setIfInBounds_toArray, List.set_cons_zero, List.set_cons_succ])
          | (go_at_call 29; refine HFT.out.mono ?_; clear HFT; rintro e w4 ⟨rfl, hb4⟩; have HB4 := Lib.hid (HAL3.out.drew.trans (hb4.mono HAL3.out.drew.size)); clear hb4))
        go_roundw
        case rel => exact ⟨k + 1, by go_num, by omega, HZ.out, HB4.out⟩
        case measure => (simp [intOf]) <;> omega
    · obtain rfl : k = l.length := by omega
      have hfit : fitsAll cl l = true := by
        have h1 := HA.out
        rw [List.take_length] at h1
        exact h1
      have HFIT := Lib.hid hfit
      obtain ⟨sv, tv, cv, hkb, hs1, hs2, hs3, hs4⟩ := HW.out.below hb
      have c6 : wr.cell? ⟨b, 6, none⟩ = some sv := hkb.cell 6
      have c7 : wr.cell? ⟨b, 7, none⟩ = some tv := hkb.cell 7
      have hlb : b < wr.heap.size := hkb.lt
      have HNT := Lib.hid (HN.out wr sv tv hb c6 c7)
      have HS1 := Lib.hid hs1
      have HS2 := Lib.hid hs2
      have HKB := Lib.hid hkb
      have HS3 := Lib.hid hs3
      obtain ⟨ps, ns, cs, hsv⟩ : ∃ ps ns cs, sv = .slice ps ns cs := by obtain ⟨us, _, h, _⟩ := hs1; obtain ⟨p, c, h, _⟩ := h.form; exact ⟨p, _, c, h⟩
      obtain ⟨pt, nt, ct, htv⟩ : ∃ ps ns cs, tv = .slice ps ns cs := by obtain ⟨us, _, h, _⟩ := hs2; obtain ⟨p, c, h, _⟩ := h.form; exact ⟨p, _, c, h⟩
      subst hsv
      subst htv
      unfold backV at HNT
      clear hfit hb hs1 hs2 hs3 hkb
      go_wp2_with fail
      refine HNT.out.mono ?_
      clear HNT
      rintro e w3 ⟨rfl, hjq, hoj⟩
      have hwx : IsWin w3 b (fun q => F q ∨ w3.heap.size ≤ q) v cl all := by
        have h1 := (HW.out.below HBR.out).only hoj HF.out hJb
        exact h1.wider (fun q hq => .inl hq) (fun h => by
          rcases h with h | h
          · obtain ⟨_, _, _, _, _, _, _, h9⟩ := h1; exact h9 h
          · have h8 := hoj.size
            have h7 := HBR.out.size
            omega)
      have hlx : BatAt w3 B (.slice pl l.length cap) l := by
        have h1 := HL.out.below HBR.out
        exact ⟨h1.1.only hoj (fun q hq => (HB.out q hq).2), fun x hx => (h1.2 x hx).only hoj (fun q hq => (HB.out q hq).2)⟩
      have HJQ := Lib.hid hjq
      have HWX := Lib.hid hwx
      have HLX := Lib.hid hlx
      have hz3 : wr.heap.size ≤ w3.heap.size := hoj.size
      have HZ3 := Lib.hid hz3
      have hzw : w.heap.size ≤ w3.heap.size := Nat.le_trans HBR.out.size hz3
      have HLEN : Hid (∀ k, (newUnits v.batches (l.take k)).length ≤ 4000) := fun k => by
        have h1 : ∀ (m : List BatV), (∀ x ∈ m, x.rows.length ≤ 40) → (newUnits v.batches m).length ≤ m.length * 40 := by
          intro m
          induction m with
          | nil => intro _; simp [newUnits]
          | cons x m ih =>
            intro hx
            rw [show x :: m = [x] ++ m from rfl, newUnits_append, newUnits_one, List.length_append]
            have h2 := ih (fun y hy => hx y (by simp [hy]))
            have h3 := hx x (by simp)
            have h4 : (unitsOf v.batches (x.rows.map RowV.l)).length ≤ 40 := by
              unfold unitsOf
              split
              · simp
              · simpa using h3
            simp only [List.length_append, List.length_cons, List.length_nil]
            omega
        have h2 := h1 (l.take k) (fun x hx => (HLR.out x (List.mem_of_mem_take hx)).1)
        have h3 : (l.take k).length ≤ 100 := by rw [List.length_take]; omega
        omega
      clear hjq hwx hlx hoj hz3
      obtain ⟨wo, rfl⟩ : ∃ wo : World, wo = wr := ⟨_, rfl⟩
      go_wp2
      go_loopw [10, 44] (fun n i wq => ∃ (k c : Nat), i = .int .i64 k ∧ k ≤ l.length ∧ n = .int .i64 c ∧ c + all.length / v.slide.toNat = (all ++ newUnits v.batches (l.take k)).length / v.slide.toNat ∧ IsWin wq b (fun q => F q ∨ w3.heap.size ≤ q) v cl (all ++ newUnits v.batches (l.take k)) ∧ Only (fun q => q = b) w3 wq) (fun _ i _ => l.length - (intOf i).toNat)
      case atStart => exact ⟨0, 0, rfl, Nat.zero_le _, rfl, by simp [newUnits], by simpa [newUnits] using HWX.out, Only.refl _ _⟩
      case round =>
        obtain ⟨k, c, rfl, hk2, rfl, hc, hwq, hoq⟩ := hrel
        have HC := Lib.hid hc
        have HOQ := Lib.hid hoq
        have hcb : c ≤ 2000000 := by
          have h1 := HLEN.out k
          have h2 := Nat.div_le_self (all ++ newUnits v.batches (l.take k)).length v.slide.toNat
          rw [List.length_append] at h2
          have h3 := hc
          rw [List.length_append] at h3
          generalize all.length / v.slide.toNat = o at h3
          generalize (all.length + (newUnits v.batches (l.take k)).length) / v.slide.toNat = q at h2 h3
          omega
        by_cases hk3 : k < l.length
        · have hlq : BatAt wr B (.slice pl l.length cap) l := ⟨HLX.out.1.only hoq (fun q hq h => (HB.out q hq).1 h), fun x hx => (HLX.out.2 x hx).only hoq (fun q hq h => (HB.out q hq).1 h)⟩
          obtain ⟨g, off, cap', hv, hg, e0, e1⟩ := sl_bat hlq.1 hk3
          cases hv
          have hrw := hlq.2 l[k] (List.getElem_mem hk3)
          have hlr := HLR.out l[k] (List.getElem_mem hk3)
          have HTK : Hid (newUnits v.batches (l.take (k + 1)) = newUnits v.batches (l.take k) ++ unitsOf v.batches (l[k].rows.map RowV.l)) := by show _ = _; rw [List.take_succ_eq_append_getElem hk3, newUnits_append, newUnits_one]
          generalize l[k] = x at *
          obtain ⟨id, xv, rows⟩ := x
          simp only at e0 e1 hrw hlr HTK
          obtain ⟨px, cx, rfl, hcx1, hcx2⟩ := hrw.1.form
          have hal4 : Below wr.heap.size wr (wr.alloc (.cells #[.int .i64 id, .slice px rows.length cx] 38)) := (Below.refl _ _).alloc (Nat.le_refl _) _
          have hk4 := Blk.new wr 38 [.int .i64 id, .slice px rows.length cx]
          have hsp := split_any (wr.alloc (.cells #[.int .i64 id, .slice px rows.length cx] 38)) b _ v cl _ (hwq.below hal4) id B _ rows (hrw.below hal4) (by omega) (fun r hr => hlr.2 r hr)
          have HSP := Lib.hid hsp
          have HWQ := Lib.hid (hwq.below hal4)
          have HO4 : Hid (Only (fun q => q = b) w3 (wr.alloc (.cells #[.int .i64 id, .slice px rows.length cx] 38))) := hoq.alloc _
          have HZ4 : Hid (w3.heap.size ≤ (wr.alloc (.cells #[.int .i64 id, .slice px rows.length cx] 38)).heap.size) := Nat.le_trans hoq.size hal4.size
          clear hlq hrw hlr hsp hwq hoq hc hg hal4 hk4
          go_wp2_with fail
          refine HSP.out.mono ?_
          clear HSP
          rintro e w5 ⟨uv, rfl, ⟨us, hus, hua⟩, hb5⟩
          obtain ⟨pu, cu, rfl, hcu1, hcu2⟩ := hua.1.form
          have HUA := Lib.hid hua
          have hus2 : newUnits v.batches (l.take (k + 1)) = newUnits v.batches (l.take k) ++ us.map UnitV.abs := by rw [HTK.out, hus]
          have HUS := Lib.hid hus2
          have hw5 := HWQ.out.below hb5
          have HW5 := Lib.hid hw5
          have ho5 : Only (fun q => q = b) w3 w5 := HO4.out.trans (Only.of_none (S := fun _ => False) hb5) (fun q hq h => False.elim h)
          have HO5 := Lib.hid ho5
          have hz5 : w3.heap.size ≤ w5.heap.size := Nat.le_trans HZ4.out hb5.size
          have hb4l : ∀ q, (wr.alloc (.cells #[.int .i64 id, .slice px rows.length cx] 38)).heap.size ≤ q → w3.heap.size ≤ q := fun q hq => Nat.le_trans HZ4.out hq
          have HB4L := Lib.hid hb4l
          have HLK : Hid ((newUnits v.batches (l.take k)).length + us.length ≤ 4000) := by
            show _ ≤ _
            have h1 := HLEN.out (k + 1)
            rw [hus2, List.length_append, List.length_map] at h1
            exact h1
          clear hus hus2 hua hb5 hw5 ho5 hb4l hcb HWQ HO4 HTK
          obtain ⟨wp, hwp⟩ : ∃ wp : World, wp = wr := ⟨_, rfl⟩
          subst hwp
          go_wp2
          go_loopw [10, 52] (fun n i wq => ∃ (m c : Nat), i = .int .i64 m ∧ m ≤ us.length ∧ n = .int .i64 c ∧ c + all.length / v.slide.toNat = (all ++ (newUnits v.batches (l.take k) ++ (us.take m).map UnitV.abs)).length / v.slide.toNat ∧ IsWin wq b (fun q => F q ∨ w3.heap.size ≤ q) v cl (all ++ (newUnits v.batches (l.take k) ++ (us.take m).map UnitV.abs)) ∧ Only (fun q => q = b) w5 wq) (fun _ i _ => us.length - (intOf i).toNat)
          case atStart => exact ⟨0, c, rfl, Nat.zero_le _, rfl, by simpa using HC.out, by simpa using HW5.out, Only.refl _ _⟩
          case round =>
            obtain ⟨m, c2, rfl, hm, rfl, hc2, hwq, hoq⟩ := hrel
            have HC2 := Lib.hid hc2
            have hcb : c2 ≤ 2000000 := by
              have h1 := HLK.out
              have h2 := Nat.div_le_self (all ++ (newUnits v.batches (l.take k) ++ (us.take m).map UnitV.abs)).length v.slide.toNat
              have h3 := hc2
              have h4 : (all ++ (newUnits v.batches (l.take k) ++ (us.take m).map UnitV.abs)).length ≤ 1004000 := by
                rw [List.length_append, List.length_append, List.length_map, List.length_take]
                omega
              generalize all.length / v.slide.toNat = o at h3
              generalize (all ++ (newUnits v.batches (l.take k) ++ (us.take m).map UnitV.abs)).length / v.slide.toNat = q at h2 h3
              omega
            by_cases hml : m < us.length
            · have huq := HUA.out.only hoq (fun q hq h => by have h1 := HB4L.out q hq; have h2 : q = b := h; omega)
              obtain ⟨gu, ou, cu', hvu, hcu⟩ := huq.at hml
              cases hvu
              have hru : RowsAt wr (fun q => F q ∨ w3.heap.size ≤ q) us[m].v us[m].rows := (huq.2 us[m] (List.getElem_mem hml)).mono (Nat.le_refl _) (fun _ _ _ => rfl) (fun q hq _ => .inr (HB4L.out q hq))
              have HTM : Hid (all ++ (newUnits v.batches (l.take k) ++ (us.take (m + 1)).map UnitV.abs) = (all ++ (newUnits v.batches (l.take k) ++ (us.take m).map UnitV.abs)) ++ [us[m].abs]) := by show _ = _; rw [List.take_succ_eq_append_getElem hml, List.map_append]; simp
              have HCM := Lib.hid (come_any wr b _ v cl _ hwq hrt _ _ hru)
              have HABS : Hid (us[m].abs = us[m].rows.map RowV.l) := rfl
              generalize us[m] = u at *
              obtain ⟨uv, ur⟩ := u
              simp only at hcu hru HCM HABS
              obtain ⟨pv, cv2, rfl, _, _⟩ := hru.1.form
              have hzq : w3.heap.size ≤ wr.heap.size := Nat.le_trans hz5 hoq.size
              have HOQ5 := Lib.hid hoq
              clear huq hru hwq hoq hc2
              go_wp2_with fail
              refine HCM.out.mono ?_
              clear HCM
              rintro e w7 ⟨sb, F7, rfl, hq7, hw7, ho7, hf7⟩
              have hw8 : IsWin w7 b (fun q => F q ∨ w3.heap.size ≤ q) v cl (all ++ (newUnits v.batches (l.take k) ++ (us.take (m + 1)).map UnitV.abs)) := by
                rw [HTM.out, HABS.out]
                refine hw7.wider (fun q hq => ?_) (fun h => ?_)
                · rcases hf7 q hq with h | h
                  · exact h
                  · exact .inr (by omega)
                · obtain ⟨_, _, _, _, _, _, _, h9⟩ := HW5.out; exact h9 h
              have HW8 := Lib.hid hw8
              have HO8 : Hid (Only (fun q => q = b) w5 w7) := HOQ5.out.trans ho7 (fun q hq h => h)
              have HQ8 : Hid (c2 + (if sb then 1 else 0) + all.length / v.slide.toNat = (all ++ (newUnits v.batches (l.take k) ++ (us.take (m + 1)).map UnitV.abs)).length / v.slide.toNat) := by
                show _ = _
                rw [HTM.out, len_snocW, hq7, ← HC2.out]
                omega
              clear hq7 hw7 ho7 hf7 hw8
              cases sb
              · go_wp2
                go_roundw
                case rel => exact ⟨m + 1, c2, by go_num, by omega, rfl, HQ8.out, HW8.out, HO8.out⟩
                case measure => (simp [intOf]) <;> omega
              · go_wp2
                go_roundw
                case rel => exact ⟨m + 1, c2 + 1, by go_num, by omega, by go_num, HQ8.out, HW8.out, HO8.out⟩
                case measure => (simp [intOf]) <;> omega
            · obtain rfl : m = us.length := by omega
              rw [List.take_length, ← HUS.out] at hc2 hwq
              have HC3 := Lib.hid hc2
              have HW3 := Lib.hid hwq
              have HO3 : Hid (Only (fun q => q = b) w3 wr) := HO5.out.trans hoq (fun q hq h => h)
              clear hc2 hwq hoq
              go_wp2
              go_roundw
              case rel => exact ⟨k + 1, c2, by go_num, by omega, rfl, HC3.out, HW3.out, HO3.out⟩
              case measure => (simp [intOf]) <;> omega
        · obtain rfl : k = l.length := by omega
          rw [List.take_length] at hc hwq
          have HC3 := Lib.hid hc
          have HW3 := Lib.hid hwq
          clear hc hwq hoq
          go_wp2
          go_ret2
          exact .inr ⟨HFIT.out, c, _, _, _, _, _, rfl, HC3.out, HW3.out, fun _ h => h, hzw, HBR.out, HS1.out, HS2.out, HJQ.out, HOQ.out⟩
end Go.Proofs.Ytedcljahcedpjaa
/- Windows: New, Rows, Seen, Staged; of no window. -/
namespace Go.Proofs.Ytedcljahcedpjaa
open Go.RowKit Go.Afx

/-- What New leaves. -/
def NewOutW (w : World) (v : WinV) (cl : List ColV) (e : Ending) (w' : World) : Prop :=
  (rightW v = false ∧ e = .returned (.tuple #[.pointer none, .int .i64 1]) ∧ Below w.heap.size w w') ∨
  (rightW v = true ∧ ∃ b F, e = .returned (.tuple #[.pointer (some ⟨b, 0, none⟩), .int .i64 0]) ∧ w.heap.size ≤ b ∧ IsWin w' b F v cl [] ∧ Below w.heap.size w w' ∧ ∀ k, F k → w.heap.size ≤ k)
theorem load_win (w : World) (b : Nat) (v : WinV) (h : Blk w b 23 v.cells) : True := trivial
set_option maxRecDepth 100000 in
set_option maxHeartbeats 1000000 in
theorem newwin_any (w : World) (B : Nat → Prop) (v : WinV) (hv : v.small) (cv : Value) (cl : List ColV) (hc : Sl w B 2 cv cl.length (colCells cl)) (hcl : cl.length ≤ 1000000) :
    Calls Try.prog 8 #[v.agg, cv] w (NewOutW w v cl) := by
  have hal : Below w.heap.size w (w.alloc (.cells v.cells.toArray 23)) := (Below.refl _ _).alloc (Nat.le_refl _) _
  have HR := Lib.hid (wright_any (w.alloc (.cells v.cells.toArray 23)) v hv)
  have hk := Blk.new w 23 v.cells
  have HC := Lib.hid (fun w2 (hb : Below w.heap.size w w2) => clone_col w2 B cv _ _ (hc.below hb) (by omega))
  obtain ⟨pc, cc, rfl, _, _⟩ := hc.form
  have HAL := Lib.hid hal
  have HK := Lib.hid hk
  obtain ⟨rb, hrb⟩ : ∃ rb, rightW v = rb := ⟨_, rfl⟩
  rw [hrb] at HR
  have HRB := Lib.hid hrb
  obtain ⟨nm, on, ow, bt, sz, sl⟩ := v
  simp only [WinV.agg, WinV.cells] at HR HK HAL ⊢
  obtain ⟨w1, hw1⟩ : ∃ w1, w.alloc (.cells #[.string nm, .string on, .string ow, .bool bt, .int .i64 sz, .int .i64 sl] 23) = w1 := ⟨_, rfl⟩
  have hw1' : w.alloc (.cells [.string nm, .string on, .string ow, .bool bt, .int .i64 sz, .int .i64 sl].toArray 23) = w1 := hw1
  rw [hw1'] at HR HK HAL
  have hlt : w.heap.size < w1.heap.size := HK.out.lt
  obtain ⟨c0, c1, c2, c3, c4, c5⟩ := win_cells HK.out
  clear hw1' hc hal hk hrb
  cases rb
  · go_enter Try.func8, Try.ntmps8
    go_wp2_with (go_at_call 9; refine HR.out.mono ?_; clear HR hw1; rintro e w2 ⟨rfl, hb2⟩)
    go_ret2
    exact .inl ⟨HRB.out, rfl, HAL.out.trans (hb2.mono HAL.out.size)⟩
  · go_enter Try.func8, Try.ntmps8
    go_wp2_with (go_at_call 9; refine HR.out.mono ?_; clear HR hw1; rintro e w2 ⟨rfl, hb2⟩; have k2 := HK.out.below hb2; have HB2 := Lib.hid (HAL.out.trans (hb2.mono HAL.out.size)); have HK2 := Lib.hid k2; clear k2 hb2)
    have d0 : w2.drew.cell? ⟨w.heap.size, 0, none⟩ = some (.string nm) := HK2.out.cell 0
    have d1 : w2.drew.cell? ⟨w.heap.size, 1, none⟩ = some (.string on) := HK2.out.cell 1
    have d2 : w2.drew.cell? ⟨w.heap.size, 2, none⟩ = some (.string ow) := HK2.out.cell 2
    have d3 : w2.drew.cell? ⟨w.heap.size, 3, none⟩ = some (.bool bt) := HK2.out.cell 3
    have d4 : w2.drew.cell? ⟨w.heap.size, 4, none⟩ = some (.int .i64 sz) := HK2.out.cell 4
    have d5 : w2.drew.cell? ⟨w.heap.size, 5, none⟩ = some (.int .i64 sl) := HK2.out.cell 5
    have hlt2 : w.heap.size < w2.drew.heap.size := HK2.out.lt
    have HCC := Lib.hid (HC.out w2.drew HB2.out.drew)
    clear HC c0 c1 c2 c3 c4 c5
    refine wp_region_lit_plan [] [(1, 0), (0, 2), (2, 3), (3, 0), (4, 4), (5, 0), (6, 0)] (fun k => k = w.heap.size) (by kernel_rfl) (by kernel_rfl) (fun c a d v w h => by cases d <;> exact h) ?_
    go_wp2_with (first
      | (refine plan_pure (v := _) (by rfl) (by rfl) (by rfl) (by intro _; go_simp; with_reducible rfl) ?_; simp only [List.setIfInBounds_toArray, List.set_cons_zero, List.set_cons_succ]; try go_bits) | (refine plan_read (v := _) (by rfl) (by rfl) (by rfl) (by go_simp; with_reducible rfl) ?_; simp only [List.setIfInBounds_toArray, List.set_cons_zero, List.set_cons_succ]; try go_bits) | (refine plan_readB (v := _) (by rfl) (by rfl) (by rfl) (by intro _ hag; unfold Agree at hag; go_simp; with_reducible rfl) ?_; simp only [List.setIfInBounds_toArray, List.set_cons_zero, List.set_cons_succ]; try go_bits) | (refine plan_skip0 (by rfl) (by rfl) (by rfl) ?_; simp only [List.setIfInBounds_toArray, List.set_cons_zero, List.set_cons_succ]; try go_bits) | (refine plan_skip1 (by rfl) (by rfl) (by rfl) ?_; simp only [List.setIfInBounds_toArray, List.set_cons_zero, List.set_cons_succ]; try go_bits) | (refine plan_skip2 (by rfl) (by rfl) (by rfl) ?_; simp only [List.setIfInBounds_toArray, List.set_cons_zero, List.set_cons_succ]; try go_bits) | (refine plan_skip4 (by rfl) (by rfl) (by rfl) ?_; simp only [List.setIfInBounds_toArray, List.set_cons_zero, List.set_cons_succ]; try go_bits) | (refine plan_any (by rfl) ?_) | (refine plan_keep (by rfl) ?_) | (refine plan_nil ?_) | (with_reducible refine And.intro (by first | assumption | exact Agree.refl _ _ | exact agree_drew _ _ | exact agree_alloc _ (by intro k hk; subst hk; first | omega | (simp; omega))) ?_) | (unfold Act.put; simp only [List.setIfInBounds_toArray, List.set_cons_zero, List.set_cons_succ])
      | (go_at_call 25; refine HCC.out.mono ?_; clear HCC; rintro e w3 ⟨v3, rfl, ho3, hb3, hn3⟩; have hag3 : Agree (fun k => k = w.heap.size) w2.drew w3 := agree_blkW HK2.out.drew (HK2.out.drew.below hb3); obtain ⟨p3, c3, hv3, _, _⟩ := own_formW ho3; subst hv3; have HO3 := Lib.hid ho3; have HB3 := Lib.hid hb3; have HN3 := Lib.hid hn3; clear ho3 hb3 hn3))
    go_ret2
    have hb3 : Below w.heap.size w w3 := HB2.out.drew.trans (HB3.out.mono HB2.out.drew.size)
    have hal4 : Below w3.heap.size w3 (w3.alloc (.cells #[.string nm, .string on, .string ow, .bool bt, .int .i64 sz, .int .i64 sl, .slice none 0 0, .slice none 0 0, .slice p3 cl.length c3] 66)) := (Below.refl _ _).alloc (Nat.le_refl _) _
    refine .inr ⟨HRB.out, w3.heap.size, fun q => w.heap.size ≤ q ∧ q < w3.heap.size, rfl, hb3.size, ⟨_, _, _, Blk.new w3 66 _, ⟨[], by simp [seenW], UnitsAt.nil _ _⟩, ⟨[], by simp [stagW], UnitsAt.nil _ _⟩, ?_, fun h => by omega⟩, hb3.trans (hal4.mono hb3.size), fun q hq => hq.1⟩
    exact (HO3.out.sl (B := fun q => w.heap.size ≤ q ∧ q < w3.heap.size) (fun q hq => ⟨Nat.le_trans HB2.out.size (HN3.out q hq), HO3.out.lt q hq⟩)).below hal4
theorem seen_any (w : World) (b : Nat) (F : Nat → Prop) (v : WinV) (cl : List ColV) (all : List UnitA) (h : IsWin w b F v cl all) :
    Calls Try.prog 16 #[.pointer (some ⟨b, 0, none⟩)] w fun e w' => e = .returned (.int .i64 ((seenW v.size.toNat v.slide.toNat all).length : Nat)) ∧ w = w' := by
  obtain ⟨sv, tv, cv, hk, ⟨us, hus, hu⟩, _, _, _⟩ := h
  have c6 : w.cell? ⟨b, 6, none⟩ = some sv := hk.cell 6
  have hl := hk.lt
  rw [← hus, List.length_map]
  obtain ⟨p, c, rfl, _, _⟩ := hu.1.form
  clear hk hus hu
  go_enter Try.func16, Try.ntmps16
  go_wp2
  go_ret
  exact ⟨rfl, rfl⟩
theorem staged_any (w : World) (b : Nat) (F : Nat → Prop) (v : WinV) (cl : List ColV) (all : List UnitA) (h : IsWin w b F v cl all) :
    Calls Try.prog 17 #[.pointer (some ⟨b, 0, none⟩)] w fun e w' => e = .returned (.int .i64 ((stagW v.slide.toNat all).length : Nat)) ∧ w = w' := by
  obtain ⟨sv, tv, cv, hk, _, ⟨us, hus, hu⟩, _, _⟩ := h
  have c7 : w.cell? ⟨b, 7, none⟩ = some tv := hk.cell 7
  have hl := hk.lt
  rw [← hus, List.length_map]
  obtain ⟨p, c, rfl, _, _⟩ := hu.1.form
  clear hk hus hu
  go_enter Try.func17, Try.ntmps17
  go_wp2
  go_ret
  exact ⟨rfl, rfl⟩
theorem seen_nil (w : World) : Calls Try.prog 16 #[.pointer none] w fun e w' => e = .returned (.int .i64 0) ∧ Below w.heap.size w w' := by
  go_enter Try.func16, Try.ntmps16
  go_wp2
  go_ret
  exact ⟨rfl, Below.refl _ _⟩
theorem staged_nil (w : World) : Calls Try.prog 17 #[.pointer none] w fun e w' => e = .returned (.int .i64 0) ∧ Below w.heap.size w w' := by
  go_enter Try.func17, Try.ntmps17
  go_wp2
  go_ret
  exact ⟨rfl, Below.refl _ _⟩
theorem rows_nil (w : World) : Calls Try.prog 15 #[.pointer none] w fun e w' => e = .returned (.slice none 0 0) ∧ Below w.heap.size w w' := by
  go_enter Try.func15, Try.ntmps15
  go_wp2
  go_ret
  exact ⟨rfl, Below.refl _ _⟩
theorem bytes_nil (w : World) : Calls Try.prog 18 #[.pointer none] w fun e w' => e = .returned (.string ⟨#[]⟩) ∧ Below w.heap.size w w' := by
  go_enter Try.func18, Try.ntmps18
  go_wp2
  go_ret
  exact ⟨rfl, Below.refl _ _⟩
theorem load_nil (w : World) (s : ByteArray) : Calls Try.prog 19 #[.pointer none, .string s] w fun e w' => e = .returned (.int .i64 1) ∧ Below w.heap.size w w' := by
  go_enter Try.func19, Try.ntmps19
  go_wp2
  go_ret
  exact ⟨rfl, Below.refl _ _⟩
theorem put_nil (w : World) (j : Value) (p : Option Addr) (n c : Nat) : Calls Try.prog 12 #[.pointer none, j, .slice p n c] w fun e w' => e = .returned (.tuple #[.int .i64 0, .int .i64 1]) ∧ Below w.heap.size w w' := by
  go_enter Try.func12, Try.ntmps12
  go_wp2
  go_ret2
  exact ⟨rfl, Below.refl _ _⟩
theorem note_nil (w : World) (p : Option Addr) (n c : Nat) : Calls Try.prog 30 #[.pointer none, .slice p n c] w fun e w' => e = .returned (.tuple #[]) ∧ w = w' := by
  go_enter Try.func30, Try.ntmps30
  go_wp2
  go_end0
  exact ⟨rfl, rfl⟩
/-- Rows told so far: copies of their own. -/
def RowsSt (w wr : World) (lv : Value) (rws : List RowV) : Prop :=
  Own wr 56 1 lv rws.length (rowVals rws) ∧ (∀ q, lv.ownBlock = some q → w.heap.size ≤ q) ∧ Below w.heap.size w wr ∧
    ∀ r ∈ rws, Sl wr (fun q => w.heap.size ≤ q ∧ lv.ownBlock ≠ some q) 3 r.v r.l.length (rowCells r.l)
theorem RowsSt.nil (w : World) {wr : World} (hb : Below w.heap.size w wr) : RowsSt w wr (.slice none 0 0) [] := ⟨Own.nil _ _ _, by simp [Value.ownBlock], hb, by simp⟩
theorem RowsSt.at {w wr : World} {lv : Value} {rws : List RowV} (h : RowsSt w wr lv rws) : RowsAt wr (fun q => w.heap.size ≤ q) lv rws :=
  ⟨h.1.sl h.2.1, fun r hr => (h.2.2.2 r hr).mono (Nat.le_refl _) (fun _ _ _ => rfl) (fun q hq _ => hq.1)⟩
theorem RowsSt.app {w wr w1 w3 : World} {lv v3 v1 : Value} {rws : List RowV} {rl : List AV} {t : TypeId} (h : RowsSt w wr lv rws) (hb1 : Below wr.heap.size wr w1) (h1 : Own w1 86 3 v1 rl.length (rowCells rl)) (hf1 : ∀ q, v1.ownBlock = some q → wr.heap.size ≤ q)
    (g1 : Own w3 56 1 v3 (rws.length + 1) (rowVals rws ++ [v1])) (g2 : Only (fun k => lv.ownBlock = some k) (w1.alloc (.cells #[v1] t)) w3) (g3 : v3.ownBlock = lv.ownBlock ∨ v3.ownBlock = some (w1.alloc (.cells #[v1] t)).heap.size) :
    RowsSt w w3 v3 (rws ++ [⟨v1, rl⟩]) := by
  obtain ⟨ho, hn, hb, hi⟩ := h
  have hal : Below w1.heap.size w1 (w1.alloc (.cells #[v1] t)) := (Below.refl _ _).alloc (Nat.le_refl _) _
  have hz1 := hb1.size
  have hz2 := hal.size
  have hz0 := hb.size
  have hlo := ho.lt
  refine ⟨by rw [List.length_append, rowVals_append]; exact g1, fun q hq => ?_, ?_, fun r hr => ?_⟩
  · rcases g3 with h | h
    · rw [h] at hq; exact hn q hq
    · rw [h] at hq
      have : (w1.alloc (.cells #[v1] t)).heap.size = q := Option.some.inj hq
      omega
  · exact ((hb.trans (hb1.mono hz0)).trans (hal.mono (by omega))).trans (g2.below (by omega) (fun q hq => hn q hq))
  · rcases List.mem_append.1 hr with h | h
    · refine (hi r h).mono (by have := g2.size; omega) (fun q hq hl => ?_) (fun q hq hl => ⟨hq.1, fun h7 => ?_⟩)
      · rw [g2.block q (by omega) hq.2, hal.block q (by omega), hb1.block q hl]
      · rcases g3 with h | h
        · rw [h] at h7; exact hq.2 h7
        · rw [h] at h7
          have : (w1.alloc (.cells #[v1] t)).heap.size = q := Option.some.inj h7
          omega
    · rw [List.mem_singleton.1 h]
      refine (h1.sl (B := fun q => wr.heap.size ≤ q) hf1).mono (by have := g2.size; omega) (fun q hq hl => ?_) (fun q hq hl => ⟨by omega, fun h7 => ?_⟩)
      · rw [g2.block q (by omega) (fun h => by have := hlo q h; omega), hal.block q hl]
      · rcases g3 with h | h
        · rw [h] at h7; have := hlo q h7; omega
        · rw [h] at h7
          have : (w1.alloc (.cells #[v1] t)).heap.size = q := Option.some.inj h7
          omega
theorem elemRows : Elem Try.prog 36 56 1 24 (.slice none 0 0) :=
  ⟨Try.underlying36, by kernel_rfl, rfl, by omega, by intro u hu; simp [Value.cells] at hu; subst hu; rfl⟩
/-- The rows of units. -/
def flatU (us : List UnitA) : List (List AV) := us.flatten
set_option maxRecDepth 100000 in
set_option maxHeartbeats 1000000 in
theorem rows_any (w : World) (b : Nat) (F : Nat → Prop) (v : WinV) (cl : List ColV) (all : List UnitA) (h : IsWin w b F v cl all) (hs : ∀ u ∈ all, u.length ≤ 40 ∧ ∀ r ∈ u, r.length ≤ 1000) (hz : v.size ≤ 100) :
    Calls Try.prog 15 #[.pointer (some ⟨b, 0, none⟩)] w fun e w' => ∃ lv rws, e = .returned lv ∧ rws.map RowV.l = (seenW v.size.toNat v.slide.toNat all).flatten ∧ RowsAt w' (fun q => w.heap.size ≤ q) lv rws ∧ Below w.heap.size w w' := by
  obtain ⟨sv, tv, cv, hk, ⟨us, hus, hu⟩, _, _, _⟩ := h
  have c6 : w.cell? ⟨b, 6, none⟩ = some sv := hk.cell 6
  have hlb := hk.lt
  have hsl : us.length ≤ 100 := by
    have h1 := congrArg List.length hus
    rw [List.length_map, seenW_len] at h1
    omega
  have hsu : ∀ u ∈ us, u.rows.length ≤ 40 ∧ ∀ r ∈ u.rows, r.l.length ≤ 1000 := fun u hu2 => by
    have h1 : u.abs ∈ seenW v.size.toNat v.slide.toNat all := by rw [← hus]; exact List.mem_map_of_mem hu2
    have h2 := hs _ (List.mem_of_mem_take (List.mem_of_mem_drop h1))
    refine ⟨by simpa [UnitV.abs] using h2.1, fun r hr => h2.2 r.l (by unfold UnitV.abs; exact List.mem_map_of_mem hr)⟩
  rw [← hus]
  obtain ⟨ps, cs, rfl, _, _⟩ := hu.1.form
  have HU := Lib.hid hu
  have HSU := Lib.hid hsu
  have HS0 := Lib.hid (RowsSt.nil w (Below.refl w.heap.size w))
  obtain ⟨out, hout⟩ : ∃ out, (us.map UnitV.abs).flatten = out := ⟨_, rfl⟩
  rw [hout]
  have HOUT := Lib.hid hout
  clear hk hus hu hsu hs hout
  go_enter Try.func15, Try.ntmps15
  go_wp2
  go_loopw [3, 16] (fun lv i wr => ∃ (k : Nat) (rws : List RowV), i = .int .i64 k ∧ k ≤ us.length ∧ rws.map RowV.l = ((us.take k).map UnitV.abs).flatten ∧ rws.length ≤ k * 40 ∧ RowsSt w wr lv rws) (fun _ i _ => us.length - (intOf i).toNat)
  case atStart => exact ⟨0, [], rfl, Nat.zero_le _, rfl, Nat.zero_le _, HS0.out⟩
  case round =>
    obtain ⟨k, rws, rfl, hk, hr, hrl, hst⟩ := hrel
    have HR := Lib.hid hr
    have HST := Lib.hid hst
    by_cases hkl : k < us.length
    · obtain ⟨g, off, cap, hv, hck⟩ := (HU.out.below hst.2.2.1).at hkl
      cases hv
      have huk := HU.out.2 us[k] (List.getElem_mem hkl)
      have hsk := HSU.out us[k] (List.getElem_mem hkl)
      have HTK : Hid (((us.take (k + 1)).map UnitV.abs).flatten = ((us.take k).map UnitV.abs).flatten ++ us[k].rows.map RowV.l) := by
        show _ = _
        rw [List.take_succ_eq_append_getElem hkl, List.map_append, List.flatten_append]
        simp [UnitV.abs]
      generalize us[k] = u at *
      obtain ⟨uv, ur⟩ := u
      simp only at hck huk hsk HTK
      obtain ⟨pu, cu, rfl, _, _⟩ := huk.1.form
      have HUK := Lib.hid huk
      have HSK := Lib.hid hsk.2
      have hurl := hsk.1
      clear hr hst huk hsk
      obtain ⟨wo, rfl⟩ : ∃ wo : World, wo = wr := ⟨_, rfl⟩
      go_wp2
      go_loopw [3, 22] (fun lv i wr => ∃ (m : Nat) (rws : List RowV), i = .int .i64 m ∧ m ≤ ur.length ∧ rws.map RowV.l = ((us.take k).map UnitV.abs).flatten ++ (ur.take m).map RowV.l ∧ rws.length ≤ k * 40 + m ∧ RowsSt w wr lv rws) (fun _ i _ => ur.length - (intOf i).toNat)
      case atStart => exact ⟨0, rws, rfl, Nat.zero_le _, by simpa using HR.out, by omega, HST.out⟩
      case round =>
        obtain ⟨m, rws2, rfl, hm, hr2, hrl2, hst2⟩ := hrel
        have hrr := HUK.out.below hst2.2.2.1
        have HR2 := Lib.hid hr2
        have HST2 := Lib.hid hst2
        obtain ⟨pl, cc, hlv, hc1, hc2⟩ := own_formW hst2.1
        subst hlv
        by_cases hml : m < ur.length
        · obtain ⟨gu, ou, cu2, hvu, hcu⟩ := hrr.at hml
          cases hvu
          have hrow := hrr.2 ur[m] (List.getElem_mem hml)
          have hl3 := HSK.out ur[m] (List.getElem_mem hml)
          have HTM : Hid ((ur.take (m + 1)).map RowV.l = (ur.take m).map RowV.l ++ [ur[m].l]) := by show _ = _; rw [List.take_succ_eq_append_getElem hml, List.map_append]; rfl
          generalize ur[m] = r at *
          obtain ⟨rv, rl⟩ := r
          simp only at hcu hrow hl3 HTM
          have HCL := Lib.hid (clone_val wr _ rv _ _ hrow (by omega))
          obtain ⟨prr, crr, rfl, _, _⟩ := hrow.form
          clear hrow hrr hr2 hst2
          go_wp2_with fail
          refine HCL.out.mono ?_
          clear HCL
          rintro e w1 ⟨v1, rfl, h1, hb1, hf1⟩
          obtain ⟨p1, c1, hv1, hc11, hc12⟩ := own_formW h1
          subst hv1
          have hal2 : Below w1.heap.size w1 (w1.alloc (.cells #[.slice p1 rl.length c1] 56)) := (Below.refl _ _).alloc (Nat.le_refl _) _
          have ho1 := (HST2.out.1.below hb1).below hal2
          have hs1 := box1 w1 56 (.slice p1 rl.length c1) rfl
          have HH1 := Lib.hid h1
          have HB1 := Lib.hid hb1
          have HF1 := Lib.hid hf1
          have HAL2 := Lib.hid hal2
          clear h1 hb1 hf1 hal2
          go_upto_region 10 with (at_builtin; refine wpList_app rfl _ _ rfl elemRows (by rfl) ho1 (by rfl) hs1 (by unfold maxLen; omega) (by omega) ?_; intro v3 w3 g1 g2 g3 g4 g5)
          have hnew := RowsSt.app HST2.out HB1.out HH1.out HF1.out g1 g2 g3
          have HNEW := Lib.hid hnew
          clear g1 g2 g3 g4 g5 hnew
          go_wp2
          go_roundw
          case rel => exact ⟨m + 1, rws2 ++ [⟨.slice p1 rl.length c1, rl⟩], by go_num, by omega, by rw [List.map_append, HR2.out, HTM.out]; simp, by rw [List.length_append]; simp only [List.length_cons, List.length_nil]; omega, HNEW.out⟩
          case measure => (simp [intOf]) <;> omega
        · obtain rfl : m = ur.length := by omega
          rw [List.take_length] at hr2
          have HR3 := Lib.hid hr2
          clear hr2 hst2 hrr
          go_wp2
          go_roundw
          case rel => exact ⟨k + 1, rws2, by go_num, by omega, by rw [HTK.out, HR3.out], by omega, HST2.out⟩
          case measure => (simp [intOf]) <;> omega
    · obtain rfl : k = us.length := by omega
      rw [List.take_length, HOUT.out] at hr
      have HR3 := Lib.hid hr
      clear hr hst
      go_wp2
      go_ret
      exact ⟨_, rws, rfl, HR3.out, HST.out.at, HST.out.2.2.1⟩
end Go.Proofs.Ytedcljahcedpjaa
/- The document's bytes: Value, Row, Rows. -/
namespace Go.Proofs.Ytedcljahcedpjaa
open Go.RowKit Go.Afx

set_option maxRecDepth 100000 in
theorem refval (w : World) (v : AV) (hn : fit64 v.n) :
    Calls Try.prog 71 #[v.agg] w fun e w' => e = .returned (.string (bs (valB v))) ∧ Below w.heap.size w w' := by
  have HR := Lib.hid (fun w => refright w v)
  have hcat1 : ∀ l : List UInt8, (⟨#[1]⟩ : ByteArray) ++ bs l = bs (1 :: l) := fun l => bs_append [1] l
  have hcat2 : ∀ l : List UInt8, (⟨#[2]⟩ : ByteArray) ++ bs l = bs (2 :: l) := fun l => bs_append [2] l
  have hsz1 : (⟨#[1]⟩ : ByteArray).size = 1 := rfl
  have hsz2 : (⟨#[2]⟩ : ByteArray).size = 1 := rfl
  have hvl := valB_len v hn
  have HV : Hid (valB v = if v.right then rightB v else rightB AV.zero) := rfl
  have HRB : Hid (rightB v = UInt8.ofNat v.kind.toNat :: (if v.kind = 1 then signB v.n else if v.kind = 2 then textB v.s else [UInt8.ofNat v.n.toNat])) := rfl
  have hrd : v.right = ((v.kind == 1 && v.s.toList.isEmpty) || (v.kind == 2 && v.n == 0 && decide (v.s.size ≤ 200)) || (v.kind == 3 && (v.n == 0 || v.n == 1) && v.s.toList.isEmpty)) := rfl
  generalize valB v = out at *
  generalize rightB v = rb at *
  have HC1 := Lib.hid hcat1
  have HC2 := Lib.hid hcat2
  have hag : v.agg = .agg #[.int .i64 v.kind, .int .i64 v.n, .string v.s] := rfl
  rw [hag] at HR ⊢
  have HRD := Lib.hid hrd
  clear hag hcat1 hcat2 hrd
  generalize v.right = r at *
  generalize v.kind = k at *
  generalize v.n = n at *
  generalize v.s = s at *
  cases r
  · have HO : Hid (out = 1 :: signB 0) := HV.out
    have hc := HC1.out (signB 0)
    rw [← HO.out] at hc
    have HS := Lib.hid (fun w => refsign w 0 ⟨by omega, by omega⟩)
    have hsl : (bs (signB 0)).size ≤ 1010 := by rw [bs_size]; have := HO.out; rw [this] at hvl; simp at hvl; omega
    have hsum : (⟨#[1]⟩ : ByteArray).size + (bs (signB 0)).size ≤ 9223372036854775807 := by rw [hsz1]; omega
    clear HV HRB hvl HO hsz1 hsz2 hsl
    generalize bs (signB 0) = S at *
    generalize bs out = R at *
    go_enter Try.func71, Try.ntmps71
    go_wp2_with (first
      | (go_at_call 60; refine (HR.out _).mono ?_; rintro e w2 ⟨rfl, hb2⟩; have HB2 := Lib.hid hb2; clear hb2)
      | (go_at_call 77; refine (HS.out _).mono ?_; rintro e w3 ⟨rfl, hb3⟩; have HB3 := Lib.hid hb3; clear hb3))
    go_ret
    have h1 : Below w.heap.size w (w.alloc (.cells #[.int .i64 k, .int .i64 n, .string s] 86)) := (Below.refl _ _).alloc (Nat.le_refl _) _
    have h2 := h1.trans (HB2.out.mono h1.size)
    exact ⟨rfl, h2.trans (HB3.out.mono h2.size)⟩
  · have hcase : k = 1 ∨ (k = 2 ∧ n = 0 ∧ s.size ≤ 200) ∨ (k = 3 ∧ (n = 0 ∨ n = 1)) := by
      have := HRD.out
      simp at this
      omega
    have HO : Hid (out = rb) := HV.out
    clear HRD HV
    rcases hcase with rfl | ⟨rfl, rfl, hs⟩ | ⟨rfl, hn01⟩
    · have hrb : rb = 1 :: signB n := HRB.out
      rw [HO.out, hrb] at hvl ⊢
      have hc := HC1.out (signB n)
      have HS := Lib.hid (fun w => refsign w n hn)
      have hsl : (bs (signB n)).size ≤ 1010 := by rw [bs_size]; simp at hvl; omega
      have hsum : (⟨#[1]⟩ : ByteArray).size + (bs (signB n)).size ≤ 9223372036854775807 := by rw [hsz1]; omega
      clear HC1 HC2 HRB HO hrb hsz1 hsz2 hsl hvl
      generalize bs (1 :: signB n) = R at *
      generalize bs (signB n) = S at *
      have h1 : Below w.heap.size w (w.alloc (.cells #[.int .i64 1, .int .i64 n, .string s] 86)) := (Below.refl _ _).alloc (Nat.le_refl _) _
      have HK : Hid (Blk (w.alloc (.cells #[.int .i64 1, .int .i64 n, .string s] 86)) w.heap.size 86 [.int .i64 1, .int .i64 n, .string s]) := Blk.new w _ _
      have H1 := Lib.hid h1
      clear h1
      go_enter Try.func71, Try.ntmps71
      go_wp2_with fail
      refine (HR.out _).mono ?_
      clear HR
      rintro e w2 ⟨rfl, hb2⟩
      have hk2 := HK.out.below hb2
      have k0 : w2.cell? ⟨w.heap.size, 0, none⟩ = some (.int .i64 1) := hk2.cell 0
      have k1 : w2.cell? ⟨w.heap.size, 1, none⟩ = some (.int .i64 n) := hk2.cell 1
      have k2 : w2.cell? ⟨w.heap.size, 2, none⟩ = some (.string s) := hk2.cell 2
      have HB2 := Lib.hid (H1.out.trans (hb2.mono H1.out.size))
      clear hk2 hb2 HK H1
      go_wp2_with (go_at_call 77; refine (HS.out _).mono ?_; rintro e w3 ⟨rfl, hb3⟩)
      go_ret
      exact ⟨rfl, HB2.out.trans (hb3.mono HB2.out.size)⟩
    · have hrb : rb = 2 :: textB s := HRB.out
      rw [HO.out, hrb] at hvl ⊢
      have hc := HC2.out (textB s)
      have HS := Lib.hid (fun w => reftext w s (by omega))
      have hsl : (bs (textB s)).size ≤ 1010 := by rw [bs_size]; simp at hvl; omega
      have hsum : (⟨#[2]⟩ : ByteArray).size + (bs (textB s)).size ≤ 9223372036854775807 := by rw [hsz2]; omega
      clear HC1 HC2 HRB HO hrb hsz1 hsz2 hsl hvl hs
      generalize bs (2 :: textB s) = R at *
      generalize bs (textB s) = S at *
      have h1 : Below w.heap.size w (w.alloc (.cells #[.int .i64 2, .int .i64 0, .string s] 86)) := (Below.refl _ _).alloc (Nat.le_refl _) _
      have HK : Hid (Blk (w.alloc (.cells #[.int .i64 2, .int .i64 0, .string s] 86)) w.heap.size 86 [.int .i64 2, .int .i64 0, .string s]) := Blk.new w _ _
      have H1 := Lib.hid h1
      clear h1
      go_enter Try.func71, Try.ntmps71
      go_wp2_with fail
      refine (HR.out _).mono ?_
      clear HR
      rintro e w2 ⟨rfl, hb2⟩
      have hk2 := HK.out.below hb2
      have k0 : w2.cell? ⟨w.heap.size, 0, none⟩ = some (.int .i64 2) := hk2.cell 0
      have k1 : w2.cell? ⟨w.heap.size, 1, none⟩ = some (.int .i64 0) := hk2.cell 1
      have k2 : w2.cell? ⟨w.heap.size, 2, none⟩ = some (.string s) := hk2.cell 2
      have HB2 := Lib.hid (H1.out.trans (hb2.mono H1.out.size))
      clear hk2 hb2 HK H1
      go_wp2_with (go_at_call 78; refine (HS.out _).mono ?_; rintro e w3 ⟨rfl, hb3⟩)
      go_ret
      exact ⟨rfl, HB2.out.trans (hb3.mono HB2.out.size)⟩
    · rcases hn01 with rfl | rfl
      · have hrb : rb = [3, 0] := HRB.out
        rw [HO.out, hrb] at hvl ⊢
        have HCV : Hid (∀ w : World, (convert 88 9 (.slice (some ⟨w.heap.size, 0, none⟩) 2 2)).run Try.prog (w.alloc (.cells #[.int .u8 3, .int .u8 0] 5)) = .ok (.string (bs [3, 0])) (w.alloc (.cells #[.int .u8 3, .int .u8 0] 5))) := fun w => cv_block w [3, 0]
        clear HC1 HC2 HRB HO hrb hsz1 hsz2 hvl hn
        generalize bs [3, 0] = R at *
        have h1 : Below w.heap.size w (w.alloc (.cells #[.int .i64 3, .int .i64 0, .string s] 86)) := (Below.refl _ _).alloc (Nat.le_refl _) _
        have HK : Hid (Blk (w.alloc (.cells #[.int .i64 3, .int .i64 0, .string s] 86)) w.heap.size 86 [.int .i64 3, .int .i64 0, .string s]) := Blk.new w _ _
        have H1 := Lib.hid h1
        clear h1
        go_enter Try.func71, Try.ntmps71
        go_wp2_with fail
        refine (HR.out _).mono ?_
        clear HR
        rintro e w2 ⟨rfl, hb2⟩
        have hk2 := HK.out.below hb2
        have k0 : w2.cell? ⟨w.heap.size, 0, none⟩ = some (.int .i64 3) := hk2.cell 0
        have k1 : w2.cell? ⟨w.heap.size, 1, none⟩ = some (.int .i64 0) := hk2.cell 1
        have k2 : w2.cell? ⟨w.heap.size, 2, none⟩ = some (.string s) := hk2.cell 2
        have HB2 := Lib.hid (H1.out.trans (hb2.mono H1.out.size))
        clear hk2 hb2 HK H1
        have cv := HCV.out w2
        go_wp2
        go_ret
        exact ⟨rfl, HB2.out.alloc HB2.out.size _⟩
      · have hrb : rb = [3, 1] := HRB.out
        rw [HO.out, hrb] at hvl ⊢
        have HCV : Hid (∀ w : World, (convert 88 9 (.slice (some ⟨w.heap.size, 0, none⟩) 2 2)).run Try.prog (w.alloc (.cells #[.int .u8 3, .int .u8 1] 5)) = .ok (.string (bs [3, 1])) (w.alloc (.cells #[.int .u8 3, .int .u8 1] 5))) := fun w => cv_block w [3, 1]
        clear HC1 HC2 HRB HO hrb hsz1 hsz2 hvl hn
        generalize bs [3, 1] = R at *
        have h1 : Below w.heap.size w (w.alloc (.cells #[.int .i64 3, .int .i64 1, .string s] 86)) := (Below.refl _ _).alloc (Nat.le_refl _) _
        have HK : Hid (Blk (w.alloc (.cells #[.int .i64 3, .int .i64 1, .string s] 86)) w.heap.size 86 [.int .i64 3, .int .i64 1, .string s]) := Blk.new w _ _
        have H1 := Lib.hid h1
        clear h1
        go_enter Try.func71, Try.ntmps71
        go_wp2_with fail
        refine (HR.out _).mono ?_
        clear HR
        rintro e w2 ⟨rfl, hb2⟩
        have hk2 := HK.out.below hb2
        have k0 : w2.cell? ⟨w.heap.size, 0, none⟩ = some (.int .i64 3) := hk2.cell 0
        have k1 : w2.cell? ⟨w.heap.size, 1, none⟩ = some (.int .i64 1) := hk2.cell 1
        have k2 : w2.cell? ⟨w.heap.size, 2, none⟩ = some (.string s) := hk2.cell 2
        have HB2 := Lib.hid (H1.out.trans (hb2.mono H1.out.size))
        clear hk2 hb2 HK H1
        have cv := HCV.out w2
        go_wp2
        go_ret
        exact ⟨rfl, HB2.out.alloc HB2.out.size _⟩
end Go.Proofs.Ytedcljahcedpjaa
/- The document's bytes: Row, Rows. -/
namespace Go.Proofs.Ytedcljahcedpjaa
open Go.RowKit Go.Afx

set_option maxRecDepth 100000 in
theorem refrow (w : World) (B : Nat → Prop) (v : Value) (l : List AV) (hl : Sl w B 3 v l.length (rowCells l)) (hf : ∀ a ∈ l, fit64 a.n) (hll : l.length ≤ 10000) :
    Calls Try.prog 63 #[v] w fun e w' => e = .returned (.string (bs (rowB l))) ∧ Below w.heap.size w w' := by
  obtain ⟨p, cap, rfl, hc1, hc2⟩ := hl.form
  have HL := Lib.hid hl
  have HF := Lib.hid hf
  have HS := Lib.hid (refsize w l.length (by unfold fit64; omega))
  have hsz := be_len8 (max (l.length : Int) 0).toNat (by omega)
  have HSZ : Hid ((sizeB l.length).length ≤ 9) := hsz
  clear hl hf hsz
  go_enter Try.func63, Try.ntmps63
  go_wp2_with (go_at_call 48; refine HS.out.mono ?_; clear HS; rintro e w2 ⟨rfl, hb2⟩)
  go_loopw [3, 4] (fun s i wr => ∃ k : Nat, i = .int .i64 k ∧ k ≤ l.length ∧ s = .string (bs (sizeB l.length ++ laid valB (l.take k))) ∧ Below w.heap.size w wr) (fun _ i _ => l.length - (intOf i).toNat)
  case atStart => exact ⟨0, rfl, Nat.zero_le _, by simp [laid], hb2⟩
  case round =>
    obtain ⟨k, rfl, hk, rfl, hb⟩ := hrel
    have HB := Lib.hid hb
    have hll2 := laid_len valB 1010 (l.take k) (fun a ha => valB_len a (HF.out a (List.mem_of_mem_take ha)))
    have hlk : (l.take k).length ≤ 10000 := by rw [List.length_take]; omega
    by_cases hka : k < l.length
    · obtain ⟨g, off, cap', hv, hg, e0, e1, e2⟩ := sl_av (HL.out.below hb) hka
      cases hv
      have HN := Lib.hid (laid_next valB l k hka)
      have hx := HF.out l[k] (List.getElem_mem hka)
      have hvl := valB_len _ hx
      generalize l[k] = x at *
      have hcat : bs (sizeB l.length ++ laid valB (l.take k)) ++ bs (valB x) = bs (sizeB l.length ++ laid valB (l.take (k + 1))) := by rw [bs_append, HN.out, List.append_assoc]
      have hsum : (bs (sizeB l.length ++ laid valB (l.take k))).size + (bs (valB x)).size ≤ 9223372036854775807 := by
        have := HSZ.out
        rw [bs_size, bs_size, List.length_append]; omega
      have HV := Lib.hid (refval wr x hx)
      have hag : x.agg = .agg #[.int .i64 x.kind, .int .i64 x.n, .string x.s] := rfl
      rw [hag] at HV
      clear hag hb hx hvl hll2 hlk
      generalize bs (sizeB l.length ++ laid valB (l.take k)) = S at *
      generalize hR : bs (sizeB l.length ++ laid valB (l.take (k + 1))) = R at *
      have HR := Lib.hid hR
      clear hR
      generalize bs (valB x) = T at *
      go_wp2_with (go_at_call 71; refine HV.out.mono ?_; clear HV; rintro e w3 ⟨rfl, hb3⟩)
      go_roundw
      case rel => exact ⟨k + 1, by go_num, by omega, by rw [HR.out], HB.out.trans (hb3.mono HB.out.size)⟩
      case measure => (simp [intOf]) <;> omega
    · obtain rfl : k = l.length := by omega
      rw [List.take_length]
      have HE : Hid (rowB l = sizeB l.length ++ laid valB l) := rfl
      generalize sizeB l.length ++ laid valB l = S at *
      clear hb hll2 hlk
      go_wp2
      go_ret
      exact ⟨by rw [HE.out]; rfl, HB.out⟩

def rowsB2 (rows : List (List AV)) : List UInt8 := sizeB rows.length ++ laid rowB rows
theorem rowsB_2 (rows : List RowV) : rowsB rows = rowsB2 (rows.map RowV.l) := by
  unfold rowsB rowsB2 laid
  rw [List.length_map, List.map_map]
  rfl

set_option maxRecDepth 100000 in
theorem refrows (w : World) (B : Nat → Prop) (v : Value) (rows : List RowV) (hl : RowsAt w B v rows) (hf : ∀ r ∈ rows, (∀ a ∈ r.l, fit64 a.n) ∧ r.l.length ≤ 100) (hll : rows.length ≤ 1000) :
    Calls Try.prog 49 #[v] w fun e w' => e = .returned (.string (bs (rowsB rows))) ∧ Below w.heap.size w w' := by
  obtain ⟨p, cap, rfl, hc1, hc2⟩ := hl.1.form
  have HL := Lib.hid hl
  have HF := Lib.hid hf
  have HS := Lib.hid (refsize w rows.length (by unfold fit64; omega))
  have hsz := be_len8 (max (rows.length : Int) 0).toNat (by omega)
  have HSZ : Hid ((sizeB rows.length).length ≤ 9) := hsz
  clear hl hf hsz
  go_enter Try.func49, Try.ntmps49
  go_wp2_with (go_at_call 48; refine HS.out.mono ?_; clear HS; rintro e w2 ⟨rfl, hb2⟩)
  go_loopw [3, 4] (fun s i wr => ∃ k : Nat, i = .int .i64 k ∧ k ≤ rows.length ∧ s = .string (bs (sizeB rows.length ++ laid (fun r : RowV => rowB r.l) (rows.take k))) ∧ Below w.heap.size w wr) (fun _ i _ => rows.length - (intOf i).toNat)
  case atStart => exact ⟨0, rfl, Nat.zero_le _, by simp [laid], hb2⟩
  case round =>
    obtain ⟨k, rfl, hk, rfl, hb⟩ := hrel
    have HB := Lib.hid hb
    have hll2 := laid_len (fun r : RowV => rowB r.l) 101009 (rows.take k) (fun r hr => by
      have h1 := HF.out r (List.mem_of_mem_take hr)
      exact rowB_len r.l h1.1 h1.2)
    have hlk : (rows.take k).length ≤ 1000 := by rw [List.length_take]; omega
    by_cases hka : k < rows.length
    · obtain ⟨g, off, cap', hv, hck⟩ := (HL.out.below hb).at hka
      cases hv
      have hrow := (HL.out.below hb).2 rows[k] (List.getElem_mem hka)
      have HN := Lib.hid (laid_next (fun r : RowV => rowB r.l) rows k hka)
      have hx := HF.out rows[k] (List.getElem_mem hka)
      have hvl := rowB_len _ hx.1 hx.2
      generalize rows[k] = x at *
      have hcat : bs (sizeB rows.length ++ laid (fun r : RowV => rowB r.l) (rows.take k)) ++ bs (rowB x.l) = bs (sizeB rows.length ++ laid (fun r : RowV => rowB r.l) (rows.take (k + 1))) := by rw [bs_append, HN.out, List.append_assoc]
      have hsum : (bs (sizeB rows.length ++ laid (fun r : RowV => rowB r.l) (rows.take k))).size + (bs (rowB x.l)).size ≤ 9223372036854775807 := by
        have := HSZ.out
        rw [bs_size, bs_size, List.length_append]; omega
      have HV := Lib.hid (refrow wr _ _ x.l hrow hx.1 (by omega))
      clear hb hx hvl hll2 hlk hrow
      generalize bs (sizeB rows.length ++ laid (fun r : RowV => rowB r.l) (rows.take k)) = S at *
      generalize hR : bs (sizeB rows.length ++ laid (fun r : RowV => rowB r.l) (rows.take (k + 1))) = R at *
      have HR := Lib.hid hR
      clear hR
      generalize bs (rowB x.l) = T at *
      go_wp2_with (go_at_call 63; refine HV.out.mono ?_; clear HV; rintro e w3 ⟨rfl, hb3⟩)
      go_roundw
      case rel => exact ⟨k + 1, by go_num, by omega, by rw [HR.out], HB.out.trans (hb3.mono HB.out.size)⟩
      case measure => (simp [intOf]) <;> omega
    · obtain rfl : k = rows.length := by omega
      rw [List.take_length]
      have HE : Hid (rowsB rows = sizeB rows.length ++ laid (fun r : RowV => rowB r.l) rows) := rfl
      generalize sizeB rows.length ++ laid (fun r : RowV => rowB r.l) rows = S at *
      clear hb hll2 hlk
      go_wp2
      go_ret
      exact ⟨by rw [HE.out]; rfl, HB.out⟩
end Go.Proofs.Ytedcljahcedpjaa
/- Windows: Bytes. -/
namespace Go.Proofs.Ytedcljahcedpjaa
open Go.RowKit Go.Afx

theorem wvalB_len (v : AV) (hr : v.right = true) (hn : fit64 v.n) : (valB v).length ≤ 210 := by
  unfold valB
  rw [if_pos hr]
  unfold rightB
  simp [AV.right] at hr
  rcases hr with (⟨h1, _⟩ | ⟨⟨h1, _⟩, h2⟩) | ⟨⟨h1, _⟩, _⟩
  · rw [if_pos h1]
    have : (signB v.n).length ≤ 9 := be_len8 _ (by unfold fit64 at hn; unfold zig; split <;> omega)
    simp only [List.length_cons]; omega
  · rw [if_neg (by omega), if_pos h1]
    have h3 : (textB v.s).length ≤ 209 := by
      unfold textB
      have := be_len8 v.s.size (by omega)
      have h4 : v.s.data.toList.length = v.s.size := Array.length_toList
      rw [List.length_append, h4]; omega
    simp only [List.length_cons]; omega
  · rw [if_neg (by omega), if_neg (by omega)]
    simp
theorem wrowB_len (l : List AV) (h : rightAll l = true) (hn : ∀ a ∈ l, fit64 a.n) (hl : l.length ≤ 8) : (rowB l).length ≤ 1689 := by
  have h0 : ∀ a ∈ l, a.right = true := List.all_eq_true.1 h
  have h1 := laid_len valB 210 l (fun a ha => wvalB_len a (h0 a ha) (hn a ha))
  have h2 : (sizeB l.length).length ≤ 9 := be_len8 _ (by omega)
  unfold rowB
  rw [List.length_append]; omega
/-- A unit that a window may hold. -/
def SmallU (u : UnitA) : Prop := u.length ≤ 32 ∧ ∀ r ∈ u, r.length ≤ 8 ∧ rightAll r = true ∧ ∀ a ∈ r, fit64 a.n
theorem unitB_len (u : UnitA) (h : SmallU u) : (rowsB2 u).length ≤ 54057 := by
  have h1 := laid_len rowB 1689 u (fun r hr => wrowB_len r (h.2 r hr).2.1 (h.2 r hr).2.2 (h.2 r hr).1)
  have h2 : (sizeB u.length).length ≤ 9 := be_len8 _ (by have := h.1; omega)
  have h3 := h.1
  unfold rowsB2
  rw [List.length_append]
  omega
/-- Units, laid. -/
def layU (l : List UnitA) : List UInt8 := sizeB l.length ++ laid rowsB2 l
theorem layPart_len (n : Nat) (l : List UnitA) (h : ∀ u ∈ l, SmallU u) (hl : l.length ≤ 100) (hn : n ≤ 100) : (sizeB n ++ laid rowsB2 l).length ≤ 5405709 := by
  have h1 := laid_len rowsB2 54057 l (fun u hu => unitB_len u (h u hu))
  have h2 : (sizeB n).length ≤ 9 := be_len8 _ (by omega)
  rw [List.length_append]
  omega
/-- What Bytes' writer keeps: its bytes, and beside it the list of the two lists. -/
def BytesSt (w wr : World) (lb : Nat) (sv tv : Value) (l : List UInt8) : Prop :=
  ∃ F, Buf wr 92 w.heap.size F [] l ∧ (∀ k, F k → w.heap.size ≤ k ∧ k ≠ lb) ∧ Below w.heap.size w wr ∧ Blk wr lb 62 [sv, tv]
theorem BytesSt.step {w wr w' : World} {lb : Nat} {sv tv : Value} {l' : List UInt8} {F F' : Nat → Prop} (hF : ∀ k, F k → w.heap.size ≤ k ∧ k ≠ lb) (hb : Below w.heap.size w wr) (hk : Blk wr lb 62 [sv, tv])
    (h1 : Buf w' 92 w.heap.size F' [] l') (h2 : Only F wr w') (h3 : ∀ k, F' k → F k ∨ wr.heap.size ≤ k) : BytesSt w w' lb sv tv l' := by
  have hz := hb.size
  have hl := hk.lt
  refine ⟨F', h1, fun k hk2 => ?_, hb.trans (h2.below hz (fun k hk => (hF k hk).1)), hk.only h2 (fun h => (hF _ h).2 rfl)⟩
  rcases h3 k hk2 with h | h
  · exact hF k h
  · omega
set_option maxRecDepth 100000 in
set_option maxHeartbeats 4000000 in
theorem wbytes_any (w : World) (b : Nat) (F0 : Nat → Prop) (v : WinV) (cl : List ColV) (all : List UnitA) (h : IsWin w b F0 v cl all) (hs : ∀ u ∈ all, SmallU u) (hz : v.size ≤ 100) (hz2 : 1 ≤ v.slide) (hz3 : v.slide ≤ v.size) :
    Calls Try.prog 18 #[.pointer (some ⟨b, 0, none⟩)] w fun e w' => e = .returned (.string (bs (layU (seenW v.size.toNat v.slide.toNat all) ++ layU (stagW v.slide.toNat all)))) ∧ Below w.heap.size w w' := by
  obtain ⟨sv, tv, cv, hk, ⟨us, hus, hu⟩, ⟨ut, hut, ht⟩, _, _⟩ := h
  have hlb := hk.lt
  have hsl : us.length ≤ 100 := by
    have h1 := congrArg List.length hus
    rw [List.length_map, seenW_len] at h1
    omega
  have htl : ut.length ≤ 100 := by
    have h1 := congrArg List.length hut
    rw [List.length_map, stagW_len] at h1
    have h2 := slidK_lt (show 0 < v.slide.toNat by omega) all.length
    omega
  have hsu : ∀ u ∈ us, SmallU u.abs := fun u hu2 => by
    have h1 : u.abs ∈ seenW v.size.toNat v.slide.toNat all := by rw [← hus]; exact List.mem_map_of_mem hu2
    exact hs _ (List.mem_of_mem_take (List.mem_of_mem_drop h1))
  have hst : ∀ u ∈ ut, SmallU u.abs := fun u hu2 => by
    have h1 : u.abs ∈ stagW v.slide.toNat all := by rw [← hut]; exact List.mem_map_of_mem hu2
    exact hs _ (List.mem_of_mem_drop h1)
  obtain ⟨SA, hsa⟩ : ∃ SA, seenW v.size.toNat v.slide.toNat all = SA := ⟨_, rfl⟩
  obtain ⟨TA, hta⟩ : ∃ TA, stagW v.slide.toNat all = TA := ⟨_, rfl⟩
  rw [hsa] at hus ⊢
  rw [hta] at hut ⊢
  obtain ⟨ps, cs, rfl, _, _⟩ := hu.1.form
  obtain ⟨pt, ct, rfl, _, _⟩ := ht.1.form
  obtain ⟨sv, hsv⟩ : ∃ sv, Value.slice ps us.length cs = sv := ⟨_, rfl⟩
  obtain ⟨tv, htv⟩ : ∃ tv, Value.slice pt ut.length ct = tv := ⟨_, rfl⟩
  have HU := Lib.hid hu
  have HT := Lib.hid ht
  have HSU := Lib.hid hsu
  have HSTT := Lib.hid hst
  have HUS := Lib.hid hus
  have HUT := Lib.hid hut
  have HSV := Lib.hid hsv
  have HTV := Lib.hid htv
  obtain ⟨w1, hw1⟩ : ∃ w1, w.alloc (.cells #[.slice none 0 0] 92) = w1 := ⟨_, rfl⟩
  have b1 : Below w.heap.size w w1 := hw1 ▸ (Below.refl _ _).alloc (Nat.le_refl _) _
  have hs1 : w1.heap.size = w.heap.size + 1 := by rw [← hw1]; simp
  have k1 : Blk w1 w.heap.size 92 [.slice none 0 0] := hw1 ▸ Blk.new w _ _
  have kb := hk.below b1
  have d6 : w1.drew.cell? ⟨b, 6, none⟩ = some (.slice ps us.length cs) := kb.cell 6
  have d7 : w1.drew.cell? ⟨b, 7, none⟩ = some (.slice pt ut.length ct) := kb.cell 7
  have hlt1 : b < w1.drew.heap.size := kb.lt
  have hst0 : BytesSt w (w1.drew.alloc (.cells #[.slice ps us.length cs, .slice pt ut.length ct] 62)) w1.heap.size sv tv [] := by
    refine ⟨fun k => k = w.heap.size, ⟨.slice none 0 0, k1.drew.alloc _, Own.nil _ _ _, rfl, fun k hk => by simp [Value.ownBlock] at hk⟩, fun k hk => by omega, (b1.drew.alloc b1.size _), ?_⟩
    rw [← HSV.out, ← HTV.out]
    exact Blk.new w1.drew 62 [.slice ps us.length cs, .slice pt ut.length ct]
  have HST0 := Lib.hid hst0
  have HS1 := Lib.hid hs1
  clear hst0 b1 k1 kb hk hu ht hsu hst hs hus hut hsa hta hsv htv hs1
  go_enter Try.func18, Try.ntmps18
  go_wp2_with fail
  clear hw1
  refine wp_region_lit_plan [] [(0, 0), (1, 0), (2, 0), (3, 0), (5, 0), (6, 0), (7, 0), (8, 0), (12, 0), (4, 1), (9, 1), (10, 4), (11, 0)] (fun _ => False) (by kernel_rfl) (by kernel_rfl) (fun c a d v w h => by cases d <;> exact h) ?_
  go_wp2_with (first
    | (refine plan_pure (v := _) (by rfl) (by rfl) (by rfl) (by intro _; go_simp; with_reducible rfl) ?_; simp only [List.setIfInBounds_toArray, List.set_cons_zero, List.set_cons_succ]; try go_bits) | (refine plan_read (v := _) (by rfl) (by rfl) (by rfl) (by go_simp; with_reducible rfl) ?_; simp only [List.setIfInBounds_toArray, List.set_cons_zero, List.set_cons_succ]; try go_bits) | (refine plan_readB (v := _) (by rfl) (by rfl) (by rfl) (by intro _ hag; unfold Agree at hag; go_simp; with_reducible rfl) ?_; simp only [List.setIfInBounds_toArray, List.set_cons_zero, List.set_cons_succ]; try go_bits) | (refine plan_skip0 (by rfl) (by rfl) (by rfl) ?_; simp only [List.setIfInBounds_toArray, List.set_cons_zero, List.set_cons_succ]; try go_bits) | (refine plan_skip1 (by rfl) (by rfl) (by rfl) ?_; simp only [List.setIfInBounds_toArray, List.set_cons_zero, List.set_cons_succ]; try go_bits) | (refine plan_skip2 (by rfl) (by rfl) (by rfl) ?_; simp only [List.setIfInBounds_toArray, List.set_cons_zero, List.set_cons_succ]; try go_bits) | (refine plan_skip4 (by rfl) (by rfl) (by rfl) ?_; simp only [List.setIfInBounds_toArray, List.set_cons_zero, List.set_cons_succ]; try go_bits) | (refine plan_any (by rfl) ?_) | (refine plan_keep (by rfl) ?_) | (refine plan_nil ?_) | (with_reducible refine And.intro (by first | assumption | exact Agree.refl _ _ | exact agree_drew _ _ | exact agree_alloc _ (by intro k hk; subst hk; first | omega | (simp; omega))) ?_) | (unfold Act.put; simp only [List.setIfInBounds_toArray, List.set_cons_zero, List.set_cons_succ]))
  go_loopw [24] (fun i wr => ∃ k : Nat, i = .int .i64 k ∧ k ≤ 2 ∧ BytesSt w wr w1.heap.size sv tv (if k = 0 then [] else if k = 1 then layU SA else layU SA ++ layU TA)) (fun i _ => 2 - (intOf i).toNat)
  case atStart => exact ⟨0, rfl, Nat.zero_le _, HST0.out⟩
  case round =>
    obtain ⟨k, rfl, hk, hst⟩ := hrel
    have hd : k = 0 ∨ k = 1 ∨ k = 2 := by omega
    obtain ⟨FB, hb0, hf0, hbw, hkl⟩ := hst
    have HF := Lib.hid hf0
    have HB := Lib.hid hbw
    have HK := Lib.hid hkl
    have e0 : wr.cell? ⟨w1.heap.size, 0, none⟩ = some (.slice ps us.length cs) := by rw [HSV.out]; exact hkl.cell 0
    have e1 : wr.cell? ⟨w1.heap.size, 1, none⟩ = some (.slice pt ut.length ct) := by rw [HTV.out]; exact hkl.cell 1
    have hltk : w1.heap.size < wr.heap.size := hkl.lt
    rcases hd with rfl | rfl | rfl
    · obtain ⟨pre, hpre⟩ : ∃ pre : List UInt8, pre = [] := ⟨_, rfl⟩
      have HPL : Hid (pre.length ≤ 5405709) := by show _ ≤ _; rw [hpre]; simp
      have HSZ := Lib.hid (size_one wr _ _ FB [] pre (by rw [hpre]; exact hb0) us.length (by omega) (by rw [hpre]; simp)).out
      have HPRE := Lib.hid hpre
      have HXU := HU
      have HXS := HSU
      have HXL : Hid (us.length ≤ 100) := hsl
      have HXA := HUS
      clear hpre hb0 hf0 hbw hkl e1 HU HSU
      obtain ⟨xs, rfl⟩ : ∃ xs, xs = us := ⟨_, rfl⟩
      go_wp2_with fail
      refine HSZ.out.mono ?_
      clear HSZ
      rintro e w2 ⟨rfl, F2, h21, h22, h23⟩
      have hst2 := BytesSt.step HF.out HB.out HK.out h21 h22 h23
      have HST2 := Lib.hid hst2
      clear h21 h22 h23 hst2
      obtain ⟨wo, rfl⟩ : ∃ wo : World, wo = wr := ⟨_, rfl⟩
      go_wp2
      go_loopw [35] (fun i wr => ∃ m : Nat, i = .int .i64 m ∧ m ≤ xs.length ∧ BytesSt w wr w1.heap.size sv tv (pre ++ (sizeB xs.length ++ laid rowsB2 ((xs.take m).map UnitV.abs)))) (fun i _ => xs.length - (intOf i).toNat)
      case atStart => exact ⟨0, rfl, Nat.zero_le _, by simpa [laid] using HST2.out⟩
      case round =>
        obtain ⟨m, rfl, hm, hst3⟩ := hrel
        obtain ⟨F3, hb3, hf3, hbw3, hk3⟩ := hst3
        have HF3 := Lib.hid hf3
        have HB3 := Lib.hid hb3
        have HW3 := Lib.hid hbw3
        have HK3 := Lib.hid hk3
        by_cases hml : m < xs.length
        · obtain ⟨gu, ou, cu, hvu, hcu⟩ := (HXU.out.below hbw3).at hml
          cases hvu
          have hrr := HXU.out.2 xs[m] (List.getElem_mem hml)
          have hsm := HXS.out xs[m] (List.getElem_mem hml)
          have HTM : Hid (pre ++ (sizeB xs.length ++ laid rowsB2 ((xs.take m).map UnitV.abs)) ++ rowsB xs[m].rows = pre ++ (sizeB xs.length ++ laid rowsB2 ((xs.take (m + 1)).map UnitV.abs))) := by
            show _ = _
            rw [List.take_succ_eq_append_getElem hml, List.map_append, rowsB_2]
            simp [laid, UnitV.abs]
          have hlen3 : (pre ++ (sizeB xs.length ++ laid rowsB2 ((xs.take m).map UnitV.abs))).length ≤ 10811418 := by
            rw [List.length_append]
            have h1 := layPart_len xs.length ((xs.take m).map UnitV.abs) (fun u hu => by
              obtain ⟨x, hx, rfl⟩ := List.mem_map.1 hu
              exact HXS.out x (List.mem_of_mem_take hx)) (by rw [List.length_map, List.length_take]; have := HXL.out; omega) HXL.out
            have h2 := HPL.out
            omega
          generalize xs[m] = u at *
          obtain ⟨uv, ur⟩ := u
          simp only at hcu hrr HTM
          obtain ⟨pu, cu2, rfl, _, _⟩ := hrr.1.form
          have hsm2 : ur.length ≤ 32 ∧ ∀ r ∈ ur, r.l.length ≤ 8 ∧ rightAll r.l = true ∧ ∀ a ∈ r.l, fit64 a.n := ⟨by simpa [UnitV.abs] using hsm.1, fun r hr => hsm.2 r.l (by unfold UnitV.abs; exact List.mem_map_of_mem hr)⟩
          have hir : IsRows wr (fun k => ¬ F3 k) (.slice pu ur.length cu2) ur :=
            ⟨hrr.1.mono hbw3.size (fun q _ hl => hbw3.block q hl) (fun q _ hl h => by have := (hf3 q h).1; omega), fun r hr => ⟨(hrr.2 r hr).mono hbw3.size (fun q _ hl => hbw3.block q hl) (fun q _ hl h => by have := (hf3 q h).1; omega), (hsm2.2 r hr).2.2, by have := (hsm2.2 r hr).1; omega⟩⟩
          have HRW := Lib.hid (rows_wr wr _ _ F3 [] _ hb3 _ ur hir (by omega) (by omega) (fun r hr => by have := (hsm2.2 r hr).1; omega))
          clear hir hrr hsm hsm2 hb3 hf3 hbw3 hk3 hlen3
          go_wp2_with fail
          refine HRW.out.mono ?_
          clear HRW
          rintro e w4 ⟨rfl, F4, h41, h42, h43⟩
          have hst4 := BytesSt.step HF3.out HW3.out HK3.out h41 h42 h43
          rw [HTM.out] at hst4
          have HST4 := Lib.hid hst4
          clear h41 h42 h43 hst4
          go_wp2
          go_roundw
          case rel => exact ⟨m + 1, by go_num, by omega, HST4.out⟩
          case measure => (simp [intOf]) <;> omega
        · obtain rfl : m = xs.length := by omega
          have hfin : BytesSt w wr w1.heap.size sv tv (pre ++ layU (xs.map UnitV.abs)) := by
            refine ⟨F3, ?_, hf3, hbw3, hk3⟩
            rw [List.take_length] at hb3
            unfold layU
            rw [List.length_map]
            exact hb3
          rw [HXA.out] at hfin
          have HFIN := Lib.hid hfin
          clear hfin hb3 hf3 hbw3 hk3
          go_wp2
          go_roundw
          case rel => exact ⟨1, by first | rfl | go_num, by omega, by have h := HFIN.out; rw [HPRE.out] at h; simpa using h⟩
          case measure => simp [intOf]
    · have hl1 : (layU SA).length ≤ 5405709 := by
        rw [← HUS.out]
        unfold layU
        rw [List.length_map]
        exact layPart_len us.length _ (fun u hu => by
          obtain ⟨x, hx, rfl⟩ := List.mem_map.1 hu
          exact HSU.out x hx) (by rw [List.length_map]; exact hsl) hsl
      obtain ⟨pre, hpre⟩ : ∃ pre : List UInt8, pre = layU SA := ⟨_, rfl⟩
      have HPL : Hid (pre.length ≤ 5405709) := by show _ ≤ _; rw [hpre]; exact hl1
      have HSZ := Lib.hid (size_one wr _ _ FB [] pre (by rw [hpre]; exact hb0) ut.length (by omega) (by rw [hpre]; omega)).out
      have HPRE := Lib.hid hpre
      have HXU := HT
      have HXS := HSTT
      have HXL : Hid (ut.length ≤ 100) := htl
      have HXA := HUT
      clear hpre hb0 hf0 hbw hkl e0 HT HSTT hl1
      obtain ⟨xs, rfl⟩ : ∃ xs, xs = ut := ⟨_, rfl⟩
      go_wp2_with fail
      refine HSZ.out.mono ?_
      clear HSZ
      rintro e w2 ⟨rfl, F2, h21, h22, h23⟩
      have hst2 := BytesSt.step HF.out HB.out HK.out h21 h22 h23
      have HST2 := Lib.hid hst2
      clear h21 h22 h23 hst2
      obtain ⟨wo, rfl⟩ : ∃ wo : World, wo = wr := ⟨_, rfl⟩
      go_wp2
      go_loopw [35] (fun i wr => ∃ m : Nat, i = .int .i64 m ∧ m ≤ xs.length ∧ BytesSt w wr w1.heap.size sv tv (pre ++ (sizeB xs.length ++ laid rowsB2 ((xs.take m).map UnitV.abs)))) (fun i _ => xs.length - (intOf i).toNat)
      case atStart => exact ⟨0, rfl, Nat.zero_le _, by simpa [laid] using HST2.out⟩
      case round =>
        obtain ⟨m, rfl, hm, hst3⟩ := hrel
        obtain ⟨F3, hb3, hf3, hbw3, hk3⟩ := hst3
        have HF3 := Lib.hid hf3
        have HB3 := Lib.hid hb3
        have HW3 := Lib.hid hbw3
        have HK3 := Lib.hid hk3
        by_cases hml : m < xs.length
        · obtain ⟨gu, ou, cu, hvu, hcu⟩ := (HXU.out.below hbw3).at hml
          cases hvu
          have hrr := HXU.out.2 xs[m] (List.getElem_mem hml)
          have hsm := HXS.out xs[m] (List.getElem_mem hml)
          have HTM : Hid (pre ++ (sizeB xs.length ++ laid rowsB2 ((xs.take m).map UnitV.abs)) ++ rowsB xs[m].rows = pre ++ (sizeB xs.length ++ laid rowsB2 ((xs.take (m + 1)).map UnitV.abs))) := by
            show _ = _
            rw [List.take_succ_eq_append_getElem hml, List.map_append, rowsB_2]
            simp [laid, UnitV.abs]
          have hlen3 : (pre ++ (sizeB xs.length ++ laid rowsB2 ((xs.take m).map UnitV.abs))).length ≤ 10811418 := by
            rw [List.length_append]
            have h1 := layPart_len xs.length ((xs.take m).map UnitV.abs) (fun u hu => by
              obtain ⟨x, hx, rfl⟩ := List.mem_map.1 hu
              exact HXS.out x (List.mem_of_mem_take hx)) (by rw [List.length_map, List.length_take]; have := HXL.out; omega) HXL.out
            have h2 := HPL.out
            omega
          generalize xs[m] = u at *
          obtain ⟨uv, ur⟩ := u
          simp only at hcu hrr HTM
          obtain ⟨pu, cu2, rfl, _, _⟩ := hrr.1.form
          have hsm2 : ur.length ≤ 32 ∧ ∀ r ∈ ur, r.l.length ≤ 8 ∧ rightAll r.l = true ∧ ∀ a ∈ r.l, fit64 a.n := ⟨by simpa [UnitV.abs] using hsm.1, fun r hr => hsm.2 r.l (by unfold UnitV.abs; exact List.mem_map_of_mem hr)⟩
          have hir : IsRows wr (fun k => ¬ F3 k) (.slice pu ur.length cu2) ur :=
            ⟨hrr.1.mono hbw3.size (fun q _ hl => hbw3.block q hl) (fun q _ hl h => by have := (hf3 q h).1; omega), fun r hr => ⟨(hrr.2 r hr).mono hbw3.size (fun q _ hl => hbw3.block q hl) (fun q _ hl h => by have := (hf3 q h).1; omega), (hsm2.2 r hr).2.2, by have := (hsm2.2 r hr).1; omega⟩⟩
          have HRW := Lib.hid (rows_wr wr _ _ F3 [] _ hb3 _ ur hir (by omega) (by omega) (fun r hr => by have := (hsm2.2 r hr).1; omega))
          clear hir hrr hsm hsm2 hb3 hf3 hbw3 hk3 hlen3
          go_wp2_with fail
          refine HRW.out.mono ?_
          clear HRW
          rintro e w4 ⟨rfl, F4, h41, h42, h43⟩
          have hst4 := BytesSt.step HF3.out HW3.out HK3.out h41 h42 h43
          rw [HTM.out] at hst4
          have HST4 := Lib.hid hst4
          clear h41 h42 h43 hst4
          go_wp2
          go_roundw
          case rel => exact ⟨m + 1, by go_num, by omega, HST4.out⟩
          case measure => (simp [intOf]) <;> omega
        · obtain rfl : m = xs.length := by omega
          have hfin : BytesSt w wr w1.heap.size sv tv (pre ++ layU (xs.map UnitV.abs)) := by
            refine ⟨F3, ?_, hf3, hbw3, hk3⟩
            rw [List.take_length] at hb3
            unfold layU
            rw [List.length_map]
            exact hb3
          rw [HXA.out] at hfin
          have HFIN := Lib.hid hfin
          clear hfin hb3 hf3 hbw3 hk3
          go_wp2
          go_roundw
          case rel => exact ⟨2, by first | rfl | go_num, by omega, by have h := HFIN.out; rw [HPRE.out] at h; simpa using h⟩
          case measure => simp [intOf]
    · have hst := string_wr wr _ _ FB _ _ hb0
      have HST := Lib.hid hst
      clear hb0 hf0 hbw hkl hst e0 e1
      go_wp2_with (go_at_call 39; refine HST.out.mono ?_; clear HST; rintro e w5 ⟨rfl, rfl⟩)
      go_ret
      exact ⟨rfl, HB.out⟩
end Go.Proofs.Ytedcljahcedpjaa
