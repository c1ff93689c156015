/- The document's rows: Great, All, Same. -/
import Derived.Test.YtlgohkdckdnmhaaDoorRefD
namespace Go.Proofs.YtlgohkdckdnmhaaDoor
open Go.RowKit Go.Afx

def greatB (l : List AV) : Bool := decide (30 < l.length) || l.any (fun v => decide (300 < v.s.size))
set_option maxRecDepth 100000 in
theorem great_row (w : World) (B : Nat → Prop) (v : Value) (l : List AV) (hl : Sl w B 3 v l.length (rowCells l)) :
    Calls Tryd.prog 13 #[v] w fun e w' => e = .returned (.bool (greatB l)) ∧ Below w.heap.size w w' := by
  obtain ⟨p, cap, rfl, hc1, hc2⟩ := hl.form
  have HL := Lib.hid hl
  clear hl
  by_cases h30 : 30 < l.length
  · have e1 : greatB l = true := by unfold greatB; simp [h30]
    rw [e1]
    have d : decide ((30 : Int) < l.length) = true := decide_eq_true (by omega)
    clear e1
    go_enter Tryd.func13, Tryd.ntmps13
    go_wp2
    go_ret
    exact ⟨rfl, Below.refl _ _⟩
  · have d : decide ((30 : Int) < l.length) = false := decide_eq_false (by omega)
    have hll : l.length ≤ 30 := by omega
    have HE : Hid (greatB l = l.any (fun v => decide (300 < v.s.size))) := by show _ = _; unfold greatB; simp; omega
    go_enter Tryd.func13, Tryd.ntmps13
    go_wp2
    go_loop [3] (fun i => ∃ k : Nat, i = .int .i64 k ∧ k ≤ l.length ∧ (l.take k).any (fun v => decide (300 < v.s.size)) = false) (fun i => l.length - (intOf i).toNat)
    case atStart => exact ⟨0, rfl, Nat.zero_le _, rfl⟩
    case round =>
      obtain ⟨k, rfl, hk, hr⟩ := hrel
      have HR := Lib.hid hr
      by_cases hka : k < l.length
      · obtain ⟨g, off, cap', hv, hg, e0, e1, e2⟩ := sl_av HL.out hka
        cases hv
        have HX : Hid (∀ b, decide (300 < l[k].s.size) = b → (l.take (k + 1)).any (fun v => decide (300 < v.s.size)) = b) := fun b hb => by
          rw [← List.take_append_getElem hka, List.any_append, hr]
          simp [← hb]
        have HY : Hid (decide (300 < l[k].s.size) = true → l.any (fun v => decide (300 < v.s.size)) = true) := fun h => by
          rw [List.any_eq_true]
          exact ⟨l[k], List.getElem_mem hka, h⟩
        clear hr e0 e1
        generalize l[k] = x at *
        by_cases hs : 300 < x.s.size
        · have d2 : decide ((300 : Int) < x.s.size) = true := decide_eq_true (by omega)
          go_wp2
          go_ret
          exact ⟨by rw [HE.out, HY.out (decide_eq_true hs)]; rfl, Below.refl _ _⟩
        · have d2 : decide ((300 : Int) < x.s.size) = false := decide_eq_false (by omega)
          go_wp2
          go_round
          case rel => exact ⟨k + 1, by go_num, by omega, HX.out false (decide_eq_false hs)⟩
          case measure => (simp [intOf]) <;> omega
      · obtain rfl : k = l.length := by omega
        rw [List.take_length] at hr
        have HR2 := Lib.hid hr
        clear hr HR
        go_wp2
        go_ret
        exact ⟨by rw [HE.out, HR2.out]; rfl, Below.refl _ _⟩

set_option maxRecDepth 100000 in
theorem all_row (w : World) (B : Nat → Prop) (v : Value) (l : List AV) (hl : Sl w B 3 v l.length (rowCells l)) :
    Calls Tryd.prog 18 #[v] w fun e w' => e = .returned (.bool (rightAll l)) ∧ Below w.heap.size w w' := by
  obtain ⟨p, cap, rfl, hc1, hc2⟩ := hl.form
  have HL := Lib.hid hl
  clear hl
  go_enter Tryd.func18, Tryd.ntmps18
  go_wp2
  go_loopw [3] (fun i wr => ∃ k : Nat, i = .int .i64 k ∧ k ≤ l.length ∧ (l.take k).all AV.right = true ∧ Below w.heap.size w wr) (fun i _ => l.length - (intOf i).toNat)
  case atStart => exact ⟨0, rfl, Nat.zero_le _, rfl, Below.refl _ _⟩
  case round =>
    obtain ⟨k, rfl, hk, hr, hb⟩ := hrel
    have HR := Lib.hid hr
    have HB := Lib.hid hb
    by_cases hka : k < l.length
    · obtain ⟨g, off, cap', hv, hg, e0, e1, e2⟩ := sl_av (HL.out.below hb) hka
      cases hv
      have HX : Hid (∀ b, l[k].right = b → (l.take (k + 1)).all AV.right = b) := fun b hb => by
        rw [← List.take_append_getElem hka, List.all_append, hr]
        simp [hb]
      have HY : Hid (l[k].right = false → rightAll l = false) := fun h => by
        unfold rightAll
        rw [List.all_eq_false]
        exact ⟨l[k], List.getElem_mem hka, by simp [h]⟩
      clear hr hb
      generalize l[k] = x at *
      have HW := Lib.hid (fun w => refright w x)
      have hag : x.agg = .agg #[.int .i64 x.kind, .int .i64 x.n, .string x.s] := rfl
      rw [hag] at HW
      clear hag
      cases hx : x.right
      · rw [hx] at HW
        have HF := Lib.hid (HY.out hx)
        clear HX HY hx
        go_wp2_with (go_at_call 35; refine (HW.out _).mono ?_; rintro e w2 ⟨rfl, hb2⟩)
        go_ret
        exact ⟨by rw [HF.out]; rfl, HB.out.trans (hb2.mono HB.out.size)⟩
      · rw [hx] at HW
        have HF := Lib.hid (HX.out true hx)
        clear HX HY hx
        go_wp2_with (go_at_call 35; refine (HW.out _).mono ?_; rintro e w2 ⟨rfl, hb2⟩)
        go_roundw
        case rel => exact ⟨k + 1, by go_num, by omega, HF.out, HB.out.trans (hb2.mono HB.out.size)⟩
        case measure => (simp [intOf]) <;> omega
    · obtain rfl : k = l.length := by omega
      rw [List.take_length] at hr
      have HR2 := Lib.hid hr
      clear hr HR
      go_wp2
      go_ret
      exact ⟨by unfold rightAll; rw [HR2.out]; rfl, HB.out⟩

end Go.Proofs.YtlgohkdckdnmhaaDoor
