/- The document's rows: Great. -/
import Derived.Test.YtdhdphmehjkbnaaRefE
import Derived.Test.YtdhdphmehjkbnaaRows2
namespace Go.Proofs.Ytdhdphmehjkbnaa
open Go.RowKit Go.Afx

def greatRowsB (rows : List (List AV)) : Bool := decide (30 < rows.length) || rows.any greatB
set_option maxRecDepth 100000 in
theorem great_rows (w : World) (B : Nat → Prop) (v : Value) (rows : List RowV) (hl : RowsAt w B v rows) :
    Calls Try.prog 26 #[v] w fun e w' => e = .returned (.bool (greatRowsB (rows.map RowV.l))) ∧ Below w.heap.size w w' := by
  obtain ⟨p, cap, rfl, hc1, hc2⟩ := hl.1.form
  have HL := Lib.hid hl
  clear hl
  by_cases h30 : 30 < rows.length
  · have e1 : greatRowsB (rows.map RowV.l) = true := by unfold greatRowsB; simp [h30]
    rw [e1]
    have d : decide ((30 : Int) < rows.length) = true := decide_eq_true (by omega)
    clear e1
    go_enter Try.func26, Try.ntmps26
    go_wp2
    go_ret
    exact ⟨rfl, Below.refl _ _⟩
  · have d : decide ((30 : Int) < rows.length) = false := decide_eq_false (by omega)
    have hll : rows.length ≤ 30 := by omega
    have HE : Hid (greatRowsB (rows.map RowV.l) = rows.any (fun r => greatB r.l)) := by show _ = _; unfold greatRowsB; rw [List.any_map]; simp [h30]; rfl
    go_enter Try.func26, Try.ntmps26
    go_wp2
    go_loopw [3] (fun i wr => ∃ k : Nat, i = .int .i64 k ∧ k ≤ rows.length ∧ (rows.take k).any (fun r => greatB r.l) = false ∧ Below w.heap.size w wr) (fun i _ => rows.length - (intOf i).toNat)
    case atStart => exact ⟨0, rfl, Nat.zero_le _, rfl, Below.refl _ _⟩
    case round =>
      obtain ⟨k, rfl, hk, hr, hb⟩ := hrel
      have HB := Lib.hid hb
      have HR := Lib.hid hr
      by_cases hka : k < rows.length
      · obtain ⟨g, off, cap', hv, hck⟩ := (HL.out.below hb).at hka
        cases hv
        have hrow := (HL.out.below hb).2 rows[k] (List.getElem_mem hka)
        have HX : Hid (∀ b, greatB rows[k].l = b → (rows.take (k + 1)).any (fun r => greatB r.l) = b) := fun b hb => by
          rw [← List.take_append_getElem hka, List.any_append, hr]
          simp [← hb]
        have HY : Hid (greatB rows[k].l = true → rows.any (fun r => greatB r.l) = true) := fun h => by
          rw [List.any_eq_true]
          exact ⟨rows[k], List.getElem_mem hka, h⟩
        have HG := Lib.hid (great_row _ _ _ _ hrow)
        clear hr hb hrow
        generalize rows[k] = x at *
        cases hx : greatB x.l
        · rw [hx] at HG
          have HF := Lib.hid (HX.out false hx)
          clear HX HY hx
          go_wp2_with (go_at_call 25; refine HG.out.mono ?_; rintro e w2 ⟨rfl, hb2⟩)
          go_roundw
          case rel => exact ⟨k + 1, by go_num, by omega, HF.out, HB.out.trans (hb2.mono HB.out.size)⟩
          case measure => (simp [intOf]) <;> omega
        · rw [hx] at HG
          have HF := Lib.hid (HY.out hx)
          clear HX HY hx
          go_wp2_with (go_at_call 25; refine HG.out.mono ?_; rintro e w2 ⟨rfl, hb2⟩)
          go_ret
          exact ⟨by rw [HE.out, HF.out]; rfl, HB.out.trans (hb2.mono HB.out.size)⟩
      · obtain rfl : k = rows.length := by omega
        rw [List.take_length] at hr
        have HR2 := Lib.hid hr
        clear hr HR
        go_wp2
        go_ret
        exact ⟨by rw [HE.out, HR2.out]; rfl, HB.out⟩
end Go.Proofs.Ytdhdphmehjkbnaa
