/- A row's values at places: schema.Pick. -/
import Derived.Test.YtlgohkdckdnmhaaDoorPkA
import Derived.Test.YtlgohkdckdnmhaaDoorSchD
namespace Go.Proofs.YtlgohkdckdnmhaaDoor
open Go.RowKit Go.Afx

/-- What Pick answers: nothing, if a place isn't there. -/
def pickO (l : List AV) (ps : List Int) : List AV := if ps.all (inR l) then pickR l ps else []
theorem nil_row (w : World) (B : Nat → Prop) : Sl w B 3 (.slice none 0 0) ([] : List AV).length (rowCells []) := ⟨rfl, Ones.nil, .inl ⟨none, 0, rfl, rfl, Nat.zero_le _, fun _ => rfl⟩⟩

set_option maxRecDepth 100000 in
set_option maxHeartbeats 4000000 in
theorem pick_any (w : World) (B B' : Nat → Prop) (v v' : Value) (l : List AV) (ps : List Int) (hl : Sl w B 3 v l.length (rowCells l)) (hp : Sl w B' 1 v' ps.length (ints ps)) (hlr : l.length ≤ 1000) (hll : ps.length ≤ 1000) :
    Calls Tryd.prog 30 #[v, v'] w fun e w' => ∃ out, e = .returned out ∧ Sl w' (fun q => w.heap.size ≤ q) 3 out (pickO l ps).length (rowCells (pickO l ps)) ∧ Below w.heap.size w w' := by
  have HL := Lib.hid hl
  have HP := Lib.hid hp
  obtain ⟨p, cap, rfl, hc1, hc2⟩ := hl.form
  obtain ⟨p', cap', rfl, hc1', hc2'⟩ := hp.form
  clear hl hp
  go_enter Tryd.func30, Tryd.ntmps30
  go_wp2
  go_loopw [5, 10] (fun v i wr => ∃ k : Nat, i = .int .i64 k ∧ k ≤ ps.length ∧ (ps.take k).all (inR l) = true ∧ Own wr 27 3 v (pickR l (ps.take k)).length (rowCells (pickR l (ps.take k))) ∧ (∀ q, v.ownBlock = some q → w.heap.size ≤ q) ∧ Below w.heap.size w wr) (fun _ i _ => ps.length - (intOf i).toNat)
  case atStart => exact ⟨0, rfl, Nat.zero_le _, rfl, Own.nil _ _ _, by simp [Value.ownBlock], Below.refl _ _⟩
  case round =>
    obtain ⟨k, rfl, hk, hall, hown, hnew, hbr⟩ := hrel
    obtain ⟨pv, cv, rfl, hcv1, hcv2⟩ := own_form3 hown
    have HOWN := Lib.hid hown
    have HNEW := Lib.hid hnew
    have HBR := Lib.hid hbr
    have HALL := Lib.hid hall
    by_cases hka : k < ps.length
    · obtain ⟨g, off, cap1, hv, _, _, hgb, hglt, hc⟩ := (HP.out.below hbr).place (by omega)
      cases hv
      have hc0 : wr.cell? ⟨g, off + k, none⟩ = some (.int .i64 ps[k]) := by rw [hc k (by simpa [ints] using hka)]; simp [ints, hka]
      have hlen := pickR_len l (ps.take k)
      have hle : (pickR l (ps.take k)).length ≤ ps.length := by rw [hlen, List.length_take]; omega
      clear hlen
      have HW := Lib.hid (fun w => within_any w ps[k] 0 ((l.length : Int) - 1))
      have HIN := Lib.hid (all_next (inR l) ps k hka hall)
      have HOUT := Lib.hid (all_not (inR l) ps k hka)
      cases hin : inR l ps[k]
      · have hd1 : (decide ((0 : Int) ≤ ps[k]) && decide (ps[k] ≤ (l.length : Int) - 1)) = false := hin
        rw [hd1] at HW
        have hno : ps.all (inR l) = false := HOUT.out hin
        have HNO := Lib.hid hno
        clear hd1 hin hown hnew hbr hc hno hall HIN HOUT
        generalize ps[k] = pk at *
        go_wp2_with fail
        refine (HW.out _).mono ?_
        rintro e w3 ⟨rfl, rfl⟩
        go_wp2
        go_ret
        refine ⟨_, rfl, ?_, HBR.out⟩
        unfold pickO
        rw [HNO.out]
        exact nil_row _ _
      · have hd1 : (decide ((0 : Int) ≤ ps[k]) && decide (ps[k] ≤ (l.length : Int) - 1)) = true := hin
        rw [hd1] at HW
        obtain ⟨hp0, hpk⟩ := inR_lt hin
        have HNX := Lib.hid (HIN.out hin)
        have HX := Lib.hid (pickR_next l ps k hka hpk)
        obtain ⟨g', off', cap2, hv', hg', f0, f1, f2⟩ := sl_av (HL.out.below hbr) hpk
        cases hv'
        have hpe : ps[k] = (ps[k].toNat : Int) := (Int.toNat_of_nonneg hp0).symm
        rw [hpe] at hc0 HW
        clear hown hnew hbr hc hd1 hin hpe hall HIN HOUT hp0
        generalize ps[k].toNat = pk at *
        generalize l[pk] = x at *
        generalize pickR l (ps.take k) = acc at *
        have hal5 : Below wr.heap.size wr (wr.alloc (.cells #[.int .i64 x.kind, .int .i64 x.n, .string x.s] 27)) := (Below.refl _ _).alloc (Nat.le_refl _) _
        have ho1 := HOWN.out.below hal5
        have hs1 := one_av wr x
        have HX5 := Lib.hid hal5
        clear hal5
        go_wp2_with fail
        refine (HW.out _).mono ?_
        rintro e w3 ⟨rfl, rfl⟩
        go_wp2_with (at_builtin; refine wpList_app rfl _ _ rfl elemAV (by rfl) ho1 (by rfl) hs1 (by unfold maxLen; omega) (by omega) ?_; intro v1 w7 g1 g2 g3 g4 g5; clear ho1 hs1; have G1 := Lib.hid g1; have G2 := Lib.hid g2; have G3 := Lib.hid g3; clear g1 g2 g3 g4 g5)
        have h9 : w.heap.size ≤ wr.heap.size := HBR.out.size
        refine ⟨⟨k + 1, by go_num, by omega, HNX.out, ?_, fun q hq => ?_, ?_⟩, by (simp [intOf]) <;> omega⟩
        · rw [HX.out, List.length_append, rowCells_append]; exact G1.out
        · rcases G3.out with h | h
          · rw [h] at hq; exact HNEW.out q hq
          · rw [h] at hq
            have : wr.heap.size + 1 = q := by simpa using hq
            omega
        · exact (HBR.out.trans (HX5.out.mono HBR.out.size)).trans (G2.out.below (by have := HX5.out.size; omega) (fun q hq => HNEW.out q hq))
    · obtain rfl : k = ps.length := by omega
      have he := hown.sl hnew
      rw [List.take_length] at hall
      have hpo : pickO l ps = pickR l ps := by unfold pickO; rw [if_pos hall]
      have hv : Value.slice pv (pickR l (ps.take ps.length)).length cv = Value.slice pv (pickR l ps).length cv := by rw [List.take_length]
      rw [List.take_length] at he
      rw [← hpo] at he hv
      have HE := Lib.hid he
      have HVV := Lib.hid hv
      clear hown hnew he hv hall hpo
      go_wp2
      go_ret
      exact ⟨Value.slice pv (pickO l ps).length cv, by rw [← HVV.out]; rfl, HE.out, HBR.out⟩
end Go.Proofs.YtlgohkdckdnmhaaDoor
