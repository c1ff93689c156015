/- A row's values at places: the document's Pick. -/
import Derived.Test.YtlgohkdckdnmhaaDoorRow
namespace Go.Proofs.YtlgohkdckdnmhaaDoor
open Go.RowKit Go.Afx

def pickR (l : List AV) (ps : List Int) : List AV := ps.map fun p => l.getD p.toNat ⟨0, 0, ⟨#[]⟩⟩
/-- A place of a row. -/
def inR (l : List AV) (p : Int) : Bool := decide (0 ≤ p) && decide (p ≤ (l.length : Int) - 1)
theorem inR_lt {l : List AV} {p : Int} (h : inR l p = true) : 0 ≤ p ∧ p.toNat < l.length := by
  unfold inR at h
  rw [Bool.and_eq_true, decide_eq_true_eq, decide_eq_true_eq] at h
  omega
theorem pickR_next (l : List AV) (ps : List Int) (k : Nat) (h : k < ps.length) (hp : ps[k].toNat < l.length) : pickR l (ps.take (k + 1)) = pickR l (ps.take k) ++ [l[ps[k].toNat]] := by
  unfold pickR
  rw [← List.take_append_getElem h, List.map_append]
  simp [List.getElem?_eq_getElem hp]
theorem pickR_len (l : List AV) (ps : List Int) : (pickR l ps).length = ps.length := by unfold pickR; simp

set_option maxRecDepth 100000 in
set_option maxHeartbeats 4000000 in
theorem refpick_any (w : World) (B B' : Nat → Prop) (v v' : Value) (l : List AV) (ps : List Int) (hl : Sl w B 3 v l.length (rowCells l)) (hp : Sl w B' 1 v' ps.length (ints ps)) (hin : ∀ p ∈ ps, inR l p = true) (hll : ps.length ≤ 1000) :
    Calls Tryd.prog 31 #[v, v'] w fun e w' => ∃ out, e = .returned out ∧ Sl w' (fun q => w.heap.size ≤ q) 3 out (pickR l ps).length (rowCells (pickR l ps)) ∧ Below w.heap.size w w' := by
  have HL := Lib.hid hl
  have HP := Lib.hid hp
  have HIN := Lib.hid hin
  obtain ⟨p, cap, rfl, hc1, hc2⟩ := hl.form
  obtain ⟨p', cap', rfl, hc1', hc2'⟩ := hp.form
  clear hl hp hin
  go_enter Tryd.func31, Tryd.ntmps31
  go_wp2
  go_loopw [5, 6] (fun v i wr => ∃ k : Nat, i = .int .i64 k ∧ k ≤ ps.length ∧ Own wr 27 3 v (pickR l (ps.take k)).length (rowCells (pickR l (ps.take k))) ∧ (∀ q, v.ownBlock = some q → w.heap.size ≤ q) ∧ Below w.heap.size w wr) (fun _ i _ => ps.length - (intOf i).toNat)
  case atStart => exact ⟨0, rfl, Nat.zero_le _, Own.nil _ _ _, by simp [Value.ownBlock], Below.refl _ _⟩
  case round =>
    obtain ⟨k, rfl, hk, hown, hnew, hbr⟩ := hrel
    obtain ⟨pv, cv, rfl, hcv1, hcv2⟩ := own_form3 hown
    have HOWN := Lib.hid hown
    have HNEW := Lib.hid hnew
    have HBR := Lib.hid hbr
    by_cases hka : k < ps.length
    · obtain ⟨hp0, hpk⟩ := inR_lt (HIN.out ps[k] (List.getElem_mem hka))
      have HX := Lib.hid (pickR_next l ps k hka hpk)
      have hlen := pickR_len l (ps.take k)
      rw [List.length_take] at hlen
      obtain ⟨g, off, cap1, hv, _, _, hgb, hglt, hc⟩ := (HP.out.below hbr).place (by omega)
      cases hv
      have hc0 : wr.cell? ⟨g, off + k, none⟩ = some (.int .i64 (ps[k].toNat : Int)) := by rw [hc k (by simpa [ints] using hka), Int.toNat_of_nonneg hp0]; simp [ints, hka]
      obtain ⟨g', off', cap2, hv', hg', f0, f1, f2⟩ := sl_av (HL.out.below hbr) hpk
      cases hv'
      clear hown hnew hbr hc
      generalize ps[k].toNat = pk at *
      generalize l[pk] = x at *
      generalize pickR l (ps.take k) = acc at *
      have hal5 : Below wr.heap.size wr (wr.alloc (.cells #[.int .i64 x.kind, .int .i64 x.n, .string x.s] 27)) := (Below.refl _ _).alloc (Nat.le_refl _) _
      have ho1 := HOWN.out.below hal5
      have hs1 := one_av wr x
      have HX5 := Lib.hid hal5
      clear hal5
      go_wp2_with (at_builtin; refine wpList_app rfl _ _ rfl elemAV (by rfl) ho1 (by rfl) hs1 (by unfold maxLen; omega) (by omega) ?_; intro v1 w7 g1 g2 g3 g4 g5; clear ho1 hs1; have G1 := Lib.hid g1; have G2 := Lib.hid g2; have G3 := Lib.hid g3; clear g1 g2 g3 g4 g5)
      have h9 : w.heap.size ≤ wr.heap.size := HBR.out.size
      refine ⟨⟨k + 1, by go_num, by omega, ?_, fun q hq => ?_, ?_⟩, by (simp [intOf]) <;> omega⟩
      · rw [HX.out, List.length_append, rowCells_append]; exact G1.out
      · rcases G3.out with h | h
        · rw [h] at hq; exact HNEW.out q hq
        · rw [h] at hq
          have : wr.heap.size + 1 = q := by simpa using hq
          omega
      · exact (HBR.out.trans (HX5.out.mono HBR.out.size)).trans (G2.out.below (by have := HX5.out.size; omega) (fun q hq => HNEW.out q hq))
    · obtain rfl : k = ps.length := by omega
      have he := hown.sl hnew
      have hv : Value.slice pv (pickR l (ps.take ps.length)).length cv = Value.slice pv (pickR l ps).length cv := by rw [List.take_length]
      rw [List.take_length] at he
      have HE := Lib.hid he
      have HVV := Lib.hid hv
      clear hown hnew he hv
      go_wp2
      go_ret
      exact ⟨Value.slice pv (pickR l ps).length cv, by rw [← HVV.out]; rfl, HE.out, HBR.out⟩
end Go.Proofs.YtlgohkdckdnmhaaDoor
