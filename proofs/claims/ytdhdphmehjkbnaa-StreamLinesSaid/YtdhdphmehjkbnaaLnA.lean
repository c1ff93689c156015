/- The asked numbers: slices.Index, slices.Contains. -/
import Derived.Test.YtdhdphmehjkbnaaStO
import Derived.Test.YtdhdphmehjkbnaaEqS
namespace Go.Proofs.Ytdhdphmehjkbnaa
open Go.RowKit Go.Afx

set_option maxRecDepth 100000 in
theorem index_any (w : World) (B : Nat → Prop) (v : Value) (l : List Int) (x : Int) (hl : Sl w B 1 v l.length (ints l)) :
    Calls Try.prog 103 #[v, .int .i64 x] w fun e w' => (∃ r : Int, e = .returned (.int .i64 r) ∧ decide (0 ≤ r) = l.contains x) ∧ Below w.heap.size w w' := by
  obtain ⟨p, cap, rfl, hc1, hc2⟩ := hl.form
  have HL := Lib.hid hl
  clear hl
  go_enter Try.func103, Try.ntmps103
  go_wp2
  go_loopw [8] (fun i wr => ∃ k : Nat, i = .int .i64 k ∧ k ≤ l.length ∧ (l.take k).contains x = false ∧ Below w.heap.size w wr) (fun i _ => l.length - (intOf i).toNat)
  case atStart => exact ⟨0, rfl, Nat.zero_le _, rfl, Below.refl _ _⟩
  case round =>
    obtain ⟨k, rfl, hk, hn, hb⟩ := hrel
    have HN := Lib.hid hn
    have HB := Lib.hid hb
    by_cases hka : k < l.length
    · obtain ⟨g, off, cap1, hv, _, _, _, hlt, hc⟩ := (HL.out.below hb).place (by omega)
      cases hv
      have e0 : wr.cell? ⟨g, off + k, none⟩ = some (.int .i64 l[k]) := by
        rw [hc k (by simpa [ints] using hka)]
        simp [ints]
      have HA : Hid (l.contains x = true ∨ l[k] ≠ x) := by
        by_cases h : l[k] = x
        · left
          rw [List.contains_iff_mem]
          exact h ▸ List.getElem_mem hka
        · exact .inr h
      have HT : Hid (l[k] ≠ x → (l.take (k + 1)).contains x = false) := fun h => by
        rw [List.take_succ_eq_append_getElem hka, List.contains_append, HN.out]
        simp [Ne.symm h]
      have HY : Hid (l[k] = x → l.contains x = true) := fun h => by
        rw [List.contains_iff_mem]
        exact h ▸ List.getElem_mem hka
      generalize l[k] = y at *
      clear hn hb hc HA
      by_cases hxy : y = x
      · subst hxy
        have HC := Lib.hid (HY.out rfl)
        clear HT HY
        go_wp2
        go_ret
        exact ⟨⟨k, rfl, by rw [HC.out]; exact decide_eq_true (by omega)⟩, HB.out⟩
      · have HC := Lib.hid (HT.out hxy)
        clear HT HY
        have d1 : (x == y) = false := beq_eq_false_iff_ne.2 (Ne.symm hxy)
        go_wp2
        exact ⟨⟨k + 1, by go_num, by omega, HC.out, HB.out⟩, by (simp [intOf]) <;> omega⟩
    · obtain rfl : k = l.length := by omega
      have HC : Hid (l.contains x = false) := by
        have := HN.out
        rwa [List.take_length] at this
      clear hn hb
      go_wp2
      go_ret
      exact ⟨⟨-1, rfl, by rw [HC.out]; rfl⟩, HB.out⟩
theorem contains_any (w : World) (B : Nat → Prop) (v : Value) (l : List Int) (x : Int) (hl : Sl w B 1 v l.length (ints l)) :
    Calls Try.prog 92 #[v, .int .i64 x] w fun e w' => e = .returned (.bool (l.contains x)) ∧ Below w.heap.size w w' := by
  have HI := Lib.hid (index_any w B v l x hl)
  obtain ⟨p, cap, rfl, hc1, hc2⟩ := hl.form
  clear hl
  go_enter Try.func92, Try.ntmps92
  go_wp2_with (go_at_call 103; refine HI.out.mono ?_; clear HI; rintro e w2 ⟨⟨r, rfl, hr⟩, hb2⟩)
  go_ret
  exact ⟨by rw [List.contains_eq_mem]; rfl, hb2⟩
end Go.Proofs.Ytdhdphmehjkbnaa
