/- Schemas: Zero, Named, Col. -/
import Derived.Test.YtlgohkdckdnmhaaDoorRtC
import Derived.Test.YtlgohkdckdnmhaaDoorRow
import Derived.Test.YtlgohkdckdnmhaaDoorSt1
import Derived.Test.YtlgohkdckdnmhaaDoorPkB
import Derived.Test.YtlgohkdckdnmhaaDoorStA
namespace Go.Proofs.YtlgohkdckdnmhaaDoor
open Go.RowKit Go.Afx

/-- A column's nothing. -/
def zeroC (c : ColV) : AV := ⟨if decide (1 ≤ c.kind) && decide (c.kind ≤ 3) then c.kind else 0, 0, ⟨#[]⟩⟩

set_option maxRecDepth 100000 in
set_option maxHeartbeats 4000000 in
theorem zero_any (w : World) (B : Nat → Prop) (s : SchV) (h : SchAt w B s) (hcl : s.cols.length ≤ 1000) :
    Calls Tryd.prog 46 #[s.agg] w fun e w' => ∃ out, e = .returned out ∧ Sl w' (fun _ => True) 3 out (s.cols.map zeroC).length (rowCells (s.cols.map zeroC)) ∧ Below w.heap.size w w' := by
  obtain ⟨pc, cc, hpc, hcc1, hcc⟩ := h.cols.form
  obtain ⟨pi, ci, hpi, hci1, hci⟩ := h.idx.1.form
  have hga : s.agg = .agg #[.string s.name, .slice pc s.cols.length cc, .slice pi s.idx.length ci, .int .i64 s.limit, .int .i64 s.parts, .int .i64 s.by_] := by unfold SchV.agg; rw [hpc, hpi]
  rw [hga]
  obtain ⟨w1, hw1⟩ : ∃ w1, w.alloc (.cells #[.string s.name, .slice pc s.cols.length cc, .slice pi s.idx.length ci, .int .i64 s.limit, .int .i64 s.parts, .int .i64 s.by_] 47) = w1 := ⟨_, rfl⟩
  have b1 : Below w.heap.size w w1 := hw1 ▸ (Below.refl _ _).alloc (Nat.le_refl _) _
  have k1 : Blk w1 w.heap.size 47 [.string s.name, .slice pc s.cols.length cc, .slice pi s.idx.length ci, .int .i64 s.limit, .int .i64 s.parts, .int .i64 s.by_] := by rw [← hw1]; exact Blk.new w _ _
  obtain ⟨x0, x1, x2, x3, x4, x5⟩ := sch_cells k1
  have HC : Hid (Sl w1 B 2 (.slice pc s.cols.length cc) s.cols.length (colCells s.cols)) := hpc ▸ h.cols.below b1
  have HB1 := Lib.hid b1
  clear b1 k1 hga h hpc hpi
  go_enter Tryd.func46, Tryd.ntmps46
  go_wp2_with fail
  clear hw1 x0 x1 x2 x3 x4 x5
  go_loopw [3, 10] (fun v i wr => ∃ k : Nat, i = .int .i64 k ∧ k ≤ s.cols.length ∧ Own wr 27 3 v ((s.cols.take k).map zeroC).length (rowCells ((s.cols.take k).map zeroC)) ∧ (∀ q, v.ownBlock = some q → w1.heap.size ≤ q) ∧ Below w1.heap.size w1 wr) (fun _ i _ => s.cols.length - (intOf i).toNat)
  case atStart => exact ⟨0, rfl, Nat.zero_le _, Own.nil _ _ _, by simp [Value.ownBlock], Below.refl _ _⟩
  case round =>
    obtain ⟨k, rfl, hk, hown, hnew, hbr⟩ := hrel
    obtain ⟨pv, cv, rfl, hcv1, hcv2⟩ := own_form3 hown
    have HOWN := Lib.hid hown
    have HNEW := Lib.hid hnew
    have HBR := Lib.hid hbr
    by_cases hka : k < s.cols.length
    · obtain ⟨g, off, cap1, hv, hg, e0, e1⟩ := sl_col (HC.out.below hbr) hka
      cases hv
      have HX := Lib.hid (map_next zeroC s.cols k hka)
      have hle : ((s.cols.take k).map zeroC).length ≤ s.cols.length := by rw [List.length_map, List.length_take]; omega
      clear hown hnew hbr
      generalize s.cols[k] = x at *
      generalize (s.cols.take k).map zeroC = acc at *
      obtain ⟨xs, xk⟩ := x
      simp only at e0 e1
      have HW := Lib.hid (fun w => within_any w xk 1 3)
      have hzv : zeroC ⟨xs, xk⟩ = ⟨if decide (1 ≤ xk) && decide (xk ≤ 3) then xk else 0, 0, ⟨#[]⟩⟩ := rfl
      rw [hzv] at HX
      clear hzv
      obtain ⟨z, hz⟩ : ∃ z, (if (decide (1 ≤ xk) && decide (xk ≤ 3)) = true then xk else 0) = z := ⟨_, rfl⟩
      rw [hz] at HX
      have b2 : Below wr.heap.size wr ((wr.alloc (.cells #[.string xs, .int .i64 xk] 66)).alloc (.cells #[.int .i64 z, .int .i64 0, .string ⟨#[]⟩] 27)) := ((Below.refl _ _).alloc (Nat.le_refl _) _).alloc (by simp) _
      have b3 : Below wr.heap.size wr (((wr.alloc (.cells #[.string xs, .int .i64 xk] 66)).alloc (.cells #[.int .i64 z, .int .i64 0, .string ⟨#[]⟩] 27)).alloc (.cells #[.int .i64 z, .int .i64 0, .string ⟨#[]⟩] 27)) := b2.alloc (by simp; omega) _
      have ho1 := HOWN.out.below b3
      have hs1 := one_av ((wr.alloc (.cells #[.string xs, .int .i64 xk] 66)).alloc (.cells #[.int .i64 z, .int .i64 0, .string ⟨#[]⟩] 27)) ⟨z, 0, ⟨#[]⟩⟩
      simp only [World.size_alloc] at hs1
      have HX3 := Lib.hid b3
      clear b2 b3
      have h9 : w1.heap.size ≤ wr.heap.size := HBR.out.size
      cases hd : (decide (1 ≤ xk) && decide (xk ≤ 3))
      all_goals
        rw [hd] at HW hz
        simp only [Bool.false_eq_true, if_false, if_true] at hz
        subst hz
        clear hd
        go_wp2_with fail
        refine (HW.out _).mono ?_
        rintro e w3 ⟨rfl, rfl⟩
        go_wp2_with (at_builtin; refine wpList_app rfl _ _ rfl elemAV (by rfl) ho1 (by rfl) hs1 (by unfold maxLen; omega) (by omega) ?_; intro v1 w7 g1 g2 g3 g4 g5; clear ho1 hs1; have G1 := Lib.hid g1; have G2 := Lib.hid g2; have G3 := Lib.hid g3; clear g1 g2 g3 g4 g5)
        refine ⟨⟨k + 1, by go_num, by omega, ?_, fun q hq => ?_, ?_⟩, by (simp [intOf]) <;> omega⟩
        · rw [HX.out, List.length_append, rowCells_append]; exact G1.out
        · rcases G3.out with h | h
          · rw [h] at hq; exact HNEW.out q hq
          · rw [h] at hq
            have : wr.heap.size + 1 + 1 + 1 = q := by simpa using hq
            omega
        · exact (HBR.out.trans (HX3.out.mono HBR.out.size)).trans (G2.out.below (by have := HX3.out.size; omega) (fun q hq => HNEW.out q hq))
    · obtain rfl : k = s.cols.length := by omega
      have he := hown.sl (B := fun _ => True) (fun _ _ => trivial)
      rw [List.take_length] at he
      have hv : Value.slice pv ((s.cols.take s.cols.length).map zeroC).length cv = Value.slice pv (s.cols.map zeroC).length cv := by rw [List.take_length]
      have HE := Lib.hid he
      have HVV := Lib.hid hv
      clear hown hnew hbr he hv
      go_wp2
      go_ret
      exact ⟨Value.slice pv (s.cols.map zeroC).length cv, by rw [← HVV.out]; rfl, HE.out, HB1.out.trans (HBR.out.mono HB1.out.size)⟩
end Go.Proofs.YtlgohkdckdnmhaaDoor
