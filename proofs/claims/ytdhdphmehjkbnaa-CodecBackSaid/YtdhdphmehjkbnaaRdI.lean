/- The reader: how much is taken (plain); Row. -/
import Derived.Test.YtdhdphmehjkbnaaRdH
namespace Go.Proofs.Ytdhdphmehjkbnaa
open Go.RowKit Go.Afx
variable {RB : Nat → Prop}

theorem elemAV : Elem Try.prog 48 56 3 32 (.agg #[.int .i64 0, .int .i64 0, .string ⟨#[]⟩]) :=
  ⟨Try.underlying48, by kernel_rfl, rfl, by omega, by intro u hu; simp [Value.cells] at hu; rcases hu with rfl | rfl | rfl <;> rfl⟩

theorem rByte_good (bad : Bool) (l : List UInt8) (h : (rByte bad l).2.1 = false) : bad = false ∧ (rByte bad l).2.2.length + 1 = l.length := by
  cases bad
  · cases l
    · cases h
    · exact ⟨rfl, rfl⟩
  · cases h
theorem rNum_good (bad : Bool) (l : List UInt8) (h : (rNum bad l).2.1 = false) : bad = false ∧ (rNum bad l).2.2.length + 1 ≤ l.length := by
  unfold rNum at *
  simp only at *
  split at h
  · cases h
  · rename_i h1
    rw [if_neg h1]
    have hb := rByte_good bad l (by simpa using h1)
    split at h
    · cases h
    · rename_i h2
      rw [if_neg h2]
      split at h
      · cases h
      · rename_i h3
        rw [if_neg h3]
        refine ⟨hb.1, ?_⟩
        rw [List.length_drop]; omega
theorem rSize_good (most : Int) (bad : Bool) (l : List UInt8) (h : (rSize most bad l).2.1 = false) : bad = false ∧ (rSize most bad l).2.2.length + 1 ≤ l.length := by
  unfold rSize at *
  simp only at *
  split at h
  · cases h
  · rename_i h1
    rw [if_neg h1]
    exact rNum_good bad l h
theorem rText_good (most : Int) (bad : Bool) (l : List UInt8) (h : (rText most bad l).2.1 = false) : bad = false ∧ (rText most bad l).2.2.length + 1 ≤ l.length := by
  unfold rText rCut at *
  split at h
  · cases h
  · rename_i h1
    rw [if_neg h1]
    have h2 := rSize_good most bad l (by cases hq : (rSize most bad l).2.1; rfl; exact absurd (.inl hq) h1)
    refine ⟨h2.1, ?_⟩
    simp only [List.length_drop]; omega
theorem rRaw_good (bad : Bool) (l : List UInt8) (h : (rRaw bad l).2.1 = false) : bad = false ∧ (rRaw bad l).2.2.length + 1 ≤ l.length := by
  unfold rRaw at *
  simp only at *
  split at h
  · rename_i h1
    rw [if_pos h1]
    have h2 := rNum_good _ _ h
    have h3 := rByte_good bad l h2.1
    have h4 := h2.2
    exact ⟨h3.1, by simp only [rSign]; omega⟩
  · rename_i h1
    rw [if_neg h1]
    split at h
    · rename_i h2
      rw [if_pos h2]
      have h2 := rText_good _ _ _ h
      have h3 := rByte_good bad l h2.1
      exact ⟨h3.1, by simp only; omega⟩
    · rename_i h2
      rw [if_neg h2]
      split at h
      · rename_i h3
        rw [if_pos h3]
        have h2 := rByte_good _ _ h
        have h3 := rByte_good bad l h2.1
        exact ⟨h3.1, by simp only; omega⟩
      · rename_i h3
        rw [if_neg h3]
        have h3 := rByte_good bad l h
        exact ⟨h3.1, by simp only; omega⟩
theorem unzig_fit (n : Nat) (h : n < 18446744073709551616) : fit64 (unzig n) := by
  unfold fit64 unzig
  split <;> omega
theorem rVal_good (bad : Bool) (l : List UInt8) (h : (rVal bad l).2.1 = false) : bad = false ∧ (rVal bad l).2.2.length + 1 ≤ l.length ∧ (rVal bad l).1.right = true ∧ fit64 (rVal bad l).1.n := by
  unfold rVal at *
  split at h
  · rename_i h1
    rw [if_pos h1]
    have h2 := rRaw_good bad l h1.2
    refine ⟨h2.1, h2.2, h1.1, ?_⟩
    have hr := h1.1
    unfold rRaw at *
    simp only at *
    split
    · exact unzig_fit _ (rNum_lt _ _)
    · rename_i h3
      rw [if_neg h3] at hr
      split
      · unfold fit64; simp only; omega
      · rename_i h4
        rw [if_neg h4] at hr
        split
        · rename_i h5
          rw [if_pos h5] at hr
          simp [AV.right] at hr
          unfold fit64; simp only; omega
        · unfold fit64; simp only; omega
  · cases h

/-- So many, one behind the other, while the reader is good. -/
def rMany {α : Type} (f : Bool → List UInt8 → α × Bool × List UInt8) : Nat → Bool → List UInt8 → List α × Bool × List UInt8
  | 0, bad, l => ([], bad, l)
  | n + 1, bad, l => if bad then ([], bad, l) else ((f bad l).1 :: (rMany f n (f bad l).2.1 (f bad l).2.2).1, (rMany f n (f bad l).2.1 (f bad l).2.2).2)
def rList {α : Type} (f : Bool → List UInt8 → α × Bool × List UInt8) (most : Int) (bad : Bool) (l : List UInt8) : List α × Bool × List UInt8 :=
  let s := rSize most bad l
  let q := rMany f s.1 s.2.1 s.2.2
  if q.2.1 then ([], true, []) else q
def rRow (most : Int) (bad : Bool) (l : List UInt8) : List AV × Bool × List UInt8 := rList rVal most bad l

theorem rowCells_append (a b : List AV) : rowCells (a ++ b) = rowCells a ++ rowCells b := by simp [rowCells]
theorem own_val (w : World) (v : AV) : Own (w.alloc (.cells #[.int .i64 v.kind, .int .i64 v.n, .string v.s] 56)) 56 3 (.slice (some ⟨w.heap.size, 0, none⟩) 1 1) 1 (rowCells [v]) :=
  Own.made w 56 3 (rowCells [v]) [] 1 1 rfl (by intro u hu; simp [rowCells, AV.cells] at hu; rcases hu with rfl | rfl | rfl <;> rfl) (Nat.le_refl _) (by simp [maxLen]) (by simp [rowCells, AV.cells])
theorem sl_val (w : World) (v : AV) : Sl (w.alloc (.cells #[.int .i64 v.kind, .int .i64 v.n, .string v.s] 56)) (fun _ => True) 3 (.slice (some ⟨w.heap.size, 0, none⟩) 1 1) 1 (rowCells [v]) :=
  (own_val w v).sl (fun _ _ => trivial)

set_option maxRecDepth 100000 in
set_option maxHeartbeats 1000000 in
theorem row_r (w : World) (p : Option Addr) (bad : Bool) (l : List UInt8) (h : Rdr w p RB bad l) (hRB : ∀ k, RB k → k < w.heap.size) (most : Int) (hm : fit64 most) (hl : l.length ≤ 1000000) :
    Calls Try.prog 72 #[.pointer p, .int .i64 most] w fun e w' => ∃ v, e = .returned v ∧ Own w' 56 3 v (rRow most bad l).1.length (rowCells (rRow most bad l).1) ∧ (∀ k, v.ownBlock = some k → w.heap.size ≤ k) ∧
      Rdr w' p RB (rRow most bad l).2.1 (rRow most bad l).2.2 ∧ Only (Mine p) w w' := by
  have HS := Lib.hid (size_r w p bad l h most hm)
  have HLT := Lib.hid h.lt
  have HRB := Lib.hid hRB
  have hsg := rSize_good most bad l
  have HV : Hid (rRow most bad l = if (rMany rVal (rSize most bad l).1 (rSize most bad l).2.1 (rSize most bad l).2.2).2.1 then ([], true, []) else rMany rVal (rSize most bad l).1 (rSize most bad l).2.1 (rSize most bad l).2.2) := rfl
  generalize rRow most bad l = out at *
  have hsb : (rSize most bad l).1 < 18446744073709551616 := by
    have := rNum_lt bad l
    unfold rSize
    simp only
    split
    · simp
    · exact this
  have hsm : ((rSize most bad l).1 : Int) ≤ 9223372036854775807 := by
    unfold fit64 at hm
    unfold rSize
    simp only
    split
    · simp
    · rename_i hx; simp only [not_or] at hx; omega
  generalize hs : rSize most bad l = sz at *
  clear h hRB hm hs hsb
  obtain ⟨n, bd, l1⟩ := sz
  simp only at HV HS hsg hsm
  have hl1 : bd = false → l1.length ≤ 1000000 := fun hb => by have := (hsg hb).2; omega
  have HL1 := Lib.hid hl1
  clear hsg hl1
  generalize htot : rMany rVal n bd l1 = tot at *
  have HT := Lib.hid htot
  clear htot
  go_enter Try.func72, Try.ntmps72
  go_wp2_with (go_at_call 71; refine HS.out.mono ?_; clear HS; rintro e w1 ⟨rfl, hr1, ho1⟩; have HR1 := Lib.hid hr1; have HO1 := Lib.hid ho1; clear hr1 ho1)
  go_loopw [5, 6] (fun v i wr => ∃ (m : Nat) (acc : List AV) (bk : Bool) (lk : List UInt8), i = .int .i64 m ∧ m ≤ n ∧ Own wr 56 3 v acc.length (rowCells acc) ∧ (∀ k, v.ownBlock = some k → w.heap.size ≤ k) ∧
    Rdr wr p RB bk lk ∧ Only (Mine p) w wr ∧ acc ++ (rMany rVal m bk lk).1 = tot.1 ∧ (rMany rVal m bk lk).2 = tot.2 ∧ (bk = false → acc.length + lk.length ≤ 1000000) ∧ acc.length ≤ 1000001) (fun _ i _ => (intOf i).toNat)
  case atStart => exact ⟨n, [], bd, l1, rfl, Nat.le_refl _, Own.nil _ _ _, by simp [Value.ownBlock], HR1.out, HO1.out, by rw [HT.out]; rfl, by rw [HT.out], fun hb => by simpa using HL1.out hb, by simp⟩
  case round =>
    obtain ⟨m, acc, bk, lk, rfl, hmn, hown, hnew, hrd, ho, ht1, ht2, hc1, hc2⟩ := hrel
    obtain ⟨pv, cv, rfl, hcv1, hcv2⟩ := own_form2 hown
    have HG := Lib.hid (good_r _ p _ _ hrd)
    have HOWN := Lib.hid hown
    have HNEW := Lib.hid hnew
    have HRD := Lib.hid hrd
    have HO := Lib.hid ho
    have HT1 := Lib.hid ht1
    have HT2 := Lib.hid ht2
    have HC1 := Lib.hid hc1
    clear hown hnew hrd ho ht1 ht2 hc1
    cases bk
    · rcases Nat.eq_zero_or_pos m with hm0 | hm0
      · subst hm0
        go_wp2_with (go_at_call 52; refine HG.out.mono ?_; rintro e w7 ⟨rfl, rfl⟩)
        go_ret
        have e1 : tot = (acc, false, lk) := by
          have := HT1.out; have h2 := HT2.out
          simp [rMany] at this h2
          exact Prod.ext this.symm h2.symm
        have e2 := HV.out
        rw [e1] at e2
        simp at e2
        rw [e2]
        exact ⟨_, rfl, HOWN.out, HNEW.out, HRD.out, HO.out⟩
      · obtain ⟨m, rfl⟩ : ∃ m', m = m' + 1 := ⟨m - 1, by omega⟩
        have HX := Lib.hid (val_r wr p false lk HRD.out (fun k hk => Nat.lt_of_lt_of_le (HRB.out k hk) HO.out.size))
        have HGV := Lib.hid (rVal_good false lk)
        have hst1 : acc ++ (rVal false lk).1 :: (rMany rVal m (rVal false lk).2.1 (rVal false lk).2.2).1 = tot.1 := HT1.out
        have hst2 : (rMany rVal m (rVal false lk).2.1 (rVal false lk).2.2).2 = tot.2 := HT2.out
        have HST1 := Lib.hid hst1
        have HST2 := Lib.hid hst2
        clear hst1 hst2 HT1 HT2
        generalize rVal false lk = r at *
        obtain ⟨⟨xk, xn, xs⟩, b2, l2⟩ := r
        simp only [AV.agg] at HX HGV HST1 HST2
        have hpos : (0 : Int) < ((m + 1 : Nat) : Int) := by omega
        go_wp2_with (go_at_call 52; refine HG.out.mono ?_; clear HG; rintro e w7 ⟨rfl, rfl⟩)
        refine HX.out.mono ?_
        clear HX
        rintro e w2 ⟨rfl, hr2, ho2⟩
        have HO2 := Lib.hid ho2
        have hnm : ∀ k, (Value.slice pv acc.length cv).ownBlock = some k → ¬ Mine p k := fun k hk h => by have h1 := HNEW.out k hk; have h2 := HLT.out k h; omega
        have hal : Below w2.heap.size w2 (w2.alloc (.cells #[.int .i64 xk, .int .i64 xn, .string xs] 56)) := (Below.refl _ _).alloc (Nat.le_refl _) _
        have ho1 := (HOWN.out.only ho2 hnm).below hal
        have hs1 := sl_val w2 ⟨xk, xn, xs⟩
        have HR2 := Lib.hid (hr2.below hal)
        have HNM := Lib.hid hnm
        have hsz2 : (w2.alloc (.cells #[.int .i64 xk, .int .i64 xn, .string xs] 56)).heap.size = w2.heap.size + 1 := by simp
        have HSZ2 := Lib.hid hsz2
        have HAL := Lib.hid hal
        clear ho2 hr2 hnm hal hsz2
        go_wp2_with (at_builtin; refine wpList_app rfl _ _ rfl elemAV (by rfl) ho1 (by rfl) hs1 (by unfold maxLen; omega) (by omega) ?_; intro v1 w3 g1 g2 g3 g4 g5; clear ho1 hs1; have G1 := Lib.hid g1; have G2 := Lib.hid g2; have G3 := Lib.hid g3; clear g1 g2 g3 g4 g5)
        have hww : w.heap.size ≤ wr.heap.size := HO.out.size
        have hw2 : wr.heap.size ≤ w2.heap.size := HO2.out.size
        go_roundw
        case rel =>
          refine ⟨m, acc ++ [⟨xk, xn, xs⟩], b2, l2, by go_num, by omega, ?_, fun k hk => ?_, ?_, ?_, ?_, HST2.out, fun hb => ?_, ?_⟩
          · rw [List.length_append, rowCells_append]; exact G1.out
          · rcases G3.out with h | h
            · exact HNEW.out k (by rw [← h]; exact hk)
            · rw [h, HSZ2.out] at hk
              have : w2.heap.size + 1 = k := by simpa using hk
              omega
          · exact HR2.out.only G2.out HNM.out (fun k hk h => by have h1 := HNEW.out k hk; have h2 := HRB.out k h; omega)
          · refine ((HO.out.trans HO2.out (fun _ _ h => h)).trans (Only.of_none HAL.out (S := fun _ => False)) (fun _ _ h => h.elim)).trans G2.out (fun k hk h => ?_)
            have h1 := HNEW.out k h; omega
          · rw [List.append_assoc]; exact HST1.out
          · have h1 := HGV.out hb; have h2 := HC1.out trivial; rw [List.length_append]; simp only [List.length_cons, List.length_nil]; omega
          · have h2 := HC1.out trivial; rw [List.length_append]; simp only [List.length_cons, List.length_nil]; omega
        case measure => (simp [intOf]) <;> omega
    · have e1 : tot.2.1 = true := by
        rw [← HT2.out]
        cases m <;> rfl
      have e2 := HV.out
      rw [if_pos e1] at e2
      subst e2
      have hlk : lk = [] := HRD.out.empty rfl
      subst hlk
      clear HV HT1 HT2 HT
      go_wp2_with (go_at_call 52; refine HG.out.mono ?_; rintro e w7 ⟨rfl, rfl⟩)
      all_goals
        go_ret
        exact ⟨_, rfl, Own.nil _ _ _, by simp [Value.ownBlock], HRD.out, HO.out⟩
end Go.Proofs.Ytdhdphmehjkbnaa
