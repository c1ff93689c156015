/- The document's reader (Part): Row, Rows. -/
import Derived.Test.YtdhdphmehjkbnaaPtV
namespace Go.Proofs.Ytdhdphmehjkbnaa
open Go.RowKit Go.Afx

set_option maxRecDepth 100000 in
set_option maxHeartbeats 1000000 in
theorem row_pt (w : World) (q : Nat) (bad : Bool) (l : List UInt8) (h : Prt w q bad l) (most : Int) (hm : fit64 most) :
    Calls Try.prog 85 #[.pointer (some ⟨q, 0, none⟩), .int .i64 most] w fun e w' => ∃ v, e = .returned v ∧ Own w' 56 3 v (rRow most bad l).1.length (rowCells (rRow most bad l).1) ∧ (∀ k, v.ownBlock = some k → w.heap.size ≤ k) ∧
      Prt w' q (rRow most bad l).2.1 (rRow most bad l).2.2 ∧ Only (fun k => k = q) w w' := by
  have HS := Lib.hid (size_pt w q bad l h most hm)
  have hql := h.lt
  have hl := h.len
  have hsg := rSize_good most bad l
  have HV : Hid (rRow most bad l = if (rMany rVal (rSize most bad l).1 (rSize most bad l).2.1 (rSize most bad l).2.2).2.1 then ([], true, []) else rMany rVal (rSize most bad l).1 (rSize most bad l).2.1 (rSize most bad l).2.2) := rfl
  generalize rRow most bad l = out at *
  have hsb : (rSize most bad l).1 < 18446744073709551616 := by
    have := rNum_lt bad l
    unfold rSize
    simp only
    split
    · simp
    · exact this
  have hsm : ((rSize most bad l).1 : Int) ≤ 9223372036854775807 := by
    unfold fit64 at hm
    unfold rSize
    simp only
    split
    · simp
    · rename_i hx; simp only [not_or] at hx; omega
  generalize hs : rSize most bad l = sz at *
  clear hm hs hsb
  obtain ⟨n, bd, l1⟩ := sz
  simp only at HV HS hsg hsm
  clear h
  have hl1 : bd = false → l1.length ≤ 1000000 := fun hb => by have := (hsg hb).2; omega
  have HL1 := Lib.hid hl1
  clear hsg hl1
  generalize htot : rMany rVal n bd l1 = tot at *
  have HT := Lib.hid htot
  clear htot
  go_enter Try.func85, Try.ntmps85
  go_wp2_with (go_at_call 79; refine HS.out.mono ?_; clear HS; rintro e w1 ⟨rfl, hr1, ho1⟩; have HR1 := Lib.hid hr1; have HO1 := Lib.hid ho1; clear hr1 ho1)
  go_loopw [6, 7] (fun v i wr => ∃ (j m : Nat) (acc : List AV) (bk : Bool) (lk : List UInt8), i = .int .i64 j ∧ j + m = n ∧ Own wr 56 3 v acc.length (rowCells acc) ∧ (∀ k, v.ownBlock = some k → w.heap.size ≤ k) ∧
    Prt wr q bk lk ∧ Only (fun k => k = q) w wr ∧ acc ++ (rMany rVal m bk lk).1 = tot.1 ∧ (rMany rVal m bk lk).2 = tot.2 ∧ (bk = false → acc.length + lk.length ≤ 1000000) ∧ acc.length ≤ 1000001) (fun _ i _ => n - (intOf i).toNat)
  case atStart => exact ⟨0, n, [], bd, l1, rfl, Nat.zero_add _, Own.nil _ _ _, by simp [Value.ownBlock], HR1.out, HO1.out, by rw [HT.out]; rfl, by rw [HT.out], fun hb => by simpa using HL1.out hb, by simp⟩
  case round =>
    obtain ⟨j, m, acc, bk, lk, rfl, hmn, hown, hnew, hrd, ho, ht1, ht2, hc1, hc2⟩ := hrel
    obtain ⟨pv, cv, rfl, hcv1, hcv2⟩ := own_form2 hown
    have kb := hrd.cellBad
    have HOWN := Lib.hid hown
    have HNEW := Lib.hid hnew
    have HRD := Lib.hid hrd
    have HO := Lib.hid ho
    have HT1 := Lib.hid ht1
    have HT2 := Lib.hid ht2
    have HC1 := Lib.hid hc1
    clear hown hnew hrd ho ht1 ht2 hc1
    cases bk
    · rcases Nat.eq_zero_or_pos m with hm0 | hm0
      · subst hm0
        go_wp2
        go_ret
        have e1 : tot = (acc, false, lk) := by
          have := HT1.out; have h2 := HT2.out
          simp [rMany] at this h2
          exact Prod.ext this.symm h2.symm
        have e2 := HV.out
        rw [e1] at e2
        simp at e2
        rw [e2]
        exact ⟨_, rfl, HOWN.out, HNEW.out, HRD.out, HO.out⟩
      · obtain ⟨m, rfl⟩ : ∃ m', m = m' + 1 := ⟨m - 1, by omega⟩
        have HX := Lib.hid (val_pt wr q false lk HRD.out)
        have HGV := Lib.hid (rVal_good false lk)
        have hst1 : acc ++ (rVal false lk).1 :: (rMany rVal m (rVal false lk).2.1 (rVal false lk).2.2).1 = tot.1 := HT1.out
        have hst2 : (rMany rVal m (rVal false lk).2.1 (rVal false lk).2.2).2 = tot.2 := HT2.out
        have HST1 := Lib.hid hst1
        have HST2 := Lib.hid hst2
        clear hst1 hst2 HT1 HT2
        generalize rVal false lk = r at *
        obtain ⟨⟨xk, xn, xs⟩, b2, l2⟩ := r
        simp only [AV.agg] at HX HGV HST1 HST2
        have hpos : (j : Int) < (n : Int) := by omega
        have hji : (j : Int) + 1 ≤ 9223372036854775807 := by omega
        go_wp2_with fail
        refine HX.out.mono ?_
        clear HX
        rintro e w2 ⟨rfl, hr2, ho2⟩
        have HO2 := Lib.hid ho2
        have hnm : ∀ k, (Value.slice pv acc.length cv).ownBlock = some k → ¬ k = q := fun k hk h => by have h1 := HNEW.out k hk; have h2 := hql; omega
        have hal : Below w2.heap.size w2 (w2.alloc (.cells #[.int .i64 xk, .int .i64 xn, .string xs] 56)) := (Below.refl _ _).alloc (Nat.le_refl _) _
        have ho1 := (HOWN.out.only ho2 hnm).below hal
        have hs1 := sl_val w2 ⟨xk, xn, xs⟩
        have HR2 := Lib.hid (hr2.below hal)
        have HNM := Lib.hid hnm
        have hsz2 : (w2.alloc (.cells #[.int .i64 xk, .int .i64 xn, .string xs] 56)).heap.size = w2.heap.size + 1 := by simp
        have HSZ2 := Lib.hid hsz2
        have HAL := Lib.hid hal
        clear ho2 hr2 hnm hal hsz2
        go_wp2_with (at_builtin; refine wpList_app rfl _ _ rfl elemAV (by rfl) ho1 (by rfl) hs1 (by unfold maxLen; omega) (by omega) ?_; intro v1 w3 g1 g2 g3 g4 g5; clear ho1 hs1; have G1 := Lib.hid g1; have G2 := Lib.hid g2; have G3 := Lib.hid g3; clear g1 g2 g3 g4 g5)
        have hww : w.heap.size ≤ wr.heap.size := HO.out.size
        have hw2 : wr.heap.size ≤ w2.heap.size := HO2.out.size
        go_roundw
        case rel =>
          refine ⟨j + 1, m, acc ++ [⟨xk, xn, xs⟩], b2, l2, by go_num, by omega, ?_, fun k hk => ?_, ?_, ?_, ?_, HST2.out, fun hb => ?_, ?_⟩
          · rw [List.length_append, rowCells_append]; exact G1.out
          · rcases G3.out with h | h
            · exact HNEW.out k (by rw [← h]; exact hk)
            · rw [h, HSZ2.out] at hk
              have : w2.heap.size + 1 = k := by simpa using hk
              omega
          · exact HR2.out.only G2.out (fun h => HNM.out _ h rfl)
          · refine ((HO.out.trans HO2.out (fun _ _ h => h)).trans (Only.of_none HAL.out (S := fun _ => False)) (fun _ _ h => h.elim)).trans G2.out (fun k hk h => ?_)
            have h1 := HNEW.out k h; omega
          · rw [List.append_assoc]; exact HST1.out
          · have h1 := HGV.out hb; have h2 := HC1.out trivial; rw [List.length_append]; simp only [List.length_cons, List.length_nil]; omega
          · have h2 := HC1.out trivial; rw [List.length_append]; simp only [List.length_cons, List.length_nil]; omega
        case measure => (simp [intOf]) <;> omega
    · have e1 : tot.2.1 = true := by
        rw [← HT2.out]
        cases m <;> rfl
      have e2 := HV.out
      rw [if_pos e1] at e2
      subst e2
      have hlk : lk = [] := HRD.out.empty rfl
      subst hlk
      clear HV HT1 HT2 HT
      go_wp2
      all_goals
        go_ret
        exact ⟨_, rfl, Own.nil _ _ _, by simp [Value.ownBlock], HRD.out, HO.out⟩

/-- What Rows leaves. -/
def RowsPt (w : World) (q : Nat) (out : List (List AV) × Bool × List UInt8) (e : Ending) (w' : World) : Prop :=
  ∃ v rows, e = .returned v ∧ rows.map RowV.l = out.1 ∧ Own w' 48 1 v rows.length (rowVals rows) ∧ (∀ k, v.ownBlock = some k → w.heap.size ≤ k) ∧ (∀ r ∈ rows, Sl w' (fun k => w.heap.size ≤ k) 3 r.v r.l.length (rowCells r.l)) ∧
      Prt w' q out.2.1 out.2.2 ∧ Only (fun k => k = q) w w'

set_option maxRecDepth 100000 in
set_option maxHeartbeats 1000000 in
theorem rows_pt (w : World) (q : Nat) (bad : Bool) (l : List UInt8) (h : Prt w q bad l) (most cols : Int) (hm : fit64 most) (hcol : fit64 cols) :
    Calls Try.prog 86 #[.pointer (some ⟨q, 0, none⟩), .int .i64 most, .int .i64 cols] w fun e w' => RowsPt w q (rRows most cols bad l) e w' := by
  have HS := Lib.hid (size_pt w q bad l h most hm)
  have hql := h.lt
  have hl := h.len
  have hsg := rSize_good most bad l
  have HV : Hid (rRows most cols bad l = if (rMany (rRow cols) (rSize most bad l).1 (rSize most bad l).2.1 (rSize most bad l).2.2).2.1 then ([], true, []) else rMany (rRow cols) (rSize most bad l).1 (rSize most bad l).2.1 (rSize most bad l).2.2) := rfl
  generalize rRows most cols bad l = out at *
  have hsb : (rSize most bad l).1 < 18446744073709551616 := by
    have := rNum_lt bad l
    unfold rSize
    simp only
    split
    · simp
    · exact this
  have hsm : ((rSize most bad l).1 : Int) ≤ 9223372036854775807 := by
    unfold fit64 at hm
    unfold rSize
    simp only
    split
    · simp
    · rename_i hx; simp only [not_or] at hx; omega
  generalize hs : rSize most bad l = sz at *
  clear hm hs hsb
  obtain ⟨n, bd, l1⟩ := sz
  simp only at HV HS hsg hsm
  clear h
  have hl1 : bd = false → l1.length ≤ 1000000 := fun hb => by have := (hsg hb).2; omega
  have HL1 := Lib.hid hl1
  clear hsg hl1
  generalize htot : rMany (rRow cols) n bd l1 = tot at *
  have HT := Lib.hid htot
  clear htot
  go_enter Try.func86, Try.ntmps86
  go_wp2_with (go_at_call 79; refine HS.out.mono ?_; clear HS; rintro e w1 ⟨rfl, hr1, ho1⟩; have HR1 := Lib.hid hr1; have HO1 := Lib.hid ho1; clear hr1 ho1)
  go_loopw [8, 9] (fun v i wr => ∃ (j m : Nat) (acc : List RowV) (bk : Bool) (lk : List UInt8), i = .int .i64 j ∧ j + m = n ∧ Own wr 48 1 v acc.length (rowVals acc) ∧ (∀ r ∈ acc, Sl wr (fun k => w.heap.size ≤ k ∧ v.ownBlock ≠ some k) 3 r.v r.l.length (rowCells r.l)) ∧ (∀ k, v.ownBlock = some k → w.heap.size ≤ k) ∧
    Prt wr q bk lk ∧ Only (fun k => k = q) w wr ∧ acc.map RowV.l ++ (rMany (rRow cols) m bk lk).1 = tot.1 ∧ (rMany (rRow cols) m bk lk).2 = tot.2 ∧ (bk = false → acc.length + lk.length ≤ 1000000) ∧ acc.length ≤ 1000001) (fun _ i _ => n - (intOf i).toNat)
  case atStart => exact ⟨0, n, [], bd, l1, rfl, Nat.zero_add _, Own.nil _ _ _, by simp, by simp [Value.ownBlock], HR1.out, HO1.out, by rw [HT.out]; rfl, by rw [HT.out], fun hb => by simpa using HL1.out hb, by simp⟩
  case round =>
    obtain ⟨j, m, acc, bk, lk, rfl, hmn, hown, hrows, hnew, hrd, ho, ht1, ht2, hc1, hc2⟩ := hrel
    obtain ⟨pv, cv, rfl, hcv1, hcv2⟩ := own_form2 hown
    have kb := hrd.cellBad
    have HOWN := Lib.hid hown
    have HNEW := Lib.hid hnew
    have HROWS := Lib.hid hrows
    have HRD := Lib.hid hrd
    have HO := Lib.hid ho
    have HT1 := Lib.hid ht1
    have HT2 := Lib.hid ht2
    have HC1 := Lib.hid hc1
    clear hown hrows hnew hrd ho ht1 ht2 hc1
    cases bk
    · rcases Nat.eq_zero_or_pos m with hm0 | hm0
      · subst hm0
        go_wp2
        go_ret
        have e1 : tot = (acc.map RowV.l, false, lk) := by
          have := HT1.out; have h2 := HT2.out
          simp [rMany] at this h2
          exact Prod.ext this.symm h2.symm
        have e2 := HV.out
        rw [e1] at e2
        simp at e2
        rw [e2]
        unfold RowsPt
        exact ⟨_, acc, rfl, rfl, HOWN.out, HNEW.out, fun r hr => (HROWS.out r hr).mono (Nat.le_refl _) (fun _ _ _ => rfl) (fun _ h _ => h.1), HRD.out, HO.out⟩
      · obtain ⟨m, rfl⟩ : ∃ m', m = m' + 1 := ⟨m - 1, by omega⟩
        have hlk6 : lk.length ≤ 1000000 := by have := HC1.out rfl; omega
        have HX := Lib.hid (row_pt wr q false lk HRD.out cols hcol)
        have HGV := Lib.hid (rRow_good cols false lk)
        have hst1 : acc.map RowV.l ++ (rRow cols false lk).1 :: (rMany (rRow cols) m (rRow cols false lk).2.1 (rRow cols false lk).2.2).1 = tot.1 := HT1.out
        have hst2 : (rMany (rRow cols) m (rRow cols false lk).2.1 (rRow cols false lk).2.2).2 = tot.2 := HT2.out
        have HST1 := Lib.hid hst1
        have HST2 := Lib.hid hst2
        clear hst1 hst2 HT1 HT2
        generalize rRow cols false lk = r at *
        obtain ⟨x, b2, l2⟩ := r
        simp only at HX HGV HST1 HST2
        have hpos : (j : Int) < (n : Int) := by omega
        have hji : (j : Int) + 1 ≤ 9223372036854775807 := by omega
        go_wp2_with fail
        refine HX.out.mono ?_
        clear HX
        rintro e w2 ⟨xv, rfl, hx, hxn, hr2, ho2⟩
        have HO2 := Lib.hid ho2
        have hnm : ∀ k, (Value.slice pv acc.length cv).ownBlock = some k → ¬ k = q := fun k hk h => by have h1 := HNEW.out k hk; have h2 := hql; omega
        obtain ⟨px, cx, rfl, hcx1, hcx2⟩ := own_form2 hx
        have hal : Below w2.heap.size w2 (w2.alloc (.cells #[.slice px x.length cx] 48)) := (Below.refl _ _).alloc (Nat.le_refl _) _
        have ho1 := (HOWN.out.only ho2 hnm).below hal
        have hs1 : Sl (w2.alloc (.cells #[.slice px x.length cx] 48)) (fun _ => True) 1 (.slice (some ⟨w2.heap.size, 0, none⟩) 1 1) 1 (rowVals [⟨.slice px x.length cx, x⟩]) :=
          (Own.made w2 48 1 (rowVals [⟨.slice px x.length cx, x⟩]) [] 1 1 rfl (Ones.nil.cons rfl) (Nat.le_refl _) (by simp [maxLen]) (by simp [rowVals])).sl (fun _ _ => trivial)
        have HR2 := Lib.hid (hr2.below hal)
        have HNM := Lib.hid hnm
        have hsz2 : (w2.alloc (.cells #[.slice px x.length cx] 48)).heap.size = w2.heap.size + 1 := by simp
        have hov : ∀ k, (Value.slice pv acc.length cv).ownBlock = some k → k < wr.heap.size := HOWN.out.lt
        have HXS : Hid (Sl (w2.alloc (.cells #[.slice px x.length cx] 48)) (fun k => w.heap.size ≤ k ∧ (Value.slice pv acc.length cv).ownBlock ≠ some k) 3 (.slice px x.length cx) x.length (rowCells x)) :=
          (hx.sl (fun k hk => ⟨Nat.le_trans HO.out.size (hxn k hk), fun h => by have h1 := hxn k hk; have h2 := hov k h; omega⟩)).below hal
        have HRS : Hid (∀ r ∈ acc, Sl (w2.alloc (.cells #[.slice px x.length cx] 48)) (fun k => w.heap.size ≤ k ∧ (Value.slice pv acc.length cv).ownBlock ≠ some k) 3 r.v r.l.length (rowCells r.l)) :=
          fun r hr => ((HROWS.out r hr).only ho2 (fun k hk h => by have h1 := hql; omega)).below hal
        have HSZ2 := Lib.hid hsz2
        have HAL := Lib.hid hal
        clear ho2 hr2 hnm hal hsz2 hov hx hxn
        go_wp2_with (at_builtin; refine wpList_app rfl _ _ rfl elemRow (by rfl) ho1 (by rfl) hs1 (by unfold maxLen; omega) (by omega) ?_; intro v1 w3 g1 g2 g3 g4 g5; clear ho1 hs1; have G1 := Lib.hid g1; have G2 := Lib.hid g2; have G3 := Lib.hid g3; clear g1 g2 g3 g4 g5)
        have hww : w.heap.size ≤ wr.heap.size := HO.out.size
        have hw2 : wr.heap.size ≤ w2.heap.size := HO2.out.size
        have hmv : ∀ r : RowV, Sl (w2.alloc (.cells #[.slice px x.length cx] 48)) (fun k => w.heap.size ≤ k ∧ (Value.slice pv acc.length cv).ownBlock ≠ some k) 3 r.v r.l.length (rowCells r.l) → Sl w3 (fun k => w.heap.size ≤ k ∧ v1.ownBlock ≠ some k) 3 r.v r.l.length (rowCells r.l) := fun r h =>
          h.mono G2.out.size (fun k hk hl => G2.out.block k hl hk.2) (fun k hk hl => ⟨hk.1, fun h => by
            rcases G3.out with h1 | h1
            · rw [h1] at h; exact hk.2 h
            · rw [h1] at h
              have : (w2.alloc (.cells #[.slice px x.length cx] 48)).heap.size = k := by simpa using h
              omega⟩)
        go_roundw
        case rel =>
          refine ⟨j + 1, m, acc ++ [⟨.slice px x.length cx, x⟩], b2, l2, by go_num, by omega, ?_, fun r hr => ?_, fun k hk => ?_, ?_, ?_, ?_, HST2.out, fun hb => ?_, ?_⟩
          · rw [List.length_append, rowVals_append]; exact G1.out
          · rcases List.mem_append.1 hr with hr | hr
            · exact hmv r (HRS.out r hr)
            · rw [List.mem_singleton.1 hr]; exact hmv ⟨.slice px x.length cx, x⟩ HXS.out
          · rcases G3.out with h | h
            · exact HNEW.out k (by rw [← h]; exact hk)
            · rw [h, HSZ2.out] at hk
              have : w2.heap.size + 1 = k := by simpa using hk
              omega
          · exact HR2.out.only G2.out (fun h => HNM.out _ h rfl)
          · refine ((HO.out.trans HO2.out (fun _ _ h => h)).trans (Only.of_none HAL.out (S := fun _ => False)) (fun _ _ h => h.elim)).trans G2.out (fun k hk h => ?_)
            have h1 := HNEW.out k h; omega
          · rw [List.map_append, List.append_assoc]; exact HST1.out
          · have h1 := HGV.out hb; have h2 := HC1.out trivial; rw [List.length_append]; simp only [List.length_cons, List.length_nil]; omega
          · have h2 := HC1.out trivial; rw [List.length_append]; simp only [List.length_cons, List.length_nil]; omega
        case measure => (simp [intOf]) <;> omega
    · have e1 : tot.2.1 = true := by
        rw [← HT2.out]
        cases m <;> rfl
      have e2 := HV.out
      rw [if_pos e1] at e2
      subst e2
      have hlk : lk = [] := HRD.out.empty rfl
      subst hlk
      clear HV HT1 HT2 HT
      go_wp2
      all_goals
        go_ret
        unfold RowsPt
        exact ⟨_, [], rfl, rfl, Own.nil _ _ _, by simp [Value.ownBlock], by simp, HRD.out, HO.out⟩
end Go.Proofs.Ytdhdphmehjkbnaa
