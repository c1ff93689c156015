/- The reader: Rows. -/
import Derived.Test.YtdhdphmehjkbnaaRdI
namespace Go.Proofs.Ytdhdphmehjkbnaa
open Go.RowKit Go.Afx
variable {RB : Nat → Prop}

theorem elemRow : Elem Try.prog 36 48 1 24 (.slice none 0 0) :=
  ⟨Try.underlying36, by kernel_rfl, rfl, by omega, by intro u hu; simp [Value.cells] at hu; subst hu; rfl⟩
theorem rowVals_append (a b : List RowV) : rowVals (a ++ b) = rowVals a ++ rowVals b := by simp [rowVals]

theorem rMany_good {α : Type} (f : Bool → List UInt8 → α × Bool × List UInt8) (hf : ∀ bad l, (f bad l).2.1 = false → bad = false ∧ (f bad l).2.2.length ≤ l.length) :
    ∀ n bad l, (rMany f n bad l).2.1 = false → bad = false ∧ (rMany f n bad l).2.2.length ≤ l.length
  | 0, bad, l, h => ⟨h, Nat.le_refl _⟩
  | n + 1, bad, l, h => by
    unfold rMany at *
    cases bad
    · rw [if_neg (by decide)] at h ⊢
      have h1 := rMany_good f hf n _ _ h
      have h2 := hf _ _ h1.1
      exact ⟨rfl, Nat.le_trans h1.2 h2.2⟩
    · cases h
theorem rList_good {α : Type} (f : Bool → List UInt8 → α × Bool × List UInt8) (hf : ∀ bad l, (f bad l).2.1 = false → bad = false ∧ (f bad l).2.2.length ≤ l.length) (most : Int) (bad : Bool) (l : List UInt8)
    (h : (rList f most bad l).2.1 = false) : bad = false ∧ (rList f most bad l).2.2.length + 1 ≤ l.length := by
  unfold rList at *
  simp only at *
  split at h
  · cases h
  · rename_i h1
    rw [if_neg h1]
    have h2 := rMany_good f hf _ _ _ h
    have h3 := rSize_good most bad l h2.1
    exact ⟨h3.1, by omega⟩
theorem rRow_good (most : Int) (bad : Bool) (l : List UInt8) (h : (rRow most bad l).2.1 = false) : bad = false ∧ (rRow most bad l).2.2.length + 1 ≤ l.length :=
  rList_good rVal (fun bad l h => by have := rVal_good bad l h; exact ⟨this.1, by omega⟩) most bad l h
def rRows (most cols : Int) (bad : Bool) (l : List UInt8) : List (List AV) × Bool × List UInt8 := rList (rRow cols) most bad l

/-- What Rows leaves. -/
def RowsOut (RB : Nat → Prop) (w : World) (p : Option Addr) (out : List (List AV) × Bool × List UInt8) (e : Ending) (w' : World) : Prop :=
  ∃ v rows, e = .returned v ∧ rows.map RowV.l = out.1 ∧ Own w' 48 1 v rows.length (rowVals rows) ∧ (∀ k, v.ownBlock = some k → w.heap.size ≤ k) ∧ (∀ r ∈ rows, Sl w' (fun k => w.heap.size ≤ k) 3 r.v r.l.length (rowCells r.l)) ∧
      Rdr w' p RB out.2.1 out.2.2 ∧ Only (Mine p) w w'

set_option maxRecDepth 100000 in
set_option maxHeartbeats 1000000 in
theorem rows_r (w : World) (p : Option Addr) (bad : Bool) (l : List UInt8) (h : Rdr w p RB bad l) (hRB : ∀ k, RB k → k < w.heap.size) (most cols : Int) (hm : fit64 most) (hcol : fit64 cols) (hl : l.length ≤ 1000000) :
    Calls Try.prog 50 #[.pointer p, .int .i64 most, .int .i64 cols] w fun e w' => RowsOut RB w p (rRows most cols bad l) e w' := by
  have HS := Lib.hid (size_r w p bad l h most hm)
  have HLT := Lib.hid h.lt
  have HRB := Lib.hid hRB
  have hsg := rSize_good most bad l
  have HV : Hid (rRows most cols bad l = if (rMany (rRow cols) (rSize most bad l).1 (rSize most bad l).2.1 (rSize most bad l).2.2).2.1 then ([], true, []) else rMany (rRow cols) (rSize most bad l).1 (rSize most bad l).2.1 (rSize most bad l).2.2) := rfl
  generalize rRows most cols bad l = out at *
  have hsb : (rSize most bad l).1 < 18446744073709551616 := by
    have := rNum_lt bad l
    unfold rSize
    simp only
    split
    · simp
    · exact this
  have hsm : ((rSize most bad l).1 : Int) ≤ 9223372036854775807 := by
    unfold fit64 at hm
    unfold rSize
    simp only
    split
    · simp
    · rename_i hx; simp only [not_or] at hx; omega
  generalize hs : rSize most bad l = sz at *
  clear h hRB hm hs hsb
  obtain ⟨n, bd, l1⟩ := sz
  simp only at HV HS hsg hsm
  have hl1 : bd = false → l1.length ≤ 1000000 := fun hb => by have := (hsg hb).2; omega
  have HL1 := Lib.hid hl1
  clear hsg hl1
  generalize htot : rMany (rRow cols) n bd l1 = tot at *
  have HT := Lib.hid htot
  clear htot
  go_enter Try.func50, Try.ntmps50
  go_wp2_with (go_at_call 71; refine HS.out.mono ?_; clear HS; rintro e w1 ⟨rfl, hr1, ho1⟩; have HR1 := Lib.hid hr1; have HO1 := Lib.hid ho1; clear hr1 ho1)
  go_loopw [7, 8] (fun v i wr => ∃ (m : Nat) (acc : List RowV) (bk : Bool) (lk : List UInt8), i = .int .i64 m ∧ m ≤ n ∧ Own wr 48 1 v acc.length (rowVals acc) ∧ (∀ r ∈ acc, Sl wr (fun k => w.heap.size ≤ k ∧ v.ownBlock ≠ some k) 3 r.v r.l.length (rowCells r.l)) ∧ (∀ k, v.ownBlock = some k → w.heap.size ≤ k) ∧
    Rdr wr p RB bk lk ∧ Only (Mine p) w wr ∧ acc.map RowV.l ++ (rMany (rRow cols) m bk lk).1 = tot.1 ∧ (rMany (rRow cols) m bk lk).2 = tot.2 ∧ (bk = false → acc.length + lk.length ≤ 1000000) ∧ acc.length ≤ 1000001) (fun _ i _ => (intOf i).toNat)
  case atStart => exact ⟨n, [], bd, l1, rfl, Nat.le_refl _, Own.nil _ _ _, by simp, by simp [Value.ownBlock], HR1.out, HO1.out, by rw [HT.out]; rfl, by rw [HT.out], fun hb => by simpa using HL1.out hb, by simp⟩
  case round =>
    obtain ⟨m, acc, bk, lk, rfl, hmn, hown, hrows, hnew, hrd, ho, ht1, ht2, hc1, hc2⟩ := hrel
    obtain ⟨pv, cv, rfl, hcv1, hcv2⟩ := own_form2 hown
    have HG := Lib.hid (good_r _ p _ _ hrd)
    have HOWN := Lib.hid hown
    have HNEW := Lib.hid hnew
    have HROWS := Lib.hid hrows
    have HRD := Lib.hid hrd
    have HO := Lib.hid ho
    have HT1 := Lib.hid ht1
    have HT2 := Lib.hid ht2
    have HC1 := Lib.hid hc1
    clear hown hrows hnew hrd ho ht1 ht2 hc1
    cases bk
    · rcases Nat.eq_zero_or_pos m with hm0 | hm0
      · subst hm0
        go_wp2_with (go_at_call 52; refine HG.out.mono ?_; rintro e w7 ⟨rfl, rfl⟩)
        go_ret
        have e1 : tot = (acc.map RowV.l, false, lk) := by
          have := HT1.out; have h2 := HT2.out
          simp [rMany] at this h2
          exact Prod.ext this.symm h2.symm
        have e2 := HV.out
        rw [e1] at e2
        simp at e2
        rw [e2]
        unfold RowsOut
        exact ⟨_, acc, rfl, rfl, HOWN.out, HNEW.out, fun r hr => (HROWS.out r hr).mono (Nat.le_refl _) (fun _ _ _ => rfl) (fun _ h _ => h.1), HRD.out, HO.out⟩
      · obtain ⟨m, rfl⟩ : ∃ m', m = m' + 1 := ⟨m - 1, by omega⟩
        have hlk6 : lk.length ≤ 1000000 := by have := HC1.out rfl; omega
        have HX := Lib.hid (row_r wr p false lk HRD.out (fun k hk => Nat.lt_of_lt_of_le (HRB.out k hk) HO.out.size) cols hcol hlk6)
        have HGV := Lib.hid (rRow_good cols false lk)
        have hst1 : acc.map RowV.l ++ (rRow cols false lk).1 :: (rMany (rRow cols) m (rRow cols false lk).2.1 (rRow cols false lk).2.2).1 = tot.1 := HT1.out
        have hst2 : (rMany (rRow cols) m (rRow cols false lk).2.1 (rRow cols false lk).2.2).2 = tot.2 := HT2.out
        have HST1 := Lib.hid hst1
        have HST2 := Lib.hid hst2
        clear hst1 hst2 HT1 HT2
        generalize rRow cols false lk = r at *
        obtain ⟨x, b2, l2⟩ := r
        simp only at HX HGV HST1 HST2
        have hpos : (0 : Int) < ((m + 1 : Nat) : Int) := by omega
        go_wp2_with (go_at_call 52; refine HG.out.mono ?_; clear HG; rintro e w7 ⟨rfl, rfl⟩)
        refine HX.out.mono ?_
        clear HX
        rintro e w2 ⟨xv, rfl, hx, hxn, hr2, ho2⟩
        have HO2 := Lib.hid ho2
        have hnm : ∀ k, (Value.slice pv acc.length cv).ownBlock = some k → ¬ Mine p k := fun k hk h => by have h1 := HNEW.out k hk; have h2 := HLT.out k h; omega
        obtain ⟨px, cx, rfl, hcx1, hcx2⟩ := own_form2 hx
        have hal : Below w2.heap.size w2 (w2.alloc (.cells #[.slice px x.length cx] 48)) := (Below.refl _ _).alloc (Nat.le_refl _) _
        have ho1 := (HOWN.out.only ho2 hnm).below hal
        have hs1 : Sl (w2.alloc (.cells #[.slice px x.length cx] 48)) (fun _ => True) 1 (.slice (some ⟨w2.heap.size, 0, none⟩) 1 1) 1 (rowVals [⟨.slice px x.length cx, x⟩]) :=
          (Own.made w2 48 1 (rowVals [⟨.slice px x.length cx, x⟩]) [] 1 1 rfl (Ones.nil.cons rfl) (Nat.le_refl _) (by simp [maxLen]) (by simp [rowVals])).sl (fun _ _ => trivial)
        have HR2 := Lib.hid (hr2.below hal)
        have HNM := Lib.hid hnm
        have hsz2 : (w2.alloc (.cells #[.slice px x.length cx] 48)).heap.size = w2.heap.size + 1 := by simp
        have hov : ∀ k, (Value.slice pv acc.length cv).ownBlock = some k → k < wr.heap.size := HOWN.out.lt
        have HXS : Hid (Sl (w2.alloc (.cells #[.slice px x.length cx] 48)) (fun k => w.heap.size ≤ k ∧ (Value.slice pv acc.length cv).ownBlock ≠ some k) 3 (.slice px x.length cx) x.length (rowCells x)) :=
          (hx.sl (fun k hk => ⟨Nat.le_trans HO.out.size (hxn k hk), fun h => by have h1 := hxn k hk; have h2 := hov k h; omega⟩)).below hal
        have HRS : Hid (∀ r ∈ acc, Sl (w2.alloc (.cells #[.slice px x.length cx] 48)) (fun k => w.heap.size ≤ k ∧ (Value.slice pv acc.length cv).ownBlock ≠ some k) 3 r.v r.l.length (rowCells r.l)) :=
          fun r hr => ((HROWS.out r hr).only ho2 (fun k hk h => by have h1 := HLT.out k h; omega)).below hal
        have HSZ2 := Lib.hid hsz2
        have HAL := Lib.hid hal
        clear ho2 hr2 hnm hal hsz2 hov hx hxn
        go_wp2_with (at_builtin; refine wpList_app rfl _ _ rfl elemRow (by rfl) ho1 (by rfl) hs1 (by unfold maxLen; omega) (by omega) ?_; intro v1 w3 g1 g2 g3 g4 g5; clear ho1 hs1; have G1 := Lib.hid g1; have G2 := Lib.hid g2; have G3 := Lib.hid g3; clear g1 g2 g3 g4 g5)
        have hww : w.heap.size ≤ wr.heap.size := HO.out.size
        have hw2 : wr.heap.size ≤ w2.heap.size := HO2.out.size
        have hmv : ∀ r : RowV, Sl (w2.alloc (.cells #[.slice px x.length cx] 48)) (fun k => w.heap.size ≤ k ∧ (Value.slice pv acc.length cv).ownBlock ≠ some k) 3 r.v r.l.length (rowCells r.l) → Sl w3 (fun k => w.heap.size ≤ k ∧ v1.ownBlock ≠ some k) 3 r.v r.l.length (rowCells r.l) := fun r h =>
          h.mono G2.out.size (fun k hk hl => G2.out.block k hl hk.2) (fun k hk hl => ⟨hk.1, fun h => by
            rcases G3.out with h1 | h1
            · rw [h1] at h; exact hk.2 h
            · rw [h1] at h
              have : (w2.alloc (.cells #[.slice px x.length cx] 48)).heap.size = k := by simpa using h
              omega⟩)
        go_roundw
        case rel =>
          refine ⟨m, acc ++ [⟨.slice px x.length cx, x⟩], b2, l2, by go_num, by omega, ?_, fun r hr => ?_, fun k hk => ?_, ?_, ?_, ?_, HST2.out, fun hb => ?_, ?_⟩
          · rw [List.length_append, rowVals_append]; exact G1.out
          · rcases List.mem_append.1 hr with hr | hr
            · exact hmv r (HRS.out r hr)
            · rw [List.mem_singleton.1 hr]; exact hmv ⟨.slice px x.length cx, x⟩ HXS.out
          · rcases G3.out with h | h
            · exact HNEW.out k (by rw [← h]; exact hk)
            · rw [h, HSZ2.out] at hk
              have : w2.heap.size + 1 = k := by simpa using hk
              omega
          · exact HR2.out.only G2.out HNM.out (fun k hk h => by have h1 := HNEW.out k hk; have h2 := HRB.out k h; omega)
          · refine ((HO.out.trans HO2.out (fun _ _ h => h)).trans (Only.of_none HAL.out (S := fun _ => False)) (fun _ _ h => h.elim)).trans G2.out (fun k hk h => ?_)
            have h1 := HNEW.out k h; omega
          · rw [List.map_append, List.append_assoc]; exact HST1.out
          · have h1 := HGV.out hb; have h2 := HC1.out trivial; rw [List.length_append]; simp only [List.length_cons, List.length_nil]; omega
          · have h2 := HC1.out trivial; rw [List.length_append]; simp only [List.length_cons, List.length_nil]; omega
        case measure => (simp [intOf]) <;> omega
    · have e1 : tot.2.1 = true := by
        rw [← HT2.out]
        cases m <;> rfl
      have e2 := HV.out
      rw [if_pos e1] at e2
      subst e2
      have hlk : lk = [] := HRD.out.empty rfl
      subst hlk
      clear HV HT1 HT2 HT
      go_wp2_with (go_at_call 52; refine HG.out.mono ?_; rintro e w7 ⟨rfl, rfl⟩)
      all_goals
        go_ret
        unfold RowsOut
        exact ⟨_, [], rfl, rfl, Own.nil _ _ _, by simp [Value.ownBlock], by simp, HRD.out, HO.out⟩
end Go.Proofs.Ytdhdphmehjkbnaa
