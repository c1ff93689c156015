/- The law SchemaRights: its walk. -/
import Derived.Test.YtlgohkdckdnmhaaDoorScF
import Derived.Test.YtlgohkdckdnmhaaDoorScO
import Derived.Test.YtlgohkdckdnmhaaDoorRtB
import Derived.Test.YtlgohkdckdnmhaaDoorRtE
import Derived.Test.YtlgohkdckdnmhaaDoorRtF
import Derived.Test.YtlgohkdckdnmhaaDoorRtG
import Derived.Test.YtlgohkdckdnmhaaDoorRtI
import Derived.Deep.DeepCutAuto
import Derived.Deep.CutBlock
import Derived.Laws.BitsLemmas
namespace Go.Proofs.YtlgohkdckdnmhaaDoor
open Go.RowKit Go.Afx

theorem eqBy_self {α : Type} (f : α → α → Bool) (hf : ∀ x, f x x = true) (l : List α) : eqBy f l l = true := by
  rw [eqBy_all rfl, List.all_eq_true]
  intro k hk
  have hk2 : k < l.length := by simpa using hk
  rw [eqByAt_eq f l l k hk2 hk2]
  exact hf _
theorem eqBy_idx {a b : List IdxV} (h1 : a.map IdxV.l = b.map IdxV.l) (h2 : a.map IdxV.unique = b.map IdxV.unique) : eqBy idxEq a b = true := by
  have hl : a.length = b.length := by have := congrArg List.length h1; simpa using this
  rw [eqBy_all hl, List.all_eq_true]
  intro k hk
  have hk1 : k < a.length := by simpa using hk
  have hk2 : k < b.length := by omega
  rw [eqByAt_eq idxEq a b k hk1 hk2]
  have e1 : (a.map IdxV.l)[k]? = (b.map IdxV.l)[k]? := by rw [h1]
  have e2 : (a.map IdxV.unique)[k]? = (b.map IdxV.unique)[k]? := by rw [h2]
  rw [List.getElem?_map, List.getElem?_map, List.getElem?_eq_getElem hk1, List.getElem?_eq_getElem hk2] at e1 e2
  have e3 := Option.some.inj e1
  have e4 := Option.some.inj e2
  unfold idxEq
  rw [e3, e4]
  simp
theorem sameS_alike {c s : SchV} (h : Alike c s) : sameS c s = true := by
  unfold sameS
  rw [h.name, h.cols, h.limit, h.parts, h.by_, eqBy_self colEq (fun x => by unfold colEq; simp), eqBy_idx h.idx h.uni]
  simp
theorem firstI_drop {α : Type} (p : α → Bool) (l : List α) (i : Nat) (h : i < l.length) :
    (match (l.drop i).findIdx? p with | some j => (i : Int) + (j : Int) | none => -1) =
    if p l[i] then (i : Int) else (match (l.drop (i + 1)).findIdx? p with | some j => ((i + 1 : Nat) : Int) + (j : Int) | none => -1) := by
  rw [List.drop_eq_getElem_cons h, List.findIdx?_cons]
  cases hp : p l[i]
  · simp only [Bool.false_eq_true, if_false]
    cases (l.drop (i + 1)).findIdx? p with
    | none => rfl
    | some j =>
      show ((i : Int) + ((j + 1 : Nat) : Int)) = ((i + 1 : Nat) : Int) + (j : Int)
      omega
  · simp
/-- The place told by a look from the end: what is found from a place on. -/
def fromI {α : Type} (p : α → Bool) (l : List α) (i : Nat) : Int := match (l.drop i).findIdx? p with
  | some j => (i : Int) + (j : Int)
  | none => -1
theorem fromI_end {α : Type} (p : α → Bool) (l : List α) : fromI p l l.length = -1 := by unfold fromI; simp
theorem fromI_zero {α : Type} (p : α → Bool) (l : List α) : fromI p l 0 = firstI p l := by
  unfold fromI firstI
  rw [List.drop_zero]
  cases l.findIdx? p with
  | none => rfl
  | some j => simp
theorem fromI_step {α : Type} (p : α → Bool) (l : List α) (i : Nat) (h : i < l.length) : fromI p l i = if p l[i] then (i : Int) else fromI p l (i + 1) := by
  unfold fromI
  exact firstI_drop p l i h
theorem zr1 : AV.right ⟨1, 0, ⟨#[]⟩⟩ = true := by kernel_rfl
theorem zr2 : AV.right ⟨2, 0, ⟨#[]⟩⟩ = true := by kernel_rfl
theorem zr3 : AV.right ⟨3, 0, ⟨#[]⟩⟩ = true := by kernel_rfl
theorem zero_fits {s : SchV} (h : rightS s = true) : fitB s.cols (s.cols.map zeroC) = true := by
  rw [rightS_front] at h
  simp only [Bool.and_eq_true, List.all_eq_true] at h
  have hc := h.1.2.1
  have hk : ∀ c ∈ s.cols, 1 ≤ c.kind ∧ c.kind ≤ 3 := fun c hcm => by
    have := hc c hcm
    unfold colOk at this
    simp only [Bool.and_eq_true, decide_eq_true_eq] at this
    exact this.2
  unfold fitB
  rw [List.length_map, decide_eq_true rfl, Bool.true_and, Bool.and_eq_true]
  refine ⟨?_, ?_⟩
  · unfold rightAll
    rw [List.all_eq_true]
    intro a ha
    obtain ⟨c, hcm, rfl⟩ := List.mem_map.1 ha
    obtain ⟨h1, h2⟩ := hk c hcm
    unfold zeroC
    rw [if_pos (by rw [Bool.and_eq_true, decide_eq_true_eq, decide_eq_true_eq]; exact ⟨h1, h2⟩)]
    have h3 : c.kind = 1 ∨ c.kind = 2 ∨ c.kind = 3 := by omega
    rcases h3 with h3 | h3 | h3
    · rw [h3]; exact zr1
    · rw [h3]; exact zr2
    · rw [h3]; exact zr3
  · unfold kindsB
    rw [List.all_eq_true]
    intro i hi
    have hi2 : i < s.cols.length := by simpa using hi
    rw [kindAt_eq _ _ i (by simpa using hi2) hi2, List.getElem_map]
    obtain ⟨h1, h2⟩ := hk s.cols[i] (List.getElem_mem hi2)
    unfold zeroC
    rw [if_pos (by rw [Bool.and_eq_true, decide_eq_true_eq, decide_eq_true_eq]; exact ⟨h1, h2⟩)]
    simp

theorem only_set (w : World) (b o : Nat) (v : Value) : Only (fun q => q = b) w (w.setCell ⟨b, o, none⟩ v) := Only.setCell (S := fun q => q = b) (Only.refl _ w) (p := ⟨b, o, none⟩) (fun _ => rfl) v
theorem colCells_set0 {l : List ColV} (h : 0 < l.length) (k : Int) : colCells (l.set 0 ⟨l[0].name, k⟩) = (colCells l).set 1 (.int .i64 k) := by
  cases l with
  | nil => simp at h
  | cons x t => rfl
theorem named_one2 (nm : ByteArray) (hn : nm.size ≤ 100) (W : World) :
    Calls Tryd.prog 50 #[.slice (some ⟨W.heap.size, 0, none⟩) 1 1] (W.alloc (.cells #[.string nm] 9)) fun e w' => e = .returned (.bool (namedB nm)) ∧ Below W.heap.size W w' := by
  have h1 : Sl (W.alloc (.cells #[.string nm] 9)) (fun _ => True) 1 (.slice (some ⟨W.heap.size, 0, none⟩) 1 1) [nm.data.toList].length (strC [nm.data.toList]) := one_str W nm.data.toList
  have hs := size_list nm _ rfl
  have h2 := named_list _ _ _ [nm.data.toList] h1 (by intro s hs2; rw [List.mem_singleton] at hs2; subst hs2; omega)
  have h3 : [nm.data.toList].all namedL = namedB nm := by unfold namedB; simp
  rw [h3] at h2
  exact h2.mono fun e w' ⟨he, hb⟩ => ⟨he, ((Below.refl _ _).alloc (Nat.le_refl _) _).trans (hb.mono (by simp))⟩
theorem named_two (nm : ByteArray) (hn : nm.size ≤ 100) (W : World) :
    Calls Tryd.prog 50 #[.slice (some ⟨W.heap.size, 0, none⟩) 2 2] (W.alloc (.cells #[.string nm, .string ⟨#[97]⟩] 9)) fun e w' => e = .returned (.bool (namedB nm)) ∧ Below W.heap.size W w' := by
  have ho := Own.made W 9 1 (strC [nm.data.toList, [97]]) [] 2 2 rfl (by intro u hu; simp [strC] at hu; rcases hu with rfl | rfl <;> rfl) (by omega) (by simp [maxLen]) (by simp [strC])
  have h1 : Sl (W.alloc (.cells #[.string nm, .string ⟨#[97]⟩] 9)) (fun _ => True) 1 (.slice (some ⟨W.heap.size, 0, none⟩) 2 2) [nm.data.toList, [97]].length (strC [nm.data.toList, [97]]) := ho.sl (fun _ _ => trivial)
  have hs := size_list nm _ rfl
  have h2 := named_list _ _ _ [nm.data.toList, [97]] h1 (by intro s hs2; simp only [List.mem_cons, List.not_mem_nil, or_false] at hs2; rcases hs2 with rfl | rfl <;> first | omega | simp)
  have h4 : namedL [97] = true := by kernel_rfl
  have h3 : [nm.data.toList, [97]].all namedL = namedB nm := by unfold namedB; simp [h4]
  rw [h3] at h2
  exact h2.mono fun e w' ⟨he, hb⟩ => ⟨he, ((Below.refl _ _).alloc (Nat.le_refl _) _).trans (hb.mono (by simp))⟩
set_option maxRecDepth 100000 in
set_option maxHeartbeats 8000000 in
theorem scRights_walk (w : World) (hm : Mx w) (s t : SchV) (nm : ByteArray) (h : SchAt w (fun _ => True) s) (h' : SchAt w (fun _ => True) t) (hrd : ∀ c ∈ s.cols, fit64 c.kind) :
    Calls Tryd.prog 11 #[s.agg, t.agg, .string nm] w fun e w' => e = .returned (.bool true) ∧ Below w.heap.size w w' := by
  obtain ⟨pc, cc, hpc, hcc1, hcc⟩ := h.cols.form
  obtain ⟨pi, ci, hpi, hci1, hci⟩ := h.idx.1.form
  obtain ⟨pc', cc', hpc', hcc1', hcc'⟩ := h'.cols.form
  obtain ⟨pi', ci', hpi', hci1', hci'⟩ := h'.idx.1.form
  have hga : s.agg = .agg #[.string s.name, .slice pc s.cols.length cc, .slice pi s.idx.length ci, .int .i64 s.limit, .int .i64 s.parts, .int .i64 s.by_] := by unfold SchV.agg; rw [hpc, hpi]
  have hga' : t.agg = .agg #[.string t.name, .slice pc' t.cols.length cc', .slice pi' t.idx.length ci', .int .i64 t.limit, .int .i64 t.parts, .int .i64 t.by_] := by unfold SchV.agg; rw [hpc', hpi']
  obtain ⟨w1, hw1⟩ : ∃ w1, w.alloc (.cells #[.string s.name, .slice pc s.cols.length cc, .slice pi s.idx.length ci, .int .i64 s.limit, .int .i64 s.parts, .int .i64 s.by_] 47) = w1 := ⟨_, rfl⟩
  obtain ⟨w2, hw2⟩ : ∃ w2, w1.alloc (.cells #[.string t.name, .slice pc' t.cols.length cc', .slice pi' t.idx.length ci', .int .i64 t.limit, .int .i64 t.parts, .int .i64 t.by_] 47) = w2 := ⟨_, rfl⟩
  have b1 : Below w.heap.size w w1 := hw1 ▸ (Below.refl _ _).alloc (Nat.le_refl _) _
  have b2 : Below w1.heap.size w1 w2 := hw2 ▸ (Below.refl _ _).alloc (Nat.le_refl _) _
  have b12 := b1.trans (b2.mono b1.size)
  have k1 : Blk w1 w.heap.size 47 [.string s.name, .slice pc s.cols.length cc, .slice pi s.idx.length ci, .int .i64 s.limit, .int .i64 s.parts, .int .i64 s.by_] := by rw [← hw1]; exact Blk.new w _ _
  have k2 : Blk w2 w1.heap.size 47 [.string t.name, .slice pc' t.cols.length cc', .slice pi' t.idx.length ci', .int .i64 t.limit, .int .i64 t.parts, .int .i64 t.by_] := by rw [← hw2]; exact Blk.new w1 _ _
  have HK1 := Lib.hid (k1.below b2)
  have HK2 := Lib.hid k2
  have HB0 := Lib.hid b12
  have hs2 := h.below b12
  have ht2 := h'.below b12
  have hm2 := hm.below b12
  have HAW := Lib.hid (fun W (hb : Below w2.heap.size w2 W) => awake03_any W (hm2.below hb))
  have HGS := Lib.hid (great_sch w2 _ s hs2.cols hs2.idx)
  have HGT := Lib.hid (fun W (hb : Below w2.heap.size w2 W) => great_sch W _ t (ht2.below hb).cols (ht2.below hb).idx)
  rw [hga] at HGS ⊢
  rw [hga'] at HGT ⊢
  clear b1 b2 b12 k1 k2 h h' hm
  by_cases hg : greatS s.name s.cols s.idx = true
  · rw [hg] at HGS
    clear hg hs2 ht2 hm2 hpc hpi hpc' hpi' hga hga'
    have HX := Lib.hid (Below.refl w2.heap.size w2)
    obtain ⟨x0, x1, x2, x3, x4, x5⟩ := sch_cells (HK1.out.below HX.out)
    obtain ⟨y0, y1, y2, y3, y4, y5⟩ := sch_cells (HK2.out.below HX.out)
    go_enter Tryd.func11, Tryd.ntmps11
    go_wp2_with fail
    clear hw1 hw2 x0 x1 x2 x3 x4 x5 y0 y1 y2 y3 y4 y5
    refine HGS.out.mono ?_
    rintro e wn ⟨rfl, hbn⟩
    have HXN := Lib.hid (HX.out.trans (hbn.mono HX.out.size))
    clear hbn HX
    have HX := HXN
    clear HXN
    go_wp2_with fail
    refine (HAW.out _ HX.out).mono ?_
    rintro e w9 ⟨rfl, hb9⟩
    have HB9 := Lib.hid (HX.out.trans (hb9.mono HX.out.size))
    clear hb9
    go_wp2
    go_ret
    exact ⟨rfl, HB0.out.trans (HB9.out.mono HB0.out.size)⟩
  rw [Bool.not_eq_true] at hg
  rw [hg] at HGS
  by_cases hg' : greatS t.name t.cols t.idx = true
  · rw [hg'] at HGT
    clear hg hg' hs2 ht2 hm2 hpc hpi hpc' hpi' hga hga'
    have HX := Lib.hid (Below.refl w2.heap.size w2)
    obtain ⟨x0, x1, x2, x3, x4, x5⟩ := sch_cells (HK1.out.below HX.out)
    obtain ⟨y0, y1, y2, y3, y4, y5⟩ := sch_cells (HK2.out.below HX.out)
    go_enter Tryd.func11, Tryd.ntmps11
    go_wp2_with fail
    clear hw1 hw2 x0 x1 x2 x3 x4 x5 y0 y1 y2 y3 y4 y5
    refine HGS.out.mono ?_
    rintro e wn ⟨rfl, hbn⟩
    have HXN := Lib.hid (HX.out.trans (hbn.mono HX.out.size))
    clear hbn HX
    have HX := HXN
    clear HXN
    obtain ⟨y0, y1, y2, y3, y4, y5⟩ := sch_cells (HK2.out.below HX.out)
    go_wp2_with fail
    clear y0 y1 y2 y3 y4 y5
    refine (HGT.out _ HX.out).mono ?_
    rintro e wn ⟨rfl, hbn⟩
    have HXN := Lib.hid (HX.out.trans (hbn.mono HX.out.size))
    clear hbn HX
    have HX := HXN
    clear HXN
    go_wp2_with fail
    refine (HAW.out _ HX.out).mono ?_
    rintro e w9 ⟨rfl, hb9⟩
    have HB9 := Lib.hid (HX.out.trans (hb9.mono HX.out.size))
    clear hb9
    go_wp2
    go_ret
    exact ⟨rfl, HB0.out.trans (HB9.out.mono HB0.out.size)⟩
  rw [Bool.not_eq_true] at hg'
  rw [hg'] at HGT
  by_cases hnb : 100 < nm.size
  · have hd : decide ((100 : Int) < (nm.size : Int)) = true := decide_eq_true (by omega)
    clear hg hg' hs2 ht2 hm2 hpc hpi hpc' hpi' hga hga'
    have HX := Lib.hid (Below.refl w2.heap.size w2)
    obtain ⟨x0, x1, x2, x3, x4, x5⟩ := sch_cells (HK1.out.below HX.out)
    obtain ⟨y0, y1, y2, y3, y4, y5⟩ := sch_cells (HK2.out.below HX.out)
    go_enter Tryd.func11, Tryd.ntmps11
    go_wp2_with fail
    clear hw1 hw2 x0 x1 x2 x3 x4 x5 y0 y1 y2 y3 y4 y5
    refine HGS.out.mono ?_
    rintro e wn ⟨rfl, hbn⟩
    have HXN := Lib.hid (HX.out.trans (hbn.mono HX.out.size))
    clear hbn HX
    have HX := HXN
    clear HXN
    obtain ⟨y0, y1, y2, y3, y4, y5⟩ := sch_cells (HK2.out.below HX.out)
    go_wp2_with fail
    clear y0 y1 y2 y3 y4 y5
    refine (HGT.out _ HX.out).mono ?_
    rintro e wn ⟨rfl, hbn⟩
    have HXN := Lib.hid (HX.out.trans (hbn.mono HX.out.size))
    clear hbn HX
    have HX := HXN
    clear HXN
    go_wp2_with fail
    refine (HAW.out _ HX.out).mono ?_
    rintro e w9 ⟨rfl, hb9⟩
    have HB9 := Lib.hid (HX.out.trans (hb9.mono HX.out.size))
    clear hb9
    go_wp2
    go_ret
    exact ⟨rfl, HB0.out.trans (HB9.out.mono HB0.out.size)⟩
  have hd : decide ((100 : Int) < (nm.size : Int)) = false := decide_eq_false (by omega)
  obtain ⟨hc12, hi8, _, hcn, hx12⟩ := greatS_no hg
  have HHS := Lib.hid hs2
  have HHT := Lib.hid ht2
  clear hg hg'
  have HX := Lib.hid (Below.refl w2.heap.size w2)
  obtain ⟨x0, x1, x2, x3, x4, x5⟩ := sch_cells (HK1.out.below HX.out)
  obtain ⟨y0, y1, y2, y3, y4, y5⟩ := sch_cells (HK2.out.below HX.out)
  go_enter Tryd.func11, Tryd.ntmps11
  go_wp2_with fail
  clear hw1 hw2 x0 x1 x2 x3 x4 x5 y0 y1 y2 y3 y4 y5
  refine HGS.out.mono ?_
  rintro e wn ⟨rfl, hbn⟩
  have HXN := Lib.hid (HX.out.trans (hbn.mono HX.out.size))
  clear hbn HX
  have HX := HXN
  clear HXN
  obtain ⟨y0, y1, y2, y3, y4, y5⟩ := sch_cells (HK2.out.below HX.out)
  go_wp2_with fail
  clear y0 y1 y2 y3 y4 y5
  refine (HGT.out _ HX.out).mono ?_
  rintro e wn ⟨rfl, hbn⟩
  have HXN := Lib.hid (HX.out.trans (hbn.mono HX.out.size))
  clear hbn HX
  have HX := HXN
  clear HXN
  obtain ⟨x0, x1, x2, x3, x4, x5⟩ := sch_cells (HK1.out.below HX.out)
  go_wp2
  clear hd x0 x1 x2 x3 x4 x5
  go_loopw [7, 8] (fun a i wr => ∃ (k : Nat), i = .int .i64 ((k : Int) - 1) ∧ k ≤ s.cols.length ∧ a = .int .i64 (fromI (nameIs nm) s.cols k) ∧ Below w2.heap.size w2 wr) (fun _ i _ => (intOf i + 1).toNat)
  case atStart => exact ⟨s.cols.length, rfl, Nat.le_refl _, by rw [fromI_end], HX.out⟩
  case round =>
    clear HX
    obtain ⟨k, rfl, hk, rfl, hb⟩ := hrel
    have HX := Lib.hid hb
    obtain ⟨x0, x1, x2, x3, x4, x5⟩ := sch_cells (HK1.out.below HX.out)
    clear hb
    by_cases hk0 : 0 < k
    · obtain ⟨j, rfl⟩ : ∃ j, k = j + 1 := ⟨k - 1, by omega⟩
      have hj : (((j + 1 : Nat) : Int) - 1) = (j : Int) := by omega
      rw [hj]
      have hjl : j < s.cols.length := by omega
      obtain ⟨g, off, cap1, hv, hg, e0, e1⟩ := sl_col ((HHS.out.below HX.out).cols) hjl
      rw [hpc] at hv
      cases hv
      have HST := Lib.hid (fromI_step (nameIs nm) s.cols j hjl)
      clear hj
      generalize s.cols[j] = x at *
      obtain ⟨xs, xk⟩ := x
      have hnx : nameIs nm ⟨xs, xk⟩ = (xs.toList == nm.toList) := rfl
      rw [hnx] at HST
      simp only at e0 e1
      clear hnx
      cases hx : (xs.toList == nm.toList)
      · rw [hx] at HST
        simp only [Bool.false_eq_true, if_false] at HST
        go_wp2
        go_roundw
        case rel => exact ⟨j, by go_num, by omega, by rw [HST.out], HX.out⟩
        case measure => (simp [intOf]) <;> omega
      · rw [hx] at HST
        simp only [if_true] at HST
        go_wp2
        go_roundw
        case rel => exact ⟨j, by go_num, by omega, by rw [HST.out], HX.out⟩
        case measure => (simp [intOf]) <;> omega
    · obtain rfl : k = 0 := by omega
      rw [fromI_zero]
      have hcp := fun W (hb : Below w2.heap.size w2 W) => schcopy_any W _ s (HHS.out.below hb) (by omega) (by omega) (fun x hx => by have := hx12 x hx; omega)
      rw [hga] at hcp
      have HCP := Lib.hid hcp
      clear hcp
      go_wp2_with fail
      clear x0 x1 x2 x3 x4 x5
      refine (HCP.out _ HX.out).mono ?_
      clear HCP
      rintro e w4 ⟨c, rfl, hal, hown, hb4⟩
      obtain ⟨pv, cv, hcv, _, _⟩ := own_form hown.cols
      obtain ⟨pj, cj, hcj, _, _⟩ := own_form hown.idx
      have HB4 := Lib.hid (HX.out.trans (hb4.mono HX.out.size))
      have hil : c.idx.length = s.idx.length := by have := congrArg List.length hal.idx; simpa using this
      rw [hal.cols] at hcv
      rw [hil] at hcj
      have hcg : c.agg = .agg #[.string s.name, .slice pv s.cols.length cv, .slice pj s.idx.length cj, .int .i64 s.limit, .int .i64 s.parts, .int .i64 s.by_] := by
        unfold SchV.agg; rw [hcv, hcj, hal.name, hal.limit, hal.parts, hal.by_]
      rw [hcg]
      have HSW := Lib.hid HX.out.size
      have hsz4 := hb4.size
      clear hb4 HX
      have hca : SchAt w4 (fun _ => True) c := ⟨hown.cols.sl (fun _ _ => trivial), ⟨hown.idx.sl (fun _ _ => trivial), fun x hx => (hown.pl x hx).sl (fun _ _ => trivial)⟩, fun y hy => HHS.out.names y (hal.cols ▸ hy), by rw [hal.name]; exact HHS.out.name⟩
      have hb5 : Below w4.heap.size w4 (w4.alloc (.cells #[.string s.name, .slice pv s.cols.length cv, .slice pj s.idx.length cj, .int .i64 s.limit, .int .i64 s.parts, .int .i64 s.by_] 47)) := (Below.refl _ _).alloc (Nat.le_refl _) _
      have hk5 := Blk.new w4 47 [.string s.name, .slice pv s.cols.length cv, .slice pj s.idx.length cj, .int .i64 s.limit, .int .i64 s.parts, .int .i64 s.by_]
      go_wp2_with fail
      have HALK := Lib.hid hal
      have hsa := sameS_alike hal
      generalize (w4.alloc (.cells #[.string s.name, .slice pv s.cols.length cv, .slice pj s.idx.length cj, .int .i64 s.limit, .int .i64 s.parts, .int .i64 s.by_] 47)) = w5 at *
      have hk5' : Blk w5 w4.heap.size 47 [.string s.name, .slice pv s.cols.length cv, .slice pj s.idx.length cj, .int .i64 s.limit, .int .i64 s.parts, .int .i64 s.by_] := hk5
      have HK3 := Lib.hid hk5'
      have HB5 := Lib.hid (HB4.out.trans (hb5.mono HB4.out.size))
      have hc5 := hca.below hb5
      have hs5 := HHS.out.below HB5.out
      have ht5 := HHT.out.below HB5.out
      have HOW := Lib.hid hown
      have HB45 := Lib.hid hb5
      have r1 := fun W (hb : Below w5.heap.size w5 W) => refsameS_any W _ _ c s (hc5.below hb) (hs5.below hb)
      have r2 := fun W (hb : Below w5.heap.size w5 W) => scsame_any W _ _ s t (hs5.below hb) (ht5.below hb)
      have r3 := fun W (hb : Below w5.heap.size w5 W) => refsameS_any W _ _ s t (hs5.below hb) (ht5.below hb)
      have r4 := fun W (hb : Below w5.heap.size w5 W) => scsame_any W _ _ c s (hc5.below hb) (hs5.below hb)
      rw [hcg, hga, hsa] at r1 r4
      rw [hga, hga'] at r2 r3
      generalize sameS s t = q at *
      have R1 := Lib.hid r1
      have R2 := Lib.hid r2
      have R3 := Lib.hid r3
      have R4 := Lib.hid r4
      have HX := Lib.hid (Below.refl w5.heap.size w5).drew
      have hl1 : w.heap.size < w5.heap.size := (HK1.out.below HB5.out).lt
      have hl2 : w1.heap.size < w5.heap.size := (HK2.out.below HB5.out).lt
      have hl3 : w4.heap.size < w5.heap.size := hk5'.lt
      have hag : Hid (∀ W W', Below w5.heap.size w5 W → Below W.heap.size W W' → Agree (fun q => q = w.heap.size ∨ q = w1.heap.size ∨ q = w4.heap.size) W W') := fun W W' h1 h2 q o hq => by
        have := h1.size
        rcases hq with rfl | rfl | rfl
        · exact h2.cell (Nat.lt_of_lt_of_le hl1 this)
        · exact h2.cell (Nat.lt_of_lt_of_le hl2 this)
        · exact h2.cell (Nat.lt_of_lt_of_le hl3 this)
      obtain ⟨x0, x1, x2, x3, x4, x5⟩ := sch_cells (HK1.out.below HB5.out)
      obtain ⟨y0, y1, y2, y3, y4, y5⟩ := sch_cells (HK2.out.below HB5.out)
      obtain ⟨z0, z1, z2, z3, z4, z5⟩ := sch_cells hk5'
      clear hk5 hk5' hb5 hca hc5 hs5 ht5 r1 r2 r3 r4 hown hal hl1 hl2 hl3 hsz4
      go_wp2_with fail
      refine wp_region_lit_plan [] [(0, 1), (1, 1), (2, 4), (3, 0), (4, 0), (5, 1), (6, 1), (8, 2), (9, 2), (7, 3), (10, 4), (11, 0), (12, 0), (13, 0), (14, 1), (15, 1), (16, 4), (17, 0), (18, 0)] (fun q => q = w.heap.size ∨ q = w1.heap.size ∨ q = w4.heap.size) (by kernel_rfl) (by kernel_rfl) (fun c a d v w h => by cases d <;> exact h) ?_
      go_wp2_with (first
        | (refine plan_pure (v := _) (by rfl) (by rfl) (by rfl) (by intro _; go_simp; with_reducible rfl) ?_; simp only [List.setIfInBounds_toArray, List.set_cons_zero, List.set_cons_succ]; try go_bits) | (refine plan_read (v := _) (by rfl) (by rfl) (by rfl) (by go_simp; with_reducible rfl) ?_; simp only [List.setIfInBounds_toArray, List.set_cons_zero, List.set_cons_succ]; try go_bits) | (refine plan_readB (v := _) (by rfl) (by rfl) (by rfl) (by intro _ hag; unfold Agree at hag; go_simp; with_reducible rfl) ?_; simp only [List.setIfInBounds_toArray, List.set_cons_zero, List.set_cons_succ]; try go_bits) | (refine plan_skip0 (by rfl) (by rfl) (by rfl) ?_; simp only [List.setIfInBounds_toArray, List.set_cons_zero, List.set_cons_succ]; try go_bits) | (refine plan_skip1 (by rfl) (by rfl) (by rfl) ?_; simp only [List.setIfInBounds_toArray, List.set_cons_zero, List.set_cons_succ]; try go_bits) | (refine plan_skip2 (by rfl) (by rfl) (by rfl) ?_; simp only [List.setIfInBounds_toArray, List.set_cons_zero, List.set_cons_succ]; try go_bits) | (refine plan_skip4 (by rfl) (by rfl) (by rfl) ?_; simp only [List.setIfInBounds_toArray, List.set_cons_zero, List.set_cons_succ]; try go_bits) | (refine plan_any (by rfl) ?_) | (refine plan_keep (by rfl) ?_) | (refine plan_nil ?_) | (with_reducible refine And.intro (by first | assumption | exact Agree.refl _ _ | exact agree_drew _ _ | exact agree_alloc _ (by intro k hk; subst hk; first | omega | (simp; omega))) ?_) | (unfold Act.put; simp only [List.setIfInBounds_toArray, List.set_cons_zero, List.set_cons_succ]))
      clear x0 x1 x2 x3 x4 x5 y0 y1 y2 y3 y4 y5 z0 z1 z2 z3 z4 z5
      refine (R1.out _ HX.out).mono ?_
      rintro e wn ⟨rfl, hbn⟩
      have HXN := Lib.hid (HX.out.trans (hbn.mono HX.out.size))
      clear hbn HX
      have HX := HXN
      clear HXN
      obtain ⟨x0, x1, x2, x3, x4, x5⟩ := sch_cells (HK1.out.below (HB5.out.trans (HX.out.mono HB5.out.size)))
      obtain ⟨y0, y1, y2, y3, y4, y5⟩ := sch_cells (HK2.out.below (HB5.out.trans (HX.out.mono HB5.out.size)))
      go_wp2_with (first
        | (refine plan_pure (v := _) (by rfl) (by rfl) (by rfl) (by intro _; go_simp; with_reducible rfl) ?_; simp only [List.setIfInBounds_toArray, List.set_cons_zero, List.set_cons_succ]; try go_bits) | (refine plan_read (v := _) (by rfl) (by rfl) (by rfl) (by go_simp; with_reducible rfl) ?_; simp only [List.setIfInBounds_toArray, List.set_cons_zero, List.set_cons_succ]; try go_bits) | (refine plan_readB (v := _) (by rfl) (by rfl) (by rfl) (by intro _ hag; unfold Agree at hag; go_simp; with_reducible rfl) ?_; simp only [List.setIfInBounds_toArray, List.set_cons_zero, List.set_cons_succ]; try go_bits) | (refine plan_skip0 (by rfl) (by rfl) (by rfl) ?_; simp only [List.setIfInBounds_toArray, List.set_cons_zero, List.set_cons_succ]; try go_bits) | (refine plan_skip1 (by rfl) (by rfl) (by rfl) ?_; simp only [List.setIfInBounds_toArray, List.set_cons_zero, List.set_cons_succ]; try go_bits) | (refine plan_skip2 (by rfl) (by rfl) (by rfl) ?_; simp only [List.setIfInBounds_toArray, List.set_cons_zero, List.set_cons_succ]; try go_bits) | (refine plan_skip4 (by rfl) (by rfl) (by rfl) ?_; simp only [List.setIfInBounds_toArray, List.set_cons_zero, List.set_cons_succ]; try go_bits) | (refine plan_any (by rfl) ?_) | (refine plan_keep (by rfl) ?_) | (refine plan_nil ?_) | (with_reducible refine And.intro (by first | assumption | exact Agree.refl _ _ | exact agree_drew _ _ | exact agree_alloc _ (by intro k hk; subst hk; first | omega | (simp; omega))) ?_) | (unfold Act.put; simp only [List.setIfInBounds_toArray, List.set_cons_zero, List.set_cons_succ]))
      clear x0 x1 x2 x3 x4 x5 y0 y1 y2 y3 y4 y5
      refine (R2.out _ HX.out).mono ?_
      rintro e wn ⟨rfl, hbn⟩
      have hagn := hag.out _ _ HX.out hbn
      have HXN := Lib.hid (HX.out.trans (hbn.mono HX.out.size))
      clear hbn HX
      have HX := HXN
      clear HXN
      go_wp2_with (first
        | (refine plan_pure (v := _) (by rfl) (by rfl) (by rfl) (by intro _; go_simp; with_reducible rfl) ?_; simp only [List.setIfInBounds_toArray, List.set_cons_zero, List.set_cons_succ]; try go_bits) | (refine plan_read (v := _) (by rfl) (by rfl) (by rfl) (by go_simp; with_reducible rfl) ?_; simp only [List.setIfInBounds_toArray, List.set_cons_zero, List.set_cons_succ]; try go_bits) | (refine plan_readB (v := _) (by rfl) (by rfl) (by rfl) (by intro _ hag; unfold Agree at hag; go_simp; with_reducible rfl) ?_; simp only [List.setIfInBounds_toArray, List.set_cons_zero, List.set_cons_succ]; try go_bits) | (refine plan_skip0 (by rfl) (by rfl) (by rfl) ?_; simp only [List.setIfInBounds_toArray, List.set_cons_zero, List.set_cons_succ]; try go_bits) | (refine plan_skip1 (by rfl) (by rfl) (by rfl) ?_; simp only [List.setIfInBounds_toArray, List.set_cons_zero, List.set_cons_succ]; try go_bits) | (refine plan_skip2 (by rfl) (by rfl) (by rfl) ?_; simp only [List.setIfInBounds_toArray, List.set_cons_zero, List.set_cons_succ]; try go_bits) | (refine plan_skip4 (by rfl) (by rfl) (by rfl) ?_; simp only [List.setIfInBounds_toArray, List.set_cons_zero, List.set_cons_succ]; try go_bits) | (refine plan_any (by rfl) ?_) | (refine plan_keep (by rfl) ?_) | (refine plan_nil ?_) | (with_reducible refine And.intro (by first | assumption | exact Agree.refl _ _ | exact agree_drew _ _ | exact agree_alloc _ (by intro k hk; subst hk; first | omega | (simp; omega))) ?_) | (unfold Act.put; simp only [List.setIfInBounds_toArray, List.set_cons_zero, List.set_cons_succ]))
      clear hagn
      refine (R3.out _ HX.out).mono ?_
      rintro e wn ⟨rfl, hbn⟩
      have HXN := Lib.hid (HX.out.trans (hbn.mono HX.out.size))
      clear hbn HX
      have HX := HXN
      clear HXN
      obtain ⟨x0, x1, x2, x3, x4, x5⟩ := sch_cells (HK1.out.below (HB5.out.trans (HX.out.mono HB5.out.size)))
      obtain ⟨z0, z1, z2, z3, z4, z5⟩ := sch_cells (HK3.out.below HX.out)
      have hqq : (q == q) = true := by simp
      have hqn : (q != q) = false := by simp
      go_wp2_with (first
        | (refine plan_pure (v := _) (by rfl) (by rfl) (by rfl) (by intro _; go_simp; with_reducible rfl) ?_; simp only [List.setIfInBounds_toArray, List.set_cons_zero, List.set_cons_succ]; try go_bits) | (refine plan_read (v := _) (by rfl) (by rfl) (by rfl) (by go_simp; with_reducible rfl) ?_; simp only [List.setIfInBounds_toArray, List.set_cons_zero, List.set_cons_succ]; try go_bits) | (refine plan_readB (v := _) (by rfl) (by rfl) (by rfl) (by intro _ hag; unfold Agree at hag; go_simp; with_reducible rfl) ?_; simp only [List.setIfInBounds_toArray, List.set_cons_zero, List.set_cons_succ]; try go_bits) | (refine plan_skip0 (by rfl) (by rfl) (by rfl) ?_; simp only [List.setIfInBounds_toArray, List.set_cons_zero, List.set_cons_succ]; try go_bits) | (refine plan_skip1 (by rfl) (by rfl) (by rfl) ?_; simp only [List.setIfInBounds_toArray, List.set_cons_zero, List.set_cons_succ]; try go_bits) | (refine plan_skip2 (by rfl) (by rfl) (by rfl) ?_; simp only [List.setIfInBounds_toArray, List.set_cons_zero, List.set_cons_succ]; try go_bits) | (refine plan_skip4 (by rfl) (by rfl) (by rfl) ?_; simp only [List.setIfInBounds_toArray, List.set_cons_zero, List.set_cons_succ]; try go_bits) | (refine plan_any (by rfl) ?_) | (refine plan_keep (by rfl) ?_) | (refine plan_nil ?_) | (with_reducible refine And.intro (by first | assumption | exact Agree.refl _ _ | exact agree_drew _ _ | exact agree_alloc _ (by intro k hk; subst hk; first | omega | (simp; omega))) ?_) | (unfold Act.put; simp only [List.setIfInBounds_toArray, List.set_cons_zero, List.set_cons_succ]))
      clear x0 x1 x2 x3 x4 x5 z0 z1 z2 z3 z4 z5 hqq hqn
      refine (R4.out _ HX.out).mono ?_
      rintro e wn ⟨rfl, hbn⟩
      have HXN := Lib.hid (HX.out.trans (hbn.mono HX.out.size))
      clear hbn HX
      have HX := HXN
      clear HXN
      clear R1 R2 R3 R4 hag
      have hz := fun W (hb : Below w2.heap.size w2 W) => zero_any W _ s (HHS.out.below hb) (by omega)
      rw [hga] at hz
      have HZ := Lib.hid hz
      have hrr := fun W (hb : Below w2.heap.size w2 W) => refright_any W _ s (HHS.out.below hb)
      rw [hga] at hrr
      have HRR := Lib.hid hrr
      have hsr := fun W (hb : Below w2.heap.size w2 W) => schright_any W _ s (HHS.out.below hb)
      rw [hga] at hsr
      have HSR := Lib.hid hsr
      have hrf := fun W (hb : Below w2.heap.size w2 W) v (hv : Sl W (fun _ => True) 3 v (s.cols.map zeroC).length (rowCells (s.cols.map zeroC))) => reffits_any W _ _ s v (s.cols.map zeroC) (HHS.out.below hb).cols hv ⟨_, _, _, hpi⟩
      rw [hga] at hrf
      have HRF := Lib.hid hrf
      have hcl := fun W (hb : Below w2.heap.size w2 W) => col_any W _ s nm (HHS.out.below hb)
      rw [hga] at hcl
      have HCL := Lib.hid hcl
      clear hcl
      have HAG : Hid (∀ W W', Below w2.heap.size w2 W → Below W.heap.size W W' → Agree (fun q => q = w.heap.size) W W') := fun W W' h1 h2 q o hq => by
        have := h1.size
        have hl := HK1.out.lt
        rcases hq with rfl
        exact h2.cell (Nat.lt_of_lt_of_le hl this)
      have HN1 := Lib.hid (named_one2 nm (by omega))
      have HN2 := Lib.hid (named_two nm (by omega))
      have HRN := Lib.hid (fun W => refnamed W nm (by unfold maxLen; omega))
      have hbb : (namedB nm == namedB nm) = true := by simp
      have hff : (firstI (nameIs nm) s.cols == firstI (nameIs nm) s.cols) = true := by simp
      generalize namedB nm = nb at *
      generalize firstI (nameIs nm) s.cols = fi at *
      have HZF := Lib.hid (fun h : rightS s = true => zero_fits h)
      have HLN : Hid ((s.cols.map zeroC).length = s.cols.length) := by show _ = _; simp
      have HNM : Hid (nm.size ≤ 100) := by show _ ≤ _; omega
      clear hz hrr hsr hrf
      obtain ⟨z0, z1, z2, z3, z4, z5⟩ := sch_cells (HK3.out.below HX.out)
      go_upto_region 12 with (first
        | (refine plan_pure (v := _) (by rfl) (by rfl) (by rfl) (by intro _; go_simp; with_reducible rfl) ?_; simp only [List.setIfInBounds_toArray, List.set_cons_zero, List.set_cons_succ]; try go_bits) | (refine plan_read (v := _) (by rfl) (by rfl) (by rfl) (by go_simp; with_reducible rfl) ?_; simp only [List.setIfInBounds_toArray, List.set_cons_zero, List.set_cons_succ]; try go_bits) | (refine plan_readB (v := _) (by rfl) (by rfl) (by rfl) (by intro _ hag; unfold Agree at hag; go_simp; with_reducible rfl) ?_; simp only [List.setIfInBounds_toArray, List.set_cons_zero, List.set_cons_succ]; try go_bits) | (refine plan_skip0 (by rfl) (by rfl) (by rfl) ?_; simp only [List.setIfInBounds_toArray, List.set_cons_zero, List.set_cons_succ]; try go_bits) | (refine plan_skip1 (by rfl) (by rfl) (by rfl) ?_; simp only [List.setIfInBounds_toArray, List.set_cons_zero, List.set_cons_succ]; try go_bits) | (refine plan_skip2 (by rfl) (by rfl) (by rfl) ?_; simp only [List.setIfInBounds_toArray, List.set_cons_zero, List.set_cons_succ]; try go_bits) | (refine plan_skip4 (by rfl) (by rfl) (by rfl) ?_; simp only [List.setIfInBounds_toArray, List.set_cons_zero, List.set_cons_succ]; try go_bits) | (refine plan_any (by rfl) ?_) | (refine plan_keep (by rfl) ?_) | (refine plan_nil ?_) | (with_reducible refine And.intro (by first | assumption | exact Agree.refl _ _ | exact agree_drew _ _ | exact agree_alloc _ (by intro k hk; subst hk; first | omega | (simp; omega))) ?_) | (unfold Act.put; simp only [List.setIfInBounds_toArray, List.set_cons_zero, List.set_cons_succ]))
      by_cases hc0 : 0 < s.cols.length
      · by_cases hi0 : 0 < s.idx.length
        · have hic : 0 < c.idx.length := by omega
          have hI := HOW.out.idx.sl (B := fun _ => True) (fun _ _ => trivial)
          obtain ⟨gi, oi, ki, hv, hgi, i0, i1⟩ := sl_idx hI hic
          rw [hil, hcj] at hv
          obtain ⟨hpj, hkj⟩ : pj = some ⟨gi, oi, none⟩ ∧ cj = ki := by cases hv; exact ⟨rfl, rfl⟩
          clear hv
          subst hpj hkj
          rw [Nat.zero_mul, Nat.add_zero] at i0 i1
          have h4n : Below w4.heap.size w4 wn := HB45.out.trans (HX.out.mono HB45.out.size)
          have j0 := (h4n.cell hgi).trans i0
          have hxo := HOW.out.pl c.idx[0] (List.getElem_mem hic)
          obtain ⟨px, cx, hpx, hx1, hx2⟩ := own_form hxo
          rw [hpx] at j0
          by_cases hl0 : 0 < c.idx[0].l.length
          · have hCs := HOW.out.cols.sl (B := fun _ => True) (fun _ _ => trivial)
            have hcc0 : 0 < c.cols.length := by rw [HALK.out.cols]; exact hc0
            obtain ⟨gc, oc, kc, hv, _, _, _, hgc, _⟩ := hCs.place hcc0
            have hv2 := hcv.symm.trans hv
            rw [HALK.out.cols] at hv2
            obtain ⟨hpv, hkv⟩ : pv = some ⟨gc, oc, none⟩ ∧ cv = kc := by cases hv2; exact ⟨rfl, rfl⟩
            clear hv hv2
            subst hpv hkv
            have hCn := HOW.out.cols.below h4n
            rw [hcv, HALK.out.cols] at hCn
            have hXs := hxo.sl (B := fun _ => True) (fun _ _ => trivial)
            obtain ⟨gx, ox, kx, hv, _, _, _, hgx, hcx⟩ := hXs.place hl0
            have hv2 := hpx.symm.trans hv
            obtain ⟨hpp, hkk⟩ : px = some ⟨gx, ox, none⟩ ∧ cx = kx := by cases hv2; exact ⟨rfl, rfl⟩
            clear hv hv2
            subst hpp hkk
            have hXn := hxo.below h4n
            rw [hpx] at hXn
            obtain ⟨q1, q1f⟩ := hCn.cellAt (j := 1) (by omega)
            have q1v : (colCells s.cols)[1]? = some (.int .i64 s.cols[0].kind) := cells2_at ColV.cells (fun _ => rfl) s.cols 0 1 hc0 (by omega)
            rw [q1v] at q1
            obtain ⟨r1, r1f⟩ := hXn.cellAt (j := 0) (by omega)
            have r1v : (ints c.idx[0].l)[0]? = some (.int .i64 c.idx[0].l[0]) := by simp [ints, hl0]
            rw [r1v, Nat.add_zero] at r1
            rw [Nat.add_zero] at r1f
            have hgcgi : gc ≠ gi := fun e => (HOW.out.fc gc (by rw [hcv]; rfl)).2.1 (by rw [hcj, e]; rfl)
            have hgcgx : gc ≠ gx := fun e => (HOW.out.fc gc (by rw [hcv]; rfl)).2.2 c.idx[0] (List.getElem_mem hic) (by rw [hpx, e]; rfl)
            have hgcn := (HOW.out.fc gc (by rw [hcv]; rfl)).1
            have hgxn := HOW.out.fp c.idx[0] (List.getElem_mem hic) gx (by rw [hpx]; rfl)
            have hszn : w4.heap.size ≤ wn.heap.size := h4n.size
            obtain ⟨k1, hk1⟩ : ∃ k1, IntKind.i64.wrap (s.cols[0].kind + 1) = k1 := ⟨_, rfl⟩
            obtain ⟨n1, hn1⟩ : ∃ n1, IntKind.i64.wrap (c.idx[0].l[0] + 1) = n1 := ⟨_, rfl⟩
            have hkne : s.cols[0].kind ≠ k1 := by
              have hf := hrd s.cols[0] (List.getElem_mem hc0)
              unfold fit64 at hf
              rw [← hk1, IntKind.wrap_i64]
              omega
            obtain ⟨w7, hw7⟩ : ∃ w7, wn.setCell ⟨gc, oc + 1, none⟩ (.int .i64 k1) = w7 := ⟨_, rfl⟩
            obtain ⟨w8, hw8⟩ : ∃ w8, w7.setCell ⟨gx, ox, none⟩ (.int .i64 n1) = w8 := ⟨_, rfl⟩
            have o7 : Only (fun q => q = gc) wn w7 := hw7 ▸ only_set wn gc (oc + 1) _
            have o8 : Only (fun q => q = gx) w7 w8 := hw8 ▸ only_set w7 gx ox _
            have hK3n := HK3.out.below HX.out
            have hK37 := hK3n.only o7 (by omega)
            have hK38 := hK37.only o8 (by omega)
            obtain ⟨y0, y1, y2, y3, y4, y5⟩ := sch_cells hK37
            have j7 := (o7.cell (p := ⟨gi, oi, none⟩) (by show gi < _; omega) (by show ¬ gi = gc; omega)).trans j0
            have r7 := (o7.cell (p := ⟨gx, ox, none⟩) (by show gx < _; omega) (by show ¬ gx = gc; omega)).trans r1
            have r7f := (o7.frozen (p := ⟨gx, ox, none⟩) (by show gx < _; omega) (by show ¬ gx = gc; omega)).trans r1f
            have hc7 : Own w7 66 2 (.slice (some ⟨gc, oc, none⟩) s.cols.length cv) s.cols.length ((colCells s.cols).set 1 (.int .i64 k1)) := hw7 ▸ hCn.store (j := 1) _ rfl
            have hc8 := hc7.only o8 (fun q hq => by have : gc = q := by simpa [Value.ownBlock] using hq
                                                    omega)
            have hbn2 : Below w2.heap.size w2 wn := HB5.out.trans (HX.out.mono HB5.out.size)
            have hb7 : Below w2.heap.size w2 w7 := hbn2.trans (o7.below hbn2.size (fun i hi => by have := HSW.out; omega))
            have hb8 : Below w2.heap.size w2 w8 := hb7.trans (o8.below hb7.size (fun i hi => by have := HSW.out; omega))
            have hs8 := HHS.out.below hb8
            have hc8s := hc8.sl (B := fun _ => True) (fun _ _ => trivial)
            rw [← colCells_set0 hc0 k1] at hc8s
            have hl8 : (s.cols.set 0 ⟨s.cols[0].name, k1⟩).length = s.cols.length := List.length_set
            have hno := refsame_no w8.drew _ _ ⟨s.name, .slice (some ⟨gc, oc, none⟩) s.cols.length cv, s.cols.set 0 ⟨s.cols[0].name, k1⟩, .slice (some ⟨gi, oi, none⟩) s.idx.length cj, s.idx, s.limit, s.parts, s.by_⟩ s (by simp only [hl8]; exact hc8s.drew) hs8.cols.drew ⟨_, _, rfl⟩ ⟨_, _, hpi⟩ rfl rfl rfl rfl hl8 rfl (by simp only [hl8]; exact hc0) hc0
              (by unfold colEq; simp only [List.getElem_set_self]; have hkk : (k1 == s.cols[0].kind) = false := beq_eq_false_iff_ne.2 (fun e => hkne e.symm); rw [hkk, Bool.and_false])
            rw [hga] at hno
            simp only [SchV.agg] at hno
            have HNO := Lib.hid hno
            obtain ⟨g, off, capx, hv, hgs, e0, e1⟩ := sl_col hs8.cols hc0
            rw [hpc] at hv
            obtain ⟨hpg, hkg⟩ : pc = some ⟨g, off, none⟩ ∧ cc = capx := by cases hv; exact ⟨rfl, rfl⟩
            clear hv
            subst hpg hkg
            rw [Nat.zero_mul, Nat.add_zero] at e0 e1
            have hcg1 : w8.cell? ⟨gc, oc + 1, none⟩ = some (.int .i64 k1) := by
              have h := (hc8.cellAt (j := 1) (by omega)).1
              rw [h, ← colCells_set0 hc0 k1]
              have h2 := cells2_at ColV.cells (fun _ => rfl) (s.cols.set 0 ⟨s.cols[0].name, k1⟩) 0 1 (by rw [hl8]; exact hc0) (by omega)
              exact h2.trans (by rw [List.getElem_set_self]; rfl)
            have hkq : (s.cols[0].kind == k1) = false := beq_eq_false_iff_ne.2 hkne
            have HE1 := Lib.hid e1
            have HG1 := Lib.hid hcg1
            have HGS : Hid (g < w8.heap.size) := hgs
            have HGC : Hid (gc < w8.heap.size) := by have h1 := o7.size; have h2 := o8.size; show _ < _; omega
            have HK8 := Lib.hid hK38
            have HB8 := Lib.hid hb8
            go_upto_region 15 with fail
            clear hw7 hw8 hk1 hn1 y0 y1 y2 y3 y4 y5 j7 r7 r7f j0 q1 q1f r1 r1f z0 z1 z2 z3 z4 z5
            clear hno hcg1 e0 e1 hs8 hc8 hc8s hc7 hK38 hK37 hK3n hb8 hb7 hbn2 o7 o8 hCn hXn hCs hXs hI hxo HX
            have HX := HB8
            obtain ⟨x0, x1, x2, x3, x4, x5⟩ := sch_cells (HK1.out.below HX.out)
            obtain ⟨z0, z1, z2, z3, z4, z5⟩ := sch_cells HK8.out
            refine wp_region_lit_plan [] [(0, 1), (1, 1), (2, 4), (3, 0), (4, 0), (9, 0), (5, 1), (6, 0), (7, 0), (8, 1), (10, 1), (11, 0), (12, 0), (13, 1), (14, 0), (15, 0)] (fun _ => False) (by kernel_rfl) (by kernel_rfl) (fun c a d v w h => by cases d <;> exact h) ?_
            go_wp2_with (first
              | (refine plan_pure (v := _) (by rfl) (by rfl) (by rfl) (by intro _; go_simp; with_reducible rfl) ?_; simp only [List.setIfInBounds_toArray, List.set_cons_zero, List.set_cons_succ]; try go_bits) | (refine plan_read (v := _) (by rfl) (by rfl) (by rfl) (by go_simp; with_reducible rfl) ?_; simp only [List.setIfInBounds_toArray, List.set_cons_zero, List.set_cons_succ]; try go_bits) | (refine plan_readB (v := _) (by rfl) (by rfl) (by rfl) (by intro _ hag; unfold Agree at hag; go_simp; with_reducible rfl) ?_; simp only [List.setIfInBounds_toArray, List.set_cons_zero, List.set_cons_succ]; try go_bits) | (refine plan_skip0 (by rfl) (by rfl) (by rfl) ?_; simp only [List.setIfInBounds_toArray, List.set_cons_zero, List.set_cons_succ]; try go_bits) | (refine plan_skip1 (by rfl) (by rfl) (by rfl) ?_; simp only [List.setIfInBounds_toArray, List.set_cons_zero, List.set_cons_succ]; try go_bits) | (refine plan_skip2 (by rfl) (by rfl) (by rfl) ?_; simp only [List.setIfInBounds_toArray, List.set_cons_zero, List.set_cons_succ]; try go_bits) | (refine plan_skip4 (by rfl) (by rfl) (by rfl) ?_; simp only [List.setIfInBounds_toArray, List.set_cons_zero, List.set_cons_succ]; try go_bits) | (refine plan_any (by rfl) ?_) | (refine plan_keep (by rfl) ?_) | (refine plan_nil ?_) | (with_reducible refine And.intro (by first | assumption | exact Agree.refl _ _ | exact agree_drew _ _ | exact agree_alloc _ (by intro k hk; subst hk; first | omega | (simp; omega))) ?_) | (unfold Act.put; simp only [List.setIfInBounds_toArray, List.set_cons_zero, List.set_cons_succ]))
            clear x0 x1 x2 x3 x4 x5 z0 z1 z2 z3 z4 z5
            refine HNO.out.mono ?_
            rintro e w9 ⟨rfl, hbn⟩
            have HXN := Lib.hid (HX.out.drew.trans (hbn.mono HX.out.size))
            clear HX
            have HX := HXN
            clear HXN
            have e1 := (hbn.cell (p := ⟨g, off + 1, none⟩) HGS.out).trans HE1.out
            have g1 := (hbn.cell (p := ⟨gc, oc + 1, none⟩) HGC.out).trans HG1.out
            obtain ⟨z0, z1, z2, z3, z4, z5⟩ := sch_cells (HK8.out.drew.below hbn)
            obtain ⟨x0, x1, x2, x3, x4, x5⟩ := sch_cells (HK1.out.below HX.out)
            clear hbn
            go_upto_region 17 with (first
              | (refine plan_pure (v := _) (by rfl) (by rfl) (by rfl) (by intro _; go_simp; with_reducible rfl) ?_; simp only [List.setIfInBounds_toArray, List.set_cons_zero, List.set_cons_succ]; try go_bits) | (refine plan_read (v := _) (by rfl) (by rfl) (by rfl) (by go_simp; with_reducible rfl) ?_; simp only [List.setIfInBounds_toArray, List.set_cons_zero, List.set_cons_succ]; try go_bits) | (refine plan_readB (v := _) (by rfl) (by rfl) (by rfl) (by intro _ hag; unfold Agree at hag; go_simp; with_reducible rfl) ?_; simp only [List.setIfInBounds_toArray, List.set_cons_zero, List.set_cons_succ]; try go_bits) | (refine plan_skip0 (by rfl) (by rfl) (by rfl) ?_; simp only [List.setIfInBounds_toArray, List.set_cons_zero, List.set_cons_succ]; try go_bits) | (refine plan_skip1 (by rfl) (by rfl) (by rfl) ?_; simp only [List.setIfInBounds_toArray, List.set_cons_zero, List.set_cons_succ]; try go_bits) | (refine plan_skip2 (by rfl) (by rfl) (by rfl) ?_; simp only [List.setIfInBounds_toArray, List.set_cons_zero, List.set_cons_succ]; try go_bits) | (refine plan_skip4 (by rfl) (by rfl) (by rfl) ?_; simp only [List.setIfInBounds_toArray, List.set_cons_zero, List.set_cons_succ]; try go_bits) | (refine plan_any (by rfl) ?_) | (refine plan_keep (by rfl) ?_) | (refine plan_nil ?_) | (with_reducible refine And.intro (by first | assumption | exact Agree.refl _ _ | exact agree_drew _ _ | exact agree_alloc _ (by intro k hk; subst hk; first | omega | (simp; omega))) ?_) | (unfold Act.put; simp only [List.setIfInBounds_toArray, List.set_cons_zero, List.set_cons_succ]))
            clear x0 x1 x2 x3 x4 x5 z0 z1 z2 z3 z4 z5 e1 g1 hkq
            obtain ⟨x0, x1, x2, x3, x4, x5⟩ := sch_cells (HK1.out.below HX.out)
            go_wp2_with fail
            clear x0 x1 x2 x3 x4 x5
            refine (HZ.out _ HX.out).mono ?_
            clear HZ
            rintro e wz ⟨out, rfl, hout, hbn⟩
            obtain ⟨po, co, rfl, _, _⟩ := hout.form
            have HOUT := Lib.hid hout
            have HXN := Lib.hid (HX.out.trans (hbn.mono HX.out.size))
            clear hbn HX hout
            have HX := HXN
            clear HXN
            rw [HLN.out]
            have hln : ((s.cols.length : Int) != (s.cols.length : Int)) = false := by simp
            obtain ⟨x0, x1, x2, x3, x4, x5⟩ := sch_cells (HK1.out.below HX.out)
            go_wp2_with fail
            clear x0 x1 x2 x3 x4 x5
            refine (HRR.out _ HX.out).mono ?_
            rintro e wn2 ⟨rfl, hbn⟩
            have HOUT2 := Lib.hid (HOUT.out.below hbn)
            have HXN := Lib.hid (HX.out.trans (hbn.mono HX.out.size))
            clear hbn HX HOUT
            have HX := HXN
            clear HXN
            rw [HLN.out] at HOUT2
            have HRF2 := Lib.hid (fun W (hb : Below w2.heap.size w2 W) (hv : Sl W (fun _ => True) 3 (.slice po s.cols.length co) (s.cols.map zeroC).length (rowCells (s.cols.map zeroC))) => HRF.out W hb _ hv)
            clear HRF
            rcases Bool.eq_false_or_eq_true (rightS s) with hrt | hrt
            · have HFT := Lib.hid (HZF.out hrt)
              rw [hrt] at HRR HSR ⊢
              rw [HFT.out] at HRF2
              clear HZF HFT
              obtain ⟨x0, x1, x2, x3, x4, x5⟩ := sch_cells (HK1.out.below HX.out)
              go_wp2_with fail
              clear x0 x1 x2 x3 x4 x5 hln
              refine (HRF2.out _ HX.out (by rw [HLN.out]; exact HOUT2.out)).mono ?_
              rintro e wn ⟨rfl, hbn⟩
              have HXN := Lib.hid (HX.out.trans (hbn.mono HX.out.size))
              clear hbn HX
              have HX := HXN
              clear HXN
              obtain ⟨x0, x1, x2, x3, x4, x5⟩ := sch_cells (HK1.out.below HX.out)
              go_upto_region 20 with fail
              have HXN := Lib.hid HX.out.drew
              clear HX
              have HX := HXN
              clear HXN
              refine wp_region_lit_plan [] [(0, 1), (2, 2), (1, 3), (3, 4), (4, 0), (5, 0), (6, 0), (9, 0), (7, 4), (8, 4), (10, 4), (11, 0), (12, 0), (13, 0), (14, 0), (17, 0), (15, 4), (16, 4), (18, 4), (19, 0), (20, 0), (21, 0), (23, 0), (25, 0), (22, 1), (24, 4), (26, 0), (27, 0), (28, 0), (29, 4), (30, 0), (31, 0)] (fun q => q = w.heap.size) (by kernel_rfl) (by kernel_rfl) (fun c a d v w h => by cases d <;> exact h) ?_
              go_wp2_with (first
                | (refine plan_pure (v := _) (by rfl) (by rfl) (by rfl) (by intro _; go_simp; with_reducible rfl) ?_; simp only [List.setIfInBounds_toArray, List.set_cons_zero, List.set_cons_succ]; try go_bits) | (refine plan_read (v := _) (by rfl) (by rfl) (by rfl) (by go_simp; with_reducible rfl) ?_; simp only [List.setIfInBounds_toArray, List.set_cons_zero, List.set_cons_succ]; try go_bits) | (refine plan_readB (v := _) (by rfl) (by rfl) (by rfl) (by intro _ hag; unfold Agree at hag; go_simp; with_reducible rfl) ?_; simp only [List.setIfInBounds_toArray, List.set_cons_zero, List.set_cons_succ]; try go_bits) | (refine plan_skip0 (by rfl) (by rfl) (by rfl) ?_; simp only [List.setIfInBounds_toArray, List.set_cons_zero, List.set_cons_succ]; try go_bits) | (refine plan_skip1 (by rfl) (by rfl) (by rfl) ?_; simp only [List.setIfInBounds_toArray, List.set_cons_zero, List.set_cons_succ]; try go_bits) | (refine plan_skip2 (by rfl) (by rfl) (by rfl) ?_; simp only [List.setIfInBounds_toArray, List.set_cons_zero, List.set_cons_succ]; try go_bits) | (refine plan_skip4 (by rfl) (by rfl) (by rfl) ?_; simp only [List.setIfInBounds_toArray, List.set_cons_zero, List.set_cons_succ]; try go_bits) | (refine plan_any (by rfl) ?_) | (refine plan_keep (by rfl) ?_) | (refine plan_nil ?_) | (with_reducible refine And.intro (by first | assumption | exact Agree.refl _ _ | exact agree_drew _ _ | exact agree_alloc _ (by intro k hk; subst hk; first | omega | (simp; omega))) ?_) | (unfold Act.put; simp only [List.setIfInBounds_toArray, List.set_cons_zero, List.set_cons_succ]))
              clear x0 x1 x2 x3 x4 x5
              refine (HSR.out _ HX.out).mono ?_
              rintro e wn ⟨rfl, hbn⟩
              have hagn := HAG.out _ _ HX.out hbn
              have HXN := Lib.hid (HX.out.trans (hbn.mono HX.out.size))
              clear hbn HX
              have HX := HXN
              clear HXN
              obtain ⟨x0, x1, x2, x3, x4, x5⟩ := sch_cells (HK1.out.below HX.out)
              go_wp2_with (first
                | (refine plan_pure (v := _) (by rfl) (by rfl) (by rfl) (by intro _; go_simp; with_reducible rfl) ?_; simp only [List.setIfInBounds_toArray, List.set_cons_zero, List.set_cons_succ]; try go_bits) | (refine plan_read (v := _) (by rfl) (by rfl) (by rfl) (by go_simp; with_reducible rfl) ?_; simp only [List.setIfInBounds_toArray, List.set_cons_zero, List.set_cons_succ]; try go_bits) | (refine plan_readB (v := _) (by rfl) (by rfl) (by rfl) (by intro _ hag; unfold Agree at hag; go_simp; with_reducible rfl) ?_; simp only [List.setIfInBounds_toArray, List.set_cons_zero, List.set_cons_succ]; try go_bits) | (refine plan_skip0 (by rfl) (by rfl) (by rfl) ?_; simp only [List.setIfInBounds_toArray, List.set_cons_zero, List.set_cons_succ]; try go_bits) | (refine plan_skip1 (by rfl) (by rfl) (by rfl) ?_; simp only [List.setIfInBounds_toArray, List.set_cons_zero, List.set_cons_succ]; try go_bits) | (refine plan_skip2 (by rfl) (by rfl) (by rfl) ?_; simp only [List.setIfInBounds_toArray, List.set_cons_zero, List.set_cons_succ]; try go_bits) | (refine plan_skip4 (by rfl) (by rfl) (by rfl) ?_; simp only [List.setIfInBounds_toArray, List.set_cons_zero, List.set_cons_succ]; try go_bits) | (refine plan_any (by rfl) ?_) | (refine plan_keep (by rfl) ?_) | (refine plan_nil ?_) | (with_reducible refine And.intro (by first | assumption | exact Agree.refl _ _ | exact agree_drew _ _ | exact agree_alloc _ (by intro k hk; subst hk; first | omega | (simp; omega))) ?_) | (unfold Act.put; simp only [List.setIfInBounds_toArray, List.set_cons_zero, List.set_cons_succ]))
              clear x0 x1 x2 x3 x4 x5
              refine (HRR.out _ HX.out).mono ?_
              rintro e wn ⟨rfl, hbn⟩
              have HXN := Lib.hid (HX.out.trans (hbn.mono HX.out.size))
              clear hbn HX
              have HX := HXN
              clear HXN
              go_wp2_with (first
                | (refine plan_pure (v := _) (by rfl) (by rfl) (by rfl) (by intro _; go_simp; with_reducible rfl) ?_; simp only [List.setIfInBounds_toArray, List.set_cons_zero, List.set_cons_succ]; try go_bits) | (refine plan_read (v := _) (by rfl) (by rfl) (by rfl) (by go_simp; with_reducible rfl) ?_; simp only [List.setIfInBounds_toArray, List.set_cons_zero, List.set_cons_succ]; try go_bits) | (refine plan_readB (v := _) (by rfl) (by rfl) (by rfl) (by intro _ hag; unfold Agree at hag; go_simp; with_reducible rfl) ?_; simp only [List.setIfInBounds_toArray, List.set_cons_zero, List.set_cons_succ]; try go_bits) | (refine plan_skip0 (by rfl) (by rfl) (by rfl) ?_; simp only [List.setIfInBounds_toArray, List.set_cons_zero, List.set_cons_succ]; try go_bits) | (refine plan_skip1 (by rfl) (by rfl) (by rfl) ?_; simp only [List.setIfInBounds_toArray, List.set_cons_zero, List.set_cons_succ]; try go_bits) | (refine plan_skip2 (by rfl) (by rfl) (by rfl) ?_; simp only [List.setIfInBounds_toArray, List.set_cons_zero, List.set_cons_succ]; try go_bits) | (refine plan_skip4 (by rfl) (by rfl) (by rfl) ?_; simp only [List.setIfInBounds_toArray, List.set_cons_zero, List.set_cons_succ]; try go_bits) | (refine plan_any (by rfl) ?_) | (refine plan_keep (by rfl) ?_) | (refine plan_nil ?_) | (with_reducible refine And.intro (by first | assumption | exact Agree.refl _ _ | exact agree_drew _ _ | exact agree_alloc _ (by intro k hk; subst hk; first | omega | (simp; omega))) ?_) | (unfold Act.put; simp only [List.setIfInBounds_toArray, List.set_cons_zero, List.set_cons_succ]))
              refine (HN1.out _).mono ?_
              rintro e wa ⟨rfl, hbn⟩
              have HXN := Lib.hid (HX.out.trans (hbn.mono HX.out.size))
              clear hbn HX
              have HX := HXN
              clear HXN
              go_wp2_with (first
                | (refine plan_pure (v := _) (by rfl) (by rfl) (by rfl) (by intro _; go_simp; with_reducible rfl) ?_; simp only [List.setIfInBounds_toArray, List.set_cons_zero, List.set_cons_succ]; try go_bits) | (refine plan_read (v := _) (by rfl) (by rfl) (by rfl) (by go_simp; with_reducible rfl) ?_; simp only [List.setIfInBounds_toArray, List.set_cons_zero, List.set_cons_succ]; try go_bits) | (refine plan_readB (v := _) (by rfl) (by rfl) (by rfl) (by intro _ hag; unfold Agree at hag; go_simp; with_reducible rfl) ?_; simp only [List.setIfInBounds_toArray, List.set_cons_zero, List.set_cons_succ]; try go_bits) | (refine plan_skip0 (by rfl) (by rfl) (by rfl) ?_; simp only [List.setIfInBounds_toArray, List.set_cons_zero, List.set_cons_succ]; try go_bits) | (refine plan_skip1 (by rfl) (by rfl) (by rfl) ?_; simp only [List.setIfInBounds_toArray, List.set_cons_zero, List.set_cons_succ]; try go_bits) | (refine plan_skip2 (by rfl) (by rfl) (by rfl) ?_; simp only [List.setIfInBounds_toArray, List.set_cons_zero, List.set_cons_succ]; try go_bits) | (refine plan_skip4 (by rfl) (by rfl) (by rfl) ?_; simp only [List.setIfInBounds_toArray, List.set_cons_zero, List.set_cons_succ]; try go_bits) | (refine plan_any (by rfl) ?_) | (refine plan_keep (by rfl) ?_) | (refine plan_nil ?_) | (with_reducible refine And.intro (by first | assumption | exact Agree.refl _ _ | exact agree_drew _ _ | exact agree_alloc _ (by intro k hk; subst hk; first | omega | (simp; omega))) ?_) | (unfold Act.put; simp only [List.setIfInBounds_toArray, List.set_cons_zero, List.set_cons_succ]))
              refine (HRN.out _).mono ?_
              rintro e wa ⟨rfl, rfl⟩
              go_wp2_with (first
                | (refine plan_pure (v := _) (by rfl) (by rfl) (by rfl) (by intro _; go_simp; with_reducible rfl) ?_; simp only [List.setIfInBounds_toArray, List.set_cons_zero, List.set_cons_succ]; try go_bits) | (refine plan_read (v := _) (by rfl) (by rfl) (by rfl) (by go_simp; with_reducible rfl) ?_; simp only [List.setIfInBounds_toArray, List.set_cons_zero, List.set_cons_succ]; try go_bits) | (refine plan_readB (v := _) (by rfl) (by rfl) (by rfl) (by intro _ hag; unfold Agree at hag; go_simp; with_reducible rfl) ?_; simp only [List.setIfInBounds_toArray, List.set_cons_zero, List.set_cons_succ]; try go_bits) | (refine plan_skip0 (by rfl) (by rfl) (by rfl) ?_; simp only [List.setIfInBounds_toArray, List.set_cons_zero, List.set_cons_succ]; try go_bits) | (refine plan_skip1 (by rfl) (by rfl) (by rfl) ?_; simp only [List.setIfInBounds_toArray, List.set_cons_zero, List.set_cons_succ]; try go_bits) | (refine plan_skip2 (by rfl) (by rfl) (by rfl) ?_; simp only [List.setIfInBounds_toArray, List.set_cons_zero, List.set_cons_succ]; try go_bits) | (refine plan_skip4 (by rfl) (by rfl) (by rfl) ?_; simp only [List.setIfInBounds_toArray, List.set_cons_zero, List.set_cons_succ]; try go_bits) | (refine plan_any (by rfl) ?_) | (refine plan_keep (by rfl) ?_) | (refine plan_nil ?_) | (with_reducible refine And.intro (by first | assumption | exact Agree.refl _ _ | exact agree_drew _ _ | exact agree_alloc _ (by intro k hk; subst hk; first | omega | (simp; omega))) ?_) | (unfold Act.put; simp only [List.setIfInBounds_toArray, List.set_cons_zero, List.set_cons_succ]))
              refine (HN2.out _).mono ?_
              rintro e wb ⟨rfl, hbn⟩
              have HXN := Lib.hid (HX.out.trans (hbn.mono HX.out.size))
              clear hbn HX
              have HX := HXN
              clear HXN
              go_wp2_with (first
                | (refine plan_pure (v := _) (by rfl) (by rfl) (by rfl) (by intro _; go_simp; with_reducible rfl) ?_; simp only [List.setIfInBounds_toArray, List.set_cons_zero, List.set_cons_succ]; try go_bits) | (refine plan_read (v := _) (by rfl) (by rfl) (by rfl) (by go_simp; with_reducible rfl) ?_; simp only [List.setIfInBounds_toArray, List.set_cons_zero, List.set_cons_succ]; try go_bits) | (refine plan_readB (v := _) (by rfl) (by rfl) (by rfl) (by intro _ hag; unfold Agree at hag; go_simp; with_reducible rfl) ?_; simp only [List.setIfInBounds_toArray, List.set_cons_zero, List.set_cons_succ]; try go_bits) | (refine plan_skip0 (by rfl) (by rfl) (by rfl) ?_; simp only [List.setIfInBounds_toArray, List.set_cons_zero, List.set_cons_succ]; try go_bits) | (refine plan_skip1 (by rfl) (by rfl) (by rfl) ?_; simp only [List.setIfInBounds_toArray, List.set_cons_zero, List.set_cons_succ]; try go_bits) | (refine plan_skip2 (by rfl) (by rfl) (by rfl) ?_; simp only [List.setIfInBounds_toArray, List.set_cons_zero, List.set_cons_succ]; try go_bits) | (refine plan_skip4 (by rfl) (by rfl) (by rfl) ?_; simp only [List.setIfInBounds_toArray, List.set_cons_zero, List.set_cons_succ]; try go_bits) | (refine plan_any (by rfl) ?_) | (refine plan_keep (by rfl) ?_) | (refine plan_nil ?_) | (with_reducible refine And.intro (by first | assumption | exact Agree.refl _ _ | exact agree_drew _ _ | exact agree_alloc _ (by intro k hk; subst hk; first | omega | (simp; omega))) ?_) | (unfold Act.put; simp only [List.setIfInBounds_toArray, List.set_cons_zero, List.set_cons_succ]))
              refine (HRN.out _).mono ?_
              rintro e wb ⟨rfl, rfl⟩
              obtain ⟨x0, x1, x2, x3, x4, x5⟩ := sch_cells (HK1.out.below HX.out)
              go_wp2_with (first
                | (refine plan_pure (v := _) (by rfl) (by rfl) (by rfl) (by intro _; go_simp; with_reducible rfl) ?_; simp only [List.setIfInBounds_toArray, List.set_cons_zero, List.set_cons_succ]; try go_bits) | (refine plan_read (v := _) (by rfl) (by rfl) (by rfl) (by go_simp; with_reducible rfl) ?_; simp only [List.setIfInBounds_toArray, List.set_cons_zero, List.set_cons_succ]; try go_bits) | (refine plan_readB (v := _) (by rfl) (by rfl) (by rfl) (by intro _ hag; unfold Agree at hag; go_simp; with_reducible rfl) ?_; simp only [List.setIfInBounds_toArray, List.set_cons_zero, List.set_cons_succ]; try go_bits) | (refine plan_skip0 (by rfl) (by rfl) (by rfl) ?_; simp only [List.setIfInBounds_toArray, List.set_cons_zero, List.set_cons_succ]; try go_bits) | (refine plan_skip1 (by rfl) (by rfl) (by rfl) ?_; simp only [List.setIfInBounds_toArray, List.set_cons_zero, List.set_cons_succ]; try go_bits) | (refine plan_skip2 (by rfl) (by rfl) (by rfl) ?_; simp only [List.setIfInBounds_toArray, List.set_cons_zero, List.set_cons_succ]; try go_bits) | (refine plan_skip4 (by rfl) (by rfl) (by rfl) ?_; simp only [List.setIfInBounds_toArray, List.set_cons_zero, List.set_cons_succ]; try go_bits) | (refine plan_any (by rfl) ?_) | (refine plan_keep (by rfl) ?_) | (refine plan_nil ?_) | (with_reducible refine And.intro (by first | assumption | exact Agree.refl _ _ | exact agree_drew _ _ | exact agree_alloc _ (by intro k hk; subst hk; first | omega | (simp; omega))) ?_) | (unfold Act.put; simp only [List.setIfInBounds_toArray, List.set_cons_zero, List.set_cons_succ]))
              clear x0 x1 x2 x3 x4 x5
              refine (HCL.out _ HX.out).mono ?_
              rintro e wn ⟨rfl, hbn⟩
              have HXN := Lib.hid (HX.out.trans (hbn.mono HX.out.size))
              clear hbn HX
              have HX := HXN
              clear HXN
              go_wp2_with (first
                | (refine plan_pure (v := _) (by rfl) (by rfl) (by rfl) (by intro _; go_simp; with_reducible rfl) ?_; simp only [List.setIfInBounds_toArray, List.set_cons_zero, List.set_cons_succ]; try go_bits) | (refine plan_read (v := _) (by rfl) (by rfl) (by rfl) (by go_simp; with_reducible rfl) ?_; simp only [List.setIfInBounds_toArray, List.set_cons_zero, List.set_cons_succ]; try go_bits) | (refine plan_readB (v := _) (by rfl) (by rfl) (by rfl) (by intro _ hag; unfold Agree at hag; go_simp; with_reducible rfl) ?_; simp only [List.setIfInBounds_toArray, List.set_cons_zero, List.set_cons_succ]; try go_bits) | (refine plan_skip0 (by rfl) (by rfl) (by rfl) ?_; simp only [List.setIfInBounds_toArray, List.set_cons_zero, List.set_cons_succ]; try go_bits) | (refine plan_skip1 (by rfl) (by rfl) (by rfl) ?_; simp only [List.setIfInBounds_toArray, List.set_cons_zero, List.set_cons_succ]; try go_bits) | (refine plan_skip2 (by rfl) (by rfl) (by rfl) ?_; simp only [List.setIfInBounds_toArray, List.set_cons_zero, List.set_cons_succ]; try go_bits) | (refine plan_skip4 (by rfl) (by rfl) (by rfl) ?_; simp only [List.setIfInBounds_toArray, List.set_cons_zero, List.set_cons_succ]; try go_bits) | (refine plan_any (by rfl) ?_) | (refine plan_keep (by rfl) ?_) | (refine plan_nil ?_) | (with_reducible refine And.intro (by first | assumption | exact Agree.refl _ _ | exact agree_drew _ _ | exact agree_alloc _ (by intro k hk; subst hk; first | omega | (simp; omega))) ?_) | (unfold Act.put; simp only [List.setIfInBounds_toArray, List.set_cons_zero, List.set_cons_succ]))
              refine (HAW.out _ HX.out).mono ?_
              rintro e w9 ⟨rfl, hb9⟩
              have HB9 := Lib.hid (HX.out.trans (hb9.mono HX.out.size))
              clear hb9
              go_wp2_with (first
                | (refine plan_pure (v := _) (by rfl) (by rfl) (by rfl) (by intro _; go_simp; with_reducible rfl) ?_; simp only [List.setIfInBounds_toArray, List.set_cons_zero, List.set_cons_succ]; try go_bits) | (refine plan_read (v := _) (by rfl) (by rfl) (by rfl) (by go_simp; with_reducible rfl) ?_; simp only [List.setIfInBounds_toArray, List.set_cons_zero, List.set_cons_succ]; try go_bits) | (refine plan_readB (v := _) (by rfl) (by rfl) (by rfl) (by intro _ hag; unfold Agree at hag; go_simp; with_reducible rfl) ?_; simp only [List.setIfInBounds_toArray, List.set_cons_zero, List.set_cons_succ]; try go_bits) | (refine plan_skip0 (by rfl) (by rfl) (by rfl) ?_; simp only [List.setIfInBounds_toArray, List.set_cons_zero, List.set_cons_succ]; try go_bits) | (refine plan_skip1 (by rfl) (by rfl) (by rfl) ?_; simp only [List.setIfInBounds_toArray, List.set_cons_zero, List.set_cons_succ]; try go_bits) | (refine plan_skip2 (by rfl) (by rfl) (by rfl) ?_; simp only [List.setIfInBounds_toArray, List.set_cons_zero, List.set_cons_succ]; try go_bits) | (refine plan_skip4 (by rfl) (by rfl) (by rfl) ?_; simp only [List.setIfInBounds_toArray, List.set_cons_zero, List.set_cons_succ]; try go_bits) | (refine plan_any (by rfl) ?_) | (refine plan_keep (by rfl) ?_) | (refine plan_nil ?_) | (with_reducible refine And.intro (by first | assumption | exact Agree.refl _ _ | exact agree_drew _ _ | exact agree_alloc _ (by intro k hk; subst hk; first | omega | (simp; omega))) ?_) | (unfold Act.put; simp only [List.setIfInBounds_toArray, List.set_cons_zero, List.set_cons_succ]))
              go_ret
              exact ⟨rfl, HB0.out.trans (HB9.out.mono HB0.out.size)⟩
            · rw [hrt] at HRR HSR ⊢
              clear HZF HRF2
              obtain ⟨x0, x1, x2, x3, x4, x5⟩ := sch_cells (HK1.out.below HX.out)
              go_upto_region 20 with fail
              have HXN := Lib.hid HX.out.drew
              clear HX
              have HX := HXN
              clear HXN
              refine wp_region_lit_plan [] [(0, 1), (2, 2), (1, 3), (3, 4), (4, 0), (5, 0), (6, 0), (9, 0), (7, 4), (8, 4), (10, 4), (11, 0), (12, 0), (13, 0), (14, 0), (17, 0), (15, 4), (16, 4), (18, 4), (19, 0), (20, 0), (21, 0), (23, 0), (25, 0), (22, 1), (24, 4), (26, 0), (27, 0), (28, 0), (29, 4), (30, 0), (31, 0)] (fun q => q = w.heap.size) (by kernel_rfl) (by kernel_rfl) (fun c a d v w h => by cases d <;> exact h) ?_
              go_wp2_with (first
                | (refine plan_pure (v := _) (by rfl) (by rfl) (by rfl) (by intro _; go_simp; with_reducible rfl) ?_; simp only [List.setIfInBounds_toArray, List.set_cons_zero, List.set_cons_succ]; try go_bits) | (refine plan_read (v := _) (by rfl) (by rfl) (by rfl) (by go_simp; with_reducible rfl) ?_; simp only [List.setIfInBounds_toArray, List.set_cons_zero, List.set_cons_succ]; try go_bits) | (refine plan_readB (v := _) (by rfl) (by rfl) (by rfl) (by intro _ hag; unfold Agree at hag; go_simp; with_reducible rfl) ?_; simp only [List.setIfInBounds_toArray, List.set_cons_zero, List.set_cons_succ]; try go_bits) | (refine plan_skip0 (by rfl) (by rfl) (by rfl) ?_; simp only [List.setIfInBounds_toArray, List.set_cons_zero, List.set_cons_succ]; try go_bits) | (refine plan_skip1 (by rfl) (by rfl) (by rfl) ?_; simp only [List.setIfInBounds_toArray, List.set_cons_zero, List.set_cons_succ]; try go_bits) | (refine plan_skip2 (by rfl) (by rfl) (by rfl) ?_; simp only [List.setIfInBounds_toArray, List.set_cons_zero, List.set_cons_succ]; try go_bits) | (refine plan_skip4 (by rfl) (by rfl) (by rfl) ?_; simp only [List.setIfInBounds_toArray, List.set_cons_zero, List.set_cons_succ]; try go_bits) | (refine plan_any (by rfl) ?_) | (refine plan_keep (by rfl) ?_) | (refine plan_nil ?_) | (with_reducible refine And.intro (by first | assumption | exact Agree.refl _ _ | exact agree_drew _ _ | exact agree_alloc _ (by intro k hk; subst hk; first | omega | (simp; omega))) ?_) | (unfold Act.put; simp only [List.setIfInBounds_toArray, List.set_cons_zero, List.set_cons_succ]))
              clear x0 x1 x2 x3 x4 x5
              refine (HSR.out _ HX.out).mono ?_
              rintro e wn ⟨rfl, hbn⟩
              have hagn := HAG.out _ _ HX.out hbn
              have HXN := Lib.hid (HX.out.trans (hbn.mono HX.out.size))
              clear hbn HX
              have HX := HXN
              clear HXN
              obtain ⟨x0, x1, x2, x3, x4, x5⟩ := sch_cells (HK1.out.below HX.out)
              go_wp2_with (first
                | (refine plan_pure (v := _) (by rfl) (by rfl) (by rfl) (by intro _; go_simp; with_reducible rfl) ?_; simp only [List.setIfInBounds_toArray, List.set_cons_zero, List.set_cons_succ]; try go_bits) | (refine plan_read (v := _) (by rfl) (by rfl) (by rfl) (by go_simp; with_reducible rfl) ?_; simp only [List.setIfInBounds_toArray, List.set_cons_zero, List.set_cons_succ]; try go_bits) | (refine plan_readB (v := _) (by rfl) (by rfl) (by rfl) (by intro _ hag; unfold Agree at hag; go_simp; with_reducible rfl) ?_; simp only [List.setIfInBounds_toArray, List.set_cons_zero, List.set_cons_succ]; try go_bits) | (refine plan_skip0 (by rfl) (by rfl) (by rfl) ?_; simp only [List.setIfInBounds_toArray, List.set_cons_zero, List.set_cons_succ]; try go_bits) | (refine plan_skip1 (by rfl) (by rfl) (by rfl) ?_; simp only [List.setIfInBounds_toArray, List.set_cons_zero, List.set_cons_succ]; try go_bits) | (refine plan_skip2 (by rfl) (by rfl) (by rfl) ?_; simp only [List.setIfInBounds_toArray, List.set_cons_zero, List.set_cons_succ]; try go_bits) | (refine plan_skip4 (by rfl) (by rfl) (by rfl) ?_; simp only [List.setIfInBounds_toArray, List.set_cons_zero, List.set_cons_succ]; try go_bits) | (refine plan_any (by rfl) ?_) | (refine plan_keep (by rfl) ?_) | (refine plan_nil ?_) | (with_reducible refine And.intro (by first | assumption | exact Agree.refl _ _ | exact agree_drew _ _ | exact agree_alloc _ (by intro k hk; subst hk; first | omega | (simp; omega))) ?_) | (unfold Act.put; simp only [List.setIfInBounds_toArray, List.set_cons_zero, List.set_cons_succ]))
              clear x0 x1 x2 x3 x4 x5
              refine (HRR.out _ HX.out).mono ?_
              rintro e wn ⟨rfl, hbn⟩
              have HXN := Lib.hid (HX.out.trans (hbn.mono HX.out.size))
              clear hbn HX
              have HX := HXN
              clear HXN
              go_wp2_with (first
                | (refine plan_pure (v := _) (by rfl) (by rfl) (by rfl) (by intro _; go_simp; with_reducible rfl) ?_; simp only [List.setIfInBounds_toArray, List.set_cons_zero, List.set_cons_succ]; try go_bits) | (refine plan_read (v := _) (by rfl) (by rfl) (by rfl) (by go_simp; with_reducible rfl) ?_; simp only [List.setIfInBounds_toArray, List.set_cons_zero, List.set_cons_succ]; try go_bits) | (refine plan_readB (v := _) (by rfl) (by rfl) (by rfl) (by intro _ hag; unfold Agree at hag; go_simp; with_reducible rfl) ?_; simp only [List.setIfInBounds_toArray, List.set_cons_zero, List.set_cons_succ]; try go_bits) | (refine plan_skip0 (by rfl) (by rfl) (by rfl) ?_; simp only [List.setIfInBounds_toArray, List.set_cons_zero, List.set_cons_succ]; try go_bits) | (refine plan_skip1 (by rfl) (by rfl) (by rfl) ?_; simp only [List.setIfInBounds_toArray, List.set_cons_zero, List.set_cons_succ]; try go_bits) | (refine plan_skip2 (by rfl) (by rfl) (by rfl) ?_; simp only [List.setIfInBounds_toArray, List.set_cons_zero, List.set_cons_succ]; try go_bits) | (refine plan_skip4 (by rfl) (by rfl) (by rfl) ?_; simp only [List.setIfInBounds_toArray, List.set_cons_zero, List.set_cons_succ]; try go_bits) | (refine plan_any (by rfl) ?_) | (refine plan_keep (by rfl) ?_) | (refine plan_nil ?_) | (with_reducible refine And.intro (by first | assumption | exact Agree.refl _ _ | exact agree_drew _ _ | exact agree_alloc _ (by intro k hk; subst hk; first | omega | (simp; omega))) ?_) | (unfold Act.put; simp only [List.setIfInBounds_toArray, List.set_cons_zero, List.set_cons_succ]))
              refine (HN1.out _).mono ?_
              rintro e wa ⟨rfl, hbn⟩
              have HXN := Lib.hid (HX.out.trans (hbn.mono HX.out.size))
              clear hbn HX
              have HX := HXN
              clear HXN
              go_wp2_with (first
                | (refine plan_pure (v := _) (by rfl) (by rfl) (by rfl) (by intro _; go_simp; with_reducible rfl) ?_; simp only [List.setIfInBounds_toArray, List.set_cons_zero, List.set_cons_succ]; try go_bits) | (refine plan_read (v := _) (by rfl) (by rfl) (by rfl) (by go_simp; with_reducible rfl) ?_; simp only [List.setIfInBounds_toArray, List.set_cons_zero, List.set_cons_succ]; try go_bits) | (refine plan_readB (v := _) (by rfl) (by rfl) (by rfl) (by intro _ hag; unfold Agree at hag; go_simp; with_reducible rfl) ?_; simp only [List.setIfInBounds_toArray, List.set_cons_zero, List.set_cons_succ]; try go_bits) | (refine plan_skip0 (by rfl) (by rfl) (by rfl) ?_; simp only [List.setIfInBounds_toArray, List.set_cons_zero, List.set_cons_succ]; try go_bits) | (refine plan_skip1 (by rfl) (by rfl) (by rfl) ?_; simp only [List.setIfInBounds_toArray, List.set_cons_zero, List.set_cons_succ]; try go_bits) | (refine plan_skip2 (by rfl) (by rfl) (by rfl) ?_; simp only [List.setIfInBounds_toArray, List.set_cons_zero, List.set_cons_succ]; try go_bits) | (refine plan_skip4 (by rfl) (by rfl) (by rfl) ?_; simp only [List.setIfInBounds_toArray, List.set_cons_zero, List.set_cons_succ]; try go_bits) | (refine plan_any (by rfl) ?_) | (refine plan_keep (by rfl) ?_) | (refine plan_nil ?_) | (with_reducible refine And.intro (by first | assumption | exact Agree.refl _ _ | exact agree_drew _ _ | exact agree_alloc _ (by intro k hk; subst hk; first | omega | (simp; omega))) ?_) | (unfold Act.put; simp only [List.setIfInBounds_toArray, List.set_cons_zero, List.set_cons_succ]))
              refine (HRN.out _).mono ?_
              rintro e wa ⟨rfl, rfl⟩
              go_wp2_with (first
                | (refine plan_pure (v := _) (by rfl) (by rfl) (by rfl) (by intro _; go_simp; with_reducible rfl) ?_; simp only [List.setIfInBounds_toArray, List.set_cons_zero, List.set_cons_succ]; try go_bits) | (refine plan_read (v := _) (by rfl) (by rfl) (by rfl) (by go_simp; with_reducible rfl) ?_; simp only [List.setIfInBounds_toArray, List.set_cons_zero, List.set_cons_succ]; try go_bits) | (refine plan_readB (v := _) (by rfl) (by rfl) (by rfl) (by intro _ hag; unfold Agree at hag; go_simp; with_reducible rfl) ?_; simp only [List.setIfInBounds_toArray, List.set_cons_zero, List.set_cons_succ]; try go_bits) | (refine plan_skip0 (by rfl) (by rfl) (by rfl) ?_; simp only [List.setIfInBounds_toArray, List.set_cons_zero, List.set_cons_succ]; try go_bits) | (refine plan_skip1 (by rfl) (by rfl) (by rfl) ?_; simp only [List.setIfInBounds_toArray, List.set_cons_zero, List.set_cons_succ]; try go_bits) | (refine plan_skip2 (by rfl) (by rfl) (by rfl) ?_; simp only [List.setIfInBounds_toArray, List.set_cons_zero, List.set_cons_succ]; try go_bits) | (refine plan_skip4 (by rfl) (by rfl) (by rfl) ?_; simp only [List.setIfInBounds_toArray, List.set_cons_zero, List.set_cons_succ]; try go_bits) | (refine plan_any (by rfl) ?_) | (refine plan_keep (by rfl) ?_) | (refine plan_nil ?_) | (with_reducible refine And.intro (by first | assumption | exact Agree.refl _ _ | exact agree_drew _ _ | exact agree_alloc _ (by intro k hk; subst hk; first | omega | (simp; omega))) ?_) | (unfold Act.put; simp only [List.setIfInBounds_toArray, List.set_cons_zero, List.set_cons_succ]))
              refine (HN2.out _).mono ?_
              rintro e wb ⟨rfl, hbn⟩
              have HXN := Lib.hid (HX.out.trans (hbn.mono HX.out.size))
              clear hbn HX
              have HX := HXN
              clear HXN
              go_wp2_with (first
                | (refine plan_pure (v := _) (by rfl) (by rfl) (by rfl) (by intro _; go_simp; with_reducible rfl) ?_; simp only [List.setIfInBounds_toArray, List.set_cons_zero, List.set_cons_succ]; try go_bits) | (refine plan_read (v := _) (by rfl) (by rfl) (by rfl) (by go_simp; with_reducible rfl) ?_; simp only [List.setIfInBounds_toArray, List.set_cons_zero, List.set_cons_succ]; try go_bits) | (refine plan_readB (v := _) (by rfl) (by rfl) (by rfl) (by intro _ hag; unfold Agree at hag; go_simp; with_reducible rfl) ?_; simp only [List.setIfInBounds_toArray, List.set_cons_zero, List.set_cons_succ]; try go_bits) | (refine plan_skip0 (by rfl) (by rfl) (by rfl) ?_; simp only [List.setIfInBounds_toArray, List.set_cons_zero, List.set_cons_succ]; try go_bits) | (refine plan_skip1 (by rfl) (by rfl) (by rfl) ?_; simp only [List.setIfInBounds_toArray, List.set_cons_zero, List.set_cons_succ]; try go_bits) | (refine plan_skip2 (by rfl) (by rfl) (by rfl) ?_; simp only [List.setIfInBounds_toArray, List.set_cons_zero, List.set_cons_succ]; try go_bits) | (refine plan_skip4 (by rfl) (by rfl) (by rfl) ?_; simp only [List.setIfInBounds_toArray, List.set_cons_zero, List.set_cons_succ]; try go_bits) | (refine plan_any (by rfl) ?_) | (refine plan_keep (by rfl) ?_) | (refine plan_nil ?_) | (with_reducible refine And.intro (by first | assumption | exact Agree.refl _ _ | exact agree_drew _ _ | exact agree_alloc _ (by intro k hk; subst hk; first | omega | (simp; omega))) ?_) | (unfold Act.put; simp only [List.setIfInBounds_toArray, List.set_cons_zero, List.set_cons_succ]))
              refine (HRN.out _).mono ?_
              rintro e wb ⟨rfl, rfl⟩
              obtain ⟨x0, x1, x2, x3, x4, x5⟩ := sch_cells (HK1.out.below HX.out)
              go_wp2_with (first
                | (refine plan_pure (v := _) (by rfl) (by rfl) (by rfl) (by intro _; go_simp; with_reducible rfl) ?_; simp only [List.setIfInBounds_toArray, List.set_cons_zero, List.set_cons_succ]; try go_bits) | (refine plan_read (v := _) (by rfl) (by rfl) (by rfl) (by go_simp; with_reducible rfl) ?_; simp only [List.setIfInBounds_toArray, List.set_cons_zero, List.set_cons_succ]; try go_bits) | (refine plan_readB (v := _) (by rfl) (by rfl) (by rfl) (by intro _ hag; unfold Agree at hag; go_simp; with_reducible rfl) ?_; simp only [List.setIfInBounds_toArray, List.set_cons_zero, List.set_cons_succ]; try go_bits) | (refine plan_skip0 (by rfl) (by rfl) (by rfl) ?_; simp only [List.setIfInBounds_toArray, List.set_cons_zero, List.set_cons_succ]; try go_bits) | (refine plan_skip1 (by rfl) (by rfl) (by rfl) ?_; simp only [List.setIfInBounds_toArray, List.set_cons_zero, List.set_cons_succ]; try go_bits) | (refine plan_skip2 (by rfl) (by rfl) (by rfl) ?_; simp only [List.setIfInBounds_toArray, List.set_cons_zero, List.set_cons_succ]; try go_bits) | (refine plan_skip4 (by rfl) (by rfl) (by rfl) ?_; simp only [List.setIfInBounds_toArray, List.set_cons_zero, List.set_cons_succ]; try go_bits) | (refine plan_any (by rfl) ?_) | (refine plan_keep (by rfl) ?_) | (refine plan_nil ?_) | (with_reducible refine And.intro (by first | assumption | exact Agree.refl _ _ | exact agree_drew _ _ | exact agree_alloc _ (by intro k hk; subst hk; first | omega | (simp; omega))) ?_) | (unfold Act.put; simp only [List.setIfInBounds_toArray, List.set_cons_zero, List.set_cons_succ]))
              clear x0 x1 x2 x3 x4 x5
              refine (HCL.out _ HX.out).mono ?_
              rintro e wn ⟨rfl, hbn⟩
              have HXN := Lib.hid (HX.out.trans (hbn.mono HX.out.size))
              clear hbn HX
              have HX := HXN
              clear HXN
              go_wp2_with (first
                | (refine plan_pure (v := _) (by rfl) (by rfl) (by rfl) (by intro _; go_simp; with_reducible rfl) ?_; simp only [List.setIfInBounds_toArray, List.set_cons_zero, List.set_cons_succ]; try go_bits) | (refine plan_read (v := _) (by rfl) (by rfl) (by rfl) (by go_simp; with_reducible rfl) ?_; simp only [List.setIfInBounds_toArray, List.set_cons_zero, List.set_cons_succ]; try go_bits) | (refine plan_readB (v := _) (by rfl) (by rfl) (by rfl) (by intro _ hag; unfold Agree at hag; go_simp; with_reducible rfl) ?_; simp only [List.setIfInBounds_toArray, List.set_cons_zero, List.set_cons_succ]; try go_bits) | (refine plan_skip0 (by rfl) (by rfl) (by rfl) ?_; simp only [List.setIfInBounds_toArray, List.set_cons_zero, List.set_cons_succ]; try go_bits) | (refine plan_skip1 (by rfl) (by rfl) (by rfl) ?_; simp only [List.setIfInBounds_toArray, List.set_cons_zero, List.set_cons_succ]; try go_bits) | (refine plan_skip2 (by rfl) (by rfl) (by rfl) ?_; simp only [List.setIfInBounds_toArray, List.set_cons_zero, List.set_cons_succ]; try go_bits) | (refine plan_skip4 (by rfl) (by rfl) (by rfl) ?_; simp only [List.setIfInBounds_toArray, List.set_cons_zero, List.set_cons_succ]; try go_bits) | (refine plan_any (by rfl) ?_) | (refine plan_keep (by rfl) ?_) | (refine plan_nil ?_) | (with_reducible refine And.intro (by first | assumption | exact Agree.refl _ _ | exact agree_drew _ _ | exact agree_alloc _ (by intro k hk; subst hk; first | omega | (simp; omega))) ?_) | (unfold Act.put; simp only [List.setIfInBounds_toArray, List.set_cons_zero, List.set_cons_succ]))
              refine (HAW.out _ HX.out).mono ?_
              rintro e w9 ⟨rfl, hb9⟩
              have HB9 := Lib.hid (HX.out.trans (hb9.mono HX.out.size))
              clear hb9
              go_wp2_with (first
                | (refine plan_pure (v := _) (by rfl) (by rfl) (by rfl) (by intro _; go_simp; with_reducible rfl) ?_; simp only [List.setIfInBounds_toArray, List.set_cons_zero, List.set_cons_succ]; try go_bits) | (refine plan_read (v := _) (by rfl) (by rfl) (by rfl) (by go_simp; with_reducible rfl) ?_; simp only [List.setIfInBounds_toArray, List.set_cons_zero, List.set_cons_succ]; try go_bits) | (refine plan_readB (v := _) (by rfl) (by rfl) (by rfl) (by intro _ hag; unfold Agree at hag; go_simp; with_reducible rfl) ?_; simp only [List.setIfInBounds_toArray, List.set_cons_zero, List.set_cons_succ]; try go_bits) | (refine plan_skip0 (by rfl) (by rfl) (by rfl) ?_; simp only [List.setIfInBounds_toArray, List.set_cons_zero, List.set_cons_succ]; try go_bits) | (refine plan_skip1 (by rfl) (by rfl) (by rfl) ?_; simp only [List.setIfInBounds_toArray, List.set_cons_zero, List.set_cons_succ]; try go_bits) | (refine plan_skip2 (by rfl) (by rfl) (by rfl) ?_; simp only [List.setIfInBounds_toArray, List.set_cons_zero, List.set_cons_succ]; try go_bits) | (refine plan_skip4 (by rfl) (by rfl) (by rfl) ?_; simp only [List.setIfInBounds_toArray, List.set_cons_zero, List.set_cons_succ]; try go_bits) | (refine plan_any (by rfl) ?_) | (refine plan_keep (by rfl) ?_) | (refine plan_nil ?_) | (with_reducible refine And.intro (by first | assumption | exact Agree.refl _ _ | exact agree_drew _ _ | exact agree_alloc _ (by intro k hk; subst hk; first | omega | (simp; omega))) ?_) | (unfold Act.put; simp only [List.setIfInBounds_toArray, List.set_cons_zero, List.set_cons_succ]))
              go_ret
              exact ⟨rfl, HB0.out.trans (HB9.out.mono HB0.out.size)⟩
          · go_upto_region 17 with fail
            clear z0 z1 z2 z3 z4 z5
            have HXN := Lib.hid (HB5.out.trans (HX.out.mono HB5.out.size))
            clear HX
            have HX := HXN
            clear HXN j0 hI hxo
            obtain ⟨x0, x1, x2, x3, x4, x5⟩ := sch_cells (HK1.out.below HX.out)
            go_wp2_with fail
            clear x0 x1 x2 x3 x4 x5
            refine (HZ.out _ HX.out).mono ?_
            clear HZ
            rintro e wz ⟨out, rfl, hout, hbn⟩
            obtain ⟨po, co, rfl, _, _⟩ := hout.form
            have HOUT := Lib.hid hout
            have HXN := Lib.hid (HX.out.trans (hbn.mono HX.out.size))
            clear hbn HX hout
            have HX := HXN
            clear HXN
            rw [HLN.out]
            have hln : ((s.cols.length : Int) != (s.cols.length : Int)) = false := by simp
            obtain ⟨x0, x1, x2, x3, x4, x5⟩ := sch_cells (HK1.out.below HX.out)
            go_wp2_with fail
            clear x0 x1 x2 x3 x4 x5
            refine (HRR.out _ HX.out).mono ?_
            rintro e wn2 ⟨rfl, hbn⟩
            have HOUT2 := Lib.hid (HOUT.out.below hbn)
            have HXN := Lib.hid (HX.out.trans (hbn.mono HX.out.size))
            clear hbn HX HOUT
            have HX := HXN
            clear HXN
            rw [HLN.out] at HOUT2
            have HRF2 := Lib.hid (fun W (hb : Below w2.heap.size w2 W) (hv : Sl W (fun _ => True) 3 (.slice po s.cols.length co) (s.cols.map zeroC).length (rowCells (s.cols.map zeroC))) => HRF.out W hb _ hv)
            clear HRF
            rcases Bool.eq_false_or_eq_true (rightS s) with hrt | hrt
            · have HFT := Lib.hid (HZF.out hrt)
              rw [hrt] at HRR HSR ⊢
              rw [HFT.out] at HRF2
              clear HZF HFT
              obtain ⟨x0, x1, x2, x3, x4, x5⟩ := sch_cells (HK1.out.below HX.out)
              go_wp2_with fail
              clear x0 x1 x2 x3 x4 x5 hln
              refine (HRF2.out _ HX.out (by rw [HLN.out]; exact HOUT2.out)).mono ?_
              rintro e wn ⟨rfl, hbn⟩
              have HXN := Lib.hid (HX.out.trans (hbn.mono HX.out.size))
              clear hbn HX
              have HX := HXN
              clear HXN
              obtain ⟨x0, x1, x2, x3, x4, x5⟩ := sch_cells (HK1.out.below HX.out)
              go_upto_region 20 with fail
              have HXN := Lib.hid HX.out.drew
              clear HX
              have HX := HXN
              clear HXN
              refine wp_region_lit_plan [] [(0, 1), (2, 2), (1, 3), (3, 4), (4, 0), (5, 0), (6, 0), (9, 0), (7, 4), (8, 4), (10, 4), (11, 0), (12, 0), (13, 0), (14, 0), (17, 0), (15, 4), (16, 4), (18, 4), (19, 0), (20, 0), (21, 0), (23, 0), (25, 0), (22, 1), (24, 4), (26, 0), (27, 0), (28, 0), (29, 4), (30, 0), (31, 0)] (fun q => q = w.heap.size) (by kernel_rfl) (by kernel_rfl) (fun c a d v w h => by cases d <;> exact h) ?_
              go_wp2_with (first
                | (refine plan_pure (v := _) (by rfl) (by rfl) (by rfl) (by intro _; go_simp; with_reducible rfl) ?_; simp only [List.setIfInBounds_toArray, List.set_cons_zero, List.set_cons_succ]; try go_bits) | (refine plan_read (v := _) (by rfl) (by rfl) (by rfl) (by go_simp; with_reducible rfl) ?_; simp only [List.setIfInBounds_toArray, List.set_cons_zero, List.set_cons_succ]; try go_bits) | (refine plan_readB (v := _) (by rfl) (by rfl) (by rfl) (by intro _ hag; unfold Agree at hag; go_simp; with_reducible rfl) ?_; simp only [List.setIfInBounds_toArray, List.set_cons_zero, List.set_cons_succ]; try go_bits) | (refine plan_skip0 (by rfl) (by rfl) (by rfl) ?_; simp only [List.setIfInBounds_toArray, List.set_cons_zero, List.set_cons_succ]; try go_bits) | (refine plan_skip1 (by rfl) (by rfl) (by rfl) ?_; simp only [List.setIfInBounds_toArray, List.set_cons_zero, List.set_cons_succ]; try go_bits) | (refine plan_skip2 (by rfl) (by rfl) (by rfl) ?_; simp only [List.setIfInBounds_toArray, List.set_cons_zero, List.set_cons_succ]; try go_bits) | (refine plan_skip4 (by rfl) (by rfl) (by rfl) ?_; simp only [List.setIfInBounds_toArray, List.set_cons_zero, List.set_cons_succ]; try go_bits) | (refine plan_any (by rfl) ?_) | (refine plan_keep (by rfl) ?_) | (refine plan_nil ?_) | (with_reducible refine And.intro (by first | assumption | exact Agree.refl _ _ | exact agree_drew _ _ | exact agree_alloc _ (by intro k hk; subst hk; first | omega | (simp; omega))) ?_) | (unfold Act.put; simp only [List.setIfInBounds_toArray, List.set_cons_zero, List.set_cons_succ]))
              clear x0 x1 x2 x3 x4 x5
              refine (HSR.out _ HX.out).mono ?_
              rintro e wn ⟨rfl, hbn⟩
              have hagn := HAG.out _ _ HX.out hbn
              have HXN := Lib.hid (HX.out.trans (hbn.mono HX.out.size))
              clear hbn HX
              have HX := HXN
              clear HXN
              obtain ⟨x0, x1, x2, x3, x4, x5⟩ := sch_cells (HK1.out.below HX.out)
              go_wp2_with (first
                | (refine plan_pure (v := _) (by rfl) (by rfl) (by rfl) (by intro _; go_simp; with_reducible rfl) ?_; simp only [List.setIfInBounds_toArray, List.set_cons_zero, List.set_cons_succ]; try go_bits) | (refine plan_read (v := _) (by rfl) (by rfl) (by rfl) (by go_simp; with_reducible rfl) ?_; simp only [List.setIfInBounds_toArray, List.set_cons_zero, List.set_cons_succ]; try go_bits) | (refine plan_readB (v := _) (by rfl) (by rfl) (by rfl) (by intro _ hag; unfold Agree at hag; go_simp; with_reducible rfl) ?_; simp only [List.setIfInBounds_toArray, List.set_cons_zero, List.set_cons_succ]; try go_bits) | (refine plan_skip0 (by rfl) (by rfl) (by rfl) ?_; simp only [List.setIfInBounds_toArray, List.set_cons_zero, List.set_cons_succ]; try go_bits) | (refine plan_skip1 (by rfl) (by rfl) (by rfl) ?_; simp only [List.setIfInBounds_toArray, List.set_cons_zero, List.set_cons_succ]; try go_bits) | (refine plan_skip2 (by rfl) (by rfl) (by rfl) ?_; simp only [List.setIfInBounds_toArray, List.set_cons_zero, List.set_cons_succ]; try go_bits) | (refine plan_skip4 (by rfl) (by rfl) (by rfl) ?_; simp only [List.setIfInBounds_toArray, List.set_cons_zero, List.set_cons_succ]; try go_bits) | (refine plan_any (by rfl) ?_) | (refine plan_keep (by rfl) ?_) | (refine plan_nil ?_) | (with_reducible refine And.intro (by first | assumption | exact Agree.refl _ _ | exact agree_drew _ _ | exact agree_alloc _ (by intro k hk; subst hk; first | omega | (simp; omega))) ?_) | (unfold Act.put; simp only [List.setIfInBounds_toArray, List.set_cons_zero, List.set_cons_succ]))
              clear x0 x1 x2 x3 x4 x5
              refine (HRR.out _ HX.out).mono ?_
              rintro e wn ⟨rfl, hbn⟩
              have HXN := Lib.hid (HX.out.trans (hbn.mono HX.out.size))
              clear hbn HX
              have HX := HXN
              clear HXN
              go_wp2_with (first
                | (refine plan_pure (v := _) (by rfl) (by rfl) (by rfl) (by intro _; go_simp; with_reducible rfl) ?_; simp only [List.setIfInBounds_toArray, List.set_cons_zero, List.set_cons_succ]; try go_bits) | (refine plan_read (v := _) (by rfl) (by rfl) (by rfl) (by go_simp; with_reducible rfl) ?_; simp only [List.setIfInBounds_toArray, List.set_cons_zero, List.set_cons_succ]; try go_bits) | (refine plan_readB (v := _) (by rfl) (by rfl) (by rfl) (by intro _ hag; unfold Agree at hag; go_simp; with_reducible rfl) ?_; simp only [List.setIfInBounds_toArray, List.set_cons_zero, List.set_cons_succ]; try go_bits) | (refine plan_skip0 (by rfl) (by rfl) (by rfl) ?_; simp only [List.setIfInBounds_toArray, List.set_cons_zero, List.set_cons_succ]; try go_bits) | (refine plan_skip1 (by rfl) (by rfl) (by rfl) ?_; simp only [List.setIfInBounds_toArray, List.set_cons_zero, List.set_cons_succ]; try go_bits) | (refine plan_skip2 (by rfl) (by rfl) (by rfl) ?_; simp only [List.setIfInBounds_toArray, List.set_cons_zero, List.set_cons_succ]; try go_bits) | (refine plan_skip4 (by rfl) (by rfl) (by rfl) ?_; simp only [List.setIfInBounds_toArray, List.set_cons_zero, List.set_cons_succ]; try go_bits) | (refine plan_any (by rfl) ?_) | (refine plan_keep (by rfl) ?_) | (refine plan_nil ?_) | (with_reducible refine And.intro (by first | assumption | exact Agree.refl _ _ | exact agree_drew _ _ | exact agree_alloc _ (by intro k hk; subst hk; first | omega | (simp; omega))) ?_) | (unfold Act.put; simp only [List.setIfInBounds_toArray, List.set_cons_zero, List.set_cons_succ]))
              refine (HN1.out _).mono ?_
              rintro e wa ⟨rfl, hbn⟩
              have HXN := Lib.hid (HX.out.trans (hbn.mono HX.out.size))
              clear hbn HX
              have HX := HXN
              clear HXN
              go_wp2_with (first
                | (refine plan_pure (v := _) (by rfl) (by rfl) (by rfl) (by intro _; go_simp; with_reducible rfl) ?_; simp only [List.setIfInBounds_toArray, List.set_cons_zero, List.set_cons_succ]; try go_bits) | (refine plan_read (v := _) (by rfl) (by rfl) (by rfl) (by go_simp; with_reducible rfl) ?_; simp only [List.setIfInBounds_toArray, List.set_cons_zero, List.set_cons_succ]; try go_bits) | (refine plan_readB (v := _) (by rfl) (by rfl) (by rfl) (by intro _ hag; unfold Agree at hag; go_simp; with_reducible rfl) ?_; simp only [List.setIfInBounds_toArray, List.set_cons_zero, List.set_cons_succ]; try go_bits) | (refine plan_skip0 (by rfl) (by rfl) (by rfl) ?_; simp only [List.setIfInBounds_toArray, List.set_cons_zero, List.set_cons_succ]; try go_bits) | (refine plan_skip1 (by rfl) (by rfl) (by rfl) ?_; simp only [List.setIfInBounds_toArray, List.set_cons_zero, List.set_cons_succ]; try go_bits) | (refine plan_skip2 (by rfl) (by rfl) (by rfl) ?_; simp only [List.setIfInBounds_toArray, List.set_cons_zero, List.set_cons_succ]; try go_bits) | (refine plan_skip4 (by rfl) (by rfl) (by rfl) ?_; simp only [List.setIfInBounds_toArray, List.set_cons_zero, List.set_cons_succ]; try go_bits) | (refine plan_any (by rfl) ?_) | (refine plan_keep (by rfl) ?_) | (refine plan_nil ?_) | (with_reducible refine And.intro (by first | assumption | exact Agree.refl _ _ | exact agree_drew _ _ | exact agree_alloc _ (by intro k hk; subst hk; first | omega | (simp; omega))) ?_) | (unfold Act.put; simp only [List.setIfInBounds_toArray, List.set_cons_zero, List.set_cons_succ]))
              refine (HRN.out _).mono ?_
              rintro e wa ⟨rfl, rfl⟩
              go_wp2_with (first
                | (refine plan_pure (v := _) (by rfl) (by rfl) (by rfl) (by intro _; go_simp; with_reducible rfl) ?_; simp only [List.setIfInBounds_toArray, List.set_cons_zero, List.set_cons_succ]; try go_bits) | (refine plan_read (v := _) (by rfl) (by rfl) (by rfl) (by go_simp; with_reducible rfl) ?_; simp only [List.setIfInBounds_toArray, List.set_cons_zero, List.set_cons_succ]; try go_bits) | (refine plan_readB (v := _) (by rfl) (by rfl) (by rfl) (by intro _ hag; unfold Agree at hag; go_simp; with_reducible rfl) ?_; simp only [List.setIfInBounds_toArray, List.set_cons_zero, List.set_cons_succ]; try go_bits) | (refine plan_skip0 (by rfl) (by rfl) (by rfl) ?_; simp only [List.setIfInBounds_toArray, List.set_cons_zero, List.set_cons_succ]; try go_bits) | (refine plan_skip1 (by rfl) (by rfl) (by rfl) ?_; simp only [List.setIfInBounds_toArray, List.set_cons_zero, List.set_cons_succ]; try go_bits) | (refine plan_skip2 (by rfl) (by rfl) (by rfl) ?_; simp only [List.setIfInBounds_toArray, List.set_cons_zero, List.set_cons_succ]; try go_bits) | (refine plan_skip4 (by rfl) (by rfl) (by rfl) ?_; simp only [List.setIfInBounds_toArray, List.set_cons_zero, List.set_cons_succ]; try go_bits) | (refine plan_any (by rfl) ?_) | (refine plan_keep (by rfl) ?_) | (refine plan_nil ?_) | (with_reducible refine And.intro (by first | assumption | exact Agree.refl _ _ | exact agree_drew _ _ | exact agree_alloc _ (by intro k hk; subst hk; first | omega | (simp; omega))) ?_) | (unfold Act.put; simp only [List.setIfInBounds_toArray, List.set_cons_zero, List.set_cons_succ]))
              refine (HN2.out _).mono ?_
              rintro e wb ⟨rfl, hbn⟩
              have HXN := Lib.hid (HX.out.trans (hbn.mono HX.out.size))
              clear hbn HX
              have HX := HXN
              clear HXN
              go_wp2_with (first
                | (refine plan_pure (v := _) (by rfl) (by rfl) (by rfl) (by intro _; go_simp; with_reducible rfl) ?_; simp only [List.setIfInBounds_toArray, List.set_cons_zero, List.set_cons_succ]; try go_bits) | (refine plan_read (v := _) (by rfl) (by rfl) (by rfl) (by go_simp; with_reducible rfl) ?_; simp only [List.setIfInBounds_toArray, List.set_cons_zero, List.set_cons_succ]; try go_bits) | (refine plan_readB (v := _) (by rfl) (by rfl) (by rfl) (by intro _ hag; unfold Agree at hag; go_simp; with_reducible rfl) ?_; simp only [List.setIfInBounds_toArray, List.set_cons_zero, List.set_cons_succ]; try go_bits) | (refine plan_skip0 (by rfl) (by rfl) (by rfl) ?_; simp only [List.setIfInBounds_toArray, List.set_cons_zero, List.set_cons_succ]; try go_bits) | (refine plan_skip1 (by rfl) (by rfl) (by rfl) ?_; simp only [List.setIfInBounds_toArray, List.set_cons_zero, List.set_cons_succ]; try go_bits) | (refine plan_skip2 (by rfl) (by rfl) (by rfl) ?_; simp only [List.setIfInBounds_toArray, List.set_cons_zero, List.set_cons_succ]; try go_bits) | (refine plan_skip4 (by rfl) (by rfl) (by rfl) ?_; simp only [List.setIfInBounds_toArray, List.set_cons_zero, List.set_cons_succ]; try go_bits) | (refine plan_any (by rfl) ?_) | (refine plan_keep (by rfl) ?_) | (refine plan_nil ?_) | (with_reducible refine And.intro (by first | assumption | exact Agree.refl _ _ | exact agree_drew _ _ | exact agree_alloc _ (by intro k hk; subst hk; first | omega | (simp; omega))) ?_) | (unfold Act.put; simp only [List.setIfInBounds_toArray, List.set_cons_zero, List.set_cons_succ]))
              refine (HRN.out _).mono ?_
              rintro e wb ⟨rfl, rfl⟩
              obtain ⟨x0, x1, x2, x3, x4, x5⟩ := sch_cells (HK1.out.below HX.out)
              go_wp2_with (first
                | (refine plan_pure (v := _) (by rfl) (by rfl) (by rfl) (by intro _; go_simp; with_reducible rfl) ?_; simp only [List.setIfInBounds_toArray, List.set_cons_zero, List.set_cons_succ]; try go_bits) | (refine plan_read (v := _) (by rfl) (by rfl) (by rfl) (by go_simp; with_reducible rfl) ?_; simp only [List.setIfInBounds_toArray, List.set_cons_zero, List.set_cons_succ]; try go_bits) | (refine plan_readB (v := _) (by rfl) (by rfl) (by rfl) (by intro _ hag; unfold Agree at hag; go_simp; with_reducible rfl) ?_; simp only [List.setIfInBounds_toArray, List.set_cons_zero, List.set_cons_succ]; try go_bits) | (refine plan_skip0 (by rfl) (by rfl) (by rfl) ?_; simp only [List.setIfInBounds_toArray, List.set_cons_zero, List.set_cons_succ]; try go_bits) | (refine plan_skip1 (by rfl) (by rfl) (by rfl) ?_; simp only [List.setIfInBounds_toArray, List.set_cons_zero, List.set_cons_succ]; try go_bits) | (refine plan_skip2 (by rfl) (by rfl) (by rfl) ?_; simp only [List.setIfInBounds_toArray, List.set_cons_zero, List.set_cons_succ]; try go_bits) | (refine plan_skip4 (by rfl) (by rfl) (by rfl) ?_; simp only [List.setIfInBounds_toArray, List.set_cons_zero, List.set_cons_succ]; try go_bits) | (refine plan_any (by rfl) ?_) | (refine plan_keep (by rfl) ?_) | (refine plan_nil ?_) | (with_reducible refine And.intro (by first | assumption | exact Agree.refl _ _ | exact agree_drew _ _ | exact agree_alloc _ (by intro k hk; subst hk; first | omega | (simp; omega))) ?_) | (unfold Act.put; simp only [List.setIfInBounds_toArray, List.set_cons_zero, List.set_cons_succ]))
              clear x0 x1 x2 x3 x4 x5
              refine (HCL.out _ HX.out).mono ?_
              rintro e wn ⟨rfl, hbn⟩
              have HXN := Lib.hid (HX.out.trans (hbn.mono HX.out.size))
              clear hbn HX
              have HX := HXN
              clear HXN
              go_wp2_with (first
                | (refine plan_pure (v := _) (by rfl) (by rfl) (by rfl) (by intro _; go_simp; with_reducible rfl) ?_; simp only [List.setIfInBounds_toArray, List.set_cons_zero, List.set_cons_succ]; try go_bits) | (refine plan_read (v := _) (by rfl) (by rfl) (by rfl) (by go_simp; with_reducible rfl) ?_; simp only [List.setIfInBounds_toArray, List.set_cons_zero, List.set_cons_succ]; try go_bits) | (refine plan_readB (v := _) (by rfl) (by rfl) (by rfl) (by intro _ hag; unfold Agree at hag; go_simp; with_reducible rfl) ?_; simp only [List.setIfInBounds_toArray, List.set_cons_zero, List.set_cons_succ]; try go_bits) | (refine plan_skip0 (by rfl) (by rfl) (by rfl) ?_; simp only [List.setIfInBounds_toArray, List.set_cons_zero, List.set_cons_succ]; try go_bits) | (refine plan_skip1 (by rfl) (by rfl) (by rfl) ?_; simp only [List.setIfInBounds_toArray, List.set_cons_zero, List.set_cons_succ]; try go_bits) | (refine plan_skip2 (by rfl) (by rfl) (by rfl) ?_; simp only [List.setIfInBounds_toArray, List.set_cons_zero, List.set_cons_succ]; try go_bits) | (refine plan_skip4 (by rfl) (by rfl) (by rfl) ?_; simp only [List.setIfInBounds_toArray, List.set_cons_zero, List.set_cons_succ]; try go_bits) | (refine plan_any (by rfl) ?_) | (refine plan_keep (by rfl) ?_) | (refine plan_nil ?_) | (with_reducible refine And.intro (by first | assumption | exact Agree.refl _ _ | exact agree_drew _ _ | exact agree_alloc _ (by intro k hk; subst hk; first | omega | (simp; omega))) ?_) | (unfold Act.put; simp only [List.setIfInBounds_toArray, List.set_cons_zero, List.set_cons_succ]))
              refine (HAW.out _ HX.out).mono ?_
              rintro e w9 ⟨rfl, hb9⟩
              have HB9 := Lib.hid (HX.out.trans (hb9.mono HX.out.size))
              clear hb9
              go_wp2_with (first
                | (refine plan_pure (v := _) (by rfl) (by rfl) (by rfl) (by intro _; go_simp; with_reducible rfl) ?_; simp only [List.setIfInBounds_toArray, List.set_cons_zero, List.set_cons_succ]; try go_bits) | (refine plan_read (v := _) (by rfl) (by rfl) (by rfl) (by go_simp; with_reducible rfl) ?_; simp only [List.setIfInBounds_toArray, List.set_cons_zero, List.set_cons_succ]; try go_bits) | (refine plan_readB (v := _) (by rfl) (by rfl) (by rfl) (by intro _ hag; unfold Agree at hag; go_simp; with_reducible rfl) ?_; simp only [List.setIfInBounds_toArray, List.set_cons_zero, List.set_cons_succ]; try go_bits) | (refine plan_skip0 (by rfl) (by rfl) (by rfl) ?_; simp only [List.setIfInBounds_toArray, List.set_cons_zero, List.set_cons_succ]; try go_bits) | (refine plan_skip1 (by rfl) (by rfl) (by rfl) ?_; simp only [List.setIfInBounds_toArray, List.set_cons_zero, List.set_cons_succ]; try go_bits) | (refine plan_skip2 (by rfl) (by rfl) (by rfl) ?_; simp only [List.setIfInBounds_toArray, List.set_cons_zero, List.set_cons_succ]; try go_bits) | (refine plan_skip4 (by rfl) (by rfl) (by rfl) ?_; simp only [List.setIfInBounds_toArray, List.set_cons_zero, List.set_cons_succ]; try go_bits) | (refine plan_any (by rfl) ?_) | (refine plan_keep (by rfl) ?_) | (refine plan_nil ?_) | (with_reducible refine And.intro (by first | assumption | exact Agree.refl _ _ | exact agree_drew _ _ | exact agree_alloc _ (by intro k hk; subst hk; first | omega | (simp; omega))) ?_) | (unfold Act.put; simp only [List.setIfInBounds_toArray, List.set_cons_zero, List.set_cons_succ]))
              go_ret
              exact ⟨rfl, HB0.out.trans (HB9.out.mono HB0.out.size)⟩
            · rw [hrt] at HRR HSR ⊢
              clear HZF HRF2
              obtain ⟨x0, x1, x2, x3, x4, x5⟩ := sch_cells (HK1.out.below HX.out)
              go_upto_region 20 with fail
              have HXN := Lib.hid HX.out.drew
              clear HX
              have HX := HXN
              clear HXN
              refine wp_region_lit_plan [] [(0, 1), (2, 2), (1, 3), (3, 4), (4, 0), (5, 0), (6, 0), (9, 0), (7, 4), (8, 4), (10, 4), (11, 0), (12, 0), (13, 0), (14, 0), (17, 0), (15, 4), (16, 4), (18, 4), (19, 0), (20, 0), (21, 0), (23, 0), (25, 0), (22, 1), (24, 4), (26, 0), (27, 0), (28, 0), (29, 4), (30, 0), (31, 0)] (fun q => q = w.heap.size) (by kernel_rfl) (by kernel_rfl) (fun c a d v w h => by cases d <;> exact h) ?_
              go_wp2_with (first
                | (refine plan_pure (v := _) (by rfl) (by rfl) (by rfl) (by intro _; go_simp; with_reducible rfl) ?_; simp only [List.setIfInBounds_toArray, List.set_cons_zero, List.set_cons_succ]; try go_bits) | (refine plan_read (v := _) (by rfl) (by rfl) (by rfl) (by go_simp; with_reducible rfl) ?_; simp only [List.setIfInBounds_toArray, List.set_cons_zero, List.set_cons_succ]; try go_bits) | (refine plan_readB (v := _) (by rfl) (by rfl) (by rfl) (by intro _ hag; unfold Agree at hag; go_simp; with_reducible rfl) ?_; simp only [List.setIfInBounds_toArray, List.set_cons_zero, List.set_cons_succ]; try go_bits) | (refine plan_skip0 (by rfl) (by rfl) (by rfl) ?_; simp only [List.setIfInBounds_toArray, List.set_cons_zero, List.set_cons_succ]; try go_bits) | (refine plan_skip1 (by rfl) (by rfl) (by rfl) ?_; simp only [List.setIfInBounds_toArray, List.set_cons_zero, List.set_cons_succ]; try go_bits) | (refine plan_skip2 (by rfl) (by rfl) (by rfl) ?_; simp only [List.setIfInBounds_toArray, List.set_cons_zero, List.set_cons_succ]; try go_bits) | (refine plan_skip4 (by rfl) (by rfl) (by rfl) ?_; simp only [List.setIfInBounds_toArray, List.set_cons_zero, List.set_cons_succ]; try go_bits) | (refine plan_any (by rfl) ?_) | (refine plan_keep (by rfl) ?_) | (refine plan_nil ?_) | (with_reducible refine And.intro (by first | assumption | exact Agree.refl _ _ | exact agree_drew _ _ | exact agree_alloc _ (by intro k hk; subst hk; first | omega | (simp; omega))) ?_) | (unfold Act.put; simp only [List.setIfInBounds_toArray, List.set_cons_zero, List.set_cons_succ]))
              clear x0 x1 x2 x3 x4 x5
              refine (HSR.out _ HX.out).mono ?_
              rintro e wn ⟨rfl, hbn⟩
              have hagn := HAG.out _ _ HX.out hbn
              have HXN := Lib.hid (HX.out.trans (hbn.mono HX.out.size))
              clear hbn HX
              have HX := HXN
              clear HXN
              obtain ⟨x0, x1, x2, x3, x4, x5⟩ := sch_cells (HK1.out.below HX.out)
              go_wp2_with (first
                | (refine plan_pure (v := _) (by rfl) (by rfl) (by rfl) (by intro _; go_simp; with_reducible rfl) ?_; simp only [List.setIfInBounds_toArray, List.set_cons_zero, List.set_cons_succ]; try go_bits) | (refine plan_read (v := _) (by rfl) (by rfl) (by rfl) (by go_simp; with_reducible rfl) ?_; simp only [List.setIfInBounds_toArray, List.set_cons_zero, List.set_cons_succ]; try go_bits) | (refine plan_readB (v := _) (by rfl) (by rfl) (by rfl) (by intro _ hag; unfold Agree at hag; go_simp; with_reducible rfl) ?_; simp only [List.setIfInBounds_toArray, List.set_cons_zero, List.set_cons_succ]; try go_bits) | (refine plan_skip0 (by rfl) (by rfl) (by rfl) ?_; simp only [List.setIfInBounds_toArray, List.set_cons_zero, List.set_cons_succ]; try go_bits) | (refine plan_skip1 (by rfl) (by rfl) (by rfl) ?_; simp only [List.setIfInBounds_toArray, List.set_cons_zero, List.set_cons_succ]; try go_bits) | (refine plan_skip2 (by rfl) (by rfl) (by rfl) ?_; simp only [List.setIfInBounds_toArray, List.set_cons_zero, List.set_cons_succ]; try go_bits) | (refine plan_skip4 (by rfl) (by rfl) (by rfl) ?_; simp only [List.setIfInBounds_toArray, List.set_cons_zero, List.set_cons_succ]; try go_bits) | (refine plan_any (by rfl) ?_) | (refine plan_keep (by rfl) ?_) | (refine plan_nil ?_) | (with_reducible refine And.intro (by first | assumption | exact Agree.refl _ _ | exact agree_drew _ _ | exact agree_alloc _ (by intro k hk; subst hk; first | omega | (simp; omega))) ?_) | (unfold Act.put; simp only [List.setIfInBounds_toArray, List.set_cons_zero, List.set_cons_succ]))
              clear x0 x1 x2 x3 x4 x5
              refine (HRR.out _ HX.out).mono ?_
              rintro e wn ⟨rfl, hbn⟩
              have HXN := Lib.hid (HX.out.trans (hbn.mono HX.out.size))
              clear hbn HX
              have HX := HXN
              clear HXN
              go_wp2_with (first
                | (refine plan_pure (v := _) (by rfl) (by rfl) (by rfl) (by intro _; go_simp; with_reducible rfl) ?_; simp only [List.setIfInBounds_toArray, List.set_cons_zero, List.set_cons_succ]; try go_bits) | (refine plan_read (v := _) (by rfl) (by rfl) (by rfl) (by go_simp; with_reducible rfl) ?_; simp only [List.setIfInBounds_toArray, List.set_cons_zero, List.set_cons_succ]; try go_bits) | (refine plan_readB (v := _) (by rfl) (by rfl) (by rfl) (by intro _ hag; unfold Agree at hag; go_simp; with_reducible rfl) ?_; simp only [List.setIfInBounds_toArray, List.set_cons_zero, List.set_cons_succ]; try go_bits) | (refine plan_skip0 (by rfl) (by rfl) (by rfl) ?_; simp only [List.setIfInBounds_toArray, List.set_cons_zero, List.set_cons_succ]; try go_bits) | (refine plan_skip1 (by rfl) (by rfl) (by rfl) ?_; simp only [List.setIfInBounds_toArray, List.set_cons_zero, List.set_cons_succ]; try go_bits) | (refine plan_skip2 (by rfl) (by rfl) (by rfl) ?_; simp only [List.setIfInBounds_toArray, List.set_cons_zero, List.set_cons_succ]; try go_bits) | (refine plan_skip4 (by rfl) (by rfl) (by rfl) ?_; simp only [List.setIfInBounds_toArray, List.set_cons_zero, List.set_cons_succ]; try go_bits) | (refine plan_any (by rfl) ?_) | (refine plan_keep (by rfl) ?_) | (refine plan_nil ?_) | (with_reducible refine And.intro (by first | assumption | exact Agree.refl _ _ | exact agree_drew _ _ | exact agree_alloc _ (by intro k hk; subst hk; first | omega | (simp; omega))) ?_) | (unfold Act.put; simp only [List.setIfInBounds_toArray, List.set_cons_zero, List.set_cons_succ]))
              refine (HN1.out _).mono ?_
              rintro e wa ⟨rfl, hbn⟩
              have HXN := Lib.hid (HX.out.trans (hbn.mono HX.out.size))
              clear hbn HX
              have HX := HXN
              clear HXN
              go_wp2_with (first
                | (refine plan_pure (v := _) (by rfl) (by rfl) (by rfl) (by intro _; go_simp; with_reducible rfl) ?_; simp only [List.setIfInBounds_toArray, List.set_cons_zero, List.set_cons_succ]; try go_bits) | (refine plan_read (v := _) (by rfl) (by rfl) (by rfl) (by go_simp; with_reducible rfl) ?_; simp only [List.setIfInBounds_toArray, List.set_cons_zero, List.set_cons_succ]; try go_bits) | (refine plan_readB (v := _) (by rfl) (by rfl) (by rfl) (by intro _ hag; unfold Agree at hag; go_simp; with_reducible rfl) ?_; simp only [List.setIfInBounds_toArray, List.set_cons_zero, List.set_cons_succ]; try go_bits) | (refine plan_skip0 (by rfl) (by rfl) (by rfl) ?_; simp only [List.setIfInBounds_toArray, List.set_cons_zero, List.set_cons_succ]; try go_bits) | (refine plan_skip1 (by rfl) (by rfl) (by rfl) ?_; simp only [List.setIfInBounds_toArray, List.set_cons_zero, List.set_cons_succ]; try go_bits) | (refine plan_skip2 (by rfl) (by rfl) (by rfl) ?_; simp only [List.setIfInBounds_toArray, List.set_cons_zero, List.set_cons_succ]; try go_bits) | (refine plan_skip4 (by rfl) (by rfl) (by rfl) ?_; simp only [List.setIfInBounds_toArray, List.set_cons_zero, List.set_cons_succ]; try go_bits) | (refine plan_any (by rfl) ?_) | (refine plan_keep (by rfl) ?_) | (refine plan_nil ?_) | (with_reducible refine And.intro (by first | assumption | exact Agree.refl _ _ | exact agree_drew _ _ | exact agree_alloc _ (by intro k hk; subst hk; first | omega | (simp; omega))) ?_) | (unfold Act.put; simp only [List.setIfInBounds_toArray, List.set_cons_zero, List.set_cons_succ]))
              refine (HRN.out _).mono ?_
              rintro e wa ⟨rfl, rfl⟩
              go_wp2_with (first
                | (refine plan_pure (v := _) (by rfl) (by rfl) (by rfl) (by intro _; go_simp; with_reducible rfl) ?_; simp only [List.setIfInBounds_toArray, List.set_cons_zero, List.set_cons_succ]; try go_bits) | (refine plan_read (v := _) (by rfl) (by rfl) (by rfl) (by go_simp; with_reducible rfl) ?_; simp only [List.setIfInBounds_toArray, List.set_cons_zero, List.set_cons_succ]; try go_bits) | (refine plan_readB (v := _) (by rfl) (by rfl) (by rfl) (by intro _ hag; unfold Agree at hag; go_simp; with_reducible rfl) ?_; simp only [List.setIfInBounds_toArray, List.set_cons_zero, List.set_cons_succ]; try go_bits) | (refine plan_skip0 (by rfl) (by rfl) (by rfl) ?_; simp only [List.setIfInBounds_toArray, List.set_cons_zero, List.set_cons_succ]; try go_bits) | (refine plan_skip1 (by rfl) (by rfl) (by rfl) ?_; simp only [List.setIfInBounds_toArray, List.set_cons_zero, List.set_cons_succ]; try go_bits) | (refine plan_skip2 (by rfl) (by rfl) (by rfl) ?_; simp only [List.setIfInBounds_toArray, List.set_cons_zero, List.set_cons_succ]; try go_bits) | (refine plan_skip4 (by rfl) (by rfl) (by rfl) ?_; simp only [List.setIfInBounds_toArray, List.set_cons_zero, List.set_cons_succ]; try go_bits) | (refine plan_any (by rfl) ?_) | (refine plan_keep (by rfl) ?_) | (refine plan_nil ?_) | (with_reducible refine And.intro (by first | assumption | exact Agree.refl _ _ | exact agree_drew _ _ | exact agree_alloc _ (by intro k hk; subst hk; first | omega | (simp; omega))) ?_) | (unfold Act.put; simp only [List.setIfInBounds_toArray, List.set_cons_zero, List.set_cons_succ]))
              refine (HN2.out _).mono ?_
              rintro e wb ⟨rfl, hbn⟩
              have HXN := Lib.hid (HX.out.trans (hbn.mono HX.out.size))
              clear hbn HX
              have HX := HXN
              clear HXN
              go_wp2_with (first
                | (refine plan_pure (v := _) (by rfl) (by rfl) (by rfl) (by intro _; go_simp; with_reducible rfl) ?_; simp only [List.setIfInBounds_toArray, List.set_cons_zero, List.set_cons_succ]; try go_bits) | (refine plan_read (v := _) (by rfl) (by rfl) (by rfl) (by go_simp; with_reducible rfl) ?_; simp only [List.setIfInBounds_toArray, List.set_cons_zero, List.set_cons_succ]; try go_bits) | (refine plan_readB (v := _) (by rfl) (by rfl) (by rfl) (by intro _ hag; unfold Agree at hag; go_simp; with_reducible rfl) ?_; simp only [List.setIfInBounds_toArray, List.set_cons_zero, List.set_cons_succ]; try go_bits) | (refine plan_skip0 (by rfl) (by rfl) (by rfl) ?_; simp only [List.setIfInBounds_toArray, List.set_cons_zero, List.set_cons_succ]; try go_bits) | (refine plan_skip1 (by rfl) (by rfl) (by rfl) ?_; simp only [List.setIfInBounds_toArray, List.set_cons_zero, List.set_cons_succ]; try go_bits) | (refine plan_skip2 (by rfl) (by rfl) (by rfl) ?_; simp only [List.setIfInBounds_toArray, List.set_cons_zero, List.set_cons_succ]; try go_bits) | (refine plan_skip4 (by rfl) (by rfl) (by rfl) ?_; simp only [List.setIfInBounds_toArray, List.set_cons_zero, List.set_cons_succ]; try go_bits) | (refine plan_any (by rfl) ?_) | (refine plan_keep (by rfl) ?_) | (refine plan_nil ?_) | (with_reducible refine And.intro (by first | assumption | exact Agree.refl _ _ | exact agree_drew _ _ | exact agree_alloc _ (by intro k hk; subst hk; first | omega | (simp; omega))) ?_) | (unfold Act.put; simp only [List.setIfInBounds_toArray, List.set_cons_zero, List.set_cons_succ]))
              refine (HRN.out _).mono ?_
              rintro e wb ⟨rfl, rfl⟩
              obtain ⟨x0, x1, x2, x3, x4, x5⟩ := sch_cells (HK1.out.below HX.out)
              go_wp2_with (first
                | (refine plan_pure (v := _) (by rfl) (by rfl) (by rfl) (by intro _; go_simp; with_reducible rfl) ?_; simp only [List.setIfInBounds_toArray, List.set_cons_zero, List.set_cons_succ]; try go_bits) | (refine plan_read (v := _) (by rfl) (by rfl) (by rfl) (by go_simp; with_reducible rfl) ?_; simp only [List.setIfInBounds_toArray, List.set_cons_zero, List.set_cons_succ]; try go_bits) | (refine plan_readB (v := _) (by rfl) (by rfl) (by rfl) (by intro _ hag; unfold Agree at hag; go_simp; with_reducible rfl) ?_; simp only [List.setIfInBounds_toArray, List.set_cons_zero, List.set_cons_succ]; try go_bits) | (refine plan_skip0 (by rfl) (by rfl) (by rfl) ?_; simp only [List.setIfInBounds_toArray, List.set_cons_zero, List.set_cons_succ]; try go_bits) | (refine plan_skip1 (by rfl) (by rfl) (by rfl) ?_; simp only [List.setIfInBounds_toArray, List.set_cons_zero, List.set_cons_succ]; try go_bits) | (refine plan_skip2 (by rfl) (by rfl) (by rfl) ?_; simp only [List.setIfInBounds_toArray, List.set_cons_zero, List.set_cons_succ]; try go_bits) | (refine plan_skip4 (by rfl) (by rfl) (by rfl) ?_; simp only [List.setIfInBounds_toArray, List.set_cons_zero, List.set_cons_succ]; try go_bits) | (refine plan_any (by rfl) ?_) | (refine plan_keep (by rfl) ?_) | (refine plan_nil ?_) | (with_reducible refine And.intro (by first | assumption | exact Agree.refl _ _ | exact agree_drew _ _ | exact agree_alloc _ (by intro k hk; subst hk; first | omega | (simp; omega))) ?_) | (unfold Act.put; simp only [List.setIfInBounds_toArray, List.set_cons_zero, List.set_cons_succ]))
              clear x0 x1 x2 x3 x4 x5
              refine (HCL.out _ HX.out).mono ?_
              rintro e wn ⟨rfl, hbn⟩
              have HXN := Lib.hid (HX.out.trans (hbn.mono HX.out.size))
              clear hbn HX
              have HX := HXN
              clear HXN
              go_wp2_with (first
                | (refine plan_pure (v := _) (by rfl) (by rfl) (by rfl) (by intro _; go_simp; with_reducible rfl) ?_; simp only [List.setIfInBounds_toArray, List.set_cons_zero, List.set_cons_succ]; try go_bits) | (refine plan_read (v := _) (by rfl) (by rfl) (by rfl) (by go_simp; with_reducible rfl) ?_; simp only [List.setIfInBounds_toArray, List.set_cons_zero, List.set_cons_succ]; try go_bits) | (refine plan_readB (v := _) (by rfl) (by rfl) (by rfl) (by intro _ hag; unfold Agree at hag; go_simp; with_reducible rfl) ?_; simp only [List.setIfInBounds_toArray, List.set_cons_zero, List.set_cons_succ]; try go_bits) | (refine plan_skip0 (by rfl) (by rfl) (by rfl) ?_; simp only [List.setIfInBounds_toArray, List.set_cons_zero, List.set_cons_succ]; try go_bits) | (refine plan_skip1 (by rfl) (by rfl) (by rfl) ?_; simp only [List.setIfInBounds_toArray, List.set_cons_zero, List.set_cons_succ]; try go_bits) | (refine plan_skip2 (by rfl) (by rfl) (by rfl) ?_; simp only [List.setIfInBounds_toArray, List.set_cons_zero, List.set_cons_succ]; try go_bits) | (refine plan_skip4 (by rfl) (by rfl) (by rfl) ?_; simp only [List.setIfInBounds_toArray, List.set_cons_zero, List.set_cons_succ]; try go_bits) | (refine plan_any (by rfl) ?_) | (refine plan_keep (by rfl) ?_) | (refine plan_nil ?_) | (with_reducible refine And.intro (by first | assumption | exact Agree.refl _ _ | exact agree_drew _ _ | exact agree_alloc _ (by intro k hk; subst hk; first | omega | (simp; omega))) ?_) | (unfold Act.put; simp only [List.setIfInBounds_toArray, List.set_cons_zero, List.set_cons_succ]))
              refine (HAW.out _ HX.out).mono ?_
              rintro e w9 ⟨rfl, hb9⟩
              have HB9 := Lib.hid (HX.out.trans (hb9.mono HX.out.size))
              clear hb9
              go_wp2_with (first
                | (refine plan_pure (v := _) (by rfl) (by rfl) (by rfl) (by intro _; go_simp; with_reducible rfl) ?_; simp only [List.setIfInBounds_toArray, List.set_cons_zero, List.set_cons_succ]; try go_bits) | (refine plan_read (v := _) (by rfl) (by rfl) (by rfl) (by go_simp; with_reducible rfl) ?_; simp only [List.setIfInBounds_toArray, List.set_cons_zero, List.set_cons_succ]; try go_bits) | (refine plan_readB (v := _) (by rfl) (by rfl) (by rfl) (by intro _ hag; unfold Agree at hag; go_simp; with_reducible rfl) ?_; simp only [List.setIfInBounds_toArray, List.set_cons_zero, List.set_cons_succ]; try go_bits) | (refine plan_skip0 (by rfl) (by rfl) (by rfl) ?_; simp only [List.setIfInBounds_toArray, List.set_cons_zero, List.set_cons_succ]; try go_bits) | (refine plan_skip1 (by rfl) (by rfl) (by rfl) ?_; simp only [List.setIfInBounds_toArray, List.set_cons_zero, List.set_cons_succ]; try go_bits) | (refine plan_skip2 (by rfl) (by rfl) (by rfl) ?_; simp only [List.setIfInBounds_toArray, List.set_cons_zero, List.set_cons_succ]; try go_bits) | (refine plan_skip4 (by rfl) (by rfl) (by rfl) ?_; simp only [List.setIfInBounds_toArray, List.set_cons_zero, List.set_cons_succ]; try go_bits) | (refine plan_any (by rfl) ?_) | (refine plan_keep (by rfl) ?_) | (refine plan_nil ?_) | (with_reducible refine And.intro (by first | assumption | exact Agree.refl _ _ | exact agree_drew _ _ | exact agree_alloc _ (by intro k hk; subst hk; first | omega | (simp; omega))) ?_) | (unfold Act.put; simp only [List.setIfInBounds_toArray, List.set_cons_zero, List.set_cons_succ]))
              go_ret
              exact ⟨rfl, HB0.out.trans (HB9.out.mono HB0.out.size)⟩
        · go_upto_region 17 with fail
          clear z0 z1 z2 z3 z4 z5
          have HXN := Lib.hid (HB5.out.trans (HX.out.mono HB5.out.size))
          clear HX
          have HX := HXN
          clear HXN
          obtain ⟨x0, x1, x2, x3, x4, x5⟩ := sch_cells (HK1.out.below HX.out)
          go_wp2_with fail
          clear x0 x1 x2 x3 x4 x5
          refine (HZ.out _ HX.out).mono ?_
          clear HZ
          rintro e wz ⟨out, rfl, hout, hbn⟩
          obtain ⟨po, co, rfl, _, _⟩ := hout.form
          have HOUT := Lib.hid hout
          have HXN := Lib.hid (HX.out.trans (hbn.mono HX.out.size))
          clear hbn HX hout
          have HX := HXN
          clear HXN
          rw [HLN.out]
          have hln : ((s.cols.length : Int) != (s.cols.length : Int)) = false := by simp
          obtain ⟨x0, x1, x2, x3, x4, x5⟩ := sch_cells (HK1.out.below HX.out)
          go_wp2_with fail
          clear x0 x1 x2 x3 x4 x5
          refine (HRR.out _ HX.out).mono ?_
          rintro e wn2 ⟨rfl, hbn⟩
          have HOUT2 := Lib.hid (HOUT.out.below hbn)
          have HXN := Lib.hid (HX.out.trans (hbn.mono HX.out.size))
          clear hbn HX HOUT
          have HX := HXN
          clear HXN
          rw [HLN.out] at HOUT2
          have HRF2 := Lib.hid (fun W (hb : Below w2.heap.size w2 W) (hv : Sl W (fun _ => True) 3 (.slice po s.cols.length co) (s.cols.map zeroC).length (rowCells (s.cols.map zeroC))) => HRF.out W hb _ hv)
          clear HRF
          rcases Bool.eq_false_or_eq_true (rightS s) with hrt | hrt
          · have HFT := Lib.hid (HZF.out hrt)
            rw [hrt] at HRR HSR ⊢
            rw [HFT.out] at HRF2
            clear HZF HFT
            obtain ⟨x0, x1, x2, x3, x4, x5⟩ := sch_cells (HK1.out.below HX.out)
            go_wp2_with fail
            clear x0 x1 x2 x3 x4 x5 hln
            refine (HRF2.out _ HX.out (by rw [HLN.out]; exact HOUT2.out)).mono ?_
            rintro e wn ⟨rfl, hbn⟩
            have HXN := Lib.hid (HX.out.trans (hbn.mono HX.out.size))
            clear hbn HX
            have HX := HXN
            clear HXN
            obtain ⟨x0, x1, x2, x3, x4, x5⟩ := sch_cells (HK1.out.below HX.out)
            go_upto_region 20 with fail
            have HXN := Lib.hid HX.out.drew
            clear HX
            have HX := HXN
            clear HXN
            refine wp_region_lit_plan [] [(0, 1), (2, 2), (1, 3), (3, 4), (4, 0), (5, 0), (6, 0), (9, 0), (7, 4), (8, 4), (10, 4), (11, 0), (12, 0), (13, 0), (14, 0), (17, 0), (15, 4), (16, 4), (18, 4), (19, 0), (20, 0), (21, 0), (23, 0), (25, 0), (22, 1), (24, 4), (26, 0), (27, 0), (28, 0), (29, 4), (30, 0), (31, 0)] (fun q => q = w.heap.size) (by kernel_rfl) (by kernel_rfl) (fun c a d v w h => by cases d <;> exact h) ?_
            go_wp2_with (first
              | (refine plan_pure (v := _) (by rfl) (by rfl) (by rfl) (by intro _; go_simp; with_reducible rfl) ?_; simp only [List.setIfInBounds_toArray, List.set_cons_zero, List.set_cons_succ]; try go_bits) | (refine plan_read (v := _) (by rfl) (by rfl) (by rfl) (by go_simp; with_reducible rfl) ?_; simp only [List.setIfInBounds_toArray, List.set_cons_zero, List.set_cons_succ]; try go_bits) | (refine plan_readB (v := _) (by rfl) (by rfl) (by rfl) (by intro _ hag; unfold Agree at hag; go_simp; with_reducible rfl) ?_; simp only [List.setIfInBounds_toArray, List.set_cons_zero, List.set_cons_succ]; try go_bits) | (refine plan_skip0 (by rfl) (by rfl) (by rfl) ?_; simp only [List.setIfInBounds_toArray, List.set_cons_zero, List.set_cons_succ]; try go_bits) | (refine plan_skip1 (by rfl) (by rfl) (by rfl) ?_; simp only [List.setIfInBounds_toArray, List.set_cons_zero, List.set_cons_succ]; try go_bits) | (refine plan_skip2 (by rfl) (by rfl) (by rfl) ?_; simp only [List.setIfInBounds_toArray, List.set_cons_zero, List.set_cons_succ]; try go_bits) | (refine plan_skip4 (by rfl) (by rfl) (by rfl) ?_; simp only [List.setIfInBounds_toArray, List.set_cons_zero, List.set_cons_succ]; try go_bits) | (refine plan_any (by rfl) ?_) | (refine plan_keep (by rfl) ?_) | (refine plan_nil ?_) | (with_reducible refine And.intro (by first | assumption | exact Agree.refl _ _ | exact agree_drew _ _ | exact agree_alloc _ (by intro k hk; subst hk; first | omega | (simp; omega))) ?_) | (unfold Act.put; simp only [List.setIfInBounds_toArray, List.set_cons_zero, List.set_cons_succ]))
            clear x0 x1 x2 x3 x4 x5
            refine (HSR.out _ HX.out).mono ?_
            rintro e wn ⟨rfl, hbn⟩
            have hagn := HAG.out _ _ HX.out hbn
            have HXN := Lib.hid (HX.out.trans (hbn.mono HX.out.size))
            clear hbn HX
            have HX := HXN
            clear HXN
            obtain ⟨x0, x1, x2, x3, x4, x5⟩ := sch_cells (HK1.out.below HX.out)
            go_wp2_with (first
              | (refine plan_pure (v := _) (by rfl) (by rfl) (by rfl) (by intro _; go_simp; with_reducible rfl) ?_; simp only [List.setIfInBounds_toArray, List.set_cons_zero, List.set_cons_succ]; try go_bits) | (refine plan_read (v := _) (by rfl) (by rfl) (by rfl) (by go_simp; with_reducible rfl) ?_; simp only [List.setIfInBounds_toArray, List.set_cons_zero, List.set_cons_succ]; try go_bits) | (refine plan_readB (v := _) (by rfl) (by rfl) (by rfl) (by intro _ hag; unfold Agree at hag; go_simp; with_reducible rfl) ?_; simp only [List.setIfInBounds_toArray, List.set_cons_zero, List.set_cons_succ]; try go_bits) | (refine plan_skip0 (by rfl) (by rfl) (by rfl) ?_; simp only [List.setIfInBounds_toArray, List.set_cons_zero, List.set_cons_succ]; try go_bits) | (refine plan_skip1 (by rfl) (by rfl) (by rfl) ?_; simp only [List.setIfInBounds_toArray, List.set_cons_zero, List.set_cons_succ]; try go_bits) | (refine plan_skip2 (by rfl) (by rfl) (by rfl) ?_; simp only [List.setIfInBounds_toArray, List.set_cons_zero, List.set_cons_succ]; try go_bits) | (refine plan_skip4 (by rfl) (by rfl) (by rfl) ?_; simp only [List.setIfInBounds_toArray, List.set_cons_zero, List.set_cons_succ]; try go_bits) | (refine plan_any (by rfl) ?_) | (refine plan_keep (by rfl) ?_) | (refine plan_nil ?_) | (with_reducible refine And.intro (by first | assumption | exact Agree.refl _ _ | exact agree_drew _ _ | exact agree_alloc _ (by intro k hk; subst hk; first | omega | (simp; omega))) ?_) | (unfold Act.put; simp only [List.setIfInBounds_toArray, List.set_cons_zero, List.set_cons_succ]))
            clear x0 x1 x2 x3 x4 x5
            refine (HRR.out _ HX.out).mono ?_
            rintro e wn ⟨rfl, hbn⟩
            have HXN := Lib.hid (HX.out.trans (hbn.mono HX.out.size))
            clear hbn HX
            have HX := HXN
            clear HXN
            go_wp2_with (first
              | (refine plan_pure (v := _) (by rfl) (by rfl) (by rfl) (by intro _; go_simp; with_reducible rfl) ?_; simp only [List.setIfInBounds_toArray, List.set_cons_zero, List.set_cons_succ]; try go_bits) | (refine plan_read (v := _) (by rfl) (by rfl) (by rfl) (by go_simp; with_reducible rfl) ?_; simp only [List.setIfInBounds_toArray, List.set_cons_zero, List.set_cons_succ]; try go_bits) | (refine plan_readB (v := _) (by rfl) (by rfl) (by rfl) (by intro _ hag; unfold Agree at hag; go_simp; with_reducible rfl) ?_; simp only [List.setIfInBounds_toArray, List.set_cons_zero, List.set_cons_succ]; try go_bits) | (refine plan_skip0 (by rfl) (by rfl) (by rfl) ?_; simp only [List.setIfInBounds_toArray, List.set_cons_zero, List.set_cons_succ]; try go_bits) | (refine plan_skip1 (by rfl) (by rfl) (by rfl) ?_; simp only [List.setIfInBounds_toArray, List.set_cons_zero, List.set_cons_succ]; try go_bits) | (refine plan_skip2 (by rfl) (by rfl) (by rfl) ?_; simp only [List.setIfInBounds_toArray, List.set_cons_zero, List.set_cons_succ]; try go_bits) | (refine plan_skip4 (by rfl) (by rfl) (by rfl) ?_; simp only [List.setIfInBounds_toArray, List.set_cons_zero, List.set_cons_succ]; try go_bits) | (refine plan_any (by rfl) ?_) | (refine plan_keep (by rfl) ?_) | (refine plan_nil ?_) | (with_reducible refine And.intro (by first | assumption | exact Agree.refl _ _ | exact agree_drew _ _ | exact agree_alloc _ (by intro k hk; subst hk; first | omega | (simp; omega))) ?_) | (unfold Act.put; simp only [List.setIfInBounds_toArray, List.set_cons_zero, List.set_cons_succ]))
            refine (HN1.out _).mono ?_
            rintro e wa ⟨rfl, hbn⟩
            have HXN := Lib.hid (HX.out.trans (hbn.mono HX.out.size))
            clear hbn HX
            have HX := HXN
            clear HXN
            go_wp2_with (first
              | (refine plan_pure (v := _) (by rfl) (by rfl) (by rfl) (by intro _; go_simp; with_reducible rfl) ?_; simp only [List.setIfInBounds_toArray, List.set_cons_zero, List.set_cons_succ]; try go_bits) | (refine plan_read (v := _) (by rfl) (by rfl) (by rfl) (by go_simp; with_reducible rfl) ?_; simp only [List.setIfInBounds_toArray, List.set_cons_zero, List.set_cons_succ]; try go_bits) | (refine plan_readB (v := _) (by rfl) (by rfl) (by rfl) (by intro _ hag; unfold Agree at hag; go_simp; with_reducible rfl) ?_; simp only [List.setIfInBounds_toArray, List.set_cons_zero, List.set_cons_succ]; try go_bits) | (refine plan_skip0 (by rfl) (by rfl) (by rfl) ?_; simp only [List.setIfInBounds_toArray, List.set_cons_zero, List.set_cons_succ]; try go_bits) | (refine plan_skip1 (by rfl) (by rfl) (by rfl) ?_; simp only [List.setIfInBounds_toArray, List.set_cons_zero, List.set_cons_succ]; try go_bits) | (refine plan_skip2 (by rfl) (by rfl) (by rfl) ?_; simp only [List.setIfInBounds_toArray, List.set_cons_zero, List.set_cons_succ]; try go_bits) | (refine plan_skip4 (by rfl) (by rfl) (by rfl) ?_; simp only [List.setIfInBounds_toArray, List.set_cons_zero, List.set_cons_succ]; try go_bits) | (refine plan_any (by rfl) ?_) | (refine plan_keep (by rfl) ?_) | (refine plan_nil ?_) | (with_reducible refine And.intro (by first | assumption | exact Agree.refl _ _ | exact agree_drew _ _ | exact agree_alloc _ (by intro k hk; subst hk; first | omega | (simp; omega))) ?_) | (unfold Act.put; simp only [List.setIfInBounds_toArray, List.set_cons_zero, List.set_cons_succ]))
            refine (HRN.out _).mono ?_
            rintro e wa ⟨rfl, rfl⟩
            go_wp2_with (first
              | (refine plan_pure (v := _) (by rfl) (by rfl) (by rfl) (by intro _; go_simp; with_reducible rfl) ?_; simp only [List.setIfInBounds_toArray, List.set_cons_zero, List.set_cons_succ]; try go_bits) | (refine plan_read (v := _) (by rfl) (by rfl) (by rfl) (by go_simp; with_reducible rfl) ?_; simp only [List.setIfInBounds_toArray, List.set_cons_zero, List.set_cons_succ]; try go_bits) | (refine plan_readB (v := _) (by rfl) (by rfl) (by rfl) (by intro _ hag; unfold Agree at hag; go_simp; with_reducible rfl) ?_; simp only [List.setIfInBounds_toArray, List.set_cons_zero, List.set_cons_succ]; try go_bits) | (refine plan_skip0 (by rfl) (by rfl) (by rfl) ?_; simp only [List.setIfInBounds_toArray, List.set_cons_zero, List.set_cons_succ]; try go_bits) | (refine plan_skip1 (by rfl) (by rfl) (by rfl) ?_; simp only [List.setIfInBounds_toArray, List.set_cons_zero, List.set_cons_succ]; try go_bits) | (refine plan_skip2 (by rfl) (by rfl) (by rfl) ?_; simp only [List.setIfInBounds_toArray, List.set_cons_zero, List.set_cons_succ]; try go_bits) | (refine plan_skip4 (by rfl) (by rfl) (by rfl) ?_; simp only [List.setIfInBounds_toArray, List.set_cons_zero, List.set_cons_succ]; try go_bits) | (refine plan_any (by rfl) ?_) | (refine plan_keep (by rfl) ?_) | (refine plan_nil ?_) | (with_reducible refine And.intro (by first | assumption | exact Agree.refl _ _ | exact agree_drew _ _ | exact agree_alloc _ (by intro k hk; subst hk; first | omega | (simp; omega))) ?_) | (unfold Act.put; simp only [List.setIfInBounds_toArray, List.set_cons_zero, List.set_cons_succ]))
            refine (HN2.out _).mono ?_
            rintro e wb ⟨rfl, hbn⟩
            have HXN := Lib.hid (HX.out.trans (hbn.mono HX.out.size))
            clear hbn HX
            have HX := HXN
            clear HXN
            go_wp2_with (first
              | (refine plan_pure (v := _) (by rfl) (by rfl) (by rfl) (by intro _; go_simp; with_reducible rfl) ?_; simp only [List.setIfInBounds_toArray, List.set_cons_zero, List.set_cons_succ]; try go_bits) | (refine plan_read (v := _) (by rfl) (by rfl) (by rfl) (by go_simp; with_reducible rfl) ?_; simp only [List.setIfInBounds_toArray, List.set_cons_zero, List.set_cons_succ]; try go_bits) | (refine plan_readB (v := _) (by rfl) (by rfl) (by rfl) (by intro _ hag; unfold Agree at hag; go_simp; with_reducible rfl) ?_; simp only [List.setIfInBounds_toArray, List.set_cons_zero, List.set_cons_succ]; try go_bits) | (refine plan_skip0 (by rfl) (by rfl) (by rfl) ?_; simp only [List.setIfInBounds_toArray, List.set_cons_zero, List.set_cons_succ]; try go_bits) | (refine plan_skip1 (by rfl) (by rfl) (by rfl) ?_; simp only [List.setIfInBounds_toArray, List.set_cons_zero, List.set_cons_succ]; try go_bits) | (refine plan_skip2 (by rfl) (by rfl) (by rfl) ?_; simp only [List.setIfInBounds_toArray, List.set_cons_zero, List.set_cons_succ]; try go_bits) | (refine plan_skip4 (by rfl) (by rfl) (by rfl) ?_; simp only [List.setIfInBounds_toArray, List.set_cons_zero, List.set_cons_succ]; try go_bits) | (refine plan_any (by rfl) ?_) | (refine plan_keep (by rfl) ?_) | (refine plan_nil ?_) | (with_reducible refine And.intro (by first | assumption | exact Agree.refl _ _ | exact agree_drew _ _ | exact agree_alloc _ (by intro k hk; subst hk; first | omega | (simp; omega))) ?_) | (unfold Act.put; simp only [List.setIfInBounds_toArray, List.set_cons_zero, List.set_cons_succ]))
            refine (HRN.out _).mono ?_
            rintro e wb ⟨rfl, rfl⟩
            obtain ⟨x0, x1, x2, x3, x4, x5⟩ := sch_cells (HK1.out.below HX.out)
            go_wp2_with (first
              | (refine plan_pure (v := _) (by rfl) (by rfl) (by rfl) (by intro _; go_simp; with_reducible rfl) ?_; simp only [List.setIfInBounds_toArray, List.set_cons_zero, List.set_cons_succ]; try go_bits) | (refine plan_read (v := _) (by rfl) (by rfl) (by rfl) (by go_simp; with_reducible rfl) ?_; simp only [List.setIfInBounds_toArray, List.set_cons_zero, List.set_cons_succ]; try go_bits) | (refine plan_readB (v := _) (by rfl) (by rfl) (by rfl) (by intro _ hag; unfold Agree at hag; go_simp; with_reducible rfl) ?_; simp only [List.setIfInBounds_toArray, List.set_cons_zero, List.set_cons_succ]; try go_bits) | (refine plan_skip0 (by rfl) (by rfl) (by rfl) ?_; simp only [List.setIfInBounds_toArray, List.set_cons_zero, List.set_cons_succ]; try go_bits) | (refine plan_skip1 (by rfl) (by rfl) (by rfl) ?_; simp only [List.setIfInBounds_toArray, List.set_cons_zero, List.set_cons_succ]; try go_bits) | (refine plan_skip2 (by rfl) (by rfl) (by rfl) ?_; simp only [List.setIfInBounds_toArray, List.set_cons_zero, List.set_cons_succ]; try go_bits) | (refine plan_skip4 (by rfl) (by rfl) (by rfl) ?_; simp only [List.setIfInBounds_toArray, List.set_cons_zero, List.set_cons_succ]; try go_bits) | (refine plan_any (by rfl) ?_) | (refine plan_keep (by rfl) ?_) | (refine plan_nil ?_) | (with_reducible refine And.intro (by first | assumption | exact Agree.refl _ _ | exact agree_drew _ _ | exact agree_alloc _ (by intro k hk; subst hk; first | omega | (simp; omega))) ?_) | (unfold Act.put; simp only [List.setIfInBounds_toArray, List.set_cons_zero, List.set_cons_succ]))
            clear x0 x1 x2 x3 x4 x5
            refine (HCL.out _ HX.out).mono ?_
            rintro e wn ⟨rfl, hbn⟩
            have HXN := Lib.hid (HX.out.trans (hbn.mono HX.out.size))
            clear hbn HX
            have HX := HXN
            clear HXN
            go_wp2_with (first
              | (refine plan_pure (v := _) (by rfl) (by rfl) (by rfl) (by intro _; go_simp; with_reducible rfl) ?_; simp only [List.setIfInBounds_toArray, List.set_cons_zero, List.set_cons_succ]; try go_bits) | (refine plan_read (v := _) (by rfl) (by rfl) (by rfl) (by go_simp; with_reducible rfl) ?_; simp only [List.setIfInBounds_toArray, List.set_cons_zero, List.set_cons_succ]; try go_bits) | (refine plan_readB (v := _) (by rfl) (by rfl) (by rfl) (by intro _ hag; unfold Agree at hag; go_simp; with_reducible rfl) ?_; simp only [List.setIfInBounds_toArray, List.set_cons_zero, List.set_cons_succ]; try go_bits) | (refine plan_skip0 (by rfl) (by rfl) (by rfl) ?_; simp only [List.setIfInBounds_toArray, List.set_cons_zero, List.set_cons_succ]; try go_bits) | (refine plan_skip1 (by rfl) (by rfl) (by rfl) ?_; simp only [List.setIfInBounds_toArray, List.set_cons_zero, List.set_cons_succ]; try go_bits) | (refine plan_skip2 (by rfl) (by rfl) (by rfl) ?_; simp only [List.setIfInBounds_toArray, List.set_cons_zero, List.set_cons_succ]; try go_bits) | (refine plan_skip4 (by rfl) (by rfl) (by rfl) ?_; simp only [List.setIfInBounds_toArray, List.set_cons_zero, List.set_cons_succ]; try go_bits) | (refine plan_any (by rfl) ?_) | (refine plan_keep (by rfl) ?_) | (refine plan_nil ?_) | (with_reducible refine And.intro (by first | assumption | exact Agree.refl _ _ | exact agree_drew _ _ | exact agree_alloc _ (by intro k hk; subst hk; first | omega | (simp; omega))) ?_) | (unfold Act.put; simp only [List.setIfInBounds_toArray, List.set_cons_zero, List.set_cons_succ]))
            refine (HAW.out _ HX.out).mono ?_
            rintro e w9 ⟨rfl, hb9⟩
            have HB9 := Lib.hid (HX.out.trans (hb9.mono HX.out.size))
            clear hb9
            go_wp2_with (first
              | (refine plan_pure (v := _) (by rfl) (by rfl) (by rfl) (by intro _; go_simp; with_reducible rfl) ?_; simp only [List.setIfInBounds_toArray, List.set_cons_zero, List.set_cons_succ]; try go_bits) | (refine plan_read (v := _) (by rfl) (by rfl) (by rfl) (by go_simp; with_reducible rfl) ?_; simp only [List.setIfInBounds_toArray, List.set_cons_zero, List.set_cons_succ]; try go_bits) | (refine plan_readB (v := _) (by rfl) (by rfl) (by rfl) (by intro _ hag; unfold Agree at hag; go_simp; with_reducible rfl) ?_; simp only [List.setIfInBounds_toArray, List.set_cons_zero, List.set_cons_succ]; try go_bits) | (refine plan_skip0 (by rfl) (by rfl) (by rfl) ?_; simp only [List.setIfInBounds_toArray, List.set_cons_zero, List.set_cons_succ]; try go_bits) | (refine plan_skip1 (by rfl) (by rfl) (by rfl) ?_; simp only [List.setIfInBounds_toArray, List.set_cons_zero, List.set_cons_succ]; try go_bits) | (refine plan_skip2 (by rfl) (by rfl) (by rfl) ?_; simp only [List.setIfInBounds_toArray, List.set_cons_zero, List.set_cons_succ]; try go_bits) | (refine plan_skip4 (by rfl) (by rfl) (by rfl) ?_; simp only [List.setIfInBounds_toArray, List.set_cons_zero, List.set_cons_succ]; try go_bits) | (refine plan_any (by rfl) ?_) | (refine plan_keep (by rfl) ?_) | (refine plan_nil ?_) | (with_reducible refine And.intro (by first | assumption | exact Agree.refl _ _ | exact agree_drew _ _ | exact agree_alloc _ (by intro k hk; subst hk; first | omega | (simp; omega))) ?_) | (unfold Act.put; simp only [List.setIfInBounds_toArray, List.set_cons_zero, List.set_cons_succ]))
            go_ret
            exact ⟨rfl, HB0.out.trans (HB9.out.mono HB0.out.size)⟩
          · rw [hrt] at HRR HSR ⊢
            clear HZF HRF2
            obtain ⟨x0, x1, x2, x3, x4, x5⟩ := sch_cells (HK1.out.below HX.out)
            go_upto_region 20 with fail
            have HXN := Lib.hid HX.out.drew
            clear HX
            have HX := HXN
            clear HXN
            refine wp_region_lit_plan [] [(0, 1), (2, 2), (1, 3), (3, 4), (4, 0), (5, 0), (6, 0), (9, 0), (7, 4), (8, 4), (10, 4), (11, 0), (12, 0), (13, 0), (14, 0), (17, 0), (15, 4), (16, 4), (18, 4), (19, 0), (20, 0), (21, 0), (23, 0), (25, 0), (22, 1), (24, 4), (26, 0), (27, 0), (28, 0), (29, 4), (30, 0), (31, 0)] (fun q => q = w.heap.size) (by kernel_rfl) (by kernel_rfl) (fun c a d v w h => by cases d <;> exact h) ?_
            go_wp2_with (first
              | (refine plan_pure (v := _) (by rfl) (by rfl) (by rfl) (by intro _; go_simp; with_reducible rfl) ?_; simp only [List.setIfInBounds_toArray, List.set_cons_zero, List.set_cons_succ]; try go_bits) | (refine plan_read (v := _) (by rfl) (by rfl) (by rfl) (by go_simp; with_reducible rfl) ?_; simp only [List.setIfInBounds_toArray, List.set_cons_zero, List.set_cons_succ]; try go_bits) | (refine plan_readB (v := _) (by rfl) (by rfl) (by rfl) (by intro _ hag; unfold Agree at hag; go_simp; with_reducible rfl) ?_; simp only [List.setIfInBounds_toArray, List.set_cons_zero, List.set_cons_succ]; try go_bits) | (refine plan_skip0 (by rfl) (by rfl) (by rfl) ?_; simp only [List.setIfInBounds_toArray, List.set_cons_zero, List.set_cons_succ]; try go_bits) | (refine plan_skip1 (by rfl) (by rfl) (by rfl) ?_; simp only [List.setIfInBounds_toArray, List.set_cons_zero, List.set_cons_succ]; try go_bits) | (refine plan_skip2 (by rfl) (by rfl) (by rfl) ?_; simp only [List.setIfInBounds_toArray, List.set_cons_zero, List.set_cons_succ]; try go_bits) | (refine plan_skip4 (by rfl) (by rfl) (by rfl) ?_; simp only [List.setIfInBounds_toArray, List.set_cons_zero, List.set_cons_succ]; try go_bits) | (refine plan_any (by rfl) ?_) | (refine plan_keep (by rfl) ?_) | (refine plan_nil ?_) | (with_reducible refine And.intro (by first | assumption | exact Agree.refl _ _ | exact agree_drew _ _ | exact agree_alloc _ (by intro k hk; subst hk; first | omega | (simp; omega))) ?_) | (unfold Act.put; simp only [List.setIfInBounds_toArray, List.set_cons_zero, List.set_cons_succ]))
            clear x0 x1 x2 x3 x4 x5
            refine (HSR.out _ HX.out).mono ?_
            rintro e wn ⟨rfl, hbn⟩
            have hagn := HAG.out _ _ HX.out hbn
            have HXN := Lib.hid (HX.out.trans (hbn.mono HX.out.size))
            clear hbn HX
            have HX := HXN
            clear HXN
            obtain ⟨x0, x1, x2, x3, x4, x5⟩ := sch_cells (HK1.out.below HX.out)
            go_wp2_with (first
              | (refine plan_pure (v := _) (by rfl) (by rfl) (by rfl) (by intro _; go_simp; with_reducible rfl) ?_; simp only [List.setIfInBounds_toArray, List.set_cons_zero, List.set_cons_succ]; try go_bits) | (refine plan_read (v := _) (by rfl) (by rfl) (by rfl) (by go_simp; with_reducible rfl) ?_; simp only [List.setIfInBounds_toArray, List.set_cons_zero, List.set_cons_succ]; try go_bits) | (refine plan_readB (v := _) (by rfl) (by rfl) (by rfl) (by intro _ hag; unfold Agree at hag; go_simp; with_reducible rfl) ?_; simp only [List.setIfInBounds_toArray, List.set_cons_zero, List.set_cons_succ]; try go_bits) | (refine plan_skip0 (by rfl) (by rfl) (by rfl) ?_; simp only [List.setIfInBounds_toArray, List.set_cons_zero, List.set_cons_succ]; try go_bits) | (refine plan_skip1 (by rfl) (by rfl) (by rfl) ?_; simp only [List.setIfInBounds_toArray, List.set_cons_zero, List.set_cons_succ]; try go_bits) | (refine plan_skip2 (by rfl) (by rfl) (by rfl) ?_; simp only [List.setIfInBounds_toArray, List.set_cons_zero, List.set_cons_succ]; try go_bits) | (refine plan_skip4 (by rfl) (by rfl) (by rfl) ?_; simp only [List.setIfInBounds_toArray, List.set_cons_zero, List.set_cons_succ]; try go_bits) | (refine plan_any (by rfl) ?_) | (refine plan_keep (by rfl) ?_) | (refine plan_nil ?_) | (with_reducible refine And.intro (by first | assumption | exact Agree.refl _ _ | exact agree_drew _ _ | exact agree_alloc _ (by intro k hk; subst hk; first | omega | (simp; omega))) ?_) | (unfold Act.put; simp only [List.setIfInBounds_toArray, List.set_cons_zero, List.set_cons_succ]))
            clear x0 x1 x2 x3 x4 x5
            refine (HRR.out _ HX.out).mono ?_
            rintro e wn ⟨rfl, hbn⟩
            have HXN := Lib.hid (HX.out.trans (hbn.mono HX.out.size))
            clear hbn HX
            have HX := HXN
            clear HXN
            go_wp2_with (first
              | (refine plan_pure (v := _) (by rfl) (by rfl) (by rfl) (by intro _; go_simp; with_reducible rfl) ?_; simp only [List.setIfInBounds_toArray, List.set_cons_zero, List.set_cons_succ]; try go_bits) | (refine plan_read (v := _) (by rfl) (by rfl) (by rfl) (by go_simp; with_reducible rfl) ?_; simp only [List.setIfInBounds_toArray, List.set_cons_zero, List.set_cons_succ]; try go_bits) | (refine plan_readB (v := _) (by rfl) (by rfl) (by rfl) (by intro _ hag; unfold Agree at hag; go_simp; with_reducible rfl) ?_; simp only [List.setIfInBounds_toArray, List.set_cons_zero, List.set_cons_succ]; try go_bits) | (refine plan_skip0 (by rfl) (by rfl) (by rfl) ?_; simp only [List.setIfInBounds_toArray, List.set_cons_zero, List.set_cons_succ]; try go_bits) | (refine plan_skip1 (by rfl) (by rfl) (by rfl) ?_; simp only [List.setIfInBounds_toArray, List.set_cons_zero, List.set_cons_succ]; try go_bits) | (refine plan_skip2 (by rfl) (by rfl) (by rfl) ?_; simp only [List.setIfInBounds_toArray, List.set_cons_zero, List.set_cons_succ]; try go_bits) | (refine plan_skip4 (by rfl) (by rfl) (by rfl) ?_; simp only [List.setIfInBounds_toArray, List.set_cons_zero, List.set_cons_succ]; try go_bits) | (refine plan_any (by rfl) ?_) | (refine plan_keep (by rfl) ?_) | (refine plan_nil ?_) | (with_reducible refine And.intro (by first | assumption | exact Agree.refl _ _ | exact agree_drew _ _ | exact agree_alloc _ (by intro k hk; subst hk; first | omega | (simp; omega))) ?_) | (unfold Act.put; simp only [List.setIfInBounds_toArray, List.set_cons_zero, List.set_cons_succ]))
            refine (HN1.out _).mono ?_
            rintro e wa ⟨rfl, hbn⟩
            have HXN := Lib.hid (HX.out.trans (hbn.mono HX.out.size))
            clear hbn HX
            have HX := HXN
            clear HXN
            go_wp2_with (first
              | (refine plan_pure (v := _) (by rfl) (by rfl) (by rfl) (by intro _; go_simp; with_reducible rfl) ?_; simp only [List.setIfInBounds_toArray, List.set_cons_zero, List.set_cons_succ]; try go_bits) | (refine plan_read (v := _) (by rfl) (by rfl) (by rfl) (by go_simp; with_reducible rfl) ?_; simp only [List.setIfInBounds_toArray, List.set_cons_zero, List.set_cons_succ]; try go_bits) | (refine plan_readB (v := _) (by rfl) (by rfl) (by rfl) (by intro _ hag; unfold Agree at hag; go_simp; with_reducible rfl) ?_; simp only [List.setIfInBounds_toArray, List.set_cons_zero, List.set_cons_succ]; try go_bits) | (refine plan_skip0 (by rfl) (by rfl) (by rfl) ?_; simp only [List.setIfInBounds_toArray, List.set_cons_zero, List.set_cons_succ]; try go_bits) | (refine plan_skip1 (by rfl) (by rfl) (by rfl) ?_; simp only [List.setIfInBounds_toArray, List.set_cons_zero, List.set_cons_succ]; try go_bits) | (refine plan_skip2 (by rfl) (by rfl) (by rfl) ?_; simp only [List.setIfInBounds_toArray, List.set_cons_zero, List.set_cons_succ]; try go_bits) | (refine plan_skip4 (by rfl) (by rfl) (by rfl) ?_; simp only [List.setIfInBounds_toArray, List.set_cons_zero, List.set_cons_succ]; try go_bits) | (refine plan_any (by rfl) ?_) | (refine plan_keep (by rfl) ?_) | (refine plan_nil ?_) | (with_reducible refine And.intro (by first | assumption | exact Agree.refl _ _ | exact agree_drew _ _ | exact agree_alloc _ (by intro k hk; subst hk; first | omega | (simp; omega))) ?_) | (unfold Act.put; simp only [List.setIfInBounds_toArray, List.set_cons_zero, List.set_cons_succ]))
            refine (HRN.out _).mono ?_
            rintro e wa ⟨rfl, rfl⟩
            go_wp2_with (first
              | (refine plan_pure (v := _) (by rfl) (by rfl) (by rfl) (by intro _; go_simp; with_reducible rfl) ?_; simp only [List.setIfInBounds_toArray, List.set_cons_zero, List.set_cons_succ]; try go_bits) | (refine plan_read (v := _) (by rfl) (by rfl) (by rfl) (by go_simp; with_reducible rfl) ?_; simp only [List.setIfInBounds_toArray, List.set_cons_zero, List.set_cons_succ]; try go_bits) | (refine plan_readB (v := _) (by rfl) (by rfl) (by rfl) (by intro _ hag; unfold Agree at hag; go_simp; with_reducible rfl) ?_; simp only [List.setIfInBounds_toArray, List.set_cons_zero, List.set_cons_succ]; try go_bits) | (refine plan_skip0 (by rfl) (by rfl) (by rfl) ?_; simp only [List.setIfInBounds_toArray, List.set_cons_zero, List.set_cons_succ]; try go_bits) | (refine plan_skip1 (by rfl) (by rfl) (by rfl) ?_; simp only [List.setIfInBounds_toArray, List.set_cons_zero, List.set_cons_succ]; try go_bits) | (refine plan_skip2 (by rfl) (by rfl) (by rfl) ?_; simp only [List.setIfInBounds_toArray, List.set_cons_zero, List.set_cons_succ]; try go_bits) | (refine plan_skip4 (by rfl) (by rfl) (by rfl) ?_; simp only [List.setIfInBounds_toArray, List.set_cons_zero, List.set_cons_succ]; try go_bits) | (refine plan_any (by rfl) ?_) | (refine plan_keep (by rfl) ?_) | (refine plan_nil ?_) | (with_reducible refine And.intro (by first | assumption | exact Agree.refl _ _ | exact agree_drew _ _ | exact agree_alloc _ (by intro k hk; subst hk; first | omega | (simp; omega))) ?_) | (unfold Act.put; simp only [List.setIfInBounds_toArray, List.set_cons_zero, List.set_cons_succ]))
            refine (HN2.out _).mono ?_
            rintro e wb ⟨rfl, hbn⟩
            have HXN := Lib.hid (HX.out.trans (hbn.mono HX.out.size))
            clear hbn HX
            have HX := HXN
            clear HXN
            go_wp2_with (first
              | (refine plan_pure (v := _) (by rfl) (by rfl) (by rfl) (by intro _; go_simp; with_reducible rfl) ?_; simp only [List.setIfInBounds_toArray, List.set_cons_zero, List.set_cons_succ]; try go_bits) | (refine plan_read (v := _) (by rfl) (by rfl) (by rfl) (by go_simp; with_reducible rfl) ?_; simp only [List.setIfInBounds_toArray, List.set_cons_zero, List.set_cons_succ]; try go_bits) | (refine plan_readB (v := _) (by rfl) (by rfl) (by rfl) (by intro _ hag; unfold Agree at hag; go_simp; with_reducible rfl) ?_; simp only [List.setIfInBounds_toArray, List.set_cons_zero, List.set_cons_succ]; try go_bits) | (refine plan_skip0 (by rfl) (by rfl) (by rfl) ?_; simp only [List.setIfInBounds_toArray, List.set_cons_zero, List.set_cons_succ]; try go_bits) | (refine plan_skip1 (by rfl) (by rfl) (by rfl) ?_; simp only [List.setIfInBounds_toArray, List.set_cons_zero, List.set_cons_succ]; try go_bits) | (refine plan_skip2 (by rfl) (by rfl) (by rfl) ?_; simp only [List.setIfInBounds_toArray, List.set_cons_zero, List.set_cons_succ]; try go_bits) | (refine plan_skip4 (by rfl) (by rfl) (by rfl) ?_; simp only [List.setIfInBounds_toArray, List.set_cons_zero, List.set_cons_succ]; try go_bits) | (refine plan_any (by rfl) ?_) | (refine plan_keep (by rfl) ?_) | (refine plan_nil ?_) | (with_reducible refine And.intro (by first | assumption | exact Agree.refl _ _ | exact agree_drew _ _ | exact agree_alloc _ (by intro k hk; subst hk; first | omega | (simp; omega))) ?_) | (unfold Act.put; simp only [List.setIfInBounds_toArray, List.set_cons_zero, List.set_cons_succ]))
            refine (HRN.out _).mono ?_
            rintro e wb ⟨rfl, rfl⟩
            obtain ⟨x0, x1, x2, x3, x4, x5⟩ := sch_cells (HK1.out.below HX.out)
            go_wp2_with (first
              | (refine plan_pure (v := _) (by rfl) (by rfl) (by rfl) (by intro _; go_simp; with_reducible rfl) ?_; simp only [List.setIfInBounds_toArray, List.set_cons_zero, List.set_cons_succ]; try go_bits) | (refine plan_read (v := _) (by rfl) (by rfl) (by rfl) (by go_simp; with_reducible rfl) ?_; simp only [List.setIfInBounds_toArray, List.set_cons_zero, List.set_cons_succ]; try go_bits) | (refine plan_readB (v := _) (by rfl) (by rfl) (by rfl) (by intro _ hag; unfold Agree at hag; go_simp; with_reducible rfl) ?_; simp only [List.setIfInBounds_toArray, List.set_cons_zero, List.set_cons_succ]; try go_bits) | (refine plan_skip0 (by rfl) (by rfl) (by rfl) ?_; simp only [List.setIfInBounds_toArray, List.set_cons_zero, List.set_cons_succ]; try go_bits) | (refine plan_skip1 (by rfl) (by rfl) (by rfl) ?_; simp only [List.setIfInBounds_toArray, List.set_cons_zero, List.set_cons_succ]; try go_bits) | (refine plan_skip2 (by rfl) (by rfl) (by rfl) ?_; simp only [List.setIfInBounds_toArray, List.set_cons_zero, List.set_cons_succ]; try go_bits) | (refine plan_skip4 (by rfl) (by rfl) (by rfl) ?_; simp only [List.setIfInBounds_toArray, List.set_cons_zero, List.set_cons_succ]; try go_bits) | (refine plan_any (by rfl) ?_) | (refine plan_keep (by rfl) ?_) | (refine plan_nil ?_) | (with_reducible refine And.intro (by first | assumption | exact Agree.refl _ _ | exact agree_drew _ _ | exact agree_alloc _ (by intro k hk; subst hk; first | omega | (simp; omega))) ?_) | (unfold Act.put; simp only [List.setIfInBounds_toArray, List.set_cons_zero, List.set_cons_succ]))
            clear x0 x1 x2 x3 x4 x5
            refine (HCL.out _ HX.out).mono ?_
            rintro e wn ⟨rfl, hbn⟩
            have HXN := Lib.hid (HX.out.trans (hbn.mono HX.out.size))
            clear hbn HX
            have HX := HXN
            clear HXN
            go_wp2_with (first
              | (refine plan_pure (v := _) (by rfl) (by rfl) (by rfl) (by intro _; go_simp; with_reducible rfl) ?_; simp only [List.setIfInBounds_toArray, List.set_cons_zero, List.set_cons_succ]; try go_bits) | (refine plan_read (v := _) (by rfl) (by rfl) (by rfl) (by go_simp; with_reducible rfl) ?_; simp only [List.setIfInBounds_toArray, List.set_cons_zero, List.set_cons_succ]; try go_bits) | (refine plan_readB (v := _) (by rfl) (by rfl) (by rfl) (by intro _ hag; unfold Agree at hag; go_simp; with_reducible rfl) ?_; simp only [List.setIfInBounds_toArray, List.set_cons_zero, List.set_cons_succ]; try go_bits) | (refine plan_skip0 (by rfl) (by rfl) (by rfl) ?_; simp only [List.setIfInBounds_toArray, List.set_cons_zero, List.set_cons_succ]; try go_bits) | (refine plan_skip1 (by rfl) (by rfl) (by rfl) ?_; simp only [List.setIfInBounds_toArray, List.set_cons_zero, List.set_cons_succ]; try go_bits) | (refine plan_skip2 (by rfl) (by rfl) (by rfl) ?_; simp only [List.setIfInBounds_toArray, List.set_cons_zero, List.set_cons_succ]; try go_bits) | (refine plan_skip4 (by rfl) (by rfl) (by rfl) ?_; simp only [List.setIfInBounds_toArray, List.set_cons_zero, List.set_cons_succ]; try go_bits) | (refine plan_any (by rfl) ?_) | (refine plan_keep (by rfl) ?_) | (refine plan_nil ?_) | (with_reducible refine And.intro (by first | assumption | exact Agree.refl _ _ | exact agree_drew _ _ | exact agree_alloc _ (by intro k hk; subst hk; first | omega | (simp; omega))) ?_) | (unfold Act.put; simp only [List.setIfInBounds_toArray, List.set_cons_zero, List.set_cons_succ]))
            refine (HAW.out _ HX.out).mono ?_
            rintro e w9 ⟨rfl, hb9⟩
            have HB9 := Lib.hid (HX.out.trans (hb9.mono HX.out.size))
            clear hb9
            go_wp2_with (first
              | (refine plan_pure (v := _) (by rfl) (by rfl) (by rfl) (by intro _; go_simp; with_reducible rfl) ?_; simp only [List.setIfInBounds_toArray, List.set_cons_zero, List.set_cons_succ]; try go_bits) | (refine plan_read (v := _) (by rfl) (by rfl) (by rfl) (by go_simp; with_reducible rfl) ?_; simp only [List.setIfInBounds_toArray, List.set_cons_zero, List.set_cons_succ]; try go_bits) | (refine plan_readB (v := _) (by rfl) (by rfl) (by rfl) (by intro _ hag; unfold Agree at hag; go_simp; with_reducible rfl) ?_; simp only [List.setIfInBounds_toArray, List.set_cons_zero, List.set_cons_succ]; try go_bits) | (refine plan_skip0 (by rfl) (by rfl) (by rfl) ?_; simp only [List.setIfInBounds_toArray, List.set_cons_zero, List.set_cons_succ]; try go_bits) | (refine plan_skip1 (by rfl) (by rfl) (by rfl) ?_; simp only [List.setIfInBounds_toArray, List.set_cons_zero, List.set_cons_succ]; try go_bits) | (refine plan_skip2 (by rfl) (by rfl) (by rfl) ?_; simp only [List.setIfInBounds_toArray, List.set_cons_zero, List.set_cons_succ]; try go_bits) | (refine plan_skip4 (by rfl) (by rfl) (by rfl) ?_; simp only [List.setIfInBounds_toArray, List.set_cons_zero, List.set_cons_succ]; try go_bits) | (refine plan_any (by rfl) ?_) | (refine plan_keep (by rfl) ?_) | (refine plan_nil ?_) | (with_reducible refine And.intro (by first | assumption | exact Agree.refl _ _ | exact agree_drew _ _ | exact agree_alloc _ (by intro k hk; subst hk; first | omega | (simp; omega))) ?_) | (unfold Act.put; simp only [List.setIfInBounds_toArray, List.set_cons_zero, List.set_cons_succ]))
            go_ret
            exact ⟨rfl, HB0.out.trans (HB9.out.mono HB0.out.size)⟩
      · go_upto_region 17 with fail
        clear z0 z1 z2 z3 z4 z5
        have HXN := Lib.hid (HB5.out.trans (HX.out.mono HB5.out.size))
        clear HX
        have HX := HXN
        clear HXN
        obtain ⟨x0, x1, x2, x3, x4, x5⟩ := sch_cells (HK1.out.below HX.out)
        go_wp2_with fail
        clear x0 x1 x2 x3 x4 x5
        refine (HZ.out _ HX.out).mono ?_
        clear HZ
        rintro e wz ⟨out, rfl, hout, hbn⟩
        obtain ⟨po, co, rfl, _, _⟩ := hout.form
        have HOUT := Lib.hid hout
        have HXN := Lib.hid (HX.out.trans (hbn.mono HX.out.size))
        clear hbn HX hout
        have HX := HXN
        clear HXN
        rw [HLN.out]
        have hln : ((s.cols.length : Int) != (s.cols.length : Int)) = false := by simp
        obtain ⟨x0, x1, x2, x3, x4, x5⟩ := sch_cells (HK1.out.below HX.out)
        go_wp2_with fail
        clear x0 x1 x2 x3 x4 x5
        refine (HRR.out _ HX.out).mono ?_
        rintro e wn2 ⟨rfl, hbn⟩
        have HOUT2 := Lib.hid (HOUT.out.below hbn)
        have HXN := Lib.hid (HX.out.trans (hbn.mono HX.out.size))
        clear hbn HX HOUT
        have HX := HXN
        clear HXN
        rw [HLN.out] at HOUT2
        have HRF2 := Lib.hid (fun W (hb : Below w2.heap.size w2 W) (hv : Sl W (fun _ => True) 3 (.slice po s.cols.length co) (s.cols.map zeroC).length (rowCells (s.cols.map zeroC))) => HRF.out W hb _ hv)
        clear HRF
        rcases Bool.eq_false_or_eq_true (rightS s) with hrt | hrt
        · have HFT := Lib.hid (HZF.out hrt)
          rw [hrt] at HRR HSR ⊢
          rw [HFT.out] at HRF2
          clear HZF HFT
          obtain ⟨x0, x1, x2, x3, x4, x5⟩ := sch_cells (HK1.out.below HX.out)
          go_wp2_with fail
          clear x0 x1 x2 x3 x4 x5 hln
          refine (HRF2.out _ HX.out (by rw [HLN.out]; exact HOUT2.out)).mono ?_
          rintro e wn ⟨rfl, hbn⟩
          have HXN := Lib.hid (HX.out.trans (hbn.mono HX.out.size))
          clear hbn HX
          have HX := HXN
          clear HXN
          obtain ⟨x0, x1, x2, x3, x4, x5⟩ := sch_cells (HK1.out.below HX.out)
          go_upto_region 20 with fail
          have HXN := Lib.hid HX.out.drew
          clear HX
          have HX := HXN
          clear HXN
          refine wp_region_lit_plan [] [(0, 1), (2, 2), (1, 3), (3, 4), (4, 0), (5, 0), (6, 0), (9, 0), (7, 4), (8, 4), (10, 4), (11, 0), (12, 0), (13, 0), (14, 0), (17, 0), (15, 4), (16, 4), (18, 4), (19, 0), (20, 0), (21, 0), (23, 0), (25, 0), (22, 1), (24, 4), (26, 0), (27, 0), (28, 0), (29, 4), (30, 0), (31, 0)] (fun q => q = w.heap.size) (by kernel_rfl) (by kernel_rfl) (fun c a d v w h => by cases d <;> exact h) ?_
          go_wp2_with (first
            | (refine plan_pure (v := _) (by rfl) (by rfl) (by rfl) (by intro _; go_simp; with_reducible rfl) ?_; simp only [List.setIfInBounds_toArray, List.set_cons_zero, List.set_cons_succ]; try go_bits) | (refine plan_read (v := _) (by rfl) (by rfl) (by rfl) (by go_simp; with_reducible rfl) ?_; simp only [List.setIfInBounds_toArray, List.set_cons_zero, List.set_cons_succ]; try go_bits) | (refine plan_readB (v := _) (by rfl) (by rfl) (by rfl) (by intro _ hag; unfold Agree at hag; go_simp; with_reducible rfl) ?_; simp only [List.setIfInBounds_toArray, List.set_cons_zero, List.set_cons_succ]; try go_bits) | (refine plan_skip0 (by rfl) (by rfl) (by rfl) ?_; simp only [List.setIfInBounds_toArray, List.set_cons_zero, List.set_cons_succ]; try go_bits) | (refine plan_skip1 (by rfl) (by rfl) (by rfl) ?_; simp only [List.setIfInBounds_toArray, List.set_cons_zero, List.set_cons_succ]; try go_bits) | (refine plan_skip2 (by rfl) (by rfl) (by rfl) ?_; simp only [List.setIfInBounds_toArray, List.set_cons_zero, List.set_cons_succ]; try go_bits) | (refine plan_skip4 (by rfl) (by rfl) (by rfl) ?_; simp only [List.setIfInBounds_toArray, List.set_cons_zero, List.set_cons_succ]; try go_bits) | (refine plan_any (by rfl) ?_) | (refine plan_keep (by rfl) ?_) | (refine plan_nil ?_) | (with_reducible refine And.intro (by first | assumption | exact Agree.refl _ _ | exact agree_drew _ _ | exact agree_alloc _ (by intro k hk; subst hk; first | omega | (simp; omega))) ?_) | (unfold Act.put; simp only [List.setIfInBounds_toArray, List.set_cons_zero, List.set_cons_succ]))
          clear x0 x1 x2 x3 x4 x5
          refine (HSR.out _ HX.out).mono ?_
          rintro e wn ⟨rfl, hbn⟩
          have hagn := HAG.out _ _ HX.out hbn
          have HXN := Lib.hid (HX.out.trans (hbn.mono HX.out.size))
          clear hbn HX
          have HX := HXN
          clear HXN
          obtain ⟨x0, x1, x2, x3, x4, x5⟩ := sch_cells (HK1.out.below HX.out)
          go_wp2_with (first
            | (refine plan_pure (v := _) (by rfl) (by rfl) (by rfl) (by intro _; go_simp; with_reducible rfl) ?_; simp only [List.setIfInBounds_toArray, List.set_cons_zero, List.set_cons_succ]; try go_bits) | (refine plan_read (v := _) (by rfl) (by rfl) (by rfl) (by go_simp; with_reducible rfl) ?_; simp only [List.setIfInBounds_toArray, List.set_cons_zero, List.set_cons_succ]; try go_bits) | (refine plan_readB (v := _) (by rfl) (by rfl) (by rfl) (by intro _ hag; unfold Agree at hag; go_simp; with_reducible rfl) ?_; simp only [List.setIfInBounds_toArray, List.set_cons_zero, List.set_cons_succ]; try go_bits) | (refine plan_skip0 (by rfl) (by rfl) (by rfl) ?_; simp only [List.setIfInBounds_toArray, List.set_cons_zero, List.set_cons_succ]; try go_bits) | (refine plan_skip1 (by rfl) (by rfl) (by rfl) ?_; simp only [List.setIfInBounds_toArray, List.set_cons_zero, List.set_cons_succ]; try go_bits) | (refine plan_skip2 (by rfl) (by rfl) (by rfl) ?_; simp only [List.setIfInBounds_toArray, List.set_cons_zero, List.set_cons_succ]; try go_bits) | (refine plan_skip4 (by rfl) (by rfl) (by rfl) ?_; simp only [List.setIfInBounds_toArray, List.set_cons_zero, List.set_cons_succ]; try go_bits) | (refine plan_any (by rfl) ?_) | (refine plan_keep (by rfl) ?_) | (refine plan_nil ?_) | (with_reducible refine And.intro (by first | assumption | exact Agree.refl _ _ | exact agree_drew _ _ | exact agree_alloc _ (by intro k hk; subst hk; first | omega | (simp; omega))) ?_) | (unfold Act.put; simp only [List.setIfInBounds_toArray, List.set_cons_zero, List.set_cons_succ]))
          clear x0 x1 x2 x3 x4 x5
          refine (HRR.out _ HX.out).mono ?_
          rintro e wn ⟨rfl, hbn⟩
          have HXN := Lib.hid (HX.out.trans (hbn.mono HX.out.size))
          clear hbn HX
          have HX := HXN
          clear HXN
          go_wp2_with (first
            | (refine plan_pure (v := _) (by rfl) (by rfl) (by rfl) (by intro _; go_simp; with_reducible rfl) ?_; simp only [List.setIfInBounds_toArray, List.set_cons_zero, List.set_cons_succ]; try go_bits) | (refine plan_read (v := _) (by rfl) (by rfl) (by rfl) (by go_simp; with_reducible rfl) ?_; simp only [List.setIfInBounds_toArray, List.set_cons_zero, List.set_cons_succ]; try go_bits) | (refine plan_readB (v := _) (by rfl) (by rfl) (by rfl) (by intro _ hag; unfold Agree at hag; go_simp; with_reducible rfl) ?_; simp only [List.setIfInBounds_toArray, List.set_cons_zero, List.set_cons_succ]; try go_bits) | (refine plan_skip0 (by rfl) (by rfl) (by rfl) ?_; simp only [List.setIfInBounds_toArray, List.set_cons_zero, List.set_cons_succ]; try go_bits) | (refine plan_skip1 (by rfl) (by rfl) (by rfl) ?_; simp only [List.setIfInBounds_toArray, List.set_cons_zero, List.set_cons_succ]; try go_bits) | (refine plan_skip2 (by rfl) (by rfl) (by rfl) ?_; simp only [List.setIfInBounds_toArray, List.set_cons_zero, List.set_cons_succ]; try go_bits) | (refine plan_skip4 (by rfl) (by rfl) (by rfl) ?_; simp only [List.setIfInBounds_toArray, List.set_cons_zero, List.set_cons_succ]; try go_bits) | (refine plan_any (by rfl) ?_) | (refine plan_keep (by rfl) ?_) | (refine plan_nil ?_) | (with_reducible refine And.intro (by first | assumption | exact Agree.refl _ _ | exact agree_drew _ _ | exact agree_alloc _ (by intro k hk; subst hk; first | omega | (simp; omega))) ?_) | (unfold Act.put; simp only [List.setIfInBounds_toArray, List.set_cons_zero, List.set_cons_succ]))
          refine (HN1.out _).mono ?_
          rintro e wa ⟨rfl, hbn⟩
          have HXN := Lib.hid (HX.out.trans (hbn.mono HX.out.size))
          clear hbn HX
          have HX := HXN
          clear HXN
          go_wp2_with (first
            | (refine plan_pure (v := _) (by rfl) (by rfl) (by rfl) (by intro _; go_simp; with_reducible rfl) ?_; simp only [List.setIfInBounds_toArray, List.set_cons_zero, List.set_cons_succ]; try go_bits) | (refine plan_read (v := _) (by rfl) (by rfl) (by rfl) (by go_simp; with_reducible rfl) ?_; simp only [List.setIfInBounds_toArray, List.set_cons_zero, List.set_cons_succ]; try go_bits) | (refine plan_readB (v := _) (by rfl) (by rfl) (by rfl) (by intro _ hag; unfold Agree at hag; go_simp; with_reducible rfl) ?_; simp only [List.setIfInBounds_toArray, List.set_cons_zero, List.set_cons_succ]; try go_bits) | (refine plan_skip0 (by rfl) (by rfl) (by rfl) ?_; simp only [List.setIfInBounds_toArray, List.set_cons_zero, List.set_cons_succ]; try go_bits) | (refine plan_skip1 (by rfl) (by rfl) (by rfl) ?_; simp only [List.setIfInBounds_toArray, List.set_cons_zero, List.set_cons_succ]; try go_bits) | (refine plan_skip2 (by rfl) (by rfl) (by rfl) ?_; simp only [List.setIfInBounds_toArray, List.set_cons_zero, List.set_cons_succ]; try go_bits) | (refine plan_skip4 (by rfl) (by rfl) (by rfl) ?_; simp only [List.setIfInBounds_toArray, List.set_cons_zero, List.set_cons_succ]; try go_bits) | (refine plan_any (by rfl) ?_) | (refine plan_keep (by rfl) ?_) | (refine plan_nil ?_) | (with_reducible refine And.intro (by first | assumption | exact Agree.refl _ _ | exact agree_drew _ _ | exact agree_alloc _ (by intro k hk; subst hk; first | omega | (simp; omega))) ?_) | (unfold Act.put; simp only [List.setIfInBounds_toArray, List.set_cons_zero, List.set_cons_succ]))
          refine (HRN.out _).mono ?_
          rintro e wa ⟨rfl, rfl⟩
          go_wp2_with (first
            | (refine plan_pure (v := _) (by rfl) (by rfl) (by rfl) (by intro _; go_simp; with_reducible rfl) ?_; simp only [List.setIfInBounds_toArray, List.set_cons_zero, List.set_cons_succ]; try go_bits) | (refine plan_read (v := _) (by rfl) (by rfl) (by rfl) (by go_simp; with_reducible rfl) ?_; simp only [List.setIfInBounds_toArray, List.set_cons_zero, List.set_cons_succ]; try go_bits) | (refine plan_readB (v := _) (by rfl) (by rfl) (by rfl) (by intro _ hag; unfold Agree at hag; go_simp; with_reducible rfl) ?_; simp only [List.setIfInBounds_toArray, List.set_cons_zero, List.set_cons_succ]; try go_bits) | (refine plan_skip0 (by rfl) (by rfl) (by rfl) ?_; simp only [List.setIfInBounds_toArray, List.set_cons_zero, List.set_cons_succ]; try go_bits) | (refine plan_skip1 (by rfl) (by rfl) (by rfl) ?_; simp only [List.setIfInBounds_toArray, List.set_cons_zero, List.set_cons_succ]; try go_bits) | (refine plan_skip2 (by rfl) (by rfl) (by rfl) ?_; simp only [List.setIfInBounds_toArray, List.set_cons_zero, List.set_cons_succ]; try go_bits) | (refine plan_skip4 (by rfl) (by rfl) (by rfl) ?_; simp only [List.setIfInBounds_toArray, List.set_cons_zero, List.set_cons_succ]; try go_bits) | (refine plan_any (by rfl) ?_) | (refine plan_keep (by rfl) ?_) | (refine plan_nil ?_) | (with_reducible refine And.intro (by first | assumption | exact Agree.refl _ _ | exact agree_drew _ _ | exact agree_alloc _ (by intro k hk; subst hk; first | omega | (simp; omega))) ?_) | (unfold Act.put; simp only [List.setIfInBounds_toArray, List.set_cons_zero, List.set_cons_succ]))
          refine (HN2.out _).mono ?_
          rintro e wb ⟨rfl, hbn⟩
          have HXN := Lib.hid (HX.out.trans (hbn.mono HX.out.size))
          clear hbn HX
          have HX := HXN
          clear HXN
          go_wp2_with (first
            | (refine plan_pure (v := _) (by rfl) (by rfl) (by rfl) (by intro _; go_simp; with_reducible rfl) ?_; simp only [List.setIfInBounds_toArray, List.set_cons_zero, List.set_cons_succ]; try go_bits) | (refine plan_read (v := _) (by rfl) (by rfl) (by rfl) (by go_simp; with_reducible rfl) ?_; simp only [List.setIfInBounds_toArray, List.set_cons_zero, List.set_cons_succ]; try go_bits) | (refine plan_readB (v := _) (by rfl) (by rfl) (by rfl) (by intro _ hag; unfold Agree at hag; go_simp; with_reducible rfl) ?_; simp only [List.setIfInBounds_toArray, List.set_cons_zero, List.set_cons_succ]; try go_bits) | (refine plan_skip0 (by rfl) (by rfl) (by rfl) ?_; simp only [List.setIfInBounds_toArray, List.set_cons_zero, List.set_cons_succ]; try go_bits) | (refine plan_skip1 (by rfl) (by rfl) (by rfl) ?_; simp only [List.setIfInBounds_toArray, List.set_cons_zero, List.set_cons_succ]; try go_bits) | (refine plan_skip2 (by rfl) (by rfl) (by rfl) ?_; simp only [List.setIfInBounds_toArray, List.set_cons_zero, List.set_cons_succ]; try go_bits) | (refine plan_skip4 (by rfl) (by rfl) (by rfl) ?_; simp only [List.setIfInBounds_toArray, List.set_cons_zero, List.set_cons_succ]; try go_bits) | (refine plan_any (by rfl) ?_) | (refine plan_keep (by rfl) ?_) | (refine plan_nil ?_) | (with_reducible refine And.intro (by first | assumption | exact Agree.refl _ _ | exact agree_drew _ _ | exact agree_alloc _ (by intro k hk; subst hk; first | omega | (simp; omega))) ?_) | (unfold Act.put; simp only [List.setIfInBounds_toArray, List.set_cons_zero, List.set_cons_succ]))
          refine (HRN.out _).mono ?_
          rintro e wb ⟨rfl, rfl⟩
          obtain ⟨x0, x1, x2, x3, x4, x5⟩ := sch_cells (HK1.out.below HX.out)
          go_wp2_with (first
            | (refine plan_pure (v := _) (by rfl) (by rfl) (by rfl) (by intro _; go_simp; with_reducible rfl) ?_; simp only [List.setIfInBounds_toArray, List.set_cons_zero, List.set_cons_succ]; try go_bits) | (refine plan_read (v := _) (by rfl) (by rfl) (by rfl) (by go_simp; with_reducible rfl) ?_; simp only [List.setIfInBounds_toArray, List.set_cons_zero, List.set_cons_succ]; try go_bits) | (refine plan_readB (v := _) (by rfl) (by rfl) (by rfl) (by intro _ hag; unfold Agree at hag; go_simp; with_reducible rfl) ?_; simp only [List.setIfInBounds_toArray, List.set_cons_zero, List.set_cons_succ]; try go_bits) | (refine plan_skip0 (by rfl) (by rfl) (by rfl) ?_; simp only [List.setIfInBounds_toArray, List.set_cons_zero, List.set_cons_succ]; try go_bits) | (refine plan_skip1 (by rfl) (by rfl) (by rfl) ?_; simp only [List.setIfInBounds_toArray, List.set_cons_zero, List.set_cons_succ]; try go_bits) | (refine plan_skip2 (by rfl) (by rfl) (by rfl) ?_; simp only [List.setIfInBounds_toArray, List.set_cons_zero, List.set_cons_succ]; try go_bits) | (refine plan_skip4 (by rfl) (by rfl) (by rfl) ?_; simp only [List.setIfInBounds_toArray, List.set_cons_zero, List.set_cons_succ]; try go_bits) | (refine plan_any (by rfl) ?_) | (refine plan_keep (by rfl) ?_) | (refine plan_nil ?_) | (with_reducible refine And.intro (by first | assumption | exact Agree.refl _ _ | exact agree_drew _ _ | exact agree_alloc _ (by intro k hk; subst hk; first | omega | (simp; omega))) ?_) | (unfold Act.put; simp only [List.setIfInBounds_toArray, List.set_cons_zero, List.set_cons_succ]))
          clear x0 x1 x2 x3 x4 x5
          refine (HCL.out _ HX.out).mono ?_
          rintro e wn ⟨rfl, hbn⟩
          have HXN := Lib.hid (HX.out.trans (hbn.mono HX.out.size))
          clear hbn HX
          have HX := HXN
          clear HXN
          go_wp2_with (first
            | (refine plan_pure (v := _) (by rfl) (by rfl) (by rfl) (by intro _; go_simp; with_reducible rfl) ?_; simp only [List.setIfInBounds_toArray, List.set_cons_zero, List.set_cons_succ]; try go_bits) | (refine plan_read (v := _) (by rfl) (by rfl) (by rfl) (by go_simp; with_reducible rfl) ?_; simp only [List.setIfInBounds_toArray, List.set_cons_zero, List.set_cons_succ]; try go_bits) | (refine plan_readB (v := _) (by rfl) (by rfl) (by rfl) (by intro _ hag; unfold Agree at hag; go_simp; with_reducible rfl) ?_; simp only [List.setIfInBounds_toArray, List.set_cons_zero, List.set_cons_succ]; try go_bits) | (refine plan_skip0 (by rfl) (by rfl) (by rfl) ?_; simp only [List.setIfInBounds_toArray, List.set_cons_zero, List.set_cons_succ]; try go_bits) | (refine plan_skip1 (by rfl) (by rfl) (by rfl) ?_; simp only [List.setIfInBounds_toArray, List.set_cons_zero, List.set_cons_succ]; try go_bits) | (refine plan_skip2 (by rfl) (by rfl) (by rfl) ?_; simp only [List.setIfInBounds_toArray, List.set_cons_zero, List.set_cons_succ]; try go_bits) | (refine plan_skip4 (by rfl) (by rfl) (by rfl) ?_; simp only [List.setIfInBounds_toArray, List.set_cons_zero, List.set_cons_succ]; try go_bits) | (refine plan_any (by rfl) ?_) | (refine plan_keep (by rfl) ?_) | (refine plan_nil ?_) | (with_reducible refine And.intro (by first | assumption | exact Agree.refl _ _ | exact agree_drew _ _ | exact agree_alloc _ (by intro k hk; subst hk; first | omega | (simp; omega))) ?_) | (unfold Act.put; simp only [List.setIfInBounds_toArray, List.set_cons_zero, List.set_cons_succ]))
          refine (HAW.out _ HX.out).mono ?_
          rintro e w9 ⟨rfl, hb9⟩
          have HB9 := Lib.hid (HX.out.trans (hb9.mono HX.out.size))
          clear hb9
          go_wp2_with (first
            | (refine plan_pure (v := _) (by rfl) (by rfl) (by rfl) (by intro _; go_simp; with_reducible rfl) ?_; simp only [List.setIfInBounds_toArray, List.set_cons_zero, List.set_cons_succ]; try go_bits) | (refine plan_read (v := _) (by rfl) (by rfl) (by rfl) (by go_simp; with_reducible rfl) ?_; simp only [List.setIfInBounds_toArray, List.set_cons_zero, List.set_cons_succ]; try go_bits) | (refine plan_readB (v := _) (by rfl) (by rfl) (by rfl) (by intro _ hag; unfold Agree at hag; go_simp; with_reducible rfl) ?_; simp only [List.setIfInBounds_toArray, List.set_cons_zero, List.set_cons_succ]; try go_bits) | (refine plan_skip0 (by rfl) (by rfl) (by rfl) ?_; simp only [List.setIfInBounds_toArray, List.set_cons_zero, List.set_cons_succ]; try go_bits) | (refine plan_skip1 (by rfl) (by rfl) (by rfl) ?_; simp only [List.setIfInBounds_toArray, List.set_cons_zero, List.set_cons_succ]; try go_bits) | (refine plan_skip2 (by rfl) (by rfl) (by rfl) ?_; simp only [List.setIfInBounds_toArray, List.set_cons_zero, List.set_cons_succ]; try go_bits) | (refine plan_skip4 (by rfl) (by rfl) (by rfl) ?_; simp only [List.setIfInBounds_toArray, List.set_cons_zero, List.set_cons_succ]; try go_bits) | (refine plan_any (by rfl) ?_) | (refine plan_keep (by rfl) ?_) | (refine plan_nil ?_) | (with_reducible refine And.intro (by first | assumption | exact Agree.refl _ _ | exact agree_drew _ _ | exact agree_alloc _ (by intro k hk; subst hk; first | omega | (simp; omega))) ?_) | (unfold Act.put; simp only [List.setIfInBounds_toArray, List.set_cons_zero, List.set_cons_succ]))
          go_ret
          exact ⟨rfl, HB0.out.trans (HB9.out.mono HB0.out.size)⟩
        · rw [hrt] at HRR HSR ⊢
          clear HZF HRF2
          obtain ⟨x0, x1, x2, x3, x4, x5⟩ := sch_cells (HK1.out.below HX.out)
          go_upto_region 20 with fail
          have HXN := Lib.hid HX.out.drew
          clear HX
          have HX := HXN
          clear HXN
          refine wp_region_lit_plan [] [(0, 1), (2, 2), (1, 3), (3, 4), (4, 0), (5, 0), (6, 0), (9, 0), (7, 4), (8, 4), (10, 4), (11, 0), (12, 0), (13, 0), (14, 0), (17, 0), (15, 4), (16, 4), (18, 4), (19, 0), (20, 0), (21, 0), (23, 0), (25, 0), (22, 1), (24, 4), (26, 0), (27, 0), (28, 0), (29, 4), (30, 0), (31, 0)] (fun q => q = w.heap.size) (by kernel_rfl) (by kernel_rfl) (fun c a d v w h => by cases d <;> exact h) ?_
          go_wp2_with (first
            | (refine plan_pure (v := _) (by rfl) (by rfl) (by rfl) (by intro _; go_simp; with_reducible rfl) ?_; simp only [List.setIfInBounds_toArray, List.set_cons_zero, List.set_cons_succ]; try go_bits) | (refine plan_read (v := _) (by rfl) (by rfl) (by rfl) (by go_simp; with_reducible rfl) ?_; simp only [List.setIfInBounds_toArray, List.set_cons_zero, List.set_cons_succ]; try go_bits) | (refine plan_readB (v := _) (by rfl) (by rfl) (by rfl) (by intro _ hag; unfold Agree at hag; go_simp; with_reducible rfl) ?_; simp only [List.setIfInBounds_toArray, List.set_cons_zero, List.set_cons_succ]; try go_bits) | (refine plan_skip0 (by rfl) (by rfl) (by rfl) ?_; simp only [List.setIfInBounds_toArray, List.set_cons_zero, List.set_cons_succ]; try go_bits) | (refine plan_skip1 (by rfl) (by rfl) (by rfl) ?_; simp only [List.setIfInBounds_toArray, List.set_cons_zero, List.set_cons_succ]; try go_bits) | (refine plan_skip2 (by rfl) (by rfl) (by rfl) ?_; simp only [List.setIfInBounds_toArray, List.set_cons_zero, List.set_cons_succ]; try go_bits) | (refine plan_skip4 (by rfl) (by rfl) (by rfl) ?_; simp only [List.setIfInBounds_toArray, List.set_cons_zero, List.set_cons_succ]; try go_bits) | (refine plan_any (by rfl) ?_) | (refine plan_keep (by rfl) ?_) | (refine plan_nil ?_) | (with_reducible refine And.intro (by first | assumption | exact Agree.refl _ _ | exact agree_drew _ _ | exact agree_alloc _ (by intro k hk; subst hk; first | omega | (simp; omega))) ?_) | (unfold Act.put; simp only [List.setIfInBounds_toArray, List.set_cons_zero, List.set_cons_succ]))
          clear x0 x1 x2 x3 x4 x5
          refine (HSR.out _ HX.out).mono ?_
          rintro e wn ⟨rfl, hbn⟩
          have hagn := HAG.out _ _ HX.out hbn
          have HXN := Lib.hid (HX.out.trans (hbn.mono HX.out.size))
          clear hbn HX
          have HX := HXN
          clear HXN
          obtain ⟨x0, x1, x2, x3, x4, x5⟩ := sch_cells (HK1.out.below HX.out)
          go_wp2_with (first
            | (refine plan_pure (v := _) (by rfl) (by rfl) (by rfl) (by intro _; go_simp; with_reducible rfl) ?_; simp only [List.setIfInBounds_toArray, List.set_cons_zero, List.set_cons_succ]; try go_bits) | (refine plan_read (v := _) (by rfl) (by rfl) (by rfl) (by go_simp; with_reducible rfl) ?_; simp only [List.setIfInBounds_toArray, List.set_cons_zero, List.set_cons_succ]; try go_bits) | (refine plan_readB (v := _) (by rfl) (by rfl) (by rfl) (by intro _ hag; unfold Agree at hag; go_simp; with_reducible rfl) ?_; simp only [List.setIfInBounds_toArray, List.set_cons_zero, List.set_cons_succ]; try go_bits) | (refine plan_skip0 (by rfl) (by rfl) (by rfl) ?_; simp only [List.setIfInBounds_toArray, List.set_cons_zero, List.set_cons_succ]; try go_bits) | (refine plan_skip1 (by rfl) (by rfl) (by rfl) ?_; simp only [List.setIfInBounds_toArray, List.set_cons_zero, List.set_cons_succ]; try go_bits) | (refine plan_skip2 (by rfl) (by rfl) (by rfl) ?_; simp only [List.setIfInBounds_toArray, List.set_cons_zero, List.set_cons_succ]; try go_bits) | (refine plan_skip4 (by rfl) (by rfl) (by rfl) ?_; simp only [List.setIfInBounds_toArray, List.set_cons_zero, List.set_cons_succ]; try go_bits) | (refine plan_any (by rfl) ?_) | (refine plan_keep (by rfl) ?_) | (refine plan_nil ?_) | (with_reducible refine And.intro (by first | assumption | exact Agree.refl _ _ | exact agree_drew _ _ | exact agree_alloc _ (by intro k hk; subst hk; first | omega | (simp; omega))) ?_) | (unfold Act.put; simp only [List.setIfInBounds_toArray, List.set_cons_zero, List.set_cons_succ]))
          clear x0 x1 x2 x3 x4 x5
          refine (HRR.out _ HX.out).mono ?_
          rintro e wn ⟨rfl, hbn⟩
          have HXN := Lib.hid (HX.out.trans (hbn.mono HX.out.size))
          clear hbn HX
          have HX := HXN
          clear HXN
          go_wp2_with (first
            | (refine plan_pure (v := _) (by rfl) (by rfl) (by rfl) (by intro _; go_simp; with_reducible rfl) ?_; simp only [List.setIfInBounds_toArray, List.set_cons_zero, List.set_cons_succ]; try go_bits) | (refine plan_read (v := _) (by rfl) (by rfl) (by rfl) (by go_simp; with_reducible rfl) ?_; simp only [List.setIfInBounds_toArray, List.set_cons_zero, List.set_cons_succ]; try go_bits) | (refine plan_readB (v := _) (by rfl) (by rfl) (by rfl) (by intro _ hag; unfold Agree at hag; go_simp; with_reducible rfl) ?_; simp only [List.setIfInBounds_toArray, List.set_cons_zero, List.set_cons_succ]; try go_bits) | (refine plan_skip0 (by rfl) (by rfl) (by rfl) ?_; simp only [List.setIfInBounds_toArray, List.set_cons_zero, List.set_cons_succ]; try go_bits) | (refine plan_skip1 (by rfl) (by rfl) (by rfl) ?_; simp only [List.setIfInBounds_toArray, List.set_cons_zero, List.set_cons_succ]; try go_bits) | (refine plan_skip2 (by rfl) (by rfl) (by rfl) ?_; simp only [List.setIfInBounds_toArray, List.set_cons_zero, List.set_cons_succ]; try go_bits) | (refine plan_skip4 (by rfl) (by rfl) (by rfl) ?_; simp only [List.setIfInBounds_toArray, List.set_cons_zero, List.set_cons_succ]; try go_bits) | (refine plan_any (by rfl) ?_) | (refine plan_keep (by rfl) ?_) | (refine plan_nil ?_) | (with_reducible refine And.intro (by first | assumption | exact Agree.refl _ _ | exact agree_drew _ _ | exact agree_alloc _ (by intro k hk; subst hk; first | omega | (simp; omega))) ?_) | (unfold Act.put; simp only [List.setIfInBounds_toArray, List.set_cons_zero, List.set_cons_succ]))
          refine (HN1.out _).mono ?_
          rintro e wa ⟨rfl, hbn⟩
          have HXN := Lib.hid (HX.out.trans (hbn.mono HX.out.size))
          clear hbn HX
          have HX := HXN
          clear HXN
          go_wp2_with (first
            | (refine plan_pure (v := _) (by rfl) (by rfl) (by rfl) (by intro _; go_simp; with_reducible rfl) ?_; simp only [List.setIfInBounds_toArray, List.set_cons_zero, List.set_cons_succ]; try go_bits) | (refine plan_read (v := _) (by rfl) (by rfl) (by rfl) (by go_simp; with_reducible rfl) ?_; simp only [List.setIfInBounds_toArray, List.set_cons_zero, List.set_cons_succ]; try go_bits) | (refine plan_readB (v := _) (by rfl) (by rfl) (by rfl) (by intro _ hag; unfold Agree at hag; go_simp; with_reducible rfl) ?_; simp only [List.setIfInBounds_toArray, List.set_cons_zero, List.set_cons_succ]; try go_bits) | (refine plan_skip0 (by rfl) (by rfl) (by rfl) ?_; simp only [List.setIfInBounds_toArray, List.set_cons_zero, List.set_cons_succ]; try go_bits) | (refine plan_skip1 (by rfl) (by rfl) (by rfl) ?_; simp only [List.setIfInBounds_toArray, List.set_cons_zero, List.set_cons_succ]; try go_bits) | (refine plan_skip2 (by rfl) (by rfl) (by rfl) ?_; simp only [List.setIfInBounds_toArray, List.set_cons_zero, List.set_cons_succ]; try go_bits) | (refine plan_skip4 (by rfl) (by rfl) (by rfl) ?_; simp only [List.setIfInBounds_toArray, List.set_cons_zero, List.set_cons_succ]; try go_bits) | (refine plan_any (by rfl) ?_) | (refine plan_keep (by rfl) ?_) | (refine plan_nil ?_) | (with_reducible refine And.intro (by first | assumption | exact Agree.refl _ _ | exact agree_drew _ _ | exact agree_alloc _ (by intro k hk; subst hk; first | omega | (simp; omega))) ?_) | (unfold Act.put; simp only [List.setIfInBounds_toArray, List.set_cons_zero, List.set_cons_succ]))
          refine (HRN.out _).mono ?_
          rintro e wa ⟨rfl, rfl⟩
          go_wp2_with (first
            | (refine plan_pure (v := _) (by rfl) (by rfl) (by rfl) (by intro _; go_simp; with_reducible rfl) ?_; simp only [List.setIfInBounds_toArray, List.set_cons_zero, List.set_cons_succ]; try go_bits) | (refine plan_read (v := _) (by rfl) (by rfl) (by rfl) (by go_simp; with_reducible rfl) ?_; simp only [List.setIfInBounds_toArray, List.set_cons_zero, List.set_cons_succ]; try go_bits) | (refine plan_readB (v := _) (by rfl) (by rfl) (by rfl) (by intro _ hag; unfold Agree at hag; go_simp; with_reducible rfl) ?_; simp only [List.setIfInBounds_toArray, List.set_cons_zero, List.set_cons_succ]; try go_bits) | (refine plan_skip0 (by rfl) (by rfl) (by rfl) ?_; simp only [List.setIfInBounds_toArray, List.set_cons_zero, List.set_cons_succ]; try go_bits) | (refine plan_skip1 (by rfl) (by rfl) (by rfl) ?_; simp only [List.setIfInBounds_toArray, List.set_cons_zero, List.set_cons_succ]; try go_bits) | (refine plan_skip2 (by rfl) (by rfl) (by rfl) ?_; simp only [List.setIfInBounds_toArray, List.set_cons_zero, List.set_cons_succ]; try go_bits) | (refine plan_skip4 (by rfl) (by rfl) (by rfl) ?_; simp only [List.setIfInBounds_toArray, List.set_cons_zero, List.set_cons_succ]; try go_bits) | (refine plan_any (by rfl) ?_) | (refine plan_keep (by rfl) ?_) | (refine plan_nil ?_) | (with_reducible refine And.intro (by first | assumption | exact Agree.refl _ _ | exact agree_drew _ _ | exact agree_alloc _ (by intro k hk; subst hk; first | omega | (simp; omega))) ?_) | (unfold Act.put; simp only [List.setIfInBounds_toArray, List.set_cons_zero, List.set_cons_succ]))
          refine (HN2.out _).mono ?_
          rintro e wb ⟨rfl, hbn⟩
          have HXN := Lib.hid (HX.out.trans (hbn.mono HX.out.size))
          clear hbn HX
          have HX := HXN
          clear HXN
          go_wp2_with (first
            | (refine plan_pure (v := _) (by rfl) (by rfl) (by rfl) (by intro _; go_simp; with_reducible rfl) ?_; simp only [List.setIfInBounds_toArray, List.set_cons_zero, List.set_cons_succ]; try go_bits) | (refine plan_read (v := _) (by rfl) (by rfl) (by rfl) (by go_simp; with_reducible rfl) ?_; simp only [List.setIfInBounds_toArray, List.set_cons_zero, List.set_cons_succ]; try go_bits) | (refine plan_readB (v := _) (by rfl) (by rfl) (by rfl) (by intro _ hag; unfold Agree at hag; go_simp; with_reducible rfl) ?_; simp only [List.setIfInBounds_toArray, List.set_cons_zero, List.set_cons_succ]; try go_bits) | (refine plan_skip0 (by rfl) (by rfl) (by rfl) ?_; simp only [List.setIfInBounds_toArray, List.set_cons_zero, List.set_cons_succ]; try go_bits) | (refine plan_skip1 (by rfl) (by rfl) (by rfl) ?_; simp only [List.setIfInBounds_toArray, List.set_cons_zero, List.set_cons_succ]; try go_bits) | (refine plan_skip2 (by rfl) (by rfl) (by rfl) ?_; simp only [List.setIfInBounds_toArray, List.set_cons_zero, List.set_cons_succ]; try go_bits) | (refine plan_skip4 (by rfl) (by rfl) (by rfl) ?_; simp only [List.setIfInBounds_toArray, List.set_cons_zero, List.set_cons_succ]; try go_bits) | (refine plan_any (by rfl) ?_) | (refine plan_keep (by rfl) ?_) | (refine plan_nil ?_) | (with_reducible refine And.intro (by first | assumption | exact Agree.refl _ _ | exact agree_drew _ _ | exact agree_alloc _ (by intro k hk; subst hk; first | omega | (simp; omega))) ?_) | (unfold Act.put; simp only [List.setIfInBounds_toArray, List.set_cons_zero, List.set_cons_succ]))
          refine (HRN.out _).mono ?_
          rintro e wb ⟨rfl, rfl⟩
          obtain ⟨x0, x1, x2, x3, x4, x5⟩ := sch_cells (HK1.out.below HX.out)
          go_wp2_with (first
            | (refine plan_pure (v := _) (by rfl) (by rfl) (by rfl) (by intro _; go_simp; with_reducible rfl) ?_; simp only [List.setIfInBounds_toArray, List.set_cons_zero, List.set_cons_succ]; try go_bits) | (refine plan_read (v := _) (by rfl) (by rfl) (by rfl) (by go_simp; with_reducible rfl) ?_; simp only [List.setIfInBounds_toArray, List.set_cons_zero, List.set_cons_succ]; try go_bits) | (refine plan_readB (v := _) (by rfl) (by rfl) (by rfl) (by intro _ hag; unfold Agree at hag; go_simp; with_reducible rfl) ?_; simp only [List.setIfInBounds_toArray, List.set_cons_zero, List.set_cons_succ]; try go_bits) | (refine plan_skip0 (by rfl) (by rfl) (by rfl) ?_; simp only [List.setIfInBounds_toArray, List.set_cons_zero, List.set_cons_succ]; try go_bits) | (refine plan_skip1 (by rfl) (by rfl) (by rfl) ?_; simp only [List.setIfInBounds_toArray, List.set_cons_zero, List.set_cons_succ]; try go_bits) | (refine plan_skip2 (by rfl) (by rfl) (by rfl) ?_; simp only [List.setIfInBounds_toArray, List.set_cons_zero, List.set_cons_succ]; try go_bits) | (refine plan_skip4 (by rfl) (by rfl) (by rfl) ?_; simp only [List.setIfInBounds_toArray, List.set_cons_zero, List.set_cons_succ]; try go_bits) | (refine plan_any (by rfl) ?_) | (refine plan_keep (by rfl) ?_) | (refine plan_nil ?_) | (with_reducible refine And.intro (by first | assumption | exact Agree.refl _ _ | exact agree_drew _ _ | exact agree_alloc _ (by intro k hk; subst hk; first | omega | (simp; omega))) ?_) | (unfold Act.put; simp only [List.setIfInBounds_toArray, List.set_cons_zero, List.set_cons_succ]))
          clear x0 x1 x2 x3 x4 x5
          refine (HCL.out _ HX.out).mono ?_
          rintro e wn ⟨rfl, hbn⟩
          have HXN := Lib.hid (HX.out.trans (hbn.mono HX.out.size))
          clear hbn HX
          have HX := HXN
          clear HXN
          go_wp2_with (first
            | (refine plan_pure (v := _) (by rfl) (by rfl) (by rfl) (by intro _; go_simp; with_reducible rfl) ?_; simp only [List.setIfInBounds_toArray, List.set_cons_zero, List.set_cons_succ]; try go_bits) | (refine plan_read (v := _) (by rfl) (by rfl) (by rfl) (by go_simp; with_reducible rfl) ?_; simp only [List.setIfInBounds_toArray, List.set_cons_zero, List.set_cons_succ]; try go_bits) | (refine plan_readB (v := _) (by rfl) (by rfl) (by rfl) (by intro _ hag; unfold Agree at hag; go_simp; with_reducible rfl) ?_; simp only [List.setIfInBounds_toArray, List.set_cons_zero, List.set_cons_succ]; try go_bits) | (refine plan_skip0 (by rfl) (by rfl) (by rfl) ?_; simp only [List.setIfInBounds_toArray, List.set_cons_zero, List.set_cons_succ]; try go_bits) | (refine plan_skip1 (by rfl) (by rfl) (by rfl) ?_; simp only [List.setIfInBounds_toArray, List.set_cons_zero, List.set_cons_succ]; try go_bits) | (refine plan_skip2 (by rfl) (by rfl) (by rfl) ?_; simp only [List.setIfInBounds_toArray, List.set_cons_zero, List.set_cons_succ]; try go_bits) | (refine plan_skip4 (by rfl) (by rfl) (by rfl) ?_; simp only [List.setIfInBounds_toArray, List.set_cons_zero, List.set_cons_succ]; try go_bits) | (refine plan_any (by rfl) ?_) | (refine plan_keep (by rfl) ?_) | (refine plan_nil ?_) | (with_reducible refine And.intro (by first | assumption | exact Agree.refl _ _ | exact agree_drew _ _ | exact agree_alloc _ (by intro k hk; subst hk; first | omega | (simp; omega))) ?_) | (unfold Act.put; simp only [List.setIfInBounds_toArray, List.set_cons_zero, List.set_cons_succ]))
          refine (HAW.out _ HX.out).mono ?_
          rintro e w9 ⟨rfl, hb9⟩
          have HB9 := Lib.hid (HX.out.trans (hb9.mono HX.out.size))
          clear hb9
          go_wp2_with (first
            | (refine plan_pure (v := _) (by rfl) (by rfl) (by rfl) (by intro _; go_simp; with_reducible rfl) ?_; simp only [List.setIfInBounds_toArray, List.set_cons_zero, List.set_cons_succ]; try go_bits) | (refine plan_read (v := _) (by rfl) (by rfl) (by rfl) (by go_simp; with_reducible rfl) ?_; simp only [List.setIfInBounds_toArray, List.set_cons_zero, List.set_cons_succ]; try go_bits) | (refine plan_readB (v := _) (by rfl) (by rfl) (by rfl) (by intro _ hag; unfold Agree at hag; go_simp; with_reducible rfl) ?_; simp only [List.setIfInBounds_toArray, List.set_cons_zero, List.set_cons_succ]; try go_bits) | (refine plan_skip0 (by rfl) (by rfl) (by rfl) ?_; simp only [List.setIfInBounds_toArray, List.set_cons_zero, List.set_cons_succ]; try go_bits) | (refine plan_skip1 (by rfl) (by rfl) (by rfl) ?_; simp only [List.setIfInBounds_toArray, List.set_cons_zero, List.set_cons_succ]; try go_bits) | (refine plan_skip2 (by rfl) (by rfl) (by rfl) ?_; simp only [List.setIfInBounds_toArray, List.set_cons_zero, List.set_cons_succ]; try go_bits) | (refine plan_skip4 (by rfl) (by rfl) (by rfl) ?_; simp only [List.setIfInBounds_toArray, List.set_cons_zero, List.set_cons_succ]; try go_bits) | (refine plan_any (by rfl) ?_) | (refine plan_keep (by rfl) ?_) | (refine plan_nil ?_) | (with_reducible refine And.intro (by first | assumption | exact Agree.refl _ _ | exact agree_drew _ _ | exact agree_alloc _ (by intro k hk; subst hk; first | omega | (simp; omega))) ?_) | (unfold Act.put; simp only [List.setIfInBounds_toArray, List.set_cons_zero, List.set_cons_succ]))
          go_ret
          exact ⟨rfl, HB0.out.trans (HB9.out.mono HB0.out.size)⟩
theorem scRights_law (v0 : Value) (s : SchV) (v1 : Value) (t : SchV) (nm : ByteArray) (_ : nm.size ≤ maxLen) (w : World) (hm : Mx w) (h0 : v0 = s.agg ∧ SchAt w (fun _ => True) s ∧ s.read) (h1 : v1 = t.agg ∧ SchAt w (fun _ => True) t ∧ t.read) :
    Calls Tryd.prog 11 #[v0, v1, .string nm] w fun e w' => e = .returned (.bool true) ∧ Below w.heap.size w w' := by
  obtain ⟨rfl, h2, h3⟩ := h0
  obtain ⟨rfl, h4, _⟩ := h1
  exact scRights_walk w hm s t nm h2 h4 (fun c hc => (h3.2.2.2 c hc).2)
end Go.Proofs.YtlgohkdckdnmhaaDoor
