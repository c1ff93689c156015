/- Schemas: Copy. -/
import Derived.Test.YtlgohkdckdnmhaaDoorRtA
import Derived.Test.YtlgohkdckdnmhaaDoorSchE
namespace Go.Proofs.YtlgohkdckdnmhaaDoor
open Go.RowKit Go.Afx

theorem idxCells_set : ∀ (l : List IdxV) (k : Nat) (x : IdxV) (_ : k < l.length) (_ : x.unique = (l[k]).unique), idxCells (l.set k x) = (idxCells l).set (k * 2) x.v
  | [], _, _, h, _ => by simp at h
  | y :: l, 0, x, _, hu => by
    obtain ⟨xv, xl, xu⟩ := x
    obtain ⟨yv, yl, yu⟩ := y
    simp only [List.getElem_cons_zero] at hu
    subst hu
    rfl
  | y :: l, k + 1, x, h, hu => by
    have ih := idxCells_set l k x (by simpa using h) (by simpa using hu)
    have e : (k + 1) * 2 = k * 2 + 1 + 1 := by omega
    have e2 : idxCells (y :: l) = y.v :: .bool y.unique :: idxCells l := rfl
    have e3 : idxCells ((y :: l).set (k + 1) x) = y.v :: .bool y.unique :: idxCells (l.set k x) := rfl
    rw [e, e2, e3, ih, List.set_cons_succ, List.set_cons_succ]
theorem list_set_same {α : Type} {l : List α} {k : Nat} {x : α} (h : l[k]? = some x) : l.set k x = l := by
  obtain ⟨hk, rfl⟩ := List.getElem?_eq_some_iff.1 h
  exact List.set_getElem_self hk
theorem set_six {w : World} {b : Nat} {t : TypeId} {a0 a1 a2 a3 a4 a5 : Value} (h : Blk w b t [a0, a1, a2, a3, a4, a5]) (v0 v1 v2 v3 v4 v5 : Value) :
    Blk ((((((w.setCell ⟨b, 0, none⟩ v0).setCell ⟨b, 1, none⟩ v1).setCell ⟨b, 2, none⟩ v2).setCell ⟨b, 3, none⟩ v3).setCell ⟨b, 4, none⟩ v4).setCell ⟨b, 5, none⟩ v5) b t [v0, v1, v2, v3, v4, v5] ∧
    Only (fun q => q = b) w ((((((w.setCell ⟨b, 0, none⟩ v0).setCell ⟨b, 1, none⟩ v1).setCell ⟨b, 2, none⟩ v2).setCell ⟨b, 3, none⟩ v3).setCell ⟨b, 4, none⟩ v4).setCell ⟨b, 5, none⟩ v5) := by
  refine ⟨?_, ?_⟩
  · have h1 := (((((h.set 0 v0).set 1 v1).set 2 v2).set 3 v3).set 4 v4).set 5 v5
    simpa only [List.set_cons_zero, List.set_cons_succ] using h1
  · have step : ∀ {u : World} (i : Nat) (v : Value), Only (fun q => q = b) w u → Only (fun q => q = b) w (u.setCell ⟨b, i, none⟩ v) := fun i v h => h.setCell (p := ⟨b, i, none⟩) (fun _ => rfl) v
    exact step 5 v5 (step 4 v4 (step 3 v3 (step 2 v2 (step 1 v1 (step 0 v0 (Only.refl _ w))))))
/-- Two schemas that say the same. -/
structure Alike (c s : SchV) : Prop where
  name : c.name = s.name
  cols : c.cols = s.cols
  idx : c.idx.map IdxV.l = s.idx.map IdxV.l
  uni : c.idx.map IdxV.unique = s.idx.map IdxV.unique
  limit : c.limit = s.limit
  parts : c.parts = s.parts
  by_ : c.by_ = s.by_
/-- A schema in memory of its own, from a block on. -/
structure SchOwn (w : World) (n : Nat) (c : SchV) : Prop where
  cols : Own w 66 2 c.colsV c.cols.length (colCells c.cols)
  idx : Own w 55 2 c.idxV c.idx.length (idxCells c.idx)
  pl : ∀ x ∈ c.idx, Own w 3 1 x.v x.l.length (ints x.l)
  fc : ∀ k, c.colsV.ownBlock = some k → n ≤ k ∧ c.idxV.ownBlock ≠ some k ∧ ∀ x ∈ c.idx, x.v.ownBlock ≠ some k
  fi : ∀ k, c.idxV.ownBlock = some k → n ≤ k ∧ ∀ x ∈ c.idx, x.v.ownBlock ≠ some k
  fp : ∀ x ∈ c.idx, ∀ k, x.v.ownBlock = some k → n ≤ k
/-- What the loop keeps: the first k indexes' places are one's own. -/
structure CpSt (w : World) (b1 : Nat) (s : SchV) (cv iv : Value) (k : Nat) (cur : List IdxV) (wr : World) : Prop where
  bel : Below w.heap.size w wr
  b1s : Blk wr b1 47 [.string s.name, cv, iv, .int .i64 s.limit, .int .i64 s.parts, .int .i64 s.by_]
  b2s : Blk wr (b1 + 1) 47 [.string ⟨#[]⟩, .slice none 0 0, .slice none 0 0, .int .i64 0, .int .i64 0, .int .i64 0]
  cols : Own wr 66 2 cv s.cols.length (colCells s.cols)
  idx : Own wr 55 2 iv cur.length (idxCells cur)
  ls : cur.map IdxV.l = s.idx.map IdxV.l
  us : cur.map IdxV.unique = s.idx.map IdxV.unique
  rest : ∀ j, k ≤ j → cur[j]? = s.idx[j]?
  pl : ∀ x ∈ cur.take k, Own wr 3 1 x.v x.l.length (ints x.l) ∧ ∀ q, x.v.ownBlock = some q → b1 + 1 < q ∧ cv.ownBlock ≠ some q ∧ iv.ownBlock ≠ some q
  fc : ∀ q, cv.ownBlock = some q → b1 + 1 < q ∧ iv.ownBlock ≠ some q
  fi : ∀ q, iv.ownBlock = some q → b1 + 1 < q

set_option maxRecDepth 100000 in
set_option maxHeartbeats 4000000 in
theorem schcopy_any (w : World) (B : Nat → Prop) (s : SchV) (h : SchAt w B s) (hcl : s.cols.length ≤ 1000) (hil : s.idx.length ≤ 1000) (hxl : ∀ x ∈ s.idx, x.l.length ≤ 1000) :
    Calls Tryd.prog 43 #[s.agg] w fun e w' => ∃ c, e = .returned c.agg ∧ Alike c s ∧ SchOwn w' w.heap.size c ∧ Below w.heap.size w w' := by
  obtain ⟨pc, cc, hpc, hcc1, hcc⟩ := h.cols.form
  obtain ⟨pi, ci, hpi, hci1, hci⟩ := h.idx.1.form
  obtain ⟨w1, hw1⟩ : ∃ w1, w.alloc (.cells #[.string s.name, .slice pc s.cols.length cc, .slice pi s.idx.length ci, .int .i64 s.limit, .int .i64 s.parts, .int .i64 s.by_] 47) = w1 := ⟨_, rfl⟩
  obtain ⟨w2, hw2⟩ : ∃ w2, w1.alloc (.cells #[.string ⟨#[]⟩, .slice none 0 0, .slice none 0 0, .int .i64 0, .int .i64 0, .int .i64 0] 47) = w2 := ⟨_, rfl⟩
  have b1 : Below w.heap.size w w1 := hw1 ▸ (Below.refl _ _).alloc (Nat.le_refl _) _
  have b2 : Below w1.heap.size w1 w2 := hw2 ▸ (Below.refl _ _).alloc (Nat.le_refl _) _
  have b12 : Below w.heap.size w w2 := b1.trans (b2.mono b1.size)
  have s1 : w1.heap.size = w.heap.size + 1 := by rw [← hw1]; simp
  have s2 : w2.heap.size = w.heap.size + 2 := by rw [← hw2]; simp; omega
  have k1 : Blk w1 w.heap.size 47 [.string s.name, .slice pc s.cols.length cc, .slice pi s.idx.length ci, .int .i64 s.limit, .int .i64 s.parts, .int .i64 s.by_] := by rw [← hw1]; exact Blk.new w _ _
  have k1b := k1.below b2
  have k2 : Blk w2 (w.heap.size + 1) 47 [.string ⟨#[]⟩, .slice none 0 0, .slice none 0 0, .int .i64 0, .int .i64 0, .int .i64 0] := by rw [← hw2, ← s1]; exact Blk.new w1 _ _
  have HCC := Lib.hid (clone_col w2 B (.slice pc s.cols.length cc) s.cols.length (colCells s.cols) ((hpc ▸ h.cols).below b12) (by omega))
  have HCI := Lib.hid (fun W (hb : Below w.heap.size w W) => clone_idx W B (.slice pi s.idx.length ci) s.idx.length (idxCells s.idx) ((hpi ▸ h.idx.1).below hb) (by omega))
  have HPL := Lib.hid (fun W (hb : Below w.heap.size w W) x (hx : x ∈ s.idx) => clone_int W B x.v x.l.length (ints x.l) ((h.idx.2 x hx).below hb) (by have := hxl x hx; omega))
  have hga : s.agg = .agg #[.string s.name, .slice pc s.cols.length cc, .slice pi s.idx.length ci, .int .i64 s.limit, .int .i64 s.parts, .int .i64 s.by_] := by unfold SchV.agg; rw [hpc, hpi]
  rw [hga]
  have HK1 := Lib.hid k1b
  have HK2 := Lib.hid k2
  have HB12 := Lib.hid b12
  have HS2 := Lib.hid s2
  have HS1 := Lib.hid s1
  obtain ⟨x0, x1, x2, x3, x4, x5⟩ := sch_cells k1
  obtain ⟨y0, y1, y2, y3, y4, y5⟩ := sch_cells k1b
  clear b1 b2 b12 s1 s2 k1 k1b k2 hga
  go_enter Tryd.func43, Tryd.ntmps43
  go_wp2_with fail
  clear hw1 hw2 x0 x1 x2 x3 x4 x5 y0 y1 y2 y3 y4 y5
  refine HCC.out.mono ?_
  rintro e w3 ⟨cv, rfl, hoc, hb3, hf3⟩
  obtain ⟨pcv, ccv, rfl, _, _⟩ := own_form hoc
  have hk3 := HK1.out.below hb3
  obtain ⟨w4, hw4⟩ : ∃ w4, w3.setCell ⟨w.heap.size, 1, none⟩ (.slice pcv s.cols.length ccv) = w4 := ⟨_, rfl⟩
  have hk4 : Blk w4 w.heap.size 47 [.string s.name, .slice pcv s.cols.length ccv, .slice pi s.idx.length ci, .int .i64 s.limit, .int .i64 s.parts, .int .i64 s.by_] := hw4 ▸ hk3.set 1 _
  have hk42 : Blk w4 w1.heap.size 47 [.string ⟨#[]⟩, .slice none 0 0, .slice none 0 0, .int .i64 0, .int .i64 0, .int .i64 0] := hw4 ▸ (HS1.out ▸ HK2.out.below hb3).setOther (by rw [HS1.out]; simp) _
  have hb4 : Below w.heap.size w w4 := hw4 ▸ (HB12.out.trans (hb3.mono HB12.out.size)).setCell (by simp) _
  have hf4 : ∀ q, (Value.slice pcv s.cols.length ccv).ownBlock = some q → w.heap.size + 1 < q := fun q hq => by have := hf3 q hq; have := HS2.out; omega
  have hc4 : Own w4 66 2 (.slice pcv s.cols.length ccv) s.cols.length (colCells s.cols) := hw4 ▸ hoc.setOther (fun hq => by have h : w.heap.size + 1 < w.heap.size := hf4 _ hq; omega) _
  have hz4 : w.heap.size + 2 ≤ w4.heap.size := by have := hb3.size; have := HS2.out; rw [← hw4]; simp; omega
  obtain ⟨z0, z1, z2, z3, z4, z5⟩ := sch_cells hk3
  obtain ⟨y0, y1, y2, y3, y4, y5⟩ := sch_cells hk4
  have HK4 := Lib.hid hk4
  have HK42 := Lib.hid hk42
  have HB4 := Lib.hid hb4
  have HF4 := Lib.hid hf4
  have HC4 := Lib.hid hc4
  have HZ4 := Lib.hid hz4
  have hfr := hk3.frozen 1
  clear hk3 hk4 hk42 hb4 hf4 hc4 hz4 hoc hb3 hf3 HCC HK1 HK2 HB12 HS2
  go_wp2_with fail
  clear hw4 z0 z1 z2 z3 z4 z5 y0 y1 y2 y3 y4 y5 hfr
  refine (HCI.out _ HB4.out).mono ?_
  rintro e w5 ⟨iv, rfl, hoi, hb5, hf5⟩
  obtain ⟨piv, civ, rfl, hci5, hci6⟩ := own_form hoi
  have hk5 := HK4.out.below hb5
  obtain ⟨w6, hw6⟩ : ∃ w6, w5.setCell ⟨w.heap.size, 2, none⟩ (.slice piv s.idx.length civ) = w6 := ⟨_, rfl⟩
  have hk6 : Blk w6 w.heap.size 47 [.string s.name, .slice pcv s.cols.length ccv, .slice piv s.idx.length civ, .int .i64 s.limit, .int .i64 s.parts, .int .i64 s.by_] := hw6 ▸ hk5.set 2 _
  have hk62 : Blk w6 (w.heap.size + 1) 47 [.string ⟨#[]⟩, .slice none 0 0, .slice none 0 0, .int .i64 0, .int .i64 0, .int .i64 0] := hw6 ▸ (HS1.out ▸ HK42.out.below hb5).setOther (by simp) _
  have hb6 : Below w.heap.size w w6 := hw6 ▸ (HB4.out.trans (hb5.mono HB4.out.size)).setCell (by simp) _
  have hf6 : ∀ q, (Value.slice piv s.idx.length civ).ownBlock = some q → w.heap.size + 1 < q := fun q hq => by have := hf5 q hq; have := HZ4.out; omega
  have hc6 : Own w6 66 2 (.slice pcv s.cols.length ccv) s.cols.length (colCells s.cols) := hw6 ▸ (HC4.out.below hb5).setOther (fun hq => by have h : w.heap.size + 1 < w.heap.size := HF4.out _ hq; omega) _
  have hi6 : Own w6 55 2 (.slice piv s.idx.length civ) s.idx.length (idxCells s.idx) := hw6 ▸ hoi.setOther (fun hq => by have h : w.heap.size + 1 < w.heap.size := hf6 _ hq; omega) _
  have hst : CpSt w w.heap.size s (.slice pcv s.cols.length ccv) (.slice piv s.idx.length civ) 0 s.idx w6 := by
    refine ⟨hb6, hk6, hk62, hc6, hi6, rfl, rfl, fun _ _ => rfl, by simp, fun q hq => ⟨HF4.out q hq, fun hi => ?_⟩, hf6⟩
    have h1 := hf5 q hi
    have h2 := HC4.out.lt q hq
    omega
  obtain ⟨z0, z1, z2, z3, z4, z5⟩ := sch_cells hk5
  obtain ⟨y0, y1, y2, y3, y4, y5⟩ := sch_cells hk6
  have HST := Lib.hid hst
  have hfr := hk5.frozen 2
  clear hk5 hk6 hk62 hb6 hf6 hc6 hi6 hst hoi hb5 hf5 HCI HK4 HK42 HB4 HF4 HC4 HZ4
  go_wp2_with fail
  clear hw6 z0 z1 z2 z3 z4 z5 y0 y1 y2 y3 y4 y5 hfr
  go_loopw [16] (fun i wr => ∃ (k : Nat) (cur : List IdxV), i = .int .i64 k ∧ k ≤ s.idx.length ∧ CpSt w w.heap.size s (.slice pcv s.cols.length ccv) (.slice piv s.idx.length civ) k cur wr) (fun i _ => s.idx.length - (intOf i).toNat)
  case atStart => exact ⟨0, s.idx, rfl, Nat.zero_le _, HST.out⟩
  case round =>
    obtain ⟨k, cur, rfl, hk, hst⟩ := hrel
    have hlen : cur.length = s.idx.length := by have := congrArg List.length hst.ls; simpa using this
    have HS := Lib.hid hst
    clear HST
    by_cases hka : k < s.idx.length
    · have hkc : k < cur.length := by omega
      have hidx := hst.idx.sl (B := fun _ => True) (fun _ _ => trivial)
      obtain ⟨g, off, cap, hv, hg, e0, e1⟩ := sl_idx hidx hkc
      rw [hlen] at hv
      cases hv
      have hck : cur[k] = s.idx[k] := by
        have := hst.rest k (Nat.le_refl _)
        rw [List.getElem?_eq_getElem hkc, List.getElem?_eq_getElem hka] at this
        exact Option.some.inj this
      rw [hck] at e0 e1
      have HCK := Lib.hid hck
      have hxm := List.getElem_mem hka
      have hsrc := h.idx.2 s.idx[k] hxm
      obtain ⟨px, cx, hpx, _, _⟩ := hsrc.form
      have hal : Below wr.heap.size wr (wr.alloc (.cells #[s.idx[k].v, .bool s.idx[k].unique] 55)) := (Below.refl _ _).alloc (Nat.le_refl _) _
      have hkx : Blk (wr.alloc (.cells #[s.idx[k].v, .bool s.idx[k].unique] 55)) wr.heap.size 55 [s.idx[k].v, .bool s.idx[k].unique] := Blk.new wr _ _
      have HPX := Lib.hid (HPL.out _ (hst.bel.trans (hal.mono hst.bel.size)).drew s.idx[k] hxm)
      have c0 := hkx.cell 0
      have c1 := hkx.cell 1
      simp only [List.getElem?_cons_zero, List.getElem?_cons_succ] at c0 c1
      have y2 := (hst.b1s.below hal).cell 2
      simp only [List.getElem?_cons_zero, List.getElem?_cons_succ] at y2
      have hb1l : w.heap.size < wr.heap.size := hst.b1s.lt
      have z2 := hst.b1s.cell 2
      simp only [List.getElem?_cons_zero, List.getElem?_cons_succ] at z2
      have HAL := Lib.hid hal
      have HU : Hid (s.idx[k].unique = (cur[k]).unique) := by show _ = _; rw [hck]
      have HLL : Hid (s.idx[k].l = (cur[k]).l) := by show _ = _; rw [hck]
      have HVV : Hid (s.idx[k].v = (cur[k]).v) := by show _ = _; rw [hck]
      have HB1 := Lib.hid hb1l
      have hgl : g ≠ w.heap.size ∧ g ≠ wr.heap.size ∧ g < wr.heap.size := ⟨fun e => by have := hst.fi g rfl; omega, by omega, hg⟩
      have HGL := Lib.hid hgl
      generalize s.idx[k] = x at *
      obtain ⟨xv, xl, xu⟩ := x
      simp only at hpx hal hkx HPX c0 c1 e0 e1 HAL HU HLL HVV
      subst hpx
      have hag : Hid (∀ W', Below (wr.alloc (.cells #[.slice px xl.length cx, .bool xu] 55)).heap.size (wr.alloc (.cells #[.slice px xl.length cx, .bool xu] 55)).drew W' → Agree (fun q => q = w.heap.size ∨ q = wr.heap.size) (wr.alloc (.cells #[.slice px xl.length cx, .bool xu] 55)).drew W') := fun W' h2 q o hq => by
        rcases hq with rfl | rfl
        · exact h2.cell (by show w.heap.size < _; simp; omega)
        · exact h2.cell (by show wr.heap.size < _; simp)
      clear hst hidx hck hxm hsrc hal hkx hg hb1l hgl
      go_wp2_with fail
      refine wp_region_lit_plan [] [(0, 0), (2, 0), (3, 0), (1, 2), (4, 1), (5, 3), (6, 0), (7, 0), (8, 4)] (fun q => q = w.heap.size ∨ q = wr.heap.size) (by kernel_rfl) (by kernel_rfl) (fun c a d v w h => by cases d <;> exact h) ?_
      go_wp2_with (first
        | (refine plan_pure (v := _) (by rfl) (by rfl) (by rfl) (by intro _; go_simp; with_reducible rfl) ?_; simp only [List.setIfInBounds_toArray, List.set_cons_zero, List.set_cons_succ]; try go_bits) | (refine plan_read (v := _) (by rfl) (by rfl) (by rfl) (by go_simp; with_reducible rfl) ?_; simp only [List.setIfInBounds_toArray, List.set_cons_zero, List.set_cons_succ]; try go_bits) | (refine plan_readB (v := _) (by rfl) (by rfl) (by rfl) (by intro _ hag; unfold Agree at hag; go_simp; with_reducible rfl) ?_; simp only [List.setIfInBounds_toArray, List.set_cons_zero, List.set_cons_succ]; try go_bits) | (refine plan_skip0 (by rfl) (by rfl) (by rfl) ?_; simp only [List.setIfInBounds_toArray, List.set_cons_zero, List.set_cons_succ]; try go_bits) | (refine plan_skip1 (by rfl) (by rfl) (by rfl) ?_; simp only [List.setIfInBounds_toArray, List.set_cons_zero, List.set_cons_succ]; try go_bits) | (refine plan_skip2 (by rfl) (by rfl) (by rfl) ?_; simp only [List.setIfInBounds_toArray, List.set_cons_zero, List.set_cons_succ]; try go_bits) | (refine plan_skip4 (by rfl) (by rfl) (by rfl) ?_; simp only [List.setIfInBounds_toArray, List.set_cons_zero, List.set_cons_succ]; try go_bits) | (refine plan_any (by rfl) ?_) | (refine plan_keep (by rfl) ?_) | (refine plan_nil ?_) | (with_reducible refine And.intro (by first | assumption | exact Agree.refl _ _ | exact agree_drew _ _ | exact agree_alloc _ (by intro k hk; subst hk; first | omega | (simp; omega))) ?_) | (unfold Act.put; simp only [List.setIfInBounds_toArray, List.set_cons_zero, List.set_cons_succ]))
      refine HPX.out.mono ?_
      clear HPX
      rintro e w7 ⟨v7, rfl, ho7, hb7, hf7⟩
      have hag7 := hag.out _ hb7
      obtain ⟨p7, c7, rfl, _, _⟩ := own_form ho7
      have hidx7 := ((HS.out.idx.below HAL.out).drew.below hb7)
      rw [hlen] at hidx7
      obtain ⟨q0, q1⟩ := hidx7.cellAt (j := k * 2) (by omega)
      have q2 : (idxCells cur)[k * 2]? = some (.slice px xl.length cx) := by
        have h := cells2_at IdxV.cells (fun _ => rfl) cur k 0 hkc (by omega)
        rw [HVV.out]
        exact h
      rw [q2] at q0
      have HO7 := Lib.hid ho7
      have HB7 := Lib.hid hb7
      have HF7 := Lib.hid hf7
      clear ho7 hb7 hf7 hidx7
      go_wp2_with (first
        | (refine plan_pure (v := _) (by rfl) (by rfl) (by rfl) (by intro _; go_simp; with_reducible rfl) ?_; simp only [List.setIfInBounds_toArray, List.set_cons_zero, List.set_cons_succ]; try go_bits) | (refine plan_read (v := _) (by rfl) (by rfl) (by rfl) (by go_simp; with_reducible rfl) ?_; simp only [List.setIfInBounds_toArray, List.set_cons_zero, List.set_cons_succ]; try go_bits) | (refine plan_readB (v := _) (by rfl) (by rfl) (by rfl) (by intro _ hag; unfold Agree at hag; go_simp; with_reducible rfl) ?_; simp only [List.setIfInBounds_toArray, List.set_cons_zero, List.set_cons_succ]; try go_bits) | (refine plan_skip0 (by rfl) (by rfl) (by rfl) ?_; simp only [List.setIfInBounds_toArray, List.set_cons_zero, List.set_cons_succ]; try go_bits) | (refine plan_skip1 (by rfl) (by rfl) (by rfl) ?_; simp only [List.setIfInBounds_toArray, List.set_cons_zero, List.set_cons_succ]; try go_bits) | (refine plan_skip2 (by rfl) (by rfl) (by rfl) ?_; simp only [List.setIfInBounds_toArray, List.set_cons_zero, List.set_cons_succ]; try go_bits) | (refine plan_skip4 (by rfl) (by rfl) (by rfl) ?_; simp only [List.setIfInBounds_toArray, List.set_cons_zero, List.set_cons_succ]; try go_bits) | (refine plan_any (by rfl) ?_) | (refine plan_keep (by rfl) ?_) | (refine plan_nil ?_) | (with_reducible refine And.intro (by first | assumption | exact Agree.refl _ _ | exact agree_drew _ _ | exact agree_alloc _ (by intro k hk; subst hk; first | omega | (simp; omega))) ?_) | (unfold Act.put; simp only [List.setIfInBounds_toArray, List.set_cons_zero, List.set_cons_succ]))
      have hst := HS.out
      have hg1 : (Value.slice (some ⟨g, off, none⟩) s.idx.length civ).ownBlock = some g := rfl
      have hgb := hst.fi g hg1
      have h17 : Below wr.heap.size wr w7 := HAL.out.drew.trans (HB7.out.mono HAL.out.size)
      have hcg : (Value.slice pcv s.cols.length ccv).ownBlock ≠ some g := fun hq => (hst.fc g hq).2 hg1
      have hsz : wr.heap.size < w7.heap.size := by have h1 := HB7.out.size; have : (wr.alloc (.cells #[Value.slice px xl.length cx, Value.bool xu] 55)).drew.heap.size = wr.heap.size + 1 := by simp
                                                   omega
      have hfr : ∀ q, (Value.slice p7 xl.length c7).ownBlock = some q → wr.heap.size < q := fun q hq => by
        have h1 := HF7.out q hq
        have : (wr.alloc (.cells #[Value.slice px xl.length cx, Value.bool xu] 55)).drew.heap.size = wr.heap.size + 1 := by simp
        omega
      refine ⟨⟨k + 1, cur.set k ⟨.slice p7 xl.length c7, xl, xu⟩, by go_num, by omega, ?_⟩, by (simp [intOf]) <;> omega⟩
      refine ⟨(hst.bel.trans (h17.mono hst.bel.size)).setCell (by simp; omega) _, (hst.b1s.below h17).setOther (by simp; omega) _, (hst.b2s.below h17).setOther (by simp; omega) _, (hst.cols.below h17).setOther hcg _, ?_, ?_, ?_, ?_, ?_, hst.fc, hst.fi⟩
      · have hi7 := hst.idx.below h17
        have h3 : cur.length = s.idx.length := hlen
        rw [h3] at hi7
        have h2 := hi7.store (j := k * 2) (.slice p7 xl.length c7) rfl
        rw [List.length_set, h3, idxCells_set cur k _ hkc HU.out]
        exact h2
      · rw [List.map_set, ← hst.ls]
        exact list_set_same (by simp [HLL.out, hkc])
      · rw [List.map_set, ← hst.us]
        exact list_set_same (by simp [HU.out, hkc])
      · intro j hj
        rw [List.getElem?_set_ne (by omega)]
        exact hst.rest j (by omega)
      · intro y hy
        rw [List.take_set, ← List.take_append_getElem hkc, List.set_append_right _ _ (by rw [List.length_take]; omega)] at hy
        have hn0 : k - (cur.take k).length = 0 := by rw [List.length_take]; omega
        rw [hn0] at hy
        rcases List.mem_append.1 hy with hy | hy
        · obtain ⟨ha, hb⟩ := hst.pl y hy
          exact ⟨(ha.below h17).setOther (fun hq => (hb g hq).2.2 hg1) _, hb⟩
        · have hy2 : y = ⟨.slice p7 xl.length c7, xl, xu⟩ := by simpa using hy
          subst hy2
          refine ⟨HO7.out.setOther (fun hq => by have := hfr g hq; have := HGL.out.2.2; omega) _, fun q hq => ⟨?_, fun hc => ?_, fun hi => ?_⟩⟩
          · have := hfr q hq; have := hst.b2s.lt; omega
          · have := hfr q hq; have := hst.cols.lt q hc; omega
          · have := hfr q hq; have := hst.idx.lt q hi; omega
    · obtain rfl : k = s.idx.length := by omega
      obtain ⟨y0, y1, y2, y3, y4, y5⟩ := sch_cells hst.b1s
      have hb2 := hst.b2s
      rw [← HS1.out] at hb2
      obtain ⟨z0, z1, z2, z3, z4, z5⟩ := sch_cells hb2
      have f0 := hb2.frozen 0
      have f1 := hb2.frozen 1
      have f2 := hb2.frozen 2
      have f3 := hb2.frozen 3
      have f4 := hb2.frozen 4
      have f5 := hb2.frozen 5
      clear hst hb2
      go_wp2
      have hst := HS.out
      have hb2 := hst.b2s
      rw [← HS1.out] at hb2
      obtain ⟨hk, hon⟩ := set_six hb2 (.string s.name) (.slice pcv s.cols.length ccv) (.slice piv s.idx.length civ) (.int .i64 s.limit) (.int .i64 s.parts) (.int .i64 s.by_)
      generalize ((((((wr.setCell ⟨w1.heap.size, 0, none⟩ (.string s.name)).setCell ⟨w1.heap.size, 1, none⟩ (.slice pcv s.cols.length ccv)).setCell ⟨w1.heap.size, 2, none⟩ (.slice piv s.idx.length civ)).setCell ⟨w1.heap.size, 3, none⟩ (.int .i64 s.limit)).setCell ⟨w1.heap.size, 4, none⟩ (.int .i64 s.parts)).setCell ⟨w1.heap.size, 5, none⟩ (.int .i64 s.by_)) = wE at *
      obtain ⟨m0, m1, m2, m3, m4, m5⟩ := sch_cells hk
      have h1 : w1.heap.size = w.heap.size + 1 := HS1.out
      have hcn : ∀ q, (Value.slice pcv s.cols.length ccv).ownBlock = some q → ¬ q = w1.heap.size := fun q hq => by have := (hst.fc q hq).1; omega
      have hin : ∀ q, (Value.slice piv s.idx.length civ).ownBlock = some q → ¬ q = w1.heap.size := fun q hq => by have := hst.fi q hq; omega
      have hpn : ∀ x ∈ cur, Own wr 3 1 x.v x.l.length (ints x.l) ∧ ∀ q, x.v.ownBlock = some q → w.heap.size + 1 < q ∧ (Value.slice pcv s.cols.length ccv).ownBlock ≠ some q ∧ (Value.slice piv s.idx.length civ).ownBlock ≠ some q := fun x hx => hst.pl x (by rw [List.take_of_length_le (by omega)]; exact hx)
      have hfin : SchOwn wE w.heap.size ⟨s.name, .slice pcv s.cols.length ccv, s.cols, .slice piv s.idx.length civ, cur, s.limit, s.parts, s.by_⟩ := by
        refine ⟨hst.cols.only hon hcn, hst.idx.only hon hin, fun x hx => (hpn x hx).1.only hon (fun q hq => by have := ((hpn x hx).2 q hq).1; omega), fun q hq => ⟨by have := (hst.fc q hq).1; omega, (hst.fc q hq).2, fun x hx hq2 => ((hpn x hx).2 q hq2).2.1 hq⟩, fun q hq => ⟨by have := hst.fi q hq; omega, fun x hx hq2 => ((hpn x hx).2 q hq2).2.2 hq⟩, fun x hx q hq => by have := ((hpn x hx).2 q hq).1; omega⟩
      have hbel : Below w.heap.size w wE := hst.bel.trans (hon.below hst.bel.size (fun q hq => by omega))
      exact bodyPost_ret (v := .agg #[.string s.name, .slice pcv s.cols.length ccv, .slice piv s.idx.length civ, .int .i64 s.limit, .int .i64 s.parts, .int .i64 s.by_]) (by simp [results, Tryd.results43, go_sem, m0, m1, m2, m3, m4, m5]) rfl ⟨⟨s.name, .slice pcv s.cols.length ccv, s.cols, .slice piv s.idx.length civ, cur, s.limit, s.parts, s.by_⟩, rfl, ⟨rfl, rfl, hst.ls, hst.us, rfl, rfl, rfl⟩, hfin, hbel⟩
end Go.Proofs.YtlgohkdckdnmhaaDoor
