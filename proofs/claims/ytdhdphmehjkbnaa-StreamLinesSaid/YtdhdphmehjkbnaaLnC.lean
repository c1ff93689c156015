/- Batches copied: stream.copied. -/
import Derived.Test.YtdhdphmehjkbnaaLnB2
namespace Go.Proofs.Ytdhdphmehjkbnaa
open Go.RowKit Go.Afx

def BatV.key (b : BatV) : Int × List (List AV) := (b.id, b.rows.map RowV.l)
/-- What a copy leaves: rows of its own, in new memory. -/
def CopyOut (w : World) (id : Int) (rows : List RowV) (e : Ending) (w' : World) : Prop :=
  ∃ v acc, e = .returned (.agg #[.int .i64 id, v]) ∧ RowsAt w' (fun k => w.heap.size ≤ k) v acc ∧ acc.map RowV.l = rows.map RowV.l ∧ Below w.heap.size w w'
theorem elemRowLn : Elem Try.prog 36 48 1 24 (.slice none 0 0) :=
  ⟨Try.underlying36, by kernel_rfl, rfl, by omega, by intro u hu; simp [Value.cells] at hu; subst hu; rfl⟩
/-- The copy under way: the block b holds the rows so far. -/
def CopySt (w : World) (b : Nat) (id : Int) (rows : List RowV) (k : Nat) (wr : World) : Prop :=
  ∃ nv acc, Blk wr b 38 [.int .i64 id, nv] ∧ Own wr 48 1 nv acc.length (rowVals acc) ∧ (∀ r ∈ acc, Sl wr (fun q => b < q ∧ nv.ownBlock ≠ some q) 3 r.v r.l.length (rowCells r.l)) ∧
    (∀ q, nv.ownBlock = some q → b < q) ∧ acc.map RowV.l = (rows.map RowV.l).take k ∧ Only (fun q => q = b) w wr

set_option maxRecDepth 100000 in
set_option maxHeartbeats 1000000 in
theorem copied_any (w : World) (B : Nat → Prop) (id : Int) (v : Value) (rows : List RowV) (hr : RowsAt w B v rows) (hrl : rows.length ≤ 1000000) (hll : ∀ r ∈ rows, r.l.length ≤ 1000000) :
    Calls Try.prog 91 #[.agg #[.int .i64 id, v]] w (CopyOut w id rows) := by
  obtain ⟨p, cap, rfl, hc1, hc2⟩ := hr.1.form
  have hal : Below w.heap.size w (((w.alloc (.cells #[.int .i64 id, .slice p rows.length cap] 38)).alloc (.cells #[.int .i64 0, .slice none 0 0] 38)).alloc (.cells #[.int .i64 id, .slice none 0 0] 38)) :=
    (((Below.refl _ _).alloc (Nat.le_refl _) _).alloc (by simp) _).alloc (by simp; omega) _
  have hk := Blk.new ((w.alloc (.cells #[.int .i64 id, .slice p rows.length cap] 38)).alloc (.cells #[.int .i64 0, .slice none 0 0] 38)) 38 [.int .i64 id, .slice none 0 0]
  have hk2 := (Blk.new (w.alloc (.cells #[.int .i64 id, .slice p rows.length cap] 38)) 38 [.int .i64 0, .slice none 0 0]).alloc (.cells #[.int .i64 id, .slice none 0 0] 38)
  have hs1 : (w.alloc (.cells #[.int .i64 id, .slice p rows.length cap] 38)).heap.size = w.heap.size + 1 := by simp
  have hs2 : ((w.alloc (.cells #[.int .i64 id, .slice p rows.length cap] 38)).alloc (.cells #[.int .i64 0, .slice none 0 0] 38)).heap.size = w.heap.size + 1 + 1 := by simp
  have hs3 : (((w.alloc (.cells #[.int .i64 id, .slice p rows.length cap] 38)).alloc (.cells #[.int .i64 0, .slice none 0 0] 38)).alloc (.cells #[.int .i64 id, .slice none 0 0] 38)).heap.size = w.heap.size + 1 + 1 + 1 := by simp
  rw [hs2] at hk
  rw [hs1] at hk2
  have hR : RowsAt (((w.alloc (.cells #[.int .i64 id, .slice p rows.length cap] 38)).alloc (.cells #[.int .i64 0, .slice none 0 0] 38)).alloc (.cells #[.int .i64 id, .slice none 0 0] 38)) (fun q => q < w.heap.size) (.slice p rows.length cap) rows := RowsAt.below ⟨hr.1.mono (Nat.le_refl _) (fun _ _ _ => rfl) (fun _ _ h => h), fun r h => (hr.2 r h).mono (Nat.le_refl _) (fun _ _ _ => rfl) (fun _ _ h => h)⟩ hal
  have HR := Lib.hid hR
  have HLL := Lib.hid hll
  have HAL := Lib.hid hal
  have HK := Lib.hid hk
  have HK2 := Lib.hid hk2
  have HS3 := Lib.hid hs3
  clear hr hR hll hal hk hk2 hs1 hs2 hs3
  go_enter Try.func91, Try.ntmps91
  go_wp2
  generalize hw1 : ((w.alloc (.cells #[.int .i64 id, .slice p rows.length cap] 38)).alloc (.cells #[.int .i64 0, .slice none 0 0] 38)).alloc (.cells #[.int .i64 id, .slice none 0 0] 38) = w1 at *
  clear hw1
  go_loopw [12] (fun i wr => ∃ k : Nat, i = .int .i64 k ∧ k ≤ rows.length ∧ CopySt w1 (w.heap.size + 1 + 1) id rows k wr) (fun i _ => rows.length - (intOf i).toNat)
  case atStart => exact ⟨0, rfl, Nat.zero_le _, _, [], HK.out, Own.nil _ _ _, by simp, by simp [Value.ownBlock], by simp, Only.refl _ _⟩
  case round =>
    obtain ⟨k, rfl, hk, hst⟩ := hrel
    have HST := Lib.hid hst
    obtain ⟨nv, acc, hb, hown, hrows, hnew, hacc, ho⟩ := hst
    obtain ⟨pv, cv, rfl, hcv1, hcv2⟩ := own_form hown
    have h1 := HS3.out
    have x0 : wr.cell? ⟨w.heap.size + 1 + 1, 0, none⟩ = some (.int .i64 id) := hb.cell 0
    have x1 : wr.cell? ⟨w.heap.size + 1 + 1, 1, none⟩ = some (.slice pv acc.length cv) := hb.cell 1
    have xlt : w.heap.size + 1 + 1 < wr.heap.size := hb.lt
    by_cases hka : k < rows.length
    · obtain ⟨g, off, cap1, hv, hck⟩ := (HR.out.only ho (fun q hq h => by omega)).at hka
      cases hv
      have hrow := (HR.out.only ho (fun q hq h => by omega)).2 rows[k] (List.getElem_mem hka)
      have hlen := HLL.out rows[k] (List.getElem_mem hka)
      have hT : (rows.map RowV.l).take (k + 1) = (rows.map RowV.l).take k ++ [rows[k].l] := by
        rw [List.take_succ_eq_append_getElem (by simpa using hka), List.getElem_map]
      have HT := Lib.hid hT
      clear hT
      generalize rows[k] = r at *
      obtain ⟨rv, rl⟩ := r
      simp only at hck hrow hlen HT
      obtain ⟨pr, cr, rfl, hcr1, hcr2⟩ := hrow.form
      have HCV := Lib.hid (clone_val wr.drew _ _ rl.length _ hrow.drew (by omega))
      have hacl : acc.length ≤ rows.length := by
        have := congrArg List.length hacc
        rw [List.length_map, List.length_take, List.length_map] at this
        omega
      have HOWN := Lib.hid hown
      have HROWS := Lib.hid hrows
      have HNEW := Lib.hid hnew
      have HB := Lib.hid hb
      have HACC := Lib.hid hacc
      have HO := Lib.hid ho
      have HX1 : Hid (∀ W, Below wr.heap.size wr W → W.cell? ⟨w.heap.size + 1 + 1, 1, none⟩ = some (.slice pv acc.length cv)) := fun W h => (hb.below h).cell 1
      clear hrow hown hrows hnew hb hacc ho HST
      go_wp2_with fail
      refine wp_region_lit_plan [] [(0, 0), (2, 0), (1, 2), (3, 3), (4, 3), (5, 4), (6, 0), (7, 4)] (fun q => q = w.heap.size + 1 + 1) (by kernel_rfl) (by kernel_rfl) (fun c a d v w h => by cases d <;> exact h) ?_
      go_wp2_with (first
        | (refine plan_pure (v := _) (by rfl) (by rfl) (by rfl) (by intro _; go_simp; with_reducible rfl) ?_; simp only [List.setIfInBounds_toArray, List.set_cons_zero, List.set_cons_succ]; try go_bits) | (refine plan_read (v := _) (by rfl) (by rfl) (by rfl) (by go_simp; with_reducible rfl) ?_; simp only [List.setIfInBounds_toArray, List.set_cons_zero, List.set_cons_succ]; try go_bits) | (refine plan_readB (v := _) (by rfl) (by rfl) (by rfl) (by intro _ hag; unfold Agree at hag; go_simp; with_reducible rfl) ?_; simp only [List.setIfInBounds_toArray, List.set_cons_zero, List.set_cons_succ]; try go_bits) | (refine plan_skip0 (by rfl) (by rfl) (by rfl) ?_; simp only [List.setIfInBounds_toArray, List.set_cons_zero, List.set_cons_succ]; try go_bits) | (refine plan_skip1 (by rfl) (by rfl) (by rfl) ?_; simp only [List.setIfInBounds_toArray, List.set_cons_zero, List.set_cons_succ]; try go_bits) | (refine plan_skip2 (by rfl) (by rfl) (by rfl) ?_; simp only [List.setIfInBounds_toArray, List.set_cons_zero, List.set_cons_succ]; try go_bits) | (refine plan_skip4 (by rfl) (by rfl) (by rfl) ?_; simp only [List.setIfInBounds_toArray, List.set_cons_zero, List.set_cons_succ]; try go_bits) | (refine plan_any (by rfl) ?_) | (refine plan_keep (by rfl) ?_) | (refine plan_nil ?_) | (with_reducible refine And.intro (by first | assumption | exact Agree.refl _ _ | exact agree_drew _ _ | exact agree_alloc _ (by intro k hk; subst hk; first | omega | (simp; omega))) ?_) | (unfold Act.put; simp only [List.setIfInBounds_toArray, List.set_cons_zero, List.set_cons_succ])
        | (go_at_call 102; refine HCV.out.mono ?_; clear HCV; rintro e w5 ⟨vx, rfl, hx, hb5, hnx⟩; have hb5b : Below wr.heap.size wr w5 := ((Below.refl wr.heap.size wr).drew).trans (hb5.mono (Nat.le_refl _)); have ha5 : Agree (fun q => q = w.heap.size + 1 + 1) wr.drew w5 := agree_bdrew hb5b xlt; obtain ⟨px, cx, rfl, hcx1, hcx2⟩ := own_form hx; have hal : Below w5.heap.size w5 (w5.alloc (.cells #[.slice px rl.length cx] 48)) := (Below.refl _ _).alloc (Nat.le_refl _) _; have ho1 := (HOWN.out.below hb5b).below hal; have hs1 : Sl (w5.alloc (.cells #[.slice px rl.length cx] 48)) (fun _ => True) 1 (.slice (some ⟨w5.heap.size, 0, none⟩) 1 1) 1 (rowVals [⟨.slice px rl.length cx, rl⟩]) := (Own.made w5 48 1 (rowVals [⟨.slice px rl.length cx, rl⟩]) [] 1 1 rfl (Ones.nil.cons rfl) (Nat.le_refl _) (by simp [maxLen]) (by simp [rowVals])).sl (fun _ _ => trivial); have x15 := HX1.out _ hb5b; have xlt5 : w.heap.size + 1 + 1 < w5.heap.size := Nat.lt_of_lt_of_le xlt hb5b.size; have HB5 := Lib.hid hb5b; have HAL5 := Lib.hid hal; have HXX := Lib.hid hx; have HNX := Lib.hid hnx; clear hb5 hb5b hal hx hnx)
        | (at_builtin; refine wpList_app rfl _ _ rfl elemRowLn (by rfl) ho1 (by rfl) hs1 (by unfold maxLen; omega) (by omega) ?_; intro v1 w6 g1 g2 g3 g4 g5; clear ho1 hs1; obtain ⟨p7, c7, rfl, hc71, hc72⟩ := own_form g1; have hb6 := ((HB.out.below HB5.out).below HAL5.out).only g2 (fun h => by have := HNEW.out _ h; omega); have kf : ∀ i, w6.frozen? ⟨w.heap.size + 1 + 1, i, none⟩ = false := hb6.frozen; have hb6c : w6.cell? ⟨w.heap.size + 1 + 1, 1, none⟩ = some (.slice pv acc.length cv) := hb6.cell 1; have HB6 := Lib.hid hb6; have G1 := Lib.hid g1; have G2 := Lib.hid g2; have G3 := Lib.hid g3; clear g1 g2 g3 g4 g5 hb6))
      refine ⟨⟨k + 1, by go_num, by omega, .slice p7 (acc.length + 1) c7, acc ++ [⟨.slice px rl.length cx, rl⟩], HB6.out.set 1 _, ?_, fun r hr => ?_, fun q hq => ?_, ?_, ?_⟩, by (simp [intOf]) <;> omega⟩
      · rw [List.length_append, rowVals_append]
        refine G1.out.setOther (fun h => ?_) _
        rcases G3.out with h2 | h2
        · rw [h2] at h
          have h3 : w.heap.size + 1 + 1 < w.heap.size + 1 + 1 := HNEW.out _ h
          omega
        · rw [h2] at h
          have : w5.heap.size + 1 = w.heap.size + 1 + 1 := by simpa using h
          omega
      · have hmv : ∀ r : RowV, Sl (w5.alloc (.cells #[.slice px rl.length cx] 48)) (fun q => w.heap.size + 1 + 1 < q ∧ q ≠ w5.heap.size ∧ q ≠ w5.heap.size + 1 ∧ (Value.slice pv acc.length cv).ownBlock ≠ some q) 3 r.v r.l.length (rowCells r.l) → Sl (w6.setCell ⟨w.heap.size + 1 + 1, 1, none⟩ (.slice p7 (acc.length + 1) c7)) (fun q => w.heap.size + 1 + 1 < q ∧ (Value.slice p7 (acc.length + 1) c7).ownBlock ≠ some q) 3 r.v r.l.length (rowCells r.l) := fun r h => by
          have h6 : Sl w6 (fun q => w.heap.size + 1 + 1 < q ∧ (Value.slice p7 (acc.length + 1) c7).ownBlock ≠ some q) 3 r.v r.l.length (rowCells r.l) := h.mono G2.out.size (fun q hq hl => G2.out.block q hl hq.2.2.2) (fun q hq hl => ⟨hq.1, fun h7 => by
            rcases G3.out with h1 | h1
            · rw [h1] at h7; exact hq.2.2.2 h7
            · rw [h1] at h7
              have : w5.heap.size + 1 = q := by simpa using h7
              exact hq.2.2.1 this.symm⟩)
          exact h6.only ((Only.refl (fun q => q = w.heap.size + 1 + 1) w6).setCell (p := ⟨w.heap.size + 1 + 1, 1, none⟩) (fun _ => rfl) _) (fun q hq h => by have h10 : q = w.heap.size + 1 + 1 := h; have := hq.1; omega)
        rcases List.mem_append.1 hr with hr | hr
        · refine hmv r (((HROWS.out r hr).mono HB5.out.size (fun q _ hl => HB5.out.block q hl) (fun q hq hl => ⟨hq.1, ?_, ?_, hq.2⟩)).below HAL5.out)
          · have := HB5.out.size; omega
          · have := HB5.out.size; omega
        · rw [List.mem_singleton.1 hr]
          refine hmv ⟨.slice px rl.length cx, rl⟩ ((HXX.out.sl (fun q hq => ⟨?_, ?_, ?_, ?_⟩)).below HAL5.out)
          · have h8 : wr.heap.size ≤ q := HNX.out q hq
            omega
          · have := HXX.out.lt q hq; omega
          · have := HXX.out.lt q hq; omega
          · intro h9
            have h8 : wr.heap.size ≤ q := HNX.out q hq
            have := HOWN.out.lt q h9; omega
      · rcases G3.out with h2 | h2
        · rw [h2] at hq
          exact HNEW.out q hq
        · rw [h2] at hq
          have : w5.heap.size + 1 = q := by simpa using hq
          omega
      · rw [List.map_append, HACC.out, HT.out]; rfl
      · refine Only.setCell (S := fun q => q = w.heap.size + 1 + 1) ?_ (p := ⟨w.heap.size + 1 + 1, 1, none⟩) (fun _ => rfl) _
        refine ((HO.out.trans (Only.of_none HB5.out (S := fun _ => False)) (fun _ _ h => h.elim)).trans (Only.of_none HAL5.out (S := fun _ => False)) (fun _ _ h => h.elim)).trans G2.out (fun q hq h => ?_)
        have := HNEW.out q h; omega
    · obtain rfl : k = rows.length := by omega
      have hk2 := HK2.out.only ho (fun h => by omega)
      have y0 : wr.cell? ⟨w.heap.size + 1, 0, none⟩ = some (.int .i64 0) := hk2.cell 0
      have y1 : wr.cell? ⟨w.heap.size + 1, 1, none⟩ = some (.slice none 0 0) := hk2.cell 1
      have kf : ∀ i, wr.frozen? ⟨w.heap.size + 1, i, none⟩ = false := hk2.frozen
      have ylt := hk2.lt
      have hfin : RowsAt wr (fun q => w.heap.size + 1 + 1 ≤ q) (.slice pv acc.length cv) acc := ⟨hown.sl (fun q hq => Nat.le_of_lt (hnew q hq)), fun r hr => (hrows r hr).mono (Nat.le_refl _) (fun _ _ _ => rfl) (fun q hq _ => Nat.le_of_lt hq.1)⟩
      have HFIN := Lib.hid hfin
      have HACC : Hid (acc.map RowV.l = rows.map RowV.l) := by
        rw [hacc, List.take_of_length_le (by simp)]
        exact Lib.hid rfl
      have HO := Lib.hid ho
      clear hown hrows hnew hacc ho hb HST hk2 hfin
      go_wp2
      refine bodyPost_ret (v := .agg #[.int .i64 id, .slice pv acc.length cv]) (by simp [results, Try.results91, go_sem, y0, y1]) rfl ?_
      unfold CopyOut
      refine ⟨_, acc, rfl, ?_, HACC.out, ?_⟩
      · have ho2 : Only (fun q => q = w.heap.size + 1) wr ((wr.setCell ⟨w.heap.size + 1, 0, none⟩ (.int .i64 id)).setCell ⟨w.heap.size + 1, 1, none⟩ (.slice pv acc.length cv)) := ((Only.refl (fun q => q = w.heap.size + 1) wr).setCell (p := ⟨w.heap.size + 1, 0, none⟩) (fun _ => rfl) _).setCell (p := ⟨w.heap.size + 1, 1, none⟩) (fun _ => rfl) _
        have h8 := HFIN.out.only ho2 (fun q hq h => by omega)
        exact ⟨h8.1.mono (Nat.le_refl _) (fun _ _ _ => rfl) (fun _ h _ => by omega), fun r hr => (h8.2 r hr).mono (Nat.le_refl _) (fun _ _ _ => rfl) (fun _ h _ => by omega)⟩
      · have hb7 : Below w.heap.size w1 wr := HO.out.below HAL.out.size (fun q hq => by omega)
        exact ((HAL.out.trans hb7).setCell (p := ⟨w.heap.size + 1, 0, none⟩) (by simp) _).setCell (p := ⟨w.heap.size + 1, 1, none⟩) (by simp) _
end Go.Proofs.Ytdhdphmehjkbnaa
