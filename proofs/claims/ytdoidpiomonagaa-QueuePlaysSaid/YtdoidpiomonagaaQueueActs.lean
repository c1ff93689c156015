/- What both laws of queue use: the acts acts they are read; 'same'. -/
import Derived.Test.YtdoidpiomonagaaQueueNone
import Derived.Test.YtdoidpiomonagaaOpen
namespace Go.Proofs.Ytdoidpiomonagaa
open Go.RowKit Go.Afx

structure ActV where
  kind : Int
  n : Int
  lv : Value
  l : List Int
def ActV.cells (a : ActV) : List Value := [.int .i64 a.kind, .int .i64 a.n, a.lv]

/-- A slice of acts. -/
def IsActs (w : World) (v : Value) (acts : List ActV) : Prop :=
  Sl w (fun _ => True) 3 v acts.length (acts.map ActV.cells).flatten ∧ ∀ a ∈ acts, Sl w (fun _ => True) 1 a.lv a.l.length (ints a.l)

theorem IsActs.below {w w' : World} {v : Value} {acts : List ActV} (h : IsActs w v acts) (hb : Below w.heap.size w w') : IsActs w' v acts :=
  ⟨h.1.below hb, fun a ha => (h.2 a ha).below hb⟩

theorem acells3 : Try.prog.cellsOf 3 = 1 := by kernel_rfl
theorem acellsInts : Try.prog.cellsOf 26 = 1 := by kernel_rfl
theorem acellsAct : Try.prog.cellsOf 30 = 3 := by kernel_rfl

theorem sl_one {w : World} {B : Nat → Prop} {sz : Nat} {v : Value} {n : Nat} {cs : List Value} (h : Sl w B sz v n cs) : v.oneCell' = true := by
  obtain ⟨p, cap, rfl, _⟩ := h.form
  rfl

set_option maxRecDepth 100000 in
theorem open_acts {H : Type} {enc : TypeId × Value → H} {w : World} {v : Value} {d : DataW H} {ps : List MemPlace} (h : DataW.Trod enc Try.prog w 0 (fun _ => true) true 22 v d ps) (hv : v.cells.toList = [v]) :
    ∃ acts : List ActV, IsActs w v acts := by
  obtain ⟨fuel, hf⟩ := h
  rw [hv] at hf
  obtain ⟨es, h1, h2⟩ := open_sl Try.underlying22 acellsAct (by omega) hf (fun c => ∃ a : ActV, c = a.cells ∧ Sl w (fun _ => True) 1 a.lv a.l.length (ints a.l))
    (fun c ⟨a, hc, ha⟩ => by subst hc; exact Ones.nil.cons (sl_one ha) |>.cons rfl |>.cons rfl)
    (fun f c y hl hy => by
      obtain ⟨n, hfs⟩ := open_fields Try.underlying30 hy
      obtain ⟨c0, c1, c2, rfl⟩ := list3 hl
      obtain ⟨y0, h0⟩ := hfs 0 _ rfl
      obtain ⟨y1, h1⟩ := hfs 1 _ rfl
      obtain ⟨y2, h2⟩ := hfs 2 _ rfl
      simp only [acells3, acellsInts, List.drop_zero, List.drop_succ_cons, List.take_succ_cons, List.take_zero] at h0 h1 h2
      obtain ⟨k, e0, _, _⟩ := DataW.trod_int Try.underlying3 h0
      obtain ⟨m, e1, _, _⟩ := DataW.trod_int Try.underlying3 h1
      obtain ⟨l, hl2, _⟩ := open_ints_sl Try.underlying26 Try.underlying3 acells3 h2
      simp only [List.cons.injEq, and_true] at e0 e1
      subst e0
      subst e1
      exact ⟨⟨k, m, c2, l⟩, rfl, hl2⟩)
  obtain ⟨acts, rfl, h4⟩ := choose_list es (fun c hc => (h1 c hc).2)
  refine ⟨acts, ?_, h4⟩
  simpa using h2

set_option maxRecDepth 100000 in
set_option maxHeartbeats 1000000 in
theorem same_any (w : World) (B B' : Nat → Prop) (va vb : Value) (x y : List Int) (ha : Sl w B 1 va x.length (ints x)) (hb : Sl w B' 1 vb y.length (ints y)) :
    Calls Try.prog 16 #[va, vb] w fun e w' => e = .returned (.bool (decide (x = y))) ∧ Below w.heap.size w w' := by
  obtain ⟨pa, ca, rfl, hca, hca2⟩ := ha.form
  obtain ⟨pb, cb, rfl, hcb, hcb2⟩ := hb.form
  by_cases hl : x.length = y.length
  · have d1 : ((x.length : Int) != (y.length : Int)) = false := by simp [hl]
    have hpa : 0 < x.length → ∃ g off, pa = some ⟨g, off, none⟩ ∧ g < w.heap.size ∧ ∀ j v, x[j]? = some v → w.cell? ⟨g, off + j, none⟩ = some (.int .i64 v) := fun hn => by
      obtain ⟨g, off, cap, hv, _, _, _, hlt, hc⟩ := ha.place hn
      cases hv
      refine ⟨g, off, rfl, hlt, fun j v hj => ?_⟩
      have hjl : j < x.length := (List.getElem?_eq_some_iff.1 hj).1
      rw [hc j (by simpa [ints] using hjl)]
      simp [ints, hj]
    have hpb : 0 < x.length → ∃ g off, pb = some ⟨g, off, none⟩ ∧ g < w.heap.size ∧ ∀ j v, y[j]? = some v → w.cell? ⟨g, off + j, none⟩ = some (.int .i64 v) := fun hn => by
      obtain ⟨g, off, cap, hv, _, _, _, hlt, hc⟩ := hb.place (by omega)
      cases hv
      refine ⟨g, off, rfl, hlt, fun j v hj => ?_⟩
      have hjl : j < y.length := (List.getElem?_eq_some_iff.1 hj).1
      rw [hc j (by simpa [ints] using hjl)]
      simp [ints, hj]
    have HPA := Lib.hid hpa
    have HPB := Lib.hid hpb
    have HL := Lib.hid hl
    clear ha hb hpa hpb hl
    go_enter Try.func16, Try.ntmps16
    go_wp2
    go_loopw [5] (fun i wr => ∃ k : Nat, i = .int .i64 k ∧ k ≤ x.length ∧ Hid (x.take k = y.take k) ∧ Below w.heap.size w wr) (fun i _ => x.length - (intOf i).toNat)
    case atStart => exact ⟨0, rfl, Nat.zero_le _, Lib.hid (by simp), Below.refl _ _⟩
    case round =>
      obtain ⟨k, rfl, hk, hkt, hbel⟩ := hrel
      by_cases hkx : k < x.length
      · obtain ⟨ga, oa, rfl, hga, hca3⟩ := HPA.out (by omega)
        obtain ⟨gb, ob, rfl, hgb, hcb3⟩ := HPB.out (by omega)
        have hky : k < y.length := by rw [← HL.out]; exact hkx
        have ea : wr.cell? ⟨ga, oa + k, none⟩ = some (.int .i64 x[k]) := (hbel.cell (p := ⟨ga, oa + k, none⟩) hga).trans (hca3 k _ (List.getElem?_eq_getElem hkx))
        have eb : wr.cell? ⟨gb, ob + k, none⟩ = some (.int .i64 y[k]) := (hbel.cell (p := ⟨gb, ob + k, none⟩) hgb).trans (hcb3 k _ (List.getElem?_eq_getElem hky))
        have hx1 : x.take (k + 1) = x.take k ++ [x[k]] := by rw [List.take_succ_eq_append_getElem hkx]
        have hy1 : y.take (k + 1) = y.take k ++ [y[k]] := by rw [List.take_succ_eq_append_getElem hky]
        have hne : x[k] ≠ y[k] → x ≠ y := fun h e => h (by subst e; rfl)
        generalize x[k] = xv at *
        generalize y[k] = yv at *
        have HX := Lib.hid hx1
        have HY := Lib.hid hy1
        have HNE := Lib.hid hne
        clear hca3 hcb3 hx1 hy1 hne
        by_cases hv : xv = yv
        · have d2 : (xv != yv) = false := by simp [hv]
          have HV := Lib.hid hv
          clear hv
          go_wp2
          refine wp_region_lit_plan [] [(0, 0), (1, 0), (2, 0), (4, 0), (5, 0), (6, 0), (3, 1), (7, 1), (8, 0)] (fun _ => False) (by kernel_rfl) (by kernel_rfl) (fun c a d v w h => by cases d <;> exact h) ?_
          go_wp2_with (first
            | (refine plan_pure (v := _) (by rfl) (by rfl) (by rfl) (by intro _; go_simp; with_reducible rfl) ?_; simp only [List.setIfInBounds_toArray, List.set_cons_zero, List.set_cons_succ]; try go_bits) | (refine plan_read (v := _) (by rfl) (by rfl) (by rfl) (by go_simp; with_reducible rfl) ?_; simp only [List.setIfInBounds_toArray, List.set_cons_zero, List.set_cons_succ]; try go_bits) | (refine plan_readB (v := _) (by rfl) (by rfl) (by rfl) (by intro _ hag; unfold Agree at hag; go_simp; with_reducible rfl) ?_; simp only [List.setIfInBounds_toArray, List.set_cons_zero, List.set_cons_succ]; try go_bits) | (refine plan_skip0 (by rfl) (by rfl) (by rfl) ?_; simp only [List.setIfInBounds_toArray, List.set_cons_zero, List.set_cons_succ]; try go_bits) | (refine plan_skip1 (by rfl) (by rfl) (by rfl) ?_; simp only [List.setIfInBounds_toArray, List.set_cons_zero, List.set_cons_succ]; try go_bits) | (refine plan_skip2 (by rfl) (by rfl) (by rfl) ?_; simp only [List.setIfInBounds_toArray, List.set_cons_zero, List.set_cons_succ]; try go_bits) | (refine plan_any (by rfl) ?_) | (refine plan_keep (by rfl) ?_) | (refine plan_nil ?_) | (with_reducible refine And.intro (by first | assumption | exact Agree.refl _ _ | exact agree_drew _ _ | exact agree_alloc _ (by intro k hk; subst hk; first | omega | (simp; omega))) ?_) | (unfold Act.put; simp only [List.setIfInBounds_toArray, List.set_cons_zero, List.set_cons_succ]))
          go_roundw
          case rel => exact ⟨k + 1, by go_num, by omega, Lib.hid (by rw [HX.out, HY.out, hkt.out, HV.out]), hbel.drew⟩
          case measure => simp [intOf]; omega
        · have d2 : (xv != yv) = true := by simp [hv]
          have HV := Lib.hid hv
          clear hv
          go_wp2
          refine wp_region_lit_plan [] [(0, 0), (1, 0), (2, 0), (4, 0), (5, 0), (6, 0), (3, 1), (7, 1), (8, 0)] (fun _ => False) (by kernel_rfl) (by kernel_rfl) (fun c a d v w h => by cases d <;> exact h) ?_
          go_wp2_with (first
            | (refine plan_pure (v := _) (by rfl) (by rfl) (by rfl) (by intro _; go_simp; with_reducible rfl) ?_; simp only [List.setIfInBounds_toArray, List.set_cons_zero, List.set_cons_succ]; try go_bits) | (refine plan_read (v := _) (by rfl) (by rfl) (by rfl) (by go_simp; with_reducible rfl) ?_; simp only [List.setIfInBounds_toArray, List.set_cons_zero, List.set_cons_succ]; try go_bits) | (refine plan_readB (v := _) (by rfl) (by rfl) (by rfl) (by intro _ hag; unfold Agree at hag; go_simp; with_reducible rfl) ?_; simp only [List.setIfInBounds_toArray, List.set_cons_zero, List.set_cons_succ]; try go_bits) | (refine plan_skip0 (by rfl) (by rfl) (by rfl) ?_; simp only [List.setIfInBounds_toArray, List.set_cons_zero, List.set_cons_succ]; try go_bits) | (refine plan_skip1 (by rfl) (by rfl) (by rfl) ?_; simp only [List.setIfInBounds_toArray, List.set_cons_zero, List.set_cons_succ]; try go_bits) | (refine plan_skip2 (by rfl) (by rfl) (by rfl) ?_; simp only [List.setIfInBounds_toArray, List.set_cons_zero, List.set_cons_succ]; try go_bits) | (refine plan_any (by rfl) ?_) | (refine plan_keep (by rfl) ?_) | (refine plan_nil ?_) | (with_reducible refine And.intro (by first | assumption | exact Agree.refl _ _ | exact agree_drew _ _ | exact agree_alloc _ (by intro k hk; subst hk; first | omega | (simp; omega))) ?_) | (unfold Act.put; simp only [List.setIfInBounds_toArray, List.set_cons_zero, List.set_cons_succ]))
          go_ret
          exact ⟨by simp [HNE.out HV.out], hbel.drew⟩
      · have hk2 : k = x.length := by omega
        have hxy : x = y := by
          have := hkt.out
          rw [hk2, List.take_length, HL.out, List.take_length] at this
          exact this
        have HXY := Lib.hid hxy
        clear hk2 hxy
        go_wp2
        go_ret
        exact ⟨by simp [HXY.out], hbel⟩
  · have d1 : ((x.length : Int) != (y.length : Int)) = true := by rw [bne_iff_ne]; omega
    have hne : x ≠ y := fun e => hl (by rw [e])
    have HNE := Lib.hid hne
    clear ha hb hl hne
    go_enter Try.func16, Try.ntmps16
    go_wp2
    go_ret
    exact ⟨by simp [HNE.out], Below.refl _ _⟩
end Go.Proofs.Ytdoidpiomonagaa
