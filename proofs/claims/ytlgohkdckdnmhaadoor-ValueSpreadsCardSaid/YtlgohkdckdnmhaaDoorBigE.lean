/- The document's numbers: Plus, Minus. -/
import Derived.Test.YtlgohkdckdnmhaaDoorBigD
namespace Go.Proofs.YtlgohkdckdnmhaaDoor
open Go.RowKit Go.Afx

theorem IsNum.open' {w : World} {B : Nat → Prop} {v : Value} {z : Int} (h : IsNum w B v z) :
    ∃ (s : Bool) (x : Nat) (p : Option Addr) (c : Nat), v = .agg #[.bool s, .slice p (ld x).length c] ∧ Sl w B 1 (.slice p (ld x).length c) (ld x).length (nats (ld x)) ∧ z = sgn s x ∧ z.natAbs = x ∧ (ld x).length ≤ c ∧ c ≤ 9223372036854775807 := by
  obtain ⟨dv, rfl, hs⟩ := h
  obtain ⟨p, c, rfl, h1, h2⟩ := hs.form
  refine ⟨decide (z < 0), z.natAbs, p, c, rfl, hs, ?_, rfl, h1, h2⟩
  unfold sgn
  by_cases h : z < 0
  · rw [decide_eq_true h, if_pos rfl]; omega
  · rw [decide_eq_false h, if_neg (by decide)]; omega

theorem Sl.weak {w : World} {B B' : Nat → Prop} {sz : Nat} {v : Value} {n : Nat} {cs : List Value} (h : Sl w B sz v n cs) (hB : ∀ k, B k → B' k) : Sl w B' sz v n cs :=
  h.mono (Nat.le_refl _) (fun _ _ _ => rfl) (fun k h1 _ => hB k h1)
theorem IsNum.weak {w : World} {B B' : Nat → Prop} {v : Value} {z : Int} (h : IsNum w B v z) (hB : ∀ k, B k → B' k) : IsNum w B' v z := by
  obtain ⟨dv, h1, h2⟩ := h
  exact ⟨dv, h1, Sl.weak h2 hB⟩

theorem boxes3 (w : World) (A B C : List Value) (t : TypeId) :
    Blk (((w.alloc (.cells A.toArray t)).alloc (.cells B.toArray t)).alloc (.cells C.toArray t)) w.heap.size t A ∧
    Blk (((w.alloc (.cells A.toArray t)).alloc (.cells B.toArray t)).alloc (.cells C.toArray t)) (w.heap.size + 1) t B ∧
    Blk (((w.alloc (.cells A.toArray t)).alloc (.cells B.toArray t)).alloc (.cells C.toArray t)) (w.heap.size + 1 + 1) t C ∧
    Below w.heap.size w (((w.alloc (.cells A.toArray t)).alloc (.cells B.toArray t)).alloc (.cells C.toArray t)) ∧
    (((w.alloc (.cells A.toArray t)).alloc (.cells B.toArray t)).alloc (.cells C.toArray t)).heap.size = w.heap.size + 3 := by
  have h1 := Blk.new w t A
  have h2 := Blk.new (w.alloc (.cells A.toArray t)) t B
  have h3 := Blk.new ((w.alloc (.cells A.toArray t)).alloc (.cells B.toArray t)) t C
  have e1 : (w.alloc (.cells A.toArray t)).heap.size = w.heap.size + 1 := by simp
  have e2 : ((w.alloc (.cells A.toArray t)).alloc (.cells B.toArray t)).heap.size = w.heap.size + 1 + 1 := by simp
  rw [e1] at h2
  rw [e2] at h3
  refine ⟨(h1.alloc _).alloc _, h2.alloc _, h3, ?_, by simp⟩
  exact (((Below.refl _ _).alloc (Nat.le_refl _) _).alloc (by omega) _).alloc (by omega) _

set_option maxRecDepth 100000 in
set_option maxHeartbeats 1000000 in
theorem plus_num (w : World) (va vb : Value) (z1 z2 : Int) (ha : IsNum w (fun _ => True) va z1) (hb : IsNum w (fun _ => True) vb z2) (hla : (ld z1.natAbs).length ≤ 5000) (hlb : (ld z2.natAbs).length ≤ 5000) :
    Calls Tryd.prog 76 #[va, vb] w fun e w' => ∃ v', e = .returned v' ∧ IsNum w' (fun k => w.heap.size ≤ k) v' (z1 + z2) ∧ Below w.heap.size w w' := by
  obtain ⟨sa, x, pa, ca, rfl, hsa, hz1, hx, hc1, hc2⟩ := ha.open'
  obtain ⟨sb, y, pb, cb, rfl, hsb, hz2, hy, hc3, hc4⟩ := hb.open'
  rw [hx] at hla
  rw [hy] at hlb
  have HADD : Hid (∀ w', Below w.heap.size w w' → Calls Tryd.prog 105 #[.slice pa (ld x).length ca, .slice pb (ld y).length cb] w' fun e w2 => ∃ v' d, e = .returned v' ∧ D10 d ∧ vd d = x + y ∧ d.length ≤ 10001 ∧ Sl w2 (fun k => w'.heap.size ≤ k) 1 v' d.length (nats d) ∧ Below w'.heap.size w' w2) := fun w' h => by
    have := add_num w' _ _ (ld x) (ld y) (ld_D10 x) (ld_D10 y) (hsa.below h) (hsb.below h) (by omega) (by omega)
    rwa [vd_ld, vd_ld] at this
  have HLS : Hid (∀ w', Below w.heap.size w w' → Calls Tryd.prog 106 #[.slice pa (ld x).length ca, .slice pb (ld y).length cb] w' fun e w2 => e = .returned (.bool (decide (x < y))) ∧ Below w'.heap.size w' w2) := fun w' h =>
    less_any w' _ _ _ _ x y (hsa.below h) (hsb.below h) (by omega) (by omega)
  have HSG := Lib.hid (fun (w' : World) (B : Nat → Prop) (s : Bool) (v : Value) (d : List Nat) (h1 : D10 d) (h2 : Sl w' B 1 v d.length (nats d)) (h3 : d.length ≤ 10001) => sign_any w' B s v d h1 h2 (by omega))
  have HSA : Hid (y ≤ x → Hid (∀ w', Below w.heap.size w w' → Calls Tryd.prog 107 #[.slice pa (ld x).length ca, .slice pb (ld y).length cb] w' fun e w2 => ∃ v' d, e = .returned v' ∧ D10 d ∧ vd d = x - y ∧ d.length ≤ 10001 ∧ Sl w2 (fun k => w'.heap.size ≤ k) 1 v' d.length (nats d) ∧ Below w'.heap.size w' w2)) := fun hle w' h => by
    have := sub_num w' _ _ (ld x) (ld y) (ld_D10 x) (ld_D10 y) (hsa.below h) (hsb.below h) (by omega) (ld_len_mono hle) (by rw [vd_ld, vd_ld]; exact hle)
    rwa [vd_ld, vd_ld] at this
  have HSB : Hid (x < y → Hid (∀ w', Below w.heap.size w w' → Calls Tryd.prog 107 #[.slice pb (ld y).length cb, .slice pa (ld x).length ca] w' fun e w2 => ∃ v' d, e = .returned v' ∧ D10 d ∧ vd d = y - x ∧ d.length ≤ 10001 ∧ Sl w2 (fun k => w'.heap.size ≤ k) 1 v' d.length (nats d) ∧ Below w'.heap.size w' w2)) := fun hlt w' h => by
    have := sub_num w' _ _ (ld y) (ld x) (ld_D10 y) (ld_D10 x) (hsb.below h) (hsa.below h) (by omega) (ld_len_mono (Nat.le_of_lt hlt)) (by rw [vd_ld, vd_ld]; exact Nat.le_of_lt hlt)
    rwa [vd_ld, vd_ld] at this
  cases sa <;> cases sb
  · have HZ : Hid (sgn false ((x + y : Nat) : Int) = z1 + z2) := by
      show _ = _
      rw [hz1, hz2]; unfold sgn; simp 
    have HOP := HADD
    clear ha hb hz1 hz2 hx hy hsa hsb
    generalize z1 + z2 = z at *
    generalize (ld x).length = la at *
    generalize (ld y).length = lb at *
    obtain ⟨b0, b1, b2, hb4, hs4⟩ := boxes3 w [.bool false, .slice pa la ca] [.bool false, .slice pb lb cb] [.bool false, .slice none 0 0] 103
    go_enter Tryd.func76, Tryd.ntmps76
    go_wp2
    generalize (((w.alloc (.cells #[.bool false, .slice pa la ca] 103)).alloc (.cells #[.bool false, .slice pb lb cb] 103)).alloc (.cells #[.bool false, .slice none 0 0] 103)) = w4 at *
    have c00 : w4.cell? ⟨w.heap.size, 0, none⟩ = some (.bool false) := b0.cell 0
    have c01 : w4.cell? ⟨w.heap.size, 1, none⟩ = some (.slice pa la ca) := b0.cell 1
    have c10 : w4.cell? ⟨w.heap.size + 1, 0, none⟩ = some (.bool false) := b1.cell 0
    have c11 : w4.cell? ⟨w.heap.size + 1, 1, none⟩ = some (.slice pb lb cb) := b1.cell 1
    have B0 := Lib.hid b0
    have B1 := Lib.hid b1
    have B2 := Lib.hid b2
    have HB4 := Lib.hid hb4
    have HS4 := Lib.hid hs4
    have hl0 : w.heap.size < w4.heap.size := by omega
    have hl1 : w.heap.size + 1 < w4.heap.size := by omega
    clear b0 b1 b2 hb4 hs4
    have HBX := HB4
    have BX := B2
    have HSX := Lib.hid (Nat.le_refl w4.heap.size)
    refine wp_region_lit_plan [] [(0, 0), (2, 0), (4, 0), (1, 2), (3, 1), (5, 1), (6, 3), (7, 4), (8, 4)] (fun k => k < w4.heap.size) (by kernel_rfl) (by kernel_rfl) (fun c a d v w h => by cases d <;> exact h) ?_
    go_wp2_with (first
      | (refine plan_pure (v := _) (by rfl) (by rfl) (by rfl) (by intro _; go_simp; with_reducible rfl) ?_; simp only [List.setIfInBounds_toArray, List.set_cons_zero, List.set_cons_succ]; try go_bits) | (refine plan_read (v := _) (by rfl) (by rfl) (by rfl) (by go_simp; with_reducible rfl) ?_; simp only [List.setIfInBounds_toArray, List.set_cons_zero, List.set_cons_succ]; try go_bits) | (refine plan_readB (v := _) (by rfl) (by rfl) (by rfl) (by intro _ hag; unfold Agree at hag; go_simp; with_reducible rfl) ?_; simp only [List.setIfInBounds_toArray, List.set_cons_zero, List.set_cons_succ]; try go_bits) | (refine plan_skip0 (by rfl) (by rfl) (by rfl) ?_; simp only [List.setIfInBounds_toArray, List.set_cons_zero, List.set_cons_succ]; try go_bits) | (refine plan_skip1 (by rfl) (by rfl) (by rfl) ?_; simp only [List.setIfInBounds_toArray, List.set_cons_zero, List.set_cons_succ]; try go_bits) | (refine plan_skip2 (by rfl) (by rfl) (by rfl) ?_; simp only [List.setIfInBounds_toArray, List.set_cons_zero, List.set_cons_succ]; try go_bits) | (refine plan_skip4 (by rfl) (by rfl) (by rfl) ?_; simp only [List.setIfInBounds_toArray, List.set_cons_zero, List.set_cons_succ]; try go_bits) | (refine plan_any (by rfl) ?_) | (refine plan_keep (by rfl) ?_) | (refine plan_nil ?_) | (with_reducible refine And.intro (by first | assumption | exact Agree.refl _ _ | exact agree_drew _ _ | exact agree_alloc _ (by intro k hk; subst hk; first | omega | (simp; omega))) ?_) | (unfold Act.put; simp only [List.setIfInBounds_toArray, List.set_cons_zero, List.set_cons_succ])
      | (go_at_call 105; refine (HOP.out _ (HBX.out.drew)).mono ?_; clear HOP; rintro e w5 ⟨v5, d5, rfl, h51, h52, h53, h54, hb5⟩; obtain ⟨p5, c5, rfl, h55, h56⟩ := h54.form;
         have hag : Agree (fun k => k < w4.heap.size) w4.drew w5 := agree_bel hb5 (fun k hk => hk);
         have HSG5 := Lib.hid (HSG.out w5 _ false _ d5 h51 h54 h53); rw [h52, HZ.out] at HSG5;
         have B25 := Lib.hid (BX.out.drew.below hb5); have HB5 := Lib.hid hb5; clear hb5 h54 h51 h53 h52)
      | (go_at_call 104; refine HSG5.out.mono ?_; rintro e w6 ⟨v6, rfl, ⟨dv6, rfl, h62⟩, hb6⟩; obtain ⟨p6, c6, rfl, h65, h66⟩ := h62.form; have H62 := Lib.hid h62;
         have hag6 : Agree (fun k => k < w4.heap.size) w5 w6 := agree_bel hb6 (fun k hk => Nat.lt_of_lt_of_le hk HB5.out.size);
         have B26 := Lib.hid (B25.out.below hb6);
         have c20 : w6.cell? ⟨w.heap.size + 1 + 1, 0, none⟩ = some (.bool false) := B26.out.cell 0;
         have c21 : w6.cell? ⟨w.heap.size + 1 + 1, 1, none⟩ = some (.slice none 0 0) := B26.out.cell 1;
         have hf6 : ∀ i, w6.frozen? ⟨w.heap.size + 1 + 1, i, none⟩ = false := B26.out.frozen; have HB6 := Lib.hid hb6; clear hb6 h62))
    have HR7 := (B26.out.set 0 (.bool (decide (z < 0)))).set 1 (.slice p6 (ld z.natAbs).length c6)
    have c70 := HR7.cell 0
    have c71 := HR7.cell 1
    refine bodyPost_ret (v := .agg #[.bool (decide (z < 0)), .slice p6 (ld z.natAbs).length c6]) (by simp [results, Tryd.results76, go_sem, c70, c71]) rfl ⟨_, rfl, ⟨_, rfl, ?_⟩, ?_⟩
    · have h1 : w4.heap.size ≤ w4.heap.size := HSX.out
      refine Sl.weak (H62.out.only (((Only.refl (fun k => k = w.heap.size + 1 + 1) w6).setCell (p := ⟨w.heap.size + 1 + 1, 0, none⟩) (fun _ => rfl) _).setCell (p := ⟨w.heap.size + 1 + 1, 1, none⟩) (fun _ => rfl) _) (fun k (h1 : w4.heap.size ≤ k) h2 => by have := HS4.out; omega)) (fun k (h : w4.heap.size ≤ k) => by omega)
    · have h1 := HBX.out.drew.trans (HB5.out.mono HBX.out.size)
      have h2 := h1.trans (HB6.out.mono h1.size)
      exact (h2.setCell (by show w.heap.size ≤ w.heap.size + 1 + 1; omega) _).setCell (by show w.heap.size ≤ w.heap.size + 1 + 1; omega) _
  · by_cases hxy : x < y
    · have HZ : Hid (sgn true ((y - x : Nat) : Int) = z1 + z2) := by
        show _ = _
        rw [hz1, hz2]; unfold sgn; simp; omega
      have DXY : decide (x < y) = true := decide_eq_true hxy
      have HOP := HSB.out hxy
      clear ha hb hz1 hz2 hx hy hsa hsb
      generalize z1 + z2 = z at *
      generalize (ld x).length = la at *
      generalize (ld y).length = lb at *
      obtain ⟨b0, b1, b2, hb4, hs4⟩ := boxes3 w [.bool false, .slice pa la ca] [.bool true, .slice pb lb cb] [.bool false, .slice none 0 0] 103
      go_enter Tryd.func76, Tryd.ntmps76
      go_wp2_with fail
      generalize (((w.alloc (.cells #[.bool false, .slice pa la ca] 103)).alloc (.cells #[.bool true, .slice pb lb cb] 103)).alloc (.cells #[.bool false, .slice none 0 0] 103)) = w4 at *
      have c00 : w4.cell? ⟨w.heap.size, 0, none⟩ = some (.bool false) := b0.cell 0
      have c01 : w4.cell? ⟨w.heap.size, 1, none⟩ = some (.slice pa la ca) := b0.cell 1
      have c10 : w4.cell? ⟨w.heap.size + 1, 0, none⟩ = some (.bool true) := b1.cell 0
      have c11 : w4.cell? ⟨w.heap.size + 1, 1, none⟩ = some (.slice pb lb cb) := b1.cell 1
      have B0 := Lib.hid b0
      have B1 := Lib.hid b1
      have B2 := Lib.hid b2
      have HB4 := Lib.hid hb4
      have HS4 := Lib.hid hs4
      have hl0 : w.heap.size < w4.heap.size := by omega
      have hl1 : w.heap.size + 1 < w4.heap.size := by omega
      clear b0 b1 b2 hb4 hs4
      go_wp2_with (go_at_call 106; refine (HLS.out _ HB4.out).mono ?_; clear HLS; rintro e wl ⟨rfl, hbl⟩; rw [DXY])
      have d00 : wl.cell? ⟨w.heap.size, 0, none⟩ = some (.bool false) := (B0.out.below hbl).cell 0
      have d01 : wl.cell? ⟨w.heap.size, 1, none⟩ = some (.slice pa la ca) := (B0.out.below hbl).cell 1
      have d10 : wl.cell? ⟨w.heap.size + 1, 0, none⟩ = some (.bool true) := (B1.out.below hbl).cell 0
      have d11 : wl.cell? ⟨w.heap.size + 1, 1, none⟩ = some (.slice pb lb cb) := (B1.out.below hbl).cell 1
      have m0 : w.heap.size < wl.heap.size := Nat.lt_of_lt_of_le hl0 hbl.size
      have m1 : w.heap.size + 1 < wl.heap.size := Nat.lt_of_lt_of_le hl1 hbl.size
      have BX := Lib.hid (B2.out.below hbl)
      have HSX := Lib.hid hbl.size
      have HBX := Lib.hid (HB4.out.trans (hbl.mono (by omega)))
      clear hbl
      go_wp2
      refine wp_region_lit_plan [] [(0, 0), (2, 0), (4, 0), (1, 2), (3, 1), (5, 1), (6, 3), (7, 4), (8, 4)] (fun k => k < wl.heap.size) (by kernel_rfl) (by kernel_rfl) (fun c a d v w h => by cases d <;> exact h) ?_
      go_wp2_with (first
        | (refine plan_pure (v := _) (by rfl) (by rfl) (by rfl) (by intro _; go_simp; with_reducible rfl) ?_; simp only [List.setIfInBounds_toArray, List.set_cons_zero, List.set_cons_succ]; try go_bits) | (refine plan_read (v := _) (by rfl) (by rfl) (by rfl) (by go_simp; with_reducible rfl) ?_; simp only [List.setIfInBounds_toArray, List.set_cons_zero, List.set_cons_succ]; try go_bits) | (refine plan_readB (v := _) (by rfl) (by rfl) (by rfl) (by intro _ hag; unfold Agree at hag; go_simp; with_reducible rfl) ?_; simp only [List.setIfInBounds_toArray, List.set_cons_zero, List.set_cons_succ]; try go_bits) | (refine plan_skip0 (by rfl) (by rfl) (by rfl) ?_; simp only [List.setIfInBounds_toArray, List.set_cons_zero, List.set_cons_succ]; try go_bits) | (refine plan_skip1 (by rfl) (by rfl) (by rfl) ?_; simp only [List.setIfInBounds_toArray, List.set_cons_zero, List.set_cons_succ]; try go_bits) | (refine plan_skip2 (by rfl) (by rfl) (by rfl) ?_; simp only [List.setIfInBounds_toArray, List.set_cons_zero, List.set_cons_succ]; try go_bits) | (refine plan_skip4 (by rfl) (by rfl) (by rfl) ?_; simp only [List.setIfInBounds_toArray, List.set_cons_zero, List.set_cons_succ]; try go_bits) | (refine plan_any (by rfl) ?_) | (refine plan_keep (by rfl) ?_) | (refine plan_nil ?_) | (with_reducible refine And.intro (by first | assumption | exact Agree.refl _ _ | exact agree_drew _ _ | exact agree_alloc _ (by intro k hk; subst hk; first | omega | (simp; omega))) ?_) | (unfold Act.put; simp only [List.setIfInBounds_toArray, List.set_cons_zero, List.set_cons_succ])
        | (go_at_call 107; refine (HOP.out _ (HBX.out.drew)).mono ?_; clear HOP; rintro e w5 ⟨v5, d5, rfl, h51, h52, h53, h54, hb5⟩; obtain ⟨p5, c5, rfl, h55, h56⟩ := h54.form;
           have hag : Agree (fun k => k < wl.heap.size) wl.drew w5 := agree_bel hb5 (fun k hk => hk);
           have HSG5 := Lib.hid (HSG.out w5 _ true _ d5 h51 h54 h53); rw [h52, HZ.out] at HSG5;
           have B25 := Lib.hid (BX.out.drew.below hb5); have HB5 := Lib.hid hb5; clear hb5 h54 h51 h53 h52)
        | (go_at_call 104; refine HSG5.out.mono ?_; rintro e w6 ⟨v6, rfl, ⟨dv6, rfl, h62⟩, hb6⟩; obtain ⟨p6, c6, rfl, h65, h66⟩ := h62.form; have H62 := Lib.hid h62;
           have hag6 : Agree (fun k => k < wl.heap.size) w5 w6 := agree_bel hb6 (fun k hk => Nat.lt_of_lt_of_le hk HB5.out.size);
           have B26 := Lib.hid (B25.out.below hb6);
           have c20 : w6.cell? ⟨w.heap.size + 1 + 1, 0, none⟩ = some (.bool false) := B26.out.cell 0;
           have c21 : w6.cell? ⟨w.heap.size + 1 + 1, 1, none⟩ = some (.slice none 0 0) := B26.out.cell 1;
           have hf6 : ∀ i, w6.frozen? ⟨w.heap.size + 1 + 1, i, none⟩ = false := B26.out.frozen; have HB6 := Lib.hid hb6; clear hb6 h62))
      have HR7 := (B26.out.set 0 (.bool (decide (z < 0)))).set 1 (.slice p6 (ld z.natAbs).length c6)
      have c70 := HR7.cell 0
      have c71 := HR7.cell 1
      refine bodyPost_ret (v := .agg #[.bool (decide (z < 0)), .slice p6 (ld z.natAbs).length c6]) (by simp [results, Tryd.results76, go_sem, c70, c71]) rfl ⟨_, rfl, ⟨_, rfl, ?_⟩, ?_⟩
      · have h1 : w4.heap.size ≤ wl.heap.size := HSX.out
        refine Sl.weak (H62.out.only (((Only.refl (fun k => k = w.heap.size + 1 + 1) w6).setCell (p := ⟨w.heap.size + 1 + 1, 0, none⟩) (fun _ => rfl) _).setCell (p := ⟨w.heap.size + 1 + 1, 1, none⟩) (fun _ => rfl) _) (fun k (h1 : wl.heap.size ≤ k) h2 => by have := HS4.out; omega)) (fun k (h : wl.heap.size ≤ k) => by omega)
      · have h1 := HBX.out.drew.trans (HB5.out.mono HBX.out.size)
        have h2 := h1.trans (HB6.out.mono h1.size)
        exact (h2.setCell (by show w.heap.size ≤ w.heap.size + 1 + 1; omega) _).setCell (by show w.heap.size ≤ w.heap.size + 1 + 1; omega) _
    · have HZ : Hid (sgn false ((x - y : Nat) : Int) = z1 + z2) := by
        show _ = _
        rw [hz1, hz2]; unfold sgn; simp; omega
      have DXY : decide (x < y) = false := decide_eq_false hxy
      have HOP := HSA.out (Nat.le_of_not_lt hxy)
      clear ha hb hz1 hz2 hx hy hsa hsb
      generalize z1 + z2 = z at *
      generalize (ld x).length = la at *
      generalize (ld y).length = lb at *
      obtain ⟨b0, b1, b2, hb4, hs4⟩ := boxes3 w [.bool false, .slice pa la ca] [.bool true, .slice pb lb cb] [.bool false, .slice none 0 0] 103
      go_enter Tryd.func76, Tryd.ntmps76
      go_wp2_with fail
      generalize (((w.alloc (.cells #[.bool false, .slice pa la ca] 103)).alloc (.cells #[.bool true, .slice pb lb cb] 103)).alloc (.cells #[.bool false, .slice none 0 0] 103)) = w4 at *
      have c00 : w4.cell? ⟨w.heap.size, 0, none⟩ = some (.bool false) := b0.cell 0
      have c01 : w4.cell? ⟨w.heap.size, 1, none⟩ = some (.slice pa la ca) := b0.cell 1
      have c10 : w4.cell? ⟨w.heap.size + 1, 0, none⟩ = some (.bool true) := b1.cell 0
      have c11 : w4.cell? ⟨w.heap.size + 1, 1, none⟩ = some (.slice pb lb cb) := b1.cell 1
      have B0 := Lib.hid b0
      have B1 := Lib.hid b1
      have B2 := Lib.hid b2
      have HB4 := Lib.hid hb4
      have HS4 := Lib.hid hs4
      have hl0 : w.heap.size < w4.heap.size := by omega
      have hl1 : w.heap.size + 1 < w4.heap.size := by omega
      clear b0 b1 b2 hb4 hs4
      go_wp2_with (go_at_call 106; refine (HLS.out _ HB4.out).mono ?_; clear HLS; rintro e wl ⟨rfl, hbl⟩; rw [DXY])
      have d00 : wl.cell? ⟨w.heap.size, 0, none⟩ = some (.bool false) := (B0.out.below hbl).cell 0
      have d01 : wl.cell? ⟨w.heap.size, 1, none⟩ = some (.slice pa la ca) := (B0.out.below hbl).cell 1
      have d10 : wl.cell? ⟨w.heap.size + 1, 0, none⟩ = some (.bool true) := (B1.out.below hbl).cell 0
      have d11 : wl.cell? ⟨w.heap.size + 1, 1, none⟩ = some (.slice pb lb cb) := (B1.out.below hbl).cell 1
      have m0 : w.heap.size < wl.heap.size := Nat.lt_of_lt_of_le hl0 hbl.size
      have m1 : w.heap.size + 1 < wl.heap.size := Nat.lt_of_lt_of_le hl1 hbl.size
      have BX := Lib.hid (B2.out.below hbl)
      have HSX := Lib.hid hbl.size
      have HBX := Lib.hid (HB4.out.trans (hbl.mono (by omega)))
      clear hbl
      go_wp2
      refine wp_region_lit_plan [] [(0, 0), (2, 0), (4, 0), (1, 2), (3, 1), (5, 1), (6, 3), (7, 4), (8, 4)] (fun k => k < wl.heap.size) (by kernel_rfl) (by kernel_rfl) (fun c a d v w h => by cases d <;> exact h) ?_
      go_wp2_with (first
        | (refine plan_pure (v := _) (by rfl) (by rfl) (by rfl) (by intro _; go_simp; with_reducible rfl) ?_; simp only [List.setIfInBounds_toArray, List.set_cons_zero, List.set_cons_succ]; try go_bits) | (refine plan_read (v := _) (by rfl) (by rfl) (by rfl) (by go_simp; with_reducible rfl) ?_; simp only [List.setIfInBounds_toArray, List.set_cons_zero, List.set_cons_succ]; try go_bits) | (refine plan_readB (v := _) (by rfl) (by rfl) (by rfl) (by intro _ hag; unfold Agree at hag; go_simp; with_reducible rfl) ?_; simp only [List.setIfInBounds_toArray, List.set_cons_zero, List.set_cons_succ]; try go_bits) | (refine plan_skip0 (by rfl) (by rfl) (by rfl) ?_; simp only [List.setIfInBounds_toArray, List.set_cons_zero, List.set_cons_succ]; try go_bits) | (refine plan_skip1 (by rfl) (by rfl) (by rfl) ?_; simp only [List.setIfInBounds_toArray, List.set_cons_zero, List.set_cons_succ]; try go_bits) | (refine plan_skip2 (by rfl) (by rfl) (by rfl) ?_; simp only [List.setIfInBounds_toArray, List.set_cons_zero, List.set_cons_succ]; try go_bits) | (refine plan_skip4 (by rfl) (by rfl) (by rfl) ?_; simp only [List.setIfInBounds_toArray, List.set_cons_zero, List.set_cons_succ]; try go_bits) | (refine plan_any (by rfl) ?_) | (refine plan_keep (by rfl) ?_) | (refine plan_nil ?_) | (with_reducible refine And.intro (by first | assumption | exact Agree.refl _ _ | exact agree_drew _ _ | exact agree_alloc _ (by intro k hk; subst hk; first | omega | (simp; omega))) ?_) | (unfold Act.put; simp only [List.setIfInBounds_toArray, List.set_cons_zero, List.set_cons_succ])
        | (go_at_call 107; refine (HOP.out _ (HBX.out.drew)).mono ?_; clear HOP; rintro e w5 ⟨v5, d5, rfl, h51, h52, h53, h54, hb5⟩; obtain ⟨p5, c5, rfl, h55, h56⟩ := h54.form;
           have hag : Agree (fun k => k < wl.heap.size) wl.drew w5 := agree_bel hb5 (fun k hk => hk);
           have HSG5 := Lib.hid (HSG.out w5 _ false _ d5 h51 h54 h53); rw [h52, HZ.out] at HSG5;
           have B25 := Lib.hid (BX.out.drew.below hb5); have HB5 := Lib.hid hb5; clear hb5 h54 h51 h53 h52)
        | (go_at_call 104; refine HSG5.out.mono ?_; rintro e w6 ⟨v6, rfl, ⟨dv6, rfl, h62⟩, hb6⟩; obtain ⟨p6, c6, rfl, h65, h66⟩ := h62.form; have H62 := Lib.hid h62;
           have hag6 : Agree (fun k => k < wl.heap.size) w5 w6 := agree_bel hb6 (fun k hk => Nat.lt_of_lt_of_le hk HB5.out.size);
           have B26 := Lib.hid (B25.out.below hb6);
           have c20 : w6.cell? ⟨w.heap.size + 1 + 1, 0, none⟩ = some (.bool false) := B26.out.cell 0;
           have c21 : w6.cell? ⟨w.heap.size + 1 + 1, 1, none⟩ = some (.slice none 0 0) := B26.out.cell 1;
           have hf6 : ∀ i, w6.frozen? ⟨w.heap.size + 1 + 1, i, none⟩ = false := B26.out.frozen; have HB6 := Lib.hid hb6; clear hb6 h62))
      have HR7 := (B26.out.set 0 (.bool (decide (z < 0)))).set 1 (.slice p6 (ld z.natAbs).length c6)
      have c70 := HR7.cell 0
      have c71 := HR7.cell 1
      refine bodyPost_ret (v := .agg #[.bool (decide (z < 0)), .slice p6 (ld z.natAbs).length c6]) (by simp [results, Tryd.results76, go_sem, c70, c71]) rfl ⟨_, rfl, ⟨_, rfl, ?_⟩, ?_⟩
      · have h1 : w4.heap.size ≤ wl.heap.size := HSX.out
        refine Sl.weak (H62.out.only (((Only.refl (fun k => k = w.heap.size + 1 + 1) w6).setCell (p := ⟨w.heap.size + 1 + 1, 0, none⟩) (fun _ => rfl) _).setCell (p := ⟨w.heap.size + 1 + 1, 1, none⟩) (fun _ => rfl) _) (fun k (h1 : wl.heap.size ≤ k) h2 => by have := HS4.out; omega)) (fun k (h : wl.heap.size ≤ k) => by omega)
      · have h1 := HBX.out.drew.trans (HB5.out.mono HBX.out.size)
        have h2 := h1.trans (HB6.out.mono h1.size)
        exact (h2.setCell (by show w.heap.size ≤ w.heap.size + 1 + 1; omega) _).setCell (by show w.heap.size ≤ w.heap.size + 1 + 1; omega) _
  · by_cases hxy : x < y
    · have HZ : Hid (sgn false ((y - x : Nat) : Int) = z1 + z2) := by
        show _ = _
        rw [hz1, hz2]; unfold sgn; simp; omega
      have DXY : decide (x < y) = true := decide_eq_true hxy
      have HOP := HSB.out hxy
      clear ha hb hz1 hz2 hx hy hsa hsb
      generalize z1 + z2 = z at *
      generalize (ld x).length = la at *
      generalize (ld y).length = lb at *
      obtain ⟨b0, b1, b2, hb4, hs4⟩ := boxes3 w [.bool true, .slice pa la ca] [.bool false, .slice pb lb cb] [.bool false, .slice none 0 0] 103
      go_enter Tryd.func76, Tryd.ntmps76
      go_wp2_with fail
      generalize (((w.alloc (.cells #[.bool true, .slice pa la ca] 103)).alloc (.cells #[.bool false, .slice pb lb cb] 103)).alloc (.cells #[.bool false, .slice none 0 0] 103)) = w4 at *
      have c00 : w4.cell? ⟨w.heap.size, 0, none⟩ = some (.bool true) := b0.cell 0
      have c01 : w4.cell? ⟨w.heap.size, 1, none⟩ = some (.slice pa la ca) := b0.cell 1
      have c10 : w4.cell? ⟨w.heap.size + 1, 0, none⟩ = some (.bool false) := b1.cell 0
      have c11 : w4.cell? ⟨w.heap.size + 1, 1, none⟩ = some (.slice pb lb cb) := b1.cell 1
      have B0 := Lib.hid b0
      have B1 := Lib.hid b1
      have B2 := Lib.hid b2
      have HB4 := Lib.hid hb4
      have HS4 := Lib.hid hs4
      have hl0 : w.heap.size < w4.heap.size := by omega
      have hl1 : w.heap.size + 1 < w4.heap.size := by omega
      clear b0 b1 b2 hb4 hs4
      go_wp2_with (go_at_call 106; refine (HLS.out _ HB4.out).mono ?_; clear HLS; rintro e wl ⟨rfl, hbl⟩; rw [DXY])
      have d00 : wl.cell? ⟨w.heap.size, 0, none⟩ = some (.bool true) := (B0.out.below hbl).cell 0
      have d01 : wl.cell? ⟨w.heap.size, 1, none⟩ = some (.slice pa la ca) := (B0.out.below hbl).cell 1
      have d10 : wl.cell? ⟨w.heap.size + 1, 0, none⟩ = some (.bool false) := (B1.out.below hbl).cell 0
      have d11 : wl.cell? ⟨w.heap.size + 1, 1, none⟩ = some (.slice pb lb cb) := (B1.out.below hbl).cell 1
      have m0 : w.heap.size < wl.heap.size := Nat.lt_of_lt_of_le hl0 hbl.size
      have m1 : w.heap.size + 1 < wl.heap.size := Nat.lt_of_lt_of_le hl1 hbl.size
      have BX := Lib.hid (B2.out.below hbl)
      have HSX := Lib.hid hbl.size
      have HBX := Lib.hid (HB4.out.trans (hbl.mono (by omega)))
      clear hbl
      go_wp2
      refine wp_region_lit_plan [] [(0, 0), (2, 0), (4, 0), (1, 2), (3, 1), (5, 1), (6, 3), (7, 4), (8, 4)] (fun k => k < wl.heap.size) (by kernel_rfl) (by kernel_rfl) (fun c a d v w h => by cases d <;> exact h) ?_
      go_wp2_with (first
        | (refine plan_pure (v := _) (by rfl) (by rfl) (by rfl) (by intro _; go_simp; with_reducible rfl) ?_; simp only [List.setIfInBounds_toArray, List.set_cons_zero, List.set_cons_succ]; try go_bits) | (refine plan_read (v := _) (by rfl) (by rfl) (by rfl) (by go_simp; with_reducible rfl) ?_; simp only [List.setIfInBounds_toArray, List.set_cons_zero, List.set_cons_succ]; try go_bits) | (refine plan_readB (v := _) (by rfl) (by rfl) (by rfl) (by intro _ hag; unfold Agree at hag; go_simp; with_reducible rfl) ?_; simp only [List.setIfInBounds_toArray, List.set_cons_zero, List.set_cons_succ]; try go_bits) | (refine plan_skip0 (by rfl) (by rfl) (by rfl) ?_; simp only [List.setIfInBounds_toArray, List.set_cons_zero, List.set_cons_succ]; try go_bits) | (refine plan_skip1 (by rfl) (by rfl) (by rfl) ?_; simp only [List.setIfInBounds_toArray, List.set_cons_zero, List.set_cons_succ]; try go_bits) | (refine plan_skip2 (by rfl) (by rfl) (by rfl) ?_; simp only [List.setIfInBounds_toArray, List.set_cons_zero, List.set_cons_succ]; try go_bits) | (refine plan_skip4 (by rfl) (by rfl) (by rfl) ?_; simp only [List.setIfInBounds_toArray, List.set_cons_zero, List.set_cons_succ]; try go_bits) | (refine plan_any (by rfl) ?_) | (refine plan_keep (by rfl) ?_) | (refine plan_nil ?_) | (with_reducible refine And.intro (by first | assumption | exact Agree.refl _ _ | exact agree_drew _ _ | exact agree_alloc _ (by intro k hk; subst hk; first | omega | (simp; omega))) ?_) | (unfold Act.put; simp only [List.setIfInBounds_toArray, List.set_cons_zero, List.set_cons_succ])
        | (go_at_call 107; refine (HOP.out _ (HBX.out.drew)).mono ?_; clear HOP; rintro e w5 ⟨v5, d5, rfl, h51, h52, h53, h54, hb5⟩; obtain ⟨p5, c5, rfl, h55, h56⟩ := h54.form;
           have hag : Agree (fun k => k < wl.heap.size) wl.drew w5 := agree_bel hb5 (fun k hk => hk);
           have HSG5 := Lib.hid (HSG.out w5 _ false _ d5 h51 h54 h53); rw [h52, HZ.out] at HSG5;
           have B25 := Lib.hid (BX.out.drew.below hb5); have HB5 := Lib.hid hb5; clear hb5 h54 h51 h53 h52)
        | (go_at_call 104; refine HSG5.out.mono ?_; rintro e w6 ⟨v6, rfl, ⟨dv6, rfl, h62⟩, hb6⟩; obtain ⟨p6, c6, rfl, h65, h66⟩ := h62.form; have H62 := Lib.hid h62;
           have hag6 : Agree (fun k => k < wl.heap.size) w5 w6 := agree_bel hb6 (fun k hk => Nat.lt_of_lt_of_le hk HB5.out.size);
           have B26 := Lib.hid (B25.out.below hb6);
           have c20 : w6.cell? ⟨w.heap.size + 1 + 1, 0, none⟩ = some (.bool false) := B26.out.cell 0;
           have c21 : w6.cell? ⟨w.heap.size + 1 + 1, 1, none⟩ = some (.slice none 0 0) := B26.out.cell 1;
           have hf6 : ∀ i, w6.frozen? ⟨w.heap.size + 1 + 1, i, none⟩ = false := B26.out.frozen; have HB6 := Lib.hid hb6; clear hb6 h62))
      have HR7 := (B26.out.set 0 (.bool (decide (z < 0)))).set 1 (.slice p6 (ld z.natAbs).length c6)
      have c70 := HR7.cell 0
      have c71 := HR7.cell 1
      refine bodyPost_ret (v := .agg #[.bool (decide (z < 0)), .slice p6 (ld z.natAbs).length c6]) (by simp [results, Tryd.results76, go_sem, c70, c71]) rfl ⟨_, rfl, ⟨_, rfl, ?_⟩, ?_⟩
      · have h1 : w4.heap.size ≤ wl.heap.size := HSX.out
        refine Sl.weak (H62.out.only (((Only.refl (fun k => k = w.heap.size + 1 + 1) w6).setCell (p := ⟨w.heap.size + 1 + 1, 0, none⟩) (fun _ => rfl) _).setCell (p := ⟨w.heap.size + 1 + 1, 1, none⟩) (fun _ => rfl) _) (fun k (h1 : wl.heap.size ≤ k) h2 => by have := HS4.out; omega)) (fun k (h : wl.heap.size ≤ k) => by omega)
      · have h1 := HBX.out.drew.trans (HB5.out.mono HBX.out.size)
        have h2 := h1.trans (HB6.out.mono h1.size)
        exact (h2.setCell (by show w.heap.size ≤ w.heap.size + 1 + 1; omega) _).setCell (by show w.heap.size ≤ w.heap.size + 1 + 1; omega) _
    · have HZ : Hid (sgn true ((x - y : Nat) : Int) = z1 + z2) := by
        show _ = _
        rw [hz1, hz2]; unfold sgn; simp; omega
      have DXY : decide (x < y) = false := decide_eq_false hxy
      have HOP := HSA.out (Nat.le_of_not_lt hxy)
      clear ha hb hz1 hz2 hx hy hsa hsb
      generalize z1 + z2 = z at *
      generalize (ld x).length = la at *
      generalize (ld y).length = lb at *
      obtain ⟨b0, b1, b2, hb4, hs4⟩ := boxes3 w [.bool true, .slice pa la ca] [.bool false, .slice pb lb cb] [.bool false, .slice none 0 0] 103
      go_enter Tryd.func76, Tryd.ntmps76
      go_wp2_with fail
      generalize (((w.alloc (.cells #[.bool true, .slice pa la ca] 103)).alloc (.cells #[.bool false, .slice pb lb cb] 103)).alloc (.cells #[.bool false, .slice none 0 0] 103)) = w4 at *
      have c00 : w4.cell? ⟨w.heap.size, 0, none⟩ = some (.bool true) := b0.cell 0
      have c01 : w4.cell? ⟨w.heap.size, 1, none⟩ = some (.slice pa la ca) := b0.cell 1
      have c10 : w4.cell? ⟨w.heap.size + 1, 0, none⟩ = some (.bool false) := b1.cell 0
      have c11 : w4.cell? ⟨w.heap.size + 1, 1, none⟩ = some (.slice pb lb cb) := b1.cell 1
      have B0 := Lib.hid b0
      have B1 := Lib.hid b1
      have B2 := Lib.hid b2
      have HB4 := Lib.hid hb4
      have HS4 := Lib.hid hs4
      have hl0 : w.heap.size < w4.heap.size := by omega
      have hl1 : w.heap.size + 1 < w4.heap.size := by omega
      clear b0 b1 b2 hb4 hs4
      go_wp2_with (go_at_call 106; refine (HLS.out _ HB4.out).mono ?_; clear HLS; rintro e wl ⟨rfl, hbl⟩; rw [DXY])
      have d00 : wl.cell? ⟨w.heap.size, 0, none⟩ = some (.bool true) := (B0.out.below hbl).cell 0
      have d01 : wl.cell? ⟨w.heap.size, 1, none⟩ = some (.slice pa la ca) := (B0.out.below hbl).cell 1
      have d10 : wl.cell? ⟨w.heap.size + 1, 0, none⟩ = some (.bool false) := (B1.out.below hbl).cell 0
      have d11 : wl.cell? ⟨w.heap.size + 1, 1, none⟩ = some (.slice pb lb cb) := (B1.out.below hbl).cell 1
      have m0 : w.heap.size < wl.heap.size := Nat.lt_of_lt_of_le hl0 hbl.size
      have m1 : w.heap.size + 1 < wl.heap.size := Nat.lt_of_lt_of_le hl1 hbl.size
      have BX := Lib.hid (B2.out.below hbl)
      have HSX := Lib.hid hbl.size
      have HBX := Lib.hid (HB4.out.trans (hbl.mono (by omega)))
      clear hbl
      go_wp2
      refine wp_region_lit_plan [] [(0, 0), (2, 0), (4, 0), (1, 2), (3, 1), (5, 1), (6, 3), (7, 4), (8, 4)] (fun k => k < wl.heap.size) (by kernel_rfl) (by kernel_rfl) (fun c a d v w h => by cases d <;> exact h) ?_
      go_wp2_with (first
        | (refine plan_pure (v := _) (by rfl) (by rfl) (by rfl) (by intro _; go_simp; with_reducible rfl) ?_; simp only [List.setIfInBounds_toArray, List.set_cons_zero, List.set_cons_succ]; try go_bits) | (refine plan_read (v := _) (by rfl) (by rfl) (by rfl) (by go_simp; with_reducible rfl) ?_; simp only [List.setIfInBounds_toArray, List.set_cons_zero, List.set_cons_succ]; try go_bits) | (refine plan_readB (v := _) (by rfl) (by rfl) (by rfl) (by intro _ hag; unfold Agree at hag; go_simp; with_reducible rfl) ?_; simp only [List.setIfInBounds_toArray, List.set_cons_zero, List.set_cons_succ]; try go_bits) | (refine plan_skip0 (by rfl) (by rfl) (by rfl) ?_; simp only [List.setIfInBounds_toArray, List.set_cons_zero, List.set_cons_succ]; try go_bits) | (refine plan_skip1 (by rfl) (by rfl) (by rfl) ?_; simp only [List.setIfInBounds_toArray, List.set_cons_zero, List.set_cons_succ]; try go_bits) | (refine plan_skip2 (by rfl) (by rfl) (by rfl) ?_; simp only [List.setIfInBounds_toArray, List.set_cons_zero, List.set_cons_succ]; try go_bits) | (refine plan_skip4 (by rfl) (by rfl) (by rfl) ?_; simp only [List.setIfInBounds_toArray, List.set_cons_zero, List.set_cons_succ]; try go_bits) | (refine plan_any (by rfl) ?_) | (refine plan_keep (by rfl) ?_) | (refine plan_nil ?_) | (with_reducible refine And.intro (by first | assumption | exact Agree.refl _ _ | exact agree_drew _ _ | exact agree_alloc _ (by intro k hk; subst hk; first | omega | (simp; omega))) ?_) | (unfold Act.put; simp only [List.setIfInBounds_toArray, List.set_cons_zero, List.set_cons_succ])
        | (go_at_call 107; refine (HOP.out _ (HBX.out.drew)).mono ?_; clear HOP; rintro e w5 ⟨v5, d5, rfl, h51, h52, h53, h54, hb5⟩; obtain ⟨p5, c5, rfl, h55, h56⟩ := h54.form;
           have hag : Agree (fun k => k < wl.heap.size) wl.drew w5 := agree_bel hb5 (fun k hk => hk);
           have HSG5 := Lib.hid (HSG.out w5 _ true _ d5 h51 h54 h53); rw [h52, HZ.out] at HSG5;
           have B25 := Lib.hid (BX.out.drew.below hb5); have HB5 := Lib.hid hb5; clear hb5 h54 h51 h53 h52)
        | (go_at_call 104; refine HSG5.out.mono ?_; rintro e w6 ⟨v6, rfl, ⟨dv6, rfl, h62⟩, hb6⟩; obtain ⟨p6, c6, rfl, h65, h66⟩ := h62.form; have H62 := Lib.hid h62;
           have hag6 : Agree (fun k => k < wl.heap.size) w5 w6 := agree_bel hb6 (fun k hk => Nat.lt_of_lt_of_le hk HB5.out.size);
           have B26 := Lib.hid (B25.out.below hb6);
           have c20 : w6.cell? ⟨w.heap.size + 1 + 1, 0, none⟩ = some (.bool false) := B26.out.cell 0;
           have c21 : w6.cell? ⟨w.heap.size + 1 + 1, 1, none⟩ = some (.slice none 0 0) := B26.out.cell 1;
           have hf6 : ∀ i, w6.frozen? ⟨w.heap.size + 1 + 1, i, none⟩ = false := B26.out.frozen; have HB6 := Lib.hid hb6; clear hb6 h62))
      have HR7 := (B26.out.set 0 (.bool (decide (z < 0)))).set 1 (.slice p6 (ld z.natAbs).length c6)
      have c70 := HR7.cell 0
      have c71 := HR7.cell 1
      refine bodyPost_ret (v := .agg #[.bool (decide (z < 0)), .slice p6 (ld z.natAbs).length c6]) (by simp [results, Tryd.results76, go_sem, c70, c71]) rfl ⟨_, rfl, ⟨_, rfl, ?_⟩, ?_⟩
      · have h1 : w4.heap.size ≤ wl.heap.size := HSX.out
        refine Sl.weak (H62.out.only (((Only.refl (fun k => k = w.heap.size + 1 + 1) w6).setCell (p := ⟨w.heap.size + 1 + 1, 0, none⟩) (fun _ => rfl) _).setCell (p := ⟨w.heap.size + 1 + 1, 1, none⟩) (fun _ => rfl) _) (fun k (h1 : wl.heap.size ≤ k) h2 => by have := HS4.out; omega)) (fun k (h : wl.heap.size ≤ k) => by omega)
      · have h1 := HBX.out.drew.trans (HB5.out.mono HBX.out.size)
        have h2 := h1.trans (HB6.out.mono h1.size)
        exact (h2.setCell (by show w.heap.size ≤ w.heap.size + 1 + 1; omega) _).setCell (by show w.heap.size ≤ w.heap.size + 1 + 1; omega) _
  · have HZ : Hid (sgn true ((x + y : Nat) : Int) = z1 + z2) := by
      show _ = _
      rw [hz1, hz2]; unfold sgn; simp <;> omega
    have HOP := HADD
    clear ha hb hz1 hz2 hx hy hsa hsb
    generalize z1 + z2 = z at *
    generalize (ld x).length = la at *
    generalize (ld y).length = lb at *
    obtain ⟨b0, b1, b2, hb4, hs4⟩ := boxes3 w [.bool true, .slice pa la ca] [.bool true, .slice pb lb cb] [.bool false, .slice none 0 0] 103
    go_enter Tryd.func76, Tryd.ntmps76
    go_wp2
    generalize (((w.alloc (.cells #[.bool true, .slice pa la ca] 103)).alloc (.cells #[.bool true, .slice pb lb cb] 103)).alloc (.cells #[.bool false, .slice none 0 0] 103)) = w4 at *
    have c00 : w4.cell? ⟨w.heap.size, 0, none⟩ = some (.bool true) := b0.cell 0
    have c01 : w4.cell? ⟨w.heap.size, 1, none⟩ = some (.slice pa la ca) := b0.cell 1
    have c10 : w4.cell? ⟨w.heap.size + 1, 0, none⟩ = some (.bool true) := b1.cell 0
    have c11 : w4.cell? ⟨w.heap.size + 1, 1, none⟩ = some (.slice pb lb cb) := b1.cell 1
    have B0 := Lib.hid b0
    have B1 := Lib.hid b1
    have B2 := Lib.hid b2
    have HB4 := Lib.hid hb4
    have HS4 := Lib.hid hs4
    have hl0 : w.heap.size < w4.heap.size := by omega
    have hl1 : w.heap.size + 1 < w4.heap.size := by omega
    clear b0 b1 b2 hb4 hs4
    have HBX := HB4
    have BX := B2
    have HSX := Lib.hid (Nat.le_refl w4.heap.size)
    refine wp_region_lit_plan [] [(0, 0), (2, 0), (4, 0), (1, 2), (3, 1), (5, 1), (6, 3), (7, 4), (8, 4)] (fun k => k < w4.heap.size) (by kernel_rfl) (by kernel_rfl) (fun c a d v w h => by cases d <;> exact h) ?_
    go_wp2_with (first
      | (refine plan_pure (v := _) (by rfl) (by rfl) (by rfl) (by intro _; go_simp; with_reducible rfl) ?_; simp only [List.setIfInBounds_toArray, List.set_cons_zero, List.set_cons_succ]; try go_bits) | (refine plan_read (v := _) (by rfl) (by rfl) (by rfl) (by go_simp; with_reducible rfl) ?_; simp only [List.setIfInBounds_toArray, List.set_cons_zero, List.set_cons_succ]; try go_bits) | (refine plan_readB (v := _) (by rfl) (by rfl) (by rfl) (by intro _ hag; unfold Agree at hag; go_simp; with_reducible rfl) ?_; simp only [List.setIfInBounds_toArray, List.set_cons_zero, List.set_cons_succ]; try go_bits) | (refine plan_skip0 (by rfl) (by rfl) (by rfl) ?_; simp only [List.setIfInBounds_toArray, List.set_cons_zero, List.set_cons_succ]; try go_bits) | (refine plan_skip1 (by rfl) (by rfl) (by rfl) ?_; simp only [List.setIfInBounds_toArray, List.set_cons_zero, List.set_cons_succ]; try go_bits) | (refine plan_skip2 (by rfl) (by rfl) (by rfl) ?_; simp only [List.setIfInBounds_toArray, List.set_cons_zero, List.set_cons_succ]; try go_bits) | (refine plan_skip4 (by rfl) (by rfl) (by rfl) ?_; simp only [List.setIfInBounds_toArray, List.set_cons_zero, List.set_cons_succ]; try go_bits) | (refine plan_any (by rfl) ?_) | (refine plan_keep (by rfl) ?_) | (refine plan_nil ?_) | (with_reducible refine And.intro (by first | assumption | exact Agree.refl _ _ | exact agree_drew _ _ | exact agree_alloc _ (by intro k hk; subst hk; first | omega | (simp; omega))) ?_) | (unfold Act.put; simp only [List.setIfInBounds_toArray, List.set_cons_zero, List.set_cons_succ])
      | (go_at_call 105; refine (HOP.out _ (HBX.out.drew)).mono ?_; clear HOP; rintro e w5 ⟨v5, d5, rfl, h51, h52, h53, h54, hb5⟩; obtain ⟨p5, c5, rfl, h55, h56⟩ := h54.form;
         have hag : Agree (fun k => k < w4.heap.size) w4.drew w5 := agree_bel hb5 (fun k hk => hk);
         have HSG5 := Lib.hid (HSG.out w5 _ true _ d5 h51 h54 h53); rw [h52, HZ.out] at HSG5;
         have B25 := Lib.hid (BX.out.drew.below hb5); have HB5 := Lib.hid hb5; clear hb5 h54 h51 h53 h52)
      | (go_at_call 104; refine HSG5.out.mono ?_; rintro e w6 ⟨v6, rfl, ⟨dv6, rfl, h62⟩, hb6⟩; obtain ⟨p6, c6, rfl, h65, h66⟩ := h62.form; have H62 := Lib.hid h62;
         have hag6 : Agree (fun k => k < w4.heap.size) w5 w6 := agree_bel hb6 (fun k hk => Nat.lt_of_lt_of_le hk HB5.out.size);
         have B26 := Lib.hid (B25.out.below hb6);
         have c20 : w6.cell? ⟨w.heap.size + 1 + 1, 0, none⟩ = some (.bool false) := B26.out.cell 0;
         have c21 : w6.cell? ⟨w.heap.size + 1 + 1, 1, none⟩ = some (.slice none 0 0) := B26.out.cell 1;
         have hf6 : ∀ i, w6.frozen? ⟨w.heap.size + 1 + 1, i, none⟩ = false := B26.out.frozen; have HB6 := Lib.hid hb6; clear hb6 h62))
    have HR7 := (B26.out.set 0 (.bool (decide (z < 0)))).set 1 (.slice p6 (ld z.natAbs).length c6)
    have c70 := HR7.cell 0
    have c71 := HR7.cell 1
    refine bodyPost_ret (v := .agg #[.bool (decide (z < 0)), .slice p6 (ld z.natAbs).length c6]) (by simp [results, Tryd.results76, go_sem, c70, c71]) rfl ⟨_, rfl, ⟨_, rfl, ?_⟩, ?_⟩
    · have h1 : w4.heap.size ≤ w4.heap.size := HSX.out
      refine Sl.weak (H62.out.only (((Only.refl (fun k => k = w.heap.size + 1 + 1) w6).setCell (p := ⟨w.heap.size + 1 + 1, 0, none⟩) (fun _ => rfl) _).setCell (p := ⟨w.heap.size + 1 + 1, 1, none⟩) (fun _ => rfl) _) (fun k (h1 : w4.heap.size ≤ k) h2 => by have := HS4.out; omega)) (fun k (h : w4.heap.size ≤ k) => by omega)
    · have h1 := HBX.out.drew.trans (HB5.out.mono HBX.out.size)
      have h2 := h1.trans (HB6.out.mono h1.size)
      exact (h2.setCell (by show w.heap.size ≤ w.heap.size + 1 + 1; omega) _).setCell (by show w.heap.size ≤ w.heap.size + 1 + 1; omega) _
end Go.Proofs.YtlgohkdckdnmhaaDoor
