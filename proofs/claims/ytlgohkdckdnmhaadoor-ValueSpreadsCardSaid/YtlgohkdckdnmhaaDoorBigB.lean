/- The document's numbers: Of, at, less. -/
import Derived.Test.YtlgohkdckdnmhaaDoorBigA
namespace Go.Proofs.YtlgohkdckdnmhaaDoor
open Go.RowKit Go.Afx

theorem own_form1 {w : World} {e : TypeId} {sz : Nat} {v : Value} {n : Nat} {cs : List Value} (h : Own w e sz v n cs) : ∃ p cap, v = .slice p n cap ∧ n ≤ cap ∧ cap ≤ 9223372036854775807 :=
  (h.sl (B := fun _ => True) fun _ _ => trivial).form

/-- A digit behind those of one's own: what append leaves. -/
theorem push_post {w w2 : World} {dv v1 : Value} {d : List Nat} {x N : Nat} (hN : N ≤ w.heap.size) (hf : ∀ k, dv.ownBlock = some k → N ≤ k)
    (g1 : Own w2 3 1 v1 (d.length + 1) (nats d ++ [.int .i64 (x : Int)])) (g2 : Only (fun k => dv.ownBlock = some k) (w.alloc (.cells #[.int .i64 (x : Int)] 3)) w2)
    (g3 : v1.ownBlock = dv.ownBlock ∨ v1.ownBlock = some (w.alloc (.cells #[.int .i64 (x : Int)] 3)).heap.size) :
    Own w2 3 1 v1 (d ++ [x]).length (nats (d ++ [x])) ∧ Only (fun k => dv.ownBlock = some k) w w2 ∧ (∀ k, v1.ownBlock = some k → N ≤ k) ∧ Below N w w2 := by
  have ho : Only (fun k => dv.ownBlock = some k) w w2 := ((Only.refl _ w).alloc _).trans g2 (fun _ _ h => h)
  refine ⟨?_, ho, fun k hk => ?_, ho.below hN hf⟩
  · rw [nats_append, List.length_append]; exact g1
  · rcases g3 with h | h
    · exact hf k (by rw [← h]; exact hk)
    · rw [h] at hk
      have : (w.alloc (.cells #[.int .i64 (x : Int)] 3)).heap.size = k := by simpa using hk
      simp at this
      omega
theorem one_int (w : World) (x : Nat) : Sl (w.alloc (.cells #[.int .i64 (x : Int)] 3)) (fun _ => True) 1 (.slice (some ⟨w.heap.size, 0, none⟩) 1 1) 1 [.int .i64 (x : Int)] :=
  (Own.made w 3 1 [.int .i64 (x : Int)] [] 1 1 rfl (Ones.nil.cons rfl) (Nat.le_refl _) (by simp [maxLen]) (by simp)).sl (fun _ _ => trivial)

set_option maxRecDepth 100000 in
theorem of_num (w : World) (n : Int) (hn : fits n) :
    Calls Tryd.prog 75 #[.int .i64 n] w fun e w' => ∃ v', e = .returned v' ∧ IsNum w' (fun k => w.heap.size < k) v' n ∧ Below w.heap.size w w' := by
  have e1 : (if n < 0 then IntKind.u64.wrap (-IntKind.u64.wrap n) else IntKind.u64.wrap n) = (n.natAbs : Int) := by
    unfold fits at hn
    split
    · rw [IntKind.wrap_u64, IntKind.wrap_u64]; omega
    · rw [IntKind.wrap_u64]; omega
  have hu : n.natAbs < 10 ^ 19 := by unfold fits at hn; omega
  have hz : sgn (decide (n < 0)) (n.natAbs : Int) = n := by
    unfold sgn
    by_cases h : n < 0
    · rw [decide_eq_true h, if_pos rfl]; omega
    · rw [decide_eq_false h, if_neg (by decide)]; omega
  have HU := Lib.hid hu
  have HZ := Lib.hid hz
  clear hn hu hz
  generalize n.natAbs = u at *
  have HB0 : Hid (Blk (w.alloc (.cells #[.bool false, .slice none 0 0] 103)) w.heap.size 103 [.bool false, .slice none 0 0]) := Blk.new w _ _
  by_cases hneg : n < 0
  · rw [if_pos hneg] at e1
    go_enter Tryd.func75, Tryd.ntmps75
    go_wp2
    generalize hw0 : w.alloc (.cells #[.bool false, .slice none 0 0] 103) = w0 at *
    have HL0 : Hid (Below w.heap.size w w0) := by rw [← hw0]; exact (Below.refl _ _).alloc (Nat.le_refl _) _
    have HS0 : Hid (w.heap.size + 1 ≤ w0.heap.size) := by rw [← hw0]; show _ ≤ _; simp
    clear hw0 e1
    go_loopw [3, 4] (fun a x wr => ∃ (y : Nat) (d : List Nat), a = .int .u64 (y : Int) ∧ d ++ ld y = ld u ∧ Own wr 3 1 x d.length (nats d) ∧ (∀ k, x.ownBlock = some k → w.heap.size + 1 ≤ k) ∧ Below (w.heap.size + 1) w0 wr) (fun a _ _ => (intOf a).toNat)
    case atStart => exact ⟨u, [], rfl, rfl, Own.nil _ _ _, by simp [Value.ownBlock], Below.refl _ _⟩
    case round =>
      obtain ⟨y, d, rfl, hd, how, hfr, hb⟩ := hrel
      obtain ⟨p4, c4, rfl, hc41, hc42⟩ := own_form1 how
      have hdl : d.length ≤ 19 := by
        have h1 := ld_len_le u 19 HU.out
        rw [← hd, List.length_append] at h1
        omega
      have hy64 : y < 18446744073709551616 := by
        have h1 : y < 10 ^ 19 := by
          have h2 : vd (d ++ ld y) = u := by rw [hd, vd_ld]
          rw [vd_append, vd_ld] at h2
          have h3 : y ≤ 10 ^ d.length * y := Nat.le_mul_of_pos_left _ (Nat.pow_pos (by omega))
          have h4 := HU.out
          omega
        omega
      have HD := Lib.hid hd
      have HW := Lib.hid how
      have HF := Lib.hid hfr
      have HB := Lib.hid hb
      rcases Nat.eq_zero_or_pos y with h0 | hpos
      · subst h0
        have hd2 : Hid (d = ld u) := by show _ = _; rw [← HD.out, ld_zero, List.append_nil]
        have HSG : Hid (Calls Tryd.prog 104 #[.bool true, .slice p4 d.length c4] wr fun e w' => ∃ v', e = .returned v' ∧ IsNum w' (fun k => w.heap.size < k) v' n ∧ Below wr.heap.size wr w') := by
          have h1 := sign_any wr (fun k => w.heap.size < k) true (.slice p4 d.length c4) d (by rw [hd2.out]; exact ld_D10 u) (how.sl fun k hk => hfr k hk) (by omega)
          have h3 : vd d = u := by rw [hd2.out, vd_ld]
          rw [h3] at h1
          have h2 : sgn true (u : Int) = n := by rw [← HZ.out]; congr 1; exact (decide_eq_true hneg).symm
          rw [h2] at h1
          exact h1
        have HRB : Hid (Blk wr w.heap.size 103 [.bool false, .slice none 0 0]) := HB0.out.only (S := fun k => w.heap.size + 1 ≤ k) (Only.of_below hb (fun i _ h => by omega)) (by omega)
        clear hd how hfr hb HD HW HF hy64
        go_wp2_with (first
          | (go_at_call 104; refine HSG.out.mono ?_; rintro e w2 ⟨v2, rfl, h2, hb2⟩; obtain ⟨dv2, rfl, h3⟩ := h2; obtain ⟨p3, cap3, rfl, hd31, hd32⟩ := h3.form; have HRB2 := Lib.hid (HRB.out.below hb2);
             have hc0 : w2.cell? ⟨w.heap.size, 0, none⟩ = some (.bool false) := HRB2.out.cell 0; have hc1 : w2.cell? ⟨w.heap.size, 1, none⟩ = some (.slice none 0 0) := HRB2.out.cell 1; have hf : ∀ i, w2.frozen? ⟨w.heap.size, i, none⟩ = false := HRB2.out.frozen; have H3 := Lib.hid h3; clear h3))
        have HR3 := (HRB2.out.set 0 (.bool true)).set 1 (.slice p3 (ld n.natAbs).length cap3)
        have c0 := HR3.cell 0
        have c1 := HR3.cell 1
        refine bodyPost_ret (v := .agg #[.bool true, .slice p3 (ld n.natAbs).length cap3]) (by simp [results, Tryd.results75, go_sem, c0, c1]) rfl ⟨_, rfl, ⟨_, by rw [decide_eq_true hneg], ?_⟩, ?_⟩
        · exact H3.out.only (((Only.refl (fun k => k = w.heap.size) w2).setCell (p := ⟨w.heap.size, 0, none⟩) (fun _ => rfl) _).setCell (p := ⟨w.heap.size, 1, none⟩) (fun _ => rfl) _) (fun k h1 h2 => by omega)
        · have h1 := HL0.out.trans (HB.out.mono (Nat.le_succ _))
          have h2 := h1.trans (hb2.mono h1.size)
          exact (h2.setCell (Nat.le_refl _) _).setCell (Nat.le_refl _) _
      · have hp1 : (0 : Int) < y := by omega
        have hwr : IntKind.u64.wrap ((y : Int) / 10) = (y : Int) / 10 := by rw [IntKind.wrap_u64]; omega
        have ho1 := how.alloc (.cells #[.int .i64 ((y : Int) % 10)] 3)
        have hs1 := one_int wr (y % 10)
        have e9 : ((y % 10 : Nat) : Int) = (y : Int) % 10 := by omega
        rw [e9] at hs1
        clear hd how hfr hb e9
        go_wp2_with (first
          | (at_builtin; refine wpList_app rfl _ _ rfl elemInt (by rfl) ho1 (by rfl) hs1 (by unfold maxLen; omega) (by omega) ?_; intro v1 w2 g1 g2 g3 g4 g5; clear hs1 ho1;
             have G1 := Lib.hid g1; have G2 := Lib.hid g2; have G3 := Lib.hid g3; clear g1 g2 g3 g4 g5))
        have hsz0 : w.heap.size + 1 ≤ wr.heap.size := Nat.le_trans HS0.out HB.out.size
        have e9 : ((y % 10 : Nat) : Int) = (y : Int) % 10 := by omega
        obtain ⟨k1, k2, k3, k4⟩ := push_post (x := y % 10) hsz0 HF.out (by rw [e9]; exact G1.out) (by rw [e9]; exact G2.out) (by rw [e9]; exact G3.out)
        refine ⟨⟨y / 10, d ++ [y % 10], by congr 1, ?_, k1, k3, HB.out.trans k4⟩, ?_⟩
        · rw [List.append_assoc, ← HD.out, ld_pos y hpos]; rfl
        · show ((y : Int) / 10).toNat < (y : Int).toNat
          omega
  · rw [if_neg hneg] at e1
    have hneg2 : 0 ≤ n := by omega
    have hdn : decide (n < 0) = false := decide_eq_false hneg
    go_enter Tryd.func75, Tryd.ntmps75
    go_wp2
    generalize hw0 : w.alloc (.cells #[.bool false, .slice none 0 0] 103) = w0 at *
    have HL0 : Hid (Below w.heap.size w w0) := by rw [← hw0]; exact (Below.refl _ _).alloc (Nat.le_refl _) _
    have HS0 : Hid (w.heap.size + 1 ≤ w0.heap.size) := by rw [← hw0]; show _ ≤ _; simp
    clear hw0 e1
    go_loopw [3, 4] (fun a x wr => ∃ (y : Nat) (d : List Nat), a = .int .u64 (y : Int) ∧ d ++ ld y = ld u ∧ Own wr 3 1 x d.length (nats d) ∧ (∀ k, x.ownBlock = some k → w.heap.size + 1 ≤ k) ∧ Below (w.heap.size + 1) w0 wr) (fun a _ _ => (intOf a).toNat)
    case atStart => exact ⟨u, [], rfl, rfl, Own.nil _ _ _, by simp [Value.ownBlock], Below.refl _ _⟩
    case round =>
      obtain ⟨y, d, rfl, hd, how, hfr, hb⟩ := hrel
      obtain ⟨p4, c4, rfl, hc41, hc42⟩ := own_form1 how
      have hdl : d.length ≤ 19 := by
        have h1 := ld_len_le u 19 HU.out
        rw [← hd, List.length_append] at h1
        omega
      have hy64 : y < 18446744073709551616 := by
        have h1 : y < 10 ^ 19 := by
          have h2 : vd (d ++ ld y) = u := by rw [hd, vd_ld]
          rw [vd_append, vd_ld] at h2
          have h3 : y ≤ 10 ^ d.length * y := Nat.le_mul_of_pos_left _ (Nat.pow_pos (by omega))
          have h4 := HU.out
          omega
        omega
      have HD := Lib.hid hd
      have HW := Lib.hid how
      have HF := Lib.hid hfr
      have HB := Lib.hid hb
      rcases Nat.eq_zero_or_pos y with h0 | hpos
      · subst h0
        have hd2 : Hid (d = ld u) := by show _ = _; rw [← HD.out, ld_zero, List.append_nil]
        have HSG : Hid (Calls Tryd.prog 104 #[.bool false, .slice p4 d.length c4] wr fun e w' => ∃ v', e = .returned v' ∧ IsNum w' (fun k => w.heap.size < k) v' n ∧ Below wr.heap.size wr w') := by
          have h1 := sign_any wr (fun k => w.heap.size < k) false (.slice p4 d.length c4) d (by rw [hd2.out]; exact ld_D10 u) (how.sl fun k hk => hfr k hk) (by omega)
          have h3 : vd d = u := by rw [hd2.out, vd_ld]
          rw [h3] at h1
          have h2 : sgn false (u : Int) = n := by rw [← HZ.out]; congr 1; exact (decide_eq_false (by omega)).symm
          rw [h2] at h1
          exact h1
        have HRB : Hid (Blk wr w.heap.size 103 [.bool false, .slice none 0 0]) := HB0.out.only (S := fun k => w.heap.size + 1 ≤ k) (Only.of_below hb (fun i _ h => by omega)) (by omega)
        clear hd how hfr hb HD HW HF hy64
        go_wp2_with (first
          | (go_at_call 104; refine HSG.out.mono ?_; rintro e w2 ⟨v2, rfl, h2, hb2⟩; obtain ⟨dv2, rfl, h3⟩ := h2; obtain ⟨p3, cap3, rfl, hd31, hd32⟩ := h3.form; have HRB2 := Lib.hid (HRB.out.below hb2);
             have hc0 : w2.cell? ⟨w.heap.size, 0, none⟩ = some (.bool false) := HRB2.out.cell 0; have hc1 : w2.cell? ⟨w.heap.size, 1, none⟩ = some (.slice none 0 0) := HRB2.out.cell 1; have hf : ∀ i, w2.frozen? ⟨w.heap.size, i, none⟩ = false := HRB2.out.frozen; have H3 := Lib.hid h3; clear h3))
        have HR3 := (HRB2.out.set 0 (.bool false)).set 1 (.slice p3 (ld n.natAbs).length cap3)
        have c0 := HR3.cell 0
        have c1 := HR3.cell 1
        refine bodyPost_ret (v := .agg #[.bool false, .slice p3 (ld n.natAbs).length cap3]) (by simp [results, Tryd.results75, go_sem, c0, c1]) rfl ⟨_, rfl, ⟨_, by rw [decide_eq_false (show ¬ n < 0 by omega)], ?_⟩, ?_⟩
        · exact H3.out.only (((Only.refl (fun k => k = w.heap.size) w2).setCell (p := ⟨w.heap.size, 0, none⟩) (fun _ => rfl) _).setCell (p := ⟨w.heap.size, 1, none⟩) (fun _ => rfl) _) (fun k h1 h2 => by omega)
        · have h1 := HL0.out.trans (HB.out.mono (Nat.le_succ _))
          have h2 := h1.trans (hb2.mono h1.size)
          exact (h2.setCell (Nat.le_refl _) _).setCell (Nat.le_refl _) _
      · have hp1 : (0 : Int) < y := by omega
        have hwr : IntKind.u64.wrap ((y : Int) / 10) = (y : Int) / 10 := by rw [IntKind.wrap_u64]; omega
        have ho1 := how.alloc (.cells #[.int .i64 ((y : Int) % 10)] 3)
        have hs1 := one_int wr (y % 10)
        have e9 : ((y % 10 : Nat) : Int) = (y : Int) % 10 := by omega
        rw [e9] at hs1
        clear hd how hfr hb e9
        go_wp2_with (first
          | (at_builtin; refine wpList_app rfl _ _ rfl elemInt (by rfl) ho1 (by rfl) hs1 (by unfold maxLen; omega) (by omega) ?_; intro v1 w2 g1 g2 g3 g4 g5; clear hs1 ho1;
             have G1 := Lib.hid g1; have G2 := Lib.hid g2; have G3 := Lib.hid g3; clear g1 g2 g3 g4 g5))
        have hsz0 : w.heap.size + 1 ≤ wr.heap.size := Nat.le_trans HS0.out HB.out.size
        have e9 : ((y % 10 : Nat) : Int) = (y : Int) % 10 := by omega
        obtain ⟨k1, k2, k3, k4⟩ := push_post (x := y % 10) hsz0 HF.out (by rw [e9]; exact G1.out) (by rw [e9]; exact G2.out) (by rw [e9]; exact G3.out)
        refine ⟨⟨y / 10, d ++ [y % 10], by congr 1, ?_, k1, k3, HB.out.trans k4⟩, ?_⟩
        · rw [List.append_assoc, ← HD.out, ld_pos y hpos]; rfl
        · show ((y : Int) / 10).toNat < (y : Int).toNat
          omega
end Go.Proofs.YtlgohkdckdnmhaaDoor
