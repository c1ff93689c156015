/- Contracts of the functions that the statement reaches, one behind the other. No condition beyond each theorem's own. -/
import Derived.Laws.Externs
import Derived.Test.YtfnndifckgjmjaaRows
import Derived.Test.YtfnndifckgjmjaaPlan
import Derived.Lib.Hide
import Derived.Lib.SliceRun
import Derived.Test.YtfnndifckgjmjaaTP5
set_option linter.unusedSimpArgs false
set_option linter.unusedVariables false
/- Slices of tree.entry[string]: Insert of one element. -/
namespace Go.Proofs.Ytfnndifckgjmjaa
open Go.RowKit Go.Afx

theorem own_form_Es {w : World} {e : TypeId} {sz : Nat} {v : Value} {n : Nat} {cs : List Value} (h : Own w e sz v n cs) : ∃ p cap, v = .slice p n cap ∧ n ≤ cap ∧ cap ≤ 9223372036854775807 :=
  (h.sl (B := fun _ => True) (fun _ _ => trivial)).form
set_option maxRecDepth 100000 in
set_option maxHeartbeats 2000000 in
theorem insert_end_Es (w : World) (v : Value) (n : Nat) (cs news : List Value) (xb : Nat) (h : Own w 94 2 v n cs) (hx : Blk w xb 94 news) (hnl : news.length = 2) (hno : Ones news) (hn : n ≤ 1000000000) :
    Calls Try.prog 71 #[v, .int .i64 (n : Int), .slice (some ⟨xb, 0, none⟩) 1 1] w fun e w' => ∃ v', e = .returned v' ∧ Own w' 94 2 v' (n + 1) (cs ++ news) ∧
      Only (fun k => v.ownBlock = some k) w w' ∧ (∀ k, v'.ownBlock = some k → v.ownBlock = some k ∨ w.heap.size ≤ k) := by
  have hs : Sl w (fun _ => True) 2 (.slice (some ⟨xb, 0, none⟩) 1 1) 1 news :=
    ⟨by rw [hnl], hno, .inr ⟨xb, 0, 1, rfl, Nat.le_refl _, by simp [maxLen], trivial, hx.lt, fun j hj => by rw [Nat.zero_add]; exact hx.cell j⟩⟩
  obtain ⟨p, cap, rfl, hc1, hc2⟩ := own_form_Es h
  cases p
  all_goals
    go_enter Try.func71, Try.ntmps71
    go_wp2_with (at_builtin; refine wpList_app rfl _ _ rfl elemEs (by rfl) h (by rfl) hs (by unfold maxLen; omega) (by omega) ?_; intro v' w' h1 h2 h3 h4 h5)
    all_goals
      go_ret
      refine ⟨v', rfl, h1, h2, fun k hk => ?_⟩
      rcases h3 with h3 | h3
      · exact .inl (h3.symm.trans hk)
      · have := Option.some.inj (h3.symm.trans hk)
        exact .inr (by omega)

set_option maxRecDepth 100000 in
set_option maxHeartbeats 4000000 in
theorem insert_room_Es (w : World) (g off cap n i : Nat) (cs news : List Value) (xb : Nat) (h : Own w 94 2 (.slice (some ⟨g, off, none⟩) n cap) n cs) (hx : Blk w xb 94 news) (hnl : news.length = 2) (hno : Ones news) (hxb : g ≠ xb) (hi : i < n) (hroom : n + 1 ≤ cap) (hn : n ≤ 1000000000) :
    Calls Try.prog 71 #[.slice (some ⟨g, off, none⟩) n cap, .int .i64 (i : Int), .slice (some ⟨xb, 0, none⟩) 1 1] w fun e w' => e = .returned (.slice (some ⟨g, off, none⟩) (n + 1) cap) ∧
      Own w' 94 2 (.slice (some ⟨g, off, none⟩) (n + 1) cap) (n + 1) (cs.take (i * 2) ++ (news ++ cs.drop (i * 2))) ∧ Only (fun k => k = g) w w' := by
  have hown := h
  rcases h.2.2 with ⟨h0, _⟩ | ⟨g', off', cap', cur, hv, hb, hnc, hcm, hcl, htk⟩
  · cases h0
  cases hv
  have hcur : cur ≠ [] := fun e => by rw [e] at hcl; simp at hcl; omega
  have hov : ∀ lb cb, (callFunc 85 #[.slice (some ⟨xb, 0, none⟩) 1 1, .slice (some ⟨g, off + (i + 1) * 2, none⟩) lb cb]).run Try.prog w = .ok (.value (.bool false)) w := fun lb cb => by
    rw [run_callFunc_extern Try.func85 (by kernel_rfl) (by kernel_rfl) (by kernel_rfl) (e := Extern.SlicesOverlaps.overlaps #[70, 70] #[4]) (by kernel_rfl),
      run_overlaps_no elemEs hx hb (fun e => hxb e.symm) hcur]
    rfl
  have hin := Own.inserted hown hb hcl htk (Nat.le_of_lt hi) (m := 1) (vs := news) (by rw [hnl]) hno hroom hcm
  have hsl := (hown.sl (B := fun _ => True) (fun _ _ => trivial))
  have hs1 : Sl w.drew (fun _ => True) 2 (.slice (some ⟨g, off + i * 2, none⟩) (n - i) (cap - i)) (n - i) (cs.drop (i * 2)) := by
    have e : off + i * 2 = off + i * 2 := by omega
    have e2 : i * 2 = i * 2 := by omega
    have h1 := (Sl.from hsl (Nat.le_of_lt hi)).drew
    rw [e, e2] at h1
    exact h1
  have hdl : (cs.drop (i * 2)).length = (n - i) * 2 := hs1.1
  have hbd : Blk w.drew g 94 cur := hb.drew
  have hov2 : (over cur (cs.drop (i * 2)) (off + (i + 1) * 2)).length = cur.length := over_length (by rw [hdl]; unfold maxLen at hcm; omega)
  have hb2 : Blk (w.drew.setRow g (over cur (cs.drop (i * 2)) (off + (i + 1) * 2)).toArray) g 94 (over cur (cs.drop (i * 2)) (off + (i + 1) * 2)) := hbd.setRow _
  have hs2 : Sl (w.drew.setRow g (over cur (cs.drop (i * 2)) (off + (i + 1) * 2)).toArray) (fun _ => True) 2 (.slice (some ⟨xb, 0, none⟩) 1 1) 1 news :=
    ⟨by rw [hnl], hno, .inr ⟨xb, 0, 1, rfl, Nat.le_refl _, by simp [maxLen], trivial, (hx.drew.setRowOther (fun e => hxb e.symm) _).lt, fun j hj => by rw [Nat.zero_add]; exact (hx.drew.setRowOther (fun e => hxb e.symm) _).cell j⟩⟩
  have hci : ¬ (cap = i) := by omega
  have hci1 : ¬ (cap = i + 1) := by omega
  have HIN := Lib.hid hin
  have HCL := Lib.hid hcl
  have hni : ¬ ((i : Int) = (n : Int)) := by omega
  have hw1 : IntKind.i64.wrap ((i : Int) + 1) = (i : Int) + 1 := by rw [IntKind.wrap_i64]; omega
  have htn : ((i : Int) + 1).toNat = i + 1 := by omega
  have hin1 : i ≤ n := by omega
  have hb1 : (0 : Int) ≤ (i : Int) + 1 := by omega
  have hb3 : (i : Int) ≤ (n : Int) + 1 := by omega
  have hfit1 : off + (i + 1) * 2 + (n - i) * 2 ≤ cur.length := by unfold maxLen at hcm; omega
  have hfit2 : off + i * 2 + 1 * 2 ≤ (over cur (cs.drop (i * 2)) (off + (i + 1) * 2)).length := by rw [hov2]; omega
  clear h hin hown htk hsl hdl hov2 hcl hcur
  unfold maxLen at hcm
  go_enter Try.func71, Try.ntmps71
  go_wp2_with (simp only [hov])
  refine wp_region_lit_plan [] [(0, 0), (1, 0), (2, 0), (3, 0), (4, 0), (5, 0), (6, 0), (7, 0), (8, 4)] (fun _ => False) (by kernel_rfl) (by kernel_rfl) (fun c a d v w h => by cases d <;> exact h) ?_
  go_wp2_with (first
    | (refine plan_pure (v := _) (by rfl) (by rfl) (by rfl) (by intro _; go_simp; with_reducible rfl) ?_; simp only [List.setIfInBounds_toArray, List.set_cons_zero, List.set_cons_succ]; try go_bits) | (refine plan_read (v := _) (by rfl) (by rfl) (by rfl) (by go_simp; with_reducible rfl) ?_; simp only [List.setIfInBounds_toArray, List.set_cons_zero, List.set_cons_succ]; try go_bits) | (refine plan_readB (v := _) (by rfl) (by rfl) (by rfl) (by intro _ hag; unfold Agree at hag; go_simp; with_reducible rfl) ?_; simp only [List.setIfInBounds_toArray, List.set_cons_zero, List.set_cons_succ]; try go_bits) | (refine plan_skip0 (by rfl) (by rfl) (by rfl) ?_; simp only [List.setIfInBounds_toArray, List.set_cons_zero, List.set_cons_succ]; try go_bits) | (refine plan_skip1 (by rfl) (by rfl) (by rfl) ?_; simp only [List.setIfInBounds_toArray, List.set_cons_zero, List.set_cons_succ]; try go_bits) | (refine plan_skip2 (by rfl) (by rfl) (by rfl) ?_; simp only [List.setIfInBounds_toArray, List.set_cons_zero, List.set_cons_succ]; try go_bits) | (refine plan_skip4 (by rfl) (by rfl) (by rfl) ?_; simp only [List.setIfInBounds_toArray, List.set_cons_zero, List.set_cons_succ]; try go_bits) | (refine plan_any (by rfl) ?_) | (refine plan_keep (by rfl) ?_) | (refine plan_nil ?_) | (with_reducible refine And.intro (by first | assumption | exact Agree.refl _ _ | exact agree_drew _ _ | exact agree_alloc _ (by intro k hk; subst hk; first | omega | (simp; omega))) ?_) | (unfold Act.put; simp only [List.setIfInBounds_toArray, List.set_cons_zero, List.set_cons_succ])
    | (refine wpList_copy rfl _ _ rfl elemEs (by rfl) hbd (by rfl) (q := n - i) (by simp only [Nat.min_def]; split <;> omega) hs1 hfit1 ?_)
    | (refine wpList_copy rfl _ _ rfl elemEs (by rfl) hb2 (by rfl) (q := 1) (by simp only [Nat.min_def]; split <;> omega) hs2 hfit2 ?_))
  go_ret
  have hsp : off + (i + 1) * 2 = off + (i + 1) * 2 := by omega
  have hsp2 : off + i * 2 = off + i * 2 := by omega
  have hfin := HIN.out
  have hsp3 : i * 2 = i * 2 := by omega
  rw [hsp, hsp2, hsp3] at hfin
  exact ⟨rfl, hfin, (((Only.refl (fun k => k = g) w).drew.setRow (fun _ => rfl) _).setRow (fun _ => rfl) _)⟩

set_option maxRecDepth 100000 in
set_option maxHeartbeats 4000000 in
theorem insert_grow_Es (w : World) (g off cap n i : Nat) (cs news : List Value) (xb : Nat) (h : Own w 94 2 (.slice (some ⟨g, off, none⟩) n cap) n cs) (hx : Blk w xb 94 news) (hnl : news.length = 2) (hno : Ones news) (hi : i < n) (hroom : cap < n + 1) (hn : n ≤ 1000000000) :
    Calls Try.prog 71 #[.slice (some ⟨g, off, none⟩) n cap, .int .i64 (i : Int), .slice (some ⟨xb, 0, none⟩) 1 1] w fun e w' => ∃ c, e = .returned (.slice (some ⟨w.heap.size, 0, none⟩) (n + 1) c) ∧
      Own w' 94 2 (.slice (some ⟨w.heap.size, 0, none⟩) (n + 1) c) (n + 1) (cs.take (i * 2) ++ (news ++ cs.drop (i * 2))) ∧ Below w.heap.size w w' := by
  have hcl : cs.length = n * 2 := h.1
  have hco : Ones cs := h.2.1
  have hlt : g < w.heap.size := h.lt g rfl
  have hnc : n ≤ cap := by
    rcases h.2.2 with ⟨h0, _⟩ | ⟨g', off', cap', cur, hv, _, h1, _⟩
    · cases h0
    · cases hv; exact h1
  obtain ⟨c, zs, hr, hic, hcm, hzl, hzo⟩ := run_app_zeros (P := Try.prog) (w := w) elemEs (tn := 3) (by kernel_rfl) h (i := i) (k := n + 1 - i) (by omega) (by omega) (by omega) (by omega) (by unfold maxLen; omega) (by omega)
  have hkk : ((n + 1 - i : Nat) : Int) = (n : Int) + 1 - (i : Int) := by omega
  have hik : i + (n + 1 - i) = n + 1 := by omega
  have hii : i * 2 = i * 2 := by omega
  rw [hik] at hr hic
  rw [hkk, hii] at hr
  have hc1 : (cs.take (i * 2)).length = i * 2 := by rw [List.length_take]; omega
  have hdl : (cs.drop (i * 2)).length = (n - i) * 2 := by rw [List.length_drop, hcl]; omega
  have hB1 := Blk.new w.drew 94 (cs.take (i * 2) ++ zs)
  have hbel : Below w.heap.size w (w.drew.alloc (.cells (cs.take (i * 2) ++ zs).toArray 94)) := ((Below.refl _ _).drew).alloc (Nat.le_refl _) _
  have hrl : (cs.take (i * 2) ++ zs).length = i * 2 + (c - i) * 2 := by rw [List.length_append, hc1, hzl]
  have hle1 : 1 * 2 ≤ (c - i) * 2 := Nat.mul_le_mul_right _ (by omega)
  have hle2 : (n + 1 - i) * 2 ≤ (c - i) * 2 := Nat.mul_le_mul_right _ (by omega)
  have hfin := fun (w' : World) hb => Own.insertedNew (e := 94) (w' := w') (g := w.heap.size) (c := c) (n := n) (i := i) (m := 1) (vs := news) (zs := zs) hcl hco (by rw [hnl]) hno (Nat.le_of_lt hi) hzl hic hcm hb
  have hi2 : i * 2 + 1 * 2 = (i + 1) * 2 := by omega
  rw [hi2, hii] at hfin
  generalize hrow : cs.take (i * 2) ++ zs = row at *
  obtain ⟨W1, hW1⟩ : ∃ W1, W1 = w.drew.alloc (.cells row.toArray 94) := ⟨_, rfl⟩
  rw [← hW1] at hr hB1 hbel
  clear hW1
  have hb1 : Blk W1 w.heap.size 94 row := hB1
  have hx1 := hx.below hbel
  have hs1 : Sl W1 (fun _ => True) 2 (.slice (some ⟨xb, 0, none⟩) 1 1) 1 news :=
    ⟨by rw [hnl], hno, .inr ⟨xb, 0, 1, rfl, Nat.le_refl _, by simp [maxLen], trivial, hx1.lt, fun j hj => by rw [Nat.zero_add]; exact hx1.cell j⟩⟩
  have hov1 : (over row news (i * 2)).length = row.length := over_length (by omega)
  have hb2 : Blk (W1.setRow w.heap.size (over row news (i * 2)).toArray).drew w.heap.size 94 (over row news (i * 2)) := (hb1.setRow _).drew
  have hg2 : Below w.heap.size w (W1.setRow w.heap.size (over row news (i * 2)).toArray).drew := (below_setRow hbel (Nat.le_refl _) _).drew
  have hs2 : Sl (W1.setRow w.heap.size (over row news (i * 2)).toArray).drew (fun _ => True) 2 (.slice (some ⟨g, off + i * 2, none⟩) (n - i) (cap - i)) (n - i) (cs.drop (i * 2)) := by
    have e : off + i * 2 = off + i * 2 := by omega
    have h1 := (Sl.from (h.sl (B := fun _ => True) (fun _ _ => trivial)) (Nat.le_of_lt hi)).below hg2
    rw [e, hii] at h1
    exact h1
  have hfit1 : i * 2 + 1 * 2 ≤ row.length := by omega
  have hfit2 : (i + 1) * 2 + (n - i) * 2 ≤ (over row news (i * 2)).length := by rw [hov1]; omega
  have HFIN := Lib.hid hfin
  have HBEL := Lib.hid hbel
  have hci : ¬ (c = i) := by omega
  have hci1 : ¬ (c = i + 1) := by omega
  have hca : ¬ (cap = i) := by omega
  have hni : ¬ ((i : Int) = (n : Int)) := by omega
  have hw1 : IntKind.i64.wrap ((i : Int) + 1) = (i : Int) + 1 := by rw [IntKind.wrap_i64]; omega
  have htn : ((i : Int) + 1).toNat = i + 1 := by omega
  have hin1 : i ≤ n := by omega
  have hbb : (0 : Int) ≤ (i : Int) + 1 := by omega
  have hb3 : (i : Int) ≤ (n : Int) + 1 := by omega
  have hz3 : (cap : Int) < (n : Int) + 1 := by omega
  have hcm2 : c ≤ 9223372036854775807 := hcm
  have hcm3 : cap ≤ 9223372036854775807 := by omega
  clear hii hi2 h hx hB1 hbel hx1 hov1 hg2 hrl hzl hzo hle1 hle2 hkk hik hfin hrow hc1 hdl hcl hco hnl hno hcm
  go_enter Try.func71, Try.ntmps71
  go_wp2_with (first
    | (at_builtin; refine wpList_app_two rfl _ _ rfl (by rfl) (by rfl) (hr _) ?_)
    | (refine wpList_copy rfl _ _ rfl elemEs (by rfl) hb1 (by rfl) (q := 1) (by simp only [Nat.min_def]; split <;> omega) hs1 hfit1 ?_))
  refine wp_region_lit_plan [] [(0, 0), (1, 0), (2, 0), (3, 0), (4, 0), (5, 0), (6, 0), (7, 0), (8, 4)] (fun _ => False) (by kernel_rfl) (by kernel_rfl) (fun c a d v w h => by cases d <;> exact h) ?_
  go_wp2_with (first
    | (refine plan_pure (v := _) (by rfl) (by rfl) (by rfl) (by intro _; go_simp; with_reducible rfl) ?_; simp only [List.setIfInBounds_toArray, List.set_cons_zero, List.set_cons_succ]; try go_bits) | (refine plan_read (v := _) (by rfl) (by rfl) (by rfl) (by go_simp; with_reducible rfl) ?_; simp only [List.setIfInBounds_toArray, List.set_cons_zero, List.set_cons_succ]; try go_bits) | (refine plan_readB (v := _) (by rfl) (by rfl) (by rfl) (by intro _ hag; unfold Agree at hag; go_simp; with_reducible rfl) ?_; simp only [List.setIfInBounds_toArray, List.set_cons_zero, List.set_cons_succ]; try go_bits) | (refine plan_skip0 (by rfl) (by rfl) (by rfl) ?_; simp only [List.setIfInBounds_toArray, List.set_cons_zero, List.set_cons_succ]; try go_bits) | (refine plan_skip1 (by rfl) (by rfl) (by rfl) ?_; simp only [List.setIfInBounds_toArray, List.set_cons_zero, List.set_cons_succ]; try go_bits) | (refine plan_skip2 (by rfl) (by rfl) (by rfl) ?_; simp only [List.setIfInBounds_toArray, List.set_cons_zero, List.set_cons_succ]; try go_bits) | (refine plan_skip4 (by rfl) (by rfl) (by rfl) ?_; simp only [List.setIfInBounds_toArray, List.set_cons_zero, List.set_cons_succ]; try go_bits) | (refine plan_any (by rfl) ?_) | (refine plan_keep (by rfl) ?_) | (refine plan_nil ?_) | (with_reducible refine And.intro (by first | assumption | exact Agree.refl _ _ | exact agree_drew _ _ | exact agree_alloc _ (by intro k hk; subst hk; first | omega | (simp; omega))) ?_) | (unfold Act.put; simp only [List.setIfInBounds_toArray, List.set_cons_zero, List.set_cons_succ])
    | (refine wpList_copy rfl _ _ rfl elemEs (by rfl) hb2 (by rfl) (q := n - i) (by simp only [Nat.min_def]; split <;> omega) hs2 hfit2 ?_))
  go_ret
  have hbf := hb2.setRow (over (over row news (i * 2)) (cs.drop (i * 2)) ((i + 1) * 2))
  have hfin := HFIN.out ((W1.setRow w.heap.size (over row news (i * 2)).toArray).drew.setRow w.heap.size (over (over row news (i * 2)) (cs.drop (i * 2)) ((i + 1) * 2)).toArray)
  exact ⟨c, rfl, hfin hbf, below_setRow ((below_setRow HBEL.out (Nat.le_refl _) _).drew) (Nat.le_refl _) _⟩

theorem insert_Es (w : World) (v : Value) (n i : Nat) (cs news : List Value) (xb : Nat) (h : Own w 94 2 v n cs) (hx : Blk w xb 94 news) (hnl : news.length = 2) (hno : Ones news) (hxb : v.ownBlock ≠ some xb) (hi : i ≤ n) (hn : n ≤ 1000000000) :
    Calls Try.prog 71 #[v, .int .i64 (i : Int), .slice (some ⟨xb, 0, none⟩) 1 1] w fun e w' => ∃ v', e = .returned v' ∧ Own w' 94 2 v' (n + 1) (cs.take (i * 2) ++ (news ++ cs.drop (i * 2))) ∧
      Only (fun k => v.ownBlock = some k) w w' ∧ (∀ k, v'.ownBlock = some k → v.ownBlock = some k ∨ w.heap.size ≤ k) := by
  by_cases he : i = n
  · subst he
    have h1 : cs.take (i * 2) ++ (news ++ cs.drop (i * 2)) = cs ++ news := by
      have hl := h.1
      rw [List.take_of_length_le (by omega), List.drop_eq_nil_of_le (by omega), List.append_nil]
    rw [h1]
    exact insert_end_Es w v i cs news xb h hx hnl hno hn
  · obtain ⟨p, cap, rfl, hc1, hc2⟩ := own_form_Es h
    obtain ⟨g, off, hp⟩ : ∃ g off, p = some ⟨g, off, none⟩ := by
      rcases h.2.2 with ⟨h0, h1⟩ | ⟨g', off', cap', cur, hv, _⟩
      · exfalso; omega
      · cases hv; exact ⟨g', off', rfl⟩
    subst hp
    by_cases hr : n + 1 ≤ cap
    · refine (insert_room_Es w g off cap n i cs news xb h hx hnl hno (fun e => hxb (by rw [e]; rfl)) (by omega) hr hn).mono ?_
      rintro e w' ⟨h1, h2, h3⟩
      exact ⟨_, h1, h2, h3.mono (fun k _ hk => by subst hk; rfl), fun k hk => .inl hk⟩
    · refine (insert_grow_Es w g off cap n i cs news xb h hx hnl hno (by omega) (by omega) hn).mono ?_
      rintro e w' ⟨c, h1, h2, h3⟩
      refine ⟨_, h1, h2, Only.of_none h3, fun k hk => .inr ?_⟩
      have h4 : w.heap.size = k := Option.some.inj hk
      omega
end Go.Proofs.Ytfnndifckgjmjaa
/- Slices of *tree.page[string]: Clone, Delete. -/
namespace Go.Proofs.Ytfnndifckgjmjaa
open Go.RowKit Go.Afx

@[go_sem] theorem eqlNilPs (w : World) (a : Option Addr) (n c : Nat) : (binOp .eql 73 (.slice a n c) (.slice none 0 0)).run Try.prog w = .ok (.bool a.isNone) w := Lib.run_eql_slice_nil w _ _ a n c 0 0 Try.underlying73
theorem elemPs : Elem Try.prog 73 69 1 8 (.pointer none) :=
  ⟨Try.underlying73, by kernel_rfl, rfl, by omega, by intro u hu; simp [Value.cells] at hu; rcases hu with rfl | rfl <;> rfl⟩
set_option maxRecDepth 100000 in
set_option maxHeartbeats 400000 in
theorem clone_Ps (w : World) (B : Nat → Prop) (v : Value) (n : Nat) (cs : List Value) (h : Sl w B 1 v n cs) (hn : n ≤ 1000000000) :
    Calls Try.prog 54 #[v] w fun e w' => ∃ v', e = .returned v' ∧ Own w' 69 1 v' n cs ∧ Below w.heap.size w w' ∧ (∀ k, v'.ownBlock = some k → w.heap.size ≤ k) := by
  obtain ⟨p, cap, rfl, _, _⟩ := h.form
  cases p with
  | none =>
    have hn0 : n = 0 := by
      rcases h.2.2 with ⟨_, _, _, h0, _⟩ | ⟨_, _, _, h0, _⟩
      · exact h0
      · cases h0
    subst hn0
    have hc : cs = [] := List.eq_nil_of_length_eq_zero (by simpa using h.1)
    subst hc
    go_enter Try.func54, Try.ntmps54
    go_wp2
    go_ret
    exact ⟨_, rfl, Own.nil _ _ _, Below.refl _ _, by simp [Value.ownBlock]⟩
  | some a =>
    have hs := h.alloc (.cells #[] 69)
    have ho : Own (w.alloc (.cells #[] 69)) 69 1 (.slice (some ⟨w.heap.size, 0, none⟩) 0 0) 0 [] := Own.made w 69 1 [] [] 0 0 rfl Ones.nil (Nat.le_refl _) (by simp [maxLen]) (by simp)
    clear h
    go_enter Try.func54, Try.ntmps54
    go_wp2_with (at_builtin; refine wpList_app rfl _ _ rfl elemPs (by rfl) ho (by rfl) hs (by unfold maxLen; omega) (by omega) ?_; intro v' w' h1 h2 h3 _ _)
    go_ret
    have hb : Below w.heap.size w w' := (((Below.refl w.heap.size w).alloc (Nat.le_refl _) _).trans (h2.below (B := w.heap.size) (by simp) (fun i hi => by have : w.heap.size = i := (by simpa [Value.ownBlock] using hi); omega)))
    refine ⟨v', rfl, by simpa using h1, hb, fun k hk => ?_⟩
    rw [hk] at h3
    have h7 : k = w.heap.size ∨ k = w.heap.size + 1 := by simpa [Value.ownBlock] using h3
    omega

set_option maxRecDepth 100000 in
set_option maxHeartbeats 1000000 in
theorem delete_Ps (w : World) (g off cap n i : Nat) (cs : List Value) (h : Own w 69 1 (.slice (some ⟨g, off, none⟩) n cap) n cs) (hn : n ≤ 1000000000) (hi : i < n) :
    Calls Try.prog 89 #[.slice (some ⟨g, off, none⟩) n cap, .int .i64 i, .int .i64 ((i : Int) + 1)] w fun e w' =>
      e = .returned (.slice (some ⟨g, off, none⟩) (n - 1) cap) ∧ Own w' 69 1 (.slice (some ⟨g, off, none⟩) (n - 1) cap) (n - 1) (cs.take (i * 1) ++ cs.drop ((i + 1) * 1)) ∧ Only (fun k => k = g) w w' ∧ w'.heap.size = w.heap.size := by
  have hnc : n ≤ cap := by
    rcases h.2.2 with ⟨h0, _⟩ | ⟨g', off', cap', cur, hv, _, h1, _⟩
    · cases h0
    · cases hv; exact h1
  have hcm : cap ≤ maxLen := by
    rcases h.2.2 with ⟨h0, _⟩ | ⟨g', off', cap', cur, hv, _, _, h1, _⟩
    · cases h0
    · cases hv; exact h1
  unfold maxLen at hcm
  obtain ⟨j, hj⟩ : ∃ j, j = i + 1 := ⟨_, rfl⟩
  have hji : (i : Int) + 1 = (j : Int) := by omega
  have hres : n - 1 = i + (n - j) := by omega
  have hjn : j ≤ n := by omega
  have hil : i < j := by omega
  rw [hji, hres, ← hj]
  have ho := (h.take (m := i) (by omega)).drew
  have hsl := (h.sl (B := fun _ => True) (fun _ _ => trivial))
  have hij : ((i : Int) == (j : Int)) = false := by rw [beq_eq_false_iff_ne]; omega
  have hic : i ≤ cap := by omega
  have hlen := h.1
  clear hji hj hres
  by_cases hcj : cap = j
  · have hnj : n = j := by omega
    subst hcj
    subst hnj
    have hs : Sl w.drew (fun _ => True) 1 (.slice (some ⟨g, off, none⟩) 0 0) 0 (cs.drop (n * 1)) := by
      refine ⟨by rw [List.length_drop]; omega, h.2.1.drop _, .inr ?_⟩
      obtain ⟨g', off', cap', hv, h1, h2, h3, h4, h5⟩ := hsl.place (by omega)
      cases hv
      exact ⟨g, off, 0, rfl, by omega, by omega, trivial, h4, fun q hq => by rw [List.length_drop] at hq; omega⟩
    have HL := Lib.hid hlen
    clear h hsl hlen
    go_enter Try.func89, Try.ntmps89
    go_wp2
    refine wp_region_lit_plan [] [(0, 0), (1, 0), (2, 0), (3, 0), (4, 0), (5, 0), (6, 4), (7, 0)] (fun _ => False) (by kernel_rfl) (by kernel_rfl) (fun c a d v w h => by cases d <;> exact h) ?_
    go_wp2_with (first
      | (refine plan_pure (v := _) (by rfl) (by rfl) (by rfl) (by intro _; go_simp; with_reducible rfl) ?_; simp only [List.setIfInBounds_toArray, List.set_cons_zero, List.set_cons_succ]; try go_bits) | (refine plan_read (v := _) (by rfl) (by rfl) (by rfl) (by go_simp; with_reducible rfl) ?_; simp only [List.setIfInBounds_toArray, List.set_cons_zero, List.set_cons_succ]; try go_bits) | (refine plan_readB (v := _) (by rfl) (by rfl) (by rfl) (by intro _ hag; unfold Agree at hag; go_simp; with_reducible rfl) ?_; simp only [List.setIfInBounds_toArray, List.set_cons_zero, List.set_cons_succ]; try go_bits) | (refine plan_skip0 (by rfl) (by rfl) (by rfl) ?_; simp only [List.setIfInBounds_toArray, List.set_cons_zero, List.set_cons_succ]; try go_bits) | (refine plan_skip1 (by rfl) (by rfl) (by rfl) ?_; simp only [List.setIfInBounds_toArray, List.set_cons_zero, List.set_cons_succ]; try go_bits) | (refine plan_skip2 (by rfl) (by rfl) (by rfl) ?_; simp only [List.setIfInBounds_toArray, List.set_cons_zero, List.set_cons_succ]; try go_bits) | (refine plan_skip4 (by rfl) (by rfl) (by rfl) ?_; simp only [List.setIfInBounds_toArray, List.set_cons_zero, List.set_cons_succ]; try go_bits) | (refine plan_any (by rfl) ?_) | (refine plan_keep (by rfl) ?_) | (refine plan_nil ?_) | (with_reducible refine And.intro (by first | assumption | exact Agree.refl _ _ | exact agree_drew _ _ | exact agree_alloc _ (by intro k hk; subst hk; first | omega | (simp; omega))) ?_) | (unfold Act.put; simp only [List.setIfInBounds_toArray, List.set_cons_zero, List.set_cons_succ])
      | (at_builtin; refine wpList_app_room rfl _ _ rfl elemPs (by rfl) ho (by rfl) hs (by omega) ?_; intro w1 h1 h2 h3)
      | (refine wpList_clear_spare rfl _ rfl elemPs h1 (by rfl) (by omega) (by omega) ?_; intro w2 h4 h5 h6))
    go_ret
    refine ⟨by simp, by rw [Nat.sub_self]; exact h4, ?_, by rw [h6, h3]; rfl⟩
    exact ((Only.refl (fun k => k = g) w).drew.trans h2 (fun _ _ h => h)).trans h5 (fun _ _ h => h)
  · have hs : Sl w.drew (fun _ => True) 1 (.slice (some ⟨g, off + j, none⟩) (n - j) (cap - j)) (n - j) (cs.drop (j * 1)) := by
      have e : off + j * 1 = off + j := by omega
      have h1 := (Sl.from hsl hjn).drew
      rw [e] at h1
      exact h1
    have HL := Lib.hid hlen
    clear h hsl hlen
    go_enter Try.func89, Try.ntmps89
    go_wp2
    refine wp_region_lit_plan [] [(0, 0), (1, 0), (2, 0), (3, 0), (4, 0), (5, 0), (6, 4), (7, 0)] (fun _ => False) (by kernel_rfl) (by kernel_rfl) (fun c a d v w h => by cases d <;> exact h) ?_
    go_wp2_with (first
      | (refine plan_pure (v := _) (by rfl) (by rfl) (by rfl) (by intro _; go_simp; with_reducible rfl) ?_; simp only [List.setIfInBounds_toArray, List.set_cons_zero, List.set_cons_succ]; try go_bits) | (refine plan_read (v := _) (by rfl) (by rfl) (by rfl) (by go_simp; with_reducible rfl) ?_; simp only [List.setIfInBounds_toArray, List.set_cons_zero, List.set_cons_succ]; try go_bits) | (refine plan_readB (v := _) (by rfl) (by rfl) (by rfl) (by intro _ hag; unfold Agree at hag; go_simp; with_reducible rfl) ?_; simp only [List.setIfInBounds_toArray, List.set_cons_zero, List.set_cons_succ]; try go_bits) | (refine plan_skip0 (by rfl) (by rfl) (by rfl) ?_; simp only [List.setIfInBounds_toArray, List.set_cons_zero, List.set_cons_succ]; try go_bits) | (refine plan_skip1 (by rfl) (by rfl) (by rfl) ?_; simp only [List.setIfInBounds_toArray, List.set_cons_zero, List.set_cons_succ]; try go_bits) | (refine plan_skip2 (by rfl) (by rfl) (by rfl) ?_; simp only [List.setIfInBounds_toArray, List.set_cons_zero, List.set_cons_succ]; try go_bits) | (refine plan_skip4 (by rfl) (by rfl) (by rfl) ?_; simp only [List.setIfInBounds_toArray, List.set_cons_zero, List.set_cons_succ]; try go_bits) | (refine plan_any (by rfl) ?_) | (refine plan_keep (by rfl) ?_) | (refine plan_nil ?_) | (with_reducible refine And.intro (by first | assumption | exact Agree.refl _ _ | exact agree_drew _ _ | exact agree_alloc _ (by intro k hk; subst hk; first | omega | (simp; omega))) ?_) | (unfold Act.put; simp only [List.setIfInBounds_toArray, List.set_cons_zero, List.set_cons_succ])
      | (at_builtin; refine wpList_app_room rfl _ _ rfl elemPs (by rfl) ho (by rfl) hs (by omega) ?_; intro w1 h1 h2 h3)
      | (refine wpList_clear_spare rfl _ rfl elemPs h1 (by rfl) (by omega) (by omega) ?_; intro w2 h4 h5 h6))
    go_ret
    refine ⟨rfl, h4, ?_, by rw [h6, h3]; rfl⟩
    exact ((Only.refl (fun k => k = g) w).drew.trans h2 (fun _ _ h => h)).trans h5 (fun _ _ h => h)
end Go.Proofs.Ytfnndifckgjmjaa
/- Slices of *tree.page[string]: Insert of one element. -/
namespace Go.Proofs.Ytfnndifckgjmjaa
open Go.RowKit Go.Afx

theorem own_form_Ps {w : World} {e : TypeId} {sz : Nat} {v : Value} {n : Nat} {cs : List Value} (h : Own w e sz v n cs) : ∃ p cap, v = .slice p n cap ∧ n ≤ cap ∧ cap ≤ 9223372036854775807 :=
  (h.sl (B := fun _ => True) (fun _ _ => trivial)).form
set_option maxRecDepth 100000 in
set_option maxHeartbeats 2000000 in
theorem insert_end_Ps (w : World) (v : Value) (n : Nat) (cs news : List Value) (xb : Nat) (h : Own w 69 1 v n cs) (hx : Blk w xb 69 news) (hnl : news.length = 1) (hno : Ones news) (hn : n ≤ 1000000000) :
    Calls Try.prog 55 #[v, .int .i64 (n : Int), .slice (some ⟨xb, 0, none⟩) 1 1] w fun e w' => ∃ v', e = .returned v' ∧ Own w' 69 1 v' (n + 1) (cs ++ news) ∧
      Only (fun k => v.ownBlock = some k) w w' ∧ (∀ k, v'.ownBlock = some k → v.ownBlock = some k ∨ w.heap.size ≤ k) := by
  have hs : Sl w (fun _ => True) 1 (.slice (some ⟨xb, 0, none⟩) 1 1) 1 news :=
    ⟨by rw [hnl], hno, .inr ⟨xb, 0, 1, rfl, Nat.le_refl _, by simp [maxLen], trivial, hx.lt, fun j hj => by rw [Nat.zero_add]; exact hx.cell j⟩⟩
  obtain ⟨p, cap, rfl, hc1, hc2⟩ := own_form_Ps h
  cases p
  all_goals
    go_enter Try.func55, Try.ntmps55
    go_wp2_with (at_builtin; refine wpList_app rfl _ _ rfl elemPs (by rfl) h (by rfl) hs (by unfold maxLen; omega) (by omega) ?_; intro v' w' h1 h2 h3 h4 h5)
    all_goals
      go_ret
      refine ⟨v', rfl, h1, h2, fun k hk => ?_⟩
      rcases h3 with h3 | h3
      · exact .inl (h3.symm.trans hk)
      · have := Option.some.inj (h3.symm.trans hk)
        exact .inr (by omega)

set_option maxRecDepth 100000 in
set_option maxHeartbeats 4000000 in
theorem insert_room_Ps (w : World) (g off cap n i : Nat) (cs news : List Value) (xb : Nat) (h : Own w 69 1 (.slice (some ⟨g, off, none⟩) n cap) n cs) (hx : Blk w xb 69 news) (hnl : news.length = 1) (hno : Ones news) (hxb : g ≠ xb) (hi : i < n) (hroom : n + 1 ≤ cap) (hn : n ≤ 1000000000) :
    Calls Try.prog 55 #[.slice (some ⟨g, off, none⟩) n cap, .int .i64 (i : Int), .slice (some ⟨xb, 0, none⟩) 1 1] w fun e w' => e = .returned (.slice (some ⟨g, off, none⟩) (n + 1) cap) ∧
      Own w' 69 1 (.slice (some ⟨g, off, none⟩) (n + 1) cap) (n + 1) (cs.take (i) ++ (news ++ cs.drop (i))) ∧ Only (fun k => k = g) w w' := by
  have hown := h
  rcases h.2.2 with ⟨h0, _⟩ | ⟨g', off', cap', cur, hv, hb, hnc, hcm, hcl, htk⟩
  · cases h0
  cases hv
  have hcur : cur ≠ [] := fun e => by rw [e] at hcl; simp at hcl; omega
  have hov : ∀ lb cb, (callFunc 72 #[.slice (some ⟨xb, 0, none⟩) 1 1, .slice (some ⟨g, off + (i + 1), none⟩) lb cb]).run Try.prog w = .ok (.value (.bool false)) w := fun lb cb => by
    rw [run_callFunc_extern Try.func72 (by kernel_rfl) (by kernel_rfl) (by kernel_rfl) (e := Extern.SlicesOverlaps.overlaps #[73, 73] #[4]) (by kernel_rfl),
      run_overlaps_no elemPs hx hb (fun e => hxb e.symm) hcur]
    rfl
  have hin := Own.inserted hown hb hcl htk (Nat.le_of_lt hi) (m := 1) (vs := news) (by rw [hnl]) hno hroom hcm
  have hsl := (hown.sl (B := fun _ => True) (fun _ _ => trivial))
  have hs1 : Sl w.drew (fun _ => True) 1 (.slice (some ⟨g, off + i, none⟩) (n - i) (cap - i)) (n - i) (cs.drop (i)) := by
    have e : off + i * 1 = off + i := by omega
    have e2 : i * 1 = i := by omega
    have h1 := (Sl.from hsl (Nat.le_of_lt hi)).drew
    rw [e, e2] at h1
    exact h1
  have hdl : (cs.drop (i)).length = (n - i) * 1 := hs1.1
  have hbd : Blk w.drew g 69 cur := hb.drew
  have hov2 : (over cur (cs.drop (i)) (off + (i + 1))).length = cur.length := over_length (by rw [hdl]; unfold maxLen at hcm; omega)
  have hb2 : Blk (w.drew.setRow g (over cur (cs.drop (i)) (off + (i + 1))).toArray) g 69 (over cur (cs.drop (i)) (off + (i + 1))) := hbd.setRow _
  have hs2 : Sl (w.drew.setRow g (over cur (cs.drop (i)) (off + (i + 1))).toArray) (fun _ => True) 1 (.slice (some ⟨xb, 0, none⟩) 1 1) 1 news :=
    ⟨by rw [hnl], hno, .inr ⟨xb, 0, 1, rfl, Nat.le_refl _, by simp [maxLen], trivial, (hx.drew.setRowOther (fun e => hxb e.symm) _).lt, fun j hj => by rw [Nat.zero_add]; exact (hx.drew.setRowOther (fun e => hxb e.symm) _).cell j⟩⟩
  have hci : ¬ (cap = i) := by omega
  have hci1 : ¬ (cap = i + 1) := by omega
  have HIN := Lib.hid hin
  have HCL := Lib.hid hcl
  have hni : ¬ ((i : Int) = (n : Int)) := by omega
  have hw1 : IntKind.i64.wrap ((i : Int) + 1) = (i : Int) + 1 := by rw [IntKind.wrap_i64]; omega
  have htn : ((i : Int) + 1).toNat = i + 1 := by omega
  have hin1 : i ≤ n := by omega
  have hb1 : (0 : Int) ≤ (i : Int) + 1 := by omega
  have hb3 : (i : Int) ≤ (n : Int) + 1 := by omega
  have hfit1 : off + (i + 1) + (n - i) * 1 ≤ cur.length := by unfold maxLen at hcm; omega
  have hfit2 : off + i + 1 * 1 ≤ (over cur (cs.drop (i)) (off + (i + 1))).length := by rw [hov2]; omega
  clear h hin hown htk hsl hdl hov2 hcl hcur
  unfold maxLen at hcm
  go_enter Try.func55, Try.ntmps55
  go_wp2_with (simp only [hov])
  refine wp_region_lit_plan [] [(0, 0), (1, 0), (2, 0), (3, 0), (4, 0), (5, 0), (6, 0), (7, 0), (8, 4)] (fun _ => False) (by kernel_rfl) (by kernel_rfl) (fun c a d v w h => by cases d <;> exact h) ?_
  go_wp2_with (first
    | (refine plan_pure (v := _) (by rfl) (by rfl) (by rfl) (by intro _; go_simp; with_reducible rfl) ?_; simp only [List.setIfInBounds_toArray, List.set_cons_zero, List.set_cons_succ]; try go_bits) | (refine plan_read (v := _) (by rfl) (by rfl) (by rfl) (by go_simp; with_reducible rfl) ?_; simp only [List.setIfInBounds_toArray, List.set_cons_zero, List.set_cons_succ]; try go_bits) | (refine plan_readB (v := _) (by rfl) (by rfl) (by rfl) (by intro _ hag; unfold Agree at hag; go_simp; with_reducible rfl) ?_; simp only [List.setIfInBounds_toArray, List.set_cons_zero, List.set_cons_succ]; try go_bits) | (refine plan_skip0 (by rfl) (by rfl) (by rfl) ?_; simp only [List.setIfInBounds_toArray, List.set_cons_zero, List.set_cons_succ]; try go_bits) | (refine plan_skip1 (by rfl) (by rfl) (by rfl) ?_; simp only [List.setIfInBounds_toArray, List.set_cons_zero, List.set_cons_succ]; try go_bits) | (refine plan_skip2 (by rfl) (by rfl) (by rfl) ?_; simp only [List.setIfInBounds_toArray, List.set_cons_zero, List.set_cons_succ]; try go_bits) | (refine plan_skip4 (by rfl) (by rfl) (by rfl) ?_; simp only [List.setIfInBounds_toArray, List.set_cons_zero, List.set_cons_succ]; try go_bits) | (refine plan_any (by rfl) ?_) | (refine plan_keep (by rfl) ?_) | (refine plan_nil ?_) | (with_reducible refine And.intro (by first | assumption | exact Agree.refl _ _ | exact agree_drew _ _ | exact agree_alloc _ (by intro k hk; subst hk; first | omega | (simp; omega))) ?_) | (unfold Act.put; simp only [List.setIfInBounds_toArray, List.set_cons_zero, List.set_cons_succ])
    | (refine wpList_copy rfl _ _ rfl elemPs (by rfl) hbd (by rfl) (q := n - i) (by simp only [Nat.min_def]; split <;> omega) hs1 hfit1 ?_)
    | (refine wpList_copy rfl _ _ rfl elemPs (by rfl) hb2 (by rfl) (q := 1) (by simp only [Nat.min_def]; split <;> omega) hs2 hfit2 ?_))
  go_ret
  have hsp : off + (i + 1) * 1 = off + (i + 1) := by omega
  have hsp2 : off + i * 1 = off + i := by omega
  have hfin := HIN.out
  have hsp3 : i * 1 = i := by omega
  rw [hsp, hsp2, hsp3] at hfin
  exact ⟨rfl, hfin, (((Only.refl (fun k => k = g) w).drew.setRow (fun _ => rfl) _).setRow (fun _ => rfl) _)⟩

set_option maxRecDepth 100000 in
set_option maxHeartbeats 4000000 in
theorem insert_grow_Ps (w : World) (g off cap n i : Nat) (cs news : List Value) (xb : Nat) (h : Own w 69 1 (.slice (some ⟨g, off, none⟩) n cap) n cs) (hx : Blk w xb 69 news) (hnl : news.length = 1) (hno : Ones news) (hi : i < n) (hroom : cap < n + 1) (hn : n ≤ 1000000000) :
    Calls Try.prog 55 #[.slice (some ⟨g, off, none⟩) n cap, .int .i64 (i : Int), .slice (some ⟨xb, 0, none⟩) 1 1] w fun e w' => ∃ c, e = .returned (.slice (some ⟨w.heap.size, 0, none⟩) (n + 1) c) ∧
      Own w' 69 1 (.slice (some ⟨w.heap.size, 0, none⟩) (n + 1) c) (n + 1) (cs.take (i) ++ (news ++ cs.drop (i))) ∧ Below w.heap.size w w' := by
  have hcl : cs.length = n * 1 := h.1
  have hco : Ones cs := h.2.1
  have hlt : g < w.heap.size := h.lt g rfl
  have hnc : n ≤ cap := by
    rcases h.2.2 with ⟨h0, _⟩ | ⟨g', off', cap', cur, hv, _, h1, _⟩
    · cases h0
    · cases hv; exact h1
  obtain ⟨c, zs, hr, hic, hcm, hzl, hzo⟩ := run_app_zeros (P := Try.prog) (w := w) elemPs (tn := 3) (by kernel_rfl) h (i := i) (k := n + 1 - i) (by omega) (by omega) (by omega) (by omega) (by unfold maxLen; omega) (by omega)
  have hkk : ((n + 1 - i : Nat) : Int) = (n : Int) + 1 - (i : Int) := by omega
  have hik : i + (n + 1 - i) = n + 1 := by omega
  have hii : i * 1 = i := by omega
  rw [hik] at hr hic
  rw [hkk, hii] at hr
  have hc1 : (cs.take (i)).length = i := by rw [List.length_take]; omega
  have hdl : (cs.drop (i)).length = (n - i) * 1 := by rw [List.length_drop, hcl]; omega
  have hB1 := Blk.new w.drew 69 (cs.take (i) ++ zs)
  have hbel : Below w.heap.size w (w.drew.alloc (.cells (cs.take (i) ++ zs).toArray 69)) := ((Below.refl _ _).drew).alloc (Nat.le_refl _) _
  have hrl : (cs.take (i) ++ zs).length = i + (c - i) * 1 := by rw [List.length_append, hc1, hzl]
  have hle1 : 1 * 1 ≤ (c - i) * 1 := Nat.mul_le_mul_right _ (by omega)
  have hle2 : (n + 1 - i) * 1 ≤ (c - i) * 1 := Nat.mul_le_mul_right _ (by omega)
  have hfin := fun (w' : World) hb => Own.insertedNew (e := 69) (w' := w') (g := w.heap.size) (c := c) (n := n) (i := i) (m := 1) (vs := news) (zs := zs) hcl hco (by rw [hnl]) hno (Nat.le_of_lt hi) hzl hic hcm hb
  have hi2 : i * 1 + 1 * 1 = i + 1 := by omega
  rw [hi2, hii] at hfin
  generalize hrow : cs.take (i) ++ zs = row at *
  obtain ⟨W1, hW1⟩ : ∃ W1, W1 = w.drew.alloc (.cells row.toArray 69) := ⟨_, rfl⟩
  rw [← hW1] at hr hB1 hbel
  clear hW1
  have hb1 : Blk W1 w.heap.size 69 row := hB1
  have hx1 := hx.below hbel
  have hs1 : Sl W1 (fun _ => True) 1 (.slice (some ⟨xb, 0, none⟩) 1 1) 1 news :=
    ⟨by rw [hnl], hno, .inr ⟨xb, 0, 1, rfl, Nat.le_refl _, by simp [maxLen], trivial, hx1.lt, fun j hj => by rw [Nat.zero_add]; exact hx1.cell j⟩⟩
  have hov1 : (over row news (i)).length = row.length := over_length (by omega)
  have hb2 : Blk (W1.setRow w.heap.size (over row news (i)).toArray).drew w.heap.size 69 (over row news (i)) := (hb1.setRow _).drew
  have hg2 : Below w.heap.size w (W1.setRow w.heap.size (over row news (i)).toArray).drew := (below_setRow hbel (Nat.le_refl _) _).drew
  have hs2 : Sl (W1.setRow w.heap.size (over row news (i)).toArray).drew (fun _ => True) 1 (.slice (some ⟨g, off + i, none⟩) (n - i) (cap - i)) (n - i) (cs.drop (i)) := by
    have e : off + i * 1 = off + i := by omega
    have h1 := (Sl.from (h.sl (B := fun _ => True) (fun _ _ => trivial)) (Nat.le_of_lt hi)).below hg2
    rw [e, hii] at h1
    exact h1
  have hfit1 : i + 1 * 1 ≤ row.length := by omega
  have hfit2 : i + 1 + (n - i) * 1 ≤ (over row news (i)).length := by rw [hov1]; omega
  have HFIN := Lib.hid hfin
  have HBEL := Lib.hid hbel
  have hci : ¬ (c = i) := by omega
  have hci1 : ¬ (c = i + 1) := by omega
  have hca : ¬ (cap = i) := by omega
  have hni : ¬ ((i : Int) = (n : Int)) := by omega
  have hw1 : IntKind.i64.wrap ((i : Int) + 1) = (i : Int) + 1 := by rw [IntKind.wrap_i64]; omega
  have htn : ((i : Int) + 1).toNat = i + 1 := by omega
  have hin1 : i ≤ n := by omega
  have hbb : (0 : Int) ≤ (i : Int) + 1 := by omega
  have hb3 : (i : Int) ≤ (n : Int) + 1 := by omega
  have hz3 : (cap : Int) < (n : Int) + 1 := by omega
  have hcm2 : c ≤ 9223372036854775807 := hcm
  have hcm3 : cap ≤ 9223372036854775807 := by omega
  clear hii hi2 h hx hB1 hbel hx1 hov1 hg2 hrl hzl hzo hle1 hle2 hkk hik hfin hrow hc1 hdl hcl hco hnl hno hcm
  go_enter Try.func55, Try.ntmps55
  go_wp2_with (first
    | (at_builtin; refine wpList_app_two rfl _ _ rfl (by rfl) (by rfl) (hr _) ?_)
    | (refine wpList_copy rfl _ _ rfl elemPs (by rfl) hb1 (by rfl) (q := 1) (by simp only [Nat.min_def]; split <;> omega) hs1 hfit1 ?_))
  refine wp_region_lit_plan [] [(0, 0), (1, 0), (2, 0), (3, 0), (4, 0), (5, 0), (6, 0), (7, 0), (8, 4)] (fun _ => False) (by kernel_rfl) (by kernel_rfl) (fun c a d v w h => by cases d <;> exact h) ?_
  go_wp2_with (first
    | (refine plan_pure (v := _) (by rfl) (by rfl) (by rfl) (by intro _; go_simp; with_reducible rfl) ?_; simp only [List.setIfInBounds_toArray, List.set_cons_zero, List.set_cons_succ]; try go_bits) | (refine plan_read (v := _) (by rfl) (by rfl) (by rfl) (by go_simp; with_reducible rfl) ?_; simp only [List.setIfInBounds_toArray, List.set_cons_zero, List.set_cons_succ]; try go_bits) | (refine plan_readB (v := _) (by rfl) (by rfl) (by rfl) (by intro _ hag; unfold Agree at hag; go_simp; with_reducible rfl) ?_; simp only [List.setIfInBounds_toArray, List.set_cons_zero, List.set_cons_succ]; try go_bits) | (refine plan_skip0 (by rfl) (by rfl) (by rfl) ?_; simp only [List.setIfInBounds_toArray, List.set_cons_zero, List.set_cons_succ]; try go_bits) | (refine plan_skip1 (by rfl) (by rfl) (by rfl) ?_; simp only [List.setIfInBounds_toArray, List.set_cons_zero, List.set_cons_succ]; try go_bits) | (refine plan_skip2 (by rfl) (by rfl) (by rfl) ?_; simp only [List.setIfInBounds_toArray, List.set_cons_zero, List.set_cons_succ]; try go_bits) | (refine plan_skip4 (by rfl) (by rfl) (by rfl) ?_; simp only [List.setIfInBounds_toArray, List.set_cons_zero, List.set_cons_succ]; try go_bits) | (refine plan_any (by rfl) ?_) | (refine plan_keep (by rfl) ?_) | (refine plan_nil ?_) | (with_reducible refine And.intro (by first | assumption | exact Agree.refl _ _ | exact agree_drew _ _ | exact agree_alloc _ (by intro k hk; subst hk; first | omega | (simp; omega))) ?_) | (unfold Act.put; simp only [List.setIfInBounds_toArray, List.set_cons_zero, List.set_cons_succ])
    | (refine wpList_copy rfl _ _ rfl elemPs (by rfl) hb2 (by rfl) (q := n - i) (by simp only [Nat.min_def]; split <;> omega) hs2 hfit2 ?_))
  go_ret
  have hbf := hb2.setRow (over (over row news (i)) (cs.drop (i)) (i + 1))
  have hfin := HFIN.out ((W1.setRow w.heap.size (over row news (i)).toArray).drew.setRow w.heap.size (over (over row news (i)) (cs.drop (i)) (i + 1)).toArray)
  exact ⟨c, rfl, hfin hbf, below_setRow ((below_setRow HBEL.out (Nat.le_refl _) _).drew) (Nat.le_refl _) _⟩

theorem insert_Ps (w : World) (v : Value) (n i : Nat) (cs news : List Value) (xb : Nat) (h : Own w 69 1 v n cs) (hx : Blk w xb 69 news) (hnl : news.length = 1) (hno : Ones news) (hxb : v.ownBlock ≠ some xb) (hi : i ≤ n) (hn : n ≤ 1000000000) :
    Calls Try.prog 55 #[v, .int .i64 (i : Int), .slice (some ⟨xb, 0, none⟩) 1 1] w fun e w' => ∃ v', e = .returned v' ∧ Own w' 69 1 v' (n + 1) (cs.take (i) ++ (news ++ cs.drop (i))) ∧
      Only (fun k => v.ownBlock = some k) w w' ∧ (∀ k, v'.ownBlock = some k → v.ownBlock = some k ∨ w.heap.size ≤ k) := by
  by_cases he : i = n
  · subst he
    have h1 : cs.take (i) ++ (news ++ cs.drop (i)) = cs ++ news := by
      have hl := h.1
      rw [List.take_of_length_le (by omega), List.drop_eq_nil_of_le (by omega), List.append_nil]
    rw [h1]
    exact insert_end_Ps w v i cs news xb h hx hnl hno hn
  · obtain ⟨p, cap, rfl, hc1, hc2⟩ := own_form_Ps h
    obtain ⟨g, off, hp⟩ : ∃ g off, p = some ⟨g, off, none⟩ := by
      rcases h.2.2 with ⟨h0, h1⟩ | ⟨g', off', cap', cur, hv, _⟩
      · exfalso; omega
      · cases hv; exact ⟨g', off', rfl⟩
    subst hp
    by_cases hr : n + 1 ≤ cap
    · refine (insert_room_Ps w g off cap n i cs news xb h hx hnl hno (fun e => hxb (by rw [e]; rfl)) (by omega) hr hn).mono ?_
      rintro e w' ⟨h1, h2, h3⟩
      exact ⟨_, h1, h2, h3.mono (fun k _ hk => by subst hk; rfl), fun k hk => .inl hk⟩
    · refine (insert_grow_Ps w g off cap n i cs news xb h hx hnl hno (by omega) (by omega) hn).mono ?_
      rintro e w' ⟨c, h1, h2, h3⟩
      refine ⟨_, h1, h2, Only.of_none h3, fun k hk => .inr ?_⟩
      have h4 : w.heap.size = k := Option.some.inj hk
      omega
end Go.Proofs.Ytfnndifckgjmjaa
/- A page's own functions: find, leaf, child, insert, remove. -/
namespace Go.Proofs.Ytfnndifckgjmjaa
open Go.RowKit Go.Afx

set_option maxRecDepth 100000 in
set_option maxHeartbeats 1000000 in
theorem find_s (w : World) (b : Nat) (t : TypeId) (av bv : Value) (l : List En) (k : Key) (B : Nat → Prop) (hb : Blk w b t [av, bv]) (h : Sl w B 2 av l.length (enC l)) (hr : Rise l) (hn : l.length ≤ 1000000000) :
    Calls Try.prog 51 #[ptrV b, .string (kb k)] w fun e w' => e = .returned (.tuple #[.int .i64 (pos k l : Nat), .bool (has k l)]) ∧ Below w.heap.size w w' := by
  have HS := Lib.hid (search_s w B av l k h hr hn)
  obtain ⟨p, cap, rfl, _, _⟩ := h.form
  obtain ⟨c0, c1⟩ := pg_cells hb
  unfold ptrV
  clear h hb
  generalize pos k l = q at *
  generalize has k l = hs at *
  go_enter Try.func51, Try.ntmps51
  go_wp2_with fail
  refine HS.out.mono ?_
  rintro e w2 ⟨rfl, hb2⟩
  go_wp2
  exact bodyPost_ret (v := .tuple #[.int .i64 (q : Nat), .bool hs]) (by simp [results, Try.results51, go_sem]) rfl ⟨rfl, hb2⟩
set_option maxRecDepth 100000 in
set_option maxHeartbeats 1000000 in
theorem leaf_s (w : World) (b : Nat) (t : TypeId) (av : Value) (p : Option Addr) (n c : Nat) (hb : Blk w b t [av, .slice p n c]) :
    Calls Try.prog 37 #[ptrV b] w fun e w' => e = .returned (.bool (decide (n = 0))) ∧ w' = w := by
  obtain ⟨c0, c1⟩ := pg_cells hb
  unfold ptrV
  clear hb
  by_cases h : n = 0
  · subst h
    go_enter Try.func37, Try.ntmps37
    go_wp2
    go_ret
    exact ⟨rfl, rfl⟩
  · rw [decide_eq_false h]
    have h2 : ((n : Int) == 0) = false := by rw [beq_eq_false_iff_ne]; omega
    have h3 : ¬ ((n : Int) = 0) := by omega
    go_enter Try.func37, Try.ntmps37
    go_wp2
    go_ret
    exact ⟨rfl, rfl⟩
set_option maxRecDepth 100000 in
set_option maxHeartbeats 1000000 in
theorem child_s (w : World) (b : Nat) (t : TypeId) (av bv : Value) (ks : List P) (i : Nat) (B : Nat → Prop) (hb : Blk w b t [av, bv]) (h : Sl w B 1 bv ks.length (ptrs ks)) (hi : ks ≠ [] → i < ks.length) :
    Calls Try.prog 57 #[ptrV b, .int .i64 (i : Int)] w fun e w' => e = .returned (match ks[i]? with | some c => ptrV c.blk | none => .pointer none) ∧ w' = w := by
  obtain ⟨p, cap, rfl, _, _⟩ := h.form
  have HL := Lib.hid (leaf_s w b t av p ks.length cap hb)
  obtain ⟨c0, c1⟩ := pg_cells hb
  unfold ptrV at *
  by_cases hk : ks.length = 0
  · obtain rfl := List.eq_nil_of_length_eq_zero hk
    clear hb h hi hk
    go_enter Try.func57, Try.ntmps57
    go_wp2_with fail
    refine HL.out.mono ?_
    rintro e w2 ⟨rfl, rfl⟩
    go_wp2
    go_ret
    exact ⟨by simp, rfl⟩
  · have hil : i < ks.length := hi (fun e => hk (by rw [e]; rfl))
    rw [decide_eq_false hk] at HL
    obtain ⟨g, off, cap', hv, hg, e0⟩ := sl_ptr h hil
    cases hv
    rw [List.getElem?_eq_getElem hil]
    unfold ptrV at e0
    simp only
    clear hb h hi hk
    generalize ks[i] = x at *
    go_enter Try.func57, Try.ntmps57
    go_wp2_with fail
    refine HL.out.mono ?_
    rintro e w2 ⟨rfl, rfl⟩
    go_wp2
    go_ret
    exact ⟨rfl, rfl⟩
set_option maxRecDepth 100000 in
set_option maxHeartbeats 2000000 in
theorem insert_s (w : World) (b i : Nat) (av bv : Value) (l : List En) (x : En) (hb : Blk w b 75 [av, bv]) (ha : Own w 94 2 av l.length (enC l)) (hab : av.ownBlock ≠ some b) (hx1 : x.val.oneCell' = true) (hi : i ≤ l.length) (hn : l.length ≤ 1000000000) :
    Calls Try.prog 52 #[ptrV b, .int .i64 (i : Int), .agg #[.string (kb x.key), x.val]] w fun e w' => e = .returned (.tuple #[]) ∧ ∃ av', Blk w' b 75 [av', bv] ∧ Own w' 94 2 av' (l.length + 1) (enC (insAt i x l)) ∧
      Only (fun k => k = b ∨ av.ownBlock = some k) w w' ∧ (∀ k, av'.ownBlock = some k → av.ownBlock = some k ∨ w.heap.size ≤ k) := by
  obtain ⟨xk, xv⟩ := x
  obtain ⟨p, cap, rfl, hc1, hc2⟩ := own_form_Es ha
  obtain ⟨w1, hw1⟩ : ∃ w1, w.alloc (.cells #[.string (kb xk), xv] 94) = w1 := ⟨_, rfl⟩
  have b1 : Below w.heap.size w w1 := hw1 ▸ (Below.refl _ _).alloc (Nat.le_refl _) _
  have s1 : w1.heap.size = w.heap.size + 1 := by rw [← hw1]; simp
  have hbx : Blk w1 w.heap.size 94 [.string (kb xk), xv] := hw1 ▸ Blk.new w _ _
  have hbl : b < w.heap.size := hb.lt
  have b2 : Below w.heap.size w (w1.alloc (.cells #[.string (kb xk), xv] 94)).drew := (b1.alloc (by rw [s1]; omega) _).drew
  have HI := Lib.hid (insert_Es (w1.alloc (.cells #[.string (kb xk), xv] 94)).drew (.slice p l.length cap) l.length i (enC l) [.string (kb xk), xv] w1.heap.size (ha.below b2) (Blk.new w1 _ _).drew rfl
    (Ones.cons rfl (Ones.cons hx1 Ones.nil)) (fun h => by have := ha.lt _ h; omega) hi hn)
  rw [enC_ins l i ⟨xk, xv⟩] at HI
  obtain ⟨c0, c1⟩ := pg_cells (hb.below b1)
  have d0 := hbx.cell 0
  have d1 := hbx.cell 1
  simp only [List.getElem?_cons_zero, List.getElem?_cons_succ] at d0 d1
  have HB := Lib.hid hb
  have HB2 := Lib.hid b2
  have HAB := Lib.hid hab
  have hag0 : Agree (fun q => q = b) w1.drew (w1.alloc (.cells #[.string (kb xk), xv] 94)).drew := agree_alloc (w := w1) _ (by intro k hk; subst hk; rw [s1]; omega)
  unfold ptrV
  simp only
  have S1 := Lib.hid s1
  clear hb ha hab hx1 hbx b1 b2 s1
  go_enter Try.func52, Try.ntmps52
  go_wp2_with fail
  refine wp_region_lit_plan [] [(0, 0), (1, 0), (2, 0), (3, 0), (5, 0), (4, 2), (6, 1), (7, 3), (8, 4), (9, 0), (10, 0), (11, 4)] (fun q => q = b) (by kernel_rfl) (by kernel_rfl) (fun c a d v w h => by cases d <;> exact h) ?_
  go_wp2_with (first | (refine plan_pure (v := _) (by rfl) (by rfl) (by rfl) (by intro _; go_simp; with_reducible rfl) ?_; simp only [List.setIfInBounds_toArray, List.set_cons_zero, List.set_cons_succ]; try go_bits) | (refine plan_read (v := _) (by rfl) (by rfl) (by rfl) (by go_simp; with_reducible rfl) ?_; simp only [List.setIfInBounds_toArray, List.set_cons_zero, List.set_cons_succ]; try go_bits) | (refine plan_readB (v := _) (by rfl) (by rfl) (by rfl) (by intro _ hag; unfold Agree at hag; go_simp; with_reducible rfl) ?_; simp only [List.setIfInBounds_toArray, List.set_cons_zero, List.set_cons_succ]; try go_bits) | (refine plan_skip0 (by rfl) (by rfl) (by rfl) ?_; simp only [List.setIfInBounds_toArray, List.set_cons_zero, List.set_cons_succ]; try go_bits) | (refine plan_skip1 (by rfl) (by rfl) (by rfl) ?_; simp only [List.setIfInBounds_toArray, List.set_cons_zero, List.set_cons_succ]; try go_bits) | (refine plan_skip2 (by rfl) (by rfl) (by rfl) ?_; simp only [List.setIfInBounds_toArray, List.set_cons_zero, List.set_cons_succ]; try go_bits) | (refine plan_skip4 (by rfl) (by rfl) (by rfl) ?_; simp only [List.setIfInBounds_toArray, List.set_cons_zero, List.set_cons_succ]; try go_bits) | (refine plan_any (by rfl) ?_) | (refine plan_keep (by rfl) ?_) | (refine plan_nil ?_) | (with_reducible refine And.intro (by first | assumption | exact Agree.refl _ _ | exact agree_drew _ _ | exact agree_alloc _ (by intro k hk; subst hk; first | omega | (simp; omega))) ?_) | (unfold Act.put; simp only [List.setIfInBounds_toArray, List.set_cons_zero, List.set_cons_succ]))
  refine HI.out.mono ?_
  rintro e w3 ⟨v', rfl, ho3, hon3, hv3⟩
  have hb3 := (HB.out.below HB2.out).only hon3 HAB.out
  have hnb : v'.ownBlock ≠ some b := fun h => by
    rcases hv3 b h with h2 | h2
    · exact HAB.out h2
    · have := HB2.out.size; omega
  obtain ⟨p3, c3, rfl, _, _⟩ := own_form_Es ho3
  have HO3 := Lib.hid ho3
  have HON3 := Lib.hid hon3
  have HV3 := Lib.hid hv3
  have HB3 := Lib.hid hb3
  have hf := hb3.frozen 0
  obtain ⟨x0, x1⟩ := pg_cells hb3
  clear ho3 hon3 hv3 hb3
  go_wp2_with (first | (refine plan_pure (v := _) (by rfl) (by rfl) (by rfl) (by intro _; go_simp; with_reducible rfl) ?_; simp only [List.setIfInBounds_toArray, List.set_cons_zero, List.set_cons_succ]; try go_bits) | (refine plan_read (v := _) (by rfl) (by rfl) (by rfl) (by go_simp; with_reducible rfl) ?_; simp only [List.setIfInBounds_toArray, List.set_cons_zero, List.set_cons_succ]; try go_bits) | (refine plan_readB (v := _) (by rfl) (by rfl) (by rfl) (by intro _ hag; unfold Agree at hag; go_simp; with_reducible rfl) ?_; simp only [List.setIfInBounds_toArray, List.set_cons_zero, List.set_cons_succ]; try go_bits) | (refine plan_skip0 (by rfl) (by rfl) (by rfl) ?_; simp only [List.setIfInBounds_toArray, List.set_cons_zero, List.set_cons_succ]; try go_bits) | (refine plan_skip1 (by rfl) (by rfl) (by rfl) ?_; simp only [List.setIfInBounds_toArray, List.set_cons_zero, List.set_cons_succ]; try go_bits) | (refine plan_skip2 (by rfl) (by rfl) (by rfl) ?_; simp only [List.setIfInBounds_toArray, List.set_cons_zero, List.set_cons_succ]; try go_bits) | (refine plan_skip4 (by rfl) (by rfl) (by rfl) ?_; simp only [List.setIfInBounds_toArray, List.set_cons_zero, List.set_cons_succ]; try go_bits) | (refine plan_any (by rfl) ?_) | (refine plan_keep (by rfl) ?_) | (refine plan_nil ?_) | (with_reducible refine And.intro (by first | assumption | exact Agree.refl _ _ | exact agree_drew _ _ | exact agree_alloc _ (by intro k hk; subst hk; first | omega | (simp; omega))) ?_) | (unfold Act.put; simp only [List.setIfInBounds_toArray, List.set_cons_zero, List.set_cons_succ]))
  have h3 : Only (fun k => k = b ∨ (Value.slice p l.length cap).ownBlock = some k) w w3 := ((Only.of_none (S := fun _ => False) HB2.out).mono (fun _ _ h => h.elim)).trans HON3.out (fun i hi hk => .inr hk)
  go_end0
  refine ⟨rfl, _, HB3.out.set 0 (.slice p3 (l.length + 1) c3), HO3.out.setOther hnb _, h3.setCell (fun _ => .inl rfl) _, fun k hk => ?_⟩
  rcases HV3.out k hk with h2 | h2
  · exact .inl h2
  · exact .inr (Nat.le_trans HB2.out.size h2)

set_option maxRecDepth 100000 in
set_option maxHeartbeats 2000000 in
theorem remove_s (w : World) (b i : Nat) (av bv : Value) (l : List En) (hb : Blk w b 75 [av, bv]) (ha : Own w 94 2 av l.length (enC l)) (hab : av.ownBlock ≠ some b) (hi : i < l.length) (hn : l.length ≤ 1000000000) :
    Calls Try.prog 61 #[ptrV b, .int .i64 (i : Int)] w fun e w' => e = .returned (.agg #[.string (kb l[i].key), l[i].val]) ∧ ∃ av', Blk w' b 75 [av', bv] ∧ Own w' 94 2 av' (l.length - 1) (enC (l.take i ++ l.drop (i + 1))) ∧
      Only (fun k => k = b ∨ av.ownBlock = some k) w w' ∧ (∀ k, av'.ownBlock = some k → av.ownBlock = some k ∨ w.heap.size ≤ k) := by
  obtain ⟨g, off, cap, rfl, _, hg, e0, e1⟩ : ∃ g off cap, av = .slice (some ⟨g, off, none⟩) l.length cap ∧ True ∧ g < w.heap.size ∧ w.cell? ⟨g, off + i * 2, none⟩ = some (.string (kb l[i].key)) ∧ w.cell? ⟨g, off + i * 2 + 1, none⟩ = some l[i].val := by
    obtain ⟨g, off, cap, h1, h2, h3, h4⟩ := sl_en (ha.sl (B := fun _ => True) (fun _ _ => trivial)) hi
    exact ⟨g, off, cap, h1, trivial, h2, h3, h4⟩
  generalize hx : l[i] = x at *
  obtain ⟨xk, xv⟩ := x
  simp only at e0 e1 ⊢
  have hal : Below w.heap.size w (w.alloc (.cells #[.string ⟨#[]⟩, (.string ⟨#[]⟩)] 94)) := (Below.refl _ _).alloc (Nat.le_refl _) _
  have hxv : xv.oneCell' = true := by
    have h1 := ha.2.1
    have h2 := (enC_at l i hi).2
    rw [hx] at h2
    exact h1 _ (List.mem_of_getElem? h2)
  obtain ⟨c0, c1⟩ := pg_cells hb
  have hbl : b < w.heap.size := hb.lt
  have hal2 : Below w.heap.size w ((w.alloc (.cells #[.string ⟨#[]⟩, (.string ⟨#[]⟩)] 94)).alloc (.cells #[.string (kb xk), xv] 94)) := hal.alloc (by simp) _
  have hgb : g ≠ b := fun e => hab (by rw [e]; rfl)
  have HD := Lib.hid (delete_Es _ g off cap l.length i (enC l) (ha.below hal2) hn hi)
  rw [enC_del] at HD
  have hkA : Blk ((w.alloc (.cells #[.string ⟨#[]⟩, (.string ⟨#[]⟩)] 94)).alloc (.cells #[.string (kb xk), xv] 94)) w.heap.size 94 [.string ⟨#[]⟩, (.string ⟨#[]⟩)] := (Blk.new w _ _).alloc _
  have hkB : Blk ((w.alloc (.cells #[.string ⟨#[]⟩, (.string ⟨#[]⟩)] 94)).alloc (.cells #[.string (kb xk), xv] 94)) (w.heap.size + 1) 94 [.string (kb xk), xv] := by
    have h1 : (w.alloc (.cells #[.string ⟨#[]⟩, (.string ⟨#[]⟩)] 94)).heap.size = w.heap.size + 1 := by simp
    exact h1 ▸ Blk.new (w.alloc (.cells #[.string ⟨#[]⟩, (.string ⟨#[]⟩)] 94)) _ _
  have HKA := Lib.hid hkA
  have HKB := Lib.hid hkB
  have HB := Lib.hid hb
  have HAL2 := Lib.hid hal2
  have hgn : ¬ (w.heap.size = g) := by omega
  have hgn1 : ¬ (w.heap.size + 1 = g) := by omega
  unfold ptrV
  clear hb ha hab hx hal hal2 hkA hkB
  go_enter Try.func61, Try.ntmps61
  go_wp2_with fail
  refine HD.out.mono ?_
  rintro e w3 ⟨rfl, ho3, hon3, hs3⟩
  have hb3 := (HB.out.below HAL2.out).only hon3 (fun e => hgb e.symm)
  have hA3 := HKA.out.only hon3 hgn
  have hB3 := HKB.out.only hon3 hgn1
  obtain ⟨x0, x1⟩ := pg_cells hb3
  have hf := hb3.frozen 0
  have y0 := hA3.cell 0
  have y1 := hA3.cell 1
  have z0 := hB3.cell 0
  have z1 := hB3.cell 1
  have f0 := hA3.frozen 0
  have f1 := hA3.frozen 1
  simp only [List.getElem?_cons_zero, List.getElem?_cons_succ] at y0 y1 z0 z1
  have HB3 := Lib.hid hb3
  have HA3 := Lib.hid hA3
  have HO3 := Lib.hid ho3
  have HON3 := Lib.hid hon3
  clear hb3 hA3 hB3 ho3 hon3 hs3 e0 e1 c0 c1 HD
  go_wp2
  have hA4 := ((HA3.out.setOther (p := ⟨b, 0, none⟩) (by show ¬ w.heap.size = b; omega) (.slice (some ⟨g, off, none⟩) (l.length - 1) cap)).set 0 (.string (kb xk))).set 1 xv
  have hB4 := ((HB3.out.set 0 (.slice (some ⟨g, off, none⟩) (l.length - 1) cap)).setOther (p := ⟨w.heap.size, 0, none⟩) (by show ¬ b = w.heap.size; omega) (.string (kb xk))).setOther (p := ⟨w.heap.size, 1, none⟩) (by show ¬ b = w.heap.size; omega) xv
  have hO4 := ((HO3.out.setOther (p := ⟨b, 0, none⟩) (fun h => hgb (Option.some.inj h)) (.slice (some ⟨g, off, none⟩) (l.length - 1) cap)).setOther (p := ⟨w.heap.size, 0, none⟩) (fun h => hgn (Option.some.inj h).symm) (.string (kb xk))).setOther (p := ⟨w.heap.size, 1, none⟩) (fun h => hgn (Option.some.inj h).symm) xv
  have hN4 : Only (fun k => k = b ∨ (Value.slice (some ⟨g, off, none⟩) l.length cap).ownBlock = some k) w (((w3.setCell ⟨b, 0, none⟩ (.slice (some ⟨g, off, none⟩) (l.length - 1) cap)).setCell ⟨w.heap.size, 0, none⟩ (.string (kb xk))).setCell ⟨w.heap.size, 1, none⟩ xv) := by
    have h3 : Only (fun k => k = b ∨ (Value.slice (some ⟨g, off, none⟩) l.length cap).ownBlock = some k) w w3 := ((Only.of_none (S := fun _ => False) HAL2.out).mono (fun _ _ h => h.elim)).trans HON3.out (fun i hi hk => .inr (by rw [hk]; rfl))
    exact ((h3.setCell (fun _ => .inl rfl) _).setCell (fun h => absurd h (by simp)) _).setCell (fun h => absurd h (by simp)) _
  have m0 := hA4.cell 0
  have m1 := hA4.cell 1
  simp only [List.getElem?_cons_zero, List.getElem?_cons_succ, List.set_cons_zero, List.set_cons_succ] at m0 m1
  exact bodyPost_ret (v := .agg #[.string (kb xk), xv]) (by simp [results, Try.results61, go_sem, m0, m1]) rfl ⟨rfl, _, hB4, hO4, hN4, fun k hk => .inl hk⟩
end Go.Proofs.Ytfnndifckgjmjaa
/- Pages, changed: insert, remove, split as changes of what is held. -/
namespace Go.Proofs.Ytfnndifckgjmjaa
open Go.RowKit Go.Afx

/-- What a page string holds. -/
abbrev press (p : P) : List Res := p.res 75 94 69
abbrev presLs (l : List P) : List Res := P.resL 75 94 69 l
abbrev rBs (b : Nat) (av bv : Value) : Res := Res.blk b 75 [av, bv]
abbrev rAs (av : Value) (es : List En) : Res := Res.own 94 2 av es.length (enC es)
abbrev rKs (bv : Value) (ks : List P) : Res := Res.own 69 1 bv ks.length (ptrs ks)
theorem pres_s (b : Nat) (av bv : Value) (es : List En) (ks : List P) : press (.node b av es bv ks) = rBs b av bv :: rAs av es :: rKs bv ks :: presLs ks := P.res_node b av es bv ks
theorem insert_rs (w : World) (b i : Nat) (av bv : Value) (l : List En) (x : En) (hs : Sep w [rBs b av bv, rAs av l]) (hx1 : x.val.oneCell' = true) (hi : i ≤ l.length) (hn : l.length ≤ 1000000000) :
    Calls Try.prog 52 #[ptrV b, .int .i64 (i : Int), .agg #[.string (kb x.key), x.val]] w fun e w' => e = .returned (.tuple #[]) ∧ ∃ av', Trk w (feet [rBs b av bv, rAs av l]) w' [rBs b av' bv, rAs av' (insAt i x l)] := by
  have hb : Blk w b 75 [av, bv] := hs.all (rBs b av bv) (by simp)
  have ha : Own w 94 2 av l.length (enC l) := hs.all (rAs av l) (by simp)
  have hab : av.ownBlock ≠ some b := fun h => two_apart hs b (by simp [Res.blk]) (by simp [Res.own, h])
  refine (insert_s w b i av bv l x hb ha hab hx1 hi hn).mono ?_
  rintro e w' ⟨rfl, av', hb', ha', ho, hf⟩
  have hbl := hb.lt
  have hl := insAt_length i x l hi
  refine ⟨rfl, av', ⟨⟨fun q hq => ?_, ?_⟩, ho.mono fun k _ hk => ?_, fun k hk => ?_⟩⟩
  · simp only [List.mem_cons, List.not_mem_nil, or_false] at hq
    rcases hq with rfl | rfl
    · exact hb'
    · show Own w' _ _ _ _ _; rw [hl]; exact ha'
  · show (feet [rBs b av' bv, rAs av' (insAt i x l)]).Nodup
    have e1 : feet [rBs b av' bv, rAs av' (insAt i x l)] = b :: av'.ownBlock.toList := by simp [feet, Res.blk, Res.own]
    rw [e1, List.nodup_cons]
    refine ⟨fun h => ?_, ownBlock_nodup av'⟩
    rcases hf b (by simpa using h) with h2 | h2
    · exact hab h2
    · omega
  · show k ∈ feet [rBs b av bv, rAs av l]
    rcases hk with rfl | hk
    · simp [feet, Res.blk]
    · simp [feet, Res.own, hk]
  · have e1 : feet [rBs b av' bv, rAs av' (insAt i x l)] = b :: av'.ownBlock.toList := by simp [feet, Res.blk, Res.own]
    rw [e1] at hk
    rcases List.mem_cons.1 hk with rfl | hk
    · exact .inl (by simp [feet, Res.blk])
    · rcases hf k (by simpa using hk) with h2 | h2
      · exact .inl (by simp [feet, Res.own, h2])
      · exact .inr h2
theorem remove_rs (w : World) (b i : Nat) (av bv : Value) (l : List En) (hs : Sep w [rBs b av bv, rAs av l]) (hi : i < l.length) (hn : l.length ≤ 1000000000) :
    Calls Try.prog 61 #[ptrV b, .int .i64 (i : Int)] w fun e w' => e = .returned (.agg #[.string (kb l[i].key), l[i].val]) ∧ ∃ av', Trk w (feet [rBs b av bv, rAs av l]) w' [rBs b av' bv, rAs av' (l.take i ++ l.drop (i + 1))] := by
  have hb : Blk w b 75 [av, bv] := hs.all (rBs b av bv) (by simp)
  have ha : Own w 94 2 av l.length (enC l) := hs.all (rAs av l) (by simp)
  have hab : av.ownBlock ≠ some b := fun h => two_apart hs b (by simp [Res.blk]) (by simp [Res.own, h])
  refine (remove_s w b i av bv l hb ha hab hi hn).mono ?_
  rintro e w' ⟨rfl, av', hb', ha', ho, hf⟩
  have hbl := hb.lt
  have hl : (l.take i ++ l.drop (i + 1)).length = l.length - 1 := by simp; omega
  refine ⟨rfl, av', ⟨⟨fun q hq => ?_, ?_⟩, ho.mono fun k _ hk => ?_, fun k hk => ?_⟩⟩
  · simp only [List.mem_cons, List.not_mem_nil, or_false] at hq
    rcases hq with rfl | rfl
    · exact hb'
    · show Own w' _ _ _ _ _; rw [hl]; exact ha'
  · show (feet [rBs b av' bv, rAs av' (l.take i ++ l.drop (i + 1))]).Nodup
    have e1 : feet [rBs b av' bv, rAs av' (l.take i ++ l.drop (i + 1))] = b :: av'.ownBlock.toList := by simp [feet, Res.blk, Res.own]
    rw [e1, List.nodup_cons]
    refine ⟨fun h => ?_, ownBlock_nodup av'⟩
    rcases hf b (by simpa using h) with h2 | h2
    · exact hab h2
    · omega
  · show k ∈ feet [rBs b av bv, rAs av l]
    rcases hk with rfl | hk
    · simp [feet, Res.blk]
    · simp [feet, Res.own, hk]
  · have e1 : feet [rBs b av' bv, rAs av' (l.take i ++ l.drop (i + 1))] = b :: av'.ownBlock.toList := by simp [feet, Res.blk, Res.own]
    rw [e1] at hk
    rcases List.mem_cons.1 hk with rfl | hk
    · exact .inl (by simp [feet, Res.blk])
    · rcases hf k (by simpa using hk) with h2 | h2
      · exact .inl (by simp [feet, Res.own, h2])
      · exact .inr h2
end Go.Proofs.Ytfnndifckgjmjaa
/- Pages: split. -/
namespace Go.Proofs.Ytfnndifckgjmjaa
open Go.RowKit Go.Afx

set_option maxRecDepth 100000 in
set_option maxHeartbeats 4000000 in
theorem split_s (w : World) (b : Nat) (av bv : Value) (es : List En) (l r : List P) (cb : Nat) (cav cbv : Value) (ces : List En) (cks : List P)
    (hs : Sep w (press (.node b av es bv (l ++ .node cb cav ces cbv cks :: r)))) (hl : l.length ≤ es.length) (h6 : 3 < ces.length) (hk : cks = [] ∨ 3 < cks.length)
    (hn : es.length ≤ 1000000) (hcn : ces.length ≤ 1000000) (hkn : (l ++ .node cb cav ces cbv cks :: r).length ≤ 1000000) (hckn : cks.length ≤ 1000000) :
    Calls Try.prog 32 #[ptrV b, .int .i64 (l.length : Int)] w fun e w' => e = .returned (.tuple #[]) ∧ ∃ p', p'.blk = b ∧ p'.t = splitT l.length es ((l ++ .node cb cav ces cbv cks :: r).map P.t) (P.node cb cav ces cbv cks).t ∧
      Trk w (feet (press (.node b av es bv (l ++ .node cb cav ces cbv cks :: r)))) w' (press p') := by
  have T0 := Trk.start hs
  generalize hF : feet (press (.node b av es bv (l ++ .node cb cav ces cbv cks :: r))) = F at *
  have hp0 : (press (.node b av es bv (l ++ .node cb cav ces cbv cks :: r))).Perm (rBs b av bv :: rAs av es :: rKs bv (l ++ .node cb cav ces cbv cks :: r) :: rBs cb cav cbv :: rAs cav ces :: rKs cbv cks :: (presLs (cks.take 3) ++ (presLs (cks.drop 3) ++ (presLs l ++ presLs r)))) := by
    have e : P.resL 75 94 69 cks = presLs (cks.take 3) ++ presLs (cks.drop 3) := by rw [← P.resL_append, List.take_append_drop]
    rw [pres_s, presLs, P.resL_append, P.resL_cons, P.res_node, e]
    exact perm_of_cnt fun a => by simp only [cnt_append, cnt_cons, presLs, rBs, rAs, rKs]; omega
  have T0 := T0.perm hp0
  have hR : ∀ q, cnt q (presLs (cks.take 3) ++ (presLs (cks.drop 3) ++ (presLs l ++ presLs r))) = cnt q (presLs (cks.take 3)) + (cnt q (presLs (cks.drop 3)) + (cnt q (presLs l) + cnt q (presLs r))) := fun q => by simp only [cnt_append]
  have HRR := Lib.hid hR
  generalize presLs (cks.take 3) ++ (presLs (cks.drop 3) ++ (presLs l ++ presLs r)) = R at *
  clear hs hp0 hR
  have kb0 : Blk w b 75 [av, bv] := T0.blk (by simp only [List.mem_cons, true_or, or_true])
  have kc0 : Blk w cb 75 [cav, cbv] := T0.blk (by simp only [List.mem_cons, true_or, or_true])
  have oa : Own w 94 2 cav ces.length (enC ces) := T0.own (by simp only [List.mem_cons, true_or, or_true])
  have ok : Own w 69 1 bv (l ++ .node cb cav ces cbv cks :: r).length (ptrs (l ++ .node cb cav ces cbv cks :: r)) := T0.own (by simp only [List.mem_cons, true_or, or_true])
  have ock : Own w 69 1 cbv cks.length (ptrs cks) := T0.own (by simp only [List.mem_cons, true_or, or_true])
  obtain ⟨gk, offk, capk, hbv, hgk, p0⟩ := sl_ptr (k := l.length) (ok.sl (B := fun _ => True) (fun _ _ => trivial)) (by simp)
  have hcl : (l ++ P.node cb cav ces cbv cks :: r)[l.length]'(by simp) = P.node cb cav ces cbv cks := by simp
  rw [hcl] at p0
  obtain ⟨ga, offa, capa, hcav, hga, e0, e1⟩ := sl_en (k := 2) (oa.sl (B := fun _ => True) (fun _ _ => trivial)) (by omega)
  obtain ⟨x0, x1⟩ := pg_cells kb0
  obtain ⟨y0, y1⟩ := pg_cells kc0
  have HBV := Lib.hid hbv
  have HCAV := Lib.hid hcav
  rw [hbv] at x1
  rw [hcav] at y0 oa
  clear hbv hcav
  have hlt1 := kb0.lt
  have hlt2 := kc0.lt
  have hsl1 := Sl.from (k := 3) (oa.sl (B := fun _ => True) (fun _ _ => trivial)) (by omega)
  have HC1 := Lib.hid (clone_Es w _ _ _ _ hsl1 (by omega))
  have hcap : ces.length ≤ capa ∧ capa ≤ 9223372036854775807 := by obtain ⟨p, c, h1, h2, h3⟩ := own_form_Es oa; cases h1; exact ⟨h2, h3⟩
  obtain ⟨hcap1, hcap2⟩ := hcap
  have hca3 : ¬ (capa = 3) := by omega
  have HT0 := Lib.hid T0
  have hp0 : w.cell? ⟨gk, offk + l.length, none⟩ = some (.pointer (some ⟨cb, 0, none⟩)) := p0
  unfold ptrV
  clear T0 kb0 kc0 oa ok ock hcl p0 hsl1 hF
  obtain ⟨nk, hnk⟩ : ∃ nk, (l ++ P.node cb cav ces cbv cks :: r).length = nk := ⟨_, rfl⟩
  rw [hnk] at x1 HBV hkn
  have hlnk : l.length < nk := by rw [← hnk]; simp
  have HNK := Lib.hid hnk
  clear hnk
  go_enter Try.func32, Try.ntmps32
  go_wp2_with fail
  refine HC1.out.mono ?_
  rintro e w1 ⟨v1, rfl, ho1, hb1, hf1⟩
  have ho1' : Own w1 94 2 v1 (ces.drop 3).length (enC (ces.drop 3)) := by rw [← (enC_td ces 3).2, List.length_drop]; exact ho1
  have T1 := HT0.out.new (r := rAs v1 (ces.drop 3)) ho1' (ownBlock_nodup v1) (fun k hk => hf1 k (by simpa [Res.own] using hk)) hb1
  obtain ⟨p1, c1, hv1, _, _⟩ := own_form_Es ho1
  obtain ⟨w2, hw2⟩ : ∃ w2, w1.alloc (.cells #[.slice p1 (ces.length - 3) c1, .slice none 0 0] 75) = w2 := ⟨_, rfl⟩
  have hb12 : Below w1.heap.size w1 w2 := hw2 ▸ (Below.refl _ _).alloc (Nat.le_refl _) _
  have hkr : Blk w2 w1.heap.size 75 [v1, .slice none 0 0] := by rw [hv1, ← hw2]; exact Blk.new w1 _ _
  have T2 := T1.new (r := rBs w1.heap.size v1 (.slice none 0 0)) hkr (by simp [Res.blk]) (by simp [Res.blk]) hb12
  have kc2 : Blk w2 cb 75 [cav, cbv] := T2.blk (by simp only [List.mem_cons, true_or, or_true])
  have hcbv : ∃ p c, cbv = .slice p cks.length c ∧ cks.length ≤ c ∧ c ≤ 9223372036854775807 := own_form_Ps (T2.own (e := 69) (sz := 1) (cs := ptrs cks) (by simp only [List.mem_cons, true_or, or_true]))
  obtain ⟨pk, ck, hcbv, hck1, hck2⟩ := hcbv
  have HL := Lib.hid (leaf_s w2 cb 75 cav pk cks.length ck (hcbv ▸ kc2))
  have HT2 := Lib.hid T2
  have HW2 := Lib.hid hw2
  have HCBV := Lib.hid hcbv
  have HV1 := Lib.hid hv1
  clear ho1 ho1' hb1 hf1 T1 T2 kc2 hkr hb12 hcbv HC1 HT0 x0 x1 y0 y1 e0 e1 hp0
  subst hv1
  go_wp2_with fail
  refine HL.out.mono ?_
  clear hw2
  rintro e wq ⟨rfl, hq⟩
  subst hq
  rcases hk with hk | hk
  · have hk0 : cks.length = 0 := by rw [hk]; rfl
    obtain ⟨wX, hX⟩ : ∃ wX, wX = wq := ⟨_, rfl⟩
    obtain ⟨v2, hv2⟩ : ∃ v2, v2 = Value.slice none 0 0 := ⟨_, rfl⟩
    obtain ⟨cv2, hcv2⟩ : ∃ cv2, cv2 = cbv := ⟨_, rfl⟩
    have TX : Trk w F wX (rBs w1.heap.size (.slice p1 (ces.length - 3) c1) v2 :: rAs (.slice p1 (ces.length - 3) c1) (ces.drop 3) :: rKs v2 (cks.drop 3) :: rBs b av bv :: rAs av es :: rKs bv (l ++ .node cb cav ces cbv cks :: r) :: rBs cb cav cv2 :: rAs cav ces :: rKs cv2 (cks.take 3) :: R) := by
      have e1 : cks.drop 3 = [] := by rw [hk]; rfl
      have e2 : cks.take 3 = cks := by rw [hk]; rfl
      rw [e1, e2, hX, hv2, hcv2]
      have T3 := HT2.out.new (r := rKs (.slice none 0 0) []) (Own.nil _ _ _) (by simp [Res.own, Value.ownBlock]) (by simp [Res.own, Value.ownBlock]) (Below.refl _ _)
      exact T3.perm (perm_of_cnt fun a => by simp only [cnt_append, cnt_cons, cnt_nil, rBs, rAs, rKs]; omega)
    have HTX := Lib.hid TX
    have HX := Lib.hid hX
    have HV2 := Lib.hid hv2
    clear TX hX hv2 hcv2
    go_wp2_with fail
    rw [← HX.out]
    have kbX : Blk wX b 75 [av, bv] := HTX.out.blk (by simp only [List.mem_cons, true_or, or_true])
    have kcX : Blk wX cb 75 [cav, cv2] := HTX.out.blk (by simp only [List.mem_cons, true_or, or_true])
    have oaX : Own wX 94 2 cav ces.length (enC ces) := HTX.out.own (by simp only [List.mem_cons, true_or, or_true])
    obtain ⟨x0, x1⟩ := pg_cells kbX
    obtain ⟨y0, y1⟩ := pg_cells kcX
    rw [HBV.out] at x1
    rw [HCAV.out] at y0 oaX
    obtain ⟨g', o', c', hv', hgaX, e0, e1⟩ := sl_en (k := 2) (oaX.sl (B := fun _ => True) (fun _ _ => trivial)) (by omega)
    cases hv'
    have hone : (ces[2]).val.oneCell' = true := oaX.2.1 _ (List.mem_of_getElem? (enC_at ces 2 (by omega)).2)
    have hpX : (rBs w1.heap.size (.slice p1 (ces.length - 3) c1) v2 :: rAs (.slice p1 (ces.length - 3) c1) (ces.drop 3) :: rKs v2 (cks.drop 3) :: rBs b av bv :: rAs av es :: rKs bv (l ++ .node cb cav ces cbv cks :: r) :: rBs cb cav cv2 :: rAs cav ces :: rKs cv2 (cks.take 3) :: R).Perm ([rBs b av bv, rAs av es] ++ (rBs w1.heap.size (.slice p1 (ces.length - 3) c1) v2 :: rAs (.slice p1 (ces.length - 3) c1) (ces.drop 3) :: rKs v2 (cks.drop 3) :: rKs bv (l ++ .node cb cav ces cbv cks :: r) :: rBs cb cav cv2 :: rAs cav ces :: rKs cv2 (cks.take 3) :: R)) := perm_of_cnt fun a => by simp only [cnt_append, cnt_cons, cnt_nil, rBs, rAs, rKs]; omega
    have HI := Lib.hid (insert_rs wX.drew b l.length av bv es ces[2] (HTX.out.drew.sepOf hpX) hone hl (by omega))
    have HP := Lib.hid hpX
    clear kbX kcX oaX hone hpX
    obtain ⟨me, hme⟩ : ∃ me, me = ces[2] := ⟨_, rfl⟩
    rw [← hme] at e0 e1 HI
    have HME := Lib.hid hme
    clear hme
    unfold ptrV at HI
    have hl2 : 2 < ces.length := by omega
    have hl2i : (2 : Int) < (ces.length : Int) := by omega
    refine wp_region_lit_plan [] [(0, 0), (1, 0), (2, 0), (3, 0), (4, 0), (5, 0), (6, 0), (7, 0), (9, 0), (8, 1), (10, 0), (11, 1), (12, 4)] (fun _ => False) (by kernel_rfl) (by kernel_rfl) (fun c a d v w h => by cases d <;> exact h) ?_
    go_wp2_with (first | (refine plan_pure (v := _) (by rfl) (by rfl) (by rfl) (by intro _; go_simp; with_reducible rfl) ?_; simp only [List.setIfInBounds_toArray, List.set_cons_zero, List.set_cons_succ]; try go_bits) | (refine plan_read (v := _) (by rfl) (by rfl) (by rfl) (by go_simp; with_reducible rfl) ?_; simp only [List.setIfInBounds_toArray, List.set_cons_zero, List.set_cons_succ]; try go_bits) | (refine plan_readB (v := _) (by rfl) (by rfl) (by rfl) (by intro _ hag; unfold Agree at hag; go_simp; with_reducible rfl) ?_; simp only [List.setIfInBounds_toArray, List.set_cons_zero, List.set_cons_succ]; try go_bits) | (refine plan_skip0 (by rfl) (by rfl) (by rfl) ?_; simp only [List.setIfInBounds_toArray, List.set_cons_zero, List.set_cons_succ]; try go_bits) | (refine plan_skip1 (by rfl) (by rfl) (by rfl) ?_; simp only [List.setIfInBounds_toArray, List.set_cons_zero, List.set_cons_succ]; try go_bits) | (refine plan_skip2 (by rfl) (by rfl) (by rfl) ?_; simp only [List.setIfInBounds_toArray, List.set_cons_zero, List.set_cons_succ]; try go_bits) | (refine plan_skip4 (by rfl) (by rfl) (by rfl) ?_; simp only [List.setIfInBounds_toArray, List.set_cons_zero, List.set_cons_succ]; try go_bits) | (refine plan_any (by rfl) ?_) | (refine plan_keep (by rfl) ?_) | (refine plan_nil ?_) | (with_reducible refine And.intro (by first | assumption | exact Agree.refl _ _ | exact agree_drew _ _ | exact agree_alloc _ (by intro k hk; subst hk; first | omega | (simp; omega))) ?_) | (unfold Act.put; simp only [List.setIfInBounds_toArray, List.set_cons_zero, List.set_cons_succ]))
    refine HI.out.mono ?_
    rintro e w6 ⟨rfl, av2, hT⟩
    have T6 := HTX.out.drew.use HP.out hT
    have kb6 : Blk w6 b 75 [av2, bv] := T6.blk (by simp only [List.mem_append, List.mem_cons, true_or, or_true])
    obtain ⟨w7, hw7⟩ : ∃ w7, w6.alloc (.cells #[.pointer (some ⟨w1.heap.size, 0, none⟩)] 69) = w7 := ⟨_, rfl⟩
    have hb67 : Below w6.heap.size w6 w7 := hw7 ▸ (Below.refl _ _).alloc (Nat.le_refl _) _
    have T7 := T6.below hb67
    have hkx : Blk w7 w6.heap.size 69 [.pointer (some ⟨w1.heap.size, 0, none⟩)] := hw7 ▸ Blk.new w6 _ _
    have hp7 : ([rBs b av2 bv, rAs av2 (insAt l.length me es)] ++ (rBs w1.heap.size (.slice p1 (ces.length - 3) c1) v2 :: rAs (.slice p1 (ces.length - 3) c1) (ces.drop 3) :: rKs v2 (cks.drop 3) :: rKs bv (l ++ .node cb cav ces cbv cks :: r) :: rBs cb cav cv2 :: rAs cav ces :: rKs cv2 (cks.take 3) :: R)).Perm (rKs bv (l ++ .node cb cav ces cbv cks :: r) :: (rBs b av2 bv :: rAs av2 (insAt l.length me es) :: rBs w1.heap.size (.slice p1 (ces.length - 3) c1) v2 :: rAs (.slice p1 (ces.length - 3) c1) (ces.drop 3) :: rKs v2 (cks.drop 3) :: rBs cb cav cv2 :: rAs cav ces :: rKs cv2 (cks.take 3) :: R)) := perm_of_cnt fun a => by simp only [cnt_append, cnt_cons, cnt_nil, rBs, rAs, rKs]; omega
    have T7 := T7.perm hp7
    have ok7 : Own w7 69 1 bv (l ++ .node cb cav ces cbv cks :: r).length (ptrs (l ++ .node cb cav ces cbv cks :: r)) := T7.own (by simp only [List.mem_cons, true_or, or_true])
    have ok6 : Own w6 69 1 bv (l ++ .node cb cav ces cbv cks :: r).length (ptrs (l ++ .node cb cav ces cbv cks :: r)) := T6.own (by simp only [List.mem_append, List.mem_cons, true_or, or_true])
    have HI2 := Lib.hid (insert_Ps w7 bv (l ++ .node cb cav ces cbv cks :: r).length (l.length + 1) (ptrs (l ++ .node cb cav ces cbv cks :: r)) [.pointer (some ⟨w1.heap.size, 0, none⟩)] w6.heap.size ok7 hkx rfl (Ones.cons rfl Ones.nil) (fun h => by have := ok6.lt _ h; omega) (by simp) (by rw [HNK.out]; omega))
    obtain ⟨x0, x1⟩ := pg_cells kb6
    rw [HBV.out] at x1
    have HT7 := Lib.hid T7
    have HW7 := Lib.hid hw7
    have hcast : ((l.length + 1 : Nat) : Int) = (l.length : Int) + 1 := by omega
    rw [hcast, HBV.out, HNK.out] at HI2
    clear hT T6 kb6 hkx hp7 T7 ok7 ok6 HI HTX y0 y1 e0 e1
    obtain ⟨z0, z1⟩ : w7.cell? ⟨b, 0, none⟩ = some av2 ∧ w7.cell? ⟨b, 1, none⟩ = some bv := pg_cells (HT7.out.blk (t := 75) (by simp only [List.mem_cons, true_or, or_true]))
    go_wp2_with (first | (refine plan_nil ?_))
    refine HI2.out.mono ?_
    rintro e w8 ⟨bv2, rfl, ho8, hon8, hf8⟩
    have hcs := ptrs_two l r (.node cb cav ces cbv cks) (P.node cb (.slice (some ⟨ga, offa, none⟩) 2 2) (ces.take 2) cv2 (cks.take 3)) (P.node w1.heap.size (.slice p1 (ces.length - 3) c1) (ces.drop 3) v2 (cks.drop 3)) rfl
    have hln : nk + 1 = (l ++ P.node cb (.slice (some ⟨ga, offa, none⟩) 2 2) (ces.take 2) cv2 (cks.take 3) :: P.node w1.heap.size (.slice p1 (ces.length - 3) c1) (ces.drop 3) v2 (cks.drop 3) :: r).length := by rw [← HNK.out]; simp; omega
    have ho8' : Own w8 69 1 bv2 (l ++ P.node cb (.slice (some ⟨ga, offa, none⟩) 2 2) (ces.take 2) cv2 (cks.take 3) :: P.node w1.heap.size (.slice p1 (ces.length - 3) c1) (ces.drop 3) v2 (cks.drop 3) :: r).length (ptrs (l ++ P.node cb (.slice (some ⟨ga, offa, none⟩) 2 2) (ces.take 2) cv2 (cks.take 3) :: P.node w1.heap.size (.slice p1 (ces.length - 3) c1) (ces.drop 3) v2 (cks.drop 3) :: r)) := by rw [← hln, ← hcs]; exact ho8
    rw [← HBV.out] at hon8 hf8
    have T8 := HT7.out.ownTo ho8' hon8 hf8
    obtain ⟨p8, c8, hbv2, _, _⟩ := own_form_Ps ho8
    have hp8 : (rKs bv2 (l ++ P.node cb (.slice (some ⟨ga, offa, none⟩) 2 2) (ces.take 2) cv2 (cks.take 3) :: P.node w1.heap.size (.slice p1 (ces.length - 3) c1) (ces.drop 3) v2 (cks.drop 3) :: r) :: rBs b av2 bv :: rAs av2 (insAt l.length me es) :: rBs w1.heap.size (.slice p1 (ces.length - 3) c1) v2 :: rAs (.slice p1 (ces.length - 3) c1) (ces.drop 3) :: rKs v2 (cks.drop 3) :: rBs cb cav cv2 :: rAs cav ces :: rKs cv2 (cks.take 3) :: R).Perm (rBs b av2 bv :: (rKs bv2 (l ++ P.node cb (.slice (some ⟨ga, offa, none⟩) 2 2) (ces.take 2) cv2 (cks.take 3) :: P.node w1.heap.size (.slice p1 (ces.length - 3) c1) (ces.drop 3) v2 (cks.drop 3) :: r) :: rAs av2 (insAt l.length me es) :: rBs w1.heap.size (.slice p1 (ces.length - 3) c1) v2 :: rAs (.slice p1 (ces.length - 3) c1) (ces.drop 3) :: rKs v2 (cks.drop 3) :: rBs cb cav cv2 :: rAs cav ces :: rKs cv2 (cks.take 3) :: R)) := perm_of_cnt fun a => by simp only [cnt_append, cnt_cons, cnt_nil, rBs, rAs, rKs]; omega
    have T8 := T8.perm hp8
    obtain ⟨w9, hw9⟩ : ∃ w9, w8.setCell ⟨b, 1, none⟩ bv2 = w9 := ⟨_, rfl⟩
    have T9 : Trk w F w9 (rBs b av2 bv2 :: (rKs bv2 (l ++ P.node cb (.slice (some ⟨ga, offa, none⟩) 2 2) (ces.take 2) cv2 (cks.take 3) :: P.node w1.heap.size (.slice p1 (ces.length - 3) c1) (ces.drop 3) v2 (cks.drop 3) :: r) :: rAs av2 (insAt l.length me es) :: rBs w1.heap.size (.slice p1 (ces.length - 3) c1) v2 :: rAs (.slice p1 (ces.length - 3) c1) (ces.drop 3) :: rKs v2 (cks.drop 3) :: rBs cb cav cv2 :: rAs cav ces :: rKs cv2 (cks.take 3) :: R)) := hw9 ▸ T8.blkSet 1 bv2
    have kb8 : Blk w8 b 75 [av2, bv] := T8.blk (by simp only [List.mem_cons, true_or, or_true])
    have kc9 : Blk w9 cb 75 [cav, cv2] := T9.blk (by simp only [List.mem_cons, true_or, or_true])
    obtain ⟨x0, x1⟩ := pg_cells kb8
    obtain ⟨y0, y1⟩ := pg_cells kc9
    have hf1 := kb8.frozen 1
    have hf2 := kc9.frozen 0
    rw [HCAV.out] at y0
    have HT9 := Lib.hid T9
    have HBV2 := Lib.hid hbv2
    subst hbv2
    clear T8 T9 kb8 kc9 hp8 ho8 ho8' hon8 hf8 hcs hln HI2 HT7 z0 z1 hw7 hcast
    have hca2 : 2 ≤ capa := by omega
    have hca2i : (2 : Int) ≤ (capa : Int) := by omega
    go_wp2_with fail
    clear hw9
    go_end0
    have hpA : (rBs b av2 (.slice p8 (nk + 1) c8) :: (rKs (.slice p8 (nk + 1) c8) (l ++ P.node cb (.slice (some ⟨ga, offa, none⟩) 2 2) (ces.take 2) cv2 (cks.take 3) :: P.node w1.heap.size (.slice p1 (ces.length - 3) c1) (ces.drop 3) v2 (cks.drop 3) :: r) :: rAs av2 (insAt l.length me es) :: rBs w1.heap.size (.slice p1 (ces.length - 3) c1) v2 :: rAs (.slice p1 (ces.length - 3) c1) (ces.drop 3) :: rKs v2 (cks.drop 3) :: rBs cb cav cv2 :: rAs cav ces :: rKs cv2 (cks.take 3) :: R)).Perm (rBs cb cav cv2 :: (rAs cav ces :: rBs b av2 (.slice p8 (nk + 1) c8) :: rKs (.slice p8 (nk + 1) c8) (l ++ P.node cb (.slice (some ⟨ga, offa, none⟩) 2 2) (ces.take 2) cv2 (cks.take 3) :: P.node w1.heap.size (.slice p1 (ces.length - 3) c1) (ces.drop 3) v2 (cks.drop 3) :: r) :: rAs av2 (insAt l.length me es) :: rBs w1.heap.size (.slice p1 (ces.length - 3) c1) v2 :: rAs (.slice p1 (ces.length - 3) c1) (ces.drop 3) :: rKs v2 (cks.drop 3) :: rKs cv2 (cks.take 3) :: R)) := perm_of_cnt fun a => by simp only [cnt_append, cnt_cons, cnt_nil, rBs, rAs, rKs]; omega
    have TA := (HT9.out.perm hpA).blkSet 0 (.slice (some ⟨ga, offa, none⟩) 2 2)
    generalize w9.setCell ⟨cb, 0, none⟩ (.slice (some ⟨ga, offa, none⟩) 2 2) = wA at *
    have TA : Trk w F wA (rBs cb (.slice (some ⟨ga, offa, none⟩) 2 2) cv2 :: (rAs cav ces :: rBs b av2 (.slice p8 (nk + 1) c8) :: rKs (.slice p8 (nk + 1) c8) (l ++ P.node cb (.slice (some ⟨ga, offa, none⟩) 2 2) (ces.take 2) cv2 (cks.take 3) :: P.node w1.heap.size (.slice p1 (ces.length - 3) c1) (ces.drop 3) v2 (cks.drop 3) :: r) :: rAs av2 (insAt l.length me es) :: rBs w1.heap.size (.slice p1 (ces.length - 3) c1) v2 :: rAs (.slice p1 (ces.length - 3) c1) (ces.drop 3) :: rKs v2 (cks.drop 3) :: rKs cv2 (cks.take 3) :: R)) := TA
    have hpB : (rBs cb (.slice (some ⟨ga, offa, none⟩) 2 2) cv2 :: (rAs cav ces :: rBs b av2 (.slice p8 (nk + 1) c8) :: rKs (.slice p8 (nk + 1) c8) (l ++ P.node cb (.slice (some ⟨ga, offa, none⟩) 2 2) (ces.take 2) cv2 (cks.take 3) :: P.node w1.heap.size (.slice p1 (ces.length - 3) c1) (ces.drop 3) v2 (cks.drop 3) :: r) :: rAs av2 (insAt l.length me es) :: rBs w1.heap.size (.slice p1 (ces.length - 3) c1) v2 :: rAs (.slice p1 (ces.length - 3) c1) (ces.drop 3) :: rKs v2 (cks.drop 3) :: rKs cv2 (cks.take 3) :: R)).Perm (rAs cav ces :: (rBs cb (.slice (some ⟨ga, offa, none⟩) 2 2) cv2 :: rBs b av2 (.slice p8 (nk + 1) c8) :: rKs (.slice p8 (nk + 1) c8) (l ++ P.node cb (.slice (some ⟨ga, offa, none⟩) 2 2) (ces.take 2) cv2 (cks.take 3) :: P.node w1.heap.size (.slice p1 (ces.length - 3) c1) (ces.drop 3) v2 (cks.drop 3) :: r) :: rAs av2 (insAt l.length me es) :: rBs w1.heap.size (.slice p1 (ces.length - 3) c1) v2 :: rAs (.slice p1 (ces.length - 3) c1) (ces.drop 3) :: rKs v2 (cks.drop 3) :: rKs cv2 (cks.take 3) :: R)) := perm_of_cnt fun a => by simp only [cnt_append, cnt_cons, cnt_nil, rBs, rAs, rKs]; omega
    have oaA : Own wA 94 2 cav ces.length (enC ces) := TA.own (by simp only [List.mem_cons, true_or, or_true])
    have hoA : Own wA 94 2 (.slice (some ⟨ga, offa, none⟩) 2 2) (ces.take 2).length (enC (ces.take 2)) := by
      rw [HCAV.out] at oaA
      have h1 := oaA.cut (m := 2) (c := 2) (by omega) (by omega) (by omega)
      rw [(enC_td ces 2).1] at h1
      have h2 : (ces.take 2).length = 2 := by rw [List.length_take]; omega
      rw [h2]
      exact h1
    have TB := (TA.perm hpB).swap (r' := rAs (.slice (some ⟨ga, offa, none⟩) 2 2) (ces.take 2)) hoA (show (Value.slice (some ⟨ga, offa, none⟩) 2 2).ownBlock.toList.Nodup from ownBlock_nodup _) (fun k hk => by
      have h1 : k = ga := by simpa [Res.own, Value.ownBlock] using hk
      simp [Res.own, HCAV.out, Value.ownBlock, h1])
    refine ⟨rfl, P.node b av2 (insAt l.length me es) (.slice p8 (nk + 1) c8) (l ++ P.node cb (.slice (some ⟨ga, offa, none⟩) 2 2) (ces.take 2) cv2 (cks.take 3) :: P.node w1.heap.size (.slice p1 (ces.length - 3) c1) (ces.drop 3) v2 (cks.drop 3) :: r), rfl, ?_, TB.perm ?_⟩
    · rw [P.t_node, P.t_node, splitT]
      have hmid : midT (T.node ces (cks.map P.t)) = me := by
        rw [HME.out]
        unfold midT T.es
        rw [List.getD_eq_getElem?_getD, List.getElem?_eq_getElem hl2]; rfl
      rw [hmid]
      congr 1
      rw [List.map_append, List.map_append, List.map_cons, List.map_cons, List.map_cons, List.take_left' (by simp), drop_len1 (by simp), P.t_node, P.t_node]
      unfold leftT rightT T.es T.ts
      simp only [List.map_take, List.map_drop]
    · refine perm_of_cnt fun a => ?_
      rw [pres_s, presLs, P.resL_append, P.resL_cons, P.resL_cons, P.res_node, P.res_node]
      simp only [cnt_append, cnt_cons, cnt_nil, rBs, rAs, rKs, HRR.out a, presLs]
      omega
  · have hk0 : ¬ cks.length = 0 := by omega
    have kc2 : Blk wq cb 75 [cav, cbv] := HT2.out.blk (by simp only [List.mem_cons, true_or, or_true])
    have ock : Own wq 69 1 cbv cks.length (ptrs cks) := HT2.out.own (by simp only [List.mem_cons, true_or, or_true])
    obtain ⟨y0, y1⟩ := pg_cells kc2
    rw [HCBV.out] at y1 ock
    obtain ⟨gq, offq, hpk⟩ : ∃ g off, pk = some ⟨g, off, none⟩ := by
      rcases ock.2.2 with ⟨h0, h1⟩ | ⟨g', off', cap', cur, hv, _⟩
      · exfalso; omega
      · cases hv; exact ⟨g', off', rfl⟩
    subst hpk
    have hslk := Sl.from (k := 3) (ock.sl (B := fun _ => True) (fun _ _ => trivial)) (by omega)
    have HC2 := Lib.hid (clone_Ps wq _ _ _ _ hslk (by omega))
    simp only [Nat.mul_one] at HC2
    have hck3 : ¬ ck = 3 := by omega
    clear kc2 ock hslk
    go_wp2_with fail
    refine HC2.out.mono ?_
    rintro e w3 ⟨v2, rfl, ho2, hb2, hf2⟩
    have ho2' : Own w3 69 1 v2 (cks.drop 3).length (ptrs (cks.drop 3)) := by rw [← (ptrs_td cks 3).2, List.length_drop]; exact ho2
    have T3 := HT2.out.new (r := rKs v2 (cks.drop 3)) ho2' (ownBlock_nodup v2) (fun k hk => hf2 k (by simpa [Res.own] using hk)) hb2
    have hp3 : (rKs v2 (cks.drop 3) :: rBs w1.heap.size (.slice p1 (ces.length - 3) c1) (.slice none 0 0) :: rAs (.slice p1 (ces.length - 3) c1) (ces.drop 3) :: rBs b av bv :: rAs av es :: rKs bv (l ++ .node cb cav ces cbv cks :: r) :: rBs cb cav cbv :: rAs cav ces :: rKs cbv cks :: R).Perm (rBs w1.heap.size (.slice p1 (ces.length - 3) c1) (.slice none 0 0) :: (rBs cb cav cbv :: rKs cbv cks :: rKs v2 (cks.drop 3) :: rAs (.slice p1 (ces.length - 3) c1) (ces.drop 3) :: rBs b av bv :: rAs av es :: rKs bv (l ++ .node cb cav ces cbv cks :: r) :: rAs cav ces :: R)) := perm_of_cnt fun a => by simp only [cnt_append, cnt_cons, cnt_nil, rBs, rAs, rKs]; omega
    have T3 := T3.perm hp3
    have kr3 : Blk w3 w1.heap.size 75 [(.slice p1 (ces.length - 3) c1), .slice none 0 0] := T3.blk (by simp only [List.mem_cons, true_or, or_true])
    obtain ⟨w4, hw4⟩ : ∃ w4, w3.setCell ⟨w1.heap.size, 1, none⟩ v2 = w4 := ⟨_, rfl⟩
    have T4 : Trk w F w4 (rBs w1.heap.size (.slice p1 (ces.length - 3) c1) v2 :: (rBs cb cav cbv :: rKs cbv cks :: rKs v2 (cks.drop 3) :: rAs (.slice p1 (ces.length - 3) c1) (ces.drop 3) :: rBs b av bv :: rAs av es :: rKs bv (l ++ .node cb cav ces cbv cks :: r) :: rAs cav ces :: R)) := hw4 ▸ T3.blkSet 1 v2
    have hp4 : (rBs w1.heap.size (.slice p1 (ces.length - 3) c1) v2 :: (rBs cb cav cbv :: rKs cbv cks :: rKs v2 (cks.drop 3) :: rAs (.slice p1 (ces.length - 3) c1) (ces.drop 3) :: rBs b av bv :: rAs av es :: rKs bv (l ++ .node cb cav ces cbv cks :: r) :: rAs cav ces :: R)).Perm (rBs cb cav cbv :: (rKs cbv cks :: rBs w1.heap.size (.slice p1 (ces.length - 3) c1) v2 :: rKs v2 (cks.drop 3) :: rAs (.slice p1 (ces.length - 3) c1) (ces.drop 3) :: rBs b av bv :: rAs av es :: rKs bv (l ++ .node cb cav ces cbv cks :: r) :: rAs cav ces :: R)) := perm_of_cnt fun a => by simp only [cnt_append, cnt_cons, cnt_nil, rBs, rAs, rKs]; omega
    have T4 := T4.perm hp4
    have kc4 : Blk w4 cb 75 [cav, cbv] := T4.blk (by simp only [List.mem_cons, true_or, or_true])
    obtain ⟨cv2, hcv2⟩ : ∃ cv2, Value.slice (some ⟨gq, offq, none⟩) 3 3 = cv2 := ⟨_, rfl⟩
    obtain ⟨wX, hX⟩ : ∃ wX, w4.setCell ⟨cb, 1, none⟩ (.slice (some ⟨gq, offq, none⟩) 3 3) = wX := ⟨_, rfl⟩
    have T5 : Trk w F wX (rBs cb cav cv2 :: (rKs cbv cks :: rBs w1.heap.size (.slice p1 (ces.length - 3) c1) v2 :: rKs v2 (cks.drop 3) :: rAs (.slice p1 (ces.length - 3) c1) (ces.drop 3) :: rBs b av bv :: rAs av es :: rKs bv (l ++ .node cb cav ces cbv cks :: r) :: rAs cav ces :: R)) := hX ▸ hcv2 ▸ T4.blkSet 1 (.slice (some ⟨gq, offq, none⟩) 3 3)
    have hp5 : (rBs cb cav cv2 :: (rKs cbv cks :: rBs w1.heap.size (.slice p1 (ces.length - 3) c1) v2 :: rKs v2 (cks.drop 3) :: rAs (.slice p1 (ces.length - 3) c1) (ces.drop 3) :: rBs b av bv :: rAs av es :: rKs bv (l ++ .node cb cav ces cbv cks :: r) :: rAs cav ces :: R)).Perm (rKs cbv cks :: (rBs w1.heap.size (.slice p1 (ces.length - 3) c1) v2 :: rAs (.slice p1 (ces.length - 3) c1) (ces.drop 3) :: rKs v2 (cks.drop 3) :: rBs b av bv :: rAs av es :: rKs bv (l ++ .node cb cav ces cbv cks :: r) :: rBs cb cav cv2 :: rAs cav ces :: R)) := perm_of_cnt fun a => by simp only [cnt_append, cnt_cons, cnt_nil, rBs, rAs, rKs]; omega
    have T5 := T5.perm hp5
    have ock5 : Own wX 69 1 cbv cks.length (ptrs cks) := T5.own (by simp only [List.mem_cons, true_or, or_true])
    have hoK : Own wX 69 1 cv2 (cks.take 3).length (ptrs (cks.take 3)) := by
      rw [HCBV.out] at ock5
      have h1 := ock5.cut (m := 3) (c := 3) (by omega) (by omega) (by omega)
      rw [Nat.mul_one, (ptrs_td cks 3).1, hcv2] at h1
      have h2 : (cks.take 3).length = 3 := by rw [List.length_take]; omega
      rw [h2]
      exact h1
    have T6 := T5.swap (r' := rKs cv2 (cks.take 3)) hoK (show cv2.ownBlock.toList.Nodup from ownBlock_nodup _) (fun k hk => by
      rw [← hcv2] at hk
      have h1 : k = gq := by simpa [Res.own, Value.ownBlock] using hk
      simp [Res.own, HCBV.out, Value.ownBlock, h1])
    have TX : Trk w F wX (rBs w1.heap.size (.slice p1 (ces.length - 3) c1) v2 :: rAs (.slice p1 (ces.length - 3) c1) (ces.drop 3) :: rKs v2 (cks.drop 3) :: rBs b av bv :: rAs av es :: rKs bv (l ++ .node cb cav ces cbv cks :: r) :: rBs cb cav cv2 :: rAs cav ces :: rKs cv2 (cks.take 3) :: R) := T6.perm (perm_of_cnt fun a => by simp only [cnt_append, cnt_cons, cnt_nil, rBs, rAs, rKs]; omega)
    have HTX := Lib.hid TX
    obtain ⟨z0, z1⟩ := pg_cells kr3
    obtain ⟨y0, y1⟩ := pg_cells kc4
    rw [HCBV.out] at y1
    have hf1 := kr3.frozen 1
    have hf2 := kc4.frozen 1
    obtain ⟨p2, c2, hv2, _, _⟩ := own_form_Ps ho2
    have HV2 := Lib.hid hv2
    have HX := Lib.hid hX
    have HCV2 := Lib.hid hcv2
    have hck3i : (3 : Int) ≤ (ck : Int) := by omega
    have hck3n : 3 ≤ ck := by omega
    subst hv2
    clear ho2 ho2' hb2 hf2 T3 T4 T5 T6 TX hp3 hp4 hp5 kr3 kc4 ock5 hoK HC2 hcv2
    go_wp2_with fail
    clear hw4 hX z0 z1 y0 y1 hf1 hf2
    obtain ⟨v2, hv2⟩ : ∃ v2, v2 = Value.slice p2 (cks.length - 3) c2 := ⟨_, rfl⟩
    rw [← hv2] at HTX
    have HV3 := Lib.hid hv2
    clear hv2
    have kbX : Blk wX b 75 [av, bv] := HTX.out.blk (by simp only [List.mem_cons, true_or, or_true])
    have kcX : Blk wX cb 75 [cav, cv2] := HTX.out.blk (by simp only [List.mem_cons, true_or, or_true])
    have oaX : Own wX 94 2 cav ces.length (enC ces) := HTX.out.own (by simp only [List.mem_cons, true_or, or_true])
    obtain ⟨x0, x1⟩ := pg_cells kbX
    obtain ⟨y0, y1⟩ := pg_cells kcX
    rw [HBV.out] at x1
    rw [HCAV.out] at y0 oaX
    obtain ⟨g', o', c', hv', hgaX, e0, e1⟩ := sl_en (k := 2) (oaX.sl (B := fun _ => True) (fun _ _ => trivial)) (by omega)
    cases hv'
    have hone : (ces[2]).val.oneCell' = true := oaX.2.1 _ (List.mem_of_getElem? (enC_at ces 2 (by omega)).2)
    have hpX : (rBs w1.heap.size (.slice p1 (ces.length - 3) c1) v2 :: rAs (.slice p1 (ces.length - 3) c1) (ces.drop 3) :: rKs v2 (cks.drop 3) :: rBs b av bv :: rAs av es :: rKs bv (l ++ .node cb cav ces cbv cks :: r) :: rBs cb cav cv2 :: rAs cav ces :: rKs cv2 (cks.take 3) :: R).Perm ([rBs b av bv, rAs av es] ++ (rBs w1.heap.size (.slice p1 (ces.length - 3) c1) v2 :: rAs (.slice p1 (ces.length - 3) c1) (ces.drop 3) :: rKs v2 (cks.drop 3) :: rKs bv (l ++ .node cb cav ces cbv cks :: r) :: rBs cb cav cv2 :: rAs cav ces :: rKs cv2 (cks.take 3) :: R)) := perm_of_cnt fun a => by simp only [cnt_append, cnt_cons, cnt_nil, rBs, rAs, rKs]; omega
    have HI := Lib.hid (insert_rs wX.drew b l.length av bv es ces[2] (HTX.out.drew.sepOf hpX) hone hl (by omega))
    have HP := Lib.hid hpX
    clear kbX kcX oaX hone hpX
    obtain ⟨me, hme⟩ : ∃ me, me = ces[2] := ⟨_, rfl⟩
    rw [← hme] at e0 e1 HI
    have HME := Lib.hid hme
    clear hme
    unfold ptrV at HI
    have hl2 : 2 < ces.length := by omega
    have hl2i : (2 : Int) < (ces.length : Int) := by omega
    refine wp_region_lit_plan [] [(0, 0), (1, 0), (2, 0), (3, 0), (4, 0), (5, 0), (6, 0), (7, 0), (9, 0), (8, 1), (10, 0), (11, 1), (12, 4)] (fun _ => False) (by kernel_rfl) (by kernel_rfl) (fun c a d v w h => by cases d <;> exact h) ?_
    go_wp2_with (first | (refine plan_pure (v := _) (by rfl) (by rfl) (by rfl) (by intro _; go_simp; with_reducible rfl) ?_; simp only [List.setIfInBounds_toArray, List.set_cons_zero, List.set_cons_succ]; try go_bits) | (refine plan_read (v := _) (by rfl) (by rfl) (by rfl) (by go_simp; with_reducible rfl) ?_; simp only [List.setIfInBounds_toArray, List.set_cons_zero, List.set_cons_succ]; try go_bits) | (refine plan_readB (v := _) (by rfl) (by rfl) (by rfl) (by intro _ hag; unfold Agree at hag; go_simp; with_reducible rfl) ?_; simp only [List.setIfInBounds_toArray, List.set_cons_zero, List.set_cons_succ]; try go_bits) | (refine plan_skip0 (by rfl) (by rfl) (by rfl) ?_; simp only [List.setIfInBounds_toArray, List.set_cons_zero, List.set_cons_succ]; try go_bits) | (refine plan_skip1 (by rfl) (by rfl) (by rfl) ?_; simp only [List.setIfInBounds_toArray, List.set_cons_zero, List.set_cons_succ]; try go_bits) | (refine plan_skip2 (by rfl) (by rfl) (by rfl) ?_; simp only [List.setIfInBounds_toArray, List.set_cons_zero, List.set_cons_succ]; try go_bits) | (refine plan_skip4 (by rfl) (by rfl) (by rfl) ?_; simp only [List.setIfInBounds_toArray, List.set_cons_zero, List.set_cons_succ]; try go_bits) | (refine plan_any (by rfl) ?_) | (refine plan_keep (by rfl) ?_) | (refine plan_nil ?_) | (with_reducible refine And.intro (by first | assumption | exact Agree.refl _ _ | exact agree_drew _ _ | exact agree_alloc _ (by intro k hk; subst hk; first | omega | (simp; omega))) ?_) | (unfold Act.put; simp only [List.setIfInBounds_toArray, List.set_cons_zero, List.set_cons_succ]))
    refine HI.out.mono ?_
    rintro e w6 ⟨rfl, av2, hT⟩
    have T6 := HTX.out.drew.use HP.out hT
    have kb6 : Blk w6 b 75 [av2, bv] := T6.blk (by simp only [List.mem_append, List.mem_cons, true_or, or_true])
    obtain ⟨w7, hw7⟩ : ∃ w7, w6.alloc (.cells #[.pointer (some ⟨w1.heap.size, 0, none⟩)] 69) = w7 := ⟨_, rfl⟩
    have hb67 : Below w6.heap.size w6 w7 := hw7 ▸ (Below.refl _ _).alloc (Nat.le_refl _) _
    have T7 := T6.below hb67
    have hkx : Blk w7 w6.heap.size 69 [.pointer (some ⟨w1.heap.size, 0, none⟩)] := hw7 ▸ Blk.new w6 _ _
    have hp7 : ([rBs b av2 bv, rAs av2 (insAt l.length me es)] ++ (rBs w1.heap.size (.slice p1 (ces.length - 3) c1) v2 :: rAs (.slice p1 (ces.length - 3) c1) (ces.drop 3) :: rKs v2 (cks.drop 3) :: rKs bv (l ++ .node cb cav ces cbv cks :: r) :: rBs cb cav cv2 :: rAs cav ces :: rKs cv2 (cks.take 3) :: R)).Perm (rKs bv (l ++ .node cb cav ces cbv cks :: r) :: (rBs b av2 bv :: rAs av2 (insAt l.length me es) :: rBs w1.heap.size (.slice p1 (ces.length - 3) c1) v2 :: rAs (.slice p1 (ces.length - 3) c1) (ces.drop 3) :: rKs v2 (cks.drop 3) :: rBs cb cav cv2 :: rAs cav ces :: rKs cv2 (cks.take 3) :: R)) := perm_of_cnt fun a => by simp only [cnt_append, cnt_cons, cnt_nil, rBs, rAs, rKs]; omega
    have T7 := T7.perm hp7
    have ok7 : Own w7 69 1 bv (l ++ .node cb cav ces cbv cks :: r).length (ptrs (l ++ .node cb cav ces cbv cks :: r)) := T7.own (by simp only [List.mem_cons, true_or, or_true])
    have ok6 : Own w6 69 1 bv (l ++ .node cb cav ces cbv cks :: r).length (ptrs (l ++ .node cb cav ces cbv cks :: r)) := T6.own (by simp only [List.mem_append, List.mem_cons, true_or, or_true])
    have HI2 := Lib.hid (insert_Ps w7 bv (l ++ .node cb cav ces cbv cks :: r).length (l.length + 1) (ptrs (l ++ .node cb cav ces cbv cks :: r)) [.pointer (some ⟨w1.heap.size, 0, none⟩)] w6.heap.size ok7 hkx rfl (Ones.cons rfl Ones.nil) (fun h => by have := ok6.lt _ h; omega) (by simp) (by rw [HNK.out]; omega))
    obtain ⟨x0, x1⟩ := pg_cells kb6
    rw [HBV.out] at x1
    have HT7 := Lib.hid T7
    have HW7 := Lib.hid hw7
    have hcast : ((l.length + 1 : Nat) : Int) = (l.length : Int) + 1 := by omega
    rw [hcast, HBV.out, HNK.out] at HI2
    clear hT T6 kb6 hkx hp7 T7 ok7 ok6 HI HTX y0 y1 e0 e1
    obtain ⟨z0, z1⟩ : w7.cell? ⟨b, 0, none⟩ = some av2 ∧ w7.cell? ⟨b, 1, none⟩ = some bv := pg_cells (HT7.out.blk (t := 75) (by simp only [List.mem_cons, true_or, or_true]))
    go_wp2_with (first | (refine plan_nil ?_))
    refine HI2.out.mono ?_
    rintro e w8 ⟨bv2, rfl, ho8, hon8, hf8⟩
    have hcs := ptrs_two l r (.node cb cav ces cbv cks) (P.node cb (.slice (some ⟨ga, offa, none⟩) 2 2) (ces.take 2) cv2 (cks.take 3)) (P.node w1.heap.size (.slice p1 (ces.length - 3) c1) (ces.drop 3) v2 (cks.drop 3)) rfl
    have hln : nk + 1 = (l ++ P.node cb (.slice (some ⟨ga, offa, none⟩) 2 2) (ces.take 2) cv2 (cks.take 3) :: P.node w1.heap.size (.slice p1 (ces.length - 3) c1) (ces.drop 3) v2 (cks.drop 3) :: r).length := by rw [← HNK.out]; simp; omega
    have ho8' : Own w8 69 1 bv2 (l ++ P.node cb (.slice (some ⟨ga, offa, none⟩) 2 2) (ces.take 2) cv2 (cks.take 3) :: P.node w1.heap.size (.slice p1 (ces.length - 3) c1) (ces.drop 3) v2 (cks.drop 3) :: r).length (ptrs (l ++ P.node cb (.slice (some ⟨ga, offa, none⟩) 2 2) (ces.take 2) cv2 (cks.take 3) :: P.node w1.heap.size (.slice p1 (ces.length - 3) c1) (ces.drop 3) v2 (cks.drop 3) :: r)) := by rw [← hln, ← hcs]; exact ho8
    rw [← HBV.out] at hon8 hf8
    have T8 := HT7.out.ownTo ho8' hon8 hf8
    obtain ⟨p8, c8, hbv2, _, _⟩ := own_form_Ps ho8
    have hp8 : (rKs bv2 (l ++ P.node cb (.slice (some ⟨ga, offa, none⟩) 2 2) (ces.take 2) cv2 (cks.take 3) :: P.node w1.heap.size (.slice p1 (ces.length - 3) c1) (ces.drop 3) v2 (cks.drop 3) :: r) :: rBs b av2 bv :: rAs av2 (insAt l.length me es) :: rBs w1.heap.size (.slice p1 (ces.length - 3) c1) v2 :: rAs (.slice p1 (ces.length - 3) c1) (ces.drop 3) :: rKs v2 (cks.drop 3) :: rBs cb cav cv2 :: rAs cav ces :: rKs cv2 (cks.take 3) :: R).Perm (rBs b av2 bv :: (rKs bv2 (l ++ P.node cb (.slice (some ⟨ga, offa, none⟩) 2 2) (ces.take 2) cv2 (cks.take 3) :: P.node w1.heap.size (.slice p1 (ces.length - 3) c1) (ces.drop 3) v2 (cks.drop 3) :: r) :: rAs av2 (insAt l.length me es) :: rBs w1.heap.size (.slice p1 (ces.length - 3) c1) v2 :: rAs (.slice p1 (ces.length - 3) c1) (ces.drop 3) :: rKs v2 (cks.drop 3) :: rBs cb cav cv2 :: rAs cav ces :: rKs cv2 (cks.take 3) :: R)) := perm_of_cnt fun a => by simp only [cnt_append, cnt_cons, cnt_nil, rBs, rAs, rKs]; omega
    have T8 := T8.perm hp8
    obtain ⟨w9, hw9⟩ : ∃ w9, w8.setCell ⟨b, 1, none⟩ bv2 = w9 := ⟨_, rfl⟩
    have T9 : Trk w F w9 (rBs b av2 bv2 :: (rKs bv2 (l ++ P.node cb (.slice (some ⟨ga, offa, none⟩) 2 2) (ces.take 2) cv2 (cks.take 3) :: P.node w1.heap.size (.slice p1 (ces.length - 3) c1) (ces.drop 3) v2 (cks.drop 3) :: r) :: rAs av2 (insAt l.length me es) :: rBs w1.heap.size (.slice p1 (ces.length - 3) c1) v2 :: rAs (.slice p1 (ces.length - 3) c1) (ces.drop 3) :: rKs v2 (cks.drop 3) :: rBs cb cav cv2 :: rAs cav ces :: rKs cv2 (cks.take 3) :: R)) := hw9 ▸ T8.blkSet 1 bv2
    have kb8 : Blk w8 b 75 [av2, bv] := T8.blk (by simp only [List.mem_cons, true_or, or_true])
    have kc9 : Blk w9 cb 75 [cav, cv2] := T9.blk (by simp only [List.mem_cons, true_or, or_true])
    obtain ⟨x0, x1⟩ := pg_cells kb8
    obtain ⟨y0, y1⟩ := pg_cells kc9
    have hf1 := kb8.frozen 1
    have hf2 := kc9.frozen 0
    rw [HCAV.out] at y0
    have HT9 := Lib.hid T9
    have HBV2 := Lib.hid hbv2
    subst hbv2
    clear T8 T9 kb8 kc9 hp8 ho8 ho8' hon8 hf8 hcs hln HI2 HT7 z0 z1 hw7 hcast
    have hca2 : 2 ≤ capa := by omega
    have hca2i : (2 : Int) ≤ (capa : Int) := by omega
    go_wp2_with fail
    clear hw9
    go_end0
    have hpA : (rBs b av2 (.slice p8 (nk + 1) c8) :: (rKs (.slice p8 (nk + 1) c8) (l ++ P.node cb (.slice (some ⟨ga, offa, none⟩) 2 2) (ces.take 2) cv2 (cks.take 3) :: P.node w1.heap.size (.slice p1 (ces.length - 3) c1) (ces.drop 3) v2 (cks.drop 3) :: r) :: rAs av2 (insAt l.length me es) :: rBs w1.heap.size (.slice p1 (ces.length - 3) c1) v2 :: rAs (.slice p1 (ces.length - 3) c1) (ces.drop 3) :: rKs v2 (cks.drop 3) :: rBs cb cav cv2 :: rAs cav ces :: rKs cv2 (cks.take 3) :: R)).Perm (rBs cb cav cv2 :: (rAs cav ces :: rBs b av2 (.slice p8 (nk + 1) c8) :: rKs (.slice p8 (nk + 1) c8) (l ++ P.node cb (.slice (some ⟨ga, offa, none⟩) 2 2) (ces.take 2) cv2 (cks.take 3) :: P.node w1.heap.size (.slice p1 (ces.length - 3) c1) (ces.drop 3) v2 (cks.drop 3) :: r) :: rAs av2 (insAt l.length me es) :: rBs w1.heap.size (.slice p1 (ces.length - 3) c1) v2 :: rAs (.slice p1 (ces.length - 3) c1) (ces.drop 3) :: rKs v2 (cks.drop 3) :: rKs cv2 (cks.take 3) :: R)) := perm_of_cnt fun a => by simp only [cnt_append, cnt_cons, cnt_nil, rBs, rAs, rKs]; omega
    have TA := (HT9.out.perm hpA).blkSet 0 (.slice (some ⟨ga, offa, none⟩) 2 2)
    generalize w9.setCell ⟨cb, 0, none⟩ (.slice (some ⟨ga, offa, none⟩) 2 2) = wA at *
    have TA : Trk w F wA (rBs cb (.slice (some ⟨ga, offa, none⟩) 2 2) cv2 :: (rAs cav ces :: rBs b av2 (.slice p8 (nk + 1) c8) :: rKs (.slice p8 (nk + 1) c8) (l ++ P.node cb (.slice (some ⟨ga, offa, none⟩) 2 2) (ces.take 2) cv2 (cks.take 3) :: P.node w1.heap.size (.slice p1 (ces.length - 3) c1) (ces.drop 3) v2 (cks.drop 3) :: r) :: rAs av2 (insAt l.length me es) :: rBs w1.heap.size (.slice p1 (ces.length - 3) c1) v2 :: rAs (.slice p1 (ces.length - 3) c1) (ces.drop 3) :: rKs v2 (cks.drop 3) :: rKs cv2 (cks.take 3) :: R)) := TA
    have hpB : (rBs cb (.slice (some ⟨ga, offa, none⟩) 2 2) cv2 :: (rAs cav ces :: rBs b av2 (.slice p8 (nk + 1) c8) :: rKs (.slice p8 (nk + 1) c8) (l ++ P.node cb (.slice (some ⟨ga, offa, none⟩) 2 2) (ces.take 2) cv2 (cks.take 3) :: P.node w1.heap.size (.slice p1 (ces.length - 3) c1) (ces.drop 3) v2 (cks.drop 3) :: r) :: rAs av2 (insAt l.length me es) :: rBs w1.heap.size (.slice p1 (ces.length - 3) c1) v2 :: rAs (.slice p1 (ces.length - 3) c1) (ces.drop 3) :: rKs v2 (cks.drop 3) :: rKs cv2 (cks.take 3) :: R)).Perm (rAs cav ces :: (rBs cb (.slice (some ⟨ga, offa, none⟩) 2 2) cv2 :: rBs b av2 (.slice p8 (nk + 1) c8) :: rKs (.slice p8 (nk + 1) c8) (l ++ P.node cb (.slice (some ⟨ga, offa, none⟩) 2 2) (ces.take 2) cv2 (cks.take 3) :: P.node w1.heap.size (.slice p1 (ces.length - 3) c1) (ces.drop 3) v2 (cks.drop 3) :: r) :: rAs av2 (insAt l.length me es) :: rBs w1.heap.size (.slice p1 (ces.length - 3) c1) v2 :: rAs (.slice p1 (ces.length - 3) c1) (ces.drop 3) :: rKs v2 (cks.drop 3) :: rKs cv2 (cks.take 3) :: R)) := perm_of_cnt fun a => by simp only [cnt_append, cnt_cons, cnt_nil, rBs, rAs, rKs]; omega
    have oaA : Own wA 94 2 cav ces.length (enC ces) := TA.own (by simp only [List.mem_cons, true_or, or_true])
    have hoA : Own wA 94 2 (.slice (some ⟨ga, offa, none⟩) 2 2) (ces.take 2).length (enC (ces.take 2)) := by
      rw [HCAV.out] at oaA
      have h1 := oaA.cut (m := 2) (c := 2) (by omega) (by omega) (by omega)
      rw [(enC_td ces 2).1] at h1
      have h2 : (ces.take 2).length = 2 := by rw [List.length_take]; omega
      rw [h2]
      exact h1
    have TB := (TA.perm hpB).swap (r' := rAs (.slice (some ⟨ga, offa, none⟩) 2 2) (ces.take 2)) hoA (show (Value.slice (some ⟨ga, offa, none⟩) 2 2).ownBlock.toList.Nodup from ownBlock_nodup _) (fun k hk => by
      have h1 : k = ga := by simpa [Res.own, Value.ownBlock] using hk
      simp [Res.own, HCAV.out, Value.ownBlock, h1])
    refine ⟨rfl, P.node b av2 (insAt l.length me es) (.slice p8 (nk + 1) c8) (l ++ P.node cb (.slice (some ⟨ga, offa, none⟩) 2 2) (ces.take 2) cv2 (cks.take 3) :: P.node w1.heap.size (.slice p1 (ces.length - 3) c1) (ces.drop 3) v2 (cks.drop 3) :: r), rfl, ?_, TB.perm ?_⟩
    · rw [P.t_node, P.t_node, splitT]
      have hmid : midT (T.node ces (cks.map P.t)) = me := by
        rw [HME.out]
        unfold midT T.es
        rw [List.getD_eq_getElem?_getD, List.getElem?_eq_getElem hl2]; rfl
      rw [hmid]
      congr 1
      rw [List.map_append, List.map_append, List.map_cons, List.map_cons, List.map_cons, List.take_left' (by simp), drop_len1 (by simp), P.t_node, P.t_node]
      unfold leftT rightT T.es T.ts
      simp only [List.map_take, List.map_drop]
    · refine perm_of_cnt fun a => ?_
      rw [pres_s, presLs, P.resL_append, P.resL_cons, P.resL_cons, P.res_node, P.res_node]
      simp only [cnt_append, cnt_cons, cnt_nil, rBs, rAs, rKs, HRR.out a, presLs]
      omega
end Go.Proofs.Ytfnndifckgjmjaa
/- Pages: put. -/
namespace Go.Proofs.Ytfnndifckgjmjaa
open Go.RowKit Go.Afx

theorem vv_one_s (z : ByteArray) : Value.oneCell' (.string z) = true := rfl
set_option maxRecDepth 100000 in
set_option maxHeartbeats 4000000 in
theorem put_hit_s (w : World) (b : Nat) (av bv : Value) (es : List En) (ks : List P) (k : Key) (z : ByteArray) (hs : Sep w (press (.node b av es bv ks))) (hr : Rise es) (hn : es.length ≤ 1000000) (hh : has k es = true) :
    Calls Try.prog 31 #[ptrV b, .string (kb k), (.string z)] w fun e w' => ∃ x, es[pos k es]? = some x ∧ e = .returned (.tuple #[x.val, .bool true]) ∧ Trk w (feet (press (.node b av es bv ks))) w' (press (.node b av (es.set (pos k es) ⟨k, (.string z)⟩) bv ks)) := by
  have T0 := Trk.start hs
  generalize hF : feet (press (.node b av es bv ks)) = F at *
  rw [pres_s] at T0
  obtain ⟨hpl, hkey⟩ := has_at.1 hh
  have kb0 : Blk w b 75 [av, bv] := T0.blk (by simp only [List.mem_cons, true_or, or_true])
  have oa : Own w 94 2 av es.length (enC es) := T0.own (by simp only [List.mem_cons, true_or, or_true])
  have HFD := Lib.hid (find_s w b _ av bv es k (fun _ => True) kb0 (oa.sl (B := fun _ => True) (fun _ _ => trivial)) hr (by omega))
  rw [hh] at HFD
  have HST : Hid (∀ (w2 : World) (g off cap : Nat), av = .slice (some ⟨g, off, none⟩) es.length cap → Own w2 94 2 av es.length (enC es) → Own (w2.setCell ⟨g, off + (pos k es * 2 + 1), none⟩ (.string z)) 94 2 av (es.set (pos k es) ⟨k, (.string z)⟩).length (enC (es.set (pos k es) ⟨k, (.string z)⟩))) := fun w2 g off cap hv ho => by
    rw [hv] at ho ⊢
    have h1 := ho.store (j := pos k es * 2 + 1) (.string z) rfl
    rw [List.length_set, enC_set es (pos k es) ⟨k, (.string z)⟩ hpl hkey.symm]
    exact h1
  have hx : es[pos k es]? = some es[pos k es] := List.getElem?_eq_getElem hpl
  obtain ⟨g, off, cap, hav, hg, _, _⟩ := sl_en (oa.sl (B := fun _ => True) (fun _ _ => trivial)) hpl
  have HX := Lib.hid hx
  have HE := Lib.hid (fun (w2 : World) (h : Own w2 94 2 av es.length (enC es)) => sl_en (h.sl (B := fun _ => True) (fun _ _ => trivial)) hpl)
  generalize es.set (pos k es) ⟨k, (.string z)⟩ = es2 at *
  generalize es[pos k es] = x at *
  generalize pos k es = i at *
  have HT0 := Lib.hid T0
  have HAV := Lib.hid hav
  unfold ptrV
  obtain ⟨x0, x1⟩ := pg_cells kb0
  rw [hav] at x0
  have hbl := kb0.lt
  unfold ptrV at HFD
  clear T0 kb0 oa hkey hx hh hs hF hr
  go_enter Try.func31, Try.ntmps31
  go_wp2_with fail
  refine HFD.out.mono ?_
  clear HFD
  rintro e w2 ⟨rfl, hb2⟩
  have T2 := HT0.out.below hb2
  have kb2 : Blk w2 b 75 [av, bv] := T2.blk (by simp only [List.mem_cons, true_or, or_true])
  have oa2 : Own w2 94 2 av es.length (enC es) := T2.own (by simp only [List.mem_cons, true_or, or_true])
  obtain ⟨g', off', cap', hv', hg2, e0, e1⟩ := HE.out w2 oa2
  rw [hav] at hv'
  cases hv'
  obtain ⟨y0, y1⟩ := pg_cells kb2
  rw [hav] at y0
  have hfz : w2.frozen? ⟨g, off + i * 2 + 1, none⟩ = false := by
    rw [hav] at oa2
    have h1 := (oa2.cellAt (j := i * 2 + 1) (by omega)).2
    rwa [← Nat.add_assoc] at h1
  have HT2 := Lib.hid T2
  clear T2 kb2 oa2 hb2 x0 x1 hav
  go_wp2_with fail
  refine wp_region_lit_plan [] [(0, 0), (1, 0), (2, 0), (3, 0), (5, 0), (6, 0), (7, 0), (8, 0), (9, 0), (11, 0), (15, 0), (4, 1), (10, 1), (12, 0), (13, 0), (14, 1), (16, 0), (17, 0), (18, 0), (19, 4)] (fun _ => False) (by kernel_rfl) (by kernel_rfl) (fun c a d v w h => by cases d <;> exact h) ?_
  go_wp2_with (first | (refine plan_pure (v := _) (by rfl) (by rfl) (by rfl) (by intro _; go_simp; with_reducible rfl) ?_; simp only [List.setIfInBounds_toArray, List.set_cons_zero, List.set_cons_succ]; try go_bits) | (refine plan_read (v := _) (by rfl) (by rfl) (by rfl) (by go_simp; with_reducible rfl) ?_; simp only [List.setIfInBounds_toArray, List.set_cons_zero, List.set_cons_succ]; try go_bits) | (refine plan_readB (v := _) (by rfl) (by rfl) (by rfl) (by intro _ hag; unfold Agree at hag; go_simp; with_reducible rfl) ?_; simp only [List.setIfInBounds_toArray, List.set_cons_zero, List.set_cons_succ]; try go_bits) | (refine plan_skip0 (by rfl) (by rfl) (by rfl) ?_; simp only [List.setIfInBounds_toArray, List.set_cons_zero, List.set_cons_succ]; try go_bits) | (refine plan_skip1 (by rfl) (by rfl) (by rfl) ?_; simp only [List.setIfInBounds_toArray, List.set_cons_zero, List.set_cons_succ]; try go_bits) | (refine plan_skip2 (by rfl) (by rfl) (by rfl) ?_; simp only [List.setIfInBounds_toArray, List.set_cons_zero, List.set_cons_succ]; try go_bits) | (refine plan_skip4 (by rfl) (by rfl) (by rfl) ?_; simp only [List.setIfInBounds_toArray, List.set_cons_zero, List.set_cons_succ]; try go_bits) | (refine plan_any (by rfl) ?_) | (refine plan_keep (by rfl) ?_) | (refine plan_nil ?_) | (with_reducible refine And.intro (by first | assumption | exact Agree.refl _ _ | exact agree_drew _ _ | exact agree_alloc _ (by intro k hk; subst hk; first | omega | (simp; omega))) ?_) | (unfold Act.put; simp only [List.setIfInBounds_toArray, List.set_cons_zero, List.set_cons_succ]))
  have hadr : (⟨g, off + (i * 2 + 1), none⟩ : Addr) = ⟨g, off + i * 2 + 1, none⟩ := rfl
  have ho := HST.out w2 g off cap HAV.out (HT2.out.own (by simp only [List.mem_cons, true_or, or_true]))
  rw [hadr] at ho
  have T3 := (HT2.out.perm (perm_of_cnt (y := rAs av es :: (rBs b av bv :: rKs bv ks :: presLs ks)) fun a => by simp only [cnt_append, cnt_cons, cnt_nil, rBs, rAs, rKs]; omega)).one (w' := w2.setCell ⟨g, off + i * 2 + 1, none⟩ (.string z)) (r' := rAs av es2) ho (show av.ownBlock.toList.Nodup from ownBlock_nodup av) (fun k hk => .inl hk)
    (Only.setCell (Only.refl _ _) (p := ⟨g, off + i * 2 + 1, none⟩) (fun _ => by simp [Res.own, HAV.out, Value.ownBlock]) _)
  have T4 := T3.drew.perm (perm_of_cnt (y := press (.node b av es2 bv ks)) fun a => by rw [pres_s]; simp only [cnt_append, cnt_cons, cnt_nil, rBs, rAs, rKs]; omega)
  exact bodyPost_ret (v := .tuple #[x.val, .bool true]) (by simp [results, Try.results31, go_sem]) rfl ⟨x, HX.out, rfl, T4⟩
set_option maxRecDepth 100000 in
set_option maxHeartbeats 4000000 in
theorem put_leaf_s (w : World) (b : Nat) (av bv : Value) (es : List En) (k : Key) (z : ByteArray) (hs : Sep w (press (.node b av es bv []))) (hr : Rise es) (hn : es.length ≤ 1000000) (hh : has k es = false) :
    Calls Try.prog 31 #[ptrV b, .string (kb k), (.string z)] w fun e w' => e = .returned (.tuple #[(.string ⟨#[]⟩), .bool false]) ∧ ∃ av', Trk w (feet (press (.node b av es bv []))) w' (press (.node b av' (insAt (pos k es) ⟨k, (.string z)⟩ es) bv [])) := by
  have T0 := Trk.start hs
  generalize hF : feet (press (.node b av es bv [])) = F at *
  rw [pres_s] at T0
  have kb0 : Blk w b 75 [av, bv] := T0.blk (by simp only [List.mem_cons, true_or, or_true])
  have oa : Own w 94 2 av es.length (enC es) := T0.own (by simp only [List.mem_cons, true_or, or_true])
  have ok : Own w 69 1 bv ([] : List P).length (ptrs []) := T0.own (by simp only [List.mem_cons, true_or, or_true])
  obtain ⟨pk, ck, hbv, _, _⟩ := own_form_Ps ok
  have hpl := pos_le k es
  have HFD := Lib.hid (find_s w b _ av bv es k (fun _ => True) kb0 (oa.sl (B := fun _ => True) (fun _ _ => trivial)) hr (by omega))
  rw [hh] at HFD
  have HBV := Lib.hid hbv
  generalize pos k es = i at *
  have HT0 := Lib.hid T0
  have hbl := kb0.lt
  unfold ptrV at HFD ⊢
  clear T0 kb0 oa ok hh hs hF hr hbv
  go_enter Try.func31, Try.ntmps31
  go_wp2_with fail
  refine HFD.out.mono ?_
  clear HFD
  rintro e w2 ⟨rfl, hb2⟩
  have T2 := HT0.out.below hb2
  have kb2 : Blk w2 b 75 [av, bv] := T2.blk (by simp only [List.mem_cons, true_or, or_true])
  have HLF := Lib.hid (leaf_s w2 b _ av pk 0 ck (HBV.out ▸ kb2))
  have hp2 : (rBs b av bv :: rAs av es :: rKs bv [] :: presLs []).Perm ([rBs b av bv, rAs av es] ++ (rKs bv [] :: presLs [])) := perm_of_cnt fun a => by simp only [cnt_append, cnt_cons, cnt_nil, rBs, rAs, rKs]; omega
  have HI := Lib.hid (insert_rs w2 b i av bv es ⟨k, (.string z)⟩ (T2.sepOf hp2) rfl hpl (by omega))
  have HT2 := Lib.hid T2
  have HP2 := Lib.hid hp2
  unfold ptrV at HLF HI
  simp only at HI
  clear T2 kb2 hp2 hb2
  go_wp2_with fail
  refine HLF.out.mono ?_
  rintro e wq ⟨rfl, hq⟩
  subst hq
  go_wp2_with fail
  refine HI.out.mono ?_
  rintro e w3 ⟨rfl, av2, hT3⟩
  go_wp2
  have T3 := (HT2.out.use HP2.out hT3).perm (perm_of_cnt (y := press (.node b av2 (insAt i ⟨k, (.string z)⟩ es) bv [])) fun a => by rw [pres_s]; simp only [cnt_append, cnt_cons, cnt_nil, rBs, rAs, rKs]; omega)
  exact bodyPost_ret (v := .tuple #[(.string ⟨#[]⟩), .bool false]) (by simp [results, Try.results31, go_sem]) rfl ⟨rfl, av2, T3⟩
end Go.Proofs.Ytfnndifckgjmjaa
/- Pages: put, below. -/
namespace Go.Proofs.Ytfnndifckgjmjaa
open Go.RowKit Go.Afx

set_option maxRecDepth 100000 in
set_option maxHeartbeats 4000000 in
theorem put_in_s (w : World) (b : Nat) (av bv : Value) (es : List En) (kl : List P) (kc : P) (kr : List P) (k : Key) (z : ByteArray) (hs : Sep w (press (.node b av es bv (kl ++ kc :: kr)))) (hr : Rise es) (hn : es.length ≤ 1000000) (hkn : (kl ++ kc :: kr).length ≤ 1000000) (hh : has k es = false)
    (hl : kl.length = pos k es) (x : Value) (y : Bool) (t' : T)
    (hc : ∀ w2, Sep w2 (press kc) → Calls Try.prog 31 #[ptrV kc.blk, .string (kb k), (.string z)] w2 fun e w' => e = .returned (.tuple #[x, .bool y]) ∧ ∃ p', p'.blk = kc.blk ∧ p'.t = t' ∧ Trk w2 (feet (press kc)) w' (press p'))
    (hsh : t'.ts = [] ∨ t'.ts.length = t'.es.length + 1) (hn1 : t'.es.length ≤ 100000) :
    Calls Try.prog 31 #[ptrV b, .string (kb k), (.string z)] w fun e w' => e = .returned (.tuple #[x, .bool y]) ∧ ∃ p', p'.blk = b ∧ p'.t = (if 5 < t'.es.length then splitT kl.length es ((kl ++ kc :: kr).map P.t) t' else .node es (kl.map P.t ++ t' :: kr.map P.t)) ∧
      Trk w (feet (press (.node b av es bv (kl ++ kc :: kr)))) w' (press p') := by
  have T0 := Trk.start hs
  generalize hF : feet (press (.node b av es bv (kl ++ kc :: kr))) = F at *
  have hp0 : (press (.node b av es bv (kl ++ kc :: kr))).Perm (rBs b av bv :: rAs av es :: rKs bv (kl ++ kc :: kr) :: (press kc ++ (presLs kl ++ presLs kr))) := by
    exact perm_of_cnt fun a => by simp only [cnt_append, cnt_cons, cnt_nil, press, presLs, rBs, rAs, rKs, P.resL_append, P.resL_cons, P.res_node]; omega
  have T0 := T0.perm hp0
  have kb0 : Blk w b 75 [av, bv] := T0.blk (by simp only [List.mem_cons, true_or, or_true])
  have oa : Own w 94 2 av es.length (enC es) := T0.own (by simp only [List.mem_cons, true_or, or_true])
  have ok : Own w 69 1 bv (kl ++ kc :: kr).length (ptrs (kl ++ kc :: kr)) := T0.own (by simp only [List.mem_cons, true_or, or_true])
  have hle : kl.length ≤ es.length := by rw [hl]; exact pos_le k es
  have HFD := Lib.hid (find_s w b _ av bv es k (fun _ => True) kb0 (oa.sl (B := fun _ => True) (fun _ _ => trivial)) hr (by omega))
  rw [hh, ← hl] at HFD
  clear hl
  have HPT := Lib.hid (fun (w2 : World) (h : Own w2 69 1 bv (kl ++ kc :: kr).length (ptrs (kl ++ kc :: kr))) => sl_ptr (k := kl.length) (h.sl (B := fun _ => True) (fun _ _ => trivial)) (by simp))
  have hcl : (kl ++ kc :: kr)[kl.length]'(by simp) = kc := by simp
  rw [hcl] at HPT
  obtain ⟨gk, offk, capk, hbv, hgk, p0⟩ := HPT.out w ok
  obtain ⟨nk, hnk⟩ : ∃ nk, (kl ++ kc :: kr).length = nk := ⟨_, rfl⟩
  rw [hnk] at hbv hkn
  have hlnk : kl.length < nk := by rw [← hnk]; simp
  have hnk0 : ¬ nk = 0 := by omega
  have HNK := Lib.hid hnk
  have HBV := Lib.hid hbv
  have HT0 := Lib.hid T0
  have hbl := kb0.lt
  clear T0 kb0 oa ok hh hs hF hr hbv hcl p0 hp0 hnk
  unfold ptrV at HFD hc ⊢
  go_enter Try.func31, Try.ntmps31
  go_wp2_with fail
  refine HFD.out.mono ?_
  clear HFD
  rintro e w2 ⟨rfl, hb2⟩
  have T2 := HT0.out.below hb2
  have kb2 : Blk w2 b 75 [av, bv] := T2.blk (by simp only [List.mem_cons, true_or, or_true])
  have ok2 : Own w2 69 1 bv (kl ++ kc :: kr).length (ptrs (kl ++ kc :: kr)) := T2.own (by simp only [List.mem_cons, true_or, or_true])
  have hlf := leaf_s w2 b _ av (some ⟨gk, offk, none⟩) nk capk (HBV.out ▸ kb2)
  rw [decide_eq_false hnk0] at hlf
  have HLF := Lib.hid hlf
  unfold ptrV at HLF
  obtain ⟨g', off', cap', hv', hg2, p0⟩ := HPT.out w2 ok2
  rw [HBV.out] at hv'
  have hv2 : Value.slice (some ⟨gk, offk, none⟩) nk capk = Value.slice (some ⟨g', off', none⟩) nk cap' := by rw [hv', HNK.out]
  cases hv2
  obtain ⟨y0, y1⟩ := pg_cells kb2
  rw [HBV.out] at y1
  have hp2 : (rBs b av bv :: rAs av es :: rKs bv (kl ++ kc :: kr) :: (press kc ++ (presLs kl ++ presLs kr))).Perm (press kc ++ (rBs b av bv :: rAs av es :: rKs bv (kl ++ kc :: kr) :: (presLs kl ++ presLs kr))) := perm_of_cnt fun a => by simp only [cnt_append, cnt_cons, cnt_nil, press, presLs, rBs, rAs, rKs, P.resL_append, P.resL_cons, P.res_node]; omega
  have HC := Lib.hid (hc w2 (T2.sepOf hp2))
  have HT2 := Lib.hid T2
  have HP2 := Lib.hid hp2
  unfold ptrV at p0
  clear T2 kb2 ok2 hlf hp2 hb2 hv' hc
  go_wp2_with fail
  refine HLF.out.mono ?_
  rintro e wq ⟨rfl, hq⟩
  subst hq
  go_wp2_with fail
  refine HC.out.mono ?_
  rintro e w3 ⟨rfl, p', hpb, hpt, hT3⟩
  have T3 := HT2.out.use HP2.out hT3
  obtain ⟨cb, cav, ces, cbv, cks, rfl⟩ := P.eta p'
  obtain rfl : cb = kc.blk := hpb
  have hptr : ptrs (kl ++ .node kc.blk cav ces cbv cks :: kr) = ptrs (kl ++ kc :: kr) := by simp [ptrs, P.blk]
  have hlen : (kl ++ P.node kc.blk cav ces cbv cks :: kr).length = (kl ++ kc :: kr).length := by simp
  have hp3 : (press (.node kc.blk cav ces cbv cks) ++ (rBs b av bv :: rAs av es :: rKs bv (kl ++ kc :: kr) :: (presLs kl ++ presLs kr))).Perm (press (.node b av es bv (kl ++ .node kc.blk cav ces cbv cks :: kr))) := by
    exact perm_of_cnt fun a => by simp only [cnt_append, cnt_cons, cnt_nil, press, presLs, rBs, rAs, rKs, P.resL_append, P.resL_cons, P.res_node, hptr, hlen]; omega
  have T4 := T3.perm hp3
  have hp4 : (press (.node b av es bv (kl ++ .node kc.blk cav ces cbv cks :: kr))).Perm (rBs b av bv :: rKs bv (kl ++ .node kc.blk cav ces cbv cks :: kr) :: rBs kc.blk cav cbv :: rAs cav ces :: (rAs av es :: rKs cbv cks :: (presLs cks ++ (presLs kl ++ presLs kr)))) := by
    exact perm_of_cnt fun a => by simp only [cnt_append, cnt_cons, cnt_nil, press, presLs, rBs, rAs, rKs, P.resL_append, P.resL_cons, P.res_node]; omega
  have T5 := T4.perm hp4
  have kb3 : Blk w3 b 75 [av, bv] := T5.blk (by simp only [List.mem_cons, true_or, or_true])
  have kc3 : Blk w3 kc.blk 75 [cav, cbv] := T5.blk (by simp only [List.mem_cons, true_or, or_true])
  have oc3 : Own w3 94 2 cav ces.length (enC ces) := T5.own (by simp only [List.mem_cons, true_or, or_true])
  have ok3 : Own w3 69 1 bv (kl ++ .node kc.blk cav ces cbv cks :: kr).length (ptrs (kl ++ .node kc.blk cav ces cbv cks :: kr)) := T5.own (by simp only [List.mem_cons, true_or, or_true])
  rw [hptr, hlen] at ok3
  obtain ⟨g', off', cap', hv', hg3, q0⟩ := HPT.out w3 ok3
  rw [HBV.out, HNK.out] at hv'
  cases hv'
  obtain ⟨pc, cc, hcav, hcc1, hcc2⟩ := own_form_Es oc3
  obtain ⟨x0, x1⟩ := pg_cells kb3
  obtain ⟨z0, z1⟩ := pg_cells kc3
  rw [HBV.out] at x1
  rw [hcav] at z0
  unfold ptrV at q0
  rw [P.t_node] at hpt
  subst hpt
  have hsh : cks = [] ∨ cks.length = ces.length + 1 := by
    rcases hsh with h | h
    · left; simpa [T.ts] using h
    · right; simpa [T.ts, T.es] using h
  have hn1 : ces.length ≤ 100000 := hn1
  have HT4 := Lib.hid T4
  have HH := Lib.hid hlen
  clear T3 T4 T5 hp3 hp4 hT3 kb3 kc3 oc3 ok3 hptr p0 y0 y1 hcav hlen HC HLF HT2 HP2 HT0
  simp only [T.es]
  by_cases h5 : 5 < ces.length
  · have h5i : (5 : Int) < (ces.length : Int) := by omega
    have HSP := Lib.hid (split_s w3 b av bv es kl kr kc.blk cav cbv ces cks HT4.out.sep hle (by omega) (by rcases hsh with h | h; exact .inl h; exact .inr (by omega)) hn (by omega) (by rw [HH.out, HNK.out]; omega) (by rcases hsh with h | h; (rw [h]; simp); omega))
    unfold ptrV at HSP
    go_wp2_with fail
    refine HSP.out.mono ?_
    rintro e w4 ⟨rfl, p', hpb2, hpt2, hT4⟩
    have T6 := HT4.out.use (cal := press (.node b av es bv (kl ++ .node kc.blk cav ces cbv cks :: kr))) (rest := []) (by rw [List.append_nil]) hT4
    rw [List.append_nil] at T6
    have HT6 := Lib.hid T6
    have HPT2 := Lib.hid hpt2
    have HPB2 := Lib.hid hpb2
    clear hT4 T6 hpt2 hpb2
    go_wp2
    refine bodyPost_ret (v := .tuple #[x, .bool y]) ?_ rfl ⟨rfl, p', HPB2.out, ?_, HT6.out⟩
    · simp [results, Try.results31, go_sem]
    · rw [HPT2.out, P.t_node]
      unfold splitT
      congr 1
      simp only [List.map_append, List.map_cons]
      rw [List.take_left' (by simp), List.take_left' (by simp), drop_len1 (by simp), drop_len1 (by simp)]
  · have h5i : ¬ (5 : Int) < (ces.length : Int) := by omega
    go_wp2
    refine bodyPost_ret (v := .tuple #[x, .bool y]) ?_ rfl ⟨rfl, _, rfl, ?_, HT4.out⟩
    · simp [results, Try.results31, go_sem]
    · rw [P.t_node, List.map_append, List.map_cons, P.t_node]

theorem put_any_s (k : Key) (z : ByteArray) : ∀ (d m : Nat) (w : World) (p : P), m ≤ 2 → Fat m d p.t → Rise p.t.flat → p.t.flat.length ≤ 99999 → Sep w (press p) →
    Calls Try.prog 31 #[ptrV p.blk, .string (kb k), (.string z)] w fun e w' => e = .returned (.tuple #[(Afx.look k p.t.flat).getD (.string ⟨#[]⟩), .bool (Afx.look k p.t.flat).isSome]) ∧ ∃ p', p'.blk = p.blk ∧ p'.t = putT k (.string z) d p.t ∧ Trk w (feet (press p)) w' (press p') := by
  intro d
  induction d with
  | zero =>
    intro m w p hm hf hr hn hs
    obtain ⟨b, av, es, bv, ks, rfl⟩ := P.eta p
    rw [P.t_node] at hf hr hn ⊢
    have hk0 : ks = [] := by simpa using hf.2
    subst hk0
    simp only [List.map_nil] at *
    rw [flat_leaf] at *
    have hn2 : es.length ≤ 99999 := hn
    obtain ⟨a, b', hlf⟩ := leaf_page (k := k) (es := es) (by rw [flat_leaf]; exact hr)
    have hlk := hlf.look
    cases hh : has k es
    · refine (put_leaf_s w b av bv es k z hs hr (by omega) hh).mono ?_
      rintro e w' ⟨rfl, av', hT⟩
      rw [hlk.2 hh]
      refine ⟨rfl, .node b av' (insAt (pos k es) ⟨k, (.string z)⟩ es) bv [], rfl, ?_, hT⟩
      rw [P.t_node, putT, if_neg (by rw [hh]; simp)]; rfl
    · refine (put_hit_s w b av bv es [] k z hs hr (by omega) hh).mono ?_
      rintro e w' ⟨x, hx, rfl, hT⟩
      obtain ⟨x2, hx2, _, hl2⟩ := hlk.1 hh
      rw [hx] at hx2
      cases hx2
      rw [hl2]
      refine ⟨rfl, .node b av (es.set (pos k es) ⟨k, (.string z)⟩) bv [], rfl, ?_, hT⟩
      rw [P.t_node, putT, if_pos hh]; rfl
  | succ d ih =>
    intro m w p hm hf hr hn hs
    obtain ⟨b, av, es, bv, ks, rfl⟩ := P.eta p
    rw [P.t_node] at hf hr hn ⊢
    obtain ⟨hf1, hf2, hf3⟩ := hf
    have hel : es.length ≤ 99999 := by
      have h1 := (es_sublist es (ks.map P.t)).length_le
      rw [← flat_node] at h1
      omega
    have hkl : ks.length = es.length + 1 := by simpa using hf2
    obtain ⟨a, bb, l, c, r, hsp, hg⟩ := split_page (k := k) hr hf2
    have hlk := hsp.look
    have hres := hr.es
    cases hh : has k es
    · have hpl : pos k es < ks.length := by have := pos_le k es; omega
      have hcm : (ks[pos k es]).t = c := by
        rw [List.getElem?_map, List.getElem?_eq_getElem hpl] at hg
        simpa using hg
      have hks : ks = ks.take (pos k es) ++ ks[pos k es] :: ks.drop (pos k es + 1) := by rw [← List.drop_eq_getElem_cons hpl, List.take_append_drop]
      have hkll : (ks.take (pos k es)).length = pos k es := by rw [List.length_take]; omega
      generalize hkc : ks[pos k es] = kc at *
      generalize ks.take (pos k es) = kl at *
      generalize ks.drop (pos k es + 1) = kr at *
      subst hks
      have hfl := hsp.fl
      have hr2 : Rise c.flat := by rw [hfl] at hr; exact hr.right.left
      have hn2 : c.flat.length ≤ 99999 := by rw [hfl] at hn; simp at hn; omega
      have hfc : Fat 2 d c := hf3 c (by rw [← hcm, List.mem_map]; exact ⟨kc, by simp, rfl⟩)
      obtain ⟨hpf, hpfl⟩ := put_fat k (.string z) d 2 c hr2 hfc (Nat.le_refl _)
      have hn3 : (putT k (.string z) d c).es.length ≤ 100000 := by
        have h1 : (putT k (.string z) d c).es.length ≤ (putT k (.string z) d c).flat.length := by
          cases hq : putT k (.string z) d c with
          | node es' ts' => rw [flat_node]; exact (es_sublist es' ts').length_le
        rw [hpfl] at h1
        have := ins_length k (.string z) c.flat
        omega
      have hsh : (putT k (.string z) d c).ts = [] ∨ (putT k (.string z) d c).ts.length = (putT k (.string z) d c).es.length + 1 := by rcases hpf.shape with ⟨_, h⟩ | ⟨_, h⟩ <;> simp [h]
      refine (put_in_s w b av bv es kl kc kr k z hs hres (by omega) (by omega) hh hkll ((Afx.look k c.flat).getD (.string ⟨#[]⟩)) (Afx.look k c.flat).isSome (putT k (.string z) d c) (fun w2 hs2 => ?_) hsh hn3).mono ?_
      · have h1 := ih 2 w2 kc (Nat.le_refl _) (hcm ▸ hfc) (hcm ▸ hr2) (hcm ▸ hn2) hs2
        rw [hcm] at h1
        exact h1
      · rintro e w' ⟨rfl, p', hb', ht', hT⟩
        rw [hlk.2 hh]
        refine ⟨rfl, p', hb', ?_, hT⟩
        have hput : putT k (.string z) (d + 1) (.node es ((kl ++ kc :: kr).map P.t)) = if 5 < (putT k (.string z) d c).es.length then splitT (pos k es) es ((kl ++ kc :: kr).map P.t) (putT k (.string z) d c) else .node es (((kl ++ kc :: kr).map P.t).set (pos k es) (putT k (.string z) d c)) := by
          rw [putT, if_neg (by rw [hh]; simp), hg]
        rw [ht', hput, hkll]
        split
        · rfl
        · congr 1
          rw [List.map_append, List.map_cons, set_len (by rw [List.length_map]; exact hkll)]
    · refine (put_hit_s w b av bv es ks k z hs hres (by omega) hh).mono ?_
      rintro e w' ⟨x, hx, rfl, hT⟩
      obtain ⟨x2, hx2, _, hl2⟩ := hlk.1 hh
      rw [hx] at hx2
      cases hx2
      rw [hl2]
      refine ⟨rfl, .node b av (es.set (pos k es) ⟨k, (.string z)⟩) bv ks, rfl, ?_, hT⟩
      rw [P.t_node, putT, if_pos hh]
end Go.Proofs.Ytfnndifckgjmjaa
/- Trees: New, Len, Put. -/
namespace Go.Proofs.Ytfnndifckgjmjaa
open Go.RowKit Go.Afx

abbrev rTs (tb : Nat) (p : P) (n : Nat) : Res := Res.blk tb 77 [ptrV p.blk, .int .i64 (n : Int)]
/-- What a tree holds. -/
abbrev trss (tb : Nat) (p : P) (n : Nat) : List Res := rTs tb p n :: press p
set_option maxRecDepth 100000 in
set_option maxHeartbeats 1000000 in
theorem new_s (w : World) : Calls Try.prog 14 #[] w fun e w' => ∃ tb p, e = .returned (ptrV tb) ∧ p.t = .node [] [] ∧ Trk w [] w' (trss tb p 0) := by
  obtain ⟨w1, hw1⟩ : ∃ w1, w.alloc (.cells #[.slice none 0 0, .slice none 0 0] 75) = w1 := ⟨_, rfl⟩
  obtain ⟨w2, hw2⟩ : ∃ w2, w1.alloc (.cells #[.pointer (some ⟨w.heap.size, 0, none⟩), .int .i64 0] 77) = w2 := ⟨_, rfl⟩
  have b1 : Below w.heap.size w w1 := hw1 ▸ (Below.refl _ _).alloc (Nat.le_refl _) _
  have b2 : Below w1.heap.size w1 w2 := hw2 ▸ (Below.refl _ _).alloc (Nat.le_refl _) _
  have T0 : Trk w [] w [] := ⟨⟨fun _ h => absurd h (by simp), List.nodup_nil⟩, Only.refl _ _, fun k hk => by simp [feet] at hk⟩
  have T1 := T0.new (r := rKs (.slice none 0 0) []) (Own.nil _ _ _) (by simp [Res.own, Value.ownBlock]) (by simp [Res.own, Value.ownBlock]) (Below.refl _ _)
  have T2 := T1.new (r := rAs (.slice none 0 0) []) (Own.nil _ _ _) (by simp [Res.own, Value.ownBlock]) (by simp [Res.own, Value.ownBlock]) (Below.refl _ _)
  have k1 : Blk w1 w.heap.size 75 [.slice none 0 0, .slice none 0 0] := hw1 ▸ Blk.new w _ _
  have T3 := T2.new (r := rBs w.heap.size (.slice none 0 0) (.slice none 0 0)) k1 (by simp [Res.blk]) (by simp [Res.blk]) b1
  have k2 : Blk w2 w1.heap.size 77 [.pointer (some ⟨w.heap.size, 0, none⟩), .int .i64 0] := hw2 ▸ Blk.new w1 _ _
  have T4 := T3.new (r := rTs w1.heap.size (.node w.heap.size (.slice none 0 0) [] (.slice none 0 0) []) 0) k2 (by simp [Res.blk]) (by simp [Res.blk]) b2
  have HT := Lib.hid T4
  clear T0 T1 T2 T3 T4 b1 b2 k1 k2
  go_enter Try.func14, Try.ntmps14
  go_wp2
  go_ret
  refine ⟨w1.heap.size, .node w.heap.size (.slice none 0 0) [] (.slice none 0 0) [], rfl, rfl, HT.out.perm (perm_of_cnt fun a => by simp only [cnt_append, cnt_cons, cnt_nil, trss, rTs, P.blk_node, press, presLs, rBs, rAs, rKs, P.resL_append, P.resL_cons, P.resL_nil, P.res_node])⟩
set_option maxRecDepth 100000 in
set_option maxHeartbeats 1000000 in
theorem len_s (w : World) (tb : Nat) (p : P) (n : Nat) (h : Blk w tb 77 [ptrV p.blk, .int .i64 (n : Int)]) : Calls Try.prog 19 #[ptrV tb] w fun e w' => e = .returned (.int .i64 (n : Int)) ∧ w' = w := by
  obtain ⟨c0, c1⟩ := pg_cells h
  unfold ptrV
  clear h
  go_enter Try.func19, Try.ntmps19
  go_wp2
  go_ret
  exact ⟨rfl, rfl⟩
set_option maxRecDepth 100000 in
set_option maxHeartbeats 4000000 in
theorem tput_s (w : World) (tb : Nat) (p : P) (d n : Nat) (k : Key) (z : ByteArray) (hs : Sep w (trss tb p n)) (hg : Afx.Good d p.t) (hn : n = p.t.flat.length) (hl : n ≤ 99999) :
    Calls Try.prog 16 #[ptrV tb, .string (kb k), (.string z)] w fun e w' => e = .returned (.tuple #[(Afx.look k p.t.flat).getD (.string ⟨#[]⟩), .bool (Afx.look k p.t.flat).isSome]) ∧ ∃ p', p'.t = (putTop k (.string z) d p.t).2 ∧
      Trk w (feet (trss tb p n)) w' (trss tb p' (if (Afx.look k p.t.flat).isSome then n else n + 1)) := by
  have T0 := Trk.start hs
  generalize hF : feet (trss tb p n) = F at *
  have kt0 : Blk w tb 77 [ptrV p.blk, .int .i64 (n : Int)] := T0.blk (by simp only [List.mem_cons, true_or, or_true])
  have HPUT := Lib.hid (put_any_s k z d (min 1 d) w p (by omega) hg.fat hg.rise (by omega) (hs.right (a := [rTs tb p n])))
  obtain ⟨c0, c1⟩ := pg_cells kt0
  obtain ⟨hpf, hpfl⟩ := put_fat k (.string z) d (min 1 d) p.t hg.rise hg.fat (by omega)
  have HG := Lib.hid hg
  have HT0 := Lib.hid T0
  have hsh : (putT k (.string z) d p.t).ts = [] ∨ (putT k (.string z) d p.t).ts.length = (putT k (.string z) d p.t).es.length + 1 := by rcases hpf.shape with ⟨_, h⟩ | ⟨_, h⟩ <;> simp [h]
  have hel : (putT k (.string z) d p.t).es.length ≤ 100000 := by
    have h1 : (putT k (.string z) d p.t).es.length ≤ (putT k (.string z) d p.t).flat.length := by
      cases hq : putT k (.string z) d p.t with
      | node es' ts' => rw [flat_node]; exact (es_sublist es' ts').length_le
    rw [hpfl] at h1
    have := ins_length k (.string z) p.t.flat
    omega
  have HTOP : Hid ((putTop k (.string z) d p.t).2 = if 5 < (putT k (.string z) d p.t).es.length then splitT 0 [] [putT k (.string z) d p.t] (putT k (.string z) d p.t) else putT k (.string z) d p.t) := by
    show _ = _
    unfold putTop
    split <;> rfl
  generalize (putTop k (.string z) d p.t).2 = tt at *
  generalize hpt : putT k (.string z) d p.t = t' at *
  generalize hx : (Afx.look k p.t.flat).getD (.string ⟨#[]⟩) = x at *
  generalize hy : (Afx.look k p.t.flat).isSome = y at *
  have hnf : (n : Int) ≤ 99999 := by omega
  unfold ptrV at c0 HPUT ⊢
  clear T0 kt0 hs hF hg hn hpf hpfl hpt hx hy
  go_enter Try.func16, Try.ntmps16
  go_wp2_with fail
  refine HPUT.out.mono ?_
  clear HPUT
  rintro e w2 ⟨rfl, p', hpb, hpt, hT⟩
  have hp1 : (trss tb p n).Perm (press p ++ [rTs tb p n]) := perm_of_cnt fun a => by simp only [cnt_append, cnt_cons, cnt_nil, trss, rTs, P.blk_node, press, presLs, rBs, rAs, rKs, P.resL_append, P.resL_cons, P.resL_nil, P.res_node] <;> omega
  have T2 := HT0.out.use hp1 hT
  obtain ⟨cb, cav, ces, cbv, cks, rfl⟩ := P.eta p'
  obtain rfl : cb = p.blk := hpb
  rw [P.t_node] at hpt
  subst hpt
  have hsh : cks = [] ∨ cks.length = ces.length + 1 := by
    rcases hsh with h | h
    · left; simpa [T.ts] using h
    · right; simpa [T.ts, T.es] using h
  have hel : ces.length ≤ 100000 := hel
  have hp2 : (press (.node p.blk cav ces cbv cks) ++ [rTs tb p n]).Perm (rTs tb p n :: rBs p.blk cav cbv :: rAs cav ces :: rKs cbv cks :: presLs cks) := perm_of_cnt fun a => by simp only [cnt_append, cnt_cons, cnt_nil, trss, rTs, P.blk_node, press, presLs, rBs, rAs, rKs, P.resL_append, P.resL_cons, P.resL_nil, P.res_node] <;> omega
  have T3 := T2.perm hp2
  have kt2 : Blk w2 tb 77 [ptrV p.blk, .int .i64 (n : Int)] := T3.blk (by simp only [List.mem_cons, true_or, or_true])
  have kc2 : Blk w2 p.blk 75 [cav, cbv] := T3.blk (by simp only [List.mem_cons, true_or, or_true])
  have oc2 : Own w2 94 2 cav ces.length (enC ces) := T3.own (by simp only [List.mem_cons, true_or, or_true])
  obtain ⟨pc, cc, hcav, hcc1, hcc2⟩ := own_form_Es oc2
  obtain ⟨x0, x1⟩ := pg_cells kt2
  obtain ⟨y0, y1⟩ := pg_cells kc2
  rw [hcav] at y0
  unfold ptrV at x0
  have hf0 := kt2.frozen 0
  have hf1 := kt2.frozen 1
  have HT3 := Lib.hid T3
  have hwn : IntKind.i64.wrap ((n : Int) + 1) = (n : Int) + 1 := by rw [IntKind.wrap_i64]; omega
  have htl := kt2.lt
  have hpl := kc2.lt
  clear T2 T3 kt2 kc2 oc2 hp1 hp2 hT c0 c1 hcav HT0
  by_cases h5 : 5 < ces.length
  · have h5i : (5 : Int) < (ces.length : Int) := by omega
    have hslc : 1 ≤ ces.length := by omega
    obtain ⟨w3, hw3⟩ : ∃ w3, w2.alloc (.cells #[.pointer (some ⟨p.blk, 0, none⟩)] 69) = w3 := ⟨_, rfl⟩
    obtain ⟨w4, hw4⟩ : ∃ w4, w3.alloc (.cells #[.slice none 0 0, .slice (some ⟨w2.heap.size, 0, none⟩) 1 1] 75) = w4 := ⟨_, rfl⟩
    obtain ⟨w5, hw5⟩ : ∃ w5, w4.setCell ⟨tb, 0, none⟩ (.pointer (some ⟨w3.heap.size, 0, none⟩)) = w5 := ⟨_, rfl⟩
    have b3 : Below w2.heap.size w2 w3 := hw3 ▸ (Below.refl _ _).alloc (Nat.le_refl _) _
    have b4 : Below w3.heap.size w3 w4 := hw4 ▸ (Below.refl _ _).alloc (Nat.le_refl _) _
    have o3 : Own w3 69 1 (.slice (some ⟨w2.heap.size, 0, none⟩) 1 1) 1 (ptrs [.node p.blk cav ces cbv cks]) := by
      rw [← hw3]
      exact Own.made w2 69 1 (ptrs [.node p.blk cav ces cbv cks]) [] 1 1 rfl (Ones.cons rfl Ones.nil) (Nat.le_refl _) (by simp [maxLen]) (by simp [ptrs])
    have T4 := HT3.out.new (r := rKs (.slice (some ⟨w2.heap.size, 0, none⟩) 1 1) [.node p.blk cav ces cbv cks]) o3 (by simp [Res.own, Value.ownBlock]) (by simp [Res.own, Value.ownBlock]) b3
    have k4 : Blk w4 w3.heap.size 75 [.slice none 0 0, .slice (some ⟨w2.heap.size, 0, none⟩) 1 1] := hw4 ▸ Blk.new w3 _ _
    have T5 := T4.new (r := rBs w3.heap.size (.slice none 0 0) (.slice (some ⟨w2.heap.size, 0, none⟩) 1 1)) k4 (by simp [Res.blk]) (by simp [Res.blk]) b4
    have T6 := T5.new (r := rAs (.slice none 0 0) []) (Own.nil _ _ _) (by simp [Res.own, Value.ownBlock]) (by simp [Res.own, Value.ownBlock]) (Below.refl _ _)
    have T7 := T6.perm (perm_of_cnt (y := rTs tb p n :: press (.node w3.heap.size (.slice none 0 0) [] (.slice (some ⟨w2.heap.size, 0, none⟩) 1 1) ([] ++ .node p.blk cav ces cbv cks :: []))) fun a => by simp only [List.nil_append, cnt_append, cnt_cons, cnt_nil, trss, rTs, P.blk_node, press, presLs, rBs, rAs, rKs, P.resL_append, P.resL_cons, P.resL_nil, P.res_node]; omega)
    have T8 := T7.blkSet 0 (.pointer (some ⟨w3.heap.size, 0, none⟩))
    rw [hw5] at T8
    have kt5 : Blk w5 tb 77 [.pointer (some ⟨w3.heap.size, 0, none⟩), .int .i64 (n : Int)] := T8.blk (List.mem_cons_self)
    have kt4 : Blk w4 tb 77 [ptrV p.blk, .int .i64 (n : Int)] := T7.blk (List.mem_cons_self)
    have hsp : Calls Try.prog 32 #[.pointer (some ⟨w3.heap.size, 0, none⟩), .int .i64 0] w5 _ := split_s w5 w3.heap.size (.slice none 0 0) (.slice (some ⟨w2.heap.size, 0, none⟩) 1 1) [] [] [] p.blk cav cbv ces cks
      (T8.sep.right (a := [_])) (by simp) (by omega) (by rcases hsh with h | h; exact .inl h; exact .inr (by omega)) (by simp) (by omega) (by simp) (by rcases hsh with h | h; (rw [h]; simp); omega)
    have HSP := Lib.hid hsp
    have HT8 := Lib.hid T8
    have HTT : Hid (tt = splitT 0 [] [T.node ces (cks.map P.t)] (T.node ces (cks.map P.t))) := by
      show _ = _
      rw [HTOP.out, if_pos (show 5 < (T.node ces (cks.map P.t)).es.length from h5)]
    obtain ⟨u0, u1⟩ := pg_cells kt5
    obtain ⟨v0, v1⟩ := pg_cells kt4
    have hg0 := kt4.frozen 0
    clear T4 T5 T6 T7 T8 k4 o3 b3 b4 hsp kt5 kt4 HTOP HT3
    go_wp2_with fail
    clear hw3 hw4 hw5 v0 v1 u0 u1 x0 x1 y0 y1 hg0 hf0 hf1
    refine HSP.out.mono ?_
    clear HSP
    rintro e w6 ⟨rfl, p', hpb, hpt, hT⟩
    have T9 := HT8.out.use (rest := [Res.blk tb 77 [.pointer (some ⟨w3.heap.size, 0, none⟩), .int .i64 (n : Int)]]) (perm_of_cnt fun a => by simp only [cnt_append, cnt_cons, cnt_nil, List.set_cons_zero]; omega) hT
    have kt6 : Blk w6 tb 77 [.pointer (some ⟨w3.heap.size, 0, none⟩), .int .i64 (n : Int)] := T9.blk (List.mem_append_right _ List.mem_cons_self)
    obtain ⟨x0, x1⟩ := pg_cells kt6
    have hf1 := kt6.frozen 1
    have TA := T9.perm (perm_of_cnt (y := Res.blk tb 77 [.pointer (some ⟨w3.heap.size, 0, none⟩), .int .i64 (n : Int)] :: press p') fun a => by simp only [cnt_append, cnt_cons, cnt_nil]; omega)
    have HTA := Lib.hid TA
    have HPB := Lib.hid hpb
    have HPT := Lib.hid hpt
    clear hT T9 TA kt6 HT8 hpb hpt
    cases y
    · go_wp2
      have TB := HTA.out.blkSet 1 (.int .i64 ((n : Int) + 1))
      refine bodyPost_ret (v := .tuple #[x, .bool false]) ?_ rfl ⟨rfl, p', ?_, ?_⟩
      · simp [results, Try.results16, go_sem]
      · rw [HTT.out, HPT.out, P.t_node]; rfl
      · have e : rTs tb p' (n + 1) = Res.blk tb 77 ([.pointer (some ⟨w3.heap.size, 0, none⟩), .int .i64 (n : Int)].set 1 (.int .i64 ((n : Int) + 1))) := by
          show Res.blk tb 77 [ptrV p'.blk, .int .i64 ((n + 1 : Nat) : Int)] = Res.blk tb 77 [.pointer (some ⟨w3.heap.size, 0, none⟩), .int .i64 ((n : Int) + 1)]
          rw [show ((n + 1 : Nat) : Int) = (n : Int) + 1 from by omega, HPB.out]; rfl
        show Trk w F _ (rTs tb p' (n + 1) :: press p')
        rw [e]
        exact TB
    · go_wp2
      refine bodyPost_ret (v := .tuple #[x, .bool true]) ?_ rfl ⟨rfl, p', ?_, ?_⟩
      · simp [results, Try.results16, go_sem]
      · rw [HTT.out, HPT.out, P.t_node]; rfl
      · have e : rTs tb p' n = Res.blk tb 77 [.pointer (some ⟨w3.heap.size, 0, none⟩), .int .i64 (n : Int)] := by
          show Res.blk tb 77 [ptrV p'.blk, .int .i64 (n : Int)] = _
          rw [HPB.out]; rfl
        show Trk w F _ (rTs tb p' n :: press p')
        rw [e]
        exact HTA.out
  · have h5i : ¬ (5 : Int) < (ces.length : Int) := by omega
    have HTT : Hid (tt = .node ces (cks.map P.t)) := by
      show _ = _
      rw [HTOP.out, if_neg (show ¬ 5 < (T.node ces (cks.map P.t)).es.length from h5)]
    clear HTOP
    cases y
    · go_wp2
      have T4 := HT3.out.blkSet 1 (.int .i64 ((n : Int) + 1))
      refine bodyPost_ret (v := .tuple #[x, .bool false]) ?_ rfl ⟨rfl, .node p.blk cav ces cbv cks, ?_, ?_⟩
      · simp [results, Try.results16, go_sem]
      · rw [HTT.out, P.t_node]
      · have e : rTs tb (.node p.blk cav ces cbv cks) (n + 1) = Res.blk tb 77 ([ptrV p.blk, .int .i64 (n : Int)].set 1 (.int .i64 ((n : Int) + 1))) := by
          show Res.blk tb 77 [ptrV p.blk, .int .i64 ((n + 1 : Nat) : Int)] = Res.blk tb 77 [ptrV p.blk, .int .i64 ((n : Int) + 1)]
          rw [show ((n + 1 : Nat) : Int) = (n : Int) + 1 from by omega]
        show Trk w F _ (rTs tb (.node p.blk cav ces cbv cks) (n + 1) :: press (.node p.blk cav ces cbv cks))
        rw [e]
        exact T4.perm (perm_of_cnt fun a => by simp only [cnt_append, cnt_cons, cnt_nil, trss, rTs, P.blk_node, press, presLs, rBs, rAs, rKs, P.resL_append, P.resL_cons, P.resL_nil, P.res_node] <;> omega)
    · go_wp2
      refine bodyPost_ret (v := .tuple #[x, .bool true]) ?_ rfl ⟨rfl, .node p.blk cav ces cbv cks, ?_, ?_⟩
      · simp [results, Try.results16, go_sem]
      · rw [HTT.out, P.t_node]
      · exact HT3.out.perm (perm_of_cnt fun a => by simp only [cnt_append, cnt_cons, cnt_nil, trss, rTs, P.blk_node, press, presLs, rBs, rAs, rKs, P.resL_append, P.resL_cons, P.resL_nil, P.res_node] <;> omega)
end Go.Proofs.Ytfnndifckgjmjaa
