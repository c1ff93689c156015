/- The law's waits: what is told of a line. -/
import Derived.Test.YtdhdphmehjkbnaaLnP
namespace Go.Proofs.Ytdhdphmehjkbnaa
open Go.RowKit Go.Afx
variable {F : Nat → Prop}

theorem batEq_key {a b : BatV} (h : a.key = b.key) : batEq a b = true := by
  obtain ⟨i, v, r⟩ := a
  obtain ⟨i', v', r'⟩ := b
  simp only [BatV.key, Prod.mk.injEq] at h
  obtain ⟨rfl, h⟩ := h
  have := batEq_self (⟨i, v, r⟩ : BatV)
  unfold batEq at *
  simp only at *
  rw [← h]
  exact this
theorem filter_key (p : Int → Bool) : ∀ {a b : List BatV}, a.map BatV.key = b.map BatV.key → (a.filter (fun x => p x.id)).map BatV.key = (b.filter (fun x => p x.id)).map BatV.key
  | [], [], _ => rfl
  | [], _ :: _, h => by cases h
  | _ :: _, [], h => by cases h
  | x :: a, y :: b, h => by
    simp only [List.map_cons, List.cons.injEq] at h
    have ih := filter_key p h.2
    have hid : x.id = y.id := congrArg Prod.fst h.1
    rw [List.filter_cons, List.filter_cons, hid]
    cases p y.id
    · simpa using ih
    · simp only [if_true, List.map_cons, h.1, ih]
theorem asked_key (ids : List Int) {a b : List BatV} (h : a.map BatV.key = b.map BatV.key) : (a.filter (askedB ids)).map BatV.key = (b.filter (askedB ids)).map BatV.key :=
  filter_key (fun i => decide (ids.length = 0) || ids.contains i) h
theorem asked_none (l : List BatV) : l.filter (askedB []) = l := by
  rw [List.filter_eq_self]
  intro a _
  rfl
theorem len_key {a b : List BatV} (h : a.map BatV.key = b.map BatV.key) : a.length = b.length := by
  have := congrArg List.length h
  simpa using this
theorem at_key {a b : List BatV} (h : a.map BatV.key = b.map BatV.key) (k : Nat) (h1 : k < a.length) (h2 : k < b.length) : a[k].key = b[k].key := by
  have e : (a.map BatV.key)[k]'(by simpa using h1) = (b.map BatV.key)[k]'(by simpa using h2) := by simp only [h]
  simpa using e

theorem bat_at {w : World} {B : Nat → Prop} {p : Option Addr} {n c k : Nat} {l : List BatV} (h : BatAt w B (.slice p n c) l) (hk : k < l.length) :
    ∃ g off, p = some ⟨g, off, none⟩ ∧ w.cell? ⟨g, off + k * 2, none⟩ = some (.int .i64 l[k].id) ∧ w.cell? ⟨g, off + k * 2 + 1, none⟩ = some l[k].v := by
  obtain ⟨g, off, cap, hv, _, e0, e1⟩ := sl_bat h.1 hk
  injection hv with hp _ _
  exact ⟨g, off, hp, e0, e1⟩
set_option maxRecDepth 100000 in
set_option maxHeartbeats 1000000 in
theorem lwaits (w : World) (Bi Bn : Nat → Prop) (b : Nat) (lv : Value) (nm : ByteArray) (cl : List ColV) (room : Int) (l : List BatV) (h : IsLine F w b lv nm cl room l) (nv : Value) (nl : List BatV) (hn : BatAt w Bn nv nl) (hk : l.map BatV.key = nl.map BatV.key)
    (iv : Value) (ids : List Int) (hi : Sl w Bi 1 iv ids.length (ints ids)) (hll : nl.length ≤ 1000) (hrl : ∀ x ∈ l, x.rows.length ≤ 1000000 ∧ ∀ r ∈ x.rows, r.l.length ≤ 1000000) (hrn : rowsN nl ≤ 1000000000) :
    Calls Try.prog 57 #[.pointer (some ⟨b, 0, none⟩), nv, iv] w fun e w' => e = .returned (.bool true) ∧ Below w.heap.size w w' := by
  obtain ⟨pi, ci, rfl, hci1, hci2⟩ := hi.form
  obtain ⟨pn, cn, rfl, hcn1, hcn2⟩ := hn.1.form
  have HI := Lib.hid hi
  have HN := Lib.hid hn
  have HL := Lib.hid h
  have HK := Lib.hid hk
  have HRL := Lib.hid hrl
  obtain ⟨z0, hz0⟩ : ∃ z, decide (ids.length = 0) = z := ⟨_, rfl⟩
  have hzi : ((ids.length : Int) == 0) = z0 := by rw [← hz0, Bool.eq_iff_iff, beq_iff_eq, decide_eq_true_iff]; omega
  have HZ0 := Lib.hid hz0
  clear hi hn h hk hrl hz0
  go_enter Try.func57, Try.ntmps57
  go_wp2
  go_loopw [7, 8, 9] (fun s v i wr => ∃ k : Nat, i = .int .i64 k ∧ k ≤ nl.length ∧ s = .int .i64 (rowsN (nl.take k) : Nat) ∧ Own wr 38 2 v ((nl.take k).filter (askedB ids)).length (batCells ((nl.take k).filter (askedB ids))) ∧ (∀ q, v.ownBlock = some q → w.heap.size ≤ q) ∧ Below w.heap.size w wr) (fun _ _ i _ => nl.length - (intOf i).toNat)
  case atStart => exact ⟨0, rfl, Nat.zero_le _, rfl, Own.nil _ _ _, by simp [Value.ownBlock], Below.refl _ _⟩
  case round =>
    obtain ⟨k, rfl, hk, rfl, hown, hnew, hbr⟩ := hrel
    obtain ⟨pv, cv2, rfl, hcv1, hcv2⟩ := own_form hown
    have hfl : ((nl.take k).filter (askedB ids)).length ≤ k := Nat.le_trans (List.length_filter_le _ _) (by rw [List.length_take]; omega)
    obtain ⟨acc, hacc⟩ : ∃ acc, (nl.take k).filter (askedB ids) = acc := ⟨_, rfl⟩
    obtain ⟨n0, hn0⟩ : ∃ n0, rowsN (nl.take k) = n0 := ⟨_, rfl⟩
    rw [hacc] at hown hcv1 hnew hfl
    rw [hacc, hn0]
    have HOWN := Lib.hid hown
    have HNEW := Lib.hid hnew
    have HBR := Lib.hid hbr
    have HACC := Lib.hid hacc
    clear hown hnew hacc
    by_cases hka : k < nl.length
    · obtain ⟨g, off, cap, hv, hg, e0, e1⟩ := sl_bat (HN.out.below hbr).1 hka
      cases hv
      obtain ⟨px, cx, hxv, hcx1, hcx2⟩ := ((HN.out.below hbr).2 nl[k] (List.getElem_mem hka)).1.form
      have hT : nl.take (k + 1) = nl.take k ++ [nl[k]] := by
        rw [List.take_succ_eq_append_getElem hka]
      have hrt : rowsN (nl.take (k + 1)) = n0 + nl[k].rows.length := by
        rw [hT, rowsN_append, hn0]; simp [rowsN]
      have hrt2 : rowsN (nl.take (k + 1)) ≤ rowsN nl := by
        have := rowsN_append (nl.take (k + 1)) (nl.drop (k + 1))
        rw [List.take_append_drop] at this
        omega
      have HBS : Hid (∀ W, Below wr.heap.size wr W → W.cell? ⟨g, off + k * 2, none⟩ = some (.int .i64 nl[k].id) ∧ W.cell? ⟨g, off + k * 2 + 1, none⟩ = some nl[k].v) := fun W h => ⟨(h.cell (p := ⟨g, off + k * 2, none⟩) hg).trans e0, (h.cell (p := ⟨g, off + k * 2 + 1, none⟩) hg).trans e1⟩
      have HT := Lib.hid hT
      have HRT := Lib.hid hrt
      have hsum : (n0 : Int) + (nl[k].rows.length : Int) ≤ 9223372036854775807 := by omega
      have hask : askedB ids nl[k] = (z0 || ids.contains nl[k].id) := by rw [← HZ0.out]; rfl
      have HASK := Lib.hid hask
      clear hT hrt hrt2 hbr hask hn0
      generalize nl[k] = x at *
      obtain ⟨id, xv, rows⟩ := x
      simp only at e0 e1 hxv hcx1 HBS HRT hsum HASK
      subst hxv
      have hn1 : (n0 : Int) + (rows.length : Int) = ((n0 + rows.length : Nat) : Int) := by omega
      have HN1 := Lib.hid hn1
      clear e0 hn1
      go_wp2_with fail
      clear e1
      obtain ⟨wo, rfl⟩ : ∃ wo : World, wo = wr := ⟨_, rfl⟩
      go_loopw [10, 11] (fun c j wi => ∃ m : Nat, j = .int .i64 m ∧ m ≤ ids.length ∧ c = .bool (z0 || (ids.take m).contains id) ∧ Below wo.heap.size wo wi) (fun _ j _ => ids.length - (intOf j).toNat)
      case atStart => exact ⟨0, rfl, Nat.zero_le _, by simp, Below.refl _ _⟩
      case round =>
        obtain ⟨m, rfl, hm, rfl, hbi⟩ := hrel
        have HBI := Lib.hid hbi
        by_cases hma : m < ids.length
        · obtain ⟨g2, off2, cap1, hv, _, _, _, hlt, hc⟩ := (HI.out.below (HBR.out.trans (hbi.mono HBR.out.size))).place (by omega)
          cases hv
          have e5 : wr.cell? ⟨g2, off2 + m, none⟩ = some (.int .i64 ids[m]) := by
            rw [hc m (by simpa [ints] using hma)]
            simp [ints]
          obtain ⟨e6, e7⟩ := HBS.out _ hbi
          have hnx : (z0 || (ids.take (m + 1)).contains id) = ((z0 || (ids.take m).contains id) || (ids[m] == id)) := by
            rw [List.take_succ_eq_append_getElem hma, List.contains_append, Bool.or_assoc]
            congr 2
            simp only [List.contains_cons, List.contains_nil, Bool.or_false]
            rw [Bool.eq_iff_iff, beq_iff_eq, beq_iff_eq]
            exact eq_comm
          have HNX := Lib.hid hnx
          clear hnx hbi hc
          generalize (z0 || (ids.take m).contains id) = c at *
          generalize ids[m] = y at *
          cases c
          · have hnx2 : (z0 || (ids.take (m + 1)).contains id) = (y == id) := by rw [HNX.out]; rfl
            have HNX2 := Lib.hid hnx2
            clear hnx2 HNX
            go_wp2_with fail
            refine wp_region_lit_plan [] [(0, 0), (1, 0), (2, 0), (3, 0), (4, 0), (6, 0), (7, 0), (8, 0), (9, 0), (5, 1), (10, 1), (11, 0), (12, 0), (13, 0)] (fun _ => False) (by kernel_rfl) (by kernel_rfl) (fun c a d v w h => by cases d <;> exact h) ?_
            go_wp2_with (first
              | (refine plan_pure (v := _) (by rfl) (by rfl) (by rfl) (by intro _; go_simp; with_reducible rfl) ?_; simp only [List.setIfInBounds_toArray, List.set_cons_zero, List.set_cons_succ]; try go_bits) | (refine plan_read (v := _) (by rfl) (by rfl) (by rfl) (by go_simp; with_reducible rfl) ?_; simp only [List.setIfInBounds_toArray, List.set_cons_zero, List.set_cons_succ]; try go_bits) | (refine plan_readB (v := _) (by rfl) (by rfl) (by rfl) (by intro _ hag; unfold Agree at hag; go_simp; with_reducible rfl) ?_; simp only [List.setIfInBounds_toArray, List.set_cons_zero, List.set_cons_succ]; try go_bits) | (refine plan_skip0 (by rfl) (by rfl) (by rfl) ?_; simp only [List.setIfInBounds_toArray, List.set_cons_zero, List.set_cons_succ]; try go_bits) | (refine plan_skip1 (by rfl) (by rfl) (by rfl) ?_; simp only [List.setIfInBounds_toArray, List.set_cons_zero, List.set_cons_succ]; try go_bits) | (refine plan_skip2 (by rfl) (by rfl) (by rfl) ?_; simp only [List.setIfInBounds_toArray, List.set_cons_zero, List.set_cons_succ]; try go_bits) | (refine plan_skip4 (by rfl) (by rfl) (by rfl) ?_; simp only [List.setIfInBounds_toArray, List.set_cons_zero, List.set_cons_succ]; try go_bits) | (refine plan_any (by rfl) ?_) | (refine plan_keep (by rfl) ?_) | (refine plan_nil ?_) | (with_reducible refine And.intro (by first | assumption | exact Agree.refl _ _ | exact agree_drew _ _ | exact agree_alloc _ (by intro k hk; subst hk; first | omega | (simp; omega))) ?_) | (unfold Act.put; simp only [List.setIfInBounds_toArray, List.set_cons_zero, List.set_cons_succ]))
            exact ⟨⟨m + 1, by go_num, by omega, by rw [HNX2.out], HBI.out.drew⟩, by (simp [intOf]) <;> omega⟩
          · have hnx2 : (z0 || (ids.take (m + 1)).contains id) = true := by rw [HNX.out]; rfl
            have HNX2 := Lib.hid hnx2
            clear hnx2 HNX
            go_wp2_with fail
            refine wp_region_lit_plan [] [(0, 0), (1, 0), (2, 0), (3, 0), (4, 0), (6, 0), (7, 0), (8, 0), (9, 0), (5, 1), (10, 1), (11, 0), (12, 0), (13, 0)] (fun _ => False) (by kernel_rfl) (by kernel_rfl) (fun c a d v w h => by cases d <;> exact h) ?_
            go_wp2_with (first
              | (refine plan_pure (v := _) (by rfl) (by rfl) (by rfl) (by intro _; go_simp; with_reducible rfl) ?_; simp only [List.setIfInBounds_toArray, List.set_cons_zero, List.set_cons_succ]; try go_bits) | (refine plan_read (v := _) (by rfl) (by rfl) (by rfl) (by go_simp; with_reducible rfl) ?_; simp only [List.setIfInBounds_toArray, List.set_cons_zero, List.set_cons_succ]; try go_bits) | (refine plan_readB (v := _) (by rfl) (by rfl) (by rfl) (by intro _ hag; unfold Agree at hag; go_simp; with_reducible rfl) ?_; simp only [List.setIfInBounds_toArray, List.set_cons_zero, List.set_cons_succ]; try go_bits) | (refine plan_skip0 (by rfl) (by rfl) (by rfl) ?_; simp only [List.setIfInBounds_toArray, List.set_cons_zero, List.set_cons_succ]; try go_bits) | (refine plan_skip1 (by rfl) (by rfl) (by rfl) ?_; simp only [List.setIfInBounds_toArray, List.set_cons_zero, List.set_cons_succ]; try go_bits) | (refine plan_skip2 (by rfl) (by rfl) (by rfl) ?_; simp only [List.setIfInBounds_toArray, List.set_cons_zero, List.set_cons_succ]; try go_bits) | (refine plan_skip4 (by rfl) (by rfl) (by rfl) ?_; simp only [List.setIfInBounds_toArray, List.set_cons_zero, List.set_cons_succ]; try go_bits) | (refine plan_any (by rfl) ?_) | (refine plan_keep (by rfl) ?_) | (refine plan_nil ?_) | (with_reducible refine And.intro (by first | assumption | exact Agree.refl _ _ | exact agree_drew _ _ | exact agree_alloc _ (by intro k hk; subst hk; first | omega | (simp; omega))) ?_) | (unfold Act.put; simp only [List.setIfInBounds_toArray, List.set_cons_zero, List.set_cons_succ]))
            exact ⟨⟨m + 1, by go_num, by omega, by rw [HNX2.out], HBI.out.drew⟩, by (simp [intOf]) <;> omega⟩
        · obtain rfl : m = ids.length := by omega
          have hask2 : askedB ids ⟨id, .slice px rows.length cx, rows⟩ = (z0 || (ids.take ids.length).contains id) := by rw [List.take_length]; exact HASK.out
          have HASK2 := Lib.hid hask2
          obtain ⟨e6, e7⟩ := HBS.out _ hbi
          clear hask2 hbi HASK
          generalize (z0 || (ids.take ids.length).contains id) = c at *
          cases c
          · go_wp2_with fail
            have hfe : (nl.take (k + 1)).filter (askedB ids) = acc := by
              rw [HT.out, List.filter_append, HACC.out, List.filter_cons, if_neg (by rw [HASK2.out]; decide)]
              simp
            refine ⟨⟨k + 1, by go_num, by omega, by rw [HRT.out, HN1.out], ?_⟩, by (simp [intOf]) <;> omega⟩
            rw [hfe]
            exact ⟨HOWN.out.below HBI.out, HNEW.out, HBR.out.trans (HBI.out.mono HBR.out.size)⟩
          · have hal : Below wr.heap.size wr (wr.alloc (.cells #[.int .i64 id, .slice px rows.length cx] 38)) := (Below.refl _ _).alloc (Nat.le_refl _) _
            have ho1 := (HOWN.out.below HBI.out).below hal
            have hs1 : Sl (wr.alloc (.cells #[.int .i64 id, .slice px rows.length cx] 38)) (fun _ => True) 2 (.slice (some ⟨wr.heap.size, 0, none⟩) 1 1) 1 (batCells [⟨id, .slice px rows.length cx, rows⟩]) :=
              (Own.made wr 38 2 (batCells [⟨id, .slice px rows.length cx, rows⟩]) [] 1 1 rfl (by intro u hu; simp [batCells, BatV.cells] at hu; rcases hu with rfl | rfl <;> rfl) (Nat.le_refl _) (by simp [maxLen]) (by simp [batCells, BatV.cells])).sl (fun _ _ => trivial)
            have HAL := Lib.hid hal
            clear hal
            go_wp2_with (at_builtin; refine wpList_app rfl _ _ rfl elemBat (by rfl) ho1 (by rfl) hs1 (by unfold maxLen; omega) (by omega) ?_; intro v1 w7 g1 g2 g3 g4 g5; clear ho1 hs1; have G1 := Lib.hid g1; have G2 := Lib.hid g2; have G3 := Lib.hid g3; clear g1 g2 g3 g4 g5)
            have hfe : (nl.take (k + 1)).filter (askedB ids) = acc ++ [⟨id, .slice px rows.length cx, rows⟩] := by
              rw [HT.out, List.filter_append, HACC.out, List.filter_cons, if_pos HASK2.out]
              simp
            refine ⟨⟨k + 1, by go_num, by omega, by rw [HRT.out, HN1.out], ?_⟩, by (simp [intOf]) <;> omega⟩
            rw [hfe, List.length_append, batCells_append]
            have h8 := HBR.out.trans ((HBI.out.trans (HAL.out.mono HBI.out.size)).mono HBR.out.size)
            refine ⟨G1.out, fun q hq => ?_, h8.trans (G2.out.below h8.size (fun q hq => HNEW.out q hq))⟩
            rcases G3.out with h2 | h2
            · rw [h2] at hq; exact HNEW.out q hq
            · rw [h2] at hq
              have h3 : wr.heap.size + 1 = q := by simpa using hq
              have := (HBR.out.trans (HBI.out.mono HBR.out.size)).size
              omega
    · obtain rfl : k = nl.length := by omega
      have hacc2 : nl.filter (askedB ids) = acc := by
        have := HACC.out
        rwa [List.take_length] at this
      have hn02 : rowsN nl = n0 := by rw [← hn0, List.take_length]
      have HN0 := Lib.hid hn02
      have HACC2 := Lib.hid hacc2
      have HB := Lib.hid (lbatches wr (fun _ => True) b lv nm cl room l (HL.out.below hbr) HRL.out (.slice none 0 0) [] ⟨by simp [ints], Ones.nil, .inl ⟨none, 0, rfl, rfl, Nat.zero_le _, fun _ => rfl⟩⟩ (by rw [len_key HK.out]; omega))
      clear hn02 hacc2 hn0 hbr
      go_wp2_with fail
      refine HB.out.mono ?_
      clear HB
      rintro e w2 ⟨va, accA, rfl, hA, hkA, hb2⟩
      rw [asked_none] at hkA
      have hkA2 := hkA.trans HK.out
      have hlA := len_key hkA2
      obtain ⟨pa, ca, hva, hca1, hca2⟩ := hA.1.form
      rw [hlA] at hva hca1
      subst hva
      have HB2 := Lib.hid (HBR.out.trans (hb2.mono HBR.out.size))
      have HPB := Lib.hid (lbatches w2 _ b lv nm cl room l (HL.out.below HB2.out) HRL.out _ ids (HI.out.below HB2.out) (by rw [len_key HK.out]; omega))
      have HOWN2 := Lib.hid (HOWN.out.below hb2)
      have HAA := Lib.hid hA
      have HKaccA := Lib.hid hkA2
      have HLaccA := Lib.hid hlA
      clear hb2 hA hkA hkA2 hlA HOWN
      go_wp2_with fail
      refine HPB.out.mono ?_
      clear HPB
      rintro e w3 ⟨vp, accP, rfl, hP, hkP, hb3⟩
      have hkP2 := hkP.trans ((asked_key ids HK.out).trans (by rw [HACC2.out]))
      have hlP := len_key hkP2
      obtain ⟨pp, cp, hvp, hcp1, hcp2⟩ := hP.1.form
      rw [hlP] at hvp hcp1
      subst hvp
      have HB3 := Lib.hid (HB2.out.trans (hb3.mono HB2.out.size))
      have hI3 := HL.out.below HB3.out
      have hlen := llen w3 b lv nm cl room l hI3
      have hrws := lrows w3 b lv nm cl room l hI3
      rw [len_key HK.out] at hlen
      rw [rowsN_key HK.out, HN0.out] at hrws
      have HLEN := Lib.hid hlen
      have HRWS := Lib.hid hrws
      have HaccA := Lib.hid (HAA.out.below hb3)
      have HaccP := Lib.hid hP
      have HKaccP := Lib.hid hkP2
      have HLaccP := Lib.hid hlP
      have hS3 : BatAt w3 (fun _ => True) (.slice pv acc.length cv2) acc := ⟨(HOWN2.out.below hb3).sl (fun _ _ => trivial), fun x hx => by
        have hm : x ∈ nl := by
          rw [← HACC2.out] at hx
          exact (List.mem_filter.1 hx).1
        have h8 := (HN.out.below HB3.out).2 x hm
        exact ⟨h8.1.mono (Nat.le_refl _) (fun _ _ _ => rfl) (fun _ _ _ => trivial), fun r hr => (h8.2 r hr).mono (Nat.le_refl _) (fun _ _ _ => rfl) (fun _ _ _ => trivial)⟩⟩
      have HS3 := Lib.hid hS3
      have HN3 := Lib.hid (HN.out.below HB3.out)
      clear hb3 hP hkP hkP2 hlP hI3 hlen hrws hS3 HOWN2 HAA HN HI HRL HACC HB2 HBR
      go_wp2_with (first
        | (go_at_call 58; refine HLEN.out.mono ?_; clear HLEN; rintro e w4 ⟨rfl, rfl⟩)
        | (go_at_call 59; refine HRWS.out.mono ?_; clear HRWS; rintro e w4 ⟨rfl, rfl⟩))
      go_loopw [14] (fun i wi => ∃ j : Nat, i = .int .i64 j ∧ j ≤ nl.length ∧ Below w3.heap.size w3 wi) (fun i _ => nl.length - (intOf i).toNat)
      case atStart => exact ⟨0, rfl, Nat.zero_le _, Below.refl _ _⟩
      case round =>
        obtain ⟨j, rfl, hj, hbj⟩ := hrel
        have HBJ := Lib.hid hbj
        by_cases hja : j < nl.length
        · have hjA : j < accA.length := by rw [HLaccA.out]; exact hja
          have hjN : j < nl.length := hja
          obtain ⟨g1, o1, rfl, u0, u1⟩ := bat_at (HaccA.out.below hbj) hjA
          obtain ⟨g2, o2, rfl, v0, v1⟩ := bat_at (HN3.out.below (hbj)) hjN
          have hr1 := (HaccA.out.below hbj).2 accA[j] (List.getElem_mem hjA)
          have hr2 := (HN3.out.below (hbj)).2 nl[j] (List.getElem_mem hjN)
          have hsm := lawsame_any wr.drew _ _ _ _ (hr1.below ((Below.refl _ _).drew)) (hr2.below ((Below.refl _ _).drew))
          rw [batEq_key (at_key HKaccA.out j hjA hjN)] at hsm
          obtain ⟨q1, z1, hq1, _, _⟩ := hr1.1.form
          obtain ⟨q2, z2, hq2, _, _⟩ := hr2.1.form
          have HSM := Lib.hid hsm
          clear hsm hr1 hr2 hbj
          generalize accA[j] = a1 at *
          generalize nl[j] = a2 at *
          obtain ⟨i1, y1, r1⟩ := a1
          obtain ⟨i2, y2, r2⟩ := a2
          simp only [BatV.agg] at u0 u1 v0 v1 hq1 hq2 HSM
          subst hq1 hq2
          go_wp2_with fail
          refine wp_region_lit_plan [] [(0, 0), (1, 0), (2, 0), (4, 0), (5, 0), (6, 0), (3, 1), (7, 1), (8, 4), (9, 0)] (fun _ => False) (by kernel_rfl) (by kernel_rfl) (fun c a d v w h => by cases d <;> exact h) ?_
          go_wp2_with (first
            | (refine plan_pure (v := _) (by rfl) (by rfl) (by rfl) (by intro _; go_simp; with_reducible rfl) ?_; simp only [List.setIfInBounds_toArray, List.set_cons_zero, List.set_cons_succ]; try go_bits) | (refine plan_read (v := _) (by rfl) (by rfl) (by rfl) (by go_simp; with_reducible rfl) ?_; simp only [List.setIfInBounds_toArray, List.set_cons_zero, List.set_cons_succ]; try go_bits) | (refine plan_readB (v := _) (by rfl) (by rfl) (by rfl) (by intro _ hag; unfold Agree at hag; go_simp; with_reducible rfl) ?_; simp only [List.setIfInBounds_toArray, List.set_cons_zero, List.set_cons_succ]; try go_bits) | (refine plan_skip0 (by rfl) (by rfl) (by rfl) ?_; simp only [List.setIfInBounds_toArray, List.set_cons_zero, List.set_cons_succ]; try go_bits) | (refine plan_skip1 (by rfl) (by rfl) (by rfl) ?_; simp only [List.setIfInBounds_toArray, List.set_cons_zero, List.set_cons_succ]; try go_bits) | (refine plan_skip2 (by rfl) (by rfl) (by rfl) ?_; simp only [List.setIfInBounds_toArray, List.set_cons_zero, List.set_cons_succ]; try go_bits) | (refine plan_skip4 (by rfl) (by rfl) (by rfl) ?_; simp only [List.setIfInBounds_toArray, List.set_cons_zero, List.set_cons_succ]; try go_bits) | (refine plan_any (by rfl) ?_) | (refine plan_keep (by rfl) ?_) | (refine plan_nil ?_) | (with_reducible refine And.intro (by first | assumption | exact Agree.refl _ _ | exact agree_drew _ _ | exact agree_alloc _ (by intro k hk; subst hk; first | omega | (simp; omega))) ?_) | (unfold Act.put; simp only [List.setIfInBounds_toArray, List.set_cons_zero, List.set_cons_succ])
            | (go_at_call 24; refine HSM.out.mono ?_; clear HSM; rintro e w8 ⟨rfl, hb8⟩; have HB8 := Lib.hid (HBJ.out.trans (((Below.refl _ _).drew).trans (hb8.mono (Nat.le_refl _)) |>.mono HBJ.out.size)); clear hb8))
          exact ⟨⟨j + 1, by go_num, by omega, HB8.out⟩, by (simp [intOf]) <;> omega⟩
        · obtain rfl : j = nl.length := by omega
          clear hbj
          go_wp2_with fail
          obtain ⟨wo, rfl⟩ : ∃ wo : World, wo = wr := ⟨_, rfl⟩
          go_loopw [15] (fun i wi => ∃ j : Nat, i = .int .i64 j ∧ j ≤ acc.length ∧ Below w3.heap.size w3 wi) (fun i _ => acc.length - (intOf i).toNat)
          case atStart => exact ⟨0, rfl, Nat.zero_le _, HBJ.out⟩
          case round =>
            obtain ⟨j, rfl, hj, hbj⟩ := hrel
            have HBJ := Lib.hid hbj
            by_cases hja : j < acc.length
            · have hjA : j < accP.length := by rw [HLaccP.out]; exact hja
              have hjN : j < acc.length := hja
              obtain ⟨g1, o1, rfl, u0, u1⟩ := bat_at (HaccP.out.below hbj) hjA
              obtain ⟨g2, o2, rfl, v0, v1⟩ := bat_at (HS3.out.below (hbj)) hjN
              have hr1 := (HaccP.out.below hbj).2 accP[j] (List.getElem_mem hjA)
              have hr2 := (HS3.out.below (hbj)).2 acc[j] (List.getElem_mem hjN)
              have hsm := lawsame_any wr.drew _ _ _ _ (hr1.below ((Below.refl _ _).drew)) (hr2.below ((Below.refl _ _).drew))
              rw [batEq_key (at_key HKaccP.out j hjA hjN)] at hsm
              obtain ⟨q1, z1, hq1, _, _⟩ := hr1.1.form
              obtain ⟨q2, z2, hq2, _, _⟩ := hr2.1.form
              have HSM := Lib.hid hsm
              clear hsm hr1 hr2 hbj
              generalize accP[j] = a1 at *
              generalize acc[j] = a2 at *
              obtain ⟨i1, y1, r1⟩ := a1
              obtain ⟨i2, y2, r2⟩ := a2
              simp only [BatV.agg] at u0 u1 v0 v1 hq1 hq2 HSM
              subst hq1 hq2
              go_wp2_with fail
              refine wp_region_lit_plan [] [(0, 0), (1, 0), (2, 0), (4, 0), (5, 0), (6, 0), (3, 1), (7, 1), (8, 4), (9, 0)] (fun _ => False) (by kernel_rfl) (by kernel_rfl) (fun c a d v w h => by cases d <;> exact h) ?_
              go_wp2_with (first
                | (refine plan_pure (v := _) (by rfl) (by rfl) (by rfl) (by intro _; go_simp; with_reducible rfl) ?_; simp only [List.setIfInBounds_toArray, List.set_cons_zero, List.set_cons_succ]; try go_bits) | (refine plan_read (v := _) (by rfl) (by rfl) (by rfl) (by go_simp; with_reducible rfl) ?_; simp only [List.setIfInBounds_toArray, List.set_cons_zero, List.set_cons_succ]; try go_bits) | (refine plan_readB (v := _) (by rfl) (by rfl) (by rfl) (by intro _ hag; unfold Agree at hag; go_simp; with_reducible rfl) ?_; simp only [List.setIfInBounds_toArray, List.set_cons_zero, List.set_cons_succ]; try go_bits) | (refine plan_skip0 (by rfl) (by rfl) (by rfl) ?_; simp only [List.setIfInBounds_toArray, List.set_cons_zero, List.set_cons_succ]; try go_bits) | (refine plan_skip1 (by rfl) (by rfl) (by rfl) ?_; simp only [List.setIfInBounds_toArray, List.set_cons_zero, List.set_cons_succ]; try go_bits) | (refine plan_skip2 (by rfl) (by rfl) (by rfl) ?_; simp only [List.setIfInBounds_toArray, List.set_cons_zero, List.set_cons_succ]; try go_bits) | (refine plan_skip4 (by rfl) (by rfl) (by rfl) ?_; simp only [List.setIfInBounds_toArray, List.set_cons_zero, List.set_cons_succ]; try go_bits) | (refine plan_any (by rfl) ?_) | (refine plan_keep (by rfl) ?_) | (refine plan_nil ?_) | (with_reducible refine And.intro (by first | assumption | exact Agree.refl _ _ | exact agree_drew _ _ | exact agree_alloc _ (by intro k hk; subst hk; first | omega | (simp; omega))) ?_) | (unfold Act.put; simp only [List.setIfInBounds_toArray, List.set_cons_zero, List.set_cons_succ])
                | (go_at_call 24; refine HSM.out.mono ?_; clear HSM; rintro e w8 ⟨rfl, hb8⟩; have HB8 := Lib.hid (HBJ.out.trans (((Below.refl _ _).drew).trans (hb8.mono (Nat.le_refl _)) |>.mono HBJ.out.size)); clear hb8))
              exact ⟨⟨j + 1, by go_num, by omega, HB8.out⟩, by (simp [intOf]) <;> omega⟩
            · obtain rfl : j = acc.length := by omega
              clear hbj
              go_wp2_with fail
              go_ret
              exact ⟨rfl, HB3.out.trans (HBJ.out.mono HB3.out.size)⟩
end Go.Proofs.Ytdhdphmehjkbnaa
