/- Contracts of the functions that the statement reaches, one behind the other. No condition beyond each theorem's own. -/
import Derived.Deep.DeepCutAuto
import Derived.Deep.CutBlock
import Derived.Test.YtfnndifckgjmjaaTP3
set_option linter.unusedSimpArgs false
set_option linter.unusedVariables false
/- Pages: last. -/
namespace Go.Proofs.Ytfnndifckgjmjaa
open Go.RowKit Go.Afx

mutual
theorem pres_onesi : ∀ {p : P} {w : World}, Sep w (presi p) → ∀ e ∈ p.t.flat, e.val.oneCell' = true
  | .node b av es bv ks, w, h, e, he => by
    rw [pres_i] at h
    rw [P.t_node, flat_node] at he
    have ho : Own w 87 2 av es.length (enC es) := h.all (rAi av es) (by simp only [List.mem_cons, true_or, or_true])
    have h1 : ∀ e ∈ es, e.val.oneCell' = true := fun e he => by
      obtain ⟨i, hi, rfl⟩ := List.mem_iff_getElem.1 he
      exact ho.2.1 _ (List.mem_of_getElem? (enC_at es i hi).2)
    have h2 := presL_onesi (ks := ks) (h.right (a := [_, _, _]))
    rcases mem_flatL he with h3 | ⟨t, ht, h3⟩
    · exact h1 e h3
    · obtain ⟨q, hq, rfl⟩ := List.mem_map.1 ht
      exact h2 q hq e h3
theorem presL_onesi : ∀ {ks : List P} {w : World}, Sep w (presLi ks) → ∀ q ∈ ks, ∀ e ∈ q.t.flat, e.val.oneCell' = true
  | [], _, _, q, hq, _, _ => absurd hq (by simp)
  | k :: ks, w, h, q, hq, e, he => by
    rw [presLi, P.resL_cons] at h
    rcases List.mem_cons.1 hq with h1 | hq
    · rw [h1] at he
      exact pres_onesi (p := k) h.left e he
    · exact presL_onesi (ks := ks) h.right q hq e he
end


set_option maxRecDepth 100000 in
set_option maxHeartbeats 4000000 in
theorem last_leaf_i (w : World) (b : Nat) (av bv : Value) (ae : List En) (x : En) (hs : Sep w (presi (.node b av (ae ++ [x]) bv []))) (hn : ae.length ≤ 99999) :
    Calls Try.prog 59 #[ptrV b] w fun e w' => e = .returned (.agg #[.string (kb x.key), x.val]) ∧ ∃ av', Trk w (feet (presi (.node b av (ae ++ [x]) bv []))) w' (presi (.node b av' ae bv [])) := by
  have T0 := Trk.start hs
  generalize hF : feet (presi (.node b av (ae ++ [x]) bv [])) = F at *
  obtain ⟨w1, hw1⟩ : ∃ w1, w.alloc (.cells #[.string ⟨#[]⟩, (.int .i64 0)] 87) = w1 := ⟨_, rfl⟩
  have b1 : Below w.heap.size w w1 := hw1 ▸ (Below.refl _ _).alloc (Nat.le_refl _) _
  have kz1 : Blk w1 w.heap.size 87 [.string ⟨#[]⟩, (.int .i64 0)] := hw1 ▸ Blk.new w _ _
  have T1 := T0.new (r := Res.blk w.heap.size 87 [.string ⟨#[]⟩, (.int .i64 0)]) kz1 (by simp [Res.blk]) (by simp [Res.blk]) b1
  have T1 : Trk w F w1 ([rBi b av bv, rAi av (ae ++ [x])] ++ [rKi bv [], Res.blk w.heap.size 87 [.string ⟨#[]⟩, (.int .i64 0)]]) := T1.perm (perm_of_cnt fun a => by simp only [cnt_append, cnt_cons, cnt_nil, presi, presLi, rBi, rAi, rKi, P.resL_append, P.resL_cons, P.resL_nil, P.res_node] <;> omega)
  have kb1 : Blk w1 b 66 [av, bv] := T1.blk (by simp only [List.cons_append, List.mem_cons, true_or, or_true])
  have oa1 : Own w1 87 2 av (ae ++ [x]).length (enC (ae ++ [x])) := T1.own (by simp only [List.cons_append, List.mem_cons, true_or, or_true])
  have ok1 : Own w1 60 1 bv ([] : List P).length (ptrs []) := T1.own (by simp only [List.cons_append, List.nil_append, List.mem_cons, true_or, or_true])
  have hxo : x.val.oneCell' = true := by
    have h1 : ae.length < (ae ++ [x]).length := by simp
    have h2 := (enC_at (ae ++ [x]) ae.length h1).2
    have h3 : (ae ++ [x])[ae.length]'h1 = x := by simp
    rw [h3] at h2
    exact oa1.2.1 _ (List.mem_of_getElem? h2)
  obtain ⟨pk, ck, hbv, _, _⟩ := own_form_Pi ok1
  obtain ⟨pa, ca, hav, _, _⟩ := own_form_Ei oa1
  obtain ⟨na, hna⟩ : ∃ na, (ae ++ [x]).length = na := ⟨_, rfl⟩
  have hna1 : (na : Int) - 1 = (ae.length : Int) := by rw [← hna]; simp
  have hna2 : 1 ≤ na := by omega
  have hna3 : na ≤ 100000 := by omega
  have hlf : Calls Try.prog 35 #[ptrV b] w1 fun e w' => e = .returned (.bool true) ∧ w' = w1 := leaf_i w1 b _ av pk 0 ck (hbv ▸ kb1)
  have hrm : ∀ w2, Sep w2 [rBi b av bv, rAi av (ae ++ [x])] → Calls Try.prog 58 #[.pointer (some ⟨b, 0, none⟩), .int .i64 (ae.length : Int)] w2 fun e w' => e = .returned (.agg #[.string (kb x.key), x.val]) ∧ ∃ av', Trk w2 (feet [rBi b av bv, rAi av (ae ++ [x])]) w' [rBi b av' bv, rAi av' ae] := fun w2 hs => by
    have h1 := remove_ri w2 b ae.length av bv (ae ++ [x]) hs (by simp) (by simp; omega)
    have h2 : (ae ++ [x])[ae.length]'(by simp) = x := by simp
    have h3 : (ae ++ [x]).take ae.length ++ (ae ++ [x]).drop (ae.length + 1) = ae := by simp
    rw [h2, h3] at h1
    exact h1
  obtain ⟨x0, x1⟩ := pg_cells kb1
  rw [hav, hna] at x0
  have HLF := Lib.hid hlf
  have HRM := Lib.hid hrm
  have HT1 := Lib.hid T1
  have HXO := Lib.hid hxo
  have hbl := kb1.lt
  unfold ptrV at HLF ⊢
  clear T0 T1 b1 kz1 kb1 oa1 ok1 hlf hrm hs hF hbv hav hna hxo
  go_enter Try.func59, Try.ntmps59
  go_wp2_with fail
  refine HLF.out.mono ?_
  rintro e wq ⟨rfl, hq⟩
  subst hq
  go_wp2_with fail
  refine wp_region_lit_plan [] [(0, 0), (1, 0), (2, 0), (3, 0), (4, 0), (5, 0), (6, 0), (7, 1), (8, 0), (9, 0), (10, 4), (11, 4)] (fun _ => False) (by kernel_rfl) (by kernel_rfl) (fun c a d v w h => by cases d <;> exact h) ?_
  go_wp2_with (first | (refine plan_pure (v := _) (by rfl) (by rfl) (by rfl) (by intro _; go_simp; with_reducible rfl) ?_; simp only [List.setIfInBounds_toArray, List.set_cons_zero, List.set_cons_succ]; try go_bits) | (refine plan_read (v := _) (by rfl) (by rfl) (by rfl) (by go_simp; with_reducible rfl) ?_; simp only [List.setIfInBounds_toArray, List.set_cons_zero, List.set_cons_succ]; try go_bits) | (refine plan_readB (v := _) (by rfl) (by rfl) (by rfl) (by intro _ hag; unfold Agree at hag; go_simp; with_reducible rfl) ?_; simp only [List.setIfInBounds_toArray, List.set_cons_zero, List.set_cons_succ]; try go_bits) | (refine plan_skip0 (by rfl) (by rfl) (by rfl) ?_; simp only [List.setIfInBounds_toArray, List.set_cons_zero, List.set_cons_succ]; try go_bits) | (refine plan_skip1 (by rfl) (by rfl) (by rfl) ?_; simp only [List.setIfInBounds_toArray, List.set_cons_zero, List.set_cons_succ]; try go_bits) | (refine plan_skip2 (by rfl) (by rfl) (by rfl) ?_; simp only [List.setIfInBounds_toArray, List.set_cons_zero, List.set_cons_succ]; try go_bits) | (refine plan_skip4 (by rfl) (by rfl) (by rfl) ?_; simp only [List.setIfInBounds_toArray, List.set_cons_zero, List.set_cons_succ]; try go_bits) | (refine plan_any (by rfl) ?_) | (refine plan_keep (by rfl) ?_) | (refine plan_nil ?_) | (with_reducible refine And.intro (by first | assumption | exact Agree.refl _ _ | exact agree_drew _ _ | exact agree_alloc _ (by intro k hk; subst hk; first | omega | (simp; omega))) ?_) | (unfold Act.put; simp only [List.setIfInBounds_toArray, List.set_cons_zero, List.set_cons_succ]))
  refine (HRM.out _ HT1.out.drew.sep.left).mono ?_
  rintro e w2 ⟨rfl, av', hT⟩
  have T2 := HT1.out.drew.call hT
  have T2 : Trk w F w2 (Res.blk w.heap.size 87 [.string ⟨#[]⟩, (.int .i64 0)] :: presi (.node b av' ae bv [])) := T2.perm (perm_of_cnt fun a => by simp only [cnt_append, cnt_cons, cnt_nil, presi, presLi, rBi, rAi, rKi, P.resL_append, P.resL_cons, P.resL_nil, P.res_node] <;> omega)
  have kz2 : Blk w2 w.heap.size 87 [.string ⟨#[]⟩, (.int .i64 0)] := T2.blk List.mem_cons_self
  have z0 := kz2.cell 0
  have z1 := kz2.cell 1
  simp only [List.getElem?_cons_zero, List.getElem?_cons_succ] at z0 z1
  have hf0 := kz2.frozen 0
  have hf1 := kz2.frozen 1
  have hxo := HXO.out
  have HT2 := Lib.hid T2
  clear hT T2 kz2 HRM HT1 x0 x1
  go_wp2_with (first | (refine plan_pure (v := _) (by rfl) (by rfl) (by rfl) (by intro _; go_simp; with_reducible rfl) ?_; simp only [List.setIfInBounds_toArray, List.set_cons_zero, List.set_cons_succ]; try go_bits) | (refine plan_read (v := _) (by rfl) (by rfl) (by rfl) (by go_simp; with_reducible rfl) ?_; simp only [List.setIfInBounds_toArray, List.set_cons_zero, List.set_cons_succ]; try go_bits) | (refine plan_readB (v := _) (by rfl) (by rfl) (by rfl) (by intro _ hag; unfold Agree at hag; go_simp; with_reducible rfl) ?_; simp only [List.setIfInBounds_toArray, List.set_cons_zero, List.set_cons_succ]; try go_bits) | (refine plan_skip0 (by rfl) (by rfl) (by rfl) ?_; simp only [List.setIfInBounds_toArray, List.set_cons_zero, List.set_cons_succ]; try go_bits) | (refine plan_skip1 (by rfl) (by rfl) (by rfl) ?_; simp only [List.setIfInBounds_toArray, List.set_cons_zero, List.set_cons_succ]; try go_bits) | (refine plan_skip2 (by rfl) (by rfl) (by rfl) ?_; simp only [List.setIfInBounds_toArray, List.set_cons_zero, List.set_cons_succ]; try go_bits) | (refine plan_skip4 (by rfl) (by rfl) (by rfl) ?_; simp only [List.setIfInBounds_toArray, List.set_cons_zero, List.set_cons_succ]; try go_bits) | (refine plan_any (by rfl) ?_) | (refine plan_keep (by rfl) ?_) | (refine plan_nil ?_) | (with_reducible refine And.intro (by first | assumption | exact Agree.refl _ _ | exact agree_drew _ _ | exact agree_alloc _ (by intro k hk; subst hk; first | omega | (simp; omega))) ?_) | (unfold Act.put; simp only [List.setIfInBounds_toArray, List.set_cons_zero, List.set_cons_succ]))
  have T3 := (HT2.out.blkSet 0 (.string (kb x.key))).blkSet 1 x.val
  have kz3 : Blk ((w2.setCell ⟨w.heap.size, 0, none⟩ (.string (kb x.key))).setCell ⟨w.heap.size, 1, none⟩ x.val) w.heap.size 87 [.string (kb x.key), x.val] := T3.blk List.mem_cons_self
  have m0 := kz3.cell 0
  have m1 := kz3.cell 1
  simp only [List.getElem?_cons_zero, List.getElem?_cons_succ] at m0 m1
  exact bodyPost_ret (v := .agg #[.string (kb x.key), x.val]) (by simp [results, Try.results59, go_sem, m0, m1]) rfl ⟨rfl, av', T3.drop⟩


set_option maxRecDepth 100000 in
set_option maxHeartbeats 4000000 in
theorem last_in_i (d : Nat) (w : World) (b : Nat) (av bv : Value) (es : List En) (kl : List P) (kc : P) (x : En) (init : List En) (hs : Sep w (presi (.node b av es bv (kl ++ [kc])))) (hk : (kl ++ [kc]).length = es.length + 1) (hes : 1 ≤ es.length) (hF : ∀ q ∈ kl, Fat 2 d q.t)
    (hfl : (T.node es ((kl ++ [kc]).map P.t)).flat.length ≤ 99999) (hcf : kc.t.flat = init ++ [x]) (hxo : x.val.oneCell' = true)
    (hc : ∀ w2, Sep w2 (presi kc) → Calls Try.prog 59 #[ptrV kc.blk] w2 fun e w' => e = .returned (.agg #[.string (kb x.key), x.val]) ∧ ∃ p', p'.blk = kc.blk ∧ Fat 1 d p'.t ∧ p'.t.flat = init ∧ Trk w2 (feet (presi kc)) w' (presi p')) :
    Calls Try.prog 59 #[ptrV b] w fun e w' => e = .returned (.agg #[.string (kb x.key), x.val]) ∧ ∃ p', p'.blk = b ∧ Fat (es.length - 1) (d + 1) p'.t ∧ p'.t.flat = wl es (kl.map P.t) ++ init ∧
      Trk w (feet (presi (.node b av es bv (kl ++ [kc])))) w' (presi p') := by
  have T0 := Trk.start hs
  generalize hFF : feet (presi (.node b av es bv (kl ++ [kc]))) = F at *
  obtain ⟨w1, hw1⟩ : ∃ w1, w.alloc (.cells #[.string ⟨#[]⟩, (.int .i64 0)] 87) = w1 := ⟨_, rfl⟩
  have b1 : Below w.heap.size w w1 := hw1 ▸ (Below.refl _ _).alloc (Nat.le_refl _) _
  have kz1 : Blk w1 w.heap.size 87 [.string ⟨#[]⟩, (.int .i64 0)] := hw1 ▸ Blk.new w _ _
  have T1 := T0.new (r := Res.blk w.heap.size 87 [.string ⟨#[]⟩, (.int .i64 0)]) kz1 (by simp [Res.blk]) (by simp [Res.blk]) b1
  have T1 : Trk w F w1 (rBi b av bv :: rKi bv (kl ++ [kc]) :: (presi kc ++ (rAi av es :: Res.blk w.heap.size 87 [.string ⟨#[]⟩, (.int .i64 0)] :: presLi kl))) := T1.perm (perm_of_cnt fun a => by simp only [cnt_append, cnt_cons, cnt_nil, presi, presLi, rBi, rAi, rKi, P.resL_append, P.resL_cons, P.resL_nil, P.res_node] <;> omega)
  have kb1 : Blk w1 b 66 [av, bv] := T1.blk (by simp only [List.mem_cons, true_or, or_true])
  have ok1 : Own w1 60 1 bv (kl ++ [kc]).length (ptrs (kl ++ [kc])) := T1.own (by simp only [List.mem_cons, true_or, or_true])
  obtain ⟨gk, offk, capk, hbv, hgk, p0⟩ := sl_ptr (k := kl.length) (ok1.sl (B := fun _ => True) (fun _ _ => trivial)) (by simp)
  have hcl : (kl ++ [kc])[kl.length]'(by simp) = kc := by simp
  rw [hcl] at p0
  obtain ⟨nk, hnk⟩ : ∃ nk, (kl ++ [kc]).length = nk := ⟨_, rfl⟩
  rw [hnk] at hbv
  have hel1 : es.length ≤ 99999 := Nat.le_trans (es_flat_len (.node es _)) hfl
  have hnk1 : (nk : Int) - 1 = (kl.length : Int) := by rw [← hnk]; simp
  have hnk2 : 1 ≤ nk := by rw [← hnk]; simp
  have hnk3 : nk ≤ 100000 := by omega
  have hnk4 : ¬ nk = 0 := by omega
  have hnk5 : kl.length < nk := by omega
  have hlf := leaf_i w1 b _ av (some ⟨gk, offk, none⟩) nk capk (hbv ▸ kb1)
  rw [decide_eq_false hnk4] at hlf
  have hp1 : (rBi b av bv :: rKi bv (kl ++ [kc]) :: (presi kc ++ (rAi av es :: Res.blk w.heap.size 87 [.string ⟨#[]⟩, (.int .i64 0)] :: presLi kl))).Perm (presi kc ++ (rBi b av bv :: rKi bv (kl ++ [kc]) :: rAi av es :: Res.blk w.heap.size 87 [.string ⟨#[]⟩, (.int .i64 0)] :: presLi kl)) := perm_of_cnt fun a => by simp only [cnt_append, cnt_cons, cnt_nil, presi, presLi, rBi, rAi, rKi, P.resL_append, P.resL_cons, P.resL_nil, P.res_node] <;> omega
  have HC := Lib.hid (hc w1 (T1.sepOf hp1))
  obtain ⟨x0, x1⟩ := pg_cells kb1
  rw [hbv] at x1
  have HLF := Lib.hid hlf
  have HT1 := Lib.hid T1
  have HP1 := Lib.hid hp1
  have hbl := kb1.lt
  have HNK := Lib.hid hnk
  have HBV := Lib.hid hbv
  unfold ptrV at HLF HC p0 ⊢
  clear T0 T1 b1 kz1 kb1 ok1 hlf hc hs hFF hbv hcl hnk hp1
  go_enter Try.func59, Try.ntmps59
  go_wp2_with fail
  refine HLF.out.mono ?_
  rintro e wq ⟨rfl, hq⟩
  subst hq
  go_wp2_with fail
  refine HC.out.mono ?_
  rintro e w2 ⟨rfl, p', hpb, hpf, hpfl, hT⟩
  clear hw1 x0 x1 p0
  have T2 := HT1.out.use HP1.out hT
  obtain ⟨w3, hw3⟩ : ∃ w3, w2.alloc (.cells #[.string (kb x.key), x.val] 87) = w3 := ⟨_, rfl⟩
  have b3 : Below w2.heap.size w2 w3 := hw3 ▸ (Below.refl _ _).alloc (Nat.le_refl _) _
  have kx3 : Blk w3 w2.heap.size 87 [.string (kb x.key), x.val] := hw3 ▸ Blk.new w2 _ _
  have T3 := T2.new (r := Res.blk w2.heap.size 87 [.string (kb x.key), x.val]) kx3 (by simp [Res.blk]) (by simp [Res.blk]) b3
  obtain ⟨cb, cav, ces, cbv, cks, rfl⟩ := P.eta p'
  obtain rfl : cb = kc.blk := hpb
  have T3 : Trk w F w3 (presi (.node b av es bv (kl ++ .node kc.blk cav ces cbv cks :: [])) ++ [Res.blk w2.heap.size 87 [.string (kb x.key), x.val], Res.blk w.heap.size 87 [.string ⟨#[]⟩, (.int .i64 0)]]) := T3.perm (perm_of_cnt fun a => by
    have e1 : ptrs (kl ++ .node kc.blk cav ces cbv cks :: []) = ptrs (kl ++ [kc]) := by simp [ptrs, P.blk]
    have e2 : (kl ++ P.node kc.blk cav ces cbv cks :: []).length = (kl ++ [kc]).length := by simp
    simp only [cnt_append, cnt_cons, cnt_nil, presi, presLi, rBi, rAi, rKi, P.resL_append, P.resL_cons, P.resL_nil, P.res_node, e1, e2] <;> omega)
  have hkel : es.length = (kl.map P.t).length := by
    have h2 : (kl ++ [kc]).length = kl.length + 1 := by simp
    rw [List.length_map]; omega
  have hcf2 : (T.node es ((kl ++ P.node kc.blk cav ces cbv cks :: []).map P.t)).flat = wl es (kl.map P.t) ++ init := by
    have h1 := flat_at es [] (kl.map P.t) (P.node kc.blk cav ces cbv cks).t [] hkel
    rw [List.append_nil, tl_nil, List.append_nil, hpfl] at h1
    rw [List.map_append]
    exact h1
  have hmd := mend_i d w3 b av bv es kl (.node kc.blk cav ces cbv cks) [] T3.sep.left (by rw [← hk]; simp) hes (fun q hq => hF q (by simpa using hq)) hpf (by
    rw [hcf2]
    have h1 := flat_at es [] (kl.map P.t) kc.t [] hkel
    rw [List.append_nil, tl_nil, List.append_nil, hcf] at h1
    have h2 : (kl ++ [kc]).map P.t = kl.map P.t ++ kc.t :: [] := by simp
    rw [h2, h1] at hfl
    simp at hfl ⊢
    omega)
  have HMD := Lib.hid hmd
  have HT3 := Lib.hid T3
  have HCF2 := Lib.hid hcf2
  unfold ptrV at HMD
  have hxl : w2.heap.size < w3.heap.size := kx3.lt
  have HW3 := Lib.hid hw3
  clear hT T2 T3 b3 kx3 hpf hpfl hcf2 hmd HC HLF HP1 HT1
  go_wp2_with fail
  refine HMD.out.mono ?_
  clear hw3
  rintro e w4 ⟨rfl, p2, hb2, hf2, hfl2, hT2⟩
  have T4 := HT3.out.call hT2
  have T4 : Trk w F w4 (Res.blk w.heap.size 87 [.string ⟨#[]⟩, (.int .i64 0)] :: Res.blk w2.heap.size 87 [.string (kb x.key), x.val] :: presi p2) := T4.perm (perm_of_cnt fun a => by simp only [cnt_append, cnt_cons, cnt_nil, presi, presLi, rBi, rAi, rKi, P.resL_append, P.resL_cons, P.resL_nil, P.res_node] <;> omega)
  have kz4 : Blk w4 w.heap.size 87 [.string ⟨#[]⟩, (.int .i64 0)] := T4.blk List.mem_cons_self
  have kx4 : Blk w4 w2.heap.size 87 [.string (kb x.key), x.val] := T4.blk (List.mem_cons_of_mem _ List.mem_cons_self)
  have z0 := kz4.cell 0
  have z1 := kz4.cell 1
  have v0 := kx4.cell 0
  have v1 := kx4.cell 1
  simp only [List.getElem?_cons_zero, List.getElem?_cons_succ] at z0 z1 v0 v1
  have hf0 := kz4.frozen 0
  have hf1 := kz4.frozen 1
  have HT4 := Lib.hid T4
  have HB2 := Lib.hid hb2
  have HF2 := Lib.hid hf2
  have HFL2 := Lib.hid hfl2
  clear T4 kz4 kx4 hT2 HT3 HMD hb2 hf2 hfl2
  go_wp2
  have T5 := (HT4.out.blkSet 0 (.string (kb x.key))).blkSet 1 x.val
  have kz5 : Blk ((w4.setCell ⟨w.heap.size, 0, none⟩ (.string (kb x.key))).setCell ⟨w.heap.size, 1, none⟩ x.val) w.heap.size 87 [.string (kb x.key), x.val] := T5.blk List.mem_cons_self
  have m0 := kz5.cell 0
  have m1 := kz5.cell 1
  simp only [List.getElem?_cons_zero, List.getElem?_cons_succ] at m0 m1
  exact bodyPost_ret (v := .agg #[.string (kb x.key), x.val]) (by simp [results, Try.results59, go_sem, m0, m1]) rfl ⟨rfl, p2, HB2.out, HF2.out, by rw [HFL2.out, HCF2.out], T5.drop.drop⟩

theorem last_any_i : ∀ (d m : Nat) (w : World) (p : P) (x : En) (init : List En), 1 ≤ m → Fat m d p.t → p.t.flat = init ++ [x] → p.t.flat.length ≤ 99999 → Sep w (presi p) →
    Calls Try.prog 59 #[ptrV p.blk] w fun e w' => e = .returned (.agg #[.string (kb x.key), x.val]) ∧ ∃ p', p'.blk = p.blk ∧ Fat (m - 1) d p'.t ∧ p'.t.flat = init ∧ Trk w (feet (presi p)) w' (presi p') := by
  intro d
  induction d with
  | zero =>
    intro m w p x init hm hf hfl hn hs
    obtain ⟨b, av, es, bv, ks, rfl⟩ := P.eta p
    rw [P.t_node] at hf hfl hn
    have hk0 : ks = [] := by simpa using hf.2
    subst hk0
    simp only [List.map_nil] at *
    rw [flat_leaf] at hfl hn
    subst hfl
    refine (last_leaf_i w b av bv init x hs (by simp at hn; omega)).mono ?_
    rintro e w' ⟨rfl, av', hT⟩
    refine ⟨rfl, .node b av' init bv [], rfl, ?_, ?_, hT⟩
    · rw [P.t_node]; exact ⟨by have := hf.1; simp at this; omega, rfl⟩
    · rw [P.t_node]; exact flat_leaf _
  | succ d ih =>
    intro m w p x init hm hf hfl hn hs
    obtain ⟨b, av, es, bv, ks, rfl⟩ := P.eta p
    rw [P.t_node] at hf hfl hn
    obtain ⟨hf1, hf2, hf3⟩ := hf
    have hkl : ks.length = es.length + 1 := by simpa using hf2
    rcases List.eq_nil_or_concat ks with h | ⟨kl, kc, h⟩
    · rw [h] at hkl; simp at hkl
    · rw [List.concat_eq_append] at h
      subst h
      have hlen : es.length = (kl.map P.t).length := by simp at hkl ⊢; omega
      have hfc : Fat 2 d kc.t := hf3 kc.t (by simp)
      have h1 := flat_at es [] (kl.map P.t) kc.t [] hlen
      rw [List.append_nil, tl_nil, List.append_nil] at h1
      have h2 : (kl ++ [kc]).map P.t = kl.map P.t ++ kc.t :: [] := by simp
      rw [h2, h1] at hfl
      have hn2 : kc.t.flat.length ≤ 99999 := by rw [h2, h1] at hn; simp at hn; omega
      have hcne : kc.t.flat ≠ [] := fun e => by
        have h3 := es_flat_len kc.t
        have h4 := hfc.len
        rw [e, List.length_nil] at h3
        omega
      have hci : kc.t.flat = kc.t.flat.dropLast ++ [kc.t.flat.getLast hcne] := (List.dropLast_concat_getLast hcne).symm
      have hx : kc.t.flat.getLast hcne = x ∧ init = wl es (kl.map P.t) ++ kc.t.flat.dropLast := by
        rw [hci, ← List.append_assoc] at hfl
        have h3 := List.append_inj' hfl rfl
        exact ⟨by simpa using h3.2, h3.1.symm⟩
      obtain ⟨hx1, hx2⟩ := hx
      rw [hx1] at hci
      have hxo : x.val.oneCell' = true := pres_onesi hs x (by rw [P.t_node, h2, h1, hci]; simp)
      refine (last_in_i d w b av bv es kl kc x kc.t.flat.dropLast hs hkl (by omega) (fun q hq => hf3 q.t (by rw [List.mem_map]; exact ⟨q, by simp [hq], rfl⟩)) hn hci hxo (fun w2 hs2 => ?_)).mono ?_
      · exact ih 2 w2 kc x kc.t.flat.dropLast (by omega) hfc hci hn2 hs2
      · rintro e w' ⟨rfl, p', hb, hf', hfl', hT⟩
        exact ⟨rfl, p', hb, hf'.weaken (by omega), by rw [hfl', hx2], hT⟩

end Go.Proofs.Ytfnndifckgjmjaa
/- Pages: drop. -/
namespace Go.Proofs.Ytfnndifckgjmjaa
open Go.RowKit Go.Afx

@[go_sem] theorem field_val_i (w : World) (s v : Value) : (Instr.field 87 (.agg #[s, v]) 1).run Try.prog w = .ok v w := by
  unfold Instr.field
  simp only [Sem.run_bind, run_underlying Try.underlying87, Result.andThen_ok]
  simp [part, isAgg, asAgg, go_sem]

set_option maxRecDepth 100000 in
set_option maxHeartbeats 4000000 in
theorem drop_leaf0_i (w : World) (b : Nat) (av bv : Value) (es : List En) (k : Key) (hs : Sep w (presi (.node b av es bv []))) (hr : Rise es) (hn : es.length ≤ 99999) (hh : has k es = false) :
    Calls Try.prog 34 #[ptrV b, .string (kb k)] w fun e w' => e = .returned (.tuple #[(.int .i64 0), .bool false]) ∧ Trk w (feet (presi (.node b av es bv []))) w' (presi (.node b av es bv [])) := by
  have T0 := Trk.start hs
  generalize hF : feet (presi (.node b av es bv [])) = F at *
  rw [pres_i] at T0
  have kb0 : Blk w b 66 [av, bv] := T0.blk (by simp only [List.mem_cons, true_or, or_true])
  have oa : Own w 87 2 av es.length (enC es) := T0.own (by simp only [List.mem_cons, true_or, or_true])
  have ok : Own w 60 1 bv ([] : List P).length (ptrs []) := T0.own (by simp only [List.mem_cons, true_or, or_true])
  obtain ⟨pk, ck, hbv, _, _⟩ := own_form_Pi ok
  have HFD := Lib.hid (find_i w b _ av bv es k (fun _ => True) kb0 (oa.sl (B := fun _ => True) (fun _ _ => trivial)) hr (by omega))
  rw [hh] at HFD
  generalize pos k es = i at *
  have HT0 := Lib.hid T0
  have HBV := Lib.hid hbv
  have hbl := kb0.lt
  unfold ptrV at HFD ⊢
  clear T0 kb0 oa ok hh hs hF hr hbv
  go_enter Try.func34, Try.ntmps34
  go_wp2_with fail
  refine HFD.out.mono ?_
  clear HFD
  rintro e w2 ⟨rfl, hb2⟩
  have T2 := HT0.out.below hb2
  have kb2 : Blk w2 b 66 [av, bv] := T2.blk (by simp only [List.mem_cons, true_or, or_true])
  have HLF := Lib.hid (leaf_i w2 b _ av pk 0 ck (HBV.out ▸ kb2))
  have HT2 := Lib.hid T2
  unfold ptrV at HLF
  clear T2 kb2 hb2
  go_wp2_with fail
  refine HLF.out.mono ?_
  rintro e wq ⟨rfl, hq⟩
  subst hq
  go_wp2
  exact bodyPost_ret (v := .tuple #[(.int .i64 0), .bool false]) (by simp [results, Try.results34, go_sem]) rfl ⟨rfl, HT2.out⟩
set_option maxRecDepth 100000 in
set_option maxHeartbeats 4000000 in
theorem drop_leaf1_i (w : World) (b : Nat) (av bv : Value) (es : List En) (k : Key) (hs : Sep w (presi (.node b av es bv []))) (hr : Rise es) (hn : es.length ≤ 99999) (hh : has k es = true) :
    Calls Try.prog 34 #[ptrV b, .string (kb k)] w fun e w' => ∃ x, es[pos k es]? = some x ∧ e = .returned (.tuple #[x.val, .bool true]) ∧ ∃ av', Trk w (feet (presi (.node b av es bv []))) w' (presi (.node b av' (es.take (pos k es) ++ es.drop (pos k es + 1)) bv [])) := by
  have T0 := Trk.start hs
  generalize hF : feet (presi (.node b av es bv [])) = F at *
  rw [pres_i] at T0
  obtain ⟨hpl, hkey⟩ := has_at.1 hh
  have kb0 : Blk w b 66 [av, bv] := T0.blk (by simp only [List.mem_cons, true_or, or_true])
  have oa : Own w 87 2 av es.length (enC es) := T0.own (by simp only [List.mem_cons, true_or, or_true])
  have ok : Own w 60 1 bv ([] : List P).length (ptrs []) := T0.own (by simp only [List.mem_cons, true_or, or_true])
  obtain ⟨pk, ck, hbv, _, _⟩ := own_form_Pi ok
  have HFD := Lib.hid (find_i w b _ av bv es k (fun _ => True) kb0 (oa.sl (B := fun _ => True) (fun _ _ => trivial)) hr (by omega))
  rw [hh] at HFD
  have hx : es[pos k es]? = some es[pos k es] := List.getElem?_eq_getElem hpl
  have HX := Lib.hid hx
  have HRM := Lib.hid (fun (w2 : World) (h : Sep w2 [rBi b av bv, rAi av es]) => remove_ri w2 b (pos k es) av bv es h hpl (by omega))
  generalize es.take (pos k es) ++ es.drop (pos k es + 1) = es2 at *
  generalize es[pos k es] = x at *
  generalize pos k es = i at *
  have HT0 := Lib.hid T0
  have HBV := Lib.hid hbv
  have hbl := kb0.lt
  unfold ptrV at HFD HRM ⊢
  clear T0 kb0 oa ok hkey hx hh hs hF hr hbv
  go_enter Try.func34, Try.ntmps34
  go_wp2_with fail
  refine HFD.out.mono ?_
  clear HFD
  rintro e w2 ⟨rfl, hb2⟩
  have T2 : Trk w F w2 ([rBi b av bv, rAi av es] ++ [rKi bv []]) := (HT0.out.below hb2).perm (perm_of_cnt fun a => by simp only [cnt_append, cnt_cons, cnt_nil, presi, presLi, rBi, rAi, rKi, P.resL_append, P.resL_cons, P.resL_nil, P.res_node] <;> omega)
  have kb2 : Blk w2 b 66 [av, bv] := T2.blk (by simp only [List.cons_append, List.mem_cons, true_or, or_true])
  have HLF := Lib.hid (leaf_i w2 b _ av pk 0 ck (HBV.out ▸ kb2))
  have HT2 := Lib.hid T2
  unfold ptrV at HLF
  clear T2 kb2 hb2
  go_wp2_with fail
  refine HLF.out.mono ?_
  rintro e wq ⟨rfl, hq⟩
  subst hq
  go_wp2_with fail
  refine HLF.out.mono ?_
  rintro e wq2 ⟨rfl, hq⟩
  subst hq
  go_wp2_with fail
  refine (HRM.out _ HT2.out.sep.left).mono ?_
  rintro e w3 ⟨rfl, av', hT⟩
  have T3 : Trk w F w3 (presi (.node b av' es2 bv [])) := (HT2.out.call hT).perm (perm_of_cnt fun a => by simp only [cnt_append, cnt_cons, cnt_nil, presi, presLi, rBi, rAi, rKi, P.resL_append, P.resL_cons, P.resL_nil, P.res_node] <;> omega)
  have HT3 := Lib.hid T3
  clear hT T3
  go_wp2
  exact bodyPost_ret (v := .tuple #[x.val, .bool true]) (by simp [results, Try.results34, go_sem]) rfl ⟨x, HX.out, rfl, av', HT3.out⟩


set_option maxRecDepth 100000 in
set_option maxHeartbeats 4000000 in
theorem drop_in_i (d : Nat) (w : World) (b : Nat) (av bv : Value) (ea eb : List En) (kl : List P) (kc : P) (kr : List P) (k : Key) (x : Value) (y : Bool) (fl' : List En) (hs : Sep w (presi (.node b av (ea ++ eb) bv (kl ++ kc :: kr)))) (hr : Rise (ea ++ eb)) (hk : (kl ++ kc :: kr).length = (ea ++ eb).length + 1) (hes : 1 ≤ (ea ++ eb).length) (hF : ∀ q ∈ kl ++ kr, Fat 2 d q.t)
    (hn : (ea ++ eb).length ≤ 99999) (hh : has k (ea ++ eb) = false) (hl : kl.length = pos k (ea ++ eb)) (hal : ea.length = kl.length) (hfl : (wl ea (kl.map P.t) ++ (fl' ++ tl eb (kr.map P.t))).length ≤ 99999)
    (hc : ∀ w2, Sep w2 (presi kc) → Calls Try.prog 34 #[ptrV kc.blk, .string (kb k)] w2 fun e w' => e = .returned (.tuple #[x, .bool y]) ∧ ∃ p', p'.blk = kc.blk ∧ Fat 1 d p'.t ∧ p'.t.flat = fl' ∧ Trk w2 (feet (presi kc)) w' (presi p')) :
    Calls Try.prog 34 #[ptrV b, .string (kb k)] w fun e w' => e = .returned (.tuple #[x, .bool y]) ∧ ∃ p', p'.blk = b ∧ Fat ((ea ++ eb).length - 1) (d + 1) p'.t ∧ p'.t.flat = wl ea (kl.map P.t) ++ (fl' ++ tl eb (kr.map P.t)) ∧
      Trk w (feet (presi (.node b av (ea ++ eb) bv (kl ++ kc :: kr)))) w' (presi p') := by
  have T0 := Trk.start hs
  generalize hFF : feet (presi (.node b av (ea ++ eb) bv (kl ++ kc :: kr))) = F at *
  have T0 : Trk w F w (rBi b av bv :: rAi av (ea ++ eb) :: rKi bv (kl ++ kc :: kr) :: (presi kc ++ (presLi kl ++ presLi kr))) := T0.perm (perm_of_cnt fun a => by simp only [cnt_append, cnt_cons, cnt_nil, presi, presLi, rBi, rAi, rKi, P.resL_append, P.resL_cons, P.resL_nil, P.res_node] <;> omega)
  have kb0 : Blk w b 66 [av, bv] := T0.blk (by simp only [List.mem_cons, true_or, or_true])
  have oa : Own w 87 2 av (ea ++ eb).length (enC (ea ++ eb)) := T0.own (by simp only [List.mem_cons, true_or, or_true])
  have ok : Own w 60 1 bv (kl ++ kc :: kr).length (ptrs (kl ++ kc :: kr)) := T0.own (by simp only [List.mem_cons, true_or, or_true])
  have HFD := Lib.hid (find_i w b _ av bv (ea ++ eb) k (fun _ => True) kb0 (oa.sl (B := fun _ => True) (fun _ _ => trivial)) hr (by omega))
  rw [hh, ← hl] at HFD
  have HPT := Lib.hid (fun (w2 : World) (h : Own w2 60 1 bv (kl ++ kc :: kr).length (ptrs (kl ++ kc :: kr))) => sl_ptr (k := kl.length) (h.sl (B := fun _ => True) (fun _ _ => trivial)) (by simp))
  have hcl : (kl ++ kc :: kr)[kl.length]'(by simp) = kc := by simp
  rw [hcl] at HPT
  obtain ⟨gk, offk, capk, hbv, hgk, p0⟩ := HPT.out w ok
  obtain ⟨nk, hnk⟩ : ∃ nk, (kl ++ kc :: kr).length = nk := ⟨_, rfl⟩
  rw [hnk] at hbv
  have hlnk : kl.length < nk := by rw [← hnk]; simp
  have hnk0 : ¬ nk = 0 := by omega
  have HNK := Lib.hid hnk
  have HBV := Lib.hid hbv
  have HT0 := Lib.hid T0
  have hbl := kb0.lt
  have HL := Lib.hid hl

  clear T0 kb0 oa ok hh hs hFF hr hbv hcl p0 hnk hl
  unfold ptrV at HFD hc ⊢
  go_enter Try.func34, Try.ntmps34
  go_wp2_with fail
  refine HFD.out.mono ?_
  clear HFD
  rintro e w2 ⟨rfl, hb2⟩
  have T2 := HT0.out.below hb2
  have kb2 : Blk w2 b 66 [av, bv] := T2.blk (by simp only [List.mem_cons, true_or, or_true])
  have ok2 : Own w2 60 1 bv (kl ++ kc :: kr).length (ptrs (kl ++ kc :: kr)) := T2.own (by simp only [List.mem_cons, true_or, or_true])
  have hlf := leaf_i w2 b _ av (some ⟨gk, offk, none⟩) nk capk (HBV.out ▸ kb2)
  rw [decide_eq_false hnk0] at hlf
  have HLF := Lib.hid hlf
  unfold ptrV at HLF
  obtain ⟨g', off', cap', hv', hg2, p0⟩ := HPT.out w2 ok2
  rw [HBV.out, HNK.out] at hv'
  cases hv'
  obtain ⟨y0, y1⟩ := pg_cells kb2
  rw [HBV.out] at y1
  have hp2 : (rBi b av bv :: rAi av (ea ++ eb) :: rKi bv (kl ++ kc :: kr) :: (presi kc ++ (presLi kl ++ presLi kr))).Perm (presi kc ++ (rBi b av bv :: rAi av (ea ++ eb) :: rKi bv (kl ++ kc :: kr) :: (presLi kl ++ presLi kr))) := perm_of_cnt fun a => by simp only [cnt_append, cnt_cons, cnt_nil, presi, presLi, rBi, rAi, rKi, P.resL_append, P.resL_cons, P.resL_nil, P.res_node] <;> omega
  have HC := Lib.hid (hc w2 (T2.sepOf hp2))
  have HT2 := Lib.hid T2
  have HP2 := Lib.hid hp2
  unfold ptrV at p0
  clear T2 kb2 ok2 hlf hp2 hb2 hc
  go_wp2_with fail
  refine HLF.out.mono ?_
  rintro e wq ⟨rfl, hq⟩
  subst hq
  go_wp2_with fail
  refine HLF.out.mono ?_
  rintro e wq2 ⟨rfl, hq⟩
  subst hq
  go_wp2_with fail
  refine HC.out.mono ?_
  rintro e w3 ⟨rfl, p', hpb, hpf, hpfl, hT3⟩
  have T3 := HT2.out.use HP2.out hT3
  obtain ⟨cb, cav, ces, cbv, cks, rfl⟩ := P.eta p'
  obtain rfl : cb = kc.blk := hpb
  have hptr : ptrs (kl ++ .node kc.blk cav ces cbv cks :: kr) = ptrs (kl ++ kc :: kr) := by simp [ptrs, P.blk]
  have hlen : (kl ++ P.node kc.blk cav ces cbv cks :: kr).length = (kl ++ kc :: kr).length := by simp
  have T3 : Trk w F w3 (presi (.node b av (ea ++ eb) bv (kl ++ .node kc.blk cav ces cbv cks :: kr))) := T3.perm (perm_of_cnt fun a => by simp only [cnt_append, cnt_cons, cnt_nil, presi, presLi, rBi, rAi, rKi, P.resL_append, P.resL_cons, P.res_node, hptr, hlen] <;> omega)
  have hff : (T.node (ea ++ eb) ((kl ++ P.node kc.blk cav ces cbv cks :: kr).map P.t)).flat = wl ea (kl.map P.t) ++ (fl' ++ tl eb (kr.map P.t)) := by
    have h1 := flat_at ea eb (kl.map P.t) (P.node kc.blk cav ces cbv cks).t (kr.map P.t) (by rw [List.length_map]; exact hal)
    rw [hpfl] at h1
    rw [List.map_append, List.map_cons]
    exact h1
  have hmd := mend_i d w3 b av bv (ea ++ eb) kl (.node kc.blk cav ces cbv cks) kr T3.sep (by rw [hlen]; exact hk) hes hF hpf (by rw [hff]; exact hfl)
  unfold ptrV at hmd
  have HMD := Lib.hid hmd
  have HT3 := Lib.hid T3
  have HFF := Lib.hid hff
  clear hT3 T3 hpf hpfl hff hmd HC HLF HT2 HP2 p0 y0 y1 hptr hlen HT0
  go_wp2_with fail
  refine HMD.out.mono ?_
  rintro e w4 ⟨rfl, p2, hb2, hf2, hfl2, hT2⟩
  have T4 := HT3.out.use (rest := []) (by rw [List.append_nil]) hT2
  rw [List.append_nil] at T4
  have HT4 := Lib.hid T4
  have HB2 := Lib.hid hb2
  have HF2 := Lib.hid hf2
  have HFL2 := Lib.hid hfl2
  clear T4 hT2 hb2 hf2 hfl2 HMD HT3
  go_wp2
  exact bodyPost_ret (v := .tuple #[x, .bool y]) (by simp [results, Try.results34, go_sem]) rfl ⟨rfl, p2, HB2.out, HF2.out, by rw [HFL2.out, HFF.out], HT4.out⟩


set_option maxRecDepth 100000 in
set_option maxHeartbeats 4000000 in
theorem drop_hit_i (d : Nat) (w : World) (b : Nat) (av bv : Value) (ea eb : List En) (kl : List P) (kc : P) (kr : List P) (k : Key) (v : Value) (x : En) (init : List En) (hs : Sep w (presi (.node b av (ea ++ ⟨k, v⟩ :: eb) bv (kl ++ kc :: kr)))) (hr : Rise (ea ++ ⟨k, v⟩ :: eb)) (hk : (kl ++ kc :: kr).length = (ea ++ ⟨k, v⟩ :: eb).length + 1) (hF : ∀ q ∈ kl ++ kr, Fat 2 d q.t)
    (hn : (ea ++ ⟨k, v⟩ :: eb).length ≤ 99999) (hh : has k (ea ++ ⟨k, v⟩ :: eb) = true) (hl : kl.length = pos k (ea ++ ⟨k, v⟩ :: eb)) (hal : ea.length = kl.length) (hxo : x.val.oneCell' = true) (hfl : (wl ea (kl.map P.t) ++ (init ++ tl (x :: eb) (kr.map P.t))).length ≤ 99999)
    (hc : ∀ w2, Sep w2 (presi kc) → Calls Try.prog 59 #[ptrV kc.blk] w2 fun e w' => e = .returned (.agg #[.string (kb x.key), x.val]) ∧ ∃ p', p'.blk = kc.blk ∧ Fat 1 d p'.t ∧ p'.t.flat = init ∧ Trk w2 (feet (presi kc)) w' (presi p')) :
    Calls Try.prog 34 #[ptrV b, .string (kb k)] w fun e w' => e = .returned (.tuple #[v, .bool true]) ∧ ∃ p', p'.blk = b ∧ Fat ((ea ++ ⟨k, v⟩ :: eb).length - 1) (d + 1) p'.t ∧ p'.t.flat = wl ea (kl.map P.t) ++ (init ++ tl (x :: eb) (kr.map P.t)) ∧
      Trk w (feet (presi (.node b av (ea ++ ⟨k, v⟩ :: eb) bv (kl ++ kc :: kr)))) w' (presi p') := by
  have T0 := Trk.start hs
  generalize hFF : feet (presi (.node b av (ea ++ ⟨k, v⟩ :: eb) bv (kl ++ kc :: kr))) = F at *
  have T0 : Trk w F w (rBi b av bv :: rAi av (ea ++ ⟨k, v⟩ :: eb) :: rKi bv (kl ++ kc :: kr) :: (presi kc ++ (presLi kl ++ presLi kr))) := T0.perm (perm_of_cnt fun a => by simp only [cnt_append, cnt_cons, cnt_nil, presi, presLi, rBi, rAi, rKi, P.resL_append, P.resL_cons, P.resL_nil, P.res_node] <;> omega)
  have kb0 : Blk w b 66 [av, bv] := T0.blk (by simp only [List.mem_cons, true_or, or_true])
  have oa : Own w 87 2 av (ea ++ ⟨k, v⟩ :: eb).length (enC (ea ++ ⟨k, v⟩ :: eb)) := T0.own (by simp only [List.mem_cons, true_or, or_true])
  have ok : Own w 60 1 bv (kl ++ kc :: kr).length (ptrs (kl ++ kc :: kr)) := T0.own (by simp only [List.mem_cons, true_or, or_true])
  have HFD := Lib.hid (find_i w b _ av bv (ea ++ ⟨k, v⟩ :: eb) k (fun _ => True) kb0 (oa.sl (B := fun _ => True) (fun _ _ => trivial)) hr (by omega))
  rw [hh, ← hl] at HFD
  have HPT := Lib.hid (fun (w2 : World) (h : Own w2 60 1 bv (kl ++ kc :: kr).length (ptrs (kl ++ kc :: kr))) => sl_ptr (k := kl.length) (h.sl (B := fun _ => True) (fun _ _ => trivial)) (by simp))
  have hcl : (kl ++ kc :: kr)[kl.length]'(by simp) = kc := by simp
  rw [hcl] at HPT
  obtain ⟨gk, offk, capk, hbv, hgk, p0⟩ := HPT.out w ok
  obtain ⟨nk, hnk⟩ : ∃ nk, (kl ++ kc :: kr).length = nk := ⟨_, rfl⟩
  rw [hnk] at hbv
  have hlnk : kl.length < nk := by rw [← hnk]; simp
  have hnk0 : ¬ nk = 0 := by omega
  have HNK := Lib.hid hnk
  have HBV := Lib.hid hbv
  have HT0 := Lib.hid T0
  have hbl := kb0.lt
  have HL := Lib.hid hl

  obtain ⟨ne, hne⟩ : ∃ ne, (ea ++ ⟨k, v⟩ :: eb).length = ne := ⟨_, rfl⟩
  have hle1 : kl.length < ne := by rw [← hne, ← hal]; simp
  have hex : (ea ++ ⟨k, v⟩ :: eb)[kl.length]'(by rw [hne]; exact hle1) = ⟨k, v⟩ := by
    have h1 : (ea ++ ⟨k, v⟩ :: eb)[kl.length]? = some ⟨k, v⟩ := by rw [← hal]; simp
    have h2 : kl.length < (ea ++ ⟨k, v⟩ :: eb).length := by rw [hne]; exact hle1
    rw [List.getElem?_eq_getElem h2] at h1
    exact Option.some.inj h1
  have HEX : Hid (∀ w2, Own w2 87 2 av (ea ++ ⟨k, v⟩ :: eb).length (enC (ea ++ ⟨k, v⟩ :: eb)) → ∃ g off cap, av = .slice (some ⟨g, off, none⟩) ne cap ∧ g < w2.heap.size ∧ w2.cell? ⟨g, off + kl.length * 2, none⟩ = some (.string (kb k)) ∧ w2.cell? ⟨g, off + kl.length * 2 + 1, none⟩ = some v) := fun w2 h => by
    have h2 := sl_en (k := kl.length) (h.sl (B := fun _ => True) (fun _ _ => trivial)) (by rw [hne]; exact hle1)
    rw [hex, hne] at h2
    exact h2
  obtain ⟨ge, offe, cape, hav, hge, _, _⟩ := HEX.out w oa
  have HAV := Lib.hid hav
  have HNE := Lib.hid hne
  have HAL := Lib.hid hal
  have HXO := Lib.hid hxo
  clear T0 kb0 oa ok hh hs hFF hr hbv hcl p0 hnk hl hav hne hal hxo hex
  unfold ptrV at HFD hc ⊢
  go_enter Try.func34, Try.ntmps34
  go_wp2_with fail
  refine HFD.out.mono ?_
  clear HFD
  rintro e w2 ⟨rfl, hb2⟩
  have T2 := HT0.out.below hb2
  have kb2 : Blk w2 b 66 [av, bv] := T2.blk (by simp only [List.mem_cons, true_or, or_true])
  have ok2 : Own w2 60 1 bv (kl ++ kc :: kr).length (ptrs (kl ++ kc :: kr)) := T2.own (by simp only [List.mem_cons, true_or, or_true])
  have oa2 : Own w2 87 2 av (ea ++ ⟨k, v⟩ :: eb).length (enC (ea ++ ⟨k, v⟩ :: eb)) := T2.own (by simp only [List.mem_cons, true_or, or_true])
  have hlf := leaf_i w2 b _ av (some ⟨gk, offk, none⟩) nk capk (HBV.out ▸ kb2)
  rw [decide_eq_false hnk0] at hlf
  have HLF := Lib.hid hlf
  unfold ptrV at HLF
  obtain ⟨g', off', cap', hv', hg2, p0⟩ := HPT.out w2 ok2
  rw [HBV.out, HNK.out] at hv'
  cases hv'
  obtain ⟨g', off', cap', hv', hg3, v0, v1⟩ := HEX.out w2 oa2
  rw [HAV.out] at hv'
  cases hv'
  obtain ⟨y0, y1⟩ := pg_cells kb2
  rw [HBV.out] at y1
  rw [HAV.out] at y0
  have T2 : Trk w F w2.drew (presi kc ++ (rBi b av bv :: rAi av (ea ++ ⟨k, v⟩ :: eb) :: rKi bv (kl ++ kc :: kr) :: (presLi kl ++ presLi kr))) := T2.drew.perm (perm_of_cnt fun a => by simp only [cnt_append, cnt_cons, cnt_nil, presi, presLi, rBi, rAi, rKi, P.resL_append, P.resL_cons, P.resL_nil, P.res_node] <;> omega)
  have HC := Lib.hid (hc w2.drew T2.sep.left)
  have HT2 := Lib.hid T2
  have HKB2 := Lib.hid kb2.drew
  unfold ptrV at p0
  clear T2 kb2 ok2 oa2 hlf hb2 hc
  go_wp2_with fail
  refine HLF.out.mono ?_
  rintro e wq ⟨rfl, hq⟩
  subst hq
  go_wp2_with fail
  refine HLF.out.mono ?_
  rintro e wq2 ⟨rfl, hq⟩
  subst hq
  go_wp2_with fail
  refine wp_region_lit_plan [] [(0, 0), (1, 0), (2, 0), (3, 0), (5, 0), (6, 0), (7, 0), (8, 0), (10, 0), (4, 2), (9, 1), (11, 0), (12, 1), (13, 3), (14, 0), (15, 4)] (fun q => q = b) (by kernel_rfl) (by kernel_rfl) (fun c a d v w h => by cases d <;> exact h) ?_
  go_wp2_with (first | (refine plan_pure (v := _) (by rfl) (by rfl) (by rfl) (by intro _; go_simp; with_reducible rfl) ?_; simp only [List.setIfInBounds_toArray, List.set_cons_zero, List.set_cons_succ]; try go_bits) | (refine plan_read (v := _) (by rfl) (by rfl) (by rfl) (by go_simp; with_reducible rfl) ?_; simp only [List.setIfInBounds_toArray, List.set_cons_zero, List.set_cons_succ]; try go_bits) | (refine plan_readB (v := _) (by rfl) (by rfl) (by rfl) (by intro _ hag; unfold Agree at hag; go_simp; with_reducible rfl) ?_; simp only [List.setIfInBounds_toArray, List.set_cons_zero, List.set_cons_succ]; try go_bits) | (refine plan_skip0 (by rfl) (by rfl) (by rfl) ?_; simp only [List.setIfInBounds_toArray, List.set_cons_zero, List.set_cons_succ]; try go_bits) | (refine plan_skip1 (by rfl) (by rfl) (by rfl) ?_; simp only [List.setIfInBounds_toArray, List.set_cons_zero, List.set_cons_succ]; try go_bits) | (refine plan_skip2 (by rfl) (by rfl) (by rfl) ?_; simp only [List.setIfInBounds_toArray, List.set_cons_zero, List.set_cons_succ]; try go_bits) | (refine plan_skip4 (by rfl) (by rfl) (by rfl) ?_; simp only [List.setIfInBounds_toArray, List.set_cons_zero, List.set_cons_succ]; try go_bits) | (refine plan_any (by rfl) ?_) | (refine plan_keep (by rfl) ?_) | (refine plan_nil ?_) | (with_reducible refine And.intro (by first | assumption | exact Agree.refl _ _ | exact agree_drew _ _ | exact agree_alloc _ (by intro k hk; subst hk; first | omega | (simp; omega))) ?_) | (unfold Act.put; simp only [List.setIfInBounds_toArray, List.set_cons_zero, List.set_cons_succ]))
  refine HC.out.mono ?_
  rintro e w3 ⟨rfl, p', hpb, hpf, hpfl, hT3⟩
  have T3 := HT2.out.call hT3
  obtain ⟨cb, cav, ces, cbv, cks, rfl⟩ := P.eta p'
  obtain rfl : cb = kc.blk := hpb
  have hptr : ptrs (kl ++ .node kc.blk cav ces cbv cks :: kr) = ptrs (kl ++ kc :: kr) := by simp [ptrs, P.blk]
  have hlen : (kl ++ P.node kc.blk cav ces cbv cks :: kr).length = (kl ++ kc :: kr).length := by simp
  have T3 : Trk w F w3 (rAi av (ea ++ ⟨k, v⟩ :: eb) :: rBi b av bv :: rKi bv (kl ++ .node kc.blk cav ces cbv cks :: kr) :: presLi (kl ++ .node kc.blk cav ces cbv cks :: kr)) := T3.perm (perm_of_cnt fun a => by simp only [cnt_append, cnt_cons, cnt_nil, presi, presLi, rBi, rAi, rKi, P.resL_append, P.resL_cons, P.res_node, hptr, hlen] <;> omega)
  have kb3 : Blk w3 b 66 [av, bv] := T3.blk (by simp only [List.mem_cons, true_or, or_true])
  have oa3 : Own w3 87 2 av (ea ++ ⟨k, v⟩ :: eb).length (enC (ea ++ ⟨k, v⟩ :: eb)) := T3.own (by simp only [List.mem_cons, true_or, or_true])
  have hag := agree_blk HKB2.out kb3
  obtain ⟨g', off', cap', hv', hg4, v0, v1⟩ := HEX.out w3 oa3
  rw [HAV.out] at hv'
  cases hv'
  rw [HAV.out, HNE.out] at oa3
  have hf0 : w3.frozen? ⟨ge, offe + kl.length * 2, none⟩ = false := (oa3.cellAt (j := kl.length * 2) (by omega)).2
  have hf1 : w3.frozen? ⟨ge, offe + kl.length * 2 + 1, none⟩ = false := by
    have h1 := (oa3.cellAt (j := kl.length * 2 + 1) (by omega)).2
    rwa [← Nat.add_assoc] at h1
  have hxo := HXO.out
  have HT3 := Lib.hid T3
  have HPF := Lib.hid hpf
  have HPFL := Lib.hid hpfl
  clear hT3 T3 oa3 hpf hpfl HC HLF HT2 HKB2 HT0
  go_upto_region 11 with (first | (refine plan_pure (v := _) (by rfl) (by rfl) (by rfl) (by intro _; go_simp; with_reducible rfl) ?_; simp only [List.setIfInBounds_toArray, List.set_cons_zero, List.set_cons_succ]; try go_bits) | (refine plan_read (v := _) (by rfl) (by rfl) (by rfl) (by go_simp; with_reducible rfl) ?_; simp only [List.setIfInBounds_toArray, List.set_cons_zero, List.set_cons_succ]; try go_bits) | (refine plan_readB (v := _) (by rfl) (by rfl) (by rfl) (by intro _ hag; unfold Agree at hag; go_simp; with_reducible rfl) ?_; simp only [List.setIfInBounds_toArray, List.set_cons_zero, List.set_cons_succ]; try go_bits) | (refine plan_skip0 (by rfl) (by rfl) (by rfl) ?_; simp only [List.setIfInBounds_toArray, List.set_cons_zero, List.set_cons_succ]; try go_bits) | (refine plan_skip1 (by rfl) (by rfl) (by rfl) ?_; simp only [List.setIfInBounds_toArray, List.set_cons_zero, List.set_cons_succ]; try go_bits) | (refine plan_skip2 (by rfl) (by rfl) (by rfl) ?_; simp only [List.setIfInBounds_toArray, List.set_cons_zero, List.set_cons_succ]; try go_bits) | (refine plan_skip4 (by rfl) (by rfl) (by rfl) ?_; simp only [List.setIfInBounds_toArray, List.set_cons_zero, List.set_cons_succ]; try go_bits) | (refine plan_any (by rfl) ?_) | (refine plan_keep (by rfl) ?_) | (refine plan_nil ?_) | (with_reducible refine And.intro (by first | assumption | exact Agree.refl _ _ | exact agree_drew _ _ | exact agree_alloc _ (by intro k hk; subst hk; first | omega | (simp; omega))) ?_) | (unfold Act.put; simp only [List.setIfInBounds_toArray, List.set_cons_zero, List.set_cons_succ]))
  have T4 : Trk w F ((w3.setCell ⟨ge, offe + kl.length * 2, none⟩ (.string (kb x.key))).setCell ⟨ge, offe + kl.length * 2 + 1, none⟩ x.val) (rAi av (ea ++ x :: eb) :: rBi b av bv :: rKi bv (kl ++ .node kc.blk cav ces cbv cks :: kr) :: presLi (kl ++ .node kc.blk cav ces cbv cks :: kr)) := by
    have h := HT3.out
    have e : (ea ++ ⟨k, v⟩ :: eb).set kl.length x = ea ++ x :: eb := set_len HAL.out
    rw [← e]
    rw [HAV.out] at h ⊢
    exact h.setEn HNE.out.symm (by rw [HNE.out]; exact hle1) x hxo
  generalize ((w3.setCell ⟨ge, offe + kl.length * 2, none⟩ (.string (kb x.key))).setCell ⟨ge, offe + kl.length * 2 + 1, none⟩ x.val) = w4 at *
  have T4 : Trk w F w4 (presi (.node b av (ea ++ x :: eb) bv (kl ++ .node kc.blk cav ces cbv cks :: kr))) := T4.perm (perm_of_cnt fun a => by simp only [cnt_append, cnt_cons, cnt_nil, presi, presLi, rBi, rAi, rKi, P.resL_append, P.resL_cons, P.resL_nil, P.res_node] <;> omega)
  have hff : (T.node (ea ++ x :: eb) ((kl ++ P.node kc.blk cav ces cbv cks :: kr).map P.t)).flat = wl ea (kl.map P.t) ++ (init ++ tl (x :: eb) (kr.map P.t)) := by
    have h1 := flat_at ea (x :: eb) (kl.map P.t) (P.node kc.blk cav ces cbv cks).t (kr.map P.t) (by rw [List.length_map]; exact HAL.out)
    rw [HPFL.out] at h1
    rw [List.map_append, List.map_cons]
    exact h1
  have hesl : (ea ++ x :: eb).length = (ea ++ ⟨k, v⟩ :: eb).length := by simp
  have hmd := mend_i d w4 b av bv (ea ++ x :: eb) kl (.node kc.blk cav ces cbv cks) kr T4.sep (by rw [hlen, hesl]; exact hk) (by simp <;> omega) hF HPF.out (by rw [hff]; exact hfl)
  rw [hesl] at hmd
  unfold ptrV at hmd
  have HMD := Lib.hid hmd
  have HT4 := Lib.hid T4
  have HFF := Lib.hid hff
  clear T4 hff hmd hag kb3 v0 v1 hf0 hf1 hxo HT3 hptr hlen hesl
  go_wp2_with fail
  refine HMD.out.mono ?_
  rintro e w5 ⟨rfl, p2, hb2, hf2, hfl2, hT2⟩
  have T5 := HT4.out.use (rest := []) (by rw [List.append_nil]) hT2
  rw [List.append_nil] at T5
  have HT5 := Lib.hid T5
  have HB2 := Lib.hid hb2
  have HF2 := Lib.hid hf2
  have HFL2 := Lib.hid hfl2
  clear T5 hT2 hb2 hf2 hfl2 HMD HT4
  go_wp2
  exact bodyPost_ret (v := .tuple #[v, .bool true]) (by simp [results, Try.results34, go_sem]) rfl ⟨rfl, p2, HB2.out, HF2.out, by rw [HFL2.out, HFF.out], HT5.out⟩

end Go.Proofs.Ytfnndifckgjmjaa
/- Trees: Delete. -/
namespace Go.Proofs.Ytfnndifckgjmjaa
open Go.RowKit Go.Afx

theorem drop_any_i (k : Key) : ∀ (d m : Nat) (w : World) (p : P), (0 < d → 1 ≤ m) → Fat m d p.t → Rise p.t.flat → p.t.flat.length ≤ 99999 → Sep w (presi p) →
    Calls Try.prog 34 #[ptrV p.blk, .string (kb k)] w fun e w' => e = .returned (.tuple #[(Afx.look k p.t.flat).getD (.int .i64 0), .bool (Afx.look k p.t.flat).isSome]) ∧ ∃ p', p'.blk = p.blk ∧ Fat (m - 1) d p'.t ∧ p'.t.flat = del k p.t.flat ∧ Trk w (feet (presi p)) w' (presi p') := by
  intro d
  induction d with
  | zero =>
    intro m w p hm hf hr hn hs
    obtain ⟨b, av, es, bv, ks, rfl⟩ := P.eta p
    rw [P.t_node] at hf hr hn ⊢
    have hk0 : ks = [] := by simpa using hf.2
    subst hk0
    simp only [List.map_nil] at *
    rw [flat_leaf] at *
    have hn2 : es.length ≤ 99999 := hn
    obtain ⟨a, b', hlf⟩ := leaf_page (k := k) (es := es) (by rw [flat_leaf]; exact hr)
    have hlk := hlf.look
    have hdl := hlf.del
    cases hh : has k es
    · refine (drop_leaf0_i w b av bv es k hs hr hn2 hh).mono ?_
      rintro e w' ⟨rfl, hT⟩
      rw [hlk.2 hh]
      refine ⟨rfl, .node b av es bv [], rfl, ?_, ?_, hT⟩
      · rw [P.t_node]; exact hf.weaken (by omega)
      · rw [P.t_node, hdl.2 hh]; exact flat_leaf _
    · refine (drop_leaf1_i w b av bv es k hs hr hn2 hh).mono ?_
      rintro e w' ⟨x, hx, rfl, av', hT⟩
      obtain ⟨x2, hx2, _, hl2⟩ := hlk.1 hh
      rw [hx] at hx2
      cases hx2
      rw [hl2]
      refine ⟨rfl, .node b av' (es.take (pos k es) ++ es.drop (pos k es + 1)) bv [], rfl, ?_, ?_, hT⟩
      · rw [P.t_node]
        refine ⟨?_, rfl⟩
        have h1 := hf.1
        obtain ⟨h2, _⟩ := List.getElem?_eq_some_iff.1 hx
        simp
        omega
      · obtain ⟨v, b2, hb2, hd2⟩ := hdl.1 hh
        have he : es = a ++ ⟨k, v⟩ :: b2 := by rw [hlf.es_, hb2]
        have e1 : (T.node (es.take (pos k es) ++ es.drop (pos k es + 1)) []).flat = es.take (pos k es) ++ es.drop (pos k es + 1) := flat_leaf _
        rw [P.t_node]
        show (T.node _ []).flat = _
        rw [e1, hd2, ← hlf.al]
        conv => lhs; rw [he]
        simp
  | succ d ih =>
    intro m w p hm hf hr hn hs
    obtain ⟨b, av, es, bv, ks, rfl⟩ := P.eta p
    rw [P.t_node] at hf hr hn ⊢
    obtain ⟨hf1, hf2, hf3⟩ := hf
    have hm1 := hm (by omega)
    have hel : es.length ≤ 99999 := Nat.le_trans (es_flat_len (.node es _)) hn
    have hkl : ks.length = es.length + 1 := by simpa using hf2
    obtain ⟨a, bb, l, c, r, hsp, hg⟩ := split_page (k := k) hr hf2
    have hlk := hsp.look
    have hdl := hsp.del
    have hres := hr.es
    have hpl : pos k es < ks.length := by have := pos_le k es; omega
    have hcm : (ks[pos k es]).t = c := by
      rw [List.getElem?_map, List.getElem?_eq_getElem hpl] at hg
      simpa using hg
    have hks : ks = ks.take (pos k es) ++ ks[pos k es] :: ks.drop (pos k es + 1) := by rw [← List.drop_eq_getElem_cons hpl, List.take_append_drop]
    have hkll : (ks.take (pos k es)).length = pos k es := by rw [List.length_take]; omega
    generalize hkc : ks[pos k es] = kc at *
    generalize ks.take (pos k es) = kl at *
    generalize ks.drop (pos k es + 1) = kr at *
    subst hks
    have hlr : kl.map P.t = l ∧ kr.map P.t = r := by
      have h1 := hsp.ts_
      rw [List.map_append, List.map_cons] at h1
      have h2 := List.append_inj h1 (by rw [List.length_map, hkll]; exact hsp.ll.symm)
      have h3 := List.cons_eq_cons.1 h2.2
      exact ⟨h2.1, h3.2⟩
    obtain ⟨hl1, hr1⟩ := hlr
    have hfl := hsp.fl
    have hr2 : Rise c.flat := by rw [hfl] at hr; exact hr.right.left
    have hn2 : c.flat.length ≤ 99999 := by rw [hfl] at hn; simp at hn; omega
    have hfc : Fat 2 d c := hf3 c (by rw [← hcm, List.mem_map]; exact ⟨kc, by simp, rfl⟩)
    have hFF : ∀ q ∈ kl ++ kr, Fat 2 d q.t := fun q hq => hf3 q.t (by
      rw [List.mem_map]
      refine ⟨q, ?_, rfl⟩
      rcases List.mem_append.1 hq with h | h
      · exact List.mem_append_left _ h
      · exact List.mem_append_right _ (List.mem_cons_of_mem _ h))
    have hes := hsp.es_
    have hal : a.length = kl.length := by rw [hkll]; exact hsp.al
    cases hh : has k es
    · have hdf := hdl.2 hh
      have hdlen : (wl a (kl.map P.t) ++ (del k c.flat ++ tl bb (kr.map P.t))).length ≤ 99999 := by
        rw [hl1, hr1, ← hdf]
        exact Nat.le_trans (del_length k _) hn
      subst hes
      refine (drop_in_i d w b av bv a bb kl kc kr k ((Afx.look k c.flat).getD (.int .i64 0)) (Afx.look k c.flat).isSome (del k c.flat) hs hres hkl (by omega) hFF hel hh hkll hal hdlen (fun w2 hs2 => ?_)).mono ?_
      · have h1 := ih 2 w2 kc (fun _ => by omega) (hcm ▸ hfc) (hcm ▸ hr2) (hcm ▸ hn2) hs2
        rw [hcm] at h1
        exact h1
      · rintro e w' ⟨rfl, p', hb', hf', ht', hT⟩
        rw [hlk.2 hh]
        exact ⟨rfl, p', hb', hf'.weaken (by omega), by rw [ht', hdf, hl1, hr1], hT⟩
    · obtain ⟨v, rest, hd1, hd2, hd3⟩ := hdl.1 hh
      rcases hsp.hit with ⟨_, _, v', b', c', r', hb, hrr, _, _⟩ | ⟨h2, _⟩
      · subst hb
        rw [tl] at hd3
        have hv : v' = v := by
          have := (List.cons_eq_cons.1 hd3).1
          exact (En.mk.inj this).2
        have hrest := (List.cons_eq_cons.1 hd3).2
        subst hv
        have hcne : c.flat ≠ [] := fun e => by
          have h3 := es_flat_len c
          have h4 := hfc.len
          rw [e, List.length_nil] at h3
          omega
        have hci : c.flat = c.flat.dropLast ++ [c.flat.getLast hcne] := (List.dropLast_concat_getLast hcne).symm
        have hci2 : kc.t.flat = c.flat.dropLast ++ [c.flat.getLast hcne] := by rw [hcm]; exact hci
        have htx : tl (c.flat.getLast hcne :: b') (kr.map P.t) = c.flat.getLast hcne :: rest := by rw [tl, hr1, hrest]
        have hdd : del k (T.node es ((kl ++ kc :: kr).map P.t)).flat = wl a (kl.map P.t) ++ (c.flat.dropLast ++ tl (c.flat.getLast hcne :: b') (kr.map P.t)) := by
          rw [hd2, hl1, htx]
          have h5 : c.flat ++ rest = c.flat.dropLast ++ c.flat.getLast hcne :: rest := by
            conv => lhs; rw [hci]
            simp
          rw [h5]
        have hxo : (c.flat.getLast hcne).val.oneCell' = true := pres_onesi hs _ (by rw [P.t_node, hfl]; simp)
        have hdlen := del_length k (T.node es ((kl ++ kc :: kr).map P.t)).flat
        rw [hdd] at hdlen
        obtain ⟨x2, hx2, hx3, hl2⟩ := hlk.1 hh
        rw [hl2, hdd]
        have hx4 : x2.val = v' := by
          have h6 : es[pos k es]? = some ⟨k, v'⟩ := by rw [← hsp.al, hes]; simp
          rw [hx2] at h6
          rw [Option.some.inj h6]
        subst hes
        refine (drop_hit_i d w b av bv a b' kl kc kr k v' (c.flat.getLast hcne) c.flat.dropLast hs hres hkl hFF hel hh hkll hal hxo (by omega) (fun w2 hs2 => ?_)).mono ?_
        · exact last_any_i d 2 w2 kc (c.flat.getLast hcne) c.flat.dropLast (by omega) (hcm ▸ hfc) hci2 (hcm ▸ hn2) hs2
        · rintro e w' ⟨rfl, p', hb', hf', ht', hT⟩
          exact ⟨by rw [hx4]; rfl, p', hb', hf'.weaken (by omega), ht', hT⟩
      · rw [hh] at h2; cases h2


set_option maxRecDepth 100000 in
set_option maxHeartbeats 4000000 in
theorem tdel_i (w : World) (tb : Nat) (p : P) (d n : Nat) (k : Key) (hs : Sep w (trsi tb p n)) (hg : Afx.Good d p.t) (hn : n = p.t.flat.length) (hl : n ≤ 99999) :
    Calls Try.prog 20 #[ptrV tb, .string (kb k)] w fun e w' => e = .returned (.tuple #[(Afx.look k p.t.flat).getD (.int .i64 0), .bool (Afx.look k p.t.flat).isSome]) ∧ ∃ d' p', Afx.Good d' p'.t ∧ p'.t.flat = del k p.t.flat ∧
      Trk w (feet (trsi tb p n)) w' (trsi tb p' (if (Afx.look k p.t.flat).isSome then n - 1 else n)) := by
  have T0 := Trk.start hs
  generalize hF : feet (trsi tb p n) = F at *
  have kt0 : Blk w tb 68 [ptrV p.blk, .int .i64 (n : Int)] := T0.blk (by simp only [List.mem_cons, true_or, or_true])
  have HDROP := Lib.hid (drop_any_i k d (min 1 d) w p (by omega) hg.fat hg.rise (by omega) (hs.right (a := [rTi tb p n])))
  obtain ⟨c0, c1⟩ := pg_cells kt0
  have hrd := hg.rise.del (k := k)
  have hyn : (Afx.look k p.t.flat).isSome = true → 1 ≤ n := fun h => by
    rw [hn]
    cases hq : p.t.flat with
    | nil => rw [hq] at h; simp [Afx.look] at h
    | cons a t => simp
  have hdl : (del k p.t.flat).length ≤ 99999 := Nat.le_trans (del_length k _) (by omega)
  have HT0 := Lib.hid T0
  have HRD := Lib.hid hrd
  generalize del k p.t.flat = fl' at *
  generalize hx : (Afx.look k p.t.flat).getD (.int .i64 0) = x at *
  generalize hy : (Afx.look k p.t.flat).isSome = y at *
  have hnf : (n : Int) ≤ 99999 := by omega
  unfold ptrV at c0 HDROP ⊢
  have hm0 : min 1 d - 1 = 0 := by omega
  rw [hm0] at HDROP
  clear T0 kt0 hs hF hg hn hx hy hrd hm0
  go_enter Try.func20, Try.ntmps20
  go_wp2_with fail
  refine HDROP.out.mono ?_
  clear HDROP
  rintro e w2 ⟨rfl, p', hpb, hpf, hpfl, hT⟩
  have hp1 : (trsi tb p n).Perm (presi p ++ [rTi tb p n]) := perm_of_cnt fun a => by simp only [cnt_append, cnt_cons, cnt_nil, trsi, rTi, P.blk_node, presi, presLi, rBi, rAi, rKi, P.resL_append, P.resL_cons, P.resL_nil, P.res_node] <;> omega
  have T2 := HT0.out.use hp1 hT
  obtain ⟨cb, cav, ces, cbv, cks, rfl⟩ := P.eta p'
  obtain rfl : cb = p.blk := hpb
  rw [P.t_node] at hpf hpfl
  have T3 : Trk w F w2 (rTi tb p n :: rBi p.blk cav cbv :: rAi cav ces :: rKi cbv cks :: presLi cks) := T2.perm (perm_of_cnt fun a => by simp only [cnt_append, cnt_cons, cnt_nil, trsi, rTi, P.blk_node, presi, presLi, rBi, rAi, rKi, P.resL_append, P.resL_cons, P.resL_nil, P.res_node] <;> omega)
  have kt2 : Blk w2 tb 68 [ptrV p.blk, .int .i64 (n : Int)] := T3.blk (by simp only [List.mem_cons, true_or, or_true])
  have hcel : ces.length ≤ 99999 := by
    have h1 := es_flat_len (T.node ces (cks.map P.t))
    rw [hpfl] at h1
    exact Nat.le_trans h1 hdl
  obtain ⟨kd0, kd1, _⟩ := hpf.kids
  have hkn : cks.length ≤ 100000 := by
    rcases Nat.eq_zero_or_pos d with h | h
    · have := kd0 h; have h3 : cks.length = (cks.map P.t).length := by rw [List.length_map]
      rw [h3, this]; simp
    · have := (kd1 h).1; rw [List.length_map] at this; omega
  obtain ⟨x0, x1⟩ := pg_cells kt2
  unfold ptrV at x0
  have hf1 := kt2.frozen 1
  have HT3 := Lib.hid T3
  have HPF := Lib.hid hpf
  have HPFL := Lib.hid hpfl
  clear T2 T3 kt2 hp1 hT c0 c1 HT0 hpf hpfl
  cases y
  · go_upto_region 7 with fail
    obtain ⟨n', hn'⟩ : ∃ n', n' = n := ⟨_, rfl⟩
    obtain ⟨wX, hwX⟩ : ∃ wX, wX = w2 := ⟨_, rfl⟩
    have TX : Trk w F wX (Res.blk tb 68 [ptrV p.blk, .int .i64 (n' : Int)] :: rBi p.blk cav cbv :: rAi cav ces :: rKi cbv cks :: presLi cks) := by rw [hwX, hn']; exact HT3.out
    rw [← hwX]
    have HN := Lib.hid hn'
    clear hn' hwX
    have ktX : Blk wX tb 68 [ptrV p.blk, .int .i64 (n' : Int)] := TX.blk (by simp only [List.mem_cons, true_or, or_true])
    have kpX : Blk wX p.blk 66 [cav, cbv] := TX.blk (by simp only [List.mem_cons, true_or, or_true])
    have oaX : Own wX 87 2 cav ces.length (enC ces) := TX.own (by simp only [List.mem_cons, true_or, or_true])
    have okX : Own wX 60 1 cbv cks.length (ptrs cks) := TX.own (by simp only [List.mem_cons, true_or, or_true])
    obtain ⟨pa, ca, hav, _, _⟩ := own_form_Ei oaX
    obtain ⟨pk, ck, hbv, _, _⟩ := own_form_Pi okX
    obtain ⟨x0, x1⟩ := pg_cells ktX
    obtain ⟨y0, y1⟩ := pg_cells kpX
    have hf0 := ktX.frozen 0
    rw [hav] at y0
    rw [hbv] at y1
    unfold ptrV at x0
    have hlf := leaf_i wX p.blk _ cav pk cks.length ck (hbv ▸ kpX)
    unfold ptrV at hlf
    have HTX := Lib.hid TX
    by_cases hc0 : ces.length = 0
    · have hces : ces = [] := List.eq_nil_of_length_eq_zero hc0
      have hc0i : ((ces.length : Int) == 0) = true := by rw [hc0]; rfl
      rcases cks with _ | ⟨k1, ks1⟩
      · rw [show decide (([] : List P).length = 0) = true from rfl] at hlf
        have HLF := Lib.hid hlf
        have HCES := Lib.hid hces
        have HBV := Lib.hid hbv
        have HAV := Lib.hid hav
        clear TX ktX kpX oaX okX hlf hces hbv hav
        go_wp2_with fail
        refine HLF.out.mono ?_
        rintro e wq ⟨rfl, hq⟩
        subst hq
        go_wp2
        refine bodyPost_ret (v := .tuple #[x, .bool false]) (by simp [results, Try.results20, go_sem]) rfl ⟨rfl, d, .node p.blk cav ces cbv [], ⟨?_, ?_⟩, ?_, ?_⟩
        · rw [P.t_node]
          rcases Nat.eq_zero_or_pos d with h | h
          · subst h
            exact HPF.out.weaken (by omega)
          · have := (kd1 h).1; simp at this
        · rw [P.t_node, HPFL.out]; exact HRD.out
        · rw [P.t_node, HPFL.out]
        · show Trk w F _ (trsi tb (.node p.blk cav ces cbv []) n)
          rw [← HN.out]
          exact HTX.out.perm (perm_of_cnt fun a => by simp only [cnt_append, cnt_cons, cnt_nil, trsi, rTi, P.blk_node, presi, presLi, rBi, rAi, rKi, P.resL_append, P.resL_cons, P.resL_nil, P.res_node] <;> omega)
      · rw [decide_eq_false (by simp)] at hlf
        have hd : 0 < d := by
          rcases Nat.eq_zero_or_pos d with h | h
          · have := kd0 h; simp at this
          · exact h
        have hk1 : ks1 = [] := by
          have h1 := (kd1 hd).1
          rw [hces] at h1
          simp at h1
          exact h1
        subst hk1
        obtain ⟨gk, offk, capk, hbv2, hgk, p0⟩ := sl_ptr (k := 0) (okX.sl (B := fun _ => True) (fun _ _ => trivial)) (by simp)
        rw [hbv] at hbv2
        cases hbv2
        have p0 : wX.cell? ⟨gk, offk, none⟩ = some (.pointer (some ⟨k1.blk, 0, none⟩)) := p0
        have HLF := Lib.hid hlf
        have HCES := Lib.hid hces
        have HBV := Lib.hid hbv
        have HAV := Lib.hid hav
        clear TX ktX kpX oaX okX hlf hces hbv hav
        go_wp2_with fail
        refine HLF.out.mono ?_
        rintro e wq ⟨rfl, hq⟩
        subst hq
        go_wp2
        have T9 := HTX.out.blkSet 0 (.pointer (some ⟨k1.blk, 0, none⟩))
        refine bodyPost_ret (v := .tuple #[x, .bool false]) (by simp [results, Try.results20, go_sem]) rfl ⟨rfl, d - 1, k1, ⟨?_, ?_⟩, ?_, ?_⟩
        · exact ((kd1 hd).2 k1.t (by simp)).weaken (by omega)
        · have h1 := HPFL.out
          rw [HCES.out, flat_node, List.map_cons, List.map_nil, flatL_end, flatL_nil, List.append_nil] at h1
          rw [h1]; exact HRD.out
        · have h1 := HPFL.out
          rw [HCES.out, flat_node, List.map_cons, List.map_nil, flatL_end, flatL_nil, List.append_nil] at h1
          exact h1
        · show Trk w F _ (trsi tb k1 n)
          rw [← HN.out]
          have T9 : Trk w F _ ([rBi p.blk cav cbv, rAi cav ces, rKi cbv [k1]] ++ trsi tb k1 n') := T9.perm (perm_of_cnt fun a => by simp only [cnt_append, cnt_cons, cnt_nil, trsi, rTi, ptrV, P.blk_node, presi, presLi, rBi, rAi, rKi, P.resL_append, P.resL_cons, P.resL_nil, P.res_node, List.set_cons_zero] <;> omega)
          exact T9.right
    · have hc0i : ((ces.length : Int) == 0) = false := by rw [beq_eq_false_iff_ne]; omega
      have hc0j : ¬ ((ces.length : Int) = 0) := by omega
      clear TX ktX kpX oaX okX hlf hbv hav
      go_wp2
      refine bodyPost_ret (v := .tuple #[x, .bool false]) (by simp [results, Try.results20, go_sem]) rfl ⟨rfl, d, .node p.blk cav ces cbv cks, ⟨?_, ?_⟩, ?_, ?_⟩
      · rw [P.t_node]
        exact HPF.out.of_len (show min 1 d ≤ ces.length by omega)
      · rw [P.t_node, HPFL.out]; exact HRD.out
      · rw [P.t_node, HPFL.out]
      · show Trk w F _ (trsi tb (.node p.blk cav ces cbv cks) n)
        rw [← HN.out]
        exact HTX.out.perm (perm_of_cnt fun a => by simp only [cnt_append, cnt_cons, cnt_nil, trsi, rTi, P.blk_node, presi, presLi, rBi, rAi, rKi, P.resL_append, P.resL_cons, P.resL_nil, P.res_node] <;> omega)
  · have hn1 := hyn rfl
    have hni : (1 : Int) ≤ (n : Int) := by omega
    have hcs : ((n - 1 : Nat) : Int) = (n : Int) - 1 := by omega
    go_upto_region 7 with fail
    have T4 := HT3.out.blkSet 1 (.int .i64 ((n : Int) - 1))
    obtain ⟨n', hn'⟩ : ∃ n', n' = n - 1 := ⟨_, rfl⟩
    have TX : Trk w F (w2.setCell ⟨tb, 1, none⟩ (.int .i64 ((n : Int) - 1))) (Res.blk tb 68 [ptrV p.blk, .int .i64 (n' : Int)] :: rBi p.blk cav cbv :: rAi cav ces :: rKi cbv cks :: presLi cks) := by
      rw [hn', hcs]; exact T4
    generalize (w2.setCell ⟨tb, 1, none⟩ (.int .i64 ((n : Int) - 1))) = wX at *
    have HN := Lib.hid hn'
    clear hn' T4 hcs
    have ktX : Blk wX tb 68 [ptrV p.blk, .int .i64 (n' : Int)] := TX.blk (by simp only [List.mem_cons, true_or, or_true])
    have kpX : Blk wX p.blk 66 [cav, cbv] := TX.blk (by simp only [List.mem_cons, true_or, or_true])
    have oaX : Own wX 87 2 cav ces.length (enC ces) := TX.own (by simp only [List.mem_cons, true_or, or_true])
    have okX : Own wX 60 1 cbv cks.length (ptrs cks) := TX.own (by simp only [List.mem_cons, true_or, or_true])
    obtain ⟨pa, ca, hav, _, _⟩ := own_form_Ei oaX
    obtain ⟨pk, ck, hbv, _, _⟩ := own_form_Pi okX
    obtain ⟨x0, x1⟩ := pg_cells ktX
    obtain ⟨y0, y1⟩ := pg_cells kpX
    have hf0 := ktX.frozen 0
    rw [hav] at y0
    rw [hbv] at y1
    unfold ptrV at x0
    have hlf := leaf_i wX p.blk _ cav pk cks.length ck (hbv ▸ kpX)
    unfold ptrV at hlf
    have HTX := Lib.hid TX
    by_cases hc0 : ces.length = 0
    · have hces : ces = [] := List.eq_nil_of_length_eq_zero hc0
      have hc0i : ((ces.length : Int) == 0) = true := by rw [hc0]; rfl
      rcases cks with _ | ⟨k1, ks1⟩
      · rw [show decide (([] : List P).length = 0) = true from rfl] at hlf
        have HLF := Lib.hid hlf
        have HCES := Lib.hid hces
        have HBV := Lib.hid hbv
        have HAV := Lib.hid hav
        clear TX ktX kpX oaX okX hlf hces hbv hav
        go_wp2_with fail
        refine HLF.out.mono ?_
        rintro e wq ⟨rfl, hq⟩
        subst hq
        go_wp2
        refine bodyPost_ret (v := .tuple #[x, .bool true]) (by simp [results, Try.results20, go_sem]) rfl ⟨rfl, d, .node p.blk cav ces cbv [], ⟨?_, ?_⟩, ?_, ?_⟩
        · rw [P.t_node]
          rcases Nat.eq_zero_or_pos d with h | h
          · subst h
            exact HPF.out.weaken (by omega)
          · have := (kd1 h).1; simp at this
        · rw [P.t_node, HPFL.out]; exact HRD.out
        · rw [P.t_node, HPFL.out]
        · show Trk w F _ (trsi tb (.node p.blk cav ces cbv []) (n - 1))
          rw [← HN.out]
          exact HTX.out.perm (perm_of_cnt fun a => by simp only [cnt_append, cnt_cons, cnt_nil, trsi, rTi, P.blk_node, presi, presLi, rBi, rAi, rKi, P.resL_append, P.resL_cons, P.resL_nil, P.res_node] <;> omega)
      · rw [decide_eq_false (by simp)] at hlf
        have hd : 0 < d := by
          rcases Nat.eq_zero_or_pos d with h | h
          · have := kd0 h; simp at this
          · exact h
        have hk1 : ks1 = [] := by
          have h1 := (kd1 hd).1
          rw [hces] at h1
          simp at h1
          exact h1
        subst hk1
        obtain ⟨gk, offk, capk, hbv2, hgk, p0⟩ := sl_ptr (k := 0) (okX.sl (B := fun _ => True) (fun _ _ => trivial)) (by simp)
        rw [hbv] at hbv2
        cases hbv2
        have p0 : wX.cell? ⟨gk, offk, none⟩ = some (.pointer (some ⟨k1.blk, 0, none⟩)) := p0
        have HLF := Lib.hid hlf
        have HCES := Lib.hid hces
        have HBV := Lib.hid hbv
        have HAV := Lib.hid hav
        clear TX ktX kpX oaX okX hlf hces hbv hav
        go_wp2_with fail
        refine HLF.out.mono ?_
        rintro e wq ⟨rfl, hq⟩
        subst hq
        go_wp2
        have T9 := HTX.out.blkSet 0 (.pointer (some ⟨k1.blk, 0, none⟩))
        refine bodyPost_ret (v := .tuple #[x, .bool true]) (by simp [results, Try.results20, go_sem]) rfl ⟨rfl, d - 1, k1, ⟨?_, ?_⟩, ?_, ?_⟩
        · exact ((kd1 hd).2 k1.t (by simp)).weaken (by omega)
        · have h1 := HPFL.out
          rw [HCES.out, flat_node, List.map_cons, List.map_nil, flatL_end, flatL_nil, List.append_nil] at h1
          rw [h1]; exact HRD.out
        · have h1 := HPFL.out
          rw [HCES.out, flat_node, List.map_cons, List.map_nil, flatL_end, flatL_nil, List.append_nil] at h1
          exact h1
        · show Trk w F _ (trsi tb k1 (n - 1))
          rw [← HN.out]
          have T9 : Trk w F _ ([rBi p.blk cav cbv, rAi cav ces, rKi cbv [k1]] ++ trsi tb k1 n') := T9.perm (perm_of_cnt fun a => by simp only [cnt_append, cnt_cons, cnt_nil, trsi, rTi, ptrV, P.blk_node, presi, presLi, rBi, rAi, rKi, P.resL_append, P.resL_cons, P.resL_nil, P.res_node, List.set_cons_zero] <;> omega)
          exact T9.right
    · have hc0i : ((ces.length : Int) == 0) = false := by rw [beq_eq_false_iff_ne]; omega
      have hc0j : ¬ ((ces.length : Int) = 0) := by omega
      clear TX ktX kpX oaX okX hlf hbv hav
      go_wp2
      refine bodyPost_ret (v := .tuple #[x, .bool true]) (by simp [results, Try.results20, go_sem]) rfl ⟨rfl, d, .node p.blk cav ces cbv cks, ⟨?_, ?_⟩, ?_, ?_⟩
      · rw [P.t_node]
        exact HPF.out.of_len (show min 1 d ≤ ces.length by omega)
      · rw [P.t_node, HPFL.out]; exact HRD.out
      · rw [P.t_node, HPFL.out]
      · show Trk w F _ (trsi tb (.node p.blk cav ces cbv cks) (n - 1))
        rw [← HN.out]
        exact HTX.out.perm (perm_of_cnt fun a => by simp only [cnt_append, cnt_cons, cnt_nil, trsi, rTi, P.blk_node, presi, presLi, rBi, rAi, rKi, P.resL_append, P.resL_cons, P.resL_nil, P.res_node] <;> omega)

end Go.Proofs.Ytfnndifckgjmjaa
/- Plain: a measure by the least ghost; parts of pages; what is best yet. -/
namespace Go.Afx
open Go Go.RowKit

theorem least_of {R : Nat → Prop} : ∀ n, R n → ∃ m, R m ∧ ∀ j, R j → m ≤ j := by
  intro n
  induction n using Nat.strongRecOn with
  | ind n ih =>
    intro h
    by_cases hq : ∃ j, j < n ∧ R j
    · obtain ⟨j, hj, hr⟩ := hq
      exact ih j hj hr
    · exact ⟨n, h, fun j hj => by
        rcases Nat.lt_or_ge j n with h1 | h1
        · exact absurd ⟨j, h1, hj⟩ hq
        · exact h1⟩
open Classical in
/-- The least number that something holds of. -/
noncomputable def gm (R : Nat → Prop) : Nat := if h : ∃ m, R m ∧ ∀ j, R j → m ≤ j then h.choose else 0
theorem gm_spec {R : Nat → Prop} (h : ∃ n, R n) : R (gm R) := by
  obtain ⟨n, hn⟩ := h
  have h2 := least_of n hn
  unfold gm
  rw [dif_pos h2]
  exact h2.choose_spec.1
theorem gm_le {R : Nat → Prop} {n : Nat} (h : R n) : gm R ≤ n := by
  have h2 := least_of n h
  unfold gm
  rw [dif_pos h2]
  exact h2.choose_spec.2 n h
theorem sep_kid {pt et qt : TypeId} {w : World} {ks : List P} (h : Sep w (P.resL pt et qt ks)) {q : P} (hq : q ∈ ks) : Sep w (q.res pt et qt) := by
  obtain ⟨l, r, rfl⟩ := List.append_of_mem hq
  exact (h.perm (P.resL_at l q r)).left
theorem kid_rise {es : List En} {ts : List T} {t : T} (h : Rise (T.node es ts).flat) (hl : ts.length ≤ es.length + 1) (ht : t ∈ ts) : Rise t.flat := by
  have key : ∀ (ts : List T) (es : List En) (t : T), ts.length ≤ es.length + 1 → t ∈ ts → List.Sublist t.flat (T.flatL es ts) := by
    intro ts
    induction ts with
    | nil => intro es t _ h; simp at h
    | cons a ts ih =>
      intro es t hl ht
      cases es with
      | nil =>
        rw [flatL_end]
        have : ts = [] := List.eq_nil_of_length_eq_zero (by simpa using hl)
        subst this
        simp at ht
        subst ht
        exact List.sublist_append_left _ _
      | cons e es =>
        rw [flatL_cons]
        rcases List.mem_cons.1 ht with rfl | ht
        · exact List.sublist_append_left _ _
        · exact ((ih es t (by simpa using hl) ht).cons e).trans (List.sublist_append_right _ _)
  rw [flat_node] at h
  exact List.Pairwise.sublist (key ts es t hl ht) h
theorem last_ahead {es a b : List En} {k : Key} (he : es = a ++ b) (ha : a.length = pos k es) : a.getLast? = if pos k es = 0 then none else es[pos k es - 1]? := by
  rcases List.eq_nil_or_concat a with h | ⟨i, x, h⟩
  · subst h
    have h0 : pos k es = 0 := ha.symm
    rw [if_pos h0]; rfl
  · rw [List.concat_eq_append] at h
    subst h
    have hl : pos k es = i.length + 1 := by rw [← ha]; simp
    rw [if_neg (by omega), hl, Nat.add_sub_cancel, he]
    simp
/-- Where an entry lies, or that there is none. -/
def BestAt (w : World) (v : Value) : Option En → Prop
  | none => v = .pointer none
  | some e => ∃ g o, v = .pointer (some ⟨g, o, none⟩) ∧ g < w.heap.size ∧ w.cell? ⟨g, o, none⟩ = some (.string (kb e.key)) ∧ w.cell? ⟨g, o + 1, none⟩ = some e.val
theorem BestAt.below {w w' : World} {v : Value} {o : Option En} (h : BestAt w v o) (hb : Below w.heap.size w w') : BestAt w' v o := by
  cases o with
  | none => exact h
  | some e =>
    obtain ⟨g, o, h1, h2, h3, h4⟩ := h
    exact ⟨g, o, h1, Nat.lt_of_lt_of_le h2 hb.size, (hb.cell h2).trans h3, (hb.cell h2).trans h4⟩
/-- The pointer to a page, or none. -/
def kidV : Option P → Value
  | some c => ptrV c.blk
  | none => .pointer none
theorem kidV_form (o : Option P) : ∃ a, kidV o = .pointer a := by
  cases o with
  | none => exact ⟨none, rfl⟩
  | some c => exact ⟨_, rfl⟩
/-- The key told of the first entry, or none. -/
def headK : List En → ByteArray
  | [] => ⟨#[]⟩
  | e :: _ => kb e.key
def headV (zero : Value) : List En → Value
  | [] => zero
  | e :: _ => e.val
/-- What is told of an entry, or of none. -/
def toldV (zero : Value) : Option En → Value
  | none => .tuple #[.string ⟨#[]⟩, zero, .bool false]
  | some e => .tuple #[.string (kb e.key), e.val, .bool true]
theorem toldV_head (zero : Value) (b : List En) : toldV zero b.head? = .tuple #[.string (headK b), headV zero b, .bool (!b.isEmpty)] := by
  cases b <;> rfl
end Go.Afx
/- Trees told: told, Get. -/
namespace Go.Proofs.Ytfnndifckgjmjaa
open Go.RowKit Go.Afx

set_option maxRecDepth 100000 in
set_option maxHeartbeats 1000000 in
theorem told_i (w : World) (v : Value) (o : Option En) (h : BestAt w v o) : Calls Try.prog 45 #[v] w fun e w' => e = .returned (toldV (.int .i64 0) o) ∧ Below w.heap.size w w' := by
  cases o with
  | none =>
    obtain rfl : v = .pointer none := h
    go_enter Try.func45, Try.ntmps45
    go_wp2
    exact bodyPost_ret (v := .tuple #[.string ⟨#[]⟩, (.int .i64 0), .bool false]) (by simp [results, Try.results45, go_sem]) rfl ⟨rfl, Below.refl _ _⟩
  | some e =>
    obtain ⟨g, o, rfl, h2, h3, h4⟩ := h
    unfold toldV
    simp only
    generalize e.key = ke at *
    generalize e.val = ve at *
    go_enter Try.func45, Try.ntmps45
    go_wp2
    refine wp_region_lit_plan [] [(0, 0), (1, 0), (2, 0), (4, 0), (5, 0), (6, 0), (3, 1), (8, 0), (7, 1), (9, 0), (10, 0)] (fun _ => False) (by kernel_rfl) (by kernel_rfl) (fun c a d v w h => by cases d <;> exact h) ?_
    go_wp2_with (first | (refine plan_pure (v := _) (by rfl) (by rfl) (by rfl) (by intro _; go_simp; with_reducible rfl) ?_; simp only [List.setIfInBounds_toArray, List.set_cons_zero, List.set_cons_succ]; try go_bits) | (refine plan_read (v := _) (by rfl) (by rfl) (by rfl) (by go_simp; with_reducible rfl) ?_; simp only [List.setIfInBounds_toArray, List.set_cons_zero, List.set_cons_succ]; try go_bits) | (refine plan_readB (v := _) (by rfl) (by rfl) (by rfl) (by intro _ hag; unfold Agree at hag; go_simp; with_reducible rfl) ?_; simp only [List.setIfInBounds_toArray, List.set_cons_zero, List.set_cons_succ]; try go_bits) | (refine plan_skip0 (by rfl) (by rfl) (by rfl) ?_; simp only [List.setIfInBounds_toArray, List.set_cons_zero, List.set_cons_succ]; try go_bits) | (refine plan_skip1 (by rfl) (by rfl) (by rfl) ?_; simp only [List.setIfInBounds_toArray, List.set_cons_zero, List.set_cons_succ]; try go_bits) | (refine plan_skip2 (by rfl) (by rfl) (by rfl) ?_; simp only [List.setIfInBounds_toArray, List.set_cons_zero, List.set_cons_succ]; try go_bits) | (refine plan_skip4 (by rfl) (by rfl) (by rfl) ?_; simp only [List.setIfInBounds_toArray, List.set_cons_zero, List.set_cons_succ]; try go_bits) | (refine plan_any (by rfl) ?_) | (refine plan_keep (by rfl) ?_) | (refine plan_nil ?_) | (with_reducible refine And.intro (by first | assumption | exact Agree.refl _ _ | exact agree_drew _ _ | exact agree_alloc _ (by intro k hk; subst hk; first | omega | (simp; omega))) ?_) | (unfold Act.put; simp only [List.setIfInBounds_toArray, List.set_cons_zero, List.set_cons_succ]))
    exact bodyPost_ret (v := .tuple #[.string (kb ke), ve, .bool true]) (by simp [results, Try.results45, go_sem]) rfl ⟨rfl, (Below.refl _ _).drew⟩
/-- What Get's loop keeps. -/
def GetSti (w : World) (lk : Option Value) (k : Key) (v : Value) (wr : World) (d : Nat) : Prop :=
  ∃ q, v = ptrV q.blk ∧ Sep wr (presi q) ∧ (∃ m, Fat m d q.t) ∧ Rise q.t.flat ∧ q.t.flat.length ≤ 99999 ∧ lk = Afx.look k q.t.flat ∧ Below w.heap.size w wr
set_option maxRecDepth 100000 in
set_option maxHeartbeats 4000000 in
theorem get_i (w : World) (tb : Nat) (p : P) (d n : Nat) (k : Key) (hs : Sep w (trsi tb p n)) (hg : Afx.Good d p.t) (hn : n = p.t.flat.length) (hl : n ≤ 99999) :
    Calls Try.prog 39 #[ptrV tb, .string (kb k)] w fun e w' => e = .returned (.tuple #[(Afx.look k p.t.flat).getD (.int .i64 0), .bool (Afx.look k p.t.flat).isSome]) ∧ Below w.heap.size w w' := by
  have kt0 : Blk w tb 68 [ptrV p.blk, .int .i64 (n : Int)] := hs.all (rTi tb p n) (by simp)
  obtain ⟨c0, c1⟩ := pg_cells kt0
  obtain ⟨lk, hlk0⟩ : ∃ lk, Afx.look k p.t.flat = lk := ⟨_, rfl⟩
  rw [hlk0]
  have HST : Hid (GetSti w lk k (.pointer (some ⟨p.blk, 0, none⟩)) w d) := ⟨p, rfl, hs.right (a := [rTi tb p n]), ⟨_, hg.fat⟩, hg.rise, by omega, hlk0.symm, Below.refl _ _⟩
  unfold ptrV at c0 ⊢
  clear kt0 hs hg hn hl hlk0
  go_enter Try.func39, Try.ntmps39
  go_wp2
  go_loopw [7, 8, 9] (fun v i ok wr => ∃ d, GetSti w lk k v wr d) (fun v _ _ wr => gm (GetSti w lk k v wr))
  case atStart => exact ⟨d, HST.out⟩
  case round =>
    have hst := gm_spec hrel
    obtain ⟨dd, hdd⟩ : ∃ dd, gm (GetSti w lk k u7 wr) = dd := ⟨_, rfl⟩
    rw [hdd] at hst
    have HGM := Lib.hid hdd
    clear hdd
    obtain ⟨q, rfl, hsq, ⟨m, hf⟩, hr, hln, hlk, hb⟩ := hst
    obtain ⟨b, av, es, bv, ks, rfl⟩ := P.eta q
    rw [pres_i] at hsq
    rw [P.t_node] at hf hr hln hlk
    have kb0 : Blk wr b 66 [av, bv] := hsq.all (rBi b av bv) (by simp only [List.mem_cons, true_or, or_true])
    have oa : Own wr 87 2 av es.length (enC es) := hsq.all (rAi av es) (by simp only [List.mem_cons, true_or, or_true])
    have ok : Own wr 60 1 bv ks.length (ptrs ks) := hsq.all (rKi bv ks) (by simp only [List.mem_cons, true_or, or_true])
    have hel : es.length ≤ 99999 := Nat.le_trans (es_flat_len (.node es _)) hln
    have hfd := find_i wr b _ av bv es k (fun _ => True) kb0 (oa.sl (B := fun _ => True) (fun _ _ => trivial)) hr.es (by omega)
    have HKB := Lib.hid kb0
    have HOA := Lib.hid oa
    have HOK := Lib.hid ok
    have HB := Lib.hid hb
    have HSQ := Lib.hid hsq
    have HLK := Lib.hid hlk
    have hbl := kb0.lt
    simp only [P.blk_node] at *
    unfold ptrV at hfd ⊢
    cases hh : has k es
    · rw [hh] at hfd
      have HFD := Lib.hid hfd
      rcases dd with _ | dd
      · have hk0 : ks = [] := by simpa using hf.2
        subst hk0
        have hlk2 : lk = none := by
          rw [HLK.out]
          simp only [List.map_nil]
          rw [flat_leaf]
          obtain ⟨a, b', hlf⟩ := leaf_page (k := k) (es := es) hr
          exact hlf.look.2 hh
        subst hlk2
        obtain ⟨pk, ck, hbv, _, _⟩ := own_form_Pi ok
        have HLF := Lib.hid (fun w2 (hb : Below wr.heap.size wr w2) => leaf_i w2 b _ av pk 0 ck (hbv ▸ HKB.out.below hb))
        unfold ptrV at HLF
        generalize pos k es = i at *
        clear kb0 oa ok hfd hb hsq hlk hh hbv hr hf hrel
        go_wp2_with fail
        refine HFD.out.mono ?_
        rintro e w2 ⟨rfl, hb2⟩
        have HB2 := Lib.hid hb2
        clear hb2
        go_wp2_with fail
        refine (HLF.out w2 HB2.out).mono ?_
        rintro e wq ⟨rfl, hq⟩
        subst hq
        go_wp2
        exact bodyPost_ret (v := .tuple #[(.int .i64 0), .bool false]) (by simp [results, Try.results39, go_sem]) rfl ⟨rfl, HB.out.trans (HB2.out.mono HB.out.size)⟩
      · obtain ⟨a, bb, l, c, r, hsp, hgc⟩ := split_page (k := k) hr hf.2.1
        have hkl : ks.length = es.length + 1 := by simpa using hf.2.1
        have hpl : pos k es < ks.length := by have := pos_le k es; omega
        have hcm : (ks[pos k es]).t = c := by
          rw [List.getElem?_map, List.getElem?_eq_getElem hpl] at hgc
          simpa using hgc
        have hkm : ks[pos k es] ∈ ks := List.getElem_mem hpl
        have hnew : ∀ w2, Below wr.heap.size wr w2 → GetSti w lk k (ptrV (ks[pos k es]).blk) w2 dd := fun w2 hb2 =>
          ⟨ks[pos k es], rfl, (sep_kid (HSQ.out.right (a := [_, _, _])) hkm).below hb2, ⟨2, hf.2.2 _ (List.mem_map_of_mem hkm)⟩, by
            rw [hcm]
            rw [hsp.fl] at hr
            exact hr.right.left, by
            rw [hcm]
            rw [hsp.fl] at hln
            simp at hln; omega, by rw [HLK.out, hcm]; exact hsp.look.2 hh, HB.out.trans (hb2.mono HB.out.size)⟩
        obtain ⟨gk, offk, capk, hbv, hgk, p0⟩ := sl_ptr (ok.sl (B := fun _ => True) (fun _ _ => trivial)) hpl
        have HLF := Lib.hid (fun w2 (hb : Below wr.heap.size wr w2) => by
          have h := leaf_i w2 b _ av (some ⟨gk, offk, none⟩) ks.length capk (hbv ▸ HKB.out.below hb)
          rw [decide_eq_false (by omega)] at h
          exact h)
        have HNEW := Lib.hid hnew
        have HBV := Lib.hid hbv
        unfold ptrV at HLF p0
        generalize ks[pos k es] = kc at *
        generalize pos k es = i at *
        obtain ⟨nk, hnk⟩ : ∃ nk, ks.length = nk := ⟨_, rfl⟩
        rw [hnk] at hpl HBV
        have HNK := Lib.hid hnk
        clear kb0 oa ok hfd hb hsq hlk hh hbv hr hf hrel hgc hkl hcm hkm hnew hsp hnk hln
        go_wp2_with fail
        refine HFD.out.mono ?_
        rintro e w2 ⟨rfl, hb2⟩
        have HB2 := Lib.hid hb2
        have p1 := (hb2.cell (p := ⟨gk, offk + i, none⟩) hgk).trans p0
        obtain ⟨y0, y1⟩ := pg_cells (HKB.out.below hb2)
        rw [HBV.out] at y1
        clear hb2 p0
        go_wp2_with fail
        refine (HLF.out w2 HB2.out).mono ?_
        rintro e wq ⟨rfl, hq⟩
        subst hq
        go_wp2_with fail
        go_roundw
        case rel => exact ⟨dd, HNEW.out _ HB2.out⟩
        case measure =>
          have h1 := gm_le (HNEW.out _ HB2.out)
          have h2 := HGM.out
          unfold ptrV at h1 h2
          show gm (GetSti w lk k (.pointer (some ⟨kc.blk, 0, none⟩)) _) < gm (GetSti w lk k (.pointer (some ⟨b, 0, none⟩)) wr)
          rw [h2]
          exact Nat.lt_succ_of_le h1
    · rw [hh] at hfd
      have HFD := Lib.hid hfd
      obtain ⟨x, hx, hlx⟩ : ∃ x, es[pos k es]? = some x ∧ lk = some x.val := by
        rcases dd with _ | dd
        · have hk0 : ks = [] := by simpa using hf.2
          subst hk0
          rw [hlk]
          simp only [List.map_nil]
          rw [flat_leaf]
          obtain ⟨a, b', hlf⟩ := leaf_page (k := k) (es := es) hr
          obtain ⟨e, h1, _, h3⟩ := hlf.look.1 hh
          exact ⟨e, h1, h3⟩
        · obtain ⟨a, bb, l, c, r, hsp, hgc⟩ := split_page (k := k) hr hf.2.1
          obtain ⟨e, h1, _, h3⟩ := hsp.look.1 hh
          exact ⟨e, h1, by rw [hlk]; exact h3⟩
      subst hlx
      obtain ⟨hpl, hxe⟩ := List.getElem?_eq_some_iff.1 hx
      obtain ⟨g, off, cap, hav, hg, e0, e1⟩ := sl_en (oa.sl (B := fun _ => True) (fun _ _ => trivial)) hpl
      rw [hxe] at e0 e1
      have HAV := Lib.hid hav
      generalize pos k es = i at *
      obtain ⟨ne, hne⟩ : ∃ ne, es.length = ne := ⟨_, rfl⟩
      rw [hne] at hpl HAV
      clear kb0 oa ok hfd hb hsq hlk hh hav hr hf hrel hln hx hxe hne
      go_wp2_with fail
      refine HFD.out.mono ?_
      rintro e w2 ⟨rfl, hb2⟩
      have HB2 := Lib.hid hb2
      have f0 := (hb2.cell (p := ⟨g, off + i * 2, none⟩) hg).trans e0
      have f1 := (hb2.cell (p := ⟨g, off + i * 2 + 1, none⟩) hg).trans e1
      obtain ⟨y0, y1⟩ := pg_cells (HKB.out.below hb2)
      rw [HAV.out] at y0
      clear hb2 e0 e1
      go_wp2
      exact bodyPost_ret (v := .tuple #[x.val, .bool true]) (by simp [results, Try.results39, go_sem]) rfl ⟨rfl, HB.out.trans (HB2.out.mono HB.out.size)⟩
end Go.Proofs.Ytfnndifckgjmjaa
/- Trees told: Next. -/
namespace Go.Proofs.Ytfnndifckgjmjaa
open Go.RowKit Go.Afx

/-- What Next's loop keeps. -/
def NextSti (w : World) (res : Option En) (k : Key) (wi : Bool) (best v : Value) (wr : World) (d : Nat) : Prop :=
  Below w.heap.size w wr ∧ ∃ acc, BestAt wr best acc ∧ ((v = .pointer none ∧ res = acc ∧ d = 0) ∨ ∃ q m d', v = ptrV q.blk ∧ d = d' + 1 ∧ Sep wr (presi q) ∧ Fat m d' q.t ∧ Rise q.t.flat ∧ q.t.flat.length ≤ 99999 ∧ res = (abv k wi q.t.flat).or acc)

theorem Next_step_i (w wr : World) (res : Option En) (k : Key) (wi : Bool) (b : Nat) (av bv : Value) (es : List En) (ks : List P) (m d' j : Nat) (acc acc' : Option En) (hb : Below w.heap.size w wr) (hsq : Sep wr (presi (.node b av es bv ks)))
    (hf : Fat m d' (.node es (ks.map P.t))) (hr : Rise (T.node es (ks.map P.t)).flat) (hln : (T.node es (ks.map P.t)).flat.length ≤ 99999) (hres : res = (abv k wi (T.node es (ks.map P.t)).flat).or acc)
    (h0 : ks = [] → (abv k wi es).or acc = acc') (h1 : ks ≠ [] → ∃ c, ks[j]? = some c ∧ ((abv k wi (T.node es (ks.map P.t)).flat).or acc = (abv k wi c.t.flat).or acc')) :
    ∀ w2 best', Below wr.heap.size wr w2 → BestAt w2 best' acc' → ∃ d'', d'' < d' + 1 ∧ NextSti w res k wi best' (kidV ks[j]?) w2 d'' := by
  intro w2 best' hb2 hbest
  have hb3 := hb.trans (hb2.mono hb.size)
  by_cases hk : ks = []
  · subst hk
    refine ⟨0, by omega, hb3, acc', hbest, .inl ⟨rfl, ?_, rfl⟩⟩
    rw [hres, ← h0 rfl]
    simp only [List.map_nil]
    rw [flat_leaf]
  · obtain ⟨c, hc, hc2⟩ := h1 hk
    have hcm : c ∈ ks := List.mem_of_getElem? hc
    rcases d' with _ | d'
    · exact absurd (by simpa using hf.2) hk
    · have hkl : (ks.map P.t).length ≤ es.length + 1 := Nat.le_of_eq hf.2.1
      rw [pres_i] at hsq
      refine ⟨d' + 1, by omega, hb3, acc', hbest, .inr ⟨c, 2, d', by rw [hc]; rfl, rfl, (sep_kid (hsq.right (a := [_, _, _])) hcm).below hb2, hf.2.2 _ (List.mem_map_of_mem hcm), ?_, Nat.le_trans (kid_flat_len hkl (List.mem_map_of_mem hcm)) hln, by rw [hres, hc2]⟩⟩
      exact kid_rise hr hkl (List.mem_map_of_mem hcm)

set_option maxRecDepth 100000 in
set_option maxHeartbeats 8000000 in
theorem next_i (w : World) (tb : Nat) (p : P) (d n : Nat) (k : Key) (wi : Bool) (hs : Sep w (trsi tb p n)) (hg : Afx.Good d p.t) (hn : n = p.t.flat.length) (hl : n ≤ 99999) :
    Calls Try.prog 26 #[ptrV tb, .string (kb k), .bool wi] w fun e w' => e = .returned (toldV (.int .i64 0) (abv k wi p.t.flat)) ∧ Below w.heap.size w w' := by
  have kt0 : Blk w tb 68 [ptrV p.blk, .int .i64 (n : Int)] := hs.all (rTi tb p n) (by simp)
  obtain ⟨c0, c1⟩ := pg_cells kt0
  obtain ⟨res, hres0⟩ : ∃ res, abv k wi p.t.flat = res := ⟨_, rfl⟩
  rw [hres0]
  have HST : Hid (NextSti w res k wi (.pointer none) (.pointer (some ⟨p.blk, 0, none⟩)) w (d + 1)) := ⟨Below.refl _ _, none, rfl, .inr ⟨p, _, d, rfl, rfl, hs.right (a := [rTi tb p n]), hg.fat, hg.rise, by omega, by rw [hres0]; simp⟩⟩
  unfold ptrV at c0 ⊢
  clear kt0 hs hg hn hl hres0
  go_enter Try.func26, Try.ntmps26
  go_wp2
  go_loopw [9, 10, 11, 12] (fun best v i ok wr => ∃ d, NextSti w res k wi best v wr d) (fun best v _ _ wr => gm (NextSti w res k wi best v wr))
  case atStart => exact ⟨d + 1, HST.out⟩
  case round =>
    have hst := gm_spec hrel
    obtain ⟨dd, hdd⟩ : ∃ dd, gm (NextSti w res k wi u9 u10 wr) = dd := ⟨_, rfl⟩
    rw [hdd] at hst
    have HGM := Lib.hid hdd
    clear hdd
    obtain ⟨hb, acc, hbest, hst⟩ := hst
    rcases hst with ⟨rfl, rfl, rfl⟩ | ⟨q, m, d', rfl, rfl, hsq, hf, hr, hln, hres⟩
    · have HTD := Lib.hid (told_i wr u9 res hbest)
      have HB := Lib.hid hb
      clear hbest hb hrel
      go_wp2_with fail
      refine HTD.out.mono ?_
      rintro e w2 ⟨rfl, hb2⟩
      cases res with
      | none =>
        unfold toldV
        simp only
        go_wp2
        exact bodyPost_ret (v := .tuple #[.string ⟨#[]⟩, (.int .i64 0), .bool false]) (by simp [results, Try.results26, go_sem]) rfl ⟨rfl, HB.out.trans (hb2.mono HB.out.size)⟩
      | some x =>
        unfold toldV
        simp only
        go_wp2
        exact bodyPost_ret (v := .tuple #[.string (kb x.key), x.val, .bool true]) (by simp [results, Try.results26, go_sem]) rfl ⟨rfl, HB.out.trans (hb2.mono HB.out.size)⟩
    · obtain ⟨b, av, es, bv, ks, rfl⟩ := P.eta q
      rw [pres_i] at hsq
      rw [P.t_node] at hf hr hln hres
      have kb0 : Blk wr b 66 [av, bv] := hsq.all (rBi b av bv) (by simp only [List.mem_cons, true_or, or_true])
      have oa : Own wr 87 2 av es.length (enC es) := hsq.all (rAi av es) (by simp only [List.mem_cons, true_or, or_true])
      have ok : Own wr 60 1 bv ks.length (ptrs ks) := hsq.all (rKi bv ks) (by simp only [List.mem_cons, true_or, or_true])
      have hel : es.length ≤ 99999 := Nat.le_trans (es_flat_len (.node es _)) hln
      have hfd := find_i wr b _ av bv es k (fun _ => True) kb0 (oa.sl (B := fun _ => True) (fun _ _ => trivial)) hr.es (by omega)
      simp only [P.blk_node] at *
      have HKB := Lib.hid kb0
      have HOA := Lib.hid oa
      have HOK := Lib.hid ok
      have HB := Lib.hid hb
      have HSQ := Lib.hid hsq
      have hbl := kb0.lt
      obtain ⟨pa, ca, hav, hca1, hca2⟩ := own_form_Ei oa
      obtain ⟨ne, hne⟩ : ∃ ne, es.length = ne := ⟨_, rfl⟩
      rw [hne] at hav
      have HAV := Lib.hid hav
      have HNE := Lib.hid hne
      have HBEST := Lib.hid hbest
      cases hh : has k es
      · rw [hh] at hfd
        have hstep := Next_step_i w wr res k wi b av bv es ks m d' (pos k es) acc (es[pos k es]?.or acc) hb (by rw [pres_i]; exact hsq) hf hr hln hres
          (fun hk => by
            subst hk
            obtain ⟨a, b', hlf⟩ := leaf_page (k := k) (es := es) hr
            rw [hlf.abv.2.2 hh])
          (fun hk => by
            rcases d' with _ | d'
            · exact absurd (by simpa using hf.2) hk
            · obtain ⟨a, bb, l, c, r, hsp, hgc⟩ := split_page (k := k) hr hf.2.1
              rw [List.getElem?_map] at hgc
              cases hq : ks[pos k es]? with
              | none => rw [hq] at hgc; cases hgc
              | some kc =>
                rw [hq] at hgc
                have hkc : kc.t = c := by simpa using hgc
                exact ⟨kc, rfl, by rw [hsp.abv.2.2 hh, hkc, Option.or_assoc]⟩)
        have hjk : ks ≠ [] → pos k es < ks.length := fun hk => by
          rcases d' with _ | d'
          · exact absurd (by simpa using hf.2) hk
          · have h1 : ks.length = es.length + 1 := by simpa using hf.2.1
            have := pos_le k es; omega
        obtain ⟨j, hj⟩ : ∃ j, j = pos k es := ⟨_, rfl⟩
        rw [← hj] at hstep hjk hfd
        have HFD := Lib.hid hfd
        have HCH : Hid (∀ w2, Below wr.heap.size wr w2 → Calls Try.prog 46 #[ptrV b, .int .i64 (j : Int)] w2 fun e w' => e = .returned (kidV ks[j]?) ∧ w' = w2) := (fun w2 (hb2 : Below wr.heap.size wr w2) => child_i w2 b _ av bv ks j (fun _ => True) (HKB.out.below hb2) ((HOK.out.below hb2).sl (fun _ _ => trivial)) hjk)
        obtain ⟨nv, hnv⟩ : ∃ nv, kidV ks[j]? = nv := ⟨_, rfl⟩
        rw [hnv] at hstep HCH
        have HSTEP := Lib.hid hstep
        have hj5 : j ≤ 100001 := by have h0 := pos_le k es; omega
        have HEJ : Hid (∀ h : j < es.length, ∃ g off cap, av = .slice (some ⟨g, off, none⟩) ne cap ∧ g < wr.heap.size ∧ wr.cell? ⟨g, off + j * 2, none⟩ = some (.string (kb es[j].key)) ∧ wr.cell? ⟨g, off + j * 2 + 1, none⟩ = some es[j].val) := fun h => by
          rw [← hne]
          exact sl_en (oa.sl (B := fun _ => True) (fun _ _ => trivial)) h
        unfold ptrV at HCH HFD
        clear kb0 oa ok hfd hb hsq hh hr hf hrel hln hbest hres hstep hjk hnv hj
        cases wi
        · cases hej : es[j]? with
          | some xj =>
            obtain ⟨hjl, hjx⟩ := List.getElem?_eq_some_iff.1 hej
            obtain ⟨g, off, cap, hav2, hg, e0, e1⟩ := HEJ.out hjl
            rw [hjx] at e0 e1
            rw [hav2] at hav
            cases hav
            rw [hej, Option.some_or] at HSTEP
            have hjn : j < ne := by rw [← hne]; exact hjl
            have HAV2 := Lib.hid hav2
            clear hav2 hej hjx HEJ hne hjl
            unfold ptrV
            go_wp2_with fail
            refine HFD.out.mono ?_
            rintro e w2 ⟨rfl, hb2⟩
            obtain ⟨y0, y1⟩ := pg_cells (HKB.out.below hb2)
            rw [HAV2.out] at y0
            have HB2 := Lib.hid hb2
            clear hb2
            go_wp2_with fail
            refine (HCH.out w2 HB2.out).mono ?_
            rintro e wq ⟨rfl, hq⟩
            subst hq
            have hnew := HSTEP.out _ (.pointer (some ⟨g, off + j * 2, none⟩)) HB2.out ⟨g, _, rfl, Nat.lt_of_lt_of_le hg HB2.out.size, (HB2.out.cell hg).trans e0, (HB2.out.cell hg).trans e1⟩
            have HNEW := Lib.hid hnew
            clear hnew e0 e1
            go_wp2_with fail
            go_roundw
            case rel => obtain ⟨d2, h1, h2⟩ := HNEW.out; exact ⟨d2, h2⟩
            case measure =>
              obtain ⟨d2, h1, h2⟩ := HNEW.out
              have h3 := gm_le h2
              have h4 := HGM.out
              unfold ptrV at h4
              refine Nat.lt_of_le_of_lt h3 ?_
              exact Nat.lt_of_lt_of_eq h1 h4.symm
          | none =>
            rw [hej, Option.none_or] at HSTEP
            have hjn : ¬ j < ne := by
              rw [List.getElem?_eq_none_iff] at hej
              omega
            clear hne hej HEJ
            unfold ptrV
            go_wp2_with fail
            refine HFD.out.mono ?_
            rintro e w2 ⟨rfl, hb2⟩
            obtain ⟨y0, y1⟩ := pg_cells (HKB.out.below hb2)
            rw [HAV.out] at y0
            have HB2 := Lib.hid hb2
            clear hb2
            go_wp2_with fail
            refine (HCH.out w2 HB2.out).mono ?_
            rintro e wq ⟨rfl, hq⟩
            subst hq
            have hnew := HSTEP.out _ _ HB2.out (HBEST.out.below HB2.out)
            have HNEW := Lib.hid hnew
            clear hnew
            go_wp2_with fail
            go_roundw
            case rel => obtain ⟨d2, h1, h2⟩ := HNEW.out; exact ⟨d2, h2⟩
            case measure =>
              obtain ⟨d2, h1, h2⟩ := HNEW.out
              have h3 := gm_le h2
              have h4 := HGM.out
              unfold ptrV at h4
              refine Nat.lt_of_le_of_lt h3 ?_
              exact Nat.lt_of_lt_of_eq h1 h4.symm
        · cases hej : es[j]? with
          | some xj =>
            obtain ⟨hjl, hjx⟩ := List.getElem?_eq_some_iff.1 hej
            obtain ⟨g, off, cap, hav2, hg, e0, e1⟩ := HEJ.out hjl
            rw [hjx] at e0 e1
            rw [hav2] at hav
            cases hav
            rw [hej, Option.some_or] at HSTEP
            have hjn : j < ne := by rw [← hne]; exact hjl
            have HAV2 := Lib.hid hav2
            clear hav2 hej hjx HEJ hne hjl
            unfold ptrV
            go_wp2_with fail
            refine HFD.out.mono ?_
            rintro e w2 ⟨rfl, hb2⟩
            obtain ⟨y0, y1⟩ := pg_cells (HKB.out.below hb2)
            rw [HAV2.out] at y0
            have HB2 := Lib.hid hb2
            clear hb2
            go_wp2_with fail
            refine (HCH.out w2 HB2.out).mono ?_
            rintro e wq ⟨rfl, hq⟩
            subst hq
            have hnew := HSTEP.out _ (.pointer (some ⟨g, off + j * 2, none⟩)) HB2.out ⟨g, _, rfl, Nat.lt_of_lt_of_le hg HB2.out.size, (HB2.out.cell hg).trans e0, (HB2.out.cell hg).trans e1⟩
            have HNEW := Lib.hid hnew
            clear hnew e0 e1
            go_wp2_with fail
            go_roundw
            case rel => obtain ⟨d2, h1, h2⟩ := HNEW.out; exact ⟨d2, h2⟩
            case measure =>
              obtain ⟨d2, h1, h2⟩ := HNEW.out
              have h3 := gm_le h2
              have h4 := HGM.out
              unfold ptrV at h4
              refine Nat.lt_of_le_of_lt h3 ?_
              exact Nat.lt_of_lt_of_eq h1 h4.symm
          | none =>
            rw [hej, Option.none_or] at HSTEP
            have hjn : ¬ j < ne := by
              rw [List.getElem?_eq_none_iff] at hej
              omega
            clear hne hej HEJ
            unfold ptrV
            go_wp2_with fail
            refine HFD.out.mono ?_
            rintro e w2 ⟨rfl, hb2⟩
            obtain ⟨y0, y1⟩ := pg_cells (HKB.out.below hb2)
            rw [HAV.out] at y0
            have HB2 := Lib.hid hb2
            clear hb2
            go_wp2_with fail
            refine (HCH.out w2 HB2.out).mono ?_
            rintro e wq ⟨rfl, hq⟩
            subst hq
            have hnew := HSTEP.out _ _ HB2.out (HBEST.out.below HB2.out)
            have HNEW := Lib.hid hnew
            clear hnew
            go_wp2_with fail
            go_roundw
            case rel => obtain ⟨d2, h1, h2⟩ := HNEW.out; exact ⟨d2, h2⟩
            case measure =>
              obtain ⟨d2, h1, h2⟩ := HNEW.out
              have h3 := gm_le h2
              have h4 := HGM.out
              unfold ptrV at h4
              refine Nat.lt_of_le_of_lt h3 ?_
              exact Nat.lt_of_lt_of_eq h1 h4.symm
      · rw [hh] at hfd
        cases wi
        · have hstep := Next_step_i w wr res k false b av bv es ks m d' (pos k es + 1) acc (es[pos k es + 1]?.or acc) hb (by rw [pres_i]; exact hsq) hf hr hln hres
            (fun hk => by
              subst hk
              obtain ⟨a, b', hlf⟩ := leaf_page (k := k) (es := es) hr
              rw [hlf.abv.2.1 hh rfl])
            (fun hk => by
              rcases d' with _ | d'
              · exact absurd (by simpa using hf.2) hk
              · obtain ⟨a, bb, l, c, r, hsp, hgc⟩ := split_page (k := k) hr hf.2.1
                obtain ⟨c', hc', habv⟩ := hsp.abv.2.1 hh rfl
                rw [List.getElem?_map] at hc'
                cases hq : ks[pos k es + 1]? with
                | none => rw [hq] at hc'; cases hc'
                | some kc =>
                  rw [hq] at hc'
                  have hkc : kc.t = c' := by simpa using hc'
                  exact ⟨kc, rfl, by rw [habv, hkc, Option.or_assoc]⟩)
          have hpl : pos k es < es.length := (has_at.1 hh).1
          have hjk : ks ≠ [] → pos k es + 1 < ks.length := fun hk => by
            rcases d' with _ | d'
            · exact absurd (by simpa using hf.2) hk
            · have h1 : ks.length = es.length + 1 := by simpa using hf.2.1
              omega
          obtain ⟨i, hi⟩ : ∃ i, i = pos k es := ⟨_, rfl⟩
          obtain ⟨j, hj⟩ : ∃ j, j = i + 1 := ⟨_, rfl⟩
          rw [← hi, ← hj] at hstep hjk
          rw [← hi] at hfd hpl
          clear hi
          have hj2 : (i : Int) + 1 = (j : Int) := by omega
          have HFD := Lib.hid hfd
          have HCH : Hid (∀ w2, Below wr.heap.size wr w2 → Calls Try.prog 46 #[ptrV b, .int .i64 (j : Int)] w2 fun e w' => e = .returned (kidV ks[j]?) ∧ w' = w2) := (fun w2 (hb2 : Below wr.heap.size wr w2) => child_i w2 b _ av bv ks j (fun _ => True) (HKB.out.below hb2) ((HOK.out.below hb2).sl (fun _ _ => trivial)) hjk)
          obtain ⟨nv, hnv⟩ : ∃ nv, kidV ks[j]? = nv := ⟨_, rfl⟩
          rw [hnv] at hstep HCH
          have HSTEP := Lib.hid hstep
          have hj5 : j ≤ 100001 := by have h0 := pos_le k es; omega
          have HEJ : Hid (∀ h : j < es.length, ∃ g off cap, av = .slice (some ⟨g, off, none⟩) ne cap ∧ g < wr.heap.size ∧ wr.cell? ⟨g, off + j * 2, none⟩ = some (.string (kb es[j].key)) ∧ wr.cell? ⟨g, off + j * 2 + 1, none⟩ = some es[j].val) := fun h => by
            rw [← hne]
            exact sl_en (oa.sl (B := fun _ => True) (fun _ _ => trivial)) h
          unfold ptrV at HCH HFD
          clear kb0 oa ok hfd hb hsq hh hr hf hrel hln hbest hres hstep hjk hnv hj
          cases hej : es[j]? with
          | some xj =>
            obtain ⟨hjl, hjx⟩ := List.getElem?_eq_some_iff.1 hej
            obtain ⟨g, off, cap, hav2, hg, e0, e1⟩ := HEJ.out hjl
            rw [hjx] at e0 e1
            rw [hav2] at hav
            cases hav
            rw [hej, Option.some_or] at HSTEP
            have hjn : j < ne := by rw [← hne]; exact hjl
            have HAV2 := Lib.hid hav2
            clear hav2 hej hjx HEJ hne hjl
            unfold ptrV
            go_wp2_with fail
            refine HFD.out.mono ?_
            rintro e w2 ⟨rfl, hb2⟩
            obtain ⟨y0, y1⟩ := pg_cells (HKB.out.below hb2)
            rw [HAV2.out] at y0
            have HB2 := Lib.hid hb2
            clear hb2
            go_wp2_with fail
            refine (HCH.out w2 HB2.out).mono ?_
            rintro e wq ⟨rfl, hq⟩
            subst hq
            have hnew := HSTEP.out _ (.pointer (some ⟨g, off + j * 2, none⟩)) HB2.out ⟨g, _, rfl, Nat.lt_of_lt_of_le hg HB2.out.size, (HB2.out.cell hg).trans e0, (HB2.out.cell hg).trans e1⟩
            have HNEW := Lib.hid hnew
            clear hnew e0 e1
            go_wp2_with fail
            go_roundw
            case rel => obtain ⟨d2, h1, h2⟩ := HNEW.out; exact ⟨d2, h2⟩
            case measure =>
              obtain ⟨d2, h1, h2⟩ := HNEW.out
              have h3 := gm_le h2
              have h4 := HGM.out
              unfold ptrV at h4
              refine Nat.lt_of_le_of_lt h3 ?_
              exact Nat.lt_of_lt_of_eq h1 h4.symm
          | none =>
            rw [hej, Option.none_or] at HSTEP
            have hjn : ¬ j < ne := by
              rw [List.getElem?_eq_none_iff] at hej
              omega
            clear hne hej HEJ
            unfold ptrV
            go_wp2_with fail
            refine HFD.out.mono ?_
            rintro e w2 ⟨rfl, hb2⟩
            obtain ⟨y0, y1⟩ := pg_cells (HKB.out.below hb2)
            rw [HAV.out] at y0
            have HB2 := Lib.hid hb2
            clear hb2
            go_wp2_with fail
            refine (HCH.out w2 HB2.out).mono ?_
            rintro e wq ⟨rfl, hq⟩
            subst hq
            have hnew := HSTEP.out _ _ HB2.out (HBEST.out.below HB2.out)
            have HNEW := Lib.hid hnew
            clear hnew
            go_wp2_with fail
            go_roundw
            case rel => obtain ⟨d2, h1, h2⟩ := HNEW.out; exact ⟨d2, h2⟩
            case measure =>
              obtain ⟨d2, h1, h2⟩ := HNEW.out
              have h3 := gm_le h2
              have h4 := HGM.out
              unfold ptrV at h4
              refine Nat.lt_of_le_of_lt h3 ?_
              exact Nat.lt_of_lt_of_eq h1 h4.symm
        · have hpl : pos k es < es.length := (has_at.1 hh).1
          have hx : es[pos k es]? = some es[pos k es] := List.getElem?_eq_getElem hpl
          have hrx : res = some es[pos k es] := by
            rw [hres]
            rcases d' with _ | d'
            · have hk0 : ks = [] := by simpa using hf.2
              subst hk0
              simp only [List.map_nil]
              rw [flat_leaf]
              obtain ⟨a, b', hlf⟩ := leaf_page (k := k) (es := es) hr
              obtain ⟨e, h1, h2⟩ := hlf.abv.1 hh rfl
              rw [h2, ← h1, hx]; rfl
            · obtain ⟨a, bb, l, c, r, hsp, hgc⟩ := split_page (k := k) hr hf.2.1
              obtain ⟨e, h1, h2⟩ := hsp.abv.1 hh rfl
              rw [h2, ← h1, hx]; rfl
          obtain ⟨x, hxx⟩ : ∃ x, es[pos k es] = x := ⟨_, rfl⟩
          obtain ⟨g, off, cap, hav2, hg, e0, e1⟩ := sl_en (oa.sl (B := fun _ => True) (fun _ _ => trivial)) hpl
          rw [hne] at hav2
          rw [hav2] at hav
          cases hav
          rw [hne] at hpl
          rw [hxx] at hrx e0 e1
          subst hrx
          clear hxx
          obtain ⟨i, hi⟩ : ∃ i, i = pos k es := ⟨_, rfl⟩
          rw [← hi] at hpl e0 e1 hfd
          have HFD := Lib.hid hfd
          have HAV2 := Lib.hid hav2
          clear kb0 oa ok hfd hb hsq hh hav2 hr hf hrel hln hx hne hi hbest hres
          unfold ptrV at HFD ⊢
          go_wp2_with fail
          refine HFD.out.mono ?_
          rintro e w2 ⟨rfl, hb2⟩
          have HTD := Lib.hid (told_i w2 (.pointer (some ⟨g, off + i * 2, none⟩)) (some x) ⟨g, _, rfl, Nat.lt_of_lt_of_le hg hb2.size, (hb2.cell hg).trans e0, (hb2.cell hg).trans e1⟩)
          obtain ⟨y0, y1⟩ := pg_cells (HKB.out.below hb2)
          rw [HAV2.out] at y0
          have HB2 := Lib.hid hb2
          clear hb2 e0 e1
          unfold toldV at HTD
          simp only at HTD
          go_wp2_with fail
          refine HTD.out.mono ?_
          rintro e w3 ⟨rfl, hb3⟩
          go_wp2
          exact bodyPost_ret (v := .tuple #[.string (kb x.key), x.val, .bool true]) (by simp [results, Try.results26, go_sem]) rfl ⟨rfl, HB.out.trans ((HB2.out.trans (hb3.mono HB2.out.size)).mono HB.out.size)⟩

end Go.Proofs.Ytfnndifckgjmjaa
/- Trees told: Ahead, Last. -/
namespace Go.Proofs.Ytfnndifckgjmjaa
open Go.RowKit Go.Afx

/-- What Ahead's loop keeps. -/
def AheadSti (w : World) (res : Option En) (k : Key) (wi : Bool) (best v : Value) (wr : World) (d : Nat) : Prop :=
  Below w.heap.size w wr ∧ ∃ acc, BestAt wr best acc ∧ ((v = .pointer none ∧ res = acc ∧ d = 0) ∨ ∃ q m d', v = ptrV q.blk ∧ d = d' + 1 ∧ Sep wr (presi q) ∧ Fat m d' q.t ∧ Rise q.t.flat ∧ q.t.flat.length ≤ 99999 ∧ res = (blw k wi q.t.flat).or acc)

theorem Ahead_step_i (w wr : World) (res : Option En) (k : Key) (wi : Bool) (b : Nat) (av bv : Value) (es : List En) (ks : List P) (m d' j : Nat) (acc acc' : Option En) (hb : Below w.heap.size w wr) (hsq : Sep wr (presi (.node b av es bv ks)))
    (hf : Fat m d' (.node es (ks.map P.t))) (hr : Rise (T.node es (ks.map P.t)).flat) (hln : (T.node es (ks.map P.t)).flat.length ≤ 99999) (hres : res = (blw k wi (T.node es (ks.map P.t)).flat).or acc)
    (h0 : ks = [] → (blw k wi es).or acc = acc') (h1 : ks ≠ [] → ∃ c, ks[j]? = some c ∧ ((blw k wi (T.node es (ks.map P.t)).flat).or acc = (blw k wi c.t.flat).or acc')) :
    ∀ w2 best', Below wr.heap.size wr w2 → BestAt w2 best' acc' → ∃ d'', d'' < d' + 1 ∧ AheadSti w res k wi best' (kidV ks[j]?) w2 d'' := by
  intro w2 best' hb2 hbest
  have hb3 := hb.trans (hb2.mono hb.size)
  by_cases hk : ks = []
  · subst hk
    refine ⟨0, by omega, hb3, acc', hbest, .inl ⟨rfl, ?_, rfl⟩⟩
    rw [hres, ← h0 rfl]
    simp only [List.map_nil]
    rw [flat_leaf]
  · obtain ⟨c, hc, hc2⟩ := h1 hk
    have hcm : c ∈ ks := List.mem_of_getElem? hc
    rcases d' with _ | d'
    · exact absurd (by simpa using hf.2) hk
    · have hkl : (ks.map P.t).length ≤ es.length + 1 := Nat.le_of_eq hf.2.1
      rw [pres_i] at hsq
      refine ⟨d' + 1, by omega, hb3, acc', hbest, .inr ⟨c, 2, d', by rw [hc]; rfl, rfl, (sep_kid (hsq.right (a := [_, _, _])) hcm).below hb2, hf.2.2 _ (List.mem_map_of_mem hcm), ?_, Nat.le_trans (kid_flat_len hkl (List.mem_map_of_mem hcm)) hln, by rw [hres, hc2]⟩⟩
      exact kid_rise hr hkl (List.mem_map_of_mem hcm)
set_option maxRecDepth 100000 in
set_option maxHeartbeats 8000000 in
theorem ahead_i (w : World) (tb : Nat) (p : P) (d n : Nat) (k : Key) (wi : Bool) (hs : Sep w (trsi tb p n)) (hg : Afx.Good d p.t) (hn : n = p.t.flat.length) (hl : n ≤ 99999) :
    Calls Try.prog 40 #[ptrV tb, .string (kb k), .bool wi] w fun e w' => e = .returned (toldV (.int .i64 0) (blw k wi p.t.flat)) ∧ Below w.heap.size w w' := by
  have kt0 : Blk w tb 68 [ptrV p.blk, .int .i64 (n : Int)] := hs.all (rTi tb p n) (by simp)
  obtain ⟨c0, c1⟩ := pg_cells kt0
  obtain ⟨res, hres0⟩ : ∃ res, blw k wi p.t.flat = res := ⟨_, rfl⟩
  rw [hres0]
  have HST : Hid (AheadSti w res k wi (.pointer none) (.pointer (some ⟨p.blk, 0, none⟩)) w (d + 1)) := ⟨Below.refl _ _, none, rfl, .inr ⟨p, _, d, rfl, rfl, hs.right (a := [rTi tb p n]), hg.fat, hg.rise, by omega, by rw [hres0]; simp⟩⟩
  unfold ptrV at c0 ⊢
  clear kt0 hs hg hn hl hres0
  go_enter Try.func40, Try.ntmps40
  go_wp2
  go_loopw [9, 10, 11, 12] (fun best v i ok wr => ∃ d, AheadSti w res k wi best v wr d) (fun best v _ _ wr => gm (AheadSti w res k wi best v wr))
  case atStart => exact ⟨d + 1, HST.out⟩
  case round =>
    have hst := gm_spec hrel
    obtain ⟨dd, hdd⟩ : ∃ dd, gm (AheadSti w res k wi u9 u10 wr) = dd := ⟨_, rfl⟩
    rw [hdd] at hst
    have HGM := Lib.hid hdd
    clear hdd
    obtain ⟨hb, acc, hbest, hst⟩ := hst
    rcases hst with ⟨rfl, rfl, rfl⟩ | ⟨q, m, d', rfl, rfl, hsq, hf, hr, hln, hres⟩
    · have HTD := Lib.hid (told_i wr u9 res hbest)
      have HB := Lib.hid hb
      clear hbest hb hrel
      go_wp2_with fail
      refine HTD.out.mono ?_
      rintro e w2 ⟨rfl, hb2⟩
      cases res with
      | none =>
        unfold toldV
        simp only
        go_wp2
        exact bodyPost_ret (v := .tuple #[.string ⟨#[]⟩, (.int .i64 0), .bool false]) (by simp [results, Try.results40, go_sem]) rfl ⟨rfl, HB.out.trans (hb2.mono HB.out.size)⟩
      | some x =>
        unfold toldV
        simp only
        go_wp2
        exact bodyPost_ret (v := .tuple #[.string (kb x.key), x.val, .bool true]) (by simp [results, Try.results40, go_sem]) rfl ⟨rfl, HB.out.trans (hb2.mono HB.out.size)⟩
    · obtain ⟨b, av, es, bv, ks, rfl⟩ := P.eta q
      rw [pres_i] at hsq
      rw [P.t_node] at hf hr hln hres
      have kb0 : Blk wr b 66 [av, bv] := hsq.all (rBi b av bv) (by simp only [List.mem_cons, true_or, or_true])
      have oa : Own wr 87 2 av es.length (enC es) := hsq.all (rAi av es) (by simp only [List.mem_cons, true_or, or_true])
      have ok : Own wr 60 1 bv ks.length (ptrs ks) := hsq.all (rKi bv ks) (by simp only [List.mem_cons, true_or, or_true])
      have hel : es.length ≤ 99999 := Nat.le_trans (es_flat_len (.node es _)) hln
      have hfd := find_i wr b _ av bv es k (fun _ => True) kb0 (oa.sl (B := fun _ => True) (fun _ _ => trivial)) hr.es (by omega)
      simp only [P.blk_node] at *
      have HKB := Lib.hid kb0
      have HOA := Lib.hid oa
      have HOK := Lib.hid ok
      have HB := Lib.hid hb
      have HSQ := Lib.hid hsq
      have hbl := kb0.lt
      obtain ⟨pa, ca, hav, hca1, hca2⟩ := own_form_Ei oa
      obtain ⟨ne, hne⟩ : ∃ ne, es.length = ne := ⟨_, rfl⟩
      rw [hne] at hav
      have HAV := Lib.hid hav
      have HNE := Lib.hid hne
      have HBEST := Lib.hid hbest
      cases hh : has k es
      · rw [hh] at hfd
        have hstep := Ahead_step_i w wr res k wi b av bv es ks m d' (pos k es) acc ((if pos k es = 0 then none else es[pos k es - 1]?).or acc) hb (by rw [pres_i]; exact hsq) hf hr hln hres
          (fun hk => by
            subst hk
            obtain ⟨a, b', hlf⟩ := leaf_page (k := k) (es := es) hr
            rw [hlf.blw.2 (fun h => by rw [hh] at h; cases h), last_ahead hlf.es_ hlf.al])
          (fun hk => by
            rcases d' with _ | d'
            · exact absurd (by simpa using hf.2) hk
            · obtain ⟨a, bb, l, c, r, hsp, hgc⟩ := split_page (k := k) hr hf.2.1
              rw [List.getElem?_map] at hgc
              cases hq : ks[pos k es]? with
              | none => rw [hq] at hgc; cases hgc
              | some kc =>
                rw [hq] at hgc
                have hkc : kc.t = c := by simpa using hgc
                exact ⟨kc, rfl, by rw [hsp.blw.2 (fun h => by rw [hh] at h; cases h), hkc, Option.or_assoc, last_ahead hsp.es_ hsp.al]⟩)
        have hjk : ks ≠ [] → pos k es < ks.length := fun hk => by
          rcases d' with _ | d'
          · exact absurd (by simpa using hf.2) hk
          · have h1 : ks.length = es.length + 1 := by simpa using hf.2.1
            have h0 := pos_le k es; omega
        obtain ⟨j, hj⟩ : ∃ j, j = pos k es := ⟨_, rfl⟩
        rw [← hj] at hstep hjk hfd
        have HFD := Lib.hid hfd
        have HCH : Hid (∀ w2, Below wr.heap.size wr w2 → Calls Try.prog 46 #[ptrV b, .int .i64 (j : Int)] w2 fun e w' => e = .returned (kidV ks[j]?) ∧ w' = w2) := (fun w2 (hb2 : Below wr.heap.size wr w2) => child_i w2 b _ av bv ks j (fun _ => True) (HKB.out.below hb2) ((HOK.out.below hb2).sl (fun _ _ => trivial)) hjk)
        obtain ⟨nv, hnv⟩ : ∃ nv, kidV ks[j]? = nv := ⟨_, rfl⟩
        rw [hnv] at hstep HCH
        have HSTEP := Lib.hid hstep
        have hj5 : j ≤ 100001 := by have h0 := pos_le k es; omega
        have hjne : j ≤ ne := by have h0 := pos_le k es; omega
        have HEJ : Hid (∀ i (h : i < es.length), ∃ g off cap, av = .slice (some ⟨g, off, none⟩) ne cap ∧ g < wr.heap.size ∧ wr.cell? ⟨g, off + i * 2, none⟩ = some (.string (kb es[i].key)) ∧ wr.cell? ⟨g, off + i * 2 + 1, none⟩ = some es[i].val) := fun i h => by
          rw [← hne]
          exact sl_en (oa.sl (B := fun _ => True) (fun _ _ => trivial)) h
        unfold ptrV at HCH HFD
        clear kb0 oa ok hfd hb hsq hh hr hf hrel hln hbest hres hstep hjk hnv hj
        cases wi
        · rcases Nat.eq_zero_or_pos j with hj0 | hj0
          · subst hj0
            have hacc : (if 0 = 0 then none else es[0 - 1]?).or acc = acc := by simp
            rw [hacc] at HSTEP
            clear hne HEJ hacc
            unfold ptrV
            go_wp2_with fail
            refine HFD.out.mono ?_
            rintro e w2 ⟨rfl, hb2⟩
            obtain ⟨y0, y1⟩ := pg_cells (HKB.out.below hb2)
            rw [HAV.out] at y0
            have HB2 := Lib.hid hb2
            clear hb2
            go_wp2_with fail
            refine (HCH.out w2 HB2.out).mono ?_
            rintro e wq ⟨rfl, hq⟩
            subst hq
            have hnew := HSTEP.out _ _ HB2.out (HBEST.out.below HB2.out)
            have HNEW := Lib.hid hnew
            clear hnew
            go_wp2_with fail
            go_roundw
            case rel => obtain ⟨d2, h1, h2⟩ := HNEW.out; exact ⟨d2, h2⟩
            case measure =>
              obtain ⟨d2, h1, h2⟩ := HNEW.out
              have h3 := gm_le h2
              have h4 := HGM.out
              unfold ptrV at h4
              refine Nat.lt_of_le_of_lt h3 ?_
              exact Nat.lt_of_lt_of_eq h1 h4.symm
          · obtain ⟨i, hi⟩ : ∃ i, j = i + 1 := ⟨j - 1, by omega⟩
            have hin : i < es.length := by omega
            obtain ⟨xj, hxj⟩ : ∃ xj, es[i]? = some xj := ⟨_, List.getElem?_eq_getElem hin⟩
            have hacc : (if j = 0 then none else es[j - 1]?).or acc = some xj := by
              rw [if_neg (by omega), hi, Nat.add_sub_cancel, hxj]; rfl
            rw [hacc] at HSTEP
            obtain ⟨hjl, hjx⟩ := List.getElem?_eq_some_iff.1 hxj
            obtain ⟨g, off, cap, hav2, hg, e0, e1⟩ := HEJ.out i hjl
            rw [hjx] at e0 e1
            rw [hav2] at hav
            cases hav
            have hji : (j : Int) - 1 = (i : Int) := by omega
            have hin2 : i < ne := by rw [← hne]; exact hjl
            have HAV2 := Lib.hid hav2
            have HI := Lib.hid hi
            clear hav2 hjx HEJ hne hacc hxj hi hjl hin
            unfold ptrV
            go_wp2_with fail
            refine HFD.out.mono ?_
            rintro e w2 ⟨rfl, hb2⟩
            obtain ⟨y0, y1⟩ := pg_cells (HKB.out.below hb2)
            rw [HAV2.out] at y0
            have HB2 := Lib.hid hb2
            clear hb2
            go_wp2_with fail
            refine (HCH.out w2 HB2.out).mono ?_
            rintro e wq ⟨rfl, hq⟩
            subst hq
            have hnew := HSTEP.out _ (.pointer (some ⟨g, off + i * 2, none⟩)) HB2.out ⟨g, _, rfl, Nat.lt_of_lt_of_le hg HB2.out.size, (HB2.out.cell hg).trans e0, (HB2.out.cell hg).trans e1⟩
            clear e0 e1
            have HNEW := Lib.hid hnew
            clear hnew
            go_wp2_with fail
            go_roundw
            case rel => obtain ⟨d2, h1, h2⟩ := HNEW.out; exact ⟨d2, h2⟩
            case measure =>
              obtain ⟨d2, h1, h2⟩ := HNEW.out
              have h3 := gm_le h2
              have h4 := HGM.out
              unfold ptrV at h4
              refine Nat.lt_of_le_of_lt h3 ?_
              exact Nat.lt_of_lt_of_eq h1 h4.symm
        · rcases Nat.eq_zero_or_pos j with hj0 | hj0
          · subst hj0
            have hacc : (if 0 = 0 then none else es[0 - 1]?).or acc = acc := by simp
            rw [hacc] at HSTEP
            clear hne HEJ hacc
            unfold ptrV
            go_wp2_with fail
            refine HFD.out.mono ?_
            rintro e w2 ⟨rfl, hb2⟩
            obtain ⟨y0, y1⟩ := pg_cells (HKB.out.below hb2)
            rw [HAV.out] at y0
            have HB2 := Lib.hid hb2
            clear hb2
            go_wp2_with fail
            refine (HCH.out w2 HB2.out).mono ?_
            rintro e wq ⟨rfl, hq⟩
            subst hq
            have hnew := HSTEP.out _ _ HB2.out (HBEST.out.below HB2.out)
            have HNEW := Lib.hid hnew
            clear hnew
            go_wp2_with fail
            go_roundw
            case rel => obtain ⟨d2, h1, h2⟩ := HNEW.out; exact ⟨d2, h2⟩
            case measure =>
              obtain ⟨d2, h1, h2⟩ := HNEW.out
              have h3 := gm_le h2
              have h4 := HGM.out
              unfold ptrV at h4
              refine Nat.lt_of_le_of_lt h3 ?_
              exact Nat.lt_of_lt_of_eq h1 h4.symm
          · obtain ⟨i, hi⟩ : ∃ i, j = i + 1 := ⟨j - 1, by omega⟩
            have hin : i < es.length := by omega
            obtain ⟨xj, hxj⟩ : ∃ xj, es[i]? = some xj := ⟨_, List.getElem?_eq_getElem hin⟩
            have hacc : (if j = 0 then none else es[j - 1]?).or acc = some xj := by
              rw [if_neg (by omega), hi, Nat.add_sub_cancel, hxj]; rfl
            rw [hacc] at HSTEP
            obtain ⟨hjl, hjx⟩ := List.getElem?_eq_some_iff.1 hxj
            obtain ⟨g, off, cap, hav2, hg, e0, e1⟩ := HEJ.out i hjl
            rw [hjx] at e0 e1
            rw [hav2] at hav
            cases hav
            have hji : (j : Int) - 1 = (i : Int) := by omega
            have hin2 : i < ne := by rw [← hne]; exact hjl
            have HAV2 := Lib.hid hav2
            have HI := Lib.hid hi
            clear hav2 hjx HEJ hne hacc hxj hi hjl hin
            unfold ptrV
            go_wp2_with fail
            refine HFD.out.mono ?_
            rintro e w2 ⟨rfl, hb2⟩
            obtain ⟨y0, y1⟩ := pg_cells (HKB.out.below hb2)
            rw [HAV2.out] at y0
            have HB2 := Lib.hid hb2
            clear hb2
            go_wp2_with fail
            refine (HCH.out w2 HB2.out).mono ?_
            rintro e wq ⟨rfl, hq⟩
            subst hq
            have hnew := HSTEP.out _ (.pointer (some ⟨g, off + i * 2, none⟩)) HB2.out ⟨g, _, rfl, Nat.lt_of_lt_of_le hg HB2.out.size, (HB2.out.cell hg).trans e0, (HB2.out.cell hg).trans e1⟩
            clear e0 e1
            have HNEW := Lib.hid hnew
            clear hnew
            go_wp2_with fail
            go_roundw
            case rel => obtain ⟨d2, h1, h2⟩ := HNEW.out; exact ⟨d2, h2⟩
            case measure =>
              obtain ⟨d2, h1, h2⟩ := HNEW.out
              have h3 := gm_le h2
              have h4 := HGM.out
              unfold ptrV at h4
              refine Nat.lt_of_le_of_lt h3 ?_
              exact Nat.lt_of_lt_of_eq h1 h4.symm
      · rw [hh] at hfd
        cases wi
        · have hstep := Ahead_step_i w wr res k false b av bv es ks m d' (pos k es) acc ((if pos k es = 0 then none else es[pos k es - 1]?).or acc) hb (by rw [pres_i]; exact hsq) hf hr hln hres
            (fun hk => by
              subst hk
              obtain ⟨a, b', hlf⟩ := leaf_page (k := k) (es := es) hr
              rw [hlf.blw.2 (fun _ => rfl), last_ahead hlf.es_ hlf.al])
            (fun hk => by
              rcases d' with _ | d'
              · exact absurd (by simpa using hf.2) hk
              · obtain ⟨a, bb, l, c, r, hsp, hgc⟩ := split_page (k := k) hr hf.2.1
                rw [List.getElem?_map] at hgc
                cases hq : ks[pos k es]? with
                | none => rw [hq] at hgc; cases hgc
                | some kc =>
                  rw [hq] at hgc
                  have hkc : kc.t = c := by simpa using hgc
                  exact ⟨kc, rfl, by rw [hsp.blw.2 (fun _ => rfl), hkc, Option.or_assoc, last_ahead hsp.es_ hsp.al]⟩)
          have hjk : ks ≠ [] → pos k es < ks.length := fun hk => by
            rcases d' with _ | d'
            · exact absurd (by simpa using hf.2) hk
            · have h1 : ks.length = es.length + 1 := by simpa using hf.2.1
              have h0 := pos_le k es; omega
          obtain ⟨j, hj⟩ : ∃ j, j = pos k es := ⟨_, rfl⟩
          rw [← hj] at hstep hjk hfd
          have HFD := Lib.hid hfd
          have HCH : Hid (∀ w2, Below wr.heap.size wr w2 → Calls Try.prog 46 #[ptrV b, .int .i64 (j : Int)] w2 fun e w' => e = .returned (kidV ks[j]?) ∧ w' = w2) := (fun w2 (hb2 : Below wr.heap.size wr w2) => child_i w2 b _ av bv ks j (fun _ => True) (HKB.out.below hb2) ((HOK.out.below hb2).sl (fun _ _ => trivial)) hjk)
          obtain ⟨nv, hnv⟩ : ∃ nv, kidV ks[j]? = nv := ⟨_, rfl⟩
          rw [hnv] at hstep HCH
          have HSTEP := Lib.hid hstep
          have hj5 : j ≤ 100001 := by have h0 := pos_le k es; omega
          have hjne : j ≤ ne := by have h0 := pos_le k es; omega
          have HEJ : Hid (∀ i (h : i < es.length), ∃ g off cap, av = .slice (some ⟨g, off, none⟩) ne cap ∧ g < wr.heap.size ∧ wr.cell? ⟨g, off + i * 2, none⟩ = some (.string (kb es[i].key)) ∧ wr.cell? ⟨g, off + i * 2 + 1, none⟩ = some es[i].val) := fun i h => by
            rw [← hne]
            exact sl_en (oa.sl (B := fun _ => True) (fun _ _ => trivial)) h
          unfold ptrV at HCH HFD
          clear kb0 oa ok hfd hb hsq hh hr hf hrel hln hbest hres hstep hjk hnv hj
          rcases Nat.eq_zero_or_pos j with hj0 | hj0
          · subst hj0
            have hacc : (if 0 = 0 then none else es[0 - 1]?).or acc = acc := by simp
            rw [hacc] at HSTEP
            clear hne HEJ hacc
            unfold ptrV
            go_wp2_with fail
            refine HFD.out.mono ?_
            rintro e w2 ⟨rfl, hb2⟩
            obtain ⟨y0, y1⟩ := pg_cells (HKB.out.below hb2)
            rw [HAV.out] at y0
            have HB2 := Lib.hid hb2
            clear hb2
            go_wp2_with fail
            refine (HCH.out w2 HB2.out).mono ?_
            rintro e wq ⟨rfl, hq⟩
            subst hq
            have hnew := HSTEP.out _ _ HB2.out (HBEST.out.below HB2.out)
            have HNEW := Lib.hid hnew
            clear hnew
            go_wp2_with fail
            go_roundw
            case rel => obtain ⟨d2, h1, h2⟩ := HNEW.out; exact ⟨d2, h2⟩
            case measure =>
              obtain ⟨d2, h1, h2⟩ := HNEW.out
              have h3 := gm_le h2
              have h4 := HGM.out
              unfold ptrV at h4
              refine Nat.lt_of_le_of_lt h3 ?_
              exact Nat.lt_of_lt_of_eq h1 h4.symm
          · obtain ⟨i, hi⟩ : ∃ i, j = i + 1 := ⟨j - 1, by omega⟩
            have hin : i < es.length := by omega
            obtain ⟨xj, hxj⟩ : ∃ xj, es[i]? = some xj := ⟨_, List.getElem?_eq_getElem hin⟩
            have hacc : (if j = 0 then none else es[j - 1]?).or acc = some xj := by
              rw [if_neg (by omega), hi, Nat.add_sub_cancel, hxj]; rfl
            rw [hacc] at HSTEP
            obtain ⟨hjl, hjx⟩ := List.getElem?_eq_some_iff.1 hxj
            obtain ⟨g, off, cap, hav2, hg, e0, e1⟩ := HEJ.out i hjl
            rw [hjx] at e0 e1
            rw [hav2] at hav
            cases hav
            have hji : (j : Int) - 1 = (i : Int) := by omega
            have hin2 : i < ne := by rw [← hne]; exact hjl
            have HAV2 := Lib.hid hav2
            have HI := Lib.hid hi
            clear hav2 hjx HEJ hne hacc hxj hi hjl hin
            unfold ptrV
            go_wp2_with fail
            refine HFD.out.mono ?_
            rintro e w2 ⟨rfl, hb2⟩
            obtain ⟨y0, y1⟩ := pg_cells (HKB.out.below hb2)
            rw [HAV2.out] at y0
            have HB2 := Lib.hid hb2
            clear hb2
            go_wp2_with fail
            refine (HCH.out w2 HB2.out).mono ?_
            rintro e wq ⟨rfl, hq⟩
            subst hq
            have hnew := HSTEP.out _ (.pointer (some ⟨g, off + i * 2, none⟩)) HB2.out ⟨g, _, rfl, Nat.lt_of_lt_of_le hg HB2.out.size, (HB2.out.cell hg).trans e0, (HB2.out.cell hg).trans e1⟩
            clear e0 e1
            have HNEW := Lib.hid hnew
            clear hnew
            go_wp2_with fail
            go_roundw
            case rel => obtain ⟨d2, h1, h2⟩ := HNEW.out; exact ⟨d2, h2⟩
            case measure =>
              obtain ⟨d2, h1, h2⟩ := HNEW.out
              have h3 := gm_le h2
              have h4 := HGM.out
              unfold ptrV at h4
              refine Nat.lt_of_le_of_lt h3 ?_
              exact Nat.lt_of_lt_of_eq h1 h4.symm
        · have hpl : pos k es < es.length := (has_at.1 hh).1
          have hx : es[pos k es]? = some es[pos k es] := List.getElem?_eq_getElem hpl
          have hrx : res = some es[pos k es] := by
            rw [hres]
            rcases d' with _ | d'
            · have hk0 : ks = [] := by simpa using hf.2
              subst hk0
              simp only [List.map_nil]
              rw [flat_leaf]
              obtain ⟨a, b', hlf⟩ := leaf_page (k := k) (es := es) hr
              obtain ⟨e, h1, h2⟩ := hlf.blw.1 hh rfl
              rw [h2, ← h1, hx]; rfl
            · obtain ⟨a, bb, l, c, r, hsp, hgc⟩ := split_page (k := k) hr hf.2.1
              obtain ⟨e, h1, h2⟩ := hsp.blw.1 hh rfl
              rw [h2, ← h1, hx]; rfl
          obtain ⟨x, hxx⟩ : ∃ x, es[pos k es] = x := ⟨_, rfl⟩
          obtain ⟨g, off, cap, hav2, hg, e0, e1⟩ := sl_en (oa.sl (B := fun _ => True) (fun _ _ => trivial)) hpl
          rw [hne] at hav2
          rw [hav2] at hav
          cases hav
          rw [hne] at hpl
          rw [hxx] at hrx e0 e1
          subst hrx
          clear hxx
          obtain ⟨i, hi⟩ : ∃ i, i = pos k es := ⟨_, rfl⟩
          rw [← hi] at hpl e0 e1 hfd
          have HFD := Lib.hid hfd
          have HAV2 := Lib.hid hav2
          clear kb0 oa ok hfd hb hsq hh hav2 hr hf hrel hln hx hne hi hbest hres
          unfold ptrV at HFD ⊢
          go_wp2_with fail
          refine HFD.out.mono ?_
          rintro e w2 ⟨rfl, hb2⟩
          have HTD := Lib.hid (told_i w2 (.pointer (some ⟨g, off + i * 2, none⟩)) (some x) ⟨g, _, rfl, Nat.lt_of_lt_of_le hg hb2.size, (hb2.cell hg).trans e0, (hb2.cell hg).trans e1⟩)
          obtain ⟨y0, y1⟩ := pg_cells (HKB.out.below hb2)
          rw [HAV2.out] at y0
          have HB2 := Lib.hid hb2
          clear hb2 e0 e1
          unfold toldV at HTD
          simp only at HTD
          go_wp2_with fail
          refine HTD.out.mono ?_
          rintro e w3 ⟨rfl, hb3⟩
          go_wp2
          exact bodyPost_ret (v := .tuple #[.string (kb x.key), x.val, .bool true]) (by simp [results, Try.results40, go_sem]) rfl ⟨rfl, HB.out.trans ((HB2.out.trans (hb3.mono HB2.out.size)).mono HB.out.size)⟩


/-- What Last's loop keeps. -/
def LastSti (w : World) (res : Option En) (best v : Value) (wr : World) (d : Nat) : Prop :=
  Below w.heap.size w wr ∧ ∃ acc, BestAt wr best acc ∧ ((v = .pointer none ∧ res = acc ∧ d = 0) ∨ ∃ q m d', v = ptrV q.blk ∧ d = d' + 1 ∧ Sep wr (presi q) ∧ Fat m d' q.t ∧ q.t.flat.length ≤ 99999 ∧ res = (q.t.flat.getLast?).or acc)
theorem Last_step_i (w wr : World) (res : Option En) (b : Nat) (av bv : Value) (es : List En) (ks : List P) (m d' : Nat) (acc : Option En) (hb : Below w.heap.size w wr) (hsq : Sep wr (presi (.node b av es bv ks)))
    (hf : Fat m d' (.node es (ks.map P.t))) (hln : (T.node es (ks.map P.t)).flat.length ≤ 99999) (hres : res = ((T.node es (ks.map P.t)).flat.getLast?).or acc) :
    ∀ w2 best', Below wr.heap.size wr w2 → BestAt w2 best' (es.getLast?.or acc) → ∃ d'', d'' < d' + 1 ∧ LastSti w res best' (kidV ks[es.length]?) w2 d'' := by
  intro w2 best' hb2 hbest
  have hb := hb.trans (hb2.mono hb.size)
  by_cases hk : ks = []
  · subst hk
    refine ⟨0, by omega, hb, _, hbest, .inl ⟨rfl, ?_, rfl⟩⟩
    rw [hres]
    simp only [List.map_nil]
    rw [flat_leaf]
  · rcases d' with _ | d'
    · exact absurd (by simpa using hf.2) hk
    · rcases List.eq_nil_or_concat ks with h | ⟨kl, kc, h⟩
      · exact absurd h hk
      · rw [List.concat_eq_append] at h
        subst h
        have hlen : es.length = kl.length := by have := hf.2.1; simp at this; omega
        have hc : (kl ++ [kc])[es.length]? = some kc := by rw [hlen]; simp
        have hcm : kc ∈ kl ++ [kc] := by simp
        have hkl : ((kl ++ [kc]).map P.t).length ≤ es.length + 1 := Nat.le_of_eq hf.2.1
        rw [pres_i] at hsq
        refine ⟨d' + 1, by omega, hb, _, hbest, .inr ⟨kc, 2, d', by rw [hc]; rfl, rfl, (sep_kid (hsq.right (a := [_, _, _])) hcm).below hb2, hf.2.2 _ (List.mem_map_of_mem hcm), Nat.le_trans (kid_flat_len hkl (List.mem_map_of_mem hcm)) hln, ?_⟩⟩
        rw [hres, List.map_append]
        show ((T.node es (kl.map P.t ++ [kc.t])).flat.getLast?).or acc = _
        rw [last_page es (kl.map P.t) kc.t (by rw [List.length_map]; exact hlen), Option.or_assoc]
set_option maxRecDepth 100000 in
set_option maxHeartbeats 8000000 in
theorem tlast_i (w : World) (tb : Nat) (p : P) (d n : Nat) (hs : Sep w (trsi tb p n)) (hg : Afx.Good d p.t) (hn : n = p.t.flat.length) (hl : n ≤ 99999) :
    Calls Try.prog 41 #[ptrV tb] w fun e w' => e = .returned (toldV (.int .i64 0) (p.t.flat.getLast?)) ∧ Below w.heap.size w w' := by
  have kt0 : Blk w tb 68 [ptrV p.blk, .int .i64 (n : Int)] := hs.all (rTi tb p n) (by simp)
  obtain ⟨c0, c1⟩ := pg_cells kt0
  obtain ⟨res, hres0⟩ : ∃ res, p.t.flat.getLast? = res := ⟨_, rfl⟩
  rw [hres0]
  have HST : Hid (LastSti w res (.pointer none) (.pointer (some ⟨p.blk, 0, none⟩)) w (d + 1)) := ⟨Below.refl _ _, none, rfl, .inr ⟨p, _, d, rfl, rfl, hs.right (a := [rTi tb p n]), hg.fat, by omega, by rw [hres0]; simp⟩⟩
  unfold ptrV at c0 ⊢
  clear kt0 hs hg hn hl hres0
  go_enter Try.func41, Try.ntmps41
  go_wp2
  go_loopw [5, 6] (fun best v wr => ∃ d, LastSti w res best v wr d) (fun best v wr => gm (LastSti w res best v wr))
  case atStart => exact ⟨d + 1, HST.out⟩
  case round =>
    have hst := gm_spec hrel
    obtain ⟨dd, hdd⟩ : ∃ dd, gm (LastSti w res u5 u6 wr) = dd := ⟨_, rfl⟩
    rw [hdd] at hst
    have HGM := Lib.hid hdd
    clear hdd
    obtain ⟨hb, acc, hbest, hst⟩ := hst
    rcases hst with ⟨rfl, rfl, rfl⟩ | ⟨q, m, d', rfl, rfl, hsq, hf, hln, hres⟩
    · have HTD := Lib.hid (told_i wr u5 res hbest)
      have HB := Lib.hid hb
      clear hbest hb hrel
      go_wp2_with fail
      refine HTD.out.mono ?_
      rintro e w2 ⟨rfl, hb2⟩
      cases res with
      | none =>
        unfold toldV
        simp only
        go_wp2
        exact bodyPost_ret (v := .tuple #[.string ⟨#[]⟩, (.int .i64 0), .bool false]) (by simp [results, Try.results41, go_sem]) rfl ⟨rfl, HB.out.trans (hb2.mono HB.out.size)⟩
      | some x =>
        unfold toldV
        simp only
        go_wp2
        exact bodyPost_ret (v := .tuple #[.string (kb x.key), x.val, .bool true]) (by simp [results, Try.results41, go_sem]) rfl ⟨rfl, HB.out.trans (hb2.mono HB.out.size)⟩
    · obtain ⟨b, av, es, bv, ks, rfl⟩ := P.eta q
      rw [P.t_node] at hf hln hres
      have hstep := Last_step_i w wr res b av bv es ks m d' acc hb hsq hf hln hres
      rw [pres_i] at hsq
      have kb0 : Blk wr b 66 [av, bv] := hsq.all (rBi b av bv) (by simp only [List.mem_cons, true_or, or_true])
      have oa : Own wr 87 2 av es.length (enC es) := hsq.all (rAi av es) (by simp only [List.mem_cons, true_or, or_true])
      have ok : Own wr 60 1 bv ks.length (ptrs ks) := hsq.all (rKi bv ks) (by simp only [List.mem_cons, true_or, or_true])
      have hel : es.length ≤ 99999 := Nat.le_trans (es_flat_len (.node es _)) hln
      simp only [P.blk_node] at *
      have hbl := kb0.lt
      obtain ⟨pa, ca, hav, hca1, hca2⟩ := own_form_Ei oa
      have hjk : ks ≠ [] → es.length < ks.length := fun hk => by
        rcases d' with _ | d'
        · exact absurd (by simpa using hf.2) hk
        · have h1 : ks.length = es.length + 1 := by simpa using hf.2.1
          omega
      have HCH : Hid (Calls Try.prog 46 #[ptrV b, .int .i64 (es.length : Int)] wr fun e w' => e = .returned (kidV ks[es.length]?) ∧ w' = wr) := child_i wr b _ av bv ks es.length (fun _ => True) kb0 (ok.sl (fun _ _ => trivial)) hjk
      have HCHD : Hid (Calls Try.prog 46 #[ptrV b, .int .i64 (es.length : Int)] wr.drew fun e w' => e = .returned (kidV ks[es.length]?) ∧ w' = wr.drew) := child_i wr.drew b _ av bv ks es.length (fun _ => True) kb0.drew (ok.drew.sl (fun _ _ => trivial)) hjk
      obtain ⟨nv, hnv⟩ : ∃ nv, kidV ks[es.length]? = nv := ⟨_, rfl⟩
      rw [hnv] at hstep HCH HCHD
      obtain ⟨ne, hne⟩ : ∃ ne, es.length = ne := ⟨_, rfl⟩
      rw [hne] at hav HCH HCHD
      obtain ⟨y0, y1⟩ := pg_cells kb0
      rw [hav] at y0
      have HB := Lib.hid hb
      have HBEST := Lib.hid hbest
      have HSTEP := Lib.hid hstep
      have hne9 : ne ≤ 99999 := by omega
      rcases List.eq_nil_or_concat es with hes | ⟨ei, x, hes⟩
      · have hn0 : ne = 0 := by rw [← hne, hes]; rfl
        have hacc : es.getLast?.or acc = acc := by rw [hes]; rfl
        rw [hacc] at HSTEP
        subst hn0
        unfold ptrV at HCH ⊢
        clear kb0 oa ok hb hsq hf hrel hln hbest hres hstep hjk hnv hne hes hacc hav HCHD
        go_wp2_with fail
        refine HCH.out.mono ?_
        rintro e wq ⟨rfl, hq⟩
        subst hq
        have hnew := HSTEP.out _ _ (Below.refl _ _) HBEST.out
        have HNEW := Lib.hid hnew
        clear hnew
        go_wp2_with fail
        go_roundw
        case rel => obtain ⟨d2, h1, h2⟩ := HNEW.out; exact ⟨d2, h2⟩
        case measure =>
          obtain ⟨d2, h1, h2⟩ := HNEW.out
          have h3 := gm_le h2
          have h4 := HGM.out
          unfold ptrV at h4
          refine Nat.lt_of_le_of_lt h3 ?_
          exact Nat.lt_of_lt_of_eq h1 h4.symm
      · rw [List.concat_eq_append] at hes
        have hei : ei.length < es.length := by rw [hes]; simp
        obtain ⟨g, off, cap, hav2, hg, e0, e1⟩ := sl_en (oa.sl (B := fun _ => True) (fun _ _ => trivial)) hei
        have hex : es[ei.length] = x := by simp [hes]
        have hacc : es.getLast?.or acc = some x := by rw [hes]; simp
        rw [hacc] at HSTEP
        rw [hex] at e0 e1
        rw [hne] at hav2
        rw [hav2] at hav
        cases hav
        obtain ⟨i, hi⟩ : ∃ i, i = ei.length := ⟨_, rfl⟩
        rw [← hi] at e0 e1 hei
        have hni : (ne : Int) - 1 = (i : Int) := by
          have : ne = ei.length + 1 := by rw [← hne, hes]; simp
          omega
        have hni2 : 0 < ne := by omega
        have hni3 : (0 : Int) < (ne : Int) := by omega
        have hni4 : i < ne := by omega
        unfold ptrV at HCH HCHD ⊢
        clear kb0 oa ok hb hsq hf hrel hln hbest hres hstep hjk hnv hne hes hacc hav2 hi hei hex
        go_wp2_with fail
        refine wp_region_lit_plan [] [(0, 0), (1, 0), (2, 0), (3, 0), (5, 0), (6, 0), (7, 0), (8, 0), (4, 1), (9, 1), (10, 0), (11, 0), (12, 0), (13, 0)] (fun _ => False) (by kernel_rfl) (by kernel_rfl) (fun c a d v w h => by cases d <;> exact h) ?_
        go_wp2_with (first | (refine plan_pure (v := _) (by rfl) (by rfl) (by rfl) (by intro _; go_simp; with_reducible rfl) ?_; simp only [List.setIfInBounds_toArray, List.set_cons_zero, List.set_cons_succ]; try go_bits) | (refine plan_read (v := _) (by rfl) (by rfl) (by rfl) (by go_simp; with_reducible rfl) ?_; simp only [List.setIfInBounds_toArray, List.set_cons_zero, List.set_cons_succ]; try go_bits) | (refine plan_readB (v := _) (by rfl) (by rfl) (by rfl) (by intro _ hag; unfold Agree at hag; go_simp; with_reducible rfl) ?_; simp only [List.setIfInBounds_toArray, List.set_cons_zero, List.set_cons_succ]; try go_bits) | (refine plan_skip0 (by rfl) (by rfl) (by rfl) ?_; simp only [List.setIfInBounds_toArray, List.set_cons_zero, List.set_cons_succ]; try go_bits) | (refine plan_skip1 (by rfl) (by rfl) (by rfl) ?_; simp only [List.setIfInBounds_toArray, List.set_cons_zero, List.set_cons_succ]; try go_bits) | (refine plan_skip2 (by rfl) (by rfl) (by rfl) ?_; simp only [List.setIfInBounds_toArray, List.set_cons_zero, List.set_cons_succ]; try go_bits) | (refine plan_skip4 (by rfl) (by rfl) (by rfl) ?_; simp only [List.setIfInBounds_toArray, List.set_cons_zero, List.set_cons_succ]; try go_bits) | (refine plan_any (by rfl) ?_) | (refine plan_keep (by rfl) ?_) | (refine plan_nil ?_) | (with_reducible refine And.intro (by first | assumption | exact Agree.refl _ _ | exact agree_drew _ _ | exact agree_alloc _ (by intro k hk; subst hk; first | omega | (simp; omega))) ?_) | (unfold Act.put; simp only [List.setIfInBounds_toArray, List.set_cons_zero, List.set_cons_succ]))
        refine HCHD.out.mono ?_
        rintro e wq ⟨rfl, hq⟩
        subst hq
        have hnew := HSTEP.out _ (.pointer (some ⟨g, off + i * 2, none⟩)) (Below.refl _ _).drew ⟨g, _, rfl, hg, e0, e1⟩
        have HNEW := Lib.hid hnew
        clear hnew
        go_wp2_with fail
        go_roundw
        case rel => obtain ⟨d2, h1, h2⟩ := HNEW.out; exact ⟨d2, h2⟩
        case measure =>
          obtain ⟨d2, h1, h2⟩ := HNEW.out
          have h3 := gm_le h2
          have h4 := HGM.out
          unfold ptrV at h4
          refine Nat.lt_of_le_of_lt h3 ?_
          exact Nat.lt_of_lt_of_eq h1 h4.symm

end Go.Proofs.Ytfnndifckgjmjaa
/- Trees told: Keys, Count. -/
namespace Go.Proofs.Ytfnndifckgjmjaa
open Go.RowKit Go.Afx

/-- What Keys' loop keeps: b.length entries are ahead. -/
def KeysSti (w : World) (flat : List En) (fr tu : Key) (most : Int) (l k ok : Value) (wr : World) (m : Nat) : Prop :=
  ∃ acc a b, flat = a ++ b ∧ b.length = m ∧ keysFrom fr tu flat = acc ++ keysUp tu b ∧ (acc.length : Int) ≤ max most 0 ∧ Own wr 9 1 l acc.length (strs acc) ∧ (∀ q, l.ownBlock = some q → w.heap.size ≤ q) ∧ Below w.heap.size w wr ∧
    k = .string (headK b) ∧ ok = .bool (!b.isEmpty)
set_option maxRecDepth 100000 in
set_option maxHeartbeats 4000000 in
theorem keys_i (w : World) (tb : Nat) (p : P) (d n : Nat) (fr tu : Key) (most : Int) (hs : Sep w (trsi tb p n)) (hg : Afx.Good d p.t) (hn : n = p.t.flat.length) (hl : n ≤ 99999) (hm1 : -9223372036854775808 ≤ most) (hm2 : most ≤ 9223372036854775807) :
    Calls Try.prog 11 #[ptrV tb, .string (kb fr), .string (kb tu), .int .i64 most] w fun e w' => ∃ v, e = .returned v ∧ Own w' 9 1 v ((keysFrom fr tu p.t.flat).take most.toNat).length (strs ((keysFrom fr tu p.t.flat).take most.toNat)) ∧
      (∀ q, v.ownBlock = some q → w.heap.size ≤ q) ∧ Below w.heap.size w w' := by
  have HNX := Lib.hid (fun (w2 : World) (hb : Below w.heap.size w w2) (k : Key) (wi : Bool) => next_i w2 tb p d n k wi (hs.below hb) hg hn hl)
  have hrise := hg.rise
  have hfl : p.t.flat.length ≤ 99999 := by omega
  generalize p.t.flat = flat at *
  obtain ⟨out, hout⟩ : ∃ out, (keysFrom fr tu flat).take most.toNat = out := ⟨_, rfl⟩
  rw [hout]
  have HOUT := Lib.hid hout
  clear hout
  obtain ⟨a0, b0, hab, hlt, hge, habv⟩ := part_below fr hrise
  have hkf : keysFrom fr tu flat = keysUp tu b0 := by
    rw [hab, keysFrom_less hlt, keysFrom_up (by rw [hab] at hrise; exact hrise.right) hge]
  have HSTART : Hid (∀ wr, Below w.heap.size w wr → KeysSti w flat fr tu most (.slice none 0 0) (.string (headK b0)) (.bool (!b0.isEmpty)) wr b0.length) := fun wr hb =>
    ⟨[], a0, b0, hab, rfl, by rw [hkf]; rfl, by simp; omega, Own.nil _ _ _, by simp [Value.ownBlock], hb, rfl, rfl⟩
  have HN0 := HNX.out w (Below.refl _ _) fr true
  rw [habv] at HN0
  have HN1 := Lib.hid HN0
  have HRISE := Lib.hid hrise
  clear HN0 hab hlt hge habv hkf hs hg hn hl hrise
  unfold ptrV
  go_enter Try.func11, Try.ntmps11
  go_wp2_with fail
  refine HN1.out.mono ?_
  clear HN1
  rintro e w2 ⟨rfl, hb2⟩
  have HS2 := Lib.hid (HSTART.out w2 hb2)
  clear hb2 HSTART
  rw [toldV_head]
  generalize headK b0 = k0 at *
  generalize headV (.int .i64 0) b0 = v0 at *
  generalize (!b0.isEmpty) = ok0 at *
  go_wp2
  go_loopw [9, 10, 12] (fun l k ok wr => ∃ m, KeysSti w flat fr tu most l k ok wr m) (fun l k ok wr => gm (KeysSti w flat fr tu most l k ok wr))
  case atStart => exact ⟨_, HS2.out⟩
  case round =>
    have hst := gm_spec hrel
    obtain ⟨dd, hdd⟩ : ∃ dd, gm (KeysSti w flat fr tu most u9 u10 u12 wr) = dd := ⟨_, rfl⟩
    rw [hdd] at hst
    have HGM := Lib.hid hdd
    clear hdd HS2 hrel
    obtain ⟨acc, a, b, hab, hbl, hkf, hacc, hown, hfr, hbw, hk, hok⟩ := hst
    obtain ⟨pl, cl, rfl, hcl1, hcl2⟩ := (hown.sl (B := fun _ => True) (fun _ _ => trivial)).form
    have hal : acc.length ≤ 99999 := by
      have h1 : (keysFrom fr tu flat).length ≤ flat.length := by
        unfold keysFrom
        rw [List.length_map]
        exact List.length_filter_le _ _
      rw [hkf, List.length_append] at h1
      omega
    have HOWN := Lib.hid hown
    have HFR := Lib.hid hfr
    have HBW := Lib.hid hbw
    have HKF := Lib.hid hkf
    -- how it ends
    have HEND : Hid (keysUp tu b = [] ∨ ¬ (acc.length : Int) < most → out = acc) := fun h => by
      rw [← HOUT.out, hkf]
      rcases h with h | h
      · rw [h, List.append_nil, List.take_of_length_le (by omega)]
      · have h2 : most.toNat = acc.length := by omega
        rw [h2, List.take_left' rfl]
    cases b with
    | nil =>
      subst hk
      subst hok
      have he := HEND.out (.inl rfl)
      have HE := Lib.hid he
      clear hown hfr hbw hkf hab he
      go_wp2
      go_ret
      exact ⟨_, rfl, by rw [HE.out]; exact HOWN.out, HFR.out, HBW.out⟩
    | cons x r =>
      subst hk
      subst hok
      by_cases hlm : (acc.length : Int) < most
      · obtain ⟨te, hte⟩ : ∃ te, tu.isEmpty = te := ⟨_, rfl⟩
        obtain ⟨lt, hlt⟩ : ∃ lt, Op.bytesLess x.key tu = lt := ⟨_, rfl⟩
        have hte2 : (kb tu).toList.isEmpty = te := by rw [kb_toList]; exact hte
        have hlt2 : Op.bytesLess (kb x.key).toList (kb tu).toList = lt := by rw [kb_toList, kb_toList]; exact hlt
        have HUP : Hid (keysUp tu (x :: r) = if te || lt then x.key :: keysUp tu r else []) := by
          show _ = _
          rw [keysUp, hte, hlt]
        have HNXT := Lib.hid (fun w3 (hb : Below w.heap.size w w3) => by
          have h1 := HNX.out w3 hb x.key false
          have h2 : abv x.key false flat = r.head? := by
            rw [hab]
            exact abv_next (by rw [← hab]; exact HRISE.out)
          rw [h2, toldV_head] at h1
          exact h1)
        have HSTEP : Hid (keysFrom fr tu flat = acc ++ x.key :: keysUp tu r → ∀ v w3, Own w3 9 1 v (acc.length + 1) (strs acc ++ [.string (kb x.key)]) → (∀ q, v.ownBlock = some q → w.heap.size ≤ q) → Below w.heap.size w w3 → KeysSti w flat fr tu most v (.string (headK r)) (.bool (!r.isEmpty)) w3 r.length) := fun h v w3 ho hf hb => by
          refine ⟨acc ++ [x.key], a ++ [x], r, by rw [hab]; simp, rfl, by rw [h]; simp, by simp; omega, ?_, hf, hb, rfl, rfl⟩
          rw [List.length_append, strs_append]
          exact ho
        have HBL : Hid (dd = r.length + 1) := hbl.symm
        have HGM2 : Hid (gm (KeysSti w flat fr tu most (.slice pl acc.length cl) (.string (kb x.key)) (.bool true) wr) = dd) := HGM
        unfold headK
        simp only [List.isEmpty_cons, Bool.not_false]
        generalize x.key = xk at *
        cases te
        · cases lt
          · have hu : keysUp tu (x :: r) = [] := HUP.out
            have he := HEND.out (.inl hu)
            have HE := Lib.hid he
            clear hown hfr hbw hkf hab he hu hte hlt
            go_wp2
            go_ret
            exact ⟨_, rfl, by rw [HE.out]; exact HOWN.out, HFR.out, HBW.out⟩
          · have hu : keysUp tu (x :: r) = xk :: keysUp tu r := HUP.out
            rw [hu] at hkf
            have hst := HSTEP.out hkf
            have HST := Lib.hid hst
            have hal5 : Below wr.heap.size wr (wr.alloc (.cells #[.string (kb xk)] 9)) := (Below.refl _ _).alloc (Nat.le_refl _) _
            have ho1 := HOWN.out.below hal5
            have hxb := Blk.new wr 9 [.string (kb xk)]
            have hs1 : Sl (wr.alloc (.cells #[.string (kb xk)] 9)) (fun _ => True) 1 (.slice (some ⟨wr.heap.size, 0, none⟩) 1 1) 1 [.string (kb xk)] :=
              ⟨rfl, Ones.cons rfl Ones.nil, .inr ⟨wr.heap.size, 0, 1, rfl, Nat.le_refl _, by simp [maxLen], trivial, hxb.lt, fun j hj => by rw [Nat.zero_add]; exact hxb.cell j⟩⟩
            have HX5 := Lib.hid hal5
            clear hal5 hxb hst hown hfr hbw hkf hab hu hte hlt
            go_wp2_with (at_builtin; refine wpList_app rfl _ _ rfl elemKey (by rfl) ho1 (by rfl) hs1 (by unfold maxLen; omega) (by omega) ?_; intro v1 w7 g1 g2 g3 g4 g5; clear ho1 hs1; have G1 := Lib.hid g1; have G2 := Lib.hid g2; have G3 := Lib.hid g3; clear g1 g2 g3 g4 g5)
            have hb7 : Below w.heap.size w w7 := (HBW.out.trans (HX5.out.mono HBW.out.size)).trans (G2.out.below (by have := HX5.out.size; have := HBW.out.size; omega) (fun q hq => HFR.out q hq))
            have HB7 := Lib.hid hb7
            refine (HNXT.out w7 hb7).mono ?_
            clear hb7
            rintro e w8 ⟨rfl, hb8⟩
            have HB8 := Lib.hid hb8
            have hn8 := HST.out v1 w8 (G1.out.below hb8) (fun q hq => by
              rcases G3.out with h | h
              · rw [h] at hq; exact HFR.out q hq
              · rw [h] at hq
                have h1 : (wr.alloc (.cells #[.string (kb xk)] 9)).heap.size = q := Option.some.inj hq
                have h2 := HX5.out.size
                have h3 := HBW.out.size
                omega) (HB7.out.trans (hb8.mono HB7.out.size))
            have HN8 := Lib.hid hn8
            clear hb8 hn8
            go_wp2_with fail
            go_roundw
            case rel => exact ⟨r.length, HN8.out⟩
            case measure =>
              have h3 := gm_le HN8.out
              have h4 := HGM2.out
              have h5 := HBL.out
              refine Nat.lt_of_le_of_lt h3 ?_
              refine Nat.lt_of_lt_of_eq ?_ h4.symm
              omega
        · have hu : keysUp tu (x :: r) = xk :: keysUp tu r := HUP.out
          rw [hu] at hkf
          cases lt
          · have hst := HSTEP.out hkf
            have HST := Lib.hid hst
            have hal5 : Below wr.heap.size wr (wr.alloc (.cells #[.string (kb xk)] 9)) := (Below.refl _ _).alloc (Nat.le_refl _) _
            have ho1 := HOWN.out.below hal5
            have hxb := Blk.new wr 9 [.string (kb xk)]
            have hs1 : Sl (wr.alloc (.cells #[.string (kb xk)] 9)) (fun _ => True) 1 (.slice (some ⟨wr.heap.size, 0, none⟩) 1 1) 1 [.string (kb xk)] :=
              ⟨rfl, Ones.cons rfl Ones.nil, .inr ⟨wr.heap.size, 0, 1, rfl, Nat.le_refl _, by simp [maxLen], trivial, hxb.lt, fun j hj => by rw [Nat.zero_add]; exact hxb.cell j⟩⟩
            have HX5 := Lib.hid hal5
            clear hal5 hxb hst hown hfr hbw hkf hab hu hte hlt
            go_wp2_with (at_builtin; refine wpList_app rfl _ _ rfl elemKey (by rfl) ho1 (by rfl) hs1 (by unfold maxLen; omega) (by omega) ?_; intro v1 w7 g1 g2 g3 g4 g5; clear ho1 hs1; have G1 := Lib.hid g1; have G2 := Lib.hid g2; have G3 := Lib.hid g3; clear g1 g2 g3 g4 g5)
            have hb7 : Below w.heap.size w w7 := (HBW.out.trans (HX5.out.mono HBW.out.size)).trans (G2.out.below (by have := HX5.out.size; have := HBW.out.size; omega) (fun q hq => HFR.out q hq))
            have HB7 := Lib.hid hb7
            refine (HNXT.out w7 hb7).mono ?_
            clear hb7
            rintro e w8 ⟨rfl, hb8⟩
            have HB8 := Lib.hid hb8
            have hn8 := HST.out v1 w8 (G1.out.below hb8) (fun q hq => by
              rcases G3.out with h | h
              · rw [h] at hq; exact HFR.out q hq
              · rw [h] at hq
                have h1 : (wr.alloc (.cells #[.string (kb xk)] 9)).heap.size = q := Option.some.inj hq
                have h2 := HX5.out.size
                have h3 := HBW.out.size
                omega) (HB7.out.trans (hb8.mono HB7.out.size))
            have HN8 := Lib.hid hn8
            clear hb8 hn8
            go_wp2_with fail
            go_roundw
            case rel => exact ⟨r.length, HN8.out⟩
            case measure =>
              have h3 := gm_le HN8.out
              have h4 := HGM2.out
              have h5 := HBL.out
              refine Nat.lt_of_le_of_lt h3 ?_
              refine Nat.lt_of_lt_of_eq ?_ h4.symm
              omega
          · have hst := HSTEP.out hkf
            have HST := Lib.hid hst
            have hal5 : Below wr.heap.size wr (wr.alloc (.cells #[.string (kb xk)] 9)) := (Below.refl _ _).alloc (Nat.le_refl _) _
            have ho1 := HOWN.out.below hal5
            have hxb := Blk.new wr 9 [.string (kb xk)]
            have hs1 : Sl (wr.alloc (.cells #[.string (kb xk)] 9)) (fun _ => True) 1 (.slice (some ⟨wr.heap.size, 0, none⟩) 1 1) 1 [.string (kb xk)] :=
              ⟨rfl, Ones.cons rfl Ones.nil, .inr ⟨wr.heap.size, 0, 1, rfl, Nat.le_refl _, by simp [maxLen], trivial, hxb.lt, fun j hj => by rw [Nat.zero_add]; exact hxb.cell j⟩⟩
            have HX5 := Lib.hid hal5
            clear hal5 hxb hst hown hfr hbw hkf hab hu hte hlt
            go_wp2_with (at_builtin; refine wpList_app rfl _ _ rfl elemKey (by rfl) ho1 (by rfl) hs1 (by unfold maxLen; omega) (by omega) ?_; intro v1 w7 g1 g2 g3 g4 g5; clear ho1 hs1; have G1 := Lib.hid g1; have G2 := Lib.hid g2; have G3 := Lib.hid g3; clear g1 g2 g3 g4 g5)
            have hb7 : Below w.heap.size w w7 := (HBW.out.trans (HX5.out.mono HBW.out.size)).trans (G2.out.below (by have := HX5.out.size; have := HBW.out.size; omega) (fun q hq => HFR.out q hq))
            have HB7 := Lib.hid hb7
            refine (HNXT.out w7 hb7).mono ?_
            clear hb7
            rintro e w8 ⟨rfl, hb8⟩
            have HB8 := Lib.hid hb8
            have hn8 := HST.out v1 w8 (G1.out.below hb8) (fun q hq => by
              rcases G3.out with h | h
              · rw [h] at hq; exact HFR.out q hq
              · rw [h] at hq
                have h1 : (wr.alloc (.cells #[.string (kb xk)] 9)).heap.size = q := Option.some.inj hq
                have h2 := HX5.out.size
                have h3 := HBW.out.size
                omega) (HB7.out.trans (hb8.mono HB7.out.size))
            have HN8 := Lib.hid hn8
            clear hb8 hn8
            go_wp2_with fail
            go_roundw
            case rel => exact ⟨r.length, HN8.out⟩
            case measure =>
              have h3 := gm_le HN8.out
              have h4 := HGM2.out
              have h5 := HBL.out
              refine Nat.lt_of_le_of_lt h3 ?_
              refine Nat.lt_of_lt_of_eq ?_ h4.symm
              omega
      · have he := HEND.out (.inr hlm)
        have HE := Lib.hid he
        clear hown hfr hbw hkf hab he
        go_wp2
        go_ret
        exact ⟨_, rfl, by rw [HE.out]; exact HOWN.out, HFR.out, HBW.out⟩

end Go.Proofs.Ytfnndifckgjmjaa
