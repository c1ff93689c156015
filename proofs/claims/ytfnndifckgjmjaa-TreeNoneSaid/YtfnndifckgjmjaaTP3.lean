/- Contracts of the functions that the statement reaches, one behind the other. No condition beyond each theorem's own. -/
import Derived.Deep.DeepCutAuto
import Derived.Deep.CutBlock
import Derived.Test.YtfnndifckgjmjaaTP2
set_option linter.unusedSimpArgs false
set_option linter.unusedVariables false
/- Pages: right, left. -/
namespace Go.Proofs.Ytfnndifckgjmjaa
open Go.RowKit Go.Afx

set_option maxRecDepth 100000 in
set_option maxHeartbeats 4000000 in
theorem right_i (w : World) (b : Nat) (av bv : Value) (ea : List En) (x : En) (eb : List En) (l : List P) (ab : Nat) (aav : Value) (aes : List En) (abv : Value) (aks : List P) (cb : Nat) (cav : Value) (ces : List En) (cbv : Value) (cks r : List P)
    (hs : Sep w (presi (.node b av (ea ++ x :: eb) bv (l ++ .node ab aav aes abv aks :: .node cb cav ces cbv cks :: r)))) (hl : ea.length = l.length) (hn : (ea ++ x :: eb).length ≤ 1000000) (hkn : (l ++ .node ab aav aes abv aks :: .node cb cav ces cbv cks :: r).length ≤ 1000000) (han : aes.length ≤ 1000000) (hcn : ces.length ≤ 1000000) (hakn : aks.length ≤ 1000000) (hckn : cks.length ≤ 1000000)
    (ae : List En) (y : En) (hae : aes = ae ++ [y]) (ak : List P) (tk : List P) (hak : aks = ak ++ tk) (htk : tk.length ≤ 1) (hleaf : tk = [] → ak = []) :
    Calls Try.prog 75 #[ptrV b, .int .i64 (l.length : Int)] w fun e w' => e = .returned (.tuple #[]) ∧ ∃ p', p'.blk = b ∧ p'.t = .node (ea ++ y :: eb) (l.map P.t ++ .node ae (ak.map P.t) :: .node (x :: ces) ((tk ++ cks).map P.t) :: r.map P.t) ∧
      Trk w (feet (presi (.node b av (ea ++ x :: eb) bv (l ++ .node ab aav aes abv aks :: .node cb cav ces cbv cks :: r)))) w' (presi p') := by
  have T0 := Trk.start hs
  generalize hF : feet (presi (.node b av (ea ++ x :: eb) bv (l ++ .node ab aav aes abv aks :: .node cb cav ces cbv cks :: r))) = F at *
  have T0 : Trk w F w (rBi b av bv :: rAi av (ea ++ x :: eb) :: rKi bv (l ++ .node ab aav aes abv aks :: .node cb cav ces cbv cks :: r) :: rBi ab aav abv :: rAi aav aes :: rKi abv aks :: rBi cb cav cbv :: rAi cav ces :: rKi cbv cks :: (presLi aks ++ (presLi cks ++ (presLi l ++ presLi r)))) := T0.perm (perm_of_cnt fun a => by simp only [cnt_append, cnt_cons, cnt_nil, presi, presLi, rBi, rAi, rKi, P.resL_append, P.resL_cons, P.resL_nil, P.res_node] <;> omega)
  have kb0 : Blk w b 66 [av, bv] := T0.blk (by simp only [List.mem_cons, true_or, or_true])
  have ka0 : Blk w ab 66 [aav, abv] := T0.blk (by simp only [List.mem_cons, true_or, or_true])
  have kc0 : Blk w cb 66 [cav, cbv] := T0.blk (by simp only [List.mem_cons, true_or, or_true])
  have oe : Own w 87 2 av (ea ++ x :: eb).length (enC (ea ++ x :: eb)) := T0.own (by simp only [List.mem_cons, true_or, or_true])
  have ok : Own w 60 1 bv (l ++ .node ab aav aes abv aks :: .node cb cav ces cbv cks :: r).length (ptrs (l ++ .node ab aav aes abv aks :: .node cb cav ces cbv cks :: r)) := T0.own (by simp only [List.mem_cons, true_or, or_true])
  have oaa : Own w 87 2 aav aes.length (enC aes) := T0.own (by simp only [List.mem_cons, true_or, or_true])
  have oca : Own w 87 2 cav ces.length (enC ces) := T0.own (by simp only [List.mem_cons, true_or, or_true])
  have oak : Own w 60 1 abv aks.length (ptrs aks) := T0.own (by simp only [List.mem_cons, true_or, or_true])
  have ock : Own w 60 1 cbv cks.length (ptrs cks) := T0.own (by simp only [List.mem_cons, true_or, or_true])
  obtain ⟨gk, offk, capk, hbv, hgk, q0⟩ := sl_ptr (k := l.length) (ok.sl (B := fun _ => True) (fun _ _ => trivial)) (by simp)
  obtain ⟨gk', offk', capk', hbv', hgk', q1⟩ := sl_ptr (k := l.length + 1) (ok.sl (B := fun _ => True) (fun _ _ => trivial)) (by simp)
  rw [hbv] at hbv'
  cases hbv'
  have e0 : (l ++ .node ab aav aes abv aks :: .node cb cav ces cbv cks :: r)[l.length]'(by simp) = .node ab aav aes abv aks := by simp
  have e1 : (l ++ .node ab aav aes abv aks :: .node cb cav ces cbv cks :: r)[l.length + 1]'(by simp) = .node cb cav ces cbv cks := by
    rw [List.getElem_append_right (by omega)]
    have : l.length + 1 - l.length = 1 := by omega
    simp [this]
  rw [e0] at q0
  rw [e1] at q1
  replace q0 : w.cell? ⟨gk, offk + l.length, none⟩ = some (.pointer (some ⟨ab, 0, none⟩)) := q0
  replace q1 : w.cell? ⟨gk, offk + (l.length + 1), none⟩ = some (.pointer (some ⟨cb, 0, none⟩)) := q1
  obtain ⟨nk, hnk⟩ : ∃ nk, (l ++ .node ab aav aes abv aks :: .node cb cav ces cbv cks :: r).length = nk := ⟨_, rfl⟩
  obtain ⟨ne, hne⟩ : ∃ ne, (ea ++ x :: eb).length = ne := ⟨_, rfl⟩
  have hnk2 : nk = l.length + (r.length + 2) := by rw [← hnk]; simp
  have hne2 : ne = l.length + (eb.length + 1) := by rw [← hne, ← hl]; simp
  rw [hnk] at hbv hkn
  rw [hne] at hn
  have hlk1 : l.length < nk := by omega
  have hlk2 : l.length + 1 < nk := by omega
  have hlk2i : (l.length : Int) + 1 < (nk : Int) := by omega
  have hlk0 : (0 : Int) ≤ (l.length : Int) + 1 := by omega
  have htn : ((l.length : Int) + 1).toNat = l.length + 1 := by omega
  have hle1 : l.length < ne := by omega
  have hex : (ea ++ x :: eb)[l.length]? = some x := by rw [← hl]; simp
  have hxo : x.val.oneCell' = true := by
    have h1 : l.length < (ea ++ x :: eb).length := by rw [hne]; exact hle1
    have h2 := (enC_at (ea ++ x :: eb) l.length h1).2
    rw [List.getElem?_eq_getElem h1] at hex
    rw [Option.some.inj hex] at h2
    exact oe.2.1 _ (List.mem_of_getElem? h2)
  have HEX : Hid (∀ w2, Own w2 87 2 av (ea ++ x :: eb).length (enC (ea ++ x :: eb)) → ∃ g off cap, av = .slice (some ⟨g, off, none⟩) ne cap ∧ g < w2.heap.size ∧ w2.cell? ⟨g, off + l.length * 2, none⟩ = some (.string (kb x.key)) ∧ w2.cell? ⟨g, off + l.length * 2 + 1, none⟩ = some x.val) := fun w2 h => by
    have h1 : l.length < (ea ++ x :: eb).length := by rw [hne]; exact hle1
    have h2 := sl_en (h.sl (B := fun _ => True) (fun _ _ => trivial)) h1
    rw [List.getElem?_eq_getElem h1] at hex
    rw [Option.some.inj hex, hne] at h2
    exact h2
  obtain ⟨ge, offe, cape, hav, hge, v0, v1⟩ := HEX.out w oe
  have HOE := Lib.hid oe
  obtain ⟨x0, x1⟩ := pg_cells kb0
  obtain ⟨y0, y1⟩ := pg_cells ka0
  obtain ⟨z0, z1⟩ := pg_cells kc0
  rw [hbv] at x1
  rw [hav] at x0
  have HAV := Lib.hid hav
  have HBV := Lib.hid hbv
  have HNK := Lib.hid hnk
  have HNE := Lib.hid hne
  have HL := Lib.hid hl
  have HXO := Lib.hid hxo
  have HT0 := Lib.hid T0
  have HKB := Lib.hid kb0
  have HKA := Lib.hid ka0
  have HKC := Lib.hid kc0

  obtain ⟨na, hna⟩ : ∃ na, aes.length = na := ⟨_, rfl⟩
  have hna2 : na = ae.length + 1 := by rw [← hna, hae]; simp
  obtain ⟨pa, ca, haav, _, _⟩ := own_form_Ei oaa
  rw [haav, hna] at y0
  have HNA := Lib.hid hna
  have HNA2 := Lib.hid hna2
  have hna3 : 1 ≤ na := by omega
  have hna4 : na ≤ 1000000 := by omega
  have HAAV := Lib.hid haav
  have HAE := Lib.hid hae
  have hp1 : (rBi b av bv :: rAi av (ea ++ x :: eb) :: rKi bv (l ++ .node ab aav aes abv aks :: .node cb cav ces cbv cks :: r) :: rBi ab aav abv :: rAi aav aes :: rKi abv aks :: rBi cb cav cbv :: rAi cav ces :: rKi cbv cks :: (presLi aks ++ (presLi cks ++ (presLi l ++ presLi r)))).Perm ([rBi cb cav cbv, rAi cav ces] ++ (rBi b av bv :: rAi av (ea ++ x :: eb) :: rKi bv (l ++ .node ab aav aes abv aks :: .node cb cav ces cbv cks :: r) :: rBi ab aav abv :: rAi aav aes :: rKi abv aks :: rKi cbv cks :: (presLi aks ++ (presLi cks ++ (presLi l ++ presLi r))))) := perm_of_cnt fun a => by simp only [cnt_append, cnt_cons, cnt_nil, presi, presLi, rBi, rAi, rKi, P.resL_append, P.resL_cons, P.resL_nil, P.res_node] <;> omega
  have hi1 : ∀ w2, Sep w2 [rBi cb cav cbv, rAi cav ces] → Calls Try.prog 47 #[ptrV cb, .int .i64 0, .agg #[.string (kb x.key), x.val]] w2 _ := fun w2 hs => insert_ri w2 cb 0 cav cbv ces x hs hxo (Nat.zero_le _) (by omega)
  have HI1 := Lib.hid hi1
  have HP1 := Lib.hid hp1
  clear T0 kb0 ka0 kc0 oe ok oaa oca oak ock hp1 hi1 hs hF e0 e1 hav hbv hnk hne hl hxo hna haav hex hae hnk2 hne2 hna2
  unfold ptrV at HI1 ⊢
  go_enter Try.func75, Try.ntmps75
  go_wp2_with fail
  refine wp_region_lit_plan [] [(0, 0), (1, 0), (2, 0), (4, 0), (7, 0), (8, 0), (9, 0), (11, 0), (12, 0), (3, 1), (5, 0), (6, 1), (15, 0), (10, 1), (13, 0), (14, 1), (16, 0)] (fun _ => False) (by kernel_rfl) (by kernel_rfl) (fun c a d v w h => by cases d <;> exact h) ?_
  go_wp2_with (first | (refine plan_pure (v := _) (by rfl) (by rfl) (by rfl) (by intro _; go_simp; with_reducible rfl) ?_; simp only [List.setIfInBounds_toArray, List.set_cons_zero, List.set_cons_succ]; try go_bits) | (refine plan_read (v := _) (by rfl) (by rfl) (by rfl) (by go_simp; with_reducible rfl) ?_; simp only [List.setIfInBounds_toArray, List.set_cons_zero, List.set_cons_succ]; try go_bits) | (refine plan_readB (v := _) (by rfl) (by rfl) (by rfl) (by intro _ hag; unfold Agree at hag; go_simp; with_reducible rfl) ?_; simp only [List.setIfInBounds_toArray, List.set_cons_zero, List.set_cons_succ]; try go_bits) | (refine plan_skip0 (by rfl) (by rfl) (by rfl) ?_; simp only [List.setIfInBounds_toArray, List.set_cons_zero, List.set_cons_succ]; try go_bits) | (refine plan_skip1 (by rfl) (by rfl) (by rfl) ?_; simp only [List.setIfInBounds_toArray, List.set_cons_zero, List.set_cons_succ]; try go_bits) | (refine plan_skip2 (by rfl) (by rfl) (by rfl) ?_; simp only [List.setIfInBounds_toArray, List.set_cons_zero, List.set_cons_succ]; try go_bits) | (refine plan_skip4 (by rfl) (by rfl) (by rfl) ?_; simp only [List.setIfInBounds_toArray, List.set_cons_zero, List.set_cons_succ]; try go_bits) | (refine plan_any (by rfl) ?_) | (refine plan_keep (by rfl) ?_) | (refine plan_nil ?_) | (with_reducible refine And.intro (by first | assumption | exact Agree.refl _ _ | exact agree_drew _ _ | exact agree_alloc _ (by intro k hk; subst hk; first | omega | (simp; omega))) ?_) | (unfold Act.put; simp only [List.setIfInBounds_toArray, List.set_cons_zero, List.set_cons_succ]))
  refine wp_region_lit_plan [] [(0, 0), (1, 0), (2, 0), (3, 0), (4, 0), (5, 0), (6, 0), (8, 0), (7, 1), (9, 0), (10, 1), (11, 4)] (fun _ => False) (by kernel_rfl) (by kernel_rfl) (fun c a d v w h => by cases d <;> exact h) ?_
  go_wp2_with (first | (refine plan_pure (v := _) (by rfl) (by rfl) (by rfl) (by intro _; go_simp; with_reducible rfl) ?_; simp only [List.setIfInBounds_toArray, List.set_cons_zero, List.set_cons_succ]; try go_bits) | (refine plan_read (v := _) (by rfl) (by rfl) (by rfl) (by go_simp; with_reducible rfl) ?_; simp only [List.setIfInBounds_toArray, List.set_cons_zero, List.set_cons_succ]; try go_bits) | (refine plan_readB (v := _) (by rfl) (by rfl) (by rfl) (by intro _ hag; unfold Agree at hag; go_simp; with_reducible rfl) ?_; simp only [List.setIfInBounds_toArray, List.set_cons_zero, List.set_cons_succ]; try go_bits) | (refine plan_skip0 (by rfl) (by rfl) (by rfl) ?_; simp only [List.setIfInBounds_toArray, List.set_cons_zero, List.set_cons_succ]; try go_bits) | (refine plan_skip1 (by rfl) (by rfl) (by rfl) ?_; simp only [List.setIfInBounds_toArray, List.set_cons_zero, List.set_cons_succ]; try go_bits) | (refine plan_skip2 (by rfl) (by rfl) (by rfl) ?_; simp only [List.setIfInBounds_toArray, List.set_cons_zero, List.set_cons_succ]; try go_bits) | (refine plan_skip4 (by rfl) (by rfl) (by rfl) ?_; simp only [List.setIfInBounds_toArray, List.set_cons_zero, List.set_cons_succ]; try go_bits) | (refine plan_any (by rfl) ?_) | (refine plan_keep (by rfl) ?_) | (refine plan_nil ?_) | (with_reducible refine And.intro (by first | assumption | exact Agree.refl _ _ | exact agree_drew _ _ | exact agree_alloc _ (by intro k hk; subst hk; first | omega | (simp; omega))) ?_) | (unfold Act.put; simp only [List.setIfInBounds_toArray, List.set_cons_zero, List.set_cons_succ]))
  refine (HI1.out _ (HT0.out.drew.drew.sepOf HP1.out)).mono ?_
  clear x0 x1 y0 y1 z0 z1 v0 v1 q0 q1
  rintro e w1 ⟨rfl, cav2, hT⟩
  have T1 := HT0.out.drew.drew.use HP1.out hT
  have T1 : Trk w F w1 (rBi b av bv :: rAi av (ea ++ x :: eb) :: rKi bv (l ++ .node ab aav aes abv aks :: .node cb cav ces cbv cks :: r) :: rBi ab aav abv :: rAi aav aes :: rKi abv aks :: rBi cb cav2 cbv :: rAi cav2 (insAt 0 x ces) :: rKi cbv cks :: (presLi aks ++ (presLi cks ++ (presLi l ++ presLi r)))) := T1.perm (perm_of_cnt fun a => by simp only [cnt_append, cnt_cons, cnt_nil, presi, presLi, rBi, rAi, rKi, P.resL_append, P.resL_cons, P.resL_nil, P.res_node] <;> omega)
  have kb1 : Blk w1 b 66 [av, bv] := T1.blk (by simp only [List.mem_cons, true_or, or_true])
  have ka1 : Blk w1 ab 66 [aav, abv] := T1.blk (by simp only [List.mem_cons, true_or, or_true])
  have hp2 : (rBi b av bv :: rAi av (ea ++ x :: eb) :: rKi bv (l ++ .node ab aav aes abv aks :: .node cb cav ces cbv cks :: r) :: rBi ab aav abv :: rAi aav aes :: rKi abv aks :: rBi cb cav2 cbv :: rAi cav2 (insAt 0 x ces) :: rKi cbv cks :: (presLi aks ++ (presLi cks ++ (presLi l ++ presLi r)))).Perm ([rBi ab aav abv, rAi aav aes] ++ (rBi b av bv :: rAi av (ea ++ x :: eb) :: rKi bv (l ++ .node ab aav aes abv aks :: .node cb cav ces cbv cks :: r) :: rKi abv aks :: rBi cb cav2 cbv :: rAi cav2 (insAt 0 x ces) :: rKi cbv cks :: (presLi aks ++ (presLi cks ++ (presLi l ++ presLi r))))) := perm_of_cnt fun a => by simp only [cnt_append, cnt_cons, cnt_nil, presi, presLi, rBi, rAi, rKi, P.resL_append, P.resL_cons, P.resL_nil, P.res_node] <;> omega
  have hy : aes[ae.length]'(by rw [HNA.out, HNA2.out]; omega) = y := by simp [HAE.out]
  have htd : aes.take ae.length ++ aes.drop (ae.length + 1) = ae := by rw [HAE.out]; simp
  have hi2 : ∀ w2, Sep w2 [rBi ab aav abv, rAi aav aes] → Calls Try.prog 58 #[.pointer (some ⟨ab, 0, none⟩), .int .i64 ((na : Int) - 1)] w2 fun e w' => e = .returned (.agg #[.string (kb y.key), y.val]) ∧ ∃ av', Trk w2 (feet [rBi ab aav abv, rAi aav aes]) w' [rBi ab av' abv, rAi av' ae] := fun w2 hs => by
    have h1 := remove_ri w2 ab ae.length aav abv aes hs (by rw [HNA.out, HNA2.out]; omega) (by omega)
    have h2 : ((ae.length : Nat) : Int) = (na : Int) - 1 := by have := HNA2.out; omega
    rw [h2, hy, htd] at h1
    exact h1
  have hyo : y.val.oneCell' = true := by
    have h1 : ae.length < aes.length := by rw [HNA.out, HNA2.out]; omega
    have h2 := (enC_at aes ae.length h1).2
    rw [hy] at h2
    have oaa : Own w1 87 2 aav aes.length (enC aes) := T1.own (by simp only [List.mem_cons, true_or, or_true])
    exact oaa.2.1 _ (List.mem_of_getElem? h2)
  have HI2 := Lib.hid hi2
  have HT1 := Lib.hid T1
  have HP2 := Lib.hid hp2
  have HYO := Lib.hid hyo
  obtain ⟨x0, x1⟩ := pg_cells kb1
  obtain ⟨y0, y1⟩ := pg_cells ka1
  rw [HAV.out] at x0
  rw [HBV.out] at x1
  rw [HAAV.out, HNA.out] at y0
  have HKB1 := Lib.hid kb1
  clear hT T1 kb1 ka1 hp2 hy htd hi2 HI1 HP1 hyo
  go_wp2_with (first | (refine plan_nil ?_))
  refine wp_region_lit_plan [] [(0, 0), (1, 0), (2, 0), (3, 0), (5, 0), (6, 0), (7, 0), (8, 0), (9, 0), (10, 0), (11, 0), (12, 0), (4, 2), (13, 1), (14, 0), (15, 0), (16, 3), (17, 0), (18, 4)] (fun q => q = b) (by kernel_rfl) (by kernel_rfl) (fun c a d v w h => by cases d <;> exact h) ?_
  go_wp2_with (first | (refine plan_pure (v := _) (by rfl) (by rfl) (by rfl) (by intro _; go_simp; with_reducible rfl) ?_; simp only [List.setIfInBounds_toArray, List.set_cons_zero, List.set_cons_succ]; try go_bits) | (refine plan_read (v := _) (by rfl) (by rfl) (by rfl) (by go_simp; with_reducible rfl) ?_; simp only [List.setIfInBounds_toArray, List.set_cons_zero, List.set_cons_succ]; try go_bits) | (refine plan_readB (v := _) (by rfl) (by rfl) (by rfl) (by intro _ hag; unfold Agree at hag; go_simp; with_reducible rfl) ?_; simp only [List.setIfInBounds_toArray, List.set_cons_zero, List.set_cons_succ]; try go_bits) | (refine plan_skip0 (by rfl) (by rfl) (by rfl) ?_; simp only [List.setIfInBounds_toArray, List.set_cons_zero, List.set_cons_succ]; try go_bits) | (refine plan_skip1 (by rfl) (by rfl) (by rfl) ?_; simp only [List.setIfInBounds_toArray, List.set_cons_zero, List.set_cons_succ]; try go_bits) | (refine plan_skip2 (by rfl) (by rfl) (by rfl) ?_; simp only [List.setIfInBounds_toArray, List.set_cons_zero, List.set_cons_succ]; try go_bits) | (refine plan_skip4 (by rfl) (by rfl) (by rfl) ?_; simp only [List.setIfInBounds_toArray, List.set_cons_zero, List.set_cons_succ]; try go_bits) | (refine plan_any (by rfl) ?_) | (refine plan_keep (by rfl) ?_) | (refine plan_nil ?_) | (with_reducible refine And.intro (by first | assumption | exact Agree.refl _ _ | exact agree_drew _ _ | exact agree_alloc _ (by intro k hk; subst hk; first | omega | (simp; omega))) ?_) | (unfold Act.put; simp only [List.setIfInBounds_toArray, List.set_cons_zero, List.set_cons_succ]))
  refine (HI2.out _ (HT1.out.drew.sepOf HP2.out)).mono ?_
  clear x0 x1 y0 y1
  rintro e w2 ⟨rfl, aav2, hT⟩
  have T2 := HT1.out.drew.use HP2.out hT
  have T2 : Trk w F w2 (rAi av (ea ++ x :: eb) :: rBi b av bv :: rKi bv (l ++ .node ab aav aes abv aks :: .node cb cav ces cbv cks :: r) :: rBi ab aav2 abv :: rAi aav2 ae :: rKi abv aks :: rBi cb cav2 cbv :: rAi cav2 (insAt 0 x ces) :: rKi cbv cks :: (presLi aks ++ (presLi cks ++ (presLi l ++ presLi r)))) := T2.perm (perm_of_cnt fun a => by simp only [cnt_append, cnt_cons, cnt_nil, presi, presLi, rBi, rAi, rKi, P.resL_append, P.resL_cons, P.resL_nil, P.res_node] <;> omega)
  have kb2 : Blk w2 b 66 [av, bv] := T2.blk (by simp only [List.mem_cons, true_or, or_true])
  have oe2 : Own w2 87 2 av (ea ++ x :: eb).length (enC (ea ++ x :: eb)) := T2.own (by simp only [List.mem_cons, true_or, or_true])
  have hag := agree_blk HKB1.out.drew kb2
  obtain ⟨g', o', c', hv', hge2, v0, v1⟩ := HEX.out w2 oe2
  rw [HAV.out] at hv'
  cases hv'
  rw [HAV.out] at oe2
  have hf0 : w2.frozen? ⟨ge, offe + l.length * 2, none⟩ = false := by
    rw [HNE.out] at oe2
    exact (oe2.cellAt (j := l.length * 2) (by omega)).2
  have hf1 : w2.frozen? ⟨ge, offe + l.length * 2 + 1, none⟩ = false := by
    rw [HNE.out] at oe2
    have h1 := (oe2.cellAt (j := l.length * 2 + 1) (by omega)).2
    rwa [← Nat.add_assoc] at h1
  have hyo := HYO.out
  have HT2 := Lib.hid T2
  clear hT T2 oe2 HI2 HP2 HT1 HKB1
  go_upto_region 3 with (first | (refine plan_pure (v := _) (by rfl) (by rfl) (by rfl) (by intro _; go_simp; with_reducible rfl) ?_; simp only [List.setIfInBounds_toArray, List.set_cons_zero, List.set_cons_succ]; try go_bits) | (refine plan_read (v := _) (by rfl) (by rfl) (by rfl) (by go_simp; with_reducible rfl) ?_; simp only [List.setIfInBounds_toArray, List.set_cons_zero, List.set_cons_succ]; try go_bits) | (refine plan_readB (v := _) (by rfl) (by rfl) (by rfl) (by intro _ hag; unfold Agree at hag; go_simp; with_reducible rfl) ?_; simp only [List.setIfInBounds_toArray, List.set_cons_zero, List.set_cons_succ]; try go_bits) | (refine plan_skip0 (by rfl) (by rfl) (by rfl) ?_; simp only [List.setIfInBounds_toArray, List.set_cons_zero, List.set_cons_succ]; try go_bits) | (refine plan_skip1 (by rfl) (by rfl) (by rfl) ?_; simp only [List.setIfInBounds_toArray, List.set_cons_zero, List.set_cons_succ]; try go_bits) | (refine plan_skip2 (by rfl) (by rfl) (by rfl) ?_; simp only [List.setIfInBounds_toArray, List.set_cons_zero, List.set_cons_succ]; try go_bits) | (refine plan_skip4 (by rfl) (by rfl) (by rfl) ?_; simp only [List.setIfInBounds_toArray, List.set_cons_zero, List.set_cons_succ]; try go_bits) | (refine plan_any (by rfl) ?_) | (refine plan_keep (by rfl) ?_) | (refine plan_nil ?_) | (with_reducible refine And.intro (by first | assumption | exact Agree.refl _ _ | exact agree_drew _ _ | exact agree_alloc _ (by intro k hk; subst hk; first | omega | (simp; omega))) ?_) | (unfold Act.put; simp only [List.setIfInBounds_toArray, List.set_cons_zero, List.set_cons_succ]))
  have T3 : Trk w F ((w2.setCell ⟨ge, offe + l.length * 2, none⟩ (.string (kb y.key))).setCell ⟨ge, offe + l.length * 2 + 1, none⟩ y.val) (rAi av (ea ++ y :: eb) :: rBi b av bv :: rKi bv (l ++ .node ab aav aes abv aks :: .node cb cav ces cbv cks :: r) :: rBi ab aav2 abv :: rAi aav2 ae :: rKi abv aks :: rBi cb cav2 cbv :: rAi cav2 (insAt 0 x ces) :: rKi cbv cks :: (presLi aks ++ (presLi cks ++ (presLi l ++ presLi r)))) := by
    have h := HT2.out
    have e : (ea ++ x :: eb).set l.length y = ea ++ y :: eb := set_len HL.out
    rw [← e]
    rw [HAV.out] at h ⊢
    exact h.setEn HNE.out.symm (by rw [HNE.out]; exact hle1) y hyo
  generalize ((w2.setCell ⟨ge, offe + l.length * 2, none⟩ (.string (kb y.key))).setCell ⟨ge, offe + l.length * 2 + 1, none⟩ y.val) = w3 at *
  have ka3 : Blk w3 ab 66 [aav2, abv] := T3.blk (by simp only [List.mem_cons, true_or, or_true])
  have kc3 : Blk w3 cb 66 [cav2, cbv] := T3.blk (by simp only [List.mem_cons, true_or, or_true])
  have oak3 : Own w3 60 1 abv aks.length (ptrs aks) := T3.own (by simp only [List.mem_cons, true_or, or_true])
  have ock3 : Own w3 60 1 cbv cks.length (ptrs cks) := T3.own (by simp only [List.mem_cons, true_or, or_true])
  obtain ⟨pak, cak, habv, hcak1, hcak2⟩ := own_form_Pi oak3
  obtain ⟨pck, cck, hcbv, hcck1, hcck2⟩ := own_form_Pi ock3
  have hlf := leaf_i w3 ab 66 aav2 pak aks.length cak (habv ▸ ka3)
  unfold ptrV at hlf
  have HABV := Lib.hid habv
  have HCBV := Lib.hid hcbv
  have HT3 := Lib.hid T3
  clear kb2 hag v0 v1 hf0 hf1 hyo HT2
  rcases tk with _ | ⟨k1, tk⟩
  · have hak0 := hleaf rfl
    subst hak0
    have haks : aks = [] := hak
    subst haks
    rw [show decide (([] : List P).length = 0) = true from rfl] at hlf
    have HLF := Lib.hid hlf
    clear hlf ka3 kc3 oak3 ock3 habv hcbv T3
    go_wp2_with fail
    refine HLF.out.mono ?_
    rintro e wq ⟨rfl, hq⟩
    subst hq
    go_wp2_with fail
    go_end0
    exact ⟨rfl, .node b av (ea ++ y :: eb) bv (l ++ .node ab aav2 ae abv [] :: .node cb cav2 (x :: ces) cbv cks :: r), rfl, by simp [P.t_node], HT3.out.perm (perm_of_cnt fun a => by
      have e1 : ptrs (l ++ .node ab aav2 ae abv [] :: .node cb cav2 (x :: ces) cbv cks :: r) = ptrs (l ++ .node ab aav aes abv [] :: .node cb cav ces cbv cks :: r) := by simp [ptrs, P.blk]
      have e2 : (l ++ P.node ab aav2 ae abv [] :: .node cb cav2 (x :: ces) cbv cks :: r).length = (l ++ P.node ab aav aes abv [] :: .node cb cav ces cbv cks :: r).length := by simp
      have e3 : insAt 0 x ces = x :: ces := rfl
      simp only [cnt_append, cnt_cons, cnt_nil, presi, presLi, rBi, rAi, rKi, P.resL_append, P.resL_cons, P.resL_nil, P.res_node, e1, e2, e3] <;> omega)⟩
  · have htk0 : tk = [] := by cases tk with
      | nil => rfl
      | cons a t => simp at htk
    subst htk0
    have hakl : aks.length = ak.length + 1 := by rw [hak]; simp
    obtain ⟨nak, hnak⟩ : ∃ nak, aks.length = nak := ⟨_, rfl⟩
    have hm : (nak : Int) - 1 = (ak.length : Int) := by omega
    have hk1 : aks[ak.length]'(by omega) = k1 := by simp [hak]
    obtain ⟨gq, offq, cq, hq1, hq2, p1⟩ := sl_ptr (k := ak.length) (oak3.sl (B := fun _ => True) (fun _ _ => trivial)) (by omega)
    rw [habv] at hq1
    cases hq1
    rw [hk1] at p1
    obtain ⟨y0, y1⟩ := pg_cells ka3
    obtain ⟨z0, z1⟩ := pg_cells kc3
    rw [habv, hnak] at y1
    rw [hcbv] at z1
    rw [decide_eq_false (by omega)] at hlf
    have HLF := Lib.hid hlf
    have b4 : Below w3.heap.size w3 (w3.alloc (.cells #[ptrV k1.blk] 60)).drew := ((Below.refl _ _).alloc (Nat.le_refl _) _).drew
    have hxk : Blk (w3.alloc (.cells #[ptrV k1.blk] 60)).drew w3.heap.size 60 [ptrV k1.blk] := (Blk.new w3 _ _).drew
    have hi3 : Calls Try.prog 50 #[cbv, .int .i64 0, .slice (some ⟨w3.heap.size, 0, none⟩) 1 1] (w3.alloc (.cells #[ptrV k1.blk] 60)).drew _ := insert_Pi _ cbv cks.length 0 (ptrs cks) [ptrV k1.blk] w3.heap.size (ock3.below b4) hxk rfl (Ones.cons rfl Ones.nil) (fun h => by have := ock3.lt _ h; omega) (Nat.zero_le _) (by omega)
    rw [hcbv] at hi3
    have hag0 : Agree (fun q => q = cb) w3.drew (w3.alloc (.cells #[ptrV k1.blk] 60)).drew := agree_alloc (w := w3) _ (by intro k hk; subst hk; exact kc3.lt)
    have HI3 := Lib.hid hi3
    have HM := Lib.hid hakl
    have HNAK := Lib.hid hnak
    have HAK := Lib.hid hak
    have hnak1 : 1 ≤ nak := by omega
    have hnak2 : nak ≤ 1000000 := by omega
    have hakn2 : ak.length < nak := by omega
    have HKC3 := Lib.hid kc3
    unfold ptrV at HI3 hag0 p1
    clear hlf ka3 kc3 oak3 ock3 habv hcbv T3 hi3 hakl hnak hak hk1 b4 hxk
    go_wp2_with fail
    refine HLF.out.mono ?_
    rintro e wq ⟨rfl, hq⟩
    subst hq
    go_wp2_with fail
    refine wp_region_lit_plan [] [(0, 0), (1, 0), (2, 0), (3, 0), (5, 0), (6, 0), (7, 0), (9, 0), (4, 2), (8, 1), (10, 0), (11, 1), (12, 3), (13, 4), (14, 0), (15, 0), (16, 4)] (fun q => q = cb) (by kernel_rfl) (by kernel_rfl) (fun c a d v w h => by cases d <;> exact h) ?_
    go_wp2_with (first | (refine plan_pure (v := _) (by rfl) (by rfl) (by rfl) (by intro _; go_simp; with_reducible rfl) ?_; simp only [List.setIfInBounds_toArray, List.set_cons_zero, List.set_cons_succ]; try go_bits) | (refine plan_read (v := _) (by rfl) (by rfl) (by rfl) (by go_simp; with_reducible rfl) ?_; simp only [List.setIfInBounds_toArray, List.set_cons_zero, List.set_cons_succ]; try go_bits) | (refine plan_readB (v := _) (by rfl) (by rfl) (by rfl) (by intro _ hag; unfold Agree at hag; go_simp; with_reducible rfl) ?_; simp only [List.setIfInBounds_toArray, List.set_cons_zero, List.set_cons_succ]; try go_bits) | (refine plan_skip0 (by rfl) (by rfl) (by rfl) ?_; simp only [List.setIfInBounds_toArray, List.set_cons_zero, List.set_cons_succ]; try go_bits) | (refine plan_skip1 (by rfl) (by rfl) (by rfl) ?_; simp only [List.setIfInBounds_toArray, List.set_cons_zero, List.set_cons_succ]; try go_bits) | (refine plan_skip2 (by rfl) (by rfl) (by rfl) ?_; simp only [List.setIfInBounds_toArray, List.set_cons_zero, List.set_cons_succ]; try go_bits) | (refine plan_skip4 (by rfl) (by rfl) (by rfl) ?_; simp only [List.setIfInBounds_toArray, List.set_cons_zero, List.set_cons_succ]; try go_bits) | (refine plan_any (by rfl) ?_) | (refine plan_keep (by rfl) ?_) | (refine plan_nil ?_) | (with_reducible refine And.intro (by first | assumption | exact Agree.refl _ _ | exact agree_drew _ _ | exact agree_alloc _ (by intro k hk; subst hk; first | omega | (simp; omega))) ?_) | (unfold Act.put; simp only [List.setIfInBounds_toArray, List.set_cons_zero, List.set_cons_succ]))
    refine HI3.out.mono ?_
    clear z0 z1 y0 y1 p1
    rintro e w4 ⟨cbv2, rfl, ho4, hon4, hf4⟩
    have b4 : Below wq.heap.size wq (wq.alloc (.cells #[ptrV k1.blk] 60)).drew := ((Below.refl _ _).alloc (Nat.le_refl _) _).drew
    have T4 : Trk w F (wq.alloc (.cells #[ptrV k1.blk] 60)).drew (rKi cbv cks :: rAi av (ea ++ y :: eb) :: rBi b av bv :: rKi bv (l ++ .node ab aav aes abv aks :: .node cb cav ces cbv cks :: r) :: rBi ab aav2 abv :: rAi aav2 ae :: rKi abv aks :: rBi cb cav2 cbv :: rAi cav2 (insAt 0 x ces) :: (presLi aks ++ (presLi cks ++ (presLi l ++ presLi r)))) := (HT3.out.below b4).perm (perm_of_cnt fun a => by simp only [cnt_append, cnt_cons, cnt_nil, presi, presLi, rBi, rAi, rKi, P.resL_append, P.resL_cons, P.resL_nil, P.res_node] <;> omega)
    have hin := ptrs_ins cks 0 k1
    have hil := insAt_length 0 k1 cks (Nat.zero_le _)
    have ho4' : Own w4 60 1 cbv2 (insAt 0 k1 cks).length (ptrs (insAt 0 k1 cks)) := by rw [hil, ← hin]; exact ho4
    have T5 : Trk w F w4 (rKi cbv2 (insAt 0 k1 cks) :: rAi av (ea ++ y :: eb) :: rBi b av bv :: rKi bv (l ++ .node ab aav aes abv aks :: .node cb cav ces cbv cks :: r) :: rBi ab aav2 abv :: rAi aav2 ae :: rKi abv aks :: rBi cb cav2 cbv :: rAi cav2 (insAt 0 x ces) :: (presLi aks ++ (presLi cks ++ (presLi l ++ presLi r)))) := T4.ownTo ho4' (HCBV.out ▸ hon4) (HCBV.out ▸ hf4)
    obtain ⟨p4, c4, hcbv2, _, _⟩ := own_form_Pi ho4
    have T5 : Trk w F w4 (rBi cb cav2 cbv :: rAi av (ea ++ y :: eb) :: rBi b av bv :: rKi bv (l ++ .node ab aav aes abv aks :: .node cb cav ces cbv cks :: r) :: rBi ab aav2 abv :: rAi aav2 ae :: rKi abv aks :: rKi cbv2 (insAt 0 k1 cks) :: rAi cav2 (insAt 0 x ces) :: (presLi aks ++ (presLi cks ++ (presLi l ++ presLi r)))) := T5.perm (perm_of_cnt fun a => by simp only [cnt_append, cnt_cons, cnt_nil, presi, presLi, rBi, rAi, rKi, P.resL_append, P.resL_cons, P.resL_nil, P.res_node] <;> omega)
    have kc4 : Blk w4 cb 66 [cav2, cbv] := T5.blk (by simp only [List.mem_cons, true_or, or_true])
    obtain ⟨w5, hw5⟩ : ∃ w5, w4.setCell ⟨cb, 1, none⟩ cbv2 = w5 := ⟨_, rfl⟩
    have T6 : Trk w F w5 (rBi cb cav2 cbv2 :: rAi av (ea ++ y :: eb) :: rBi b av bv :: rKi bv (l ++ .node ab aav aes abv aks :: .node cb cav ces cbv cks :: r) :: rBi ab aav2 abv :: rAi aav2 ae :: rKi abv aks :: rKi cbv2 (insAt 0 k1 cks) :: rAi cav2 (insAt 0 x ces) :: (presLi aks ++ (presLi cks ++ (presLi l ++ presLi r)))) := hw5 ▸ T5.blkSet 1 cbv2
    have T6 : Trk w F w5 (rBi ab aav2 abv :: rAi av (ea ++ y :: eb) :: rBi b av bv :: rKi bv (l ++ .node ab aav aes abv aks :: .node cb cav ces cbv cks :: r) :: rBi cb cav2 cbv2 :: rAi aav2 ae :: rKi abv aks :: rKi cbv2 (insAt 0 k1 cks) :: rAi cav2 (insAt 0 x ces) :: (presLi aks ++ (presLi cks ++ (presLi l ++ presLi r)))) := T6.perm (perm_of_cnt fun a => by simp only [cnt_append, cnt_cons, cnt_nil, presi, presLi, rBi, rAi, rKi, P.resL_append, P.resL_cons, P.resL_nil, P.res_node] <;> omega)
    have ka5 : Blk w5 ab 66 [aav2, abv] := T6.blk (by simp only [List.mem_cons, true_or, or_true])
    obtain ⟨y0, y1⟩ := pg_cells ka5
    obtain ⟨z0, z1⟩ := pg_cells kc4
    have hfz := kc4.frozen 1
    have hfy := ka5.frozen 1
    rw [HABV.out, HNAK.out] at y1
    rw [HCBV.out] at z1
    have hag5 := agree_blk (HKC3.out.below b4) kc4
    have hag6 := agree_trans2 hag0 hag5
    have HT6 := Lib.hid T6
    have HCBV2 := Lib.hid hcbv2
    have HW5 := Lib.hid hw5
    have hckq : ak.length ≤ cak := by have := HM.out; omega
    have HHM := Lib.hid hm
    subst hcbv2
    clear T4 T5 T6 ho4 ho4' hon4 hf4 hin hil kc4 ka5
    go_wp2_with (first | (refine plan_pure (v := _) (by rfl) (by rfl) (by rfl) (by intro _; go_simp; with_reducible rfl) ?_; simp only [List.setIfInBounds_toArray, List.set_cons_zero, List.set_cons_succ]; try go_bits) | (refine plan_read (v := _) (by rfl) (by rfl) (by rfl) (by go_simp; with_reducible rfl) ?_; simp only [List.setIfInBounds_toArray, List.set_cons_zero, List.set_cons_succ]; try go_bits) | (refine plan_readB (v := _) (by rfl) (by rfl) (by rfl) (by intro _ hag; unfold Agree at hag; go_simp; with_reducible rfl) ?_; simp only [List.setIfInBounds_toArray, List.set_cons_zero, List.set_cons_succ]; try go_bits) | (refine plan_skip0 (by rfl) (by rfl) (by rfl) ?_; simp only [List.setIfInBounds_toArray, List.set_cons_zero, List.set_cons_succ]; try go_bits) | (refine plan_skip1 (by rfl) (by rfl) (by rfl) ?_; simp only [List.setIfInBounds_toArray, List.set_cons_zero, List.set_cons_succ]; try go_bits) | (refine plan_skip2 (by rfl) (by rfl) (by rfl) ?_; simp only [List.setIfInBounds_toArray, List.set_cons_zero, List.set_cons_succ]; try go_bits) | (refine plan_skip4 (by rfl) (by rfl) (by rfl) ?_; simp only [List.setIfInBounds_toArray, List.set_cons_zero, List.set_cons_succ]; try go_bits) | (refine plan_any (by rfl) ?_) | (refine plan_keep (by rfl) ?_) | (refine plan_nil ?_) | (with_reducible refine And.intro (by first | assumption | exact Agree.refl _ _ | exact agree_drew _ _ | exact agree_alloc _ (by intro k hk; subst hk; first | omega | (simp; omega))) ?_) | (unfold Act.put; simp only [List.setIfInBounds_toArray, List.set_cons_zero, List.set_cons_succ]))
    go_end0
    have T7 := HT6.out.blkSet 1 (.slice (some ⟨gq, offq, none⟩) ak.length cak)
    generalize w5.setCell ⟨ab, 1, none⟩ (.slice (some ⟨gq, offq, none⟩) ak.length cak) = w7 at *
    have T8 : Trk w F w7 (rKi abv aks :: rBi ab aav2 (.slice (some ⟨gq, offq, none⟩) ak.length cak) :: rAi av (ea ++ y :: eb) :: rBi b av bv :: rKi bv (l ++ .node ab aav aes abv aks :: .node cb cav ces cbv cks :: r) :: rBi cb cav2 (.slice p4 (cks.length + 1) c4) :: rAi aav2 ae :: rKi (.slice p4 (cks.length + 1) c4) (insAt 0 k1 cks) :: rAi cav2 (insAt 0 x ces) :: (presLi aks ++ (presLi cks ++ (presLi l ++ presLi r)))) := T7.perm (perm_of_cnt fun a => by simp only [cnt_append, cnt_cons, cnt_nil, presi, presLi, rBi, rAi, rKi, P.resL_append, P.resL_cons, P.resL_nil, P.res_node, List.set_cons_zero, List.set_cons_succ] <;> omega)
    have oa7 : Own w7 60 1 abv aks.length (ptrs aks) := T8.own (by simp only [List.mem_cons, true_or, or_true])
    have oa8 : Own w7 60 1 (.slice (some ⟨gq, offq, none⟩) ak.length cak) ak.length (ptrs ak) := by
      rw [HABV.out] at oa7
      have h1 := oa7.take (m := ak.length) (by have := HM.out; omega)
      rw [Nat.mul_one, (ptrs_td aks ak.length).1] at h1
      have h2 : aks.take ak.length = ak := by rw [HAK.out]; simp
      rw [h2] at h1
      exact h1
    have T9 := T8.swap (r' := rKi (.slice (some ⟨gq, offq, none⟩) ak.length cak) ak) oa8 (show (Value.slice (some ⟨gq, offq, none⟩) ak.length cak).ownBlock.toList.Nodup from ownBlock_nodup _) (fun k hk => by
      have h1 : k = gq := by simpa [Res.own, Value.ownBlock] using hk
      simp [Res.own, HABV.out, Value.ownBlock, h1])
    have haks := HAK.out
    exact ⟨rfl, .node b av (ea ++ y :: eb) bv (l ++ .node ab aav2 ae (.slice (some ⟨gq, offq, none⟩) ak.length cak) ak :: .node cb cav2 (x :: ces) (.slice p4 (cks.length + 1) c4) (k1 :: cks) :: r), rfl, by simp [P.t_node], T9.perm (perm_of_cnt fun a => by
      have e1 : ptrs (l ++ .node ab aav2 ae (.slice (some ⟨gq, offq, none⟩) ak.length cak) ak :: .node cb cav2 (x :: ces) (.slice p4 (cks.length + 1) c4) (k1 :: cks) :: r) = ptrs (l ++ .node ab aav aes abv aks :: .node cb cav ces cbv cks :: r) := by simp [ptrs, P.blk]
      have e2 : (l ++ .node ab aav2 ae (.slice (some ⟨gq, offq, none⟩) ak.length cak) ak :: .node cb cav2 (x :: ces) (.slice p4 (cks.length + 1) c4) (k1 :: cks) :: r).length = (l ++ .node ab aav aes abv aks :: .node cb cav ces cbv cks :: r).length := by simp
      have e3 : insAt 0 x ces = x :: ces := rfl
      have e4 : insAt 0 k1 cks = k1 :: cks := rfl
      have e5 : P.resL 66 87 60 aks = presLi ak ++ k1.res 66 87 60 := by rw [haks, P.resL_append, P.resL_cons, P.resL_nil, List.append_nil]
      simp only [cnt_append, cnt_cons, cnt_nil, presi, presLi, rBi, rAi, rKi, P.resL_append, P.resL_cons, P.resL_nil, P.res_node, e1, e2, e3, e4, e5] <;> omega)⟩

end Go.Proofs.Ytfnndifckgjmjaa
/- Pages: left. -/
namespace Go.Proofs.Ytfnndifckgjmjaa
open Go.RowKit Go.Afx

set_option maxRecDepth 100000 in
set_option maxHeartbeats 4000000 in
theorem left_i (w : World) (b : Nat) (av bv : Value) (ea : List En) (x : En) (eb : List En) (l : List P) (ab : Nat) (aav : Value) (aes : List En) (abv : Value) (aks : List P) (cb : Nat) (cav : Value) (ces : List En) (cbv : Value) (cks r : List P)
    (hs : Sep w (presi (.node b av (ea ++ x :: eb) bv (l ++ .node ab aav aes abv aks :: .node cb cav ces cbv cks :: r)))) (hl : ea.length = l.length) (hn : (ea ++ x :: eb).length ≤ 1000000) (hkn : (l ++ .node ab aav aes abv aks :: .node cb cav ces cbv cks :: r).length ≤ 1000000) (han : aes.length ≤ 1000000) (hcn : ces.length ≤ 1000000) (hakn : aks.length ≤ 1000000) (hckn : cks.length ≤ 1000000)
    (ce : List En) (y : En) (hce : ces = y :: ce) (ck : List P) (tk : List P) (hck : cks = tk ++ ck) (htk : tk.length ≤ 1) (hleaf : tk = [] → ck = [] ∧ aks = []) :
    Calls Try.prog 76 #[ptrV b, .int .i64 (l.length : Int)] w fun e w' => e = .returned (.tuple #[]) ∧ ∃ p', p'.blk = b ∧ p'.t = .node (ea ++ y :: eb) (l.map P.t ++ .node (aes ++ [x]) ((aks ++ tk).map P.t) :: .node ce (ck.map P.t) :: r.map P.t) ∧
      Trk w (feet (presi (.node b av (ea ++ x :: eb) bv (l ++ .node ab aav aes abv aks :: .node cb cav ces cbv cks :: r)))) w' (presi p') := by
  have T0 := Trk.start hs
  generalize hF : feet (presi (.node b av (ea ++ x :: eb) bv (l ++ .node ab aav aes abv aks :: .node cb cav ces cbv cks :: r))) = F at *
  have T0 : Trk w F w (rBi b av bv :: rAi av (ea ++ x :: eb) :: rKi bv (l ++ .node ab aav aes abv aks :: .node cb cav ces cbv cks :: r) :: rBi ab aav abv :: rAi aav aes :: rKi abv aks :: rBi cb cav cbv :: rAi cav ces :: rKi cbv cks :: (presLi aks ++ (presLi cks ++ (presLi l ++ presLi r)))) := T0.perm (perm_of_cnt fun a => by simp only [cnt_append, cnt_cons, cnt_nil, presi, presLi, rBi, rAi, rKi, P.resL_append, P.resL_cons, P.resL_nil, P.res_node] <;> omega)
  have kb0 : Blk w b 66 [av, bv] := T0.blk (by simp only [List.mem_cons, true_or, or_true])
  have ka0 : Blk w ab 66 [aav, abv] := T0.blk (by simp only [List.mem_cons, true_or, or_true])
  have kc0 : Blk w cb 66 [cav, cbv] := T0.blk (by simp only [List.mem_cons, true_or, or_true])
  have oe : Own w 87 2 av (ea ++ x :: eb).length (enC (ea ++ x :: eb)) := T0.own (by simp only [List.mem_cons, true_or, or_true])
  have ok : Own w 60 1 bv (l ++ .node ab aav aes abv aks :: .node cb cav ces cbv cks :: r).length (ptrs (l ++ .node ab aav aes abv aks :: .node cb cav ces cbv cks :: r)) := T0.own (by simp only [List.mem_cons, true_or, or_true])
  have oaa : Own w 87 2 aav aes.length (enC aes) := T0.own (by simp only [List.mem_cons, true_or, or_true])
  have oca : Own w 87 2 cav ces.length (enC ces) := T0.own (by simp only [List.mem_cons, true_or, or_true])
  have oak : Own w 60 1 abv aks.length (ptrs aks) := T0.own (by simp only [List.mem_cons, true_or, or_true])
  have ock : Own w 60 1 cbv cks.length (ptrs cks) := T0.own (by simp only [List.mem_cons, true_or, or_true])
  obtain ⟨gk, offk, capk, hbv, hgk, q0⟩ := sl_ptr (k := l.length) (ok.sl (B := fun _ => True) (fun _ _ => trivial)) (by simp)
  obtain ⟨gk', offk', capk', hbv', hgk', q1⟩ := sl_ptr (k := l.length + 1) (ok.sl (B := fun _ => True) (fun _ _ => trivial)) (by simp)
  rw [hbv] at hbv'
  cases hbv'
  have e0 : (l ++ .node ab aav aes abv aks :: .node cb cav ces cbv cks :: r)[l.length]'(by simp) = .node ab aav aes abv aks := by simp
  have e1 : (l ++ .node ab aav aes abv aks :: .node cb cav ces cbv cks :: r)[l.length + 1]'(by simp) = .node cb cav ces cbv cks := by
    rw [List.getElem_append_right (by omega)]
    have : l.length + 1 - l.length = 1 := by omega
    simp [this]
  rw [e0] at q0
  rw [e1] at q1
  replace q0 : w.cell? ⟨gk, offk + l.length, none⟩ = some (.pointer (some ⟨ab, 0, none⟩)) := q0
  replace q1 : w.cell? ⟨gk, offk + (l.length + 1), none⟩ = some (.pointer (some ⟨cb, 0, none⟩)) := q1
  obtain ⟨nk, hnk⟩ : ∃ nk, (l ++ .node ab aav aes abv aks :: .node cb cav ces cbv cks :: r).length = nk := ⟨_, rfl⟩
  obtain ⟨ne, hne⟩ : ∃ ne, (ea ++ x :: eb).length = ne := ⟨_, rfl⟩
  have hnk2 : nk = l.length + (r.length + 2) := by rw [← hnk]; simp
  have hne2 : ne = l.length + (eb.length + 1) := by rw [← hne, ← hl]; simp
  rw [hnk] at hbv hkn
  rw [hne] at hn
  have hlk1 : l.length < nk := by omega
  have hlk2 : l.length + 1 < nk := by omega
  have hlk2i : (l.length : Int) + 1 < (nk : Int) := by omega
  have hlk0 : (0 : Int) ≤ (l.length : Int) + 1 := by omega
  have htn : ((l.length : Int) + 1).toNat = l.length + 1 := by omega
  have hle1 : l.length < ne := by omega
  have hex : (ea ++ x :: eb)[l.length]? = some x := by rw [← hl]; simp
  have hxo : x.val.oneCell' = true := by
    have h1 : l.length < (ea ++ x :: eb).length := by rw [hne]; exact hle1
    have h2 := (enC_at (ea ++ x :: eb) l.length h1).2
    rw [List.getElem?_eq_getElem h1] at hex
    rw [Option.some.inj hex] at h2
    exact oe.2.1 _ (List.mem_of_getElem? h2)
  have HEX : Hid (∀ w2, Own w2 87 2 av (ea ++ x :: eb).length (enC (ea ++ x :: eb)) → ∃ g off cap, av = .slice (some ⟨g, off, none⟩) ne cap ∧ g < w2.heap.size ∧ w2.cell? ⟨g, off + l.length * 2, none⟩ = some (.string (kb x.key)) ∧ w2.cell? ⟨g, off + l.length * 2 + 1, none⟩ = some x.val) := fun w2 h => by
    have h1 : l.length < (ea ++ x :: eb).length := by rw [hne]; exact hle1
    have h2 := sl_en (h.sl (B := fun _ => True) (fun _ _ => trivial)) h1
    rw [List.getElem?_eq_getElem h1] at hex
    rw [Option.some.inj hex, hne] at h2
    exact h2
  obtain ⟨ge, offe, cape, hav, hge, v0, v1⟩ := HEX.out w oe
  have HOE := Lib.hid oe
  obtain ⟨x0, x1⟩ := pg_cells kb0
  obtain ⟨y0, y1⟩ := pg_cells ka0
  obtain ⟨z0, z1⟩ := pg_cells kc0
  rw [hbv] at x1
  rw [hav] at x0
  have HAV := Lib.hid hav
  have HBV := Lib.hid hbv
  have HNK := Lib.hid hnk
  have HNE := Lib.hid hne
  have HL := Lib.hid hl
  have HXO := Lib.hid hxo
  have HT0 := Lib.hid T0
  have HKB := Lib.hid kb0
  have HKA := Lib.hid ka0
  have HKC := Lib.hid kc0

  obtain ⟨na, hna⟩ : ∃ na, aes.length = na := ⟨_, rfl⟩
  obtain ⟨pa, ca, haav, _, _⟩ := own_form_Ei oaa
  rw [haav, hna] at y0
  have HNA := Lib.hid hna
  have HAAV := Lib.hid haav
  have HCE := Lib.hid hce
  have hna4 : na ≤ 1000000 := by omega
  have hp1 : (rBi b av bv :: rAi av (ea ++ x :: eb) :: rKi bv (l ++ .node ab aav aes abv aks :: .node cb cav ces cbv cks :: r) :: rBi ab aav abv :: rAi aav aes :: rKi abv aks :: rBi cb cav cbv :: rAi cav ces :: rKi cbv cks :: (presLi aks ++ (presLi cks ++ (presLi l ++ presLi r)))).Perm ([rBi ab aav abv, rAi aav aes] ++ (rBi b av bv :: rAi av (ea ++ x :: eb) :: rKi bv (l ++ .node ab aav aes abv aks :: .node cb cav ces cbv cks :: r) :: rKi abv aks :: rBi cb cav cbv :: rAi cav ces :: rKi cbv cks :: (presLi aks ++ (presLi cks ++ (presLi l ++ presLi r))))) := perm_of_cnt fun a => by simp only [cnt_append, cnt_cons, cnt_nil, presi, presLi, rBi, rAi, rKi, P.resL_append, P.resL_cons, P.resL_nil, P.res_node] <;> omega
  have hi1 : ∀ w2, Sep w2 [rBi ab aav abv, rAi aav aes] → Calls Try.prog 47 #[ptrV ab, .int .i64 (na : Int), .agg #[.string (kb x.key), x.val]] w2 _ := fun w2 hs => insert_ri w2 ab na aav abv aes x hs hxo (by omega) (by omega)
  have HI1 := Lib.hid hi1
  have HP1 := Lib.hid hp1
  clear T0 kb0 ka0 kc0 oe ok oaa oca oak ock hp1 hi1 hs hF e0 e1 hav hbv hnk hne hl hxo hna haav hex hce hnk2 hne2
  unfold ptrV at HI1 ⊢
  go_enter Try.func76, Try.ntmps76
  go_wp2_with fail
  refine wp_region_lit_plan [] [(0, 0), (1, 0), (2, 0), (4, 0), (7, 0), (8, 0), (9, 0), (11, 0), (12, 0), (3, 1), (5, 0), (6, 1), (15, 0), (10, 1), (13, 0), (14, 1), (16, 0)] (fun _ => False) (by kernel_rfl) (by kernel_rfl) (fun c a d v w h => by cases d <;> exact h) ?_
  go_wp2_with (first | (refine plan_pure (v := _) (by rfl) (by rfl) (by rfl) (by intro _; go_simp; with_reducible rfl) ?_; simp only [List.setIfInBounds_toArray, List.set_cons_zero, List.set_cons_succ]; try go_bits) | (refine plan_read (v := _) (by rfl) (by rfl) (by rfl) (by go_simp; with_reducible rfl) ?_; simp only [List.setIfInBounds_toArray, List.set_cons_zero, List.set_cons_succ]; try go_bits) | (refine plan_readB (v := _) (by rfl) (by rfl) (by rfl) (by intro _ hag; unfold Agree at hag; go_simp; with_reducible rfl) ?_; simp only [List.setIfInBounds_toArray, List.set_cons_zero, List.set_cons_succ]; try go_bits) | (refine plan_skip0 (by rfl) (by rfl) (by rfl) ?_; simp only [List.setIfInBounds_toArray, List.set_cons_zero, List.set_cons_succ]; try go_bits) | (refine plan_skip1 (by rfl) (by rfl) (by rfl) ?_; simp only [List.setIfInBounds_toArray, List.set_cons_zero, List.set_cons_succ]; try go_bits) | (refine plan_skip2 (by rfl) (by rfl) (by rfl) ?_; simp only [List.setIfInBounds_toArray, List.set_cons_zero, List.set_cons_succ]; try go_bits) | (refine plan_skip4 (by rfl) (by rfl) (by rfl) ?_; simp only [List.setIfInBounds_toArray, List.set_cons_zero, List.set_cons_succ]; try go_bits) | (refine plan_any (by rfl) ?_) | (refine plan_keep (by rfl) ?_) | (refine plan_nil ?_) | (with_reducible refine And.intro (by first | assumption | exact Agree.refl _ _ | exact agree_drew _ _ | exact agree_alloc _ (by intro k hk; subst hk; first | omega | (simp; omega))) ?_) | (unfold Act.put; simp only [List.setIfInBounds_toArray, List.set_cons_zero, List.set_cons_succ]))
  refine wp_region_lit_plan [] [(0, 0), (1, 0), (2, 0), (3, 0), (4, 0), (5, 0), (6, 0), (9, 0), (10, 0), (11, 0), (12, 0), (14, 0), (7, 1), (8, 0), (13, 1), (15, 0), (16, 1), (17, 4)] (fun _ => False) (by kernel_rfl) (by kernel_rfl) (fun c a d v w h => by cases d <;> exact h) ?_
  go_wp2_with (first | (refine plan_pure (v := _) (by rfl) (by rfl) (by rfl) (by intro _; go_simp; with_reducible rfl) ?_; simp only [List.setIfInBounds_toArray, List.set_cons_zero, List.set_cons_succ]; try go_bits) | (refine plan_read (v := _) (by rfl) (by rfl) (by rfl) (by go_simp; with_reducible rfl) ?_; simp only [List.setIfInBounds_toArray, List.set_cons_zero, List.set_cons_succ]; try go_bits) | (refine plan_readB (v := _) (by rfl) (by rfl) (by rfl) (by intro _ hag; unfold Agree at hag; go_simp; with_reducible rfl) ?_; simp only [List.setIfInBounds_toArray, List.set_cons_zero, List.set_cons_succ]; try go_bits) | (refine plan_skip0 (by rfl) (by rfl) (by rfl) ?_; simp only [List.setIfInBounds_toArray, List.set_cons_zero, List.set_cons_succ]; try go_bits) | (refine plan_skip1 (by rfl) (by rfl) (by rfl) ?_; simp only [List.setIfInBounds_toArray, List.set_cons_zero, List.set_cons_succ]; try go_bits) | (refine plan_skip2 (by rfl) (by rfl) (by rfl) ?_; simp only [List.setIfInBounds_toArray, List.set_cons_zero, List.set_cons_succ]; try go_bits) | (refine plan_skip4 (by rfl) (by rfl) (by rfl) ?_; simp only [List.setIfInBounds_toArray, List.set_cons_zero, List.set_cons_succ]; try go_bits) | (refine plan_any (by rfl) ?_) | (refine plan_keep (by rfl) ?_) | (refine plan_nil ?_) | (with_reducible refine And.intro (by first | assumption | exact Agree.refl _ _ | exact agree_drew _ _ | exact agree_alloc _ (by intro k hk; subst hk; first | omega | (simp; omega))) ?_) | (unfold Act.put; simp only [List.setIfInBounds_toArray, List.set_cons_zero, List.set_cons_succ]))
  refine (HI1.out _ (HT0.out.drew.drew.sepOf HP1.out)).mono ?_
  clear x0 x1 y0 y1 z0 z1 v0 v1 q0 q1
  rintro e w1 ⟨rfl, aav2, hT⟩
  have T1 := HT0.out.drew.drew.use HP1.out hT
  have T1 : Trk w F w1 (rBi b av bv :: rAi av (ea ++ x :: eb) :: rKi bv (l ++ .node ab aav aes abv aks :: .node cb cav ces cbv cks :: r) :: rBi ab aav2 abv :: rAi aav2 (insAt na x aes) :: rKi abv aks :: rBi cb cav cbv :: rAi cav ces :: rKi cbv cks :: (presLi aks ++ (presLi cks ++ (presLi l ++ presLi r)))) := T1.perm (perm_of_cnt fun a => by simp only [cnt_append, cnt_cons, cnt_nil, presi, presLi, rBi, rAi, rKi, P.resL_append, P.resL_cons, P.resL_nil, P.res_node] <;> omega)
  have kb1 : Blk w1 b 66 [av, bv] := T1.blk (by simp only [List.mem_cons, true_or, or_true])
  have kc1 : Blk w1 cb 66 [cav, cbv] := T1.blk (by simp only [List.mem_cons, true_or, or_true])
  have hp2 : (rBi b av bv :: rAi av (ea ++ x :: eb) :: rKi bv (l ++ .node ab aav aes abv aks :: .node cb cav ces cbv cks :: r) :: rBi ab aav2 abv :: rAi aav2 (insAt na x aes) :: rKi abv aks :: rBi cb cav cbv :: rAi cav ces :: rKi cbv cks :: (presLi aks ++ (presLi cks ++ (presLi l ++ presLi r)))).Perm ([rBi cb cav cbv, rAi cav ces] ++ (rBi b av bv :: rAi av (ea ++ x :: eb) :: rKi bv (l ++ .node ab aav aes abv aks :: .node cb cav ces cbv cks :: r) :: rBi ab aav2 abv :: rAi aav2 (insAt na x aes) :: rKi abv aks :: rKi cbv cks :: (presLi aks ++ (presLi cks ++ (presLi l ++ presLi r))))) := perm_of_cnt fun a => by simp only [cnt_append, cnt_cons, cnt_nil, presi, presLi, rBi, rAi, rKi, P.resL_append, P.resL_cons, P.resL_nil, P.res_node] <;> omega
  have hcl : 0 < ces.length := by rw [HCE.out]; simp
  have hy : ces[0]'hcl = y := by simp [HCE.out]
  have htd : ces.take 0 ++ ces.drop (0 + 1) = ce := by rw [HCE.out]; simp
  have hi2 : ∀ w2, Sep w2 [rBi cb cav cbv, rAi cav ces] → Calls Try.prog 58 #[.pointer (some ⟨cb, 0, none⟩), .int .i64 0] w2 fun e w' => e = .returned (.agg #[.string (kb y.key), y.val]) ∧ ∃ av', Trk w2 (feet [rBi cb cav cbv, rAi cav ces]) w' [rBi cb av' cbv, rAi av' ce] := fun w2 hs => by
    have h1 := remove_ri w2 cb 0 cav cbv ces hs hcl (by omega)
    rw [hy, htd] at h1
    exact h1
  have hyo : y.val.oneCell' = true := by
    have h2 := (enC_at ces 0 hcl).2
    rw [hy] at h2
    have oca : Own w1 87 2 cav ces.length (enC ces) := T1.own (by simp only [List.mem_cons, true_or, or_true])
    exact oca.2.1 _ (List.mem_of_getElem? h2)
  have HI2 := Lib.hid hi2
  have HT1 := Lib.hid T1
  have HP2 := Lib.hid hp2
  have HYO := Lib.hid hyo
  obtain ⟨x0, x1⟩ := pg_cells kb1
  obtain ⟨z0, z1⟩ := pg_cells kc1
  rw [HAV.out] at x0
  rw [HBV.out] at x1
  have HKB1 := Lib.hid kb1
  clear hT T1 kb1 kc1 hp2 hy htd hi2 HI1 HP1 hyo hcl
  go_wp2_with (first | (refine plan_nil ?_))
  refine wp_region_lit_plan [] [(0, 0), (1, 0), (2, 0), (3, 0), (5, 0), (6, 0), (7, 0), (8, 0), (4, 2), (9, 3), (10, 0), (11, 4)] (fun q => q = b) (by kernel_rfl) (by kernel_rfl) (fun c a d v w h => by cases d <;> exact h) ?_
  go_wp2_with (first | (refine plan_pure (v := _) (by rfl) (by rfl) (by rfl) (by intro _; go_simp; with_reducible rfl) ?_; simp only [List.setIfInBounds_toArray, List.set_cons_zero, List.set_cons_succ]; try go_bits) | (refine plan_read (v := _) (by rfl) (by rfl) (by rfl) (by go_simp; with_reducible rfl) ?_; simp only [List.setIfInBounds_toArray, List.set_cons_zero, List.set_cons_succ]; try go_bits) | (refine plan_readB (v := _) (by rfl) (by rfl) (by rfl) (by intro _ hag; unfold Agree at hag; go_simp; with_reducible rfl) ?_; simp only [List.setIfInBounds_toArray, List.set_cons_zero, List.set_cons_succ]; try go_bits) | (refine plan_skip0 (by rfl) (by rfl) (by rfl) ?_; simp only [List.setIfInBounds_toArray, List.set_cons_zero, List.set_cons_succ]; try go_bits) | (refine plan_skip1 (by rfl) (by rfl) (by rfl) ?_; simp only [List.setIfInBounds_toArray, List.set_cons_zero, List.set_cons_succ]; try go_bits) | (refine plan_skip2 (by rfl) (by rfl) (by rfl) ?_; simp only [List.setIfInBounds_toArray, List.set_cons_zero, List.set_cons_succ]; try go_bits) | (refine plan_skip4 (by rfl) (by rfl) (by rfl) ?_; simp only [List.setIfInBounds_toArray, List.set_cons_zero, List.set_cons_succ]; try go_bits) | (refine plan_any (by rfl) ?_) | (refine plan_keep (by rfl) ?_) | (refine plan_nil ?_) | (with_reducible refine And.intro (by first | assumption | exact Agree.refl _ _ | exact agree_drew _ _ | exact agree_alloc _ (by intro k hk; subst hk; first | omega | (simp; omega))) ?_) | (unfold Act.put; simp only [List.setIfInBounds_toArray, List.set_cons_zero, List.set_cons_succ]))
  refine (HI2.out _ (HT1.out.drew.sepOf HP2.out)).mono ?_
  clear x0 x1 z0 z1
  rintro e w2 ⟨rfl, cav2, hT⟩
  have T2 := HT1.out.drew.use HP2.out hT
  have T2 : Trk w F w2 (rAi av (ea ++ x :: eb) :: rBi b av bv :: rKi bv (l ++ .node ab aav aes abv aks :: .node cb cav ces cbv cks :: r) :: rBi ab aav2 abv :: rAi aav2 (insAt na x aes) :: rKi abv aks :: rBi cb cav2 cbv :: rAi cav2 ce :: rKi cbv cks :: (presLi aks ++ (presLi cks ++ (presLi l ++ presLi r)))) := T2.perm (perm_of_cnt fun a => by simp only [cnt_append, cnt_cons, cnt_nil, presi, presLi, rBi, rAi, rKi, P.resL_append, P.resL_cons, P.resL_nil, P.res_node] <;> omega)
  have kb2 : Blk w2 b 66 [av, bv] := T2.blk (by simp only [List.mem_cons, true_or, or_true])
  have oe2 : Own w2 87 2 av (ea ++ x :: eb).length (enC (ea ++ x :: eb)) := T2.own (by simp only [List.mem_cons, true_or, or_true])
  have hag := agree_blk HKB1.out.drew kb2
  obtain ⟨g', o', c', hv', hge2, v0, v1⟩ := HEX.out w2 oe2
  rw [HAV.out] at hv'
  cases hv'
  rw [HAV.out] at oe2
  have hf0 : w2.frozen? ⟨ge, offe + l.length * 2, none⟩ = false := by
    rw [HNE.out] at oe2
    exact (oe2.cellAt (j := l.length * 2) (by omega)).2
  have hf1 : w2.frozen? ⟨ge, offe + l.length * 2 + 1, none⟩ = false := by
    rw [HNE.out] at oe2
    have h1 := (oe2.cellAt (j := l.length * 2 + 1) (by omega)).2
    rwa [← Nat.add_assoc] at h1
  have hyo := HYO.out
  have HT2 := Lib.hid T2
  clear hT T2 oe2 HI2 HP2 HT1 HKB1
  go_upto_region 3 with (first | (refine plan_pure (v := _) (by rfl) (by rfl) (by rfl) (by intro _; go_simp; with_reducible rfl) ?_; simp only [List.setIfInBounds_toArray, List.set_cons_zero, List.set_cons_succ]; try go_bits) | (refine plan_read (v := _) (by rfl) (by rfl) (by rfl) (by go_simp; with_reducible rfl) ?_; simp only [List.setIfInBounds_toArray, List.set_cons_zero, List.set_cons_succ]; try go_bits) | (refine plan_readB (v := _) (by rfl) (by rfl) (by rfl) (by intro _ hag; unfold Agree at hag; go_simp; with_reducible rfl) ?_; simp only [List.setIfInBounds_toArray, List.set_cons_zero, List.set_cons_succ]; try go_bits) | (refine plan_skip0 (by rfl) (by rfl) (by rfl) ?_; simp only [List.setIfInBounds_toArray, List.set_cons_zero, List.set_cons_succ]; try go_bits) | (refine plan_skip1 (by rfl) (by rfl) (by rfl) ?_; simp only [List.setIfInBounds_toArray, List.set_cons_zero, List.set_cons_succ]; try go_bits) | (refine plan_skip2 (by rfl) (by rfl) (by rfl) ?_; simp only [List.setIfInBounds_toArray, List.set_cons_zero, List.set_cons_succ]; try go_bits) | (refine plan_skip4 (by rfl) (by rfl) (by rfl) ?_; simp only [List.setIfInBounds_toArray, List.set_cons_zero, List.set_cons_succ]; try go_bits) | (refine plan_any (by rfl) ?_) | (refine plan_keep (by rfl) ?_) | (refine plan_nil ?_) | (with_reducible refine And.intro (by first | assumption | exact Agree.refl _ _ | exact agree_drew _ _ | exact agree_alloc _ (by intro k hk; subst hk; first | omega | (simp; omega))) ?_) | (unfold Act.put; simp only [List.setIfInBounds_toArray, List.set_cons_zero, List.set_cons_succ]))
  have T3 : Trk w F ((w2.setCell ⟨ge, offe + l.length * 2, none⟩ (.string (kb y.key))).setCell ⟨ge, offe + l.length * 2 + 1, none⟩ y.val) (rAi av (ea ++ y :: eb) :: rBi b av bv :: rKi bv (l ++ .node ab aav aes abv aks :: .node cb cav ces cbv cks :: r) :: rBi ab aav2 abv :: rAi aav2 (insAt na x aes) :: rKi abv aks :: rBi cb cav2 cbv :: rAi cav2 ce :: rKi cbv cks :: (presLi aks ++ (presLi cks ++ (presLi l ++ presLi r)))) := by
    have h := HT2.out
    have e : (ea ++ x :: eb).set l.length y = ea ++ y :: eb := set_len HL.out
    rw [← e]
    rw [HAV.out] at h ⊢
    exact h.setEn HNE.out.symm (by rw [HNE.out]; exact hle1) y hyo
  generalize ((w2.setCell ⟨ge, offe + l.length * 2, none⟩ (.string (kb y.key))).setCell ⟨ge, offe + l.length * 2 + 1, none⟩ y.val) = w3 at *
  have ka3 : Blk w3 ab 66 [aav2, abv] := T3.blk (by simp only [List.mem_cons, true_or, or_true])
  have kc3 : Blk w3 cb 66 [cav2, cbv] := T3.blk (by simp only [List.mem_cons, true_or, or_true])
  have oak3 : Own w3 60 1 abv aks.length (ptrs aks) := T3.own (by simp only [List.mem_cons, true_or, or_true])
  have ock3 : Own w3 60 1 cbv cks.length (ptrs cks) := T3.own (by simp only [List.mem_cons, true_or, or_true])
  obtain ⟨pak, cak, habv, hcak1, hcak2⟩ := own_form_Pi oak3
  obtain ⟨pck, cck, hcbv, hcck1, hcck2⟩ := own_form_Pi ock3
  have hlf := leaf_i w3 cb 66 cav2 pck cks.length cck (hcbv ▸ kc3)
  unfold ptrV at hlf
  have HABV := Lib.hid habv
  have HCBV := Lib.hid hcbv
  have HT3 := Lib.hid T3
  have hins : insAt na x aes = aes ++ [x] := by unfold insAt; rw [← HNA.out]; simp
  have HINS := Lib.hid hins
  clear kb2 hag v0 v1 hf0 hf1 hyo HT2 hins
  rcases tk with _ | ⟨k1, tk⟩
  · obtain ⟨hck0, hak0⟩ := hleaf rfl
    subst hck0
    subst hak0
    have hcks : cks = [] := hck
    subst hcks
    rw [show decide (([] : List P).length = 0) = true from rfl] at hlf
    have HLF := Lib.hid hlf
    clear hlf ka3 kc3 oak3 ock3 habv hcbv T3
    go_wp2_with fail
    refine HLF.out.mono ?_
    rintro e wq ⟨rfl, hq⟩
    subst hq
    go_wp2_with fail
    go_end0
    exact ⟨rfl, .node b av (ea ++ y :: eb) bv (l ++ .node ab aav2 (aes ++ [x]) abv [] :: .node cb cav2 ce cbv [] :: r), rfl, by simp [P.t_node], HT3.out.perm (perm_of_cnt fun a => by
      have e1 : ptrs (l ++ .node ab aav2 (aes ++ [x]) abv [] :: .node cb cav2 ce cbv [] :: r) = ptrs (l ++ .node ab aav aes abv [] :: .node cb cav ces cbv [] :: r) := by simp [ptrs, P.blk]
      have e2 : (l ++ .node ab aav2 (aes ++ [x]) abv [] :: .node cb cav2 ce cbv [] :: r).length = (l ++ P.node ab aav aes abv [] :: .node cb cav ces cbv [] :: r).length := by simp
      simp only [cnt_append, cnt_cons, cnt_nil, presi, presLi, rBi, rAi, rKi, P.resL_append, P.resL_cons, P.resL_nil, P.res_node, List.set_cons_zero, List.set_cons_succ, e1, e2, HINS.out] <;> omega)⟩
  · have htk0 : tk = [] := by cases tk with
      | nil => rfl
      | cons a t => simp at htk
    subst htk0
    have hckl : cks.length = ck.length + 1 := by rw [hck]; simp
    obtain ⟨nck, hnck⟩ : ∃ nck, cks.length = nck := ⟨_, rfl⟩
    obtain ⟨nak, hnak⟩ : ∃ nak, aks.length = nak := ⟨_, rfl⟩
    have hk1 : cks[0]'(by omega) = k1 := by simp [hck]
    obtain ⟨gq, offq, cq, hq1, hq2, p1⟩ := sl_ptr (k := 0) (ock3.sl (B := fun _ => True) (fun _ _ => trivial)) (by omega)
    rw [hcbv] at hq1
    cases hq1
    rw [hk1] at p1
    obtain ⟨y0, y1⟩ := pg_cells ka3
    obtain ⟨z0, z1⟩ := pg_cells kc3
    rw [habv, hnak] at y1
    rw [hcbv, hnck] at z1
    rw [decide_eq_false (by omega)] at hlf
    have HLF := Lib.hid hlf
    have b4 : Below w3.heap.size w3 (w3.alloc (.cells #[ptrV k1.blk] 60)).drew := ((Below.refl _ _).alloc (Nat.le_refl _) _).drew
    have hxk : Blk (w3.alloc (.cells #[ptrV k1.blk] 60)).drew w3.heap.size 60 [ptrV k1.blk] := (Blk.new w3 _ _).drew
    have hsx : Sl (w3.alloc (.cells #[ptrV k1.blk] 60)).drew (fun _ => True) 1 (.slice (some ⟨w3.heap.size, 0, none⟩) 1 1) 1 [ptrV k1.blk] :=
      ⟨rfl, Ones.cons rfl Ones.nil, .inr ⟨w3.heap.size, 0, 1, rfl, Nat.le_refl _, by simp [maxLen], trivial, hxk.lt, fun j hj => by rw [Nat.zero_add]; exact hxk.cell j⟩⟩
    have hao := oak3.below b4
    rw [habv, hnak] at hao
    have hag0 : Agree (fun q => q = ab) w3.drew (w3.alloc (.cells #[ptrV k1.blk] 60)).drew := agree_alloc (w := w3) _ (by intro k hk; subst hk; exact ka3.lt)
    have HNCK := Lib.hid hnck
    have HNAK := Lib.hid hnak
    have HCKL := Lib.hid hckl
    have HCK := Lib.hid hck
    have hnck1 : 0 < nck := by omega
    have hnck1i : (0 : Int) < (nck : Int) := by omega
    have hnck2 : nck ≤ 1000000 := by omega
    have hnak2 : nak ≤ 1000000 := by omega
    have HAFT : Hid (∀ w4, Only (fun k => (Value.slice pak nak cak).ownBlock = some k) (w3.alloc (.cells #[.pointer (some ⟨k1.blk, 0, none⟩)] 60)).drew w4 → Blk w4 ab 66 [aav2, abv]) := fun w4 hon => by
      refine (ka3.below b4).only hon fun h => ?_
      have h1 := (T3.sep.perm (perm_of_cnt (y := [rKi abv aks, rBi ab aav2 abv] ++ (rAi av (ea ++ y :: eb) :: rBi b av bv :: rKi bv (l ++ .node ab aav aes abv aks :: .node cb cav ces cbv cks :: r) :: rAi aav2 (insAt na x aes) :: rBi cb cav2 cbv :: rAi cav2 ce :: rKi cbv cks :: (presLi aks ++ (presLi cks ++ (presLi l ++ presLi r))))) fun a => by simp only [cnt_append, cnt_cons, cnt_nil, presi, presLi, rBi, rAi, rKi, P.resL_append, P.resL_cons, P.resL_nil, P.res_node] <;> omega)).left
      rw [← hnak, ← habv] at h
      exact two_apart h1 ab (by simp [Res.own, h]) (by simp [Res.blk])
    unfold ptrV at hag0 p1 hsx hao
    rw [Nat.add_zero] at p1
    clear hlf ka3 kc3 oak3 ock3 habv hcbv T3 hckl hnck hnak hck hk1 b4 hxk
    go_wp2_with fail
    refine HLF.out.mono ?_
    rintro e wq ⟨rfl, hq⟩
    subst hq
    go_wp2_with fail
    refine wp_region_lit_plan [] [(0, 0), (1, 0), (2, 0), (3, 0), (5, 0), (6, 0), (7, 0), (4, 2), (8, 1), (9, 0), (10, 1), (11, 3), (12, 4), (13, 0), (14, 0), (15, 4)] (fun q => q = ab) (by kernel_rfl) (by kernel_rfl) (fun c a d v w h => by cases d <;> exact h) ?_
    go_upto_region 5 with (first
      | (at_builtin; refine wpList_app rfl _ _ rfl elemPi (by rfl) hao (by rfl) hsx (by unfold maxLen; omega) (by omega) ?_; clear hao hsx; intro abv2 w4 ho4 hon4 hf4 _ _; have ka4 := HAFT.out w4 hon4; have HO4 := Lib.hid ho4; have HON4 := Lib.hid hon4; have HF4 := Lib.hid hf4; obtain ⟨p4, c4, hv4, _, _⟩ := own_form_Pi ho4; obtain ⟨u0, u1⟩ := pg_cells ka4; have hfu := ka4.frozen 1; rw [HABV.out, HNAK.out] at u1; have HKA4 := Lib.hid ka4; subst hv4; clear ho4 hon4 hf4 ka4)
      | (refine plan_pure (v := _) (by rfl) (by rfl) (by rfl) (by intro _; go_simp; with_reducible rfl) ?_; simp only [List.setIfInBounds_toArray, List.set_cons_zero, List.set_cons_succ]; try go_bits) | (refine plan_read (v := _) (by rfl) (by rfl) (by rfl) (by go_simp; with_reducible rfl) ?_; simp only [List.setIfInBounds_toArray, List.set_cons_zero, List.set_cons_succ]; try go_bits) | (refine plan_readB (v := _) (by rfl) (by rfl) (by rfl) (by intro _ hag; unfold Agree at hag; go_simp; with_reducible rfl) ?_; simp only [List.setIfInBounds_toArray, List.set_cons_zero, List.set_cons_succ]; try go_bits) | (refine plan_skip0 (by rfl) (by rfl) (by rfl) ?_; simp only [List.setIfInBounds_toArray, List.set_cons_zero, List.set_cons_succ]; try go_bits) | (refine plan_skip1 (by rfl) (by rfl) (by rfl) ?_; simp only [List.setIfInBounds_toArray, List.set_cons_zero, List.set_cons_succ]; try go_bits) | (refine plan_skip2 (by rfl) (by rfl) (by rfl) ?_; simp only [List.setIfInBounds_toArray, List.set_cons_zero, List.set_cons_succ]; try go_bits) | (refine plan_skip4 (by rfl) (by rfl) (by rfl) ?_; simp only [List.setIfInBounds_toArray, List.set_cons_zero, List.set_cons_succ]; try go_bits) | (refine plan_any (by rfl) ?_) | (refine plan_keep (by rfl) ?_) | (refine plan_nil ?_) | (with_reducible refine And.intro (by first | assumption | exact Agree.refl _ _ | exact agree_drew _ _ | exact agree_alloc _ (by intro k hk; subst hk; first | omega | (simp; omega))) ?_) | (unfold Act.put; simp only [List.setIfInBounds_toArray, List.set_cons_zero, List.set_cons_succ]))
    have b4 : Below wq.heap.size wq (wq.alloc (.cells #[.pointer (some ⟨k1.blk, 0, none⟩)] 60)).drew := ((Below.refl _ _).alloc (Nat.le_refl _) _).drew
    have T4 : Trk w F (wq.alloc (.cells #[.pointer (some ⟨k1.blk, 0, none⟩)] 60)).drew (rKi abv aks :: rAi av (ea ++ y :: eb) :: rBi b av bv :: rKi bv (l ++ .node ab aav aes abv aks :: .node cb cav ces cbv cks :: r) :: rBi ab aav2 abv :: rAi aav2 (insAt na x aes) :: rBi cb cav2 cbv :: rAi cav2 ce :: rKi cbv cks :: (presLi aks ++ (presLi cks ++ (presLi l ++ presLi r)))) := (HT3.out.below b4).perm (perm_of_cnt fun a => by simp only [cnt_append, cnt_cons, cnt_nil, presi, presLi, rBi, rAi, rKi, P.resL_append, P.resL_cons, P.resL_nil, P.res_node] <;> omega)
    have hAB : abv = Value.slice pak nak cak := by rw [HABV.out, HNAK.out]
    obtain ⟨abv2, habv2⟩ : ∃ abv2, abv2 = Value.slice p4 (nak + 1) c4 := ⟨_, rfl⟩
    have hal2 : (aks ++ [k1]).length = nak + 1 := by rw [List.length_append, HNAK.out]; rfl
    have hap2 : ptrs (aks ++ [k1]) = ptrs aks ++ [.pointer (some ⟨k1.blk, 0, none⟩)] := by rw [ptrs_append]; rfl
    have T5 : Trk w F w4 (rKi abv2 (aks ++ [k1]) :: rAi av (ea ++ y :: eb) :: rBi b av bv :: rKi bv (l ++ .node ab aav aes abv aks :: .node cb cav ces cbv cks :: r) :: rBi ab aav2 abv :: rAi aav2 (insAt na x aes) :: rBi cb cav2 cbv :: rAi cav2 ce :: rKi cbv cks :: (presLi aks ++ (presLi cks ++ (presLi l ++ presLi r)))) := T4.ownTo (e := 60) (sz := 1) (by rw [hal2, hap2, habv2]; exact HO4.out) (hAB ▸ HON4.out) (fun k hk => by
      rw [habv2] at hk
      rcases HF4.out with h | h
      · left; rw [hAB, ← h]; exact hk
      · right
        have h2 := h.symm.trans hk
        have h3 := Option.some.inj h2
        omega)
    have T5 : Trk w F w4 (rBi ab aav2 abv :: rKi abv2 (aks ++ [k1]) :: rAi av (ea ++ y :: eb) :: rBi b av bv :: rKi bv (l ++ .node ab aav aes abv aks :: .node cb cav ces cbv cks :: r) :: rAi aav2 (insAt na x aes) :: rBi cb cav2 cbv :: rAi cav2 ce :: rKi cbv cks :: (presLi aks ++ (presLi cks ++ (presLi l ++ presLi r)))) := T5.perm (perm_of_cnt fun a => by simp only [cnt_append, cnt_cons, cnt_nil, presi, presLi, rBi, rAi, rKi, P.resL_append, P.resL_cons, P.resL_nil, P.res_node] <;> omega)
    have T6 := T5.blkSet 1 (.slice p4 (nak + 1) c4)
    generalize w4.setCell ⟨ab, 1, none⟩ (.slice p4 (nak + 1) c4) = w5 at *
    rw [← habv2] at T6
    have T6 : Trk w F w5 (rKi cbv cks :: rBi ab aav2 abv2 :: rKi abv2 (aks ++ [k1]) :: rAi av (ea ++ y :: eb) :: rBi b av bv :: rKi bv (l ++ .node ab aav aes abv aks :: .node cb cav ces cbv cks :: r) :: rAi aav2 (insAt na x aes) :: rBi cb cav2 cbv :: rAi cav2 ce :: (presLi aks ++ (presLi cks ++ (presLi l ++ presLi r)))) := T6.perm (perm_of_cnt fun a => by simp only [cnt_append, cnt_cons, cnt_nil, presi, presLi, rBi, rAi, rKi, P.resL_append, P.resL_cons, P.resL_nil, P.res_node, List.set_cons_zero, List.set_cons_succ] <;> omega)
    have kc5 : Blk w5 cb 66 [cav2, cbv] := T6.blk (by simp only [List.mem_cons, true_or, or_true])
    have ok5 : Own w5 60 1 cbv cks.length (ptrs cks) := T6.own (by simp only [List.mem_cons, true_or, or_true])
    obtain ⟨z0, z1⟩ := pg_cells kc5
    rw [HCBV.out, HNCK.out] at z1 ok5
    have hdel := delete_Pi w5 gq offq cck nck 0 (ptrs cks) ok5 (by omega) hnck1
    rw [show ((0 : Nat) : Int) + 1 = 1 from rfl, show ((0 : Nat) : Int) = 0 from rfl] at hdel
    have HDEL := Lib.hid hdel
    have HT6 := Lib.hid T6
    have HAB2 := Lib.hid habv2
    clear T4 T5 T6 kc5 ok5 hdel hal2 hap2 b4 hAB habv2 u0 u1 hfu HKA4 HAFT
    go_wp2_with fail
    refine HDEL.out.mono ?_
    rintro e w6 ⟨rfl, ho6, hon6, hs6⟩
    have hCB : cbv = Value.slice (some ⟨gq, offq, none⟩) nck cck := by rw [HCBV.out, HNCK.out]
    have hcl2 : ck.length = nck - 1 := by have := HCKL.out; have := HNCK.out; omega
    have hcp2 : (ptrs cks).take (0 * 1) ++ (ptrs cks).drop ((0 + 1) * 1) = ptrs ck := by rw [HCK.out]; rfl
    rw [hcp2, ← hcl2] at ho6
    have T7 : Trk w F w6 (rKi (.slice (some ⟨gq, offq, none⟩) ck.length cck) ck :: rBi ab aav2 abv2 :: rKi abv2 (aks ++ [k1]) :: rAi av (ea ++ y :: eb) :: rBi b av bv :: rKi bv (l ++ .node ab aav aes abv aks :: .node cb cav ces cbv cks :: r) :: rAi aav2 (insAt na x aes) :: rBi cb cav2 cbv :: rAi cav2 ce :: (presLi aks ++ (presLi cks ++ (presLi l ++ presLi r)))) := HT6.out.ownTo (e := 60) (sz := 1) ho6 (by rw [hCB]; exact hon6.mono fun i _ h => by rw [h]; rfl) (fun k hk => by left; rw [hCB]; exact hk)
    rw [hcl2] at T7
    have T8 : Trk w F w6 (rBi cb cav2 cbv :: rKi (.slice (some ⟨gq, offq, none⟩) (nck - 1) cck) ck :: rBi ab aav2 abv2 :: rKi abv2 (aks ++ [k1]) :: rAi av (ea ++ y :: eb) :: rBi b av bv :: rKi bv (l ++ .node ab aav aes abv aks :: .node cb cav ces cbv cks :: r) :: rAi aav2 (insAt na x aes) :: rAi cav2 ce :: (presLi aks ++ (presLi cks ++ (presLi l ++ presLi r)))) := T7.perm (perm_of_cnt fun a => by simp only [cnt_append, cnt_cons, cnt_nil, presi, presLi, rBi, rAi, rKi, P.resL_append, P.resL_cons, P.resL_nil, P.res_node] <;> omega)
    have kc6 : Blk w6 cb 66 [cav2, cbv] := T8.blk (by simp only [List.mem_cons, true_or, or_true])
    obtain ⟨z0, z1⟩ := pg_cells kc6
    have hfz := kc6.frozen 1
    rw [hCB] at z1
    have HT8 := Lib.hid T8
    clear T7 T8 kc6 ho6 hon6 hs6 hCB hcl2 hcp2 HDEL
    go_wp2_with fail
    go_end0
    have T9 : Trk w F (w6.setCell ⟨cb, 1, none⟩ (.slice (some ⟨gq, offq, none⟩) (nck - 1) cck)) (rBi cb cav2 (.slice (some ⟨gq, offq, none⟩) (nck - 1) cck) :: rKi (.slice (some ⟨gq, offq, none⟩) (nck - 1) cck) ck :: rBi ab aav2 abv2 :: rKi abv2 (aks ++ [k1]) :: rAi av (ea ++ y :: eb) :: rBi b av bv :: rKi bv (l ++ .node ab aav aes abv aks :: .node cb cav ces cbv cks :: r) :: rAi aav2 (insAt na x aes) :: rAi cav2 ce :: (presLi aks ++ (presLi cks ++ (presLi l ++ presLi r)))) := HT8.out.blkSet 1 (.slice (some ⟨gq, offq, none⟩) (nck - 1) cck)
    have hcks := HCK.out
    refine ⟨rfl, .node b av (ea ++ y :: eb) bv (l ++ .node ab aav2 (aes ++ [x]) abv2 (aks ++ [k1]) :: .node cb cav2 ce (.slice (some ⟨gq, offq, none⟩) (nck - 1) cck) ck :: r), rfl, by simp [P.t_node], T9.perm (perm_of_cnt fun a => ?_)⟩
    have e1 : ptrs (l ++ .node ab aav2 (aes ++ [x]) abv2 (aks ++ [k1]) :: .node cb cav2 ce (.slice (some ⟨gq, offq, none⟩) (nck - 1) cck) ck :: r) = ptrs (l ++ .node ab aav aes abv aks :: .node cb cav ces cbv cks :: r) := by simp [ptrs, P.blk]
    have e2 : (l ++ .node ab aav2 (aes ++ [x]) abv2 (aks ++ [k1]) :: .node cb cav2 ce (.slice (some ⟨gq, offq, none⟩) (nck - 1) cck) ck :: r).length = (l ++ .node ab aav aes abv aks :: .node cb cav ces cbv cks :: r).length := by simp
    have e5 : P.resL 66 87 60 cks = k1.res 66 87 60 ++ presLi ck := by rw [hcks]; rfl
    have e6 : (Res.own 60 1 (.slice (some ⟨gq, offq, none⟩) (nck - 1) cck) ck.length (ptrs ck)) = Res.own 60 1 (.slice (some ⟨gq, offq, none⟩) (nck - 1) cck) ck.length (ptrs ck) := rfl
    simp only [cnt_append, cnt_cons, cnt_nil, presi, presLi, rBi, rAi, rKi, P.resL_append, P.resL_cons, P.resL_nil, P.res_node, List.set_cons_zero, List.set_cons_succ, e1, e2, e5, HINS.out] <;> omega

end Go.Proofs.Ytfnndifckgjmjaa
/- Pages: join. -/
namespace Go.Proofs.Ytfnndifckgjmjaa
open Go.RowKit Go.Afx

set_option maxRecDepth 100000 in
set_option maxHeartbeats 4000000 in
theorem join_i (w : World) (b : Nat) (av bv : Value) (ea : List En) (x : En) (eb : List En) (l : List P) (ab : Nat) (aav : Value) (aes : List En) (abv : Value) (aks : List P) (cb : Nat) (cav : Value) (ces : List En) (cbv : Value) (cks r : List P)
    (hs : Sep w (presi (.node b av (ea ++ x :: eb) bv (l ++ .node ab aav aes abv aks :: .node cb cav ces cbv cks :: r)))) (hl : ea.length = l.length) (hn : (ea ++ x :: eb).length ≤ 1000000) (hkn : (l ++ .node ab aav aes abv aks :: .node cb cav ces cbv cks :: r).length ≤ 1000000) (han : aes.length ≤ 1000000) (hcn : ces.length ≤ 1000000) (hakn : aks.length ≤ 1000000) (hckn : cks.length ≤ 1000000) :
    Calls Try.prog 77 #[ptrV b, .int .i64 (l.length : Int)] w fun e w' => e = .returned (.tuple #[]) ∧ ∃ p', p'.blk = b ∧ p'.t = .node (ea ++ eb) (l.map P.t ++ .node (aes ++ x :: ces) ((aks ++ cks).map P.t) :: r.map P.t) ∧
      Trk w (feet (presi (.node b av (ea ++ x :: eb) bv (l ++ .node ab aav aes abv aks :: .node cb cav ces cbv cks :: r)))) w' (presi p') := by
  have T0 := Trk.start hs
  generalize hF : feet (presi (.node b av (ea ++ x :: eb) bv (l ++ .node ab aav aes abv aks :: .node cb cav ces cbv cks :: r))) = F at *
  have T0 : Trk w F w (rBi b av bv :: rAi av (ea ++ x :: eb) :: rKi bv (l ++ .node ab aav aes abv aks :: .node cb cav ces cbv cks :: r) :: rBi ab aav abv :: rAi aav aes :: rKi abv aks :: rBi cb cav cbv :: rAi cav ces :: rKi cbv cks :: (presLi aks ++ (presLi cks ++ (presLi l ++ presLi r)))) := T0.perm (perm_of_cnt fun a => by simp only [cnt_append, cnt_cons, cnt_nil, presi, presLi, rBi, rAi, rKi, P.resL_append, P.resL_cons, P.resL_nil, P.res_node] <;> omega)
  have kb0 : Blk w b 66 [av, bv] := T0.blk (by simp only [List.mem_cons, true_or, or_true])
  have ka0 : Blk w ab 66 [aav, abv] := T0.blk (by simp only [List.mem_cons, true_or, or_true])
  have kc0 : Blk w cb 66 [cav, cbv] := T0.blk (by simp only [List.mem_cons, true_or, or_true])
  have oe : Own w 87 2 av (ea ++ x :: eb).length (enC (ea ++ x :: eb)) := T0.own (by simp only [List.mem_cons, true_or, or_true])
  have ok : Own w 60 1 bv (l ++ .node ab aav aes abv aks :: .node cb cav ces cbv cks :: r).length (ptrs (l ++ .node ab aav aes abv aks :: .node cb cav ces cbv cks :: r)) := T0.own (by simp only [List.mem_cons, true_or, or_true])
  have oaa : Own w 87 2 aav aes.length (enC aes) := T0.own (by simp only [List.mem_cons, true_or, or_true])
  have oca : Own w 87 2 cav ces.length (enC ces) := T0.own (by simp only [List.mem_cons, true_or, or_true])
  have oak : Own w 60 1 abv aks.length (ptrs aks) := T0.own (by simp only [List.mem_cons, true_or, or_true])
  have ock : Own w 60 1 cbv cks.length (ptrs cks) := T0.own (by simp only [List.mem_cons, true_or, or_true])
  obtain ⟨gk, offk, capk, hbv, hgk, q0⟩ := sl_ptr (k := l.length) (ok.sl (B := fun _ => True) (fun _ _ => trivial)) (by simp)
  obtain ⟨gk', offk', capk', hbv', hgk', q1⟩ := sl_ptr (k := l.length + 1) (ok.sl (B := fun _ => True) (fun _ _ => trivial)) (by simp)
  rw [hbv] at hbv'
  cases hbv'
  have e0 : (l ++ .node ab aav aes abv aks :: .node cb cav ces cbv cks :: r)[l.length]'(by simp) = .node ab aav aes abv aks := by simp
  have e1 : (l ++ .node ab aav aes abv aks :: .node cb cav ces cbv cks :: r)[l.length + 1]'(by simp) = .node cb cav ces cbv cks := by
    rw [List.getElem_append_right (by omega)]
    have : l.length + 1 - l.length = 1 := by omega
    simp [this]
  rw [e0] at q0
  rw [e1] at q1
  replace q0 : w.cell? ⟨gk, offk + l.length, none⟩ = some (.pointer (some ⟨ab, 0, none⟩)) := q0
  replace q1 : w.cell? ⟨gk, offk + (l.length + 1), none⟩ = some (.pointer (some ⟨cb, 0, none⟩)) := q1
  obtain ⟨nk, hnk⟩ : ∃ nk, (l ++ .node ab aav aes abv aks :: .node cb cav ces cbv cks :: r).length = nk := ⟨_, rfl⟩
  obtain ⟨ne, hne⟩ : ∃ ne, (ea ++ x :: eb).length = ne := ⟨_, rfl⟩
  have hnk2 : nk = l.length + (r.length + 2) := by rw [← hnk]; simp
  have hne2 : ne = l.length + (eb.length + 1) := by rw [← hne, ← hl]; simp
  rw [hnk] at hbv hkn
  rw [hne] at hn
  have hlk1 : l.length < nk := by omega
  have hlk2 : l.length + 1 < nk := by omega
  have hlk2i : (l.length : Int) + 1 < (nk : Int) := by omega
  have hlk0 : (0 : Int) ≤ (l.length : Int) + 1 := by omega
  have htn : ((l.length : Int) + 1).toNat = l.length + 1 := by omega
  have hle1 : l.length < ne := by omega
  have hex : (ea ++ x :: eb)[l.length]? = some x := by rw [← hl]; simp
  have hxo : x.val.oneCell' = true := by
    have h1 : l.length < (ea ++ x :: eb).length := by rw [hne]; exact hle1
    have h2 := (enC_at (ea ++ x :: eb) l.length h1).2
    rw [List.getElem?_eq_getElem h1] at hex
    rw [Option.some.inj hex] at h2
    exact oe.2.1 _ (List.mem_of_getElem? h2)
  have HEX : Hid (∀ w2, Own w2 87 2 av (ea ++ x :: eb).length (enC (ea ++ x :: eb)) → ∃ g off cap, av = .slice (some ⟨g, off, none⟩) ne cap ∧ g < w2.heap.size ∧ w2.cell? ⟨g, off + l.length * 2, none⟩ = some (.string (kb x.key)) ∧ w2.cell? ⟨g, off + l.length * 2 + 1, none⟩ = some x.val) := fun w2 h => by
    have h1 : l.length < (ea ++ x :: eb).length := by rw [hne]; exact hle1
    have h2 := sl_en (h.sl (B := fun _ => True) (fun _ _ => trivial)) h1
    rw [List.getElem?_eq_getElem h1] at hex
    rw [Option.some.inj hex, hne] at h2
    exact h2
  obtain ⟨ge, offe, cape, hav, hge, v0, v1⟩ := HEX.out w oe
  have HOE := Lib.hid oe
  obtain ⟨x0, x1⟩ := pg_cells kb0
  obtain ⟨y0, y1⟩ := pg_cells ka0
  obtain ⟨z0, z1⟩ := pg_cells kc0
  rw [hbv] at x1
  rw [hav] at x0
  have HAV := Lib.hid hav
  have HBV := Lib.hid hbv
  have HNK := Lib.hid hnk
  have HNE := Lib.hid hne
  have HL := Lib.hid hl
  have HXO := Lib.hid hxo
  have HT0 := Lib.hid T0
  have HKB := Lib.hid kb0
  have HKA := Lib.hid ka0
  have HKC := Lib.hid kc0

  obtain ⟨na, hna⟩ : ∃ na, aes.length = na := ⟨_, rfl⟩
  obtain ⟨pa, ca, haav, _, _⟩ := own_form_Ei oaa
  rw [haav, hna] at y0
  have HNA := Lib.hid hna
  have HAAV := Lib.hid haav
  have hna4 : na ≤ 1000000 := by omega
  have hp1 : (rBi b av bv :: rAi av (ea ++ x :: eb) :: rKi bv (l ++ .node ab aav aes abv aks :: .node cb cav ces cbv cks :: r) :: rBi ab aav abv :: rAi aav aes :: rKi abv aks :: rBi cb cav cbv :: rAi cav ces :: rKi cbv cks :: (presLi aks ++ (presLi cks ++ (presLi l ++ presLi r)))).Perm ([rBi b av bv, rAi av (ea ++ x :: eb)] ++ (rKi bv (l ++ .node ab aav aes abv aks :: .node cb cav ces cbv cks :: r) :: rBi ab aav abv :: rAi aav aes :: rKi abv aks :: rBi cb cav cbv :: rAi cav ces :: rKi cbv cks :: (presLi aks ++ (presLi cks ++ (presLi l ++ presLi r))))) := perm_of_cnt fun a => by simp only [cnt_append, cnt_cons, cnt_nil, presi, presLi, rBi, rAi, rKi, P.resL_append, P.resL_cons, P.resL_nil, P.res_node] <;> omega
  have hxe : (ea ++ x :: eb)[l.length]'(by rw [hne]; exact hle1) = x := by
    have h1 : l.length < (ea ++ x :: eb).length := by rw [hne]; exact hle1
    rw [List.getElem?_eq_getElem h1] at hex
    exact Option.some.inj hex
  have htd : (ea ++ x :: eb).take l.length ++ (ea ++ x :: eb).drop (l.length + 1) = ea ++ eb := by rw [← hl]; simp
  have hi1 : ∀ w2, Sep w2 [rBi b av bv, rAi av (ea ++ x :: eb)] → Calls Try.prog 58 #[.pointer (some ⟨b, 0, none⟩), .int .i64 (l.length : Int)] w2 fun e w' => e = .returned (.agg #[.string (kb x.key), x.val]) ∧ ∃ av', Trk w2 (feet [rBi b av bv, rAi av (ea ++ x :: eb)]) w' [rBi b av' bv, rAi av' (ea ++ eb)] := fun w2 hs => by
    have h1 := remove_ri w2 b l.length av bv (ea ++ x :: eb) hs (by rw [hne]; exact hle1) (by rw [hne]; omega)
    rw [hxe, htd] at h1
    exact h1
  have hins : insAt na x aes = aes ++ [x] := by unfold insAt; rw [← hna]; simp
  have hi2 : ∀ w2, Sep w2 [rBi ab aav abv, rAi aav aes] → Calls Try.prog 47 #[.pointer (some ⟨ab, 0, none⟩), .int .i64 (na : Int), .agg #[.string (kb x.key), x.val]] w2 fun e w' => e = .returned (.tuple #[]) ∧ ∃ av', Trk w2 (feet [rBi ab aav abv, rAi aav aes]) w' [rBi ab av' abv, rAi av' (aes ++ [x])] := fun w2 hs => by
    have h1 := insert_ri w2 ab na aav abv aes x hs hxo (by omega) (by omega)
    rw [hins] at h1
    exact h1
  have HI1 := Lib.hid hi1
  have HI2 := Lib.hid hi2
  have HP1 := Lib.hid hp1
  clear T0 kb0 ka0 kc0 oe ok oaa oca oak ock hp1 hi1 hi2 hs hF e0 e1 hav hbv hnk hne hl hxo hna haav hex hnk2 hne2 hxe htd hins
  unfold ptrV
  go_enter Try.func77, Try.ntmps77
  go_wp2_with fail
  refine wp_region_lit_plan [] [(0, 0), (1, 0), (2, 0), (4, 0), (7, 0), (8, 0), (9, 0), (11, 0), (12, 0), (3, 1), (5, 0), (6, 1), (15, 0), (10, 1), (13, 0), (14, 1), (16, 0)] (fun _ => False) (by kernel_rfl) (by kernel_rfl) (fun c a d v w h => by cases d <;> exact h) ?_
  go_wp2_with (first | (refine plan_pure (v := _) (by rfl) (by rfl) (by rfl) (by intro _; go_simp; with_reducible rfl) ?_; simp only [List.setIfInBounds_toArray, List.set_cons_zero, List.set_cons_succ]; try go_bits) | (refine plan_read (v := _) (by rfl) (by rfl) (by rfl) (by go_simp; with_reducible rfl) ?_; simp only [List.setIfInBounds_toArray, List.set_cons_zero, List.set_cons_succ]; try go_bits) | (refine plan_readB (v := _) (by rfl) (by rfl) (by rfl) (by intro _ hag; unfold Agree at hag; go_simp; with_reducible rfl) ?_; simp only [List.setIfInBounds_toArray, List.set_cons_zero, List.set_cons_succ]; try go_bits) | (refine plan_skip0 (by rfl) (by rfl) (by rfl) ?_; simp only [List.setIfInBounds_toArray, List.set_cons_zero, List.set_cons_succ]; try go_bits) | (refine plan_skip1 (by rfl) (by rfl) (by rfl) ?_; simp only [List.setIfInBounds_toArray, List.set_cons_zero, List.set_cons_succ]; try go_bits) | (refine plan_skip2 (by rfl) (by rfl) (by rfl) ?_; simp only [List.setIfInBounds_toArray, List.set_cons_zero, List.set_cons_succ]; try go_bits) | (refine plan_skip4 (by rfl) (by rfl) (by rfl) ?_; simp only [List.setIfInBounds_toArray, List.set_cons_zero, List.set_cons_succ]; try go_bits) | (refine plan_any (by rfl) ?_) | (refine plan_keep (by rfl) ?_) | (refine plan_nil ?_) | (with_reducible refine And.intro (by first | assumption | exact Agree.refl _ _ | exact agree_drew _ _ | exact agree_alloc _ (by intro k hk; subst hk; first | omega | (simp; omega))) ?_) | (unfold Act.put; simp only [List.setIfInBounds_toArray, List.set_cons_zero, List.set_cons_succ]))
  refine wp_region_lit_plan [] [(0, 0), (1, 0), (2, 0), (3, 0), (4, 0), (5, 0), (6, 0), (9, 0), (10, 0), (11, 0), (12, 0), (7, 2), (8, 0), (13, 3), (14, 4)] (fun q => q = ab) (by kernel_rfl) (by kernel_rfl) (fun c a d v w h => by cases d <;> exact h) ?_
  go_wp2_with (first | (refine plan_pure (v := _) (by rfl) (by rfl) (by rfl) (by intro _; go_simp; with_reducible rfl) ?_; simp only [List.setIfInBounds_toArray, List.set_cons_zero, List.set_cons_succ]; try go_bits) | (refine plan_read (v := _) (by rfl) (by rfl) (by rfl) (by go_simp; with_reducible rfl) ?_; simp only [List.setIfInBounds_toArray, List.set_cons_zero, List.set_cons_succ]; try go_bits) | (refine plan_readB (v := _) (by rfl) (by rfl) (by rfl) (by intro _ hag; unfold Agree at hag; go_simp; with_reducible rfl) ?_; simp only [List.setIfInBounds_toArray, List.set_cons_zero, List.set_cons_succ]; try go_bits) | (refine plan_skip0 (by rfl) (by rfl) (by rfl) ?_; simp only [List.setIfInBounds_toArray, List.set_cons_zero, List.set_cons_succ]; try go_bits) | (refine plan_skip1 (by rfl) (by rfl) (by rfl) ?_; simp only [List.setIfInBounds_toArray, List.set_cons_zero, List.set_cons_succ]; try go_bits) | (refine plan_skip2 (by rfl) (by rfl) (by rfl) ?_; simp only [List.setIfInBounds_toArray, List.set_cons_zero, List.set_cons_succ]; try go_bits) | (refine plan_skip4 (by rfl) (by rfl) (by rfl) ?_; simp only [List.setIfInBounds_toArray, List.set_cons_zero, List.set_cons_succ]; try go_bits) | (refine plan_any (by rfl) ?_) | (refine plan_keep (by rfl) ?_) | (refine plan_nil ?_) | (with_reducible refine And.intro (by first | assumption | exact Agree.refl _ _ | exact agree_drew _ _ | exact agree_alloc _ (by intro k hk; subst hk; first | omega | (simp; omega))) ?_) | (unfold Act.put; simp only [List.setIfInBounds_toArray, List.set_cons_zero, List.set_cons_succ]))
  refine (HI1.out _ (HT0.out.drew.drew.sepOf HP1.out)).mono ?_
  clear x0 x1 y0 y1 z0 z1 v0 v1 q0 q1
  rintro e w1 ⟨rfl, av2, hT⟩
  have T1 := HT0.out.drew.drew.use HP1.out hT
  have T1 : Trk w F w1 (rBi b av2 bv :: rAi av2 (ea ++ eb) :: rKi bv (l ++ .node ab aav aes abv aks :: .node cb cav ces cbv cks :: r) :: rBi ab aav abv :: rAi aav aes :: rKi abv aks :: rBi cb cav cbv :: rAi cav ces :: rKi cbv cks :: (presLi aks ++ (presLi cks ++ (presLi l ++ presLi r)))) := T1.perm (perm_of_cnt fun a => by simp only [cnt_append, cnt_cons, cnt_nil, presi, presLi, rBi, rAi, rKi, P.resL_append, P.resL_cons, P.resL_nil, P.res_node] <;> omega)
  have hag := agree_blk HKA.out.drew.drew (T1.blk (b := ab) (t := 66) (cs := [aav, abv]) (by simp only [List.mem_cons, true_or, or_true]))
  have hp2 : (rBi b av2 bv :: rAi av2 (ea ++ eb) :: rKi bv (l ++ .node ab aav aes abv aks :: .node cb cav ces cbv cks :: r) :: rBi ab aav abv :: rAi aav aes :: rKi abv aks :: rBi cb cav cbv :: rAi cav ces :: rKi cbv cks :: (presLi aks ++ (presLi cks ++ (presLi l ++ presLi r)))).Perm ([rBi ab aav abv, rAi aav aes] ++ (rBi b av2 bv :: rAi av2 (ea ++ eb) :: rKi bv (l ++ .node ab aav aes abv aks :: .node cb cav ces cbv cks :: r) :: rKi abv aks :: rBi cb cav cbv :: rAi cav ces :: rKi cbv cks :: (presLi aks ++ (presLi cks ++ (presLi l ++ presLi r))))) := perm_of_cnt fun a => by simp only [cnt_append, cnt_cons, cnt_nil, presi, presLi, rBi, rAi, rKi, P.resL_append, P.resL_cons, P.resL_nil, P.res_node] <;> omega
  have HT1 := Lib.hid T1
  have HP2 := Lib.hid hp2
  clear hT T1 hp2 HI1 HP1
  go_wp2_with (first | (refine plan_pure (v := _) (by rfl) (by rfl) (by rfl) (by intro _; go_simp; with_reducible rfl) ?_; simp only [List.setIfInBounds_toArray, List.set_cons_zero, List.set_cons_succ]; try go_bits) | (refine plan_read (v := _) (by rfl) (by rfl) (by rfl) (by go_simp; with_reducible rfl) ?_; simp only [List.setIfInBounds_toArray, List.set_cons_zero, List.set_cons_succ]; try go_bits) | (refine plan_readB (v := _) (by rfl) (by rfl) (by rfl) (by intro _ hag; unfold Agree at hag; go_simp; with_reducible rfl) ?_; simp only [List.setIfInBounds_toArray, List.set_cons_zero, List.set_cons_succ]; try go_bits) | (refine plan_skip0 (by rfl) (by rfl) (by rfl) ?_; simp only [List.setIfInBounds_toArray, List.set_cons_zero, List.set_cons_succ]; try go_bits) | (refine plan_skip1 (by rfl) (by rfl) (by rfl) ?_; simp only [List.setIfInBounds_toArray, List.set_cons_zero, List.set_cons_succ]; try go_bits) | (refine plan_skip2 (by rfl) (by rfl) (by rfl) ?_; simp only [List.setIfInBounds_toArray, List.set_cons_zero, List.set_cons_succ]; try go_bits) | (refine plan_skip4 (by rfl) (by rfl) (by rfl) ?_; simp only [List.setIfInBounds_toArray, List.set_cons_zero, List.set_cons_succ]; try go_bits) | (refine plan_any (by rfl) ?_) | (refine plan_keep (by rfl) ?_) | (refine plan_nil ?_) | (with_reducible refine And.intro (by first | assumption | exact Agree.refl _ _ | exact agree_drew _ _ | exact agree_alloc _ (by intro k hk; subst hk; first | omega | (simp; omega))) ?_) | (unfold Act.put; simp only [List.setIfInBounds_toArray, List.set_cons_zero, List.set_cons_succ]))
  refine (HI2.out _ (HT1.out.sepOf HP2.out)).mono ?_
  rintro e w2 ⟨rfl, aav2, hT⟩
  have T2 := HT1.out.use HP2.out hT
  have T2 : Trk w F w2 (rAi aav2 (aes ++ [x]) :: rBi ab aav2 abv :: rBi b av2 bv :: rAi av2 (ea ++ eb) :: rKi bv (l ++ .node ab aav aes abv aks :: .node cb cav ces cbv cks :: r) :: rKi abv aks :: rBi cb cav cbv :: rAi cav ces :: rKi cbv cks :: (presLi aks ++ (presLi cks ++ (presLi l ++ presLi r)))) := T2.perm (perm_of_cnt fun a => by simp only [cnt_append, cnt_cons, cnt_nil, presi, presLi, rBi, rAi, rKi, P.resL_append, P.resL_cons, P.resL_nil, P.res_node] <;> omega)
  have ka2 : Blk w2 ab 66 [aav2, abv] := T2.blk (by simp only [List.mem_cons, true_or, or_true])
  have kc2 : Blk w2 cb 66 [cav, cbv] := T2.blk (by simp only [List.mem_cons, true_or, or_true])
  have oa2 : Own w2 87 2 aav2 (aes ++ [x]).length (enC (aes ++ [x])) := T2.own (by simp only [List.mem_cons, true_or, or_true])
  have oc2 : Own w2 87 2 cav ces.length (enC ces) := T2.own (by simp only [List.mem_cons, true_or, or_true])
  obtain ⟨pa2, ca2, haav2, _, _⟩ := own_form_Ei oa2
  obtain ⟨pc2, cc2, hcav, _, _⟩ := own_form_Ei oc2
  obtain ⟨na2, hna2⟩ : ∃ na2, (aes ++ [x]).length = na2 := ⟨_, rfl⟩
  obtain ⟨nc, hnc⟩ : ∃ nc, ces.length = nc := ⟨_, rfl⟩
  have hna5 : na2 ≤ 1000001 := by rw [← hna2, List.length_append, HNA.out]; simp; omega
  have hnc5 : nc ≤ 1000000 := by omega
  obtain ⟨y0, y1⟩ := pg_cells ka2
  obtain ⟨z0, z1⟩ := pg_cells kc2
  rw [haav2, hna2] at y0
  rw [hcav, hnc] at z0
  have hsc := (oc2.sl (B := fun _ => True) (fun _ _ => trivial)).drew
  have hoa := oa2.drew
  rw [hcav, hnc] at hsc
  rw [haav2, hna2] at hoa
  have HAFT : Hid (∀ w', Only (fun k => (Value.slice pa2 na2 ca2).ownBlock = some k) w2.drew w' → Blk w' ab 66 [aav2, abv]) := fun w' ho => by
    rw [← hna2, ← haav2] at ho
    exact T2.drew.keepBlk ho
  have HT2 := Lib.hid T2
  have HAAV2 := Lib.hid haav2
  have HNA2 := Lib.hid hna2
  have HNC := Lib.hid hnc
  clear hT T2 ka2 kc2 oa2 oc2 haav2 hcav hna2 hnc HI2 HT1 HP2 hag
  go_wp2_with (first | (refine plan_nil ?_))
  refine wp_region_lit_plan [] [(0, 0), (1, 0), (2, 0), (3, 0), (4, 0), (6, 0), (7, 0), (8, 0), (9, 0), (5, 1), (10, 1), (11, 4), (12, 0), (13, 0), (14, 0), (15, 4)] (fun _ => False) (by kernel_rfl) (by kernel_rfl) (fun c a d v w h => by cases d <;> exact h) ?_
  go_upto_region 3 with (first
    | (at_builtin; refine wpList_app rfl _ _ rfl elemEi (by rfl) hoa (by rfl) hsc (by unfold maxLen; omega) (by omega) ?_; clear hoa hsc; intro aav3 w3 ho4 hon4 hf4 _ _; have ka4 := HAFT.out w3 hon4; have HO4 := Lib.hid ho4; have HON4 := Lib.hid hon4; have HF4 := Lib.hid hf4; obtain ⟨p4, c4, hv4, _, _⟩ := own_form_Ei ho4; obtain ⟨u0, u1⟩ := pg_cells ka4; have hfu := ka4.frozen 0; rw [HAAV2.out, HNA2.out] at u0; subst hv4; clear ho4 hon4 hf4 ka4)
    | (refine plan_pure (v := _) (by rfl) (by rfl) (by rfl) (by intro _; go_simp; with_reducible rfl) ?_; simp only [List.setIfInBounds_toArray, List.set_cons_zero, List.set_cons_succ]; try go_bits) | (refine plan_read (v := _) (by rfl) (by rfl) (by rfl) (by go_simp; with_reducible rfl) ?_; simp only [List.setIfInBounds_toArray, List.set_cons_zero, List.set_cons_succ]; try go_bits) | (refine plan_readB (v := _) (by rfl) (by rfl) (by rfl) (by intro _ hag; unfold Agree at hag; go_simp; with_reducible rfl) ?_; simp only [List.setIfInBounds_toArray, List.set_cons_zero, List.set_cons_succ]; try go_bits) | (refine plan_skip0 (by rfl) (by rfl) (by rfl) ?_; simp only [List.setIfInBounds_toArray, List.set_cons_zero, List.set_cons_succ]; try go_bits) | (refine plan_skip1 (by rfl) (by rfl) (by rfl) ?_; simp only [List.setIfInBounds_toArray, List.set_cons_zero, List.set_cons_succ]; try go_bits) | (refine plan_skip2 (by rfl) (by rfl) (by rfl) ?_; simp only [List.setIfInBounds_toArray, List.set_cons_zero, List.set_cons_succ]; try go_bits) | (refine plan_skip4 (by rfl) (by rfl) (by rfl) ?_; simp only [List.setIfInBounds_toArray, List.set_cons_zero, List.set_cons_succ]; try go_bits) | (refine plan_any (by rfl) ?_) | (refine plan_keep (by rfl) ?_) | (refine plan_nil ?_) | (with_reducible refine And.intro (by first | assumption | exact Agree.refl _ _ | exact agree_drew _ _ | exact agree_alloc _ (by intro k hk; subst hk; first | omega | (simp; omega))) ?_) | (unfold Act.put; simp only [List.setIfInBounds_toArray, List.set_cons_zero, List.set_cons_succ]))
  obtain ⟨aav3, haav3⟩ : ∃ aav3, aav3 = Value.slice p4 (na2 + nc) c4 := ⟨_, rfl⟩
  have hal3 : (aes ++ x :: ces).length = na2 + nc := by rw [← HNA2.out, ← HNC.out]; simp; omega
  have hap3 : enC (aes ++ x :: ces) = enC (aes ++ [x]) ++ enC ces := by rw [← enC_append]; simp
  have hAV : aav2 = Value.slice pa2 na2 ca2 := by rw [HAAV2.out, HNA2.out]
  have T3 : Trk w F w3 (rAi aav3 (aes ++ x :: ces) :: rBi ab aav2 abv :: rBi b av2 bv :: rAi av2 (ea ++ eb) :: rKi bv (l ++ .node ab aav aes abv aks :: .node cb cav ces cbv cks :: r) :: rKi abv aks :: rBi cb cav cbv :: rAi cav ces :: rKi cbv cks :: (presLi aks ++ (presLi cks ++ (presLi l ++ presLi r)))) := HT2.out.drew.ownTo (e := 87) (sz := 2) (by rw [hal3, hap3, haav3]; exact HO4.out) (hAV ▸ HON4.out) (fun k hk => by
      rw [haav3] at hk
      rcases HF4.out with h | h
      · left; rw [hAV, ← h]; exact hk
      · right
        have h2 := h.symm.trans hk
        have h3 := Option.some.inj h2
        exact Nat.le_of_eq h3)
  have T3 : Trk w F w3 (rBi ab aav2 abv :: rAi aav3 (aes ++ x :: ces) :: rBi b av2 bv :: rAi av2 (ea ++ eb) :: rKi bv (l ++ .node ab aav aes abv aks :: .node cb cav ces cbv cks :: r) :: rKi abv aks :: rBi cb cav cbv :: rAi cav ces :: rKi cbv cks :: (presLi aks ++ (presLi cks ++ (presLi l ++ presLi r)))) := T3.perm (perm_of_cnt fun a => by simp only [cnt_append, cnt_cons, cnt_nil, presi, presLi, rBi, rAi, rKi, P.resL_append, P.resL_cons, P.resL_nil, P.res_node] <;> omega)
  have T4 := T3.blkSet 0 (.slice p4 (na2 + nc) c4)
  generalize w3.setCell ⟨ab, 0, none⟩ (.slice p4 (na2 + nc) c4) = w4 at *
  rw [← haav3] at T4
  have T4 : Trk w F w4 (rKi abv aks :: rBi ab aav3 abv :: rAi aav3 (aes ++ x :: ces) :: rBi b av2 bv :: rAi av2 (ea ++ eb) :: rKi bv (l ++ .node ab aav aes abv aks :: .node cb cav ces cbv cks :: r) :: rBi cb cav cbv :: rAi cav ces :: rKi cbv cks :: (presLi aks ++ (presLi cks ++ (presLi l ++ presLi r)))) := T4.perm (perm_of_cnt fun a => by simp only [cnt_append, cnt_cons, cnt_nil, presi, presLi, rBi, rAi, rKi, P.resL_append, P.resL_cons, P.resL_nil, P.res_node, List.set_cons_zero, List.set_cons_succ] <;> omega)
  clear T3 u0 u1 hfu HAFT y0 y1 z0 z1 hal3 hap3 hAV haav3
  have ka4 : Blk w4 ab 66 [aav3, abv] := T4.blk (by simp only [List.mem_cons, true_or, or_true])
  have kc4 : Blk w4 cb 66 [cav, cbv] := T4.blk (by simp only [List.mem_cons, true_or, or_true])
  have oa4 : Own w4 60 1 abv aks.length (ptrs aks) := T4.own (by simp only [List.mem_cons, true_or, or_true])
  have oc4 : Own w4 60 1 cbv cks.length (ptrs cks) := T4.own (by simp only [List.mem_cons, true_or, or_true])
  obtain ⟨pak, cak, habv, _, _⟩ := own_form_Pi oa4
  obtain ⟨pck, cck, hcbv, _, _⟩ := own_form_Pi oc4
  obtain ⟨nak, hnak⟩ : ∃ nak, aks.length = nak := ⟨_, rfl⟩
  obtain ⟨nck, hnck⟩ : ∃ nck, cks.length = nck := ⟨_, rfl⟩
  have hnak5 : nak ≤ 1000000 := by omega
  have hnck5 : nck ≤ 1000000 := by omega
  obtain ⟨y0, y1⟩ := pg_cells ka4
  obtain ⟨z0, z1⟩ := pg_cells kc4
  rw [habv, hnak] at y1
  rw [hcbv, hnck] at z1
  have hsc := (oc4.sl (B := fun _ => True) (fun _ _ => trivial)).drew
  have hoa := oa4.drew
  rw [hcbv, hnck] at hsc
  rw [habv, hnak] at hoa
  have HAFT : Hid (∀ w', Only (fun k => (Value.slice pak nak cak).ownBlock = some k) w4.drew w' → Blk w' ab 66 [aav3, abv]) := fun w' ho => by
    rw [← hnak, ← habv] at ho
    exact T4.drew.keepBlk ho
  have HT4 := Lib.hid T4
  have HABV := Lib.hid habv
  have HNAK := Lib.hid hnak
  have HNCK := Lib.hid hnck
  clear T4 ka4 kc4 oa4 oc4 habv hcbv hnak hnck
  refine wp_region_lit_plan [] [(0, 0), (1, 0), (2, 0), (3, 0), (5, 0), (6, 0), (7, 0), (4, 1), (8, 1), (9, 4), (10, 0), (11, 0), (12, 4)] (fun _ => False) (by kernel_rfl) (by kernel_rfl) (fun c a d v w h => by cases d <;> exact h) ?_
  go_upto_region 4 with (first
    | (at_builtin; refine wpList_app rfl _ _ rfl elemPi (by rfl) hoa (by rfl) hsc (by unfold maxLen; omega) (by omega) ?_; clear hoa hsc; intro abv2 w5 ho4 hon4 hf4 _ _; have ka4 := HAFT.out w5 hon4; have HO5 := Lib.hid ho4; have HON5 := Lib.hid hon4; have HF5 := Lib.hid hf4; obtain ⟨p5, c5, hv4, _, _⟩ := own_form_Pi ho4; obtain ⟨u0, u1⟩ := pg_cells ka4; have hfu := ka4.frozen 1; rw [HABV.out, HNAK.out] at u1; subst hv4; clear ho4 hon4 hf4 ka4)
    | (refine plan_pure (v := _) (by rfl) (by rfl) (by rfl) (by intro _; go_simp; with_reducible rfl) ?_; simp only [List.setIfInBounds_toArray, List.set_cons_zero, List.set_cons_succ]; try go_bits) | (refine plan_read (v := _) (by rfl) (by rfl) (by rfl) (by go_simp; with_reducible rfl) ?_; simp only [List.setIfInBounds_toArray, List.set_cons_zero, List.set_cons_succ]; try go_bits) | (refine plan_readB (v := _) (by rfl) (by rfl) (by rfl) (by intro _ hag; unfold Agree at hag; go_simp; with_reducible rfl) ?_; simp only [List.setIfInBounds_toArray, List.set_cons_zero, List.set_cons_succ]; try go_bits) | (refine plan_skip0 (by rfl) (by rfl) (by rfl) ?_; simp only [List.setIfInBounds_toArray, List.set_cons_zero, List.set_cons_succ]; try go_bits) | (refine plan_skip1 (by rfl) (by rfl) (by rfl) ?_; simp only [List.setIfInBounds_toArray, List.set_cons_zero, List.set_cons_succ]; try go_bits) | (refine plan_skip2 (by rfl) (by rfl) (by rfl) ?_; simp only [List.setIfInBounds_toArray, List.set_cons_zero, List.set_cons_succ]; try go_bits) | (refine plan_skip4 (by rfl) (by rfl) (by rfl) ?_; simp only [List.setIfInBounds_toArray, List.set_cons_zero, List.set_cons_succ]; try go_bits) | (refine plan_any (by rfl) ?_) | (refine plan_keep (by rfl) ?_) | (refine plan_nil ?_) | (with_reducible refine And.intro (by first | assumption | exact Agree.refl _ _ | exact agree_drew _ _ | exact agree_alloc _ (by intro k hk; subst hk; first | omega | (simp; omega))) ?_) | (unfold Act.put; simp only [List.setIfInBounds_toArray, List.set_cons_zero, List.set_cons_succ]))
  obtain ⟨abv2, habv2⟩ : ∃ abv2, abv2 = Value.slice p5 (nak + nck) c5 := ⟨_, rfl⟩
  have hal3 : (aks ++ cks).length = nak + nck := by rw [← HNAK.out, ← HNCK.out]; simp
  have hap3 : ptrs (aks ++ cks) = ptrs aks ++ ptrs cks := ptrs_append _ _
  have hAV : abv = Value.slice pak nak cak := by rw [HABV.out, HNAK.out]
  have T5 : Trk w F w5 (rKi abv2 (aks ++ cks) :: rBi ab aav3 abv :: rAi aav3 (aes ++ x :: ces) :: rBi b av2 bv :: rAi av2 (ea ++ eb) :: rKi bv (l ++ .node ab aav aes abv aks :: .node cb cav ces cbv cks :: r) :: rBi cb cav cbv :: rAi cav ces :: rKi cbv cks :: (presLi aks ++ (presLi cks ++ (presLi l ++ presLi r)))) := HT4.out.drew.ownTo (e := 60) (sz := 1) (by rw [hal3, hap3, habv2]; exact HO5.out) (hAV ▸ HON5.out) (fun k hk => by
      rw [habv2] at hk
      rcases HF5.out with h | h
      · left; rw [hAV, ← h]; exact hk
      · right
        have h2 := h.symm.trans hk
        have h3 := Option.some.inj h2
        exact Nat.le_of_eq h3)
  have T5 : Trk w F w5 (rBi ab aav3 abv :: rKi abv2 (aks ++ cks) :: rAi aav3 (aes ++ x :: ces) :: rBi b av2 bv :: rAi av2 (ea ++ eb) :: rKi bv (l ++ .node ab aav aes abv aks :: .node cb cav ces cbv cks :: r) :: rBi cb cav cbv :: rAi cav ces :: rKi cbv cks :: (presLi aks ++ (presLi cks ++ (presLi l ++ presLi r)))) := T5.perm (perm_of_cnt fun a => by simp only [cnt_append, cnt_cons, cnt_nil, presi, presLi, rBi, rAi, rKi, P.resL_append, P.resL_cons, P.resL_nil, P.res_node] <;> omega)
  have T6 := T5.blkSet 1 (.slice p5 (nak + nck) c5)
  generalize w5.setCell ⟨ab, 1, none⟩ (.slice p5 (nak + nck) c5) = w6 at *
  rw [← habv2] at T6
  have T6 : Trk w F w6 (rKi bv (l ++ .node ab aav aes abv aks :: .node cb cav ces cbv cks :: r) :: rBi ab aav3 abv2 :: rKi abv2 (aks ++ cks) :: rAi aav3 (aes ++ x :: ces) :: rBi b av2 bv :: rAi av2 (ea ++ eb) :: rBi cb cav cbv :: rAi cav ces :: rKi cbv cks :: (presLi aks ++ (presLi cks ++ (presLi l ++ presLi r)))) := T6.perm (perm_of_cnt fun a => by simp only [cnt_append, cnt_cons, cnt_nil, presi, presLi, rBi, rAi, rKi, P.resL_append, P.resL_cons, P.resL_nil, P.res_node, List.set_cons_zero, List.set_cons_succ] <;> omega)
  have kb6 : Blk w6 b 66 [av2, bv] := T6.blk (by simp only [List.mem_cons, true_or, or_true])
  have ok6 : Own w6 60 1 bv (l ++ .node ab aav aes abv aks :: .node cb cav ces cbv cks :: r).length (ptrs (l ++ .node ab aav aes abv aks :: .node cb cav ces cbv cks :: r)) := T6.own (by simp only [List.mem_cons, true_or, or_true])
  obtain ⟨x0, x1⟩ := pg_cells kb6
  rw [HBV.out] at x1 ok6
  rw [HNK.out] at ok6
  have hdel := delete_Pi w6 gk offk capk nk (l.length + 1) (ptrs (l ++ .node ab aav aes abv aks :: .node cb cav ces cbv cks :: r)) ok6 (by omega) hlk2
  have hc1 : ((l.length + 1 : Nat) : Int) = (l.length : Int) + 1 := by omega
  have hc2 : (l.length : Int) + 1 + 1 = (l.length : Int) + 2 := by omega
  rw [hc1, hc2] at hdel
  have HDEL := Lib.hid hdel
  have HT6 := Lib.hid T6
  clear T5 T6 kb6 ok6 hdel hal3 hap3 hAV habv2 u0 u1 hfu HAFT y0 y1 z0 z1 hc1 hc2
  go_wp2_with fail
  refine HDEL.out.mono ?_
  rintro e w7 ⟨rfl, ho7, hon7, hs7⟩
  have hpl : (l ++ .node ab aav3 (aes ++ x :: ces) abv2 (aks ++ cks) :: r).length = nk - 1 := by rw [← HNK.out]; simp <;> omega
  have hpp : (ptrs (l ++ .node ab aav aes abv aks :: .node cb cav ces cbv cks :: r)).take ((l.length + 1) * 1) ++ (ptrs (l ++ .node ab aav aes abv aks :: .node cb cav ces cbv cks :: r)).drop ((l.length + 1 + 1) * 1) = ptrs (l ++ .node ab aav3 (aes ++ x :: ces) abv2 (aks ++ cks) :: r) := by
    have e : (l ++ .node ab aav3 (aes ++ x :: ces) abv2 (aks ++ cks) :: r : List P) = l ++ .node ab aav3 (aes ++ x :: ces) abv2 (aks ++ cks) :: r := rfl
    rw [ptrs_del]
    have e1 : (l ++ .node ab aav aes abv aks :: .node cb cav ces cbv cks :: r).take (l.length + 1) = l ++ [.node ab aav aes abv aks] := by
      rw [List.take_append, List.take_of_length_le (by omega)]
      have : l.length + 1 - l.length = 1 := by omega
      rw [this]; rfl
    have e2 : (l ++ .node ab aav aes abv aks :: .node cb cav ces cbv cks :: r).drop (l.length + 1 + 1) = r := by
      rw [List.drop_append, List.drop_eq_nil_of_le (by omega)]
      have : l.length + 1 + 1 - l.length = 2 := by omega
      rw [this]; rfl
    rw [e1, e2]
    simp [ptrs, P.blk]
  rw [hpp] at ho7
  have ho7' : Own w7 60 1 (.slice (some ⟨gk, offk, none⟩) (nk - 1) capk) (l ++ .node ab aav3 (aes ++ x :: ces) abv2 (aks ++ cks) :: r).length (ptrs (l ++ .node ab aav3 (aes ++ x :: ces) abv2 (aks ++ cks) :: r)) := by rw [hpl]; exact ho7
  have T7 : Trk w F w7 (rKi (.slice (some ⟨gk, offk, none⟩) (nk - 1) capk) (l ++ .node ab aav3 (aes ++ x :: ces) abv2 (aks ++ cks) :: r) :: rBi ab aav3 abv2 :: rKi abv2 (aks ++ cks) :: rAi aav3 (aes ++ x :: ces) :: rBi b av2 bv :: rAi av2 (ea ++ eb) :: rBi cb cav cbv :: rAi cav ces :: rKi cbv cks :: (presLi aks ++ (presLi cks ++ (presLi l ++ presLi r)))) := HT6.out.ownTo (e := 60) (sz := 1) ho7' (by rw [HBV.out]; exact hon7.mono fun i _ h => by rw [h]; rfl) (fun k hk => by left; rw [HBV.out]; exact hk)
  have T8 : Trk w F w7 (rBi b av2 bv :: rKi (.slice (some ⟨gk, offk, none⟩) (nk - 1) capk) (l ++ .node ab aav3 (aes ++ x :: ces) abv2 (aks ++ cks) :: r) :: rBi ab aav3 abv2 :: rKi abv2 (aks ++ cks) :: rAi aav3 (aes ++ x :: ces) :: rAi av2 (ea ++ eb) :: rBi cb cav cbv :: rAi cav ces :: rKi cbv cks :: (presLi aks ++ (presLi cks ++ (presLi l ++ presLi r)))) := T7.perm (perm_of_cnt fun a => by simp only [cnt_append, cnt_cons, cnt_nil, presi, presLi, rBi, rAi, rKi, P.resL_append, P.resL_cons, P.resL_nil, P.res_node] <;> omega)
  have kb7 : Blk w7 b 66 [av2, bv] := T8.blk (by simp only [List.mem_cons, true_or, or_true])
  obtain ⟨x0, x1⟩ := pg_cells kb7
  have hfz := kb7.frozen 1
  rw [HBV.out] at x1
  have HT8 := Lib.hid T8
  clear T7 T8 kb7 ho7 ho7' hon7 hs7 hpl hpp HDEL
  go_wp2_with fail
  go_end0
  have T9 : Trk w F (w7.setCell ⟨b, 1, none⟩ (.slice (some ⟨gk, offk, none⟩) (nk - 1) capk)) (rBi b av2 (.slice (some ⟨gk, offk, none⟩) (nk - 1) capk) :: rKi (.slice (some ⟨gk, offk, none⟩) (nk - 1) capk) (l ++ .node ab aav3 (aes ++ x :: ces) abv2 (aks ++ cks) :: r) :: rBi ab aav3 abv2 :: rKi abv2 (aks ++ cks) :: rAi aav3 (aes ++ x :: ces) :: rAi av2 (ea ++ eb) :: rBi cb cav cbv :: rAi cav ces :: rKi cbv cks :: (presLi aks ++ (presLi cks ++ (presLi l ++ presLi r)))) := HT8.out.blkSet 1 (.slice (some ⟨gk, offk, none⟩) (nk - 1) capk)
  refine ⟨rfl, .node b av2 (ea ++ eb) (.slice (some ⟨gk, offk, none⟩) (nk - 1) capk) (l ++ .node ab aav3 (aes ++ x :: ces) abv2 (aks ++ cks) :: r), rfl, by simp [P.t_node], ?_⟩
  have hdrop : (rBi b av2 (.slice (some ⟨gk, offk, none⟩) (nk - 1) capk) :: rKi (.slice (some ⟨gk, offk, none⟩) (nk - 1) capk) (l ++ .node ab aav3 (aes ++ x :: ces) abv2 (aks ++ cks) :: r) :: rBi ab aav3 abv2 :: rKi abv2 (aks ++ cks) :: rAi aav3 (aes ++ x :: ces) :: rAi av2 (ea ++ eb) :: rBi cb cav cbv :: rAi cav ces :: rKi cbv cks :: (presLi aks ++ (presLi cks ++ (presLi l ++ presLi r)))).Perm ([rBi cb cav cbv, rAi cav ces, rKi cbv cks] ++ presi (.node b av2 (ea ++ eb) (.slice (some ⟨gk, offk, none⟩) (nk - 1) capk) (l ++ .node ab aav3 (aes ++ x :: ces) abv2 (aks ++ cks) :: r))) := perm_of_cnt fun a => by simp only [cnt_append, cnt_cons, cnt_nil, presi, presLi, rBi, rAi, rKi, P.resL_append, P.resL_cons, P.resL_nil, P.res_node] <;> omega
  exact (T9.perm hdrop).right

end Go.Proofs.Ytfnndifckgjmjaa
/- Plain: pages mended stay fat; what they list stays. -/
namespace Go.Afx
open Go Go.RowKit

theorem Fat.kids {m d : Nat} {es : List En} {ts : List T} (h : Fat m d (.node es ts)) : (d = 0 → ts = []) ∧ (0 < d → ts.length = es.length + 1 ∧ ∀ c ∈ ts, Fat 2 (d - 1) c) ∧ m ≤ es.length := by
  cases d with
  | zero => exact ⟨fun _ => h.2, fun h => by omega, h.1⟩
  | succ d => exact ⟨fun h => by omega, fun _ => ⟨h.2.1, h.2.2⟩, h.1⟩
theorem Fat.mk {m d : Nat} {es : List En} {ts : List T} (hm : m ≤ es.length) (h0 : d = 0 → ts = []) (h1 : 0 < d → ts.length = es.length + 1 ∧ ∀ c ∈ ts, Fat 2 (d - 1) c) : Fat m d (.node es ts) := by
  cases d with
  | zero => exact ⟨hm, h0 rfl⟩
  | succ d => exact ⟨hm, (h1 (by omega)).1, (h1 (by omega)).2⟩
theorem right_good {d : Nat} {aes ces ae : List En} {x y : En} {at_ ct ak tk : List T} (hae : aes = ae ++ [y]) (hat : at_ = ak ++ tk) (htk : tk.length ≤ 1) (hleaf : tk = [] → ak = []) (ha : Fat 3 d (.node aes at_)) (hc : Fat 1 d (.node ces ct)) :
    Fat 2 d (.node ae ak) ∧ Fat 2 d (.node (x :: ces) (tk ++ ct)) ∧ (T.node ae ak).flat ++ y :: (T.node (x :: ces) (tk ++ ct)).flat = (T.node aes at_).flat ++ x :: (T.node ces ct).flat := by
  subst hae
  subst hat
  obtain ⟨a0, a1, a2⟩ := ha.kids
  obtain ⟨c0, c1, c2⟩ := hc.kids
  have hl : (ae ++ [y]).length = ae.length + 1 := by simp
  rcases tk with _ | ⟨t, tk⟩
  · have := hleaf rfl
    subst this
    rcases Nat.eq_zero_or_pos d with rfl | hd
    · have := c0 rfl
      subst this
      exact ⟨Fat.mk (by omega) (fun _ => rfl) (fun h => by omega), Fat.mk (by simp; omega) (fun _ => rfl) (fun h => by omega), by simp [flat_leaf]⟩
    · have := (a1 hd).1; simp at this
  · have : tk = [] := by cases tk with
      | nil => rfl
      | cons a b => simp at htk
    subst this
    rcases Nat.eq_zero_or_pos d with rfl | hd
    · have := a0 rfl; simp at this
    · obtain ⟨a3, a4⟩ := a1 hd
      obtain ⟨c3, c4⟩ := c1 hd
      have h1 : ak.length = ae.length + 1 := by simp at a3; omega
      refine ⟨Fat.mk (by omega) (fun h => by omega) (fun _ => ⟨h1, fun q hq => a4 q (by simp [hq])⟩), Fat.mk (by simp; omega) (fun h => by omega) (fun _ => ⟨by simp; omega, fun q hq => ?_⟩), ?_⟩
      · rcases List.mem_append.1 hq with hq | hq
        · exact a4 q (List.mem_append_right _ hq)
        · exact c4 q hq
      · rw [flat_node, flat_node, flat_node, flat_node, flatL_snoc ae ak y t h1, List.cons_append, flatL_cons]
        simp
theorem left_good {d : Nat} {aes ces ce : List En} {x y : En} {at_ ct ck tk : List T} (hce : ces = y :: ce) (hct : ct = tk ++ ck) (htk : tk.length ≤ 1) (hleaf : tk = [] → ck = [] ∧ at_ = []) (ha : Fat 1 d (.node aes at_)) (hc : Fat 3 d (.node ces ct)) :
    Fat 2 d (.node (aes ++ [x]) (at_ ++ tk)) ∧ Fat 2 d (.node ce ck) ∧ (T.node (aes ++ [x]) (at_ ++ tk)).flat ++ y :: (T.node ce ck).flat = (T.node aes at_).flat ++ x :: (T.node ces ct).flat := by
  subst hce
  subst hct
  obtain ⟨a0, a1, a2⟩ := ha.kids
  obtain ⟨c0, c1, c2⟩ := hc.kids
  have hl : (y :: ce).length = ce.length + 1 := by simp
  rcases tk with _ | ⟨t, tk⟩
  · obtain ⟨h1, h2⟩ := hleaf rfl
    subst h1
    subst h2
    rcases Nat.eq_zero_or_pos d with rfl | hd
    · exact ⟨Fat.mk (by simp; omega) (fun _ => rfl) (fun h => by omega), Fat.mk (by omega) (fun _ => rfl) (fun h => by omega), by simp [flat_leaf]⟩
    · have := (a1 hd).1; simp at this
  · have : tk = [] := by cases tk with
      | nil => rfl
      | cons a b => simp at htk
    subst this
    rcases Nat.eq_zero_or_pos d with rfl | hd
    · have := c0 rfl; simp at this
    · obtain ⟨a3, a4⟩ := a1 hd
      obtain ⟨c3, c4⟩ := c1 hd
      have h1 : ck.length = ce.length + 1 := by simp at c3; omega
      refine ⟨Fat.mk (by simp; omega) (fun h => by omega) (fun _ => ⟨by simp; omega, fun q hq => ?_⟩), Fat.mk (by omega) (fun h => by omega) (fun _ => ⟨h1, fun q hq => c4 q (by simp [hq])⟩), ?_⟩
      · rcases List.mem_append.1 hq with hq | hq
        · exact a4 q hq
        · exact c4 q (List.mem_append_left _ hq)
      · rw [flat_node, flatL_snoc aes at_ x t a3, flat_node, flat_node, flat_node, List.singleton_append, flatL_cons]
        simp
theorem two_good {d : Nat} {ea eb : List En} {x y : En} {l r : List T} {a c a' c' : T} (h : ea.length = l.length) (hk : (l ++ a :: c :: r).length = (ea ++ x :: eb).length + 1) (ha : Fat 2 d a') (hc : Fat 2 d c') (hF : ∀ q ∈ l ++ r, Fat 2 d q) (hfl : a'.flat ++ y :: c'.flat = a.flat ++ x :: c.flat) :
    Fat ((ea ++ x :: eb).length - 1) (d + 1) (.node (ea ++ y :: eb) (l ++ a' :: c' :: r)) ∧ (T.node (ea ++ y :: eb) (l ++ a' :: c' :: r)).flat = (T.node (ea ++ x :: eb) (l ++ a :: c :: r)).flat := by
  refine ⟨⟨by simp, by simp at hk ⊢; omega, fun q hq => ?_⟩, flat_same h hfl⟩
  rcases List.mem_append.1 hq with hq | hq
  · exact hF q (List.mem_append_left _ hq)
  · rcases List.mem_cons.1 hq with rfl | hq
    · exact ha
    · rcases List.mem_cons.1 hq with rfl | hq
      · exact hc
      · exact hF q (List.mem_append_right _ hq)
theorem one_good {d : Nat} {ea eb : List En} {x : En} {l r : List T} {a c t : T} (h : ea.length = l.length) (hk : (l ++ a :: c :: r).length = (ea ++ x :: eb).length + 1) (ht : Fat 2 d t) (hF : ∀ q ∈ l ++ r, Fat 2 d q) (hfl : t.flat = a.flat ++ x :: c.flat) :
    Fat ((ea ++ x :: eb).length - 1) (d + 1) (.node (ea ++ eb) (l ++ t :: r)) ∧ (T.node (ea ++ eb) (l ++ t :: r)).flat = (T.node (ea ++ x :: eb) (l ++ a :: c :: r)).flat := by
  refine ⟨⟨by simp <;> omega, by simp at hk ⊢; omega, fun q hq => ?_⟩, flat_one_of h hfl⟩
  rcases List.mem_append.1 hq with hq | hq
  · exact hF q (List.mem_append_left _ hq)
  · rcases List.mem_cons.1 hq with rfl | hq
    · exact ht
    · exact hF q (List.mem_append_right _ hq)
theorem P.mem_resL {pt et qt : TypeId} {q : P} {x : Res} : ∀ {ks : List P}, q ∈ ks → x ∈ q.res pt et qt → x ∈ P.resL pt et qt ks
  | k :: ks, hq, hx => by
    rw [P.resL_cons]
    rcases List.mem_cons.1 hq with rfl | hq
    · exact List.mem_append_left _ hx
    · exact List.mem_append_right _ (P.mem_resL hq hx)
theorem kid_cells {pt et qt : TypeId} {w : World} {ks : List P} (h : Sep w (P.resL pt et qt ks)) {q : P} (hq : q ∈ ks) : ∃ pq cq bv, Blk w q.blk pt [.slice pq q.es.length cq, bv] ∧ q.es.length ≤ cq ∧ cq ≤ 9223372036854775807 := by
  obtain ⟨qb, qa, qes, qbv, qks, rfl⟩ := P.eta q
  have h1 : Blk w qb pt [qa, qbv] := h.all (Res.blk qb pt [qa, qbv]) (P.mem_resL hq (by rw [P.res_node]; simp))
  have h2 : Own w et 2 qa qes.length (enC qes) := h.all (Res.own et 2 qa qes.length (enC qes)) (P.mem_resL hq (by rw [P.res_node]; simp))
  obtain ⟨p, c, rfl, h3, h4⟩ := (h2.sl (B := fun _ => True) (fun _ _ => trivial)).form
  exact ⟨p, c, qbv, h1, h3, h4⟩
theorem P.es_t (q : P) : q.t.es = q.es := by
  cases q with
  | node b av es bv ks => rw [P.t_node]; rfl
theorem Fat.len {m d : Nat} {t : T} (h : Fat m d t) : m ≤ t.es.length := by
  cases t with
  | node es ts => exact h.kids.2.2
theorem Fat.of_len {m m' d : Nat} {t : T} (h : Fat m d t) (hm : m' ≤ t.es.length) : Fat m' d t := by
  cases t with
  | node es ts =>
    obtain ⟨h0, h1, _⟩ := h.kids
    exact Fat.mk hm h0 h1
theorem mem_flatL {e : En} : ∀ {es : List En} {ts : List T}, e ∈ T.flatL es ts → e ∈ es ∨ ∃ t ∈ ts, e ∈ t.flat
  | es, [], h => by rw [flatL_nil] at h; exact .inl h
  | [], t :: ts, h => by
    rw [flatL_end] at h
    rcases List.mem_append.1 h with h | h
    · exact .inr ⟨t, by simp, h⟩
    · rcases mem_flatL h with h | ⟨q, hq, h⟩
      · exact .inl h
      · exact .inr ⟨q, by simp [hq], h⟩
  | x :: es, t :: ts, h => by
    rw [flatL_cons] at h
    rcases List.mem_append.1 h with h | h
    · exact .inr ⟨t, by simp, h⟩
    · rcases List.mem_cons.1 h with rfl | h
      · exact .inl (by simp)
      · rcases mem_flatL h with h | ⟨q, hq, h⟩
        · exact .inl (by simp [h])
        · exact .inr ⟨q, by simp [hq], h⟩
theorem es_flat_len (t : T) : t.es.length ≤ t.flat.length := by
  cases t with
  | node es ts => rw [flat_node]; exact (es_sublist es ts).length_le
theorem kid_flat_len {es : List En} : ∀ {ts : List T} {t : T} (_ : ts.length ≤ es.length + 1) (_ : t ∈ ts), t.flat.length ≤ (T.node es ts).flat.length := by
  intro ts
  rw [show ∀ es : List En, (T.node es ts).flat = T.flatL es ts from fun es => flat_node es ts]
  induction ts generalizing es with
  | nil => intro t _ h; simp at h
  | cons a ts ih =>
    intro t hl ht
    cases es with
    | nil =>
      rw [flatL_end]
      have : ts = [] := by simp at hl; exact List.eq_nil_of_length_eq_zero (by simpa using hl)
      subst this
      simp at ht
      subst ht
      simp
    | cons e es =>
      rw [flatL_cons]
      rcases List.mem_cons.1 ht with rfl | ht
      · simp
      · have := ih (es := es) (by simpa using hl) ht
        simp; omega
end Go.Afx
/- Pages: mend. -/
namespace Go.Proofs.Ytfnndifckgjmjaa
open Go.RowKit Go.Afx

theorem rightP_i (d : Nat) (w : World) (b : Nat) (av bv : Value) (es : List En) (l : List P) (A C : P) (r : List P) (hs : Sep w (presi (.node b av es bv (l ++ A :: C :: r)))) (hk : (l ++ A :: C :: r).length = es.length + 1) (hF : ∀ q ∈ l ++ r, Fat 2 d q.t) (ha : Fat 3 d A.t) (hc : Fat 1 d C.t)
    (hfl : (T.node es ((l ++ A :: C :: r).map P.t)).flat.length ≤ 99999) :
    Calls Try.prog 75 #[ptrV b, .int .i64 (l.length : Int)] w fun e w' => e = .returned (.tuple #[]) ∧ ∃ p', p'.blk = b ∧ Fat (es.length - 1) (d + 1) p'.t ∧ p'.t.flat = (T.node es ((l ++ A :: C :: r).map P.t)).flat ∧ Trk w (feet (presi (.node b av es bv (l ++ A :: C :: r)))) w' (presi p') := by
  obtain ⟨ab, aav, aes, abv, aks, rfl⟩ := P.eta A
  obtain ⟨cb, cav, ces, cbv, cks, rfl⟩ := P.eta C
  have hll : l.length < es.length := by simp at hk; omega
  obtain ⟨ea, x, eb, rfl, hel⟩ : ∃ ea x eb, es = ea ++ x :: eb ∧ ea.length = l.length := ⟨es.take l.length, es[l.length], es.drop (l.length + 1), by rw [← List.drop_eq_getElem_cons hll, List.take_append_drop], by rw [List.length_take]; omega⟩
  have hkm : ((l ++ .node ab aav aes abv aks :: .node cb cav ces cbv cks :: r).map P.t).length ≤ (ea ++ x :: eb).length + 1 := by rw [List.length_map]; omega
  have hfa : (P.node ab aav aes abv aks).t.flat.length ≤ 99999 := Nat.le_trans (kid_flat_len hkm (List.mem_map_of_mem (by simp))) hfl
  have hfc : (P.node cb cav ces cbv cks).t.flat.length ≤ 99999 := Nat.le_trans (kid_flat_len hkm (List.mem_map_of_mem (by simp))) hfl
  have hel1 : (ea ++ x :: eb).length ≤ 99999 := Nat.le_trans (es_flat_len (.node (ea ++ x :: eb) _)) hfl
  have hal1 : aes.length ≤ 99999 := Nat.le_trans (es_flat_len (P.node ab aav aes abv aks).t) hfa
  have hcl1 : ces.length ≤ 99999 := Nat.le_trans (es_flat_len (P.node cb cav ces cbv cks).t) hfc
  rw [P.t_node] at ha hc
  have hak1 : aks.length ≤ 100000 := by
    obtain ⟨h1, h2, _⟩ := ha.kids
    rcases Nat.eq_zero_or_pos d with h | h
    · have := h1 h; have h3 : aks.length = (aks.map P.t).length := by rw [List.length_map]
      rw [h3, this]; simp
    · have := (h2 h).1; rw [List.length_map] at this; omega
  have hck1 : cks.length ≤ 100000 := by
    obtain ⟨h1, h2, _⟩ := hc.kids
    rcases Nat.eq_zero_or_pos d with h | h
    · have := h1 h; have h3 : cks.length = (cks.map P.t).length := by rw [List.length_map]
      rw [h3, this]; simp
    · have := (h2 h).1; rw [List.length_map] at this; omega
  have hne : aes ≠ [] := fun e => by have := ha.kids.2.2; rw [e] at this; simp at this
  have hkt : ∃ ak tk, aks = ak ++ tk ∧ tk.length ≤ 1 ∧ (tk = [] → ak = []) := by
    rcases List.eq_nil_or_concat aks with h | ⟨ak, k, h⟩
    · exact ⟨[], [], by simp [h], by simp, fun _ => rfl⟩
    · exact ⟨ak, [k], by rw [h, List.concat_eq_append], by simp, fun h => by simp at h⟩
  obtain ⟨ak, tk, hak, htk, hleaf⟩ := hkt
  have hae : aes = aes.dropLast ++ [aes.getLast hne] := (List.dropLast_concat_getLast hne).symm
  have hF2 : ∀ q ∈ l.map P.t ++ r.map P.t, Fat 2 d q := fun q hq => by
    rw [← List.map_append] at hq
    obtain ⟨p, hp, rfl⟩ := List.mem_map.1 hq
    exact hF p hp
  have hk2 : (l.map P.t ++ T.node aes (aks.map P.t) :: T.node ces (cks.map P.t) :: r.map P.t).length = (ea ++ x :: eb).length + 1 := by simp at hk ⊢; omega
  have hmap : (l ++ P.node ab aav aes abv aks :: .node cb cav ces cbv cks :: r).map P.t = l.map P.t ++ T.node aes (aks.map P.t) :: T.node ces (cks.map P.t) :: r.map P.t := by simp [P.t_node]
  refine (right_i w b av bv ea x eb l ab aav aes abv aks cb cav ces cbv cks r hs hel (by omega) (by omega) (by omega) (by omega) (by omega) (by omega) aes.dropLast (aes.getLast hne) hae ak tk hak htk hleaf).mono ?_
  rintro e w' ⟨rfl, p', hb, ht, hT⟩
  obtain ⟨g1, g2, g3⟩ := right_good (d := d) (x := x) (ct := cks.map P.t) (ces := ces) hae (at_ := aks.map P.t) (ak := ak.map P.t) (tk := tk.map P.t) (by rw [hak, List.map_append]) (by rw [List.length_map]; exact htk) (fun h => by
    have : tk = [] := by simpa using h
    rw [hleaf this]; rfl) ha hc
  rw [← List.map_append] at g2 g3
  obtain ⟨q1, q2⟩ := two_good (l := l.map P.t) (r := r.map P.t) (by rw [List.length_map]; exact hel) hk2 g1 g2 hF2 g3
  exact ⟨rfl, p', hb, by rw [ht]; exact q1, by rw [ht, hmap]; exact q2, hT⟩

theorem leftP_i (d : Nat) (w : World) (b : Nat) (av bv : Value) (es : List En) (l : List P) (A C : P) (r : List P) (hs : Sep w (presi (.node b av es bv (l ++ A :: C :: r)))) (hk : (l ++ A :: C :: r).length = es.length + 1) (hF : ∀ q ∈ l ++ r, Fat 2 d q.t) (ha : Fat 1 d A.t) (hc : Fat 3 d C.t)
    (hfl : (T.node es ((l ++ A :: C :: r).map P.t)).flat.length ≤ 99999) :
    Calls Try.prog 76 #[ptrV b, .int .i64 (l.length : Int)] w fun e w' => e = .returned (.tuple #[]) ∧ ∃ p', p'.blk = b ∧ Fat (es.length - 1) (d + 1) p'.t ∧ p'.t.flat = (T.node es ((l ++ A :: C :: r).map P.t)).flat ∧ Trk w (feet (presi (.node b av es bv (l ++ A :: C :: r)))) w' (presi p') := by
  obtain ⟨ab, aav, aes, abv, aks, rfl⟩ := P.eta A
  obtain ⟨cb, cav, ces, cbv, cks, rfl⟩ := P.eta C
  have hll : l.length < es.length := by simp at hk; omega
  obtain ⟨ea, x, eb, rfl, hel⟩ : ∃ ea x eb, es = ea ++ x :: eb ∧ ea.length = l.length := ⟨es.take l.length, es[l.length], es.drop (l.length + 1), by rw [← List.drop_eq_getElem_cons hll, List.take_append_drop], by rw [List.length_take]; omega⟩
  have hkm : ((l ++ .node ab aav aes abv aks :: .node cb cav ces cbv cks :: r).map P.t).length ≤ (ea ++ x :: eb).length + 1 := by rw [List.length_map]; omega
  have hfa : (P.node ab aav aes abv aks).t.flat.length ≤ 99999 := Nat.le_trans (kid_flat_len hkm (List.mem_map_of_mem (by simp))) hfl
  have hfc : (P.node cb cav ces cbv cks).t.flat.length ≤ 99999 := Nat.le_trans (kid_flat_len hkm (List.mem_map_of_mem (by simp))) hfl
  have hel1 : (ea ++ x :: eb).length ≤ 99999 := Nat.le_trans (es_flat_len (.node (ea ++ x :: eb) _)) hfl
  have hal1 : aes.length ≤ 99999 := Nat.le_trans (es_flat_len (P.node ab aav aes abv aks).t) hfa
  have hcl1 : ces.length ≤ 99999 := Nat.le_trans (es_flat_len (P.node cb cav ces cbv cks).t) hfc
  rw [P.t_node] at ha hc
  have hak1 : aks.length ≤ 100000 := by
    obtain ⟨h1, h2, _⟩ := ha.kids
    rcases Nat.eq_zero_or_pos d with h | h
    · have := h1 h; have h3 : aks.length = (aks.map P.t).length := by rw [List.length_map]
      rw [h3, this]; simp
    · have := (h2 h).1; rw [List.length_map] at this; omega
  have hck1 : cks.length ≤ 100000 := by
    obtain ⟨h1, h2, _⟩ := hc.kids
    rcases Nat.eq_zero_or_pos d with h | h
    · have := h1 h; have h3 : cks.length = (cks.map P.t).length := by rw [List.length_map]
      rw [h3, this]; simp
    · have := (h2 h).1; rw [List.length_map] at this; omega
  have hne : ces ≠ [] := fun e => by have := hc.kids.2.2; rw [e] at this; simp at this
  obtain ⟨y, ce, hce⟩ := List.exists_cons_of_ne_nil hne
  have hkt : ∃ tk ck, cks = tk ++ ck ∧ tk.length ≤ 1 ∧ (tk = [] → ck = [] ∧ aks = []) := by
    cases hq : cks with
    | nil =>
      refine ⟨[], [], rfl, by simp, fun _ => ⟨rfl, ?_⟩⟩
      obtain ⟨a0, a1, _⟩ := ha.kids
      obtain ⟨c0, c1, _⟩ := hc.kids
      rcases Nat.eq_zero_or_pos d with h | h
      · simpa using a0 h
      · have := (c1 h).1; rw [hq] at this; simp at this
    | cons k ck => exact ⟨[k], ck, rfl, by simp, fun h => by simp at h⟩
  obtain ⟨tk, ck, hck, htk, hleaf⟩ := hkt
  have hF2 : ∀ q ∈ l.map P.t ++ r.map P.t, Fat 2 d q := fun q hq => by
    rw [← List.map_append] at hq
    obtain ⟨p, hp, rfl⟩ := List.mem_map.1 hq
    exact hF p hp
  have hk2 : (l.map P.t ++ T.node aes (aks.map P.t) :: T.node ces (cks.map P.t) :: r.map P.t).length = (ea ++ x :: eb).length + 1 := by simp at hk ⊢; omega
  have hmap : (l ++ P.node ab aav aes abv aks :: .node cb cav ces cbv cks :: r).map P.t = l.map P.t ++ T.node aes (aks.map P.t) :: T.node ces (cks.map P.t) :: r.map P.t := by simp [P.t_node]
  refine (left_i w b av bv ea x eb l ab aav aes abv aks cb cav ces cbv cks r hs hel (by omega) (by omega) (by omega) (by omega) (by omega) (by omega) ce y hce ck tk hck htk hleaf).mono ?_
  rintro e w' ⟨rfl, p', hb, ht, hT⟩
  obtain ⟨g1, g2, g3⟩ := left_good (d := d) (x := x) (at_ := aks.map P.t) (aes := aes) hce (ct := cks.map P.t) (ck := ck.map P.t) (tk := tk.map P.t) (by rw [hck, List.map_append]) (by rw [List.length_map]; exact htk) (fun h => by
    have : tk = [] := by simpa using h
    obtain ⟨h1, h2⟩ := hleaf this
    rw [h1, h2]; exact ⟨rfl, rfl⟩) ha hc
  rw [← List.map_append] at g1 g3
  obtain ⟨q1, q2⟩ := two_good (l := l.map P.t) (r := r.map P.t) (by rw [List.length_map]; exact hel) hk2 g1 g2 hF2 g3
  exact ⟨rfl, p', hb, by rw [ht]; exact q1, by rw [ht, hmap]; exact q2, hT⟩

theorem joinP_i (d : Nat) (w : World) (b : Nat) (av bv : Value) (es : List En) (l : List P) (A C : P) (r : List P) (hs : Sep w (presi (.node b av es bv (l ++ A :: C :: r)))) (hk : (l ++ A :: C :: r).length = es.length + 1) (hF : ∀ q ∈ l ++ r, Fat 2 d q.t) (ha : Fat 1 d A.t) (hc : Fat 1 d C.t)
    (hfl : (T.node es ((l ++ A :: C :: r).map P.t)).flat.length ≤ 99999) :
    Calls Try.prog 77 #[ptrV b, .int .i64 (l.length : Int)] w fun e w' => e = .returned (.tuple #[]) ∧ ∃ p', p'.blk = b ∧ Fat (es.length - 1) (d + 1) p'.t ∧ p'.t.flat = (T.node es ((l ++ A :: C :: r).map P.t)).flat ∧ Trk w (feet (presi (.node b av es bv (l ++ A :: C :: r)))) w' (presi p') := by
  obtain ⟨ab, aav, aes, abv, aks, rfl⟩ := P.eta A
  obtain ⟨cb, cav, ces, cbv, cks, rfl⟩ := P.eta C
  have hll : l.length < es.length := by simp at hk; omega
  obtain ⟨ea, x, eb, rfl, hel⟩ : ∃ ea x eb, es = ea ++ x :: eb ∧ ea.length = l.length := ⟨es.take l.length, es[l.length], es.drop (l.length + 1), by rw [← List.drop_eq_getElem_cons hll, List.take_append_drop], by rw [List.length_take]; omega⟩
  have hkm : ((l ++ .node ab aav aes abv aks :: .node cb cav ces cbv cks :: r).map P.t).length ≤ (ea ++ x :: eb).length + 1 := by rw [List.length_map]; omega
  have hfa : (P.node ab aav aes abv aks).t.flat.length ≤ 99999 := Nat.le_trans (kid_flat_len hkm (List.mem_map_of_mem (by simp))) hfl
  have hfc : (P.node cb cav ces cbv cks).t.flat.length ≤ 99999 := Nat.le_trans (kid_flat_len hkm (List.mem_map_of_mem (by simp))) hfl
  have hel1 : (ea ++ x :: eb).length ≤ 99999 := Nat.le_trans (es_flat_len (.node (ea ++ x :: eb) _)) hfl
  have hal1 : aes.length ≤ 99999 := Nat.le_trans (es_flat_len (P.node ab aav aes abv aks).t) hfa
  have hcl1 : ces.length ≤ 99999 := Nat.le_trans (es_flat_len (P.node cb cav ces cbv cks).t) hfc
  rw [P.t_node] at ha hc
  have hak1 : aks.length ≤ 100000 := by
    obtain ⟨h1, h2, _⟩ := ha.kids
    rcases Nat.eq_zero_or_pos d with h | h
    · have := h1 h; have h3 : aks.length = (aks.map P.t).length := by rw [List.length_map]
      rw [h3, this]; simp
    · have := (h2 h).1; rw [List.length_map] at this; omega
  have hck1 : cks.length ≤ 100000 := by
    obtain ⟨h1, h2, _⟩ := hc.kids
    rcases Nat.eq_zero_or_pos d with h | h
    · have := h1 h; have h3 : cks.length = (cks.map P.t).length := by rw [List.length_map]
      rw [h3, this]; simp
    · have := (h2 h).1; rw [List.length_map] at this; omega
  have hF2 : ∀ q ∈ l.map P.t ++ r.map P.t, Fat 2 d q := fun q hq => by
    rw [← List.map_append] at hq
    obtain ⟨p, hp, rfl⟩ := List.mem_map.1 hq
    exact hF p hp
  have hk2 : (l.map P.t ++ T.node aes (aks.map P.t) :: T.node ces (cks.map P.t) :: r.map P.t).length = (ea ++ x :: eb).length + 1 := by simp at hk ⊢; omega
  have hmap : (l ++ P.node ab aav aes abv aks :: .node cb cav ces cbv cks :: r).map P.t = l.map P.t ++ T.node aes (aks.map P.t) :: T.node ces (cks.map P.t) :: r.map P.t := by simp [P.t_node]
  refine (join_i w b av bv ea x eb l ab aav aes abv aks cb cav ces cbv cks r hs hel (by omega) (by omega) (by omega) (by omega) (by omega) (by omega)).mono ?_
  rintro e w' ⟨rfl, p', hb, ht, hT⟩
  have g1 := (join_fat (x := x) ha hc).weaken (m' := 2) (by omega)
  have g3 := join_flat (x := x) (ha.weaken (m' := 0) (by omega)) (hc.weaken (m' := 0) (by omega))
  rw [← List.map_append] at g1 g3
  obtain ⟨q1, q2⟩ := one_good (l := l.map P.t) (r := r.map P.t) (a := T.node aes (aks.map P.t)) (c := T.node ces (cks.map P.t)) (by rw [List.length_map]; exact hel) hk2 g1 hF2 g3
  exact ⟨rfl, p', hb, by rw [ht]; exact q1, by rw [ht, hmap]; exact q2, hT⟩


set_option maxRecDepth 100000 in
set_option maxHeartbeats 4000000 in
theorem mend_i (d : Nat) (w : World) (b : Nat) (av bv : Value) (es : List En) (l : List P) (c : P) (r : List P) (hs : Sep w (presi (.node b av es bv (l ++ c :: r)))) (hk : (l ++ c :: r).length = es.length + 1) (hes : 1 ≤ es.length) (hF : ∀ q ∈ l ++ r, Fat 2 d q.t) (hc : Fat 1 d c.t)
    (hfl : (T.node es ((l ++ c :: r).map P.t)).flat.length ≤ 99999) :
    Calls Try.prog 60 #[ptrV b, .int .i64 (l.length : Int)] w fun e w' => e = .returned (.tuple #[]) ∧ ∃ p', p'.blk = b ∧ Fat (es.length - 1) (d + 1) p'.t ∧ p'.t.flat = (T.node es ((l ++ c :: r).map P.t)).flat ∧ Trk w (feet (presi (.node b av es bv (l ++ c :: r)))) w' (presi p') := by
  have T0 := Trk.start hs
  have kb0 : Blk w b 66 [av, bv] := T0.blk (by rw [pres_i]; simp only [List.mem_cons, true_or, or_true])
  have ok : Own w 60 1 bv (l ++ c :: r).length (ptrs (l ++ c :: r)) := T0.own (by rw [pres_i]; simp only [List.mem_cons, true_or, or_true])
  have hsk : Sep w (P.resL 66 87 60 (l ++ c :: r)) := by
    rw [pres_i] at hs
    exact hs.right (a := [_, _, _])
  obtain ⟨gk, offk, capk, hbv, hgk, _⟩ := sl_ptr (k := 0) (ok.sl (B := fun _ => True) (fun _ _ => trivial)) (by simp <;> omega)
  have HPT : Hid (∀ j q, (l ++ c :: r)[j]? = some q → w.cell? ⟨gk, offk + j, none⟩ = some (ptrV q.blk)) := fun j q hj => by
    obtain ⟨h1, h2⟩ := List.getElem?_eq_some_iff.1 hj
    obtain ⟨g', o', c', hv', _, h3⟩ := sl_ptr (k := j) (ok.sl (B := fun _ => True) (fun _ _ => trivial)) h1
    rw [hbv] at hv'
    cases hv'
    rw [h2] at h3
    exact h3
  have HSK := Lib.hid hsk
  obtain ⟨x0, x1⟩ := pg_cells kb0
  rw [hbv] at x1
  have hel1 : es.length ≤ 99999 := Nat.le_trans (es_flat_len (.node es _)) hfl
  obtain ⟨nk, hnk⟩ : ∃ nk, (l ++ c :: r).length = nk := ⟨_, rfl⟩
  rw [hnk] at x1
  have hnk2 : nk = l.length + (r.length + 1) := by rw [← hnk]; simp
  have hnk3 : nk ≤ 100000 := by omega
  have hnk4 : 2 ≤ nk := by omega
  obtain ⟨pqc, cqc, bqc, kqc, _, _⟩ := kid_cells HSK.out (q := c) (by simp)
  have qc := HPT.out (l.length) c (by simp)
  have zc := (pg_cells kqc).1
  unfold ptrV at qc
  clear kqc
  have hclen := hc.len
  rw [P.es_t] at hclen
  have HHS := Lib.hid hs
  have hcl1 : c.es.length ≤ 99999 := by
    have h1 := es_flat_len c.t
    rw [P.es_t] at h1
    exact Nat.le_trans h1 (Nat.le_trans (kid_flat_len (by rw [List.length_map]; omega) (List.mem_map_of_mem (by simp))) hfl)
  have hlk : l.length < nk := by omega
  have HNK := Lib.hid hnk
  unfold ptrV
  clear T0 kb0 ok hsk hbv hnk
  by_cases h2 : 2 ≤ c.es.length
  · have h2i : (2 : Int) ≤ (c.es.length : Int) := by omega
    have HNK2 := Lib.hid hnk2
    clear hnk2
    go_enter Try.func60, Try.ntmps60
    go_wp2
    go_end0
    refine ⟨rfl, .node b av es bv (l ++ c :: r), rfl, ?_, by rw [P.t_node], Trk.start HHS.out⟩
    rw [P.t_node]
    refine ⟨by omega, by rw [List.length_map]; exact hk, fun q hq => ?_⟩
    obtain ⟨p, hp, rfl⟩ := List.mem_map.1 hq
    rcases List.mem_append.1 hp with hp | hp
    · exact hF p (List.mem_append_left _ hp)
    · rcases List.mem_cons.1 hp with rfl | hp
      · obtain ⟨cb, ca, ces, cbv, cks, rfl⟩ := P.eta p
        rw [P.t_node] at hc ⊢
        obtain ⟨c1, c2, c3⟩ := hc.kids
        exact Fat.mk h2 c1 c2
      · exact hF p (List.mem_append_right _ hp)
  · have h2i : ¬ (2 : Int) ≤ (c.es.length : Int) := by omega
    have HNK2 := Lib.hid hnk2
    clear hnk2
    rcases List.eq_nil_or_concat l with hl0 | ⟨l', a, hl0⟩
    · subst hl0
      have qc := HPT.out 0 c (by simp)
      rw [Nat.add_zero] at qc
      unfold ptrV at qc
      cases r with
      | nil => exact absurd HNK2.out (by simp; omega)
      | cons q r' =>
        have qq := HPT.out 1 q (by simp)
        unfold ptrV at qq
        obtain ⟨pqq, cqq, bqq, kqq, _, _⟩ := kid_cells HSK.out (q := q) (by simp)
        have zq := (pg_cells kqq).1
        have hqf : Fat 2 d q.t := hF q (by simp)
        have hql1 : q.es.length ≤ 99999 := by
          have h1 := es_flat_len q.t
          rw [P.es_t] at h1
          exact Nat.le_trans h1 (Nat.le_trans (kid_flat_len (by rw [List.length_map]; omega) (List.mem_map_of_mem (by simp))) hfl)
        have hnk5 : (0 : Int) < (nk : Int) - 1 := by omega
        have hnk6 : (1 : Int) < (nk : Int) := by omega
        have hnk7 : 1 < nk := by omega
        have hnk8 : 0 < nk := by omega
        clear kqq
        simp only [List.nil_append] at *
        by_cases h3 : 3 ≤ q.es.length
        · have h3i : (2 : Int) < (q.es.length : Int) := by omega
          have HC := Lib.hid (leftP_i d w b av bv es [] c q r' HHS.out hk (fun x hx => hF x (by simp at hx ⊢; exact .inr hx)) hc (hqf.of_len (by rw [P.es_t]; exact h3)) hfl)
          unfold ptrV at HC
          go_enter Try.func60, Try.ntmps60
          go_wp2_with fail
          refine HC.out.mono ?_
          rintro e w' ⟨rfl, p', hb, hf, hfl2, hT⟩
          go_wp2
          go_end0
          exact ⟨rfl, p', hb, hf, hfl2, hT⟩
        · have h3i : ¬ (2 : Int) < (q.es.length : Int) := by omega
          have HC := Lib.hid (joinP_i d w b av bv es [] c q r' HHS.out hk (fun x hx => hF x (by simp at hx ⊢; exact .inr hx)) hc (hqf.weaken (by omega)) hfl)
          unfold ptrV at HC
          go_enter Try.func60, Try.ntmps60
          go_wp2_with fail
          refine HC.out.mono ?_
          rintro e w' ⟨rfl, p', hb, hf, hfl2, hT⟩
          go_wp2
          go_end0
          exact ⟨rfl, p', hb, hf, hfl2, hT⟩
    · rw [List.concat_eq_append] at hl0
      subst hl0
      have eKS : (l' ++ [a]) ++ c :: r = l' ++ a :: c :: r := by simp
      obtain ⟨i, hi⟩ : ∃ i, (l' ++ [a]).length = i := ⟨_, rfl⟩
      have hi0 : i = l'.length + 1 := by rw [← hi]; simp
      rw [hi] at qc hlk ⊢
      have hHS2 : Sep w (presi (.node b av es bv (l' ++ a :: c :: r))) := by rw [← eKS]; exact HHS.out
      have hk2 : (l' ++ a :: c :: r).length = es.length + 1 := by rw [← eKS]; exact hk
      have hfl3 : (T.node es ((l' ++ a :: c :: r).map P.t)).flat.length ≤ 99999 := by rw [← eKS]; exact hfl
      have qa := HPT.out l'.length a (by simp)
      unfold ptrV at qa
      obtain ⟨pqa, cqa, bqa, kqa, _, _⟩ := kid_cells HSK.out (q := a) (by simp)
      have za := (pg_cells kqa).1
      have haf : Fat 2 d a.t := hF a (by simp)
      have hal1 : a.es.length ≤ 99999 := by
        have h1 := es_flat_len a.t
        rw [P.es_t] at h1
        exact Nat.le_trans h1 (Nat.le_trans (kid_flat_len (by rw [List.length_map]; omega) (List.mem_map_of_mem (by simp))) hfl)
      have hi1 : (i : Int) - 1 = (l'.length : Int) := by omega
      have hi2 : (0 : Int) < (i : Int) := by omega
      have hi3 : l'.length < nk := by omega
      have hi4 : i ≤ 100000 := by omega
      have HI := Lib.hid hi
      have HI0 := Lib.hid hi0
      have hi5 : 0 < i := by omega
      clear kqa hi hi0
      by_cases ha3 : 3 ≤ a.es.length
      · have h3i : (2 : Int) < (a.es.length : Int) := by omega
        have HC := Lib.hid (rightP_i d w b av bv es l' a c r hHS2 hk2 (fun x hx => hF x (by simp at hx ⊢; rcases hx with h | h; exact .inl h; exact .inr (.inr h))) (haf.of_len (by rw [P.es_t]; exact ha3)) hc hfl3)
        unfold ptrV at HC
        go_enter Try.func60, Try.ntmps60
        go_wp2_with fail
        refine HC.out.mono ?_
        rintro e w' ⟨rfl, p', hb, hf, hfl2, hT⟩
        go_wp2
        go_end0
        exact ⟨rfl, p', hb, hf, by rw [eKS]; exact hfl2, by rw [eKS]; exact hT⟩
      · have h3i : ¬ (2 : Int) < (a.es.length : Int) := by omega
        have HJ := Lib.hid (joinP_i d w b av bv es l' a c r hHS2 hk2 (fun x hx => hF x (by simp at hx ⊢; rcases hx with h | h; exact .inl h; exact .inr (.inr h))) (haf.weaken (by omega)) hc hfl3)
        unfold ptrV at HJ
        cases r with
        | nil =>
          have hnk5 : ¬ (i : Int) < (nk : Int) - 1 := by have := HNK2.out; have := HI.out; simp at *; omega
          go_enter Try.func60, Try.ntmps60
          go_wp2_with fail
          refine HJ.out.mono ?_
          rintro e w' ⟨rfl, p', hb, hf, hfl2, hT⟩
          go_wp2
          go_end0
          exact ⟨rfl, p', hb, hf, by rw [eKS]; exact hfl2, by rw [eKS]; exact hT⟩
        | cons q r' =>
          have hnk5 : (i : Int) < (nk : Int) - 1 := by have := HNK2.out; have := HI.out; simp at *; omega
          have hnk6 : (i : Int) + 1 < (nk : Int) := by omega
          have hnk7 : i + 1 < nk := by omega
          have htn : ((i : Int) + 1).toNat = i + 1 := by omega
          have hi6 : (0 : Int) ≤ (i : Int) + 1 := by omega
          have qq := HPT.out (i + 1) q (by
            have e1 : i + 1 = (l' ++ [a]).length + 1 := by rw [HI.out]
            rw [e1, List.getElem?_append_right (by omega)]
            have : (l' ++ [a]).length + 1 - (l' ++ [a]).length = 1 := by omega
            rw [this]; rfl)
          unfold ptrV at qq
          obtain ⟨pqq, cqq, bqq, kqq, _, _⟩ := kid_cells HSK.out (q := q) (by simp)
          have zq := (pg_cells kqq).1
          have hqf : Fat 2 d q.t := hF q (by simp)
          have hql1 : q.es.length ≤ 99999 := by
            have h1 := es_flat_len q.t
            rw [P.es_t] at h1
            exact Nat.le_trans h1 (Nat.le_trans (kid_flat_len (by rw [List.length_map]; omega) (List.mem_map_of_mem (by simp))) hfl)
          clear kqq
          by_cases h3 : 3 ≤ q.es.length
          · have h3q : (2 : Int) < (q.es.length : Int) := by omega
            have hc0 := leftP_i d w b av bv es (l' ++ [a]) c q r' HHS.out hk (fun x hx => hF x (by simp at hx ⊢; rcases hx with h | h | h; exact .inl h; exact .inr (.inl h); exact .inr (.inr (.inr h)))) hc (hqf.of_len (by rw [P.es_t]; exact h3)) hfl
            rw [HI.out] at hc0
            have HC := Lib.hid hc0
            clear hc0
            unfold ptrV at HC
            go_enter Try.func60, Try.ntmps60
            go_wp2_with fail
            refine HC.out.mono ?_
            rintro e w' ⟨rfl, p', hb, hf, hfl2, hT⟩
            go_wp2
            go_end0
            exact ⟨rfl, p', hb, hf, hfl2, hT⟩
          · have h3q : ¬ (2 : Int) < (q.es.length : Int) := by omega
            go_enter Try.func60, Try.ntmps60
            go_wp2_with fail
            refine HJ.out.mono ?_
            rintro e w' ⟨rfl, p', hb, hf, hfl2, hT⟩
            go_wp2
            go_end0
            exact ⟨rfl, p', hb, hf, by rw [eKS]; exact hfl2, by rw [eKS]; exact hT⟩

end Go.Proofs.Ytfnndifckgjmjaa
