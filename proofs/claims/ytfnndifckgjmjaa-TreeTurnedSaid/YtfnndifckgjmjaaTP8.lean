/- Contracts of the functions that the statement reaches, one behind the other. No condition beyond each theorem's own. -/
import Derived.Deep.DeepCutAuto
import Derived.Deep.CutBlock
import Derived.Test.YtfnndifckgjmjaaTP7
set_option linter.unusedSimpArgs false
set_option linter.unusedVariables false
/- Pages: drop. -/
namespace Go.Proofs.Ytfnndifckgjmjaa
open Go.RowKit Go.Afx

@[go_sem] theorem field_val_s (w : World) (s v : Value) : (Instr.field 94 (.agg #[s, v]) 1).run Try.prog w = .ok v w := by
  unfold Instr.field
  simp only [Sem.run_bind, run_underlying Try.underlying94, Result.andThen_ok]
  simp [part, isAgg, asAgg, go_sem]

set_option maxRecDepth 100000 in
set_option maxHeartbeats 4000000 in
theorem drop_leaf0_s (w : World) (b : Nat) (av bv : Value) (es : List En) (k : Key) (hs : Sep w (press (.node b av es bv []))) (hr : Rise es) (hn : es.length ≤ 99999) (hh : has k es = false) :
    Calls Try.prog 36 #[ptrV b, .string (kb k)] w fun e w' => e = .returned (.tuple #[(.string ⟨#[]⟩), .bool false]) ∧ Trk w (feet (press (.node b av es bv []))) w' (press (.node b av es bv [])) := by
  have T0 := Trk.start hs
  generalize hF : feet (press (.node b av es bv [])) = F at *
  rw [pres_s] at T0
  have kb0 : Blk w b 75 [av, bv] := T0.blk (by simp only [List.mem_cons, true_or, or_true])
  have oa : Own w 94 2 av es.length (enC es) := T0.own (by simp only [List.mem_cons, true_or, or_true])
  have ok : Own w 69 1 bv ([] : List P).length (ptrs []) := T0.own (by simp only [List.mem_cons, true_or, or_true])
  obtain ⟨pk, ck, hbv, _, _⟩ := own_form_Ps ok
  have HFD := Lib.hid (find_s w b _ av bv es k (fun _ => True) kb0 (oa.sl (B := fun _ => True) (fun _ _ => trivial)) hr (by omega))
  rw [hh] at HFD
  generalize pos k es = i at *
  have HT0 := Lib.hid T0
  have HBV := Lib.hid hbv
  have hbl := kb0.lt
  unfold ptrV at HFD ⊢
  clear T0 kb0 oa ok hh hs hF hr hbv
  go_enter Try.func36, Try.ntmps36
  go_wp2_with fail
  refine HFD.out.mono ?_
  clear HFD
  rintro e w2 ⟨rfl, hb2⟩
  have T2 := HT0.out.below hb2
  have kb2 : Blk w2 b 75 [av, bv] := T2.blk (by simp only [List.mem_cons, true_or, or_true])
  have HLF := Lib.hid (leaf_s w2 b _ av pk 0 ck (HBV.out ▸ kb2))
  have HT2 := Lib.hid T2
  unfold ptrV at HLF
  clear T2 kb2 hb2
  go_wp2_with fail
  refine HLF.out.mono ?_
  rintro e wq ⟨rfl, hq⟩
  subst hq
  go_wp2
  exact bodyPost_ret (v := .tuple #[(.string ⟨#[]⟩), .bool false]) (by simp [results, Try.results36, go_sem]) rfl ⟨rfl, HT2.out⟩
set_option maxRecDepth 100000 in
set_option maxHeartbeats 4000000 in
theorem drop_leaf1_s (w : World) (b : Nat) (av bv : Value) (es : List En) (k : Key) (hs : Sep w (press (.node b av es bv []))) (hr : Rise es) (hn : es.length ≤ 99999) (hh : has k es = true) :
    Calls Try.prog 36 #[ptrV b, .string (kb k)] w fun e w' => ∃ x, es[pos k es]? = some x ∧ e = .returned (.tuple #[x.val, .bool true]) ∧ ∃ av', Trk w (feet (press (.node b av es bv []))) w' (press (.node b av' (es.take (pos k es) ++ es.drop (pos k es + 1)) bv [])) := by
  have T0 := Trk.start hs
  generalize hF : feet (press (.node b av es bv [])) = F at *
  rw [pres_s] at T0
  obtain ⟨hpl, hkey⟩ := has_at.1 hh
  have kb0 : Blk w b 75 [av, bv] := T0.blk (by simp only [List.mem_cons, true_or, or_true])
  have oa : Own w 94 2 av es.length (enC es) := T0.own (by simp only [List.mem_cons, true_or, or_true])
  have ok : Own w 69 1 bv ([] : List P).length (ptrs []) := T0.own (by simp only [List.mem_cons, true_or, or_true])
  obtain ⟨pk, ck, hbv, _, _⟩ := own_form_Ps ok
  have HFD := Lib.hid (find_s w b _ av bv es k (fun _ => True) kb0 (oa.sl (B := fun _ => True) (fun _ _ => trivial)) hr (by omega))
  rw [hh] at HFD
  have hx : es[pos k es]? = some es[pos k es] := List.getElem?_eq_getElem hpl
  have HX := Lib.hid hx
  have HRM := Lib.hid (fun (w2 : World) (h : Sep w2 [rBs b av bv, rAs av es]) => remove_rs w2 b (pos k es) av bv es h hpl (by omega))
  generalize es.take (pos k es) ++ es.drop (pos k es + 1) = es2 at *
  generalize es[pos k es] = x at *
  generalize pos k es = i at *
  have HT0 := Lib.hid T0
  have HBV := Lib.hid hbv
  have hbl := kb0.lt
  unfold ptrV at HFD HRM ⊢
  clear T0 kb0 oa ok hkey hx hh hs hF hr hbv
  go_enter Try.func36, Try.ntmps36
  go_wp2_with fail
  refine HFD.out.mono ?_
  clear HFD
  rintro e w2 ⟨rfl, hb2⟩
  have T2 : Trk w F w2 ([rBs b av bv, rAs av es] ++ [rKs bv []]) := (HT0.out.below hb2).perm (perm_of_cnt fun a => by simp only [cnt_append, cnt_cons, cnt_nil, press, presLs, rBs, rAs, rKs, P.resL_append, P.resL_cons, P.resL_nil, P.res_node] <;> omega)
  have kb2 : Blk w2 b 75 [av, bv] := T2.blk (by simp only [List.cons_append, List.mem_cons, true_or, or_true])
  have HLF := Lib.hid (leaf_s w2 b _ av pk 0 ck (HBV.out ▸ kb2))
  have HT2 := Lib.hid T2
  unfold ptrV at HLF
  clear T2 kb2 hb2
  go_wp2_with fail
  refine HLF.out.mono ?_
  rintro e wq ⟨rfl, hq⟩
  subst hq
  go_wp2_with fail
  refine HLF.out.mono ?_
  rintro e wq2 ⟨rfl, hq⟩
  subst hq
  go_wp2_with fail
  refine (HRM.out _ HT2.out.sep.left).mono ?_
  rintro e w3 ⟨rfl, av', hT⟩
  have T3 : Trk w F w3 (press (.node b av' es2 bv [])) := (HT2.out.call hT).perm (perm_of_cnt fun a => by simp only [cnt_append, cnt_cons, cnt_nil, press, presLs, rBs, rAs, rKs, P.resL_append, P.resL_cons, P.resL_nil, P.res_node] <;> omega)
  have HT3 := Lib.hid T3
  clear hT T3
  go_wp2
  exact bodyPost_ret (v := .tuple #[x.val, .bool true]) (by simp [results, Try.results36, go_sem]) rfl ⟨x, HX.out, rfl, av', HT3.out⟩


set_option maxRecDepth 100000 in
set_option maxHeartbeats 4000000 in
theorem drop_in_s (d : Nat) (w : World) (b : Nat) (av bv : Value) (ea eb : List En) (kl : List P) (kc : P) (kr : List P) (k : Key) (x : Value) (y : Bool) (fl' : List En) (hs : Sep w (press (.node b av (ea ++ eb) bv (kl ++ kc :: kr)))) (hr : Rise (ea ++ eb)) (hk : (kl ++ kc :: kr).length = (ea ++ eb).length + 1) (hes : 1 ≤ (ea ++ eb).length) (hF : ∀ q ∈ kl ++ kr, Fat 2 d q.t)
    (hn : (ea ++ eb).length ≤ 99999) (hh : has k (ea ++ eb) = false) (hl : kl.length = pos k (ea ++ eb)) (hal : ea.length = kl.length) (hfl : (wl ea (kl.map P.t) ++ (fl' ++ tl eb (kr.map P.t))).length ≤ 99999)
    (hc : ∀ w2, Sep w2 (press kc) → Calls Try.prog 36 #[ptrV kc.blk, .string (kb k)] w2 fun e w' => e = .returned (.tuple #[x, .bool y]) ∧ ∃ p', p'.blk = kc.blk ∧ Fat 1 d p'.t ∧ p'.t.flat = fl' ∧ Trk w2 (feet (press kc)) w' (press p')) :
    Calls Try.prog 36 #[ptrV b, .string (kb k)] w fun e w' => e = .returned (.tuple #[x, .bool y]) ∧ ∃ p', p'.blk = b ∧ Fat ((ea ++ eb).length - 1) (d + 1) p'.t ∧ p'.t.flat = wl ea (kl.map P.t) ++ (fl' ++ tl eb (kr.map P.t)) ∧
      Trk w (feet (press (.node b av (ea ++ eb) bv (kl ++ kc :: kr)))) w' (press p') := by
  have T0 := Trk.start hs
  generalize hFF : feet (press (.node b av (ea ++ eb) bv (kl ++ kc :: kr))) = F at *
  have T0 : Trk w F w (rBs b av bv :: rAs av (ea ++ eb) :: rKs bv (kl ++ kc :: kr) :: (press kc ++ (presLs kl ++ presLs kr))) := T0.perm (perm_of_cnt fun a => by simp only [cnt_append, cnt_cons, cnt_nil, press, presLs, rBs, rAs, rKs, P.resL_append, P.resL_cons, P.resL_nil, P.res_node] <;> omega)
  have kb0 : Blk w b 75 [av, bv] := T0.blk (by simp only [List.mem_cons, true_or, or_true])
  have oa : Own w 94 2 av (ea ++ eb).length (enC (ea ++ eb)) := T0.own (by simp only [List.mem_cons, true_or, or_true])
  have ok : Own w 69 1 bv (kl ++ kc :: kr).length (ptrs (kl ++ kc :: kr)) := T0.own (by simp only [List.mem_cons, true_or, or_true])
  have HFD := Lib.hid (find_s w b _ av bv (ea ++ eb) k (fun _ => True) kb0 (oa.sl (B := fun _ => True) (fun _ _ => trivial)) hr (by omega))
  rw [hh, ← hl] at HFD
  have HPT := Lib.hid (fun (w2 : World) (h : Own w2 69 1 bv (kl ++ kc :: kr).length (ptrs (kl ++ kc :: kr))) => sl_ptr (k := kl.length) (h.sl (B := fun _ => True) (fun _ _ => trivial)) (by simp))
  have hcl : (kl ++ kc :: kr)[kl.length]'(by simp) = kc := by simp
  rw [hcl] at HPT
  obtain ⟨gk, offk, capk, hbv, hgk, p0⟩ := HPT.out w ok
  obtain ⟨nk, hnk⟩ : ∃ nk, (kl ++ kc :: kr).length = nk := ⟨_, rfl⟩
  rw [hnk] at hbv
  have hlnk : kl.length < nk := by rw [← hnk]; simp
  have hnk0 : ¬ nk = 0 := by omega
  have HNK := Lib.hid hnk
  have HBV := Lib.hid hbv
  have HT0 := Lib.hid T0
  have hbl := kb0.lt
  have HL := Lib.hid hl

  clear T0 kb0 oa ok hh hs hFF hr hbv hcl p0 hnk hl
  unfold ptrV at HFD hc ⊢
  go_enter Try.func36, Try.ntmps36
  go_wp2_with fail
  refine HFD.out.mono ?_
  clear HFD
  rintro e w2 ⟨rfl, hb2⟩
  have T2 := HT0.out.below hb2
  have kb2 : Blk w2 b 75 [av, bv] := T2.blk (by simp only [List.mem_cons, true_or, or_true])
  have ok2 : Own w2 69 1 bv (kl ++ kc :: kr).length (ptrs (kl ++ kc :: kr)) := T2.own (by simp only [List.mem_cons, true_or, or_true])
  have hlf := leaf_s w2 b _ av (some ⟨gk, offk, none⟩) nk capk (HBV.out ▸ kb2)
  rw [decide_eq_false hnk0] at hlf
  have HLF := Lib.hid hlf
  unfold ptrV at HLF
  obtain ⟨g', off', cap', hv', hg2, p0⟩ := HPT.out w2 ok2
  rw [HBV.out, HNK.out] at hv'
  cases hv'
  obtain ⟨y0, y1⟩ := pg_cells kb2
  rw [HBV.out] at y1
  have hp2 : (rBs b av bv :: rAs av (ea ++ eb) :: rKs bv (kl ++ kc :: kr) :: (press kc ++ (presLs kl ++ presLs kr))).Perm (press kc ++ (rBs b av bv :: rAs av (ea ++ eb) :: rKs bv (kl ++ kc :: kr) :: (presLs kl ++ presLs kr))) := perm_of_cnt fun a => by simp only [cnt_append, cnt_cons, cnt_nil, press, presLs, rBs, rAs, rKs, P.resL_append, P.resL_cons, P.resL_nil, P.res_node] <;> omega
  have HC := Lib.hid (hc w2 (T2.sepOf hp2))
  have HT2 := Lib.hid T2
  have HP2 := Lib.hid hp2
  unfold ptrV at p0
  clear T2 kb2 ok2 hlf hp2 hb2 hc
  go_wp2_with fail
  refine HLF.out.mono ?_
  rintro e wq ⟨rfl, hq⟩
  subst hq
  go_wp2_with fail
  refine HLF.out.mono ?_
  rintro e wq2 ⟨rfl, hq⟩
  subst hq
  go_wp2_with fail
  refine HC.out.mono ?_
  rintro e w3 ⟨rfl, p', hpb, hpf, hpfl, hT3⟩
  have T3 := HT2.out.use HP2.out hT3
  obtain ⟨cb, cav, ces, cbv, cks, rfl⟩ := P.eta p'
  obtain rfl : cb = kc.blk := hpb
  have hptr : ptrs (kl ++ .node kc.blk cav ces cbv cks :: kr) = ptrs (kl ++ kc :: kr) := by simp [ptrs, P.blk]
  have hlen : (kl ++ P.node kc.blk cav ces cbv cks :: kr).length = (kl ++ kc :: kr).length := by simp
  have T3 : Trk w F w3 (press (.node b av (ea ++ eb) bv (kl ++ .node kc.blk cav ces cbv cks :: kr))) := T3.perm (perm_of_cnt fun a => by simp only [cnt_append, cnt_cons, cnt_nil, press, presLs, rBs, rAs, rKs, P.resL_append, P.resL_cons, P.res_node, hptr, hlen] <;> omega)
  have hff : (T.node (ea ++ eb) ((kl ++ P.node kc.blk cav ces cbv cks :: kr).map P.t)).flat = wl ea (kl.map P.t) ++ (fl' ++ tl eb (kr.map P.t)) := by
    have h1 := flat_at ea eb (kl.map P.t) (P.node kc.blk cav ces cbv cks).t (kr.map P.t) (by rw [List.length_map]; exact hal)
    rw [hpfl] at h1
    rw [List.map_append, List.map_cons]
    exact h1
  have hmd := mend_s d w3 b av bv (ea ++ eb) kl (.node kc.blk cav ces cbv cks) kr T3.sep (by rw [hlen]; exact hk) hes hF hpf (by rw [hff]; exact hfl)
  unfold ptrV at hmd
  have HMD := Lib.hid hmd
  have HT3 := Lib.hid T3
  have HFF := Lib.hid hff
  clear hT3 T3 hpf hpfl hff hmd HC HLF HT2 HP2 p0 y0 y1 hptr hlen HT0
  go_wp2_with fail
  refine HMD.out.mono ?_
  rintro e w4 ⟨rfl, p2, hb2, hf2, hfl2, hT2⟩
  have T4 := HT3.out.use (rest := []) (by rw [List.append_nil]) hT2
  rw [List.append_nil] at T4
  have HT4 := Lib.hid T4
  have HB2 := Lib.hid hb2
  have HF2 := Lib.hid hf2
  have HFL2 := Lib.hid hfl2
  clear T4 hT2 hb2 hf2 hfl2 HMD HT3
  go_wp2
  exact bodyPost_ret (v := .tuple #[x, .bool y]) (by simp [results, Try.results36, go_sem]) rfl ⟨rfl, p2, HB2.out, HF2.out, by rw [HFL2.out, HFF.out], HT4.out⟩


set_option maxRecDepth 100000 in
set_option maxHeartbeats 4000000 in
theorem drop_hit_s (d : Nat) (w : World) (b : Nat) (av bv : Value) (ea eb : List En) (kl : List P) (kc : P) (kr : List P) (k : Key) (v : Value) (x : En) (init : List En) (hs : Sep w (press (.node b av (ea ++ ⟨k, v⟩ :: eb) bv (kl ++ kc :: kr)))) (hr : Rise (ea ++ ⟨k, v⟩ :: eb)) (hk : (kl ++ kc :: kr).length = (ea ++ ⟨k, v⟩ :: eb).length + 1) (hF : ∀ q ∈ kl ++ kr, Fat 2 d q.t)
    (hn : (ea ++ ⟨k, v⟩ :: eb).length ≤ 99999) (hh : has k (ea ++ ⟨k, v⟩ :: eb) = true) (hl : kl.length = pos k (ea ++ ⟨k, v⟩ :: eb)) (hal : ea.length = kl.length) (hxo : x.val.oneCell' = true) (hfl : (wl ea (kl.map P.t) ++ (init ++ tl (x :: eb) (kr.map P.t))).length ≤ 99999)
    (hc : ∀ w2, Sep w2 (press kc) → Calls Try.prog 62 #[ptrV kc.blk] w2 fun e w' => e = .returned (.agg #[.string (kb x.key), x.val]) ∧ ∃ p', p'.blk = kc.blk ∧ Fat 1 d p'.t ∧ p'.t.flat = init ∧ Trk w2 (feet (press kc)) w' (press p')) :
    Calls Try.prog 36 #[ptrV b, .string (kb k)] w fun e w' => e = .returned (.tuple #[v, .bool true]) ∧ ∃ p', p'.blk = b ∧ Fat ((ea ++ ⟨k, v⟩ :: eb).length - 1) (d + 1) p'.t ∧ p'.t.flat = wl ea (kl.map P.t) ++ (init ++ tl (x :: eb) (kr.map P.t)) ∧
      Trk w (feet (press (.node b av (ea ++ ⟨k, v⟩ :: eb) bv (kl ++ kc :: kr)))) w' (press p') := by
  have T0 := Trk.start hs
  generalize hFF : feet (press (.node b av (ea ++ ⟨k, v⟩ :: eb) bv (kl ++ kc :: kr))) = F at *
  have T0 : Trk w F w (rBs b av bv :: rAs av (ea ++ ⟨k, v⟩ :: eb) :: rKs bv (kl ++ kc :: kr) :: (press kc ++ (presLs kl ++ presLs kr))) := T0.perm (perm_of_cnt fun a => by simp only [cnt_append, cnt_cons, cnt_nil, press, presLs, rBs, rAs, rKs, P.resL_append, P.resL_cons, P.resL_nil, P.res_node] <;> omega)
  have kb0 : Blk w b 75 [av, bv] := T0.blk (by simp only [List.mem_cons, true_or, or_true])
  have oa : Own w 94 2 av (ea ++ ⟨k, v⟩ :: eb).length (enC (ea ++ ⟨k, v⟩ :: eb)) := T0.own (by simp only [List.mem_cons, true_or, or_true])
  have ok : Own w 69 1 bv (kl ++ kc :: kr).length (ptrs (kl ++ kc :: kr)) := T0.own (by simp only [List.mem_cons, true_or, or_true])
  have HFD := Lib.hid (find_s w b _ av bv (ea ++ ⟨k, v⟩ :: eb) k (fun _ => True) kb0 (oa.sl (B := fun _ => True) (fun _ _ => trivial)) hr (by omega))
  rw [hh, ← hl] at HFD
  have HPT := Lib.hid (fun (w2 : World) (h : Own w2 69 1 bv (kl ++ kc :: kr).length (ptrs (kl ++ kc :: kr))) => sl_ptr (k := kl.length) (h.sl (B := fun _ => True) (fun _ _ => trivial)) (by simp))
  have hcl : (kl ++ kc :: kr)[kl.length]'(by simp) = kc := by simp
  rw [hcl] at HPT
  obtain ⟨gk, offk, capk, hbv, hgk, p0⟩ := HPT.out w ok
  obtain ⟨nk, hnk⟩ : ∃ nk, (kl ++ kc :: kr).length = nk := ⟨_, rfl⟩
  rw [hnk] at hbv
  have hlnk : kl.length < nk := by rw [← hnk]; simp
  have hnk0 : ¬ nk = 0 := by omega
  have HNK := Lib.hid hnk
  have HBV := Lib.hid hbv
  have HT0 := Lib.hid T0
  have hbl := kb0.lt
  have HL := Lib.hid hl

  obtain ⟨ne, hne⟩ : ∃ ne, (ea ++ ⟨k, v⟩ :: eb).length = ne := ⟨_, rfl⟩
  have hle1 : kl.length < ne := by rw [← hne, ← hal]; simp
  have hex : (ea ++ ⟨k, v⟩ :: eb)[kl.length]'(by rw [hne]; exact hle1) = ⟨k, v⟩ := by
    have h1 : (ea ++ ⟨k, v⟩ :: eb)[kl.length]? = some ⟨k, v⟩ := by rw [← hal]; simp
    have h2 : kl.length < (ea ++ ⟨k, v⟩ :: eb).length := by rw [hne]; exact hle1
    rw [List.getElem?_eq_getElem h2] at h1
    exact Option.some.inj h1
  have HEX : Hid (∀ w2, Own w2 94 2 av (ea ++ ⟨k, v⟩ :: eb).length (enC (ea ++ ⟨k, v⟩ :: eb)) → ∃ g off cap, av = .slice (some ⟨g, off, none⟩) ne cap ∧ g < w2.heap.size ∧ w2.cell? ⟨g, off + kl.length * 2, none⟩ = some (.string (kb k)) ∧ w2.cell? ⟨g, off + kl.length * 2 + 1, none⟩ = some v) := fun w2 h => by
    have h2 := sl_en (k := kl.length) (h.sl (B := fun _ => True) (fun _ _ => trivial)) (by rw [hne]; exact hle1)
    rw [hex, hne] at h2
    exact h2
  obtain ⟨ge, offe, cape, hav, hge, _, _⟩ := HEX.out w oa
  have HAV := Lib.hid hav
  have HNE := Lib.hid hne
  have HAL := Lib.hid hal
  have HXO := Lib.hid hxo
  clear T0 kb0 oa ok hh hs hFF hr hbv hcl p0 hnk hl hav hne hal hxo hex
  unfold ptrV at HFD hc ⊢
  go_enter Try.func36, Try.ntmps36
  go_wp2_with fail
  refine HFD.out.mono ?_
  clear HFD
  rintro e w2 ⟨rfl, hb2⟩
  have T2 := HT0.out.below hb2
  have kb2 : Blk w2 b 75 [av, bv] := T2.blk (by simp only [List.mem_cons, true_or, or_true])
  have ok2 : Own w2 69 1 bv (kl ++ kc :: kr).length (ptrs (kl ++ kc :: kr)) := T2.own (by simp only [List.mem_cons, true_or, or_true])
  have oa2 : Own w2 94 2 av (ea ++ ⟨k, v⟩ :: eb).length (enC (ea ++ ⟨k, v⟩ :: eb)) := T2.own (by simp only [List.mem_cons, true_or, or_true])
  have hlf := leaf_s w2 b _ av (some ⟨gk, offk, none⟩) nk capk (HBV.out ▸ kb2)
  rw [decide_eq_false hnk0] at hlf
  have HLF := Lib.hid hlf
  unfold ptrV at HLF
  obtain ⟨g', off', cap', hv', hg2, p0⟩ := HPT.out w2 ok2
  rw [HBV.out, HNK.out] at hv'
  cases hv'
  obtain ⟨g', off', cap', hv', hg3, v0, v1⟩ := HEX.out w2 oa2
  rw [HAV.out] at hv'
  cases hv'
  obtain ⟨y0, y1⟩ := pg_cells kb2
  rw [HBV.out] at y1
  rw [HAV.out] at y0
  have T2 : Trk w F w2.drew (press kc ++ (rBs b av bv :: rAs av (ea ++ ⟨k, v⟩ :: eb) :: rKs bv (kl ++ kc :: kr) :: (presLs kl ++ presLs kr))) := T2.drew.perm (perm_of_cnt fun a => by simp only [cnt_append, cnt_cons, cnt_nil, press, presLs, rBs, rAs, rKs, P.resL_append, P.resL_cons, P.resL_nil, P.res_node] <;> omega)
  have HC := Lib.hid (hc w2.drew T2.sep.left)
  have HT2 := Lib.hid T2
  have HKB2 := Lib.hid kb2.drew
  unfold ptrV at p0
  clear T2 kb2 ok2 oa2 hlf hb2 hc
  go_wp2_with fail
  refine HLF.out.mono ?_
  rintro e wq ⟨rfl, hq⟩
  subst hq
  go_wp2_with fail
  refine HLF.out.mono ?_
  rintro e wq2 ⟨rfl, hq⟩
  subst hq
  go_wp2_with fail
  refine wp_region_lit_plan [] [(0, 0), (1, 0), (2, 0), (3, 0), (5, 0), (6, 0), (7, 0), (8, 0), (10, 0), (4, 2), (9, 1), (11, 0), (12, 1), (13, 3), (14, 0), (15, 4)] (fun q => q = b) (by kernel_rfl) (by kernel_rfl) (fun c a d v w h => by cases d <;> exact h) ?_
  go_wp2_with (first | (refine plan_pure (v := _) (by rfl) (by rfl) (by rfl) (by intro _; go_simp; with_reducible rfl) ?_; simp only [List.setIfInBounds_toArray, List.set_cons_zero, List.set_cons_succ]; try go_bits) | (refine plan_read (v := _) (by rfl) (by rfl) (by rfl) (by go_simp; with_reducible rfl) ?_; simp only [List.setIfInBounds_toArray, List.set_cons_zero, List.set_cons_succ]; try go_bits) | (refine plan_readB (v := _) (by rfl) (by rfl) (by rfl) (by intro _ hag; unfold Agree at hag; go_simp; with_reducible rfl) ?_; simp only [List.setIfInBounds_toArray, List.set_cons_zero, List.set_cons_succ]; try go_bits) | (refine plan_skip0 (by rfl) (by rfl) (by rfl) ?_; simp only [List.setIfInBounds_toArray, List.set_cons_zero, List.set_cons_succ]; try go_bits) | (refine plan_skip1 (by rfl) (by rfl) (by rfl) ?_; simp only [List.setIfInBounds_toArray, List.set_cons_zero, List.set_cons_succ]; try go_bits) | (refine plan_skip2 (by rfl) (by rfl) (by rfl) ?_; simp only [List.setIfInBounds_toArray, List.set_cons_zero, List.set_cons_succ]; try go_bits) | (refine plan_skip4 (by rfl) (by rfl) (by rfl) ?_; simp only [List.setIfInBounds_toArray, List.set_cons_zero, List.set_cons_succ]; try go_bits) | (refine plan_any (by rfl) ?_) | (refine plan_keep (by rfl) ?_) | (refine plan_nil ?_) | (with_reducible refine And.intro (by first | assumption | exact Agree.refl _ _ | exact agree_drew _ _ | exact agree_alloc _ (by intro k hk; subst hk; first | omega | (simp; omega))) ?_) | (unfold Act.put; simp only [List.setIfInBounds_toArray, List.set_cons_zero, List.set_cons_succ]))
  refine HC.out.mono ?_
  rintro e w3 ⟨rfl, p', hpb, hpf, hpfl, hT3⟩
  have T3 := HT2.out.call hT3
  obtain ⟨cb, cav, ces, cbv, cks, rfl⟩ := P.eta p'
  obtain rfl : cb = kc.blk := hpb
  have hptr : ptrs (kl ++ .node kc.blk cav ces cbv cks :: kr) = ptrs (kl ++ kc :: kr) := by simp [ptrs, P.blk]
  have hlen : (kl ++ P.node kc.blk cav ces cbv cks :: kr).length = (kl ++ kc :: kr).length := by simp
  have T3 : Trk w F w3 (rAs av (ea ++ ⟨k, v⟩ :: eb) :: rBs b av bv :: rKs bv (kl ++ .node kc.blk cav ces cbv cks :: kr) :: presLs (kl ++ .node kc.blk cav ces cbv cks :: kr)) := T3.perm (perm_of_cnt fun a => by simp only [cnt_append, cnt_cons, cnt_nil, press, presLs, rBs, rAs, rKs, P.resL_append, P.resL_cons, P.res_node, hptr, hlen] <;> omega)
  have kb3 : Blk w3 b 75 [av, bv] := T3.blk (by simp only [List.mem_cons, true_or, or_true])
  have oa3 : Own w3 94 2 av (ea ++ ⟨k, v⟩ :: eb).length (enC (ea ++ ⟨k, v⟩ :: eb)) := T3.own (by simp only [List.mem_cons, true_or, or_true])
  have hag := agree_blk HKB2.out kb3
  obtain ⟨g', off', cap', hv', hg4, v0, v1⟩ := HEX.out w3 oa3
  rw [HAV.out] at hv'
  cases hv'
  rw [HAV.out, HNE.out] at oa3
  have hf0 : w3.frozen? ⟨ge, offe + kl.length * 2, none⟩ = false := (oa3.cellAt (j := kl.length * 2) (by omega)).2
  have hf1 : w3.frozen? ⟨ge, offe + kl.length * 2 + 1, none⟩ = false := by
    have h1 := (oa3.cellAt (j := kl.length * 2 + 1) (by omega)).2
    rwa [← Nat.add_assoc] at h1
  have hxo := HXO.out
  have HT3 := Lib.hid T3
  have HPF := Lib.hid hpf
  have HPFL := Lib.hid hpfl
  clear hT3 T3 oa3 hpf hpfl HC HLF HT2 HKB2 HT0
  go_upto_region 11 with (first | (refine plan_pure (v := _) (by rfl) (by rfl) (by rfl) (by intro _; go_simp; with_reducible rfl) ?_; simp only [List.setIfInBounds_toArray, List.set_cons_zero, List.set_cons_succ]; try go_bits) | (refine plan_read (v := _) (by rfl) (by rfl) (by rfl) (by go_simp; with_reducible rfl) ?_; simp only [List.setIfInBounds_toArray, List.set_cons_zero, List.set_cons_succ]; try go_bits) | (refine plan_readB (v := _) (by rfl) (by rfl) (by rfl) (by intro _ hag; unfold Agree at hag; go_simp; with_reducible rfl) ?_; simp only [List.setIfInBounds_toArray, List.set_cons_zero, List.set_cons_succ]; try go_bits) | (refine plan_skip0 (by rfl) (by rfl) (by rfl) ?_; simp only [List.setIfInBounds_toArray, List.set_cons_zero, List.set_cons_succ]; try go_bits) | (refine plan_skip1 (by rfl) (by rfl) (by rfl) ?_; simp only [List.setIfInBounds_toArray, List.set_cons_zero, List.set_cons_succ]; try go_bits) | (refine plan_skip2 (by rfl) (by rfl) (by rfl) ?_; simp only [List.setIfInBounds_toArray, List.set_cons_zero, List.set_cons_succ]; try go_bits) | (refine plan_skip4 (by rfl) (by rfl) (by rfl) ?_; simp only [List.setIfInBounds_toArray, List.set_cons_zero, List.set_cons_succ]; try go_bits) | (refine plan_any (by rfl) ?_) | (refine plan_keep (by rfl) ?_) | (refine plan_nil ?_) | (with_reducible refine And.intro (by first | assumption | exact Agree.refl _ _ | exact agree_drew _ _ | exact agree_alloc _ (by intro k hk; subst hk; first | omega | (simp; omega))) ?_) | (unfold Act.put; simp only [List.setIfInBounds_toArray, List.set_cons_zero, List.set_cons_succ]))
  have T4 : Trk w F ((w3.setCell ⟨ge, offe + kl.length * 2, none⟩ (.string (kb x.key))).setCell ⟨ge, offe + kl.length * 2 + 1, none⟩ x.val) (rAs av (ea ++ x :: eb) :: rBs b av bv :: rKs bv (kl ++ .node kc.blk cav ces cbv cks :: kr) :: presLs (kl ++ .node kc.blk cav ces cbv cks :: kr)) := by
    have h := HT3.out
    have e : (ea ++ ⟨k, v⟩ :: eb).set kl.length x = ea ++ x :: eb := set_len HAL.out
    rw [← e]
    rw [HAV.out] at h ⊢
    exact h.setEn HNE.out.symm (by rw [HNE.out]; exact hle1) x hxo
  generalize ((w3.setCell ⟨ge, offe + kl.length * 2, none⟩ (.string (kb x.key))).setCell ⟨ge, offe + kl.length * 2 + 1, none⟩ x.val) = w4 at *
  have T4 : Trk w F w4 (press (.node b av (ea ++ x :: eb) bv (kl ++ .node kc.blk cav ces cbv cks :: kr))) := T4.perm (perm_of_cnt fun a => by simp only [cnt_append, cnt_cons, cnt_nil, press, presLs, rBs, rAs, rKs, P.resL_append, P.resL_cons, P.resL_nil, P.res_node] <;> omega)
  have hff : (T.node (ea ++ x :: eb) ((kl ++ P.node kc.blk cav ces cbv cks :: kr).map P.t)).flat = wl ea (kl.map P.t) ++ (init ++ tl (x :: eb) (kr.map P.t)) := by
    have h1 := flat_at ea (x :: eb) (kl.map P.t) (P.node kc.blk cav ces cbv cks).t (kr.map P.t) (by rw [List.length_map]; exact HAL.out)
    rw [HPFL.out] at h1
    rw [List.map_append, List.map_cons]
    exact h1
  have hesl : (ea ++ x :: eb).length = (ea ++ ⟨k, v⟩ :: eb).length := by simp
  have hmd := mend_s d w4 b av bv (ea ++ x :: eb) kl (.node kc.blk cav ces cbv cks) kr T4.sep (by rw [hlen, hesl]; exact hk) (by simp <;> omega) hF HPF.out (by rw [hff]; exact hfl)
  rw [hesl] at hmd
  unfold ptrV at hmd
  have HMD := Lib.hid hmd
  have HT4 := Lib.hid T4
  have HFF := Lib.hid hff
  clear T4 hff hmd hag kb3 v0 v1 hf0 hf1 hxo HT3 hptr hlen hesl
  go_wp2_with fail
  refine HMD.out.mono ?_
  rintro e w5 ⟨rfl, p2, hb2, hf2, hfl2, hT2⟩
  have T5 := HT4.out.use (rest := []) (by rw [List.append_nil]) hT2
  rw [List.append_nil] at T5
  have HT5 := Lib.hid T5
  have HB2 := Lib.hid hb2
  have HF2 := Lib.hid hf2
  have HFL2 := Lib.hid hfl2
  clear T5 hT2 hb2 hf2 hfl2 HMD HT4
  go_wp2
  exact bodyPost_ret (v := .tuple #[v, .bool true]) (by simp [results, Try.results36, go_sem]) rfl ⟨rfl, p2, HB2.out, HF2.out, by rw [HFL2.out, HFF.out], HT5.out⟩

end Go.Proofs.Ytfnndifckgjmjaa
/- Trees: Delete. -/
namespace Go.Proofs.Ytfnndifckgjmjaa
open Go.RowKit Go.Afx

theorem drop_any_s (k : Key) : ∀ (d m : Nat) (w : World) (p : P), (0 < d → 1 ≤ m) → Fat m d p.t → Rise p.t.flat → p.t.flat.length ≤ 99999 → Sep w (press p) →
    Calls Try.prog 36 #[ptrV p.blk, .string (kb k)] w fun e w' => e = .returned (.tuple #[(Afx.look k p.t.flat).getD (.string ⟨#[]⟩), .bool (Afx.look k p.t.flat).isSome]) ∧ ∃ p', p'.blk = p.blk ∧ Fat (m - 1) d p'.t ∧ p'.t.flat = del k p.t.flat ∧ Trk w (feet (press p)) w' (press p') := by
  intro d
  induction d with
  | zero =>
    intro m w p hm hf hr hn hs
    obtain ⟨b, av, es, bv, ks, rfl⟩ := P.eta p
    rw [P.t_node] at hf hr hn ⊢
    have hk0 : ks = [] := by simpa using hf.2
    subst hk0
    simp only [List.map_nil] at *
    rw [flat_leaf] at *
    have hn2 : es.length ≤ 99999 := hn
    obtain ⟨a, b', hlf⟩ := leaf_page (k := k) (es := es) (by rw [flat_leaf]; exact hr)
    have hlk := hlf.look
    have hdl := hlf.del
    cases hh : has k es
    · refine (drop_leaf0_s w b av bv es k hs hr hn2 hh).mono ?_
      rintro e w' ⟨rfl, hT⟩
      rw [hlk.2 hh]
      refine ⟨rfl, .node b av es bv [], rfl, ?_, ?_, hT⟩
      · rw [P.t_node]; exact hf.weaken (by omega)
      · rw [P.t_node, hdl.2 hh]; exact flat_leaf _
    · refine (drop_leaf1_s w b av bv es k hs hr hn2 hh).mono ?_
      rintro e w' ⟨x, hx, rfl, av', hT⟩
      obtain ⟨x2, hx2, _, hl2⟩ := hlk.1 hh
      rw [hx] at hx2
      cases hx2
      rw [hl2]
      refine ⟨rfl, .node b av' (es.take (pos k es) ++ es.drop (pos k es + 1)) bv [], rfl, ?_, ?_, hT⟩
      · rw [P.t_node]
        refine ⟨?_, rfl⟩
        have h1 := hf.1
        obtain ⟨h2, _⟩ := List.getElem?_eq_some_iff.1 hx
        simp
        omega
      · obtain ⟨v, b2, hb2, hd2⟩ := hdl.1 hh
        have he : es = a ++ ⟨k, v⟩ :: b2 := by rw [hlf.es_, hb2]
        have e1 : (T.node (es.take (pos k es) ++ es.drop (pos k es + 1)) []).flat = es.take (pos k es) ++ es.drop (pos k es + 1) := flat_leaf _
        rw [P.t_node]
        show (T.node _ []).flat = _
        rw [e1, hd2, ← hlf.al]
        conv => lhs; rw [he]
        simp
  | succ d ih =>
    intro m w p hm hf hr hn hs
    obtain ⟨b, av, es, bv, ks, rfl⟩ := P.eta p
    rw [P.t_node] at hf hr hn ⊢
    obtain ⟨hf1, hf2, hf3⟩ := hf
    have hm1 := hm (by omega)
    have hel : es.length ≤ 99999 := Nat.le_trans (es_flat_len (.node es _)) hn
    have hkl : ks.length = es.length + 1 := by simpa using hf2
    obtain ⟨a, bb, l, c, r, hsp, hg⟩ := split_page (k := k) hr hf2
    have hlk := hsp.look
    have hdl := hsp.del
    have hres := hr.es
    have hpl : pos k es < ks.length := by have := pos_le k es; omega
    have hcm : (ks[pos k es]).t = c := by
      rw [List.getElem?_map, List.getElem?_eq_getElem hpl] at hg
      simpa using hg
    have hks : ks = ks.take (pos k es) ++ ks[pos k es] :: ks.drop (pos k es + 1) := by rw [← List.drop_eq_getElem_cons hpl, List.take_append_drop]
    have hkll : (ks.take (pos k es)).length = pos k es := by rw [List.length_take]; omega
    generalize hkc : ks[pos k es] = kc at *
    generalize ks.take (pos k es) = kl at *
    generalize ks.drop (pos k es + 1) = kr at *
    subst hks
    have hlr : kl.map P.t = l ∧ kr.map P.t = r := by
      have h1 := hsp.ts_
      rw [List.map_append, List.map_cons] at h1
      have h2 := List.append_inj h1 (by rw [List.length_map, hkll]; exact hsp.ll.symm)
      have h3 := List.cons_eq_cons.1 h2.2
      exact ⟨h2.1, h3.2⟩
    obtain ⟨hl1, hr1⟩ := hlr
    have hfl := hsp.fl
    have hr2 : Rise c.flat := by rw [hfl] at hr; exact hr.right.left
    have hn2 : c.flat.length ≤ 99999 := by rw [hfl] at hn; simp at hn; omega
    have hfc : Fat 2 d c := hf3 c (by rw [← hcm, List.mem_map]; exact ⟨kc, by simp, rfl⟩)
    have hFF : ∀ q ∈ kl ++ kr, Fat 2 d q.t := fun q hq => hf3 q.t (by
      rw [List.mem_map]
      refine ⟨q, ?_, rfl⟩
      rcases List.mem_append.1 hq with h | h
      · exact List.mem_append_left _ h
      · exact List.mem_append_right _ (List.mem_cons_of_mem _ h))
    have hes := hsp.es_
    have hal : a.length = kl.length := by rw [hkll]; exact hsp.al
    cases hh : has k es
    · have hdf := hdl.2 hh
      have hdlen : (wl a (kl.map P.t) ++ (del k c.flat ++ tl bb (kr.map P.t))).length ≤ 99999 := by
        rw [hl1, hr1, ← hdf]
        exact Nat.le_trans (del_length k _) hn
      subst hes
      refine (drop_in_s d w b av bv a bb kl kc kr k ((Afx.look k c.flat).getD (.string ⟨#[]⟩)) (Afx.look k c.flat).isSome (del k c.flat) hs hres hkl (by omega) hFF hel hh hkll hal hdlen (fun w2 hs2 => ?_)).mono ?_
      · have h1 := ih 2 w2 kc (fun _ => by omega) (hcm ▸ hfc) (hcm ▸ hr2) (hcm ▸ hn2) hs2
        rw [hcm] at h1
        exact h1
      · rintro e w' ⟨rfl, p', hb', hf', ht', hT⟩
        rw [hlk.2 hh]
        exact ⟨rfl, p', hb', hf'.weaken (by omega), by rw [ht', hdf, hl1, hr1], hT⟩
    · obtain ⟨v, rest, hd1, hd2, hd3⟩ := hdl.1 hh
      rcases hsp.hit with ⟨_, _, v', b', c', r', hb, hrr, _, _⟩ | ⟨h2, _⟩
      · subst hb
        rw [tl] at hd3
        have hv : v' = v := by
          have := (List.cons_eq_cons.1 hd3).1
          exact (En.mk.inj this).2
        have hrest := (List.cons_eq_cons.1 hd3).2
        subst hv
        have hcne : c.flat ≠ [] := fun e => by
          have h3 := es_flat_len c
          have h4 := hfc.len
          rw [e, List.length_nil] at h3
          omega
        have hci : c.flat = c.flat.dropLast ++ [c.flat.getLast hcne] := (List.dropLast_concat_getLast hcne).symm
        have hci2 : kc.t.flat = c.flat.dropLast ++ [c.flat.getLast hcne] := by rw [hcm]; exact hci
        have htx : tl (c.flat.getLast hcne :: b') (kr.map P.t) = c.flat.getLast hcne :: rest := by rw [tl, hr1, hrest]
        have hdd : del k (T.node es ((kl ++ kc :: kr).map P.t)).flat = wl a (kl.map P.t) ++ (c.flat.dropLast ++ tl (c.flat.getLast hcne :: b') (kr.map P.t)) := by
          rw [hd2, hl1, htx]
          have h5 : c.flat ++ rest = c.flat.dropLast ++ c.flat.getLast hcne :: rest := by
            conv => lhs; rw [hci]
            simp
          rw [h5]
        have hxo : (c.flat.getLast hcne).val.oneCell' = true := pres_oness hs _ (by rw [P.t_node, hfl]; simp)
        have hdlen := del_length k (T.node es ((kl ++ kc :: kr).map P.t)).flat
        rw [hdd] at hdlen
        obtain ⟨x2, hx2, hx3, hl2⟩ := hlk.1 hh
        rw [hl2, hdd]
        have hx4 : x2.val = v' := by
          have h6 : es[pos k es]? = some ⟨k, v'⟩ := by rw [← hsp.al, hes]; simp
          rw [hx2] at h6
          rw [Option.some.inj h6]
        subst hes
        refine (drop_hit_s d w b av bv a b' kl kc kr k v' (c.flat.getLast hcne) c.flat.dropLast hs hres hkl hFF hel hh hkll hal hxo (by omega) (fun w2 hs2 => ?_)).mono ?_
        · exact last_any_s d 2 w2 kc (c.flat.getLast hcne) c.flat.dropLast (by omega) (hcm ▸ hfc) hci2 (hcm ▸ hn2) hs2
        · rintro e w' ⟨rfl, p', hb', hf', ht', hT⟩
          exact ⟨by rw [hx4]; rfl, p', hb', hf'.weaken (by omega), ht', hT⟩
      · rw [hh] at h2; cases h2


set_option maxRecDepth 100000 in
set_option maxHeartbeats 4000000 in
theorem tdel_s (w : World) (tb : Nat) (p : P) (d n : Nat) (k : Key) (hs : Sep w (trss tb p n)) (hg : Afx.Good d p.t) (hn : n = p.t.flat.length) (hl : n ≤ 99999) :
    Calls Try.prog 21 #[ptrV tb, .string (kb k)] w fun e w' => e = .returned (.tuple #[(Afx.look k p.t.flat).getD (.string ⟨#[]⟩), .bool (Afx.look k p.t.flat).isSome]) ∧ ∃ d' p', Afx.Good d' p'.t ∧ p'.t.flat = del k p.t.flat ∧
      Trk w (feet (trss tb p n)) w' (trss tb p' (if (Afx.look k p.t.flat).isSome then n - 1 else n)) := by
  have T0 := Trk.start hs
  generalize hF : feet (trss tb p n) = F at *
  have kt0 : Blk w tb 77 [ptrV p.blk, .int .i64 (n : Int)] := T0.blk (by simp only [List.mem_cons, true_or, or_true])
  have HDROP := Lib.hid (drop_any_s k d (min 1 d) w p (by omega) hg.fat hg.rise (by omega) (hs.right (a := [rTs tb p n])))
  obtain ⟨c0, c1⟩ := pg_cells kt0
  have hrd := hg.rise.del (k := k)
  have hyn : (Afx.look k p.t.flat).isSome = true → 1 ≤ n := fun h => by
    rw [hn]
    cases hq : p.t.flat with
    | nil => rw [hq] at h; simp [Afx.look] at h
    | cons a t => simp
  have hdl : (del k p.t.flat).length ≤ 99999 := Nat.le_trans (del_length k _) (by omega)
  have HT0 := Lib.hid T0
  have HRD := Lib.hid hrd
  generalize del k p.t.flat = fl' at *
  generalize hx : (Afx.look k p.t.flat).getD (.string ⟨#[]⟩) = x at *
  generalize hy : (Afx.look k p.t.flat).isSome = y at *
  have hnf : (n : Int) ≤ 99999 := by omega
  unfold ptrV at c0 HDROP ⊢
  have hm0 : min 1 d - 1 = 0 := by omega
  rw [hm0] at HDROP
  clear T0 kt0 hs hF hg hn hx hy hrd hm0
  go_enter Try.func21, Try.ntmps21
  go_wp2_with fail
  refine HDROP.out.mono ?_
  clear HDROP
  rintro e w2 ⟨rfl, p', hpb, hpf, hpfl, hT⟩
  have hp1 : (trss tb p n).Perm (press p ++ [rTs tb p n]) := perm_of_cnt fun a => by simp only [cnt_append, cnt_cons, cnt_nil, trss, rTs, P.blk_node, press, presLs, rBs, rAs, rKs, P.resL_append, P.resL_cons, P.resL_nil, P.res_node] <;> omega
  have T2 := HT0.out.use hp1 hT
  obtain ⟨cb, cav, ces, cbv, cks, rfl⟩ := P.eta p'
  obtain rfl : cb = p.blk := hpb
  rw [P.t_node] at hpf hpfl
  have T3 : Trk w F w2 (rTs tb p n :: rBs p.blk cav cbv :: rAs cav ces :: rKs cbv cks :: presLs cks) := T2.perm (perm_of_cnt fun a => by simp only [cnt_append, cnt_cons, cnt_nil, trss, rTs, P.blk_node, press, presLs, rBs, rAs, rKs, P.resL_append, P.resL_cons, P.resL_nil, P.res_node] <;> omega)
  have kt2 : Blk w2 tb 77 [ptrV p.blk, .int .i64 (n : Int)] := T3.blk (by simp only [List.mem_cons, true_or, or_true])
  have hcel : ces.length ≤ 99999 := by
    have h1 := es_flat_len (T.node ces (cks.map P.t))
    rw [hpfl] at h1
    exact Nat.le_trans h1 hdl
  obtain ⟨kd0, kd1, _⟩ := hpf.kids
  have hkn : cks.length ≤ 100000 := by
    rcases Nat.eq_zero_or_pos d with h | h
    · have := kd0 h; have h3 : cks.length = (cks.map P.t).length := by rw [List.length_map]
      rw [h3, this]; simp
    · have := (kd1 h).1; rw [List.length_map] at this; omega
  obtain ⟨x0, x1⟩ := pg_cells kt2
  unfold ptrV at x0
  have hf1 := kt2.frozen 1
  have HT3 := Lib.hid T3
  have HPF := Lib.hid hpf
  have HPFL := Lib.hid hpfl
  clear T2 T3 kt2 hp1 hT c0 c1 HT0 hpf hpfl
  cases y
  · go_upto_region 7 with fail
    obtain ⟨n', hn'⟩ : ∃ n', n' = n := ⟨_, rfl⟩
    obtain ⟨wX, hwX⟩ : ∃ wX, wX = w2 := ⟨_, rfl⟩
    have TX : Trk w F wX (Res.blk tb 77 [ptrV p.blk, .int .i64 (n' : Int)] :: rBs p.blk cav cbv :: rAs cav ces :: rKs cbv cks :: presLs cks) := by rw [hwX, hn']; exact HT3.out
    rw [← hwX]
    have HN := Lib.hid hn'
    clear hn' hwX
    have ktX : Blk wX tb 77 [ptrV p.blk, .int .i64 (n' : Int)] := TX.blk (by simp only [List.mem_cons, true_or, or_true])
    have kpX : Blk wX p.blk 75 [cav, cbv] := TX.blk (by simp only [List.mem_cons, true_or, or_true])
    have oaX : Own wX 94 2 cav ces.length (enC ces) := TX.own (by simp only [List.mem_cons, true_or, or_true])
    have okX : Own wX 69 1 cbv cks.length (ptrs cks) := TX.own (by simp only [List.mem_cons, true_or, or_true])
    obtain ⟨pa, ca, hav, _, _⟩ := own_form_Es oaX
    obtain ⟨pk, ck, hbv, _, _⟩ := own_form_Ps okX
    obtain ⟨x0, x1⟩ := pg_cells ktX
    obtain ⟨y0, y1⟩ := pg_cells kpX
    have hf0 := ktX.frozen 0
    rw [hav] at y0
    rw [hbv] at y1
    unfold ptrV at x0
    have hlf := leaf_s wX p.blk _ cav pk cks.length ck (hbv ▸ kpX)
    unfold ptrV at hlf
    have HTX := Lib.hid TX
    by_cases hc0 : ces.length = 0
    · have hces : ces = [] := List.eq_nil_of_length_eq_zero hc0
      have hc0i : ((ces.length : Int) == 0) = true := by rw [hc0]; rfl
      rcases cks with _ | ⟨k1, ks1⟩
      · rw [show decide (([] : List P).length = 0) = true from rfl] at hlf
        have HLF := Lib.hid hlf
        have HCES := Lib.hid hces
        have HBV := Lib.hid hbv
        have HAV := Lib.hid hav
        clear TX ktX kpX oaX okX hlf hces hbv hav
        go_wp2_with fail
        refine HLF.out.mono ?_
        rintro e wq ⟨rfl, hq⟩
        subst hq
        go_wp2
        refine bodyPost_ret (v := .tuple #[x, .bool false]) (by simp [results, Try.results21, go_sem]) rfl ⟨rfl, d, .node p.blk cav ces cbv [], ⟨?_, ?_⟩, ?_, ?_⟩
        · rw [P.t_node]
          rcases Nat.eq_zero_or_pos d with h | h
          · subst h
            exact HPF.out.weaken (by omega)
          · have := (kd1 h).1; simp at this
        · rw [P.t_node, HPFL.out]; exact HRD.out
        · rw [P.t_node, HPFL.out]
        · show Trk w F _ (trss tb (.node p.blk cav ces cbv []) n)
          rw [← HN.out]
          exact HTX.out.perm (perm_of_cnt fun a => by simp only [cnt_append, cnt_cons, cnt_nil, trss, rTs, P.blk_node, press, presLs, rBs, rAs, rKs, P.resL_append, P.resL_cons, P.resL_nil, P.res_node] <;> omega)
      · rw [decide_eq_false (by simp)] at hlf
        have hd : 0 < d := by
          rcases Nat.eq_zero_or_pos d with h | h
          · have := kd0 h; simp at this
          · exact h
        have hk1 : ks1 = [] := by
          have h1 := (kd1 hd).1
          rw [hces] at h1
          simp at h1
          exact h1
        subst hk1
        obtain ⟨gk, offk, capk, hbv2, hgk, p0⟩ := sl_ptr (k := 0) (okX.sl (B := fun _ => True) (fun _ _ => trivial)) (by simp)
        rw [hbv] at hbv2
        cases hbv2
        have p0 : wX.cell? ⟨gk, offk, none⟩ = some (.pointer (some ⟨k1.blk, 0, none⟩)) := p0
        have HLF := Lib.hid hlf
        have HCES := Lib.hid hces
        have HBV := Lib.hid hbv
        have HAV := Lib.hid hav
        clear TX ktX kpX oaX okX hlf hces hbv hav
        go_wp2_with fail
        refine HLF.out.mono ?_
        rintro e wq ⟨rfl, hq⟩
        subst hq
        go_wp2
        have T9 := HTX.out.blkSet 0 (.pointer (some ⟨k1.blk, 0, none⟩))
        refine bodyPost_ret (v := .tuple #[x, .bool false]) (by simp [results, Try.results21, go_sem]) rfl ⟨rfl, d - 1, k1, ⟨?_, ?_⟩, ?_, ?_⟩
        · exact ((kd1 hd).2 k1.t (by simp)).weaken (by omega)
        · have h1 := HPFL.out
          rw [HCES.out, flat_node, List.map_cons, List.map_nil, flatL_end, flatL_nil, List.append_nil] at h1
          rw [h1]; exact HRD.out
        · have h1 := HPFL.out
          rw [HCES.out, flat_node, List.map_cons, List.map_nil, flatL_end, flatL_nil, List.append_nil] at h1
          exact h1
        · show Trk w F _ (trss tb k1 n)
          rw [← HN.out]
          have T9 : Trk w F _ ([rBs p.blk cav cbv, rAs cav ces, rKs cbv [k1]] ++ trss tb k1 n') := T9.perm (perm_of_cnt fun a => by simp only [cnt_append, cnt_cons, cnt_nil, trss, rTs, ptrV, P.blk_node, press, presLs, rBs, rAs, rKs, P.resL_append, P.resL_cons, P.resL_nil, P.res_node, List.set_cons_zero] <;> omega)
          exact T9.right
    · have hc0i : ((ces.length : Int) == 0) = false := by rw [beq_eq_false_iff_ne]; omega
      have hc0j : ¬ ((ces.length : Int) = 0) := by omega
      clear TX ktX kpX oaX okX hlf hbv hav
      go_wp2
      refine bodyPost_ret (v := .tuple #[x, .bool false]) (by simp [results, Try.results21, go_sem]) rfl ⟨rfl, d, .node p.blk cav ces cbv cks, ⟨?_, ?_⟩, ?_, ?_⟩
      · rw [P.t_node]
        exact HPF.out.of_len (show min 1 d ≤ ces.length by omega)
      · rw [P.t_node, HPFL.out]; exact HRD.out
      · rw [P.t_node, HPFL.out]
      · show Trk w F _ (trss tb (.node p.blk cav ces cbv cks) n)
        rw [← HN.out]
        exact HTX.out.perm (perm_of_cnt fun a => by simp only [cnt_append, cnt_cons, cnt_nil, trss, rTs, P.blk_node, press, presLs, rBs, rAs, rKs, P.resL_append, P.resL_cons, P.resL_nil, P.res_node] <;> omega)
  · have hn1 := hyn rfl
    have hni : (1 : Int) ≤ (n : Int) := by omega
    have hcs : ((n - 1 : Nat) : Int) = (n : Int) - 1 := by omega
    go_upto_region 7 with fail
    have T4 := HT3.out.blkSet 1 (.int .i64 ((n : Int) - 1))
    obtain ⟨n', hn'⟩ : ∃ n', n' = n - 1 := ⟨_, rfl⟩
    have TX : Trk w F (w2.setCell ⟨tb, 1, none⟩ (.int .i64 ((n : Int) - 1))) (Res.blk tb 77 [ptrV p.blk, .int .i64 (n' : Int)] :: rBs p.blk cav cbv :: rAs cav ces :: rKs cbv cks :: presLs cks) := by
      rw [hn', hcs]; exact T4
    generalize (w2.setCell ⟨tb, 1, none⟩ (.int .i64 ((n : Int) - 1))) = wX at *
    have HN := Lib.hid hn'
    clear hn' T4 hcs
    have ktX : Blk wX tb 77 [ptrV p.blk, .int .i64 (n' : Int)] := TX.blk (by simp only [List.mem_cons, true_or, or_true])
    have kpX : Blk wX p.blk 75 [cav, cbv] := TX.blk (by simp only [List.mem_cons, true_or, or_true])
    have oaX : Own wX 94 2 cav ces.length (enC ces) := TX.own (by simp only [List.mem_cons, true_or, or_true])
    have okX : Own wX 69 1 cbv cks.length (ptrs cks) := TX.own (by simp only [List.mem_cons, true_or, or_true])
    obtain ⟨pa, ca, hav, _, _⟩ := own_form_Es oaX
    obtain ⟨pk, ck, hbv, _, _⟩ := own_form_Ps okX
    obtain ⟨x0, x1⟩ := pg_cells ktX
    obtain ⟨y0, y1⟩ := pg_cells kpX
    have hf0 := ktX.frozen 0
    rw [hav] at y0
    rw [hbv] at y1
    unfold ptrV at x0
    have hlf := leaf_s wX p.blk _ cav pk cks.length ck (hbv ▸ kpX)
    unfold ptrV at hlf
    have HTX := Lib.hid TX
    by_cases hc0 : ces.length = 0
    · have hces : ces = [] := List.eq_nil_of_length_eq_zero hc0
      have hc0i : ((ces.length : Int) == 0) = true := by rw [hc0]; rfl
      rcases cks with _ | ⟨k1, ks1⟩
      · rw [show decide (([] : List P).length = 0) = true from rfl] at hlf
        have HLF := Lib.hid hlf
        have HCES := Lib.hid hces
        have HBV := Lib.hid hbv
        have HAV := Lib.hid hav
        clear TX ktX kpX oaX okX hlf hces hbv hav
        go_wp2_with fail
        refine HLF.out.mono ?_
        rintro e wq ⟨rfl, hq⟩
        subst hq
        go_wp2
        refine bodyPost_ret (v := .tuple #[x, .bool true]) (by simp [results, Try.results21, go_sem]) rfl ⟨rfl, d, .node p.blk cav ces cbv [], ⟨?_, ?_⟩, ?_, ?_⟩
        · rw [P.t_node]
          rcases Nat.eq_zero_or_pos d with h | h
          · subst h
            exact HPF.out.weaken (by omega)
          · have := (kd1 h).1; simp at this
        · rw [P.t_node, HPFL.out]; exact HRD.out
        · rw [P.t_node, HPFL.out]
        · show Trk w F _ (trss tb (.node p.blk cav ces cbv []) (n - 1))
          rw [← HN.out]
          exact HTX.out.perm (perm_of_cnt fun a => by simp only [cnt_append, cnt_cons, cnt_nil, trss, rTs, P.blk_node, press, presLs, rBs, rAs, rKs, P.resL_append, P.resL_cons, P.resL_nil, P.res_node] <;> omega)
      · rw [decide_eq_false (by simp)] at hlf
        have hd : 0 < d := by
          rcases Nat.eq_zero_or_pos d with h | h
          · have := kd0 h; simp at this
          · exact h
        have hk1 : ks1 = [] := by
          have h1 := (kd1 hd).1
          rw [hces] at h1
          simp at h1
          exact h1
        subst hk1
        obtain ⟨gk, offk, capk, hbv2, hgk, p0⟩ := sl_ptr (k := 0) (okX.sl (B := fun _ => True) (fun _ _ => trivial)) (by simp)
        rw [hbv] at hbv2
        cases hbv2
        have p0 : wX.cell? ⟨gk, offk, none⟩ = some (.pointer (some ⟨k1.blk, 0, none⟩)) := p0
        have HLF := Lib.hid hlf
        have HCES := Lib.hid hces
        have HBV := Lib.hid hbv
        have HAV := Lib.hid hav
        clear TX ktX kpX oaX okX hlf hces hbv hav
        go_wp2_with fail
        refine HLF.out.mono ?_
        rintro e wq ⟨rfl, hq⟩
        subst hq
        go_wp2
        have T9 := HTX.out.blkSet 0 (.pointer (some ⟨k1.blk, 0, none⟩))
        refine bodyPost_ret (v := .tuple #[x, .bool true]) (by simp [results, Try.results21, go_sem]) rfl ⟨rfl, d - 1, k1, ⟨?_, ?_⟩, ?_, ?_⟩
        · exact ((kd1 hd).2 k1.t (by simp)).weaken (by omega)
        · have h1 := HPFL.out
          rw [HCES.out, flat_node, List.map_cons, List.map_nil, flatL_end, flatL_nil, List.append_nil] at h1
          rw [h1]; exact HRD.out
        · have h1 := HPFL.out
          rw [HCES.out, flat_node, List.map_cons, List.map_nil, flatL_end, flatL_nil, List.append_nil] at h1
          exact h1
        · show Trk w F _ (trss tb k1 (n - 1))
          rw [← HN.out]
          have T9 : Trk w F _ ([rBs p.blk cav cbv, rAs cav ces, rKs cbv [k1]] ++ trss tb k1 n') := T9.perm (perm_of_cnt fun a => by simp only [cnt_append, cnt_cons, cnt_nil, trss, rTs, ptrV, P.blk_node, press, presLs, rBs, rAs, rKs, P.resL_append, P.resL_cons, P.resL_nil, P.res_node, List.set_cons_zero] <;> omega)
          exact T9.right
    · have hc0i : ((ces.length : Int) == 0) = false := by rw [beq_eq_false_iff_ne]; omega
      have hc0j : ¬ ((ces.length : Int) = 0) := by omega
      clear TX ktX kpX oaX okX hlf hbv hav
      go_wp2
      refine bodyPost_ret (v := .tuple #[x, .bool true]) (by simp [results, Try.results21, go_sem]) rfl ⟨rfl, d, .node p.blk cav ces cbv cks, ⟨?_, ?_⟩, ?_, ?_⟩
      · rw [P.t_node]
        exact HPF.out.of_len (show min 1 d ≤ ces.length by omega)
      · rw [P.t_node, HPFL.out]; exact HRD.out
      · rw [P.t_node, HPFL.out]
      · show Trk w F _ (trss tb (.node p.blk cav ces cbv cks) (n - 1))
        rw [← HN.out]
        exact HTX.out.perm (perm_of_cnt fun a => by simp only [cnt_append, cnt_cons, cnt_nil, trss, rTs, P.blk_node, press, presLs, rBs, rAs, rKs, P.resL_append, P.resL_cons, P.resL_nil, P.res_node] <;> omega)

end Go.Proofs.Ytfnndifckgjmjaa
/- Trees told: told, Get. -/
namespace Go.Proofs.Ytfnndifckgjmjaa
open Go.RowKit Go.Afx

set_option maxRecDepth 100000 in
set_option maxHeartbeats 1000000 in
theorem told_s (w : World) (v : Value) (o : Option En) (h : BestAt w v o) : Calls Try.prog 56 #[v] w fun e w' => e = .returned (toldV (.string ⟨#[]⟩) o) ∧ Below w.heap.size w w' := by
  cases o with
  | none =>
    obtain rfl : v = .pointer none := h
    go_enter Try.func56, Try.ntmps56
    go_wp2
    exact bodyPost_ret (v := .tuple #[.string ⟨#[]⟩, (.string ⟨#[]⟩), .bool false]) (by simp [results, Try.results56, go_sem]) rfl ⟨rfl, Below.refl _ _⟩
  | some e =>
    obtain ⟨g, o, rfl, h2, h3, h4⟩ := h
    unfold toldV
    simp only
    generalize e.key = ke at *
    generalize e.val = ve at *
    go_enter Try.func56, Try.ntmps56
    go_wp2
    refine wp_region_lit_plan [] [(0, 0), (1, 0), (2, 0), (4, 0), (5, 0), (6, 0), (3, 1), (8, 0), (7, 1), (9, 0), (10, 0)] (fun _ => False) (by kernel_rfl) (by kernel_rfl) (fun c a d v w h => by cases d <;> exact h) ?_
    go_wp2_with (first | (refine plan_pure (v := _) (by rfl) (by rfl) (by rfl) (by intro _; go_simp; with_reducible rfl) ?_; simp only [List.setIfInBounds_toArray, List.set_cons_zero, List.set_cons_succ]; try go_bits) | (refine plan_read (v := _) (by rfl) (by rfl) (by rfl) (by go_simp; with_reducible rfl) ?_; simp only [List.setIfInBounds_toArray, List.set_cons_zero, List.set_cons_succ]; try go_bits) | (refine plan_readB (v := _) (by rfl) (by rfl) (by rfl) (by intro _ hag; unfold Agree at hag; go_simp; with_reducible rfl) ?_; simp only [List.setIfInBounds_toArray, List.set_cons_zero, List.set_cons_succ]; try go_bits) | (refine plan_skip0 (by rfl) (by rfl) (by rfl) ?_; simp only [List.setIfInBounds_toArray, List.set_cons_zero, List.set_cons_succ]; try go_bits) | (refine plan_skip1 (by rfl) (by rfl) (by rfl) ?_; simp only [List.setIfInBounds_toArray, List.set_cons_zero, List.set_cons_succ]; try go_bits) | (refine plan_skip2 (by rfl) (by rfl) (by rfl) ?_; simp only [List.setIfInBounds_toArray, List.set_cons_zero, List.set_cons_succ]; try go_bits) | (refine plan_skip4 (by rfl) (by rfl) (by rfl) ?_; simp only [List.setIfInBounds_toArray, List.set_cons_zero, List.set_cons_succ]; try go_bits) | (refine plan_any (by rfl) ?_) | (refine plan_keep (by rfl) ?_) | (refine plan_nil ?_) | (with_reducible refine And.intro (by first | assumption | exact Agree.refl _ _ | exact agree_drew _ _ | exact agree_alloc _ (by intro k hk; subst hk; first | omega | (simp; omega))) ?_) | (unfold Act.put; simp only [List.setIfInBounds_toArray, List.set_cons_zero, List.set_cons_succ]))
    exact bodyPost_ret (v := .tuple #[.string (kb ke), ve, .bool true]) (by simp [results, Try.results56, go_sem]) rfl ⟨rfl, (Below.refl _ _).drew⟩
/-- What Get's loop keeps. -/
def GetSts (w : World) (lk : Option Value) (k : Key) (v : Value) (wr : World) (d : Nat) : Prop :=
  ∃ q, v = ptrV q.blk ∧ Sep wr (press q) ∧ (∃ m, Fat m d q.t) ∧ Rise q.t.flat ∧ q.t.flat.length ≤ 99999 ∧ lk = Afx.look k q.t.flat ∧ Below w.heap.size w wr
end Go.Proofs.Ytfnndifckgjmjaa
/- Trees told: Next. -/
namespace Go.Proofs.Ytfnndifckgjmjaa
open Go.RowKit Go.Afx

/-- What Next's loop keeps. -/
def NextSts (w : World) (res : Option En) (k : Key) (wi : Bool) (best v : Value) (wr : World) (d : Nat) : Prop :=
  Below w.heap.size w wr ∧ ∃ acc, BestAt wr best acc ∧ ((v = .pointer none ∧ res = acc ∧ d = 0) ∨ ∃ q m d', v = ptrV q.blk ∧ d = d' + 1 ∧ Sep wr (press q) ∧ Fat m d' q.t ∧ Rise q.t.flat ∧ q.t.flat.length ≤ 99999 ∧ res = (abv k wi q.t.flat).or acc)

theorem Next_step_s (w wr : World) (res : Option En) (k : Key) (wi : Bool) (b : Nat) (av bv : Value) (es : List En) (ks : List P) (m d' j : Nat) (acc acc' : Option En) (hb : Below w.heap.size w wr) (hsq : Sep wr (press (.node b av es bv ks)))
    (hf : Fat m d' (.node es (ks.map P.t))) (hr : Rise (T.node es (ks.map P.t)).flat) (hln : (T.node es (ks.map P.t)).flat.length ≤ 99999) (hres : res = (abv k wi (T.node es (ks.map P.t)).flat).or acc)
    (h0 : ks = [] → (abv k wi es).or acc = acc') (h1 : ks ≠ [] → ∃ c, ks[j]? = some c ∧ ((abv k wi (T.node es (ks.map P.t)).flat).or acc = (abv k wi c.t.flat).or acc')) :
    ∀ w2 best', Below wr.heap.size wr w2 → BestAt w2 best' acc' → ∃ d'', d'' < d' + 1 ∧ NextSts w res k wi best' (kidV ks[j]?) w2 d'' := by
  intro w2 best' hb2 hbest
  have hb3 := hb.trans (hb2.mono hb.size)
  by_cases hk : ks = []
  · subst hk
    refine ⟨0, by omega, hb3, acc', hbest, .inl ⟨rfl, ?_, rfl⟩⟩
    rw [hres, ← h0 rfl]
    simp only [List.map_nil]
    rw [flat_leaf]
  · obtain ⟨c, hc, hc2⟩ := h1 hk
    have hcm : c ∈ ks := List.mem_of_getElem? hc
    rcases d' with _ | d'
    · exact absurd (by simpa using hf.2) hk
    · have hkl : (ks.map P.t).length ≤ es.length + 1 := Nat.le_of_eq hf.2.1
      rw [pres_s] at hsq
      refine ⟨d' + 1, by omega, hb3, acc', hbest, .inr ⟨c, 2, d', by rw [hc]; rfl, rfl, (sep_kid (hsq.right (a := [_, _, _])) hcm).below hb2, hf.2.2 _ (List.mem_map_of_mem hcm), ?_, Nat.le_trans (kid_flat_len hkl (List.mem_map_of_mem hcm)) hln, by rw [hres, hc2]⟩⟩
      exact kid_rise hr hkl (List.mem_map_of_mem hcm)

set_option maxRecDepth 100000 in
set_option maxHeartbeats 8000000 in
theorem next_s (w : World) (tb : Nat) (p : P) (d n : Nat) (k : Key) (wi : Bool) (hs : Sep w (trss tb p n)) (hg : Afx.Good d p.t) (hn : n = p.t.flat.length) (hl : n ≤ 99999) :
    Calls Try.prog 33 #[ptrV tb, .string (kb k), .bool wi] w fun e w' => e = .returned (toldV (.string ⟨#[]⟩) (abv k wi p.t.flat)) ∧ Below w.heap.size w w' := by
  have kt0 : Blk w tb 77 [ptrV p.blk, .int .i64 (n : Int)] := hs.all (rTs tb p n) (by simp)
  obtain ⟨c0, c1⟩ := pg_cells kt0
  obtain ⟨res, hres0⟩ : ∃ res, abv k wi p.t.flat = res := ⟨_, rfl⟩
  rw [hres0]
  have HST : Hid (NextSts w res k wi (.pointer none) (.pointer (some ⟨p.blk, 0, none⟩)) w (d + 1)) := ⟨Below.refl _ _, none, rfl, .inr ⟨p, _, d, rfl, rfl, hs.right (a := [rTs tb p n]), hg.fat, hg.rise, by omega, by rw [hres0]; simp⟩⟩
  unfold ptrV at c0 ⊢
  clear kt0 hs hg hn hl hres0
  go_enter Try.func33, Try.ntmps33
  go_wp2
  go_loopw [9, 10, 11, 12] (fun best v i ok wr => ∃ d, NextSts w res k wi best v wr d) (fun best v _ _ wr => gm (NextSts w res k wi best v wr))
  case atStart => exact ⟨d + 1, HST.out⟩
  case round =>
    have hst := gm_spec hrel
    obtain ⟨dd, hdd⟩ : ∃ dd, gm (NextSts w res k wi u9 u10 wr) = dd := ⟨_, rfl⟩
    rw [hdd] at hst
    have HGM := Lib.hid hdd
    clear hdd
    obtain ⟨hb, acc, hbest, hst⟩ := hst
    rcases hst with ⟨rfl, rfl, rfl⟩ | ⟨q, m, d', rfl, rfl, hsq, hf, hr, hln, hres⟩
    · have HTD := Lib.hid (told_s wr u9 res hbest)
      have HB := Lib.hid hb
      clear hbest hb hrel
      go_wp2_with fail
      refine HTD.out.mono ?_
      rintro e w2 ⟨rfl, hb2⟩
      cases res with
      | none =>
        unfold toldV
        simp only
        go_wp2
        exact bodyPost_ret (v := .tuple #[.string ⟨#[]⟩, (.string ⟨#[]⟩), .bool false]) (by simp [results, Try.results33, go_sem]) rfl ⟨rfl, HB.out.trans (hb2.mono HB.out.size)⟩
      | some x =>
        unfold toldV
        simp only
        go_wp2
        exact bodyPost_ret (v := .tuple #[.string (kb x.key), x.val, .bool true]) (by simp [results, Try.results33, go_sem]) rfl ⟨rfl, HB.out.trans (hb2.mono HB.out.size)⟩
    · obtain ⟨b, av, es, bv, ks, rfl⟩ := P.eta q
      rw [pres_s] at hsq
      rw [P.t_node] at hf hr hln hres
      have kb0 : Blk wr b 75 [av, bv] := hsq.all (rBs b av bv) (by simp only [List.mem_cons, true_or, or_true])
      have oa : Own wr 94 2 av es.length (enC es) := hsq.all (rAs av es) (by simp only [List.mem_cons, true_or, or_true])
      have ok : Own wr 69 1 bv ks.length (ptrs ks) := hsq.all (rKs bv ks) (by simp only [List.mem_cons, true_or, or_true])
      have hel : es.length ≤ 99999 := Nat.le_trans (es_flat_len (.node es _)) hln
      have hfd := find_s wr b _ av bv es k (fun _ => True) kb0 (oa.sl (B := fun _ => True) (fun _ _ => trivial)) hr.es (by omega)
      simp only [P.blk_node] at *
      have HKB := Lib.hid kb0
      have HOA := Lib.hid oa
      have HOK := Lib.hid ok
      have HB := Lib.hid hb
      have HSQ := Lib.hid hsq
      have hbl := kb0.lt
      obtain ⟨pa, ca, hav, hca1, hca2⟩ := own_form_Es oa
      obtain ⟨ne, hne⟩ : ∃ ne, es.length = ne := ⟨_, rfl⟩
      rw [hne] at hav
      have HAV := Lib.hid hav
      have HNE := Lib.hid hne
      have HBEST := Lib.hid hbest
      cases hh : has k es
      · rw [hh] at hfd
        have hstep := Next_step_s w wr res k wi b av bv es ks m d' (pos k es) acc (es[pos k es]?.or acc) hb (by rw [pres_s]; exact hsq) hf hr hln hres
          (fun hk => by
            subst hk
            obtain ⟨a, b', hlf⟩ := leaf_page (k := k) (es := es) hr
            rw [hlf.abv.2.2 hh])
          (fun hk => by
            rcases d' with _ | d'
            · exact absurd (by simpa using hf.2) hk
            · obtain ⟨a, bb, l, c, r, hsp, hgc⟩ := split_page (k := k) hr hf.2.1
              rw [List.getElem?_map] at hgc
              cases hq : ks[pos k es]? with
              | none => rw [hq] at hgc; cases hgc
              | some kc =>
                rw [hq] at hgc
                have hkc : kc.t = c := by simpa using hgc
                exact ⟨kc, rfl, by rw [hsp.abv.2.2 hh, hkc, Option.or_assoc]⟩)
        have hjk : ks ≠ [] → pos k es < ks.length := fun hk => by
          rcases d' with _ | d'
          · exact absurd (by simpa using hf.2) hk
          · have h1 : ks.length = es.length + 1 := by simpa using hf.2.1
            have := pos_le k es; omega
        obtain ⟨j, hj⟩ : ∃ j, j = pos k es := ⟨_, rfl⟩
        rw [← hj] at hstep hjk hfd
        have HFD := Lib.hid hfd
        have HCH : Hid (∀ w2, Below wr.heap.size wr w2 → Calls Try.prog 57 #[ptrV b, .int .i64 (j : Int)] w2 fun e w' => e = .returned (kidV ks[j]?) ∧ w' = w2) := (fun w2 (hb2 : Below wr.heap.size wr w2) => child_s w2 b _ av bv ks j (fun _ => True) (HKB.out.below hb2) ((HOK.out.below hb2).sl (fun _ _ => trivial)) hjk)
        obtain ⟨nv, hnv⟩ : ∃ nv, kidV ks[j]? = nv := ⟨_, rfl⟩
        rw [hnv] at hstep HCH
        have HSTEP := Lib.hid hstep
        have hj5 : j ≤ 100001 := by have h0 := pos_le k es; omega
        have HEJ : Hid (∀ h : j < es.length, ∃ g off cap, av = .slice (some ⟨g, off, none⟩) ne cap ∧ g < wr.heap.size ∧ wr.cell? ⟨g, off + j * 2, none⟩ = some (.string (kb es[j].key)) ∧ wr.cell? ⟨g, off + j * 2 + 1, none⟩ = some es[j].val) := fun h => by
          rw [← hne]
          exact sl_en (oa.sl (B := fun _ => True) (fun _ _ => trivial)) h
        unfold ptrV at HCH HFD
        clear kb0 oa ok hfd hb hsq hh hr hf hrel hln hbest hres hstep hjk hnv hj
        cases wi
        · cases hej : es[j]? with
          | some xj =>
            obtain ⟨hjl, hjx⟩ := List.getElem?_eq_some_iff.1 hej
            obtain ⟨g, off, cap, hav2, hg, e0, e1⟩ := HEJ.out hjl
            rw [hjx] at e0 e1
            rw [hav2] at hav
            cases hav
            rw [hej, Option.some_or] at HSTEP
            have hjn : j < ne := by rw [← hne]; exact hjl
            have HAV2 := Lib.hid hav2
            clear hav2 hej hjx HEJ hne hjl
            unfold ptrV
            go_wp2_with fail
            refine HFD.out.mono ?_
            rintro e w2 ⟨rfl, hb2⟩
            obtain ⟨y0, y1⟩ := pg_cells (HKB.out.below hb2)
            rw [HAV2.out] at y0
            have HB2 := Lib.hid hb2
            clear hb2
            go_wp2_with fail
            refine (HCH.out w2 HB2.out).mono ?_
            rintro e wq ⟨rfl, hq⟩
            subst hq
            have hnew := HSTEP.out _ (.pointer (some ⟨g, off + j * 2, none⟩)) HB2.out ⟨g, _, rfl, Nat.lt_of_lt_of_le hg HB2.out.size, (HB2.out.cell hg).trans e0, (HB2.out.cell hg).trans e1⟩
            have HNEW := Lib.hid hnew
            clear hnew e0 e1
            go_wp2_with fail
            go_roundw
            case rel => obtain ⟨d2, h1, h2⟩ := HNEW.out; exact ⟨d2, h2⟩
            case measure =>
              obtain ⟨d2, h1, h2⟩ := HNEW.out
              have h3 := gm_le h2
              have h4 := HGM.out
              unfold ptrV at h4
              refine Nat.lt_of_le_of_lt h3 ?_
              exact Nat.lt_of_lt_of_eq h1 h4.symm
          | none =>
            rw [hej, Option.none_or] at HSTEP
            have hjn : ¬ j < ne := by
              rw [List.getElem?_eq_none_iff] at hej
              omega
            clear hne hej HEJ
            unfold ptrV
            go_wp2_with fail
            refine HFD.out.mono ?_
            rintro e w2 ⟨rfl, hb2⟩
            obtain ⟨y0, y1⟩ := pg_cells (HKB.out.below hb2)
            rw [HAV.out] at y0
            have HB2 := Lib.hid hb2
            clear hb2
            go_wp2_with fail
            refine (HCH.out w2 HB2.out).mono ?_
            rintro e wq ⟨rfl, hq⟩
            subst hq
            have hnew := HSTEP.out _ _ HB2.out (HBEST.out.below HB2.out)
            have HNEW := Lib.hid hnew
            clear hnew
            go_wp2_with fail
            go_roundw
            case rel => obtain ⟨d2, h1, h2⟩ := HNEW.out; exact ⟨d2, h2⟩
            case measure =>
              obtain ⟨d2, h1, h2⟩ := HNEW.out
              have h3 := gm_le h2
              have h4 := HGM.out
              unfold ptrV at h4
              refine Nat.lt_of_le_of_lt h3 ?_
              exact Nat.lt_of_lt_of_eq h1 h4.symm
        · cases hej : es[j]? with
          | some xj =>
            obtain ⟨hjl, hjx⟩ := List.getElem?_eq_some_iff.1 hej
            obtain ⟨g, off, cap, hav2, hg, e0, e1⟩ := HEJ.out hjl
            rw [hjx] at e0 e1
            rw [hav2] at hav
            cases hav
            rw [hej, Option.some_or] at HSTEP
            have hjn : j < ne := by rw [← hne]; exact hjl
            have HAV2 := Lib.hid hav2
            clear hav2 hej hjx HEJ hne hjl
            unfold ptrV
            go_wp2_with fail
            refine HFD.out.mono ?_
            rintro e w2 ⟨rfl, hb2⟩
            obtain ⟨y0, y1⟩ := pg_cells (HKB.out.below hb2)
            rw [HAV2.out] at y0
            have HB2 := Lib.hid hb2
            clear hb2
            go_wp2_with fail
            refine (HCH.out w2 HB2.out).mono ?_
            rintro e wq ⟨rfl, hq⟩
            subst hq
            have hnew := HSTEP.out _ (.pointer (some ⟨g, off + j * 2, none⟩)) HB2.out ⟨g, _, rfl, Nat.lt_of_lt_of_le hg HB2.out.size, (HB2.out.cell hg).trans e0, (HB2.out.cell hg).trans e1⟩
            have HNEW := Lib.hid hnew
            clear hnew e0 e1
            go_wp2_with fail
            go_roundw
            case rel => obtain ⟨d2, h1, h2⟩ := HNEW.out; exact ⟨d2, h2⟩
            case measure =>
              obtain ⟨d2, h1, h2⟩ := HNEW.out
              have h3 := gm_le h2
              have h4 := HGM.out
              unfold ptrV at h4
              refine Nat.lt_of_le_of_lt h3 ?_
              exact Nat.lt_of_lt_of_eq h1 h4.symm
          | none =>
            rw [hej, Option.none_or] at HSTEP
            have hjn : ¬ j < ne := by
              rw [List.getElem?_eq_none_iff] at hej
              omega
            clear hne hej HEJ
            unfold ptrV
            go_wp2_with fail
            refine HFD.out.mono ?_
            rintro e w2 ⟨rfl, hb2⟩
            obtain ⟨y0, y1⟩ := pg_cells (HKB.out.below hb2)
            rw [HAV.out] at y0
            have HB2 := Lib.hid hb2
            clear hb2
            go_wp2_with fail
            refine (HCH.out w2 HB2.out).mono ?_
            rintro e wq ⟨rfl, hq⟩
            subst hq
            have hnew := HSTEP.out _ _ HB2.out (HBEST.out.below HB2.out)
            have HNEW := Lib.hid hnew
            clear hnew
            go_wp2_with fail
            go_roundw
            case rel => obtain ⟨d2, h1, h2⟩ := HNEW.out; exact ⟨d2, h2⟩
            case measure =>
              obtain ⟨d2, h1, h2⟩ := HNEW.out
              have h3 := gm_le h2
              have h4 := HGM.out
              unfold ptrV at h4
              refine Nat.lt_of_le_of_lt h3 ?_
              exact Nat.lt_of_lt_of_eq h1 h4.symm
      · rw [hh] at hfd
        cases wi
        · have hstep := Next_step_s w wr res k false b av bv es ks m d' (pos k es + 1) acc (es[pos k es + 1]?.or acc) hb (by rw [pres_s]; exact hsq) hf hr hln hres
            (fun hk => by
              subst hk
              obtain ⟨a, b', hlf⟩ := leaf_page (k := k) (es := es) hr
              rw [hlf.abv.2.1 hh rfl])
            (fun hk => by
              rcases d' with _ | d'
              · exact absurd (by simpa using hf.2) hk
              · obtain ⟨a, bb, l, c, r, hsp, hgc⟩ := split_page (k := k) hr hf.2.1
                obtain ⟨c', hc', habv⟩ := hsp.abv.2.1 hh rfl
                rw [List.getElem?_map] at hc'
                cases hq : ks[pos k es + 1]? with
                | none => rw [hq] at hc'; cases hc'
                | some kc =>
                  rw [hq] at hc'
                  have hkc : kc.t = c' := by simpa using hc'
                  exact ⟨kc, rfl, by rw [habv, hkc, Option.or_assoc]⟩)
          have hpl : pos k es < es.length := (has_at.1 hh).1
          have hjk : ks ≠ [] → pos k es + 1 < ks.length := fun hk => by
            rcases d' with _ | d'
            · exact absurd (by simpa using hf.2) hk
            · have h1 : ks.length = es.length + 1 := by simpa using hf.2.1
              omega
          obtain ⟨i, hi⟩ : ∃ i, i = pos k es := ⟨_, rfl⟩
          obtain ⟨j, hj⟩ : ∃ j, j = i + 1 := ⟨_, rfl⟩
          rw [← hi, ← hj] at hstep hjk
          rw [← hi] at hfd hpl
          clear hi
          have hj2 : (i : Int) + 1 = (j : Int) := by omega
          have HFD := Lib.hid hfd
          have HCH : Hid (∀ w2, Below wr.heap.size wr w2 → Calls Try.prog 57 #[ptrV b, .int .i64 (j : Int)] w2 fun e w' => e = .returned (kidV ks[j]?) ∧ w' = w2) := (fun w2 (hb2 : Below wr.heap.size wr w2) => child_s w2 b _ av bv ks j (fun _ => True) (HKB.out.below hb2) ((HOK.out.below hb2).sl (fun _ _ => trivial)) hjk)
          obtain ⟨nv, hnv⟩ : ∃ nv, kidV ks[j]? = nv := ⟨_, rfl⟩
          rw [hnv] at hstep HCH
          have HSTEP := Lib.hid hstep
          have hj5 : j ≤ 100001 := by have h0 := pos_le k es; omega
          have HEJ : Hid (∀ h : j < es.length, ∃ g off cap, av = .slice (some ⟨g, off, none⟩) ne cap ∧ g < wr.heap.size ∧ wr.cell? ⟨g, off + j * 2, none⟩ = some (.string (kb es[j].key)) ∧ wr.cell? ⟨g, off + j * 2 + 1, none⟩ = some es[j].val) := fun h => by
            rw [← hne]
            exact sl_en (oa.sl (B := fun _ => True) (fun _ _ => trivial)) h
          unfold ptrV at HCH HFD
          clear kb0 oa ok hfd hb hsq hh hr hf hrel hln hbest hres hstep hjk hnv hj
          cases hej : es[j]? with
          | some xj =>
            obtain ⟨hjl, hjx⟩ := List.getElem?_eq_some_iff.1 hej
            obtain ⟨g, off, cap, hav2, hg, e0, e1⟩ := HEJ.out hjl
            rw [hjx] at e0 e1
            rw [hav2] at hav
            cases hav
            rw [hej, Option.some_or] at HSTEP
            have hjn : j < ne := by rw [← hne]; exact hjl
            have HAV2 := Lib.hid hav2
            clear hav2 hej hjx HEJ hne hjl
            unfold ptrV
            go_wp2_with fail
            refine HFD.out.mono ?_
            rintro e w2 ⟨rfl, hb2⟩
            obtain ⟨y0, y1⟩ := pg_cells (HKB.out.below hb2)
            rw [HAV2.out] at y0
            have HB2 := Lib.hid hb2
            clear hb2
            go_wp2_with fail
            refine (HCH.out w2 HB2.out).mono ?_
            rintro e wq ⟨rfl, hq⟩
            subst hq
            have hnew := HSTEP.out _ (.pointer (some ⟨g, off + j * 2, none⟩)) HB2.out ⟨g, _, rfl, Nat.lt_of_lt_of_le hg HB2.out.size, (HB2.out.cell hg).trans e0, (HB2.out.cell hg).trans e1⟩
            have HNEW := Lib.hid hnew
            clear hnew e0 e1
            go_wp2_with fail
            go_roundw
            case rel => obtain ⟨d2, h1, h2⟩ := HNEW.out; exact ⟨d2, h2⟩
            case measure =>
              obtain ⟨d2, h1, h2⟩ := HNEW.out
              have h3 := gm_le h2
              have h4 := HGM.out
              unfold ptrV at h4
              refine Nat.lt_of_le_of_lt h3 ?_
              exact Nat.lt_of_lt_of_eq h1 h4.symm
          | none =>
            rw [hej, Option.none_or] at HSTEP
            have hjn : ¬ j < ne := by
              rw [List.getElem?_eq_none_iff] at hej
              omega
            clear hne hej HEJ
            unfold ptrV
            go_wp2_with fail
            refine HFD.out.mono ?_
            rintro e w2 ⟨rfl, hb2⟩
            obtain ⟨y0, y1⟩ := pg_cells (HKB.out.below hb2)
            rw [HAV.out] at y0
            have HB2 := Lib.hid hb2
            clear hb2
            go_wp2_with fail
            refine (HCH.out w2 HB2.out).mono ?_
            rintro e wq ⟨rfl, hq⟩
            subst hq
            have hnew := HSTEP.out _ _ HB2.out (HBEST.out.below HB2.out)
            have HNEW := Lib.hid hnew
            clear hnew
            go_wp2_with fail
            go_roundw
            case rel => obtain ⟨d2, h1, h2⟩ := HNEW.out; exact ⟨d2, h2⟩
            case measure =>
              obtain ⟨d2, h1, h2⟩ := HNEW.out
              have h3 := gm_le h2
              have h4 := HGM.out
              unfold ptrV at h4
              refine Nat.lt_of_le_of_lt h3 ?_
              exact Nat.lt_of_lt_of_eq h1 h4.symm
        · have hpl : pos k es < es.length := (has_at.1 hh).1
          have hx : es[pos k es]? = some es[pos k es] := List.getElem?_eq_getElem hpl
          have hrx : res = some es[pos k es] := by
            rw [hres]
            rcases d' with _ | d'
            · have hk0 : ks = [] := by simpa using hf.2
              subst hk0
              simp only [List.map_nil]
              rw [flat_leaf]
              obtain ⟨a, b', hlf⟩ := leaf_page (k := k) (es := es) hr
              obtain ⟨e, h1, h2⟩ := hlf.abv.1 hh rfl
              rw [h2, ← h1, hx]; rfl
            · obtain ⟨a, bb, l, c, r, hsp, hgc⟩ := split_page (k := k) hr hf.2.1
              obtain ⟨e, h1, h2⟩ := hsp.abv.1 hh rfl
              rw [h2, ← h1, hx]; rfl
          obtain ⟨x, hxx⟩ : ∃ x, es[pos k es] = x := ⟨_, rfl⟩
          obtain ⟨g, off, cap, hav2, hg, e0, e1⟩ := sl_en (oa.sl (B := fun _ => True) (fun _ _ => trivial)) hpl
          rw [hne] at hav2
          rw [hav2] at hav
          cases hav
          rw [hne] at hpl
          rw [hxx] at hrx e0 e1
          subst hrx
          clear hxx
          obtain ⟨i, hi⟩ : ∃ i, i = pos k es := ⟨_, rfl⟩
          rw [← hi] at hpl e0 e1 hfd
          have HFD := Lib.hid hfd
          have HAV2 := Lib.hid hav2
          clear kb0 oa ok hfd hb hsq hh hav2 hr hf hrel hln hx hne hi hbest hres
          unfold ptrV at HFD ⊢
          go_wp2_with fail
          refine HFD.out.mono ?_
          rintro e w2 ⟨rfl, hb2⟩
          have HTD := Lib.hid (told_s w2 (.pointer (some ⟨g, off + i * 2, none⟩)) (some x) ⟨g, _, rfl, Nat.lt_of_lt_of_le hg hb2.size, (hb2.cell hg).trans e0, (hb2.cell hg).trans e1⟩)
          obtain ⟨y0, y1⟩ := pg_cells (HKB.out.below hb2)
          rw [HAV2.out] at y0
          have HB2 := Lib.hid hb2
          clear hb2 e0 e1
          unfold toldV at HTD
          simp only at HTD
          go_wp2_with fail
          refine HTD.out.mono ?_
          rintro e w3 ⟨rfl, hb3⟩
          go_wp2
          exact bodyPost_ret (v := .tuple #[.string (kb x.key), x.val, .bool true]) (by simp [results, Try.results33, go_sem]) rfl ⟨rfl, HB.out.trans ((HB2.out.trans (hb3.mono HB2.out.size)).mono HB.out.size)⟩

end Go.Proofs.Ytfnndifckgjmjaa
/- Trees told: Ahead, Last. -/
namespace Go.Proofs.Ytfnndifckgjmjaa
open Go.RowKit Go.Afx

/-- What Ahead's loop keeps. -/
def AheadSts (w : World) (res : Option En) (k : Key) (wi : Bool) (best v : Value) (wr : World) (d : Nat) : Prop :=
  Below w.heap.size w wr ∧ ∃ acc, BestAt wr best acc ∧ ((v = .pointer none ∧ res = acc ∧ d = 0) ∨ ∃ q m d', v = ptrV q.blk ∧ d = d' + 1 ∧ Sep wr (press q) ∧ Fat m d' q.t ∧ Rise q.t.flat ∧ q.t.flat.length ≤ 99999 ∧ res = (blw k wi q.t.flat).or acc)

theorem Ahead_step_s (w wr : World) (res : Option En) (k : Key) (wi : Bool) (b : Nat) (av bv : Value) (es : List En) (ks : List P) (m d' j : Nat) (acc acc' : Option En) (hb : Below w.heap.size w wr) (hsq : Sep wr (press (.node b av es bv ks)))
    (hf : Fat m d' (.node es (ks.map P.t))) (hr : Rise (T.node es (ks.map P.t)).flat) (hln : (T.node es (ks.map P.t)).flat.length ≤ 99999) (hres : res = (blw k wi (T.node es (ks.map P.t)).flat).or acc)
    (h0 : ks = [] → (blw k wi es).or acc = acc') (h1 : ks ≠ [] → ∃ c, ks[j]? = some c ∧ ((blw k wi (T.node es (ks.map P.t)).flat).or acc = (blw k wi c.t.flat).or acc')) :
    ∀ w2 best', Below wr.heap.size wr w2 → BestAt w2 best' acc' → ∃ d'', d'' < d' + 1 ∧ AheadSts w res k wi best' (kidV ks[j]?) w2 d'' := by
  intro w2 best' hb2 hbest
  have hb3 := hb.trans (hb2.mono hb.size)
  by_cases hk : ks = []
  · subst hk
    refine ⟨0, by omega, hb3, acc', hbest, .inl ⟨rfl, ?_, rfl⟩⟩
    rw [hres, ← h0 rfl]
    simp only [List.map_nil]
    rw [flat_leaf]
  · obtain ⟨c, hc, hc2⟩ := h1 hk
    have hcm : c ∈ ks := List.mem_of_getElem? hc
    rcases d' with _ | d'
    · exact absurd (by simpa using hf.2) hk
    · have hkl : (ks.map P.t).length ≤ es.length + 1 := Nat.le_of_eq hf.2.1
      rw [pres_s] at hsq
      refine ⟨d' + 1, by omega, hb3, acc', hbest, .inr ⟨c, 2, d', by rw [hc]; rfl, rfl, (sep_kid (hsq.right (a := [_, _, _])) hcm).below hb2, hf.2.2 _ (List.mem_map_of_mem hcm), ?_, Nat.le_trans (kid_flat_len hkl (List.mem_map_of_mem hcm)) hln, by rw [hres, hc2]⟩⟩
      exact kid_rise hr hkl (List.mem_map_of_mem hcm)
/-- What Last's loop keeps. -/
def LastSts (w : World) (res : Option En) (best v : Value) (wr : World) (d : Nat) : Prop :=
  Below w.heap.size w wr ∧ ∃ acc, BestAt wr best acc ∧ ((v = .pointer none ∧ res = acc ∧ d = 0) ∨ ∃ q m d', v = ptrV q.blk ∧ d = d' + 1 ∧ Sep wr (press q) ∧ Fat m d' q.t ∧ q.t.flat.length ≤ 99999 ∧ res = (q.t.flat.getLast?).or acc)
theorem Last_step_s (w wr : World) (res : Option En) (b : Nat) (av bv : Value) (es : List En) (ks : List P) (m d' : Nat) (acc : Option En) (hb : Below w.heap.size w wr) (hsq : Sep wr (press (.node b av es bv ks)))
    (hf : Fat m d' (.node es (ks.map P.t))) (hln : (T.node es (ks.map P.t)).flat.length ≤ 99999) (hres : res = ((T.node es (ks.map P.t)).flat.getLast?).or acc) :
    ∀ w2 best', Below wr.heap.size wr w2 → BestAt w2 best' (es.getLast?.or acc) → ∃ d'', d'' < d' + 1 ∧ LastSts w res best' (kidV ks[es.length]?) w2 d'' := by
  intro w2 best' hb2 hbest
  have hb := hb.trans (hb2.mono hb.size)
  by_cases hk : ks = []
  · subst hk
    refine ⟨0, by omega, hb, _, hbest, .inl ⟨rfl, ?_, rfl⟩⟩
    rw [hres]
    simp only [List.map_nil]
    rw [flat_leaf]
  · rcases d' with _ | d'
    · exact absurd (by simpa using hf.2) hk
    · rcases List.eq_nil_or_concat ks with h | ⟨kl, kc, h⟩
      · exact absurd h hk
      · rw [List.concat_eq_append] at h
        subst h
        have hlen : es.length = kl.length := by have := hf.2.1; simp at this; omega
        have hc : (kl ++ [kc])[es.length]? = some kc := by rw [hlen]; simp
        have hcm : kc ∈ kl ++ [kc] := by simp
        have hkl : ((kl ++ [kc]).map P.t).length ≤ es.length + 1 := Nat.le_of_eq hf.2.1
        rw [pres_s] at hsq
        refine ⟨d' + 1, by omega, hb, _, hbest, .inr ⟨kc, 2, d', by rw [hc]; rfl, rfl, (sep_kid (hsq.right (a := [_, _, _])) hcm).below hb2, hf.2.2 _ (List.mem_map_of_mem hcm), Nat.le_trans (kid_flat_len hkl (List.mem_map_of_mem hcm)) hln, ?_⟩⟩
        rw [hres, List.map_append]
        show ((T.node es (kl.map P.t ++ [kc.t])).flat.getLast?).or acc = _
        rw [last_page es (kl.map P.t) kc.t (by rw [List.length_map]; exact hlen), Option.or_assoc]
end Go.Proofs.Ytfnndifckgjmjaa
/- Trees told: Keys, Count. -/
namespace Go.Proofs.Ytfnndifckgjmjaa
open Go.RowKit Go.Afx

/-- What Keys' loop keeps: b.length entries are ahead. -/
def KeysSts (w : World) (flat : List En) (fr tu : Key) (most : Int) (l k ok : Value) (wr : World) (m : Nat) : Prop :=
  ∃ acc a b, flat = a ++ b ∧ b.length = m ∧ keysFrom fr tu flat = acc ++ keysUp tu b ∧ (acc.length : Int) ≤ max most 0 ∧ Own wr 9 1 l acc.length (strs acc) ∧ (∀ q, l.ownBlock = some q → w.heap.size ≤ q) ∧ Below w.heap.size w wr ∧
    k = .string (headK b) ∧ ok = .bool (!b.isEmpty)
set_option maxRecDepth 100000 in
set_option maxHeartbeats 4000000 in
theorem keys_s (w : World) (tb : Nat) (p : P) (d n : Nat) (fr tu : Key) (most : Int) (hs : Sep w (trss tb p n)) (hg : Afx.Good d p.t) (hn : n = p.t.flat.length) (hl : n ≤ 99999) (hm1 : -9223372036854775808 ≤ most) (hm2 : most ≤ 9223372036854775807) :
    Calls Try.prog 17 #[ptrV tb, .string (kb fr), .string (kb tu), .int .i64 most] w fun e w' => ∃ v, e = .returned v ∧ Own w' 9 1 v ((keysFrom fr tu p.t.flat).take most.toNat).length (strs ((keysFrom fr tu p.t.flat).take most.toNat)) ∧
      (∀ q, v.ownBlock = some q → w.heap.size ≤ q) ∧ Below w.heap.size w w' := by
  have HNX := Lib.hid (fun (w2 : World) (hb : Below w.heap.size w w2) (k : Key) (wi : Bool) => next_s w2 tb p d n k wi (hs.below hb) hg hn hl)
  have hrise := hg.rise
  have hfl : p.t.flat.length ≤ 99999 := by omega
  generalize p.t.flat = flat at *
  obtain ⟨out, hout⟩ : ∃ out, (keysFrom fr tu flat).take most.toNat = out := ⟨_, rfl⟩
  rw [hout]
  have HOUT := Lib.hid hout
  clear hout
  obtain ⟨a0, b0, hab, hlt, hge, habv⟩ := part_below fr hrise
  have hkf : keysFrom fr tu flat = keysUp tu b0 := by
    rw [hab, keysFrom_less hlt, keysFrom_up (by rw [hab] at hrise; exact hrise.right) hge]
  have HSTART : Hid (∀ wr, Below w.heap.size w wr → KeysSts w flat fr tu most (.slice none 0 0) (.string (headK b0)) (.bool (!b0.isEmpty)) wr b0.length) := fun wr hb =>
    ⟨[], a0, b0, hab, rfl, by rw [hkf]; rfl, by simp; omega, Own.nil _ _ _, by simp [Value.ownBlock], hb, rfl, rfl⟩
  have HN0 := HNX.out w (Below.refl _ _) fr true
  rw [habv] at HN0
  have HN1 := Lib.hid HN0
  have HRISE := Lib.hid hrise
  clear HN0 hab hlt hge habv hkf hs hg hn hl hrise
  unfold ptrV
  go_enter Try.func17, Try.ntmps17
  go_wp2_with fail
  refine HN1.out.mono ?_
  clear HN1
  rintro e w2 ⟨rfl, hb2⟩
  have HS2 := Lib.hid (HSTART.out w2 hb2)
  clear hb2 HSTART
  rw [toldV_head]
  generalize headK b0 = k0 at *
  generalize headV (.string ⟨#[]⟩) b0 = v0 at *
  generalize (!b0.isEmpty) = ok0 at *
  go_wp2
  go_loopw [9, 10, 12] (fun l k ok wr => ∃ m, KeysSts w flat fr tu most l k ok wr m) (fun l k ok wr => gm (KeysSts w flat fr tu most l k ok wr))
  case atStart => exact ⟨_, HS2.out⟩
  case round =>
    have hst := gm_spec hrel
    obtain ⟨dd, hdd⟩ : ∃ dd, gm (KeysSts w flat fr tu most u9 u10 u12 wr) = dd := ⟨_, rfl⟩
    rw [hdd] at hst
    have HGM := Lib.hid hdd
    clear hdd HS2 hrel
    obtain ⟨acc, a, b, hab, hbl, hkf, hacc, hown, hfr, hbw, hk, hok⟩ := hst
    obtain ⟨pl, cl, rfl, hcl1, hcl2⟩ := (hown.sl (B := fun _ => True) (fun _ _ => trivial)).form
    have hal : acc.length ≤ 99999 := by
      have h1 : (keysFrom fr tu flat).length ≤ flat.length := by
        unfold keysFrom
        rw [List.length_map]
        exact List.length_filter_le _ _
      rw [hkf, List.length_append] at h1
      omega
    have HOWN := Lib.hid hown
    have HFR := Lib.hid hfr
    have HBW := Lib.hid hbw
    have HKF := Lib.hid hkf
    -- how it ends
    have HEND : Hid (keysUp tu b = [] ∨ ¬ (acc.length : Int) < most → out = acc) := fun h => by
      rw [← HOUT.out, hkf]
      rcases h with h | h
      · rw [h, List.append_nil, List.take_of_length_le (by omega)]
      · have h2 : most.toNat = acc.length := by omega
        rw [h2, List.take_left' rfl]
    cases b with
    | nil =>
      subst hk
      subst hok
      have he := HEND.out (.inl rfl)
      have HE := Lib.hid he
      clear hown hfr hbw hkf hab he
      go_wp2
      go_ret
      exact ⟨_, rfl, by rw [HE.out]; exact HOWN.out, HFR.out, HBW.out⟩
    | cons x r =>
      subst hk
      subst hok
      by_cases hlm : (acc.length : Int) < most
      · obtain ⟨te, hte⟩ : ∃ te, tu.isEmpty = te := ⟨_, rfl⟩
        obtain ⟨lt, hlt⟩ : ∃ lt, Op.bytesLess x.key tu = lt := ⟨_, rfl⟩
        have hte2 : (kb tu).toList.isEmpty = te := by rw [kb_toList]; exact hte
        have hlt2 : Op.bytesLess (kb x.key).toList (kb tu).toList = lt := by rw [kb_toList, kb_toList]; exact hlt
        have HUP : Hid (keysUp tu (x :: r) = if te || lt then x.key :: keysUp tu r else []) := by
          show _ = _
          rw [keysUp, hte, hlt]
        have HNXT := Lib.hid (fun w3 (hb : Below w.heap.size w w3) => by
          have h1 := HNX.out w3 hb x.key false
          have h2 : abv x.key false flat = r.head? := by
            rw [hab]
            exact abv_next (by rw [← hab]; exact HRISE.out)
          rw [h2, toldV_head] at h1
          exact h1)
        have HSTEP : Hid (keysFrom fr tu flat = acc ++ x.key :: keysUp tu r → ∀ v w3, Own w3 9 1 v (acc.length + 1) (strs acc ++ [.string (kb x.key)]) → (∀ q, v.ownBlock = some q → w.heap.size ≤ q) → Below w.heap.size w w3 → KeysSts w flat fr tu most v (.string (headK r)) (.bool (!r.isEmpty)) w3 r.length) := fun h v w3 ho hf hb => by
          refine ⟨acc ++ [x.key], a ++ [x], r, by rw [hab]; simp, rfl, by rw [h]; simp, by simp; omega, ?_, hf, hb, rfl, rfl⟩
          rw [List.length_append, strs_append]
          exact ho
        have HBL : Hid (dd = r.length + 1) := hbl.symm
        have HGM2 : Hid (gm (KeysSts w flat fr tu most (.slice pl acc.length cl) (.string (kb x.key)) (.bool true) wr) = dd) := HGM
        unfold headK
        simp only [List.isEmpty_cons, Bool.not_false]
        generalize x.key = xk at *
        cases te
        · cases lt
          · have hu : keysUp tu (x :: r) = [] := HUP.out
            have he := HEND.out (.inl hu)
            have HE := Lib.hid he
            clear hown hfr hbw hkf hab he hu hte hlt
            go_wp2
            go_ret
            exact ⟨_, rfl, by rw [HE.out]; exact HOWN.out, HFR.out, HBW.out⟩
          · have hu : keysUp tu (x :: r) = xk :: keysUp tu r := HUP.out
            rw [hu] at hkf
            have hst := HSTEP.out hkf
            have HST := Lib.hid hst
            have hal5 : Below wr.heap.size wr (wr.alloc (.cells #[.string (kb xk)] 9)) := (Below.refl _ _).alloc (Nat.le_refl _) _
            have ho1 := HOWN.out.below hal5
            have hxb := Blk.new wr 9 [.string (kb xk)]
            have hs1 : Sl (wr.alloc (.cells #[.string (kb xk)] 9)) (fun _ => True) 1 (.slice (some ⟨wr.heap.size, 0, none⟩) 1 1) 1 [.string (kb xk)] :=
              ⟨rfl, Ones.cons rfl Ones.nil, .inr ⟨wr.heap.size, 0, 1, rfl, Nat.le_refl _, by simp [maxLen], trivial, hxb.lt, fun j hj => by rw [Nat.zero_add]; exact hxb.cell j⟩⟩
            have HX5 := Lib.hid hal5
            clear hal5 hxb hst hown hfr hbw hkf hab hu hte hlt
            go_wp2_with (at_builtin; refine wpList_app rfl _ _ rfl elemKey (by rfl) ho1 (by rfl) hs1 (by unfold maxLen; omega) (by omega) ?_; intro v1 w7 g1 g2 g3 g4 g5; clear ho1 hs1; have G1 := Lib.hid g1; have G2 := Lib.hid g2; have G3 := Lib.hid g3; clear g1 g2 g3 g4 g5)
            have hb7 : Below w.heap.size w w7 := (HBW.out.trans (HX5.out.mono HBW.out.size)).trans (G2.out.below (by have := HX5.out.size; have := HBW.out.size; omega) (fun q hq => HFR.out q hq))
            have HB7 := Lib.hid hb7
            refine (HNXT.out w7 hb7).mono ?_
            clear hb7
            rintro e w8 ⟨rfl, hb8⟩
            have HB8 := Lib.hid hb8
            have hn8 := HST.out v1 w8 (G1.out.below hb8) (fun q hq => by
              rcases G3.out with h | h
              · rw [h] at hq; exact HFR.out q hq
              · rw [h] at hq
                have h1 : (wr.alloc (.cells #[.string (kb xk)] 9)).heap.size = q := Option.some.inj hq
                have h2 := HX5.out.size
                have h3 := HBW.out.size
                omega) (HB7.out.trans (hb8.mono HB7.out.size))
            have HN8 := Lib.hid hn8
            clear hb8 hn8
            go_wp2_with fail
            go_roundw
            case rel => exact ⟨r.length, HN8.out⟩
            case measure =>
              have h3 := gm_le HN8.out
              have h4 := HGM2.out
              have h5 := HBL.out
              refine Nat.lt_of_le_of_lt h3 ?_
              refine Nat.lt_of_lt_of_eq ?_ h4.symm
              omega
        · have hu : keysUp tu (x :: r) = xk :: keysUp tu r := HUP.out
          rw [hu] at hkf
          cases lt
          · have hst := HSTEP.out hkf
            have HST := Lib.hid hst
            have hal5 : Below wr.heap.size wr (wr.alloc (.cells #[.string (kb xk)] 9)) := (Below.refl _ _).alloc (Nat.le_refl _) _
            have ho1 := HOWN.out.below hal5
            have hxb := Blk.new wr 9 [.string (kb xk)]
            have hs1 : Sl (wr.alloc (.cells #[.string (kb xk)] 9)) (fun _ => True) 1 (.slice (some ⟨wr.heap.size, 0, none⟩) 1 1) 1 [.string (kb xk)] :=
              ⟨rfl, Ones.cons rfl Ones.nil, .inr ⟨wr.heap.size, 0, 1, rfl, Nat.le_refl _, by simp [maxLen], trivial, hxb.lt, fun j hj => by rw [Nat.zero_add]; exact hxb.cell j⟩⟩
            have HX5 := Lib.hid hal5
            clear hal5 hxb hst hown hfr hbw hkf hab hu hte hlt
            go_wp2_with (at_builtin; refine wpList_app rfl _ _ rfl elemKey (by rfl) ho1 (by rfl) hs1 (by unfold maxLen; omega) (by omega) ?_; intro v1 w7 g1 g2 g3 g4 g5; clear ho1 hs1; have G1 := Lib.hid g1; have G2 := Lib.hid g2; have G3 := Lib.hid g3; clear g1 g2 g3 g4 g5)
            have hb7 : Below w.heap.size w w7 := (HBW.out.trans (HX5.out.mono HBW.out.size)).trans (G2.out.below (by have := HX5.out.size; have := HBW.out.size; omega) (fun q hq => HFR.out q hq))
            have HB7 := Lib.hid hb7
            refine (HNXT.out w7 hb7).mono ?_
            clear hb7
            rintro e w8 ⟨rfl, hb8⟩
            have HB8 := Lib.hid hb8
            have hn8 := HST.out v1 w8 (G1.out.below hb8) (fun q hq => by
              rcases G3.out with h | h
              · rw [h] at hq; exact HFR.out q hq
              · rw [h] at hq
                have h1 : (wr.alloc (.cells #[.string (kb xk)] 9)).heap.size = q := Option.some.inj hq
                have h2 := HX5.out.size
                have h3 := HBW.out.size
                omega) (HB7.out.trans (hb8.mono HB7.out.size))
            have HN8 := Lib.hid hn8
            clear hb8 hn8
            go_wp2_with fail
            go_roundw
            case rel => exact ⟨r.length, HN8.out⟩
            case measure =>
              have h3 := gm_le HN8.out
              have h4 := HGM2.out
              have h5 := HBL.out
              refine Nat.lt_of_le_of_lt h3 ?_
              refine Nat.lt_of_lt_of_eq ?_ h4.symm
              omega
          · have hst := HSTEP.out hkf
            have HST := Lib.hid hst
            have hal5 : Below wr.heap.size wr (wr.alloc (.cells #[.string (kb xk)] 9)) := (Below.refl _ _).alloc (Nat.le_refl _) _
            have ho1 := HOWN.out.below hal5
            have hxb := Blk.new wr 9 [.string (kb xk)]
            have hs1 : Sl (wr.alloc (.cells #[.string (kb xk)] 9)) (fun _ => True) 1 (.slice (some ⟨wr.heap.size, 0, none⟩) 1 1) 1 [.string (kb xk)] :=
              ⟨rfl, Ones.cons rfl Ones.nil, .inr ⟨wr.heap.size, 0, 1, rfl, Nat.le_refl _, by simp [maxLen], trivial, hxb.lt, fun j hj => by rw [Nat.zero_add]; exact hxb.cell j⟩⟩
            have HX5 := Lib.hid hal5
            clear hal5 hxb hst hown hfr hbw hkf hab hu hte hlt
            go_wp2_with (at_builtin; refine wpList_app rfl _ _ rfl elemKey (by rfl) ho1 (by rfl) hs1 (by unfold maxLen; omega) (by omega) ?_; intro v1 w7 g1 g2 g3 g4 g5; clear ho1 hs1; have G1 := Lib.hid g1; have G2 := Lib.hid g2; have G3 := Lib.hid g3; clear g1 g2 g3 g4 g5)
            have hb7 : Below w.heap.size w w7 := (HBW.out.trans (HX5.out.mono HBW.out.size)).trans (G2.out.below (by have := HX5.out.size; have := HBW.out.size; omega) (fun q hq => HFR.out q hq))
            have HB7 := Lib.hid hb7
            refine (HNXT.out w7 hb7).mono ?_
            clear hb7
            rintro e w8 ⟨rfl, hb8⟩
            have HB8 := Lib.hid hb8
            have hn8 := HST.out v1 w8 (G1.out.below hb8) (fun q hq => by
              rcases G3.out with h | h
              · rw [h] at hq; exact HFR.out q hq
              · rw [h] at hq
                have h1 : (wr.alloc (.cells #[.string (kb xk)] 9)).heap.size = q := Option.some.inj hq
                have h2 := HX5.out.size
                have h3 := HBW.out.size
                omega) (HB7.out.trans (hb8.mono HB7.out.size))
            have HN8 := Lib.hid hn8
            clear hb8 hn8
            go_wp2_with fail
            go_roundw
            case rel => exact ⟨r.length, HN8.out⟩
            case measure =>
              have h3 := gm_le HN8.out
              have h4 := HGM2.out
              have h5 := HBL.out
              refine Nat.lt_of_le_of_lt h3 ?_
              refine Nat.lt_of_lt_of_eq ?_ h4.symm
              omega
      · have he := HEND.out (.inr hlm)
        have HE := Lib.hid he
        clear hown hfr hbw hkf hab he
        go_wp2
        go_ret
        exact ⟨_, rfl, by rw [HE.out]; exact HOWN.out, HFR.out, HBW.out⟩

end Go.Proofs.Ytfnndifckgjmjaa
/- Trees told: Count; of no tree nothing is told. -/
namespace Go.Proofs.Ytfnndifckgjmjaa
open Go.RowKit Go.Afx
set_option maxRecDepth 100000 in
set_option maxHeartbeats 1000000 in
theorem nil_Len_s (w : World)  : Calls Try.prog 19 #[.pointer none] w fun e w' => e = .returned (.int .i64 0) ∧ Below w.heap.size w w' := by
  go_enter Try.func19, Try.ntmps19
  go_wp2
  exact bodyPost_ret (v := .int .i64 0) (by simp [results, Try.results19, go_sem]) rfl ⟨rfl, Below.refl _ _⟩


set_option maxRecDepth 100000 in
set_option maxHeartbeats 1000000 in
theorem nil_Put_s (w : World) (k : Key) (z : ByteArray) : Calls Try.prog 16 #[.pointer none, .string (kb k), (.string z)] w fun e w' => e = .returned (.tuple #[(.string ⟨#[]⟩), .bool false]) ∧ Below w.heap.size w w' := by
  go_enter Try.func16, Try.ntmps16
  go_wp2
  exact bodyPost_ret (v := .tuple #[(.string ⟨#[]⟩), .bool false]) (by simp [results, Try.results16, go_sem]) rfl ⟨rfl, Below.refl _ _⟩


set_option maxRecDepth 100000 in
set_option maxHeartbeats 1000000 in
theorem nil_Delete_s (w : World) (k : Key) : Calls Try.prog 21 #[.pointer none, .string (kb k)] w fun e w' => e = .returned (.tuple #[(.string ⟨#[]⟩), .bool false]) ∧ Below w.heap.size w w' := by
  go_enter Try.func21, Try.ntmps21
  go_wp2
  exact bodyPost_ret (v := .tuple #[(.string ⟨#[]⟩), .bool false]) (by simp [results, Try.results21, go_sem]) rfl ⟨rfl, Below.refl _ _⟩


set_option maxRecDepth 100000 in
set_option maxHeartbeats 1000000 in
theorem nil_Next_s (w : World) (k : Key) (wi : Bool) : Calls Try.prog 33 #[.pointer none, .string (kb k), .bool wi] w fun e w' => e = .returned ((.tuple #[.string ⟨#[]⟩, (.string ⟨#[]⟩), .bool false])) ∧ Below w.heap.size w w' := by
  go_enter Try.func33, Try.ntmps33
  go_wp2_with fail
  refine (told_s w (.pointer none) none rfl).mono ?_
  rintro e w2 ⟨rfl, hb⟩
  unfold toldV
  simp only
  go_wp2
  exact bodyPost_ret (v := (.tuple #[.string ⟨#[]⟩, (.string ⟨#[]⟩), .bool false])) (by simp [results, Try.results33, go_sem]) rfl ⟨rfl, hb⟩


set_option maxRecDepth 100000 in
set_option maxHeartbeats 1000000 in
theorem nil_Keys_s (w : World) (k tu : Key) (most : Int) : Calls Try.prog 17 #[.pointer none, .string (kb k), .string (kb tu), .int .i64 most] w fun e w' => e = .returned (.slice none 0 0) ∧ Below w.heap.size w w' := by
  go_enter Try.func17, Try.ntmps17
  have HNX := Lib.hid (nil_Next_s w k true)
  go_wp2_with fail
  refine HNX.out.mono ?_
  rintro e w2 ⟨rfl, hb⟩
  go_wp2
  go_loop [9, 10, 12] (fun l k ok => l = .slice none 0 0 ∧ k = .string ⟨#[]⟩ ∧ ok = .bool false) (fun _ _ _ => 0)
  case atStart => exact ⟨rfl, rfl, rfl⟩
  case round =>
    obtain ⟨rfl, rfl, rfl⟩ := hrel
    go_wp2
    go_ret
    exact ⟨rfl, hb⟩

set_option maxRecDepth 100000 in
set_option maxHeartbeats 1000000 in
theorem nil_Pages_s (w : World)  : Calls Try.prog 23 #[.pointer none] w fun e w' => e = .returned (.slice none 0 0) ∧ Below w.heap.size w w' := by
  go_enter Try.func23, Try.ntmps23
  have HLEN := Lib.hid (nil_Len_s w)
  go_wp2_with fail
  refine HLEN.out.mono ?_
  rintro e w2 ⟨rfl, hb⟩
  go_wp2
  go_ret
  exact ⟨rfl, hb⟩
set_option maxRecDepth 100000 in
set_option maxHeartbeats 1000000 in
theorem pages0_s (w : World) (tb : Nat) (p : P) (h : Blk w tb 77 [ptrV p.blk, .int .i64 ((0 : Nat) : Int)]) : Calls Try.prog 23 #[ptrV tb] w fun e w' => e = .returned (.slice none 0 0) ∧ Below w.heap.size w w' := by
  have HLEN := Lib.hid (len_s w tb p 0 h)
  unfold ptrV at HLEN ⊢
  clear h
  go_enter Try.func23, Try.ntmps23
  go_wp2_with fail
  refine HLEN.out.mono ?_
  rintro e wq ⟨rfl, hq⟩
  subst hq
  go_wp2
  go_ret
  exact ⟨rfl, Below.refl _ _⟩
end Go.Proofs.Ytfnndifckgjmjaa
/- TreeTurned: two trees, known by the keys that they hold. -/
namespace Go.Afx
open Go Go.RowKit
/-- A key is there. -/
def HasK (l : List En) (q : Key) : Prop := ∃ e ∈ l, e.key = q
theorem HasK.nil (q : Key) : ¬ HasK [] q := fun ⟨e, he, _⟩ => by simp at he
theorem HasK.cons (e : En) (l : List En) (q : Key) : HasK (e :: l) q ↔ e.key = q ∨ HasK l q := by
  unfold HasK
  simp [List.mem_cons]
theorem hasK_ins (k : Key) (v : Value) (q : Key) : ∀ l : List En, HasK (ins k v l) q ↔ q = k ∨ HasK l q
  | [] => by
    rw [ins, HasK.cons]
    constructor
    · rintro (h | h)
      · exact .inl h.symm
      · exact .inr h
    · rintro (h | h)
      · exact .inl h.symm
      · exact .inr h
  | e :: r => by
    rw [ins]
    split
    · rw [HasK.cons, HasK.cons, hasK_ins k v q r]
      constructor
      · rintro (h | h | h)
        · exact .inr (.inl h)
        · exact .inl h
        · exact .inr (.inr h)
      · rintro (h | h | h)
        · exact .inr (.inl h)
        · exact .inl h
        · exact .inr (.inr h)
    · split
      · rename_i _ h1
        rw [HasK.cons, HasK.cons, h1]
        constructor
        · rintro (h | h)
          · exact .inl h.symm
          · exact .inr (.inr h)
        · rintro (h | h | h)
          · exact .inl h.symm
          · exact .inl h
          · exact .inr h
      · rw [HasK.cons]
        constructor
        · rintro (h | h)
          · exact .inl h.symm
          · exact .inr h
        · rintro (h | h)
          · exact .inl h.symm
          · exact .inr h
theorem hasK_less {k : Key} {l : List En} (h : ∀ x ∈ l, Op.bytesLess k x.key = true) : ¬ HasK l k := fun ⟨e, he, hk⟩ => by
  have h1 := h e he
  rw [hk, klt_irrefl] at h1
  cases h1
theorem hasK_del (k : Key) (q : Key) : ∀ l : List En, Rise l → (HasK (del k l) q ↔ q ≠ k ∧ HasK l q)
  | [], _ => by
    rw [del]
    exact ⟨fun h => absurd h (HasK.nil q), fun h => h.2⟩
  | e :: r, hr => by
    obtain ⟨h1, h2⟩ := List.pairwise_cons.1 hr
    rw [del]
    split
    · rename_i hlt
      rw [HasK.cons, HasK.cons, hasK_del k q r h2]
      constructor
      · rintro (h | ⟨h, h3⟩)
        · exact ⟨fun e2 => klt_ne hlt (h.trans e2), .inl h⟩
        · exact ⟨h, .inr h3⟩
      · rintro ⟨h, h3 | h3⟩
        · exact .inl h3
        · exact .inr ⟨h, h3⟩
    · split
      · rename_i _ he
        rw [HasK.cons]
        constructor
        · intro h
          refine ⟨fun e2 => ?_, .inr h⟩
          rw [e2, ← he] at h
          exact hasK_less h1 h
        · rintro ⟨h, h3 | h3⟩
          · exact absurd (h3.symm.trans he) h
          · exact h3
      · rename_i hn he
        constructor
        · intro h
          refine ⟨fun e2 => ?_, h⟩
          have hlt := klt_total _ _ (by simpa using hn) he
          rw [e2, HasK.cons] at h
          rcases h with h | h
          · exact he h
          · exact hasK_less (fun x hx => klt_trans _ _ _ hlt (h1 x hx)) h
        · exact fun h => h.2
theorem rise_ext : ∀ (x y : List En), Rise x → Rise y → (∀ q, HasK x q ↔ HasK y q) → x.map En.key = y.map En.key
  | [], [], _, _, _ => rfl
  | [], e :: y, _, _, h => absurd ((h e.key).2 ((HasK.cons _ _ _).2 (.inl rfl))) (HasK.nil _)
  | e :: x, [], _, _, h => absurd ((h e.key).1 ((HasK.cons _ _ _).2 (.inl rfl))) (HasK.nil _)
  | e :: x, f :: y, hx, hy, h => by
    obtain ⟨x1, x2⟩ := List.pairwise_cons.1 hx
    obtain ⟨y1, y2⟩ := List.pairwise_cons.1 hy
    have hef : e.key = f.key := by
      have h1 := (h e.key).1 ((HasK.cons _ _ _).2 (.inl rfl))
      have h2 := (h f.key).2 ((HasK.cons _ _ _).2 (.inl rfl))
      rw [HasK.cons] at h1 h2
      rcases h1 with h1 | ⟨a, ha, hak⟩
      · exact h1.symm
      · rcases h2 with h2 | ⟨b, hb, hbk⟩
        · exact h2
        · have h3 := y1 a ha
          have h4 := x1 b hb
          rw [hak] at h3
          rw [hbk] at h4
          rw [klt_asymm _ _ h3] at h4
          cases h4
    have hrest : ∀ q, HasK x q ↔ HasK y q := fun q => by
      have h1 := h q
      rw [HasK.cons, HasK.cons, hef] at h1
      constructor
      · intro hq
        rcases h1.1 (.inr hq) with h2 | h2
        · rw [← h2, ← hef] at hq
          exact absurd hq (hasK_less x1)
        · exact h2
      · intro hq
        rcases h1.2 (.inr hq) with h2 | h2
        · rw [← h2] at hq
          exact absurd hq (hasK_less y1)
        · exact h2
    rw [List.map_cons, List.map_cons, hef, rise_ext x y x2 y2 hrest]
theorem keysFrom_all (l : List En) : keysFrom [] [] l = l.map En.key := by
  unfold keysFrom
  congr 1
  rw [List.filter_eq_self]
  intro e _
  cases e.key <;> simp [Op.bytesLess]
theorem hasK_none {l : List En} (h : ∀ q, ¬ HasK l q) : l = [] := by
  cases l with
  | nil => rfl
  | cons e r => exact absurd ((HasK.cons _ _ _).2 (.inl rfl)) (h e.key)
end Go.Afx
namespace Go.Proofs.Ytfnndifckgjmjaa
open Go.RowKit Go.Afx
/-- Two trees, and what keys they hold. -/
def Two (w : World) (ta tb : Nat) (A B : Key → Prop) (sa sb : Nat) (wr : World) : Prop :=
  ∃ p d n q d2 n2, Trk w [] wr (trsi ta p n ++ trss tb q n2) ∧ Afx.Good d p.t ∧ n = p.t.flat.length ∧ Afx.Good d2 q.t ∧ n2 = q.t.flat.length ∧ (∀ k, HasK p.t.flat k ↔ A k) ∧ (∀ k, HasK q.t.flat k ↔ B k) ∧ n ≤ sa ∧ n2 ≤ sb
theorem Two.low {w wr : World} {ta tb : Nat} {A B : Key → Prop} {sa sb : Nat} (h : Two w ta tb A B sa sb wr) : Below w.heap.size w wr := by
  obtain ⟨p, d, n, q, d2, n2, T, _⟩ := h
  exact T.only.below (Nat.le_refl _) (fun k hk => by simp at hk)
theorem Two.below {w wr w' : World} {ta tb : Nat} {A B : Key → Prop} {sa sb : Nat} (h : Two w ta tb A B sa sb wr) (hb : Below wr.heap.size wr w') : Two w ta tb A B sa sb w' := by
  obtain ⟨p, d, n, q, d2, n2, T, h2⟩ := h
  exact ⟨p, d, n, q, d2, n2, T.below hb, h2⟩
theorem Two.congr {w wr : World} {ta tb : Nat} {A B A' B' : Key → Prop} {sa sb : Nat} (h : Two w ta tb A B sa sb wr) (hA : ∀ k, A k ↔ A' k) (hB : ∀ k, B k ↔ B' k) : Two w ta tb A' B' sa sb wr := by
  obtain ⟨p, d, n, q, d2, n2, T, g1, e1, g2, e2, k1, k2, s⟩ := h
  exact ⟨p, d, n, q, d2, n2, T, g1, e1, g2, e2, fun k => (k1 k).trans (hA k), fun k => (k2 k).trans (hB k), s⟩
theorem Two.putA {w wr : World} {ta tb : Nat} {A B : Key → Prop} {sa sb : Nat} (h : Two w ta tb A B sa sb wr) (hs : sa ≤ 99998) (k : Key) (z : Int) :
    Calls Try.prog 15 #[ptrV ta, .string (kb k), .int .i64 z] wr fun e w' => (∃ v, e = .returned v) ∧ Two w ta tb (fun q => q = k ∨ A q) B (sa + 1) sb w' := by
  obtain ⟨p, d, n, q, d2, n2, T, g1, e1, g2, e2, k1, k2, s1, s2⟩ := h
  refine (tput_i wr ta p d n k z T.sep.left g1 e1 (by omega)).mono ?_
  rintro e w' ⟨he, p', hp', T3⟩
  refine ⟨⟨_, he⟩, p', (putTop k (.int .i64 z) d p.t).1, _, q, d2, n2, T.call T3, ?_, ?_, g2, e2, ?_, k2, ?_, s2⟩
  · rw [hp']; exact (putTop_good g1).1
  · rw [hp', (putTop_good g1).2, look_ins_len g1.rise, e1]
  · intro x; rw [hp', (putTop_good g1).2, hasK_ins, k1]
  · split <;> omega
theorem Two.putB {w wr : World} {ta tb : Nat} {A B : Key → Prop} {sa sb : Nat} (h : Two w ta tb A B sa sb wr) (hs : sb ≤ 99998) (k : Key) (z : ByteArray) :
    Calls Try.prog 16 #[ptrV tb, .string (kb k), .string z] wr fun e w' => (∃ v, e = .returned v) ∧ Two w ta tb A (fun q => q = k ∨ B q) sa (sb + 1) w' := by
  obtain ⟨p, d, n, q, d2, n2, T, g1, e1, g2, e2, k1, k2, s1, s2⟩ := h
  have T2 := T.perm (List.perm_append_comm (l₁ := trsi ta p n) (l₂ := trss tb q n2))
  refine (tput_s wr tb q d2 n2 k z T2.sep.left g2 e2 (by omega)).mono ?_
  rintro e w' ⟨he, p', hp', T3⟩
  refine ⟨⟨_, he⟩, p, d, n, p', (putTop k (.string z) d2 q.t).1, _, (T2.call T3).perm List.perm_append_comm, g1, e1, ?_, ?_, k1, ?_, s1, ?_⟩
  · rw [hp']; exact (putTop_good g2).1
  · rw [hp', (putTop_good g2).2, look_ins_len g2.rise, e2]
  · intro x; rw [hp', (putTop_good g2).2, hasK_ins, k2]
  · split <;> omega
theorem Two.delA {w wr : World} {ta tb : Nat} {A B : Key → Prop} {sa sb : Nat} (h : Two w ta tb A B sa sb wr) (hs : sa ≤ 99998) (k : Key) :
    Calls Try.prog 20 #[ptrV ta, .string (kb k)] wr fun e w' => (∃ v, e = .returned v) ∧ Two w ta tb (fun q => q ≠ k ∧ A q) B sa sb w' := by
  obtain ⟨p, d, n, q, d2, n2, T, g1, e1, g2, e2, k1, k2, s1, s2⟩ := h
  refine (tdel_i wr ta p d n k T.sep.left g1 e1 (by omega)).mono ?_
  rintro e w' ⟨he, d', p', hg', hp', T3⟩
  refine ⟨⟨_, he⟩, p', d', _, q, d2, n2, T.call T3, hg', ?_, g2, e2, ?_, k2, ?_, s2⟩
  · rw [hp', look_del_len g1.rise, e1]
  · intro x; rw [hp', hasK_del _ _ _ g1.rise, k1]
  · split <;> omega
theorem Two.delB {w wr : World} {ta tb : Nat} {A B : Key → Prop} {sa sb : Nat} (h : Two w ta tb A B sa sb wr) (hs : sb ≤ 99998) (k : Key) :
    Calls Try.prog 21 #[ptrV tb, .string (kb k)] wr fun e w' => (∃ v, e = .returned v) ∧ Two w ta tb A (fun q => q ≠ k ∧ B q) sa sb w' := by
  obtain ⟨p, d, n, q, d2, n2, T, g1, e1, g2, e2, k1, k2, s1, s2⟩ := h
  have T2 := T.perm (List.perm_append_comm (l₁ := trsi ta p n) (l₂ := trss tb q n2))
  refine (tdel_s wr tb q d2 n2 k T2.sep.left g2 e2 (by omega)).mono ?_
  rintro e w' ⟨he, d', p', hg', hp', T3⟩
  refine ⟨⟨_, he⟩, p, d, n, p', d', _, (T2.call T3).perm List.perm_append_comm, g1, e1, hg', ?_, k1, ?_, s1, ?_⟩
  · rw [hp', look_del_len g2.rise, e2]
  · intro x; rw [hp', hasK_del _ _ _ g2.rise, k2]
  · split <;> omega
/-- What both tell, when they hold the same. -/
theorem Two.both {w wr : World} {ta tb : Nat} {A B : Key → Prop} {sa sb : Nat} (h : Two w ta tb A B sa sb wr) (hs : sa ≤ 99998) (hs2 : sb ≤ 99998) (hAB : ∀ k, A k ↔ B k) : ∃ (x : List Key) (n : Nat),
    (∀ w2, Below wr.heap.size wr w2 → Calls Try.prog 11 #[ptrV ta, .string ⟨#[]⟩, .string ⟨#[]⟩, .int .i64 100] w2 fun e w' => ∃ v, e = .returned v ∧ Own w' 9 1 v x.length (strs x) ∧ Below w2.heap.size w2 w') ∧
    (∀ w2, Below wr.heap.size wr w2 → Calls Try.prog 17 #[ptrV tb, .string ⟨#[]⟩, .string ⟨#[]⟩, .int .i64 100] w2 fun e w' => ∃ v, e = .returned v ∧ Own w' 9 1 v x.length (strs x) ∧ Below w2.heap.size w2 w') ∧
    (∀ w2, Below wr.heap.size wr w2 → Calls Try.prog 18 #[ptrV ta] w2 fun e w' => e = .returned (.int .i64 (n : Int)) ∧ w' = w2) ∧
    (∀ w2, Below wr.heap.size wr w2 → Calls Try.prog 19 #[ptrV tb] w2 fun e w' => e = .returned (.int .i64 (n : Int)) ∧ w' = w2) := by
  obtain ⟨p, d, n, q, d2, n2, T, g1, e1, g2, e2, k1, k2, s1, s2⟩ := h
  have hx := rise_ext p.t.flat q.t.flat g1.rise g2.rise (fun k => (k1 k).trans ((hAB k).trans (k2 k).symm))
  have hn : n2 = n := by
    have h1 := congrArg List.length hx
    rw [List.length_map, List.length_map] at h1
    omega
  have T2 := T.perm (List.perm_append_comm (l₁ := trsi ta p n) (l₂ := trss tb q n2))
  have kt : Blk wr ta 68 [ptrV p.blk, .int .i64 (n : Int)] := T.sep.left.all (rTi ta p n) (by simp)
  have kt2 : Blk wr tb 77 [ptrV q.blk, .int .i64 (n2 : Int)] := T2.sep.left.all (rTs tb q n2) (by simp)
  refine ⟨(keysFrom [] [] p.t.flat).take (100 : Int).toNat, n, fun w2 hb => ?_, fun w2 hb => ?_, fun w2 hb => len_i w2 ta p n (kt.below hb), fun w2 hb => ?_⟩
  · refine (keys_i w2 ta p d n [] [] 100 (T.sep.left.below hb) g1 e1 (by omega) (by omega) (by omega)).mono ?_
    rintro e w' ⟨v, he, ho, _, hb2⟩
    exact ⟨v, he, ho, hb2⟩
  · refine (keys_s w2 tb q d2 n2 [] [] 100 (T2.sep.left.below hb) g2 e2 (by omega) (by omega) (by omega)).mono ?_
    rintro e w' ⟨v, he, ho, _, hb2⟩
    rw [keysFrom_all] at ho ⊢
    rw [← hx] at ho
    exact ⟨v, he, ho, hb2⟩
  · subst hn
    exact len_s w2 tb q _ (kt2.below hb)
/-- What both tell, when they hold nothing. -/
theorem Two.none {w wr : World} {ta tb : Nat} {A B : Key → Prop} {sa sb : Nat} (h : Two w ta tb A B sa sb wr) (hA : ∀ k, ¬ A k) (hB : ∀ k, ¬ B k) :
    (∀ w2, Below wr.heap.size wr w2 → Calls Try.prog 18 #[ptrV ta] w2 fun e w' => e = .returned (.int .i64 0) ∧ w' = w2) ∧
    (∀ w2, Below wr.heap.size wr w2 → Calls Try.prog 19 #[ptrV tb] w2 fun e w' => e = .returned (.int .i64 0) ∧ w' = w2) ∧
    (∀ w2, Below wr.heap.size wr w2 → Calls Try.prog 22 #[ptrV ta] w2 fun e w' => e = .returned (.int .i64 0) ∧ Below w2.heap.size w2 w') ∧
    (∀ w2, Below wr.heap.size wr w2 → Calls Try.prog 23 #[ptrV tb] w2 fun e w' => e = .returned (.slice none 0 0) ∧ Below w2.heap.size w2 w') := by
  obtain ⟨p, d, n, q, d2, n2, T, g1, e1, g2, e2, k1, k2, s1, s2⟩ := h
  have hp := hasK_none fun k hk => hA k ((k1 k).1 hk)
  have hq := hasK_none fun k hk => hB k ((k2 k).1 hk)
  rw [hp, List.length_nil] at e1
  rw [hq, List.length_nil] at e2
  subst e1
  subst e2
  have T2 := T.perm (List.perm_append_comm (l₁ := trsi ta p 0) (l₂ := trss tb q 0))
  have kt : Blk wr ta 68 [ptrV p.blk, .int .i64 ((0 : Nat) : Int)] := T.sep.left.all (rTi ta p 0) (by simp)
  have kt2 : Blk wr tb 77 [ptrV q.blk, .int .i64 ((0 : Nat) : Int)] := T2.sep.left.all (rTs tb q 0) (by simp)
  exact ⟨fun w2 hb => len_i w2 ta p 0 (kt.below hb), fun w2 hb => len_s w2 tb q 0 (kt2.below hb), fun w2 hb => depth0_i w2 ta p (kt.below hb), fun w2 hb => pages0_s w2 tb q (kt2.below hb)⟩
end Go.Proofs.Ytfnndifckgjmjaa
/- TreeTurned: its walk. -/
namespace Go.Afx
open Go Go.RowKit
/-- The keys at the places up to one. -/
def Sk (f : Nat → Option Key) (j : Nat) (q : Key) : Prop := ∃ i, i < j ∧ f i = some q
theorem Sk.zero (f : Nat → Option Key) (q : Key) : ¬ Sk f 0 q := fun ⟨i, hi, _⟩ => by omega
theorem Sk.succ {f : Nat → Option Key} {j : Nat} {x : Key} (h : f j = some x) (q : Key) : (q = x ∨ Sk f j q) ↔ Sk f (j + 1) q := by
  constructor
  · rintro (rfl | ⟨i, hi, hf⟩)
    · exact ⟨j, by omega, h⟩
    · exact ⟨i, by omega, hf⟩
  · rintro ⟨i, hi, hf⟩
    by_cases e : i = j
    · subst e
      rw [h] at hf
      exact .inl (Option.some.inj hf).symm
    · exact .inr ⟨i, by omega, hf⟩
def f0 (l : List Key) (i : Nat) : Option Key := l[i]?
def f1 (l : List Key) (k n i : Nat) : Option Key := l[(i + k) % n]?
def f2 (l : List Key) (n i : Nat) : Option Key := l[n - 1 - i]?
theorem f1_all {l : List Key} {k n : Nat} (hk : k < n) {q : Key} (h : Sk (f0 l) n q) : Sk (f1 l k n) n q := by
  obtain ⟨m, hm, hq⟩ := h
  refine ⟨(m + n - k) % n, Nat.mod_lt _ (by omega), ?_⟩
  unfold f1
  rw [Nat.mod_add_mod, show m + n - k + k = m + n from by omega, Nat.add_mod_right, Nat.mod_eq_of_lt hm]
  exact hq
theorem all_same {l : List Key} {k n : Nat} (hk : k < n) (q : Key) : Sk (f0 l) n q ↔ (Sk (f1 l k n) n q ∨ Sk (f2 l n) n q) := by
  constructor
  · exact fun h => .inl (f1_all hk h)
  · rintro (⟨i, hi, h⟩ | ⟨i, hi, h⟩)
    · exact ⟨(i + k) % n, Nat.mod_lt _ (by omega), h⟩
    · exact ⟨n - 1 - i, by omega, h⟩
theorem del_set {L S S' : Key → Prop} {x : Key} (h : ∀ q, (q = x ∨ S q) ↔ S' q) (q : Key) : (q ≠ x ∧ (L q ∧ ¬ S q)) ↔ (L q ∧ ¬ S' q) := by
  rw [← h q]
  constructor
  · rintro ⟨h1, h2, h3⟩
    exact ⟨h2, fun e => e.elim h1 h3⟩
  · rintro ⟨h1, h2⟩
    exact ⟨fun e => h2 (.inl e), h1, fun e => h2 (.inr e)⟩
end Go.Afx
namespace Go.Proofs.Ytfnndifckgjmjaa
open Go.RowKit Go.Afx
theorem Two.more {w wr : World} {ta tb : Nat} {A B : Key → Prop} {sa sb sa' sb' : Nat} (h : Two w ta tb A B sa sb wr) (h1 : sa ≤ sa') (h2 : sb ≤ sb') : Two w ta tb A B sa' sb' wr := by
  obtain ⟨p, d, n, q, d2, n2, T, g1, e1, g2, e2, k1, k2, s1, s2⟩ := h
  exact ⟨p, d, n, q, d2, n2, T, g1, e1, g2, e2, k1, k2, by omega, by omega⟩
theorem Two.new {w w1 w2 : World} {ta tb : Nat} {p q : P} (h1 : Trk w [] w1 (trsi ta p 0)) (h2 : Trk w1 [] w2 (trss tb q 0)) (hp : p.t = .node [] []) (hq : q.t = .node [] []) (f f' g g' : Nat → Option Key) : Two w ta tb (Sk f 0) (fun x => Sk g 0 x ∨ Sk g' 0 x) 0 0 w2 := by
  have T := (Trk.call (rs := []) (rest := trsi ta p 0) h1 h2).perm List.perm_append_comm
  refine ⟨p, 0, 0, q, 0, 0, T, by rw [hp]; exact Afx.Good.new, by rw [hp, flat_leaf]; rfl, by rw [hq]; exact Afx.Good.new, by rw [hq, flat_leaf]; rfl, fun k => ?_, fun k => ?_, Nat.le_refl _, Nat.le_refl _⟩
  · rw [hp, flat_leaf]
    exact ⟨fun h => absurd h (HasK.nil k), fun h => absurd h (Sk.zero _ _)⟩
  · rw [hq, flat_leaf]
    exact ⟨fun h => absurd h (HasK.nil k), fun h => h.elim (fun h => absurd h (Sk.zero _ _)) (fun h => absurd h (Sk.zero _ _))⟩
set_option maxRecDepth 100000 in
set_option maxHeartbeats 4000000 in
theorem turned_any (w : World) (v : Value) (l : List Key) (by_ : Int) (h : Sl w (fun _ => True) 1 v l.length (strs l)) :
    Calls Try.prog 4 #[v, .int .i64 by_] w fun e w' => e = .returned (.bool true) ∧ Below w.heap.size w w' := by
  obtain ⟨n, hn⟩ : ∃ n, l.length = n := ⟨_, rfl⟩
  rw [hn] at h
  have HAW := Lib.hid fun (w2 : World) => awake_any w2
  by_cases h0 : n = 0
  · subst h0
    obtain ⟨p, cap, rfl, hc1, hc2⟩ := h.form
    clear h hn
    go_enter Try.func4, Try.ntmps4
    go_wp2_with (go_at_call 8; refine (HAW.out _).mono ?_; rintro e w2 ⟨rfl, hb2⟩)
    go_ret
    exact ⟨rfl, hb2⟩
  · obtain ⟨g, off, cap, rfl, hc1, hc2, _, hlt, hcs⟩ := h.place (by omega)
    unfold maxLen at hc2
    have hz1 : ((n : Int) == 0) = false := beq_eq_false_iff_ne.2 (by omega)
    by_cases h1 : 100 < n
    · clear h hn hcs
      go_enter Try.func4, Try.ntmps4
      go_wp2_with (go_at_call 8; refine (HAW.out _).mono ?_; rintro e w2 ⟨rfl, hb2⟩)
      go_ret
      exact ⟨rfl, hb2⟩
    · have HCELL : Hid (∀ i x, l[i]? = some x → ∀ w3, Below w.heap.size w w3 → w3.cell? ⟨g, off + i, none⟩ = some (.string (kb x))) := fun i x hx w3 hb => by
        have hi : i < l.length := (List.getElem?_eq_some_iff.1 hx).1
        rw [hb.cell (p := ⟨g, _, none⟩) hlt, hcs i (by rw [strs_length]; exact hi)]
        simp [strs, hx]
      have HGET : Hid (∀ i, i < n → ∃ x, l[i]? = some x) := fun i hi => ⟨_, List.getElem?_eq_getElem (by rw [hn]; exact hi)⟩
      obtain ⟨ua, hua⟩ : ∃ ua : Nat, IntKind.u64.wrap by_ = (ua : Int) := ⟨(IntKind.u64.wrap by_).toNat, by rw [IntKind.wrap_u64]; omega⟩
      have hmod : (ua : Int) % (n : Int) = ((ua % n : Nat) : Int) := by omega
      have hkn : ua % n < n := Nat.mod_lt _ (by omega)
      generalize ua % n = k at *
      clear h hn hcs hlt
      go_enter Try.func4, Try.ntmps4
      go_wp2_with (first
        | (go_at_call 8; refine (HAW.out _).mono ?_; rintro e wa ⟨rfl, hba⟩; clear HAW; have HBA := Lib.hid hba; clear hba)
        | (go_at_call 13; refine (new_i _).mono ?_; rintro e w1 ⟨ta, p, rfl, hp, T1⟩; have HT1 := Lib.hid T1; have HP := Lib.hid hp; clear T1 hp)
        | (go_at_call 14; refine (new_s _).mono ?_; rintro e w2 ⟨tb, q, rfl, hq, T2⟩; have HTW := Lib.hid (Two.new HT1.out T2 HP.out hq (f0 l) (f0 l) (f1 l k n) (f2 l n)); clear T2 hq HT1 HP))
      clear hua hmod
      go_loopw [8] (fun i wr => ∃ j : Nat, i = .int .i64 j ∧ j ≤ n ∧ Two wa ta tb (Sk (f0 l) j) (fun x => Sk (f1 l k n) j x ∨ Sk (f2 l n) j x) j (2 * j) wr) (fun i _ => n - (intOf i).toNat)
      case atStart => exact ⟨0, rfl, Nat.zero_le _, HTW.out⟩
      case round =>
        obtain ⟨j, rfl, hj, htw⟩ := hrel
        have HT := Lib.hid htw
        clear htw HTW
        by_cases hjn : j < n
        · obtain ⟨x0, hx0⟩ := HGET.out j hjn
          obtain ⟨x1, hx1⟩ := HGET.out ((j + k) % n) (Nat.mod_lt _ (by omega))
          obtain ⟨x2, hx2⟩ := HGET.out (n - 1 - j) (by omega)
          have HX0 : Hid (f0 l j = some x0) := hx0
          have HX1 : Hid (f1 l k n j = some x1) := hx1
          have HX2 : Hid (f2 l n j = some x2) := hx2
          have hm1 : ((j : Int) + (k : Int)) % (n : Int) = (((j + k) % n : Nat) : Int) := by simp
          have hl1 : (j + k) % n < n := Nat.mod_lt _ (by omega)
          have hm2 : (n : Int) - 1 - (j : Int) = ((n - 1 - j : Nat) : Int) := by omega
          have hl2 : n - 1 - j < n := by omega
          have HC1 := Lib.hid (HCELL.out _ _ hx1)
          have HC2 := Lib.hid (HCELL.out _ _ hx2)
          have c0 := HCELL.out _ _ hx0 wr (HBA.out.trans (HT.out.low.mono HBA.out.size))
          have HPA := Lib.hid (HT.out.putA (by omega) x0 (j : Int))
          clear hx0 hx1 hx2
          generalize (j + k) % n = m1 at *
          generalize n - 1 - j = m2 at *
          go_wp2_with fail
          refine HPA.out.mono ?_
          clear HPA
          rintro e w3 ⟨⟨v3, rfl⟩, t3⟩
          have c1 := HC1.out w3 (HBA.out.trans (t3.low.mono HBA.out.size))
          have HPB := Lib.hid (t3.putB (by omega) x1 ⟨#[120]⟩)
          clear t3 c0
          go_wp2_with fail
          refine HPB.out.mono ?_
          clear HPB
          rintro e w4 ⟨⟨v4, rfl⟩, t4⟩
          have c2 := HC2.out w4 (HBA.out.trans (t4.low.mono HBA.out.size))
          have HPC := Lib.hid (t4.putB (by omega) x2 ⟨#[121]⟩)
          clear t4 c1
          go_wp2_with fail
          refine HPC.out.mono ?_
          clear HPC
          rintro e w5 ⟨⟨v5, rfl⟩, t5⟩
          have T5 := Lib.hid ((t5.congr (A' := Sk (f0 l) (j + 1)) (B' := fun x => Sk (f1 l k n) (j + 1) x ∨ Sk (f2 l n) (j + 1) x) (Sk.succ HX0.out) (fun q => by
            rw [← Sk.succ HX1.out q, ← Sk.succ HX2.out q]
            constructor
            · rintro (h | h | h | h)
              · exact .inr (.inl h)
              · exact .inl (.inl h)
              · exact .inl (.inr h)
              · exact .inr (.inr h)
            · rintro ((h | h) | h | h)
              · exact .inr (.inl h)
              · exact .inr (.inr (.inl h))
              · exact .inl h
              · exact .inr (.inr (.inr h)))).more (sa' := j + 1) (sb' := 2 * (j + 1)) (by omega) (by omega))
          clear t5 c2
          go_wp2_with fail
          go_roundw
          case rel => exact ⟨j + 1, by go_num, by omega, T5.out⟩
          case measure => (simp [intOf]) <;> omega
        · obtain rfl : j = n := by omega
          obtain ⟨x, m, K1, K2, L1, L2⟩ := HT.out.both (by omega) (by omega) (all_same hkn)
          have HK1 := Lib.hid K1
          have HK2 := Lib.hid K2
          have HL1 := Lib.hid L1
          have HL2 := Lib.hid L2
          clear K1 K2 L1 L2
          go_wp2_with (first
            | (go_at_call 11; refine (HK1.out _ (Below.refl _ _)).mono ?_; rintro e w5 ⟨v5, rfl, ho5, hb5⟩; clear HK1; obtain ⟨p5, c5, hp5, _, _⟩ := (ho5.sl (B := fun _ => True) (fun _ _ => trivial)).form; subst hp5; have HO5 := Lib.hid ho5; have HB5 := Lib.hid hb5; clear ho5 hb5)
            | (go_at_call 17; refine (HK2.out _ HB5.out).mono ?_; rintro e w6 ⟨v6, rfl, ho6, hb6⟩; clear HK2; obtain ⟨p6, c6, hp6, _, _⟩ := (ho6.sl (B := fun _ => True) (fun _ _ => trivial)).form; subst hp6; have HS6 := Lib.hid (same_true w6 _ _ _ _ x _ rfl ((HO5.out.below hb6).sl (B := fun _ => True) (fun _ _ => trivial)) (ho6.sl (B := fun _ => True) (fun _ _ => trivial))); have HB6 := Lib.hid (HB5.out.trans (hb6.mono HB5.out.size)); clear ho6 hb6)
            | (go_at_call 10; refine HS6.out.mono ?_; rintro e w7 ⟨rfl, hb7⟩; clear HS6; have HB7 := Lib.hid (HB6.out.trans (hb7.mono HB6.out.size)); have HTB := Lib.hid (HT.out.below HB7.out); clear hb7)
            | (go_at_call 18; refine (HL1.out _ HB7.out).mono ?_; rintro e w8 ⟨rfl, rfl⟩; clear HL1)
            | (go_at_call 19; refine (HL2.out _ HB7.out).mono ?_; rintro e w8 ⟨rfl, rfl⟩; clear HL2))
          have HZ := Lib.hid (HTB.out.congr (A' := fun q => Sk (f0 l) j q ∧ ¬ Sk (f1 l k j) 0 q) (B' := fun q => Sk (f0 l) j q ∧ ¬ Sk (f0 l) 0 q) (fun q => ⟨fun h => ⟨h, Sk.zero _ _⟩, fun h => h.1⟩) (fun q => ⟨fun h => ⟨(all_same hkn q).2 h, Sk.zero _ _⟩, fun h => (all_same hkn q).1 h.1⟩))
          clear HTB HT HO5
          go_loopw [9] (fun i wr => ∃ i' : Nat, i = .int .i64 i' ∧ i' ≤ j ∧ Two wa ta tb (fun q => Sk (f0 l) j q ∧ ¬ Sk (f1 l k j) i' q) (fun q => Sk (f0 l) j q ∧ ¬ Sk (f0 l) i' q) j (2 * j) wr) (fun i _ => j - (intOf i).toNat)
          case atStart => exact ⟨0, rfl, Nat.zero_le _, HZ.out⟩
          case round =>
            obtain ⟨i, rfl, hi, htw⟩ := hrel
            have HT := Lib.hid htw
            clear htw HZ
            by_cases hin : i < j
            · obtain ⟨x0, hx0⟩ := HGET.out i hin
              obtain ⟨x1, hx1⟩ := HGET.out ((i + k) % j) (Nat.mod_lt _ (by omega))
              have HX0 : Hid (f0 l i = some x0) := hx0
              have HX1 : Hid (f1 l k j i = some x1) := hx1
              have hm1 : ((i : Int) + (k : Int)) % (j : Int) = (((i + k) % j : Nat) : Int) := by simp
              have hl1 : (i + k) % j < j := Nat.mod_lt _ (by omega)
              have HC0 := Lib.hid (HCELL.out _ _ hx0)
              have c1 := HCELL.out _ _ hx1 _ (HBA.out.trans (HT.out.low.mono HBA.out.size))
              have HPA := Lib.hid (HT.out.delA (by omega) x1)
              clear hx0 hx1
              generalize (i + k) % j = m1 at *
              go_wp2_with fail
              refine HPA.out.mono ?_
              clear HPA
              rintro e w9 ⟨⟨v9, rfl⟩, t9⟩
              have c0 := HC0.out w9 (HBA.out.trans (t9.low.mono HBA.out.size))
              have HPB := Lib.hid (t9.delB (by omega) x0)
              clear t9 c1
              go_wp2_with fail
              refine HPB.out.mono ?_
              clear HPB
              rintro e w10 ⟨⟨v10, rfl⟩, t10⟩
              have T10 := Lib.hid (t10.congr (A' := fun q => Sk (f0 l) j q ∧ ¬ Sk (f1 l k j) (i + 1) q) (B' := fun q => Sk (f0 l) j q ∧ ¬ Sk (f0 l) (i + 1) q) (del_set (Sk.succ HX1.out)) (del_set (Sk.succ HX0.out)))
              clear t10 c0
              go_wp2_with fail
              go_roundw
              case rel => exact ⟨i + 1, by go_num, by omega, T10.out⟩
              case measure => (simp [intOf]) <;> omega
            · obtain rfl : i = j := by omega
              obtain ⟨L1, L2, D1, P1⟩ := HT.out.none (fun q h => h.2 (f1_all hkn h.1)) (fun q h => h.2 h.1)
              have HL1 := Lib.hid L1
              have HL2 := Lib.hid L2
              have HD1 := Lib.hid D1
              have HP1 := Lib.hid P1
              clear L1 L2 D1 P1
              go_wp2_with (first
                | (go_at_call 18; refine (HL1.out _ (Below.refl _ _)).mono ?_; rintro e w8 ⟨rfl, rfl⟩; clear HL1)
                | (go_at_call 19; refine (HL2.out _ (Below.refl _ _)).mono ?_; rintro e w8 ⟨rfl, rfl⟩; clear HL2)
                | (go_at_call 22; refine (HD1.out _ (Below.refl _ _)).mono ?_; rintro e w11 ⟨rfl, hb11⟩; clear HD1; have HB11 := Lib.hid hb11; clear hb11)
                | (go_at_call 23; refine (HP1.out _ HB11.out).mono ?_; rintro e w12 ⟨rfl, hb12⟩; clear HP1; have HB12 := Lib.hid (HB11.out.trans (hb12.mono HB11.out.size)); clear hb12))
              go_ret
              have h1 := HBA.out.trans (HT.out.low.mono HBA.out.size)
              exact ⟨rfl, h1.trans (HB12.out.mono h1.size)⟩
theorem open_keys {H : Type} {enc : TypeId × Value → H} {w : World} {v : Value} {d : DataW H} {ps : List MemPlace} (h : DataW.Trod enc Try.prog w 0 (fun _ => true) true 29 v d ps) (hv : v.cells.toList = [v]) :
    ∃ l : List Key, Sl w (fun _ => True) 1 v l.length (strs l) := by
  obtain ⟨fuel, hf⟩ := h
  rw [hv] at hf
  obtain ⟨es, h1, h2⟩ := open_sl Try.underlying29 tcStr (by omega) hf (fun c => ∃ k : Key, c = [.string (kb k)] ∧ True)
    (fun c ⟨a, hc, _⟩ => by subst hc; exact Ones.nil.cons rfl)
    (fun f c y hl hy => by
      obtain ⟨s, e1, _, _⟩ := DataW.trod_string Try.underlying9 hy
      exact ⟨s.data.toList, by rw [kb_of]; exact e1, trivial⟩)
  obtain ⟨ks, rfl, _⟩ := choose_list es (fun c hc => (h1 c hc).2)
  refine ⟨ks, ?_⟩
  have e : (ks.map fun k => [Value.string (kb k)]).flatten = strs ks := by
    clear h1 h2
    induction ks with
    | nil => rfl
    | cons k ks ih => rw [List.map_cons, List.flatten_cons, ih (fun _ _ => trivial)]; rfl
  simpa [e] using h2
theorem turned_walk (v : Value) (l : List Key) (by_ : Int) (_ : (Lit.int .i64 by_).wf = true) (w : World) (h : Sl w (fun _ => True) 1 v l.length (strs l)) :
    Calls Try.prog 4 #[v, .int .i64 by_] w fun e w' => e = .returned (.bool true) ∧ Below w.heap.size w w' := turned_any w v l by_ h
end Go.Proofs.Ytfnndifckgjmjaa
