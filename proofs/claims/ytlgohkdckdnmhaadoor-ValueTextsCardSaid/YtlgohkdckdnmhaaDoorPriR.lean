/- Prints of values, the document's; a row's line. -/
import Derived.Test.YtlgohkdckdnmhaaDoorPrs
import Derived.Test.YtlgohkdckdnmhaaDoorRefPrint
import Derived.Laws.MakeOwn
import Derived.Lib.Join
namespace Go.Proofs.YtlgohkdckdnmhaaDoor
open Go.RowKit Go.Afx

set_option maxRecDepth 100000 in
set_option maxHeartbeats 1000000 in
theorem refprint_text (w : World) (s : ByteArray) (hs : s.size ≤ 1000) :
    Calls Tryd.prog 40 #[.agg #[.int .i64 2, .int .i64 0, .string s]] w fun e w' => e = .returned (.string (bs (39 :: (esc 39 [39, 39] s.data.toList ++ [39])))) ∧ Below w.heap.size w w' := by
  obtain ⟨l, hl⟩ : ∃ l, s.data.toList = l := ⟨_, rfl⟩
  have HG := Lib.hid (get_list s l hl)
  have hsz := size_list s l hl
  have HSL := Lib.hid hl
  rw [hl]
  obtain ⟨wb, hwb⟩ : ∃ wb, w.alloc (.cells #[.int .i64 2, .int .i64 0, .string s] 27) = wb := ⟨_, rfl⟩
  have hbb : Below w.heap.size w wb := by rw [← hwb]; exact (Below.refl _ _).alloc (Nat.le_refl _) _
  have hk : Blk wb w.heap.size 27 [.int .i64 2, .int .i64 0, .string s] := by rw [← hwb]; exact Blk.new w _ _
  have HB0 := Lib.hid hbb
  obtain ⟨t0, t1, t2, _⟩ := blk3 hk
  have HSZ := Lib.hid hsz
  clear hbb hk hl hsz
  go_enter Tryd.func40, Tryd.ntmps40
  go_wp2_with (rw [hwb])
  go_loopw [3, 4] (fun v i wr => ∃ k : Nat, i = .int .i64 k ∧ k ≤ s.size ∧ v = .string (bs (39 :: esc 39 [39, 39] (l.take k))) ∧ wr = wb) (fun _ i _ => s.size - (intOf i).toNat)
  case atStart => exact ⟨0, rfl, Nat.zero_le _, rfl, rfl⟩
  case round =>
    obtain ⟨k, rfl, hk, rfl, rfl⟩ := hrel
    have hlen := (esc_length 39 39 39 (l.take k)).1
    rw [List.length_take] at hlen
    have HN : Hid (∀ h : k < l.length, esc 39 [39, 39] (l.take (k + 1)) = esc 39 [39, 39] (l.take k) ++ (if l[k] = 39 then [39, 39] else [l[k]])) := fun h => by
      rw [← List.take_append_getElem h, esc_append]; simp [esc]
    have HEND : Hid (l.length ≤ k → l.take k = l) := fun h => List.take_of_length_le h
    obtain ⟨q, hq⟩ : ∃ q, 39 :: esc 39 [39, 39] (l.take k) = q := ⟨_, rfl⟩
    have hql : q.length ≤ 2 * s.size + 1 := by rw [← hq, List.length_cons]; omega
    have hqs := bs_size q
    have HQ := Lib.hid hq
    rw [hq]
    clear hq hlen
    by_cases hka : k < s.size
    · have hkl : k < l.length := by rw [← HSZ.out]; exact hka
      have hcc : (s[k]'hka) = l[k] := HG.out k hka hkl
      have HN2 := Lib.hid (HN.out hkl)
      have hsub : (s.extract k (k + 1)) = bs [l[k]] := by
        rw [← bs_of (s.extract k (k + 1)), Lib.extract_data, HSL.out]
        congr 1
        rw [List.drop_eq_getElem_cons hkl]
        have : k + 1 - k = 1 := by omega
        rw [this]; rfl
      have hks : ∀ W : World, (Instr.slice 9 (.string s) (some (.int .i64 (k : Int))) (some (.int .i64 ((k : Int) + 1))) none).run Tryd.prog W = .ok (.string (bs [l[k]])) W := fun W => by
        rw [← hsub]; exact slice_mid s k (k + 1) (by omega) (by omega) W
      have h1s : (bs [l[k]]).size = 1 := rfl
      have hcat : bs q ++ bs [l[k]] = bs (q ++ [l[k]]) := bs_append _ _
      have hsum : (bs q).size + (bs [l[k]]).size ≤ 9223372036854775807 := by omega
      have hqs2 := bs_size (q ++ [l[k]])
      rw [List.length_append] at hqs2
      cases hz : ((((s[k]'hka).toNat : Int) == 39))
      · have hne : ¬ l[k] = 39 := fun h => by
          rw [hcc, h] at hz; cases hz
        rw [if_neg hne] at HN2
        have HS2 : Hid (bs (q ++ [l[k]]) = bs (39 :: esc 39 [39, 39] (l.take (k + 1)))) := by
          show _ = _
          rw [HN2.out, ← List.cons_append, HQ.out]
        generalize bs (q ++ [l[k]]) = S2 at *
        generalize bs [l[k]] = C at *
        generalize bs q = Q at *
        clear hne hcc hsub
        go_wp2
        go_roundw
        case rel => exact ⟨k + 1, by go_num, by omega, by rw [HS2.out], trivial⟩
        case measure => (simp [intOf]) <;> omega
      · have hne : l[k] = 39 := by
          have h1 : ((s[k]'hka).toNat : Int) = 39 := by simpa using hz
          rw [hcc] at h1
          exact UInt8.toNat_inj.1 (by show l[k].toNat = 39; omega)
        rw [if_pos hne] at HN2
        have hcat2 : bs (q ++ [l[k]]) ++ (⟨#[39]⟩ : ByteArray) = bs (q ++ [l[k]] ++ [39]) := bs_append _ [39]
        have h39 : (⟨#[39]⟩ : ByteArray).size = 1 := rfl
        have hsum2 : (bs (q ++ [l[k]])).size + (⟨#[39]⟩ : ByteArray).size ≤ 9223372036854775807 := by rw [h39]; simp only [List.length_cons, List.length_nil] at hqs2; omega
        have HS2 : Hid (bs (q ++ [l[k]] ++ [39]) = bs (39 :: esc 39 [39, 39] (l.take (k + 1)))) := by
          show _ = _
          rw [HN2.out, ← List.cons_append, HQ.out, hne, List.append_assoc]; rfl
        generalize bs (q ++ [l[k]] ++ [39]) = S3 at *
        generalize bs (q ++ [l[k]]) = S2 at *
        generalize bs [l[k]] = C at *
        generalize bs q = Q at *
        clear hne hcc hsub h39
        go_wp2
        go_roundw
        case rel => exact ⟨k + 1, by go_num, by omega, by rw [HS2.out], trivial⟩
        case measure => (simp [intOf]) <;> omega
    · have hend := HEND.out (by have := HSZ.out; omega)
      have hcat2 : bs q ++ (⟨#[39]⟩ : ByteArray) = bs (q ++ [39]) := bs_append _ [39]
      have h39 : (⟨#[39]⟩ : ByteArray).size = 1 := rfl
      have hsum2 : (bs q).size + (⟨#[39]⟩ : ByteArray).size ≤ 9223372036854775807 := by rw [h39]; omega
      have HS2 : Hid (bs (q ++ [39]) = bs (39 :: (esc 39 [39, 39] l ++ [39]))) := by
        show _ = _
        rw [← HQ.out, hend]; rfl
      generalize bs (q ++ [39]) = S3 at *
      generalize bs q = Q at *
      clear h39 hend
      go_wp2
      go_ret
      exact ⟨by rw [← HS2.out]; rfl, HB0.out⟩

theorem refprint_val (w : World) (v : AV) (hr : v.right = true) (hf : fit64 v.n) :
    Calls Tryd.prog 40 #[v.agg] w fun e w' => e = .returned (.string (bs (prB v))) ∧ Below w.heap.size w w' := by
  obtain ⟨k, n, s⟩ := v
  unfold AV.right at hr
  simp only [AV.agg, prB] at hr hf ⊢
  have hal : Below w.heap.size w (w.alloc (.cells #[.int .i64 k, .int .i64 n, .string s] 27)) := (Below.refl _ _).alloc (Nat.le_refl _) _
  have HAL := Lib.hid hal
  clear hal
  by_cases h1 : k = 1
  · subst h1
    rw [if_pos rfl]
    have HP := Lib.hid (fun w => refprint_any w n hf)
    clear hr hf
    go_enter Tryd.func40, Tryd.ntmps40
    go_wp2_with (go_at_call 77; refine (HP.out _).mono ?_; clear HP; rintro e w3 ⟨rfl, hb3⟩; have HB3 := Lib.hid (HAL.out.trans (hb3.mono HAL.out.size)); clear hb3)
    go_ret
    exact ⟨rfl, HB3.out⟩
  rw [if_neg h1]
  by_cases h2 : k = 2
  · subst h2
    rw [if_pos rfl]
    simp at hr
    obtain ⟨rfl, h3⟩ := hr
    exact refprint_text w s (by omega)
  rw [if_neg h2]
  simp [h1, h2] at hr
  obtain ⟨⟨rfl, h4⟩, _⟩ := hr
  rcases h4 with rfl | rfl
  · go_enter Tryd.func40, Tryd.ntmps40
    go_wp2
    go_ret
    exact ⟨rfl, HAL.out⟩
  · go_enter Tryd.func40, Tryd.ntmps40
    go_wp2
    go_ret
    exact ⟨rfl, HAL.out⟩

theorem printV_len' (v : AV) (hf : fit64 v.n) : (printV v).length ≤ 1000 := by
  unfold printV
  split
  · rename_i hr
    unfold prB
    split
    · exact (prs_print v.n hf).2.2
    split
    · have h1 := (esc_length 39 39 39 v.s.data.toList).1
      have h2 := size_list v.s _ rfl
      unfold AV.right at hr
      rename_i h3 h4
      simp [h4] at hr
      simp only [List.length_cons, List.length_append, List.length_nil]
      omega
    · split <;> decide
  · simp
def comma : List UInt8 := [44, 32]
/-- A row's line. -/
def lineB (l : List AV) : List UInt8 := Lib.join (l.map printV) comma
def texts (l : List AV) : List ByteArray := l.map fun v => bs (printV v)
def txtCells (l : List AV) : List Value := (texts l).map Value.string
theorem texts_length (l : List AV) : (texts l).length = l.length := by simp [texts]
theorem texts_data (l : List AV) : (texts l).map (·.data.toList) = l.map printV := by
  unfold texts
  rw [List.map_map]
  apply List.map_congr_left
  intro a _
  exact bs_data _
theorem txt_next (l : List AV) (k : Nat) (h : k < l.length) : txtCells (l.take (k + 1)) = txtCells (l.take k) ++ [.string (bs (printV l[k]))] := by
  unfold txtCells texts
  rw [← List.take_append_getElem h]
  simp only [List.map_append, List.map_cons, List.map_nil]
theorem txt_length (l : List AV) (k : Nat) (h : k ≤ l.length) : (txtCells (l.take k)).length = k := by simp [txtCells, texts]; omega
theorem elemStr : Elem Tryd.prog 75 9 1 16 (.string ⟨#[]⟩) :=
  ⟨Tryd.underlying75, by kernel_rfl, rfl, by omega, by intro u hu; simp [Value.cells] at hu; subst hu; rfl⟩
theorem make_strs (w : World) (n : Nat) (hn : n ≤ 1000) : ∃ cs : List Value, cs.length = n ∧ (Instr.makeSlice 75 (.int .i64 (n : Int)) (.int .i64 (n : Int))).run Tryd.prog w = .ok (.slice (some ⟨w.heap.size, 0, none⟩) n n) (w.alloc (.cells cs.toArray 9)) := by
  obtain ⟨i, hi, hz, hsize, hby⟩ := elemStr.parts
  have h := run_makeSlice (P := Tryd.prog) w 75 9 i (.string ⟨#[]⟩) elemStr.sl hi hz .i64 .i64 n n (by omega) (by omega) (by rw [hsize]; omega) (by rw [hby]; omega) (by omega)
  refine ⟨(madeCells (Value.string ⟨#[]⟩).cells ((n : Int).toNat * i.size)).toList, ?_, ?_⟩
  · rw [Array.length_toList, size_madeCells, hsize]; omega
  · rw [h]; simp
theorem lens_le (l : List AV) (hf : ∀ a ∈ l, fit64 a.n) : Lib.lens (l.map printV) ≤ 1000 * l.length := by
  induction l with
  | nil => simp [Lib.lens]
  | cons a l ih =>
    have h1 := printV_len' a (hf a (by simp))
    have h2 := ih (fun b hb => hf b (by simp [hb]))
    simp only [Lib.lens, List.map_cons, List.sum_cons, List.length_cons] at h2 ⊢
    omega
theorem line_len (l : List AV) (hf : ∀ a ∈ l, fit64 a.n) : (lineB l).length ≤ 1002 * l.length := by
  have h := lens_le l hf
  unfold lineB
  cases l with
  | nil => simp [Lib.join_nil]
  | cons a l =>
    rw [List.map_cons, Lib.join_cons, List.length_append, Lib.joinTail_length]
    simp only [Lib.lens, List.map_cons, List.sum_cons, List.length_cons, comma, List.length_map] at h ⊢
    simp only [List.length_nil]
    omega
set_option maxRecDepth 100000 in
set_option maxHeartbeats 1000000 in
theorem line_any (w : World) (hm : Mx w) (B : Nat → Prop) (v : Value) (l : List AV) (hl : Sl w B 3 v l.length (rowCells l)) (hf : ∀ a ∈ l, fit64 a.n) (hll : l.length ≤ 100) :
    Calls Tryd.prog 42 #[v] w fun e w' => e = .returned (.string (bs (lineB l))) ∧ Below w.heap.size w w' := by
  obtain ⟨p, cap, rfl, hc1, hc2⟩ := hl.form
  obtain ⟨cs, hcs, hmk⟩ := make_strs w l.length (by omega)
  have hk0 := Blk.new w 9 cs
  have hb0 : Below w.heap.size w (w.alloc (.cells cs.toArray 9)) := (Below.refl _ _).alloc (Nat.le_refl _) _
  have hlen := line_len l hf
  have hw1 : (w.alloc (.cells cs.toArray 9)).heap.size = w.heap.size + 1 := by simp
  have HL := Lib.hid (Sl.lift hl hb0)
  have HM := Lib.hid hm
  have HF := Lib.hid hf
  generalize w.alloc (.cells cs.toArray 9) = w1 at *
  have HK0 := Lib.hid hk0
  have HB0 := Lib.hid hb0
  have HCS := Lib.hid hcs
  have HW1 := Lib.hid hw1
  clear hl hm hf hk0 hb0 hcs hw1
  go_enter Tryd.func42, Tryd.ntmps42
  go_wp2
  clear hmk
  go_loopw [11] (fun i wr => ∃ (k : Nat) (rest : List Value), i = .int .i64 k ∧ k ≤ l.length ∧ Blk wr w.heap.size 9 (txtCells (l.take k) ++ rest) ∧ rest.length = l.length - k ∧ Only (fun q => q = w.heap.size) w1 wr) (fun i _ => l.length - (intOf i).toNat)
  case atStart => exact ⟨0, cs, rfl, Nat.zero_le _, HK0.out, HCS.out, Only.refl _ _⟩
  case round =>
    obtain ⟨k, rest, rfl, hk, hkr, hrest, hor⟩ := hrel
    have hbw : Below w.heap.size w wr := HB0.out.trans (hor.below (by have := HW1.out; omega) (fun q hq => by omega))
    have HBW := Lib.hid hbw
    have HKR := Lib.hid hkr
    have HOR := Lib.hid hor
    have hlr := HL.out.only hor (fun q h1 h2 => by omega)
    have htl := txt_length l k hk
    clear hor hkr
    by_cases hka : k < l.length
    · obtain ⟨g, off, cap', hv, hg, e0, e1, e2⟩ := sl_av hlr hka
      cases hv
      have hfk := HF.out _ (List.getElem_mem hka)
      have HN := Lib.hid (txt_next l k hka)
      generalize l[k] = x at *
      obtain ⟨r0, rest', rfl⟩ : ∃ r0 rest', rest = r0 :: rest' := by
        cases rest with
        | nil => simp at hrest; omega
        | cons a b => exact ⟨a, b, rfl⟩
      have hal : Below wr.heap.size wr (wr.alloc (.cells #[.int .i64 x.kind, .int .i64 x.n, .string x.s] 27)) := (Below.refl _ _).alloc (Nat.le_refl _) _
      have HP := Lib.hid (print_val _ ((HM.out.below hbw).below hal) x hfk)
      have hag : x.agg = .agg #[.int .i64 x.kind, .int .i64 x.n, .string x.s] := rfl
      rw [hag] at HP
      have HAL := Lib.hid hal
      have hbk : w.heap.size < wr.heap.size := HKR.out.lt
      generalize hP : bs (printV x) = P at *
      clear hag hfk hal hlr hbw hP
      go_wp2_with fail
      refine HP.out.mono ?_
      clear HP
      rintro e w3 ⟨rfl, hb3⟩
      have hk3 := (HKR.out.below HAL.out).below hb3
      have z0 : w3.cell? ⟨w.heap.size, k, none⟩ = some r0 := by
        rw [hk3.cell k, List.getElem?_append_right (by omega), htl, Nat.sub_self]; rfl
      have zf := hk3.frozen k
      have HS3 : Hid (((txtCells (l.take k)) ++ r0 :: rest').set k (.string P) = txtCells (l.take (k + 1)) ++ rest') := by
        show _ = _
        rw [HN.out, List.set_append_right _ _ (by omega), htl, Nat.sub_self, List.append_assoc]; rfl
      have HK3 := Lib.hid (hk3.set k (.string P))
      have HO3 := Lib.hid ((((HOR.out.trans (Only.of_none (S := fun q => q = w.heap.size) HAL.out) (fun _ _ h => h)).trans (Only.of_none (S := fun q => q = w.heap.size) hb3) (fun _ _ h => h))).setCell (p := ⟨w.heap.size, k, none⟩) (fun _ => rfl) (.string P))
      clear hb3 hk3
      go_wp2_with fail
      refine ⟨⟨k + 1, rest', by go_num, by omega, HS3.out ▸ HK3.out, by rw [List.length_cons] at hrest; omega, HO3.out⟩, by (simp [intOf]) <;> omega⟩
    · obtain rfl : k = l.length := by omega
      obtain rfl : rest = [] := List.eq_nil_of_length_eq_zero (by omega)
      have hkx := HKR.out
      rw [List.take_length, List.append_nil] at hkx
      have HJ : Hid (Calls Tryd.prog 79 #[.slice (some ⟨w.heap.size, 0, none⟩) l.length l.length, .string ⟨#[44, 32]⟩] wr fun e w' => e = .returned (.string (bs (lineB l))) ∧ Below wr.heap.size wr w') := by
        by_cases h0 : l.length = 0
        · obtain rfl : l = [] := List.eq_nil_of_length_eq_zero h0
          refine (Tryd.strings_Join_none (some ⟨w.heap.size, 0, none⟩) 0 ⟨#[44, 32]⟩ wr).mono ?_
          rintro e w' ⟨h1, rfl⟩
          exact ⟨h1, Below.refl _ _⟩
        · have hj := Tryd.strings_Join w.heap.size 0 l.length (texts l) ⟨#[44, 32]⟩ wr (fun j x hx => by
            rw [Nat.zero_add, hkx.cell j]
            unfold txtCells
            rw [List.getElem?_map, hx]; rfl) (HKR.out.lt) (by rw [texts_length]; omega) (by rw [texts_length]; exact Nat.le_refl _) (by
              rw [texts_data]
              have : (Lib.join (l.map printV) [44, 32]).length ≤ 1002 * l.length := hlen
              show (Lib.join (l.map printV) [44, 32]).length ≤ _
              omega)
          rw [texts_length, texts_data] at hj
          exact hj
      clear hlr hkx hbw
      go_wp2_with fail
      refine HJ.out.mono ?_
      rintro e w3 ⟨rfl, hb3⟩
      have HB3 := Lib.hid (HBW.out.trans (hb3.mono HBW.out.size))
      clear hb3 HJ
      go_wp2
      go_ret
      exact ⟨rfl, HB3.out⟩
end Go.Proofs.YtlgohkdckdnmhaaDoor
