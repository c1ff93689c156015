/- Words: schema.Named; plain. -/
import Derived.Test.YtjbocnofkaffjaaLxB
import Derived.Test.YtjbocnofkaffjaaLxH
import Derived.Test.YtjbocnofkaffjaaLxN
namespace Go.Proofs.Ytjbocnofkaffjaa
open Go.RowKit Go.Afx

def lxNum (t : List UInt8) : Int × Bool := (prsN t, prsE t == 0)
def lxNam (t : List UInt8) : Bool := namedL t
def wvAgg (w : WV) : Value := .agg #[.int .i64 w.kind, .string ⟨w.text.toArray⟩, .int .i64 w.n, .int .i64 w.at_]
theorem ba_of (s : ByteArray) (l : List UInt8) (h : s.data.toList = l) : (⟨l.toArray⟩ : ByteArray) = s := by subst h; rfl

set_option maxRecDepth 100000 in
theorem named_one (w : World) (s : ByteArray) (hs : s.size ≤ maxLen) : Calls Try.prog 30 #[.slice (some ⟨w.heap.size, 0, none⟩) 1 1] (w.alloc (.cells #[.string s] 9)) fun e w' => e = .returned (.bool (namedB s)) ∧ Below w.heap.size w w' := by
  have hal : Below w.heap.size w (w.alloc (.cells #[.string s] 9)) := (Below.refl _ _).alloc (Nat.le_refl _) _
  have HN := Lib.hid (named_any (w.alloc (.cells #[.string s] 9)) s hs)
  have HAL := Lib.hid hal
  clear hal
  have HK := Lib.hid (Blk.new w 9 [.string s])
  generalize namedB s = b at *
  go_enter Try.func30, Try.ntmps30
  go_wp2
  generalize hw1 : w.alloc (.cells #[.string s] 9) = w1 at *
  clear hw1
  go_loopw [7] (fun i wr => (i = .int .i64 0 ∧ wr = w1) ∨ (i = .int .i64 1 ∧ b = true ∧ Below w.heap.size w wr)) (fun i _ => 1 - (intOf i).toNat)
  case atStart => exact .inl ⟨rfl, rfl⟩
  case round =>
    rcases hrel with ⟨rfl, rfl⟩ | ⟨rfl, rfl, hb⟩
    · have z0 : wr.cell? ⟨w.heap.size, 0, none⟩ = some (.string s) := HK.out.cell 0
      cases b
      · go_wp2_with (go_at_call 35; refine HN.out.mono ?_; clear HN; rintro e w2 ⟨rfl, hb2⟩)
        go_ret
        exact ⟨rfl, HAL.out.trans (hb2.mono HAL.out.size)⟩
      · go_wp2_with (go_at_call 35; refine HN.out.mono ?_; clear HN; rintro e w2 ⟨rfl, hb2⟩; have HB2 := Lib.hid (HAL.out.trans (hb2.mono HAL.out.size)); clear hb2)
        exact ⟨Or.inr ⟨rfl, by first | rfl | trivial, HB2.out⟩, by simp [intOf]⟩
    · have HB := Lib.hid hb
      clear hb HN
      go_wp2
      go_ret
      exact ⟨rfl, HB.out⟩

theorem tw_next (l : List UInt8) (k : Nat) (hk : k < l.length) (h : lxPart l[k] = true) (ht : (l.takeWhile lxPart).length = k + ((l.drop k).takeWhile lxPart).length) : (l.takeWhile lxPart).length = (k + 1) + ((l.drop (k + 1)).takeWhile lxPart).length := by
  rw [ht, List.drop_eq_getElem_cons hk, List.takeWhile_cons, if_pos h, List.length_cons]; omega
theorem tw_end (l : List UInt8) (k : Nat) (h : l.length ≤ k ∨ ∃ hk : k < l.length, lxPart l[k] = false) (ht : (l.takeWhile lxPart).length = k + ((l.drop k).takeWhile lxPart).length) : l.take k = l.takeWhile lxPart ∧ (l.takeWhile lxPart).length = k := by
  have h0 : ((l.drop k).takeWhile lxPart).length = 0 := by
    rcases h with h | ⟨hk, h⟩
    · rw [List.drop_eq_nil_of_le h]; rfl
    · rw [List.drop_eq_getElem_cons hk, List.takeWhile_cons, if_neg (by rw [h]; decide)]; rfl
  have h1 : (l.takeWhile lxPart).length = k := by omega
  refine ⟨?_, h1⟩
  have h2 : l.take (l.takeWhile lxPart).length = l.takeWhile lxPart := take_pre (List.isPrefixOf_iff_prefix.2 (List.takeWhile_prefix _))
  rw [h1] at h2
  exact h2
theorem ext_take (s : ByteArray) (l : List UInt8) (h : s.data.toList = l) (k : Nat) : (s.extract 0 k).data.toList = l.take k := by
  have h1 := Lib.extract_toList s 0 k
  rw [Lib.toList_data, h, List.drop_zero, Nat.sub_zero] at h1
  exact h1

/-- What a taking of a word answers. -/
def TookF (r : WV × Nat × Bool) : Value := .tuple #[wvAgg r.1, .int .i64 (r.2.1 : Nat), .bool r.2.2]
set_option maxRecDepth 100000 in
set_option maxHeartbeats 2000000 in
theorem plain_any (w : World) (s : ByteArray) (c : UInt8) (t : List UInt8) (hs : s.data.toList = c :: t) (hc : lxPart c = true) (hl : (c :: t).length ≤ 10000) :
    Calls Try.prog 22 #[.string s] w fun e w' => e = .returned (TookF (plainF lxNum lxNam (c :: t))) ∧ Below w.heap.size w w' := by
  have hsz := size_list s _ hs
  have HS := Lib.hid hs
  have HG := Lib.hid (get_list s _ hs)
  have h1 : 1 ≤ ((c :: t).takeWhile lxPart).length := by rw [List.takeWhile_cons, if_pos hc]; simp
  have H1 := Lib.hid h1
  have hal : Below w.heap.size w (w.alloc (.cells #[.int .i64 0, .string ⟨#[]⟩, .int .i64 0, .int .i64 0] 28)) := (Below.refl _ _).alloc (Nat.le_refl _) _
  have HK := Lib.hid (Blk.new w 28 [.int .i64 0, .string ⟨#[]⟩, .int .i64 0, .int .i64 0])
  have HAL := Lib.hid hal
  clear hs hal h1 hc
  obtain ⟨out, hout⟩ : ∃ out, plainF lxNum lxNam (c :: t) = out := ⟨_, rfl⟩
  rw [hout]
  have HOUT := Lib.hid hout
  clear hout
  generalize c :: t = l at *
  have HSZ := Lib.hid hsz
  have hsl : s.size ≤ 10000 := by omega
  clear hsz
  go_enter Try.func22, Try.ntmps22
  go_wp2
  generalize hw1 : w.alloc (.cells #[.int .i64 0, .string ⟨#[]⟩, .int .i64 0, .int .i64 0] 28) = w1 at *
  clear hw1
  go_loopw [5] (fun i wr => ∃ k : Nat, i = .int .i64 k ∧ k ≤ s.size ∧ (l.takeWhile lxPart).length = k + ((l.drop k).takeWhile lxPart).length ∧ wr = w1) (fun i _ => s.size - (intOf i).toNat)
  case atStart => exact ⟨0, rfl, Nat.zero_le _, by simp, rfl⟩
  case round =>
    obtain ⟨k, rfl, hk, ht, rfl⟩ := hrel
    have hcase : (∃ hkl : k < l.length, lxPart l[k] = true) ∨ (l.length ≤ k ∨ ∃ hk : k < l.length, lxPart l[k] = false) := by
      rcases Nat.lt_or_ge k l.length with h | h
      · cases hp : lxPart l[k]
        · exact .inr (.inr ⟨h, hp⟩)
        · exact .inl ⟨h, hp⟩
      · exact .inr (.inl h)
    rcases hcase with ⟨hkl, hp⟩ | hend
    · have hka : k < s.size := by rw [HSZ.out]; exact hkl
      have HF := Lib.hid (tw_next l k hkl hp ht)
      have hpa := lxpart_any wr l[k]
      rw [hp, ← HG.out k hka hkl] at hpa
      have HPA := Lib.hid hpa
      clear hpa hp ht
      go_wp2_with (go_at_call 21; refine HPA.out.mono ?_; clear HPA; rintro e w2 ⟨rfl, rfl⟩)
      exact ⟨⟨k + 1, by go_num, by omega, HF.out, by first | rfl | trivial⟩, by (simp [intOf]) <;> omega⟩
    · obtain ⟨htk, htl⟩ := tw_end l k hend ht
      have hk1 : 1 ≤ k := by rw [← htl]; exact H1.out
      obtain ⟨c0, u, hcu⟩ : ∃ c0 u, l.takeWhile lxPart = c0 :: u := by
        cases hx : l.takeWhile lxPart with
        | nil => rw [hx] at htl; simp only [List.length_nil] at htl; omega
        | cons c0 u => exact ⟨c0, u, rfl⟩
      have hTl : (s.extract 0 k).data.toList = c0 :: u := by rw [ext_take s l HS.out k, htk, hcu]
      obtain ⟨T, hT⟩ : ∃ T, s.extract 0 k = T := ⟨_, rfl⟩
      rw [hT] at hTl
      have hTs : T.size = k := by rw [size_list T _ hTl, ← hcu, htl]
      have HTS := Lib.hid hTs
      have hT0 : 0 < T.size := by omega
      have hg0 : ∀ h : 0 < T.size, ((T[0]'h).toNat : Int) = (c0.toNat : Int) := fun h => by rw [get_list T _ hTl 0 h (by simp)]; rfl
      have hba := ba_of T _ hTl
      have hlen : (c0 :: u).length ≤ 10000 := by rw [← hcu, htl]; omega
      have hlen2 : (c0 :: u).length = k := by rw [← hcu, htl]
      have hout2 := HOUT.out
      unfold plainF at hout2
      rw [hcu] at hout2
      have hpw : plainF lxNum lxNam l = plainF lxNum lxNam l := rfl
      have HTL := Lib.hid hTl
      have HBA := Lib.hid hba
      have HLEN2 := Lib.hid hlen2
      have hnm : T.size ≤ maxLen := by unfold maxLen; omega
      have hks : k ≤ s.size := hk
      clear hTl hba htk hpw hTs hcu hlen2 htl ht
      have hPE : Hid (∀ w2, Calls Try.prog 29 #[.string T] w2 fun e w' => e = .returned (.tuple #[.int .i64 (prsN (c0 :: u)), .int .i64 (prsE (c0 :: u))]) ∧ Below w2.heap.size w2 w') := fun w2 => parse_any w2 T _ HTL.out hlen
      have HNM := Lib.hid (named_one wr T hnm)
      have hnb : namedB T = lxNam (c0 :: u) := by unfold namedB lxNam; rw [HTL.out]
      rw [hnb] at HNM
      by_cases hd : 48 ≤ c0.toNat ∧ c0.toNat ≤ 57
      · have e1 : decide ((48 : Int) ≤ (c0.toNat : Int)) = true := decide_eq_true (by omega)
        have e2 : decide ((c0.toNat : Int) ≤ 57) = true := decide_eq_true (by omega)
        rw [if_pos (by simp only [List.head?_cons, Option.any_some, Bool.and_eq_true, decide_eq_true_eq]; exact hd)] at hout2
        have HO2 : Hid (TookF out = .tuple #[.agg #[.int .i64 1, .string T, .int .i64 (prsN (c0 :: u)), .int .i64 0], .int .i64 k, .bool (prsE (c0 :: u) == 0)]) := by
          rw [← hout2]
          unfold TookF wvAgg lxNum
          simp only
          rw [HBA.out, HLEN2.out]
          exact Lib.hid rfl
        clear hout2 hd hnb HNM
        generalize prsN (c0 :: u) = pn at *
        generalize prsE (c0 :: u) = pe at *
        generalize (c0.toNat : Int) = cc at *
        rcases hend with hge | ⟨hkl, hp⟩
        · have hka : k = s.size := by rw [← HSZ.out] at hge; omega
          have dk : decide (k < s.size) = false := decide_eq_false (by omega)
          clear hge hka
          go_wp2_with (go_at_call 29; refine (hPE.out _).mono ?_; rintro e w2 ⟨rfl, hb2⟩; have hk2 := HK.out.below hb2; have z0 : w2.cell? ⟨w.heap.size, 0, none⟩ = some (.int .i64 0) := hk2.cell 0; have z1 : w2.cell? ⟨w.heap.size, 1, none⟩ = some (.string ⟨#[]⟩) := hk2.cell 1; have z2 : w2.cell? ⟨w.heap.size, 2, none⟩ = some (.int .i64 0) := hk2.cell 2; have z3 : w2.cell? ⟨w.heap.size, 3, none⟩ = some (.int .i64 0) := hk2.cell 3; have kf : ∀ i, w2.frozen? ⟨w.heap.size, i, none⟩ = false := hk2.frozen; have HB2 := Lib.hid (HAL.out.trans (hb2.mono HAL.out.size)); clear hk2 hb2)
          refine bodyPost_ret (v := .tuple #[.agg #[.int .i64 1, .string T, .int .i64 pn, .int .i64 0], .int .i64 k, .bool (pe == 0)]) (by simp [results, Try.results22, go_sem, z0, z1, z2, z3]) rfl ⟨by rw [HO2.out], ?_⟩
          exact (((HB2.out.setCell (p := ⟨w.heap.size, 0, none⟩) (by simp) _).setCell (p := ⟨w.heap.size, 1, none⟩) (by simp) _).setCell (p := ⟨w.heap.size, 2, none⟩) (by simp) _).setCell (p := ⟨w.heap.size, 3, none⟩) (by simp) _
        · have hka : k < s.size := by rw [HSZ.out]; exact hkl
          have hpa := lxpart_any wr l[k]
          rw [hp, ← HG.out k hka hkl] at hpa
          have HPA := Lib.hid hpa
          clear hpa hp
          go_wp2_with (first
            | (go_at_call 21; refine HPA.out.mono ?_; clear HPA; rintro e w9 ⟨rfl, rfl⟩)
            | (go_at_call 29; refine (hPE.out _).mono ?_; rintro e w2 ⟨rfl, hb2⟩; have hk2 := HK.out.below hb2; have z0 : w2.cell? ⟨w.heap.size, 0, none⟩ = some (.int .i64 0) := hk2.cell 0; have z1 : w2.cell? ⟨w.heap.size, 1, none⟩ = some (.string ⟨#[]⟩) := hk2.cell 1; have z2 : w2.cell? ⟨w.heap.size, 2, none⟩ = some (.int .i64 0) := hk2.cell 2; have z3 : w2.cell? ⟨w.heap.size, 3, none⟩ = some (.int .i64 0) := hk2.cell 3; have kf : ∀ i, w2.frozen? ⟨w.heap.size, i, none⟩ = false := hk2.frozen; have HB2 := Lib.hid (HAL.out.trans (hb2.mono HAL.out.size)); clear hk2 hb2))
          refine bodyPost_ret (v := .tuple #[.agg #[.int .i64 1, .string T, .int .i64 pn, .int .i64 0], .int .i64 k, .bool (pe == 0)]) (by simp [results, Try.results22, go_sem, z0, z1, z2, z3]) rfl ⟨by rw [HO2.out], ?_⟩
          exact (((HB2.out.setCell (p := ⟨w.heap.size, 0, none⟩) (by simp) _).setCell (p := ⟨w.heap.size, 1, none⟩) (by simp) _).setCell (p := ⟨w.heap.size, 2, none⟩) (by simp) _).setCell (p := ⟨w.heap.size, 3, none⟩) (by simp) _
      · have hd2 : (decide ((48 : Int) ≤ (c0.toNat : Int)) = true ∧ decide ((c0.toNat : Int) ≤ 57) = false) ∨ decide ((48 : Int) ≤ (c0.toNat : Int)) = false := by
          by_cases h : 48 ≤ c0.toNat
          · exact .inl ⟨decide_eq_true (by omega), decide_eq_false (by omega)⟩
          · exact .inr (decide_eq_false (by omega))
        rw [if_neg (by simp only [List.head?_cons, Option.any_some, Bool.and_eq_true, decide_eq_true_eq]; exact hd)] at hout2
        have HO2 : Hid (TookF out = .tuple #[.agg #[.int .i64 3, .string T, .int .i64 0, .int .i64 0], .int .i64 k, .bool (lxNam (c0 :: u))]) := by
          rw [← hout2]
          unfold TookF wvAgg
          simp only
          rw [HBA.out, HLEN2.out]
          exact Lib.hid rfl
        clear hout2 hd hnb hPE
        generalize lxNam (c0 :: u) = nb at *
        generalize (c0.toNat : Int) = cc at *
        rcases hd2 with ⟨e1, e2⟩ | e1
        · rcases hend with hge | ⟨hkl, hp⟩
          · have hka : k = s.size := by rw [← HSZ.out] at hge; omega
            have dk : decide (k < s.size) = false := decide_eq_false (by omega)
            clear hge hka
            go_wp2_with (go_at_call 30; refine HNM.out.mono ?_; rintro e w2 ⟨rfl, hb2⟩; have hk2 := HK.out.below hb2; have z0 : w2.cell? ⟨w.heap.size, 0, none⟩ = some (.int .i64 0) := hk2.cell 0; have z1 : w2.cell? ⟨w.heap.size, 1, none⟩ = some (.string ⟨#[]⟩) := hk2.cell 1; have z2 : w2.cell? ⟨w.heap.size, 2, none⟩ = some (.int .i64 0) := hk2.cell 2; have z3 : w2.cell? ⟨w.heap.size, 3, none⟩ = some (.int .i64 0) := hk2.cell 3; have kf : ∀ i, w2.frozen? ⟨w.heap.size, i, none⟩ = false := hk2.frozen; have HB2 := Lib.hid (HAL.out.trans (hb2.mono HAL.out.size)); clear hk2 hb2)
            refine bodyPost_ret (v := .tuple #[.agg #[.int .i64 3, .string T, .int .i64 0, .int .i64 0], .int .i64 k, .bool nb]) (by simp [results, Try.results22, go_sem, z0, z1, z2, z3]) rfl ⟨by rw [HO2.out], ?_⟩
            exact (((HB2.out.setCell (p := ⟨w.heap.size, 0, none⟩) (by simp) _).setCell (p := ⟨w.heap.size, 1, none⟩) (by simp) _).setCell (p := ⟨w.heap.size, 2, none⟩) (by simp) _).setCell (p := ⟨w.heap.size, 3, none⟩) (by simp) _
          · have hka : k < s.size := by rw [HSZ.out]; exact hkl
            have hpa := lxpart_any wr l[k]
            rw [hp, ← HG.out k hka hkl] at hpa
            have HPA := Lib.hid hpa
            clear hpa hp
            go_wp2_with (first
              | (go_at_call 21; refine HPA.out.mono ?_; clear HPA; rintro e w9 ⟨rfl, rfl⟩)
              | (go_at_call 30; refine HNM.out.mono ?_; rintro e w2 ⟨rfl, hb2⟩; have hk2 := HK.out.below hb2; have z0 : w2.cell? ⟨w.heap.size, 0, none⟩ = some (.int .i64 0) := hk2.cell 0; have z1 : w2.cell? ⟨w.heap.size, 1, none⟩ = some (.string ⟨#[]⟩) := hk2.cell 1; have z2 : w2.cell? ⟨w.heap.size, 2, none⟩ = some (.int .i64 0) := hk2.cell 2; have z3 : w2.cell? ⟨w.heap.size, 3, none⟩ = some (.int .i64 0) := hk2.cell 3; have kf : ∀ i, w2.frozen? ⟨w.heap.size, i, none⟩ = false := hk2.frozen; have HB2 := Lib.hid (HAL.out.trans (hb2.mono HAL.out.size)); clear hk2 hb2))
            refine bodyPost_ret (v := .tuple #[.agg #[.int .i64 3, .string T, .int .i64 0, .int .i64 0], .int .i64 k, .bool nb]) (by simp [results, Try.results22, go_sem, z0, z1, z2, z3]) rfl ⟨by rw [HO2.out], ?_⟩
            exact (((HB2.out.setCell (p := ⟨w.heap.size, 0, none⟩) (by simp) _).setCell (p := ⟨w.heap.size, 1, none⟩) (by simp) _).setCell (p := ⟨w.heap.size, 2, none⟩) (by simp) _).setCell (p := ⟨w.heap.size, 3, none⟩) (by simp) _
        · rcases hend with hge | ⟨hkl, hp⟩
          · have hka : k = s.size := by rw [← HSZ.out] at hge; omega
            have dk : decide (k < s.size) = false := decide_eq_false (by omega)
            clear hge hka
            go_wp2_with (go_at_call 30; refine HNM.out.mono ?_; rintro e w2 ⟨rfl, hb2⟩; have hk2 := HK.out.below hb2; have z0 : w2.cell? ⟨w.heap.size, 0, none⟩ = some (.int .i64 0) := hk2.cell 0; have z1 : w2.cell? ⟨w.heap.size, 1, none⟩ = some (.string ⟨#[]⟩) := hk2.cell 1; have z2 : w2.cell? ⟨w.heap.size, 2, none⟩ = some (.int .i64 0) := hk2.cell 2; have z3 : w2.cell? ⟨w.heap.size, 3, none⟩ = some (.int .i64 0) := hk2.cell 3; have kf : ∀ i, w2.frozen? ⟨w.heap.size, i, none⟩ = false := hk2.frozen; have HB2 := Lib.hid (HAL.out.trans (hb2.mono HAL.out.size)); clear hk2 hb2)
            refine bodyPost_ret (v := .tuple #[.agg #[.int .i64 3, .string T, .int .i64 0, .int .i64 0], .int .i64 k, .bool nb]) (by simp [results, Try.results22, go_sem, z0, z1, z2, z3]) rfl ⟨by rw [HO2.out], ?_⟩
            exact (((HB2.out.setCell (p := ⟨w.heap.size, 0, none⟩) (by simp) _).setCell (p := ⟨w.heap.size, 1, none⟩) (by simp) _).setCell (p := ⟨w.heap.size, 2, none⟩) (by simp) _).setCell (p := ⟨w.heap.size, 3, none⟩) (by simp) _
          · have hka : k < s.size := by rw [HSZ.out]; exact hkl
            have hpa := lxpart_any wr l[k]
            rw [hp, ← HG.out k hka hkl] at hpa
            have HPA := Lib.hid hpa
            clear hpa hp
            go_wp2_with (first
              | (go_at_call 21; refine HPA.out.mono ?_; clear HPA; rintro e w9 ⟨rfl, rfl⟩)
              | (go_at_call 30; refine HNM.out.mono ?_; rintro e w2 ⟨rfl, hb2⟩; have hk2 := HK.out.below hb2; have z0 : w2.cell? ⟨w.heap.size, 0, none⟩ = some (.int .i64 0) := hk2.cell 0; have z1 : w2.cell? ⟨w.heap.size, 1, none⟩ = some (.string ⟨#[]⟩) := hk2.cell 1; have z2 : w2.cell? ⟨w.heap.size, 2, none⟩ = some (.int .i64 0) := hk2.cell 2; have z3 : w2.cell? ⟨w.heap.size, 3, none⟩ = some (.int .i64 0) := hk2.cell 3; have kf : ∀ i, w2.frozen? ⟨w.heap.size, i, none⟩ = false := hk2.frozen; have HB2 := Lib.hid (HAL.out.trans (hb2.mono HAL.out.size)); clear hk2 hb2))
            refine bodyPost_ret (v := .tuple #[.agg #[.int .i64 3, .string T, .int .i64 0, .int .i64 0], .int .i64 k, .bool nb]) (by simp [results, Try.results22, go_sem, z0, z1, z2, z3]) rfl ⟨by rw [HO2.out], ?_⟩
            exact (((HB2.out.setCell (p := ⟨w.heap.size, 0, none⟩) (by simp) _).setCell (p := ⟨w.heap.size, 1, none⟩) (by simp) _).setCell (p := ⟨w.heap.size, 2, none⟩) (by simp) _).setCell (p := ⟨w.heap.size, 3, none⟩) (by simp) _
end Go.Proofs.Ytjbocnofkaffjaa
