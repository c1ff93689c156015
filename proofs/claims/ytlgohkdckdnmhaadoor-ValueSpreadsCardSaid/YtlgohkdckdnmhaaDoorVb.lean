/- What is printed is parsed as it was; the law ValueBack. -/
import Derived.Test.YtlgohkdckdnmhaaDoorPrs
import Derived.Test.YtlgohkdckdnmhaaDoorEqV
import Derived.Test.YtlgohkdckdnmhaaDoorOpenV
namespace Go.Proofs.YtlgohkdckdnmhaaDoor
open Go.RowKit Go.Afx

theorem empty_of (s : ByteArray) (h : s.toList.isEmpty = true) : s = ⟨#[]⟩ := by
  rw [ByteArray.toList_eq] at h
  exact nil_list s (by simpa using h)
theorem midL_mid (x : List UInt8) : midL (39 :: (x ++ [39])) = x := by
  unfold midL
  simp
theorem printL_head (n : Int) : ∃ c t, printL n = c :: t ∧ c ≠ 39 ∧ c ≠ 116 ∧ c ≠ 102 := by
  have hd : ∀ u : Nat, 0 < u → ∃ c t, dig10 u = c :: t ∧ c ≠ 39 ∧ c ≠ 116 ∧ c ≠ 102 := fun u hu => by
    obtain ⟨c, t, h1, _⟩ := dig10_head u hu
    have h2 := dig10_digs u c (by rw [h1]; simp)
    unfold dig at h2
    refine ⟨c, t, h1, ?_, ?_, ?_⟩ <;> (intro e; subst e; revert h2; decide)
  unfold printL
  split
  · exact ⟨48, [], rfl, by decide, by decide, by decide⟩
  split
  · exact ⟨45, _, rfl, by decide, by decide, by decide⟩
  · exact hd n.natAbs (by omega)

theorem prs_back (v : AV) (hr : v.right = true) (hf : fit64 v.n) : prsV (printV v) = (v, 0) := by
  have hpv : printV v = prB v := by unfold printV; rw [hr]; rfl
  have hck : chkV v (prB v) = (v, 0) := by unfold chkV; rw [hr]; simp
  rw [hpv]
  obtain ⟨k, n, s⟩ := v
  have hr0 := hr
  unfold AV.right at hr
  simp only at hr hf
  by_cases h1 : k = 1
  · subst h1
    simp at hr
    obtain rfl := empty_of s (by simpa using hr)
    have hp : prB ⟨1, n, ⟨#[]⟩⟩ = printL n := rfl
    rw [hp] at hck ⊢
    obtain ⟨p1, p2, _⟩ := prs_print n hf
    obtain ⟨c, t, h2, h3, h4, h5⟩ := printL_head n
    unfold prsV
    have n1 : ¬ (printL n == trueL) = true := by rw [h2]; unfold trueL; simp [h4]
    have n2 : ¬ (printL n == falseL) = true := by rw [h2]; unfold falseL; simp [h5]
    have n3 : ¬ isText (printL n) = true := by rw [h2]; unfold isText; simp [h3]
    rw [if_neg n1, if_neg n2, if_neg n3, if_pos p2, p1]
    exact hck
  by_cases h2 : k = 2
  · subst h2
    simp at hr
    obtain ⟨rfl, h3⟩ := hr
    have hp : prB ⟨2, 0, s⟩ = 39 :: (esc 39 [39, 39] s.data.toList ++ [39]) := rfl
    rw [hp] at hck ⊢
    unfold prsV
    have n1 : ¬ ((39 :: (esc 39 [39, 39] s.data.toList ++ [39])) == trueL) = true := by unfold trueL; simp
    have n2 : ¬ ((39 :: (esc 39 [39, 39] s.data.toList ++ [39])) == falseL) = true := by unfold falseL; simp
    have n3 : isText (39 :: (esc 39 [39, 39] s.data.toList ++ [39])) = true := by unfold isText; simp
    rw [if_neg n1, if_neg n2, if_pos n3, midL_mid, unpair_esc, bs_of]
    exact hck
  · simp [h1, h2] at hr
    obtain ⟨⟨rfl, h4⟩, h5⟩ := hr
    obtain rfl := empty_of s (by simpa using h5)
    rcases h4 with rfl | rfl <;> rfl

theorem printV_len (v : AV) (hf : fit64 v.n) : (printV v).length ≤ 1000 := by
  unfold printV
  split
  · rename_i hr
    unfold prB
    split
    · exact (prs_print v.n hf).2.2
    split
    · have h1 := (esc_length 39 39 39 v.s.data.toList).1
      have h2 := size_list v.s _ rfl
      unfold AV.right at hr
      rename_i h3 h4
      simp [h4] at hr
      simp only [List.length_cons, List.length_append, List.length_nil]
      omega
    · split <;> decide
  · simp

set_option maxRecDepth 100000 in
set_option maxHeartbeats 2000000 in
theorem vback_walk (v : AV) (w : World) (hm : Mx w) (hrd : v.read) :
    Calls Tryd.prog 7 #[v.agg] w fun e w' => e = .returned (.bool true) ∧ Below w.heap.size w w' := by
  have hf : fit64 v.n := hrd.2.1
  have HM := Lib.hid hm
  have hz0 : Below w.heap.size w (w.alloc (.cells #[.int .i64 v.kind, .int .i64 v.n, .string v.s] 27)) := (Below.refl _ _).alloc (Nat.le_refl _) _
  have hk0 : Blk (w.alloc (.cells #[.int .i64 v.kind, .int .i64 v.n, .string v.s] 27)) w.heap.size 27 [.int .i64 v.kind, .int .i64 v.n, .string v.s] := Blk.new w _ _
  have HB0 := Lib.hid hz0
  have HK0 := Lib.hid hk0
  have HR := Lib.hid (fun w => refright w v)
  have HAW := Lib.hid (fun w' (h : Below w.heap.size w w') => vawake w' (hm.below h))
  have HP := Lib.hid (fun w' (h : Below w.heap.size w w') => print_val w' (hm.below h) v hf)
  have hps := fun w' (h : Below w.heap.size w w') => parse_val w' (hm.below h) (bs (printV v)) (printV v) (bs_data _) (printV_len v hf)
  have hback := prs_back v
  obtain ⟨k, n, s⟩ := v
  simp only [AV.agg] at HR HP ⊢
  clear hm hrd hz0 hk0
  by_cases h300 : 300 < s.size
  · have hd : decide ((300 : Int) < (s.size : Int)) = true := decide_eq_true (by omega)
    have q := blk3 HK0.out
    obtain ⟨a0, a1, a2, _⟩ := q
    clear hback hps
    go_enter Tryd.func7, Tryd.ntmps7
    go_wp2_with fail
    refine (HAW.out _ HB0.out).mono ?_
    rintro e w3 ⟨rfl, hb3⟩
    have HB3 := Lib.hid (HB0.out.trans (hb3.mono HB0.out.size))
    clear hb3
    go_wp2
    go_ret
    exact ⟨rfl, HB3.out⟩
  · have hd : decide ((300 : Int) < (s.size : Int)) = false := decide_eq_false (by omega)
    cases hr : AV.right ⟨k, n, s⟩
    · rw [hr] at HR
      clear hback hps hr
      go_enter Tryd.func7, Tryd.ntmps7
      go_wp2_with fail
      refine (HR.out _).mono ?_
      rintro e w2 ⟨rfl, hb2⟩
      have HB2 := Lib.hid (HB0.out.trans (hb2.mono HB0.out.size))
      clear hb2
      go_wp2_with fail
      refine (HAW.out _ HB2.out).mono ?_
      rintro e w3 ⟨rfl, hb3⟩
      have HB3 := Lib.hid (HB2.out.trans (hb3.mono HB2.out.size))
      clear hb3
      go_wp2
      go_ret
      exact ⟨rfl, HB3.out⟩
    · rw [hr] at HR
      have hb := hback hr hf
      rw [hb] at hps
      simp only [AV.agg] at hps
      have HPS := Lib.hid hps
      have q3 : (k == k) = true := by simp
      have q4 : (n == n) = true := by simp
      have q5 : (s.toList == s.toList) = true := by simp
      generalize bs (printV ⟨k, n, s⟩) = P at *
      clear hback hps hr hb
      go_enter Tryd.func7, Tryd.ntmps7
      go_wp2_with fail
      refine (HR.out _).mono ?_
      rintro e w2 ⟨rfl, hb2⟩
      have HB2 := Lib.hid (HB0.out.trans (hb2.mono HB0.out.size))
      have HK2 := Lib.hid (HK0.out.below hb2)
      obtain ⟨a0, a1, a2, _⟩ := blk3 HK2.out
      clear hb2
      go_wp2_with fail
      refine (HP.out _ HB2.out).mono ?_
      rintro e w3 ⟨rfl, hb3⟩
      have HB3 := Lib.hid (HB2.out.trans (hb3.mono HB2.out.size))
      have HK3 := Lib.hid (HK2.out.below hb3)
      clear hb3 a0 a1 a2
      go_wp2_with fail
      refine (HPS.out _ HB3.out).mono ?_
      rintro e w4 ⟨rfl, hb4⟩
      have HB4 := Lib.hid (HB3.out.trans (hb4.mono HB3.out.size))
      have HK4 := Lib.hid (HK3.out.below hb4)
      obtain ⟨a0, a1, a2, _⟩ := blk3 HK4.out
      obtain ⟨c0, c1, c2, _⟩ := blk3 (HK4.out.alloc (.cells #[.int .i64 k, .int .i64 n, .string s] 27))
      clear hb4
      go_wp2_with fail
      refine (HAW.out _ (HB4.out.alloc HB4.out.size _)).mono ?_
      rintro e w5 ⟨rfl, hb5⟩
      have hz := HB4.out.alloc HB4.out.size (.cells #[.int .i64 k, .int .i64 n, .string s] 27)
      have HB5 := Lib.hid (hz.trans (hb5.mono hz.size))
      clear hb5
      go_wp2
      go_ret
      exact ⟨rfl, HB5.out⟩

section
variable {H : Type} {enc : TypeId × Value → H} {w : World}
theorem open_val {cs : Array Value} {d : DataW H} {ps : List MemPlace} (h : DataW.Trod enc Tryd.prog w 0 (fun _ => true) true 27 (.agg cs) d ps) (hs : cs.size = 3) :
    ∃ a : AV, Value.agg cs = a.agg ∧ a.read := by
  obtain ⟨fuel, hf⟩ := h
  have hf2 : DataW.trod enc Tryd.prog w 0 (fun _ => true) true fuel 27 cs.toList = some _ := hf
  obtain ⟨a, h1, h2⟩ := open_av (by simpa using hs) hf2
  refine ⟨a, ?_, h2⟩
  have h3 : cs = a.cells.toArray := by
    cases cs
    simpa using h1
  rw [h3]; rfl
end
theorem vback_law (v0 : Value) (v : AV) (w : World) (hm : Mx w) (h : v0 = v.agg ∧ v.read) :
    Calls Tryd.prog 7 #[v0] w fun e w' => e = .returned (.bool true) ∧ Below w.heap.size w w' := by
  obtain ⟨rfl, h2⟩ := h
  exact vback_walk v w hm h2
end Go.Proofs.YtlgohkdckdnmhaaDoor
