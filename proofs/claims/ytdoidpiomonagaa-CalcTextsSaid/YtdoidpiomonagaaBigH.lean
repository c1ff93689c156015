/- The document's numbers: Times. -/
import Derived.Test.YtdoidpiomonagaaBigG
import Derived.Deep.DeepCutAuto
import Derived.Deep.CutBlock
namespace Go.Proofs.Ytdoidpiomonagaa
open Go.RowKit Go.Afx

theorem mk_ints (w : World) (N : Nat) (h : N ≤ 1000000) :
    (Instr.makeSlice 26 (.int .i64 (N : Int)) (.int .i64 (N : Int))).run Try.prog w = .ok (.slice (some ⟨w.heap.size, 0, none⟩) N N) (w.alloc (.cells (nats (List.replicate N 0)).toArray 3)) := by
  obtain ⟨i, hi, hz, hsize, hby⟩ := elemInt.parts
  have hr := run_make (P := Try.prog) w 26 3 i (.int .i64 0) Try.underlying26 hi hz .i64 .i64 N N (by omega) (Int.le_refl _) (by rw [hby]; omega) (by omega)
  rw [hr, hsize]
  simp only [Int.toNat_natCast, Nat.mul_one]
  have e : madeCells (Value.int .i64 0).cells N = (nats (List.replicate N 0)).toArray := by
    apply Array.ext
    · simp [madeCells, nats, ints]
    · intro k h1 h2
      simp [madeCells, nats, ints, Value.cells, Nat.mod_one]
  rw [e]

/-- What Times keeps. -/
structure TimesS (w wr : World) (A Bv C : List Value) (out : List Nat) : Prop where
  a : Blk wr w.heap.size 48 A
  b : Blk wr (w.heap.size + 1) 48 Bv
  c : Blk wr (w.heap.size + 1 + 1) 48 C
  o : Blk wr (w.heap.size + 3) 3 (nats out)
  below : Below w.heap.size w wr
theorem TimesS.drew {w wr : World} {A Bv C : List Value} {out : List Nat} (h : TimesS w wr A Bv C out) : TimesS w wr.drew A Bv C out := ⟨h.a, h.b, h.c, h.o, h.below.drew⟩
theorem TimesS.set {w wr : World} {A Bv C : List Value} {out : List Nat} (h : TimesS w wr A Bv C out) (j x : Nat) : TimesS w (wr.setCell ⟨w.heap.size + 3, j, none⟩ (.int .i64 (x : Int))) A Bv C (out.set j x) :=
  ⟨h.a.setOther (show w.heap.size ≠ w.heap.size + 3 by omega) _, h.b.setOther (show w.heap.size + 1 ≠ w.heap.size + 3 by omega) _, h.c.setOther (show w.heap.size + 1 + 1 ≠ w.heap.size + 3 by omega) _,
    (nats_set out j x) ▸ h.o.set j _, h.below.setCell (show w.heap.size ≤ w.heap.size + 3 by omega) _⟩

theorem getD_set (out : List Nat) (j k v : Nat) : (out.set j v).getD k 0 = if k = j ∧ j < out.length then v else out.getD k 0 := by
  simp only [List.getD, List.getElem?_set]
  by_cases h1 : j = k
  · subst h1
    by_cases h2 : j < out.length
    · simp [h2]
    · simp [h2]
  · simp [h1, show ¬ k = j from fun h => h1 h.symm]

theorem carry_step (out : List Nat) (m : Nat) (h : m + 1 < out.length) :
    vd ((out.set (m + 1) (out.getD (m + 1) 0 + out.getD m 0 / 10)).set m (out.getD m 0 % 10)) = vd out := by
  have e1 : out.getD (m + 1) 0 = out[m + 1] := by simp [List.getD, h]
  have hm : m < out.length := by omega
  have e2 : out.getD m 0 = out[m] := by simp [List.getD, hm]
  rw [e1, e2]
  have h1 := vd_set out (m + 1) (out[m] / 10) h
  have hl : m < (out.set (m + 1) (out[m + 1] + out[m] / 10)).length := by simpa using hm
  have e3 : (out.set (m + 1) (out[m + 1] + out[m] / 10))[m] = out[m] := by rw [List.getElem_set]; simp
  have h2 := vd_set_sub (out.set (m + 1) (out[m + 1] + out[m] / 10)) m (out[m] % 10) hl (by rw [e3]; omega)
  rw [e3, h1] at h2
  have e4 : out[m] - out[m] % 10 = 10 * (out[m] / 10) := by omega
  have e5 : 10 ^ (m + 1) = 10 ^ m * 10 := Nat.pow_succ ..
  rw [e4, ← Nat.mul_assoc, e5] at h2
  omega

theorem D10_of_top (out : List Nat) (m : Nat) (hl : out.length = m + 1) (h : ∀ j, j < m → out.getD j 0 < 10) (hv : vd out < 10 ^ m) : D10 out := by
  have hs := vd_split out m
  have hm : m < out.length := by omega
  have hd := vd_drop out m hm
  rw [List.drop_of_length_le (show out.length ≤ m + 1 by omega)] at hd
  have h0 : out[m] = 0 := by
    rcases Nat.eq_zero_or_pos out[m] with h0 | h0
    · exact h0
    · have : 10 ^ m * 1 ≤ 10 ^ m * vd (out.drop m) := Nat.mul_le_mul_left _ (by rw [hd]; omega)
      omega
  intro x hx
  obtain ⟨j, hj, rfl⟩ := List.mem_iff_getElem.1 hx
  by_cases hjm : j < m
  · have := h j hjm
    simpa [List.getD, hj] using this
  · obtain rfl : j = m := by omega
    omega

set_option maxRecDepth 100000 in
set_option maxHeartbeats 1000000 in
theorem times_num (w : World) (va vb : Value) (z1 z2 : Int) (ha : IsNum w (fun _ => True) va z1) (hb : IsNum w (fun _ => True) vb z2) (hla : (ld z1.natAbs).length ≤ 2000) (hlb : (ld z2.natAbs).length ≤ 2000) :
    Calls Try.prog 31 #[va, vb] w fun e w' => ∃ v', e = .returned v' ∧ IsNum w' (fun k => w.heap.size ≤ k) v' (z1 * z2) ∧ Below w.heap.size w w' := by
  obtain ⟨sa, x, pa, ca, rfl, hsa, hz1, hx, hc1, hc2⟩ := ha.open'
  obtain ⟨sb, y, pb, cb, rfl, hsb, hz2, hy, hc3, hc4⟩ := hb.open'
  rw [hx] at hla
  rw [hy] at hlb
  have HSG := Lib.hid (fun (w' : World) (B : Nat → Prop) (s : Bool) (v : Value) (d : List Nat) (h1 : D10 d) (h2 : Sl w' B 1 v d.length (nats d)) (h3 : d.length ≤ 10001) => sign_any w' B s v d h1 h2 (by omega))
  have HZ : Hid (sgn (sa != sb) ((x * y : Nat) : Int) = z1 * z2) := by
    show _ = _
    rw [hz1, hz2]; unfold sgn; cases sa <;> cases sb <;> simp [Int.neg_mul, Int.mul_neg]
  have HSA := Lib.hid hsa
  have HSB := Lib.hid hsb
  have HVX := Lib.hid (vd_ld x)
  have HVY := Lib.hid (vd_ld y)
  have HDX := Lib.hid (ld_D10 x)
  have HDY := Lib.hid (ld_D10 y)
  clear ha hb hz1 hz2 hx hy hsa hsb
  generalize z1 * z2 = z at *
  generalize ld x = da at *
  generalize ld y = db at *
  generalize hla' : da.length = la at *
  generalize hlb' : db.length = lb at *
  have HLA := Lib.hid hla'
  have HLB := Lib.hid hlb'
  clear hla' hlb'
  obtain ⟨b0, b1, b2, hb4, hs4⟩ := boxes3 w [.bool sa, .slice pa la ca] [.bool sb, .slice pb lb cb] [.bool false, .slice none 0 0] 48
  obtain ⟨N, hN⟩ : ∃ N, N = la + lb + 1 := ⟨_, rfl⟩
  have HN := Lib.hid hN
  have hNi : (la : Int) + lb + 1 = N := by omega
  have hm := fun w => mk_ints w N (by omega)
  have hN2 : N ≤ 4001 := by omega
  clear hN
  go_enter Try.func31, Try.ntmps31
  go_upto_region 1 with fail
  generalize (((w.alloc (.cells #[.bool sa, .slice pa la ca] 48)).alloc (.cells #[.bool sb, .slice pb lb cb] 48)).alloc (.cells #[.bool false, .slice none 0 0] 48)) = w4 at *
  have c01 : w4.cell? ⟨w.heap.size, 1, none⟩ = some (.slice pa la ca) := b0.cell 1
  have c11 : w4.cell? ⟨w.heap.size + 1, 1, none⟩ = some (.slice pb lb cb) := b1.cell 1
  have HT0 : Hid (TimesS w (w4.alloc (.cells (nats (List.replicate N 0)).toArray 3)) [.bool sa, .slice pa la ca] [.bool sb, .slice pb lb cb] [.bool false, .slice none 0 0] (List.replicate N 0)) :=
    ⟨b0.alloc _, b1.alloc _, b2.alloc _, hs4 ▸ Blk.new w4 3 (nats (List.replicate N 0)), hb4.alloc (by omega) _⟩
  have HS4 := Lib.hid hs4
  clear b0 b1 b2 hb4 hs4
  go_wp2
  have hs4 := HS4.out
  rw [hs4]
  clear c01 c11 hm hNi
  go_loopw [6] (fun i wr => ∃ (n : Nat) (out : List Nat), i = .int .i64 n ∧ n ≤ la ∧ TimesS w wr [.bool sa, .slice pa la ca] [.bool sb, .slice pb lb cb] [.bool false, .slice none 0 0] out ∧ out.length = N ∧ vd out = vd (da.take n) * vd db ∧ ∀ j, out.getD j 0 ≤ 81 * (n * lb)) (fun i _ => la - (intOf i).toNat)
  case atStart => exact ⟨0, _, rfl, Nat.zero_le _, HT0.out, by simp, by rw [vd_zeros]; simp [vd], by intro j; by_cases h : j < N <;> simp [List.getD, h]⟩
  case round =>
    obtain ⟨n, out, rfl, hn, ht, hol, hov, hob⟩ := hrel
    have d01 : wr.cell? ⟨w.heap.size, 1, none⟩ = some (.slice pa la ca) := ht.a.cell 1
    have HT := Lib.hid ht
    have HOL := Lib.hid hol
    have HOV := Lib.hid hov
    have HOB := Lib.hid hob
    clear ht hol hov hob
    by_cases hna : n < la
    · go_wp2
      obtain ⟨wo, hwo⟩ : ∃ wo : World, wo = wr := ⟨_, rfl⟩
      subst hwo
      clear d01
      go_loopw [7] (fun i wr => ∃ (k : Nat) (out : List Nat), i = .int .i64 k ∧ k ≤ lb ∧ TimesS w wr [.bool sa, .slice pa la ca] [.bool sb, .slice pb lb cb] [.bool false, .slice none 0 0] out ∧ out.length = N ∧ vd out = vd (da.take n) * vd db + 10 ^ n * (da.getD n 0 * vd (db.take k)) ∧ ∀ j, out.getD j 0 ≤ 81 * (n * lb + k)) (fun i _ => lb - (intOf i).toNat)
      case atStart => exact ⟨0, out, rfl, Nat.zero_le _, HT.out, HOL.out, by rw [HOV.out]; simp [vd], by intro j; have := HOB.out j; omega⟩
      case round =>
        obtain ⟨k, o2, rfl, hk, ht2, hol2, hov2, hob2⟩ := hrel
        have d01 : wr.cell? ⟨w.heap.size, 1, none⟩ = some (.slice pa la ca) := ht2.a.cell 1
        have d11 : wr.cell? ⟨w.heap.size + 1, 1, none⟩ = some (.slice pb lb cb) := ht2.b.cell 1
        have HT2 := Lib.hid ht2
        have HOL2 := Lib.hid hol2
        have HOV2 := Lib.hid hov2
        have HOB2 := Lib.hid hob2
        clear ht2 hol2 hov2 hob2
        by_cases hkb : k < lb
        · have hia : n < da.length := by rw [HLA.out]; exact hna
          have hib : k < db.length := by rw [HLB.out]; exact hkb
          have hsa := HSA.out.below HT2.out.below
          have hsb := HSB.out.below HT2.out.below
          rw [← HLA.out] at hsa
          rw [← HLB.out] at hsb
          obtain ⟨g1, o1, cp1, hv1, hg1, hca⟩ := sl_nat hsa hia
          obtain ⟨g2, of2, cp2, hv2, hg2, hcb⟩ := sl_nat hsb hib
          cases hv1
          cases hv2
          have hpe : da.getD n 0 = da[n] := by simp [List.getD, hia]
          have hqe : db.getD k 0 = db[k] := by simp [List.getD, hib]
          rw [← hpe] at hca
          rw [← hqe] at hcb
          have hp9 := HDX.out.getD n
          have hq9 := HDY.out.getD k
          obtain ⟨j, hj⟩ : ∃ j, j = n + k := ⟨_, rfl⟩
          have hji : (n : Int) + k = j := by omega
          have hjl : j < N := by have := HN.out; omega
          have hjo : j < o2.length := by rw [HOL2.out]; exact hjl
          have hoc : wr.cell? ⟨w.heap.size + 3, j, none⟩ = some (.int .i64 (o2[j] : Int)) := (HT2.out.o.cell j).trans (nats_get o2 j hjo)
          have hf : ∀ i, wr.frozen? ⟨w.heap.size + 3, i, none⟩ = false := HT2.out.o.frozen
          have hoe : o2.getD j 0 = o2[j] := by simp [List.getD, hjo]
          have hob := HOB2.out j
          rw [hoe] at hob
          have hnk : n * lb + k ≤ 4002000 := by
            have : n * lb ≤ 2000 * 2000 := Nat.mul_le_mul (by omega) (by omega)
            omega
          have hpq : da.getD n 0 * db.getD k 0 ≤ 81 := Nat.le_trans (Nat.mul_le_mul (show da.getD n 0 ≤ 9 by omega) (show db.getD k 0 ≤ 9 by omega)) (by decide)
          have HVS := Lib.hid (vd_set o2 j (da.getD n 0 * db.getD k 0) hjo)
          have HVN := Lib.hid (vd_next db k)
          obtain ⟨r, hr⟩ : ∃ r, r = da.getD n 0 * db.getD k 0 := ⟨_, rfl⟩
          have hri : (da.getD n 0 : Int) * (db.getD k 0 : Int) = r := by rw [hr, Int.natCast_mul]
          rw [← hr] at hpq HVS
          have HR := Lib.hid hr
          have HJ := Lib.hid hj
          obtain ⟨t, ht⟩ : ∃ t, t = o2[j] + r := ⟨_, rfl⟩
          have hti : (o2[j] : Int) + r = t := by omega
          have ht9 : (t : Int) ≤ 1000000000 := by omega
          have HTB : Hid (t ≤ 81 * (n * lb + (k + 1))) := by show _ ≤ _; omega
          rw [← ht] at HVS
          have HHJ := Lib.hid hjo
          clear hr hj hpe hqe hsa hsb hoe hob hnk hpq ht
          generalize da.getD n 0 = pd at *
          generalize db.getD k 0 = qd at *
          generalize o2[j] = od at *
          clear hia hib hjo
          go_wp2
          refine wp_region_lit_plan [] [(0, 0), (1, 0), (2, 0), (3, 0), (4, 0), (5, 0), (6, 0), (7, 0), (8, 0), (10, 0), (12, 0), (15, 0), (17, 0), (9, 1), (11, 1), (13, 0), (14, 1), (16, 1), (18, 0), (19, 1), (20, 0), (21, 0), (22, 0), (23, 4)] (fun q => True) (by kernel_rfl) (by kernel_rfl) (fun c a d v w h => by cases d <;> exact h) ?_
          go_wp2_with (first
            | (refine plan_pure (v := _) (by rfl) (by rfl) (by rfl) (by intro _; go_simp; with_reducible rfl) ?_; simp only [List.setIfInBounds_toArray, List.set_cons_zero, List.set_cons_succ]; try go_bits) | (refine plan_read (v := _) (by rfl) (by rfl) (by rfl) (by go_simp; with_reducible rfl) ?_; simp only [List.setIfInBounds_toArray, List.set_cons_zero, List.set_cons_succ]; try go_bits) | (refine plan_readB (v := _) (by rfl) (by rfl) (by rfl) (by intro _ hag; unfold Agree at hag; go_simp; with_reducible rfl) ?_; simp only [List.setIfInBounds_toArray, List.set_cons_zero, List.set_cons_succ]; try go_bits) | (refine plan_skip0 (by rfl) (by rfl) (by rfl) ?_; simp only [List.setIfInBounds_toArray, List.set_cons_zero, List.set_cons_succ]; try go_bits) | (refine plan_skip1 (by rfl) (by rfl) (by rfl) ?_; simp only [List.setIfInBounds_toArray, List.set_cons_zero, List.set_cons_succ]; try go_bits) | (refine plan_skip2 (by rfl) (by rfl) (by rfl) ?_; simp only [List.setIfInBounds_toArray, List.set_cons_zero, List.set_cons_succ]; try go_bits) | (refine plan_any (by rfl) ?_) | (refine plan_keep (by rfl) ?_) | (refine plan_nil ?_) | (with_reducible refine And.intro (by first | assumption | exact Agree.refl _ _ | exact agree_drew _ _ | exact agree_alloc _ (by intro k hk; subst hk; first | omega | (simp; omega))) ?_) | (unfold Act.put; simp only [List.setIfInBounds_toArray, List.set_cons_zero, List.set_cons_succ]))
          refine ⟨⟨k + 1, o2.set j t, by congr 1, by omega, (HT2.out.set j t).drew, by rw [List.length_set]; exact HOL2.out, ?_, fun j' => ?_⟩, ?_⟩
          · rw [HVS.out, HOV2.out, HVN.out, HR.out, HJ.out, Nat.pow_add, Nat.mul_add pd, Nat.mul_add (10 ^ n), Nat.add_assoc, Nat.mul_left_comm pd (10 ^ k) qd, Nat.mul_assoc]
          · rw [getD_set]
            have h1 := HOB2.out j'
            have h2 := HTB.out
            split
            · exact h2
            · omega
          · show lb - ((k : Int) + 1).toNat < lb - (k : Int).toNat
            omega
        · obtain rfl : k = lb := by omega
          have HVN := Lib.hid (vd_next da n)
          clear d01
          go_wp2
          refine ⟨⟨n + 1, o2, by congr 1, by omega, HT2.out, HOL2.out, ?_, fun j' => ?_⟩, ?_⟩
          · have h1 := HOV2.out
            have h2 : db.take k = db := List.take_of_length_le (by rw [HLB.out]; exact Nat.le_refl _)
            rw [h2] at h1
            rw [h1, HVN.out, Nat.add_mul, Nat.mul_assoc]
          · have h1 := HOB2.out j'
            rw [Nat.add_mul, Nat.one_mul]
            exact h1
          · show la - ((n : Int) + 1).toNat < la - (n : Int).toNat
            omega
    · obtain rfl : n = la := by omega
      have HV : Hid (vd out = x * y) := by
        have h1 := HOV.out
        rw [List.take_of_length_le (by rw [HLA.out]; exact Nat.le_refl _), HVX.out, HVY.out] at h1
        exact h1
      have hM : n * lb ≤ 4000000 := Nat.mul_le_mul (show n ≤ 2000 by omega) (show lb ≤ 2000 by omega)
      obtain ⟨M, hMe⟩ : ∃ M, M = 81 * (n * lb) := ⟨_, rfl⟩
      have hM2 : M ≤ 324000000 := by omega
      rw [← hMe] at HOB
      clear hM hMe
      have hN0 : 1 ≤ N := by have := HN.out; omega
      have HVL : Hid (x * y < 10 ^ (n + lb)) := by
        show _ < _
        have h1 := vd_lt da HDX.out
        have h2 := vd_lt db HDY.out
        rw [HVX.out, HLA.out] at h1
        rw [HVY.out, HLB.out] at h2
        rw [Nat.pow_add]
        exact Nat.mul_lt_mul'' h1 h2
      go_wp2
      clear d01
      obtain ⟨wo, hwo⟩ : ∃ wo : World, wo = wr := ⟨_, rfl⟩
      subst hwo
      go_loopw [8] (fun i wr => ∃ (m : Nat) (o3 : List Nat), i = .int .i64 m ∧ m + 1 ≤ N ∧ TimesS w wr [.bool sa, .slice pa n ca] [.bool sb, .slice pb lb cb] [.bool false, .slice none 0 0] o3 ∧ o3.length = N ∧ vd o3 = x * y ∧ (∀ j, j < m → o3.getD j 0 < 10) ∧ o3.getD m 0 ≤ 2 * M ∧ (∀ j, m < j → o3.getD j 0 ≤ M)) (fun i _ => N - (intOf i).toNat)
      case atStart => exact ⟨0, out, rfl, by omega, HT.out, HOL.out, HV.out, fun j h => by omega, by have := HOB.out 0; omega, fun j _ => HOB.out j⟩
      case round =>
        obtain ⟨m, o3, rfl, hm, ht3, hol3, hov3, hb1, hb2, hb3⟩ := hrel
        have HT3 := Lib.hid ht3
        have HOL3 := Lib.hid hol3
        have HOV3 := Lib.hid hov3
        have HB1 := Lib.hid hb1
        have HB2 := Lib.hid hb2
        have HB3 := Lib.hid hb3
        by_cases hmN : m + 1 < N
        · obtain ⟨m1, hm1⟩ : ∃ m1, m1 = m + 1 := ⟨_, rfl⟩
          have hm1i : (m : Int) + 1 = m1 := by omega
          have hm1N : m1 < N := by omega
          have hmN2 : m < N := by omega
          have q1 : wr.cell? ⟨w.heap.size + 3, m, none⟩ = some (.int .i64 (o3.getD m 0 : Nat)) := by
            have hlt : m < o3.length := by rw [hol3]; exact hmN2
            have e : o3.getD m 0 = o3[m] := by simp [List.getD, hlt]
            rw [e]; exact (ht3.o.cell m).trans (nats_get o3 m hlt)
          have q2 : wr.cell? ⟨w.heap.size + 3, m1, none⟩ = some (.int .i64 (o3.getD m1 0 : Nat)) := by
            have hlt : m1 < o3.length := by rw [hol3]; exact hm1N
            have e : o3.getD m1 0 = o3[m1] := by simp [List.getD, hlt]
            rw [e]; exact (ht3.o.cell m1).trans (nats_get o3 m1 hlt)
          have hf : ∀ i, wr.frozen? ⟨w.heap.size + 3, i, none⟩ = false := ht3.o.frozen
          have hCS : Hid (vd ((o3.set m1 (o3.getD m1 0 + o3.getD m 0 / 10)).set m (o3.getD m 0 % 10)) = vd o3) := by rw [hm1]; exact carry_step o3 m (by rw [hol3]; exact hmN)
          have hpM := hb3 m1 (by omega)
          obtain ⟨s, hs⟩ : ∃ s, s = o3.getD m1 0 + o3.getD m 0 / 10 := ⟨_, rfl⟩
          have hsi : (o3.getD m1 0 : Int) + (o3.getD m 0 : Int) / 10 = s := by omega
          have hsM : s ≤ 2 * M := by omega
          rw [← hs] at hCS
          have HT4 : Hid (TimesS w (wr.setCell ⟨w.heap.size + 3, m1, none⟩ (.int .i64 (s : Int))).drew [.bool sa, .slice pa n ca] [.bool sb, .slice pb lb cb] [.bool false, .slice none 0 0] (o3.set m1 s)) := (ht3.set m1 s).drew
          have q3 : (wr.setCell ⟨w.heap.size + 3, m1, none⟩ (.int .i64 (s : Int))).drew.cell? ⟨w.heap.size + 3, m, none⟩ = some (.int .i64 (o3.getD m 0 : Nat)) := by
            have hlt : m < (o3.set m1 s).length := by rw [List.length_set, hol3]; exact hmN2
            have hlt2 : m < o3.length := by rw [hol3]; exact hmN2
            have e : o3.getD m 0 = (o3.set m1 s)[m] := by rw [List.getElem_set, if_neg (by omega)]; simp [List.getD, hlt2]
            rw [e]; exact (HT4.out.o.cell m).trans (nats_get _ m hlt)
          have hf3 : ∀ i, (wr.setCell ⟨w.heap.size + 3, m1, none⟩ (.int .i64 (s : Int))).drew.frozen? ⟨w.heap.size + 3, i, none⟩ = false := HT4.out.o.frozen
          have HSM := Lib.hid hsM
          have HM1 := Lib.hid hm1
          obtain ⟨qd, hqd⟩ : ∃ qd, qd = o3.getD m 0 := ⟨_, rfl⟩
          rw [← hqd] at q1 q3 hsi hCS hs hb2
          have hq10 : ((qd % 10 : Nat) : Int) = (qd : Int) % 10 := by omega
          have HQ10 := Lib.hid hq10
          clear ht3 hol3 hov3 hb1 hb3 hm1 hs hqd hq10
          generalize o3.getD m1 0 = pd at *
          go_wp2
          refine wp_region_lit_plan [] [(0, 0), (1, 0), (2, 0), (3, 0), (4, 0), (5, 0), (6, 0), (8, 0), (9, 0), (10, 0), (7, 1), (11, 1), (12, 0), (13, 0), (14, 0), (15, 4)] (fun q => True) (by kernel_rfl) (by kernel_rfl) (fun c a d v w h => by cases d <;> exact h) ?_
          go_wp2_with (first
            | (refine plan_pure (v := _) (by rfl) (by rfl) (by rfl) (by intro _; go_simp; with_reducible rfl) ?_; simp only [List.setIfInBounds_toArray, List.set_cons_zero, List.set_cons_succ]; try go_bits) | (refine plan_read (v := _) (by rfl) (by rfl) (by rfl) (by go_simp; with_reducible rfl) ?_; simp only [List.setIfInBounds_toArray, List.set_cons_zero, List.set_cons_succ]; try go_bits) | (refine plan_readB (v := _) (by rfl) (by rfl) (by rfl) (by intro _ hag; unfold Agree at hag; go_simp; with_reducible rfl) ?_; simp only [List.setIfInBounds_toArray, List.set_cons_zero, List.set_cons_succ]; try go_bits) | (refine plan_skip0 (by rfl) (by rfl) (by rfl) ?_; simp only [List.setIfInBounds_toArray, List.set_cons_zero, List.set_cons_succ]; try go_bits) | (refine plan_skip1 (by rfl) (by rfl) (by rfl) ?_; simp only [List.setIfInBounds_toArray, List.set_cons_zero, List.set_cons_succ]; try go_bits) | (refine plan_skip2 (by rfl) (by rfl) (by rfl) ?_; simp only [List.setIfInBounds_toArray, List.set_cons_zero, List.set_cons_succ]; try go_bits) | (refine plan_any (by rfl) ?_) | (refine plan_keep (by rfl) ?_) | (refine plan_nil ?_) | (with_reducible refine And.intro (by first | assumption | exact Agree.refl _ _ | exact agree_drew _ _ | exact agree_alloc _ (by intro k hk; subst hk; first | omega | (simp; omega))) ?_) | (unfold Act.put; simp only [List.setIfInBounds_toArray, List.set_cons_zero, List.set_cons_succ]))
          have hm1e := HM1.out
          refine ⟨⟨m1, (o3.set m1 s).set m (qd % 10), rfl, by omega, ?_, by rw [List.length_set, List.length_set]; exact HOL3.out, by rw [hCS.out]; exact HOV3.out, fun j hj => ?_, ?_, fun j hj => ?_⟩, ?_⟩
          · have h1 := HT4.out.set m (qd % 10)
            rw [HQ10.out] at h1
            exact h1
          · rw [getD_set]
            split
            · omega
            · rename_i h1
              rw [getD_set, if_neg (by omega)]
              by_cases hjm : j = m
              · subst hjm
                exact absurd ⟨rfl, by rw [List.length_set, HOL3.out]; exact hmN2⟩ h1
              · exact HB1.out j (by omega)
          · rw [getD_set, if_neg (by omega), getD_set]
            split
            · exact HSM.out
            · have := HB3.out m1 (by omega); omega
          · rw [getD_set, if_neg (by omega), getD_set, if_neg (by omega)]
            exact HB3.out j (by omega)
          · show N - (m1 : Int).toNat < N - (m : Int).toNat
            omega
        · have hd10 : D10 o3 := D10_of_top o3 m (by omega) hb1 (by rw [hov3]; have h1 := HVL.out; have h2 := HN.out; rw [show m = n + lb by omega]; exact h1)
          have d00 : wr.cell? ⟨w.heap.size, 0, none⟩ = some (.bool sa) := ht3.a.cell 0
          have d10 : wr.cell? ⟨w.heap.size + 1, 0, none⟩ = some (.bool sb) := ht3.b.cell 0
          have hso : Sl wr (fun k => w.heap.size + 3 ≤ k) 1 (.slice (some ⟨w.heap.size + 3, 0, none⟩) N N) o3.length (nats o3) :=
            ⟨by rw [nats_length, Nat.mul_one], ints_ones _, .inr ⟨w.heap.size + 3, 0, N, by rw [hol3], by rw [hol3]; exact Nat.le_refl _, by unfold maxLen; omega, Nat.le_refl _, ht3.o.lt, fun j _ => by rw [Nat.zero_add]; exact ht3.o.cell j⟩⟩
          have HSG6 : Hid (∀ s, s = (sa != sb) → Calls Try.prog 54 #[.bool s, .slice (some ⟨w.heap.size + 3, 0, none⟩) N N] wr fun e w' => ∃ v', e = .returned v' ∧ IsNum w' (fun k => w.heap.size + 3 ≤ k) v' z ∧ Below wr.heap.size wr w') := fun s hs => by
            subst hs
            have := HSG.out wr _ (sa != sb) _ o3 hd10 hso (by omega)
            rwa [hov3, HZ.out] at this
          have HC := Lib.hid ht3.c
          have HBW := Lib.hid ht3.below
          clear ht3 hol3 hov3 hb1 hb2 hb3 hd10 hso
          go_wp2_with (first
            | (go_at_call 54; refine (HSG6.out _ rfl).mono ?_; rintro e w6 ⟨v6, rfl, ⟨dv6, rfl, h62⟩, hb6⟩; obtain ⟨p6, c6, rfl, h65, h66⟩ := h62.form; have H62 := Lib.hid h62;
               have B16 := Lib.hid (HC.out.below hb6);
               have c20 : w6.cell? ⟨w.heap.size + 1 + 1, 0, none⟩ = some (.bool false) := B16.out.cell 0;
               have c21 : w6.cell? ⟨w.heap.size + 1 + 1, 1, none⟩ = some (.slice none 0 0) := B16.out.cell 1;
               have hf6 : ∀ i, w6.frozen? ⟨w.heap.size + 1 + 1, i, none⟩ = false := B16.out.frozen; have HB6 := Lib.hid hb6; clear hb6 h62))
          have HR7 := (B16.out.set 0 (.bool (decide (z < 0)))).set 1 (.slice p6 (ld z.natAbs).length c6)
          have c70 := HR7.cell 0
          have c71 := HR7.cell 1
          have h2 := HBW.out.trans (HB6.out.mono HBW.out.size)
          refine bodyPost_ret (v := .agg #[.bool (decide (z < 0)), .slice p6 (ld z.natAbs).length c6]) (by simp [results, Try.results31, go_sem, c70, c71]) rfl ⟨_, rfl, ⟨_, rfl, ?_⟩, (h2.setCell (by show w.heap.size ≤ w.heap.size + 1 + 1; omega) _).setCell (by show w.heap.size ≤ w.heap.size + 1 + 1; omega) _⟩
          exact Sl.weak (H62.out.only (((Only.refl (fun k => k = w.heap.size + 1 + 1) w6).setCell (p := ⟨w.heap.size + 1 + 1, 0, none⟩) (fun _ => rfl) _).setCell (p := ⟨w.heap.size + 1 + 1, 1, none⟩) (fun _ => rfl) _) (fun k (h1 : w.heap.size + 3 ≤ k) h2 => by omega)) (fun k (h : w.heap.size + 3 ≤ k) => by omega)
end Go.Proofs.Ytdoidpiomonagaa
