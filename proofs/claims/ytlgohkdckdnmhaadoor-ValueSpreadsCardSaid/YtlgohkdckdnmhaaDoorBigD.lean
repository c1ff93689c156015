/- The document's numbers: add, sub. -/
import Derived.Test.YtlgohkdckdnmhaaDoorBigC
namespace Go.Proofs.YtlgohkdckdnmhaaDoor
open Go.RowKit Go.Afx

theorem vd_push (d : List Nat) (x : Nat) : vd (d ++ [x]) = vd d + 10 ^ d.length * x := by rw [vd_append]; simp [vd]

theorem add_step {d a b : List Nat} {k c x y : Nat} (hd : d.length = k) (h : vd d + 10 ^ k * c = vd (a.take k) + vd (b.take k)) (hx : x = a.getD k 0) (hy : y = b.getD k 0) :
    vd (d ++ [(x + y + c) % 10]) + 10 ^ (k + 1) * ((x + y + c) / 10) = vd (a.take (k + 1)) + vd (b.take (k + 1)) := by
  subst hx
  subst hy
  rw [vd_push, vd_next, vd_next, hd, Nat.pow_succ]
  generalize a.getD k 0 = x at *
  generalize b.getD k 0 = y at *
  have e : x + y + c = (x + y + c) % 10 + 10 * ((x + y + c) / 10) := by omega
  have e2 : 10 ^ k * (x + y + c) = 10 ^ k * ((x + y + c) % 10) + 10 ^ k * 10 * ((x + y + c) / 10) := by
    conv => lhs; rw [e]
    rw [Nat.mul_add, Nat.mul_assoc]
  rw [Nat.mul_add, Nat.mul_add] at e2
  omega

set_option maxRecDepth 100000 in
set_option maxHeartbeats 1000000 in
theorem add_num (w : World) (va vb : Value) (a b : List Nat) (hda : D10 a) (hdb : D10 b) (ha : Sl w (fun _ => True) 1 va a.length (nats a)) (hb : Sl w (fun _ => True) 1 vb b.length (nats b)) (hla : a.length ≤ 10000) (hlb : b.length ≤ 10000) :
    Calls Tryd.prog 105 #[va, vb] w fun e w' => ∃ v' d, e = .returned v' ∧ D10 d ∧ vd d = vd a + vd b ∧ d.length ≤ 10001 ∧ Sl w' (fun k => w.heap.size ≤ k) 1 v' d.length (nats d) ∧ Below w.heap.size w w' := by
  obtain ⟨pa, ca, rfl, hc1, hc2⟩ := ha.form
  obtain ⟨pb, cb, rfl, hc3, hc4⟩ := hb.form
  have HA : Hid (∀ w', Below w.heap.size w w' → ∀ i : Nat, Calls Tryd.prog 125 #[.slice pa a.length ca, .int .i64 i] w' fun e w2 => e = .returned (.int .i64 (a.getD i 0 : Nat)) ∧ w' = w2) := fun w' h i => at_any w' _ _ a (ha.below h) (by omega) i
  have HB : Hid (∀ w', Below w.heap.size w w' → ∀ i : Nat, Calls Tryd.prog 125 #[.slice pb b.length cb, .int .i64 i] w' fun e w2 => e = .returned (.int .i64 (b.getD i 0 : Nat)) ∧ w' = w2) := fun w' h i => at_any w' _ _ b (hb.below h) (by omega) i
  have HXA := Lib.hid (fun i => hda.getD i)
  have HXB := Lib.hid (fun i => hdb.getD i)
  clear ha hb hda hdb
  go_enter Tryd.func105, Tryd.ntmps105
  go_wp2
  go_loopw [5, 6, 7] (fun o cy i wr => ∃ (k c : Nat) (d : List Nat), cy = .int .i64 c ∧ i = .int .i64 k ∧ d.length = k ∧ D10 d ∧ c ≤ 1 ∧ vd d + 10 ^ k * c = vd (a.take k) + vd (b.take k) ∧ (k ≤ max a.length b.length ∨ c = 0 ∧ k ≤ max a.length b.length + 1) ∧ Own wr 3 1 o k (nats d) ∧ (∀ q, o.ownBlock = some q → w.heap.size ≤ q) ∧ Below w.heap.size w wr) (fun _ _ i _ => max a.length b.length + 1 - (intOf i).toNat)
  case atStart => exact ⟨0, 0, [], rfl, rfl, rfl, by intro x hx; simp at hx, by omega, by simp [vd], .inl (by omega), Own.nil _ _ _, by simp [Value.ownBlock], Below.refl _ _⟩
  case round =>
    obtain ⟨k, c, d, rfl, rfl, hdk, hd, hc, hv, hkm, how, hfr, hbw⟩ := hrel
    obtain ⟨p5, c5, rfl, hc51, hc52⟩ := own_form1 how
    have HD := Lib.hid hd
    have HV := Lib.hid hv
    have HW := Lib.hid how
    have HF := Lib.hid hfr
    have HBW := Lib.hid hbw
    have HDK := Lib.hid hdk
    have HAX := Lib.hid (HA.out wr hbw k)
    have HBX := Lib.hid (HB.out wr hbw k)
    have hx := HXA.out k
    have hy := HXB.out k
    obtain ⟨x, hxe⟩ : ∃ x, x = a.getD k 0 := ⟨_, rfl⟩
    obtain ⟨y, hye⟩ : ∃ y, y = b.getD k 0 := ⟨_, rfl⟩
    rw [← hxe] at hx HAX
    rw [← hye] at hy HBX
    have HST := Lib.hid (add_step hdk hv hxe hye)
    obtain ⟨z, hz⟩ : ∃ z : Nat, z = x + y + c := ⟨_, rfl⟩
    rw [← hz] at HST
    have hzi : (x : Int) + y + c = z := by omega
    have hk10 : k ≤ 10001 := by omega
    have HKM := Lib.hid hkm
    have HX0 : Hid (a.length ≤ k → x = 0) := fun h => by rw [hxe]; simp [List.getD, List.getElem?_eq_none h]
    have HY0 : Hid (b.length ≤ k → y = 0) := fun h => by rw [hye]; simp [List.getD, List.getElem?_eq_none h]
    clear hd hv how hfr hbw hxe hye hkm hdk
    by_cases hex : k < a.length ∨ k < b.length ∨ 0 < c
    · have hz19 : z ≤ 19 := by omega
      have hc3 : (k < a.length) ∨ (a.length ≤ k ∧ k < b.length) ∨ (a.length ≤ k ∧ b.length ≤ k ∧ 0 < c) := by omega
      have HEX := Lib.hid hex
      have hk2 : k ≤ max a.length b.length := by have := HKM.out; omega
      have HK2 := Lib.hid hk2
      have HZ := Lib.hid hz
      have e9 : ((z % 10 : Nat) : Int) = (z : Int) % 10 := by omega
      have ho1 := HW.out.alloc (.cells #[.int .i64 ((z : Int) % 10)] 3)
      have hs1 := one_int wr (z % 10)
      rw [e9] at hs1
      clear hex hz e9 hk2
      have fin : Hid (∀ v1 w2, Own w2 3 1 v1 (k + 1) (nats d ++ [.int .i64 ((z : Int) % 10)]) → Only (fun q => (Value.slice p5 k c5).ownBlock = some q) (wr.alloc (.cells #[.int .i64 ((z : Int) % 10)] 3)) w2 →
          (v1.ownBlock = (Value.slice p5 k c5).ownBlock ∨ v1.ownBlock = some (wr.alloc (.cells #[.int .i64 ((z : Int) % 10)] 3)).heap.size) →
          ∃ (k' c' : Nat) (d' : List Nat), Value.int .i64 ((z : Int) / 10) = .int .i64 c' ∧ Value.int .i64 ((k : Int) + 1) = .int .i64 k' ∧ d'.length = k' ∧ D10 d' ∧ c' ≤ 1 ∧ vd d' + 10 ^ k' * c' = vd (a.take k') + vd (b.take k') ∧ (k' ≤ max a.length b.length ∨ c' = 0 ∧ k' ≤ max a.length b.length + 1) ∧ Own w2 3 1 v1 k' (nats d') ∧ (∀ q, v1.ownBlock = some q → w.heap.size ≤ q) ∧ Below w.heap.size w w2) := fun v1 w2 g1 g2 g3 => by
        have e9 : ((z % 10 : Nat) : Int) = (z : Int) % 10 := by omega
        obtain ⟨k1, k2, k3, k4⟩ := push_post (x := z % 10) HBW.out.size HF.out (by rw [e9, HDK.out]; exact g1) (by rw [e9]; exact g2) (by rw [e9]; exact g3)
        rw [List.length_append, HDK.out] at k1
        refine ⟨k + 1, z / 10, d ++ [z % 10], by congr 1, by congr 1, by rw [List.length_append, HDK.out]; rfl, HD.out.append (by intro q hq; rw [List.mem_singleton.1 hq]; omega), by omega, HST.out, ?_, k1, k3, HBW.out.trans k4⟩
        have h5 := HK2.out
        have h6 := HX0.out
        have h7 := HY0.out
        have h8 := HZ.out
        by_cases h9 : k + 1 ≤ max a.length b.length
        · exact .inl h9
        · have h10 := h6 (by omega)
          have h11 := h7 (by omega)
          exact .inr ⟨by omega, by omega⟩
      rcases hc3 with h1 | ⟨h1, h2⟩ | ⟨h1, h2, h3⟩
      all_goals
        go_wp2_with (first
          | (go_at_call 125; refine HAX.out.mono ?_; clear HAX; rintro e w2 ⟨rfl, rfl⟩)
          | (go_at_call 125; refine HBX.out.mono ?_; clear HBX; rintro e w2 ⟨rfl, rfl⟩)
          | (at_builtin; refine wpList_app rfl _ _ rfl elemInt (by rfl) ho1 (by rfl) hs1 (by unfold maxLen; omega) (by omega) ?_; intro v1 w2 g1 g2 g3 g4 g5; clear hs1 ho1;
             have FIN := Lib.hid (fin.out v1 w2 g1 g2 g3); clear g1 g2 g3 g4 g5))
        go_roundw
        case rel => exact FIN.out
        case measure =>
          have h5 := HK2.out
          show max a.length b.length + 1 - ((k : Int) + 1).toNat < max a.length b.length + 1 - (k : Int).toNat
          omega
    · have hla2 : a.length ≤ k := by omega
      have hlb2 : b.length ≤ k := by omega
      obtain rfl : c = 0 := by omega
      have hf : Hid (vd d = vd a + vd b) := by
        have := HV.out
        rw [Nat.mul_zero, List.take_of_length_le hla2, List.take_of_length_le hlb2] at this
        exact this
      clear hzi hz HST hex
      go_wp2
      go_ret
      refine ⟨_, rfl, d, HD.out, hf.out, by rw [HDK.out]; exact hk10, ?_, HBW.out⟩
      rw [HDK.out]
      exact HW.out.sl HF.out

theorem sub_step {d a b : List Nat} {k c x y z : Nat} (hd : d.length = k) (h : vd d + vd (b.take k) = vd (a.take k) + 10 ^ k * c) (hx : x = a.getD k 0) (hy : y = b.getD k 0) (hz : z + y + c = 10 + x) (hz2 : z ≤ 19) :
    vd (d ++ [z % 10]) + vd (b.take (k + 1)) = vd (a.take (k + 1)) + 10 ^ (k + 1) * (1 - z / 10) := by
  subst hx
  subst hy
  rw [vd_push, vd_next, vd_next, hd, Nat.pow_succ]
  generalize a.getD k 0 = x at *
  generalize b.getD k 0 = y at *
  have e : z % 10 + y + c = x + 10 * (1 - z / 10) := by omega
  have e2 : 10 ^ k * (z % 10) + 10 ^ k * y + 10 ^ k * c = 10 ^ k * x + 10 ^ k * 10 * (1 - z / 10) := by
    rw [Nat.mul_assoc, ← Nat.mul_add, ← Nat.mul_add, ← Nat.mul_add, e]
  omega

set_option maxRecDepth 100000 in
set_option maxHeartbeats 1000000 in
theorem sub_num (w : World) (va vb : Value) (a b : List Nat) (hda : D10 a) (hdb : D10 b) (ha : Sl w (fun _ => True) 1 va a.length (nats a)) (hb : Sl w (fun _ => True) 1 vb b.length (nats b)) (hla : a.length ≤ 10000) (hlb : b.length ≤ a.length) (hba : vd b ≤ vd a) :
    Calls Tryd.prog 107 #[va, vb] w fun e w' => ∃ v' d, e = .returned v' ∧ D10 d ∧ vd d = vd a - vd b ∧ d.length ≤ 10001 ∧ Sl w' (fun k => w.heap.size ≤ k) 1 v' d.length (nats d) ∧ Below w.heap.size w w' := by
  obtain ⟨pa, ca, rfl, hc1, hc2⟩ := ha.form
  obtain ⟨pb, cb, rfl, hc3, hc4⟩ := hb.form
  have HB : Hid (∀ w', Below w.heap.size w w' → ∀ i : Nat, Calls Tryd.prog 125 #[.slice pb b.length cb, .int .i64 i] w' fun e w2 => e = .returned (.int .i64 (b.getD i 0 : Nat)) ∧ w' = w2) := fun w' h i => at_any w' _ _ b (hb.below h) (by omega) i
  have HA := Lib.hid ha
  have HXA := Lib.hid (fun i => hda.getD i)
  have HXB := Lib.hid (fun i => hdb.getD i)
  have HBA := Lib.hid hba
  have HLB := Lib.hid hlb
  clear ha hb hda hdb hba
  go_enter Tryd.func107, Tryd.ntmps107
  go_wp2
  go_loopw [5, 6, 7] (fun o cy i wr => ∃ (k c : Nat) (d : List Nat), cy = .int .i64 c ∧ i = .int .i64 k ∧ d.length = k ∧ D10 d ∧ c ≤ 1 ∧ vd d + vd (b.take k) = vd (a.take k) + 10 ^ k * c ∧ k ≤ a.length ∧ Own wr 3 1 o k (nats d) ∧ (∀ q, o.ownBlock = some q → w.heap.size ≤ q) ∧ Below w.heap.size w wr) (fun _ _ i _ => a.length - (intOf i).toNat)
  case atStart => exact ⟨0, 0, [], rfl, rfl, rfl, by intro x hx; simp at hx, by omega, by simp [vd], by omega, Own.nil _ _ _, by simp [Value.ownBlock], Below.refl _ _⟩
  case round =>
    obtain ⟨k, c, d, rfl, rfl, hdk, hd, hc, hv, hkm, how, hfr, hbw⟩ := hrel
    obtain ⟨p5, c5, rfl, hc51, hc52⟩ := own_form1 how
    have HD := Lib.hid hd
    have HV := Lib.hid hv
    have HW := Lib.hid how
    have HF := Lib.hid hfr
    have HBW := Lib.hid hbw
    have HDK := Lib.hid hdk
    by_cases hka : k < a.length
    · have HBX : Hid (∀ w', Below wr.heap.size wr w' → Calls Tryd.prog 125 #[.slice pb b.length cb, .int .i64 k] w' fun e w2 => e = .returned (.int .i64 (b.getD k 0 : Nat)) ∧ w' = w2) := fun w' h => HB.out w' (hbw.trans (h.mono hbw.size)) k
      have hx := HXA.out k
      have hy := HXB.out k
      have hax : a.getD k 0 = a[k] := by simp [List.getD, hka]
      obtain ⟨g, off, cap', hv1, hg, hca⟩ := sl_nat (HA.out.below HBW.out) hka
      cases hv1
      rw [← hax] at hca
      obtain ⟨x, hxe⟩ : ∃ x, x = a.getD k 0 := ⟨_, rfl⟩
      obtain ⟨y, hye⟩ : ∃ y, y = b.getD k 0 := ⟨_, rfl⟩
      rw [← hxe] at hx hca
      rw [← hye] at hy HBX
      obtain ⟨z, hz⟩ : ∃ z : Nat, z + y + c = 10 + x := ⟨10 + x - y - c, by omega⟩
      have hz19 : z ≤ 19 := by omega
      have HST := Lib.hid (sub_step hdk hv hxe hye hz hz19)
      have hzi : (10 : Int) + x - y - c = z := by omega
      have e9 : ((z % 10 : Nat) : Int) = (z : Int) % 10 := by omega
      have e8 : ((1 - z / 10 : Nat) : Int) = 1 - (z : Int) / 10 := by omega
      have ho1 := HW.out.drew.alloc (.cells #[.int .i64 ((z : Int) % 10)] 3)
      have hs1 := one_int wr.drew (z % 10)
      rw [e9] at hs1
      have fin : Hid (∀ v1 w2, Own w2 3 1 v1 (k + 1) (nats d ++ [.int .i64 ((z : Int) % 10)]) → Only (fun q => (Value.slice p5 k c5).ownBlock = some q) (wr.drew.alloc (.cells #[.int .i64 ((z : Int) % 10)] 3)) w2 →
          (v1.ownBlock = (Value.slice p5 k c5).ownBlock ∨ v1.ownBlock = some (wr.drew.alloc (.cells #[.int .i64 ((z : Int) % 10)] 3)).heap.size) →
          ∃ (k' c' : Nat) (d' : List Nat), Value.int .i64 (1 - (z : Int) / 10) = .int .i64 c' ∧ Value.int .i64 ((k : Int) + 1) = .int .i64 k' ∧ d'.length = k' ∧ D10 d' ∧ c' ≤ 1 ∧ vd d' + vd (b.take k') = vd (a.take k') + 10 ^ k' * c' ∧ k' ≤ a.length ∧ Own w2 3 1 v1 k' (nats d') ∧ (∀ q, v1.ownBlock = some q → w.heap.size ≤ q) ∧ Below w.heap.size w w2) := fun v1 w2 g1 g2 g3 => by
        obtain ⟨k1, k2, k3, k4⟩ := push_post (x := z % 10) HBW.out.drew.size HF.out (by rw [e9, HDK.out]; exact g1) (by rw [e9]; exact g2) (by rw [e9]; exact g3)
        rw [List.length_append, HDK.out] at k1
        exact ⟨k + 1, 1 - z / 10, d ++ [z % 10], by rw [e8], by congr 1, by rw [List.length_append, HDK.out]; rfl, HD.out.append (by intro q hq; rw [List.mem_singleton.1 hq]; omega), by omega, HST.out, by omega, k1, k3, HBW.out.drew.trans k4⟩
      clear hdk hd hv how hfr hbw hxe hye hkm hax e8 e9 hz
      go_wp2
      refine wp_region_lit_plan [] [(0, 0), (1, 0), (2, 0), (5, 0), (6, 0), (9, 0), (3, 2), (4, 0), (7, 3), (8, 0), (10, 0), (11, 0)] (fun q => q = g) (by kernel_rfl) (by kernel_rfl) (fun c a d v w h => by cases d <;> exact h) ?_
      go_wp2_with (first
        | (refine plan_pure (v := _) (by rfl) (by rfl) (by rfl) (by intro _; go_simp; with_reducible rfl) ?_; simp only [List.setIfInBounds_toArray, List.set_cons_zero, List.set_cons_succ]; try go_bits) | (refine plan_read (v := _) (by rfl) (by rfl) (by rfl) (by go_simp; with_reducible rfl) ?_; simp only [List.setIfInBounds_toArray, List.set_cons_zero, List.set_cons_succ]; try go_bits) | (refine plan_readB (v := _) (by rfl) (by rfl) (by rfl) (by intro _ hag; unfold Agree at hag; go_simp; with_reducible rfl) ?_; simp only [List.setIfInBounds_toArray, List.set_cons_zero, List.set_cons_succ]; try go_bits) | (refine plan_skip0 (by rfl) (by rfl) (by rfl) ?_; simp only [List.setIfInBounds_toArray, List.set_cons_zero, List.set_cons_succ]; try go_bits) | (refine plan_skip1 (by rfl) (by rfl) (by rfl) ?_; simp only [List.setIfInBounds_toArray, List.set_cons_zero, List.set_cons_succ]; try go_bits) | (refine plan_skip2 (by rfl) (by rfl) (by rfl) ?_; simp only [List.setIfInBounds_toArray, List.set_cons_zero, List.set_cons_succ]; try go_bits) | (refine plan_skip4 (by rfl) (by rfl) (by rfl) ?_; simp only [List.setIfInBounds_toArray, List.set_cons_zero, List.set_cons_succ]; try go_bits) | (refine plan_any (by rfl) ?_) | (refine plan_keep (by rfl) ?_) | (refine plan_nil ?_) | (with_reducible refine And.intro (by first | assumption | exact Agree.refl _ _ | exact agree_drew _ _ | exact agree_alloc _ (by intro k hk; subst hk; first | omega | (simp; omega))) ?_) | (unfold Act.put; simp only [List.setIfInBounds_toArray, List.set_cons_zero, List.set_cons_succ])
        | (go_at_call 125; refine (HBX.out _ (Below.drew (Below.refl _ _))).mono ?_; clear HBX; rintro e w2 ⟨rfl, rfl⟩)
        | (at_builtin; refine wpList_app rfl _ _ rfl elemInt (by rfl) ho1 (by rfl) hs1 (by unfold maxLen; omega) (by omega) ?_; intro v1 w2 g1 g2 g3 g4 g5; clear hs1 ho1;
           have FIN := Lib.hid (fin.out v1 w2 g1 g2 g3); clear g1 g2 g3 g4 g5))
      refine ⟨FIN.out, ?_⟩
      show a.length - ((k : Int) + 1).toNat < a.length - (k : Int).toNat
      omega
    · obtain rfl : k = a.length := by omega
      have hf : Hid (vd d = vd a - vd b) := by
        have h1 := HV.out
        rw [List.take_length, List.take_of_length_le HLB.out] at h1
        have h2 := vd_lt d HD.out
        rw [HDK.out] at h2
        have h3 := HBA.out
        have h4 : c = 0 := by
          rcases Nat.eq_zero_or_pos c with h | h
          · exact h
          · obtain rfl : c = 1 := by omega
            rw [Nat.mul_one] at h1
            omega
        subst h4
        rw [Nat.mul_zero] at h1
        show _ = _
        omega
      clear hdk hd hv how hfr hbw hkm
      go_wp2
      go_ret
      refine ⟨_, d, rfl, HD.out, hf.out, by rw [HDK.out]; omega, ?_, HBW.out⟩
      rw [HDK.out]
      exact HW.out.sl HF.out
end Go.Proofs.YtlgohkdckdnmhaaDoor
