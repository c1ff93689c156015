/- The document's Spread. -/
import Derived.Test.YtlgohkdckdnmhaaDoorSpA
import Derived.Test.YtlgohkdckdnmhaaDoorNums
namespace Go.Proofs.YtlgohkdckdnmhaaDoor
open Go.RowKit Go.Afx

theorem mdN_nat (z : Int) (M : Nat) (h : 0 < M) : mdN z M = if z < 0 ∧ 0 < z.natAbs % M then (M : Int) - (z.natAbs % M : Nat) else ((z.natAbs % M : Nat) : Int) := by
  have h0 : (M : Int) ≠ 0 := by omega
  have h1 : (M : Int) ≠ -1 := by omega
  have e : mdN z M = z % (M : Int) := by
    unfold mdN
    rw [if_neg h0, if_neg h1, Int.fmod_eq_emod_of_nonneg _ (by omega)]
  rw [e]
  generalize hq : z.natAbs / M = q
  generalize hr : z.natAbs % M = r
  have hd : (z.natAbs : Int) = (r : Int) + (M : Int) * (q : Int) := by
    have h2 := Nat.mod_add_div z.natAbs M
    rw [hq, hr] at h2
    rw [← Int.natCast_mul]
    omega
  have hrl : r < M := by rw [← hr]; exact Nat.mod_lt _ h
  by_cases hz : z < 0
  · by_cases hr0 : 0 < r
    · rw [if_pos ⟨hz, hr0⟩]
      have : z = ((M : Int) - (r : Int)) + (M : Int) * (-(q : Int) - 1) := by rw [Int.mul_sub, Int.mul_neg]; omega
      rw [this, Int.add_mul_emod_self_left, Int.emod_eq_of_lt (by omega) (by omega)]
    · rw [if_neg (fun h => hr0 h.2)]
      obtain rfl : r = 0 := by omega
      have : z = (M : Int) * (-(q : Int)) := by rw [Int.mul_neg]; omega
      rw [this, Int.mul_emod_right]
      rfl
  · rw [if_neg (fun h => hz h.1)]
    have : z = (r : Int) + (M : Int) * (q : Int) := by omega
    rw [this, Int.add_mul_emod_self_left, Int.emod_eq_of_lt (by omega) (by omega)]
def spZ (k n : Int) (l : List UInt8) (j : Nat) : Int := if k = 2 then n + (sprN l j : Int) else n
theorem drop_step (d : List Nat) (i M : Nat) (h : i < d.length) : (10 * (vd (d.drop (i + 1)) % M) + d[i]) % M = vd (d.drop i) % M := by
  rw [vd_drop d i h, Nat.add_comm d[i], Nat.add_mod (10 * _), Nat.mul_mod 10, Nat.mod_mod, ← Nat.mul_mod, ← Nat.add_mod]

set_option maxRecDepth 100000 in
set_option maxHeartbeats 4000000 in
theorem refspread_any (w : World) (k n : Int) (s : ByteArray) (M : Nat) (hM1 : 0 < M) (hM2 : M ≤ 1000000) (hn : fits n) (hk : k = 2 → n = 0) (hs : s.size ≤ 300) :
    Calls Tryd.prog 39 #[.agg #[.int .i64 k, .int .i64 n, .string s], .int .i64 (M : Int)] w fun e w' => e = .returned (.int .i64 (mdN (spT k n s) M)) ∧ Below w.heap.size w w' := by
  obtain ⟨l, hl⟩ : ∃ l, s.data.toList = l := ⟨_, rfl⟩
  have hsz := size_list s l hl
  have HG := Lib.hid (get_list s l hl)
  have hspz : spT k n s = spZ k n l s.size := by unfold spT spZ; rw [hl]
  have hz0 : spZ k n l 0 = n := by unfold spZ sprN; simp
  have hfz : ∀ j, j ≤ l.length → fits (spZ k n l j) := fun j hj => by
    have := sprN_le l j hj (by omega)
    unfold spZ fits at *
    split
    · rename_i h; have := hk h; omega
    · exact hn
  have HFZ := Lib.hid hfz
  have HNX := Lib.hid (sprN_next l)
  have HOF0 := Lib.hid (fun w => of_num w n hn)
  have HZ0 := Lib.hid hz0
  have HSPZ := Lib.hid hspz
  obtain ⟨out, hout⟩ : ∃ o, mdN (spT k n s) M = o := ⟨_, rfl⟩
  have HOUT := Lib.hid hout
  rw [hout]
  clear hfz hz0 hspz hout hl hn hk
  obtain ⟨b0, b1, b2, bf⟩ := blk3 (Blk.new w 27 [.int .i64 k, .int .i64 n, .string s])
  have hb1 : Below w.heap.size w (w.alloc (.cells #[.int .i64 k, .int .i64 n, .string s] 27)) := (Below.refl _ _).alloc (Nat.le_refl _) _
  have HB1 := Lib.hid hb1
  have HBX := Lib.hid (Blk.new w 27 [.int .i64 k, .int .i64 n, .string s])
  have hs1 : (w.alloc (.cells #[.int .i64 k, .int .i64 n, .string s] 27)).heap.size = w.heap.size + 1 := by simp
  have HS1 := Lib.hid hs1
  clear hb1 hs1
  go_enter Tryd.func39, Tryd.ntmps39
  go_wp2_with fail
  refine (HOF0.out _).mono ?_
  rintro e w2 ⟨v2, rfl, hn2, hb2⟩
  obtain ⟨s2, p2, n2, c2, rfl⟩ := hn2.parts
  have hs2 : w.heap.size + 1 ≤ w2.heap.size := by have := hb2.size; have := HS1.out; omega
  have HN3 : Hid (IsNum (w2.alloc (.cells #[.bool s2, .slice p2 n2 c2] 103)) (fun k => w.heap.size < k ∧ k ≠ w2.heap.size) (.agg #[.bool s2, .slice p2 n2 c2]) n) := IsNum.alloc' hn2 _ (fun k (h1 : _ < k) => by have := HS1.out; omega)
  have HX3 : Hid (Blk (w2.alloc (.cells #[.bool s2, .slice p2 n2 c2] 103)) w.heap.size 27 [.int .i64 k, .int .i64 n, .string s]) := (HBX.out.below hb2).alloc _
  have HV3 : Hid (Blk (w2.alloc (.cells #[.bool s2, .slice p2 n2 c2] 103)) w2.heap.size 103 [.bool s2, .slice p2 n2 c2]) := Blk.new w2 _ _
  have HB3 : Hid (Below w.heap.size w (w2.alloc (.cells #[.bool s2, .slice p2 n2 c2] 103))) := by
    have h1 := HB1.out.trans (hb2.mono HB1.out.size)
    exact h1.alloc h1.size _
  have HZ3 : Hid (w2.heap.size < (w2.alloc (.cells #[.bool s2, .slice p2 n2 c2] 103)).heap.size) := by show _ < _; simp
  clear hn2 hb2 b0 b1 b2 bf
  go_wp2
  generalize (w2.alloc (.cells #[.bool s2, .slice p2 n2 c2] 103)) = w3 at *
  generalize w2.heap.size = bn at *
  go_loopw [6] (fun i wr => ∃ (j : Nat) (sg : Bool) (q : Option Addr) (l0 c0 : Nat), i = .int .i64 j ∧ j ≤ s.size ∧ Blk wr bn 103 [.bool sg, .slice q l0 c0] ∧ IsNum wr (fun x => w.heap.size < x ∧ x ≠ bn) (.agg #[.bool sg, .slice q l0 c0]) (spZ k n l j) ∧ Blk wr w.heap.size 27 [.int .i64 k, .int .i64 n, .string s] ∧ Below w.heap.size w wr ∧ bn < wr.heap.size) (fun i _ => s.size - (intOf i).toNat)
  case atStart => exact ⟨0, s2, p2, n2, c2, rfl, Nat.zero_le _, HV3.out, by rw [HZ0.out]; exact HN3.out, HX3.out, HB3.out, HZ3.out⟩
  case round =>
    obtain ⟨j, sg, q, l0, c0, rfl, hj, hbn, hnum, hbx, hbw, hlt⟩ := hrel
    have HBN := Lib.hid hbn
    have HBXr := Lib.hid hbx
    have HNUM := Lib.hid hnum
    have HBW := Lib.hid hbw
    obtain ⟨x0, x1, x2, xf⟩ := blk3 hbx
    have y0 : wr.cell? ⟨bn, 0, none⟩ = some (.bool sg) := hbn.cell 0
    have y1 : wr.cell? ⟨bn, 1, none⟩ = some (.slice q l0 c0) := hbn.cell 1
    clear hbn hnum hbx hbw
    by_cases hbody : j < s.size ∧ k = 2
    · obtain ⟨hja, rfl⟩ := hbody
      have hjl : j < l.length := by omega
      obtain ⟨c, hc⟩ : ∃ c, (s[j]'hja).toNat = c := ⟨_, rfl⟩
      have hc2 : l[j].toNat = c := by rw [← HG.out j hja hjl]; exact hc
      have hcl : c < 256 := by rw [← hc]; exact (s[j]'hja).toNat_lt
      have hnx := HNX.out j hjl
      have hpl := prod_le j l[j] (by omega)
      rw [hc2] at hnx hpl
      have hci : ((s[j]'hja).toNat : Int) = (c : Int) := by rw [hc]
      have hcp : ((j : Int) + 1) * (c : Int) = (((j + 1) * c : Nat) : Int) := by rw [Int.natCast_mul]; rfl
      have hwr : IntKind.i64.wrap (c : Int) = (c : Int) := by rw [IntKind.wrap_i64]; omega
      generalize (j + 1) * c = pr at *
      have hsp : spZ 2 n l (j + 1) = spZ 2 n l j + (pr : Int) := by unfold spZ; rw [if_pos rfl, if_pos rfl, hnx]; omega
      have HSP := Lib.hid hsp
      have hfp : fits (pr : Int) := by unfold fits; omega
      have HOF := Lib.hid (fun w => of_num w (pr : Int) hfp)
      have h30a := fits_small (HFZ.out j (by omega))
      have h30b := fits_small hfp
      have H30 : Hid ((ld (spZ 2 n l j).natAbs).length ≤ 30 ∧ (ld (pr : Int).natAbs).length ≤ 30) := ⟨h30a, h30b⟩
      clear hc hc2 hnx hsp hfp h30a h30b
      have hxl : w.heap.size < wr.heap.size := by have := HBXr.out.lt; exact this
      have hag : Hid (∀ w2, Below wr.heap.size wr.drew w2 → Agree (fun q => q = w.heap.size ∨ q = bn) wr.drew w2) := fun w2 h q o hq => h.cell (by rcases hq with rfl | rfl <;> assumption)
      have j1 : (j : Int) < (s.size : Int) := by omega
      go_wp2_with fail
      refine wp_region_lit_plan [] [(1, 0), (2, 0), (3, 0), (5, 0), (0, 2), (4, 1), (6, 0), (7, 0), (8, 0), (9, 3), (10, 4), (11, 4)] (fun q => q = w.heap.size ∨ q = bn) (by kernel_rfl) (by kernel_rfl) (fun c a d v w h => by cases d <;> exact h) ?_
      go_wp2_with (first
        | (refine plan_pure (v := _) (by rfl) (by rfl) (by rfl) (by intro _; go_simp; with_reducible rfl) ?_; simp only [List.setIfInBounds_toArray, List.set_cons_zero, List.set_cons_succ]; try go_bits) | (refine plan_read (v := _) (by rfl) (by rfl) (by rfl) (by go_simp; with_reducible rfl) ?_; simp only [List.setIfInBounds_toArray, List.set_cons_zero, List.set_cons_succ]; try go_bits) | (refine plan_readB (v := _) (by rfl) (by rfl) (by rfl) (by intro _ hag; unfold Agree at hag; go_simp; with_reducible rfl) ?_; simp only [List.setIfInBounds_toArray, List.set_cons_zero, List.set_cons_succ]; try go_bits) | (refine plan_skip0 (by rfl) (by rfl) (by rfl) ?_; simp only [List.setIfInBounds_toArray, List.set_cons_zero, List.set_cons_succ]; try go_bits) | (refine plan_skip1 (by rfl) (by rfl) (by rfl) ?_; simp only [List.setIfInBounds_toArray, List.set_cons_zero, List.set_cons_succ]; try go_bits) | (refine plan_skip2 (by rfl) (by rfl) (by rfl) ?_; simp only [List.setIfInBounds_toArray, List.set_cons_zero, List.set_cons_succ]; try go_bits) | (refine plan_skip4 (by rfl) (by rfl) (by rfl) ?_; simp only [List.setIfInBounds_toArray, List.set_cons_zero, List.set_cons_succ]; try go_bits) | (refine plan_any (by rfl) ?_) | (refine plan_keep (by rfl) ?_) | (refine plan_nil ?_) | (with_reducible refine And.intro (by first | assumption | exact Agree.refl _ _ | exact agree_drew _ _ | exact agree_alloc _ (by intro k hk; subst hk; first | omega | (simp; omega))) ?_) | (unfold Act.put; simp only [List.setIfInBounds_toArray, List.set_cons_zero, List.set_cons_succ])
        | (go_at_call 75; refine (HOF.out _).mono ?_; clear HOF; rintro e w4 ⟨v4, rfl, hn4, hb4⟩; have hag4 := hag.out _ hb4; have HB4 := Lib.hid hb4; have HN4 := Lib.hid hn4; clear hb4 hn4)
        | (go_at_call 76; refine (plus_num _ _ _ _ _ ((IsNum.below (w := wr.drew) (IsNum.drew HNUM.out) HB4.out).weak fun _ _ => trivial) (HN4.out.weak fun _ _ => trivial) (by have := H30.out.1; omega) (by have := H30.out.2; omega)).mono ?_; rintro e w6 ⟨v6, rfl, hn6, hb6⟩; obtain ⟨s6, p6, n6, c6, rfl⟩ := hn6.parts; have hbn6 := Blk.below (Blk.below (w := wr.drew) HBN.out HB4.out) hb6; have u10 : w6.cell? ⟨bn, 0, none⟩ = some (.bool sg) := hbn6.cell 0; have u11 : w6.cell? ⟨bn, 1, none⟩ = some (.slice q l0 c0) := hbn6.cell 1; have uf : ∀ i, w6.frozen? ⟨bn, i, none⟩ = false := hbn6.frozen; have HBN6 := Lib.hid hbn6; have HBX6 := Lib.hid (Blk.below (Blk.below (w := wr.drew) HBXr.out HB4.out) hb6); have HN6 := Lib.hid hn6; have HB6 := Lib.hid hb6; clear hn6 hb6 hbn6))
      have ho7 : Only (fun k => k = bn) w6 ((w6.setCell ⟨bn, 0, none⟩ (.bool s6)).setCell ⟨bn, 1, none⟩ (.slice p6 n6 c6)) := ((Only.refl (fun k => k = bn) w6).setCell (p := ⟨bn, 0, none⟩) (fun _ => rfl) _).setCell (p := ⟨bn, 1, none⟩) (fun _ => rfl) _
      have h4 : wr.heap.size ≤ w4.heap.size := HB4.out.size
      have h6 := HB6.out.size
      have h7 := ho7.size
      have k4 := HBW.out.drew.trans (HB4.out.mono HBW.out.size)
      have k6 := k4.trans (HB6.out.mono k4.size)
      refine ⟨⟨j + 1, s6, p6, n6, c6, by go_num, by omega, (HBN6.out.set 0 _).set 1 _, ?_, HBX6.out.only ho7 (by omega), (k6.setCell (by show w.heap.size ≤ bn; omega) _).setCell (by show w.heap.size ≤ bn; omega) _, by omega⟩, by (simp [intOf]) <;> omega⟩
      rw [HSP.out]
      exact IsNum.weak (IsNum.only HN6.out ho7 (fun k (h1 : w4.heap.size ≤ k) h2 => by omega)) (fun k (h1 : w4.heap.size ≤ k) => by omega)
    · have hzz : spZ k n l j = spT k n s := by
        rw [HSPZ.out]
        by_cases hk2 : k = 2
        · have : j = s.size := by omega
          rw [this]
        · unfold spZ; rw [if_neg hk2, if_neg hk2]
      have hnum := HNUM.out
      have hl30 := fits_small (HFZ.out j (by omega))
      have hout := HOUT.out
      rw [hzz] at hnum hl30
      rw [mdN_nat _ M hM1] at hout
      obtain ⟨wo, rfl⟩ : ∃ wo : World, wo = wr := ⟨_, rfl⟩
      clear HNUM HFZ HZ0 HNX HSPZ hzz HOUT HOF0 HB1 HBX HS1
      generalize spT k n s = z at *
      obtain ⟨dv, hv, hsl⟩ := hnum
      cases hv
      obtain ⟨p', cap', he, hc1, hc2⟩ := hsl.form
      cases he
      have HSL := Lib.hid hsl
      have hD := ld_D10 z.natAbs
      rw [← vd_ld z.natAbs] at hout
      generalize hneg : decide (z < 0) = neg at *
      have hout2 : out = if neg = true ∧ 0 < vd (ld z.natAbs) % M then (M : Int) - (vd (ld z.natAbs) % M : Nat) else ((vd (ld z.natAbs) % M : Nat) : Int) := by
        rw [← hout, ← hneg]
        simp only [decide_eq_true_eq]
      clear hout hneg hsl
      have HOUT2 := Lib.hid hout2
      clear hout2
      generalize ld z.natAbs = d at *
      by_cases hjs : j < s.size
      · have hz2 : (k == 2) = false := by rw [beq_eq_false_iff_ne]; exact fun h => hbody ⟨hjs, h⟩
        have j1 : (j : Int) < (s.size : Int) := by omega
        clear hbody
        go_wp2
        go_loopw [7, 8] (fun left i wx => ∃ (t : Nat) (i0 : Int), i = .int .i64 i0 ∧ i0 = (t : Int) - 1 ∧ t ≤ d.length ∧ left = .int .i64 ((vd (d.drop t) % M : Nat) : Int) ∧ wx = wo) (fun _ i _ => (intOf i + 1).toNat)
        case atStart => exact ⟨d.length, _, rfl, rfl, Nat.le_refl _, by rw [List.drop_length]; simp [vd], rfl⟩
        case round =>
          obtain ⟨t, i0, rfl, hi0, ht, rfl, rfl⟩ := hrel
          have hlt2 : vd (d.drop t) % M < M := Nat.mod_lt _ hM1
          cases t with
          | zero =>
            obtain rfl : i0 = -1 := by omega
            rw [List.drop_zero] at *
            have ho := HOUT2.out
            have HOUT3 := Lib.hid ho
            clear hD hi0 ht ho
            generalize vd d % M = A at *
            cases neg
            · go_wp2
              go_ret
              exact ⟨by rw [HOUT3.out]; simp, HBW.out⟩
            · by_cases hA : 0 < A
              · have hA2 : (0 : Int) < (A : Int) := by omega
                go_wp2
                go_ret
                exact ⟨by rw [HOUT3.out]; simp [hA], HBW.out⟩
              · obtain rfl : A = 0 := by omega
                go_wp2
                go_ret
                exact ⟨by rw [HOUT3.out]; simp, HBW.out⟩
          | succ t =>
            obtain rfl : i0 = (t : Int) := by omega
            have hst := drop_step d t M (by omega)
            obtain ⟨g, off, cap2, hv2, hg2, hcell⟩ := sl_nat HSL.out (show t < d.length by omega)
            cases hv2
            have hb10 : d[t] < 10 := hD _ (List.getElem_mem _)
            have HR2 := Lib.hid (show vd (d.drop t) % M < M from Nat.mod_lt _ hM1)
            generalize hrr : vd (d.drop t) % M = r at *
            have HRR := Lib.hid hrr
            generalize vd (d.drop (t + 1)) % M = a at *
            generalize d[t] = b at *
            have hr2 := HR2.out
            have htm : (10 * (a : Int) + (b : Int)).tmod (M : Int) = (r : Int) := by
              have h1 : 10 * (a : Int) + (b : Int) = ((10 * a + b : Nat) : Int) := by omega
              rw [h1, ← hst, Int.ofNat_tmod]
            have hM3 : ((M : Int) == 0) = false := by rw [beq_eq_false_iff_ne]; omega
            have hM4 : (M : Int) ≠ 0 := by omega
            clear hst hrr hi0
            go_wp2
            refine ⟨⟨t, _, rfl, rfl, by omega, by rw [HRR.out], trivial⟩, by (simp [intOf]) <;> omega⟩
      · have j1 : ¬ (j : Int) < (s.size : Int) := by omega
        clear hbody
        go_wp2
        go_loopw [7, 8] (fun left i wx => ∃ (t : Nat) (i0 : Int), i = .int .i64 i0 ∧ i0 = (t : Int) - 1 ∧ t ≤ d.length ∧ left = .int .i64 ((vd (d.drop t) % M : Nat) : Int) ∧ wx = wo) (fun _ i _ => (intOf i + 1).toNat)
        case atStart => exact ⟨d.length, _, rfl, rfl, Nat.le_refl _, by rw [List.drop_length]; simp [vd], rfl⟩
        case round =>
          obtain ⟨t, i0, rfl, hi0, ht, rfl, rfl⟩ := hrel
          have hlt2 : vd (d.drop t) % M < M := Nat.mod_lt _ hM1
          cases t with
          | zero =>
            obtain rfl : i0 = -1 := by omega
            rw [List.drop_zero] at *
            have ho := HOUT2.out
            have HOUT3 := Lib.hid ho
            clear hD hi0 ht ho
            generalize vd d % M = A at *
            cases neg
            · go_wp2
              go_ret
              exact ⟨by rw [HOUT3.out]; simp, HBW.out⟩
            · by_cases hA : 0 < A
              · have hA2 : (0 : Int) < (A : Int) := by omega
                go_wp2
                go_ret
                exact ⟨by rw [HOUT3.out]; simp [hA], HBW.out⟩
              · obtain rfl : A = 0 := by omega
                go_wp2
                go_ret
                exact ⟨by rw [HOUT3.out]; simp, HBW.out⟩
          | succ t =>
            obtain rfl : i0 = (t : Int) := by omega
            have hst := drop_step d t M (by omega)
            obtain ⟨g, off, cap2, hv2, hg2, hcell⟩ := sl_nat HSL.out (show t < d.length by omega)
            cases hv2
            have hb10 : d[t] < 10 := hD _ (List.getElem_mem _)
            have HR2 := Lib.hid (show vd (d.drop t) % M < M from Nat.mod_lt _ hM1)
            generalize hrr : vd (d.drop t) % M = r at *
            have HRR := Lib.hid hrr
            generalize vd (d.drop (t + 1)) % M = a at *
            generalize d[t] = b at *
            have hr2 := HR2.out
            have htm : (10 * (a : Int) + (b : Int)).tmod (M : Int) = (r : Int) := by
              have h1 : 10 * (a : Int) + (b : Int) = ((10 * a + b : Nat) : Int) := by omega
              rw [h1, ← hst, Int.ofNat_tmod]
            have hM3 : ((M : Int) == 0) = false := by rw [beq_eq_false_iff_ne]; omega
            have hM4 : (M : Int) ≠ 0 := by omega
            clear hst hrr hi0
            go_wp2
            refine ⟨⟨t, _, rfl, rfl, by omega, by rw [HRR.out], trivial⟩, by (simp [intOf]) <;> omega⟩
end Go.Proofs.YtlgohkdckdnmhaaDoor
