/- The document's numbers: Minus, Small; told. -/
import Derived.Test.YtlgohkdckdnmhaaDoorBigE
namespace Go.Proofs.YtlgohkdckdnmhaaDoor
open Go.RowKit Go.Afx

theorem boxes2 (w : World) (A C : List Value) (t : TypeId) :
    Blk ((w.alloc (.cells A.toArray t)).alloc (.cells C.toArray t)) w.heap.size t A ∧
    Blk ((w.alloc (.cells A.toArray t)).alloc (.cells C.toArray t)) (w.heap.size + 1) t C ∧
    Below w.heap.size w ((w.alloc (.cells A.toArray t)).alloc (.cells C.toArray t)) ∧
    ((w.alloc (.cells A.toArray t)).alloc (.cells C.toArray t)).heap.size = w.heap.size + 2 := by
  have h1 := Blk.new w t A
  have h2 := Blk.new (w.alloc (.cells A.toArray t)) t C
  have e1 : (w.alloc (.cells A.toArray t)).heap.size = w.heap.size + 1 := by simp
  rw [e1] at h2
  refine ⟨h1.alloc _, h2, ?_, by simp⟩
  exact ((Below.refl _ _).alloc (Nat.le_refl _) _).alloc (by omega) _

theorem vd_drop_le (d : List Nat) (i : Nat) : vd (d.drop i) ≤ vd d := by
  rw [vd_split d i]
  have : vd (d.drop i) ≤ 10 ^ i * vd (d.drop i) := Nat.le_mul_of_pos_left _ (Nat.pow_pos (by omega))
  omega

theorem of_open (w : World) (n : Int) (hn : fits n) : Hid (Calls Tryd.prog 75 #[.int .i64 n] w fun e w' => ∃ p l c, e = .returned (.agg #[.bool (decide (n < 0)), .slice p l c]) ∧ (l = (ld n.natAbs).length ∧ Sl w' (fun k => w.heap.size < k) 1 (.slice p l c) l (nats (ld n.natAbs))) ∧ l ≤ 20 ∧ l ≤ c ∧ c ≤ 9223372036854775807 ∧ Below w.heap.size w w') :=
  (of_num w n hn).mono fun e w' ⟨v', he, ⟨dv, hv, hs⟩, hb⟩ => by
    subst he
    subst hv
    obtain ⟨p, c, rfl, h1, h2⟩ := hs.form
    have h3 := ld_len_le n.natAbs 20 (by unfold fits at hn; omega)
    exact ⟨p, _, c, rfl, ⟨rfl, hs⟩, h3, h1, h2, hb⟩

set_option maxRecDepth 100000 in
set_option maxHeartbeats 1000000 in
theorem small_num (w : World) (va : Value) (z : Int) (ha : IsNum w (fun _ => True) va z) (hla : (ld z.natAbs).length ≤ 10000) :
    Calls Tryd.prog 108 #[va] w fun e w' => e = .returned (.tuple #[.int .i64 (shortN z), .bool (decide (fits z))]) ∧ Below w.heap.size w w' := by
  obtain ⟨sa, x, pa, ca, rfl, hsa, hz1, hx, hc1, hc2⟩ := ha.open'
  rw [hx] at hla
  have HOF1 := Lib.hid (fun w => of_open w 9223372036854775807 (by unfold fits; omega))
  have HOF2 := Lib.hid (fun w => of_open w (-9223372036854775808) (by unfold fits; omega))
  have HLS : Hid (∀ (w' : World) (p : Option Addr) (l c m : Nat), Below w.heap.size w w' → (l = (ld m).length ∧ Sl w' (fun _ => True) 1 (.slice p l c) l (nats (ld m))) → l ≤ 20 → Calls Tryd.prog 106 #[.slice p l c, .slice pa (ld x).length ca] w' fun e w2 => e = .returned (.bool (decide (m < x))) ∧ Below w'.heap.size w' w2) := fun w' p l c m h h1 h2 => by
    obtain ⟨rfl, h1⟩ := h1
    exact less_any w' _ _ _ _ m x h1 (hsa.below h) (by omega) (by omega)
  have HSA := Lib.hid hsa
  have HX10 := Lib.hid (ld_D10 x)
  have HVX := Lib.hid (vd_ld x)
  have HWF := Lib.hid (fun i => vd_drop_le (ld x) i)
  clear ha hsa
  generalize hsn : shortN z = sn
  generalize hfz : decide (fits z) = fz
  have HSN := Lib.hid hsn
  have HFZ := Lib.hid hfz
  clear hsn hfz
  generalize hd : ld x = d at *
  have HDX := Lib.hid hd
  clear hd
  generalize hlen : d.length = la at *
  have HLEN := Lib.hid hlen
  clear hlen
  have hb0 := Blk.new w 103 [.bool sa, .slice pa la ca]
  have hbw : Below w.heap.size w (w.alloc (.cells #[.bool sa, .slice pa la ca] 103)) := (Below.refl _ _).alloc (Nat.le_refl _) _
  have hsz : (w.alloc (.cells #[.bool sa, .slice pa la ca] 103)).heap.size = w.heap.size + 1 := by simp
  cases sa
  · by_cases hxm : 9223372036854775807 < x
    · have DXM : decide (9223372036854775807 < x) = true := decide_eq_true hxm
      have hnf : ¬ fits z := by rw [hz1]; unfold fits sgn; simp; omega
      obtain rfl : sn = 0 := by rw [← HSN.out]; unfold shortN; rw [if_neg hnf]
      obtain rfl : fz = false := by rw [← HFZ.out]; exact decide_eq_false hnf
      clear hnf
      have HZ := Lib.hid hz1
      clear hz1 hx
      go_enter Tryd.func108, Tryd.ntmps108
      go_wp2_with fail
      generalize (w.alloc (.cells #[.bool false, .slice pa la ca] 103)) = w1 at *
      have HB0 := Lib.hid hb0
      have HBW := Lib.hid hbw
      have HSZ := Lib.hid hsz
      clear hb0 hbw hsz
      refine (HOF1.out w1).out.mono ?_
      rintro e w2 ⟨p1, l1, c1, rfl, hs1, hl1, hc11, hc12, hb2⟩
      have HS1 := Lib.hid hs1
      have HB2 := Lib.hid hb2
      have hB02 : Blk w2 w.heap.size 103 [.bool false, .slice pa la ca] := HB0.out.below hb2
      have hlt2 : w.heap.size < w2.heap.size := by have := hb2.size; have := HSZ.out; omega
      have e2 : decide ((9223372036854775807 : Int) < 0) = false := by decide
      rw [e2]
      have hB03 : Blk (w2.alloc (.cells #[.bool false, .slice p1 l1 c1] 103)) w.heap.size 103 [.bool false, .slice pa la ca] := hB02.alloc _
      have hB13 : Blk (w2.alloc (.cells #[.bool false, .slice p1 l1 c1] 103)) w2.heap.size 103 [.bool false, .slice p1 l1 c1] := Blk.new w2 _ _
      have hb3 : Below w2.heap.size w2 (w2.alloc (.cells #[.bool false, .slice p1 l1 c1] 103)) := (Below.refl _ _).alloc (Nat.le_refl _) _
      have hsz3 : (w2.alloc (.cells #[.bool false, .slice p1 l1 c1] 103)).heap.size = w2.heap.size + 1 := by simp
      have al : Hid ((w2.alloc (.cells #[.bool false, .slice p1 l1 c1] 103)) = (w2.alloc (.cells #[.bool false, .slice p1 l1 c1] 103))) := rfl
      generalize hw3 : (w2.alloc (.cells #[.bool false, .slice p1 l1 c1] 103)) = w3 at hB03 hB13 hb3 hsz3
      clear al
      have c00 : w3.cell? ⟨w.heap.size, 0, none⟩ = some (.bool false) := hB03.cell 0
      have c01 : w3.cell? ⟨w.heap.size, 1, none⟩ = some (.slice pa la ca) := hB03.cell 1
      have c10 : w3.cell? ⟨w2.heap.size, 0, none⟩ = some (.bool false) := hB13.cell 0
      have c11 : w3.cell? ⟨w2.heap.size, 1, none⟩ = some (.slice p1 l1 c1) := hB13.cell 1
      have HB03 := Lib.hid hB03
      have HB13 := Lib.hid hB13
      have HB3 := Lib.hid hb3
      have HSZ3 := Lib.hid hsz3
      clear hs1 hb2 e2 hB02 hB03 hB13 hb3 hsz3
      have HW3 : Hid (Below w.heap.size w w3) := by
        have h1 := HBW.out.trans (HB2.out.mono (by have := HSZ.out; omega))
        exact h1.trans (HB3.out.mono h1.size)
      have HLS3 := Lib.hid (HLS.out w3 p1 l1 c1 9223372036854775807 HW3.out ⟨HS1.out.1, Sl.weak (HS1.out.2.below HB3.out) (fun _ _ => trivial)⟩ hl1)
      have HBB := HB03
      have HWW := HW3
      rw [DXM] at HLS3
      go_wp2_with (first
        | rw [hw3]
        | (go_at_call 106; refine HLS3.out.mono ?_; rintro e wl ⟨rfl, hbl⟩;
           have HBL := Lib.hid (HBB.out.below hbl); have HWL := Lib.hid (HWW.out.trans (hbl.mono HWW.out.size)); clear hbl;
           have cl0 : wl.cell? ⟨w.heap.size, 0, none⟩ = some (.bool false) := HBL.out.cell 0;
           have cl1 : wl.cell? ⟨w.heap.size, 1, none⟩ = some (.slice pa la ca) := HBL.out.cell 1))
      go_ret2
      exact ⟨rfl, HWL.out⟩
    · have DXM : decide (9223372036854775807 < x) = false := decide_eq_false hxm
      have hxf : fits z := by rw [hz1]; unfold fits sgn; simp; omega
      obtain rfl : sn = z := by rw [← HSN.out]; unfold shortN; rw [if_pos hxf]
      obtain rfl : fz = true := by rw [← HFZ.out]; exact decide_eq_true hxf
      clear hxf
      have HZ := Lib.hid hz1
      clear hz1 hx
      go_enter Tryd.func108, Tryd.ntmps108
      go_wp2_with fail
      generalize (w.alloc (.cells #[.bool false, .slice pa la ca] 103)) = w1 at *
      have HB0 := Lib.hid hb0
      have HBW := Lib.hid hbw
      have HSZ := Lib.hid hsz
      clear hb0 hbw hsz
      refine (HOF1.out w1).out.mono ?_
      rintro e w2 ⟨p1, l1, c1, rfl, hs1, hl1, hc11, hc12, hb2⟩
      have HS1 := Lib.hid hs1
      have HB2 := Lib.hid hb2
      have hB02 : Blk w2 w.heap.size 103 [.bool false, .slice pa la ca] := HB0.out.below hb2
      have hlt2 : w.heap.size < w2.heap.size := by have := hb2.size; have := HSZ.out; omega
      have e2 : decide ((9223372036854775807 : Int) < 0) = false := by decide
      rw [e2]
      have hB03 : Blk (w2.alloc (.cells #[.bool false, .slice p1 l1 c1] 103)) w.heap.size 103 [.bool false, .slice pa la ca] := hB02.alloc _
      have hB13 : Blk (w2.alloc (.cells #[.bool false, .slice p1 l1 c1] 103)) w2.heap.size 103 [.bool false, .slice p1 l1 c1] := Blk.new w2 _ _
      have hb3 : Below w2.heap.size w2 (w2.alloc (.cells #[.bool false, .slice p1 l1 c1] 103)) := (Below.refl _ _).alloc (Nat.le_refl _) _
      have hsz3 : (w2.alloc (.cells #[.bool false, .slice p1 l1 c1] 103)).heap.size = w2.heap.size + 1 := by simp
      have al : Hid ((w2.alloc (.cells #[.bool false, .slice p1 l1 c1] 103)) = (w2.alloc (.cells #[.bool false, .slice p1 l1 c1] 103))) := rfl
      generalize hw3 : (w2.alloc (.cells #[.bool false, .slice p1 l1 c1] 103)) = w3 at hB03 hB13 hb3 hsz3
      clear al
      have c00 : w3.cell? ⟨w.heap.size, 0, none⟩ = some (.bool false) := hB03.cell 0
      have c01 : w3.cell? ⟨w.heap.size, 1, none⟩ = some (.slice pa la ca) := hB03.cell 1
      have c10 : w3.cell? ⟨w2.heap.size, 0, none⟩ = some (.bool false) := hB13.cell 0
      have c11 : w3.cell? ⟨w2.heap.size, 1, none⟩ = some (.slice p1 l1 c1) := hB13.cell 1
      have HB03 := Lib.hid hB03
      have HB13 := Lib.hid hB13
      have HB3 := Lib.hid hb3
      have HSZ3 := Lib.hid hsz3
      clear hs1 hb2 e2 hB02 hB03 hB13 hb3 hsz3
      have HW3 : Hid (Below w.heap.size w w3) := by
        have h1 := HBW.out.trans (HB2.out.mono (by have := HSZ.out; omega))
        exact h1.trans (HB3.out.mono h1.size)
      have HLS3 := Lib.hid (HLS.out w3 p1 l1 c1 9223372036854775807 HW3.out ⟨HS1.out.1, Sl.weak (HS1.out.2.below HB3.out) (fun _ _ => trivial)⟩ hl1)
      have HBB := HB03
      have HWW := HW3
      rw [DXM] at HLS3
      go_wp2_with (first
        | rw [hw3]
        | (go_at_call 106; refine HLS3.out.mono ?_; rintro e wl ⟨rfl, hbl⟩;
           have HBL := Lib.hid (HBB.out.below hbl); have HWL := Lib.hid (HWW.out.trans (hbl.mono HWW.out.size)); clear hbl;
           have cl0 : wl.cell? ⟨w.heap.size, 0, none⟩ = some (.bool false) := HBL.out.cell 0;
           have cl1 : wl.cell? ⟨w.heap.size, 1, none⟩ = some (.slice pa la ca) := HBL.out.cell 1))
      have HSL := Lib.hid (HSA.out.below HWL.out)
      have HX64 : Hid (x ≤ 9223372036854775808) := by show _ ≤ _; omega
      go_loopw [5, 6] (fun u i wr => ∃ j : Nat, i = .int .i64 ((j : Int) - 1) ∧ u = .int .u64 (vd (d.drop j)) ∧ j ≤ la ∧ wl = wr) (fun _ i _ => (intOf i + 1).toNat)
      case atStart => exact ⟨la, rfl, by rw [List.drop_of_length_le (by rw [HLEN.out]; exact Nat.le_refl _)]; rfl, Nat.le_refl _, rfl⟩
      case round =>
        obtain ⟨j, rfl, rfl, hj, rfl⟩ := hrel
        rcases Nat.eq_zero_or_pos j with rfl | hpos
        · have e5 : vd (d.drop 0) = x := by rw [List.drop_zero]; exact HVX.out
          rw [e5]
          clear e5
          have hzx : sn = x := HZ.out
          subst hzx
          have hx63 : (x : Int) ≤ 9223372036854775807 := by omega
          go_wp2
          go_ret2
          exact ⟨rfl, HWL.out⟩
        · obtain ⟨i, rfl⟩ : ∃ i, j = i + 1 := ⟨j - 1, by omega⟩
          have hia : i < d.length := by rw [HLEN.out]; omega
          have hsl := HSL.out
          rw [← HLEN.out] at hsl
          obtain ⟨g, off, cap', hv1, hg, hca⟩ := sl_nat hsl hia
          cases hv1
          have hdr := vd_drop d i hia
          have hle := HWF.out i
          rw [HVX.out] at hle
          have hdg : d[i] < 10 := HX10.out _ (List.getElem_mem hia)
          have HI := Lib.hid hia
          rw [hdr] at hle
          have HDR := Lib.hid hdr
          have hx64 := HX64.out
          clear hsl hdr
          generalize vd (d.drop (i + 1)) = u at *
          generalize d[i] = q at *
          have hu1 : 10 * (u : Int) + q < 18446744073709551616 := by omega
          have e9 : (10 : Int) * u + q = ((q + 10 * u : Nat) : Int) := by omega
          have hu2 : (u : Int) < 1844674407370955161 := by omega
          clear hle hx64 hia
          go_wp2
          refine ⟨⟨i, by go_num, by rw [HDR.out]; congr 1, by omega, trivial⟩, ?_⟩
          (simp [intOf]) <;> omega
  · by_cases hxm : 9223372036854775808 < x
    · have DXM : decide (9223372036854775808 < x) = true := decide_eq_true hxm
      have hnf : ¬ fits z := by rw [hz1]; unfold fits sgn; simp; omega
      obtain rfl : sn = 0 := by rw [← HSN.out]; unfold shortN; rw [if_neg hnf]
      obtain rfl : fz = false := by rw [← HFZ.out]; exact decide_eq_false hnf
      clear hnf
      have HZ := Lib.hid hz1
      clear hz1 hx
      go_enter Tryd.func108, Tryd.ntmps108
      go_wp2_with fail
      generalize (w.alloc (.cells #[.bool true, .slice pa la ca] 103)) = w1 at *
      have HB0 := Lib.hid hb0
      have HBW := Lib.hid hbw
      have HSZ := Lib.hid hsz
      clear hb0 hbw hsz
      refine (HOF1.out w1).out.mono ?_
      rintro e w2 ⟨p1, l1, c1, rfl, hs1, hl1, hc11, hc12, hb2⟩
      have HS1 := Lib.hid hs1
      have HB2 := Lib.hid hb2
      have hB02 : Blk w2 w.heap.size 103 [.bool true, .slice pa la ca] := HB0.out.below hb2
      have hlt2 : w.heap.size < w2.heap.size := by have := hb2.size; have := HSZ.out; omega
      have e2 : decide ((9223372036854775807 : Int) < 0) = false := by decide
      rw [e2]
      have hB03 : Blk (w2.alloc (.cells #[.bool false, .slice p1 l1 c1] 103)) w.heap.size 103 [.bool true, .slice pa la ca] := hB02.alloc _
      have hB13 : Blk (w2.alloc (.cells #[.bool false, .slice p1 l1 c1] 103)) w2.heap.size 103 [.bool false, .slice p1 l1 c1] := Blk.new w2 _ _
      have hb3 : Below w2.heap.size w2 (w2.alloc (.cells #[.bool false, .slice p1 l1 c1] 103)) := (Below.refl _ _).alloc (Nat.le_refl _) _
      have hsz3 : (w2.alloc (.cells #[.bool false, .slice p1 l1 c1] 103)).heap.size = w2.heap.size + 1 := by simp
      have al : Hid ((w2.alloc (.cells #[.bool false, .slice p1 l1 c1] 103)) = (w2.alloc (.cells #[.bool false, .slice p1 l1 c1] 103))) := rfl
      generalize hw3 : (w2.alloc (.cells #[.bool false, .slice p1 l1 c1] 103)) = w3 at hB03 hB13 hb3 hsz3
      clear al
      have c00 : w3.cell? ⟨w.heap.size, 0, none⟩ = some (.bool true) := hB03.cell 0
      have c01 : w3.cell? ⟨w.heap.size, 1, none⟩ = some (.slice pa la ca) := hB03.cell 1
      have c10 : w3.cell? ⟨w2.heap.size, 0, none⟩ = some (.bool false) := hB13.cell 0
      have c11 : w3.cell? ⟨w2.heap.size, 1, none⟩ = some (.slice p1 l1 c1) := hB13.cell 1
      have HB03 := Lib.hid hB03
      have HB13 := Lib.hid hB13
      have HB3 := Lib.hid hb3
      have HSZ3 := Lib.hid hsz3
      clear hs1 hb2 e2 hB02 hB03 hB13 hb3 hsz3
      have HW3 : Hid (Below w.heap.size w w3) := by
        have h1 := HBW.out.trans (HB2.out.mono (by have := HSZ.out; omega))
        exact h1.trans (HB3.out.mono h1.size)
      have HLS3 := Lib.hid (fun (w' : World) (p : Option Addr) (l c : Nat) => HLS.out w' p l c 9223372036854775808)
      rw [DXM] at HLS3
      go_wp2_with (first
        | rw [hw3])
      refine (HOF2.out w3).out.mono ?_
      rintro e w4 ⟨p4, l4, c4, rfl, hs4, hl4, hc41, hc42, hb4⟩
      have HS4 := Lib.hid hs4
      have HB4 := Lib.hid hb4
      clear hs4
      have HB14 := Lib.hid (HB13.out.below hb4)
      have HB04 := Lib.hid (HB03.out.below hb4)
      have hf4 : ∀ i, w4.frozen? ⟨w2.heap.size, i, none⟩ = false := HB14.out.frozen
      have k10 : w4.cell? ⟨w2.heap.size, 0, none⟩ = some (.bool false) := HB14.out.cell 0
      have k11 : w4.cell? ⟨w2.heap.size, 1, none⟩ = some (.slice p1 l1 c1) := HB14.out.cell 1
      have k00 : w4.cell? ⟨w.heap.size, 0, none⟩ = some (.bool true) := HB04.out.cell 0
      have k01 : w4.cell? ⟨w.heap.size, 1, none⟩ = some (.slice pa la ca) := HB04.out.cell 1
      clear hb4
      have e4 : decide ((-9223372036854775808 : Int) < 0) = true := by decide
      rw [e4]
      clear e4
      have HW4 := Lib.hid (HW3.out.trans (HB4.out.mono HW3.out.size))
      have hle2 : w.heap.size ≤ w2.heap.size := Nat.le_of_lt hlt2
      have HWW : Hid (Below w.heap.size w ((w4.setCell ⟨w2.heap.size, 0, none⟩ (.bool true)).setCell ⟨w2.heap.size, 1, none⟩ (.slice p4 l4 c4))) := (HW4.out.setCell hle2 _).setCell hle2 _
      have HBB : Hid (Blk ((w4.setCell ⟨w2.heap.size, 0, none⟩ (.bool true)).setCell ⟨w2.heap.size, 1, none⟩ (.slice p4 l4 c4)) w.heap.size 103 [.bool true, .slice pa la ca]) := (HB04.out.setOther (Nat.ne_of_lt hlt2) _).setOther (Nat.ne_of_lt hlt2) _
      have HS5 := Lib.hid (HS4.out.2.only (((Only.refl (fun k => k = w2.heap.size) w4).setCell (p := ⟨w2.heap.size, 0, none⟩) (fun _ => rfl) (.bool true)).setCell (p := ⟨w2.heap.size, 1, none⟩) (fun _ => rfl) (.slice p4 l4 c4)) (fun k (h1 : w3.heap.size < k) h2 => by have := HSZ3.out; omega))
      have HLS5 := Lib.hid (HLS3.out _ p4 l4 c4 HWW.out ⟨HS4.out.1, Sl.weak HS5.out (fun _ _ => trivial)⟩ hl4)
      go_wp2_with (first
        | (go_at_call 106; refine HLS5.out.mono ?_; rintro e wl ⟨rfl, hbl⟩;
           have HBL := Lib.hid (HBB.out.below hbl); have HWL := Lib.hid (HWW.out.trans (hbl.mono HWW.out.size)); clear hbl;
           have cl0 : wl.cell? ⟨w.heap.size, 0, none⟩ = some (.bool true) := HBL.out.cell 0;
           have cl1 : wl.cell? ⟨w.heap.size, 1, none⟩ = some (.slice pa la ca) := HBL.out.cell 1))
      go_ret2
      exact ⟨rfl, HWL.out⟩
    · have DXM : decide (9223372036854775808 < x) = false := decide_eq_false hxm
      have hxf : fits z := by rw [hz1]; unfold fits sgn; simp; omega
      obtain rfl : sn = z := by rw [← HSN.out]; unfold shortN; rw [if_pos hxf]
      obtain rfl : fz = true := by rw [← HFZ.out]; exact decide_eq_true hxf
      clear hxf
      have HZ := Lib.hid hz1
      clear hz1 hx
      go_enter Tryd.func108, Tryd.ntmps108
      go_wp2_with fail
      generalize (w.alloc (.cells #[.bool true, .slice pa la ca] 103)) = w1 at *
      have HB0 := Lib.hid hb0
      have HBW := Lib.hid hbw
      have HSZ := Lib.hid hsz
      clear hb0 hbw hsz
      refine (HOF1.out w1).out.mono ?_
      rintro e w2 ⟨p1, l1, c1, rfl, hs1, hl1, hc11, hc12, hb2⟩
      have HS1 := Lib.hid hs1
      have HB2 := Lib.hid hb2
      have hB02 : Blk w2 w.heap.size 103 [.bool true, .slice pa la ca] := HB0.out.below hb2
      have hlt2 : w.heap.size < w2.heap.size := by have := hb2.size; have := HSZ.out; omega
      have e2 : decide ((9223372036854775807 : Int) < 0) = false := by decide
      rw [e2]
      have hB03 : Blk (w2.alloc (.cells #[.bool false, .slice p1 l1 c1] 103)) w.heap.size 103 [.bool true, .slice pa la ca] := hB02.alloc _
      have hB13 : Blk (w2.alloc (.cells #[.bool false, .slice p1 l1 c1] 103)) w2.heap.size 103 [.bool false, .slice p1 l1 c1] := Blk.new w2 _ _
      have hb3 : Below w2.heap.size w2 (w2.alloc (.cells #[.bool false, .slice p1 l1 c1] 103)) := (Below.refl _ _).alloc (Nat.le_refl _) _
      have hsz3 : (w2.alloc (.cells #[.bool false, .slice p1 l1 c1] 103)).heap.size = w2.heap.size + 1 := by simp
      have al : Hid ((w2.alloc (.cells #[.bool false, .slice p1 l1 c1] 103)) = (w2.alloc (.cells #[.bool false, .slice p1 l1 c1] 103))) := rfl
      generalize hw3 : (w2.alloc (.cells #[.bool false, .slice p1 l1 c1] 103)) = w3 at hB03 hB13 hb3 hsz3
      clear al
      have c00 : w3.cell? ⟨w.heap.size, 0, none⟩ = some (.bool true) := hB03.cell 0
      have c01 : w3.cell? ⟨w.heap.size, 1, none⟩ = some (.slice pa la ca) := hB03.cell 1
      have c10 : w3.cell? ⟨w2.heap.size, 0, none⟩ = some (.bool false) := hB13.cell 0
      have c11 : w3.cell? ⟨w2.heap.size, 1, none⟩ = some (.slice p1 l1 c1) := hB13.cell 1
      have HB03 := Lib.hid hB03
      have HB13 := Lib.hid hB13
      have HB3 := Lib.hid hb3
      have HSZ3 := Lib.hid hsz3
      clear hs1 hb2 e2 hB02 hB03 hB13 hb3 hsz3
      have HW3 : Hid (Below w.heap.size w w3) := by
        have h1 := HBW.out.trans (HB2.out.mono (by have := HSZ.out; omega))
        exact h1.trans (HB3.out.mono h1.size)
      have HLS3 := Lib.hid (fun (w' : World) (p : Option Addr) (l c : Nat) => HLS.out w' p l c 9223372036854775808)
      rw [DXM] at HLS3
      go_wp2_with (first
        | rw [hw3])
      refine (HOF2.out w3).out.mono ?_
      rintro e w4 ⟨p4, l4, c4, rfl, hs4, hl4, hc41, hc42, hb4⟩
      have HS4 := Lib.hid hs4
      have HB4 := Lib.hid hb4
      clear hs4
      have HB14 := Lib.hid (HB13.out.below hb4)
      have HB04 := Lib.hid (HB03.out.below hb4)
      have hf4 : ∀ i, w4.frozen? ⟨w2.heap.size, i, none⟩ = false := HB14.out.frozen
      have k10 : w4.cell? ⟨w2.heap.size, 0, none⟩ = some (.bool false) := HB14.out.cell 0
      have k11 : w4.cell? ⟨w2.heap.size, 1, none⟩ = some (.slice p1 l1 c1) := HB14.out.cell 1
      have k00 : w4.cell? ⟨w.heap.size, 0, none⟩ = some (.bool true) := HB04.out.cell 0
      have k01 : w4.cell? ⟨w.heap.size, 1, none⟩ = some (.slice pa la ca) := HB04.out.cell 1
      clear hb4
      have e4 : decide ((-9223372036854775808 : Int) < 0) = true := by decide
      rw [e4]
      clear e4
      have HW4 := Lib.hid (HW3.out.trans (HB4.out.mono HW3.out.size))
      have hle2 : w.heap.size ≤ w2.heap.size := Nat.le_of_lt hlt2
      have HWW : Hid (Below w.heap.size w ((w4.setCell ⟨w2.heap.size, 0, none⟩ (.bool true)).setCell ⟨w2.heap.size, 1, none⟩ (.slice p4 l4 c4))) := (HW4.out.setCell hle2 _).setCell hle2 _
      have HBB : Hid (Blk ((w4.setCell ⟨w2.heap.size, 0, none⟩ (.bool true)).setCell ⟨w2.heap.size, 1, none⟩ (.slice p4 l4 c4)) w.heap.size 103 [.bool true, .slice pa la ca]) := (HB04.out.setOther (Nat.ne_of_lt hlt2) _).setOther (Nat.ne_of_lt hlt2) _
      have HS5 := Lib.hid (HS4.out.2.only (((Only.refl (fun k => k = w2.heap.size) w4).setCell (p := ⟨w2.heap.size, 0, none⟩) (fun _ => rfl) (.bool true)).setCell (p := ⟨w2.heap.size, 1, none⟩) (fun _ => rfl) (.slice p4 l4 c4)) (fun k (h1 : w3.heap.size < k) h2 => by have := HSZ3.out; omega))
      have HLS5 := Lib.hid (HLS3.out _ p4 l4 c4 HWW.out ⟨HS4.out.1, Sl.weak HS5.out (fun _ _ => trivial)⟩ hl4)
      go_wp2_with (first
        | (go_at_call 106; refine HLS5.out.mono ?_; rintro e wl ⟨rfl, hbl⟩;
           have HBL := Lib.hid (HBB.out.below hbl); have HWL := Lib.hid (HWW.out.trans (hbl.mono HWW.out.size)); clear hbl;
           have cl0 : wl.cell? ⟨w.heap.size, 0, none⟩ = some (.bool true) := HBL.out.cell 0;
           have cl1 : wl.cell? ⟨w.heap.size, 1, none⟩ = some (.slice pa la ca) := HBL.out.cell 1))
      have HSL := Lib.hid (HSA.out.below HWL.out)
      have HX64 : Hid (x ≤ 9223372036854775808) := by show _ ≤ _; omega
      go_loopw [5, 6] (fun u i wr => ∃ j : Nat, i = .int .i64 ((j : Int) - 1) ∧ u = .int .u64 (vd (d.drop j)) ∧ j ≤ la ∧ wl = wr) (fun _ i _ => (intOf i + 1).toNat)
      case atStart => exact ⟨la, rfl, by rw [List.drop_of_length_le (by rw [HLEN.out]; exact Nat.le_refl _)]; rfl, Nat.le_refl _, rfl⟩
      case round =>
        obtain ⟨j, rfl, rfl, hj, rfl⟩ := hrel
        rcases Nat.eq_zero_or_pos j with rfl | hpos
        · have e5 : vd (d.drop 0) = x := by rw [List.drop_zero]; exact HVX.out
          rw [e5]
          clear e5
          have hzx : sn = -x := HZ.out
          have hx63 : (x : Int) ≤ 9223372036854775808 := by omega
          have e7 : wrap64 (IntKind.u64.wrap (-(x : Int))) = sn := by rw [hzx]; unfold wrap64; rw [IntKind.wrap_u64]; omega
          go_wp2
          rw [e7]
          go_ret2
          exact ⟨rfl, HWL.out⟩
        · obtain ⟨i, rfl⟩ : ∃ i, j = i + 1 := ⟨j - 1, by omega⟩
          have hia : i < d.length := by rw [HLEN.out]; omega
          have hsl := HSL.out
          rw [← HLEN.out] at hsl
          obtain ⟨g, off, cap', hv1, hg, hca⟩ := sl_nat hsl hia
          cases hv1
          have hdr := vd_drop d i hia
          have hle := HWF.out i
          rw [HVX.out] at hle
          have hdg : d[i] < 10 := HX10.out _ (List.getElem_mem hia)
          have HI := Lib.hid hia
          rw [hdr] at hle
          have HDR := Lib.hid hdr
          have hx64 := HX64.out
          clear hsl hdr
          generalize vd (d.drop (i + 1)) = u at *
          generalize d[i] = q at *
          have hu1 : 10 * (u : Int) + q < 18446744073709551616 := by omega
          have e9 : (10 : Int) * u + q = ((q + 10 * u : Nat) : Int) := by omega
          have hu2 : (u : Int) < 1844674407370955161 := by omega
          clear hle hx64 hia
          go_wp2
          refine ⟨⟨i, by go_num, by rw [HDR.out]; congr 1, by omega, trivial⟩, ?_⟩
          (simp [intOf]) <;> omega
end Go.Proofs.YtlgohkdckdnmhaaDoor
