/- No two alike: schema.unlike, of columns, of indexes, of places. -/
import Derived.Test.YtlgohkdckdnmhaaDoorSchB
namespace Go.Proofs.YtlgohkdckdnmhaaDoor
open Go.RowKit Go.Afx

set_option maxRecDepth 100000 in
set_option maxHeartbeats 1000000 in
theorem unlike_col (w : World) (B : Nat → Prop) (v : Value) (l : List ColV) (hl : Sl w B 2 v l.length (colCells l)) :
    Calls Tryd.prog 114 #[v, .func (.func 115) #[] #[]] w fun e w' => e = .returned (.bool (unlikeB sameCol l)) ∧ Below w.heap.size w w' := by
  obtain ⟨p, cap, rfl, hc1, hc2⟩ := hl.form
  have HL := Lib.hid hl
  clear hl
  have HU : Hid (unlikeB sameCol l = unlikeB sameCol l) := rfl
  clear HU
  go_enter Tryd.func114, Tryd.ntmps114
  go_wp2
  go_loopw [11] (fun i wr => ∃ k : Nat, i = .int .i64 k ∧ k ≤ l.length ∧ unlikeGo sameCol (l.take k) (l.drop k) = unlikeB sameCol l ∧ Below w.heap.size w wr) (fun i _ => l.length - (intOf i).toNat)
  case atStart => exact ⟨0, rfl, Nat.zero_le _, rfl, Below.refl _ _⟩
  case round =>
    obtain ⟨k, rfl, hk, hu, hb⟩ := hrel
    obtain ⟨wo, rfl⟩ : ∃ wo : World, wo = wr := ⟨_, rfl⟩
    have HB := Lib.hid hb
    have HU := Lib.hid hu
    clear hu
    by_cases hka : k < l.length
    · have hstep := unlike_step sameCol l k hka
      have HT := Lib.hid hstep.1
      have HFF := Lib.hid hstep.2
      clear hstep
      obtain ⟨g, off, cap1, hv, hg, e0, e1⟩ := sl_col (HL.out.below hb) hka
      cases hv
      have hki : (k : Int) ≤ l.length := by omega
      have hkc : (k : Int) ≤ cap := by omega
      clear hb
      generalize l[k] = a at *
      have hal : Below wo.heap.size wo (wo.alloc (.cells #[.string a.name, .int .i64 a.kind] 66)) := (Below.refl _ _).alloc (Nat.le_refl _) _
      have HBK : Hid (Blk (wo.alloc (.cells #[.string a.name, .int .i64 a.kind] 66)) wo.heap.size 66 [.string a.name, .int .i64 a.kind]) := Blk.new wo _ _
      have HB2 := Lib.hid (HB.out.trans (hal.mono HB.out.size))
      clear hal
      go_wp2
      generalize hw1 : wo.alloc (.cells #[.string a.name, .int .i64 a.kind] 66) = w1 at *
      clear hw1 e0 e1
      go_loopw [20] (fun i wr => ∃ j : Nat, i = .int .i64 j ∧ j ≤ k ∧ (l.take j).all (fun b => !sameCol a b) = true ∧ Below w1.heap.size w1 wr) (fun i _ => k - (intOf i).toNat)
      case atStart => exact ⟨0, rfl, Nat.zero_le _, rfl, Below.refl _ _⟩
      case round =>
        obtain ⟨j, rfl, hj, hall, hbq⟩ := hrel
        have HBQ := Lib.hid hbq
        have HALL := Lib.hid hall
        clear hall
        have hbw := HB2.out.trans (hbq.mono HB2.out.size)
        have HBW := Lib.hid hbw
        by_cases hjk : j < k
        · have hjl : j < l.length := by omega
          have HNX := Lib.hid (all_next (fun b => !sameCol a b) l j hjl HALL.out)
          have HNF := Lib.hid (all_false (fun b => !sameCol a b) l j k hjk hjl)
          obtain ⟨g2, off2, cap2, hv2, hg2, f0, f1⟩ := sl_col (HL.out.below hbw) hjl
          cases hv2
          have hbk := HBK.out.below hbq
          have b0 : wr.cell? ⟨wo.heap.size, 0, none⟩ = some (.string a.name) := hbk.cell 0
          have b1 : wr.cell? ⟨wo.heap.size, 1, none⟩ = some (.int .i64 a.kind) := hbk.cell 1
          clear hbw hbq hbk
          generalize l[j] = b at *
          have HS := Lib.hid (fun w => col_same w a b)
          cases hs : sameCol a b
          all_goals
            rw [hs] at HS
            have ha5 : Below wr.heap.size wr (wr.alloc (.cells #[.string b.name, .int .i64 b.kind] 66)) := (Below.refl _ _).alloc (Nat.le_refl _) _
            have HA5 := Lib.hid ha5
            have hz5 : wo.heap.size < wr.heap.size := by have := HBQ.out.size; have := HBK.out.lt; omega
            clear ha5
          · have HF := Lib.hid (HNX.out (by rw [hs]; rfl))
            clear hs HNX HNF
            go_wp2_with (go_at_call 115; refine (HS.out _).mono ?_; rintro e w5 ⟨rfl, hb5⟩; have HB5 := Lib.hid hb5; clear hb5)
            go_roundw
            case rel => exact ⟨j + 1, by go_num, by omega, HF.out, HBQ.out.trans ((HA5.out.trans (HB5.out.mono (by simp))).mono HBQ.out.size)⟩
            case measure => (simp [intOf]) <;> omega
          · have HF := Lib.hid (HNF.out (by rw [hs]; rfl))
            clear hs HNX HNF
            go_wp2_with (go_at_call 115; refine (HS.out _).mono ?_; rintro e w5 ⟨rfl, hb5⟩; have HB5 := Lib.hid hb5; clear hb5)
            go_ret
            exact ⟨by rw [← HU.out, HFF.out HF.out]; rfl, HBW.out.trans ((HA5.out.trans (HB5.out.mono (by simp))).mono HBW.out.size)⟩
        · obtain rfl : j = k := by omega
          clear hbw hbq
          go_wp2
          go_roundw
          case rel => exact ⟨j + 1, by go_num, by omega, by rw [← HU.out, HT.out HALL.out], HBW.out⟩
          case measure => (simp [intOf]) <;> omega
    · obtain rfl : k = l.length := by omega
      have e1 : unlikeB sameCol l = true := by rw [← HU.out, List.drop_length]; rfl
      have E1 := Lib.hid e1
      clear e1 hb
      go_wp2
      go_ret
      exact ⟨by rw [E1.out]; rfl, HB.out⟩

set_option maxRecDepth 100000 in
set_option maxHeartbeats 1000000 in
theorem unlike_idx (w : World) (B : Nat → Prop) (v : Value) (l : List IdxV) (hl : IdxAt w B v l) :
    Calls Tryd.prog 117 #[v, .func (.func 118) #[] #[]] w fun e w' => e = .returned (.bool (unlikeB sameIdx l)) ∧ Below w.heap.size w w' := by
  obtain ⟨p, cap, rfl, hc1, hc2⟩ := hl.1.form
  have HL := Lib.hid hl
  clear hl
  have HU : Hid (unlikeB sameIdx l = unlikeB sameIdx l) := rfl
  clear HU
  go_enter Tryd.func117, Tryd.ntmps117
  go_wp2
  go_loopw [11] (fun i wr => ∃ k : Nat, i = .int .i64 k ∧ k ≤ l.length ∧ unlikeGo sameIdx (l.take k) (l.drop k) = unlikeB sameIdx l ∧ Below w.heap.size w wr) (fun i _ => l.length - (intOf i).toNat)
  case atStart => exact ⟨0, rfl, Nat.zero_le _, rfl, Below.refl _ _⟩
  case round =>
    obtain ⟨k, rfl, hk, hu, hb⟩ := hrel
    obtain ⟨wo, rfl⟩ : ∃ wo : World, wo = wr := ⟨_, rfl⟩
    have HB := Lib.hid hb
    have HU := Lib.hid hu
    clear hu
    by_cases hka : k < l.length
    · have hstep := unlike_step sameIdx l k hka
      have HT := Lib.hid hstep.1
      have HFF := Lib.hid hstep.2
      clear hstep
      obtain ⟨g, off, cap1, hv, hg, e0, e1⟩ := sl_idx (HL.out.1.below hb) hka
      cases hv
      have hki : (k : Int) ≤ l.length := by omega
      have hkc : (k : Int) ≤ cap := by omega
      clear hb
      have HXS := Lib.hid (HL.out.2 l[k] (List.getElem_mem hka))
      generalize l[k] = a at *
      obtain ⟨pa, ca, hav, _, _⟩ := HXS.out.form
      rw [hav] at e0
      have HAV := Lib.hid hav
      clear hav
      have hal : Below wo.heap.size wo (wo.alloc (.cells #[.slice pa a.l.length ca, .bool a.unique] 55)) := (Below.refl _ _).alloc (Nat.le_refl _) _
      have HBK : Hid (Blk (wo.alloc (.cells #[.slice pa a.l.length ca, .bool a.unique] 55)) wo.heap.size 55 [.slice pa a.l.length ca, .bool a.unique]) := Blk.new wo _ _
      have HB2 := Lib.hid (HB.out.trans (hal.mono HB.out.size))
      clear hal
      go_wp2
      generalize hw1 : wo.alloc (.cells #[.slice pa a.l.length ca, .bool a.unique] 55) = w1 at *
      clear hw1 e0 e1
      go_loopw [20] (fun i wr => ∃ j : Nat, i = .int .i64 j ∧ j ≤ k ∧ (l.take j).all (fun b => !sameIdx a b) = true ∧ Below w1.heap.size w1 wr) (fun i _ => k - (intOf i).toNat)
      case atStart => exact ⟨0, rfl, Nat.zero_le _, rfl, Below.refl _ _⟩
      case round =>
        obtain ⟨j, rfl, hj, hall, hbq⟩ := hrel
        have HBQ := Lib.hid hbq
        have HALL := Lib.hid hall
        clear hall
        have hbw := HB2.out.trans (hbq.mono HB2.out.size)
        have HBW := Lib.hid hbw
        by_cases hjk : j < k
        · have hjl : j < l.length := by omega
          have HNX := Lib.hid (all_next (fun b => !sameIdx a b) l j hjl HALL.out)
          have HNF := Lib.hid (all_false (fun b => !sameIdx a b) l j k hjk hjl)
          obtain ⟨g2, off2, cap2, hv2, hg2, f0, f1⟩ := sl_idx (HL.out.1.below hbw) hjl
          cases hv2
          have hbk := HBK.out.below hbq
          have b0 : wr.cell? ⟨wo.heap.size, 0, none⟩ = some (.slice pa a.l.length ca) := hbk.cell 0
          have b1 : wr.cell? ⟨wo.heap.size, 1, none⟩ = some (.bool a.unique) := hbk.cell 1
          have HYS := Lib.hid (HL.out.2 l[j] (List.getElem_mem hjl))
          clear hbw hbq hbk
          generalize l[j] = b at *
          obtain ⟨pb, cb, hbv, _, _⟩ := HYS.out.form
          rw [hbv] at f0
          have HBV := Lib.hid hbv
          clear hbv
          have HS := Lib.hid (fun w' (h : Below w.heap.size w w') => idx_same w' B a b (HXS.out.below h) (HYS.out.below h))
          rw [HAV.out, HBV.out] at HS
          cases hs : sameIdx a b
          all_goals
            rw [hs] at HS
            have ha5 : Below wr.heap.size wr (wr.alloc (.cells #[.slice pb b.l.length cb, .bool b.unique] 55)) := (Below.refl _ _).alloc (Nat.le_refl _) _
            have HA5 := Lib.hid ha5
            have hz5 : wo.heap.size < wr.heap.size := by have := HBQ.out.size; have := HBK.out.lt; omega
            clear ha5
          · have HF := Lib.hid (HNX.out (by rw [hs]; rfl))
            clear hs HNX HNF
            go_wp2_with (go_at_call 118; refine (HS.out _ ((HBW.out.trans (HA5.out.mono HBW.out.size)))).mono ?_; rintro e w5 ⟨rfl, hb5⟩; have HB5 := Lib.hid hb5; clear hb5)
            go_roundw
            case rel => exact ⟨j + 1, by go_num, by omega, HF.out, HBQ.out.trans ((HA5.out.trans (HB5.out.mono (by simp))).mono HBQ.out.size)⟩
            case measure => (simp [intOf]) <;> omega
          · have HF := Lib.hid (HNF.out (by rw [hs]; rfl))
            clear hs HNX HNF
            go_wp2_with (go_at_call 118; refine (HS.out _ ((HBW.out.trans (HA5.out.mono HBW.out.size)))).mono ?_; rintro e w5 ⟨rfl, hb5⟩; have HB5 := Lib.hid hb5; clear hb5)
            go_ret
            exact ⟨by rw [← HU.out, HFF.out HF.out]; rfl, HBW.out.trans ((HA5.out.trans (HB5.out.mono (by simp))).mono HBW.out.size)⟩
        · obtain rfl : j = k := by omega
          clear hbw hbq
          go_wp2
          go_roundw
          case rel => exact ⟨j + 1, by go_num, by omega, by rw [← HU.out, HT.out HALL.out], HBW.out⟩
          case measure => (simp [intOf]) <;> omega
    · obtain rfl : k = l.length := by omega
      have e1 : unlikeB sameIdx l = true := by rw [← HU.out, List.drop_length]; rfl
      have E1 := Lib.hid e1
      clear e1 hb
      go_wp2
      go_ret
      exact ⟨by rw [E1.out]; rfl, HB.out⟩

set_option maxRecDepth 100000 in
set_option maxHeartbeats 1000000 in
theorem unlike_int (w : World) (B : Nat → Prop) (v : Value) (l : List Int) (hl : Sl w B 1 v l.length (ints l)) :
    Calls Tryd.prog 128 #[v, .func (.func 129) #[] #[]] w fun e w' => e = .returned (.bool (unlikeB sameInt l)) ∧ Below w.heap.size w w' := by
  obtain ⟨p, cap, rfl, hc1, hc2⟩ := hl.form
  have HL := Lib.hid hl
  clear hl
  go_enter Tryd.func128, Tryd.ntmps128
  go_wp2
  go_loopw [11] (fun i wr => ∃ k : Nat, i = .int .i64 k ∧ k ≤ l.length ∧ unlikeGo sameInt (l.take k) (l.drop k) = unlikeB sameInt l ∧ Below w.heap.size w wr) (fun i _ => l.length - (intOf i).toNat)
  case atStart => exact ⟨0, rfl, Nat.zero_le _, rfl, Below.refl _ _⟩
  case round =>
    obtain ⟨k, rfl, hk, hu, hb⟩ := hrel
    obtain ⟨wo, rfl⟩ : ∃ wo : World, wo = wr := ⟨_, rfl⟩
    have HB := Lib.hid hb
    have HU := Lib.hid hu
    clear hu
    by_cases hka : k < l.length
    · have hstep := unlike_step sameInt l k hka
      have HT := Lib.hid hstep.1
      have HFF := Lib.hid hstep.2
      clear hstep
      obtain ⟨g, off, cap1, hv, hg, e0⟩ := sl_int (HL.out.below hb) hka
      cases hv
      have hki : (k : Int) ≤ l.length := by omega
      have hkc : (k : Int) ≤ cap := by omega
      clear hb
      generalize l[k] = a at *
      have HB2 := HB
      go_wp2
      go_loopw [20] (fun i wr => ∃ j : Nat, i = .int .i64 j ∧ j ≤ k ∧ (l.take j).all (fun b => !sameInt a b) = true ∧ Below wo.heap.size wo wr) (fun i _ => k - (intOf i).toNat)
      case atStart => exact ⟨0, rfl, Nat.zero_le _, rfl, Below.refl _ _⟩
      case round =>
        obtain ⟨j, rfl, hj, hall, hbq⟩ := hrel
        have HBQ := Lib.hid hbq
        have HALL := Lib.hid hall
        clear hall
        have hbw := HB2.out.trans (hbq.mono HB2.out.size)
        have HBW := Lib.hid hbw
        by_cases hjk : j < k
        · have hjl : j < l.length := by omega
          have HNX := Lib.hid (all_next (fun b => !sameInt a b) l j hjl HALL.out)
          have HNF := Lib.hid (all_false (fun b => !sameInt a b) l j k hjk hjl)
          obtain ⟨g2, off2, cap2, hv2, hg2, f0⟩ := sl_int (HL.out.below hbw) hjl
          cases hv2
          clear hbw hbq
          generalize l[j] = b at *
          have HS := Lib.hid (fun w => int_same w a b)
          cases hs : sameInt a b
          all_goals
            rw [hs] at HS
          · have HF := Lib.hid (HNX.out (by rw [hs]; rfl))
            clear hs HNX HNF
            go_wp2_with (go_at_call 129; refine (HS.out _).mono ?_; rintro e w5 ⟨rfl, hb5⟩; have HB5 := Lib.hid hb5; clear hb5)
            go_roundw
            case rel => exact ⟨j + 1, by go_num, by omega, HF.out, HBQ.out.trans (HB5.out.mono HBQ.out.size)⟩
            case measure => (simp [intOf]) <;> omega
          · have HF := Lib.hid (HNF.out (by rw [hs]; rfl))
            clear hs HNX HNF
            go_wp2_with (go_at_call 129; refine (HS.out _).mono ?_; rintro e w5 ⟨rfl, hb5⟩; have HB5 := Lib.hid hb5; clear hb5)
            go_ret
            exact ⟨by rw [← HU.out, HFF.out HF.out]; rfl, HBW.out.trans (HB5.out.mono HBW.out.size)⟩
        · obtain rfl : j = k := by omega
          clear hbw hbq
          go_wp2
          go_roundw
          case rel => exact ⟨j + 1, by go_num, by omega, by rw [← HU.out, HT.out HALL.out], HBW.out⟩
          case measure => (simp [intOf]) <;> omega
    · obtain rfl : k = l.length := by omega
      have e1 : unlikeB sameInt l = true := by rw [← HU.out, List.drop_length]; rfl
      have E1 := Lib.hid e1
      clear e1 hb
      go_wp2
      go_ret
      exact ⟨by rw [E1.out]; rfl, HB.out⟩

end Go.Proofs.YtlgohkdckdnmhaaDoor
