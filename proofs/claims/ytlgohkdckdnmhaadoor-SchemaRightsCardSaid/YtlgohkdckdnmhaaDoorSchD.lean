/- Schemas: columns, places, indexes, Right. -/
import Derived.Test.YtlgohkdckdnmhaaDoorSchC
namespace Go.Proofs.YtlgohkdckdnmhaaDoor
open Go.RowKit Go.Afx

def colOk (c : ColV) : Bool := namedB c.name && (decide (1 ≤ c.kind) && decide (c.kind ≤ 3))
def colsB (l : List ColV) : Bool := l.all colOk && ((decide (1 ≤ l.length) && decide (l.length ≤ 8)) && unlikeB sameCol l)
def placeOk (n : Int) (c : Int) : Bool := decide (0 ≤ c) && decide (c ≤ n - 1)
def placesB (n : Int) (x : IdxV) : Bool := x.l.all (placeOk n) && (decide (0 < x.l.length) && unlikeB sameInt x.l)
def firstU (l : List IdxV) : Bool := match l with
  | [] => false
  | x :: _ => x.unique
def idxB (n : Int) (l : List IdxV) : Bool := l.all (placesB n) && ((decide (1 ≤ l.length) && decide (l.length ≤ 4)) && firstU l && unlikeB sameIdx l)

theorem all_not {α : Type} (f : α → Bool) (l : List α) (k : Nat) (h : k < l.length) : f l[k] = false → l.all f = false := fun hf => by
  rw [List.all_eq_false]
  exact ⟨l[k], List.getElem_mem h, by simp [hf]⟩

set_option maxRecDepth 100000 in
set_option maxHeartbeats 1000000 in
theorem columns_any (w : World) (B : Nat → Prop) (v : Value) (l : List ColV) (hl : Sl w B 2 v l.length (colCells l)) (hr : ∀ c ∈ l, c.name.size ≤ maxLen) :
    Calls Tryd.prog 89 #[v] w fun e w' => e = .returned (.bool (colsB l)) ∧ Below w.heap.size w w' := by
  have HUN := Lib.hid (fun w' (h : Below w.heap.size w w') => unlike_col w' B v l (hl.below h))
  obtain ⟨p, cap, rfl, hc1, hc2⟩ := hl.form
  have HL := Lib.hid hl
  have HR := Lib.hid hr
  clear hl hr
  go_enter Tryd.func89, Tryd.ntmps89
  go_wp2
  go_loopw [7] (fun i wr => ∃ k : Nat, i = .int .i64 k ∧ k ≤ l.length ∧ (l.take k).all colOk = true ∧ Below w.heap.size w wr) (fun i _ => l.length - (intOf i).toNat)
  case atStart => exact ⟨0, rfl, Nat.zero_le _, rfl, Below.refl _ _⟩
  case round =>
    obtain ⟨k, rfl, hk, ha, hb⟩ := hrel
    have HB := Lib.hid hb
    have HA := Lib.hid ha
    clear ha
    by_cases hka : k < l.length
    · obtain ⟨g, off, cap1, hv, hg, e0, e1⟩ := sl_col (HL.out.below hb) hka
      cases hv
      have HX := Lib.hid (all_next colOk l k hka HA.out)
      have HY := Lib.hid (all_not colOk l k hka)
      have hrk := HR.out l[k] (List.getElem_mem hka)
      clear hb
      generalize l[k] = c at *
      obtain ⟨nm, kd⟩ := c
      have hok : colOk ⟨nm, kd⟩ = (namedB nm && (decide (1 ≤ kd) && decide (kd ≤ 3))) := rfl
      simp only at e0 e1 hrk
      have hal : Below wr.heap.size wr (wr.alloc (.cells #[.string nm, .int .i64 kd] 66)) := (Below.refl _ _).alloc (Nat.le_refl _) _
      have HBK : Hid (Blk (wr.alloc (.cells #[.string nm, .int .i64 kd] 66)) wr.heap.size 66 [.string nm, .int .i64 kd]) := Blk.new wr _ _
      have HAL := Lib.hid hal
      have HN := Lib.hid (named_any (wr.alloc (.cells #[.string nm, .int .i64 kd] 66)) nm hrk)
      have HW := Lib.hid (fun w => within_any w kd 1 3)
      generalize namedB nm = nb at *
      clear hal hrk
      cases nb
      · have HF := Lib.hid (HY.out (by rw [hok]; rfl))
        clear HX HY hok
        go_wp2_with (go_at_call 88; refine HN.out.mono ?_; clear HN; rintro e w3 ⟨rfl, hb3⟩)
        go_ret
        refine ⟨by unfold colsB; rw [HF.out]; rfl, ?_⟩
        have h1 := HB.out.trans (HAL.out.mono HB.out.size)
        exact h1.trans (hb3.mono h1.size)
      · cases hwi : (decide (1 ≤ kd) && decide (kd ≤ 3))
        · rw [hwi] at hok HW
          have HF := Lib.hid (HY.out (by rw [hok]; rfl))
          clear HX HY hok hwi
          go_wp2_with (first
            | (go_at_call 88; refine HN.out.mono ?_; clear HN; rintro e w3 ⟨rfl, hb3⟩; have hbk := HBK.out.below hb3; have b1 : w3.cell? ⟨wr.heap.size, 1, none⟩ = some (.int .i64 kd) := hbk.cell 1; have HB3 := Lib.hid hb3; clear hb3 hbk)
            | (go_at_call 67; refine (HW.out _).mono ?_; rintro e w4 ⟨rfl, rfl⟩))
          go_ret
          refine ⟨by unfold colsB; rw [HF.out]; rfl, ?_⟩
          have h1 := HB.out.trans (HAL.out.mono HB.out.size)
          exact h1.trans (HB3.out.mono h1.size)
        · rw [hwi] at hok HW
          have HF := Lib.hid (HX.out (by rw [hok]; rfl))
          clear HX HY hok hwi
          go_wp2_with (first
            | (go_at_call 88; refine HN.out.mono ?_; clear HN; rintro e w3 ⟨rfl, hb3⟩; have hbk := HBK.out.below hb3; have b1 : w3.cell? ⟨wr.heap.size, 1, none⟩ = some (.int .i64 kd) := hbk.cell 1; have HB3 := Lib.hid hb3; clear hb3 hbk)
            | (go_at_call 67; refine (HW.out _).mono ?_; rintro e w4 ⟨rfl, rfl⟩))
          go_roundw
          case rel =>
            have h1 := HB.out.trans (HAL.out.mono HB.out.size)
            exact ⟨k + 1, by go_num, by omega, HF.out, h1.trans (HB3.out.mono h1.size)⟩
          case measure => (simp [intOf]) <;> omega
    · obtain rfl : k = l.length := by omega
      have e1 : colsB l = ((decide ((1 : Int) ≤ (l.length : Int)) && decide ((l.length : Int) ≤ 8)) && unlikeB sameCol l) := by
        have := HA.out
        rw [List.take_length] at this
        unfold colsB
        rw [this, Bool.true_and]
        congr 2 <;> (rw [Bool.eq_iff_iff]; simp; omega)
      have E1 := Lib.hid e1
      have HW := Lib.hid (fun w => within_any w (l.length : Int) 1 8)
      have HU := Lib.hid (HUN.out wr hb)
      clear e1 hb
      generalize unlikeB sameCol l = u at *
      cases hwi : (decide ((1 : Int) ≤ (l.length : Int)) && decide ((l.length : Int) ≤ 8))
      all_goals
        rw [hwi] at HW E1
        clear hwi
        go_wp2_with (first
          | (go_at_call 67; refine (HW.out _).mono ?_; rintro e w4 ⟨rfl, rfl⟩)
          | (go_at_call 114; refine HU.out.mono ?_; clear HU; rintro e w5 ⟨rfl, hb5⟩))
        go_ret
      · exact ⟨by rw [E1.out]; rfl, HB.out⟩
      · exact ⟨by rw [E1.out]; rfl, HB.out.trans (hb5.mono HB.out.size)⟩

set_option maxRecDepth 100000 in
set_option maxHeartbeats 1000000 in
theorem places_any (w : World) (B : Nat → Prop) (x : IdxV) (n : Int) (hn : 0 ≤ n ∧ n ≤ 1000000) (hl : Sl w B 1 x.v x.l.length (ints x.l)) :
    Calls Tryd.prog 116 #[.agg #[x.v, .bool x.unique], .int .i64 n] w fun e w' => e = .returned (.bool (placesB n x)) ∧ Below w.heap.size w w' := by
  obtain ⟨v, l, u⟩ := x
  simp only at hl
  obtain ⟨hn0, hn1⟩ := hn
  obtain ⟨p, cap, rfl, hc1, hc2⟩ := hl.form
  have hal : Below w.heap.size w (w.alloc (.cells #[.slice p l.length cap, .bool u] 55)) := (Below.refl _ _).alloc (Nat.le_refl _) _
  have HL := Lib.hid (hl.below hal)
  have HUN := Lib.hid (unlike_int _ B _ l (hl.below hal))
  have HAL := Lib.hid hal
  have HP : Hid (placesB n ⟨.slice p l.length cap, l, u⟩ = (l.all (placeOk n) && (decide (0 < l.length) && unlikeB sameInt l))) := rfl
  generalize placesB n ⟨.slice p l.length cap, l, u⟩ = out at *
  have hm1 : -1 ≤ n - 1 := by omega
  have hm2 : n - 1 ≤ 1000000 := by omega
  clear hl hal
  go_enter Tryd.func116, Tryd.ntmps116
  go_wp2
  go_loop [10] (fun i => ∃ k : Nat, i = .int .i64 k ∧ k ≤ l.length ∧ (l.take k).all (placeOk n) = true) (fun i => l.length - (intOf i).toNat)
  case atStart => exact ⟨0, rfl, Nat.zero_le _, rfl⟩
  case round =>
    obtain ⟨k, rfl, hk, ha⟩ := hrel
    have HA := Lib.hid ha
    clear ha
    by_cases hka : k < l.length
    · obtain ⟨g, off, cap1, hv, hg, e0⟩ := sl_int HL.out hka
      cases hv
      have HX := Lib.hid (all_next (placeOk n) l k hka HA.out)
      have HY := Lib.hid (all_not (placeOk n) l k hka)
      generalize l[k] = c at *
      have HW := Lib.hid (fun w => within_any w c 0 (n - 1))
      have hok : placeOk n c = (decide (0 ≤ c) && decide (c ≤ n - 1)) := rfl
      cases hwi : (decide (0 ≤ c) && decide (c ≤ n - 1))
      · rw [hwi] at hok HW
        have HF := Lib.hid (HY.out hok)
        clear HX HY hok hwi
        go_wp2_with (go_at_call 67; refine (HW.out _).mono ?_; rintro e w4 ⟨rfl, rfl⟩)
        go_ret
        exact ⟨by rw [HP.out, HF.out]; rfl, HAL.out⟩
      · rw [hwi] at hok HW
        have HF := Lib.hid (HX.out hok)
        clear HX HY hok hwi
        go_wp2_with (go_at_call 67; refine (HW.out _).mono ?_; rintro e w4 ⟨rfl, rfl⟩)
        go_round
        case rel => exact ⟨k + 1, by go_num, by omega, HF.out⟩
        case measure => (simp [intOf]) <;> omega
    · obtain rfl : k = l.length := by omega
      have e1 : out = (decide (0 < l.length) && unlikeB sameInt l) := by
        have := HA.out
        rw [List.take_length] at this
        rw [HP.out, this, Bool.true_and]
      have E1 := Lib.hid e1
      clear e1
      generalize unlikeB sameInt l = un at *
      rcases Nat.eq_zero_or_pos l.length with h0 | h0
      · have d1 : decide (0 < l.length) = false := decide_eq_false (by omega)
        rw [d1] at E1
        have hl0 : l = [] := List.eq_nil_of_length_eq_zero h0
        subst hl0
        clear h0
        go_wp2
        go_ret
        exact ⟨by rw [E1.out]; rfl, HAL.out⟩
      · have d1 : decide (0 < l.length) = true := decide_eq_true h0
        rw [d1] at E1
        have h0i : (0 : Int) < (l.length : Int) := by omega
        go_wp2_with (go_at_call 128; refine HUN.out.mono ?_; clear HUN; rintro e w5 ⟨rfl, hb5⟩)
        go_ret
        exact ⟨by rw [E1.out]; rfl, HAL.out.trans (hb5.mono HAL.out.size)⟩

set_option maxRecDepth 100000 in
set_option maxHeartbeats 1000000 in
theorem indexes_any (w : World) (B : Nat → Prop) (v : Value) (l : List IdxV) (n : Int) (hn : 0 ≤ n ∧ n ≤ 1000000) (hl : IdxAt w B v l) :
    Calls Tryd.prog 90 #[v, .int .i64 n] w fun e w' => e = .returned (.bool (idxB n l)) ∧ Below w.heap.size w w' := by
  have HUN := Lib.hid (fun w' (h : Below w.heap.size w w') => unlike_idx w' B v l (hl.below h))
  obtain ⟨p, cap, rfl, hc1, hc2⟩ := hl.1.form
  have HL := Lib.hid hl
  have HN := Lib.hid hn
  clear hl hn
  go_enter Tryd.func90, Tryd.ntmps90
  go_wp2
  go_loopw [9] (fun i wr => ∃ k : Nat, i = .int .i64 k ∧ k ≤ l.length ∧ (l.take k).all (placesB n) = true ∧ Below w.heap.size w wr) (fun i _ => l.length - (intOf i).toNat)
  case atStart => exact ⟨0, rfl, Nat.zero_le _, rfl, Below.refl _ _⟩
  case round =>
    obtain ⟨k, rfl, hk, ha, hb⟩ := hrel
    have HB := Lib.hid hb
    have HA := Lib.hid ha
    clear ha
    by_cases hka : k < l.length
    · obtain ⟨g, off, cap1, hv, hg, e0, e1⟩ := sl_idx (HL.out.1.below hb) hka
      cases hv
      have HX := Lib.hid (all_next (placesB n) l k hka HA.out)
      have HY := Lib.hid (all_not (placesB n) l k hka)
      have hxs := HL.out.2 l[k] (List.getElem_mem hka)
      generalize l[k] = c at *
      obtain ⟨cv, cl, cu⟩ := c
      simp only at e0 e1 hxs
      obtain ⟨pa, ca, rfl, _, _⟩ := hxs.form
      have hal : Below wr.heap.size wr (wr.alloc (.cells #[.slice pa cl.length ca, .bool cu] 55)) := (Below.refl _ _).alloc (Nat.le_refl _) _
      have HB2 := Lib.hid (HB.out.trans (hal.mono HB.out.size))
      have HP := Lib.hid (places_any (wr.alloc (.cells #[.slice pa cl.length ca, .bool cu] 55)) B ⟨.slice pa cl.length ca, cl, cu⟩ n HN.out (hxs.below HB2.out))
      simp only at HP
      generalize placesB n ⟨.slice pa cl.length ca, cl, cu⟩ = pb at *
      clear hal hb hxs
      cases pb
      · have HF := Lib.hid (HY.out rfl)
        clear HX HY
        go_wp2_with (go_at_call 116; refine HP.out.mono ?_; clear HP; rintro e w4 ⟨rfl, hb4⟩)
        go_ret
        exact ⟨by unfold idxB; rw [HF.out]; rfl, HB2.out.trans (hb4.mono HB2.out.size)⟩
      · have HF := Lib.hid (HX.out rfl)
        clear HX HY
        go_wp2_with (go_at_call 116; refine HP.out.mono ?_; clear HP; rintro e w4 ⟨rfl, hb4⟩)
        go_roundw
        case rel => exact ⟨k + 1, by go_num, by omega, HF.out, HB2.out.trans (hb4.mono HB2.out.size)⟩
        case measure => (simp [intOf]) <;> omega
    · obtain rfl : k = l.length := by omega
      have e1 : idxB n l = ((decide ((1 : Int) ≤ (l.length : Int)) && decide ((l.length : Int) ≤ 4)) && firstU l && unlikeB sameIdx l) := by
        have := HA.out
        rw [List.take_length] at this
        unfold idxB
        rw [this, Bool.true_and]
        congr 2
        congr 1 <;> (rw [Bool.eq_iff_iff]; simp; omega)
      have E1 := Lib.hid e1
      have HW := Lib.hid (fun w => within_any w (l.length : Int) 1 4)
      have HU := Lib.hid (HUN.out wr hb)
      clear e1 hka
      generalize unlikeB sameIdx l = u at *
      cases hwi : (decide ((1 : Int) ≤ (l.length : Int)) && decide ((l.length : Int) ≤ 4))
      · rw [hwi] at HW E1
        clear hwi hb
        go_wp2_with (first
          | (go_at_call 67; refine (HW.out _).mono ?_; rintro e w4 ⟨rfl, rfl⟩))
        go_ret
        exact ⟨by rw [E1.out]; rfl, HB.out⟩
      · have hpos : 0 < l.length := by simp at hwi; omega
        have hposi : (0 : Int) < (l.length : Int) := by omega
        obtain ⟨g, off, cap1, hv, hg, e0, e1⟩ := sl_idx (HL.out.1.below hb) hpos
        cases hv
        have hfu : l[0].unique = firstU l := by
          cases l with
          | nil => simp at hpos
          | cons a t => rfl
        have e2 : wr.cell? ⟨g, off + 1, none⟩ = some (.bool l[0].unique) := by rw [Nat.zero_mul, Nat.add_zero] at e1; exact e1
        rw [hfu] at e2
        rw [hwi] at HW E1
        clear hwi hb e0 e1 hfu
        generalize firstU l = fu at *
        cases fu
        · go_wp2_with (first
            | (go_at_call 67; refine (HW.out _).mono ?_; rintro e w4 ⟨rfl, rfl⟩))
          go_ret
          exact ⟨by rw [E1.out]; rfl, HB.out⟩
        · go_wp2_with (first
            | (go_at_call 67; refine (HW.out _).mono ?_; rintro e w4 ⟨rfl, rfl⟩)
            | (go_at_call 117; refine HU.out.mono ?_; clear HU; rintro e w5 ⟨rfl, hb5⟩))
          go_ret
          exact ⟨by rw [E1.out]; rfl, HB.out.trans (hb5.mono HB.out.size)⟩
end Go.Proofs.YtlgohkdckdnmhaaDoor
