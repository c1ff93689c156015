/- The document's schemas: Great. -/
import Derived.Test.YtlgohkdckdnmhaaDoorSchE
namespace Go.Proofs.YtlgohkdckdnmhaaDoor
open Go.RowKit Go.Afx

def colBig (c : ColV) : Bool := decide (100 < c.name.size)
def idxBig (x : IdxV) : Bool := decide (12 < x.l.length)
def greatS (nm : ByteArray) (cl : List ColV) (il : List IdxV) : Bool := decide (12 < cl.length) || decide (8 < il.length) || decide (100 < nm.size) || cl.any colBig || il.any idxBig
theorem greatS_no {nm : ByteArray} {cl : List ColV} {il : List IdxV} (h : greatS nm cl il = false) : cl.length ≤ 12 ∧ il.length ≤ 8 ∧ nm.size ≤ 100 ∧ (∀ c ∈ cl, c.name.size ≤ 100) ∧ ∀ x ∈ il, x.l.length ≤ 12 := by
  unfold greatS at h
  simp only [Bool.or_eq_false_iff, decide_eq_false_iff_not, List.any_eq_false] at h
  obtain ⟨⟨⟨⟨h1, h2⟩, h3⟩, h4⟩, h5⟩ := h
  refine ⟨by omega, by omega, by omega, fun c hc => ?_, fun x hx => ?_⟩
  · have := h4 c hc; unfold colBig at this; simpa using this
  · have := h5 x hx; unfold idxBig at this; simpa using this
theorem any_next {α : Type} (f : α → Bool) (l : List α) (k : Nat) (h : k < l.length) (ha : (l.take k).any f = false) : f l[k] = false → (l.take (k + 1)).any f = false := fun hf => by
  rw [← List.take_append_getElem h, List.any_append, ha]
  simp [hf]
theorem any_yes {α : Type} (f : α → Bool) (l : List α) (k : Nat) (h : k < l.length) : f l[k] = true → l.any f = true := fun hf => by
  rw [List.any_eq_true]
  exact ⟨l[k], List.getElem_mem h, hf⟩

set_option maxRecDepth 100000 in
set_option maxHeartbeats 1000000 in
theorem great_sch (w : World) (B : Nat → Prop) (s : SchV) (h1 : Sl w B 2 s.colsV s.cols.length (colCells s.cols)) (h2 : IdxAt w B s.idxV s.idx) :
    Calls Tryd.prog 32 #[s.agg] w fun e w' => e = .returned (.bool (greatS s.name s.cols s.idx)) ∧ Below w.heap.size w w' := by
  obtain ⟨nm, cv, cl, iv, il, lim, prt, by_⟩ := s
  simp only at h1 h2
  simp only [SchV.agg]
  obtain ⟨pc, cc, rfl, hcl, hcc⟩ := h1.form
  obtain ⟨pi, ci, rfl, hil, hci⟩ := h2.1.form
  have hal : Below w.heap.size w (w.alloc (.cells #[.string nm, .slice pc cl.length cc, .slice pi il.length ci, .int .i64 lim, .int .i64 prt, .int .i64 by_] 47)) := (Below.refl _ _).alloc (Nat.le_refl _) _
  have HBK : Hid (Blk (w.alloc (.cells #[.string nm, .slice pc cl.length cc, .slice pi il.length ci, .int .i64 lim, .int .i64 prt, .int .i64 by_] 47)) w.heap.size 47 [.string nm, .slice pc cl.length cc, .slice pi il.length ci, .int .i64 lim, .int .i64 prt, .int .i64 by_]) := Blk.new w _ _
  have HAL := Lib.hid hal
  have H1 := Lib.hid (h1.below hal)
  have H2 := Lib.hid (h2.below hal)
  have hg : greatS nm cl il = (decide ((12 : Int) < (cl.length : Int)) || decide ((8 : Int) < (il.length : Int)) || decide ((100 : Int) < (nm.size : Int)) || cl.any colBig || il.any idxBig) := by
    unfold greatS
    congr 2
    congr 1
    congr 1
    all_goals first
      | rfl
      | (rw [Bool.eq_iff_iff]; simp; omega)
  generalize greatS nm cl il = out at *
  clear h1 h2 hal
  by_cases a1 : (12 : Int) < (cl.length : Int)
  · have d1 : decide ((12 : Int) < (cl.length : Int)) = true := decide_eq_true a1
    rw [d1] at hg
    have HG := Lib.hid hg
    clear hg
    go_enter Tryd.func32, Tryd.ntmps32
    go_wp2
    go_ret
    exact ⟨by rw [HG.out]; rfl, HAL.out⟩
  have d1 : decide ((12 : Int) < (cl.length : Int)) = false := decide_eq_false a1
  rw [d1, Bool.false_or] at hg
  by_cases a2 : (8 : Int) < (il.length : Int)
  · have d2 : decide ((8 : Int) < (il.length : Int)) = true := decide_eq_true a2
    rw [d2] at hg
    have HG := Lib.hid hg
    clear hg
    go_enter Tryd.func32, Tryd.ntmps32
    go_wp2
    go_ret
    exact ⟨by rw [HG.out]; rfl, HAL.out⟩
  have d2 : decide ((8 : Int) < (il.length : Int)) = false := decide_eq_false a2
  rw [d2, Bool.false_or] at hg
  by_cases a3 : (100 : Int) < (nm.size : Int)
  · have d3 : decide ((100 : Int) < (nm.size : Int)) = true := decide_eq_true a3
    rw [d3] at hg
    have HG := Lib.hid hg
    clear hg
    go_enter Tryd.func32, Tryd.ntmps32
    go_wp2
    go_ret
    exact ⟨by rw [HG.out]; rfl, HAL.out⟩
  have d3 : decide ((100 : Int) < (nm.size : Int)) = false := decide_eq_false a3
  rw [d3, Bool.false_or] at hg
  have HG := Lib.hid hg
  have hl1 : cl.length ≤ 12 := by omega
  have hl2 : il.length ≤ 8 := by omega
  clear hg
  go_enter Tryd.func32, Tryd.ntmps32
  go_wp2
  generalize hw1 : w.alloc (.cells #[.string nm, .slice pc cl.length cc, .slice pi il.length ci, .int .i64 lim, .int .i64 prt, .int .i64 by_] 47) = w1 at *
  clear hw1 d1 d2 d3 a1 a2 a3
  obtain ⟨x0, x1, x2, x3, x4, x5⟩ := sch_cells HBK.out
  clear x0 x3 x4 x5
  go_loop [3] (fun i => ∃ k : Nat, i = .int .i64 k ∧ k ≤ cl.length ∧ (cl.take k).any colBig = false) (fun i => cl.length - (intOf i).toNat)
  case atStart => exact ⟨0, rfl, Nat.zero_le _, rfl⟩
  case round =>
    obtain ⟨k, rfl, hk, ha⟩ := hrel
    have HA := Lib.hid ha
    clear ha
    by_cases hka : k < cl.length
    · obtain ⟨g1, off1, cap2, hv, hg1, e0, e1⟩ := sl_col H1.out hka
      cases hv
      have HX := Lib.hid (any_next colBig cl k hka HA.out)
      have HY := Lib.hid (any_yes colBig cl k hka)
      generalize cl[k] = c at *
      by_cases hb : (100 : Int) < (c.name.size : Int)
      · have hcb : colBig c = true := decide_eq_true (by omega)
        have d1 : decide ((100 : Int) < (c.name.size : Int)) = true := decide_eq_true hb
        have HF := Lib.hid (HY.out hcb)
        clear HX HY hcb hb
        go_wp2
        go_ret
        exact ⟨by rw [HG.out, HF.out]; rfl, HAL.out⟩
      · have hcb : colBig c = false := decide_eq_false (by omega)
        have d1 : decide ((100 : Int) < (c.name.size : Int)) = false := decide_eq_false hb
        have HF := Lib.hid (HX.out hcb)
        clear HX HY hcb hb
        go_wp2
        go_round
        case rel => exact ⟨k + 1, by go_num, by omega, HF.out⟩
        case measure => (simp [intOf]) <;> omega
    · obtain rfl : k = cl.length := by omega
      have hca : out = il.any idxBig := by
        have := HA.out
        rw [List.take_length] at this
        rw [HG.out, this, Bool.false_or]
      have HG2 := Lib.hid hca
      clear hca hka hk
      go_wp2
      go_loop [4] (fun i => ∃ k : Nat, i = .int .i64 k ∧ k ≤ il.length ∧ (il.take k).any idxBig = false) (fun i => il.length - (intOf i).toNat)
      case atStart => exact ⟨0, rfl, Nat.zero_le _, rfl⟩
      case round =>
        obtain ⟨k, rfl, hk, ha⟩ := hrel
        have HA2 := Lib.hid ha
        clear ha
        by_cases hka : k < il.length
        · obtain ⟨g1, off1, cap2, hv, hg1, e0, e1⟩ := sl_idx H2.out.1 hka
          cases hv
          have hxs := H2.out.2 il[k] (List.getElem_mem hka)
          have HX := Lib.hid (any_next idxBig il k hka HA2.out)
          have HY := Lib.hid (any_yes idxBig il k hka)
          generalize il[k] = c at *
          obtain ⟨cv, cl2, cu⟩ := c
          simp only at e0 hxs
          obtain ⟨px, cx, rfl, _, _⟩ := hxs.form
          clear hxs
          by_cases hb : (12 : Int) < (cl2.length : Int)
          · have hcb : idxBig ⟨.slice px cl2.length cx, cl2, cu⟩ = true := decide_eq_true (by simp only; omega)
            have d1 : decide ((12 : Int) < (cl2.length : Int)) = true := decide_eq_true hb
            have HF := Lib.hid (HY.out hcb)
            clear HX HY hcb hb
            go_wp2
            go_ret
            exact ⟨by rw [HG2.out, HF.out]; rfl, HAL.out⟩
          · have hcb : idxBig ⟨.slice px cl2.length cx, cl2, cu⟩ = false := decide_eq_false (by simp only; omega)
            have d1 : decide ((12 : Int) < (cl2.length : Int)) = false := decide_eq_false hb
            have HF := Lib.hid (HX.out hcb)
            clear HX HY hcb hb
            go_wp2
            go_round
            case rel => exact ⟨k + 1, by go_num, by omega, HF.out⟩
            case measure => (simp [intOf]) <;> omega
        · obtain rfl : k = il.length := by omega
          have e5 : out = false := by
            have := HA2.out
            rw [List.take_length] at this
            rw [HG2.out, this]
          have E5 := Lib.hid e5
          clear e5
          go_wp2
          go_ret
          exact ⟨by rw [E5.out]; rfl, HAL.out⟩
end Go.Proofs.YtlgohkdckdnmhaaDoor
