/- Batches: what is great. -/
import Derived.Test.YtdhdphmehjkbnaaStE
import Derived.Test.YtdhdphmehjkbnaaSchGr
namespace Go.Proofs.Ytdhdphmehjkbnaa
open Go.RowKit Go.Afx

structure BatV where
  id : Int
  v : Value
  rows : List RowV
def BatV.cells (b : BatV) : List Value := [.int .i64 b.id, b.v]
def batCells (l : List BatV) : List Value := (l.map BatV.cells).flatten
def BatAt (w : World) (B : Nat → Prop) (v : Value) (l : List BatV) : Prop := Sl w B 2 v l.length (batCells l) ∧ ∀ b ∈ l, RowsAt w B b.v b.rows
theorem BatAt.below {w w' : World} {B : Nat → Prop} {v : Value} {l : List BatV} (h : BatAt w B v l) (hb : Below w.heap.size w w') : BatAt w' B v l := ⟨h.1.below hb, fun x hx => (h.2 x hx).below hb⟩
theorem sl_bat {w : World} {B : Nat → Prop} {v : Value} {l : List BatV} (h : Sl w B 2 v l.length (batCells l)) {k : Nat} (hk : k < l.length) :
    ∃ g off cap, v = .slice (some ⟨g, off, none⟩) l.length cap ∧ g < w.heap.size ∧ w.cell? ⟨g, off + k * 2, none⟩ = some (.int .i64 l[k].id) ∧ w.cell? ⟨g, off + k * 2 + 1, none⟩ = some l[k].v :=
  sl_two (f := BatV.cells) (fun _ => rfl) h hk

def batBig (b : BatV) : Bool := decide (40 < b.rows.length) || b.rows.any (fun r => greatB r.l)
def greatL (nm : ByteArray) (cl : List ColV) (l : List BatV) : Bool := greatS nm cl [] || decide (40 < l.length) || l.any batBig
theorem greatL_no {nm : ByteArray} {cl : List ColV} {l : List BatV} (h : greatL nm cl l = false) : greatS nm cl [] = false ∧ l.length ≤ 40 ∧ ∀ b ∈ l, b.rows.length ≤ 40 ∧ ∀ r ∈ b.rows, greatB r.l = false := by
  unfold greatL at h
  simp only [Bool.or_eq_false_iff, decide_eq_false_iff_not, List.any_eq_false] at h
  refine ⟨h.1.1, by omega, fun b hb => ?_⟩
  have := h.2 b hb
  unfold batBig at this
  simp only [Bool.not_eq_true, Bool.or_eq_false_iff, decide_eq_false_iff_not, List.any_eq_false] at this
  exact ⟨by omega, fun r hr => this.2 r hr⟩

set_option maxRecDepth 100000 in
set_option maxHeartbeats 1000000 in
theorem great_any (w : World) (B B' : Nat → Prop) (nm : ByteArray) (cv v : Value) (cl : List ColV) (l : List BatV) (hc : Sl w B 2 cv cl.length (colCells cl)) (hl : BatAt w B' v l) :
    Calls Try.prog 12 #[.agg #[.string nm, cv], v] w fun e w' => e = .returned (.bool (greatL nm cl l)) ∧ Below w.heap.size w w' := by
  obtain ⟨pc, cc, rfl, hcc1, hcc⟩ := hc.form
  obtain ⟨pl, cp, rfl, hpl1, hpl⟩ := hl.1.form
  have hal : Below w.heap.size w (w.alloc (.cells #[.string nm, .slice pc cl.length cc] 24)) := (Below.refl _ _).alloc (Nat.le_refl _) _
  have hgs := great_sch _ B ⟨nm, .slice pc cl.length cc, cl, .slice none 0 0, [], 0, 0, 0⟩ (hc.below hal) ⟨⟨by simp [idxCells], Ones.nil, .inl ⟨none, 0, rfl, rfl, Nat.zero_le _, fun _ => rfl⟩⟩, by simp⟩
  simp only [SchV.agg] at hgs
  have HGS := Lib.hid hgs
  have HL := Lib.hid (hl.below hal)
  have HAL := Lib.hid hal
  have hg : greatL nm cl l = (greatS nm cl [] || decide ((40 : Int) < (l.length : Int)) || l.any batBig) := by
    unfold greatL
    congr 2
    rw [Bool.eq_iff_iff]; simp; omega
  generalize greatL nm cl l = out at *
  generalize greatS nm cl [] = gs at *
  clear hc hl hal hgs
  cases gs
  case true =>
    have HG := Lib.hid hg
    clear hg
    go_enter Try.func12, Try.ntmps12
    go_wp2_with (go_at_call 63; refine HGS.out.mono ?_; clear HGS; rintro e w2 ⟨rfl, hb2⟩)
    go_ret
    exact ⟨by rw [HG.out]; rfl, HAL.out.trans (hb2.mono HAL.out.size)⟩
  rw [Bool.false_or] at hg
  by_cases a1 : (40 : Int) < (l.length : Int)
  · have d1 : decide ((40 : Int) < (l.length : Int)) = true := decide_eq_true a1
    rw [d1] at hg
    have HG := Lib.hid hg
    clear hg
    go_enter Try.func12, Try.ntmps12
    go_wp2_with (go_at_call 63; refine HGS.out.mono ?_; clear HGS; rintro e w2 ⟨rfl, hb2⟩)
    go_ret
    exact ⟨by rw [HG.out]; rfl, HAL.out.trans (hb2.mono HAL.out.size)⟩
  have d1 : decide ((40 : Int) < (l.length : Int)) = false := decide_eq_false a1
  rw [d1, Bool.false_or] at hg
  have HG := Lib.hid hg
  have hll : l.length ≤ 40 := by omega
  clear hg
  go_enter Try.func12, Try.ntmps12
  go_wp2_with (go_at_call 63; refine HGS.out.mono ?_; clear HGS; rintro e w2 ⟨rfl, hb2⟩; have HB2 := Lib.hid (HAL.out.trans (hb2.mono HAL.out.size)); have HL2 := Lib.hid (HL.out.below hb2); clear hb2)
  clear d1 a1
  go_loopw [5] (fun i wr => ∃ k : Nat, i = .int .i64 k ∧ k ≤ l.length ∧ (l.take k).any batBig = false ∧ Below w2.heap.size w2 wr) (fun i _ => l.length - (intOf i).toNat)
  case atStart => exact ⟨0, rfl, Nat.zero_le _, rfl, Below.refl _ _⟩
  case round =>
    obtain ⟨k, rfl, hk, ha, hb⟩ := hrel
    obtain ⟨wo, rfl⟩ : ∃ wo : World, wo = wr := ⟨_, rfl⟩
    have HA := Lib.hid ha
    have HB := Lib.hid hb
    clear ha
    by_cases hka : k < l.length
    · obtain ⟨g1, off1, cap2, hv, hg1, e0, e1⟩ := sl_bat (HL2.out.below hb).1 hka
      cases hv
      have hrw := HL2.out.2 l[k] (List.getElem_mem hka)
      have HX := Lib.hid (any_next batBig l k hka HA.out)
      have HY := Lib.hid (any_yes batBig l k hka)
      have HBS : Hid (∀ W, Below w2.heap.size w2 W → W.cell? ⟨g1, off1 + k * 2 + 1, none⟩ = some l[k].v) := fun W h => by
        obtain ⟨g9, off9, cap9, hv9, _, _, h9⟩ := sl_bat (HL2.out.below h).1 hka
        cases hv9
        exact h9
      generalize l[k] = c at *
      obtain ⟨cid, cv, crows⟩ := c
      simp only at e1 hrw HBS
      obtain ⟨px, cx, rfl, hx1, hx2⟩ := hrw.1.form
      have HRW := Lib.hid hrw
      have hbb : batBig ⟨cid, .slice px crows.length cx, crows⟩ = (decide ((40 : Int) < (crows.length : Int)) || crows.any (fun r => greatB r.l)) := by
        unfold batBig
        congr 1
        rw [Bool.eq_iff_iff]; simp; omega
      clear hb hrw e0
      generalize batBig ⟨cid, .slice px crows.length cx, crows⟩ = bb at *
      by_cases a2 : (40 : Int) < (crows.length : Int)
      · have d2 : decide ((40 : Int) < (crows.length : Int)) = true := decide_eq_true a2
        rw [d2] at hbb
        have HF := Lib.hid (HY.out hbb)
        clear HX HY hbb a2
        go_wp2
        go_ret
        exact ⟨by rw [HG.out, HF.out]; rfl, HB2.out.trans (HB.out.mono HB2.out.size)⟩
      · have d2 : decide ((40 : Int) < (crows.length : Int)) = false := decide_eq_false a2
        rw [d2, Bool.false_or] at hbb
        have HBB := Lib.hid hbb
        have hcr : crows.length ≤ 40 := by omega
        clear hbb a2
        go_wp2
        clear d2 e1
        go_loopw [6] (fun i wr => ∃ j : Nat, i = .int .i64 j ∧ j ≤ crows.length ∧ (crows.take j).any (fun r => greatB r.l) = false ∧ Below w2.heap.size w2 wr) (fun i _ => crows.length - (intOf i).toNat)
        case atStart => exact ⟨0, rfl, Nat.zero_le _, rfl, HB.out⟩
        case round =>
          obtain ⟨j, rfl, hj, ha, hb⟩ := hrel
          have HA2 := Lib.hid ha
          have HBJ := Lib.hid hb
          have e1 := HBS.out _ hb
          clear ha
          by_cases hja : j < crows.length
          · obtain ⟨g2, off2, cap3, hv2, hck⟩ := (HRW.out.below hb).at hja
            cases hv2
            have hrow := (HRW.out.below hb).2 crows[j] (List.getElem_mem hja)
            have HX2 := Lib.hid (any_next (fun r : RowV => greatB r.l) crows j hja HA2.out)
            have HY2 := Lib.hid (any_yes (fun r : RowV => greatB r.l) crows j hja)
            have HGR := Lib.hid (great_row _ _ _ _ hrow)
            clear hb hrow
            generalize crows[j] = r at *
            cases hx : greatB r.l
            · rw [hx] at HGR
              have HF := Lib.hid (HX2.out hx)
              clear HX2 HY2 hx
              go_wp2_with (go_at_call 25; refine HGR.out.mono ?_; clear HGR; rintro e w3 ⟨rfl, hb3⟩)
              go_roundw
              case rel => exact ⟨j + 1, by go_num, by omega, HF.out, HBJ.out.trans (hb3.mono HBJ.out.size)⟩
              case measure => (simp [intOf]) <;> omega
            · rw [hx] at HGR
              have HF := Lib.hid (HY.out (by rw [HBB.out]; exact HY2.out hx))
              clear HX2 HY2 hx
              go_wp2_with (go_at_call 25; refine HGR.out.mono ?_; clear HGR; rintro e w3 ⟨rfl, hb3⟩)
              go_ret
              have h9 := HBJ.out.trans (hb3.mono HBJ.out.size)
              exact ⟨by rw [HG.out, HF.out]; rfl, HB2.out.trans (h9.mono HB2.out.size)⟩
          · obtain rfl : j = crows.length := by omega
            have HF := Lib.hid (HX.out (by
              have := HA2.out
              rw [List.take_length] at this
              rw [HBB.out, this]))
            clear hb
            go_wp2
            go_roundw
            case rel => exact ⟨k + 1, by go_num, by omega, HF.out, HBJ.out⟩
            case measure => (simp [intOf]) <;> omega
    · obtain rfl : k = l.length := by omega
      have e5 : out = false := by
        have := HA.out
        rw [List.take_length] at this
        rw [HG.out, this]
      have E5 := Lib.hid e5
      clear hb e5
      go_wp2
      go_ret
      exact ⟨by rw [E5.out]; rfl, HB2.out.trans (HB.out.mono HB2.out.size)⟩
end Go.Proofs.Ytdhdphmehjkbnaa
