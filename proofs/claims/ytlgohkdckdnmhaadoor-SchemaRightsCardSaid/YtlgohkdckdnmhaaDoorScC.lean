/- Schemas: Key. -/
import Derived.Test.YtlgohkdckdnmhaaDoorScB
import Derived.Test.YtlgohkdckdnmhaaDoorSchGr
namespace Go.Proofs.YtlgohkdckdnmhaaDoor
open Go.RowKit Go.Afx

/-- The key by an index that may not be there. -/
def keyO (s : SchV) (i : Int) (row : List AV) : List UInt8 := if chkS s i row = 0 then (match s.idx[i.toNat]? with
  | some x => skey s.idx row x
  | none => []) else []
theorem chk_in {s : SchV} {i : Int} {row : List AV} (h : chkS s i row = 0) : ∃ n : Nat, i = (n : Int) ∧ n < s.idx.length ∧ rightS s = true ∧ fitB s.cols row = true := by
  unfold chkS at h
  split at h
  · omega
  · split at h
    · omega
    · rename_i h1 h2
      rw [not_or] at h1
      obtain ⟨h3, h4⟩ := h1
      rw [Bool.not_eq_false, Bool.and_eq_true, decide_eq_true_eq, decide_eq_true_eq] at h4
      rw [Bool.not_eq_false] at h2 h3
      exact ⟨i.toNat, by omega, by omega, h3, h2⟩
theorem chk_cases (s : SchV) (i : Int) (row : List AV) : chkS s i row = 0 ∨ chkS s i row = 1 ∨ chkS s i row = 13 := by
  unfold chkS
  split
  · simp
  · split <;> simp

set_option maxRecDepth 100000 in
set_option maxHeartbeats 2000000 in
theorem schkey_any (w : World) (hm : Mx w) (B B' : Nat → Prop) (s : SchV) (i : Int) (v : Value) (row : List AV) (h : SchAt w B s) (hr : Sl w B' 3 v row.length (rowCells row)) (hf : ∀ a ∈ row, fit64 a.n)
    (hrl : row.length ≤ 1000) (hx : ∀ x ∈ s.idx, x.l.length ≤ 200) :
    Calls Tryd.prog 34 #[s.agg, .int .i64 i, v] w fun e w' => e = .returned (.tuple #[.string (bs (keyO s i row)), .int .i64 (chkS s i row)]) ∧ Below w.heap.size w w' := by
  obtain ⟨nm, cv, cl, iv, il, lim, prt, by_⟩ := s
  have HS := Lib.hid h
  obtain ⟨h1, h2, h3, h4⟩ := h
  simp only at h1 h2 h3 h4 hx
  obtain ⟨pc, cc, rfl, _, hcc⟩ := h1.form
  obtain ⟨pi, ci, rfl, hci1, hci⟩ := h2.1.form
  obtain ⟨pr, cr, rfl, hpr1, hpr2⟩ := hr.form
  have hal : Below w.heap.size w (w.alloc (.cells #[.string nm, .slice pc cl.length cc, .slice pi il.length ci, .int .i64 lim, .int .i64 prt, .int .i64 by_] 47)) := (Below.refl _ _).alloc (Nat.le_refl _) _
  have HBK : Hid (Blk (w.alloc (.cells #[.string nm, .slice pc cl.length cc, .slice pi il.length ci, .int .i64 lim, .int .i64 prt, .int .i64 by_] 47)) w.heap.size 47 [.string nm, .slice pc cl.length cc, .slice pi il.length ci, .int .i64 lim, .int .i64 prt, .int .i64 by_]) := Blk.new w _ _
  have HROW := Lib.hid hr
  have HALW := Lib.hid hal
  have HM := Lib.hid hm
  have HF := Lib.hid hf
  have HX := Lib.hid hx
  obtain ⟨x0, x1, x2, x3, x4, x5⟩ := sch_cells HBK.out
  clear h1 h2 h3 h4 hal hr hcc hpr1 hpr2 hm hf hx
  simp only [SchV.agg]
  have HCK := Lib.hid (fun W hb => checked_any W B B' ⟨nm, .slice pc cl.length cc, cl, .slice pi il.length ci, il, lim, prt, by_⟩ i (.slice pr row.length cr) row (SchAt.below (w' := W) HS.out hb) (Sl.below (w' := W) HROW.out hb) (by omega))
  simp only [SchV.agg] at HCK
  obtain ⟨c, hc⟩ : ∃ c, chkS ⟨nm, .slice pc cl.length cc, cl, .slice pi il.length ci, il, lim, prt, by_⟩ i row = c := ⟨_, rfl⟩
  have hko : keyO ⟨nm, .slice pc cl.length cc, cl, .slice pi il.length ci, il, lim, prt, by_⟩ i row = if c = 0 then (match il[i.toNat]? with
    | some x => skey il row x
    | none => []) else [] := by unfold keyO; rw [hc]
  rw [hc] at HCK ⊢
  rw [hko]
  clear hko
  by_cases h0 : c = 0
  · subst h0
    obtain ⟨n, rfl, hn, _, _⟩ := chk_in hc
    simp only at hn
    have hkk := fun W hb hmm => sckey_any W hmm B B' ⟨nm, .slice pc cl.length cc, cl, .slice pi il.length ci, il, lim, prt, by_⟩ n (.slice pr row.length cr) row (SchAt.below (w' := W) HS.out hb) (Sl.below (w' := W) HROW.out hb) hn HF.out hrl HX.out
    simp only [SchV.agg] at hkk
    have HKK := Lib.hid hkk
    rw [if_pos rfl, Int.toNat_natCast, List.getElem?_eq_getElem hn]
    simp only
    generalize skey il row il[n] = out at *
    clear hc hkk
    go_enter Tryd.func34, Tryd.ntmps34
    go_wp2_with (first
      | (go_at_call 69; refine (HCK.out _ HALW.out).mono ?_; clear HCK; rintro e w2 ⟨rfl, hb2⟩; have HB2 := Lib.hid (HALW.out.trans (hb2.mono HALW.out.size)); obtain ⟨y0, y1, y2, y3, y4, y5⟩ := sch_cells (HBK.out.below hb2); clear hb2 x0 x1 x2 x3 x4 x5)
      | (go_at_call 70; refine (HKK.out _ HB2.out (HM.out.below HB2.out)).mono ?_; clear HKK; rintro e w3 ⟨rfl, hb3⟩; have HB3 := Lib.hid (HB2.out.trans (hb3.mono HB2.out.size)); clear hb3))
    exact bodyPost_ret (v := .tuple #[.string (bs out), .int .i64 0]) (by simp [results, Tryd.results34, go_sem]) rfl ⟨rfl, HB3.out⟩
  · rw [if_neg h0]
    have hc0 : (c != 0) = true := bne_iff_ne.2 h0
    clear hc h0
    go_enter Tryd.func34, Tryd.ntmps34
    go_wp2_with (first
      | (go_at_call 69; refine (HCK.out _ HALW.out).mono ?_; clear HCK; rintro e w2 ⟨rfl, hb2⟩; have HB2 := Lib.hid (HALW.out.trans (hb2.mono HALW.out.size)); clear hb2))
    exact bodyPost_ret (v := .tuple #[.string ⟨#[]⟩, .int .i64 c]) (by simp [results, Tryd.results34, go_sem]) rfl ⟨rfl, HB2.out⟩
end Go.Proofs.YtlgohkdckdnmhaaDoor
