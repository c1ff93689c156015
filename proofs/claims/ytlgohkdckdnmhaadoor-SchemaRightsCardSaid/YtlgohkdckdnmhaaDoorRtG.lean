/- Schemas: Named, Col. -/
import Derived.Test.YtlgohkdckdnmhaaDoorRtC
import Derived.Test.YtlgohkdckdnmhaaDoorSt1
import Derived.Test.YtlgohkdckdnmhaaDoorSchF
namespace Go.Proofs.YtlgohkdckdnmhaaDoor
open Go.RowKit Go.Afx

theorem strC_length (l : List (List UInt8)) : (strC l).length = l.length := by simp [strC]
set_option maxRecDepth 100000 in
theorem named_list (w : World) (B : Nat → Prop) (v : Value) (l : List (List UInt8)) (h : Sl w B 1 v l.length (strC l)) (hl : ∀ s ∈ l, s.length ≤ 1000000) :
    Calls Tryd.prog 50 #[v] w fun e w' => e = .returned (.bool (l.all namedL)) ∧ Below w.heap.size w w' := by
  obtain ⟨p, cap, rfl, hc1, hc2⟩ := h.form
  have H := Lib.hid h
  have HL := Lib.hid hl
  clear h hl
  obtain ⟨out, hout⟩ : ∃ out, l.all namedL = out := ⟨_, rfl⟩
  rw [hout]
  have HO := Lib.hid hout
  clear hout
  go_enter Tryd.func50, Tryd.ntmps50
  go_wp2
  go_loopw [7] (fun i wr => ∃ k : Nat, i = .int .i64 k ∧ k ≤ l.length ∧ (l.take k).all namedL = true ∧ Below w.heap.size w wr) (fun i _ => l.length - (intOf i).toNat)
  case atStart => exact ⟨0, rfl, Nat.zero_le _, rfl, Below.refl _ _⟩
  case round =>
    obtain ⟨k, rfl, hk, hall, hb⟩ := hrel
    have HB := Lib.hid hb
    have HA := Lib.hid hall
    clear hall
    by_cases hka : k < l.length
    · obtain ⟨g, off, cap1, hv, _, _, hgb, hglt, hc⟩ := (H.out.below hb).place (by omega)
      cases hv
      have e0 : wr.cell? ⟨g, off + k, none⟩ = some (.string (bs l[k])) := by rw [hc k (by rw [strC_length]; exact hka)]; simp [strC, hka]
      have HX := Lib.hid (all_next namedL l k hka HA.out)
      have HY := Lib.hid (all_not namedL l k hka)
      have hn := named_any wr (bs l[k]) (by rw [bs_size]; have := HL.out l[k] (List.getElem_mem hka); unfold maxLen; omega)
      unfold namedB at hn
      rw [bs_data] at hn
      have HN := Lib.hid hn
      clear hb hc hn
      generalize l[k] = x at *
      cases hx : namedL x
      · rw [hx] at HN
        have HF := Lib.hid (HY.out hx)
        clear HX HY hx
        go_wp2_with fail
        refine HN.out.mono ?_
        rintro e w3 ⟨rfl, hb3⟩
        have HB3 := Lib.hid (HB.out.trans (hb3.mono HB.out.size))
        clear hb3
        go_wp2
        go_ret
        exact ⟨by rw [← HO.out, HF.out]; rfl, HB3.out⟩
      · rw [hx] at HN
        have HF := Lib.hid (HX.out hx)
        clear HX HY hx
        go_wp2_with fail
        refine HN.out.mono ?_
        rintro e w3 ⟨rfl, hb3⟩
        have HB3 := Lib.hid (HB.out.trans (hb3.mono HB.out.size))
        clear hb3
        go_wp2
        exact ⟨⟨k + 1, by go_num, by omega, HF.out, HB3.out⟩, by (simp [intOf]) <;> omega⟩
    · obtain rfl : k = l.length := by omega
      have hz : out = true := by rw [← HO.out, ← HA.out, List.take_length]
      have HZ := Lib.hid hz
      clear hb hz
      go_wp2
      go_ret
      exact ⟨by rw [HZ.out]; rfl, HB.out⟩

/-- The first place of which something is true. -/
def firstI {α : Type} (p : α → Bool) (l : List α) : Int := match l.findIdx? p with
  | some i => (i : Int)
  | none => -1
theorem firstI_at {α : Type} (p : α → Bool) : ∀ (l : List α) (k : Nat) (h : k < l.length), (l.take k).all (fun x => !p x) = true → p l[k] = true → firstI p l = k
  | x :: l, 0, _, _, h2 => by
    have h3 : p x = true := h2
    unfold firstI
    simp [List.findIdx?_cons, h3]
  | x :: l, k + 1, h, h1, h2 => by
    rw [List.take_succ_cons, List.all_cons, Bool.and_eq_true] at h1
    have ih := firstI_at p l k (by simpa using h) h1.2 h2
    have hx : p x = false := by simpa using h1.1
    unfold firstI at ih ⊢
    rw [List.findIdx?_cons, hx]
    cases hq : l.findIdx? p with
    | none => rw [hq] at ih; simp at ih
    | some j => rw [hq] at ih; simp at ih ⊢; omega
theorem firstI_none {α : Type} (p : α → Bool) (l : List α) (h : l.all (fun x => !p x) = true) : firstI p l = -1 := by
  unfold firstI
  have : l.findIdx? p = none := by
    rw [List.findIdx?_eq_none_iff]
    intro x hx
    rw [List.all_eq_true] at h
    simpa using h x hx
  rw [this]
def nameIs (s : ByteArray) (c : ColV) : Bool := c.name.toList == s.toList

set_option maxRecDepth 100000 in
theorem col1_any (w : World) (c : ColV) (s : ByteArray) (b : Nat) (hb : w.cell? ⟨b, 0, none⟩ = some (.string s)) (hlt : b < w.heap.size) :
    Calls Tryd.prog 92 #[.agg #[.string c.name, .int .i64 c.kind], .pointer (some ⟨b, 0, none⟩)] w fun e w' => e = .returned (.bool (nameIs s c)) ∧ Below w.heap.size w w' := by
  obtain ⟨nm, k⟩ := c
  simp only [nameIs]
  obtain ⟨w1, hw1⟩ : ∃ w1, w.alloc (.cells #[.string nm, .int .i64 k] 66) = w1 := ⟨_, rfl⟩
  have b1 : Below w.heap.size w w1 := hw1 ▸ (Below.refl _ _).alloc (Nat.le_refl _) _
  have k1 : Blk w1 w.heap.size 66 [.string nm, .int .i64 k] := by rw [← hw1]; exact Blk.new w _ _
  have x0 := k1.cell 0
  simp only [List.getElem?_cons_zero] at x0
  have y0 := (b1.cell hlt).trans hb
  have HB := Lib.hid b1
  clear b1 k1 hb hlt
  go_enter Tryd.func92, Tryd.ntmps92
  go_wp2
  go_ret
  exact ⟨rfl, HB.out⟩

set_option maxRecDepth 100000 in
theorem indexf_col (w : World) (B : Nat → Prop) (v : Value) (l : List ColV) (s : ByteArray) (b : Nat) (h : Sl w B 2 v l.length (colCells l)) (hb : w.cell? ⟨b, 0, none⟩ = some (.string s)) (hlt : b < w.heap.size) :
    Calls Tryd.prog 91 #[v, .func (.func 92) #[] #[.pointer (some ⟨b, 0, none⟩)]] w fun e w' => e = .returned (.int .i64 (firstI (nameIs s) l)) ∧ Below w.heap.size w w' := by
  obtain ⟨p, cap, rfl, hc1, hc2⟩ := h.form
  have H := Lib.hid h
  have HC := Lib.hid (fun W (hw : Below w.heap.size w W) c => col1_any W c s b ((hw.cell hlt).trans hb) (Nat.lt_of_lt_of_le hlt hw.size))
  clear h hb hlt
  obtain ⟨out, hout⟩ : ∃ out, firstI (nameIs s) l = out := ⟨_, rfl⟩
  rw [hout]
  have HO := Lib.hid hout
  clear hout
  go_enter Tryd.func91, Tryd.ntmps91
  go_wp2
  go_loopw [8] (fun i wr => ∃ k : Nat, i = .int .i64 k ∧ k ≤ l.length ∧ (l.take k).all (fun x => !nameIs s x) = true ∧ Below w.heap.size w wr) (fun i _ => l.length - (intOf i).toNat)
  case atStart => exact ⟨0, rfl, Nat.zero_le _, rfl, Below.refl _ _⟩
  case round =>
    obtain ⟨k, rfl, hk, hall, hbw⟩ := hrel
    have HB := Lib.hid hbw
    have HA := Lib.hid hall
    clear hall
    by_cases hka : k < l.length
    · obtain ⟨g, off, cap1, hv, hg, e0, e1⟩ := sl_col (H.out.below hbw) hka
      cases hv
      have HX := Lib.hid (all_next (fun x => !nameIs s x) l k hka HA.out)
      have HY := Lib.hid (firstI_at (nameIs s) l k hka HA.out)
      have HN := Lib.hid (HC.out wr hbw l[k])
      clear hbw
      generalize l[k] = x at *
      cases hx : nameIs s x
      · rw [hx] at HN
        have HF := Lib.hid (HX.out (by rw [hx]; rfl))
        clear HX HY hx
        go_wp2_with fail
        refine HN.out.mono ?_
        rintro e w3 ⟨rfl, hb3⟩
        have HB3 := Lib.hid (HB.out.trans (hb3.mono HB.out.size))
        clear hb3
        go_wp2
        exact ⟨⟨k + 1, by go_num, by omega, HF.out, HB3.out⟩, by (simp [intOf]) <;> omega⟩
      · rw [hx] at HN
        have HF := Lib.hid (HY.out hx)
        clear HX HY hx
        go_wp2_with fail
        refine HN.out.mono ?_
        rintro e w3 ⟨rfl, hb3⟩
        have HB3 := Lib.hid (HB.out.trans (hb3.mono HB.out.size))
        clear hb3
        go_wp2
        go_ret
        exact ⟨by rw [← HO.out, HF.out]; rfl, HB3.out⟩
    · obtain rfl : k = l.length := by omega
      have hz : out = -1 := by rw [← HO.out]; exact firstI_none _ _ (by have := HA.out; rwa [List.take_length] at this)
      have HZ := Lib.hid hz
      clear hbw hz
      go_wp2
      go_ret
      exact ⟨by rw [HZ.out]; rfl, HB.out⟩

set_option maxRecDepth 100000 in
theorem col_any (w : World) (B : Nat → Prop) (s : SchV) (nm : ByteArray) (h : SchAt w B s) :
    Calls Tryd.prog 52 #[s.agg, .string nm] w fun e w' => e = .returned (.int .i64 (firstI (nameIs nm) s.cols)) ∧ Below w.heap.size w w' := by
  obtain ⟨pc, cc, hpc, hcc1, hcc⟩ := h.cols.form
  obtain ⟨pi, ci, hpi, hci1, hci⟩ := h.idx.1.form
  have hga : s.agg = .agg #[.string s.name, .slice pc s.cols.length cc, .slice pi s.idx.length ci, .int .i64 s.limit, .int .i64 s.parts, .int .i64 s.by_] := by unfold SchV.agg; rw [hpc, hpi]
  rw [hga]
  obtain ⟨w1, hw1⟩ : ∃ w1, w.alloc (.cells #[.string s.name, .slice pc s.cols.length cc, .slice pi s.idx.length ci, .int .i64 s.limit, .int .i64 s.parts, .int .i64 s.by_] 47) = w1 := ⟨_, rfl⟩
  obtain ⟨w2, hw2⟩ : ∃ w2, w1.alloc (.cells #[.string nm] 9) = w2 := ⟨_, rfl⟩
  have b1 : Below w.heap.size w w1 := hw1 ▸ (Below.refl _ _).alloc (Nat.le_refl _) _
  have b2 : Below w1.heap.size w1 w2 := hw2 ▸ (Below.refl _ _).alloc (Nat.le_refl _) _
  have b12 := b1.trans (b2.mono b1.size)
  have k1 : Blk w1 w.heap.size 47 [.string s.name, .slice pc s.cols.length cc, .slice pi s.idx.length ci, .int .i64 s.limit, .int .i64 s.parts, .int .i64 s.by_] := by rw [← hw1]; exact Blk.new w _ _
  have k2 : Blk w2 w1.heap.size 9 [.string nm] := by rw [← hw2]; exact Blk.new w1 _ _
  obtain ⟨x0, x1, x2, x3, x4, x5⟩ := sch_cells (k1.below b2)
  have HI := Lib.hid (indexf_col w2 B (.slice pc s.cols.length cc) s.cols nm w1.heap.size ((hpc ▸ h.cols).below b12) (k2.cell 0) k2.lt)
  have HB := Lib.hid b12
  clear b1 b2 b12 k1 k2 hga hpc hpi h
  generalize firstI (nameIs nm) s.cols = out at *
  go_enter Tryd.func52, Tryd.ntmps52
  go_wp2_with fail
  refine HI.out.mono ?_
  rintro e w3 ⟨rfl, hb3⟩
  have HB3 := Lib.hid (HB.out.trans (hb3.mono HB.out.size))
  clear hb3
  go_wp2
  go_ret
  exact ⟨rfl, HB3.out⟩
end Go.Proofs.YtlgohkdckdnmhaaDoor
