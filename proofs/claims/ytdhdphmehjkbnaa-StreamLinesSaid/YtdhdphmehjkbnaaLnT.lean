/- Lines: Take. -/
import Derived.Test.YtdhdphmehjkbnaaLnE
namespace Go.Proofs.Ytdhdphmehjkbnaa
open Go.RowKit Go.Afx
variable {F : Nat → Prop}

theorem own_cap {w : World} {e : TypeId} {sz n cap : Nat} {p : Option Addr} {cs : List Value} (h : Own w e sz (.slice p n cap) n cs) : n ≤ cap := by
  obtain ⟨p', c', hv, h1, _⟩ := own_form h
  cases hv; exact h1
def TakeOut (F : Nat → Prop) (w : World) (b : Nat) (lv : Value) (nm : ByteArray) (cl : List ColV) (room : Int) (l : List BatV) (e : Ending) (w' : World) : Prop :=
  (l = [] ∧ e = .returned (.tuple #[.agg #[.int .i64 0, .slice none 0 0], .bool false]) ∧ Below w.heap.size w w') ∨
  (∃ x t v acc lv', l = x :: t ∧ e = .returned (.tuple #[.agg #[.int .i64 x.id, v], .bool true]) ∧ RowsAt w' (fun k => w.heap.size ≤ k) v acc ∧ acc.map RowV.l = x.rows.map RowV.l ∧
    IsLine F w' b lv' nm cl room t ∧ lv'.ownBlock = lv.ownBlock ∧ Only (fun k => k = b) w w')
theorem rowsN_cons (x : BatV) (t : List BatV) : rowsN (x :: t) = x.rows.length + rowsN t := by simp [rowsN]

set_option maxRecDepth 100000 in
set_option maxHeartbeats 1000000 in
theorem ltake (w : World) (b : Nat) (lv : Value) (nm : ByteArray) (cl : List ColV) (room : Int) (l : List BatV) (h : IsLine F w b lv nm cl room l) (hrl : ∀ x ∈ l, x.rows.length ≤ 1000000 ∧ ∀ r ∈ x.rows, r.l.length ≤ 1000000) (hrn : rowsN l ≤ 1000000000) :
    Calls Try.prog 56 #[.pointer (some ⟨b, 0, none⟩)] w (TakeOut F w b lv nm cl room l) := by
  have hal : Below w.heap.size w (w.alloc (.cells #[.int .i64 0, .slice none 0 0] 38)) := (Below.refl _ _).alloc (Nat.le_refl _) _
  have HK : Hid (Blk (w.alloc (.cells #[.int .i64 0, .slice none 0 0] 38)) w.heap.size 38 [.int .i64 0, .slice none 0 0]) := Blk.new w _ _
  have hl2 := h.below hal
  have HF := Lib.hid (lfirst _ b lv nm cl room l hl2 hrl)
  obtain ⟨cv, a1, a2, a3, a4, a5⟩ := h
  have HA1 := Lib.hid a1
  have HA2 := Lib.hid a2
  have HA3 := Lib.hid a3
  have HA4 := Lib.hid a4
  have HA5 := Lib.hid a5
  have HAL := Lib.hid hal
  have hbl := a1.lt
  clear hal hl2 hrl a1 a2 a3 a4 a5
  go_enter Try.func56, Try.ntmps56
  go_wp2_with fail
  generalize hw1 : w.alloc (.cells #[.int .i64 0, .slice none 0 0] 38) = w1 at *
  clear hw1
  refine HF.out.mono ?_
  clear HF
  rintro e w2 hfo
  rcases hfo with ⟨rfl, rfl, hb2⟩ | ⟨x, t, v, acc, hlx, rfl, hra, hacc, hb2⟩
  · have hk2 := HK.out.below hb2
    have k0 : w2.cell? ⟨w.heap.size, 0, none⟩ = some (.int .i64 0) := hk2.cell 0
    have k1 : w2.cell? ⟨w.heap.size, 1, none⟩ = some (.slice none 0 0) := hk2.cell 1
    have kf : ∀ i, w2.frozen? ⟨w.heap.size, i, none⟩ = false := hk2.frozen
    have hlt : w.heap.size < w2.heap.size := hk2.lt
    have HB2 := Lib.hid (HAL.out.trans (hb2.mono HAL.out.size))
    clear hk2 hb2
    go_wp2
    refine bodyPost_ret (v := .tuple #[.agg #[.int .i64 0, .slice none 0 0], .bool false]) (by simp [results, Try.results56, go_sem, k0, k1, hlt]) rfl (Or.inl ⟨rfl, rfl, ?_⟩)
    exact ((HB2.out.setCell (p := ⟨w.heap.size, 0, none⟩) (Nat.le_refl _) _).setCell (p := ⟨w.heap.size, 1, none⟩) (Nat.le_refl _) _).alloc (by simp; exact HB2.out.size) _
  · obtain ⟨p3, c3, rfl, hc31, hc32⟩ := hra.1.form
    have hk1 := HK.out.lt
    have hbw : b ≠ w.heap.size := by omega
    have hal3 : Below w2.heap.size w2 (w2.alloc (.cells #[.int .i64 x.id, .slice p3 acc.length c3] 38)) := (Below.refl _ _).alloc (Nat.le_refl _) _
    have hk3 := (HK.out.below hb2).below hal3
    have hk4 := Blk.new w2 38 [.int .i64 x.id, .slice p3 acc.length c3]
    have hra3 := hra.below hal3
    have hb3 : Below w.heap.size w (w2.alloc (.cells #[.int .i64 x.id, .slice p3 acc.length c3] 38)) := (HAL.out.trans (hb2.mono HAL.out.size)).alloc (Nat.le_trans HAL.out.size hb2.size) _
    have hs2 : w1.heap.size ≤ w2.heap.size := hb2.size
    have hw1s : w.heap.size < w1.heap.size := hk1
    have HB3 := Lib.hid hb3
    have HRA := Lib.hid hra3
    have HACC := Lib.hid hacc
    have HLX := Lib.hid hlx
    have HK3 := Lib.hid hk3
    have HK4 := Lib.hid hk4
    have hal2 : acc.length = x.rows.length := by
      have := congrArg List.length hacc
      simpa using this
    have hln : l.length = t.length + 1 := by rw [hlx]; rfl
    have hrn2 : rowsN l = x.rows.length + rowsN t := by rw [hlx, rowsN_cons]
    have hlp : 1 ≤ l.length := by omega
    have HLN := Lib.hid hln
    have HAL2 := Lib.hid hal2
    have HRN2 := Lib.hid hrn2
    have hrs : (-9223372036854775808 : Int) ≤ ((rowsN l : Nat) : Int) - (acc.length : Int) := by omega
    have hrs2 : ((rowsN l : Nat) : Int) - (acc.length : Int) ≤ 9223372036854775807 := by omega
    clear hln hal2 hrn2
    clear HK hra hra3 hb3 hal3 hk3 hk4 hb2 hacc hlx
    have hbs : Below w.heap.size w (w2.alloc (.cells #[.int .i64 x.id, .slice p3 acc.length c3] 38)) := HB3.out
    have h1 := HA1.out.below hbs
    have h4 := HA3.out.below hbs
    have h5 := HA4.out
    obtain ⟨g, off, cap, rfl, hg, e0, e1⟩ := sl_bat (h4.sl (B := fun _ => True) (fun _ _ => trivial)) (k := 0) (by omega)
    have k0 : (w2.alloc (.cells #[.int .i64 x.id, .slice p3 acc.length c3] 38)).cell? ⟨b, 2, none⟩ = some (.slice (some ⟨g, off, none⟩) l.length cap) := h1.cell 2
    have kf : ∀ i, (w2.alloc (.cells #[.int .i64 x.id, .slice p3 acc.length c3] 38)).frozen? ⟨b, i, none⟩ = false := h1.frozen
    have hkb : (w2.alloc (.cells #[.int .i64 x.id, .slice p3 acc.length c3] 38)).cell? ⟨b, 4, none⟩ = some (.int .i64 (rowsN l : Nat)) := h1.cell 4
    have H4 := Lib.hid h4
    have y4 : (w2.alloc (.cells #[.int .i64 x.id, .slice p3 acc.length c3] 38)).cell? ⟨w2.heap.size, 0, none⟩ = some (.int .i64 x.id) := HK4.out.cell 0
    have y5 : (w2.alloc (.cells #[.int .i64 x.id, .slice p3 acc.length c3] 38)).cell? ⟨w2.heap.size, 1, none⟩ = some (.slice p3 acc.length c3) := HK4.out.cell 1
    have HBG : Hid ((Value.slice (some ⟨g, off, none⟩) l.length cap).ownBlock ≠ some b) := h5
    have HKB := Lib.hid h1
    have hgw : g < w.heap.size := HA3.out.lt g rfl
    have HGW : Hid ((Value.slice (some ⟨g, off, none⟩) l.length cap).ownBlock ≠ some w.heap.size) := fun h => by
      have h9 : g = w.heap.size := by simpa [Value.ownBlock] using h
      omega
    have HRT : Hid (((rowsN l : Nat) : Int) - (acc.length : Int) = ((rowsN t : Nat) : Int)) := by
      have h8 := HRN2.out
      have h9 := HAL2.out
      have h10 : ((rowsN l : Nat) : Int) - (acc.length : Int) = ((rowsN t : Nat) : Int) := by omega
      exact Lib.hid h10
    clear h1 h4 h5 e0 e1 hbs
    have hif : IntKind.i64.wrap (((rowsN l : Nat) : Int) - (acc.length : Int)) = ((rowsN l : Nat) : Int) - (acc.length : Int) := IntWalk.i64_in _ (by omega)
    by_cases hcap : cap = 1
    · subst hcap
      have HNV : Hid (Own (w2.alloc (.cells #[.int .i64 x.id, .slice p3 acc.length c3] 38)) 38 2 (.slice (some ⟨g, off, none⟩) (l.length - 1) 0) t.length (batCells t)) := by
        have h4 := H4.out
        have hl := HLX.out
        subst hl
        have h9 := own_cap h4
        have ht : t = [] := List.eq_nil_of_length_eq_zero (by simp only [List.length_cons] at h9; omega)
        subst ht
        exact Lib.hid h4.behind_none
      go_wp2_with fail
      generalize hw3 : w2.alloc (.cells #[.int .i64 x.id, .slice p3 acc.length c3] 38) = w3 at *
      clear hw3
      go_wp2_with fail
      have HOB : Hid ((Value.slice (some ⟨g, off, none⟩) (l.length - 1) 0).ownBlock = (Value.slice (some ⟨g, off, none⟩) l.length 1).ownBlock) := rfl
      generalize Value.slice (some ⟨g, off, none⟩) (l.length - 1) 0 = nlv at *
      have ho4 : Only (fun q => q = b) w3 (w3.setCell ⟨b, 2, none⟩ nlv) := (Only.refl (fun q => q = b) w3).setCell (p := ⟨b, 2, none⟩) (fun _ => rfl) _
      have hk5 : Blk (w3.setCell ⟨b, 2, none⟩ nlv) b 135 [.string nm, cv, nlv, .int .i64 room, .int .i64 (rowsN l : Nat)] := HKB.out.set 2 _
      have hnv := HNV.out.only ho4 (fun q hq h => by have h8 : q = b := h; rw [h8, HOB.out] at hq; exact HBG.out hq)
      have kf4 : ∀ i, (w3.setCell ⟨b, 2, none⟩ nlv).frozen? ⟨b, i, none⟩ = false := hk5.frozen
      have hkb4 : (w3.setCell ⟨b, 2, none⟩ nlv).cell? ⟨b, 4, none⟩ = some (.int .i64 (rowsN l : Nat)) := hk5.cell 4
      have hkn4 := HK4.out.only ho4 (fun h => by omega)
      have y4b : (w3.setCell ⟨b, 2, none⟩ nlv).cell? ⟨w2.heap.size, 0, none⟩ = some (.int .i64 x.id) := hkn4.cell 0
      have y5b : (w3.setCell ⟨b, 2, none⟩ nlv).cell? ⟨w2.heap.size, 1, none⟩ = some (.slice p3 acc.length c3) := hkn4.cell 1
      have hkz := HK3.out.only ho4 (fun h => hbw h.symm)
      have z0 : (w3.setCell ⟨b, 2, none⟩ nlv).cell? ⟨w.heap.size, 0, none⟩ = some (.int .i64 0) := hkz.cell 0
      have z1 : (w3.setCell ⟨b, 2, none⟩ nlv).cell? ⟨w.heap.size, 1, none⟩ = some (.slice none 0 0) := hkz.cell 1
      have zf : ∀ i, (w3.setCell ⟨b, 2, none⟩ nlv).frozen? ⟨w.heap.size, i, none⟩ = false := hkz.frozen
      have hbw2 : w.heap.size ≠ b := fun h => hbw h.symm
      have HK5 := Lib.hid hk5
      have HO4 := Lib.hid ho4
      have HNV4 := Lib.hid hnv
      have HKN4 := Lib.hid hkn4
      clear hkz hk5 ho4 hnv hkn4 k0 kf hkb y4 y5 HNV
      generalize hw4 : w3.setCell ⟨b, 2, none⟩ nlv = w4 at *
      clear hw4
      refine wp_region_lit_plan [] [(0, 0), (1, 0), (2, 0), (4, 0), (3, 1), (5, 1), (6, 0), (7, 0), (8, 0), (9, 0), (10, 4)] (fun _ => False) (by kernel_rfl) (by kernel_rfl) (fun c a d v w h => by cases d <;> exact h) ?_
      go_wp2_with (first
        | (refine plan_pure (v := _) (by rfl) (by rfl) (by rfl) (by intro _; go_simp; with_reducible rfl) ?_; simp only [List.setIfInBounds_toArray, List.set_cons_zero, List.set_cons_succ]; try go_bits) | (refine plan_read (v := _) (by rfl) (by rfl) (by rfl) (by go_simp; with_reducible rfl) ?_; simp only [List.setIfInBounds_toArray, List.set_cons_zero, List.set_cons_succ]; try go_bits) | (refine plan_readB (v := _) (by rfl) (by rfl) (by rfl) (by intro _ hag; unfold Agree at hag; go_simp; with_reducible rfl) ?_; simp only [List.setIfInBounds_toArray, List.set_cons_zero, List.set_cons_succ]; try go_bits) | (refine plan_skip0 (by rfl) (by rfl) (by rfl) ?_; simp only [List.setIfInBounds_toArray, List.set_cons_zero, List.set_cons_succ]; try go_bits) | (refine plan_skip1 (by rfl) (by rfl) (by rfl) ?_; simp only [List.setIfInBounds_toArray, List.set_cons_zero, List.set_cons_succ]; try go_bits) | (refine plan_skip2 (by rfl) (by rfl) (by rfl) ?_; simp only [List.setIfInBounds_toArray, List.set_cons_zero, List.set_cons_succ]; try go_bits) | (refine plan_skip4 (by rfl) (by rfl) (by rfl) ?_; simp only [List.setIfInBounds_toArray, List.set_cons_zero, List.set_cons_succ]; try go_bits) | (refine plan_any (by rfl) ?_) | (refine plan_keep (by rfl) ?_) | (refine plan_nil ?_) | (with_reducible refine And.intro (by first | assumption | exact Agree.refl _ _ | exact agree_drew _ _ | exact agree_alloc _ (by intro k hk; subst hk; first | omega | (simp; omega))) ?_) | (unfold Act.put; simp only [List.setIfInBounds_toArray, List.set_cons_zero, List.set_cons_succ]))
      refine bodyPost_ret (v := .tuple #[.agg #[.int .i64 x.id, .slice p3 acc.length c3], .bool true]) (by simp [results, Try.results56, go_sem, z0, z1]) rfl ?_
      have ho5 : Only (fun q => q = b ∨ q = w.heap.size) w3 (((w4.setCell ⟨b, 4, none⟩ (.int .i64 (((rowsN l : Nat) : Int) - (acc.length : Int)))).setCell ⟨w.heap.size, 0, none⟩ (.int .i64 x.id)).setCell ⟨w.heap.size, 1, none⟩ (.slice p3 acc.length c3)).drew :=
        (((((HO4.out.mono (S' := fun q => q = b ∨ q = w.heap.size) (fun _ _ h => Or.inl h)).setCell (p := ⟨b, 4, none⟩) (fun _ => Or.inl rfl) _).setCell (p := ⟨w.heap.size, 0, none⟩) (fun _ => Or.inr rfl) _).setCell (p := ⟨w.heap.size, 1, none⟩) (fun _ => Or.inr rfl) _).drew)
      have ho6 : Only (fun q => q = b) w (((w4.setCell ⟨b, 4, none⟩ (.int .i64 (((rowsN l : Nat) : Int) - (acc.length : Int)))).setCell ⟨w.heap.size, 0, none⟩ (.int .i64 x.id)).setCell ⟨w.heap.size, 1, none⟩ (.slice p3 acc.length c3)).drew :=
        (Only.of_none HB3.out).trans ho5 (fun q hq h => by rcases h with h | h <;> omega)
      refine Or.inr ⟨x, t, _, acc, nlv, HLX.out, rfl, ?_, HACC.out, ⟨cv, ?_, ?_, ?_, ?_, ?_⟩, HOB.out, ho6⟩
      · have h8 := HRA.out.only ho5 (fun q hq h => by rcases h with h | h <;> omega)
        exact ⟨h8.1.mono (Nat.le_refl _) (fun _ _ _ => rfl) (fun _ h _ => by omega), fun r hr => (h8.2 r hr).mono (Nat.le_refl _) (fun _ _ _ => rfl) (fun _ h _ => by omega)⟩
      · refine Blk.congr (((HK5.out.set 4 (.int .i64 (((rowsN l : Nat) : Int) - (acc.length : Int)))).setOther (p := ⟨w.heap.size, 0, none⟩) hbw _).setOther (p := ⟨w.heap.size, 1, none⟩) hbw _).drew ?_
        rw [HRT.out]; rfl
      · rw [HOB.out]
        exact HA2.out.only ho6 (fun q hq h => hq.1 h)
      · exact (((HNV4.out.setOther (p := ⟨b, 4, none⟩) (by rw [HOB.out]; exact HBG.out) _).setOther (p := ⟨w.heap.size, 0, none⟩) (by rw [HOB.out]; exact HGW.out) _).setOther (p := ⟨w.heap.size, 1, none⟩) (by rw [HOB.out]; exact HGW.out) _).drew
      · rw [HOB.out]; exact HBG.out
      · intro y hy
        rw [HOB.out]
        exact (HA5.out y (by rw [HLX.out]; exact List.mem_cons_of_mem _ hy)).only ho6 (fun q hq h => hq.1 h)
    · have HNV : Hid (Own (w2.alloc (.cells #[.int .i64 x.id, .slice p3 acc.length c3] 38)) 38 2 (.slice (some ⟨g, off + 2, none⟩) (l.length - 1) (cap - 1)) t.length (batCells t)) := by
        have h4 := H4.out
        have hl := HLX.out
        subst hl
        exact Lib.hid h4.behind
      go_wp2_with fail
      generalize hw3 : w2.alloc (.cells #[.int .i64 x.id, .slice p3 acc.length c3] 38) = w3 at *
      clear hw3
      go_wp2_with fail
      have HOB : Hid ((Value.slice (some ⟨g, off + 2, none⟩) (l.length - 1) (cap - 1)).ownBlock = (Value.slice (some ⟨g, off, none⟩) l.length cap).ownBlock) := rfl
      generalize Value.slice (some ⟨g, off + 2, none⟩) (l.length - 1) (cap - 1) = nlv at *
      have ho4 : Only (fun q => q = b) w3 (w3.setCell ⟨b, 2, none⟩ nlv) := (Only.refl (fun q => q = b) w3).setCell (p := ⟨b, 2, none⟩) (fun _ => rfl) _
      have hk5 : Blk (w3.setCell ⟨b, 2, none⟩ nlv) b 135 [.string nm, cv, nlv, .int .i64 room, .int .i64 (rowsN l : Nat)] := HKB.out.set 2 _
      have hnv := HNV.out.only ho4 (fun q hq h => by have h8 : q = b := h; rw [h8, HOB.out] at hq; exact HBG.out hq)
      have kf4 : ∀ i, (w3.setCell ⟨b, 2, none⟩ nlv).frozen? ⟨b, i, none⟩ = false := hk5.frozen
      have hkb4 : (w3.setCell ⟨b, 2, none⟩ nlv).cell? ⟨b, 4, none⟩ = some (.int .i64 (rowsN l : Nat)) := hk5.cell 4
      have hkn4 := HK4.out.only ho4 (fun h => by omega)
      have y4b : (w3.setCell ⟨b, 2, none⟩ nlv).cell? ⟨w2.heap.size, 0, none⟩ = some (.int .i64 x.id) := hkn4.cell 0
      have y5b : (w3.setCell ⟨b, 2, none⟩ nlv).cell? ⟨w2.heap.size, 1, none⟩ = some (.slice p3 acc.length c3) := hkn4.cell 1
      have hkz := HK3.out.only ho4 (fun h => hbw h.symm)
      have z0 : (w3.setCell ⟨b, 2, none⟩ nlv).cell? ⟨w.heap.size, 0, none⟩ = some (.int .i64 0) := hkz.cell 0
      have z1 : (w3.setCell ⟨b, 2, none⟩ nlv).cell? ⟨w.heap.size, 1, none⟩ = some (.slice none 0 0) := hkz.cell 1
      have zf : ∀ i, (w3.setCell ⟨b, 2, none⟩ nlv).frozen? ⟨w.heap.size, i, none⟩ = false := hkz.frozen
      have hbw2 : w.heap.size ≠ b := fun h => hbw h.symm
      have HK5 := Lib.hid hk5
      have HO4 := Lib.hid ho4
      have HNV4 := Lib.hid hnv
      have HKN4 := Lib.hid hkn4
      clear hkz hk5 ho4 hnv hkn4 k0 kf hkb y4 y5 HNV
      generalize hw4 : w3.setCell ⟨b, 2, none⟩ nlv = w4 at *
      clear hw4
      refine wp_region_lit_plan [] [(0, 0), (1, 0), (2, 0), (4, 0), (3, 1), (5, 1), (6, 0), (7, 0), (8, 0), (9, 0), (10, 4)] (fun _ => False) (by kernel_rfl) (by kernel_rfl) (fun c a d v w h => by cases d <;> exact h) ?_
      go_wp2_with (first
        | (refine plan_pure (v := _) (by rfl) (by rfl) (by rfl) (by intro _; go_simp; with_reducible rfl) ?_; simp only [List.setIfInBounds_toArray, List.set_cons_zero, List.set_cons_succ]; try go_bits) | (refine plan_read (v := _) (by rfl) (by rfl) (by rfl) (by go_simp; with_reducible rfl) ?_; simp only [List.setIfInBounds_toArray, List.set_cons_zero, List.set_cons_succ]; try go_bits) | (refine plan_readB (v := _) (by rfl) (by rfl) (by rfl) (by intro _ hag; unfold Agree at hag; go_simp; with_reducible rfl) ?_; simp only [List.setIfInBounds_toArray, List.set_cons_zero, List.set_cons_succ]; try go_bits) | (refine plan_skip0 (by rfl) (by rfl) (by rfl) ?_; simp only [List.setIfInBounds_toArray, List.set_cons_zero, List.set_cons_succ]; try go_bits) | (refine plan_skip1 (by rfl) (by rfl) (by rfl) ?_; simp only [List.setIfInBounds_toArray, List.set_cons_zero, List.set_cons_succ]; try go_bits) | (refine plan_skip2 (by rfl) (by rfl) (by rfl) ?_; simp only [List.setIfInBounds_toArray, List.set_cons_zero, List.set_cons_succ]; try go_bits) | (refine plan_skip4 (by rfl) (by rfl) (by rfl) ?_; simp only [List.setIfInBounds_toArray, List.set_cons_zero, List.set_cons_succ]; try go_bits) | (refine plan_any (by rfl) ?_) | (refine plan_keep (by rfl) ?_) | (refine plan_nil ?_) | (with_reducible refine And.intro (by first | assumption | exact Agree.refl _ _ | exact agree_drew _ _ | exact agree_alloc _ (by intro k hk; subst hk; first | omega | (simp; omega))) ?_) | (unfold Act.put; simp only [List.setIfInBounds_toArray, List.set_cons_zero, List.set_cons_succ]))
      refine bodyPost_ret (v := .tuple #[.agg #[.int .i64 x.id, .slice p3 acc.length c3], .bool true]) (by simp [results, Try.results56, go_sem, z0, z1]) rfl ?_
      have ho5 : Only (fun q => q = b ∨ q = w.heap.size) w3 (((w4.setCell ⟨b, 4, none⟩ (.int .i64 (((rowsN l : Nat) : Int) - (acc.length : Int)))).setCell ⟨w.heap.size, 0, none⟩ (.int .i64 x.id)).setCell ⟨w.heap.size, 1, none⟩ (.slice p3 acc.length c3)).drew :=
        (((((HO4.out.mono (S' := fun q => q = b ∨ q = w.heap.size) (fun _ _ h => Or.inl h)).setCell (p := ⟨b, 4, none⟩) (fun _ => Or.inl rfl) _).setCell (p := ⟨w.heap.size, 0, none⟩) (fun _ => Or.inr rfl) _).setCell (p := ⟨w.heap.size, 1, none⟩) (fun _ => Or.inr rfl) _).drew)
      have ho6 : Only (fun q => q = b) w (((w4.setCell ⟨b, 4, none⟩ (.int .i64 (((rowsN l : Nat) : Int) - (acc.length : Int)))).setCell ⟨w.heap.size, 0, none⟩ (.int .i64 x.id)).setCell ⟨w.heap.size, 1, none⟩ (.slice p3 acc.length c3)).drew :=
        (Only.of_none HB3.out).trans ho5 (fun q hq h => by rcases h with h | h <;> omega)
      refine Or.inr ⟨x, t, _, acc, nlv, HLX.out, rfl, ?_, HACC.out, ⟨cv, ?_, ?_, ?_, ?_, ?_⟩, HOB.out, ho6⟩
      · have h8 := HRA.out.only ho5 (fun q hq h => by rcases h with h | h <;> omega)
        exact ⟨h8.1.mono (Nat.le_refl _) (fun _ _ _ => rfl) (fun _ h _ => by omega), fun r hr => (h8.2 r hr).mono (Nat.le_refl _) (fun _ _ _ => rfl) (fun _ h _ => by omega)⟩
      · refine Blk.congr (((HK5.out.set 4 (.int .i64 (((rowsN l : Nat) : Int) - (acc.length : Int)))).setOther (p := ⟨w.heap.size, 0, none⟩) hbw _).setOther (p := ⟨w.heap.size, 1, none⟩) hbw _).drew ?_
        rw [HRT.out]; rfl
      · rw [HOB.out]
        exact HA2.out.only ho6 (fun q hq h => hq.1 h)
      · exact (((HNV4.out.setOther (p := ⟨b, 4, none⟩) (by rw [HOB.out]; exact HBG.out) _).setOther (p := ⟨w.heap.size, 0, none⟩) (by rw [HOB.out]; exact HGW.out) _).setOther (p := ⟨w.heap.size, 1, none⟩) (by rw [HOB.out]; exact HGW.out) _).drew
      · rw [HOB.out]; exact HBG.out
      · intro y hy
        rw [HOB.out]
        exact (HA5.out y (by rw [HLX.out]; exact List.mem_cons_of_mem _ hy)).only ho6 (fun q hq h => hq.1 h)
end Go.Proofs.Ytdhdphmehjkbnaa
