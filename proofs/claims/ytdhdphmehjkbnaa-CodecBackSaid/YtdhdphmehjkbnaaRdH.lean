/- The reader: Value. -/
import Derived.Test.YtdhdphmehjkbnaaRdG
import Derived.Deep.CutBlock
import Derived.Deep.DeepCutAuto
namespace Go.Proofs.Ytdhdphmehjkbnaa
open Go.RowKit Go.Afx
variable {RB : Nat → Prop}

theorem Rdr.lt {w : World} {p : Option Addr} {bad : Bool} {l : List UInt8} (h : Rdr w p RB bad l) : ∀ k, Mine p k → k < w.heap.size := by
  intro k hk
  rcases h with ⟨rfl, _, _⟩ | ⟨b, rfl, h⟩
  · cases hk
  · obtain ⟨bv, h1, _⟩ := h
    rw [mine_eq hk]; exact h1.lt
theorem Rdr.below {w w' : World} {p : Option Addr} {bad : Bool} {l : List UInt8} (h : Rdr w p RB bad l) (hb : Below w.heap.size w w') : Rdr w' p RB bad l := by
  rcases h with ⟨rfl, rfl, rfl⟩ | ⟨b, rfl, h⟩
  · exact .inl ⟨rfl, rfl, rfl⟩
  · obtain ⟨bv, h1, h2, h3⟩ := h
    exact .inr ⟨b, rfl, bv, h1.below hb, h2.below hb, h3⟩
theorem Rdr.only {w w' : World} {p : Option Addr} {bad : Bool} {l : List UInt8} {S : Nat → Prop} (h : Rdr w p RB bad l) (hb : Only S w w') (hbb : ∀ k, S k → ¬ Mine p k) (hs : ∀ k, S k → ¬ RB k) : Rdr w' p RB bad l := by
  rcases h with ⟨rfl, rfl, rfl⟩ | ⟨b2, rfl, h⟩
  · exact .inl ⟨rfl, rfl, rfl⟩
  · obtain ⟨bv, h1, h2, h3⟩ := h
    exact .inr ⟨b2, rfl, bv, h1.only hb (fun h => hbb _ h rfl), h2.only hb (fun k hk h => hs k h hk.2), h3⟩

/-- A value as it stands, and the reader behind it. -/
def rRaw (bad : Bool) (l : List UInt8) : AV × Bool × List UInt8 :=
  let k := rByte bad l
  if k.1 = 1 then (⟨1, (rSign k.2.1 k.2.2).1, ⟨#[]⟩⟩, (rSign k.2.1 k.2.2).2) else if k.1 = 2 then (⟨2, 0, ⟨(rText 200 k.2.1 k.2.2).1.toArray⟩⟩, (rText 200 k.2.1 k.2.2).2)
    else if k.1 = 3 then (⟨3, (rByte k.2.1 k.2.2).1, ⟨#[]⟩⟩, (rByte k.2.1 k.2.2).2) else (⟨k.1, 0, ⟨#[]⟩⟩, k.2)
def AV.none : AV := ⟨0, 0, ⟨#[]⟩⟩
/-- A right value, and the reader behind it. -/
def rVal (bad : Bool) (l : List UInt8) : AV × Bool × List UInt8 := if (rRaw bad l).1.right = true ∧ (rRaw bad l).2.1 = false then rRaw bad l else (AV.none, true, [])

theorem AV.cells_none : AV.none.cells = [.int .i64 0, .int .i64 0, .string ⟨#[]⟩] := rfl
set_option maxRecDepth 100000 in
set_option maxHeartbeats 1000000 in
theorem val_r (w : World) (p : Option Addr) (bad : Bool) (l : List UInt8) (h : Rdr w p RB bad l) (hRB : ∀ k, RB k → k < w.heap.size) :
    Calls Try.prog 82 #[.pointer p] w fun e w' => e = .returned (rVal bad l).1.agg ∧ Rdr w' p RB (rVal bad l).2.1 (rVal bad l).2.2 ∧ Only (Mine p) w w' := by
  have hlt := h.lt
  have hal : Below w.heap.size w (w.alloc (.cells #[.int .i64 0, .int .i64 0, .string .empty] 56)) := (Below.refl _ _).alloc (Nat.le_refl _) _
  have HB := Lib.hid (byte_r _ p bad l (h.below hal))
  have HK2 : Hid (Blk (w.alloc (.cells #[.int .i64 0, .int .i64 0, .string .empty] 56)) w.heap.size 56 [.int .i64 0, .int .i64 0, .string .empty]) := Blk.new w 56 [.int .i64 0, .int .i64 0, .string .empty]
  have HO0 := Lib.hid ((Only.refl (Mine p) w).alloc (.cells #[.int .i64 0, .int .i64 0, .string .empty] 56))
  have hsz0 : (w.alloc (.cells #[.int .i64 0, .int .i64 0, .string .empty] 56)).heap.size = w.heap.size + 1 := by simp
  have HLT := Lib.hid hlt
  have HRB := Lib.hid hRB
  have HV : Hid (rVal bad l = if (rRaw bad l).1.right = true ∧ (rRaw bad l).2.1 = false then rRaw bad l else (AV.none, true, [])) := rfl
  generalize hv : rVal bad l = out at *
  have HRAW : Hid (∀ n bd l1, rByte bad l = (n, bd, l1) → rRaw bad l = if n = 1 then (⟨1, (rSign bd l1).1, ⟨#[]⟩⟩, (rSign bd l1).2) else if n = 2 then (⟨2, 0, ⟨(rText 200 bd l1).1.toArray⟩⟩, (rText 200 bd l1).2)
    else if n = 3 then (⟨3, (rByte bd l1).1, ⟨#[]⟩⟩, (rByte bd l1).2) else (⟨n, 0, ⟨#[]⟩⟩, bd, l1)) := fun n bd l1 h => by unfold rRaw; rw [h]
  generalize hr : rRaw bad l = rw at *
  clear h hal hr hlt hRB hv
  generalize hrb : rByte bad l = r at *
  obtain ⟨n, bd, l1⟩ := r
  have HRAW2 := Lib.hid (HRAW.out n bd l1 rfl)
  clear HRAW
  simp only at *
  clear hrb
  go_enter Try.func82, Try.ntmps82
  go_upto_block 0 with (go_at_call 101; refine HB.out.mono ?_; clear HB; rintro e w1 ⟨rfl, hr1, ho1⟩; have HR1 := Lib.hid hr1; have HO1 := Lib.hid ho1; clear hr1 ho1)
  have hlt1 : w.heap.size < w1.heap.size := by have := HO1.out.size; omega
  have hq1 : ∀ k, Mine p k → k < w.heap.size := HLT.out
  have hnm2 : ¬ Mine p w.heap.size := fun h => Nat.lt_irrefl _ (hq1 _ h)
  have hnm3 : ¬ Mine p w1.heap.size := fun h => by have := hq1 _ h; omega
  have HNM2 := Lib.hid hnm2
  have HNM3 := Lib.hid hnm3
  have HZ1 := Lib.hid (HK2.out.only HO1.out hnm2)
  have HW1 := Lib.hid (HO0.out.trans HO1.out (fun _ _ h => h))
  have hal1 : Below w1.heap.size w1 (w1.alloc (.cells #[.int .i64 n, .int .i64 0, .string ⟨#[]⟩] 56)) := (Below.refl _ _).alloc (Nat.le_refl _) _
  have HB3 : Hid (Blk (w1.alloc (.cells #[.int .i64 n, .int .i64 0, .string ⟨#[]⟩] 56)) w1.heap.size 56 [.int .i64 n, .int .i64 0, .string ⟨#[]⟩]) := Blk.new w1 _ _
  have HZ3 := Lib.hid (HZ1.out.below hal1)
  have HR3 := Lib.hid (HR1.out.below hal1)
  have HW3 := Lib.hid (HW1.out.alloc (.cells #[.int .i64 n, .int .i64 0, .string ⟨#[]⟩] 56))
  have hsz3 : (w1.alloc (.cells #[.int .i64 n, .int .i64 0, .string ⟨#[]⟩] 56)).heap.size = w1.heap.size + 1 := by simp
  clear hq1 hnm2 hnm3 hal1 HK2 HO0
  generalize hw3 : w1.alloc (.cells #[.int .i64 n, .int .i64 0, .string ⟨#[]⟩] 56) = w3 at *
  have k0 : w3.cell? ⟨w1.heap.size, 0, none⟩ = some (.int .i64 n) := HB3.out.cell 0
  clear hw3
  go_cut [] (fun wc => Blk wc w1.heap.size 56 rw.1.cells ∧ Blk wc w.heap.size 56 [.int .i64 0, .int .i64 0, .string .empty] ∧ Rdr wc p RB rw.2.1 rw.2.2 ∧ Only (Mine p) w wc)
  case first =>
    by_cases h1 : n = 1
    · subst h1
      have HS := Lib.hid (sign_r w3 p _ _ HR3.out)
      have HE : Hid (rw = (⟨1, (rSign bd l1).1, ⟨#[]⟩⟩, (rSign bd l1).2)) := by have := HRAW2.out; rw [if_pos rfl] at this; exact this
      clear HRAW2
      generalize rSign bd l1 = rs at *
      obtain ⟨x, bd2, l2⟩ := rs
      simp only at HE HS
      go_wp2_with fail
      refine HS.out.mono ?_
      rintro e w4 ⟨rfl, hr4, ho4⟩
      have hb4 := HB3.out.only ho4 HNM3.out
      have HR4 := Lib.hid hr4
      have k1 : w4.cell? ⟨w1.heap.size, 1, none⟩ = some (.int .i64 0) := hb4.cell 1
      have kf : ∀ i, w4.frozen? ⟨w1.heap.size, i, none⟩ = false := hb4.frozen
      have HB5 := Lib.hid (hb4.set 1 (.int .i64 x))
      have HZ5 := Lib.hid ((HZ3.out.only ho4 HNM2.out).setOther (p := ⟨w1.heap.size, 1, none⟩) (Nat.ne_of_lt hlt1) (.int .i64 x))
      have HW4 := Lib.hid (HW3.out.trans ho4 (fun _ _ h => h))
      clear hb4 hr4 ho4 HS HB3 HZ3 HR3 k0
      go_wp2
      go_meet
      rw [HE.out]
      exact ⟨HB5.out, HZ5.out, HR4.out.only ((Only.refl (fun k => k = w1.heap.size) w4).setCell (p := ⟨w1.heap.size, 1, none⟩) (fun _ => rfl) _) (fun k hk => by rw [hk]; exact HNM3.out) (fun k hk h => by rw [hk] at h; have := HRB.out _ h; omega), HW4.out.setCell (p := ⟨w1.heap.size, 1, none⟩) (fun h => absurd h (by simp; omega)) _⟩
    · have n1 : (n == 1) = false := by rw [beq_eq_false_iff_ne]; exact h1
      by_cases h2 : n = 2
      · subst h2
        have HS := Lib.hid (text_r w3 p _ _ HR3.out 200 (by unfold fit64; omega))
        have HE : Hid (rw = (⟨2, 0, ⟨(rText 200 bd l1).1.toArray⟩⟩, (rText 200 bd l1).2)) := by have := HRAW2.out; rw [if_neg (by decide), if_pos rfl] at this; exact this
        clear HRAW2
        generalize rText 200 bd l1 = rs at *
        obtain ⟨x, bd2, l2⟩ := rs
        simp only at HE HS
        clear n1 h1
        go_wp2_with fail
        refine HS.out.mono ?_
        rintro e w4 ⟨rfl, hr4, ho4⟩
        have hb4 := HB3.out.only ho4 HNM3.out
        have HR4 := Lib.hid hr4
        have k1 : w4.cell? ⟨w1.heap.size, 2, none⟩ = some (.string ⟨#[]⟩) := hb4.cell 2
        have kf : ∀ i, w4.frozen? ⟨w1.heap.size, i, none⟩ = false := hb4.frozen
        have HB5 := Lib.hid (hb4.set 2 (.string ⟨x.toArray⟩))
        have HZ5 := Lib.hid ((HZ3.out.only ho4 HNM2.out).setOther (p := ⟨w1.heap.size, 2, none⟩) (Nat.ne_of_lt hlt1) (.string ⟨x.toArray⟩))
        have HW4 := Lib.hid (HW3.out.trans ho4 (fun _ _ h => h))
        clear hb4 hr4 ho4 HS HB3 HZ3 HR3 k0
        go_wp2
        go_meet
        rw [HE.out]
        exact ⟨HB5.out, HZ5.out, HR4.out.only ((Only.refl (fun k => k = w1.heap.size) w4).setCell (p := ⟨w1.heap.size, 2, none⟩) (fun _ => rfl) _) (fun k hk => by rw [hk]; exact HNM3.out) (fun k hk h => by rw [hk] at h; have := HRB.out _ h; omega), HW4.out.setCell (p := ⟨w1.heap.size, 2, none⟩) (fun h => absurd h (by simp; omega)) _⟩
      · have n2 : (n == 2) = false := by rw [beq_eq_false_iff_ne]; exact h2
        by_cases h3 : n = 3
        · subst h3
          have HS := Lib.hid (byte_r w3 p _ _ HR3.out)
          have HE : Hid (rw = (⟨3, (rByte bd l1).1, ⟨#[]⟩⟩, (rByte bd l1).2)) := by have := HRAW2.out; rw [if_neg (by decide), if_neg (by decide), if_pos rfl] at this; exact this
          clear HRAW2
          generalize rByte bd l1 = rs at *
          obtain ⟨x, bd2, l2⟩ := rs
          simp only at HE HS
          clear n1 h1 n2 h2
          go_wp2_with fail
          refine HS.out.mono ?_
          rintro e w4 ⟨rfl, hr4, ho4⟩
          have hb4 := HB3.out.only ho4 HNM3.out
          have HR4 := Lib.hid hr4
          have k1 : w4.cell? ⟨w1.heap.size, 1, none⟩ = some (.int .i64 0) := hb4.cell 1
          have kf : ∀ i, w4.frozen? ⟨w1.heap.size, i, none⟩ = false := hb4.frozen
          have HB5 := Lib.hid (hb4.set 1 (.int .i64 x))
          have HZ5 := Lib.hid ((HZ3.out.only ho4 HNM2.out).setOther (p := ⟨w1.heap.size, 1, none⟩) (Nat.ne_of_lt hlt1) (.int .i64 x))
          have HW4 := Lib.hid (HW3.out.trans ho4 (fun _ _ h => h))
          clear hb4 hr4 ho4 HS HB3 HZ3 HR3 k0
          go_wp2
          go_meet
          rw [HE.out]
          exact ⟨HB5.out, HZ5.out, HR4.out.only ((Only.refl (fun k => k = w1.heap.size) w4).setCell (p := ⟨w1.heap.size, 1, none⟩) (fun _ => rfl) _) (fun k hk => by rw [hk]; exact HNM3.out) (fun k hk h => by rw [hk] at h; have := HRB.out _ h; omega), HW4.out.setCell (p := ⟨w1.heap.size, 1, none⟩) (fun h => absurd h (by simp; omega)) _⟩
        · have n3 : (n == 3) = false := by rw [beq_eq_false_iff_ne]; exact h3
          have HE : Hid (rw = (⟨n, 0, ⟨#[]⟩⟩, bd, l1)) := by have := HRAW2.out; rw [if_neg h1, if_neg h2, if_neg h3] at this; exact this
          clear HRAW2 h1 h2 h3
          go_wp2
          go_meet
          rw [HE.out]
          exact ⟨HB3.out, HZ3.out, HR3.out, HW3.out⟩
  case rest =>
    obtain ⟨hb, hz, hr, ho⟩ := hcut
    have HR := Lib.hid hr
    have HO := Lib.hid ho
    clear HRAW2 HR1 HO1 HZ1 HW1 HB3 HZ3 HR3 HW3 k0 hsz3 hsz0
    obtain ⟨⟨k, n2, s⟩, bd2, l2⟩ := rw
    have k0 : wc.cell? ⟨w1.heap.size, 0, none⟩ = some (.int .i64 k) := hb.cell 0
    have k1 : wc.cell? ⟨w1.heap.size, 1, none⟩ = some (.int .i64 n2) := hb.cell 1
    have k2 : wc.cell? ⟨w1.heap.size, 2, none⟩ = some (.string s) := hb.cell 2
    have HB := Lib.hid hb
    have HZ := Lib.hid hz
    simp only at HR HV HO
    have hsl : Sl (wc.alloc (.cells #[.int .i64 k, .int .i64 n2, .string s] 56)) (fun _ => True) 3 (.slice (some ⟨wc.heap.size, 0, none⟩) 1 1) [(⟨k, n2, s⟩ : AV)].length (rowCells [⟨k, n2, s⟩]) :=
      (Own.made wc 56 3 (rowCells [⟨k, n2, s⟩]) [] 1 1 rfl (by intro u hu; simp [rowCells, AV.cells] at hu; rcases hu with rfl | rfl | rfl <;> rfl) (Nat.le_refl _) (by simp [maxLen]) (by simp [rowCells, AV.cells])).sl (fun _ _ => trivial)
    have HRT := Lib.hid (right_any _ _ _ [⟨k, n2, s⟩] hsl (by simp))
    have era : rightAll [⟨k, n2, s⟩] = (⟨k, n2, s⟩ : AV).right := by simp [rightAll]
    rw [era] at HRT
    generalize hvr : (⟨k, n2, s⟩ : AV).right = r at *
    have hblw : Below wc.heap.size wc (wc.alloc (.cells #[.int .i64 k, .int .i64 n2, .string s] 56)) := (Below.refl _ _).alloc (Nat.le_refl _) _
    have HBLW := Lib.hid hblw
    clear hsl era hvr hb hz hr ho hblw
    have hltc : w1.heap.size < wc.heap.size := HB.out.lt
    go_wp2_with fail
    refine HRT.out.mono ?_
    clear HRT
    rintro e w5 ⟨rfl, hb5⟩
    have hbl5 : Below wc.heap.size wc w5 := HBLW.out.trans (hb5.mono HBLW.out.size)
    have HB5 := Lib.hid (HB.out.below hbl5)
    have HZ5 := Lib.hid (HZ.out.below hbl5)
    have HR5 := Lib.hid (HR.out.below hbl5)
    have HO5 := Lib.hid (HO.out.trans (Only.of_none hbl5 (S := fun _ => False)) (fun _ _ h => h.elim))
    clear hb5 hbl5 HB HZ HR HO k0 k1 k2 HBLW
    cases r
    · have HE : Hid (out = (AV.none, true, [])) := by have := HV.out; rw [if_neg (by simp)] at this; exact this
      clear HV
      have HF := Lib.hid (fail_r w5 p _ _ HR5.out)
      go_wp2_with fail
      refine HF.out.mono ?_
      clear HF
      rintro e w6 ⟨rfl, hr6, ho6⟩
      have HG := Lib.hid (good_r w6 p _ _ hr6)
      have HR6 := Lib.hid hr6
      have HO6 := Lib.hid (HO5.out.trans ho6 (fun _ _ h => h))
      have hz6 := HZ5.out.only ho6 HNM2.out
      have z0 : w6.cell? ⟨w.heap.size, 0, none⟩ = some (.int .i64 0) := hz6.cell 0
      have z1 : w6.cell? ⟨w.heap.size, 1, none⟩ = some (.int .i64 0) := hz6.cell 1
      have z2 : w6.cell? ⟨w.heap.size, 2, none⟩ = some (.string .empty) := hz6.cell 2
      have zf : ∀ i, w6.frozen? ⟨w.heap.size, i, none⟩ = false := hz6.frozen
      have HZ6 := Lib.hid hz6
      clear hr6 ho6 hz6 HB5 HZ5 HR5 HO5
      go_wp2_with (go_at_call 52; refine HG.out.mono ?_; clear HG; rintro e w7 ⟨rfl, rfl⟩)
      rw [HE.out]
      refine bodyPost_ret (v := .agg #[.int .i64 0, .int .i64 0, .string ⟨#[]⟩]) (by simp [results, Try.results82, go_sem, z0, z1, z2]) rfl ⟨rfl, ?_⟩
      have ho7 : Only (fun k => k = w.heap.size) w6 (((w6.setCell ⟨w.heap.size, 0, none⟩ (.int .i64 0)).setCell ⟨w.heap.size, 1, none⟩ (.int .i64 0)).setCell ⟨w.heap.size, 2, none⟩ (.string ⟨#[]⟩)) :=
        (((Only.refl (fun k => k = w.heap.size) _).setCell (p := ⟨w.heap.size, 0, none⟩) (fun _ => rfl) _).setCell (p := ⟨w.heap.size, 1, none⟩) (fun _ => rfl) _).setCell (p := ⟨w.heap.size, 2, none⟩) (fun _ => rfl) _
      exact ⟨HR6.out.only ho7 (fun k hk => by rw [hk]; exact HNM2.out) (fun k hk h => by rw [hk] at h; have := HRB.out _ h; omega), HO6.out.trans ho7 (fun k hk h => by omega)⟩
    · have HG := Lib.hid (good_r w5 p _ _ HR5.out)
      have hz5 := HZ5.out
      have z0 : w5.cell? ⟨w.heap.size, 0, none⟩ = some (.int .i64 0) := hz5.cell 0
      have z1 : w5.cell? ⟨w.heap.size, 1, none⟩ = some (.int .i64 0) := hz5.cell 1
      have z2 : w5.cell? ⟨w.heap.size, 2, none⟩ = some (.string .empty) := hz5.cell 2
      have zf : ∀ i, w5.frozen? ⟨w.heap.size, i, none⟩ = false := hz5.frozen
      have v0 : w5.cell? ⟨w1.heap.size, 0, none⟩ = some (.int .i64 k) := HB5.out.cell 0
      have v1 : w5.cell? ⟨w1.heap.size, 1, none⟩ = some (.int .i64 n2) := HB5.out.cell 1
      have v2 : w5.cell? ⟨w1.heap.size, 2, none⟩ = some (.string s) := HB5.out.cell 2
      clear hz5
      cases bd2
      · have HE : Hid (out = (⟨k, n2, s⟩, false, l2)) := by have := HV.out; rw [if_pos ⟨rfl, rfl⟩] at this; exact this
        clear HV
        go_wp2_with (go_at_call 52; refine HG.out.mono ?_; clear HG; rintro e w7 ⟨rfl, rfl⟩)
        rw [HE.out]
        refine bodyPost_ret (v := .agg #[.int .i64 k, .int .i64 n2, .string s]) (by simp [results, Try.results82, go_sem, z0, z1, z2]) rfl ⟨rfl, ?_⟩
        have ho7 : Only (fun k => k = w.heap.size) w5 (((w5.setCell ⟨w.heap.size, 0, none⟩ (.int .i64 k)).setCell ⟨w.heap.size, 1, none⟩ (.int .i64 n2)).setCell ⟨w.heap.size, 2, none⟩ (.string s)) :=
          (((Only.refl (fun k => k = w.heap.size) _).setCell (p := ⟨w.heap.size, 0, none⟩) (fun _ => rfl) _).setCell (p := ⟨w.heap.size, 1, none⟩) (fun _ => rfl) _).setCell (p := ⟨w.heap.size, 2, none⟩) (fun _ => rfl) _
        exact ⟨HR5.out.only ho7 (fun k hk => by rw [hk]; exact HNM2.out) (fun k hk h => by rw [hk] at h; have := HRB.out _ h; omega), HO5.out.trans ho7 (fun k hk h => by omega)⟩
      · have HE : Hid (out = (AV.none, true, [])) := by have := HV.out; rw [if_neg (by simp)] at this; exact this
        have hl2 : l2 = [] := HR5.out.empty rfl
        subst hl2
        clear HV
        go_wp2_with (go_at_call 52; refine HG.out.mono ?_; clear HG; rintro e w7 ⟨rfl, rfl⟩)
        rw [HE.out]
        refine bodyPost_ret (v := .agg #[.int .i64 0, .int .i64 0, .string ⟨#[]⟩]) (by simp [results, Try.results82, go_sem, z0, z1, z2]) rfl ⟨rfl, ?_⟩
        have ho7 : Only (fun k => k = w.heap.size) w5 (((w5.setCell ⟨w.heap.size, 0, none⟩ (.int .i64 0)).setCell ⟨w.heap.size, 1, none⟩ (.int .i64 0)).setCell ⟨w.heap.size, 2, none⟩ (.string ⟨#[]⟩)) :=
          (((Only.refl (fun k => k = w.heap.size) _).setCell (p := ⟨w.heap.size, 0, none⟩) (fun _ => rfl) _).setCell (p := ⟨w.heap.size, 1, none⟩) (fun _ => rfl) _).setCell (p := ⟨w.heap.size, 2, none⟩) (fun _ => rfl) _
        exact ⟨HR5.out.only ho7 (fun k hk => by rw [hk]; exact HNM2.out) (fun k hk h => by rw [hk] at h; have := HRB.out _ h; omega), HO5.out.trans ho7 (fun k hk h => by omega)⟩
end Go.Proofs.Ytdhdphmehjkbnaa
