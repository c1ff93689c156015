/- The document's reader (Part): Value. -/
import Derived.Test.YtdhdphmehjkbnaaPtS
import Derived.Test.YtdhdphmehjkbnaaRefD
namespace Go.Proofs.Ytdhdphmehjkbnaa
open Go.RowKit Go.Afx

theorem only_set3 (w : World) (q : Nat) (a b c : Value) : Only (fun k => k = q) w (((w.setCell ⟨q, 0, none⟩ a).setCell ⟨q, 1, none⟩ b).setCell ⟨q, 2, none⟩ c) :=
  (((Only.refl (fun k => k = q) _).setCell (p := ⟨q, 0, none⟩) (fun _ => rfl) _).setCell (p := ⟨q, 1, none⟩) (fun _ => rfl) _).setCell (p := ⟨q, 2, none⟩) (fun _ => rfl) _
/-- The last stores lie in a new block. -/
theorem fin_only {w w6 w7 : World} {q z : Nat} (h : Only (fun k => k = q) w w6) (h7 : Only (fun k => k = z) w6 w7) (hz : w.heap.size ≤ z) : Only (fun k => k = q) w w7 :=
  h.trans h7 (fun k hk e => by omega)

set_option maxRecDepth 100000 in
set_option maxHeartbeats 1000000 in
theorem val_pt (w : World) (q : Nat) (bad : Bool) (l : List UInt8) (h : Prt w q bad l) :
    Calls Try.prog 83 #[.pointer (some ⟨q, 0, none⟩)] w fun e w' => e = .returned (rVal bad l).1.agg ∧ Prt w' q (rVal bad l).2.1 (rVal bad l).2.2 ∧ Only (fun k => k = q) w w' := by
  have hlt := h.lt
  have hal : Below w.heap.size w (w.alloc (.cells #[.int .i64 0, .int .i64 0, .string .empty] 56)) := (Below.refl _ _).alloc (Nat.le_refl _) _
  have HC := Lib.hid (cut_pt _ q bad l (h.below hal) 1)
  have HK2 : Hid (Blk (w.alloc (.cells #[.int .i64 0, .int .i64 0, .string .empty] 56)) w.heap.size 56 [.int .i64 0, .int .i64 0, .string .empty]) := Blk.new w 56 [.int .i64 0, .int .i64 0, .string .empty]
  have HO0 := Lib.hid ((Only.refl (fun k => k = q) w).alloc (.cells #[.int .i64 0, .int .i64 0, .string .empty] 56))
  have hsz0 : (w.alloc (.cells #[.int .i64 0, .int .i64 0, .string .empty] 56)).heap.size = w.heap.size + 1 := by simp
  by_cases hok : bad = false ∧ l ≠ []
  · obtain ⟨rfl, hne⟩ := hok
    obtain ⟨c, t, rfl⟩ : ∃ c t, l = c :: t := by
      cases l with
      | nil => exact absurd rfl hne
      | cons c t => exact ⟨c, t, rfl⟩
    have er : rCut 1 false (c :: t) = ([c], false, t) := by unfold rCut; rw [if_neg (by simp)]; rfl
    rw [er] at HC
    have hgc : ∀ (h : 0 < (bs [c]).size), (((bs [c])[0]'h).toNat : Int) = (c.toNat : Int) := fun h => congrArg (fun x : UInt8 => (x.toNat : Int)) (bs_get [c] 0 h (by simp))
    have hszc : 0 < (bs [c]).size := by rw [bs_size]; simp
    have hg1 := hgc hszc
    have HV : Hid (rVal false (c :: t) = if (rRaw false (c :: t)).1.right = true ∧ (rRaw false (c :: t)).2.1 = false then rRaw false (c :: t) else (AV.none, true, [])) := rfl
    have HRAW : Hid (rRaw false (c :: t) = if (c.toNat : Int) = 1 then (⟨1, (rSign false t).1, ⟨#[]⟩⟩, (rSign false t).2) else if (c.toNat : Int) = 2 then (⟨2, 0, ⟨(rText 200 false t).1.toArray⟩⟩, (rText 200 false t).2)
      else if (c.toNat : Int) = 3 then (⟨3, (rByte false t).1, ⟨#[]⟩⟩, (rByte false t).2) else (⟨(c.toNat : Int), 0, ⟨#[]⟩⟩, false, t)) := rfl
    have hc256 : (c.toNat : Int) < 256 := by have := c.toNat_lt; omega
    have hc00 : (0 : Int) ≤ (c.toNat : Int) := by omega
    generalize rVal false (c :: t) = out at *
    generalize rRaw false (c :: t) = rw at *
    generalize (c.toNat : Int) = n at *
    clear hgc er hne h hal
    generalize bs [c] = Bc at *
    simp only at HC
    go_enter Try.func83, Try.ntmps83
    go_wp2_with fail
    refine HC.out.mono ?_
    clear HC
    rintro e w1 ⟨rfl, hp1, ho1⟩
    have hlt1 : w.heap.size < w1.heap.size := by have := ho1.size; omega
    have HZ1 := Lib.hid (HK2.out.only ho1 (by omega))
    have HW1 := Lib.hid (HO0.out.trans ho1 (fun _ _ h => h))
    have hal1 : Below w1.heap.size w1 (w1.alloc (.cells #[.int .i64 0, .int .i64 0, .string ⟨#[]⟩] 56)) := (Below.refl _ _).alloc (Nat.le_refl _) _
    have HB3 : Hid (Blk (w1.alloc (.cells #[.int .i64 n, .int .i64 0, .string ⟨#[]⟩] 56)) w1.heap.size 56 [.int .i64 n, .int .i64 0, .string ⟨#[]⟩]) := Blk.new w1 _ _
    have hal2 : Below w1.heap.size w1 (w1.alloc (.cells #[.int .i64 n, .int .i64 0, .string ⟨#[]⟩] 56)) := (Below.refl _ _).alloc (Nat.le_refl _) _
    have hp2 := hp1.below hal1
    have kb := hp2.cellBad
    have HP3 := Lib.hid (hp1.below hal2)
    have HZ3 := Lib.hid (HZ1.out.below hal2)
    have HW3 := Lib.hid (only_below HW1.out hal2)
    have hsz3 : (w1.alloc (.cells #[.int .i64 n, .int .i64 0, .string ⟨#[]⟩] 56)).heap.size = w1.heap.size + 1 := by simp
    clear hp1 ho1 hal1 hal2 hp2 HZ1 HW1 HK2 HO0
    go_upto_block 0 with fail
    generalize hw3 : w1.alloc (.cells #[.int .i64 n, .int .i64 0, .string ⟨#[]⟩] 56) = w3 at *
    have k0 : w3.cell? ⟨w1.heap.size, 0, none⟩ = some (.int .i64 n) := HB3.out.cell 0
    have kq := HP3.out.cellBad
    clear hw3 kb hg1 hszc hsz0
    go_cut [] (fun wc => Blk wc w1.heap.size 56 rw.1.cells ∧ Blk wc w.heap.size 56 [.int .i64 0, .int .i64 0, .string .empty] ∧ Prt wc q rw.2.1 rw.2.2 ∧ Only (fun k => k = q) w wc)
    case first =>
      by_cases h1 : n = 1
      · subst h1
        have HS := Lib.hid (sign_pt w3 q _ _ HP3.out)
        have HE : Hid (rw = (⟨1, (rSign false t).1, ⟨#[]⟩⟩, (rSign false t).2)) := by have := HRAW.out; rw [if_pos rfl] at this; exact this
        clear HRAW
        generalize rSign false t = rs at *
        obtain ⟨x, bd2, l2⟩ := rs
        simp only at HE HS
        go_wp2_with fail
        refine HS.out.mono ?_
        clear HS
        rintro e w4 ⟨rfl, hp4, ho4⟩
        have hb4 := HB3.out.only ho4 (by omega)
        have k1 : w4.cell? ⟨w1.heap.size, 1, none⟩ = some (.int .i64 0) := hb4.cell 1
        have kf : ∀ i, w4.frozen? ⟨w1.heap.size, i, none⟩ = false := hb4.frozen
        have HB5 := Lib.hid (hb4.set 1 (.int .i64 x))
        have HZ5 := Lib.hid ((HZ3.out.only ho4 (by omega)).setOther (p := ⟨w1.heap.size, 1, none⟩) (Nat.ne_of_lt hlt1) (.int .i64 x))
        have HW5 := Lib.hid (fin_only (only_trans HW3.out ho4) (only_cell w4 w1.heap.size 1 (.int .i64 x)) (Nat.le_of_lt hlt1))
        have HP5 := Lib.hid (hp4.only (only_cell w4 w1.heap.size 1 (.int .i64 x)) (by omega))
        clear hb4 hp4 ho4 HB3 HZ3 HP3 HW3 k0 kq
        go_wp2
        go_meet
        rw [HE.out]
        exact ⟨HB5.out, HZ5.out, HP5.out, HW5.out⟩
      · have n1 : (n == 1) = false := by rw [beq_eq_false_iff_ne]; exact h1
        by_cases h2 : n = 2
        · subst h2
          have HS := Lib.hid (text_pt w3 q _ _ HP3.out 200 (by unfold fit64; omega))
          have HE : Hid (rw = (⟨2, 0, ⟨(rText 200 false t).1.toArray⟩⟩, (rText 200 false t).2)) := by have := HRAW.out; rw [if_neg (by decide), if_pos rfl] at this; exact this
          clear HRAW
          generalize rText 200 false t = rs at *
          obtain ⟨x, bd2, l2⟩ := rs
          simp only at HE HS
          clear n1 h1
          go_wp2_with fail
          refine HS.out.mono ?_
          clear HS
          rintro e w4 ⟨rfl, hp4, ho4⟩
          have hb4 := HB3.out.only ho4 (by omega)
          have k1 : w4.cell? ⟨w1.heap.size, 2, none⟩ = some (.string ⟨#[]⟩) := hb4.cell 2
          have kf : ∀ i, w4.frozen? ⟨w1.heap.size, i, none⟩ = false := hb4.frozen
          have HB5 := Lib.hid (hb4.set 2 (.string (bs x)))
          have HZ5 := Lib.hid ((HZ3.out.only ho4 (by omega)).setOther (p := ⟨w1.heap.size, 2, none⟩) (Nat.ne_of_lt hlt1) (.string (bs x)))
          have HW5 := Lib.hid (fin_only (only_trans HW3.out ho4) (only_cell w4 w1.heap.size 2 (.string (bs x))) (Nat.le_of_lt hlt1))
          have HP5 := Lib.hid (hp4.only (only_cell w4 w1.heap.size 2 (.string (bs x))) (by omega))
          clear hb4 hp4 ho4 HB3 HZ3 HP3 HW3 k0 kq
          go_wp2
          go_meet
          rw [HE.out]
          exact ⟨HB5.out, HZ5.out, HP5.out, HW5.out⟩
        · have n2 : (n == 2) = false := by rw [beq_eq_false_iff_ne]; exact h2
          by_cases h3 : n = 3
          · subst h3
            clear n1 h1 n2 h2
            have HE : Hid (rw = (⟨3, (rByte false t).1, ⟨#[]⟩⟩, (rByte false t).2)) := by have := HRAW.out; rw [if_neg (by decide), if_neg (by decide), if_pos rfl] at this; exact this
            clear HRAW
            have HS := Lib.hid (cut_pt w3 q false t HP3.out 1)
            cases t with
            | nil =>
              have er2 : rCut 1 false [] = ([], true, []) := rfl
              rw [er2] at HS
              simp only at HS
              go_wp2_with fail
              refine HS.out.mono ?_
              clear HS
              rintro e w4 ⟨rfl, hp4, ho4⟩
              have kq4 := hp4.cellBad
              have HB5 := Lib.hid (HB3.out.only ho4 (by omega))
              have HZ5 := Lib.hid (HZ3.out.only ho4 (by omega))
              have HW5 := Lib.hid (only_trans HW3.out ho4)
              have HP5 := Lib.hid hp4
              clear hp4 ho4 HB3 HZ3 HP3 HW3 k0 kq
              go_wp2
              go_meet
              rw [HE.out]
              exact ⟨HB5.out, HZ5.out, HP5.out, HW5.out⟩
            | cons d t2 =>
              have er2 : rCut 1 false (d :: t2) = ([d], false, t2) := by unfold rCut; rw [if_neg (by simp)]; rfl
              rw [er2] at HS
              simp only at HS
              have hsd : 0 < (bs [d]).size := by rw [bs_size]; simp
              have hgd : ((bs [d])[0].toNat : Int) = (d.toNat : Int) := congrArg (fun x : UInt8 => (x.toNat : Int)) (bs_get [d] 0 hsd (by simp))
              have hd256 : (d.toNat : Int) < 256 := by have := d.toNat_lt; omega
              have hd00 : (0 : Int) ≤ (d.toNat : Int) := by omega
              have HE2 : Hid (rw = (⟨3, (d.toNat : Int), ⟨#[]⟩⟩, false, t2)) := HE.out
              clear HE er2
              generalize bs [d] = Bd at *
              generalize (d.toNat : Int) = x at *
              go_wp2_with fail
              refine HS.out.mono ?_
              clear HS
              rintro e w4 ⟨rfl, hp4, ho4⟩
              have kq4 := hp4.cellBad
              have hb4 := HB3.out.only ho4 (by omega)
              have k1 : w4.cell? ⟨w1.heap.size, 1, none⟩ = some (.int .i64 0) := hb4.cell 1
              have kf : ∀ i, w4.frozen? ⟨w1.heap.size, i, none⟩ = false := hb4.frozen
              have HB5 := Lib.hid (hb4.set 1 (.int .i64 x))
              have HZ5 := Lib.hid ((HZ3.out.only ho4 (by omega)).setOther (p := ⟨w1.heap.size, 1, none⟩) (Nat.ne_of_lt hlt1) (.int .i64 x))
              have HW5 := Lib.hid (fin_only (only_trans HW3.out ho4) (only_cell w4 w1.heap.size 1 (.int .i64 x)) (Nat.le_of_lt hlt1))
              have HP5 := Lib.hid (hp4.only (only_cell w4 w1.heap.size 1 (.int .i64 x)) (by omega))
              clear hb4 hp4 ho4 HB3 HZ3 HP3 HW3 k0 kq
              go_wp2
              go_meet
              rw [HE2.out]
              exact ⟨HB5.out, HZ5.out, HP5.out, HW5.out⟩
          · have n3 : (n == 3) = false := by rw [beq_eq_false_iff_ne]; exact h3
            have HE : Hid (rw = (⟨n, 0, ⟨#[]⟩⟩, false, t)) := by have := HRAW.out; rw [if_neg h1, if_neg h2, if_neg h3] at this; exact this
            clear HRAW h1 h2 h3
            go_wp2
            go_meet
            rw [HE.out]
            exact ⟨HB3.out, HZ3.out, HP3.out, HW3.out⟩
    case rest =>
      obtain ⟨hb, hz, hp, ho⟩ := hcut
      clear HRAW HB3 HZ3 HP3 HW3 k0 kq hsz3
      obtain ⟨⟨k, n2, s⟩, bd2, l2⟩ := rw
      have k0 : wc.cell? ⟨w1.heap.size, 0, none⟩ = some (.int .i64 k) := hb.cell 0
      have k1 : wc.cell? ⟨w1.heap.size, 1, none⟩ = some (.int .i64 n2) := hb.cell 1
      have k2 : wc.cell? ⟨w1.heap.size, 2, none⟩ = some (.string s) := hb.cell 2
      have z0 : wc.cell? ⟨w.heap.size, 0, none⟩ = some (.int .i64 0) := hz.cell 0
      have z1 : wc.cell? ⟨w.heap.size, 1, none⟩ = some (.int .i64 0) := hz.cell 1
      have z2 : wc.cell? ⟨w.heap.size, 2, none⟩ = some (.string .empty) := hz.cell 2
      have zf : ∀ i, wc.frozen? ⟨w.heap.size, i, none⟩ = false := hz.frozen
      have kq := hp.cellBad
      have kf := hp.free
      have HB := Lib.hid hb
      have HZ := Lib.hid hz
      have HP := Lib.hid hp
      have HO := Lib.hid ho
      simp only at HP HV HO
      cases bd2
      · have HR := Lib.hid (refright wc ⟨k, n2, s⟩)
        simp only [AV.agg] at HR
        generalize (⟨k, n2, s⟩ : AV).right = r at *
        clear hb hz hp ho z0 z1 z2 zf kf
        go_wp2_with fail
        refine HR.out.mono ?_
        clear HR
        rintro e w5 ⟨rfl, hb5⟩
        have hz5 := HZ.out.below hb5
        have hbb5 := HB.out.below hb5
        have hp5 := HP.out.below hb5
        have HO5 := Lib.hid (only_below HO.out hb5)
        clear k0 k1 k2 kq
        have v0 : w5.cell? ⟨w1.heap.size, 0, none⟩ = some (.int .i64 k) := hbb5.cell 0
        have v1 : w5.cell? ⟨w1.heap.size, 1, none⟩ = some (.int .i64 n2) := hbb5.cell 1
        have v2 : w5.cell? ⟨w1.heap.size, 2, none⟩ = some (.string s) := hbb5.cell 2
        have z0 : w5.cell? ⟨w.heap.size, 0, none⟩ = some (.int .i64 0) := hz5.cell 0
        have z1 : w5.cell? ⟨w.heap.size, 1, none⟩ = some (.int .i64 0) := hz5.cell 1
        have z2 : w5.cell? ⟨w.heap.size, 2, none⟩ = some (.string .empty) := hz5.cell 2
        have zf : ∀ i, w5.frozen? ⟨w.heap.size, i, none⟩ = false := hz5.frozen
        have kf := hp5.free
        have kq := hp5.cellBad
        have HP5 := Lib.hid hp5
        have hwq : w.heap.size ≠ q := by omega
        clear hz5 hbb5 hp5 hb5 HB HZ HP HO
        cases r
        · have HE : Hid (out = (AV.none, true, [])) := by have := HV.out; rw [if_neg (by simp)] at this; exact this
          clear HV
          go_wp2
          rw [HE.out]
          refine bodyPost_ret (v := .agg #[.int .i64 0, .int .i64 0, .string ⟨#[]⟩]) (by simp [results, Try.results83, go_sem, z0, z1, z2]) rfl ⟨rfl, ?_⟩
          exact ⟨HP5.out.spoil.only (only_set3 _ w.heap.size _ _ _) (by omega), fin_only (only_trans HO5.out (only_cell _ _ _ _)) (only_set3 _ w.heap.size _ _ _) (Nat.le_refl _)⟩
        · have HE : Hid (out = (⟨k, n2, s⟩, false, l2)) := by have := HV.out; rw [if_pos (by simp)] at this; exact this
          clear HV
          go_wp2
          rw [HE.out]
          refine bodyPost_ret (v := .agg #[.int .i64 k, .int .i64 n2, .string s]) (by simp [results, Try.results83, go_sem, z0, z1, z2]) rfl ⟨rfl, ?_⟩
          exact ⟨HP5.out.only (only_set3 _ w.heap.size _ _ _) (by omega), fin_only HO5.out (only_set3 _ w.heap.size _ _ _) (Nat.le_refl _)⟩
      · have HE : Hid (out = (AV.none, true, [])) := by have := HV.out; rw [if_neg (by simp)] at this; exact this
        have hl2 : l2 = [] := HP.out.empty rfl
        have hwq : w.heap.size ≠ q := by omega
        subst hl2
        clear HV hb hz hp ho
        go_wp2
        rw [HE.out]
        refine bodyPost_ret (v := .agg #[.int .i64 0, .int .i64 0, .string ⟨#[]⟩]) (by simp [results, Try.results83, go_sem, z0, z1, z2]) rfl ⟨rfl, ?_⟩
        exact ⟨HP.out.spoil.only (only_set3 _ w.heap.size _ _ _) (by omega), fin_only (only_trans HO.out (only_cell _ _ _ _)) (only_set3 _ w.heap.size _ _ _) (Nat.le_refl _)⟩
  · have er : rCut 1 bad l = ([], true, []) := by
      unfold rCut; rw [if_pos]
      cases bad
      · right; simp at hok; simp [hok]
      · exact .inl rfl
    have e1 : rVal bad l = (AV.none, true, []) := by
      have h2 : rByte bad l = (0, true, []) := by
        cases bad
        · simp at hok; rw [hok]; rfl
        · cases l <;> rfl
      have h3 : rRaw bad l = (⟨0, 0, ⟨#[]⟩⟩, true, []) := by unfold rRaw; rw [h2]; rfl
      unfold rVal
      rw [h3]
      simp
    rw [er] at HC
    rw [e1]
    simp only at HC
    clear er e1 hok h hal
    go_enter Try.func83, Try.ntmps83
    go_wp2_with fail
    refine HC.out.mono ?_
    clear HC
    rintro e w1 ⟨rfl, hp1, ho1⟩
    have hlt1 : w.heap.size < w1.heap.size := by have := ho1.size; omega
    have hal1 : Below w1.heap.size w1 (w1.alloc (.cells #[.int .i64 0, .int .i64 0, .string ⟨#[]⟩] 56)) := (Below.refl _ _).alloc (Nat.le_refl _) _
    have hz3 := (HK2.out.only ho1 (by omega)).below hal1
    have hp3 := hp1.below hal1
    have HW3 := Lib.hid (only_below (HO0.out.trans ho1 (fun _ _ h => h)) hal1)
    have z0 : (w1.alloc (.cells #[.int .i64 0, .int .i64 0, .string ⟨#[]⟩] 56)).cell? ⟨w.heap.size, 0, none⟩ = some (.int .i64 0) := hz3.cell 0
    have z1 : (w1.alloc (.cells #[.int .i64 0, .int .i64 0, .string ⟨#[]⟩] 56)).cell? ⟨w.heap.size, 1, none⟩ = some (.int .i64 0) := hz3.cell 1
    have z2 : (w1.alloc (.cells #[.int .i64 0, .int .i64 0, .string ⟨#[]⟩] 56)).cell? ⟨w.heap.size, 2, none⟩ = some (.string .empty) := hz3.cell 2
    have zf : ∀ i, (w1.alloc (.cells #[.int .i64 0, .int .i64 0, .string ⟨#[]⟩] 56)).frozen? ⟨w.heap.size, i, none⟩ = false := hz3.frozen
    have kq := hp3.cellBad
    have kf := hp3.free
    have HP3 := Lib.hid hp3
    have hwq : w.heap.size ≠ q := by omega
    clear hp1 ho1 hal1 hz3 hp3 HK2 HO0 hsz0
    go_wp2
    refine bodyPost_ret (v := .agg #[.int .i64 0, .int .i64 0, .string ⟨#[]⟩]) (by simp [results, Try.results83, go_sem, z0, z1, z2]) rfl ⟨rfl, ?_⟩
    exact ⟨HP3.out.spoil.only (only_set3 _ w.heap.size _ _ _) (by omega), fin_only (only_trans HW3.out (only_cell _ _ _ _)) (only_set3 _ w.heap.size _ _ _) (Nat.le_refl _)⟩
end Go.Proofs.Ytdhdphmehjkbnaa
