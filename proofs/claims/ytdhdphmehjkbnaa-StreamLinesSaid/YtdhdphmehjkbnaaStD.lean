/- Streams: open. -/
import Derived.Test.YtdhdphmehjkbnaaStC
import Derived.Deep.CutBlock
import Derived.Deep.DeepCutAuto
namespace Go.Proofs.Ytdhdphmehjkbnaa
open Go.RowKit Go.Afx

theorem own_form3 {w : World} {e : TypeId} {sz : Nat} {v : Value} {n : Nat} {cs : List Value} (h : Own w e sz v n cs) : ∃ p cap, v = .slice p n cap ∧ n ≤ cap ∧ cap ≤ 9223372036854775807 :=
  (h.sl (B := fun _ => True) fun _ _ => trivial).form
theorem agree_below {w w' : World} {n : Nat} (h : Below w.heap.size w w') (hn : n < w.heap.size) : Agree (fun k => k = n) w w' := fun b o hb => by
  subst hb
  exact h.cell (p := ⟨b, o, none⟩) hn

set_option maxRecDepth 100000 in
set_option maxHeartbeats 1000000 in
theorem open_any (w : World) (B : Nat → Prop) (nm : ByteArray) (cv : Value) (cl : List ColV) (hc : Sl w B 2 cv cl.length (colCells cl)) (hn : nm.size ≤ maxLen) (hns : ∀ c ∈ cl, c.name.size ≤ maxLen) (hcl : cl.length ≤ 1000000) :
    Calls Try.prog 64 #[.agg #[.string nm, cv]] w (OpenOut w nm cl) := by
  obtain ⟨pc, cc, rfl, hcc1, hcc⟩ := hc.form
  have hs1 : (w.alloc (.cells #[.string nm, .slice pc cl.length cc] 24)).heap.size = w.heap.size + 1 := by simp
  have hal : Below w.heap.size w (w.alloc (.cells #[.string nm, .slice pc cl.length cc] 24)) := (Below.refl _ _).alloc (Nat.le_refl _) _
  have hal2 : Below w.heap.size w ((w.alloc (.cells #[.string nm, .slice pc cl.length cc] 24)).alloc (.cells #[.string ⟨#[]⟩, .slice none 0 0] 111)) := hal.alloc (by omega) _
  have hk1 := (Blk.new w 24 [.string nm, .slice pc cl.length cc]).alloc (.cells #[.string ⟨#[]⟩, .slice none 0 0] 111)
  have hk2 := Blk.new (w.alloc (.cells #[.string nm, .slice pc cl.length cc] 24)) 111 [.string ⟨#[]⟩, .slice none 0 0]
  rw [hs1] at hk2
  have HAL := Lib.hid hal2
  have HK1 : Hid (Blk ((w.alloc (.cells #[.string nm, .slice pc cl.length cc] 24)).alloc (.cells #[.string ⟨#[]⟩, .slice none 0 0] 111)) w.heap.size 24 [.string nm, .slice pc cl.length cc]) := hk1
  have HK2 : Hid (Blk ((w.alloc (.cells #[.string nm, .slice pc cl.length cc] 24)).alloc (.cells #[.string ⟨#[]⟩, .slice none 0 0] 111)) (w.heap.size + 1) 111 [.string ⟨#[]⟩, .slice none 0 0]) := hk2
  have HC := Lib.hid (hc.below hal2)
  have hs2 : ((w.alloc (.cells #[.string nm, .slice pc cl.length cc] 24)).alloc (.cells #[.string ⟨#[]⟩, .slice none 0 0] 111)).heap.size = w.heap.size + 2 := by simp
  clear hc hal hal2 hk1 hk2 hs1
  go_enter Try.func64, Try.ntmps64
  go_upto_region 1 with fail
  generalize hw1 : ((w.alloc (.cells #[.string nm, .slice pc cl.length cc] 24)).alloc (.cells #[.string ⟨#[]⟩, .slice none 0 0] 111)) = w1 at *
  clear hw1
  have k0 : w1.cell? ⟨w.heap.size, 0, none⟩ = some (.string nm) := HK1.out.cell 0
  have k1 : w1.cell? ⟨w.heap.size, 1, none⟩ = some (.slice pc cl.length cc) := HK1.out.cell 1
  have hlt1 : w.heap.size < w1.heap.size := by omega
  have hlt1b : w.heap.size + 2 ≤ w1.heap.size := by omega
  clear hs2
  go_cut [4] (fun s4 wc => ∃ b v, s4 = .pointer (some ⟨b, 0, none⟩) ∧ Blk wc b 111 [.string nm, v] ∧ Sl wc (fun k => w1.heap.size ≤ k) 2 v cl.length (colCells cl) ∧ Below w1.heap.size w1 wc)
  case first =>
    have HCL := Lib.hid (fun W (h : Below w1.heap.size w1 W) => clone_col W B _ _ _ (HC.out.below h) (by omega))
    have hd : Below w1.heap.size w1 w1.drew := (Below.refl _ _).drew
    have ha : Below w1.heap.size w1 (w1.alloc (.cells #[.string ⟨#[]⟩, .slice none 0 0] 111)).drew := ((Below.refl _ _).alloc (Nat.le_refl _) _).drew
    have H1 := Lib.hid (HCL.out _ hd)
    have H2 := Lib.hid (HCL.out _ ha)
    have HD := Lib.hid hd
    have HA := Lib.hid ha
    have HKB : Hid (Blk (w1.alloc (.cells #[.string ⟨#[]⟩, .slice none 0 0] 111)).drew w1.heap.size 111 [.string ⟨#[]⟩, .slice none 0 0]) := (Blk.new w1 111 [.string ⟨#[]⟩, .slice none 0 0]).drew
    clear hd ha HCL
    have hag0 : Agree (fun q => q = w.heap.size) w1.drew (w1.alloc (.cells #[.string ⟨#[]⟩, .slice none 0 0] 111)).drew := agree_alloc (w := w1) _ (by intro k hk; subst hk; exact hlt1)
    refine wp_region_lit_plans [4, 5, 6, 7, 8] [[(0, 0), (2, 0), (1, 2), (3, 2), (4, 3), (5, 0), (6, 0), (7, 3), (8, 4)], [(0, 0), (2, 0), (1, 2), (3, 2), (4, 3), (5, 0), (7, 3), (6, 0), (8, 4)], [(0, 0), (2, 0), (1, 2), (3, 2), (4, 3), (7, 3), (5, 0), (6, 0), (8, 4)], [(0, 0), (2, 0), (1, 2), (3, 2), (7, 3), (4, 3), (5, 0), (6, 0), (8, 4)]] (fun q => q = w.heap.size) (by kernel_rfl) (by kernel_rfl) (fun c a d v w h => by cases d <;> exact h) ?_; refine ⟨?_, ?_, ?_, ?_, trivial⟩
    all_goals
      go_wp2_with (first
        | (refine plan_pure (v := _) (by rfl) (by rfl) (by rfl) (by intro _; go_simp; with_reducible rfl) ?_; simp only [List.setIfInBounds_toArray, List.set_cons_zero, List.set_cons_succ]; try go_bits) | (refine plan_read (v := _) (by rfl) (by rfl) (by rfl) (by go_simp; with_reducible rfl) ?_; simp only [List.setIfInBounds_toArray, List.set_cons_zero, List.set_cons_succ]; try go_bits) | (refine plan_readB (v := _) (by rfl) (by rfl) (by rfl) (by intro _ hag; unfold Agree at hag; go_simp; with_reducible rfl) ?_; simp only [List.setIfInBounds_toArray, List.set_cons_zero, List.set_cons_succ]; try go_bits) | (refine plan_skip0 (by rfl) (by rfl) (by rfl) ?_; simp only [List.setIfInBounds_toArray, List.set_cons_zero, List.set_cons_succ]; try go_bits) | (refine plan_skip1 (by rfl) (by rfl) (by rfl) ?_; simp only [List.setIfInBounds_toArray, List.set_cons_zero, List.set_cons_succ]; try go_bits) | (refine plan_skip2 (by rfl) (by rfl) (by rfl) ?_; simp only [List.setIfInBounds_toArray, List.set_cons_zero, List.set_cons_succ]; try go_bits) | (refine plan_skip4 (by rfl) (by rfl) (by rfl) ?_; simp only [List.setIfInBounds_toArray, List.set_cons_zero, List.set_cons_succ]; try go_bits) | (refine plan_any (by rfl) ?_) | (refine plan_keep (by rfl) ?_) | (refine plan_nil ?_) | (with_reducible refine And.intro (by first | assumption | exact Agree.refl _ _ | exact agree_drew _ _ | exact agree_alloc _ (by intro k hk; subst hk; first | omega | (simp; omega))) ?_) | (unfold Act.put; simp only [List.setIfInBounds_toArray, List.set_cons_zero, List.set_cons_succ])
        | (go_at_call 93; (with_reducible refine H1.out.mono ?_); rintro e w2 ⟨v2, rfl, h21, h22, h23⟩; obtain ⟨p2, c2, rfl, _, _⟩ := own_form3 h21; have hag := agree_below h22 hlt1; have hlt2 : w.heap.size < w2.heap.size := Nat.lt_of_lt_of_le hlt1 h22.size; have H21 := Lib.hid h21; have H22 := Lib.hid (HD.out.trans (h22.mono HD.out.size)); have H23 := Lib.hid h23; clear h21 h22 h23 H2 HKB)
        | (go_at_call 93; (with_reducible refine H2.out.mono ?_); rintro e w2 ⟨v2, rfl, h21, h22, h23⟩; obtain ⟨p2, c2, rfl, _, _⟩ := own_form3 h21; have hag := agree_below h22 (show w.heap.size < _ by simp; omega); have HK := Lib.hid (HKB.out.below h22); have y0 : w2.cell? ⟨w1.heap.size, 0, none⟩ = some (.string ⟨#[]⟩) := HK.out.cell 0; have y1 : w2.cell? ⟨w1.heap.size, 1, none⟩ = some (.slice none 0 0) := HK.out.cell 1; have yf : ∀ i, w2.frozen? ⟨w1.heap.size, i, none⟩ = false := HK.out.frozen; have H21 := Lib.hid h21; have H22 := Lib.hid (HA.out.trans (h22.mono HA.out.size)); have H23 := Lib.hid h23; clear h21 h22 h23 H1))
      go_meet
      first
        | (have h1 : w.heap.size ≤ w2.heap.size := Nat.le_of_lt hlt2
           have hal3 : Below w2.heap.size w2 (w2.alloc (.cells #[.string nm, .slice p2 cl.length c2] 111)) := (Below.refl _ _).alloc (Nat.le_refl _) _
           exact ⟨w2.heap.size, .slice p2 cl.length c2, rfl, Blk.new w2 _ _, (H21.out.sl (fun k hk => H23.out k hk)).below hal3, H22.out.trans (hal3.mono H22.out.size)⟩)
        | (have h2 := (HK.out.set 0 (.string nm)).set 1 (.slice p2 cl.length c2)
           have hne : (Value.slice p2 cl.length c2).ownBlock ≠ some w1.heap.size := fun h => by have := H23.out _ h; simp at this; omega
           have h3 := (H21.out.setOther (p := ⟨w1.heap.size, 0, none⟩) hne (.string nm)).setOther (p := ⟨w1.heap.size, 1, none⟩) hne (.slice p2 cl.length c2)
           exact ⟨w1.heap.size, .slice p2 cl.length c2, rfl, h2, h3.sl (fun k hk => by have := H23.out k hk; simp at this; omega), (H22.out.setCell (p := ⟨w1.heap.size, 0, none⟩) (Nat.le_refl _) _).setCell (p := ⟨w1.heap.size, 1, none⟩) (Nat.le_refl _) _⟩)
  case rest =>
    obtain ⟨b, v, rfl, hb, hs, hbl⟩ := hcut
    obtain ⟨p2, c2, rfl, _, _⟩ := hs.form
    have b0 : wc.cell? ⟨b, 0, none⟩ = some (.string nm) := hb.cell 0
    have b1 : wc.cell? ⟨b, 1, none⟩ = some (.slice p2 cl.length c2) := hb.cell 1
    have HR := Lib.hid (colright_any wc _ nm _ cl hs hn hns)
    have HB := Lib.hid hb
    have HS := Lib.hid hs
    have HBL := Lib.hid (HAL.out.trans (hbl.mono HAL.out.size))
    have HK2C := Lib.hid (HK2.out.below hbl)
    clear hb hs hbl HK1 HK2 HC
    generalize hr : rightC nm cl = r at *
    have HRC := Lib.hid hr
    clear hr
    go_wp2_with fail
    refine HR.out.mono ?_
    clear HR
    rintro e w5 ⟨rfl, hb5⟩
    have hk5 := HK2C.out.below hb5
    have z0 : w5.cell? ⟨w.heap.size + 1, 0, none⟩ = some (.string ⟨#[]⟩) := hk5.cell 0
    have z1 : w5.cell? ⟨w.heap.size + 1, 1, none⟩ = some (.slice none 0 0) := hk5.cell 1
    have zf : ∀ i, w5.frozen? ⟨w.heap.size + 1, i, none⟩ = false := hk5.frozen
    have hb5k := HB.out.below hb5
    have d0 : w5.cell? ⟨b, 0, none⟩ = some (.string nm) := hb5k.cell 0
    have d1 : w5.cell? ⟨b, 1, none⟩ = some (.slice p2 cl.length c2) := hb5k.cell 1
    have HB5 := Lib.hid (HBL.out.trans (hb5.mono HBL.out.size))
    have HS5 := Lib.hid (HS.out.below hb5)
    have HK5 := Lib.hid hk5
    clear b0 b1 hk5 hb5k hb5
    cases r
    · go_wp2
      refine bodyPost_ret (v := .tuple #[.agg #[.string ⟨#[]⟩, .slice none 0 0], .int .i64 1]) (by simp [results, Try.results64, go_sem, z0, z1]) rfl (Or.inl ⟨HRC.out, rfl, ?_⟩)
      exact (HB5.out.setCell (p := ⟨w.heap.size + 1, 0, none⟩) (Nat.le_succ _) _).setCell (p := ⟨w.heap.size + 1, 1, none⟩) (Nat.le_succ _) _
    · go_wp2
      refine bodyPost_ret (v := .tuple #[.agg #[.string nm, .slice p2 cl.length c2], .int .i64 0]) (by simp [results, Try.results64, go_sem, z0, z1]) rfl (Or.inr ⟨HRC.out, _, rfl, ?_, ?_⟩)
      · have ho : Only (fun k => k = w.heap.size + 1) w5 ((w5.setCell ⟨w.heap.size + 1, 0, none⟩ (.string nm)).setCell ⟨w.heap.size + 1, 1, none⟩ (.slice p2 cl.length c2)) := ((Only.refl (fun k => k = w.heap.size + 1) _).setCell (p := ⟨w.heap.size + 1, 0, none⟩) (fun _ => rfl) _).setCell (p := ⟨w.heap.size + 1, 1, none⟩) (fun _ => rfl) _
        exact (HS5.out.only ho (fun k hk h => by omega)).mono (Nat.le_refl _) (fun _ _ _ => rfl) (fun k hk _ => by omega)
      · exact (HB5.out.setCell (p := ⟨w.heap.size + 1, 0, none⟩) (Nat.le_succ _) _).setCell (p := ⟨w.heap.size + 1, 1, none⟩) (Nat.le_succ _) _
end Go.Proofs.Ytdhdphmehjkbnaa
