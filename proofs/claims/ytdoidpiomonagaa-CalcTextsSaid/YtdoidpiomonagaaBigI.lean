/- The document's numbers: Product; the law CalcSums. -/
import Derived.Test.YtdoidpiomonagaaBigH
import Derived.Test.YtdoidpiomonagaaTotals
namespace Go.Proofs.Ytdoidpiomonagaa
open Go.RowKit Go.Afx

theorem prod_small (l : List Int) (hf : ∀ x ∈ l, fits x) : ∀ k, (prodI (l.take k)).natAbs ≤ 10 ^ (19 * k)
  | 0 => by simp [prodI]
  | k + 1 => by
    have ih := prod_small l hf k
    by_cases h : k < l.length
    · rw [prodI_next l k h, Int.natAbs_mul, Nat.mul_succ, Nat.pow_add]
      exact Nat.mul_le_mul ih (by have := hf l[k] (List.getElem_mem h); unfold fits at this; omega)
    · rw [List.take_of_length_le (by omega)]
      rw [List.take_of_length_le (by omega)] at ih
      exact Nat.le_trans ih (Nat.pow_le_pow_right (by omega) (by omega))
theorem prod_len (l : List Int) (hf : ∀ x ∈ l, fits x) (k : Nat) (hk : k ≤ 100) : (ld (prodI (l.take k)).natAbs).length ≤ 2000 := by
  have h := prod_small l hf k
  have h2 := ld_len_le (prodI (l.take k)).natAbs (19 * k + 1) (by rw [Nat.pow_succ]; have : 0 < 10 ^ (19 * k) := Nat.pow_pos (by omega); omega)
  omega

set_option maxRecDepth 100000 in
set_option maxHeartbeats 2000000 in
theorem product_num (w : World) (v : Value) (l : List Int) (hl : Sl w (fun _ => True) 1 v l.length (ints l)) (hfit : ∀ x ∈ l, fits x) (hll : l.length ≤ 100) :
    Calls Try.prog 44 #[v] w fun e w' => ∃ v', e = .returned v' ∧ IsNum w' (fun k => w.heap.size + 2 ≤ k) v' (prodI l) ∧ Below w.heap.size w w' := by
  obtain ⟨p, cap, rfl, hc1, hc2⟩ := hl.form
  have HL := Lib.hid hl
  have HF := Lib.hid hfit
  have HPL : Hid (∀ k, k ≤ 100 → (ld (prodI (l.take k)).natAbs).length ≤ 2000) := fun k hk => prod_len l hfit k hk
  have HNX := Lib.hid (prodI_next l)
  clear hl hfit
  have hof1 := of_num (w.alloc (.cells #[.bool false, .slice none 0 0] 48)) 1 (by unfold fits; omega)
  have hb0 := Blk.new w 48 [.bool false, .slice none 0 0]
  have hbw0 : Below w.heap.size w (w.alloc (.cells #[.bool false, .slice none 0 0] 48)) := (Below.refl _ _).alloc (Nat.le_refl _) _
  have hsz0 : (w.alloc (.cells #[.bool false, .slice none 0 0] 48)).heap.size = w.heap.size + 1 := by simp
  go_enter Try.func44, Try.ntmps44
  go_wp2_with fail
  generalize (w.alloc (.cells #[.bool false, .slice none 0 0] 48)) = w0 at *
  refine hof1.mono ?_
  clear hof1
  rintro e w1 ⟨v1, rfl, hn1, hb1⟩
  obtain ⟨s1, p1, n1, c1, rfl⟩ := hn1.parts
  have HB0 : Hid (Blk (w1.alloc (.cells #[.bool s1, .slice p1 n1 c1] 48)) w.heap.size 48 [.bool false, .slice none 0 0]) := (hb0.below hb1).alloc _
  have HB1 : Hid (Blk (w1.alloc (.cells #[.bool s1, .slice p1 n1 c1] 48)) w1.heap.size 48 [.bool s1, .slice p1 n1 c1]) := Blk.new w1 _ _
  have HN1 : Hid (IsNum (w1.alloc (.cells #[.bool s1, .slice p1 n1 c1] 48)) (fun k => w.heap.size + 2 ≤ k ∧ k ≠ w1.heap.size) (.agg #[.bool s1, .slice p1 n1 c1]) 1) := IsNum.alloc' hn1 _ (fun k (h : w0.heap.size < k) => by omega)
  have HBW : Hid (Below w.heap.size w (w1.alloc (.cells #[.bool s1, .slice p1 n1 c1] 48))) := by
    have h1 := hbw0.trans (hb1.mono hbw0.size)
    exact h1.alloc h1.size _
  have hge : w.heap.size < w1.heap.size := by have := hb1.size; omega
  have HSZ1 : Hid ((w1.alloc (.cells #[.bool s1, .slice p1 n1 c1] 48)).heap.size = w1.heap.size + 1) := by show _ = _; simp
  have HSZ0 := Lib.hid hsz0
  have HGE := Lib.hid hge
  clear hb0 hbw0 hn1 hb1 hsz0
  generalize hw2 : (w1.alloc (.cells #[.bool s1, .slice p1 n1 c1] 48)) = w2 at *
  go_wp2_with (first | rw [hw2])
  go_loopw [4] (fun i wr => ∃ (k : Nat) (sg : Bool) (q : Option Addr) (n c : Nat), i = .int .i64 k ∧ k ≤ l.length ∧ Blk wr w1.heap.size 48 [.bool sg, .slice q n c] ∧ IsNum wr (fun k => w.heap.size + 2 ≤ k ∧ k ≠ w1.heap.size) (.agg #[.bool sg, .slice q n c]) (prodI (l.take k)) ∧ Blk wr w.heap.size 48 [.bool false, .slice none 0 0] ∧ Below w.heap.size w wr ∧ w1.heap.size < wr.heap.size) (fun i _ => l.length - (intOf i).toNat)
  case atStart => exact ⟨0, s1, p1, n1, c1, rfl, Nat.zero_le _, HB1.out, HN1.out, HB0.out, HBW.out, by have := HSZ1.out; omega⟩
  case round =>
    obtain ⟨k, sg, q, n, c, rfl, hk, hb1, hnum, hb0, hbw, hsz⟩ := hrel
    have HRB1 := Lib.hid hb1
    have HRB0 := Lib.hid hb0
    have HNUM := Lib.hid hnum
    have HRBW := Lib.hid hbw
    have HSZ := Lib.hid hsz
    by_cases hka : k < l.length
    · obtain ⟨g, off, cap', hv, _, _, hgb, hglt, hc⟩ := HL.out.place (by omega)
      cases hv
      have hc0 : w.cell? ⟨g, off + k, none⟩ = some (.int .i64 l[k]) := by rw [hc k (by simpa [ints] using hka)]; simp [ints, hka]
      have hck : wr.cell? ⟨g, off + k, none⟩ = some (.int .i64 l[k]) := (hbw.cell hglt).trans hc0
      have t10 : wr.cell? ⟨w1.heap.size, 0, none⟩ = some (.bool sg) := hb1.cell 0
      have t11 : wr.cell? ⟨w1.heap.size, 1, none⟩ = some (.slice q n c) := hb1.cell 1
      have HX := Lib.hid (HNX.out k hka)
      have hfx := HF.out l[k] (List.getElem_mem hka)
      have hg2 : g < wr.heap.size := Nat.lt_of_lt_of_le hglt hbw.size
      clear hc hc0 hb1 hb0 hnum hbw
      generalize l[k] = x at *
      have HOF := Lib.hid (fun w => of_num w x hfx)
      have HSM := Lib.hid (fits_small hfx)
      clear hfx
      go_wp2
      refine wp_region_lit_plan [] [(1, 0), (2, 0), (3, 0), (0, 2), (4, 1), (5, 3), (6, 4), (7, 4)] (fun k => k < wr.heap.size) (by kernel_rfl) (by kernel_rfl) (fun c a d v w h => by cases d <;> exact h) ?_
      go_wp2_with (first
        | (refine plan_pure (v := _) (by rfl) (by rfl) (by rfl) (by intro _; go_simp; with_reducible rfl) ?_; simp only [List.setIfInBounds_toArray, List.set_cons_zero, List.set_cons_succ]; try go_bits) | (refine plan_read (v := _) (by rfl) (by rfl) (by rfl) (by go_simp; with_reducible rfl) ?_; simp only [List.setIfInBounds_toArray, List.set_cons_zero, List.set_cons_succ]; try go_bits) | (refine plan_readB (v := _) (by rfl) (by rfl) (by rfl) (by intro _ hag; unfold Agree at hag; go_simp; with_reducible rfl) ?_; simp only [List.setIfInBounds_toArray, List.set_cons_zero, List.set_cons_succ]; try go_bits) | (refine plan_skip0 (by rfl) (by rfl) (by rfl) ?_; simp only [List.setIfInBounds_toArray, List.set_cons_zero, List.set_cons_succ]; try go_bits) | (refine plan_skip1 (by rfl) (by rfl) (by rfl) ?_; simp only [List.setIfInBounds_toArray, List.set_cons_zero, List.set_cons_succ]; try go_bits) | (refine plan_skip2 (by rfl) (by rfl) (by rfl) ?_; simp only [List.setIfInBounds_toArray, List.set_cons_zero, List.set_cons_succ]; try go_bits) | (refine plan_any (by rfl) ?_) | (refine plan_keep (by rfl) ?_) | (refine plan_nil ?_) | (with_reducible refine And.intro (by first | assumption | exact Agree.refl _ _ | exact agree_drew _ _ | exact agree_alloc _ (by intro k hk; subst hk; first | omega | (simp; omega))) ?_) | (unfold Act.put; simp only [List.setIfInBounds_toArray, List.set_cons_zero, List.set_cons_succ])
        | (go_at_call 29; refine (HOF.out _).mono ?_; rintro e w5 ⟨v5, rfl, hn5, hb5⟩; obtain ⟨s5, p5, n5, c5, rfl⟩ := hn5.parts;
           have hag : Agree (fun k => k < wr.heap.size) wr.drew w5 := agree_bel hb5 (fun k hk => hk);
           have HN5 := Lib.hid hn5; have HB5 := Lib.hid hb5; clear hn5 hb5)
        | (go_at_call 31; refine (times_num w5 _ _ _ _ (((IsNum.drew HNUM.out).below HB5.out).weak fun _ _ => trivial) (HN5.out.weak fun _ _ => trivial) (HPL.out k (by omega)) (Nat.le_trans HSM.out (by omega))).mono ?_; rintro e w6 ⟨v6, rfl, hn6, hb6⟩; obtain ⟨s6, p6, n6, c6, rfl⟩ := hn6.parts;
           have hag6 : Agree (fun k => k < wr.heap.size) w5 w6 := agree_bel hb6 (fun k hk => Nat.lt_of_lt_of_le hk HB5.out.size);
           have HB16 := Lib.hid (((show Blk wr.drew _ _ _ from HRB1.out).below HB5.out).below hb6);
           have k10 : w6.cell? ⟨w1.heap.size, 0, none⟩ = some (.bool sg) := HB16.out.cell 0; have k11 : w6.cell? ⟨w1.heap.size, 1, none⟩ = some (.slice q n c) := HB16.out.cell 1;
           have kf : ∀ i, w6.frozen? ⟨w1.heap.size, i, none⟩ = false := HB16.out.frozen; have HN6 := Lib.hid hn6; have HB6 := Lib.hid hb6; clear hn6 hb6))
      have ho7 : Only (fun k => k = w1.heap.size) w6 ((w6.setCell ⟨w1.heap.size, 0, none⟩ (.bool s6)).setCell ⟨w1.heap.size, 1, none⟩ (.slice p6 n6 c6)) := ((Only.refl (fun k => k = w1.heap.size) w6).setCell (p := ⟨w1.heap.size, 0, none⟩) (fun _ => rfl) _).setCell (p := ⟨w1.heap.size, 1, none⟩) (fun _ => rfl) _
      have hs5 : wr.heap.size ≤ w5.heap.size := HB5.out.size
      have h6 : Below w.heap.size w w6 := (HRBW.out.drew.trans (HB5.out.mono HRBW.out.size)).trans (HB6.out.mono (Nat.le_trans HRBW.out.size hs5))
      have hw1le : w.heap.size ≤ w1.heap.size := Nat.le_of_lt hge
      refine ⟨⟨k + 1, s6, p6, n6, c6, by congr 1, by omega, (HB16.out.set 0 _).set 1 _, ?_, ((((show Blk wr.drew _ _ _ from HRB0.out).below HB5.out).below HB6.out).only ho7 (by omega)), (h6.setCell hw1le _).setCell hw1le _, ?_⟩, ?_⟩
      · rw [HX.out]
        exact IsNum.weak (IsNum.only HN6.out ho7 (fun k (h1 : w5.heap.size ≤ k) h2 => by omega)) (fun k (h1 : w5.heap.size ≤ k) => by omega)
      · have h1 := HB6.out.size
        have h3 := ho7.size
        omega
      · show l.length - ((k : Int) + 1).toNat < l.length - (k : Int).toNat
        omega
    · obtain rfl : k = l.length := by omega
      have hend : IsNum wr (fun k => w.heap.size + 2 ≤ k) (.agg #[.bool sg, .slice q n c]) (prodI l) := by have := HNUM.out; rw [List.take_length] at this; exact this.weak fun _ h => h.1
      have HEND := Lib.hid hend
      have d0 : wr.cell? ⟨w1.heap.size, 0, none⟩ = some (.bool sg) := hb1.cell 0
      have d1 : wr.cell? ⟨w1.heap.size, 1, none⟩ = some (.slice q n c) := hb1.cell 1
      have c0 : wr.cell? ⟨w.heap.size, 0, none⟩ = some (.bool false) := hb0.cell 0
      have c1 : wr.cell? ⟨w.heap.size, 1, none⟩ = some (.slice none 0 0) := hb0.cell 1
      have hf : ∀ i, wr.frozen? ⟨w.heap.size, i, none⟩ = false := hb0.frozen
      clear hb1 hb0 hnum hbw hend hka
      go_wp2
      have HR := (HRB0.out.set 0 (.bool sg)).set 1 (.slice q n c)
      have k0 := HR.cell 0
      have k1 := HR.cell 1
      refine bodyPost_ret (v := .agg #[.bool sg, .slice q n c]) (by simp [results, Try.results44, go_sem, k0, k1]) rfl ⟨_, rfl, ?_, (HRBW.out.setCell (Nat.le_refl _) _).setCell (Nat.le_refl _) _⟩
      exact IsNum.only HEND.out (((Only.refl (fun k => k = w.heap.size) wr).setCell (p := ⟨w.heap.size, 0, none⟩) (fun _ => rfl) _).setCell (p := ⟨w.heap.size, 1, none⟩) (fun _ => rfl) _) (fun k h1 h2 => by omega)
end Go.Proofs.Ytdoidpiomonagaa
