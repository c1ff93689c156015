/- The law CalcTotals: what the walk shows. -/
import Derived.Test.YtdoidpiomonagaaTotalsA
namespace Go.Proofs.Ytdoidpiomonagaa
open Go.RowKit Go.Afx

theorem boxes2t (w : World) (A C : List Value) (t u : TypeId) :
    Blk ((w.alloc (.cells A.toArray t)).alloc (.cells C.toArray u)) w.heap.size t A ∧
    Blk ((w.alloc (.cells A.toArray t)).alloc (.cells C.toArray u)) (w.heap.size + 1) u C ∧
    Below w.heap.size w ((w.alloc (.cells A.toArray t)).alloc (.cells C.toArray u)) ∧
    ((w.alloc (.cells A.toArray t)).alloc (.cells C.toArray u)).heap.size = w.heap.size + 2 := by
  have h1 := Blk.new w t A
  have h2 := Blk.new (w.alloc (.cells A.toArray t)) u C
  have e1 : (w.alloc (.cells A.toArray t)).heap.size = w.heap.size + 1 := by simp
  rw [e1] at h2
  refine ⟨h1.alloc _, h2, ?_, by simp⟩
  exact ((Below.refl _ _).alloc (Nat.le_refl _) _).alloc (by omega) _

theorem msum_range (minus : Bool) (l : List Int) (hf : ∀ x ∈ l, fits x) (hl : l.length ≤ 20) : -184467440737095516160 ≤ msum minus l ∧ msum minus l ≤ 184467440737095516160 := by
  have h := sum_range l hf
  unfold msum
  split <;> omega

theorem IsNum.drew {w : World} {B : Nat → Prop} {v : Value} {z : Int} (h : IsNum w B v z) : IsNum w.drew B v z := by
  obtain ⟨dv, h1, h2⟩ := h
  exact ⟨dv, h1, h2.drew⟩
theorem near_len {z : Int} {k : Int} (h1 : -184467440737095516160 * k ≤ z) (h2 : z ≤ 184467440737095516160 * k) (hk : k ≤ 31 := by omega) : (ld z.natAbs).length ≤ 5000 := by
  have e : (10 : Nat) ^ 30 = 1000000000000000000000000000000 := by decide
  have h := ld_len_le z.natAbs 30 (by rw [e]; omega)
  omega

set_option maxRecDepth 100000 in
set_option maxHeartbeats 4000000 in
theorem totals_walk (v : Value) (acts : List TAct) (w : World) (ha : IsTActs w v acts) :
    Calls Try.prog 7 #[v] w fun e w' => e = .returned (.bool true) ∧ Below w.heap.size w w' := by
  obtain ⟨p, cap, rfl, _, _⟩ := ha.1.form
  have HA := Lib.hid ha
  clear ha
  by_cases hlen : 30 < acts.length
  · have d1 : (30 : Int) < acts.length := by omega
    go_enter Try.func7, Try.ntmps7
    go_wp2_with (go_at_call 26; refine (awake_true _).mono ?_; rintro e w2 ⟨rfl, hb2⟩)
    go_ret
    exact ⟨rfl, hb2⟩
  have d1 : (acts.length : Int) ≤ 30 := by omega
  have HZN := Lib.hid (totZ_next acts)
  have HNN := Lib.hid (totN_next acts)
  obtain ⟨b0, b1, hb4, hs4⟩ := boxes2t w [.int .u64 0, .int .u64 0, .int .i64 0] [.bool false, .slice none 0 0] 60 48
  go_enter Try.func7, Try.ntmps7
  go_wp2
  generalize ((w.alloc (.cells #[.int .u64 0, .int .u64 0, .int .i64 0] 60)).alloc (.cells #[.bool false, .slice none 0 0] 48)) = w1 at *
  have B0 : Hid (IsTot w1 w.heap.size 0 0) := b0
  have B1 := Lib.hid b1
  have HB4 := Lib.hid hb4
  have HS4 := Lib.hid hs4
  clear b0 b1 hb4 hs4
  go_loopw [6, 7] (fun n i wr => ∃ (k : Nat) (sg : Bool) (q : Option Addr) (nn c : Nat), i = .int .i64 k ∧ n = .int .i64 (totN (acts.take k)) ∧ k ≤ acts.length ∧ -20 * (k : Int) ≤ totN (acts.take k) ∧ totN (acts.take k) ≤ 20 * k ∧ -184467440737095516160 * (k : Int) ≤ totZ (acts.take k) ∧ totZ (acts.take k) ≤ 184467440737095516160 * k ∧
    IsTot wr w.heap.size (totZ (acts.take k)) (totN (acts.take k)) ∧ Blk wr (w.heap.size + 1) 48 [.bool sg, .slice q nn c] ∧ IsNum wr (fun k => w.heap.size + 2 ≤ k) (.agg #[.bool sg, .slice q nn c]) (totZ (acts.take k)) ∧ Below w.heap.size w wr ∧ w.heap.size + 2 ≤ wr.heap.size) (fun _ i _ => acts.length - (intOf i).toNat)
  case atStart =>
    refine ⟨0, false, none, 0, 0, rfl, rfl, Nat.zero_le _, by simp [totN], by simp [totN], by simp [totZ], by simp [totZ], B0.out, B1.out, ⟨.slice none 0 0, rfl, ?_⟩, HB4.out, by rw [HS4.out]; exact Nat.le_refl _⟩
    have : (totZ (acts.take 0)).natAbs = 0 := rfl
    rw [this, ld_zero]
    exact (Own.nil w1 3 1).sl (by simp [Value.ownBlock])
  case round =>
    obtain ⟨k, sg, q, nn, c, rfl, rfl, hk, hn1, hn2, hz1, hz2, htot, hb1, hnum, hbw, hsz⟩ := hrel
    have HB1 := Lib.hid hb1
    have HTOT := Lib.hid htot
    have HNUM := Lib.hid hnum
    have HBW := Lib.hid hbw
    have HSZ := Lib.hid hsz
    by_cases hka : k < acts.length
    · obtain ⟨g, off, cap', hv, hg, e0, e1, hl, hfit⟩ := HA.out.at hka
      cases hv
      have HZ := Lib.hid (HZN.out k hka)
      have HN := Lib.hid (HNN.out k hka)
      clear htot hb1 hnum
      generalize acts[k] = ac at *
      obtain ⟨tk, lv, l⟩ := ac
      obtain ⟨lp, lcap, hlv, hlc, hlc2⟩ := hl.form
      have hlv2 : lv = .slice lp l.length lcap := hlv
      subst hlv2
      clear hlv
      have HL : Hid (Sl w (fun _ => True) 1 (.slice lp l.length lcap) l.length (ints l)) := hl
      have HF : Hid (∀ x ∈ l, fits x) := hfit
      have f0 : wr.cell? ⟨g, off + k * 2, none⟩ = some (.bool tk) := (hbw.cell hg).trans e0
      have f1 : wr.cell? ⟨g, off + k * 2 + 1, none⟩ = some (.slice lp l.length lcap) := (hbw.cell hg).trans e1
      have HZ2 : Hid (totZ (acts.take (k + 1)) = totZ (acts.take k) + msum tk l) := HZ.out
      have HN2 : Hid (totN (acts.take (k + 1)) = totN (acts.take k) + (if tk then -(l.length : Int) else l.length)) := HN.out
      have HRG := Lib.hid (fun h => msum_range tk l hfit h)
      clear hl hfit e0 e1 HZ HN hbw
      generalize totZ (acts.take k) = z at *
      generalize totN (acts.take k) = m at *
      by_cases hl20 : 20 < l.length
      · go_wp2_with (go_at_call 26; refine (awake_true _).mono ?_; rintro e w2 ⟨rfl, hb2⟩)
        go_ret
        exact ⟨rfl, HBW.out.trans (hb2.mono HBW.out.size)⟩
      have hl20' : l.length ≤ 20 := by omega
      have HLR : Hid (Sl wr (fun k => k ≠ w.heap.size) 1 (.slice lp l.length lcap) l.length (ints l)) := Sl.weak (Sl.lift HL.out HBW.out) (fun k hk => by omega)
      have hrg := HRG.out hl20'
      clear hl20 HRG
      cases tk
      · have HP := Lib.hid (put_tot wr w.heap.size z m _ l HTOT.out HLR.out HF.out (by omega) (by omega) (by omega))
        go_wp2_with (first
          | (go_at_call 34; refine HP.out.mono ?_; clear HP; rintro e w2 ⟨rfl, ht2, ho2⟩; have HT2 := Lib.hid ht2; have HO2 := Lib.hid ho2;
             have g0 : w2.cell? ⟨g, off + k * 2, none⟩ = some (.bool false) := (ho2.cell (Nat.lt_of_lt_of_le hg HBW.out.size) (Nat.ne_of_lt hg)).trans f0;
             have g1 : w2.cell? ⟨g, off + k * 2 + 1, none⟩ = some (.slice lp l.length lcap) := (ho2.cell (Nat.lt_of_lt_of_le hg HBW.out.size) (Nat.ne_of_lt hg)).trans f1;
             have HB12 := Lib.hid (HB1.out.only ho2 (by omega));
             have c10 : w2.cell? ⟨w.heap.size + 1, 0, none⟩ = some (.bool sg) := HB12.out.cell 0; have c11 : w2.cell? ⟨w.heap.size + 1, 1, none⟩ = some (.slice q nn c) := HB12.out.cell 1; clear ht2 ho2)
          | (go_at_call 34; refine (put_nil _ _ _ _).mono ?_; rintro e w3 ⟨rfl, rfl⟩))
        have HBW2 : Hid (Below w.heap.size w w2) := HBW.out.trans (HO2.out.below HBW.out.size (fun k hk => by omega))
        have hsz2 : w.heap.size + 2 ≤ w2.heap.size := Nat.le_trans hsz HO2.out.size
        have HSU : Hid (∀ w', Below w2.heap.size w2 w' → Calls Try.prog 35 #[.slice lp l.length lcap, .bool false] w' fun e w4 => ∃ v', e = .returned v' ∧ IsNum w4 (fun k => w'.heap.size + 2 ≤ k) v' (msum false l) ∧ Below w'.heap.size w' w4) := fun w' h =>
          sum_num w' _ l false (HL.out.below (HBW2.out.trans (h.mono HBW2.out.size))) HF.out (by omega)
        have hms := Lib.hid (msum_small false l HF.out (by omega))
        have HNUM2 := Lib.hid (IsNum.only HNUM.out HO2.out (fun k h1 h2 => by omega))
        have hg2 : g < w2.heap.size := Nat.lt_of_lt_of_le hg HBW2.out.size
        have hl1 : w.heap.size + 1 < w2.heap.size := by omega
        refine wp_region_lit_plan [] [(1, 0), (2, 0), (3, 0), (4, 0), (6, 0), (7, 0), (8, 0), (9, 0), (0, 2), (5, 1), (10, 1), (11, 3), (12, 4), (13, 4)] (fun k => k < w2.heap.size) (by kernel_rfl) (by kernel_rfl) (fun c a d v w h => by cases d <;> exact h) ?_
        go_wp2_with (first
          | (refine plan_pure (v := _) (by rfl) (by rfl) (by rfl) (by intro _; go_simp; with_reducible rfl) ?_; simp only [List.setIfInBounds_toArray, List.set_cons_zero, List.set_cons_succ]; try go_bits) | (refine plan_read (v := _) (by rfl) (by rfl) (by rfl) (by go_simp; with_reducible rfl) ?_; simp only [List.setIfInBounds_toArray, List.set_cons_zero, List.set_cons_succ]; try go_bits) | (refine plan_readB (v := _) (by rfl) (by rfl) (by rfl) (by intro _ hag; unfold Agree at hag; go_simp; with_reducible rfl) ?_; simp only [List.setIfInBounds_toArray, List.set_cons_zero, List.set_cons_succ]; try go_bits) | (refine plan_skip0 (by rfl) (by rfl) (by rfl) ?_; simp only [List.setIfInBounds_toArray, List.set_cons_zero, List.set_cons_succ]; try go_bits) | (refine plan_skip1 (by rfl) (by rfl) (by rfl) ?_; simp only [List.setIfInBounds_toArray, List.set_cons_zero, List.set_cons_succ]; try go_bits) | (refine plan_skip2 (by rfl) (by rfl) (by rfl) ?_; simp only [List.setIfInBounds_toArray, List.set_cons_zero, List.set_cons_succ]; try go_bits) | (refine plan_any (by rfl) ?_) | (refine plan_keep (by rfl) ?_) | (refine plan_nil ?_) | (with_reducible refine And.intro (by first | assumption | exact Agree.refl _ _ | exact agree_drew _ _ | exact agree_alloc _ (by intro k hk; subst hk; first | omega | (simp; omega))) ?_) | (unfold Act.put; simp only [List.setIfInBounds_toArray, List.set_cons_zero, List.set_cons_succ])
          | (go_at_call 35; refine (HSU.out _ (Below.drew (Below.refl _ _))).mono ?_; clear HSU; rintro e w5 ⟨v5, rfl, hn5, hb5⟩; obtain ⟨s5, p5, n5, c5, rfl⟩ := hn5.parts;
             have hag : Agree (fun k => k < w2.heap.size) w2.drew w5 := agree_bel hb5 (fun k hk => hk);
             have HN5 := Lib.hid hn5; have HB5 := Lib.hid hb5; clear hn5 hb5)
          | (go_at_call 30; refine (plus_num w5 _ _ _ _ (((IsNum.drew HNUM2.out).below HB5.out).weak fun _ _ => trivial) (HN5.out.weak fun _ _ => trivial) (near_len (k := (k : Int)) hz1 hz2 (by omega)) (Nat.le_trans hms.out (by omega))).mono ?_; rintro e w6 ⟨v6, rfl, hn6, hb6⟩; obtain ⟨s6, p6, n6, c6, rfl⟩ := hn6.parts;
             have hag6 : Agree (fun k => k < w2.heap.size) w5 w6 := agree_bel hb6 (fun k hk => Nat.lt_of_lt_of_le hk HB5.out.size);
             have HB16 := Lib.hid (((show Blk w2.drew _ _ _ from HB12.out).below HB5.out).below hb6);
             have k10 : w6.cell? ⟨w.heap.size + 1, 0, none⟩ = some (.bool sg) := HB16.out.cell 0; have k11 : w6.cell? ⟨w.heap.size + 1, 1, none⟩ = some (.slice q nn c) := HB16.out.cell 1;
             have kf : ∀ i, w6.frozen? ⟨w.heap.size + 1, i, none⟩ = false := HB16.out.frozen; have HN6 := Lib.hid hn6; have HB6 := Lib.hid hb6; clear hn6 hb6))
        have ho7 : Only (fun k => k = w.heap.size + 1) w6 ((w6.setCell ⟨w.heap.size + 1, 0, none⟩ (.bool s6)).setCell ⟨w.heap.size + 1, 1, none⟩ (.slice p6 n6 c6)) := ((Only.refl (fun k => k = w.heap.size + 1) w6).setCell (p := ⟨w.heap.size + 1, 0, none⟩) (fun _ => rfl) _).setCell (p := ⟨w.heap.size + 1, 1, none⟩) (fun _ => rfl) _
        have HN7 := Lib.hid (IsNum.only HN6.out ho7 (fun k (h1 : w5.heap.size ≤ k) h2 => by have h3 : w2.heap.size ≤ w5.heap.size := HB5.out.size; omega))
        have HB17 := Lib.hid ((HB16.out.set 0 (.bool s6)).set 1 (.slice p6 n6 c6))
        have HT7 : Hid (IsTot ((w6.setCell ⟨w.heap.size + 1, 0, none⟩ (.bool s6)).setCell ⟨w.heap.size + 1, 1, none⟩ (.slice p6 n6 c6)) w.heap.size _ _) := ((HT2.out.drew.below HB5.out).below HB6.out).only ho7 (by omega)
        have h26 : Below w.heap.size w w6 := (HBW2.out.drew.trans (HB5.out.mono HBW2.out.size)).trans (HB6.out.mono (Nat.le_trans HBW2.out.size HB5.out.size))
        have HB7 : Hid (Below w.heap.size w ((w6.setCell ⟨w.heap.size + 1, 0, none⟩ (.bool s6)).setCell ⟨w.heap.size + 1, 1, none⟩ (.slice p6 n6 c6))) := (h26.setCell (by show w.heap.size ≤ w.heap.size + 1; omega) _).setCell (by show w.heap.size ≤ w.heap.size + 1; omega) _
        have hsz7 : w2.heap.size ≤ ((w6.setCell ⟨w.heap.size + 1, 0, none⟩ (.bool s6)).setCell ⟨w.heap.size + 1, 1, none⟩ (.slice p6 n6 c6)).heap.size := Nat.le_trans (Nat.le_trans HB5.out.size HB6.out.size) ho7.size
        have HSZ7 := Lib.hid hsz7
        have HSZ5 := Lib.hid HB5.out.size
        clear ho7 h26 hsz7
        generalize hw7 : (w6.setCell ⟨w.heap.size + 1, 0, none⟩ (.bool s6)).setCell ⟨w.heap.size + 1, 1, none⟩ (.slice p6 n6 c6) = w7 at *
        have hzz : z + l.sum = z + msum false l := by unfold msum; simp <;> omega
        rw [hzz] at HT7
        clear hzz
        have hq1 : -184467440737095516160 * ((k : Int) + 1) ≤ z + msum false l := by omega
        have hq2 : z + msum false l ≤ 184467440737095516160 * ((k : Int) + 1) := by omega
        have HQ := Lib.hid (And.intro hq1 hq2)
        clear hq1 hq2 hrg hz1 hz2
        generalize hzn : z + msum false l = zn at *
        have hnl : (ld zn.natAbs).length ≤ 5000 := near_len (k := (k : Int) + 1) HQ.out.1 HQ.out.2 (by omega)
        have HNL := Lib.hid hnl
        have HST := Lib.hid (sum_tot w7 w.heap.size zn _ HT7.out (by have := HQ.out; unfold near; omega))
        have hmn : m + (l.length : Int) = totN (acts.take (k + 1)) := by rw [HN2.out]; simp <;> omega
        clear hnl
        go_wp2_with (first
          | (go_at_call 36; refine HST.out.mono ?_; clear HST; rintro e w8 ⟨rfl, hb8⟩;
             have HB18 := Lib.hid (HB17.out.below hb8); have HT8 := Lib.hid (HT7.out.below hb8); have HN8 := Lib.hid (HN7.out.below hb8); have HB8 := Lib.hid hb8; clear hb8;
             have r10 : w8.cell? ⟨w.heap.size + 1, 0, none⟩ = some (.bool s6) := HB18.out.cell 0; have r11 : w8.cell? ⟨w.heap.size + 1, 1, none⟩ = some (.slice p6 n6 c6) := HB18.out.cell 1)
          | (go_at_call 27; refine (told_any w8 _ zn (HN8.out.weak fun _ _ => trivial) (Nat.le_trans HNL.out (by omega))).mono ?_; rintro e w9 ⟨rfl, hb9⟩; have HT9 := Lib.hid (HT8.out.below hb9); have HB9 := Lib.hid hb9; have HN9 := Lib.hid (HN8.out.below hb9); have HB19 := Lib.hid (HB18.out.below hb9); clear hb9)
          | (go_at_call 37; refine (count_tot w9 w.heap.size zn _ HT9.out).mono ?_; rintro e w10 ⟨rfl, rfl⟩))
        have hb79 := HB7.out.trans (HB8.out.mono HB7.out.size)
        have hb9 := hb79.trans (HB9.out.mono hb79.size)
        have hez : zn = totZ (acts.take (k + 1)) := HZ2.out.symm
        refine ⟨⟨k + 1, s6, p6, n6, c6, by congr 1, by first | rfl | rw [hmn], by omega, by rw [← hmn]; push_cast; omega, by rw [← hmn]; push_cast; omega, by rw [← hez]; have := HQ.out.1; push_cast; omega, by rw [← hez]; have := HQ.out.2; push_cast; omega, ?_, HB19.out, ?_, hb9, ?_⟩, ?_⟩
        · rw [← hez, ← hmn]; exact HT9.out
        · rw [← hez]
          exact HN9.out.weak (fun k (h : w5.heap.size ≤ k) => by have h3 : w2.heap.size ≤ w5.heap.size := HSZ5.out; omega)
        · have h1 := HSZ7.out
          have h2 := HB8.out.size
          have h3 := HB9.out.size
          omega
        · show acts.length - ((k : Int) + 1).toNat < acts.length - (k : Int).toNat
          omega
      · have HP := Lib.hid (take_tot wr w.heap.size z m _ l HTOT.out HLR.out HF.out (by omega) (by omega) (by omega))
        go_wp2_with (first
          | (go_at_call 33; refine HP.out.mono ?_; clear HP; rintro e w2 ⟨rfl, ht2, ho2⟩; have HT2 := Lib.hid ht2; have HO2 := Lib.hid ho2;
             have g0 : w2.cell? ⟨g, off + k * 2, none⟩ = some (.bool true) := (ho2.cell (Nat.lt_of_lt_of_le hg HBW.out.size) (Nat.ne_of_lt hg)).trans f0;
             have g1 : w2.cell? ⟨g, off + k * 2 + 1, none⟩ = some (.slice lp l.length lcap) := (ho2.cell (Nat.lt_of_lt_of_le hg HBW.out.size) (Nat.ne_of_lt hg)).trans f1;
             have HB12 := Lib.hid (HB1.out.only ho2 (by omega));
             have c10 : w2.cell? ⟨w.heap.size + 1, 0, none⟩ = some (.bool sg) := HB12.out.cell 0; have c11 : w2.cell? ⟨w.heap.size + 1, 1, none⟩ = some (.slice q nn c) := HB12.out.cell 1; clear ht2 ho2)
          | (go_at_call 33; refine (take_nilT _ _ _ _).mono ?_; rintro e w3 ⟨rfl, rfl⟩))
        have HBW2 : Hid (Below w.heap.size w w2) := HBW.out.trans (HO2.out.below HBW.out.size (fun k hk => by omega))
        have hsz2 : w.heap.size + 2 ≤ w2.heap.size := Nat.le_trans hsz HO2.out.size
        have HSU : Hid (∀ w', Below w2.heap.size w2 w' → Calls Try.prog 35 #[.slice lp l.length lcap, .bool true] w' fun e w4 => ∃ v', e = .returned v' ∧ IsNum w4 (fun k => w'.heap.size + 2 ≤ k) v' (msum true l) ∧ Below w'.heap.size w' w4) := fun w' h =>
          sum_num w' _ l true (HL.out.below (HBW2.out.trans (h.mono HBW2.out.size))) HF.out (by omega)
        have hms := Lib.hid (msum_small true l HF.out (by omega))
        have HNUM2 := Lib.hid (IsNum.only HNUM.out HO2.out (fun k h1 h2 => by omega))
        have hg2 : g < w2.heap.size := Nat.lt_of_lt_of_le hg HBW2.out.size
        have hl1 : w.heap.size + 1 < w2.heap.size := by omega
        refine wp_region_lit_plan [] [(1, 0), (2, 0), (3, 0), (4, 0), (6, 0), (7, 0), (8, 0), (9, 0), (0, 2), (5, 1), (10, 1), (11, 3), (12, 4), (13, 4)] (fun k => k < w2.heap.size) (by kernel_rfl) (by kernel_rfl) (fun c a d v w h => by cases d <;> exact h) ?_
        go_wp2_with (first
          | (refine plan_pure (v := _) (by rfl) (by rfl) (by rfl) (by intro _; go_simp; with_reducible rfl) ?_; simp only [List.setIfInBounds_toArray, List.set_cons_zero, List.set_cons_succ]; try go_bits) | (refine plan_read (v := _) (by rfl) (by rfl) (by rfl) (by go_simp; with_reducible rfl) ?_; simp only [List.setIfInBounds_toArray, List.set_cons_zero, List.set_cons_succ]; try go_bits) | (refine plan_readB (v := _) (by rfl) (by rfl) (by rfl) (by intro _ hag; unfold Agree at hag; go_simp; with_reducible rfl) ?_; simp only [List.setIfInBounds_toArray, List.set_cons_zero, List.set_cons_succ]; try go_bits) | (refine plan_skip0 (by rfl) (by rfl) (by rfl) ?_; simp only [List.setIfInBounds_toArray, List.set_cons_zero, List.set_cons_succ]; try go_bits) | (refine plan_skip1 (by rfl) (by rfl) (by rfl) ?_; simp only [List.setIfInBounds_toArray, List.set_cons_zero, List.set_cons_succ]; try go_bits) | (refine plan_skip2 (by rfl) (by rfl) (by rfl) ?_; simp only [List.setIfInBounds_toArray, List.set_cons_zero, List.set_cons_succ]; try go_bits) | (refine plan_any (by rfl) ?_) | (refine plan_keep (by rfl) ?_) | (refine plan_nil ?_) | (with_reducible refine And.intro (by first | assumption | exact Agree.refl _ _ | exact agree_drew _ _ | exact agree_alloc _ (by intro k hk; subst hk; first | omega | (simp; omega))) ?_) | (unfold Act.put; simp only [List.setIfInBounds_toArray, List.set_cons_zero, List.set_cons_succ])
          | (go_at_call 35; refine (HSU.out _ (Below.drew (Below.refl _ _))).mono ?_; clear HSU; rintro e w5 ⟨v5, rfl, hn5, hb5⟩; obtain ⟨s5, p5, n5, c5, rfl⟩ := hn5.parts;
             have hag : Agree (fun k => k < w2.heap.size) w2.drew w5 := agree_bel hb5 (fun k hk => hk);
             have HN5 := Lib.hid hn5; have HB5 := Lib.hid hb5; clear hn5 hb5)
          | (go_at_call 30; refine (plus_num w5 _ _ _ _ (((IsNum.drew HNUM2.out).below HB5.out).weak fun _ _ => trivial) (HN5.out.weak fun _ _ => trivial) (near_len (k := (k : Int)) hz1 hz2 (by omega)) (Nat.le_trans hms.out (by omega))).mono ?_; rintro e w6 ⟨v6, rfl, hn6, hb6⟩; obtain ⟨s6, p6, n6, c6, rfl⟩ := hn6.parts;
             have hag6 : Agree (fun k => k < w2.heap.size) w5 w6 := agree_bel hb6 (fun k hk => Nat.lt_of_lt_of_le hk HB5.out.size);
             have HB16 := Lib.hid (((show Blk w2.drew _ _ _ from HB12.out).below HB5.out).below hb6);
             have k10 : w6.cell? ⟨w.heap.size + 1, 0, none⟩ = some (.bool sg) := HB16.out.cell 0; have k11 : w6.cell? ⟨w.heap.size + 1, 1, none⟩ = some (.slice q nn c) := HB16.out.cell 1;
             have kf : ∀ i, w6.frozen? ⟨w.heap.size + 1, i, none⟩ = false := HB16.out.frozen; have HN6 := Lib.hid hn6; have HB6 := Lib.hid hb6; clear hn6 hb6))
        have ho7 : Only (fun k => k = w.heap.size + 1) w6 ((w6.setCell ⟨w.heap.size + 1, 0, none⟩ (.bool s6)).setCell ⟨w.heap.size + 1, 1, none⟩ (.slice p6 n6 c6)) := ((Only.refl (fun k => k = w.heap.size + 1) w6).setCell (p := ⟨w.heap.size + 1, 0, none⟩) (fun _ => rfl) _).setCell (p := ⟨w.heap.size + 1, 1, none⟩) (fun _ => rfl) _
        have HN7 := Lib.hid (IsNum.only HN6.out ho7 (fun k (h1 : w5.heap.size ≤ k) h2 => by have h3 : w2.heap.size ≤ w5.heap.size := HB5.out.size; omega))
        have HB17 := Lib.hid ((HB16.out.set 0 (.bool s6)).set 1 (.slice p6 n6 c6))
        have HT7 : Hid (IsTot ((w6.setCell ⟨w.heap.size + 1, 0, none⟩ (.bool s6)).setCell ⟨w.heap.size + 1, 1, none⟩ (.slice p6 n6 c6)) w.heap.size _ _) := ((HT2.out.drew.below HB5.out).below HB6.out).only ho7 (by omega)
        have h26 : Below w.heap.size w w6 := (HBW2.out.drew.trans (HB5.out.mono HBW2.out.size)).trans (HB6.out.mono (Nat.le_trans HBW2.out.size HB5.out.size))
        have HB7 : Hid (Below w.heap.size w ((w6.setCell ⟨w.heap.size + 1, 0, none⟩ (.bool s6)).setCell ⟨w.heap.size + 1, 1, none⟩ (.slice p6 n6 c6))) := (h26.setCell (by show w.heap.size ≤ w.heap.size + 1; omega) _).setCell (by show w.heap.size ≤ w.heap.size + 1; omega) _
        have hsz7 : w2.heap.size ≤ ((w6.setCell ⟨w.heap.size + 1, 0, none⟩ (.bool s6)).setCell ⟨w.heap.size + 1, 1, none⟩ (.slice p6 n6 c6)).heap.size := Nat.le_trans (Nat.le_trans HB5.out.size HB6.out.size) ho7.size
        have HSZ7 := Lib.hid hsz7
        have HSZ5 := Lib.hid HB5.out.size
        clear ho7 h26 hsz7
        generalize hw7 : (w6.setCell ⟨w.heap.size + 1, 0, none⟩ (.bool s6)).setCell ⟨w.heap.size + 1, 1, none⟩ (.slice p6 n6 c6) = w7 at *
        have hzz : z - l.sum = z + msum true l := by unfold msum; simp <;> omega
        rw [hzz] at HT7
        clear hzz
        have hq1 : -184467440737095516160 * ((k : Int) + 1) ≤ z + msum true l := by omega
        have hq2 : z + msum true l ≤ 184467440737095516160 * ((k : Int) + 1) := by omega
        have HQ := Lib.hid (And.intro hq1 hq2)
        clear hq1 hq2 hrg hz1 hz2
        generalize hzn : z + msum true l = zn at *
        have hnl : (ld zn.natAbs).length ≤ 5000 := near_len (k := (k : Int) + 1) HQ.out.1 HQ.out.2 (by omega)
        have HNL := Lib.hid hnl
        have HST := Lib.hid (sum_tot w7 w.heap.size zn _ HT7.out (by have := HQ.out; unfold near; omega))
        have hmn : m - (l.length : Int) = totN (acts.take (k + 1)) := by rw [HN2.out]; simp <;> omega
        clear hnl
        go_wp2_with (first
          | (go_at_call 36; refine HST.out.mono ?_; clear HST; rintro e w8 ⟨rfl, hb8⟩;
             have HB18 := Lib.hid (HB17.out.below hb8); have HT8 := Lib.hid (HT7.out.below hb8); have HN8 := Lib.hid (HN7.out.below hb8); have HB8 := Lib.hid hb8; clear hb8;
             have r10 : w8.cell? ⟨w.heap.size + 1, 0, none⟩ = some (.bool s6) := HB18.out.cell 0; have r11 : w8.cell? ⟨w.heap.size + 1, 1, none⟩ = some (.slice p6 n6 c6) := HB18.out.cell 1)
          | (go_at_call 27; refine (told_any w8 _ zn (HN8.out.weak fun _ _ => trivial) (Nat.le_trans HNL.out (by omega))).mono ?_; rintro e w9 ⟨rfl, hb9⟩; have HT9 := Lib.hid (HT8.out.below hb9); have HB9 := Lib.hid hb9; have HN9 := Lib.hid (HN8.out.below hb9); have HB19 := Lib.hid (HB18.out.below hb9); clear hb9)
          | (go_at_call 37; refine (count_tot w9 w.heap.size zn _ HT9.out).mono ?_; rintro e w10 ⟨rfl, rfl⟩))
        have hb79 := HB7.out.trans (HB8.out.mono HB7.out.size)
        have hb9 := hb79.trans (HB9.out.mono hb79.size)
        have hez : zn = totZ (acts.take (k + 1)) := HZ2.out.symm
        refine ⟨⟨k + 1, s6, p6, n6, c6, by congr 1, by first | rfl | rw [hmn], by omega, by rw [← hmn]; push_cast; omega, by rw [← hmn]; push_cast; omega, by rw [← hez]; have := HQ.out.1; push_cast; omega, by rw [← hez]; have := HQ.out.2; push_cast; omega, ?_, HB19.out, ?_, hb9, ?_⟩, ?_⟩
        · rw [← hez, ← hmn]; exact HT9.out
        · rw [← hez]
          exact HN9.out.weak (fun k (h : w5.heap.size ≤ k) => by have h3 : w2.heap.size ≤ w5.heap.size := HSZ5.out; omega)
        · have h1 := HSZ7.out
          have h2 := HB8.out.size
          have h3 := HB9.out.size
          omega
        · show acts.length - ((k : Int) + 1).toNat < acts.length - (k : Int).toNat
          omega
    · obtain rfl : k = acts.length := by omega
      clear htot hb1 hnum hbw
      go_wp2_with (first
        | (go_at_call 36; refine (sum_nil _).mono ?_; rintro e w2 ⟨rfl, rfl⟩)
        | (go_at_call 37; refine (count_nil _).mono ?_; rintro e w2 ⟨rfl, rfl⟩)
        | (go_at_call 26; refine (awake_true _).mono ?_; rintro e w3 ⟨rfl, hb3⟩))
      go_ret
      exact ⟨rfl, HBW.out.trans (hb3.mono HBW.out.size)⟩
end Go.Proofs.Ytdoidpiomonagaa
