/- The document's numbers: told, Sum. -/
import Derived.Test.YtdoidpiomonagaaBigF
namespace Go.Proofs.Ytdoidpiomonagaa
open Go.RowKit Go.Afx

set_option maxRecDepth 100000 in
theorem told_any (w : World) (va : Value) (z : Int) (ha : IsNum w (fun _ => True) va z) (hla : (ld z.natAbs).length ≤ 10000) :
    Calls Try.prog 27 #[va, .int .i64 (shortN z), .int .i64 (shortE z)] w fun e w' => e = .returned (.bool true) ∧ Below w.heap.size w w' := by
  have HS : Hid (∀ w', Below w.heap.size w w' → Calls Try.prog 53 #[va] w' fun e w2 => e = .returned (.tuple #[.int .i64 (shortN z), .bool (decide (fits z))]) ∧ Below w'.heap.size w' w2) :=
    fun w' h => small_num w' va z (ha.below h) hla
  have hb : Below w.heap.size w (w.alloc (.cells #[] 3)) := (Below.refl _ _).alloc (Nat.le_refl _) _
  obtain ⟨sa, x, pa, ca, rfl, hsa, hz1, hx, hc1, hc2⟩ := ha.open'
  clear hb
  by_cases hf : fits z
  · have e1 : shortE z = 0 := by unfold shortE; rw [if_pos hf]
    have e2 : decide (fits z) = true := decide_eq_true hf
    rw [e1]
    rw [e2] at HS
    clear e1 e2 hf ha hsa hz1 hx
    generalize shortN z = n at *
    generalize (ld x).length = la at *
    have hbx : Below w.heap.size w (w.alloc (.cells #[.bool sa, .slice pa la ca] 48)) := (Below.refl _ _).alloc (Nat.le_refl _) _
    have HSX := Lib.hid (HS.out _ hbx)
    have HBX := Lib.hid hbx
    clear hbx
    go_enter Try.func27, Try.ntmps27
    go_wp2_with (go_at_call 53; refine HSX.out.mono ?_; rintro e w2 ⟨rfl, hb2⟩)
    go_ret
    exact ⟨rfl, HBX.out.trans (hb2.mono HBX.out.size)⟩
  · have e1 : shortE z = 2 := by unfold shortE; rw [if_neg hf]
    have e2 : decide (fits z) = false := decide_eq_false hf
    rw [e1]
    rw [e2] at HS
    clear e1 e2 hf ha hsa hz1 hx
    generalize shortN z = n at *
    generalize (ld x).length = la at *
    have hbx : Below w.heap.size w (w.alloc (.cells #[.bool sa, .slice pa la ca] 48)) := (Below.refl _ _).alloc (Nat.le_refl _) _
    have HSX := Lib.hid (HS.out _ hbx)
    have HBX := Lib.hid hbx
    clear hbx
    go_enter Try.func27, Try.ntmps27
    go_wp2_with (go_at_call 53; refine HSX.out.mono ?_; rintro e w2 ⟨rfl, hb2⟩)
    go_ret
    exact ⟨rfl, HBX.out.trans (hb2.mono HBX.out.size)⟩
/-- The sum, signed. -/
def msum (minus : Bool) (l : List Int) : Int := if minus then -l.sum else l.sum
theorem msum_next (minus : Bool) (l : List Int) (k : Nat) (h : k < l.length) : msum minus (l.take (k + 1)) = msum minus (l.take k) + (if minus then -l[k] else l[k]) := by
  unfold msum
  rw [sum_next l k h]
  cases minus <;> simp <;> omega
theorem msum_small (minus : Bool) (l : List Int) (hf : ∀ x ∈ l, fits x) (hl : l.length ≤ 1000) : (ld (msum minus l).natAbs).length ≤ 30 := by
  apply ld_len_le
  have h := sum_range l hf
  unfold msum
  have e : (10 : Nat) ^ 30 = 1000000000000000000000000000000 := by decide
  rw [e]
  split <;> omega
theorem fits_small {x : Int} (h : fits x) : (ld x.natAbs).length ≤ 30 := by
  have := ld_len_le x.natAbs 20 (by unfold fits at h; omega)
  omega
theorem IsNum.only {w w' : World} {S B : Nat → Prop} {v : Value} {z : Int} (h : IsNum w B v z) (ho : Only S w w') (hd : ∀ k, B k → ¬ S k) : IsNum w' B v z := by
  obtain ⟨dv, h1, h2⟩ := h
  exact ⟨dv, h1, h2.only ho hd⟩
/-- A new block beside: the number does not lie in it. -/
theorem IsNum.alloc' {w : World} {B B' : Nat → Prop} {v : Value} {z : Int} (h : IsNum w B v z) (o : Obj) (hB : ∀ k, B k → B' k) : IsNum (w.alloc o) (fun k => B' k ∧ k ≠ w.heap.size) v z := by
  obtain ⟨dv, h1, h2⟩ := h
  exact ⟨dv, h1, h2.mono (by simp) (fun k _ hk => heap_alloc_old w o hk) (fun k h3 h4 => ⟨hB k h3, by omega⟩)⟩
/-- A cell pair that holds a number. -/
theorem IsNum.parts {w : World} {B : Nat → Prop} {v : Value} {z : Int} (h : IsNum w B v z) : ∃ s p n c, v = .agg #[.bool s, .slice p n c] := by
  obtain ⟨s, x, p, c, rfl, _⟩ := h.open'
  exact ⟨s, p, _, c, rfl⟩

set_option maxRecDepth 100000 in
set_option maxHeartbeats 2000000 in
theorem sum_num (w : World) (v : Value) (l : List Int) (minus : Bool) (hl : Sl w (fun _ => True) 1 v l.length (ints l)) (hfit : ∀ x ∈ l, fits x) (hll : l.length ≤ 1000) :
    Calls Try.prog 35 #[v, .bool minus] w fun e w' => ∃ v', e = .returned v' ∧ IsNum w' (fun k => w.heap.size + 2 ≤ k) v' (msum minus l) ∧ Below w.heap.size w w' := by
  obtain ⟨p, cap, rfl, hc1, hc2⟩ := hl.form
  have HL := Lib.hid hl
  have HF := Lib.hid hfit
  have HMS : Hid (∀ k, (ld (msum minus (l.take k)).natAbs).length ≤ 30) := fun k => msum_small minus _ (fun x hx => hfit x (List.mem_of_mem_take hx)) (by rw [List.length_take]; omega)
  have HNX := Lib.hid (msum_next minus l)
  clear hl hfit
  obtain ⟨b0, b1, hb4, hs4⟩ := boxes2 w [.bool false, .slice none 0 0] [.bool false, .slice none 0 0] 48
  go_enter Try.func35, Try.ntmps35
  go_wp2
  generalize ((w.alloc (.cells #[.bool false, .slice none 0 0] 48)).alloc (.cells #[.bool false, .slice none 0 0] 48)) = w1 at *
  have B0 := Lib.hid b0
  have B1 := Lib.hid b1
  have HB4 := Lib.hid hb4
  have HS4 := Lib.hid hs4
  clear b0 b1 hb4 hs4
  go_loopw [6] (fun i wr => ∃ (k : Nat) (sg : Bool) (q : Option Addr) (n c : Nat), i = .int .i64 k ∧ k ≤ l.length ∧ Blk wr (w.heap.size + 1) 48 [.bool sg, .slice q n c] ∧ IsNum wr (fun k => w.heap.size + 2 ≤ k) (.agg #[.bool sg, .slice q n c]) (msum minus (l.take k)) ∧ Blk wr w.heap.size 48 [.bool false, .slice none 0 0] ∧ Below w.heap.size w wr ∧ w.heap.size + 2 ≤ wr.heap.size) (fun i _ => l.length - (intOf i).toNat)
  case atStart =>
    refine ⟨0, false, none, 0, 0, rfl, Nat.zero_le _, B1.out, ⟨.slice none 0 0, ?_, ?_⟩, B0.out, HB4.out, by rw [HS4.out]; exact Nat.le_refl _⟩
    · have : decide (msum minus (l.take 0) < 0) = false := by unfold msum; cases minus <;> rfl
      rw [this]
    · have : (msum minus (l.take 0)).natAbs = 0 := by unfold msum; cases minus <;> rfl
      rw [this, ld_zero]
      exact (Own.nil w1 3 1).sl (by simp [Value.ownBlock])
  case round =>
    obtain ⟨k, sg, q, n, c, rfl, hk, hb1, hnum, hb0, hbw, hsz⟩ := hrel
    have HB1 := Lib.hid hb1
    have HB0 := Lib.hid hb0
    have HNUM := Lib.hid hnum
    have HBW := Lib.hid hbw
    have HSZ := Lib.hid hsz
    by_cases hka : k < l.length
    · obtain ⟨g, off, cap', hv, _, _, hgb, hglt, hc⟩ := HL.out.place (by omega)
      cases hv
      have hc0 : w.cell? ⟨g, off + k, none⟩ = some (.int .i64 l[k]) := by rw [hc k (by simpa [ints] using hka)]; simp [ints, hka]
      have hck : wr.cell? ⟨g, off + k, none⟩ = some (.int .i64 l[k]) := (hbw.cell hglt).trans hc0
      have HX := Lib.hid (HNX.out k hka)
      have hfx := HF.out l[k] (List.getElem_mem hka)
      clear hc hc0 hb1 hb0 hnum hbw
      generalize l[k] = x at *
      have HOF := Lib.hid (fun w => of_num w x hfx)
      have hsm := fits_small hfx
      have HSM := Lib.hid hsm
      clear hfx hsm
      cases minus
      · go_wp2_with fail
        refine (HOF.out _).mono ?_
        rintro e w2 ⟨v2, rfl, hn2, hb2⟩
        obtain ⟨s2, p2, n2, c2, rfl⟩ := hn2.parts
        have HN2 : Hid (IsNum (w2.alloc (.cells #[.bool s2, .slice p2 n2 c2] 48)) (fun k => w.heap.size + 2 ≤ k ∧ k ≠ w2.heap.size) (.agg #[.bool s2, .slice p2 n2 c2]) x) := IsNum.alloc' hn2 _ (fun k (h1 : wr.heap.size < k) => by omega)
        have HB21 : Hid (Blk (w2.alloc (.cells #[.bool s2, .slice p2 n2 c2] 48)) (w.heap.size + 1) 48 [.bool sg, .slice q n c]) := (HB1.out.below hb2).alloc _
        have HB20 : Hid (Blk (w2.alloc (.cells #[.bool s2, .slice p2 n2 c2] 48)) w.heap.size 48 [.bool false, .slice none 0 0]) := (HB0.out.below hb2).alloc _
        have HB22 : Hid (Blk (w2.alloc (.cells #[.bool s2, .slice p2 n2 c2] 48)) w2.heap.size 48 [.bool s2, .slice p2 n2 c2]) := Blk.new w2 _ _
        have HNS : Hid (IsNum (w2.alloc (.cells #[.bool s2, .slice p2 n2 c2] 48)) (fun k => w.heap.size + 2 ≤ k ∧ k ≠ w2.heap.size) (.agg #[.bool sg, .slice q n c]) (msum false (l.take k))) := IsNum.alloc' (HNUM.out.below hb2) _ (fun k h1 => h1)
        have HBB : Hid (Below w.heap.size w (w2.alloc (.cells #[.bool s2, .slice p2 n2 c2] 48))) := by
          have h1 := HBW.out.trans (hb2.mono HBW.out.size)
          exact h1.alloc h1.size _
        have hsz2 : w.heap.size + 2 ≤ w2.heap.size := Nat.le_trans hsz hb2.size
        have HSZ3 : Hid ((w2.alloc (.cells #[.bool s2, .slice p2 n2 c2] 48)).heap.size = w2.heap.size + 1) := by show _ = _; simp
        clear hn2 hb2
        generalize hw3 : (w2.alloc (.cells #[.bool s2, .slice p2 n2 c2] 48)) = w3 at *
        have t10 : w3.cell? ⟨w.heap.size + 1, 0, none⟩ = some (.bool sg) := HB21.out.cell 0
        have t11 : w3.cell? ⟨w.heap.size + 1, 1, none⟩ = some (.slice q n c) := HB21.out.cell 1
        have t20 : w3.cell? ⟨w2.heap.size, 0, none⟩ = some (.bool s2) := HB22.out.cell 0
        have t21 : w3.cell? ⟨w2.heap.size, 1, none⟩ = some (.slice p2 n2 c2) := HB22.out.cell 1
        have HSXX : Hid (w2.heap.size < w3.heap.size) := by have := HSZ3.out; show _ < _; omega
        go_wp2_with (first | rw [hw3])
        refine (plus_num w3 _ _ _ _ (HNS.out.weak fun _ _ => trivial) (HN2.out.weak fun _ _ => trivial) (by have := HMS.out k; omega) (by have := HSM.out; first | omega | (rw [Int.natAbs_neg]; omega))).mono ?_
        rintro e w6 ⟨v6, rfl, hn6, hb6⟩
        obtain ⟨s6, p6, n6, c6, rfl⟩ := hn6.parts
        have HB61 := Lib.hid (HB21.out.below hb6)
        have HB60 := Lib.hid (HB20.out.below hb6)
        have u10 : w6.cell? ⟨w.heap.size + 1, 0, none⟩ = some (.bool sg) := HB61.out.cell 0
        have u11 : w6.cell? ⟨w.heap.size + 1, 1, none⟩ = some (.slice q n c) := HB61.out.cell 1
        have uf : ∀ i, w6.frozen? ⟨w.heap.size + 1, i, none⟩ = false := HB61.out.frozen
        have HN6 := Lib.hid hn6
        have HB6 := Lib.hid hb6
        clear hn6 hb6
        go_wp2
        have ho7 : Only (fun k => k = w.heap.size + 1) w6 ((w6.setCell ⟨w.heap.size + 1, 0, none⟩ (.bool s6)).setCell ⟨w.heap.size + 1, 1, none⟩ (.slice p6 n6 c6)) := ((Only.refl (fun k => k = w.heap.size + 1) w6).setCell (p := ⟨w.heap.size + 1, 0, none⟩) (fun _ => rfl) _).setCell (p := ⟨w.heap.size + 1, 1, none⟩) (fun _ => rfl) _
        have h6 := HBB.out.trans (HB6.out.mono HBB.out.size)
        refine ⟨⟨k + 1, s6, p6, n6, c6, by congr 1, by omega, (HB61.out.set 0 _).set 1 _, ?_, HB60.out.only ho7 (by omega), (h6.setCell (by show w.heap.size ≤ w.heap.size + 1; omega) _).setCell (by show w.heap.size ≤ w.heap.size + 1; omega) _, ?_⟩, ?_⟩
        · rw [HX.out]
          exact IsNum.weak (IsNum.only HN6.out ho7 (fun k (h1 : w3.heap.size ≤ k) h2 => by have := HSXX.out; omega)) (fun k (h1 : w3.heap.size ≤ k) => by have := HSXX.out; omega)
        · have h1 := HB6.out.size
          have h2 := HSXX.out
          have h3 := ho7.size
          omega
        · show l.length - ((k : Int) + 1).toNat < l.length - (k : Int).toNat
          omega
      · go_wp2_with fail
        refine (HOF.out _).mono ?_
        rintro e w2 ⟨v2, rfl, hn2, hb2⟩
        obtain ⟨s2, p2, n2, c2, rfl⟩ := hn2.parts
        have HN2 : Hid (IsNum (w2.alloc (.cells #[.bool s2, .slice p2 n2 c2] 48)) (fun k => w.heap.size + 2 ≤ k ∧ k ≠ w2.heap.size) (.agg #[.bool s2, .slice p2 n2 c2]) x) := IsNum.alloc' hn2 _ (fun k (h1 : wr.heap.size < k) => by omega)
        have HB21 : Hid (Blk (w2.alloc (.cells #[.bool s2, .slice p2 n2 c2] 48)) (w.heap.size + 1) 48 [.bool sg, .slice q n c]) := (HB1.out.below hb2).alloc _
        have HB20 : Hid (Blk (w2.alloc (.cells #[.bool s2, .slice p2 n2 c2] 48)) w.heap.size 48 [.bool false, .slice none 0 0]) := (HB0.out.below hb2).alloc _
        have HB22 : Hid (Blk (w2.alloc (.cells #[.bool s2, .slice p2 n2 c2] 48)) w2.heap.size 48 [.bool s2, .slice p2 n2 c2]) := Blk.new w2 _ _
        have HNS : Hid (IsNum (w2.alloc (.cells #[.bool s2, .slice p2 n2 c2] 48)) (fun k => w.heap.size + 2 ≤ k ∧ k ≠ w2.heap.size) (.agg #[.bool sg, .slice q n c]) (msum true (l.take k))) := IsNum.alloc' (HNUM.out.below hb2) _ (fun k h1 => h1)
        have HBB : Hid (Below w.heap.size w (w2.alloc (.cells #[.bool s2, .slice p2 n2 c2] 48))) := by
          have h1 := HBW.out.trans (hb2.mono HBW.out.size)
          exact h1.alloc h1.size _
        have hsz2 : w.heap.size + 2 ≤ w2.heap.size := Nat.le_trans hsz hb2.size
        have HSZ3 : Hid ((w2.alloc (.cells #[.bool s2, .slice p2 n2 c2] 48)).heap.size = w2.heap.size + 1) := by show _ = _; simp
        clear hn2 hb2
        generalize hw3 : (w2.alloc (.cells #[.bool s2, .slice p2 n2 c2] 48)) = w3 at *
        have t10 : w3.cell? ⟨w.heap.size + 1, 0, none⟩ = some (.bool sg) := HB21.out.cell 0
        have t11 : w3.cell? ⟨w.heap.size + 1, 1, none⟩ = some (.slice q n c) := HB21.out.cell 1
        have t20 : w3.cell? ⟨w2.heap.size, 0, none⟩ = some (.bool s2) := HB22.out.cell 0
        have t21 : w3.cell? ⟨w2.heap.size, 1, none⟩ = some (.slice p2 n2 c2) := HB22.out.cell 1
        go_wp2_with (first | rw [hw3])
        refine (minus_num w3 _ _ _ HN2.out (by have := HSM.out; omega)).mono ?_
        rintro e w4 ⟨v4, rfl, hn4, hb4⟩
        obtain ⟨s4, p4, n4, c4, rfl⟩ := hn4.parts
        have HB42 := Lib.hid (HB22.out.below hb4)
        have y20 : w4.cell? ⟨w2.heap.size, 0, none⟩ = some (.bool s2) := HB42.out.cell 0
        have y21 : w4.cell? ⟨w2.heap.size, 1, none⟩ = some (.slice p2 n2 c2) := HB42.out.cell 1
        have yf : ∀ i, w4.frozen? ⟨w2.heap.size, i, none⟩ = false := HB42.out.frozen
        have ho5 : Only (fun k => k = w2.heap.size) w4 ((w4.setCell ⟨w2.heap.size, 0, none⟩ (.bool s4)).setCell ⟨w2.heap.size, 1, none⟩ (.slice p4 n4 c4)) := ((Only.refl (fun k => k = w2.heap.size) w4).setCell (p := ⟨w2.heap.size, 0, none⟩) (fun _ => rfl) _).setCell (p := ⟨w2.heap.size, 1, none⟩) (fun _ => rfl) _
        have HN5 := Lib.hid (IsNum.only hn4 ho5 (fun k h1 h2 => h1.2 h2))
        have HB52 := Lib.hid ((HB42.out.set 0 (.bool s4)).set 1 (.slice p4 n4 c4))
        have HB51 := Lib.hid ((HB21.out.below hb4).only ho5 (by omega))
        have HB50 := Lib.hid ((HB20.out.below hb4).only ho5 (by omega))
        have HNS5 := Lib.hid (IsNum.only (HNS.out.below hb4) ho5 (fun k h1 h2 => h1.2 h2))
        have HB5 : Hid (Below w.heap.size w ((w4.setCell ⟨w2.heap.size, 0, none⟩ (.bool s4)).setCell ⟨w2.heap.size, 1, none⟩ (.slice p4 n4 c4))) := by
          have h1 := HBB.out.trans (hb4.mono HBB.out.size)
          have h2 : w.heap.size ≤ w2.heap.size := by omega
          exact (h1.setCell h2 _).setCell h2 _
        have HSZ5 : Hid (w2.heap.size < ((w4.setCell ⟨w2.heap.size, 0, none⟩ (.bool s4)).setCell ⟨w2.heap.size, 1, none⟩ (.slice p4 n4 c4)).heap.size) := by
          have := hb4.size
          have h3 := HSZ3.out
          have h4 := ho5.size
          show _ < _
          omega
        clear hn4 hb4 ho5
        generalize hw5 : (w4.setCell ⟨w2.heap.size, 0, none⟩ (.bool s4)).setCell ⟨w2.heap.size, 1, none⟩ (.slice p4 n4 c4) = w5 at *
        have z10 : w5.cell? ⟨w.heap.size + 1, 0, none⟩ = some (.bool sg) := HB51.out.cell 0
        have z11 : w5.cell? ⟨w.heap.size + 1, 1, none⟩ = some (.slice q n c) := HB51.out.cell 1
        have z20 : w5.cell? ⟨w2.heap.size, 0, none⟩ = some (.bool s4) := HB52.out.cell 0
        have z21 : w5.cell? ⟨w2.heap.size, 1, none⟩ = some (.slice p4 n4 c4) := HB52.out.cell 1
        go_wp2_with (first | rw [hw5])
        refine (plus_num w5 _ _ _ _ (HNS5.out.weak fun _ _ => trivial) (HN5.out.weak fun _ _ => trivial) (by have := HMS.out k; omega) (by have := HSM.out; first | omega | (rw [Int.natAbs_neg]; omega))).mono ?_
        rintro e w6 ⟨v6, rfl, hn6, hb6⟩
        obtain ⟨s6, p6, n6, c6, rfl⟩ := hn6.parts
        have HB61 := Lib.hid (HB51.out.below hb6)
        have HB60 := Lib.hid (HB50.out.below hb6)
        have u10 : w6.cell? ⟨w.heap.size + 1, 0, none⟩ = some (.bool sg) := HB61.out.cell 0
        have u11 : w6.cell? ⟨w.heap.size + 1, 1, none⟩ = some (.slice q n c) := HB61.out.cell 1
        have uf : ∀ i, w6.frozen? ⟨w.heap.size + 1, i, none⟩ = false := HB61.out.frozen
        have HN6 := Lib.hid hn6
        have HB6 := Lib.hid hb6
        clear hn6 hb6
        go_wp2
        have ho7 : Only (fun k => k = w.heap.size + 1) w6 ((w6.setCell ⟨w.heap.size + 1, 0, none⟩ (.bool s6)).setCell ⟨w.heap.size + 1, 1, none⟩ (.slice p6 n6 c6)) := ((Only.refl (fun k => k = w.heap.size + 1) w6).setCell (p := ⟨w.heap.size + 1, 0, none⟩) (fun _ => rfl) _).setCell (p := ⟨w.heap.size + 1, 1, none⟩) (fun _ => rfl) _
        have h6 := HB5.out.trans (HB6.out.mono HB5.out.size)
        refine ⟨⟨k + 1, s6, p6, n6, c6, by congr 1, by omega, (HB61.out.set 0 _).set 1 _, ?_, HB60.out.only ho7 (by omega), (h6.setCell (by show w.heap.size ≤ w.heap.size + 1; omega) _).setCell (by show w.heap.size ≤ w.heap.size + 1; omega) _, ?_⟩, ?_⟩
        · rw [HX.out]
          exact IsNum.weak (IsNum.only HN6.out ho7 (fun k (h1 : w5.heap.size ≤ k) h2 => by have := HSZ5.out; omega)) (fun k (h1 : w5.heap.size ≤ k) => by have := HSZ5.out; omega)
        · have h1 := HB6.out.size
          have h2 := HSZ5.out
          have h3 := ho7.size
          omega
        · show l.length - ((k : Int) + 1).toNat < l.length - (k : Int).toNat
          omega
    · obtain rfl : k = l.length := by omega
      have hend : IsNum wr (fun k => w.heap.size + 2 ≤ k) (.agg #[.bool sg, .slice q n c]) (msum minus l) := by have := HNUM.out; rwa [List.take_length] at this
      have HEND := Lib.hid hend
      have d0 : wr.cell? ⟨w.heap.size + 1, 0, none⟩ = some (.bool sg) := hb1.cell 0
      have d1 : wr.cell? ⟨w.heap.size + 1, 1, none⟩ = some (.slice q n c) := hb1.cell 1
      have c0 : wr.cell? ⟨w.heap.size, 0, none⟩ = some (.bool false) := hb0.cell 0
      have c1 : wr.cell? ⟨w.heap.size, 1, none⟩ = some (.slice none 0 0) := hb0.cell 1
      have hf : ∀ i, wr.frozen? ⟨w.heap.size, i, none⟩ = false := hb0.frozen
      clear hb1 hb0 hnum hbw hend hka
      go_wp2
      have HR := (HB0.out.set 0 (.bool sg)).set 1 (.slice q n c)
      have k0 := HR.cell 0
      have k1 := HR.cell 1
      refine bodyPost_ret (v := .agg #[.bool sg, .slice q n c]) (by simp [results, Try.results35, go_sem, k0, k1]) rfl ⟨_, rfl, ?_, (HBW.out.setCell (Nat.le_refl _) _).setCell (Nat.le_refl _) _⟩
      exact IsNum.only HEND.out (((Only.refl (fun k => k = w.heap.size) wr).setCell (p := ⟨w.heap.size, 0, none⟩) (fun _ => rfl) _).setCell (p := ⟨w.heap.size, 1, none⟩) (fun _ => rfl) _) (fun k h1 h2 => by omega)
end Go.Proofs.Ytdoidpiomonagaa
