/- The law QueueKeeps, walked. -/
import Derived.Test.YtdoidpiomonagaaQueueActs
namespace Go.Proofs.Ytdoidpiomonagaa
open Go.RowKit Go.Afx

def QSt.atV (s : QSt) (i : Int) : Int := if 0 ≤ i ∧ i < s.l.length then s.l.getD i.toNat 0 else 0
def QSt.atB (s : QSt) (i : Int) : Bool := decide (0 ≤ i ∧ i < s.l.length)

theorem at_any (w : World) (F : Nat → Prop) (b : Nat) (s : QSt) (i : Int) (h : IsQ w F b s) (hs : QOk s) :
    Calls Try.prog 21 #[.pointer (some ⟨b, 0, none⟩), .int .i64 i] w fun e w' => e = .returned (.tuple #[.int .i64 (s.atV i), .bool (s.atB i)]) ∧ w = w' := by
  by_cases hi : 0 ≤ i ∧ i < s.l.length
  · have e1 : s.atV i = s.l.getD i.toNat 0 := if_pos hi
    have e2 : s.atB i = true := by simp [QSt.atB, hi]
    rw [e1, e2]
    have e3 : i = (i.toNat : Int) := by omega
    have := at_yes w F b s i.toNat h hs (by omega)
    rw [← e3] at this
    exact this
  · have e1 : s.atV i = 0 := if_neg hi
    have e2 : s.atB i = false := by simp [QSt.atB]; omega
    rw [e1, e2]
    exact at_no w F b s i h (by omega)

/-- What is kept, round by round. -/
structure KInv (N k : Nat) (s : QSt) : Prop where
  room : s.room = N
  n1 : 1 ≤ N
  n2 : N ≤ 40
  sum : s.came = s.went + s.l.length
  len : s.l.length ≤ N
  m0 : 0 ≤ s.most
  m1 : s.most ≤ N
  w0 : 0 ≤ s.went
  c1 : s.came ≤ 100 * k
  r0 : 0 ≤ s.refused
  r1 : s.refused ≤ 100 * k
  k1 : k ≤ 60

theorem KInv.ok {N k : Nat} {s : QSt} (h : KInv N k s) : QOk s := by
  obtain ⟨h1, h2, h3, h4, h5, h6, h7, h8, h9, h10, h11, h12⟩ := h
  exact ⟨by omega, by omega, by omega, by omega, by omega, by omega, by omega, by omega, by omega, by omega⟩
theorem KInv.put {N k : Nat} {s : QSt} (h : KInv N k s) (x : List Int) (hx : x.length ≤ 100) (hk : k < 60) : KInv N (k + 1) (s.put x) := by
  obtain ⟨h1, h2, h3, h4, h5, h6, h7, h8, h9, h10, h11, h12⟩ := h
  have hl : (s.l ++ x.take (s.room - s.l.length)).length = s.l.length + min (s.room - s.l.length) x.length := by simp
  refine ⟨h1, h2, h3, ?_, ?_, ?_, ?_, h8, ?_, ?_, ?_, by omega⟩ <;> simp only [QSt.put, hl] <;> omega
theorem KInv.took {N k j : Nat} {s : QSt} (h : KInv N k s) (hj : j ≤ s.l.length) (hk : k < 60) : KInv N (k + 1) (s.took j) := by
  obtain ⟨h1, h2, h3, h4, h5, h6, h7, h8, h9, h10, h11, h12⟩ := h
  have hl : (s.l.drop j).length = s.l.length - j := by simp
  refine ⟨h1, h2, h3, ?_, ?_, h6, h7, ?_, ?_, h10, ?_, by omega⟩ <;> simp only [QSt.took, hl] <;> omega
theorem KInv.removed {N k j : Nat} {s : QSt} (h : KInv N k s) (hj : j < s.l.length) (hk : k < 60) : KInv N (k + 1) (s.removed j) := by
  obtain ⟨h1, h2, h3, h4, h5, h6, h7, h8, h9, h10, h11, h12⟩ := h
  have hl : (s.l.take j ++ s.l.drop (j + 1)).length = s.l.length - 1 := by simp; omega
  refine ⟨h1, h2, h3, ?_, ?_, h6, h7, ?_, ?_, h10, ?_, by omega⟩ <;> simp only [QSt.removed, hl] <;> omega
theorem KInv.next {N k : Nat} {s : QSt} (h : KInv N k s) (hk : k < 60) : KInv N (k + 1) s := by
  obtain ⟨h1, h2, h3, h4, h5, h6, h7, h8, h9, h10, h11, h12⟩ := h
  exact ⟨h1, h2, h3, h4, h5, h6, h7, h8, by omega, h10, by omega, by omega⟩

/-- An act's cells. -/
theorem IsActs.at {w : World} {v : Value} {acts : List ActV} (h : IsActs w v acts) {k : Nat} (hk : k < acts.length) :
    ∃ g off cap, v = .slice (some ⟨g, off, none⟩) acts.length cap ∧ g < w.heap.size ∧ w.cell? ⟨g, off + k * 3, none⟩ = some (.int .i64 acts[k].kind) ∧ w.cell? ⟨g, off + k * 3 + 1, none⟩ = some (.int .i64 acts[k].n) ∧
      w.cell? ⟨g, off + k * 3 + 2, none⟩ = some acts[k].lv ∧ Sl w (fun _ => True) 1 acts[k].lv acts[k].l.length (ints acts[k].l) := by
  obtain ⟨g, off, cap, rfl, _, _, _, hlt, hc⟩ := h.1.place (by omega)
  have hlen : ∀ c ∈ acts.map ActV.cells, c.length = 3 := by
    intro c hcm
    obtain ⟨a, _, rfl⟩ := List.mem_map.1 hcm
    rfl
  have hfl := flatten_length _ hlen
  rw [List.length_map] at hfl
  have get : ∀ r, r < 3 → w.cell? ⟨g, off + (k * 3 + r), none⟩ = acts[k].cells[r]? := fun r hr => by
    rw [hc _ (by omega), flatten_get _ hlen k r hr, List.getElem?_map, List.getElem?_eq_getElem hk]
    rfl
  exact ⟨g, off, cap, rfl, hlt, get 0 (by omega), get 1 (by omega), get 2 (by omega), h.2 _ (List.getElem_mem hk)⟩

set_option maxRecDepth 100000 in
set_option maxHeartbeats 4000000 in
theorem keeps_walk (r : Int) (hr : (Lit.int .u8 r).wf = true) (v : Value) (acts : List ActV) (w : World) (ha : IsActs w v acts) :
    Calls Try.prog 4 #[.int .u8 r, v] w fun e w' => e = .returned (.bool true) ∧ Below w.heap.size w w' := by
  obtain ⟨p, cap, rfl, _, _⟩ := ha.1.form
  have HA := Lib.hid ha
  by_cases hlen : 60 < acts.length
  · clear ha
    have d1 : (60 : Int) < acts.length := by omega
    go_enter Try.func4, Try.ntmps4
    go_wp2_with (go_at_call 13; refine (qawake _).mono ?_; rintro e w1 ⟨rfl, hb1⟩)
    go_ret
    exact ⟨rfl, hb1⟩
  · clear ha
    have hr2 : 0 ≤ r ∧ r ≤ 255 := by simpa [Lit.wf, IntKind.min, IntKind.max, IntKind.bits, IntKind.signed] using hr
    have hr0 := hr2.1
    have hr1 := hr2.2
    clear hr2 hr
    have d1 : ¬ (60 : Int) < acts.length := by omega
    obtain ⟨N, hN⟩ : ∃ N : Nat, 1 + r % 40 = N := ⟨(1 + r % 40).toNat, by omega⟩
    have hN1 : 1 ≤ N := by omega
    have hN2 : N ≤ 40 := by omega
    have HN := Lib.hid hN
    clear hN
    go_enter Try.func4, Try.ntmps4
    go_wp2_with (go_at_call 13; refine (qawake _).mono ?_; rintro e w1 ⟨rfl, hb1⟩)
    rw [HN.out]
    refine (new_q N w1 hN1 (by omega)).mono ?_
    rintro e w2 ⟨rfl, hq2, hb2, hz2⟩
    have hb12 : Below w.heap.size w w2 := hb1.trans (hb2.mono hb1.size)
    have hz1 := hb1.size
    have HQ2 := Lib.hid hq2
    have HB12 := Lib.hid hb12
    clear hq2 hb12 hb1 hb2 hr0 hr1
    generalize w1.heap.size = b at *
    go_wp2
    go_loopw [7] (fun i wr => ∃ (k : Nat) (s : QSt) (F : Nat → Prop), i = .int .i64 k ∧ k ≤ acts.length ∧ Below w.heap.size w wr ∧ IsQ wr F b s ∧ KInv N k s ∧ ∀ g, F g → w.heap.size ≤ g ∧ g < wr.heap.size) (fun i _ => acts.length - (intOf i).toNat)
    case atStart =>
      exact ⟨0, _, _, rfl, Nat.zero_le _, HB12.out, HQ2.out, ⟨rfl, hN1, hN2, by simp, by simp, by simp, by simp, by simp, by simp, by simp, by simp, by omega⟩, fun g hg => by subst hg; exact ⟨hz1, hz2⟩⟩
    case round =>
      obtain ⟨k, s, F, rfl, hk, hbr, hq, hki, hF⟩ := hrel
      clear HB12 HQ2 hz2
      have HBR := Lib.hid hbr
      have HQ := Lib.hid hq
      have HK := Lib.hid hki
      have HF := Lib.hid hF
      have hzr := hbr.size
      clear hbr hq hki hF
      by_cases hka : k < acts.length
      · obtain ⟨g, off, cap', hv, hg, e0, e1, e2, hl⟩ := (HA.out.below (HBR.out.mono (Nat.le_refl _))).at hka
        cases hv
        generalize acts[k] = ac at *
        obtain ⟨lp, lcap, hlv, hlc, _⟩ := hl.form
        rw [hlv] at e2 hl
        have HL := Lib.hid hl
        clear hl hlv
        by_cases hlong : 100 < ac.l.length
        · go_wp2
          go_ret
          exact ⟨rfl, HBR.out⟩
        · by_cases hk0 : ac.kind = 0
          · rw [hk0] at e0
            clear hk0 e1
            have hs1 := HL.out.alloc (.cells #[] 3)
            have ho1 : Own (wr.alloc (.cells #[] 3)) 3 1 (.slice (some ⟨wr.heap.size, 0, none⟩) 0 0) 0 [] := Own.made wr 3 1 [] [] 0 0 rfl Ones.nil (Nat.le_refl _) (by simp [maxLen]) (by simp)
            go_wp2_with (at_builtin; refine wpList_app rfl _ _ rfl elemInt (by rfl) ho1 (by rfl) hs1 (by unfold maxLen; omega) (by omega) ?_; intro v1 w2 g1 g2 g3 g4 g5; clear hs1 ho1)
            rw [Nat.zero_add, List.nil_append] at g1
            have hb2 : Below wr.heap.size wr w2 := ((Below.refl wr.heap.size wr).alloc (Nat.le_refl _) _).trans (g2.below (B := wr.heap.size) (by simp) (fun i hi => by have : wr.heap.size = i := (by simpa [Value.ownBlock] using hi); omega))
            have hv1 : ∀ q, v1.ownBlock = some q → wr.heap.size ≤ q := fun q hq => by
              rw [hq] at g3
              have h7 : q = wr.heap.size ∨ q = wr.heap.size + 1 := by simpa [Value.ownBlock] using g3
              omega
            obtain ⟨p1, cap1, rfl, _, _⟩ := own_form g1
            refine (put_any w2 F b s (HQ.out.below hb2) HK.out.ok (fun _ => True) _ ac.l (g1.sl (fun _ _ => trivial)) (by omega)).mono ?_
            rintro e w3 ⟨rfl, F3, hq3, ho3, hf3⟩
            have hk3 := HK.out.put ac.l (by omega) (by omega)
            have hdis : ∀ q, (Value.slice p1 ac.l.length cap1).ownBlock = some q → ¬ F3 q := fun q hq hF3 => by
              rcases hf3 q hF3 with h | h
              · have := (HF.out q h).2
                have := hv1 q hq
                omega
              · have := g1.lt q hq
                omega
            have g6 := g1.only ho3 (fun q hq hFq => by have := (HF.out q hFq).2; have := hv1 q hq; omega)
            have hF3 : ∀ g, F3 g → w.heap.size ≤ g ∧ g < w3.heap.size := fun g hg => by
              have h1 := ho3.size
              have h2 := hb2.size
              rcases hf3 g hg with h | h
              · have := HF.out g h
                omega
              · omega
            have hbr3 : Below w.heap.size w w3 := (HBR.out.trans (hb2.mono hzr)).trans (ho3.below (by have := hb2.size; omega) (fun i hi => (HF.out i hi).1))
            generalize s.put ac.l = s3 at *
            have t7 : s3.l.length ≤ 40 := by have := hk3.len; have := hk3.n2; omega
            have HV1 := Lib.hid (fun q hq => Nat.le_trans hzr (hv1 q hq) : ∀ q, (Value.slice p1 ac.l.length cap1).ownBlock = some q → w.heap.size ≤ q)
            have HF3 := Lib.hid hF3
            have HDIS := Lib.hid hdis
            have HQ3 := Lib.hid hq3
            have HK3 := Lib.hid hk3
            have G6 := Lib.hid g6
            have HBR3 := Lib.hid hbr3
            clear hF3 hdis hq3 hk3 g6 hbr3 HBR HQ HK HF HL g1 g2 g3 g4 g5 hb2 hv1 ho3 hf3 e2 e0
            go_wp2_with (first
              | (go_at_call 22; refine (len_any w3 F3 b s3 HQ3.out).mono ?_; rintro e w' ⟨rfl, rfl⟩)
              | (go_at_call 21; refine (at_any w3 F3 b s3 _ HQ3.out HK3.out.ok).mono ?_; rintro e w' ⟨rfl, rfl⟩))
            go_loopw [11] (fun j wr2 => ∃ (m : Nat) (ys : List Int), j = .int .i64 m ∧ m ≤ ac.l.length ∧ Own wr2 3 1 (.slice p1 ac.l.length cap1) ac.l.length (ints ys) ∧ Only (fun q => (Value.slice p1 ac.l.length cap1).ownBlock = some q) w3 wr2) (fun j _ => ac.l.length - (intOf j).toNat)
            case atStart => exact ⟨0, ac.l, rfl, Nat.zero_le _, G6.out, Only.refl _ _⟩
            case round =>
              obtain ⟨m, ys, rfl, hm, hown, honl⟩ := hrel
              by_cases hml : m < ac.l.length
              · have hyl : ys.length = ac.l.length := by have := hown.1; rw [ints_length, Nat.mul_one] at this; exact this
                obtain ⟨g7, o7, rfl⟩ : ∃ g o, p1 = some ⟨g, o, none⟩ := by
                  rcases hown.2.2 with ⟨h0, h1⟩ | ⟨g, o, _, _, hv, _⟩
                  · omega
                  · cases hv
                    exact ⟨g, o, rfl⟩
                have hc7 := hown.cellAt (j := m) (by omega)
                have e7 : wr.cell? ⟨g7, o7 + m, none⟩ = some (.int .i64 (ys[m]'(by omega))) := by rw [hc7.1]; simp [ints, hyl, hml]
                have f7 : wr.frozen? ⟨g7, o7 + m, none⟩ = false := hc7.2
                generalize ys[m]'(by omega) = yv at e7
                have HOWN := Lib.hid hown
                have HONL := Lib.hid honl
                clear hown honl hc7 hyl
                go_wp2
                go_roundw
                case rel =>
                  have h8 := HOWN.out.store (j := m) (.int .i64 (wrap64 (yv + 1))) rfl
                  have h9 : (ints ys).set m (.int .i64 (wrap64 (yv + 1))) = ints (ys.set m (wrap64 (yv + 1))) := by simp [ints, List.map_set]
                  rw [h9] at h8
                  exact ⟨m + 1, _, by go_num, by omega, h8, Only.setCell (p := ⟨g7, o7 + m, none⟩) HONL.out (fun _ => rfl) _⟩
                case measure => simp [intOf]; omega
              · have hq3 := HQ3.out.keep honl (fun q hq hv => HDIS.out q hv hq)
                have hz3 := honl.size
                have hF3 : ∀ g, F3 g → w.heap.size ≤ g ∧ g < wr.heap.size := fun g hg => by have := HF3.out g hg; omega
                have hz4 := HBR3.out.size
                have hbr3 : Below w.heap.size w wr := HBR3.out.trans (honl.below hz4 HV1.out)
                have HF4 := Lib.hid hF3
                clear hF3 honl hown HF3 HDIS G6
                go_wp2_with (first
                  | (go_at_call 22; refine (len_any wr F3 b s3 hq3).mono ?_; rintro e w' ⟨rfl, rfl⟩)
                  | (go_at_call 21; refine (at_any wr F3 b s3 _ hq3 HK3.out.ok).mono ?_; rintro e w' ⟨rfl, rfl⟩)
                  )
                have hk3 := HK3.out
                generalize wr = w3 at *
                have t1 : (s3.came != s3.went + (s3.l.length : Int)) = false := by have := hk3.sum; simp [this]
                have t2 : decide (N < s3.l.length) = false := by have := hk3.len; simp; omega
                have t3 : decide ((N : Int) < s3.most) = false := by have := hk3.m1; simp; omega
                have t4 : decide ((s3.room : Int) - s3.l.length < 0) = false := by have := hk3.len; have := hk3.room; simp; omega
                have t8 : decide (s3.room < s3.l.length) = false := by have := hk3.len; have := hk3.room; simp; omega
                have t5 : 0 ≤ s3.went := hk3.w0
                have t6 : s3.went ≤ 1000000 := hk3.ok.w1
                have t7 : s3.l.length ≤ 40 := by have := hk3.len; have := hk3.n2; omega
                have HOK3 := Lib.hid hk3.ok
                have HK3 := Lib.hid hk3
                have HCo := Lib.hid (counts_any w3 F3 _ s3 hq3)
                have HQ3 := Lib.hid hq3
                have HBR3 := Lib.hid hbr3
                clear hq3 hk3 hbr3
                go_wp2_with (go_at_call 20; refine HCo.out.mono ?_; rintro e w7 ⟨rfl, hb7⟩)
                have hz7 := hb7.size
                refine wp_region_lit_plan [] [(0, 0), (2, 0), (4, 0), (1, 2), (3, 2), (5, 3), (6, 0), (7, 0), (8, 0), (9, 0), (11, 0), (10, 4), (12, 0), (13, 0), (14, 0), (15, 0), (17, 0), (16, 1), (18, 0), (19, 0), (20, 0), (21, 0), (22, 4), (23, 0), (24, 0)] (fun _ => True) (by kernel_rfl) (by kernel_rfl) (fun c a d v w h => by cases d <;> exact h) ?_
                go_wp2_with (first
                  | (refine plan_pure (v := _) (by rfl) (by rfl) (by rfl) (by intro _; go_simp; with_reducible rfl) ?_; simp only [List.setIfInBounds_toArray, List.set_cons_zero, List.set_cons_succ]; try go_bits) | (refine plan_read (v := _) (by rfl) (by rfl) (by rfl) (by go_simp; with_reducible rfl) ?_; simp only [List.setIfInBounds_toArray, List.set_cons_zero, List.set_cons_succ]; try go_bits) | (refine plan_readB (v := _) (by rfl) (by rfl) (by rfl) (by intro _ hag; unfold Agree at hag; go_simp; with_reducible rfl) ?_; simp only [List.setIfInBounds_toArray, List.set_cons_zero, List.set_cons_succ]; try go_bits) | (refine plan_skip0 (by rfl) (by rfl) (by rfl) ?_; simp only [List.setIfInBounds_toArray, List.set_cons_zero, List.set_cons_succ]; try go_bits) | (refine plan_skip1 (by rfl) (by rfl) (by rfl) ?_; simp only [List.setIfInBounds_toArray, List.set_cons_zero, List.set_cons_succ]; try go_bits) | (refine plan_skip2 (by rfl) (by rfl) (by rfl) ?_; simp only [List.setIfInBounds_toArray, List.set_cons_zero, List.set_cons_succ]; try go_bits) | (refine plan_any (by rfl) ?_) | (refine plan_keep (by rfl) ?_) | (refine plan_nil ?_) | (with_reducible refine And.intro (by first | assumption | exact Agree.refl _ _ | exact agree_drew _ _ | exact agree_alloc _ (by intro k hk; subst hk; first | omega | (simp; omega))) ?_) | (unfold Act.put; simp only [List.setIfInBounds_toArray, List.set_cons_zero, List.set_cons_succ])
                  | (go_at_call 22; refine (len_any _ F3 b s3 (HQ3.out.below (by
                      repeat (with_reducible first | exact hb7 | (refine Below.setCell ?_ (by first | omega | (simp; omega)) _) | (refine Below.alloc ?_ (by first | omega | (simp; omega)) _) | apply Below.drew)
                      ))).mono ?_; rintro e w' ⟨rfl, rfl⟩)
                  | (go_at_call 23; refine (free_any _ F3 b s3 (HQ3.out.below (by
                      repeat (with_reducible first | exact hb7 | (refine Below.setCell ?_ (by first | omega | (simp; omega)) _) | (refine Below.alloc ?_ (by first | omega | (simp; omega)) _) | apply Below.drew)
                      )) HOK3.out).mono ?_; rintro e w' ⟨rfl, rfl⟩))
                go_roundw
                case rel =>
                  refine ⟨k + 1, s3, F3, by go_num, by omega, HBR3.out.trans (Below.mono (B := w3.heap.size) ?_ HBR3.out.size), HQ3.out.below ?_, HK3.out, fun g hg => ⟨(HF4.out g hg).1, ?_⟩⟩
                  · repeat (with_reducible first | exact hb7 | (refine Below.setCell ?_ (by first | omega | (simp; omega)) _) | (refine Below.alloc ?_ (by first | omega | (simp; omega)) _) | apply Below.drew)
                  · repeat (with_reducible first | exact hb7 | (refine Below.setCell ?_ (by first | omega | (simp; omega)) _) | (refine Below.alloc ?_ (by first | omega | (simp; omega)) _) | apply Below.drew)
                  · have := (HF4.out g hg).2
                    simp
                    omega
                case measure => simp [intOf]; omega
          · by_cases hk1 : ac.kind = 1
            · rw [hk1] at e0
              clear hk0 hk1
              obtain ⟨j, hj⟩ : ∃ j, min ac.n.toNat s.l.length = j := ⟨_, rfl⟩
              have ht := take_any wr F b s ac.n HQ.out HK.out.ok
              rw [hj] at ht
              have hjl : j ≤ s.l.length := by omega
              have HT := Lib.hid ht
              clear ht hj
              go_wp2_with (first
                | (go_at_call 21; refine (at_any wr F b s _ HQ.out HK.out.ok).mono ?_; rintro e w' ⟨rfl, rfl⟩))
              refine HT.out.mono ?_
              rintro e w3 ⟨v3, rfl, g1, hq3, ho3, _⟩
              have hk3 := HK.out.took hjl (by omega)
              have hbr3 : Below w.heap.size w w3 := HBR.out.trans (ho3.below hzr (fun i hi => (HF.out i hi).1))
              have hz3 := ho3.size
              have HF4 := Lib.hid (fun g hg => ⟨(HF.out g hg).1, Nat.lt_of_lt_of_le (HF.out g hg).2 hz3⟩ : ∀ g, F g → w.heap.size ≤ g ∧ g < w3.heap.size)
              by_cases hj0 : j = 0
              · subst hj0
                obtain ⟨p3, cap3, rfl, _, _⟩ := own_form g1
                generalize s.took 0 = s3 at *
                generalize F = F3 at *
                clear HQ HK HF HT g1 ho3 e1 e2 HL
                have t1 : (s3.came != s3.went + (s3.l.length : Int)) = false := by have := hk3.sum; simp [this]
                have t2 : decide (N < s3.l.length) = false := by have := hk3.len; simp; omega
                have t3 : decide ((N : Int) < s3.most) = false := by have := hk3.m1; simp; omega
                have t4 : decide ((s3.room : Int) - s3.l.length < 0) = false := by have := hk3.len; have := hk3.room; simp; omega
                have t8 : decide (s3.room < s3.l.length) = false := by have := hk3.len; have := hk3.room; simp; omega
                have t5 : 0 ≤ s3.went := hk3.w0
                have t6 : s3.went ≤ 1000000 := hk3.ok.w1
                have t7 : s3.l.length ≤ 40 := by have := hk3.len; have := hk3.n2; omega
                have HOK3 := Lib.hid hk3.ok
                have HK3 := Lib.hid hk3
                have HCo := Lib.hid (counts_any w3 F3 _ s3 hq3)
                have HQ3 := Lib.hid hq3
                have HBR3 := Lib.hid hbr3
                clear hq3 hk3 hbr3
                go_wp2_with (go_at_call 20; refine HCo.out.mono ?_; rintro e w7 ⟨rfl, hb7⟩)
                have hz7 := hb7.size
                refine wp_region_lit_plan [] [(0, 0), (2, 0), (4, 0), (1, 2), (3, 2), (5, 3), (6, 0), (7, 0), (8, 0), (9, 0), (11, 0), (10, 4), (12, 0), (13, 0), (14, 0), (15, 0), (17, 0), (16, 1), (18, 0), (19, 0), (20, 0), (21, 0), (22, 4), (23, 0), (24, 0)] (fun _ => True) (by kernel_rfl) (by kernel_rfl) (fun c a d v w h => by cases d <;> exact h) ?_
                go_wp2_with (first
                  | (refine plan_pure (v := _) (by rfl) (by rfl) (by rfl) (by intro _; go_simp; with_reducible rfl) ?_; simp only [List.setIfInBounds_toArray, List.set_cons_zero, List.set_cons_succ]; try go_bits) | (refine plan_read (v := _) (by rfl) (by rfl) (by rfl) (by go_simp; with_reducible rfl) ?_; simp only [List.setIfInBounds_toArray, List.set_cons_zero, List.set_cons_succ]; try go_bits) | (refine plan_readB (v := _) (by rfl) (by rfl) (by rfl) (by intro _ hag; unfold Agree at hag; go_simp; with_reducible rfl) ?_; simp only [List.setIfInBounds_toArray, List.set_cons_zero, List.set_cons_succ]; try go_bits) | (refine plan_skip0 (by rfl) (by rfl) (by rfl) ?_; simp only [List.setIfInBounds_toArray, List.set_cons_zero, List.set_cons_succ]; try go_bits) | (refine plan_skip1 (by rfl) (by rfl) (by rfl) ?_; simp only [List.setIfInBounds_toArray, List.set_cons_zero, List.set_cons_succ]; try go_bits) | (refine plan_skip2 (by rfl) (by rfl) (by rfl) ?_; simp only [List.setIfInBounds_toArray, List.set_cons_zero, List.set_cons_succ]; try go_bits) | (refine plan_any (by rfl) ?_) | (refine plan_keep (by rfl) ?_) | (refine plan_nil ?_) | (with_reducible refine And.intro (by first | assumption | exact Agree.refl _ _ | exact agree_drew _ _ | exact agree_alloc _ (by intro k hk; subst hk; first | omega | (simp; omega))) ?_) | (unfold Act.put; simp only [List.setIfInBounds_toArray, List.set_cons_zero, List.set_cons_succ])
                  | (go_at_call 22; refine (len_any _ F3 b s3 (HQ3.out.below (by
                      repeat (with_reducible first | exact hb7 | (refine Below.setCell ?_ (by first | omega | (simp; omega)) _) | (refine Below.alloc ?_ (by first | omega | (simp; omega)) _) | apply Below.drew)
                      ))).mono ?_; rintro e w' ⟨rfl, rfl⟩)
                  | (go_at_call 23; refine (free_any _ F3 b s3 (HQ3.out.below (by
                      repeat (with_reducible first | exact hb7 | (refine Below.setCell ?_ (by first | omega | (simp; omega)) _) | (refine Below.alloc ?_ (by first | omega | (simp; omega)) _) | apply Below.drew)
                      )) HOK3.out).mono ?_; rintro e w' ⟨rfl, rfl⟩))
                go_roundw
                case rel =>
                  refine ⟨k + 1, s3, F3, by go_num, by omega, HBR3.out.trans (Below.mono (B := w3.heap.size) ?_ HBR3.out.size), HQ3.out.below ?_, HK3.out, fun g hg => ⟨(HF4.out g hg).1, ?_⟩⟩
                  · repeat (with_reducible first | exact hb7 | (refine Below.setCell ?_ (by first | omega | (simp; omega)) _) | (refine Below.alloc ?_ (by first | omega | (simp; omega)) _) | apply Below.drew)
                  · repeat (with_reducible first | exact hb7 | (refine Below.setCell ?_ (by first | omega | (simp; omega)) _) | (refine Below.alloc ?_ (by first | omega | (simp; omega)) _) | apply Below.drew)
                  · have := (HF4.out g hg).2
                    simp
                    omega
                case measure => simp [intOf]; omega
              · obtain ⟨g3, o3, cap3, rfl, _, _, _, hlt3, hc3⟩ := (g1.sl (B := fun _ => True) (fun _ _ => trivial)).place (by omega)
                have hl0 : 0 < s.l.length := by omega
                have c3 : w3.cell? ⟨g3, o3, none⟩ = some (.int .i64 (s.atV 0)) := by
                  have h1 := hc3 0 (by simp [ints]; omega)
                  rw [Nat.add_zero] at h1
                  rw [h1]
                  have h2 : s.atV 0 = s.l[0] := by simp [QSt.atV, hl0, List.getD]
                  rw [h2]
                  simp [ints, List.getElem?_take, hl0]
                  omega
                have c4 : s.atB 0 = true := by simp [QSt.atB]; omega
                have c5 : decide (0 < j) = true := by simp; omega
                generalize s.took j = s3 at *
                generalize F = F3 at *
                clear HQ HK HF HT g1 ho3 e1 e2 HL hc3
                have t1 : (s3.came != s3.went + (s3.l.length : Int)) = false := by have := hk3.sum; simp [this]
                have t2 : decide (N < s3.l.length) = false := by have := hk3.len; simp; omega
                have t3 : decide ((N : Int) < s3.most) = false := by have := hk3.m1; simp; omega
                have t4 : decide ((s3.room : Int) - s3.l.length < 0) = false := by have := hk3.len; have := hk3.room; simp; omega
                have t8 : decide (s3.room < s3.l.length) = false := by have := hk3.len; have := hk3.room; simp; omega
                have t5 : 0 ≤ s3.went := hk3.w0
                have t6 : s3.went ≤ 1000000 := hk3.ok.w1
                have t7 : s3.l.length ≤ 40 := by have := hk3.len; have := hk3.n2; omega
                have HOK3 := Lib.hid hk3.ok
                have HK3 := Lib.hid hk3
                have HCo := Lib.hid (counts_any w3 F3 _ s3 hq3)
                have HQ3 := Lib.hid hq3
                have HBR3 := Lib.hid hbr3
                clear hq3 hk3 hbr3
                go_wp2_with (go_at_call 20; refine HCo.out.mono ?_; rintro e w7 ⟨rfl, hb7⟩)
                have hz7 := hb7.size
                refine wp_region_lit_plan [] [(0, 0), (2, 0), (4, 0), (1, 2), (3, 2), (5, 3), (6, 0), (7, 0), (8, 0), (9, 0), (11, 0), (10, 4), (12, 0), (13, 0), (14, 0), (15, 0), (17, 0), (16, 1), (18, 0), (19, 0), (20, 0), (21, 0), (22, 4), (23, 0), (24, 0)] (fun _ => True) (by kernel_rfl) (by kernel_rfl) (fun c a d v w h => by cases d <;> exact h) ?_
                go_wp2_with (first
                  | (refine plan_pure (v := _) (by rfl) (by rfl) (by rfl) (by intro _; go_simp; with_reducible rfl) ?_; simp only [List.setIfInBounds_toArray, List.set_cons_zero, List.set_cons_succ]; try go_bits) | (refine plan_read (v := _) (by rfl) (by rfl) (by rfl) (by go_simp; with_reducible rfl) ?_; simp only [List.setIfInBounds_toArray, List.set_cons_zero, List.set_cons_succ]; try go_bits) | (refine plan_readB (v := _) (by rfl) (by rfl) (by rfl) (by intro _ hag; unfold Agree at hag; go_simp; with_reducible rfl) ?_; simp only [List.setIfInBounds_toArray, List.set_cons_zero, List.set_cons_succ]; try go_bits) | (refine plan_skip0 (by rfl) (by rfl) (by rfl) ?_; simp only [List.setIfInBounds_toArray, List.set_cons_zero, List.set_cons_succ]; try go_bits) | (refine plan_skip1 (by rfl) (by rfl) (by rfl) ?_; simp only [List.setIfInBounds_toArray, List.set_cons_zero, List.set_cons_succ]; try go_bits) | (refine plan_skip2 (by rfl) (by rfl) (by rfl) ?_; simp only [List.setIfInBounds_toArray, List.set_cons_zero, List.set_cons_succ]; try go_bits) | (refine plan_any (by rfl) ?_) | (refine plan_keep (by rfl) ?_) | (refine plan_nil ?_) | (with_reducible refine And.intro (by first | assumption | exact Agree.refl _ _ | exact agree_drew _ _ | exact agree_alloc _ (by intro k hk; subst hk; first | omega | (simp; omega))) ?_) | (unfold Act.put; simp only [List.setIfInBounds_toArray, List.set_cons_zero, List.set_cons_succ])
                  | (go_at_call 22; refine (len_any _ F3 b s3 (HQ3.out.below (by
                      repeat (with_reducible first | exact hb7 | (refine Below.setCell ?_ (by first | omega | (simp; omega)) _) | (refine Below.alloc ?_ (by first | omega | (simp; omega)) _) | apply Below.drew)
                      ))).mono ?_; rintro e w' ⟨rfl, rfl⟩)
                  | (go_at_call 23; refine (free_any _ F3 b s3 (HQ3.out.below (by
                      repeat (with_reducible first | exact hb7 | (refine Below.setCell ?_ (by first | omega | (simp; omega)) _) | (refine Below.alloc ?_ (by first | omega | (simp; omega)) _) | apply Below.drew)
                      )) HOK3.out).mono ?_; rintro e w' ⟨rfl, rfl⟩))
                go_roundw
                case rel =>
                  refine ⟨k + 1, s3, F3, by go_num, by omega, HBR3.out.trans (Below.mono (B := w3.heap.size) ?_ HBR3.out.size), HQ3.out.below ?_, HK3.out, fun g hg => ⟨(HF4.out g hg).1, ?_⟩⟩
                  · repeat (with_reducible first | exact hb7 | (refine Below.setCell ?_ (by first | omega | (simp; omega)) _) | (refine Below.alloc ?_ (by first | omega | (simp; omega)) _) | apply Below.drew)
                  · repeat (with_reducible first | exact hb7 | (refine Below.setCell ?_ (by first | omega | (simp; omega)) _) | (refine Below.alloc ?_ (by first | omega | (simp; omega)) _) | apply Below.drew)
                  · have := (HF4.out g hg).2
                    simp
                    omega
                case measure => simp [intOf]; omega
            · have d2 : (ac.kind == 0) = false := by simp [hk0]
              have d3 : (ac.kind == 1) = false := by simp [hk1]
              clear hk0 hk1
              by_cases hi : 0 ≤ ac.n ∧ ac.n < s.l.length
              · obtain ⟨i, hi2⟩ : ∃ i : Nat, ac.n = i := ⟨ac.n.toNat, by omega⟩
                rw [hi2] at e1 hi
                have HR := Lib.hid (remove_yes wr F b s i HQ.out HK.out.ok (by omega))
                have hk3 := HK.out.removed (j := i) (by omega) (by omega)
                clear hi hi2
                go_wp2_with (fail)
                refine HR.out.mono ?_
                rintro e w3 ⟨rfl, hq3, ho3⟩
                have hbr3 : Below w.heap.size w w3 := HBR.out.trans (ho3.below hzr (fun i hi => (HF.out i hi).1))
                have hz3 := ho3.size
                have HF4 := Lib.hid (fun g hg => ⟨(HF.out g hg).1, Nat.lt_of_lt_of_le (HF.out g hg).2 hz3⟩ : ∀ g, F g → w.heap.size ≤ g ∧ g < w3.heap.size)
                generalize s.removed i = s3 at *
                generalize F = F3 at *
                clear HQ HK HF HR ho3 e0 e1 e2 HL
                have t1 : (s3.came != s3.went + (s3.l.length : Int)) = false := by have := hk3.sum; simp [this]
                have t2 : decide (N < s3.l.length) = false := by have := hk3.len; simp; omega
                have t3 : decide ((N : Int) < s3.most) = false := by have := hk3.m1; simp; omega
                have t4 : decide ((s3.room : Int) - s3.l.length < 0) = false := by have := hk3.len; have := hk3.room; simp; omega
                have t8 : decide (s3.room < s3.l.length) = false := by have := hk3.len; have := hk3.room; simp; omega
                have t5 : 0 ≤ s3.went := hk3.w0
                have t6 : s3.went ≤ 1000000 := hk3.ok.w1
                have t7 : s3.l.length ≤ 40 := by have := hk3.len; have := hk3.n2; omega
                have HOK3 := Lib.hid hk3.ok
                have HK3 := Lib.hid hk3
                have HCo := Lib.hid (counts_any w3 F3 _ s3 hq3)
                have HQ3 := Lib.hid hq3
                have HBR3 := Lib.hid hbr3
                clear hq3 hk3 hbr3
                go_wp2_with (go_at_call 20; refine HCo.out.mono ?_; rintro e w7 ⟨rfl, hb7⟩)
                have hz7 := hb7.size
                refine wp_region_lit_plan [] [(0, 0), (2, 0), (4, 0), (1, 2), (3, 2), (5, 3), (6, 0), (7, 0), (8, 0), (9, 0), (11, 0), (10, 4), (12, 0), (13, 0), (14, 0), (15, 0), (17, 0), (16, 1), (18, 0), (19, 0), (20, 0), (21, 0), (22, 4), (23, 0), (24, 0)] (fun _ => True) (by kernel_rfl) (by kernel_rfl) (fun c a d v w h => by cases d <;> exact h) ?_
                go_wp2_with (first
                  | (refine plan_pure (v := _) (by rfl) (by rfl) (by rfl) (by intro _; go_simp; with_reducible rfl) ?_; simp only [List.setIfInBounds_toArray, List.set_cons_zero, List.set_cons_succ]; try go_bits) | (refine plan_read (v := _) (by rfl) (by rfl) (by rfl) (by go_simp; with_reducible rfl) ?_; simp only [List.setIfInBounds_toArray, List.set_cons_zero, List.set_cons_succ]; try go_bits) | (refine plan_readB (v := _) (by rfl) (by rfl) (by rfl) (by intro _ hag; unfold Agree at hag; go_simp; with_reducible rfl) ?_; simp only [List.setIfInBounds_toArray, List.set_cons_zero, List.set_cons_succ]; try go_bits) | (refine plan_skip0 (by rfl) (by rfl) (by rfl) ?_; simp only [List.setIfInBounds_toArray, List.set_cons_zero, List.set_cons_succ]; try go_bits) | (refine plan_skip1 (by rfl) (by rfl) (by rfl) ?_; simp only [List.setIfInBounds_toArray, List.set_cons_zero, List.set_cons_succ]; try go_bits) | (refine plan_skip2 (by rfl) (by rfl) (by rfl) ?_; simp only [List.setIfInBounds_toArray, List.set_cons_zero, List.set_cons_succ]; try go_bits) | (refine plan_any (by rfl) ?_) | (refine plan_keep (by rfl) ?_) | (refine plan_nil ?_) | (with_reducible refine And.intro (by first | assumption | exact Agree.refl _ _ | exact agree_drew _ _ | exact agree_alloc _ (by intro k hk; subst hk; first | omega | (simp; omega))) ?_) | (unfold Act.put; simp only [List.setIfInBounds_toArray, List.set_cons_zero, List.set_cons_succ])
                  | (go_at_call 22; refine (len_any _ F3 b s3 (HQ3.out.below (by
                      repeat (with_reducible first | exact hb7 | (refine Below.setCell ?_ (by first | omega | (simp; omega)) _) | (refine Below.alloc ?_ (by first | omega | (simp; omega)) _) | apply Below.drew)
                      ))).mono ?_; rintro e w' ⟨rfl, rfl⟩)
                  | (go_at_call 23; refine (free_any _ F3 b s3 (HQ3.out.below (by
                      repeat (with_reducible first | exact hb7 | (refine Below.setCell ?_ (by first | omega | (simp; omega)) _) | (refine Below.alloc ?_ (by first | omega | (simp; omega)) _) | apply Below.drew)
                      )) HOK3.out).mono ?_; rintro e w' ⟨rfl, rfl⟩))
                go_roundw
                case rel =>
                  refine ⟨k + 1, s3, F3, by go_num, by omega, HBR3.out.trans (Below.mono (B := w3.heap.size) ?_ HBR3.out.size), HQ3.out.below ?_, HK3.out, fun g hg => ⟨(HF4.out g hg).1, ?_⟩⟩
                  · repeat (with_reducible first | exact hb7 | (refine Below.setCell ?_ (by first | omega | (simp; omega)) _) | (refine Below.alloc ?_ (by first | omega | (simp; omega)) _) | apply Below.drew)
                  · repeat (with_reducible first | exact hb7 | (refine Below.setCell ?_ (by first | omega | (simp; omega)) _) | (refine Below.alloc ?_ (by first | omega | (simp; omega)) _) | apply Below.drew)
                  · have := (HF4.out g hg).2
                    simp
                    omega
                case measure => simp [intOf]; omega
              · have HR := Lib.hid (remove_no wr F b s ac.n HQ.out (by omega))
                have hk3 := HK.out.next (by omega)
                clear hi
                go_wp2_with (fail)
                refine HR.out.mono ?_
                rintro e w3 ⟨rfl, rfl⟩
                have hbr3 := HBR.out
                have hq3 := HQ.out
                have HF4 := Lib.hid HF.out
                generalize wr = w3 at *
                generalize s = s3 at *
                generalize F = F3 at *
                clear HQ HK HF HR e0 e1 e2 HL
                have t1 : (s3.came != s3.went + (s3.l.length : Int)) = false := by have := hk3.sum; simp [this]
                have t2 : decide (N < s3.l.length) = false := by have := hk3.len; simp; omega
                have t3 : decide ((N : Int) < s3.most) = false := by have := hk3.m1; simp; omega
                have t4 : decide ((s3.room : Int) - s3.l.length < 0) = false := by have := hk3.len; have := hk3.room; simp; omega
                have t8 : decide (s3.room < s3.l.length) = false := by have := hk3.len; have := hk3.room; simp; omega
                have t5 : 0 ≤ s3.went := hk3.w0
                have t6 : s3.went ≤ 1000000 := hk3.ok.w1
                have t7 : s3.l.length ≤ 40 := by have := hk3.len; have := hk3.n2; omega
                have HOK3 := Lib.hid hk3.ok
                have HK3 := Lib.hid hk3
                have HCo := Lib.hid (counts_any w3 F3 _ s3 hq3)
                have HQ3 := Lib.hid hq3
                have HBR3 := Lib.hid hbr3
                clear hq3 hk3 hbr3
                go_wp2_with (go_at_call 20; refine HCo.out.mono ?_; rintro e w7 ⟨rfl, hb7⟩)
                have hz7 := hb7.size
                refine wp_region_lit_plan [] [(0, 0), (2, 0), (4, 0), (1, 2), (3, 2), (5, 3), (6, 0), (7, 0), (8, 0), (9, 0), (11, 0), (10, 4), (12, 0), (13, 0), (14, 0), (15, 0), (17, 0), (16, 1), (18, 0), (19, 0), (20, 0), (21, 0), (22, 4), (23, 0), (24, 0)] (fun _ => True) (by kernel_rfl) (by kernel_rfl) (fun c a d v w h => by cases d <;> exact h) ?_
                go_wp2_with (first
                  | (refine plan_pure (v := _) (by rfl) (by rfl) (by rfl) (by intro _; go_simp; with_reducible rfl) ?_; simp only [List.setIfInBounds_toArray, List.set_cons_zero, List.set_cons_succ]; try go_bits) | (refine plan_read (v := _) (by rfl) (by rfl) (by rfl) (by go_simp; with_reducible rfl) ?_; simp only [List.setIfInBounds_toArray, List.set_cons_zero, List.set_cons_succ]; try go_bits) | (refine plan_readB (v := _) (by rfl) (by rfl) (by rfl) (by intro _ hag; unfold Agree at hag; go_simp; with_reducible rfl) ?_; simp only [List.setIfInBounds_toArray, List.set_cons_zero, List.set_cons_succ]; try go_bits) | (refine plan_skip0 (by rfl) (by rfl) (by rfl) ?_; simp only [List.setIfInBounds_toArray, List.set_cons_zero, List.set_cons_succ]; try go_bits) | (refine plan_skip1 (by rfl) (by rfl) (by rfl) ?_; simp only [List.setIfInBounds_toArray, List.set_cons_zero, List.set_cons_succ]; try go_bits) | (refine plan_skip2 (by rfl) (by rfl) (by rfl) ?_; simp only [List.setIfInBounds_toArray, List.set_cons_zero, List.set_cons_succ]; try go_bits) | (refine plan_any (by rfl) ?_) | (refine plan_keep (by rfl) ?_) | (refine plan_nil ?_) | (with_reducible refine And.intro (by first | assumption | exact Agree.refl _ _ | exact agree_drew _ _ | exact agree_alloc _ (by intro k hk; subst hk; first | omega | (simp; omega))) ?_) | (unfold Act.put; simp only [List.setIfInBounds_toArray, List.set_cons_zero, List.set_cons_succ])
                  | (go_at_call 22; refine (len_any _ F3 b s3 (HQ3.out.below (by
                      repeat (with_reducible first | exact hb7 | (refine Below.setCell ?_ (by first | omega | (simp; omega)) _) | (refine Below.alloc ?_ (by first | omega | (simp; omega)) _) | apply Below.drew)
                      ))).mono ?_; rintro e w' ⟨rfl, rfl⟩)
                  | (go_at_call 23; refine (free_any _ F3 b s3 (HQ3.out.below (by
                      repeat (with_reducible first | exact hb7 | (refine Below.setCell ?_ (by first | omega | (simp; omega)) _) | (refine Below.alloc ?_ (by first | omega | (simp; omega)) _) | apply Below.drew)
                      )) HOK3.out).mono ?_; rintro e w' ⟨rfl, rfl⟩))
                go_roundw
                case rel =>
                  refine ⟨k + 1, s3, F3, by go_num, by omega, HBR3.out.trans (Below.mono (B := w3.heap.size) ?_ HBR3.out.size), HQ3.out.below ?_, HK3.out, fun g hg => ⟨(HF4.out g hg).1, ?_⟩⟩
                  · repeat (with_reducible first | exact hb7 | (refine Below.setCell ?_ (by first | omega | (simp; omega)) _) | (refine Below.alloc ?_ (by first | omega | (simp; omega)) _) | apply Below.drew)
                  · repeat (with_reducible first | exact hb7 | (refine Below.setCell ?_ (by first | omega | (simp; omega)) _) | (refine Below.alloc ?_ (by first | omega | (simp; omega)) _) | apply Below.drew)
                  · have := (HF4.out g hg).2
                    simp
                    omega
                case measure => simp [intOf]; omega
      · clear HA HK HF HQ HN
        go_wp2
        go_ret
        exact ⟨rfl, HBR.out⟩
end Go.Proofs.Ytdoidpiomonagaa
