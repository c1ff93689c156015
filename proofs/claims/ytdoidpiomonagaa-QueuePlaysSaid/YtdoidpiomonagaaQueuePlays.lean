/- The law QueuePlays, walked. -/
import Derived.Test.YtdoidpiomonagaaQueuePlaysC
import Derived.Deep.DeepCutAuto
import Derived.Deep.CutBlock
namespace Go.Proofs.Ytdoidpiomonagaa
open Go.RowKit Go.Afx

theorem put_tally (s : QSt) (x : List Int) (m : Nat) (hm : m = min x.length (s.room - s.l.length)) :
    ((s.tally.set 0 (.int .i64 (s.came + m))).set 2 (.int .i64 (s.refused + x.length - m))).set 3 (.int .i64 (max s.most ((s.l.length : Int) + m))) = (s.put x).tally := by
  have hl : (s.l ++ x.take (s.room - s.l.length)).length = s.l.length + m := by simp; omega
  have e1 : s.refused + (x.length : Int) - m = s.refused + ((x.length - m : Nat) : Int) := by omega
  have e2 : (s.l.length : Int) + m = ((s.l.length + m : Nat) : Int) := by omega
  rw [e1, e2]
  simp only [QSt.tally, QSt.put, List.set_cons_succ, List.set_cons_zero, hl, ← hm]

theorem Sl_end {w : World} {B : Nat → Prop} {p : Option Addr} : Sl w B 1 (.slice p 0 0) 0 [] := ⟨by simp, Ones.nil, .inl ⟨p, 0, rfl, rfl, by simp, fun _ => rfl⟩⟩

set_option maxRecDepth 100000 in
set_option maxHeartbeats 8000000 in
theorem plays_walk (room : Int) (_ : (Lit.int .i64 room).wf = true) (v : Value) (acts : List ActV) (ask : Int) (_ : (Lit.int .i64 ask).wf = true) (w : World) (ha : IsActs w v acts) :
    Calls Try.prog 3 #[.int .i64 room, v, .int .i64 ask] w fun e w' => e = .returned (.bool true) ∧ Below w.heap.size w w' := by
  obtain ⟨p, cap, rfl, _, _⟩ := ha.1.form
  have HA := Lib.hid ha
  clear ha
  by_cases hlen : 60 < acts.length
  · exact plays_long room p cap acts ask w (by omega)
  · by_cases hroom : room < 1 ∨ 10000 < room
    · exact plays_no room p cap acts ask w (by omega) hroom
    · have d1 : ¬ (60 : Int) < acts.length := by omega
      obtain ⟨N, rfl⟩ : ∃ N : Nat, room = N := ⟨room.toNat, by omega⟩
      have hN1 : 1 ≤ N := by omega
      have hN2 : N ≤ 10000 := by omega
      have d3 : ¬ (N : Int) < 1 := by omega
      have d4 : ¬ (10000 : Int) < N := by omega
      clear hroom
      go_enter Try.func3, Try.ntmps3
      go_wp2_with (first
        | (go_at_call 13; refine (qawake _).mono ?_; rintro e w1 ⟨rfl, hb1⟩)
        | (go_at_call 14; refine (new_q N _ hN1 hN2).mono ?_; rintro e w2 ⟨rfl, hq2, hb2, hz2⟩))
      have hz1 := hb1.size
      have hb12 : Below w.heap.size w w2 := hb1.trans (hb2.mono hz1)
      have hst0 : PSt w (w2.alloc (.cells #[.int .i64 0, .int .i64 0, .int .i64 0, .int .i64 0] 28)) w1.heap.size w2.heap.size ⟨0, 0, 0, 0, [], N⟩ (fun k => k = w1.heap.size) (.slice none 0 0) [] [.int .i64 0, .int .i64 0, .int .i64 0, .int .i64 0] :=
        ⟨hb12.alloc (by omega) _, hq2.below ((Below.refl _ _).alloc (Nat.le_refl _) _), fun g hg => by subst hg; simp; omega, Own.nil _ _ _, by simp [Value.ownBlock], Blk.new _ _ _, by omega, by omega⟩
      have HST1 := Lib.hid hst0
      clear hst0 hq2 hb12 hb1 hb2 hz2 d3 d4 hz1
      generalize w1.heap.size = b at *
      generalize htbe : w2.heap.size = tb at *
      clear htbe
      go_loopw [10, 8] (fun i va wr => ∃ (k : Nat) (s : QSt) (F : Nat → Prop), i = .int .i64 k ∧ k ≤ acts.length ∧ PSt w wr b tb s F va s.l s.tally ∧ PInv N k s) (fun i _ _ => acts.length - (intOf i).toNat)
      case atStart => exact ⟨0, _, _, rfl, Nat.zero_le _, HST1.out, ⟨rfl, hN1, hN2, by simp, by simp, by simp, by simp, by simp, by simp, by simp, by simp, by omega⟩⟩
      case round =>
        obtain ⟨k, s, F, rfl, hk, hst, hinv⟩ := hrel
        clear HST1
        have HS := Lib.hid hst
        have HI := Lib.hid hinv
        obtain ⟨p8, cap8, rfl, hpc8, _⟩ := own_form hst.own
        have hln : s.l.length ≤ N := hinv.len
        by_cases hka : k < acts.length
        · obtain ⟨g, off, cap', hv, hgw, x0, x1, x2, hl⟩ := HA.out.at hka
          cases hv
          have hgt : ¬ g = tb := by have := hst.tl; omega
          have hgt2 : ¬ tb = g := by omega
          generalize acts[k] = ac at *
          obtain ⟨lp, lcap, hlv, hlc, _⟩ := hl.form
          rw [hlv] at x2 hl
          have e0 : wr.cell? ⟨g, off + k * 3, none⟩ = some (.int .i64 ac.kind) := (hst.bel.cell (p := ⟨g, _, none⟩) hgw).trans x0
          have e1 : wr.cell? ⟨g, off + k * 3 + 1, none⟩ = some (.int .i64 ac.n) := (hst.bel.cell (p := ⟨g, _, none⟩) hgw).trans x1
          have e2 : wr.cell? ⟨g, off + k * 3 + 2, none⟩ = some (.slice lp ac.l.length lcap) := (hst.bel.cell (p := ⟨g, _, none⟩) hgw).trans x2
          have hg : g < wr.heap.size := Nat.lt_of_lt_of_le hgw hst.bel.size
          have HL := Lib.hid hl
          have X1 := Lib.hid x1
          have X2 := Lib.hid x2
          clear hl hlv hst hinv x0 x1 x2
          go_upto_block 2 with fail
          go_cut [8, 11, 12, 13, 14, 15, 16] (fun s8 _ _ _ _ _ _ wc => ∃ s3 F3, PSt w wc b tb s3 F3 s8 s3.l s3.tally ∧ PInv N (k + 1) s3)
          case rest =>
            as_aux_lemma =>
              obtain ⟨s3, F3, hst, hi3⟩ := hcut
              clear HS HI HL X1 X2 e0 e1 e2 hg HA
              obtain ⟨p9, cap9, rfl, _, _⟩ := own_form hst.own
              have htb : tb < wc.heap.size := hst.t.lt
              have HST := Lib.hid hst
              have HI3 := Lib.hid hi3
              have hlk := looks_any wc.drew F3 b s3 (hst.drew).q hi3.ok (fun _ => True) _ ((hst.drew).own.sl (fun _ _ => trivial)) ask
              rw [hi3.room] at hlk
              have HLK := Lib.hid hlk
              clear hst hi3 hlk
              go_wp2
              refine wp_region_lit_plan [] [(0, 0), (1, 0), (2, 0), (3, 0), (4, 4), (5, 0), (6, 0), (7, 0), (9, 2), (8, 3), (10, 0), (11, 0)] (fun k => k = tb) (by kernel_rfl) (by kernel_rfl) (fun c a d v w h => by cases d <;> exact h) ?_
              go_wp2_with (first
                | (refine plan_pure (v := _) (by rfl) (by rfl) (by rfl) (by intro _; go_simp; with_reducible rfl) ?_; simp only [List.setIfInBounds_toArray, List.set_cons_zero, List.set_cons_succ]; try go_bits) | (refine plan_read (v := _) (by rfl) (by rfl) (by rfl) (by go_simp; with_reducible rfl) ?_; simp only [List.setIfInBounds_toArray, List.set_cons_zero, List.set_cons_succ]; try go_bits) | (refine plan_readB (v := _) (by rfl) (by rfl) (by rfl) (by intro _ hag; unfold Agree at hag; go_simp; with_reducible rfl) ?_; simp only [List.setIfInBounds_toArray, List.set_cons_zero, List.set_cons_succ]; try go_bits) | (refine plan_skip0 (by rfl) (by rfl) (by rfl) ?_; simp only [List.setIfInBounds_toArray, List.set_cons_zero, List.set_cons_succ]; try go_bits) | (refine plan_skip1 (by rfl) (by rfl) (by rfl) ?_; simp only [List.setIfInBounds_toArray, List.set_cons_zero, List.set_cons_succ]; try go_bits) | (refine plan_skip2 (by rfl) (by rfl) (by rfl) ?_; simp only [List.setIfInBounds_toArray, List.set_cons_zero, List.set_cons_succ]; try go_bits) | (refine plan_any (by rfl) ?_) | (refine plan_keep (by rfl) ?_) | (refine plan_nil ?_) | (with_reducible refine And.intro (by first | assumption | exact Agree.refl _ _ | exact agree_drew _ _ | exact agree_alloc _ (by intro k hk; subst hk; first | omega | (simp; omega))) ?_) | (unfold Act.put; simp only [List.setIfInBounds_toArray, List.set_cons_zero, List.set_cons_succ])
                | (go_at_call 19; refine HLK.out.mono ?_; rintro e w8 ⟨rfl, hb8⟩;
                   have hst8 := HST.out.drew.below hb8; have t0 : w8.cell? ⟨tb, 0, none⟩ = some (.int .i64 s3.came) := hst8.t.cell 0; have t1 : w8.cell? ⟨tb, 1, none⟩ = some (.int .i64 s3.went) := hst8.t.cell 1;
                   have t2 : w8.cell? ⟨tb, 2, none⟩ = some (.int .i64 s3.refused) := hst8.t.cell 2; have t3 : w8.cell? ⟨tb, 3, none⟩ = some (.int .i64 s3.most) := hst8.t.cell 3; have HST8 := Lib.hid hst8;
                   have hag8 : Agree (fun k => k = tb) wc.drew w8 := agree_below hb8 (fun k hk => by subst hk; exact htb); have htb8 := hst8.t.lt; clear hst8)
                | (go_at_call 20; refine (counts_any _ F3 b s3 HST8.out.q).mono ?_; rintro e w9 ⟨rfl, hb9⟩; have hag9 : Agree (fun k => k = tb) w8 w9 := agree_below hb9 (fun k hk => by subst hk; exact htb8)))
              go_roundw
              case rel => exact ⟨k + 1, s3, F3, by go_num, by omega, HST8.out.below hb9, HI3.out⟩
              case measure => simp [intOf]; omega
          case first =>
            by_cases hk0 : ac.kind = 0
            · as_aux_lemma =>
                have d1 : (ac.kind == 0) = true := by simp [hk0]
                clear hk0 e1
                by_cases hlong : 100 < ac.l.length
                · go_wp2
                  go_ret
                  exact ⟨rfl, HS.out.bel⟩
                · go_upto_block 3 with fail
                  go_cut [8, 11] (fun s8 s11 wc => ∃ m : Nat, s11 = .int .i64 m ∧ m ≤ ac.l.length ∧ s.l.length + m ≤ N ∧ (m = ac.l.length ∨ s.l.length + m = N) ∧ PSt w wc b tb s F s8 (s.l ++ ac.l.take m) s.tally)
                  case first =>
                    go_wp2_with fail
                    go_loopw [11, 8] (fun n va wr2 => ∃ m : Nat, n = .int .i64 m ∧ m ≤ ac.l.length ∧ s.l.length + m ≤ N ∧ PSt w wr2 b tb s F va (s.l ++ ac.l.take m) s.tally) (fun n _ _ => ac.l.length - (intOf n).toNat)
                    case atStart => exact ⟨0, rfl, Nat.zero_le _, by omega, by simpa using HS.out⟩
                    case round =>
                      obtain ⟨m, rfl, hm, hmN, hst⟩ := hrel
                      have hnl : (s.l ++ ac.l.take m).length = s.l.length + m := by simp; omega
                      have hown := hst.own
                      rw [hnl] at hown
                      obtain ⟨p9, cap9, rfl, _, _⟩ := own_form hown
                      have e2 : wr.cell? ⟨g, off + k * 3 + 2, none⟩ = some (.slice lp ac.l.length lcap) := (hst.bel.cell (p := ⟨g, _, none⟩) hgw).trans X2.out
                      have hg : g < wr.heap.size := Nat.lt_of_lt_of_le hgw hst.bel.size
                      clear hnl
                      by_cases hg1 : m < ac.l.length
                      · by_cases hg2 : s.l.length + m < N
                        · obtain ⟨g7, o7, cap7, hv7, _, _, _, hlt7, hc7⟩ := (HL.out.below hst.bel).place (by omega)
                          cases hv7
                          have e7 : wr.cell? ⟨g7, o7 + m, none⟩ = some (.int .i64 ac.l[m]) := by rw [hc7 m (by simpa [ints] using hg1)]; simp [ints, hg1]
                          have htk : s.l ++ ac.l.take m ++ [ac.l[m]] = s.l ++ ac.l.take (m + 1) := by rw [List.append_assoc, List.take_append_getElem]
                          generalize ac.l[m] = x7 at *
                          have HTK := Lib.hid htk
                          have HST := Lib.hid hst
                          have ho1 := hown.alloc (.cells #[.int .i64 x7] 3)
                          have hs1 : Sl (wr.alloc (.cells #[.int .i64 x7] 3)) (fun _ => True) 1 (.slice (some ⟨wr.heap.size, 0, none⟩) 1 1) 1 (ints [x7]) :=
                            (Own.made wr 3 1 (ints [x7]) [] 1 1 rfl (ints_ones _) (Nat.le_refl _) (by simp [maxLen]) (by simp [ints])).sl (fun _ _ => trivial)
                          clear hc7 hst hown htk
                          go_wp2_with (at_builtin; refine wpList_app rfl _ _ rfl elemInt (by rfl) ho1 (by rfl) hs1 (by unfold maxLen; omega) (by omega) ?_; intro v1 w2 g1 g2 g3 g4 g5; clear hs1 ho1)
                          have g6 : Own w2 3 1 v1 (s.l ++ ac.l.take (m + 1)).length (ints (s.l ++ ac.l.take (m + 1))) := by
                            rw [← ints_append, HTK.out] at g1
                            rw [show (s.l ++ ac.l.take (m + 1)).length = s.l.length + m + 1 by simp; omega]
                            exact g1
                          have hst2 := HST.out.app ((Below.refl _ _).alloc (Nat.le_refl _) _) (fun g hg => .inl hg) g6 g2 g3
                          go_roundw
                          case rel => exact ⟨m + 1, by go_num, by omega, by omega, hst2⟩
                          case measure => simp [intOf]; omega
                        · have hmm : m = ac.l.length ∨ s.l.length + m = N := by omega
                          have HST := Lib.hid hst
                          clear hst hown
                          go_wp2
                          go_meet
                          exact ⟨m, rfl, hm, hmN, hmm, HST.out⟩
                      · have hmm : m = ac.l.length ∨ s.l.length + m = N := by omega
                        have HST := Lib.hid hst
                        clear hst hown
                        go_wp2
                        go_meet
                        exact ⟨m, rfl, hm, hmN, hmm, HST.out⟩
                  case rest =>
                    obtain ⟨m, rfl, hm, hmN, hmm, hst⟩ := hcut
                    have hput : (s.put ac.l).l = s.l ++ ac.l.take m := by
                      show s.l ++ ac.l.take (s.room - s.l.length) = _
                      have h1 := HI.out.room
                      rcases hmm with h2 | h2
                      · rw [List.take_of_length_le (by omega), List.take_of_length_le (by omega)]
                      · rw [h1, show N - s.l.length = m by omega]
                    have hmn : m = min ac.l.length (s.room - s.l.length) := by have := HI.out.room; omega
                    have hnl : (s.l ++ ac.l.take m).length = s.l.length + m := by simp; omega
                    have HPUT := Lib.hid hput
                    have HMM := Lib.hid hmn
                    have t0 : wc.cell? ⟨tb, 0, none⟩ = some (.int .i64 s.came) := hst.t.cell 0
                    have t2 : wc.cell? ⟨tb, 2, none⟩ = some (.int .i64 s.refused) := hst.t.cell 2
                    have t3 : wc.cell? ⟨tb, 3, none⟩ = some (.int .i64 s.most) := hst.t.cell 3
                    have tf : ∀ i, wc.frozen? ⟨tb, i, none⟩ = false := hst.t.frozen
                    have a2 : wc.cell? ⟨g, off + k * 3 + 2, none⟩ = some (.slice lp ac.l.length lcap) := (hst.bel.cell (p := ⟨g, _, none⟩) hgw).trans X2.out
                    have q1 := HI.out.ok.c0
                    have q2 := HI.out.ok.c1
                    have q3 := HI.out.ok.r0
                    have q4 := HI.out.ok.r1
                    have hst5 := ((hst.store 0 (.int .i64 (s.came + m))).drew.store 2 (.int .i64 (s.refused + ac.l.length - m))).store 3 (.int .i64 (max s.most ((s.l.length : Int) + m)))
                    have HP := Lib.hid (put_any _ F b s hst5.q HI.out.ok (fun _ => True) _ ac.l (HL.out.below hst5.bel) (by omega))
                    have HST5 := Lib.hid hst5
                    have htb := hst.t.lt
                    have hgc : g < wc.heap.size := Nat.lt_of_lt_of_le hgw hst.bel.size
                    have hown := hst.own
                    rw [hnl] at hown
                    obtain ⟨p9, cap9, rfl, _, _⟩ := own_form hown
                    clear hput hst hst5 hmn hown hnl e0 e2
                    go_wp2
                    refine wp_region_lit_plan [] [(0, 0), (2, 0), (3, 0), (4, 0), (5, 0), (9, 0), (1, 1), (6, 1), (7, 0), (8, 0), (10, 0), (11, 0), (12, 4)] (fun _ => False) (by kernel_rfl) (by kernel_rfl) (fun c a d v w h => by cases d <;> exact h) ?_
                    by_cases hml : m = ac.l.length
                    · have hkp : s.kput ac.l = m := by have := HMM.out; simp only [QSt.kput]; omega
                      have hper : s.perr ac.l = 0 := by have := HI.out.room; simp only [QSt.perr]; rw [if_neg (by omega)]
                      have dm : ((m : Int) == (ac.l.length : Int)) = true := by simp [hml]
                      clear hml
                      go_wp2_with (first
                        | (refine plan_pure (v := _) (by rfl) (by rfl) (by rfl) (by intro _; go_simp; with_reducible rfl) ?_; simp only [List.setIfInBounds_toArray, List.set_cons_zero, List.set_cons_succ]; try go_bits) | (refine plan_read (v := _) (by rfl) (by rfl) (by rfl) (by go_simp; with_reducible rfl) ?_; simp only [List.setIfInBounds_toArray, List.set_cons_zero, List.set_cons_succ]; try go_bits) | (refine plan_readB (v := _) (by rfl) (by rfl) (by rfl) (by intro _ hag; unfold Agree at hag; go_simp; with_reducible rfl) ?_; simp only [List.setIfInBounds_toArray, List.set_cons_zero, List.set_cons_succ]; try go_bits) | (refine plan_skip0 (by rfl) (by rfl) (by rfl) ?_; simp only [List.setIfInBounds_toArray, List.set_cons_zero, List.set_cons_succ]; try go_bits) | (refine plan_skip1 (by rfl) (by rfl) (by rfl) ?_; simp only [List.setIfInBounds_toArray, List.set_cons_zero, List.set_cons_succ]; try go_bits) | (refine plan_skip2 (by rfl) (by rfl) (by rfl) ?_; simp only [List.setIfInBounds_toArray, List.set_cons_zero, List.set_cons_succ]; try go_bits) | (refine plan_any (by rfl) ?_) | (refine plan_keep (by rfl) ?_) | (refine plan_nil ?_) | (with_reducible refine And.intro (by first | assumption | exact Agree.refl _ _ | exact agree_drew _ _ | exact agree_alloc _ (by intro k hk; subst hk; first | omega | (simp; omega))) ?_) | (unfold Act.put; simp only [List.setIfInBounds_toArray, List.set_cons_zero, List.set_cons_succ]))
                      have HKP := Lib.hid hkp
                      have HPER := Lib.hid hper
                      clear hkp hper
                      go_wp2_with (first
                        | (go_at_call 15; refine HP.out.mono ?_; rintro e w5 ⟨rfl, F5, hq5, hev⟩; rw [HKP.out, HPER.out];
                           have hst6 := (HST5.out.turn hq5 hev.1 hev.2).congr HPUT.out.symm (put_tally s ac.l m HMM.out);
                           have a5 : w5.cell? ⟨g, off + k * 3 + 2, none⟩ = some (.slice lp ac.l.length lcap) := (hst6.bel.cell (p := ⟨g, _, none⟩) hgw).trans X2.out;
                           have hg5 : g < w5.heap.size := Nat.lt_of_lt_of_le hgw hst6.bel.size; have HST6 := Lib.hid hst6; clear hst6 hq5 hev))
                      go_meet
                      exact ⟨_, _, HST6.out, HI.out.put ac.l (by omega) (by omega)⟩
                    · have hkp : s.kput ac.l = m := by have := HMM.out; simp only [QSt.kput]; omega
                      have hper : s.perr ac.l = 18 := by have := HI.out.room; simp only [QSt.perr]; rw [if_pos (by omega)]
                      have dm : ((m : Int) == (ac.l.length : Int)) = false := by simp; omega
                      clear hml
                      go_wp2_with (first
                        | (refine plan_pure (v := _) (by rfl) (by rfl) (by rfl) (by intro _; go_simp; with_reducible rfl) ?_; simp only [List.setIfInBounds_toArray, List.set_cons_zero, List.set_cons_succ]; try go_bits) | (refine plan_read (v := _) (by rfl) (by rfl) (by rfl) (by go_simp; with_reducible rfl) ?_; simp only [List.setIfInBounds_toArray, List.set_cons_zero, List.set_cons_succ]; try go_bits) | (refine plan_readB (v := _) (by rfl) (by rfl) (by rfl) (by intro _ hag; unfold Agree at hag; go_simp; with_reducible rfl) ?_; simp only [List.setIfInBounds_toArray, List.set_cons_zero, List.set_cons_succ]; try go_bits) | (refine plan_skip0 (by rfl) (by rfl) (by rfl) ?_; simp only [List.setIfInBounds_toArray, List.set_cons_zero, List.set_cons_succ]; try go_bits) | (refine plan_skip1 (by rfl) (by rfl) (by rfl) ?_; simp only [List.setIfInBounds_toArray, List.set_cons_zero, List.set_cons_succ]; try go_bits) | (refine plan_skip2 (by rfl) (by rfl) (by rfl) ?_; simp only [List.setIfInBounds_toArray, List.set_cons_zero, List.set_cons_succ]; try go_bits) | (refine plan_any (by rfl) ?_) | (refine plan_keep (by rfl) ?_) | (refine plan_nil ?_) | (with_reducible refine And.intro (by first | assumption | exact Agree.refl _ _ | exact agree_drew _ _ | exact agree_alloc _ (by intro k hk; subst hk; first | omega | (simp; omega))) ?_) | (unfold Act.put; simp only [List.setIfInBounds_toArray, List.set_cons_zero, List.set_cons_succ]))
                      have HKP := Lib.hid hkp
                      have HPER := Lib.hid hper
                      clear hkp hper
                      go_wp2_with (first
                        | (go_at_call 15; refine HP.out.mono ?_; rintro e w5 ⟨rfl, F5, hq5, hev⟩; rw [HKP.out, HPER.out];
                           have hst6 := (HST5.out.turn hq5 hev.1 hev.2).congr HPUT.out.symm (put_tally s ac.l m HMM.out);
                           have a5 : w5.cell? ⟨g, off + k * 3 + 2, none⟩ = some (.slice lp ac.l.length lcap) := (hst6.bel.cell (p := ⟨g, _, none⟩) hgw).trans X2.out;
                           have hg5 : g < w5.heap.size := Nat.lt_of_lt_of_le hgw hst6.bel.size; have HST6 := Lib.hid hst6; clear hst6 hq5 hev))
                      go_meet
                      exact ⟨_, _, HST6.out, HI.out.put ac.l (by omega) (by omega)⟩
            · by_cases hk1 : ac.kind = 1
              · as_aux_lemma =>
                  have d2 : (ac.kind == 0) = false := by simp [hk0]
                  have d3 : (ac.kind == 1) = true := by simp [hk1]
                  clear hk0 hk1
                  obtain ⟨j, hj⟩ : ∃ j, min ac.n.toNat s.l.length = j := ⟨_, rfl⟩
                  have hjm : min (s.l.length : Int) (max ac.n 0) = j := by omega
                  have hjl : j ≤ s.l.length := by omega
                  have hjl2 : (j : Int) ≤ s.l.length := by omega
                  have hjc : j ≤ cap8 := by omega
                  have hjc2 : (j : Int) ≤ cap8 := by omega
                  have ht := take_any wr.drew F b s ac.n HS.out.drew.q HI.out.ok
                  rw [hj] at ht
                  have HT := Lib.hid ht
                  have q1 := HI.out.ok.w0
                  have q2 := HI.out.ok.w1
                  clear ht hj
                  go_wp2
                  clear hjm
                  refine wp_region_lit_plan [] [(0, 0), (1, 0), (2, 0), (3, 0), (4, 0), (7, 0), (8, 0), (9, 0), (5, 1), (6, 4), (10, 4), (11, 0)] (fun _ => False) (by kernel_rfl) (by kernel_rfl) (fun c a d v w h => by cases d <;> exact h) ?_
                  go_upto_region 37 with (first
                    | (refine plan_pure (v := _) (by rfl) (by rfl) (by rfl) (by intro _; go_simp; with_reducible rfl) ?_; simp only [List.setIfInBounds_toArray, List.set_cons_zero, List.set_cons_succ]; try go_bits) | (refine plan_read (v := _) (by rfl) (by rfl) (by rfl) (by go_simp; with_reducible rfl) ?_; simp only [List.setIfInBounds_toArray, List.set_cons_zero, List.set_cons_succ]; try go_bits) | (refine plan_readB (v := _) (by rfl) (by rfl) (by rfl) (by intro _ hag; unfold Agree at hag; go_simp; with_reducible rfl) ?_; simp only [List.setIfInBounds_toArray, List.set_cons_zero, List.set_cons_succ]; try go_bits) | (refine plan_skip0 (by rfl) (by rfl) (by rfl) ?_; simp only [List.setIfInBounds_toArray, List.set_cons_zero, List.set_cons_succ]; try go_bits) | (refine plan_skip1 (by rfl) (by rfl) (by rfl) ?_; simp only [List.setIfInBounds_toArray, List.set_cons_zero, List.set_cons_succ]; try go_bits) | (refine plan_skip2 (by rfl) (by rfl) (by rfl) ?_; simp only [List.setIfInBounds_toArray, List.set_cons_zero, List.set_cons_succ]; try go_bits) | (refine plan_any (by rfl) ?_) | (refine plan_keep (by rfl) ?_) | (refine plan_nil ?_) | (with_reducible refine And.intro (by first | assumption | exact Agree.refl _ _ | exact agree_drew _ _ | exact agree_alloc _ (by intro k hk; subst hk; first | omega | (simp; omega))) ?_) | (unfold Act.put; simp only [List.setIfInBounds_toArray, List.set_cons_zero, List.set_cons_succ])
                    | (go_at_call 17; refine HT.out.mono ?_; rintro e w3 ⟨v3, rfl, g1, hq3, ho3, hv3⟩;
                       have hst3 := HS.out.drew.turn hq3 ho3 (fun g hg => .inl hg);
                       have HSM := Lib.hid (same_any w3 (fun _ => True) (fun _ => True) v3 (.slice p8 j cap8) (s.l.take j) (s.l.take j) (by rw [show (s.l.take j).length = j by simp; omega]; exact g1.sl (fun _ _ => trivial)) (by have := (hst3.own.sl (B := fun _ => True) (fun _ _ => trivial)).take (m := j) hjl; rw [Nat.mul_one, ints_take] at this; rw [show (s.l.take j).length = j by simp; omega]; exact this));
                       have HST3 := Lib.hid hst3; clear hst3 hq3 ho3 hv3 g1)
                    | (go_at_call 16; refine HSM.out.mono ?_; rintro e w4 ⟨rfl, hb4⟩; simp only [decide_true]))
                  have hst4 := HST3.out.below hb4
                  have hbk := Sl_back (j := j) (hst4.own.sl (B := fun _ => True) (fun _ _ => trivial)) hjl
                  have HBK := Lib.hid hbk
                  have HST4 := Lib.hid hst4
                  clear hst4 hbk HST3 HSM HT HS hb4
                  go_cut [8] (fun s8 wc => PSt w wc b tb (s.took j) F s8 (s.l.drop j) s.tally)
                  case first =>
                    by_cases hcj : cap8 = j
                    · obtain rfl := hcj
                      have hn : s.l.length = cap8 := by omega
                      have htb : Sl w4 (fun _ => True) 1 (.slice p8 0 0) 0 (ints (s.l.drop cap8)) := by
                        rw [List.drop_of_length_le (by omega)]
                        exact Sl_end
                      have ho1 : Own (w4.alloc (.cells #[] 3)) 3 1 (.slice (some ⟨w4.heap.size, 0, none⟩) 0 0) 0 [] := Own.made w4 3 1 [] [] 0 0 rfl Ones.nil (Nat.le_refl _) (by simp [maxLen]) (by simp)
                      have hs1 := htb.alloc (.cells #[] 3)
                      clear htb
                      go_wp2_with (at_builtin; refine wpList_app rfl _ _ rfl elemInt (by rfl) ho1 (by rfl) hs1 (by unfold maxLen; omega) (by omega) ?_; intro v1 w5 g1 g2 g3 g4 g5; clear ho1 hs1; rw [Nat.zero_add, List.nil_append] at g1)
                      go_meet
                      refine HST4.out.app ((Below.refl _ _).alloc (Nat.le_refl _) _) (fun q hq => .inr (by simp [Value.ownBlock] at hq; omega)) ?_ g2 g3
                      rw [show (s.l.drop cap8).length = 0 by simp; omega]
                      exact g1
                    · have hp : ∃ g8 o8, p8 = some ⟨g8, o8, none⟩ := by
                        rcases HST4.out.own.2.2 with ⟨h0, _⟩ | ⟨g, o, c, _, hv, _⟩
                        · simp only [Value.slice.injEq] at h0
                          omega
                        · cases hv
                          exact ⟨_, _, rfl⟩
                      obtain ⟨g8, o8, rfl⟩ := hp
                      have htb := HBK.out.2.1 hcj g8 o8 rfl
                      have ho1 : Own (w4.alloc (.cells #[] 3)) 3 1 (.slice (some ⟨w4.heap.size, 0, none⟩) 0 0) 0 [] := Own.made w4 3 1 [] [] 0 0 rfl Ones.nil (Nat.le_refl _) (by simp [maxLen]) (by simp)
                      have hs1 := htb.alloc (.cells #[] 3)
                      clear htb
                      go_wp2_with (at_builtin; refine wpList_app rfl _ _ rfl elemInt (by rfl) ho1 (by rfl) hs1 (by unfold maxLen; omega) (by omega) ?_; intro v1 w5 g1 g2 g3 g4 g5; clear ho1 hs1; rw [Nat.zero_add, List.nil_append] at g1)
                      go_meet
                      refine HST4.out.app ((Below.refl _ _).alloc (Nat.le_refl _) _) (fun q hq => .inr (by simp [Value.ownBlock] at hq; omega)) ?_ g2 g3
                      rw [show (s.l.drop j).length = s.l.length - j by simp]
                      exact g1
                  case rest =>
                    have t1 : wc.cell? ⟨tb, 1, none⟩ = some (.int .i64 s.went) := hcut.t.cell 1
                    have tf : ∀ i, wc.frozen? ⟨tb, i, none⟩ = false := hcut.t.frozen
                    have HC := Lib.hid hcut
                    clear hcut
                    go_wp2
                    go_meet
                    exact ⟨s.took j, F, (HC.out.store 1 (.int .i64 (s.went + j))).congr rfl rfl, HI.out.took hjl (by omega)⟩
              · have d2 : (ac.kind == 0) = false := by simp [hk0]
                have d3 : (ac.kind == 1) = false := by simp [hk1]
                clear hk0 hk1
                by_cases hi : 0 ≤ ac.n ∧ ac.n < s.l.length
                · as_aux_lemma =>
                    obtain ⟨i, hi2⟩ : ∃ i : Nat, ac.n = i := ⟨ac.n.toNat, by omega⟩
                    rw [hi2] at e1 hi
                    have HI2 := Lib.hid hi2
                    have hil : i < s.l.length := by omega
                    clear hi hi2 e2
                    obtain ⟨g8, o8, rfl⟩ : ∃ g o, p8 = some ⟨g, o, none⟩ := by
                      obtain ⟨g, o, _, hv, _⟩ := (HS.out.own.sl (B := fun _ => True) (fun _ _ => trivial)).place (by omega)
                      cases hv
                      exact ⟨g, o, rfl⟩
                    have HR := Lib.hid (remove_yes wr F b s i HS.out.q HI.out.ok hil)
                    go_wp2_with (fail)
                    refine HR.out.mono ?_
                    rintro e w3 ⟨rfl, hq3, ho3⟩
                    have hst3 := HS.out.turn hq3 ho3 (fun g hg => .inl hg)
                    have e1' : w3.cell? ⟨g, off + k * 3 + 1, none⟩ = some (.int .i64 i) := (hst3.bel.cell (p := ⟨g, _, none⟩) hgw).trans (by rw [← HI2.out]; exact X1.out)
                    have c8 : w3.cell? ⟨g8, o8 + i, none⟩ = some (.int .i64 (s.l.getD i 0)) := by
                      rw [(hst3.own.cellAt (j := i) (by omega)).1]
                      simp [ints, hil, List.getD]
                    generalize s.l.getD i 0 = x8 at *
                    have hg3 : g < w3.heap.size := by have := hst3.bel.size; omega
                    have HI3 := Lib.hid (HI.out.removed hil (by omega))
                    have q1 := HI.out.ok.w0
                    have q2 := HI.out.ok.w1
                    have hta : Sl w3 (fun _ => True) 1 (.slice (some ⟨g8, o8, none⟩) i cap8) i (ints (s.l.take i)) := by
                      have := (hst3.own.sl (B := fun _ => True) (fun _ _ => trivial)).take (m := i) (by omega)
                      rw [Nat.mul_one, ints_take] at this
                      exact this
                    have hbk := Sl_back (j := i + 1) (hst3.own.sl (B := fun _ => True) (fun _ _ => trivial)) (by omega)
                    obtain ⟨i1, hi1⟩ : ∃ i1 : Nat, (i : Int) + 1 = i1 := ⟨i + 1, by omega⟩
                    have hi1n : i + 1 = i1 := by omega
                    have HRL := Lib.hid (by rw [← hi1n]; rfl : s.l.take i ++ s.l.drop i1 = (s.removed i).l)
                    rw [hi1n] at hbk
                    have HBK := Lib.hid hbk
                    have HST3 := Lib.hid hst3
                    have HTA := Lib.hid hta
                    have hz3 : tb < w3.heap.size := hst3.t.lt
                    have hil2 : i ≤ cap8 := by omega
                    have hil4 : (i : Int) ≤ cap8 := by omega
                    have hil5 : i1 ≤ cap8 := by omega
                    have hil6 : i1 ≤ s.l.length := by omega
                    have hil7 : i + (s.l.length - i1) + 1 ≤ s.l.length := by omega
                    have hil8 : s.l.length ≤ i1 + (s.l.length - i1) := by omega
                    have hrl : (s.removed i).l.length = i + (s.l.length - i1) := by show (s.l.take i ++ s.l.drop (i + 1)).length = _; simp; omega
                    have HRN := Lib.hid hrl
                    have hi1a : i + 1 ≤ i1 := by omega
                    have hi1b : i1 ≤ i + 1 := by omega
                    have HI1 := Lib.hid hi1
                    clear hst3 hq3 ho3 HR e1 e0 hi1n hbk hrl hta hi1
                    go_upto_region 18 with fail
                    go_cut [8] (fun s8 wc => PSt w wc b tb (s.removed i) F s8 (s.removed i).l s.tally)
                    case first =>
                      have hta := HTA.out
                      by_cases hcj : cap8 = i1
                      · obtain rfl := hcj
                        have hi1 := HI1.out
                        have hn : s.l.length = cap8 := by omega
                        have htb : Sl w3 (fun _ => True) 1 (.slice (some ⟨g8, o8, none⟩) 0 0) 0 (ints (s.l.drop cap8)) := by
                          rw [List.drop_of_length_le (by omega)]
                          exact Sl_end
                        clear HI1
                        have hrn : (s.removed i).l.length = i := by have := HRN.out; omega
                        have HRN := Lib.hid hrn
                        clear hrn
                        have ho1 : Own ((w3.alloc (.cells #[] 3)).drew) 3 1 (.slice (some ⟨w3.heap.size, 0, none⟩) 0 0) 0 [] := Own.made w3 3 1 [] [] 0 0 rfl Ones.nil (Nat.le_refl _) (by simp [maxLen]) (by simp)
                        have hsa := (hta.alloc (.cells #[] 3)).drew
                        have hag0 : Agree (fun k => k = g) w3.drew ((w3.alloc (.cells #[] 3)).drew) := agree_alloc (w := w3) (.cells #[] 3) (by intro k hk; subst hk; exact hg3)
                        clear hta
                        refine wp_region_lit_plan [] [(1, 0), (2, 0), (3, 0), (4, 0), (5, 0), (9, 0), (10, 0), (11, 0), (12, 0), (13, 0), (6, 2), (7, 0), (14, 2), (15, 0), (16, 0), (0, 3), (8, 3), (17, 4), (18, 0)] (fun k => k = g) (by kernel_rfl) (by kernel_rfl) (fun c a d v w h => by cases d <;> exact h) ?_
                        go_wp2_with (first
                          | (refine plan_pure (v := _) (by rfl) (by rfl) (by rfl) (by intro _; go_simp; with_reducible rfl) ?_; simp only [List.setIfInBounds_toArray, List.set_cons_zero, List.set_cons_succ]; try go_bits) | (refine plan_read (v := _) (by rfl) (by rfl) (by rfl) (by go_simp; with_reducible rfl) ?_; simp only [List.setIfInBounds_toArray, List.set_cons_zero, List.set_cons_succ]; try go_bits) | (refine plan_readB (v := _) (by rfl) (by rfl) (by rfl) (by intro _ hag; unfold Agree at hag; go_simp; with_reducible rfl) ?_; simp only [List.setIfInBounds_toArray, List.set_cons_zero, List.set_cons_succ]; try go_bits) | (refine plan_skip0 (by rfl) (by rfl) (by rfl) ?_; simp only [List.setIfInBounds_toArray, List.set_cons_zero, List.set_cons_succ]; try go_bits) | (refine plan_skip1 (by rfl) (by rfl) (by rfl) ?_; simp only [List.setIfInBounds_toArray, List.set_cons_zero, List.set_cons_succ]; try go_bits) | (refine plan_skip2 (by rfl) (by rfl) (by rfl) ?_; simp only [List.setIfInBounds_toArray, List.set_cons_zero, List.set_cons_succ]; try go_bits) | (refine plan_any (by rfl) ?_) | (refine plan_keep (by rfl) ?_) | (refine plan_nil ?_) | (with_reducible refine And.intro (by first | assumption | exact Agree.refl _ _ | exact agree_drew _ _ | exact agree_alloc _ (by intro k hk; subst hk; first | omega | (simp; omega))) ?_) | (unfold Act.put; simp only [List.setIfInBounds_toArray, List.set_cons_zero, List.set_cons_succ])
                          | (at_builtin; refine wpList_app rfl _ _ rfl elemInt (by rfl) ho1 (by rfl) hsa (by unfold maxLen; omega) (by omega) ?_; intro v1 w5 g1 g2 g3 g4 g5; clear ho1 hsa; rw [Nat.zero_add, List.nil_append] at g1;
                             have hb5 : Below w3.heap.size w3 w5 := ((Below.refl w3.heap.size w3).alloc (Nat.le_refl _) _).drew.trans (g2.below (B := w3.heap.size) (by simp) (fun i hi => by have : w3.heap.size = i := (by simpa [Value.ownBlock] using hi); omega));
                             have hv1 : ∀ q, v1.ownBlock = some q → w3.heap.size ≤ q := (fun q hq => by rw [hq] at g3; have h7 : q = w3.heap.size ∨ q = w3.heap.size + 1 := (by simpa [Value.ownBlock] using g3); omega);
                             have hag5 : Agree (fun k => k = g) ((w3.alloc (.cells #[] 3)).drew) w5 := (fun k i hk => g2.cell (p := ⟨k, i, none⟩) (by subst hk; simp; omega) (by subst hk; simp [Value.ownBlock]; omega));
                             have hsB := htb.below hb5; have HV1 := Lib.hid hv1; clear g2 g3 g4 g5 hv1 htb)
                          | (at_builtin; refine wpList_app rfl _ _ rfl elemInt (by rfl) g1 (by rfl) hsB (by unfold maxLen; omega) (by omega) ?_; intro v2 w6 k1 k2 k3 k4 k5; clear hsB))
                        have k6 : Own w6 3 1 v2 (s.removed i).l.length (ints (s.removed i).l) := by
                          rw [HRN.out, ← HRL.out, ints_append]
                          exact k1
                        go_meet
                        exact HST3.out.app hb5 (fun q hq => .inr (HV1.out q hq)) k6 k2 k3
                      · have htb := HBK.out.2.1 hcj g8 o8 rfl
                        have hi1 := HI1.out
                        clear HI1 HBK
                        have ho1 : Own ((w3.alloc (.cells #[] 3)).drew) 3 1 (.slice (some ⟨w3.heap.size, 0, none⟩) 0 0) 0 [] := Own.made w3 3 1 [] [] 0 0 rfl Ones.nil (Nat.le_refl _) (by simp [maxLen]) (by simp)
                        have hsa := (hta.alloc (.cells #[] 3)).drew
                        have hag0 : Agree (fun k => k = g) w3.drew ((w3.alloc (.cells #[] 3)).drew) := agree_alloc (w := w3) (.cells #[] 3) (by intro k hk; subst hk; exact hg3)
                        clear hta
                        refine wp_region_lit_plan [] [(1, 0), (2, 0), (3, 0), (4, 0), (5, 0), (9, 0), (10, 0), (11, 0), (12, 0), (13, 0), (6, 2), (7, 0), (14, 2), (15, 0), (16, 0), (0, 3), (8, 3), (17, 4), (18, 0)] (fun k => k = g) (by kernel_rfl) (by kernel_rfl) (fun c a d v w h => by cases d <;> exact h) ?_
                        go_wp2_with (first
                          | (refine plan_pure (v := _) (by rfl) (by rfl) (by rfl) (by intro _; go_simp; with_reducible rfl) ?_; simp only [List.setIfInBounds_toArray, List.set_cons_zero, List.set_cons_succ]; try go_bits) | (refine plan_read (v := _) (by rfl) (by rfl) (by rfl) (by go_simp; with_reducible rfl) ?_; simp only [List.setIfInBounds_toArray, List.set_cons_zero, List.set_cons_succ]; try go_bits) | (refine plan_readB (v := _) (by rfl) (by rfl) (by rfl) (by intro _ hag; unfold Agree at hag; go_simp; with_reducible rfl) ?_; simp only [List.setIfInBounds_toArray, List.set_cons_zero, List.set_cons_succ]; try go_bits) | (refine plan_skip0 (by rfl) (by rfl) (by rfl) ?_; simp only [List.setIfInBounds_toArray, List.set_cons_zero, List.set_cons_succ]; try go_bits) | (refine plan_skip1 (by rfl) (by rfl) (by rfl) ?_; simp only [List.setIfInBounds_toArray, List.set_cons_zero, List.set_cons_succ]; try go_bits) | (refine plan_skip2 (by rfl) (by rfl) (by rfl) ?_; simp only [List.setIfInBounds_toArray, List.set_cons_zero, List.set_cons_succ]; try go_bits) | (refine plan_any (by rfl) ?_) | (refine plan_keep (by rfl) ?_) | (refine plan_nil ?_) | (with_reducible refine And.intro (by first | assumption | exact Agree.refl _ _ | exact agree_drew _ _ | exact agree_alloc _ (by intro k hk; subst hk; first | omega | (simp; omega))) ?_) | (unfold Act.put; simp only [List.setIfInBounds_toArray, List.set_cons_zero, List.set_cons_succ])
                          | (at_builtin; refine wpList_app rfl _ _ rfl elemInt (by rfl) ho1 (by rfl) hsa (by unfold maxLen; omega) (by omega) ?_; intro v1 w5 g1 g2 g3 g4 g5; clear ho1 hsa; rw [Nat.zero_add, List.nil_append] at g1;
                             have hb5 : Below w3.heap.size w3 w5 := ((Below.refl w3.heap.size w3).alloc (Nat.le_refl _) _).drew.trans (g2.below (B := w3.heap.size) (by simp) (fun i hi => by have : w3.heap.size = i := (by simpa [Value.ownBlock] using hi); omega));
                             have hv1 : ∀ q, v1.ownBlock = some q → w3.heap.size ≤ q := (fun q hq => by rw [hq] at g3; have h7 : q = w3.heap.size ∨ q = w3.heap.size + 1 := (by simpa [Value.ownBlock] using g3); omega);
                             have hag5 : Agree (fun k => k = g) ((w3.alloc (.cells #[] 3)).drew) w5 := (fun k i hk => g2.cell (p := ⟨k, i, none⟩) (by subst hk; simp; omega) (by subst hk; simp [Value.ownBlock]; omega));
                             have hsB := htb.below hb5; have HV1 := Lib.hid hv1; clear g2 g3 g4 g5 hv1 htb)
                          | (at_builtin; refine wpList_app rfl _ _ rfl elemInt (by rfl) g1 (by rfl) hsB (by unfold maxLen; omega) (by omega) ?_; intro v2 w6 k1 k2 k3 k4 k5; clear hsB))
                        have k6 : Own w6 3 1 v2 (s.removed i).l.length (ints (s.removed i).l) := by
                          rw [HRN.out, ← HRL.out, ints_append]
                          exact k1
                        go_meet
                        exact HST3.out.app hb5 (fun q hq => .inr (HV1.out q hq)) k6 k2 k3
                    case rest =>
                      have t1 : wc.cell? ⟨tb, 1, none⟩ = some (.int .i64 s.went) := hcut.t.cell 1
                      have tf : ∀ i, wc.frozen? ⟨tb, i, none⟩ = false := hcut.t.frozen
                      have HC := Lib.hid hcut
                      clear hcut
                      go_wp2
                      go_meet
                      exact ⟨s.removed i, F, (HC.out.store 1 (.int .i64 (s.went + 1))).congr rfl rfl, HI3.out⟩
                · as_aux_lemma =>
                    have HR := Lib.hid (remove_no wr F b s ac.n HS.out.q (by omega))
                    by_cases hi2 : ac.n < 0
                    · clear hi
                      go_wp2_with (go_at_call 18; refine HR.out.mono ?_; rintro e w3 ⟨rfl, rfl⟩)
                      go_roundw
                      case rel => exact ⟨k + 1, s, F, by go_num, by omega, HS.out, HI.out.next (by omega)⟩
                      case measure => simp [intOf]; omega
                    · have hi3 : (s.l.length : Int) ≤ ac.n := by omega
                      clear hi
                      go_wp2_with (go_at_call 18; refine HR.out.mono ?_; rintro e w3 ⟨rfl, rfl⟩)
                      go_roundw
                      case rel => exact ⟨k + 1, s, F, by go_num, by omega, HS.out, HI.out.next (by omega)⟩
                      case measure => simp [intOf]; omega
        · clear HA
          have hbel := HS.out.bel
          clear hst hinv HS HI
          go_wp2
          go_ret
          exact ⟨rfl, hbel⟩
end Go.Proofs.Ytdoidpiomonagaa
