/- The law LexStands: what the walk shows. -/
import Derived.Test.YtjbocnofkaffjaaLxK
import Derived.IntWalk
namespace Go.Proofs.Ytjbocnofkaffjaa
open Go.RowKit Go.Afx

theorem words_long (w : World) (s : ByteArray) (hl : 8000 < s.size) :
    Calls Try.prog 6 #[.string s] w fun e w' => e = .returned (.tuple #[.slice none 0 0, .int .i64 0, .int .i64 5]) ∧ w = w' := by
  have d8 : decide ((8000 : Int) < (s.size : Int)) = true := decide_eq_true (by omega)
  go_enter Try.func6, Try.ntmps6
  go_wp2
  exact bodyPost_ret (v := .tuple #[.slice none 0 0, .int .i64 0, .int .i64 5]) (by simp [results, Try.results6, go_sem]) rfl ⟨rfl, rfl⟩

theorem gap_step {nb r : Bool} {c : UInt8} {t : List UInt8} (h : gapF nb (c :: t) = some r) :
    (!(c != 10 && (nb || c == 47)) && !(lxBlank c)) = false ∧ gapF (c != 10 && (nb || c == 47)) t = some r := by
  rw [gapF] at h
  split at h
  · cases h
  · rename_i h1
    exact ⟨by simpa using h1, h⟩
set_option maxRecDepth 100000 in
set_option maxHeartbeats 8000000 in
theorem stands_walk (s : ByteArray) (_ : s.size ≤ maxLen) (w : World) :
    Calls Try.prog 3 #[.string s] w fun e w' => e = .returned (.bool true) ∧ Below w.heap.size w w' := by
  by_cases h8 : 8000 < s.size
  · have HW := Lib.hid (words_long w s h8)
    clear h8
    go_enter Try.func3, Try.ntmps3
    go_wp2_with (first
      | (go_at_call 6; refine HW.out.mono ?_; clear HW; rintro e w2 ⟨rfl, rfl⟩)
      | (go_at_call 7; refine (lx_awake _).mono ?_; rintro e w3 ⟨rfl, hb3⟩))
    go_ret
    exact ⟨rfl, hb3⟩
  · obtain ⟨l, hl⟩ : ∃ l, s.data.toList = l := ⟨_, rfl⟩
    have hsz := size_list s l hl
    have hw := words_any w s l hl (by omega)
    have HG := Lib.hid (get_list s l hl)
    have HSZ := Lib.hid hsz
    have HSL := Lib.hid hl
    have hst := words_all lxNum lxNam l
    have hsl : s.size ≤ 8000 := by omega
    generalize wordsAll lxNum lxNam l = tot at *
    have HW := Lib.hid hw
    have HST := Lib.hid hst
    clear hw hst hl hsz h8
    go_enter Try.func3, Try.ntmps3
    go_wp2_with fail
    refine HW.out.mono ?_
    clear HW
    rintro e w2 ⟨hb2, hwo⟩
    rcases hwo with ⟨ws, v, he, rfl, hs⟩ | ⟨h, rfl⟩
    · have hst2 := HST.out ws tot.2 (by rw [← he])
      obtain ⟨pv, cv, rfl, hc1, hc2⟩ := hs.form
      have HS := Lib.hid hs
      have HB2 := Lib.hid hb2
      have HST2 := Lib.hid hst2
      clear hs hb2 hst2 he HST
      go_wp2_with fail
      go_loopw [6, 7, 8] (fun a nv i wr => ∃ (k e : Nat), i = .int .i64 k ∧ k ≤ ws.length ∧ a = .int .i64 e ∧ nv = .bool false ∧ e ≤ s.size ∧ standF l e (ws.drop k) ∧ Below w2.heap.size w2 wr) (fun _ _ i _ => ws.length + 1 - (intOf i).toNat)
      case atStart => exact ⟨0, 0, rfl, Nat.zero_le _, rfl, rfl, Nat.zero_le _, HST2.out, Below.refl _ _⟩
      case round =>
        obtain ⟨k, e, rfl, hk, rfl, rfl, he, hsf, hbr⟩ := hrel
        have HBR := Lib.hid hbr
        obtain ⟨wo, rfl⟩ : ∃ wo : World, wo = wr := ⟨_, rfl⟩
        by_cases hka : k < ws.length
        · rw [List.drop_eq_getElem_cons hka] at hsf
          unfold standF at hsf
          obtain ⟨p, hp1, hep, hpl, hgap, hsp, htx, hs1, hnext⟩ := hsf
          obtain ⟨g, off, rfl, hgl, e0, e1, e2, e3⟩ := wv_at (HS.out.below hbr) hka
          rw [hp1] at e3
          have hps : p < s.size := by rw [HSZ.out]; exact hpl
          obtain ⟨r0, hr0⟩ : ∃ r0, r0 = false := ⟨_, rfl⟩
          have hgap2 : gapF false ((l.drop e).take (p - e)) = some r0 := by rw [hr0]; exact hgap
          clear hgap
          have hgap := hgap2
          clear hgap2
          have HNEXT := Lib.hid hnext
          have HTX := Lib.hid htx
          have HSP := Lib.hid hsp
          have dp1 : decide ((p : Int) < (e : Int)) = false := decide_eq_false (by omega)
          have dp2 : decide ((s.size : Int) < (p : Int)) = false := decide_eq_false (by omega)
          clear hnext htx hsp hs1 hbr hp1
          generalize ws[k] = x at *
          obtain ⟨kd, tx, nn, aa⟩ := x
          simp only at e0 e1 e2 e3 HTX
          go_wp2_with fail
          go_loopw [6, 7] (fun a nv wi => ∃ (q : Nat) (nb : Bool), a = .int .i64 q ∧ nv = .bool nb ∧ q ≤ p ∧ gapF nb ((l.drop q).take (p - q)) = some r0 ∧ wi = wo) (fun a _ _ => p - (intOf a).toNat)
          case atStart => exact ⟨e, false, rfl, rfl, hep, hgap, rfl⟩
          case round =>
            obtain ⟨q, nb, rfl, rfl, hq, hg, rfl⟩ := hrel
            by_cases hqa : q < p
            · have hqs : q < s.size := by omega
              have hql : q < l.length := by rw [← HSZ.out]; exact hqs
              have hcell : (s[q]'hqs) = l[q] := HG.out q hqs hql
              have hdr : (l.drop q).take (p - q) = l[q] :: (l.drop (q + 1)).take (p - (q + 1)) := by
                rw [List.drop_eq_getElem_cons hql, show p - q = (p - (q + 1)) + 1 from by omega, List.take_succ_cons]
              rw [hdr] at hg
              obtain ⟨hc1, hc2⟩ := gap_step hg
              have hi : ((s[q]'hqs).toNat : Int) = (l[q].toNat : Int) := by rw [hcell]
              have h10 : (((s[q]'hqs).toNat : Int) != 10) = (l[q] != 10) := by
                rw [hi, Bool.eq_iff_iff, bne_iff_ne, bne_iff_ne]
                exact ⟨fun h h2 => h (by rw [h2]; rfl), fun h h2 => h (UInt8.toNat_inj.1 (by show l[q].toNat = 10; omega))⟩
              have h32 : (((s[q]'hqs).toNat : Int) != 32) = (l[q] != 32) := by
                rw [hi, Bool.eq_iff_iff, bne_iff_ne, bne_iff_ne]
                exact ⟨fun h h2 => h (by rw [h2]; rfl), fun h h2 => h (UInt8.toNat_inj.1 (by show l[q].toNat = 32; omega))⟩
              have h9 : (((s[q]'hqs).toNat : Int) != 9) = (l[q] != 9) := by
                rw [hi, Bool.eq_iff_iff, bne_iff_ne, bne_iff_ne]
                exact ⟨fun h h2 => h (by rw [h2]; rfl), fun h h2 => h (UInt8.toNat_inj.1 (by show l[q].toNat = 9; omega))⟩
              have h47 : (((s[q]'hqs).toNat : Int) == 47) = (l[q] == 47) := by
                rw [hi, Bool.eq_iff_iff, beq_iff_eq, beq_iff_eq]
                exact ⟨fun h => UInt8.toNat_inj.1 (by show l[q].toNat = 47; omega), fun h => by rw [h]; rfl⟩
              have hbl : lxBlank l[q] = (!(l[q] != 32) || !(l[q] != 9) || !(l[q] != 10)) := by
                unfold lxBlank
                simp [bne]
              rw [hbl] at hc1
              have HC2 := Lib.hid hc2
              clear hg hdr hcell hi hbl hc2
              generalize (l[q] != 10) = x10 at *
              generalize (l[q] != 32) = x32 at *
              generalize (l[q] != 9) = x9 at *
              generalize (l[q] == 47) = x47 at *
              cases nb <;> cases x10 <;> cases x47 <;> cases x32 <;> cases x9
              all_goals first
                | (exfalso; revert hc1; decide)
                | (clear hc1; go_wp2_with fail; exact ⟨⟨q + 1, _, by go_num, rfl, by omega, HC2.out, by first | rfl | trivial⟩, by (simp [intOf]) <;> omega⟩)
            · obtain rfl : p = q := by omega
              rw [Nat.sub_self, List.take_zero] at hg
              have hnb : nb = r0 := Option.some.inj hg
              subst hnb
              clear hg
              subst hr0
              obtain ⟨wo, rfl⟩ : ∃ wo : World, wo = wr := ⟨_, rfl⟩
              have hll : l.length ≤ 8000 := by rw [← HSZ.out]; exact hsl
              have dk1 : decide (k < ws.length) = true := decide_eq_true hka
              have dk2 : ((k : Int) == (ws.length : Int)) = false := beq_eq_false_iff_ne.2 (by omega)
              have hTs : (⟨tx.toArray⟩ : ByteArray).size = tx.length := size_list _ _ rfl
              have HTS := Lib.hid hTs
              by_cases hkd : kd = 2
              · subst hkd
                have hspn : spanW ⟨2, tx, nn, aa⟩ = tx.length + (2 + tx.count 39) := by unfold spanW; rw [if_pos rfl]
                have HSPN := Lib.hid hspn
                have hsp2 := HSP.out
                rw [hspn] at hsp2
                have hcn : tx.count 39 ≤ tx.length := List.count_le_length
                clear hspn hTs
                have hGT := get_list (⟨tx.toArray⟩ : ByteArray) tx rfl
                have HGT := Lib.hid hGT
                have htl : tx.length ≤ 8000 := by omega
                clear hGT hsp2
                generalize (⟨tx.toArray⟩ : ByteArray) = T at *
                have hT8 : T.size ≤ 8000 := by rw [HTS.out]; exact htl
                go_wp2_with fail
                go_loopw [11, 12] (fun n j wi => ∃ m : Nat, j = .int .i64 m ∧ m ≤ T.size ∧ n = .int .i64 ((T.size + 2 + (tx.take m).count 39 : Nat) : Int) ∧ wi = wo) (fun _ j _ => T.size - (intOf j).toNat)
                case atStart => exact ⟨0, rfl, Nat.zero_le _, by simp, rfl⟩
                case round =>
                  obtain ⟨m, rfl, hm, rfl, rfl⟩ := hrel
                  by_cases hma : m < T.size
                  · have hml : m < tx.length := by rw [← HTS.out]; exact hma
                    have hcell : (T[m]'hma) = tx[m] := HGT.out m hma hml
                    have hcm : (tx.take m).count 39 ≤ 8000 := Nat.le_trans List.count_le_length (by rw [List.length_take]; omega)
                    have hct : (tx.take (m + 1)).count 39 = (tx.take m).count 39 + (if tx[m] = 39 then 1 else 0) := by
                      rw [List.take_succ_eq_append_getElem hml, List.count_append, List.count_singleton]
                      congr 1
                      by_cases h : tx[m] = 39
                      · rw [h]; rfl
                      · rw [if_neg h, if_neg (by simpa using h)]
                    have h39 : (((T[m]'hma).toNat : Int) == 39) = decide (tx[m] = 39) := by
                      rw [hcell, Bool.eq_iff_iff, beq_iff_eq, decide_eq_true_iff]
                      exact ⟨fun h => UInt8.toNat_inj.1 (by show tx[m].toNat = 39; omega), fun h => by rw [h]; rfl⟩
                    by_cases hx : tx[m] = 39
                    · rw [decide_eq_true hx] at h39
                      rw [if_pos hx] at hct
                      have HCT : Hid (((T.size + 2 + (tx.take m).count 39 : Nat) : Int) + 1 = ((T.size + 2 + (tx.take (m + 1)).count 39 : Nat) : Int)) := by
                        rw [hct]
                        have h5 : ((T.size + 2 + (tx.take m).count 39 : Nat) : Int) + 1 = ((T.size + 2 + ((tx.take m).count 39 + 1) : Nat) : Int) := by omega
                        exact Lib.hid h5
                      clear hct hcell hx
                      obtain ⟨y, hy⟩ : ∃ y, T.size + 2 + (tx.take m).count 39 = y := ⟨_, rfl⟩
                      rw [hy] at HCT
                      rw [hy]
                      have hy8 : y ≤ 20000 := by omega
                      clear hy
                      go_wp2_with fail
                      exact ⟨⟨m + 1, by go_num, by omega, by rw [HCT.out], by first | rfl | trivial⟩, by (simp [intOf]) <;> omega⟩
                    · rw [decide_eq_false hx] at h39
                      rw [if_neg hx, Nat.add_zero] at hct
                      have HCT := Lib.hid hct
                      clear hct hcell hx
                      go_wp2_with fail
                      exact ⟨⟨m + 1, by go_num, by omega, by have h7 := HCT.out; simp only [Nat.add_zero] at h7; rw [h7], by first | rfl | trivial⟩, by (simp [intOf]) <;> omega⟩
                  · obtain rfl : m = T.size := by omega
                    have htk : (tx.take T.size).count 39 = tx.count 39 := by rw [HTS.out, List.take_length]
                    rw [htk]
                    have hfin : p + (T.size + 2 + tx.count 39) = p + spanW ⟨2, tx, nn, aa⟩ := by rw [HSPN.out, HTS.out]; omega
                    have HFIN : Hid (standF l (p + (T.size + 2 + tx.count 39)) (ws.drop (k + 1))) := by rw [hfin]; exact HNEXT
                    have hle : p + (T.size + 2 + tx.count 39) ≤ s.size := by rw [hfin, HSZ.out]; exact HSP.out
                    clear hfin htk
                    generalize T.size + 2 + tx.count 39 = y at *
                    have hwr : IntKind.i64.wrap ((p : Int) + (y : Int)) = ((p + y : Nat) : Int) := by
                      rw [IntWalk.i64_in _ (by omega)]; omega
                    go_wp2_with fail
                    exact ⟨⟨k + 1, p + y, by go_num, by omega, by first | rfl | go_num, rfl, hle, HFIN.out, HBR.out⟩, by (simp [intOf]) <;> omega⟩
              · have hkd2 : ((kd : Int) == 2) = false := beq_eq_false_iff_ne.2 hkd
                have hspn : spanW ⟨kd, tx, nn, aa⟩ = tx.length := by unfold spanW; rw [if_neg hkd, Nat.add_zero]
                have hext : s.extract p (p + tx.length) = (⟨tx.toArray⟩ : ByteArray) := by
                  have h1 := Lib.extract_toList s p (p + tx.length)
                  rw [Lib.toList_data, HSL.out, Nat.add_sub_cancel_left, HTX.out hkd] at h1
                  exact (ba_of _ _ h1).symm
                rw [← hTs] at hext hspn
                have hle : p + (⟨tx.toArray⟩ : ByteArray).size ≤ s.size := by rw [← hspn, HSZ.out]; exact HSP.out
                have HFIN : Hid (standF l (p + (⟨tx.toArray⟩ : ByteArray).size) (ws.drop (k + 1))) := by rw [← hspn]; exact HNEXT
                clear hspn hTs HNEXT HTX HSP
                generalize (⟨tx.toArray⟩ : ByteArray) = T at *
                have hwr : IntKind.i64.wrap ((p : Int) + (T.size : Int)) = ((p + T.size : Nat) : Int) := by
                  rw [IntWalk.i64_in _ (by omega)]; omega
                have dle : decide ((s.size : Int) < ((p + T.size : Nat) : Int)) = false := decide_eq_false (by omega)
                obtain ⟨y, hy⟩ : ∃ y, p + T.size = y := ⟨_, rfl⟩
                rw [hy] at hext hle HFIN hwr dle
                have hpy : p ≤ y := by omega
                have dle2 : decide (s.size < y) = false := decide_eq_false (by omega)
                clear hy
                go_wp2_with fail
                refine wp_region_lit_plan [] [(0, 0), (1, 0), (2, 0), (3, 0), (4, 0), (5, 0), (6, 0), (7, 0), (8, 0), (9, 0), (10, 0), (11, 0), (12, 0), (13, 0), (14, 0), (15, 0), (16, 0), (17, 1), (18, 0), (19, 0)] (fun _ => False) (by kernel_rfl) (by kernel_rfl) (fun c a d v w h => by cases d <;> exact h) ?_
                go_wp2_with (first
                  | (refine plan_pure (v := _) (by rfl) (by rfl) (by rfl) (by intro _; go_simp; with_reducible rfl) ?_; simp only [List.setIfInBounds_toArray, List.set_cons_zero, List.set_cons_succ]; try go_bits) | (refine plan_read (v := _) (by rfl) (by rfl) (by rfl) (by go_simp; with_reducible rfl) ?_; simp only [List.setIfInBounds_toArray, List.set_cons_zero, List.set_cons_succ]; try go_bits) | (refine plan_readB (v := _) (by rfl) (by rfl) (by rfl) (by intro _ hag; unfold Agree at hag; go_simp; with_reducible rfl) ?_; simp only [List.setIfInBounds_toArray, List.set_cons_zero, List.set_cons_succ]; try go_bits) | (refine plan_skip0 (by rfl) (by rfl) (by rfl) ?_; simp only [List.setIfInBounds_toArray, List.set_cons_zero, List.set_cons_succ]; try go_bits) | (refine plan_skip1 (by rfl) (by rfl) (by rfl) ?_; simp only [List.setIfInBounds_toArray, List.set_cons_zero, List.set_cons_succ]; try go_bits) | (refine plan_skip2 (by rfl) (by rfl) (by rfl) ?_; simp only [List.setIfInBounds_toArray, List.set_cons_zero, List.set_cons_succ]; try go_bits) | (refine plan_skip4 (by rfl) (by rfl) (by rfl) ?_; simp only [List.setIfInBounds_toArray, List.set_cons_zero, List.set_cons_succ]; try go_bits) | (refine plan_any (by rfl) ?_) | (refine plan_keep (by rfl) ?_) | (refine plan_nil ?_) | (with_reducible refine And.intro (by first | assumption | exact Agree.refl _ _ | exact agree_drew _ _ | exact agree_alloc _ (by intro k hk; subst hk; first | omega | (simp; omega))) ?_) | (unfold Act.put; simp only [List.setIfInBounds_toArray, List.set_cons_zero, List.set_cons_succ]))
                exact ⟨⟨k + 1, y, by go_num, by omega, by first | rfl | go_num, rfl, hle, HFIN.out, HBR.out.drew⟩, by (simp [intOf]) <;> omega⟩
        · have hkl : k = ws.length := by omega
          have hdn : ws.drop k = [] := List.drop_eq_nil_of_le (by omega)
          rw [hdn] at hsf
          unfold standF at hsf
          obtain ⟨r0, hr0⟩ := Option.isSome_iff_exists.1 hsf
          have hep : e ≤ s.size := he
          have hgap : gapF false ((l.drop e).take (s.size - e)) = some r0 := by
            rw [List.take_of_length_le (by rw [List.length_drop, ← HSZ.out]; omega)]
            exact hr0
          have dk0 : decide (k < ws.length) = false := decide_eq_false hka
          have dp1 : decide ((s.size : Int) < (e : Int)) = false := decide_eq_false (by omega)
          have dp2 : decide ((s.size : Int) < (s.size : Int)) = false := decide_eq_false (by omega)
          clear hdn hsf hbr hr0
          clear hkl
          go_wp2_with fail
          go_loopw [6, 7] (fun a nv wi => ∃ (q : Nat) (nb : Bool), a = .int .i64 q ∧ nv = .bool nb ∧ q ≤ s.size ∧ gapF nb ((l.drop q).take (s.size - q)) = some r0 ∧ wi = wo) (fun a _ _ => s.size - (intOf a).toNat)
          case atStart => exact ⟨e, false, rfl, rfl, hep, hgap, rfl⟩
          case round =>
            obtain ⟨q, nb, rfl, rfl, hq, hg, rfl⟩ := hrel
            by_cases hqa : q < s.size
            · have hqs : q < s.size := by omega
              have hql : q < l.length := by rw [← HSZ.out]; exact hqs
              have hcell : (s[q]'hqs) = l[q] := HG.out q hqs hql
              have hdr : (l.drop q).take (s.size - q) = l[q] :: (l.drop (q + 1)).take (s.size - (q + 1)) := by
                rw [List.drop_eq_getElem_cons hql, show s.size - q = (s.size - (q + 1)) + 1 from by omega, List.take_succ_cons]
              rw [hdr] at hg
              obtain ⟨hc1, hc2⟩ := gap_step hg
              have hi : ((s[q]'hqs).toNat : Int) = (l[q].toNat : Int) := by rw [hcell]
              have h10 : (((s[q]'hqs).toNat : Int) != 10) = (l[q] != 10) := by
                rw [hi, Bool.eq_iff_iff, bne_iff_ne, bne_iff_ne]
                exact ⟨fun h h2 => h (by rw [h2]; rfl), fun h h2 => h (UInt8.toNat_inj.1 (by show l[q].toNat = 10; omega))⟩
              have h32 : (((s[q]'hqs).toNat : Int) != 32) = (l[q] != 32) := by
                rw [hi, Bool.eq_iff_iff, bne_iff_ne, bne_iff_ne]
                exact ⟨fun h h2 => h (by rw [h2]; rfl), fun h h2 => h (UInt8.toNat_inj.1 (by show l[q].toNat = 32; omega))⟩
              have h9 : (((s[q]'hqs).toNat : Int) != 9) = (l[q] != 9) := by
                rw [hi, Bool.eq_iff_iff, bne_iff_ne, bne_iff_ne]
                exact ⟨fun h h2 => h (by rw [h2]; rfl), fun h h2 => h (UInt8.toNat_inj.1 (by show l[q].toNat = 9; omega))⟩
              have h47 : (((s[q]'hqs).toNat : Int) == 47) = (l[q] == 47) := by
                rw [hi, Bool.eq_iff_iff, beq_iff_eq, beq_iff_eq]
                exact ⟨fun h => UInt8.toNat_inj.1 (by show l[q].toNat = 47; omega), fun h => by rw [h]; rfl⟩
              have hbl : lxBlank l[q] = (!(l[q] != 32) || !(l[q] != 9) || !(l[q] != 10)) := by
                unfold lxBlank
                simp [bne]
              rw [hbl] at hc1
              have HC2 := Lib.hid hc2
              clear hg hdr hcell hi hbl hc2
              generalize (l[q] != 10) = x10 at *
              generalize (l[q] != 32) = x32 at *
              generalize (l[q] != 9) = x9 at *
              generalize (l[q] == 47) = x47 at *
              cases nb <;> cases x10 <;> cases x47 <;> cases x32 <;> cases x9
              all_goals first
                | (exfalso; revert hc1; decide)
                | (clear hc1; go_wp2_with fail; exact ⟨⟨q + 1, _, by go_num, rfl, by omega, HC2.out, by first | rfl | trivial⟩, by (simp [intOf]) <;> omega⟩)
            · obtain rfl : q = s.size := by omega
              rw [Nat.sub_self, List.take_zero] at hg
              have hnb : nb = r0 := Option.some.inj hg
              subst hnb
              clear hg
              have dk1 : decide (k < ws.length) = false := decide_eq_false hka
              have dk2 : ((k : Int) == (ws.length : Int)) = true := by rw [beq_iff_eq]; omega
              cases nb
              all_goals
                go_wp2_with (go_at_call 7; refine (lx_awake _).mono ?_; rintro e w3 ⟨rfl, hb3⟩)
                go_ret
                have hb9 := HB2.out.trans (HBR.out.mono HB2.out.size)
                exact ⟨rfl, hb9.trans (hb3.mono hb9.size)⟩
    · have h1 : tot.1 = none := h
      have HB2 := Lib.hid hb2
      clear hb2 h h1 HST
      go_wp2_with (go_at_call 7; refine (lx_awake _).mono ?_; rintro e w3 ⟨rfl, hb3⟩)
      go_ret
      exact ⟨rfl, HB2.out.trans (hb3.mono HB2.out.size)⟩
end Go.Proofs.Ytjbocnofkaffjaa
