/- The law LexSpaces: what the walk shows. -/
import Derived.Test.YtjbocnofkaffjaaLxT
import Derived.Test.YtjbocnofkaffjaaLxW
namespace Go.Proofs.Ytjbocnofkaffjaa
open Go.RowKit Go.Afx

theorem spaced_append (r : Bool) : ∀ a b : List WV, spaced r (a ++ b) = spaced r a ++ spaced r b
  | [], _ => rfl
  | w :: a, b => by
    rw [List.cons_append, spaced, spaced, spaced_append r a b]
    simp
theorem spaced_next (r : Bool) (ws : List WV) (k : Nat) (hk : k < ws.length) : spaced r (ws.take (k + 1)) = spaced r (ws.take k) ++ (ws[k].text ++ 32 :: remB r) := by
  rw [List.take_succ_eq_append_getElem hk, spaced_append]
  congr 1
  show ws[k].text ++ 32 :: (remB r ++ []) = _
  rw [List.append_nil]
theorem rem_len (r : Bool) : (remB r).length ≤ 7 := by cases r <;> decide
theorem spaced_len (r : Bool) (s : List UInt8) : ∀ (ws : List WV) (e : Nat), standF s e ws → e ≤ s.length → (spaced r ws).length + 9 * e ≤ 9 * s.length
  | [], e, _, he => by
    show 0 + 9 * e ≤ _
    omega
  | w :: ws, e, h, _ => by
    unfold standF at h
    obtain ⟨p, _, h2, _, _, h5, _, h7, h8⟩ := h
    have ih := spaced_len r s ws _ h8 h5
    have h9 : w.text.length ≤ spanW w := by unfold spanW; omega
    have h10 := rem_len r
    show (w.text ++ 32 :: (remB r ++ spaced r ws)).length + _ ≤ _
    simp only [List.length_append, List.length_cons]
    omega
theorem spaced_take_len (r : Bool) (ws : List WV) (k : Nat) : (spaced r (ws.take k)).length ≤ (spaced r ws).length := by
  have h := congrArg List.length (spaced_append r (ws.take k) (ws.drop k))
  rw [List.take_append_drop, List.length_append] at h
  omega
theorem text_len (r : Bool) (ws : List WV) (k : Nat) (hk : k < ws.length) : (spaced r (ws.take k)).length + ws[k].text.length + 1 + (remB r).length ≤ (spaced r ws).length := by
  have h := spaced_take_len r ws (k + 1)
  rw [spaced_next r ws k hk] at h
  simp only [List.length_append, List.length_cons] at h
  omega
theorem ba_cat (a b : List UInt8) : (⟨a.toArray⟩ : ByteArray) ++ ⟨b.toArray⟩ = ⟨(a ++ b).toArray⟩ := by
  apply ByteArray.ext
  simp
theorem key_at {a b : List WV} (h : a.map wvKey = b.map wvKey) (k : Nat) (ha : k < a.length) (hb : k < b.length) : a[k].kind = b[k].kind ∧ a[k].text = b[k].text ∧ a[k].n = b[k].n := by
  have h1 : (a.map wvKey)[k]? = (b.map wvKey)[k]? := by rw [h]
  rw [List.getElem?_map, List.getElem?_map, List.getElem?_eq_getElem ha, List.getElem?_eq_getElem hb] at h1
  have h2 := Option.some.inj h1
  unfold wvKey at h2
  simpa using h2

set_option maxRecDepth 100000 in
set_option maxHeartbeats 8000000 in
theorem spaces_walk (s : ByteArray) (_ : s.size ≤ maxLen) (remark : Bool) (w : World) :
    Calls Try.prog 4 #[.string s, .bool remark] w fun e w' => e = .returned (.bool true) ∧ Below w.heap.size w w' := by
  by_cases h8 : 8000 < s.size
  · have HW := Lib.hid (words_long w s h8)
    clear h8
    go_enter Try.func4, Try.ntmps4
    go_wp2_with (first
      | (go_at_call 6; refine HW.out.mono ?_; clear HW; rintro e w2 ⟨rfl, rfl⟩)
      | (go_at_call 7; refine (lx_awake _).mono ?_; rintro e w3 ⟨rfl, hb3⟩))
    go_ret
    exact ⟨rfl, hb3⟩
  · obtain ⟨l, hl⟩ : ∃ l, s.data.toList = l := ⟨_, rfl⟩
    have hsz := size_list s l hl
    have hw := words_any w s l hl (by omega)
    have HSZ := Lib.hid hsz
    have hst := words_all lxNum lxNam l
    have hfrom : ∀ ws k, wordsAll lxNum lxNam l = (some ws, k) → ∀ x ∈ ws, FromN lxNum lxNam x := fun ws k h => words_from lxNum lxNam _ _ _ ws k h
    have hsl : s.size ≤ 8000 := by omega
    generalize wordsAll lxNum lxNam l = tot at *
    have HW := Lib.hid hw
    have HST := Lib.hid hst
    have HFR := Lib.hid hfrom
    clear hw hst hl hsz h8 hfrom
    go_enter Try.func4, Try.ntmps4
    go_wp2_with fail
    refine HW.out.mono ?_
    clear HW
    rintro e w2 ⟨hb2, hwo⟩
    rcases hwo with ⟨ws, v, he, rfl, hs⟩ | ⟨h, rfl⟩
    · have hst2 := HST.out ws tot.2 (by rw [← he])
      have hfr2 := HFR.out ws tot.2 (by rw [← he])
      obtain ⟨pv, cv, rfl, hc1, hc2⟩ := hs.form
      have HS := Lib.hid hs
      have HB2 := Lib.hid hb2
      by_cases h5 : 500 < s.size
      · have d5 : decide ((500 : Int) < (s.size : Int)) = true := decide_eq_true (by omega)
        clear h5 hst2 hfr2 HST HFR he hs hb2
        go_wp2_with (go_at_call 7; refine (lx_awake _).mono ?_; rintro e w3 ⟨rfl, hb3⟩)
        go_ret
        exact ⟨rfl, HB2.out.trans (hb3.mono HB2.out.size)⟩
      · have d5 : decide ((500 : Int) < (s.size : Int)) = false := decide_eq_false (by omega)
        have hl5 : (spaced remark ws).length ≤ 4500 := by
          have h9 := spaced_len remark l ws 0 hst2 (Nat.zero_le _)
          have h10 := HSZ.out
          omega
        have HFR2 := Lib.hid hfr2
        have HL5 := Lib.hid hl5
        clear h5 hst2 hfr2 hl5 HST HFR he hs hb2 HSZ
        go_wp2_with fail
        go_loopw [8, 9] (fun t i wi => ∃ k : Nat, i = .int .i64 k ∧ k ≤ ws.length ∧ t = .string ⟨(spaced remark (ws.take k)).toArray⟩ ∧ (∀ x ∈ ws.take k, x.kind ≠ 2) ∧ wi = w2) (fun _ i _ => ws.length - (intOf i).toNat)
        case atStart => exact ⟨0, rfl, Nat.zero_le _, rfl, by simp, rfl⟩
        case round =>
          obtain ⟨k, rfl, hk, rfl, hnt, rfl⟩ := hrel
          obtain ⟨wo, rfl⟩ : ∃ wo : World, wo = wr := ⟨_, rfl⟩
          by_cases hka : k < ws.length
          · obtain ⟨g, off, rfl, hgl, e0, e1, e2, e3⟩ := wv_at HS.out hka
            have hn2 := spaced_next remark ws k hka
            have htl := text_len remark ws k hka
            have hnt2 : ws[k].kind ≠ 2 → ∀ x ∈ ws.take (k + 1), x.kind ≠ 2 := by
              intro h x hx
              rw [List.take_succ_eq_append_getElem hka] at hx
              rcases List.mem_append.1 hx with hx | hx
              · exact hnt x hx
              · rw [List.mem_singleton.1 hx]; exact h
            have HN2 := Lib.hid hn2
            have HNT2 := Lib.hid hnt2
            have hL5 := HL5.out
            have hA : (⟨(spaced remark (ws.take k)).toArray⟩ : ByteArray).size = (spaced remark (ws.take k)).length := size_list _ _ rfl
            have hTs : (⟨ws[k].text.toArray⟩ : ByteArray).size = ws[k].text.length := size_list _ _ rfl
            have hz1 : (⟨(spaced remark (ws.take k)).toArray⟩ : ByteArray).size + (⟨ws[k].text.toArray⟩ : ByteArray).size ≤ 9223372036854775807 := by omega
            have hz2 : ((⟨(spaced remark (ws.take k)).toArray⟩ : ByteArray) ++ ⟨ws[k].text.toArray⟩).size + (⟨#[32]⟩ : ByteArray).size ≤ 9223372036854775807 := by
              rw [ByteArray.size_append]
              show _ + 1 ≤ _
              omega
            have hz3 : ((⟨(spaced remark (ws.take k)).toArray⟩ : ByteArray) ++ ⟨ws[k].text.toArray⟩ ++ ⟨#[32]⟩).size + (⟨#[47, 47, 32, 39, 32, 123, 10]⟩ : ByteArray).size ≤ 9223372036854775807 := by
              rw [ByteArray.size_append, ByteArray.size_append]
              show _ + 1 + 7 ≤ _
              omega
            have hcat : (⟨(spaced remark (ws.take k)).toArray⟩ : ByteArray) ++ ⟨ws[k].text.toArray⟩ ++ ⟨#[32]⟩ ++ ⟨(remB remark).toArray⟩ = ⟨(spaced remark (ws.take (k + 1))).toArray⟩ := by
              rw [hn2]
              apply ByteArray.ext
              simp
            clear hn2 htl hnt2 hL5 hA hTs
            generalize hA2 : (⟨(spaced remark (ws.take (k + 1))).toArray⟩ : ByteArray) = A2 at *
            have HA2 := Lib.hid hA2
            clear hA2
            generalize (⟨(spaced remark (ws.take k)).toArray⟩ : ByteArray) = A at *
            generalize hTd : (⟨ws[k].text.toArray⟩ : ByteArray) = T at *
            generalize ws[k].kind = kd at *
            generalize ws[k].n = nn at *
            generalize ws[k].at_ = aa at *
            clear hTd
            by_cases hkd : kd = 2
            · subst hkd
              clear hcat hz1 hz2 hz3
              go_wp2_with (go_at_call 7; refine (lx_awake _).mono ?_; rintro e w3 ⟨rfl, hb3⟩)
              go_ret
              exact ⟨rfl, HB2.out.trans (hb3.mono HB2.out.size)⟩
            · have hkd2 : ((kd : Int) == 2) = false := beq_eq_false_iff_ne.2 hkd
              have HCAT := Lib.hid hcat
              clear hcat
              cases remark
              · have hc2 : A ++ T ++ ⟨#[32]⟩ = A2 := by
                  rw [← HCAT.out]
                  apply ByteArray.ext
                  simp [remB]
                clear hz3
                go_wp2_with fail
                exact ⟨⟨k + 1, by go_num, by omega, by rw [HA2.out], HNT2.out hkd, by first | rfl | trivial⟩, by (simp [intOf]) <;> omega⟩
              · have hc2 : A ++ T ++ ⟨#[32]⟩ ++ ⟨#[47, 47, 32, 39, 32, 123, 10]⟩ = A2 := HCAT.out
                go_wp2_with fail
                exact ⟨⟨k + 1, by go_num, by omega, by rw [HA2.out], HNT2.out hkd, by first | rfl | trivial⟩, by (simp [intOf]) <;> omega⟩
          · obtain rfl : k = ws.length := by omega
            have hnt2 : ∀ x ∈ ws, x.kind ≠ 2 := by rw [List.take_length] at hnt; exact hnt
            rw [List.take_length]
            obtain ⟨ws2, k2, h21, h22⟩ := spaced_all (num := lxNum) (nam := lxNam) remark ws (fun x hx => ⟨HFR2.out x hx, hnt2 x hx⟩)
            have hlen : ws2.length = ws.length := by
              have h := congrArg List.length h22
              simpa using h
            have hw3 := words_any wo ⟨(spaced remark ws).toArray⟩ (spaced remark ws) rfl (by have := HL5.out; omega)
            rw [h21] at hw3
            have HW3 := Lib.hid hw3
            have HKEY := Lib.hid h22
            have HLEN := Lib.hid hlen
            clear hw3 h21 h22 hnt hnt2 hk hka HFR2 hlen
            generalize (⟨(spaced remark ws).toArray⟩ : ByteArray) = A at *
            go_wp2_with fail
            refine HW3.out.mono ?_
            clear HW3
            rintro e w5 ⟨hb5, hwo⟩
            rcases hwo with ⟨ws3, v, he, rfl, hsm⟩ | ⟨h, _⟩
            · obtain rfl : ws2 = ws3 := Option.some.inj he
              obtain ⟨pm, cm, rfl, hcm1, hcm2⟩ := hsm.form
              rw [HLEN.out] at hcm1 ⊢
              have HSM := Lib.hid hsm
              have HB5 := Lib.hid hb5
              clear he hsm hb5
              go_wp2_with fail
              go_loopw [13] (fun i wi => ∃ k : Nat, i = .int .i64 k ∧ k ≤ ws.length ∧ Below w5.heap.size w5 wi) (fun i _ => ws.length - (intOf i).toNat)
              case atStart => exact ⟨0, rfl, Nat.zero_le _, Below.refl _ _⟩
              case round =>
                obtain ⟨k, rfl, hk, hbr⟩ := hrel
                have HBR := Lib.hid hbr
                by_cases hka : k < ws.length
                · have g1 := wv_at (HS.out.below (HB5.out.trans (hbr.mono HB5.out.size))) hka
                  have g2 := wv_at (HSM.out.below hbr) (k := k) (by rw [HLEN.out]; exact hka)
                  obtain ⟨g, off, rfl, hgl, e0, e1, e2, e3⟩ := g1
                  obtain ⟨gm, offm, rfl, hgml, f0, f1, f2, f3⟩ := g2
                  obtain ⟨q1, q2, q3⟩ := key_at HKEY.out k (by rw [HLEN.out]; exact hka) hka
                  rw [q1] at f0
                  rw [q2] at f1
                  rw [q3] at f2
                  clear hbr
                  have HK2 := Lib.hid hk
                  have z0 := e0
                  have z1 := e1
                  have z2 := e2
                  clear e0 e1 e2 e3 f3 q1 q2 q3 hk
                  generalize ws[k].kind = kd at *
                  generalize (⟨ws[k].text.toArray⟩ : ByteArray) = T at *
                  generalize ws[k].n = nn at *
                  go_wp2_with fail
                  refine wp_region_lit_plan [] [(0, 0), (1, 0), (2, 0), (3, 0), (5, 0), (6, 0), (7, 0), (8, 0), (4, 1), (9, 1), (10, 0), (11, 0), (12, 0), (13, 0), (14, 0), (15, 0), (17, 0), (18, 0), (19, 0), (20, 0), (16, 1), (21, 1), (22, 0), (23, 0), (24, 0), (25, 0), (26, 0), (27, 0), (28, 0), (30, 0), (31, 0), (32, 0), (33, 0), (29, 1), (34, 1), (35, 0), (36, 0)] (fun _ => False) (by kernel_rfl) (by kernel_rfl) (fun c a d v w h => by cases d <;> exact h) ?_
                  go_wp2_with (first
                    | (refine plan_pure (v := _) (by rfl) (by rfl) (by rfl) (by intro _; go_simp; with_reducible rfl) ?_; simp only [List.setIfInBounds_toArray, List.set_cons_zero, List.set_cons_succ]; try go_bits) | (refine plan_read (v := _) (by rfl) (by rfl) (by rfl) (by go_simp; with_reducible rfl) ?_; simp only [List.setIfInBounds_toArray, List.set_cons_zero, List.set_cons_succ]; try go_bits) | (refine plan_readB (v := _) (by rfl) (by rfl) (by rfl) (by intro _ hag; unfold Agree at hag; go_simp; with_reducible rfl) ?_; simp only [List.setIfInBounds_toArray, List.set_cons_zero, List.set_cons_succ]; try go_bits) | (refine plan_skip0 (by rfl) (by rfl) (by rfl) ?_; simp only [List.setIfInBounds_toArray, List.set_cons_zero, List.set_cons_succ]; try go_bits) | (refine plan_skip1 (by rfl) (by rfl) (by rfl) ?_; simp only [List.setIfInBounds_toArray, List.set_cons_zero, List.set_cons_succ]; try go_bits) | (refine plan_skip2 (by rfl) (by rfl) (by rfl) ?_; simp only [List.setIfInBounds_toArray, List.set_cons_zero, List.set_cons_succ]; try go_bits) | (refine plan_skip4 (by rfl) (by rfl) (by rfl) ?_; simp only [List.setIfInBounds_toArray, List.set_cons_zero, List.set_cons_succ]; try go_bits) | (refine plan_any (by rfl) ?_) | (refine plan_keep (by rfl) ?_) | (refine plan_nil ?_) | (with_reducible refine And.intro (by first | assumption | exact Agree.refl _ _ | exact agree_drew _ _ | exact agree_alloc _ (by intro k hk; subst hk; first | omega | (simp; omega))) ?_) | (unfold Act.put; simp only [List.setIfInBounds_toArray, List.set_cons_zero, List.set_cons_succ]))
                  exact ⟨⟨k + 1, by go_num, by omega, HBR.out.drew⟩, by (simp [intOf]) <;> omega⟩
                · obtain rfl : k = ws.length := by omega
                  clear hbr hk hka
                  go_wp2_with (go_at_call 7; refine (lx_awake _).mono ?_; rintro e w9 ⟨rfl, hb9⟩)
                  go_ret
                  have hb10 := HB2.out.trans ((HB5.out.trans (HBR.out.mono HB5.out.size)).mono HB2.out.size)
                  exact ⟨rfl, hb10.trans (hb9.mono hb10.size)⟩
            · cases h
    · have h1 : tot.1 = none := h
      have HB2 := Lib.hid hb2
      clear hb2 h h1 HST HFR
      go_wp2_with (go_at_call 7; refine (lx_awake _).mono ?_; rintro e w3 ⟨rfl, hb3⟩)
      go_ret
      exact ⟨rfl, HB2.out.trans (hb3.mono HB2.out.size)⟩
end Go.Proofs.Ytjbocnofkaffjaa
