/- Words: cursors. -/
import Derived.Test.YtjbocnofkaffjaaLxF
import Derived.Test.YtjbocnofkaffjaaOpen
namespace Go.Proofs.Ytjbocnofkaffjaa
open Go.RowKit Go.Afx

def IsCur (w : World) (b : Nat) (k e : Int) (v : Value) (ws : List WV) : Prop := Blk w b 46 [.int .i64 k, .int .i64 e, v] ∧ Sl w (fun q => q ≠ b) 4 v ws.length (wvList ws)
theorem IsCur.below {w w' : World} {b : Nat} {k e : Int} {v : Value} {ws : List WV} (h : IsCur w b k e v ws) (hb : Below w.heap.size w w') : IsCur w' b k e v ws := ⟨h.1.below hb, h.2.below hb⟩
theorem wv_at {w : World} {B : Nat → Prop} {p : Option Addr} {n c k : Nat} {l : List WV} (h : Sl w B 4 (.slice p n c) l.length (wvList l)) (hk : k < l.length) :
    ∃ g off, p = some ⟨g, off, none⟩ ∧ g < w.heap.size ∧ w.cell? ⟨g, off + k * 4, none⟩ = some (.int .i64 l[k].kind) ∧ w.cell? ⟨g, off + k * 4 + 1, none⟩ = some (.string ⟨l[k].text.toArray⟩) ∧ w.cell? ⟨g, off + k * 4 + 2, none⟩ = some (.int .i64 l[k].n) ∧ w.cell? ⟨g, off + k * 4 + 3, none⟩ = some (.int .i64 l[k].at_) := by
  obtain ⟨g, off, cap, hv, _, _, hgb, hglt, hc⟩ := h.place (by omega)
  injection hv with hp _ _
  have hlen : ∀ c ∈ l.map wvCells, c.length = 4 := by
    intro c hc
    obtain ⟨a, _, rfl⟩ := List.mem_map.1 hc
    rfl
  have get : ∀ r, r < 4 → w.cell? ⟨g, off + (k * 4 + r), none⟩ = (wvCells l[k])[r]? := fun r hr => by
    rw [hc _ (by unfold wvList; rw [flatten_length _ hlen, List.length_map]; omega)]
    unfold wvList
    rw [flatten_get _ hlen k r hr, List.getElem?_map, List.getElem?_eq_getElem hk]
    rfl
  exact ⟨g, off, hp, hglt, get 0 (by omega), get 1 (by omega), get 2 (by omega), get 3 (by omega)⟩

@[go_sem] theorem eqlNilWord (w : World) (a : Option Addr) (n c : Nat) : (binOp .eql 22 (.slice a n c) (.slice none 0 0)).run Try.prog w = .ok (.bool a.isNone) w := Lib.run_eql_slice_nil w _ _ a n c 0 0 Try.underlying22
set_option maxRecDepth 100000 in
theorem clone_word (w : World) (B : Nat → Prop) (v : Value) (n : Nat) (cs : List Value) (h : Sl w B 4 v n cs) (hn : 0 < n) (hn2 : n ≤ 1000000000) :
    Calls Try.prog 25 #[v] w fun e w' => ∃ v', e = .returned v' ∧ Own w' 28 4 v' n cs ∧ Below w.heap.size w w' := by
  obtain ⟨g, off, cap, rfl, _, _, _, _, _⟩ := h.place hn
  have hs := h.alloc (.cells #[] 28)
  have ho : Own (w.alloc (.cells #[] 28)) 28 4 (.slice (some ⟨w.heap.size, 0, none⟩) 0 0) 0 [] := Own.made w 28 4 [] [] 0 0 rfl Ones.nil (Nat.le_refl _) (by simp [maxLen]) (by simp)
  clear h
  go_enter Try.func25, Try.ntmps25
  go_wp2_with (at_builtin; refine wpList_app rfl _ _ rfl elemWord (by rfl) ho (by rfl) hs (by unfold maxLen; omega) (by omega) ?_; intro v' w' h1 h2 h3 _ _)
  go_ret
  have hb : Below w.heap.size w w' := (((Below.refl w.heap.size w).alloc (Nat.le_refl _) _).trans (h2.below (B := w.heap.size) (by simp) (fun i hi => by have : w.heap.size = i := (by simpa [Value.ownBlock] using hi); omega)))
  exact ⟨v', rfl, by simpa using h1, hb⟩
set_option maxRecDepth 100000 in
theorem on_any (w : World) (B : Nat → Prop) (v : Value) (ws : List WV) (h : Sl w B 4 v ws.length (wvList ws)) (hn : 0 < ws.length) (hn2 : ws.length ≤ 1000000000) (en : Int) :
    Calls Try.prog 15 #[v, .int .i64 en] w fun e w' => ∃ b v', e = .returned (.pointer (some ⟨b, 0, none⟩)) ∧ w.heap.size ≤ b ∧ IsCur w' b 0 en v' ws ∧ Below w.heap.size w w' := by
  obtain ⟨p, cap, rfl, _, _⟩ := h.form
  have HC := Lib.hid (clone_word w B _ _ _ h hn hn2)
  clear h
  go_enter Try.func15, Try.ntmps15
  go_wp2_with fail
  refine HC.out.mono ?_
  clear HC
  rintro e w2 ⟨v', rfl, ho, hb⟩
  obtain ⟨p2, c2, rfl, _, _⟩ := own_form ho
  have HO := Lib.hid ho
  have HB := Lib.hid hb
  clear ho hb
  go_wp2
  go_ret
  have hal : Below w2.heap.size w2 (w2.alloc (.cells #[.int .i64 0, .int .i64 en, .slice p2 ws.length c2] 46)) := (Below.refl _ _).alloc (Nat.le_refl _) _
  refine ⟨w2.heap.size, _, rfl, HB.out.size, ⟨Blk.new w2 _ _, ?_⟩, HB.out.trans (hal.mono HB.out.size)⟩
  exact (HO.out.below hal).sl (fun q hq => by have := HO.out.lt q hq; omega)

set_option maxRecDepth 100000 in
set_option maxHeartbeats 1000000 in
theorem look_any (w : World) (b : Nat) (k e : Int) (v : Value) (ws : List WV) (h : IsCur w b k e v ws) (n : Int) (m : Nat) (hm : k + n = m) (hml : m < ws.length) (hws : ws.length ≤ 100000) :
    Calls Try.prog 16 #[.pointer (some ⟨b, 0, none⟩), .int .i64 n] w fun e w' => e = .returned (wvAgg ws[m]) ∧ Below w.heap.size w w' := by
  have hal : Below w.heap.size w (w.alloc (.cells #[.int .i64 0, .string ⟨#[]⟩, .int .i64 0, .int .i64 0] 28)) := (Below.refl _ _).alloc (Nat.le_refl _) _
  have HK := Lib.hid (Blk.new w 28 [.int .i64 0, .string ⟨#[]⟩, .int .i64 0, .int .i64 0])
  obtain ⟨h1, h2⟩ := h.below hal
  obtain ⟨p, cap, rfl, hc1, hc2⟩ := h2.form
  obtain ⟨g, off, rfl, hg, e0, e1, e2, e3⟩ := wv_at h2 hml
  have k0 := h1.cell 0
  have k2 := h1.cell 2
  simp only [List.getElem?_cons_zero, List.getElem?_cons_succ] at k0 k2
  have z0 := HK.out.cell 0
  have HAL := Lib.hid hal
  have hd : decide (m < ws.length) = true := decide_eq_true hml
  unfold wvAgg
  generalize ws[m] = x at *
  obtain ⟨kd, tx, nn, a⟩ := x
  simp only at e0 e1 e2 e3
  generalize (⟨tx.toArray⟩ : ByteArray) = T at *
  clear hal h1 h2 z0
  go_enter Try.func16, Try.ntmps16
  go_wp2_with fail
  generalize hw1 : w.alloc (.cells #[.int .i64 0, .string ⟨#[]⟩, .int .i64 0, .int .i64 0] 28) = w1 at *
  clear hw1
  refine wp_region_lit_plan [] [(0, 0), (1, 0), (2, 0), (3, 0), (5, 0), (7, 0), (8, 0), (9, 0), (4, 1), (6, 0), (10, 1), (11, 0), (12, 0), (13, 0)] (fun _ => False) (by kernel_rfl) (by kernel_rfl) (fun c a d v w h => by cases d <;> exact h) ?_
  go_wp2_with (first
    | (refine plan_pure (v := _) (by rfl) (by rfl) (by rfl) (by intro _; go_simp; with_reducible rfl) ?_; simp only [List.setIfInBounds_toArray, List.set_cons_zero, List.set_cons_succ]; try go_bits) | (refine plan_read (v := _) (by rfl) (by rfl) (by rfl) (by go_simp; with_reducible rfl) ?_; simp only [List.setIfInBounds_toArray, List.set_cons_zero, List.set_cons_succ]; try go_bits) | (refine plan_readB (v := _) (by rfl) (by rfl) (by rfl) (by intro _ hag; unfold Agree at hag; go_simp; with_reducible rfl) ?_; simp only [List.setIfInBounds_toArray, List.set_cons_zero, List.set_cons_succ]; try go_bits) | (refine plan_skip0 (by rfl) (by rfl) (by rfl) ?_; simp only [List.setIfInBounds_toArray, List.set_cons_zero, List.set_cons_succ]; try go_bits) | (refine plan_skip1 (by rfl) (by rfl) (by rfl) ?_; simp only [List.setIfInBounds_toArray, List.set_cons_zero, List.set_cons_succ]; try go_bits) | (refine plan_skip2 (by rfl) (by rfl) (by rfl) ?_; simp only [List.setIfInBounds_toArray, List.set_cons_zero, List.set_cons_succ]; try go_bits) | (refine plan_skip4 (by rfl) (by rfl) (by rfl) ?_; simp only [List.setIfInBounds_toArray, List.set_cons_zero, List.set_cons_succ]; try go_bits) | (refine plan_any (by rfl) ?_) | (refine plan_keep (by rfl) ?_) | (refine plan_nil ?_) | (with_reducible refine And.intro (by first | assumption | exact Agree.refl _ _ | exact agree_drew _ _ | exact agree_alloc _ (by intro k hk; subst hk; first | omega | (simp; omega))) ?_) | (unfold Act.put; simp only [List.setIfInBounds_toArray, List.set_cons_zero, List.set_cons_succ]))
  have k0d : w1.drew.cell? ⟨b, 0, none⟩ = some (.int .i64 k) := k0
  have k2d : w1.drew.cell? ⟨b, 2, none⟩ = some (.slice (some ⟨g, off, none⟩) ws.length cap) := k2
  have e0d : w1.drew.cell? ⟨g, off + m * 4, none⟩ = some (.int .i64 kd) := e0
  have e1d : w1.drew.cell? ⟨g, off + m * 4 + 1, none⟩ = some (.string T) := e1
  have e2d : w1.drew.cell? ⟨g, off + m * 4 + 2, none⟩ = some (.int .i64 nn) := e2
  have e3d : w1.drew.cell? ⟨g, off + m * 4 + 3, none⟩ = some (.int .i64 a) := e3
  have z0 : w1.drew.cell? ⟨w.heap.size, 0, none⟩ = some (.int .i64 0) := HK.out.cell 0
  have z1 : w1.drew.cell? ⟨w.heap.size, 1, none⟩ = some (.string ⟨#[]⟩) := HK.out.cell 1
  have z2 : w1.drew.cell? ⟨w.heap.size, 2, none⟩ = some (.int .i64 0) := HK.out.cell 2
  have z3 : w1.drew.cell? ⟨w.heap.size, 3, none⟩ = some (.int .i64 0) := HK.out.cell 3
  have kf : ∀ i, w1.drew.frozen? ⟨w.heap.size, i, none⟩ = false := HK.out.frozen
  have HAL2 := Lib.hid (HAL.out.drew)
  clear k0 k2 e0 e1 e2 e3 HAL HK
  generalize w1.drew = w2 at *
  refine wp_region_lit_plan [] [(0, 0), (1, 0), (2, 0), (4, 0), (5, 0), (6, 0), (7, 0), (9, 0), (3, 1), (8, 1), (10, 0), (11, 0), (12, 1), (13, 4)] (fun _ => False) (by kernel_rfl) (by kernel_rfl) (fun c a d v w h => by cases d <;> exact h) ?_
  go_wp2_with (first
    | (refine plan_pure (v := _) (by rfl) (by rfl) (by rfl) (by intro _; go_simp; with_reducible rfl) ?_; simp only [List.setIfInBounds_toArray, List.set_cons_zero, List.set_cons_succ]; try go_bits) | (refine plan_read (v := _) (by rfl) (by rfl) (by rfl) (by go_simp; with_reducible rfl) ?_; simp only [List.setIfInBounds_toArray, List.set_cons_zero, List.set_cons_succ]; try go_bits) | (refine plan_readB (v := _) (by rfl) (by rfl) (by rfl) (by intro _ hag; unfold Agree at hag; go_simp; with_reducible rfl) ?_; simp only [List.setIfInBounds_toArray, List.set_cons_zero, List.set_cons_succ]; try go_bits) | (refine plan_skip0 (by rfl) (by rfl) (by rfl) ?_; simp only [List.setIfInBounds_toArray, List.set_cons_zero, List.set_cons_succ]; try go_bits) | (refine plan_skip1 (by rfl) (by rfl) (by rfl) ?_; simp only [List.setIfInBounds_toArray, List.set_cons_zero, List.set_cons_succ]; try go_bits) | (refine plan_skip2 (by rfl) (by rfl) (by rfl) ?_; simp only [List.setIfInBounds_toArray, List.set_cons_zero, List.set_cons_succ]; try go_bits) | (refine plan_skip4 (by rfl) (by rfl) (by rfl) ?_; simp only [List.setIfInBounds_toArray, List.set_cons_zero, List.set_cons_succ]; try go_bits) | (refine plan_any (by rfl) ?_) | (refine plan_keep (by rfl) ?_) | (refine plan_nil ?_) | (with_reducible refine And.intro (by first | assumption | exact Agree.refl _ _ | exact agree_drew _ _ | exact agree_alloc _ (by intro k hk; subst hk; first | omega | (simp; omega))) ?_) | (unfold Act.put; simp only [List.setIfInBounds_toArray, List.set_cons_zero, List.set_cons_succ]))
  refine bodyPost_ret (v := .agg #[.int .i64 kd, .string T, .int .i64 nn, .int .i64 a]) (by simp [results, Try.results16, go_sem, z0, z1, z2, z3]) rfl ⟨rfl, ?_⟩
  exact ((((HAL2.out.setCell (p := ⟨w.heap.size, 0, none⟩) (by simp) _).setCell (p := ⟨w.heap.size, 1, none⟩) (by simp) _).setCell (p := ⟨w.heap.size, 2, none⟩) (by simp) _).setCell (p := ⟨w.heap.size, 3, none⟩) (by simp) _).drew

theorem says_any (w : World) (kd : Int) (T : ByteArray) (n a : Int) (hk : kd = 0 ∨ kd = 3) :
    Calls Try.prog 18 #[.agg #[.int .i64 kd, .string T, .int .i64 n, .int .i64 a], .string T] w fun e w' => e = .returned (.bool true) ∧ Below w.heap.size w w' := by
  rcases hk with rfl | rfl
  all_goals
    go_enter Try.func18, Try.ntmps18
    go_wp2
    go_ret
    exact ⟨rfl, (Below.refl _ _).alloc (Nat.le_refl _) _⟩

set_option maxRecDepth 100000 in
set_option maxHeartbeats 1000000 in
theorem left_any (w : World) (b : Nat) (k e : Int) (v : Value) (ws : List WV) (h : IsCur w b k e v ws) (hk : 0 ≤ k ∧ k ≤ ws.length) (hws : ws.length ≤ 100000) :
    Calls Try.prog 12 #[.pointer (some ⟨b, 0, none⟩)] w fun e w' => e = .returned (.int .i64 ((ws.length : Int) - k)) ∧ Below w.heap.size w w' := by
  obtain ⟨h1, h2⟩ := h
  obtain ⟨p, cap, rfl, hc1, hc2⟩ := h2.form
  have k0 := h1.cell 0
  have k2 := h1.cell 2
  simp only [List.getElem?_cons_zero, List.getElem?_cons_succ] at k0 k2
  clear h1 h2
  go_enter Try.func12, Try.ntmps12
  go_wp2_with fail
  refine wp_region_lit_plan [] [(0, 0), (1, 0), (2, 0), (5, 0), (6, 0), (7, 0), (8, 0), (3, 1), (4, 0), (9, 1), (10, 0), (11, 0)] (fun _ => False) (by kernel_rfl) (by kernel_rfl) (fun c a d v w h => by cases d <;> exact h) ?_
  go_wp2_with (first
    | (refine plan_pure (v := _) (by rfl) (by rfl) (by rfl) (by intro _; go_simp; with_reducible rfl) ?_; simp only [List.setIfInBounds_toArray, List.set_cons_zero, List.set_cons_succ]; try go_bits) | (refine plan_read (v := _) (by rfl) (by rfl) (by rfl) (by go_simp; with_reducible rfl) ?_; simp only [List.setIfInBounds_toArray, List.set_cons_zero, List.set_cons_succ]; try go_bits) | (refine plan_readB (v := _) (by rfl) (by rfl) (by rfl) (by intro _ hag; unfold Agree at hag; go_simp; with_reducible rfl) ?_; simp only [List.setIfInBounds_toArray, List.set_cons_zero, List.set_cons_succ]; try go_bits) | (refine plan_skip0 (by rfl) (by rfl) (by rfl) ?_; simp only [List.setIfInBounds_toArray, List.set_cons_zero, List.set_cons_succ]; try go_bits) | (refine plan_skip1 (by rfl) (by rfl) (by rfl) ?_; simp only [List.setIfInBounds_toArray, List.set_cons_zero, List.set_cons_succ]; try go_bits) | (refine plan_skip2 (by rfl) (by rfl) (by rfl) ?_; simp only [List.setIfInBounds_toArray, List.set_cons_zero, List.set_cons_succ]; try go_bits) | (refine plan_skip4 (by rfl) (by rfl) (by rfl) ?_; simp only [List.setIfInBounds_toArray, List.set_cons_zero, List.set_cons_succ]; try go_bits) | (refine plan_any (by rfl) ?_) | (refine plan_keep (by rfl) ?_) | (refine plan_nil ?_) | (with_reducible refine And.intro (by first | assumption | exact Agree.refl _ _ | exact agree_drew _ _ | exact agree_alloc _ (by intro k hk; subst hk; first | omega | (simp; omega))) ?_) | (unfold Act.put; simp only [List.setIfInBounds_toArray, List.set_cons_zero, List.set_cons_succ]))
  go_ret
  exact ⟨rfl, (Below.refl _ _).drew⟩

def txCells (l : List ByteArray) : List Value := l.map Value.string
set_option maxRecDepth 100000 in
set_option maxHeartbeats 2000000 in
theorem take_any (w : World) (b : Nat) (e : Int) (v : Value) (ws : List WV) (h : IsCur w b 0 e v ws) (tv : Value) (ts : List ByteArray) (ht : Sl w (fun q => q ≠ b) 1 tv ts.length (txCells ts)) (hts : ts.length ≤ ws.length) (hws : ws.length ≤ 100000)
    (hsay : ∀ k (h1 : k < ts.length) (h2 : k < ws.length), (ws[k].kind = 0 ∨ ws[k].kind = 3) ∧ (⟨ws[k].text.toArray⟩ : ByteArray) = ts[k]) :
    Calls Try.prog 11 #[.pointer (some ⟨b, 0, none⟩), tv] w fun e2 w' => e2 = .returned (.bool true) ∧ IsCur w' b ts.length e v ws ∧ Only (fun q => q = b) w w' := by
  obtain ⟨pt, ct, rfl, hct1, hct2⟩ := ht.form
  have HI := Lib.hid h
  have HT := Lib.hid ht
  have HSAY := Lib.hid hsay
  clear h ht hsay
  go_enter Try.func11, Try.ntmps11
  go_wp2
  go_loopw [9] (fun i wr => ∃ k : Nat, i = .int .i64 k ∧ k ≤ ts.length ∧ Below w.heap.size w wr) (fun i _ => ts.length - (intOf i).toNat)
  case atStart => exact ⟨0, rfl, Nat.zero_le _, Below.refl _ _⟩
  case round =>
    obtain ⟨k, rfl, hk, hb⟩ := hrel
    have HB := Lib.hid hb
    by_cases hka : k < ts.length
    · have hkw : k < ws.length := by omega
      obtain ⟨g, off, cap, hv, _, _, _, hlt, hc⟩ := (HT.out.below hb).place (by omega)
      cases hv
      have e0 : wr.cell? ⟨g, off + k, none⟩ = some (.string ts[k]) := by
        rw [hc k (by simpa [txCells] using hka)]
        simp [txCells]
      obtain ⟨hkd, htx⟩ := HSAY.out k hka hkw
      have hlk := look_any wr b 0 e v ws (HI.out.below hb) k k (by omega) hkw hws
      unfold wvAgg at hlk
      rw [htx] at hlk
      have HLK := Lib.hid hlk
      have hsy := fun W : World => says_any W ws[k].kind ts[k] ws[k].n ws[k].at_ hkd
      have HSY := Lib.hid hsy
      clear hlk hsy hc hb htx hkd
      generalize ws[k].kind = kd at *
      generalize ws[k].n = nn at *
      generalize ws[k].at_ = aa at *
      generalize ts[k] = T at *
      go_wp2_with (first
        | (go_at_call 16; refine HLK.out.mono ?_; clear HLK; rintro e3 w3 ⟨rfl, hb3⟩; have HB3 := Lib.hid (HB.out.trans (hb3.mono HB.out.size)); clear hb3)
        | (go_at_call 18; refine (HSY.out _).mono ?_; clear HSY; rintro e4 w4 ⟨rfl, hb4⟩; have HB4 := Lib.hid (HB3.out.trans (hb4.mono HB3.out.size)); clear hb4))
      exact ⟨⟨k + 1, by go_num, by omega, HB4.out⟩, by (simp [intOf]) <;> omega⟩
    · obtain rfl : k = ts.length := by omega
      obtain ⟨h1, h2⟩ := HI.out.below hb
      have k0 := h1.cell 0
      have kf := h1.frozen
      simp only [List.getElem?_cons_zero] at k0
      have HC1 := Lib.hid h1
      have HC2 := Lib.hid h2
      clear hb h1 h2
      go_wp2
      go_ret
      refine ⟨rfl, ⟨?_, ?_⟩, ((Only.of_none (S := fun q => q = b) HB.out).setCell (p := ⟨b, 0, none⟩) (fun _ => rfl) _)⟩
      · exact HC1.out.set 0 _
      · exact HC2.out.only ((Only.refl (fun q => q = b) wr).setCell (p := ⟨b, 0, none⟩) (fun _ => rfl) _) (fun q hq h => hq h)
end Go.Proofs.Ytjbocnofkaffjaa
