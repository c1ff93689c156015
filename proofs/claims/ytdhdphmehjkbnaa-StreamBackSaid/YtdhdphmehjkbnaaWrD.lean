/- The writer: one value. -/
import Derived.Test.YtdhdphmehjkbnaaWrC
namespace Go.Proofs.Ytdhdphmehjkbnaa
open Go.RowKit Go.Afx

theorem int_val (w : World) (n : Int) : Calls Try.prog 98 #[.int .i64 n] w fun e w' => e = .returned (.agg #[.int .i64 1, .int .i64 n, .string ⟨#[]⟩]) ∧ Below w.heap.size w w' := by
  go_enter Try.func98, Try.ntmps98
  go_wp2
  refine bodyPost_ret (v := .agg #[.int .i64 1, .int .i64 n, .string ⟨#[]⟩]) (by simp [results, Try.results98, go_sem]) rfl ⟨rfl, ?_⟩
  exact (Below.refl _ _).alloc (Nat.le_refl _) _

def AV.zero : AV := ⟨1, 0, ⟨#[]⟩⟩
/-- A right value's bytes. -/
def rightB (v : AV) : List UInt8 := UInt8.ofNat v.kind.toNat :: (if v.kind = 1 then signB v.n else if v.kind = 2 then textB v.s else [UInt8.ofNat v.n.toNat])
def valB (v : AV) : List UInt8 := if v.right then rightB v else rightB AV.zero

theorem Buf.tight {w : World} {t : TypeId} {b : Nat} {F : Nat → Prop} {rest : List Value} {l : List UInt8} (h : Buf w t b F rest l) : Buf w t b (fun k => F k ∧ k < w.heap.size) rest l := by
  obtain ⟨bv, h1, h2, h3, h4⟩ := h
  exact ⟨bv, h1, h2, ⟨h3, h1.lt⟩, fun k hk => ⟨⟨(h4 k hk).1, h2.lt k hk⟩, (h4 k hk).2⟩⟩

theorem lay_drew (w : World) (t : TypeId) (b : Nat) (F : Nat → Prop) (rest : List Value) (l : List UInt8) (hb : Buf w t b F rest l) (x : Nat) (xi : Int) (hx : x < 256) (hxi : xi = (x : Int)) (hlen : l.length ≤ 950000000) :
    Hid (Calls Try.prog 77 #[.pointer (some ⟨b, 0, none⟩), .slice (some ⟨w.heap.size, 0, none⟩) 1 1] ((w.alloc (.cells #[.int .u8 xi] 5)).drew) fun e w' => e = .returned (.tuple #[]) ∧ ∃ F', Buf w' t b F' rest (l ++ [UInt8.ofNat x]) ∧ Only F w w' ∧ ∀ q, F' q → F q ∨ w.heap.size ≤ q) := by
  subst hxi
  have h := lay_one w.drew t b F rest l (hb.below (Below.drew (Below.refl _ _))) x hx hlen
  have h2 : Calls Try.prog 77 #[.pointer (some ⟨b, 0, none⟩), .slice (some ⟨w.heap.size, 0, none⟩) 1 1] ((w.alloc (.cells #[.int .u8 (x : Int)] 5)).drew) _ := h
  refine h2.mono ?_
  rintro e w' ⟨he, F', h3, h4, h5⟩
  exact ⟨he, F', h3, (Only.drew (Only.refl F w)).trans h4 (fun _ _ h => h), h5⟩

set_option maxRecDepth 100000 in
set_option maxHeartbeats 1000000 in
/-- The walk behind the test: a right value in its box. -/
theorem one_wr (w : World) (t : TypeId) (b : Nat) (F : Nat → Prop) (rest : List Value) (l : List UInt8) (hb : Buf w t b F rest l) (v : AV) (hn : fit64 v.n) (hlen : l.length ≤ 90000000) (hs : v.right = true → v.s.size ≤ 1000) :
    Calls Try.prog 78 #[.pointer (some ⟨b, 0, none⟩), v.agg] w fun e w' => e = .returned (.tuple #[]) ∧ ∃ F', Buf w' t b F' rest (l ++ valB v) ∧ Only F w w' ∧ ∀ k, F' k → F k ∨ w.heap.size ≤ k := by
  have HB := Lib.hid hb.tight
  clear hb
  obtain ⟨k, n, s⟩ := v
  have HR : Hid (∀ (w' : World) (p : Option Addr), Sl w' (fun _ => True) 3 (.slice p 1 1) [(⟨k, n, s⟩ : AV)].length (rowCells [⟨k, n, s⟩]) → Calls Try.prog 97 #[.slice p 1 1] w' fun e w2 => e = .returned (.bool (rightAll [⟨k, n, s⟩])) ∧ Below w'.heap.size w' w2) := fun w' p h => right_any w' _ _ [⟨k, n, s⟩] h (by simp)
  have era : rightAll [⟨k, n, s⟩] = (⟨k, n, s⟩ : AV).right := by simp [rightAll]
  rw [era] at HR
  have HSL : Hid (∀ w' : World, Sl (w'.alloc (.cells #[.int .i64 k, .int .i64 n, .string s] 56)) (fun _ => True) 3 (.slice (some ⟨w'.heap.size, 0, none⟩) 1 1) [(⟨k, n, s⟩ : AV)].length (rowCells [⟨k, n, s⟩])) := fun w' =>
    (Own.made w' 56 3 (rowCells [⟨k, n, s⟩]) [] 1 1 rfl (by intro u hu; simp [rowCells, AV.cells] at hu; rcases hu with rfl | rfl | rfl <;> rfl) (Nat.le_refl _) (by simp [maxLen]) (by simp [rowCells, AV.cells])).sl (fun _ _ => trivial)
  generalize hvr : (⟨k, n, s⟩ : AV).right = r at *
  simp only [AV.agg]
  have HVR := Lib.hid hvr
  have hb0 := Blk.new w 56 [.int .i64 k, .int .i64 n, .string s]
  have hbw : Below w.heap.size w (w.alloc (.cells #[.int .i64 k, .int .i64 n, .string s] 56)) := (Below.refl _ _).alloc (Nat.le_refl _) _
  have hsz : (w.alloc (.cells #[.int .i64 k, .int .i64 n, .string s] 56)).heap.size = w.heap.size + 1 := by simp
  clear hvr era
  go_enter Try.func78, Try.ntmps78
  go_wp2_with fail
  have hw2b : Below w.heap.size w ((w.alloc (.cells #[.int .i64 k, .int .i64 n, .string s] 56)).alloc (.cells #[.int .i64 k, .int .i64 n, .string s] 56)) := hbw.alloc (by omega) _
  have hb1 := hb0.alloc (.cells #[.int .i64 k, .int .i64 n, .string s] 56)
  have hc := HR.out _ _ (HSL.out (w.alloc (.cells #[.int .i64 k, .int .i64 n, .string s] 56)))
  rw [hsz] at hc
  refine hc.mono ?_
  clear hc
  rintro e w2 ⟨rfl, hb2⟩
  have hbw2 : Below w.heap.size w w2 := hw2b.trans (hb2.mono (by simp; omega))
  have hk2 := hb1.below hb2
  have hlx : w.heap.size < w2.heap.size := by have := hb2.size; simp at this; omega
  have HBX := Lib.hid (HB.out.below hbw2)
  have HK2 := Lib.hid hk2
  have HBW2 := Lib.hid hbw2
  clear hw2b hb1 hb0 hbw hsz hb2 hk2 hbw2 HR HSL
  cases r
  · have z0 : w2.cell? ⟨w.heap.size, 0, none⟩ = some (.int .i64 k) := HK2.out.cell 0
    have z1 : w2.cell? ⟨w.heap.size, 1, none⟩ = some (.int .i64 n) := HK2.out.cell 1
    have z2 : w2.cell? ⟨w.heap.size, 2, none⟩ = some (.string s) := HK2.out.cell 2
    go_wp2_with fail
    refine (int_val w2 0).mono ?_
    rintro e w3 ⟨rfl, hb3⟩
    have hk3 := HK2.out.below hb3
    have z0' : w3.cell? ⟨w.heap.size, 0, none⟩ = some (.int .i64 k) := hk3.cell 0
    have z1' : w3.cell? ⟨w.heap.size, 1, none⟩ = some (.int .i64 n) := hk3.cell 1
    have z2' : w3.cell? ⟨w.heap.size, 2, none⟩ = some (.string s) := hk3.cell 2
    have zf : ∀ i, w3.frozen? ⟨w.heap.size, i, none⟩ = false := hk3.frozen
    have hk4 : Blk (((w3.setCell ⟨w.heap.size, 0, none⟩ (.int .i64 1)).setCell ⟨w.heap.size, 1, none⟩ (.int .i64 0)).setCell ⟨w.heap.size, 2, none⟩ (.string ⟨#[]⟩)) w.heap.size 56 [.int .i64 1, .int .i64 0, .string ⟨#[]⟩] := ((hk3.set 0 (.int .i64 1)).set 1 (.int .i64 0)).set 2 (.string ⟨#[]⟩)
    have hb24 : Below w.heap.size w (((w3.setCell ⟨w.heap.size, 0, none⟩ (.int .i64 1)).setCell ⟨w.heap.size, 1, none⟩ (.int .i64 0)).setCell ⟨w.heap.size, 2, none⟩ (.string ⟨#[]⟩)) :=
      (((HBW2.out.trans (hb3.mono HBW2.out.size)).setCell (Nat.le_refl _) _).setCell (Nat.le_refl _) _).setCell (Nat.le_refl _) _
    have hlx4 : w.heap.size < (((w3.setCell ⟨w.heap.size, 0, none⟩ (.int .i64 1)).setCell ⟨w.heap.size, 1, none⟩ (.int .i64 0)).setCell ⟨w.heap.size, 2, none⟩ (.string ⟨#[]⟩)).heap.size := hk4.lt
    have HBX4 := Lib.hid (HB.out.below hb24)
    have HK4 := Lib.hid hk4
    have HBW4 := Lib.hid hb24
    clear z0 z1 z2 hb3 hk3 hk4 hb24
    generalize hw4 : (((w3.setCell ⟨w.heap.size, 0, none⟩ (.int .i64 1)).setCell ⟨w.heap.size, 1, none⟩ (.int .i64 0)).setCell ⟨w.heap.size, 2, none⟩ (.string ⟨#[]⟩)) = w4 at *
    go_wp2_with (first | rw [hw4])
    clear z0' z1' z2' zf hw4
    have HL3 : Hid (Calls Try.prog 77 #[.pointer (some ⟨b, 0, none⟩), .slice (some ⟨w4.heap.size, 0, none⟩) 1 1] ((w4.alloc (.cells #[.int .u8 1] 5)).drew) fun e w' => e = .returned (.tuple #[]) ∧ ∃ F', Buf w' t b F' rest (l ++ [UInt8.ofNat 1]) ∧ Only (fun q => F q ∧ q < w.heap.size) w4 w' ∧ ∀ q, F' q → (fun q => F q ∧ q < w.heap.size) q ∨ w4.heap.size ≤ q) := lay_drew w4 t b (fun q => F q ∧ q < w.heap.size) rest l HBX4.out 1 1 (by omega) rfl (by omega)
    have hag0 : Agree (fun q => q = w.heap.size) w4.drew ((w4.alloc (.cells #[.int .u8 1] 5)).drew) := agree_alloc (w := w4) _ (by intro q hq; subst hq; exact hlx4)
    have x0 : w4.cell? ⟨w.heap.size, 0, none⟩ = some (.int .i64 1) := HK4.out.cell 0
    refine wp_region_lit_plan [] [(0, 0), (1, 0), (2, 0), (3, 0), (4, 1), (5, 0), (6, 4), (7, 4)] (fun q => q = w.heap.size) (by kernel_rfl) (by kernel_rfl) (fun c a d v w h => by cases d <;> exact h) ?_
    go_wp2_with (first
      | (refine plan_pure (v := _) (by rfl) (by rfl) (by rfl) (by intro _; go_simp; with_reducible rfl) ?_; simp only [List.setIfInBounds_toArray, List.set_cons_zero, List.set_cons_succ]; try go_bits) | (refine plan_read (v := _) (by rfl) (by rfl) (by rfl) (by go_simp; with_reducible rfl) ?_; simp only [List.setIfInBounds_toArray, List.set_cons_zero, List.set_cons_succ]; try go_bits) | (refine plan_readB (v := _) (by rfl) (by rfl) (by rfl) (by intro _ hag; unfold Agree at hag; go_simp; with_reducible rfl) ?_; simp only [List.setIfInBounds_toArray, List.set_cons_zero, List.set_cons_succ]; try go_bits) | (refine plan_skip0 (by rfl) (by rfl) (by rfl) ?_; simp only [List.setIfInBounds_toArray, List.set_cons_zero, List.set_cons_succ]; try go_bits) | (refine plan_skip1 (by rfl) (by rfl) (by rfl) ?_; simp only [List.setIfInBounds_toArray, List.set_cons_zero, List.set_cons_succ]; try go_bits) | (refine plan_skip2 (by rfl) (by rfl) (by rfl) ?_; simp only [List.setIfInBounds_toArray, List.set_cons_zero, List.set_cons_succ]; try go_bits) | (refine plan_skip4 (by rfl) (by rfl) (by rfl) ?_; simp only [List.setIfInBounds_toArray, List.set_cons_zero, List.set_cons_succ]; try go_bits) | (refine plan_any (by rfl) ?_) | (refine plan_keep (by rfl) ?_) | (refine plan_nil ?_) | (with_reducible refine And.intro (by first | assumption | exact Agree.refl _ _ | exact agree_drew _ _ | exact agree_alloc _ (by intro k hk; subst hk; first | omega | (simp; omega))) ?_) | (unfold Act.put; simp only [List.setIfInBounds_toArray, List.set_cons_zero, List.set_cons_succ])
      | (go_at_call 77; refine HL3.out.mono ?_; clear HL3; rintro e w5 ⟨rfl, F5, h51, h52, h53⟩;
         have HK5 := Lib.hid (HK4.out.only h52 (fun h => Nat.lt_irrefl _ h.2));
         have y0 : w5.cell? ⟨w.heap.size, 0, none⟩ = some (.int .i64 1) := HK5.out.cell 0; have y1 : w5.cell? ⟨w.heap.size, 1, none⟩ = some (.int .i64 0) := HK5.out.cell 1; have y2 : w5.cell? ⟨w.heap.size, 2, none⟩ = some (.string ⟨#[]⟩) := HK5.out.cell 2;
         have H51 := Lib.hid h51.tight; have H52 := Lib.hid h52; have H53 := Lib.hid h53; clear h51 h52 h53))
    have hw6 : Below w5.heap.size w5 (w5.alloc (.cells #[.int .i64 0] 2)) := (Below.refl _ _).alloc (Nat.le_refl _) _
    have hsl6 : Sl (w5.alloc (.cells #[.int .i64 0] 2)) (fun q => ¬ (F5 q ∧ q < w5.heap.size)) 1 (.slice (some ⟨w5.heap.size, 0, none⟩) 1 1) [0].length (ints [0]) :=
      (Own.made w5 2 1 (ints [0]) [] 1 1 rfl (Ones.nil.cons rfl) (Nat.le_refl _) (by simp [maxLen]) (by simp [ints])).sl (fun q hq h => absurd h.2 (Nat.not_lt_of_le (Nat.le_of_eq (show w5.heap.size = q by simpa [Value.ownBlock] using hq))))
    have HS6 := Lib.hid (signed_wr (w5.alloc (.cells #[.int .i64 0] 2)) t b _ rest _ (H51.out.below hw6) _ [0] hsl6 (by intro q hq; rw [List.mem_singleton.1 hq]; unfold fit64; omega) (by simp; omega) (by simp))
    clear hw6 hsl6
    go_wp2_with (go_at_call 35; refine HS6.out.mono ?_; clear HS6; rintro e w7 ⟨rfl, F7, h71, h72, h73⟩)
    go_end0
    have ho5 : Only (fun q => F q ∧ q < w.heap.size) w w5 := (Only.of_none HBW4.out).trans H52.out (fun _ _ h => h)
    have ho6 : Only (fun q => F q ∧ q < w.heap.size) w (w5.alloc (.cells #[.int .i64 0] 2)) := ho5.alloc _
    have ho7 : Only (fun q => F q ∧ q < w.heap.size) w w7 := ho6.trans h72 (fun q hq h => by
      rcases H53.out q h.1 with h2 | h2
      · exact h2
      · exact absurd (Nat.lt_of_lt_of_le hq HBW4.out.size) (by omega))
    refine ⟨rfl, F7, ?_, ho7.mono (fun q _ h => h.1), fun q hq => ?_⟩
    · have e1 : valB ⟨k, n, s⟩ = [UInt8.ofNat 1] ++ laid signB [0] := by unfold valB; rw [if_neg (by rw [HVR.out]; decide)]; simp [rightB, laid, AV.zero]
      rw [e1, ← List.append_assoc]; exact h71
    · rcases h73 q hq with h | h
      · rcases H53.out q h.1 with h2 | h2
        · exact .inl h2.1
        · exact .inr (Nat.le_trans HBW4.out.size h2)
      · exact .inr (Nat.le_trans ho6.size h)
  · have hcase : k = 1 ∨ (k = 2 ∧ n = 0) ∨ (k = 3 ∧ (n = 0 ∨ n = 1)) := by
      have := HVR.out
      simp [AV.right] at this
      omega
    rcases hcase with rfl | ⟨rfl, rfl⟩ | ⟨rfl, hn01⟩
    · go_wp2
      have HL3 : Hid (Calls Try.prog 77 #[.pointer (some ⟨b, 0, none⟩), .slice (some ⟨w2.heap.size, 0, none⟩) 1 1] ((w2.alloc (.cells #[.int .u8 1] 5)).drew) fun e w' => e = .returned (.tuple #[]) ∧ ∃ F', Buf w' t b F' rest (l ++ [UInt8.ofNat 1]) ∧ Only (fun q => F q ∧ q < w.heap.size) w2 w' ∧ ∀ q, F' q → (fun q => F q ∧ q < w.heap.size) q ∨ w2.heap.size ≤ q) := lay_drew w2 t b (fun q => F q ∧ q < w.heap.size) rest l HBX.out 1 1 (by omega) rfl (by omega)
      have hag0 : Agree (fun q => q = w.heap.size) w2.drew ((w2.alloc (.cells #[.int .u8 1] 5)).drew) := agree_alloc (w := w2) _ (by intro q hq; subst hq; exact hlx)
      have x0 : w2.cell? ⟨w.heap.size, 0, none⟩ = some (.int .i64 1) := HK2.out.cell 0
      refine wp_region_lit_plan [] [(0, 0), (1, 0), (2, 0), (3, 0), (4, 1), (5, 0), (6, 4), (7, 4)] (fun q => q = w.heap.size) (by kernel_rfl) (by kernel_rfl) (fun c a d v w h => by cases d <;> exact h) ?_
      go_wp2_with (first
        | (refine plan_pure (v := _) (by rfl) (by rfl) (by rfl) (by intro _; go_simp; with_reducible rfl) ?_; simp only [List.setIfInBounds_toArray, List.set_cons_zero, List.set_cons_succ]; try go_bits) | (refine plan_read (v := _) (by rfl) (by rfl) (by rfl) (by go_simp; with_reducible rfl) ?_; simp only [List.setIfInBounds_toArray, List.set_cons_zero, List.set_cons_succ]; try go_bits) | (refine plan_readB (v := _) (by rfl) (by rfl) (by rfl) (by intro _ hag; unfold Agree at hag; go_simp; with_reducible rfl) ?_; simp only [List.setIfInBounds_toArray, List.set_cons_zero, List.set_cons_succ]; try go_bits) | (refine plan_skip0 (by rfl) (by rfl) (by rfl) ?_; simp only [List.setIfInBounds_toArray, List.set_cons_zero, List.set_cons_succ]; try go_bits) | (refine plan_skip1 (by rfl) (by rfl) (by rfl) ?_; simp only [List.setIfInBounds_toArray, List.set_cons_zero, List.set_cons_succ]; try go_bits) | (refine plan_skip2 (by rfl) (by rfl) (by rfl) ?_; simp only [List.setIfInBounds_toArray, List.set_cons_zero, List.set_cons_succ]; try go_bits) | (refine plan_skip4 (by rfl) (by rfl) (by rfl) ?_; simp only [List.setIfInBounds_toArray, List.set_cons_zero, List.set_cons_succ]; try go_bits) | (refine plan_any (by rfl) ?_) | (refine plan_keep (by rfl) ?_) | (refine plan_nil ?_) | (with_reducible refine And.intro (by first | assumption | exact Agree.refl _ _ | exact agree_drew _ _ | exact agree_alloc _ (by intro k hk; subst hk; first | omega | (simp; omega))) ?_) | (unfold Act.put; simp only [List.setIfInBounds_toArray, List.set_cons_zero, List.set_cons_succ])
        | (go_at_call 77; refine HL3.out.mono ?_; clear HL3; rintro e w5 ⟨rfl, F5, h51, h52, h53⟩;
           have HK5 := Lib.hid (HK2.out.only h52 (fun h => Nat.lt_irrefl _ h.2));
           have y0 : w5.cell? ⟨w.heap.size, 0, none⟩ = some (.int .i64 1) := HK5.out.cell 0; have y1 : w5.cell? ⟨w.heap.size, 1, none⟩ = some (.int .i64 n) := HK5.out.cell 1; have y2 : w5.cell? ⟨w.heap.size, 2, none⟩ = some (.string s) := HK5.out.cell 2;
           have H51 := Lib.hid h51.tight; have H52 := Lib.hid h52; have H53 := Lib.hid h53; clear h51 h52 h53))
      have hw6 : Below w5.heap.size w5 (w5.alloc (.cells #[.int .i64 n] 2)) := (Below.refl _ _).alloc (Nat.le_refl _) _
      have hsl6 : Sl (w5.alloc (.cells #[.int .i64 n] 2)) (fun q => ¬ (F5 q ∧ q < w5.heap.size)) 1 (.slice (some ⟨w5.heap.size, 0, none⟩) 1 1) [n].length (ints [n]) :=
        (Own.made w5 2 1 (ints [n]) [] 1 1 rfl (Ones.nil.cons rfl) (Nat.le_refl _) (by simp [maxLen]) (by simp [ints])).sl (fun q hq h => absurd h.2 (Nat.not_lt_of_le (Nat.le_of_eq (show w5.heap.size = q by simpa [Value.ownBlock] using hq))))
      have HS6 := Lib.hid (signed_wr (w5.alloc (.cells #[.int .i64 n] 2)) t b _ rest _ (H51.out.below hw6) _ [n] hsl6 (by intro q hq; rw [List.mem_singleton.1 hq]; exact hn) (by simp; omega) (by simp))
      clear hw6 hsl6
      go_wp2_with (go_at_call 35; refine HS6.out.mono ?_; clear HS6; rintro e w7 ⟨rfl, F7, h71, h72, h73⟩)
      go_end0
      have ho5 : Only (fun q => F q ∧ q < w.heap.size) w w5 := (Only.of_none HBW2.out).trans H52.out (fun _ _ h => h)
      have ho6 : Only (fun q => F q ∧ q < w.heap.size) w (w5.alloc (.cells #[.int .i64 n] 2)) := ho5.alloc _
      have ho7 : Only (fun q => F q ∧ q < w.heap.size) w w7 := ho6.trans h72 (fun q hq h => by
        rcases H53.out q h.1 with h2 | h2
        · exact h2
        · exact absurd (Nat.lt_of_lt_of_le hq HBW2.out.size) (by omega))
      refine ⟨rfl, F7, ?_, ho7.mono (fun q _ h => h.1), fun q hq => ?_⟩
      · have e1 : valB ⟨1, n, s⟩ = [UInt8.ofNat 1] ++ laid signB [n] := by unfold valB; rw [if_pos HVR.out]; simp [rightB, laid]
        rw [e1, ← List.append_assoc]; exact h71
      · rcases h73 q hq with h | h
        · rcases H53.out q h.1 with h2 | h2
          · exact .inl h2.1
          · exact .inr (Nat.le_trans HBW2.out.size h2)
        · exact .inr (Nat.le_trans ho6.size h)
    · go_wp2
      have HL3 : Hid (Calls Try.prog 77 #[.pointer (some ⟨b, 0, none⟩), .slice (some ⟨w2.heap.size, 0, none⟩) 1 1] ((w2.alloc (.cells #[.int .u8 2] 5)).drew) fun e w' => e = .returned (.tuple #[]) ∧ ∃ F', Buf w' t b F' rest (l ++ [UInt8.ofNat 2]) ∧ Only (fun q => F q ∧ q < w.heap.size) w2 w' ∧ ∀ q, F' q → (fun q => F q ∧ q < w.heap.size) q ∨ w2.heap.size ≤ q) := lay_drew w2 t b (fun q => F q ∧ q < w.heap.size) rest l HBX.out 2 2 (by omega) rfl (by omega)
      have hag0 : Agree (fun q => q = w.heap.size) w2.drew ((w2.alloc (.cells #[.int .u8 2] 5)).drew) := agree_alloc (w := w2) _ (by intro q hq; subst hq; exact hlx)
      have x0 : w2.cell? ⟨w.heap.size, 0, none⟩ = some (.int .i64 2) := HK2.out.cell 0
      refine wp_region_lit_plan [] [(0, 0), (1, 0), (2, 0), (3, 0), (4, 1), (5, 0), (6, 4), (7, 4)] (fun q => q = w.heap.size) (by kernel_rfl) (by kernel_rfl) (fun c a d v w h => by cases d <;> exact h) ?_
      go_wp2_with (first
        | (refine plan_pure (v := _) (by rfl) (by rfl) (by rfl) (by intro _; go_simp; with_reducible rfl) ?_; simp only [List.setIfInBounds_toArray, List.set_cons_zero, List.set_cons_succ]; try go_bits) | (refine plan_read (v := _) (by rfl) (by rfl) (by rfl) (by go_simp; with_reducible rfl) ?_; simp only [List.setIfInBounds_toArray, List.set_cons_zero, List.set_cons_succ]; try go_bits) | (refine plan_readB (v := _) (by rfl) (by rfl) (by rfl) (by intro _ hag; unfold Agree at hag; go_simp; with_reducible rfl) ?_; simp only [List.setIfInBounds_toArray, List.set_cons_zero, List.set_cons_succ]; try go_bits) | (refine plan_skip0 (by rfl) (by rfl) (by rfl) ?_; simp only [List.setIfInBounds_toArray, List.set_cons_zero, List.set_cons_succ]; try go_bits) | (refine plan_skip1 (by rfl) (by rfl) (by rfl) ?_; simp only [List.setIfInBounds_toArray, List.set_cons_zero, List.set_cons_succ]; try go_bits) | (refine plan_skip2 (by rfl) (by rfl) (by rfl) ?_; simp only [List.setIfInBounds_toArray, List.set_cons_zero, List.set_cons_succ]; try go_bits) | (refine plan_skip4 (by rfl) (by rfl) (by rfl) ?_; simp only [List.setIfInBounds_toArray, List.set_cons_zero, List.set_cons_succ]; try go_bits) | (refine plan_any (by rfl) ?_) | (refine plan_keep (by rfl) ?_) | (refine plan_nil ?_) | (with_reducible refine And.intro (by first | assumption | exact Agree.refl _ _ | exact agree_drew _ _ | exact agree_alloc _ (by intro k hk; subst hk; first | omega | (simp; omega))) ?_) | (unfold Act.put; simp only [List.setIfInBounds_toArray, List.set_cons_zero, List.set_cons_succ])
        | (go_at_call 77; refine HL3.out.mono ?_; clear HL3; rintro e w5 ⟨rfl, F5, h51, h52, h53⟩;
           have HK5 := Lib.hid (HK2.out.only h52 (fun h => Nat.lt_irrefl _ h.2));
           have y0 : w5.cell? ⟨w.heap.size, 0, none⟩ = some (.int .i64 2) := HK5.out.cell 0; have y1 : w5.cell? ⟨w.heap.size, 1, none⟩ = some (.int .i64 0) := HK5.out.cell 1; have y2 : w5.cell? ⟨w.heap.size, 2, none⟩ = some (.string s) := HK5.out.cell 2;
           have H51 := Lib.hid h51.tight; have H52 := Lib.hid h52; have H53 := Lib.hid h53; clear h51 h52 h53))
      have hw6 : Below w5.heap.size w5 (w5.alloc (.cells #[.string s] 9)) := (Below.refl _ _).alloc (Nat.le_refl _) _
      have hsl6 : Sl (w5.alloc (.cells #[.string s] 9)) (fun q => ¬ (F5 q ∧ q < w5.heap.size)) 1 (.slice (some ⟨w5.heap.size, 0, none⟩) 1 1) [s].length (strs [s]) :=
        (Own.made w5 9 1 (strs [s]) [] 1 1 rfl (Ones.nil.cons rfl) (Nat.le_refl _) (by simp [maxLen]) (by simp [strs])).sl (fun q hq h => absurd h.2 (Nat.not_lt_of_le (Nat.le_of_eq (show w5.heap.size = q by simpa [Value.ownBlock] using hq))))
      have HS6 := Lib.hid (text_wr (w5.alloc (.cells #[.string s] 9)) t b _ rest _ (H51.out.below hw6) _ [s] hsl6 (by intro q hq; rw [List.mem_singleton.1 hq]; first | exact hs HVR.out | exact hs trivial) (by simp; omega) (by simp))
      clear hw6 hsl6
      go_wp2_with (go_at_call 36; refine HS6.out.mono ?_; clear HS6; rintro e w7 ⟨rfl, F7, h71, h72, h73⟩)
      go_end0
      have ho5 : Only (fun q => F q ∧ q < w.heap.size) w w5 := (Only.of_none HBW2.out).trans H52.out (fun _ _ h => h)
      have ho6 : Only (fun q => F q ∧ q < w.heap.size) w (w5.alloc (.cells #[.string s] 9)) := ho5.alloc _
      have ho7 : Only (fun q => F q ∧ q < w.heap.size) w w7 := ho6.trans h72 (fun q hq h => by
        rcases H53.out q h.1 with h2 | h2
        · exact h2
        · exact absurd (Nat.lt_of_lt_of_le hq HBW2.out.size) (by omega))
      refine ⟨rfl, F7, ?_, ho7.mono (fun q _ h => h.1), fun q hq => ?_⟩
      · have e1 : valB ⟨2, 0, s⟩ = [UInt8.ofNat 2] ++ laid textB [s] := by unfold valB; rw [if_pos HVR.out]; simp [rightB, laid]
        rw [e1, ← List.append_assoc]; exact h71
      · rcases h73 q hq with h | h
        · rcases H53.out q h.1 with h2 | h2
          · exact .inl h2.1
          · exact .inr (Nat.le_trans HBW2.out.size h2)
        · exact .inr (Nat.le_trans ho6.size h)
    · rcases hn01 with rfl | rfl
      · go_wp2
        have HL3 : Hid (Calls Try.prog 77 #[.pointer (some ⟨b, 0, none⟩), .slice (some ⟨w2.heap.size, 0, none⟩) 1 1] ((w2.alloc (.cells #[.int .u8 3] 5)).drew) fun e w' => e = .returned (.tuple #[]) ∧ ∃ F', Buf w' t b F' rest (l ++ [UInt8.ofNat 3]) ∧ Only (fun q => F q ∧ q < w.heap.size) w2 w' ∧ ∀ q, F' q → (fun q => F q ∧ q < w.heap.size) q ∨ w2.heap.size ≤ q) := lay_drew w2 t b (fun q => F q ∧ q < w.heap.size) rest l HBX.out 3 3 (by omega) rfl (by omega)
        have hag0 : Agree (fun q => q = w.heap.size) w2.drew ((w2.alloc (.cells #[.int .u8 3] 5)).drew) := agree_alloc (w := w2) _ (by intro q hq; subst hq; exact hlx)
        have x0 : w2.cell? ⟨w.heap.size, 0, none⟩ = some (.int .i64 3) := HK2.out.cell 0
        refine wp_region_lit_plan [] [(0, 0), (1, 0), (2, 0), (3, 0), (4, 1), (5, 0), (6, 4), (7, 4)] (fun q => q = w.heap.size) (by kernel_rfl) (by kernel_rfl) (fun c a d v w h => by cases d <;> exact h) ?_
        go_wp2_with (first
          | (refine plan_pure (v := _) (by rfl) (by rfl) (by rfl) (by intro _; go_simp; with_reducible rfl) ?_; simp only [List.setIfInBounds_toArray, List.set_cons_zero, List.set_cons_succ]; try go_bits) | (refine plan_read (v := _) (by rfl) (by rfl) (by rfl) (by go_simp; with_reducible rfl) ?_; simp only [List.setIfInBounds_toArray, List.set_cons_zero, List.set_cons_succ]; try go_bits) | (refine plan_readB (v := _) (by rfl) (by rfl) (by rfl) (by intro _ hag; unfold Agree at hag; go_simp; with_reducible rfl) ?_; simp only [List.setIfInBounds_toArray, List.set_cons_zero, List.set_cons_succ]; try go_bits) | (refine plan_skip0 (by rfl) (by rfl) (by rfl) ?_; simp only [List.setIfInBounds_toArray, List.set_cons_zero, List.set_cons_succ]; try go_bits) | (refine plan_skip1 (by rfl) (by rfl) (by rfl) ?_; simp only [List.setIfInBounds_toArray, List.set_cons_zero, List.set_cons_succ]; try go_bits) | (refine plan_skip2 (by rfl) (by rfl) (by rfl) ?_; simp only [List.setIfInBounds_toArray, List.set_cons_zero, List.set_cons_succ]; try go_bits) | (refine plan_skip4 (by rfl) (by rfl) (by rfl) ?_; simp only [List.setIfInBounds_toArray, List.set_cons_zero, List.set_cons_succ]; try go_bits) | (refine plan_any (by rfl) ?_) | (refine plan_keep (by rfl) ?_) | (refine plan_nil ?_) | (with_reducible refine And.intro (by first | assumption | exact Agree.refl _ _ | exact agree_drew _ _ | exact agree_alloc _ (by intro k hk; subst hk; first | omega | (simp; omega))) ?_) | (unfold Act.put; simp only [List.setIfInBounds_toArray, List.set_cons_zero, List.set_cons_succ])
          | (go_at_call 77; refine HL3.out.mono ?_; clear HL3; rintro e w5 ⟨rfl, F5, h51, h52, h53⟩;
             have HK5 := Lib.hid (HK2.out.only h52 (fun h => Nat.lt_irrefl _ h.2));
             have y0 : w5.cell? ⟨w.heap.size, 0, none⟩ = some (.int .i64 3) := HK5.out.cell 0; have y1 : w5.cell? ⟨w.heap.size, 1, none⟩ = some (.int .i64 0) := HK5.out.cell 1; have y2 : w5.cell? ⟨w.heap.size, 2, none⟩ = some (.string s) := HK5.out.cell 2;
             have H51 := Lib.hid h51.tight; have H52 := Lib.hid h52; have H53 := Lib.hid h53; clear h51 h52 h53))
        have HL5 := lay_drew w5 t b _ rest _ H51.out 0 0 (by omega) (by omega) (by simp; omega)
        have hl5 : w.heap.size < w5.heap.size := Nat.lt_of_lt_of_le hlx H52.out.size
        have hag5 : Agree (fun q => q = w.heap.size) w5.drew ((w5.alloc (.cells #[.int .u8 0] 5)).drew) := agree_alloc (w := w5) _ (by intro q hq; subst hq; exact hl5)
        go_wp2
        refine wp_region_lit_plan [] [(0, 0), (1, 0), (2, 0), (3, 0), (4, 1), (5, 0), (6, 4), (7, 4)] (fun q => q = w.heap.size) (by kernel_rfl) (by kernel_rfl) (fun c a d v w h => by cases d <;> exact h) ?_
        go_wp2_with (first
          | (refine plan_pure (v := _) (by rfl) (by rfl) (by rfl) (by intro _; go_simp; with_reducible rfl) ?_; simp only [List.setIfInBounds_toArray, List.set_cons_zero, List.set_cons_succ]; try go_bits) | (refine plan_read (v := _) (by rfl) (by rfl) (by rfl) (by go_simp; with_reducible rfl) ?_; simp only [List.setIfInBounds_toArray, List.set_cons_zero, List.set_cons_succ]; try go_bits) | (refine plan_readB (v := _) (by rfl) (by rfl) (by rfl) (by intro _ hag; unfold Agree at hag; go_simp; with_reducible rfl) ?_; simp only [List.setIfInBounds_toArray, List.set_cons_zero, List.set_cons_succ]; try go_bits) | (refine plan_skip0 (by rfl) (by rfl) (by rfl) ?_; simp only [List.setIfInBounds_toArray, List.set_cons_zero, List.set_cons_succ]; try go_bits) | (refine plan_skip1 (by rfl) (by rfl) (by rfl) ?_; simp only [List.setIfInBounds_toArray, List.set_cons_zero, List.set_cons_succ]; try go_bits) | (refine plan_skip2 (by rfl) (by rfl) (by rfl) ?_; simp only [List.setIfInBounds_toArray, List.set_cons_zero, List.set_cons_succ]; try go_bits) | (refine plan_skip4 (by rfl) (by rfl) (by rfl) ?_; simp only [List.setIfInBounds_toArray, List.set_cons_zero, List.set_cons_succ]; try go_bits) | (refine plan_any (by rfl) ?_) | (refine plan_keep (by rfl) ?_) | (refine plan_nil ?_) | (with_reducible refine And.intro (by first | assumption | exact Agree.refl _ _ | exact agree_drew _ _ | exact agree_alloc _ (by intro k hk; subst hk; first | omega | (simp; omega))) ?_) | (unfold Act.put; simp only [List.setIfInBounds_toArray, List.set_cons_zero, List.set_cons_succ])
          | (go_at_call 77; refine HL5.out.mono ?_; clear HL5; rintro e w7 ⟨rfl, F7, h71, h72, h73⟩))
        go_end0
        have ho5 : Only (fun q => F q ∧ q < w.heap.size) w w5 := (Only.of_none HBW2.out).trans H52.out (fun _ _ h => h)
        have ho7 : Only (fun q => F q ∧ q < w.heap.size) w w7 := ho5.trans h72 (fun q hq h => by
          rcases H53.out q h.1 with h2 | h2
          · exact h2
          · exact absurd (Nat.lt_of_lt_of_le hq HBW2.out.size) (by omega))
        refine ⟨rfl, F7, ?_, ho7.mono (fun q _ h => h.1), fun q hq => ?_⟩
        · have e1 : valB ⟨3, 0, s⟩ = [UInt8.ofNat 3] ++ [UInt8.ofNat 0] := by unfold valB; rw [if_pos HVR.out]; simp [rightB]
          rw [e1, ← List.append_assoc]; exact h71
        · rcases h73 q hq with h | h
          · rcases H53.out q h.1 with h2 | h2
            · exact .inl h2.1
            · exact .inr (Nat.le_trans HBW2.out.size h2)
          · exact .inr (Nat.le_trans ho5.size h)
      · go_wp2
        have HL3 : Hid (Calls Try.prog 77 #[.pointer (some ⟨b, 0, none⟩), .slice (some ⟨w2.heap.size, 0, none⟩) 1 1] ((w2.alloc (.cells #[.int .u8 3] 5)).drew) fun e w' => e = .returned (.tuple #[]) ∧ ∃ F', Buf w' t b F' rest (l ++ [UInt8.ofNat 3]) ∧ Only (fun q => F q ∧ q < w.heap.size) w2 w' ∧ ∀ q, F' q → (fun q => F q ∧ q < w.heap.size) q ∨ w2.heap.size ≤ q) := lay_drew w2 t b (fun q => F q ∧ q < w.heap.size) rest l HBX.out 3 3 (by omega) rfl (by omega)
        have hag0 : Agree (fun q => q = w.heap.size) w2.drew ((w2.alloc (.cells #[.int .u8 3] 5)).drew) := agree_alloc (w := w2) _ (by intro q hq; subst hq; exact hlx)
        have x0 : w2.cell? ⟨w.heap.size, 0, none⟩ = some (.int .i64 3) := HK2.out.cell 0
        refine wp_region_lit_plan [] [(0, 0), (1, 0), (2, 0), (3, 0), (4, 1), (5, 0), (6, 4), (7, 4)] (fun q => q = w.heap.size) (by kernel_rfl) (by kernel_rfl) (fun c a d v w h => by cases d <;> exact h) ?_
        go_wp2_with (first
          | (refine plan_pure (v := _) (by rfl) (by rfl) (by rfl) (by intro _; go_simp; with_reducible rfl) ?_; simp only [List.setIfInBounds_toArray, List.set_cons_zero, List.set_cons_succ]; try go_bits) | (refine plan_read (v := _) (by rfl) (by rfl) (by rfl) (by go_simp; with_reducible rfl) ?_; simp only [List.setIfInBounds_toArray, List.set_cons_zero, List.set_cons_succ]; try go_bits) | (refine plan_readB (v := _) (by rfl) (by rfl) (by rfl) (by intro _ hag; unfold Agree at hag; go_simp; with_reducible rfl) ?_; simp only [List.setIfInBounds_toArray, List.set_cons_zero, List.set_cons_succ]; try go_bits) | (refine plan_skip0 (by rfl) (by rfl) (by rfl) ?_; simp only [List.setIfInBounds_toArray, List.set_cons_zero, List.set_cons_succ]; try go_bits) | (refine plan_skip1 (by rfl) (by rfl) (by rfl) ?_; simp only [List.setIfInBounds_toArray, List.set_cons_zero, List.set_cons_succ]; try go_bits) | (refine plan_skip2 (by rfl) (by rfl) (by rfl) ?_; simp only [List.setIfInBounds_toArray, List.set_cons_zero, List.set_cons_succ]; try go_bits) | (refine plan_skip4 (by rfl) (by rfl) (by rfl) ?_; simp only [List.setIfInBounds_toArray, List.set_cons_zero, List.set_cons_succ]; try go_bits) | (refine plan_any (by rfl) ?_) | (refine plan_keep (by rfl) ?_) | (refine plan_nil ?_) | (with_reducible refine And.intro (by first | assumption | exact Agree.refl _ _ | exact agree_drew _ _ | exact agree_alloc _ (by intro k hk; subst hk; first | omega | (simp; omega))) ?_) | (unfold Act.put; simp only [List.setIfInBounds_toArray, List.set_cons_zero, List.set_cons_succ])
          | (go_at_call 77; refine HL3.out.mono ?_; clear HL3; rintro e w5 ⟨rfl, F5, h51, h52, h53⟩;
             have HK5 := Lib.hid (HK2.out.only h52 (fun h => Nat.lt_irrefl _ h.2));
             have y0 : w5.cell? ⟨w.heap.size, 0, none⟩ = some (.int .i64 3) := HK5.out.cell 0; have y1 : w5.cell? ⟨w.heap.size, 1, none⟩ = some (.int .i64 1) := HK5.out.cell 1; have y2 : w5.cell? ⟨w.heap.size, 2, none⟩ = some (.string s) := HK5.out.cell 2;
             have H51 := Lib.hid h51.tight; have H52 := Lib.hid h52; have H53 := Lib.hid h53; clear h51 h52 h53))
        have HL5 := lay_drew w5 t b _ rest _ H51.out 1 1 (by omega) (by omega) (by simp; omega)
        have hl5 : w.heap.size < w5.heap.size := Nat.lt_of_lt_of_le hlx H52.out.size
        have hag5 : Agree (fun q => q = w.heap.size) w5.drew ((w5.alloc (.cells #[.int .u8 1] 5)).drew) := agree_alloc (w := w5) _ (by intro q hq; subst hq; exact hl5)
        go_wp2
        refine wp_region_lit_plan [] [(0, 0), (1, 0), (2, 0), (3, 0), (4, 1), (5, 0), (6, 4), (7, 4)] (fun q => q = w.heap.size) (by kernel_rfl) (by kernel_rfl) (fun c a d v w h => by cases d <;> exact h) ?_
        go_wp2_with (first
          | (refine plan_pure (v := _) (by rfl) (by rfl) (by rfl) (by intro _; go_simp; with_reducible rfl) ?_; simp only [List.setIfInBounds_toArray, List.set_cons_zero, List.set_cons_succ]; try go_bits) | (refine plan_read (v := _) (by rfl) (by rfl) (by rfl) (by go_simp; with_reducible rfl) ?_; simp only [List.setIfInBounds_toArray, List.set_cons_zero, List.set_cons_succ]; try go_bits) | (refine plan_readB (v := _) (by rfl) (by rfl) (by rfl) (by intro _ hag; unfold Agree at hag; go_simp; with_reducible rfl) ?_; simp only [List.setIfInBounds_toArray, List.set_cons_zero, List.set_cons_succ]; try go_bits) | (refine plan_skip0 (by rfl) (by rfl) (by rfl) ?_; simp only [List.setIfInBounds_toArray, List.set_cons_zero, List.set_cons_succ]; try go_bits) | (refine plan_skip1 (by rfl) (by rfl) (by rfl) ?_; simp only [List.setIfInBounds_toArray, List.set_cons_zero, List.set_cons_succ]; try go_bits) | (refine plan_skip2 (by rfl) (by rfl) (by rfl) ?_; simp only [List.setIfInBounds_toArray, List.set_cons_zero, List.set_cons_succ]; try go_bits) | (refine plan_skip4 (by rfl) (by rfl) (by rfl) ?_; simp only [List.setIfInBounds_toArray, List.set_cons_zero, List.set_cons_succ]; try go_bits) | (refine plan_any (by rfl) ?_) | (refine plan_keep (by rfl) ?_) | (refine plan_nil ?_) | (with_reducible refine And.intro (by first | assumption | exact Agree.refl _ _ | exact agree_drew _ _ | exact agree_alloc _ (by intro k hk; subst hk; first | omega | (simp; omega))) ?_) | (unfold Act.put; simp only [List.setIfInBounds_toArray, List.set_cons_zero, List.set_cons_succ])
          | (go_at_call 77; refine HL5.out.mono ?_; clear HL5; rintro e w7 ⟨rfl, F7, h71, h72, h73⟩))
        go_end0
        have ho5 : Only (fun q => F q ∧ q < w.heap.size) w w5 := (Only.of_none HBW2.out).trans H52.out (fun _ _ h => h)
        have ho7 : Only (fun q => F q ∧ q < w.heap.size) w w7 := ho5.trans h72 (fun q hq h => by
          rcases H53.out q h.1 with h2 | h2
          · exact h2
          · exact absurd (Nat.lt_of_lt_of_le hq HBW2.out.size) (by omega))
        refine ⟨rfl, F7, ?_, ho7.mono (fun q _ h => h.1), fun q hq => ?_⟩
        · have e1 : valB ⟨3, 1, s⟩ = [UInt8.ofNat 3] ++ [UInt8.ofNat 1] := by unfold valB; rw [if_pos HVR.out]; simp [rightB]
          rw [e1, ← List.append_assoc]; exact h71
        · rcases h73 q hq with h | h
          · rcases H53.out q h.1 with h2 | h2
            · exact .inl h2.1
            · exact .inr (Nat.le_trans HBW2.out.size h2)
          · exact .inr (Nat.le_trans ho5.size h)
end Go.Proofs.Ytdhdphmehjkbnaa
