/- The law LexNone: what the walk shows. -/
import Derived.Test.YtjbocnofkaffjaaLxK
namespace Go.Proofs.Ytjbocnofkaffjaa
open Go.RowKit Go.Afx

theorem flat_txt : ∀ l : List ByteArray, (l.map fun s : ByteArray => [Value.string s]).flatten = txCells l
  | [] => rfl
  | a :: t => by
    have := flat_txt t
    simp only [List.map_cons, List.flatten_cons, this]
    rfl
theorem ocText : Try.prog.cellsOf 9 = 1 := by kernel_rfl
section
variable {H : Type} {enc : TypeId × Value → H} {w : World}
theorem open_texts {v : Value} {d : DataW H} {ps : List MemPlace} (h : DataW.Trod enc Try.prog w 0 (fun _ => true) true 31 v d ps) (hv : v.cells.toList = [v]) :
    ∃ l : List ByteArray, Sl w (fun _ => True) 1 v l.length (txCells l) := by
  obtain ⟨fuel, hf⟩ := h
  rw [hv] at hf
  obtain ⟨es, h1, h2⟩ := open_sl Try.underlying31 ocText (by omega) hf (fun c => ∃ s : ByteArray, c = [.string s] ∧ s.size ≤ maxLen) (fun c ⟨s, hc, _⟩ => by subst hc; exact Ones.nil.cons rfl) (fun f c y hl hy => by
    obtain ⟨c0, rfl⟩ := list1 hl
    obtain ⟨s, e0, _, w0⟩ := DataW.trod_string Try.underlying9 hy
    exact ⟨s, e0, w0⟩)
  obtain ⟨l, rfl, h4⟩ := choose_list es (fun c hcm => (h1 c hcm).2)
  rw [List.length_map] at h2
  have e := flat_txt l
  rw [e] at h2
  exact ⟨l, h2⟩
end

theorem left_nil (w : World) : Calls Try.prog 12 #[.pointer none] w fun e w' => e = .returned (.int .i64 0) ∧ w = w' := by
  go_enter Try.func12, Try.ntmps12
  go_wp2
  go_ret
  exact ⟨rfl, rfl⟩
theorem look_nil (w : World) (n : Int) : Calls Try.prog 16 #[.pointer none, .int .i64 n] w fun e w' => e = .returned (.agg #[.int .i64 4, .string ⟨#[]⟩, .int .i64 0, .int .i64 0]) ∧ Below w.heap.size w w' := by
  go_enter Try.func16, Try.ntmps16
  go_wp2
  refine bodyPost_ret (v := .agg #[.int .i64 4, .string ⟨#[]⟩, .int .i64 0, .int .i64 0]) (by simp [results, Try.results16, go_sem]) rfl ⟨rfl, ?_⟩
  exact (Below.refl _ _).alloc (Nat.le_refl _) _
theorem word_nil (w : World) : Calls Try.prog 9 #[.pointer none] w fun e w' => e = .returned (.agg #[.int .i64 4, .string ⟨#[]⟩, .int .i64 0, .int .i64 0]) ∧ Below w.heap.size w w' := by
  have hal : Below w.heap.size w (w.alloc (.cells #[.int .i64 0, .string ⟨#[]⟩, .int .i64 0, .int .i64 0] 28)) := (Below.refl _ _).alloc (Nat.le_refl _) _
  have HK := Lib.hid (Blk.new w 28 [.int .i64 0, .string ⟨#[]⟩, .int .i64 0, .int .i64 0])
  have HAL := Lib.hid hal
  clear hal
  go_enter Try.func9, Try.ntmps9
  go_wp2_with fail
  generalize hw1 : w.alloc (.cells #[.int .i64 0, .string ⟨#[]⟩, .int .i64 0, .int .i64 0] 28) = w1 at *
  clear hw1
  refine (look_nil w1 0).mono ?_
  rintro e w2 ⟨rfl, hb2⟩
  have hk2 := HK.out.below hb2
  have z0 : w2.cell? ⟨w.heap.size, 0, none⟩ = some (.int .i64 0) := hk2.cell 0
  have z1 : w2.cell? ⟨w.heap.size, 1, none⟩ = some (.string ⟨#[]⟩) := hk2.cell 1
  have z2 : w2.cell? ⟨w.heap.size, 2, none⟩ = some (.int .i64 0) := hk2.cell 2
  have z3 : w2.cell? ⟨w.heap.size, 3, none⟩ = some (.int .i64 0) := hk2.cell 3
  have kf : ∀ i, w2.frozen? ⟨w.heap.size, i, none⟩ = false := hk2.frozen
  have HB2 := Lib.hid (HAL.out.trans (hb2.mono HAL.out.size))
  clear hk2 hb2
  go_wp2
  refine bodyPost_ret (v := .agg #[.int .i64 4, .string ⟨#[]⟩, .int .i64 0, .int .i64 0]) (by simp [results, Try.results9, go_sem, z0, z1, z2, z3]) rfl ⟨rfl, ?_⟩
  exact (((HB2.out.setCell (p := ⟨w.heap.size, 0, none⟩) (by simp) _).setCell (p := ⟨w.heap.size, 1, none⟩) (by simp) _).setCell (p := ⟨w.heap.size, 2, none⟩) (by simp) _).setCell (p := ⟨w.heap.size, 3, none⟩) (by simp) _
theorem kind_nil (w : World) (n : Int) : Calls Try.prog 8 #[.pointer none, .int .i64 n] w fun e w' => e = .returned (.tuple #[.agg #[.int .i64 0, .string ⟨#[]⟩, .int .i64 0, .int .i64 0], .bool false]) ∧ Below w.heap.size w w' := by
  have hal : Below w.heap.size w (w.alloc (.cells #[.int .i64 0, .string ⟨#[]⟩, .int .i64 0, .int .i64 0] 28)) := (Below.refl _ _).alloc (Nat.le_refl _) _
  have HK := Lib.hid (Blk.new w 28 [.int .i64 0, .string ⟨#[]⟩, .int .i64 0, .int .i64 0])
  have HAL := Lib.hid hal
  clear hal
  go_enter Try.func8, Try.ntmps8
  go_wp2_with fail
  generalize hw1 : w.alloc (.cells #[.int .i64 0, .string ⟨#[]⟩, .int .i64 0, .int .i64 0] 28) = w1 at *
  clear hw1
  refine (word_nil w1).mono ?_
  rintro e w2 ⟨rfl, hb2⟩
  have hk2 := HK.out.below hb2
  have z0 : w2.cell? ⟨w.heap.size, 0, none⟩ = some (.int .i64 0) := hk2.cell 0
  have z1 : w2.cell? ⟨w.heap.size, 1, none⟩ = some (.string ⟨#[]⟩) := hk2.cell 1
  have z2 : w2.cell? ⟨w.heap.size, 2, none⟩ = some (.int .i64 0) := hk2.cell 2
  have z3 : w2.cell? ⟨w.heap.size, 3, none⟩ = some (.int .i64 0) := hk2.cell 3
  have kf : ∀ i, w2.frozen? ⟨w.heap.size, i, none⟩ = false := hk2.frozen
  have HB2 := Lib.hid (HAL.out.trans (hb2.mono HAL.out.size))
  clear hk2 hb2
  have hlt2 : w.heap.size < w2.heap.size := by
    have := World.block_lt_of_cell? _ _ z0
    exact this
  go_wp2_with (go_at_call 12; refine (left_nil _).mono ?_; rintro e w3 ⟨rfl, rfl⟩)
  refine bodyPost_ret (v := .tuple #[.agg #[.int .i64 0, .string ⟨#[]⟩, .int .i64 0, .int .i64 0], .bool false]) (by simp [results, Try.results8, go_sem, z0, z1, z2, z3, hlt2]) rfl ⟨rfl, ?_⟩
  exact ((((HB2.out.setCell (p := ⟨w.heap.size, 0, none⟩) (by simp) _).setCell (p := ⟨w.heap.size, 1, none⟩) (by simp) _).setCell (p := ⟨w.heap.size, 2, none⟩) (by simp) _).setCell (p := ⟨w.heap.size, 3, none⟩) (by simp) _).alloc (by simp; exact HB2.out.size) _
theorem says_not (w : World) (T U : ByteArray) : Calls Try.prog 18 #[.agg #[.int .i64 4, .string U, .int .i64 0, .int .i64 0], .string T] w fun e w' => e = .returned (.bool false) ∧ Below w.heap.size w w' := by
  go_enter Try.func18, Try.ntmps18
  go_wp2
  go_ret
  exact ⟨rfl, (Below.refl _ _).alloc (Nat.le_refl _) _⟩
def endW : Value := .agg #[.int .i64 4, .string ⟨#[]⟩, .int .i64 0, .int .i64 0]
set_option maxRecDepth 100000 in
theorem index_not (w : World) (B : Nat → Prop) (tv : Value) (ts : List ByteArray) (ht : Sl w B 1 tv ts.length (txCells ts)) :
    Calls Try.prog 26 #[tv, .func (.func 18) #[endW] #[]] w fun e w' => e = .returned (.int .i64 (-1)) ∧ Below w.heap.size w w' := by
  obtain ⟨pt, ct, rfl, hct1, hct2⟩ := ht.form
  have HT := Lib.hid ht
  clear ht
  unfold endW
  go_enter Try.func26, Try.ntmps26
  go_wp2
  go_loopw [8] (fun i wr => ∃ k : Nat, i = .int .i64 k ∧ k ≤ ts.length ∧ Below w.heap.size w wr) (fun i _ => ts.length - (intOf i).toNat)
  case atStart => exact ⟨0, rfl, Nat.zero_le _, Below.refl _ _⟩
  case round =>
    obtain ⟨k, rfl, hk, hb⟩ := hrel
    have HB := Lib.hid hb
    by_cases hka : k < ts.length
    · obtain ⟨g, off, cap, hv, _, _, _, hlt, hc⟩ := (HT.out.below hb).place (by omega)
      cases hv
      have e0 : wr.cell? ⟨g, off + k, none⟩ = some (.string ts[k]) := by
        rw [hc k (by simpa [txCells] using hka)]
        simp [txCells]
      clear hc hb
      generalize ts[k] = T at *
      go_wp2_with (go_at_call 18; refine (says_not _ T _).mono ?_; rintro e w2 ⟨rfl, hb2⟩; have HB2 := Lib.hid (HB.out.trans (hb2.mono HB.out.size)); clear hb2)
      exact ⟨⟨k + 1, by go_num, by omega, HB2.out⟩, by (simp [intOf]) <;> omega⟩
    · obtain rfl : k = ts.length := by omega
      clear hb
      go_wp2
      go_ret
      exact ⟨rfl, HB.out⟩
theorem contains_not (w : World) (B : Nat → Prop) (tv : Value) (ts : List ByteArray) (ht : Sl w B 1 tv ts.length (txCells ts)) :
    Calls Try.prog 17 #[tv, .func (.func 18) #[endW] #[]] w fun e w' => e = .returned (.bool false) ∧ Below w.heap.size w w' := by
  have HI := Lib.hid (index_not w B tv ts ht)
  obtain ⟨pt, ct, rfl, hct1, hct2⟩ := ht.form
  clear ht
  unfold endW at *
  go_enter Try.func17, Try.ntmps17
  go_wp2_with (go_at_call 26; refine HI.out.mono ?_; clear HI; rintro e w2 ⟨rfl, hb2⟩)
  go_ret
  exact ⟨rfl, hb2⟩
theorem is_nil (w : World) (B : Nat → Prop) (tv : Value) (ts : List ByteArray) (ht : Sl w B 1 tv ts.length (txCells ts)) :
    Calls Try.prog 10 #[.pointer none, tv] w fun e w' => e = .returned (.bool false) ∧ Below w.heap.size w w' := by
  have HC := Lib.hid (fun W (h : Below w.heap.size w W) => contains_not W B tv ts (ht.below h))
  obtain ⟨pt, ct, rfl, hct1, hct2⟩ := ht.form
  clear ht
  unfold endW at *
  go_enter Try.func10, Try.ntmps10
  go_wp2_with (first
    | (go_at_call 9; refine (word_nil _).mono ?_; rintro e w2 ⟨rfl, hb2⟩; have HB2 := Lib.hid hb2; clear hb2)
    | (go_at_call 17; refine (HC.out _ HB2.out).mono ?_; clear HC; rintro e w3 ⟨rfl, hb3⟩))
  go_ret
  exact ⟨rfl, HB2.out.trans (hb3.mono HB2.out.size)⟩
set_option maxRecDepth 100000 in
theorem take_nil (w : World) (B : Nat → Prop) (tv : Value) (ts : List ByteArray) (ht : Sl w B 1 tv ts.length (txCells ts)) :
    Calls Try.prog 11 #[.pointer none, tv] w fun e w' => e = .returned (.bool false) ∧ Below w.heap.size w w' := by
  obtain ⟨pt, ct, rfl, hct1, hct2⟩ := ht.form
  have HT := Lib.hid ht
  clear ht
  go_enter Try.func11, Try.ntmps11
  go_wp2
  go_loopw [9] (fun i wr => i = .int .i64 0 ∧ wr = w) (fun i _ => ts.length - (intOf i).toNat)
  case atStart => exact ⟨rfl, rfl⟩
  case round =>
    obtain ⟨rfl, rfl⟩ := hrel
    by_cases hka : 0 < ts.length
    · obtain ⟨g, off, cap, hv, _, _, _, hlt, hc⟩ := HT.out.place hka
      cases hv
      have e0 : wr.cell? ⟨g, off, none⟩ = some (.string ts[0]) := by
        have := hc 0 (by simpa [txCells] using hka)
        rw [Nat.add_zero] at this
        rw [this]
        simp [txCells, hka]
      clear hc
      generalize ts[0] = T at *
      go_wp2_with (first
        | (go_at_call 16; refine (look_nil _ _).mono ?_; rintro e w2 ⟨rfl, hb2⟩; have HB2 := Lib.hid hb2; clear hb2)
        | (go_at_call 18; refine (says_not _ T _).mono ?_; rintro e w3 ⟨rfl, hb3⟩))
      go_ret
      exact ⟨rfl, HB2.out.trans (hb3.mono HB2.out.size)⟩
    · have h0 : ts.length = 0 := by omega
      rw [h0]
      go_wp2
      go_ret
      exact ⟨rfl, Below.refl _ _⟩

set_option maxRecDepth 100000 in
set_option maxHeartbeats 2000000 in
theorem lxnone_walk (n : Int) (_ : (Lit.int .i64 n).wf = true) (v1 : Value) (ts : List ByteArray) (w : World) (o1 : Sl w (fun _ => True) 1 v1 ts.length (txCells ts)) :
    Calls Try.prog 5 #[.int .i64 n, v1] w fun e w' => e = .returned (.bool true) ∧ Below w.heap.size w w' := by
  have HIS := Lib.hid (fun W (h : Below w.heap.size w W) => is_nil W _ v1 ts (o1.below h))
  have HTK := Lib.hid (fun W (h : Below w.heap.size w W) => take_nil W _ v1 ts (o1.below h))
  obtain ⟨pt, ct, rfl, hct1, hct2⟩ := o1.form
  clear o1
  go_enter Try.func5, Try.ntmps5
  go_wp2_with fail
  refine (kind_nil w n).mono ?_
  rintro e w2 ⟨rfl, hb2⟩
  have hal : Below w.heap.size w (w2.alloc (.cells #[.int .i64 0, .string ⟨#[]⟩, .int .i64 0, .int .i64 0] 28)) := hb2.alloc hb2.size _
  have HK := Lib.hid (Blk.new w2 28 [.int .i64 0, .string ⟨#[]⟩, .int .i64 0, .int .i64 0])
  have HAL := Lib.hid hal
  clear hal hb2
  go_wp2_with fail
  generalize hw3 : w2.alloc (.cells #[.int .i64 0, .string ⟨#[]⟩, .int .i64 0, .int .i64 0] 28) = w3 at *
  clear hw3
  go_wp2_with (first
    | (go_at_call 9; refine (word_nil _).mono ?_; rintro e w4 ⟨rfl, hb4⟩; have HB4 := Lib.hid (HAL.out.trans (hb4.mono HAL.out.size)); have HK4 := Lib.hid (HK.out.below hb4); clear hb4)
    | (go_at_call 10; refine (HIS.out _ HB4.out).mono ?_; clear HIS; rintro e w5 ⟨rfl, hb5⟩; have HB5 := Lib.hid (HB4.out.trans (hb5.mono HB4.out.size)); have HK5 := Lib.hid (HK4.out.below hb5); clear hb5)
    | (go_at_call 11; refine (HTK.out _ HB5.out).mono ?_; clear HTK; rintro e w6 ⟨rfl, hb6⟩; have HB6 := Lib.hid (HB5.out.trans (hb6.mono HB5.out.size)); have hk6 := HK5.out.below hb6; have z0 : w6.cell? ⟨w2.heap.size, 0, none⟩ = some (.int .i64 0) := hk6.cell 0; have z1 : w6.cell? ⟨w2.heap.size, 1, none⟩ = some (.string ⟨#[]⟩) := hk6.cell 1; have z2 : w6.cell? ⟨w2.heap.size, 2, none⟩ = some (.int .i64 0) := hk6.cell 2; have z3 : w6.cell? ⟨w2.heap.size, 3, none⟩ = some (.int .i64 0) := hk6.cell 3; clear hb6 hk6)
    | (go_at_call 12; refine (left_nil _).mono ?_; rintro e w7 ⟨rfl, rfl⟩)
    | (go_at_call 7; refine (lx_awake _).mono ?_; rintro e w8 ⟨rfl, hb8⟩))
  go_ret
  exact ⟨rfl, HB6.out.trans (hb8.mono HB6.out.size)⟩
end Go.Proofs.Ytjbocnofkaffjaa
