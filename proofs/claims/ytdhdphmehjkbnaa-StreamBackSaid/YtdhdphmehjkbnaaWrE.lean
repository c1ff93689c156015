/- The writer: values, rows. -/
import Derived.Test.YtdhdphmehjkbnaaWrD
namespace Go.Proofs.Ytdhdphmehjkbnaa
open Go.RowKit Go.Afx

theorem right_size (v : AV) (h : v.right = true) : v.s.size ≤ 1000 := by
  have h2 := size_list v.s _ rfl
  have h3 : v.s.toList = v.s.data.toList := ByteArray.toList_eq _
  unfold AV.right at h
  simp only [Bool.or_eq_true, Bool.and_eq_true, decide_eq_true_iff, h3, List.isEmpty_iff] at h
  rcases h with (h | h) | h
  · rw [h2, h.2]; simp
  · omega
  · rw [h2, h.2]; simp
theorem valB_len (v : AV) (hn : fit64 v.n) : (valB v).length ≤ 1010 := by
  have hs : ∀ n, fit64 n → (signB n).length ≤ 9 := fun n h => be_len8 _ (by unfold fit64 at h; unfold zig; split <;> omega)
  have hr : ∀ v : AV, fit64 v.n → (v.kind = 2 → v.s.size ≤ 1000) → (rightB v).length ≤ 1010 := fun v h1 h2 => by
    unfold rightB
    rw [List.length_cons]
    split
    · have := hs v.n h1; omega
    · split
      · rename_i h3
        have h4 := be_len8 v.s.size (by have := h2 h3; omega)
        have h5 := size_list v.s _ rfl
        unfold textB
        rw [List.length_append]
        have := h2 h3
        omega
      · simp
  unfold valB
  split
  · rename_i h
    exact hr v hn (fun _ => right_size v h)
  · exact hr _ (by unfold fit64 AV.zero; simp) (fun h => by simp [AV.zero] at h)

set_option maxRecDepth 100000 in
set_option maxHeartbeats 1000000 in
theorem value_wr (w : World) (t : TypeId) (b : Nat) (F : Nat → Prop) (rest : List Value) (l : List UInt8) (hb : Buf w t b F rest l) (v : Value) (x : List AV) (hx : Sl w (fun k => ¬ F k) 3 v x.length (rowCells x)) (hf : ∀ a ∈ x, fit64 a.n) (hlen : l.length ≤ 40000000) (hxl : x.length ≤ 1000) :
    Calls Try.prog 37 #[.pointer (some ⟨b, 0, none⟩), v] w fun e w' => e = .returned (.pointer (some ⟨b, 0, none⟩)) ∧ ∃ F', Buf w' t b F' rest (l ++ laid valB x) ∧ Only F w w' ∧ ∀ k, F' k → F k ∨ w.heap.size ≤ k := by
  obtain ⟨p, cap, rfl, hc1, hc2⟩ := hx.form
  have HB := Lib.hid hb
  have HX := Lib.hid hx
  have HF := Lib.hid hf
  clear hb hx hf
  go_enter Try.func37, Try.ntmps37
  go_wp2
  go_loopw [9] (fun i wr => ∃ (k : Nat) (F3 : Nat → Prop), i = .int .i64 k ∧ k ≤ x.length ∧ Buf wr t b F3 rest (l ++ laid valB (x.take k)) ∧ Only F w wr ∧ ∀ q, F3 q → F q ∨ w.heap.size ≤ q) (fun i _ => x.length - (intOf i).toNat)
  case atStart => exact ⟨0, F, rfl, Nat.zero_le _, by simpa [laid] using HB.out, Only.refl _ _, fun q h => .inl h⟩
  case round =>
    obtain ⟨k, F3, rfl, hk, hb3, ho3, hf3⟩ := hrel
    have HB3 := Lib.hid hb3
    have HO3 := Lib.hid ho3
    have HF3 := Lib.hid hf3
    by_cases hka : k < x.length
    · have hxr : Sl wr (fun _ => True) 3 (.slice p x.length cap) x.length (rowCells x) := Sl.mono (HX.out.only ho3 (fun _ h => h)) (Nat.le_refl _) (fun _ _ _ => rfl) (fun _ _ _ => trivial)
      obtain ⟨g, off, cap', hv, hg, e0, e1, e2⟩ := sl_av hxr hka
      cases hv
      have hfx := HF.out x[k] (List.getElem_mem hka)
      have HN := Lib.hid (laid_next valB x k hka)
      have hll := laid_len valB 1010 (x.take k) (fun a ha => valB_len a (HF.out a (List.mem_of_mem_take ha)))
      have hlk : (x.take k).length ≤ 1000 := by rw [List.length_take]; omega
      clear hxr hb3 ho3 hf3
      generalize x[k] = a at *
      have hbx : Below wr.heap.size wr (wr.alloc (.cells #[.int .i64 a.kind, .int .i64 a.n, .string a.s] 56)) := (Below.refl _ _).alloc (Nat.le_refl _) _
      have hL := one_wr _ t b F3 rest _ (HB3.out.below hbx) a hfx (by rw [List.length_append]; omega) (right_size a)
      rw [List.append_assoc, ← HN.out] at hL
      have HL : Hid (Calls Try.prog 78 #[.pointer (some ⟨b, 0, none⟩), .agg #[.int .i64 a.kind, .int .i64 a.n, .string a.s]] (wr.alloc (.cells #[.int .i64 a.kind, .int .i64 a.n, .string a.s] 56)) fun e w' => e = .returned (.tuple #[]) ∧ ∃ F', Buf w' t b F' rest (l ++ laid valB (x.take (k + 1))) ∧ Only F3 wr w' ∧ ∀ k, F' k → F3 k ∨ wr.heap.size ≤ k) := hL.mono fun e w' ⟨he, F', h1, h2, h3⟩ =>
        ⟨he, F', h1, ((Only.refl F3 wr).alloc _).trans h2 (fun _ _ h => h), fun k hk => (h3 k hk).imp id (fun h => Nat.le_trans (by simp) h)⟩
      clear hbx
      clear hL hll hlk hfx
      go_wp2_with (go_at_call 78; refine HL.out.mono ?_; clear HL; rintro e w4 ⟨rfl, F4, h41, h42, h43⟩; have H41 := Lib.hid h41; have H42 := Lib.hid h42; have H43 := Lib.hid h43; clear h41 h42 h43)
      have ho4 : Only F w w4 := HO3.out.trans H42.out (fun q hq h => by
        rcases HF3.out q h with h2 | h2
        · exact h2
        · omega)
      refine ⟨⟨k + 1, F4, by congr 1, by omega, H41.out, ho4, fun q hq => ?_⟩, ?_⟩
      · rcases H43.out q hq with h | h
        · exact HF3.out q h
        · exact .inr (Nat.le_trans HO3.out.size h)
      · (simp [intOf]) <;> omega
    · obtain rfl : k = x.length := by omega
      clear hb3 ho3 hf3
      go_wp2
      go_ret
      refine ⟨rfl, F3, ?_, HO3.out, HF3.out⟩
      have := HB3.out
      rwa [List.take_length] at this
end Go.Proofs.Ytdhdphmehjkbnaa
