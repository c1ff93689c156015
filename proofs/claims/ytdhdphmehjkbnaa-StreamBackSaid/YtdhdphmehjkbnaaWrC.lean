/- The writer: texts. -/
import Derived.Test.YtdhdphmehjkbnaaWrB
namespace Go.Proofs.Ytdhdphmehjkbnaa
open Go.RowKit Go.Afx

/-- A slice of texts, as cells. -/
def strs (l : List ByteArray) : List Value := l.map Value.string
def textB (s : ByteArray) : List UInt8 := numB s.size ++ s.data.toList

theorem cv_sl (w : World) (s : ByteArray) : Sl (cvW w s 5) (fun _ => True) 1 (.slice (some ⟨w.heap.size, 0, none⟩) s.size (cvCap w s 5)) s.data.toList.length (by8 s.data.toList) ∨ maxLen < s.size := by
  by_cases h : s.size ≤ maxLen
  · left
    have hl := size_list s _ rfl
    refine ⟨by rw [by8_length, Nat.mul_one], by8_ones _, .inr ⟨w.heap.size, 0, cvCap w s _, by rw [hl], ?_, grownCap_le_maxLen w s.size 0 _ h, trivial, by rw [cvW_size]; omega, fun j hj => ?_⟩⟩
    · rw [← hl]; exact grownCap_ge w s.size 0 _
    · rw [by8_length] at hj
      rw [Nat.zero_add, cvW_cell w s _ _ rfl j hj, by8_get _ j hj]
  · right; omega

set_option maxRecDepth 100000 in
set_option maxHeartbeats 1000000 in
theorem text_wr (w : World) (t : TypeId) (b : Nat) (F : Nat → Prop) (rest : List Value) (l : List UInt8) (hb : Buf w t b F rest l) (v : Value) (x : List ByteArray) (hx : Sl w (fun k => ¬ F k) 1 v x.length (strs x)) (hf : ∀ s ∈ x, s.size ≤ 1000) (hlen : l.length ≤ 100000000) (hxl : x.length ≤ 10000) :
    Calls Try.prog 36 #[.pointer (some ⟨b, 0, none⟩), v] w fun e w' => e = .returned (.pointer (some ⟨b, 0, none⟩)) ∧ ∃ F', Buf w' t b F' rest (l ++ laid textB x) ∧ Only F w w' ∧ ∀ k, F' k → F k ∨ w.heap.size ≤ k := by
  obtain ⟨p, cap, rfl, hc1, hc2⟩ := hx.form
  have HB := Lib.hid hb
  have HX := Lib.hid hx
  have HF := Lib.hid hf
  clear hb hx hf
  go_enter Try.func36, Try.ntmps36
  go_wp2
  go_loopw [9] (fun i wr => ∃ (k : Nat) (F3 : Nat → Prop), i = .int .i64 k ∧ k ≤ x.length ∧ Buf wr t b F3 rest (l ++ laid textB (x.take k)) ∧ Only F w wr ∧ ∀ q, F3 q → F q ∨ w.heap.size ≤ q) (fun i _ => x.length - (intOf i).toNat)
  case atStart => exact ⟨0, F, rfl, Nat.zero_le _, by simpa [laid] using HB.out, Only.refl _ _, fun q h => .inl h⟩
  case round =>
    obtain ⟨k, F3, rfl, hk, hb3, ho3, hf3⟩ := hrel
    have HB3 := Lib.hid hb3
    have HO3 := Lib.hid ho3
    have HF3 := Lib.hid hf3
    by_cases hka : k < x.length
    · obtain ⟨g, off, cap', hv, _, _, hgb, hglt, hc⟩ := HX.out.place (by omega)
      cases hv
      have hc0 : w.cell? ⟨g, off + k, none⟩ = some (.string x[k]) := by rw [hc k (by simpa [strs] using hka)]; simp [strs, hka]
      have hck : wr.cell? ⟨g, off + k, none⟩ = some (.string x[k]) := (ho3.cell (p := ⟨g, off + k, none⟩) hglt hgb).trans hc0
      have hfx := HF.out x[k] (List.getElem_mem hka)
      have HN := Lib.hid (laid_next textB x k hka)
      have hll := laid_len textB 1009 (x.take k) (fun s hs => by
        have h1 := HF.out s (List.mem_of_mem_take hs)
        have h2 := be_len8 s.size (by omega)
        have h3 := size_list s _ rfl
        unfold textB
        rw [List.length_append]; omega)
      have hlk : (x.take k).length ≤ 10000 := by rw [List.length_take]; omega
      clear hc hc0 hb3 ho3 hf3
      generalize x[k] = s at *
      have hL := number_any wr t b F3 rest _ HB3.out s.size (by omega) (by rw [List.length_append]; omega)
      have HL := Lib.hid hL
      have hss := size_list s _ rfl
      have kc : ∀ w, (convert 9 60 (.string s)).run Try.prog w = .ok (.slice (some ⟨w.heap.size, 0, none⟩) s.size (cvCap w s 5)) (cvW w s 5) := fun w => run_cv w _ _ _ s Try.underlying9 Try.underlying60 Try.underlying5
      have hbig : (l ++ laid textB (x.take k) ++ numB s.size).length + s.data.toList.length ≤ 1000000000 := by
        have h2 := be_len8 s.size (by omega)
        rw [List.length_append, List.length_append]; omega
      have HLY : Hid (∀ (w4 : World) (F4 : Nat → Prop), Buf w4 t b F4 rest (l ++ laid textB (x.take k) ++ numB s.size) → Calls Try.prog 77 #[.pointer (some ⟨b, 0, none⟩), .slice (some ⟨w4.heap.size, 0, none⟩) s.size (cvCap w4 s 5)] (cvW w4 s 5) fun e w' => e = .returned (.tuple #[]) ∧ ∃ F', Buf w' t b F' rest (l ++ laid textB (x.take (k + 1))) ∧ Only F4 w4 w' ∧ ∀ k, F' k → F4 k ∨ w4.heap.size ≤ k) := fun w4 F4 h4 => by
        have hsl := (cv_sl w4 s).resolve_right (by unfold maxLen; omega)
        refine (lay_any (cvW w4 s 5) t b F4 rest _ (h4.below (cvW_below w4 s _)) _ _ s.data.toList hsl hbig).mono ?_
        rintro e w' ⟨he, F', h1, h2, h3⟩
        refine ⟨he, F', ?_, (Only.of_none (cvW_below w4 s _)).trans h2 (fun _ _ h => h), fun k hk => ?_⟩
        · rw [HN.out]
          unfold textB at h1 ⊢
          rw [← List.append_assoc, ← List.append_assoc]
          exact h1
        · rcases h3 k hk with h | h
          · exact .inl h
          · rw [cvW_size] at h; exact .inr (by omega)
      clear hL hll hlk hss hbig
      go_wp2_with (first
        | (go_at_call 76; refine HL.out.mono ?_; clear HL; rintro e w4 ⟨rfl, F4, h41, h42, h43⟩; have HLY4 := Lib.hid (HLY.out w4 F4 h41); have H42 := Lib.hid h42; have H43 := Lib.hid h43; clear h41 h42 h43)
        | (go_at_call 77; refine HLY4.out.mono ?_; clear HLY4; rintro e w5 ⟨rfl, F5, h51, h52, h53⟩; have H51 := Lib.hid h51; have H52 := Lib.hid h52; have H53 := Lib.hid h53; clear h51 h52 h53))
      have ho4 : Only F w w4 := HO3.out.trans H42.out (fun q hq h => by
        rcases HF3.out q h with h2 | h2
        · exact h2
        · omega)
      have hf4 : ∀ q, F4 q → F q ∨ w.heap.size ≤ q := fun q hq => by
        rcases H43.out q hq with h | h
        · exact HF3.out q h
        · exact .inr (Nat.le_trans HO3.out.size h)
      have ho5 : Only F w w5 := ho4.trans H52.out (fun q hq h => by
        rcases hf4 q h with h2 | h2
        · exact h2
        · omega)
      refine ⟨⟨k + 1, F5, by congr 1, by omega, H51.out, ho5, fun q hq => ?_⟩, ?_⟩
      · rcases H53.out q hq with h | h
        · exact hf4 q h
        · exact .inr (Nat.le_trans ho4.size h)
      · (simp [intOf]) <;> omega
    · obtain rfl : k = x.length := by omega
      clear hb3 ho3 hf3
      go_wp2
      go_ret
      refine ⟨rfl, F3, ?_, HO3.out, HF3.out⟩
      have := HB3.out
      rwa [List.take_length] at this
end Go.Proofs.Ytdhdphmehjkbnaa
