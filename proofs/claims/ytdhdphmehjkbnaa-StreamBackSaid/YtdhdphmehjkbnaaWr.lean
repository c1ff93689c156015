/- The writer: sizes, signed numbers, texts. -/
import Derived.Test.YtdhdphmehjkbnaaBufN
namespace Go.Proofs.Ytdhdphmehjkbnaa
open Go.RowKit Go.Afx

@[go_sem] theorem ite_lt_max (x y : Int) : (if x < y then y else x) = max x y := by omega
@[go_sem] theorem ite_lt_min (x y : Int) : (if x < y then x else y) = min x y := by omega


/-- What a list of things is laid as. -/
def laid {α : Type} (f : α → List UInt8) (l : List α) : List UInt8 := (l.map f).flatten
theorem laid_next {α : Type} (f : α → List UInt8) (l : List α) (k : Nat) (h : k < l.length) : laid f (l.take (k + 1)) = laid f (l.take k) ++ f l[k] := by
  unfold laid
  rw [← List.take_append_getElem h, List.map_append, List.flatten_append]
  simp
def sizeB (n : Int) : List UInt8 := numB (max n 0).toNat
theorem be_len8 (u : Nat) (h : u < 18446744073709551616) : (numB u).length ≤ 9 := by
  unfold numB
  have := be_len_le 8 u (by have : (256 : Nat) ^ 8 = 18446744073709551616 := by decide
                            omega)
  rw [List.length_cons]; omega
theorem laid_len {α : Type} (f : α → List UInt8) (m : Nat) (l : List α) (h : ∀ x ∈ l, (f x).length ≤ m) : (laid f l).length ≤ m * l.length := by
  induction l with
  | nil => simp [laid]
  | cons x l ih =>
    have h1 := h x (by simp)
    have h2 := ih (fun y hy => h y (by simp [hy]))
    unfold laid at *
    rw [List.map_cons, List.flatten_cons, List.length_append, List.length_cons, Nat.mul_succ]
    omega

set_option maxRecDepth 100000 in
set_option maxHeartbeats 1000000 in
theorem size_wr (w : World) (t : TypeId) (b : Nat) (F : Nat → Prop) (rest : List Value) (l : List UInt8) (hb : Buf w t b F rest l) (v : Value) (x : List Int) (hx : Sl w (fun k => ¬ F k) 1 v x.length (ints x)) (hf : ∀ n ∈ x, fit64 n) (hlen : l.length ≤ 100000000) (hxl : x.length ≤ 1000000) :
    Calls Try.prog 34 #[.pointer (some ⟨b, 0, none⟩), v] w fun e w' => e = .returned (.pointer (some ⟨b, 0, none⟩)) ∧ ∃ F', Buf w' t b F' rest (l ++ laid sizeB x) ∧ Only F w w' ∧ ∀ k, F' k → F k ∨ w.heap.size ≤ k := by
  obtain ⟨p, cap, rfl, hc1, hc2⟩ := hx.form
  have HB := Lib.hid hb
  have HX := Lib.hid hx
  have HF := Lib.hid hf
  clear hb hx hf
  go_enter Try.func34, Try.ntmps34
  go_wp2
  go_loopw [9] (fun i wr => ∃ (k : Nat) (F3 : Nat → Prop), i = .int .i64 k ∧ k ≤ x.length ∧ Buf wr t b F3 rest (l ++ laid sizeB (x.take k)) ∧ Only F w wr ∧ ∀ q, F3 q → F q ∨ w.heap.size ≤ q) (fun i _ => x.length - (intOf i).toNat)
  case atStart => exact ⟨0, F, rfl, Nat.zero_le _, by simpa [laid] using HB.out, Only.refl _ _, fun q h => .inl h⟩
  case round =>
    obtain ⟨k, F3, rfl, hk, hb3, ho3, hf3⟩ := hrel
    have HB3 := Lib.hid hb3
    have HO3 := Lib.hid ho3
    have HF3 := Lib.hid hf3
    by_cases hka : k < x.length
    · obtain ⟨g, off, cap', hv, _, _, hgb, hglt, hc⟩ := HX.out.place (by omega)
      cases hv
      have hc0 : w.cell? ⟨g, off + k, none⟩ = some (.int .i64 x[k]) := by rw [hc k (by simpa [ints] using hka)]; simp [ints, hka]
      have hck : wr.cell? ⟨g, off + k, none⟩ = some (.int .i64 x[k]) := (ho3.cell (p := ⟨g, off + k, none⟩) hglt hgb).trans hc0
      have hfx := HF.out x[k] (List.getElem_mem hka)
      have HN := Lib.hid (laid_next sizeB x k hka)
      have hll := laid_len sizeB 9 (x.take k) (fun n hn => be_len8 _ (by have := HF.out n (List.mem_of_mem_take hn); unfold fit64 at this; omega))
      have hlk : (x.take k).length ≤ 1000000 := by rw [List.length_take]; omega
      unfold fit64 at hfx
      clear hc hc0 hb3 ho3 hf3
      generalize x[k] = n at *
      obtain ⟨u, hu⟩ : ∃ u : Nat, u = (max n 0).toNat := ⟨_, rfl⟩
      have hui : max n 0 = (u : Int) := by omega
      have hL := number_any wr t b F3 rest _ HB3.out u (by omega) (by rw [List.length_append]; omega)
      have hsb : sizeB n = numB u := by unfold sizeB; rw [hu]
      rw [List.append_assoc, ← hsb, ← HN.out] at hL
      have HL := Lib.hid hL
      have hu64 : (u : Int) < 18446744073709551616 := by omega
      clear hL hll hlk hu hsb
      go_wp2_with (go_at_call 76; refine HL.out.mono ?_; clear HL; rintro e w4 ⟨rfl, F4, h41, h42, h43⟩; have H41 := Lib.hid h41; have H42 := Lib.hid h42; have H43 := Lib.hid h43; clear h41 h42 h43)
      have ho4 : Only F w w4 := HO3.out.trans H42.out (fun q hq h => by
        rcases HF3.out q h with h2 | h2
        · exact h2
        · omega)
      refine ⟨⟨k + 1, F4, by congr 1, by omega, H41.out, ho4, fun q hq => ?_⟩, ?_⟩
      · rcases H43.out q hq with h | h
        · exact HF3.out q h
        · exact .inr (Nat.le_trans HO3.out.size h)
      · (simp [intOf]) <;> omega
    · obtain rfl : k = x.length := by omega
      clear hb3 ho3 hf3
      go_wp2
      go_ret
      refine ⟨rfl, F3, ?_, HO3.out, HF3.out⟩
      have := HB3.out
      rwa [List.take_length] at this
end Go.Proofs.Ytdhdphmehjkbnaa
