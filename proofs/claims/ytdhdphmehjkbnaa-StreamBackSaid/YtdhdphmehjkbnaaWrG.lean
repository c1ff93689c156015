/- The writer: rows; a writer that there isn't. -/
import Derived.Test.YtdhdphmehjkbnaaWrF
namespace Go.Proofs.Ytdhdphmehjkbnaa
open Go.RowKit Go.Afx

set_option maxRecDepth 100000 in
set_option maxHeartbeats 1000000 in
theorem rows_wr (w : World) (t : TypeId) (b : Nat) (F : Nat → Prop) (rest : List Value) (l : List UInt8) (hb : Buf w t b F rest l) (v : Value) (x : List RowV) (hx : IsRows w (fun k => ¬ F k) v x) (hlen : l.length ≤ 10000000) (hxl : x.length ≤ 100) (hrl : ∀ r ∈ x, r.l.length ≤ 100) :
    Calls Try.prog 39 #[.pointer (some ⟨b, 0, none⟩), v] w fun e w' => e = .returned (.pointer (some ⟨b, 0, none⟩)) ∧ ∃ F', Buf w' t b F' rest (l ++ rowsB x) ∧ Only F w w' ∧ ∀ k, F' k → F k ∨ w.heap.size ≤ k := by
  obtain ⟨p, cap, rfl, hc1, hc2⟩ := hx.1.form
  have HS := size_one w t b F rest l hb x.length (by omega) (by omega)
  have HX := Lib.hid hx
  have HR := Lib.hid hrl
  clear hb hx hrl
  go_enter Try.func39, Try.ntmps39
  go_wp2_with (go_at_call 34; refine HS.out.mono ?_; clear HS; rintro e w2 ⟨rfl, F2, h21, h22, h23⟩; have H21 := Lib.hid h21; have H22 := Lib.hid h22; have H23 := Lib.hid h23; clear h21 h22 h23)
  go_loopw [14] (fun i wr => ∃ (k : Nat) (F3 : Nat → Prop), i = .int .i64 k ∧ k ≤ x.length ∧ Buf wr t b F3 rest (l ++ sizeB x.length ++ laid (fun r : RowV => rowB r.l) (x.take k)) ∧ Only F w wr ∧ ∀ q, F3 q → F q ∨ w.heap.size ≤ q) (fun i _ => x.length - (intOf i).toNat)
  case atStart => exact ⟨0, F2, rfl, Nat.zero_le _, by simpa [laid] using H21.out, H22.out, H23.out⟩
  case round =>
    obtain ⟨k, F3, rfl, hk, hb3, ho3, hf3⟩ := hrel
    have HB3 := Lib.hid hb3
    have HO3 := Lib.hid ho3
    have HF3 := Lib.hid hf3
    by_cases hka : k < x.length
    · obtain ⟨g, off, cap', hv, _, _, hgb, hglt, hc⟩ := HX.out.1.place (by omega)
      cases hv
      have hc0 : w.cell? ⟨g, off + k, none⟩ = some x[k].v := by rw [hc k (by simpa [rowVals] using hka)]; simp [rowVals, hka]
      have hck : wr.cell? ⟨g, off + k, none⟩ = some x[k].v := (ho3.cell (p := ⟨g, off + k, none⟩) hglt hgb).trans hc0
      have hrx := HX.out.2 x[k] (List.getElem_mem hka)
      have HN := Lib.hid (laid_next (fun r : RowV => rowB r.l) x k hka)
      have hll := laid_len (fun r : RowV => rowB r.l) 101009 (x.take k) (fun r hr => rowB_len r.l (HX.out.2 r (List.mem_of_mem_take hr)).2.1 (HR.out r (List.mem_of_mem_take hr)))
      have hlk : (x.take k).length ≤ 100 := by rw [List.length_take]; omega
      have hsz := be_len8 (max (x.length : Int) 0).toNat (by omega)
      clear hc hc0 hb3 ho3 hf3
      generalize x[k] = r at *
      obtain ⟨rv, rl⟩ := r
      obtain ⟨rp, rc, hrv, hrc1, hrc2⟩ := hrx.1.form
      have hrv2 : rv = .slice rp rl.length rc := hrv
      subst hrv2
      have hx3 : Sl wr (fun k => ¬ F3 k) 3 (.slice rp rl.length rc) rl.length (rowCells rl) :=
        Sl.mono hrx.1 HO3.out.size (fun k hk hlt => HO3.out.block k hlt hk) (fun k hk hlt h => by
          rcases HF3.out k h with h4 | h4
          · exact hk h4
          · omega)
      have hL := row_wr wr t b F3 rest _ HB3.out _ rl hx3 hrx.2.1 (by
        unfold sizeB
        rw [List.length_append, List.length_append]; omega) hrx.2.2
      rw [List.append_assoc, ← HN.out] at hL
      have HL := Lib.hid hL
      have hck2 : wr.cell? ⟨g, off + k, none⟩ = some (.slice rp rl.length rc) := hck
      clear hL hll hlk hrx hx3 hsz hck hrv
      go_wp2_with (go_at_call 38; refine HL.out.mono ?_; clear HL; rintro e w4 ⟨rfl, F4, h41, h42, h43⟩; have H41 := Lib.hid h41; have H42 := Lib.hid h42; have H43 := Lib.hid h43; clear h41 h42 h43)
      have ho4 : Only F w w4 := HO3.out.trans H42.out (fun q hq h => by
        rcases HF3.out q h with h2 | h2
        · exact h2
        · omega)
      refine ⟨⟨k + 1, F4, by congr 1, by omega, H41.out, ho4, fun q hq => ?_⟩, ?_⟩
      · rcases H43.out q hq with h | h
        · exact HF3.out q h
        · exact .inr (Nat.le_trans HO3.out.size h)
      · (simp [intOf]) <;> omega
    · obtain rfl : k = x.length := by omega
      clear hb3 ho3 hf3
      go_wp2
      go_ret
      refine ⟨rfl, F3, ?_, HO3.out, HF3.out⟩
      have := HB3.out
      rw [List.take_length, List.append_assoc] at this
      exact this
end Go.Proofs.Ytdhdphmehjkbnaa
