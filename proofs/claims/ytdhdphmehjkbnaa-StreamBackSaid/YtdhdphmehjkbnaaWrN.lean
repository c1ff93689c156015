/- A writer that there isn't; bytes that there aren't. -/
import Derived.Test.YtdhdphmehjkbnaaRefG
namespace Go.Proofs.Ytdhdphmehjkbnaa
open Go.RowKit Go.Afx

theorem wstr_nil (w : World) : Calls Try.prog 40 #[.pointer none] w fun e w' => e = .returned (.string ⟨#[]⟩) ∧ w = w' := by
  go_enter Try.func40, Try.ntmps40
  go_wp2
  go_ret
  exact ⟨rfl, rfl⟩
theorem wlen_nil (w : World) : Calls Try.prog 41 #[.pointer none] w fun e w' => e = .returned (.int .i64 0) ∧ w = w' := by
  go_enter Try.func41, Try.ntmps41
  go_wp2
  go_ret
  exact ⟨rfl, rfl⟩
theorem bstr_nil (w : World) : Calls Try.prog 42 #[.pointer none] w fun e w' => e = .returned (.string ⟨#[]⟩) ∧ w = w' := by
  go_enter Try.func42, Try.ntmps42
  go_wp2
  go_ret
  exact ⟨rfl, rfl⟩
theorem blen_nil (w : World) : Calls Try.prog 43 #[.pointer none] w fun e w' => e = .returned (.int .i64 0) ∧ w = w' := by
  go_enter Try.func43, Try.ntmps43
  go_wp2
  go_ret
  exact ⟨rfl, rfl⟩

theorem size_nil (w : World) (B : Nat → Prop) (v : Value) (x : List Int) (hx : Sl w B 1 v x.length (ints x)) :
    Calls Try.prog 34 #[.pointer none, v] w fun e w' => e = .returned (.pointer none) ∧ w = w' := by
  obtain ⟨p, cap, rfl, hc1, hc2⟩ := hx.form
  have HX := Lib.hid hx
  clear hx
  go_enter Try.func34, Try.ntmps34
  go_wp2
  go_loop [9] (fun i => ∃ k : Nat, i = .int .i64 k ∧ k ≤ x.length) (fun i => x.length - (intOf i).toNat)
  case atStart => exact ⟨0, rfl, Nat.zero_le _⟩
  case round =>
    obtain ⟨k, rfl, hk⟩ := hrel
    by_cases hka : k < x.length
    · obtain ⟨g, off, cap', hv, _, _, hgb, hglt, hc⟩ := HX.out.place (by omega)
      cases hv
      have hc0 : w.cell? ⟨g, off + k, none⟩ = some (.int .i64 x[k]) := by rw [hc k (by simpa [ints] using hka)]; simp [ints, hka]
      clear hc
      generalize x[k] = n at *
      go_wp2
      go_round
      case rel => exact ⟨k + 1, by go_num, by omega⟩
      case measure => (simp [intOf]) <;> omega
    · obtain rfl : k = x.length := by omega
      go_wp2
      go_ret
      exact ⟨rfl, rfl⟩
theorem text_nil (w : World) (B : Nat → Prop) (v : Value) (x : List ByteArray) (hx : Sl w B 1 v x.length (strs x)) :
    Calls Try.prog 36 #[.pointer none, v] w fun e w' => e = .returned (.pointer none) ∧ w = w' := by
  obtain ⟨p, cap, rfl, hc1, hc2⟩ := hx.form
  have HX := Lib.hid hx
  clear hx
  go_enter Try.func36, Try.ntmps36
  go_wp2
  go_loop [9] (fun i => ∃ k : Nat, i = .int .i64 k ∧ k ≤ x.length) (fun i => x.length - (intOf i).toNat)
  case atStart => exact ⟨0, rfl, Nat.zero_le _⟩
  case round =>
    obtain ⟨k, rfl, hk⟩ := hrel
    by_cases hka : k < x.length
    · obtain ⟨g, off, cap', hv, _, _, hgb, hglt, hc⟩ := HX.out.place (by omega)
      cases hv
      have hc0 : w.cell? ⟨g, off + k, none⟩ = some (.string x[k]) := by rw [hc k (by simpa [strs] using hka)]; simp [strs, hka]
      clear hc
      generalize x[k] = n at *
      go_wp2
      go_round
      case rel => exact ⟨k + 1, by go_num, by omega⟩
      case measure => (simp [intOf]) <;> omega
    · obtain rfl : k = x.length := by omega
      go_wp2
      go_ret
      exact ⟨rfl, rfl⟩
theorem value_nil (w : World) (B : Nat → Prop) (v : Value) (l : List AV) (hl : Sl w B 3 v l.length (rowCells l)) :
    Calls Try.prog 37 #[.pointer none, v] w fun e w' => e = .returned (.pointer none) ∧ Below w.heap.size w w' := by
  obtain ⟨p, cap, rfl, hc1, hc2⟩ := hl.form
  have HX := Lib.hid hl
  clear hl
  go_enter Try.func37, Try.ntmps37
  go_wp2
  go_loopw [9] (fun i wr => ∃ k : Nat, i = .int .i64 k ∧ k ≤ l.length ∧ Below w.heap.size w wr) (fun i _ => l.length - (intOf i).toNat)
  case atStart => exact ⟨0, rfl, Nat.zero_le _, Below.refl _ _⟩
  case round =>
    obtain ⟨k, rfl, hk, hb⟩ := hrel
    have HB := Lib.hid hb
    by_cases hka : k < l.length
    · obtain ⟨g, off, cap', hv, hg, e0, e1, e2⟩ := sl_av (HX.out.below hb) hka
      cases hv
      clear hb
      generalize l[k] = n at *
      go_wp2
      go_roundw
      case rel => exact ⟨k + 1, by go_num, by omega, by first | exact HB.out | exact HB.out.alloc HB.out.size _⟩
      case measure => (simp [intOf]) <;> omega
    · obtain rfl : k = l.length := by omega
      clear hb
      go_wp2
      go_ret
      exact ⟨rfl, HB.out⟩
theorem one_int (w : World) (n : Int) : Sl (w.alloc (.cells #[.int .i64 n] 3)) (fun _ => True) 1 (.slice (some ⟨w.heap.size, 0, none⟩) 1 1) [n].length (ints [n]) :=
  (Own.made w 3 1 (ints [n]) [] 1 1 rfl (Ones.nil.cons rfl) (Nat.le_refl _) (by simp [maxLen]) (by simp [ints])).sl (fun _ _ => trivial)
theorem row_nil (w : World) (B : Nat → Prop) (v : Value) (l : List AV) (hl : Sl w B 3 v l.length (rowCells l)) :
    Calls Try.prog 38 #[.pointer none, v] w fun e w' => e = .returned (.pointer none) ∧ Below w.heap.size w w' := by
  obtain ⟨p, cap, rfl, hc1, hc2⟩ := hl.form
  have hal : Below w.heap.size w (w.alloc (.cells #[.int .i64 (l.length : Int)] 3)) := (Below.refl _ _).alloc (Nat.le_refl _) _
  have HS := Lib.hid (size_nil _ _ _ _ (one_int w l.length))
  have HV := Lib.hid (value_nil _ _ _ _ (hl.below hal))
  have HAL := Lib.hid hal
  clear hl hal
  go_enter Try.func38, Try.ntmps38
  go_wp2_with (first
    | (go_at_call 34; refine HS.out.mono ?_; rintro e w2 ⟨rfl, rfl⟩)
    | (go_at_call 37; refine HV.out.mono ?_; rintro e w3 ⟨rfl, hb3⟩))
  go_ret
  exact ⟨rfl, HAL.out.trans (hb3.mono HAL.out.size)⟩
theorem rows_nil (w : World) (B : Nat → Prop) (v : Value) (rows : List RowV) (hl : RowsAt w B v rows) :
    Calls Try.prog 39 #[.pointer none, v] w fun e w' => e = .returned (.pointer none) ∧ Below w.heap.size w w' := by
  obtain ⟨p, cap, rfl, hc1, hc2⟩ := hl.1.form
  have hal : Below w.heap.size w (w.alloc (.cells #[.int .i64 (rows.length : Int)] 3)) := (Below.refl _ _).alloc (Nat.le_refl _) _
  have HS := Lib.hid (size_nil _ _ _ _ (one_int w rows.length))
  have HX := Lib.hid hl
  have HAL := Lib.hid hal
  clear hl hal
  go_enter Try.func39, Try.ntmps39
  go_wp2_with (go_at_call 34; refine HS.out.mono ?_; rintro e w2 ⟨rfl, rfl⟩)
  go_loopw [14] (fun i wr => ∃ k : Nat, i = .int .i64 k ∧ k ≤ rows.length ∧ Below w.heap.size w wr) (fun i _ => rows.length - (intOf i).toNat)
  case atStart => exact ⟨0, rfl, Nat.zero_le _, HAL.out⟩
  case round =>
    obtain ⟨k, rfl, hk, hb⟩ := hrel
    have HB := Lib.hid hb
    by_cases hka : k < rows.length
    · obtain ⟨g, off, cap', hv, hck⟩ := (HX.out.below hb).at hka
      cases hv
      have HR := Lib.hid (row_nil _ _ _ _ ((HX.out.below hb).2 rows[k] (List.getElem_mem hka)))
      clear hb
      generalize rows[k] = n at *
      go_wp2_with (go_at_call 38; refine HR.out.mono ?_; clear HR; rintro e w3 ⟨rfl, hb3⟩)
      go_roundw
      case rel => exact ⟨k + 1, by go_num, by omega, HB.out.trans (hb3.mono HB.out.size)⟩
      case measure => (simp [intOf]) <;> omega
    · obtain rfl : k = rows.length := by omega
      clear hb
      go_wp2
      go_ret
      exact ⟨rfl, HB.out⟩
end Go.Proofs.Ytdhdphmehjkbnaa
