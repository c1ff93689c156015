/- How streams and batches that came in are read; the stream law's awake. -/
import Derived.Test.YtdhdphmehjkbnaaStF
import Derived.Test.YtdhdphmehjkbnaaOpenV
namespace Go.Proofs.Ytdhdphmehjkbnaa
open Go.RowKit Go.Afx

theorem ocCol : Try.prog.cellsOf 109 = 2 := by kernel_rfl
theorem ocCols : Try.prog.cellsOf 22 = 1 := by kernel_rfl
theorem ocBat : Try.prog.cellsOf 38 = 2 := by kernel_rfl
theorem ocRows : Try.prog.cellsOf 36 = 1 := by kernel_rfl
def ColV.read (c : ColV) : Prop := c.name.size ≤ maxLen ∧ fit64 c.kind
structure StrV where
  name : ByteArray
  v : Value
  cols : List ColV
def StrV.agg (s : StrV) : Value := .agg #[.string s.name, s.v]
def BatV.read (b : BatV) : Prop := fit64 b.id ∧ ∀ r ∈ b.rows, ∀ a ∈ r.l, a.read
def BatV.agg (b : BatV) : Value := .agg #[.int .i64 b.id, b.v]
section
variable {H : Type} {enc : TypeId × Value → H} {w : World}
theorem open_cols_at {fuel : Nat} {v : Value} {y : DataW H × List MemPlace} (hf : DataW.trod enc Try.prog w 0 (fun _ => true) true fuel 22 [v] = some y) : ∃ l : List ColV, Sl w (fun _ => True) 2 v l.length (colCells l) ∧ ∀ c ∈ l, c.read := by
  obtain ⟨es, h1, h2⟩ := open_sl Try.underlying22 ocCol (by omega) hf (fun c => ∃ a : ColV, c = a.cells ∧ a.read) (fun c ⟨a, hc, _⟩ => by subst hc; intro u hu; simp [ColV.cells] at hu; rcases hu with rfl | rfl <;> rfl) (fun f c y hl hy => by
    obtain ⟨n, hfs⟩ := open_fields Try.underlying109 hy
    obtain ⟨c0, c1, rfl⟩ := list2 hl
    obtain ⟨y0, h0⟩ := hfs 0 _ rfl
    obtain ⟨y1, h1⟩ := hfs 1 _ rfl
    simp only [ocInt, ocStr, List.drop_zero, List.drop_succ_cons, List.take_succ_cons, List.take_zero] at h0 h1
    obtain ⟨s, e0, _, w0⟩ := DataW.trod_string Try.underlying9 h0
    obtain ⟨k, e1, _, w1⟩ := DataW.trod_int Try.underlying3 h1
    simp only [List.cons.injEq, and_true] at e0 e1
    subst e0 e1
    exact ⟨⟨s, k⟩, rfl, w0, wf_fit64 w1⟩)
  obtain ⟨l, rfl, h4⟩ := choose_list es (fun c hcm => (h1 c hcm).2)
  rw [List.length_map] at h2
  exact ⟨l, h2, h4⟩
theorem open_cols {v : Value} {d : DataW H} {ps : List MemPlace} (h : DataW.Trod enc Try.prog w 0 (fun _ => true) true 22 v d ps) (hv : v.cells.toList = [v]) :
    ∃ l : List ColV, Sl w (fun _ => True) 2 v l.length (colCells l) ∧ ∀ c ∈ l, c.read := by
  obtain ⟨fuel, hf⟩ := h
  rw [hv] at hf
  exact open_cols_at hf
theorem open_stream {cs : Array Value} {d : DataW H} {ps : List MemPlace} (h : DataW.Trod enc Try.prog w 0 (fun _ => true) true 24 (.agg cs) d ps) (hs : cs.size = 2) :
    ∃ s : StrV, Value.agg cs = s.agg ∧ s.name.size ≤ maxLen ∧ Sl w (fun _ => True) 2 s.v s.cols.length (colCells s.cols) ∧ ∀ c ∈ s.cols, c.read := by
  obtain ⟨fuel, hf⟩ := h
  have hf2 : DataW.trod enc Try.prog w 0 (fun _ => true) true fuel 24 cs.toList = some _ := hf
  obtain ⟨n, hfs⟩ := open_fields Try.underlying24 hf2
  obtain ⟨c0, c1, hcs⟩ := list2 (l := cs.toList) (by simpa using hs)
  rw [hcs] at hfs
  obtain ⟨y0, h0⟩ := hfs 0 _ rfl
  obtain ⟨y1, h1⟩ := hfs 1 _ rfl
  simp only [ocStr, ocCols, List.drop_zero, List.drop_succ_cons, List.take_succ_cons, List.take_zero] at h0 h1
  obtain ⟨s, e0, _, w0⟩ := DataW.trod_string Try.underlying9 h0
  obtain ⟨l, h2, h3⟩ := open_cols_at h1
  simp only [List.cons.injEq, and_true] at e0
  subst e0
  refine ⟨⟨s, c1, l⟩, ?_, w0, h2, h3⟩
  have : cs = #[.string s, c1] := by rw [← Array.toList_inj, hcs]
  rw [this]; rfl
theorem open_bat_at {fuel : Nat} {c : List Value} {y : DataW H × List MemPlace} (hl : c.length = 2) (hy : DataW.trod enc Try.prog w 0 (fun _ => true) true fuel 38 c = some y) : ∃ b : BatV, c = b.cells ∧ RowsAt w (fun _ => True) b.v b.rows ∧ b.read := by
  obtain ⟨n, hfs⟩ := open_fields Try.underlying38 hy
  obtain ⟨c0, c1, rfl⟩ := list2 hl
  obtain ⟨y0, h0⟩ := hfs 0 _ rfl
  obtain ⟨y1, h1⟩ := hfs 1 _ rfl
  simp only [ocInt, ocRows, List.drop_zero, List.drop_succ_cons, List.take_succ_cons, List.take_zero] at h0 h1
  obtain ⟨k, e0, _, w0⟩ := DataW.trod_int Try.underlying3 h0
  obtain ⟨rows, h2, h3⟩ := open_rows_at h1
  simp only [List.cons.injEq, and_true] at e0
  subst e0
  exact ⟨⟨k, c1, rows⟩, rfl, h2, wf_fit64 w0, h3⟩
theorem open_bats {v : Value} {d : DataW H} {ps : List MemPlace} (h : DataW.Trod enc Try.prog w 0 (fun _ => true) true 25 v d ps) (hv : v.cells.toList = [v]) :
    ∃ l : List BatV, BatAt w (fun _ => True) v l ∧ ∀ b ∈ l, b.read := by
  obtain ⟨fuel, hf⟩ := h
  rw [hv] at hf
  obtain ⟨es, h1, h2⟩ := open_sl Try.underlying25 ocBat (by omega) hf (fun c => ∃ b : BatV, c = b.cells ∧ RowsAt w (fun _ => True) b.v b.rows ∧ b.read) (fun c ⟨b, hc, hr, _⟩ => by subst hc; exact Ones.nil.cons (sl_one hr.1) |>.cons rfl) (fun f c y hl hy => open_bat_at hl hy)
  obtain ⟨l, rfl, h4⟩ := choose_list es (fun c hcm => (h1 c hcm).2)
  rw [List.length_map] at h2
  exact ⟨l, ⟨h2, fun b hb => (h4 b hb).1⟩, fun b hb => (h4 b hb).2⟩
end

theorem rowsat_nil (w : World) (B : Nat → Prop) : RowsAt w B (.slice none 0 0) [] := ⟨⟨by simp [rowVals], Ones.nil, .inl ⟨none, 0, rfl, rfl, Nat.zero_le _, fun _ => rfl⟩⟩, by simp⟩
theorem awake_right : rightC ⟨#[115]⟩ [⟨⟨#[97]⟩, 1⟩] = true := by rfl
theorem awake_fits : fitsB [⟨⟨#[97]⟩, 1⟩] (([] : List RowV).map RowV.l) = true := by rfl
theorem one_col (w : World) (c : ColV) : Sl (w.alloc (.cells #[.string c.name, .int .i64 c.kind] 109)) (fun _ => True) 2 (.slice (some ⟨w.heap.size, 0, none⟩) 1 1) [c].length (colCells [c]) :=
  (Own.made w 109 2 (colCells [c]) [] 1 1 rfl (by intro u hu; simp [colCells, ColV.cells] at hu; rcases hu with rfl | rfl <;> rfl) (Nat.le_refl _) (by simp [maxLen]) (by simp [colCells, ColV.cells])).sl (fun _ _ => trivial)

set_option maxRecDepth 100000 in
set_option maxHeartbeats 1000000 in
theorem st_awake (w : World) : Calls Try.prog 13 #[] w fun e w' => e = .returned (.bool true) ∧ Below w.heap.size w w' := by
  have hal : Below w.heap.size w (w.alloc (.cells #[.string ⟨#[97]⟩, .int .i64 1] 109)) := (Below.refl _ _).alloc (Nat.le_refl _) _
  have HN := Lib.hid (newborder_any _ _ ⟨#[115]⟩ _ [⟨⟨#[97]⟩, 1⟩] (one_col w ⟨⟨#[97]⟩, 1⟩) (by unfold maxLen; decide) (by intro c hc; rw [List.mem_singleton.1 hc]; unfold maxLen; decide) (by simp))
  have HAL := Lib.hid hal
  clear hal
  go_enter Try.func13, Try.ntmps13
  go_wp2_with fail
  refine HN.out.mono ?_
  clear HN
  rintro e w2 hno
  rcases hno with ⟨hr, _⟩ | ⟨hr, b, rfl, hb0, hi, hb⟩
  · rw [awake_right] at hr; cases hr
  have HB2 := Lib.hid (HAL.out.trans (hb.mono HAL.out.size))
  have hbw : w.heap.size ≤ b := Nat.le_trans HAL.out.size hb0
  have ht1 := btake w2 b _ _ 0 hi 1 ⟨by decide, by decide⟩ (fun _ => True) _ [] (rowsat_nil _ _) (by simp)
  rw [awake_fits] at ht1
  have HT1 : Hid (Calls Try.prog 21 #[.pointer (some ⟨b, 0, none⟩), .agg #[.int .i64 1, .slice none 0 0]] w2 fun e w' => e = .returned (.int .i64 0) ∧ IsBorder w' b ⟨#[115]⟩ [⟨⟨#[97]⟩, 1⟩] 1 ∧ Only (fun k => k = b) w2 w') := ht1
  clear hi hb hb0 ht1 hr
  go_wp2_with fail
  refine HT1.out.mono ?_
  clear HT1
  rintro e w3 ⟨rfl, hi3, ho3⟩
  have ht2 := btake w3 b _ _ 1 hi3 3 ⟨by decide, by decide⟩ (fun _ => True) _ [] (rowsat_nil _ _) (by simp)
  rw [awake_fits] at ht2
  have HT2 : Hid (Calls Try.prog 21 #[.pointer (some ⟨b, 0, none⟩), .agg #[.int .i64 3, .slice none 0 0]] w3 fun e w' => e = .returned (.int .i64 10) ∧ IsBorder w' b ⟨#[115]⟩ [⟨⟨#[97]⟩, 1⟩] 1 ∧ Only (fun k => k = b) w3 w') := ht2
  have HB3 := Lib.hid (HB2.out.trans (ho3.below HB2.out.size (fun k hk => by omega)))
  clear hi3 ho3 ht2
  go_wp2_with fail
  refine HT2.out.mono ?_
  clear HT2
  rintro e w4 ⟨rfl, hi4, ho4⟩
  have ht3 := btake w4 b _ _ 1 hi4 1 ⟨by decide, by decide⟩ (fun _ => True) _ [] (rowsat_nil _ _) (by simp)
  rw [awake_fits] at ht3
  have HT3 : Hid (Calls Try.prog 21 #[.pointer (some ⟨b, 0, none⟩), .agg #[.int .i64 1, .slice none 0 0]] w4 fun e w' => e = .returned (.int .i64 9) ∧ IsBorder w' b ⟨#[115]⟩ [⟨⟨#[97]⟩, 1⟩] 1 ∧ Only (fun k => k = b) w4 w') := ht3
  have HB4 := Lib.hid (HB3.out.trans (ho4.below HB3.out.size (fun k hk => by omega)))
  clear hi4 ho4 ht3
  go_wp2_with fail
  refine HT3.out.mono ?_
  clear HT3
  rintro e w5 ⟨rfl, hi5, ho5⟩
  have HM := Lib.hid (bmark w5 b _ _ _ hi5)
  have HB5 := Lib.hid (HB4.out.trans (ho5.below HB4.out.size (fun k hk => by omega)))
  clear hi5 ho5
  go_wp2_with (go_at_call 20; refine HM.out.mono ?_; clear HM; rintro e w6 ⟨rfl, rfl⟩)
  go_ret
  exact ⟨rfl, HB5.out⟩
end Go.Proofs.Ytdhdphmehjkbnaa
