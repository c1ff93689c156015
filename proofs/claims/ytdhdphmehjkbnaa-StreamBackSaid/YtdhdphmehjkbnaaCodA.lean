/- Read; the document's examples (codec's awake). -/
import Derived.Test.YtdhdphmehjkbnaaWrN
namespace Go.Proofs.Ytdhdphmehjkbnaa
open Go.RowKit Go.Afx

theorem Sl.within {w : World} {B : Nat → Prop} {sz : Nat} {v : Value} {n : Nat} {cs : List Value} (h : Sl w B sz v n cs) (C : Nat → Prop) (hC : ∀ k, v.ownBlock = some k → C k) : Sl w C sz v n cs := by
  obtain ⟨h1, h2, h3⟩ := h
  refine ⟨h1, h2, ?_⟩
  rcases h3 with h3 | ⟨g, off, cap, rfl, a1, a2, a3, a4, a5⟩
  · exact .inl h3
  · exact .inr ⟨g, off, cap, rfl, a1, a2, hC g rfl, a4, a5⟩

set_option maxRecDepth 100000 in
theorem read_any (w : World) (s : ByteArray) (hs : s.size ≤ 1000000000) :
    Calls Try.prog 44 #[.string s] w fun e w' => e = .returned (.pointer (some ⟨w.heap.size + 1, 0, none⟩)) ∧ Rdr w' (some ⟨w.heap.size + 1, 0, none⟩) (fun k => k = w.heap.size) false s.data.toList ∧ Below w.heap.size w w' := by
  have kc : ∀ w, (convert 9 60 (.string s)).run Try.prog w = .ok (.slice (some ⟨w.heap.size, 0, none⟩) s.size (cvCap w s 5)) (cvW w s 5) := fun w => run_cv w _ _ _ s Try.underlying9 Try.underlying60 Try.underlying5
  have hsl := (cv_sl w s).resolve_right (by unfold maxLen; omega)
  have HSL := Lib.hid hsl
  have HB := Lib.hid (cvW_below w s 5)
  have hsz := cvW_size w s 5
  have HSZ := Lib.hid hsz
  have hss : s.size = s.data.toList.length := size_list s _ rfl
  have HSS := Lib.hid hss
  clear hsl hss
  go_enter Try.func44, Try.ntmps44
  go_wp2
  go_ret
  have hal : Below (cvW w s 5).heap.size (cvW w s 5) ((cvW w s 5).alloc (.cells #[.slice (some ⟨w.heap.size, 0, none⟩) s.size (cvCap w s 5), .bool false] 130)) := (Below.refl _ _).alloc (Nat.le_refl _) _
  have hk := Blk.new (cvW w s 5) 130 [.slice (some ⟨w.heap.size, 0, none⟩) s.size (cvCap w s 5), .bool false]
  refine ⟨rfl, .inr ⟨w.heap.size + 1, rfl, .slice (some ⟨w.heap.size, 0, none⟩) s.size (cvCap w s 5), ?_, ?_, fun h => by cases h⟩, HB.out.trans (hal.mono (by rw [HSZ.out]; omega))⟩
  · rw [HSZ.out] at hk; exact hk
  · refine Sl.within (HSL.out.below hal) _ (fun k hk => ?_)
    have : w.heap.size = k := by simpa [Value.ownBlock] using hk
    exact ⟨by omega, this.symm⟩

theorem numB_300 : numB 300 = [2, 1, 44] := by
  unfold numB
  rw [be_pos 300 (by decide), show 300 / 256 = 1 from rfl, be_pos 1 (by decide), show 1 / 256 = 0 from rfl, be_zero]; rfl
theorem numB_one (n : Nat) (h0 : 0 < n) (h : n < 256) : numB n = [1, UInt8.ofNat n] := by
  unfold numB
  rw [be_pos n h0, Nat.div_eq_of_lt h, be_zero, Nat.mod_eq_of_lt h]; rfl
theorem awake_two : laid sizeB [300] ++ laid signB [-1] = [2, 1, 44, 1, 1] := by
  have e1 : laid sizeB [300] = [2, 1, 44] := by
    have : sizeB 300 = numB 300 := rfl
    simp only [laid, List.map_cons, List.map_nil, List.flatten_cons, List.flatten_nil, List.append_nil]
    rw [this, numB_300]
  have e2 : laid signB [-1] = [1, 1] := by
    have : signB (-1) = numB 1 := rfl
    simp only [laid, List.map_cons, List.map_nil, List.flatten_cons, List.flatten_nil, List.append_nil]
    rw [this, numB_one 1 (by decide) (by decide)]; rfl
  rw [e1, e2]; rfl
theorem awake_bytes : laid sizeB [300] ++ laid signB [-1] ++ rowB [⟨1, 1, ⟨#[]⟩⟩, ⟨3, 1, ⟨#[]⟩⟩] = [2, 1, 44, 1, 1, 1, 2, 1, 1, 2, 3, 1] := by
  have e3 : sizeB (2 : Int) = [1, 2] := by
    have : sizeB 2 = numB 2 := rfl
    rw [this, numB_one 2 (by decide) (by decide)]; rfl
  have r1 : (⟨1, 1, ⟨#[]⟩⟩ : AV).right = true := by simp [AV.right, ByteArray.toList_eq]
  have r2 : (⟨3, 1, ⟨#[]⟩⟩ : AV).right = true := by simp [AV.right, ByteArray.toList_eq]
  have e4 : signB 1 = [1, 2] := by
    have : signB 1 = numB 2 := rfl
    rw [this, numB_one 2 (by decide) (by decide)]; rfl
  have e5 : laid valB [⟨1, 1, ⟨#[]⟩⟩, ⟨3, 1, ⟨#[]⟩⟩] = [1, 1, 2, 3, 1] := by
    simp only [laid, List.map_cons, List.map_nil, List.flatten_cons, List.flatten_nil, List.append_nil]
    unfold valB
    rw [if_pos r1, if_pos r2]
    unfold rightB
    rw [if_pos rfl, e4]; rfl
  unfold rowB
  rw [awake_two, e5]
  show [2, 1, 44, 1, 1] ++ (sizeB (2 : Int) ++ [1, 1, 2, 3, 1]) = _
  rw [e3]; rfl

theorem awake_row : rRow 2 false [1, 2, 1, 1, 2, 3, 1] = ([⟨1, 1, ⟨#[]⟩⟩, ⟨3, 1, ⟨#[]⟩⟩], false, []) := by
  have r1 : (⟨1, 1, ⟨#[]⟩⟩ : AV).right = true := by simp [AV.right, ByteArray.toList_eq]
  have r2 : (⟨3, 1, ⟨#[]⟩⟩ : AV).right = true := by simp [AV.right, ByteArray.toList_eq]
  have a1 : rRaw false [1, 1, 2, 3, 1] = (⟨1, 1, ⟨#[]⟩⟩, false, [3, 1]) := by rfl
  have a2 : rRaw false [3, 1] = (⟨3, 1, ⟨#[]⟩⟩, false, []) := by rfl
  have v1 : rVal false [1, 1, 2, 3, 1] = (⟨1, 1, ⟨#[]⟩⟩, false, [3, 1]) := by unfold rVal; rw [a1]; simp [r1]
  have v2 : rVal false [3, 1] = (⟨3, 1, ⟨#[]⟩⟩, false, []) := by unfold rVal; rw [a2]; simp [r2]
  have s1 : rSize 2 false [1, 2, 1, 1, 2, 3, 1] = (2, false, [1, 1, 2, 3, 1]) := by rfl
  unfold rRow rList
  simp only [s1, rMany, v1, v2]
  rfl
theorem Buf.widen {w : World} {t : TypeId} {b : Nat} {F : Nat → Prop} {rest : List Value} {l : List UInt8} (h : Buf w t b F rest l) (w0 : Nat) (hF : ∀ k, F k → w0 ≤ k) : Buf w t b (fun k => w0 ≤ k ∧ k < w.heap.size) rest l := by
  obtain ⟨bv, h1, h2, h3, h4⟩ := h
  exact ⟨bv, h1, h2, ⟨hF _ h3, h1.lt⟩, fun k hk => ⟨⟨hF _ (h4 k hk).1, h2.lt k hk⟩, (h4 k hk).2⟩⟩
theorem Buf.new (w : World) : Buf (w.alloc (.cells #[.slice none 0 0] 64)) 64 w.heap.size (fun k => w.heap.size ≤ k ∧ k < (w.alloc (.cells #[.slice none 0 0] 64)).heap.size) [] [] :=
  ⟨.slice none 0 0, Blk.new w _ _, Own.nil _ _ _, ⟨Nat.le_refl _, by simp⟩, fun k hk => by simp [Value.ownBlock] at hk⟩
theorem one_i64 (w : World) (n : Int) (F : Nat → Prop) (hF : ∀ k, F k → k < w.heap.size) : Sl (w.alloc (.cells #[.int .i64 n] 2)) (fun k => ¬ F k) 1 (.slice (some ⟨w.heap.size, 0, none⟩) 1 1) [n].length (ints [n]) :=
  (Own.made w 2 1 (ints [n]) [] 1 1 rfl (Ones.nil.cons rfl) (Nat.le_refl _) (by simp [maxLen]) (by simp [ints])).sl (fun k hk h => by
    have h1 : w.heap.size = k := by simpa [Value.ownBlock] using hk
    have := hF k h; omega)
theorem one_int2 (w : World) (n : Int) (F : Nat → Prop) (hF : ∀ k, F k → k < w.heap.size) : Sl (w.alloc (.cells #[.int .i64 n] 3)) (fun k => ¬ F k) 1 (.slice (some ⟨w.heap.size, 0, none⟩) 1 1) [n].length (ints [n]) :=
  Sl.within (one_int w n) _ (fun k hk h => by
    have h1 : w.heap.size = k := by simpa [Value.ownBlock] using hk
    have := hF k h; omega)

theorem two_vals (w : World) (F : Nat → Prop) (hF : ∀ k, F k → k < w.heap.size) (a b : AV) :
    Sl (w.alloc (.cells #[.int .i64 a.kind, .int .i64 a.n, .string a.s, .int .i64 b.kind, .int .i64 b.n, .string b.s] 56)) (fun k => ¬ F k) 3 (.slice (some ⟨w.heap.size, 0, none⟩) 2 2) [a, b].length (rowCells [a, b]) :=
  Sl.within (B := fun _ => True) ((Own.made w 56 3 (rowCells [a, b]) [] 2 2 rfl (by intro u hu; simp [rowCells, AV.cells] at hu; rcases hu with rfl | rfl | rfl | rfl | rfl | rfl <;> rfl) (Nat.le_refl _) (by simp [maxLen]) (by simp [rowCells, AV.cells])).sl (fun _ _ => trivial)) _ (fun k hk h => by
    have h1 : w.heap.size = k := by simpa [Value.ownBlock] using hk
    have := hF k h; omega)

/-- What the writer leaves: the bytes l in memory that is new since n0. -/
def Wrote (n0 : Nat) (b : Nat) (w : World) (l : List UInt8) : Prop := Buf w 64 b (fun k => n0 ≤ k ∧ k < w.heap.size) [] l
theorem wrote_of {n0 b : Nat} {w w' : World} {F F' : Nat → Prop} {l : List UInt8} (hF : ∀ k, F k → n0 ≤ k) (hn : n0 ≤ w.heap.size) (h1 : Buf w' 64 b F' [] l) (h2 : Only F w w') (h3 : ∀ k, F' k → F k ∨ w.heap.size ≤ k) : Wrote n0 b w' l ∧ Below n0 w w' :=
  ⟨h1.widen n0 (fun k hk => by rcases h3 k hk with h | h; exact hF k h; omega), h2.below hn hF⟩

set_option maxRecDepth 100000 in
set_option maxHeartbeats 1000000 in
theorem codec_awake (w : World) : Calls Try.prog 27 #[] w fun e w' => e = .returned (.bool true) ∧ Below w.heap.size w w' := by
  have hbn := Buf.new w
  have hb0 : Below w.heap.size w (w.alloc (.cells #[.slice none 0 0] 64)) := (Below.refl _ _).alloc (Nat.le_refl _) _
  go_enter Try.func27, Try.ntmps27
  generalize hw1 : w.alloc (.cells #[.slice none 0 0] 64) = w1 at *
  have hal1 : Below w1.heap.size w1 (w1.alloc (.cells #[.int .i64 300] 3)) := (Below.refl _ _).alloc (Nat.le_refl _) _
  have HS1 := Lib.hid (size_wr _ _ _ _ _ _ (hbn.below hal1) _ [300] (one_int2 w1 300 _ (fun k hk => hk.2)) (by intro n hn; rw [List.mem_singleton.1 hn]; exact ⟨by decide, by decide⟩) (by simp) (by simp))
  have HB1 := Lib.hid (hb0.alloc hb0.size (.cells #[.int .i64 300] 3))
  clear hbn hb0 hal1
  go_wp2_with (first | rw [hw1])
  clear hw1
  refine HS1.out.mono ?_
  clear HS1
  rintro e w2 ⟨rfl, F2, h21, h22, h23⟩
  obtain ⟨hw2, hbw2⟩ := wrote_of (fun k hk => hk.1) HB1.out.size h21 h22 h23
  have hal2 : Below w2.heap.size w2 (w2.alloc (.cells #[.int .i64 (-1)] 2)) := (Below.refl _ _).alloc (Nat.le_refl _) _
  have hb2 := HB1.out.trans hbw2
  have HS2 := Lib.hid (signed_wr _ _ _ _ _ _ (Buf.below hw2 hal2) _ [-1] (one_i64 w2 (-1) _ (fun k hk => hk.2)) (by intro n hn; rw [List.mem_singleton.1 hn]; exact ⟨by decide, by decide⟩) (by have := be_len8 300 (by decide); simp [laid]; exact Nat.le_trans this (by decide)) (by simp))
  have HB2 := Lib.hid (hb2.alloc hb2.size (.cells #[.int .i64 (-1)] 2))
  clear h21 h22 h23 hw2 hbw2 hal2 hb2 HB1
  go_wp2_with fail
  refine HS2.out.mono ?_
  clear HS2
  rintro e w3 ⟨rfl, F3, h31, h32, h33⟩
  obtain ⟨hw3, hbw3⟩ := wrote_of (fun k hk => hk.1) HB2.out.size h31 h32 h33
  have hal3 : Below w3.heap.size w3 (w3.alloc (.cells #[.int .i64 1, .int .i64 1, .string ⟨#[]⟩, .int .i64 3, .int .i64 1, .string ⟨#[]⟩] 56)) := (Below.refl _ _).alloc (Nat.le_refl _) _
  have hb3 := HB2.out.trans hbw3
  have HS3 := Lib.hid (row_wr _ _ _ _ _ _ (Buf.below hw3 hal3) _ [⟨1, 1, ⟨#[]⟩⟩, ⟨3, 1, ⟨#[]⟩⟩] (two_vals w3 _ (fun k hk => hk.2) _ _) (by intro n hn; simp at hn; rcases hn with rfl | rfl <;> exact ⟨by decide, by decide⟩) (by rw [List.nil_append, awake_two]; decide) (by simp))
  have HB3 := Lib.hid (hb3.alloc hb3.size (.cells #[.int .i64 1, .int .i64 1, .string ⟨#[]⟩, .int .i64 3, .int .i64 1, .string ⟨#[]⟩] 56))
  clear h31 h32 h33 hw3 hbw3 hal3 hb3 HB2
  go_wp2_with fail
  refine HS3.out.mono ?_
  clear HS3
  rintro e w4 ⟨rfl, F4, h41, h42, h43⟩
  rw [List.nil_append, awake_bytes] at h41
  obtain ⟨hw4, hbw4⟩ := wrote_of (fun k hk => hk.1) HB3.out.size h41 h42 h43
  have hb4 := HB3.out.trans hbw4
  have HST := Lib.hid (fun w' (h : Below w4.heap.size w4 w') => string_wr w' _ _ _ _ _ (Buf.below hw4 h))
  have HLN := Lib.hid (fun w' (h : Below w4.heap.size w4 w') => len_wr w' _ _ _ _ _ (Buf.below hw4 h))
  have HRD := Lib.hid (read_any w4 ⟨#[2, 1, 44, 1, 1, 1, 2, 1, 1, 2, 3, 1]⟩ (by decide))
  have HST4 := Lib.hid (HST.out w4 (Below.refl _ _))
  have HB4 := Lib.hid hb4
  clear h41 h42 h43 hw4 hbw4 hb4 HB3
  go_wp2_with (first
    | (go_at_call 40; refine HST4.out.mono ?_; clear HST4; rintro e w5 ⟨rfl, rfl⟩)
    | (go_at_call 44; refine HRD.out.mono ?_; clear HRD; rintro e w6 ⟨rfl, h61, h62⟩; have HST6 := Lib.hid (HST.out _ h62); have HLN6 := Lib.hid (HLN.out _ h62); have H61 := Lib.hid h61; have H62 := Lib.hid h62; clear h61 h62 HST HLN)
    | (go_at_call 40; refine HST6.out.mono ?_; rintro e w7 ⟨rfl, rfl⟩)
    | (go_at_call 41; refine HLN6.out.mono ?_; rintro e w7 ⟨rfl, rfl⟩)
    | (go_at_call 71; refine (size_r w6 _ _ _ H61.out 300 ⟨by decide, by decide⟩).mono ?_; rintro e w7 ⟨he, h71, h72⟩; rw [show rSize 300 false [2, 1, 44, 1, 1, 1, 2, 1, 1, 2, 3, 1] = (300, false, [1, 1, 1, 2, 1, 1, 2, 3, 1]) from rfl] at he h71; subst he; have H71 := Lib.hid h71; have H72 := Lib.hid h72; clear h71 h72)
    | (go_at_call 47; refine (sign_r w7 _ _ _ H71.out).mono ?_; rintro e w8 ⟨he, h81, h82⟩; rw [show rSign false [1, 1, 1, 2, 1, 1, 2, 3, 1] = (-1, false, [1, 2, 1, 1, 2, 3, 1]) from rfl] at he h81; subst he; have H81 := Lib.hid h81; have H82 := Lib.hid h82; clear h81 h82)
    | (go_at_call 72; refine (row_r w8 _ _ _ H81.out (by intro k hk; subst hk; have := H61.out.lt _ rfl; have h1 := H72.out.size; have h2 := H82.out.size; omega) 2 ⟨by decide, by decide⟩ (by decide)).mono ?_; rintro e w9 ⟨v9, he, h91, h92, h93, h94⟩; rw [awake_row] at h91 h93; subst he; obtain ⟨p9, c9, rfl, _, _⟩ := own_form2 h91; have H93 := Lib.hid h93; have H94 := Lib.hid h94; clear h91 h92 h93 h94)
    | (go_at_call 73; refine (end_r w9 _ _ _ H93.out).mono ?_; rintro e w10 ⟨rfl, rfl⟩))
  go_ret
  refine ⟨rfl, ?_⟩
  have hm : ∀ k, Mine (some ⟨w4.heap.size + 1, 0, none⟩) k → w4.heap.size ≤ k := fun k hk => by rw [mine_eq hk]; omega
  have hlt := H61.out.lt _ rfl
  have h7 : Below w4.heap.size w4 w7 := H62.out.trans (H72.out.below H62.out.size hm)
  have h8 : Below w4.heap.size w4 w8 := h7.trans (H82.out.below h7.size hm)
  have h9 : Below w4.heap.size w4 w9 := h8.trans (H94.out.below h8.size hm)
  exact HB4.out.trans (h9.mono HB4.out.size)
end Go.Proofs.Ytdhdphmehjkbnaa
