/- The law StreamNone: what the walk shows. -/
import Derived.Test.YtdhdphmehjkbnaaStO
import Derived.Test.YtdhdphmehjkbnaaPtM
namespace Go.Proofs.Ytdhdphmehjkbnaa
open Go.RowKit Go.Afx

theorem llen_nil (w : World) : Calls Try.prog 58 #[.pointer none] w fun e w' => e = .returned (.int .i64 0) ∧ w = w' := by
  go_enter Try.func58, Try.ntmps58
  go_wp2
  go_ret
  exact ⟨rfl, rfl⟩
theorem lrows_nil (w : World) : Calls Try.prog 59 #[.pointer none] w fun e w' => e = .returned (.int .i64 0) ∧ w = w' := by
  go_enter Try.func59, Try.ntmps59
  go_wp2
  go_ret
  exact ⟨rfl, rfl⟩
theorem lbat_nil (w : World) (p : Option Addr) (n c : Nat) : Calls Try.prog 60 #[.pointer none, .slice p n c] w fun e w' => e = .returned (.slice none 0 0) ∧ w = w' := by
  go_enter Try.func60, Try.ntmps60
  go_wp2
  go_ret
  exact ⟨rfl, rfl⟩
theorem lput_nil (w : World) (id : Int) (p : Option Addr) (n c : Nat) : Calls Try.prog 54 #[.pointer none, .agg #[.int .i64 id, .slice p n c]] w fun e w' => e = .returned (.int .i64 1) ∧ Below w.heap.size w w' := by
  go_enter Try.func54, Try.ntmps54
  go_wp2
  go_ret
  exact ⟨rfl, (Below.refl _ _).alloc (Nat.le_refl _) _⟩
theorem lfirst_nil (w : World) : Calls Try.prog 55 #[.pointer none] w fun e w' => e = .returned (.tuple #[.agg #[.int .i64 0, .slice none 0 0], .bool false]) ∧ Below w.heap.size w w' := by
  have hal : Below w.heap.size w (w.alloc (.cells #[.int .i64 0, .slice none 0 0] 38)) := (Below.refl _ _).alloc (Nat.le_refl _) _
  have HL := Lib.hid (llen_nil (w.alloc (.cells #[.int .i64 0, .slice none 0 0] 38)))
  have HAL := Lib.hid hal
  clear hal
  go_enter Try.func55, Try.ntmps55
  go_wp2_with (go_at_call 58; refine HL.out.mono ?_; clear HL; rintro e w2 ⟨rfl, rfl⟩)
  refine bodyPost_ret (v := .tuple #[.agg #[.int .i64 0, .slice none 0 0], .bool false]) (by simp [results, Try.results55, go_sem]) rfl ⟨rfl, ?_⟩
  exact HAL.out
theorem ltake_nil (w : World) : Calls Try.prog 56 #[.pointer none] w fun e w' => e = .returned (.tuple #[.agg #[.int .i64 0, .slice none 0 0], .bool false]) ∧ Below w.heap.size w w' := by
  have hal : Below w.heap.size w (w.alloc (.cells #[.int .i64 0, .slice none 0 0] 38)) := (Below.refl _ _).alloc (Nat.le_refl _) _
  have HK : Hid (Blk (w.alloc (.cells #[.int .i64 0, .slice none 0 0] 38)) w.heap.size 38 [.int .i64 0, .slice none 0 0]) := Blk.new w _ _
  have HF := Lib.hid (lfirst_nil (w.alloc (.cells #[.int .i64 0, .slice none 0 0] 38)))
  have HAL := Lib.hid hal
  clear hal
  go_enter Try.func56, Try.ntmps56
  go_wp2_with fail
  refine HF.out.mono ?_
  clear HF
  rintro e w2 ⟨rfl, hb2⟩
  have hk2 := HK.out.below hb2
  have k0 : w2.cell? ⟨w.heap.size, 0, none⟩ = some (.int .i64 0) := hk2.cell 0
  have k1 : w2.cell? ⟨w.heap.size, 1, none⟩ = some (.slice none 0 0) := hk2.cell 1
  have kf : ∀ i, w2.frozen? ⟨w.heap.size, i, none⟩ = false := hk2.frozen
  have hlt : w.heap.size < w2.heap.size := hk2.lt
  have HB2 := Lib.hid (HAL.out.trans (hb2.mono HAL.out.size))
  clear hk2 hb2
  go_wp2
  refine bodyPost_ret (v := .tuple #[.agg #[.int .i64 0, .slice none 0 0], .bool false]) (by simp [results, Try.results56, go_sem, k0, k1, hlt]) rfl ⟨rfl, ?_⟩
  exact ((HB2.out.setCell (p := ⟨w.heap.size, 0, none⟩) (Nat.le_refl _) _).setCell (p := ⟨w.heap.size, 1, none⟩) (Nat.le_refl _) _).alloc (by simp; exact HB2.out.size) _

/-- The law's same: of one and the same batch. -/
theorem lawsame_eq (w : World) (B B' : Nat → Prop) (id : Int) (v v' : Value) (rows rows' : List RowV) (h : RowsAt w B v rows) (h' : RowsAt w B' v' rows') (he : rows.map RowV.l = rows'.map RowV.l) :
    Calls Try.prog 24 #[.agg #[.int .i64 id, v], .agg #[.int .i64 id, v']] w fun e w' => e = .returned (.bool true) ∧ Below w.heap.size w w' := by
  obtain ⟨p, cap, rfl, hc1, hc2⟩ := h.1.form
  obtain ⟨p', cap', rfl, hc1', hc2'⟩ := h'.1.form
  have hal : Below w.heap.size w ((w.alloc (.cells #[.int .i64 id, .slice p rows.length cap] 38)).alloc (.cells #[.int .i64 id, .slice p' rows'.length cap'] 38)) := ((Below.refl _ _).alloc (Nat.le_refl _) _).alloc (by simp) _
  have HS := Lib.hid (same_rows _ B B' _ _ rows rows' (h.below hal) (h'.below hal) he)
  have HAL := Lib.hid hal
  clear h h' he hal
  go_enter Try.func24, Try.ntmps24
  go_wp2_with (go_at_call 49; refine HS.out.mono ?_; clear HS; rintro e w2 ⟨rfl, hb2⟩)
  go_ret
  exact ⟨rfl, HAL.out.trans (hb2.mono HAL.out.size)⟩
theorem one_bat (w : World) (b : BatV) (h : RowsAt w (fun _ => True) b.v b.rows) : BatAt (w.alloc (.cells #[.int .i64 b.id, b.v] 38)) (fun _ => True) (.slice (some ⟨w.heap.size, 0, none⟩) 1 1) [b] := by
  refine ⟨(Own.made w 38 2 (batCells [b]) [] 1 1 rfl ?_ (Nat.le_refl _) (by simp [maxLen]) (by simp [batCells, BatV.cells])).sl (fun _ _ => trivial), fun x hx => ?_⟩
  · intro u hu
    simp [batCells, BatV.cells] at hu
    rcases hu with rfl | rfl
    · rfl
    · exact sl_one h.1
  · rw [List.mem_singleton.1 hx]
    exact h.below ((Below.refl _ _).alloc (Nat.le_refl _) _)
theorem no_cols (w : World) : Sl w (fun _ => True) 2 (.slice none 0 0) ([] : List ColV).length (colCells []) := ⟨by simp [colCells], Ones.nil, .inl ⟨none, 0, rfl, rfl, Nat.zero_le _, fun _ => rfl⟩⟩
section
variable {H : Type} {enc : TypeId × Value → H} {w : World}
theorem open_bat {cs : Array Value} {d : DataW H} {ps : List MemPlace} (h : DataW.Trod enc Try.prog w 0 (fun _ => true) true 38 (.agg cs) d ps) (hs : cs.size = 2) :
    ∃ b : BatV, Value.agg cs = b.agg ∧ RowsAt w (fun _ => True) b.v b.rows ∧ b.read := by
  obtain ⟨fuel, hf⟩ := h
  obtain ⟨b, h1, h2, h3⟩ := open_bat_at (c := cs.toList) (by simpa using hs) hf
  refine ⟨b, ?_, h2, h3⟩
  have : cs = b.cells.toArray := by rw [← h1]
  rw [this]; rfl
end

set_option maxRecDepth 100000 in
set_option maxHeartbeats 1000000 in
theorem stnone_walk (v0 : Value) (b : BatV) (n : Int) (_ : (Lit.int .i64 n).wf = true) (w : World) (o0 : v0 = b.agg ∧ RowsAt w (fun _ => True) b.v b.rows ∧ b.read) :
    Calls Try.prog 10 #[v0, .int .i64 n] w fun e w' => e = .returned (.bool true) ∧ Below w.heap.size w w' := by
  obtain ⟨rfl, hr, _⟩ := o0
  obtain ⟨id, v, rows⟩ := b
  simp only [BatV.agg] at *
  obtain ⟨p, cap, rfl, hc1, hc2⟩ := hr.1.form
  have hal : Below w.heap.size w (w.alloc (.cells #[.int .i64 id, .slice p rows.length cap] 38)) := (Below.refl _ _).alloc (Nat.le_refl _) _
  have hs1 : (w.alloc (.cells #[.int .i64 id, .slice p rows.length cap] 38)).heap.size = w.heap.size + 1 := by simp
  have HK : Hid (Blk (w.alloc (.cells #[.int .i64 id, .slice p rows.length cap] 38)) w.heap.size 38 [.int .i64 id, .slice p rows.length cap]) := Blk.new w _ _
  have hob := one_bat (w.alloc (.cells #[.int .i64 id, .slice p rows.length cap] 38)) ⟨id, .slice p rows.length cap, rows⟩ (hr.below hal)
  simp only [hs1] at hob
  have HG := Lib.hid (great_any _ _ _ ⟨#[]⟩ _ _ [] [⟨id, .slice p rows.length cap, rows⟩] (no_cols _) hob)
  have HAL := Lib.hid hal
  have HAL2 : Hid (Below w.heap.size w ((w.alloc (.cells #[.int .i64 id, .slice p rows.length cap] 38)).alloc (.cells #[.int .i64 id, .slice p rows.length cap] 38))) := hal.alloc (by omega) _
  have HK2 : Hid (Blk ((w.alloc (.cells #[.int .i64 id, .slice p rows.length cap] 38)).alloc (.cells #[.int .i64 id, .slice p rows.length cap] 38)) w.heap.size 38 [.int .i64 id, .slice p rows.length cap]) := HK.out.alloc _
  clear hr hal hob
  generalize greatL ⟨#[]⟩ [] [⟨id, .slice p rows.length cap, rows⟩] = gl at *
  cases gl
  case true =>
    go_enter Try.func10, Try.ntmps10
    go_wp2_with fail
    refine HG.out.mono ?_
    clear HG
    rintro e w2 ⟨rfl, hb2⟩
    have HB2 := Lib.hid (HAL2.out.trans (hb2.mono HAL2.out.size))
    clear hb2
    go_wp2_with (go_at_call 13; refine (st_awake _).mono ?_; rintro e w3 ⟨rfl, hb3⟩)
    go_ret
    exact ⟨rfl, HB2.out.trans (hb3.mono HB2.out.size)⟩
  go_enter Try.func10, Try.ntmps10
  go_wp2_with fail
  refine HG.out.mono ?_
  clear HG
  rintro e w2 ⟨rfl, hb2⟩
  have HB2 := Lib.hid (HAL2.out.trans (hb2.mono HAL2.out.size))
  have HKB2 := Lib.hid (HK2.out.below hb2)
  have HF := Lib.hid (lfirst_nil w2)
  clear hb2 HK HK2
  go_wp2_with fail
  refine HF.out.mono ?_
  clear HF
  rintro e w3 ⟨rfl, hb3⟩
  have HB3 := Lib.hid (HB2.out.trans (hb3.mono HB2.out.size))
  have HKB3 := Lib.hid (HKB2.out.below hb3)
  have hal3 : Below w3.heap.size w3 (w3.alloc (.cells #[.int .i64 0, .slice none 0 0] 38)) := (Below.refl _ _).alloc (Nat.le_refl _) _
  have HKF : Hid (Blk (w3.alloc (.cells #[.int .i64 0, .slice none 0 0] 38)) w3.heap.size 38 [.int .i64 0, .slice none 0 0]) := Blk.new w3 _ _
  have HT := Lib.hid (ltake_nil (w3.alloc (.cells #[.int .i64 0, .slice none 0 0] 38)))
  have HB3A := Lib.hid (HB3.out.trans (hal3.mono HB3.out.size))
  have HKB3A := Lib.hid (HKB3.out.below hal3)
  have hlt3 : w.heap.size < w3.heap.size := HKB3.out.lt
  clear hb3 hal3
  go_wp2_with fail
  refine HT.out.mono ?_
  clear HT
  rintro e w4 ⟨rfl, hb4⟩
  have HB4 := Lib.hid (HB3A.out.trans (hb4.mono HB3A.out.size))
  have HKB4 := Lib.hid (HKB3A.out.below hb4)
  have HKF4 := Lib.hid (HKF.out.below hb4)
  have hlt4 : w3.heap.size < w4.heap.size := HKF4.out.lt
  clear hb4
  have hal4 : Below w4.heap.size w4 (w4.alloc (.cells #[.int .i64 0, .slice none 0 0] 38)) := (Below.refl _ _).alloc (Nat.le_refl _) _
  have HKT : Hid (Blk (w4.alloc (.cells #[.int .i64 0, .slice none 0 0] 38)) w4.heap.size 38 [.int .i64 0, .slice none 0 0]) := Blk.new w4 _ _
  have HB5 := Lib.hid (HB4.out.trans (hal4.mono HB4.out.size))
  have HKB5 := Lib.hid (HKB4.out.below hal4)
  have HKF5 := Lib.hid (HKF4.out.below hal4)
  have HKS : Hid (∀ W, Below (w4.alloc (.cells #[.int .i64 0, .slice none 0 0] 38)).heap.size (w4.alloc (.cells #[.int .i64 0, .slice none 0 0] 38)) W →
      W.cell? ⟨w.heap.size, 0, none⟩ = some (.int .i64 id) ∧ W.cell? ⟨w.heap.size, 1, none⟩ = some (.slice p rows.length cap) ∧ W.cell? ⟨w3.heap.size, 0, none⟩ = some (.int .i64 0) ∧ W.cell? ⟨w3.heap.size, 1, none⟩ = some (.slice none 0 0) ∧ W.cell? ⟨w4.heap.size, 0, none⟩ = some (.int .i64 0) ∧ W.cell? ⟨w4.heap.size, 1, none⟩ = some (.slice none 0 0)) :=
    fun W h => ⟨(HKB5.out.below h).cell 0, (HKB5.out.below h).cell 1, (HKF5.out.below h).cell 0, (HKF5.out.below h).cell 1, (HKT.out.below h).cell 0, (HKT.out.below h).cell 1⟩
  clear hal4
  go_wp2_with (go_at_call 16; fail)
  generalize hw5 : w4.alloc (.cells #[.int .i64 0, .slice none 0 0] 38) = w5 at *
  clear hw5
  obtain ⟨a0, a1, _, _, _, _⟩ := HKS.out w5 (Below.refl _ _)
  have HBC := Lib.hid (Below.refl w5.heap.size w5)
  refine (bname_nil w5).mono ?_
  rintro e w6 ⟨rfl, rfl⟩
  go_wp2_with fail
  refine (bcheck_nil w5 id p _ cap).mono ?_
  rintro e w6 ⟨rfl, hb6⟩
  obtain ⟨b0, b1, _, _, _, _⟩ := HKS.out w6 hb6
  have HB6 := Lib.hid hb6
  clear hb6 a0 a1
  go_wp2_with fail
  refine (btake_nil w6 id p _ cap).mono ?_
  rintro e w7 ⟨rfl, hb7⟩
  have hbc7 := HB6.out.trans (hb7.mono HB6.out.size)
  obtain ⟨c0, c1, _, _, _, _⟩ := HKS.out w7 hbc7
  have HB7 := Lib.hid hbc7
  clear hb7 hbc7 b0 b1
  go_wp2_with (first
    | (go_at_call 20; refine (bmark_nil _).mono ?_; rintro e w8 ⟨rfl, rfl⟩)
    | (go_at_call 17; refine (bset_nil _ _).mono ?_; rintro e w8 ⟨rfl, rfl⟩)
    | fail)
  refine (lput_nil w7 id p _ cap).mono ?_
  rintro e w8 ⟨rfl, hb8⟩
  have hbc8 := HB7.out.trans (hb8.mono HB7.out.size)
  obtain ⟨_, _, d0, d1, _, _⟩ := HKS.out w8 hbc8
  have HB8 := Lib.hid hbc8
  have HS1 := Lib.hid (lawsame_eq w8 (fun _ => True) (fun _ => True) 0 (.slice none 0 0) (.slice none 0 0) [] [] (rowsat_nil _ _) (rowsat_nil _ _) rfl)
  clear hb8 hbc8 c0 c1
  go_wp2_with fail
  refine HS1.out.mono ?_
  clear HS1
  rintro e w9 ⟨rfl, hb9⟩
  have hbc9 := HB8.out.trans (hb9.mono HB8.out.size)
  obtain ⟨_, _, _, _, e0, e1⟩ := HKS.out w9 hbc9
  have HB9 := Lib.hid hbc9
  have HS2 := Lib.hid (lawsame_eq w9 (fun _ => True) (fun _ => True) 0 (.slice none 0 0) (.slice none 0 0) [] [] (rowsat_nil _ _) (rowsat_nil _ _) rfl)
  clear hb9 hbc9 d0 d1
  go_wp2_with fail
  refine HS2.out.mono ?_
  clear HS2
  rintro e w10 ⟨rfl, hb10⟩
  have hbc10 := HB9.out.trans (hb10.mono HB9.out.size)
  have HB10 := Lib.hid (HB5.out.trans (hbc10.mono HB5.out.size))
  have HA10 : Hid (Below w.heap.size w (w10.alloc (.cells #[.int .i64 n] 3))) := HB10.out.alloc HB10.out.size _
  clear hb10 hbc10 e0 e1
  go_wp2_with (first
    | (go_at_call 58; refine (llen_nil _).mono ?_; rintro e w11 ⟨rfl, rfl⟩)
    | (go_at_call 59; refine (lrows_nil _).mono ?_; rintro e w11 ⟨rfl, rfl⟩)
    | (go_at_call 60; refine (lbat_nil _ _ _ _).mono ?_; rintro e w11 ⟨rfl, rfl⟩)
    | (go_at_call 13; refine (st_awake _).mono ?_; rintro e w12 ⟨rfl, hb12⟩))
  go_ret
  exact ⟨rfl, HA10.out.trans (hb12.mono HA10.out.size)⟩
end Go.Proofs.Ytdhdphmehjkbnaa
