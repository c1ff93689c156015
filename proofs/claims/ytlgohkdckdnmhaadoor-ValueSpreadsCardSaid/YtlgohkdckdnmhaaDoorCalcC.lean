/- calc: Sub, Neg, parts, Div, Mod. -/
import Derived.Test.YtlgohkdckdnmhaaDoorCalcB
namespace Go.Proofs.YtlgohkdckdnmhaaDoor
open Go.RowKit Go.Afx

theorem one_sl (w : World) (x : Int) (b : Nat) (hb : b ≠ w.heap.size) : Sl (w.alloc (.cells #[.int .i64 x] 2)) (fun k => k ≠ b) 1 (.slice (some ⟨w.heap.size, 0, none⟩) 1 1) 1 (ints [x]) :=
  (Own.made w 2 1 (ints [x]) [] 1 1 rfl (ints_ones _) (Nat.le_refl _) (by simp [maxLen]) (by simp [ints])).sl (fun k hk => by simp [Value.ownBlock] at hk; omega)

set_option maxHeartbeats 1000000 in
theorem sub_any (w : World) (a : Int) (ha : fits a) (v : Value) (l : List Int) (hl : Sl w (fun _ => True) 1 v l.length (ints l)) (hfit : ∀ x ∈ l, fits x) (hll : l.length ≤ 1000000) :
    Calls Tryd.prog 135 #[.int .i64 a, v] w fun e w' => e = .returned (.tuple #[.int .i64 (shortN (a - l.sum)), .int .i64 (shortE (a - l.sum))]) ∧ Below w.heap.size w w' := by
  have hr := sum_range l hfit
  have hn : near (a - l.sum) := by unfold near; unfold fits at ha; omega
  have ht : IsTot ((w.alloc (.cells #[.int .u64 0, .int .u64 0, .int .i64 0] 175)).alloc (.cells #[.int .i64 a] 2)) w.heap.size 0 0 := (Blk.new w 175 [.int .u64 0, .int .u64 0, .int .i64 0]).alloc _
  have hs1 := one_sl (w.alloc (.cells #[.int .u64 0, .int .u64 0, .int .i64 0] 175)) a w.heap.size (by simp)
  have HP := Lib.hid (put_tot _ w.heap.size 0 0 _ [a] ht hs1 (by simpa using ha) (by omega) (by omega) (by simp))
  have hl2 : Sl ((w.alloc (.cells #[.int .u64 0, .int .u64 0, .int .i64 0] 175)).alloc (.cells #[.int .i64 a] 2)) (fun k => k ≠ w.heap.size ∧ k < w.heap.size) 1 v l.length (ints l) :=
    hl.mono (by simp; omega) (fun k _ hk => (heap_alloc_old _ _ (by simp; omega)).trans (heap_alloc_old w _ hk)) (fun k _ hk => by omega)
  have HL2 := Lib.hid hl2
  obtain ⟨p, cap, rfl, _, _⟩ := hl.form
  clear hr ht hl2 hl hs1
  have hz : (0 : Int) + [a].sum = a := by simp
  have hk : (0 : Int) + ([a] : List Int).length = 1 := by simp
  rw [hz, hk] at HP
  clear hz hk
  have hsz : (w.alloc (.cells #[.int .u64 0, .int .u64 0, .int .i64 0] 175)).heap.size = w.heap.size + 1 := by simp
  rw [hsz] at HP
  clear hsz
  have HP2 : RowKit.Hid (Calls Tryd.prog 142 #[.pointer (some ⟨w.heap.size, 0, none⟩), .slice (some ⟨w.heap.size + 1, 0, none⟩) 1 1] ((w.alloc (.cells #[.int .u64 0, .int .u64 0, .int .i64 0] 175)).alloc (.cells #[.int .i64 a] 2)) fun e w' => e = .returned (.tuple #[]) ∧ IsTot w' w.heap.size a 1 ∧ Only (fun k => k = w.heap.size) ((w.alloc (.cells #[.int .u64 0, .int .u64 0, .int .i64 0] 175)).alloc (.cells #[.int .i64 a] 2)) w') := HP
  clear HP
  have HSM := Lib.hid (fun (w : World) (b : Nat) (n : Int) (h : IsTot w b (a - l.sum) n) => sum_tot w b _ n h hn)
  have HTK := Lib.hid (fun (w2 : World) (b : Nat) (h : IsTot w2 b a 1) (hs : Sl w2 (fun k => k ≠ b) 1 (.slice p l.length cap) l.length (ints l)) => take_tot w2 b a 1 _ l h hs hfit (by omega) (by omega) hll)
  clear ha hn hfit
  go_enter Tryd.func135, Tryd.ntmps135
  go_wp2_with (first
    | (go_at_call 142; refine HP2.out.mono ?_; clear HP2; rintro e w2 ⟨rfl, ht2, ho2⟩; have HT2 := Lib.hid ht2; have HO2 := Lib.hid ho2; clear ht2 ho2)
    | (go_at_call 143; refine (HTK.out w2 w.heap.size HT2.out ((HL2.out.only HO2.out (fun k hk => hk.1)).mono (Nat.le_refl _) (fun _ _ _ => rfl) (fun k hk _ => hk.1))).mono ?_; rintro e w3 ⟨rfl, ht3, ho3⟩; have HT3 := Lib.hid ht3; clear ht3)
    | (go_at_call 144; refine (HSM.out _ _ _ HT3.out).mono ?_; rintro e w4 ⟨rfl, hb4⟩))
  go_ret2
  have hb2 : Below w.heap.size w w2 := (((Below.refl w.heap.size w).alloc (Nat.le_refl _) _).alloc (by simp) _).trans (HO2.out.below (by simp; omega) (fun i hi => by omega))
  have hb3 := hb2.trans (ho3.below hb2.size (fun i hi => by omega))
  exact ⟨rfl, hb3.trans (hb4.mono hb3.size)⟩

theorem neg_any (w : World) (a : Int) (ha : fits a) :
    Calls Tryd.prog 123 #[.int .i64 a] w fun e w' => e = .returned (.tuple #[.int .i64 (shortN (-a)), .int .i64 (shortE (-a))]) ∧ Below w.heap.size w w' := by
  have hs1 : Sl (w.alloc (.cells #[.int .i64 a] 2)) (fun _ => True) 1 (.slice (some ⟨w.heap.size, 0, none⟩) 1 1) [a].length (ints [a]) := (one_sl w a (w.heap.size + 1) (by omega)).mono (Nat.le_refl _) (fun _ _ _ => rfl) (fun _ _ _ => trivial)
  have HS := Lib.hid (sub_any _ 0 (by unfold fits; omega) _ [a] hs1 (by simpa using ha) (by simp))
  have hz : (0 : Int) - [a].sum = -a := by simp
  rw [hz] at HS
  clear hs1 hz ha
  generalize shortN (-a) = sn at *
  generalize shortE (-a) = se at *
  go_enter Tryd.func123, Tryd.ntmps123
  go_wp2_with (go_at_call 135; refine HS.out.mono ?_; rintro e w2 ⟨rfl, hb2⟩)
  go_ret2
  exact ⟨rfl, ((Below.refl w.heap.size w).alloc (Nat.le_refl _) _).trans (hb2.mono (by simp))⟩
end Go.Proofs.YtlgohkdckdnmhaaDoor
