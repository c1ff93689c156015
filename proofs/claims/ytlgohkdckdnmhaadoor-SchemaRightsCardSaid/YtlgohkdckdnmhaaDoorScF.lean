/- Schemas: the document's example. -/
import Derived.Test.YtlgohkdckdnmhaaDoorScC
namespace Go.Proofs.YtlgohkdckdnmhaaDoor
open Go.RowKit Go.Afx

def exRow : List AV := [⟨1, 1, ⟨#[]⟩⟩, ⟨2, 0, ⟨#[120]⟩⟩]
def exS (a b c d : Value) : SchV := ⟨⟨#[116]⟩, a, [⟨⟨#[97]⟩, 1⟩, ⟨⟨#[98]⟩, 2⟩], b, [⟨c, [0], true⟩, ⟨d, [1], false⟩], 5, 1, 0⟩
theorem exS_right (a b c d : Value) : rightS (exS a b c d) = true := by kernel_rfl
theorem exS_chk (a b c d : Value) : chkS (exS a b c d) 1 exRow = 0 := by
  unfold chkS
  rw [exS_right]
  have h1 : fitB (exS a b c d).cols exRow = true := by kernel_rfl
  rw [h1]
  rfl
theorem exS_key (a b c d : Value) : bs (keyO (exS a b c d) 1 exRow) = ⟨#[2, 120, 0, 1, 1, 128, 0, 0, 0, 0, 0, 0, 1]⟩ := by
  unfold keyO
  rw [exS_chk]
  kernel_rfl

set_option maxRecDepth 100000 in
set_option maxHeartbeats 2000000 in
theorem awake03_any (w : World) (hm : Mx w) : Calls Tryd.prog 29 #[] w fun e w' => e = .returned (.bool true) ∧ Below w.heap.size w w' := by
  obtain ⟨w1, hw1⟩ : ∃ w1, w.alloc (.cells #[.string ⟨#[97]⟩, .int .i64 1, .string ⟨#[98]⟩, .int .i64 2] 66) = w1 := ⟨_, rfl⟩
  obtain ⟨w2, hw2⟩ : ∃ w2, w1.alloc (.cells #[.int .i64 0] 3) = w2 := ⟨_, rfl⟩
  obtain ⟨w3, hw3⟩ : ∃ w3, w2.alloc (.cells #[.int .i64 1] 3) = w3 := ⟨_, rfl⟩
  obtain ⟨w4, hw4⟩ : ∃ w4, w3.alloc (.cells #[.slice (some ⟨w1.heap.size, 0, none⟩) 1 1, .bool true, .slice (some ⟨w2.heap.size, 0, none⟩) 1 1, .bool false] 55) = w4 := ⟨_, rfl⟩
  obtain ⟨w5, hw5⟩ : ∃ w5, w4.alloc (.cells #[.string ⟨#[116]⟩, .slice (some ⟨w.heap.size, 0, none⟩) 2 2, .slice (some ⟨w3.heap.size, 0, none⟩) 2 2, .int .i64 5, .int .i64 1, .int .i64 0] 47) = w5 := ⟨_, rfl⟩
  obtain ⟨w6, hw6⟩ : ∃ w6, w5.alloc (.cells #[.int .i64 1, .int .i64 1, .string ⟨#[]⟩, .int .i64 2, .int .i64 0, .string ⟨#[120]⟩] 27) = w6 := ⟨_, rfl⟩
  have b1 : Below w.heap.size w w1 := hw1 ▸ (Below.refl _ _).alloc (Nat.le_refl _) _
  have b2 : Below w1.heap.size w1 w2 := hw2 ▸ (Below.refl _ _).alloc (Nat.le_refl _) _
  have b3 : Below w2.heap.size w2 w3 := hw3 ▸ (Below.refl _ _).alloc (Nat.le_refl _) _
  have b4 : Below w3.heap.size w3 w4 := hw4 ▸ (Below.refl _ _).alloc (Nat.le_refl _) _
  have b5 : Below w4.heap.size w4 w5 := hw5 ▸ (Below.refl _ _).alloc (Nat.le_refl _) _
  have b6 : Below w5.heap.size w5 w6 := hw6 ▸ (Below.refl _ _).alloc (Nat.le_refl _) _
  have c56 : Below w4.heap.size w4 w6 := b5.trans (b6.mono b5.size)
  have c46 : Below w3.heap.size w3 w6 := b4.trans (c56.mono b4.size)
  have c36 : Below w2.heap.size w2 w6 := b3.trans (c46.mono b3.size)
  have c26 : Below w1.heap.size w1 w6 := b2.trans (c36.mono b2.size)
  have c16 : Below w.heap.size w w6 := b1.trans (c26.mono b1.size)
  have o1 : Own w1 66 2 (.slice (some ⟨w.heap.size, 0, none⟩) 2 2) 2 (colCells [⟨⟨#[97]⟩, 1⟩, ⟨⟨#[98]⟩, 2⟩]) := by
    rw [← hw1]; exact Own.made w 66 2 _ [] 2 2 rfl (by intro u hu; simp [colCells, ColV.cells] at hu; rcases hu with rfl | rfl | rfl | rfl <;> rfl) (by omega) (by simp [maxLen]) (by simp [colCells, ColV.cells])
  have o2 : Own w2 3 1 (.slice (some ⟨w1.heap.size, 0, none⟩) 1 1) 1 (ints [0]) := by
    rw [← hw2]; exact Own.made w1 3 1 _ [] 1 1 rfl (by intro u hu; simp [ints] at hu; subst hu; rfl) (by omega) (by simp [maxLen]) (by simp [ints])
  have o3 : Own w3 3 1 (.slice (some ⟨w2.heap.size, 0, none⟩) 1 1) 1 (ints [1]) := by
    rw [← hw3]; exact Own.made w2 3 1 _ [] 1 1 rfl (by intro u hu; simp [ints] at hu; subst hu; rfl) (by omega) (by simp [maxLen]) (by simp [ints])
  have o4 : Own w4 55 2 (.slice (some ⟨w3.heap.size, 0, none⟩) 2 2) 2 (idxCells [⟨.slice (some ⟨w1.heap.size, 0, none⟩) 1 1, [0], true⟩, ⟨.slice (some ⟨w2.heap.size, 0, none⟩) 1 1, [1], false⟩]) := by
    rw [← hw4]; exact Own.made w3 55 2 _ [] 2 2 rfl (by intro u hu; simp [idxCells, IdxV.cells] at hu; rcases hu with rfl | rfl | rfl | rfl <;> rfl) (by omega) (by simp [maxLen]) (by simp [idxCells, IdxV.cells])
  have o6 : Own w6 27 3 (.slice (some ⟨w5.heap.size, 0, none⟩) 2 2) 2 (rowCells exRow) := by
    rw [← hw6]; exact Own.made w5 27 3 _ [] 2 2 rfl (by intro u hu; simp [exRow, rowCells, AV.cells] at hu; rcases hu with rfl | rfl | rfl | rfl | rfl | rfl <;> rfl) (by omega) (by simp [maxLen]) (by simp [exRow, rowCells, AV.cells])
  have hs5 : w5.heap.size = w4.heap.size + 1 := by rw [← hw5]; simp
  rw [hs5] at o6
  have HBK : Hid (Blk w5 w4.heap.size 47 [.string ⟨#[116]⟩, .slice (some ⟨w.heap.size, 0, none⟩) 2 2, .slice (some ⟨w3.heap.size, 0, none⟩) 2 2, .int .i64 5, .int .i64 1, .int .i64 0]) := by show Blk _ _ _ _; rw [← hw5]; exact Blk.new w4 _ _
  have hsa : SchAt w6 (fun _ => True) (exS (.slice (some ⟨w.heap.size, 0, none⟩) 2 2) (.slice (some ⟨w3.heap.size, 0, none⟩) 2 2) (.slice (some ⟨w1.heap.size, 0, none⟩) 1 1) (.slice (some ⟨w2.heap.size, 0, none⟩) 1 1)) := by
    refine ⟨(o1.sl (fun _ _ => trivial)).below c26, ⟨(o4.sl (fun _ _ => trivial)).below c56, ?_⟩, ?_, by show (1 : Nat) ≤ maxLen; decide⟩
    · intro x hx
      simp only [exS, List.mem_cons, List.not_mem_nil, or_false] at hx
      rcases hx with rfl | rfl
      · exact (o2.sl (fun _ _ => trivial)).below c36
      · exact (o3.sl (fun _ _ => trivial)).below c46
    · intro c hc
      simp only [exS, List.mem_cons, List.not_mem_nil, or_false] at hc
      rcases hc with rfl | rfl <;> decide
  have hkey := schkey_any w6 (hm.below c16) _ (fun _ => True) _ 1 _ exRow hsa (o6.sl (fun _ _ => trivial)) (by intro a ha; simp [exRow] at ha; rcases ha with rfl | rfl <;> simp [fit64]) (by decide) (by intro x hx; simp [exS] at hx; rcases hx with rfl | rfl <;> simp)
  rw [exS_chk, exS_key] at hkey
  have HK := Lib.hid hkey
  have hrt := fun W hb => schright_any W _ _ (SchAt.below (w' := W) hsa hb)
  simp only [exS_right] at hrt
  simp only [SchV.agg, exS] at hrt HK
  have HRT := Lib.hid hrt
  have HB6 := Lib.hid c16
  have HX6 := Lib.hid b6
  obtain ⟨x0, x1, x2, x3, x4, x5⟩ := sch_cells HBK.out
  have HW5 := Lib.hid hw5
  have HW6 := Lib.hid hw6
  clear hw5 hw6 hs5 b1 b2 b3 b4 b5 b6 c56 c46 c36 c26 c16 o1 o2 o3 o4 o6 hsa hkey hrt hm
  go_enter Tryd.func29, Tryd.ntmps29
  go_wp2_with fail
  clear hw1 hw2 hw3 hw4 x0 x1 x2 x3 x4 x5
  rw [HW5.out, HW6.out]
  refine HK.out.mono ?_
  rintro e w7 ⟨rfl, hb7⟩
  obtain ⟨x0, x1, x2, x3, x4, x5⟩ := sch_cells ((HBK.out.below HX6.out).below hb7)
  have HB7 := Lib.hid (HB6.out.trans (hb7.mono HB6.out.size))
  have HRR := Lib.hid (HRT.out w7 hb7)
  clear hb7 HRT
  go_wp2_with fail
  refine HRR.out.mono ?_
  rintro e w8 ⟨rfl, hb8⟩
  have HB8 := Lib.hid (HB7.out.trans (hb8.mono HB7.out.size))
  clear hb8
  go_wp2
  go_ret
  exact ⟨rfl, HB8.out⟩
end Go.Proofs.YtlgohkdckdnmhaaDoor
