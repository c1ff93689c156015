/- Batches laid: stream.Bytes. -/
import Derived.Test.YtdhdphmehjkbnaaCodA
import Derived.Test.YtdhdphmehjkbnaaStO
namespace Go.Proofs.Ytdhdphmehjkbnaa
open Go.RowKit Go.Afx

def batB (b : BatV) : List UInt8 := sizeB b.id ++ rowsB b.rows
/-- A batch that is small, and reads. -/
def BatV.small (b : BatV) : Prop := fit64 b.id ∧ b.rows.length ≤ 32 ∧ ∀ r ∈ b.rows, r.l.length ≤ 8 ∧ rightAll r.l = true ∧ ∀ a ∈ r.l, fit64 a.n
theorem valB_len2 (v : AV) (hr : v.right = true) (hn : fit64 v.n) : (valB v).length ≤ 210 := by
  unfold valB
  rw [if_pos hr]
  unfold rightB
  have hr2 := hr
  simp [AV.right] at hr
  rcases hr with (⟨h1, _⟩ | ⟨⟨h1, _⟩, h2⟩) | ⟨⟨h1, _⟩, _⟩
  · rw [if_pos h1]
    have : (signB v.n).length ≤ 9 := be_len8 _ (by unfold fit64 at hn; unfold zig; split <;> omega)
    simp only [List.length_cons]; omega
  · rw [if_neg (by omega), if_pos h1]
    have h3 : (textB v.s).length ≤ 209 := by
      unfold textB
      have := be_len8 v.s.size (by omega)
      have h4 : v.s.data.toList.length = v.s.size := Array.length_toList
      rw [List.length_append, h4]; omega
    simp only [List.length_cons]; omega
  · rw [if_neg (by omega), if_neg (by omega)]
    simp
theorem rowB_len2 (l : List AV) (h : rightAll l = true) (hn : ∀ a ∈ l, fit64 a.n) (hl : l.length ≤ 8) : (rowB l).length ≤ 1689 := by
  have h0 : ∀ a ∈ l, a.right = true := List.all_eq_true.1 h
  have h1 := laid_len valB 210 l (fun a ha => valB_len2 a (h0 a ha) (hn a ha))
  have h2 : (sizeB l.length).length ≤ 9 := be_len8 _ (by omega)
  unfold rowB
  rw [List.length_append]; omega
theorem batB_len (b : BatV) (h : b.small) : (batB b).length ≤ 54066 := by
  obtain ⟨h1, h2, h3⟩ := h
  have h4 := laid_len (fun r : RowV => rowB r.l) 1689 b.rows (fun r hr => rowB_len2 r.l (h3 r hr).2.1 (h3 r hr).2.2 (h3 r hr).1)
  have h5 : (sizeB b.rows.length).length ≤ 9 := be_len8 _ (by omega)
  have h6 : (sizeB b.id).length ≤ 9 := be_len8 _ (by unfold fit64 at h1; omega)
  unfold batB rowsB
  rw [List.length_append, List.length_append]; omega

theorem agree_only {w w' : World} {n : Nat} {S : Nat → Prop} (h : Only S w w') (hn : n < w.heap.size) (hS : ¬ S n) : Agree (fun q => q = n) w w' := fun b o hb => by
  subst hb
  exact h.cell (p := ⟨b, o, none⟩) hn hS
theorem agree_drewB {w w' : World} {n : Nat} (h : Below w.heap.size w w') (hn : n < w.heap.size) : Agree (fun q => q = n) w.drew w' := fun b o hb => by
  have := agree_below h hn b o hb
  exact this

set_option maxRecDepth 100000 in
set_option maxHeartbeats 1000000 in
theorem bytes_any (w : World) (v : Value) (l : List BatV) (hv : BatAt w (fun _ => True) v l) (hl : l.length ≤ 40) (hs : ∀ b ∈ l, b.small) :
    Calls Try.prog 61 #[v] w fun e w' => e = .returned (.string ⟨(sizeB l.length ++ laid batB l).toArray⟩) ∧ Below w.heap.size w w' := by
  obtain ⟨p, cap, rfl, hc1, hc2⟩ := hv.1.form
  have hb0 := Buf.new w
  have hal : Below w.heap.size w (w.alloc (.cells #[.slice none 0 0] 64)) := (Below.refl _ _).alloc (Nat.le_refl _) _
  have HS := size_one _ _ _ _ [] [] hb0 l.length (by omega) (by simp)
  have hs1 : (w.alloc (.cells #[.slice none 0 0] 64)).heap.size = w.heap.size + 1 := by simp
  rw [hs1] at HS
  have HS1 := Lib.hid hs1
  have hn1 : w.heap.size ≤ (w.alloc (.cells #[.slice none 0 0] 64)).heap.size := by simp
  have HN1 := Lib.hid hn1
  have HV := Lib.hid hv
  have HSM := Lib.hid hs
  have HAL := Lib.hid hal
  clear hv hs hal hb0 hn1 hs1
  obtain ⟨out, hout⟩ : ∃ out : ByteArray, (⟨(sizeB l.length ++ laid batB l).toArray⟩ : ByteArray) = out := ⟨_, rfl⟩
  rw [hout]
  have HOUT := Lib.hid hout
  clear hout
  go_enter Try.func61, Try.ntmps61
  go_wp2_with fail
  refine HS.out.mono ?_
  clear HS
  rintro e w2 ⟨rfl, F2, h21, h22, h23⟩
  obtain ⟨hw2, hb2⟩ := wrote_of (n0 := w.heap.size) (fun k hk => hk.1) HN1.out h21 h22 (fun k hk => by rw [HS1.out]; exact h23 k hk)
  rw [List.nil_append] at hw2
  have HW2 := Lib.hid hw2
  have HB2 := Lib.hid (HAL.out.trans hb2)
  clear h21 h22 h23 hw2 hb2 HAL HN1
  go_wp2_with fail
  go_loopw [15] (fun i wr => ∃ k : Nat, i = .int .i64 k ∧ k ≤ l.length ∧ Wrote w.heap.size w.heap.size wr (sizeB l.length ++ laid batB (l.take k)) ∧ Below w.heap.size w wr) (fun i _ => l.length - (intOf i).toNat)
  case atStart => exact ⟨0, rfl, Nat.zero_le _, by simpa [laid] using HW2.out, HB2.out⟩
  case round =>
    obtain ⟨k, rfl, hk, hwr, hbr⟩ := hrel
    have HWR := Lib.hid hwr
    have HBR := Lib.hid hbr
    by_cases hka : k < l.length
    · obtain ⟨g, off, cap2, hvv, hg, e0, e1⟩ := sl_bat (HV.out.below hbr).1 hka
      cases hvv
      have hrw := HV.out.2 l[k] (List.getElem_mem hka)
      have hsm := HSM.out l[k] (List.getElem_mem hka)
      have hnx := laid_next batB l k hka
      have hll := laid_len batB 54066 (l.take k) (fun b hb => batB_len b (HSM.out b (List.mem_of_mem_take hb)))
      have hlk : (l.take k).length ≤ 40 := by rw [List.length_take]; omega
      have hz : (sizeB l.length).length ≤ 9 := be_len8 _ (by omega)
      have hlen0 : (sizeB l.length ++ laid batB (l.take k)).length ≤ 2200000 := by rw [List.length_append]; omega
      have HNX := Lib.hid hnx
      clear hnx hll hlk hz
      generalize l[k] = x at *
      obtain ⟨id, xv, rows⟩ := x
      simp only at e0 e1 hrw
      obtain ⟨px, cx, rfl, hcx1, hcx2⟩ := hrw.1.form
      obtain ⟨hid, hrl, hrr⟩ := hsm
      simp only at hid hrl hrr
      have hal3 : Below wr.heap.size wr (wr.alloc (.cells #[.int .i64 id, .slice px rows.length cx] 38)) := (Below.refl _ _).alloc (Nat.le_refl _) _
      have HK := Lib.hid (Blk.new wr 38 [.int .i64 id, .slice px rows.length cx])
      have hs3 : (wr.alloc (.cells #[.int .i64 id, .slice px rows.length cx] 38)).heap.size = wr.heap.size + 1 := by simp
      have HBF := Lib.hid (hwr.below hal3)
      have HRW := Lib.hid hrw
      have HAL3 := Lib.hid hal3
      have HRR := Lib.hid hrr
      have hfid := hid
      have HFID := Lib.hid hfid
      have hbs := hbr.size
      clear hwr hbr hal3 hrw hrr hid
      generalize hlaid : sizeB l.length ++ laid batB (l.take k) = cur at *
      have HLAID := Lib.hid hlaid
      clear hlaid
      go_wp2_with fail
      generalize hw3 : wr.alloc (.cells #[.int .i64 id, .slice px rows.length cx] 38) = w3 at *
      clear hw3
      have x0 : w3.cell? ⟨wr.heap.size, 0, none⟩ = some (.int .i64 id) := HK.out.cell 0
      have x1 : w3.cell? ⟨wr.heap.size, 1, none⟩ = some (.slice px rows.length cx) := HK.out.cell 1
      have x1d : w3.drew.cell? ⟨wr.heap.size, 1, none⟩ = some (.slice px rows.length cx) := x1
      have hlt3 : wr.heap.size < w3.heap.size := by omega
      have hFlt : ∀ q, (w.heap.size ≤ q ∧ q < wr.heap.size) → q < w3.heap.size := fun q hq => Nat.lt_trans hq.2 hlt3
      have hone := one_int2 w3 id _ hFlt
      rw [hs3] at hone
      have hal4 : Below w3.heap.size w3 (w3.alloc (.cells #[.int .i64 id] 3)).drew := ((Below.refl w3.heap.size w3).alloc (Nat.le_refl _) _).drew
      have hsz := size_wr (w3.alloc (.cells #[.int .i64 id] 3)).drew _ _ _ [] cur (HBF.out.below hal4) _ [id] hone.drew (fun n hn => by rw [List.mem_singleton.1 hn]; exact HFID.out) (by omega) (by simp)
      have HSZ := Lib.hid hsz
      have ha4 : Agree (fun q => q = wr.heap.size) w3.drew (w3.alloc (.cells #[.int .i64 id] 3)).drew := agree_alloc (w := w3) _ (fun q hq => by rw [hq]; exact hlt3)
      have hlt4 : wr.heap.size < (w3.alloc (.cells #[.int .i64 id] 3)).drew.heap.size := Nat.lt_of_lt_of_le hlt3 hal4.size
      have HLT4 := Lib.hid hlt4
      have HAL4 := Lib.hid hal4
      have HLT3 := Lib.hid hlt3
      clear hsz hFlt hlt4 hone hal4
      refine wp_region_lit_plan [] [(0, 0), (1, 0), (5, 0), (2, 1), (6, 2), (3, 3), (4, 3), (7, 4)] (fun q => q = wr.heap.size) (by kernel_rfl) (by kernel_rfl) (fun c a d v w h => by cases d <;> exact h) ?_
      go_wp2_with (first
        | (refine plan_pure (v := _) (by rfl) (by rfl) (by rfl) (by intro _; go_simp; with_reducible rfl) ?_; simp only [List.setIfInBounds_toArray, List.set_cons_zero, List.set_cons_succ]; try go_bits) | (refine plan_read (v := _) (by rfl) (by rfl) (by rfl) (by go_simp; with_reducible rfl) ?_; simp only [List.setIfInBounds_toArray, List.set_cons_zero, List.set_cons_succ]; try go_bits) | (refine plan_readB (v := _) (by rfl) (by rfl) (by rfl) (by intro _ hag; unfold Agree at hag; go_simp; with_reducible rfl) ?_; simp only [List.setIfInBounds_toArray, List.set_cons_zero, List.set_cons_succ]; try go_bits) | (refine plan_skip0 (by rfl) (by rfl) (by rfl) ?_; simp only [List.setIfInBounds_toArray, List.set_cons_zero, List.set_cons_succ]; try go_bits) | (refine plan_skip1 (by rfl) (by rfl) (by rfl) ?_; simp only [List.setIfInBounds_toArray, List.set_cons_zero, List.set_cons_succ]; try go_bits) | (refine plan_skip2 (by rfl) (by rfl) (by rfl) ?_; simp only [List.setIfInBounds_toArray, List.set_cons_zero, List.set_cons_succ]; try go_bits) | (refine plan_skip4 (by rfl) (by rfl) (by rfl) ?_; simp only [List.setIfInBounds_toArray, List.set_cons_zero, List.set_cons_succ]; try go_bits) | (refine plan_any (by rfl) ?_) | (refine plan_keep (by rfl) ?_) | (refine plan_nil ?_) | (with_reducible refine And.intro (by first | assumption | exact Agree.refl _ _ | exact agree_drew _ _ | exact agree_alloc _ (by intro k hk; subst hk; first | omega | (simp; omega))) ?_) | (unfold Act.put; simp only [List.setIfInBounds_toArray, List.set_cons_zero, List.set_cons_succ])
        | (go_at_call 34; refine HSZ.out.mono ?_; clear HSZ; rintro e w5 ⟨rfl, F5, h51, h52, h53⟩; have H51 := Lib.hid h51; have H52 := Lib.hid h52; have H53 := Lib.hid h53; have ha5 : Agree (fun q => q = wr.heap.size) (w3.alloc (.cells #[.int .i64 id] 3)).drew w5 := agree_only h52 HLT4.out (fun h => Nat.lt_irrefl _ h.2); clear h51 h52 h53))
      have hw35 : Below w.heap.size w (w3.alloc (.cells #[.int .i64 id] 3)).drew := (HBR.out.trans (HAL3.out.mono HBR.out.size)).trans (HAL4.out.mono (Nat.le_trans HBR.out.size HAL3.out.size))
      have hb5 : Below w.heap.size w w5 := hw35.trans (H52.out.below hw35.size (fun q hq => hq.1))
      have hF5 : ∀ q, F5 q → w.heap.size ≤ q := fun q hq => by
        rcases H53.out q hq with h | h
        · exact h.1
        · exact Nat.le_trans hw35.size h
      have hir : IsRows w5 (fun q => ¬ F5 q) (.slice px rows.length cx) rows := ⟨HRW.out.1.mono hb5.size (fun q _ hl => hb5.block q hl) (fun q _ hl h => by have := hF5 q h; omega), fun r hr => ⟨(HRW.out.2 r hr).mono hb5.size (fun q _ hl => hb5.block q hl) (fun q _ hl h => by have := hF5 q h; omega), (HRR.out r hr).2.2, by have := (HRR.out r hr).1; omega⟩⟩
      have hl5 : (cur ++ laid sizeB [id]).length ≤ 10000000 := by
        have : (laid sizeB [id]).length ≤ 9 := by
          have := be_len8 (max id 0).toNat (by have := HFID.out; unfold fit64 at this; omega)
          simpa [laid, sizeB] using this
        rw [List.length_append]; omega
      refine (rows_wr w5 _ _ F5 [] _ H51.out _ rows hir hl5 (by omega) (fun r hr => by have := (HRR.out r hr).1; omega)).mono ?_
      rintro e w6 ⟨rfl, F6, h61, h62, h63⟩
      obtain ⟨hw6, hb6⟩ := wrote_of (n0 := w.heap.size) hF5 hb5.size h61 h62 h63
      have hfin : Wrote w.heap.size w.heap.size w6 (sizeB l.length ++ laid batB (l.take (k + 1))) := by
        rw [HNX.out, ← List.append_assoc, HLAID.out]
        unfold batB
        simpa [laid] using hw6
      have HFIN := Lib.hid hfin
      have HB6 := Lib.hid (hb5.trans hb6)
      clear h61 h62 h63 hw6 hb6 hfin hir hl5 hb5 hw35 hF5
      go_wp2_with (first
        | (refine plan_pure (v := _) (by rfl) (by rfl) (by rfl) (by intro _; go_simp; with_reducible rfl) ?_; simp only [List.setIfInBounds_toArray, List.set_cons_zero, List.set_cons_succ]; try go_bits) | (refine plan_read (v := _) (by rfl) (by rfl) (by rfl) (by go_simp; with_reducible rfl) ?_; simp only [List.setIfInBounds_toArray, List.set_cons_zero, List.set_cons_succ]; try go_bits) | (refine plan_readB (v := _) (by rfl) (by rfl) (by rfl) (by intro _ hag; unfold Agree at hag; go_simp; with_reducible rfl) ?_; simp only [List.setIfInBounds_toArray, List.set_cons_zero, List.set_cons_succ]; try go_bits) | (refine plan_skip0 (by rfl) (by rfl) (by rfl) ?_; simp only [List.setIfInBounds_toArray, List.set_cons_zero, List.set_cons_succ]; try go_bits) | (refine plan_skip1 (by rfl) (by rfl) (by rfl) ?_; simp only [List.setIfInBounds_toArray, List.set_cons_zero, List.set_cons_succ]; try go_bits) | (refine plan_skip2 (by rfl) (by rfl) (by rfl) ?_; simp only [List.setIfInBounds_toArray, List.set_cons_zero, List.set_cons_succ]; try go_bits) | (refine plan_skip4 (by rfl) (by rfl) (by rfl) ?_; simp only [List.setIfInBounds_toArray, List.set_cons_zero, List.set_cons_succ]; try go_bits) | (refine plan_any (by rfl) ?_) | (refine plan_keep (by rfl) ?_) | (refine plan_nil ?_) | (with_reducible refine And.intro (by first | assumption | exact Agree.refl _ _ | exact agree_drew _ _ | exact agree_alloc _ (by intro k hk; subst hk; first | omega | (simp; omega))) ?_) | (unfold Act.put; simp only [List.setIfInBounds_toArray, List.set_cons_zero, List.set_cons_succ]))
      exact ⟨⟨k + 1, by go_num, by omega, HFIN.out, HB6.out⟩, by (simp [intOf]) <;> omega⟩
    · obtain rfl : k = l.length := by omega
      have hst := string_wr wr _ _ _ _ _ hwr
      rw [List.take_length, HOUT.out] at hst
      have HST := Lib.hid hst
      clear hwr hbr hst
      go_wp2_with (go_at_call 40; refine HST.out.mono ?_; clear HST; rintro e w5 ⟨rfl, rfl⟩)
      go_ret
      exact ⟨rfl, HBR.out⟩
end Go.Proofs.Ytdhdphmehjkbnaa
