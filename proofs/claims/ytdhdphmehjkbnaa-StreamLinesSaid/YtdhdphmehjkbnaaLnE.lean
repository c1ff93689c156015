/- Lines: First. -/
import Derived.Test.YtdhdphmehjkbnaaLnD
namespace Go.Proofs.Ytdhdphmehjkbnaa
open Go.RowKit Go.Afx
variable {F : Nat → Prop}

def FirstOut (w : World) (l : List BatV) (e : Ending) (w' : World) : Prop :=
  (l = [] ∧ e = .returned (.tuple #[.agg #[.int .i64 0, .slice none 0 0], .bool false]) ∧ Below w.heap.size w w') ∨
  (∃ x t v acc, l = x :: t ∧ e = .returned (.tuple #[.agg #[.int .i64 x.id, v], .bool true]) ∧ RowsAt w' (fun k => w.heap.size ≤ k) v acc ∧ acc.map RowV.l = x.rows.map RowV.l ∧ Below w.heap.size w w')

set_option maxRecDepth 100000 in
theorem lfirst (w : World) (b : Nat) (lv : Value) (nm : ByteArray) (cl : List ColV) (room : Int) (l : List BatV) (h : IsLine F w b lv nm cl room l) (hrl : ∀ x ∈ l, x.rows.length ≤ 1000000 ∧ ∀ r ∈ x.rows, r.l.length ≤ 1000000) :
    Calls Try.prog 55 #[.pointer (some ⟨b, 0, none⟩)] w (FirstOut w l) := by
  have hal : Below w.heap.size w (w.alloc (.cells #[.int .i64 0, .slice none 0 0] 38)) := (Below.refl _ _).alloc (Nat.le_refl _) _
  have HK : Hid (Blk (w.alloc (.cells #[.int .i64 0, .slice none 0 0] 38)) w.heap.size 38 [.int .i64 0, .slice none 0 0]) := Blk.new w _ _
  have hl2 := h.below hal
  have HL := Lib.hid (llen _ b lv nm cl room l hl2)
  have HAL := Lib.hid hal
  clear hal h
  by_cases hl0 : l = []
  · subst hl0
    clear hl2 hrl
    have hz : (([] : List BatV).length : Int) = 0 := rfl
    simp only [List.length_nil] at HL
    go_enter Try.func55, Try.ntmps55
    go_wp2_with (go_at_call 58; refine HL.out.mono ?_; clear HL; rintro e w2 ⟨rfl, rfl⟩)
    refine bodyPost_ret (v := .tuple #[.agg #[.int .i64 0, .slice none 0 0], .bool false]) (by simp [results, Try.results55, go_sem]) rfl (Or.inl ⟨rfl, rfl, ?_⟩)
    exact HAL.out
  · have hpos : 0 < l.length := List.length_pos_iff.2 hl0
    obtain ⟨cv, h1, h3, h4, h5, h6⟩ := hl2
    have k0 : (w.alloc (.cells #[.int .i64 0, .slice none 0 0] 38)).cell? ⟨b, 2, none⟩ = some lv := h1.cell 2
    obtain ⟨g, off, cap, rfl, hg, e0, e1⟩ := sl_bat (h4.sl (B := fun _ => True) (fun _ _ => trivial)) hpos
    simp only [Nat.zero_mul, Nat.add_zero] at e0 e1
    have hx := h6 l[0] (List.getElem_mem hpos)
    obtain ⟨hxl, hxr⟩ := hrl l[0] (List.getElem_mem hpos)
    have HC := Lib.hid (copied_any _ _ l[0].id l[0].v l[0].rows hx hxl hxr)
    obtain ⟨px, cx, hxv, hcx1, hcx2⟩ := hx.1.form
    have hsz : ∀ W : World, Below (w.alloc (.cells #[.int .i64 0, .slice none 0 0] 38)).heap.size (w.alloc (.cells #[.int .i64 0, .slice none 0 0] 38)) W → Blk W w.heap.size 38 [.int .i64 0, .slice none 0 0] := fun W hb => HK.out.below hb
    have HSZ := Lib.hid hsz
    have hlx : l = l[0] :: l.tail := by cases l with | nil => cases hl0 rfl | cons a t => rfl
    have HLX := Lib.hid hlx
    have d0 : ((l.length : Int) == 0) = false := beq_eq_false_iff_ne.2 (by omega)
    have hK1 := HK.out.lt
    clear h1 h3 h4 h5 h6 hx hxl hxr hrl hsz hlx hl0 HK
    generalize l[0] = x at *
    generalize l.tail = t at *
    obtain ⟨id, v, rows⟩ := x
    simp only at e0 e1 HC hxv
    subst hxv
    go_enter Try.func55, Try.ntmps55
    go_wp2_with fail
    generalize hw1 : w.alloc (.cells #[.int .i64 0, .slice none 0 0] 38) = w1 at *
    clear hw1
    refine HL.out.mono ?_
    clear HL
    rintro e w2 ⟨rfl, rfl⟩
    go_wp2_with fail
    refine HC.out.mono ?_
    clear HC
    rintro e w3 hco
    unfold CopyOut at hco
    obtain ⟨v3, acc, rfl, hra, hacc, hb3⟩ := hco
    obtain ⟨p3, c3, rfl, hc31, hc32⟩ := hra.1.form
    have hk3 := HSZ.out _ hb3
    have kf : ∀ i, w3.frozen? ⟨w.heap.size, i, none⟩ = false := hk3.frozen
    have y0 : w3.cell? ⟨w.heap.size, 0, none⟩ = some (.int .i64 0) := hk3.cell 0
    have y1 : w3.cell? ⟨w.heap.size, 1, none⟩ = some (.slice none 0 0) := hk3.cell 1
    have hsz2 : w.heap.size < w1.heap.size := hK1
    have HRA := Lib.hid hra
    have HACC := Lib.hid hacc
    have HB3 := Lib.hid (HAL.out.trans (hb3.mono HAL.out.size))
    clear hra hacc hb3 hk3
    go_wp2
    refine bodyPost_ret (v := .tuple #[.agg #[.int .i64 id, .slice p3 acc.length c3], .bool true]) (by simp [results, Try.results55, go_sem, y0, y1]) rfl ?_
    refine Or.inr ⟨_, t, _, acc, HLX.out, rfl, ?_, HACC.out, ?_⟩
    · have ho2 : Only (fun q => q = w.heap.size) w3 ((w3.setCell ⟨w.heap.size, 0, none⟩ (.int .i64 id)).setCell ⟨w.heap.size, 1, none⟩ (.slice p3 acc.length c3)) := ((Only.refl (fun q => q = w.heap.size) w3).setCell (p := ⟨w.heap.size, 0, none⟩) (fun _ => rfl) _).setCell (p := ⟨w.heap.size, 1, none⟩) (fun _ => rfl) _
      have h8 := HRA.out.only ho2 (fun q hq h => by omega)
      exact ⟨h8.1.mono (Nat.le_refl _) (fun _ _ _ => rfl) (fun _ h _ => by omega), fun r hr => (h8.2 r hr).mono (Nat.le_refl _) (fun _ _ _ => rfl) (fun _ h _ => by omega)⟩
    · exact (HB3.out.setCell (p := ⟨w.heap.size, 0, none⟩) (by simp) _).setCell (p := ⟨w.heap.size, 1, none⟩) (by simp) _
end Go.Proofs.Ytdhdphmehjkbnaa
