/- Lines: Batches. -/
import Derived.Test.YtdhdphmehjkbnaaLnD
import Derived.Test.YtdhdphmehjkbnaaLnA
namespace Go.Proofs.Ytdhdphmehjkbnaa
open Go.RowKit Go.Afx
variable {F : Nat → Prop}

def askedB (ids : List Int) (b : BatV) : Bool := decide (ids.length = 0) || ids.contains b.id
/-- What Batches leaves. -/
def BatsOut (w : World) (ids : List Int) (l : List BatV) (e : Ending) (w' : World) : Prop :=
  ∃ v acc, e = .returned v ∧ BatAt w' (fun k => w.heap.size ≤ k) v acc ∧ acc.map BatV.key = (l.filter (askedB ids)).map BatV.key ∧ Below w.heap.size w w'
theorem elemBat : Elem Try.prog 25 38 2 32 (.agg #[.int .i64 0, .slice none 0 0]) :=
  ⟨Try.underlying25, by kernel_rfl, rfl, by omega, by intro u hu; simp [Value.cells] at hu; rcases hu with rfl | rfl <;> rfl⟩
def BatsSt (w : World) (ids : List Int) (l : List BatV) (k : Nat) (v : Value) (wr : World) : Prop :=
  ∃ acc : List BatV, Own wr 38 2 v acc.length (batCells acc) ∧ (∀ q, v.ownBlock = some q → w.heap.size ≤ q) ∧ (∀ x ∈ acc, RowsAt wr (fun q => w.heap.size ≤ q ∧ v.ownBlock ≠ some q) x.v x.rows) ∧
    acc.map BatV.key = ((l.take k).filter (askedB ids)).map BatV.key ∧ acc.length ≤ k ∧ Below w.heap.size w wr

set_option maxRecDepth 100000 in
set_option maxHeartbeats 1000000 in
theorem lbatches (w : World) (B : Nat → Prop) (b : Nat) (lv : Value) (nm : ByteArray) (cl : List ColV) (room : Int) (l : List BatV) (h : IsLine F w b lv nm cl room l) (hrl : ∀ x ∈ l, x.rows.length ≤ 1000000 ∧ ∀ r ∈ x.rows, r.l.length ≤ 1000000)
    (iv : Value) (ids : List Int) (hi : Sl w B 1 iv ids.length (ints ids)) (hll : l.length ≤ 1000000) :
    Calls Try.prog 60 #[.pointer (some ⟨b, 0, none⟩), iv] w (BatsOut w ids l) := by
  obtain ⟨pi, ci, rfl, hci1, hci2⟩ := hi.form
  obtain ⟨cv, a1, a2, a3, a4, a5⟩ := h
  have k0 : w.cell? ⟨b, 2, none⟩ = some lv := a1.cell 2
  obtain ⟨pl, cpl, rfl, hpl1, hpl2⟩ := own_form a3
  have hb : BatAt w (fun _ => True) (.slice pl l.length cpl) l := ⟨a3.sl (fun _ _ => trivial), fun x hx => ⟨(a5 x hx).1.mono (Nat.le_refl _) (fun _ _ _ => rfl) (fun _ _ _ => trivial), fun r hr => ((a5 x hx).2 r hr).mono (Nat.le_refl _) (fun _ _ _ => rfl) (fun _ _ _ => trivial)⟩⟩
  have HB := Lib.hid hb
  have HI := Lib.hid hi
  have HRL := Lib.hid hrl
  clear a1 a2 a3 a4 a5 hb hi hrl
  go_enter Try.func60, Try.ntmps60
  go_wp2
  go_loopw [5, 15] (fun v i wr => ∃ k : Nat, i = .int .i64 k ∧ k ≤ l.length ∧ BatsSt w ids l k v wr) (fun _ i _ => l.length - (intOf i).toNat)
  case atStart => exact ⟨0, rfl, Nat.zero_le _, [], Own.nil _ _ _, by simp [Value.ownBlock], by simp, by simp, Nat.le_refl _, Below.refl _ _⟩
  case round =>
    obtain ⟨k, rfl, hk, acc, hown, hnew, hrows, hacc, hal, hbr⟩ := hrel
    obtain ⟨pv, cv2, rfl, hcv1, hcv2⟩ := own_form hown
    by_cases hka : k < l.length
    · obtain ⟨g, off, cap, hv, hg, e0, e1⟩ := sl_bat (HB.out.below hbr).1 hka
      cases hv
      have hrw := (HB.out.below hbr).2 l[k] (List.getElem_mem hka)
      obtain ⟨hxl, hxr⟩ := HRL.out l[k] (List.getElem_mem hka)
      have hT : l.take (k + 1) = l.take k ++ [l[k]] := by
        rw [List.take_succ_eq_append_getElem hka]
      have HT := Lib.hid hT
      clear hT
      generalize l[k] = x at *
      obtain ⟨id, xv, rows⟩ := x
      simp only at e0 e1 hrw hxl hxr
      obtain ⟨px, cx, rfl, hcx1, hcx2⟩ := hrw.1.form
      have hal1 : Below wr.heap.size wr (wr.alloc (.cells #[.int .i64 id, .slice px rows.length cx] 38)) := (Below.refl _ _).alloc (Nat.le_refl _) _
      have HK := Lib.hid (Blk.new wr 38 [.int .i64 id, .slice px rows.length cx])
      have HOWN := Lib.hid (hown.below hal1)
      have HNEW := Lib.hid hnew
      have HROWS := Lib.hid hrows
      have HACC := Lib.hid hacc
      have HBR := Lib.hid hbr
      have HAL1 := Lib.hid hal1
      have HRW := Lib.hid (hrw.below hal1)
      have hcn := contains_any (wr.alloc (.cells #[.int .i64 id, .slice px rows.length cx] 38)) B _ ids id ((HI.out.below hbr).below hal1)
      have HCN := Lib.hid hcn
      have hask : askedB ids ⟨id, .slice px rows.length cx, rows⟩ = (decide (ids.length = 0) || ids.contains id) := rfl
      have HASK := Lib.hid hask
      clear hown hnew hrows hacc hbr hal1 hrw hcn hask
      by_cases hids : ids.length = 0
      · have HASKED : Hid (askedB ids ⟨id, .slice px rows.length cx, rows⟩ = true) := by
          rw [HASK.out, decide_eq_true hids]; exact Lib.hid rfl
        have d0 : ((ids.length : Int) == 0) = true := by rw [beq_iff_eq]; omega
        clear HCN HASK hids
        go_wp2_with fail
        have HBR4 : Hid (Below w.heap.size w (wr.alloc (.cells #[.int .i64 id, .slice px rows.length cx] 38))) := HBR.out.trans (HAL1.out.mono HBR.out.size)
        generalize hw4 : wr.alloc (.cells #[.int .i64 id, .slice px rows.length cx] 38) = w4 at *
        clear hw4
        have HOWN4 := HOWN
        have HAL4 := HAL1
        have HRW4 := HRW
        refine (copied_any w4 _ id _ rows HRW4.out hxl hxr).mono ?_
        rintro e w6 hco
        unfold CopyOut at hco
        obtain ⟨v6, racc, rfl, hra, hracc, hb6⟩ := hco
        obtain ⟨p6, c6, rfl, hc61, hc62⟩ := hra.1.form
        have hal7 : Below w6.heap.size w6 (w6.alloc (.cells #[.int .i64 id, .slice p6 racc.length c6] 38)) := (Below.refl _ _).alloc (Nat.le_refl _) _
        have ho1 := (HOWN4.out.below hb6).below hal7
        have hs1 : Sl (w6.alloc (.cells #[.int .i64 id, .slice p6 racc.length c6] 38)) (fun _ => True) 2 (.slice (some ⟨w6.heap.size, 0, none⟩) 1 1) 1 (batCells [⟨id, .slice p6 racc.length c6, racc⟩]) :=
          (Own.made w6 38 2 (batCells [⟨id, .slice p6 racc.length c6, racc⟩]) [] 1 1 rfl (by intro u hu; simp [batCells, BatV.cells] at hu; rcases hu with rfl | rfl <;> rfl) (Nat.le_refl _) (by simp [maxLen]) (by simp [batCells, BatV.cells])).sl (fun _ _ => trivial)
        have HRA := Lib.hid hra
        have HRACC := Lib.hid hracc
        have HB6 := Lib.hid hb6
        have HAL7 := Lib.hid hal7
        clear hra hracc hb6 hal7
        go_wp2_with (at_builtin; refine wpList_app rfl _ _ rfl elemBat (by rfl) ho1 (by rfl) hs1 (by unfold maxLen; omega) (by omega) ?_; intro v1 w7 g1 g2 g3 g4 g5; clear ho1 hs1; have G1 := Lib.hid g1; have G2 := Lib.hid g2; have G3 := Lib.hid g3; clear g1 g2 g3 g4 g5)
        have hw4 : w.heap.size ≤ w4.heap.size := HBR4.out.size
        have hw6 : w4.heap.size ≤ w6.heap.size := HB6.out.size
        have hmv : ∀ y : BatV, RowsAt (w6.alloc (.cells #[.int .i64 id, .slice p6 racc.length c6] 38)) (fun q => w.heap.size ≤ q ∧ q ≠ w6.heap.size + 1 ∧ (Value.slice pv acc.length cv2).ownBlock ≠ some q) y.v y.rows → RowsAt w7 (fun q => w.heap.size ≤ q ∧ v1.ownBlock ≠ some q) y.v y.rows := fun y h => by
          have hb : ∀ q, (w.heap.size ≤ q ∧ q ≠ w6.heap.size + 1 ∧ (Value.slice pv acc.length cv2).ownBlock ≠ some q) → w.heap.size ≤ q ∧ v1.ownBlock ≠ some q := fun q hq => ⟨hq.1, fun h7 => by
            rcases G3.out with h1 | h1
            · rw [h1] at h7; exact hq.2.2 h7
            · rw [h1] at h7
              have : w6.heap.size + 1 = q := by simpa using h7
              exact hq.2.1 this.symm⟩
          exact ⟨h.1.mono G2.out.size (fun q hq hl => G2.out.block q hl hq.2.2) (fun q hq _ => hb q hq), fun r hr => (h.2 r hr).mono G2.out.size (fun q hq hl => G2.out.block q hl hq.2.2) (fun q hq _ => hb q hq)⟩
        go_roundw
        case rel =>
          refine ⟨k + 1, by go_num, by omega, acc ++ [⟨id, .slice p6 racc.length c6, racc⟩], ?_, fun q hq => ?_, fun y hy => ?_, ?_, ?_, ?_⟩
          · rw [List.length_append, batCells_append]; exact G1.out
          · rcases G3.out with h2 | h2
            · rw [h2] at hq; exact HNEW.out q hq
            · rw [h2] at hq
              have : w6.heap.size + 1 = q := by simpa using hq
              omega
          · rcases List.mem_append.1 hy with hy | hy
            · have h8 := (((HROWS.out y hy).below HAL4.out).below HB6.out)
              have hlt : w6.heap.size < w6.heap.size + 1 := Nat.lt_succ_self _
              have h9 : RowsAt w6 (fun q => w.heap.size ≤ q ∧ q ≠ w6.heap.size + 1 ∧ (Value.slice pv acc.length cv2).ownBlock ≠ some q) y.v y.rows :=
                ⟨h8.1.mono (Nat.le_refl _) (fun _ _ _ => rfl) (fun q hq hl => ⟨hq.1, by omega, hq.2⟩), fun r hr => (h8.2 r hr).mono (Nat.le_refl _) (fun _ _ _ => rfl) (fun q hq hl => ⟨hq.1, by omega, hq.2⟩)⟩
              exact hmv y (h9.below HAL7.out)
            · rw [List.mem_singleton.1 hy]
              have h8 := HRA.out
              have hne : ∀ q, w4.heap.size ≤ q → (Value.slice pv acc.length cv2).ownBlock ≠ some q := fun q hq h => by
                have := HOWN4.out.lt q h; omega
              have h9 : RowsAt w6 (fun q => w.heap.size ≤ q ∧ q ≠ w6.heap.size + 1 ∧ (Value.slice pv acc.length cv2).ownBlock ≠ some q) (.slice p6 racc.length c6) racc :=
                ⟨h8.1.mono (Nat.le_refl _) (fun _ _ _ => rfl) (fun q hq hl => ⟨by omega, by omega, hne q hq⟩), fun r hr => (h8.2 r hr).mono (Nat.le_refl _) (fun _ _ _ => rfl) (fun q hq hl => ⟨by omega, by omega, hne q hq⟩)⟩
              exact hmv ⟨id, .slice p6 racc.length c6, racc⟩ (h9.below HAL7.out)
          · rw [HT.out, List.filter_append, List.map_append, List.map_append, ← HACC.out]
            congr 1
            rw [List.filter_cons, if_pos HASKED.out]
            simp only [List.filter_nil, List.map_cons, List.map_nil, BatV.key]
            rw [HRACC.out]
          · rw [List.length_append]; simp only [List.length_cons, List.length_nil]; omega
          · have h8 := (HBR4.out.trans (HB6.out.mono hw4)).trans (HAL7.out.mono (Nat.le_trans hw4 hw6))
            exact h8.trans (G2.out.below (by have := h8.size; exact this) (fun q hq => HNEW.out q hq))
        case measure => (simp [intOf]) <;> omega
      · have d0 : ((ids.length : Int) == 0) = false := beq_eq_false_iff_ne.2 (by omega)
        have hak : askedB ids ⟨id, .slice px rows.length cx, rows⟩ = ids.contains id := by rw [HASK.out, decide_eq_false hids]; rfl
        clear HASK hids
        generalize ids.contains id = c at *
        go_wp2_with fail
        refine HCN.out.mono ?_
        clear HCN
        rintro e w4 ⟨rfl, hb4⟩
        have HAL4 := Lib.hid (HAL1.out.trans (hb4.mono HAL1.out.size))
        have HOWN4 := Lib.hid (HOWN.out.below hb4)
        have HRW4 := Lib.hid (HRW.out.below hb4)
        have HBR4 : Hid (Below w.heap.size w w4) := HBR.out.trans (HAL4.out.mono HBR.out.size)
        have hk4 := HK.out.below hb4
        have z0 : w4.cell? ⟨wr.heap.size, 0, none⟩ = some (.int .i64 id) := hk4.cell 0
        have z1 : w4.cell? ⟨wr.heap.size, 1, none⟩ = some (.slice px rows.length cx) := hk4.cell 1
        clear hk4 hb4 HOWN HRW
        cases c
        · have HASKED := Lib.hid hak
          clear hak
          go_wp2_with fail
          go_roundw
          case rel =>
            refine ⟨k + 1, by go_num, by omega, acc, HOWN4.out, HNEW.out, fun y hy => (HROWS.out y hy).below HAL4.out, ?_, by omega, HBR4.out⟩
            rw [HT.out, List.filter_append, List.map_append, ← HACC.out, List.filter_cons, if_neg (by rw [HASKED.out]; decide)]
            simp
          case measure => (simp [intOf]) <;> omega
        · have HASKED := Lib.hid hak
          clear hak
          go_wp2_with fail
          refine (copied_any w4 _ id _ rows HRW4.out hxl hxr).mono ?_
          rintro e w6 hco
          unfold CopyOut at hco
          obtain ⟨v6, racc, rfl, hra, hracc, hb6⟩ := hco
          obtain ⟨p6, c6, rfl, hc61, hc62⟩ := hra.1.form
          have hal7 : Below w6.heap.size w6 (w6.alloc (.cells #[.int .i64 id, .slice p6 racc.length c6] 38)) := (Below.refl _ _).alloc (Nat.le_refl _) _
          have ho1 := (HOWN4.out.below hb6).below hal7
          have hs1 : Sl (w6.alloc (.cells #[.int .i64 id, .slice p6 racc.length c6] 38)) (fun _ => True) 2 (.slice (some ⟨w6.heap.size, 0, none⟩) 1 1) 1 (batCells [⟨id, .slice p6 racc.length c6, racc⟩]) :=
            (Own.made w6 38 2 (batCells [⟨id, .slice p6 racc.length c6, racc⟩]) [] 1 1 rfl (by intro u hu; simp [batCells, BatV.cells] at hu; rcases hu with rfl | rfl <;> rfl) (Nat.le_refl _) (by simp [maxLen]) (by simp [batCells, BatV.cells])).sl (fun _ _ => trivial)
          have HRA := Lib.hid hra
          have HRACC := Lib.hid hracc
          have HB6 := Lib.hid hb6
          have HAL7 := Lib.hid hal7
          clear hra hracc hb6 hal7
          go_wp2_with (at_builtin; refine wpList_app rfl _ _ rfl elemBat (by rfl) ho1 (by rfl) hs1 (by unfold maxLen; omega) (by omega) ?_; intro v1 w7 g1 g2 g3 g4 g5; clear ho1 hs1; have G1 := Lib.hid g1; have G2 := Lib.hid g2; have G3 := Lib.hid g3; clear g1 g2 g3 g4 g5)
          have hw4 : w.heap.size ≤ w4.heap.size := HBR4.out.size
          have hw6 : w4.heap.size ≤ w6.heap.size := HB6.out.size
          have hmv : ∀ y : BatV, RowsAt (w6.alloc (.cells #[.int .i64 id, .slice p6 racc.length c6] 38)) (fun q => w.heap.size ≤ q ∧ q ≠ w6.heap.size + 1 ∧ (Value.slice pv acc.length cv2).ownBlock ≠ some q) y.v y.rows → RowsAt w7 (fun q => w.heap.size ≤ q ∧ v1.ownBlock ≠ some q) y.v y.rows := fun y h => by
            have hb : ∀ q, (w.heap.size ≤ q ∧ q ≠ w6.heap.size + 1 ∧ (Value.slice pv acc.length cv2).ownBlock ≠ some q) → w.heap.size ≤ q ∧ v1.ownBlock ≠ some q := fun q hq => ⟨hq.1, fun h7 => by
              rcases G3.out with h1 | h1
              · rw [h1] at h7; exact hq.2.2 h7
              · rw [h1] at h7
                have : w6.heap.size + 1 = q := by simpa using h7
                exact hq.2.1 this.symm⟩
            exact ⟨h.1.mono G2.out.size (fun q hq hl => G2.out.block q hl hq.2.2) (fun q hq _ => hb q hq), fun r hr => (h.2 r hr).mono G2.out.size (fun q hq hl => G2.out.block q hl hq.2.2) (fun q hq _ => hb q hq)⟩
          go_roundw
          case rel =>
            refine ⟨k + 1, by go_num, by omega, acc ++ [⟨id, .slice p6 racc.length c6, racc⟩], ?_, fun q hq => ?_, fun y hy => ?_, ?_, ?_, ?_⟩
            · rw [List.length_append, batCells_append]; exact G1.out
            · rcases G3.out with h2 | h2
              · rw [h2] at hq; exact HNEW.out q hq
              · rw [h2] at hq
                have : w6.heap.size + 1 = q := by simpa using hq
                omega
            · rcases List.mem_append.1 hy with hy | hy
              · have h8 := (((HROWS.out y hy).below HAL4.out).below HB6.out)
                have hlt : w6.heap.size < w6.heap.size + 1 := Nat.lt_succ_self _
                have h9 : RowsAt w6 (fun q => w.heap.size ≤ q ∧ q ≠ w6.heap.size + 1 ∧ (Value.slice pv acc.length cv2).ownBlock ≠ some q) y.v y.rows :=
                  ⟨h8.1.mono (Nat.le_refl _) (fun _ _ _ => rfl) (fun q hq hl => ⟨hq.1, by omega, hq.2⟩), fun r hr => (h8.2 r hr).mono (Nat.le_refl _) (fun _ _ _ => rfl) (fun q hq hl => ⟨hq.1, by omega, hq.2⟩)⟩
                exact hmv y (h9.below HAL7.out)
              · rw [List.mem_singleton.1 hy]
                have h8 := HRA.out
                have hne : ∀ q, w4.heap.size ≤ q → (Value.slice pv acc.length cv2).ownBlock ≠ some q := fun q hq h => by
                  have := HOWN4.out.lt q h; omega
                have h9 : RowsAt w6 (fun q => w.heap.size ≤ q ∧ q ≠ w6.heap.size + 1 ∧ (Value.slice pv acc.length cv2).ownBlock ≠ some q) (.slice p6 racc.length c6) racc :=
                  ⟨h8.1.mono (Nat.le_refl _) (fun _ _ _ => rfl) (fun q hq hl => ⟨by omega, by omega, hne q hq⟩), fun r hr => (h8.2 r hr).mono (Nat.le_refl _) (fun _ _ _ => rfl) (fun q hq hl => ⟨by omega, by omega, hne q hq⟩)⟩
                exact hmv ⟨id, .slice p6 racc.length c6, racc⟩ (h9.below HAL7.out)
            · rw [HT.out, List.filter_append, List.map_append, List.map_append, ← HACC.out]
              congr 1
              rw [List.filter_cons, if_pos HASKED.out]
              simp only [List.filter_nil, List.map_cons, List.map_nil, BatV.key]
              rw [HRACC.out]
            · rw [List.length_append]; simp only [List.length_cons, List.length_nil]; omega
            · have h8 := (HBR4.out.trans (HB6.out.mono hw4)).trans (HAL7.out.mono (Nat.le_trans hw4 hw6))
              exact h8.trans (G2.out.below (by have := h8.size; exact this) (fun q hq => HNEW.out q hq))
          case measure => (simp [intOf]) <;> omega
    · obtain rfl : k = l.length := by omega
      have HF : Hid (BatsOut w ids l (.returned (.slice pv acc.length cv2)) wr) := by
        refine ⟨_, acc, rfl, ⟨hown.sl hnew, fun x hx => ⟨(hrows x hx).1.mono (Nat.le_refl _) (fun _ _ _ => rfl) (fun _ h _ => h.1), fun r hr => ((hrows x hx).2 r hr).mono (Nat.le_refl _) (fun _ _ _ => rfl) (fun _ h _ => h.1)⟩⟩, ?_, hbr⟩
        rw [hacc, List.take_length]
      clear hown hnew hrows hacc hbr hal
      go_wp2
      go_ret
      exact HF.out
end Go.Proofs.Ytdhdphmehjkbnaa
