/- The document's bytes: Row, Rows. -/
import Derived.Test.YtdhdphmehjkbnaaRefF
namespace Go.Proofs.Ytdhdphmehjkbnaa
open Go.RowKit Go.Afx

set_option maxRecDepth 100000 in
theorem refrow (w : World) (B : Nat → Prop) (v : Value) (l : List AV) (hl : Sl w B 3 v l.length (rowCells l)) (hf : ∀ a ∈ l, fit64 a.n) (hll : l.length ≤ 10000) :
    Calls Try.prog 32 #[v] w fun e w' => e = .returned (.string (bs (rowB l))) ∧ Below w.heap.size w w' := by
  obtain ⟨p, cap, rfl, hc1, hc2⟩ := hl.form
  have HL := Lib.hid hl
  have HF := Lib.hid hf
  have HS := Lib.hid (refsize w l.length (by unfold fit64; omega))
  have hsz := be_len8 (max (l.length : Int) 0).toNat (by omega)
  have HSZ : Hid ((sizeB l.length).length ≤ 9) := hsz
  clear hl hf hsz
  go_enter Try.func32, Try.ntmps32
  go_wp2_with (go_at_call 28; refine HS.out.mono ?_; clear HS; rintro e w2 ⟨rfl, hb2⟩)
  go_loopw [3, 4] (fun s i wr => ∃ k : Nat, i = .int .i64 k ∧ k ≤ l.length ∧ s = .string (bs (sizeB l.length ++ laid valB (l.take k))) ∧ Below w.heap.size w wr) (fun _ i _ => l.length - (intOf i).toNat)
  case atStart => exact ⟨0, rfl, Nat.zero_le _, by simp [laid], hb2⟩
  case round =>
    obtain ⟨k, rfl, hk, rfl, hb⟩ := hrel
    have HB := Lib.hid hb
    have hll2 := laid_len valB 1010 (l.take k) (fun a ha => valB_len a (HF.out a (List.mem_of_mem_take ha)))
    have hlk : (l.take k).length ≤ 10000 := by rw [List.length_take]; omega
    by_cases hka : k < l.length
    · obtain ⟨g, off, cap', hv, hg, e0, e1, e2⟩ := sl_av (HL.out.below hb) hka
      cases hv
      have HN := Lib.hid (laid_next valB l k hka)
      have hx := HF.out l[k] (List.getElem_mem hka)
      have hvl := valB_len _ hx
      generalize l[k] = x at *
      have hcat : bs (sizeB l.length ++ laid valB (l.take k)) ++ bs (valB x) = bs (sizeB l.length ++ laid valB (l.take (k + 1))) := by rw [bs_append, HN.out, List.append_assoc]
      have hsum : (bs (sizeB l.length ++ laid valB (l.take k))).size + (bs (valB x)).size ≤ 9223372036854775807 := by
        have := HSZ.out
        rw [bs_size, bs_size, List.length_append]; omega
      have HV := Lib.hid (refval wr x hx)
      have hag : x.agg = .agg #[.int .i64 x.kind, .int .i64 x.n, .string x.s] := rfl
      rw [hag] at HV
      clear hag hb hx hvl hll2 hlk
      generalize bs (sizeB l.length ++ laid valB (l.take k)) = S at *
      generalize hR : bs (sizeB l.length ++ laid valB (l.take (k + 1))) = R at *
      have HR := Lib.hid hR
      clear hR
      generalize bs (valB x) = T at *
      go_wp2_with (go_at_call 31; refine HV.out.mono ?_; clear HV; rintro e w3 ⟨rfl, hb3⟩)
      go_roundw
      case rel => exact ⟨k + 1, by go_num, by omega, by rw [HR.out], HB.out.trans (hb3.mono HB.out.size)⟩
      case measure => (simp [intOf]) <;> omega
    · obtain rfl : k = l.length := by omega
      rw [List.take_length]
      have HE : Hid (rowB l = sizeB l.length ++ laid valB l) := rfl
      generalize sizeB l.length ++ laid valB l = S at *
      clear hb hll2 hlk
      go_wp2
      go_ret
      exact ⟨by rw [HE.out]; rfl, HB.out⟩

def rowsB2 (rows : List (List AV)) : List UInt8 := sizeB rows.length ++ laid rowB rows
theorem rowsB_2 (rows : List RowV) : rowsB rows = rowsB2 (rows.map RowV.l) := by
  unfold rowsB rowsB2 laid
  rw [List.length_map, List.map_map]
  rfl

set_option maxRecDepth 100000 in
theorem refrows (w : World) (B : Nat → Prop) (v : Value) (rows : List RowV) (hl : RowsAt w B v rows) (hf : ∀ r ∈ rows, (∀ a ∈ r.l, fit64 a.n) ∧ r.l.length ≤ 100) (hll : rows.length ≤ 1000) :
    Calls Try.prog 33 #[v] w fun e w' => e = .returned (.string (bs (rowsB rows))) ∧ Below w.heap.size w w' := by
  obtain ⟨p, cap, rfl, hc1, hc2⟩ := hl.1.form
  have HL := Lib.hid hl
  have HF := Lib.hid hf
  have HS := Lib.hid (refsize w rows.length (by unfold fit64; omega))
  have hsz := be_len8 (max (rows.length : Int) 0).toNat (by omega)
  have HSZ : Hid ((sizeB rows.length).length ≤ 9) := hsz
  clear hl hf hsz
  go_enter Try.func33, Try.ntmps33
  go_wp2_with (go_at_call 28; refine HS.out.mono ?_; clear HS; rintro e w2 ⟨rfl, hb2⟩)
  go_loopw [3, 4] (fun s i wr => ∃ k : Nat, i = .int .i64 k ∧ k ≤ rows.length ∧ s = .string (bs (sizeB rows.length ++ laid (fun r : RowV => rowB r.l) (rows.take k))) ∧ Below w.heap.size w wr) (fun _ i _ => rows.length - (intOf i).toNat)
  case atStart => exact ⟨0, rfl, Nat.zero_le _, by simp [laid], hb2⟩
  case round =>
    obtain ⟨k, rfl, hk, rfl, hb⟩ := hrel
    have HB := Lib.hid hb
    have hll2 := laid_len (fun r : RowV => rowB r.l) 101009 (rows.take k) (fun r hr => by
      have h1 := HF.out r (List.mem_of_mem_take hr)
      exact rowB_len r.l h1.1 h1.2)
    have hlk : (rows.take k).length ≤ 1000 := by rw [List.length_take]; omega
    by_cases hka : k < rows.length
    · obtain ⟨g, off, cap', hv, hck⟩ := (HL.out.below hb).at hka
      cases hv
      have hrow := (HL.out.below hb).2 rows[k] (List.getElem_mem hka)
      have HN := Lib.hid (laid_next (fun r : RowV => rowB r.l) rows k hka)
      have hx := HF.out rows[k] (List.getElem_mem hka)
      have hvl := rowB_len _ hx.1 hx.2
      generalize rows[k] = x at *
      have hcat : bs (sizeB rows.length ++ laid (fun r : RowV => rowB r.l) (rows.take k)) ++ bs (rowB x.l) = bs (sizeB rows.length ++ laid (fun r : RowV => rowB r.l) (rows.take (k + 1))) := by rw [bs_append, HN.out, List.append_assoc]
      have hsum : (bs (sizeB rows.length ++ laid (fun r : RowV => rowB r.l) (rows.take k))).size + (bs (rowB x.l)).size ≤ 9223372036854775807 := by
        have := HSZ.out
        rw [bs_size, bs_size, List.length_append]; omega
      have HV := Lib.hid (refrow wr _ _ x.l hrow hx.1 (by omega))
      clear hb hx hvl hll2 hlk hrow
      generalize bs (sizeB rows.length ++ laid (fun r : RowV => rowB r.l) (rows.take k)) = S at *
      generalize hR : bs (sizeB rows.length ++ laid (fun r : RowV => rowB r.l) (rows.take (k + 1))) = R at *
      have HR := Lib.hid hR
      clear hR
      generalize bs (rowB x.l) = T at *
      go_wp2_with (go_at_call 32; refine HV.out.mono ?_; clear HV; rintro e w3 ⟨rfl, hb3⟩)
      go_roundw
      case rel => exact ⟨k + 1, by go_num, by omega, by rw [HR.out], HB.out.trans (hb3.mono HB.out.size)⟩
      case measure => (simp [intOf]) <;> omega
    · obtain rfl : k = rows.length := by omega
      rw [List.take_length]
      have HE : Hid (rowsB rows = sizeB rows.length ++ laid (fun r : RowV => rowB r.l) rows) := rfl
      generalize sizeB rows.length ++ laid (fun r : RowV => rowB r.l) rows = S at *
      clear hb hll2 hlk
      go_wp2
      go_ret
      exact ⟨by rw [HE.out]; rfl, HB.out⟩
end Go.Proofs.Ytdhdphmehjkbnaa
