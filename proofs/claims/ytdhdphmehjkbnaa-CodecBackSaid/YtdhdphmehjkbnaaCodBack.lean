/- The law CodecBack: what the walk shows. -/
import Derived.Test.YtdhdphmehjkbnaaBack
import Derived.Test.YtdhdphmehjkbnaaCodLays
namespace Go.Proofs.Ytdhdphmehjkbnaa
open Go.RowKit Go.Afx

theorem own_new {w : World} {e : TypeId} {sz : Nat} {v : Value} {n : Nat} {cs : List Value} (h : Own w e sz v n cs) : Sl w (fun _ => True) sz v n cs := h.sl (fun _ _ => trivial)
theorem one_i64w (w : World) (n : Int) (F : Nat → Prop) (hF : ∀ k, F k → k < w.heap.size) : Sl (w.alloc (.cells #[.int .i64 n] 2)) (fun k => ¬ F k) 1 (.slice (some ⟨w.heap.size, 0, none⟩) 1 1) [n].length (ints [n]) := one_i64 w n F hF
theorem one_str (w : World) (s : ByteArray) (F : Nat → Prop) (hF : ∀ k, F k → k < w.heap.size) : Sl (w.alloc (.cells #[.string s] 9)) (fun k => ¬ F k) 1 (.slice (some ⟨w.heap.size, 0, none⟩) 1 1) [s].length (strs [s]) :=
  (Own.made w 9 1 (strs [s]) [] 1 1 rfl (Ones.nil.cons rfl) (Nat.le_refl _) (by simp [maxLen]) (by simp [strs])).sl (fun k hk h => by
    have h1 : w.heap.size = k := by simpa [Value.ownBlock] using hk
    have := hF k h; omega)
theorem rowB_len30 (l : List AV) (h : ∀ a ∈ l, fit64 a.n) (hl : l.length ≤ 30) : (rowB l).length ≤ 30309 := by
  have h1 := laid_len valB 1010 l (fun a ha => valB_len a (h a ha))
  have h2 : (sizeB l.length).length ≤ 9 := be_len8 _ (by omega)
  unfold rowB
  rw [List.length_append]; omega
theorem rNum_le (b : Bool) (l : List UInt8) : (rNum b l).2.2.length ≤ l.length := by
  cases h : (rNum b l).2.1
  · have := (rNum_good b l h).2; omega
  · rw [(rNum_bad b l h).2]; exact Nat.zero_le _
theorem rSign_le (b : Bool) (l : List UInt8) : (rSign b l).2.2.length ≤ l.length := rNum_le b l
theorem rSize_le (m : Int) (b : Bool) (l : List UInt8) : (rSize m b l).2.2.length ≤ l.length := by
  unfold rSize
  simp only
  split
  · exact Nat.zero_le _
  · exact rNum_le b l
theorem rText_le (m : Int) (b : Bool) (l : List UInt8) : (rText m b l).2.2.length ≤ l.length := by
  have := rSize_le m b l
  unfold rText rCut
  split
  · exact Nat.zero_le _
  · simp only [List.length_drop]; omega
def allRight (ls : List (List AV)) : Bool := ls.all rightAll

set_option maxRecDepth 100000 in
set_option maxHeartbeats 4000000 in
theorem back_walk (n : Int) (wn : (Lit.int .i64 n).wf = true) (text : ByteArray) (_ : text.size ≤ maxLen) (v2 : Value) (rows : List RowV) (more : ByteArray) (_ : more.size ≤ maxLen) (at_ : Int) (wa : (Lit.int .i64 at_).wf = true) (w : World)
    (o2 : RowsAt w (fun _ => True) v2 rows ∧ ∀ r ∈ rows, ∀ a ∈ r.l, a.read) :
    Calls Try.prog 8 #[.int .i64 n, .string text, v2, .string more, .int .i64 at_] w fun e w' => e = .returned (.bool true) ∧ Below w.heap.size w w' := by
  obtain ⟨s4, f4⟩ := o2
  have hn := wf_fit64 wn
  have ha := wf_fit64 wa
  obtain ⟨p4, c4, rfl, c41, c42⟩ := s4.1.form
  have HG := Lib.hid (great_rows _ _ _ _ s4)
  have S4 := Lib.hid s4
  have F4 := Lib.hid f4
  clear s4 f4
  cases hgs : greatRowsB (rows.map RowV.l)
  case true =>
    rw [hgs] at HG
    clear hgs
    go_enter Try.func8, Try.ntmps8
    go_wp2_with (first
      | (go_at_call 26; refine HG.out.mono ?_; rintro e w3 ⟨rfl, hb3⟩)
      | (go_at_call 27; refine (codec_awake _).mono ?_; rintro e w4 ⟨rfl, hb4⟩))
    go_ret
    exact ⟨rfl, hb3.trans (hb4.mono hb3.size)⟩
  rw [hgs] at HG
  have hgm := greatRowsB_no hgs
  rw [List.length_map] at hgm
  obtain ⟨hsl, hss⟩ := hgm
  have HSS := Lib.hid hss
  clear hgs hss
  by_cases ht : 1000 < text.size
  · have dt : decide ((1000 : Int) < text.size) = true := decide_eq_true (by omega)
    go_enter Try.func8, Try.ntmps8
    go_wp2_with (first
      | (go_at_call 26; refine HG.out.mono ?_; rintro e w3 ⟨rfl, hb3⟩)
      | (go_at_call 27; refine (codec_awake _).mono ?_; rintro e w4 ⟨rfl, hb4⟩))
    go_ret
    exact ⟨rfl, hb3.trans (hb4.mono hb3.size)⟩
  have dt : decide ((1000 : Int) < text.size) = false := decide_eq_false (by omega)
  by_cases hm : 1000 < more.size
  · have dm : decide ((1000 : Int) < more.size) = true := decide_eq_true (by omega)
    go_enter Try.func8, Try.ntmps8
    go_wp2_with (first
      | (go_at_call 26; refine HG.out.mono ?_; rintro e w3 ⟨rfl, hb3⟩)
      | (go_at_call 27; refine (codec_awake _).mono ?_; rintro e w4 ⟨rfl, hb4⟩))
    go_ret
    exact ⟨rfl, hb3.trans (hb4.mono hb3.size)⟩
  have dm : decide ((1000 : Int) < more.size) = false := decide_eq_false (by omega)
  have htx : text.size ≤ 1000 := by omega
  have hmo : more.size ≤ 1000 := by omega
  go_enter Try.func8, Try.ntmps8
  go_wp2_with (go_at_call 26; refine HG.out.mono ?_; clear HG; rintro e w3 ⟨rfl, hb3⟩; have HB3 := Lib.hid hb3; clear hb3)
  clear dt dm ht hm
  go_loopw [11] (fun i wr => ∃ k : Nat, i = .int .i64 k ∧ k ≤ rows.length ∧ Below w.heap.size w wr ∧ ∀ r ∈ rows.take k, rightAll r.l = true) (fun i _ => rows.length - (intOf i).toNat)
  case atStart => exact ⟨0, rfl, Nat.zero_le _, HB3.out, by simp⟩
  case round =>
    obtain ⟨k, rfl, hk, hb, hrr⟩ := hrel
    have HB := Lib.hid hb
    have HRR := Lib.hid hrr
    by_cases hka : k < rows.length
    · obtain ⟨g, off, cap', hv, hck⟩ := (S4.out.below hb).at hka
      cases hv
      have HA := Lib.hid (all_row _ _ _ _ ((S4.out.below hb).2 rows[k] (List.getElem_mem hka)))
      have HNX : Hid (rightAll rows[k].l = true → ∀ r ∈ rows.take (k + 1), rightAll r.l = true) := fun h r hr => by
        rw [← List.take_append_getElem hka, List.mem_append, List.mem_singleton] at hr
        rcases hr with hr | rfl
        · exact HRR.out r hr
        · exact h
      clear hb hrr
      generalize rows[k] = x at *
      cases hx : rightAll x.l
      · rw [hx] at HA
        clear hx HNX
        go_wp2_with (first
          | (go_at_call 46; refine HA.out.mono ?_; clear HA; rintro e w4 ⟨rfl, hb4⟩; have HB4 := Lib.hid (HB.out.trans (hb4.mono HB.out.size)); clear hb4)
          | (go_at_call 27; refine (codec_awake _).mono ?_; rintro e w5 ⟨rfl, hb5⟩))
        go_ret
        exact ⟨rfl, HB4.out.trans (hb5.mono HB4.out.size)⟩
      · rw [hx] at HA
        have HX := Lib.hid (HNX.out hx)
        clear hx HNX
        go_wp2_with (go_at_call 46; refine HA.out.mono ?_; clear HA; rintro e w4 ⟨rfl, hb4⟩)
        go_roundw
        case rel => exact ⟨k + 1, by go_num, by omega, HB.out.trans (hb4.mono HB.out.size), HX.out⟩
        case measure => (simp [intOf]) <;> omega
    · obtain rfl : k = rows.length := by omega
      rw [List.take_length] at hrr
      have HRA := Lib.hid hrr
      clear hb hrr HRR hk hka
      have fr : ∀ r ∈ rows, (∀ a ∈ r.l, fit64 a.n) ∧ r.l.length ≤ 100 := fun r hr => ⟨fun a ha => (F4.out r hr a ha).2.1, by have := (greatB_no (HSS.out r.l (List.mem_map_of_mem hr))).1; omega⟩
      have HFR := Lib.hid fr
      have hls : (rowsB rows).length ≤ 910000 := by
        have h1 := laid_len (fun r : RowV => rowB r.l) 30309 rows (fun r hr => rowB_len30 r.l (fr r hr).1 (greatB_no (HSS.out r.l (List.mem_map_of_mem hr))).1)
        have h2 : (sizeB rows.length).length ≤ 9 := be_len8 _ (by omega)
        unfold rowsB
        rw [List.length_append]; omega
      have hlt := textB_len text htx
      have hln : (signB n).length ≤ 9 := be_len8 _ (zig_lt n hn)
      have rsg := reads_sign n hn
      have rtx : Reads (rText 1000) (textB text) text.data.toList := reads_text text 1000 htx (by omega)
      have rrw : Reads (rRows 30 30) (rowsB rows) (rows.map RowV.l) := by
        rw [rowsB_2]
        refine reads_rows _ (fun l hl => ?_) 30 30 (by rw [List.length_map]; omega) (by rw [List.length_map]; omega) (fun l hl => ?_)
        · obtain ⟨r, hr, rfl⟩ := List.mem_map.1 hl
          have h1 := HRA.out r hr
          unfold rightAll at h1
          rw [List.all_eq_true] at h1
          exact ⟨fun a ha => ⟨h1 a ha, (fr r hr).1 a ha⟩, (fr r hr).2⟩
        · have := (greatB_no (HSS.out l hl)).1; omega
      have hsk : Sticks (thenR (rText 1000) (rRows 30 30)) := fun l => by unfold thenR; simp only; rw [sticks_text 1000 l]; exact sticks_list _ _ _
      have hall := reads_then rsg (reads_then rtx rrw (sticks_list _ _)) hsk
      obtain ⟨all, hae⟩ : ∃ all, all = signB n ++ textB text ++ rowsB rows := ⟨_, rfl⟩
      have hae2 : signB n ++ (textB text ++ rowsB rows) = all := by rw [hae, List.append_assoc]
      rw [hae2] at hall
      have hal5 : all.length ≤ 4000000 := by rw [hae, List.length_append, List.length_append]; omega
      have hal0 : 0 < all.length := by
        rw [hae]; unfold signB numB; simp
      have hcut : ∀ k, k < all.length → (rRows 30 30 (rText 1000 (rSign false (all.take k)).2.1 (rSign false (all.take k)).2.2).2.1 (rText 1000 (rSign false (all.take k)).2.1 (rSign false (all.take k)).2.2).2.2).2.1 = true := fun k hk =>
        hall.2 (all.take k) (all.drop k) (List.take_append_drop _ _) (fun h => by have := congrArg List.length h; rw [List.length_drop, List.length_nil] at this; omega)
      have E1 : Hid (rSign false (all ++ more.data.toList) = (n, false, textB text ++ (rowsB rows ++ more.data.toList))) := by
        show _ = _
        rw [hae, List.append_assoc, List.append_assoc]
        exact rsg.1 _
      have E2 : Hid (rText 1000 false (textB text ++ (rowsB rows ++ more.data.toList)) = (text.data.toList, false, rowsB rows ++ more.data.toList)) := rtx.1 _
      have E3 : Hid (rRows 30 30 false (rowsB rows ++ more.data.toList) = (rows.map RowV.l, false, more.data.toList)) := rrw.1 _
      have HCUT := Lib.hid hcut
      have HAE := Lib.hid hae
      have HAL5 := Lib.hid hal5
      have HAL0 := Lib.hid hal0
      have hfr1 : (signB n ++ textB text).length ≤ 10000000 := by rw [List.length_append]; omega
      have HFR1 := Lib.hid hfr1
      have HLN := Lib.hid hln
      have HLS := Lib.hid hls
      have hfr2 : (signB n ++ textB text).length ≤ 2000 := by rw [List.length_append]; omega
      have HFR2 := Lib.hid hfr2
      clear hfr2
      clear hall hae hae2 hcut rsg rtx rrw hsk hln hlt hls fr hal5 hal0 hfr1
      have h06 : w.heap.size ≤ wr.heap.size := HB.out.size
      have hbn := Buf.new wr
      have HF6 : Hid (∀ (W : World) (k : Nat), (wr.heap.size ≤ k ∧ k < W.heap.size) → w.heap.size ≤ k) := fun W k hk => Nat.le_trans h06 hk.1
      have HW0 : Hid (Below w.heap.size w (wr.alloc (.cells #[.slice none 0 0] 64))) := HB.out.alloc HB.out.size _
      have HN0 : Hid (wr.heap.size ≤ (wr.alloc (.cells #[.slice none 0 0] 64)).heap.size) := by show _ ≤ _; simp
      generalize hw6 : wr.alloc (.cells #[.slice none 0 0] 64) = w6 at *
      have hal6 : Below w6.heap.size w6 (w6.alloc (.cells #[.int .i64 n] 2)) := (Below.refl _ _).alloc (Nat.le_refl _) _
      have HC1 := Lib.hid (signed_wr _ _ _ _ _ _ (hbn.below hal6) _ [n] (one_i64w w6 n _ (fun k hk => hk.2)) (by intro m hm; rw [List.mem_singleton.1 hm]; exact hn) (by simp) (by simp))
      have HW1 : Hid (Below w.heap.size w (w6.alloc (.cells #[.int .i64 n] 2))) := HW0.out.alloc HW0.out.size _
      have HN1 : Hid (wr.heap.size ≤ (w6.alloc (.cells #[.int .i64 n] 2)).heap.size) := Nat.le_trans HN0.out hal6.size
      clear hbn hal6
      go_wp2_with (first | rw [hw6])
      clear hw6
      refine HC1.out.mono ?_
      clear HC1
      rintro e w7 ⟨rfl, F7, h71, h72, h73⟩
      obtain ⟨hw7, hbw7⟩ := wrote_of (fun k hk => hk.1) HN1.out h71 h72 h73
      have ls1 : laid signB [n] = signB n := by simp [laid]
      rw [List.nil_append, ls1] at hw7
      have hal7 : Below w7.heap.size w7 (w7.alloc (.cells #[.string text] 9)) := (Below.refl _ _).alloc (Nat.le_refl _) _
      have HW7 := Lib.hid (HW1.out.trans (hbw7.mono h06))
      have HN7 : Hid (wr.heap.size ≤ w7.heap.size) := Nat.le_trans HN1.out hbw7.size
      have HC2 := Lib.hid (text_wr _ _ _ _ _ _ (Buf.below hw7 hal7) _ [text] (one_str w7 text _ (fun k hk => hk.2)) (by intro m hm; rw [List.mem_singleton.1 hm]; exact htx) (by have := HLN.out; omega) (by simp))
      have HW2 : Hid (Below w.heap.size w (w7.alloc (.cells #[.string text] 9))) := HW7.out.alloc HW7.out.size _
      have HN2 : Hid (wr.heap.size ≤ (w7.alloc (.cells #[.string text] 9)).heap.size) := Nat.le_trans HN7.out hal7.size
      clear h71 h72 h73 hw7 hbw7 hal7 HN1 HW1 HW0 HN0 ls1
      go_wp2_with fail
      refine HC2.out.mono ?_
      clear HC2
      rintro e w8 ⟨rfl, F8, h81, h82, h83⟩
      obtain ⟨hw8, hbw8⟩ := wrote_of (fun k hk => hk.1) HN2.out h81 h82 h83
      have ls2 : laid textB [text] = textB text := by simp [laid]
      rw [ls2] at hw8
      have HW8 := Lib.hid (HW2.out.trans (hbw8.mono h06))
      have HN8 : Hid (wr.heap.size ≤ w8.heap.size) := Nat.le_trans HN2.out hbw8.size
      have HC3 := Lib.hid (rows_wr _ _ _ _ _ _ hw8 _ rows ⟨Sl.old S4.out.1 HW8.out _ (HF6.out _), fun r hr => ⟨Sl.old (S4.out.2 r hr) HW8.out _ (HF6.out _), (HFR.out r hr).1, Nat.le_trans (HFR.out r hr).2 (by decide)⟩⟩ HFR1.out (by omega) (fun r hr => (HFR.out r hr).2))
      clear h81 h82 h83 hw8 hbw8 HN2 HW2 HW7 HN7 ls2
      go_wp2_with fail
      refine HC3.out.mono ?_
      clear HC3
      rintro e w9 ⟨rfl, F9, h91, h92, h93⟩
      obtain ⟨hw9, hbw9⟩ := wrote_of (fun k hk => hk.1) HN8.out h91 h92 h93
      rw [← HAE.out] at hw9
      have HW9 := Lib.hid (HW8.out.trans (hbw9.mono h06))
      have hst := string_wr w9 _ _ _ _ _ hw9
      have hsz := bs_size all
      have HST : Hid (Calls Try.prog 40 #[.pointer (some ⟨wr.heap.size, 0, none⟩)] w9 fun e w' => e = .returned (.string (bs all)) ∧ w9 = w') := hst
      have hcat : bs all ++ more = bs (all ++ more.data.toList) := by
        have := bs_append all more.data.toList
        rw [bs_of] at this
        exact this
      have HRD := Lib.hid (read_any w9 (bs (all ++ more.data.toList)) (by rw [bs_size, List.length_append, ← size_list more _ rfl]; have := HAL5.out; omega))
      rw [bs_data] at HRD
      have hsum : (bs all).size + more.size ≤ 9223372036854775807 := by rw [hsz]; have := HAL5.out; omega
      have hlen0 : (bs all).size ≠ 0 := by rw [hsz]; have := HAL0.out; omega
      have hlt4 : (bs all).size ≤ 4000000 := by rw [hsz]; exact HAL5.out
      have HSZ := Lib.hid hsz
      have HX0 := Lib.hid (fun k => bs_ext0 all k)
      clear h91 h92 h93 hw9 hbw9 HN8 HW8 hst hsz
      generalize bs (all ++ more.data.toList) = SM at *
      generalize bs all = S at *
      have hz1 : ((S.size : Int) == 0) = false := beq_eq_false_iff_ne.2 (by omega)
      obtain ⟨ua, hua⟩ : ∃ ua : Nat, IntKind.u64.wrap at_ = (ua : Int) := ⟨(IntKind.u64.wrap at_).toNat, by rw [IntKind.wrap_u64]; omega⟩
      have hua2 : (ua : Int) < 18446744073709551616 := by rw [← hua, IntKind.wrap_u64]; omega
      have hmod : (ua : Int) % (S.size : Int) = ((ua % S.size : Nat) : Int) := by omega
      have hmlt : ua % S.size < S.size := Nat.mod_lt _ (by omega)
      generalize ua % S.size = kq at *
      have hx0 := HX0.out kq
      have hkl : kq < all.length := by rw [← HSZ.out]; exact hmlt
      have HBAD := Lib.hid (HCUT.out kq hkl)
      have hml : kq ≤ S.size := by omega
      have hmli : (kq : Int) ≤ S.size := by omega
      go_wp2_with (first
        | (go_at_call 40; refine HST.out.mono ?_; clear HST; rintro e w10 ⟨rfl, rfl⟩)
        | (go_at_call 44; refine HRD.out.mono ?_; clear HRD; rintro e w10 ⟨rfl, hr10, hb10⟩; have HR10 := Lib.hid hr10; have HB10 := Lib.hid (HW9.out.trans (hb10.mono HW9.out.size)); have HS10 := Lib.hid hb10.size; clear hr10 hb10))
      have hmine : ∀ k, Mine (some ⟨w9.heap.size + 1, 0, none⟩) k → w.heap.size ≤ k := fun k hk => by rw [mine_eq hk]; have := HW9.out.size; omega
      have HMINE := Lib.hid hmine
      have hc1 := sign_r _ _ _ _ HR10.out
      rw [E1.out] at hc1
      have HC1 := Lib.hid hc1
      clear hmine hc1
      have dmore : (!more.toList == more.toList) = false := by simp
      have dtext : (!text.toList == text.toList) = false := by simp
      go_wp2_with fail
      refine HC1.out.mono ?_
      clear HC1
      rintro e w11 ⟨rfl, hr11, ho11⟩
      have hb11 := HB10.out.trans (ho11.below HB10.out.size HMINE.out)
      have hs11 := Nat.le_trans HS10.out ho11.size
      have hc2 := text_r _ _ _ _ hr11 1000 ⟨by decide, by decide⟩
      rw [E2.out] at hc2
      have HC2 : Hid (Calls Try.prog 48 #[.pointer (some ⟨w9.heap.size + 1, 0, none⟩), .int .i64 1000] w11 fun e w' => e = .returned (.string text) ∧ Rdr w' (some ⟨w9.heap.size + 1, 0, none⟩) (fun k => k = w9.heap.size) false (rowsB rows ++ more.data.toList) ∧ Only (Mine (some ⟨w9.heap.size + 1, 0, none⟩)) w11 w') := hc2
      have HB11 := Lib.hid hb11
      have HS11 := Lib.hid hs11
      clear hr11 ho11 hb11 hs11 hc2
      go_wp2_with fail
      refine HC2.out.mono ?_
      clear HC2
      rintro e w12 ⟨rfl, hr12, ho12⟩
      have hb12 := HB11.out.trans (ho12.below HB11.out.size HMINE.out)
      have hs12 := Nat.le_trans HS11.out ho12.size
      have hq12 := hr12.lt _ rfl
      have hc3 := rows_r w12 _ _ _ hr12 (fun k hk => by omega) 30 30 ⟨by decide, by decide⟩ ⟨by decide, by decide⟩ (by rw [List.length_append, ← size_list more _ rfl]; have := HLS.out; omega)
      rw [E3.out] at hc3
      have HC3 := Lib.hid hc3
      have HB12 := Lib.hid hb12
      have HS12 := Lib.hid hs12
      clear hr12 ho12 hb12 hs12 hc3 hq12
      go_wp2_with fail
      refine HC3.out.mono ?_
      clear HC3
      rintro e w13 hro
      unfold RowsOut at hro
      obtain ⟨vr, rows', rfl, hrm, hown, hnew, hrs, hr13, ho13⟩ := hro
      have hb13 := HB12.out.trans (ho13.below HB12.out.size HMINE.out)
      have hs13 := Nat.le_trans HS12.out ho13.size
      have hc4 := same_rows w13 (fun _ => True) (fun _ => True) vr (.slice p4 rows.length c4) rows' rows ⟨hown.sl (fun _ _ => trivial), fun r hr => (hrs r hr).mono (Nat.le_refl _) (fun _ _ _ => rfl) (fun _ _ _ => trivial)⟩ (S4.out.below hb13) hrm
      have HC4 := Lib.hid hc4
      have HR13 := Lib.hid hr13
      have HB13 := Lib.hid hb13
      have HS13 := Lib.hid hs13
      clear hrm hown hnew hrs hr13 ho13 hb13 hs13 hc4
      go_wp2_with fail
      refine HC4.out.mono ?_
      clear HC4
      rintro e w14 ⟨rfl, hb14⟩
      have hr14 := HR13.out.below hb14
      have HSTR : Hid (Calls Try.prog 51 #[.pointer (some ⟨w9.heap.size + 1, 0, none⟩)] w14 fun e w' => e = .returned (.string more) ∧ w14 = w') := rdstr_r w14 _ _ _ hr14
      have HGD := Lib.hid (good_r w14 _ _ _ hr14)
      have HB14 := Lib.hid (HB13.out.trans (hb14.mono HB13.out.size))
      have HRD2 := Lib.hid (read_any w14 (bs (all.take kq)) (by rw [bs_size, List.length_take]; have := HAL5.out; omega))
      rw [bs_data] at HRD2
      clear hr14 hb14 HR13
      generalize bs (all.take kq) = SQ at *
      go_wp2_with (first
        | (go_at_call 51; refine HSTR.out.mono ?_; clear HSTR; rintro e w15 ⟨rfl, rfl⟩)
        | (go_at_call 52; refine HGD.out.mono ?_; clear HGD; rintro e w15 ⟨rfl, rfl⟩)
        | (go_at_call 44; refine HRD2.out.mono ?_; clear HRD2; rintro e w15 ⟨rfl, hr15, hb15⟩; have HR15 := Lib.hid hr15; have HB15 := Lib.hid (HB14.out.trans (hb15.mono HB14.out.size)); have HS15 := Lib.hid hb15.size; clear hr15 hb15))
      have hmine2 : ∀ k, Mine (some ⟨w14.heap.size + 1, 0, none⟩) k → w.heap.size ≤ k := fun k hk => by rw [mine_eq hk]; have := HB14.out.size; omega
      have HMINE2 := Lib.hid hmine2
      have HC5 := Lib.hid (sign_r _ _ _ _ HR15.out)
      clear hmine2
      have htl : (all.take kq).length ≤ 1000000 := by rw [List.length_take]; have h1 := congrArg List.length HAE.out; rw [List.length_append] at h1; have h2 := HFR2.out; have h3 := HLS.out; omega
      generalize all.take kq = L0 at *
      have hg1 := rSign_le false L0
      generalize rSign false L0 = r1 at *
      obtain ⟨y1, b1, l1⟩ := r1
      simp only at HC5 HBAD hg1
      go_wp2_with fail
      refine HC5.out.mono ?_
      clear HC5
      rintro e w16 ⟨rfl, hr16, ho16⟩
      have HB16 := Lib.hid (HB15.out.trans (ho16.below HB15.out.size HMINE2.out))
      have HS16 := Lib.hid (Nat.le_trans HS15.out ho16.size)
      have HC6 := Lib.hid (text_r _ _ _ _ hr16 1000 ⟨by decide, by decide⟩)
      have hg2 := rText_le 1000 b1 l1
      clear hr16 ho16
      generalize rText 1000 b1 l1 = r2 at *
      obtain ⟨y2, b2, l2⟩ := r2
      simp only at HC6 HBAD hg2
      go_wp2_with fail
      refine HC6.out.mono ?_
      clear HC6
      rintro e w17 ⟨rfl, hr17, ho17⟩
      have HB17 := Lib.hid (HB16.out.trans (ho17.below HB16.out.size HMINE2.out))
      have HS17 := Lib.hid (Nat.le_trans HS16.out ho17.size)
      have hq17 := hr17.lt _ rfl
      have HC7 := Lib.hid (rows_r w17 _ _ _ hr17 (fun k hk => by omega) 30 30 ⟨by decide, by decide⟩ ⟨by decide, by decide⟩ (by omega))
      clear hr17 ho17 hq17
      generalize rRows 30 30 b2 l2 = r3 at *
      obtain ⟨y3, b3, l3⟩ := r3
      simp only at HC7 HBAD
      have hb3 := HBAD.out
      subst hb3
      go_wp2_with fail
      refine HC7.out.mono ?_
      clear HC7
      rintro e w18 hro
      unfold RowsOut at hro
      obtain ⟨vr2, rows2, rfl, _, _, _, _, hr18, ho18⟩ := hro
      have HB18 := Lib.hid (HB17.out.trans (ho18.below HB17.out.size HMINE2.out))
      have HGD2 := Lib.hid (good_r w18 _ _ _ hr18)
      clear hr18 ho18
      go_wp2_with (first
        | (go_at_call 52; refine HGD2.out.mono ?_; clear HGD2; rintro e w19 ⟨rfl, rfl⟩)
        | (go_at_call 27; refine (codec_awake _).mono ?_; rintro e w20 ⟨rfl, hb20⟩))
      go_ret
      exact ⟨rfl, HB18.out.trans (hb20.mono HB18.out.size)⟩
end Go.Proofs.Ytdhdphmehjkbnaa
