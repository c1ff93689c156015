/- The law CodecLays: what the walk shows. -/
import Derived.Test.YtdhdphmehjkbnaaOpenV
namespace Go.Proofs.Ytdhdphmehjkbnaa
open Go.RowKit Go.Afx

theorem greatB_no {l : List AV} (h : greatB l = false) : l.length ≤ 30 ∧ ∀ a ∈ l, a.s.size ≤ 300 := by
  unfold greatB at h
  rw [Bool.or_eq_false_iff, decide_eq_false_iff_not, List.any_eq_false] at h
  exact ⟨by omega, fun a ha => by have := h.2 a ha; simpa using this⟩
theorem greatRowsB_no {l : List (List AV)} (h : greatRowsB l = false) : l.length ≤ 30 ∧ ∀ r ∈ l, greatB r = false := by
  unfold greatRowsB at h
  rw [Bool.or_eq_false_iff, decide_eq_false_iff_not, List.any_eq_false] at h
  exact ⟨by omega, fun a ha => by simpa using h.2 a ha⟩
/-- Slices of a world's beginning lie outside of what is new. -/
theorem Sl.old {w wr : World} {sz : Nat} {v : Value} {n : Nat} {cs : List Value} (h : Sl w (fun _ => True) sz v n cs) (hb : Below w.heap.size w wr) (F : Nat → Prop) (hF : ∀ k, F k → w.heap.size ≤ k) : Sl wr (fun k => ¬ F k) sz v n cs :=
  h.mono hb.size (fun k _ hl => hb.block k hl) (fun k _ hl hf => by have := hF k hf; omega)

theorem textB_len (s : ByteArray) (h : s.size ≤ 1000) : (textB s).length ≤ 1009 := by
  have h2 := be_len8 s.size (by omega)
  have h3 := size_list s _ rfl
  unfold textB
  rw [List.length_append]; omega

set_option maxRecDepth 100000 in
set_option maxHeartbeats 4000000 in
theorem lays_walk (v0 : Value) (sizes : List Int) (v1 : Value) (nums : List Int) (v2 : Value) (texts : List ByteArray) (v3 : Value) (row : List AV) (v4 : Value) (rows : List RowV) (w : World)
    (o0 : Sl w (fun _ => True) 1 v0 sizes.length (ints sizes) ∧ ∀ n ∈ sizes, fit64 n) (o1 : Sl w (fun _ => True) 1 v1 nums.length (ints nums) ∧ ∀ n ∈ nums, fit64 n)
    (o2 : Sl w (fun _ => True) 1 v2 texts.length (strs texts) ∧ ∀ s ∈ texts, s.size ≤ maxLen) (o3 : Sl w (fun _ => True) 3 v3 row.length (rowCells row) ∧ ∀ a ∈ row, a.read) (o4 : RowsAt w (fun _ => True) v4 rows ∧ ∀ r ∈ rows, ∀ a ∈ r.l, a.read) :
    Calls Try.prog 5 #[v0, v1, v2, v3, v4] w fun e w' => e = .returned (.bool true) ∧ Below w.heap.size w w' := by
  obtain ⟨s0, f0⟩ := o0
  obtain ⟨s1, f1⟩ := o1
  obtain ⟨s2, f2⟩ := o2
  obtain ⟨s3, f3⟩ := o3
  obtain ⟨s4, f4⟩ := o4
  obtain ⟨p0, c0, rfl, c01, c02⟩ := s0.form
  obtain ⟨p1, c1, rfl, c11, c12⟩ := s1.form
  obtain ⟨p2, c2, rfl, c21, c22⟩ := s2.form
  obtain ⟨p3, c3, rfl, c31, c32⟩ := s3.form
  obtain ⟨p4, c4, rfl, c41, c42⟩ := s4.1.form
  have HG := Lib.hid (great_row _ _ _ _ s3)
  have HGR := Lib.hid (fun w' (h : Below w.heap.size w w') => great_rows _ _ _ _ (s4.below h))
  have S0 := Lib.hid s0
  have S1 := Lib.hid s1
  have S2 := Lib.hid s2
  have S3 := Lib.hid s3
  have S4 := Lib.hid s4
  have F0 := Lib.hid f0
  have F1 := Lib.hid f1
  have F2 := Lib.hid f2
  have F3 := Lib.hid f3
  have F4 := Lib.hid f4
  clear s0 s1 s2 s3 s4 f0 f1 f2 f3 f4
  by_cases h0 : 30 < sizes.length
  · have d0 : decide ((30 : Int) < sizes.length) = true := decide_eq_true (by omega)
    go_enter Try.func5, Try.ntmps5
    go_wp2_with (first
      | (go_at_call 25; refine HG.out.mono ?_; rintro e w2 ⟨rfl, hb2⟩; have HR := Lib.hid (HGR.out _ hb2); have HB2 := Lib.hid hb2; clear hb2)
      | (go_at_call 26; refine HR.out.mono ?_; rintro e w3 ⟨rfl, hb3⟩; have HB3 := Lib.hid (HB2.out.trans (hb3.mono HB2.out.size)); clear hb3)
      | (go_at_call 27; refine (codec_awake _).mono ?_; rintro e w4 ⟨rfl, hb4⟩; have HB4 := Lib.hid hb4; clear hb4))
    go_ret
    exact ⟨rfl, HB4.out⟩
  have d0 : decide ((30 : Int) < sizes.length) = false := decide_eq_false (by omega)
  by_cases h1 : 30 < nums.length
  · have d1 : decide ((30 : Int) < nums.length) = true := decide_eq_true (by omega)
    go_enter Try.func5, Try.ntmps5
    go_wp2_with (first
      | (go_at_call 25; refine HG.out.mono ?_; rintro e w2 ⟨rfl, hb2⟩; have HR := Lib.hid (HGR.out _ hb2); have HB2 := Lib.hid hb2; clear hb2)
      | (go_at_call 26; refine HR.out.mono ?_; rintro e w3 ⟨rfl, hb3⟩; have HB3 := Lib.hid (HB2.out.trans (hb3.mono HB2.out.size)); clear hb3)
      | (go_at_call 27; refine (codec_awake _).mono ?_; rintro e w4 ⟨rfl, hb4⟩; have HB4 := Lib.hid hb4; clear hb4))
    go_ret
    exact ⟨rfl, HB4.out⟩
  have d1 : decide ((30 : Int) < nums.length) = false := decide_eq_false (by omega)
  by_cases h2 : 30 < texts.length
  · have d2 : decide ((30 : Int) < texts.length) = true := decide_eq_true (by omega)
    go_enter Try.func5, Try.ntmps5
    go_wp2_with (first
      | (go_at_call 25; refine HG.out.mono ?_; rintro e w2 ⟨rfl, hb2⟩; have HR := Lib.hid (HGR.out _ hb2); have HB2 := Lib.hid hb2; clear hb2)
      | (go_at_call 26; refine HR.out.mono ?_; rintro e w3 ⟨rfl, hb3⟩; have HB3 := Lib.hid (HB2.out.trans (hb3.mono HB2.out.size)); clear hb3)
      | (go_at_call 27; refine (codec_awake _).mono ?_; rintro e w4 ⟨rfl, hb4⟩; have HB4 := Lib.hid hb4; clear hb4))
    go_ret
    exact ⟨rfl, HB4.out⟩
  have d2 : decide ((30 : Int) < texts.length) = false := decide_eq_false (by omega)
  cases hgr : greatB row
  case true =>
    rw [hgr] at HG
    clear hgr
    go_enter Try.func5, Try.ntmps5
    go_wp2_with (first
      | (go_at_call 25; refine HG.out.mono ?_; rintro e w2 ⟨rfl, hb2⟩; have HR := Lib.hid (HGR.out _ hb2); have HB2 := Lib.hid hb2; clear hb2)
      | (go_at_call 26; refine HR.out.mono ?_; rintro e w3 ⟨rfl, hb3⟩; have HB3 := Lib.hid (HB2.out.trans (hb3.mono HB2.out.size)); clear hb3)
      | (go_at_call 27; refine (codec_awake _).mono ?_; rintro e w4 ⟨rfl, hb4⟩; have HB4 := Lib.hid hb4; clear hb4))
    go_ret
    exact ⟨rfl, HB2.out.trans (HB4.out.mono HB2.out.size)⟩
  rw [hgr] at HG
  have hgn := greatB_no hgr
  cases hgs : greatRowsB (rows.map RowV.l)
  case true =>
    rw [hgs] at HGR
    clear hgr hgs hgn
    go_enter Try.func5, Try.ntmps5
    go_wp2_with (first
      | (go_at_call 25; refine HG.out.mono ?_; rintro e w2 ⟨rfl, hb2⟩; have HR := Lib.hid (HGR.out _ hb2); have HB2 := Lib.hid hb2; clear hb2)
      | (go_at_call 26; refine HR.out.mono ?_; rintro e w3 ⟨rfl, hb3⟩; have HB3 := Lib.hid (HB2.out.trans (hb3.mono HB2.out.size)); clear hb3)
      | (go_at_call 27; refine (codec_awake _).mono ?_; rintro e w4 ⟨rfl, hb4⟩; have HB4 := Lib.hid hb4; clear hb4))
    go_ret
    exact ⟨rfl, HB3.out.trans (HB4.out.mono HB3.out.size)⟩
  rw [hgs] at HGR
  have hgm := greatRowsB_no hgs
  rw [List.length_map] at hgm
  obtain ⟨hrl, hrs⟩ := hgn
  obtain ⟨hsl, hss⟩ := hgm
  have HRS := Lib.hid hrs
  have HSS := Lib.hid hss
  clear hgr hgs hrs hss
  go_enter Try.func5, Try.ntmps5
  go_wp2_with (first
    | (go_at_call 25; refine HG.out.mono ?_; clear HG; rintro e w2 ⟨rfl, hb2⟩; have HR := Lib.hid (HGR.out _ hb2); have HB2 := Lib.hid hb2; clear hb2 HGR)
    | (go_at_call 26; refine HR.out.mono ?_; clear HR; rintro e w3 ⟨rfl, hb3⟩; have HB3 := Lib.hid (HB2.out.trans (hb3.mono HB2.out.size)); clear hb3 HB2))
  have hl0 : sizes.length ≤ 30 := by omega
  have hl1 : nums.length ≤ 30 := by omega
  have hl2 : texts.length ≤ 30 := by omega
  have L00 := Lib.hid (laid_len sizeB 9 sizes (fun n hn => be_len8 _ (by have := F0.out n hn; unfold fit64 at this; omega)))
  have L11 := Lib.hid (laid_len signB 9 nums (fun n hn => be_len8 _ (by have := F1.out n hn; unfold fit64 at this; unfold zig; split <;> omega)))
  clear d0 d1 d2 h0 h1 h2
  go_loopw [11, 12] (fun s i wr => ∃ k : Nat, i = .int .i64 k ∧ k ≤ sizes.length ∧ s = .string (bs (laid sizeB (sizes.take k))) ∧ Below w.heap.size w wr) (fun _ i _ => sizes.length - (intOf i).toNat)
  case atStart => exact ⟨0, rfl, Nat.zero_le _, by simp [laid, bs], HB3.out⟩
  case round =>
    obtain ⟨k, rfl, hk, rfl, hb⟩ := hrel
    have HB := Lib.hid hb
    by_cases hka : k < sizes.length
    · obtain ⟨g, off, cap', hv, _, _, _, _, hc⟩ := (S0.out.below hb).place (by omega)
      cases hv
      have hc0 : wr.cell? ⟨g, off + k, none⟩ = some (.int .i64 sizes[k]) := by rw [hc k (by simpa [ints] using hka)]; simp [ints, hka]
      clear hc
      have HN := Lib.hid (laid_next sizeB sizes k hka)
      have hx := F0.out sizes[k] (List.getElem_mem hka)
      have hl := laid_len sizeB 9 (sizes.take k) (fun n hn => be_len8 _ (by have := F0.out n (List.mem_of_mem_take hn); unfold fit64 at this; omega))
      have hnl : (sizeB sizes[k]).length ≤ 9 := be_len8 _ (by unfold fit64 at hx; omega)
      have hlk : (sizes.take k).length ≤ 30 := by rw [List.length_take]; omega
      generalize sizes[k] = x at *
      have hcat : bs (laid sizeB (sizes.take k)) ++ bs (sizeB x) = bs (laid sizeB (sizes.take (k + 1))) := by rw [bs_append, HN.out]
      have hsum : (bs (laid sizeB (sizes.take k))).size + (bs (sizeB x)).size ≤ 9223372036854775807 := by rw [bs_size, bs_size]; omega
      have HV := Lib.hid (refsize wr x hx)
      clear hb hx hl hlk hnl HN
      generalize bs (laid sizeB (sizes.take k)) = S at *
      generalize hR : bs (laid sizeB (sizes.take (k + 1))) = R at *
      have HR := Lib.hid hR
      clear hR
      generalize bs (sizeB x) = T at *
      go_wp2_with (go_at_call 28; refine HV.out.mono ?_; clear HV; rintro e w4 ⟨rfl, hb4⟩)
      go_roundw
      case rel => exact ⟨k + 1, by go_num, by omega, by rw [HR.out], HB.out.trans (hb4.mono HB.out.size)⟩
      case measure => (simp [intOf]) <;> omega
    · obtain rfl : k = sizes.length := by omega
      rw [List.take_length]
      have hlz : (laid sizeB sizes).length ≤ 270 := by have := L00.out; omega
      have L0 := Lib.hid hlz
      clear hb hlz hk hka
      generalize hz0 : laid sizeB sizes = lz0 at *
      have HZ0 := Lib.hid hz0
      clear hz0
      go_wp2
      go_loopw [11, 13] (fun s i wr => ∃ k : Nat, i = .int .i64 k ∧ k ≤ nums.length ∧ s = .string (bs (lz0 ++ laid signB (nums.take k))) ∧ Below w.heap.size w wr) (fun _ i _ => nums.length - (intOf i).toNat)
      case atStart => exact ⟨0, rfl, Nat.zero_le _, by simp [laid, bs], HB.out⟩
      case round =>
        obtain ⟨k, rfl, hk, rfl, hb⟩ := hrel
        have HB := Lib.hid hb
        by_cases hka : k < nums.length
        · obtain ⟨g, off, cap', hv, _, _, _, _, hc⟩ := (S1.out.below hb).place (by omega)
          cases hv
          have hc0 : wr.cell? ⟨g, off + k, none⟩ = some (.int .i64 nums[k]) := by rw [hc k (by simpa [ints] using hka)]; simp [ints, hka]
          clear hc
          have HN := Lib.hid (laid_next signB nums k hka)
          have hx := F1.out nums[k] (List.getElem_mem hka)
          have hl := laid_len signB 9 (nums.take k) (fun n hn => be_len8 _ (by have := F1.out n (List.mem_of_mem_take hn); unfold fit64 at this; unfold zig; split <;> omega))
          have hnl : (signB nums[k]).length ≤ 9 := be_len8 _ (by unfold fit64 at hx; unfold zig; split <;> omega)
          have hlk : (nums.take k).length ≤ 30 := by rw [List.length_take]; omega
          generalize nums[k] = x at *
          have hcat : bs (lz0 ++ laid signB (nums.take k)) ++ bs (signB x) = bs (lz0 ++ laid signB (nums.take (k + 1))) := by rw [bs_append, HN.out, List.append_assoc]
          have hsum : (bs (lz0 ++ laid signB (nums.take k))).size + (bs (signB x)).size ≤ 9223372036854775807 := by have := L0.out; rw [bs_size, bs_size, List.length_append]; omega
          have HV := Lib.hid (refsign wr x hx)
          clear hb hx hl hlk hnl HN
          generalize bs (lz0 ++ laid signB (nums.take k)) = S at *
          generalize hR : bs (lz0 ++ laid signB (nums.take (k + 1))) = R at *
          have HR := Lib.hid hR
          clear hR
          generalize bs (signB x) = T at *
          go_wp2_with (go_at_call 29; refine HV.out.mono ?_; clear HV; rintro e w4 ⟨rfl, hb4⟩)
          go_roundw
          case rel => exact ⟨k + 1, by go_num, by omega, by rw [HR.out], HB.out.trans (hb4.mono HB.out.size)⟩
          case measure => (simp [intOf]) <;> omega
        · obtain rfl : k = nums.length := by omega
          rw [List.take_length]
          have hlz : (lz0 ++ laid signB nums).length ≤ 540 := by have h1 := L0.out; have h2 := L11.out; rw [List.length_append]; omega
          have L1 := Lib.hid hlz
          clear hb hlz hk hka
          generalize hz1 : lz0 ++ laid signB nums = lz1 at *
          have HZ1 := Lib.hid hz1
          clear hz1
          go_wp2
          go_loopw [11, 14] (fun s i wr => ∃ k : Nat, i = .int .i64 k ∧ k ≤ texts.length ∧ s = .string (bs (lz1 ++ laid textB (texts.take k))) ∧ Below w.heap.size w wr ∧ (∀ s ∈ texts.take k, s.size ≤ 1000)) (fun _ i _ => texts.length - (intOf i).toNat)
          case atStart => exact ⟨0, rfl, Nat.zero_le _, by simp [laid, bs], HB.out, by simp⟩
          case round =>
            obtain ⟨k, rfl, hk, rfl, hb, ht⟩ := hrel
            have HB := Lib.hid hb
            have HT := Lib.hid ht
            by_cases hka : k < texts.length
            · obtain ⟨g, off, cap', hv, _, _, _, _, hc⟩ := (S2.out.below hb).place (by omega)
              cases hv
              have hc0 : wr.cell? ⟨g, off + k, none⟩ = some (.string texts[k]) := by rw [hc k (by simpa [strs] using hka)]; simp [strs, hka]
              clear hc
              have HN := Lib.hid (laid_next textB texts k hka)
              have hl := laid_len textB 1009 (texts.take k) (fun s hs => textB_len s (ht s hs))
              have HTN : Hid (texts[k].size ≤ 1000 → ∀ s ∈ texts.take (k + 1), s.size ≤ 1000) := fun h s hs => by
                rw [← List.take_append_getElem hka, List.mem_append, List.mem_singleton] at hs
                rcases hs with hs | rfl
                · exact HT.out s hs
                · exact h
              have hlk : (texts.take k).length ≤ 30 := by rw [List.length_take]; omega
              generalize texts[k] = x at *
              by_cases h1000 : 1000 < x.size
              · have dx : decide ((1000 : Int) < x.size) = true := decide_eq_true (by omega)
                clear hl hb ht HTN
                go_wp2_with (go_at_call 27; refine (codec_awake _).mono ?_; rintro e w4 ⟨rfl, hb4⟩)
                go_ret
                exact ⟨rfl, HB.out.trans (hb4.mono HB.out.size)⟩
              have dx : decide ((1000 : Int) < x.size) = false := decide_eq_false (by omega)
              have hx : x.size ≤ 1000 := by omega
              have hnl := textB_len x hx
              have HTX := Lib.hid (HTN.out hx)
              clear ht HTN h1000
              have hcat : bs (lz1 ++ laid textB (texts.take k)) ++ bs (textB x) = bs (lz1 ++ laid textB (texts.take (k + 1))) := by rw [bs_append, HN.out, List.append_assoc]
              have hsum : (bs (lz1 ++ laid textB (texts.take k))).size + (bs (textB x)).size ≤ 9223372036854775807 := by have := L1.out; rw [bs_size, bs_size, List.length_append]; omega
              have HV := Lib.hid (reftext wr x (by omega))
              clear hb hx hl hlk hnl HN
              generalize bs (lz1 ++ laid textB (texts.take k)) = S at *
              generalize hR : bs (lz1 ++ laid textB (texts.take (k + 1))) = R at *
              have HR := Lib.hid hR
              clear hR
              generalize bs (textB x) = T at *
              go_wp2_with (go_at_call 30; refine HV.out.mono ?_; clear HV; rintro e w4 ⟨rfl, hb4⟩)
              go_roundw
              case rel => exact ⟨k + 1, by go_num, by omega, by rw [HR.out], HB.out.trans (hb4.mono HB.out.size), HTX.out⟩
              case measure => (simp [intOf]) <;> omega
            · obtain rfl : k = texts.length := by omega
              rw [List.take_length]
              rw [List.take_length] at ht
              have HTA := Lib.hid ht
              clear ht HT
              have hlz : (lz1 ++ laid textB texts).length ≤ 31000 := by have h1 := L1.out; have h2 := laid_len textB 1009 texts (fun s hs => textB_len s (HTA.out s hs)); rw [List.length_append]; omega
              have L2 := Lib.hid hlz
              clear hb hlz hk hka
              generalize hz2 : lz1 ++ laid textB texts = lz2 at *
              have HZ2 := Lib.hid hz2
              clear hz2
              go_wp2
              go_loopw [11, 15] (fun s i wr => ∃ k : Nat, i = .int .i64 k ∧ k ≤ row.length ∧ s = .string (bs (lz2 ++ laid valB (row.take k))) ∧ Below w.heap.size w wr) (fun _ i _ => row.length - (intOf i).toNat)
              case atStart => exact ⟨0, rfl, Nat.zero_le _, by simp [laid, bs], HB.out⟩
              case round =>
                obtain ⟨k, rfl, hk, rfl, hb⟩ := hrel
                have HB := Lib.hid hb
                by_cases hka : k < row.length
                · obtain ⟨g, off, cap', hv, hg, e0, e1, e2⟩ := sl_av (S3.out.below hb) hka
                  cases hv
                  have HN := Lib.hid (laid_next valB row k hka)
                  have hx := (F3.out row[k] (List.getElem_mem hka)).2.1
                  have hl := laid_len valB 1010 (row.take k) (fun a ha => valB_len a (F3.out a (List.mem_of_mem_take ha)).2.1)
                  have hnl := valB_len _ hx
                  have hlk : (row.take k).length ≤ 30 := by rw [List.length_take]; omega
                  generalize row[k] = x at *
                  have hcat : bs (lz2 ++ laid valB (row.take k)) ++ bs (valB x) = bs (lz2 ++ laid valB (row.take (k + 1))) := by rw [bs_append, HN.out, List.append_assoc]
                  have hsum : (bs (lz2 ++ laid valB (row.take k))).size + (bs (valB x)).size ≤ 9223372036854775807 := by have := L2.out; rw [bs_size, bs_size, List.length_append]; omega
                  have HV := Lib.hid (refval wr x hx)
                  have hag : x.agg = .agg #[.int .i64 x.kind, .int .i64 x.n, .string x.s] := rfl
                  rw [hag] at HV
                  clear hag
                  clear hb hx hl hlk hnl HN
                  generalize bs (lz2 ++ laid valB (row.take k)) = S at *
                  generalize hR : bs (lz2 ++ laid valB (row.take (k + 1))) = R at *
                  have HR := Lib.hid hR
                  clear hR
                  generalize bs (valB x) = T at *
                  go_wp2_with (go_at_call 31; refine HV.out.mono ?_; clear HV; rintro e w4 ⟨rfl, hb4⟩)
                  go_roundw
                  case rel => exact ⟨k + 1, by go_num, by omega, by rw [HR.out], HB.out.trans (hb4.mono HB.out.size)⟩
                  case measure => (simp [intOf]) <;> omega
                · obtain rfl : k = row.length := by omega
                  rw [List.take_length]
                  have hlz : (lz2 ++ laid valB row).length ≤ 62000 := by have h1 := L2.out; have h2 := laid_len valB 1010 row (fun a ha => valB_len a (F3.out a ha).2.1); rw [List.length_append]; omega
                  have L3 := Lib.hid hlz
                  clear hb hlz hk hka
                  generalize hz3 : lz2 ++ laid valB row = lz3 at *
                  have HZ3 := Lib.hid hz3
                  clear hz3
                  have fa : ∀ a ∈ row, fit64 a.n := fun a ha => (F3.out a ha).2.1
                  have fr : ∀ r ∈ rows, (∀ a ∈ r.l, fit64 a.n) ∧ r.l.length ≤ 100 := fun r hr => ⟨fun a ha => (F4.out r hr a ha).2.1, by have := (greatB_no (HSS.out r.l (List.mem_map_of_mem hr))).1; omega⟩
                  have HFA := Lib.hid fa
                  have HFR := Lib.hid fr
                  have HRW := Lib.hid (refrow wr _ _ row (S3.out.below HB.out) fa (by omega))
                  have HRS2 := Lib.hid (fun w' (h : Below w.heap.size w w') => refrows w' _ _ rows (S4.out.below h) fr (by omega))
                  have hlr := rowB_len row fa (by omega)
                  have hls : (rowsB rows).length ≤ 3100000 := by
                    have h1 := laid_len (fun r : RowV => rowB r.l) 101009 rows (fun r hr => rowB_len r.l (fr r hr).1 (fr r hr).2)
                    have h2 : (sizeB rows.length).length ≤ 9 := be_len8 _ (by omega)
                    unfold rowsB
                    rw [List.length_append]; omega
                  have hcat1 : bs lz3 ++ bs (rowB row) = bs (lz3 ++ rowB row) := bs_append _ _
                  have hcat2 : bs (lz3 ++ rowB row) ++ bs (rowsB rows) = bs (lz3 ++ rowB row ++ rowsB rows) := bs_append _ _
                  have hsum1 : (bs lz3).size + (bs (rowB row)).size ≤ 9223372036854775807 := by rw [bs_size, bs_size]; have := L3.out; omega
                  have hsum2 : (bs (lz3 ++ rowB row)).size + (bs (rowsB rows)).size ≤ 9223372036854775807 := by rw [bs_size, bs_size, List.length_append]; have := L3.out; omega
                  obtain ⟨all, hall⟩ : ∃ all, all = lz3 ++ rowB row ++ rowsB rows := ⟨_, rfl⟩
                  have HALL := Lib.hid hall
                  have hal5 : all.length ≤ 10000000 := by rw [hall, List.length_append, List.length_append]; have := L3.out; omega
                  have HAL5 := Lib.hid hal5
                  rw [← hall] at hcat2
                  clear hall fa fr hlr hls hal5
                  have hbsz := bs_size all
                  have HBSZ := Lib.hid hbsz
                  generalize hS1 : bs lz3 = S1' at *
                  generalize bs (lz3 ++ rowB row) = S2' at *
                  generalize hS3 : bs all = S3' at *
                  have HS3 := Lib.hid hS3
                  clear hS3 hS1 hbsz
                  generalize bs (rowB row) = T1 at *
                  generalize bs (rowsB rows) = T2 at *
                  have hnil : ∀ w : World, w.alloc (.cells #[.slice none 0 0] 64) = w.alloc (.cells #[.slice none 0 0] 64) := fun _ => rfl
                  clear hnil
                  go_wp2_with (first
                    | (go_at_call 32; refine HRW.out.mono ?_; clear HRW; rintro e w5 ⟨rfl, hb5⟩; have HB5 := Lib.hid (HB.out.trans (hb5.mono HB.out.size)); clear hb5)
                    | (go_at_call 33; refine (HRS2.out w5 HB5.out).mono ?_; clear HRS2; rintro e w6 ⟨rfl, hb6⟩; have HB6 := Lib.hid (HB5.out.trans (hb6.mono HB5.out.size)); clear hb6))
                  have hbn := Buf.new w6
                  have hbw : Below w.heap.size w (w6.alloc (.cells #[.slice none 0 0] 64)) := HB6.out.alloc HB6.out.size _
                  have h06 : w.heap.size ≤ w6.heap.size := HB6.out.size
                  have hF6 : ∀ (W : World) (k : Nat), (w6.heap.size ≤ k ∧ k < W.heap.size) → w.heap.size ≤ k := fun W k hk => Nat.le_trans h06 hk.1
                  have HF6 := Lib.hid hF6
                  have HW0 := Lib.hid hbw
                  have HWR0 : Hid (Wrote w6.heap.size w6.heap.size (w6.alloc (.cells #[.slice none 0 0] 64)) []) := hbn
                  have HN0 : Hid (w6.heap.size ≤ (w6.alloc (.cells #[.slice none 0 0] 64)).heap.size) := by show _ ≤ _; simp
                  clear hbn hbw hF6
                  have HC0 := Lib.hid (size_wr _ _ _ _ _ _ HWR0.out _ sizes (Sl.old S0.out HW0.out _ (HF6.out _)) F0.out (by simp) (by omega))
                  refine HC0.out.mono ?_
                  clear HC0
                  rintro e w7 ⟨rfl, F7, h71, h72, h73⟩
                  obtain ⟨hw7, hbw7⟩ := wrote_of (fun k hk => hk.1) HN0.out h71 h72 h73
                  rw [List.nil_append, HZ0.out] at hw7
                  have HN7 : Hid (w6.heap.size ≤ w7.heap.size) := Nat.le_trans HN0.out hbw7.size
                  have HW7 := Lib.hid (HW0.out.trans (hbw7.mono h06))
                  have HC1 := Lib.hid (signed_wr _ _ _ _ _ _ hw7 _ nums (Sl.old S1.out HW7.out _ (HF6.out _)) F1.out (by have := L0.out; omega) (by omega))
                  clear h71 h72 h73 hw7 hbw7 HN0 HW0 HWR0
                  go_wp2_with fail
                  refine HC1.out.mono ?_
                  clear HC1
                  rintro e w8 ⟨rfl, F8, h81, h82, h83⟩
                  obtain ⟨hw8, hbw8⟩ := wrote_of (fun k hk => hk.1) HN7.out h81 h82 h83
                  rw [HZ1.out] at hw8
                  have HN8 : Hid (w6.heap.size ≤ w8.heap.size) := Nat.le_trans HN7.out hbw8.size
                  have HW8 := Lib.hid (HW7.out.trans (hbw8.mono h06))
                  have HC2 := Lib.hid (text_wr _ _ _ _ _ _ hw8 _ texts (Sl.old S2.out HW8.out _ (HF6.out _)) HTA.out (by have := L1.out; omega) (by omega))
                  clear h81 h82 h83 hw8 hbw8 HN7 HW7
                  go_wp2_with fail
                  refine HC2.out.mono ?_
                  clear HC2
                  rintro e w9 ⟨rfl, F9, h91, h92, h93⟩
                  obtain ⟨hw9, hbw9⟩ := wrote_of (fun k hk => hk.1) HN8.out h91 h92 h93
                  rw [HZ2.out] at hw9
                  have HN9 : Hid (w6.heap.size ≤ w9.heap.size) := Nat.le_trans HN8.out hbw9.size
                  have HW9 := Lib.hid (HW8.out.trans (hbw9.mono h06))
                  have HC3 := Lib.hid (value_wr _ _ _ _ _ _ hw9 _ row (Sl.old S3.out HW9.out _ (HF6.out _)) HFA.out (by have := L2.out; omega) (by omega))
                  clear h91 h92 h93 hw9 hbw9 HN8 HW8
                  go_wp2_with fail
                  refine HC3.out.mono ?_
                  clear HC3
                  rintro e w10 ⟨rfl, F10, h101, h102, h103⟩
                  obtain ⟨hw10, hbw10⟩ := wrote_of (fun k hk => hk.1) HN9.out h101 h102 h103
                  rw [HZ3.out] at hw10
                  have HN10 : Hid (w6.heap.size ≤ w10.heap.size) := Nat.le_trans HN9.out hbw10.size
                  have HW10 := Lib.hid (HW9.out.trans (hbw10.mono h06))
                  have HC4 := Lib.hid (row_wr _ _ _ _ _ _ hw10 _ row (Sl.old S3.out HW10.out _ (HF6.out _)) HFA.out (by have := L3.out; omega) (by omega))
                  clear h101 h102 h103 hw10 hbw10 HN9 HW9
                  go_wp2_with fail
                  refine HC4.out.mono ?_
                  clear HC4
                  rintro e w11 ⟨rfl, F11, h111, h112, h113⟩
                  obtain ⟨hw11, hbw11⟩ := wrote_of (fun k hk => hk.1) HN10.out h111 h112 h113
                  have HN11 : Hid (w6.heap.size ≤ w11.heap.size) := Nat.le_trans HN10.out hbw11.size
                  have HW11 := Lib.hid (HW10.out.trans (hbw11.mono h06))
                  have hl11 : (lz3 ++ rowB row).length ≤ 10000000 := by
                    have h1 := HAL5.out; have h2 := congrArg List.length HALL.out
                    rw [List.length_append] at h2; omega
                  have HC5 := Lib.hid (rows_wr _ _ _ _ _ _ hw11 _ rows ⟨Sl.old S4.out.1 HW11.out _ (HF6.out _), fun r hr => ⟨Sl.old (S4.out.2 r hr) HW11.out _ (HF6.out _), (HFR.out r hr).1, Nat.le_trans (HFR.out r hr).2 (by decide)⟩⟩ hl11 (by omega) (fun r hr => (HFR.out r hr).2))
                  clear h111 h112 h113 hw11 hbw11 HN10 HW10 hl11
                  go_wp2_with fail
                  refine HC5.out.mono ?_
                  clear HC5
                  rintro e w12 ⟨rfl, F12, h121, h122, h123⟩
                  obtain ⟨hw12, hbw12⟩ := wrote_of (fun k hk => hk.1) HN11.out h121 h122 h123
                  rw [← HALL.out] at hw12
                  have HW12 := Lib.hid (HW11.out.trans (hbw12.mono h06))
                  have HND := Lib.hid (size_nil w12 _ _ sizes (S0.out.below HW12.out))
                  have HNT := Lib.hid (text_nil w12 _ _ texts (S2.out.below HW12.out))
                  have HNR := Lib.hid (rows_nil w12 _ _ rows (S4.out.below HW12.out))
                  have HST : Hid (∀ w', Below w12.heap.size w12 w' → Calls Try.prog 40 #[.pointer (some ⟨w6.heap.size, 0, none⟩)] w' fun e w2 => e = .returned (.string S3') ∧ w' = w2) := fun w' h => by
                    have h1 := string_wr w' _ _ _ _ _ (Buf.below hw12 h)
                    have h2 : (⟨all.toArray⟩ : ByteArray) = S3' := HS3.out
                    rw [h2] at h1
                    exact h1
                  have hsi : (S3'.size : Int) = (all.length : Int) := by rw [HBSZ.out]
                  have HLN : Hid (∀ w', Below w12.heap.size w12 w' → Calls Try.prog 41 #[.pointer (some ⟨w6.heap.size, 0, none⟩)] w' fun e w2 => e = .returned (.int .i64 S3'.size) ∧ w' = w2) := fun w' h => by
                    have h1 := len_wr w' _ _ _ _ _ (Buf.below hw12 h)
                    rw [← hsi] at h1
                    exact h1
                  clear h121 h122 h123 hw12 hbw12 HN11 HW11 hsi
                  go_wp2_with (first
                    | (go_at_call 34; refine HND.out.mono ?_; rintro e w13 ⟨rfl, rfl⟩)
                    | (go_at_call 36; refine HNT.out.mono ?_; rintro e w13 ⟨rfl, rfl⟩)
                    | (go_at_call 39; refine HNR.out.mono ?_; rintro e w13 ⟨rfl, hb13⟩; have HST13 := Lib.hid (HST.out _ hb13); have HLN13 := Lib.hid (HLN.out _ hb13); have HB13 := Lib.hid (HW12.out.trans (hb13.mono HW12.out.size)); clear hb13 HST HLN)
                    | (go_at_call 40; refine HST13.out.mono ?_; rintro e w14 ⟨rfl, rfl⟩)
                    | (go_at_call 41; refine HLN13.out.mono ?_; rintro e w14 ⟨rfl, rfl⟩)
                    | (go_at_call 40; refine (wstr_nil _).mono ?_; rintro e w14 ⟨rfl, rfl⟩)
                    | (go_at_call 41; refine (wlen_nil _).mono ?_; rintro e w14 ⟨rfl, rfl⟩)
                    | (go_at_call 42; refine (bstr_nil _).mono ?_; rintro e w14 ⟨rfl, rfl⟩)
                    | (go_at_call 43; refine (blen_nil _).mono ?_; rintro e w14 ⟨rfl, rfl⟩)
                    | (go_at_call 27; refine (codec_awake _).mono ?_; rintro e w15 ⟨rfl, hb15⟩))
                  go_ret
                  exact ⟨rfl, HB13.out.trans (hb15.mono HB13.out.size)⟩
end Go.Proofs.Ytdhdphmehjkbnaa
