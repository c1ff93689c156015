/- The row of a key: text. -/
import Derived.Test.YtlgohkdckdnmhaaDoorUkP
import Derived.Test.YtlgohkdckdnmhaaDoorPri
import Derived.Test.YtlgohkdckdnmhaaDoorPrs
import Derived.Laws.Bits64b
namespace Go.Proofs.YtlgohkdckdnmhaaDoor
open Go.RowKit Go.Afx

theorem textF_ne (c : UInt8) (t : List UInt8) (h : c ≠ 0) : textF (c :: t) = (textF t).map (fun p => (c :: p.1, p.2)) := by
  cases t with
  | nil => rfl
  | cons d t => rw [textF, if_pos h]
/-- A text, as it is told. -/
def txtT : Option (List UInt8 × List UInt8) → Value
  | some (x, r) => .tuple #[.string (bs x), .string (bs r), .bool true]
  | none => .tuple #[.string ⟨#[]⟩, .string ⟨#[]⟩, .bool false]
theorem ext_drop (s : ByteArray) (l : List UInt8) (h : s.data.toList = l) (a : Nat) : (s.extract a s.size) = bs (l.drop a) := by
  rw [← bs_of (s.extract a s.size), Lib.extract_data, h]
  congr 1
  have h2 := size_list s l h
  exact List.take_of_length_le (by rw [List.length_drop]; omega)
theorem slice_from (s : ByteArray) (i : Nat) (h2 : i ≤ s.size) (w : World) : (Instr.slice 9 (.string s) (some (.int .i64 (i : Int))) none none).run Tryd.prog w = .ok (.string (s.extract i s.size)) w := by
  have := run_slice_string_l (P := Tryd.prog) w 9 s Tryd.underlying9 .i64 (i : Int) (by omega) (by omega)
  simpa using this

set_option maxRecDepth 100000 in
set_option maxHeartbeats 4000000 in
theorem text_any (w : World) (s : ByteArray) (l : List UInt8) (hs : s.data.toList = l) (hl : l.length ≤ 14000) :
    Calls Tryd.prog 97 #[.string s] w fun e w' => e = .returned (txtT (textF l)) ∧ Below w.heap.size w w' := by
  have hsz := size_list s l hs
  have HG := Lib.hid (get_list s l hs)
  have HSZ := Lib.hid hsz
  have HS := Lib.hid hs
  have hsl : s.size ≤ 14000 := by omega
  obtain ⟨out, hout⟩ : ∃ out, textF l = out := ⟨_, rfl⟩
  rw [hout]
  have HO : Hid ((textF (l.drop 0)).map (fun p => ([] ++ p.1, p.2)) = out) := by
    show _ = _
    rw [List.drop_zero, hout]
    cases out <;> simp
  clear hsz hs hout
  go_enter Tryd.func97, Tryd.ntmps97
  go_wp2
  go_loopw [5, 6] (fun v i wr => ∃ (k : Nat) (acc : List UInt8), i = .int .i64 k ∧ k ≤ s.size ∧ Own wr 5 1 v acc.length (by8 acc) ∧ (∀ q, v.ownBlock = some q → w.heap.size ≤ q) ∧ (textF (l.drop k)).map (fun p => (acc ++ p.1, p.2)) = out ∧ acc.length ≤ k ∧ Below w.heap.size w wr) (fun _ i _ => s.size - (intOf i).toNat)
  case atStart => exact ⟨0, [], rfl, Nat.zero_le _, Own.nil _ _ _, by simp [Value.ownBlock], HO.out, Nat.zero_le _, Below.refl _ _⟩
  case round =>
    obtain ⟨k, acc, rfl, hk, hown, hnew, hacc, hal, hbr⟩ := hrel
    obtain ⟨pv, cv, rfl, hcv1, hcv2⟩ := own_form hown
    have HOWN := Lib.hid hown
    have HNEW := Lib.hid hnew
    have HBR := Lib.hid hbr
    have HACC := Lib.hid hacc
    clear hown hnew hbr hacc
    by_cases hka : k < s.size
    · have hkl : k < l.length := by have := HSZ.out; omega
      have hcc : (s[k]'hka) = l[k] := HG.out k hka hkl
      have hdr : l.drop k = l[k] :: l.drop (k + 1) := List.drop_eq_getElem_cons hkl
      by_cases h0 : l[k] = 0
      · have hz : (((s[k]'hka).toNat : Int) != 0) = false := by rw [hcc, h0]; rfl
        have hks : ∀ W : World, (Instr.slice 9 (.string s) (some (.int .i64 (k : Int))) none none).run Tryd.prog W = .ok (.string (bs (l.drop k))) W := fun W => by
          rw [← ext_drop s l HS.out k]; exact slice_from s k (by omega) W
        have hDd := bs_data (l.drop k)
        generalize bs (l.drop k) = D at *
        have hp1 := fun W => Tryd.strings_HasPrefix D ⟨#[0, 1]⟩ W
        have hp2 := fun W => Tryd.strings_HasPrefix D ⟨#[0, 255]⟩ W
        have x1 : (⟨#[0, 1]⟩ : ByteArray).data.toList = [0, 1] := rfl
        have x2 : (⟨#[0, 255]⟩ : ByteArray).data.toList = [0, 255] := rfl
        rw [hDd, hdr, h0, x1] at hp1
        rw [hDd, hdr, h0, x2] at hp2
        have hac := HACC.out
        rw [hdr, h0] at hac
        cases hrest : l.drop (k + 1) with
        | nil =>
          rw [hrest] at hac hp1 hp2
          have q1 : Lib.hasPrefix [0] [0, 1] = false := by decide
          have q2 : Lib.hasPrefix [0] [0, 255] = false := by decide
          rw [q1] at hp1
          rw [q2] at hp2
          have HP1 := Lib.hid hp1
          have HP2 := Lib.hid hp2
          have HOUT : Hid (out = none) := Eq.symm hac
          clear hp1 hp2 hac hdr hrest h0 hcc x1 x2 q1 q2 hDd
          go_wp2_with fail
          refine (HP1.out _).mono ?_
          rintro e w2 ⟨rfl, rfl⟩
          go_wp2_with fail
          refine (HP2.out _).mono ?_
          rintro e w3 ⟨rfl, rfl⟩
          go_wp2
          exact bodyPost_ret (v := .tuple #[.string ⟨#[]⟩, .string ⟨#[]⟩, .bool false]) (by simp [results, Tryd.results97, go_sem]) rfl ⟨by rw [HOUT.out]; rfl, HBR.out⟩
        | cons d r =>
          rw [hrest] at hac hp1 hp2
          have q1 : Lib.hasPrefix (0 :: d :: r) [0, 1] = decide (d = 1) := by
            unfold Lib.hasPrefix
            simp [List.isPrefixOf]
            rw [Bool.eq_iff_iff]; simp only [beq_iff_eq, decide_eq_true_eq]; exact eq_comm
          have q2 : Lib.hasPrefix (0 :: d :: r) [0, 255] = decide (d = 255) := by
            unfold Lib.hasPrefix
            simp [List.isPrefixOf]
            rw [Bool.eq_iff_iff]; simp only [beq_iff_eq, decide_eq_true_eq]; exact eq_comm
          rw [q1] at hp1
          rw [q2] at hp2
          have hlr : k + 2 ≤ l.length := by
            have h1 := congrArg List.length hrest
            rw [List.length_drop, List.length_cons] at h1
            omega
          have hdr2 : l.drop (k + 2) = r := by
            have : l.drop (k + 2) = (l.drop (k + 1)).drop 1 := by rw [List.drop_drop]
            rw [this, hrest]; rfl
          have hk2 : k + 2 ≤ s.size := by have := HSZ.out; omega
          rw [textF, if_neg (by simp)] at hac
          by_cases hd1 : d = 1
          · rw [decide_eq_true hd1] at hp1
            rw [if_pos hd1] at hac
            have HP1 := Lib.hid hp1
            have kc := sl_string wr.drew (fun _ => True) _ acc (HOWN.out.sl (fun _ _ => trivial))
            have hba : (⟨acc.toArray⟩ : ByteArray) = bs acc := rfl
            rw [hba] at kc
            have hks2 : ∀ W : World, (Instr.slice 9 (.string s) (some (.int .i64 ((k : Int) + 2))) none none).run Tryd.prog W = .ok (.string (bs r)) W := fun W => by
              rw [← hdr2, ← ext_drop s l HS.out (k + 2)]; exact slice_from s (k + 2) hk2 W
            have HOUT : Hid (out = some (acc, r)) := by
              show _ = _
              rw [← hac]; simp
            clear hp1 hp2 hac hdr hrest h0 hcc x1 x2 q1 q2 hDd hdr2 hlr hd1 hba
            generalize hA : bs acc = A at *
            generalize hR : bs r = R at *
            have HA := Lib.hid hA
            have HRR := Lib.hid hR
            clear hA hR
            go_wp2_with fail
            refine (HP1.out _).mono ?_
            rintro e w2 ⟨rfl, rfl⟩
            go_wp2
            refine wp_region_lit_plan [] [(0, 0), (2, 0), (3, 0), (4, 0), (5, 0), (1, 1), (6, 0), (7, 0), (8, 0)] (fun _ => False) (by kernel_rfl) (by kernel_rfl) (fun c a d v w h => by cases d <;> exact h) ?_
            go_wp2_with (first | (refine plan_pure (v := _) (by rfl) (by rfl) (by rfl) (by intro _; go_simp; with_reducible rfl) ?_; simp only [List.setIfInBounds_toArray, List.set_cons_zero, List.set_cons_succ]; try go_bits) | (refine plan_read (v := _) (by rfl) (by rfl) (by rfl) (by go_simp; with_reducible rfl) ?_; simp only [List.setIfInBounds_toArray, List.set_cons_zero, List.set_cons_succ]; try go_bits) | (refine plan_readB (v := _) (by rfl) (by rfl) (by rfl) (by intro _ hag; unfold Agree at hag; go_simp; with_reducible rfl) ?_; simp only [List.setIfInBounds_toArray, List.set_cons_zero, List.set_cons_succ]; try go_bits) | (refine plan_skip0 (by rfl) (by rfl) (by rfl) ?_; simp only [List.setIfInBounds_toArray, List.set_cons_zero, List.set_cons_succ]; try go_bits) | (refine plan_skip1 (by rfl) (by rfl) (by rfl) ?_; simp only [List.setIfInBounds_toArray, List.set_cons_zero, List.set_cons_succ]; try go_bits) | (refine plan_skip2 (by rfl) (by rfl) (by rfl) ?_; simp only [List.setIfInBounds_toArray, List.set_cons_zero, List.set_cons_succ]; try go_bits) | (refine plan_skip4 (by rfl) (by rfl) (by rfl) ?_; simp only [List.setIfInBounds_toArray, List.set_cons_zero, List.set_cons_succ]; try go_bits) | (refine plan_any (by rfl) ?_) | (refine plan_keep (by rfl) ?_) | (refine plan_nil ?_) | (with_reducible refine And.intro (by first | assumption | exact Agree.refl _ _ | exact agree_drew _ _ | exact agree_alloc _ (by intro k hk; subst hk; first | omega | (simp; omega))) ?_) | (unfold Act.put; simp only [List.setIfInBounds_toArray, List.set_cons_zero, List.set_cons_succ]))
            exact bodyPost_ret (v := .tuple #[.string A, .string R, .bool true]) (by simp [results, Tryd.results97, go_sem]) rfl ⟨by rw [HOUT.out, ← HA.out, ← HRR.out]; rfl, HBR.out.drew⟩
          · rw [decide_eq_false hd1] at hp1
            rw [if_neg hd1] at hac
            have HP1 := Lib.hid hp1
            by_cases hd2 : d = 255
            · rw [decide_eq_true hd2] at hp2
              rw [if_pos hd2] at hac
              have HP2 := Lib.hid hp2
              have HA2 : Hid ((textF (l.drop (k + 2))).map (fun p => ((acc ++ [0]) ++ p.1, p.2)) = out) := by
                show _ = _
                rw [hdr2, ← hac]
                cases textF r <;> simp
              clear hp1 hp2 hac hdr hrest h0 hcc x1 x2 q1 q2 hDd hdr2 hlr hd1 hd2
              have HB0 : Hid (Below wr.heap.size wr (wr.alloc (.cells #[.int .u8 0] 5))) := (Below.refl _ _).alloc (Nat.le_refl _) _
              have ho1 := HOWN.out.below HB0.out
              have hs1 := sl_byte wr 0 0 rfl
              have HG0 := Lib.hid (Grew.start HOWN.out)
              go_wp2_with fail
              refine (HP1.out _).mono ?_
              rintro e w2 ⟨rfl, rfl⟩
              go_wp2_with fail
              refine (HP2.out _).mono ?_
              rintro e w3 ⟨rfl, rfl⟩
              go_wp2_with (at_builtin; refine wpList_app rfl _ _ rfl elemU8 (by rfl) ho1 (by rfl) hs1 (by unfold maxLen; omega) (by omega) ?_; intro v1 w7 g1 g2 g3 g4 g5; clear ho1 hs1; have G0 := Lib.hid (HG0.out.push HB0.out g1 g2 g3 rfl rfl rfl); clear g1 g2 g3 g4 g5)
              have h8 := HBR.out.size
              refine ⟨⟨k + 2, acc ++ [0], by go_num, by omega, G0.out.1, fun q hq => ?_, HA2.out, by rw [List.length_append]; simp only [List.length_cons, List.length_nil]; omega, ?_⟩, by (simp [intOf]) <;> omega⟩
              · rcases G0.out.2.2 q hq with h | h
                · exact HNEW.out q h
                · omega
              · exact HBR.out.trans (G0.out.2.1.below h8 (fun q hq => HNEW.out q hq))
            · rw [decide_eq_false hd2] at hp2
              rw [if_neg hd2] at hac
              have HP2 := Lib.hid hp2
              have HOUT : Hid (out = none) := Eq.symm hac
              clear hp1 hp2 hac hdr hrest h0 hcc x1 x2 q1 q2 hDd hdr2 hlr hd1 hd2
              go_wp2_with fail
              refine (HP1.out _).mono ?_
              rintro e w2 ⟨rfl, rfl⟩
              go_wp2_with fail
              refine (HP2.out _).mono ?_
              rintro e w3 ⟨rfl, rfl⟩
              go_wp2
              exact bodyPost_ret (v := .tuple #[.string ⟨#[]⟩, .string ⟨#[]⟩, .bool false]) (by simp [results, Tryd.results97, go_sem]) rfl ⟨by rw [HOUT.out]; rfl, HBR.out⟩
      · have hz : (((s[k]'hka).toNat : Int) != 0) = true := by
          rw [hcc, bne_iff_ne]
          intro h
          exact h0 (UInt8.toNat_inj.1 (by show l[k].toNat = 0; omega))
        have hac := HACC.out
        rw [hdr, textF_ne _ _ h0] at hac
        have HA2 : Hid ((textF (l.drop (k + 1))).map (fun p => ((acc ++ [s[k]'hka]) ++ p.1, p.2)) = out) := by
          show _ = _
          rw [hcc, ← hac]
          cases textF (l.drop (k + 1)) <;> simp
        have HB0 : Hid (Below wr.heap.size wr (wr.alloc (.cells #[.int .u8 ((s[k]'hka).toNat : Int)] 5))) := (Below.refl _ _).alloc (Nat.le_refl _) _
        have ho1 := HOWN.out.below HB0.out
        have hs1 := one_byte wr (s[k]'hka)
        have HG0 := Lib.hid (Grew.start HOWN.out)
        clear hac hdr h0 hcc
        go_wp2_with (at_builtin; refine wpList_app rfl _ _ rfl elemU8 (by rfl) ho1 (by rfl) hs1 (by unfold maxLen; omega) (by omega) ?_; intro v1 w7 g1 g2 g3 g4 g5; clear ho1 hs1; have G0 := Lib.hid (HG0.out.push HB0.out g1 g2 g3 rfl rfl rfl); clear g1 g2 g3 g4 g5)
        have h8 := HBR.out.size
        refine ⟨⟨k + 1, acc ++ [s[k]'hka], by go_num, by omega, G0.out.1, fun q hq => ?_, HA2.out, by rw [List.length_append]; simp only [List.length_cons, List.length_nil]; omega, ?_⟩, by (simp [intOf]) <;> omega⟩
        · rcases G0.out.2.2 q hq with h | h
          · exact HNEW.out q h
          · omega
        · exact HBR.out.trans (G0.out.2.1.below h8 (fun q hq => HNEW.out q hq))
    · have hend : l.drop k = [] := List.drop_eq_nil_of_le (by have := HSZ.out; omega)
      have hac := HACC.out
      rw [hend] at hac
      have HOUT : Hid (out = none) := Eq.symm hac
      clear hac hend
      go_wp2
      exact bodyPost_ret (v := .tuple #[.string ⟨#[]⟩, .string ⟨#[]⟩, .bool false]) (by simp [results, Tryd.results97, go_sem]) rfl ⟨by rw [HOUT.out]; rfl, HBR.out⟩

theorem slice_midK (s : ByteArray) (i j : Nat) (h1 : i ≤ j) (h2 : j ≤ s.size) (w : World) : (Instr.slice 9 (.string s) (some (.int .i64 (i : Int))) (some (.int .i64 (j : Int))) none).run Tryd.prog w = .ok (.string (s.extract i j)) w := by
  have e1 : ((i : Int)).toNat = i := by omega
  have e2 : ((j : Int)).toNat = j := by omega
  simp [Instr.slice, run_underlying Tryd.underlying9, Instr.sliceBounds, run_sliceBound, h1, h2, e1, e2]
/-- What take answers. -/
def takeT (p : AV × List UInt8 × Bool) : Value := .tuple #[p.1.agg, .string (bs p.2.1), .bool p.2.2]
theorem be_xor (u : Nat) (h : u < 18446744073709551616) : IntKind.i64.wrap (bits .xor .u64 (u : Int) 9223372036854775808) = dn64 u := by
  have h1 := bits_xor_u64_nat u 9223372036854775808 h (by omega)
  rw [xor_top u h] at h1
  have h2 : bits .xor .u64 (u : Int) 9223372036854775808 = (((u + 9223372036854775808) % 18446744073709551616 : Nat) : Int) := h1
  rw [h2, IntKind.wrap_i64]
  unfold dn64
  omega
theorem or_low (u c : Nat) (hu : u < 72057594037927936) (hc : c < 256) : bits .or .u64 ((u : Int) * 256) (c : Int) = ((u * 256 + c : Nat) : Int) := by
  have h1 := bits_or_u64_nat (u * 256) c (by omega) (by omega)
  have h2 : u * 256 ||| c = u * 256 + c := by
    have h3 := Nat.shiftLeft_add_eq_or_of_lt (b := c) (i := 8) hc u
    rw [Nat.shiftLeft_eq] at h3
    exact h3.symm
  rw [h2] at h1
  rw [← h1, Int.natCast_mul]; rfl
set_option maxRecDepth 100000 in
set_option maxHeartbeats 4000000 in
theorem take_any (w : World) (s : ByteArray) (c : UInt8) (t : List UInt8) (hs : s.data.toList = c :: t) (hl : (c :: t).length ≤ 14000) :
    Calls Tryd.prog 65 #[.string s] w fun e w' => e = .returned (takeT (takeF (c :: t))) ∧ Below w.heap.size w w' := by
  have hsz := size_list s _ hs
  have h0s : 0 < s.size := by rw [hsz]; simp
  have hg0 := get_list s _ hs 0 h0s (by simp)
  rw [List.getElem_cons_zero] at hg0
  have HS := Lib.hid hs
  rw [takeF_cons]
  have hal : Below w.heap.size w (w.alloc (.cells #[.int .i64 0, .int .i64 0, .string ⟨#[]⟩] 27)) := (Below.refl _ _).alloc (Nat.le_refl _) _
  have hk0 : Blk (w.alloc (.cells #[.int .i64 0, .int .i64 0, .string ⟨#[]⟩] 27)) w.heap.size 27 [.int .i64 0, .int .i64 0, .string ⟨#[]⟩] := Blk.new w _ _
  have HAL := Lib.hid hal
  have HK0 := Lib.hid hk0
  clear hal hk0
  by_cases h1 : c = 1
  · subst h1
    rw [if_pos rfl]
    have hz : (((s[0]'h0s).toNat : Int) == 1) = true := by rw [hg0]; rfl
    by_cases h8 : 8 ≤ t.length
    · rw [if_pos h8]
      have h9 : 9 ≤ s.size := by rw [hsz, List.length_cons]; omega
      have hsub : s.extract 1 9 = bs (t.take 8) := by
        rw [← bs_of (s.extract 1 9), Lib.extract_data, hs]; rfl
      have hdr9 : s.extract 9 s.size = bs (t.drop 8) := by rw [ext_drop s _ hs 9]; rfl
      have hks1 : ∀ W : World, (Instr.slice 9 (.string s) (some (.int .i64 1)) (some (.int .i64 9)) none).run Tryd.prog W = .ok (.string (bs (t.take 8))) W := fun W => by
        rw [← hsub]; exact slice_midK s 1 9 (by omega) h9 W
      have hks2 : ∀ W : World, (Instr.slice 9 (.string s) (some (.int .i64 9)) none none).run Tryd.prog W = .ok (.string (bs (t.drop 8))) W := fun W => by
        rw [← hdr9]; exact slice_from s 9 h9 W
      have hl8 : (t.take 8).length = 8 := by rw [List.length_take]; omega
      have hsz8 : (bs (t.take 8)).size = 8 := by rw [bs_size, hl8]
      have hd8 := bs_data (t.take 8)
      generalize t.take 8 = b8 at *
      generalize bs b8 = B at *
      have kc : ∀ w, (convert 9 92 (.string B)).run Tryd.prog w = .ok (.slice (some ⟨w.heap.size, 0, none⟩) B.size (cvCap w B 5)) (cvW w B 5) := fun w => run_cv w _ _ _ B Tryd.underlying9 Tryd.underlying92 Tryd.underlying5
      rw [hsz8] at kc
      have hd9 : decide ((s.size : Int) < 9) = false := decide_eq_false (by omega)
      have hcell := fun w => cvW_cell w B 5 b8 hd8
      have hbel := fun w => cvW_below w B 5
      obtain ⟨w1, hw1⟩ : ∃ w1, w.alloc (.cells #[.int .i64 0, .int .i64 0, .string ⟨#[]⟩] 27) = w1 := ⟨_, rfl⟩
      rw [hw1] at HAL HK0
      have hs1 : w1.heap.size = w.heap.size + 1 := by rw [← hw1]; simp
      obtain ⟨w2, hw2⟩ : ∃ w2, cvW w1 B 5 = w2 := ⟨_, rfl⟩
      have hcl := hcell w1
      have hbl := hbel w1
      rw [hw2, hs1] at hcl
      rw [hw2] at hbl
      have HC := Lib.hid hcl
      have HB2 := Lib.hid (HAL.out.trans (hbl.mono HAL.out.size))
      have HK2 := Lib.hid (HK0.out.below hbl)
      have kc1 := kc w1
      rw [hw2, hs1] at kc1
      have HL8 := Lib.hid hl8
      clear kc hcell hbel hcl hbl hs1 hsub hdr9 hl8 hd8 hl hs hsz hg0 h8
      go_enter Tryd.func65, Tryd.ntmps65
      go_wp2_with (rw [hw1])
      clear hw1 hw2 kc1
      go_loopw [5, 23] (fun u i wr => ∃ k : Nat, i = .int .i64 k ∧ k ≤ 8 ∧ u = .int .u64 (valB (b8.take k) : Nat) ∧ wr = w2) (fun _ i _ => 8 - (intOf i).toNat)
      case atStart => exact ⟨0, rfl, by omega, rfl, rfl⟩
      case round =>
        obtain ⟨k, rfl, hk, rfl, rfl⟩ := hrel
        by_cases hk8 : k < 8
        · have hkl : k < b8.length := by rw [HL8.out]; exact hk8
          have c0 := HC.out k hkl
          have hv : valB (b8.take (k + 1)) = valB (b8.take k) * 256 + b8[k].toNat := by
            rw [← List.take_append_getElem hkl, valB_snoc]
          have hlt := valB_lt (b8.take k)
          rw [List.length_take, HL8.out, Nat.min_eq_left hk] at hlt
          have hlt2 : valB (b8.take k) < 72057594037927936 := by
            have : 256 ^ k ≤ 256 ^ 7 := Nat.pow_le_pow_right (by omega) (by omega)
            have h7 : 256 ^ 7 = 72057594037927936 := by decide
            omega
          have hcb := b8[k].toNat_lt
          generalize hu2 : valB (b8.take (k + 1)) = u2 at *
          have HU2 := Lib.hid hu2
          generalize valB (b8.take k) = u at *
          generalize b8[k].toNat = c at *
          clear hu2
          have ho := or_low u c hlt2 hcb
          go_wp2
          refine ⟨⟨k + 1, by go_num, by omega, ?_, trivial⟩, by (simp [intOf]) <;> omega⟩
          rw [HU2.out, hv, Int.natCast_add, Int.natCast_mul]; rfl
        · obtain rfl : k = 8 := by omega
          have hlt := valB_lt b8
          rw [HL8.out] at hlt
          have htk : b8.take 8 = b8 := List.take_of_length_le (by rw [HL8.out]; omega)
          rw [htk]
          have hx := be_xor (valB b8) hlt
          generalize hu : valB b8 = u at *
          have HU := Lib.hid hu
          clear hu
          have HI := Lib.hid (fun w => int_val w (dn64 u))
          obtain ⟨a0, a1, a2, af⟩ := blk3 HK2.out
          clear hlt htk
          go_wp2
          refine wp_region_lit_plan [] [(0, 0), (1, 0), (2, 0), (4, 0), (5, 0), (3, 4), (6, 4), (7, 0), (8, 0)] (fun _ => False) (by kernel_rfl) (by kernel_rfl) (fun c a d v w h => by cases d <;> exact h) ?_
          go_wp2_with (first
            | (refine plan_pure (v := _) (by rfl) (by rfl) (by rfl) (by intro _; go_simp; with_reducible rfl) ?_; simp only [List.setIfInBounds_toArray, List.set_cons_zero, List.set_cons_succ]; try go_bits) | (refine plan_read (v := _) (by rfl) (by rfl) (by rfl) (by go_simp; with_reducible rfl) ?_; simp only [List.setIfInBounds_toArray, List.set_cons_zero, List.set_cons_succ]; try go_bits) | (refine plan_readB (v := _) (by rfl) (by rfl) (by rfl) (by intro _ hag; unfold Agree at hag; go_simp; with_reducible rfl) ?_; simp only [List.setIfInBounds_toArray, List.set_cons_zero, List.set_cons_succ]; try go_bits) | (refine plan_skip0 (by rfl) (by rfl) (by rfl) ?_; simp only [List.setIfInBounds_toArray, List.set_cons_zero, List.set_cons_succ]; try go_bits) | (refine plan_skip1 (by rfl) (by rfl) (by rfl) ?_; simp only [List.setIfInBounds_toArray, List.set_cons_zero, List.set_cons_succ]; try go_bits) | (refine plan_skip2 (by rfl) (by rfl) (by rfl) ?_; simp only [List.setIfInBounds_toArray, List.set_cons_zero, List.set_cons_succ]; try go_bits) | (refine plan_skip4 (by rfl) (by rfl) (by rfl) ?_; simp only [List.setIfInBounds_toArray, List.set_cons_zero, List.set_cons_succ]; try go_bits) | (refine plan_any (by rfl) ?_) | (refine plan_keep (by rfl) ?_) | (refine plan_nil ?_) | (with_reducible refine And.intro (by first | assumption | exact Agree.refl _ _ | exact agree_drew _ _ | exact agree_alloc _ (by intro k hk; subst hk; first | omega | (simp; omega))) ?_) | (unfold Act.put; simp only [List.setIfInBounds_toArray, List.set_cons_zero, List.set_cons_succ])
            | (go_at_call 21; refine (HI.out _).mono ?_; rintro e w3 ⟨rfl, hb3⟩; have HB3 := Lib.hid (HB2.out.drew.trans (hb3.mono HB2.out.size)); obtain ⟨b0, b1, b2, bf⟩ := blk3 (HK2.out.drew.below hb3); clear hb3))
          refine bodyPost_ret (v := .tuple #[.agg #[.int .i64 1, .int .i64 (dn64 u), .string ⟨#[]⟩], .string (bs (t.drop 8)), .bool true]) (by simp [results, Tryd.results65, go_sem, b0, b1, b2]) rfl ⟨by rw [HU.out]; rfl, ?_⟩
          exact ((HB3.out.setCell (p := ⟨w.heap.size, 0, none⟩) (by simp) _).setCell (p := ⟨w.heap.size, 1, none⟩) (by simp) _).setCell (p := ⟨w.heap.size, 2, none⟩) (by simp) _
    · rw [if_neg h8]
      have hd9 : decide ((s.size : Int) < 9) = true := decide_eq_true (by rw [hsz, List.length_cons]; omega)
      have h9 : s.size < 9 := by rw [hsz, List.length_cons]; omega
      clear hs hl hsz hg0 h8
      go_enter Tryd.func65, Tryd.ntmps65
      go_wp2
      refine bodyPost_ret (v := .tuple #[.agg #[.int .i64 0, .int .i64 0, .string ⟨#[]⟩], .string ⟨#[]⟩, .bool false]) (by simp [results, Tryd.results65, go_sem]) rfl ⟨rfl, HAL.out⟩
  rw [if_neg h1]
  have hz1 : (((s[0]'h0s).toNat : Int) == 1) = false := by
    rw [hg0, beq_eq_false_iff_ne]
    intro h
    exact h1 (UInt8.toNat_inj.1 (by show c.toNat = 1; omega))
  have hdr1 : s.extract 1 s.size = bs t := by rw [ext_drop s _ hs 1]; rfl
  have hsl1 : 1 ≤ s.size := h0s
  have hks1 : ∀ W : World, (Instr.slice 9 (.string s) (some (.int .i64 1)) none none).run Tryd.prog W = .ok (.string (bs t)) W := fun W => by
    rw [← hdr1]; exact slice_from s 1 (by omega) W
  by_cases h2 : c = 2
  · subst h2
    rw [if_pos rfl]
    have hz : (((s[0]'h0s).toNat : Int) == 2) = true := by rw [hg0]; rfl
    have HT := Lib.hid (fun w => text_any w (bs t) t (bs_data t) (by rw [List.length_cons] at hl; omega))
    clear hdr1 hg0 h1 hl hsz
    have HTX := Lib.hid (fun w x => text_val w x)
    cases htx : textF t with
    | none =>
      rw [htx] at HT
      simp only [txtT] at HT
      clear htx hs
      go_enter Tryd.func65, Tryd.ntmps65
      go_wp2_with fail
      refine (HT.out _).mono ?_
      rintro e w3 ⟨rfl, hb3⟩
      have HB3 := Lib.hid (HAL.out.trans (hb3.mono HAL.out.size))
      have HK3 := Lib.hid (HK0.out.below hb3)
      clear hb3
      go_wp2_with fail
      refine (HTX.out _ _).mono ?_
      rintro e w4 ⟨rfl, hb4⟩
      have HB4 := Lib.hid (HB3.out.trans (hb4.mono HB3.out.size))
      obtain ⟨b0, b1, b2, bf⟩ := blk3 (HK3.out.below hb4)
      clear hb4
      go_wp2
      refine bodyPost_ret (v := .tuple #[.agg #[.int .i64 2, .int .i64 0, .string ⟨#[]⟩], .string ⟨#[]⟩, .bool false]) (by simp [results, Tryd.results65, go_sem, b0, b1, b2]) rfl ⟨rfl, ?_⟩
      exact ((HB4.out.setCell (p := ⟨w.heap.size, 0, none⟩) (by simp) _).setCell (p := ⟨w.heap.size, 1, none⟩) (by simp) _).setCell (p := ⟨w.heap.size, 2, none⟩) (by simp) _
    | some p =>
      obtain ⟨x, r⟩ := p
      rw [htx] at HT
      simp only [txtT] at HT
      have hout : takeT (⟨2, 0, bs x⟩, r, true) = .tuple #[.agg #[.int .i64 2, .int .i64 0, .string (bs x)], .string (bs r), .bool true] := rfl
      have HOUT := Lib.hid hout
      clear htx hs hout
      generalize hX : bs x = X at *
      generalize hR : bs r = R at *
      have HX := Lib.hid hX
      have HRR := Lib.hid hR
      clear hX hR
      go_enter Tryd.func65, Tryd.ntmps65
      go_wp2_with fail
      refine (HT.out _).mono ?_
      rintro e w3 ⟨rfl, hb3⟩
      have HB3 := Lib.hid (HAL.out.trans (hb3.mono HAL.out.size))
      have HK3 := Lib.hid (HK0.out.below hb3)
      clear hb3
      go_wp2_with fail
      refine (HTX.out _ _).mono ?_
      rintro e w4 ⟨rfl, hb4⟩
      have HB4 := Lib.hid (HB3.out.trans (hb4.mono HB3.out.size))
      obtain ⟨b0, b1, b2, bf⟩ := blk3 (HK3.out.below hb4)
      clear hb4
      go_wp2
      refine bodyPost_ret (v := .tuple #[.agg #[.int .i64 2, .int .i64 0, .string X], .string R, .bool true]) (by simp [results, Tryd.results65, go_sem, b0, b1, b2]) rfl ⟨by first | rw [HOUT.out] | (rw [← HX.out, ← HRR.out]; rfl), ?_⟩
      exact ((HB4.out.setCell (p := ⟨w.heap.size, 0, none⟩) (by simp) _).setCell (p := ⟨w.heap.size, 1, none⟩) (by simp) _).setCell (p := ⟨w.heap.size, 2, none⟩) (by simp) _
  rw [if_neg h2]
  have hz2 : (((s[0]'h0s).toNat : Int) == 2) = false := by
    rw [hg0, beq_eq_false_iff_ne]
    intro h
    exact h2 (UInt8.toNat_inj.1 (by show c.toNat = 2; omega))
  clear hks1 hdr1 hsl1
  by_cases h3 : c = 3
  · subst h3
    rw [if_pos rfl]
    have hz : (((s[0]'h0s).toNat : Int) == 3) = true := by rw [hg0]; rfl
    cases t with
    | nil =>
      have hd9 : decide ((s.size : Int) < 2) = true := decide_eq_true (by rw [hsz, List.length_cons]; simp)
      have h9 : s.size < 2 := by rw [hsz]; simp
      clear hs hl hsz hg0 h1 h2
      go_enter Tryd.func65, Tryd.ntmps65
      go_wp2
      refine bodyPost_ret (v := .tuple #[.agg #[.int .i64 0, .int .i64 0, .string ⟨#[]⟩], .string ⟨#[]⟩, .bool false]) (by simp [results, Tryd.results65, go_sem]) rfl ⟨rfl, HAL.out⟩
    | cons d r =>
      have h9 : 2 ≤ s.size := by rw [hsz]; simp
      have h1s : 1 < s.size := by omega
      have hd9 : decide ((s.size : Int) < 2) = false := decide_eq_false (by omega)
      have hg1 : (s[1]'h1s) = d := get_list s _ hs 1 h1s (by simp)
      have hdr2 : s.extract 2 s.size = bs r := by rw [ext_drop s _ hs 2]; rfl
      have hks2 : ∀ W : World, (Instr.slice 9 (.string s) (some (.int .i64 2)) none none).run Tryd.prog W = .ok (.string (bs r)) W := fun W => by
        rw [← hdr2]; exact slice_from s 2 h9 W
      simp only
      by_cases hd : d.toNat ≤ 1
      · rw [if_pos hd]
        have hc1 : decide ((1 : Int) < ((s[1]'h1s).toNat : Int)) = false := decide_eq_false (by rw [hg1]; omega)
        have hd01 : d = 0 ∨ d = 1 := by
          have : d.toNat = 0 ∨ d.toNat = 1 := by omega
          rcases this with h | h
          · exact .inl (UInt8.toNat_inj.1 h)
          · exact .inr (UInt8.toNat_inj.1 h)
        obtain ⟨b0, b1, b2, bf⟩ := blk3 HK0.out
        rcases hd01 with rfl | rfl
        · have hb : (((s[1]'h1s).toNat : Int) == 1) = false := by rw [hg1]; rfl
          have HBV := Lib.hid (fun w => bool_val w false)
          simp only [Bool.false_eq_true, if_false] at HBV
          clear hs hl hsz hg0 hg1 hdr2 h1 h2 hd b0 b1 b2 bf
          go_enter Tryd.func65, Tryd.ntmps65
          go_wp2
          refine wp_region_lit_plan [] [(0, 0), (1, 0), (2, 0), (4, 0), (5, 0), (3, 4), (6, 4), (7, 0), (8, 0)] (fun _ => False) (by kernel_rfl) (by kernel_rfl) (fun c a d v w h => by cases d <;> exact h) ?_
          go_wp2_with (first
            | (refine plan_pure (v := _) (by rfl) (by rfl) (by rfl) (by intro _; go_simp; with_reducible rfl) ?_; simp only [List.setIfInBounds_toArray, List.set_cons_zero, List.set_cons_succ]; try go_bits) | (refine plan_read (v := _) (by rfl) (by rfl) (by rfl) (by go_simp; with_reducible rfl) ?_; simp only [List.setIfInBounds_toArray, List.set_cons_zero, List.set_cons_succ]; try go_bits) | (refine plan_readB (v := _) (by rfl) (by rfl) (by rfl) (by intro _ hag; unfold Agree at hag; go_simp; with_reducible rfl) ?_; simp only [List.setIfInBounds_toArray, List.set_cons_zero, List.set_cons_succ]; try go_bits) | (refine plan_skip0 (by rfl) (by rfl) (by rfl) ?_; simp only [List.setIfInBounds_toArray, List.set_cons_zero, List.set_cons_succ]; try go_bits) | (refine plan_skip1 (by rfl) (by rfl) (by rfl) ?_; simp only [List.setIfInBounds_toArray, List.set_cons_zero, List.set_cons_succ]; try go_bits) | (refine plan_skip2 (by rfl) (by rfl) (by rfl) ?_; simp only [List.setIfInBounds_toArray, List.set_cons_zero, List.set_cons_succ]; try go_bits) | (refine plan_skip4 (by rfl) (by rfl) (by rfl) ?_; simp only [List.setIfInBounds_toArray, List.set_cons_zero, List.set_cons_succ]; try go_bits) | (refine plan_any (by rfl) ?_) | (refine plan_keep (by rfl) ?_) | (refine plan_nil ?_) | (with_reducible refine And.intro (by first | assumption | exact Agree.refl _ _ | exact agree_drew _ _ | exact agree_alloc _ (by intro k hk; subst hk; first | omega | (simp; omega))) ?_) | (unfold Act.put; simp only [List.setIfInBounds_toArray, List.set_cons_zero, List.set_cons_succ])
            | (go_at_call 23; refine (HBV.out _).mono ?_; rintro e w3 ⟨rfl, hb3⟩; have HB3 := Lib.hid (HAL.out.drew.trans (hb3.mono HAL.out.size)); obtain ⟨b0, b1, b2, bf⟩ := blk3 (HK0.out.drew.below hb3); clear hb3))
          refine bodyPost_ret (v := .tuple #[.agg #[.int .i64 3, .int .i64 0, .string ⟨#[]⟩], .string (bs r), .bool true]) (by simp [results, Tryd.results65, go_sem, b0, b1, b2]) rfl ⟨rfl, ?_⟩
          exact ((HB3.out.setCell (p := ⟨w.heap.size, 0, none⟩) (by simp) _).setCell (p := ⟨w.heap.size, 1, none⟩) (by simp) _).setCell (p := ⟨w.heap.size, 2, none⟩) (by simp) _
        · have hb : (((s[1]'h1s).toNat : Int) == 1) = true := by rw [hg1]; rfl
          have HBV := Lib.hid (fun w => bool_val w true)
          simp only [if_true] at HBV
          clear hs hl hsz hg0 hg1 hdr2 h1 h2 hd b0 b1 b2 bf
          go_enter Tryd.func65, Tryd.ntmps65
          go_wp2
          refine wp_region_lit_plan [] [(0, 0), (1, 0), (2, 0), (4, 0), (5, 0), (3, 4), (6, 4), (7, 0), (8, 0)] (fun _ => False) (by kernel_rfl) (by kernel_rfl) (fun c a d v w h => by cases d <;> exact h) ?_
          go_wp2_with (first
            | (refine plan_pure (v := _) (by rfl) (by rfl) (by rfl) (by intro _; go_simp; with_reducible rfl) ?_; simp only [List.setIfInBounds_toArray, List.set_cons_zero, List.set_cons_succ]; try go_bits) | (refine plan_read (v := _) (by rfl) (by rfl) (by rfl) (by go_simp; with_reducible rfl) ?_; simp only [List.setIfInBounds_toArray, List.set_cons_zero, List.set_cons_succ]; try go_bits) | (refine plan_readB (v := _) (by rfl) (by rfl) (by rfl) (by intro _ hag; unfold Agree at hag; go_simp; with_reducible rfl) ?_; simp only [List.setIfInBounds_toArray, List.set_cons_zero, List.set_cons_succ]; try go_bits) | (refine plan_skip0 (by rfl) (by rfl) (by rfl) ?_; simp only [List.setIfInBounds_toArray, List.set_cons_zero, List.set_cons_succ]; try go_bits) | (refine plan_skip1 (by rfl) (by rfl) (by rfl) ?_; simp only [List.setIfInBounds_toArray, List.set_cons_zero, List.set_cons_succ]; try go_bits) | (refine plan_skip2 (by rfl) (by rfl) (by rfl) ?_; simp only [List.setIfInBounds_toArray, List.set_cons_zero, List.set_cons_succ]; try go_bits) | (refine plan_skip4 (by rfl) (by rfl) (by rfl) ?_; simp only [List.setIfInBounds_toArray, List.set_cons_zero, List.set_cons_succ]; try go_bits) | (refine plan_any (by rfl) ?_) | (refine plan_keep (by rfl) ?_) | (refine plan_nil ?_) | (with_reducible refine And.intro (by first | assumption | exact Agree.refl _ _ | exact agree_drew _ _ | exact agree_alloc _ (by intro k hk; subst hk; first | omega | (simp; omega))) ?_) | (unfold Act.put; simp only [List.setIfInBounds_toArray, List.set_cons_zero, List.set_cons_succ])
            | (go_at_call 23; refine (HBV.out _).mono ?_; rintro e w3 ⟨rfl, hb3⟩; have HB3 := Lib.hid (HAL.out.drew.trans (hb3.mono HAL.out.size)); obtain ⟨b0, b1, b2, bf⟩ := blk3 (HK0.out.drew.below hb3); clear hb3))
          refine bodyPost_ret (v := .tuple #[.agg #[.int .i64 3, .int .i64 1, .string ⟨#[]⟩], .string (bs r), .bool true]) (by simp [results, Tryd.results65, go_sem, b0, b1, b2]) rfl ⟨rfl, ?_⟩
          exact ((HB3.out.setCell (p := ⟨w.heap.size, 0, none⟩) (by simp) _).setCell (p := ⟨w.heap.size, 1, none⟩) (by simp) _).setCell (p := ⟨w.heap.size, 2, none⟩) (by simp) _
      · rw [if_neg hd]
        have hc1 : decide ((1 : Int) < ((s[1]'h1s).toNat : Int)) = true := decide_eq_true (by rw [hg1]; omega)
        clear hs hl hsz hg0 hg1 hdr2 h1 h2 hd
        go_enter Tryd.func65, Tryd.ntmps65
        go_wp2
        refine bodyPost_ret (v := .tuple #[.agg #[.int .i64 0, .int .i64 0, .string ⟨#[]⟩], .string ⟨#[]⟩, .bool false]) (by simp [results, Tryd.results65, go_sem]) rfl ⟨rfl, HAL.out⟩
  · rw [if_neg h3]
    have hz3 : (((s[0]'h0s).toNat : Int) == 3) = false := by
      rw [hg0, beq_eq_false_iff_ne]
      intro h
      exact h3 (UInt8.toNat_inj.1 (by show c.toNat = 3; omega))
    clear hs hl hsz hg0 h1 h2 h3
    go_enter Tryd.func65, Tryd.ntmps65
    go_wp2
    refine bodyPost_ret (v := .tuple #[.agg #[.int .i64 0, .int .i64 0, .string ⟨#[]⟩], .string ⟨#[]⟩, .bool false]) (by simp [results, Tryd.results65, go_sem]) rfl ⟨rfl, HAL.out⟩
end Go.Proofs.YtlgohkdckdnmhaaDoor
