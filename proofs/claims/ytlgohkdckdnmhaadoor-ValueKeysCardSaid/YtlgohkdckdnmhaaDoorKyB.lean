/- Keys: the document's. -/
import Derived.Test.YtlgohkdckdnmhaaDoorKyA
namespace Go.Proofs.YtlgohkdckdnmhaaDoor
open Go.RowKit Go.Afx

theorem be_front (k u : Nat) : be (k + 1) u = UInt8.ofNat (u / 256 ^ k % 256) :: be k u := by
  induction k generalizing u with
  | zero => simp [be]
  | succ k ih =>
    rw [be, ih (u / 256), Nat.div_div_eq_div_mul, ← Nat.pow_succ']
    show _ :: (be k (u / 256) ++ _) = _
    rfl

set_option maxRecDepth 100000 in
theorem refkey_num (w : World) (n : Int) (s : ByteArray) (hf : fit64 n) :
    Calls Tryd.prog 64 #[.agg #[.int .i64 1, .int .i64 n, .string s]] w fun e w' => e = .returned (.string (bs (1 :: be 8 (up64 n)))) ∧ Below w.heap.size w w' := by
  have hx : IntKind.u64.wrap (IntKind.u64.wrap n + 9223372036854775808) = (up64 n : Int) := by
    rw [IntKind.wrap_u64, IntKind.wrap_u64]; unfold fit64 at hf; unfold up64; omega
  have hlt := up64_lt n hf
  generalize up64 n = u0 at *
  obtain ⟨wb, hwb⟩ : ∃ wb, w.alloc (.cells #[.int .i64 1, .int .i64 n, .string s] 27) = wb := ⟨_, rfl⟩
  have hbb : Below w.heap.size w wb := by rw [← hwb]; exact (Below.refl _ _).alloc (Nat.le_refl _) _
  have hk : Blk wb w.heap.size 27 [.int .i64 1, .int .i64 n, .string s] := by rw [← hwb]; exact Blk.new w _ _
  have t0 : wb.cell? ⟨w.heap.size, 0, none⟩ = some (.int .i64 1) := hk.cell 0
  have t1 : wb.cell? ⟨w.heap.size, 1, none⟩ = some (.int .i64 n) := hk.cell 1
  have HB0 := Lib.hid hbb
  have HLT := Lib.hid hlt
  clear hbb hk hlt
  go_enter Tryd.func64, Tryd.ntmps64
  go_wp2_with (rw [hwb])
  have HX := Lib.hid hx
  clear t0 t1 hx
  go_loopw [3, 4, 5] (fun n0 s i wr => ∃ j : Nat, n0 = .int .u64 ((u0 / 256 ^ j : Nat) : Int) ∧ s = .string (bs (be j u0)) ∧ i = .int .i64 j ∧ j ≤ 8 ∧ Below w.heap.size w wr) (fun _ _ i _ => (8 - intOf i).toNat)
  case atStart => exact ⟨0, by first | rw [HX.out, Nat.pow_zero, Nat.div_one] | rw [Nat.pow_zero, Nat.div_one], rfl, rfl, by omega, HB0.out⟩
  case round =>
    obtain ⟨j, rfl, rfl, rfl, hj, hb⟩ := hrel
    have HB := Lib.hid hb
    have HSZ : Hid ((bs (be j u0)).size = j) := by
      show _ = _
      rw [bs_size, be_length]
    clear hb
    by_cases hj8 : j < 8
    · have HE := Lib.hid (be_front j u0)
      have h2 : u0 / 256 ^ j / 256 = u0 / 256 ^ (j + 1) := by rw [Nat.div_div_eq_div_mul, ← Nat.pow_succ]
      have hq : ((u0 / 256 ^ j : Nat) : Int) / 256 = ((u0 / 256 ^ (j + 1) : Nat) : Int) := by rw [← h2]; omega
      have hlt : u0 / 256 ^ j < 18446744073709551616 := Nat.lt_of_le_of_lt (Nat.div_le_self _ _) HLT.out
      clear h2
      have hlt2 : u0 / 256 ^ (j + 1) < 18446744073709551616 := Nat.lt_of_le_of_lt (Nat.div_le_self _ _) HLT.out
      generalize hu2 : u0 / 256 ^ (j + 1) = u2 at *
      have HU := Lib.hid hu2
      clear hu2
      generalize u0 / 256 ^ j = u at *
      obtain ⟨x, hx⟩ : ∃ x : Nat, x = u % 256 := ⟨_, rfl⟩
      have hx2 : (u : Int) % 256 = (x : Int) := by omega
      have hx256 : x < 256 := by omega
      have hxi : (x : Int) < 256 := by omega
      rw [← hx] at HE
      have cvb := cv_byte wr x hx256
      have hcat : bs [UInt8.ofNat x] ++ bs (be j u0) = bs (UInt8.ofNat x :: be j u0) := bs_append _ _
      have hsum : (bs [UInt8.ofNat x]).size + (bs (be j u0)).size ≤ 9223372036854775807 := by rw [HSZ.out, bs_size]; simp; omega
      rw [← HE.out] at hcat
      clear hx hlt
      generalize hS2 : bs (be (j + 1) u0) = S2 at *
      have HS2 := Lib.hid hS2
      clear hS2
      generalize bs (be j u0) = S at *
      generalize bs [UInt8.ofNat x] = ch at *
      go_wp2
      go_roundw
      case rel => exact ⟨j + 1, by rw [HU.out]; first | done | (congr 1; done) | (congr 1; rw [IntKind.wrap_u64]; omega), by rw [HS2.out], by go_num, by omega, HB.out.alloc HB.out.size _⟩
      case measure => (simp [intOf]) <;> omega
    · obtain rfl : j = 8 := by omega
      have hcat : (⟨#[1]⟩ : ByteArray) ++ bs (be 8 u0) = bs (1 :: be 8 u0) := bs_append [1] _
      have hsum : (⟨#[1]⟩ : ByteArray).size + (bs (be 8 u0)).size ≤ 9223372036854775807 := by rw [HSZ.out]; decide
      generalize hS2 : bs (1 :: be 8 u0) = S2 at *
      have HS2 := Lib.hid hS2
      clear hS2
      generalize bs (be 8 u0) = S at *
      go_wp2
      go_ret
      exact ⟨by rw [HS2.out]; rfl, HB.out⟩

set_option maxRecDepth 100000 in
theorem refkey_text (w : World) (n : Int) (s : ByteArray) (hs : s.size ≤ 1000) :
    Calls Tryd.prog 64 #[.agg #[.int .i64 2, .int .i64 n, .string s]] w fun e w' => e = .returned (.string (bs (2 :: (esc 0 [0, 255] s.data.toList ++ [0, 1])))) ∧ Below w.heap.size w w' := by
  obtain ⟨l, hl⟩ : ∃ l, s.data.toList = l := ⟨_, rfl⟩
  have HG := Lib.hid (get_list s l hl)
  have hsz := size_list s l hl
  rw [hl]
  obtain ⟨wb, hwb⟩ : ∃ wb, w.alloc (.cells #[.int .i64 2, .int .i64 n, .string s] 27) = wb := ⟨_, rfl⟩
  have hbb : Below w.heap.size w wb := by rw [← hwb]; exact (Below.refl _ _).alloc (Nat.le_refl _) _
  have hk : Blk wb w.heap.size 27 [.int .i64 2, .int .i64 n, .string s] := by rw [← hwb]; exact Blk.new w _ _
  have t0 : wb.cell? ⟨w.heap.size, 0, none⟩ = some (.int .i64 2) := hk.cell 0
  have hw1 : wb.heap.size = w.heap.size + 1 := by rw [← hwb]; simp
  have ho0 := Own.made wb 5 1 [.int .u8 2] [] 1 1 rfl (by intro u hu; simp at hu; subst hu; rfl) (Nat.le_refl _) (by simp [maxLen]) (by simp)
  have HK := Lib.hid hk
  have HB0 := Lib.hid hbb
  have HO0 := Lib.hid ho0
  have HW1 := Lib.hid hw1
  have HSZ := Lib.hid hsz
  clear hbb hk ho0 hw1 hl hsz
  go_enter Tryd.func64, Tryd.ntmps64
  go_wp2_with (rw [hwb])
  clear t0
  have hwz : ∀ q, (Value.slice (some ⟨wb.heap.size, 0, none⟩) 1 1).ownBlock = some q → w.heap.size < q := fun q hq => by
    have h1 : wb.heap.size = q := by simpa [Value.ownBlock] using hq
    have := HW1.out
    omega
  have hst : by8 (2 :: esc 0 [0, 255] (l.take 0)) = [.int .u8 2] := rfl
  have HST := Lib.hid hst
  have HWZ := Lib.hid hwz
  clear hst hwz
  go_loopw [6, 7] (fun v i wr => ∃ k : Nat, i = .int .i64 k ∧ k ≤ s.size ∧ Own wr 5 1 v (2 :: esc 0 [0, 255] (l.take k)).length (by8 (2 :: esc 0 [0, 255] (l.take k))) ∧ (∀ q, v.ownBlock = some q → w.heap.size < q) ∧ Below wb.heap.size wb wr) (fun _ i _ => s.size - (intOf i).toNat)
  case atStart => exact ⟨0, rfl, Nat.zero_le _, by rw [HST.out]; exact HO0.out, HWZ.out, (Below.refl _ _).alloc (Nat.le_refl _) _⟩
  case round =>
    obtain ⟨k, rfl, hk, hown, hnew, hbr⟩ := hrel
    have hlen := (esc_length 0 0 255 (l.take k)).1
    rw [List.length_take] at hlen
    have HN : Hid (∀ h : k < l.length, esc 0 [0, 255] (l.take (k + 1)) = esc 0 [0, 255] (l.take k) ++ (if l[k] = 0 then [0, 255] else [l[k]])) := fun h => by
      rw [← List.take_append_getElem h, esc_append]; simp [esc]
    have HEND : Hid (l.length ≤ k → l.take k = l) := fun h => List.take_of_length_le h
    obtain ⟨q, hq⟩ : ∃ q, 2 :: esc 0 [0, 255] (l.take k) = q := ⟨_, rfl⟩
    have hql : q.length ≤ 2 * s.size + 1 := by rw [← hq, List.length_cons]; omega
    have HQ := Lib.hid hq
    rw [hq] at hown
    obtain ⟨pv, cv, rfl, hcv1, hcv2⟩ := own_form hown
    have hkr := HK.out.below hbr
    have t2 : wr.cell? ⟨w.heap.size, 2, none⟩ = some (.string s) := hkr.cell 2
    have HOWN := Lib.hid hown
    have HNEW := Lib.hid hnew
    have HBR := Lib.hid hbr
    have HKR := Lib.hid hkr
    clear hown hnew hbr hq hlen hkr
    by_cases hka : k < s.size
    · have hkl : k < l.length := by rw [← HSZ.out]; exact hka
      have hal : Below wr.heap.size wr (wr.alloc (.cells #[.int .u8 ((s[k]'hka).toNat : Int)] 5)) := (Below.refl _ _).alloc (Nat.le_refl _) _
      have ho1 := HOWN.out.below hal
      have hs1 := one_byte wr (s[k]'hka)
      have hcc : (s[k]'hka) = l[k] := HG.out k hka hkl
      have HCC := Lib.hid hcc
      have HN2 := Lib.hid (HN.out hkl)
      have HG0 := Lib.hid (Grew.start HOWN.out)
      have HAL2 := Lib.hid hal
      have hno : ¬ (Value.slice pv q.length cv).ownBlock = some w.heap.size := fun h => by have := HNEW.out _ h; omega
      have HK3 := Lib.hid (fun (w1 : World) (h : Only (fun k => (Value.slice pv q.length cv).ownBlock = some k) (wr.alloc (.cells #[.int .u8 ((s[k]'hka).toNat : Int)] 5)) w1) => (HKR.out.alloc (.cells #[.int .u8 ((s[k]'hka).toNat : Int)] 5)).only h hno)
      clear hal hcc hno
      cases hz : ((((s[k]'hka).toNat : Int) == 0))
      · have hne : ¬ l[k] = 0 := fun h => by
          rw [HCC.out, h] at hz; cases hz
        rw [if_neg hne] at HN2
        clear hne
        go_wp2_with (at_builtin; refine wpList_app rfl _ _ rfl elemU8 (by rfl) ho1 (by rfl) hs1 (by unfold maxLen; omega) (by omega) ?_; intro v1 w7 g1 g2 g3 g4 g5; clear ho1 hs1; have HK1 := HK3.out w7 g2; have t2 : w7.cell? ⟨w.heap.size, 2, none⟩ = some (.string s) := HK1.cell 2; have G0 := Lib.hid (HG0.out.push HAL2.out g1 g2 g3 rfl rfl rfl); clear g1 g2 g3 g4 g5 HK1)
        have h8 := HBR.out.size
        have h9 := HW1.out
        refine ⟨⟨k + 1, by go_num, by omega, ?_, fun q hq => ?_, ?_⟩, by (simp [intOf]) <;> omega⟩
        · rw [HN2.out, ← List.cons_append, HQ.out, ← HCC.out]; exact G0.out.1
        · rcases G0.out.2.2 q hq with h | h
          · exact HNEW.out q h
          · omega
        · exact HBR.out.trans (G0.out.2.1.below h8 (fun q hq => by have := HNEW.out q hq; omega))
      · have hne : l[k] = 0 := by
          have h1 : ((s[k]'hka).toNat : Int) = 0 := by simpa using hz
          rw [HCC.out] at h1
          exact UInt8.toNat_inj.1 (by show l[k].toNat = 0; omega)
        rw [if_pos hne] at HN2
        have HZ : Hid ((s[k]'hka) = 0) := by show _ = _; rw [HCC.out]; exact hne
        clear hne
        go_wp2_with (first
          | (at_builtin; refine wpList_app rfl _ _ rfl elemU8 (by rfl) ho1 (by rfl) hs1 (by unfold maxLen; omega) (by omega) ?_; intro v1 w7 g1 g2 g3 g4 g5; clear ho1 hs1; have HK1 := HK3.out w7 g2; have t2 : w7.cell? ⟨w.heap.size, 2, none⟩ = some (.string s) := HK1.cell 2; have G0 := Lib.hid (HG0.out.push HAL2.out g1 g2 g3 rfl rfl rfl); have HB7 : Hid (Below w7.heap.size w7 (w7.alloc (.cells #[.int .u8 255] 5))) := (Below.refl _ _).alloc (Nat.le_refl _) _; have ho2 := G0.out.1.below HB7.out; have hs2 := sl_byte w7 255 255 rfl; clear g1 g2 g3 g4 g5 HK1)
          | (at_builtin; refine wpList_app rfl _ _ rfl elemU8 (by rfl) ho2 (by rfl) hs2 (by unfold maxLen; simp only [List.length_append, List.length_cons, List.length_nil]; omega) (by simp only [List.length_append, List.length_cons, List.length_nil]; omega) ?_; intro v2 w8 g1 g2 g3 g4 g5; clear ho2 hs2; have G1 := Lib.hid (G0.out.push HB7.out g1 g2 g3 rfl rfl rfl); clear g1 g2 g3 g4 g5))
        have h8 := HBR.out.size
        have h9 := HW1.out
        refine ⟨⟨k + 1, by go_num, by omega, ?_, fun q hq => ?_, ?_⟩, by (simp [intOf]) <;> omega⟩
        · rw [HN2.out, ← List.cons_append, HQ.out]
          have h7 := G1.out.1
          rw [HZ.out, List.append_assoc] at h7
          exact h7
        · rcases G1.out.2.2 q hq with h | h
          · exact HNEW.out q h
          · omega
        · exact HBR.out.trans (G1.out.2.1.below h8 (fun q hq => by have := HNEW.out q hq; omega))
    · have hend := HEND.out (by have := HSZ.out; omega)
      have hq := HQ.out
      rw [hend] at hq
      have kc := sl_string wr (fun _ => True) _ q (HOWN.out.sl (fun _ _ => trivial))
      have hcat : (⟨q.toArray⟩ : ByteArray) ++ ⟨#[0, 1]⟩ = bs (2 :: (esc 0 [0, 255] l ++ [0, 1])) := by rw [← List.cons_append, hq]; exact bs_append q [0, 1]
      have hsum : (⟨q.toArray⟩ : ByteArray).size + (⟨#[0, 1]⟩ : ByteArray).size ≤ 9223372036854775807 := by
        have h1 := bs_size q
        have h2 : (⟨#[0, 1]⟩ : ByteArray).size = 2 := rfl
        unfold bs at h1
        rw [h1, h2]; omega
      generalize hS2 : bs (2 :: (esc 0 [0, 255] l ++ [0, 1])) = S2 at *
      have HS2 := Lib.hid hS2
      have HQ2 := Lib.hid hq
      clear hS2 hend hq
      generalize (⟨q.toArray⟩ : ByteArray) = S at *
      go_wp2
      go_ret
      have h9 := HW1.out
      exact ⟨by rw [HS2.out]; rfl, HB0.out.trans (HBR.out.mono (by omega))⟩

set_option maxRecDepth 100000 in
theorem refkey_bool (w : World) (n : Int) (s : ByteArray) (hn : n = 0 ∨ n = 1) :
    Calls Tryd.prog 64 #[.agg #[.int .i64 3, .int .i64 n, .string s]] w fun e w' => e = .returned (.string (bs [3, UInt8.ofNat n.toNat])) ∧ Below w.heap.size w w' := by
  have hall := (Below.refl w.heap.size w).alloc (Nat.le_refl _) (.cells #[.int .i64 3, .int .i64 n, .string s] 27)
  have hsz : (w.alloc (.cells #[.int .i64 3, .int .i64 n, .string s] 27)).heap.size = w.heap.size + 1 := by simp
  have HB := Lib.hid (hall.alloc hall.size (.cells #[.int .u8 3, .int .u8 n] 5))
  have hcv := cv_block (w.alloc (.cells #[.int .i64 3, .int .i64 n, .string s] 27)) [3, UInt8.ofNat n.toNat]
  have hby : (by8 [3, UInt8.ofNat n.toNat]).toArray = #[.int .u8 3, .int .u8 n] := by
    rcases hn with rfl | rfl <;> rfl
  have hl2 : [3, UInt8.ofNat n.toNat].length = 2 := rfl
  rw [hby, hsz, hl2] at hcv
  have hnr : 0 ≤ n ∧ n ≤ 255 := by omega
  obtain ⟨hn0, hn1⟩ := hnr
  generalize hS : bs [3, UInt8.ofNat n.toNat] = S at *
  clear hall hsz hby hn hS hl2
  go_enter Tryd.func64, Tryd.ntmps64
  go_wp2
  go_ret
  exact ⟨rfl, HB.out⟩

theorem refkey_any (w : World) (v : AV) (hr : v.right = true) (hf : fit64 v.n) :
    Calls Tryd.prog 64 #[v.agg] w fun e w' => e = .returned (.string (bs (keyB v))) ∧ Below w.heap.size w w' := by
  obtain ⟨k, n, s⟩ := v
  unfold AV.right at hr
  simp only [AV.agg, keyB] at hr hf ⊢
  by_cases h1 : k = 1
  · subst h1
    rw [if_pos rfl]
    exact refkey_num w n s hf
  rw [if_neg h1]
  by_cases h2 : k = 2
  · subst h2
    rw [if_pos rfl]
    simp at hr
    exact refkey_text w n s (by omega)
  rw [if_neg h2]
  simp [h1, h2] at hr
  obtain ⟨⟨rfl, h4⟩, _⟩ := hr
  exact refkey_bool w n s h4

set_option maxRecDepth 100000 in
theorem refkeys_any (w : World) (B : Nat → Prop) (v : Value) (l : List AV) (hl : Sl w B 3 v l.length (rowCells l)) (hr : rightAll l = true) (hf : ∀ a ∈ l, fit64 a.n) (hll : l.length ≤ 200) :
    Calls Tryd.prog 24 #[v] w fun e w' => e = .returned (.string (bs (keysB l))) ∧ Below w.heap.size w w' := by
  obtain ⟨p, cap, rfl, hc1, hc2⟩ := hl.form
  have HL := Lib.hid hl
  have HF := Lib.hid hf
  have HRR := Lib.hid hr
  clear hl hf hr
  go_enter Tryd.func24, Tryd.ntmps24
  go_wp2
  go_loopw [3, 4] (fun v i wr => ∃ k : Nat, i = .int .i64 k ∧ k ≤ l.length ∧ v = .string (bs (keysB (l.take k))) ∧ Below w.heap.size w wr) (fun _ i _ => l.length - (intOf i).toNat)
  case atStart => exact ⟨0, rfl, Nat.zero_le _, rfl, Below.refl _ _⟩
  case round =>
    obtain ⟨k, rfl, hk, rfl, hbr⟩ := hrel
    have hlen := keysB_len l HRR.out k
    rw [List.length_take] at hlen
    have HN := Lib.hid (fun h => keysB_next l k h)
    have HBR := Lib.hid hbr
    have HLR := HL.out.below hbr
    clear hbr
    by_cases hka : k < l.length
    · obtain ⟨g, off, cap', hv, hg, e0, e1, e2⟩ := sl_av HLR hka
      cases hv
      have hrk : l[k].right = true := by
        have := HRR.out
        unfold rightAll at this
        rw [List.all_eq_true] at this
        exact this _ (List.getElem_mem hka)
      have hfk := HF.out _ (List.getElem_mem hka)
      have HN2 := Lib.hid (HN.out hka)
      clear HN HLR
      generalize l[k] = x at *
      have HP := Lib.hid (fun w => refkey_any w x hrk hfk)
      have hag : x.agg = .agg #[.int .i64 x.kind, .int .i64 x.n, .string x.s] := rfl
      rw [hag] at HP
      have hkl := keyB_length x hrk
      have hcat : bs (keysB (l.take k)) ++ bs (keyB x) = bs (keysB (l.take (k + 1))) := by rw [bs_append, HN2.out]
      have hsum : (bs (keysB (l.take k))).size + (bs (keyB x)).size ≤ 9223372036854775807 := by rw [bs_size, bs_size]; omega
      clear hrk hfk hag hkl hlen
      generalize hS2 : bs (keysB (l.take (k + 1))) = S2 at *
      have HS2 := Lib.hid hS2
      clear hS2
      generalize bs (keysB (l.take k)) = S at *
      generalize bs (keyB x) = T at *
      go_wp2_with (go_at_call 64; refine (HP.out _).mono ?_; clear HP; rintro e w3 ⟨rfl, hb3⟩; have HB3 := Lib.hid hb3; clear hb3)
      go_roundw
      case rel => exact ⟨k + 1, by go_num, by omega, by rw [HS2.out], HBR.out.trans (HB3.out.mono HBR.out.size)⟩
      case measure => (simp [intOf]) <;> omega
    · obtain rfl : k = l.length := by omega
      have hta : bs (keysB (l.take l.length)) = bs (keysB l) := by rw [List.take_length]
      have HTA := Lib.hid hta
      clear hta
      go_wp2
      go_ret
      exact ⟨by rw [← HTA.out]; rfl, HBR.out⟩
end Go.Proofs.YtlgohkdckdnmhaaDoor
