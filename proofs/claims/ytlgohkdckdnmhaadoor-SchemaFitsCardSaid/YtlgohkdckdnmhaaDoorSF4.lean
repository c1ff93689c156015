/- Contracts of the functions that the statement reaches, one behind the other. No condition beyond each theorem's own. -/
import Derived.Deep.DeepCutAuto
import Derived.Deep.CutBlock
import Derived.Test.YtlgohkdckdnmhaaDoorSF3
/- Keys: the document's. -/
namespace Go.Proofs.YtlgohkdckdnmhaaDoor
open Go.RowKit Go.Afx

theorem be_front (k u : Nat) : be (k + 1) u = UInt8.ofNat (u / 256 ^ k % 256) :: be k u := by
  induction k generalizing u with
  | zero => simp [be]
  | succ k ih =>
    rw [be, ih (u / 256), Nat.div_div_eq_div_mul, ← Nat.pow_succ']
    show _ :: (be k (u / 256) ++ _) = _
    rfl

set_option maxRecDepth 100000 in
theorem refkey_num (w : World) (n : Int) (s : ByteArray) (hf : fit64 n) :
    Calls Tryd.prog 64 #[.agg #[.int .i64 1, .int .i64 n, .string s]] w fun e w' => e = .returned (.string (bs (1 :: be 8 (up64 n)))) ∧ Below w.heap.size w w' := by
  have hx : IntKind.u64.wrap (IntKind.u64.wrap n + 9223372036854775808) = (up64 n : Int) := by
    rw [IntKind.wrap_u64, IntKind.wrap_u64]; unfold fit64 at hf; unfold up64; omega
  have hlt := up64_lt n hf
  generalize up64 n = u0 at *
  obtain ⟨wb, hwb⟩ : ∃ wb, w.alloc (.cells #[.int .i64 1, .int .i64 n, .string s] 27) = wb := ⟨_, rfl⟩
  have hbb : Below w.heap.size w wb := by rw [← hwb]; exact (Below.refl _ _).alloc (Nat.le_refl _) _
  have hk : Blk wb w.heap.size 27 [.int .i64 1, .int .i64 n, .string s] := by rw [← hwb]; exact Blk.new w _ _
  have t0 : wb.cell? ⟨w.heap.size, 0, none⟩ = some (.int .i64 1) := hk.cell 0
  have t1 : wb.cell? ⟨w.heap.size, 1, none⟩ = some (.int .i64 n) := hk.cell 1
  have HB0 := Lib.hid hbb
  have HLT := Lib.hid hlt
  clear hbb hk hlt
  go_enter Tryd.func64, Tryd.ntmps64
  go_wp2_with (rw [hwb])
  have HX := Lib.hid hx
  clear t0 t1 hx
  go_loopw [3, 4, 5] (fun n0 s i wr => ∃ j : Nat, n0 = .int .u64 ((u0 / 256 ^ j : Nat) : Int) ∧ s = .string (bs (be j u0)) ∧ i = .int .i64 j ∧ j ≤ 8 ∧ Below w.heap.size w wr) (fun _ _ i _ => (8 - intOf i).toNat)
  case atStart => exact ⟨0, by first | rw [HX.out, Nat.pow_zero, Nat.div_one] | rw [Nat.pow_zero, Nat.div_one], rfl, rfl, by omega, HB0.out⟩
  case round =>
    obtain ⟨j, rfl, rfl, rfl, hj, hb⟩ := hrel
    have HB := Lib.hid hb
    have HSZ : Hid ((bs (be j u0)).size = j) := by
      show _ = _
      rw [bs_size, be_length]
    clear hb
    by_cases hj8 : j < 8
    · have HE := Lib.hid (be_front j u0)
      have h2 : u0 / 256 ^ j / 256 = u0 / 256 ^ (j + 1) := by rw [Nat.div_div_eq_div_mul, ← Nat.pow_succ]
      have hq : ((u0 / 256 ^ j : Nat) : Int) / 256 = ((u0 / 256 ^ (j + 1) : Nat) : Int) := by rw [← h2]; omega
      have hlt : u0 / 256 ^ j < 18446744073709551616 := Nat.lt_of_le_of_lt (Nat.div_le_self _ _) HLT.out
      clear h2
      have hlt2 : u0 / 256 ^ (j + 1) < 18446744073709551616 := Nat.lt_of_le_of_lt (Nat.div_le_self _ _) HLT.out
      generalize hu2 : u0 / 256 ^ (j + 1) = u2 at *
      have HU := Lib.hid hu2
      clear hu2
      generalize u0 / 256 ^ j = u at *
      obtain ⟨x, hx⟩ : ∃ x : Nat, x = u % 256 := ⟨_, rfl⟩
      have hx2 : (u : Int) % 256 = (x : Int) := by omega
      have hx256 : x < 256 := by omega
      have hxi : (x : Int) < 256 := by omega
      rw [← hx] at HE
      have cvb := cv_byte wr x hx256
      have hcat : bs [UInt8.ofNat x] ++ bs (be j u0) = bs (UInt8.ofNat x :: be j u0) := bs_append _ _
      have hsum : (bs [UInt8.ofNat x]).size + (bs (be j u0)).size ≤ 9223372036854775807 := by rw [HSZ.out, bs_size]; simp; omega
      rw [← HE.out] at hcat
      clear hx hlt
      generalize hS2 : bs (be (j + 1) u0) = S2 at *
      have HS2 := Lib.hid hS2
      clear hS2
      generalize bs (be j u0) = S at *
      generalize bs [UInt8.ofNat x] = ch at *
      go_wp2
      go_roundw
      case rel => exact ⟨j + 1, by rw [HU.out]; first | done | (congr 1; done) | (congr 1; rw [IntKind.wrap_u64]; omega), by rw [HS2.out], by go_num, by omega, HB.out.alloc HB.out.size _⟩
      case measure => (simp [intOf]) <;> omega
    · obtain rfl : j = 8 := by omega
      have hcat : (⟨#[1]⟩ : ByteArray) ++ bs (be 8 u0) = bs (1 :: be 8 u0) := bs_append [1] _
      have hsum : (⟨#[1]⟩ : ByteArray).size + (bs (be 8 u0)).size ≤ 9223372036854775807 := by rw [HSZ.out]; decide
      generalize hS2 : bs (1 :: be 8 u0) = S2 at *
      have HS2 := Lib.hid hS2
      clear hS2
      generalize bs (be 8 u0) = S at *
      go_wp2
      go_ret
      exact ⟨by rw [HS2.out]; rfl, HB.out⟩

set_option maxRecDepth 100000 in
theorem refkey_text (w : World) (n : Int) (s : ByteArray) (hs : s.size ≤ 1000) :
    Calls Tryd.prog 64 #[.agg #[.int .i64 2, .int .i64 n, .string s]] w fun e w' => e = .returned (.string (bs (2 :: (esc 0 [0, 255] s.data.toList ++ [0, 1])))) ∧ Below w.heap.size w w' := by
  obtain ⟨l, hl⟩ : ∃ l, s.data.toList = l := ⟨_, rfl⟩
  have HG := Lib.hid (get_list s l hl)
  have hsz := size_list s l hl
  rw [hl]
  obtain ⟨wb, hwb⟩ : ∃ wb, w.alloc (.cells #[.int .i64 2, .int .i64 n, .string s] 27) = wb := ⟨_, rfl⟩
  have hbb : Below w.heap.size w wb := by rw [← hwb]; exact (Below.refl _ _).alloc (Nat.le_refl _) _
  have hk : Blk wb w.heap.size 27 [.int .i64 2, .int .i64 n, .string s] := by rw [← hwb]; exact Blk.new w _ _
  have t0 : wb.cell? ⟨w.heap.size, 0, none⟩ = some (.int .i64 2) := hk.cell 0
  have hw1 : wb.heap.size = w.heap.size + 1 := by rw [← hwb]; simp
  have ho0 := Own.made wb 5 1 [.int .u8 2] [] 1 1 rfl (by intro u hu; simp at hu; subst hu; rfl) (Nat.le_refl _) (by simp [maxLen]) (by simp)
  have HK := Lib.hid hk
  have HB0 := Lib.hid hbb
  have HO0 := Lib.hid ho0
  have HW1 := Lib.hid hw1
  have HSZ := Lib.hid hsz
  clear hbb hk ho0 hw1 hl hsz
  go_enter Tryd.func64, Tryd.ntmps64
  go_wp2_with (rw [hwb])
  clear t0
  have hwz : ∀ q, (Value.slice (some ⟨wb.heap.size, 0, none⟩) 1 1).ownBlock = some q → w.heap.size < q := fun q hq => by
    have h1 : wb.heap.size = q := by simpa [Value.ownBlock] using hq
    have := HW1.out
    omega
  have hst : by8 (2 :: esc 0 [0, 255] (l.take 0)) = [.int .u8 2] := rfl
  have HST := Lib.hid hst
  have HWZ := Lib.hid hwz
  clear hst hwz
  go_loopw [6, 7] (fun v i wr => ∃ k : Nat, i = .int .i64 k ∧ k ≤ s.size ∧ Own wr 5 1 v (2 :: esc 0 [0, 255] (l.take k)).length (by8 (2 :: esc 0 [0, 255] (l.take k))) ∧ (∀ q, v.ownBlock = some q → w.heap.size < q) ∧ Below wb.heap.size wb wr) (fun _ i _ => s.size - (intOf i).toNat)
  case atStart => exact ⟨0, rfl, Nat.zero_le _, by rw [HST.out]; exact HO0.out, HWZ.out, (Below.refl _ _).alloc (Nat.le_refl _) _⟩
  case round =>
    obtain ⟨k, rfl, hk, hown, hnew, hbr⟩ := hrel
    have hlen := (esc_length 0 0 255 (l.take k)).1
    rw [List.length_take] at hlen
    have HN : Hid (∀ h : k < l.length, esc 0 [0, 255] (l.take (k + 1)) = esc 0 [0, 255] (l.take k) ++ (if l[k] = 0 then [0, 255] else [l[k]])) := fun h => by
      rw [← List.take_append_getElem h, esc_append]; simp [esc]
    have HEND : Hid (l.length ≤ k → l.take k = l) := fun h => List.take_of_length_le h
    obtain ⟨q, hq⟩ : ∃ q, 2 :: esc 0 [0, 255] (l.take k) = q := ⟨_, rfl⟩
    have hql : q.length ≤ 2 * s.size + 1 := by rw [← hq, List.length_cons]; omega
    have HQ := Lib.hid hq
    rw [hq] at hown
    obtain ⟨pv, cv, rfl, hcv1, hcv2⟩ := own_form hown
    have hkr := HK.out.below hbr
    have t2 : wr.cell? ⟨w.heap.size, 2, none⟩ = some (.string s) := hkr.cell 2
    have HOWN := Lib.hid hown
    have HNEW := Lib.hid hnew
    have HBR := Lib.hid hbr
    have HKR := Lib.hid hkr
    clear hown hnew hbr hq hlen hkr
    by_cases hka : k < s.size
    · have hkl : k < l.length := by rw [← HSZ.out]; exact hka
      have hal : Below wr.heap.size wr (wr.alloc (.cells #[.int .u8 ((s[k]'hka).toNat : Int)] 5)) := (Below.refl _ _).alloc (Nat.le_refl _) _
      have ho1 := HOWN.out.below hal
      have hs1 := one_byte wr (s[k]'hka)
      have hcc : (s[k]'hka) = l[k] := HG.out k hka hkl
      have HCC := Lib.hid hcc
      have HN2 := Lib.hid (HN.out hkl)
      have HG0 := Lib.hid (Grew.start HOWN.out)
      have HAL2 := Lib.hid hal
      have hno : ¬ (Value.slice pv q.length cv).ownBlock = some w.heap.size := fun h => by have := HNEW.out _ h; omega
      have HK3 := Lib.hid (fun (w1 : World) (h : Only (fun k => (Value.slice pv q.length cv).ownBlock = some k) (wr.alloc (.cells #[.int .u8 ((s[k]'hka).toNat : Int)] 5)) w1) => (HKR.out.alloc (.cells #[.int .u8 ((s[k]'hka).toNat : Int)] 5)).only h hno)
      clear hal hcc hno
      cases hz : ((((s[k]'hka).toNat : Int) == 0))
      · have hne : ¬ l[k] = 0 := fun h => by
          rw [HCC.out, h] at hz; cases hz
        rw [if_neg hne] at HN2
        clear hne
        go_wp2_with (at_builtin; refine wpList_app rfl _ _ rfl elemU8 (by rfl) ho1 (by rfl) hs1 (by unfold maxLen; omega) (by omega) ?_; intro v1 w7 g1 g2 g3 g4 g5; clear ho1 hs1; have HK1 := HK3.out w7 g2; have t2 : w7.cell? ⟨w.heap.size, 2, none⟩ = some (.string s) := HK1.cell 2; have G0 := Lib.hid (HG0.out.push HAL2.out g1 g2 g3 rfl rfl rfl); clear g1 g2 g3 g4 g5 HK1)
        have h8 := HBR.out.size
        have h9 := HW1.out
        refine ⟨⟨k + 1, by go_num, by omega, ?_, fun q hq => ?_, ?_⟩, by (simp [intOf]) <;> omega⟩
        · rw [HN2.out, ← List.cons_append, HQ.out, ← HCC.out]; exact G0.out.1
        · rcases G0.out.2.2 q hq with h | h
          · exact HNEW.out q h
          · omega
        · exact HBR.out.trans (G0.out.2.1.below h8 (fun q hq => by have := HNEW.out q hq; omega))
      · have hne : l[k] = 0 := by
          have h1 : ((s[k]'hka).toNat : Int) = 0 := by simpa using hz
          rw [HCC.out] at h1
          exact UInt8.toNat_inj.1 (by show l[k].toNat = 0; omega)
        rw [if_pos hne] at HN2
        have HZ : Hid ((s[k]'hka) = 0) := by show _ = _; rw [HCC.out]; exact hne
        clear hne
        go_wp2_with (first
          | (at_builtin; refine wpList_app rfl _ _ rfl elemU8 (by rfl) ho1 (by rfl) hs1 (by unfold maxLen; omega) (by omega) ?_; intro v1 w7 g1 g2 g3 g4 g5; clear ho1 hs1; have HK1 := HK3.out w7 g2; have t2 : w7.cell? ⟨w.heap.size, 2, none⟩ = some (.string s) := HK1.cell 2; have G0 := Lib.hid (HG0.out.push HAL2.out g1 g2 g3 rfl rfl rfl); have HB7 : Hid (Below w7.heap.size w7 (w7.alloc (.cells #[.int .u8 255] 5))) := (Below.refl _ _).alloc (Nat.le_refl _) _; have ho2 := G0.out.1.below HB7.out; have hs2 := sl_byte w7 255 255 rfl; clear g1 g2 g3 g4 g5 HK1)
          | (at_builtin; refine wpList_app rfl _ _ rfl elemU8 (by rfl) ho2 (by rfl) hs2 (by unfold maxLen; simp only [List.length_append, List.length_cons, List.length_nil]; omega) (by simp only [List.length_append, List.length_cons, List.length_nil]; omega) ?_; intro v2 w8 g1 g2 g3 g4 g5; clear ho2 hs2; have G1 := Lib.hid (G0.out.push HB7.out g1 g2 g3 rfl rfl rfl); clear g1 g2 g3 g4 g5))
        have h8 := HBR.out.size
        have h9 := HW1.out
        refine ⟨⟨k + 1, by go_num, by omega, ?_, fun q hq => ?_, ?_⟩, by (simp [intOf]) <;> omega⟩
        · rw [HN2.out, ← List.cons_append, HQ.out]
          have h7 := G1.out.1
          rw [HZ.out, List.append_assoc] at h7
          exact h7
        · rcases G1.out.2.2 q hq with h | h
          · exact HNEW.out q h
          · omega
        · exact HBR.out.trans (G1.out.2.1.below h8 (fun q hq => by have := HNEW.out q hq; omega))
    · have hend := HEND.out (by have := HSZ.out; omega)
      have hq := HQ.out
      rw [hend] at hq
      have kc := sl_string wr (fun _ => True) _ q (HOWN.out.sl (fun _ _ => trivial))
      have hcat : (⟨q.toArray⟩ : ByteArray) ++ ⟨#[0, 1]⟩ = bs (2 :: (esc 0 [0, 255] l ++ [0, 1])) := by rw [← List.cons_append, hq]; exact bs_append q [0, 1]
      have hsum : (⟨q.toArray⟩ : ByteArray).size + (⟨#[0, 1]⟩ : ByteArray).size ≤ 9223372036854775807 := by
        have h1 := bs_size q
        have h2 : (⟨#[0, 1]⟩ : ByteArray).size = 2 := rfl
        unfold bs at h1
        rw [h1, h2]; omega
      generalize hS2 : bs (2 :: (esc 0 [0, 255] l ++ [0, 1])) = S2 at *
      have HS2 := Lib.hid hS2
      have HQ2 := Lib.hid hq
      clear hS2 hend hq
      generalize (⟨q.toArray⟩ : ByteArray) = S at *
      go_wp2
      go_ret
      have h9 := HW1.out
      exact ⟨by rw [HS2.out]; rfl, HB0.out.trans (HBR.out.mono (by omega))⟩

set_option maxRecDepth 100000 in
theorem refkey_bool (w : World) (n : Int) (s : ByteArray) (hn : n = 0 ∨ n = 1) :
    Calls Tryd.prog 64 #[.agg #[.int .i64 3, .int .i64 n, .string s]] w fun e w' => e = .returned (.string (bs [3, UInt8.ofNat n.toNat])) ∧ Below w.heap.size w w' := by
  have hall := (Below.refl w.heap.size w).alloc (Nat.le_refl _) (.cells #[.int .i64 3, .int .i64 n, .string s] 27)
  have hsz : (w.alloc (.cells #[.int .i64 3, .int .i64 n, .string s] 27)).heap.size = w.heap.size + 1 := by simp
  have HB := Lib.hid (hall.alloc hall.size (.cells #[.int .u8 3, .int .u8 n] 5))
  have hcv := cv_block (w.alloc (.cells #[.int .i64 3, .int .i64 n, .string s] 27)) [3, UInt8.ofNat n.toNat]
  have hby : (by8 [3, UInt8.ofNat n.toNat]).toArray = #[.int .u8 3, .int .u8 n] := by
    rcases hn with rfl | rfl <;> rfl
  have hl2 : [3, UInt8.ofNat n.toNat].length = 2 := rfl
  rw [hby, hsz, hl2] at hcv
  have hnr : 0 ≤ n ∧ n ≤ 255 := by omega
  obtain ⟨hn0, hn1⟩ := hnr
  generalize hS : bs [3, UInt8.ofNat n.toNat] = S at *
  clear hall hsz hby hn hS hl2
  go_enter Tryd.func64, Tryd.ntmps64
  go_wp2
  go_ret
  exact ⟨rfl, HB.out⟩

theorem refkey_any (w : World) (v : AV) (hr : v.right = true) (hf : fit64 v.n) :
    Calls Tryd.prog 64 #[v.agg] w fun e w' => e = .returned (.string (bs (keyB v))) ∧ Below w.heap.size w w' := by
  obtain ⟨k, n, s⟩ := v
  unfold AV.right at hr
  simp only [AV.agg, keyB] at hr hf ⊢
  by_cases h1 : k = 1
  · subst h1
    rw [if_pos rfl]
    exact refkey_num w n s hf
  rw [if_neg h1]
  by_cases h2 : k = 2
  · subst h2
    rw [if_pos rfl]
    simp at hr
    exact refkey_text w n s (by omega)
  rw [if_neg h2]
  simp [h1, h2] at hr
  obtain ⟨⟨rfl, h4⟩, _⟩ := hr
  exact refkey_bool w n s h4

set_option maxRecDepth 100000 in
theorem refkeys_any (w : World) (B : Nat → Prop) (v : Value) (l : List AV) (hl : Sl w B 3 v l.length (rowCells l)) (hr : rightAll l = true) (hf : ∀ a ∈ l, fit64 a.n) (hll : l.length ≤ 200) :
    Calls Tryd.prog 24 #[v] w fun e w' => e = .returned (.string (bs (keysB l))) ∧ Below w.heap.size w w' := by
  obtain ⟨p, cap, rfl, hc1, hc2⟩ := hl.form
  have HL := Lib.hid hl
  have HF := Lib.hid hf
  have HRR := Lib.hid hr
  clear hl hf hr
  go_enter Tryd.func24, Tryd.ntmps24
  go_wp2
  go_loopw [3, 4] (fun v i wr => ∃ k : Nat, i = .int .i64 k ∧ k ≤ l.length ∧ v = .string (bs (keysB (l.take k))) ∧ Below w.heap.size w wr) (fun _ i _ => l.length - (intOf i).toNat)
  case atStart => exact ⟨0, rfl, Nat.zero_le _, rfl, Below.refl _ _⟩
  case round =>
    obtain ⟨k, rfl, hk, rfl, hbr⟩ := hrel
    have hlen := keysB_len l HRR.out k
    rw [List.length_take] at hlen
    have HN := Lib.hid (fun h => keysB_next l k h)
    have HBR := Lib.hid hbr
    have HLR := HL.out.below hbr
    clear hbr
    by_cases hka : k < l.length
    · obtain ⟨g, off, cap', hv, hg, e0, e1, e2⟩ := sl_av HLR hka
      cases hv
      have hrk : l[k].right = true := by
        have := HRR.out
        unfold rightAll at this
        rw [List.all_eq_true] at this
        exact this _ (List.getElem_mem hka)
      have hfk := HF.out _ (List.getElem_mem hka)
      have HN2 := Lib.hid (HN.out hka)
      clear HN HLR
      generalize l[k] = x at *
      have HP := Lib.hid (fun w => refkey_any w x hrk hfk)
      have hag : x.agg = .agg #[.int .i64 x.kind, .int .i64 x.n, .string x.s] := rfl
      rw [hag] at HP
      have hkl := keyB_length x hrk
      have hcat : bs (keysB (l.take k)) ++ bs (keyB x) = bs (keysB (l.take (k + 1))) := by rw [bs_append, HN2.out]
      have hsum : (bs (keysB (l.take k))).size + (bs (keyB x)).size ≤ 9223372036854775807 := by rw [bs_size, bs_size]; omega
      clear hrk hfk hag hkl hlen
      generalize hS2 : bs (keysB (l.take (k + 1))) = S2 at *
      have HS2 := Lib.hid hS2
      clear hS2
      generalize bs (keysB (l.take k)) = S at *
      generalize bs (keyB x) = T at *
      go_wp2_with (go_at_call 64; refine (HP.out _).mono ?_; clear HP; rintro e w3 ⟨rfl, hb3⟩; have HB3 := Lib.hid hb3; clear hb3)
      go_roundw
      case rel => exact ⟨k + 1, by go_num, by omega, by rw [HS2.out], HBR.out.trans (HB3.out.mono HBR.out.size)⟩
      case measure => (simp [intOf]) <;> omega
    · obtain rfl : k = l.length := by omega
      have hta : bs (keysB (l.take l.length)) = bs (keysB l) := by rw [List.take_length]
      have HTA := Lib.hid hta
      clear hta
      go_wp2
      go_ret
      exact ⟨by rw [← HTA.out]; rfl, HBR.out⟩
end Go.Proofs.YtlgohkdckdnmhaaDoor
/- Schemas: the document's Key. -/
namespace Go.Proofs.YtlgohkdckdnmhaaDoor
open Go.RowKit Go.Afx

theorem pickO_all {row : List AV} {ps : List Int} (h : ps.all (inR row) = true) : pickO row ps = pickR row ps := by unfold pickO; rw [if_pos h]
theorem pick_right {row : List AV} {ps : List Int} (h : ps.all (inR row) = true) (hr : rightAll row = true) : rightAll (pickR row ps) = true := by
  unfold rightAll at *
  rw [List.all_eq_true] at *
  intro a ha
  unfold pickR at ha
  obtain ⟨p, hp, rfl⟩ := List.mem_map.1 ha
  obtain ⟨_, hlt⟩ := inR_lt (h p hp)
  rw [List.getD_eq_getElem?_getD, List.getElem?_eq_getElem hlt]
  exact hr _ (List.getElem_mem hlt)
theorem rowKey_pick {row : List AV} {ps : List Int} (h : ps.all (inR row) = true) (hr : rightAll row = true) : rowKey (pickO row ps) = keysB (pickR row ps) := by
  rw [pickO_all h]
  unfold rowKey
  rw [if_pos (pick_right h hr)]
theorem pickR_fit {row : List AV} (ps : List Int) (h : ∀ a ∈ row, fit64 a.n) : ∀ a ∈ pickR row ps, fit64 a.n := by
  intro a ha
  unfold pickR at ha
  obtain ⟨p, _, rfl⟩ := List.mem_map.1 ha
  rw [List.getD_eq_getElem?_getD]
  cases hg : row[p.toNat]? with
  | none => simp [fit64]
  | some b => simpa using h b (List.mem_of_getElem? hg)

set_option maxRecDepth 100000 in
set_option maxHeartbeats 2000000 in
theorem refKey_any (w : World) (B B' : Nat → Prop) (s : SchV) (i : Nat) (v : Value) (row : List AV) (h : SchAt w B s) (hr : Sl w B' 3 v row.length (rowCells row)) (hi : i < s.idx.length) (hf : ∀ a ∈ row, fit64 a.n)
    (hx : ∀ x ∈ s.idx, x.l.length ≤ 200) (hin : ∀ x ∈ s.idx, x.l.all (inR row) = true) (hra : rightAll row = true) :
    Calls Tryd.prog 55 #[s.agg, .int .i64 (i : Int), v] w fun e w' => e = .returned (.string (bs (skey s.idx row s.idx[i]))) ∧ Below w.heap.size w w' := by
  obtain ⟨nm, cv, cl, iv, il, lim, prt, by_⟩ := s
  obtain ⟨h1, h2, h3, h4⟩ := h
  simp only at h1 h2 h3 h4 hi hx hin
  simp only [SchV.agg]
  obtain ⟨pc, cc, rfl, _, hcc⟩ := h1.form
  have hidx := h2.1
  obtain ⟨g, off, ci, rfl, hci1, hci, _, hglt0, _⟩ := hidx.place (by omega)
  have hal : Below w.heap.size w (w.alloc (.cells #[.string nm, .slice pc cl.length cc, .slice (some ⟨g, off, none⟩) il.length ci, .int .i64 lim, .int .i64 prt, .int .i64 by_] 47)) := (Below.refl _ _).alloc (Nat.le_refl _) _
  have HBK : Hid (Blk (w.alloc (.cells #[.string nm, .slice pc cl.length cc, .slice (some ⟨g, off, none⟩) il.length ci, .int .i64 lim, .int .i64 prt, .int .i64 by_] 47)) w.heap.size 47 [.string nm, .slice pc cl.length cc, .slice (some ⟨g, off, none⟩) il.length ci, .int .i64 lim, .int .i64 prt, .int .i64 by_]) := Blk.new w _ _
  have HALW := Lib.hid hal
  have HIX := Lib.hid (h2.below hal)
  have HROW := Lib.hid (hr.below hal)
  have HF := Lib.hid hf
  obtain ⟨x0, x1, x2, x3, x4, x5⟩ := sch_cells HBK.out
  clear x0 x1 x3 x4 x5 h1 h2 h3 h4 hidx hr hf hcc
  obtain ⟨g', off', cap', hv, hglt, e0, e1⟩ := sl_idx HIX.out.1 hi
  cases hv
  have hil0 : 0 < il.length := by omega
  obtain ⟨g', off', cap', hv, hglt', d0, d1⟩ := sl_idx HIX.out.1 hil0
  cases hv
  have hin0 := hin il[0] (List.getElem_mem hil0)
  have hini := hin il[i] (List.getElem_mem hi)
  have hxi := hx il[i] (List.getElem_mem hi)
  have hx0 := hx il[0] (List.getElem_mem hil0)
  have hsl := HIX.out.2 il[i] (List.getElem_mem hi)
  have hsl0 := HIX.out.2 il[0] (List.getElem_mem hil0)
  have hhd : (il.headD il[i]) = il[0] := by cases il with
    | nil => simp at hil0
    | cons a t => rfl
  have HSK : Hid (skey il row il[i] = rowKey (pickO row il[i].l) ++ (if il[i].unique then [] else rowKey (pickO row il[0].l))) := by
    show _ = _
    unfold skey
    rw [hhd]
  generalize skey il row il[i] = out at *
  clear hhd hx hin
  generalize hxx : il[i] = x at *
  generalize hyy : il[0] = y at *
  clear hxx hyy d1
  obtain ⟨xv, xl, xu⟩ := x
  obtain ⟨yv, yl, yu⟩ := y
  simp only at *
  rw [Nat.zero_mul, Nat.add_zero] at d0
  obtain ⟨px, cx, rfl, _, _⟩ := hsl.form
  generalize hw1 : w.alloc (.cells #[.string nm, .slice pc cl.length cc, .slice (some ⟨g, off, none⟩) il.length ci, .int .i64 lim, .int .i64 prt, .int .i64 by_] 47) = w1 at *
  have hke : rowKey (pickO row xl) = keysB (pickR row xl) := rowKey_pick hini hra
  have hke0 : rowKey (pickO row yl) = keysB (pickR row yl) := rowKey_pick hin0 hra
  rw [hke, hke0] at HSK
  have HY0 := Lib.hid (fun W (hb : Below w1.heap.size w1 W) => hsl0.below hb)
  have HPK := Lib.hid (fun W (hb : Below w1.heap.size w1 W) => refpick_any W B' B v _ row xl (HROW.out.below hb) (hsl.below hb) (List.all_eq_true.1 hini) (by omega))
  have HPK0 := Lib.hid (fun W (hb : Below w1.heap.size w1 W) => refpick_any W B' B v yv row yl (HROW.out.below hb) (hsl0.below hb) (List.all_eq_true.1 hin0) (by omega))
  have HKY := Lib.hid (fun W v B2 (hv : Sl W B2 3 v (pickR row xl).length (rowCells (pickR row xl))) => refkeys_any W B2 v (pickR row xl) hv (pick_right hini hra) (pickR_fit _ HF.out) (by have := pickR_len row xl; omega))
  have HKY0 := Lib.hid (fun W v B2 (hv : Sl W B2 3 v (pickR row yl).length (rowCells (pickR row yl))) => refkeys_any W B2 v (pickR row yl) hv (pick_right hin0 hra) (pickR_fit _ HF.out) (by have := pickR_len row yl; omega))
  have hsum : (bs (keysB (pickR row xl))).size + (bs (keysB (pickR row yl))).size ≤ 9223372036854775807 := by
    rw [← hke, ← hke0, bs_size, bs_size]
    have := rowKey_len (pickO row xl)
    have := rowKey_len (pickO row yl)
    have := pickO_len row xl
    have := pickO_len row yl
    omega
  have HALX : Hid (w.alloc (.cells #[.string nm, .slice pc cl.length cc, .slice (some ⟨g, off, none⟩) il.length ci, .int .i64 lim, .int .i64 prt, .int .i64 by_] 47) = w1) := hw1
  have HE1 := Lib.hid e1
  have HD0 := Lib.hid d0
  clear hsl hsl0 hke hke0 hin0 hini hra e1 d0
  generalize keysB (pickR row xl) = kx at *
  generalize keysB (pickR row yl) = ky at *
  have HB1 := Lib.hid (Below.refl w1.heap.size w1)
  go_enter Tryd.func55, Tryd.ntmps55
  go_wp2_with fail
  clear hw1 x2 e0
  refine (HPK.out _ HB1.out).mono ?_
  rintro e w2 ⟨p1, rfl, hp1, hb2⟩
  have HP1 := Lib.hid hp1
  have HB2 := Lib.hid hb2
  clear hp1 hb2 HPK
  go_wp2_with fail
  refine (HKY.out _ p1 _ HP1.out).mono ?_
  rintro e w3 ⟨rfl, hb3⟩
  have HB3 := Lib.hid (HB2.out.trans (hb3.mono HB2.out.size))
  have x2 := (HBK.out.below HB3.out).cell 2
  simp only [List.getElem?_cons_zero, List.getElem?_cons_succ] at x2
  have e1 : w3.cell? ⟨g, off + i * 2 + 1, none⟩ = some (.bool xu) := (HB3.out.cell hglt).trans HE1.out
  have d0 : w3.cell? ⟨g, off, none⟩ = some yv := (HB3.out.cell hglt').trans HD0.out
  clear hb3 HKY
  cases xu
  · simp only [Bool.false_eq_true, if_false] at HSK
    go_wp2_with fail
    refine (HPK0.out _ HB3.out).mono ?_
    rintro e w4 ⟨p2, rfl, hp2, hb4⟩
    have HB4 := Lib.hid (HB3.out.trans (hb4.mono HB3.out.size))
    have HP2 := Lib.hid hp2
    clear hp2 hb4 HPK0
    go_wp2_with fail
    refine (HKY0.out _ p2 _ HP2.out).mono ?_
    rintro e w5 ⟨rfl, hb5⟩
    have HB5 := Lib.hid (HB4.out.trans (hb5.mono HB4.out.size))
    clear hb5
    go_wp2
    go_ret
    exact ⟨by rw [HSK.out, ← bs_append]; rfl, HALW.out.trans (HB5.out.mono HALW.out.size)⟩
  · simp only [if_true, List.append_nil] at HSK
    go_wp2
    go_ret
    exact ⟨by rw [HSK.out]; rfl, HALW.out.trans (HB3.out.mono HALW.out.size)⟩
end Go.Proofs.YtlgohkdckdnmhaaDoor
/- Numbers as lists of decimal digits, the lowest first. -/
namespace Go.Afx

def ld (u : Nat) : List Nat := if _h : u = 0 then [] else u % 10 :: ld (u / 10)
decreasing_by exact Nat.div_lt_self (by omega) (by omega)
theorem ld_zero : ld 0 = [] := by rw [ld]; simp
theorem ld_pos (u : Nat) (h : 0 < u) : ld u = u % 10 :: ld (u / 10) := by rw [ld, dif_neg (by omega)]
def vd : List Nat → Nat
  | [] => 0
  | x :: t => x + 10 * vd t
def D10 (d : List Nat) : Prop := ∀ x ∈ d, x < 10

theorem vd_ld (u : Nat) : vd (ld u) = u := by
  induction u using Nat.strongRecOn with
  | ind u ih =>
    rcases Nat.eq_zero_or_pos u with h | h
    · subst h; rw [ld_zero]; rfl
    · rw [ld_pos u h, vd, ih (u / 10) (Nat.div_lt_self h (by omega))]; omega
theorem ld_D10 (u : Nat) : D10 (ld u) := by
  induction u using Nat.strongRecOn with
  | ind u ih =>
    rcases Nat.eq_zero_or_pos u with h | h
    · subst h; rw [ld_zero]; intro x hx; simp at hx
    · rw [ld_pos u h]
      intro x hx
      rcases List.mem_cons.1 hx with rfl | hx
      · omega
      · exact ih (u / 10) (Nat.div_lt_self h (by omega)) x hx
theorem vd_append (a b : List Nat) : vd (a ++ b) = vd a + 10 ^ a.length * vd b := by
  induction a with
  | nil => simp [vd]
  | cons x a ih =>
    rw [List.cons_append, vd, ih, vd, List.length_cons, Nat.pow_succ, Nat.mul_add, ← Nat.mul_assoc, Nat.mul_comm 10 (10 ^ a.length)]
    omega
theorem vd_lt (d : List Nat) (h : D10 d) : vd d < 10 ^ d.length := by
  induction d with
  | nil => simp [vd]
  | cons x d ih =>
    have h1 := h x (by simp)
    have h2 := ih (fun y hy => h y (by simp [hy]))
    rw [vd, List.length_cons, Nat.pow_succ]
    omega
theorem vd_next (d : List Nat) (k : Nat) : vd (d.take (k + 1)) = vd (d.take k) + 10 ^ k * d.getD k 0 := by
  by_cases h : k < d.length
  · rw [← List.take_append_getElem h, vd_append, List.length_take, Nat.min_eq_left (by omega)]
    simp [vd, List.getD, h]
  · rw [List.take_of_length_le (by omega), List.take_of_length_le (by omega)]
    simp [List.getD, List.getElem?_eq_none (show d.length ≤ k by omega)]
theorem D10.take {d : List Nat} (h : D10 d) (k : Nat) : D10 (d.take k) := fun x hx => h x (List.mem_of_mem_take hx)
theorem D10.drop {d : List Nat} (h : D10 d) (k : Nat) : D10 (d.drop k) := fun x hx => h x (List.mem_of_mem_drop hx)
theorem D10.getD {d : List Nat} (h : D10 d) (k : Nat) : d.getD k 0 < 10 := by
  by_cases hk : k < d.length
  · have : d.getD k 0 = d[k] := by simp [List.getD, hk]
    rw [this]; exact h _ (List.getElem_mem hk)
  · simp [List.getD, List.getElem?_eq_none (show d.length ≤ k by omega)]
theorem D10.append {a b : List Nat} (ha : D10 a) (hb : D10 b) : D10 (a ++ b) := fun x hx => by
  rcases List.mem_append.1 hx with h | h
  · exact ha x h
  · exact hb x h
theorem vd_pos_of_last (d : List Nat) (x : Nat) (hx : x ≠ 0) : 0 < vd (d ++ [x]) := by
  rw [vd_append]
  have : 0 < 10 ^ d.length * vd [x] := Nat.mul_pos (Nat.pow_pos (by omega)) (by simp [vd]; omega)
  omega
theorem canon (d : List Nat) (x : Nat) (h : D10 (d ++ [x])) (hx : x ≠ 0) : d ++ [x] = ld (vd (d ++ [x])) := by
  induction d with
  | nil =>
    have h1 := h x (by simp)
    show [x] = ld (x + 10 * 0)
    rw [Nat.mul_zero, Nat.add_zero, ld_pos x (by omega), show x / 10 = 0 by omega, ld_zero, show x % 10 = x by omega]
  | cons y d ih =>
    have h1 := h y (by simp)
    have h2 := ih (fun z hz => h z (by rw [List.cons_append]; exact List.mem_cons_of_mem _ hz))
    have h3 := vd_pos_of_last d x hx
    rw [List.cons_append, vd, ld_pos _ (by omega)]
    have e1 : (y + 10 * vd (d ++ [x])) % 10 = y := by omega
    have e2 : (y + 10 * vd (d ++ [x])) / 10 = vd (d ++ [x]) := by omega
    rw [e1, e2, ← h2]
theorem ld_lt (u : Nat) : u < 10 ^ (ld u).length := by
  have := vd_lt (ld u) (ld_D10 u)
  rwa [vd_ld] at this
theorem ld_ge (u : Nat) (h : 0 < u) : 10 ^ ((ld u).length - 1) ≤ u := by
  induction u using Nat.strongRecOn with
  | ind u ih =>
    rw [ld_pos u h, List.length_cons, Nat.add_sub_cancel]
    rcases Nat.eq_zero_or_pos (u / 10) with h2 | h2
    · rw [h2, ld_zero]; simp; omega
    · have h3 := ih (u / 10) (Nat.div_lt_self h (by omega)) h2
      have h4 : 0 < (ld (u / 10)).length := by rw [ld_pos _ h2]; simp
      obtain ⟨k, hk⟩ : ∃ k, (ld (u / 10)).length = k + 1 := ⟨_, (Nat.succ_pred_eq_of_pos h4).symm⟩
      rw [hk, Nat.add_sub_cancel] at h3
      rw [hk, Nat.pow_succ]
      omega
theorem ld_len_le (u k : Nat) (h : u < 10 ^ k) : (ld u).length ≤ k := by
  rcases Nat.eq_zero_or_pos u with h0 | h0
  · subst h0; rw [ld_zero]; simp
  · have h1 := ld_ge u h0
    have h2 : 10 ^ ((ld u).length - 1) < 10 ^ k := Nat.lt_of_le_of_lt h1 h
    have h3 := (Nat.pow_lt_pow_iff_right (by omega : 1 < 10)).1 h2
    omega
theorem ld_len_mono {x y : Nat} (h : x ≤ y) : (ld x).length ≤ (ld y).length := ld_len_le x _ (Nat.lt_of_le_of_lt h (ld_lt y))
theorem ld_len_lt {x y : Nat} (h : (ld x).length < (ld y).length) : x < y := by
  rcases Nat.lt_or_ge x y with h2 | h2
  · exact h2
  · have := ld_len_mono h2; omega
theorem ld_nil_iff (u : Nat) : (ld u).length = 0 ↔ u = 0 := by
  constructor
  · intro h
    rcases Nat.eq_zero_or_pos u with h0 | h0
    · exact h0
    · rw [ld_pos u h0] at h; simp at h
  · rintro rfl; rw [ld_zero]; rfl
theorem vd_split (d : List Nat) (i : Nat) : vd d = vd (d.take i) + 10 ^ i * vd (d.drop i) := by
  by_cases h : i ≤ d.length
  · conv => lhs; rw [← List.take_append_drop i d]
    rw [vd_append, List.length_take, Nat.min_eq_left h]
  · rw [List.take_of_length_le (by omega), List.drop_of_length_le (by omega)]
    simp [vd]
theorem vd_drop (d : List Nat) (i : Nat) (h : i < d.length) : vd (d.drop i) = d[i] + 10 * vd (d.drop (i + 1)) := by
  rw [List.drop_eq_getElem_cons h, vd]
/-- Two lists of digits as long as each other, alike above a digit, not there. -/
theorem vd_less (a b : List Nat) (ha : D10 a) (hb : D10 b) (i : Nat) (h1 : i < a.length) (h2 : i < b.length) (hd : a.drop (i + 1) = b.drop (i + 1)) (hne : a[i] ≠ b[i]) : (a[i] < b[i]) ↔ vd a < vd b := by
  rw [vd_split a i, vd_split b i, vd_drop a i h1, vd_drop b i h2, hd]
  have h3 : vd (a.take i) < 10 ^ i := by
    have := vd_lt _ (ha.take i)
    rwa [List.length_take, Nat.min_eq_left (by omega)] at this
  have h4 : vd (b.take i) < 10 ^ i := by
    have := vd_lt _ (hb.take i)
    rwa [List.length_take, Nat.min_eq_left (by omega)] at this
  generalize vd (a.take i) = x at *
  generalize vd (b.take i) = y at *
  generalize vd (b.drop (i + 1)) = z at *
  generalize a[i] = p at *
  generalize b[i] = q at *
  generalize 10 ^ i = t at *
  constructor
  · intro h
    have h5 : t * (p + 10 * z) + t ≤ t * (q + 10 * z) := by
      rw [← Nat.mul_succ]; exact Nat.mul_le_mul_left t (by omega)
    omega
  · intro h
    rcases Nat.lt_or_ge p q with h6 | h6
    · exact h6
    · have h5 : t * (q + 10 * z) + t ≤ t * (p + 10 * z) := by
        rw [← Nat.mul_succ]; exact Nat.mul_le_mul_left t (by omega)
      omega
/-- More at a place. -/
theorem vd_set (d : List Nat) (j x : Nat) (h : j < d.length) : vd (d.set j (d[j] + x)) = vd d + 10 ^ j * x := by
  induction d generalizing j with
  | nil => simp at h
  | cons y d ih =>
    cases j with
    | zero => simp [vd]; omega
    | succ j =>
      rw [List.set_cons_succ, vd, vd]
      have h2 : j < d.length := by simpa using h
      have h3 : (y :: d)[j + 1] = d[j] := rfl
      rw [h3, ih j h2, Nat.pow_succ, Nat.mul_add, Nat.mul_comm (10 ^ j) 10, Nat.mul_assoc]
      omega
theorem vd_set_sub (d : List Nat) (j y : Nat) (h : j < d.length) (hy : y ≤ d[j]) : vd (d.set j y) + 10 ^ j * (d[j] - y) = vd d := by
  have e := vd_set (d.set j y) j (d[j] - y) (by simpa using h)
  rw [List.set_set] at e
  have h2 : (d.set j y)[j]'(by simpa using h) = y := by simp
  rw [h2, show y + (d[j] - y) = d[j] by omega, List.set_getElem_self] at e
  exact e.symm
theorem vd_zeros (n : Nat) : vd (List.replicate n 0) = 0 := by
  induction n with
  | zero => rfl
  | succ n ih => rw [List.replicate_succ, vd, ih]
end Go.Afx
/- The document's numbers (lists of digits): trim, sign, Of, at, less. -/
namespace Go.Proofs.YtlgohkdckdnmhaaDoor
open Go.RowKit Go.Afx

def nats (d : List Nat) : List Value := ints (d.map fun n : Nat => (n : Int))
def slLen : Value → Nat
  | .slice _ n _ => n
  | _ => 0
theorem nats_get (d : List Nat) (k : Nat) (h : k < d.length) : (nats d)[k]? = some (.int .i64 (d[k] : Int)) := by simp [nats, ints, h]
theorem nats_length (d : List Nat) : (nats d).length = d.length := by simp [nats, ints]
theorem nats_append (a b : List Nat) : nats (a ++ b) = nats a ++ nats b := by simp [nats, ints]
theorem nats_take (d : List Nat) (k : Nat) : (nats d).take k = nats (d.take k) := by simp [nats, ints, List.map_take]
theorem nats_set (d : List Nat) (k x : Nat) : (nats d).set k (.int .i64 (x : Int)) = nats (d.set k x) := by simp [nats, ints, List.map_set]

/-- The number z, as the document keeps it. -/
def IsNum (w : World) (B : Nat → Prop) (v : Value) (z : Int) : Prop :=
  ∃ dv, v = .agg #[.bool (decide (z < 0)), dv] ∧ Sl w B 1 dv (ld z.natAbs).length (nats (ld z.natAbs))
theorem IsNum.below {w w' : World} {B : Nat → Prop} {v : Value} {z : Int} (h : IsNum w B v z) (hb : Below w.heap.size w w') : IsNum w' B v z := by
  obtain ⟨dv, rfl, h2⟩ := h
  exact ⟨dv, rfl, h2.below hb⟩

theorem sl_nat {w : World} {B : Nat → Prop} {v : Value} {d : List Nat} (h : Sl w B 1 v d.length (nats d)) {k : Nat} (hk : k < d.length) :
    ∃ g off cap, v = .slice (some ⟨g, off, none⟩) d.length cap ∧ g < w.heap.size ∧ w.cell? ⟨g, off + k, none⟩ = some (.int .i64 (d[k] : Int)) := by
  obtain ⟨g, off, cap, hv, _, _, hgb, hglt, hc⟩ := h.place (by omega)
  exact ⟨g, off, cap, hv, hglt, by rw [hc k (by rw [nats_length]; exact hk), nats_get d k hk]⟩

set_option maxRecDepth 100000 in
theorem trim_any (w : World) (B : Nat → Prop) (v : Value) (d : List Nat) (hd : D10 d) (hl : Sl w B 1 v d.length (nats d)) (_ : d.length ≤ 1000000) :
    Calls Tryd.prog 124 #[v] w fun e w' => ∃ v', e = .returned v' ∧ Sl w B 1 v' (ld (vd d)).length (nats (ld (vd d))) ∧ w = w' := by
  obtain ⟨p, cap, rfl, hc1, hc2⟩ := hl.form
  have HL := Lib.hid hl
  have HD := Lib.hid hd
  clear hl hd
  go_enter Tryd.func124, Tryd.ntmps124
  go_wp2
  go_loopw [0] (fun x wr => ∃ k : Nat, x = .slice p k cap ∧ k ≤ d.length ∧ vd (d.take k) = vd d ∧ w = wr) (fun x _ => slLen x)
  case atStart => exact ⟨d.length, rfl, Nat.le_refl _, by rw [List.take_length], rfl⟩
  case round =>
    obtain ⟨k, rfl, hk, hv, rfl⟩ := hrel
    have HV := Lib.hid hv
    clear hv
    rcases Nat.eq_zero_or_pos k with rfl | hpos
    · go_wp2
      go_ret
      refine ⟨_, rfl, ?_, rfl⟩
      have e : vd d = 0 := by rw [← HV.out]; rfl
      rw [e, ld_zero]
      have := HL.out.take (Nat.zero_le d.length)
      simpa [nats, ints] using this
    · obtain ⟨j, rfl⟩ : ∃ j, k = j + 1 := ⟨k - 1, by omega⟩
      have hj : j < d.length := by omega
      obtain ⟨g, off, cap', hvv, hglt, hck⟩ := sl_nat HL.out hj
      cases hvv
      have HN := Lib.hid (vd_next d j)
      have hg : d.getD j 0 = d[j] := by simp [List.getD, hj]
      by_cases h0 : d[j] = 0
      · rw [h0] at hck
        clear hg
        go_wp2
        refine ⟨⟨j, rfl, by omega, ?_, trivial⟩, by show j < j + 1; omega⟩
        have := HN.out
        rw [HV.out] at this
        rw [this]
        simp [List.getD, hj, h0]
      · have h1 : ((d[j] : Int) == 0) = false := by rw [beq_eq_false_iff_ne]; omega
        have hcn : Hid (d.take (j + 1) = ld (vd d)) := by
          show _ = _
          rw [← HV.out, ← List.take_append_getElem hj]
          refine canon _ _ ?_ h0
          rw [List.take_append_getElem hj]; exact HD.out.take _
        generalize (d[j] : Int) = x at *
        clear hg h0
        go_wp2
        go_ret
        refine ⟨_, rfl, ?_, rfl⟩
        have := HL.out.take (m := j + 1) (by omega)
        rw [Nat.mul_one, nats_take] at this
        rw [← hcn.out, List.length_take, Nat.min_eq_left (by omega)]
        exact this

theorem Sl.lift {w w' : World} {B : Nat → Prop} {sz : Nat} {v : Value} {n : Nat} {cs : List Value} (h : Sl w B sz v n cs) (hb : Below w.heap.size w w') : Sl w' (fun k => k < w.heap.size ∧ B k) sz v n cs :=
  h.mono hb.size (fun k _ hk => hb.block k hk) (fun _ h1 h2 => ⟨h2, h1⟩)
theorem Sl.back {w w' : World} {B : Nat → Prop} {sz : Nat} {v : Value} {n : Nat} {cs : List Value} (h : Sl w' (fun k => k < w.heap.size ∧ B k) sz v n cs) (hb : Below w.heap.size w w') : Sl w B sz v n cs := by
  refine ⟨h.1, h.2.1, ?_⟩
  rcases h.2.2 with h2 | ⟨b, o, cap, e1, e2, e3, e4, _, e6⟩
  · exact .inl h2
  · exact .inr ⟨b, o, cap, e1, e2, e3, e4.2, e4.1, fun j hj => by rw [← e6 j hj]; exact (hb.cell (p := ⟨b, o + j, none⟩) e4.1).symm⟩

theorem sgn_law (neg : Bool) (u : Nat) : (neg && decide (0 < (ld u).length)) = decide (sgn neg (u : Int) < 0) ∧ (sgn neg (u : Int)).natAbs = u := by
  have h := ld_nil_iff u
  cases neg
  · refine ⟨?_, by simp [sgn]⟩
    rw [Bool.false_and]
    symm
    apply decide_eq_false
    unfold sgn
    simp
  · refine ⟨?_, by simp [sgn]⟩
    rw [Bool.true_and]
    apply decide_eq_decide.2
    unfold sgn
    simp
    omega

theorem sign_any (w : World) (B : Nat → Prop) (neg : Bool) (v : Value) (d : List Nat) (hd : D10 d) (hl : Sl w B 1 v d.length (nats d)) (hlen : d.length ≤ 1000000) :
    Calls Tryd.prog 104 #[.bool neg, v] w fun e w' => ∃ v', e = .returned v' ∧ IsNum w' B v' (sgn neg (vd d)) ∧ Below w.heap.size w w' := by
  have HT : Hid (∀ w' : World, Below w.heap.size w w' → Calls Tryd.prog 124 #[v] w' fun e w2 => ∃ v', e = .returned v' ∧ Sl w B 1 v' (ld (vd d)).length (nats (ld (vd d))) ∧ w' = w2) :=
    fun w' h => (trim_any w' _ v d hd (Sl.lift hl h) hlen).mono fun e w2 ⟨v', h1, h2, h3⟩ => ⟨v', h1, Sl.back h2 h, h3⟩
  obtain ⟨e1, e2⟩ := sgn_law neg (vd d)
  obtain ⟨p, cap, rfl, hc1, hc2⟩ := hl.form
  have E1 := Lib.hid e1
  have E2 := Lib.hid e2
  have hle : (ld (vd d)).length ≤ d.length := ld_len_le _ _ (vd_lt d hd)
  clear hd hl e1 e2
  generalize sgn neg (vd d) = z at *
  generalize hq : ld (vd d) = q at *
  have HQ := Lib.hid hq
  clear hq
  cases neg
  · have E3 : Hid (decide (z < 0) = false) := by rw [← E1.out]; exact Lib.hid (Bool.false_and _)
    go_enter Tryd.func104, Tryd.ntmps104
    go_wp2_with (go_at_call 124; refine (HT.out _ ((Below.refl _ _).alloc (Nat.le_refl _) _)).mono ?_; rintro e w2 ⟨v2, rfl, h2, rfl⟩; obtain ⟨p2, cap2, rfl, hd1, hd2⟩ := h2.form; have H2 := Lib.hid h2; clear h2)
    refine bodyPost_ret (v := .agg #[.bool false, .slice p2 q.length cap2]) (by simp [results, Tryd.results104, go_sem]) rfl ⟨_, rfl, ⟨_, by rw [E3.out], ?_⟩, ?_⟩
    · rw [E2.out, HQ.out]
      refine H2.out.below ?_
      repeat (with_reducible first | exact Below.refl _ _ | apply Below.drew | (refine Below.alloc ?_ (by first | omega | (simp; omega) | simp) _) | (refine Below.setCell ?_ (by first | omega | (simp; omega) | simp) _))
    · skip
      repeat (with_reducible first | exact Below.refl _ _ | apply Below.drew | (refine Below.alloc ?_ (by first | omega | (simp; omega) | simp) _) | (refine Below.setCell ?_ (by first | omega | (simp; omega) | simp) _))
  · have E3 : Hid (decide (z < 0) = decide (0 < q.length)) := by rw [← E1.out]; exact Lib.hid (Bool.true_and _)
    go_enter Tryd.func104, Tryd.ntmps104
    go_wp2_with (go_at_call 124; refine (HT.out _ ((Below.refl _ _).alloc (Nat.le_refl _) _)).mono ?_; rintro e w2 ⟨v2, rfl, h2, rfl⟩; obtain ⟨p2, cap2, rfl, hd1, hd2⟩ := h2.form; have H2 := Lib.hid h2; clear h2)
    refine bodyPost_ret (v := .agg #[.bool (decide (0 < q.length)), .slice p2 q.length cap2]) (by simp [results, Tryd.results104, go_sem]) rfl ⟨_, rfl, ⟨_, by rw [E3.out], ?_⟩, ?_⟩
    · rw [E2.out, HQ.out]
      refine H2.out.below ?_
      repeat (with_reducible first | exact Below.refl _ _ | apply Below.drew | (refine Below.alloc ?_ (by first | omega | (simp; omega) | simp) _) | (refine Below.setCell ?_ (by first | omega | (simp; omega) | simp) _))
    · skip
      repeat (with_reducible first | exact Below.refl _ _ | apply Below.drew | (refine Below.alloc ?_ (by first | omega | (simp; omega) | simp) _) | (refine Below.setCell ?_ (by first | omega | (simp; omega) | simp) _))
end Go.Proofs.YtlgohkdckdnmhaaDoor
/- The document's numbers: Of, at, less. -/
namespace Go.Proofs.YtlgohkdckdnmhaaDoor
open Go.RowKit Go.Afx

theorem own_form1 {w : World} {e : TypeId} {sz : Nat} {v : Value} {n : Nat} {cs : List Value} (h : Own w e sz v n cs) : ∃ p cap, v = .slice p n cap ∧ n ≤ cap ∧ cap ≤ 9223372036854775807 :=
  (h.sl (B := fun _ => True) fun _ _ => trivial).form

/-- A digit behind those of one's own: what append leaves. -/
theorem push_post {w w2 : World} {dv v1 : Value} {d : List Nat} {x N : Nat} (hN : N ≤ w.heap.size) (hf : ∀ k, dv.ownBlock = some k → N ≤ k)
    (g1 : Own w2 3 1 v1 (d.length + 1) (nats d ++ [.int .i64 (x : Int)])) (g2 : Only (fun k => dv.ownBlock = some k) (w.alloc (.cells #[.int .i64 (x : Int)] 3)) w2)
    (g3 : v1.ownBlock = dv.ownBlock ∨ v1.ownBlock = some (w.alloc (.cells #[.int .i64 (x : Int)] 3)).heap.size) :
    Own w2 3 1 v1 (d ++ [x]).length (nats (d ++ [x])) ∧ Only (fun k => dv.ownBlock = some k) w w2 ∧ (∀ k, v1.ownBlock = some k → N ≤ k) ∧ Below N w w2 := by
  have ho : Only (fun k => dv.ownBlock = some k) w w2 := ((Only.refl _ w).alloc _).trans g2 (fun _ _ h => h)
  refine ⟨?_, ho, fun k hk => ?_, ho.below hN hf⟩
  · rw [nats_append, List.length_append]; exact g1
  · rcases g3 with h | h
    · exact hf k (by rw [← h]; exact hk)
    · rw [h] at hk
      have : (w.alloc (.cells #[.int .i64 (x : Int)] 3)).heap.size = k := by simpa using hk
      simp at this
      omega
theorem one_int (w : World) (x : Nat) : Sl (w.alloc (.cells #[.int .i64 (x : Int)] 3)) (fun _ => True) 1 (.slice (some ⟨w.heap.size, 0, none⟩) 1 1) 1 [.int .i64 (x : Int)] :=
  (Own.made w 3 1 [.int .i64 (x : Int)] [] 1 1 rfl (Ones.nil.cons rfl) (Nat.le_refl _) (by simp [maxLen]) (by simp)).sl (fun _ _ => trivial)

set_option maxRecDepth 100000 in
theorem of_num (w : World) (n : Int) (hn : fits n) :
    Calls Tryd.prog 75 #[.int .i64 n] w fun e w' => ∃ v', e = .returned v' ∧ IsNum w' (fun k => w.heap.size < k) v' n ∧ Below w.heap.size w w' := by
  have e1 : (if n < 0 then IntKind.u64.wrap (-IntKind.u64.wrap n) else IntKind.u64.wrap n) = (n.natAbs : Int) := by
    unfold fits at hn
    split
    · rw [IntKind.wrap_u64, IntKind.wrap_u64]; omega
    · rw [IntKind.wrap_u64]; omega
  have hu : n.natAbs < 10 ^ 19 := by unfold fits at hn; omega
  have hz : sgn (decide (n < 0)) (n.natAbs : Int) = n := by
    unfold sgn
    by_cases h : n < 0
    · rw [decide_eq_true h, if_pos rfl]; omega
    · rw [decide_eq_false h, if_neg (by decide)]; omega
  have HU := Lib.hid hu
  have HZ := Lib.hid hz
  clear hn hu hz
  generalize n.natAbs = u at *
  have HB0 : Hid (Blk (w.alloc (.cells #[.bool false, .slice none 0 0] 103)) w.heap.size 103 [.bool false, .slice none 0 0]) := Blk.new w _ _
  by_cases hneg : n < 0
  · rw [if_pos hneg] at e1
    go_enter Tryd.func75, Tryd.ntmps75
    go_wp2
    generalize hw0 : w.alloc (.cells #[.bool false, .slice none 0 0] 103) = w0 at *
    have HL0 : Hid (Below w.heap.size w w0) := by rw [← hw0]; exact (Below.refl _ _).alloc (Nat.le_refl _) _
    have HS0 : Hid (w.heap.size + 1 ≤ w0.heap.size) := by rw [← hw0]; show _ ≤ _; simp
    clear hw0 e1
    go_loopw [3, 4] (fun a x wr => ∃ (y : Nat) (d : List Nat), a = .int .u64 (y : Int) ∧ d ++ ld y = ld u ∧ Own wr 3 1 x d.length (nats d) ∧ (∀ k, x.ownBlock = some k → w.heap.size + 1 ≤ k) ∧ Below (w.heap.size + 1) w0 wr) (fun a _ _ => (intOf a).toNat)
    case atStart => exact ⟨u, [], rfl, rfl, Own.nil _ _ _, by simp [Value.ownBlock], Below.refl _ _⟩
    case round =>
      obtain ⟨y, d, rfl, hd, how, hfr, hb⟩ := hrel
      obtain ⟨p4, c4, rfl, hc41, hc42⟩ := own_form1 how
      have hdl : d.length ≤ 19 := by
        have h1 := ld_len_le u 19 HU.out
        rw [← hd, List.length_append] at h1
        omega
      have hy64 : y < 18446744073709551616 := by
        have h1 : y < 10 ^ 19 := by
          have h2 : vd (d ++ ld y) = u := by rw [hd, vd_ld]
          rw [vd_append, vd_ld] at h2
          have h3 : y ≤ 10 ^ d.length * y := Nat.le_mul_of_pos_left _ (Nat.pow_pos (by omega))
          have h4 := HU.out
          omega
        omega
      have HD := Lib.hid hd
      have HW := Lib.hid how
      have HF := Lib.hid hfr
      have HB := Lib.hid hb
      rcases Nat.eq_zero_or_pos y with h0 | hpos
      · subst h0
        have hd2 : Hid (d = ld u) := by show _ = _; rw [← HD.out, ld_zero, List.append_nil]
        have HSG : Hid (Calls Tryd.prog 104 #[.bool true, .slice p4 d.length c4] wr fun e w' => ∃ v', e = .returned v' ∧ IsNum w' (fun k => w.heap.size < k) v' n ∧ Below wr.heap.size wr w') := by
          have h1 := sign_any wr (fun k => w.heap.size < k) true (.slice p4 d.length c4) d (by rw [hd2.out]; exact ld_D10 u) (how.sl fun k hk => hfr k hk) (by omega)
          have h3 : vd d = u := by rw [hd2.out, vd_ld]
          rw [h3] at h1
          have h2 : sgn true (u : Int) = n := by rw [← HZ.out]; congr 1; exact (decide_eq_true hneg).symm
          rw [h2] at h1
          exact h1
        have HRB : Hid (Blk wr w.heap.size 103 [.bool false, .slice none 0 0]) := HB0.out.only (S := fun k => w.heap.size + 1 ≤ k) (Only.of_below hb (fun i _ h => by omega)) (by omega)
        clear hd how hfr hb HD HW HF hy64
        go_wp2_with (first
          | (go_at_call 104; refine HSG.out.mono ?_; rintro e w2 ⟨v2, rfl, h2, hb2⟩; obtain ⟨dv2, rfl, h3⟩ := h2; obtain ⟨p3, cap3, rfl, hd31, hd32⟩ := h3.form; have HRB2 := Lib.hid (HRB.out.below hb2);
             have hc0 : w2.cell? ⟨w.heap.size, 0, none⟩ = some (.bool false) := HRB2.out.cell 0; have hc1 : w2.cell? ⟨w.heap.size, 1, none⟩ = some (.slice none 0 0) := HRB2.out.cell 1; have hf : ∀ i, w2.frozen? ⟨w.heap.size, i, none⟩ = false := HRB2.out.frozen; have H3 := Lib.hid h3; clear h3))
        have HR3 := (HRB2.out.set 0 (.bool true)).set 1 (.slice p3 (ld n.natAbs).length cap3)
        have c0 := HR3.cell 0
        have c1 := HR3.cell 1
        refine bodyPost_ret (v := .agg #[.bool true, .slice p3 (ld n.natAbs).length cap3]) (by simp [results, Tryd.results75, go_sem, c0, c1]) rfl ⟨_, rfl, ⟨_, by rw [decide_eq_true hneg], ?_⟩, ?_⟩
        · exact H3.out.only (((Only.refl (fun k => k = w.heap.size) w2).setCell (p := ⟨w.heap.size, 0, none⟩) (fun _ => rfl) _).setCell (p := ⟨w.heap.size, 1, none⟩) (fun _ => rfl) _) (fun k h1 h2 => by omega)
        · have h1 := HL0.out.trans (HB.out.mono (Nat.le_succ _))
          have h2 := h1.trans (hb2.mono h1.size)
          exact (h2.setCell (Nat.le_refl _) _).setCell (Nat.le_refl _) _
      · have hp1 : (0 : Int) < y := by omega
        have hwr : IntKind.u64.wrap ((y : Int) / 10) = (y : Int) / 10 := by rw [IntKind.wrap_u64]; omega
        have ho1 := how.alloc (.cells #[.int .i64 ((y : Int) % 10)] 3)
        have hs1 := one_int wr (y % 10)
        have e9 : ((y % 10 : Nat) : Int) = (y : Int) % 10 := by omega
        rw [e9] at hs1
        clear hd how hfr hb e9
        go_wp2_with (first
          | (at_builtin; refine wpList_app rfl _ _ rfl elemInt (by rfl) ho1 (by rfl) hs1 (by unfold maxLen; omega) (by omega) ?_; intro v1 w2 g1 g2 g3 g4 g5; clear hs1 ho1;
             have G1 := Lib.hid g1; have G2 := Lib.hid g2; have G3 := Lib.hid g3; clear g1 g2 g3 g4 g5))
        have hsz0 : w.heap.size + 1 ≤ wr.heap.size := Nat.le_trans HS0.out HB.out.size
        have e9 : ((y % 10 : Nat) : Int) = (y : Int) % 10 := by omega
        obtain ⟨k1, k2, k3, k4⟩ := push_post (x := y % 10) hsz0 HF.out (by rw [e9]; exact G1.out) (by rw [e9]; exact G2.out) (by rw [e9]; exact G3.out)
        refine ⟨⟨y / 10, d ++ [y % 10], by congr 1, ?_, k1, k3, HB.out.trans k4⟩, ?_⟩
        · rw [List.append_assoc, ← HD.out, ld_pos y hpos]; rfl
        · show ((y : Int) / 10).toNat < (y : Int).toNat
          omega
  · rw [if_neg hneg] at e1
    have hneg2 : 0 ≤ n := by omega
    have hdn : decide (n < 0) = false := decide_eq_false hneg
    go_enter Tryd.func75, Tryd.ntmps75
    go_wp2
    generalize hw0 : w.alloc (.cells #[.bool false, .slice none 0 0] 103) = w0 at *
    have HL0 : Hid (Below w.heap.size w w0) := by rw [← hw0]; exact (Below.refl _ _).alloc (Nat.le_refl _) _
    have HS0 : Hid (w.heap.size + 1 ≤ w0.heap.size) := by rw [← hw0]; show _ ≤ _; simp
    clear hw0 e1
    go_loopw [3, 4] (fun a x wr => ∃ (y : Nat) (d : List Nat), a = .int .u64 (y : Int) ∧ d ++ ld y = ld u ∧ Own wr 3 1 x d.length (nats d) ∧ (∀ k, x.ownBlock = some k → w.heap.size + 1 ≤ k) ∧ Below (w.heap.size + 1) w0 wr) (fun a _ _ => (intOf a).toNat)
    case atStart => exact ⟨u, [], rfl, rfl, Own.nil _ _ _, by simp [Value.ownBlock], Below.refl _ _⟩
    case round =>
      obtain ⟨y, d, rfl, hd, how, hfr, hb⟩ := hrel
      obtain ⟨p4, c4, rfl, hc41, hc42⟩ := own_form1 how
      have hdl : d.length ≤ 19 := by
        have h1 := ld_len_le u 19 HU.out
        rw [← hd, List.length_append] at h1
        omega
      have hy64 : y < 18446744073709551616 := by
        have h1 : y < 10 ^ 19 := by
          have h2 : vd (d ++ ld y) = u := by rw [hd, vd_ld]
          rw [vd_append, vd_ld] at h2
          have h3 : y ≤ 10 ^ d.length * y := Nat.le_mul_of_pos_left _ (Nat.pow_pos (by omega))
          have h4 := HU.out
          omega
        omega
      have HD := Lib.hid hd
      have HW := Lib.hid how
      have HF := Lib.hid hfr
      have HB := Lib.hid hb
      rcases Nat.eq_zero_or_pos y with h0 | hpos
      · subst h0
        have hd2 : Hid (d = ld u) := by show _ = _; rw [← HD.out, ld_zero, List.append_nil]
        have HSG : Hid (Calls Tryd.prog 104 #[.bool false, .slice p4 d.length c4] wr fun e w' => ∃ v', e = .returned v' ∧ IsNum w' (fun k => w.heap.size < k) v' n ∧ Below wr.heap.size wr w') := by
          have h1 := sign_any wr (fun k => w.heap.size < k) false (.slice p4 d.length c4) d (by rw [hd2.out]; exact ld_D10 u) (how.sl fun k hk => hfr k hk) (by omega)
          have h3 : vd d = u := by rw [hd2.out, vd_ld]
          rw [h3] at h1
          have h2 : sgn false (u : Int) = n := by rw [← HZ.out]; congr 1; exact (decide_eq_false (by omega)).symm
          rw [h2] at h1
          exact h1
        have HRB : Hid (Blk wr w.heap.size 103 [.bool false, .slice none 0 0]) := HB0.out.only (S := fun k => w.heap.size + 1 ≤ k) (Only.of_below hb (fun i _ h => by omega)) (by omega)
        clear hd how hfr hb HD HW HF hy64
        go_wp2_with (first
          | (go_at_call 104; refine HSG.out.mono ?_; rintro e w2 ⟨v2, rfl, h2, hb2⟩; obtain ⟨dv2, rfl, h3⟩ := h2; obtain ⟨p3, cap3, rfl, hd31, hd32⟩ := h3.form; have HRB2 := Lib.hid (HRB.out.below hb2);
             have hc0 : w2.cell? ⟨w.heap.size, 0, none⟩ = some (.bool false) := HRB2.out.cell 0; have hc1 : w2.cell? ⟨w.heap.size, 1, none⟩ = some (.slice none 0 0) := HRB2.out.cell 1; have hf : ∀ i, w2.frozen? ⟨w.heap.size, i, none⟩ = false := HRB2.out.frozen; have H3 := Lib.hid h3; clear h3))
        have HR3 := (HRB2.out.set 0 (.bool false)).set 1 (.slice p3 (ld n.natAbs).length cap3)
        have c0 := HR3.cell 0
        have c1 := HR3.cell 1
        refine bodyPost_ret (v := .agg #[.bool false, .slice p3 (ld n.natAbs).length cap3]) (by simp [results, Tryd.results75, go_sem, c0, c1]) rfl ⟨_, rfl, ⟨_, by rw [decide_eq_false (show ¬ n < 0 by omega)], ?_⟩, ?_⟩
        · exact H3.out.only (((Only.refl (fun k => k = w.heap.size) w2).setCell (p := ⟨w.heap.size, 0, none⟩) (fun _ => rfl) _).setCell (p := ⟨w.heap.size, 1, none⟩) (fun _ => rfl) _) (fun k h1 h2 => by omega)
        · have h1 := HL0.out.trans (HB.out.mono (Nat.le_succ _))
          have h2 := h1.trans (hb2.mono h1.size)
          exact (h2.setCell (Nat.le_refl _) _).setCell (Nat.le_refl _) _
      · have hp1 : (0 : Int) < y := by omega
        have hwr : IntKind.u64.wrap ((y : Int) / 10) = (y : Int) / 10 := by rw [IntKind.wrap_u64]; omega
        have ho1 := how.alloc (.cells #[.int .i64 ((y : Int) % 10)] 3)
        have hs1 := one_int wr (y % 10)
        have e9 : ((y % 10 : Nat) : Int) = (y : Int) % 10 := by omega
        rw [e9] at hs1
        clear hd how hfr hb e9
        go_wp2_with (first
          | (at_builtin; refine wpList_app rfl _ _ rfl elemInt (by rfl) ho1 (by rfl) hs1 (by unfold maxLen; omega) (by omega) ?_; intro v1 w2 g1 g2 g3 g4 g5; clear hs1 ho1;
             have G1 := Lib.hid g1; have G2 := Lib.hid g2; have G3 := Lib.hid g3; clear g1 g2 g3 g4 g5))
        have hsz0 : w.heap.size + 1 ≤ wr.heap.size := Nat.le_trans HS0.out HB.out.size
        have e9 : ((y % 10 : Nat) : Int) = (y : Int) % 10 := by omega
        obtain ⟨k1, k2, k3, k4⟩ := push_post (x := y % 10) hsz0 HF.out (by rw [e9]; exact G1.out) (by rw [e9]; exact G2.out) (by rw [e9]; exact G3.out)
        refine ⟨⟨y / 10, d ++ [y % 10], by congr 1, ?_, k1, k3, HB.out.trans k4⟩, ?_⟩
        · rw [List.append_assoc, ← HD.out, ld_pos y hpos]; rfl
        · show ((y : Int) / 10).toNat < (y : Int).toNat
          omega
end Go.Proofs.YtlgohkdckdnmhaaDoor
/- The document's numbers: at, less. -/
namespace Go.Proofs.YtlgohkdckdnmhaaDoor
open Go.RowKit Go.Afx

theorem at_any (w : World) (B : Nat → Prop) (v : Value) (d : List Nat) (hl : Sl w B 1 v d.length (nats d)) (_ : d.length ≤ 1000000) (i : Nat) :
    Calls Tryd.prog 125 #[v, .int .i64 i] w fun e w' => e = .returned (.int .i64 (d.getD i 0 : Nat)) ∧ w = w' := by
  by_cases h : i < d.length
  · have e1 : d.getD i 0 = d[i] := by simp [List.getD, h]
    obtain ⟨g, off, cap, rfl, hg, hc⟩ := sl_nat hl h
    rw [e1]
    clear e1 hl
    generalize (d[i] : Int) = x at *
    go_enter Tryd.func125, Tryd.ntmps125
    go_wp2
    go_ret
    exact ⟨rfl, rfl⟩
  · have e1 : d.getD i 0 = 0 := by simp [List.getD, List.getElem?_eq_none (show d.length ≤ i by omega)]
    obtain ⟨p, cap, rfl, _, _⟩ := hl.form
    rw [e1]
    clear e1 hl
    go_enter Tryd.func125, Tryd.ntmps125
    go_wp2
    go_ret
    exact ⟨rfl, rfl⟩

set_option maxRecDepth 100000 in
theorem less_any (w : World) (B B' : Nat → Prop) (va vb : Value) (x y : Nat) (ha : Sl w B 1 va (ld x).length (nats (ld x))) (hb : Sl w B' 1 vb (ld y).length (nats (ld y))) (hla : (ld x).length ≤ 1000000) (hlb : (ld y).length ≤ 1000000) :
    Calls Tryd.prog 106 #[va, vb] w fun e w' => e = .returned (.bool (decide (x < y))) ∧ Below w.heap.size w w' := by
  obtain ⟨pa, ca, rfl, hc1, hc2⟩ := ha.form
  obtain ⟨pb, cb, rfl, hc3, hc4⟩ := hb.form
  have HL := Lib.hid (fun h : (ld x).length < (ld y).length => ld_len_lt h)
  have HG := Lib.hid (fun h : (ld y).length < (ld x).length => ld_len_lt h)
  have HV : Hid (∀ i, i < (ld x).length → i < (ld y).length → (ld x).drop (i + 1) = (ld y).drop (i + 1) → (ld x).getD i 0 ≠ (ld y).getD i 0 → ((ld x).getD i 0 < (ld y).getD i 0 ↔ vd (ld x) < vd (ld y))) := fun i h1 h2 h3 h4 => by
    have e1 : (ld x).getD i 0 = (ld x)[i] := by simp [List.getD, h1]
    have e2 : (ld y).getD i 0 = (ld y)[i] := by simp [List.getD, h2]
    rw [e1, e2] at h4 ⊢
    exact vd_less (ld x) (ld y) (ld_D10 x) (ld_D10 y) i h1 h2 h3 h4
  have HE : Hid (ld x = ld y → x = y) := fun h => by have := congrArg vd h; rwa [vd_ld, vd_ld] at this
  have HX := Lib.hid (vd_ld x)
  have HY := Lib.hid (vd_ld y)
  have HA := Lib.hid ha
  have HB := Lib.hid hb
  clear ha hb
  generalize ld x = a at *
  generalize ld y = b at *
  generalize hr : decide (x < y) = r
  have HR := Lib.hid hr
  clear hr
  generalize hna : a.length = na at *
  generalize hnb : b.length = nb at *
  have HNA := Lib.hid hna
  have HNB := Lib.hid hnb
  clear hna hnb
  by_cases hne : na = nb
  · subst hne
    go_enter Tryd.func106, Tryd.ntmps106
    go_wp2
    go_loopw [5] (fun i wr => ∃ j : Nat, i = .int .i64 ((j : Int) - 1) ∧ j ≤ na ∧ a.drop j = b.drop j ∧ Below w.heap.size w wr) (fun i _ => (intOf i + 1).toNat)
    case atStart => exact ⟨na, rfl, Nat.le_refl _, by rw [List.drop_of_length_le (by rw [HNA.out]; exact Nat.le_refl _), List.drop_of_length_le (by rw [HNB.out]; exact Nat.le_refl _)], Below.refl _ _⟩
    case round =>
      obtain ⟨j, rfl, hj, hd, hbw⟩ := hrel
      have HD := Lib.hid hd
      have HW := Lib.hid hbw
      clear hd
      rcases Nat.eq_zero_or_pos j with rfl | hpos
      · have hxy : x = y := by
          apply HE.out
          have := HD.out
          rwa [List.drop_zero, List.drop_zero] at this
        subst hxy
        obtain rfl : r = false := by rw [← HR.out]; exact decide_eq_false (by omega)
        clear hbw
        go_wp2
        go_ret
        exact ⟨rfl, HW.out⟩
      · obtain ⟨i, rfl⟩ : ∃ i, j = i + 1 := ⟨j - 1, by omega⟩
        have hia : i < a.length := by rw [HNA.out]; omega
        have hib : i < b.length := by rw [HNB.out]; omega
        have ha2 := HA.out.below HW.out
        have hb2 := HB.out.below HW.out
        have hvv := HV.out i (by omega) (by omega) HD.out
        rw [← HNA.out] at ha2
        rw [show na = b.length from HNB.out.symm] at hb2
        obtain ⟨g, off, cap', hv1, hg, hca⟩ := sl_nat ha2 hia
        obtain ⟨g', off', cap'', hv2, hg', hcb⟩ := sl_nat hb2 hib
        cases hv1
        cases hv2
        have HN : Hid (a[i] = b[i] → a.drop i = b.drop i) := fun h => by rw [List.drop_eq_getElem_cons hia, List.drop_eq_getElem_cons hib, h, HD.out]
        have ea : a.getD i 0 = a[i] := by simp [List.getD, hia]
        have eb : b.getD i 0 = b[i] := by simp [List.getD, hib]
        rw [HX.out, HY.out, ea, eb] at hvv
        have HVV := Lib.hid hvv
        clear hbw ha2 hb2 hvv ea eb
        generalize a[i] = p at *
        generalize b[i] = q at *
        by_cases hpq : p = q
        · subst hpq
          have HN2 := Lib.hid (HN.out rfl)
          clear HN HVV
          go_wp2
          go_region
          go_wp2
          go_roundw
          case rel => exact ⟨i, by go_num, by omega, HN2.out, HW.out.drew⟩
          case measure => (simp [intOf]) <;> omega
        · have hne2 : ((p : Int) == q) = false := by rw [beq_eq_false_iff_ne]; omega
          have hr : decide (p < q) = r := by
            rw [← HR.out]
            exact decide_eq_decide.2 (HVV.out hpq)
          clear HN HVV
          go_wp2
          go_region
          go_wp2
          go_region
          go_wp2
          go_ret
          exact ⟨rfl, HW.out.drew.drew⟩
  · have hne2 : ((na : Int) == nb) = false := by rw [beq_eq_false_iff_ne]; omega
    have hr : decide (na < nb) = r := by
      rw [← HR.out]
      apply decide_eq_decide.2
      constructor
      · intro h; exact HL.out h
      · intro h
        rcases Nat.lt_or_ge na nb with h2 | h2
        · omega
        · have := HG.out (by omega); omega
    go_enter Tryd.func106, Tryd.ntmps106
    go_wp2
    go_ret
    exact ⟨rfl, Below.refl _ _⟩
end Go.Proofs.YtlgohkdckdnmhaaDoor
/- The document's numbers: add, sub. -/
namespace Go.Proofs.YtlgohkdckdnmhaaDoor
open Go.RowKit Go.Afx

theorem vd_push (d : List Nat) (x : Nat) : vd (d ++ [x]) = vd d + 10 ^ d.length * x := by rw [vd_append]; simp [vd]

theorem add_step {d a b : List Nat} {k c x y : Nat} (hd : d.length = k) (h : vd d + 10 ^ k * c = vd (a.take k) + vd (b.take k)) (hx : x = a.getD k 0) (hy : y = b.getD k 0) :
    vd (d ++ [(x + y + c) % 10]) + 10 ^ (k + 1) * ((x + y + c) / 10) = vd (a.take (k + 1)) + vd (b.take (k + 1)) := by
  subst hx
  subst hy
  rw [vd_push, vd_next, vd_next, hd, Nat.pow_succ]
  generalize a.getD k 0 = x at *
  generalize b.getD k 0 = y at *
  have e : x + y + c = (x + y + c) % 10 + 10 * ((x + y + c) / 10) := by omega
  have e2 : 10 ^ k * (x + y + c) = 10 ^ k * ((x + y + c) % 10) + 10 ^ k * 10 * ((x + y + c) / 10) := by
    conv => lhs; rw [e]
    rw [Nat.mul_add, Nat.mul_assoc]
  rw [Nat.mul_add, Nat.mul_add] at e2
  omega

set_option maxRecDepth 100000 in
set_option maxHeartbeats 1000000 in
theorem add_num (w : World) (va vb : Value) (a b : List Nat) (hda : D10 a) (hdb : D10 b) (ha : Sl w (fun _ => True) 1 va a.length (nats a)) (hb : Sl w (fun _ => True) 1 vb b.length (nats b)) (hla : a.length ≤ 10000) (hlb : b.length ≤ 10000) :
    Calls Tryd.prog 105 #[va, vb] w fun e w' => ∃ v' d, e = .returned v' ∧ D10 d ∧ vd d = vd a + vd b ∧ d.length ≤ 10001 ∧ Sl w' (fun k => w.heap.size ≤ k) 1 v' d.length (nats d) ∧ Below w.heap.size w w' := by
  obtain ⟨pa, ca, rfl, hc1, hc2⟩ := ha.form
  obtain ⟨pb, cb, rfl, hc3, hc4⟩ := hb.form
  have HA : Hid (∀ w', Below w.heap.size w w' → ∀ i : Nat, Calls Tryd.prog 125 #[.slice pa a.length ca, .int .i64 i] w' fun e w2 => e = .returned (.int .i64 (a.getD i 0 : Nat)) ∧ w' = w2) := fun w' h i => at_any w' _ _ a (ha.below h) (by omega) i
  have HB : Hid (∀ w', Below w.heap.size w w' → ∀ i : Nat, Calls Tryd.prog 125 #[.slice pb b.length cb, .int .i64 i] w' fun e w2 => e = .returned (.int .i64 (b.getD i 0 : Nat)) ∧ w' = w2) := fun w' h i => at_any w' _ _ b (hb.below h) (by omega) i
  have HXA := Lib.hid (fun i => hda.getD i)
  have HXB := Lib.hid (fun i => hdb.getD i)
  clear ha hb hda hdb
  go_enter Tryd.func105, Tryd.ntmps105
  go_wp2
  go_loopw [5, 6, 7] (fun o cy i wr => ∃ (k c : Nat) (d : List Nat), cy = .int .i64 c ∧ i = .int .i64 k ∧ d.length = k ∧ D10 d ∧ c ≤ 1 ∧ vd d + 10 ^ k * c = vd (a.take k) + vd (b.take k) ∧ (k ≤ max a.length b.length ∨ c = 0 ∧ k ≤ max a.length b.length + 1) ∧ Own wr 3 1 o k (nats d) ∧ (∀ q, o.ownBlock = some q → w.heap.size ≤ q) ∧ Below w.heap.size w wr) (fun _ _ i _ => max a.length b.length + 1 - (intOf i).toNat)
  case atStart => exact ⟨0, 0, [], rfl, rfl, rfl, by intro x hx; simp at hx, by omega, by simp [vd], .inl (by omega), Own.nil _ _ _, by simp [Value.ownBlock], Below.refl _ _⟩
  case round =>
    obtain ⟨k, c, d, rfl, rfl, hdk, hd, hc, hv, hkm, how, hfr, hbw⟩ := hrel
    obtain ⟨p5, c5, rfl, hc51, hc52⟩ := own_form1 how
    have HD := Lib.hid hd
    have HV := Lib.hid hv
    have HW := Lib.hid how
    have HF := Lib.hid hfr
    have HBW := Lib.hid hbw
    have HDK := Lib.hid hdk
    have HAX := Lib.hid (HA.out wr hbw k)
    have HBX := Lib.hid (HB.out wr hbw k)
    have hx := HXA.out k
    have hy := HXB.out k
    obtain ⟨x, hxe⟩ : ∃ x, x = a.getD k 0 := ⟨_, rfl⟩
    obtain ⟨y, hye⟩ : ∃ y, y = b.getD k 0 := ⟨_, rfl⟩
    rw [← hxe] at hx HAX
    rw [← hye] at hy HBX
    have HST := Lib.hid (add_step hdk hv hxe hye)
    obtain ⟨z, hz⟩ : ∃ z : Nat, z = x + y + c := ⟨_, rfl⟩
    rw [← hz] at HST
    have hzi : (x : Int) + y + c = z := by omega
    have hk10 : k ≤ 10001 := by omega
    have HKM := Lib.hid hkm
    have HX0 : Hid (a.length ≤ k → x = 0) := fun h => by rw [hxe]; simp [List.getD, List.getElem?_eq_none h]
    have HY0 : Hid (b.length ≤ k → y = 0) := fun h => by rw [hye]; simp [List.getD, List.getElem?_eq_none h]
    clear hd hv how hfr hbw hxe hye hkm hdk
    by_cases hex : k < a.length ∨ k < b.length ∨ 0 < c
    · have hz19 : z ≤ 19 := by omega
      have hc3 : (k < a.length) ∨ (a.length ≤ k ∧ k < b.length) ∨ (a.length ≤ k ∧ b.length ≤ k ∧ 0 < c) := by omega
      have HEX := Lib.hid hex
      have hk2 : k ≤ max a.length b.length := by have := HKM.out; omega
      have HK2 := Lib.hid hk2
      have HZ := Lib.hid hz
      have e9 : ((z % 10 : Nat) : Int) = (z : Int) % 10 := by omega
      have ho1 := HW.out.alloc (.cells #[.int .i64 ((z : Int) % 10)] 3)
      have hs1 := one_int wr (z % 10)
      rw [e9] at hs1
      clear hex hz e9 hk2
      have fin : Hid (∀ v1 w2, Own w2 3 1 v1 (k + 1) (nats d ++ [.int .i64 ((z : Int) % 10)]) → Only (fun q => (Value.slice p5 k c5).ownBlock = some q) (wr.alloc (.cells #[.int .i64 ((z : Int) % 10)] 3)) w2 →
          (v1.ownBlock = (Value.slice p5 k c5).ownBlock ∨ v1.ownBlock = some (wr.alloc (.cells #[.int .i64 ((z : Int) % 10)] 3)).heap.size) →
          ∃ (k' c' : Nat) (d' : List Nat), Value.int .i64 ((z : Int) / 10) = .int .i64 c' ∧ Value.int .i64 ((k : Int) + 1) = .int .i64 k' ∧ d'.length = k' ∧ D10 d' ∧ c' ≤ 1 ∧ vd d' + 10 ^ k' * c' = vd (a.take k') + vd (b.take k') ∧ (k' ≤ max a.length b.length ∨ c' = 0 ∧ k' ≤ max a.length b.length + 1) ∧ Own w2 3 1 v1 k' (nats d') ∧ (∀ q, v1.ownBlock = some q → w.heap.size ≤ q) ∧ Below w.heap.size w w2) := fun v1 w2 g1 g2 g3 => by
        have e9 : ((z % 10 : Nat) : Int) = (z : Int) % 10 := by omega
        obtain ⟨k1, k2, k3, k4⟩ := push_post (x := z % 10) HBW.out.size HF.out (by rw [e9, HDK.out]; exact g1) (by rw [e9]; exact g2) (by rw [e9]; exact g3)
        rw [List.length_append, HDK.out] at k1
        refine ⟨k + 1, z / 10, d ++ [z % 10], by congr 1, by congr 1, by rw [List.length_append, HDK.out]; rfl, HD.out.append (by intro q hq; rw [List.mem_singleton.1 hq]; omega), by omega, HST.out, ?_, k1, k3, HBW.out.trans k4⟩
        have h5 := HK2.out
        have h6 := HX0.out
        have h7 := HY0.out
        have h8 := HZ.out
        by_cases h9 : k + 1 ≤ max a.length b.length
        · exact .inl h9
        · have h10 := h6 (by omega)
          have h11 := h7 (by omega)
          exact .inr ⟨by omega, by omega⟩
      rcases hc3 with h1 | ⟨h1, h2⟩ | ⟨h1, h2, h3⟩
      all_goals
        go_wp2_with (first
          | (go_at_call 125; refine HAX.out.mono ?_; clear HAX; rintro e w2 ⟨rfl, rfl⟩)
          | (go_at_call 125; refine HBX.out.mono ?_; clear HBX; rintro e w2 ⟨rfl, rfl⟩)
          | (at_builtin; refine wpList_app rfl _ _ rfl elemInt (by rfl) ho1 (by rfl) hs1 (by unfold maxLen; omega) (by omega) ?_; intro v1 w2 g1 g2 g3 g4 g5; clear hs1 ho1;
             have FIN := Lib.hid (fin.out v1 w2 g1 g2 g3); clear g1 g2 g3 g4 g5))
        go_roundw
        case rel => exact FIN.out
        case measure =>
          have h5 := HK2.out
          show max a.length b.length + 1 - ((k : Int) + 1).toNat < max a.length b.length + 1 - (k : Int).toNat
          omega
    · have hla2 : a.length ≤ k := by omega
      have hlb2 : b.length ≤ k := by omega
      obtain rfl : c = 0 := by omega
      have hf : Hid (vd d = vd a + vd b) := by
        have := HV.out
        rw [Nat.mul_zero, List.take_of_length_le hla2, List.take_of_length_le hlb2] at this
        exact this
      clear hzi hz HST hex
      go_wp2
      go_ret
      refine ⟨_, rfl, d, HD.out, hf.out, by rw [HDK.out]; exact hk10, ?_, HBW.out⟩
      rw [HDK.out]
      exact HW.out.sl HF.out

theorem sub_step {d a b : List Nat} {k c x y z : Nat} (hd : d.length = k) (h : vd d + vd (b.take k) = vd (a.take k) + 10 ^ k * c) (hx : x = a.getD k 0) (hy : y = b.getD k 0) (hz : z + y + c = 10 + x) (hz2 : z ≤ 19) :
    vd (d ++ [z % 10]) + vd (b.take (k + 1)) = vd (a.take (k + 1)) + 10 ^ (k + 1) * (1 - z / 10) := by
  subst hx
  subst hy
  rw [vd_push, vd_next, vd_next, hd, Nat.pow_succ]
  generalize a.getD k 0 = x at *
  generalize b.getD k 0 = y at *
  have e : z % 10 + y + c = x + 10 * (1 - z / 10) := by omega
  have e2 : 10 ^ k * (z % 10) + 10 ^ k * y + 10 ^ k * c = 10 ^ k * x + 10 ^ k * 10 * (1 - z / 10) := by
    rw [Nat.mul_assoc, ← Nat.mul_add, ← Nat.mul_add, ← Nat.mul_add, e]
  omega

set_option maxRecDepth 100000 in
set_option maxHeartbeats 1000000 in
theorem sub_num (w : World) (va vb : Value) (a b : List Nat) (hda : D10 a) (hdb : D10 b) (ha : Sl w (fun _ => True) 1 va a.length (nats a)) (hb : Sl w (fun _ => True) 1 vb b.length (nats b)) (hla : a.length ≤ 10000) (hlb : b.length ≤ a.length) (hba : vd b ≤ vd a) :
    Calls Tryd.prog 107 #[va, vb] w fun e w' => ∃ v' d, e = .returned v' ∧ D10 d ∧ vd d = vd a - vd b ∧ d.length ≤ 10001 ∧ Sl w' (fun k => w.heap.size ≤ k) 1 v' d.length (nats d) ∧ Below w.heap.size w w' := by
  obtain ⟨pa, ca, rfl, hc1, hc2⟩ := ha.form
  obtain ⟨pb, cb, rfl, hc3, hc4⟩ := hb.form
  have HB : Hid (∀ w', Below w.heap.size w w' → ∀ i : Nat, Calls Tryd.prog 125 #[.slice pb b.length cb, .int .i64 i] w' fun e w2 => e = .returned (.int .i64 (b.getD i 0 : Nat)) ∧ w' = w2) := fun w' h i => at_any w' _ _ b (hb.below h) (by omega) i
  have HA := Lib.hid ha
  have HXA := Lib.hid (fun i => hda.getD i)
  have HXB := Lib.hid (fun i => hdb.getD i)
  have HBA := Lib.hid hba
  have HLB := Lib.hid hlb
  clear ha hb hda hdb hba
  go_enter Tryd.func107, Tryd.ntmps107
  go_wp2
  go_loopw [5, 6, 7] (fun o cy i wr => ∃ (k c : Nat) (d : List Nat), cy = .int .i64 c ∧ i = .int .i64 k ∧ d.length = k ∧ D10 d ∧ c ≤ 1 ∧ vd d + vd (b.take k) = vd (a.take k) + 10 ^ k * c ∧ k ≤ a.length ∧ Own wr 3 1 o k (nats d) ∧ (∀ q, o.ownBlock = some q → w.heap.size ≤ q) ∧ Below w.heap.size w wr) (fun _ _ i _ => a.length - (intOf i).toNat)
  case atStart => exact ⟨0, 0, [], rfl, rfl, rfl, by intro x hx; simp at hx, by omega, by simp [vd], by omega, Own.nil _ _ _, by simp [Value.ownBlock], Below.refl _ _⟩
  case round =>
    obtain ⟨k, c, d, rfl, rfl, hdk, hd, hc, hv, hkm, how, hfr, hbw⟩ := hrel
    obtain ⟨p5, c5, rfl, hc51, hc52⟩ := own_form1 how
    have HD := Lib.hid hd
    have HV := Lib.hid hv
    have HW := Lib.hid how
    have HF := Lib.hid hfr
    have HBW := Lib.hid hbw
    have HDK := Lib.hid hdk
    by_cases hka : k < a.length
    · have HBX : Hid (∀ w', Below wr.heap.size wr w' → Calls Tryd.prog 125 #[.slice pb b.length cb, .int .i64 k] w' fun e w2 => e = .returned (.int .i64 (b.getD k 0 : Nat)) ∧ w' = w2) := fun w' h => HB.out w' (hbw.trans (h.mono hbw.size)) k
      have hx := HXA.out k
      have hy := HXB.out k
      have hax : a.getD k 0 = a[k] := by simp [List.getD, hka]
      obtain ⟨g, off, cap', hv1, hg, hca⟩ := sl_nat (HA.out.below HBW.out) hka
      cases hv1
      rw [← hax] at hca
      obtain ⟨x, hxe⟩ : ∃ x, x = a.getD k 0 := ⟨_, rfl⟩
      obtain ⟨y, hye⟩ : ∃ y, y = b.getD k 0 := ⟨_, rfl⟩
      rw [← hxe] at hx hca
      rw [← hye] at hy HBX
      obtain ⟨z, hz⟩ : ∃ z : Nat, z + y + c = 10 + x := ⟨10 + x - y - c, by omega⟩
      have hz19 : z ≤ 19 := by omega
      have HST := Lib.hid (sub_step hdk hv hxe hye hz hz19)
      have hzi : (10 : Int) + x - y - c = z := by omega
      have e9 : ((z % 10 : Nat) : Int) = (z : Int) % 10 := by omega
      have e8 : ((1 - z / 10 : Nat) : Int) = 1 - (z : Int) / 10 := by omega
      have ho1 := HW.out.drew.alloc (.cells #[.int .i64 ((z : Int) % 10)] 3)
      have hs1 := one_int wr.drew (z % 10)
      rw [e9] at hs1
      have fin : Hid (∀ v1 w2, Own w2 3 1 v1 (k + 1) (nats d ++ [.int .i64 ((z : Int) % 10)]) → Only (fun q => (Value.slice p5 k c5).ownBlock = some q) (wr.drew.alloc (.cells #[.int .i64 ((z : Int) % 10)] 3)) w2 →
          (v1.ownBlock = (Value.slice p5 k c5).ownBlock ∨ v1.ownBlock = some (wr.drew.alloc (.cells #[.int .i64 ((z : Int) % 10)] 3)).heap.size) →
          ∃ (k' c' : Nat) (d' : List Nat), Value.int .i64 (1 - (z : Int) / 10) = .int .i64 c' ∧ Value.int .i64 ((k : Int) + 1) = .int .i64 k' ∧ d'.length = k' ∧ D10 d' ∧ c' ≤ 1 ∧ vd d' + vd (b.take k') = vd (a.take k') + 10 ^ k' * c' ∧ k' ≤ a.length ∧ Own w2 3 1 v1 k' (nats d') ∧ (∀ q, v1.ownBlock = some q → w.heap.size ≤ q) ∧ Below w.heap.size w w2) := fun v1 w2 g1 g2 g3 => by
        obtain ⟨k1, k2, k3, k4⟩ := push_post (x := z % 10) HBW.out.drew.size HF.out (by rw [e9, HDK.out]; exact g1) (by rw [e9]; exact g2) (by rw [e9]; exact g3)
        rw [List.length_append, HDK.out] at k1
        exact ⟨k + 1, 1 - z / 10, d ++ [z % 10], by rw [e8], by congr 1, by rw [List.length_append, HDK.out]; rfl, HD.out.append (by intro q hq; rw [List.mem_singleton.1 hq]; omega), by omega, HST.out, by omega, k1, k3, HBW.out.drew.trans k4⟩
      clear hdk hd hv how hfr hbw hxe hye hkm hax e8 e9 hz
      go_wp2
      refine wp_region_lit_plan [] [(0, 0), (1, 0), (2, 0), (5, 0), (6, 0), (9, 0), (3, 2), (4, 0), (7, 3), (8, 0), (10, 0), (11, 0)] (fun q => q = g) (by kernel_rfl) (by kernel_rfl) (fun c a d v w h => by cases d <;> exact h) ?_
      go_wp2_with (first
        | (refine plan_pure (v := _) (by rfl) (by rfl) (by rfl) (by intro _; go_simp; with_reducible rfl) ?_; simp only [List.setIfInBounds_toArray, List.set_cons_zero, List.set_cons_succ]; try go_bits) | (refine plan_read (v := _) (by rfl) (by rfl) (by rfl) (by go_simp; with_reducible rfl) ?_; simp only [List.setIfInBounds_toArray, List.set_cons_zero, List.set_cons_succ]; try go_bits) | (refine plan_readB (v := _) (by rfl) (by rfl) (by rfl) (by intro _ hag; unfold Agree at hag; go_simp; with_reducible rfl) ?_; simp only [List.setIfInBounds_toArray, List.set_cons_zero, List.set_cons_succ]; try go_bits) | (refine plan_skip0 (by rfl) (by rfl) (by rfl) ?_; simp only [List.setIfInBounds_toArray, List.set_cons_zero, List.set_cons_succ]; try go_bits) | (refine plan_skip1 (by rfl) (by rfl) (by rfl) ?_; simp only [List.setIfInBounds_toArray, List.set_cons_zero, List.set_cons_succ]; try go_bits) | (refine plan_skip2 (by rfl) (by rfl) (by rfl) ?_; simp only [List.setIfInBounds_toArray, List.set_cons_zero, List.set_cons_succ]; try go_bits) | (refine plan_skip4 (by rfl) (by rfl) (by rfl) ?_; simp only [List.setIfInBounds_toArray, List.set_cons_zero, List.set_cons_succ]; try go_bits) | (refine plan_any (by rfl) ?_) | (refine plan_keep (by rfl) ?_) | (refine plan_nil ?_) | (with_reducible refine And.intro (by first | assumption | exact Agree.refl _ _ | exact agree_drew _ _ | exact agree_alloc _ (by intro k hk; subst hk; first | omega | (simp; omega))) ?_) | (unfold Act.put; simp only [List.setIfInBounds_toArray, List.set_cons_zero, List.set_cons_succ])
        | (go_at_call 125; refine (HBX.out _ (Below.drew (Below.refl _ _))).mono ?_; clear HBX; rintro e w2 ⟨rfl, rfl⟩)
        | (at_builtin; refine wpList_app rfl _ _ rfl elemInt (by rfl) ho1 (by rfl) hs1 (by unfold maxLen; omega) (by omega) ?_; intro v1 w2 g1 g2 g3 g4 g5; clear hs1 ho1;
           have FIN := Lib.hid (fin.out v1 w2 g1 g2 g3); clear g1 g2 g3 g4 g5))
      refine ⟨FIN.out, ?_⟩
      show a.length - ((k : Int) + 1).toNat < a.length - (k : Int).toNat
      omega
    · obtain rfl : k = a.length := by omega
      have hf : Hid (vd d = vd a - vd b) := by
        have h1 := HV.out
        rw [List.take_length, List.take_of_length_le HLB.out] at h1
        have h2 := vd_lt d HD.out
        rw [HDK.out] at h2
        have h3 := HBA.out
        have h4 : c = 0 := by
          rcases Nat.eq_zero_or_pos c with h | h
          · exact h
          · obtain rfl : c = 1 := by omega
            rw [Nat.mul_one] at h1
            omega
        subst h4
        rw [Nat.mul_zero] at h1
        show _ = _
        omega
      clear hdk hd hv how hfr hbw hkm
      go_wp2
      go_ret
      refine ⟨_, d, rfl, HD.out, hf.out, by rw [HDK.out]; omega, ?_, HBW.out⟩
      rw [HDK.out]
      exact HW.out.sl HF.out
end Go.Proofs.YtlgohkdckdnmhaaDoor
/- The document's numbers: Plus, Minus. -/
namespace Go.Proofs.YtlgohkdckdnmhaaDoor
open Go.RowKit Go.Afx

theorem IsNum.open' {w : World} {B : Nat → Prop} {v : Value} {z : Int} (h : IsNum w B v z) :
    ∃ (s : Bool) (x : Nat) (p : Option Addr) (c : Nat), v = .agg #[.bool s, .slice p (ld x).length c] ∧ Sl w B 1 (.slice p (ld x).length c) (ld x).length (nats (ld x)) ∧ z = sgn s x ∧ z.natAbs = x ∧ (ld x).length ≤ c ∧ c ≤ 9223372036854775807 := by
  obtain ⟨dv, rfl, hs⟩ := h
  obtain ⟨p, c, rfl, h1, h2⟩ := hs.form
  refine ⟨decide (z < 0), z.natAbs, p, c, rfl, hs, ?_, rfl, h1, h2⟩
  unfold sgn
  by_cases h : z < 0
  · rw [decide_eq_true h, if_pos rfl]; omega
  · rw [decide_eq_false h, if_neg (by decide)]; omega

theorem Sl.weak {w : World} {B B' : Nat → Prop} {sz : Nat} {v : Value} {n : Nat} {cs : List Value} (h : Sl w B sz v n cs) (hB : ∀ k, B k → B' k) : Sl w B' sz v n cs :=
  h.mono (Nat.le_refl _) (fun _ _ _ => rfl) (fun k h1 _ => hB k h1)
theorem IsNum.weak {w : World} {B B' : Nat → Prop} {v : Value} {z : Int} (h : IsNum w B v z) (hB : ∀ k, B k → B' k) : IsNum w B' v z := by
  obtain ⟨dv, h1, h2⟩ := h
  exact ⟨dv, h1, Sl.weak h2 hB⟩

theorem boxes3 (w : World) (A B C : List Value) (t : TypeId) :
    Blk (((w.alloc (.cells A.toArray t)).alloc (.cells B.toArray t)).alloc (.cells C.toArray t)) w.heap.size t A ∧
    Blk (((w.alloc (.cells A.toArray t)).alloc (.cells B.toArray t)).alloc (.cells C.toArray t)) (w.heap.size + 1) t B ∧
    Blk (((w.alloc (.cells A.toArray t)).alloc (.cells B.toArray t)).alloc (.cells C.toArray t)) (w.heap.size + 1 + 1) t C ∧
    Below w.heap.size w (((w.alloc (.cells A.toArray t)).alloc (.cells B.toArray t)).alloc (.cells C.toArray t)) ∧
    (((w.alloc (.cells A.toArray t)).alloc (.cells B.toArray t)).alloc (.cells C.toArray t)).heap.size = w.heap.size + 3 := by
  have h1 := Blk.new w t A
  have h2 := Blk.new (w.alloc (.cells A.toArray t)) t B
  have h3 := Blk.new ((w.alloc (.cells A.toArray t)).alloc (.cells B.toArray t)) t C
  have e1 : (w.alloc (.cells A.toArray t)).heap.size = w.heap.size + 1 := by simp
  have e2 : ((w.alloc (.cells A.toArray t)).alloc (.cells B.toArray t)).heap.size = w.heap.size + 1 + 1 := by simp
  rw [e1] at h2
  rw [e2] at h3
  refine ⟨(h1.alloc _).alloc _, h2.alloc _, h3, ?_, by simp⟩
  exact (((Below.refl _ _).alloc (Nat.le_refl _) _).alloc (by omega) _).alloc (by omega) _

set_option maxRecDepth 100000 in
set_option maxHeartbeats 1000000 in
theorem plus_num (w : World) (va vb : Value) (z1 z2 : Int) (ha : IsNum w (fun _ => True) va z1) (hb : IsNum w (fun _ => True) vb z2) (hla : (ld z1.natAbs).length ≤ 5000) (hlb : (ld z2.natAbs).length ≤ 5000) :
    Calls Tryd.prog 76 #[va, vb] w fun e w' => ∃ v', e = .returned v' ∧ IsNum w' (fun k => w.heap.size ≤ k) v' (z1 + z2) ∧ Below w.heap.size w w' := by
  obtain ⟨sa, x, pa, ca, rfl, hsa, hz1, hx, hc1, hc2⟩ := ha.open'
  obtain ⟨sb, y, pb, cb, rfl, hsb, hz2, hy, hc3, hc4⟩ := hb.open'
  rw [hx] at hla
  rw [hy] at hlb
  have HADD : Hid (∀ w', Below w.heap.size w w' → Calls Tryd.prog 105 #[.slice pa (ld x).length ca, .slice pb (ld y).length cb] w' fun e w2 => ∃ v' d, e = .returned v' ∧ D10 d ∧ vd d = x + y ∧ d.length ≤ 10001 ∧ Sl w2 (fun k => w'.heap.size ≤ k) 1 v' d.length (nats d) ∧ Below w'.heap.size w' w2) := fun w' h => by
    have := add_num w' _ _ (ld x) (ld y) (ld_D10 x) (ld_D10 y) (hsa.below h) (hsb.below h) (by omega) (by omega)
    rwa [vd_ld, vd_ld] at this
  have HLS : Hid (∀ w', Below w.heap.size w w' → Calls Tryd.prog 106 #[.slice pa (ld x).length ca, .slice pb (ld y).length cb] w' fun e w2 => e = .returned (.bool (decide (x < y))) ∧ Below w'.heap.size w' w2) := fun w' h =>
    less_any w' _ _ _ _ x y (hsa.below h) (hsb.below h) (by omega) (by omega)
  have HSG := Lib.hid (fun (w' : World) (B : Nat → Prop) (s : Bool) (v : Value) (d : List Nat) (h1 : D10 d) (h2 : Sl w' B 1 v d.length (nats d)) (h3 : d.length ≤ 10001) => sign_any w' B s v d h1 h2 (by omega))
  have HSA : Hid (y ≤ x → Hid (∀ w', Below w.heap.size w w' → Calls Tryd.prog 107 #[.slice pa (ld x).length ca, .slice pb (ld y).length cb] w' fun e w2 => ∃ v' d, e = .returned v' ∧ D10 d ∧ vd d = x - y ∧ d.length ≤ 10001 ∧ Sl w2 (fun k => w'.heap.size ≤ k) 1 v' d.length (nats d) ∧ Below w'.heap.size w' w2)) := fun hle w' h => by
    have := sub_num w' _ _ (ld x) (ld y) (ld_D10 x) (ld_D10 y) (hsa.below h) (hsb.below h) (by omega) (ld_len_mono hle) (by rw [vd_ld, vd_ld]; exact hle)
    rwa [vd_ld, vd_ld] at this
  have HSB : Hid (x < y → Hid (∀ w', Below w.heap.size w w' → Calls Tryd.prog 107 #[.slice pb (ld y).length cb, .slice pa (ld x).length ca] w' fun e w2 => ∃ v' d, e = .returned v' ∧ D10 d ∧ vd d = y - x ∧ d.length ≤ 10001 ∧ Sl w2 (fun k => w'.heap.size ≤ k) 1 v' d.length (nats d) ∧ Below w'.heap.size w' w2)) := fun hlt w' h => by
    have := sub_num w' _ _ (ld y) (ld x) (ld_D10 y) (ld_D10 x) (hsb.below h) (hsa.below h) (by omega) (ld_len_mono (Nat.le_of_lt hlt)) (by rw [vd_ld, vd_ld]; exact Nat.le_of_lt hlt)
    rwa [vd_ld, vd_ld] at this
  cases sa <;> cases sb
  · have HZ : Hid (sgn false ((x + y : Nat) : Int) = z1 + z2) := by
      show _ = _
      rw [hz1, hz2]; unfold sgn; simp 
    have HOP := HADD
    clear ha hb hz1 hz2 hx hy hsa hsb
    generalize z1 + z2 = z at *
    generalize (ld x).length = la at *
    generalize (ld y).length = lb at *
    obtain ⟨b0, b1, b2, hb4, hs4⟩ := boxes3 w [.bool false, .slice pa la ca] [.bool false, .slice pb lb cb] [.bool false, .slice none 0 0] 103
    go_enter Tryd.func76, Tryd.ntmps76
    go_wp2
    generalize (((w.alloc (.cells #[.bool false, .slice pa la ca] 103)).alloc (.cells #[.bool false, .slice pb lb cb] 103)).alloc (.cells #[.bool false, .slice none 0 0] 103)) = w4 at *
    have c00 : w4.cell? ⟨w.heap.size, 0, none⟩ = some (.bool false) := b0.cell 0
    have c01 : w4.cell? ⟨w.heap.size, 1, none⟩ = some (.slice pa la ca) := b0.cell 1
    have c10 : w4.cell? ⟨w.heap.size + 1, 0, none⟩ = some (.bool false) := b1.cell 0
    have c11 : w4.cell? ⟨w.heap.size + 1, 1, none⟩ = some (.slice pb lb cb) := b1.cell 1
    have B0 := Lib.hid b0
    have B1 := Lib.hid b1
    have B2 := Lib.hid b2
    have HB4 := Lib.hid hb4
    have HS4 := Lib.hid hs4
    have hl0 : w.heap.size < w4.heap.size := by omega
    have hl1 : w.heap.size + 1 < w4.heap.size := by omega
    clear b0 b1 b2 hb4 hs4
    have HBX := HB4
    have BX := B2
    have HSX := Lib.hid (Nat.le_refl w4.heap.size)
    refine wp_region_lit_plan [] [(0, 0), (2, 0), (4, 0), (1, 2), (3, 1), (5, 1), (6, 3), (7, 4), (8, 4)] (fun k => k < w4.heap.size) (by kernel_rfl) (by kernel_rfl) (fun c a d v w h => by cases d <;> exact h) ?_
    go_wp2_with (first
      | (refine plan_pure (v := _) (by rfl) (by rfl) (by rfl) (by intro _; go_simp; with_reducible rfl) ?_; simp only [List.setIfInBounds_toArray, List.set_cons_zero, List.set_cons_succ]; try go_bits) | (refine plan_read (v := _) (by rfl) (by rfl) (by rfl) (by go_simp; with_reducible rfl) ?_; simp only [List.setIfInBounds_toArray, List.set_cons_zero, List.set_cons_succ]; try go_bits) | (refine plan_readB (v := _) (by rfl) (by rfl) (by rfl) (by intro _ hag; unfold Agree at hag; go_simp; with_reducible rfl) ?_; simp only [List.setIfInBounds_toArray, List.set_cons_zero, List.set_cons_succ]; try go_bits) | (refine plan_skip0 (by rfl) (by rfl) (by rfl) ?_; simp only [List.setIfInBounds_toArray, List.set_cons_zero, List.set_cons_succ]; try go_bits) | (refine plan_skip1 (by rfl) (by rfl) (by rfl) ?_; simp only [List.setIfInBounds_toArray, List.set_cons_zero, List.set_cons_succ]; try go_bits) | (refine plan_skip2 (by rfl) (by rfl) (by rfl) ?_; simp only [List.setIfInBounds_toArray, List.set_cons_zero, List.set_cons_succ]; try go_bits) | (refine plan_skip4 (by rfl) (by rfl) (by rfl) ?_; simp only [List.setIfInBounds_toArray, List.set_cons_zero, List.set_cons_succ]; try go_bits) | (refine plan_any (by rfl) ?_) | (refine plan_keep (by rfl) ?_) | (refine plan_nil ?_) | (with_reducible refine And.intro (by first | assumption | exact Agree.refl _ _ | exact agree_drew _ _ | exact agree_alloc _ (by intro k hk; subst hk; first | omega | (simp; omega))) ?_) | (unfold Act.put; simp only [List.setIfInBounds_toArray, List.set_cons_zero, List.set_cons_succ])
      | (go_at_call 105; refine (HOP.out _ (HBX.out.drew)).mono ?_; clear HOP; rintro e w5 ⟨v5, d5, rfl, h51, h52, h53, h54, hb5⟩; obtain ⟨p5, c5, rfl, h55, h56⟩ := h54.form;
         have hag : Agree (fun k => k < w4.heap.size) w4.drew w5 := agree_bel hb5 (fun k hk => hk);
         have HSG5 := Lib.hid (HSG.out w5 _ false _ d5 h51 h54 h53); rw [h52, HZ.out] at HSG5;
         have B25 := Lib.hid (BX.out.drew.below hb5); have HB5 := Lib.hid hb5; clear hb5 h54 h51 h53 h52)
      | (go_at_call 104; refine HSG5.out.mono ?_; rintro e w6 ⟨v6, rfl, ⟨dv6, rfl, h62⟩, hb6⟩; obtain ⟨p6, c6, rfl, h65, h66⟩ := h62.form; have H62 := Lib.hid h62;
         have hag6 : Agree (fun k => k < w4.heap.size) w5 w6 := agree_bel hb6 (fun k hk => Nat.lt_of_lt_of_le hk HB5.out.size);
         have B26 := Lib.hid (B25.out.below hb6);
         have c20 : w6.cell? ⟨w.heap.size + 1 + 1, 0, none⟩ = some (.bool false) := B26.out.cell 0;
         have c21 : w6.cell? ⟨w.heap.size + 1 + 1, 1, none⟩ = some (.slice none 0 0) := B26.out.cell 1;
         have hf6 : ∀ i, w6.frozen? ⟨w.heap.size + 1 + 1, i, none⟩ = false := B26.out.frozen; have HB6 := Lib.hid hb6; clear hb6 h62))
    have HR7 := (B26.out.set 0 (.bool (decide (z < 0)))).set 1 (.slice p6 (ld z.natAbs).length c6)
    have c70 := HR7.cell 0
    have c71 := HR7.cell 1
    refine bodyPost_ret (v := .agg #[.bool (decide (z < 0)), .slice p6 (ld z.natAbs).length c6]) (by simp [results, Tryd.results76, go_sem, c70, c71]) rfl ⟨_, rfl, ⟨_, rfl, ?_⟩, ?_⟩
    · have h1 : w4.heap.size ≤ w4.heap.size := HSX.out
      refine Sl.weak (H62.out.only (((Only.refl (fun k => k = w.heap.size + 1 + 1) w6).setCell (p := ⟨w.heap.size + 1 + 1, 0, none⟩) (fun _ => rfl) _).setCell (p := ⟨w.heap.size + 1 + 1, 1, none⟩) (fun _ => rfl) _) (fun k (h1 : w4.heap.size ≤ k) h2 => by have := HS4.out; omega)) (fun k (h : w4.heap.size ≤ k) => by omega)
    · have h1 := HBX.out.drew.trans (HB5.out.mono HBX.out.size)
      have h2 := h1.trans (HB6.out.mono h1.size)
      exact (h2.setCell (by show w.heap.size ≤ w.heap.size + 1 + 1; omega) _).setCell (by show w.heap.size ≤ w.heap.size + 1 + 1; omega) _
  · by_cases hxy : x < y
    · have HZ : Hid (sgn true ((y - x : Nat) : Int) = z1 + z2) := by
        show _ = _
        rw [hz1, hz2]; unfold sgn; simp; omega
      have DXY : decide (x < y) = true := decide_eq_true hxy
      have HOP := HSB.out hxy
      clear ha hb hz1 hz2 hx hy hsa hsb
      generalize z1 + z2 = z at *
      generalize (ld x).length = la at *
      generalize (ld y).length = lb at *
      obtain ⟨b0, b1, b2, hb4, hs4⟩ := boxes3 w [.bool false, .slice pa la ca] [.bool true, .slice pb lb cb] [.bool false, .slice none 0 0] 103
      go_enter Tryd.func76, Tryd.ntmps76
      go_wp2_with fail
      generalize (((w.alloc (.cells #[.bool false, .slice pa la ca] 103)).alloc (.cells #[.bool true, .slice pb lb cb] 103)).alloc (.cells #[.bool false, .slice none 0 0] 103)) = w4 at *
      have c00 : w4.cell? ⟨w.heap.size, 0, none⟩ = some (.bool false) := b0.cell 0
      have c01 : w4.cell? ⟨w.heap.size, 1, none⟩ = some (.slice pa la ca) := b0.cell 1
      have c10 : w4.cell? ⟨w.heap.size + 1, 0, none⟩ = some (.bool true) := b1.cell 0
      have c11 : w4.cell? ⟨w.heap.size + 1, 1, none⟩ = some (.slice pb lb cb) := b1.cell 1
      have B0 := Lib.hid b0
      have B1 := Lib.hid b1
      have B2 := Lib.hid b2
      have HB4 := Lib.hid hb4
      have HS4 := Lib.hid hs4
      have hl0 : w.heap.size < w4.heap.size := by omega
      have hl1 : w.heap.size + 1 < w4.heap.size := by omega
      clear b0 b1 b2 hb4 hs4
      go_wp2_with (go_at_call 106; refine (HLS.out _ HB4.out).mono ?_; clear HLS; rintro e wl ⟨rfl, hbl⟩; rw [DXY])
      have d00 : wl.cell? ⟨w.heap.size, 0, none⟩ = some (.bool false) := (B0.out.below hbl).cell 0
      have d01 : wl.cell? ⟨w.heap.size, 1, none⟩ = some (.slice pa la ca) := (B0.out.below hbl).cell 1
      have d10 : wl.cell? ⟨w.heap.size + 1, 0, none⟩ = some (.bool true) := (B1.out.below hbl).cell 0
      have d11 : wl.cell? ⟨w.heap.size + 1, 1, none⟩ = some (.slice pb lb cb) := (B1.out.below hbl).cell 1
      have m0 : w.heap.size < wl.heap.size := Nat.lt_of_lt_of_le hl0 hbl.size
      have m1 : w.heap.size + 1 < wl.heap.size := Nat.lt_of_lt_of_le hl1 hbl.size
      have BX := Lib.hid (B2.out.below hbl)
      have HSX := Lib.hid hbl.size
      have HBX := Lib.hid (HB4.out.trans (hbl.mono (by omega)))
      clear hbl
      go_wp2
      refine wp_region_lit_plan [] [(0, 0), (2, 0), (4, 0), (1, 2), (3, 1), (5, 1), (6, 3), (7, 4), (8, 4)] (fun k => k < wl.heap.size) (by kernel_rfl) (by kernel_rfl) (fun c a d v w h => by cases d <;> exact h) ?_
      go_wp2_with (first
        | (refine plan_pure (v := _) (by rfl) (by rfl) (by rfl) (by intro _; go_simp; with_reducible rfl) ?_; simp only [List.setIfInBounds_toArray, List.set_cons_zero, List.set_cons_succ]; try go_bits) | (refine plan_read (v := _) (by rfl) (by rfl) (by rfl) (by go_simp; with_reducible rfl) ?_; simp only [List.setIfInBounds_toArray, List.set_cons_zero, List.set_cons_succ]; try go_bits) | (refine plan_readB (v := _) (by rfl) (by rfl) (by rfl) (by intro _ hag; unfold Agree at hag; go_simp; with_reducible rfl) ?_; simp only [List.setIfInBounds_toArray, List.set_cons_zero, List.set_cons_succ]; try go_bits) | (refine plan_skip0 (by rfl) (by rfl) (by rfl) ?_; simp only [List.setIfInBounds_toArray, List.set_cons_zero, List.set_cons_succ]; try go_bits) | (refine plan_skip1 (by rfl) (by rfl) (by rfl) ?_; simp only [List.setIfInBounds_toArray, List.set_cons_zero, List.set_cons_succ]; try go_bits) | (refine plan_skip2 (by rfl) (by rfl) (by rfl) ?_; simp only [List.setIfInBounds_toArray, List.set_cons_zero, List.set_cons_succ]; try go_bits) | (refine plan_skip4 (by rfl) (by rfl) (by rfl) ?_; simp only [List.setIfInBounds_toArray, List.set_cons_zero, List.set_cons_succ]; try go_bits) | (refine plan_any (by rfl) ?_) | (refine plan_keep (by rfl) ?_) | (refine plan_nil ?_) | (with_reducible refine And.intro (by first | assumption | exact Agree.refl _ _ | exact agree_drew _ _ | exact agree_alloc _ (by intro k hk; subst hk; first | omega | (simp; omega))) ?_) | (unfold Act.put; simp only [List.setIfInBounds_toArray, List.set_cons_zero, List.set_cons_succ])
        | (go_at_call 107; refine (HOP.out _ (HBX.out.drew)).mono ?_; clear HOP; rintro e w5 ⟨v5, d5, rfl, h51, h52, h53, h54, hb5⟩; obtain ⟨p5, c5, rfl, h55, h56⟩ := h54.form;
           have hag : Agree (fun k => k < wl.heap.size) wl.drew w5 := agree_bel hb5 (fun k hk => hk);
           have HSG5 := Lib.hid (HSG.out w5 _ true _ d5 h51 h54 h53); rw [h52, HZ.out] at HSG5;
           have B25 := Lib.hid (BX.out.drew.below hb5); have HB5 := Lib.hid hb5; clear hb5 h54 h51 h53 h52)
        | (go_at_call 104; refine HSG5.out.mono ?_; rintro e w6 ⟨v6, rfl, ⟨dv6, rfl, h62⟩, hb6⟩; obtain ⟨p6, c6, rfl, h65, h66⟩ := h62.form; have H62 := Lib.hid h62;
           have hag6 : Agree (fun k => k < wl.heap.size) w5 w6 := agree_bel hb6 (fun k hk => Nat.lt_of_lt_of_le hk HB5.out.size);
           have B26 := Lib.hid (B25.out.below hb6);
           have c20 : w6.cell? ⟨w.heap.size + 1 + 1, 0, none⟩ = some (.bool false) := B26.out.cell 0;
           have c21 : w6.cell? ⟨w.heap.size + 1 + 1, 1, none⟩ = some (.slice none 0 0) := B26.out.cell 1;
           have hf6 : ∀ i, w6.frozen? ⟨w.heap.size + 1 + 1, i, none⟩ = false := B26.out.frozen; have HB6 := Lib.hid hb6; clear hb6 h62))
      have HR7 := (B26.out.set 0 (.bool (decide (z < 0)))).set 1 (.slice p6 (ld z.natAbs).length c6)
      have c70 := HR7.cell 0
      have c71 := HR7.cell 1
      refine bodyPost_ret (v := .agg #[.bool (decide (z < 0)), .slice p6 (ld z.natAbs).length c6]) (by simp [results, Tryd.results76, go_sem, c70, c71]) rfl ⟨_, rfl, ⟨_, rfl, ?_⟩, ?_⟩
      · have h1 : w4.heap.size ≤ wl.heap.size := HSX.out
        refine Sl.weak (H62.out.only (((Only.refl (fun k => k = w.heap.size + 1 + 1) w6).setCell (p := ⟨w.heap.size + 1 + 1, 0, none⟩) (fun _ => rfl) _).setCell (p := ⟨w.heap.size + 1 + 1, 1, none⟩) (fun _ => rfl) _) (fun k (h1 : wl.heap.size ≤ k) h2 => by have := HS4.out; omega)) (fun k (h : wl.heap.size ≤ k) => by omega)
      · have h1 := HBX.out.drew.trans (HB5.out.mono HBX.out.size)
        have h2 := h1.trans (HB6.out.mono h1.size)
        exact (h2.setCell (by show w.heap.size ≤ w.heap.size + 1 + 1; omega) _).setCell (by show w.heap.size ≤ w.heap.size + 1 + 1; omega) _
    · have HZ : Hid (sgn false ((x - y : Nat) : Int) = z1 + z2) := by
        show _ = _
        rw [hz1, hz2]; unfold sgn; simp; omega
      have DXY : decide (x < y) = false := decide_eq_false hxy
      have HOP := HSA.out (Nat.le_of_not_lt hxy)
      clear ha hb hz1 hz2 hx hy hsa hsb
      generalize z1 + z2 = z at *
      generalize (ld x).length = la at *
      generalize (ld y).length = lb at *
      obtain ⟨b0, b1, b2, hb4, hs4⟩ := boxes3 w [.bool false, .slice pa la ca] [.bool true, .slice pb lb cb] [.bool false, .slice none 0 0] 103
      go_enter Tryd.func76, Tryd.ntmps76
      go_wp2_with fail
      generalize (((w.alloc (.cells #[.bool false, .slice pa la ca] 103)).alloc (.cells #[.bool true, .slice pb lb cb] 103)).alloc (.cells #[.bool false, .slice none 0 0] 103)) = w4 at *
      have c00 : w4.cell? ⟨w.heap.size, 0, none⟩ = some (.bool false) := b0.cell 0
      have c01 : w4.cell? ⟨w.heap.size, 1, none⟩ = some (.slice pa la ca) := b0.cell 1
      have c10 : w4.cell? ⟨w.heap.size + 1, 0, none⟩ = some (.bool true) := b1.cell 0
      have c11 : w4.cell? ⟨w.heap.size + 1, 1, none⟩ = some (.slice pb lb cb) := b1.cell 1
      have B0 := Lib.hid b0
      have B1 := Lib.hid b1
      have B2 := Lib.hid b2
      have HB4 := Lib.hid hb4
      have HS4 := Lib.hid hs4
      have hl0 : w.heap.size < w4.heap.size := by omega
      have hl1 : w.heap.size + 1 < w4.heap.size := by omega
      clear b0 b1 b2 hb4 hs4
      go_wp2_with (go_at_call 106; refine (HLS.out _ HB4.out).mono ?_; clear HLS; rintro e wl ⟨rfl, hbl⟩; rw [DXY])
      have d00 : wl.cell? ⟨w.heap.size, 0, none⟩ = some (.bool false) := (B0.out.below hbl).cell 0
      have d01 : wl.cell? ⟨w.heap.size, 1, none⟩ = some (.slice pa la ca) := (B0.out.below hbl).cell 1
      have d10 : wl.cell? ⟨w.heap.size + 1, 0, none⟩ = some (.bool true) := (B1.out.below hbl).cell 0
      have d11 : wl.cell? ⟨w.heap.size + 1, 1, none⟩ = some (.slice pb lb cb) := (B1.out.below hbl).cell 1
      have m0 : w.heap.size < wl.heap.size := Nat.lt_of_lt_of_le hl0 hbl.size
      have m1 : w.heap.size + 1 < wl.heap.size := Nat.lt_of_lt_of_le hl1 hbl.size
      have BX := Lib.hid (B2.out.below hbl)
      have HSX := Lib.hid hbl.size
      have HBX := Lib.hid (HB4.out.trans (hbl.mono (by omega)))
      clear hbl
      go_wp2
      refine wp_region_lit_plan [] [(0, 0), (2, 0), (4, 0), (1, 2), (3, 1), (5, 1), (6, 3), (7, 4), (8, 4)] (fun k => k < wl.heap.size) (by kernel_rfl) (by kernel_rfl) (fun c a d v w h => by cases d <;> exact h) ?_
      go_wp2_with (first
        | (refine plan_pure (v := _) (by rfl) (by rfl) (by rfl) (by intro _; go_simp; with_reducible rfl) ?_; simp only [List.setIfInBounds_toArray, List.set_cons_zero, List.set_cons_succ]; try go_bits) | (refine plan_read (v := _) (by rfl) (by rfl) (by rfl) (by go_simp; with_reducible rfl) ?_; simp only [List.setIfInBounds_toArray, List.set_cons_zero, List.set_cons_succ]; try go_bits) | (refine plan_readB (v := _) (by rfl) (by rfl) (by rfl) (by intro _ hag; unfold Agree at hag; go_simp; with_reducible rfl) ?_; simp only [List.setIfInBounds_toArray, List.set_cons_zero, List.set_cons_succ]; try go_bits) | (refine plan_skip0 (by rfl) (by rfl) (by rfl) ?_; simp only [List.setIfInBounds_toArray, List.set_cons_zero, List.set_cons_succ]; try go_bits) | (refine plan_skip1 (by rfl) (by rfl) (by rfl) ?_; simp only [List.setIfInBounds_toArray, List.set_cons_zero, List.set_cons_succ]; try go_bits) | (refine plan_skip2 (by rfl) (by rfl) (by rfl) ?_; simp only [List.setIfInBounds_toArray, List.set_cons_zero, List.set_cons_succ]; try go_bits) | (refine plan_skip4 (by rfl) (by rfl) (by rfl) ?_; simp only [List.setIfInBounds_toArray, List.set_cons_zero, List.set_cons_succ]; try go_bits) | (refine plan_any (by rfl) ?_) | (refine plan_keep (by rfl) ?_) | (refine plan_nil ?_) | (with_reducible refine And.intro (by first | assumption | exact Agree.refl _ _ | exact agree_drew _ _ | exact agree_alloc _ (by intro k hk; subst hk; first | omega | (simp; omega))) ?_) | (unfold Act.put; simp only [List.setIfInBounds_toArray, List.set_cons_zero, List.set_cons_succ])
        | (go_at_call 107; refine (HOP.out _ (HBX.out.drew)).mono ?_; clear HOP; rintro e w5 ⟨v5, d5, rfl, h51, h52, h53, h54, hb5⟩; obtain ⟨p5, c5, rfl, h55, h56⟩ := h54.form;
           have hag : Agree (fun k => k < wl.heap.size) wl.drew w5 := agree_bel hb5 (fun k hk => hk);
           have HSG5 := Lib.hid (HSG.out w5 _ false _ d5 h51 h54 h53); rw [h52, HZ.out] at HSG5;
           have B25 := Lib.hid (BX.out.drew.below hb5); have HB5 := Lib.hid hb5; clear hb5 h54 h51 h53 h52)
        | (go_at_call 104; refine HSG5.out.mono ?_; rintro e w6 ⟨v6, rfl, ⟨dv6, rfl, h62⟩, hb6⟩; obtain ⟨p6, c6, rfl, h65, h66⟩ := h62.form; have H62 := Lib.hid h62;
           have hag6 : Agree (fun k => k < wl.heap.size) w5 w6 := agree_bel hb6 (fun k hk => Nat.lt_of_lt_of_le hk HB5.out.size);
           have B26 := Lib.hid (B25.out.below hb6);
           have c20 : w6.cell? ⟨w.heap.size + 1 + 1, 0, none⟩ = some (.bool false) := B26.out.cell 0;
           have c21 : w6.cell? ⟨w.heap.size + 1 + 1, 1, none⟩ = some (.slice none 0 0) := B26.out.cell 1;
           have hf6 : ∀ i, w6.frozen? ⟨w.heap.size + 1 + 1, i, none⟩ = false := B26.out.frozen; have HB6 := Lib.hid hb6; clear hb6 h62))
      have HR7 := (B26.out.set 0 (.bool (decide (z < 0)))).set 1 (.slice p6 (ld z.natAbs).length c6)
      have c70 := HR7.cell 0
      have c71 := HR7.cell 1
      refine bodyPost_ret (v := .agg #[.bool (decide (z < 0)), .slice p6 (ld z.natAbs).length c6]) (by simp [results, Tryd.results76, go_sem, c70, c71]) rfl ⟨_, rfl, ⟨_, rfl, ?_⟩, ?_⟩
      · have h1 : w4.heap.size ≤ wl.heap.size := HSX.out
        refine Sl.weak (H62.out.only (((Only.refl (fun k => k = w.heap.size + 1 + 1) w6).setCell (p := ⟨w.heap.size + 1 + 1, 0, none⟩) (fun _ => rfl) _).setCell (p := ⟨w.heap.size + 1 + 1, 1, none⟩) (fun _ => rfl) _) (fun k (h1 : wl.heap.size ≤ k) h2 => by have := HS4.out; omega)) (fun k (h : wl.heap.size ≤ k) => by omega)
      · have h1 := HBX.out.drew.trans (HB5.out.mono HBX.out.size)
        have h2 := h1.trans (HB6.out.mono h1.size)
        exact (h2.setCell (by show w.heap.size ≤ w.heap.size + 1 + 1; omega) _).setCell (by show w.heap.size ≤ w.heap.size + 1 + 1; omega) _
  · by_cases hxy : x < y
    · have HZ : Hid (sgn false ((y - x : Nat) : Int) = z1 + z2) := by
        show _ = _
        rw [hz1, hz2]; unfold sgn; simp; omega
      have DXY : decide (x < y) = true := decide_eq_true hxy
      have HOP := HSB.out hxy
      clear ha hb hz1 hz2 hx hy hsa hsb
      generalize z1 + z2 = z at *
      generalize (ld x).length = la at *
      generalize (ld y).length = lb at *
      obtain ⟨b0, b1, b2, hb4, hs4⟩ := boxes3 w [.bool true, .slice pa la ca] [.bool false, .slice pb lb cb] [.bool false, .slice none 0 0] 103
      go_enter Tryd.func76, Tryd.ntmps76
      go_wp2_with fail
      generalize (((w.alloc (.cells #[.bool true, .slice pa la ca] 103)).alloc (.cells #[.bool false, .slice pb lb cb] 103)).alloc (.cells #[.bool false, .slice none 0 0] 103)) = w4 at *
      have c00 : w4.cell? ⟨w.heap.size, 0, none⟩ = some (.bool true) := b0.cell 0
      have c01 : w4.cell? ⟨w.heap.size, 1, none⟩ = some (.slice pa la ca) := b0.cell 1
      have c10 : w4.cell? ⟨w.heap.size + 1, 0, none⟩ = some (.bool false) := b1.cell 0
      have c11 : w4.cell? ⟨w.heap.size + 1, 1, none⟩ = some (.slice pb lb cb) := b1.cell 1
      have B0 := Lib.hid b0
      have B1 := Lib.hid b1
      have B2 := Lib.hid b2
      have HB4 := Lib.hid hb4
      have HS4 := Lib.hid hs4
      have hl0 : w.heap.size < w4.heap.size := by omega
      have hl1 : w.heap.size + 1 < w4.heap.size := by omega
      clear b0 b1 b2 hb4 hs4
      go_wp2_with (go_at_call 106; refine (HLS.out _ HB4.out).mono ?_; clear HLS; rintro e wl ⟨rfl, hbl⟩; rw [DXY])
      have d00 : wl.cell? ⟨w.heap.size, 0, none⟩ = some (.bool true) := (B0.out.below hbl).cell 0
      have d01 : wl.cell? ⟨w.heap.size, 1, none⟩ = some (.slice pa la ca) := (B0.out.below hbl).cell 1
      have d10 : wl.cell? ⟨w.heap.size + 1, 0, none⟩ = some (.bool false) := (B1.out.below hbl).cell 0
      have d11 : wl.cell? ⟨w.heap.size + 1, 1, none⟩ = some (.slice pb lb cb) := (B1.out.below hbl).cell 1
      have m0 : w.heap.size < wl.heap.size := Nat.lt_of_lt_of_le hl0 hbl.size
      have m1 : w.heap.size + 1 < wl.heap.size := Nat.lt_of_lt_of_le hl1 hbl.size
      have BX := Lib.hid (B2.out.below hbl)
      have HSX := Lib.hid hbl.size
      have HBX := Lib.hid (HB4.out.trans (hbl.mono (by omega)))
      clear hbl
      go_wp2
      refine wp_region_lit_plan [] [(0, 0), (2, 0), (4, 0), (1, 2), (3, 1), (5, 1), (6, 3), (7, 4), (8, 4)] (fun k => k < wl.heap.size) (by kernel_rfl) (by kernel_rfl) (fun c a d v w h => by cases d <;> exact h) ?_
      go_wp2_with (first
        | (refine plan_pure (v := _) (by rfl) (by rfl) (by rfl) (by intro _; go_simp; with_reducible rfl) ?_; simp only [List.setIfInBounds_toArray, List.set_cons_zero, List.set_cons_succ]; try go_bits) | (refine plan_read (v := _) (by rfl) (by rfl) (by rfl) (by go_simp; with_reducible rfl) ?_; simp only [List.setIfInBounds_toArray, List.set_cons_zero, List.set_cons_succ]; try go_bits) | (refine plan_readB (v := _) (by rfl) (by rfl) (by rfl) (by intro _ hag; unfold Agree at hag; go_simp; with_reducible rfl) ?_; simp only [List.setIfInBounds_toArray, List.set_cons_zero, List.set_cons_succ]; try go_bits) | (refine plan_skip0 (by rfl) (by rfl) (by rfl) ?_; simp only [List.setIfInBounds_toArray, List.set_cons_zero, List.set_cons_succ]; try go_bits) | (refine plan_skip1 (by rfl) (by rfl) (by rfl) ?_; simp only [List.setIfInBounds_toArray, List.set_cons_zero, List.set_cons_succ]; try go_bits) | (refine plan_skip2 (by rfl) (by rfl) (by rfl) ?_; simp only [List.setIfInBounds_toArray, List.set_cons_zero, List.set_cons_succ]; try go_bits) | (refine plan_skip4 (by rfl) (by rfl) (by rfl) ?_; simp only [List.setIfInBounds_toArray, List.set_cons_zero, List.set_cons_succ]; try go_bits) | (refine plan_any (by rfl) ?_) | (refine plan_keep (by rfl) ?_) | (refine plan_nil ?_) | (with_reducible refine And.intro (by first | assumption | exact Agree.refl _ _ | exact agree_drew _ _ | exact agree_alloc _ (by intro k hk; subst hk; first | omega | (simp; omega))) ?_) | (unfold Act.put; simp only [List.setIfInBounds_toArray, List.set_cons_zero, List.set_cons_succ])
        | (go_at_call 107; refine (HOP.out _ (HBX.out.drew)).mono ?_; clear HOP; rintro e w5 ⟨v5, d5, rfl, h51, h52, h53, h54, hb5⟩; obtain ⟨p5, c5, rfl, h55, h56⟩ := h54.form;
           have hag : Agree (fun k => k < wl.heap.size) wl.drew w5 := agree_bel hb5 (fun k hk => hk);
           have HSG5 := Lib.hid (HSG.out w5 _ false _ d5 h51 h54 h53); rw [h52, HZ.out] at HSG5;
           have B25 := Lib.hid (BX.out.drew.below hb5); have HB5 := Lib.hid hb5; clear hb5 h54 h51 h53 h52)
        | (go_at_call 104; refine HSG5.out.mono ?_; rintro e w6 ⟨v6, rfl, ⟨dv6, rfl, h62⟩, hb6⟩; obtain ⟨p6, c6, rfl, h65, h66⟩ := h62.form; have H62 := Lib.hid h62;
           have hag6 : Agree (fun k => k < wl.heap.size) w5 w6 := agree_bel hb6 (fun k hk => Nat.lt_of_lt_of_le hk HB5.out.size);
           have B26 := Lib.hid (B25.out.below hb6);
           have c20 : w6.cell? ⟨w.heap.size + 1 + 1, 0, none⟩ = some (.bool false) := B26.out.cell 0;
           have c21 : w6.cell? ⟨w.heap.size + 1 + 1, 1, none⟩ = some (.slice none 0 0) := B26.out.cell 1;
           have hf6 : ∀ i, w6.frozen? ⟨w.heap.size + 1 + 1, i, none⟩ = false := B26.out.frozen; have HB6 := Lib.hid hb6; clear hb6 h62))
      have HR7 := (B26.out.set 0 (.bool (decide (z < 0)))).set 1 (.slice p6 (ld z.natAbs).length c6)
      have c70 := HR7.cell 0
      have c71 := HR7.cell 1
      refine bodyPost_ret (v := .agg #[.bool (decide (z < 0)), .slice p6 (ld z.natAbs).length c6]) (by simp [results, Tryd.results76, go_sem, c70, c71]) rfl ⟨_, rfl, ⟨_, rfl, ?_⟩, ?_⟩
      · have h1 : w4.heap.size ≤ wl.heap.size := HSX.out
        refine Sl.weak (H62.out.only (((Only.refl (fun k => k = w.heap.size + 1 + 1) w6).setCell (p := ⟨w.heap.size + 1 + 1, 0, none⟩) (fun _ => rfl) _).setCell (p := ⟨w.heap.size + 1 + 1, 1, none⟩) (fun _ => rfl) _) (fun k (h1 : wl.heap.size ≤ k) h2 => by have := HS4.out; omega)) (fun k (h : wl.heap.size ≤ k) => by omega)
      · have h1 := HBX.out.drew.trans (HB5.out.mono HBX.out.size)
        have h2 := h1.trans (HB6.out.mono h1.size)
        exact (h2.setCell (by show w.heap.size ≤ w.heap.size + 1 + 1; omega) _).setCell (by show w.heap.size ≤ w.heap.size + 1 + 1; omega) _
    · have HZ : Hid (sgn true ((x - y : Nat) : Int) = z1 + z2) := by
        show _ = _
        rw [hz1, hz2]; unfold sgn; simp; omega
      have DXY : decide (x < y) = false := decide_eq_false hxy
      have HOP := HSA.out (Nat.le_of_not_lt hxy)
      clear ha hb hz1 hz2 hx hy hsa hsb
      generalize z1 + z2 = z at *
      generalize (ld x).length = la at *
      generalize (ld y).length = lb at *
      obtain ⟨b0, b1, b2, hb4, hs4⟩ := boxes3 w [.bool true, .slice pa la ca] [.bool false, .slice pb lb cb] [.bool false, .slice none 0 0] 103
      go_enter Tryd.func76, Tryd.ntmps76
      go_wp2_with fail
      generalize (((w.alloc (.cells #[.bool true, .slice pa la ca] 103)).alloc (.cells #[.bool false, .slice pb lb cb] 103)).alloc (.cells #[.bool false, .slice none 0 0] 103)) = w4 at *
      have c00 : w4.cell? ⟨w.heap.size, 0, none⟩ = some (.bool true) := b0.cell 0
      have c01 : w4.cell? ⟨w.heap.size, 1, none⟩ = some (.slice pa la ca) := b0.cell 1
      have c10 : w4.cell? ⟨w.heap.size + 1, 0, none⟩ = some (.bool false) := b1.cell 0
      have c11 : w4.cell? ⟨w.heap.size + 1, 1, none⟩ = some (.slice pb lb cb) := b1.cell 1
      have B0 := Lib.hid b0
      have B1 := Lib.hid b1
      have B2 := Lib.hid b2
      have HB4 := Lib.hid hb4
      have HS4 := Lib.hid hs4
      have hl0 : w.heap.size < w4.heap.size := by omega
      have hl1 : w.heap.size + 1 < w4.heap.size := by omega
      clear b0 b1 b2 hb4 hs4
      go_wp2_with (go_at_call 106; refine (HLS.out _ HB4.out).mono ?_; clear HLS; rintro e wl ⟨rfl, hbl⟩; rw [DXY])
      have d00 : wl.cell? ⟨w.heap.size, 0, none⟩ = some (.bool true) := (B0.out.below hbl).cell 0
      have d01 : wl.cell? ⟨w.heap.size, 1, none⟩ = some (.slice pa la ca) := (B0.out.below hbl).cell 1
      have d10 : wl.cell? ⟨w.heap.size + 1, 0, none⟩ = some (.bool false) := (B1.out.below hbl).cell 0
      have d11 : wl.cell? ⟨w.heap.size + 1, 1, none⟩ = some (.slice pb lb cb) := (B1.out.below hbl).cell 1
      have m0 : w.heap.size < wl.heap.size := Nat.lt_of_lt_of_le hl0 hbl.size
      have m1 : w.heap.size + 1 < wl.heap.size := Nat.lt_of_lt_of_le hl1 hbl.size
      have BX := Lib.hid (B2.out.below hbl)
      have HSX := Lib.hid hbl.size
      have HBX := Lib.hid (HB4.out.trans (hbl.mono (by omega)))
      clear hbl
      go_wp2
      refine wp_region_lit_plan [] [(0, 0), (2, 0), (4, 0), (1, 2), (3, 1), (5, 1), (6, 3), (7, 4), (8, 4)] (fun k => k < wl.heap.size) (by kernel_rfl) (by kernel_rfl) (fun c a d v w h => by cases d <;> exact h) ?_
      go_wp2_with (first
        | (refine plan_pure (v := _) (by rfl) (by rfl) (by rfl) (by intro _; go_simp; with_reducible rfl) ?_; simp only [List.setIfInBounds_toArray, List.set_cons_zero, List.set_cons_succ]; try go_bits) | (refine plan_read (v := _) (by rfl) (by rfl) (by rfl) (by go_simp; with_reducible rfl) ?_; simp only [List.setIfInBounds_toArray, List.set_cons_zero, List.set_cons_succ]; try go_bits) | (refine plan_readB (v := _) (by rfl) (by rfl) (by rfl) (by intro _ hag; unfold Agree at hag; go_simp; with_reducible rfl) ?_; simp only [List.setIfInBounds_toArray, List.set_cons_zero, List.set_cons_succ]; try go_bits) | (refine plan_skip0 (by rfl) (by rfl) (by rfl) ?_; simp only [List.setIfInBounds_toArray, List.set_cons_zero, List.set_cons_succ]; try go_bits) | (refine plan_skip1 (by rfl) (by rfl) (by rfl) ?_; simp only [List.setIfInBounds_toArray, List.set_cons_zero, List.set_cons_succ]; try go_bits) | (refine plan_skip2 (by rfl) (by rfl) (by rfl) ?_; simp only [List.setIfInBounds_toArray, List.set_cons_zero, List.set_cons_succ]; try go_bits) | (refine plan_skip4 (by rfl) (by rfl) (by rfl) ?_; simp only [List.setIfInBounds_toArray, List.set_cons_zero, List.set_cons_succ]; try go_bits) | (refine plan_any (by rfl) ?_) | (refine plan_keep (by rfl) ?_) | (refine plan_nil ?_) | (with_reducible refine And.intro (by first | assumption | exact Agree.refl _ _ | exact agree_drew _ _ | exact agree_alloc _ (by intro k hk; subst hk; first | omega | (simp; omega))) ?_) | (unfold Act.put; simp only [List.setIfInBounds_toArray, List.set_cons_zero, List.set_cons_succ])
        | (go_at_call 107; refine (HOP.out _ (HBX.out.drew)).mono ?_; clear HOP; rintro e w5 ⟨v5, d5, rfl, h51, h52, h53, h54, hb5⟩; obtain ⟨p5, c5, rfl, h55, h56⟩ := h54.form;
           have hag : Agree (fun k => k < wl.heap.size) wl.drew w5 := agree_bel hb5 (fun k hk => hk);
           have HSG5 := Lib.hid (HSG.out w5 _ true _ d5 h51 h54 h53); rw [h52, HZ.out] at HSG5;
           have B25 := Lib.hid (BX.out.drew.below hb5); have HB5 := Lib.hid hb5; clear hb5 h54 h51 h53 h52)
        | (go_at_call 104; refine HSG5.out.mono ?_; rintro e w6 ⟨v6, rfl, ⟨dv6, rfl, h62⟩, hb6⟩; obtain ⟨p6, c6, rfl, h65, h66⟩ := h62.form; have H62 := Lib.hid h62;
           have hag6 : Agree (fun k => k < wl.heap.size) w5 w6 := agree_bel hb6 (fun k hk => Nat.lt_of_lt_of_le hk HB5.out.size);
           have B26 := Lib.hid (B25.out.below hb6);
           have c20 : w6.cell? ⟨w.heap.size + 1 + 1, 0, none⟩ = some (.bool false) := B26.out.cell 0;
           have c21 : w6.cell? ⟨w.heap.size + 1 + 1, 1, none⟩ = some (.slice none 0 0) := B26.out.cell 1;
           have hf6 : ∀ i, w6.frozen? ⟨w.heap.size + 1 + 1, i, none⟩ = false := B26.out.frozen; have HB6 := Lib.hid hb6; clear hb6 h62))
      have HR7 := (B26.out.set 0 (.bool (decide (z < 0)))).set 1 (.slice p6 (ld z.natAbs).length c6)
      have c70 := HR7.cell 0
      have c71 := HR7.cell 1
      refine bodyPost_ret (v := .agg #[.bool (decide (z < 0)), .slice p6 (ld z.natAbs).length c6]) (by simp [results, Tryd.results76, go_sem, c70, c71]) rfl ⟨_, rfl, ⟨_, rfl, ?_⟩, ?_⟩
      · have h1 : w4.heap.size ≤ wl.heap.size := HSX.out
        refine Sl.weak (H62.out.only (((Only.refl (fun k => k = w.heap.size + 1 + 1) w6).setCell (p := ⟨w.heap.size + 1 + 1, 0, none⟩) (fun _ => rfl) _).setCell (p := ⟨w.heap.size + 1 + 1, 1, none⟩) (fun _ => rfl) _) (fun k (h1 : wl.heap.size ≤ k) h2 => by have := HS4.out; omega)) (fun k (h : wl.heap.size ≤ k) => by omega)
      · have h1 := HBX.out.drew.trans (HB5.out.mono HBX.out.size)
        have h2 := h1.trans (HB6.out.mono h1.size)
        exact (h2.setCell (by show w.heap.size ≤ w.heap.size + 1 + 1; omega) _).setCell (by show w.heap.size ≤ w.heap.size + 1 + 1; omega) _
  · have HZ : Hid (sgn true ((x + y : Nat) : Int) = z1 + z2) := by
      show _ = _
      rw [hz1, hz2]; unfold sgn; simp <;> omega
    have HOP := HADD
    clear ha hb hz1 hz2 hx hy hsa hsb
    generalize z1 + z2 = z at *
    generalize (ld x).length = la at *
    generalize (ld y).length = lb at *
    obtain ⟨b0, b1, b2, hb4, hs4⟩ := boxes3 w [.bool true, .slice pa la ca] [.bool true, .slice pb lb cb] [.bool false, .slice none 0 0] 103
    go_enter Tryd.func76, Tryd.ntmps76
    go_wp2
    generalize (((w.alloc (.cells #[.bool true, .slice pa la ca] 103)).alloc (.cells #[.bool true, .slice pb lb cb] 103)).alloc (.cells #[.bool false, .slice none 0 0] 103)) = w4 at *
    have c00 : w4.cell? ⟨w.heap.size, 0, none⟩ = some (.bool true) := b0.cell 0
    have c01 : w4.cell? ⟨w.heap.size, 1, none⟩ = some (.slice pa la ca) := b0.cell 1
    have c10 : w4.cell? ⟨w.heap.size + 1, 0, none⟩ = some (.bool true) := b1.cell 0
    have c11 : w4.cell? ⟨w.heap.size + 1, 1, none⟩ = some (.slice pb lb cb) := b1.cell 1
    have B0 := Lib.hid b0
    have B1 := Lib.hid b1
    have B2 := Lib.hid b2
    have HB4 := Lib.hid hb4
    have HS4 := Lib.hid hs4
    have hl0 : w.heap.size < w4.heap.size := by omega
    have hl1 : w.heap.size + 1 < w4.heap.size := by omega
    clear b0 b1 b2 hb4 hs4
    have HBX := HB4
    have BX := B2
    have HSX := Lib.hid (Nat.le_refl w4.heap.size)
    refine wp_region_lit_plan [] [(0, 0), (2, 0), (4, 0), (1, 2), (3, 1), (5, 1), (6, 3), (7, 4), (8, 4)] (fun k => k < w4.heap.size) (by kernel_rfl) (by kernel_rfl) (fun c a d v w h => by cases d <;> exact h) ?_
    go_wp2_with (first
      | (refine plan_pure (v := _) (by rfl) (by rfl) (by rfl) (by intro _; go_simp; with_reducible rfl) ?_; simp only [List.setIfInBounds_toArray, List.set_cons_zero, List.set_cons_succ]; try go_bits) | (refine plan_read (v := _) (by rfl) (by rfl) (by rfl) (by go_simp; with_reducible rfl) ?_; simp only [List.setIfInBounds_toArray, List.set_cons_zero, List.set_cons_succ]; try go_bits) | (refine plan_readB (v := _) (by rfl) (by rfl) (by rfl) (by intro _ hag; unfold Agree at hag; go_simp; with_reducible rfl) ?_; simp only [List.setIfInBounds_toArray, List.set_cons_zero, List.set_cons_succ]; try go_bits) | (refine plan_skip0 (by rfl) (by rfl) (by rfl) ?_; simp only [List.setIfInBounds_toArray, List.set_cons_zero, List.set_cons_succ]; try go_bits) | (refine plan_skip1 (by rfl) (by rfl) (by rfl) ?_; simp only [List.setIfInBounds_toArray, List.set_cons_zero, List.set_cons_succ]; try go_bits) | (refine plan_skip2 (by rfl) (by rfl) (by rfl) ?_; simp only [List.setIfInBounds_toArray, List.set_cons_zero, List.set_cons_succ]; try go_bits) | (refine plan_skip4 (by rfl) (by rfl) (by rfl) ?_; simp only [List.setIfInBounds_toArray, List.set_cons_zero, List.set_cons_succ]; try go_bits) | (refine plan_any (by rfl) ?_) | (refine plan_keep (by rfl) ?_) | (refine plan_nil ?_) | (with_reducible refine And.intro (by first | assumption | exact Agree.refl _ _ | exact agree_drew _ _ | exact agree_alloc _ (by intro k hk; subst hk; first | omega | (simp; omega))) ?_) | (unfold Act.put; simp only [List.setIfInBounds_toArray, List.set_cons_zero, List.set_cons_succ])
      | (go_at_call 105; refine (HOP.out _ (HBX.out.drew)).mono ?_; clear HOP; rintro e w5 ⟨v5, d5, rfl, h51, h52, h53, h54, hb5⟩; obtain ⟨p5, c5, rfl, h55, h56⟩ := h54.form;
         have hag : Agree (fun k => k < w4.heap.size) w4.drew w5 := agree_bel hb5 (fun k hk => hk);
         have HSG5 := Lib.hid (HSG.out w5 _ true _ d5 h51 h54 h53); rw [h52, HZ.out] at HSG5;
         have B25 := Lib.hid (BX.out.drew.below hb5); have HB5 := Lib.hid hb5; clear hb5 h54 h51 h53 h52)
      | (go_at_call 104; refine HSG5.out.mono ?_; rintro e w6 ⟨v6, rfl, ⟨dv6, rfl, h62⟩, hb6⟩; obtain ⟨p6, c6, rfl, h65, h66⟩ := h62.form; have H62 := Lib.hid h62;
         have hag6 : Agree (fun k => k < w4.heap.size) w5 w6 := agree_bel hb6 (fun k hk => Nat.lt_of_lt_of_le hk HB5.out.size);
         have B26 := Lib.hid (B25.out.below hb6);
         have c20 : w6.cell? ⟨w.heap.size + 1 + 1, 0, none⟩ = some (.bool false) := B26.out.cell 0;
         have c21 : w6.cell? ⟨w.heap.size + 1 + 1, 1, none⟩ = some (.slice none 0 0) := B26.out.cell 1;
         have hf6 : ∀ i, w6.frozen? ⟨w.heap.size + 1 + 1, i, none⟩ = false := B26.out.frozen; have HB6 := Lib.hid hb6; clear hb6 h62))
    have HR7 := (B26.out.set 0 (.bool (decide (z < 0)))).set 1 (.slice p6 (ld z.natAbs).length c6)
    have c70 := HR7.cell 0
    have c71 := HR7.cell 1
    refine bodyPost_ret (v := .agg #[.bool (decide (z < 0)), .slice p6 (ld z.natAbs).length c6]) (by simp [results, Tryd.results76, go_sem, c70, c71]) rfl ⟨_, rfl, ⟨_, rfl, ?_⟩, ?_⟩
    · have h1 : w4.heap.size ≤ w4.heap.size := HSX.out
      refine Sl.weak (H62.out.only (((Only.refl (fun k => k = w.heap.size + 1 + 1) w6).setCell (p := ⟨w.heap.size + 1 + 1, 0, none⟩) (fun _ => rfl) _).setCell (p := ⟨w.heap.size + 1 + 1, 1, none⟩) (fun _ => rfl) _) (fun k (h1 : w4.heap.size ≤ k) h2 => by have := HS4.out; omega)) (fun k (h : w4.heap.size ≤ k) => by omega)
    · have h1 := HBX.out.drew.trans (HB5.out.mono HBX.out.size)
      have h2 := h1.trans (HB6.out.mono h1.size)
      exact (h2.setCell (by show w.heap.size ≤ w.heap.size + 1 + 1; omega) _).setCell (by show w.heap.size ≤ w.heap.size + 1 + 1; omega) _
end Go.Proofs.YtlgohkdckdnmhaaDoor
/- The document's numbers: Minus, Small; told. -/
namespace Go.Proofs.YtlgohkdckdnmhaaDoor
open Go.RowKit Go.Afx

theorem boxes2 (w : World) (A C : List Value) (t : TypeId) :
    Blk ((w.alloc (.cells A.toArray t)).alloc (.cells C.toArray t)) w.heap.size t A ∧
    Blk ((w.alloc (.cells A.toArray t)).alloc (.cells C.toArray t)) (w.heap.size + 1) t C ∧
    Below w.heap.size w ((w.alloc (.cells A.toArray t)).alloc (.cells C.toArray t)) ∧
    ((w.alloc (.cells A.toArray t)).alloc (.cells C.toArray t)).heap.size = w.heap.size + 2 := by
  have h1 := Blk.new w t A
  have h2 := Blk.new (w.alloc (.cells A.toArray t)) t C
  have e1 : (w.alloc (.cells A.toArray t)).heap.size = w.heap.size + 1 := by simp
  rw [e1] at h2
  refine ⟨h1.alloc _, h2, ?_, by simp⟩
  exact ((Below.refl _ _).alloc (Nat.le_refl _) _).alloc (by omega) _

theorem vd_drop_le (d : List Nat) (i : Nat) : vd (d.drop i) ≤ vd d := by
  rw [vd_split d i]
  have : vd (d.drop i) ≤ 10 ^ i * vd (d.drop i) := Nat.le_mul_of_pos_left _ (Nat.pow_pos (by omega))
  omega

theorem of_open (w : World) (n : Int) (hn : fits n) : Hid (Calls Tryd.prog 75 #[.int .i64 n] w fun e w' => ∃ p l c, e = .returned (.agg #[.bool (decide (n < 0)), .slice p l c]) ∧ (l = (ld n.natAbs).length ∧ Sl w' (fun k => w.heap.size < k) 1 (.slice p l c) l (nats (ld n.natAbs))) ∧ l ≤ 20 ∧ l ≤ c ∧ c ≤ 9223372036854775807 ∧ Below w.heap.size w w') :=
  (of_num w n hn).mono fun e w' ⟨v', he, ⟨dv, hv, hs⟩, hb⟩ => by
    subst he
    subst hv
    obtain ⟨p, c, rfl, h1, h2⟩ := hs.form
    have h3 := ld_len_le n.natAbs 20 (by unfold fits at hn; omega)
    exact ⟨p, _, c, rfl, ⟨rfl, hs⟩, h3, h1, h2, hb⟩

set_option maxRecDepth 100000 in
set_option maxHeartbeats 1000000 in
theorem small_num (w : World) (va : Value) (z : Int) (ha : IsNum w (fun _ => True) va z) (hla : (ld z.natAbs).length ≤ 10000) :
    Calls Tryd.prog 108 #[va] w fun e w' => e = .returned (.tuple #[.int .i64 (shortN z), .bool (decide (fits z))]) ∧ Below w.heap.size w w' := by
  obtain ⟨sa, x, pa, ca, rfl, hsa, hz1, hx, hc1, hc2⟩ := ha.open'
  rw [hx] at hla
  have HOF1 := Lib.hid (fun w => of_open w 9223372036854775807 (by unfold fits; omega))
  have HOF2 := Lib.hid (fun w => of_open w (-9223372036854775808) (by unfold fits; omega))
  have HLS : Hid (∀ (w' : World) (p : Option Addr) (l c m : Nat), Below w.heap.size w w' → (l = (ld m).length ∧ Sl w' (fun _ => True) 1 (.slice p l c) l (nats (ld m))) → l ≤ 20 → Calls Tryd.prog 106 #[.slice p l c, .slice pa (ld x).length ca] w' fun e w2 => e = .returned (.bool (decide (m < x))) ∧ Below w'.heap.size w' w2) := fun w' p l c m h h1 h2 => by
    obtain ⟨rfl, h1⟩ := h1
    exact less_any w' _ _ _ _ m x h1 (hsa.below h) (by omega) (by omega)
  have HSA := Lib.hid hsa
  have HX10 := Lib.hid (ld_D10 x)
  have HVX := Lib.hid (vd_ld x)
  have HWF := Lib.hid (fun i => vd_drop_le (ld x) i)
  clear ha hsa
  generalize hsn : shortN z = sn
  generalize hfz : decide (fits z) = fz
  have HSN := Lib.hid hsn
  have HFZ := Lib.hid hfz
  clear hsn hfz
  generalize hd : ld x = d at *
  have HDX := Lib.hid hd
  clear hd
  generalize hlen : d.length = la at *
  have HLEN := Lib.hid hlen
  clear hlen
  have hb0 := Blk.new w 103 [.bool sa, .slice pa la ca]
  have hbw : Below w.heap.size w (w.alloc (.cells #[.bool sa, .slice pa la ca] 103)) := (Below.refl _ _).alloc (Nat.le_refl _) _
  have hsz : (w.alloc (.cells #[.bool sa, .slice pa la ca] 103)).heap.size = w.heap.size + 1 := by simp
  cases sa
  · by_cases hxm : 9223372036854775807 < x
    · have DXM : decide (9223372036854775807 < x) = true := decide_eq_true hxm
      have hnf : ¬ fits z := by rw [hz1]; unfold fits sgn; simp; omega
      obtain rfl : sn = 0 := by rw [← HSN.out]; unfold shortN; rw [if_neg hnf]
      obtain rfl : fz = false := by rw [← HFZ.out]; exact decide_eq_false hnf
      clear hnf
      have HZ := Lib.hid hz1
      clear hz1 hx
      go_enter Tryd.func108, Tryd.ntmps108
      go_wp2_with fail
      generalize (w.alloc (.cells #[.bool false, .slice pa la ca] 103)) = w1 at *
      have HB0 := Lib.hid hb0
      have HBW := Lib.hid hbw
      have HSZ := Lib.hid hsz
      clear hb0 hbw hsz
      refine (HOF1.out w1).out.mono ?_
      rintro e w2 ⟨p1, l1, c1, rfl, hs1, hl1, hc11, hc12, hb2⟩
      have HS1 := Lib.hid hs1
      have HB2 := Lib.hid hb2
      have hB02 : Blk w2 w.heap.size 103 [.bool false, .slice pa la ca] := HB0.out.below hb2
      have hlt2 : w.heap.size < w2.heap.size := by have := hb2.size; have := HSZ.out; omega
      have e2 : decide ((9223372036854775807 : Int) < 0) = false := by decide
      rw [e2]
      have hB03 : Blk (w2.alloc (.cells #[.bool false, .slice p1 l1 c1] 103)) w.heap.size 103 [.bool false, .slice pa la ca] := hB02.alloc _
      have hB13 : Blk (w2.alloc (.cells #[.bool false, .slice p1 l1 c1] 103)) w2.heap.size 103 [.bool false, .slice p1 l1 c1] := Blk.new w2 _ _
      have hb3 : Below w2.heap.size w2 (w2.alloc (.cells #[.bool false, .slice p1 l1 c1] 103)) := (Below.refl _ _).alloc (Nat.le_refl _) _
      have hsz3 : (w2.alloc (.cells #[.bool false, .slice p1 l1 c1] 103)).heap.size = w2.heap.size + 1 := by simp
      have al : Hid ((w2.alloc (.cells #[.bool false, .slice p1 l1 c1] 103)) = (w2.alloc (.cells #[.bool false, .slice p1 l1 c1] 103))) := rfl
      generalize hw3 : (w2.alloc (.cells #[.bool false, .slice p1 l1 c1] 103)) = w3 at hB03 hB13 hb3 hsz3
      clear al
      have c00 : w3.cell? ⟨w.heap.size, 0, none⟩ = some (.bool false) := hB03.cell 0
      have c01 : w3.cell? ⟨w.heap.size, 1, none⟩ = some (.slice pa la ca) := hB03.cell 1
      have c10 : w3.cell? ⟨w2.heap.size, 0, none⟩ = some (.bool false) := hB13.cell 0
      have c11 : w3.cell? ⟨w2.heap.size, 1, none⟩ = some (.slice p1 l1 c1) := hB13.cell 1
      have HB03 := Lib.hid hB03
      have HB13 := Lib.hid hB13
      have HB3 := Lib.hid hb3
      have HSZ3 := Lib.hid hsz3
      clear hs1 hb2 e2 hB02 hB03 hB13 hb3 hsz3
      have HW3 : Hid (Below w.heap.size w w3) := by
        have h1 := HBW.out.trans (HB2.out.mono (by have := HSZ.out; omega))
        exact h1.trans (HB3.out.mono h1.size)
      have HLS3 := Lib.hid (HLS.out w3 p1 l1 c1 9223372036854775807 HW3.out ⟨HS1.out.1, Sl.weak (HS1.out.2.below HB3.out) (fun _ _ => trivial)⟩ hl1)
      have HBB := HB03
      have HWW := HW3
      rw [DXM] at HLS3
      go_wp2_with (first
        | rw [hw3]
        | (go_at_call 106; refine HLS3.out.mono ?_; rintro e wl ⟨rfl, hbl⟩;
           have HBL := Lib.hid (HBB.out.below hbl); have HWL := Lib.hid (HWW.out.trans (hbl.mono HWW.out.size)); clear hbl;
           have cl0 : wl.cell? ⟨w.heap.size, 0, none⟩ = some (.bool false) := HBL.out.cell 0;
           have cl1 : wl.cell? ⟨w.heap.size, 1, none⟩ = some (.slice pa la ca) := HBL.out.cell 1))
      go_ret2
      exact ⟨rfl, HWL.out⟩
    · have DXM : decide (9223372036854775807 < x) = false := decide_eq_false hxm
      have hxf : fits z := by rw [hz1]; unfold fits sgn; simp; omega
      obtain rfl : sn = z := by rw [← HSN.out]; unfold shortN; rw [if_pos hxf]
      obtain rfl : fz = true := by rw [← HFZ.out]; exact decide_eq_true hxf
      clear hxf
      have HZ := Lib.hid hz1
      clear hz1 hx
      go_enter Tryd.func108, Tryd.ntmps108
      go_wp2_with fail
      generalize (w.alloc (.cells #[.bool false, .slice pa la ca] 103)) = w1 at *
      have HB0 := Lib.hid hb0
      have HBW := Lib.hid hbw
      have HSZ := Lib.hid hsz
      clear hb0 hbw hsz
      refine (HOF1.out w1).out.mono ?_
      rintro e w2 ⟨p1, l1, c1, rfl, hs1, hl1, hc11, hc12, hb2⟩
      have HS1 := Lib.hid hs1
      have HB2 := Lib.hid hb2
      have hB02 : Blk w2 w.heap.size 103 [.bool false, .slice pa la ca] := HB0.out.below hb2
      have hlt2 : w.heap.size < w2.heap.size := by have := hb2.size; have := HSZ.out; omega
      have e2 : decide ((9223372036854775807 : Int) < 0) = false := by decide
      rw [e2]
      have hB03 : Blk (w2.alloc (.cells #[.bool false, .slice p1 l1 c1] 103)) w.heap.size 103 [.bool false, .slice pa la ca] := hB02.alloc _
      have hB13 : Blk (w2.alloc (.cells #[.bool false, .slice p1 l1 c1] 103)) w2.heap.size 103 [.bool false, .slice p1 l1 c1] := Blk.new w2 _ _
      have hb3 : Below w2.heap.size w2 (w2.alloc (.cells #[.bool false, .slice p1 l1 c1] 103)) := (Below.refl _ _).alloc (Nat.le_refl _) _
      have hsz3 : (w2.alloc (.cells #[.bool false, .slice p1 l1 c1] 103)).heap.size = w2.heap.size + 1 := by simp
      have al : Hid ((w2.alloc (.cells #[.bool false, .slice p1 l1 c1] 103)) = (w2.alloc (.cells #[.bool false, .slice p1 l1 c1] 103))) := rfl
      generalize hw3 : (w2.alloc (.cells #[.bool false, .slice p1 l1 c1] 103)) = w3 at hB03 hB13 hb3 hsz3
      clear al
      have c00 : w3.cell? ⟨w.heap.size, 0, none⟩ = some (.bool false) := hB03.cell 0
      have c01 : w3.cell? ⟨w.heap.size, 1, none⟩ = some (.slice pa la ca) := hB03.cell 1
      have c10 : w3.cell? ⟨w2.heap.size, 0, none⟩ = some (.bool false) := hB13.cell 0
      have c11 : w3.cell? ⟨w2.heap.size, 1, none⟩ = some (.slice p1 l1 c1) := hB13.cell 1
      have HB03 := Lib.hid hB03
      have HB13 := Lib.hid hB13
      have HB3 := Lib.hid hb3
      have HSZ3 := Lib.hid hsz3
      clear hs1 hb2 e2 hB02 hB03 hB13 hb3 hsz3
      have HW3 : Hid (Below w.heap.size w w3) := by
        have h1 := HBW.out.trans (HB2.out.mono (by have := HSZ.out; omega))
        exact h1.trans (HB3.out.mono h1.size)
      have HLS3 := Lib.hid (HLS.out w3 p1 l1 c1 9223372036854775807 HW3.out ⟨HS1.out.1, Sl.weak (HS1.out.2.below HB3.out) (fun _ _ => trivial)⟩ hl1)
      have HBB := HB03
      have HWW := HW3
      rw [DXM] at HLS3
      go_wp2_with (first
        | rw [hw3]
        | (go_at_call 106; refine HLS3.out.mono ?_; rintro e wl ⟨rfl, hbl⟩;
           have HBL := Lib.hid (HBB.out.below hbl); have HWL := Lib.hid (HWW.out.trans (hbl.mono HWW.out.size)); clear hbl;
           have cl0 : wl.cell? ⟨w.heap.size, 0, none⟩ = some (.bool false) := HBL.out.cell 0;
           have cl1 : wl.cell? ⟨w.heap.size, 1, none⟩ = some (.slice pa la ca) := HBL.out.cell 1))
      have HSL := Lib.hid (HSA.out.below HWL.out)
      have HX64 : Hid (x ≤ 9223372036854775808) := by show _ ≤ _; omega
      go_loopw [5, 6] (fun u i wr => ∃ j : Nat, i = .int .i64 ((j : Int) - 1) ∧ u = .int .u64 (vd (d.drop j)) ∧ j ≤ la ∧ wl = wr) (fun _ i _ => (intOf i + 1).toNat)
      case atStart => exact ⟨la, rfl, by rw [List.drop_of_length_le (by rw [HLEN.out]; exact Nat.le_refl _)]; rfl, Nat.le_refl _, rfl⟩
      case round =>
        obtain ⟨j, rfl, rfl, hj, rfl⟩ := hrel
        rcases Nat.eq_zero_or_pos j with rfl | hpos
        · have e5 : vd (d.drop 0) = x := by rw [List.drop_zero]; exact HVX.out
          rw [e5]
          clear e5
          have hzx : sn = x := HZ.out
          subst hzx
          have hx63 : (x : Int) ≤ 9223372036854775807 := by omega
          go_wp2
          go_ret2
          exact ⟨rfl, HWL.out⟩
        · obtain ⟨i, rfl⟩ : ∃ i, j = i + 1 := ⟨j - 1, by omega⟩
          have hia : i < d.length := by rw [HLEN.out]; omega
          have hsl := HSL.out
          rw [← HLEN.out] at hsl
          obtain ⟨g, off, cap', hv1, hg, hca⟩ := sl_nat hsl hia
          cases hv1
          have hdr := vd_drop d i hia
          have hle := HWF.out i
          rw [HVX.out] at hle
          have hdg : d[i] < 10 := HX10.out _ (List.getElem_mem hia)
          have HI := Lib.hid hia
          rw [hdr] at hle
          have HDR := Lib.hid hdr
          have hx64 := HX64.out
          clear hsl hdr
          generalize vd (d.drop (i + 1)) = u at *
          generalize d[i] = q at *
          have hu1 : 10 * (u : Int) + q < 18446744073709551616 := by omega
          have e9 : (10 : Int) * u + q = ((q + 10 * u : Nat) : Int) := by omega
          have hu2 : (u : Int) < 1844674407370955161 := by omega
          clear hle hx64 hia
          go_wp2
          refine ⟨⟨i, by go_num, by rw [HDR.out]; congr 1, by omega, trivial⟩, ?_⟩
          (simp [intOf]) <;> omega
  · by_cases hxm : 9223372036854775808 < x
    · have DXM : decide (9223372036854775808 < x) = true := decide_eq_true hxm
      have hnf : ¬ fits z := by rw [hz1]; unfold fits sgn; simp; omega
      obtain rfl : sn = 0 := by rw [← HSN.out]; unfold shortN; rw [if_neg hnf]
      obtain rfl : fz = false := by rw [← HFZ.out]; exact decide_eq_false hnf
      clear hnf
      have HZ := Lib.hid hz1
      clear hz1 hx
      go_enter Tryd.func108, Tryd.ntmps108
      go_wp2_with fail
      generalize (w.alloc (.cells #[.bool true, .slice pa la ca] 103)) = w1 at *
      have HB0 := Lib.hid hb0
      have HBW := Lib.hid hbw
      have HSZ := Lib.hid hsz
      clear hb0 hbw hsz
      refine (HOF1.out w1).out.mono ?_
      rintro e w2 ⟨p1, l1, c1, rfl, hs1, hl1, hc11, hc12, hb2⟩
      have HS1 := Lib.hid hs1
      have HB2 := Lib.hid hb2
      have hB02 : Blk w2 w.heap.size 103 [.bool true, .slice pa la ca] := HB0.out.below hb2
      have hlt2 : w.heap.size < w2.heap.size := by have := hb2.size; have := HSZ.out; omega
      have e2 : decide ((9223372036854775807 : Int) < 0) = false := by decide
      rw [e2]
      have hB03 : Blk (w2.alloc (.cells #[.bool false, .slice p1 l1 c1] 103)) w.heap.size 103 [.bool true, .slice pa la ca] := hB02.alloc _
      have hB13 : Blk (w2.alloc (.cells #[.bool false, .slice p1 l1 c1] 103)) w2.heap.size 103 [.bool false, .slice p1 l1 c1] := Blk.new w2 _ _
      have hb3 : Below w2.heap.size w2 (w2.alloc (.cells #[.bool false, .slice p1 l1 c1] 103)) := (Below.refl _ _).alloc (Nat.le_refl _) _
      have hsz3 : (w2.alloc (.cells #[.bool false, .slice p1 l1 c1] 103)).heap.size = w2.heap.size + 1 := by simp
      have al : Hid ((w2.alloc (.cells #[.bool false, .slice p1 l1 c1] 103)) = (w2.alloc (.cells #[.bool false, .slice p1 l1 c1] 103))) := rfl
      generalize hw3 : (w2.alloc (.cells #[.bool false, .slice p1 l1 c1] 103)) = w3 at hB03 hB13 hb3 hsz3
      clear al
      have c00 : w3.cell? ⟨w.heap.size, 0, none⟩ = some (.bool true) := hB03.cell 0
      have c01 : w3.cell? ⟨w.heap.size, 1, none⟩ = some (.slice pa la ca) := hB03.cell 1
      have c10 : w3.cell? ⟨w2.heap.size, 0, none⟩ = some (.bool false) := hB13.cell 0
      have c11 : w3.cell? ⟨w2.heap.size, 1, none⟩ = some (.slice p1 l1 c1) := hB13.cell 1
      have HB03 := Lib.hid hB03
      have HB13 := Lib.hid hB13
      have HB3 := Lib.hid hb3
      have HSZ3 := Lib.hid hsz3
      clear hs1 hb2 e2 hB02 hB03 hB13 hb3 hsz3
      have HW3 : Hid (Below w.heap.size w w3) := by
        have h1 := HBW.out.trans (HB2.out.mono (by have := HSZ.out; omega))
        exact h1.trans (HB3.out.mono h1.size)
      have HLS3 := Lib.hid (fun (w' : World) (p : Option Addr) (l c : Nat) => HLS.out w' p l c 9223372036854775808)
      rw [DXM] at HLS3
      go_wp2_with (first
        | rw [hw3])
      refine (HOF2.out w3).out.mono ?_
      rintro e w4 ⟨p4, l4, c4, rfl, hs4, hl4, hc41, hc42, hb4⟩
      have HS4 := Lib.hid hs4
      have HB4 := Lib.hid hb4
      clear hs4
      have HB14 := Lib.hid (HB13.out.below hb4)
      have HB04 := Lib.hid (HB03.out.below hb4)
      have hf4 : ∀ i, w4.frozen? ⟨w2.heap.size, i, none⟩ = false := HB14.out.frozen
      have k10 : w4.cell? ⟨w2.heap.size, 0, none⟩ = some (.bool false) := HB14.out.cell 0
      have k11 : w4.cell? ⟨w2.heap.size, 1, none⟩ = some (.slice p1 l1 c1) := HB14.out.cell 1
      have k00 : w4.cell? ⟨w.heap.size, 0, none⟩ = some (.bool true) := HB04.out.cell 0
      have k01 : w4.cell? ⟨w.heap.size, 1, none⟩ = some (.slice pa la ca) := HB04.out.cell 1
      clear hb4
      have e4 : decide ((-9223372036854775808 : Int) < 0) = true := by decide
      rw [e4]
      clear e4
      have HW4 := Lib.hid (HW3.out.trans (HB4.out.mono HW3.out.size))
      have hle2 : w.heap.size ≤ w2.heap.size := Nat.le_of_lt hlt2
      have HWW : Hid (Below w.heap.size w ((w4.setCell ⟨w2.heap.size, 0, none⟩ (.bool true)).setCell ⟨w2.heap.size, 1, none⟩ (.slice p4 l4 c4))) := (HW4.out.setCell hle2 _).setCell hle2 _
      have HBB : Hid (Blk ((w4.setCell ⟨w2.heap.size, 0, none⟩ (.bool true)).setCell ⟨w2.heap.size, 1, none⟩ (.slice p4 l4 c4)) w.heap.size 103 [.bool true, .slice pa la ca]) := (HB04.out.setOther (Nat.ne_of_lt hlt2) _).setOther (Nat.ne_of_lt hlt2) _
      have HS5 := Lib.hid (HS4.out.2.only (((Only.refl (fun k => k = w2.heap.size) w4).setCell (p := ⟨w2.heap.size, 0, none⟩) (fun _ => rfl) (.bool true)).setCell (p := ⟨w2.heap.size, 1, none⟩) (fun _ => rfl) (.slice p4 l4 c4)) (fun k (h1 : w3.heap.size < k) h2 => by have := HSZ3.out; omega))
      have HLS5 := Lib.hid (HLS3.out _ p4 l4 c4 HWW.out ⟨HS4.out.1, Sl.weak HS5.out (fun _ _ => trivial)⟩ hl4)
      go_wp2_with (first
        | (go_at_call 106; refine HLS5.out.mono ?_; rintro e wl ⟨rfl, hbl⟩;
           have HBL := Lib.hid (HBB.out.below hbl); have HWL := Lib.hid (HWW.out.trans (hbl.mono HWW.out.size)); clear hbl;
           have cl0 : wl.cell? ⟨w.heap.size, 0, none⟩ = some (.bool true) := HBL.out.cell 0;
           have cl1 : wl.cell? ⟨w.heap.size, 1, none⟩ = some (.slice pa la ca) := HBL.out.cell 1))
      go_ret2
      exact ⟨rfl, HWL.out⟩
    · have DXM : decide (9223372036854775808 < x) = false := decide_eq_false hxm
      have hxf : fits z := by rw [hz1]; unfold fits sgn; simp; omega
      obtain rfl : sn = z := by rw [← HSN.out]; unfold shortN; rw [if_pos hxf]
      obtain rfl : fz = true := by rw [← HFZ.out]; exact decide_eq_true hxf
      clear hxf
      have HZ := Lib.hid hz1
      clear hz1 hx
      go_enter Tryd.func108, Tryd.ntmps108
      go_wp2_with fail
      generalize (w.alloc (.cells #[.bool true, .slice pa la ca] 103)) = w1 at *
      have HB0 := Lib.hid hb0
      have HBW := Lib.hid hbw
      have HSZ := Lib.hid hsz
      clear hb0 hbw hsz
      refine (HOF1.out w1).out.mono ?_
      rintro e w2 ⟨p1, l1, c1, rfl, hs1, hl1, hc11, hc12, hb2⟩
      have HS1 := Lib.hid hs1
      have HB2 := Lib.hid hb2
      have hB02 : Blk w2 w.heap.size 103 [.bool true, .slice pa la ca] := HB0.out.below hb2
      have hlt2 : w.heap.size < w2.heap.size := by have := hb2.size; have := HSZ.out; omega
      have e2 : decide ((9223372036854775807 : Int) < 0) = false := by decide
      rw [e2]
      have hB03 : Blk (w2.alloc (.cells #[.bool false, .slice p1 l1 c1] 103)) w.heap.size 103 [.bool true, .slice pa la ca] := hB02.alloc _
      have hB13 : Blk (w2.alloc (.cells #[.bool false, .slice p1 l1 c1] 103)) w2.heap.size 103 [.bool false, .slice p1 l1 c1] := Blk.new w2 _ _
      have hb3 : Below w2.heap.size w2 (w2.alloc (.cells #[.bool false, .slice p1 l1 c1] 103)) := (Below.refl _ _).alloc (Nat.le_refl _) _
      have hsz3 : (w2.alloc (.cells #[.bool false, .slice p1 l1 c1] 103)).heap.size = w2.heap.size + 1 := by simp
      have al : Hid ((w2.alloc (.cells #[.bool false, .slice p1 l1 c1] 103)) = (w2.alloc (.cells #[.bool false, .slice p1 l1 c1] 103))) := rfl
      generalize hw3 : (w2.alloc (.cells #[.bool false, .slice p1 l1 c1] 103)) = w3 at hB03 hB13 hb3 hsz3
      clear al
      have c00 : w3.cell? ⟨w.heap.size, 0, none⟩ = some (.bool true) := hB03.cell 0
      have c01 : w3.cell? ⟨w.heap.size, 1, none⟩ = some (.slice pa la ca) := hB03.cell 1
      have c10 : w3.cell? ⟨w2.heap.size, 0, none⟩ = some (.bool false) := hB13.cell 0
      have c11 : w3.cell? ⟨w2.heap.size, 1, none⟩ = some (.slice p1 l1 c1) := hB13.cell 1
      have HB03 := Lib.hid hB03
      have HB13 := Lib.hid hB13
      have HB3 := Lib.hid hb3
      have HSZ3 := Lib.hid hsz3
      clear hs1 hb2 e2 hB02 hB03 hB13 hb3 hsz3
      have HW3 : Hid (Below w.heap.size w w3) := by
        have h1 := HBW.out.trans (HB2.out.mono (by have := HSZ.out; omega))
        exact h1.trans (HB3.out.mono h1.size)
      have HLS3 := Lib.hid (fun (w' : World) (p : Option Addr) (l c : Nat) => HLS.out w' p l c 9223372036854775808)
      rw [DXM] at HLS3
      go_wp2_with (first
        | rw [hw3])
      refine (HOF2.out w3).out.mono ?_
      rintro e w4 ⟨p4, l4, c4, rfl, hs4, hl4, hc41, hc42, hb4⟩
      have HS4 := Lib.hid hs4
      have HB4 := Lib.hid hb4
      clear hs4
      have HB14 := Lib.hid (HB13.out.below hb4)
      have HB04 := Lib.hid (HB03.out.below hb4)
      have hf4 : ∀ i, w4.frozen? ⟨w2.heap.size, i, none⟩ = false := HB14.out.frozen
      have k10 : w4.cell? ⟨w2.heap.size, 0, none⟩ = some (.bool false) := HB14.out.cell 0
      have k11 : w4.cell? ⟨w2.heap.size, 1, none⟩ = some (.slice p1 l1 c1) := HB14.out.cell 1
      have k00 : w4.cell? ⟨w.heap.size, 0, none⟩ = some (.bool true) := HB04.out.cell 0
      have k01 : w4.cell? ⟨w.heap.size, 1, none⟩ = some (.slice pa la ca) := HB04.out.cell 1
      clear hb4
      have e4 : decide ((-9223372036854775808 : Int) < 0) = true := by decide
      rw [e4]
      clear e4
      have HW4 := Lib.hid (HW3.out.trans (HB4.out.mono HW3.out.size))
      have hle2 : w.heap.size ≤ w2.heap.size := Nat.le_of_lt hlt2
      have HWW : Hid (Below w.heap.size w ((w4.setCell ⟨w2.heap.size, 0, none⟩ (.bool true)).setCell ⟨w2.heap.size, 1, none⟩ (.slice p4 l4 c4))) := (HW4.out.setCell hle2 _).setCell hle2 _
      have HBB : Hid (Blk ((w4.setCell ⟨w2.heap.size, 0, none⟩ (.bool true)).setCell ⟨w2.heap.size, 1, none⟩ (.slice p4 l4 c4)) w.heap.size 103 [.bool true, .slice pa la ca]) := (HB04.out.setOther (Nat.ne_of_lt hlt2) _).setOther (Nat.ne_of_lt hlt2) _
      have HS5 := Lib.hid (HS4.out.2.only (((Only.refl (fun k => k = w2.heap.size) w4).setCell (p := ⟨w2.heap.size, 0, none⟩) (fun _ => rfl) (.bool true)).setCell (p := ⟨w2.heap.size, 1, none⟩) (fun _ => rfl) (.slice p4 l4 c4)) (fun k (h1 : w3.heap.size < k) h2 => by have := HSZ3.out; omega))
      have HLS5 := Lib.hid (HLS3.out _ p4 l4 c4 HWW.out ⟨HS4.out.1, Sl.weak HS5.out (fun _ _ => trivial)⟩ hl4)
      go_wp2_with (first
        | (go_at_call 106; refine HLS5.out.mono ?_; rintro e wl ⟨rfl, hbl⟩;
           have HBL := Lib.hid (HBB.out.below hbl); have HWL := Lib.hid (HWW.out.trans (hbl.mono HWW.out.size)); clear hbl;
           have cl0 : wl.cell? ⟨w.heap.size, 0, none⟩ = some (.bool true) := HBL.out.cell 0;
           have cl1 : wl.cell? ⟨w.heap.size, 1, none⟩ = some (.slice pa la ca) := HBL.out.cell 1))
      have HSL := Lib.hid (HSA.out.below HWL.out)
      have HX64 : Hid (x ≤ 9223372036854775808) := by show _ ≤ _; omega
      go_loopw [5, 6] (fun u i wr => ∃ j : Nat, i = .int .i64 ((j : Int) - 1) ∧ u = .int .u64 (vd (d.drop j)) ∧ j ≤ la ∧ wl = wr) (fun _ i _ => (intOf i + 1).toNat)
      case atStart => exact ⟨la, rfl, by rw [List.drop_of_length_le (by rw [HLEN.out]; exact Nat.le_refl _)]; rfl, Nat.le_refl _, rfl⟩
      case round =>
        obtain ⟨j, rfl, rfl, hj, rfl⟩ := hrel
        rcases Nat.eq_zero_or_pos j with rfl | hpos
        · have e5 : vd (d.drop 0) = x := by rw [List.drop_zero]; exact HVX.out
          rw [e5]
          clear e5
          have hzx : sn = -x := HZ.out
          have hx63 : (x : Int) ≤ 9223372036854775808 := by omega
          have e7 : wrap64 (IntKind.u64.wrap (-(x : Int))) = sn := by rw [hzx]; unfold wrap64; rw [IntKind.wrap_u64]; omega
          go_wp2
          rw [e7]
          go_ret2
          exact ⟨rfl, HWL.out⟩
        · obtain ⟨i, rfl⟩ : ∃ i, j = i + 1 := ⟨j - 1, by omega⟩
          have hia : i < d.length := by rw [HLEN.out]; omega
          have hsl := HSL.out
          rw [← HLEN.out] at hsl
          obtain ⟨g, off, cap', hv1, hg, hca⟩ := sl_nat hsl hia
          cases hv1
          have hdr := vd_drop d i hia
          have hle := HWF.out i
          rw [HVX.out] at hle
          have hdg : d[i] < 10 := HX10.out _ (List.getElem_mem hia)
          have HI := Lib.hid hia
          rw [hdr] at hle
          have HDR := Lib.hid hdr
          have hx64 := HX64.out
          clear hsl hdr
          generalize vd (d.drop (i + 1)) = u at *
          generalize d[i] = q at *
          have hu1 : 10 * (u : Int) + q < 18446744073709551616 := by omega
          have e9 : (10 : Int) * u + q = ((q + 10 * u : Nat) : Int) := by omega
          have hu2 : (u : Int) < 1844674407370955161 := by omega
          clear hle hx64 hia
          go_wp2
          refine ⟨⟨i, by go_num, by rw [HDR.out]; congr 1, by omega, trivial⟩, ?_⟩
          (simp [intOf]) <;> omega
end Go.Proofs.YtlgohkdckdnmhaaDoor
/- The document's numbers: told, Sum. -/
namespace Go.Proofs.YtlgohkdckdnmhaaDoor
open Go.RowKit Go.Afx

/-- The sum, signed. -/
def msum (minus : Bool) (l : List Int) : Int := if minus then -l.sum else l.sum
theorem msum_next (minus : Bool) (l : List Int) (k : Nat) (h : k < l.length) : msum minus (l.take (k + 1)) = msum minus (l.take k) + (if minus then -l[k] else l[k]) := by
  unfold msum
  rw [sum_next l k h]
  cases minus <;> simp <;> omega
theorem msum_small (minus : Bool) (l : List Int) (hf : ∀ x ∈ l, fits x) (hl : l.length ≤ 1000) : (ld (msum minus l).natAbs).length ≤ 30 := by
  apply ld_len_le
  have h := sum_range l hf
  unfold msum
  have e : (10 : Nat) ^ 30 = 1000000000000000000000000000000 := by decide
  rw [e]
  split <;> omega
theorem fits_small {x : Int} (h : fits x) : (ld x.natAbs).length ≤ 30 := by
  have := ld_len_le x.natAbs 20 (by unfold fits at h; omega)
  omega
theorem IsNum.only {w w' : World} {S B : Nat → Prop} {v : Value} {z : Int} (h : IsNum w B v z) (ho : Only S w w') (hd : ∀ k, B k → ¬ S k) : IsNum w' B v z := by
  obtain ⟨dv, h1, h2⟩ := h
  exact ⟨dv, h1, h2.only ho hd⟩
/-- A new block beside: the number does not lie in it. -/
theorem IsNum.alloc' {w : World} {B B' : Nat → Prop} {v : Value} {z : Int} (h : IsNum w B v z) (o : Obj) (hB : ∀ k, B k → B' k) : IsNum (w.alloc o) (fun k => B' k ∧ k ≠ w.heap.size) v z := by
  obtain ⟨dv, h1, h2⟩ := h
  exact ⟨dv, h1, h2.mono (by simp) (fun k _ hk => heap_alloc_old w o hk) (fun k h3 h4 => ⟨hB k h3, by omega⟩)⟩
/-- A cell pair that holds a number. -/
theorem IsNum.parts {w : World} {B : Nat → Prop} {v : Value} {z : Int} (h : IsNum w B v z) : ∃ s p n c, v = .agg #[.bool s, .slice p n c] := by
  obtain ⟨s, x, p, c, rfl, _⟩ := h.open'
  exact ⟨s, p, _, c, rfl⟩

end Go.Proofs.YtlgohkdckdnmhaaDoor
/- The document's numbers: Times. -/
namespace Go.Proofs.YtlgohkdckdnmhaaDoor
open Go.RowKit Go.Afx

theorem mk_ints (w : World) (N : Nat) (h : N ≤ 1000000) :
    (Instr.makeSlice 40 (.int .i64 (N : Int)) (.int .i64 (N : Int))).run Tryd.prog w = .ok (.slice (some ⟨w.heap.size, 0, none⟩) N N) (w.alloc (.cells (nats (List.replicate N 0)).toArray 3)) := by
  obtain ⟨i, hi, hz, hsize, hby⟩ := elemInt.parts
  have hr := run_make (P := Tryd.prog) w 40 3 i (.int .i64 0) Tryd.underlying40 hi hz .i64 .i64 N N (by omega) (Int.le_refl _) (by rw [hby]; omega) (by omega)
  rw [hr, hsize]
  simp only [Int.toNat_natCast, Nat.mul_one]
  have e : madeCells (Value.int .i64 0).cells N = (nats (List.replicate N 0)).toArray := by
    apply Array.ext
    · simp [madeCells, nats, ints]
    · intro k h1 h2
      simp [madeCells, nats, ints, Value.cells, Nat.mod_one]
  rw [e]

/-- What Times keeps. -/
structure TimesS (w wr : World) (A Bv C : List Value) (out : List Nat) : Prop where
  a : Blk wr w.heap.size 103 A
  b : Blk wr (w.heap.size + 1) 103 Bv
  c : Blk wr (w.heap.size + 1 + 1) 103 C
  o : Blk wr (w.heap.size + 3) 3 (nats out)
  below : Below w.heap.size w wr
theorem TimesS.drew {w wr : World} {A Bv C : List Value} {out : List Nat} (h : TimesS w wr A Bv C out) : TimesS w wr.drew A Bv C out := ⟨h.a, h.b, h.c, h.o, h.below.drew⟩
theorem TimesS.set {w wr : World} {A Bv C : List Value} {out : List Nat} (h : TimesS w wr A Bv C out) (j x : Nat) : TimesS w (wr.setCell ⟨w.heap.size + 3, j, none⟩ (.int .i64 (x : Int))) A Bv C (out.set j x) :=
  ⟨h.a.setOther (show w.heap.size ≠ w.heap.size + 3 by omega) _, h.b.setOther (show w.heap.size + 1 ≠ w.heap.size + 3 by omega) _, h.c.setOther (show w.heap.size + 1 + 1 ≠ w.heap.size + 3 by omega) _,
    (nats_set out j x) ▸ h.o.set j _, h.below.setCell (show w.heap.size ≤ w.heap.size + 3 by omega) _⟩

theorem getD_set (out : List Nat) (j k v : Nat) : (out.set j v).getD k 0 = if k = j ∧ j < out.length then v else out.getD k 0 := by
  simp only [List.getD, List.getElem?_set]
  by_cases h1 : j = k
  · subst h1
    by_cases h2 : j < out.length
    · simp [h2]
    · simp [h2]
  · simp [h1, show ¬ k = j from fun h => h1 h.symm]

theorem carry_step (out : List Nat) (m : Nat) (h : m + 1 < out.length) :
    vd ((out.set (m + 1) (out.getD (m + 1) 0 + out.getD m 0 / 10)).set m (out.getD m 0 % 10)) = vd out := by
  have e1 : out.getD (m + 1) 0 = out[m + 1] := by simp [List.getD, h]
  have hm : m < out.length := by omega
  have e2 : out.getD m 0 = out[m] := by simp [List.getD, hm]
  rw [e1, e2]
  have h1 := vd_set out (m + 1) (out[m] / 10) h
  have hl : m < (out.set (m + 1) (out[m + 1] + out[m] / 10)).length := by simpa using hm
  have e3 : (out.set (m + 1) (out[m + 1] + out[m] / 10))[m] = out[m] := by rw [List.getElem_set]; simp
  have h2 := vd_set_sub (out.set (m + 1) (out[m + 1] + out[m] / 10)) m (out[m] % 10) hl (by rw [e3]; omega)
  rw [e3, h1] at h2
  have e4 : out[m] - out[m] % 10 = 10 * (out[m] / 10) := by omega
  have e5 : 10 ^ (m + 1) = 10 ^ m * 10 := Nat.pow_succ ..
  rw [e4, ← Nat.mul_assoc, e5] at h2
  omega

theorem D10_of_top (out : List Nat) (m : Nat) (hl : out.length = m + 1) (h : ∀ j, j < m → out.getD j 0 < 10) (hv : vd out < 10 ^ m) : D10 out := by
  have hs := vd_split out m
  have hm : m < out.length := by omega
  have hd := vd_drop out m hm
  rw [List.drop_of_length_le (show out.length ≤ m + 1 by omega)] at hd
  have h0 : out[m] = 0 := by
    rcases Nat.eq_zero_or_pos out[m] with h0 | h0
    · exact h0
    · have : 10 ^ m * 1 ≤ 10 ^ m * vd (out.drop m) := Nat.mul_le_mul_left _ (by rw [hd]; omega)
      omega
  intro x hx
  obtain ⟨j, hj, rfl⟩ := List.mem_iff_getElem.1 hx
  by_cases hjm : j < m
  · have := h j hjm
    simpa [List.getD, hj] using this
  · obtain rfl : j = m := by omega
    omega

end Go.Proofs.YtlgohkdckdnmhaaDoor
