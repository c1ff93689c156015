/- Keys: strings.ReplaceAll in one's own words; a value's key laid behind bytes. -/
import Derived.Test.YtlgohkdckdnmhaaDoorShelf
import Derived.Test.YtlgohkdckdnmhaaDoorEsc
import Derived.Test.YtlgohkdckdnmhaaDoorMemS
import Derived.Test.YtlgohkdckdnmhaaDoorRefE
import Derived.Laws.Bits64
namespace Go.Proofs.YtlgohkdckdnmhaaDoor
open Go.RowKit Go.Afx

/-- The library's variable holds a number. -/
def Mx (w : World) : Prop := ∃ m, w.cell? ⟨Tryd.lays155_ren.g 1, 0, none⟩ = some (.int .i64 m)
theorem Mx.below {w w' : World} (h : Mx w) (hb : Below w.heap.size w w') : Mx w' := by
  obtain ⟨m, hm⟩ := h
  exact ⟨m, (hb.cell (World.block_lt_of_cell? _ _ hm)).trans hm⟩
theorem Mx.only {S : Nat → Prop} {w w' : World} (h : Mx w) (hb : Only S w w') (hn : ¬ S (Tryd.lays155_ren.g 1)) : Mx w' := by
  obtain ⟨m, hm⟩ := h
  exact ⟨m, (hb.cell (World.block_lt_of_cell? _ _ hm) hn).trans hm⟩

theorem repl_any (w : World) (hm : Mx w) (s old new : ByteArray) (hs : s.size ≤ 1000000) (h1 : 1 ≤ old.size) (hn : new.size ≤ 2) :
    Calls Tryd.prog 71 #[.string s, .string old, .string new] w fun e w' => e = .returned (.string (bs (Lib.replaceAll s.data.toList old.data.toList new.data.toList))) ∧ Below w.heap.size w w' := by
  obtain ⟨m, hm⟩ := hm
  refine Tryd.strings_ReplaceAll s old new m w (by omega) hm h1 ?_
  have h2 := Lib.count_le s.data.toList old.data.toList
  have h3 := size_list s _ rfl
  have h4 : Lib.countB s old * new.size ≤ 1000001 * 2 := Nat.mul_le_mul (by show Lib.count _ _ ≤ _; omega) hn
  omega

/-- A number's bytes, the highest first. -/
def be : Nat → Nat → List UInt8
  | 0, _ => []
  | k + 1, u => be k (u / 256) ++ [UInt8.ofNat (u % 256)]
theorem be_length (k u : Nat) : (be k u).length = k := by
  induction k generalizing u with
  | zero => rfl
  | succ k ih => simp [be, ih]
/-- A number's place among the numbers from 0 on. -/
def up64 (n : Int) : Nat := (n + 9223372036854775808).toNat
/-- A value's key. -/
def keyB (v : AV) : List UInt8 :=
  if v.kind = 1 then 1 :: be 8 (up64 v.n) else if v.kind = 2 then 2 :: (esc 0 [0, 255] v.s.data.toList ++ [0, 1]) else [3, UInt8.ofNat v.n.toNat]
def keysB (l : List AV) : List UInt8 := (l.map keyB).flatten
theorem keyB_length (v : AV) (h : v.right = true) : (keyB v).length ≤ 410 := by
  unfold keyB
  split
  · simp [be_length]
  split
  · have h1 := (esc_length 0 0 255 v.s.data.toList).1
    have h2 := size_list v.s _ rfl
    unfold AV.right at h
    rename_i h3 h4
    simp [h4] at h
    simp only [List.length_cons, List.length_append, List.length_nil]
    omega
  · simp

theorem xor_top (x : Nat) (h : x < 18446744073709551616) : x ^^^ 9223372036854775808 = (x + 9223372036854775808) % 18446744073709551616 := by
  have h1 := Nat.xor_div_two_pow (a := x) (b := 9223372036854775808) (n := 63)
  have h2 := Nat.xor_mod_two_pow (a := x) (b := 9223372036854775808) (n := 63)
  have e1 : (2 : Nat) ^ 63 = 9223372036854775808 := by decide
  rw [e1] at h1 h2
  have e2 : 9223372036854775808 / 9223372036854775808 = 1 := by decide
  have e3 : 9223372036854775808 % 9223372036854775808 = 0 := by decide
  rw [e2] at h1
  rw [e3, Nat.xor_zero] at h2
  have h3 : x / 9223372036854775808 = 0 ∨ x / 9223372036854775808 = 1 := by omega
  rcases h3 with h3 | h3
  · rw [h3] at h1
    have : 0 ^^^ 1 = 1 := by decide
    omega
  · rw [h3] at h1
    have : 1 ^^^ 1 = 0 := by decide
    omega
theorem up64_xor (n : Int) (h : fit64 n) : bits .xor .u64 (IntKind.u64.wrap n) 9223372036854775808 = (up64 n : Int) := by
  rw [IntKind.wrap_u64]
  unfold fit64 at h
  obtain ⟨x, hx⟩ : ∃ x : Nat, n % 18446744073709551616 = x := ⟨(n % 18446744073709551616).toNat, by omega⟩
  have h1 := bits_xor_u64_nat x 9223372036854775808 (by omega) (by omega)
  rw [xor_top x (by omega)] at h1
  rw [hx]
  refine h1.trans ?_
  unfold up64
  omega
theorem up64_lt (n : Int) (h : fit64 n) : up64 n < 18446744073709551616 := by
  unfold fit64 at h; unfold up64; omega

/-- Bytes behind bytes: bv was there at w0; v holds l now. -/
def Grew (w0 : World) (bv : Value) (l : List UInt8) (v : Value) (w : World) : Prop :=
  Own w 5 1 v l.length (by8 l) ∧ Only (fun k => bv.ownBlock = some k) w0 w ∧ ∀ k, v.ownBlock = some k → bv.ownBlock = some k ∨ w0.heap.size ≤ k
theorem Grew.start {w : World} {bv : Value} {l : List UInt8} (h : Own w 5 1 bv l.length (by8 l)) : Grew w bv l bv w := ⟨h, Only.refl _ w, fun _ hk => .inl hk⟩
theorem Grew.push {w0 w w1 w2 : World} {bv v v2 : Value} {l r : List UInt8} {n m : Nat} {cs : List Value} (h : Grew w0 bv l v w) (hb : Below w.heap.size w w1) (g1 : Own w2 5 1 v2 (n + m) cs)
    (g2 : Only (fun k => v.ownBlock = some k) w1 w2) (g3 : v2.ownBlock = v.ownBlock ∨ v2.ownBlock = some w1.heap.size) (hn : n = l.length) (hm : m = r.length) (hc : cs = by8 l ++ by8 r) : Grew w0 bv (l ++ r) v2 w2 := by
  obtain ⟨h1, h2, h3⟩ := h
  subst hn; subst hm; subst hc
  refine ⟨by rw [List.length_append, by8_append]; exact g1, ?_, fun k hk => ?_⟩
  · refine (h2.trans (Only.of_none (S := fun k => bv.ownBlock = some k) hb) (fun _ _ hh => hh)).trans g2 fun i hi hk => ?_
    rcases h3 i hk with h4 | h4
    · exact h4
    · omega
  · rcases g3 with h4 | h4
    · rw [h4] at hk; exact h3 k hk
    · rw [h4] at hk
      have h5 : w1.heap.size = k := by simpa using hk
      have h6 := hb.size
      have h7 := h2.size
      exact .inr (by omega)
theorem Grew.of {w0 w : World} {bv v : Value} {l l' : List UInt8} (h : Grew w0 bv l v w) (e : l = l') : Grew w0 bv l' v w := e ▸ h
theorem sl_byte (w : World) (c : UInt8) (x : Int) (hx : x = (c.toNat : Int)) : Sl (w.alloc (.cells #[.int .u8 x] 5)) (fun _ => True) 1 (.slice (some ⟨w.heap.size, 0, none⟩) 1 1) 1 (by8 [c]) := by
  subst hx
  exact one_byte w c
theorem byte_of (u k : Nat) : ((u / k : Nat) : Int) % 256 = ((UInt8.ofNat (u / k % 256)).toNat : Int) := by
  rw [UInt8.toNat_ofNat']; omega

theorem be_step (u j : Nat) (h : j ≤ 7) : be (j + 1) (u / 256 ^ (8 - (j + 1))) = be j (u / 256 ^ (8 - j)) ++ [UInt8.ofNat (u / 256 ^ (7 - j) % 256)] := by
  have e1 : 8 - (j + 1) = 7 - j := by omega
  have e2 : 256 ^ (8 - j) = 256 ^ (7 - j) * 256 := by rw [← Nat.pow_succ]; congr 1; omega
  rw [be, e1, e2, Nat.div_div_eq_div_mul]
theorem byte_at8 (u j K : Nat) (h : 256 ^ (7 - j) = K) : ((u : Int) / (K : Int)) % 256 = ((UInt8.ofNat (u / 256 ^ (7 - j) % 256)).toNat : Int) := by
  rw [h, UInt8.toNat_ofNat']; omega
theorem byte_last (u : Nat) : (u : Int) % 256 = ((UInt8.ofNat (u / 256 ^ (7 - 7) % 256)).toNat : Int) := by
  have := byte_at8 u 7 1 rfl
  rwa [show ((1 : Nat) : Int) = 1 from rfl, Int.ediv_one] at this

set_option maxRecDepth 100000 in
theorem put_num (w : World) (bv : Value) (l : List UInt8) (n : Int) (s : ByteArray) (hf : fit64 n) (ho : Own w 5 1 bv l.length (by8 l)) (hl : l.length ≤ 100000) :
    Calls Tryd.prog 66 #[bv, .agg #[.int .i64 1, .int .i64 n, .string s]] w fun e w' => ∃ v', e = .returned v' ∧ Grew w bv (l ++ 1 :: be 8 (up64 n)) v' w' := by
  obtain ⟨p, cap, rfl, hc1, hc2⟩ := own_form ho
  have hx := up64_xor n hf
  have hlt := up64_lt n hf
  generalize up64 n = u at *
  obtain ⟨wb, hwb⟩ : ∃ wb, w.alloc (.cells #[.int .i64 1, .int .i64 n, .string s] 27) = wb := ⟨_, rfl⟩
  have hbb : Below w.heap.size w wb := by rw [← hwb]; exact (Below.refl _ _).alloc (Nat.le_refl _) _
  have hs0 := sl_byte wb 1 1 rfl
  have hal : Below w.heap.size w (wb.alloc (.cells #[.int .u8 1] 5)) := hbb.alloc hbb.size _
  have ho1 := ho.below hal
  have hk : Blk wb w.heap.size 27 [.int .i64 1, .int .i64 n, .string s] := by rw [← hwb]; exact Blk.new w _ _
  have hno : ¬ (Value.slice p l.length cap).ownBlock = some w.heap.size := fun h => by have := ho.lt _ h; omega
  have HK := Lib.hid (fun (w1 : World) (h : Only (fun k => (Value.slice p l.length cap).ownBlock = some k) (wb.alloc (.cells #[.int .u8 1] 5)) w1) => (hk.alloc (.cells #[.int .u8 1] 5)).only h hno)
  have t0 : wb.cell? ⟨w.heap.size, 0, none⟩ = some (.int .i64 1) := hk.cell 0
  have HG := Lib.hid (Grew.start ho)
  have HAL := Lib.hid hal
  clear hbb hal hk ho hno
  go_enter Tryd.func66, Tryd.ntmps66
  go_wp2_with (first
    | rw [hwb]
    | (at_builtin; refine wpList_app rfl _ _ rfl elemU8 (by rfl) ho1 (by rfl) hs0 (by unfold maxLen; omega) (by omega) ?_; intro v1 w1 g1 g2 g3 g4 g5; clear ho1 hs0
       have HK1 := HK.out w1 g2
       have t0 : w1.cell? ⟨w.heap.size, 0, none⟩ = some (.int .i64 1) := HK1.cell 0
       have t1 : w1.cell? ⟨w.heap.size, 1, none⟩ = some (.int .i64 n) := HK1.cell 1
       have G0 := Lib.hid (HG.out.push HAL.out g1 g2 g3 rfl rfl rfl); clear g1 g2 g3 g4 g5 HK1))
  clear HK HG HAL t0 t1 hlt
  go_loopw [0, 6] (fun v i wr => ∃ j : Nat, i = .int .i64 (56 - 8 * (j : Int)) ∧ j ≤ 8 ∧ Grew w (.slice p l.length cap) (l ++ [1] ++ be j (u / 256 ^ (8 - j))) v wr) (fun _ i _ => (intOf i + 8).toNat)
  case atStart => exact ⟨0, rfl, by omega, by rw [show be 0 (u / 256 ^ (8 - 0)) = [] from rfl, List.append_nil]; exact G0.out⟩
  case round =>
    obtain ⟨j, rfl, hj, hg⟩ := hrel
    obtain ⟨q, hq⟩ : ∃ q, l ++ [1] ++ be j (u / 256 ^ (8 - j)) = q := ⟨_, rfl⟩
    have hql : q.length = l.length + 1 + j := by rw [← hq]; simp only [List.length_append, be_length, List.length_cons, List.length_nil]
    rw [hq] at hg
    obtain ⟨pv, cv, rfl, hcv1, hcv2⟩ := own_form hg.1
    have HR := Lib.hid hg
    have HQ := Lib.hid hq
    clear hg hq
    have hj9 : j = 0 ∨ j = 1 ∨ j = 2 ∨ j = 3 ∨ j = 4 ∨ j = 5 ∨ j = 6 ∨ j = 7 ∨ j = 8 := by omega
    rcases hj9 with rfl | rfl | rfl | rfl | rfl | rfl | rfl | rfl | rfl
    · have hs1 := sl_byte wr (UInt8.ofNat (u / 256 ^ (7 - 0) % 256)) ((u : Int) / 72057594037927936 % 256) (byte_at8 u 0 72057594037927936 rfl)
      have hal : Below wr.heap.size wr (wr.alloc (.cells #[.int .u8 ((u : Int) / 72057594037927936 % 256)] 5)) := (Below.refl _ _).alloc (Nat.le_refl _) _
      have HB := Lib.hid hal
      have ho2 := HR.out.1.below hal
      have HE := Lib.hid (be_step u 0 (by omega))
      clear hal
      go_wp2_with (at_builtin; refine wpList_app rfl _ _ rfl elemU8 (by rfl) ho2 (by rfl) hs1 (by unfold maxLen; omega) (by omega) ?_; intro v7 w7 g1 g2 g3 g4 g5; clear ho2 hs1; have G7 := Lib.hid (HR.out.push HB.out g1 g2 g3 rfl rfl rfl); clear g1 g2 g3 g4 g5)
      refine ⟨⟨1, by go_num, by omega, ?_⟩, by (simp [intOf]) <;> omega⟩
      rw [HE.out, ← List.append_assoc, HQ.out]
      exact G7.out
    · have hs1 := sl_byte wr (UInt8.ofNat (u / 256 ^ (7 - 1) % 256)) ((u : Int) / 281474976710656 % 256) (byte_at8 u 1 281474976710656 rfl)
      have hal : Below wr.heap.size wr (wr.alloc (.cells #[.int .u8 ((u : Int) / 281474976710656 % 256)] 5)) := (Below.refl _ _).alloc (Nat.le_refl _) _
      have HB := Lib.hid hal
      have ho2 := HR.out.1.below hal
      have HE := Lib.hid (be_step u 1 (by omega))
      clear hal
      go_wp2_with (at_builtin; refine wpList_app rfl _ _ rfl elemU8 (by rfl) ho2 (by rfl) hs1 (by unfold maxLen; omega) (by omega) ?_; intro v7 w7 g1 g2 g3 g4 g5; clear ho2 hs1; have G7 := Lib.hid (HR.out.push HB.out g1 g2 g3 rfl rfl rfl); clear g1 g2 g3 g4 g5)
      refine ⟨⟨2, by go_num, by omega, ?_⟩, by (simp [intOf]) <;> omega⟩
      rw [HE.out, ← List.append_assoc, HQ.out]
      exact G7.out
    · have hs1 := sl_byte wr (UInt8.ofNat (u / 256 ^ (7 - 2) % 256)) ((u : Int) / 1099511627776 % 256) (byte_at8 u 2 1099511627776 rfl)
      have hal : Below wr.heap.size wr (wr.alloc (.cells #[.int .u8 ((u : Int) / 1099511627776 % 256)] 5)) := (Below.refl _ _).alloc (Nat.le_refl _) _
      have HB := Lib.hid hal
      have ho2 := HR.out.1.below hal
      have HE := Lib.hid (be_step u 2 (by omega))
      clear hal
      go_wp2_with (at_builtin; refine wpList_app rfl _ _ rfl elemU8 (by rfl) ho2 (by rfl) hs1 (by unfold maxLen; omega) (by omega) ?_; intro v7 w7 g1 g2 g3 g4 g5; clear ho2 hs1; have G7 := Lib.hid (HR.out.push HB.out g1 g2 g3 rfl rfl rfl); clear g1 g2 g3 g4 g5)
      refine ⟨⟨3, by go_num, by omega, ?_⟩, by (simp [intOf]) <;> omega⟩
      rw [HE.out, ← List.append_assoc, HQ.out]
      exact G7.out
    · have hs1 := sl_byte wr (UInt8.ofNat (u / 256 ^ (7 - 3) % 256)) ((u : Int) / 4294967296 % 256) (byte_at8 u 3 4294967296 rfl)
      have hal : Below wr.heap.size wr (wr.alloc (.cells #[.int .u8 ((u : Int) / 4294967296 % 256)] 5)) := (Below.refl _ _).alloc (Nat.le_refl _) _
      have HB := Lib.hid hal
      have ho2 := HR.out.1.below hal
      have HE := Lib.hid (be_step u 3 (by omega))
      clear hal
      go_wp2_with (at_builtin; refine wpList_app rfl _ _ rfl elemU8 (by rfl) ho2 (by rfl) hs1 (by unfold maxLen; omega) (by omega) ?_; intro v7 w7 g1 g2 g3 g4 g5; clear ho2 hs1; have G7 := Lib.hid (HR.out.push HB.out g1 g2 g3 rfl rfl rfl); clear g1 g2 g3 g4 g5)
      refine ⟨⟨4, by go_num, by omega, ?_⟩, by (simp [intOf]) <;> omega⟩
      rw [HE.out, ← List.append_assoc, HQ.out]
      exact G7.out
    · have hs1 := sl_byte wr (UInt8.ofNat (u / 256 ^ (7 - 4) % 256)) ((u : Int) / 16777216 % 256) (byte_at8 u 4 16777216 rfl)
      have hal : Below wr.heap.size wr (wr.alloc (.cells #[.int .u8 ((u : Int) / 16777216 % 256)] 5)) := (Below.refl _ _).alloc (Nat.le_refl _) _
      have HB := Lib.hid hal
      have ho2 := HR.out.1.below hal
      have HE := Lib.hid (be_step u 4 (by omega))
      clear hal
      go_wp2_with (at_builtin; refine wpList_app rfl _ _ rfl elemU8 (by rfl) ho2 (by rfl) hs1 (by unfold maxLen; omega) (by omega) ?_; intro v7 w7 g1 g2 g3 g4 g5; clear ho2 hs1; have G7 := Lib.hid (HR.out.push HB.out g1 g2 g3 rfl rfl rfl); clear g1 g2 g3 g4 g5)
      refine ⟨⟨5, by go_num, by omega, ?_⟩, by (simp [intOf]) <;> omega⟩
      rw [HE.out, ← List.append_assoc, HQ.out]
      exact G7.out
    · have hs1 := sl_byte wr (UInt8.ofNat (u / 256 ^ (7 - 5) % 256)) ((u : Int) / 65536 % 256) (byte_at8 u 5 65536 rfl)
      have hal : Below wr.heap.size wr (wr.alloc (.cells #[.int .u8 ((u : Int) / 65536 % 256)] 5)) := (Below.refl _ _).alloc (Nat.le_refl _) _
      have HB := Lib.hid hal
      have ho2 := HR.out.1.below hal
      have HE := Lib.hid (be_step u 5 (by omega))
      clear hal
      go_wp2_with (at_builtin; refine wpList_app rfl _ _ rfl elemU8 (by rfl) ho2 (by rfl) hs1 (by unfold maxLen; omega) (by omega) ?_; intro v7 w7 g1 g2 g3 g4 g5; clear ho2 hs1; have G7 := Lib.hid (HR.out.push HB.out g1 g2 g3 rfl rfl rfl); clear g1 g2 g3 g4 g5)
      refine ⟨⟨6, by go_num, by omega, ?_⟩, by (simp [intOf]) <;> omega⟩
      rw [HE.out, ← List.append_assoc, HQ.out]
      exact G7.out
    · have hs1 := sl_byte wr (UInt8.ofNat (u / 256 ^ (7 - 6) % 256)) ((u : Int) / 256 % 256) (byte_at8 u 6 256 rfl)
      have hal : Below wr.heap.size wr (wr.alloc (.cells #[.int .u8 ((u : Int) / 256 % 256)] 5)) := (Below.refl _ _).alloc (Nat.le_refl _) _
      have HB := Lib.hid hal
      have ho2 := HR.out.1.below hal
      have HE := Lib.hid (be_step u 6 (by omega))
      clear hal
      go_wp2_with (at_builtin; refine wpList_app rfl _ _ rfl elemU8 (by rfl) ho2 (by rfl) hs1 (by unfold maxLen; omega) (by omega) ?_; intro v7 w7 g1 g2 g3 g4 g5; clear ho2 hs1; have G7 := Lib.hid (HR.out.push HB.out g1 g2 g3 rfl rfl rfl); clear g1 g2 g3 g4 g5)
      refine ⟨⟨7, by go_num, by omega, ?_⟩, by (simp [intOf]) <;> omega⟩
      rw [HE.out, ← List.append_assoc, HQ.out]
      exact G7.out
    · have hs1 := sl_byte wr (UInt8.ofNat (u / 256 ^ (7 - 7) % 256)) ((u : Int) % 256) (byte_last u)
      have hal : Below wr.heap.size wr (wr.alloc (.cells #[.int .u8 ((u : Int) % 256)] 5)) := (Below.refl _ _).alloc (Nat.le_refl _) _
      have HB := Lib.hid hal
      have ho2 := HR.out.1.below hal
      have HE := Lib.hid (be_step u 7 (by omega))
      clear hal
      go_wp2_with (at_builtin; refine wpList_app rfl _ _ rfl elemU8 (by rfl) ho2 (by rfl) hs1 (by unfold maxLen; omega) (by omega) ?_; intro v7 w7 g1 g2 g3 g4 g5; clear ho2 hs1; have G7 := Lib.hid (HR.out.push HB.out g1 g2 g3 rfl rfl rfl); clear g1 g2 g3 g4 g5)
      refine ⟨⟨8, by go_num, by omega, ?_⟩, by (simp [intOf]) <;> omega⟩
      rw [HE.out, ← List.append_assoc, HQ.out]
      exact G7.out
    · go_wp2
      go_ret
      have h7 := HQ.out
      simp only [Nat.sub_self, Nat.pow_zero, Nat.div_one, List.append_assoc, List.singleton_append] at h7
      rw [h7]
      exact ⟨_, rfl, HR.out⟩

theorem byteCells_by8 (s : ByteArray) : byteCells s = by8 s.data.toList := rfl
theorem byteCells_bs (l : List UInt8) : byteCells (bs l) = by8 l := by rw [byteCells_by8, bs_data]

set_option maxRecDepth 100000 in
theorem put_text (w : World) (hm : Mx w) (bv : Value) (l : List UInt8) (n : Int) (s : ByteArray) (hs : s.size ≤ 1000) (ho : Own w 5 1 bv l.length (by8 l)) (hbm : ¬ bv.ownBlock = some (Tryd.lays155_ren.g 1)) (hl : l.length ≤ 100000) :
    Calls Tryd.prog 66 #[bv, .agg #[.int .i64 2, .int .i64 n, .string s]] w fun e w' => ∃ v', e = .returned v' ∧ Grew w bv (l ++ 2 :: (esc 0 [0, 255] s.data.toList ++ [0, 1])) v' w' := by
  obtain ⟨p, cap, rfl, hc1, hc2⟩ := own_form ho
  obtain ⟨wb, hwb⟩ : ∃ wb, w.alloc (.cells #[.int .i64 2, .int .i64 n, .string s] 27) = wb := ⟨_, rfl⟩
  have hbb : Below w.heap.size w wb := by rw [← hwb]; exact (Below.refl _ _).alloc (Nat.le_refl _) _
  have hs0 := sl_byte wb 2 2 rfl
  have hal : Below w.heap.size w (wb.alloc (.cells #[.int .u8 2] 5)) := hbb.alloc hbb.size _
  have ho1 := ho.below hal
  have hk : Blk wb w.heap.size 27 [.int .i64 2, .int .i64 n, .string s] := by rw [← hwb]; exact Blk.new w _ _
  have hno : ¬ (Value.slice p l.length cap).ownBlock = some w.heap.size := fun h => by have := ho.lt _ h; omega
  have HK := Lib.hid (fun (w1 : World) (h : Only (fun k => (Value.slice p l.length cap).ownBlock = some k) (wb.alloc (.cells #[.int .u8 2] 5)) w1) => (hk.alloc (.cells #[.int .u8 2] 5)).only h hno)
  have t0 : wb.cell? ⟨w.heap.size, 0, none⟩ = some (.int .i64 2) := hk.cell 0
  have HG := Lib.hid (Grew.start ho)
  have HAL := Lib.hid hal
  have HM := Lib.hid (hm.below hal)
  have HBM := Lib.hid hbm
  have e255 : (⟨#[0, 255]⟩ : ByteArray).data.toList = [0, 255] := rfl
  have e0 : (⟨#[0]⟩ : ByteArray).data.toList = [0] := rfl
  have HR := Lib.hid (fun (w : World) (h : Mx w) => repl_any w h s ⟨#[0]⟩ ⟨#[0, 255]⟩ (by omega) (by decide) (by decide))
  rw [e0, e255, replaceAll_one 0 [0, 255] (by decide)] at HR
  have hel := (esc_length 0 0 255 s.data.toList).1
  have hsz := size_list s _ rfl
  generalize esc 0 [0, 255] s.data.toList = x at *
  have hx : (bs x).size ≤ 2000 := by rw [bs_size]; omega
  have hxl : (bs x).size = x.length := bs_size x
  have hcx := Lib.hid (byteCells_bs x)
  clear hbb hal hk ho hno hm hbm e255 e0 hel hsz
  generalize hbx : bs x = sx at *
  clear hbx
  go_enter Tryd.func66, Tryd.ntmps66
  go_wp2_with (first
    | rw [hwb]
    | (at_builtin; refine wpList_app rfl _ _ rfl elemU8 (by rfl) ho1 (by rfl) hs0 (by unfold maxLen; omega) (by omega) ?_; intro v1 w1 g1 g2 g3 g4 g5; clear ho1 hs0
       have HK1 := HK.out w1 g2
       have t0 : w1.cell? ⟨w.heap.size, 0, none⟩ = some (.int .i64 2) := HK1.cell 0
       have t2 : w1.cell? ⟨w.heap.size, 2, none⟩ = some (.string s) := HK1.cell 2
       have HM1 := Lib.hid (HM.out.only g2 HBM.out)
       have G0 := Lib.hid (HG.out.push HAL.out g1 g2 g3 rfl rfl rfl); clear g1 g2 g3 g4 g5 HK1 HK HG HAL)
    | (go_at_call 71; refine (HR.out _ HM1.out).mono ?_; clear HR; rintro e w2 ⟨rfl, hb2⟩; have HB2 := Lib.hid hb2; have ho2 := G0.out.1.below hb2; clear hb2)
    | (at_builtin; refine wpList_app_str rfl _ _ rfl elemU8 Tryd.underlying9 (by rfl) ho2 sx (by rfl) (by simp only [List.length_append, List.length_cons, List.length_nil]; omega) ?_; intro v3 w3 g1 g2 g3 g4; clear ho2
       have G2 := Lib.hid (G0.out.push HB2.out g1 g2 g3 rfl hxl (by rw [hcx.out])); have ho3 := G2.out.1; clear g1 g2 g3 g4)
    | (at_builtin; refine wpList_app_str rfl _ _ rfl elemU8 Tryd.underlying9 (by rfl) ho3 ⟨#[0, 1]⟩ (by rfl) (by simp only [List.length_append, List.length_cons, List.length_nil, ← hxl]; show _ + 2 ≤ _; omega) ?_; intro v4 w4 g1 g2 g3 g4; clear ho3
       have G3 := Lib.hid (G2.out.push (Below.refl _ _) g1 g2 g3 rfl rfl (byteCells_by8 ⟨#[0, 1]⟩ ▸ rfl)); clear g1 g2 g3 g4))
  go_ret
  exact ⟨_, rfl, G3.out.of (by simp)⟩

set_option maxRecDepth 100000 in
theorem put_bool (w : World) (bv : Value) (l : List UInt8) (n : Int) (s : ByteArray) (hn : n = 0 ∨ n = 1) (ho : Own w 5 1 bv l.length (by8 l)) (hl : l.length ≤ 100000) :
    Calls Tryd.prog 66 #[bv, .agg #[.int .i64 3, .int .i64 n, .string s]] w fun e w' => ∃ v', e = .returned v' ∧ Grew w bv (l ++ [3, UInt8.ofNat n.toNat]) v' w' := by
  obtain ⟨p, cap, rfl, hc1, hc2⟩ := own_form ho
  obtain ⟨wb, hwb⟩ : ∃ wb, w.alloc (.cells #[.int .i64 3, .int .i64 n, .string s] 27) = wb := ⟨_, rfl⟩
  have hbb : Below w.heap.size w wb := by rw [← hwb]; exact (Below.refl _ _).alloc (Nat.le_refl _) _
  have hs0 := sl_byte wb 3 3 rfl
  have hal : Below w.heap.size w (wb.alloc (.cells #[.int .u8 3] 5)) := hbb.alloc hbb.size _
  have ho1 := ho.below hal
  have hk : Blk wb w.heap.size 27 [.int .i64 3, .int .i64 n, .string s] := by rw [← hwb]; exact Blk.new w _ _
  have hno : ¬ (Value.slice p l.length cap).ownBlock = some w.heap.size := fun h => by have := ho.lt _ h; omega
  have HK := Lib.hid (fun (w1 : World) (h : Only (fun k => (Value.slice p l.length cap).ownBlock = some k) (wb.alloc (.cells #[.int .u8 3] 5)) w1) => (hk.alloc (.cells #[.int .u8 3] 5)).only h hno)
  have t0 : wb.cell? ⟨w.heap.size, 0, none⟩ = some (.int .i64 3) := hk.cell 0
  have HG := Lib.hid (Grew.start ho)
  have HAL := Lib.hid hal
  have hbyte : n = ((UInt8.ofNat n.toNat).toNat : Int) := by rcases hn with rfl | rfl <;> rfl
  have HS2 := Lib.hid (fun w => sl_byte w (UInt8.ofNat n.toNat) n hbyte)
  have hnr : 0 ≤ n ∧ n ≤ 255 := by omega
  obtain ⟨hn0, hn1⟩ := hnr
  clear hbb hal hk ho hno hbyte hn
  go_enter Tryd.func66, Tryd.ntmps66
  go_wp2_with (first
    | rw [hwb]
    | (at_builtin; refine wpList_app rfl _ _ rfl elemU8 (by rfl) ho1 (by rfl) hs0 (by unfold maxLen; omega) (by omega) ?_; intro v1 w1 g1 g2 g3 g4 g5; clear ho1 hs0
       have HK1 := HK.out w1 g2
       have t0 : w1.cell? ⟨w.heap.size, 0, none⟩ = some (.int .i64 3) := HK1.cell 0
       have t1 : w1.cell? ⟨w.heap.size, 1, none⟩ = some (.int .i64 n) := HK1.cell 1
       have hs5 := HS2.out w1
       have HB1 : Hid (Below w1.heap.size w1 (w1.alloc (.cells #[.int .u8 n] 5))) := (Below.refl _ _).alloc (Nat.le_refl _) _
       have G0 := Lib.hid (HG.out.push HAL.out g1 g2 g3 rfl rfl rfl); have ho2 := G0.out.1.below HB1.out; clear g1 g2 g3 g4 g5 HK1 HK HG HAL)
    | (at_builtin; refine wpList_app rfl _ _ rfl elemU8 (by rfl) ho2 (by rfl) hs5 (by unfold maxLen; simp only [List.length_append, List.length_cons, List.length_nil]; omega) (by simp only [List.length_append, List.length_cons, List.length_nil]; omega) ?_; intro v3 w3 g1 g2 g3 g4 g5; clear ho2 hs5
       have G2 := Lib.hid (G0.out.push HB1.out g1 g2 g3 rfl rfl rfl); clear g1 g2 g3 g4))
  go_ret
  exact ⟨_, rfl, G2.out.of (by simp)⟩

theorem put_any (w : World) (hm : Mx w) (bv : Value) (l : List UInt8) (v : AV) (hr : v.right = true) (hf : fit64 v.n) (ho : Own w 5 1 bv l.length (by8 l)) (hbm : ¬ bv.ownBlock = some (Tryd.lays155_ren.g 1)) (hl : l.length ≤ 100000) :
    Calls Tryd.prog 66 #[bv, v.agg] w fun e w' => ∃ v', e = .returned v' ∧ Grew w bv (l ++ keyB v) v' w' := by
  obtain ⟨k, n, s⟩ := v
  unfold AV.right at hr
  simp only [AV.agg, keyB] at hr hf ⊢
  by_cases h1 : k = 1
  · subst h1
    rw [if_pos rfl]
    exact put_num w bv l n s hf ho hl
  rw [if_neg h1]
  by_cases h2 : k = 2
  · subst h2
    rw [if_pos rfl]
    simp at hr
    exact put_text w hm bv l n s (by omega) ho hbm hl
  rw [if_neg h2]
  simp [h1, h2] at hr
  obtain ⟨⟨rfl, h4⟩, _⟩ := hr
  exact put_bool w bv l n s h4 ho hl

theorem keysB_next (l : List AV) (k : Nat) (h : k < l.length) : keysB (l.take (k + 1)) = keysB (l.take k) ++ keyB l[k] := by
  unfold keysB
  rw [← List.take_append_getElem h, List.map_append, List.flatten_append]
  simp only [List.map_cons, List.map_nil, List.flatten_cons, List.flatten_nil, List.append_nil]
theorem keysB_len (l : List AV) (h : rightAll l = true) (k : Nat) : (keysB (l.take k)).length ≤ 410 * (l.take k).length := by
  unfold rightAll at h
  rw [List.all_eq_true] at h
  have h2 : ∀ a ∈ l.take k, a.right = true := fun a ha => h a (List.mem_of_mem_take ha)
  generalize l.take k = m at *
  unfold keysB
  induction m with
  | nil => simp
  | cons a m ih =>
    have h3 := keyB_length a (h2 a (by simp))
    have h4 := ih (fun b hb => h2 b (by simp [hb]))
    simp only [List.map_cons, List.flatten_cons, List.length_append, List.length_cons]
    omega

/-- A row's key. -/
def rowKey (l : List AV) : List UInt8 := if rightAll l then keysB l else []

set_option maxRecDepth 100000 in
theorem key_any (w : World) (hm : Mx w) (B : Nat → Prop) (v : Value) (l : List AV) (hl : Sl w B 3 v l.length (rowCells l)) (hf : ∀ a ∈ l, fit64 a.n) (hll : l.length ≤ 200) :
    Calls Tryd.prog 27 #[v] w fun e w' => e = .returned (.string (bs (rowKey l))) ∧ Below w.heap.size w w' := by
  obtain ⟨p, cap, rfl, hc1, hc2⟩ := hl.form
  have HL := Lib.hid hl
  have HM := Lib.hid hm
  have HF := Lib.hid hf
  have HR := Lib.hid (right_any w B _ l hl (by omega))
  clear hl hm hf
  cases hr : rightAll l
  · rw [hr] at HR
    have e1 : bs (rowKey l) = ⟨#[]⟩ := by unfold rowKey; rw [hr]; rfl
    rw [e1]
    clear hr e1
    go_enter Tryd.func27, Tryd.ntmps27
    go_wp2_with (go_at_call 17; refine HR.out.mono ?_; clear HR; rintro e w2 ⟨rfl, hb2⟩)
    go_ret
    exact ⟨rfl, hb2⟩
  · rw [hr] at HR
    have e1 : rowKey l = keysB l := by unfold rowKey; rw [hr]; rfl
    rw [e1]
    have HRR := Lib.hid hr
    clear hr e1
    go_enter Tryd.func27, Tryd.ntmps27
    go_wp2_with (go_at_call 17; refine HR.out.mono ?_; clear HR; rintro e w2 ⟨rfl, hb2⟩; have HB2 := Lib.hid hb2; clear hb2)
    go_loopw [3, 11] (fun v i wr => ∃ k : Nat, i = .int .i64 k ∧ k ≤ l.length ∧ Own wr 5 1 v (keysB (l.take k)).length (by8 (keysB (l.take k))) ∧ (∀ q, v.ownBlock = some q → w.heap.size ≤ q) ∧ Below w.heap.size w wr) (fun _ i _ => l.length - (intOf i).toNat)
    case atStart => exact ⟨0, rfl, Nat.zero_le _, Own.nil _ _ _, by simp [Value.ownBlock], HB2.out⟩
    case round =>
      obtain ⟨k, rfl, hk, hown, hnew, hbr⟩ := hrel
      have hlen := keysB_len l HRR.out k
      rw [List.length_take] at hlen
      have HN := Lib.hid (fun h => keysB_next l k h)
      generalize hq : keysB (l.take k) = q at *
      obtain ⟨pv, cv, rfl, hcv1, hcv2⟩ := own_form hown
      have HOWN := Lib.hid hown
      have HNEW := Lib.hid hnew
      have HBR := Lib.hid hbr
      have HLR := HL.out.below hbr
      clear hown hnew hbr
      by_cases hka : k < l.length
      · obtain ⟨g, off, cap', hv, hg, e0, e1, e2⟩ := sl_av HLR hka
        cases hv
        have hrk : l[k].right = true := by
          have := HRR.out
          unfold rightAll at this
          rw [List.all_eq_true] at this
          exact this _ (List.getElem_mem hka)
        have hfk := HF.out _ (List.getElem_mem hka)
        have HN2 := Lib.hid (HN.out hka)
        clear HN HLR
        generalize l[k] = x at *
        have hal : Below wr.heap.size wr (wr.alloc (.cells #[.int .i64 x.kind, .int .i64 x.n, .string x.s] 27)) := (Below.refl _ _).alloc (Nat.le_refl _) _
        have hmr := ((HM.out.below HBR.out).below hal)
        have HP := Lib.hid (put_any _ hmr (.slice pv q.length cv) q x hrk hfk (HOWN.out.below hal) (fun h => by
          have h1 := HNEW.out _ h
          obtain ⟨m, h2⟩ := HM.out
          have h3 : Tryd.lays155_ren.g 1 < w.heap.size := World.block_lt_of_cell? _ _ h2
          omega) (by omega))
        have hag : x.agg = .agg #[.int .i64 x.kind, .int .i64 x.n, .string x.s] := rfl
        rw [hag] at HP
        have HAL := Lib.hid hal
        clear hrk hfk hal hmr hag
        go_wp2_with (go_at_call 66; refine HP.out.mono ?_; clear HP; rintro e w3 ⟨v3, rfl, hg3⟩; have HG3 := Lib.hid hg3; clear hg3)
        refine ⟨⟨k + 1, by go_num, by omega, ?_, fun z hz => ?_, ?_⟩, by (simp [intOf]) <;> omega⟩
        · rw [HN2.out]; exact HG3.out.1
        · have h5 := HBR.out.size
          have h6 := HAL.out.size
          rcases HG3.out.2.2 z hz with h | h
          · exact HNEW.out z h
          · omega
        · exact (HBR.out.trans (HAL.out.mono HBR.out.size)).trans (HG3.out.2.1.below (by have := HBR.out.size; have := HAL.out.size; omega) (fun z hz => HNEW.out z hz))
      · obtain rfl : k = l.length := by omega
        rw [List.take_length] at hq
        subst hq
        have kc := sl_string wr (fun _ => True) _ (keysB l) (HOWN.out.sl (fun _ _ => trivial))
        go_wp2
        go_ret
        exact ⟨rfl, HBR.out⟩
end Go.Proofs.YtlgohkdckdnmhaaDoor
