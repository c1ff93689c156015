/- Plain: keys stand in the order of their rows. -/
import Derived.Test.YtlgohkdckdnmhaaDoorKyA
import Derived.Test.YtlgohkdckdnmhaaDoorCmp
namespace Go.Proofs.YtlgohkdckdnmhaaDoor
open Go.RowKit Go.Afx

theorem less_common (p x y : List UInt8) : Op.bytesLess (p ++ x) (p ++ y) = Op.bytesLess x y := by
  induction p with
  | nil => rfl
  | cons c p ih =>
    show (decide (c < c) || (c == c && Op.bytesLess (p ++ x) (p ++ y))) = _
    have : ¬ c < c := UInt8.lt_irrefl c
    simp [this, ih]
/-- Two lists part at a byte; which one's is less. -/
def Apart (lt : Bool) (x y : List UInt8) : Prop := ∃ p c d x' y', x = p ++ c :: x' ∧ y = p ++ d :: y' ∧ (if lt then c < d else d < c)
theorem Apart.more {lt : Bool} {x y : List UInt8} (h : Apart lt x y) (r s : List UInt8) : Apart lt (x ++ r) (y ++ s) := by
  obtain ⟨p, c, d, x', y', rfl, rfl, h⟩ := h
  exact ⟨p, c, d, x' ++ r, y' ++ s, by simp, by simp, h⟩
theorem Apart.pre {lt : Bool} {x y : List UInt8} (h : Apart lt x y) (q : List UInt8) : Apart lt (q ++ x) (q ++ y) := by
  obtain ⟨p, c, d, x', y', rfl, rfl, h⟩ := h
  exact ⟨q ++ p, c, d, x', y', by simp, by simp, h⟩
theorem Apart.swap {x y : List UInt8} (h : Apart true x y) : Apart false y x := by
  obtain ⟨p, c, d, x', y', rfl, rfl, h⟩ := h
  exact ⟨p, d, c, y', x', rfl, rfl, by simpa using h⟩
theorem Apart.less {x y : List UInt8} (h : Apart true x y) : Op.bytesLess x y = true := by
  obtain ⟨p, c, d, x', y', rfl, rfl, h⟩ := h
  rw [less_common]
  have h2 : c < d := by simpa using h
  show (decide (c < d) || _) = true
  simp [h2]
theorem Apart.neq {lt : Bool} {x y : List UInt8} (h : Apart lt x y) : ¬ x <+: y := by
  obtain ⟨p, c, d, x', y', rfl, rfl, h⟩ := h
  intro hp
  obtain ⟨t, ht⟩ := hp
  rw [List.append_assoc] at ht
  have h2 := List.append_cancel_left ht
  have h3 : c = d := by simpa using (List.cons.inj h2).1
  subst h3
  cases lt <;> simp at h
theorem Apart.cmp {lt : Bool} {x y : List UInt8} (h : Apart lt x y) : cmpL x y = if lt then -1 else 1 := by
  unfold cmpL
  cases lt
  · have h2 : Apart true y x := by
      obtain ⟨p, c, d, x', y', rfl, rfl, h⟩ := h
      exact ⟨p, d, c, y', x', rfl, rfl, by simpa using h⟩
    have h3 := less_asymm _ _ h2.less
    rw [h3]
    have h4 : (x == y) = false := by
      rw [beq_eq_false_iff_ne]
      intro e
      subst e
      exact h.neq (List.prefix_refl _)
    rw [h4]; rfl
  · rw [h.less]; rfl

theorem ofNat_lt (a b : Nat) (h : a < b) (hb : b < 256) : UInt8.ofNat a < UInt8.ofNat b := by
  rw [UInt8.lt_iff_toNat_lt, UInt8.toNat_ofNat', UInt8.toNat_ofNat']; omega
theorem be_apart (k u v : Nat) (h : u < v) (hv : v < 256 ^ k) : Apart true (be k u) (be k v) := by
  induction k generalizing u v with
  | zero => simp at hv; omega
  | succ k ih =>
    rw [be, be]
    rw [Nat.pow_succ] at hv
    by_cases h2 : u / 256 = v / 256
    · rw [h2]
      exact ⟨be k (v / 256), _, _, [], [], rfl, rfl, by simp; exact ofNat_lt _ _ (by omega) (by omega)⟩
    · exact (ih (u / 256) (v / 256) (by omega) (by omega)).more _ _
theorem pos_lt (d : UInt8) (h : d ≠ 0) : (0 : UInt8) < d := by
  rw [UInt8.lt_iff_toNat_lt]
  have : d.toNat ≠ 0 := fun e => h (UInt8.toNat_inj.1 e)
  show 0 < d.toNat
  omega
theorem esc_apart : ∀ (s t : List UInt8), Op.bytesLess s t = true → Apart true (esc 0 [0, 255] s ++ [0, 1]) (esc 0 [0, 255] t ++ [0, 1])
  | _, [], h => by simp [Op.bytesLess] at h
  | [], d :: t, _ => by
    unfold esc
    by_cases hd : d = 0
    · subst hd
      rw [if_pos rfl]
      exact ⟨[0], 1, 255, [], esc 0 [0, 255] t ++ [0, 1], rfl, rfl, by decide⟩
    · rw [if_neg hd]
      exact ⟨[], 0, d, [1], esc 0 [0, 255] t ++ [0, 1], rfl, rfl, by simpa using pos_lt d hd⟩
  | c :: s, d :: t, h => by
    simp only [Op.bytesLess, Bool.or_eq_true, Bool.and_eq_true, decide_eq_true_eq, beq_iff_eq] at h
    unfold esc
    rcases h with h | ⟨rfl, h⟩
    · by_cases hc : c = 0
      · subst hc
        have hd : d ≠ 0 := fun e => by subst e; exact UInt8.lt_irrefl _ h
        rw [if_pos rfl, if_neg hd]
        exact ⟨[], 0, d, _, _, rfl, rfl, by simpa using h⟩
      · have hd : d ≠ 0 := fun e => by
          subst e
          rw [UInt8.lt_iff_toNat_lt] at h
          exact absurd h (Nat.not_lt_zero _)
        rw [if_neg hc, if_neg hd]
        exact ⟨[], c, d, _, _, rfl, rfl, by simpa using h⟩
    · have ih := esc_apart s t h
      have e1 : ∀ x y : List UInt8, (if c = 0 then [0, 255] else [c]) ++ x ++ y = (if c = 0 then [0, 255] else [c]) ++ (x ++ y) := fun x y => List.append_assoc _ _ _
      rw [e1, e1]
      exact ih.pre _
theorem up_lt (n m : Int) (h : n < m) (hn : fit64 n) : up64 n < up64 m := by unfold up64; unfold fit64 at hn; omega

theorem emptyT (s : ByteArray) (h : s.toList.isEmpty = true) : s.toList = [] := by simpa using h
theorem key_apart (u v : AV) (hu : u.right = true) (hv : v.right = true) (fu : fit64 u.n) (fv : fit64 v.n) (h : cmpV u v = -1) : Apart true (keyB u) (keyB v) := by
  obtain ⟨k, n, s⟩ := u
  obtain ⟨k', n', s'⟩ := v
  have hk : k = 1 ∨ k = 2 ∨ k = 3 := by
    unfold AV.right at hu
    by_cases h1 : k = 1
    · exact .inl h1
    by_cases h2 : k = 2
    · exact .inr (.inl h2)
    · simp [h1, h2] at hu
      exact .inr (.inr hu.1.1)
  have hk' : k' = 1 ∨ k' = 2 ∨ k' = 3 := by
    unfold AV.right at hv
    by_cases h1 : k' = 1
    · exact .inl h1
    by_cases h2 : k' = 2
    · exact .inr (.inl h2)
    · simp [h1, h2] at hv
      exact .inr (.inr hv.1.1)
  have hf : ∀ (k n : Int) (s : ByteArray), k = 1 ∨ k = 2 ∨ k = 3 → ∃ t, keyB ⟨k, n, s⟩ = UInt8.ofNat k.toNat :: t := fun k n s h => by
    rcases h with rfl | rfl | rfl
    · exact ⟨_, rfl⟩
    · exact ⟨_, rfl⟩
    · exact ⟨_, rfl⟩
  unfold cmpV at h
  simp only at h fu fv
  by_cases hkk : k = k'
  · subst hkk
    have e0 : cmpI k k = 0 := by unfold cmpI; simp
    rw [e0, if_neg (by simp)] at h
    unfold AV.right at hu hv
    simp only at hu hv
    rcases hk with rfl | rfl | rfl
    · simp at hu hv
      have es : s.toList = s'.toList := by
        have h1 := emptyT s (by simpa using hu)
        have h2 := emptyT s' (by simpa using hv)
        rw [h1, h2]
      have ec : cmpL s.toList s'.toList = 0 := by unfold cmpL; rw [es, less_irrefl]; simp
      rw [ec] at h
      have hnn : n < n' := by
        unfold cmpI at h
        by_cases h1 : n < n'
        · exact h1
        · rw [if_neg h1] at h
          split at h <;> simp at h
      exact ((be_apart 8 _ _ (up_lt n n' hnn fu) (up64_lt n' fv)).pre [1])
    · simp at hu hv
      obtain ⟨rfl, _⟩ := hu
      obtain ⟨rfl, _⟩ := hv
      have e1 : cmpI 0 0 = 0 := by decide
      rw [e1, if_neg (by simp)] at h
      have hl : Op.bytesLess s.toList s'.toList = true := by
        unfold cmpL at h
        split at h
        · assumption
        · split at h <;> simp at h
      rw [ByteArray.toList_eq, ByteArray.toList_eq] at hl
      exact (esc_apart _ _ hl).pre [2]
    · simp at hu hv
      have es : s.toList = s'.toList := by
        have h1 := emptyT s (by simpa using hu.2)
        have h2 := emptyT s' (by simpa using hv.2)
        rw [h1, h2]
      have ec : cmpL s.toList s'.toList = 0 := by unfold cmpL; rw [es, less_irrefl]; simp
      rw [ec] at h
      have hnn : n < n' := by
        unfold cmpI at h
        by_cases h1 : n < n'
        · exact h1
        · rw [if_neg h1] at h
          split at h <;> simp at h
      obtain ⟨rfl, rfl⟩ : n = 0 ∧ n' = 1 := by rcases hu.1 with rfl | rfl <;> rcases hv.1 with rfl | rfl <;> omega
      exact ⟨[3], 0, 1, [], [], rfl, rfl, by decide⟩
  · have hlt : k < k' := by
      unfold cmpI at h
      by_cases h1 : k < k'
      · exact h1
      · have h2 : k' < k := by omega
        simp [h1, h2] at h
    obtain ⟨t, ht⟩ := hf k n s hk
    obtain ⟨t', ht'⟩ := hf k' n' s' hk'
    rw [ht, ht']
    refine ⟨[], _, _, t, t', rfl, rfl, ?_⟩
    simp only [if_true]
    exact ofNat_lt _ _ (by omega) (by omega)
theorem cmpV_swap (u v : AV) (h : cmpV u v ≠ 0) (h1 : cmpV u v ≠ -1) : cmpV v u = -1 := by
  unfold cmpV cmpI cmpL at *
  obtain ⟨k, n, s⟩ := u
  obtain ⟨k', n', s'⟩ := v
  simp only at *
  rcases Int.lt_trichotomy k k' with hk | hk | hk
  · simp [hk] at h1
  · subst hk
    simp only [Int.lt_irrefl, if_false, ne_eq, not_true_eq_false] at h h1 ⊢
    rcases Int.lt_trichotomy n n' with hn | hn | hn
    · simp [hn] at h1
    · subst hn
      simp only [Int.lt_irrefl, if_false, not_true_eq_false] at h h1 ⊢
      cases hl : Op.bytesLess s.toList s'.toList
      · cases hl2 : Op.bytesLess s'.toList s.toList
        · have := less_total _ _ hl hl2
          rw [hl, this] at h
          simp at h
        · simp
      · rw [hl] at h1; simp at h1
    · have : ¬ n < n' := by omega
      simp [hn]
  · have : ¬ k < k' := by omega
    simp [hk]
theorem cmpV_zero (u v : AV) (h : cmpV u v = 0) : u = v := by
  obtain ⟨k, n, s⟩ := u
  obtain ⟨k', n', s'⟩ := v
  unfold cmpV cmpI cmpL at h
  simp only at h
  rcases Int.lt_trichotomy k k' with hk | hk | hk
  · simp [hk] at h
  · subst hk
    simp only [Int.lt_irrefl, if_false, ne_eq, not_true_eq_false] at h
    rcases Int.lt_trichotomy n n' with hn | hn | hn
    · simp [hn] at h
    · subst hn
      simp only [Int.lt_irrefl, if_false, not_true_eq_false] at h
      cases hl : Op.bytesLess s.toList s'.toList
      · rw [hl] at h
        simp only [Bool.false_eq_true, if_false] at h
        split at h
        · rename_i hs
          have hs2 : s.toList = s'.toList := by simpa using hs
          rw [ByteArray.toList_eq, ByteArray.toList_eq] at hs2
          have : s = s' := by
            obtain ⟨a⟩ := s
            obtain ⟨b⟩ := s'
            have : a = b := Array.toList_inj.1 hs2
            rw [this]
          rw [this]
        · simp at h
      · rw [hl] at h; simp at h
    · have : ¬ n < n' := by omega
      simp [hn, this] at h
  · have : ¬ k < k' := by omega
    simp [hk, this] at h
theorem cmpV_three (u v : AV) : cmpV u v = -1 ∨ cmpV u v = 0 ∨ cmpV u v = 1 := by
  have hI : ∀ x y, cmpI x y = -1 ∨ cmpI x y = 0 ∨ cmpI x y = 1 := fun x y => by
    unfold cmpI
    split
    · exact .inl rfl
    split
    · exact .inr (.inr rfl)
    · exact .inr (.inl rfl)
  have hL : ∀ x y, cmpL x y = -1 ∨ cmpL x y = 0 ∨ cmpL x y = 1 := fun x y => by
    unfold cmpL
    split
    · exact .inl rfl
    split
    · exact .inr (.inl rfl)
    · exact .inr (.inr rfl)
  unfold cmpV
  split
  · exact hI _ _
  split
  · exact hI _ _
  · exact hL _ _
theorem cmpV_self (u : AV) : cmpV u u = 0 := by
  unfold cmpV cmpI cmpL
  simp [less_irrefl]
theorem keyB_ne (v : AV) : keyB v ≠ [] := by
  unfold keyB
  split
  · simp
  split <;> simp
def okRow (l : List AV) : Prop := rightAll l = true ∧ ∀ a ∈ l, fit64 a.n
theorem okRow.tail {v : AV} {l : List AV} (h : okRow (v :: l)) : v.right = true ∧ fit64 v.n ∧ okRow l := by
  obtain ⟨h1, h2⟩ := h
  unfold rightAll at h1
  rw [List.all_cons, Bool.and_eq_true] at h1
  exact ⟨h1.1, h2 v (by simp), h1.2, fun a ha => h2 a (by simp [ha])⟩
/-- Keys stand in the order of their rows. -/
theorem keys_order : ∀ (a b : List AV), okRow a → okRow b → cmpL (keysB a) (keysB b) = cmpR a b
  | [], [], _, _ => rfl
  | [], v :: b, _, _ => by
    show cmpL [] (keyB v ++ keysB b) = -1
    cases h : keyB v with
    | nil => exact absurd h (keyB_ne v)
    | cons c t => rfl
  | u :: a, [], _, _ => by
    show cmpL (keyB u ++ keysB a) [] = 1
    cases h : keyB u with
    | nil => exact absurd h (keyB_ne u)
    | cons c t => rfl
  | u :: a, v :: b, ha, hb => by
    obtain ⟨a1, a2, a3⟩ := ha.tail
    obtain ⟨b1, b2, b3⟩ := hb.tail
    show cmpL (keyB u ++ keysB a) (keyB v ++ keysB b) = if cmpV u v ≠ 0 then cmpV u v else cmpR a b
    by_cases h : cmpV u v = 0
    · obtain rfl := cmpV_zero u v h
      rw [if_neg (by simpa using h), ← keys_order a b a3 b3]
      unfold cmpL
      rw [less_common]
      have : (keyB u ++ keysB a == keyB u ++ keysB b) = (keysB a == keysB b) := by
        rw [Bool.eq_iff_iff, beq_iff_eq, beq_iff_eq]
        exact ⟨List.append_cancel_left, fun e => by rw [e]⟩
      rw [this]
    · rw [if_pos h]
      by_cases h1 : cmpV u v = -1
      · rw [h1]
        exact ((key_apart u v a1 b1 a2 b2 h1).more _ _).cmp
      · have h2 := cmpV_swap u v h h1
        have h3 := (key_apart v u b1 a1 b2 a2 h2).swap
        rw [(h3.more _ _).cmp]
        rcases cmpV_three u v with h5 | h5 | h5
        · exact absurd h5 h1
        · exact absurd h5 h
        · rw [h5]; rfl
theorem keys_prefix : ∀ (a b : List AV), okRow a → okRow b → (keysB a <+: keysB b ↔ a <+: b)
  | [], b, _, _ => ⟨fun _ => List.nil_prefix, fun _ => List.nil_prefix⟩
  | u :: a, [], _, _ => by
    constructor
    · intro h
      have h2 : keyB u ++ keysB a = [] := by
        have := List.prefix_nil.1 h
        exact this
      exact absurd (List.append_eq_nil_iff.1 h2).1 (keyB_ne u)
    · intro h
      have := List.prefix_nil.1 h
      cases this
  | u :: a, v :: b, ha, hb => by
    obtain ⟨a1, a2, a3⟩ := ha.tail
    obtain ⟨b1, b2, b3⟩ := hb.tail
    have ih := keys_prefix a b a3 b3
    show keyB u ++ keysB a <+: keyB v ++ keysB b ↔ _
    by_cases h : cmpV u v = 0
    · obtain rfl := cmpV_zero u v h
      rw [List.prefix_append_right_inj, ih, List.cons_prefix_cons]
      simp
    · have hne : u ≠ v := fun e => by subst e; exact h (cmpV_self u)
      have h4 : ¬ (keyB u ++ keysB a <+: keyB v ++ keysB b) := by
        by_cases h1 : cmpV u v = -1
        · exact ((key_apart u v a1 b1 a2 b2 h1).more _ _).neq
        · exact ((key_apart v u b1 a1 b2 a2 (cmpV_swap u v h h1)).swap.more _ _).neq
      constructor
      · intro h5; exact absurd h5 h4
      · intro h5
        rw [List.cons_prefix_cons] at h5
        exact absurd h5.1 hne
end Go.Proofs.YtlgohkdckdnmhaaDoor
