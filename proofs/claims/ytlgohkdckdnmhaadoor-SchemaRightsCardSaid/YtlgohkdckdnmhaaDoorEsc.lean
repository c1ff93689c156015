/- Plain: strings.ReplaceAll at a text that is not empty, by recursion; a byte doubled, and halved again. -/
import Derived.Lib.ReplaceLaws
import Derived.Lib.CountLaws
import Derived.Lib.SplitLaws
import Derived.Lib.IndexLaws
namespace Go.Afx
open Go Go.Lib

theorem count_cons_skip {old : List UInt8} (ho : old ≠ []) (c : UInt8) (t : List UInt8) (h : old.isPrefixOf (c :: t) = false) :
    (index t old = -1 ∧ index (c :: t) old = -1 ∧ count (c :: t) old = 0 ∧ count t old = 0) ∨ ∃ i : Nat, index t old = i ∧ index (c :: t) old = ((i + 1 : Nat) : Int) ∧ count (c :: t) old = count t old := by
  have hge := index_ge t old
  have e : index (c :: t) old = if index t old == -1 then -1 else index t old + 1 := by
    conv => lhs; unfold index
    rw [h]; simp
  by_cases hm : index t old = -1
  · have e2 : index (c :: t) old = -1 := by rw [e, hm]; rfl
    exact .inl ⟨hm, e2, count_miss e2, count_miss hm⟩
  · obtain ⟨i, hi⟩ : ∃ i : Nat, index t old = i := ⟨(index t old).toNat, by omega⟩
    have e2 : index (c :: t) old = ((i + 1 : Nat) : Int) := by
      rw [e, hi]
      have : ((i : Int) == -1) = false := by rw [beq_eq_false_iff_ne]; omega
      rw [this]; simp
    refine .inr ⟨i, hi, e2, ?_⟩
    rw [count_hit ho e2, count_hit ho hi]
    have : i + 1 + old.length = (i + old.length) + 1 := by omega
    rw [this, List.drop_succ_cons]

/-- All instances. -/
def rAll (old new s : List UInt8) : List UInt8 := replaceK old new (count s old) s
theorem rAll_eq {old new : List UInt8} (hne : old ≠ new) (s : List UInt8) : replaceAll s old new = rAll old new s := by
  unfold replaceAll replace rAll replaceNum
  rw [if_neg (by simpa using hne), if_pos (by omega)]
theorem rAll_nil {old : List UInt8} (ho : old ≠ []) (new : List UInt8) : rAll old new [] = [] := by
  unfold rAll
  have h : index [] old = -1 := by
    unfold index
    cases old with
    | nil => exact absurd rfl ho
    | cons a b => rfl
  rw [count_miss h]; rfl
theorem rAll_skip {old : List UInt8} (ho : old ≠ []) (new : List UInt8) (c : UInt8) (t : List UInt8) (h : old.isPrefixOf (c :: t) = false) : rAll old new (c :: t) = c :: rAll old new t := by
  unfold rAll
  rcases count_cons_skip ho c t h with ⟨h1, h2, h3, h4⟩ | ⟨i, h1, h2, h3⟩
  · rw [h3, h4]; rfl
  · rw [h3]
    have h5 : 0 < count t old := by rw [count_hit ho h1]; omega
    obtain ⟨k, hk⟩ : ∃ k, count t old = k + 1 := ⟨count t old - 1, by omega⟩
    rw [hk, replaceK_hit _ _ _ _ _ h2, replaceK_hit _ _ _ _ _ h1]
    have : i + 1 + old.length = (i + old.length) + 1 := by omega
    rw [this, List.drop_succ_cons, List.take_succ_cons]
    rfl
theorem rAll_hit {old : List UInt8} (ho : old ≠ []) (new s : List UInt8) (h : old.isPrefixOf s = true) : rAll old new s = new ++ rAll old new (s.drop old.length) := by
  have h2 : index s old = ((0 : Nat) : Int) := by
    cases s with
    | nil => cases old with
      | nil => exact absurd rfl ho
      | cons a b => simp at h
    | cons c t => unfold index; rw [h]; rfl
  have h3 := count_hit ho h2
  unfold rAll
  rw [h3, Nat.add_comm, replaceK_hit _ _ _ _ _ h2]
  simp

/-- A byte that stands for itself, but one. -/
def esc (x : UInt8) (y : List UInt8) : List UInt8 → List UInt8
  | [] => []
  | c :: t => (if c = x then y else [c]) ++ esc x y t
theorem esc_append (x : UInt8) (y a b : List UInt8) : esc x y (a ++ b) = esc x y a ++ esc x y b := by
  induction a with
  | nil => rfl
  | cons c t ih => simp [esc, ih]
theorem replaceAll_one (x : UInt8) (y : List UInt8) (hne : [x] ≠ y) (s : List UInt8) : replaceAll s [x] y = esc x y s := by
  rw [rAll_eq hne]
  induction s with
  | nil => exact rAll_nil (by simp) y
  | cons c t ih =>
    unfold esc
    by_cases h : c = x
    · subst h
      rw [rAll_hit (by simp) y _ (by simp [List.isPrefixOf]), if_pos rfl]
      simp [ih]
    · rw [rAll_skip (by simp) y c t (by simp [List.isPrefixOf]; exact fun e => h e.symm), if_neg h, ih]
      rfl
theorem esc_length (x : UInt8) (a b : UInt8) (s : List UInt8) : (esc x [a, b] s).length ≤ 2 * s.length ∧ s.length ≤ (esc x [a, b] s).length := by
  induction s with
  | nil => simp [esc]
  | cons c t ih =>
    unfold esc
    split <;> simp <;> omega

/-- Pairs of a byte made one. -/
def unpair (x : UInt8) : List UInt8 → List UInt8
  | [] => []
  | [c] => [c]
  | c :: d :: t => if c = x ∧ d = x then x :: unpair x t else c :: unpair x (d :: t)
theorem replaceAll_pair (x : UInt8) (s : List UInt8) : replaceAll s [x, x] [x] = unpair x s := by
  rw [rAll_eq (by simp)]
  have ho : [x, x] ≠ [] := by simp
  fun_induction unpair x s with
  | case1 => exact rAll_nil ho [x]
  | case2 c =>
    rw [rAll_skip ho [x] c [] (by simp [List.isPrefixOf]), rAll_nil ho]
  | case3 c d t h ih =>
    obtain ⟨rfl, rfl⟩ := h
    rw [rAll_hit ho _ _ (by simp)]
    simp [ih]
  | case4 c d t h ih =>
    rw [rAll_skip ho [x] c (d :: t) (by
      rw [Bool.eq_false_iff]
      intro hp
      simp [List.isPrefixOf] at hp
      exact h ⟨hp.1.symm, hp.2.symm⟩), ih]
theorem unpair_length (x : UInt8) (s : List UInt8) : (unpair x s).length ≤ s.length := by
  fun_induction unpair x s <;> simp_all <;> omega
theorem unpair_esc (x : UInt8) (s : List UInt8) : unpair x (esc x [x, x] s) = s := by
  induction s with
  | nil => rfl
  | cons c t ih =>
    unfold esc
    by_cases h : c = x
    · subst h
      rw [if_pos rfl]
      show unpair c (c :: c :: esc c [c, c] t) = _
      rw [unpair, if_pos ⟨rfl, rfl⟩, ih]
    · rw [if_neg h]
      show unpair x (c :: esc x [x, x] t) = _
      cases he : esc x [x, x] t with
      | nil =>
        rw [he] at ih
        rw [← ih]; rfl
      | cons d u =>
        rw [unpair, if_neg (fun hh => h hh.1), ← he, ih]
end Go.Afx
