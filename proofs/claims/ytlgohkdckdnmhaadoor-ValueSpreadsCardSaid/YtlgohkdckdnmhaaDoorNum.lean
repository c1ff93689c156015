/- Numbers as lists of decimal digits, the lowest first. -/
namespace Go.Afx

def ld (u : Nat) : List Nat := if _h : u = 0 then [] else u % 10 :: ld (u / 10)
decreasing_by exact Nat.div_lt_self (by omega) (by omega)
theorem ld_zero : ld 0 = [] := by rw [ld]; simp
theorem ld_pos (u : Nat) (h : 0 < u) : ld u = u % 10 :: ld (u / 10) := by rw [ld, dif_neg (by omega)]
def vd : List Nat → Nat
  | [] => 0
  | x :: t => x + 10 * vd t
def D10 (d : List Nat) : Prop := ∀ x ∈ d, x < 10

theorem vd_ld (u : Nat) : vd (ld u) = u := by
  induction u using Nat.strongRecOn with
  | ind u ih =>
    rcases Nat.eq_zero_or_pos u with h | h
    · subst h; rw [ld_zero]; rfl
    · rw [ld_pos u h, vd, ih (u / 10) (Nat.div_lt_self h (by omega))]; omega
theorem ld_D10 (u : Nat) : D10 (ld u) := by
  induction u using Nat.strongRecOn with
  | ind u ih =>
    rcases Nat.eq_zero_or_pos u with h | h
    · subst h; rw [ld_zero]; intro x hx; simp at hx
    · rw [ld_pos u h]
      intro x hx
      rcases List.mem_cons.1 hx with rfl | hx
      · omega
      · exact ih (u / 10) (Nat.div_lt_self h (by omega)) x hx
theorem vd_append (a b : List Nat) : vd (a ++ b) = vd a + 10 ^ a.length * vd b := by
  induction a with
  | nil => simp [vd]
  | cons x a ih =>
    rw [List.cons_append, vd, ih, vd, List.length_cons, Nat.pow_succ, Nat.mul_add, ← Nat.mul_assoc, Nat.mul_comm 10 (10 ^ a.length)]
    omega
theorem vd_lt (d : List Nat) (h : D10 d) : vd d < 10 ^ d.length := by
  induction d with
  | nil => simp [vd]
  | cons x d ih =>
    have h1 := h x (by simp)
    have h2 := ih (fun y hy => h y (by simp [hy]))
    rw [vd, List.length_cons, Nat.pow_succ]
    omega
theorem vd_next (d : List Nat) (k : Nat) : vd (d.take (k + 1)) = vd (d.take k) + 10 ^ k * d.getD k 0 := by
  by_cases h : k < d.length
  · rw [← List.take_append_getElem h, vd_append, List.length_take, Nat.min_eq_left (by omega)]
    simp [vd, List.getD, h]
  · rw [List.take_of_length_le (by omega), List.take_of_length_le (by omega)]
    simp [List.getD, List.getElem?_eq_none (show d.length ≤ k by omega)]
theorem D10.take {d : List Nat} (h : D10 d) (k : Nat) : D10 (d.take k) := fun x hx => h x (List.mem_of_mem_take hx)
theorem D10.drop {d : List Nat} (h : D10 d) (k : Nat) : D10 (d.drop k) := fun x hx => h x (List.mem_of_mem_drop hx)
theorem D10.getD {d : List Nat} (h : D10 d) (k : Nat) : d.getD k 0 < 10 := by
  by_cases hk : k < d.length
  · have : d.getD k 0 = d[k] := by simp [List.getD, hk]
    rw [this]; exact h _ (List.getElem_mem hk)
  · simp [List.getD, List.getElem?_eq_none (show d.length ≤ k by omega)]
theorem D10.append {a b : List Nat} (ha : D10 a) (hb : D10 b) : D10 (a ++ b) := fun x hx => by
  rcases List.mem_append.1 hx with h | h
  · exact ha x h
  · exact hb x h
theorem vd_pos_of_last (d : List Nat) (x : Nat) (hx : x ≠ 0) : 0 < vd (d ++ [x]) := by
  rw [vd_append]
  have : 0 < 10 ^ d.length * vd [x] := Nat.mul_pos (Nat.pow_pos (by omega)) (by simp [vd]; omega)
  omega
theorem canon (d : List Nat) (x : Nat) (h : D10 (d ++ [x])) (hx : x ≠ 0) : d ++ [x] = ld (vd (d ++ [x])) := by
  induction d with
  | nil =>
    have h1 := h x (by simp)
    show [x] = ld (x + 10 * 0)
    rw [Nat.mul_zero, Nat.add_zero, ld_pos x (by omega), show x / 10 = 0 by omega, ld_zero, show x % 10 = x by omega]
  | cons y d ih =>
    have h1 := h y (by simp)
    have h2 := ih (fun z hz => h z (by rw [List.cons_append]; exact List.mem_cons_of_mem _ hz))
    have h3 := vd_pos_of_last d x hx
    rw [List.cons_append, vd, ld_pos _ (by omega)]
    have e1 : (y + 10 * vd (d ++ [x])) % 10 = y := by omega
    have e2 : (y + 10 * vd (d ++ [x])) / 10 = vd (d ++ [x]) := by omega
    rw [e1, e2, ← h2]
theorem ld_lt (u : Nat) : u < 10 ^ (ld u).length := by
  have := vd_lt (ld u) (ld_D10 u)
  rwa [vd_ld] at this
theorem ld_ge (u : Nat) (h : 0 < u) : 10 ^ ((ld u).length - 1) ≤ u := by
  induction u using Nat.strongRecOn with
  | ind u ih =>
    rw [ld_pos u h, List.length_cons, Nat.add_sub_cancel]
    rcases Nat.eq_zero_or_pos (u / 10) with h2 | h2
    · rw [h2, ld_zero]; simp; omega
    · have h3 := ih (u / 10) (Nat.div_lt_self h (by omega)) h2
      have h4 : 0 < (ld (u / 10)).length := by rw [ld_pos _ h2]; simp
      obtain ⟨k, hk⟩ : ∃ k, (ld (u / 10)).length = k + 1 := ⟨_, (Nat.succ_pred_eq_of_pos h4).symm⟩
      rw [hk, Nat.add_sub_cancel] at h3
      rw [hk, Nat.pow_succ]
      omega
theorem ld_len_le (u k : Nat) (h : u < 10 ^ k) : (ld u).length ≤ k := by
  rcases Nat.eq_zero_or_pos u with h0 | h0
  · subst h0; rw [ld_zero]; simp
  · have h1 := ld_ge u h0
    have h2 : 10 ^ ((ld u).length - 1) < 10 ^ k := Nat.lt_of_le_of_lt h1 h
    have h3 := (Nat.pow_lt_pow_iff_right (by omega : 1 < 10)).1 h2
    omega
theorem ld_len_mono {x y : Nat} (h : x ≤ y) : (ld x).length ≤ (ld y).length := ld_len_le x _ (Nat.lt_of_le_of_lt h (ld_lt y))
theorem ld_len_lt {x y : Nat} (h : (ld x).length < (ld y).length) : x < y := by
  rcases Nat.lt_or_ge x y with h2 | h2
  · exact h2
  · have := ld_len_mono h2; omega
theorem ld_nil_iff (u : Nat) : (ld u).length = 0 ↔ u = 0 := by
  constructor
  · intro h
    rcases Nat.eq_zero_or_pos u with h0 | h0
    · exact h0
    · rw [ld_pos u h0] at h; simp at h
  · rintro rfl; rw [ld_zero]; rfl
theorem vd_split (d : List Nat) (i : Nat) : vd d = vd (d.take i) + 10 ^ i * vd (d.drop i) := by
  by_cases h : i ≤ d.length
  · conv => lhs; rw [← List.take_append_drop i d]
    rw [vd_append, List.length_take, Nat.min_eq_left h]
  · rw [List.take_of_length_le (by omega), List.drop_of_length_le (by omega)]
    simp [vd]
theorem vd_drop (d : List Nat) (i : Nat) (h : i < d.length) : vd (d.drop i) = d[i] + 10 * vd (d.drop (i + 1)) := by
  rw [List.drop_eq_getElem_cons h, vd]
/-- Two lists of digits as long as each other, alike above a digit, not there. -/
theorem vd_less (a b : List Nat) (ha : D10 a) (hb : D10 b) (i : Nat) (h1 : i < a.length) (h2 : i < b.length) (hd : a.drop (i + 1) = b.drop (i + 1)) (hne : a[i] ≠ b[i]) : (a[i] < b[i]) ↔ vd a < vd b := by
  rw [vd_split a i, vd_split b i, vd_drop a i h1, vd_drop b i h2, hd]
  have h3 : vd (a.take i) < 10 ^ i := by
    have := vd_lt _ (ha.take i)
    rwa [List.length_take, Nat.min_eq_left (by omega)] at this
  have h4 : vd (b.take i) < 10 ^ i := by
    have := vd_lt _ (hb.take i)
    rwa [List.length_take, Nat.min_eq_left (by omega)] at this
  generalize vd (a.take i) = x at *
  generalize vd (b.take i) = y at *
  generalize vd (b.drop (i + 1)) = z at *
  generalize a[i] = p at *
  generalize b[i] = q at *
  generalize 10 ^ i = t at *
  constructor
  · intro h
    have h5 : t * (p + 10 * z) + t ≤ t * (q + 10 * z) := by
      rw [← Nat.mul_succ]; exact Nat.mul_le_mul_left t (by omega)
    omega
  · intro h
    rcases Nat.lt_or_ge p q with h6 | h6
    · exact h6
    · have h5 : t * (q + 10 * z) + t ≤ t * (p + 10 * z) := by
        rw [← Nat.mul_succ]; exact Nat.mul_le_mul_left t (by omega)
      omega
/-- More at a place. -/
theorem vd_set (d : List Nat) (j x : Nat) (h : j < d.length) : vd (d.set j (d[j] + x)) = vd d + 10 ^ j * x := by
  induction d generalizing j with
  | nil => simp at h
  | cons y d ih =>
    cases j with
    | zero => simp [vd]; omega
    | succ j =>
      rw [List.set_cons_succ, vd, vd]
      have h2 : j < d.length := by simpa using h
      have h3 : (y :: d)[j + 1] = d[j] := rfl
      rw [h3, ih j h2, Nat.pow_succ, Nat.mul_add, Nat.mul_comm (10 ^ j) 10, Nat.mul_assoc]
      omega
theorem vd_set_sub (d : List Nat) (j y : Nat) (h : j < d.length) (hy : y ≤ d[j]) : vd (d.set j y) + 10 ^ j * (d[j] - y) = vd d := by
  have e := vd_set (d.set j y) j (d[j] - y) (by simpa using h)
  rw [List.set_set] at e
  have h2 : (d.set j y)[j]'(by simpa using h) = y := by simp
  rw [h2, show y + (d[j] - y) = d[j] by omega, List.set_getElem_self] at e
  exact e.symm
theorem vd_zeros (n : Nat) : vd (List.replicate n 0) = 0 := by
  induction n with
  | zero => rfl
  | succ n ih => rw [List.replicate_succ, vd, ih]
end Go.Afx
