/- Plain: the row of a key. -/
import Derived.Test.YtlgohkdckdnmhaaDoorKyA
namespace Go.Proofs.YtlgohkdckdnmhaaDoor
open Go.RowKit Go.Afx

def valB (l : List UInt8) : Nat := l.foldl (fun u c => u * 256 + c.toNat) 0
theorem valB_snoc (l : List UInt8) (c : UInt8) : valB (l ++ [c]) = valB l * 256 + c.toNat := by unfold valB; rw [List.foldl_append]; rfl
theorem valB_lt (l : List UInt8) : valB l < 256 ^ l.length := by
  have h : ∀ (n : Nat) (l : List UInt8), l.length = n → valB l < 256 ^ n := by
    intro n
    induction n with
    | zero => intro l hl; rw [List.eq_nil_of_length_eq_zero hl]; simp [valB]
    | succ n ih =>
      intro l hl
      have hne : l ≠ [] := by intro e; subst e; simp at hl
      obtain ⟨m, c, rfl⟩ : ∃ m c, l = m ++ [c] := ⟨l.dropLast, l.getLast hne, (List.dropLast_concat_getLast hne).symm⟩
      have h1 := ih m (by simpa using hl)
      rw [valB_snoc, Nat.pow_succ]
      have := c.toNat_lt
      omega
  exact h _ l rfl
theorem be_valB : ∀ (n : Nat) (l : List UInt8), l.length = n → be n (valB l) = l := by
  intro n
  induction n with
  | zero => intro l hl; rw [List.eq_nil_of_length_eq_zero hl]; rfl
  | succ n ih =>
    intro l hl
    have hne : l ≠ [] := by intro e; subst e; simp at hl
    obtain ⟨m, c, rfl⟩ : ∃ m c, l = m ++ [c] := ⟨l.dropLast, l.getLast hne, (List.dropLast_concat_getLast hne).symm⟩
    have h1 := ih m (by simpa using hl)
    have h2 := c.toNat_lt
    rw [valB_snoc, be]
    have e1 : (valB m * 256 + c.toNat) / 256 = valB m := by omega
    have e2 : (valB m * 256 + c.toNat) % 256 = c.toNat := by omega
    rw [e1, e2, h1]
    congr 2
    exact UInt8.toNat_inj.1 (by rw [UInt8.toNat_ofNat']; omega)
theorem valB_be (n u : Nat) (h : u < 256 ^ n) : valB (be n u) = u := by
  induction n generalizing u with
  | zero => simp at h; subst h; rfl
  | succ n ih =>
    rw [be, valB_snoc, ih (u / 256) (by rw [Nat.pow_succ] at h; omega), UInt8.toNat_ofNat']
    omega
def dn64 (u : Nat) : Int := (u : Int) - 9223372036854775808
theorem up_dn (u : Nat) : up64 (dn64 u) = u := by unfold up64 dn64; omega
theorem dn_up (n : Int) (h : fit64 n) : dn64 (up64 n) = n := by unfold fit64 at h; unfold up64 dn64; omega
theorem dn_fit (u : Nat) (h : u < 18446744073709551616) : fit64 (dn64 u) := by unfold fit64 dn64; omega

/-- A text of a key, and what stands behind it. -/
def textF : List UInt8 → Option (List UInt8 × List UInt8)
  | [] => none
  | [_] => none
  | c :: d :: r => if c ≠ 0 then (textF (d :: r)).map (fun p => (c :: p.1, p.2)) else if d = 1 then some ([], r) else if d = 255 then (textF r).map (fun p => (0 :: p.1, p.2)) else none
theorem textF_esc (x r : List UInt8) : textF (esc 0 [0, 255] x ++ 0 :: 1 :: r) = some (x, r) := by
  induction x with
  | nil => rfl
  | cons c x ih =>
    unfold esc
    by_cases h : c = 0
    · subst h
      rw [if_pos rfl]
      show textF (0 :: 255 :: (esc 0 [0, 255] x ++ 0 :: 1 :: r)) = _
      rw [textF, if_neg (by simp), if_neg (by decide), if_pos rfl, ih]; rfl
    · rw [if_neg h]
      show textF (c :: (esc 0 [0, 255] x ++ 0 :: 1 :: r)) = _
      obtain ⟨d, t, hd⟩ : ∃ d t, esc 0 [0, 255] x ++ 0 :: 1 :: r = d :: t := by
        cases esc 0 [0, 255] x with
        | nil => exact ⟨_, _, rfl⟩
        | cons a b => exact ⟨_, _, rfl⟩
      rw [hd] at ih ⊢
      rw [textF, if_pos h, ih]; rfl
theorem textF_some (t x r : List UInt8) (h : textF t = some (x, r)) : t = esc 0 [0, 255] x ++ 0 :: 1 :: r := by
  induction t using textF.induct generalizing x r with
  | case1 => simp [textF] at h
  | case2 => simp [textF] at h
  | case3 c d t hc ih =>
    rw [textF, if_pos hc, Option.map_eq_some_iff] at h
    obtain ⟨⟨x1, r1⟩, h1, h2⟩ := h
    obtain ⟨rfl, rfl⟩ := Prod.mk.inj h2
    rw [ih _ _ h1]
    show _ = (if c = 0 then _ else _) ++ _ ++ _
    rw [if_neg hc]; rfl
  | case4 c t hc =>
    have hc0 : c = 0 := Classical.not_not.1 hc
    subst hc0
    rw [textF, if_neg hc, if_pos rfl] at h
    obtain ⟨rfl, rfl⟩ := Prod.mk.inj (Option.some.inj h)
    rfl
  | case5 c t hc h1 ih =>
    have hc0 : c = 0 := Classical.not_not.1 hc
    subst hc0
    rw [textF, if_neg hc, if_neg h1, if_pos rfl, Option.map_eq_some_iff] at h
    obtain ⟨⟨x1, r1⟩, h2, h3⟩ := h
    obtain ⟨rfl, rfl⟩ := Prod.mk.inj h3
    rw [ih _ _ h2]; rfl
  | case6 c d t hc h1 h2 =>
    rw [textF, if_neg hc, if_neg h1, if_neg h2] at h
    cases h
/-- What the document takes for the text. -/
def scanF : List UInt8 → List UInt8
  | [] => []
  | [_] => []
  | c :: d :: t => if c = 0 ∧ d = 1 then [] else if c = 0 then c :: scanF t else c :: scanF (d :: t)
theorem scan_esc (x r : List UInt8) : scanF (esc 0 [0, 255] x ++ 0 :: 1 :: r) = x := by
  induction x with
  | nil => rfl
  | cons c x ih =>
    unfold esc
    by_cases h : c = 0
    · subst h
      rw [if_pos rfl]
      show scanF (0 :: 255 :: (esc 0 [0, 255] x ++ 0 :: 1 :: r)) = _
      rw [scanF, if_neg (by simp), if_pos rfl, ih]
    · rw [if_neg h]
      show scanF (c :: (esc 0 [0, 255] x ++ 0 :: 1 :: r)) = _
      obtain ⟨d, t, hd⟩ : ∃ d t, esc 0 [0, 255] x ++ 0 :: 1 :: r = d :: t := by
        cases esc 0 [0, 255] x with
        | nil => exact ⟨_, _, rfl⟩
        | cons a b => exact ⟨_, _, rfl⟩
      rw [hd] at ih ⊢
      rw [scanF, if_neg (fun e => h e.1), if_neg h, ih]
theorem scan_length (t : List UInt8) : (scanF t).length ≤ t.length := by
  fun_induction scanF t <;> simp_all <;> omega

/-- The first value of a key, and what stands behind it; whether it is there. -/
def takeF : List UInt8 → AV × List UInt8 × Bool
  | [] => (⟨0, 0, ⟨#[]⟩⟩, [], false)
  | c :: t =>
    if c = 1 then (if 8 ≤ t.length then (⟨1, dn64 (valB (t.take 8)), ⟨#[]⟩⟩, t.drop 8, true) else (⟨0, 0, ⟨#[]⟩⟩, [], false))
    else if c = 2 then (match textF t with
      | some (x, r) => (⟨2, 0, bs x⟩, r, true)
      | none => (⟨2, 0, ⟨#[]⟩⟩, [], false))
    else if c = 3 then (match t with
      | d :: r => if d.toNat ≤ 1 then (⟨3, d.toNat, ⟨#[]⟩⟩, r, true) else (⟨0, 0, ⟨#[]⟩⟩, [], false)
      | [] => (⟨0, 0, ⟨#[]⟩⟩, [], false))
    else (⟨0, 0, ⟨#[]⟩⟩, [], false)
theorem takeF_cons (c : UInt8) (t : List UInt8) : takeF (c :: t) =
    if c = 1 then (if 8 ≤ t.length then (⟨1, dn64 (valB (t.take 8)), ⟨#[]⟩⟩, t.drop 8, true) else (⟨0, 0, ⟨#[]⟩⟩, [], false))
    else if c = 2 then (match textF t with
      | some (x, r) => (⟨2, 0, bs x⟩, r, true)
      | none => (⟨2, 0, ⟨#[]⟩⟩, [], false))
    else if c = 3 then (match t with
      | d :: r => if d.toNat ≤ 1 then (⟨3, d.toNat, ⟨#[]⟩⟩, r, true) else (⟨0, 0, ⟨#[]⟩⟩, [], false)
      | [] => (⟨0, 0, ⟨#[]⟩⟩, [], false))
    else (⟨0, 0, ⟨#[]⟩⟩, [], false) := rfl
def stepK (s : List UInt8) : Option (AV × List UInt8) := if (takeF s).2.2 && (takeF s).1.right then some ((takeF s).1, (takeF s).2.1) else none
def unkF : Nat → List UInt8 → Option (List AV)
  | 0, _ => none
  | _ + 1, [] => some []
  | f + 1, c :: t => match stepK (c :: t) with
    | none => none
    | some (v, r) => (unkF f r).map (v :: ·)
def unkB (s : List UInt8) : Option (List AV) := unkF (s.length + 1) s

theorem nilR : (⟨#[]⟩ : ByteArray).toList.isEmpty = true := toList_list _ [] rfl
theorem right_one (n : Int) : AV.right ⟨1, n, ⟨#[]⟩⟩ = true := by unfold AV.right; simp only; rw [nilR]; rfl
theorem emptyS (s : ByteArray) (h : s.toList.isEmpty = true) : s = ⟨#[]⟩ := by
  rw [ByteArray.toList_eq] at h
  exact nil_list s (by simpa using h)
theorem stepK_key (v : AV) (hr : v.right = true) (hf : fit64 v.n) (r : List UInt8) : stepK (keyB v ++ r) = some (v, r) := by
  have hr0 := hr
  obtain ⟨k, n, s⟩ := v
  unfold AV.right at hr
  simp only at hr hf
  have fin : takeF (keyB ⟨k, n, s⟩ ++ r) = (⟨k, n, s⟩, r, true) := by
    by_cases h1 : k = 1
    · subst h1
      simp at hr
      obtain rfl := emptyS s (by simpa using hr)
      show takeF (1 :: (be 8 (up64 n) ++ r)) = _
      have hl : (be 8 (up64 n)).length = 8 := be_length 8 _
      rw [takeF_cons, if_pos rfl, if_pos (by rw [List.length_append, hl]; omega), List.take_left' hl, List.drop_left' hl, valB_be 8 _ (up64_lt n hf), dn_up n hf]
    by_cases h2 : k = 2
    · subst h2
      simp at hr
      obtain ⟨rfl, _⟩ := hr
      show takeF (2 :: ((esc 0 [0, 255] s.data.toList ++ [0, 1]) ++ r)) = _
      rw [takeF_cons, if_neg (by decide), if_pos rfl, List.append_assoc]
      have htx : textF (esc 0 [0, 255] s.data.toList ++ ([0, 1] ++ r)) = some (s.data.toList, r) := textF_esc _ _
      rw [htx]; rfl
    · simp [h1, h2] at hr
      obtain ⟨⟨rfl, h4⟩, h5⟩ := hr
      obtain rfl := emptyS s (by simpa using h5)
      show takeF (3 :: UInt8.ofNat n.toNat :: r) = _
      rcases h4 with rfl | rfl <;> rfl
  unfold stepK
  rw [fin]
  simp only
  rw [hr0]; rfl
theorem stepK_some {s : List UInt8} {v : AV} {r : List UInt8} (h : stepK s = some (v, r)) : v.right = true ∧ fit64 v.n ∧ s = keyB v ++ r ∧ r.length < s.length := by
  unfold stepK at h
  cases ht : takeF s with
  | mk a b =>
    obtain ⟨b, ok⟩ := b
    rw [ht] at h
    simp only at h
    cases ok
    · simp at h
    cases hr : a.right
    · rw [hr] at h; simp at h
    rw [hr] at h
    simp only [Bool.and_self, if_true, Option.some.injEq, Prod.mk.injEq] at h
    obtain ⟨rfl, rfl⟩ := h
    refine ⟨hr, ?_⟩
    cases s with
    | nil => simp [takeF] at ht
    | cons c t =>
      rw [takeF_cons] at ht
      by_cases h1 : c = 1
      · subst h1
        rw [if_pos rfl] at ht
        by_cases h8 : 8 ≤ t.length
        · rw [if_pos h8] at ht
          obtain ⟨rfl, h2⟩ := Prod.mk.inj ht
          obtain ⟨rfl, _⟩ := Prod.mk.inj h2
          have hl : (t.take 8).length = 8 := by rw [List.length_take]; omega
          have hlt := valB_lt (t.take 8)
          rw [hl] at hlt
          refine ⟨dn_fit _ hlt, ?_, by rw [List.length_drop, List.length_cons]; omega⟩
          show _ = 1 :: (be 8 (up64 (dn64 (valB (t.take 8)))) ++ t.drop 8)
          rw [up_dn, be_valB 8 _ hl, List.take_append_drop]
        · rw [if_neg h8] at ht
          simp at ht
      rw [if_neg h1] at ht
      by_cases h2 : c = 2
      · subst h2
        rw [if_pos rfl] at ht
        cases hx : textF t with
        | none => rw [hx] at ht; simp at ht
        | some p =>
          obtain ⟨x, r⟩ := p
          rw [hx] at ht
          simp only at ht
          obtain ⟨rfl, h3⟩ := Prod.mk.inj ht
          obtain ⟨rfl, _⟩ := Prod.mk.inj h3
          have h4 := textF_some _ _ _ hx
          refine ⟨by simp [fit64], ?_, by rw [h4]; simp; omega⟩
          show _ = 2 :: (esc 0 [0, 255] (bs x).data.toList ++ [0, 1] ++ r)
          rw [bs_data, List.append_assoc, h4]; rfl
      rw [if_neg h2] at ht
      by_cases h3 : c = 3
      · subst h3
        rw [if_pos rfl] at ht
        cases t with
        | nil => simp at ht
        | cons d t =>
          simp only at ht
          by_cases hd : d.toNat ≤ 1
          · rw [if_pos hd] at ht
            obtain ⟨rfl, h4⟩ := Prod.mk.inj ht
            obtain ⟨rfl, _⟩ := Prod.mk.inj h4
            refine ⟨by unfold fit64; simp only; omega, ?_, by simp; omega⟩
            show _ = 3 :: UInt8.ofNat ((d.toNat : Int)).toNat :: t
            congr 2
            exact UInt8.toNat_inj.1 (by rw [UInt8.toNat_ofNat']; have := d.toNat_lt; omega)
          · rw [if_neg hd] at ht; simp at ht
      · rw [if_neg h3] at ht; simp at ht
theorem unkF_more : ∀ (f : Nat) (s : List UInt8), s.length < f → ∀ g, s.length < g → unkF f s = unkF g s
  | 0, _, h, _, _ => absurd h (Nat.not_lt_zero _)
  | _ + 1, _, _, 0, h => absurd h (Nat.not_lt_zero _)
  | f + 1, [], _, g + 1, _ => rfl
  | f + 1, c :: t, h, g + 1, h' => by
    unfold unkF
    cases hs : stepK (c :: t) with
    | none => rfl
    | some p =>
      obtain ⟨v, r⟩ := p
      have hr := (stepK_some hs).2.2.2
      simp only
      rw [unkF_more f r (by omega) g (by omega)]
/-- The row of a row's key is that row. -/
theorem unkB_keys (l : List AV) (hr : rightAll l = true) (hf : ∀ a ∈ l, fit64 a.n) : unkB (keysB l) = some l := by
  have h : ∀ (l : List AV), rightAll l = true → (∀ a ∈ l, fit64 a.n) → ∀ f, (keysB l).length < f → unkF f (keysB l) = some l := by
    intro l
    induction l with
    | nil =>
      intro _ _ f hf
      obtain ⟨f, rfl⟩ : ∃ g, f = g + 1 := ⟨f - 1, by omega⟩
      rfl
    | cons v l ih =>
      intro hr hf f hlen
      unfold rightAll at hr
      rw [List.all_cons, Bool.and_eq_true] at hr
      have hk : keysB (v :: l) = keyB v ++ keysB l := rfl
      have hst := stepK_key v hr.1 (hf v (by simp)) (keysB l)
      have hlt := (stepK_some hst).2.2.2
      rw [hk] at hlen ⊢
      obtain ⟨f, rfl⟩ : ∃ g, f = g + 1 := ⟨f - 1, by omega⟩
      have ih2 := ih (by unfold rightAll; exact hr.2) (fun a ha => hf a (by simp [ha])) f (by omega)
      cases hs : keyB v ++ keysB l with
      | nil => rw [hs] at hlt; simp at hlt
      | cons c t =>
        rw [hs] at hst
        rw [unkF, hst]
        simp only
        rw [ih2]; rfl
  exact h l hr hf _ (Nat.lt_succ_self _)
theorem unkB_some {s : List UInt8} {l : List AV} (h : unkB s = some l) : rightAll l = true ∧ (∀ a ∈ l, fit64 a.n) ∧ s = keysB l := by
  have hh : ∀ (f : Nat) (s : List UInt8) (l : List AV), unkF f s = some l → rightAll l = true ∧ (∀ a ∈ l, fit64 a.n) ∧ s = keysB l := by
    intro f
    induction f with
    | zero => intro s l h; simp [unkF] at h
    | succ f ih =>
      intro s l h
      cases s with
      | nil =>
        simp [unkF] at h
        subst h
        exact ⟨rfl, by simp, rfl⟩
      | cons c t =>
        rw [unkF] at h
        cases hs : stepK (c :: t) with
        | none => rw [hs] at h; simp at h
        | some p =>
          obtain ⟨v, r⟩ := p
          rw [hs] at h
          simp only [Option.map_eq_some_iff] at h
          obtain ⟨m, h1, rfl⟩ := h
          obtain ⟨a1, a2, a3⟩ := ih r m h1
          obtain ⟨b1, b2, b3, _⟩ := stepK_some hs
          refine ⟨by unfold rightAll at a1 ⊢; rw [List.all_cons, b1, a1]; rfl, fun a ha => ?_, ?_⟩
          · rcases List.mem_cons.1 ha with rfl | ha
            · exact b2
            · exact a2 a ha
          · rw [b3, a3]; rfl
  exact hh _ _ _ h
end Go.Proofs.YtlgohkdckdnmhaaDoor
