/- Words of a text (plain): what they are, and where they stand. -/
import Derived.Test.YtjbocnofkaffjaaStr
namespace Go.Afx
open Go

/-- A word: its kind, its bytes, its number, its place. -/
structure WV where
  kind : Int
  text : List UInt8
  n : Int
  at_ : Int
def WV.zero : WV := ⟨0, [], 0, 0⟩
def lxPart (c : UInt8) : Bool := (decide (97 ≤ c.toNat) && decide (c.toNat ≤ 122)) || (decide (65 ≤ c.toNat) && decide (c.toNat ≤ 90)) || (decide (48 ≤ c.toNat) && decide (c.toNat ≤ 57)) || c.toNat == 95
def lxBlank (c : UInt8) : Bool := c == 32 || c == 9 || c == 10
/-- Where a byte stands first. -/
def idxF (x : UInt8) : List UInt8 → Option Nat
  | [] => none
  | c :: t => if c = x then some 0 else (idxF x t).map (· + 1)
/-- How many bytes are blanks and remarks. -/
def blankF : Nat → List UInt8 → Nat
  | 0, _ => 0
  | _ + 1, [] => 0
  | f + 1, c :: t => if lxBlank c = true then 1 + blankF f t
    else if [47, 47].isPrefixOf (c :: t) = true then match idxF 10 (c :: t) with
      | none => (c :: t).length
      | some k => k + blankF f ((c :: t).drop k)
    else 0
def signsL : List (List UInt8) := [[60, 61], [33, 61], [62, 61], [40], [41], [123], [125], [91], [93], [44], [59], [58], [46], [43], [45], [42], [47], [37], [60], [61], [62]]
/-- A quoted text: what was read, the place, what is left. -/
def quotF : List UInt8 → Nat → List UInt8 → WV × Nat × Bool
  | _, _, [] => (WV.zero, 0, false)
  | acc, i, c :: t => if c = 10 then (WV.zero, 0, false) else if c ≠ 39 then quotF (acc ++ [c]) (i + 1) t
    else match t with
      | d :: t' => if d = 39 then quotF (acc ++ [39]) (i + 2) t' else (⟨2, acc, 0, 0⟩, i + 1, decide (acc.length ≤ 200))
      | [] => (⟨2, acc, 0, 0⟩, i + 1, decide (acc.length ≤ 200))
section
variable (num : List UInt8 → Int × Bool) (nam : List UInt8 → Bool)
def plainF (l : List UInt8) : WV × Nat × Bool :=
  if (l.takeWhile lxPart).head?.any (fun c => decide (48 ≤ c.toNat) && decide (c.toNat ≤ 57)) = true then (⟨1, l.takeWhile lxPart, (num (l.takeWhile lxPart)).1, 0⟩, (l.takeWhile lxPart).length, (num (l.takeWhile lxPart)).2)
  else (⟨3, l.takeWhile lxPart, 0, 0⟩, (l.takeWhile lxPart).length, nam (l.takeWhile lxPart))
def nextF : List UInt8 → WV × Nat × Bool
  | [] => (WV.zero, 0, false)
  | c :: t => if lxPart c = true then plainF num nam (c :: t) else if c = 39 then quotF [] 1 t
    else match signsL.find? (fun s => s.isPrefixOf (c :: t)) with
      | some s => (⟨0, s, 0, 0⟩, s.length, true)
      | none => (WV.zero, 0, false)
/-- The words from a place on; or where none can stand. -/
def wordsF : Nat → Nat → List UInt8 → Option (List WV) × Nat
  | 0, at_, _ => (none, at_)
  | _ + 1, _, [] => (some [], 0)
  | f + 1, at_, c :: t =>
    if (nextF num nam (c :: t)).2.2 = true then
      match wordsF f (at_ + (nextF num nam (c :: t)).2.1 + blankF ((c :: t).drop (nextF num nam (c :: t)).2.1).length ((c :: t).drop (nextF num nam (c :: t)).2.1)) (((c :: t).drop (nextF num nam (c :: t)).2.1).drop (blankF ((c :: t).drop (nextF num nam (c :: t)).2.1).length ((c :: t).drop (nextF num nam (c :: t)).2.1))) with
      | (some ws, k) => (some ({ (nextF num nam (c :: t)).1 with at_ := (at_ : Int) } :: ws), k)
      | (none, k) => (none, k)
    else (none, at_)
def wordsAll (l : List UInt8) : Option (List WV) × Nat := wordsF num nam (l.length + 1) (blankF l.length l) (l.drop (blankF l.length l))
end

/-- The law's reading of what lies between words: whether it is in a remark; none: something stands there. -/
def gapF (note : Bool) : List UInt8 → Option Bool
  | [] => some note
  | c :: t => if (!(c != 10 && (note || c == 47)) && !(lxBlank c)) = true then none else gapF (c != 10 && (note || c == 47)) t
theorem gapF_append : ∀ (a b : List UInt8) (note : Bool), gapF note (a ++ b) = (gapF note a).bind (gapF · b)
  | [], _, _ => rfl
  | c :: a, b, note => by
    rw [List.cons_append, gapF, gapF]
    split
    · rfl
    · exact gapF_append a b _
theorem gapF_nl (note : Bool) (t : List UInt8) : gapF note (10 :: t) = gapF false t := by
  rw [gapF]
  have e1 : ((10 : UInt8) != 10 && (note || (10 : UInt8) == 47)) = false := by cases note <;> rfl
  rw [e1]
  rfl
theorem gapF_note : ∀ l : List UInt8, (∀ c ∈ l, c ≠ 10) → gapF true l = some true
  | [], _ => rfl
  | c :: t, h => by
    rw [gapF]
    have hc := h c (List.mem_cons_self ..)
    have e1 : (c != 10 && (true || c == 47)) = true := by simp [hc]
    rw [e1, if_neg (by simp)]
    exact gapF_note t (fun d hd => h d (List.mem_cons_of_mem _ hd))
theorem idxF_none {x : UInt8} : ∀ {l : List UInt8}, idxF x l = none → ∀ c ∈ l, c ≠ x
  | [], _, c, hc => by cases hc
  | d :: t, h, c, hc => by
    unfold idxF at h
    by_cases hd : d = x
    · rw [if_pos hd] at h; cases h
    · rw [if_neg hd] at h
      rcases List.mem_cons.1 hc with rfl | hc
      · exact hd
      · exact idxF_none (by cases hi : idxF x t with | none => rfl | some k => rw [hi] at h; cases h) c hc
theorem idxF_some {x : UInt8} : ∀ {l : List UInt8} {k : Nat}, idxF x l = some k → k < l.length ∧ (∀ c ∈ l.take k, c ≠ x) ∧ ∃ t, l.drop k = x :: t
  | [], k, h => by cases h
  | d :: t, k, h => by
    unfold idxF at h
    by_cases hd : d = x
    · rw [if_pos hd] at h
      cases h
      subst hd
      exact ⟨by simp, by simp, t, rfl⟩
    · rw [if_neg hd] at h
      cases hi : idxF x t with
      | none => rw [hi] at h; cases h
      | some j =>
        rw [hi] at h
        cases h
        obtain ⟨h1, h2, u, h3⟩ := idxF_some hi
        refine ⟨by simp only [List.length_cons]; omega, fun c hc => ?_, u, by simpa using h3⟩
        rw [List.take_succ_cons] at hc
        rcases List.mem_cons.1 hc with rfl | hc
        · exact hd
        · exact h2 c hc
/-- What is skipped is blank, or a remark that a new line ends, or the rest. -/
theorem gap_blank : ∀ (f : Nat) (l : List UInt8), l.length ≤ f → blankF f l ≤ l.length ∧ (gapF false (l.take (blankF f l)) = some false ∨ (gapF false (l.take (blankF f l)) = some true ∧ blankF f l = l.length))
  | 0, l, h => by
    have : l = [] := List.eq_nil_of_length_eq_zero (by omega)
    subst this
    exact ⟨Nat.le_refl _, .inl rfl⟩
  | f + 1, [], _ => ⟨Nat.le_refl _, .inl rfl⟩
  | f + 1, c :: t, h => by
    have hl : t.length ≤ f := by simpa using h
    unfold blankF
    by_cases hb : lxBlank c = true
    · rw [if_pos hb]
      obtain ⟨h1, h2⟩ := gap_blank f t hl
      have hg : gapF false (c :: t.take (blankF f t)) = gapF false (t.take (blankF f t)) := by
        rw [gapF]
        have hc : c = 32 ∨ c = 9 ∨ c = 10 := by unfold lxBlank at hb; simpa [or_assoc] using hb
        have e1 : (c != 10 && (false || c == 47)) = false := by rcases hc with rfl | rfl | rfl <;> rfl
        rw [e1, hb]; rfl
      rw [show 1 + blankF f t = blankF f t + 1 from Nat.add_comm _ _, List.take_succ_cons, hg]
      refine ⟨by simpa using h1, ?_⟩
      rcases h2 with h2 | ⟨h2, h3⟩
      · exact .inl h2
      · exact .inr ⟨h2, by simpa using h3⟩
    · rw [if_neg hb]
      by_cases hp : [47, 47].isPrefixOf (c :: t) = true
      · rw [if_pos hp]
        have hc : c = 47 := by
          rw [List.isPrefixOf_cons_cons, Bool.and_eq_true, beq_iff_eq] at hp
          exact hp.1.symm
        subst hc
        have hg : ∀ u : List UInt8, gapF false (47 :: u) = gapF true u := fun u => by rw [gapF]; rfl
        cases hi : idxF 10 (47 :: t) with
        | none =>
          refine ⟨Nat.le_refl _, .inr ⟨?_, rfl⟩⟩
          simp only
          rw [List.take_length, hg]
          exact gapF_note t (fun d hd => idxF_none hi d (List.mem_cons_of_mem _ hd))
        | some k =>
          obtain ⟨h1, h2, u, h3⟩ := idxF_some hi
          have hk : 1 ≤ k := by
            rcases Nat.eq_zero_or_pos k with h0 | h0
            · subst h0
              rw [List.drop_zero] at h3
              injection h3 with h4 _
              exact absurd h4 (by decide)
            · exact h0
          obtain ⟨j, rfl⟩ : ∃ j, k = j + 1 := ⟨k - 1, by omega⟩
          have hlen : ((47 : UInt8) :: t).length = j + 1 + (u.length + 1) := by
            have := congrArg List.length h3
            simp only [List.length_drop, List.length_cons] at this h1
            simp only [List.length_cons]
            omega
          obtain ⟨h5, h6⟩ := gap_blank f (((47 : UInt8) :: t).drop (j + 1)) (by rw [List.length_drop]; simp only [List.length_cons]; omega)
          have hsplit : ((47 : UInt8) :: t).take (j + 1 + blankF f (((47 : UInt8) :: t).drop (j + 1))) = ((47 : UInt8) :: t).take (j + 1) ++ (((47 : UInt8) :: t).drop (j + 1)).take (blankF f (((47 : UInt8) :: t).drop (j + 1))) := List.take_add
          have hfirst : gapF false (((47 : UInt8) :: t).take (j + 1)) = some true := by
            rw [List.take_succ_cons, hg]
            exact gapF_note _ (fun d hd => h2 d (by rw [List.take_succ_cons]; exact List.mem_cons_of_mem _ hd))
          simp only
          rw [hsplit, gapF_append, hfirst]
          have hstep : gapF true ((((47 : UInt8) :: t).drop (j + 1)).take (blankF f (((47 : UInt8) :: t).drop (j + 1)))) = gapF false ((((47 : UInt8) :: t).drop (j + 1)).take (blankF f (((47 : UInt8) :: t).drop (j + 1)))) ∨ blankF f (((47 : UInt8) :: t).drop (j + 1)) = 0 := by
            rw [h3]
            cases hbf : blankF f (10 :: u) with
            | zero => exact .inr rfl
            | succ m => left; rw [List.take_succ_cons, gapF_nl, gapF_nl]
          have hne : blankF f (((47 : UInt8) :: t).drop (j + 1)) ≠ 0 := by
            rw [h3]
            cases f with
            | zero => simp only [List.length_cons] at hlen; omega
            | succ f => unfold blankF; rw [if_pos (by decide)]; omega
          rw [List.length_drop] at h5 h6
          refine ⟨by omega, ?_⟩
          rcases hstep with hs | hs
          · show gapF true _ = some false ∨ gapF true _ = some true ∧ _
            rw [hs]
            rcases h6 with h6 | ⟨h6, h7⟩
            · exact .inl h6
            · exact .inr ⟨h6, by omega⟩
          · exact absurd hs hne
      · rw [if_neg hp]
        exact ⟨Nat.zero_le _, .inl rfl⟩
end Go.Afx
