/- Words with blanks between (plain, for LexSpaces): a word, a blank behind it, is that word again. -/
import Derived.Test.YtjbocnofkaffjaaLxB
namespace Go.Proofs.Ytjbocnofkaffjaa
open Go.RowKit Go.Afx

theorem sign_again (num : List UInt8 → Int × Bool) (nam : List UInt8 → Bool) : ∀ s ∈ signsL, ∀ rest, nextF num nam (s ++ 32 :: rest) = (⟨0, s, 0, 0⟩, s.length, true) ∧ blankN (s ++ 32 :: rest) = 0 := by
  intro s hs rest
  simp only [signsL, List.mem_cons, List.not_mem_nil, or_false] at hs
  rcases hs with rfl | rfl | rfl | rfl | rfl | rfl | rfl | rfl | rfl | rfl | rfl | rfl | rfl | rfl | rfl | rfl | rfl | rfl | rfl | rfl | rfl
  all_goals exact ⟨rfl, rfl⟩
theorem tw_again (t rest : List UInt8) (h : ∀ c ∈ t, lxPart c = true) : (t ++ 32 :: rest).takeWhile lxPart = t := by
  induction t with
  | nil => rfl
  | cons c t ih =>
    rw [List.cons_append, List.takeWhile_cons, if_pos (h c (List.mem_cons_self ..)), ih (fun d hd => h d (List.mem_cons_of_mem _ hd))]
theorem part_not (c : UInt8) (h : lxPart c = true) : lxBlank c = false ∧ c ≠ 47 := by
  refine ⟨?_, fun h2 => by rw [h2] at h; exact absurd h (by decide)⟩
  unfold lxBlank
  by_cases h1 : c = 32
  · rw [h1] at h; exact absurd h (by decide)
  by_cases h2 : c = 9
  · rw [h2] at h; exact absurd h (by decide)
  by_cases h3 : c = 10
  · rw [h3] at h; exact absurd h (by decide)
  rw [beq_eq_false_iff_ne.2 h1, beq_eq_false_iff_ne.2 h2, beq_eq_false_iff_ne.2 h3]; rfl
theorem mem_tw {c : UInt8} : ∀ {l : List UInt8}, c ∈ l.takeWhile lxPart → lxPart c = true
  | [], h => by cases h
  | d :: t, h => by
    rw [List.takeWhile_cons] at h
    by_cases hd : lxPart d = true
    · rw [if_pos hd] at h
      rcases List.mem_cons.1 h with rfl | h
      · exact hd
      · exact mem_tw h
    · rw [if_neg hd] at h; cases h
theorem plain_again (num : List UInt8 → Int × Bool) (nam : List UInt8 → Bool) (c : UInt8) (u rest : List UInt8) (hc : lxPart c = true) :
    nextF num nam ((c :: u).takeWhile lxPart ++ 32 :: rest) = plainF num nam (c :: u) ∧ blankN ((c :: u).takeWhile lxPart ++ 32 :: rest) = 0 := by
  have h1 := tw_again ((c :: u).takeWhile lxPart) rest (fun d hd => mem_tw hd)
  obtain ⟨v, hv⟩ : ∃ v, (c :: u).takeWhile lxPart = c :: v := ⟨u.takeWhile lxPart, by rw [List.takeWhile_cons, if_pos hc]⟩
  obtain ⟨hb, h47⟩ := part_not c hc
  constructor
  · rw [hv, List.cons_append, nextF, if_pos hc]
    unfold plainF
    rw [← List.cons_append, ← hv, h1]
  · rw [hv, List.cons_append, blankN_cons, if_neg (by rw [hb]; decide), if_neg]
    intro h
    exact h47 (slash_head h)
theorem next_again (num : List UInt8 → Int × Bool) (nam : List UInt8 → Bool) (l : List UInt8) (w : WV) (n : Nat) (h : nextF num nam l = (w, n, true)) (hk : w.kind ≠ 2) (rest : List UInt8) :
    nextF num nam (w.text ++ 32 :: rest) = (w, w.text.length, true) ∧ blankN (w.text ++ 32 :: rest) = 0 := by
  cases l with
  | nil =>
    have := congrArg (fun x => x.2.2) h
    cases this
  | cons c t =>
    have h0 := h
    rw [nextF] at h
    by_cases hp : lxPart c = true
    · rw [if_pos hp] at h
      obtain ⟨g1, g2⟩ := plain_again num nam c t rest hp
      have htx : w.text = (c :: t).takeWhile lxPart ∧ n = ((c :: t).takeWhile lxPart).length := by
        unfold plainF at h
        split at h
        · injection h with e1 e2
          injection e2 with e2 _
          subst e1 e2
          exact ⟨rfl, rfl⟩
        · injection h with e1 e2
          injection e2 with e2 _
          subst e1 e2
          exact ⟨rfl, rfl⟩
      rw [htx.1]
      exact ⟨by rw [g1, h, htx.2], g2⟩
    · rw [if_neg hp] at h
      by_cases hc : c = 39
      · rw [if_pos hc] at h
        exact absurd (quot_span t [] 1 (by simp) w n h).1 hk
      · rw [if_neg hc] at h
        cases hf : signsL.find? (fun s => s.isPrefixOf (c :: t)) with
        | none =>
          rw [hf] at h
          have := congrArg (fun x => x.2.2) h
          cases this
        | some s =>
          rw [hf] at h
          simp only at h
          injection h with e1 e2
          injection e2 with e2 _
          subst e1 e2
          exact sign_again num nam s (List.mem_of_find?_eq_some hf) rest
end Go.Proofs.Ytjbocnofkaffjaa
