/- Words of a text (plain): each stands where it says. -/
import Derived.Test.YtjbocnofkaffjaaLxP
namespace Go.Afx
open Go

def spanW (w : WV) : Nat := w.text.length + (if w.kind = 2 then 2 + w.text.count 39 else 0)
/-- From a place on, the words stand where they say; between them are blanks and remarks. -/
def standF (s : List UInt8) : Nat → List WV → Prop
  | e, [] => (gapF false (s.drop e)).isSome = true
  | e, w :: ws => ∃ p : Nat, w.at_ = p ∧ e ≤ p ∧ p < s.length ∧ gapF false ((s.drop e).take (p - e)) = some false ∧ p + spanW w ≤ s.length ∧ (w.kind ≠ 2 → (s.drop p).take w.text.length = w.text) ∧ 1 ≤ spanW w ∧ standF s (p + spanW w) ws

theorem quot_span : ∀ (l acc : List UInt8) (i : Nat), i = acc.length + acc.count 39 + 1 → ∀ w n, quotF acc i l = (w, n, true) → w.kind = 2 ∧ n = spanW w ∧ n ≤ i + l.length
  | [], _, _, _, w, n, h => by
    have := congrArg (fun x => x.2.2) h
    cases this
  | c :: t, acc, i, hi, w, n, h => by
    rw [quotF.eq_def] at h
    simp only at h
    by_cases h10 : c = 10
    · rw [if_pos h10] at h
      have := congrArg (fun x => x.2.2) h
      cases this
    rw [if_neg h10] at h
    by_cases h39 : c ≠ 39
    · rw [if_pos h39] at h
      have := quot_span t (acc ++ [c]) (i + 1) (by rw [List.length_append, List.count_append]; simp [h39]; omega) w n h
      simp only [List.length_cons]
      exact ⟨this.1, this.2.1, by omega⟩
    · rw [if_neg h39] at h
      have fin : ∀ b, ((⟨2, acc, 0, 0⟩ : WV), i + 1, b) = (w, n, true) → w.kind = 2 ∧ n = spanW w ∧ n ≤ i + (c :: t).length := fun b h => by
        injection h with h1 h2
        injection h2 with h2 _
        subst h1 h2
        exact ⟨rfl, by unfold spanW; simp only [if_true]; omega, by simp⟩
      cases t with
      | nil => exact fin _ h
      | cons d t' =>
        simp only at h
        by_cases hd : d = 39
        · rw [if_pos hd] at h
          have := quot_span t' (acc ++ [39]) (i + 2) (by rw [List.length_append, List.count_append]; simp; omega) w n h
          simp only [List.length_cons]
          exact ⟨this.1, this.2.1, by omega⟩
        · rw [if_neg hd] at h
          exact fin _ h
theorem take_pre {a b : List UInt8} (h : a.isPrefixOf b = true) : b.take a.length = a := by
  obtain ⟨c, rfl⟩ := List.isPrefixOf_iff_prefix.1 h
  simp
theorem signs_len : ∀ s ∈ signsL, 1 ≤ s.length ∧ s.length ≤ 2 := by decide
theorem next_span (num : List UInt8 → Int × Bool) (nam : List UInt8 → Bool) (l : List UInt8) (w : WV) (n : Nat) (h : nextF num nam l = (w, n, true)) : n = spanW w ∧ n ≤ l.length ∧ (w.kind ≠ 2 → l.take w.text.length = w.text) ∧ 1 ≤ n := by
  cases l with
  | nil =>
    have := congrArg (fun x => x.2.2) h
    cases this
  | cons c t =>
    rw [nextF] at h
    by_cases hp : lxPart c = true
    · rw [if_pos hp] at h
      have hpre : (c :: t).take ((c :: t).takeWhile lxPart).length = (c :: t).takeWhile lxPart := take_pre (List.isPrefixOf_iff_prefix.2 (List.takeWhile_prefix _))
      have hle : ((c :: t).takeWhile lxPart).length ≤ (c :: t).length := (List.takeWhile_prefix _).length_le
      have h1 : 1 ≤ ((c :: t).takeWhile lxPart).length := by
        rw [List.takeWhile_cons, if_pos hp]; simp
      unfold plainF at h
      split at h
      · injection h with e1 e2
        injection e2 with e2 _
        subst e1 e2
        exact ⟨by unfold spanW; simp, hle, fun _ => hpre, h1⟩
      · injection h with e1 e2
        injection e2 with e2 _
        subst e1 e2
        exact ⟨by unfold spanW; simp, hle, fun _ => hpre, h1⟩
    · rw [if_neg hp] at h
      by_cases hc : c = 39
      · rw [if_pos hc] at h
        obtain ⟨h1, h2, h3⟩ := quot_span t [] 1 (by simp) w n h
        refine ⟨h2, by simp only [List.length_cons]; omega, fun hk => absurd h1 hk, ?_⟩
        rw [h2]; unfold spanW; rw [if_pos h1]; omega
      · rw [if_neg hc] at h
        cases hf : signsL.find? (fun s => s.isPrefixOf (c :: t)) with
        | none =>
          rw [hf] at h
          have := congrArg (fun x => x.2.2) h
          cases this
        | some s =>
          rw [hf] at h
          simp only at h
          injection h with e1 e2
          injection e2 with e2 _
          subst e1 e2
          have hpf := List.find?_some hf
          have hsl := signs_len s (List.mem_of_find?_eq_some hf)
          have htk := take_pre hpf
          refine ⟨by unfold spanW; simp, ?_, fun _ => htk, hsl.1⟩
          have := congrArg List.length htk
          rw [List.length_take] at this
          omega
theorem words_stand (num : List UInt8 → Int × Bool) (nam : List UInt8 → Bool) (s : List UInt8) : ∀ (f at_ : Nat) (l : List UInt8) (ws : List WV) (k e : Nat), wordsF num nam f at_ l = (some ws, k) → s.drop at_ = l → at_ ≤ s.length → e ≤ at_ →
    (gapF false ((s.drop e).take (at_ - e)) = some false ∨ (gapF false ((s.drop e).take (at_ - e)) = some true ∧ at_ = s.length)) → standF s e ws
  | 0, at_, l, ws, k, e, h, _, _, _, _ => by
    have := congrArg Prod.fst h
    cases this
  | f + 1, at_, [], ws, k, e, h, hl, hle, hea, hg => by
    rw [wordsF] at h
    injection h with h1 _
    injection h1 with h1
    subst h1
    have hat : at_ = s.length := by
      have := congrArg List.length hl
      rw [List.length_drop, List.length_nil] at this
      omega
    have ht : (s.drop e).take (at_ - e) = s.drop e := List.take_of_length_le (by rw [List.length_drop]; omega)
    rw [ht] at hg
    unfold standF
    rcases hg with hg | ⟨hg, _⟩ <;> rw [hg] <;> rfl
  | f + 1, at_, c :: t, ws, k, e, h, hl, hle, hea, hg => by
    have hlen : (c :: t).length = s.length - at_ := by rw [← hl, List.length_drop]
    have hlt : at_ < s.length := by simp only [List.length_cons] at hlen; omega
    rw [wordsF] at h
    cases hn : nextF num nam (c :: t) with
    | mk w r =>
      obtain ⟨n, ok⟩ := r
      rw [hn] at h
      simp only at h
      cases ok
      · rw [if_neg (by decide)] at h
        have := congrArg Prod.fst h
        cases this
      · rw [if_pos rfl] at h
        obtain ⟨h1, h2, h3, h4⟩ := next_span num nam _ w n hn
        cases hw : wordsF num nam f (at_ + n + blankF ((c :: t).drop n).length ((c :: t).drop n)) (((c :: t).drop n).drop (blankF ((c :: t).drop n).length ((c :: t).drop n))) with
        | mk o k2 =>
          rw [hw] at h
          cases o with
          | none =>
            have := congrArg Prod.fst h
            cases this
          | some ws2 =>
            simp only at h
            injection h with h5 _
            injection h5 with h5
            subst h5
            obtain ⟨g1, g2⟩ := gap_blank _ ((c :: t).drop n) (Nat.le_refl _)
            have hdl : ((c :: t).drop n).length = s.length - (at_ + n) := by rw [List.length_drop, hlen]; omega
            have hds : s.drop (at_ + n) = (c :: t).drop n := by rw [← hl, List.drop_drop]
            rw [hdl] at g1
            have hgf : gapF false ((s.drop e).take (at_ - e)) = some false := by
              rcases hg with hg | ⟨_, hg⟩
              · exact hg
              · omega
            have hrec := words_stand num nam s f _ _ ws2 k2 (at_ + n) hw (by rw [← hds, List.drop_drop]) (by rw [hdl]; omega) (by omega) (by
              rw [hds, show at_ + n + blankF ((c :: t).drop n).length ((c :: t).drop n) - (at_ + n) = blankF ((c :: t).drop n).length ((c :: t).drop n) from by omega]
              rcases g2 with g2 | ⟨g2, g3⟩
              · exact .inl g2
              · exact .inr ⟨g2, by rw [g3, hdl]; omega⟩)
            unfold standF
            have hsp : spanW { w with at_ := (at_ : Int) } = n := h1.symm
            refine ⟨at_, rfl, hea, hlt, hgf, ?_, fun hk => ?_, ?_, ?_⟩
            · rw [hsp]; omega
            · rw [hl]; exact h3 hk
            · rw [hsp]; exact h4
            · rw [hsp]; exact hrec
theorem words_all (num : List UInt8 → Int × Bool) (nam : List UInt8 → Bool) (s : List UInt8) (ws : List WV) (k : Nat) (h : wordsAll num nam s = (some ws, k)) : standF s 0 ws := by
  obtain ⟨g1, g2⟩ := gap_blank _ s (Nat.le_refl _)
  exact words_stand num nam s _ _ _ ws k 0 h rfl g1 (Nat.zero_le _) (by rw [List.drop_zero, Nat.sub_zero]; exact g2)
end Go.Afx
