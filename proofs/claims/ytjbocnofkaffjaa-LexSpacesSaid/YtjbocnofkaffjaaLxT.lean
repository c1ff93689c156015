/- Words with blanks between (plain, for LexSpaces): they are the same words. -/
import Derived.Test.YtjbocnofkaffjaaLxQ
namespace Go.Proofs.Ytjbocnofkaffjaa
open Go.RowKit Go.Afx

def remB (r : Bool) : List UInt8 := if r then [47, 47, 32, 39, 32, 123, 10] else []
def spaced (r : Bool) : List WV → List UInt8
  | [] => []
  | w :: ws => w.text ++ 32 :: (remB r ++ spaced r ws)
def wvKey (w : WV) : Int × List UInt8 × Int := (w.kind, w.text, w.n)
/-- A word that some text begins with. -/
def FromN (num : List UInt8 → Int × Bool) (nam : List UInt8 → Bool) (w : WV) : Prop := ∃ l w0 n, nextF num nam l = (w0, n, true) ∧ wvKey w0 = wvKey w
theorem words_from (num : List UInt8 → Int × Bool) (nam : List UInt8 → Bool) : ∀ (f at_ : Nat) (l : List UInt8) (ws : List WV) (k : Nat), wordsF num nam f at_ l = (some ws, k) → ∀ w ∈ ws, FromN num nam w
  | 0, at_, l, ws, k, h, _, _ => by
    have := congrArg Prod.fst h
    cases this
  | f + 1, at_, [], ws, k, h, w, hw => by
    rw [wordsF] at h
    injection h with h1 _
    injection h1 with h1
    subst h1
    cases hw
  | f + 1, at_, c :: t, ws, k, h, w, hw => by
    rw [wordsF] at h
    cases hn : nextF num nam (c :: t) with
    | mk w0 r =>
      obtain ⟨n, ok⟩ := r
      rw [hn] at h
      simp only at h
      cases ok
      · rw [if_neg (by decide)] at h
        have := congrArg Prod.fst h
        cases this
      · rw [if_pos rfl] at h
        cases hw2 : wordsF num nam f (at_ + n + blankF ((c :: t).drop n).length ((c :: t).drop n)) (((c :: t).drop n).drop (blankF ((c :: t).drop n).length ((c :: t).drop n))) with
        | mk o k2 =>
          rw [hw2] at h
          cases o with
          | none =>
            have := congrArg Prod.fst h
            cases this
          | some ws2 =>
            simp only at h
            injection h with h5 _
            injection h5 with h5
            subst h5
            rcases List.mem_cons.1 hw with rfl | hw
            · exact ⟨c :: t, w0, n, hn, rfl⟩
            · exact words_from num nam f _ _ ws2 k2 hw2 w hw
theorem from_again {num : List UInt8 → Int × Bool} {nam : List UInt8 → Bool} {w : WV} (h : FromN num nam w) (hk : w.kind ≠ 2) (rest : List UInt8) :
    ∃ w0, nextF num nam (w.text ++ 32 :: rest) = (w0, w.text.length, true) ∧ wvKey w0 = wvKey w ∧ blankN (w.text ++ 32 :: rest) = 0 := by
  obtain ⟨l, w0, n, h1, h2⟩ := h
  have h3 : w0.kind = w.kind ∧ w0.text = w.text ∧ w0.n = w.n := by
    unfold wvKey at h2
    simpa using h2
  obtain ⟨g1, g2⟩ := next_again num nam l w0 n h1 (by rw [h3.1]; exact hk) rest
  rw [h3.2.1] at g1 g2
  exact ⟨w0, g1, h2, g2⟩
theorem blank_rem (r : Bool) (x : List UInt8) (hx : blankN x = 0) : blankN (32 :: (remB r ++ x)) = 1 + (remB r).length := by
  rw [blankN_cons, if_pos (by decide)]
  cases r
  · simp [remB, hx]
  · congr 1
    show blankN (47 :: ([47, 32, 39, 32, 123, 10] ++ x)) = 7
    rw [blankN_cons, if_neg (by decide), if_pos (show [47,47].isPrefixOf (47 :: ([47, 32, 39, 32, 123, 10] ++ x)) = true from rfl)]
    show 6 + blankN (10 :: x) = 7
    rw [blankN_cons, if_pos (by decide), hx]
theorem spaced_blank {num : List UInt8 → Int × Bool} {nam : List UInt8 → Bool} (r : Bool) : ∀ ws : List WV, (∀ w ∈ ws, FromN num nam w ∧ w.kind ≠ 2) → blankN (spaced r ws) = 0
  | [], _ => rfl
  | w :: ws, h => by
    obtain ⟨h1, h2⟩ := h w (List.mem_cons_self ..)
    obtain ⟨w0, _, _, g3⟩ := from_again h1 h2 (remB r ++ spaced r ws)
    exact g3
theorem spaced_words {num : List UInt8 → Int × Bool} {nam : List UInt8 → Bool} (r : Bool) : ∀ (ws : List WV) (f at_ : Nat), (∀ w ∈ ws, FromN num nam w ∧ w.kind ≠ 2) → (spaced r ws).length < f → ∃ ws2 k, wordsF num nam f at_ (spaced r ws) = (some ws2, k) ∧ ws2.map wvKey = ws.map wvKey
  | [], 0, _, _, h => absurd h (Nat.not_lt_zero _)
  | [], f + 1, at_, _, _ => ⟨[], 0, rfl, rfl⟩
  | w :: ws, 0, _, _, h => absurd h (Nat.not_lt_zero _)
  | w :: ws, f + 1, at_, h, hl => by
    obtain ⟨h1, h2⟩ := h w (List.mem_cons_self ..)
    obtain ⟨w0, g1, g2, _⟩ := from_again h1 h2 (remB r ++ spaced r ws)
    have hx := spaced_blank r ws (fun v hv => h v (List.mem_cons_of_mem _ hv))
    have hs : spaced r (w :: ws) = w.text ++ 32 :: (remB r ++ spaced r ws) := rfl
    have hdrop : (w.text ++ 32 :: (remB r ++ spaced r ws)).drop w.text.length = 32 :: (remB r ++ spaced r ws) := List.drop_left
    have hbn : blankF (32 :: (remB r ++ spaced r ws)).length (32 :: (remB r ++ spaced r ws)) = 1 + (remB r).length := blank_rem r _ hx
    have hd2 : (32 :: (remB r ++ spaced r ws)).drop (1 + (remB r).length) = spaced r ws := by
      rw [Nat.add_comm, List.drop_succ_cons, List.drop_left]
    obtain ⟨ws2, k, e1, e2⟩ := spaced_words r ws f (at_ + w.text.length + (1 + (remB r).length)) (fun v hv => h v (List.mem_cons_of_mem _ hv)) (by
      rw [hs] at hl
      simp only [List.length_append, List.length_cons] at hl
      omega)
    obtain ⟨c, t, hct⟩ : ∃ c t, w.text ++ 32 :: (remB r ++ spaced r ws) = c :: t := by
      cases hx2 : w.text ++ 32 :: (remB r ++ spaced r ws) with
      | nil => exact absurd (List.append_eq_nil_iff.1 hx2).2 (by simp)
      | cons c t => exact ⟨c, t, rfl⟩
    refine ⟨{ w0 with at_ := (at_ : Int) } :: ws2, k, ?_, ?_⟩
    · rw [hs, hct, wordsF, ← hct, g1]
      simp only
      rw [if_pos trivial, hdrop, hbn, hd2, e1]
    · rw [List.map_cons, List.map_cons, e2]
      congr 1
theorem spaced_all {num : List UInt8 → Int × Bool} {nam : List UInt8 → Bool} (r : Bool) (ws : List WV) (h : ∀ w ∈ ws, FromN num nam w ∧ w.kind ≠ 2) : ∃ ws2 k, wordsAll num nam (spaced r ws) = (some ws2, k) ∧ ws2.map wvKey = ws.map wvKey := by
  have hb : blankF (spaced r ws).length (spaced r ws) = 0 := spaced_blank r ws h
  unfold wordsAll
  rw [hb, List.drop_zero]
  exact spaced_words r ws _ 0 h (Nat.lt_succ_self _)
end Go.Proofs.Ytjbocnofkaffjaa
