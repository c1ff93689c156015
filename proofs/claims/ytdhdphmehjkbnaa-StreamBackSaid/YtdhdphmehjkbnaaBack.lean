/- What is laid is read as it was; cut off it is bad (plain). -/
import Derived.Test.YtdhdphmehjkbnaaCodA
import Derived.Test.YtdhdphmehjkbnaaPtN
namespace Go.Proofs.Ytdhdphmehjkbnaa
open Go.RowKit Go.Afx

/-- f reads e as v, whatever stands behind; of a part of e it is bad. -/
def Reads {α : Type} (f : Bool → List UInt8 → α × Bool × List UInt8) (e : List UInt8) (v : α) : Prop :=
  (∀ rest, f false (e ++ rest) = (v, false, rest)) ∧ ∀ x y, x ++ y = e → y ≠ [] → (f false x).2.1 = true
/-- Bad stays bad. -/
def Sticks {α : Type} (f : Bool → List UInt8 → α × Bool × List UInt8) : Prop := ∀ l, (f true l).2.1 = true

theorem rByte_cons (c : UInt8) (l : List UInt8) : rByte false (c :: l) = ((c.toNat : Int), false, l) := rfl
theorem reads_num (u : Nat) (hu : u < 18446744073709551616) : Reads rNum (numB u) u := by
  have h8 := be_len_le 8 u hu
  have hc : ((UInt8.ofNat (be256 u).length).toNat : Int) = (be256 u).length := by
    rw [UInt8.toNat_ofNat']; omega
  refine ⟨fun rest => ?_, fun x y hx hy => ?_⟩
  · unfold rNum numB
    rw [List.cons_append, rByte_cons]
    simp only [hc]
    rw [if_neg (by decide), if_neg (by simp; omega)]
    have ht : ((be256 u ++ rest).take ((be256 u).length : Int).toNat) = be256 u := by simp
    have hd : ((be256 u ++ rest).drop ((be256 u).length : Int).toNat) = rest := by simp
    rw [ht, hd]
    have hb : ofBytes (be256 u) = u ∧ (be256 u).head? ≠ some 0 := by
      clear hc ht hd h8 hu
      induction u using Nat.strongRecOn with
      | ind u ih =>
        rcases Nat.eq_zero_or_pos u with h | h
        · subst h; rw [be_zero]; exact ⟨rfl, by simp⟩
        · obtain ⟨h1, h2⟩ := ih (u / 256) (Nat.div_lt_self h (by omega))
          have hm : (UInt8.ofNat (u % 256)).toNat = u % 256 := by rw [UInt8.toNat_ofNat']; omega
          rw [be_pos u h]
          refine ⟨by rw [ofBytes_snoc, h1, hm]; omega, ?_⟩
          cases hq : be256 (u / 256) with
          | nil =>
            have : u / 256 = 0 := by
              rcases Nat.eq_zero_or_pos (u / 256) with h0 | h0
              · exact h0
              · rw [be_pos _ h0] at hq; simp at hq
            simp only [List.nil_append, List.head?_cons]
            intro he
            have he2 : UInt8.ofNat (u % 256) = 0 := Option.some.inj he
            rw [he2] at hm
            simp at hm
            omega
          | cons a t => rw [hq] at h2; simpa using h2
    rw [if_neg hb.2, hb.1]
  · unfold rNum
    cases x with
    | nil => rfl
    | cons c x =>
      unfold numB at hx
      rw [List.cons_append] at hx
      injection hx with h1 h2
      subst h1
      rw [rByte_cons]
      simp only [hc]
      have hl : x.length < (be256 u).length := by
        have := congrArg List.length h2
        rw [List.length_append] at this
        have := List.length_pos_iff.2 hy
        omega
      rw [if_neg (by decide), if_pos (by right; simpa using hl)]
theorem sticks_num : Sticks rNum := fun l => by
  cases h : (rNum true l).2.1
  · have := (rNum_good true l h).1; cases this
  · rfl
theorem unzig_zig (n : Int) : unzig (zig n) = n := by unfold unzig zig; split <;> split <;> omega
theorem zig_lt (n : Int) (h : fit64 n) : zig n < 18446744073709551616 := by unfold fit64 at h; unfold zig; split <;> omega
theorem reads_sign (n : Int) (h : fit64 n) : Reads rSign (signB n) n := by
  have hn := reads_num (zig n) (zig_lt n h)
  refine ⟨fun rest => ?_, fun x y hx hy => ?_⟩
  · unfold rSign signB
    rw [hn.1 rest, unzig_zig]
  · unfold rSign
    exact hn.2 x y hx hy
theorem sticks_sign : Sticks rSign := fun l => sticks_num l
theorem reads_size (n : Nat) (most : Int) (h : (n : Int) ≤ most) (h2 : n < 18446744073709551616) : Reads (rSize most) (numB n) n := by
  have hn := reads_num n h2
  refine ⟨fun rest => ?_, fun x y hx hy => ?_⟩
  · unfold rSize
    rw [hn.1 rest]
    simp only
    rw [if_neg (by simp; omega)]
  · unfold rSize
    simp only
    rw [if_pos (.inl (hn.2 x y hx hy))]
theorem sticks_size (most : Int) : Sticks (rSize most) := fun l => by
  cases h : (rSize most true l).2.1
  · have := (rSize_good most true l h).1; cases this
  · rfl
theorem reads_text (s : ByteArray) (most : Nat) (h : s.size ≤ most) (hm : most ≤ 1000000) : Reads (rText most) (textB s) s.data.toList := by
  have hn := reads_size s.size most (by omega) (by omega)
  have hl := size_list s _ rfl
  refine ⟨fun rest => ?_, fun x y hx hy => ?_⟩
  · unfold rText textB
    rw [List.append_assoc, hn.1]
    unfold rCut
    rw [if_neg (fun h => by
      rcases h with h | h
      · cases h
      · simp only [List.length_append] at h; omega)]
    simp only [hl, List.take_left, List.drop_left]
  · unfold rText textB at *
    rcases List.append_eq_append_iff.1 hx with ⟨c, h1, h2⟩ | ⟨c, h1, h2⟩
    · by_cases hc : c = []
      · subst hc
        rw [List.append_nil] at h1
        rw [← h1]
        have := hn.1 []
        rw [List.append_nil] at this
        rw [this]
        simp only [List.nil_append] at h2
        unfold rCut
        rw [if_pos]
        right
        have := List.length_pos_iff.2 hy
        rw [← h2] at hl
        rw [List.length_nil]; omega
      · unfold rCut
        rw [if_pos (.inl (hn.2 x c h1.symm hc))]
    · rw [h1, hn.1]
      unfold rCut
      rw [if_pos]
      right
      have h3 := congrArg List.length h2
      rw [List.length_append] at h3
      have := List.length_pos_iff.2 hy
      show c.length < s.size
      omega
theorem sticks_text (most : Int) : Sticks (rText most) := fun l => by
  cases h : (rText most true l).2.1
  · have := (rText_good most true l h).1; cases this
  · rfl
theorem ba_nil {s : ByteArray} (h : s.toList.isEmpty = true) : s = ⟨#[]⟩ := by
  rw [ByteArray.toList_eq] at h
  exact nil_list s (by simpa using h)

theorem reads_val (v : AV) (h : v.right = true) (hn : fit64 v.n) : Reads rVal (valB v) v := by
  obtain ⟨k, n, s⟩ := v
  have hv : valB ⟨k, n, s⟩ = rightB ⟨k, n, s⟩ := by unfold valB; rw [if_pos h]
  rw [hv]
  have hr := h
  simp [AV.right] at h
  have key : ∀ (payload : List UInt8) (hk : UInt8.ofNat k.toNat :: payload = rightB ⟨k, n, s⟩)
      (h1 : ∀ rest, rRaw false (UInt8.ofNat k.toNat :: (payload ++ rest)) = (⟨k, n, s⟩, false, rest)) (h2 : ∀ x y, x ++ y = payload → y ≠ [] → (rRaw false (UInt8.ofNat k.toNat :: x)).2.1 = true), Reads rVal (rightB ⟨k, n, s⟩) ⟨k, n, s⟩ := by
    intro payload hk h1 h2
    rw [← hk]
    refine ⟨fun rest => ?_, fun x y hx hy => ?_⟩
    · unfold rVal
      rw [List.cons_append, h1 rest]
      rw [if_pos ⟨hr, rfl⟩]
    · cases x with
      | nil =>
        unfold rVal
        have : rRaw false [] = (⟨0, 0, ⟨#[]⟩⟩, true, []) := rfl
        rw [this]
        simp
      | cons c x =>
        rw [List.cons_append] at hx
        injection hx with h3 h4
        subst h3
        unfold rVal
        rw [if_neg]
        · intro hc
          rw [h2 x y h4 hy] at hc
          exact absurd hc.2 (by decide)
  rcases h with (⟨rfl, hs⟩ | ⟨⟨rfl, rfl⟩, hs⟩) | ⟨⟨rfl, hn01⟩, hs⟩
  · have hs2 : s = ⟨#[]⟩ := ba_nil (by simpa using hs)
    subst hs2
    have hsg := reads_sign n hn
    refine key (signB n) rfl (fun rest => ?_) (fun x y hx hy => ?_)
    · unfold rRaw
      rw [show UInt8.ofNat (1 : Int).toNat = 1 from rfl, rByte_cons]
      simp only
      rw [if_pos (by rfl), hsg.1 rest]
    · unfold rRaw
      rw [show UInt8.ofNat (1 : Int).toNat = 1 from rfl, rByte_cons]
      simp only
      rw [if_pos (by rfl)]
      exact hsg.2 x y hx hy
  · have hst := reads_text s 200 hs (by omega)
    refine key (textB s) rfl (fun rest => ?_) (fun x y hx hy => ?_)
    · unfold rRaw
      rw [show UInt8.ofNat (2 : Int).toNat = 2 from rfl, rByte_cons]
      simp only
      rw [if_neg (by decide), if_pos (by rfl)]
      have := hst.1 rest
      rw [show ((200 : Nat) : Int) = 200 from rfl] at this
      rw [this]
    · unfold rRaw
      rw [show UInt8.ofNat (2 : Int).toNat = 2 from rfl, rByte_cons]
      simp only
      rw [if_neg (by decide), if_pos (by rfl)]
      exact hst.2 x y hx hy
  · have hs2 : s = ⟨#[]⟩ := ba_nil (by simpa using hs)
    subst hs2
    have hb : ((UInt8.ofNat n.toNat).toNat : Int) = n := by
      rcases hn01 with rfl | rfl <;> rfl
    refine key [UInt8.ofNat n.toNat] rfl (fun rest => ?_) (fun x y hx hy => ?_)
    · unfold rRaw
      rw [show UInt8.ofNat (3 : Int).toNat = 3 from rfl, rByte_cons]
      simp only
      rw [if_neg (by decide), if_neg (by decide), if_pos (by rfl), List.cons_append, rByte_cons, hb]
      rfl
    · have hx0 : x = [] := by
        have h3 := congrArg List.length hx
        rw [List.length_append] at h3
        have := List.length_pos_iff.2 hy
        exact List.eq_nil_of_length_eq_zero (by simp at h3; omega)
      subst hx0
      rfl
theorem sticks_val : Sticks rVal := fun l => by
  cases h : (rVal true l).2.1
  · have := (rVal_good true l h).1; cases this
  · rfl

theorem reads_many {α : Type} {f : Bool → List UInt8 → α × Bool × List UInt8} {e : α → List UInt8} :
    ∀ vs : List α, (∀ v ∈ vs, Reads f (e v) v) → (∀ rest, rMany f vs.length false (laid e vs ++ rest) = (vs, false, rest)) ∧ ∀ x y, x ++ y = laid e vs → y ≠ [] → (rMany f vs.length false x).2.1 = true
  | [], _ => ⟨fun rest => rfl, fun x y hx hy => by
      have h3 : x ++ y = [] := hx
      exact absurd (List.append_eq_nil_iff.1 h3).2 hy⟩
  | v :: vs, h => by
    obtain ⟨ih1, ih2⟩ := reads_many vs (fun v hv => h v (List.mem_cons_of_mem _ hv))
    have hv := h v (List.mem_cons_self ..)
    have hl : laid e (v :: vs) = e v ++ laid e vs := by unfold laid; simp
    rw [hl, List.length_cons]
    refine ⟨fun rest => ?_, fun x y hx hy => ?_⟩
    · unfold rMany
      rw [if_neg (by decide), List.append_assoc, hv.1, ih1 rest]
    · unfold rMany
      rw [if_neg (by decide)]
      simp only
      rcases List.append_eq_append_iff.1 hx with ⟨c, h1, h2⟩ | ⟨c, h1, h2⟩
      · by_cases hc : c = []
        · subst hc
          rw [List.append_nil] at h1
          rw [← h1]
          have h5 := hv.1 []
          rw [List.append_nil] at h5
          rw [h5]
          exact ih2 [] y (by simpa using h2) hy
        · have h5 := hv.2 x c h1.symm hc
          rw [h5]
          cases vs.length <;> rfl
      · rw [h1, hv.1]
        exact ih2 c y h2.symm hy
theorem reads_list {α : Type} {f : Bool → List UInt8 → α × Bool × List UInt8} {e : α → List UInt8} (vs : List α) (h : ∀ v ∈ vs, Reads f (e v) v) (most : Int) (hm : (vs.length : Int) ≤ most) (hl : vs.length < 1000000) :
    Reads (rList f most) (sizeB vs.length ++ laid e vs) vs := by
  have hn := reads_size vs.length most hm (by omega)
  have hz : sizeB (vs.length : Int) = numB vs.length := by unfold sizeB; congr 1; omega
  rw [hz]
  obtain ⟨h1, h2⟩ := reads_many vs h
  refine ⟨fun rest => ?_, fun x y hx hy => ?_⟩
  · unfold rList
    rw [List.append_assoc, hn.1]
    simp only
    rw [h1 rest]
    rfl
  · have key : (rMany f (rSize most false x).1 (rSize most false x).2.1 (rSize most false x).2.2).2.1 = true := by
      rcases List.append_eq_append_iff.1 hx with ⟨c, h3, h4⟩ | ⟨c, h3, h4⟩
      · by_cases hc : c = []
        · subst hc
          rw [List.append_nil] at h3
          rw [← h3]
          have h5 := hn.1 []
          rw [List.append_nil] at h5
          rw [h5]
          exact h2 [] y (by simpa using h4) hy
        · have h5 := hn.2 x c h3.symm hc
          rw [h5]
          cases (rSize most false x).1 <;> rfl
      · rw [h3, hn.1]
        exact h2 c y h4.symm hy
    unfold rList
    simp only
    rw [if_pos key]
theorem sticks_list {α : Type} (f : Bool → List UInt8 → α × Bool × List UInt8) (most : Int) : Sticks (rList f most) := fun l => by
  have h := sticks_size most l
  unfold rList
  simp only
  rw [if_pos]
  rw [h]
  cases (rSize most true l).1 <;> rfl
theorem reads_row (l : List AV) (hr : ∀ v ∈ l, v.right = true ∧ fit64 v.n) (most : Int) (hm : (l.length : Int) ≤ most) (hl : l.length < 1000000) : Reads (rRow most) (rowB l) l :=
  reads_list l (fun v hv => reads_val v (hr v hv).1 (hr v hv).2) most hm hl
theorem reads_rows (ls : List (List AV)) (hr : ∀ l ∈ ls, (∀ v ∈ l, v.right = true ∧ fit64 v.n) ∧ l.length ≤ 100) (most cols : Int) (hm : (ls.length : Int) ≤ most) (hl : ls.length < 1000000) (hc : ∀ l ∈ ls, (l.length : Int) ≤ cols) : Reads (rRows most cols) (rowsB2 ls) ls :=
  reads_list ls (fun l hl => reads_row l (hr l hl).1 cols (hc l hl) (by have := (hr l hl).2; omega)) most hm hl

/-- Two readings, one behind the other: a part of what they read is bad. -/
theorem part_two {α β : Type} {f : Bool → List UInt8 → α × Bool × List UInt8} {g : Bool → List UInt8 → β × Bool × List UInt8} {a b : List UInt8} {v : α} {u : β} (hf : Reads f a v) (hg : Reads g b u) (hs : Sticks g)
    (x y : List UInt8) (hx : x ++ y = a ++ b) (hy : y ≠ []) : (g (f false x).2.1 (f false x).2.2).2.1 = true := by
  rcases List.append_eq_append_iff.1 hx with ⟨c, h3, h4⟩ | ⟨c, h3, h4⟩
  · by_cases hc : c = []
    · subst hc
      rw [List.append_nil] at h3
      rw [← h3]
      have h5 := hf.1 []
      rw [List.append_nil] at h5
      rw [h5]
      exact hg.2 [] y (by simpa using h4) hy
    · rw [hf.2 x c h3.symm hc]
      exact hs _
  · rw [h3, hf.1]
    exact hg.2 c y h4.symm hy
/-- Two readings as one. -/
def thenR {α β : Type} (f : Bool → List UInt8 → α × Bool × List UInt8) (g : Bool → List UInt8 → β × Bool × List UInt8) (b : Bool) (l : List UInt8) : (α × β) × Bool × List UInt8 := (((f b l).1, (g (f b l).2.1 (f b l).2.2).1), (g (f b l).2.1 (f b l).2.2).2)
theorem reads_then {α β : Type} {f : Bool → List UInt8 → α × Bool × List UInt8} {g : Bool → List UInt8 → β × Bool × List UInt8} {a b : List UInt8} {v : α} {u : β} (hf : Reads f a v) (hg : Reads g b u) (hs : Sticks g) : Reads (thenR f g) (a ++ b) (v, u) :=
  ⟨fun rest => by unfold thenR; rw [List.append_assoc, hf.1, hg.1], fun x y hx hy => part_two hf hg hs x y hx hy⟩
end Go.Proofs.Ytdhdphmehjkbnaa
