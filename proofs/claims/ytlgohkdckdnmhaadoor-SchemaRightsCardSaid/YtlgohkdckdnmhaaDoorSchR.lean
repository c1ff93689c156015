/- Names: the document's Named. -/
import Derived.Test.YtlgohkdckdnmhaaDoorSchA
namespace Go.Proofs.YtlgohkdckdnmhaaDoor
open Go.RowKit Go.Afx

/-- What the document asks of the byte at a place. -/
def nameAt (k : Nat) (c : UInt8) : Bool := letterB c || (decide (k ≠ 0) && partB c)
theorem namedL_at (l : List UInt8) (h1 : 1 ≤ l.length) (h16 : l.length ≤ 16) (h : ∀ k (hk : k < l.length), nameAt k l[k] = true) : namedL l = true := by
  cases l with
  | nil => simp at h1
  | cons c t =>
    show (decide (t.length ≤ 15) && letterB c && t.all partB) = true
    have h0 := h 0 (by simp)
    simp only [List.length_cons] at h16
    have hl : letterB c = true := by simpa [nameAt] using h0
    rw [decide_eq_true (by omega), hl, List.all_eq_true.2]
    · rfl
    · intro x hx
      obtain ⟨k, hk, rfl⟩ := List.getElem_of_mem hx
      have := h (k + 1) (by simp; omega)
      unfold nameAt at this
      rw [List.getElem_cons_succ] at this
      simp at this
      rcases this with h | h
      · exact letter_part _ h
      · exact h
theorem namedL_not (l : List UInt8) (k : Nat) (hk : k < l.length) (h : nameAt k l[k] = false) : namedL l = false := by
  cases l with
  | nil => rfl
  | cons c t =>
    show (decide (t.length ≤ 15) && letterB c && t.all partB) = false
    unfold nameAt at h
    rw [Bool.or_eq_false_iff] at h
    cases k with
    | zero =>
      rw [List.getElem_cons_zero] at h
      rw [h.1]; simp
    | succ k =>
      rw [List.getElem_cons_succ] at h
      have : t.all partB = false := by
        rw [List.all_eq_false]
        exact ⟨t[k]'(by simpa using hk), List.getElem_mem _, by have := h.2; simp at this; simp [this]⟩
      rw [this]; simp

set_option maxRecDepth 100000 in
set_option maxHeartbeats 1000000 in
theorem refnamed (w : World) (s : ByteArray) (hs : s.size ≤ maxLen) : Calls Tryd.prog 51 #[.string s] w fun e w' => e = .returned (.bool (namedB s)) ∧ w = w' := by
  obtain ⟨l, hl⟩ : ∃ l, s.data.toList = l := ⟨_, rfl⟩
  have hsz := size_list s l hl
  have hN : namedB s = namedL l := by unfold namedB; rw [hl]
  rw [hN]
  have HG := Lib.hid (get_list s l hl)
  unfold maxLen at hs
  clear hN hl
  by_cases h1 : s.size < 1
  · have e1 : decide ((s.size : Int) < 1) = true := decide_eq_true (by omega)
    obtain rfl : l = [] := List.eq_nil_of_length_eq_zero (by omega)
    go_enter Tryd.func51, Tryd.ntmps51
    go_wp2
    go_ret
    exact ⟨rfl, rfl⟩
  have e1 : decide ((s.size : Int) < 1) = false := decide_eq_false (by omega)
  by_cases h16 : 16 < s.size
  · have e2 : decide ((16 : Int) < s.size) = true := decide_eq_true (by omega)
    have e3 : namedL l = false := by
      cases l with
      | nil => rfl
      | cons c t =>
        rw [List.length_cons] at hsz
        show (decide (t.length ≤ 15) && letterB c && t.all partB) = false
        rw [decide_eq_false (by omega)]; rfl
    rw [e3]
    clear e3
    go_enter Tryd.func51, Tryd.ntmps51
    go_wp2
    go_ret
    exact ⟨rfl, rfl⟩
  have e2 : decide ((16 : Int) < s.size) = false := decide_eq_false (by omega)
  have HT : Hid ((∀ k (hk : k < l.length), nameAt k l[k] = true) → namedL l = true) := fun h => namedL_at l (by omega) (by omega) h
  have HF : Hid (∀ k (hk : k < l.length), nameAt k l[k] = false → namedL l = false) := fun k hk h => namedL_not l k hk h
  have hlen : l.length ≤ 16 := by omega
  have HSZ := Lib.hid hsz
  clear h1 h16 hsz
  go_enter Tryd.func51, Tryd.ntmps51
  go_wp2
  clear e1 e2
  go_loop [3] (fun i => ∃ k : Nat, i = .int .i64 k ∧ k ≤ l.length ∧ ∀ j (hj : j < l.length), j < k → nameAt j l[j] = true) (fun i => l.length - (intOf i).toNat)
  case atStart => exact ⟨0, rfl, Nat.zero_le _, fun j _ h => absurd h (Nat.not_lt_zero _)⟩
  case round =>
    obtain ⟨k, rfl, hk, hr⟩ := hrel
    have HR := Lib.hid hr
    clear hr
    have hks : (s.size : Int) = l.length := by rw [HSZ.out]
    by_cases hka : k < l.length
    · have hki : (k : Int) < s.size := by omega
      have hks2 : k < s.size := by omega
      have hg : ((s[k]'hks2).toNat : Int) = (l[k].toNat : Int) := by rw [HG.out k hks2 hka]
      have HX : Hid (nameAt k l[k] = true → ∀ j (hj : j < l.length), j < k + 1 → nameAt j l[j] = true) := fun h j hj hjk => by
        rcases Nat.lt_or_ge j k with h2 | h2
        · exact HR.out j hj h2
        · obtain rfl : j = k := by omega
          exact h
      have HY := Lib.hid (HF.out k hka)
      have hna : nameAt k l[k] = ((decide ((97 : Int) ≤ (l[k].toNat : Int)) && decide ((l[k].toNat : Int) ≤ 122)) || (decide ((k : Int) ≠ 0) && ((decide ((48 : Int) ≤ (l[k].toNat : Int)) && decide ((l[k].toNat : Int) ≤ 57)) || ((l[k].toNat : Int) == 95)))) := by
        have hl : letterB l[k] = (decide ((97 : Int) ≤ (l[k].toNat : Int)) && decide ((l[k].toNat : Int) ≤ 122)) := by
          unfold letterB
          congr 1 <;> (rw [Bool.eq_iff_iff]; simp; omega)
        have hp : (decide (48 ≤ l[k].toNat) && decide (l[k].toNat ≤ 57)) = (decide ((48 : Int) ≤ (l[k].toNat : Int)) && decide ((l[k].toNat : Int) ≤ 57)) := by congr 1 <;> (rw [Bool.eq_iff_iff]; simp; omega)
        have hq : (l[k].toNat == 95) = ((l[k].toNat : Int) == 95) := by rw [Bool.eq_iff_iff]; simp; omega
        have hz : decide (k ≠ 0) = decide ((k : Int) ≠ 0) := by rw [Bool.eq_iff_iff]; simp
        unfold nameAt partB
        rw [hl, hp, hq, hz]
        generalize (decide ((97 : Int) ≤ (l[k].toNat : Int)) && decide ((l[k].toNat : Int) ≤ 122)) = a
        generalize decide ((k : Int) ≠ 0) = b
        cases a <;> cases b <;> rfl
      have hc : (l[k].toNat : Int) < 256 := by have := l[k].toNat_lt; omega
      have hc0 : (0 : Int) ≤ (l[k].toNat : Int) := by omega
      rw [hna] at HX HY
      clear hna
      generalize (l[k].toNat : Int) = c at *
      cases a1 : decide ((97 : Int) ≤ c) <;> cases a2 : decide (c ≤ 122) <;> cases a3 : decide ((48 : Int) ≤ c) <;> cases a4 : decide (c ≤ 57) <;> cases a5 : (c == 95) <;> (first | (exfalso; simp at a1 a2 a3 a4 a5; omega) | skip)
      all_goals
        rw [a1, a2, a3, a4, a5] at HX HY
        have b5 : (c != 95) = !(c == 95) := rfl
        rw [a5] at b5
        simp only [Bool.not_true, Bool.not_false] at b5
        rcases Nat.eq_zero_or_pos k with hk0 | hk0
      all_goals
        first
          | subst hk0
          | (have hkb : ((k : Int) == 0) = false := beq_eq_false_iff_ne.2 (by omega); have hkd : decide ((k : Int) ≠ 0) = true := decide_eq_true (by omega); rw [hkd] at HX HY; clear hkd)
        go_wp2
        first
          | (go_ret; exact ⟨by rw [HY.out (by simp)]; rfl, rfl⟩)
          | (go_round;
             case rel => exact ⟨_, by go_num, by omega, HX.out (by simp)⟩
             case measure => (simp [intOf]) <;> omega)
    · obtain rfl : k = l.length := by omega
      have e1 := HT.out (fun j hj => HR.out j hj hj)
      have E1 := Lib.hid e1
      clear e1
      go_wp2
      go_ret
      exact ⟨by rw [E1.out]; rfl, rfl⟩
end Go.Proofs.YtlgohkdckdnmhaaDoor
