/- Names: letter, part, named; the document's Named. -/
import Derived.Test.YtlgohkdckdnmhaaDoorVal
namespace Go.Proofs.YtlgohkdckdnmhaaDoor
open Go.RowKit Go.Afx

def letterB (c : UInt8) : Bool := decide (97 ≤ c.toNat) && decide (c.toNat ≤ 122)
def partB (c : UInt8) : Bool := letterB c || (decide (48 ≤ c.toNat) && decide (c.toNat ≤ 57)) || c.toNat == 95
def namedL : List UInt8 → Bool
  | [] => false
  | c :: t => decide (t.length ≤ 15) && letterB c && t.all partB
def namedB (s : ByteArray) : Bool := namedL s.data.toList
theorem letter_part (c : UInt8) (h : letterB c = true) : partB c = true := by unfold partB; rw [h]; rfl

theorem letter_any (w : World) (c : UInt8) : Calls Tryd.prog 112 #[.int .u8 (c.toNat : Int)] w fun e w' => e = .returned (.bool (letterB c)) ∧ w = w' := by
  have hc : (c.toNat : Int) < 256 := by have := c.toNat_lt; omega
  have hl : letterB c = (decide ((97 : Int) ≤ (c.toNat : Int)) && decide ((c.toNat : Int) ≤ 122)) := by
    unfold letterB
    congr 1 <;> (rw [Bool.eq_iff_iff]; simp; omega)
  rw [hl]
  have h0 : (0 : Int) ≤ (c.toNat : Int) := by omega
  generalize (c.toNat : Int) = n at *
  clear hl
  by_cases h1 : 97 ≤ n
  · have e1 : decide ((97 : Int) ≤ n) = true := decide_eq_true h1
    rw [e1]
    go_enter Tryd.func112, Tryd.ntmps112
    go_wp2
    go_ret
    exact ⟨rfl, rfl⟩
  · have e1 : decide ((97 : Int) ≤ n) = false := decide_eq_false h1
    rw [e1]
    go_enter Tryd.func112, Tryd.ntmps112
    go_wp2
    go_ret
    exact ⟨rfl, rfl⟩

theorem part_any (w : World) (c : UInt8) : Calls Tryd.prog 113 #[.int .u8 (c.toNat : Int)] w fun e w' => e = .returned (.bool (partB c)) ∧ w = w' := by
  have HL := Lib.hid (letter_any w c)
  have hc : (c.toNat : Int) < 256 := by have := c.toNat_lt; omega
  have hp : partB c = (letterB c || (decide ((48 : Int) ≤ (c.toNat : Int)) && decide ((c.toNat : Int) ≤ 57)) || ((c.toNat : Int) == 95)) := by
    unfold partB
    congr 1
    · congr 1
      congr 1 <;> (rw [Bool.eq_iff_iff]; simp; omega)
    · rw [Bool.eq_iff_iff]; simp; omega
  rw [hp]
  have h0 : (0 : Int) ≤ (c.toNat : Int) := by omega
  generalize letterB c = lb at *
  generalize (c.toNat : Int) = n at *
  clear hp
  cases lb
  · by_cases h1 : 48 ≤ n
    · have e1 : decide ((48 : Int) ≤ n) = true := decide_eq_true h1
      by_cases h2 : n ≤ 57
      · have e2 : decide (n ≤ 57) = true := decide_eq_true h2
        rw [e1, e2]
        go_enter Tryd.func113, Tryd.ntmps113
        go_wp2_with (go_at_call 112; refine HL.out.mono ?_; rintro e w2 ⟨rfl, rfl⟩)
        go_ret
        exact ⟨rfl, rfl⟩
      · have e2 : decide (n ≤ 57) = false := decide_eq_false h2
        rw [e1, e2]
        go_enter Tryd.func113, Tryd.ntmps113
        go_wp2_with (go_at_call 112; refine HL.out.mono ?_; rintro e w2 ⟨rfl, rfl⟩)
        go_ret
        exact ⟨rfl, rfl⟩
    · have e1 : decide ((48 : Int) ≤ n) = false := decide_eq_false h1
      rw [e1]
      go_enter Tryd.func113, Tryd.ntmps113
      go_wp2_with (go_at_call 112; refine HL.out.mono ?_; rintro e w2 ⟨rfl, rfl⟩)
      go_ret
      exact ⟨rfl, rfl⟩
  · go_enter Tryd.func113, Tryd.ntmps113
    go_wp2_with (go_at_call 112; refine HL.out.mono ?_; rintro e w2 ⟨rfl, rfl⟩)
    go_ret
    exact ⟨rfl, rfl⟩

theorem named_any (w : World) (s : ByteArray) (hs : s.size ≤ maxLen) : Calls Tryd.prog 88 #[.string s] w fun e w' => e = .returned (.bool (namedB s)) ∧ Below w.heap.size w w' := by
  obtain ⟨l, hl⟩ : ∃ l, s.data.toList = l := ⟨_, rfl⟩
  have hsz := size_list s l hl
  have hem := toList_list s l hl
  have hN : namedB s = namedL l := by unfold namedB; rw [hl]
  rw [hN]
  have HG := Lib.hid (get_list s l hl)
  have kc : ∀ w, (convert 9 92 (.string s)).run Tryd.prog w = .ok (.slice (some ⟨w.heap.size, 0, none⟩) s.size (cvCap w s 5)) (cvW w s 5) := fun w => run_cv w _ _ _ s Tryd.underlying9 Tryd.underlying92 Tryd.underlying5
  unfold maxLen at hs
  cases l with
  | nil =>
    have e1 : s.toList.isEmpty = true := hem
    clear kc hem HG hN hl
    go_enter Tryd.func88, Tryd.ntmps88
    go_wp2
    go_ret
    exact ⟨rfl, Below.refl _ _⟩
  | cons c t =>
    have e1 : s.toList.isEmpty = false := hem
    rw [List.length_cons] at hsz
    have hg0 : ∀ (h : 0 < s.size), ((s[0]'h).toNat : Int) = (c.toNat : Int) := fun h => by rw [HG.out 0 h (by simp)]; rfl
    have h0s : 0 < s.size := by omega
    have hg1 := hg0 h0s
    have HLT := Lib.hid (fun w => letter_any w c)
    by_cases h16 : 15 < t.length
    · have e2 : decide ((16 : Int) < s.size) = true := decide_eq_true (by omega)
      have e3 : namedL (c :: t) = false := by show (decide (t.length ≤ 15) && letterB c && t.all partB) = false; rw [decide_eq_false (by omega)]; rfl
      rw [e3]
      clear kc hem HG hN hl e3
      go_enter Tryd.func88, Tryd.ntmps88
      go_wp2
      go_ret
      exact ⟨rfl, Below.refl _ _⟩
    · have e2 : decide ((16 : Int) < s.size) = false := decide_eq_false (by omega)
      have e3 : namedL (c :: t) = (letterB c && t.all partB) := by show (decide (t.length ≤ 15) && letterB c && t.all partB) = _; rw [decide_eq_true (by omega)]; rfl
      cases hlb : letterB c
      · have e4 : namedL (c :: t) = false := by rw [e3, hlb]; rfl
        rw [e4]
        rw [hlb] at HLT
        clear kc hem HG hN hl e3 e4 hlb
        go_enter Tryd.func88, Tryd.ntmps88
        go_wp2_with (go_at_call 112; refine (HLT.out _).mono ?_; rintro e w2 ⟨rfl, rfl⟩)
        go_ret
        exact ⟨rfl, Below.refl _ _⟩
      · have e4 : namedL (c :: t) = (c :: t).all partB := by rw [e3, hlb, List.all_cons, letter_part c hlb]
        rw [e4]
        rw [hlb] at HLT
        have HC : Hid (∀ k (h : k < (c :: t).length), (cvW w s 5).cell? ⟨w.heap.size, k, none⟩ = some (.int .u8 ((c :: t)[k].toNat : Int))) := fun k h => cvW_cell w s _ _ hl k h
        have HB : Hid (Below w.heap.size w (cvW w s 5)) := cvW_below w s _
        have hs2 : s.size = (c :: t).length := by rw [List.length_cons]; exact hsz
        have hl17 : (c :: t).length ≤ 16 := by rw [List.length_cons]; omega
        clear hem HG hN hl e3 e4 hlb hsz h16
        generalize (c :: t) = l at *
        go_enter Tryd.func88, Tryd.ntmps88
        go_wp2_with (go_at_call 112; refine (HLT.out _).mono ?_; rintro e w2 ⟨rfl, rfl⟩)
        clear kc hg0 hg1 e1 e2
        go_loop [21] (fun i => ∃ k : Nat, i = .int .i64 k ∧ k ≤ l.length ∧ (l.take k).all partB = true) (fun i => l.length - (intOf i).toNat)
        case atStart => exact ⟨0, rfl, Nat.zero_le _, rfl⟩
        case round =>
          obtain ⟨k, rfl, hk, hr⟩ := hrel
          by_cases hka : k < l.length
          · have hck := HC.out k hka
            have HX : Hid (∀ b, partB l[k] = b → (l.take (k + 1)).all partB = b) := fun b hb => by
              rw [← List.take_append_getElem hka, List.all_append, hr]
              simp [hb]
            have HY : Hid (partB l[k] = false → l.all partB = false) := fun h => by
              rw [List.all_eq_false]
              exact ⟨l[k], List.getElem_mem hka, by simp [h]⟩
            have HP := Lib.hid (fun w => part_any w l[k])
            clear hr
            generalize l[k] = x at *
            cases hx : partB x
            · rw [hx] at HP
              have HF := Lib.hid (HY.out hx)
              clear hx HX HY
              go_wp2_with (go_at_call 113; refine (HP.out _).mono ?_; rintro e w2 ⟨rfl, rfl⟩)
              go_ret
              exact ⟨by rw [HF.out]; rfl, HB.out⟩
            · rw [hx] at HP
              have HF := Lib.hid (HX.out true hx)
              clear hx HX HY
              go_wp2_with (go_at_call 113; refine (HP.out _).mono ?_; rintro e w2 ⟨rfl, rfl⟩)
              go_round
              case rel => exact ⟨k + 1, by go_num, by omega, HF.out⟩
              case measure => (simp [intOf]) <;> omega
          · obtain rfl : k = l.length := by omega
            rw [List.take_length] at hr
            have HR := Lib.hid hr
            clear hr
            go_wp2
            go_ret
            exact ⟨by rw [HR.out]; rfl, HB.out⟩
end Go.Proofs.YtlgohkdckdnmhaaDoor
