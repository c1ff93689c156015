/- The laws CalcEnds and CalcRests: what the walks show. -/
import Derived.Test.YtdoidpiomonagaaCalcF
import Derived.Test.YtdoidpiomonagaaOpen
namespace Go.Proofs.Ytdoidpiomonagaa
open Go.RowKit Go.Afx

theorem wf_fits {n : Int} (h : (Lit.int .i64 n).wf = true) : fits n := by
  have h2 : -9223372036854775808 ≤ n ∧ n ≤ 9223372036854775807 := by simpa [Lit.wf, IntKind.min, IntKind.max, IntKind.bits, IntKind.signed] using h
  exact h2

theorem open_i64s {H : Type} {enc : TypeId × Value → H} {w : World} {v : Value} {d : DataW H} {ps : List MemPlace} (h : DataW.Trod enc Try.prog w 0 (fun _ => true) true 61 v d ps) (hv : v.cells.toList = [v]) :
    ∃ l : List Int, Sl w (fun _ => True) 1 v l.length (ints l) ∧ ∀ x ∈ l, fits x := by
  obtain ⟨fuel, hf⟩ := h
  rw [hv] at hf
  obtain ⟨l, h1, h2⟩ := open_ints_sl Try.underlying61 Try.underlying2 (by kernel_rfl) hf
  exact ⟨l, h1, fun x hx => wf_fits (h2 x hx)⟩

theorem minI_spec : ∀ (l : List Int) (a : Int), (minI a l = a ∨ minI a l ∈ l) ∧ minI a l ≤ a ∧ ∀ x ∈ l, minI a l ≤ x
  | [], a => ⟨.inl rfl, Int.le_refl _, by simp⟩
  | x :: l, a => by
    obtain ⟨h1, h2, h3⟩ := minI_spec l (min a x)
    have e : minI a (x :: l) = minI (min a x) l := rfl
    rw [e]
    refine ⟨?_, by omega, fun y hy => ?_⟩
    · rcases h1 with h1 | h1
      · by_cases hx : a ≤ x
        · exact .inl (by omega)
        · exact .inr (by rw [h1, show min a x = x by omega]; simp)
      · exact .inr (by simp [h1])
    · rcases List.mem_cons.1 hy with rfl | hy
      · omega
      · exact h3 y hy
theorem maxI_spec : ∀ (l : List Int) (a : Int), (maxI a l = a ∨ maxI a l ∈ l) ∧ a ≤ maxI a l ∧ ∀ x ∈ l, x ≤ maxI a l
  | [], a => ⟨.inl rfl, Int.le_refl _, by simp⟩
  | x :: l, a => by
    obtain ⟨h1, h2, h3⟩ := maxI_spec l (max a x)
    have e : maxI a (x :: l) = maxI (max a x) l := rfl
    rw [e]
    refine ⟨?_, by omega, fun y hy => ?_⟩
    · rcases h1 with h1 | h1
      · by_cases hx : x ≤ a
        · exact .inl (by omega)
        · exact .inr (by rw [h1, show max a x = x by omega]; simp)
      · exact .inr (by simp [h1])
    · rcases List.mem_cons.1 hy with rfl | hy
      · omega
      · exact h3 y hy

/-- Is it one of the first? -/
def seen (m a : Int) (l : List Int) (k : Nat) : Bool := decide (m = a ∨ m ∈ l.take k)
theorem seen_zero (m a : Int) (l : List Int) : seen m a l 0 = (m == a) := by
  rw [Bool.eq_iff_iff]; simp [seen]
theorem seen_next (m a : Int) (l : List Int) (k : Nat) (h : k < l.length) : seen m a l (k + 1) = (seen m a l k || m == l[k]) := by
  rw [Bool.eq_iff_iff]
  unfold seen
  rw [← List.take_append_getElem h, Bool.or_eq_true, decide_eq_true_iff, decide_eq_true_iff, List.mem_append, List.mem_singleton, beq_iff_eq, or_assoc]

set_option maxHeartbeats 1000000 in
theorem ends_walk (a : Int) (_ : (Lit.int .i64 a).wf = true) (v : Value) (l : List Int) (w : World) (hl : Sl w (fun _ => True) 1 v l.length (ints l) ∧ ∀ x ∈ l, fits x) :
    Calls Try.prog 8 #[.int .i64 a, v] w fun e w' => e = .returned (.bool true) ∧ Below w.heap.size w w' := by
  obtain ⟨p, cap, rfl, hc1, hc2⟩ := hl.1.form
  have HL := Lib.hid hl.1
  clear hl
  by_cases hlen : 100 < l.length
  · have d1 : (100 : Int) < l.length := by omega
    go_enter Try.func8, Try.ntmps8
    go_wp2_with (go_at_call 26; refine (awake_true _).mono ?_; rintro e w2 ⟨rfl, hb2⟩)
    go_ret
    exact ⟨rfl, hb2⟩
  have d1 : (l.length : Int) ≤ 100 := by omega
  obtain ⟨m1, m2, m3⟩ := minI_spec l a
  obtain ⟨x1, x2, x3⟩ := maxI_spec l a
  have hle : Hid (∀ (w2 : World), Below w.heap.size w w2 → Calls Try.prog 38 #[.int .i64 a, .slice p l.length cap] w2 fun e w' => e = .returned (.int .i64 (minI a l)) ∧ Below w2.heap.size w2 w') := fun w2 h => least_any w2 a _ l (HL.out.below h) (by omega)
  have hmo : Hid (∀ (w2 : World), Below w.heap.size w w2 → Calls Try.prog 39 #[.int .i64 a, .slice p l.length cap] w2 fun e w' => e = .returned (.int .i64 (maxI a l)) ∧ Below w2.heap.size w2 w') := fun w2 h => most_any w2 a _ l (HL.out.below h) (by omega)
  generalize minI a l = lo at *
  generalize maxI a l = hi at *
  have M1 := Lib.hid m1
  have M3 := Lib.hid m3
  have X1 := Lib.hid x1
  have X3 := Lib.hid x3
  have Z1 := Lib.hid (seen_zero lo a l)
  have Z2 := Lib.hid (seen_zero hi a l)
  have e1 : ∀ x : Int, (x == a) = (x == a) := fun _ => rfl
  clear m1 m3 x1 x3 e1
  go_enter Try.func8, Try.ntmps8
  go_wp2_with (first
    | (go_at_call 38; refine (hle.out _ (Below.refl _ _)).mono ?_; rintro e w2 ⟨rfl, hb2⟩)
    | (go_at_call 39; refine (hmo.out _ hb2).mono ?_; rintro e w3 ⟨rfl, hb3⟩))
  have hb4 := hb2.trans (hb3.mono hb2.size)
  have HB4 := Lib.hid hb4
  clear hb2 hb3 hb4
  rw [← Z1.out, ← Z2.out]
  go_loopw [7, 8, 9] (fun s o i wr => ∃ k : Nat, i = .int .i64 k ∧ k ≤ l.length ∧ s = .bool (seen lo a l k) ∧ o = .bool (seen hi a l k) ∧ Below w.heap.size w wr) (fun _ _ i _ => l.length - (intOf i).toNat)
  case atStart => exact ⟨0, rfl, Nat.zero_le _, rfl, rfl, HB4.out⟩
  case round =>
    obtain ⟨k, rfl, hk, rfl, rfl, hb⟩ := hrel
    by_cases hka : k < l.length
    · obtain ⟨g, off, cap', hv, _, _, hgb, hglt, hc⟩ := HL.out.place (by omega)
      cases hv
      have hc0 : w.cell? ⟨g, off + k, none⟩ = some (.int .i64 l[k]) := by rw [hc k (by simpa [ints] using hka)]; simp [ints, hka]
      have hck : wr.cell? ⟨g, off + k, none⟩ = some (.int .i64 l[k]) := (hb.cell hglt).trans hc0
      have l1 := M3.out l[k] (List.getElem_mem hka)
      have l2 := X3.out l[k] (List.getElem_mem hka)
      have N1 := Lib.hid (seen_next lo a l k hka)
      have N2 := Lib.hid (seen_next hi a l k hka)
      have HB := Lib.hid hb
      clear hc hc0 hb
      generalize l[k] = x at *
      generalize seen lo a l k = s1 at *
      generalize seen hi a l k = s2 at *
      cases s1 <;> cases s2
      all_goals
        go_wp2
        go_roundw
        case rel => exact ⟨k + 1, by go_num, by omega, by rw [N1.out]; rfl, by rw [N2.out]; rfl, HB.out⟩
        case measure => simp [intOf]; omega
    · have hkl : k = l.length := by omega
      subst hkl
      have s1 : seen lo a l l.length = true := by unfold seen; rw [List.take_length]; exact decide_eq_true M1.out
      have s2 : seen hi a l l.length = true := by unfold seen; rw [List.take_length]; exact decide_eq_true X1.out
      rw [s1, s2]
      clear s1 s2
      go_wp2_with (go_at_call 26; refine (awake_true _).mono ?_; rintro e w5 ⟨rfl, hb5⟩)
      go_ret
      exact ⟨rfl, hb.trans (hb5.mono hb.size)⟩

theorem lit_i64s (w : World) (l : List Int) (h : l.length ≤ 1000) : Sl (w.alloc (.cells (ints l).toArray 2)) (fun _ => True) 1 (.slice (some ⟨w.heap.size, 0, none⟩) l.length l.length) l.length (ints l) := by
  have := Own.made w 2 1 (ints l) [] l.length l.length (by simp [ints]) (ints_ones l) (Nat.le_refl _) (by unfold maxLen; omega) (by simp [ints])
  have h2 : Own (w.alloc (.cells (ints l).toArray 2)) 2 1 (.slice (some ⟨w.heap.size, 0, none⟩) l.length l.length) l.length (ints l) := by simpa using this
  exact h2.sl (fun k hk => trivial)

theorem rests_law (a b : Int) :
    dvE a b = 2 ∨ dvE a b = 3 ∨ (dvE a b = 0 ∧ mdE b = 0 ∧ dvN a b * b + mdN a b = a ∧ (0 < b ∧ 0 ≤ mdN a b ∧ mdN a b < b ∨ b < 0 ∧ mdN a b ≤ 0 ∧ b < mdN a b)) := by
  by_cases h0 : b = 0
  · subst h0; exact .inr (.inl rfl)
  by_cases h1 : b = -1
  · subst h1
    by_cases hf : fits (-a)
    · refine .inr (.inr ⟨?_, rfl, ?_, .inr ⟨by decide, by simp [mdN], by simp [mdN]⟩⟩)
      · simp [dvE, shortE, hf]
      · simp [dvN, mdN, shortN, hf]
    · left; simp [dvE, shortE, hf]
  · refine .inr (.inr ⟨by simp [dvE, h0, h1], by simp [mdE, h0], ?_, ?_⟩)
    · simp only [dvN, mdN, if_neg h0, if_neg h1]
      rw [Int.mul_comm]; exact Int.mul_fdiv_add_fmod a b
    · simp only [mdN, if_neg h0, if_neg h1]
      by_cases hb : 0 < b
      · exact .inl ⟨hb, Int.fmod_nonneg_of_pos a hb, Int.fmod_lt_of_pos a hb⟩
      · right
        have h2 := Int.fmod_nonneg_of_pos (-a) (show 0 < -b by omega)
        have h3 := Int.fmod_lt_of_pos (-a) (show 0 < -b by omega)
        rw [Int.neg_fmod_neg] at h2 h3
        omega

set_option maxHeartbeats 1000000 in
theorem rests_walk (a : Int) (ha : (Lit.int .i64 a).wf = true) (b : Int) (hb : (Lit.int .i64 b).wf = true) (w : World) :
    Calls Try.prog 10 #[.int .i64 a, .int .i64 b] w fun e w' => e = .returned (.bool true) ∧ Below w.heap.size w w' := by
  have fa := wf_fits ha
  have fb := wf_fits hb
  have HD := Lib.hid (fun w => div_any w a b fa fb)
  have HM := Lib.hid (fun w => mod_any w a b fa fb)
  have hr := rests_law a b
  have hq : fits (dvN a b) := by
    unfold dvN
    split
    · unfold fits; omega
    · split
      · unfold shortN; split
        · assumption
        · unfold fits; omega
      · rename_i h0 h1
        rcases parts_law a b h0 with ⟨hn, _, _, e1, _⟩ | ⟨_, e1, _⟩
        · have := tdiv_low a b fa h1 hn h0
          have := tdiv_fits a b fa h1
          unfold fits at *; omega
        · rw [e1]; exact tdiv_fits a b fa h1
  clear ha hb
  generalize dvN a b = q at *
  generalize dvE a b = qe at *
  generalize mdN a b = r at *
  generalize mdE b = re at *
  have bad : ∀ z, z = 2 ∨ z = 3 → qe = z → Calls Try.prog 10 #[.int .i64 a, .int .i64 b] w fun e w' => e = .returned (.bool true) ∧ Below w.heap.size w w' := by
    intro z hz hqz
    have hz2 : 0 < z := by omega
    have hz3 : (qe == 0) = false := by rw [beq_eq_false_iff_ne]; omega
    clear hz hqz hr hq fa fb
    go_enter Try.func10, Try.ntmps10
    go_wp2_with (first
      | (go_at_call 24; refine (HD.out _).mono ?_; rintro e w2 ⟨rfl, hb2⟩)
      | (go_at_call 25; refine (HM.out _).mono ?_; rintro e w3 ⟨rfl, hb3⟩)
      | (go_at_call 26; refine (awake_true _).mono ?_; rintro e w4 ⟨rfl, hb4⟩))
    go_ret
    have h3 := hb2.trans (hb3.mono hb2.size)
    exact ⟨rfl, h3.trans (hb4.mono h3.size)⟩
  rcases hr with hr | hr | ⟨rfl, rfl, h1, h2⟩
  · exact bad 2 (.inl rfl) hr
  · exact bad 3 (.inr rfl) hr
  clear bad
  have HMU := Lib.hid (fun (w : World) (v : Value) (hl : Sl w (fun _ => True) 1 v 2 (ints [q, b])) => mul_any w v [q, b] hl (by intro x hx; simp at hx; rcases hx with rfl | rfl <;> assumption) (by simp))
  have e1 : prodI [q, b] = q * b := by simp [prodI]
  rw [e1] at HMU
  have fr : fits r := by unfold fits at *; omega
  have HA := Lib.hid (fun (w : World) (v : Value) (p : Int) (hp : fits p) (hl : Sl w (fun _ => True) 1 v 2 (ints [p, r])) => add_any w v [p, r] hl (by intro x hx; simp at hx; rcases hx with rfl | rfl <;> assumption) (by simp))
  have L1 := Lib.hid (fun w => lit_i64s w [q, b] (by simp))
  have L2 := Lib.hid (fun w p => lit_i64s w [p, r] (by simp))
  have hrc : r = 0 ∨ (r == 0) = false ∧ (0 < r ∨ r < 0) := by
    by_cases h : r = 0
    · exact .inl h
    · exact .inr ⟨by rw [beq_eq_false_iff_ne]; exact h, by omega⟩
  clear e1 hq fr
  generalize q * b = p at *
  by_cases hp : fits p
  · have e1 : shortN p = p := by unfold shortN; rw [if_pos hp]
    have e2 : shortE p = 0 := by unfold shortE; rw [if_pos hp]
    have e3 : shortN ([p, r] : List Int).sum = a := by
      have : ([p, r] : List Int).sum = a := by simpa using h1
      rw [this]; unfold shortN; rw [if_pos fa]
    have e4 : shortE ([p, r] : List Int).sum = 0 := by
      have : ([p, r] : List Int).sum = a := by simpa using h1
      rw [this]; unfold shortE; rw [if_pos fa]
    rw [e1, e2] at HMU
    have HA2 := Lib.hid (fun w v h => HA.out w v p hp h)
    rw [e3, e4] at HA2
    clear e1 e2 e3 e4 HA hp h1 fa fb
    rcases h2 with h2 | h2 <;> rcases hrc with rfl | hrc
    all_goals
      go_enter Try.func10, Try.ntmps10
      go_wp2_with (first
        | (go_at_call 24; refine (HD.out _).mono ?_; rintro e w2 ⟨rfl, hb2⟩)
        | (go_at_call 25; refine (HM.out _).mono ?_; rintro e w3 ⟨rfl, hb3⟩)
        | (go_at_call 41; refine (HMU.out _ _ (L1.out _)).mono ?_; rintro e w4 ⟨rfl, hb4⟩)
        | (go_at_call 40; refine (HA2.out _ _ (L2.out _ _)).mono ?_; rintro e w5 ⟨rfl, hb5⟩)
        | (go_at_call 26; refine (awake_true _).mono ?_; rintro e w6 ⟨rfl, hb6⟩))
      go_ret
      have h3 := hb2.trans (hb3.mono hb2.size)
      have h4 := (h3.alloc h3.size _).trans (hb4.mono (by have := h3.size; simp; omega))
      have h5 := (h4.alloc h4.size _).trans (hb5.mono (by have := h4.size; simp; omega))
      exact ⟨rfl, h5.trans (hb6.mono h5.size)⟩
  · have e1 : shortN p = 0 := by unfold shortN; rw [if_neg hp]
    have e2 : shortE p = 2 := by unfold shortE; rw [if_neg hp]
    rw [e1, e2] at HMU
    clear e1 e2 HA hp h1 fa fb
    rcases h2 with h2 | h2 <;> rcases hrc with rfl | hrc
    all_goals
      go_enter Try.func10, Try.ntmps10
      go_wp2_with (first
        | (go_at_call 24; refine (HD.out _).mono ?_; rintro e w2 ⟨rfl, hb2⟩)
        | (go_at_call 25; refine (HM.out _).mono ?_; rintro e w3 ⟨rfl, hb3⟩)
        | (go_at_call 41; refine (HMU.out _ _ (L1.out _)).mono ?_; rintro e w4 ⟨rfl, hb4⟩)
        | (go_at_call 26; refine (awake_true _).mono ?_; rintro e w6 ⟨rfl, hb6⟩))
      go_ret
      have h3 := hb2.trans (hb3.mono hb2.size)
      have h4 := (h3.alloc h3.size _).trans (hb4.mono (by have := h3.size; simp; omega))
      exact ⟨rfl, h4.trans (hb6.mono h4.size)⟩
end Go.Proofs.Ytdoidpiomonagaa
