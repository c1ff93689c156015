/- 'looks' of the laws of queue. -/
import Derived.Test.YtdoidpiomonagaaQueueKeeps
namespace Go.Proofs.Ytdoidpiomonagaa
open Go.RowKit Go.Afx

@[go_sem] theorem ite_lt_max (x y : Int) : (if x < y then y else x) = max x y := by omega
@[go_sem] theorem ite_lt_min (x y : Int) : (if x < y then x else y) = min x y := by omega

theorem agree_below {B : Nat → Prop} {b : Nat} {w w' : World} (h : Below b w w') (hB : ∀ k, B k → k < b) : Agree B w w' := fun k _ hk => h.cell (hB k hk)

set_option maxRecDepth 100000 in
set_option maxHeartbeats 2000000 in
theorem looks_any (w : World) (F : Nat → Prop) (b : Nat) (s : QSt) (hq : IsQ w F b s) (hs : QOk s) (B : Nat → Prop) (v : Value) (hv : Sl w B 1 v s.l.length (ints s.l)) (ask : Int) :
    Calls Try.prog 19 #[.pointer (some ⟨b, 0, none⟩), v, .int .i64 s.room, .int .i64 ask] w fun e w' => e = .returned (.bool true) ∧ Below w.heap.size w w' := by
  obtain ⟨p, cap, rfl, _, _⟩ := hv.form
  have q1 := hs.room
  have q2 := hs.len
  have HQ := Lib.hid hq
  have HS := Lib.hid hs
  have hpa : 0 < s.l.length → ∃ g off, p = some ⟨g, off, none⟩ ∧ g < w.heap.size ∧ ∀ j v, s.l[j]? = some v → w.cell? ⟨g, off + j, none⟩ = some (.int .i64 v) := fun hn => by
    obtain ⟨g, off, cap, hv, _, _, _, hlt, hc⟩ := hv.place hn
    cases hv
    refine ⟨g, off, rfl, hlt, fun j v hj => ?_⟩
    have hjl : j < s.l.length := (List.getElem?_eq_some_iff.1 hj).1
    rw [hc j (by simpa [ints] using hjl)]
    simp [ints, hj]
  have HPA := Lib.hid hpa
  clear hq hs hv hpa
  go_enter Try.func19, Try.ntmps19
  go_wp2
  go_loopw [9] (fun i wr => ∃ k : Nat, i = .int .i64 k ∧ k ≤ s.l.length ∧ Below w.heap.size w wr) (fun i _ => s.l.length - (intOf i).toNat)
  case atStart => exact ⟨0, rfl, Nat.zero_le _, Below.refl _ _⟩
  case round =>
    obtain ⟨k, rfl, hk, hbel⟩ := hrel
    have hq := HQ.out.below hbel
    by_cases hkl : k < s.l.length
    · obtain ⟨g, off, rfl, hg, hc⟩ := HPA.out (by omega)
      have ea : wr.cell? ⟨g, off + k, none⟩ = some (.int .i64 s.l[k]) := (hbel.cell (p := ⟨g, off + k, none⟩) hg).trans (hc k _ (List.getElem?_eq_getElem hkl))
      have hat := at_yes wr F b s k hq HS.out hkl
      have e1 : s.l.getD k 0 = s.l[k] := by simp [List.getD, hkl]
      rw [e1] at hat
      generalize s.l[k] = xv at *
      have HAT := Lib.hid hat
      clear hat e1 hc hq
      go_wp2_with (go_at_call 21; refine HAT.out.mono ?_; rintro e w' ⟨rfl, rfl⟩)
      go_roundw
      case rel => exact ⟨k + 1, by go_num, by omega, hbel⟩
      case measure => simp [intOf]; omega
    · have hat := at_any wr F b s ask hq HS.out
      have hle := len_any wr F b s hq
      have hfr := free_any wr F b s hq HS.out
      have a1 : (0 ≤ ask ∧ ask < s.l.length) ∨ (¬ 0 ≤ ask) ∨ (0 ≤ ask ∧ ¬ ask < s.l.length) := by omega
      have HAT := Lib.hid hat
      have HLE := Lib.hid hle
      have HFR := Lib.hid hfr
      clear hat hle hfr hq
      rcases a1 with ⟨a1, a2⟩ | a1 | ⟨a1, a2⟩
      · have a3 : s.atB ask = true := by simp [QSt.atB, a1, a2]
        generalize s.atB ask = ab at *
        generalize s.atV ask = av at *
        subst a3
        go_wp2_with (first
          | (go_at_call 21; refine HAT.out.mono ?_; rintro e w' ⟨rfl, rfl⟩)
          | (go_at_call 22; refine HLE.out.mono ?_; rintro e w' ⟨rfl, rfl⟩)
          | (go_at_call 23; refine HFR.out.mono ?_; rintro e w' ⟨rfl, rfl⟩))
        go_ret
        exact ⟨rfl, hbel.drew⟩
      · have a3 : s.atB ask = false := by simp [QSt.atB, a1]
        have a4 : s.atV ask = 0 := by simp [QSt.atV, a1]
        generalize s.atB ask = ab at *
        generalize s.atV ask = av at *
        subst a3
        subst a4
        go_wp2_with (first
          | (go_at_call 21; refine HAT.out.mono ?_; rintro e w' ⟨rfl, rfl⟩)
          | (go_at_call 22; refine HLE.out.mono ?_; rintro e w' ⟨rfl, rfl⟩)
          | (go_at_call 23; refine HFR.out.mono ?_; rintro e w' ⟨rfl, rfl⟩))
        go_ret
        exact ⟨rfl, hbel.drew⟩
      · have a3 : s.atB ask = false := by simp [QSt.atB]; omega
        have a4 : s.atV ask = 0 := by simp [QSt.atV]; omega
        generalize s.atB ask = ab at *
        generalize s.atV ask = av at *
        subst a3
        subst a4
        go_wp2_with (first
          | (go_at_call 21; refine HAT.out.mono ?_; rintro e w' ⟨rfl, rfl⟩)
          | (go_at_call 22; refine HLE.out.mono ?_; rintro e w' ⟨rfl, rfl⟩)
          | (go_at_call 23; refine HFR.out.mono ?_; rintro e w' ⟨rfl, rfl⟩))
        go_ret
        exact ⟨by simp; omega, hbel.drew⟩
end Go.Proofs.Ytdoidpiomonagaa
