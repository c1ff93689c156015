/- The document's values: Right, All, Great; Value, Row, Rows. -/
import Derived.Test.YtlgohkdckdnmhaaDoorVal
namespace Go.Proofs.YtlgohkdckdnmhaaDoor
open Go.RowKit Go.Afx

set_option maxRecDepth 100000 in
set_option maxHeartbeats 1000000 in
theorem refright (w : World) (v : AV) : Calls Tryd.prog 35 #[v.agg] w fun e w' => e = .returned (.bool v.right) ∧ Below w.heap.size w w' := by
  obtain ⟨k, n, s⟩ := v
  have er : (⟨k, n, s⟩ : AV).right = ((k == 1 && s.toList.isEmpty) || (k == 2 && n == 0 && decide (s.size ≤ 200)) || (k == 3 && (n == 0 || n == 1) && s.toList.isEmpty)) := rfl
  rw [er]
  clear er
  generalize hem : s.toList.isEmpty = em
  by_cases h1 : k = 1
  · subst h1
    have e1 : ((((1 : Int) == 1) && em) || (((1 : Int) == 2) && n == 0 && decide (s.size ≤ 200)) || (((1 : Int) == 3) && (n == 0 || n == 1) && em)) = em := by cases em <;> rfl
    rw [e1]
    clear e1
    cases em
    · simp only [AV.agg]
      go_enter Tryd.func35, Tryd.ntmps35
      go_wp2
      go_ret
      refine ⟨rfl, ?_⟩
      repeat (with_reducible first | exact Below.refl _ _ | apply Below.drew | (refine Below.alloc ?_ (by first | omega | (simp; omega) | simp) _) | (refine Below.setCell ?_ (by first | omega | (simp; omega) | simp) _))
    · simp only [AV.agg]
      go_enter Tryd.func35, Tryd.ntmps35
      go_wp2
      go_ret
      refine ⟨rfl, ?_⟩
      repeat (with_reducible first | exact Below.refl _ _ | apply Below.drew | (refine Below.alloc ?_ (by first | omega | (simp; omega) | simp) _) | (refine Below.setCell ?_ (by first | omega | (simp; omega) | simp) _))
  · have k1 : (k == 1) = false := by rw [beq_eq_false_iff_ne]; exact h1
    by_cases h2 : k = 2
    · subst h2
      clear k1 h1
      by_cases hn : n = 0
      · subst hn
        by_cases hs : s.size ≤ 200
        · have e1 : ((((2 : Int) == 1) && em) || (((2 : Int) == 2) && ((0 : Int) == 0) && decide (s.size ≤ 200)) || (((2 : Int) == 3) && (((0 : Int) == 0) || ((0 : Int) == 1)) && em)) = true := by simp [hs]
          rw [e1]
          have hs2 : decide ((s.size : Int) ≤ 200) = true := decide_eq_true (by omega)
          clear e1 hem
          simp only [AV.agg]
          go_enter Tryd.func35, Tryd.ntmps35
          go_wp2
          go_ret
          refine ⟨rfl, ?_⟩
          repeat (with_reducible first | exact Below.refl _ _ | apply Below.drew | (refine Below.alloc ?_ (by first | omega | (simp; omega) | simp) _) | (refine Below.setCell ?_ (by first | omega | (simp; omega) | simp) _))
        · have e1 : ((((2 : Int) == 1) && em) || (((2 : Int) == 2) && ((0 : Int) == 0) && decide (s.size ≤ 200)) || (((2 : Int) == 3) && (((0 : Int) == 0) || ((0 : Int) == 1)) && em)) = false := by simp [hs]
          rw [e1]
          have hs2 : decide ((s.size : Int) ≤ 200) = false := decide_eq_false (by omega)
          clear e1 hem
          simp only [AV.agg]
          go_enter Tryd.func35, Tryd.ntmps35
          go_wp2
          go_ret
          refine ⟨rfl, ?_⟩
          repeat (with_reducible first | exact Below.refl _ _ | apply Below.drew | (refine Below.alloc ?_ (by first | omega | (simp; omega) | simp) _) | (refine Below.setCell ?_ (by first | omega | (simp; omega) | simp) _))
      · have hn2 : (n == 0) = false := by rw [beq_eq_false_iff_ne]; exact hn
        have e1 : ((((2 : Int) == 1) && em) || (((2 : Int) == 2) && (n == 0) && decide (s.size ≤ 200)) || (((2 : Int) == 3) && ((n == 0) || (n == 1)) && em)) = false := by simp [hn]
        rw [e1]
        clear e1 hem
        simp only [AV.agg]
        go_enter Tryd.func35, Tryd.ntmps35
        go_wp2
        go_ret
        refine ⟨rfl, ?_⟩
        repeat (with_reducible first | exact Below.refl _ _ | apply Below.drew | (refine Below.alloc ?_ (by first | omega | (simp; omega) | simp) _) | (refine Below.setCell ?_ (by first | omega | (simp; omega) | simp) _))
    · have k2 : (k == 2) = false := by rw [beq_eq_false_iff_ne]; exact h2
      by_cases h3 : k = 3
      · subst h3
        clear k1 k2 h1 h2
        by_cases hn0 : n = 0
        · subst hn0
          have e1 : ((((3 : Int) == 1) && em) || (((3 : Int) == 2) && ((0 : Int) == 0) && decide (s.size ≤ 200)) || (((3 : Int) == 3) && (((0 : Int) == 0) || ((0 : Int) == 1)) && em)) = em := by simp
          rw [e1]
          clear e1
          cases em
          · simp only [AV.agg]
            go_enter Tryd.func35, Tryd.ntmps35
            go_wp2
            go_ret
            refine ⟨rfl, ?_⟩
            repeat (with_reducible first | exact Below.refl _ _ | apply Below.drew | (refine Below.alloc ?_ (by first | omega | (simp; omega) | simp) _) | (refine Below.setCell ?_ (by first | omega | (simp; omega) | simp) _))
          · simp only [AV.agg]
            go_enter Tryd.func35, Tryd.ntmps35
            go_wp2
            go_ret
            refine ⟨rfl, ?_⟩
            repeat (with_reducible first | exact Below.refl _ _ | apply Below.drew | (refine Below.alloc ?_ (by first | omega | (simp; omega) | simp) _) | (refine Below.setCell ?_ (by first | omega | (simp; omega) | simp) _))
        · have a1 : (n == 0) = false := by rw [beq_eq_false_iff_ne]; exact hn0
          by_cases hn1 : n = 1
          · subst hn1
            have e1 : ((((3 : Int) == 1) && em) || (((3 : Int) == 2) && ((1 : Int) == 0) && decide (s.size ≤ 200)) || (((3 : Int) == 3) && (((1 : Int) == 0) || ((1 : Int) == 1)) && em)) = em := by simp
            rw [e1]
            clear e1
            cases em
            · simp only [AV.agg]
              go_enter Tryd.func35, Tryd.ntmps35
              go_wp2
              go_ret
              refine ⟨rfl, ?_⟩
              repeat (with_reducible first | exact Below.refl _ _ | apply Below.drew | (refine Below.alloc ?_ (by first | omega | (simp; omega) | simp) _) | (refine Below.setCell ?_ (by first | omega | (simp; omega) | simp) _))
            · simp only [AV.agg]
              go_enter Tryd.func35, Tryd.ntmps35
              go_wp2
              go_ret
              refine ⟨rfl, ?_⟩
              repeat (with_reducible first | exact Below.refl _ _ | apply Below.drew | (refine Below.alloc ?_ (by first | omega | (simp; omega) | simp) _) | (refine Below.setCell ?_ (by first | omega | (simp; omega) | simp) _))
          · have a2 : (n == 1) = false := by rw [beq_eq_false_iff_ne]; exact hn1
            have e1 : ((((3 : Int) == 1) && em) || (((3 : Int) == 2) && (n == 0) && decide (s.size ≤ 200)) || (((3 : Int) == 3) && ((n == 0) || (n == 1)) && em)) = false := by simp [hn0, hn1]
            rw [e1]
            clear e1 hem
            simp only [AV.agg]
            go_enter Tryd.func35, Tryd.ntmps35
            go_wp2
            go_ret
            refine ⟨rfl, ?_⟩
            repeat (with_reducible first | exact Below.refl _ _ | apply Below.drew | (refine Below.alloc ?_ (by first | omega | (simp; omega) | simp) _) | (refine Below.setCell ?_ (by first | omega | (simp; omega) | simp) _))
      · have k3 : (k == 3) = false := by rw [beq_eq_false_iff_ne]; exact h3
        rw [k1, k2, k3]
        simp only [Bool.false_and, Bool.or_false]
        clear h1 h2 h3 hem
        simp only [AV.agg]
        go_enter Tryd.func35, Tryd.ntmps35
        go_wp2
        go_ret
        refine ⟨rfl, ?_⟩
        repeat (with_reducible first | exact Below.refl _ _ | apply Below.drew | (refine Below.alloc ?_ (by first | omega | (simp; omega) | simp) _) | (refine Below.setCell ?_ (by first | omega | (simp; omega) | simp) _))
end Go.Proofs.YtlgohkdckdnmhaaDoor
