/- The steps of a walk through a plan (XOrd). -/
import Derived.Test.YtedcljahcedpjaaOrd
namespace Go.Afx
open Go
section
variable {P : Program} {ops : Array Oper} {B : Nat → Prop} {Q : Exit → Act → World → Prop} {i : Nat} {rest : List (Nat × Nat)} {a : Act} {w : World} {o : Oper} {v : Value}

theorem agree_drew (B : Nat → Prop) (w : World) : Agree B w w.drew := fun _ _ _ => rfl

theorem agree_alloc {B : Nat → Prop} {w : World} (o : Obj) (h : ∀ k, B k → k < w.heap.size) : Agree B w (w.alloc o) := fun b i hb => by
  have hlt := h b hb
  have : (w.alloc o).heap[b]? = w.heap[b]? := by
    show (w.heap.push o)[b]? = _
    rw [Array.getElem?_push, if_neg (by omega)]
  simp only [World.cell?, this]

theorem plan_nil (h : Q .normal a w) : wpPlan P ops B Q [] a w := h

theorem plan_pure {l : List Oper} {d : Tmp} (ho : l[i]? = some o) (hd : o.dst = some d) (hw : Region.wanted o (yielded l.toArray a.tmps) = true) (hv : ∀ w, (execOp a.eval o).run P w = .ok (.value v) w)
    (h : wpPlan P l.toArray B Q rest { a with tmps := a.tmps.setIfInBounds d v } w) : wpPlan P l.toArray B Q ((i, 0) :: rest) a w := ⟨o, v, by simpa using ho, .inl ⟨hw, hv⟩, by rw [hd]; exact h⟩
theorem plan_read {l : List Oper} {d : Tmp} (ho : l[i]? = some o) (hd : o.dst = some d) (hw : Region.wanted o (yielded l.toArray a.tmps) = true) (hv : (execOp a.eval o).run P w = .ok (.value v) w)
    (h : wpPlan P l.toArray B Q rest { a with tmps := a.tmps.setIfInBounds d v } w) : wpPlan P l.toArray B Q ((i, 1) :: rest) a w := ⟨o, v, by simpa using ho, .inl ⟨hw, fun _ e => by rw [e]; exact hv⟩, by rw [hd]; exact h⟩
theorem plan_readB {l : List Oper} {d : Tmp} (ho : l[i]? = some o) (hd : o.dst = some d) (hw : Region.wanted o (yielded l.toArray a.tmps) = true) (hv : ∀ w2, Agree B w w2 → (execOp a.eval o).run P w2 = .ok (.value v) w2)
    (h : wpPlan P l.toArray B Q rest { a with tmps := a.tmps.setIfInBounds d v } w) : wpPlan P l.toArray B Q ((i, 2) :: rest) a w := ⟨o, v, by simpa using ho, .inl ⟨hw, hv⟩, by rw [hd]; exact h⟩
theorem plan_skip0 {l : List Oper} {d : Tmp} (ho : l[i]? = some o) (hd : o.dst = some d) (hw : Region.wanted o (yielded l.toArray a.tmps) = false)
    (h : wpPlan P l.toArray B Q rest { a with tmps := a.tmps.setIfInBounds d undef } w) : wpPlan P l.toArray B Q ((i, 0) :: rest) a w := ⟨o, undef, by simpa using ho, .inr ⟨hw, rfl⟩, by rw [hd]; exact h⟩
theorem plan_skip1 {l : List Oper} {d : Tmp} (ho : l[i]? = some o) (hd : o.dst = some d) (hw : Region.wanted o (yielded l.toArray a.tmps) = false)
    (h : wpPlan P l.toArray B Q rest { a with tmps := a.tmps.setIfInBounds d undef } w) : wpPlan P l.toArray B Q ((i, 1) :: rest) a w := ⟨o, undef, by simpa using ho, .inr ⟨hw, rfl⟩, by rw [hd]; exact h⟩
theorem plan_skip2 {l : List Oper} {d : Tmp} (ho : l[i]? = some o) (hd : o.dst = some d) (hw : Region.wanted o (yielded l.toArray a.tmps) = false)
    (h : wpPlan P l.toArray B Q rest { a with tmps := a.tmps.setIfInBounds d undef } w) : wpPlan P l.toArray B Q ((i, 2) :: rest) a w := ⟨o, undef, by simpa using ho, .inr ⟨hw, rfl⟩, by rw [hd]; exact h⟩

theorem wpOp_of_list {K : Act → World → Prop} (ho : ops[i]? = some o) (h : wpList P ops (Exit.then K Q) [o] a w) : wpOp P ops Q i K a w := by
  unfold wpOp
  simp only [ho]
  unfold wpList at h
  split
  · rename_i hw
    rw [if_pos hw] at h
    rcases h with h | ⟨h1, h2⟩
    · refine .inl ?_
      unfold Oper.wp at *
      generalize (execOp a.eval o).run P w = r at *
      cases r with
      | ok n w' =>
        cases n <;> simp only [Oper.upon] at h ⊢ <;> first
          | exact h
          | exact Calls.mono h (fun e w'' he => by cases e <;> exact he)
          | exact Rows.mono h (fun _ _ he => he)
      | halt x w' => cases x <;> simp only [Oper.upon] at h ⊢ <;> exact h
    · exact .inr ⟨h1, h2⟩
  · rename_i hw
    rw [if_neg hw] at h
    exact h

theorem plan_keep {l : List Oper} (ho : l[i]? = some o) (h : wpList P l.toArray (Exit.then (fun a' w' => Agree B w w' ∧ wpPlan P l.toArray B Q rest a' w') Q) [o] a w) : wpPlan P l.toArray B Q ((i, 3) :: rest) a w :=
  wpOp_of_list (by simpa using ho) h
theorem plan_any {l : List Oper} (ho : l[i]? = some o) (h : wpList P l.toArray (Exit.then (wpPlan P l.toArray B Q rest) Q) [o] a w) : wpPlan P l.toArray B Q ((i, 4) :: rest) a w :=
  wpOp_of_list (by simpa using ho) h

theorem wp_region_lit_plan {id : Nat} {l : List Oper} (I : List Nat) (plan : List (Nat × Nat)) (B : Nat → Prop) (hm : P.follows .mixedOrders = true) (hB : planB l.toArray I [plan] = true)
    (hQ : ∀ c a d v w, Q (.panic c) (Act.put a d v) w → Q (.panic c) a w)
    (h : wpPlan P l.toArray B Q plan a w.drew) : (Code.region id l.toArray true).wp P Q a w :=
  wp_region_plans B I [plan] hm hB hQ (fun p hp => by simp at hp; subst hp; exact h)
/-- All plans, as a conjunction. -/
def allPlans (P : Program) (ops : Array Oper) (B : Nat → Prop) (Q : Exit → Act → World → Prop) (a : Act) (w : World) : List (List (Nat × Nat)) → Prop
  | [] => True
  | p :: ps => wpPlan P ops B Q p a w ∧ allPlans P ops B Q a w ps
theorem allPlans_mem : ∀ (ps : List (List (Nat × Nat))), allPlans P ops B Q a w ps → ∀ p ∈ ps, wpPlan P ops B Q p a w
  | [], _, _, h => by cases h
  | q :: ps, h, p, hp => by
    rcases List.mem_cons.1 hp with rfl | hp
    · exact h.1
    · exact allPlans_mem ps h.2 p hp
theorem wp_region_lit_plans {id : Nat} {l : List Oper} (I : List Nat) (plans : List (List (Nat × Nat))) (B : Nat → Prop) (hm : P.follows .mixedOrders = true) (hB : planB l.toArray I plans = true)
    (hQ : ∀ c a d v w, Q (.panic c) (Act.put a d v) w → Q (.panic c) a w)
    (h : allPlans P l.toArray B Q a w.drew plans) : (Code.region id l.toArray true).wp P Q a w :=
  wp_region_plans B I plans hm hB hQ (allPlans_mem plans h)
end
end Go.Afx
