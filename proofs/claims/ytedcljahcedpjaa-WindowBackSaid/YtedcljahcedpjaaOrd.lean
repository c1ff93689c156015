/- A region that draws its order: a few orders, picked by plans and checked by the kernel, serve all orders. -/
import Derived.WalkKit
namespace Go.Afx
open Go

/-- The cells of the blocks in B read as they did. -/
def Agree (B : Nat → Prop) (w w2 : World) : Prop := ∀ b o, B b → w2.cell? ⟨b, o, none⟩ = w.cell? ⟨b, o, none⟩
theorem Agree.refl (B : Nat → Prop) (w : World) : Agree B w w := fun _ _ _ => rfl
theorem Agree.trans {B : Nat → Prop} {w w2 w3 : World} (h : Agree B w w2) (k : Agree B w2 w3) : Agree B w w3 := fun b o hb => (k b o hb).trans (h b o hb)

section
variable {P : Program} {ops : Array Oper} {B : Nat → Prop} {Q : Exit → Act → World → Prop}

/-- The operation yields v and leaves the world alone, at each world in C. -/
def YieldsR (P : Program) (ops : Array Oper) (C : World → Prop) (o : Oper) (v : Value) (a : Act) : Prop :=
  (Region.wanted o (yielded ops a.tmps) = true ∧ ∀ w, C w → (execOp a.eval o).run P w = .ok (.value v) w) ∨
  (Region.wanted o (yielded ops a.tmps) = false ∧ v = undef)

theorem YieldsR.of_same {C : World → Prop} {o : Oper} {v : Value} {a a' : Act} (hy : YieldsR P ops C o v a) (he : execOp a'.eval o = execOp a.eval o)
    (hw : Region.wanted o (yielded ops a'.tmps) = Region.wanted o (yielded ops a.tmps)) : YieldsR P ops C o v a' := by
  unfold YieldsR at *
  rw [he, hw]
  exact hy

theorem YieldsR.weaken {C C' : World → Prop} {o : Oper} {v : Value} {a : Act} (hy : YieldsR P ops C o v a) (h : ∀ w, C' w → C w) : YieldsR P ops C' o v a := by
  rcases hy with ⟨h1, h2⟩ | h3
  · exact .inl ⟨h1, fun w hw => h2 w (h w hw)⟩
  · exact .inr h3

theorem YieldsR.wpOp {C : World → Prop} {i : Nat} {o : Oper} {v : Value} {a : Act} {w : World} (hC : C w) (hi : ops[i]? = some o) (hy : YieldsR P ops C o v a)
    {K : Act → World → Prop} (h : K (a.put o.dst v) w) : wpOp P ops Q i K a w := by
  unfold Go.wpOp
  simp only [hi]
  rcases hy with ⟨hw, hv⟩ | ⟨hw, rfl⟩
  · simp only [hw, if_true, Oper.wp, hv w hC, Oper.upon]; exact .inl h
  · simp only [hw, Bool.false_eq_true, if_false]; exact h

/-- A plan: the operations' places in one order, each with its class: 0: looks at no memory; 1: only reads; 2: only reads cells of B's blocks; 3: anything, but B's blocks keep their cells; else: anything. -/
def wpPlan (P : Program) (ops : Array Oper) (B : Nat → Prop) (Q : Exit → Act → World → Prop) : List (Nat × Nat) → Act → World → Prop
  | [], a, w => Q .normal a w
  | (i, 0) :: rest, a, w => ∃ o v, ops[i]? = some o ∧ Yields P ops o v a ∧ wpPlan P ops B Q rest (a.put o.dst v) w
  | (i, 1) :: rest, a, w => ∃ o v, ops[i]? = some o ∧ YieldsR P ops (· = w) o v a ∧ wpPlan P ops B Q rest (a.put o.dst v) w
  | (i, 2) :: rest, a, w => ∃ o v, ops[i]? = some o ∧ YieldsR P ops (Agree B w) o v a ∧ wpPlan P ops B Q rest (a.put o.dst v) w
  | (i, 3) :: rest, a, w => wpOp P ops Q i (fun a' w' => Agree B w w' ∧ wpPlan P ops B Q rest a' w') a w
  | (i, _ + 4) :: rest, a, w => wpOp P ops Q i (wpPlan P ops B Q rest) a w

theorem wpPlan_cons {i c : Nat} {rest : List (Nat × Nat)} {a : Act} {w : World} (h : wpPlan P ops B Q ((i, c) :: rest) a w) : wpOp P ops Q i (wpPlan P ops B Q rest) a w := by
  match c, h with
  | 0, h => obtain ⟨o, v, hi, hy, hr⟩ := h; exact hy.wpOp hi hr
  | 1, h => obtain ⟨o, v, hi, hy, hr⟩ := h; exact hy.wpOp (C := fun w' => w' = w) rfl hi hr
  | 2, h => obtain ⟨o, v, hi, hy, hr⟩ := h; exact hy.wpOp (Agree.refl B w) hi hr
  | 3, h => exact wpOp_mono (fun _ _ h => h.2) h
  | _ + 4, h => exact h

/-- May x, planned ahead of y, be passed by y? -/
def swapB (ops : Array Oper) (x y : Nat × Nat) : Bool :=
  (match ops[x.1]?, ops[y.1]? with | some ox, some oy => ox.apart ops oy | _, _ => false) && (x.2 == 0 || (x.2 == 1 && decide (y.2 ≤ 2)) || (x.2 == 2 && decide (y.2 ≤ 3)))

/-- What a plan's step that only yields says, for each class of yield. -/
def Yld (P : Program) (ops : Array Oper) (B : Nat → Prop) : Nat → World → Oper → Value → Act → Prop
  | 0, _, o, v, a => Yields P ops o v a
  | 1, w, o, v, a => YieldsR P ops (· = w) o v a
  | _, w, o, v, a => YieldsR P ops (Agree B w) o v a

theorem wpPlan_yld {i c : Nat} (hc : c ≤ 2) {rest : List (Nat × Nat)} {a : Act} {w : World} :
    wpPlan P ops B Q ((i, c) :: rest) a w ↔ ∃ o v, ops[i]? = some o ∧ Yld P ops B c w o v a ∧ wpPlan P ops B Q rest (a.put o.dst v) w := by
  match c, hc with
  | 0, _ => exact Iff.rfl
  | 1, _ => exact Iff.rfl
  | 2, _ => exact Iff.rfl

theorem wpPlan_three {i : Nat} {rest : List (Nat × Nat)} {a : Act} {w : World} :
    wpPlan P ops B Q ((i, 3) :: rest) a w ↔ wpOp P ops Q i (fun a' w' => Agree B w w' ∧ wpPlan P ops B Q rest a' w') a w := Iff.rfl
theorem wpPlan_four {i k : Nat} {rest : List (Nat × Nat)} {a : Act} {w : World} :
    wpPlan P ops B Q ((i, k + 4) :: rest) a w ↔ wpOp P ops Q i (wpPlan P ops B Q rest) a w := Iff.rfl
theorem wpPlan_zero {i : Nat} {rest : List (Nat × Nat)} {a : Act} {w : World} :
    wpPlan P ops B Q ((i, 0) :: rest) a w ↔ ∃ o v, ops[i]? = some o ∧ Yields P ops o v a ∧ wpPlan P ops B Q rest (a.put o.dst v) w := Iff.rfl
theorem wpPlan_two {i : Nat} {rest : List (Nat × Nat)} {a : Act} {w : World} :
    wpPlan P ops B Q ((i, 2) :: rest) a w ↔ ∃ o v, ops[i]? = some o ∧ YieldsR P ops (Agree B w) o v a ∧ wpPlan P ops B Q rest (a.put o.dst v) w := Iff.rfl

theorem Yld.of_same {c : Nat} {w : World} {o : Oper} {v : Value} {a a' : Act} (hy : Yld P ops B c w o v a) (he : execOp a'.eval o = execOp a.eval o)
    (hw : Region.wanted o (yielded ops a'.tmps) = Region.wanted o (yielded ops a.tmps)) : Yld P ops B c w o v a' := by
  match c, hy with
  | 0, hy => exact Yields.of_same hy he hw
  | 1, hy => exact YieldsR.of_same hy he hw
  | _ + 2, hy => exact YieldsR.of_same hy he hw

/-- 'wpOp_put' for a read, over an operation that keeps what it reads. -/
theorem wpOp_putR {C : World → Prop} {j : Nat} {oi oj : Oper} {v : Value} (hj : ops[j]? = some oj) (hap : oi.apart ops oj = true)
    (hsi : ∀ cs b, oi.op ≠ .select cs b) (hsj : ∀ cs b, oj.op ≠ .select cs b)
    (hQ : ∀ c a w, Q (.panic c) (a.put oi.dst v) w → Q (.panic c) a w) {K : Act → World → Prop} {a : Act} {w : World}
    (hy : YieldsR P ops C oi v a) (h : wpOp P ops Q j K (a.put oi.dst v) w) :
    wpOp P ops Q j (fun a' w' => YieldsR P ops C oi v a' ∧ K (a'.put oi.dst v) w') a w := by
  obtain ⟨h1, h2, h3⟩ := Oper.apart_spec hap
  have keep : ∀ (a : Act), YieldsR P ops C oi v a → ∀ u, YieldsR P ops C oi v (a.put oj.dst u) := fun a hy u =>
    hy.of_same (execOp_put oi hsi a oj.dst u h3) (wanted_put oi a oj.dst u h3)
  have keepD : ∀ d, YieldsR P ops C oi v { a with defers := d :: a.defers } := fun d => hy.of_same rfl rfl
  unfold wpOp at *
  simp only [hj] at *
  rw [wanted_put oj a oi.dst v h1] at h
  split
  · rename_i hw
    simp only [hw, if_true] at h
    rcases h with h | ⟨hasks, hlets⟩
    case inr => exact .inr ⟨by unfold Oper.asks at *; rw [execOp_put oj hsj a oi.dst v h1] at hasks; exact hasks, hlets⟩
    refine .inl ?_
    unfold Oper.wp at *
    rw [execOp_put oj hsj a oi.dst v h1] at h
    generalize (execOp a.eval oj).run P w = r at *
    cases r with
    | ok n w' =>
      cases n <;> simp only [Oper.upon] at h ⊢
      case value u => exact ⟨keep a hy u, by rw [← Act.put_comm a v u h2]; exact h⟩
      case skip => exact ⟨keep a hy _, by rw [← Act.put_comm a v undef h2]; exact h⟩
      case defer d =>
        refine ⟨keep _ (keepD d) _, ?_⟩
        rw [← Act.put_comm _ v undef h2, ← Act.put_defers]
        exact h
      case enter f args =>
        refine Calls.mono h fun e w'' he => ?_
        cases e with
        | returned u => exact ⟨keep a hy u, by rw [← Act.put_comm a v u h2]; exact he⟩
        | panicked c => exact hQ _ _ _ he
        | outgrown => exact he
      case row row args => exact Rows.mono h fun u w'' he => ⟨keep a hy u, by rw [← Act.put_comm a v u h2]; exact he⟩
    | halt x w' =>
      cases x <;> simp only [Oper.upon] at h ⊢
      case panic u => exact hQ _ _ _ h
  · rename_i hw
    simp only [hw] at h
    exact ⟨keep a hy _, by rw [← Act.put_comm a v undef h2]; exact h⟩

theorem wpPlan_swap (hs : Region.noSelect ops = true) (hQ : ∀ c a d v w, Q (.panic c) (Act.put a d v) w → Q (.panic c) a w)
    {x y : Nat × Nat} {rest : List (Nat × Nat)} {a : Act} {w : World} (hb : swapB ops x y = true)
    (h : wpPlan P ops B Q (x :: y :: rest) a w) : wpPlan P ops B Q (y :: x :: rest) a w := by
  obtain ⟨i, c⟩ := x
  obtain ⟨j, d⟩ := y
  simp only [swapB, Bool.and_eq_true, Bool.or_eq_true, beq_iff_eq, decide_eq_true_eq] at hb
  obtain ⟨hap, hcl⟩ := hb
  cases hox : ops[i]? with
  | none => simp [hox] at hap
  | some ox =>
  cases hoy : ops[j]? with
  | none => simp [hox, hoy] at hap
  | some oy =>
  simp only [hox, hoy] at hap
  obtain ⟨h1, h2, h3⟩ := Oper.apart_spec hap
  have sx : ∀ cs b, ox.op ≠ .select cs b := fun cs b => Region.noSelect_spec hs i ox cs b hox
  have sy : ∀ cs b, oy.op ≠ .select cs b := fun cs b => Region.noSelect_spec hs j oy cs b hoy
  have hc2 : c ≤ 2 := by omega
  obtain ⟨o, v, hi, hy, hr⟩ := (wpPlan_yld hc2).1 h
  have : o = ox := Option.some.inj (hi.symm.trans hox)
  subst this
  rcases Nat.lt_or_ge d 3 with hd | hd
  · -- y yields too
    obtain ⟨o', v', hi', hy', hr'⟩ := (wpPlan_yld (by omega : d ≤ 2)).1 hr
    have : o' = oy := Option.some.inj (hi'.symm.trans hoy)
    subst this
    refine (wpPlan_yld (by omega : d ≤ 2)).2 ⟨o', v', hoy, hy'.of_same (execOp_put o' sy a o.dst v h1).symm (wanted_put o' a o.dst v h1).symm, (wpPlan_yld hc2).2 ⟨o, v, hox, hy.of_same (execOp_put o sx a o'.dst v' h3) (wanted_put o a o'.dst v' h3), ?_⟩⟩
    rw [← Act.put_comm a v v' h2]
    exact hr'
  · have hcase : c = 0 ∨ (c = 2 ∧ d = 3) := by omega
    by_cases hd3 : d = 3
    · subst hd3
      have hr1 := wpPlan_three.1 hr
      rcases hcase with rfl | ⟨rfl, _⟩
      · exact wpPlan_three.2 (wpOp_mono (fun a' w' h' => ⟨h'.2.1, wpPlan_zero.2 ⟨o, v, hox, h'.1, h'.2.2⟩⟩) (wpOp_put hoy hap sx sy (fun c a w h => hQ c a _ _ w h) hy hr1))
      · exact wpPlan_three.2 (wpOp_mono (fun a' w' h' => ⟨h'.2.1, wpPlan_two.2 ⟨o, v, hox, YieldsR.weaken h'.1 (fun w2 h2 => h'.2.1.trans h2), h'.2.2⟩⟩)
          (wpOp_putR hoy hap sx sy (fun c a w h => hQ c a _ _ w h) hy hr1))
    · obtain ⟨k, rfl⟩ : ∃ k, d = k + 4 := ⟨d - 4, by omega⟩
      have hc0 : c = 0 := by omega
      subst hc0
      have hr1 := wpPlan_four.1 hr
      exact wpPlan_four.2 (wpOp_mono (fun a' w' h' => wpPlan_zero.2 ⟨o, v, hox, h'.1, h'.2⟩) (wpOp_put hoy hap sx sy (fun c a w h => hQ c a _ _ w h) hy hr1))

theorem wpPlan_tail {x : Nat × Nat} {p q : List (Nat × Nat)} (h : ∀ a w, wpPlan P ops B Q p a w → wpPlan P ops B Q q a w) {a : Act} {w : World}
    (hp : wpPlan P ops B Q (x :: p) a w) : wpPlan P ops B Q (x :: q) a w := by
  obtain ⟨i, c⟩ := x
  match c, hp with
  | 0, hp => obtain ⟨o, v, hi, hy, hr⟩ := hp; exact ⟨o, v, hi, hy, h _ _ hr⟩
  | 1, hp => obtain ⟨o, v, hi, hy, hr⟩ := hp; exact ⟨o, v, hi, hy, h _ _ hr⟩
  | 2, hp => obtain ⟨o, v, hi, hy, hr⟩ := hp; exact ⟨o, v, hi, hy, h _ _ hr⟩
  | 3, hp => exact wpOp_mono (fun a' w' h' => ⟨h'.1, h _ _ h'.2⟩) hp
  | _ + 4, hp => exact wpOp_mono h hp

theorem wpPlan_front (hs : Region.noSelect ops = true) (hQ : ∀ c a d v w, Q (.panic c) (Act.put a d v) w → Q (.panic c) a w) {y : Nat × Nat} {rest : List (Nat × Nat)} :
    ∀ (p : List (Nat × Nat)) (a : Act) (w : World), (∀ x ∈ p, swapB ops x y = true) → wpPlan P ops B Q (p ++ y :: rest) a w → wpPlan P ops B Q (y :: (p ++ rest)) a w
  | [], _, _, _, h => h
  | x :: p, a, w, hb, h =>
    wpPlan_swap hs hQ (hb x (by simp)) (wpPlan_tail (q := y :: (p ++ rest)) (fun a w h => wpPlan_front hs hQ p a w (fun z hz => hb z (by simp [hz])) h) h)

/-- The direct predecessors that bind in every mode. -/
def preds (ops : Array Oper) (j : Nat) : List Nat := match ops[j]? with | some o => (o.after.toList.filter fun e => Region.binds .any e).map (·.on) | none => []

/-- Is the table of ancestors borne out by the edges? -/
def ancB (ops : Array Oper) (T : List (List Nat)) : Bool :=
  (List.range ops.size).all fun j => ((preds ops j).all fun p => decide (p < j)) && (T.getD j []).all fun x => (preds ops j).contains x || (preds ops j).any fun p => (T.getD p []).contains x

/-- The table itself: of each operation all that must come before it. -/
def ancTable (ops : Array Oper) : List (List Nat) :=
  (List.range ops.size).foldl (fun T j => T ++ [(preds ops j).foldl (fun acc p => (p :: T.getD p []).foldl (fun acc x => if acc.contains x then acc else x :: acc) acc) []]) []

theorem mem_preds {j : Nat} {o : Oper} (ho : ops[j]? = some o) {e : Edge} (he : e ∈ o.after) (hb : Region.binds .any e = true) : e.on ∈ preds ops j := by
  simp only [preds, ho, List.mem_map, List.mem_filter]
  exact ⟨e, ⟨by simpa using he, hb⟩, rfl⟩

theorem preds_mem {j x : Nat} (h : x ∈ preds ops j) : ∃ o, ops[j]? = some o ∧ ∃ e ∈ o.after, Region.binds .any e = true ∧ e.on = x := by
  unfold preds at h
  split at h
  · rename_i o ho
    obtain ⟨e, he, rfl⟩ := List.mem_map.1 h
    obtain ⟨h1, h2⟩ := List.mem_filter.1 he
    exact ⟨o, ho, e, by simpa using h1, h2, rfl⟩
  · cases h

theorem ready_preds {listed : Array Bool} {i : Nat} (h : i ∈ Region.ready .any ops listed) : i < ops.size ∧ listed.getD i true = false ∧ ∀ e ∈ preds ops i, listed.getD e false = true := by
  obtain ⟨hun, o, ho, hall⟩ := mem_ready.1 h
  refine ⟨(Array.getElem?_eq_some_iff.1 ho).1, hun, fun e he => ?_⟩
  obtain ⟨o', ho', e', he', hb', rfl⟩ := preds_mem he
  have : o' = o := Option.some.inj (ho'.symm.trans ho)
  subst this
  exact hall e' he' hb'

/-- A schedule, step by step. -/
def Sched (ops : Array Oper) : Nat → Array Bool → List Nat → Prop
  | 0, _, σ => σ = []
  | n + 1, listed, σ => (∃ i σ', σ = i :: σ' ∧ i ∈ Region.ready .any ops listed ∧ Sched ops n (listed.setIfInBounds i true) σ') ∨ (σ = [] ∧ Region.ready .any ops listed = [])

theorem sched_go : ∀ (fuel t : Nat) (listed : Array Bool), Sched ops fuel listed (Region.linearise.go .any ops fuel t listed []) := by
  intro fuel
  induction fuel with
  | zero => intro t listed; simp [Region.linearise.go, Sched]
  | succ fuel ih =>
    intro t listed
    simp only [Region.linearise.go, Sched]
    change (∃ i σ', (match (Region.ready .any ops listed)[t % (Region.ready .any ops listed).length]? with
      | some i => Region.linearise.go .any ops fuel (t / (Region.ready .any ops listed).length) (listed.setIfInBounds i true) [i]
      | none => [].reverse) = i :: σ' ∧ _) ∨ ((match (Region.ready .any ops listed)[t % (Region.ready .any ops listed).length]? with
      | some i => Region.linearise.go .any ops fuel (t / (Region.ready .any ops listed).length) (listed.setIfInBounds i true) [i]
      | none => [].reverse) = [] ∧ _)
    cases hi : (Region.ready .any ops listed)[t % (Region.ready .any ops listed).length]? with
    | none =>
      refine .inr ⟨rfl, ?_⟩
      cases hr : Region.ready .any ops listed with
      | nil => rfl
      | cons x xs =>
        rw [hr] at hi
        have hlt : t % (x :: xs).length < (x :: xs).length := Nat.mod_lt _ (by simp)
        simp at hi
        simp at hlt
        omega
    | some i =>
      refine .inl ⟨i, _, ?_, List.mem_of_getElem? hi, ih (t / (Region.ready .any ops listed).length) (listed.setIfInBounds i true)⟩
      simp only []
      rw [linearise_go_acc, List.reverse_singleton, List.singleton_append]

theorem getD_true_false {listed : Array Bool} {j : Nat} (hj : j < listed.size) : listed.getD j true = listed.getD j false := by
  simp [hj]

/-- What is listed, and what the plan still holds. -/
structure PlanInv (ops : Array Oper) (listed : Array Bool) (rem : List (Nat × Nat)) : Prop where
  size : listed.size = ops.size
  un : ∀ j, j < ops.size → (listed.getD j true = false ↔ ∃ c, (j, c) ∈ rem)
  lt : ∀ x ∈ rem, x.1 < ops.size
  nodup : (rem.map (·.1)).Nodup
  lin : ∀ p y q, rem = p ++ y :: q → ∀ e ∈ preds ops y.1, listed.getD e false = true ∨ ∃ c, (e, c) ∈ p

theorem wpOps_of_plan (hs : Region.noSelect ops = true) (hQ : ∀ c a d v w, Q (.panic c) (Act.put a d v) w → Q (.panic c) a w) :
    ∀ (n : Nat) (rem : List (Nat × Nat)) (listed : Array Bool) (σ : List Nat) (a : Act) (w : World), rem.length = n → PlanInv ops listed rem →
      Sched ops n listed σ → rem.Pairwise (fun x y => swapB ops x y = true ∨ σ.idxOf x.1 < σ.idxOf y.1) →
      wpPlan P ops B Q rem a w → wpOps P ops Q σ a w := by
  intro n
  induction n with
  | zero =>
    intro rem listed σ a w hl inv hsch _ h
    have : rem = [] := List.eq_nil_of_length_eq_zero hl
    subst this
    simp only [Sched] at hsch
    subst hsch
    exact h
  | succ n ih =>
    intro rem listed σ a w hl inv hsch hpair h
    rcases hsch with ⟨i, σ', rfl, hi, hsch⟩ | ⟨_, h0⟩
    case inr =>
      exfalso
      match rem, hl, inv with
      | x :: rest, _, inv =>
        have hx := inv.lt x (by simp)
        have hin : x.1 ∈ Region.ready .any ops listed := by
          refine mem_ready.2 ⟨(inv.un x.1 hx).2 ⟨x.2, by simp⟩, ops[x.1], by simp [hx], fun e he hb => ?_⟩
          rcases inv.lin [] x rest rfl e.on (mem_preds (by simp [hx]) he hb) with h1 | ⟨c, hc⟩
          · exact h1
          · cases hc
        rw [h0] at hin
        cases hin
    case inl =>
      obtain ⟨hilt, hun, hpre⟩ := ready_preds hi
      obtain ⟨c, hc⟩ := (inv.un i hilt).1 hun
      obtain ⟨p, q, rfl⟩ := List.append_of_mem hc
      have hnd0 := inv.nodup
      simp only [List.map_append, List.map_cons] at hnd0
      have hnd1 := (List.perm_middle.nodup_iff).1 hnd0
      have hnd : i ∉ (p ++ q).map (·.1) := by simpa using (List.nodup_cons.1 hnd1).1
      have hne : ∀ x ∈ p ++ q, x.1 ≠ i := fun x hx he => hnd (List.mem_map.2 ⟨x, hx, he⟩)
      have hsw : ∀ x ∈ p, swapB ops x (i, c) = true := fun x hx => by
        rcases (List.pairwise_append.1 hpair).2.2 x hx (i, c) (by simp) with h1 | h1
        · exact h1
        · simp at h1
      have hfront := wpPlan_front hs hQ p a w hsw h
      rw [wpOps_cons]
      refine wpOp_mono (fun a' w' h' => ih (p ++ q) (listed.setIfInBounds i true) σ' a' w' (by simp at hl ⊢; omega) ?_ hsch ?_ h') (wpPlan_cons hfront)
      · refine ⟨by simp [inv.size], fun j hj => ?_, fun x hx => inv.lt x (by simp at hx ⊢; rcases hx with h | h <;> simp [h]), ?_, ?_⟩
        · by_cases hji : i = j
          · subst hji
            refine ⟨fun h1 => ?_, fun ⟨c', hc'⟩ => absurd (List.mem_map.2 ⟨_, hc', rfl⟩) hnd⟩
            have : i < listed.size := by rw [inv.size]; exact hj
            simp [this] at h1
          · rw [getD_set_ne true hji, inv.un j hj]
            constructor
            · rintro ⟨c', hc'⟩
              refine ⟨c', ?_⟩
              simp only [List.mem_append, List.mem_cons] at hc' ⊢
              rcases hc' with h | h | h
              · exact .inl h
              · cases h; exact absurd rfl hji
              · exact .inr h
            · rintro ⟨c', hc'⟩
              refine ⟨c', ?_⟩
              simp only [List.mem_append, List.mem_cons] at hc' ⊢
              rcases hc' with h | h
              · exact .inl h
              · exact .inr (.inr h)
        · simpa using (List.nodup_cons.1 hnd1).2
        · intro p' y q' heq e he
          have key : listed.getD e false = true ∨ (∃ c', (e, c') ∈ p') ∨ e = i := by
            rcases List.append_eq_append_iff.1 heq with ⟨as, h1, h2⟩ | ⟨as, h1, h2⟩
            · have := inv.lin (p ++ (i, c) :: as) y q' (by rw [h2]; simp) e he
              rcases this with h3 | ⟨c', h3⟩
              · exact .inl h3
              · simp only [List.mem_append, List.mem_cons] at h3
                rcases h3 with h3 | h3 | h3
                · exact .inr (.inl ⟨c', by rw [h1]; simp [h3]⟩)
                · cases h3; exact .inr (.inr rfl)
                · exact .inr (.inl ⟨c', by rw [h1]; simp [h3]⟩)
            · cases as with
              | nil =>
                simp only [List.append_nil, List.nil_append] at h1 h2
                have := inv.lin (p ++ [(i, c)]) y q' (by rw [← h2]; simp) e he
                rcases this with h3 | ⟨c', h3⟩
                · exact .inl h3
                · simp only [List.mem_append, List.mem_cons, List.not_mem_nil, or_false] at h3
                  rcases h3 with h3 | h3
                  · exact .inr (.inl ⟨c', by rw [← h1]; exact h3⟩)
                  · cases h3; exact .inr (.inr rfl)
              | cons z as =>
                simp only [List.cons_append, List.cons.injEq] at h2
                obtain ⟨rfl, h2⟩ := h2
                have := inv.lin p' y (as ++ (i, c) :: q) (by rw [h1]; simp) e he
                rcases this with h3 | h3
                · exact .inl h3
                · exact .inr (.inl h3)
          rcases key with h3 | h3 | h3
          · exact .inl (getD_set_true h3)
          · exact .inr h3
          · subst h3
            refine .inl ?_
            have : e < listed.size := by rw [inv.size]; exact hilt
            simp [this]
      · have hsub : (p ++ q).Pairwise (fun x y => swapB ops x y = true ∨ (i :: σ').idxOf x.1 < (i :: σ').idxOf y.1) := hpair.sublist (by simp)
        refine List.Pairwise.imp_of_mem (fun {x y} hx hy h1 => ?_) hsub
        rcases h1 with h1 | h1
        · exact .inl h1
        · have e1 : (i == x.1) = false := by simpa using fun h => hne x hx h.symm
          have e2 : (i == y.1) = false := by simpa using fun h => hne y hy h.symm
          rw [List.idxOf_cons, List.idxOf_cons, e1, e2] at h1
          simp only [cond_false] at h1
          exact .inr (by omega)

theorem anc_listed {T : List (List Nat)} (hT : ancB ops T = true) {listed : Array Bool} (hdown : ∀ j, j < ops.size → listed.getD j false = true → ∀ e ∈ preds ops j, listed.getD e false = true) :
    ∀ (n j : Nat), j < n → j < ops.size → (∀ e ∈ preds ops j, listed.getD e false = true) → ∀ x ∈ T.getD j [], listed.getD x false = true
  | 0, _, h, _, _, _, _ => absurd h (Nat.not_lt_zero _)
  | n + 1, j, hn, hj, hp, x, hx => by
    have h1 := List.all_eq_true.1 hT j (List.mem_range.2 hj)
    simp only [Bool.and_eq_true, List.all_eq_true, decide_eq_true_eq, Bool.or_eq_true, List.any_eq_true, List.contains_iff_mem] at h1
    rcases h1.2 x hx with h2 | ⟨p, hpm, hxp⟩
    · exact hp x h2
    · have hlt := h1.1 p hpm
      exact anc_listed hT hdown n p (by omega) (by omega) (hdown p (by omega) (hp p hpm)) x hxp

/-- A schedule names what was not listed, each once, and ancestors first. -/
theorem sched_facts {T : List (List Nat)} (hT : ancB ops T = true) : ∀ (n : Nat) (listed : Array Bool) (σ : List Nat), listed.size = ops.size →
    (∀ j, j < ops.size → listed.getD j false = true → ∀ e ∈ preds ops j, listed.getD e false = true) → Sched ops n listed σ →
    σ.Nodup ∧ (∀ j ∈ σ, j < ops.size ∧ listed.getD j true = false) ∧ (∀ x y, y ∈ σ → x ∈ T.getD y [] → listed.getD x false = true ∨ σ.idxOf x < σ.idxOf y)
  | 0, _, σ, _, _, h => by
    simp only [Sched] at h
    subst h
    exact ⟨List.nodup_nil, by simp, by simp⟩
  | n + 1, listed, σ, hsz, hdown, h => by
    rcases h with ⟨i, σ', rfl, hi, h⟩ | ⟨rfl, _⟩
    case inr => exact ⟨List.nodup_nil, by simp, by simp⟩
    obtain ⟨hilt, hun, hpre⟩ := ready_preds hi
    have hdown' : ∀ j, j < ops.size → (listed.setIfInBounds i true).getD j false = true → ∀ e ∈ preds ops j, (listed.setIfInBounds i true).getD e false = true := by
      intro j hj hl' e he
      by_cases hji : i = j
      · subst hji
        exact getD_set_true (hpre e he)
      · rw [getD_set_ne false hji] at hl'
        exact getD_set_true (hdown j hj hl' e he)
    obtain ⟨h1, h2, h3⟩ := sched_facts hT n (listed.setIfInBounds i true) σ' (by simp [hsz]) hdown' h
    have hni : i ∉ σ' := fun hm => by
      have := (h2 i hm).2
      have hs : i < listed.size := by omega
      simp [hs] at this
    refine ⟨List.nodup_cons.2 ⟨hni, h1⟩, fun j hj => ?_, fun x y hy hx => ?_⟩
    · rcases List.mem_cons.1 hj with rfl | hj
      · exact ⟨hilt, hun⟩
      · have hji : i ≠ j := fun e => hni (e ▸ hj)
        have := h2 j hj
        rw [getD_set_ne true hji] at this
        exact this
    · rcases List.mem_cons.1 hy with rfl | hy
      · exact .inl (anc_listed hT hdown (y + 1) y (Nat.lt_succ_self _) hilt hpre x hx)
      · have hyi : i ≠ y := fun e => hni (e ▸ hy)
        rcases h3 x y hy hx with h4 | h4
        · by_cases hxi : i = x
          · subst hxi
            refine .inr ?_
            have e2 : (i == y) = false := by simpa using hyi
            rw [List.idxOf_cons, List.idxOf_cons, e2]
            simp
          · rw [getD_set_ne false hxi] at h4
            exact .inl h4
        · refine .inr ?_
          have e2 : (i == y) = false := by simpa using hyi
          rw [List.idxOf_cons, List.idxOf_cons, e2]
          simp only [cond_false]
          cases i == x <;> simp <;> omega

/-- All orders of some operations that the ancestors allow. -/
def exts (T : List (List Nat)) : Nat → List Nat → List (List Nat)
  | 0, _ => [[]]
  | n + 1, I => match I with
    | [] => [[]]
    | _ => (I.filter fun i => I.all fun x => x == i || !(T.getD i []).contains x).flatMap fun i => (exts T n (I.filter fun x => x != i)).map (i :: ·)

theorem exts_mem {T : List (List Nat)} : ∀ (n : Nat) (I : List Nat) (s : List Nat), I.length ≤ n → s.Nodup → (∀ x, x ∈ s ↔ x ∈ I) → I.Nodup →
    (∀ x y, x ∈ s → y ∈ s → x ∈ T.getD y [] → s.idxOf x < s.idxOf y) → s ∈ exts T n I
  | 0, I, s, hl, _, hm, _, _ => by
    have : I = [] := List.eq_nil_of_length_eq_zero (by omega)
    subst this
    have : s = [] := List.eq_nil_iff_forall_not_mem.2 fun x hx => by simpa using (hm x).1 hx
    subst this
    simp [exts]
  | n + 1, I, s, hl, hnd, hm, hI, hanc => by
    cases s with
    | nil =>
      have : I = [] := List.eq_nil_iff_forall_not_mem.2 fun x hx => by simpa using (hm x).2 hx
      subst this
      simp [exts]
    | cons i s =>
      have hi : i ∈ I := (hm i).1 (by simp)
      have hni := (List.nodup_cons.1 hnd).1
      have hne : I ≠ [] := fun h => by simp [h] at hi
      have hrec : s ∈ exts T n (I.filter fun x => x != i) := by
        refine exts_mem n _ s ?_ (List.nodup_cons.1 hnd).2 (fun x => ?_) (hI.filter _) (fun x y hx hy h => ?_)
        · have : (I.filter fun x => x != i).length < I.length := by
            refine List.length_filter_lt_length_iff_exists.2 ⟨i, hi, by simp⟩
          omega
        · rw [List.mem_filter, ← hm x]
          simp only [List.mem_cons, bne_iff_ne]
          constructor
          · intro h; exact ⟨.inr h, fun e => hni (e ▸ h)⟩
          · rintro ⟨h | h, h2⟩
            · exact absurd h h2
            · exact h
        · have hxi : i ≠ x := fun e => hni (e ▸ hx)
          have hyi : i ≠ y := fun e => hni (e ▸ hy)
          have h1 := hanc x y (by simp [hx]) (by simp [hy]) h
          have e1 : (i == x) = false := by simpa using hxi
          have e2 : (i == y) = false := by simpa using hyi
          rw [List.idxOf_cons, List.idxOf_cons, e1, e2] at h1
          simp only [cond_false] at h1
          omega
      match I, hne with
      | z :: I, _ =>
        simp only [exts]
        refine List.mem_flatMap.2 ⟨i, List.mem_filter.2 ⟨hi, ?_⟩, List.mem_map.2 ⟨s, hrec, rfl⟩⟩
        refine List.all_eq_true.2 fun x hx => ?_
        by_cases hxi : x = i
        · simp [hxi]
        · by_cases hc : x ∈ T.getD i []
          · exfalso
            have := hanc x i ((hm x).2 hx) (by simp) hc
            simp [List.idxOf_cons] at this
          · have hc' : (T.getD i []).contains x = false := by simpa using hc
            rw [hc']
            simp

/-- The whole check: the plans, and the operations whose order among themselves tells the plans apart. -/
def planB (ops : Array Oper) (I : List Nat) (plans : List (List (Nat × Nat))) : Bool :=
  let T := ancTable ops
  Region.noSelect ops && ancB ops T && decide I.Nodup && (I.all fun i => decide (i < ops.size)) &&
  (plans.all fun plan => decide (plan.length = ops.size) && decide ((plan.map (·.1)).Nodup) && (plan.all fun x => decide (x.1 < ops.size)) &&
    ((List.range ops.size).all fun j => plan.any fun x => x.1 == j) && linB plan [] && pairsB T plan) &&
  (exts T I.length I).all fun e => plans.any fun plan => ((plan.map (·.1)).filter fun i => I.contains i) == e
where
  linB : List (Nat × Nat) → List Nat → Bool
    | [], _ => true
    | y :: q, seen => ((preds ops y.1).all fun e => seen.contains e) && linB q (y.1 :: seen)
  pairsB (T : List (List Nat)) : List (Nat × Nat) → Bool
    | [] => true
    | x :: q => (q.all fun y => (T.getD y.1 []).contains x.1 || swapB ops x y || (I.contains x.1 && I.contains y.1)) && pairsB T q

theorem linB_spec {I : List Nat} : ∀ (plan : List (Nat × Nat)) (seen : List Nat), planB.linB ops plan seen = true → ∀ p y q, plan = p ++ y :: q → ∀ e ∈ preds ops y.1, e ∈ seen ∨ ∃ c, (e, c) ∈ p
  | [], _, _, p, y, q, h, _, _ => by simp at h
  | x :: plan, seen, hB, p, y, q, h, e, he => by
    simp only [planB.linB, Bool.and_eq_true, List.all_eq_true, List.contains_iff_mem] at hB
    cases p with
    | nil =>
      simp only [List.nil_append, List.cons.injEq] at h
      obtain ⟨rfl, rfl⟩ := h
      exact .inl (hB.1 e he)
    | cons z p =>
      simp only [List.cons_append, List.cons.injEq] at h
      obtain ⟨rfl, rfl⟩ := h
      rcases linB_spec (I := I) _ _ hB.2 p y q rfl e he with h1 | ⟨c, h1⟩
      · simp only [List.mem_cons] at h1
        rcases h1 with rfl | h1
        · exact .inr ⟨x.2, by simp⟩
        · exact .inl h1
      · exact .inr ⟨c, by simp [h1]⟩

theorem pairsB_spec {I : List Nat} {T : List (List Nat)} : ∀ (plan : List (Nat × Nat)), planB.pairsB ops I T plan = true →
    plan.Pairwise fun x y => (T.getD y.1 []).contains x.1 = true ∨ swapB ops x y = true ∨ (x.1 ∈ I ∧ y.1 ∈ I)
  | [], _ => .nil
  | x :: plan, h => by
    simp only [planB.pairsB, Bool.and_eq_true, List.all_eq_true, Bool.or_eq_true, List.contains_iff_mem] at h
    refine .cons (fun y hy => ?_) (pairsB_spec plan h.2)
    rcases h.1 y hy with (h1 | h1) | h1
    · exact .inl (by simpa using h1)
    · exact .inr (.inl h1)
    · exact .inr (.inr h1)

/-- In a list without doubles, what stands ahead has the lesser place. -/
theorem idx_of_pairs : ∀ (l : List Nat), l.Nodup → l.Pairwise fun x y => l.idxOf x < l.idxOf y := by
  intro l
  induction l with
  | nil => intro _; exact .nil
  | cons i l ih =>
    intro h
    obtain ⟨hni, hnd⟩ := List.nodup_cons.1 h
    refine .cons (fun y hy => ?_) (List.Pairwise.imp_of_mem (fun {x y} hx hy h1 => ?_) (ih hnd))
    · have : (i == y) = false := by simpa using fun (e : i = y) => hni (e ▸ hy)
      simp [List.idxOf_cons, this]
    · have e1 : (i == x) = false := by simpa using fun (e : i = x) => hni (e ▸ hx)
      have e2 : (i == y) = false := by simpa using fun (e : i = y) => hni (e ▸ hy)
      simp only [List.idxOf_cons, e1, e2, cond_false]
      omega

theorem pairwise_filter_idx {l : List Nat} (hnd : l.Nodup) (p : Nat → Bool) : (l.filter p).Pairwise fun x y => l.idxOf x < l.idxOf y :=
  (idx_of_pairs l hnd).sublist List.filter_sublist

theorem wp_region_plans {id : Nat} {a : Act} {w : World} (B : Nat → Prop) (I : List Nat) (plans : List (List (Nat × Nat))) (hm : P.follows .mixedOrders = true) (hB : planB ops I plans = true)
    (hQ : ∀ c a d v w, Q (.panic c) (Act.put a d v) w → Q (.panic c) a w)
    (h : ∀ plan ∈ plans, wpPlan P ops B Q plan a w.drew) : (Code.region id ops true).wp P Q a w := by
  simp only [planB, Bool.and_eq_true, decide_eq_true_eq, List.all_eq_true, List.mem_range, List.any_eq_true, beq_iff_eq] at hB
  obtain ⟨⟨⟨⟨⟨hs, hT⟩, hIn⟩, hIlt⟩, hplans⟩, hcov⟩ := hB
  refine wp_region_draw fun t => ?_
  simp only [Region.schedule, hm, Bool.true_or, if_true, Region.linearise]
  have hsch := sched_go (ops := ops) ops.size t (Array.replicate ops.size false)
  generalize Region.linearise.go .any ops ops.size t (Array.replicate ops.size false) [] = σ at hsch
  have hz : ∀ j, (Array.replicate ops.size false).getD j false = false := fun j => by
    rcases Nat.lt_or_ge j ops.size with h | h <;> simp [h]
  have hdown : ∀ j, j < ops.size → (Array.replicate ops.size false).getD j false = true → ∀ e ∈ preds ops j, (Array.replicate ops.size false).getD e false = true := fun j _ h => by rw [hz] at h; cases h
  obtain ⟨hnd, hlt, hanc⟩ := sched_facts hT ops.size _ σ (by simp) hdown hsch
  have hanc' : ∀ x y, y ∈ σ → x ∈ (ancTable ops).getD y [] → σ.idxOf x < σ.idxOf y := fun x y hy hx => by
    rcases hanc x y hy hx with h1 | h1
    · rw [hz] at h1; cases h1
    · exact h1
  -- a first plan gives that the schedule names all
  have inv0 : ∀ plan ∈ plans, PlanInv ops (Array.replicate ops.size false) plan := fun plan hp => by
    obtain ⟨⟨⟨⟨⟨hlen, hpn⟩, hplt⟩, hmem⟩, hlin⟩, hpairs⟩ := hplans plan hp
    refine ⟨by simp, fun j hj => ⟨fun _ => ?_, fun _ => by simp [hj]⟩, hplt, hpn, fun p y q he e hpe => ?_⟩
    · obtain ⟨y, hy, rfl⟩ := hmem j hj
      exact ⟨y.2, hy⟩
    · rcases linB_spec (I := I) plan [] hlin p y q he e hpe with h1 | h1
      · cases h1
      · exact .inr h1
  by_cases hσ : ∀ j, j < ops.size → j ∈ σ
  · have hexts : (σ.filter fun i => I.contains i) ∈ exts (ancTable ops) I.length I := by
      refine exts_mem I.length I _ (Nat.le_refl _) (hnd.filter _) (fun x => ?_) hIn (fun x y hx hy hxy => ?_)
      · simp only [List.mem_filter, List.contains_iff_mem]
        exact ⟨fun h => h.2, fun h => ⟨hσ x (hIlt x h), h⟩⟩
      · have hlt2 := hanc' x y (List.mem_filter.1 hy).1 hxy
        have hx' : x ∈ σ.filter fun i => I.contains i := hx
        -- the place in the sifted list follows the place in the whole
        have hnf : (σ.filter fun i => I.contains i).Nodup := hnd.filter _
        rcases Nat.lt_trichotomy ((σ.filter fun i => I.contains i).idxOf x) ((σ.filter fun i => I.contains i).idxOf y) with h1 | h1 | h1
        · exact h1
        · exfalso
          have : x = y := by
            have e1 := List.getElem_idxOf (List.idxOf_lt_length_iff.2 hx')
            have e2 := List.getElem_idxOf (List.idxOf_lt_length_iff.2 hy)
            rw [← e1, ← e2]
            congr 1
          subst this
          omega
        · exfalso
          have hp := pairwise_filter_idx hnd (fun i => I.contains i)
          have := List.pairwise_iff_getElem.1 hp _ _ (List.idxOf_lt_length_iff.2 hy) (List.idxOf_lt_length_iff.2 hx') h1
          rw [List.getElem_idxOf, List.getElem_idxOf] at this
          omega
    obtain ⟨plan, hpm, hpe⟩ := hcov _ hexts
    obtain ⟨⟨⟨⟨⟨hlen, hpn⟩, hplt⟩, hmem⟩, hlin⟩, hpairs⟩ := hplans plan hpm
    refine wpOps_of_plan hs hQ ops.size plan _ σ a w.drew hlen (inv0 plan hpm) hsch ?_ (h plan hpm)
    have hp1 := pairsB_spec plan hpairs
    have hp2 : plan.Pairwise fun x y => x.1 ∈ I → y.1 ∈ I → σ.idxOf x.1 < σ.idxOf y.1 := by
      have h1 := pairwise_filter_idx hnd (fun i => I.contains i)
      rw [← hpe] at h1
      have h2 := List.pairwise_filter.1 h1
      have h3 := List.pairwise_map.1 h2
      exact h3.imp fun {x y} h hx hy => h (by simpa using hx) (by simpa using hy)
    refine List.Pairwise.imp_of_mem (fun {x y} hx hy h1 => ?_) (hp1.and hp2)
    rcases h1.1 with h2 | h2 | h2
    · exact .inr (hanc' x.1 y.1 (hσ _ (hplt y hy)) (by simpa using h2))
    · exact .inl h2
    · exact .inr (h1.2 h2.1 h2.2)
  · -- the schedule leaves something out: it can't
    exfalso
    refine hσ fun j hj => ?_
    have full : ∀ (n : Nat) (listed : Array Bool) (σ : List Nat), listed.size = ops.size → ((List.range ops.size).filter fun j => !listed.getD j true).length ≤ n →
        Sched ops n listed σ → ∀ j, j < ops.size → listed.getD j true = false → j ∈ σ := by
      intro n
      induction n with
      | zero =>
        intro listed σ hsz hle _ j hj hun
        have : (List.range ops.size).filter (fun j => !listed.getD j true) = [] := List.eq_nil_of_length_eq_zero (by omega)
        have hmem : j ∈ (List.range ops.size).filter (fun j => !listed.getD j true) := List.mem_filter.2 ⟨List.mem_range.2 hj, by simpa using hun⟩
        rw [this] at hmem
        cases hmem
      | succ n ih =>
        intro listed σ hsz hle hsc j hj hun
        rcases hsc with ⟨i, σ', rfl, hi, hsc⟩ | ⟨rfl, h0⟩
        · by_cases hji : j = i
          · simp [hji]
          · refine List.mem_cons_of_mem _ (ih (listed.setIfInBounds i true) σ' (by simp [hsz]) ?_ hsc j hj (by rw [getD_set_ne true (Ne.symm hji)]; exact hun))
            obtain ⟨hilt, hiun, _⟩ := ready_preds hi
            have hlt3 : ((List.range ops.size).filter fun j => !(listed.setIfInBounds i true).getD j true).length < ((List.range ops.size).filter fun j => !listed.getD j true).length := by
              have e1 : (List.range ops.size).filter (fun j => !(listed.setIfInBounds i true).getD j true) = ((List.range ops.size).filter fun j => !listed.getD j true).filter (fun j => j != i) := by
                rw [List.filter_filter]
                refine List.filter_congr fun x hx => ?_
                by_cases hxi : i = x
                · subst hxi
                  have hs2 : i < listed.size := by omega
                  simp [hs2]
                · rw [getD_set_ne true hxi]
                  simp [Ne.symm hxi]
              rw [e1]
              exact List.length_filter_lt_length_iff_exists.2 ⟨i, List.mem_filter.2 ⟨List.mem_range.2 hilt, by simpa using hiun⟩, by simp⟩
            omega
        · exfalso
          -- the least that is not listed is ready
          have hex : ∃ k, k < ops.size ∧ listed.getD k true = false ∧ ∀ k' < k, listed.getD k' true = true := by
            have : ∀ m, m ≤ ops.size → (∃ k, k < m ∧ listed.getD k true = false ∧ ∀ k' < k, listed.getD k' true = true) ∨ ∀ k' < m, listed.getD k' true = true := by
              intro m
              induction m with
              | zero => intro _; exact .inr fun k' h => absurd h (Nat.not_lt_zero _)
              | succ m ihm =>
                intro hm
                rcases ihm (by omega) with ⟨k, h1, h2, h3⟩ | h1
                · exact .inl ⟨k, by omega, h2, h3⟩
                · cases hg : listed.getD m true with
                  | false => exact .inl ⟨m, by omega, hg, h1⟩
                  | true =>
                    refine .inr fun k' hk' => ?_
                    rcases Nat.lt_or_ge k' m with h | h
                    · exact h1 k' h
                    · have : k' = m := by omega
                      subst this
                      exact hg
            rcases this ops.size (Nat.le_refl _) with h1 | h1
            · exact h1
            · rw [h1 j hj] at hun; cases hun
          obtain ⟨k, hk, hkun, hkmin⟩ := hex
          have hin : k ∈ Region.ready .any ops listed := by
            refine mem_ready.2 ⟨hkun, ops[k], by simp [hk], fun e he hb => ?_⟩
            have h1 := List.all_eq_true.1 hT k (List.mem_range.2 hk)
            simp only [Bool.and_eq_true, List.all_eq_true, decide_eq_true_eq] at h1
            have hlt4 := h1.1 e.on (mem_preds (by simp [hk]) he hb)
            have := hkmin e.on hlt4
            rw [getD_true_false (by omega)] at this
            exact this
          rw [h0] at hin
          cases hin
    exact full ops.size _ σ (by simp) (by simpa using List.length_filter_le _ (List.range ops.size)) hsch j hj (by simp [hj])
end
end Go.Afx
