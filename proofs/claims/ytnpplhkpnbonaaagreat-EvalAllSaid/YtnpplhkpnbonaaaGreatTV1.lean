/- Contracts of the functions that the statement reaches, one behind the other. No condition beyond each theorem's own. -/
import Derived.WalkKit
import Derived.Laws.IdiomStrings
import Derived.Lib.Strings
import Derived.ProofKit
import Derived.ChangeOld
import Derived.Test.YtnpplhkpnbonaaaGreatProg
import Derived.Lib.Hide
import Derived.Lib.SliceRun
import Derived.Test.YtnpplhkpnbonaaaGreatRows
import Derived.Laws.Externs
import Derived.Shelf.Spec.BitsCarry
import Derived.Deep.DeepCutAuto
import Derived.Deep.CutBlock
import Derived.Lib.Mul64
import Derived.Laws.Bits64b
import Derived.ChangeArms
set_option linter.unusedSimpArgs false
set_option linter.unusedVariables false
set_option maxRecDepth 100000
set_option maxHeartbeats 4000000
namespace Go.Afx
open Go
def Agree (B:Nat→Prop) (w w2:World):Prop:=∀ b o,B b→w2.cell? ⟨b,o,none⟩=w.cell? ⟨b,o,none⟩
theorem Agree.refl (B:Nat→Prop) (w:World):Agree B w w:=fun _ _ _=>rfl
theorem Agree.trans {B:Nat→Prop} {w w2 w3:World} (h:Agree B w w2) (k:Agree B w2 w3):Agree B w w3:=fun b o hb=>(k b o hb).trans (h b o hb)
section
variable {P : Program} {ops : Array Oper} {B : Nat → Prop} {Q : Exit → Act → World → Prop}
def YieldsR (P:Program) (ops:Array Oper) (C:World→Prop) (o:Oper) (v:Value) (a:Act):Prop :=
 (Region.wanted o (yielded ops a.tmps)=true∧∀ w,C w→(execOp a.eval o).run P w=.ok (.value v) w) ∨
 (Region.wanted o (yielded ops a.tmps)=false∧v=undef)
theorem YieldsR.of_same {C:World→Prop} {o:Oper} {v:Value} {a a':Act} (hy:YieldsR P ops C o v a) (he:execOp a'.eval o=execOp a.eval o)
 (hw:Region.wanted o (yielded ops a'.tmps)=Region.wanted o (yielded ops a.tmps)):YieldsR P ops C o v a':=by
 unfold YieldsR at *
 rw [he,hw]
 exact hy
theorem YieldsR.weaken {C C':World→Prop} {o:Oper} {v:Value} {a:Act} (hy:YieldsR P ops C o v a) (h:∀ w,C' w→C w):YieldsR P ops C' o v a:=by
 rcases hy with ⟨h1,h2⟩|h3
 ·exact .inl ⟨h1,fun w hw=>h2 w (h w hw)⟩
 ·exact .inr h3
theorem YieldsR.wpOp {C:World→Prop} {i:Nat} {o:Oper} {v:Value} {a:Act} {w:World} (hC:C w) (hi:ops[i]?=some o) (hy:YieldsR P ops C o v a)
 {K:Act→World→Prop} (h:K (a.put o.dst v) w):wpOp P ops Q i K a w:=by
 unfold Go.wpOp
 simp only [hi]
 rcases hy with ⟨hw,hv⟩|⟨hw,rfl⟩
 ·simp only [hw,if_true,Oper.wp,hv w hC,Oper.upon];exact .inl h
 ·simp only [hw,Bool.false_eq_true,if_false];exact h
def wpPlan (P:Program) (ops:Array Oper) (B:Nat→Prop) (Q:Exit→Act→World→Prop):List (Nat × Nat)→Act→World→Prop
 | [],a,w=>Q .normal a w
 | (i,0)::rest,a,w=>∃ o v,ops[i]?=some o∧Yields P ops o v a∧wpPlan P ops B Q rest (a.put o.dst v) w
 | (i,1)::rest,a,w=>∃ o v,ops[i]?=some o∧YieldsR P ops (·= w) o v a∧wpPlan P ops B Q rest (a.put o.dst v) w
 | (i,2)::rest,a,w=>∃ o v,ops[i]?=some o∧YieldsR P ops (Agree B w) o v a∧wpPlan P ops B Q rest (a.put o.dst v) w
 | (i,3)::rest,a,w=>wpOp P ops Q i (fun a' w'=>Agree B w w'∧wpPlan P ops B Q rest a' w') a w
 | (i,_+4)::rest,a,w=>wpOp P ops Q i (wpPlan P ops B Q rest) a w
theorem wpPlan_cons {i c:Nat} {rest:List (Nat × Nat)} {a:Act} {w:World} (h:wpPlan P ops B Q ((i,c)::rest) a w):wpOp P ops Q i (wpPlan P ops B Q rest) a w:=by
 match c,h with
 | 0,h=>obtain ⟨o,v,hi,hy,hr⟩:=h;exact hy.wpOp hi hr
 | 1,h=>obtain ⟨o,v,hi,hy,hr⟩:=h;exact hy.wpOp (C:=fun w'=>w'=w) rfl hi hr
 | 2,h=>obtain ⟨o,v,hi,hy,hr⟩:=h;exact hy.wpOp (Agree.refl B w) hi hr
 | 3,h=>exact wpOp_mono (fun _ _ h=>h.2) h
 | _+4,h=>exact h
def swapB (ops:Array Oper) (x y:Nat × Nat):Bool :=
 (match ops[x.1]?,ops[y.1]? with|some ox,some oy=>ox.apart ops oy|_,_=>false) && (x.2 == 0 || (x.2 == 1 && decide (y.2≤2)) || (x.2 == 2 && decide (y.2≤3)))
def Yld (P:Program) (ops:Array Oper) (B:Nat→Prop):Nat→World→Oper→Value→Act→Prop
 | 0,_,o,v,a=>Yields P ops o v a
 | 1,w,o,v,a=>YieldsR P ops (·= w) o v a
 | _,w,o,v,a=>YieldsR P ops (Agree B w) o v a
theorem wpPlan_yld {i c:Nat} (hc:c≤2) {rest:List (Nat × Nat)} {a:Act} {w:World} :
 wpPlan P ops B Q ((i,c)::rest) a w↔∃ o v,ops[i]?=some o∧Yld P ops B c w o v a∧wpPlan P ops B Q rest (a.put o.dst v) w:=by
 match c,hc with
 | 0,_=>exact Iff.rfl
 | 1,_=>exact Iff.rfl
 | 2,_=>exact Iff.rfl
theorem wpPlan_three {i:Nat} {rest:List (Nat × Nat)} {a:Act} {w:World} :
 wpPlan P ops B Q ((i,3)::rest) a w↔wpOp P ops Q i (fun a' w'=>Agree B w w'∧wpPlan P ops B Q rest a' w') a w:=Iff.rfl
theorem wpPlan_four {i k:Nat} {rest:List (Nat × Nat)} {a:Act} {w:World} :
 wpPlan P ops B Q ((i,k+4)::rest) a w↔wpOp P ops Q i (wpPlan P ops B Q rest) a w:=Iff.rfl
theorem wpPlan_zero {i:Nat} {rest:List (Nat × Nat)} {a:Act} {w:World} :
 wpPlan P ops B Q ((i,0)::rest) a w↔∃ o v,ops[i]?=some o∧Yields P ops o v a∧wpPlan P ops B Q rest (a.put o.dst v) w:=Iff.rfl
theorem wpPlan_two {i:Nat} {rest:List (Nat × Nat)} {a:Act} {w:World} :
 wpPlan P ops B Q ((i,2)::rest) a w↔∃ o v,ops[i]?=some o∧YieldsR P ops (Agree B w) o v a∧wpPlan P ops B Q rest (a.put o.dst v) w:=Iff.rfl
theorem Yld.of_same {c:Nat} {w:World} {o:Oper} {v:Value} {a a':Act} (hy:Yld P ops B c w o v a) (he:execOp a'.eval o=execOp a.eval o)
 (hw:Region.wanted o (yielded ops a'.tmps)=Region.wanted o (yielded ops a.tmps)):Yld P ops B c w o v a':=by
 match c,hy with
 | 0,hy=>exact Yields.of_same hy he hw
 | 1,hy=>exact YieldsR.of_same hy he hw
 | _+2,hy=>exact YieldsR.of_same hy he hw
theorem wpOp_putR {C:World→Prop} {j:Nat} {oi oj:Oper} {v:Value} (hj:ops[j]?=some oj) (hap:oi.apart ops oj=true)
 (hsi:∀ cs b,oi.op≠.select cs b) (hsj:∀ cs b,oj.op≠.select cs b)
 (hQ:∀ c a w,Q (.panic c) (a.put oi.dst v) w→Q (.panic c) a w) {K:Act→World→Prop} {a:Act} {w:World}
 (hy:YieldsR P ops C oi v a) (h:wpOp P ops Q j K (a.put oi.dst v) w) :
 wpOp P ops Q j (fun a' w'=>YieldsR P ops C oi v a'∧K (a'.put oi.dst v) w') a w:=by
 obtain ⟨h1,h2,h3⟩:=Oper.apart_spec hap
 have keep:∀ (a:Act),YieldsR P ops C oi v a→∀ u,YieldsR P ops C oi v (a.put oj.dst u):=fun a hy u =>
  hy.of_same (execOp_put oi hsi a oj.dst u h3) (wanted_put oi a oj.dst u h3)
 have keepD:∀ d,YieldsR P ops C oi v { a with defers:=d::a.defers }:=fun d=>hy.of_same rfl rfl
 unfold wpOp at *
 simp only [hj] at *
 rw [wanted_put oj a oi.dst v h1] at h
 split
 ·rename_i hw
  simp only [hw,if_true] at h
  rcases h with h|⟨hasks,hlets⟩
  case inr=>exact .inr ⟨by unfold Oper.asks at *;rw [execOp_put oj hsj a oi.dst v h1] at hasks;exact hasks,hlets⟩
  refine .inl ?_
  unfold Oper.wp at *
  rw [execOp_put oj hsj a oi.dst v h1] at h
  generalize (execOp a.eval oj).run P w=r at *
  cases r with
  | ok n w' =>
   cases n<;>simp only [Oper.upon] at h ⊢
   case value u=>exact ⟨keep a hy u,by rw [←Act.put_comm a v u h2];exact h⟩
   case skip=>exact ⟨keep a hy _,by rw [←Act.put_comm a v undef h2];exact h⟩
   case defer d =>
    refine ⟨keep _ (keepD d) _,?_⟩
    rw [←Act.put_comm _ v undef h2,←Act.put_defers]
    exact h
   case enter f args =>
    refine Calls.mono h fun e w'' he=>?_
    cases e with
    | returned u=>exact ⟨keep a hy u,by rw [←Act.put_comm a v u h2];exact he⟩
    | panicked c=>exact hQ _ _ _ he
    | outgrown=>exact he
   case row row args=>exact Rows.mono h fun u w'' he=>⟨keep a hy u,by rw [←Act.put_comm a v u h2];exact he⟩
  | halt x w' =>
   cases x<;>simp only [Oper.upon] at h ⊢
   case panic u=>exact hQ _ _ _ h
 ·rename_i hw
  simp only [hw] at h
  exact ⟨keep a hy _,by rw [←Act.put_comm a v undef h2];exact h⟩
theorem wpPlan_swap (hs:Region.noSelect ops=true) (hQ:∀ c a d v w,Q (.panic c) (Act.put a d v) w→Q (.panic c) a w)
 {x y:Nat × Nat} {rest:List (Nat × Nat)} {a:Act} {w:World} (hb:swapB ops x y=true)
 (h:wpPlan P ops B Q (x::y::rest) a w):wpPlan P ops B Q (y::x::rest) a w:=by
 obtain ⟨i,c⟩:=x
 obtain ⟨j,d⟩:=y
 simp only [swapB,Bool.and_eq_true,Bool.or_eq_true,beq_iff_eq,decide_eq_true_eq] at hb
 obtain ⟨hap,hcl⟩:=hb
 cases hox:ops[i]? with
 | none=>simp [hox] at hap
 | some ox =>
 cases hoy:ops[j]? with
 | none=>simp [hox,hoy] at hap
 | some oy =>
 simp only [hox,hoy] at hap
 obtain ⟨h1,h2,h3⟩:=Oper.apart_spec hap
 have sx:∀ cs b,ox.op≠.select cs b:=fun cs b=>Region.noSelect_spec hs i ox cs b hox
 have sy:∀ cs b,oy.op≠.select cs b:=fun cs b=>Region.noSelect_spec hs j oy cs b hoy
 have hc2:c≤2:=by omega
 obtain ⟨o,v,hi,hy,hr⟩:=(wpPlan_yld hc2).1 h
 have:o=ox:=Option.some.inj (hi.symm.trans hox)
 subst this
 rcases Nat.lt_or_ge d 3 with hd|hd
 ·
  obtain ⟨o',v',hi',hy',hr'⟩:=(wpPlan_yld (by omega:d≤2)).1 hr
  have:o'=oy:=Option.some.inj (hi'.symm.trans hoy)
  subst this
  refine (wpPlan_yld (by omega:d≤2)).2 ⟨o',v',hoy,hy'.of_same (execOp_put o' sy a o.dst v h1).symm (wanted_put o' a o.dst v h1).symm,(wpPlan_yld hc2).2 ⟨o,v,hox,hy.of_same (execOp_put o sx a o'.dst v' h3) (wanted_put o a o'.dst v' h3),?_⟩⟩
  rw [←Act.put_comm a v v' h2]
  exact hr'
 ·have hcase:c=0∨(c=2∧d=3):=by omega
  by_cases hd3:d=3
  ·subst hd3
   have hr1:=wpPlan_three.1 hr
   rcases hcase with rfl|⟨rfl,_⟩
   ·exact wpPlan_three.2 (wpOp_mono (fun a' w' h'=>⟨h'.2.1,wpPlan_zero.2 ⟨o,v,hox,h'.1,h'.2.2⟩⟩) (wpOp_put hoy hap sx sy (fun c a w h=>hQ c a _ _ w h) hy hr1))
   ·exact wpPlan_three.2 (wpOp_mono (fun a' w' h'=>⟨h'.2.1,wpPlan_two.2 ⟨o,v,hox,YieldsR.weaken h'.1 (fun w2 h2=>h'.2.1.trans h2),h'.2.2⟩⟩)
     (wpOp_putR hoy hap sx sy (fun c a w h=>hQ c a _ _ w h) hy hr1))
  ·obtain ⟨k,rfl⟩:∃ k,d=k+4:=⟨d - 4,by omega⟩
   have hc0:c=0:=by omega
   subst hc0
   have hr1:=wpPlan_four.1 hr
   exact wpPlan_four.2 (wpOp_mono (fun a' w' h'=>wpPlan_zero.2 ⟨o,v,hox,h'.1,h'.2⟩) (wpOp_put hoy hap sx sy (fun c a w h=>hQ c a _ _ w h) hy hr1))
theorem wpPlan_tail {x:Nat × Nat} {p q:List (Nat × Nat)} (h:∀ a w,wpPlan P ops B Q p a w→wpPlan P ops B Q q a w) {a:Act} {w:World}
 (hp:wpPlan P ops B Q (x::p) a w):wpPlan P ops B Q (x::q) a w:=by
 obtain ⟨i,c⟩:=x
 match c,hp with
 | 0,hp=>obtain ⟨o,v,hi,hy,hr⟩:=hp;exact ⟨o,v,hi,hy,h _ _ hr⟩
 | 1,hp=>obtain ⟨o,v,hi,hy,hr⟩:=hp;exact ⟨o,v,hi,hy,h _ _ hr⟩
 | 2,hp=>obtain ⟨o,v,hi,hy,hr⟩:=hp;exact ⟨o,v,hi,hy,h _ _ hr⟩
 | 3,hp=>exact wpOp_mono (fun a' w' h'=>⟨h'.1,h _ _ h'.2⟩) hp
 | _+4,hp=>exact wpOp_mono h hp
theorem wpPlan_front (hs:Region.noSelect ops=true) (hQ:∀ c a d v w,Q (.panic c) (Act.put a d v) w→Q (.panic c) a w) {y:Nat × Nat} {rest:List (Nat × Nat)} :
 ∀ (p:List (Nat × Nat)) (a:Act) (w:World),(∀ x∈p,swapB ops x y=true)→wpPlan P ops B Q (p++y::rest) a w→wpPlan P ops B Q (y::(p++rest)) a w
 | [],_,_,_,h=>h
 | x::p,a,w,hb,h =>
  wpPlan_swap hs hQ (hb x (by simp)) (wpPlan_tail (q:=y::(p++rest)) (fun a w h=>wpPlan_front hs hQ p a w (fun z hz=>hb z (by simp [hz])) h) h)
def preds (ops:Array Oper) (j:Nat):List Nat:=match ops[j]? with|some o=>(o.after.toList.filter fun e=>Region.binds .any e).map (·.on)|none=>[]
def ancB (ops:Array Oper) (T:List (List Nat)):Bool :=
 (List.range ops.size).all fun j=>((preds ops j).all fun p=>decide (p < j)) && (T.getD j []).all fun x=>(preds ops j).contains x || (preds ops j).any fun p=>(T.getD p []).contains x
def ancTable (ops:Array Oper):List (List Nat) :=
 (List.range ops.size).foldl (fun T j=>T++[(preds ops j).foldl (fun acc p=>(p::T.getD p []).foldl (fun acc x=>if acc.contains x then acc else x::acc) acc) []]) []
theorem mem_preds {j:Nat} {o:Oper} (ho:ops[j]?=some o) {e:Edge} (he:e∈o.after) (hb:Region.binds .any e=true):e.on∈preds ops j:=by
 simp only [preds,ho,List.mem_map,List.mem_filter]
 exact ⟨e,⟨by simpa using he,hb⟩,rfl⟩
theorem preds_mem {j x:Nat} (h:x∈preds ops j):∃ o,ops[j]?=some o∧∃ e∈o.after,Region.binds .any e=true∧e.on=x:=by
 unfold preds at h
 split at h
 ·rename_i o ho
  obtain ⟨e,he,rfl⟩:=List.mem_map.1 h
  obtain ⟨h1,h2⟩:=List.mem_filter.1 he
  exact ⟨o,ho,e,by simpa using h1,h2,rfl⟩
 ·cases h
theorem ready_preds {listed:Array Bool} {i:Nat} (h:i∈Region.ready .any ops listed):i < ops.size∧listed.getD i true=false∧∀ e∈preds ops i,listed.getD e false=true:=by
 obtain ⟨hun,o,ho,hall⟩:=mem_ready.1 h
 refine ⟨(Array.getElem?_eq_some_iff.1 ho).1,hun,fun e he=>?_⟩
 obtain ⟨o',ho',e',he',hb',rfl⟩:=preds_mem he
 have:o'=o:=Option.some.inj (ho'.symm.trans ho)
 subst this
 exact hall e' he' hb'
def Sched (ops:Array Oper):Nat→Array Bool→List Nat→Prop
 | 0,_,σ=>σ=[]
 | n+1,listed,σ=>(∃ i σ',σ=i::σ'∧i∈Region.ready .any ops listed∧Sched ops n (listed.setIfInBounds i true) σ')∨(σ=[]∧Region.ready .any ops listed=[])
theorem sched_go:∀ (fuel t:Nat) (listed:Array Bool),Sched ops fuel listed (Region.linearise.go .any ops fuel t listed []):=by
 intro fuel
 induction fuel with
 | zero=>intro t listed;simp [Region.linearise.go,Sched]
 | succ fuel ih =>
  intro t listed
  simp only [Region.linearise.go,Sched]
  change (∃ i σ',(match (Region.ready .any ops listed)[t % (Region.ready .any ops listed).length]? with
   | some i=>Region.linearise.go .any ops fuel (t / (Region.ready .any ops listed).length) (listed.setIfInBounds i true) [i]
   | none=>[].reverse)=i::σ'∧_)∨((match (Region.ready .any ops listed)[t % (Region.ready .any ops listed).length]? with
   | some i=>Region.linearise.go .any ops fuel (t / (Region.ready .any ops listed).length) (listed.setIfInBounds i true) [i]
   | none=>[].reverse)=[]∧_)
  cases hi:(Region.ready .any ops listed)[t % (Region.ready .any ops listed).length]? with
  | none =>
   refine .inr ⟨rfl,?_⟩
   cases hr:Region.ready .any ops listed with
   | nil=>rfl
   | cons x xs =>
    rw [hr] at hi
    have hlt:t % (x::xs).length < (x::xs).length:=Nat.mod_lt _ (by simp)
    simp at hi
    simp at hlt
    omega
  | some i =>
   refine .inl ⟨i,_,?_,List.mem_of_getElem? hi,ih (t / (Region.ready .any ops listed).length) (listed.setIfInBounds i true)⟩
   simp only []
   rw [linearise_go_acc,List.reverse_singleton,List.singleton_append]
theorem getD_true_false {listed:Array Bool} {j:Nat} (hj:j < listed.size):listed.getD j true=listed.getD j false:=by
 simp [hj]
structure PlanInv (ops:Array Oper) (listed:Array Bool) (rem:List (Nat × Nat)):Prop where
 size:listed.size=ops.size
 un:∀ j,j < ops.size→(listed.getD j true=false↔∃ c,(j,c)∈rem)
 lt:∀ x∈rem,x.1 < ops.size
 nodup:(rem.map (·.1)).Nodup
 lin:∀ p y q,rem=p++y::q→∀ e∈preds ops y.1,listed.getD e false=true∨∃ c,(e,c)∈p
theorem wpOps_of_plan (hs:Region.noSelect ops=true) (hQ:∀ c a d v w,Q (.panic c) (Act.put a d v) w→Q (.panic c) a w) :
 ∀ (n:Nat) (rem:List (Nat × Nat)) (listed:Array Bool) (σ:List Nat) (a:Act) (w:World),rem.length=n→PlanInv ops listed rem →
  Sched ops n listed σ→rem.Pairwise (fun x y=>swapB ops x y=true∨σ.idxOf x.1 < σ.idxOf y.1) →
  wpPlan P ops B Q rem a w→wpOps P ops Q σ a w:=by
 intro n
 induction n with
 | zero =>
  intro rem listed σ a w hl inv hsch _ h
  have:rem=[]:=List.eq_nil_of_length_eq_zero hl
  subst this
  simp only [Sched] at hsch
  subst hsch
  exact h
 | succ n ih =>
  intro rem listed σ a w hl inv hsch hpair h
  rcases hsch with ⟨i,σ',rfl,hi,hsch⟩|⟨_,h0⟩
  case inr =>
   exfalso
   match rem,hl,inv with
   | x::rest,_,inv =>
    have hx:=inv.lt x (by simp)
    have hin:x.1∈Region.ready .any ops listed:=by
     refine mem_ready.2 ⟨(inv.un x.1 hx).2 ⟨x.2,by simp⟩,ops[x.1],by simp [hx],fun e he hb=>?_⟩
     rcases inv.lin [] x rest rfl e.on (mem_preds (by simp [hx]) he hb) with h1|⟨c,hc⟩
     ·exact h1
     ·cases hc
    rw [h0] at hin
    cases hin
  case inl =>
   obtain ⟨hilt,hun,hpre⟩:=ready_preds hi
   obtain ⟨c,hc⟩:=(inv.un i hilt).1 hun
   obtain ⟨p,q,rfl⟩:=List.append_of_mem hc
   have hnd0:=inv.nodup
   simp only [List.map_append,List.map_cons] at hnd0
   have hnd1:=(List.perm_middle.nodup_iff).1 hnd0
   have hnd:i∉(p++q).map (·.1):=by simpa using (List.nodup_cons.1 hnd1).1
   have hne:∀ x∈p++q,x.1≠i:=fun x hx he=>hnd (List.mem_map.2 ⟨x,hx,he⟩)
   have hsw:∀ x∈p,swapB ops x (i,c)=true:=fun x hx=>by
    rcases (List.pairwise_append.1 hpair).2.2 x hx (i,c) (by simp) with h1|h1
    ·exact h1
    ·simp at h1
   have hfront:=wpPlan_front hs hQ p a w hsw h
   rw [wpOps_cons]
   refine wpOp_mono (fun a' w' h'=>ih (p++q) (listed.setIfInBounds i true) σ' a' w' (by simp at hl ⊢;omega) ?_ hsch ?_ h') (wpPlan_cons hfront)
   ·refine ⟨by simp [inv.size],fun j hj=>?_,fun x hx=>inv.lt x (by simp at hx ⊢;rcases hx with h|h<;>simp [h]),?_,?_⟩
    ·by_cases hji:i=j
     ·subst hji
      refine ⟨fun h1=>?_,fun ⟨c',hc'⟩=>absurd (List.mem_map.2 ⟨_,hc',rfl⟩) hnd⟩
      have:i < listed.size:=by rw [inv.size];exact hj
      simp [this] at h1
     ·rw [getD_set_ne true hji,inv.un j hj]
      constructor
      ·rintro ⟨c',hc'⟩
       refine ⟨c',?_⟩
       simp only [List.mem_append,List.mem_cons] at hc' ⊢
       rcases hc' with h|h|h
       ·exact .inl h
       ·cases h;exact absurd rfl hji
       ·exact .inr h
      ·rintro ⟨c',hc'⟩
       refine ⟨c',?_⟩
       simp only [List.mem_append,List.mem_cons] at hc' ⊢
       rcases hc' with h|h
       ·exact .inl h
       ·exact .inr (.inr h)
    ·simpa using (List.nodup_cons.1 hnd1).2
    ·intro p' y q' heq e he
     have key:listed.getD e false=true∨(∃ c',(e,c')∈p')∨e=i:=by
      rcases List.append_eq_append_iff.1 heq with ⟨asz,h1,h2⟩|⟨asz,h1,h2⟩
      ·have:=inv.lin (p++(i,c)::asz) y q' (by rw [h2];simp) e he
       rcases this with h3|⟨c',h3⟩
       ·exact .inl h3
       ·simp only [List.mem_append,List.mem_cons] at h3
        rcases h3 with h3|h3|h3
        ·exact .inr (.inl ⟨c',by rw [h1];simp [h3]⟩)
        ·cases h3;exact .inr (.inr rfl)
        ·exact .inr (.inl ⟨c',by rw [h1];simp [h3]⟩)
      ·cases asz with
       | nil =>
        simp only [List.append_nil,List.nil_append] at h1 h2
        have:=inv.lin (p++[(i,c)]) y q' (by rw [←h2];simp) e he
        rcases this with h3|⟨c',h3⟩
        ·exact .inl h3
        ·simp only [List.mem_append,List.mem_cons,List.not_mem_nil,or_false] at h3
         rcases h3 with h3|h3
         ·exact .inr (.inl ⟨c',by rw [←h1];exact h3⟩)
         ·cases h3;exact .inr (.inr rfl)
       | cons z asz =>
        simp only [List.cons_append,List.cons.injEq] at h2
        obtain ⟨rfl,h2⟩:=h2
        have:=inv.lin p' y (asz++(i,c)::q) (by rw [h1];simp) e he
        rcases this with h3|h3
        ·exact .inl h3
        ·exact .inr (.inl h3)
     rcases key with h3|h3|h3
     ·exact .inl (getD_set_true h3)
     ·exact .inr h3
     ·subst h3
      refine .inl ?_
      have:e < listed.size:=by rw [inv.size];exact hilt
      simp [this]
   ·have hsub:(p++q).Pairwise (fun x y=>swapB ops x y=true∨(i::σ').idxOf x.1 < (i::σ').idxOf y.1):=hpair.sublist (by simp)
    refine List.Pairwise.imp_of_mem (fun {x y} hx hy h1=>?_) hsub
    rcases h1 with h1|h1
    ·exact .inl h1
    ·have e1:(i == x.1)=false:=by simpa using fun h=>hne x hx h.symm
     have e2:(i == y.1)=false:=by simpa using fun h=>hne y hy h.symm
     rw [List.idxOf_cons,List.idxOf_cons,e1,e2] at h1
     simp only [cond_false] at h1
     exact .inr (by omega)
theorem anc_listed {T:List (List Nat)} (hT:ancB ops T=true) {listed:Array Bool} (hdown:∀ j,j < ops.size→listed.getD j false=true→∀ e∈preds ops j,listed.getD e false=true) :
 ∀ (n j:Nat),j < n→j < ops.size→(∀ e∈preds ops j,listed.getD e false=true)→∀ x∈T.getD j [],listed.getD x false=true
 | 0,_,h,_,_,_,_=>absurd h (Nat.not_lt_zero _)
 | n+1,j,hn,hj,hp,x,hx=>by
  have h1:=List.all_eq_true.1 hT j (List.mem_range.2 hj)
  simp only [Bool.and_eq_true,List.all_eq_true,decide_eq_true_eq,Bool.or_eq_true,List.any_eq_true,List.contains_iff_mem] at h1
  rcases h1.2 x hx with h2|⟨p,hpm,hxp⟩
  ·exact hp x h2
  ·have hlt:=h1.1 p hpm
   exact anc_listed hT hdown n p (by omega) (by omega) (hdown p (by omega) (hp p hpm)) x hxp
theorem sched_facts {T:List (List Nat)} (hT:ancB ops T=true):∀ (n:Nat) (listed:Array Bool) (σ:List Nat),listed.size=ops.size →
 (∀ j,j < ops.size→listed.getD j false=true→∀ e∈preds ops j,listed.getD e false=true)→Sched ops n listed σ →
 σ.Nodup∧(∀ j∈σ,j < ops.size∧listed.getD j true=false)∧(∀ x y,y∈σ→x∈T.getD y []→listed.getD x false=true∨σ.idxOf x < σ.idxOf y)
 | 0,_,σ,_,_,h=>by
  simp only [Sched] at h
  subst h
  exact ⟨List.nodup_nil,by simp,by simp⟩
 | n+1,listed,σ,hsz,hdown,h=>by
  rcases h with ⟨i,σ',rfl,hi,h⟩|⟨rfl,_⟩
  case inr=>exact ⟨List.nodup_nil,by simp,by simp⟩
  obtain ⟨hilt,hun,hpre⟩:=ready_preds hi
  have hdown':∀ j,j < ops.size→(listed.setIfInBounds i true).getD j false=true→∀ e∈preds ops j,(listed.setIfInBounds i true).getD e false=true:=by
   intro j hj hl' e he
   by_cases hji:i=j
   ·subst hji
    exact getD_set_true (hpre e he)
   ·rw [getD_set_ne false hji] at hl'
    exact getD_set_true (hdown j hj hl' e he)
  obtain ⟨h1,h2,h3⟩:=sched_facts hT n (listed.setIfInBounds i true) σ' (by simp [hsz]) hdown' h
  have hni:i∉σ':=fun hm=>by
   have:=(h2 i hm).2
   have hs:i < listed.size:=by omega
   simp [hs] at this
  refine ⟨List.nodup_cons.2 ⟨hni,h1⟩,fun j hj=>?_,fun x y hy hx=>?_⟩
  ·rcases List.mem_cons.1 hj with rfl|hj
   ·exact ⟨hilt,hun⟩
   ·have hji:i≠j:=fun e=>hni (e▸hj)
    have:=h2 j hj
    rw [getD_set_ne true hji] at this
    exact this
  ·rcases List.mem_cons.1 hy with rfl|hy
   ·exact .inl (anc_listed hT hdown (y+1) y (Nat.lt_succ_self _) hilt hpre x hx)
   ·have hyi:i≠y:=fun e=>hni (e▸hy)
    rcases h3 x y hy hx with h4|h4
    ·by_cases hxi:i=x
     ·subst hxi
      refine .inr ?_
      have e2:(i == y)=false:=by simpa using hyi
      rw [List.idxOf_cons,List.idxOf_cons,e2]
      simp
     ·rw [getD_set_ne false hxi] at h4
      exact .inl h4
    ·refine .inr ?_
     have e2:(i == y)=false:=by simpa using hyi
     rw [List.idxOf_cons,List.idxOf_cons,e2]
     simp only [cond_false]
     cases i == x<;>simp<;>omega
def exts (T:List (List Nat)):Nat→List Nat→List (List Nat)
 | 0,_=>[[]]
 | n+1,I=>match I with
  | []=>[[]]
  | _=>(I.filter fun i=>I.all fun x=>x == i || !(T.getD i []).contains x).flatMap fun i=>(exts T n (I.filter fun x=>x != i)).map (i::·)
theorem exts_mem {T:List (List Nat)}:∀ (n:Nat) (I:List Nat) (s:List Nat),I.length≤n→s.Nodup→(∀ x,x∈s↔x∈I)→I.Nodup →
 (∀ x y,x∈s→y∈s→x∈T.getD y []→s.idxOf x < s.idxOf y)→s∈exts T n I
 | 0,I,s,hl,_,hm,_,_=>by
  have:I=[]:=List.eq_nil_of_length_eq_zero (by omega)
  subst this
  have:s=[]:=List.eq_nil_iff_forall_not_mem.2 fun x hx=>by simpa using (hm x).1 hx
  subst this
  simp [exts]
 | n+1,I,s,hl,hnd,hm,hI,hanc=>by
  cases s with
  | nil =>
   have:I=[]:=List.eq_nil_iff_forall_not_mem.2 fun x hx=>by simpa using (hm x).2 hx
   subst this
   simp [exts]
  | cons i s =>
   have hi:i∈I:=(hm i).1 (by simp)
   have hni:=(List.nodup_cons.1 hnd).1
   have hne:I≠[]:=fun h=>by simp [h] at hi
   have hrec:s∈exts T n (I.filter fun x=>x != i):=by
    refine exts_mem n _ s ?_ (List.nodup_cons.1 hnd).2 (fun x=>?_) (hI.filter _) (fun x y hx hy h=>?_)
    ·have:(I.filter fun x=>x != i).length < I.length:=by
      refine List.length_filter_lt_length_iff_exists.2 ⟨i,hi,by simp⟩
     omega
    ·rw [List.mem_filter,←hm x]
     simp only [List.mem_cons,bne_iff_ne]
     constructor
     ·intro h;exact ⟨.inr h,fun e=>hni (e▸h)⟩
     ·rintro ⟨h|h,h2⟩
      ·exact absurd h h2
      ·exact h
    ·have hxi:i≠x:=fun e=>hni (e▸hx)
     have hyi:i≠y:=fun e=>hni (e▸hy)
     have h1:=hanc x y (by simp [hx]) (by simp [hy]) h
     have e1:(i == x)=false:=by simpa using hxi
     have e2:(i == y)=false:=by simpa using hyi
     rw [List.idxOf_cons,List.idxOf_cons,e1,e2] at h1
     simp only [cond_false] at h1
     omega
   match I,hne with
   | z::I,_ =>
    simp only [exts]
    refine List.mem_flatMap.2 ⟨i,List.mem_filter.2 ⟨hi,?_⟩,List.mem_map.2 ⟨s,hrec,rfl⟩⟩
    refine List.all_eq_true.2 fun x hx=>?_
    by_cases hxi:x=i
    ·simp [hxi]
    ·by_cases hc:x∈T.getD i []
     ·exfalso
      have:=hanc x i ((hm x).2 hx) (by simp) hc
      simp [List.idxOf_cons] at this
     ·have hc':(T.getD i []).contains x=false:=by simpa using hc
      rw [hc']
      simp
def planB (ops:Array Oper) (I:List Nat) (plans:List (List (Nat × Nat))):Bool :=
 let T:=ancTable ops
 Region.noSelect ops && ancB ops T && decide I.Nodup && (I.all fun i=>decide (i < ops.size)) &&
 (plans.all fun plan=>decide (plan.length=ops.size) && decide ((plan.map (·.1)).Nodup) && (plan.all fun x=>decide (x.1 < ops.size)) &&
  ((List.range ops.size).all fun j=>plan.any fun x=>x.1 == j) && linB plan [] && pairsB T plan) &&
 (exts T I.length I).all fun e=>plans.any fun plan=>((plan.map (·.1)).filter fun i=>I.contains i) == e
where
 linB:List (Nat × Nat)→List Nat→Bool
  | [],_=>true
  | y::q,seen=>((preds ops y.1).all fun e=>seen.contains e) && linB q (y.1::seen)
 pairsB (T:List (List Nat)):List (Nat × Nat)→Bool
  | []=>true
  | x::q=>(q.all fun y=>(T.getD y.1 []).contains x.1 || swapB ops x y || (I.contains x.1 && I.contains y.1)) && pairsB T q
theorem linB_spec {I:List Nat}:∀ (plan:List (Nat × Nat)) (seen:List Nat),planB.linB ops plan seen=true→∀ p y q,plan=p++y::q→∀ e∈preds ops y.1,e∈seen∨∃ c,(e,c)∈p
 | [],_,_,p,y,q,h,_,_=>by simp at h
 | x::plan,seen,hB,p,y,q,h,e,he=>by
  simp only [planB.linB,Bool.and_eq_true,List.all_eq_true,List.contains_iff_mem] at hB
  cases p with
  | nil =>
   simp only [List.nil_append,List.cons.injEq] at h
   obtain ⟨rfl,rfl⟩:=h
   exact .inl (hB.1 e he)
  | cons z p =>
   simp only [List.cons_append,List.cons.injEq] at h
   obtain ⟨rfl,rfl⟩:=h
   rcases linB_spec (I:=I) _ _ hB.2 p y q rfl e he with h1|⟨c,h1⟩
   ·simp only [List.mem_cons] at h1
    rcases h1 with rfl|h1
    ·exact .inr ⟨x.2,by simp⟩
    ·exact .inl h1
   ·exact .inr ⟨c,by simp [h1]⟩
theorem pairsB_spec {I:List Nat} {T:List (List Nat)}:∀ (plan:List (Nat × Nat)),planB.pairsB ops I T plan=true →
 plan.Pairwise fun x y=>(T.getD y.1 []).contains x.1=true∨swapB ops x y=true∨(x.1∈I∧y.1∈I)
 | [],_=>.nil
 | x::plan,h=>by
  simp only [planB.pairsB,Bool.and_eq_true,List.all_eq_true,Bool.or_eq_true,List.contains_iff_mem] at h
  refine .cons (fun y hy=>?_) (pairsB_spec plan h.2)
  rcases h.1 y hy with (h1|h1)|h1
  ·exact .inl (by simpa using h1)
  ·exact .inr (.inl h1)
  ·exact .inr (.inr h1)
theorem idx_of_pairs:∀ (l:List Nat),l.Nodup→l.Pairwise fun x y=>l.idxOf x < l.idxOf y:=by
 intro l
 induction l with
 | nil=>intro _;exact .nil
 | cons i l ih =>
  intro h
  obtain ⟨hni,hnd⟩:=List.nodup_cons.1 h
  refine .cons (fun y hy=>?_) (List.Pairwise.imp_of_mem (fun {x y} hx hy h1=>?_) (ih hnd))
  ·have:(i == y)=false:=by simpa using fun (e:i=y)=>hni (e▸hy)
   simp [List.idxOf_cons,this]
  ·have e1:(i == x)=false:=by simpa using fun (e:i=x)=>hni (e▸hx)
   have e2:(i == y)=false:=by simpa using fun (e:i=y)=>hni (e▸hy)
   simp only [List.idxOf_cons,e1,e2,cond_false]
   omega
theorem pairwise_filter_idx {l:List Nat} (hnd:l.Nodup) (p:Nat→Bool):(l.filter p).Pairwise fun x y=>l.idxOf x < l.idxOf y :=
 (idx_of_pairs l hnd).sublist List.filter_sublist
theorem wp_region_plans {id:Nat} {a:Act} {w:World} (B:Nat→Prop) (I:List Nat) (plans:List (List (Nat × Nat))) (hm:P.follows .mixedOrders=true) (hB:planB ops I plans=true)
 (hQ:∀ c a d v w,Q (.panic c) (Act.put a d v) w→Q (.panic c) a w)
 (h:∀ plan∈plans,wpPlan P ops B Q plan a w.drew):(Code.region id ops true).wp P Q a w:=by
 simp only [planB,Bool.and_eq_true,decide_eq_true_eq,List.all_eq_true,List.mem_range,List.any_eq_true,beq_iff_eq] at hB
 obtain ⟨⟨⟨⟨⟨hs,hT⟩,hIn⟩,hIlt⟩,hplans⟩,hcov⟩:=hB
 refine wp_region_draw fun t=>?_
 simp only [Region.schedule,hm,Bool.true_or,if_true,Region.linearise]
 have hsch:=sched_go (ops:=ops) ops.size t (Array.replicate ops.size false)
 generalize Region.linearise.go .any ops ops.size t (Array.replicate ops.size false) []=σ at hsch
 have hz:∀ j,(Array.replicate ops.size false).getD j false=false:=fun j=>by
  rcases Nat.lt_or_ge j ops.size with h|h<;>simp [h]
 have hdown:∀ j,j < ops.size→(Array.replicate ops.size false).getD j false=true→∀ e∈preds ops j,(Array.replicate ops.size false).getD e false=true:=fun j _ h=>by rw [hz] at h;cases h
 obtain ⟨hnd,hlt,hanc⟩:=sched_facts hT ops.size _ σ (by simp) hdown hsch
 have hanc':∀ x y,y∈σ→x∈(ancTable ops).getD y []→σ.idxOf x < σ.idxOf y:=fun x y hy hx=>by
  rcases hanc x y hy hx with h1|h1
  ·rw [hz] at h1;cases h1
  ·exact h1
 have inv0:∀ plan∈plans,PlanInv ops (Array.replicate ops.size false) plan:=fun plan hp=>by
  obtain ⟨⟨⟨⟨⟨hlen,hpn⟩,hplt⟩,hmem⟩,hlin⟩,hpairs⟩:=hplans plan hp
  refine ⟨by simp,fun j hj=>⟨fun _=>?_,fun _=>by simp [hj]⟩,hplt,hpn,fun p y q he e hpe=>?_⟩
  ·obtain ⟨y,hy,rfl⟩:=hmem j hj
   exact ⟨y.2,hy⟩
  ·rcases linB_spec (I:=I) plan [] hlin p y q he e hpe with h1|h1
   ·cases h1
   ·exact .inr h1
 by_cases hσ:∀ j,j < ops.size→j∈σ
 ·have hexts:(σ.filter fun i=>I.contains i)∈exts (ancTable ops) I.length I:=by
   refine exts_mem I.length I _ (Nat.le_refl _) (hnd.filter _) (fun x=>?_) hIn (fun x y hx hy hxy=>?_)
   ·simp only [List.mem_filter,List.contains_iff_mem]
    exact ⟨fun h=>h.2,fun h=>⟨hσ x (hIlt x h),h⟩⟩
   ·have hlt2:=hanc' x y (List.mem_filter.1 hy).1 hxy
    have hx':x∈σ.filter fun i=>I.contains i:=hx
    have hnf:(σ.filter fun i=>I.contains i).Nodup:=hnd.filter _
    rcases Nat.lt_trichotomy ((σ.filter fun i=>I.contains i).idxOf x) ((σ.filter fun i=>I.contains i).idxOf y) with h1|h1|h1
    ·exact h1
    ·exfalso
     have:x=y:=by
      have e1:=List.getElem_idxOf (List.idxOf_lt_length_iff.2 hx')
      have e2:=List.getElem_idxOf (List.idxOf_lt_length_iff.2 hy)
      rw [←e1,←e2]
      congr 1
     subst this
     omega
    ·exfalso
     have hp:=pairwise_filter_idx hnd (fun i=>I.contains i)
     have:=List.pairwise_iff_getElem.1 hp _ _ (List.idxOf_lt_length_iff.2 hy) (List.idxOf_lt_length_iff.2 hx') h1
     rw [List.getElem_idxOf,List.getElem_idxOf] at this
     omega
  obtain ⟨plan,hpm,hpe⟩:=hcov _ hexts
  obtain ⟨⟨⟨⟨⟨hlen,hpn⟩,hplt⟩,hmem⟩,hlin⟩,hpairs⟩:=hplans plan hpm
  refine wpOps_of_plan hs hQ ops.size plan _ σ a w.drew hlen (inv0 plan hpm) hsch ?_ (h plan hpm)
  have hp1:=pairsB_spec plan hpairs
  have hp2:plan.Pairwise fun x y=>x.1∈I→y.1∈I→σ.idxOf x.1 < σ.idxOf y.1:=by
   have h1:=pairwise_filter_idx hnd (fun i=>I.contains i)
   rw [←hpe] at h1
   have h2:=List.pairwise_filter.1 h1
   have h3:=List.pairwise_map.1 h2
   exact h3.imp fun {x y} h hx hy=>h (by simpa using hx) (by simpa using hy)
  refine List.Pairwise.imp_of_mem (fun {x y} hx hy h1=>?_) (hp1.and hp2)
  rcases h1.1 with h2|h2|h2
  ·exact .inr (hanc' x.1 y.1 (hσ _ (hplt y hy)) (by simpa using h2))
  ·exact .inl h2
  ·exact .inr (h1.2 h2.1 h2.2)
 ·
  exfalso
  refine hσ fun j hj=>?_
  have full:∀ (n:Nat) (listed:Array Bool) (σ:List Nat),listed.size=ops.size→((List.range ops.size).filter fun j=>!listed.getD j true).length≤n →
   Sched ops n listed σ→∀ j,j < ops.size→listed.getD j true=false→j∈σ:=by
   intro n
   induction n with
   | zero =>
    intro listed σ hsz hle _ j hj hun
    have:(List.range ops.size).filter (fun j=>!listed.getD j true)=[]:=List.eq_nil_of_length_eq_zero (by omega)
    have hmem:j∈(List.range ops.size).filter (fun j=>!listed.getD j true):=List.mem_filter.2 ⟨List.mem_range.2 hj,by simpa using hun⟩
    rw [this] at hmem
    cases hmem
   | succ n ih =>
    intro listed σ hsz hle hsc j hj hun
    rcases hsc with ⟨i,σ',rfl,hi,hsc⟩|⟨rfl,h0⟩
    ·by_cases hji:j=i
     ·simp [hji]
     ·refine List.mem_cons_of_mem _ (ih (listed.setIfInBounds i true) σ' (by simp [hsz]) ?_ hsc j hj (by rw [getD_set_ne true (Ne.symm hji)];exact hun))
      obtain ⟨hilt,hiun,_⟩:=ready_preds hi
      have hlt3:((List.range ops.size).filter fun j=>!(listed.setIfInBounds i true).getD j true).length < ((List.range ops.size).filter fun j=>!listed.getD j true).length:=by
       have e1:(List.range ops.size).filter (fun j=>!(listed.setIfInBounds i true).getD j true)=((List.range ops.size).filter fun j=>!listed.getD j true).filter (fun j=>j != i):=by
        rw [List.filter_filter]
        refine List.filter_congr fun x hx=>?_
        by_cases hxi:i=x
        ·subst hxi
         have hs2:i < listed.size:=by omega
         simp [hs2]
        ·rw [getD_set_ne true hxi]
         simp [Ne.symm hxi]
       rw [e1]
       exact List.length_filter_lt_length_iff_exists.2 ⟨i,List.mem_filter.2 ⟨List.mem_range.2 hilt,by simpa using hiun⟩,by simp⟩
      omega
    ·exfalso
     have hex:∃ k,k < ops.size∧listed.getD k true=false∧∀ k' < k,listed.getD k' true=true:=by
      have:∀ m,m≤ops.size→(∃ k,k < m∧listed.getD k true=false∧∀ k' < k,listed.getD k' true=true)∨∀ k' < m,listed.getD k' true=true:=by
       intro m
       induction m with
       | zero=>intro _;exact .inr fun k' h=>absurd h (Nat.not_lt_zero _)
       | succ m ihm =>
        intro hm
        rcases ihm (by omega) with ⟨k,h1,h2,h3⟩|h1
        ·exact .inl ⟨k,by omega,h2,h3⟩
        ·cases hg:listed.getD m true with
         | false=>exact .inl ⟨m,by omega,hg,h1⟩
         | true =>
          refine .inr fun k' hk'=>?_
          rcases Nat.lt_or_ge k' m with h|h
          ·exact h1 k' h
          ·have:k'=m:=by omega
           subst this
           exact hg
      rcases this ops.size (Nat.le_refl _) with h1|h1
      ·exact h1
      ·rw [h1 j hj] at hun;cases hun
     obtain ⟨k,hk,hkun,hkmin⟩:=hex
     have hin:k∈Region.ready .any ops listed:=by
      refine mem_ready.2 ⟨hkun,ops[k],by simp [hk],fun e he hb=>?_⟩
      have h1:=List.all_eq_true.1 hT k (List.mem_range.2 hk)
      simp only [Bool.and_eq_true,List.all_eq_true,decide_eq_true_eq] at h1
      have hlt4:=h1.1 e.on (mem_preds (by simp [hk]) he hb)
      have:=hkmin e.on hlt4
      rw [getD_true_false (by omega)] at this
      exact this
     rw [h0] at hin
     cases hin
  exact full ops.size _ σ (by simp) (by simpa using List.length_filter_le _ (List.range ops.size)) hsch j hj (by simp [hj])
end
end Go.Afx
namespace Go.Afx
open Go
section
variable {P : Program} {ops : Array Oper} {B : Nat → Prop} {Q : Exit → Act → World → Prop} {i : Nat} {rest : List (Nat × Nat)} {a : Act} {w : World} {o : Oper} {v : Value}
theorem agree_drew (B:Nat→Prop) (w:World):Agree B w w.drew:=fun _ _ _=>rfl
theorem agree_alloc {B:Nat→Prop} {w:World} (o:Obj) (h:∀ k,B k→k < w.heap.size):Agree B w (w.alloc o):=fun b i hb=>by
 have hlt:=h b hb
 have:(w.alloc o).heap[b]?=w.heap[b]?:=by
  show (w.heap.push o)[b]?=_
  rw [Array.getElem?_push,if_neg (by omega)]
 simp only [World.cell?,this]
theorem plan_nil (h:Q .normal a w):wpPlan P ops B Q [] a w:=h
theorem plan_pure {l:List Oper} {d:Tmp} (ho:l[i]?=some o) (hd:o.dst=some d) (hw:Region.wanted o (yielded l.toArray a.tmps)=true) (hv:∀ w,(execOp a.eval o).run P w=.ok (.value v) w)
 (h:wpPlan P l.toArray B Q rest { a with tmps:=a.tmps.setIfInBounds d v } w):wpPlan P l.toArray B Q ((i,0)::rest) a w:=⟨o,v,by simpa using ho,.inl ⟨hw,hv⟩,by rw [hd];exact h⟩
theorem plan_read {l:List Oper} {d:Tmp} (ho:l[i]?=some o) (hd:o.dst=some d) (hw:Region.wanted o (yielded l.toArray a.tmps)=true) (hv:(execOp a.eval o).run P w=.ok (.value v) w)
 (h:wpPlan P l.toArray B Q rest { a with tmps:=a.tmps.setIfInBounds d v } w):wpPlan P l.toArray B Q ((i,1)::rest) a w:=⟨o,v,by simpa using ho,.inl ⟨hw,fun _ e=>by rw [e];exact hv⟩,by rw [hd];exact h⟩
theorem plan_readB {l:List Oper} {d:Tmp} (ho:l[i]?=some o) (hd:o.dst=some d) (hw:Region.wanted o (yielded l.toArray a.tmps)=true) (hv:∀ w2,Agree B w w2→(execOp a.eval o).run P w2=.ok (.value v) w2)
 (h:wpPlan P l.toArray B Q rest { a with tmps:=a.tmps.setIfInBounds d v } w):wpPlan P l.toArray B Q ((i,2)::rest) a w:=⟨o,v,by simpa using ho,.inl ⟨hw,hv⟩,by rw [hd];exact h⟩
theorem plan_skip0 {l:List Oper} {d:Tmp} (ho:l[i]?=some o) (hd:o.dst=some d) (hw:Region.wanted o (yielded l.toArray a.tmps)=false)
 (h:wpPlan P l.toArray B Q rest { a with tmps:=a.tmps.setIfInBounds d undef } w):wpPlan P l.toArray B Q ((i,0)::rest) a w:=⟨o,undef,by simpa using ho,.inr ⟨hw,rfl⟩,by rw [hd];exact h⟩
theorem plan_skip1 {l:List Oper} {d:Tmp} (ho:l[i]?=some o) (hd:o.dst=some d) (hw:Region.wanted o (yielded l.toArray a.tmps)=false)
 (h:wpPlan P l.toArray B Q rest { a with tmps:=a.tmps.setIfInBounds d undef } w):wpPlan P l.toArray B Q ((i,1)::rest) a w:=⟨o,undef,by simpa using ho,.inr ⟨hw,rfl⟩,by rw [hd];exact h⟩
theorem plan_skip2 {l:List Oper} {d:Tmp} (ho:l[i]?=some o) (hd:o.dst=some d) (hw:Region.wanted o (yielded l.toArray a.tmps)=false)
 (h:wpPlan P l.toArray B Q rest { a with tmps:=a.tmps.setIfInBounds d undef } w):wpPlan P l.toArray B Q ((i,2)::rest) a w:=⟨o,undef,by simpa using ho,.inr ⟨hw,rfl⟩,by rw [hd];exact h⟩
theorem wpOp_of_list {K:Act→World→Prop} (ho:ops[i]?=some o) (h:wpList P ops (Exit.then K Q) [o] a w):wpOp P ops Q i K a w:=by
 unfold wpOp
 simp only [ho]
 unfold wpList at h
 split
 ·rename_i hw
  rw [if_pos hw] at h
  rcases h with h|⟨h1,h2⟩
  ·refine .inl ?_
   unfold Oper.wp at *
   generalize (execOp a.eval o).run P w=r at *
   cases r with
   | ok n w' =>
    cases n<;>simp only [Oper.upon] at h ⊢<;>first
     | exact h
     | exact Calls.mono h (fun e w'' he=>by cases e<;>exact he)
     | exact Rows.mono h (fun _ _ he=>he)
   | halt x w'=>cases x<;>simp only [Oper.upon] at h ⊢<;>exact h
  ·exact .inr ⟨h1,h2⟩
 ·rename_i hw
  rw [if_neg hw] at h
  exact h
theorem plan_keep {l:List Oper} (ho:l[i]?=some o) (h:wpList P l.toArray (Exit.then (fun a' w'=>Agree B w w'∧wpPlan P l.toArray B Q rest a' w') Q) [o] a w):wpPlan P l.toArray B Q ((i,3)::rest) a w :=
 wpOp_of_list (by simpa using ho) h
theorem plan_any {l:List Oper} (ho:l[i]?=some o) (h:wpList P l.toArray (Exit.then (wpPlan P l.toArray B Q rest) Q) [o] a w):wpPlan P l.toArray B Q ((i,4)::rest) a w :=
 wpOp_of_list (by simpa using ho) h
theorem wp_region_lit_plan {id:Nat} {l:List Oper} (I:List Nat) (plan:List (Nat × Nat)) (B:Nat→Prop) (hm:P.follows .mixedOrders=true) (hB:planB l.toArray I [plan]=true)
 (hQ:∀ c a d v w,Q (.panic c) (Act.put a d v) w→Q (.panic c) a w)
 (h:wpPlan P l.toArray B Q plan a w.drew):(Code.region id l.toArray true).wp P Q a w :=
 wp_region_plans B I [plan] hm hB hQ (fun p hp=>by simp at hp;subst hp;exact h)
def allPlans (P:Program) (ops:Array Oper) (B:Nat→Prop) (Q:Exit→Act→World→Prop) (a:Act) (w:World):List (List (Nat × Nat))→Prop
 | []=>True
 | p::ps=>wpPlan P ops B Q p a w∧allPlans P ops B Q a w ps
theorem allPlans_mem:∀ (ps:List (List (Nat × Nat))),allPlans P ops B Q a w ps→∀ p∈ps,wpPlan P ops B Q p a w
 | [],_,_,h=>by cases h
 | q::ps,h,p,hp=>by
  rcases List.mem_cons.1 hp with rfl|hp
  ·exact h.1
  ·exact allPlans_mem ps h.2 p hp
theorem wp_region_lit_plans {id:Nat} {l:List Oper} (I:List Nat) (plans:List (List (Nat × Nat))) (B:Nat→Prop) (hm:P.follows .mixedOrders=true) (hB:planB l.toArray I plans=true)
 (hQ:∀ c a d v w,Q (.panic c) (Act.put a d v) w→Q (.panic c) a w)
 (h:allPlans P l.toArray B Q a w.drew plans):(Code.region id l.toArray true).wp P Q a w :=
 wp_region_plans B I plans hm hB hQ (allPlans_mem plans h)
end
end Go.Afx
namespace Go.Afx
open Go
structure Kept (Q:Prop):Prop where
 out:Q
theorem stp {P Q:Prop} (k:Q) (h:Kept Q→P:=by intro k;(first|(refine plan_pure (v:=_) (by rfl) (by rfl) (by rfl) (by intro _;go_simp;with_reducible rfl) ?_;simp only [List.setIfInBounds_toArray,List.set_cons_zero,List.set_cons_succ];try go_bits)|(refine plan_read (v:=_) (by rfl) (by rfl) (by rfl) (by go_simp;with_reducible rfl) ?_;simp only [List.setIfInBounds_toArray,List.set_cons_zero,List.set_cons_succ];try go_bits)|(refine plan_readB (v:=_) (by rfl) (by rfl) (by rfl) (by intro _ hag;unfold Agree at hag;go_simp;with_reducible rfl) ?_;simp only [List.setIfInBounds_toArray,List.set_cons_zero,List.set_cons_succ];try go_bits)|(refine plan_skip0 (by rfl) (by rfl) (by rfl) ?_;simp only [List.setIfInBounds_toArray,List.set_cons_zero,List.set_cons_succ];try go_bits)|(refine plan_skip1 (by rfl) (by rfl) (by rfl) ?_;simp only [List.setIfInBounds_toArray,List.set_cons_zero,List.set_cons_succ];try go_bits)|(refine plan_skip2 (by rfl) (by rfl) (by rfl) ?_;simp only [List.setIfInBounds_toArray,List.set_cons_zero,List.set_cons_succ];try go_bits)|(refine plan_skip4 (by rfl) (by rfl) (by rfl) ?_;simp only [List.setIfInBounds_toArray,List.set_cons_zero,List.set_cons_succ];try go_bits)|(refine plan_any (by rfl) ?_)|(refine plan_keep (by rfl) ?_)|(refine plan_nil ?_)|(with_reducible refine And.intro (by first|assumption|exact Agree.refl _ _|exact agree_drew _ _|exact agree_alloc _ (by intro k hk;subst hk;first|omega|(simp;omega))) ?_)|(unfold Act.put;simp only [List.setIfInBounds_toArray,List.set_cons_zero,List.set_cons_succ]));exact k.out):P:=h ⟨k⟩
end Go.Afx
namespace Go.Afx
open Go Go.RowKit
structure Only (S:Nat→Prop) (w w':World):Prop where
 os:w'.os=w.os
 tape:w'.tape=w.tape
 output:w'.output=w.output
 size:w.heap.size≤w'.heap.size
 block:∀ k,k < w.heap.size→¬ S k→w'.heap[k]?=w.heap[k]?
theorem Only.refl (S:Nat→Prop) (w:World):Only S w w:=⟨rfl,rfl,rfl,Nat.le_refl _,fun _ _ _=>rfl⟩
theorem Only.trans {S S':Nat→Prop} {a b c:World} (h:Only S a b) (k:Only S' b c) (hs:∀ i,i < a.heap.size→S' i→S i):Only S a c :=
 ⟨k.os.trans h.os,k.tape.trans h.tape,k.output.trans h.output,Nat.le_trans h.size k.size,fun i hi hn =>
  (k.block i (Nat.lt_of_lt_of_le hi h.size) fun h'=>hn (hs i hi h')).trans (h.block i hi hn)⟩
theorem Only.mono {S S':Nat→Prop} {w w':World} (h:Only S w w') (hs:∀ i,i < w.heap.size→S i→S' i):Only S' w w' :=
 ⟨h.os,h.tape,h.output,h.size,fun i hi hn=>h.block i hi fun h'=>hn (hs i hi h')⟩
theorem Only.drew {S:Nat→Prop} {a w:World} (h:Only S a w):Only S a w.drew:=⟨h.os,h.tape,h.output,h.size,h.block⟩
theorem Only.alloc {S:Nat→Prop} {a w:World} (h:Only S a w) (o:Obj):Only S a (w.alloc o) :=
 h.trans (S':=fun _=>False) ⟨rfl,rfl,rfl,by simp,fun k hk _=>Below.heap_alloc _ _ _ hk⟩ fun _ _ h=>h.elim
theorem Only.setCell {S:Nat→Prop} {a w:World} (h:Only S a w) {p:Addr} (hp:p.block < a.heap.size→S p.block) (u:Value):Only S a (w.setCell p u) :=
 h.trans (S':=fun k=>k=p.block) ⟨rfl,rfl,rfl,by simp [World.setCell],fun k _ hn=>Below.heap_setCell _ _ _ _ hn⟩ fun i hi e=>by subst e;exact hp hi
theorem Only.setRow {S:Nat→Prop} {a w:World} (h:Only S a w) {g:Nat} (hp:g < a.heap.size→S g) (cs:Array Value):Only S a (w.setRow g cs) :=
 h.trans (S':=fun k=>k=g) ⟨rfl,rfl,rfl,by simp [World.setRow],fun k _ hn=>setRow_other _ _ _ _ hn⟩ fun i hi e=>by subst e;exact hp hi
theorem Only.below {S:Nat→Prop} {w w':World} (h:Only S w w') {B:Nat} (hB:B≤w.heap.size) (hs:∀ i,S i→B≤i):Below B w w' :=
 ⟨h.os,h.tape,h.output,h.size,fun k hk=>h.block k (Nat.lt_of_lt_of_le hk hB) fun h'=>by have:=hs k h';omega⟩
theorem Only.of_below {S:Nat→Prop} {w w':World} {B:Nat} (h:Below B w w') (hs:∀ i,i < w.heap.size→¬ S i→i < B):Only S w w' :=
 ⟨h.os,h.tape,h.output,h.size,fun k hk hn=>h.block k (hs k hk hn)⟩
theorem Only.of_none {S:Nat→Prop} {w w':World} (h:Below w.heap.size w w'):Only S w w':=Only.of_below h fun _ hi _=>hi
theorem Only.cell {S:Nat→Prop} {w w':World} (h:Only S w w') {p:Addr} (hp:p.block < w.heap.size) (hn:¬ S p.block):w'.cell? p=w.cell? p:=World.cell?_of_block (w:=w) (h.block p.block hp hn)
theorem Only.frozen {S:Nat→Prop} {w w':World} (h:Only S w w') {p:Addr} (hp:p.block < w.heap.size) (hn:¬ S p.block):w'.frozen? p=w.frozen? p:=World.frozen?_of_block (w:=w) (h.block p.block hp hn)
theorem lt_of_heap {w:World} {k:Nat} {o:Obj} (h:w.heap[k]?=some o):k < w.heap.size:=(Array.getElem?_eq_some_iff.1 h).1
def Blk (w:World) (b:Nat) (t:TypeId) (cs:List Value):Prop:=w.heap[b]?=some (.cells cs.toArray t (0,0))
section blk
variable {w w' : World} {b : Nat} {t : TypeId} {cs : List Value}
theorem Blk.lt (h:Blk w b t cs):b < w.heap.size:=lt_of_heap h
theorem Blk.cell (h:Blk w b t cs) (i:Nat):w.cell? ⟨b,i,none⟩=cs[i]?:=by
 unfold Blk at h
 simp [World.cell?,h]
theorem Blk.cellE (h:Blk w b t cs) (i:Nat) {v:Value} (hv:cs[i]?=some v):w.cell? ⟨b,i,none⟩=some v:=(h.cell i).trans hv
theorem Blk.frozen (h:Blk w b t cs) (i:Nat):w.frozen? ⟨b,i,none⟩=false:=by
 unfold Blk at h
 simp [World.frozen?,h]
theorem Blk.set (h:Blk w b t cs) (i:Nat) (v:Value):Blk (w.setCell ⟨b,i,none⟩ v) b t (cs.set i v):=by
 have hlt:=h.lt
 unfold Blk at *
 have hv:w.heap[b]=.cells cs.toArray t (0,0):=(Array.getElem?_eq_some_iff.1 h).2
 simp only [World.setCell]
 rw [Array.getElem?_eq_getElem (by simpa using hlt),Array.getElem_modify]
 simp [hv]
theorem Blk.setOther (h:Blk w b t cs) {p:Addr} (hp:b≠p.block) (v:Value):Blk (w.setCell p v) b t cs:=by
 unfold Blk at *
 rw [Below.heap_setCell _ _ _ _ hp]
 exact h
theorem Blk.setRowOther (h:Blk w b t cs) {g:Nat} (hp:b≠g) (c:Array Value):Blk (w.setRow g c) b t cs:=by
 unfold Blk at *
 rw [setRow_other _ _ _ _ hp]
 exact h
theorem Blk.setRow (h:Blk w b t cs) (c:List Value):Blk (w.setRow b c.toArray) b t c:=setRow_heap w b _ _ t _ h
theorem Blk.alloc (h:Blk w b t cs) (o:Obj):Blk (w.alloc o) b t cs:=by
 have hlt:=h.lt
 unfold Blk at *
 rw [heap_alloc_old w o hlt]
 exact h
theorem Blk.drew (h:Blk w b t cs):Blk w.drew b t cs:=h
theorem Blk.new (w:World) (t:TypeId) (cs:List Value):Blk (w.alloc (.cells cs.toArray t)) w.heap.size t cs:=heap_alloc_new w _
theorem Blk.only {S:Nat→Prop} (h:Blk w b t cs) (ho:Only S w w') (hn:¬ S b):Blk w' b t cs:=by
 have hlt:=h.lt
 unfold Blk at *
 rw [ho.block b hlt hn]
 exact h
theorem Blk.below (h:Blk w b t cs) (ho:Below w.heap.size w w'):Blk w' b t cs:=by
 have hlt:=h.lt
 unfold Blk at *
 rw [ho.block b hlt]
 exact h
end blk
def Ones (cs:List Value):Prop:=∀ u∈cs,u.oneCell'=true
theorem Ones.nil:Ones []:=fun _ h=>by cases h
theorem Ones.cons {u:Value} {cs:List Value} (h:u.oneCell'=true) (hc:Ones cs):Ones (u::cs):=fun x hx=>by
 rcases List.mem_cons.1 hx with rfl|hx
 ·exact h
 ·exact hc x hx
theorem Ones.append {a b:List Value} (ha:Ones a) (hb:Ones b):Ones (a++b):=fun x hx=>by
 rcases List.mem_append.1 hx with h|h
 ·exact ha x h
 ·exact hb x h
theorem Ones.sub {a b:List Value} (hb:Ones b) (h:∀ x∈a,x∈b):Ones a:=fun x hx=>hb x (h x hx)
theorem Ones.take {a:List Value} (h:Ones a) (n:Nat):Ones (a.take n):=h.sub fun _ hx=>List.mem_of_mem_take hx
theorem Ones.drop {a:List Value} (h:Ones a) (n:Nat):Ones (a.drop n):=h.sub fun _ hx=>List.mem_of_mem_drop hx
def Sl (w:World) (B:Nat→Prop) (sz:Nat) (v:Value) (n:Nat) (cs:List Value):Prop :=
 cs.length=n*sz∧Ones cs∧((∃ p cap,v=.slice p 0 cap∧n=0∧cap≤maxLen∧(p=none→cap=0)) ∨
  ∃ g off cap,v=.slice (some ⟨g,off,none⟩) n cap∧n≤cap∧cap≤maxLen∧B g∧g < w.heap.size∧∀ j,j < cs.length→w.cell? ⟨g,off+j,none⟩=cs[j]?)
theorem Sl.mono {w w':World} {B B':Nat→Prop} {sz:Nat} {v:Value} {n:Nat} {cs:List Value} (h:Sl w B sz v n cs) (hs:w.heap.size≤w'.heap.size)
 (hb:∀ k,B k→k < w.heap.size→w'.heap[k]?=w.heap[k]?) (hB:∀ k,B k→k < w.heap.size→B' k):Sl w' B' sz v n cs:=by
 obtain ⟨h1,h2,h3⟩:=h
 refine ⟨h1,h2,?_⟩
 rcases h3 with h3|⟨g,off,cap,rfl,a1,a2,a3,a4,a5⟩
 ·exact .inl h3
 ·exact .inr ⟨g,off,cap,rfl,a1,a2,hB g a3 a4,by omega,fun j hj=>by rw [World.cell?_of_block (w:=w) (hb g a3 a4)];exact a5 j hj⟩
theorem Sl.only {w w':World} {S B:Nat→Prop} {sz:Nat} {v:Value} {n:Nat} {cs:List Value} (h:Sl w B sz v n cs) (ho:Only S w w') (hd:∀ k,B k→¬ S k):Sl w' B sz v n cs :=
 h.mono ho.size (fun k hk hl=>ho.block k hl (hd k hk)) (fun _ h _=>h)
theorem Sl.below {w w':World} {B:Nat→Prop} {sz:Nat} {v:Value} {n:Nat} {cs:List Value} (h:Sl w B sz v n cs) (ho:Below w.heap.size w w'):Sl w' B sz v n cs :=
 h.mono ho.size (fun k _ hl=>ho.block k hl) (fun _ h _=>h)
theorem Sl.drew {w:World} {B:Nat→Prop} {sz:Nat} {v:Value} {n:Nat} {cs:List Value} (h:Sl w B sz v n cs):Sl w.drew B sz v n cs:=h
theorem Sl.alloc {w:World} {B:Nat→Prop} {sz:Nat} {v:Value} {n:Nat} {cs:List Value} (h:Sl w B sz v n cs) (o:Obj):Sl (w.alloc o) B sz v n cs :=
 h.mono (by simp) (fun _ _ hl=>heap_alloc_old w o hl) (fun _ h _=>h)
theorem Sl.take {w:World} {B:Nat→Prop} {sz n cap m:Nat} {p:Option Addr} {cs:List Value} (h:Sl w B sz (.slice p n cap) n cs) (hm:m≤n):Sl w B sz (.slice p m cap) m (cs.take (m*sz)):=by
 obtain ⟨h1,h2,h3⟩:=h
 have hmn:m*sz≤n*sz:=Nat.mul_le_mul_right _ hm
 refine ⟨by rw [List.length_take,h1];omega,h2.take _,?_⟩
 rcases h3 with ⟨p',cap',hv,hn,hc,hp⟩|⟨g',off',cap',hv,a1,a2,a3,a4,a5⟩
 ·cases hv
  have:m=0:=by omega
  subst this
  exact .inl ⟨p,cap,rfl,rfl,hc,hp⟩
 ·cases hv
  refine .inr ⟨g',off',cap,rfl,by omega,a2,a3,a4,fun j hj=>?_⟩
  rw [List.length_take] at hj
  rw [a5 j (by omega),List.getElem?_take,if_pos (by omega)]
theorem Sl.form {w:World} {B:Nat→Prop} {sz:Nat} {v:Value} {n:Nat} {cs:List Value} (h:Sl w B sz v n cs):∃ p cap,v=.slice p n cap∧n≤cap∧cap≤9223372036854775807:=by
 rcases h.2.2 with ⟨p,cap,rfl,rfl,hc,_⟩|⟨g,off,cap,rfl,a1,a2,_⟩
 ·exact ⟨p,cap,rfl,by omega,by unfold maxLen at hc;omega⟩
 ·exact ⟨_,cap,rfl,a1,by unfold maxLen at a2;omega⟩
theorem Sl.place {w:World} {B:Nat→Prop} {sz:Nat} {v:Value} {n:Nat} {cs:List Value} (h:Sl w B sz v n cs) (hn:0 < n) :
 ∃ g off cap,v=.slice (some ⟨g,off,none⟩) n cap∧n≤cap∧cap≤maxLen∧B g∧g < w.heap.size∧∀ j,j < cs.length→w.cell? ⟨g,off+j,none⟩=cs[j]?:=by
 rcases h.2.2 with ⟨p,cap,rfl,rfl,hc,_⟩|h
 ·omega
 ·exact h
def Own (w:World) (e:TypeId) (sz:Nat) (v:Value) (n:Nat) (cs:List Value):Prop :=
 cs.length=n*sz∧Ones cs∧((v=.slice none 0 0∧n=0) ∨
  ∃ g off cap cur,v=.slice (some ⟨g,off,none⟩) n cap∧Blk w g e cur∧n≤cap∧cap≤maxLen∧off+cap*sz≤cur.length∧(cur.drop off).take (n*sz)=cs)
section own
variable {w w' : World} {e : TypeId} {sz : Nat} {v : Value} {n : Nat} {cs : List Value}
theorem Own.nil (w:World) (e:TypeId) (sz:Nat):Own w e sz (.slice none 0 0) 0 []:=⟨by simp,Ones.nil,.inl ⟨rfl,rfl⟩⟩
theorem Own.lt (h:Own w e sz v n cs):∀ k,v.ownBlock=some k→k < w.heap.size:=by
 intro k hk
 rcases h.2.2 with ⟨rfl,_⟩|⟨g,off,cap,cur,rfl,hb,_⟩
 ·simp [Value.ownBlock] at hk
 ·simp [Value.ownBlock] at hk
  subst hk
  exact hb.lt
theorem Own.sl (h:Own w e sz v n cs) {B:Nat→Prop} (hB:∀ k,v.ownBlock=some k→B k):Sl w B sz v n cs:=by
 refine ⟨h.1,h.2.1,?_⟩
 rcases h.2.2 with h0|⟨g,off,cap,cur,rfl,hb,h1,h2,h3,h4⟩
 ·exact .inl ⟨none,0,h0.1,h0.2,Nat.zero_le _,fun _=>rfl⟩
 ·refine .inr ⟨g,off,cap,rfl,h1,h2,hB g rfl,hb.lt,fun j hj=>?_⟩
  rw [hb.cell,←h4,List.getElem?_take,List.getElem?_drop,if_pos (by rw [h.1] at hj;exact hj)]
theorem Own.keep (h:Own w e sz v n cs) (hb:∀ k,v.ownBlock=some k→w'.heap[k]?=w.heap[k]?):Own w' e sz v n cs:=by
 refine ⟨h.1,h.2.1,?_⟩
 rcases h.2.2 with h0|⟨g,off,cap,cur,rfl,hbk,rest⟩
 ·exact .inl h0
 ·refine .inr ⟨g,off,cap,cur,rfl,?_,rest⟩
  unfold Blk at *
  rw [hb g rfl]
  exact hbk
theorem Own.only {S:Nat→Prop} (h:Own w e sz v n cs) (ho:Only S w w') (hd:∀ k,v.ownBlock=some k→¬ S k):Own w' e sz v n cs :=
 h.keep fun k hk=>ho.block k (h.lt k hk) (hd k hk)
theorem Own.below (h:Own w e sz v n cs) (ho:Below w.heap.size w w'):Own w' e sz v n cs:=h.keep fun k hk=>ho.block k (h.lt k hk)
theorem Own.drew (h:Own w e sz v n cs):Own w.drew e sz v n cs:=h
theorem Own.alloc (h:Own w e sz v n cs) (o:Obj):Own (w.alloc o) e sz v n cs:=h.keep fun k hk=>heap_alloc_old w o (h.lt k hk)
theorem Own.setOther (h:Own w e sz v n cs) {p:Addr} (hp:v.ownBlock≠some p.block) (u:Value):Own (w.setCell p u) e sz v n cs :=
 h.keep fun k hk=>Below.heap_setCell _ _ _ _ fun he=>hp (by rw [hk,he])
theorem Own.made (w:World) (e:TypeId) (sz:Nat) (cs rest:List Value) (n cap:Nat) (hl:cs.length=n*sz) (h1:Ones cs) (hc:n≤cap) (hm:cap≤maxLen) (hr:cap*sz≤(cs++rest).length) :
 Own (w.alloc (.cells (cs++rest).toArray e)) e sz (.slice (some ⟨w.heap.size,0,none⟩) n cap) n cs :=
 ⟨hl,h1,.inr ⟨w.heap.size,0,cap,cs++rest,rfl,Blk.new w e _,hc,hm,by omega,by rw [←hl];simp⟩⟩
theorem Own.take {g off cap:Nat} (h:Own w e sz (.slice (some ⟨g,off,none⟩) n cap) n cs) {m:Nat} (hm:m≤n):Own w e sz (.slice (some ⟨g,off,none⟩) m cap) m (cs.take (m*sz)):=by
 have hmn:m*sz≤n*sz:=Nat.mul_le_mul_right _ hm
 refine ⟨by rw [List.length_take,h.1];omega,h.2.1.take _,?_⟩
 rcases h.2.2 with ⟨h0,_⟩|⟨g',off',cap',cur,hv,hb,h1,h2,h3,h4⟩
 ·cases h0
 ·cases hv
  refine .inr ⟨g,off,cap,cur,rfl,hb,by omega,h2,h3,?_⟩
  rw [←h4,List.take_take]
  congr 1
  omega
end own
structure Elem (P:Program) (t e:TypeId) (sz bytes:Nat) (z:Value):Prop where
 sl:P.underlying t=some (.slice e)
 info:(P.info? e).map (fun i=>(i.zero,i.size,i.bytes))=some (some z,sz,bytes)
 zs:z.cells.size=sz
 pos:0 < sz
 one:Ones z.cells.toList
theorem Elem.parts {P:Program} {t e:TypeId} {sz bytes:Nat} {z:Value} (h:Elem P t e sz bytes z):∃ i,P.info? e=some i∧i.zero=some z∧i.size=sz∧i.bytes=bytes:=info_parts h.info
theorem splice_read (cur news cs:List Value) (off a:Nat) (ho:off≤cur.length) (h:(cur.drop off).take a=cs) (hl:cs.length=a) :
 ((cur.take (off+a)++news++cur.drop (off+a+news.length)).drop off).take (a+news.length)=cs++news:=by
 have e1:cur.take (off+a)=cur.take off++cs:=by rw [List.take_add,h]
 rw [e1,List.append_assoc,List.append_assoc,List.drop_append_of_le_length (by rw [List.length_take];omega)]
 rw [List.drop_eq_nil_of_le (by rw [List.length_take];omega),List.nil_append,←List.append_assoc,←hl,←List.length_append,List.take_left]
theorem news_of_sl {w:World} {g off:Nat} {news:List Value} (h:∀ j,j < news.length→w.cell? ⟨g,off+j,none⟩=news[j]?):∀ j u,news[j]?=some u→w.cell? ((⟨g,off,none⟩:Addr).add j)=some u:=fun j u hu=>by
 have hj:j < news.length:=(List.getElem?_eq_some_iff.1 hu).1
 rw [Addr.add_lit,h j hj,hu]
section append
variable {P : Program} {t e ty : TypeId} {sz bytes : Nat} {z : Value} {w : World}
theorem run_app (he:Elem P t e sz bytes z) {v:Value} {n:Nat} {cs:List Value} (hown:Own w e sz v n cs) {B:Nat→Prop} {x:Value} {m:Nat} {news:List Value} (hx:Sl w B sz x m news)
 (h63:n+m≤maxLen) (hb:(n+m)*bytes≤140737488355328) :
 ∃ v' w',(Builtin.append_ #[t,t] ty #[v,x]).run P w=.ok v' w'∧Own w' e sz v' (n+m) (cs++news)∧Only (fun k=>v.ownBlock=some k) w w' ∧
  (v'.ownBlock=v.ownBlock∨v'.ownBlock=some w.heap.size)∧w'.heap.size≤w.heap.size+1∧(0 < n+m→v'≠.slice none 0 0)∧(0 < n+m→v'.ownBlock≠none):=by
 obtain ⟨i,hi,hz,hsize,hby⟩:=he.parts
 have ht:=he.sl
 have hzs:=he.zs
 have hsz:=he.pos
 subst hsize
 subst hby
 have hsmall:n+m≤9223372036854775807:=by simp only [maxLen] at h63;omega
 have hlen:(cs++news).length=(n+m)*i.size:=by rw [List.length_append,hown.1,hx.1,Nat.add_mul]
 have hones:Ones (cs++news):=hown.2.1.append hx.2.1
 have grown:∀ (old:Nat),old < n+m→∀ S:Nat→Prop,
  Own (w.drew.alloc (.cells (cs.toArray++news.toArray++Builtin.zeroCells z.cells (grownCap w (n+m) old e - (n+m))) e)) e i.size
   (.slice (some ⟨w.heap.size,0,none⟩) (n+m) (grownCap w (n+m) old e)) (n+m) (cs++news) ∧
  Only S w (w.drew.alloc (.cells (cs.toArray++news.toArray++Builtin.zeroCells z.cells (grownCap w (n+m) old e - (n+m))) e)):=by
  intro old ho S
  have hge:=grownCap_ge w (n+m) old e
  have hcm:grownCap w (n+m) old e≤maxLen:=grownCap_le_maxLen w (n+m) old e h63
  have hsz2:(cs++news++(Builtin.zeroCells z.cells (grownCap w (n+m) old e - (n+m))).toList).length=grownCap w (n+m) old e*i.size:=by
   rw [List.length_append,hlen,Array.length_toList,size_zeroCells,hzs,←Nat.add_mul]
   congr 1
   omega
  have h1:=Own.made w.drew e i.size (cs++news) (Builtin.zeroCells z.cells (grownCap w (n+m) old e - (n+m))).toList (n+m) (grownCap w (n+m) old e) hlen hones hge hcm (by omega)
  have e1:(cs++news++(Builtin.zeroCells z.cells (grownCap w (n+m) old e - (n+m))).toList).toArray=cs.toArray++news.toArray++Builtin.zeroCells z.cells (grownCap w (n+m) old e - (n+m)):=by simp
  rw [e1] at h1
  exact ⟨h1,((Only.refl S w).drew).alloc _⟩
 rcases hown.2.2 with ⟨rfl,rfl⟩|⟨g,off,cap,cur,rfl,hbk,hnc,hcm,hcs,htake⟩
 ·
  have hc0:cs=[]:=List.eq_nil_of_length_eq_zero (by simpa using hown.1)
  subst hc0
  rcases hx.2.2 with ⟨p,cap,rfl,rfl,_,_⟩|⟨g,off,cap,rfl,_,_,_,_,hcell⟩
  ·have hn0:news=[]:=List.eq_nil_of_length_eq_zero (by simpa using hx.1)
   subst hn0
   refine ⟨.slice none 0 0,w,?_,Own.nil w e i.size,Only.refl _ w,.inl rfl,by omega,by omega,by omega⟩
   cases p<;>simp [Builtin.append_,run_underlying ht,sizeOf,typeInfo,hi,Builtin.lenOf,Builtin.firstCells,loadCells,loadCellsFrom]
  ·by_cases hm:m=0
   ·subst hm
    have hn0:news=[]:=List.eq_nil_of_length_eq_zero (by simpa using hx.1)
    subst hn0
    refine ⟨.slice none 0 0,w,?_,Own.nil w e i.size,Only.refl _ w,.inl rfl,by omega,by omega,by omega⟩
    simp [Builtin.append_,run_underlying ht,sizeOf,typeInfo,hi,Builtin.lenOf,Builtin.firstCells,loadCells,loadCellsFrom]
   ·have hr:=run_append_nil (P:=P) w t ty e i z ht hi hz ⟨g,off,none⟩ m cap news hx.1 (news_of_sl hcell) (by omega) (by omega) (by have:=hb;simp only [Nat.zero_add] at this;omega)
    obtain ⟨g1,g2⟩:=grown 0 (by omega) (fun k=>(Value.slice none 0 0).ownBlock=some k)
    simp only [Nat.zero_add,List.nil_append,Array.empty_append] at g1 g2 ⊢
    refine ⟨_,_,hr,g1,g2,.inr rfl,by simp,by simp,by simp [Value.ownBlock]⟩
 ·have hxr:(Builtin.firstCells i.size m x).run P w=.ok news.toArray w∧(Builtin.lenOf x).run P w=.ok m w:=by
   rcases hx.2.2 with ⟨p,cap,rfl,rfl,_,_⟩|⟨g',off',cap',rfl,_,_,_,_,hcell⟩
   ·have hn0:news=[]:=List.eq_nil_of_length_eq_zero (by simpa using hx.1)
    subst hn0
    exact ⟨by cases p<;>simp [Builtin.firstCells,loadCells,loadCellsFrom],by simp [Builtin.lenOf]⟩
   ·exact ⟨run_firstCells_some w i.size m ⟨g',off',none⟩ m cap' news hx.1 (news_of_sl hcell),by simp [Builtin.lenOf]⟩
  by_cases hroom:n+m≤cap
  ·have hfit:(off+n*i.size)+0+news.length≤cur.toArray.size:=by
    have:(n+m)*i.size≤cap*i.size:=Nat.mul_le_mul_right _ hroom
    rw [Nat.add_mul] at this
    simp only [List.size_toArray,hx.1]
    omega
   have hst:=run_storeCells_at P g (off+n*i.size) e news 0 cur.toArray w hbk hfit hx.2.1
   simp only [Nat.add_zero] at hst
   have hr:(Builtin.append_ #[t,t] ty #[.slice (some ⟨g,off,none⟩) n cap,x]).run P w=.ok (.slice (some ⟨g,off,none⟩) (n+m) cap) (w.setRow g (cur.take (off+n*i.size)++news++cur.drop (off+n*i.size+news.length)).toArray):=by
    rcases hx.2.2 with ⟨p,cap,rfl,rfl,_,_⟩|⟨g',off',cap',rfl,_,_,_,_,hcell⟩
    ·simp [Builtin.append_,run_underlying ht,sizeOf,typeInfo,hi,hnc,hxr.1,hxr.2,Addr.add_lit,hst]
    ·simp [Builtin.append_,run_underlying ht,sizeOf,typeInfo,hi,hroom,hxr.1,hxr.2,Addr.add_lit,hst]
   refine ⟨_,_,hr,⟨hlen,hones,.inr ⟨g,off,cap,_,rfl,hbk.setRow _,hroom,hcm,?_,?_⟩⟩,(Only.refl _ w).setRow (fun _=>by simp [Value.ownBlock]) _,.inl rfl,by simp [World.setRow],by simp,by simp [Value.ownBlock]⟩
   ·have:(n+m)*i.size≤cap*i.size:=Nat.mul_le_mul_right _ hroom
    rw [Nat.add_mul] at this
    simp only [List.length_append,List.length_take,List.length_drop,hx.1]
    omega
   ·have h3:(n+m)*i.size≤cap*i.size:=Nat.mul_le_mul_right _ hroom
    rw [Nat.add_mul] at h3
    have h4:=splice_read cur news cs off (n*i.size) (by omega) htake hown.1
    rw [Nat.add_mul,←hx.1]
    exact h4
  ·rcases hx.2.2 with ⟨p,cap,rfl,rfl,_,_⟩|⟨g',off',cap',rfl,_,_,_,_,hcell⟩
   ·omega
   ·have holds:∀ j u,cs[j]?=some u→w.cell? ((⟨g,off,none⟩:Addr).add j)=some u:=by
     have hs:=hown.sl (B:=fun _=>True) (fun _ _=>trivial)
     rcases hs.2.2 with ⟨_,_,_,h0,_⟩|⟨g2,off2,cap2,hv,_,_,_,_,h5⟩
     ·have:cs=[]:=List.eq_nil_of_length_eq_zero (by rw [hown.1,h0,Nat.zero_mul])
      intro j u hu
      simp [this] at hu
     ·cases hv
      exact news_of_sl h5
    have hr:=run_append_grow (P:=P) w t ty e i z ht hi hz ⟨g,off,none⟩ n cap cs hown.1 holds ⟨g',off',none⟩ m cap' news hx.1 (news_of_sl hcell) (by omega) (by omega) (growslice_fits (by omega) hb)
    obtain ⟨g1,g2⟩:=grown cap (by omega) (fun k=>(Value.slice (some ⟨g,off,none⟩) n cap).ownBlock=some k)
    refine ⟨_,_,hr,g1,g2,.inr rfl,by simp,by simp,by simp [Value.ownBlock]⟩
end append
end Go.Afx
namespace Go.Afx
open Go Go.RowKit
section
variable {P : Program} {t e ty : TypeId} {sz bytes : Nat} {z : Value} {w : World}
theorem Blk.congr {b:Nat} {t:TypeId} {cs cs':List Value} (h:Blk w b t cs) (e:cs=cs'):Blk w b t cs':=e▸h
theorem Sl.first {B:Nat→Prop} {x:Value} {m:Nat} {news:List Value} (hx:Sl w B sz x m news) :
 (Builtin.firstCells sz m x).run P w=.ok news.toArray w∧(Builtin.lenOf x).run P w=.ok m w:=by
 rcases hx.2.2 with ⟨p,cap,rfl,rfl,_,_⟩|⟨g',off',cap',rfl,_,_,_,_,hcell⟩
 ·have hn0:news=[]:=List.eq_nil_of_length_eq_zero (by simpa using hx.1)
  subst hn0
  exact ⟨by cases p<;>simp [Builtin.firstCells,loadCells,loadCellsFrom],by simp [Builtin.lenOf]⟩
 ·exact ⟨run_firstCells_some w sz m ⟨g',off',none⟩ m cap' news hx.1 (news_of_sl hcell),by simp [Builtin.lenOf]⟩
theorem run_app_room (he:Elem P t e sz bytes z) {g off n cap:Nat} {cs:List Value} (hown:Own w e sz (.slice (some ⟨g,off,none⟩) n cap) n cs) {B:Nat→Prop} {x:Value} {m:Nat} {news:List Value}
 (hx:Sl w B sz x m news) (hroom:n+m≤cap) :
 ∃ w',(Builtin.append_ #[t,t] ty #[.slice (some ⟨g,off,none⟩) n cap,x]).run P w=.ok (.slice (some ⟨g,off,none⟩) (n+m) cap) w'∧Own w' e sz (.slice (some ⟨g,off,none⟩) (n+m) cap) (n+m) (cs++news) ∧
  Only (fun k=>k=g) w w'∧w'.heap.size=w.heap.size:=by
 obtain ⟨i,hi,hz,hsize,hby⟩:=he.parts
 have ht:=he.sl
 subst hsize
 have hlen:(cs++news).length=(n+m)*i.size:=by rw [List.length_append,hown.1,hx.1,Nat.add_mul]
 have hones:Ones (cs++news):=hown.2.1.append hx.2.1
 rcases hown.2.2 with ⟨h0,_⟩|⟨g2,off2,cap2,cur,hv,hbk,hnc,hcm,hcs,htake⟩
 ·cases h0
 cases hv
 have hxr:=hx.first (P:=P)
 have hfit:(off+n*i.size)+0+news.length≤cur.toArray.size:=by
  have:(n+m)*i.size≤cap*i.size:=Nat.mul_le_mul_right _ hroom
  rw [Nat.add_mul] at this
  simp only [List.size_toArray,hx.1]
  omega
 have hst:=run_storeCells_at P g (off+n*i.size) e news 0 cur.toArray w hbk hfit hx.2.1
 simp only [Nat.add_zero] at hst
 have hr:(Builtin.append_ #[t,t] ty #[.slice (some ⟨g,off,none⟩) n cap,x]).run P w=.ok (.slice (some ⟨g,off,none⟩) (n+m) cap) (w.setRow g (cur.take (off+n*i.size)++news++cur.drop (off+n*i.size+news.length)).toArray):=by
  rcases hx.2.2 with ⟨p,cap,rfl,rfl,_,_⟩|⟨g',off',cap',rfl,_,_,_,_,hcell⟩
  ·simp [Builtin.append_,run_underlying ht,sizeOf,typeInfo,hi,hnc,hxr.1,hxr.2,Addr.add_lit,hst]
  ·simp [Builtin.append_,run_underlying ht,sizeOf,typeInfo,hi,hroom,hxr.1,hxr.2,Addr.add_lit,hst]
 have h3:(n+m)*i.size≤cap*i.size:=Nat.mul_le_mul_right _ hroom
 rw [Nat.add_mul] at h3
 refine ⟨_,hr,⟨hlen,hones,.inr ⟨g,off,cap,_,rfl,hbk.setRow _,hroom,hcm,?_,?_⟩⟩,Only.setRow (S:=fun k=>k=g) (Only.refl _ w) (fun _=>rfl) _,by simp [World.setRow]⟩
 ·simp only [List.length_append,List.length_take,List.length_drop,hx.1]
  omega
 ·have h4:=splice_read cur news cs off (n*i.size) (by omega) htake hown.1
  rw [Nat.add_mul,←hx.1]
  exact h4
theorem ones_zeroCells {z:Array Value} (h:Ones z.toList) (n:Nat):Ones (Builtin.zeroCells z n).toList:=by
 intro u hu
 unfold Builtin.zeroCells at hu
 simp only [Array.toList_map,List.mem_map,Array.toList_range,List.mem_range] at hu
 obtain ⟨j,hj,rfl⟩:=hu
 have hz:0 < z.size:=by rcases Nat.eq_zero_or_pos z.size with h0|h0;·rw [h0] at hj;omega
                        ·exact h0
 have hlt:j % z.size < z.size:=Nat.mod_lt _ hz
 rw [getElem!_pos z _ hlt]
 exact h _ (by simp)
theorem Own.store {g off n cap:Nat} {cs:List Value} (h:Own w e sz (.slice (some ⟨g,off,none⟩) n cap) n cs) {j:Nat} (u:Value) (hu:u.oneCell'=true) :
 Own (w.setCell ⟨g,off+j,none⟩ u) e sz (.slice (some ⟨g,off,none⟩) n cap) n (cs.set j u):=by
 refine ⟨by rw [List.length_set];exact h.1,fun x hx=>?_,?_⟩
 ·rcases List.mem_or_eq_of_mem_set hx with h1|rfl
  ·exact h.2.1 x h1
  ·exact hu
 rcases h.2.2 with ⟨h0,_⟩|⟨g',off',cap',cur,hv,hb,h1,h2,h3,h4⟩
 ·cases h0
 ·cases hv
  refine .inr ⟨g,off,cap,cur.set (off+j) u,rfl,hb.set _ _,h1,h2,by rw [List.length_set];exact h3,?_⟩
  rw [←h4,List.drop_set,if_neg (by omega),List.take_set]
  congr 1
  omega
theorem Own.cellAt {g off n cap:Nat} {cs:List Value} (h:Own w e sz (.slice (some ⟨g,off,none⟩) n cap) n cs) {j:Nat} (hj:j < n*sz):w.cell? ⟨g,off+j,none⟩=cs[j]?∧w.frozen? ⟨g,off+j,none⟩=false:=by
 rcases h.2.2 with ⟨h0,_⟩|⟨g',off',cap',cur,hv,hb,h1,h2,h3,h4⟩
 ·cases h0
 ·cases hv
  exact ⟨by rw [hb.cell,←h4,List.getElem?_take,List.getElem?_drop,if_pos hj],hb.frozen _⟩
theorem run_clear_spare (he:Elem P t e sz bytes z) {g off n cap:Nat} {cs:List Value} (hown:Own w e sz (.slice (some ⟨g,off,none⟩) n cap) n cs) {k o2 c2:Nat} (hk:n+k≤cap) (ho:0 < k→o2=off+n*sz) :
 ∃ w',(Builtin.clear_ #[t] ty #[.slice (some ⟨g,o2,none⟩) k c2]).run P w=.ok (.tuple #[]) w'∧Own w' e sz (.slice (some ⟨g,off,none⟩) n cap) n cs∧Only (fun k=>k=g) w w'∧w'.heap.size=w.heap.size:=by
 obtain ⟨i,hi,hz,hsize,hby⟩:=he.parts
 have ht:=he.sl
 subst hsize
 rcases Nat.eq_zero_or_pos k with rfl|hkp
 ·refine ⟨w,?_,hown,Only.refl _ w,rfl⟩
  simp [Builtin.clear_,run_underlying ht]
 have:=ho hkp
 subst this
 rcases hown.2.2 with ⟨h0,_⟩|⟨g2,off2,cap2,cur,hv,hbk,hnc,hcm,hcs,htake⟩
 ·cases h0
 cases hv
 have h3:(n+k)*i.size≤cap*i.size:=Nat.mul_le_mul_right _ hk
 rw [Nat.add_mul] at h3
 have hzl:(Builtin.zeroCells z.cells k).toList.length=k*i.size:=by rw [Array.length_toList,size_zeroCells,he.zs]
 have hst:=run_storeCells_at P g (off+n*i.size) e (Builtin.zeroCells z.cells k).toList 0 cur.toArray w hbk (by simp only [List.size_toArray,hzl];omega) (ones_zeroCells he.one k)
 simp only [Nat.add_zero] at hst
 refine ⟨_,?_,⟨hown.1,hown.2.1,.inr ⟨g,off,cap,_,rfl,hbk.setRow (cur.take (off+n*i.size)++(Builtin.zeroCells z.cells k).toList++cur.drop (off+n*i.size+(Builtin.zeroCells z.cells k).toList.length)),hnc,hcm,?_,?_⟩⟩,Only.setRow (S:=fun k=>k=g) (Only.refl _ w) (fun _=>rfl) _,by simp [World.setRow]⟩
 ·obtain ⟨k',rfl⟩:∃ k',k=k'+1:=⟨k - 1,by omega⟩
  simp only [Builtin.clear_,List.getElem?_toArray,List.getElem?_cons_zero,Sem.run_bind,run_underlying ht,Result.andThen_ok]
  simp [zeroValue,typeInfo,hi,hz,hst]
 ·simp only [List.length_append,List.length_take,List.length_drop,hzl]
  omega
 ·have h4:=splice_read cur (Builtin.zeroCells z.cells k).toList cs off (n*i.size) (by omega) htake hown.1
  have h5:=congrArg (List.take (n*i.size)) h4
  rw [List.take_take,Nat.min_eq_left (by omega),←hown.1,List.take_left,hown.1] at h5
  exact h5
section steps
variable {ops : Array Oper} {rest : List Oper} {o : Oper} {a : Act} {Q : Exit → Act → World → Prop}
theorem wpList_app (hgd:o.guard=none) (s x:Operand) (ho:o.op=.call { callee:=.builtin .append,args:=#[s,x],argTypes:=#[t,t] })
 (he:Elem P t e sz bytes z) {v:Value} {n:Nat} {cs:List Value} (hs:a.eval s=v) (hown:Own w e sz v n cs) {B:Nat→Prop} {xv:Value} {m:Nat} {news:List Value} (hx:a.eval x=xv) (hsl:Sl w B sz xv m news)
 (h63:n+m≤maxLen) (hb:(n+m)*bytes≤140737488355328)
 (h:∀ v' w',Own w' e sz v' (n+m) (cs++news)→Only (fun k=>v.ownBlock=some k) w w'→(v'.ownBlock=v.ownBlock∨v'.ownBlock=some w.heap.size)→w'.heap.size≤w.heap.size+1 →
  (0 < n+m→v'.ownBlock≠none)→wpList P ops Q rest (a.put o.dst v') w'):wpList P ops Q (o::rest) a w:=by
 obtain ⟨v',w',hr,h1,h2,h3,h4,_,h6⟩:=run_app (P:=P) (ty:=o.type) he hown hsl h63 hb
 refine wpList_plain hgd fun K hK=>?_
 unfold Oper.wp execOp
 simp only [ho,resolve,invoke,builtin,Sem.run_bind,Sem.run_pure,Result.andThen_ok,List.map_toArray,List.map_cons,List.map_nil,hs,hx,hr]
 exact hK _ _ (h v' w' h1 h2 h3 h4 h6)
theorem wpList_app_room (hgd:o.guard=none) (s x:Operand) (ho:o.op=.call { callee:=.builtin .append,args:=#[s,x],argTypes:=#[t,t] })
 (he:Elem P t e sz bytes z) {g off n cap:Nat} {cs:List Value} (hs:a.eval s=.slice (some ⟨g,off,none⟩) n cap) (hown:Own w e sz (.slice (some ⟨g,off,none⟩) n cap) n cs) {B:Nat→Prop} {xv:Value} {m:Nat} {news:List Value}
 (hx:a.eval x=xv) (hsl:Sl w B sz xv m news) (hroom:n+m≤cap)
 (h:∀ w',Own w' e sz (.slice (some ⟨g,off,none⟩) (n+m) cap) (n+m) (cs++news)→Only (fun k=>k=g) w w'→w'.heap.size=w.heap.size →
  wpList P ops Q rest (a.put o.dst (.slice (some ⟨g,off,none⟩) (n+m) cap)) w'):wpList P ops Q (o::rest) a w:=by
 obtain ⟨w',hr,h1,h2,h3⟩:=run_app_room (P:=P) (ty:=o.type) he hown hsl hroom
 refine wpList_plain hgd fun K hK=>?_
 unfold Oper.wp execOp
 simp only [ho,resolve,invoke,builtin,Sem.run_bind,Sem.run_pure,Result.andThen_ok,List.map_toArray,List.map_cons,List.map_nil,hs,hx,hr]
 exact hK _ _ (h w' h1 h2 h3)
theorem wpList_clear_spare (hgd:o.guard=none) (x:Operand) (ho:o.op=.call { callee:=.builtin .clear,args:=#[x],argTypes:=#[t] })
 (he:Elem P t e sz bytes z) {g off n cap:Nat} {cs:List Value} (hown:Own w e sz (.slice (some ⟨g,off,none⟩) n cap) n cs) {k o2 c2:Nat} (hx:a.eval x=.slice (some ⟨g,o2,none⟩) k c2) (hk:n+k≤cap) (ho2:0 < k→o2=off+n*sz)
 (h:∀ w',Own w' e sz (.slice (some ⟨g,off,none⟩) n cap) n cs→Only (fun k=>k=g) w w'→w'.heap.size=w.heap.size→wpList P ops Q rest (a.put o.dst (.tuple #[])) w'):wpList P ops Q (o::rest) a w:=by
 obtain ⟨w',hr,h1,h2,h3⟩:=run_clear_spare (P:=P) (ty:=o.type) he hown (c2:=c2) hk ho2
 refine wpList_plain hgd fun K hK=>?_
 unfold Oper.wp execOp
 simp only [ho,resolve,invoke,builtin,Sem.run_bind,Sem.run_pure,Result.andThen_ok,List.map_toArray,List.map_cons,List.map_nil,hx,hr]
 exact hK _ _ (h w' h1 h2 h3)
end steps
end
end Go.Afx
namespace Go.Afx
open Go Go.RowKit
variable {P : Program}
def cvCap (w:World) (s:ByteArray) (e:TypeId):Nat:=grownCap w s.size 0 e
def cvW (w:World) (s:ByteArray) (e:TypeId):World:=w.drew.alloc (.cells (bytesRow s (grownCap w s.size 0 e)) e ((bytesRow s (grownCap w s.size 0 e)).size,(bytesRow s (grownCap w s.size 0 e)).size+1))
theorem run_cv (w:World) (src dst e:TypeId) (s:ByteArray) (hs:P.underlying src=some .string) (hd:P.underlying dst=some (.slice e)) (he:P.underlying e=some (.int .u8)) :
 (convert src dst (.string s)).run P w=.ok (.slice (some ⟨w.heap.size,0,none⟩) s.size (cvCap w s e)) (cvW w s e) :=
 run_bytes_of_string w src dst e s hs hd he
theorem cvW_below (w:World) (s:ByteArray) (e:TypeId):Below w.heap.size w (cvW w s e) :=
 (Below.drew (Below.refl _ _)).alloc (Nat.le_refl _) _
theorem cvW_size (w:World) (s:ByteArray) (e:TypeId):(cvW w s e).heap.size=w.heap.size+1:=by
 unfold cvW;simp
theorem cvW_cell (w:World) (s:ByteArray) (e:TypeId) (l:List UInt8) (hl:s.data.toList=l) (k:Nat) (hk:k < l.length) :
 (cvW w s e).cell? ⟨w.heap.size,k,none⟩=some (.int .u8 (l[k].toNat:Int)):=by
 subst hl
 have h1:=World.cell?_alloc_mark w.drew (bytesRow s (grownCap w s.size 0 e)) e ((bytesRow s (grownCap w s.size 0 e)).size,(bytesRow s (grownCap w s.size 0 e)).size+1) k
 have h2:(cvW w s e).cell? ⟨w.heap.size,k,none⟩=(bytesRow s (grownCap w s.size 0 e))[k]?:=h1
 rw [h2,bytesRow_at s _ k (by simpa using hk)]
 simp
theorem size_list (s:ByteArray) (l:List UInt8) (h:s.data.toList=l):s.size=l.length:=by
 rw [←h,Array.length_toList];rfl
theorem toList_list (s:ByteArray) (l:List UInt8) (h:s.data.toList=l):s.toList.isEmpty=l.isEmpty:=by
 rw [ByteArray.toList_eq,h]
theorem get_list (s:ByteArray) (l:List UInt8) (h:s.data.toList=l) (i:Nat) (hi:i < s.size) (hi2:i < l.length):s[i]=l[i]:=by
 subst h
 rw [Array.getElem_toList];rfl
theorem nil_list (s:ByteArray) (h:s.data.toList=[]):s=ByteArray.empty:=by
 obtain ⟨d⟩:=s
 have:d=#[]:=by simpa using h
 subst this;rfl
theorem tail_list (s:ByteArray) (c:UInt8) (t:List UInt8) (h:s.data.toList=c::t):(s.extract 1 s.size).data.toList=t:=by
 have h2:=size_list s _ h
 rw [List.length_cons] at h2
 rw [Lib.extract_data,h,List.drop_succ_cons,List.drop_zero,List.take_of_length_le (by omega)]
end Go.Afx
namespace Go.Afx
open Go Go.RowKit
theorem flatten_get {α:Type} {sz:Nat}:∀ (es:List (List α)),(∀ c∈es,c.length=sz)→∀ i r,r < sz→es.flatten[i*sz+r]?=(es[i]?).bind (·[r]?)
 | [],_,i,r,_=>by simp
 | c::es,h,i,r,hr=>by
  have hc:=h c (by simp)
  cases i with
  | zero =>
   simp only [List.flatten_cons,Nat.zero_mul,Nat.zero_add,List.getElem?_cons_zero,Option.bind_some]
   rw [List.getElem?_append_left (by omega)]
  | succ i =>
   simp only [List.flatten_cons,List.getElem?_cons_succ]
   rw [List.getElem?_append_right (by rw [hc,Nat.succ_mul];omega)]
   have:(i+1)*sz+r - c.length=i*sz+r:=by rw [hc,Nat.succ_mul];omega
   rw [this]
   exact flatten_get es (fun c hc=>h c (by simp [hc])) i r hr
theorem flatten_length {α:Type} {sz:Nat}:∀ (es:List (List α)),(∀ c∈es,c.length=sz)→es.flatten.length=es.length*sz
 | [],_=>by simp
 | c::es,h=>by
  have hc:=h c (by simp)
  rw [List.flatten_cons,List.length_append,flatten_length es (fun c hc=>h c (by simp [hc])),hc,List.length_cons,Nat.succ_mul]
  omega
theorem choose_list {α β:Type} {f:β→α} {R:β→Prop}:∀ (es:List α),(∀ c∈es,∃ b,c=f b∧R b)→∃ bs:List β,es=bs.map f∧∀ b∈bs,R b
 | [],_=>⟨[],rfl,by simp⟩
 | c::es,h=>by
  obtain ⟨b,hb,hr⟩:=h c (by simp)
  obtain ⟨bs,h1,h2⟩:=choose_list es (fun c hc=>h c (by simp [hc]))
  exact ⟨b::bs,by simp [hb,h1],by simpa using ⟨hr,h2⟩⟩
theorem list1 {α:Type} {l:List α} (h:l.length=1):∃ a0,l=[a0]:=by
 match l,h with
 | [a0],_=>exact ⟨a0,rfl⟩
theorem list2 {α:Type} {l:List α} (h:l.length=2):∃ a0 a1,l=[a0,a1]:=by
 match l,h with
 | [a0,a1],_=>exact ⟨a0,a1,rfl⟩
theorem list3 {α:Type} {l:List α} (h:l.length=3):∃ a0 a1 a2,l=[a0,a1,a2]:=by
 match l,h with
 | [a0,a1,a2],_=>exact ⟨a0,a1,a2,rfl⟩
theorem list4 {α:Type} {l:List α} (h:l.length=4):∃ a0 a1 a2 a3,l=[a0,a1,a2,a3]:=by
 match l,h with
 | [a0,a1,a2,a3],_=>exact ⟨a0,a1,a2,a3,rfl⟩
theorem list5 {α:Type} {l:List α} (h:l.length=5):∃ a0 a1 a2 a3 a4,l=[a0,a1,a2,a3,a4]:=by
 match l,h with
 | [a0,a1,a2,a3,a4],_=>exact ⟨a0,a1,a2,a3,a4,rfl⟩
theorem list6 {α:Type} {l:List α} (h:l.length=6):∃ a0 a1 a2 a3 a4 a5,l=[a0,a1,a2,a3,a4,a5]:=by
 match l,h with
 | [a0,a1,a2,a3,a4,a5],_=>exact ⟨a0,a1,a2,a3,a4,a5,rfl⟩
theorem Addr.add_add (a:Addr) (i j:Nat) (hs:a.spot=none):(a.add i).add j=⟨a.block,a.off+i+j,none⟩:=by
 obtain ⟨b,o,s⟩:=a
 simp only at hs
 subst hs
 rw [Addr.add_lit,Addr.add_lit]
section
variable {H : Type} {enc : TypeId × Value → H} {P : Program} {w : World}
theorem open_sl {t e:TypeId} {sz fuel:Nat} {v:Value} {x:DataW H × List MemPlace} (ht:P.underlying t=some (.slice e)) (hc:P.cellsOf e=sz) (hsz:0 < sz)
 (h:DataW.trod enc P w 0 (fun _=>true) true fuel t [v]=some x) (El:List Value→Prop) (hone:∀ c,El c→Ones c)
 (hel:∀ f c y,c.length=sz→DataW.trod enc P w 0 (fun _=>true) true f e c=some y→El c) :
 ∃ es:List (List Value),(∀ c∈es,c.length=sz∧El c)∧Sl w (fun _=>True) sz v es.length es.flatten:=by
 rcases DataW.trod_slice ht h with ⟨h1,_⟩|⟨a,len,cap,elems,rest,n,rfl,h1,_,_,hl,hm,hlen,hel2,_,_⟩
 ·obtain rfl:v=.slice none 0 0:=by simpa using h1
  exact ⟨[],by simp,by simp,Ones.nil,.inl ⟨none,0,rfl,rfl,Nat.zero_le _,fun _=>rfl⟩⟩
 ·obtain rfl:v=.slice (some a) len cap:=by simpa using h1
  have hget:∀ i,i < len→∃ c y,w.cells? 0 (a.add (i*sz)) sz=some c∧DataW.trod enc P w 0 (fun _=>true) true n e c=some y:=fun i hi=>by
   have h2:=hel2 i hi
   rw [hc,List.getElem?_eq_getElem (by omega)] at h2
   obtain ⟨c,h3,h4⟩:=Option.bind_eq_some_iff.1 h2
   exact ⟨c,_,h3,h4⟩
  have hes:∀ c∈(List.range len).map (fun i=>(w.cells? 0 (a.add (i*sz)) sz).getD []),c.length=sz∧El c:=by
   intro c hcm
   obtain ⟨i,hi,rfl⟩:=List.mem_map.1 hcm
   obtain ⟨c,y,h3,h4⟩:=hget i (by simpa using hi)
   rw [h3]
   have h5:=(World.cells?_some h3).2.1
   exact ⟨h5,hel _ _ _ h5 h4⟩
  refine ⟨_,hes,?_⟩
  have hlen2:=flatten_length _ (fun c hcm=>(hes c hcm).1)
  refine ⟨hlen2,fun u hu=>?_,?_⟩
  ·obtain ⟨c,hcm,huc⟩:=List.mem_flatten.1 hu
   exact hone c (hes c hcm).2 u huc
  ·simp only [List.length_map,List.length_range] at hlen2 ⊢
   rcases Nat.eq_zero_or_pos len with h0|hpos
   ·subst h0
    exact .inl ⟨some a,cap,rfl,rfl,hm,by simp⟩
   ·obtain ⟨c0,y0,h3,_⟩:=hget 0 hpos
    obtain ⟨_,h5,h6⟩:=World.cells?_some h3
    have h7:=h6 0 hsz
    have h8:(w.cell? a).isSome=true:=by
     have:(a.add (0*sz)).add 0=a:=by simp [Addr.add]
     rw [this] at h7
     rw [h7,List.getElem?_eq_getElem (by omega)]
     rfl
    have hspot:a.spot=none:=by
     unfold World.cell? at h8
     split at h8
     ·by_cases hs:a.spot.isSome=true
      ·simp [hs] at h8
      ·simpa using hs
     ·simp at h8
    have hblk:a.block < w.heap.size:=by
     obtain ⟨u,hu⟩:=Option.isSome_iff_exists.1 h8
     exact World.block_lt_of_cell? w a hu
    obtain ⟨b,o,s⟩:=a
    simp only at hspot hblk
    subst hspot
    refine .inr ⟨b,o,cap,rfl,hl,hm,trivial,hblk,fun j hj=>?_⟩
    have hj2:j < len*sz:=by rw [←hlen2];exact hj
    have hi:j / sz < len:=Nat.div_lt_of_lt_mul (by rw [Nat.mul_comm];exact hj2)
    have hr:j % sz < sz:=Nat.mod_lt _ hsz
    have hj3:j / sz*sz+j % sz=j:=by rw [Nat.mul_comm];exact Nat.div_add_mod j sz
    obtain ⟨c,y,h9,_⟩:=hget (j / sz) hi
    obtain ⟨_,h10,h11⟩:=World.cells?_some h9
    have h12:=h11 (j % sz) hr
    have h13:=flatten_get _ (fun c hcm=>(hes c hcm).1) (j / sz) (j % sz) hr
    rw [hj3] at h13
    rw [h13,List.getElem?_map,List.getElem?_range hi]
    simp only [Option.map_some,Option.bind_some,h9,Option.getD_some]
    rw [←h12,Addr.add_add _ _ _ rfl]
    simp only [Nat.add_assoc,hj3]
theorem open_ints_sl {t e:TypeId} {k:IntKind} {fuel:Nat} {v:Value} {x:DataW H × List MemPlace} (ht:P.underlying t=some (.slice e)) (he:P.underlying e=some (.int k)) (hc:P.cellsOf e=1)
 (h:DataW.trod enc P w 0 (fun _=>true) true fuel t [v]=some x) :
 ∃ l:List Int,Sl w (fun _=>True) 1 v l.length (l.map (Value.int k))∧∀ n∈l,(Lit.int k n).wf=true:=by
 obtain ⟨es,h1,h2⟩:=open_sl ht hc (by omega) h (fun c=>∃ n,c=[Value.int k n]∧(Lit.int k n).wf=true) (fun c ⟨n,hn,_⟩=>by subst hn;exact Ones.nil.cons rfl)
  (fun f c y hl hy=>by
   obtain ⟨n,rfl,_,hw⟩:=DataW.trod_int he hy
   exact ⟨n,rfl,hw⟩)
 obtain ⟨l,rfl,h4⟩:=choose_list (f:=fun n=>[Value.int k n]) es (fun c hcm=>(h1 c hcm).2)
 refine ⟨l,?_,h4⟩
 have e1:(l.map fun n=>[Value.int k n]).flatten=l.map (Value.int k):=by
  clear h2 h1 h4
  induction l with
  | nil=>rfl
  | cons a l ih=>simp [ih]
 rw [e1] at h2
 simpa using h2
theorem open_fields {t:TypeId} {l:List Field} {fuel:Nat} {c:List Value} {x:DataW H × List MemPlace} (ht:P.underlying t=some (.struct l.toArray)) (h:DataW.trod enc P w 0 (fun _=>true) true fuel t c=some x) :
 ∃ n,∀ (i:Nat) (f:Field),l[i]?=some f→∃ y,DataW.trod enc P w 0 (fun _=>true) true n f.type ((c.drop f.offset).take (P.cellsOf f.type))=some y:=by
 obtain ⟨xs,n,_,_,_,hlen,hf⟩:=DataW.trod_struct ht h
 refine ⟨n,fun i f hi=>?_⟩
 have hlt:i < l.length:=(List.getElem?_eq_some_iff.1 hi).1
 have hlen':xs.length=l.length:=by simpa using hlen
 exact ⟨xs[i],by rw [hf i f (by simpa using hi),List.getElem?_eq_getElem (by omega)]⟩
end
end Go.Afx
namespace Go.Proofs.YtnpplhkpnbonaaaGreat
open Go.RowKit Go.Afx
def ints (l:List Int):List Value:=l.map (Value.int .i64)
theorem ints_length (l:List Int):(ints l).length=l.length:=by simp [ints]
theorem ints_append (a b:List Int):ints (a++b)=ints a++ints b:=by simp [ints]
theorem ints_take (l:List Int) (n:Nat):(ints l).take n=ints (l.take n):=by simp [ints,List.map_take]
theorem ints_drop (l:List Int) (n:Nat):(ints l).drop n=ints (l.drop n):=by simp [ints,List.map_drop]
theorem ints_ones (l:List Int):Ones (ints l):=by
 intro u hu
 obtain ⟨x,_,rfl⟩:=List.mem_map.1 hu
 rfl
theorem elemU8:Elem Tryz.prog 80 5 1 1 (.int .u8 0) :=
 ⟨Tryz.underlying80,by kernel_rfl,rfl,by omega,by intro u hu;simp [Value.cells] at hu;subst hu;rfl⟩
def by8 (l:List UInt8):List Value:=l.map fun c=>.int .u8 (c.toNat:Int)
theorem by8_length (l:List UInt8):(by8 l).length=l.length:=by simp [by8]
theorem by8_append (a b:List UInt8):by8 (a++b)=by8 a++by8 b:=by simp [by8]
theorem by8_get (l:List UInt8) (k:Nat) (h:k < l.length):(by8 l)[k]?=some (.int .u8 (l[k].toNat:Int)):=by simp [by8,h]
theorem by8_ones (l:List UInt8):Ones (by8 l):=by
 intro u hu
 obtain ⟨x,_,rfl⟩:=List.mem_map.1 hu
 rfl
def bs (l:List UInt8):ByteArray:=⟨l.toArray⟩
theorem bs_append (a b:List UInt8):bs a++bs b=bs (a++b):=by
 apply ByteArray.ext
 simp [bs]
theorem bs_size (l:List UInt8):(bs l).size=l.length:=by
 show l.toArray.size=_
 simp
theorem bs_data (l:List UInt8):(bs l).data.toList=l:=by simp [bs]
theorem bs_nil:bs []=⟨#[]⟩:=rfl
theorem bs_of (s:ByteArray):bs s.data.toList=s:=rfl
theorem cv_byte (w:World) (x:Nat) (hx:x < 256):(convert 80 9 (.slice (some ⟨w.heap.size,0,none⟩) 1 1)).run Tryz.prog (w.alloc (.cells #[.int .u8 (x:Int)] 5))=.ok (.string (bs [UInt8.ofNat x])) (w.alloc (.cells #[.int .u8 (x:Int)] 5)) :=
 run_convert_bytes_back (P:=Tryz.prog) (w.alloc (.cells #[.int .u8 (x:Int)] 5)) 80 9 5 ⟨w.heap.size,0,none⟩ 1 [UInt8.ofNat x] Tryz.underlying80 Tryz.underlying5 Tryz.underlying9 (fun j hj=>by
  obtain rfl:j=0:=by simpa using hj
  have h1:(⟨w.heap.size,0,none⟩:Addr).add 0=⟨w.heap.size,0,none⟩:=Addr.add_lit _ _ _
  rw [h1]
  have h2:=(Blk.new w 5 [.int .u8 (x:Int)]).cell 0
  rw [show (w.alloc (.cells #[.int .u8 (x:Int)] 5))=(w.alloc (.cells [.int .u8 (x:Int)].toArray 5)) from rfl,h2]
  have h3:(UInt8.ofNat x).toNat=x:=by rw [UInt8.toNat_ofNat'];omega
  simp only [List.getElem?_cons_zero,List.getElem_cons_zero,h3])
theorem cv_block (w:World) (l:List UInt8):(convert 80 9 (.slice (some ⟨w.heap.size,0,none⟩) l.length l.length)).run Tryz.prog (w.alloc (.cells (by8 l).toArray 5))=.ok (.string (bs l)) (w.alloc (.cells (by8 l).toArray 5)) :=
 run_convert_bytes_back (P:=Tryz.prog) (w.alloc (.cells (by8 l).toArray 5)) 80 9 5 ⟨w.heap.size,0,none⟩ l.length l Tryz.underlying80 Tryz.underlying5 Tryz.underlying9 (fun j hj=>by
  have h1:(⟨w.heap.size,0,none⟩:Addr).add j=⟨w.heap.size,j,none⟩:=by rw [Addr.add_lit,Nat.zero_add]
  rw [h1,(Blk.new w 5 (by8 l)).cell j]
  exact by8_get l j hj)
theorem sl_string (w:World) (B:Nat→Prop) (v:Value) (l:List UInt8) (h:Sl w B 1 v l.length (by8 l)) :
 (convert 80 9 v).run Tryz.prog w=.ok (.string ⟨l.toArray⟩) w:=by
 rcases h.2.2 with ⟨p,cap,rfl,h0,_,hp⟩|⟨g,off,cap,rfl,_,_,_,_,hc⟩
 ·obtain rfl:l=[]:=List.eq_nil_of_length_eq_zero h0
  cases p with
  | none=>obtain rfl:=hp rfl;kernel_rfl
  | some a=>exact run_convert_bytes_back (P:=Tryz.prog) w 80 9 5 a cap [] Tryz.underlying80 Tryz.underlying5 Tryz.underlying9 (fun j hj=>absurd hj (Nat.not_lt_zero _))
 ·exact run_convert_bytes_back (P:=Tryz.prog) w 80 9 5 ⟨g,off,none⟩ cap l Tryz.underlying80 Tryz.underlying5 Tryz.underlying9 (fun j hj=>by
   rw [Addr.add_lit,hc j (by rw [by8_length];exact hj)]
   exact by8_get l j hj)
theorem one_byte (w:World) (c:UInt8):Sl (w.alloc (.cells #[.int .u8 (c.toNat:Int)] 5)) (fun _=>True) 1 (.slice (some ⟨w.heap.size,0,none⟩) 1 1) 1 (by8 [c]) :=
 (Own.made w 5 1 [.int .u8 (c.toNat:Int)] [] 1 1 rfl (Ones.nil.cons rfl) (Nat.le_refl _) (by simp [maxLen]) (by simp)).sl (fun _ _=>trivial)
theorem own_form {w:World} {e:TypeId} {sz:Nat} {v:Value} {n:Nat} {cs:List Value} (h:Own w e sz v n cs):∃ p cap,v=.slice p n cap∧n≤cap∧cap≤9223372036854775807 :=
 (h.sl (B:=fun _=>True) (fun _ _=>trivial)).form
@[go_sem] theorem eqlNilInts (w:World) (a:Option Addr) (n c:Nat):(binOp .eql 100 (.slice a n c) (.slice none 0 0)).run Tryz.prog w=.ok (.bool a.isNone) w:=Lib.run_eql_slice_nil w _ _ a n c 0 0 Tryz.underlying100
theorem elemInt:Elem Tryz.prog 100 3 1 8 (.int .i64 0) :=
 ⟨Tryz.underlying100,by kernel_rfl,rfl,by omega,by intro u hu;simp [Value.cells] at hu;subst hu;rfl⟩
theorem agree_bel {B:Nat→Prop} {b:Nat} {w w':World} (h:Below b w w') (hB:∀ k,B k→k < b):Agree B w w':=fun k _ hk=>h.cell (hB k hk)
theorem add64 (x y c:Int) (hx:0≤x) (hy:0≤y) (hc0:0≤c) (hc:c≤1) (w:World):(callFunc 122 #[.int .u64 x,.int .u64 y,.int .u64 c]).run Tryz.prog w =
 .ok (.value (.tuple #[.int .u64 ((x+y+c) % 18446744073709551616),.int .u64 ((x+y+c) / 18446744073709551616)])) w:=by
 rw [run_callFunc_extern Tryz.func122 (by kernel_rfl) (by kernel_rfl) (by kernel_rfl) (e:=add64Entry) (by kernel_rfl),run_add64 x y c hx hy hc0 hc]
 rfl
theorem add64_0 (x y:Int) (hx:0≤x) (hy:0≤y) (w:World):(callFunc 122 #[.int .u64 x,.int .u64 y,.int .u64 0]).run Tryz.prog w =
 .ok (.value (.tuple #[.int .u64 ((x+y) % 18446744073709551616),.int .u64 ((x+y) / 18446744073709551616)])) w:=by
 simpa using add64 x y 0 hx hy (Int.le_refl 0) (by decide) w
def bor (x y:Int):Int:=if x < y then 1 else 0
theorem bor_range (x y:Int):0≤bor x y∧bor x y≤1:=by unfold bor;split<;>decide
theorem sub64 (x y b:Int) (hx:0≤x) (hy:0≤y) (hy':y < 18446744073709551616) (hb0:0≤b) (hb:b≤1) (w:World):(callFunc 129 #[.int .u64 x,.int .u64 y,.int .u64 b]).run Tryz.prog w =
 .ok (.value (.tuple #[.int .u64 ((x - y - b) % 18446744073709551616),.int .u64 (bor x (y+b))])) w:=by
 obtain ⟨x,rfl⟩:=Int.eq_ofNat_of_zero_le hx
 obtain ⟨y,rfl⟩:=Int.eq_ofNat_of_zero_le hy
 obtain ⟨b,rfl⟩:=Int.eq_ofNat_of_zero_le hb0
 have e1:(((x+18446744073709551616 - y - b) % 18446744073709551616:Nat):Int)=((x:Int) - y - b) % 18446744073709551616:=by omega
 have e2:((if x < y+b then 1 else 0:Nat):Int)=bor x (y+b):=by unfold bor;split<;>split<;>omega
 rw [←e1,←e2]
 rw [run_callFunc_extern Tryz.func129 (by kernel_rfl) (by kernel_rfl) (by kernel_rfl) (e:=sub64Entry) (by kernel_rfl),run_sub64 x y b (by omega)]
 rfl
theorem sub64_0 (x y:Int) (hx:0≤x) (hy:0≤y) (hy':y < 18446744073709551616) (w:World):(callFunc 129 #[.int .u64 x,.int .u64 y,.int .u64 0]).run Tryz.prog w =
 .ok (.value (.tuple #[.int .u64 ((x - y) % 18446744073709551616),.int .u64 (bor x y)])) w:=by
 simpa using sub64 x y 0 hx hy hy' (Int.le_refl 0) (by decide) w
def loW (z:Int):Int:=z % 18446744073709551616
def hiW (z:Int):Int:=z / 18446744073709551616 % 18446744073709551616
theorem loW_range (z:Int):0≤loW z∧loW z < 18446744073709551616:=by unfold loW;omega
theorem hiW_range (z:Int):0≤hiW z∧hiW z < 18446744073709551616:=by unfold hiW;omega
theorem loW_add (x y:Int):(loW x+loW y) % 18446744073709551616=loW (x+y):=by unfold loW;omega
theorem hiW_add (x y:Int):(hiW x+hiW y+(loW x+loW y) / 18446744073709551616) % 18446744073709551616=hiW (x+y):=by unfold hiW loW;omega
theorem loW_sub (x y:Int):(loW x - loW y) % 18446744073709551616=loW (x - y):=by unfold loW;omega
theorem hiW_sub (x y:Int):(hiW x - hiW y - bor (loW x) (loW y)) % 18446744073709551616=hiW (x - y):=by unfold bor hiW loW;split<;>omega
theorem of_any (n:Int) (h1:-9223372036854775808≤n) (h2:n≤9223372036854775807) (w:World) :
 Calls Tryz.prog 107 #[.int .i64 n] w fun e w'=>e=.returned (.agg #[.int .u64 (hiW n),.int .u64 (loW n)])∧Below w.heap.size w w':=by
 go_enter Tryz.func107,Tryz.ntmps107
 go_wp2
 have e1:IntKind.u64.wrap (n / 9223372036854775808)=hiW n:=by rw [IntKind.wrap_u64];unfold hiW;omega
 have e2:IntKind.u64.wrap n=loW n:=by rw [IntKind.wrap_u64];rfl
 rw [e1,e2]
 refine bodyPost_ret (v:=.agg #[.int .u64 (hiW n),.int .u64 (loW n)]) (by simp [results,Tryz.results107,go_sem]) rfl ⟨rfl,?_⟩
 repeat (with_reducible first|exact Below.refl _ _|apply Below.drew|(refine Below.alloc ?_ (by first|omega|(simp;omega)|simp) _)|(refine Below.setCell ?_ (by first|omega|(simp;omega)|simp) _))
theorem plus_any (x y:Int) (w:World) :
 Calls Tryz.prog 106 #[.agg #[.int .u64 (hiW x),.int .u64 (loW x)],.agg #[.int .u64 (hiW y),.int .u64 (loW y)]] w fun e w'=>e=.returned (.agg #[.int .u64 (hiW (x+y)),.int .u64 (loW (x+y))])∧Below w.heap.size w w':=by
 have a1:=loW_range x
 have a2:=loW_range y
 have a3:=hiW_range x
 have a4:=hiW_range y
 have E1:=Lib.hid (loW_add x y)
 have E2:=Lib.hid (hiW_add x y)
 generalize loW x=xl at *
 generalize loW y=yl at *
 generalize hiW x=xh at *
 generalize hiW y=yh at *
 have k0:0≤(xl+yl) / 18446744073709551616:=by omega
 have k1:(xl+yl) / 18446744073709551616≤1:=by omega
 go_enter Tryz.func106,Tryz.ntmps106
 go_wp2_with (first|simp only [add64_0 xl yl a1.1 a2.1]|simp only [add64 xh yh _ a3.1 a4.1 k0 k1])
 rw [E1.out,E2.out]
 refine bodyPost_ret (v:=.agg #[.int .u64 (hiW (x+y)),.int .u64 (loW (x+y))]) (by simp [results,Tryz.results106,go_sem]) rfl ⟨rfl,?_⟩
 repeat (with_reducible first|exact Below.refl _ _|apply Below.drew|(refine Below.alloc ?_ (by first|omega|(simp;omega)|simp) _)|(refine Below.setCell ?_ (by first|omega|(simp;omega)|simp) _))
theorem minus_any (x y:Int) (w:World) :
 Calls Tryz.prog 121 #[.agg #[.int .u64 (hiW x),.int .u64 (loW x)],.agg #[.int .u64 (hiW y),.int .u64 (loW y)]] w fun e w'=>e=.returned (.agg #[.int .u64 (hiW (x - y)),.int .u64 (loW (x - y))])∧Below w.heap.size w w':=by
 have a1:=loW_range x
 have a2:=loW_range y
 have a3:=hiW_range x
 have a4:=hiW_range y
 have E1:=Lib.hid (loW_sub x y)
 have E2:=Lib.hid (hiW_sub x y)
 generalize loW x=xl at *
 generalize loW y=yl at *
 generalize hiW x=xh at *
 generalize hiW y=yh at *
 have k:=bor_range xl yl
 go_enter Tryz.func121,Tryz.ntmps121
 go_wp2_with (first|simp only [sub64_0 xl yl a1.1 a2.1 a2.2]|simp only [sub64 xh yh _ a3.1 a4.1 a4.2 k.1 k.2])
 rw [E1.out,E2.out]
 refine bodyPost_ret (v:=.agg #[.int .u64 (hiW (x - y)),.int .u64 (loW (x - y))]) (by simp [results,Tryz.results121,go_sem]) rfl ⟨rfl,?_⟩
 repeat (with_reducible first|exact Below.refl _ _|apply Below.drew|(refine Below.alloc ?_ (by first|omega|(simp;omega)|simp) _)|(refine Below.setCell ?_ (by first|omega|(simp;omega)|simp) _))
def fits (z:Int):Prop:=-9223372036854775808≤z∧z≤9223372036854775807
instance (z:Int):Decidable (fits z):=inferInstanceAs (Decidable (_∧_))
def shortN (z:Int):Int:=if fits z then z else 0
def shortE (z:Int):Int:=if fits z then 0 else 2
theorem short_any (z:Int) (hz1:-85070591730234615865843651857942052864≤z) (hz2:z≤85070591730234615865843651857942052864) (w:World) :
 Calls Tryz.prog 108 #[.agg #[.int .u64 (hiW z),.int .u64 (loW z)]] w fun e w'=>e=.returned (.tuple #[.int .i64 (shortN z),.int .i64 (shortE z)])∧Below w.heap.size w w':=by
 have a1:=loW_range z
 have hk:∃ k:Int,IntKind.i64.wrap (loW z)=k∧-9223372036854775808≤k∧k≤9223372036854775807∧loW k=loW z:=by
  refine ⟨_,rfl,?_⟩
  rw [IntKind.wrap_i64]
  unfold loW
  omega
 obtain ⟨k,hk1,hk2,hk3,hk4⟩:=hk
 have hof:=Lib.hid (fun w=>of_any k hk2 hk3 w)
 have hk5:(hiW z=hiW k∧z=k∧fits z)∨(¬ hiW z=hiW k∧¬ fits z):=by
  unfold fits
  unfold hiW loW at *
  omega
 have HK4:=Lib.hid hk4
 rcases hk5 with ⟨h5,h6,h7⟩|⟨h5,h7⟩
 ·have e1:shortN z=k:=by unfold shortN;rw [if_pos h7];exact h6
  have e2:shortE z=0:=by unfold shortE;rw [if_pos h7]
  rw [e1,e2]
  have H5:=Lib.hid h5
  clear h5 h6 h7 e1 e2 hk4
  generalize hiW z=zh at *
  generalize loW z=zl at *
  go_enter Tryz.func108,Tryz.ntmps108
  go_wp2
  refine wp_region_lit_plan [] [(1,0),(0,2),(2,1),(3,0),(4,3),(5,0)] (fun k=>k=w.heap.size) (by kernel_rfl) (by kernel_rfl) (fun c a d v w h=>by cases d<;>exact h) ?_
  go_wp2_with (first
   | (refine stp ?_)
   | (go_at_call 107;refine (hof.out _).mono ?_;rintro e w2 ⟨rfl,hb2⟩;rw [HK4.out,←H5.out];
      have hag:Agree (fun k=>k=w.heap.size) ((w.alloc (.cells #[.int .u64 zh,.int .u64 zl] 128)).drew) w2:=agree_bel hb2 (by intro k hk;subst hk;simp);
      have hc1:w2.cell? ⟨w.heap.size,1,none⟩=some (.int .u64 zl):=(hag w.heap.size 1 rfl).trans (by go_simp)))
  go_ret2
  refine ⟨rfl,Below.trans ?_ (hb2.mono (by simp))⟩
  repeat (with_reducible first|exact Below.refl _ _|apply Below.drew|(refine Below.alloc ?_ (by first|omega|(simp;omega)|simp) _)|(refine Below.setCell ?_ (by first|omega|(simp;omega)|simp) _))
 ·have e1:shortN z=0:=by unfold shortN;rw [if_neg h7]
  have e2:shortE z=2:=by unfold shortE;rw [if_neg h7]
  rw [e1,e2]
  have h5':(hiW z == hiW k)=false:=by rw [beq_eq_false_iff_ne];exact h5
  clear h5 h7 e1 e2 hk4
  generalize hiW z=zh at *
  generalize loW z=zl at *
  go_enter Tryz.func108,Tryz.ntmps108
  go_wp2
  refine wp_region_lit_plan [] [(1,0),(0,2),(2,1),(3,0),(4,3),(5,0)] (fun k=>k=w.heap.size) (by kernel_rfl) (by kernel_rfl) (fun c a d v w h=>by cases d<;>exact h) ?_
  go_wp2_with (first
   | (refine stp ?_)
   | (go_at_call 107;refine (hof.out _).mono ?_;rintro e w2 ⟨rfl,hb2⟩;rw [HK4.out];
      have hag:Agree (fun k=>k=w.heap.size) ((w.alloc (.cells #[.int .u64 zh,.int .u64 zl] 128)).drew) w2:=agree_bel hb2 (by intro k hk;subst hk;simp)))
  go_ret2
  refine ⟨rfl,Below.trans ?_ (hb2.mono (by simp))⟩
  repeat (with_reducible first|exact Below.refl _ _|apply Below.drew|(refine Below.alloc ?_ (by first|omega|(simp;omega)|simp) _)|(refine Below.setCell ?_ (by first|omega|(simp;omega)|simp) _))
def IsTot (w:World) (b:Nat) (z n:Int):Prop:=Blk w b 130 [.int .u64 (hiW z),.int .u64 (loW z),.int .i64 n]
theorem sum_next (l:List Int) (i:Nat) (h:i < l.length):(l.take (i+1)).sum=(l.take i).sum+l[i]:=by
 have e:(l.take i++[l[i]]).sum=(l.take (i+1)).sum:=by rw [List.take_append_getElem h]
 rw [←e,List.sum_append,List.sum_cons,List.sum_nil,Int.add_zero]
theorem put_tot (w:World) (b:Nat) (z n:Int) (v:Value) (l:List Int) (hb:IsTot w b z n) (hl:Sl w (fun k=>k≠b) 1 v l.length (ints l)) (hfit:∀ x∈l,fits x) (hn1:-1000000≤n) (hn2:n≤1000000) (hll:l.length≤1000000) :
 Calls Tryz.prog 95 #[.pointer (some ⟨b,0,none⟩),v] w fun e w'=>e=.returned (.tuple #[])∧IsTot w' b (z+l.sum) (n+l.length)∧Only (fun k=>k=b) w w':=by
 obtain ⟨p,cap,rfl,hc1,hc2⟩:=hl.form
 have HB:=Lib.hid hb
 have HL:=Lib.hid hl
 have HF:=Lib.hid hfit
 clear hb hl hfit
 go_enter Tryz.func95,Tryz.ntmps95
 go_wp2
 go_loopw [10] (fun i wr=>∃ k:Nat,i=.int .i64 k∧k≤l.length∧IsTot wr b (z+(l.take k).sum) n∧Only (fun k=>k=b) w wr) (fun i _=>l.length - (intOf i).toNat)
 case atStart=>exact ⟨0,rfl,Nat.zero_le _,by simpa using HB.out,Only.refl _ _⟩
 case round =>
  obtain ⟨k,rfl,hk,ht,ho⟩:=hrel
  have hlt:=ht.lt
  by_cases hka:k < l.length
  ·obtain ⟨g,off,cap',hv,_,_,hgb,hglt,hc⟩:=HL.out.place (by omega)
   cases hv
   have hc0:w.cell? ⟨g,off+k,none⟩=some (.int .i64 l[k]):=by rw [hc k (by simpa [ints] using hka)];simp [ints,hka]
   have hck:wr.cell? ⟨g,off+k,none⟩=some (.int .i64 l[k]):=(ho.cell (p:=⟨g,off+k,none⟩) hglt hgb).trans hc0
   have hfx:=HF.out l[k] (List.getElem_mem hka)
   have HX:=Lib.hid (sum_next l k hka)
   generalize l[k]=x at *
   have HOF:=Lib.hid (fun w=>of_any x hfx.1 hfx.2 w)
   generalize hz:z+(l.take k).sum=zk at *
   have HZ:=Lib.hid hz
   have t0:wr.cell? ⟨b,0,none⟩=some (.int .u64 (hiW zk)):=ht.cell 0
   have t1:wr.cell? ⟨b,1,none⟩=some (.int .u64 (loW zk)):=ht.cell 1
   have HT:=Lib.hid ht
   have HO:=Lib.hid ho
   clear ht ho hc hfx hz hc0
   go_wp2
   refine wp_region_lit_plan [] [(0,0),(1,0),(2,0),(3,0),(5,0),(4,2),(6,3),(7,4),(8,0),(9,0),(10,4)] (fun k=>k=b) (by kernel_rfl) (by kernel_rfl) (fun c a d v w h=>by cases d<;>exact h) ?_
   go_wp2_with (first
    | (refine stp ?_)
    | (go_at_call 107;refine (HOF.out _).mono ?_;rintro e w2 ⟨rfl,hb2⟩;have hag:Agree (fun k=>k=b) wr.drew w2:=agree_bel hb2 (by intro k hk;subst hk;exact hlt))
    | (go_at_call 106;refine (plus_any zk x _).mono ?_;rintro e w3 ⟨rfl,hb3⟩;have ht3:=(HT.out.drew.below hb2).below hb3;have hf3:∀ i,w3.frozen? ⟨b,i,none⟩=false:=ht3.frozen;
       have t03:w3.cell? ⟨b,0,none⟩=some (.int .u64 (hiW zk)):=ht3.cell 0;have t13:w3.cell? ⟨b,1,none⟩=some (.int .u64 (loW zk)):=ht3.cell 1;have HT3:=Lib.hid ht3;clear ht3))
   have hzx:zk+x=z+(l.take (k+1)).sum:=by have:=HX.out;have:=HZ.out;omega
   have HZX:=Lib.hid hzx
   clear hzx
   go_roundw
   case rel =>
    refine ⟨k+1,by go_num,by omega,?_,?_⟩
    ·rw [←HZX.out]
     exact (HT3.out.set 0 _).set 1 _
    ·have ho3:Only (fun k=>k=b) w w3:=(HO.out.drew.trans (Only.of_none hb2) (fun _ _ h=>h)).trans (Only.of_none hb3) (fun _ _ h=>h)
     exact (ho3.setCell (fun _=>rfl) _).setCell (fun _=>rfl) _
   case measure=>simp [intOf];omega
  ·have hkl:k=l.length:=by omega
   have hz:z+(l.take k).sum=z+l.sum:=by rw [hkl,List.take_length]
   rw [hz] at ht
   have t2:wr.cell? ⟨b,2,none⟩=some (.int .i64 n):=ht.cell 2
   have hf:∀ i,wr.frozen? ⟨b,i,none⟩=false:=ht.frozen
   have HT:=Lib.hid ht
   have HO:=Lib.hid ho
   clear ht ho hkl hz
   go_wp2
   go_end0
   exact ⟨rfl,HT.out.set 2 _,HO.out.setCell (fun _=>rfl) _⟩
theorem take_tot (w:World) (b:Nat) (z n:Int) (v:Value) (l:List Int) (hb:IsTot w b z n) (hl:Sl w (fun k=>k≠b) 1 v l.length (ints l)) (hfit:∀ x∈l,fits x) (hn1:-1000000≤n) (hn2:n≤1000000) (hll:l.length≤1000000) :
 Calls Tryz.prog 105 #[.pointer (some ⟨b,0,none⟩),v] w fun e w'=>e=.returned (.tuple #[])∧IsTot w' b (z - l.sum) (n - l.length)∧Only (fun k=>k=b) w w':=by
 obtain ⟨p,cap,rfl,hc1,hc2⟩:=hl.form
 have HB:=Lib.hid hb
 have HL:=Lib.hid hl
 have HF:=Lib.hid hfit
 clear hb hl hfit
 go_enter Tryz.func105,Tryz.ntmps105
 go_wp2
 go_loopw [10] (fun i wr=>∃ k:Nat,i=.int .i64 k∧k≤l.length∧IsTot wr b (z - (l.take k).sum) n∧Only (fun k=>k=b) w wr) (fun i _=>l.length - (intOf i).toNat)
 case atStart=>exact ⟨0,rfl,Nat.zero_le _,by simpa using HB.out,Only.refl _ _⟩
 case round =>
  obtain ⟨k,rfl,hk,ht,ho⟩:=hrel
  have hlt:=ht.lt
  by_cases hka:k < l.length
  ·obtain ⟨g,off,cap',hv,_,_,hgb,hglt,hc⟩:=HL.out.place (by omega)
   cases hv
   have hc0:w.cell? ⟨g,off+k,none⟩=some (.int .i64 l[k]):=by rw [hc k (by simpa [ints] using hka)];simp [ints,hka]
   have hck:wr.cell? ⟨g,off+k,none⟩=some (.int .i64 l[k]):=(ho.cell (p:=⟨g,off+k,none⟩) hglt hgb).trans hc0
   have hfx:=HF.out l[k] (List.getElem_mem hka)
   have HX:=Lib.hid (sum_next l k hka)
   generalize l[k]=x at *
   have HOF:=Lib.hid (fun w=>of_any x hfx.1 hfx.2 w)
   generalize hz:z - (l.take k).sum=zk at *
   have HZ:=Lib.hid hz
   have t0:wr.cell? ⟨b,0,none⟩=some (.int .u64 (hiW zk)):=ht.cell 0
   have t1:wr.cell? ⟨b,1,none⟩=some (.int .u64 (loW zk)):=ht.cell 1
   have HT:=Lib.hid ht
   have HO:=Lib.hid ho
   clear ht ho hc hfx hz hc0
   go_wp2
   refine wp_region_lit_plan [] [(0,0),(1,0),(2,0),(3,0),(5,0),(4,2),(6,3),(7,4),(8,0),(9,0),(10,4)] (fun k=>k=b) (by kernel_rfl) (by kernel_rfl) (fun c a d v w h=>by cases d<;>exact h) ?_
   go_wp2_with (first
    | (refine stp ?_)
    | (go_at_call 107;refine (HOF.out _).mono ?_;rintro e w2 ⟨rfl,hb2⟩;have hag:Agree (fun k=>k=b) wr.drew w2:=agree_bel hb2 (by intro k hk;subst hk;exact hlt))
    | (go_at_call 121;refine (minus_any zk x _).mono ?_;rintro e w3 ⟨rfl,hb3⟩;have ht3:=(HT.out.drew.below hb2).below hb3;have hf3:∀ i,w3.frozen? ⟨b,i,none⟩=false:=ht3.frozen;
       have t03:w3.cell? ⟨b,0,none⟩=some (.int .u64 (hiW zk)):=ht3.cell 0;have t13:w3.cell? ⟨b,1,none⟩=some (.int .u64 (loW zk)):=ht3.cell 1;have HT3:=Lib.hid ht3;clear ht3))
   have hzx:zk - x=z - (l.take (k+1)).sum:=by have:=HX.out;have:=HZ.out;omega
   have HZX:=Lib.hid hzx
   clear hzx
   go_roundw
   case rel =>
    refine ⟨k+1,by go_num,by omega,?_,?_⟩
    ·rw [←HZX.out]
     exact (HT3.out.set 0 _).set 1 _
    ·have ho3:Only (fun k=>k=b) w w3:=(HO.out.drew.trans (Only.of_none hb2) (fun _ _ h=>h)).trans (Only.of_none hb3) (fun _ _ h=>h)
     exact (ho3.setCell (fun _=>rfl) _).setCell (fun _=>rfl) _
   case measure=>simp [intOf];omega
  ·have hkl:k=l.length:=by omega
   have hz:z - (l.take k).sum=z - l.sum:=by rw [hkl,List.take_length]
   rw [hz] at ht
   have t2:wr.cell? ⟨b,2,none⟩=some (.int .i64 n):=ht.cell 2
   have hf:∀ i,wr.frozen? ⟨b,i,none⟩=false:=ht.frozen
   have HT:=Lib.hid ht
   have HO:=Lib.hid ho
   clear ht ho hkl hz
   go_wp2
   go_end0
   exact ⟨rfl,HT.out.set 2 _,HO.out.setCell (fun _=>rfl) _⟩
theorem put_nil (w:World) (p:Option Addr) (n cap:Nat):Calls Tryz.prog 95 #[.pointer none,.slice p n cap] w fun e w'=>e=.returned (.tuple #[])∧w=w':=by
 go_enter Tryz.func95,Tryz.ntmps95
 go_wp2
 exact bodyPost_ret (v:=.tuple #[]) (by simp [results,Tryz.results95,go_sem]) rfl ⟨rfl,rfl⟩
theorem take_nilT (w:World) (p:Option Addr) (n cap:Nat):Calls Tryz.prog 105 #[.pointer none,.slice p n cap] w fun e w'=>e=.returned (.tuple #[])∧w=w':=by
 go_enter Tryz.func105,Tryz.ntmps105
 go_wp2
 exact bodyPost_ret (v:=.tuple #[]) (by simp [results,Tryz.results105,go_sem]) rfl ⟨rfl,rfl⟩
def near (z:Int):Prop:=-85070591730234615865843651857942052864≤z∧z≤85070591730234615865843651857942052864
theorem sum_tot (w:World) (b:Nat) (z n:Int) (hb:IsTot w b z n) (hz:near z) :
 Calls Tryz.prog 96 #[.pointer (some ⟨b,0,none⟩)] w fun e w'=>e=.returned (.tuple #[.int .i64 (shortN z),.int .i64 (shortE z)])∧Below w.heap.size w w':=by
 have HS:=Lib.hid (fun w=>short_any z hz.1 hz.2 w)
 have t0:w.cell? ⟨b,0,none⟩=some (.int .u64 (hiW z)):=hb.cell 0
 have t1:w.cell? ⟨b,1,none⟩=some (.int .u64 (loW z)):=hb.cell 1
 clear hb hz
 generalize shortN z=sn at *
 generalize shortE z=se at *
 go_enter Tryz.func96,Tryz.ntmps96
 go_wp2_with (go_at_call 108;refine (HS.out _).mono ?_;rintro e w2 ⟨rfl,hb2⟩)
 go_ret2
 exact ⟨rfl,hb2⟩
theorem sum_nil (w:World):Calls Tryz.prog 96 #[.pointer none] w fun e w'=>e=.returned (.tuple #[.int .i64 0,.int .i64 0])∧w=w':=by
 go_enter Tryz.func96,Tryz.ntmps96
 go_wp2
 go_ret2
 exact ⟨rfl,rfl⟩
theorem count_tot (w:World) (b:Nat) (z n:Int) (hb:IsTot w b z n):Calls Tryz.prog 92 #[.pointer (some ⟨b,0,none⟩)] w fun e w'=>e=.returned (.int .i64 n)∧w=w':=by
 have t2:w.cell? ⟨b,2,none⟩=some (.int .i64 n):=hb.cell 2
 clear hb
 go_enter Tryz.func92,Tryz.ntmps92
 go_wp2
 go_ret
 exact ⟨rfl,rfl⟩
theorem count_nil (w:World):Calls Tryz.prog 92 #[.pointer none] w fun e w'=>e=.returned (.int .i64 0)∧w=w':=by
 go_enter Tryz.func92,Tryz.ntmps92
 go_wp2
 go_ret
 exact ⟨rfl,rfl⟩
theorem sum_range:∀ (l:List Int),(∀ x∈l,fits x)→-9223372036854775808*(l.length:Int)≤l.sum∧l.sum≤9223372036854775808*(l.length:Int)
 | [],_=>by simp
 | x::l,h=>by
  have h1:=sum_range l (fun y hy=>h y (by simp [hy]))
  have h2:=h x (by simp)
  unfold fits at h2
  rw [List.sum_cons,List.length_cons]
  omega
theorem add_any (w:World) (v:Value) (l:List Int) (hl:Sl w (fun _=>True) 1 v l.length (ints l)) (hfit:∀ x∈l,fits x) (hll:l.length≤1000000) :
 Calls Tryz.prog 97 #[v] w fun e w'=>e=.returned (.tuple #[.int .i64 (shortN l.sum),.int .i64 (shortE l.sum)])∧Below w.heap.size w w':=by
 have hr:=sum_range l hfit
 have hn:near l.sum:=by unfold near;omega
 have hz0:Blk (w.alloc (.cells #[.int .u64 0,.int .u64 0,.int .i64 0] 130)) w.heap.size 130 [.int .u64 0,.int .u64 0,.int .i64 0]:=Blk.new _ _ _
 have ht:IsTot (w.alloc (.cells #[.int .u64 0,.int .u64 0,.int .i64 0] 130)) w.heap.size 0 0:=hz0
 have hl2:Sl (w.alloc (.cells #[.int .u64 0,.int .u64 0,.int .i64 0] 130)) (fun k=>k≠w.heap.size) 1 v l.length (ints l) :=
  hl.mono (by simp) (fun k _ hk=>heap_alloc_old w _ hk) (fun k _ hk=>by omega)
 have HP:=Lib.hid (put_tot _ w.heap.size 0 0 v l ht hl2 hfit (by omega) (by omega) hll)
 obtain ⟨p,cap,rfl,_,_⟩:=hl.form
 clear hr hz0 ht hl2 hl
 rw [Int.zero_add,Int.zero_add] at HP
 generalize hs:l.sum=z at *
 have HSM:=Lib.hid (fun (w:World) (b:Nat) (n:Int) (h:IsTot w b z n)=>sum_tot w b z n h hn)
 clear hs
 go_enter Tryz.func97,Tryz.ntmps97
 go_wp2_with (first
  | (go_at_call 95;refine HP.out.mono ?_;rintro e w2 ⟨rfl,ht2,ho2⟩;have HT2:=Lib.hid ht2;clear ht2)
  | (go_at_call 96;refine (HSM.out _ _ _ HT2.out).mono ?_;rintro e w3 ⟨rfl,hb3⟩))
 go_ret2
 have hb2:Below w.heap.size w w2:=((Below.refl w.heap.size w).alloc (Nat.le_refl _) _).trans (ho2.below (by simp) (fun i hi=>by omega))
 exact ⟨rfl,hb2.trans (hb3.mono hb2.size)⟩
theorem one_sl (w:World) (x:Int) (b:Nat) (hb:b≠w.heap.size):Sl (w.alloc (.cells #[.int .i64 x] 2)) (fun k=>k≠b) 1 (.slice (some ⟨w.heap.size,0,none⟩) 1 1) 1 (ints [x]) :=
 (Own.made w 2 1 (ints [x]) [] 1 1 rfl (ints_ones _) (Nat.le_refl _) (by simp [maxLen]) (by simp [ints])).sl (fun k hk=>by simp [Value.ownBlock] at hk;omega)
theorem sub_any (w:World) (a:Int) (ha:fits a) (v:Value) (l:List Int) (hl:Sl w (fun _=>True) 1 v l.length (ints l)) (hfit:∀ x∈l,fits x) (hll:l.length≤1000000) :
 Calls Tryz.prog 91 #[.int .i64 a,v] w fun e w'=>e=.returned (.tuple #[.int .i64 (shortN (a - l.sum)),.int .i64 (shortE (a - l.sum))])∧Below w.heap.size w w':=by
 have hr:=sum_range l hfit
 have hn:near (a - l.sum):=by unfold near;unfold fits at ha;omega
 have ht:IsTot ((w.alloc (.cells #[.int .u64 0,.int .u64 0,.int .i64 0] 130)).alloc (.cells #[.int .i64 a] 2)) w.heap.size 0 0:=(Blk.new w 130 [.int .u64 0,.int .u64 0,.int .i64 0]).alloc _
 have hs1:=one_sl (w.alloc (.cells #[.int .u64 0,.int .u64 0,.int .i64 0] 130)) a w.heap.size (by simp)
 have HP:=Lib.hid (put_tot _ w.heap.size 0 0 _ [a] ht hs1 (by simpa using ha) (by omega) (by omega) (by simp))
 have hl2:Sl ((w.alloc (.cells #[.int .u64 0,.int .u64 0,.int .i64 0] 130)).alloc (.cells #[.int .i64 a] 2)) (fun k=>k≠w.heap.size∧k < w.heap.size) 1 v l.length (ints l) :=
  hl.mono (by simp;omega) (fun k _ hk=>(heap_alloc_old _ _ (by simp;omega)).trans (heap_alloc_old w _ hk)) (fun k _ hk=>by omega)
 have HL2:=Lib.hid hl2
 obtain ⟨p,cap,rfl,_,_⟩:=hl.form
 clear hr ht hl2 hl hs1
 have hz:(0:Int)+[a].sum=a:=by simp
 have hk:(0:Int)+([a]:List Int).length=1:=by simp
 rw [hz,hk] at HP
 clear hz hk
 have hsz:(w.alloc (.cells #[.int .u64 0,.int .u64 0,.int .i64 0] 130)).heap.size=w.heap.size+1:=by simp
 rw [hsz] at HP
 clear hsz
 have HP2:RowKit.Hid (Calls Tryz.prog 95 #[.pointer (some ⟨w.heap.size,0,none⟩),.slice (some ⟨w.heap.size+1,0,none⟩) 1 1] ((w.alloc (.cells #[.int .u64 0,.int .u64 0,.int .i64 0] 130)).alloc (.cells #[.int .i64 a] 2)) fun e w'=>e=.returned (.tuple #[])∧IsTot w' w.heap.size a 1∧Only (fun k=>k=w.heap.size) ((w.alloc (.cells #[.int .u64 0,.int .u64 0,.int .i64 0] 130)).alloc (.cells #[.int .i64 a] 2)) w'):=HP
 clear HP
 have HSM:=Lib.hid (fun (w:World) (b:Nat) (n:Int) (h:IsTot w b (a - l.sum) n)=>sum_tot w b _ n h hn)
 have HTK:=Lib.hid (fun (w2:World) (b:Nat) (h:IsTot w2 b a 1) (hs:Sl w2 (fun k=>k≠b) 1 (.slice p l.length cap) l.length (ints l))=>take_tot w2 b a 1 _ l h hs hfit (by omega) (by omega) hll)
 clear ha hn hfit
 go_enter Tryz.func91,Tryz.ntmps91
 go_wp2_with (first
  | (go_at_call 95;refine HP2.out.mono ?_;clear HP2;rintro e w2 ⟨rfl,ht2,ho2⟩;have HT2:=Lib.hid ht2;have HO2:=Lib.hid ho2;clear ht2 ho2)
  | (go_at_call 105;refine (HTK.out w2 w.heap.size HT2.out ((HL2.out.only HO2.out (fun k hk=>hk.1)).mono (Nat.le_refl _) (fun _ _ _=>rfl) (fun k hk _=>hk.1))).mono ?_;rintro e w3 ⟨rfl,ht3,ho3⟩;have HT3:=Lib.hid ht3;clear ht3)
  | (go_at_call 96;refine (HSM.out _ _ _ HT3.out).mono ?_;rintro e w4 ⟨rfl,hb4⟩))
 go_ret2
 have hb2:Below w.heap.size w w2:=(((Below.refl w.heap.size w).alloc (Nat.le_refl _) _).alloc (by simp) _).trans (HO2.out.below (by simp;omega) (fun i hi=>by omega))
 have hb3:=hb2.trans (ho3.below hb2.size (fun i hi=>by omega))
 exact ⟨rfl,hb3.trans (hb4.mono hb3.size)⟩
theorem neg_any (w:World) (a:Int) (ha:fits a) :
 Calls Tryz.prog 73 #[.int .i64 a] w fun e w'=>e=.returned (.tuple #[.int .i64 (shortN (-a)),.int .i64 (shortE (-a))])∧Below w.heap.size w w':=by
 have hs1:Sl (w.alloc (.cells #[.int .i64 a] 2)) (fun _=>True) 1 (.slice (some ⟨w.heap.size,0,none⟩) 1 1) [a].length (ints [a]):=(one_sl w a (w.heap.size+1) (by omega)).mono (Nat.le_refl _) (fun _ _ _=>rfl) (fun _ _ _=>trivial)
 have HS:=Lib.hid (sub_any _ 0 (by unfold fits;omega) _ [a] hs1 (by simpa using ha) (by simp))
 have hz:(0:Int) - [a].sum=-a:=by simp
 rw [hz] at HS
 clear hs1 hz ha
 generalize shortN (-a)=sn at *
 generalize shortE (-a)=se at *
 go_enter Tryz.func73,Tryz.ntmps73
 go_wp2_with (go_at_call 91;refine HS.out.mono ?_;rintro e w2 ⟨rfl,hb2⟩)
 go_ret2
 exact ⟨rfl,((Below.refl w.heap.size w).alloc (Nat.le_refl _) _).trans (hb2.mono (by simp))⟩
def dvN (a b:Int):Int:=if b=0 then 0 else if b=-1 then shortN (-a) else a.fdiv b
def dvE (a b:Int):Int:=if b=0 then 3 else if b=-1 then shortE (-a) else 0
def mdN (a b:Int):Int:=if b=0 then 0 else if b=-1 then 0 else a.fmod b
def mdE (b:Int):Int:=if b=0 then 3 else 0
theorem tdiv_fits (a b:Int) (ha:fits a) (hb:b≠-1):fits (a.tdiv b):=by
 unfold fits at *
 have h:=Int.natAbs_tdiv a b
 by_cases h2:b.natAbs≤1
 ·have:b=0∨b=1:=by omega
  rcases this with rfl|rfl
  ·simp
  ·simpa using ha
 ·have h3:a.natAbs / b.natAbs≤a.natAbs / 2:=Nat.div_le_div_left (by omega) (by omega)
  have h4:a.natAbs.div b.natAbs≤a.natAbs / 2:=h3
  rw [←h] at h4
  omega
theorem tdiv_low (a b:Int) (ha:fits a) (hb:b≠-1) (hr:a.tmod b≠0):b≠0→-9223372036854775808 < a.tdiv b:=by
 unfold fits at *
 have h:=Int.natAbs_tdiv a b
 intro h0
 by_cases h2:b.natAbs≤1
 ·have:b=1:=by omega
  subst this
  simp at hr
 ·have h3:a.natAbs / b.natAbs≤a.natAbs / 2:=Nat.div_le_div_left (by omega) (by omega)
  have h4:a.natAbs.div b.natAbs≤a.natAbs / 2:=h3
  rw [←h] at h4
  omega
theorem tmod_near (a b:Int):(a.tmod b).natAbs≤a.natAbs∧(a≤0→a.tmod b≤0):=by
 refine ⟨?_,fun h=>?_⟩
 ·rw [Int.natAbs_tmod];exact Nat.mod_le _ _
 ·have:=Int.tmod_nonneg b (a:=-a) (by omega)
  rw [Int.neg_tmod] at this;omega
theorem parts_law (a b:Int) (hb:b≠0) :
 (a.tmod b≠0∧(decide (a.tmod b < 0) == decide (b < 0))=false∧(a.tmod b < 0∧0≤b∨0≤a.tmod b∧b < 0)∧a.fdiv b=a.tdiv b - 1∧a.fmod b=a.tmod b+b) ∨
 ((a.tmod b≠0∧(decide (a.tmod b < 0) == decide (b < 0))=true∨a.tmod b=0)∧a.fdiv b=a.tdiv b∧a.fmod b=a.tmod b):=by
 have h3:b ∣ a↔a.tmod b=0:=Int.dvd_iff_tmod_eq_zero
 have h1:=Int.fdiv_eq_tdiv (a:=a) (b:=b)
 have h2:=Int.fmod_eq_tmod (a:=a) (b:=b)
 by_cases hd:b ∣ a
 ·rw [if_pos hd] at h1 h2
  exact Or.inr ⟨Or.inr (h3.mp hd),by omega,by omega⟩
 ·rw [if_neg hd] at h1 h2
  have hn:a.tmod b≠0:=fun h=>hd (h3.mpr h)
  by_cases ha:0≤a
  ·have ht:=Int.tmod_nonneg b ha
   rw [if_pos ha] at h1 h2
   by_cases hb0:0≤b
   ·rw [if_pos hb0] at h1 h2
    refine Or.inr ⟨Or.inl ⟨hn,?_⟩,by omega,by omega⟩
    rw [decide_eq_false (show ¬ a.tmod b < 0 by omega),decide_eq_false (show ¬ b < 0 by omega)];rfl
   ·rw [if_neg hb0] at h1 h2
    refine Or.inl ⟨hn,?_,by omega,by omega,by omega⟩
    rw [decide_eq_false (show ¬ a.tmod b < 0 by omega),decide_eq_true (show b < 0 by omega)];rfl
  ·have ht:a.tmod b≤0:=by
    have:=Int.tmod_nonneg b (a:=-a) (by omega)
    rw [Int.neg_tmod] at this;omega
   rw [if_neg ha] at h1 h2
   by_cases hb0:0≤b
   ·rw [if_pos hb0] at h1 h2
    rw [Int.sign_eq_one_of_pos (by omega)] at h1
    refine Or.inl ⟨hn,?_,by omega,by omega,by omega⟩
    rw [decide_eq_true (show a.tmod b < 0 by omega),decide_eq_false (show ¬ b < 0 by omega)];rfl
   ·rw [if_neg hb0] at h1 h2
    rw [Int.sign_eq_neg_one_of_neg (by omega)] at h1
    refine Or.inr ⟨Or.inl ⟨hn,?_⟩,by omega,by omega⟩
    rw [decide_eq_true (show a.tmod b < 0 by omega),decide_eq_true (show b < 0 by omega)];rfl
theorem parts_any (w:World) (a b:Int) (ha:fits a) (hbf:fits b) :
 Calls Tryz.prog 112 #[.int .i64 a,.int .i64 b] w fun e w'=>e=.returned (.tuple #[.int .i64 (dvN a b),.int .i64 (mdN a b),.int .i64 (dvE a b)])∧Below w.heap.size w w':=by
 by_cases h0:b=0
 ·subst h0
  simp only [dvN,dvE,mdN,if_pos]
  go_enter Tryz.func112,Tryz.ntmps112
  go_wp2
  refine bodyPost_ret (v:=.tuple #[.int .i64 0,.int .i64 0,.int .i64 3]) (by simp [results,Tryz.results112,go_sem]) rfl ⟨rfl,Below.refl _ _⟩
 by_cases h1:b=-1
 ·subst h1
  simp only [dvN,dvE,mdN,if_pos,if_neg h0]
  have HN:=Lib.hid (fun w=>neg_any w a ha)
  clear ha hbf h0
  generalize shortN (-a)=sn at *
  generalize shortE (-a)=se at *
  go_enter Tryz.func112,Tryz.ntmps112
  go_wp2_with (go_at_call 73;refine (HN.out _).mono ?_;rintro e w2 ⟨rfl,hb2⟩)
  refine bodyPost_ret (v:=.tuple #[.int .i64 sn,.int .i64 0,.int .i64 se]) (by simp [results,Tryz.results112,go_sem]) rfl ⟨rfl,hb2⟩
 simp only [dvN,dvE,mdN,if_neg h0,if_neg h1]
 have hq:=tdiv_fits a b ha h1
 have hr:=tmod_near a b
 have hl:=parts_law a b h0
 unfold fits at ha hbf hq
 have q0:(b == 0)=false:=by rw [beq_eq_false_iff_ne];exact h0
 have q1:(b == -1)=false:=by rw [beq_eq_false_iff_ne];exact h1
 have hw1:IntKind.i64.wrap (a.tdiv b)=a.tdiv b:=by rw [IntKind.wrap_i64];omega
 have hw2:IntKind.i64.wrap (a.tmod b)=a.tmod b:=by rw [IntKind.wrap_i64];omega
 rcases hl with ⟨hn,hs,hsg,e1,e2⟩|⟨hs,e1,e2⟩
 ·rw [e1,e2]
  have hlo:=tdiv_low a b (by unfold fits;exact ha) h1 hn h0
  have hlo2:-9223372036854775808≤a.tmod b+b:=by omega
  have hlo3:a.tmod b+b≤9223372036854775807:=by omega
  clear e1 e2 h1 hsg
  have hn':(a.tmod b == 0)=false:=by rw [beq_eq_false_iff_ne];exact hn
  go_enter Tryz.func112,Tryz.ntmps112
  go_wp2
  go_region
  go_wp2
  refine bodyPost_ret (v:=.tuple #[.int .i64 (a.tdiv b - 1),.int .i64 (a.tmod b+b),.int .i64 0]) (by simp [results,Tryz.results112,go_sem]) rfl ⟨rfl,Below.drew (Below.refl _ _)⟩
 ·rw [e1,e2]
  clear e1 e2 h1
  rcases hs with ⟨hn,hs⟩|hs
  ·have hn':(a.tmod b == 0)=false:=by rw [beq_eq_false_iff_ne];exact hn
   go_enter Tryz.func112,Tryz.ntmps112
   go_wp2
   go_region
   go_wp2
   refine bodyPost_ret (v:=.tuple #[.int .i64 (a.tdiv b),.int .i64 (a.tmod b),.int .i64 0]) (by simp [results,Tryz.results112,go_sem]) rfl ⟨rfl,Below.drew (Below.refl _ _)⟩
  ·rw [hs] at hw2 ⊢
   clear hr
   go_enter Tryz.func112,Tryz.ntmps112
   go_wp2
   go_region
   go_wp2
   refine bodyPost_ret (v:=.tuple #[.int .i64 (a.tdiv b),.int .i64 0,.int .i64 0]) (by simp [results,Tryz.results112,go_sem]) rfl ⟨rfl,Below.drew (Below.refl _ _)⟩
theorem div_any (w:World) (a b:Int) (ha:fits a) (hb:fits b) :
 Calls Tryz.prog 99 #[.int .i64 a,.int .i64 b] w fun e w'=>e=.returned (.tuple #[.int .i64 (dvN a b),.int .i64 (dvE a b)])∧Below w.heap.size w w':=by
 have HP:=Lib.hid (fun w=>parts_any w a b ha hb)
 clear ha hb
 generalize dvN a b=dn at *
 generalize dvE a b=de at *
 generalize mdN a b=mn at *
 go_enter Tryz.func99,Tryz.ntmps99
 go_wp2_with (go_at_call 112;refine (HP.out _).mono ?_;rintro e w2 ⟨rfl,hb2⟩)
 go_ret2
 exact ⟨rfl,hb2⟩
theorem mod_any (w:World) (a b:Int) (ha:fits a) (hb:fits b) :
 Calls Tryz.prog 100 #[.int .i64 a,.int .i64 b] w fun e w'=>e=.returned (.tuple #[.int .i64 (mdN a b),.int .i64 (mdE b)])∧Below w.heap.size w w':=by
 have HP:=Lib.hid (fun w=>parts_any w a b ha hb)
 have hm:(b == -1)=false→dvE a b=mdE b:=by intro h;unfold dvE mdE;rw [beq_eq_false_iff_ne] at h;rw [if_neg h]
 by_cases h1:b=-1
 ·subst h1
  clear hm HP ha hb
  go_enter Tryz.func100,Tryz.ntmps100
  go_wp2
  go_ret2
  exact ⟨rfl,Below.refl _ _⟩
 ·have h2:(b == -1)=false:=by rw [beq_eq_false_iff_ne];exact h1
  rw [hm h2] at HP
  clear ha hb hm h1
  generalize dvN a b=dn at *
  generalize mdE b=de at *
  generalize mdN a b=mn at *
  go_enter Tryz.func100,Tryz.ntmps100
  go_wp2_with (go_at_call 112;refine (HP.out _).mono ?_;rintro e w2 ⟨rfl,hb2⟩)
  go_ret2
  exact ⟨rfl,hb2⟩
def fit64 (n:Int):Prop:=-9223372036854775808≤n∧n≤9223372036854775807
structure AV where
 kind:Int
 n:Int
 s:ByteArray
def AV.cells (v:AV):List Value:=[.int .i64 v.kind,.int .i64 v.n,.string v.s]
def AV.agg (v:AV):Value:=.agg #[.int .i64 v.kind,.int .i64 v.n,.string v.s]
def AV.right (v:AV):Bool:=(v.kind == 1 && v.s.toList.isEmpty) || (v.kind == 2 && v.n == 0 && decide (v.s.size≤200)) || (v.kind == 3 && (v.n == 0 || v.n == 1) && v.s.toList.isEmpty)
def rowCells (l:List AV):List Value:=(l.map AV.cells).flatten
theorem rowCells_at (l:List AV) (k r:Nat) (hk:k < l.length) (hr:r < 3):(rowCells l)[k*3+r]?=(l[k].cells)[r]?:=by
 have hlen:∀ c∈l.map AV.cells,c.length=3:=by
  intro c hc
  obtain ⟨a,_,rfl⟩:=List.mem_map.1 hc
  rfl
 unfold rowCells
 rw [flatten_get _ hlen k r hr,List.getElem?_map,List.getElem?_eq_getElem hk]
 rfl
theorem rowCells_length (l:List AV):(rowCells l).length=l.length*3:=by
 have hlen:∀ c∈l.map AV.cells,c.length=3:=by
  intro c hc
  obtain ⟨a,_,rfl⟩:=List.mem_map.1 hc
  rfl
 unfold rowCells
 rw [flatten_length _ hlen,List.length_map]
theorem sl_av {w:World} {B:Nat→Prop} {v:Value} {l:List AV} (h:Sl w B 3 v l.length (rowCells l)) {k:Nat} (hk:k < l.length) :
 ∃ g off cap,v=.slice (some ⟨g,off,none⟩) l.length cap∧g < w.heap.size∧w.cell? ⟨g,off+k*3,none⟩=some (.int .i64 l[k].kind)∧w.cell? ⟨g,off+k*3+1,none⟩=some (.int .i64 l[k].n)∧w.cell? ⟨g,off+k*3+2,none⟩=some (.string l[k].s):=by
 obtain ⟨g,off,cap,hv,_,_,hgb,hglt,hc⟩:=h.place (by omega)
 have get:∀ r,r < 3→w.cell? ⟨g,off+(k*3+r),none⟩=(l[k].cells)[r]?:=fun r hr=>by
  rw [hc _ (by rw [rowCells_length];omega),rowCells_at l k r hk hr]
 exact ⟨g,off,cap,hv,hglt,get 0 (by omega),get 1 (by omega),get 2 (by omega)⟩
def rightAll (l:List AV):Bool:=l.all AV.right
def greatB (l:List AV):Bool:=decide (30 < l.length) || l.any (fun v=>decide (300 < v.s.size))
theorem great_row (w:World) (B:Nat→Prop) (v:Value) (l:List AV) (hl:Sl w B 3 v l.length (rowCells l)) :
 Calls Tryz.prog 27 #[v] w fun e w'=>e=.returned (.bool (greatB l))∧Below w.heap.size w w':=by
 obtain ⟨p,cap,rfl,hc1,hc2⟩:=hl.form
 have HL:=Lib.hid hl
 clear hl
 by_cases h30:30 < l.length
 ·have e1:greatB l=true:=by unfold greatB;simp [h30]
  rw [e1]
  have d:decide ((30:Int) < l.length)=true:=decide_eq_true (by omega)
  clear e1
  go_enter Tryz.func27,Tryz.ntmps27
  go_wp2
  go_ret
  exact ⟨rfl,Below.refl _ _⟩
 ·have d:decide ((30:Int) < l.length)=false:=decide_eq_false (by omega)
  have hll:l.length≤30:=by omega
  have HE:Hid (greatB l=l.any (fun v=>decide (300 < v.s.size))):=by show _=_;unfold greatB;simp;omega
  go_enter Tryz.func27,Tryz.ntmps27
  go_wp2
  go_loop [3] (fun i=>∃ k:Nat,i=.int .i64 k∧k≤l.length∧(l.take k).any (fun v=>decide (300 < v.s.size))=false) (fun i=>l.length - (intOf i).toNat)
  case atStart=>exact ⟨0,rfl,Nat.zero_le _,rfl⟩
  case round =>
   obtain ⟨k,rfl,hk,hr⟩:=hrel
   have HR:=Lib.hid hr
   by_cases hka:k < l.length
   ·obtain ⟨g,off,cap',hv,hg,e0,e1,e2⟩:=sl_av HL.out hka
    cases hv
    have HX:Hid (∀ b,decide (300 < l[k].s.size)=b→(l.take (k+1)).any (fun v=>decide (300 < v.s.size))=b):=fun b hb=>by
     rw [←List.take_append_getElem hka,List.any_append,hr]
     simp [←hb]
    have HY:Hid (decide (300 < l[k].s.size)=true→l.any (fun v=>decide (300 < v.s.size))=true):=fun h=>by
     rw [List.any_eq_true]
     exact ⟨l[k],List.getElem_mem hka,h⟩
    clear hr e0 e1
    generalize l[k]=x at *
    by_cases hs:300 < x.s.size
    ·have d2:decide ((300:Int) < x.s.size)=true:=decide_eq_true (by omega)
     go_wp2
     go_ret
     exact ⟨by rw [HE.out,HY.out (decide_eq_true hs)];rfl,Below.refl _ _⟩
    ·have d2:decide ((300:Int) < x.s.size)=false:=decide_eq_false (by omega)
     go_wp2
     go_round
     case rel=>exact ⟨k+1,by go_num,by omega,HX.out false (decide_eq_false hs)⟩
     case measure=>(simp [intOf])<;>omega
   ·obtain rfl:k=l.length:=by omega
    rw [List.take_length] at hr
    have HR2:=Lib.hid hr
    clear hr HR
    go_wp2
    go_ret
    exact ⟨by rw [HE.out,HR2.out];rfl,Below.refl _ _⟩
def cmpI (x y:Int):Int:=if x < y then -1 else if y < x then 1 else 0
def cmpL (a b:List UInt8):Int:=if Op.bytesLess a b then -1 else if a == b then 0 else 1
def cmpV (a b:AV):Int:=if cmpI a.kind b.kind≠0 then cmpI a.kind b.kind else if cmpI a.n b.n≠0 then cmpI a.n b.n else cmpL a.s.toList b.s.toList
def cmpR:List AV→List AV→Int
 | [],[]=>0
 | [],_::_=>-1
 | _::_,[]=>1
 | a::x,b::y=>if cmpV a b≠0 then cmpV a b else cmpR x y
theorem less_irrefl:∀ a:List UInt8,Op.bytesLess a a=false
 | []=>rfl
 | c::a=>by simp [Op.bytesLess,less_irrefl a]
theorem less_asymm:∀ a b:List UInt8,Op.bytesLess a b=true→Op.bytesLess b a=false
 | _,[],h=>by simp [Op.bytesLess] at h
 | [],c::b,_=>rfl
 | c::a,d::b,h=>by
  simp only [Op.bytesLess,Bool.or_eq_true,Bool.and_eq_true,decide_eq_true_eq,beq_iff_eq] at h
  rcases h with h|⟨rfl,h⟩
  ·have h1:¬ d < c:=fun h2=>by have:=UInt8.lt_irrefl c;exact this (UInt8.lt_trans h h2)
   have h2:¬ d=c:=fun h2=>by subst h2;exact UInt8.lt_irrefl d h
   simp [Op.bytesLess,h1,h2]
  ·simp [Op.bytesLess,less_asymm a b h]
theorem less_total:∀ a b:List UInt8,Op.bytesLess a b=false→Op.bytesLess b a=false→a=b
 | [],[],_,_=>rfl
 | [],c::b,h,_=>by simp [Op.bytesLess] at h
 | c::a,[],_,h=>by simp [Op.bytesLess] at h
 | c::a,d::b,h,k=>by
  simp only [Op.bytesLess,Bool.or_eq_false_iff,decide_eq_false_iff_not] at h k
  have h1:c=d:=by
   rcases UInt8.lt_or_lt_of_ne (a:=c) (b:=d) |> fun f=>Classical.em (c=d) with h2|h2
   ·exact h2
   ·rcases UInt8.lt_or_lt_of_ne h2 with h3|h3
    ·exact absurd h3 h.1
    ·exact absurd h3 k.1
  subst h1
  have h2:Op.bytesLess a b=false:=by simpa using h.2
  have h3:Op.bytesLess b a=false:=by simpa using k.2
  rw [less_total a b h2 h3]
theorem nan_int (w:World) (x:Int):Calls Tryz.prog 123 #[.int .i64 x] w fun e w'=>e=.returned (.bool false)∧w=w':=by
 go_enter Tryz.func123,Tryz.ntmps123
 go_wp2
 go_ret
 exact ⟨rfl,rfl⟩
theorem nan_str (w:World) (x:ByteArray):Calls Tryz.prog 125 #[.string x] w fun e w'=>e=.returned (.bool false)∧w=w':=by
 go_enter Tryz.func125,Tryz.ntmps125
 go_wp2
 go_ret
 exact ⟨rfl,rfl⟩
theorem gtr_str (x y:ByteArray) (w:World):(binOp .gtr 9 (.string x) (.string y)).run Tryz.prog w=.ok (.bool (!(Op.bytesLess x.toList y.toList || x.toList == y.toList))) w:=by kernel_rfl
theorem cmp_str (w:World) (x y:ByteArray):Calls Tryz.prog 116 #[.string x,.string y] w fun e w'=>e=.returned (.int .i64 (cmpL x.toList y.toList))∧w=w':=by
 have kg:=gtr_str x y w
 unfold cmpL
 cases h1:Op.bytesLess x.toList y.toList
 ·cases h2:x.toList == y.toList
  all_goals
   rw [h1,h2] at kg
   go_enter Tryz.func116,Tryz.ntmps116
   go_wp2_with (first|(go_at_call 125;refine (nan_str _ _).mono ?_;rintro e w2 ⟨rfl,rfl⟩))
   go_ret
   exact ⟨rfl,rfl⟩
 ·go_enter Tryz.func116,Tryz.ntmps116
  go_wp2_with (first|(go_at_call 125;refine (nan_str _ _).mono ?_;rintro e w2 ⟨rfl,rfl⟩))
  go_ret
  exact ⟨rfl,rfl⟩
theorem nan_i64 (w:World) (x:Int):Calls Tryz.prog 124 #[.int .i64 x] w fun e w'=>e=.returned (.bool false)∧w=w':=by
 go_enter Tryz.func124,Tryz.ntmps124
 go_wp2
 go_ret
 exact ⟨rfl,rfl⟩
theorem cmp_int (w:World) (x y:Int):Calls Tryz.prog 114 #[.int .i64 x,.int .i64 y] w fun e w'=>e=.returned (.int .i64 (cmpI x y))∧w=w':=by
 unfold cmpI
 by_cases h1:x < y
 ·have hd:decide (x < y)=true:=decide_eq_true h1
  rw [if_pos h1]
  go_enter Tryz.func114,Tryz.ntmps114
  go_wp2_with (first|(go_at_call 123;refine (nan_int _ _).mono ?_;rintro e w2 ⟨rfl,rfl⟩))
  go_ret
  exact ⟨rfl,rfl⟩
 ·rw [if_neg h1]
  have hd:decide (x < y)=false:=decide_eq_false h1
  by_cases h2:y < x
  ·have hd2:decide (y < x)=true:=decide_eq_true h2
   rw [if_pos h2]
   go_enter Tryz.func114,Tryz.ntmps114
   go_wp2_with (first|(go_at_call 123;refine (nan_int _ _).mono ?_;rintro e w2 ⟨rfl,rfl⟩))
   go_ret
   exact ⟨rfl,rfl⟩
  ·have hd2:decide (y < x)=false:=decide_eq_false h2
   rw [if_neg h2]
   go_enter Tryz.func114,Tryz.ntmps114
   go_wp2_with (first|(go_at_call 123;refine (nan_int _ _).mono ?_;rintro e w2 ⟨rfl,rfl⟩))
   go_ret
   exact ⟨rfl,rfl⟩
theorem cmp_i64 (w:World) (x y:Int):Calls Tryz.prog 115 #[.int .i64 x,.int .i64 y] w fun e w'=>e=.returned (.int .i64 (cmpI x y))∧w=w':=by
 unfold cmpI
 by_cases h1:x < y
 ·have hd:decide (x < y)=true:=decide_eq_true h1
  rw [if_pos h1]
  go_enter Tryz.func115,Tryz.ntmps115
  go_wp2_with (first|(go_at_call 124;refine (nan_i64 _ _).mono ?_;rintro e w2 ⟨rfl,rfl⟩))
  go_ret
  exact ⟨rfl,rfl⟩
 ·rw [if_neg h1]
  have hd:decide (x < y)=false:=decide_eq_false h1
  by_cases h2:y < x
  ·have hd2:decide (y < x)=true:=decide_eq_true h2
   rw [if_pos h2]
   go_enter Tryz.func115,Tryz.ntmps115
   go_wp2_with (first|(go_at_call 124;refine (nan_i64 _ _).mono ?_;rintro e w2 ⟨rfl,rfl⟩))
   go_ret
   exact ⟨rfl,rfl⟩
  ·have hd2:decide (y < x)=false:=decide_eq_false h2
   rw [if_neg h2]
   go_enter Tryz.func115,Tryz.ntmps115
   go_wp2_with (first|(go_at_call 124;refine (nan_i64 _ _).mono ?_;rintro e w2 ⟨rfl,rfl⟩))
   go_ret
   exact ⟨rfl,rfl⟩
def or3 (a b c:Int):Int:=if a≠0 then a else if b≠0 then b else c
def OrSt (a b c:Int) (k:Nat):Prop:=(1≤k→a=0)∧(2≤k→b=0)∧(3≤k→c=0)
theorem or_three (w:World) (a b c:Int) (g:Nat) (h0:w.cell? ⟨g,0,none⟩=some (.int .i64 a)) (h1:w.cell? ⟨g,1,none⟩=some (.int .i64 b)) (h2:w.cell? ⟨g,2,none⟩=some (.int .i64 c)) :
 Calls Tryz.prog 113 #[.slice (some ⟨g,0,none⟩) 3 3] w fun e w'=>e=.returned (.int .i64 (or3 a b c))∧w=w':=by
 go_enter Tryz.func113,Tryz.ntmps113
 go_wp2
 go_loopw [8] (fun i wr=>∃ k:Nat,i=.int .i64 k∧k≤3∧OrSt a b c k∧w=wr) (fun i _=>3 - (intOf i).toNat)
 case atStart=>exact ⟨0,rfl,by omega,⟨by omega,by omega,by omega⟩,rfl⟩
 case round =>
  obtain ⟨k,rfl,hk,hst,rfl⟩:=hrel
  have HS:=Lib.hid hst
  clear hst
  have hk4:k=0∨k=1∨k=2∨k=3:=by omega
  rcases hk4 with rfl|rfl|rfl|rfl
  ·cases hn:(a != 0)
   ·have hz:a=0:=by simpa using hn
    have HZ:=Lib.hid hz
    clear hz
    go_wp2
    go_roundw
    case rel=>exact ⟨1,by go_num,by omega,⟨fun _=>HZ.out,by omega,by omega⟩,trivial⟩
    case measure=>(simp [intOf])<;>omega
   ·have h:a≠0:=by simpa using hn
    have HR:Hid (or3 a b c=a):=by
     show _=_
     unfold or3
     rw [if_pos h]
    clear h
    go_wp2
    go_ret
    exact ⟨by rw [HR.out];rfl,rfl⟩
  ·cases hn:(b != 0)
   ·have hz:b=0:=by simpa using hn
    have HZ:=Lib.hid hz
    clear hz
    go_wp2
    go_roundw
    case rel=>exact ⟨2,by go_num,by omega,⟨fun _=>HS.out.1 (by omega),fun _=>HZ.out,by omega⟩,trivial⟩
    case measure=>(simp [intOf])<;>omega
   ·have h:b≠0:=by simpa using hn
    have HR:Hid (or3 a b c=b):=by
     show _=_
     unfold or3
     rw [if_neg (by rw [HS.out.1 (by omega)];decide),if_pos h]
    clear h
    go_wp2
    go_ret
    exact ⟨by rw [HR.out];rfl,rfl⟩
  ·cases hn:(c != 0)
   ·have hz:c=0:=by simpa using hn
    have HZ:=Lib.hid hz
    clear hz
    go_wp2
    go_roundw
    case rel=>exact ⟨3,by go_num,by omega,⟨fun _=>HS.out.1 (by omega),fun _=>HS.out.2.1 (by omega),fun _=>HZ.out⟩,trivial⟩
    case measure=>(simp [intOf])<;>omega
   ·have h:c≠0:=by simpa using hn
    have HR:Hid (or3 a b c=c):=by
     show _=_
     unfold or3
     rw [if_neg (by rw [HS.out.1 (by omega)];decide),if_neg (by rw [HS.out.2.1 (by omega)];decide)]
    clear h
    go_wp2
    go_ret
    exact ⟨by rw [HR.out];rfl,rfl⟩
  ·have HR:Hid (or3 a b c=0):=by
    show _=_
    unfold or3
    rw [if_neg (by rw [HS.out.1 (by omega)];decide),if_neg (by rw [HS.out.2.1 (by omega)];decide),HS.out.2.2 (by omega)]
   go_wp2
   go_ret
   exact ⟨by rw [HR.out];rfl,rfl⟩
theorem cmp_val (w:World) (a b:AV):Calls Tryz.prog 101 #[a.agg,b.agg] w fun e w'=>e=.returned (.int .i64 (cmpV a b))∧Below w.heap.size w w':=by
 obtain ⟨ka,na,sa⟩:=a
 obtain ⟨kb,nb,sb⟩:=b
 have hc:cmpV ⟨ka,na,sa⟩ ⟨kb,nb,sb⟩=or3 (cmpI ka kb) (cmpI na nb) (cmpL sa.toList sb.toList):=rfl
 rw [hc]
 clear hc
 simp only [AV.agg]
 have HK:=Lib.hid (fun w=>cmp_int w ka kb)
 have HN:=Lib.hid (fun w=>cmp_i64 w na nb)
 have HS:=Lib.hid (fun w=>cmp_str w sa sb)
 generalize cmpI ka kb=x at *
 generalize cmpI na nb=y at *
 generalize cmpL sa.toList sb.toList=z at *
 have HO:=Lib.hid (fun w=>or_three w x y z)
 have hnew:=Blk.new ((w.alloc (.cells #[.int .i64 ka,.int .i64 na,.string sa] 35)).alloc (.cells #[.int .i64 kb,.int .i64 nb,.string sb] 35)) 3 [.int .i64 x,.int .i64 y,.int .i64 z]
 have hz:((w.alloc (.cells #[.int .i64 ka,.int .i64 na,.string sa] 35)).alloc (.cells #[.int .i64 kb,.int .i64 nb,.string sb] 35)).heap.size=w.heap.size+1+1:=by simp
 rw [hz] at hnew
 have HNEW:=Lib.hid hnew.drew
 clear hnew hz
 go_enter Tryz.func101,Tryz.ntmps101
 go_wp2
 refine wp_region_lit_plan [] [(0,0),(2,0),(5,0),(7,0),(10,0),(12,0),(1,1),(3,1),(6,2),(8,2),(11,2),(13,2),(4,3),(9,3),(14,4),(15,4),(16,4),(17,0)] (fun k=>k=w.heap.size∨k=w.heap.size+1) (by kernel_rfl) (by kernel_rfl) (fun c a d v w h=>by cases d<;>exact h) ?_
 go_wp2_with (first
  | (refine stp ?_)
  | (go_at_call 114;refine (HK.out _).mono ?_;rintro e w2 ⟨rfl,rfl⟩)
  | (go_at_call 115;refine (HN.out _).mono ?_;rintro e w2 ⟨rfl,rfl⟩)
  | (go_at_call 116;refine (HS.out _).mono ?_;rintro e w2 ⟨rfl,rfl⟩)
  | (go_at_call 113;refine (HO.out _ _ (HNEW.out.cell 0) (HNEW.out.cell 1) (HNEW.out.cell 2)).mono ?_;rintro e w2 ⟨rfl,rfl⟩))
 go_ret
 refine ⟨rfl,?_⟩
 repeat (with_reducible first|exact Below.refl _ _|apply Below.drew|(refine Below.alloc ?_ (by first|omega|(simp;omega)|simp) _)|(refine Below.setCell ?_ (by first|omega|(simp;omega)|simp) _))
theorem cmpR_take (a b:List AV) (k:Nat):(∀ j (_:j < k) (ha:j < a.length) (hb:j < b.length),cmpV a[j] b[j]=0)→k≤a.length→k≤b.length→cmpR a b=cmpR (a.drop k) (b.drop k):=by
 induction k generalizing a b with
 | zero=>intros;rfl
 | succ k ih =>
  intro h ha hb
  cases a with
  | nil=>simp at ha
  | cons x a =>
   cases b with
   | nil=>simp at hb
   | cons y b =>
    have h0:=h 0 (by omega) (by simp) (by simp)
    simp only [List.getElem_cons_zero] at h0
    show (if cmpV x y≠0 then cmpV x y else cmpR a b)=_
    rw [if_neg (by rw [h0];decide),List.drop_succ_cons,List.drop_succ_cons]
    exact ih a b (fun j hj ha' hb'=>h (j+1) (by omega) (by simpa using ha') (by simpa using hb')) (by simpa using ha) (by simpa using hb)
theorem cmpR_at (a b:List AV) (k:Nat) (h:∀ j (_:j < k) (ha:j < a.length) (hb:j < b.length),cmpV a[j] b[j]=0) (ha:k < a.length) (hb:k < b.length) (hne:cmpV a[k] b[k]≠0):cmpR a b=cmpV a[k] b[k]:=by
 rw [cmpR_take a b k h (by omega) (by omega),List.drop_eq_getElem_cons ha,List.drop_eq_getElem_cons hb]
 show (if _ then _ else _)=_
 rw [if_pos hne]
theorem cmpR_end (a b:List AV) (h:∀ j (ha:j < a.length) (hb:j < b.length),cmpV a[j] b[j]=0):cmpR a b=if b.length < a.length then 1 else if a.length < b.length then -1 else 0:=by
 rcases Nat.lt_trichotomy a.length b.length with h1|h1|h1
 ·rw [cmpR_take a b a.length (fun j _ ha hb=>h j ha hb) (Nat.le_refl _) (by omega),if_neg (by omega),if_pos h1,List.drop_length,List.drop_eq_getElem_cons h1];rfl
 ·rw [cmpR_take a b a.length (fun j _ ha hb=>h j ha hb) (Nat.le_refl _) (by omega),if_neg (by omega),if_neg (by omega),List.drop_length,h1,List.drop_length];rfl
 ·rw [cmpR_take a b b.length (fun j _ ha hb=>h j ha hb) (by omega) (Nat.le_refl _),if_pos h1,List.drop_length,List.drop_eq_getElem_cons h1];rfl
def SameTo (a b:List AV) (k:Nat):Prop:=∀ j (_:j < k) (ha:j < a.length) (hb:j < b.length),cmpV a[j] b[j]=0
def avEq (x y:AV):Bool:=x.kind == y.kind && x.n == y.n && x.s.toList == y.s.toList
theorem ba_toList_inj {A B:ByteArray} (h:A.toList=B.toList):A=B:=by
 rw [ByteArray.toList_eq,ByteArray.toList_eq] at h
 obtain ⟨a⟩:=A
 obtain ⟨b⟩:=B
 have:a=b:=Array.toList_inj.1 h
 rw [this]
theorem avEq_iff (x y:AV):avEq x y=true↔x=y:=by
 unfold avEq
 obtain ⟨k,n,s⟩:=x
 obtain ⟨k',n',s'⟩:=y
 simp only [Bool.and_eq_true,beq_iff_eq]
 constructor
 ·rintro ⟨⟨rfl,rfl⟩,h⟩
  rw [ba_toList_inj h]
 ·intro h
  cases h
  exact ⟨⟨rfl,rfl⟩,rfl⟩
theorem ba_beq (s s':ByteArray):(s == s')=(s.toList == s'.toList):=by
 obtain ⟨a⟩:=s
 obtain ⟨b⟩:=s'
 rw [ByteArray.toList_eq,ByteArray.toList_eq]
 show (a == b)=(a.toList == b.toList)
 rw [Bool.eq_iff_iff]
 simp
theorem eqS (w:World) (d:Nat) (s s':ByteArray):(Op.equalIn (d+1) 9 (.string s) (.string s')).run Tryz.prog w=.ok (s.toList == s'.toList) w:=by
 rw [←ba_beq]
 simp [Op.equalIn,run_underlying Tryz.underlying9]
theorem eqI (w:World) (d:Nat) (s s':Int):(Op.equalIn (d+1) 3 (.int .i64 s) (.int .i64 s')).run Tryz.prog w=.ok (s == s') w:=by
 simp [Op.equalIn,run_underlying Tryz.underlying3]
theorem eqI2 (w:World) (d:Nat) (s s':Int):(Op.equalIn (d+1) 2 (.int .i64 s) (.int .i64 s')).run Tryz.prog w=.ok (s == s') w:=by
 simp [Op.equalIn,run_underlying Tryz.underlying2]
theorem eqV (w:World) (d:Nat) (k k' n n':Int) (s s':ByteArray):(Op.equalIn (d+2) 35 (.agg #[.int .i64 k,.int .i64 n,.string s]) (.agg #[.int .i64 k',.int .i64 n',.string s'])).run Tryz.prog w=.ok (k == k' && n == n' && s.toList == s'.toList) w:=by
 have p0:∀ (x y z:Value) w,(part 3 #[x,y,z] 0).run Tryz.prog w=.ok x w:=fun _ _ _ _=>by kernel_rfl
 have p1:∀ (x y z:Value) w,(part 2 #[x,y,z] 1).run Tryz.prog w=.ok y w:=fun _ _ _ _=>by kernel_rfl
 have p2:∀ (x y z:Value) w,(part 9 #[x,y,z] 2).run Tryz.prog w=.ok z w:=fun _ _ _ _=>by kernel_rfl
 rw [Op.equalIn]
 simp [run_underlying Tryz.underlying35,p0,p1,p2,eqI,eqI2,eqS]
 cases hk:(k == k')<;>cases hn:(n == n')<;>cases hs:(s.toList == s'.toList)<;>simp_all
@[go_sem] theorem eqlV (w:World) (k k' n n':Int) (s s':ByteArray):(binOp .eql 35 (.agg #[.int .i64 k,.int .i64 n,.string s]) (.agg #[.int .i64 k',.int .i64 n',.string s'])).run Tryz.prog w=.ok (.bool (k == k' && n == n' && s.toList == s'.toList)) w:=by
 simp only [binOp]
 simp [Op.equal,Op.maxDepth,eqV w 9998]
@[go_sem] theorem neqV (w:World) (k k' n n':Int) (s s':ByteArray):(binOp .neq 35 (.agg #[.int .i64 k,.int .i64 n,.string s]) (.agg #[.int .i64 k',.int .i64 n',.string s'])).run Tryz.prog w=.ok (.bool (!(k == k' && n == n' && s.toList == s'.toList))) w:=by
 simp only [binOp]
 simp [Op.equal,Op.maxDepth,eqV w 9998]
def letterB (c:UInt8):Bool:=decide (97≤c.toNat) && decide (c.toNat≤122)
def partB (c:UInt8):Bool:=letterB c || (decide (48≤c.toNat) && decide (c.toNat≤57)) || c.toNat == 95
def namedL:List UInt8→Bool
 | []=>false
 | c::t=>decide (t.length≤15) && letterB c && t.all partB
def namedB (s:ByteArray):Bool:=namedL s.data.toList
theorem letter_part (c:UInt8) (h:letterB c=true):partB c=true:=by unfold partB;rw [h];rfl
theorem letter_any (w:World) (c:UInt8):Calls Tryz.prog 126 #[.int .u8 (c.toNat:Int)] w fun e w'=>e=.returned (.bool (letterB c))∧w=w':=by
 have hc:(c.toNat:Int) < 256:=by have:=c.toNat_lt;omega
 have hl:letterB c=(decide ((97:Int)≤(c.toNat:Int)) && decide ((c.toNat:Int)≤122)):=by
  unfold letterB
  congr 1<;>(rw [Bool.eq_iff_iff];simp;omega)
 rw [hl]
 have h0:(0:Int)≤(c.toNat:Int):=by omega
 generalize (c.toNat:Int)=n at *
 clear hl
 by_cases h1:97≤n
 ·have e1:decide ((97:Int)≤n)=true:=decide_eq_true h1
  rw [e1]
  go_enter Tryz.func126,Tryz.ntmps126
  go_wp2
  go_ret
  exact ⟨rfl,rfl⟩
 ·have e1:decide ((97:Int)≤n)=false:=decide_eq_false h1
  rw [e1]
  go_enter Tryz.func126,Tryz.ntmps126
  go_wp2
  go_ret
  exact ⟨rfl,rfl⟩
theorem part_any (w:World) (c:UInt8):Calls Tryz.prog 127 #[.int .u8 (c.toNat:Int)] w fun e w'=>e=.returned (.bool (partB c))∧w=w':=by
 have HL:=Lib.hid (letter_any w c)
 have hc:(c.toNat:Int) < 256:=by have:=c.toNat_lt;omega
 have hp:partB c=(letterB c || (decide ((48:Int)≤(c.toNat:Int)) && decide ((c.toNat:Int)≤57)) || ((c.toNat:Int) == 95)):=by
  unfold partB
  congr 1
  ·congr 1
   congr 1<;>(rw [Bool.eq_iff_iff];simp;omega)
  ·rw [Bool.eq_iff_iff];simp;omega
 rw [hp]
 have h0:(0:Int)≤(c.toNat:Int):=by omega
 generalize letterB c=lb at *
 generalize (c.toNat:Int)=n at *
 clear hp
 cases lb
 ·by_cases h1:48≤n
  ·have e1:decide ((48:Int)≤n)=true:=decide_eq_true h1
   by_cases h2:n≤57
   ·have e2:decide (n≤57)=true:=decide_eq_true h2
    rw [e1,e2]
    go_enter Tryz.func127,Tryz.ntmps127
    go_wp2_with (go_at_call 126;refine HL.out.mono ?_;rintro e w2 ⟨rfl,rfl⟩)
    go_ret
    exact ⟨rfl,rfl⟩
   ·have e2:decide (n≤57)=false:=decide_eq_false h2
    rw [e1,e2]
    go_enter Tryz.func127,Tryz.ntmps127
    go_wp2_with (go_at_call 126;refine HL.out.mono ?_;rintro e w2 ⟨rfl,rfl⟩)
    go_ret
    exact ⟨rfl,rfl⟩
  ·have e1:decide ((48:Int)≤n)=false:=decide_eq_false h1
   rw [e1]
   go_enter Tryz.func127,Tryz.ntmps127
   go_wp2_with (go_at_call 126;refine HL.out.mono ?_;rintro e w2 ⟨rfl,rfl⟩)
   go_ret
   exact ⟨rfl,rfl⟩
 ·go_enter Tryz.func127,Tryz.ntmps127
  go_wp2_with (go_at_call 126;refine HL.out.mono ?_;rintro e w2 ⟨rfl,rfl⟩)
  go_ret
  exact ⟨rfl,rfl⟩
theorem named_any (w:World) (s:ByteArray) (hs:s.size≤maxLen):Calls Tryz.prog 117 #[.string s] w fun e w'=>e=.returned (.bool (namedB s))∧Below w.heap.size w w':=by
 obtain ⟨l,hl⟩:∃ l,s.data.toList=l:=⟨_,rfl⟩
 have hsz:=size_list s l hl
 have hem:=toList_list s l hl
 have hN:namedB s=namedL l:=by unfold namedB;rw [hl]
 rw [hN]
 have HG:=Lib.hid (get_list s l hl)
 have kc:∀ w,(convert 9 80 (.string s)).run Tryz.prog w=.ok (.slice (some ⟨w.heap.size,0,none⟩) s.size (cvCap w s 5)) (cvW w s 5):=fun w=>run_cv w _ _ _ s Tryz.underlying9 Tryz.underlying80 Tryz.underlying5
 unfold maxLen at hs
 cases l with
 | nil =>
  have e1:s.toList.isEmpty=true:=hem
  clear kc hem HG hN hl
  go_enter Tryz.func117,Tryz.ntmps117
  go_wp2
  go_ret
  exact ⟨rfl,Below.refl _ _⟩
 | cons c t =>
  have e1:s.toList.isEmpty=false:=hem
  rw [List.length_cons] at hsz
  have hg0:∀ (h:0 < s.size),((s[0]'h).toNat:Int)=(c.toNat:Int):=fun h=>by rw [HG.out 0 h (by simp)];rfl
  have h0s:0 < s.size:=by omega
  have hg1:=hg0 h0s
  have HLT:=Lib.hid (fun w=>letter_any w c)
  by_cases h16:15 < t.length
  ·have e2:decide ((16:Int) < s.size)=true:=decide_eq_true (by omega)
   have e3:namedL (c::t)=false:=by show (decide (t.length≤15) && letterB c && t.all partB)=false;rw [decide_eq_false (by omega)];rfl
   rw [e3]
   clear kc hem HG hN hl e3
   go_enter Tryz.func117,Tryz.ntmps117
   go_wp2
   go_ret
   exact ⟨rfl,Below.refl _ _⟩
  ·have e2:decide ((16:Int) < s.size)=false:=decide_eq_false (by omega)
   have e3:namedL (c::t)=(letterB c && t.all partB):=by show (decide (t.length≤15) && letterB c && t.all partB)=_;rw [decide_eq_true (by omega)];rfl
   cases hlb:letterB c
   ·have e4:namedL (c::t)=false:=by rw [e3,hlb];rfl
    rw [e4]
    rw [hlb] at HLT
    clear kc hem HG hN hl e3 e4 hlb
    go_enter Tryz.func117,Tryz.ntmps117
    go_wp2_with (go_at_call 126;refine (HLT.out _).mono ?_;rintro e w2 ⟨rfl,rfl⟩)
    go_ret
    exact ⟨rfl,Below.refl _ _⟩
   ·have e4:namedL (c::t)=(c::t).all partB:=by rw [e3,hlb,List.all_cons,letter_part c hlb]
    rw [e4]
    rw [hlb] at HLT
    have HC:Hid (∀ k (h:k < (c::t).length),(cvW w s 5).cell? ⟨w.heap.size,k,none⟩=some (.int .u8 ((c::t)[k].toNat:Int))):=fun k h=>cvW_cell w s _ _ hl k h
    have HB:Hid (Below w.heap.size w (cvW w s 5)):=cvW_below w s _
    have hs2:s.size=(c::t).length:=by rw [List.length_cons];exact hsz
    have hl17:(c::t).length≤16:=by rw [List.length_cons];omega
    clear hem HG hN hl e3 e4 hlb hsz h16
    generalize (c::t)=l at *
    go_enter Tryz.func117,Tryz.ntmps117
    go_wp2_with (go_at_call 126;refine (HLT.out _).mono ?_;rintro e w2 ⟨rfl,rfl⟩)
    clear kc hg0 hg1 e1 e2
    go_loop [21] (fun i=>∃ k:Nat,i=.int .i64 k∧k≤l.length∧(l.take k).all partB=true) (fun i=>l.length - (intOf i).toNat)
    case atStart=>exact ⟨0,rfl,Nat.zero_le _,rfl⟩
    case round =>
     obtain ⟨k,rfl,hk,hr⟩:=hrel
     by_cases hka:k < l.length
     ·have hck:=HC.out k hka
      have HX:Hid (∀ b,partB l[k]=b→(l.take (k+1)).all partB=b):=fun b hb=>by
       rw [←List.take_append_getElem hka,List.all_append,hr]
       simp [hb]
      have HY:Hid (partB l[k]=false→l.all partB=false):=fun h=>by
       rw [List.all_eq_false]
       exact ⟨l[k],List.getElem_mem hka,by simp [h]⟩
      have HP:=Lib.hid (fun w=>part_any w l[k])
      clear hr
      generalize l[k]=x at *
      cases hx:partB x
      ·rw [hx] at HP
       have HF:=Lib.hid (HY.out hx)
       clear hx HX HY
       go_wp2_with (go_at_call 127;refine (HP.out _).mono ?_;rintro e w2 ⟨rfl,rfl⟩)
       go_ret
       exact ⟨by rw [HF.out];rfl,HB.out⟩
      ·rw [hx] at HP
       have HF:=Lib.hid (HX.out true hx)
       clear hx HX HY
       go_wp2_with (go_at_call 127;refine (HP.out _).mono ?_;rintro e w2 ⟨rfl,rfl⟩)
       go_round
       case rel=>exact ⟨k+1,by go_num,by omega,HF.out⟩
       case measure=>(simp [intOf])<;>omega
     ·obtain rfl:k=l.length:=by omega
      rw [List.take_length] at hr
      have HR:=Lib.hid hr
      clear hr
      go_wp2
      go_ret
      exact ⟨by rw [HR.out];rfl,HB.out⟩
def nameAt (k:Nat) (c:UInt8):Bool:=letterB c || (decide (k≠0) && partB c)
theorem namedL_at (l:List UInt8) (h1:1≤l.length) (h16:l.length≤16) (h:∀ k (hk:k < l.length),nameAt k l[k]=true):namedL l=true:=by
 cases l with
 | nil=>simp at h1
 | cons c t =>
  show (decide (t.length≤15) && letterB c && t.all partB)=true
  have h0:=h 0 (by simp)
  simp only [List.length_cons] at h16
  have hl:letterB c=true:=by simpa [nameAt] using h0
  rw [decide_eq_true (by omega),hl,List.all_eq_true.2]
  ·rfl
  ·intro x hx
   obtain ⟨k,hk,rfl⟩:=List.getElem_of_mem hx
   have:=h (k+1) (by simp;omega)
   unfold nameAt at this
   rw [List.getElem_cons_succ] at this
   simp at this
   rcases this with h|h
   ·exact letter_part _ h
   ·exact h
theorem namedL_not (l:List UInt8) (k:Nat) (hk:k < l.length) (h:nameAt k l[k]=false):namedL l=false:=by
 cases l with
 | nil=>rfl
 | cons c t =>
  show (decide (t.length≤15) && letterB c && t.all partB)=false
  unfold nameAt at h
  rw [Bool.or_eq_false_iff] at h
  cases k with
  | zero =>
   rw [List.getElem_cons_zero] at h
   rw [h.1];simp
  | succ k =>
   rw [List.getElem_cons_succ] at h
   have:t.all partB=false:=by
    rw [List.all_eq_false]
    exact ⟨t[k]'(by simpa using hk),List.getElem_mem _,by have:=h.2;simp at this;simp [this]⟩
   rw [this];simp
theorem refnamed (w:World) (s:ByteArray) (hs:s.size≤maxLen):Calls Tryz.prog 30 #[.string s] w fun e w'=>e=.returned (.bool (namedB s))∧w=w':=by
 obtain ⟨l,hl⟩:∃ l,s.data.toList=l:=⟨_,rfl⟩
 have hsz:=size_list s l hl
 have hN:namedB s=namedL l:=by unfold namedB;rw [hl]
 rw [hN]
 have HG:=Lib.hid (get_list s l hl)
 unfold maxLen at hs
 clear hN hl
 by_cases h1:s.size < 1
 ·have e1:decide ((s.size:Int) < 1)=true:=decide_eq_true (by omega)
  obtain rfl:l=[]:=List.eq_nil_of_length_eq_zero (by omega)
  go_enter Tryz.func30,Tryz.ntmps30
  go_wp2
  go_ret
  exact ⟨rfl,rfl⟩
 have e1:decide ((s.size:Int) < 1)=false:=decide_eq_false (by omega)
 by_cases h16:16 < s.size
 ·have e2:decide ((16:Int) < s.size)=true:=decide_eq_true (by omega)
  have e3:namedL l=false:=by
   cases l with
   | nil=>rfl
   | cons c t =>
    rw [List.length_cons] at hsz
    show (decide (t.length≤15) && letterB c && t.all partB)=false
    rw [decide_eq_false (by omega)];rfl
  rw [e3]
  clear e3
  go_enter Tryz.func30,Tryz.ntmps30
  go_wp2
  go_ret
  exact ⟨rfl,rfl⟩
 have e2:decide ((16:Int) < s.size)=false:=decide_eq_false (by omega)
 have HT:Hid ((∀ k (hk:k < l.length),nameAt k l[k]=true)→namedL l=true):=fun h=>namedL_at l (by omega) (by omega) h
 have HF:Hid (∀ k (hk:k < l.length),nameAt k l[k]=false→namedL l=false):=fun k hk h=>namedL_not l k hk h
 have hlen:l.length≤16:=by omega
 have HSZ:=Lib.hid hsz
 clear h1 h16 hsz
 go_enter Tryz.func30,Tryz.ntmps30
 go_wp2
 clear e1 e2
 go_loop [3] (fun i=>∃ k:Nat,i=.int .i64 k∧k≤l.length∧∀ j (hj:j < l.length),j < k→nameAt j l[j]=true) (fun i=>l.length - (intOf i).toNat)
 case atStart=>exact ⟨0,rfl,Nat.zero_le _,fun j _ h=>absurd h (Nat.not_lt_zero _)⟩
 case round =>
  obtain ⟨k,rfl,hk,hr⟩:=hrel
  have HR:=Lib.hid hr
  clear hr
  have hks:(s.size:Int)=l.length:=by rw [HSZ.out]
  by_cases hka:k < l.length
  ·have hki:(k:Int) < s.size:=by omega
   have hks2:k < s.size:=by omega
   have hg:((s[k]'hks2).toNat:Int)=(l[k].toNat:Int):=by rw [HG.out k hks2 hka]
   have HX:Hid (nameAt k l[k]=true→∀ j (hj:j < l.length),j < k+1→nameAt j l[j]=true):=fun h j hj hjk=>by
    rcases Nat.lt_or_ge j k with h2|h2
    ·exact HR.out j hj h2
    ·obtain rfl:j=k:=by omega
     exact h
   have HY:=Lib.hid (HF.out k hka)
   have hna:nameAt k l[k]=((decide ((97:Int)≤(l[k].toNat:Int)) && decide ((l[k].toNat:Int)≤122)) || (decide ((k:Int)≠0) && ((decide ((48:Int)≤(l[k].toNat:Int)) && decide ((l[k].toNat:Int)≤57)) || ((l[k].toNat:Int) == 95)))):=by
    have hl:letterB l[k]=(decide ((97:Int)≤(l[k].toNat:Int)) && decide ((l[k].toNat:Int)≤122)):=by
     unfold letterB
     congr 1<;>(rw [Bool.eq_iff_iff];simp;omega)
    have hp:(decide (48≤l[k].toNat) && decide (l[k].toNat≤57))=(decide ((48:Int)≤(l[k].toNat:Int)) && decide ((l[k].toNat:Int)≤57)):=by congr 1<;>(rw [Bool.eq_iff_iff];simp;omega)
    have hq:(l[k].toNat == 95)=((l[k].toNat:Int) == 95):=by rw [Bool.eq_iff_iff];simp;omega
    have hz:decide (k≠0)=decide ((k:Int)≠0):=by rw [Bool.eq_iff_iff];simp
    unfold nameAt partB
    rw [hl,hp,hq,hz]
    generalize (decide ((97:Int)≤(l[k].toNat:Int)) && decide ((l[k].toNat:Int)≤122))=a
    generalize decide ((k:Int)≠0)=b
    cases a<;>cases b<;>rfl
   have hc:(l[k].toNat:Int) < 256:=by have:=l[k].toNat_lt;omega
   have hc0:(0:Int)≤(l[k].toNat:Int):=by omega
   rw [hna] at HX HY
   clear hna
   generalize (l[k].toNat:Int)=c at *
   cases a1:decide ((97:Int)≤c)<;>cases a2:decide (c≤122)<;>cases a3:decide ((48:Int)≤c)<;>cases a4:decide (c≤57)<;>cases a5:(c == 95)<;>(first|(exfalso;simp at a1 a2 a3 a4 a5;omega)|skip)
   all_goals
    rw [a1,a2,a3,a4,a5] at HX HY
    have b5:(c != 95)=!(c == 95):=rfl
    rw [a5] at b5
    simp only [Bool.not_true,Bool.not_false] at b5
    rcases Nat.eq_zero_or_pos k with hk0|hk0
   all_goals
    first
     | subst hk0
     | (have hkb:((k:Int) == 0)=false:=beq_eq_false_iff_ne.2 (by omega);have hkd:decide ((k:Int)≠0)=true:=decide_eq_true (by omega);rw [hkd] at HX HY;clear hkd)
    go_wp2
    first
     | (go_ret;exact ⟨by rw [HY.out (by simp)];rfl,rfl⟩)
     | (go_round;
        case rel=>exact ⟨_,by go_num,by omega,HX.out (by simp)⟩
        case measure=>(simp [intOf])<;>omega)
  ·obtain rfl:k=l.length:=by omega
   have e1:=HT.out (fun j hj=>HR.out j hj hj)
   have E1:=Lib.hid e1
   clear e1
   go_wp2
   go_ret
   exact ⟨by rw [E1.out];rfl,rfl⟩
structure ColV where
 name:ByteArray
 kind:Int
def ColV.cells (c:ColV):List Value:=[.string c.name,.int .i64 c.kind]
def ColV.agg (c:ColV):Value:=.agg #[.string c.name,.int .i64 c.kind]
structure IdxV where
 v:Value
 l:List Int
 unique:Bool
def IdxV.cells (x:IdxV):List Value:=[x.v,.bool x.unique]
def IdxV.agg (x:IdxV):Value:=.agg #[x.v,.bool x.unique]
def colCells (l:List ColV):List Value:=(l.map ColV.cells).flatten
def idxCells (l:List IdxV):List Value:=(l.map IdxV.cells).flatten
def IdxAt (w:World) (B:Nat→Prop) (v:Value) (l:List IdxV):Prop:=Sl w B 2 v l.length (idxCells l)∧∀ x∈l,Sl w B 1 x.v x.l.length (ints x.l)
theorem IdxAt.below {w w':World} {B:Nat→Prop} {v:Value} {l:List IdxV} (h:IdxAt w B v l) (hb:Below w.heap.size w w'):IdxAt w' B v l:=⟨h.1.below hb,fun x hx=>(h.2 x hx).below hb⟩
theorem cells2_at {α:Type} (f:α→List Value) (hf:∀ a,(f a).length=2) (l:List α) (k r:Nat) (hk:k < l.length) (hr:r < 2):((l.map f).flatten)[k*2+r]?=(f l[k])[r]?:=by
 have hlen:∀ c∈l.map f,c.length=2:=by
  intro c hc
  obtain ⟨a,_,rfl⟩:=List.mem_map.1 hc
  exact hf a
 rw [flatten_get _ hlen k r hr,List.getElem?_map,List.getElem?_eq_getElem hk]
 rfl
theorem cells2_length {α:Type} (f:α→List Value) (hf:∀ a,(f a).length=2) (l:List α):((l.map f).flatten).length=l.length*2:=by
 have hlen:∀ c∈l.map f,c.length=2:=by
  intro c hc
  obtain ⟨a,_,rfl⟩:=List.mem_map.1 hc
  exact hf a
 rw [flatten_length _ hlen,List.length_map]
theorem sl_two {α:Type} {f:α→List Value} (hf:∀ a,(f a).length=2) {w:World} {B:Nat→Prop} {v:Value} {l:List α} (h:Sl w B 2 v l.length ((l.map f).flatten)) {k:Nat} (hk:k < l.length) :
 ∃ g off cap,v=.slice (some ⟨g,off,none⟩) l.length cap∧g < w.heap.size∧w.cell? ⟨g,off+k*2,none⟩=(f l[k])[0]?∧w.cell? ⟨g,off+k*2+1,none⟩=(f l[k])[1]?:=by
 obtain ⟨g,off,cap,hv,_,_,hgb,hglt,hc⟩:=h.place (by omega)
 have get:∀ r,r < 2→w.cell? ⟨g,off+(k*2+r),none⟩=(f l[k])[r]?:=fun r hr=>by
  rw [hc _ (by rw [cells2_length f hf];omega),cells2_at f hf l k r hk hr]
 exact ⟨g,off,cap,hv,hglt,get 0 (by omega),get 1 (by omega)⟩
theorem sl_col {w:World} {B:Nat→Prop} {v:Value} {l:List ColV} (h:Sl w B 2 v l.length (colCells l)) {k:Nat} (hk:k < l.length) :
 ∃ g off cap,v=.slice (some ⟨g,off,none⟩) l.length cap∧g < w.heap.size∧w.cell? ⟨g,off+k*2,none⟩=some (.string l[k].name)∧w.cell? ⟨g,off+k*2+1,none⟩=some (.int .i64 l[k].kind) :=
 sl_two (f:=ColV.cells) (fun _=>rfl) h hk
theorem sl_idx {w:World} {B:Nat→Prop} {v:Value} {l:List IdxV} (h:Sl w B 2 v l.length (idxCells l)) {k:Nat} (hk:k < l.length) :
 ∃ g off cap,v=.slice (some ⟨g,off,none⟩) l.length cap∧g < w.heap.size∧w.cell? ⟨g,off+k*2,none⟩=some l[k].v∧w.cell? ⟨g,off+k*2+1,none⟩=some (.bool l[k].unique) :=
 sl_two (f:=IdxV.cells) (fun _=>rfl) h hk
theorem sl_int {w:World} {B:Nat→Prop} {v:Value} {l:List Int} (h:Sl w B 1 v l.length (ints l)) {k:Nat} (hk:k < l.length) :
 ∃ g off cap,v=.slice (some ⟨g,off,none⟩) l.length cap∧g < w.heap.size∧w.cell? ⟨g,off+k,none⟩=some (.int .i64 l[k]):=by
 obtain ⟨g,off,cap,hv,_,_,hgb,hglt,hc⟩:=h.place (by omega)
 exact ⟨g,off,cap,hv,hglt,by rw [hc k (by simpa [ints] using hk)];simp [ints,hk]⟩
def unlikeGo {α:Type} (same:α→α→Bool):List α→List α→Bool
 | _,[]=>true
 | seen,a::t=>seen.all (fun b=>!same a b) && unlikeGo same (seen++[a]) t
def unlikeB {α:Type} (same:α→α→Bool) (l:List α):Bool:=unlikeGo same [] l
theorem unlike_step {α:Type} (same:α→α→Bool) (l:List α) (k:Nat) (h:k < l.length) :
 ((l.take k).all (fun b=>!same l[k] b)=true→unlikeGo same (l.take (k+1)) (l.drop (k+1))=unlikeGo same (l.take k) (l.drop k)) ∧
 ((l.take k).all (fun b=>!same l[k] b)=false→unlikeGo same (l.take k) (l.drop k)=false):=by
 rw [List.drop_eq_getElem_cons h,←List.take_append_getElem h]
 unfold unlikeGo
 refine ⟨fun ha=>?_,fun ha=>?_⟩
 ·rw [ha,Bool.true_and]
  cases l.drop (k+1)<;>rfl
 ·rw [ha,Bool.false_and]
theorem all_next {α:Type} (f:α→Bool) (l:List α) (j:Nat) (h:j < l.length) (ha:(l.take j).all f=true):f l[j]=true→(l.take (j+1)).all f=true:=fun hf=>by
 rw [←List.take_append_getElem h,List.all_append,ha]
 simp [hf]
end Go.Proofs.YtnpplhkpnbonaaaGreat
