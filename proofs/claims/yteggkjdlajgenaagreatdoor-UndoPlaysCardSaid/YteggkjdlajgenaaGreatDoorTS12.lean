/- Contracts of the functions that the statement reaches, one behind the other. No condition beyond each theorem's own. -/
import Derived.Test.YteggkjdlajgenaaGreatDoorTS9
set_option linter.unusedSimpArgs false
set_option linter.unusedVariables false
set_option maxRecDepth 100000
set_option maxHeartbeats 4000000
theorem zkKZ {P:Prop} (h:P:=by
 split
 ·intro _;rfl
 ·split
  ·intro _;rfl
  ·split
   ·intro _;rfl
   ·intro h;exact absurd rfl h
 ):P:=h
theorem zl9I {P:Prop} (h:P:=by
 have zz:((m.eraseIdx j).length:Int) < S.limit:=by rw [List.length_eraseIdx_of_lt hj];have:=hm.lim;omega
 exact zz):P:=h
theorem ztFj {P:Prop} (h:P:=by
 have zz:Blk w jb 61 [jv]:=hs.all (Res.blk jb 61 [jv]) (by simp [rJ])
 exact zz):P:=h
theorem zFkY {P:Prop} (h:P:=by
 have zz:Own w 139 1 jv vs.length vs:=hs.all (Res.own 139 1 jv vs.length vs) (by simp [rJ])
 exact zz):P:=h
theorem z7Uy {P:Prop} (h:P:=by
 have h1:=(show Sep w ([Res.blk jb 61 [jv]]++[Res.own 139 1 jv vs.length vs]) from hs).apart jb zEaK
 exact h1 (by simp [feet,Res.own];rw [hq,h])
 ):P:=h
theorem zNms {P:Prop} (h:P:=by
 have zz:∀ i,w.frozen? ⟨jb,i,none⟩=false:=hk.frozen
 exact zz):P:=h
theorem zIeB {P:Prop} (h:P:=by
 have zz:w2.cell? ⟨ub,0,none⟩=some (.pointer (some ⟨g.tb,0,none⟩)):=(hst.tb▸hbk).cell 0
 exact zz):P:=h
theorem zPM6 {P:Prop} (h:P:=by
 have zz:w2.cell? ⟨ub,1,none⟩=some (ptrJ J):=hbk.cell 1
 exact zz):P:=h
theorem zPYV {P:Prop} (h:P:=by
 have zz:w3.cell? ⟨ub,0,none⟩=some (.pointer (some ⟨g.tb,0,none⟩)):=(HTB.out▸hbk).cell 0
 exact zz):P:=h
theorem zRaI {P:Prop} (h:P:=by
 go_wp2
 go_ret
 have hfin:=StepN.same HT.out HE.out HR.out HTB.out HSC.out
 exact ⟨rfl,g',jv,_,⟨Trk.after HT1.out hfin.trk,hfin.tab,hfin.rows,hfin.tb,hfin.sch⟩,.inl ⟨HEE.out,rfl⟩⟩
 ):P:=h
theorem zul0 {P:Prop} (h:P:=by unfold res2;simp only [cnt_append];omega):P:=h
theorem zNwJ {P:Prop} (h:P:=by rw [List.take_succ_eq_append_getElem hk];exact List.mem_append_right _ (List.mem_singleton.2 rfl)):P:=h
theorem z5Lp {P:Prop} (h:P:=by simp [rowCells,exUr,AV.cells]):P:=h
namespace Go.Proofs.YteggkjdlajgenaaGreatDoor
open Go.RowKit Go.Afx
theorem sorted_ext {α:Type} {lt:α→α→Prop} (irr:∀ a,¬ lt a a) (asy:∀ a b,lt a b→¬ lt b a):∀ {x y:List α},x.Pairwise lt→y.Pairwise lt→(∀ e,e∈x↔e∈y)→x=y
 | [],[],_,_,_=>rfl
 | [],b::y,_,_,h=>by have:=(h b).2 zPXO;simp at this
 | a::x,[],_,_,h=>by have:=(h a).1 zPXO;simp at this
 | a::x,b::y,hx,hy,h=>by
  obtain ⟨x1,x2⟩:=List.pairwise_cons.1 hx
  obtain ⟨y1,y2⟩:=List.pairwise_cons.1 hy
  have e:a=b:=by
   rcases List.mem_cons.1 ((h a).1 zPXO) with h1|h1
   ·exact h1
   ·rcases List.mem_cons.1 ((h b).2 zPXO) with h2|h2
    ·exact h2.symm
    ·exact absurd (y1 a h1) (asy a b (x1 b h2))
  subst e
  rw [sorted_ext irr asy x2 y2 fun e=>⟨fun he=>?_,fun he=>?_⟩]
  ·rcases List.mem_cons.1 ((h e).1 (by simp [he])) with h1|h1
   ·subst h1;exact absurd (x1 e he) (irr e)
   ·exact h1
  ·rcases List.mem_cons.1 ((h e).2 (by simp [he])) with h1|h1
   ·subst h1;exact absurd (y1 e he) (irr e)
   ·exact h1
theorem rows_ext {S:SchV} {x y:List (List AV)} (hx:SortedBy (kfS S) 0 x) (hy:SortedBy (kfS S) 0 y) (h:∀ e,e∈x↔e∈y):x=y :=
 sorted_ext (lt:=fun a b=>Op.bytesLess (kfS S 0 a) (kfS S 0 b)=true) (fun a ha=>by rw [klt_irrefl] at ha;cases ha) (fun a b h1 h2=>by rw [klt_asymm _ _ h1] at h2;cases h2) hx hy h
structure RowsV (S:SchV) (m:List (List AV)):Prop where
 right:rightS S=true
 tab:TabM (kfS S) S.idx.length m
 ok:∀ r∈m,RowOK S r
 lim:(m.length:Int)≤S.limit
theorem RowsV.nil {S:SchV} (h:rightS S=true):RowsV S []:=⟨h,TabM.nil _ _,zPXO,by have:=(rightS_by h).2.2.2.2.1;simp;omega⟩
theorem RowsV.idx {S:SchV} {m:List (List AV)} (h:RowsV S m):0 < S.idx.length:=(sch_small h.right).2.2.1
theorem RowsV.find {S:SchV} {m:List (List AV)} (h:RowsV S m) {j:Nat} (hj:j < m.length):findM (kfS S) (kfS S 0 m[j]) m 0=(j:Int):=by
 rcases findM_spec (kfS S) (kfS S 0 m[j]) m 0 with ⟨_,h2⟩|⟨i,hi,h1,h2⟩
 ·exact absurd rfl (h2 m[j] (List.getElem_mem hj))
 ·have:i=j:=pair_at (kfS S 0) (h.tab.uniq 0 h.idx) hi hj h2
  rw [h1,this];simp
structure Fresh (S:SchV) (m:List (List AV)) (row:List AV):Prop where
 ok:RowOK S row
 un:∀ i,i < S.idx.length→∀ r∈m,kfS S i r≠kfS S i row
theorem Fresh.put {S:SchV} {m:List (List AV)} {row:List AV} (h:Fresh S m row) (hm:RowsV S m) (hl:(m.length:Int) < S.limit):RowsV S (insM (kfS S) row m) :=
 ⟨hm.right,hm.tab.put _ hm.idx h.un,fun r hr=>by
  rcases (mem_insM (kfS S) row m r).1 hr with rfl|h1
  ·exact h.ok
  ·exact hm.ok r h1,by rw [insM_len];omega⟩
theorem Fresh.ins {S:SchV} {m:List (List AV)} {row:List AV} (h:Fresh S m row) (hm:RowsV S m) (hl:(m.length:Int) < S.limit):insMd S m row=(insM (kfS S) row m,0):=by
 have h2:clashS S m row (-1)=false:=by
  rw [←Bool.not_eq_true,clashS_iff]
  rintro ⟨i,hi,_,k,hk,_,he⟩
  exact h.un k hk m[i] (List.getElem_mem hi) he.symm
 unfold insMd
 rw [h.ok.fit,h2,if_neg zPXO,if_neg zPXO,if_neg zTbe]
theorem Fresh.at {S:SchV} {m:List (List AV)} {row:List AV} (h:Fresh S m row) (hm:RowsV S m):∃ j,∃ hj:j < (insM (kfS S) row m).length,(insM (kfS S) row m)[j]=row∧(insM (kfS S) row m).eraseIdx j=m:=by
 have hT:=hm.tab.put _ hm.idx h.un
 obtain ⟨j,hj,he⟩:=List.mem_iff_getElem.1 ((mem_insM (kfS S) row m row).2 (.inl rfl))
 refine ⟨j,hj,he,rows_ext (S:=S) (hT.erase _ j).sort hm.tab.sort fun r=>?_⟩
 rw [mem_erase_ne (kfS S) (hT.uniq 0 hm.idx) hj,he,mem_insM]
 constructor
 ·rintro ⟨rfl|h1,h2⟩
  ·exact absurd rfl h2
  ·exact h1
 ·exact fun h1=>⟨.inr h1,h.un 0 hm.idx r h1⟩
theorem RowsV.fresh {S:SchV} {m:List (List AV)} (h:RowsV S m) {j:Nat} (hj:j < m.length):Fresh S (m.eraseIdx j) m[j] :=
 ⟨h.ok _ (List.getElem_mem hj),fun i hi r hr=>((mem_erase_ne (kfS S) (h.tab.uniq i hi) hj r).1 hr).2⟩
theorem RowsV.erase {S:SchV} {m:List (List AV)} (h:RowsV S m) (j:Nat):RowsV S (m.eraseIdx j) :=
 ⟨h.right,h.tab.erase _ j,fun r hr=>h.ok r (List.mem_of_mem_eraseIdx hr),by have:=List.length_eraseIdx_le m j;have:=h.lim;omega⟩
theorem RowsV.again {S:SchV} {m:List (List AV)} (h:RowsV S m) {j:Nat} (hj:j < m.length):insM (kfS S) m[j] (m.eraseIdx j)=m:=by
 refine rows_ext (S:=S) ((h.erase j).tab.put _ h.idx (h.fresh hj).un).sort h.tab.sort fun r=>?_
 rw [mem_insM,mem_erase_ne (kfS S) (h.tab.uniq 0 h.idx) hj]
 constructor
 ·rintro (rfl|h1)
  ·exact List.getElem_mem hj
  ·exact h1.1
 ·intro h1
  by_cases he:kfS S 0 r=kfS S 0 m[j]
  ·obtain ⟨i,hi,hr⟩:=List.mem_iff_getElem.1 h1
   subst hr
   have:i=j:=pair_at (kfS S 0) (h.tab.uniq 0 h.idx) hi hj he
   subst this
   exact .inl rfl
  ·exact .inr ⟨h1,he⟩
theorem fresh_of {S:SchV} {m:List (List AV)} (hm:RowsV S m) {row:List AV} (hok:RowOK S row) (hc:clashS S m row (-1)=false):Fresh S m row :=
 ⟨hok,fun i hi r hr=>by
  obtain ⟨j,hj,rfl⟩:=List.mem_iff_getElem.1 hr
  exact clashS_no hm.right hm.ok hok hc i hi j hj zTbe⟩
theorem del_at {S:SchV} {m:List (List AV)} (hm:RowsV S m) {j:Nat} (hj:j < m.length):delMd S m (kfS S 0 m[j])=(m.eraseIdx j,0):=by
 unfold delMd withM
 rw [hm.find hj,if_neg zTbe,if_neg zPXO,skipM_idx]
theorem ins_back {S:SchV} {m:List (List AV)} (hm:RowsV S m) {row:List AV} (hf:∀ a∈row,fit64 a.n) (h:(insMd S m row).2=0) :
 RowOK S row∧RowsV S (insMd S m row).1∧delMd S (insMd S m row).1 (kfS S 0 row)=(m,0):=by
 revert h
 unfold insMd
 split
 ·intro h;cases h
 ·rename_i h1
  split
  ·intro h;cases h
  ·rename_i h2
   split
   ·intro h;cases h
   ·rename_i h3
    intro _
    have hok:RowOK S row:=⟨zVKw,hf⟩
    have hfr:=fresh_of hm hok zT4F
    have hput:=hfr.put hm zTbe
    obtain ⟨j,hj,he,hr⟩:=hfr.at hm
    refine ⟨hok,hput,?_⟩
    have h4:=del_at hput hj
    rw [he,hr] at h4
    exact h4
theorem ins_no {S:SchV} {m:List (List AV)} {row:List AV} (h:(insMd S m row).2≠0):(insMd S m row).1=m:=by
 revert h
 unfold insMd
 exact zkKZ
theorem find_at {S:SchV} {m:List (List AV)} (k:Key):findM (kfS S) k m 0 < 0∨∃ j,∃ hj:j < m.length,findM (kfS S) k m 0=(j:Int)∧kfS S 0 m[j]=k:=by
 rcases findM_spec (kfS S) k m 0 with ⟨h1,_⟩|⟨i,hi,h1,h2⟩
 ·exact .inl zTbe
 ·exact .inr ⟨i,hi,by rw [h1];simp,h2⟩
theorem del_back {S:SchV} {m:List (List AV)} (hm:RowsV S m) {k:Key} (h:(delMd S m k).2=0) :
 ∃ j,∃ hj:j < m.length,findM (kfS S) k m 0=(j:Int)∧kfS S 0 m[j]=k∧(delMd S m k).1=m.eraseIdx j∧RowsV S (delMd S m k).1∧insMd S (delMd S m k).1 m[j]=(m,0):=by
 rcases find_at (S:=S) (m:=m) k with h1|⟨j,hj,h1,rfl⟩
 ·unfold delMd at h
  rw [if_pos h1] at h;cases h
 ·refine ⟨j,hj,h1,rfl,?_⟩
  rw [del_at hm hj]
  have hl:=zl9I
  refine ⟨rfl,hm.erase j,?_⟩
  rw [(hm.fresh hj).ins (hm.erase j) hl,hm.again hj]
theorem del_no {S:SchV} {m:List (List AV)} {k:Key} (h:(delMd S m k).2≠0):(delMd S m k).1=m:=by
 revert h
 unfold delMd
 split
 ·intro _;rfl
 ·intro h;exact absurd rfl h
theorem upd_back {S:SchV} {m:List (List AV)} (hm:RowsV S m) {k:Key} {row:List AV} (hf:∀ a∈row,fit64 a.n) (h:(updMd S m k row).2=0) :
 ∃ j,∃ hj:j < m.length,findM (kfS S) k m 0=(j:Int)∧kfS S 0 m[j]=k∧RowOK S row∧RowsV S (updMd S m k row).1∧updMd S (updMd S m k row).1 (kfS S 0 row) m[j]=(m,0):=by
 revert h
 rcases find_at (S:=S) (m:=m) k with h1|⟨j,hj,h1,hk⟩
 ·unfold updMd;rw [if_pos h1];intro h;cases h
 ·unfold updMd
  rw [h1,if_neg zTbe]
  split
  ·intro h;cases h
  ·rename_i h2
   split
   ·intro h;cases h
   ·rename_i h3
    intro _
    have hok:RowOK S row:=⟨zT4F,hf⟩
    have hme:=hm.erase j
    have hfr:Fresh S (m.eraseIdx j) row:=⟨hok,fun i hi r hr=>by
     obtain ⟨h4,h5⟩:=(mem_erase_ne (kfS S) (hm.tab.uniq i hi) hj r).1 hr
     obtain ⟨q,hq,rfl⟩:=List.mem_iff_getElem.1 h4
     exact clashS_no hm.right hm.ok hok (by simpa using h3) i hi q hq (fun h6=>h5 (by have e:q=j:=zTbe;subst e;rfl))⟩
    have hl:=zl9I
    have hput:=hfr.put hme hl
    obtain ⟨q,hq,he,hr⟩:=hfr.at hme
    have hw:withM (kfS S) m row (j:Int) true=insM (kfS S) row (m.eraseIdx j):=by unfold withM;rw [if_pos rfl,skipM_idx]
    rw [hw]
    have hfi:=hput.find hq
    rw [he] at hfi
    have hold:=hm.ok _ (List.getElem_mem hj)
    have hcl:clashS S (insM (kfS S) row (m.eraseIdx j)) m[j] (q:Int)=false:=by
     rw [←Bool.not_eq_true,clashS_iff]
     rintro ⟨i,hi,hiq,p,hp,_,hkp⟩
     have hmem:(insM (kfS S) row (m.eraseIdx j))[i]∈m.eraseIdx j:=by
      have h7:=(mem_erase_ne (kfS S) (hput.tab.uniq 0 hm.idx) hq (insM (kfS S) row (m.eraseIdx j))[i]).2 ⟨List.getElem_mem hi,fun h6=>hiq (by have:=pair_at (kfS S 0) (hput.tab.uniq 0 hm.idx) hi hq h6;omega)⟩
      generalize (insM (kfS S) row (m.eraseIdx j))[i]=z at h7 ⊢
      rwa [hr] at h7
     exact ((mem_erase_ne (kfS S) (hm.tab.uniq p hp) hj _).1 hmem).2 hkp.symm
    refine ⟨j,hj,rfl,hk,hok,hput,?_⟩
    rw [hfi,if_neg zTbe,hold.fit,if_neg zPXO,hcl,if_neg zPXO]
    have hw2:withM (kfS S) (insM (kfS S) row (m.eraseIdx j)) m[j] (q:Int) true=m:=by unfold withM;rw [if_pos rfl,skipM_idx,hr,hm.again hj]
    rw [hw2]
theorem upd_no {S:SchV} {m:List (List AV)} {k:Key} {row:List AV} (h:(updMd S m k row).2≠0):(updMd S m k row).1=m:=by
 revert h
 unfold updMd
 exact zkKZ
theorem insM_last (kf:Nat→List AV→Key) (r:List AV):∀ l:List (List AV),(∀ x∈l,Op.bytesLess (kf 0 x) (kf 0 r)=true)→insM kf r l=l++[r]
 | [],_=>rfl
 | x::t,h=>by
  rw [insM,if_neg (by rw [klt_asymm _ _ (h x zPXO)];simp),insM_last kf r t fun y hy=>h y (by simp [hy])]
  rfl
theorem loadGo_all {S:SchV}:∀ (t out:List (List AV)),RowsV S (out++t)→loadGo S out t=(out++t,0)
 | [],out,_=>by simp [loadGo]
 | r::t,out,h=>by
  have ho:RowsV S out:=⟨h.right,⟨(List.pairwise_append.1 h.tab.sort).1,fun i hi=>(List.pairwise_append.1 (h.tab.uniq i hi)).1⟩,fun x hx=>h.ok x zXFw,by have:=h.lim;rw [List.length_append] at this;omega⟩
  have hfr:Fresh S out r:=⟨h.ok r zPXO,fun i hi x hx=>(List.pairwise_append.1 (h.tab.uniq i hi)).2.2 x hx r zPXO⟩
  have hl:(out.length:Int) < S.limit:=by have:=h.lim;rw [List.length_append,List.length_cons] at this;omega
  have hi:=hfr.ins ho hl
  rw [insM_last (kfS S) r out fun x hx=>(List.pairwise_append.1 h.tab.sort).2.2 x hx r zPXO] at hi
  unfold loadGo
  rw [hi,if_neg zPXO]
  show loadGo S (out++[r]) t=_
  rw [loadGo_all t (out++[r]) (by rw [List.append_assoc];exact h),List.append_assoc]
  rfl
theorem load_back {S:SchV} {m:List (List AV)} (h:RowsV S m):loadMd S m=(m,0):=loadGo_all m [] h
def offF (F:List Nat):Nat→Prop:=fun k=>k∉F
theorem offF_next {w w':World} {rs rs':List Res} (h:Trk w (feet rs) w' rs'):∀ k,offF (feet rs) k→k < w.heap.size→offF (feet rs') k:=fun k hk hl h1=>by
 rcases h.foot k h1 with h2|h2
 ·exact hk h2
 ·omega
theorem Sl.next {w w':World} {rs rs':List Res} {sz n:Nat} {v:Value} {cs:List Value} (h:Sl w (offF (feet rs)) sz v n cs) (hT:Trk w (feet rs) w' rs'):Sl w' (offF (feet rs')) sz v n cs :=
 h.mono hT.only.size (fun k hk hl=>hT.only.block k hl hk) (offF_next hT)
def TabE (w:World) (F:List Nat) (g:TabG):Prop:=TabOK w (offF F) g
theorem TabE.next {w w':World} {rs rs':List Res} {g:TabG} (h:TabE w (feet rs) g) (hT:Trk w (feet rs) w' rs'):TabE w' (feet rs') g :=
 TabOK.to h hT.only.size (fun k hk hl=>hT.only.block k hl hk) (offF_next hT)
theorem TabE.perm {w:World} {x y:List Res} {g:TabG} (h:TabE w (feet x) g) (hp:x.Perm y):TabE w (feet y) g :=
 TabOK.wide h fun k hk h1=>hk (feet_perm hp.symm k h1)
theorem TabE.w {w:World} {g:TabG} {fr:List Res} (h:TabE w (feet (g.res++fr)) g) (hs:Sep w (g.res++fr)):TabW w (offF (feet (g.res++fr))) g :=
 ⟨h,hs.left,fun k hk h1=>h1 z2dt⟩
theorem StepT.env {w w':World} {g g':TabG} {fr:List Res} (hs:Sep w (g.res++fr)) (h:StepT w w' (offF (feet (g.res++fr))) g g'):Trk w (feet (g.res++fr)) w' (g'.res++fr)∧TabE w' (feet (g'.res++fr)) g':=by
 have hT:=(Trk.start hs).call h.trk
 refine ⟨hT,TabOK.wide h.tab.ok fun k hk h1=>?_⟩
 rcases hk with ⟨h2,h3⟩|⟨h2,h3⟩
 ·rcases hT.foot k h1 with h4|h4
  ·exact h3 h4
  ·omega
 ·rw [feet_append,List.mem_append] at h1
  rcases h1 with h4|h4
  ·exact h3 h4
  ·have:=hs.right.lt k h4;omega
def ptrJ:Option Nat→Value
 | some jb=>ptrV jb
 | none=>.pointer none
def rJ:Option Nat→Value→List Value→List Res
 | some jb,jv,vs=>[Res.blk jb 61 [jv],Res.own 139 1 jv vs.length vs]
 | none,_,_=>[]
theorem elemStepU:Elem Tryz.prog 59 139 1 16 .nilIface :=
 ⟨Tryz.underlying59,zyVB,rfl,zTbe,zOaE⟩
theorem own_new {v v':Value} {n:Nat} (h:v'.ownBlock=v.ownBlock∨v'.ownBlock=some n):∀ k,v'.ownBlock=some k→v.ownBlock=some k∨n≤k:=fun k hk=>by
 rcases h with h|h
 ·rw [h] at hk;exact .inl hk
 ·rw [h] at hk;exact .inr (Nat.le_of_eq (Option.some.inj hk))
def lenJ:Option Nat→List Value→Nat
 | some _,vs=>vs.length
 | none,_=>0
theorem mark_u {w:World} (J:Option Nat) (jv:Value) (vs:List Value) (hs:Sep w (rJ J jv vs)) :
 Calls Tryz.prog 30 #[ptrJ J] w fun e w'=>e=.returned (.int .i64 (lenJ J vs:Int))∧w'=w:=by
 cases J with
 | none =>
  unfold ptrJ lenJ
  clear hs
  exact zD7T
 | some jb =>
  have hk:=ztFj
  have ho:=zFkY
  obtain ⟨p,c,rfl,_,_⟩:=own_formT ho
  have c0:w.cell? ⟨jb,0,none⟩=some (.slice p vs.length c):=hk.cell 0
  have hl:=hk.lt
  unfold ptrJ lenJ ptrV
  clear hs hk ho
  exact zD7T
theorem note_u (w:World) (J:Option Nat) (jv:Value) (vs:List Value) (hs:Sep w (rJ J jv vs)) (B:Nat→Prop) (sv:Value) (xs:List Value) (hx:Sl w B 1 sv xs.length xs) (hl:vs.length≤100000) (hxl:xs.length≤100000) :
 Calls Tryz.prog 29 #[ptrJ J,sv] w fun e w'=>e=.returned (.tuple #[])∧∃ jv',Trk w (feet (rJ J jv vs)) w' (rJ J jv' (vs++xs)):=by
 obtain ⟨px,cx,rfl,_,_⟩:=hx.form
 cases J with
 | none =>
  have HT:=Lib.hid (Trk.start hs)
  unfold ptrJ
  clear hs hx
  go_enter Tryz.func29,Tryz.ntmps29
  go_wp2
  go_end0
  exact ⟨rfl,.nilIface,HT.out⟩
 | some jb =>
  have HT:=Lib.hid (Trk.start hs)
  have hk:=ztFj
  have ho:=zFkY
  have hj:∀ q,jv.ownBlock=some q→q≠jb:=fun q hq h=>by
   exact z7Uy
  obtain ⟨p,c,rfl,hc1,hc2⟩:=own_formT ho
  have c0:w.cell? ⟨jb,0,none⟩=some (.slice p vs.length c):=hk.cell 0
  have hf:=zNms
  have hlt:=hk.lt
  have HK:=Lib.hid hk
  have HJ:=Lib.hid hj
  unfold ptrJ ptrV
  clear hs hk hj
  go_enter Tryz.func29,Tryz.ntmps29
  go_wp2_with (at_builtin;refine wpList_app rfl _ _ rfl elemStepU zdhv ho zdhv hx zefz zTbe ?_;intro v2 w2 g1 g2 g3 g4 g5;clear ho hx;have k2:=HK.out.only g2 (fun h=>HJ.out _ h rfl);have j0:w2.cell? ⟨jb,0,none⟩=some (.slice p vs.length c):=k2.cell 0;have jf:∀ i,w2.frozen? ⟨jb,i,none⟩=false:=k2.frozen;have jl:=k2.lt;obtain ⟨p2,c2,hv2,hc21,hc22⟩:=own_formT g1;subst hv2;have G1:=Lib.hid g1;have G2:=Lib.hid g2;have G3:=Lib.hid g3;have HK2:=Lib.hid k2;clear g1 g2 g3 g4 g5 k2)
  go_end0
  refine ⟨rfl,.slice p2 (vs.length+xs.length) c2,?_⟩
  have hT:=HT.out
  have h1:Trk w (feet (rJ (some jb) (.slice p vs.length c) vs)) w2 (Res.own 139 1 (.slice p2 (vs.length+xs.length) c2) (vs.length+xs.length) (vs++xs)::[Res.blk jb 61 [.slice p vs.length c]]) :=
   Trk.ownTo (rest:=[Res.blk jb 61 [.slice p vs.length c]]) (hT.perm (List.Perm.swap _ _ _)) G1.out G2.out (own_new G3.out)
  have h2:=Trk.blkSet (h1.perm (List.Perm.swap _ _ _)) 0 (.slice p2 (vs.length+xs.length) c2)
  show Trk w _ _ [Res.blk jb 61 [.slice p2 (vs.length+xs.length) c2],Res.own 139 1 (.slice p2 (vs.length+xs.length) c2) (vs++xs).length (vs++xs)]
  rw [List.length_append]
  exact h2
theorem keep_u (w:World) (J:Option Nat) (jv:Value) (vs:List Value) (hs:Sep w (rJ J jv vs)) :
 Calls Tryz.prog 38 #[ptrJ J] w fun e w'=>e=.returned (.tuple #[])∧∃ jv',Trk w (feet (rJ J jv vs)) w' (rJ J jv' []):=by
 cases J with
 | none =>
  have HT:=Lib.hid (Trk.start hs)
  unfold ptrJ
  clear hs
  go_enter Tryz.func38,Tryz.ntmps38
  go_wp2
  go_end0
  exact ⟨rfl,.nilIface,HT.out⟩
 | some jb =>
  have HT:=Lib.hid (Trk.start hs)
  have hk:=ztFj
  have ho:=zFkY
  have hj:∀ q,jv.ownBlock=some q→q≠jb:=fun q hq h=>by
   exact z7Uy
  rcases ho.2.2 with ⟨rfl,h0⟩|⟨g,off,cap,cur,rfl,hcur,hc1,hc2,hrest⟩
  ·have hv:vs=[]:=List.eq_nil_of_length_eq_zero h0
   subst hv
   have c0:w.cell? ⟨jb,0,none⟩=some (.slice none 0 0):=hk.cell 0
   have hf:=zNms
   have hlt:=hk.lt
   have kcl:∀ w,(Builtin.clear_ #[59] 0 #[.slice none 0 0]).run Tryz.prog w=.ok (.tuple #[]) w:=fun _=>zyVB
   unfold ptrJ ptrV
   clear hs hk hj ho
   go_enter Tryz.func38,Tryz.ntmps38
   go_wp2
   go_end0
   exact ⟨rfl,.slice none 0 0,Trk.blkSet (cs:=[.slice none 0 0]) HT.out 0 (.slice none 0 0)⟩
  ·have c0:w.cell? ⟨jb,0,none⟩=some (.slice (some ⟨g,off,none⟩) vs.length cap):=hk.cell 0
   have hf:=zNms
   have hlt:=hk.lt
   have ht:=ho.take (m:=0) (Nat.zero_le _)
   have hgj:g≠jb:=hj g rfl
   have hK:=Lib.hid hk
   unfold ptrJ ptrV
   clear hs hk hj ho hcur hrest
   go_enter Tryz.func38,Tryz.ntmps38
   go_wp2_with (refine wpList_clear_spare rfl _ rfl elemStepU ht zdhv zTbe zTbe ?_;intro w2 h4 h5 h6;have k2:=hK.out.only h5 (fun h=>hgj h.symm);have j0:w2.cell? ⟨jb,0,none⟩=some (.slice (some ⟨g,off,none⟩) vs.length cap):=k2.cell 0;have jf:∀ i,w2.frozen? ⟨jb,i,none⟩=false:=k2.frozen;have jl:=k2.lt;have H4:=Lib.hid h4;have H5:=Lib.hid h5;clear h4 h5 h6 k2 ht)
   go_end0
   have h1:Trk w (feet (rJ (some jb) (.slice (some ⟨g,off,none⟩) vs.length cap) vs)) w2 (Res.own 139 1 (.slice (some ⟨g,off,none⟩) 0 cap) 0 []::[Res.blk jb 61 [.slice (some ⟨g,off,none⟩) vs.length cap]]) :=
    Trk.ownTo (rest:=[Res.blk jb 61 [.slice (some ⟨g,off,none⟩) vs.length cap]]) (HT.out.perm (List.Perm.swap _ _ _)) H4.out (H5.out.mono (fun q _ h=>by show some g=some q;rw [h])) (fun k hk=>.inl hk)
   exact ⟨rfl,.slice (some ⟨g,off,none⟩) 0 cap,Trk.blkSet (h1.perm (List.Perm.swap _ _ _)) 0 (.slice (some ⟨g,off,none⟩) 0 cap)⟩
theorem back_nil (w:World) (m:Int):Calls Tryz.prog 31 #[.pointer none,.int .i64 m] w fun e w'=>e=.returned (.int .i64 0)∧w'=w:=by
 have HMK:=Lib.hid (mark_u (w:=w) none .nilIface [] ⟨by simp [rJ],by simp [rJ,feet]⟩)
 have hm0:¬ (max m 0 < 0):=zTbe
 unfold ptrJ lenJ at HMK
 go_enter Tryz.func31,Tryz.ntmps31
 go_wp2
 go_loopw [5] (fun n wr=>n=.int .i64 0∧wr=w) (fun _ _=>0)
 case atStart=>exact ⟨rfl,rfl⟩
 case round =>
  obtain ⟨rfl,rfl⟩:=hrel
  go_wp2_with (go_at_call 30;refine HMK.out.mono ?_;clear HMK;rintro e w2 ⟨rfl,rfl⟩)
  exact zTTx
structure BackAt (jb:Nat) (I T:Nat→World→Prop) (fb:Nat→Nat) (rv:Nat→Value) (k:Nat) (wr:World):Prop where
 it:∃ g off cap t,wr.cell? ⟨jb,0,none⟩=some (.slice (some ⟨g,off,none⟩) (k+1) cap)∧k+1≤cap∧cap≤9223372036854775807∧(∀ i,wr.frozen? ⟨jb,i,none⟩=false)∧jb < wr.heap.size ∧
  wr.cell? ⟨g, off + k, none⟩ = some (.iface t (rv k)) ∧ (∀ w, (method 444 t (rv k) "Back").run Tryz.prog w = .ok (fb k, rv k) w) ∧ (∀ w, (callFunc (fb k) #[rv k]).run Tryz.prog w = .ok (.enter (fb k) #[rv k]) w) ∧ T k (wr.setCell ⟨jb, 0, none⟩ (.slice (some ⟨g, off, none⟩) k cap))
theorem jback_gen (w:World) (jb n:Nat) (hn:n≤100000) (I T:Nat→World→Prop) (fb:Nat→Nat) (rv:Nat→Value)
 (h0:I n w) (hM:∀ k wr,I k wr→Calls Tryz.prog 30 #[ptrV jb] wr fun e w'=>e=.returned (.int .i64 (k:Int))∧w'=wr)
 (hI:∀ k wr,k < n→I (k+1) wr→BackAt jb I T fb rv k wr)
 (hC:∀ k w1,k < n→T k w1→Calls Tryz.prog (fb k) #[rv k] w1 fun e w'=>e=.returned (.tuple #[])∧I k w') (m:Int) :
 Calls Tryz.prog 31 #[ptrV jb,.int .i64 m] w fun e w'=>e=.returned (.int .i64 ((n - (max m 0).toNat:Nat):Int))∧I (min n (max m 0).toNat) w':=by
 obtain ⟨p,hp⟩:∃ p:Nat,(max m 0).toNat=p:=⟨_,rfl⟩
 have hmx:max m 0=(p:Int):=zTbe
 rw [hp]
 have H0:=Lib.hid h0
 have HM:=Lib.hid hM
 have HI:=Lib.hid hI
 have HC:=Lib.hid hC
 have HMX:=Lib.hid hmx
 unfold ptrV at HM ⊢
 clear h0 hM hI hC hp
 go_enter Tryz.func31,Tryz.ntmps31
 go_wp2
 clear hmx
 go_loopw [5] (fun c wr=>∃ (c' k:Nat),c=.int .i64 c'∧c'+k=n∧min n p≤k∧I k wr) (fun c _=>n - (intOf c).toNat)
 case atStart=>exact ⟨0,n,rfl,zTbe,zTbe,H0.out⟩
 case round =>
  obtain ⟨c',k,rfl,hck,hmin,hi⟩:=hrel
  have HK:=Lib.hid (HM.out k wr hi)
  by_cases hpk:p < k
  ·obtain ⟨j,rfl⟩:∃ j,k=j+1:=⟨k - 1,zTbe⟩
   obtain ⟨g,off,cap,t,c0,hc1,hc2,hf,hlt,cs,hme,hcf,hT⟩:=(HI.out j wr zTbe hi).it
   have HCJ:=Lib.hid (HC.out j _ zTbe hT)
   have hni:(j:Int)+1 - 1=(j:Int):=zTbe
   have hgt:((j:Int)+1 > (p:Int)):=zTbe
   clear hi hT
   generalize rv j=rj at *
   generalize fb j=fj at *
   go_wp2_with (go_at_call 30;refine HK.out.mono ?_;clear HK;rintro e w2 ⟨rfl,rfl⟩)
   refine HCJ.out.mono ?_
   clear HCJ
   rintro e w3 ⟨rfl,hi3⟩
   have HI3:=Lib.hid hi3
   clear hi3
   go_wp2
   go_roundw
   case rel=>exact ⟨c'+1,j,z3KH,zTbe,zTbe,HI3.out⟩
   case measure=>(simp [intOf])<;>omega
  ·have hke:k=min n p:=by omega
   have hce:c'=n - p:=zTbe
   subst hke
   subst hce
   have HII:=Lib.hid hi
   clear hi
   go_wp2_with (go_at_call 30;refine HK.out.mono ?_;clear HK;rintro e w2 ⟨rfl,rfl⟩)
   go_ret
   exact ⟨rfl,HII.out⟩
inductive StepU where
 | came (tb:Nat) (k:Key)
 | gone (tb:Nat) (rv:Value) (row:List AV)
 | turned (tb:Nat) (rv:Value) (row:List AV) (k:Key)
def StepU.recv:StepU→Value
 | .came tb k=>.agg #[ptrV tb,.string (kb k)]
 | .gone tb rv _=>.agg #[ptrV tb,rv]
 | .turned tb rv _ k=>.agg #[ptrV tb,rv,.string (kb k)]
def StepU.ty:StepU→Nat
 | .came ..=>144
 | .gone ..=>146
 | .turned ..=>148
def StepU.val (s:StepU):Value:=.iface s.ty s.recv
def rU (ub tb:Nat) (J:Option Nat):Res:=Res.blk ub 84 [ptrV tb,ptrJ J]
def resU (ub:Nat) (g:TabG) (J:Option Nat) (jv:Value) (vs:List Value) (fr:List Res):List Res:=g.res++(rU ub g.tb J::(rJ J jv vs++fr))
theorem resU_note {w0 w w':World} {F:List Nat} {ub:Nat} {g:TabG} {J:Option Nat} {jv jv':Value} {vs vs':List Value} {fr:List Res} (h:Trk w0 F w (resU ub g J jv vs fr)) (hc:Trk w (feet (rJ J jv vs)) w' (rJ J jv' vs')):Trk w0 F w' (resU ub g J jv' vs' fr):=by
 have h1:=h.use (cal:=rJ J jv vs) (rest:=g.res++(rU ub g.tb J::fr)) (perm_of_cnt fun a=>zfb9) hc
 exact h1.perm (perm_of_cnt fun a=>zfb9)
theorem resU_j {w:World} {ub:Nat} {g:TabG} {J:Option Nat} {jv:Value} {vs:List Value} {fr:List Res} (h:Sep w (resU ub g J jv vs fr)):Sep w (rJ J jv vs) :=
 (h.perm (rs':=rJ J jv vs++(g.res++(rU ub g.tb J::fr))) (perm_of_cnt fun a=>zfb9)).left
theorem resU_blk {w:World} {ub:Nat} {g:TabG} {J:Option Nat} {jv:Value} {vs:List Value} {fr:List Res} (h:Sep w (resU ub g J jv vs fr)):Blk w ub 84 [ptrV g.tb,ptrJ J] :=
 h.all (rU ub g.tb J) (by unfold resU;simp)
structure StepN (w w':World) (ub:Nat) (g:TabG) (J:Option Nat) (jv:Value) (vs:List Value) (fr:List Res) (m:List (List AV)) (l:List Value) (g':TabG) (jv':Value):Prop where
 trk:Trk w (feet (resU ub g J jv vs fr)) w' (resU ub g' J jv' (vs++l) fr)
 tab:TabE w' (feet (resU ub g' J jv' (vs++l) fr)) g'
 rows:g'.rows=m
 tb:g'.tb=g.tb
 sch:g'.S=g.S
theorem box1u (w:World) (u:Value) (hu:u.oneCell'=true):Sl (w.alloc (.cells #[u] 139)) (fun _=>True) 1 (.slice (some ⟨w.heap.size,0,none⟩) 1 1) [u].length [u] :=
 (Own.made w 139 1 [u] [] 1 1 rfl (Ones.nil.cons hu) (Nat.le_refl _) zdUY zPXO).sl (fun _ _=>trivial)
theorem StepN.note {w w2 w3 w4:World} {ub:Nat} {g g':TabG} {J:Option Nat} {jv jv':Value} {vs:List Value} {fr:List Res} {m:List (List AV)} {x:Value}
 (hT:Trk w (feet (resU ub g J jv vs fr)) w2 (resU ub g' J jv vs fr)) (hE:TabE w2 (feet (resU ub g' J jv vs fr)) g') (h1:g'.rows=m) (h2:g'.tb=g.tb) (h3:g'.S=g.S)
 (hb:Below w2.heap.size w2 w3) (hn:Trk w3 (feet (rJ J jv vs)) w4 (rJ J jv' (vs++[x]))):StepN w w4 ub g J jv vs fr m [x] g' jv':=by
 have hT3:=hT.below hb
 have hT4:=resU_note hT3 hn
 have h5:=resU_note (Trk.start hT3.sep) hn
 exact ⟨hT4,TabE.next (show TabE w3 _ g' from TabOK.below hE hb) h5,h1,h2,h3⟩
theorem StepN.same {w w2:World} {ub:Nat} {g g':TabG} {J:Option Nat} {jv:Value} {vs:List Value} {fr:List Res} {m:List (List AV)}
 (hT:Trk w (feet (resU ub g J jv vs fr)) w2 (resU ub g' J jv vs fr)) (hE:TabE w2 (feet (resU ub g' J jv vs fr)) g') (h1:g'.rows=m) (h2:g'.tb=g.tb) (h3:g'.S=g.S):StepN w w2 ub g J jv vs fr m [] g' jv:=by
 refine ⟨?_,?_,h1,h2,h3⟩
 ·rw [List.append_nil];exact hT
 ·rw [List.append_nil];exact hE
theorem StepT.envU {w w':World} {ub:Nat} {g g':TabG} {J:Option Nat} {jv:Value} {vs:List Value} {fr:List Res} (hs:Sep w (resU ub g J jv vs fr)) (h:StepT w w' (offF (feet (resU ub g J jv vs fr))) g g') :
 Trk w (feet (resU ub g J jv vs fr)) w' (resU ub g' J jv vs fr)∧TabE w' (feet (resU ub g' J jv vs fr)) g':=by
 have h1:=StepT.env (fr:=rU ub g.tb J::(rJ J jv vs++fr)) hs h
 unfold resU
 rw [h.tb]
 exact h1
theorem uins_any (w:World) (ub:Nat) (g:TabG) (J:Option Nat) (jv:Value) (vs:List Value) (fr:List Res) (hs:Sep w (resU ub g J jv vs fr)) (hg:TabE w (feet (resU ub g J jv vs fr)) g)
 (rv:Value) (row:List AV) (hr:Sl w (offF (feet (resU ub g J jv vs fr))) 3 rv row.length (rowCells row)) (hf:∀ a∈row,fit64 a.n) (hrl:row.length≤1000) (hvl:vs.length≤90000) :
 Calls Tryz.prog 43 #[ptrV ub,rv] w fun e w'=>e=.returned (.int .i64 (insMd g.S g.rows row).2)∧∃ g' jv',StepN w w' ub g J jv vs fr (insMd g.S g.rows row).1 (if (insMd g.S g.rows row).2=0 then [(StepU.came g.tb (kfS g.S 0 row)).val] else []) g' jv':=by
 obtain ⟨pr,cr,rfl,_,_⟩:=hr.form
 have hbk:=resU_blk hs
 have c0:=zz3f
 have c1:=zSWO
 have hlt:=hbk.lt
 have HS:=Lib.hid hs
 have HG:=Lib.hid hg
 have HR0:=Lib.hid hr
 have HF:=Lib.hid hf
 have HI:=Lib.hid (tins_md w _ g (hg.w hs) _ _ row hr hf hrl)
 have hz:=chk_zero hg.st.right row
 have hib:(insMd g.S g.rows row).2=0→fitB g.S.cols row=true:=fun h=>by
  cases hft:fitB g.S.cols row with
  | true=>rfl
  | false=>unfold insMd at h;rw [if_pos hft] at h;cases h
 have HZ:Hid ((insMd g.S g.rows row).2=0→chkS g.S 0 row=0):=Lib.hid fun h=>hz.1 (hib h)
 clear hs hg hr hf hbk hz hib
 generalize (insMd g.S g.rows row).2=er at *
 generalize (insMd g.S g.rows row).1=m' at *
 have hee:=zrdc
 rw [hee ub]
 clear hee
 go_enter Tryz.func43,Tryz.ntmps43
 go_wp2_with fail
 clear c0 c1 hlt
 refine HI.out.mono ?_
 clear HI
 rintro e w2 ⟨rfl,g',hst,hrows⟩
 obtain ⟨hT,hE⟩:=hst.envU HS.out
 have hbk:=resU_blk hT.sep
 have c0:=zIeB
 have c1:=zPM6
 have hlt:=hbk.lt
 have HT:=Lib.hid hT
 have HE:=Lib.hid hE
 have HR:=Lib.hid hrows
 have HTB:=Lib.hid hst.tb
 have HSC:=Lib.hid hst.sch
 clear hst hrows hbk
 by_cases he:er=0
 ·subst he
  have hK:=tkey_any w2 _ g' hE hT.sep.left _ _ row (Sl.next HR0.out hT) HF.out hrl (by rw [HSC.out];exact HZ.out rfl)
  rw [HTB.out,HSC.out] at hK
  have HK:=Lib.hid hK
  clear hT hE hK
  go_wp2_with fail
  clear c0 c1 hlt
  refine HK.out.mono ?_
  clear HK
  rintro e w3 ⟨rfl,hb3⟩
  have hbk:=resU_blk (HT.out.below hb3).sep
  have c0:=zPYV
  have c1:w3.cell? ⟨ub,1,none⟩=some (ptrJ J):=hbk.cell 1
  have hlt:=hbk.lt
  have HB3:=Lib.hid hb3
  have hx1:(Value.iface 144 (.agg #[.pointer (some ⟨g.tb,0,none⟩),.string (kb (kfS g.S 0 row))])).oneCell'=true:=rfl
  have hb4:Below w3.heap.size w3 (w3.alloc (.cells #[.iface 144 (.agg #[.pointer (some ⟨g.tb,0,none⟩),.string (kb (kfS g.S 0 row))])] 139)).drew:=((Below.refl _ _).alloc (Nat.le_refl _) _).drew
  have HB4:=Lib.hid (hb3.trans (hb4.mono hb3.size))
  have hag:Agree (fun q=>q=ub) w3.drew (w3.alloc (.cells #[.iface 144 (.agg #[.pointer (some ⟨g.tb,0,none⟩),.string (kb (kfS g.S 0 row))])] 139)).drew:=fun b o hb=>by
   subst hb
   exact hb4.cell (p:=⟨b,o,none⟩) hlt
  have HN:=Lib.hid (note_u _ J jv vs ((resU_j (HT.out.below hb3).sep).below hb4) _ _ _ ((box1u w3 _ hx1).below (Below.refl _ _).drew) zTbe zPXO)
  clear hbk hb3 hx1 hb4
  go_upto_region 6 with fail
  refine wp_region_lit_plan [] [(0,0),(1,0),(2,0),(4,0),(5,0),(6,0),(8,0),(3,2),(7,1),(9,0),(10,0),(11,3),(12,4)] ((fun q=>q=ub)) zyVB zyVB (fun c a d v w h=>zx0I) ?_
  go_wp2_with (first|(refine stp ?_))
  clear c0 c1 hlt hag
  refine HN.out.mono ?_
  clear HN
  rintro e w4 ⟨rfl,jv',hn⟩
  have HNN:=Lib.hid hn
  clear hn
  go_wp2_with (first|(refine stp ?_))
  go_ret
  exact ⟨rfl,g',jv',StepN.note HT.out HE.out HR.out HTB.out HSC.out HB4.out HNN.out⟩
 ·have HEE:=Lib.hid he
  clear hT hE
  go_wp2
  go_ret
  exact ⟨rfl,g',jv,StepN.same HT.out HE.out HR.out HTB.out HSC.out⟩
theorem udel_any (w:World) (ub:Nat) (g:TabG) (J:Option Nat) (jv:Value) (vs:List Value) (fr:List Res) (hs:Sep w (resU ub g J jv vs fr)) (hg:TabE w (feet (resU ub g J jv vs fr)) g)
 (k:Key) (hvl:vs.length≤90000) :
 Calls Tryz.prog 45 #[ptrV ub,.string (kb k)] w fun e w'=>e=.returned (.int .i64 (delMd g.S g.rows k).2)∧∃ g' jv' l,StepN w w' ub g J jv vs fr (delMd g.S g.rows k).1 l g' jv' ∧
  (((delMd g.S g.rows k).2≠0∧l=[])∨((delMd g.S g.rows k).2=0∧∃ rv,l=[(StepU.gone g.tb rv (rowOf g k)).val]∧Sl w' (offF (feet (resU ub g' J jv' (vs++l) fr))) 3 rv (rowOf g k).length (rowCells (rowOf g k)))):=by
 have HI0:=Lib.hid (fun w1 (h:TabW w1 (offF (feet (resU ub g J jv vs fr))) g)=>tdel_md w1 _ g h k)
 have hbk:=resU_blk hs
 have c0:=zz3f
 have c1:=zSWO
 have hlt:=hbk.lt
 have HS:=Lib.hid hs
 have HG:=Lib.hid hg
 have HGT:=Lib.hid (tget_any w _ g hg hs.left k)
 have hrk:(rowOf g k).length≤1000:=by obtain ⟨_,_,_,_,_,h⟩:=look_row hg k;exact h
 have hee:=zrdc
 rw [hee ub]
 clear hee hs hg hbk
 generalize kb k=ks at *
 generalize (delMd g.S g.rows k).2=er at *
 generalize (delMd g.S g.rows k).1=m' at *
 go_enter Tryz.func45,Tryz.ntmps45
 go_wp2_with fail
 clear c0 c1 hlt
 refine HGT.out.mono ?_
 clear HGT
 rintro e w1 ⟨v',rfl,ho,hb1,hnew⟩
 have hs1:=HS.out.below hb1
 have hT1:=Trk.of_below HS.out hb1
 have hg1:=zW5L
 have hsl:Sl w1 (offF (feet (resU ub g J jv vs fr))) 3 v' (rowOf g k).length (rowCells (rowOf g k)):=ho.sl fun q hq h=>by
  have h1:=HS.out.lt q h
  have h2:=hnew q hq
  omega
 obtain ⟨pw,cw,rfl,_,_⟩:=hsl.form
 have hbk:=resU_blk hs1
 have c0:=zzcO
 have c1:w1.cell? ⟨ub,1,none⟩=some (ptrJ J):=hbk.cell 1
 have hlt:=hbk.lt
 have HS1:=Lib.hid hs1
 have HT1:=Lib.hid hT1
 have HSL:=Lib.hid hsl
 have HI:=Lib.hid (HI0.out w1 (hg1.w hs1))
 clear HI0 ho hb1 hnew hs1 hT1 hg1 hsl hbk
 go_wp2_with fail
 clear c0 c1 hlt
 refine HI.out.mono ?_
 clear HI
 rintro e w2 ⟨rfl,g',hst,hrows⟩
 obtain ⟨hT,hE⟩:=hst.envU HS1.out
 have hbk:=resU_blk hT.sep
 have c0:=zIeB
 have c1:=zPM6
 have hlt:=hbk.lt
 have HT:=Lib.hid hT
 have HE:=Lib.hid hE
 have HR:=Lib.hid hrows
 have HTB:=Lib.hid hst.tb
 have HSC:=Lib.hid hst.sch
 have HSL2:=Lib.hid (Sl.next HSL.out hT)
 have hsep:=hT.sep
 clear hst hrows hbk hT hE
 by_cases he:er=0
 ·subst he
  have hx1:(Value.iface 146 (.agg #[.pointer (some ⟨g.tb,0,none⟩),.slice pw (rowOf g k).length cw])).oneCell'=true:=rfl
  have hb4:Below w2.heap.size w2 (w2.alloc (.cells #[.iface 146 (.agg #[.pointer (some ⟨g.tb,0,none⟩),.slice pw (rowOf g k).length cw])] 139)).drew:=((Below.refl _ _).alloc (Nat.le_refl _) _).drew
  have HB4:=Lib.hid hb4
  have hag:Agree (fun q=>q=ub) w2.drew (w2.alloc (.cells #[.iface 146 (.agg #[.pointer (some ⟨g.tb,0,none⟩),.slice pw (rowOf g k).length cw])] 139)).drew:=fun b o hb=>by
   subst hb
   exact hb4.cell (p:=⟨b,o,none⟩) hlt
  have HN:=Lib.hid (note_u _ J jv vs ((resU_j hsep).below hb4) _ _ _ ((box1u w2 _ hx1).below (Below.refl _ _).drew) zTbe zPXO)
  clear hsep hx1 hb4
  go_upto_region 6 with fail
  refine wp_region_lit_plan [] [(0,0),(1,0),(2,0),(4,0),(5,0),(6,0),(8,0),(3,2),(7,1),(9,0),(10,0),(11,3),(12,4)] ((fun q=>q=ub)) zyVB zyVB (fun c a d v w h=>zx0I) ?_
  go_wp2_with (first|(refine stp ?_))
  clear c0 c1 hlt hag
  refine HN.out.mono ?_
  clear HN
  rintro e w4 ⟨rfl,jv',hn⟩
  have HNN:=Lib.hid hn
  clear hn
  go_wp2_with (first|(refine stp ?_))
  go_ret
  have hfin:=StepN.note HT.out HE.out HR.out HTB.out HSC.out HB4.out HNN.out
  refine ⟨rfl,g',jv',_,⟨Trk.after HT1.out hfin.trk,hfin.tab,hfin.rows,hfin.tb,hfin.sch⟩,⟨_,rfl,Sl.next HSL.out hfin.trk⟩⟩
 ·have HEE:=Lib.hid he
  clear hsep
  exact zRaI
theorem uupd_any (w:World) (ub:Nat) (g:TabG) (J:Option Nat) (jv:Value) (vs:List Value) (fr:List Res) (hs:Sep w (resU ub g J jv vs fr)) (hg:TabE w (feet (resU ub g J jv vs fr)) g)
 (k:Key) (rv:Value) (row:List AV) (hr:Sl w (offF (feet (resU ub g J jv vs fr))) 3 rv row.length (rowCells row)) (hf:∀ a∈row,fit64 a.n) (hrl:row.length≤1000) (hvl:vs.length≤90000) :
 Calls Tryz.prog 44 #[ptrV ub,.string (kb k),rv] w fun e w'=>e=.returned (.int .i64 (updMd g.S g.rows k row).2)∧∃ g' jv' l,StepN w w' ub g J jv vs fr (updMd g.S g.rows k row).1 l g' jv' ∧
  (((updMd g.S g.rows k row).2≠0∧l=[])∨((updMd g.S g.rows k row).2=0∧∃ rv,l=[(StepU.turned g.tb rv (rowOf g k) (kfS g.S 0 row)).val]∧Sl w' (offF (feet (resU ub g' J jv' (vs++l) fr))) 3 rv (rowOf g k).length (rowCells (rowOf g k)))):=by
 obtain ⟨pr,cr,rfl,_,_⟩:=hr.form
 have HI0:=Lib.hid (fun w1 (hT:Trk w (feet (resU ub g J jv vs fr)) w1 (resU ub g J jv vs fr)) (h:TabW w1 (offF (feet (resU ub g J jv vs fr))) g)=>tupd_md w1 _ g h k _ row (Sl.next hr hT) hf hrl)
 have HR0:=Lib.hid hr
 have HF:=Lib.hid hf
 have hz:=chk_zero hg.st.right row
 have hib:(updMd g.S g.rows k row).2=0→fitB g.S.cols row=true:=fun h=>by
  cases hft:fitB g.S.cols row with
  | true=>rfl
  | false =>
   unfold updMd at h
   split at h
   ·cases h
   ·cases h
 have HZ:Hid ((updMd g.S g.rows k row).2=0→chkS g.S 0 row=0):=Lib.hid fun h=>hz.1 (hib h)
 clear hr hf hz hib
 have hbk:=resU_blk hs
 have c0:=zz3f
 have c1:=zSWO
 have hlt:=hbk.lt
 have HS:=Lib.hid hs
 have HG:=Lib.hid hg
 have HGT:=Lib.hid (tget_any w _ g hg hs.left k)
 have hrk:(rowOf g k).length≤1000:=by obtain ⟨_,_,_,_,_,h⟩:=look_row hg k;exact h
 have hee:=zrdc
 rw [hee ub]
 clear hee hs hg hbk
 generalize kb k=ks at *
 generalize (updMd g.S g.rows k row).2=er at *
 generalize (updMd g.S g.rows k row).1=m' at *
 go_enter Tryz.func44,Tryz.ntmps44
 go_wp2_with fail
 clear c0 c1 hlt
 refine HGT.out.mono ?_
 clear HGT
 rintro e w1 ⟨v',rfl,ho,hb1,hnew⟩
 have hs1:=HS.out.below hb1
 have hT1:=Trk.of_below HS.out hb1
 have hg1:=zW5L
 have hsl:Sl w1 (offF (feet (resU ub g J jv vs fr))) 3 v' (rowOf g k).length (rowCells (rowOf g k)):=ho.sl fun q hq h=>by
  have h1:=HS.out.lt q h
  have h2:=hnew q hq
  omega
 obtain ⟨pw,cw,rfl,_,_⟩:=hsl.form
 have hbk:=resU_blk hs1
 have c0:=zzcO
 have c1:w1.cell? ⟨ub,1,none⟩=some (ptrJ J):=hbk.cell 1
 have hlt:=hbk.lt
 have HS1:=Lib.hid hs1
 have HT1:=Lib.hid hT1
 have HSL:=Lib.hid hsl
 have HI:=Lib.hid (HI0.out w1 hT1 (hg1.w hs1))
 clear HI0 ho hb1 hnew hs1 hT1 hg1 hsl hbk
 go_wp2_with fail
 clear c0 c1 hlt
 refine HI.out.mono ?_
 clear HI
 rintro e w2 ⟨rfl,g',hst,hrows⟩
 obtain ⟨hT,hE⟩:=hst.envU HS1.out
 have hbk:=resU_blk hT.sep
 have c0:=zIeB
 have c1:=zPM6
 have hlt:=hbk.lt
 have HT:=Lib.hid hT
 have HE:=Lib.hid hE
 have HR:=Lib.hid hrows
 have HTB:=Lib.hid hst.tb
 have HSC:=Lib.hid hst.sch
 by_cases he:er=0
 ·subst he
  have hK:=tkey_any w2 _ g' hE hT.sep.left _ _ row (Sl.next (Sl.next HR0.out HT1.out) hT) HF.out hrl (by rw [HSC.out];exact HZ.out rfl)
  rw [HTB.out,HSC.out] at hK
  have HK:=Lib.hid hK
  clear hst hrows hbk hT hE hK
  obtain ⟨k2,hk2⟩:∃ k2,kfS g.S 0 row=k2:=⟨_,rfl⟩
  rw [hk2] at HK
  have HK2:=Lib.hid hk2
  clear hk2
  go_wp2_with fail
  clear c0 c1 hlt
  refine HK.out.mono ?_
  clear HK
  rintro e w3 ⟨rfl,hb3⟩
  have hsep:=(HT.out.below hb3).sep
  have hbk:=resU_blk hsep
  have c0:=zPYV
  have c1:w3.cell? ⟨ub,1,none⟩=some (ptrJ J):=hbk.cell 1
  have hlt:=hbk.lt
  have hx1:(Value.iface 148 (.agg #[.pointer (some ⟨g.tb,0,none⟩),.slice pw (rowOf g k).length cw,.string (kb k2)])).oneCell'=true:=rfl
  have hb4:Below w3.heap.size w3 (w3.alloc (.cells #[.iface 148 (.agg #[.pointer (some ⟨g.tb,0,none⟩),.slice pw (rowOf g k).length cw,.string (kb k2)])] 139)).drew:=((Below.refl _ _).alloc (Nat.le_refl _) _).drew
  have HB4:=Lib.hid hb4
  have hag:Agree (fun q=>q=ub) w3.drew (w3.alloc (.cells #[.iface 148 (.agg #[.pointer (some ⟨g.tb,0,none⟩),.slice pw (rowOf g k).length cw,.string (kb k2)])] 139)).drew:=fun b o hb=>by
   subst hb
   exact hb4.cell (p:=⟨b,o,none⟩) hlt
  have HN:=Lib.hid (note_u _ J jv vs ((resU_j hsep).below hb4) _ _ _ ((box1u w3 _ hx1).below (Below.refl _ _).drew) zTbe zPXO)
  have HB34:=Lib.hid (hb3.trans (hb4.mono hb3.size))
  clear hbk hb3 hsep hx1 hb4
  go_upto_region 7 with fail
  refine wp_region_lit_plan [] [(0,0),(1,0),(2,0),(4,0),(5,0),(6,0),(8,0),(10,0),(3,2),(7,1),(9,0),(11,0),(12,0),(13,3),(14,4)] ((fun q=>q=ub)) zyVB zyVB (fun c a d v w h=>zx0I) ?_
  go_wp2_with (first|(refine stp ?_))
  clear c0 c1 hlt hag
  refine HN.out.mono ?_
  clear HN
  rintro e w4 ⟨rfl,jv',hn⟩
  have HNN:=Lib.hid hn
  clear hn
  go_wp2_with (first|(refine stp ?_))
  go_ret
  have hfin:=StepN.note HT.out HE.out HR.out HTB.out HSC.out HB34.out HNN.out
  refine ⟨rfl,g',jv',_,⟨Trk.after HT1.out hfin.trk,hfin.tab,hfin.rows,hfin.tb,hfin.sch⟩,⟨_,by rw [HK2.out];rfl,Sl.next HSL.out hfin.trk⟩⟩
 ·have HEE:=Lib.hid he
  clear hst hrows hbk hT hE
  exact zRaI
theorem inP_emp (S:SchV) (l:List (List AV)):l.filter (inP S [])=l:=List.filter_eq_self.2 fun _ _=>rfl
def StepU.tb:StepU→Nat
 | .came tb _=>tb
 | .gone tb _ _=>tb
 | .turned tb _ _ _=>tb
def StepU.un (S:SchV) (m:List (List AV)):StepU→List (List AV)
 | .came _ k=>(delMd S m k).1
 | .gone _ _ row=>(insMd S m row).1
 | .turned _ _ row k=>(updMd S m k row).1
def backT (S:SchV) (ls:List StepU) (m:List (List AV)):List (List AV):=ls.foldr (fun s m=>s.un S m) m
def StepU.at (w:World) (F:List Nat):StepU→Prop
 | .came _ _=>True
 | .gone _ rv row=>Sl w (offF F) 3 rv row.length (rowCells row)∧(∀ a∈row,fit64 a.n)∧row.length≤1000
 | .turned _ rv row _=>Sl w (offF F) 3 rv row.length (rowCells row)∧(∀ a∈row,fit64 a.n)∧row.length≤1000
theorem StepU.at_next {w w':World} {rs rs':List Res} {s:StepU} (h:s.at w (feet rs)) (hT:Trk w (feet rs) w' rs'):s.at w' (feet rs'):=by
 cases s with
 | came=>trivial
 | gone tb rv row=>exact ⟨Sl.next h.1 hT,h.2⟩
 | turned tb rv row k=>exact ⟨Sl.next h.1 hT,h.2⟩
theorem StepU.at_perm {w:World} {x y:List Res} {s:StepU} (h:s.at w (feet x)) (hp:x.Perm y):s.at w (feet y):=by
 have hw:∀ {v:Value} {n:Nat} {cs:List Value},Sl w (offF (feet x)) 3 v n cs→Sl w (offF (feet y)) 3 v n cs:=fun h=>h.mono (Nat.le_refl _) (fun _ _ _=>rfl) (fun k hk _ h1=>hk (feet_perm hp.symm k h1))
 cases s with
 | came=>trivial
 | gone tb rv row=>exact ⟨hw h.1,h.2⟩
 | turned tb rv row k=>exact ⟨hw h.1,h.2⟩
theorem RowsV.ins {S:SchV} {m:List (List AV)} (h:RowsV S m) {row:List AV} (hf:∀ a∈row,fit64 a.n):RowsV S (insMd S m row).1:=by
 by_cases he:(insMd S m row).2=0
 ·exact (ins_back h hf he).2.1
 ·rw [ins_no he];exact h
theorem RowsV.del {S:SchV} {m:List (List AV)} (h:RowsV S m) (k:Key):RowsV S (delMd S m k).1:=by
 by_cases he:(delMd S m k).2=0
 ·obtain ⟨_,_,_,_,_,h1,_⟩:=del_back h he;exact h1
 ·rw [del_no he];exact h
theorem RowsV.upd {S:SchV} {m:List (List AV)} (h:RowsV S m) (k:Key) {row:List AV} (hf:∀ a∈row,fit64 a.n):RowsV S (updMd S m k row).1:=by
 by_cases he:(updMd S m k row).2=0
 ·obtain ⟨_,_,_,_,_,h1,_⟩:=upd_back h hf he;exact h1
 ·rw [upd_no he];exact h
theorem RowsV.un {S:SchV} {m:List (List AV)} (h:RowsV S m) {w:World} {F:List Nat} {s:StepU} (hs:s.at w F):RowsV S (s.un S m):=by
 cases s with
 | came tb k=>exact h.del k
 | gone tb rv row=>exact h.ins hs.2.1
 | turned tb rv row k=>exact h.upd k hs.2.1
theorem RowsAt.next {w w':World} {rs rs':List Res} {v:Value} {rows:List RowV} (h:RowsAt w (offF (feet rs)) v rows) (hT:Trk w (feet rs) w' rs'):RowsAt w' (offF (feet rs')) v rows :=
 ⟨Sl.next h.1 hT,fun r hr=>Sl.next (h.2 r hr) hT⟩
theorem del_head {S:SchV} {m:List (List AV)} (h:RowsV S m) {r:List AV} {t:List (List AV)} (e:m=r::t):delMd S m (kfS S 0 r)=(t,0)∧insMd S t r=(m,0):=by
 subst e
 have h1:=del_at h (j:=0) zPXO
 have h3:delMd S (r::t) (kfS S 0 r)=(t,0):=h1
 refine ⟨h3,?_⟩
 have h4:=(h.fresh (j:=0) zPXO).ins (h.erase 0) (by have:=h.lim;simp at this ⊢;omega)
 have h5:=h.again (j:=0) zPXO
 exact h4.trans (by rw [h5])
def ClearSt (w:World) (ub:Nat) (g:TabG) (J:Option Nat) (jv:Value) (vs:List Value) (fr:List Res) (lv:Value) (rws:List RowV) (i:Nat) (wr:World):Prop :=
 ∃ g' jv' ls,StepN w wr ub g J jv vs fr (g.rows.drop i) (ls.map StepU.val) g' jv'∧(∀ s∈ls,s.at wr (feet (resU ub g' J jv' (vs++ls.map StepU.val) fr))∧s.tb=g.tb)∧backT g.S ls (g.rows.drop i)=g.rows∧ls.length=i∧RowsV g.S (g.rows.drop i)∧RowsAt wr (offF (feet (resU ub g' J jv' (vs++ls.map StepU.val) fr))) lv rws
theorem resU_tab {w:World} {ub:Nat} {g:TabG} {J:Option Nat} {jv:Value} {vs:List Value} {fr:List Res} (h:Sep w (resU ub g J jv vs fr)):Sep w g.res:=h.left
theorem backT_snoc (S:SchV) (ls:List StepU) (s:StepU) (m:List (List AV)):backT S (ls++[s]) m=backT S ls (s.un S m):=by unfold backT;rw [List.foldr_append];rfl
theorem ClearSt.next {w wr w':World} {ub:Nat} {g:TabG} {J:Option Nat} {jv:Value} {vs:List Value} {fr:List Res} {i:Nat} {g':TabG} {jv':Value} {ls:List StepU} (hi:i < g.rows.length)
 (h:StepN w wr ub g J jv vs fr (g.rows.drop i) (ls.map StepU.val) g' jv') (ha:∀ s∈ls,s.at wr (feet (resU ub g' J jv' (vs++ls.map StepU.val) fr))∧s.tb=g.tb) (hb:backT g.S ls (g.rows.drop i)=g.rows) (hl:ls.length=i) (hv:RowsV g.S (g.rows.drop i)) {lv:Value} {rws:List RowV} (hra:RowsAt wr (offF (feet (resU ub g' J jv' (vs++ls.map StepU.val) fr))) lv rws)
 {w1:World} (hb1:Below wr.heap.size wr w1) {g2:TabG} {jv2:Value} {l:List Value}
 (hd:StepN w1 w' ub g' J jv' (vs++ls.map StepU.val) fr (delMd g'.S g'.rows (kfS g.S 0 g.rows[i])).1 l g2 jv2) (hn:(((delMd g'.S g'.rows (kfS g.S 0 g.rows[i])).2≠0∧l=[])∨((delMd g'.S g'.rows (kfS g.S 0 g.rows[i])).2=0∧∃ rv,l=[(StepU.gone g'.tb rv (rowOf g' (kfS g.S 0 g.rows[i]))).val]∧Sl w' (offF (feet (resU ub g2 J jv2 (vs++ls.map StepU.val++l) fr))) 3 rv (rowOf g' (kfS g.S 0 g.rows[i])).length (rowCells (rowOf g' (kfS g.S 0 g.rows[i]))))))
 (hrow:rowOf g' (kfS g.S 0 g.rows[i])=g.rows[i]):ClearSt w ub g J jv vs fr lv rws (i+1) w':=by
 have hsp:g.rows.drop i=g.rows[i]::g.rows.drop (i+1):=List.drop_eq_getElem_cons hi
 obtain ⟨hdl,hin⟩:=del_head hv hsp
 rw [h.sch,h.rows,hdl] at hd hn
 rw [hrow] at hn
 rcases hn with ⟨h1,_⟩|⟨_,rv,rfl,hsl⟩
 ·exact absurd rfl h1
 have hok:=hv.ok g.rows[i] (by rw [hsp];exact List.mem_cons_self)
 have hlen:=hok.len
 have hc8:=(rightS_by hv.right).2.2.2.2.2.2.2.2
 have hT:Trk w (feet (resU ub g J jv vs fr)) w' (resU ub g2 J jv2 (vs++(ls++[StepU.gone g'.tb rv g.rows[i]]).map StepU.val) fr):=by
  have h2:=Trk.after (h.trk.below hb1) hd.trk
  rw [List.map_append,←List.append_assoc]
  exact h2
 have hTd:=hd.trk
 refine ⟨g2,jv2,ls++[StepU.gone g'.tb rv g.rows[i]],⟨hT,?_,hd.rows,hd.tb.trans h.tb,hd.sch.trans h.sch⟩,fun s hs=>?_,?_,by rw [List.length_append,hl];rfl,?_,?_⟩
 ·have:=hd.tab
  rw [List.map_append,←List.append_assoc]
  exact this
 ·rw [List.map_append,←List.append_assoc]
  rcases List.mem_append.1 hs with h3|h3
  ·obtain ⟨h4,h5⟩:=ha s h3
   exact ⟨StepU.at_next (w:=w1) (StepU.at_next h4 (Trk.of_below h.trk.sep hb1)) hTd,h5⟩
  ·rw [List.mem_singleton.1 h3]
   exact ⟨⟨hsl,hok.n64,zTbe⟩,h.tb⟩
 ·rw [backT_snoc]
  show backT g.S ls (insMd g.S (g.rows.drop (i+1)) g.rows[i]).1=g.rows
  rw [hin]
  exact hb
 ·have:=hv.erase 0
  rw [hsp] at this
  exact this
 ·rw [List.map_append,←List.append_assoc]
  exact RowsAt.next (w:=w1) (RowsAt.next hra (Trk.of_below h.trk.sep hb1)) hTd
theorem uclear_any (w:World) (ub:Nat) (g:TabG) (J:Option Nat) (jv:Value) (vs:List Value) (fr:List Res) (hs:Sep w (resU ub g J jv vs fr)) (hg:TabE w (feet (resU ub g J jv vs fr)) g) (hrv:RowsV g.S g.rows) (hvl:vs.length≤80000) :
 Calls Tryz.prog 46 #[ptrV ub] w fun e w'=>e=.returned (.int .i64 0)∧∃ lv rws,ClearSt w ub g J jv vs fr lv rws g.rows.length w':=by
 have hbk:=resU_blk hs
 have c0:=zz3f
 have c1:=zSWO
 have hlt:=hbk.lt
 have HS:=Lib.hid hs
 have HG:=Lib.hid hg
 have HRW:=Lib.hid (trows_any w _ g hg hs.left (fun _=>True) (.slice none 0 0) [] (Sl.zero w _ 1))
 have HRV:=Lib.hid hrv
 obtain ⟨n,hn⟩:∃ n,g.rows.length=n:=⟨_,rfl⟩
 have hn1:n≤1000:=by rw [←hn,TabG.rows_len];exact hg.lim
 rw [hn]
 have HNN:=Lib.hid hn
 have hee:=zrdc
 rw [hee ub]
 clear hee hs hg hbk hrv hn
 go_enter Tryz.func46,Tryz.ntmps46
 go_wp2_with fail
 clear c0 c1 hlt
 refine HRW.out.mono ?_
 clear HRW
 rintro e w1 ⟨lv,rws,rfl,hsq,hsm⟩
 rw [inP_emp] at hsm
 have hb1:=hsq.2.2.1
 have hs1:=HS.out.below hb1
 have hT1:=Trk.of_below HS.out hb1
 have hra:RowsAt w1 (offF (feet (resU ub g J jv vs fr))) lv rws:=by
  have h1:=hsq.at
  have h2:∀ q,w.heap.size≤q→offF (feet (resU ub g J jv vs fr)) q:=fun q hq h=>by have:=HS.out.lt q h;omega
  exact ⟨h1.1.mono (Nat.le_refl _) (fun _ _ _=>rfl) (fun q hq _=>h2 q hq),fun r hr=>(h1.2 r hr).mono (Nat.le_refl _) (fun _ _ _=>rfl) (fun q hq _=>h2 q hq)⟩
 obtain ⟨pl,cl,hlv,_,_⟩:=own_formT hsq.1
 have hrl:rws.length=n:=by have:=congrArg List.length hsm;rw [List.length_map] at this;rw [this];exact HNN.out
 rw [hrl] at hlv
 subst hlv
 have HRA:=Lib.hid hra
 have HT1:=Lib.hid hT1
 have HSM:=Lib.hid hsm
 have HRL:=Lib.hid hrl
 have hrf:∀ r∈rws,∃ p n c,r.v=.slice p n c:=fun r hr=>by
  obtain ⟨p,c,h1,_⟩:=(hra.2 r hr).form
  exact ⟨p,_,c,h1⟩
 have HRF:=Lib.hid hrf
 have h0:ClearSt w ub g J jv vs fr (.slice pl n cl) rws 0 w1:=by
  refine ⟨g,jv,[],⟨?_,?_,rfl,rfl,rfl⟩,zPXO,rfl,rfl,HRV.out,?_⟩
  ·rw [List.map_nil,List.append_nil];exact hT1
  ·rw [List.map_nil,List.append_nil];exact TabOK.below HG.out hb1
  ·rw [List.map_nil,List.append_nil];exact hra
 have H0:=Lib.hid h0
 clear hsq hsm hb1 hs1 hT1 hra hrl hrf h0
 go_wp2
 go_loopw [22] (fun iv wr=>∃ i:Nat,iv=.int .i64 i∧i≤n∧ClearSt w ub g J jv vs fr (.slice pl n cl) rws i wr) (fun iv _=>n - (intOf iv).toNat)
 case atStart=>exact ⟨0,rfl,Nat.zero_le _,H0.out⟩
 case round =>
  obtain ⟨i,rfl,hi,hst⟩:=hrel
  obtain ⟨wo,rfl⟩:=zDit
  by_cases hin:i < n
  ·obtain ⟨g',jv',ls,hN,ha,hb,hl,hv,hra⟩:=hst
   have hir:i < rws.length:=by rw [HRL.out];exact hin
   have hig:i < g.rows.length:=by rw [HNN.out];exact hin
   have hri:rws[i].l=g.rows[i]:=by
    have h1:(rws.map RowV.l)[i]'(by rw [List.length_map];exact hir)=rws[i].l:=List.getElem_map _
    rw [←h1]
    congr 1
   have hsp:g.rows.drop i=g.rows[i]::g.rows.drop (i+1):=List.drop_eq_getElem_cons hig
   have hmem:g.rows[i]∈g'.rows:=by rw [hN.rows,hsp];exact List.mem_cons_self
   have hok:=hv.ok g.rows[i] (by rw [hsp];exact List.mem_cons_self)
   have hc8:=(rightS_by hv.right).2.2.2.2.2.2.2.2
   obtain ⟨gr,or_,cpr,hvr,ek⟩:=hra.at hir
   rw [HRL.out] at hvr
   cases hvr
   have hgr:=World.block_lt_of_cell? _ _ ek
   have hmk:rws[i]∈rws:=List.getElem_mem hir
   obtain ⟨px,nx,cx,hxv⟩:=HRF.out _ hmk
   have hsl:=hra.2 _ hmk
   rw [hxv,hri] at hsl
   rw [hxv] at ek
   have hrk:=rowOf_key (g:=g') hN.tab hmem
   rw [hN.sch] at hrk
   have hK:=tkey_any wo _ g' hN.tab (resU_tab hN.trk.sep) _ _ g.rows[i] hsl hok.n64 (by have:=hok.len;omega) (by rw [hN.sch];exact (chk_zero hv.right _).1 hok.fit)
   rw [hN.tb,hN.sch] at hK
   have hbk:=resU_blk hN.trk.sep
   have c0:wo.cell? ⟨ub,0,none⟩=some (.pointer (some ⟨g.tb,0,none⟩)):=(hN.tb▸hbk).cell 0
   have hlt:=hbk.lt
   have hlv:(vs++ls.map StepU.val).length≤90000:=by rw [List.length_append,List.length_map,hl];omega
   have HK:=Lib.hid hK
   have HD:=Lib.hid (fun w2 (hb2:Below wo.heap.size wo w2)=>udel_any w2 ub g' J jv' (vs++ls.map StepU.val) fr (hN.trk.sep.below hb2) (TabOK.below hN.tab hb2) (kfS g.S 0 g.rows[i]) hlv)
   have HNX:=Lib.hid (fun w1 (hb1:Below wo.heap.size wo w1) w' g2 jv2 l hd hn=>ClearSt.next (w':=w') (g2:=g2) (jv2:=jv2) (l:=l) hig hN ha hb hl hv hra hb1 hd hn hrk)
   clear hN ha hb hl hv hra hir hri hsp hmem hok hmk hxv hsl hrk hK hbk
   generalize kb (kfS g.S 0 g.rows[i])=ks at *
   go_wp2_with fail
   clear ek c0 hlt
   refine HK.out.mono ?_
   clear HK
   rintro e w2 ⟨rfl,hb2⟩
   have HD2:=Lib.hid (HD.out w2 hb2)
   have HX2:=Lib.hid (HNX.out w2 hb2)
   clear HD HNX hb2
   go_wp2_with fail
   refine HD2.out.mono ?_
   clear HD2
   rintro e w3 ⟨rfl,g2,jv2,l,hN2,hdis⟩
   have HFIN:=Lib.hid (HX2.out w3 g2 jv2 l hN2 hdis)
   clear HX2 hN2 hdis
   go_wp2
   go_roundw
   case rel=>exact ⟨i+1,z3KH,zTbe,HFIN.out⟩
   case measure=>(simp [intOf])<;>omega
  ·obtain rfl:i=n:=by omega
   have HST:=Lib.hid hst
   clear hst
   go_wp2
   go_ret
   exact ⟨rfl,_,_,HST.out⟩
def StepU.fn:StepU→Nat
 | .came ..=>270
 | .gone ..=>271
 | .turned ..=>272
def UnOut (w:World) (s:StepU) (g:TabG) (fr:List Res) (e:Ending) (w':World):Prop :=
 e=.returned (.tuple #[])∧∃ g',Trk w (feet (g.res++fr)) w' (g'.res++fr)∧TabE w' (feet (g'.res++fr)) g'∧g'.rows=s.un g.S g.rows∧g'.tb=g.tb∧g'.S=g.S
theorem un_out {w w1 w':World} {s:StepU} {g g':TabG} {fr:List Res} (hs:Sep w (g.res++fr)) (hb:Below w.heap.size w w1) (hst:StepT w1 w' (offF (feet (g.res++fr))) g g') (hr:g'.rows=s.un g.S g.rows):UnOut w s g fr (.returned (.tuple #[])) w':=by
 obtain ⟨hT,hE⟩:=hst.env (hs.below hb)
 exact ⟨rfl,g',Trk.after (Trk.of_below hs hb) hT,hE,hr,hst.tb,hst.sch⟩
theorem unback_any (w:World) (s:StepU) (g:TabG) (fr:List Res) (hs:Sep w (g.res++fr)) (hg:TabE w (feet (g.res++fr)) g) (ht:s.tb=g.tb) (ha:s.at w (feet (g.res++fr))) :
 Calls Tryz.prog s.fn #[s.recv] w (UnOut w s g fr):=by
 have HS:=Lib.hid hs
 cases s with
 | came tb k =>
  obtain rfl:tb=g.tb:=ht
  have hb:Below w.heap.size w (w.alloc (.cells #[.pointer (some ⟨g.tb,0,none⟩),.string (kb k)] 144)):=(Below.refl _ _).alloc (Nat.le_refl _) _
  have HC:=Lib.hid (tdel_md _ _ g (hg.w hs |>.below hb) k)
  have HB:=Lib.hid hb
  show Calls Tryz.prog 270 #[.agg #[.pointer (some ⟨g.tb,0,none⟩),.string (kb k)]] w _
  clear hs hg ha hb
  generalize kb k=ks at *
  go_enter Tryz.func270,Tryz.ntmps270
  go_wp2_with fail
  refine HC.out.mono ?_
  rintro e w2 ⟨rfl,g',hst,hrows⟩
  have HO:=Lib.hid (un_out (s:=.came g.tb k) HS.out HB.out hst hrows)
  clear hst hrows
  go_wp2
  go_end0
  exact HO.out
 | gone tb rv row =>
  obtain rfl:tb=g.tb:=ht
  obtain ⟨hsl,hf,hrl⟩:=ha
  obtain ⟨pr,cr,rfl,_,_⟩:=hsl.form
  have hb:Below w.heap.size w (w.alloc (.cells #[.pointer (some ⟨g.tb,0,none⟩),.slice pr row.length cr] 146)):=(Below.refl _ _).alloc (Nat.le_refl _) _
  have HC:=Lib.hid (tins_md _ _ g (hg.w hs |>.below hb) _ _ row (hsl.below hb) hf hrl)
  have HB:=Lib.hid hb
  show Calls Tryz.prog 271 #[.agg #[.pointer (some ⟨g.tb,0,none⟩),.slice pr row.length cr]] w _
  clear hs hg hsl hf hrl hb
  go_enter Tryz.func271,Tryz.ntmps271
  go_wp2_with fail
  refine HC.out.mono ?_
  rintro e w2 ⟨rfl,g',hst,hrows⟩
  have HO:=Lib.hid (un_out (s:=.gone g.tb (.slice pr row.length cr) row) HS.out HB.out hst hrows)
  clear hst hrows
  go_wp2
  go_end0
  exact HO.out
 | turned tb rv row k =>
  obtain rfl:tb=g.tb:=ht
  obtain ⟨hsl,hf,hrl⟩:=ha
  obtain ⟨pr,cr,rfl,_,_⟩:=hsl.form
  have hb:Below w.heap.size w (w.alloc (.cells #[.pointer (some ⟨g.tb,0,none⟩),.slice pr row.length cr,.string (kb k)] 148)):=(Below.refl _ _).alloc (Nat.le_refl _) _
  have HC:=Lib.hid (tupd_md _ _ g (hg.w hs |>.below hb) k _ row (hsl.below hb) hf hrl)
  have HB:=Lib.hid hb
  show Calls Tryz.prog 272 #[.agg #[.pointer (some ⟨g.tb,0,none⟩),.slice pr row.length cr,.string (kb k)]] w _
  clear hs hg hsl hf hrl hb
  generalize kb k=ks at *
  go_enter Tryz.func272,Tryz.ntmps272
  go_wp2_with fail
  refine HC.out.mono ?_
  rintro e w2 ⟨rfl,g',hst,hrows⟩
  have HO:=Lib.hid (un_out (s:=.turned g.tb (.slice pr row.length cr) row k) HS.out HB.out hst hrows)
  clear hst hrows
  go_wp2
  go_end0
  exact HO.out
theorem meth_un (tb:Nat) (p:Option Addr) (n c:Nat) (k:ByteArray) (w:World) :
 (method 444 144 (.agg #[.pointer (some ⟨tb, 0, none⟩), .string k]) "Back").run Tryz.prog w = .ok (270, .agg #[.pointer (some ⟨tb, 0, none⟩), .string k]) w ∧
 (method 444 146 (.agg #[.pointer (some ⟨tb, 0, none⟩), .slice p n c]) "Back").run Tryz.prog w = .ok (271, .agg #[.pointer (some ⟨tb, 0, none⟩), .slice p n c]) w ∧
 (method 444 148 (.agg #[.pointer (some ⟨tb, 0, none⟩), .slice p n c, .string k]) "Back").run Tryz.prog w = .ok (272, .agg #[.pointer (some ⟨tb, 0, none⟩), .slice p n c, .string k]) w :=
 ⟨zyVB,zyVB,zyVB⟩
theorem StepU.meth {w0 : World} {F : List Nat} {s : StepU} (h : s.at w0 F) (w : World) : (method 444 s.ty s.recv "Back").run Tryz.prog w = .ok (s.fn, s.recv) w := by
 cases s with
 | came tb k=>exact (meth_un tb none 0 0 (kb k) w).1
 | gone tb rv row =>
  obtain ⟨p,c,rfl,_,_⟩:=h.1.form
  exact (meth_un tb p _ c ⟨#[]⟩ w).2.1
 | turned tb rv row k =>
  obtain ⟨p,c,rfl,_,_⟩:=h.1.form
  exact (meth_un tb p _ c (kb k) w).2.2
theorem StepU.enter (s:StepU) (w:World):(callFunc s.fn #[s.recv]).run Tryz.prog w=.ok (.enter s.fn #[s.recv]) w:=by
 cases s<;>kernel_rfl
def res2 (ga gb:TabG) (J:Option Nat) (jv:Value) (vs:List Value) (fr:List Res):List Res:=ga.res++(gb.res++(rJ J jv vs++fr))
structure Two (w:World) (rs:List Res) (ga gb:TabG) (st:List (List AV) × List (List AV)) (ta tb:Nat) (Sa Sb:SchV):Prop where
 a:TabE w (feet rs) ga
 b:TabE w (feet rs) gb
 ra:ga.rows=st.1
 rb:gb.rows=st.2
 ta:ga.tb=ta
 tb:gb.tb=tb
 sa:ga.S=Sa
 sb:gb.S=Sb
theorem Two.next {w w':World} {rs rs':List Res} {ga gb:TabG} {st:List (List AV) × List (List AV)} {ta tb:Nat} {Sa Sb:SchV} (h:Two w rs ga gb st ta tb Sa Sb) (hT:Trk w (feet rs) w' rs'):Two w' rs' ga gb st ta tb Sa Sb :=
 ⟨h.a.next hT,h.b.next hT,h.ra,h.rb,h.ta,h.tb,h.sa,h.sb⟩
def unP (Sa Sb:SchV) (ta:Nat) (s:StepU) (st:List (List AV) × List (List AV)):List (List AV) × List (List AV):=if s.tb=ta then (s.un Sa st.1,st.2) else (st.1,s.un Sb st.2)
def backP (Sa Sb:SchV) (ta:Nat) (ls:List StepU) (st:List (List AV) × List (List AV)):List (List AV) × List (List AV):=ls.foldr (unP Sa Sb ta) st
def JS (w0:World) (rs0:List Res) (jb:Nat) (fr:List Res) (steps:List StepU) (ta tb:Nat) (Sa Sb:SchV) (k k2:Nat) (st:List (List AV) × List (List AV)) (wr:World):Prop :=
 k≤steps.length∧∃ jv ga gb,Trk w0 (feet rs0) wr (res2 ga gb (some jb) jv ((steps.take k).map StepU.val) fr)∧Two wr (res2 ga gb (some jb) jv ((steps.take k).map StepU.val) fr) ga gb st ta tb Sa Sb ∧
  ∀ s∈steps.take k2,s.at wr (feet (res2 ga gb (some jb) jv ((steps.take k).map StepU.val) fr))∧(s.tb=ta∨s.tb=tb)
theorem res2_j {w:World} {ga gb:TabG} {J:Option Nat} {jv:Value} {vs:List Value} {fr:List Res} (h:Sep w (res2 ga gb J jv vs fr)):Sep w (rJ J jv vs) :=
 (h.perm (rs':=rJ J jv vs++(ga.res++(gb.res++fr))) (perm_of_cnt fun a=>zul0)).left
theorem rJ_some (jb:Nat) (jv:Value) (vs:List Value):rJ (some jb) jv vs=[Res.blk jb 61 [jv],Res.own 139 1 jv vs.length vs]:=rfl
theorem res2_cut {w0 w:World} {F:List Nat} {ga gb:TabG} {jb g off cap n k:Nat} {vs:List Value} {fr:List Res} (h:Trk w0 F w (res2 ga gb (some jb) (.slice (some ⟨g,off,none⟩) n cap) vs fr)) (hn:vs.length=n) (hk:k≤n) :
 Trk w0 F (w.setCell ⟨jb,0,none⟩ (.slice (some ⟨g,off,none⟩) k cap)) (res2 ga gb (some jb) (.slice (some ⟨g,off,none⟩) k cap) (vs.take k) fr):=by
 have h1:=h.perm (rs':=Res.own 139 1 (.slice (some ⟨g,off,none⟩) n cap) vs.length vs::Res.blk jb 61 [.slice (some ⟨g,off,none⟩) n cap]::(ga.res++(gb.res++fr))) (perm_of_cnt fun a=>by unfold res2;rw [rJ_some];simp only [cnt_append,cnt_cons,cnt_nil];omega)
 have ho:Own w 139 1 (.slice (some ⟨g,off,none⟩) n cap) vs.length vs:=h1.own zPXO
 rw [hn] at ho
 have ht:=ho.take hk
 rw [Nat.mul_one] at ht
 have h2:=h1.swap (r':=Res.own 139 1 (.slice (some ⟨g,off,none⟩) k cap) k (vs.take k)) ht (show (Value.ownBlock (.slice (some ⟨g,off,none⟩) k cap)).toList.Nodup from ownBlock_nodup _) (fun q hq=>hq)
 have h3:=Trk.blkSet (h2.perm (List.Perm.swap _ _ _)) 0 (.slice (some ⟨g,off,none⟩) k cap)
 have hlk:(vs.take k).length=k:=z2Pg
 refine h3.perm (perm_of_cnt fun a=>?_)
 unfold res2
 rw [rJ_some,hlk]
 simp only [cnt_append,cnt_cons,cnt_nil,List.set_cons_zero]
 omega
theorem jback_two (w:World) (ga gb:TabG) (jb:Nat) (jv:Value) (steps:List StepU) (fr:List Res) (st:List (List AV) × List (List AV)) (ta tb:Nat) (Sa Sb:SchV)
 (hs:Sep w (res2 ga gb (some jb) jv (steps.map StepU.val) fr)) (h2:Two w (res2 ga gb (some jb) jv (steps.map StepU.val) fr) ga gb st ta tb Sa Sb) (ha:∀ s∈steps,s.at w (feet (res2 ga gb (some jb) jv (steps.map StepU.val) fr))∧(s.tb=ta∨s.tb=tb)) (hl:steps.length≤100000) (m:Int) :
 Calls Tryz.prog 31 #[ptrV jb,.int .i64 m] w fun e w'=>e=.returned (.int .i64 ((steps.length - (max m 0).toNat:Nat):Int)) ∧
  JS w (res2 ga gb (some jb) jv (steps.map StepU.val) fr) jb fr steps ta tb Sa Sb (min steps.length (max m 0).toNat) (min steps.length (max m 0).toNat) (backP Sa Sb ta (steps.drop (min steps.length (max m 0).toNat)) st) w':=by
 refine jback_gen w jb steps.length hl (fun k wr=>JS w (res2 ga gb (some jb) jv (steps.map StepU.val) fr) jb fr steps ta tb Sa Sb k k (backP Sa Sb ta (steps.drop k) st) wr) (fun k wr=>JS w (res2 ga gb (some jb) jv (steps.map StepU.val) fr) jb fr steps ta tb Sa Sb k (k+1) (backP Sa Sb ta (steps.drop (k+1)) st) wr)
  (fun k=>((steps[k]?).map StepU.fn).getD 0) (fun k=>((steps[k]?).map StepU.recv).getD .nilIface) ?_ ?_ ?_ ?_ m
 ·show JS _ _ _ _ _ _ _ _ _ _ _ (backP Sa Sb ta (steps.drop steps.length) st) w
  rw [List.drop_length]
  refine ⟨Nat.le_refl _,jv,ga,gb,?_,?_,?_⟩
  ·rw [List.take_length];exact Trk.start hs
  ·rw [List.take_length];exact h2
  ·rw [List.take_length];exact ha
 ·rintro k wr ⟨hk,jv',ga',gb',hT,_,_⟩
  have h1:=mark_u (some jb) jv' _ (res2_j hT.sep)
  have h3:lenJ (some jb) ((steps.take k).map StepU.val)=k:=by show ((steps.take k).map StepU.val).length=k;rw [List.length_map,List.length_take];omega
  rw [h3] at h1
  exact h1
 ·rintro k wr hk ⟨_,jv',ga',gb',hT,h2',ha'⟩
  have hvl:((steps.take (k+1)).map StepU.val).length=k+1:=by rw [List.length_map,List.length_take];omega
  have hbk:Blk wr jb 61 [jv']:=hT.sep.all (Res.blk jb 61 [jv']) (by unfold res2;rw [rJ_some];simp)
  have how:Own wr 139 1 jv' ((steps.take (k+1)).map StepU.val).length ((steps.take (k+1)).map StepU.val):=hT.sep.all (Res.own 139 1 jv' ((steps.take (k+1)).map StepU.val).length ((steps.take (k+1)).map StepU.val)) (by unfold res2;rw [rJ_some];simp)
  rw [hvl] at how
  obtain ⟨g,off,cap,hjv,hc1,hc2,_,hgl,hcs⟩:=(how.sl (B:=fun _=>True) (fun _ _=>trivial)).place zTbe
  subst hjv
  unfold maxLen at hc2
  have hsk:steps[k]?=some steps[k]:=List.getElem?_eq_getElem hk
  have hmem:steps[k]∈steps.take (k+1):=zNwJ
  have hat:=(ha' _ hmem).1
  have hck:wr.cell? ⟨g,off+k,none⟩=some (.iface steps[k].ty steps[k].recv):=by
   have h1:=hcs k zTbe
   rw [List.getElem?_map,List.getElem?_take_of_lt zTbe,hsk] at h1
   exact h1
  have e1:((steps[k]?).map StepU.fn).getD 0=steps[k].fn:=by rw [hsk];rfl
  have e2:((steps[k]?).map StepU.recv).getD .nilIface=steps[k].recv:=by rw [hsk];rfl
  have htk:((steps.take (k+1)).map StepU.val).take k=(steps.take k).map StepU.val:=by rw [←List.map_take,List.take_take];congr 2;omega
  have hcut:=res2_cut hT hvl (Nat.le_succ k)
  have hcut2:=res2_cut (Trk.start hT.sep) hvl (Nat.le_succ k)
  rw [htk] at hcut hcut2
  refine ⟨g,off,cap,steps[k].ty,hbk.cell 0,hc1,hc2,hbk.frozen,hbk.lt,?_,fun w=>?_,fun w=>?_,?_⟩
  ·rw [e2];exact hck
  ·rw [e1,e2];exact StepU.meth hat w
  ·rw [e1,e2];exact StepU.enter steps[k] w
  ·exact ⟨Nat.le_of_lt hk,_,ga',gb',hcut,h2'.next hcut2,fun s hs=>⟨StepU.at_next (ha' s hs).1 hcut2,(ha' s hs).2⟩⟩
 ·rintro k w1 hk ⟨_,jv',ga',gb',hT,h2',ha'⟩
  have hsk:steps[k]?=some steps[k]:=List.getElem?_eq_getElem hk
  have hmem:steps[k]∈steps.take (k+1):=zNwJ
  have hat:=ha' _ hmem
  have e1:((steps[k]?).map StepU.fn).getD 0=steps[k].fn:=by rw [hsk];rfl
  have e2:((steps[k]?).map StepU.recv).getD .nilIface=steps[k].recv:=by rw [hsk];rfl
  show Calls _ (((steps[k]?).map StepU.fn).getD 0) #[((steps[k]?).map StepU.recv).getD .nilIface] w1 _
  rw [e1,e2]
  have hdr:steps.drop k=steps[k]::steps.drop (k+1):=List.drop_eq_getElem_cons hk
  have hsub:∀ s∈steps.take k,s∈steps.take (k+1):=fun s hs=>by rw [List.take_succ_eq_append_getElem hk];exact List.mem_append_left _ hs
  rw [show backP Sa Sb ta (steps.drop k) st=unP Sa Sb ta steps[k] (backP Sa Sb ta (steps.drop (k+1)) st) by rw [hdr];rfl]
  generalize backP Sa Sb ta (steps.drop (k+1)) st=s2 at *
  by_cases hta:steps[k].tb=ta
  ·refine (unback_any w1 steps[k] ga' (gb'.res++(rJ (some jb) jv' ((steps.take k).map StepU.val)++fr)) hT.sep h2'.a (hta.trans h2'.ta.symm) hat.1).mono ?_
   rintro e w' ⟨rfl,g2,hT2,hE2,hr2,htb2,hS2⟩
   refine ⟨rfl,Nat.le_of_lt hk,jv',g2,gb',Trk.after hT hT2,⟨hE2,h2'.b.next hT2,?_,?_,htb2.trans h2'.ta,h2'.tb,hS2.trans h2'.sa,h2'.sb⟩,fun s hs=>⟨StepU.at_next (ha' s (hsub s hs)).1 hT2,(ha' s (hsub s hs)).2⟩⟩
   ·unfold unP;rw [if_pos hta,hr2,h2'.sa,h2'.ra]
   ·unfold unP;rw [if_pos hta];exact h2'.rb
  ·have htb:steps[k].tb=tb:=hat.2.resolve_left hta
   have hp:(res2 ga' gb' (some jb) jv' ((steps.take k).map StepU.val) fr).Perm (gb'.res++(ga'.res++(rJ (some jb) jv' ((steps.take k).map StepU.val)++fr))):=perm_of_cnt fun a=>zul0
   refine (unback_any w1 steps[k] gb' (ga'.res++(rJ (some jb) jv' ((steps.take k).map StepU.val)++fr)) (hT.sep.perm hp) (h2'.b.perm hp) (htb.trans h2'.tb.symm) (StepU.at_perm hat.1 hp)).mono ?_
   rintro e w' ⟨rfl,g2,hT2,hE2,hr2,htb2,hS2⟩
   have hp2:(g2.res++(ga'.res++(rJ (some jb) jv' ((steps.take k).map StepU.val)++fr))).Perm (res2 ga' g2 (some jb) jv' ((steps.take k).map StepU.val) fr):=perm_of_cnt fun a=>zul0
   have hT3:Trk w1 (feet (res2 ga' gb' (some jb) jv' ((steps.take k).map StepU.val) fr)) w' (res2 ga' g2 (some jb) jv' ((steps.take k).map StepU.val) fr):=(hT2.from hp.symm).perm hp2
   refine ⟨rfl,Nat.le_of_lt hk,jv',ga',g2,Trk.after hT hT3,⟨h2'.a.next hT3,hE2.perm hp2,?_,?_,h2'.ta,htb2.trans h2'.tb,h2'.sa,hS2.trans h2'.sb⟩,fun s hs=>⟨StepU.at_next (ha' s (hsub s hs)).1 hT3,(ha' s (hsub s hs)).2⟩⟩
   ·unfold unP;rw [if_neg hta];exact h2'.ra
   ·unfold unP;rw [if_neg hta,hr2,h2'.sb,h2'.rb]
def exU (nm:ByteArray) (k2:Int) (lim parts:Int) (a b c d:Value):SchV:=⟨nm,a,[⟨⟨#[97]⟩,1⟩,⟨⟨#[98]⟩,k2⟩],b,[⟨c,[0],true⟩,⟨d,[1],true⟩],lim,parts,0⟩
def PlanOutU (w:World) (S:Value→Value→Value→Value→SchV) (e:Ending) (w':World):Prop:=∃ a b c d,e=.returned (S a b c d).agg∧SchAt w' (fun q=>w.heap.size≤q) (S a b c d)∧Below w.heap.size w w'
theorem exU_at {w w1 w2 w3 w4 w5 w6:World} {nm:ByteArray} (hnm:nm.size≤maxLen) (k2 lim parts:Int) (hb1:Below w.heap.size w w1)
 (h2:w1.alloc (.cells #[.string ⟨#[97]⟩,.int .i64 1,.string ⟨#[98]⟩,.int .i64 k2] 110)=w2) (h3:w2.alloc (.cells #[.int .i64 0] 3)=w3) (h4:w3.alloc (.cells #[.int .i64 1] 3)=w4)
 (h5:w4.alloc (.cells #[.slice (some ⟨w2.heap.size,0,none⟩) 1 1,.bool true,.slice (some ⟨w3.heap.size,0,none⟩) 1 1,.bool true] 108)=w5) (h6:Only (fun q=>q=w.heap.size) w5 w6) (hlt:w.heap.size+1≤w1.heap.size) :
 SchAt w6 (fun q=>w.heap.size≤q) (exU nm k2 lim parts (.slice (some ⟨w1.heap.size,0,none⟩) 2 2) (.slice (some ⟨w4.heap.size,0,none⟩) 2 2) (.slice (some ⟨w2.heap.size,0,none⟩) 1 1) (.slice (some ⟨w3.heap.size,0,none⟩) 1 1))∧Below w.heap.size w w6:=by
 have b2:Below w1.heap.size w1 w2:=h2▸(Below.refl _ _).alloc (Nat.le_refl _) _
 have b3:Below w2.heap.size w2 w3:=h3▸(Below.refl _ _).alloc (Nat.le_refl _) _
 have b4:Below w3.heap.size w3 w4:=h4▸(Below.refl _ _).alloc (Nat.le_refl _) _
 have b5:Below w4.heap.size w4 w5:=h5▸(Below.refl _ _).alloc (Nat.le_refl _) _
 have s2:=b2.size
 have s3:=b3.size
 have s4:=b4.size
 have s5:=b5.size
 have c45:Below w3.heap.size w3 w5:=b4.trans (b5.mono b4.size)
 have c35:Below w2.heap.size w2 w5:=b3.trans (c45.mono b3.size)
 have c25:Below w1.heap.size w1 w5:=b2.trans (c35.mono b2.size)
 have c05:Below w.heap.size w w5:=hb1.trans (c25.mono hb1.size)
 have o2:Own w2 110 2 (.slice (some ⟨w1.heap.size,0,none⟩) 2 2) 2 (colCells [⟨⟨#[97]⟩,1⟩,⟨⟨#[98]⟩,k2⟩]):=by
  exact zCwl
 have o3:Own w3 3 1 (.slice (some ⟨w2.heap.size,0,none⟩) 1 1) 1 (ints [0]):=by
  rw [←h3];exact Own.made w2 3 1 _ [] 1 1 rfl zVxh zTbe zdUY zN8V
 have o4:Own w4 3 1 (.slice (some ⟨w3.heap.size,0,none⟩) 1 1) 1 (ints [1]):=by
  rw [←h4];exact Own.made w3 3 1 _ [] 1 1 rfl zVxh zTbe zdUY zN8V
 have o5:Own w5 108 2 (.slice (some ⟨w4.heap.size,0,none⟩) 2 2) 2 (idxCells [⟨.slice (some ⟨w2.heap.size,0,none⟩) 1 1,[0],true⟩,⟨.slice (some ⟨w3.heap.size,0,none⟩) 1 1,[1],true⟩]):=by
  exact zRqU
 have hN:∀ q,w1.heap.size≤q→¬ q=w.heap.size:=fun q hq he=>zTbe
 refine ⟨⟨?_,⟨?_,?_⟩,?_,hnm⟩,c05.trans (h6.below c05.size (fun q hq=>zTbe))⟩
 ·exact (((o2.sl (B:=fun q=>w1.heap.size≤q) (fun q hq=>by cases hq;exact Nat.le_refl _)).below c35).only h6 hN).mono (Nat.le_refl _) (fun _ _ _=>rfl) (fun q hq _=>zTbe)
 ·exact (((o5.sl (B:=fun q=>w1.heap.size≤q) (fun q hq=>zj9M))).only h6 hN).mono (Nat.le_refl _) (fun _ _ _=>rfl) (fun q hq _=>zTbe)
 ·intro x hx
  simp only [exU,List.mem_cons,List.not_mem_nil,or_false] at hx
  exact ztao
 ·intro c hc
  simp only [exU,List.mem_cons,List.not_mem_nil,or_false] at hc
  rcases hc with rfl|rfl<;>(show (1:Nat)≤maxLen;decide)
theorem plan10_any (w:World) (nm:ByteArray) (hn:nm.size≤maxLen):Calls Tryz.prog 35 #[.string nm] w (PlanOutU w (exU nm 1 6 1)):=by
 obtain ⟨w1,hw1⟩:=ztQo
 obtain ⟨w2,hw2⟩:∃ w2,w1.alloc (.cells #[.string ⟨#[97]⟩,.int .i64 1,.string ⟨#[98]⟩,.int .i64 1] 110)=w2:=⟨_,rfl⟩
 obtain ⟨w3,hw3⟩:∃ w3,w2.alloc (.cells #[.int .i64 0] 3)=w3:=⟨_,rfl⟩
 obtain ⟨w4,hw4⟩:∃ w4,w3.alloc (.cells #[.int .i64 1] 3)=w4:=⟨_,rfl⟩
 obtain ⟨w5,hw5⟩:=zQXk
 have b1:=zppX
 have b2:=zXxX
 have b3:=zUeY
 have b4:=zvR2
 have b5:=z1O1
 have k1:=znEU
 have hlt1:=k1.lt
 have k5:=(((k1.below b2).below b3).below b4).below b5
 have HK5:=Lib.hid k5
 obtain ⟨z0,z1,z2,z3,z4,z5⟩:=sch_cells k5
 have zf:∀ i,w5.frozen? ⟨w.heap.size,i,none⟩=false:=k5.frozen
 have zl:=k5.lt
 have HW1:=Lib.hid b1
 have HL1:=Lib.hid hlt1
 have HW2:=Lib.hid hw2
 have HW3:=Lib.hid hw3
 have HW4:=Lib.hid hw4
 have HW5:=Lib.hid hw5
 clear b1 b2 b3 b4 b5 k1 k5 hlt1
 have HNM:=Lib.hid hn
 clear hn
 go_enter Tryz.func35,Tryz.ntmps35
 go_wp2
 clear hw1 hw2 hw3 hw4 hw5
 obtain ⟨hk,hon⟩:=set_six HK5.out (.string nm) (.slice (some ⟨w1.heap.size,0,none⟩) 2 2) (.slice (some ⟨w4.heap.size,0,none⟩) 2 2) (.int .i64 6) (.int .i64 1) (.int .i64 0)
 generalize ((((((w5.setCell ⟨w.heap.size,0,none⟩ (.string nm)).setCell ⟨w.heap.size,1,none⟩ (.slice (some ⟨w1.heap.size,0,none⟩) 2 2)).setCell ⟨w.heap.size,2,none⟩ (.slice (some ⟨w4.heap.size,0,none⟩) 2 2)).setCell ⟨w.heap.size,3,none⟩ (.int .i64 6)).setCell ⟨w.heap.size,4,none⟩ (.int .i64 1)).setCell ⟨w.heap.size,5,none⟩ (.int .i64 0))=wE at *
 obtain ⟨m0,m1,m2,m3,m4,m5⟩:=sch_cells hk
 obtain ⟨hs,hb⟩:=exU_at (nm:=nm) (HNM.out) 1 6 1 HW1.out HW2.out HW3.out HW4.out HW5.out hon HL1.out
 exact bodyPost_ret (v:=.agg #[.string nm,.slice (some ⟨w1.heap.size,0,none⟩) 2 2,.slice (some ⟨w4.heap.size,0,none⟩) 2 2,.int .i64 6,.int .i64 1,.int .i64 0]) (by simp [results,Tryz.results35,go_sem,m0,m1,m2,m3,m4,m5]) rfl ⟨_,_,_,_,rfl,hs,hb⟩
theorem exU_right (a b c d:Value):rightS (exU ⟨#[116]⟩ 1 6 1 a b c d)=true∧rightS (exU ⟨#[117]⟩ 1 6 1 a b c d)=true:=⟨zyVB,zyVB⟩
theorem Trk.add {w0 w w':World} {F:List Nat} {rs rs2:List Res} (h:Trk w0 F w rs) (hc:Trk w [] w' rs2):Trk w0 F w' (rs2++rs) :=
 Trk.call (rs:=[]) (rest:=rs) h hc
theorem TabE.new {w0 w w':World} {rs:List Res} {g:TabG} (hm:Mx w0) (hT:Trk w0 [] w rs) (h:TabOK w' (newR w g) g):TabE w' (feet (g.res++rs)) g :=
 TabOK.wide h fun k hk h1=>by
  rw [feet_append,List.mem_append] at h1
  rcases h1 with h2|h2
  ·exact hk.1 h2
  ·have h3:=hT.sep.lt k h2
   rcases hk.2 with h4|h4
   ·omega
   ·rcases hT.foot k h2 with h5|h5
    ·simp at h5
    ·have:=hm.lt;rw [h4] at h5;omega
def resP (J:Option Nat) (u:Nat) (t:Value):Res:=Res.blk u 84 [t,ptrJ J]
def resPs (J:Option Nat) (us:List Nat) (ts:List Value):List Res:=List.zipWith (resP J) us ts
theorem elemUT:Elem Tryz.prog 72 80 1 8 (.pointer none) :=
 ⟨Tryz.underlying72,zyVB,rfl,zTbe,zOaE⟩
def TrackSt (w:World) (J:Option Nat) (ts:List Value) (k:Nat) (lv:Value) (wr:World):Prop :=
 ∃ us:List Nat,us.length=k∧Trk w [] wr (Res.own 80 1 lv k (us.map ptrV)::resPs J us (ts.take k))
theorem track_any (w:World) (J:Option Nat) (B:Nat→Prop) (tv:Value) (ts:List Value) (ht:Sl w B 1 tv ts.length ts) (hf:∀ t∈ts,∃ p,t=.pointer p) (hl:ts.length≤1000) :
 Calls Tryz.prog 40 #[ptrJ J,tv] w fun e w'=>∃ lv,e=.returned lv∧TrackSt w J ts ts.length lv w':=by
 obtain ⟨n,hn⟩:∃ n,ts.length=n:=⟨_,rfl⟩
 obtain ⟨p,cap,rfl,hc1,hc2⟩:=ht.form
 obtain ⟨jp,hjp⟩:∃ jp,ptrJ J=.pointer jp:=by cases J<;>exact ⟨_,rfl⟩
 have HT:=Lib.hid ht
 have HF:=Lib.hid hf
 have HN:=Lib.hid hn
 have HJP:=Lib.hid hjp
 rw [hjp]
 rw [hn] at hc1 hl ⊢
 clear ht hf hn hjp
 go_enter Tryz.func40,Tryz.ntmps40
 go_wp2
 go_loopw [5,10] (fun lv iv wr=>∃ k:Nat,iv=.int .i64 k∧k≤n∧TrackSt w J ts k lv wr∧Below w.heap.size w wr) (fun _ iv _=>n - (intOf iv).toNat)
 case atStart =>
  refine ⟨0,rfl,Nat.zero_le _,⟨[],rfl,?_⟩,Below.refl _ _⟩
  exact Trk.new (F:=[]) (rs:=[]) ⟨⟨zPXO,z07k⟩,Only.refl _ _,z07k⟩ (Own.nil _ _ _) znD9 znD9 (Below.refl _ _)
 case round =>
  obtain ⟨k,rfl,hk,⟨us,hus,hT⟩,hbw⟩:=hrel
  have ho:Own wr 80 1 u5 k (us.map ptrV):=hT.own zPXO
  obtain ⟨po,co,hvo,hco1,hco2⟩:=own_formT ho
  subst hvo
  have HTT:=Lib.hid hT
  have HB:=Lib.hid hbw
  have HUS:=Lib.hid hus
  by_cases hkn:k < n
  ·obtain ⟨g,off,cap',hv,_,_,_,hgl,hcs⟩:=(HT.out.below hbw).place (by rw [HN.out];omega)
   rw [HN.out] at hv
   cases hv
   have hkt:k < ts.length:=by rw [HN.out];exact hkn
   obtain ⟨q,hq⟩:=HF.out ts[k] (List.getElem_mem hkt)
   have ck:wr.cell? ⟨g,off+k,none⟩=some (.pointer q):=by rw [hcs k hkt,List.getElem?_eq_getElem hkt,hq]
   have HQ:=Lib.hid hq
   obtain ⟨w1,hw1⟩:∃ w1,wr.alloc (.cells #[.pointer q,.pointer jp] 84)=w1:=⟨_,rfl⟩
   have hb1:=zsNA
   have hk1:Blk w1 wr.heap.size 84 [.pointer q,.pointer jp]:=hw1▸Blk.new wr _ _
   obtain ⟨w2,hw2⟩:∃ w2,w1.alloc (.cells #[ptrV wr.heap.size] 80)=w2:=⟨_,rfl⟩
   have hb2:=zXxX
   have hs2:Sl w2 (fun _=>True) 1 (.slice (some ⟨w1.heap.size,0,none⟩) 1 1) 1 [ptrV wr.heap.size]:=hw2▸(Own.made w1 80 1 [ptrV wr.heap.size] [] 1 1 rfl (Ones.nil.cons rfl) (Nat.le_refl _) zdUY zPXO).sl (fun _ _=>trivial)
   have hT1:Trk w [] w1 (resP J wr.heap.size (.pointer q)::(Res.own 80 1 (.slice po k co) k (us.map ptrV)::resPs J us (ts.take k))):=by
    refine Trk.new hT ?_ ?_ ?_ hb1
    ·unfold resP;rw [HJP.out];exact hk1
    ·simp [resP,Res.blk]
    ·intro q hq;simp [resP,Res.blk] at hq;omega
   have hT2:=hT1.below hb2
   have ho2:=(ho.below hb1).below hb2
   have HT2:=Lib.hid hT2
   have HBW:=Lib.hid (hbw.trans ((hb1.trans (hb2.mono hb1.size)).mono hbw.size))
   unfold ptrV at hw2 hs2
   clear hT hbw hus hcs hq hb1 hk1 hb2 hT1 hT2 ho
   go_wp2_with (at_builtin;refine wpList_app rfl _ _ rfl elemUT zdhv ho2 zdhv hs2 zefz zTbe ?_;intro v3 w3 g1 g2 g3 g4 g5;clear ho2 hs2;have G1:=Lib.hid g1;have G2:=Lib.hid g2;have G3:=Lib.hid (own_new g3);clear g1 g2 g3 g4 g5)
   clear hw1 hw2
   go_roundw
   case rel =>
    refine ⟨k+1,z3KH,zTbe,⟨us++[wr.heap.size],by simp [HUS.out],?_⟩,?_⟩
    ·have h3:=HT2.out.perm (List.Perm.swap _ _ _)
     have h4:=Trk.ownTo h3 G1.out G2.out G3.out
     have e:resPs J (us++[wr.heap.size]) (ts.take (k+1))=resPs J us (ts.take k)++[resP J wr.heap.size (.pointer q)]:=by
      unfold resPs
      rw [List.take_succ_eq_append_getElem hkt,List.zipWith_append (by rw [List.length_take,HUS.out];omega),HQ.out]
      rfl
     rw [e,List.map_append]
     refine h4.perm (perm_of_cnt fun a=>?_)
     simp only [cnt_cons,cnt_append,cnt_nil]
     first|omega|(simp only [List.map_cons,List.map_nil];unfold ptrV;omega)
    ·exact HBW.out.trans (G2.out.below HBW.out.size (fun q hq=>by
      rcases HTT.out.foot q (by simp [feet,Res.own,hq]) with h|h
      ·simp at h
      ·exact h))
   case measure=>(simp [intOf])<;>omega
  ·obtain rfl:k=n:=by omega
   clear hT hbw hus ho
   go_wp2
   go_ret
   exact ⟨_,rfl,us,HUS.out,HTT.out⟩
def exUt:SchV:=exU ⟨#[116]⟩ 1 6 1 (.slice none 0 0) (.slice none 0 0) (.slice none 0 0) (.slice none 0 0)
def exUu:SchV:=exU ⟨#[117]⟩ 1 6 1 (.slice none 0 0) (.slice none 0 0) (.slice none 0 0) (.slice none 0 0)
theorem Alike.then {a b c:SchV} (h:Alike a b) (k:Alike b c):Alike a c :=
 ⟨h.name.trans k.name,h.cols.trans k.cols,h.idx.trans k.idx,h.uni.trans k.uni,h.limit.trans k.limit,h.parts.trans k.parts,h.by_.trans k.by_⟩
theorem exU_like (a b c d:Value):Alike (exU ⟨#[116]⟩ 1 6 1 a b c d) exUt∧Alike (exU ⟨#[117]⟩ 1 6 1 a b c d) exUu:=⟨⟨rfl,rfl,rfl,rfl,rfl,rfl,rfl⟩,⟨rfl,rfl,rfl,rfl,rfl,rfl,rfl⟩⟩
def resB (lv:Value) (ua ub:Nat) (ga gb:TabG) (J:Option Nat):List Res:=Res.own 80 1 lv 2 [ptrV ua,ptrV ub]::rU ua ga.tb J::rU ub gb.tb J::(ga.res++gb.res)
structure BothAt (w0 w':World) (rs:List Res) (lv:Value) (ua ub:Nat) (ga gb:TabG) (J:Option Nat):Prop where
 trk:Trk w0 [] w' (resB lv ua ub ga gb J++rs)
 a:TabE w' (feet (resB lv ua ub ga gb J++rs)) ga
 b:TabE w' (feet (resB lv ua ub ga gb J++rs)) gb
 ra:ga.rows=[]
 rb:gb.rows=[]
 sa:Alike ga.S exUt
 sb:Alike gb.S exUu
theorem tnew_env (w0 w:World) (hm:Mx w0) (rs:List Res) (hT:Trk w0 [] w rs) (hbm:Mx w) (R:Nat→Prop) (nm:ByteArray) (a b c d:Value) (hs:SchAt w R (exU nm 1 6 1 a b c d)) (hr:rightS (exU nm 1 6 1 a b c d)=true) :
 Calls Tryz.prog 34 #[(exU nm 1 6 1 a b c d).agg] w fun e w'=>∃ g:TabG,e=.returned (.tuple #[.pointer (some ⟨g.tb,0,none⟩),.int .i64 0])∧Alike g.S (exU nm 1 6 1 a b c d)∧g.rows=[]∧Trk w [] w' g.res∧Trk w0 [] w' (g.res++rs)∧TabE w' (feet (g.res++rs)) g:=by
 refine (tabnew_any w hbm R _ hs (by simp [exU]) (by simp [exU]) (by intro x hx;simp [exU] at hx;rcases hx with rfl|rfl<;>simp)).mono ?_
 rintro e w' (⟨h1,_⟩|⟨_,g,rfl,hal,hgl,htk,htab⟩)
 ·rw [hr] at h1;cases h1
 ·exact ⟨g,rfl,hal,by unfold TabG.rows;rw [hgl];rfl,htk,Trk.add hT htk,TabE.new hm hT htab⟩
theorem both_any (w0 w:World) (hm:Mx w0) (hmw:Mx w) (rs:List Res) (hT:Trk w0 [] w rs) (J:Option Nat):Calls Tryz.prog 33 #[ptrJ J] w fun e w'=>∃ lv ua ub ga gb,e=.returned lv∧BothAt w0 w' rs lv ua ub ga gb J:=by
 have HM:=Lib.hid hm
 have HMW:=Lib.hid hmw
 have HT0:=Lib.hid hT
 have HP1:=Lib.hid (plan10_any w ⟨#[116]⟩ z7Rn)
 obtain ⟨jp,hjp⟩:∃ jp,ptrJ J=.pointer jp:=by cases J<;>exact ⟨_,rfl⟩
 have HJP:=Lib.hid hjp
 rw [hjp]
 clear hm hmw hT hjp
 go_enter Tryz.func33,Tryz.ntmps33
 go_wp2_with fail
 refine HP1.out.mono ?_
 clear HP1
 rintro e w1 ⟨a,b,c,d,rfl,hs1,hb1⟩
 have hT0:=HT0.out.below hb1
 have HN1:=Lib.hid (tnew_env w0 w1 HM.out rs hT0 (HMW.out.below hb1) _ _ a b c d hs1 (exU_right a b c d).1)
 have HB1:=Lib.hid hb1
 clear hs1 hT0 hb1
 go_wp2_with fail
 refine HN1.out.mono ?_
 clear HN1
 rintro e w2 ⟨ga,rfl,hal,hr0,hTg,hT,hE⟩
 have hsa:=hal.then (exU_like a b c d).1
 have HA:=Lib.hid (And.intro hsa (And.intro hr0 (And.intro hT hE)))
 have HP2:=Lib.hid (plan10_any w2 ⟨#[117]⟩ z7Rn)
 have hmx2:Mx w2:=(HMW.out.below HB1.out).below (hTg.only.below (Nat.le_refl _) (fun q hq=>zks3))
 have HM2:=Lib.hid hmx2
 clear hal hr0 hTg hT hE hsa hmx2
 go_wp2_with fail
 refine HP2.out.mono ?_
 clear HP2
 rintro e w3 ⟨a2,b2,c2,d2,rfl,hs3,hb3⟩
 have hT3:=HA.out.2.2.1.below hb3
 have HN2:=Lib.hid (tnew_env w0 w3 HM.out _ hT3 (HM2.out.below hb3) _ _ a2 b2 c2 d2 hs3 (exU_right a2 b2 c2 d2).2)
 have HB3:=Lib.hid hb3
 clear hs3 hT3 hb3
 go_wp2_with fail
 refine HN2.out.mono ?_
 clear HN2
 rintro e w4 ⟨gb,rfl,hal,hr0,hTn,hT,hE⟩
 have hsb:=hal.then (exU_like a2 b2 c2 d2).2
 have hEa:TabE w4 (feet (gb.res++(ga.res++rs))) ga:=TabE.next (show TabE w3 _ ga from TabOK.below HA.out.2.2.2 HB3.out) (Trk.add (Trk.start (HA.out.2.2.1.below HB3.out).sep) hTn)
 obtain ⟨w5,hw5⟩:∃ w5,w4.alloc (.cells #[.pointer (some ⟨ga.tb,0,none⟩),.pointer (some ⟨gb.tb,0,none⟩)] 31)=w5:=⟨_,rfl⟩
 have hb5:=z1O1
 have hs5:Sl w5 (fun _=>True) 1 (.slice (some ⟨w4.heap.size,0,none⟩) 2 2) [ptrV ga.tb,ptrV gb.tb].length [ptrV ga.tb,ptrV gb.tb]:=by
  rw [←hw5]
  exact (Own.made w4 31 1 [ptrV ga.tb,ptrV gb.tb] [] 2 2 rfl ((Ones.nil.cons rfl).cons rfl) (Nat.le_refl _) zdUY zPXO).sl (fun _ _=>trivial)
 have htr:=track_any w5 J _ _ [ptrV ga.tb,ptrV gb.tb] hs5 (by intro t ht;simp at ht;rcases ht with rfl|rfl<;>exact ⟨_,rfl⟩) zPXO
 rw [HJP.out] at htr
 have HTR:=Lib.hid htr
 have HBB:=Lib.hid (And.intro hsb (And.intro hr0 (And.intro (hT.below hb5) (And.intro (show TabE w5 _ gb from TabOK.below hE hb5) (show TabE w5 _ ga from TabOK.below hEa hb5)))))
 clear hal hr0 hTn hT hE hsb hEa hb5 hs5 htr
 go_wp2_with fail
 clear hw5
 refine HTR.out.mono ?_
 clear HTR
 rintro e w6 ⟨lv,rfl,us,hus,hT6⟩
 have HT6:=Lib.hid hT6
 have HUS:=Lib.hid hus
 clear hT6 hus
 go_wp2
 go_ret
 obtain ⟨ua,ub,rfl⟩:∃ ua ub,us=[ua,ub]:=by
  have h:=HUS.out
  match us,h with
  | [x,y],_=>exact ⟨x,y,rfl⟩
 obtain ⟨hsb,hrb,hT5,hEb,hEa⟩:=HBB.out
 have e1:(Res.own 80 1 lv [ptrV ga.tb,ptrV gb.tb].length ([ua,ub].map ptrV)::resPs J [ua,ub] ([ptrV ga.tb,ptrV gb.tb].take [ptrV ga.tb,ptrV gb.tb].length))=[Res.own 80 1 lv 2 [ptrV ua,ptrV ub],rU ua ga.tb J,rU ub gb.tb J]:=rfl
 have hT6:=HT6.out
 rw [e1] at hT6
 have hp:([Res.own 80 1 lv 2 [ptrV ua,ptrV ub],rU ua ga.tb J,rU ub gb.tb J]++(gb.res++(ga.res++rs))).Perm (resB lv ua ub ga gb J++rs):=perm_of_cnt fun a=>by unfold resB;simp only [cnt_append,cnt_cons,cnt_nil];omega
 have hst:=Trk.add (Trk.start hT5.sep) hT6
 exact ⟨lv,ua,ub,ga,gb,rfl,⟨(Trk.add hT5 hT6).perm hp,(hEa.next hst).perm hp,(hEb.next hst).perm hp,HA.out.2.1,hrb,HA.out.1,hsb⟩⟩
end Go.Proofs.YteggkjdlajgenaaGreatDoor
namespace Go.Proofs.YteggkjdlajgenaaGreatDoor
open Go.RowKit Go.Afx
def RS (lv:Value) (ua ub:Nat) (ga gb:TabG) (J:Option Nat) (jv:Value) (steps:List StepU) (fr:List Res):List Res :=
 resU ua ga J jv (steps.map StepU.val) (Res.own 80 1 lv 2 [ptrV ua,ptrV ub]::rU ub gb.tb J::(gb.res++fr))
def RSb (lv:Value) (ua ub:Nat) (ga gb:TabG) (J:Option Nat) (jv:Value) (steps:List StepU) (fr:List Res):List Res :=
 resU ub gb J jv (steps.map StepU.val) (Res.own 80 1 lv 2 [ptrV ua,ptrV ub]::rU ua ga.tb J::(ga.res++fr))
def RSj (lv:Value) (ua ub:Nat) (ga gb:TabG) (J:Option Nat) (jv:Value) (steps:List StepU) (fr:List Res):List Res :=
 res2 ga gb J jv (steps.map StepU.val) (Res.own 80 1 lv 2 [ptrV ua,ptrV ub]::rU ua ga.tb J::rU ub gb.tb J::fr)
theorem RS_b (lv:Value) (ua ub:Nat) (ga gb:TabG) (J:Option Nat) (jv:Value) (steps:List StepU) (fr:List Res):(RS lv ua ub ga gb J jv steps fr).Perm (RSb lv ua ub ga gb J jv steps fr) :=
 perm_of_cnt fun a=>by unfold RS RSb resU;simp only [cnt_append,cnt_cons];omega
theorem RS_j (lv:Value) (ua ub:Nat) (ga gb:TabG) (J:Option Nat) (jv:Value) (steps:List StepU) (fr:List Res):(RS lv ua ub ga gb J jv steps fr).Perm (RSj lv ua ub ga gb J jv steps fr) :=
 perm_of_cnt fun a=>by unfold RS RSj resU res2;simp only [cnt_append,cnt_cons];omega
structure LawG (w0 w:World) (lv:Value) (ua ub:Nat) (J:Option Nat) (fr:List Res) (st:List (List AV) × List (List AV)) (steps:List StepU) (ta tb:Nat) (ga gb:TabG) (jv:Value):Prop where
 trk:Trk w0 [] w (RS lv ua ub ga gb J jv steps fr)
 a:TabE w (feet (RS lv ua ub ga gb J jv steps fr)) ga
 b:TabE w (feet (RS lv ua ub ga gb J jv steps fr)) gb
 ra:ga.rows=st.1
 rb:gb.rows=st.2
 pa:ga.tb=ta
 pb:gb.tb=tb
 sa:Alike ga.S exUt
 sb:Alike gb.S exUu
 steps_at:∀ s∈steps,s.at w (feet (RS lv ua ub ga gb J jv steps fr))∧(s.tb=ta∨s.tb=tb)
 va:RowsV exUt st.1
 vb:RowsV exUu st.2
section
variable {w0 w w' : World} {lv : Value} {ua ub : Nat} {J : Option Nat} {fr : List Res} {st : List (List AV) × List (List AV)} {steps : List StepU} {ta tb : Nat} {ga gb : TabG} {jv : Value}
theorem LawG.below (h:LawG w0 w lv ua ub J fr st steps ta tb ga gb jv) (hb:Below w.heap.size w w'):LawG w0 w' lv ua ub J fr st steps ta tb ga gb jv :=
 have hT:=Trk.of_below h.trk.sep hb
 ⟨h.trk.below hb,h.a.next hT,h.b.next hT,h.ra,h.rb,h.pa,h.pb,h.sa,h.sb,fun s hs=>⟨StepU.at_next (h.steps_at s hs).1 hT,(h.steps_at s hs).2⟩,h.va,h.vb⟩
def outR (w0 wA:World):Nat→Prop:=fun k=>k < w0.heap.size∨wA.heap.size≤k
theorem LawG.off (h:LawG w0 w lv ua ub J fr st steps ta tb ga gb jv):∀ k,outR w0 w k→offF (feet (RS lv ua ub ga gb J jv steps fr)) k:=fun k hk h1=>by
 have h2:=h.trk.sep.lt k h1
 rcases h.trk.foot k h1 with h3|h3
 ·simp at h3
 ·rcases hk with h4|h4<;>omega
theorem LawG.row (h:LawG w0 w lv ua ub J fr st steps ta tb ga gb jv) {sz n:Nat} {v:Value} {cs:List Value} (hr:Sl w' (outR w0 w) sz v n cs):Sl w' (offF (feet (RS lv ua ub ga gb J jv steps fr))) sz v n cs :=
 hr.mono (Nat.le_refl _) (fun _ _ _=>rfl) (fun k hk _=>h.off k hk)
theorem LawG.stepA (h:LawG w0 w lv ua ub J fr st steps ta tb ga gb jv) {m:List (List AV)} {ls:List StepU} {g':TabG} {jv':Value}
 (hN:StepN w w' ua ga J jv (steps.map StepU.val) (Res.own 80 1 lv 2 [ptrV ua,ptrV ub]::rU ub gb.tb J::(gb.res++fr)) m (ls.map StepU.val) g' jv')
 (hl:∀ s∈ls,s.at w' (feet (RS lv ua ub g' gb J jv' (steps++ls) fr))∧s.tb=ga.tb) (hv:RowsV exUt m):LawG w0 w' lv ua ub J fr (m,st.2) (steps++ls) ta tb g' gb jv':=by
 have e:RS lv ua ub g' gb J jv' (steps++ls) fr=resU ua g' J jv' (steps.map StepU.val++ls.map StepU.val) (Res.own 80 1 lv 2 [ptrV ua,ptrV ub]::rU ub gb.tb J::(gb.res++fr)):=by unfold RS;rw [List.map_append]
 have hT:Trk w (feet (RS lv ua ub ga gb J jv steps fr)) w' (RS lv ua ub g' gb J jv' (steps++ls) fr):=by rw [e];exact hN.trk
 refine ⟨Trk.after h.trk hT,by rw [e];exact hN.tab,h.b.next hT,hN.rows,h.rb,hN.tb.trans h.pa,h.pb,by rw [hN.sch];exact h.sa,h.sb,fun s hs=>?_,hv,h.vb⟩
 rcases List.mem_append.1 hs with h1|h1
 ·exact ⟨StepU.at_next (h.steps_at s h1).1 hT,(h.steps_at s h1).2⟩
 ·exact ⟨(hl s h1).1,.inl ((hl s h1).2.trans h.pa)⟩
theorem LawG.stepB (h:LawG w0 w lv ua ub J fr st steps ta tb ga gb jv) {m:List (List AV)} {ls:List StepU} {g':TabG} {jv':Value}
 (hN:StepN w w' ub gb J jv (steps.map StepU.val) (Res.own 80 1 lv 2 [ptrV ua,ptrV ub]::rU ua ga.tb J::(ga.res++fr)) m (ls.map StepU.val) g' jv')
 (hl:∀ s∈ls,s.at w' (feet (RSb lv ua ub ga g' J jv' (steps++ls) fr))∧s.tb=gb.tb) (hv:RowsV exUu m):LawG w0 w' lv ua ub J fr (st.1,m) (steps++ls) ta tb ga g' jv':=by
 have e:RSb lv ua ub ga g' J jv' (steps++ls) fr=resU ub g' J jv' (steps.map StepU.val++ls.map StepU.val) (Res.own 80 1 lv 2 [ptrV ua,ptrV ub]::rU ua ga.tb J::(ga.res++fr)):=by unfold RSb;rw [List.map_append]
 have hp:=RS_b lv ua ub ga gb J jv steps fr
 have hp':=RS_b lv ua ub ga g' J jv' (steps++ls) fr
 have hT0:Trk w (feet (RSb lv ua ub ga gb J jv steps fr)) w' (RSb lv ua ub ga g' J jv' (steps++ls) fr):=by rw [e];exact hN.trk
 have hT:Trk w (feet (RS lv ua ub ga gb J jv steps fr)) w' (RS lv ua ub ga g' J jv' (steps++ls) fr):=(hT0.from hp.symm).perm hp'.symm
 have hE:TabE w' (feet (RSb lv ua ub ga g' J jv' (steps++ls) fr)) g':=by rw [e];exact hN.tab
 refine ⟨Trk.after h.trk hT,h.a.next hT,hE.perm hp'.symm,h.ra,hN.rows,h.pa,hN.tb.trans h.pb,h.sa,by rw [hN.sch];exact h.sb,fun s hs=>?_,h.va,hv⟩
 rcases List.mem_append.1 hs with h1|h1
 ·exact ⟨StepU.at_next (h.steps_at s h1).1 hT,(h.steps_at s h1).2⟩
 ·exact ⟨StepU.at_perm (hl s h1).1 hp'.symm,.inr ((hl s h1).2.trans h.pb)⟩
end
def LawSt (w0 w:World) (lv:Value) (ua ub:Nat) (J:Option Nat) (fr:List Res) (st:List (List AV) × List (List AV)) (steps:List StepU) (ta tb:Nat):Prop:=∃ ga gb jv,LawG w0 w lv ua ub J fr st steps ta tb ga gb jv
theorem Alike.un2 {c s:SchV} (h:Alike c s) (x:StepU) (m:List (List AV)):x.un c m=x.un s m:=by
 cases x with
 | came tb k=>show (delMd c m k).1=_;rw [h.del];rfl
 | gone tb rv row=>show (insMd c m row).1=_;rw [h.ins];rfl
 | turned tb rv row k=>show (updMd c m k row).1=_;rw [h.upd];rfl
theorem unP_like {Sa Sb ta:_} {ca cb:SchV} (ha:Alike ca Sa) (hb:Alike cb Sb) (s:StepU) (st:List (List AV) × List (List AV)):unP ca cb ta s st=unP Sa Sb ta s st:=by
 unfold unP;rw [ha.un2,hb.un2]
theorem backP_like {Sa Sb:SchV} {ta:Nat} {ca cb:SchV} (ha:Alike ca Sa) (hb:Alike cb Sb):∀ (ls:List StepU) (st:List (List AV) × List (List AV)),backP ca cb ta ls st=backP Sa Sb ta ls st
 | [],_=>rfl
 | s::t,st=>by show unP ca cb ta s (backP ca cb ta t st)=unP Sa Sb ta s (backP Sa Sb ta t st);rw [backP_like ha hb t st,unP_like ha hb]
theorem backP_valid {w:World} {F:List Nat} {ta:Nat}:∀ (ls:List StepU) (st:List (List AV) × List (List AV)),(∀ s∈ls,s.at w F)→RowsV exUt st.1→RowsV exUu st.2→RowsV exUt (backP exUt exUu ta ls st).1∧RowsV exUu (backP exUt exUu ta ls st).2
 | [],_,_,h1,h2=>⟨h1,h2⟩
 | s::t,st,ha,h1,h2=>by
  obtain ⟨h3,h4⟩:=backP_valid t st (fun x hx=>ha x (List.mem_cons_of_mem _ hx)) h1 h2
  show RowsV exUt (unP exUt exUu ta s (backP exUt exUu ta t st)).1∧RowsV exUu (unP exUt exUu ta s (backP exUt exUu ta t st)).2
  unfold unP
  split
  ·exact ⟨h3.un (ha s zPXO),h4⟩
  ·exact ⟨h3,h4.un (ha s zPXO)⟩
theorem lawback_any (w0 w:World) (lv:Value) (ua ub jb:Nat) (fr:List Res) (st:List (List AV) × List (List AV)) (steps:List StepU) (ta tb:Nat) (h:LawSt w0 w lv ua ub (some jb) fr st steps ta tb) (hl:steps.length≤100000) (m:Int) :
 Calls Tryz.prog 31 #[ptrV jb,.int .i64 m] w fun e w'=>e=.returned (.int .i64 ((steps.length - (max m 0).toNat:Nat):Int)) ∧
  LawSt w0 w' lv ua ub (some jb) fr (backP exUt exUu ta (steps.drop (min steps.length (max m 0).toNat)) st) (steps.take (min steps.length (max m 0).toNat)) ta tb:=by
 obtain ⟨ga,gb,jv,h⟩:=h
 have hp:=RS_j lv ua ub ga gb (some jb) jv steps fr
 have h2:=zzxT
 refine (jback_two w ga gb jb jv steps _ st ta tb ga.S gb.S (h.trk.sep.perm hp) h2 (fun s hs=>⟨StepU.at_perm (h.steps_at s hs).1 hp,(h.steps_at s hs).2⟩) hl m).mono ?_
 rintro e w' ⟨rfl,hk,jv',ga',gb',hT,ht,ha⟩
 have hst:=backP_like (ta:=ta) h.sa h.sb (steps.drop (min steps.length (max m 0).toNat)) st
 have hva:=backP_valid (ta:=ta) (steps.drop (min steps.length (max m 0).toNat)) st (fun s hs=>(h.steps_at s (List.mem_of_mem_drop hs)).1) h.va h.vb
 generalize min steps.length (max m 0).toNat=k at *
 have e1:rU ua ga'.tb (some jb)=rU ua ga.tb (some jb):=by rw [ht.ta,h.pa]
 have e2:rU ub gb'.tb (some jb)=rU ub gb.tb (some jb):=by rw [ht.tb,h.pb]
 have hp':(res2 ga' gb' (some jb) jv' ((steps.take k).map StepU.val) (Res.own 80 1 lv 2 [ptrV ua,ptrV ub]::rU ua ga.tb (some jb)::rU ub gb.tb (some jb)::fr)).Perm (RS lv ua ub ga' gb' (some jb) jv' (steps.take k) fr):=by
  rw [←e1,←e2];exact (RS_j lv ua ub ga' gb' (some jb) jv' (steps.take k) fr).symm
 have hT2:=zdk4
 refine ⟨rfl,ga',gb',jv',⟨Trk.after h.trk hT2,ht.a.perm hp',ht.b.perm hp',?_,?_,ht.ta,ht.tb,by rw [ht.sa];exact h.sa,by rw [ht.sb];exact h.sb,fun s hs=>⟨StepU.at_perm (ha s hs).1 hp',(ha s hs).2⟩,hva.1,hva.2⟩⟩
 ·rw [ht.ra,hst]
 ·rw [ht.rb,hst]
end Go.Proofs.YteggkjdlajgenaaGreatDoor
namespace Go.Proofs.YteggkjdlajgenaaGreatDoor
open Go.RowKit Go.Afx
def exUr (n:Int):List AV:=[⟨1,n,⟨#[]⟩⟩,⟨1,n,⟨#[]⟩⟩]
theorem exU_ins1:insMd exUt [] (exUr 1)=([exUr 1],0):=zyVB
theorem exU_ins2:insMd exUt [exUr 1] (exUr 2)=([exUr 1,exUr 2],0):=zyVB
theorem exU_del:delMd exUt [exUr 1,exUr 2] (kfS exUt 0 (exUr 1))=([exUr 2],0):=zyVB
theorem exU_undel:insMd exUt [exUr 2] (exUr 1)=([exUr 1,exUr 2],0):=zyVB
theorem exU_unins:delMd exUt [exUr 1,exUr 2] (kfS exUt 0 (exUr 2))=([exUr 1],0):=zyVB
theorem exUt_right:rightS exUt=true:=zyVB
theorem exUu_right:rightS exUu=true:=zyVB
theorem exUr_fit (n:Int) (h:fit64 n):∀ a∈exUr n,fit64 a.n:=by
 intro a ha;simp [exUr] at ha;subst ha;exact h
theorem BothAt.law {w0 w':World} {lv:Value} {ua ub:Nat} {ga gb:TabG} {J:Option Nat} {jv:Value} {fr:List Res} (h:BothAt w0 w' (rJ J jv []++fr) lv ua ub ga gb J):LawSt w0 w' lv ua ub J fr ([],[]) [] ga.tb gb.tb:=by
 have hp:(resB lv ua ub ga gb J++(rJ J jv []++fr)).Perm (RS lv ua ub ga gb J jv [] fr):=perm_of_cnt fun a=>by unfold resB RS resU;simp only [cnt_append,cnt_cons,List.map_nil];omega
 exact ⟨ga,gb,jv,⟨h.trk.perm hp,h.a.perm hp,h.b.perm hp,h.ra,h.rb,rfl,rfl,h.sa,h.sb,zPXO,RowsV.nil exUt_right,RowsV.nil exUu_right⟩⟩
theorem mem_RS {lv:Value} {ua ub:Nat} {ga gb:TabG} {J:Option Nat} {jv:Value} {steps:List StepU} {fr:List Res}:Res.own 80 1 lv 2 [ptrV ua,ptrV ub]∈RS lv ua ub ga gb J jv steps fr:=by
 unfold RS resU
 exact List.mem_append_right _ (List.mem_cons_of_mem _ (List.mem_append_right _ (List.mem_cons_self)))
theorem LawG.list {w0 w:World} {lv:Value} {ua ub:Nat} {J:Option Nat} {fr:List Res} {st:List (List AV) × List (List AV)} {steps:List StepU} {ta tb:Nat} {ga gb:TabG} {jv:Value} (h:LawG w0 w lv ua ub J fr st steps ta tb ga gb jv) :
 ∃ g off cap,lv=.slice (some ⟨g,off,none⟩) 2 cap∧g < w.heap.size∧w0.heap.size≤g∧w.cell? ⟨g,off+0,none⟩=some (ptrV ua)∧w.cell? ⟨g,off+1,none⟩=some (ptrV ub):=by
 have ho:=h.trk.own mem_RS
 obtain ⟨g,off,cap,hv,_,_,_,hgl,hcs⟩:=(ho.sl (B:=fun _=>True) (fun _ _=>trivial)).place zTbe
 refine ⟨g,off,cap,hv,hgl,?_,hcs 0 zPXO,hcs 1 zPXO⟩
 have h1:g∈feet (RS lv ua ub ga gb J jv steps fr):=mem_feet.2 ⟨_,mem_RS,by simp [Res.own,hv,Value.ownBlock]⟩
 rcases h.trk.foot g h1 with h2|h2
 ·simp at h2
 ·exact h2
section
variable {w0 wA w : World} {lv : Value} {ua ub : Nat} {J : Option Nat} {fr : List Res} {st : List (List AV) × List (List AV)} {steps : List StepU} {ta tb : Nat}
theorem LawSt.below (h:LawSt w0 wA lv ua ub J fr st steps ta tb) (hb:Below wA.heap.size wA w):LawSt w0 w lv ua ub J fr st steps ta tb:=by
 obtain ⟨ga,gb,jv,h⟩:=h
 exact ⟨ga,gb,jv,h.below hb⟩
theorem LawSt.add (h:LawSt w0 wA lv ua ub J fr st steps ta tb) {r:Res} (hb:Below wA.heap.size wA w) (hr:r.holds w) (hn:r.foot.Nodup) (hf:∀ k∈r.foot,wA.heap.size≤k):LawSt w0 w lv ua ub J (r::fr) st steps ta tb:=by
 obtain ⟨ga,gb,jv,h⟩:=h
 have hp:(r::RS lv ua ub ga gb J jv steps fr).Perm (RS lv ua ub ga gb J jv steps (r::fr)):=perm_of_cnt fun a=>zk1V
 have hT:=((Trk.start h.trk.sep).new hr hn hf hb).perm hp
 exact ⟨ga,gb,jv,⟨(h.trk.new hr hn hf hb).perm hp,h.a.next hT,h.b.next hT,h.ra,h.rb,h.pa,h.pb,h.sa,h.sb,fun s hs=>⟨StepU.at_next (h.steps_at s hs).1 hT,(h.steps_at s hs).2⟩,h.va,h.vb⟩⟩
theorem LawSt.frame (h:LawSt w0 w lv ua ub J fr st steps ta tb) {r:Res} (hr:r∈fr):r.holds w:=by
 obtain ⟨ga,gb,jv,h⟩:=h
 exact h.trk.sep.all r (by unfold RS resU;simp [hr])
theorem LawSt.list {gl ol cl:Nat} (h:LawSt w0 w (.slice (some ⟨gl,ol,none⟩) 2 cl) ua ub J fr st steps ta tb):w.cell? ⟨gl,ol,none⟩=some (.pointer (some ⟨ua,0,none⟩))∧w.cell? ⟨gl,ol+1,none⟩=some (.pointer (some ⟨ub,0,none⟩))∧gl < w.heap.size:=by
 obtain ⟨ga,gb,jv,h⟩:=h
 obtain ⟨g,off,cap,hv,hg,_,h0,h1⟩:=h.list
 cases hv
 exact ⟨h0,h1,hg⟩
theorem LawSt.uaC (h:LawSt w0 w lv ua ub J fr st steps ta tb):w.cell? ⟨ua,0,none⟩=some (.pointer (some ⟨ta,0,none⟩))∧ua < w.heap.size:=by
 obtain ⟨ga,gb,jv,h⟩:=h
 have hb:=resU_blk h.trk.sep
 rw [h.pa] at hb
 exact ⟨hb.cell 0,hb.lt⟩
theorem law_mark {jb:Nat} (h:LawSt w0 w lv ua ub (some jb) fr st steps ta tb):Calls Tryz.prog 30 #[ptrV jb] w fun e w'=>e=.returned (.int .i64 (steps.length:Int))∧w'=w:=by
 obtain ⟨ga,gb,jv,h⟩:=h
 have h1:=mark_u (some jb) jv (steps.map StepU.val) (resU_j h.trk.sep)
 have h3:lenJ (some jb) (steps.map StepU.val)=steps.length:=List.length_map _
 rw [h3] at h1
 exact h1
theorem law_keyA (h:LawSt w0 wA lv ua ub J fr st steps ta tb) (hb:Below wA.heap.size wA w) {B:Nat→Prop} {rv:Value} {row:List AV} (hr:Sl w B 3 rv row.length (rowCells row)) (hok:RowOK exUt row) :
 Calls Tryz.prog 26 #[ptrV ta,rv] w fun e w'=>e=.returned (.tuple #[.string (kb (kfS exUt 0 row)),.int .i64 0])∧Below w.heap.size w w':=by
 obtain ⟨ga,gb,jv,h⟩:=h
 have hw:=h.below hb
 have hok2:=hw.sa.rowOK hok
 have h1:=tkey_any w _ ga hw.a hw.trk.sep.left B rv row hr hok.n64 zJ0c ((chk_zero hw.a.st.right row).1 hok2.fit)
 rw [hw.pa,hw.sa.kf] at h1
 exact h1
theorem law_rowsA (h:LawSt w0 w lv ua ub J fr st steps ta tb):Calls Tryz.prog 22 #[ptrV ta,.slice none 0 0] w fun e w'=>∃ v rws,e=.returned v∧RowsSq w w' v rws∧rws.map RowV.l=st.1:=by
 obtain ⟨ga,gb,jv,h⟩:=h
 have h1:=trows_any w _ ga h.a h.trk.sep.left (fun _=>True) (.slice none 0 0) [] (Sl.zero w _ 1)
 rw [inP_emp,h.ra,h.pa] at h1
 exact h1
theorem law_insA (h:LawSt w0 wA lv ua ub J fr st steps ta tb) (hb:Below wA.heap.size wA w) {rv:Value} {row:List AV} (hr:Sl w (outR w0 wA) 3 rv row.length (rowCells row)) (hf:∀ a∈row,fit64 a.n) (hrl:row.length≤1000) (hl:steps.length≤80000) :
 Calls Tryz.prog 43 #[ptrV ua,rv] w fun e w'=>e=.returned (.int .i64 (insMd exUt st.1 row).2) ∧
  LawSt w0 w' lv ua ub J fr ((insMd exUt st.1 row).1,st.2) (steps++if (insMd exUt st.1 row).2=0 then [.came ta (kfS exUt 0 row)] else []) ta tb:=by
 obtain ⟨ga,gb,jv,h⟩:=h
 have hw:=h.below hb
 have h1:=uins_any w ua ga J jv (steps.map StepU.val) _ hw.trk.sep hw.a rv row (h.row hr) hf hrl zmA9
 rw [hw.sa.ins,hw.ra,hw.sa.kf,hw.pa] at h1
 refine h1.mono ?_
 rintro e w' ⟨rfl,g',jv',hN⟩
 have hv:RowsV exUt (insMd exUt st.1 row).1:=h.va.ins hf
 refine ⟨rfl,g',gb,jv',?_⟩
 by_cases he:(insMd exUt st.1 row).2=0
 ·rw [if_pos he] at hN ⊢
  exact hw.stepA (ls:=[.came ta (kfS exUt 0 row)]) hN (fun s hs=>by rw [List.mem_singleton.1 hs];exact ⟨trivial,hw.pa.symm⟩) hv
 ·rw [if_neg he] at hN ⊢
  exact hw.stepA (ls:=[]) hN (fun s hs=>by simp at hs) hv
theorem law_delA (h:LawSt w0 wA lv ua ub J fr st steps ta tb) (hb:Below wA.heap.size wA w) (k:Key) (hl:steps.length≤80000) :
 Calls Tryz.prog 45 #[ptrV ua,.string (kb k)] w fun e w'=>e=.returned (.int .i64 (delMd exUt st.1 k).2) ∧
  ∃ ls,LawSt w0 w' lv ua ub J fr ((delMd exUt st.1 k).1,st.2) (steps++ls) ta tb∧(((delMd exUt st.1 k).2≠0∧ls=[])∨((delMd exUt st.1 k).2=0∧∃ rv row,ls=[.gone ta rv row]∧insMd exUt (delMd exUt st.1 k).1 row=(st.1,0))):=by
 obtain ⟨ga,gb,jv,h⟩:=h
 have hw:=h.below hb
 have h1:=udel_any w ua ga J jv (steps.map StepU.val) _ hw.trk.sep hw.a k zmA9
 rw [hw.sa.del,hw.ra,hw.pa] at h1
 refine h1.mono ?_
 rintro e w' ⟨rfl,g',jv',l,hN,hd⟩
 have hv:RowsV exUt (delMd exUt st.1 k).1:=h.va.del k
 rcases hd with ⟨h2,rfl⟩|⟨h2,rv,rfl,hsl⟩
 ·exact ⟨rfl,[],⟨g',gb,jv',hw.stepA (ls:=[]) hN (fun s hs=>by simp at hs) hv⟩,.inl ⟨h2,rfl⟩⟩
 ·obtain ⟨j,hj,hfi,hk,_,_,hback⟩:=del_back h.va h2
  have hmem:st.1[j]∈ga.rows:=by rw [h.ra];exact List.getElem_mem hj
  have hrk:=rowOf_key (g:=ga) hw.a hmem
  rw [hw.sa.kf,hk] at hrk
  rw [hrk] at hN hsl
  have hok:=h.va.ok _ (List.getElem_mem hj)
  have hc8:=(rightS_by exUt_right).2.2.2.2.2.2.2.2
  refine ⟨rfl,[.gone ta rv st.1[j]],⟨g',gb,jv',hw.stepA (ls:=[.gone ta rv st.1[j]]) hN (fun s hs=>?_) hv⟩,.inr ⟨h2,rv,st.1[j],rfl,hback⟩⟩
  rw [List.mem_singleton.1 hs]
  refine ⟨⟨?_,hok.n64,by have:=hok.len;omega⟩,hw.pa.symm⟩
  unfold RS
  rw [List.map_append]
  exact hsl
end
theorem exU_own {w:World} (n:Int):Own (w.alloc (.cells #[.int .i64 1,.int .i64 n,.string ⟨#[]⟩,.int .i64 1,.int .i64 n,.string ⟨#[]⟩] 113)) 113 3 (.slice (some ⟨w.heap.size,0,none⟩) 2 2) (exUr n).length (rowCells (exUr n)):=by
 have h1:Ones (rowCells (exUr n)):=by
  intro u hu
  simp [rowCells,exUr,AV.cells] at hu
  rcases hu with rfl|rfl|rfl|rfl|rfl|rfl<;>rfl
 exact Own.made w 113 3 (rowCells (exUr n)) [] 2 2 z5Lp h1 zTbe zdUY z5Lp
theorem exU_sl {w0 wA:World} (n:Int):Sl (wA.alloc (.cells #[.int .i64 1,.int .i64 n,.string ⟨#[]⟩,.int .i64 1,.int .i64 n,.string ⟨#[]⟩] 113)) (outR w0 wA) 3 (.slice (some ⟨wA.heap.size,0,none⟩) 2 2) (exUr n).length (rowCells (exUr n)) :=
 (exU_own n).sl fun k hk=>by cases hk;exact .inr (Nat.le_refl _)
theorem awake10_any (w:World) (hm:Mx w):Calls Tryz.prog 28 #[] w fun e w'=>e=.returned (.bool true)∧Below w.heap.size w w':=by
 obtain ⟨w1,hw1⟩:∃ w1,w.alloc (.cells #[.slice none 0 0] 61)=w1:=⟨_,rfl⟩
 have hb1:=zppX
 have hk1:Blk w1 w.heap.size 61 [.slice none 0 0]:=hw1▸Blk.new w _ _
 have hT1:Trk w [] w1 (rJ (some w.heap.size) (.slice none 0 0) []++[]):=by
  rw [List.append_nil,rJ_some]
  have h0:Trk w [] w []:=⟨⟨zPXO,z07k⟩,Only.refl _ _,z07k⟩
  have h1:Trk w [] w1 [Res.own 139 1 (.slice none 0 0) 0 []]:=Trk.new h0 (Own.nil w1 _ _) znD9 znD9 hb1
  have h2:Trk w [] w [Res.own 139 1 (.slice none 0 0) 0 []]:=Trk.new h0 (Own.nil w _ _) znD9 znD9 (Below.refl _ _)
  exact Trk.new h2 hk1 zg6m zg6m hb1
 have HBO:=Lib.hid (both_any w w1 hm (hm.below hb1) _ hT1 (some w.heap.size))
 clear hm hb1 hk1 hT1
 unfold ptrJ ptrV at HBO
 go_enter Tryz.func28,Tryz.ntmps28
 go_wp2_with fail
 clear hw1
 refine HBO.out.mono ?_
 clear HBO
 rintro e w2 ⟨lv,ua,ub,ga,gb,rfl,hbo⟩
 have hl2:=hbo.law
 obtain ⟨ga2,gb2,jv2,hg2⟩:=id hl2
 obtain ⟨gl,ol,cl,rfl,hgl,_,hl0,hl1⟩:=hg2.list
 have HL2:=Lib.hid hl2
 clear hbo hl2 hg2 ga2 gb2 jv2
 obtain ⟨w3,hw3⟩:∃ w3,w2.alloc (.cells #[.int .i64 1,.int .i64 1,.string ⟨#[]⟩] 113)=w3:=⟨_,rfl⟩
 obtain ⟨w4,hw4⟩:∃ w4,w3.alloc (.cells #[.int .i64 1,.int .i64 2,.string ⟨#[]⟩] 113)=w4:=⟨_,rfl⟩
 have hb3:=zUeY
 have hb4:=zvR2
 have hk3:Blk w3 w2.heap.size 113 [.int .i64 1,.int .i64 1,.string ⟨#[]⟩]:=hw3▸Blk.new w2 _ _
 have hk4:Blk w4 w3.heap.size 113 [.int .i64 1,.int .i64 2,.string ⟨#[]⟩]:=hw4▸Blk.new w3 _ _
 have hb24:=hb3.trans (hb4.mono hb3.size)
 have hk34:=hk3.below hb4
 have HB24:=Lib.hid hb24
 have HK3:=Lib.hid hk34
 have HK4:=Lib.hid hk4
 have HGL:=Lib.hid hgl
 have HL0:=Lib.hid hl0
 have HL1:=Lib.hid hl1
 have x0:w4.cell? ⟨w2.heap.size,0,none⟩=some (.int .i64 1):=hk34.cell 0
 have x1:w4.cell? ⟨w2.heap.size,1,none⟩=some (.int .i64 1):=hk34.cell 1
 have x2:w4.cell? ⟨w2.heap.size,2,none⟩=some (.string ⟨#[]⟩):=hk34.cell 2
 have l0:w4.cell? ⟨gl,ol,none⟩=some (.pointer (some ⟨ua,0,none⟩)):=(hb24.cell (p:=⟨gl,ol,none⟩) hgl).trans hl0
 have hgl4:gl < w4.heap.size:=Nat.lt_of_lt_of_le hgl hb24.size
 have HW3:=Lib.hid hw3
 have HW4:=Lib.hid hw4
 have hsz:w3.heap.size=w2.heap.size+1:=by rw [←hw3];simp
 have HSZ:=Lib.hid hsz
 have hl4:LawSt w w4 (.slice (some ⟨gl,ol,none⟩) 2 cl) ua ub (some w.heap.size) [Res.blk w3.heap.size 113 [.int .i64 1,.int .i64 2,.string ⟨#[]⟩],Res.blk w2.heap.size 113 [.int .i64 1,.int .i64 1,.string ⟨#[]⟩]] ([],[]) [] ga.tb gb.tb :=
  (HL2.out.add (r:=Res.blk w2.heap.size 113 [.int .i64 1,.int .i64 1,.string ⟨#[]⟩]) hb3 hk3 zg6m zg6m).add (r:=Res.blk w3.heap.size 113 [.int .i64 1,.int .i64 2,.string ⟨#[]⟩]) hb4 hk4 zg6m zg6m
 rw [hsz] at hl4
 generalize hta:ga.tb=ta at *
 generalize htb:gb.tb=tb at *
 have hLL:∀ W st steps,LawSt w W (.slice (some ⟨gl,ol,none⟩) 2 cl) ua ub (some w.heap.size) [Res.blk (w2.heap.size+1) 113 [.int .i64 1,.int .i64 2,.string ⟨#[]⟩],Res.blk w2.heap.size 113 [.int .i64 1,.int .i64 1,.string ⟨#[]⟩]] st steps ta tb →
  Blk W w2.heap.size 113 [.int .i64 1,.int .i64 1,.string ⟨#[]⟩]∧Blk W (w2.heap.size+1) 113 [.int .i64 1,.int .i64 2,.string ⟨#[]⟩]:=fun W st steps h =>
  ⟨h.frame (r:=Res.blk w2.heap.size 113 [.int .i64 1,.int .i64 1,.string ⟨#[]⟩]) zPXO,h.frame (r:=Res.blk (w2.heap.size+1) 113 [.int .i64 1,.int .i64 2,.string ⟨#[]⟩]) zPXO⟩
 have HLL:=Lib.hid hLL
 have HL4:=Lib.hid hl4
 clear hb3 hb4 hk3 hk4 hb24 hk34 hgl hl0 hl1 hw3 hw4 hsz hl4 hLL HL2 HGL HL0 HL1 HK3 HK4 HSZ hta htb x0 x1 x2 l0 hgl4
 generalize [Res.blk (w2.heap.size+1) 113 [.int .i64 1,.int .i64 2,.string ⟨#[]⟩],Res.blk w2.heap.size 113 [.int .i64 1,.int .i64 1,.string ⟨#[]⟩]]=fr at *
 go_upto_region 6 with fail
 rw [HW3.out,HW4.out]
 clear HW3 HW4
 obtain ⟨hx,hy⟩:=HLL.out _ _ _ HL4.out
 have x0:w4.cell? ⟨w2.heap.size,0,none⟩=some (.int .i64 1):=hx.cell 0
 have x1:w4.cell? ⟨w2.heap.size,1,none⟩=some (.int .i64 1):=hx.cell 1
 have x2:w4.cell? ⟨w2.heap.size,2,none⟩=some (.string ⟨#[]⟩):=hx.cell 2
 have y0:w4.cell? ⟨w2.heap.size+1,0,none⟩=some (.int .i64 1):=hy.cell 0
 have y1:w4.cell? ⟨w2.heap.size+1,1,none⟩=some (.int .i64 2):=hy.cell 1
 have y2:w4.cell? ⟨w2.heap.size+1,2,none⟩=some (.string ⟨#[]⟩):=hy.cell 2
 obtain ⟨l0,_,lgl⟩:=HL4.out.list
 have hbr:Below w4.heap.size w4 (w4.alloc (.cells #[.int .i64 1,.int .i64 1,.string ⟨#[]⟩,.int .i64 1,.int .i64 1,.string ⟨#[]⟩] 113)).drew:=((Below.refl _ _).alloc (Nat.le_refl _) _).drew
 have HBR:=Lib.hid hbr
 have hag:Agree (fun q=>q=gl) w4.drew (w4.alloc (.cells #[.int .i64 1,.int .i64 1,.string ⟨#[]⟩,.int .i64 1,.int .i64 1,.string ⟨#[]⟩] 113)).drew:=fun b o hb=>by
  subst hb
  exact hbr.cell (p:=⟨b,o,none⟩) lgl
 have HI:=Lib.hid (law_insA HL4.out hbr ((exU_sl (w0:=w) 1).below (Below.refl _ _).drew) (exUr_fit 1 (by simp [fit64])) (by simp [exUr]) zPXO)
 unfold ptrV at HI
 clear hx hy hbr
 refine wp_region_lit_plan [] [(0,0),(1,0),(2,2),(3,1),(4,1),(5,3),(6,4)] ((fun q=>q=gl)) zyVB zyVB (fun c a d v w h=>zx0I) ?_
 go_wp2_with (first|(refine stp ?_))
 clear x0 x1 x2 y0 y1 y2 l0 lgl hag
 refine HI.out.mono ?_
 clear HI
 rintro e w5 ⟨rfl,hl5⟩
 have hl5:LawSt w w5 (.slice (some ⟨gl,ol,none⟩) 2 cl) ua ub (some w.heap.size) fr ([exUr 1],[]) [.came ta (kfS exUt 0 (exUr 1))] ta tb:=by
  rw [exU_ins1] at hl5;exact hl5
 have HL5:=Lib.hid hl5
 have HM5:=Lib.hid (law_mark hl5)
 unfold ptrV at HM5
 clear hl5 HL4 HBR
 go_upto_region 8 with (first|(refine stp ?_)|(go_at_call 30;refine HM5.out.mono ?_;clear HM5;rintro e w6 ⟨rfl,rfl⟩))
 obtain ⟨hx,hy⟩:=HLL.out _ _ _ HL5.out
 have x0:w6.cell? ⟨w2.heap.size,0,none⟩=some (.int .i64 1):=hx.cell 0
 have x1:w6.cell? ⟨w2.heap.size,1,none⟩=some (.int .i64 1):=hx.cell 1
 have x2:w6.cell? ⟨w2.heap.size,2,none⟩=some (.string ⟨#[]⟩):=hx.cell 2
 have y0:w6.cell? ⟨w2.heap.size+1,0,none⟩=some (.int .i64 1):=hy.cell 0
 have y1:w6.cell? ⟨w2.heap.size+1,1,none⟩=some (.int .i64 2):=hy.cell 1
 have y2:w6.cell? ⟨w2.heap.size+1,2,none⟩=some (.string ⟨#[]⟩):=hy.cell 2
 obtain ⟨l0,_,lgl⟩:=HL5.out.list
 have hbr:Below w6.heap.size w6 (w6.alloc (.cells #[.int .i64 1,.int .i64 2,.string ⟨#[]⟩,.int .i64 1,.int .i64 2,.string ⟨#[]⟩] 113)).drew:=((Below.refl _ _).alloc (Nat.le_refl _) _).drew
 have HBR:=Lib.hid hbr
 have hag:Agree (fun q=>q=gl) w6.drew (w6.alloc (.cells #[.int .i64 1,.int .i64 2,.string ⟨#[]⟩,.int .i64 1,.int .i64 2,.string ⟨#[]⟩] 113)).drew:=fun b o hb=>by
  subst hb
  exact hbr.cell (p:=⟨b,o,none⟩) lgl
 have HI:=Lib.hid (law_insA HL5.out hbr ((exU_sl (w0:=w) 2).below (Below.refl _ _).drew) (exUr_fit 2 (by simp [fit64])) (by simp [exUr]) zPXO)
 unfold ptrV at HI
 clear hx hy hbr
 refine wp_region_lit_plan [] [(0,0),(1,0),(2,2),(3,1),(4,1),(5,3),(6,4)] ((fun q=>q=gl)) zyVB zyVB (fun c a d v w h=>zx0I) ?_
 go_wp2_with (first|(refine stp ?_))
 clear x0 x1 x2 y0 y1 y2 l0 lgl hag
 refine HI.out.mono ?_
 clear HI
 rintro e w7 ⟨rfl,hl7⟩
 have hl7:LawSt w w7 (.slice (some ⟨gl,ol,none⟩) 2 cl) ua ub (some w.heap.size) fr ([exUr 1,exUr 2],[]) [.came ta (kfS exUt 0 (exUr 1)),.came ta (kfS exUt 0 (exUr 2))] ta tb:=by
  rw [exU_ins2] at hl7;exact hl7
 have HL7:=Lib.hid hl7
 clear hl7 HL5 HBR
 go_upto_region 9 with (first|(refine stp ?_))
 obtain ⟨hx,hy⟩:=HLL.out _ _ _ HL7.out
 have x0:w7.cell? ⟨w2.heap.size,0,none⟩=some (.int .i64 1):=hx.cell 0
 have x1:w7.cell? ⟨w2.heap.size,1,none⟩=some (.int .i64 1):=hx.cell 1
 have x2:w7.cell? ⟨w2.heap.size,2,none⟩=some (.string ⟨#[]⟩):=hx.cell 2
 obtain ⟨l0,_,lgl⟩:=HL7.out.list
 obtain ⟨uc,lua⟩:=HL7.out.uaC
 have hbr:Below w7.heap.size w7 (w7.alloc (.cells #[.int .i64 1,.int .i64 1,.string ⟨#[]⟩,.int .i64 1,.int .i64 1,.string ⟨#[]⟩] 113)).drew:=((Below.refl _ _).alloc (Nat.le_refl _) _).drew
 have hag:Agree (fun q=>q=gl∨q=ua) w7.drew (w7.alloc (.cells #[.int .i64 1,.int .i64 1,.string ⟨#[]⟩,.int .i64 1,.int .i64 1,.string ⟨#[]⟩] 113)).drew:=fun b o hb=>hbr.cell (p:=⟨b,o,none⟩) (by rcases hb with rfl|rfl<;>assumption)
 have HK:=Lib.hid (law_keyA HL7.out hbr (B:=outR w w7) (rv:=.slice (some ⟨w7.heap.size,0,none⟩) 2 2) (row:=exUr 1) ((exU_sl (w0:=w) 1).below (Below.refl _ _).drew) ⟨zyVB,exUr_fit 1 (by simp [fit64])⟩)
 have HBR:=Lib.hid hbr
 unfold ptrV at HK
 clear hx hy hbr
 refine wp_region_lit_plan [] [(0,0),(1,0),(2,2),(3,0),(4,0),(5,2),(6,1),(7,1),(8,3),(9,4),(10,0),(11,0),(12,0),(13,0),(14,0)] ((fun q=>q=gl∨q=ua)) zyVB zyVB (fun c a d v w h=>zx0I) ?_
 go_wp2_with (first|(refine stp ?_))
 clear x0 x1 x2 l0 lgl uc lua hag
 refine HK.out.mono ?_
 clear HK
 rintro e w8 ⟨rfl,hb8⟩
 have hl8:=HL7.out.below (HBR.out.trans (hb8.mono HBR.out.size))
 have HD:=Lib.hid (law_delA hl8 (Below.refl _ _) (kfS exUt 0 (exUr 1)) zPXO)
 obtain ⟨l0,_,lgl⟩:=hl8.list
 unfold ptrV at HD
 clear hb8 hl8 HL7 HBR
 generalize hk1:kfS exUt 0 (exUr 1)=k1 at *
 generalize hks:kb k1=ks at *
 go_wp2_with (first|(refine stp ?_))
 clear l0 lgl
 refine HD.out.mono ?_
 clear HD
 rintro e w9 ⟨rfl,ls,hl9,hd⟩
 have hdel:delMd exUt [exUr 1,exUr 2] k1=([exUr 2],0):=hk1▸exU_del
 simp only [hdel] at hl9 hd
 obtain ⟨rv,row,rfl,hun⟩:∃ rv row,ls=[.gone ta rv row]∧insMd exUt [exUr 2] row=([exUr 1,exUr 2],0):=by
  rcases hd with ⟨h,_⟩|⟨_,h⟩
  ·exact absurd rfl h
  ·exact h
 have HB:=lawback_any w w9 _ ua ub w.heap.size fr _ _ ta tb hl9 zPXO 1
 have e1:min ([StepU.came ta k1,.came ta (kfS exUt 0 (exUr 2))]++[StepU.gone ta rv row]).length (max (1:Int) 0).toNat=1:=rfl
 have e2:backP exUt exUu ta (([StepU.came ta k1,.came ta (kfS exUt 0 (exUr 2))]++[StepU.gone ta rv row]).drop 1) ([exUr 2],[])=([exUr 1],[]):=by
  show unP exUt exUu ta (.came ta (kfS exUt 0 (exUr 2))) (unP exUt exUu ta (.gone ta rv row) ([exUr 2],[]))=_
  have u1:∀ s st,s.tb=ta→unP exUt exUu ta s st=(s.un exUt st.1,st.2):=fun s st h=>by unfold unP;rw [if_pos h]
  rw [u1 _ _ rfl,u1 _ _ rfl]
  show ((delMd exUt (insMd exUt [exUr 2] row).1 (kfS exUt 0 (exUr 2))).1,([]:List (List AV)))=_
  rw [hun,exU_unins]
 have e3:((([StepU.came ta k1,.came ta (kfS exUt 0 (exUr 2))]++[StepU.gone ta rv row]).length - (max (1:Int) 0).toNat:Nat):Int)=2:=rfl
 rw [e1,e2,e3] at HB
 have HB9:=Lib.hid HB
 unfold ptrV at HB9
 clear HB e1 e2 e3 hd hun hdel hl9
 go_wp2_with fail
 refine HB9.out.mono ?_
 clear HB9
 rintro e w10 ⟨rfl,hl10⟩
 have HR:=Lib.hid (law_rowsA hl10)
 obtain ⟨l0,_,lgl⟩:=hl10.list
 obtain ⟨uc,lua⟩:=hl10.uaC
 have HL10:=Lib.hid hl10
 unfold ptrV at HR
 clear hl10
 go_wp2_with fail
 clear l0 lgl uc lua
 refine HR.out.mono ?_
 clear HR
 rintro e w11 ⟨v,rws,rfl,hsq,hsm⟩
 obtain ⟨pv,cv,hpv,_,_⟩:=own_formT hsq.1
 have hrl:rws.length=1:=by have:=congrArg List.length hsm;simpa using this
 rw [hrl] at hpv
 subst hpv
 obtain ⟨gr,orr,cr,hvr,ek⟩:=hsq.at.at (k:=0) zTbe
 obtain ⟨rr,hrr⟩:∃ rr,rws=[rr]:=by
  match rws,hrl with
  | [x],_=>exact ⟨x,rfl⟩
 subst hrr
 cases hvr
 have hrow:rr.l=exUr 1:=by simpa using hsm
 have hsl:=hsq.at.2 rr zPXO
 rw [hrow] at hsl
 obtain ⟨g3,o3,c3,hv3,_,_,_,hg3,hc3⟩:=hsl.place (by simp [exUr])
 have a0:w11.cell? ⟨g3,o3,none⟩=some (.int .i64 1):=hc3 0 z5Lp
 have a1:w11.cell? ⟨g3,o3+1,none⟩=some (.int .i64 1):=hc3 1 z5Lp
 have a2:w11.cell? ⟨g3,o3+2,none⟩=some (.string ⟨#[]⟩):=hc3 2 z5Lp
 have ek1:w11.cell? ⟨gr,orr,none⟩=some (.slice (some ⟨g3,o3,none⟩) 2 c3):=by
  have h1:w11.cell? ⟨gr,orr,none⟩=some rr.v:=ek
  rw [h1,hv3];rfl
 obtain ⟨hx,_⟩:=HLL.out _ _ _ (HL10.out.below hsq.2.2.1)
 have x0:w11.cell? ⟨w2.heap.size,0,none⟩=some (.int .i64 1):=hx.cell 0
 have x1:w11.cell? ⟨w2.heap.size,1,none⟩=some (.int .i64 1):=hx.cell 1
 have x2:w11.cell? ⟨w2.heap.size,2,none⟩=some (.string ⟨#[]⟩):=hx.cell 2
 obtain ⟨ga,gb,jv,hG⟩:=HL10.out.below hsq.2.2.1
 have HFIN:Hid (Below w.heap.size w w11):=Lib.hid (hG.trk.only.below (Nat.le_refl _) (fun q hq=>zks3))
 clear hsq hsm hrl ek hrow hsl hv3 hc3 hx hG HL10 HLL
 go_upto_region 13 with fail
 refine wp_region_lit_plan [] [(0,0),(1,0),(2,0),(3,0),(4,0),(5,0),(6,0),(7,0),(8,0),(9,0),(10,0),(11,0),(12,0),(13,0),(14,1),(15,0),(16,1),(17,1),(18,0),(19,0),(20,0)] (fun _=>False) zyVB zyVB (fun c a d v w h=>zx0I) ?_
 go_wp2_with (first|(refine stp ?_))
 go_ret
 exact ⟨rfl,HFIN.out.drew⟩
end Go.Proofs.YteggkjdlajgenaaGreatDoor
