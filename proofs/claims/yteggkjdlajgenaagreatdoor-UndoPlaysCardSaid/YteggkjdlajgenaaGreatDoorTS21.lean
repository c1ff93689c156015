/- Contracts of the functions that the statement reaches, one behind the other. No condition beyond each theorem's own. -/
import Derived.Test.YteggkjdlajgenaaGreatDoorTS15
set_option linter.unusedSimpArgs false
set_option linter.unusedVariables false
set_option maxRecDepth 100000
set_option maxHeartbeats 4000000
theorem zlOb {P:Prop} (h:P:=by unfold FRM RS resU;simp only [cnt_append,cnt_cons];omega):P:=h
theorem zO75 {P:Prop} (h:P:=by simp [mR,Res.own,Value.ownBlock]):P:=h
theorem zLYV {P:Prop} (h:P:=by
 rintro e w2 ⟨p2,n2,c2,rws2,rfl,ha2,hm2,hb2⟩
 exact ⟨p2,n2,c2,rfl,hb2,same_rows w2 _ _ _ _ rws rws2 (ha.below hb2) ha2 (hm.trans hm2.symm)⟩
 ):P:=h
theorem zfC1 {P:Prop} (h:P:=by
 go_wp2_with fail
 clear hw1 e0 e1 e2 e3 b0 b1 b2 b3 hlt1 l0 l1 lg uc lu vc lb
 have hmk9:=HG1.out.mark
 rw [HLN.out] at hmk9
 have HMK9:=Lib.hid hmk9
 have HSA9:=Lib.hid HG1.out.sameA
 obtain ⟨l0,l1,lg,uc,lu,vc,lb⟩:=HG1.out.cells
 clear hmk9
 go_wp2_with fail
 refine HMK9.out.mono ?_
 clear HMK9
 rintro e wm ⟨rfl,hwm⟩
 rw [hwm]
 clear hwm wm
 go_wp2_with fail
 clear l0 l1 lg uc lu vc lb
 refine HSA9.out.mono ?_
 clear HSA9
 rintro e wr1 ⟨p1,n1,c1,rfl,hb1',hc1'⟩
 have HBB1:=Lib.hid hb1'
 have HC1:=Lib.hid hc1'
 clear hb1' hc1'
 go_wp2_with fail
 refine HC1.out.mono ?_
 clear HC1
 rintro e wr2 ⟨p2,n2,c2,rfl,hb2',hc2'⟩
 have HBB2:=Lib.hid (HBB1.out.trans (hb2'.mono HBB1.out.size))
 have HC2:=Lib.hid hc2'
 clear hb2' hc2' HBB1
 go_wp2_with fail
 refine HC2.out.mono ?_
 clear HC2
 rintro e wr3 ⟨rfl,hb3'⟩
 have hG9:=HG1.out.below (HBB2.out.trans (hb3'.mono HBB2.out.size))
 have HG9:=Lib.hid hG9
 have HSB9:=Lib.hid hG9.sameB
 obtain ⟨l0,l1,lg,uc,lu,vc,lb⟩:=hG9.cells
 clear hb3' hG9 HBB2
 go_wp2_with fail
 clear l0 l1 lg uc lu vc lb
 refine HSB9.out.mono ?_
 clear HSB9
 rintro e wr4 ⟨p4,n4,c4,rfl,hb4',hc4'⟩
 have HBB4:=Lib.hid hb4'
 have HC4:=Lib.hid hc4'
 clear hb4' hc4'
 go_wp2_with fail
 refine HC4.out.mono ?_
 clear HC4
 rintro e wr5 ⟨p5,n5,c5,rfl,hb5',hc5'⟩
 have HBB5:=Lib.hid (HBB4.out.trans (hb5'.mono HBB4.out.size))
 have HC5:=Lib.hid hc5'
 clear hb5' hc5' HBB4
 go_wp2_with fail
 refine HC5.out.mono ?_
 clear HC5
 rintro e wr6 ⟨rfl,hb6'⟩
 have HGF:=Lib.hid (HG9.out.below (HBB5.out.trans (hb6'.mono HBB5.out.size)))
 clear hb6' HBB5 HG9
 go_wp2
 go_roundw
 case rel=>exact ⟨k+1,N,z3KH,zrXX,zTbe,_,_,_,_,_,_,_,_,_,HGF.out,HBD.out.1,HBD.out.2.1,HBD.out.2.2⟩
 case measure=>(simp [intOf])<;>omega
 ):P:=h
theorem zrXX {P:Prop} (h:P:=by first|rfl|go_num):P:=h
theorem zW8F {P:Prop} (h:P:=by
 have HG7:=Lib.hid hG7
 have HLN7:Hid (((steps++ls).length:Int)=((N+c:Nat):Int)):=Lib.hid zx9O
 have HBD7:=znSB
 clear hG7 hlc
 have hmk9:=HG7.out.mark
 rw [HLN7.out] at hmk9
 have HMK9:=Lib.hid hmk9
 have HSA9:=Lib.hid HG7.out.sameA
 obtain ⟨l0,l1,lg,uc,lu,vc,lb⟩:=HG7.out.cells
 clear hmk9
 go_wp2_with fail
 refine HMK9.out.mono ?_
 clear HMK9
 rintro e wm ⟨rfl,hwm⟩
 rw [hwm]
 clear hwm wm
 go_wp2_with fail
 clear l0 l1 lg uc lu vc lb
 refine HSA9.out.mono ?_
 clear HSA9
 rintro e wr1 ⟨p1,n1,c1,rfl,hb1',hc1'⟩
 have HBB1:=Lib.hid hb1'
 have HC1:=Lib.hid hc1'
 clear hb1' hc1'
 go_wp2_with fail
 refine HC1.out.mono ?_
 clear HC1
 rintro e wr2 ⟨p2,n2,c2,rfl,hb2',hc2'⟩
 have HBB2:=Lib.hid (HBB1.out.trans (hb2'.mono HBB1.out.size))
 have HC2:=Lib.hid hc2'
 clear hb2' hc2' HBB1
 go_wp2_with fail
 refine HC2.out.mono ?_
 clear HC2
 rintro e wr3 ⟨rfl,hb3'⟩
 have hG9:=HG7.out.below (HBB2.out.trans (hb3'.mono HBB2.out.size))
 have HG9:=Lib.hid hG9
 have HSB9:=Lib.hid hG9.sameB
 obtain ⟨l0,l1,lg,uc,lu,vc,lb⟩:=hG9.cells
 clear hb3' hG9 HBB2
 go_wp2_with fail
 clear l0 l1 lg uc lu vc lb
 refine HSB9.out.mono ?_
 clear HSB9
 rintro e wr4 ⟨p4,n4,c4,rfl,hb4',hc4'⟩
 have HBB4:=Lib.hid hb4'
 have HC4:=Lib.hid hc4'
 clear hb4' hc4'
 go_wp2_with fail
 refine HC4.out.mono ?_
 clear HC4
 rintro e wr5 ⟨p5,n5,c5,rfl,hb5',hc5'⟩
 have HBB5:=Lib.hid (HBB4.out.trans (hb5'.mono HBB4.out.size))
 have HC5:=Lib.hid hc5'
 clear hb5' hc5' HBB4
 go_wp2_with fail
 refine HC5.out.mono ?_
 clear HC5
 rintro e wr6 ⟨rfl,hb6'⟩
 have HGF:=Lib.hid (HG9.out.below (HBB5.out.trans (hb6'.mono HBB5.out.size)))
 clear hb6' HBB5 HG9
 go_wp2
 go_roundw
 case rel=>exact ⟨k+1,N+c,z3KH,zrXX,zTbe,_,_,_,_,_,_,_,_,_,HGF.out,HBD7.out.1,HBD7.out.2.1,HBD7.out.2.2⟩
 case measure=>(simp [intOf])<;>omega
 ):P:=h
theorem zx9O {P:Prop} (h:P:=by rw [List.length_append,HSN.out,hlc]):P:=h
theorem znSB {P:Prop} (h:P:=by
 have zz:Hid ((steps++ls).length=N+c∧N+c≤1000*(k+1)∧ms.length≤k+1):=Lib.hid ⟨zx9O,zTbe,zTbe⟩
 exact zz):P:=h
namespace Go.Proofs.YteggkjdlajgenaaGreatDoor
open Go.RowKit Go.Afx
structure MarkU where
 n:Nat
 av:Value
 ar:List RowV
 bv:Value
 br:List RowV
def MarkU.cells (x:MarkU):List Value:=[.int .i64 (x.n:Int),x.av,x.bv]
def markC (l:List MarkU):List Value:=(l.map MarkU.cells).flatten
theorem markC_len (l:List MarkU):(markC l).length=l.length*3:=by
 induction l with
 | nil=>rfl
 | cons x t ih=>show (x.cells++markC t).length=_;rw [List.length_append,ih,List.length_cons];show 3+_=_;omega
theorem markC_at (l:List MarkU) (k r:Nat) (hk:k < l.length) (hr:r < 3):(markC l)[k*3+r]?=(l[k].cells)[r]?:=by
 induction l generalizing k with
 | nil=>simp at hk
 | cons x t ih =>
  show (x.cells++markC t)[k*3+r]?=_
  cases k with
  | zero=>rw [Nat.zero_mul,Nat.zero_add,List.getElem?_append_left (show r < 3 from hr)];rfl
  | succ k =>
   rw [List.getElem?_append_right (by show 3≤_;omega),show (k+1)*3+r - x.cells.length=k*3+r by show (k+1)*3+r - 3=_;omega]
   exact ih k zFJU
theorem markC_take (l:List MarkU) (k:Nat):(markC l).take (k*3)=markC (l.take k):=by
 induction l generalizing k with
 | nil=>simp [markC]
 | cons x t ih =>
  cases k with
  | zero=>simp [markC]
  | succ k =>
   show (x.cells++markC t).take _=x.cells++markC (t.take k)
   rw [List.take_append,List.take_of_length_le (show x.cells.length≤_ by show 3≤_;omega),show (k+1)*3 - x.cells.length=k*3 by show (k+1)*3 - 3=_;omega,ih]
theorem markC_snoc (l:List MarkU) (x:MarkU):markC (l++[x])=markC l++x.cells:=by simp [markC]
theorem elemState:Elem Tryz.prog 77 86 3 56 (.agg #[.int .i64 0,.slice none 0 0,.slice none 0 0]) :=
 ⟨Tryz.underlying77,zyVB,rfl,zTbe,zAV0⟩
def mR (mv:Value) (l:List MarkU):Res:=Res.own 86 3 mv l.length (markC l)
def MarkU.at (w:World) (F:List Nat) (x:MarkU):Prop:=RowsAt w (offF F) x.av x.ar∧RowsAt w (offF F) x.bv x.br
def MarkU.is (ta:Nat) (st:List (List AV) × List (List AV)) (steps:List StepU) (x:MarkU):Prop :=
 x.n≤steps.length∧backP exUt exUu ta (steps.drop x.n) st=(x.ar.map RowV.l,x.br.map RowV.l)
theorem RowsAt.perm {w:World} {x y:List Res} {v:Value} {rows:List RowV} (h:RowsAt w (offF (feet x)) v rows) (hp:x.Perm y):RowsAt w (offF (feet y)) v rows :=
 ⟨Sl.perm h.1 hp,fun r hr=>Sl.perm (h.2 r hr) hp⟩
theorem MarkU.at_next {w w':World} {rs rs':List Res} {x:MarkU} (h:x.at w (feet rs)) (hT:Trk w (feet rs) w' rs'):x.at w' (feet rs'):=⟨RowsAt.next h.1 hT,RowsAt.next h.2 hT⟩
theorem MarkU.at_perm {w:World} {a b:List Res} {x:MarkU} (h:x.at w (feet a)) (hp:a.Perm b):x.at w (feet b):=⟨RowsAt.perm h.1 hp,RowsAt.perm h.2 hp⟩
section
variable {w0 w w' : World} {lv : Value} {ua ub jb : Nat} {J : Option Nat} {fr fr' : List Res} {st : List (List AV) × List (List AV)} {steps : List StepU} {ta tb tp tq : Nat} {ga gb gp gq : TabG} {jv mv : Value} {mp mq : List (List AV)} {ms : List MarkU} {jk : List Res}
theorem RS_fp (hp:fr.Perm fr'):(RS lv ua ub ga gb J jv steps fr).Perm (RS lv ua ub ga gb J jv steps fr') :=
 (((((hp.append_left gb.res).cons _).cons _).append_left _).cons _).append_left _
theorem LawG.next (h:LawG w0 w lv ua ub J fr st steps ta tb ga gb jv) (hT:Trk w (feet (RS lv ua ub ga gb J jv steps fr)) w' (RS lv ua ub ga gb J jv steps fr')):LawG w0 w' lv ua ub J fr' st steps ta tb ga gb jv :=
 ⟨Trk.after h.trk hT,h.a.next hT,h.b.next hT,h.ra,h.rb,h.pa,h.pb,h.sa,h.sb,fun s hs=>⟨StepU.at_next (h.steps_at s hs).1 hT,(h.steps_at s hs).2⟩,h.va,h.vb⟩
theorem LawG.fperm (h:LawG w0 w lv ua ub J fr st steps ta tb ga gb jv) (hp:fr.Perm fr'):LawG w0 w lv ua ub J fr' st steps ta tb ga gb jv :=
 h.next ((Trk.start h.trk.sep).perm (RS_fp hp))
theorem LawG.ne (h:LawG w0 w lv ua ub J fr st steps ta tb ga gb jv):ta≠tb:=fun e=>by
 have hp:(RS lv ua ub ga gb J jv steps fr).Perm (ga.res++(gb.res++(rU ua ga.tb J::(rJ J jv (steps.map StepU.val)++(Res.own 80 1 lv 2 [ptrV ua,ptrV ub]::rU ub gb.tb J::fr))))) :=
  perm_of_cnt fun a=>zk1V
 have hm:∀ g:TabG,g.tb∈feet g.res:=fun g=>by unfold TabG.res;simp [feet,rTab,Res.blk]
 have h1:=(h.trk.sep.perm hp).apart ga.tb (hm ga)
 have h2:ga.tb=gb.tb:=by rw [h.pa,h.pb,e]
 exact h1 (by rw [h2,feet_append];simp [hm gb])
theorem LawG.back (h:LawG w0 w lv ua ub (some jb) fr st steps ta tb ga gb jv) (hl:steps.length≤100000) (m:Int) :
 Calls Tryz.prog 31 #[ptrV jb,.int .i64 m] w fun e w'=>e=.returned (.int .i64 ((steps.length - (max m 0).toNat:Nat):Int)) ∧
  ∃ ga' gb' jv',LawG w0 w' lv ua ub (some jb) fr (backP exUt exUu ta (steps.drop (min steps.length (max m 0).toNat)) st) (steps.take (min steps.length (max m 0).toNat)) ta tb ga' gb' jv' ∧
   Trk w (feet (RS lv ua ub ga gb (some jb) jv steps fr)) w' (RS lv ua ub ga' gb' (some jb) jv' (steps.take (min steps.length (max m 0).toNat)) fr):=by
 have hp:=RS_j lv ua ub ga gb (some jb) jv steps fr
 have h2:=zzxT
 refine (jback_two w ga gb jb jv steps _ st ta tb ga.S gb.S (h.trk.sep.perm hp) h2 (fun s hs=>⟨StepU.at_perm (h.steps_at s hs).1 hp,(h.steps_at s hs).2⟩) hl m).mono ?_
 rintro e w' ⟨rfl,hk,jv',ga',gb',hT,ht,ha⟩
 have hst:=backP_like (ta:=ta) h.sa h.sb (steps.drop (min steps.length (max m 0).toNat)) st
 have hva:=backP_valid (ta:=ta) (steps.drop (min steps.length (max m 0).toNat)) st (fun s hs=>(h.steps_at s (List.mem_of_mem_drop hs)).1) h.va h.vb
 generalize min steps.length (max m 0).toNat=k at *
 have e1:rU ua ga'.tb (some jb)=rU ua ga.tb (some jb):=by rw [ht.ta,h.pa]
 have e2:rU ub gb'.tb (some jb)=rU ub gb.tb (some jb):=by rw [ht.tb,h.pb]
 have hp':(res2 ga' gb' (some jb) jv' ((steps.take k).map StepU.val) (Res.own 80 1 lv 2 [ptrV ua,ptrV ub]::rU ua ga.tb (some jb)::rU ub gb.tb (some jb)::fr)).Perm (RS lv ua ub ga' gb' (some jb) jv' (steps.take k) fr):=by
  rw [←e1,←e2];exact (RS_j lv ua ub ga' gb' (some jb) jv' (steps.take k) fr).symm
 have hT2:=zdk4
 refine ⟨rfl,ga',gb',jv',⟨Trk.after h.trk hT2,ht.a.perm hp',ht.b.perm hp',?_,?_,ht.ta,ht.tb,by rw [ht.sa];exact h.sa,by rw [ht.sb];exact h.sb,fun s hs=>⟨StepU.at_perm (ha s hs).1 hp',(ha s hs).2⟩,hva.1,hva.2⟩,hT2⟩
 ·rw [ht.ra,hst]
 ·rw [ht.rb,hst]
def FRM (gp gq:TabG) (mv:Value) (ms:List MarkU) (jk:List Res):List Res:=gp.res++(gq.res++(mR mv ms::jk))
structure PlayG (w0 w:World) (lv:Value) (ua ub jb:Nat) (st:List (List AV) × List (List AV)) (steps:List StepU) (ta tb tp tq:Nat) (mp mq:List (List AV)) (mv:Value) (ms:List MarkU) (jk:List Res) (ga gb gp gq:TabG) (jv:Value):Prop where
 law:LawG w0 w lv ua ub (some jb) (FRM gp gq mv ms jk) st steps ta tb ga gb jv
 p:TabE w (feet (RS lv ua ub ga gb (some jb) jv steps (FRM gp gq mv ms jk))) gp
 q:TabE w (feet (RS lv ua ub ga gb (some jb) jv steps (FRM gp gq mv ms jk))) gq
 lp:Alike gp.S exUt
 lq:Alike gq.S exUu
 rp:gp.rows=mp
 rq:gq.rows=mq
 pp:gp.tb=tp
 pq:gq.tb=tq
 mks:∀ x∈ms,x.at w (feet (RS lv ua ub ga gb (some jb) jv steps (FRM gp gq mv ms jk)))∧x.is ta st steps
 mono:ms.Pairwise fun x y=>x.n≤y.n
theorem frm_q:(FRM gp gq mv ms jk).Perm (gq.res++(gp.res++(mR mv ms::jk))):=perm_of_cnt fun a=>by unfold FRM;simp only [cnt_append];omega
theorem frm_m:(FRM gp gq mv ms jk).Perm (mR mv ms::(gp.res++(gq.res++jk))):=perm_of_cnt fun a=>by unfold FRM;simp only [cnt_append,cnt_cons];omega
theorem RS_m:(RS lv ua ub ga gb J jv steps (FRM gp gq mv ms jk)).Perm (mR mv ms::RS lv ua ub ga gb J jv steps (gp.res++(gq.res++jk))) :=
 perm_of_cnt fun a=>zlOb
theorem PlayG.below (h:PlayG w0 w lv ua ub jb st steps ta tb tp tq mp mq mv ms jk ga gb gp gq jv) (hb:Below w.heap.size w w'):PlayG w0 w' lv ua ub jb st steps ta tb tp tq mp mq mv ms jk ga gb gp gq jv :=
 have hT:=Trk.of_below h.law.trk.sep hb
 ⟨h.law.next hT,h.p.next hT,h.q.next hT,h.lp,h.lq,h.rp,h.rq,h.pp,h.pq,fun x hx=>⟨MarkU.at_next (h.mks x hx).1 hT,(h.mks x hx).2⟩,h.mono⟩
theorem PlayG.doesA (h:PlayG w0 w lv ua ub jb st steps ta tb tp tq st.1 st.2 mv ms jk ga gb gp gq jv)
 (a:ActU) (hr:Sl w (fun k=>k < w0.heap.size) 3 a.rv a.row.length (rowCells a.row)) (hf:∀ x∈a.row,fit64 x.n) (hrl:a.row.length≤1000) (hn:fit64 a.n) (hvl:steps.length≤80000) :
 Calls Tryz.prog 36 #[ptrV ua,ptrV tp,a.agg] w fun e w'=>∃ c:Nat,e=.returned (.tuple #[.bool true,.int .i64 (c:Int)])∧c≤1000 ∧
  ∃ st' ls ga' gp' jv',PlayG w0 w' lv ua ub jb st' (steps++ls) ta tb tp tq st'.1 st'.2 mv ms jk ga' gb gp' gq jv'∧ls.length=c:=by
 have h1:=law_doesA h.law h.p h.lp h.rp a hr hf hrl hn hvl
 rw [h.pp] at h1
 refine h1.mono ?_
 rintro e w' ⟨rfl,ga',gp',jv',ls,hd,hbk,hcc,htb⟩
 refine ⟨_,rfl,cntU_le h.law.va a,(doU exUt st.1 a,st.2),ls,ga',gp',jv',⟨hd.law,hd.p,h.q.next hd.trk,by rw [hd.psch];exact h.lp,h.lq,hd.rows,h.rq,hd.ptb.trans h.pp,h.pq,fun x hx=>?_,h.mono⟩,hcc⟩
 obtain ⟨hat,hle,hbp⟩:=h.mks x hx
 exact ⟨MarkU.at_next hat hd.trk,zZJx,by rw [List.drop_append_of_le_length hle,backP_append,backP_A _ _ _ ls _ _ htb,hbk];exact hbp⟩
theorem PlayG.doesB (h:PlayG w0 w lv ua ub jb st steps ta tb tp tq st.1 st.2 mv ms jk ga gb gp gq jv)
 (a:ActU) (hr:Sl w (fun k=>k < w0.heap.size) 3 a.rv a.row.length (rowCells a.row)) (hf:∀ x∈a.row,fit64 x.n) (hrl:a.row.length≤1000) (hn:fit64 a.n) (hvl:steps.length≤80000) :
 Calls Tryz.prog 36 #[ptrV ub,ptrV tq,a.agg] w fun e w'=>∃ c:Nat,e=.returned (.tuple #[.bool true,.int .i64 (c:Int)])∧c≤1000 ∧
  ∃ st' ls gb' gq' jv',PlayG w0 w' lv ua ub jb st' (steps++ls) ta tb tp tq st'.1 st'.2 mv ms jk ga gb' gp gq' jv'∧ls.length=c:=by
 have hP:=RS_fp (lv:=lv) (ua:=ua) (ub:=ub) (ga:=ga) (gb:=gb) (J:=some jb) (jv:=jv) (steps:=steps) (frm_q (gp:=gp) (gq:=gq) (mv:=mv) (ms:=ms) (jk:=jk))
 have h1:=law_doesB (h.law.fperm frm_q) (h.q.perm hP) h.lq h.rq a hr hf hrl hn hvl
 rw [h.pq] at h1
 refine h1.mono ?_
 rintro e w' ⟨rfl,gb',gq',jv',ls,hd,hbk,hcc,htb⟩
 have hP':=RS_fp (lv:=lv) (ua:=ua) (ub:=ub) (ga:=ga) (gb:=gb') (J:=some jb) (jv:=jv') (steps:=steps++ls) (frm_q (gp:=gp) (gq:=gq') (mv:=mv) (ms:=ms) (jk:=jk))
 have hT:=(hd.trk.from hP.symm).perm hP'.symm
 have hne:=h.law.ne
 refine ⟨_,rfl,cntU_le h.law.vb a,(st.1,doU exUu st.2 a),ls,gb',gq',jv',⟨hd.law.fperm frm_q.symm,h.p.next hT,hd.p.perm hP'.symm,h.lp,by rw [hd.psch];exact h.lq,h.rp,hd.rows,h.pp,hd.ptb.trans h.pq,fun x hx=>?_,h.mono⟩,hcc⟩
 obtain ⟨hat,hle,hbp⟩:=h.mks x hx
 exact ⟨MarkU.at_next hat hT,zZJx,by rw [List.drop_append_of_le_length hle,backP_append,backP_B _ _ _ ls _ _ (fun s hs e=>hne (e.symm.trans (htb s hs))),hbk];exact hbp⟩
theorem drop_split {α:Type} (l:List α) {i k:Nat} (hi:i≤k) (hk:k≤l.length):l.drop i=(l.take k).drop i++l.drop k:=by
 have e:=congrArg (List.drop i) (List.take_append_drop k l).symm
 rw [List.drop_append_of_le_length z2Pg] at e
 exact e
theorem PlayG.back (h:PlayG w0 w lv ua ub jb st steps ta tb tp tq mp mq mv ms jk ga gb gp gq jv) (hl:steps.length≤100000) (x:MarkU) (hx:x∈ms) (hm:∀ y∈ms,y.n≤x.n) :
 Calls Tryz.prog 31 #[ptrV jb,.int .i64 (x.n:Int)] w fun e w'=>e=.returned (.int .i64 ((steps.length - x.n:Nat):Int)) ∧
  ∃ ga' gb' jv',PlayG w0 w' lv ua ub jb (x.ar.map RowV.l,x.br.map RowV.l) (steps.take x.n) ta tb tp tq mp mq mv ms jk ga' gb' gp gq jv':=by
 have h1:=h.law.back hl (x.n:Int)
 obtain ⟨_,hle,hbp⟩:=h.mks x hx
 have e0:(max (x.n:Int) 0).toNat=x.n:=zTbe
 rw [e0,Nat.min_eq_right hle,hbp] at h1
 refine h1.mono ?_
 rintro e w' ⟨rfl,ga',gb',jv',hg,hT⟩
 refine ⟨rfl,ga',gb',jv',hg,h.p.next hT,h.q.next hT,h.lp,h.lq,h.rp,h.rq,h.pp,h.pq,fun y hy=>?_,h.mono⟩
 obtain ⟨hat,hley,hby⟩:=h.mks y hy
 have hyx:=hm y hy
 refine ⟨MarkU.at_next hat hT,z2Pg,?_⟩
 rw [drop_split steps hyx hle,backP_append,hbp] at hby
 exact hby
theorem PlayG.fine (h:PlayG w0 w lv ua ub jb st steps ta tb tp tq mp mq mv ms jk ga gb gp gq jv):(∀ r∈st.1,(∀ a∈r,fit64 a.n)∧r.length≤1000)∧(∀ r∈st.2,(∀ a∈r,fit64 a.n)∧r.length≤1000):=by
 refine ⟨fun r hr=>?_,fun r hr=>?_⟩
 ·have hok:=h.law.va.ok r hr
  exact ⟨hok.n64,zJ0c⟩
 ·have hok:=h.law.vb.ok r hr
  exact ⟨hok.n64,by have:=hok.len;have:=(rightS_by exUu_right).2.2.2.2.2.2.2.2;omega⟩
theorem LawG.load (h:LawG w0 w lv ua ub J (gp.res++fr) st steps ta tb ga gb jv) (hp:TabE w (feet (RS lv ua ub ga gb J jv steps (gp.res++fr))) gp) {S:SchV} (hl:Alike gp.S S) (v:Value) (rows:List RowV) (hra:RowsAt w (offF (feet (RS lv ua ub ga gb J jv steps (gp.res++fr)))) v rows)
 (hv:RowsV S (rows.map RowV.l)) (hf:∀ r∈rows.map RowV.l,(∀ a∈r,fit64 a.n)∧r.length≤1000) :
 Calls Tryz.prog 37 #[ptrV gp.tb,v] w fun e w'=>e=.returned (.int .i64 0)∧∃ gp':TabG,Trk w (feet (RS lv ua ub ga gb J jv steps (gp.res++fr))) w' (RS lv ua ub ga gb J jv steps (gp'.res++fr))∧TabE w' (feet (RS lv ua ub ga gb J jv steps (gp'.res++fr))) gp'∧gp'.rows=rows.map RowV.l∧gp'.tb=gp.tb∧gp'.S=gp.S:=by
 have hpm:=RS_p lv ua ub ga gb gp J jv steps fr
 have hw:=pl_w (h.trk.sep.perm hpm) (hp.perm hpm)
 have h1:=tload_md w _ gp hw (offF (feet (resU ua ga J jv (steps.map StepU.val) (gp.res++(Res.own 80 1 lv 2 [ptrV ua,ptrV ub]::rU ub gb.tb J::(gb.res++fr)))))) (fun k hk h=>hw.dis k h hk) v rows (RowsAt.perm hra hpm) (fun r hr=>(hf r.l (List.mem_map_of_mem hr)).1) (fun r hr=>(hf r.l (List.mem_map_of_mem hr)).2)
 rw [hl.load,load_back hv] at h1
 refine h1.mono ?_
 rintro e w' ⟨rfl,gp',hst,hr⟩
 obtain ⟨hT,hE⟩:=pl_env (h.trk.sep.perm hpm) hst
 have hpm':(RS lv ua ub ga gb J jv steps (gp'.res++fr)).Perm _:=RS_p lv ua ub ga gb gp' J jv steps fr
 exact ⟨rfl,gp',(hT.from hpm.symm).perm hpm'.symm,hE.perm hpm'.symm,hr,hst.tb,hst.sch⟩
theorem PlayG.loadP (h:PlayG w0 w lv ua ub jb st steps ta tb tp tq mp mq mv ms jk ga gb gp gq jv) (v:Value) (rows:List RowV) (hra:RowsAt w (offF (feet (RS lv ua ub ga gb (some jb) jv steps (FRM gp gq mv ms jk)))) v rows) (hm:rows.map RowV.l=st.1) :
 Calls Tryz.prog 37 #[ptrV tp,v] w fun e w'=>e=.returned (.int .i64 0)∧∃ gp',PlayG w0 w' lv ua ub jb st steps ta tb tp tq st.1 mq mv ms jk ga gb gp' gq jv∧Trk w (feet (RS lv ua ub ga gb (some jb) jv steps (FRM gp gq mv ms jk))) w' (RS lv ua ub ga gb (some jb) jv steps (FRM gp' gq mv ms jk)):=by
 have h1:=LawG.load h.law h.p h.lp v rows hra (hm▸h.law.va) (hm▸h.fine.1)
 rw [h.pp] at h1
 refine h1.mono ?_
 rintro e w' ⟨rfl,gp',hT,hE,hr,htb,hS⟩
 have hT2:Trk w (feet (RS lv ua ub ga gb (some jb) jv steps (FRM gp gq mv ms jk))) w' (RS lv ua ub ga gb (some jb) jv steps (FRM gp' gq mv ms jk)):=hT
 exact ⟨rfl,gp',⟨h.law.next hT2,hE,h.q.next hT2,by rw [hS];exact h.lp,h.lq,hr.trans hm,h.rq,htb,h.pq,fun x hx=>⟨MarkU.at_next (h.mks x hx).1 hT2,(h.mks x hx).2⟩,h.mono⟩,hT2⟩
theorem PlayG.loadQ (h:PlayG w0 w lv ua ub jb st steps ta tb tp tq mp mq mv ms jk ga gb gp gq jv) (v:Value) (rows:List RowV) (hra:RowsAt w (offF (feet (RS lv ua ub ga gb (some jb) jv steps (FRM gp gq mv ms jk)))) v rows) (hm:rows.map RowV.l=st.2) :
 Calls Tryz.prog 37 #[ptrV tq,v] w fun e w'=>e=.returned (.int .i64 0)∧∃ gq',PlayG w0 w' lv ua ub jb st steps ta tb tp tq mp st.2 mv ms jk ga gb gp gq' jv:=by
 have hP:=RS_fp (lv:=lv) (ua:=ua) (ub:=ub) (ga:=ga) (gb:=gb) (J:=some jb) (jv:=jv) (steps:=steps) (frm_q (gp:=gp) (gq:=gq) (mv:=mv) (ms:=ms) (jk:=jk))
 have h1:=LawG.load (h.law.fperm frm_q) (h.q.perm hP) h.lq v rows (RowsAt.perm hra hP) (hm▸h.law.vb) (hm▸h.fine.2)
 rw [h.pq] at h1
 refine h1.mono ?_
 rintro e w' ⟨rfl,gq',hT,hE,hr,htb,hS⟩
 have hP':=RS_fp (lv:=lv) (ua:=ua) (ub:=ub) (ga:=ga) (gb:=gb) (J:=some jb) (jv:=jv) (steps:=steps) (frm_q (gp:=gp) (gq:=gq') (mv:=mv) (ms:=ms) (jk:=jk))
 have hT2:=(hT.from hP.symm).perm hP'.symm
 exact ⟨rfl,gq',⟨h.law.next hT2,h.p.next hT2,hE.perm hP'.symm,h.lp,by rw [hS];exact h.lq,h.rp,hr.trans hm,h.pp,htb,fun x hx=>⟨MarkU.at_next (h.mks x hx).1 hT2,(h.mks x hx).2⟩,h.mono⟩⟩
theorem PlayG.keep (h:PlayG w0 w lv ua ub jb st steps ta tb tp tq mp mq mv ms jk ga gb gp gq jv) :
 Calls Tryz.prog 38 #[ptrV jb] w fun e w'=>e=.returned (.tuple #[])∧∃ jv',PlayG w0 w' lv ua ub jb st [] ta tb tp tq mp mq (.slice none 0 0) [] jk ga gb gp gq jv':=by
 refine (keep_u w (some jb) jv (steps.map StepU.val) (resU_j h.law.trk.sep)).mono ?_
 rintro e w' ⟨rfl,jv',hk⟩
 have hT:Trk w (feet (RS lv ua ub ga gb (some jb) jv steps (FRM gp gq mv ms jk))) w' (RS lv ua ub ga gb (some jb) jv' [] (FRM gp gq mv ms jk)):=resU_note (Trk.start h.law.trk.sep) hk
 have hT2:Trk w (feet (RS lv ua ub ga gb (some jb) jv steps (FRM gp gq mv ms jk))) w' (RS lv ua ub ga gb (some jb) jv' [] (FRM gp gq (.slice none 0 0) [] jk)) :=
  ((hT.perm RS_m).swap (r':=mR (.slice none 0 0) []) (Own.nil w' _ _) zO75 zO75).perm RS_m.symm
 exact ⟨rfl,jv',⟨Trk.after h.law.trk hT2,h.law.a.next hT2,h.law.b.next hT2,h.law.ra,h.law.rb,h.law.pa,h.law.pb,h.law.sa,h.law.sb,zPXO,h.law.va,h.law.vb⟩,h.p.next hT2,h.q.next hT2,h.lp,h.lq,h.rp,h.rq,h.pp,h.pq,zPXO,List.Pairwise.nil⟩
theorem PlayG.turn (h:PlayG w0 w lv ua ub jb st steps ta tb tp tq mp mq mv ms jk ga gb gp gq jv) {mv':Value} {ms':List MarkU} (hT:∀ rest,Sep w (mR mv ms::rest)→Trk w (feet (mR mv ms::rest)) w' (mR mv' ms'::rest))
 (hm:∀ x∈ms',(x.at w (feet (RS lv ua ub ga gb (some jb) jv steps (FRM gp gq mv ms jk))))∧x.is ta st steps) (hmono:ms'.Pairwise fun x y=>x.n≤y.n):PlayG w0 w' lv ua ub jb st steps ta tb tp tq mp mq mv' ms' jk ga gb gp gq jv:=by
 have hT2:Trk w (feet (RS lv ua ub ga gb (some jb) jv steps (FRM gp gq mv ms jk))) w' (RS lv ua ub ga gb (some jb) jv steps (FRM gp gq mv' ms' jk)):=((hT _ (h.law.trk.sep.perm RS_m)).from RS_m.symm).perm RS_m.symm
 exact ⟨h.law.next hT2,h.p.next hT2,h.q.next hT2,h.lp,h.lq,h.rp,h.rq,h.pp,h.pq,fun x hx=>⟨MarkU.at_next (hm x hx).1 hT2,(hm x hx).2⟩,hmono⟩
theorem PlayG.cut {g off cap:Nat} (h:PlayG w0 w lv ua ub jb st steps ta tb tp tq mp mq (.slice (some ⟨g,off,none⟩) ms.length cap) ms jk ga gb gp gq jv) {k:Nat} (hk:k≤ms.length):PlayG w0 w lv ua ub jb st steps ta tb tp tq mp mq (.slice (some ⟨g,off,none⟩) k cap) (ms.take k) jk ga gb gp gq jv:=by
 refine h.turn (fun rest hs=>?_) (fun x hx=>h.mks x (List.mem_of_mem_take hx)) (h.mono.sublist (List.take_sublist _ _))
 have ho:Own w 86 3 (.slice (some ⟨g,off,none⟩) ms.length cap) ms.length (markC ms):=(Trk.start hs).own (by simp [mR])
 have ht:=ho.take hk
 rw [markC_take] at ht
 have hlk:(ms.take k).length=k:=z2Pg
 refine (Trk.start hs).swap ?_ (show (Value.ownBlock (.slice (some ⟨g,off,none⟩) k cap)).toList.Nodup from ownBlock_nodup _) (fun q hq=>hq)
 show Own w 86 3 (.slice (some ⟨g,off,none⟩) k cap) (ms.take k).length (markC (ms.take k))
 rw [hlk]
 exact ht
theorem PlayG.box (h:PlayG w0 w lv ua ub jb st steps ta tb tp tq mp mq mv ms jk ga gb gp gq jv) {r:Res} (hb:Below w.heap.size w w') (hr:r.holds w') (hn:r.foot.Nodup) (hf:∀ k∈r.foot,w.heap.size≤k):PlayG w0 w' lv ua ub jb st steps ta tb tp tq mp mq mv ms (r::jk) ga gb gp gq jv:=by
 have hp:(r::RS lv ua ub ga gb (some jb) jv steps (FRM gp gq mv ms jk)).Perm (RS lv ua ub ga gb (some jb) jv steps (FRM gp gq mv ms (r::jk))):=perm_of_cnt fun a=>zlOb
 have hT:=((Trk.start h.law.trk.sep).new hr hn hf hb).perm hp
 exact ⟨h.law.next hT,h.p.next hT,h.q.next hT,h.lp,h.lq,h.rp,h.rq,h.pp,h.pq,fun x hx=>⟨MarkU.at_next (h.mks x hx).1 hT,(h.mks x hx).2⟩,h.mono⟩
theorem PlayG.junk (h:PlayG w0 w lv ua ub jb st steps ta tb tp tq mp mq mv ms jk ga gb gp gq jv) {r:Res} (hr:r∈jk):r.holds w :=
 h.law.trk.sep.all r (by unfold FRM RS resU;simp [hr])
end
end Go.Proofs.YteggkjdlajgenaaGreatDoor
namespace Go.Proofs.YteggkjdlajgenaaGreatDoor
open Go.RowKit Go.Afx
section
variable {w0 w w' : World} {lv : Value} {ua ub jb : Nat} {J : Option Nat} {fr fr' : List Res} {st : List (List AV) × List (List AV)} {steps : List StepU} {ta tb tp tq : Nat} {ga gb gp gq : TabG} {jv mv : Value} {mp mq : List (List AV)} {ms : List MarkU} {jk : List Res}
theorem PlayG.toSt (h:PlayG w0 w lv ua ub jb st steps ta tb tp tq mp mq mv ms jk ga gb gp gq jv):LawSt w0 w lv ua ub (some jb) (FRM gp gq mv ms jk) st steps ta tb:=⟨ga,gb,jv,h.law⟩
theorem PlayG.old (h:PlayG w0 w lv ua ub jb st steps ta tb tp tq mp mq mv ms jk ga gb gp gq jv):Below w0.heap.size w0 w:=h.law.trk.only.below (Nat.le_refl _) (fun q hq=>zks3)
theorem PlayG.marks (h:PlayG w0 w lv ua ub jb st steps ta tb tp tq mp mq mv ms jk ga gb gp gq jv):Own w 86 3 mv ms.length (markC ms):=(h.law.trk.perm RS_m).own (by simp [mR])
structure PlayC (w:World) (gl ol ua ub ta tb:Nat):Prop where
 l0:w.cell? ⟨gl,ol,none⟩=some (.pointer (some ⟨ua,0,none⟩))
 l1:w.cell? ⟨gl,ol+1,none⟩=some (.pointer (some ⟨ub,0,none⟩))
 lg:gl < w.heap.size
 uc:w.cell? ⟨ua,0,none⟩=some (.pointer (some ⟨ta,0,none⟩))
 lu:ua < w.heap.size
 vc:w.cell? ⟨ub,0,none⟩=some (.pointer (some ⟨tb,0,none⟩))
 lb:ub < w.heap.size
theorem PlayG.cells {gl ol cl:Nat} (h:PlayG w0 w (.slice (some ⟨gl,ol,none⟩) 2 cl) ua ub jb st steps ta tb tp tq mp mq mv ms jk ga gb gp gq jv):PlayC w gl ol ua ub ta tb:=by
 obtain ⟨l0,l1,lg⟩:=h.toSt.list
 obtain ⟨uc,lu⟩:=h.toSt.uaC
 have hb:Blk w ub 84 [ptrV gb.tb,ptrJ (some jb)]:=h.law.trk.sep.all (rU ub gb.tb (some jb)) (by unfold RS resU;simp)
 exact ⟨l0,l1,lg,uc,lu,by rw [←h.law.pb];exact hb.cell 0,hb.lt⟩
theorem PlayG.mark (h:PlayG w0 w lv ua ub jb st steps ta tb tp tq mp mq mv ms jk ga gb gp gq jv):Calls Tryz.prog 30 #[.pointer (some ⟨jb,0,none⟩)] w fun e w'=>e=.returned (.int .i64 (steps.length:Int))∧w'=w:=law_mark h.toSt
def RowsOutU (w:World) (F:List Nat) (m:List (List AV)) (e:Ending) (w':World):Prop:=∃ p n c rws,e=.returned (.slice p n c)∧RowsAt w' (offF F) (.slice p n c) rws∧rws.map RowV.l=m∧Below w.heap.size w w'
theorem rows_outU {F:List Nat} {m:List (List AV)} (hF:∀ k∈F,k < w.heap.size) {f:Nat} {a:Array Value} (h:Calls Tryz.prog f a w fun e w'=>∃ v rws,e=.returned v∧RowsSq w w' v rws∧rws.map RowV.l=m):Calls Tryz.prog f a w (RowsOutU w F m):=by
 refine h.mono ?_
 rintro e w' ⟨v,rws,rfl,hsq,hsm⟩
 obtain ⟨p,c,rfl,_,_⟩:=own_formT hsq.1
 have h1:=hsq.at
 have h2:∀ q,w.heap.size≤q→offF F q:=fun q hq h=>by have:=hF q h;omega
 exact ⟨p,_,c,rws,rfl,⟨h1.1.mono (Nat.le_refl _) (fun _ _ _=>rfl) (fun q hq _=>h2 q hq),fun r hr=>(h1.2 r hr).mono (Nat.le_refl _) (fun _ _ _=>rfl) (fun q hq _=>h2 q hq)⟩,hsm,hsq.2.2.1⟩
theorem PlayG.feet_lt (h:PlayG w0 w lv ua ub jb st steps ta tb tp tq mp mq mv ms jk ga gb gp gq jv):∀ k∈feet (RS lv ua ub ga gb (some jb) jv steps (FRM gp gq mv ms jk)),k < w.heap.size:=h.law.trk.sep.lt
theorem PlayG.rowsA (h:PlayG w0 w lv ua ub jb st steps ta tb tp tq mp mq mv ms jk ga gb gp gq jv):Calls Tryz.prog 22 #[.pointer (some ⟨ta,0,none⟩),.slice none 0 0] w (RowsOutU w (feet (RS lv ua ub ga gb (some jb) jv steps (FRM gp gq mv ms jk))) st.1) :=
 rows_outU h.feet_lt (law_rowsA h.toSt)
theorem PlayG.rowsB (h:PlayG w0 w lv ua ub jb st steps ta tb tp tq mp mq mv ms jk ga gb gp gq jv):Calls Tryz.prog 22 #[.pointer (some ⟨tb,0,none⟩),.slice none 0 0] w (RowsOutU w (feet (RS lv ua ub ga gb (some jb) jv steps (FRM gp gq mv ms jk))) st.2):=by
 refine rows_outU h.feet_lt ?_
 have h1:=trows_any w _ gb h.law.b (h.law.trk.sep.perm (RS_b lv ua ub ga gb (some jb) jv steps (FRM gp gq mv ms jk))).left (fun _=>True) (.slice none 0 0) [] (Sl.zero w _ 1)
 rw [inP_emp,h.law.rb,h.law.pb] at h1
 exact h1
theorem PlayG.rowsP (h:PlayG w0 w lv ua ub jb st steps ta tb tp tq mp mq mv ms jk ga gb gp gq jv):Calls Tryz.prog 22 #[.pointer (some ⟨tp,0,none⟩),.slice none 0 0] w (RowsOutU w (feet (RS lv ua ub ga gb (some jb) jv steps (FRM gp gq mv ms jk))) mp):=by
 refine rows_outU h.feet_lt ?_
 have hp:(RS lv ua ub ga gb (some jb) jv steps (FRM gp gq mv ms jk)).Perm (gp.res++RS lv ua ub ga gb (some jb) jv steps (gq.res++(mR mv ms::jk))):=perm_of_cnt fun a=>zlOb
 have h1:=trows_any w _ gp h.p (h.law.trk.sep.perm hp).left (fun _=>True) (.slice none 0 0) [] (Sl.zero w _ 1)
 rw [inP_emp,h.rp,h.pp] at h1
 exact h1
theorem PlayG.rowsQ (h:PlayG w0 w lv ua ub jb st steps ta tb tp tq mp mq mv ms jk ga gb gp gq jv):Calls Tryz.prog 22 #[.pointer (some ⟨tq,0,none⟩),.slice none 0 0] w (RowsOutU w (feet (RS lv ua ub ga gb (some jb) jv steps (FRM gp gq mv ms jk))) mq):=by
 refine rows_outU h.feet_lt ?_
 have hp:(RS lv ua ub ga gb (some jb) jv steps (FRM gp gq mv ms jk)).Perm (gq.res++RS lv ua ub ga gb (some jb) jv steps (gp.res++(mR mv ms::jk))):=perm_of_cnt fun a=>zlOb
 have h1:=trows_any w _ gq h.q (h.law.trk.sep.perm hp).left (fun _=>True) (.slice none 0 0) [] (Sl.zero w _ 1)
 rw [inP_emp,h.rq,h.pq] at h1
 exact h1
def SameOutU (w:World) (tp:Nat) (e:Ending) (w1:World):Prop:=∃ p n c,e=.returned (.slice p n c)∧Below w.heap.size w w1 ∧
 Calls Tryz.prog 22 #[.pointer (some ⟨tp,0,none⟩),.slice none 0 0] w1 fun e w2=>∃ p2 n2 c2,e=.returned (.slice p2 n2 c2)∧Below w1.heap.size w1 w2 ∧
  Calls Tryz.prog 24 #[.slice p n c,.slice p2 n2 c2] w2 fun e w3=>e=.returned (.bool true)∧Below w2.heap.size w2 w3
theorem PlayG.sameA (h:PlayG w0 w lv ua ub jb st steps ta tb tp tq st.1 mq mv ms jk ga gb gp gq jv):Calls Tryz.prog 22 #[.pointer (some ⟨ta,0,none⟩),.slice none 0 0] w (SameOutU w tp):=by
 refine h.rowsA.mono ?_
 rintro e w1 ⟨p,n,c,rws,rfl,ha,hm,hb⟩
 refine ⟨p,n,c,rfl,hb,(h.below hb).rowsP.mono ?_⟩
 exact zLYV
theorem PlayG.sameB (h:PlayG w0 w lv ua ub jb st steps ta tb tp tq mp st.2 mv ms jk ga gb gp gq jv):Calls Tryz.prog 22 #[.pointer (some ⟨tb,0,none⟩),.slice none 0 0] w (SameOutU w tq):=by
 refine h.rowsB.mono ?_
 rintro e w1 ⟨p,n,c,rws,rfl,ha,hm,hb⟩
 refine ⟨p,n,c,rfl,hb,(h.below hb).rowsQ.mono ?_⟩
 exact zLYV
theorem PlayG.push (h:PlayG w0 w lv ua ub jb st steps ta tb tp tq mp mq mv ms jk ga gb gp gq jv) {v:Value} {va vb:Value} {ra rb:List RowV}
 (g1:Own w' 86 3 v (ms.length+1) (markC ms++[.int .i64 (steps.length:Int),va,vb])) (g2:Only (fun k=>mv.ownBlock=some k) w w') (g3:∀ k,v.ownBlock=some k→mv.ownBlock=some k∨w.heap.size≤k)
 (ha:RowsAt w (offF (feet (RS lv ua ub ga gb (some jb) jv steps (FRM gp gq mv ms jk)))) va ra) (hb:RowsAt w (offF (feet (RS lv ua ub ga gb (some jb) jv steps (FRM gp gq mv ms jk)))) vb rb) (hma:ra.map RowV.l=st.1) (hmb:rb.map RowV.l=st.2) :
 PlayG w0 w' lv ua ub jb st steps ta tb tp tq mp mq v (ms++[⟨steps.length,va,ra,vb,rb⟩]) jk ga gb gp gq jv:=by
 refine h.turn (fun rest hs=>?_) (fun x hx=>?_) ?_
 ·have h1:=Trk.ownTo (rest:=rest) (Trk.start hs) g1 g2 g3
  unfold mR
  rw [List.length_append,markC_snoc]
  exact h1
 ·rcases List.mem_append.1 hx with hx|hx
  ·exact h.mks x hx
  ·rw [List.mem_singleton] at hx
   subst hx
   refine ⟨⟨ha,hb⟩,Nat.le_refl _,?_⟩
   show backP exUt exUu ta (steps.drop steps.length) st=(ra.map RowV.l,rb.map RowV.l)
   rw [List.drop_length,hma,hmb]
   rfl
 ·refine List.pairwise_append.2 ⟨h.mono,List.pairwise_singleton _ _,fun x hx y hy=>?_⟩
  rw [List.mem_singleton] at hy
  subst hy
  exact (h.mks x hx).2.1
theorem LawP.second (h:LawP w0 w lv ua ub (some jb) [] ([],[]) [] ta tb tp []) (hm:Mx w0) (hmw:Mx w) (R:Nat→Prop) (a b c d:Value) (hs:SchAt w R (exU ⟨#[117]⟩ 1 6 1 a b c d)) :
 Calls Tryz.prog 34 #[(exU ⟨#[117]⟩ 1 6 1 a b c d).agg] w fun e w'=>∃ tq,e=.returned (.tuple #[.pointer (some ⟨tq,0,none⟩),.int .i64 0])∧∃ ga gb gp gq jv,PlayG w0 w' lv ua ub jb ([],[]) [] ta tb tp tq [] [] (.slice none 0 0) [] [] ga gb gp gq jv:=by
 obtain ⟨gp,ga,gb,jv,h,hp,hl,hro,hpb⟩:=h
 refine (tnew_env w0 w hm _ h.trk hmw R _ a b c d hs (exU_right a b c d).2).mono ?_
 rintro e w' ⟨gq,rfl,hal,hr,hTn,hT,hE⟩
 have hp1:(mR (.slice none 0 0) []::(gq.res++RS lv ua ub ga gb (some jb) jv [] (gp.res++[]))).Perm (RS lv ua ub ga gb (some jb) jv [] (FRM gp gq (.slice none 0 0) [] [])):=perm_of_cnt fun a=>by unfold FRM RS resU;simp only [cnt_append,cnt_cons,cnt_nil];omega
 have hnil:Below w'.heap.size w' w':=Below.refl _ _
 have hadd:∀ {v0:World} {F:List Nat},Trk v0 F w' (gq.res++RS lv ua ub ga gb (some jb) jv [] (gp.res++[]))→Trk v0 F w' (RS lv ua ub ga gb (some jb) jv [] (FRM gp gq (.slice none 0 0) [] [])):=fun hx =>
  (Trk.new (r:=mR (.slice none 0 0) []) hx (Own.nil _ _ _) zO75 zO75 hnil).perm hp1
 have hst:=hadd (Trk.add (Trk.start h.trk.sep) hTn)
 have hE2:=TabE.next hE (hadd (Trk.start hT.sep))
 exact ⟨gq.tb,rfl,ga,gb,gp,gq,jv,⟨hadd hT,h.a.next hst,h.b.next hst,h.ra,h.rb,h.pa,h.pb,h.sa,h.sb,zPXO,h.va,h.vb⟩,TabE.next hp hst,hE2,hl,hal.then (exU_like a b c d).2,hro,hr,hpb,rfl,zPXO,List.Pairwise.nil⟩
end
def PlayR (w0:World) (lv:Value) (ua ub jb ta tb tp tq:Nat) (mv:Value) (N k:Nat) (w:World):Prop :=
 ∃ st steps ms jk ga gb gp gq jv,PlayG w0 w lv ua ub jb st steps ta tb tp tq st.1 st.2 mv ms jk ga gb gp gq jv∧steps.length=N∧N≤1000*k∧ms.length≤k
end Go.Proofs.YteggkjdlajgenaaGreatDoor
namespace Go.Proofs.YteggkjdlajgenaaGreatDoor
open Go.RowKit Go.Afx
theorem blk_agree {w w':World} {b:Nat} {t:TypeId} {cs:List Value} (h:Blk w b t cs) (h':Blk w' b t cs):Agree (fun q=>q=b) w w':=fun k o e=>by
 subst e
 exact (h'.cell o).trans (h.cell o).symm
theorem uplays_any (w:World) (hm:Mx w) (v:Value) (l:List ActU) (h:ActsU w (fun _=>True) v l) :
 Calls Tryz.prog 7 #[v] w fun e w'=>e=.returned (.bool true)∧Below w.heap.size w w':=by
 obtain ⟨p,cap,rfl,hc1,hc2⟩:=h.sl.form
 obtain ⟨n,hn⟩:=zwjg
 have HGR:=Lib.hid (great10_any w _ _ l h)
 rw [hn] at hc1 HGR ⊢
 have HS:=Lib.hid h
 have HN:=Lib.hid hn
 have HM:=Lib.hid hm
 have HAW:=Lib.hid (fun W (hb:Below w.heap.size w W)=>awake10_any W (hm.below hb))
 clear h hn hm
 go_enter Tryz.func7,Tryz.ntmps7
 go_wp2_with fail
 refine HGR.out.mono ?_
 clear HGR
 rintro e w1 ⟨gb,rfl,hb1,hgb⟩
 have HB1:=Lib.hid hb1
 have HGB:=Lib.hid hgb
 clear hb1 hgb
 cases gb with
 | true =>
  exact zVQu
 | false =>
  have HFI:=Lib.hid (HGB.out rfl)
  clear HGB
  go_wp2_with fail
  refine (HAW.out _ HB1.out).mono ?_
  clear HAW
  rintro e w2 ⟨rfl,hb2⟩
  have hb02:=HB1.out.trans (hb2.mono HB1.out.size)
  obtain ⟨w3,hw3⟩:=zfMa
  have hT3:=jour_new w2 w3 hw3 hb02
  have hb3:=zUeY
  have HBO:=Lib.hid (both_any w w3 HM.out ((HM.out.below hb02).below hb3) _ hT3 (some w2.heap.size))
  unfold ptrJ ptrV at HBO
  clear hb2 hb02 hT3 hb3
  go_wp2_with fail
  clear hw3
  refine HBO.out.mono ?_
  clear HBO
  generalize w2.heap.size=jb at *
  rintro e w4 ⟨lv,ua,ub,ga,gb,rfl,hbo⟩
  have hl4:=hbo.law
  have hmx4:=zedq
  obtain ⟨ga2,gb2,jv2,hg2⟩:=id hl4
  obtain ⟨gl,ol,cl,rfl,hgl,_,hl0,hl1⟩:=hg2.list
  have HL4:=Lib.hid hl4
  have HMX4:=Lib.hid hmx4
  have HP:=Lib.hid (plan10_any w4 ⟨#[116]⟩ z7Rn)
  generalize ga.tb=ta at *
  generalize gb.tb=tb at *
  clear hbo hl4 hg2 ga2 gb2 jv2 hgl hl0 hl1 hmx4
  go_wp2_with fail
  refine HP.out.mono ?_
  clear HP
  rintro e w5 ⟨a,b,c,d,rfl,hs5,hb5⟩
  have HNW:=Lib.hid ((HL4.out.below hb5).plain HM.out (HMX4.out.below hb5) _ a b c d hs5)
  clear hs5 hb5
  go_wp2_with fail
  refine HNW.out.mono ?_
  clear HNW
  rintro e w6 ⟨tp,rfl,hl6⟩
  have hb6:Below w.heap.size w w6:=by
   obtain ⟨_,_,_,_,hG,_⟩:=id hl6
   exact hG.trk.only.below (Nat.le_refl _) (fun q hq=>zks3)
  have HL6:=Lib.hid hl6
  have HB6:=Lib.hid hb6
  have HP2:=Lib.hid (plan10_any w6 ⟨#[117]⟩ z7Rn)
  clear hl6 hb6 HL4 HMX4
  go_wp2_with fail
  refine HP2.out.mono ?_
  clear HP2
  rintro e w7 ⟨a2,b2,c2,d2,rfl,hs7,hb7⟩
  have HNW2:=Lib.hid (LawP.second (HL6.out.below hb7) HM.out ((HM.out.below HB6.out).below hb7) _ a2 b2 c2 d2 hs7)
  clear hs7 hb7
  go_wp2_with fail
  refine HNW2.out.mono ?_
  clear HNW2
  rintro e w8 ⟨tq,rfl,ga8,gb8,gp8,gq8,jv8,hG8⟩
  have h8:PlayR w (.slice (some ⟨gl,ol,none⟩) 2 cl) ua ub jb ta tb tp tq (.slice none 0 0) 0 0 w8:=⟨_,_,_,_,_,_,_,_,_,hG8,rfl,zTbe,zPXO⟩
  have H8:=Lib.hid h8
  clear hG8 h8 HL6 HB6
  go_wp2
  go_loopw [9,10,11] (fun mv nv iv wr=>∃ k N:Nat,iv=.int .i64 k∧nv=.int .i64 N∧k≤n∧PlayR w (.slice (some ⟨gl,ol,none⟩) 2 cl) ua ub jb ta tb tp tq mv N k wr) (fun _ _ iv _=>n - (intOf iv).toNat)
  case atStart=>exact ⟨0,0,rfl,rfl,Nat.zero_le _,H8.out⟩
  case round =>
   obtain ⟨k,N,rfl,rfl,hk,st,steps,ms,jk,ga,gb,gp,gq,jv,hG,hsN,hNk,hmk⟩:=hrel
   obtain ⟨wo,rfl⟩:=zDit
   obtain ⟨pm,cm,hmv,hcm1,hcm2⟩:=own_formT hG.marks
   subst hmv
   have hn60:=HFI.out.len
   rw [HN.out] at hn60
   by_cases hkn:k < n
   ·skip
    have hbw:=hG.old
    have hkl:k < l.length:=by rw [HN.out];exact hkn
    obtain ⟨g,off,cap',hv,hg,e0,e1,e2,e3⟩:=(HS.out.below hbw).at hkl
    rw [HN.out] at hv
    cases hv
    have hmk2:=zKzh
    obtain ⟨pr,nr,cr,hrv⟩:=HS.out.forms _ hmk2
    have hrow:=zgN1
    obtain ⟨hf1,hf2,hf3⟩:=HS.out.n64 _ hmk2
    have hrl:=HFI.out.row _ hmk2
    generalize l[k]=x at *
    obtain ⟨kd,hkd⟩:∃ kd,x.kind=kd:=⟨_,rfl⟩
    obtain ⟨xn,hxn⟩:∃ xn,x.n=xn:=⟨_,rfl⟩
    obtain ⟨oth,hoth⟩:∃ oth,x.other=oth:=⟨_,rfl⟩
    have hagg:x.agg=.agg #[.int .i64 kd,.int .i64 xn,.bool oth,.slice pr nr cr]:=by unfold ActU.agg;rw [hrv,hkd,hxn,hoth]
    rw [hrv] at e3
    rw [hkd] at e0
    rw [hxn] at e1
    rw [hoth] at e2
    obtain ⟨w1,hw1⟩:∃ w1,wo.alloc (.cells #[.int .i64 kd,.int .i64 xn,.bool oth,.slice pr nr cr] 79)=w1:=⟨_,rfl⟩
    have hb1:Below wo.heap.size wo w1:=hw1▸(Below.refl _ _).alloc (Nat.le_refl _) _
    have hk1:Blk w1 wo.heap.size 79 [.int .i64 kd,.int .i64 xn,.bool oth,.slice pr nr cr]:=hw1▸Blk.new wo _ _
    have b0:w1.cell? ⟨wo.heap.size,0,none⟩=some (.int .i64 kd):=hk1.cell 0
    have b1:w1.cell? ⟨wo.heap.size,1,none⟩=some (.int .i64 xn):=hk1.cell 1
    have b2:w1.cell? ⟨wo.heap.size,2,none⟩=some (.bool oth):=hk1.cell 2
    have b3:w1.cell? ⟨wo.heap.size,3,none⟩=some (.slice pr nr cr):=hk1.cell 3
    have hlt1:=hk1.lt
    have hG1:=hG.below hb1
    have hHD:=And.intro hrow (And.intro hf3 (And.intro hrl hf2))
    have HX:=Lib.hid (show Sl w1 (fun q=>q < w.heap.size) 3 x.rv x.row.length (rowCells x.row)∧(∀ v∈x.row,fit64 v.n)∧x.row.length≤1000∧fit64 x.n from ⟨hrow.below hb1,hf3,hrl,hf2⟩)
    have HG1:=Lib.hid hG1
    have HSN:=Lib.hid hsN
    have HAGG:=Lib.hid hagg
    have HLN:Hid ((steps.length:Int)=(N:Int)):=Lib.hid (by rw [hsN])
    have HBD:Hid (steps.length=N∧N≤1000*(k+1)∧ms.length≤k+1):=Lib.hid ⟨hsN,zTbe,zTbe⟩
    have hfx:fit64 xn:=hxn▸hf2
    have hfk:fit64 kd:=hkd▸hf1
    clear hG hsN hbw hkl hmk2 hrow hf1 hf2 hf3 hrl hHD hagg hG1 hk1 hb1 hrv hkd hxn hoth
    obtain ⟨l0,l1,lg,uc,lu,vc,lb⟩:=HG1.out.cells
    by_cases hlo:kd < 0
    ·skip
     exact zfC1
    by_cases hhi:kd≤3
    ·skip
     cases oth with
     | false =>
      have hdo:=HG1.out.doesA x HX.out.1 HX.out.2.1 HX.out.2.2.1 HX.out.2.2.2 (by rw [HSN.out];omega)
      rw [HAGG.out] at hdo
      unfold ptrV at hdo
      have HD:=Lib.hid hdo
      clear hdo
      go_wp2_with fail
      clear hw1 e0 e1 e2 e3 b0 b1 b2 b3 hlt1 l0 l1 lg uc lu vc lb
      refine HD.out.mono ?_
      clear HD
      rintro e w7 ⟨c,rfl,hc,st',ls,ga',gp',jv',hG7,hlc⟩
      exact zW8F
     | true =>
      have hdo:=HG1.out.doesB x HX.out.1 HX.out.2.1 HX.out.2.2.1 HX.out.2.2.2 (by rw [HSN.out];omega)
      rw [HAGG.out] at hdo
      unfold ptrV at hdo
      have HD:=Lib.hid hdo
      clear hdo
      go_wp2_with fail
      clear hw1 e0 e1 e2 e3 b0 b1 b2 b3 hlt1 l0 l1 lg uc lu vc lb
      refine HD.out.mono ?_
      clear HD
      rintro e w7 ⟨c,rfl,hc,st',ls,gb',gq',jv',hG7,hlc⟩
      exact zW8F
    by_cases h4:kd=4
    ·skip
     subst h4
     have hGd:=HG1.out.below (Below.refl _ _).drew
     have hmk3:=hGd.mark
     rw [HLN.out] at hmk3
     have HMK3:=Lib.hid hmk3
     have HRA:=Lib.hid hGd.rowsA
     have HGD:=Lib.hid hGd
     have hB:∀ q,(q=gl∨q=ua∨q=ub)→q < w1.drew.heap.size:=fun q hq=>by
      rcases hq with rfl|rfl|rfl
      ·exact lg
      ·exact lu
      ·exact lb
     have HBQ:=Lib.hid hB
     clear hGd hmk3 hB
     go_upto_region 24 with fail
     refine wp_region_lit_plan [] [(0,0),(1,0),(3,0),(4,0),(10,0),(11,0),(5,2),(6,0),(7,0),(8,2),(12,2),(13,0),(14,0),(15,2),(2,3),(9,3),(16,4),(17,0),(18,4),(19,4),(20,0)] ((fun q=>q=gl∨q=ua∨q=ub)) zyVB zyVB (fun c a d v w h=>zx0I) ?_
     go_wp2_with (first|(refine stp ?_))
     clear hw1 e0 e1 e2 e3 b0 b1 b2 b3 hlt1 l0 l1 lg uc lu vc lb
     refine HMK3.out.mono ?_
     clear HMK3
     rintro e wm ⟨rfl,hwm⟩
     rw [hwm]
     clear hwm wm
     go_wp2_with (first|(refine stp ?_))
     refine HRA.out.mono ?_
     clear HRA
     rintro e w3 ⟨p3,n3,c3,rws3,rfl,ha3,hm3,hb3⟩
     have hag:Agree (fun q=>q=gl∨q=ua∨q=ub) w1.drew w3:=agree_bel hb3 HBQ.out
     have hG3:=HGD.out.below hb3
     have HRB:=Lib.hid hG3.rowsB
     have HG3:=Lib.hid hG3
     have HA3:=Lib.hid (And.intro ha3 hm3)
     clear ha3 hm3 hb3 hG3 HGD
     go_wp2_with (first|(refine stp ?_))
     clear hag
     refine HRB.out.mono ?_
     clear HRB
     rintro e w4 ⟨p4,n4,c4,rws4,rfl,ha4,hm4,hb4⟩
     obtain ⟨w5,hw5⟩:∃ w5,w4.alloc (.cells #[.int .i64 N,.slice p3 n3 c3,.slice p4 n4 c4] 86)=w5:=⟨_,rfl⟩
     have hb5:=z1O1
     have hs5:Sl w5 (fun _=>True) 3 (.slice (some ⟨w4.heap.size,0,none⟩) 1 1) 1 [.int .i64 N,.slice p3 n3 c3,.slice p4 n4 c4]:=hw5▸(Own.made w4 86 3 [.int .i64 N,.slice p3 n3 c3,.slice p4 n4 c4] [] 1 1 rfl (((Ones.nil.cons rfl).cons rfl).cons rfl) (Nat.le_refl _) zdUY zPXO).sl (fun _ _=>trivial)
     have hb35:=hb4.trans (hb5.mono hb4.size)
     have hG5:=HG3.out.below hb35
     have ho5:=hG5.marks
     have HG5:=Lib.hid hG5
     have HA5:=Lib.hid (And.intro (RowsAt.below HA3.out.1 hb35) (And.intro HA3.out.2 (And.intro (RowsAt.below ha4 hb5) hm4)))
     clear ha4 hm4 hb4 hb5 hb35 hG5 HG3 HA3
     go_wp2_with (first
      | (at_builtin;refine wpList_app rfl _ _ rfl elemState zdhv ho5 zdhv hs5 zefz zTbe ?_;intro v6 w6 g1 g2 g3 g4 g5;clear ho5 hs5;have G1:=Lib.hid g1;have G2:=Lib.hid g2;have G3:=Lib.hid (own_new g3);clear g1 g2 g3 g4 g5)
      | (refine stp ?_))
     clear hw5
     have hG6:=HG5.out.push (va:=.slice p3 n3 c3) (vb:=.slice p4 n4 c4) (by rw [HSN.out];exact G1.out) G2.out G3.out HA5.out.1 HA5.out.2.2.1 HA5.out.2.1 HA5.out.2.2.2
     have HG6:=Lib.hid hG6
     have HBD6:Hid (steps.length=N∧N≤1000*(k+1)∧(ms++[(⟨steps.length,.slice p3 n3 c3,rws3,.slice p4 n4 c4,rws4⟩:MarkU)]).length≤k+1):=Lib.hid ⟨HSN.out,zTbe,by rw [List.length_append];simp;omega⟩
     clear hG6 G1 G2 G3 HG5 HA5
     have hmk9:=HG6.out.mark
     rw [HLN.out] at hmk9
     have HMK9:=Lib.hid hmk9
     have HSA9:=Lib.hid HG6.out.sameA
     obtain ⟨l0,l1,lg,uc,lu,vc,lb⟩:=HG6.out.cells
     clear hmk9
     go_wp2_with fail
     refine HMK9.out.mono ?_
     clear HMK9
     rintro e wm ⟨rfl,hwm⟩
     rw [hwm]
     clear hwm wm
     go_wp2_with fail
     clear l0 l1 lg uc lu vc lb
     refine HSA9.out.mono ?_
     clear HSA9
     rintro e wr1 ⟨p1,n1,c1,rfl,hb1',hc1'⟩
     have HBB1:=Lib.hid hb1'
     have HC1:=Lib.hid hc1'
     clear hb1' hc1'
     go_wp2_with fail
     refine HC1.out.mono ?_
     clear HC1
     rintro e wr2 ⟨p2,n2,c2,rfl,hb2',hc2'⟩
     have HBB2:=Lib.hid (HBB1.out.trans (hb2'.mono HBB1.out.size))
     have HC2:=Lib.hid hc2'
     clear hb2' hc2' HBB1
     go_wp2_with fail
     refine HC2.out.mono ?_
     clear HC2
     rintro e wr3 ⟨rfl,hb3'⟩
     have hG9:=HG6.out.below (HBB2.out.trans (hb3'.mono HBB2.out.size))
     have HG9:=Lib.hid hG9
     have HSB9:=Lib.hid hG9.sameB
     obtain ⟨l0,l1,lg,uc,lu,vc,lb⟩:=hG9.cells
     clear hb3' hG9 HBB2
     go_wp2_with fail
     clear l0 l1 lg uc lu vc lb
     refine HSB9.out.mono ?_
     clear HSB9
     rintro e wr4 ⟨p4,n4,c4,rfl,hb4',hc4'⟩
     have HBB4:=Lib.hid hb4'
     have HC4:=Lib.hid hc4'
     clear hb4' hc4'
     go_wp2_with fail
     refine HC4.out.mono ?_
     clear HC4
     rintro e wr5 ⟨p5,n5,c5,rfl,hb5',hc5'⟩
     have HBB5:=Lib.hid (HBB4.out.trans (hb5'.mono HBB4.out.size))
     have HC5:=Lib.hid hc5'
     clear hb5' hc5' HBB4
     go_wp2_with fail
     refine HC5.out.mono ?_
     clear HC5
     rintro e wr6 ⟨rfl,hb6'⟩
     have HGF:=Lib.hid (HG9.out.below (HBB5.out.trans (hb6'.mono HBB5.out.size)))
     clear hb6' HBB5 HG9
     go_wp2
     go_roundw
     case rel=>exact ⟨k+1,N,z3KH,zrXX,zTbe,_,_,_,_,_,_,_,_,_,HGF.out,HBD6.out.1,HBD6.out.2.1,HBD6.out.2.2⟩
     case measure=>(simp [intOf])<;>omega
    by_cases h5:kd=5
    ·skip
     subst h5
     by_cases hms:0 < ms.length
     ·skip
      obtain ⟨uw,huw⟩:∃ uw:Nat,IntKind.u64.wrap xn=(uw:Int):=⟨(IntKind.u64.wrap xn).toNat,zm6w⟩
      have hmod:(uw:Int) % (ms.length:Int)=((uw % ms.length:Nat):Int):=zTbe
      have hkq:uw % ms.length < ms.length:=Nat.mod_lt _ hms
      generalize uw % ms.length=kq at *
      obtain ⟨gm,om,cmx,hvm,_,_,_,hgm,hcs⟩:=(HG1.out.marks.sl (B:=fun _=>True) (fun _ _=>trivial)).place hms
      cases hvm
      have hmem:ms[kq]∈ms:=List.getElem_mem hkq
      have hmt:ms[kq]∈ms.take (kq+1):=by rw [List.take_succ_eq_append_getElem hkq];exact List.mem_append_right _ (List.mem_singleton.2 rfl)
      have hall:∀ y∈ms.take (kq+1),y.n≤ms[kq].n:=fun y hy=>by
       rw [List.take_succ_eq_append_getElem hkq] at hy
       rcases List.mem_append.1 hy with hy|hy
       ·obtain ⟨i,hi,rfl⟩:=List.mem_iff_getElem.1 hy
        rw [List.length_take] at hi
        rw [List.getElem_take]
        exact (List.pairwise_iff_getElem.1 HG1.out.mono) i kq zTbe hkq zTbe
       ·rw [List.mem_singleton.1 hy];exact Nat.le_refl _
      have hx0:w1.cell? ⟨gm,om+(kq*3+0),none⟩=(ms[kq].cells)[0]?:=by rw [hcs _ (by rw [markC_len];omega),markC_at ms kq 0 hkq zTbe]
      have hx1:w1.cell? ⟨gm,om+(kq*3+1),none⟩=(ms[kq].cells)[1]?:=by rw [hcs _ (by rw [markC_len];omega),markC_at ms kq 1 hkq zTbe]
      have hx2:w1.cell? ⟨gm,om+(kq*3+2),none⟩=(ms[kq].cells)[2]?:=by rw [hcs _ (by rw [markC_len];omega),markC_at ms kq 2 hkq zTbe]
      have hat:=(HG1.out.mks _ hmem).1
      have hle:=(HG1.out.mks _ hmem).2.1
      obtain ⟨pa,ca,hav,_,_⟩:=hat.1.1.form
      obtain ⟨pb,cb,hbv,_,_⟩:=hat.2.1.form
      generalize ms[kq]=mx at *
      obtain ⟨na,hna⟩:∃ na,mx.ar.length=na:=⟨_,rfl⟩
      obtain ⟨nb,hnb⟩:∃ nb,mx.br.length=nb:=⟨_,rfl⟩
      rw [hna] at hav
      rw [hnb] at hbv
      have x0:w1.cell? ⟨gm,om+kq*3,none⟩=some (.int .i64 mx.n):=hx0
      have x1:w1.cell? ⟨gm,om+kq*3+1,none⟩=some (.slice pa na ca):=by rw [←hav];exact hx1
      have x2:w1.cell? ⟨gm,om+kq*3+2,none⟩=some (.slice pb nb cb):=by rw [←hbv];exact hx2
      rw [HSN.out] at hle
      obtain ⟨Q,hQ⟩:∃ Q,mx.n=Q:=⟨_,rfl⟩
      rw [hQ] at hle x0
      have HQ:=Lib.hid hQ
      obtain ⟨w2,hw2⟩:∃ w2,w1.alloc (.cells #[.int .i64 Q,.slice pa na ca,.slice pb nb cb] 86)=w2:=⟨_,rfl⟩
      have hb2:=zXxX
      have hk2:Blk w2 w1.heap.size 86 [.int .i64 Q,.slice pa na ca,.slice pb nb cb]:=hw2▸Blk.new w1 _ _
      have hG2:=(HG1.out.cut (show kq+1≤ms.length from hkq)).box (r:=Res.blk w1.heap.size 86 [.int .i64 Q,.slice pa na ca,.slice pb nb cb]) hb2 hk2 zg6m zg6m
      have hGd:=hG2.below (Below.refl _ _).drew
      have hbk:=hGd.back (by rw [HSN.out];omega) mx hmt hall
      rw [hQ,show ((steps.length - Q:Nat):Int)=(N:Int) - (Q:Int) by rw [HSN.out];omega] at hbk
      unfold ptrV at hbk
      have HBK:=Lib.hid hbk
      have HK2:=Lib.hid (hk2.below (Below.refl _ _).drew)
      have HAV:=Lib.hid (And.intro hav hbv)
      have HMT:=Lib.hid hmt
      have s0:w2.cell? ⟨w1.heap.size,0,none⟩=some (.int .i64 Q):=hk2.cell 0
      have s1:w2.cell? ⟨w1.heap.size,1,none⟩=some (.slice pa na ca):=hk2.cell 1
      have s2:w2.cell? ⟨w1.heap.size,2,none⟩=some (.slice pb nb cb):=hk2.cell 2
      have hlt2:=hk2.lt
      have HBDQ:Hid ((steps.take Q).length=Q∧Q≤1000*(k+1)∧(ms.take (kq+1)).length≤k+1):=Lib.hid ⟨by rw [List.length_take,HSN.out];omega,zTbe,z2Pg⟩
      have HLNQ:Hid (((steps.take Q).length:Int)=(Q:Int)):=Lib.hid (by rw [HBDQ.out.1])
      clear hcs hmem hmt hall hx0 hx1 hx2 hat hav hbv hna hnb hQ hb2 hk2 hG2 hGd hbk
      go_upto_region 29 with fail
      clear hw1 e0 e1 e2 e3 b0 b1 b2 b3 hlt1 l0 l1 lg uc lu vc lb x0 x1 x2 hgm huw hmod hw2
      refine wp_region_lit_plan [] [(0,0),(1,0),(4,0),(5,0),(2,1),(6,2),(7,0),(3,3),(8,0),(9,0),(10,0),(11,0),(12,1),(13,4),(14,0),(15,0),(16,0),(17,0),(18,0),(19,1),(20,4),(21,0),(22,0)] ((fun q=>q=w1.heap.size)) zyVB zyVB (fun c a d v w h=>zx0I) ?_
      go_wp2_with (first|(refine stp ?_))
      clear s0 s1 s2 hlt2
      refine HBK.out.mono ?_
      clear HBK
      rintro e w3 ⟨rfl,ga3,gb3,jv3,hG3⟩
      have hk3:Blk w3 w1.heap.size 86 [.int .i64 Q,.slice pa na ca,.slice pb nb cb]:=hG3.junk List.mem_cons_self
      have hag:Agree (fun q=>q=w1.heap.size) w2.drew w3:=blk_agree HK2.out hk3
      have s0:w3.cell? ⟨w1.heap.size,0,none⟩=some (.int .i64 Q):=hk3.cell 0
      have s1:w3.cell? ⟨w1.heap.size,1,none⟩=some (.slice pa na ca):=hk3.cell 1
      have s2:w3.cell? ⟨w1.heap.size,2,none⟩=some (.slice pb nb cb):=hk3.cell 2
      have hlt3:=hk3.lt
      have hlp:=hG3.loadP _ mx.ar (hG3.mks _ HMT.out).1.1 rfl
      rw [HAV.out.1] at hlp
      unfold ptrV at hlp
      have HLP:=Lib.hid hlp
      clear hk3 hG3 hlp HK2
      go_wp2_with (first|(refine stp ?_))
      clear s0 s1 s2 hlt3 hag
      refine HLP.out.mono ?_
      clear HLP
      rintro e w4 ⟨rfl,gp4,hG4,_⟩
      have hk4:Blk w4 w1.heap.size 86 [.int .i64 Q,.slice pa na ca,.slice pb nb cb]:=hG4.junk List.mem_cons_self
      have s0:w4.cell? ⟨w1.heap.size,0,none⟩=some (.int .i64 Q):=hk4.cell 0
      have s1:w4.cell? ⟨w1.heap.size,1,none⟩=some (.slice pa na ca):=hk4.cell 1
      have s2:w4.cell? ⟨w1.heap.size,2,none⟩=some (.slice pb nb cb):=hk4.cell 2
      have hlt4:=hk4.lt
      have hlq:=hG4.loadQ _ mx.br (hG4.mks _ HMT.out).1.2 rfl
      rw [HAV.out.2] at hlq
      unfold ptrV at hlq
      have HLQ:=Lib.hid hlq
      clear hk4 hG4 hlq
      go_wp2_with (first|(refine stp ?_))
      clear s0 s1 s2 hlt4
      refine HLQ.out.mono ?_
      clear HLQ
      rintro e w5 ⟨rfl,gq5,hG5⟩
      have hk5:Blk w5 w1.heap.size 86 [.int .i64 Q,.slice pa na ca,.slice pb nb cb]:=hG5.junk List.mem_cons_self
      have s0:w5.cell? ⟨w1.heap.size,0,none⟩=some (.int .i64 Q):=hk5.cell 0
      have hlt5:=hk5.lt
      have HG5:=Lib.hid hG5
      clear hk5 hG5
      go_wp2_with (first|(refine stp ?_))
      clear s0 hlt5
      have hmk9:=HG5.out.mark
      rw [HLNQ.out] at hmk9
      have HMK9:=Lib.hid hmk9
      have HSA9:=Lib.hid HG5.out.sameA
      obtain ⟨l0,l1,lg,uc,lu,vc,lb⟩:=HG5.out.cells
      clear hmk9
      go_wp2_with fail
      refine HMK9.out.mono ?_
      clear HMK9
      rintro e wm ⟨rfl,hwm⟩
      rw [hwm]
      clear hwm wm
      go_wp2_with fail
      clear l0 l1 lg uc lu vc lb
      refine HSA9.out.mono ?_
      clear HSA9
      rintro e wr1 ⟨p1,n1,c1,rfl,hb1',hc1'⟩
      have HBB1:=Lib.hid hb1'
      have HC1:=Lib.hid hc1'
      clear hb1' hc1'
      go_wp2_with fail
      refine HC1.out.mono ?_
      clear HC1
      rintro e wr2 ⟨p2,n2,c2,rfl,hb2',hc2'⟩
      have HBB2:=Lib.hid (HBB1.out.trans (hb2'.mono HBB1.out.size))
      have HC2:=Lib.hid hc2'
      clear hb2' hc2' HBB1
      go_wp2_with fail
      refine HC2.out.mono ?_
      clear HC2
      rintro e wr3 ⟨rfl,hb3'⟩
      have hG9:=HG5.out.below (HBB2.out.trans (hb3'.mono HBB2.out.size))
      have HG9:=Lib.hid hG9
      have HSB9:=Lib.hid hG9.sameB
      obtain ⟨l0,l1,lg,uc,lu,vc,lb⟩:=hG9.cells
      clear hb3' hG9 HBB2
      go_wp2_with fail
      clear l0 l1 lg uc lu vc lb
      refine HSB9.out.mono ?_
      clear HSB9
      rintro e wr4 ⟨p4,n4,c4,rfl,hb4',hc4'⟩
      have HBB4:=Lib.hid hb4'
      have HC4:=Lib.hid hc4'
      clear hb4' hc4'
      go_wp2_with fail
      refine HC4.out.mono ?_
      clear HC4
      rintro e wr5 ⟨p5,n5,c5,rfl,hb5',hc5'⟩
      have HBB5:=Lib.hid (HBB4.out.trans (hb5'.mono HBB4.out.size))
      have HC5:=Lib.hid hc5'
      clear hb5' hc5' HBB4
      go_wp2_with fail
      refine HC5.out.mono ?_
      clear HC5
      rintro e wr6 ⟨rfl,hb6'⟩
      have HGF:=Lib.hid (HG9.out.below (HBB5.out.trans (hb6'.mono HBB5.out.size)))
      clear hb6' HBB5 HG9
      go_wp2
      go_roundw
      case rel=>exact ⟨k+1,Q,z3KH,zrXX,zTbe,_,_,_,_,_,_,_,_,_,HGF.out,HBDQ.out.1,HBDQ.out.2.1,HBDQ.out.2.2⟩
      case measure=>(simp [intOf])<;>omega
     ·skip
      exact zfC1
    by_cases h6:kd=6
    ·skip
     subst h6
     have hkp:=HG1.out.keep
     unfold ptrV at hkp
     have HKP:=Lib.hid hkp
     clear hkp
     go_wp2_with fail
     clear hw1 e0 e1 e2 e3 b0 b1 b2 b3 hlt1 l0 l1 lg uc lu vc lb
     refine HKP.out.mono ?_
     clear HKP
     rintro e w7 ⟨rfl,jv7,hG7⟩
     have HG7:=Lib.hid hG7
     have HLN7:Hid ((([]:List StepU).length:Int)=0):=Lib.hid rfl
     have HBD7:Hid (([]:List StepU).length=0∧0≤1000*(k+1)∧([]:List MarkU).length≤k+1):=Lib.hid ⟨rfl,zTbe,zPXO⟩
     clear hG7
     have hmk9:=HG7.out.mark
     rw [HLN7.out] at hmk9
     have HMK9:=Lib.hid hmk9
     have HSA9:=Lib.hid HG7.out.sameA
     obtain ⟨l0,l1,lg,uc,lu,vc,lb⟩:=HG7.out.cells
     clear hmk9
     go_wp2_with fail
     refine HMK9.out.mono ?_
     clear HMK9
     rintro e wm ⟨rfl,hwm⟩
     rw [hwm]
     clear hwm wm
     go_wp2_with fail
     clear l0 l1 lg uc lu vc lb
     refine HSA9.out.mono ?_
     clear HSA9
     rintro e wr1 ⟨p1,n1,c1,rfl,hb1',hc1'⟩
     have HBB1:=Lib.hid hb1'
     have HC1:=Lib.hid hc1'
     clear hb1' hc1'
     go_wp2_with fail
     refine HC1.out.mono ?_
     clear HC1
     rintro e wr2 ⟨p2,n2,c2,rfl,hb2',hc2'⟩
     have HBB2:=Lib.hid (HBB1.out.trans (hb2'.mono HBB1.out.size))
     have HC2:=Lib.hid hc2'
     clear hb2' hc2' HBB1
     go_wp2_with fail
     refine HC2.out.mono ?_
     clear HC2
     rintro e wr3 ⟨rfl,hb3'⟩
     have hG9:=HG7.out.below (HBB2.out.trans (hb3'.mono HBB2.out.size))
     have HG9:=Lib.hid hG9
     have HSB9:=Lib.hid hG9.sameB
     obtain ⟨l0,l1,lg,uc,lu,vc,lb⟩:=hG9.cells
     clear hb3' hG9 HBB2
     go_wp2_with fail
     clear l0 l1 lg uc lu vc lb
     refine HSB9.out.mono ?_
     clear HSB9
     rintro e wr4 ⟨p4,n4,c4,rfl,hb4',hc4'⟩
     have HBB4:=Lib.hid hb4'
     have HC4:=Lib.hid hc4'
     clear hb4' hc4'
     go_wp2_with fail
     refine HC4.out.mono ?_
     clear HC4
     rintro e wr5 ⟨p5,n5,c5,rfl,hb5',hc5'⟩
     have HBB5:=Lib.hid (HBB4.out.trans (hb5'.mono HBB4.out.size))
     have HC5:=Lib.hid hc5'
     clear hb5' hc5' HBB4
     go_wp2_with fail
     refine HC5.out.mono ?_
     clear HC5
     rintro e wr6 ⟨rfl,hb6'⟩
     have HGF:=Lib.hid (HG9.out.below (HBB5.out.trans (hb6'.mono HBB5.out.size)))
     clear hb6' HBB5 HG9
     go_wp2
     go_roundw
     case rel=>exact ⟨k+1,0,z3KH,zrXX,zTbe,_,_,_,_,_,_,_,_,_,HGF.out,HBD7.out.1,HBD7.out.2.1,HBD7.out.2.2⟩
     case measure=>(simp [intOf])<;>omega
    ·skip
     exact zfC1
   ·skip
    have HFB:=Lib.hid hG.old
    clear hG hsN
    go_wp2
    go_ret
    exact ⟨rfl,HFB.out⟩
theorem uplays_law (v:Value) (l:List ActU) (w:World) (hm:Mx w) (h:ActsU w (fun _=>True) v l) :
 Calls Tryz.prog 7 #[v] w fun e w'=>e=.returned (.bool true)∧Below w.heap.size w w' :=
 uplays_any w hm v l h
end Go.Proofs.YteggkjdlajgenaaGreatDoor
