/- Contracts of the functions that the statement reaches, one behind the other. No condition beyond each theorem's own. -/
import Derived.Test.YteggkjdlajgenaaGreatDoorTS11
import Derived.Test.YteggkjdlajgenaaGreatDoorTS12
set_option linter.unusedSimpArgs false
set_option linter.unusedVariables false
set_option maxRecDepth 100000
set_option maxHeartbeats 4000000
theorem z2qk {P:Prop} (h:P:=by
 subst hb
 exact hN.trk.only.cell (p:=⟨w.heap.size,o,none⟩) (show w.heap.size < w2.drew.heap.size from HK2.out.lt) HOFF.out
 ):P:=h
theorem zcnv {P:Prop} (h:P:=by
 have zz:Blk w3 w.heap.size 79 [.int .i64 a.kind,.int .i64 a.n,.bool a.other,.slice pr a.row.length cr]:=(HK2.out.below (Below.refl _ _).drew).only hN.trk.only HOFF.out
 exact zz):P:=h
theorem z8Yv {P:Prop} (h:P:=by
 go_wp2_with (first|(refine stp ?_))
 go_ret2
 exact HF2.out
 ):P:=h
theorem zoxN {P:Prop} (h:P:=by
 have hc1:(cntU S g.rows a:Int)=1:=by rw [HCC.out,if_pos he]
 rw [hc1] at HFIN
 have HF2:=HFIN
 clear HFIN
 go_wp2_with (first|(refine stp ?_))
 go_ret2
 exact HF2.out
 ):P:=h
theorem zDe7 {P:Prop} (h:P:=by
 have zz:Sl w (offF (feet (RS lv ua ub ga gb J jv steps (gp.res++fr)))) 3 a.rv a.row.length (rowCells a.row):=h.row (hr.mono (Nat.le_refl _) (fun _ _ _=>rfl) (fun k hk _=>.inl hk))
 exact zz):P:=h
namespace Go.Proofs.YteggkjdlajgenaaGreatDoor
open Go.RowKit Go.Afx
def keyU (S:SchV) (m:List (List AV)) (n:Int):Key:=if m.length=0∨n < 0 then [110,111,110,101] else kfS S 0 (m.getD (n.toNat % m.length) [])
theorem key10_any (w:World) (ub:Nat) (g:TabG) (J:Option Nat) (jv:Value) (vs:List Value) (fr:List Res) (hs:Sep w (resU ub g J jv vs fr)) (hg:TabE w (feet (resU ub g J jv vs fr)) g) (n:Int) (hn:fit64 n) :
 Calls Tryz.prog 72 #[ptrV ub,.int .i64 n] w fun e w'=>e=.returned (.string (kb (keyU g.S g.rows n)))∧Below w.heap.size w w':=by
 have hbk:=resU_blk hs
 have c0:=zz3f
 have c1:=zSWO
 have hlt:=hbk.lt
 have HS:=Lib.hid hs
 have HG:=Lib.hid hg
 have HRW:=Lib.hid (trows_any w _ g hg hs.left (fun _=>True) (.slice none 0 0) [] (Sl.zero w _ 1))
 have hll:g.rows.length≤1000:=by rw [TabG.rows_len];exact hg.lim
 have hee:=zrdc
 rw [hee ub]
 clear hee hs hg hbk
 go_enter Tryz.func72,Tryz.ntmps72
 go_wp2_with fail
 clear c0 c1 hlt
 refine HRW.out.mono ?_
 clear HRW
 rintro e w1 ⟨lv,rws,rfl,hsq,hsm⟩
 rw [inP_emp] at hsm
 have hb1:=hsq.2.2.1
 have hrl:rws.length=g.rows.length:=by have:=congrArg List.length hsm;rwa [List.length_map] at this
 obtain ⟨pl,cl,hlv,_,_⟩:=own_formT hsq.1
 obtain ⟨L,hL⟩:∃ L,rws.length=L:=⟨_,rfl⟩
 rw [hL] at hlv hrl
 subst hlv
 have HB1:=Lib.hid hb1
 by_cases h0:L=0
 ·have d0:((L:Int) == 0)=true:=beq_iff_eq.2 zTbe
  have HE:Hid (keyU g.S g.rows n=[110,111,110,101]):=Lib.hid (by unfold keyU;rw [if_pos (.inl zTbe)])
  clear hsq hsm hb1 hrl hL h0
  go_wp2
  go_ret
  exact ⟨zKZO,HB1.out⟩
 ·have d0:((L:Int) == 0)=false:=beq_eq_false_iff_ne.2 zTbe
  by_cases hng:n < 0
  ·have HE:Hid (keyU g.S g.rows n=[110,111,110,101]):=Lib.hid (by unfold keyU;rw [if_pos (.inr hng)])
   clear hsq hsm hb1 hrl hL h0
   go_wp2
   go_ret
   exact ⟨zKZO,HB1.out⟩
  ·obtain ⟨N,rfl⟩:∃ N:Nat,n=(N:Int):=⟨n.toNat,zTbe⟩
   have hlt:N % L < L:=Nat.mod_lt _ zTbe
   have hlr:N % L < rws.length:=zTbe
   have hmk:rws[N % L]∈rws:=List.getElem_mem hlr
   have hra:=hsq.at
   obtain ⟨gr,or_,cpr,hvr,ek⟩:=hra.at hlr
   rw [hL] at hvr
   cases hvr
   have hgr:=World.block_lt_of_cell? _ _ ek
   obtain ⟨px,cx,hxv,_,_⟩:=(hra.2 _ hmk).form
   have hrow:=hra.2 _ hmk
   have hgm:rws[N % L].l∈g.rows:=by rw [←hsm];exact List.mem_map_of_mem hmk
   have HE:Hid (keyU g.S g.rows (N:Int)=kfS g.S 0 rws[N % L].l):=Lib.hid (by
    unfold keyU
    rw [if_neg (by rintro (h|h)<;>omega),Int.toNat_natCast,←hrl,←hsm,List.getD_eq_getElem?_getD,List.getElem?_map,List.getElem?_eq_getElem hlr]
    rfl)
   have hEg:=zW5L
   have hok:=(hEg.w (HS.out.below hb1)).rowsOK _ hgm
   have hri:=hEg.st.right
   rw [hxv] at ek hrow
   have hK:=tkey_any w1.drew _ g (TabOK.below hEg (Below.refl _ _).drew) ((HS.out.below hb1).left.below (Below.refl _ _).drew) _ _ rws[N % L].l (hrow.below (Below.refl _ _).drew) hok.n64 (by have:=hok.len;have:=(sch_small hri).1;omega) ((chk_zero hri _).1 hok.fit)
   have HK:=Lib.hid hK
   have hbk:=resU_blk (HS.out.below hb1)
   have c0:=zzcO
   have hlu:=hbk.lt
   have hmod:(N:Int).tmod (L:Int)=((N % L:Nat):Int):=by rw [Int.tmod_eq_emod_of_nonneg zTbe];simp
   generalize rws[N % L].l=rl at *
   generalize N % L=q at *
   have hz:¬ (L=0):=h0
   have hrl1:(1:Int)≤(L:Int):=zTbe
   have hwq:IntKind.i64.wrap (q:Int)=(q:Int):=IntWalk.i64_in _ zTbe
   generalize rl.length=nx at *
   clear hsq hsm hb1 hrl hL h0 hmk hra hrow hgm hEg hok hri hK hbk hxv
   obtain ⟨ks,hks⟩:∃ ks,kb (kfS g.S 0 rl)=ks:=⟨_,rfl⟩
   rw [hks] at HK
   have HKS:=Lib.hid hks
   clear hks
   go_upto_region 4 with fail
   refine wp_region_lit_plan [] [(0,0),(1,0),(2,0),(4,0),(5,0),(6,0),(7,0),(8,0),(9,0),(3,1),(10,1),(11,4),(12,0),(13,0),(14,0),(15,0),(16,0)] (fun _=>False) zyVB zyVB (fun c a d v w h=>zx0I) ?_
   go_wp2_with (first|(refine stp ?_))
   clear c0 hlu ek
   refine HK.out.mono ?_
   clear HK
   rintro e w2 ⟨rfl,hb2⟩
   have HB2:=Lib.hid (HB1.out.trans (Below.mono ((Below.refl _ _).drew.trans hb2) HB1.out.size))
   clear hb2
   go_wp2_with (first|(refine stp ?_))
   go_ret
   exact ⟨by rw [HE.out,HKS.out];rfl,HB2.out⟩
end Go.Proofs.YteggkjdlajgenaaGreatDoor
namespace Go.Proofs.YteggkjdlajgenaaGreatDoor
open Go.RowKit Go.Afx
structure ActU where
 kind:Int
 n:Int
 other:Bool
 rv:Value
 row:List AV
def ActU.agg (a:ActU):Value:=.agg #[.int .i64 a.kind,.int .i64 a.n,.bool a.other,a.rv]
def ActU.err (S:SchV) (m:List (List AV)) (a:ActU):Int:=if a.kind=0 then (insMd S m a.row).2 else if a.kind=1 then (updMd S m (keyU S m a.n) a.row).2 else if a.kind=2 then (delMd S m (keyU S m a.n)).2 else 0
def doU (S:SchV) (m:List (List AV)) (a:ActU):List (List AV):=if a.kind=0 then (insMd S m a.row).1 else if a.kind=1 then (updMd S m (keyU S m a.n) a.row).1 else if a.kind=2 then (delMd S m (keyU S m a.n)).1 else []
def cntU (S:SchV) (m:List (List AV)) (a:ActU):Nat:=if a.kind=0∨a.kind=1∨a.kind=2 then (if a.err S m=0 then 1 else 0) else m.length
theorem Alike.keyU {c s:SchV} (h:Alike c s) (m:List (List AV)) (n:Int):Go.Proofs.YteggkjdlajgenaaGreatDoor.keyU c m n=Go.Proofs.YteggkjdlajgenaaGreatDoor.keyU s m n:=by
 unfold Go.Proofs.YteggkjdlajgenaaGreatDoor.keyU;rw [h.kf]
section
variable {w w' : World} {ub : Nat} {g gp gp' : TabG} {J : Option Nat} {jv : Value} {vs : List Value} {fr : List Res}
theorem pl_perm (ub:Nat) (g gp:TabG) (J:Option Nat) (jv:Value) (vs:List Value) (fr:List Res):(resU ub g J jv vs (gp.res++fr)).Perm (gp.res++resU ub g J jv vs fr) :=
 perm_of_cnt fun a=>zfb9
theorem pl_w (hs:Sep w (resU ub g J jv vs (gp.res++fr))) (hp:TabE w (feet (resU ub g J jv vs (gp.res++fr))) gp):TabW w (offF (feet (resU ub g J jv vs (gp.res++fr)))) gp :=
 ⟨hp,(hs.perm (pl_perm ub g gp J jv vs fr)).left,fun k hk h1=>h1 (feet_perm (pl_perm ub g gp J jv vs fr).symm k z2dt)⟩
theorem pl_env (hs:Sep w (resU ub g J jv vs (gp.res++fr))) (h:StepT w w' (offF (feet (resU ub g J jv vs (gp.res++fr)))) gp gp') :
 Trk w (feet (resU ub g J jv vs (gp.res++fr))) w' (resU ub g J jv vs (gp'.res++fr))∧TabE w' (feet (resU ub g J jv vs (gp'.res++fr))) gp':=by
 have hp:=pl_perm ub g gp J jv vs fr
 have hp':=pl_perm ub g gp' J jv vs fr
 have hoff:∀ k,offF (feet (resU ub g J jv vs (gp.res++fr))) k→offF (feet (gp.res++resU ub g J jv vs fr)) k:=fun k hk h1=>hk (feet_perm hp.symm k h1)
 have hst:StepT w w' (offF (feet (gp.res++resU ub g J jv vs fr))) gp gp':=by
  refine ⟨⟨h.tab.ok.wide ?_,h.tab.sep,?_⟩,h.trk,h.tb,h.sch⟩
  ·rintro k (⟨h1,h2⟩|h1)
   ·exact .inl ⟨h1,hoff k h2⟩
   ·exact .inr h1
  ·rintro k hk (⟨h1,h2⟩|⟨_,h1⟩)
   ·rcases h.trk.foot k hk with h3|h3
    ·exact h2 (by rw [feet_append];simp [h3])
    ·omega
   ·exact h1 hk
 obtain ⟨hT,hE⟩:=hst.env (hs.perm hp)
 exact ⟨(hT.from hp.symm).perm hp'.symm,hE.perm hp'.symm⟩
end
def DoesOutU (w:World) (ub:Nat) (g gp:TabG) (J:Option Nat) (jv:Value) (vs:List Value) (fr:List Res) (S:SchV) (a:ActU) (e:Ending) (w':World):Prop :=
 e=.returned (.tuple #[.bool true,.int .i64 (cntU S g.rows a:Int)])∧∃ g' jv' gp' ls,
  Trk w (feet (resU ub g J jv vs (gp.res++fr))) w' (resU ub g' J jv' (vs++ls.map StepU.val) (gp'.res++fr))∧TabE w' (feet (resU ub g' J jv' (vs++ls.map StepU.val) (gp'.res++fr))) g'∧TabE w' (feet (resU ub g' J jv' (vs++ls.map StepU.val) (gp'.res++fr))) gp' ∧
  (g'.rows=doU S g.rows a∧gp'.rows=doU S g.rows a)∧(g'.tb=g.tb∧g'.S=g.S∧gp'.tb=gp.tb∧gp'.S=gp.S) ∧
  (∀ s∈ls,s.at w' (feet (resU ub g' J jv' (vs++ls.map StepU.val) (gp'.res++fr)))∧s.tb=g.tb)∧backT S ls (doU S g.rows a)=g.rows∧ls.length=cntU S g.rows a∧RowsV S (doU S g.rows a)
theorem does_outU {w w1 w2 w3:World} {ub:Nat} {g gp g' gp':TabG} {J:Option Nat} {jv jv':Value} {vs:List Value} {fr:List Res} {S:SchV} {a:ActU} {ls:List StepU}
 (hs:Sep w (resU ub g J jv vs (gp.res++fr))) (hb:Below w.heap.size w w1)
 (hN:StepN w1 w2 ub g J jv vs (gp.res++fr) (doU S g.rows a) (ls.map StepU.val) g' jv') (hst:StepT w2 w3 (offF (feet (resU ub g' J jv' (vs++ls.map StepU.val) (gp.res++fr)))) gp gp') (hr:gp'.rows=doU S g.rows a)
 (hl:∀ s∈ls,s.at w2 (feet (resU ub g' J jv' (vs++ls.map StepU.val) (gp.res++fr)))∧s.tb=g.tb) (hback:backT S ls (doU S g.rows a)=g.rows) (hc:ls.length=cntU S g.rows a) (hv:RowsV S (doU S g.rows a)) :
 DoesOutU w ub g gp J jv vs fr S a (.returned (.tuple #[.bool true,.int .i64 (cntU S g.rows a:Int)])) w3:=by
 have hT1:=Trk.after (Trk.of_below hs hb) hN.trk
 obtain ⟨hT,hE⟩:=pl_env hN.trk.sep hst
 exact ⟨rfl,g',jv',gp',ls,Trk.after hT1 hT,hN.tab.next hT,hE,⟨hN.rows,hr⟩,⟨hN.tb,hN.sch,hst.tb,hst.sch⟩,fun s hs=>⟨StepU.at_next (hl s hs).1 hT,(hl s hs).2⟩,hback,hc,hv⟩
theorem does10_any (w:World) (ub:Nat) (g gp:TabG) (J:Option Nat) (jv:Value) (vs:List Value) (fr:List Res) (hs:Sep w (resU ub g J jv vs (gp.res++fr))) (hg:TabE w (feet (resU ub g J jv vs (gp.res++fr))) g) (hgp:TabE w (feet (resU ub g J jv vs (gp.res++fr))) gp)
 (S:SchV) (hla:Alike g.S S) (hlp:Alike gp.S S) (hm:gp.rows=g.rows) (hv:RowsV S g.rows) (a:ActU) (hr:Sl w (offF (feet (resU ub g J jv vs (gp.res++fr)))) 3 a.rv a.row.length (rowCells a.row)) (hf:∀ x∈a.row,fit64 x.n) (hrl:a.row.length≤1000) (hn:fit64 a.n) (hvl:vs.length≤80000) :
 Calls Tryz.prog 36 #[ptrV ub,ptrV gp.tb,a.agg] w (DoesOutU w ub g gp J jv vs fr S a):=by
 obtain ⟨pr,cr,hrv,_,_⟩:=hr.form
 obtain ⟨w1,hw1⟩:∃ w1,w.alloc (.cells #[.int .i64 a.kind,.int .i64 a.n,.bool a.other,.slice pr a.row.length cr] 79)=w1:=⟨_,rfl⟩
 have hb1:=zppX
 have hk1:Blk w1 w.heap.size 79 [.int .i64 a.kind,.int .i64 a.n,.bool a.other,.slice pr a.row.length cr]:=hw1▸Blk.new w _ _
 have hoff:w.heap.size∉feet (resU ub g J jv vs (gp.res++fr)):=fun h=>by have:=hs.lt _ h;omega
 have hs1:=hs.below hb1
 have hg1:TabE w1 (feet (resU ub g J jv vs (gp.res++fr))) g:=TabOK.below hg hb1
 have hgp1:TabE w1 (feet (resU ub g J jv vs (gp.res++fr))) gp:=TabOK.below hgp hb1
 have hr1:=hr.below hb1
 have HKY:=Lib.hid (key10_any w1 ub g J jv vs (gp.res++fr) hs1 hg1 a.n hn)
 rw [hla.keyU] at HKY
 have HS:=Lib.hid hs
 have HS1:=Lib.hid hs1
 have HG1:=Lib.hid hg1
 have HGP1:=Lib.hid hgp1
 have HR1:=Lib.hid hr1
 have HB1:=Lib.hid hb1
 have HK1:=Lib.hid hk1
 have HOFF:=Lib.hid hoff
 have HV:=Lib.hid hv
 have HLA:=Lib.hid hla
 have HLP:=Lib.hid hlp
 have HM:=Lib.hid hm
 have HF:=Lib.hid hf
 have x0:w1.cell? ⟨w.heap.size,0,none⟩=some (.int .i64 a.kind):=hk1.cell 0
 have x1:w1.cell? ⟨w.heap.size,1,none⟩=some (.int .i64 a.n):=hk1.cell 1
 have x3:w1.cell? ⟨w.heap.size,3,none⟩=some (.slice pr a.row.length cr):=hk1.cell 3
 have hlt:=hk1.lt
 have hagg:a.agg=.agg #[.int .i64 a.kind,.int .i64 a.n,.bool a.other,.slice pr a.row.length cr]:=by unfold ActU.agg;rw [hrv]
 rw [hagg]
 rw [hrv] at HR1
 have hee:=zrdc
 rw [hee ub,hee gp.tb]
 rw [hee ub] at HKY
 clear hs hg hgp hla hlp hm hv hr hf hb1 hk1 hoff hs1 hg1 hgp1 hr1 hagg hee hrv
 go_enter Tryz.func36,Tryz.ntmps36
 go_wp2_with fail
 clear hw1
 refine HKY.out.mono ?_
 clear HKY
 rintro e w2 ⟨rfl,hb2⟩
 have HB12:=Lib.hid hb2
 have HB2:=Lib.hid (HB1.out.trans (hb2.mono HB1.out.size))
 have hk2:=HK1.out.below hb2
 have HK2:=Lib.hid hk2
 have hs2:=HS1.out.below hb2
 have hg2:TabE w2 (feet (resU ub g J jv vs (gp.res++fr))) g:=TabOK.below HG1.out hb2
 have hgp2:TabE w2 (feet (resU ub g J jv vs (gp.res++fr))) gp:=TabOK.below HGP1.out hb2
 have hr2:=HR1.out.below hb2
 have x0:w2.cell? ⟨w.heap.size,0,none⟩=some (.int .i64 a.kind):=hk2.cell 0
 have x3:w2.cell? ⟨w.heap.size,3,none⟩=some (.slice pr a.row.length cr):=hk2.cell 3
 have hlt2:=hk2.lt
 clear hb2 hk2 hlt
 by_cases h0:a.kind=0
 ·skip
  have hbd:Below w2.heap.size w2 w2.drew:=(Below.refl _ _).drew
  have hsd:=hs2.below hbd
  have hgd:TabE w2.drew (feet (resU ub g J jv vs (gp.res++fr))) g:=TabOK.below hg2 hbd
  have hgpd:TabE w2.drew (feet (resU ub g J jv vs (gp.res++fr))) gp:=TabOK.below hgp2 hbd
  have hrd:=hr2.below hbd
  have hU:=uins_any w2.drew ub g J jv vs (gp.res++fr) hsd hgd _ a.row hrd HF.out hrl zTbe
  rw [HLA.out.ins,HLA.out.kf] at hU
  have ed:doU S g.rows a=(insMd S g.rows a.row).1:=by unfold doU;rw [if_pos h0]
  have ee:a.err S g.rows=(insMd S g.rows a.row).2:=by unfold ActU.err;rw [if_pos h0]
  have ec:cntU S g.rows a=if (insMd S g.rows a.row).2=0 then 1 else 0:=by unfold cntU;rw [if_pos (.inl h0),ee]
  have HU:=Lib.hid hU
  have HED:=Lib.hid ed
  have HEC:=Lib.hid ec
  have HGPD:=Lib.hid hgpd
  have HRD:=Lib.hid hrd
  have HSD:=Lib.hid hsd
  have hkk:(a.kind == 0)=true:=beq_iff_eq.2 h0
  clear hs2 hg2 hgp2 hr2 hU ed ee ec hbd hsd hgd hgpd hrd
  go_upto_region 4 with fail
  refine wp_region_lit_plan [] [(0,0),(1,0),(4,0),(5,0),(2,1),(6,2),(3,3),(7,4),(8,0),(9,0)] ((fun q=>q=w.heap.size)) zyVB zyVB (fun c a d v w h=>zx0I) ?_
  go_wp2_with (first|(refine stp ?_))
  clear x0 x1 x3 hlt2
  refine HU.out.mono ?_
  clear HU
  rintro e w3 ⟨rfl,g',jv',hN⟩
  have hag:Agree (fun q=>q=w.heap.size) w2.drew w3:=fun b o hb=>by
   exact z2qk
  have hk3:=zcnv
  have x3:w3.cell? ⟨w.heap.size,3,none⟩=some (.slice pr a.row.length cr):=hk3.cell 3
  have hlt3:=hk3.lt
  have hgp3:=TabE.next HGPD.out hN.trk
  have hr3:=Sl.next HRD.out hN.trk
  have hP:=tins_md w3 _ gp (pl_w hN.trk.sep hgp3) _ _ a.row hr3 HF.out hrl
  rw [HLP.out.ins,HM.out] at hP
  have HP:=Lib.hid hP
  have HN:=Lib.hid hN
  clear hN hgp3 hr3 hk3 hP
  go_wp2_with (first|(refine stp ?_))
  clear x3 hlt3 hag
  refine HP.out.mono ?_
  clear HP
  rintro e w4 ⟨rfl,gp',hst,hrows⟩
  have hls:∀ s∈(if (insMd S g.rows a.row).2=0 then [StepU.came g.tb (kfS S 0 a.row)] else []),s.at w3 (feet (resU ub g' J jv' (vs++(if (insMd S g.rows a.row).2=0 then [StepU.came g.tb (kfS S 0 a.row)] else []).map StepU.val) (gp.res++fr)))∧s.tb=g.tb:=fun s hs=>by
   split at hs
   ·rw [List.mem_singleton.1 hs];exact ⟨trivial,rfl⟩
   ·simp at hs
  have hN:=HN.out
  have hmap:(if (insMd S g.rows a.row).2=0 then [(StepU.came g.tb (kfS S 0 a.row)).val] else [])=(if (insMd S g.rows a.row).2=0 then [StepU.came g.tb (kfS S 0 a.row)] else []).map StepU.val:=by split<;>rfl
  rw [hmap] at hN hst
  have hbk:backT S (if (insMd S g.rows a.row).2=0 then [StepU.came g.tb (kfS S 0 a.row)] else []) (doU S g.rows a)=g.rows:=by
   rw [HED.out]
   split
   ·rename_i he
    show (delMd S (insMd S g.rows a.row).1 (kfS S 0 a.row)).1=g.rows
    rw [(ins_back HV.out HF.out he).2.2]
   ·rename_i he
    exact ins_no he
  have hcc:(if (insMd S g.rows a.row).2=0 then [StepU.came g.tb (kfS S 0 a.row)] else []).length=cntU S g.rows a:=by rw [HEC.out];split<;>rfl
  rw [←HED.out] at hN hrows
  have hfin:=does_outU HS.out (HB2.out.trans ((Below.refl _ _).drew.mono HB2.out.size)) hN hst hrows hls hbk hcc (by rw [HED.out];exact HV.out.ins HF.out)
  have HFIN:=Lib.hid hfin
  have HCC:=Lib.hid hcc
  clear hst hrows hls hN hmap hbk hfin hcc HN HGPD HRD HSD
  by_cases he:(insMd S g.rows a.row).2=0
  ·rw [he]
   have hc1:(cntU S g.rows a:Int)=1:=by rw [HEC.out,if_pos he];rfl
   rw [hc1] at HFIN
   have HF2:=HFIN
   clear HFIN
   go_wp2_with (first|(refine stp ?_))
   go_ret2
   exact HF2.out
  ·have hc1:(cntU S g.rows a:Int)=0:=by rw [HEC.out,if_neg he];rfl
   rw [hc1] at HFIN
   have HF2:=HFIN
   clear HFIN
   generalize (insMd S g.rows a.row).2=er at *
   exact z8Yv
 by_cases h1:a.kind=1
 ·skip
  have hbd:Below w2.heap.size w2 w2.drew:=(Below.refl _ _).drew
  have hsd:=hs2.below hbd
  have hgd:TabE w2.drew (feet (resU ub g J jv vs (gp.res++fr))) g:=TabOK.below hg2 hbd
  have hgpd:TabE w2.drew (feet (resU ub g J jv vs (gp.res++fr))) gp:=TabOK.below hgp2 hbd
  have hrd:=hr2.below hbd
  have hU:=uupd_any w2.drew ub g J jv vs (gp.res++fr) hsd hgd (keyU S g.rows a.n) _ a.row hrd HF.out hrl zTbe
  rw [HLA.out.upd,HLA.out.kf] at hU
  have ed:doU S g.rows a=(updMd S g.rows (keyU S g.rows a.n) a.row).1:=by unfold doU;rw [if_neg h0,if_pos h1]
  have ee:a.err S g.rows=(updMd S g.rows (keyU S g.rows a.n) a.row).2:=by unfold ActU.err;rw [if_neg h0,if_pos h1]
  have ec:cntU S g.rows a=if (updMd S g.rows (keyU S g.rows a.n) a.row).2=0 then 1 else 0:=by unfold cntU;rw [if_pos (.inr (.inl h1)),ee]
  have HU:=Lib.hid hU
  have HED:=Lib.hid ed
  have HEC:=Lib.hid ec
  have HGPD:=Lib.hid hgpd
  have HRD:=Lib.hid hrd
  have HSD:=Lib.hid hsd
  have HGR:Hid (∀ j,∀ hj:j < g.rows.length,rowOf g (kfS S 0 g.rows[j])=g.rows[j]):=Lib.hid fun j hj=>by
   have:=rowOf_key (g:=g) hgd (List.getElem_mem hj)
   rwa [HLA.out.kf] at this
  have hkk:(a.kind == 1)=true:=beq_iff_eq.2 h1
  have hk0:(a.kind == 0)=false:=beq_eq_false_iff_ne.2 h0
  clear hs2 hg2 hgp2 hr2 hU ed ee ec hbd hsd hgd hgpd hrd
  generalize hkey:keyU S g.rows a.n=k at *
  generalize hks:kb k=ks at *
  go_upto_region 9 with fail
  refine wp_region_lit_plan [] [(0,0),(1,0),(2,0),(5,0),(6,0),(7,0),(3,1),(8,2),(4,3),(9,4),(10,0),(11,0)] ((fun q=>q=w.heap.size)) zyVB zyVB (fun c a d v w h=>zx0I) ?_
  go_wp2_with (first|(refine stp ?_))
  clear x0 x1 x3 hlt2
  refine HU.out.mono ?_
  clear HU
  rintro e w3 ⟨rfl,g',jv',l,hN,hd⟩
  have hag:Agree (fun q=>q=w.heap.size) w2.drew w3:=fun b o hb=>by
   exact z2qk
  have hk3:=zcnv
  have x3:w3.cell? ⟨w.heap.size,3,none⟩=some (.slice pr a.row.length cr):=hk3.cell 3
  have hlt3:=hk3.lt
  have hgp3:=TabE.next HGPD.out hN.trk
  have hr3:=Sl.next HRD.out hN.trk
  have hP:=tupd_md w3 _ gp (pl_w hN.trk.sep hgp3) k _ a.row hr3 HF.out hrl
  rw [HLP.out.upd,HM.out,hks] at hP
  have HP:=Lib.hid hP
  have HN:=Lib.hid hN
  have HDD:=Lib.hid hd
  clear hN hgp3 hr3 hk3 hP hd
  go_wp2_with (first|(refine stp ?_))
  clear x3 hlt3 hag
  refine HP.out.mono ?_
  clear HP
  rintro e w4 ⟨rfl,gp',hst,hrows⟩
  obtain ⟨ls,rfl,hls,hbk,hcc⟩:∃ ls:List StepU,l=ls.map StepU.val∧(∀ s∈ls,s.at w3 (feet (resU ub g' J jv' (vs++l) (gp.res++fr)))∧s.tb=g.tb)∧backT S ls (doU S g.rows a)=g.rows∧ls.length=cntU S g.rows a:=by
   rw [HED.out,HEC.out]
   rcases HDD.out with ⟨he,rfl⟩|⟨he,rv,rfl,hsl⟩
   ·exact ⟨[],rfl,zPXO,upd_no he,by rw [if_neg he];rfl⟩
   ·obtain ⟨j,hj,_,hkj,_,_,hback⟩:=upd_back HV.out HF.out he
    have hro:=HGR.out j hj
    rw [hkj] at hro
    have hok:=HV.out.ok _ (List.getElem_mem hj)
    have hc8:=(rightS_by HV.out.right).2.2.2.2.2.2.2.2
    refine ⟨[.turned g.tb rv (rowOf g k) (kfS S 0 a.row)],rfl,fun s hs=>?_,?_,by rw [if_pos he];rfl⟩
    ·rw [List.mem_singleton.1 hs]
     exact ⟨⟨hsl,by rw [hro];exact hok.n64,by rw [hro];have:=hok.len;omega⟩,rfl⟩
    ·show (updMd S (updMd S g.rows k a.row).1 (kfS S 0 a.row) (rowOf g k)).1=g.rows
     rw [hro,hback]
  have hN:=HN.out
  rw [←HED.out] at hN hrows
  have hfin:=does_outU HS.out (HB2.out.trans ((Below.refl _ _).drew.mono HB2.out.size)) hN hst hrows hls hbk hcc (by rw [HED.out];exact HV.out.upd k HF.out)
  have HFIN:=Lib.hid hfin
  have HCC:Hid ((cntU S g.rows a:Int)=if (updMd S g.rows k a.row).2=0 then 1 else 0):=Lib.hid (by rw [HEC.out];split<;>rfl)
  clear hst hrows hls hN hbk hfin hcc HN HGPD HRD HSD HDD HGR
  by_cases he:(updMd S g.rows k a.row).2=0
  ·rw [he]
   exact zoxN
  ·have hc1:(cntU S g.rows a:Int)=0:=by rw [HCC.out,if_neg he]
   rw [hc1] at HFIN
   have HF2:=HFIN
   clear HFIN
   generalize (updMd S g.rows k a.row).2=er at *
   exact z8Yv
 by_cases h2:a.kind=2
 ·skip
  have hU:=udel_any w2 ub g J jv vs (gp.res++fr) hs2 hg2 (keyU S g.rows a.n) zTbe
  rw [HLA.out.del] at hU
  have ed:doU S g.rows a=(delMd S g.rows (keyU S g.rows a.n)).1:=by unfold doU;rw [if_neg h0,if_neg h1,if_pos h2]
  have ee:a.err S g.rows=(delMd S g.rows (keyU S g.rows a.n)).2:=by unfold ActU.err;rw [if_neg h0,if_neg h1,if_pos h2]
  have ec:cntU S g.rows a=if (delMd S g.rows (keyU S g.rows a.n)).2=0 then 1 else 0:=by unfold cntU;rw [if_pos (.inr (.inr h2)),ee]
  have HU:=Lib.hid hU
  have HED:=Lib.hid ed
  have HEC:=Lib.hid ec
  have HGPD:=Lib.hid hgp2
  have HGR:Hid (∀ j,∀ hj:j < g.rows.length,rowOf g (kfS S 0 g.rows[j])=g.rows[j]):=Lib.hid fun j hj=>by
   have:=rowOf_key (g:=g) hg2 (List.getElem_mem hj)
   rwa [HLA.out.kf] at this
  have hkk:(a.kind == 2)=true:=beq_iff_eq.2 h2
  have hk0:(a.kind == 0)=false:=beq_eq_false_iff_ne.2 h0
  have hk1:(a.kind == 1)=false:=beq_eq_false_iff_ne.2 h1
  clear hs2 hg2 hgp2 hr2 hU ed ee ec
  generalize hkey:keyU S g.rows a.n=k at *
  generalize hks:kb k=ks at *
  go_wp2_with fail
  clear x0 x1 x3 hlt2
  refine HU.out.mono ?_
  clear HU
  rintro e w3 ⟨rfl,g',jv',l,hN,hd⟩
  have hgp3:=TabE.next HGPD.out hN.trk
  have hP:=tdel_md w3 _ gp (pl_w hN.trk.sep hgp3) k
  rw [HLP.out.del,HM.out,hks] at hP
  have HP:=Lib.hid hP
  have HN:=Lib.hid hN
  have HDD:=Lib.hid hd
  clear hN hgp3 hP hd
  go_wp2_with fail
  refine HP.out.mono ?_
  clear HP
  rintro e w4 ⟨rfl,gp',hst,hrows⟩
  obtain ⟨ls,rfl,hls,hbk,hcc⟩:∃ ls:List StepU,l=ls.map StepU.val∧(∀ s∈ls,s.at w3 (feet (resU ub g' J jv' (vs++l) (gp.res++fr)))∧s.tb=g.tb)∧backT S ls (doU S g.rows a)=g.rows∧ls.length=cntU S g.rows a:=by
   rw [HED.out,HEC.out]
   rcases HDD.out with ⟨he,rfl⟩|⟨he,rv,rfl,hsl⟩
   ·exact ⟨[],rfl,zPXO,del_no he,by rw [if_neg he];rfl⟩
   ·obtain ⟨j,hj,_,hkj,_,_,hback⟩:=del_back HV.out he
    have hro:=HGR.out j hj
    rw [hkj] at hro
    have hok:=HV.out.ok _ (List.getElem_mem hj)
    have hc8:=(rightS_by HV.out.right).2.2.2.2.2.2.2.2
    refine ⟨[.gone g.tb rv (rowOf g k)],rfl,fun s hs=>?_,?_,by rw [if_pos he];rfl⟩
    ·rw [List.mem_singleton.1 hs]
     exact ⟨⟨hsl,by rw [hro];exact hok.n64,by rw [hro];have:=hok.len;omega⟩,rfl⟩
    ·show (insMd S (delMd S g.rows k).1 (rowOf g k)).1=g.rows
     rw [hro,hback]
  have hN:=HN.out
  rw [←HED.out] at hN hrows
  have hfin:=does_outU HS.out HB2.out hN hst hrows hls hbk hcc (by rw [HED.out];exact HV.out.del k)
  have HFIN:=Lib.hid hfin
  have HCC:Hid ((cntU S g.rows a:Int)=if (delMd S g.rows k).2=0 then 1 else 0):=Lib.hid (by rw [HEC.out];split<;>rfl)
  clear hst hrows hls hN hbk hfin hcc HN HGPD HDD HGR
  by_cases he:(delMd S g.rows k).2=0
  ·rw [he]
   exact zoxN
  ·have hc1:(cntU S g.rows a:Int)=0:=by rw [HCC.out,if_neg he]
   rw [hc1] at HFIN
   have HF2:=HFIN
   clear HFIN
   generalize (delMd S g.rows k).2=er at *
   exact z8Yv
 ·skip
  have hLE:=tlen_any w2 _ gp hgp2 (pl_w hs2 hgp2).sep
  have hll:gp.L.length=g.rows.length:=by rw [←TabG.rows_len,HM.out]
  rw [hll] at hLE
  have hU:=uclear_any w2 ub g J jv vs (gp.res++fr) hs2 hg2 (by
   have:=HV.out
   exact ⟨hg2.st.right,HLA.out.kf▸(HLA.out.len▸this.tab),fun r hr=>HLA.out.rowOK (this.ok r hr),by rw [HLA.out.limit];exact this.lim⟩) zTbe
  have ed:doU S g.rows a=[]:=by unfold doU;rw [if_neg h0,if_neg h1,if_neg h2]
  have ec:cntU S g.rows a=g.rows.length:=by unfold cntU;rw [if_neg (by rintro (h|h|h)<;>contradiction)]
  have HU:=Lib.hid hU
  have HLE:=Lib.hid hLE
  have HED:=Lib.hid ed
  have HEC:=Lib.hid ec
  have HGPD:=Lib.hid hgp2
  have hk0:(a.kind == 0)=false:=beq_eq_false_iff_ne.2 h0
  have hk1:(a.kind == 1)=false:=beq_eq_false_iff_ne.2 h1
  have hk2:(a.kind == 2)=false:=beq_eq_false_iff_ne.2 h2
  clear hs2 hg2 hgp2 hr2 hU hLE hll ed ec
  obtain ⟨N,hN0⟩:∃ N,g.rows.length=N:=⟨_,rfl⟩
  rw [hN0] at HLE
  have HN0:=Lib.hid hN0
  clear hN0
  go_wp2_with fail
  clear x0 x1 x3 hlt2
  refine HLE.out.mono ?_
  clear HLE
  rintro e w9 ⟨rfl,rfl⟩
  go_wp2_with fail
  refine HU.out.mono ?_
  clear HU
  rintro e w3 ⟨rfl,lv,rws,g',jv',ls,hN,hls,hbk,hcc,hvv,_⟩
  rw [List.drop_length] at hN hbk
  have hgp3:=TabE.next HGPD.out hN.trk
  have hP:=tload_md w3 _ gp (pl_w hN.trk.sep hgp3) (offF (feet (resU ub g' J jv' (vs++ls.map StepU.val) (gp.res++fr)))) (fun k hk h=>hk (feet_perm (pl_perm ub g' gp J jv' (vs++ls.map StepU.val) fr).symm k (by rw [feet_append];simp [h]))) (.slice none 0 0) [] ⟨Sl.zero _ _ 1,zPXO⟩ zPXO zPXO
  have HP:=Lib.hid hP
  have hbk2:backT S ls (doU S g.rows a)=g.rows:=by
   rw [HED.out]
   have h3:∀ (ls:List StepU) m,backT g.S ls m=backT S ls m:=fun ls=>by
    induction ls with
    | nil=>intro m;rfl
    | cons s t ih=>intro m;show s.un g.S (backT g.S t m)=s.un S (backT S t m);rw [ih,HLA.out.un2]
   rw [←h3];exact hbk
  have hN2:=hN
  rw [←HED.out] at hN2
  have HFN:=Lib.hid (fun (w4:World) (gp':TabG) (hst:StepT w3 w4 (offF (feet (resU ub g' J jv' (vs++ls.map StepU.val) (gp.res++fr)))) gp gp') (hr:gp'.rows=doU S g.rows a) =>
   does_outU (a:=a) (S:=S) HS.out HB2.out hN2 hst hr hls hbk2 (by rw [HEC.out];exact hcc) (by rw [HED.out];exact RowsV.nil HV.out.right))
  clear hN hls hbk hcc hvv hgp3 hP hbk2 hN2
  go_wp2_with fail
  refine HP.out.mono ?_
  clear HP
  rintro e w4 ⟨rfl,gp',hst,hrows⟩
  have hfin:=HFN.out w4 gp' hst (by rw [hrows,HED.out];rfl)
  have hc1:(cntU S g.rows a:Int)=(N:Int):=by rw [HEC.out,HN0.out]
  rw [hc1] at hfin
  have HFIN:=Lib.hid hfin
  clear hst hrows hfin HFN
  go_wp2
  go_ret2
  exact HFIN.out
end Go.Proofs.YteggkjdlajgenaaGreatDoor
namespace Go.Proofs.YteggkjdlajgenaaGreatDoor
open Go.RowKit Go.Afx
def actCU1 (a:ActU):List Value:=[.int .i64 a.kind,.int .i64 a.n,.bool a.other,a.rv]
def actCU (l:List ActU):List Value:=(l.map actCU1).flatten
theorem flatU_length (l:List ActU):(actCU l).length=l.length*4:=by
 have hlen:∀ c∈l.map actCU1,c.length=4:=by
  exact zRFb
 unfold actCU
 exact z6Ba
theorem flatU_at (l:List ActU) (k r:Nat) (hk:k < l.length) (hr:r < 4):(actCU l)[k*4+r]?=(actCU1 l[k])[r]?:=by
 have hlen:∀ c∈l.map actCU1,c.length=4:=by
  exact zRFb
 unfold actCU
 exact zAOB
structure ActsU (w:World) (B:Nat→Prop) (v:Value) (l:List ActU):Prop where
 sl:Sl w B 4 v l.length (actCU l)
 row:∀ a∈l,Sl w B 3 a.rv a.row.length (rowCells a.row)
 n64:∀ a∈l,fit64 a.kind∧fit64 a.n∧∀ v∈a.row,fit64 v.n
theorem ActsU.below {w w':World} {B:Nat→Prop} {v:Value} {l:List ActU} (h:ActsU w B v l) (hb:Below w.heap.size w w'):ActsU w' B v l :=
 ⟨h.sl.below hb,fun a ha=>(h.row a ha).below hb,h.n64⟩
theorem ActsU.forms {w:World} {B:Nat→Prop} {v:Value} {l:List ActU} (h:ActsU w B v l):∀ a∈l,∃ p n c,a.rv=.slice p n c:=fun a ha=>by
 obtain ⟨p,c,h1,_⟩:=(h.row a ha).form
 exact ⟨p,_,c,h1⟩
theorem ActsU.at {w:World} {B:Nat→Prop} {v:Value} {l:List ActU} (h:ActsU w B v l) {k:Nat} (hk:k < l.length) :
 ∃ g off cap,v=.slice (some ⟨g,off,none⟩) l.length cap∧g < w.heap.size∧w.cell? ⟨g,off+k*4,none⟩=some (.int .i64 l[k].kind)∧w.cell? ⟨g,off+k*4+1,none⟩=some (.int .i64 l[k].n)∧w.cell? ⟨g,off+k*4+2,none⟩=some (.bool l[k].other) ∧
  w.cell? ⟨g,off+k*4+3,none⟩=some l[k].rv:=by
 obtain ⟨g,off,cap,hv,_,_,_,hglt,hc⟩:=h.sl.place zTbe
 have hL:=flatU_length l
 have get:∀ r,r < 4→w.cell? ⟨g,off+(k*4+r),none⟩=(actCU1 l[k])[r]?:=fun r hr=>by
  rw [hc _ (by rw [hL];omega)];exact flatU_at l k r hk hr
 exact ⟨g,off,cap,hv,hglt,get 0 zTbe,get 1 zTbe,get 2 zTbe,get 3 zTbe⟩
theorem gBU_len {l:List AV} (h:greatB l=false):l.length≤1000:=by
 unfold greatB at h
 rw [Bool.or_eq_false_iff,decide_eq_false_iff_not] at h
 omega
structure FineU (l:List ActU):Prop where
 len:l.length≤60
 row:∀ a∈l,a.row.length≤1000
theorem great10_any (w:World) (B:Nat→Prop) (v:Value) (l:List ActU) (h:ActsU w B v l) :
 Calls Tryz.prog 32 #[v] w fun e w'=>∃ b,e=.returned (.bool b)∧Below w.heap.size w w'∧(b=false→FineU l):=by
 obtain ⟨p,cap,rfl,hc1,hc2⟩:=h.sl.form
 have HS:=Lib.hid h
 have HFO:=Lib.hid h.forms
 have HGR:=Lib.hid (fun W (hb:Below w.heap.size w W) a (ha:a∈l)=>great_row W B a.rv a.row ((h.row a ha).below hb))
 obtain ⟨n,hnn⟩:=zwjg
 rw [hnn] at hc1 ⊢
 have HN:=Lib.hid hnn
 clear h hnn
 go_enter Tryz.func32,Tryz.ntmps32
 by_cases hl:60 < n
 ·go_wp2
  go_ret
  exact ⟨true,rfl,Below.refl _ _,zPXO⟩
 ·go_wp2
  go_loopw [3] (fun i wr=>∃ k:Nat,i=.int .i64 k∧k≤n∧Hid (∀ a∈l.take k,a.row.length≤1000)∧Below w.heap.size w wr) (fun i _=>n - (intOf i).toNat)
  case atStart=>exact ⟨0,rfl,Nat.zero_le _,Lib.hid zPXO,Below.refl _ _⟩
  case round =>
   obtain ⟨k,rfl,hk,hkt,hbel⟩:=hrel
   have HBL:=Lib.hid hbel
   by_cases hkx:k < n
   ·have hkl:k < l.length:=by rw [HN.out];exact hkx
    obtain ⟨g,off,cap',hv,hg,e0,e1,e2,e3⟩:=(HS.out.below hbel).at hkl
    rw [HN.out] at hv
    cases hv
    have hmk:=zKzh
    have hx1:l.take (k+1)=l.take k++[l[k]]:=by rw [List.take_succ_eq_append_getElem hkl]
    obtain ⟨pr,nr,cr,hrv⟩:=HFO.out _ hmk
    have HR1:=Lib.hid (HGR.out wr hbel _ hmk)
    generalize l[k]=x at *
    rw [hrv] at e3 HR1
    have HX:=Lib.hid hx1
    obtain ⟨g1,hg1⟩:∃ g1,greatB x.row=g1:=⟨_,rfl⟩
    rw [hg1] at HR1
    have HQ1:=Lib.hid hg1
    clear hbel hkl hmk hx1 hrv hg1 e0 e1 e2
    go_wp2_with fail
    refine HR1.out.mono ?_
    clear HR1
    rintro e w2 ⟨rfl,hb2⟩
    have HB2:=Lib.hid (HBL.out.trans (hb2.mono HBL.out.size))
    clear hb2
    cases g1 with
    | true =>
     go_wp2
     go_ret
     exact ⟨true,rfl,HB2.out,zPXO⟩
    | false =>
     go_wp2
     go_roundw
     case rel =>
      refine ⟨k+1,z3KH,zTbe,Lib.hid fun a ha=>?_,HB2.out⟩
      rw [HX.out] at ha
      rcases List.mem_append.1 ha with h1|h1
      ·exact hkt.out a h1
      ·rw [List.mem_singleton.1 h1];exact gBU_len HQ1.out
     case measure=>(simp [intOf])<;>omega
   ·have hke:k=n:=by omega
    have HF:Hid (FineU l):=Lib.hid ⟨z9se,fun a ha=>hkt.out a (by rw [hke,←HN.out,List.take_length];exact ha)⟩
    clear hbel hkt
    go_wp2
    go_ret
    exact ⟨false,rfl,HBL.out,fun _=>HF.out⟩
theorem ocActU:Tryz.prog.cellsOf 79=4:=zyVB
theorem ocRowU:Tryz.prog.cellsOf 37=1:=zyVB
theorem open_actsU {H:Type} {enc:TypeId × Value→H} {w:World} {v:Value} {d:DataW H} {ps:List MemPlace} (h:DataW.Trod enc Tryz.prog w 0 (fun _=>true) true 70 v d ps) (hv:v.cells.toList=[v]) :
 ∃ l:List ActU,ActsU w (fun _=>True) v l:=by
 obtain ⟨fuel,hf⟩:=h
 rw [hv] at hf
 obtain ⟨es,h1,h2⟩:=open_sl Tryz.underlying70 ocActU zTbe hf
  (fun c=>∃ a:ActU,c=actCU1 a∧(Sl w (fun _=>True) 3 a.rv a.row.length (rowCells a.row)∧fit64 a.kind∧fit64 a.n∧∀ v∈a.row,fit64 v.n))
  (fun c ⟨a,hc,hr,_⟩=>by subst hc;exact (((Ones.nil.cons (sl_one hr)).cons rfl).cons rfl).cons rfl)
  (fun f c y hl hy=>by
   obtain ⟨n,hfs⟩:=open_fields Tryz.underlying79 hy
   obtain ⟨c0,c1,c2,c3,rfl⟩:∃ c0 c1 c2 c3,c=[c0,c1,c2,c3]:=by
    match c,hl with
    | [a,b,c,d],_=>exact ⟨a,b,c,d,rfl⟩
   obtain ⟨y0,h0⟩:=hfs 0 _ rfl
   obtain ⟨y1,h1⟩:=hfs 1 _ rfl
   obtain ⟨y2,h2⟩:=hfs 2 _ rfl
   obtain ⟨y3,h3⟩:=hfs 3 _ rfl
   simp only [ocInt,ocBool,ocRowU,List.drop_zero,List.drop_succ_cons,List.take_succ_cons,List.take_zero] at h0 h1 h2 h3
   obtain ⟨k,e0,_,w0⟩:=DataW.trod_int Tryz.underlying3 h0
   obtain ⟨m,e1,_,w1⟩:=DataW.trod_int Tryz.underlying3 h1
   obtain ⟨b,e2,_⟩:=DataW.trod_bool Tryz.underlying4 h2
   obtain ⟨l,hl3,hr3⟩:=open_row_at h3
   simp only [List.cons.injEq,and_true] at e0 e1 e2
   subst e0 e1 e2
   exact ⟨⟨k,m,b,c3,l⟩,rfl,hl3,wf_fit64 w0,wf_fit64 w1,fun a ha=>(hr3 a ha).2.1⟩)
 obtain ⟨acts,rfl,h4⟩:=choose_list es (fun c hc=>(h1 c hc).2)
 rw [List.length_map] at h2
 exact ⟨acts,h2,fun a ha=>(h4 a ha).1,fun a ha=>(h4 a ha).2⟩
end Go.Proofs.YteggkjdlajgenaaGreatDoor
namespace Go.Proofs.YteggkjdlajgenaaGreatDoor
open Go.RowKit Go.Afx
section
variable {w0 w w' : World} {lv : Value} {ua ub : Nat} {J : Option Nat} {fr : List Res} {st : List (List AV) × List (List AV)} {steps : List StepU} {ta tb : Nat} {ga gb gp : TabG} {jv : Value}
def RSp (lv:Value) (ua ub:Nat) (ga gb gp:TabG) (J:Option Nat) (jv:Value) (vs:List Value) (fr:List Res):List Res :=
 resU ua ga J jv vs (gp.res++(Res.own 80 1 lv 2 [ptrV ua,ptrV ub]::rU ub gb.tb J::(gb.res++fr)))
def RSq (lv:Value) (ua ub:Nat) (ga gb gp:TabG) (J:Option Nat) (jv:Value) (vs:List Value) (fr:List Res):List Res :=
 resU ub gb J jv vs (gp.res++(Res.own 80 1 lv 2 [ptrV ua,ptrV ub]::rU ua ga.tb J::(ga.res++fr)))
theorem RS_p (lv:Value) (ua ub:Nat) (ga gb gp:TabG) (J:Option Nat) (jv:Value) (steps:List StepU) (fr:List Res):(RS lv ua ub ga gb J jv steps (gp.res++fr)).Perm (RSp lv ua ub ga gb gp J jv (steps.map StepU.val) fr) :=
 perm_of_cnt fun a=>by unfold RS RSp resU;simp only [cnt_append,cnt_cons];omega
theorem RS_q (lv:Value) (ua ub:Nat) (ga gb gp:TabG) (J:Option Nat) (jv:Value) (steps:List StepU) (fr:List Res):(RS lv ua ub ga gb J jv steps (gp.res++fr)).Perm (RSq lv ua ub ga gb gp J jv (steps.map StepU.val) fr) :=
 perm_of_cnt fun a=>by unfold RS RSq resU;simp only [cnt_append,cnt_cons];omega
theorem Sl.perm {x y:List Res} {sz n:Nat} {v:Value} {cs:List Value} (h:Sl w (offF (feet x)) sz v n cs) (hp:x.Perm y):Sl w (offF (feet y)) sz v n cs :=
 h.mono (Nat.le_refl _) (fun _ _ _=>rfl) (fun k hk _ h1=>hk (feet_perm hp.symm k h1))
structure LawD (w0 w w':World) (lv:Value) (ua ub:Nat) (J:Option Nat) (fr:List Res) (st':List (List AV) × List (List AV)) (steps ls:List StepU) (ta tb:Nat) (ga gb gp ga' gb' gp':TabG) (jv jv':Value) (m:List (List AV)):Prop where
 trk:Trk w (feet (RS lv ua ub ga gb J jv steps (gp.res++fr))) w' (RS lv ua ub ga' gb' J jv' (steps++ls) (gp'.res++fr))
 law:LawG w0 w' lv ua ub J (gp'.res++fr) st' (steps++ls) ta tb ga' gb' jv'
 p:TabE w' (feet (RS lv ua ub ga' gb' J jv' (steps++ls) (gp'.res++fr))) gp'
 rows:gp'.rows=m
 ptb:gp'.tb=gp.tb
 psch:gp'.S=gp.S
theorem law_doesA (h:LawG w0 w lv ua ub J (gp.res++fr) st steps ta tb ga gb jv) (hp:TabE w (feet (RS lv ua ub ga gb J jv steps (gp.res++fr))) gp) (hlp:Alike gp.S exUt) (hm:gp.rows=st.1)
 (a:ActU) (hr:Sl w (fun k=>k < w0.heap.size) 3 a.rv a.row.length (rowCells a.row)) (hf:∀ x∈a.row,fit64 x.n) (hrl:a.row.length≤1000) (hn:fit64 a.n) (hvl:steps.length≤80000) :
 Calls Tryz.prog 36 #[ptrV ua,ptrV gp.tb,a.agg] w fun e w'=>e=.returned (.tuple #[.bool true,.int .i64 (cntU exUt st.1 a:Int)]) ∧
  ∃ ga' gp' jv' ls,LawD w0 w w' lv ua ub J fr (doU exUt st.1 a,st.2) steps ls ta tb ga gb gp ga' gb gp' jv jv' (doU exUt st.1 a)∧backT exUt ls (doU exUt st.1 a)=st.1∧ls.length=cntU exUt st.1 a∧∀ s∈ls,s.tb=ta:=by
 have hpm:=RS_p lv ua ub ga gb gp J jv steps fr
 have hrow:=zDe7
 have hva:RowsV exUt ga.rows:=by rw [h.ra];exact h.va
 have h1:=does10_any w ua ga gp J jv (steps.map StepU.val) _ (h.trk.sep.perm hpm) (h.a.perm hpm) (hp.perm hpm) exUt h.sa hlp (hm.trans h.ra.symm) hva a (Sl.perm hrow hpm) hf hrl hn zmA9
 refine h1.mono ?_
 rintro e w' ⟨rfl,g',jv',gp',ls,hT,hE,hEp,⟨hr1,hr2⟩,⟨htb,hS,hptb,hpS⟩,hls,hbk,hcc,hvv⟩
 rw [h.ra] at hr1 hr2 hbk hcc hvv ⊢
 have hmap:steps.map StepU.val++ls.map StepU.val=(steps++ls).map StepU.val:=List.map_append.symm
 rw [hmap] at hT hE hEp hls
 have hpm':(RS lv ua ub g' gb J jv' (steps++ls) (gp'.res++fr)).Perm _:=RS_p lv ua ub g' gb gp' J jv' (steps++ls) fr
 have hT2:Trk w (feet (RS lv ua ub ga gb J jv steps (gp.res++fr))) w' (RS lv ua ub g' gb J jv' (steps++ls) (gp'.res++fr)):=(hT.from hpm.symm).perm hpm'.symm
 refine ⟨rfl,g',gp',jv',ls,⟨hT2,⟨Trk.after h.trk hT2,hE.perm hpm'.symm,h.b.next hT2,hr1,h.rb,htb.trans h.pa,h.pb,by rw [hS];exact h.sa,h.sb,fun s hs=>?_,hvv,h.vb⟩,hEp.perm hpm'.symm,hr2,hptb,hpS⟩,hbk,hcc,fun s hs=>(hls s hs).2.trans h.pa⟩
 rcases List.mem_append.1 hs with h2|h2
 ·exact ⟨StepU.at_next (h.steps_at s h2).1 hT2,(h.steps_at s h2).2⟩
 ·exact ⟨StepU.at_perm (hls s h2).1 hpm'.symm,.inl ((hls s h2).2.trans h.pa)⟩
theorem law_doesB (h:LawG w0 w lv ua ub J (gp.res++fr) st steps ta tb ga gb jv) (hp:TabE w (feet (RS lv ua ub ga gb J jv steps (gp.res++fr))) gp) (hlp:Alike gp.S exUu) (hm:gp.rows=st.2)
 (a:ActU) (hr:Sl w (fun k=>k < w0.heap.size) 3 a.rv a.row.length (rowCells a.row)) (hf:∀ x∈a.row,fit64 x.n) (hrl:a.row.length≤1000) (hn:fit64 a.n) (hvl:steps.length≤80000) :
 Calls Tryz.prog 36 #[ptrV ub,ptrV gp.tb,a.agg] w fun e w'=>e=.returned (.tuple #[.bool true,.int .i64 (cntU exUu st.2 a:Int)]) ∧
  ∃ gb' gp' jv' ls,LawD w0 w w' lv ua ub J fr (st.1,doU exUu st.2 a) steps ls ta tb ga gb gp ga gb' gp' jv jv' (doU exUu st.2 a)∧backT exUu ls (doU exUu st.2 a)=st.2∧ls.length=cntU exUu st.2 a∧∀ s∈ls,s.tb=tb:=by
 have hpm:=RS_q lv ua ub ga gb gp J jv steps fr
 have hrow:=zDe7
 have hva:RowsV exUu gb.rows:=by rw [h.rb];exact h.vb
 have h1:=does10_any w ub gb gp J jv (steps.map StepU.val) _ (h.trk.sep.perm hpm) (h.b.perm hpm) (hp.perm hpm) exUu h.sb hlp (hm.trans h.rb.symm) hva a (Sl.perm hrow hpm) hf hrl hn zmA9
 refine h1.mono ?_
 rintro e w' ⟨rfl,g',jv',gp',ls,hT,hE,hEp,⟨hr1,hr2⟩,⟨htb,hS,hptb,hpS⟩,hls,hbk,hcc,hvv⟩
 rw [h.rb] at hr1 hr2 hbk hcc hvv ⊢
 have hmap:steps.map StepU.val++ls.map StepU.val=(steps++ls).map StepU.val:=List.map_append.symm
 rw [hmap] at hT hE hEp hls
 have hpm':(RS lv ua ub ga g' J jv' (steps++ls) (gp'.res++fr)).Perm _:=RS_q lv ua ub ga g' gp' J jv' (steps++ls) fr
 have hT2:Trk w (feet (RS lv ua ub ga gb J jv steps (gp.res++fr))) w' (RS lv ua ub ga g' J jv' (steps++ls) (gp'.res++fr)):=(hT.from hpm.symm).perm hpm'.symm
 refine ⟨rfl,g',gp',jv',ls,⟨hT2,⟨Trk.after h.trk hT2,h.a.next hT2,hE.perm hpm'.symm,h.ra,hr1,h.pa,htb.trans h.pb,h.sa,by rw [hS];exact h.sb,fun s hs=>?_,h.va,hvv⟩,hEp.perm hpm'.symm,hr2,hptb,hpS⟩,hbk,hcc,fun s hs=>(hls s hs).2.trans h.pb⟩
 rcases List.mem_append.1 hs with h2|h2
 ·exact ⟨StepU.at_next (h.steps_at s h2).1 hT2,(h.steps_at s h2).2⟩
 ·exact ⟨StepU.at_perm (hls s h2).1 hpm'.symm,.inr ((hls s h2).2.trans h.pb)⟩
def LawP (w0 w:World) (lv:Value) (ua ub:Nat) (J:Option Nat) (fr:List Res) (st:List (List AV) × List (List AV)) (steps:List StepU) (ta tb tp:Nat) (m:List (List AV)):Prop :=
 ∃ gp ga gb jv,LawG w0 w lv ua ub J (gp.res++fr) st steps ta tb ga gb jv∧TabE w (feet (RS lv ua ub ga gb J jv steps (gp.res++fr))) gp∧Alike gp.S exUt∧gp.rows=m∧gp.tb=tp
variable {tp : Nat} {m : List (List AV)}
theorem LawP.below (h:LawP w0 w lv ua ub J fr st steps ta tb tp m) (hb:Below w.heap.size w w'):LawP w0 w' lv ua ub J fr st steps ta tb tp m:=by
 obtain ⟨gp,ga,gb,jv,h,hp,hl,hr,ht⟩:=h
 exact ⟨gp,ga,gb,jv,h.below hb,TabE.next hp (Trk.of_below h.trk.sep hb),hl,hr,ht⟩
theorem LawP.toSt (h:LawP w0 w lv ua ub J fr st steps ta tb tp m):∃ fr',LawSt w0 w lv ua ub J fr' st steps ta tb:=by
 obtain ⟨gp,ga,gb,jv,h,_⟩:=h
 exact ⟨_,ga,gb,jv,h⟩
theorem LawP.does (h:LawP w0 w lv ua ub J fr st steps ta tb tp st.1) (a:ActU) (hr:Sl w (fun k=>k < w0.heap.size) 3 a.rv a.row.length (rowCells a.row)) (hf:∀ x∈a.row,fit64 x.n) (hrl:a.row.length≤1000) (hn:fit64 a.n) (hvl:steps.length≤80000) :
 Calls Tryz.prog 36 #[ptrV ua,ptrV tp,a.agg] w fun e w'=>e=.returned (.tuple #[.bool true,.int .i64 (cntU exUt st.1 a:Int)]) ∧
  ∃ ls,LawP w0 w' lv ua ub J fr (doU exUt st.1 a,st.2) (steps++ls) ta tb tp (doU exUt st.1 a)∧backT exUt ls (doU exUt st.1 a)=st.1∧ls.length=cntU exUt st.1 a∧(∀ s∈ls,s.tb=ta):=by
 obtain ⟨gp,ga,gb,jv,h,hp,hl,hro,rfl⟩:=h
 refine (law_doesA h hp hl hro a hr hf hrl hn hvl).mono ?_
 rintro e w' ⟨rfl,ga',gp',jv',ls,hd,hbk,hcc,htb⟩
 exact ⟨rfl,ls,⟨gp',ga',gb,jv',hd.law,hd.p,by rw [hd.psch];exact hl,hd.rows,hd.ptb⟩,hbk,hcc,htb⟩
theorem law_bytesA (h:LawSt w0 w lv ua ub J fr st steps ta tb):Calls Tryz.prog 47 #[ptrV ta] w fun e w'=>e=.returned (.string (bs (rowsB2 st.1)))∧Below w.heap.size w w':=by
 obtain ⟨ga,gb,jv,h⟩:=h
 have h1:=tbytes_any w _ ga h.a h.trk.sep.left
 rw [h.pa,h.ra] at h1
 exact h1
theorem law_lenA (h:LawSt w0 w lv ua ub J fr st steps ta tb):Calls Tryz.prog 25 #[ptrV ta] w fun e w'=>e=.returned (.int .i64 (st.1.length:Int))∧w'=w:=by
 obtain ⟨ga,gb,jv,h⟩:=h
 have h1:=tlen_any w _ ga h.a h.trk.sep.left
 rw [h.pa,←TabG.rows_len,h.ra] at h1
 exact h1
end
end Go.Proofs.YteggkjdlajgenaaGreatDoor
namespace Go.Proofs.YteggkjdlajgenaaGreatDoor
open Go.RowKit Go.Afx
theorem backP_append (Sa Sb:SchV) (ta:Nat) (x y:List StepU) (st:List (List AV) × List (List AV)):backP Sa Sb ta (x++y) st=backP Sa Sb ta x (backP Sa Sb ta y st):=by unfold backP;rw [List.foldr_append]
theorem backP_A (Sa Sb:SchV) (ta:Nat):∀ (ls:List StepU) (m x:List (List AV)),(∀ s∈ls,s.tb=ta)→backP Sa Sb ta ls (m,x)=(backT Sa ls m,x)
 | [],_,_,_=>rfl
 | s::t,m,x,h=>by
  show unP Sa Sb ta s (backP Sa Sb ta t (m,x))=(s.un Sa (backT Sa t m),x)
  rw [backP_A Sa Sb ta t m x fun y hy=>h y (List.mem_cons_of_mem _ hy)]
  unfold unP
  rw [if_pos (h s zPXO)]
theorem backP_B (Sa Sb:SchV) (ta:Nat):∀ (ls:List StepU) (m x:List (List AV)),(∀ s∈ls,s.tb≠ta)→backP Sa Sb ta ls (x,m)=(x,backT Sb ls m)
 | [],_,_,_=>rfl
 | s::t,m,x,h=>by
  show unP Sa Sb ta s (backP Sa Sb ta t (x,m))=(x,s.un Sb (backT Sb t m))
  rw [backP_B Sa Sb ta t m x fun y hy=>h y (List.mem_cons_of_mem _ hy)]
  unfold unP
  rw [if_neg (h s zPXO)]
theorem LawSt.plain {w0 w:World} {lv:Value} {ua ub:Nat} {J:Option Nat} {fr:List Res} {st:List (List AV) × List (List AV)} {steps:List StepU} {ta tb:Nat} (h:LawSt w0 w lv ua ub J fr st steps ta tb) (hm:Mx w0) (hmw:Mx w) (R:Nat→Prop) (a b c d:Value) (hs:SchAt w R (exU ⟨#[116]⟩ 1 6 1 a b c d)) :
 Calls Tryz.prog 34 #[(exU ⟨#[116]⟩ 1 6 1 a b c d).agg] w fun e w'=>∃ tp,e=.returned (.tuple #[.pointer (some ⟨tp,0,none⟩),.int .i64 0])∧LawP w0 w' lv ua ub J fr st steps ta tb tp []:=by
 obtain ⟨ga,gb,jv,h⟩:=h
 refine (tnew_env w0 w hm _ h.trk hmw R _ a b c d hs (exU_right a b c d).1).mono ?_
 rintro e w' ⟨gp,rfl,hal,hr,hTn,hT,hE⟩
 have hp:(gp.res++RS lv ua ub ga gb J jv steps fr).Perm (RS lv ua ub ga gb J jv steps (gp.res++fr)):=perm_of_cnt fun a=>zk1V
 have hst:=(Trk.add (Trk.start h.trk.sep) hTn).perm hp
 exact ⟨gp.tb,rfl,gp,ga,gb,jv,⟨hT.perm hp,h.a.next hst,h.b.next hst,h.ra,h.rb,h.pa,h.pb,h.sa,h.sb,fun s hs=>⟨StepU.at_next (h.steps_at s hs).1 hst,(h.steps_at s hs).2⟩,h.va,h.vb⟩,hE.perm hp,hal.then (exU_like a b c d).1,hr,rfl⟩
theorem LawSt.v {w0 w:World} {lv:Value} {ua ub:Nat} {J:Option Nat} {fr:List Res} {st:List (List AV) × List (List AV)} {steps:List StepU} {ta tb:Nat} (h:LawSt w0 w lv ua ub J fr st steps ta tb):RowsV exUt st.1∧RowsV exUu st.2:=by
 obtain ⟨ga,gb,jv,h⟩:=h
 exact ⟨h.va,h.vb⟩
theorem cntU_le {S:SchV} {m:List (List AV)} (h:RowsV S m) (a:ActU):cntU S m a≤1000:=by
 have h1:=h.lim
 have h2:=(rightS_by h.right).2.2.2.2.2.1
 unfold cntU
 split
 ·split<;>omega
 ·omega
theorem jour_new (w w1:World) (hw1:w.alloc (.cells #[.slice none 0 0] 61)=w1) {w0:World} (hb0:Below w0.heap.size w0 w):Trk w0 [] w1 (rJ (some w.heap.size) (.slice none 0 0) []++[]):=by
 have hb1:=zppX
 have hk1:Blk w1 w.heap.size 61 [.slice none 0 0]:=hw1▸Blk.new w _ _
 rw [List.append_nil,rJ_some]
 have h0:Trk w0 [] w []:=⟨⟨zPXO,z07k⟩,Only.of_none hb0,z07k⟩
 have h2:Trk w0 [] w [Res.own 139 1 (.slice none 0 0) 0 []]:=Trk.new h0 (Own.nil w _ _) znD9 znD9 (Below.refl _ _)
 exact Trk.new h2 hk1 zg6m zg6m hb1
end Go.Proofs.YteggkjdlajgenaaGreatDoor
