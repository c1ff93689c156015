/- Contracts of the functions that the statement reaches, one behind the other. No condition beyond each theorem's own. -/
import Derived.Test.YtnpplhkpnbonaaaGreatTV7
set_option linter.unusedSimpArgs false
set_option linter.unusedVariables false
set_option maxRecDepth 100000
set_option maxHeartbeats 4000000
namespace Go.Proofs.YtnpplhkpnbonaaaGreat
open Go.RowKit Go.Afx
theorem EX.at_move {w w':World} {B B':Nat→Prop} (hs:w.heap.size≤w'.heap.size) (hb:∀ q,B q→q < w.heap.size→w'.heap[q]?=w.heap[q]?) (hB:∀ q,B q→q < w.heap.size→B' q):∀ {x:EX},x.at w B→x.at w' B'
 | .leaf _,_=>trivial
 | .one _ _ _,h=>⟨h.1.mono hs hb hB,EX.at_move hs hb hB h.2⟩
 | .two _ _ _ _,h=>⟨h.1.mono hs hb hB,EX.at_move hs hb hB h.2.1,EX.at_move hs hb hB h.2.2⟩
theorem exC_snoc (xs:List EX) (x:EX):exC (xs++[x])=exC xs++x.cells:=by simp [exC]
structure EsS (w wr:World) (ve:Value) (xs:List EX):Prop where
 own:Own wr 27 6 ve xs.length (exC xs)
 lo:∀ q,ve.ownBlock=some q→w.heap.size≤q
 trees:∀ x∈xs,x.at wr (fun q=>w.heap.size≤q∧ve.ownBlock≠some q)
 oks:∀ x∈xs,x.ok
 bel:Below w.heap.size w wr
theorem EsS.below {w wr wr':World} {ve:Value} {xs:List EX} (h:EsS w wr ve xs) (hb:Below wr.heap.size wr wr'):EsS w wr' ve xs :=
 ⟨h.own.below hb,h.lo,fun x hx=>EX.at_below hb x (h.trees x hx),h.oks,h.bel.trans (hb.mono h.bel.size)⟩
theorem EsS.push {w wr wm wA:World} {ve v1:Value} {xs:List EX} {x:EX} (h:EsS w wr ve xs) (hb:Below wr.heap.size wr wm) (hx:x.at wm (fun q=>w.heap.size≤q∧ve.ownBlock≠some q)) (hok:x.ok)
 (g1:Own wA 27 6 v1 (xs.length+1) (exC xs++x.cells)) (g2:Only (fun q=>ve.ownBlock=some q) wm wA) (g3:v1.ownBlock=ve.ownBlock∨v1.ownBlock=some wm.heap.size):EsS w wA v1 (xs++[x]):=by
 have hm:=h.below hb
 have hsz:=hm.bel.size
 have hmv:∀ y:EX,y.at wm (fun q=>w.heap.size≤q∧ve.ownBlock≠some q)→y.at wA (fun q=>w.heap.size≤q∧v1.ownBlock≠some q):=fun y hy =>
  EX.at_move g2.size (fun q hq hl=>g2.block q hl hq.2) (fun q hq hl=>⟨hq.1,fun e=>by
   rcases g3 with g3|g3
   ·exact hq.2 (g3.symm.trans e)
   ·have e2:wm.heap.size=q:=Option.some.inj (g3.symm.trans e)
    omega⟩) hy
 refine ⟨?_,fun q hq=>?_,fun y hy=>?_,fun y hy=>?_,hm.bel.trans (g2.below hsz (fun q hq=>hm.lo q hq))⟩
 ·rw [exC_snoc,List.length_append]
  exact g1
 ·rcases g3 with g3|g3
  ·exact hm.lo q (g3.symm.trans hq)
  ·have e:wm.heap.size=q:=Option.some.inj (g3.symm.trans hq)
   omega
 ·rcases List.mem_append.1 hy with hy|hy
  ·exact hmv y (hm.trees y hy)
  ·rw [List.mem_singleton.1 hy]
   exact hmv x hx
 ·rcases List.mem_append.1 hy with hy|hy
  ·exact hm.oks y hy
  ·rw [List.mem_singleton.1 hy]
   exact hok
theorem one_ex (w:World) (o n:Int) (s nm sr:ByteArray) (p:Option Addr) (k c:Nat):Sl (w.alloc (.cells #[.int .i64 o,.int .i64 n,.string s,.string nm,.string sr,.slice p k c] 27)) (fun _=>True) 6 (.slice (some ⟨w.heap.size,0,none⟩) 1 1) 1 [.int .i64 o,.int .i64 n,.string s,.string nm,.string sr,.slice p k c] :=
 (Own.made w 27 6 [.int .i64 o,.int .i64 n,.string s,.string nm,.string sr,.slice p k c] [] 1 1 rfl ones_six (Nat.le_refl _) (by decide) (Nat.le_refl 6)).sl (fun _ _=>trivial)
theorem eall_law (w:World) (B:Nat→Prop) (v:Value) (l:List ThV) (h0:ThsAt w B v l) (Bt:Nat→Prop) (vt:Value) (ts:List ByteArray) (ht:Sl w Bt 1 vt ts.length (txC ts)) (fuel:Int) :
 Calls Tryz.prog 4 #[v,vt,.int .i64 fuel] w fun e w'=>e=.returned (.bool true)∧Below w.heap.size w w':=by
 have h:=h0.cap
 clear h0
 obtain ⟨p,cap,rfl,hc1,hc2⟩:=h.sl.form
 obtain ⟨pt,ct,rfl,hct1,hct2⟩:=ht.form
 have HG:=Lib.hid (great16_any w _ _ l fuel h)
 have H:=Lib.hid h
 have HT:=Lib.hid ht
 clear h ht
 go_enter Tryz.func4,Tryz.ntmps4
 go_wp2_with fail
 refine HG.out.mono ?_
 clear HG
 rintro e w1 ⟨rfl,hb1⟩
 cases hg:greatThs l fuel with
 | true =>
  clear hg
  have HB:=Lib.hid hb1
  clear hb1
  have HAW:=Lib.hid (awake16_any w1)
  go_wp2_with fail
  refine HAW.out.mono ?_
  rintro e wz ⟨rfl,hbz⟩
  go_wp2_with fail
  go_ret
  exact ⟨rfl,HB.out.trans (hbz.mono HB.out.size)⟩
 | false =>
  by_cases hs:6 < ts.length
  ·skip
   have d1:decide ((6:Int) < ts.length)=true:=decide_eq_true (by omega)
   have HB:=Lib.hid hb1
   clear hb1 hs hg
   have HAW:=Lib.hid (awake16_any w1)
   go_wp2_with fail
   refine HAW.out.mono ?_
   rintro e wz ⟨rfl,hbz⟩
   go_wp2_with fail
   go_ret
   exact ⟨rfl,HB.out.trans (hbz.mono HB.out.size)⟩
  have d1:decide ((6:Int) < ts.length)=false:=decide_eq_false (by omega)
  have hs2:ts.length≤6:=by omega
  obtain ⟨hl12,hf3,hrl⟩:=small16 hg
  have HRL:=Lib.hid hrl
  clear hs hg hrl
  have HAW:=Lib.hid (awake16_any w1)
  go_wp2_with fail
  refine HAW.out.mono ?_
  rintro e wz ⟨rfl,hbz⟩
  have hb2:=hb1.trans (hbz.mono hb1.size)
  have HB2:=Lib.hid hb2
  clear hb1 hbz hb2 HAW
  go_wp2_with fail
  clear d1
  go_loopw [7,8] (fun ve iv wr=>∃ (k:Nat) (xs:List EX),iv=.int .i64 (k:Int)∧k≤ts.length∧EsS wz wr ve xs∧xs.length≤k) (fun _ iv _=>ts.length - (intOf iv).toNat)
  case atStart=>exact ⟨0,[],rfl,Nat.zero_le _,⟨Own.nil _ _ _,by simp [Value.ownBlock],by simp,by simp,Below.refl _ _⟩,Nat.le_refl _⟩
  case round =>
   obtain ⟨k,xs,rfl,hk,hE,hxl⟩:=hrel
   obtain ⟨wo,rfl⟩:∃ wo:World,wo=wr:=⟨_,rfl⟩
   obtain ⟨pe,ce,rfl,hce1,hce2⟩:=own_form hE.own
   have HE:=Lib.hid hE
   clear hE
   by_cases hka:k < ts.length
   ·skip
    obtain ⟨g,off,hp,hg,hcell⟩:=sl_at (HT.out.below (HB2.out.trans (HE.out.bel.mono HB2.out.size))) hka
    subst hp
    generalize ts[k]=s at *
    by_cases hs:1000 < s.size
    ·have d1:decide ((1000:Int) < s.size)=true:=decide_eq_true (by omega)
     have HBE:=Lib.hid (HB2.out.trans (HE.out.bel.mono HB2.out.size))
     clear hs
     go_wp2
     go_ret
     exact ⟨rfl,HBE.out⟩
    have d1:decide ((1000:Int) < s.size)=false:=decide_eq_false (by omega)
    have hs3:s.size≤1000:=by omega
    have HP:=Lib.hid (parse_anyX wo s hs3)
    clear hs
    go_upto_region 9 with fail
    go_wp2_with fail
    clear d1 hcell
    refine HP.out.mono ?_
    clear HP
    rintro e w3 ⟨x,hd,p',c,a,no,rfl,rfl,hv,hb3,hx,hok⟩
    obtain ⟨w4,hw4⟩:∃ w4,w3.alloc (.cells #[.int .i64 x.hd.op,.int .i64 x.hd.n,.string x.hd.s,.string x.hd.name,.string x.hd.src,.slice p' x.kids.length c] 27)=w4:=⟨_,rfl⟩
    have hb4:Below w3.heap.size w3 w4:=hw4▸(Below.refl _ _).alloc (Nat.le_refl _) _
    have hk4:Blk w4 w3.heap.size 27 [.int .i64 x.hd.op,.int .i64 x.hd.n,.string x.hd.s,.string x.hd.name,.string x.hd.src,.slice p' x.kids.length c]:=hw4▸Blk.new w3 _ _
    have hlo:=HE.out.own.lt
    have hwz:=HE.out.bel.size
    have hx4:x.at w4 (fun q=>wz.heap.size≤q∧(Value.slice pe xs.length ce).ownBlock≠some q):=EX.at_reg (fun q hq=>⟨by omega,fun e=>by have:=hlo q e;omega⟩) (EX.at_below hb4 x hx)
    have HE4:=Lib.hid (HE.out.below (hb3.trans (hb4.mono hb3.size)))
    obtain ⟨d0,d1,d2,d3,d4,d5⟩:=six_cells hk4
    have hld:=hk4.lt
    have HX:=Lib.hid hx4
    have HOK:=Lib.hid hok
    have hcx:x.cells=[.int .i64 x.hd.op,.int .i64 x.hd.n,.string x.hd.s,.string x.hd.name,.string x.hd.src,.slice p' x.kids.length c]:=by rw [←hv];rfl
    have HCX:=Lib.hid hcx
    have HW4:=Lib.hid hw4
    clear hv hb3 hx hok hb4 hk4 hlo hwz hx4 hcx hw4 HE
    go_upto_region 10 with fail
    rw [HW4.out]
    by_cases hno:no=0
    ·skip
     have t1:(no == 0)=true:=by simp [hno]
     have hbm:Below w4.heap.size w4 (w4.alloc (.cells #[.int .i64 x.hd.op,.int .i64 x.hd.n,.string x.hd.s,.string x.hd.name,.string x.hd.src,.slice p' x.kids.length c] 27)):=(Below.refl _ _).alloc (Nat.le_refl _) _
     have hown:=(HE4.out.below hbm).own
     have hsm:Sl (w4.alloc (.cells #[.int .i64 x.hd.op,.int .i64 x.hd.n,.string x.hd.s,.string x.hd.name,.string x.hd.src,.slice p' x.kids.length c] 27)) (fun _=>True) 6 (.slice (some ⟨w4.heap.size,0,none⟩) 1 1) 1 x.cells:=by
      rw [HCX.out]
      exact one_ex w4 x.hd.op x.hd.n x.hd.s x.hd.name x.hd.src p' x.kids.length c
     have HBM:=Lib.hid hbm
     clear hbm hno
     go_wp2_with (at_builtin;refine wpList_app rfl _ _ rfl elemEx (by rfl) hown (by rfl) hsm (by unfold maxLen;omega) (by omega) ?_;intro v1 wA g1 g2 g3 g4 g5;refine Stp.go ?_)
     refine ⟨?_⟩
     have hA:=EsS.push HE4.out HBM.out (EX.at_below HBM.out x HX.out) HOK.out g1 g2 g3
     obtain ⟨p1,c1',rfl,hc11,hc12⟩:=own_form hA.own
     have HA:=Lib.hid hA
     clear g1 g2 g3 g4 g5 hown hsm hA d0 d1 d2 d3 d4 d5 hld
     go_wp2
     go_roundw
     case rel=>exact ⟨k+1,xs++[x],by go_num,by omega,HA.out,by rw [List.length_append];show _+1≤_;omega⟩
     case measure=>(simp [intOf])<;>omega
    ·skip
     have t1:(no == 0)=false:=by simp [hno]
     clear hno d0 d1 d2 d3 d4 d5 hld
     go_wp2
     go_roundw
     case rel=>exact ⟨k+1,xs,by go_num,by omega,HE4.out,by omega⟩
     case measure=>(simp [intOf])<;>omega
   ·skip
    have hx6:xs.length≤6:=by omega
    clear hxl
    obtain ⟨n,hn⟩:∃ n:Nat,max fuel 0=(n:Int):=⟨(max fuel 0).toNat,by omega⟩
    have hn3:n≤3000:=by omega
    have hb4:Below w.heap.size w wo:=HB2.out.trans (HE.out.bel.mono HB2.out.size)
    have hB4:∀ q,q < w.heap.size→q < wo.heap.size:=fun q hq=>by have:=hb4.size;omega
    have HP1:=Lib.hid (place_any wo _ hB4 _ l (H.out.below hb4) fuel n hn (by omega) hl12 HRL.out)
    have HN:=Lib.hid hn
    have HB4:=Lib.hid hb4
    clear hn hb4 hf3
    go_wp2_with fail
    refine HP1.out.mono ?_
    clear HP1
    rintro e w5 ⟨eb,pb,v1,vL1,ks1,rfl,hp1,hk1⟩
    have hB5:∀ q,q < w.heap.size→q < w5.heap.size:=fun q hq=>by have:=hB4 q hq;have:=hp1.bel.size;omega
    have HP2:=Lib.hid (place_any w5 _ hB5 _ l (H.out.below (HB4.out.trans (hp1.bel.mono HB4.out.size))) fuel n HN.out (by omega) hl12 HRL.out)
    have HPL1:=Lib.hid hp1
    have HKS1:=Lib.hid hk1
    clear hp1 hk1
    go_wp2_with fail
    refine HP2.out.mono ?_
    clear HP2
    rintro e w6 ⟨eb2,pb2,v2,vL2,ks2,rfl,hp2,hk2⟩
    have HPL2:=Lib.hid hp2
    have HKS2:=Lib.hid hk2
    have HB5:=Lib.hid hB5
    have hb46:Below wo.heap.size wo w6:=HPL1.out.bel.trans (hp2.bel.mono HPL1.out.bel.size)
    have hxs:Sl wo (fun q=>q < wo.heap.size) 6 (.slice pe xs.length ce) xs.length (exC xs):=HE.out.own.sl HE.out.own.lt
    have hxt:∀ x∈xs,x.at wo (fun q=>q < wo.heap.size):=fun x hx=>EX.at_reg (fun q hq=>hq.2) (EX.at_cap (HE.out.trees x hx))
    have hoff1:∀ q,q < wo.heap.size→offE eb v1 q:=fun q hq=>⟨by have:=HPL1.out.lo.1;omega,fun e=>by have:=(HPL1.out.vlo q e).1;omega⟩
    have hks1:ks1.length≤1000:=by
     have h1:=congrArg List.length HKS1.out
     rw [List.length_map,List.length_map] at h1
     omega
    have hks2:ks2.length≤1000:=by
     have h1:=congrArg List.length HKS2.out
     rw [List.length_map,List.length_map] at h1
     omega
    have hca:=evall_any xs HE.out.oks w6 eb n v1 (.slice pe xs.length ce) ks1 (HPL1.out.below hp2.bel).env ((hxs.below hb46).mono (Nat.le_refl _) (fun _ _ _=>rfl) (fun q hq _=>hoff1 q hq)) (fun x hx=>EX.at_reg hoff1 (EX.at_below hb46 x (hxt x hx))) hks1 (by omega)
    rw [HKS1.out] at hca
    obtain ⟨⟨ro,re,rf⟩,hr⟩:∃ r,allS (l.map thingA) xs [] n=r:=⟨_,rfl⟩
    rw [hr] at hca
    have HC:=Lib.hid hca
    have HR:=Lib.hid hr
    have HB46:=Lib.hid hb46
    have HXS:=Lib.hid hxs
    have HXT:=Lib.hid hxt
    have HOK:=Lib.hid HE.out.oks
    clear hp2 hk2 hB5 hB4 hb46 hxs hxt hoff1 hks1 hca hr HE
    go_wp2_with fail
    refine HC.out.mono ?_
    clear HC
    rintro e w7 ⟨v1',va,rfl,hst⟩
    simp only at hst
    obtain ⟨pa,ca,rfl,hca1,hca2⟩:=own_form hst.ow.own
    have hlo1:=HPL1.out.lo.1
    have hlo2:=HPL2.out.lo.1
    have hz45:=HPL1.out.bel.size
    have hz56:=HPL2.out.bel.size
    have hz67:=hst.st.only.size
    have hebl:eb < w5.heap.size:=HPL1.out.env.blk.lt
    have heb2l:eb2 < w6.heap.size:=HPL2.out.env.blk.lt
    have hE2:=PlS.stay HB5.out HPL2.out hst.st.only (fun q e=>by
     have h3:=HB4.out.size
     rcases e with e|e
     ·exact ⟨by omega,by omega⟩
     ·have h4:=(HPL1.out.vlo q e).1
      have h5:=HPL1.out.env.own.lt q e
      exact ⟨by omega,by omega⟩)
    have hb47:Below wo.heap.size wo w7:=HB46.out.trans (hst.st.only.below HB46.out.size (fun q e=>by
     rcases e with e|e
     ·omega
     ·exact (HPL1.out.vlo q e).1))
    have hoff:∀ q,q=eb2∨v2.ownBlock=some q→w5.heap.size≤q∧q < w6.heap.size:=fun q e=>by
     rcases e with e|e
     ·exact ⟨by omega,by omega⟩
     ·exact ⟨(HPL2.out.vlo q e).1,HPL2.out.env.own.lt q e⟩
    have HL1:Hid (∀ W,Only (fun q=>q=eb2∨v2.ownBlock=some q) w7 W→Blk W eb 75 [.int .i64 (rf:Int),v1']):=Lib.hid fun W hW=>hst.env.blk.only hW (fun e=>by have:=(hoff _ e).1;omega)
    have HVA:Hid (∀ W,Only (fun q=>q=eb2∨v2.ownBlock=some q) w7 W→Sl W (fun _=>True) 3 (.slice pa ro.length ca) ro.length (rowCells ro)):=Lib.hid fun W hW =>
     ((hst.ow.own.sl (B:=fun q=>w6.heap.size≤q) (fun q hq=>(hst.ow.off q hq).1)).only hW (fun q hq e=>by have:=(hoff _ e).2;omega)).mono (Nat.le_refl _) (fun _ _ _=>rfl) (fun _ _ _=>trivial)
    have HB7:Hid (∀ W,Only (fun q=>q=eb2∨v2.ownBlock=some q) w7 W→Below wo.heap.size wo W):=Lib.hid fun W hW=>hb47.trans (hW.below hb47.size (fun q e=>by have:=(hoff _ e).1;omega))
    have HOF:Hid (∀ q,q < wo.heap.size→∀ W vj,EnvS w7 W eb2 v2 vj→offE eb2 vj q):=Lib.hid fun q hq W vj hs=>⟨by omega,fun e=>by
     rcases hs.own q e with h1|h1
     ·have:=(hoff q (.inr h1)).1
      omega
     ·omega⟩
    have H0:=Lib.hid hE2
    clear hst hlo1 hlo2 hz45 hz56 hz67 hebl heb2l hE2 hb47 hoff
    go_wp2_with fail
    go_loopw [18,19] (fun vo iv wr=>∃ (j fj:Nat) (vj:Value) (acc:List AV),iv=.int .i64 (j:Int)∧j≤xs.length∧AllSt w7 wr eb2 fj v2 vj ks2 vo acc∧acc.length=j∧allS (l.map thingA) (xs.drop j) acc fj=(ro,re,rf)) (fun _ iv _=>xs.length - (intOf iv).toNat)
    case atStart=>exact ⟨0,n,v2,[],rfl,Nat.zero_le _,⟨H0.out,EnvS.refl _ _ _,⟨Own.nil _ _ _,by simp [Value.ownBlock]⟩⟩,rfl,HR.out⟩
    case round =>
     obtain ⟨j,fj,vj,acc,rfl,hj,hS,hacl,hall⟩:=hrel
     obtain ⟨wi,rfl⟩:∃ wi:World,wi=wr:=⟨_,rfl⟩
     have HS:=Lib.hid hS
     obtain ⟨po,co,rfl,hco1,hco2⟩:=own_form hS.ow.own
     clear hS
     by_cases hlt:j < xs.length
     ·skip
      have hbw:=HB7.out wi HS.out.st.only
      obtain ⟨g,off,cap2,hv,y0,y1,y2,y3,y4,y5⟩:=ex_place (HXS.out.below hbw) hlt
      cases hv
      have hya:xs[j].at wi (offE eb2 vj):=EX.at_reg (fun q hq=>HOF.out q hq wi vj HS.out.st) (EX.at_below hbw _ (HXT.out _ (List.getElem_mem hlt)))
      obtain ⟨p',c,hva⟩:=EX.form_kids hya
      have hyo:=HOK.out _ (List.getElem_mem hlt)
      rw [hva] at y5
      rw [List.drop_eq_getElem_cons hlt,allS_cons] at hall
      generalize xs[j]=x at *
      have HO:=Lib.hid hall
      have HYA:=Lib.hid hya
      have HYO:=Lib.hid hyo
      have HVX:=Lib.hid hva
      have HCL:=Lib.hid hacl
      have hce:=evals_any x hyo wi eb2 fj vj ks2 p' c HS.out.env hya hva hks2
      rw [HKS2.out] at hce
      have HC:=Lib.hid hce
      clear hall hya hyo hva hacl hbw hce
      go_upto_region 19 with fail
      go_wp2_with fail
      clear y0 y1 y2 y3 y4 y5
      refine HC.out.mono ?_
      clear HC
      generalize evalS x (l.map thingA) fj=a at *
      obtain ⟨⟨ak,an,sa⟩,ae,f4⟩:=a
      simp only at HO
      rintro e w8 ⟨v4,rfl,he4,hs4⟩
      simp only at he4 hs4
      replace HS:=Lib.hid (HS.out.step hs4 he4)
      obtain ⟨w9,hw9⟩:∃ w9,w8.alloc (.cells #[.int .i64 ak,.int .i64 an,.string sa] 35)=w9:=⟨_,rfl⟩
      have hb9:Below w8.heap.size w8 w9:=hw9▸(Below.refl _ _).alloc (Nat.le_refl _) _
      have hk9:Blk w9 w8.heap.size 35 [.int .i64 ak,.int .i64 an,.string sa]:=hw9▸Blk.new w8 _ _
      replace HS:=Lib.hid (HS.out.below hb9)
      obtain ⟨d0,d1,d2⟩:=three_cells hk9
      have hld:=hk9.lt
      have HW9:=Lib.hid hw9
      clear he4 hs4 hb9 hk9 hw9
      go_upto_region 20 with fail
      rw [HW9.out]
      by_cases he0:ae=0
      ·skip
       have t1:(ae != 0)=false:=by simp [he0]
       have hq:=HO.out
       rw [if_neg (by simp [he0])] at hq
       have HO2:=Lib.hid hq
       clear HO hq he0
       have hbm:Below w9.heap.size w9 (w9.alloc (.cells #[.int .i64 ak,.int .i64 an,.string sa] 35)):=(Below.refl _ _).alloc (Nat.le_refl _) _
       have hown:=(HS.out.below hbm).ow.own
       have hsm:=one_val w9 ak an sa
       have HBM:=Lib.hid hbm
       clear hbm
       have hacn:acc.length≤1000:=by have:=HCL.out;omega
       go_wp2_with (at_builtin;refine wpList_app rfl _ _ rfl elemValE (by rfl) hown (by rfl) hsm (by unfold maxLen;omega) (by omega) ?_;intro v1 wA g1 g2 g3 g4 g5;refine Stp.go ?_)
       refine ⟨?_⟩
       have hA:=AllSt.push (a:=⟨ak,an,sa⟩) H0.out HS.out HBM.out g1 g2 g3
       obtain ⟨p1,c1',rfl,hc11,hc12⟩:=own_form hA.ow.own
       have HA:=Lib.hid hA
       clear g1 g2 g3 g4 g5 hown hsm hA d0 d1 d2 hld
       go_wp2
       go_roundw
       case rel=>exact ⟨j+1,f4,v4,acc++[⟨ak,an,sa⟩],by go_num,by omega,HA.out,by rw [List.length_append,HCL.out];rfl,HO2.out⟩
       case measure=>(simp [intOf])<;>omega
      ·skip
       have t1:(ae != 0)=true:=by simp [he0]
       have hq:=HO.out
       rw [if_pos he0] at hq
       clear HO he0
       cases hq
       have HLA:=Lib.hid (left_blk w9 eb _ _ (HL1.out w9 HS.out.st.only))
       have HLB:=Lib.hid (left_blk w9 eb2 _ _ HS.out.env.blk)
       have HBE:=Lib.hid (HB4.out.trans ((HB7.out w9 HS.out.st.only).mono HB4.out.size))
       go_wp2_with fail
       refine HLA.out.mono ?_
       clear HLA
       rintro e wy ⟨rfl,rfl⟩
       go_wp2_with fail
       refine HLB.out.mono ?_
       clear HLB
       rintro e wy ⟨rfl,rfl⟩
       go_wp2_with fail
       go_ret
       exact ⟨rfl,HBE.out⟩
     ·skip
      have hje:j=xs.length:=by omega
      rw [hje,List.drop_eq_nil_of_le (Nat.le_refl _)] at hall
      unfold allS at hall
      clear hje hacl
      cases hall
      have hsame:=same_rowG wi _ _ _ _ ro ro (HVA.out wi HS.out.st.only) (HS.out.ow.own.sl (B:=fun _=>True) (fun _ _=>trivial))
      rw [rowEq_self] at hsame
      have HM:=Lib.hid hsame
      clear hsame
      go_wp2_with fail
      refine HM.out.mono ?_
      clear HM
      rintro e wy ⟨rfl,hby⟩
      replace HS:=Lib.hid (HS.out.below hby)
      have HLA:=Lib.hid (left_blk wy eb _ _ (HL1.out wy HS.out.st.only))
      have HLB:=Lib.hid (left_blk wy eb2 _ _ HS.out.env.blk)
      have HBE:=Lib.hid (HB4.out.trans ((HB7.out wy HS.out.st.only).mono HB4.out.size))
      clear hby
      go_wp2_with fail
      refine HLA.out.mono ?_
      clear HLA
      rintro e wx ⟨rfl,rfl⟩
      go_wp2_with fail
      refine HLB.out.mono ?_
      clear HLB
      rintro e wx ⟨rfl,rfl⟩
      go_wp2_with fail
      go_ret
      exact ⟨rfl,HBE.out⟩
theorem flat_oneE {α:Type} (f:α→Value) (l:List α):(l.map fun x=>[f x]).flatten=l.map f:=by
 induction l with
 | nil=>rfl
 | cons a l ih=>simp [ih]
theorem open_strsE {H:Type} {enc:TypeId × Value→H} {w:World} {v:Value} {d:DataW H} {ps:List MemPlace} (h:DataW.Trod enc Tryz.prog w 0 (fun _=>true) true 41 v d ps) (hv:v.cells.toList=[v]) :
 ∃ l:List ByteArray,Sl w (fun _=>True) 1 v l.length (txC l):=by
 obtain ⟨fuel,hf⟩:=h
 rw [hv] at hf
 obtain ⟨es,h1,h2⟩:=open_sl Tryz.underlying41 ocStr (by omega) hf (fun c=>∃ s:ByteArray,c=[.string s]∧s.size≤maxLen) (fun c ⟨s,hs,_⟩=>by subst hs;exact Ones.nil.cons rfl)
  (fun f c y hl hy=>by
   obtain ⟨s,rfl,_,hw⟩:=DataW.trod_string Tryz.underlying9 hy
   exact ⟨s,rfl,hw⟩)
 obtain ⟨l,rfl,h4⟩:=choose_list (f:=fun s=>[Value.string s]) es (fun c hcm=>(h1 c hcm).2)
 rw [flat_oneE,List.length_map] at h2
 exact ⟨l,h2⟩
theorem eall_walk (v:Value) (l:List ThV) (vt:Value) (ts:List ByteArray) (fuel:Int) (_hf:(Lit.int .i64 fuel).wf=true) (w:World) (h:ThsAt w (fun _=>True) v l) (ht:Sl w (fun _=>True) 1 vt ts.length (txC ts)) :
 Calls Tryz.prog 4 #[v,vt,.int .i64 fuel] w fun e w'=>e=.returned (.bool true)∧Below w.heap.size w w' :=
 eall_law w _ v l h _ vt ts ht fuel
end Go.Proofs.YtnpplhkpnbonaaaGreat
