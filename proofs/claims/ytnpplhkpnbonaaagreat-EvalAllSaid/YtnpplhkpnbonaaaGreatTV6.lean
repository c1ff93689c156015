/- Contracts of the functions that the statement reaches, one behind the other. No condition beyond each theorem's own. -/
import Derived.Test.YtnpplhkpnbonaaaGreatTV5
set_option linter.unusedSimpArgs false
set_option linter.unusedVariables false
set_option maxRecDepth 100000
set_option maxHeartbeats 4000000
namespace Go.Proofs.YtnpplhkpnbonaaaGreat
open Go.RowKit Go.Afx
theorem KnAt.move {w w':World} {B B':Nat→Prop} {k:KnM} (h:KnAt w B k) (hs:w.heap.size≤w'.heap.size) (hb:∀ q,B q→q < w.heap.size→w'.heap[q]?=w.heap[q]?) (hB:∀ q,B q→q < w.heap.size→B' q):KnAt w' B' k :=
 ⟨h.cols.mono hs hb hB,⟨h.rows.1.mono hs hb hB,fun r hr=>(h.rows.2 r hr).mono hs hb hB⟩,h.val,h.rok,h.nms,h.one,h.rlen,h.nm⟩
theorem Sl.loc {w:World} {B B':Nat→Prop} {sz g off n c:Nat} {cs:List Value} (h:Sl w B sz (.slice (some ⟨g,off,none⟩) n c) n cs) (hB:B' g):Sl w B' sz (.slice (some ⟨g,off,none⟩) n c) n cs:=by
 obtain ⟨h1,h2,h3⟩:=h
 refine ⟨h1,h2,?_⟩
 rcases h3 with h3|⟨g',off',cap,hv,a1,a2,a3,a4,a5⟩
 ·exact .inl h3
 ·cases hv
  exact .inr ⟨g,off,c,rfl,a1,a2,hB,a4,a5⟩
theorem Sl.reg {w:World} {B:Nat→Prop} {sz g off n c:Nat} {cs:List Value} (h:Sl w B sz (.slice (some ⟨g,off,none⟩) n c) n cs) (hn:0 < n):B g:=by
 obtain ⟨g',off',cap,hv,_,_,hb,_⟩:=h.place hn
 cases hv
 exact hb
def plB (n:Nat) (B:Nat→Prop) (eb pb:Nat) (v vL:Value):Nat→Prop:=fun q=>B q∨(n≤q∧q≠eb∧q≠pb∧v.ownBlock≠some q∧vL.ownBlock≠some q)
structure PlS (w wr:World) (B:Nat→Prop) (eb pb f:Nat) (v vL:Value) (l:List KnM) (m:Nat):Prop where
 env:EnvAt wr eb f v l
 kn:∀ k∈l,KnAt wr (plB w.heap.size B eb pb v vL) k
 pblk:Blk wr pb 66 [vL,.int .i64 (f:Int)]
 pown:∃ cs,Own wr 51 7 vL m cs
 vlo:∀ q,v.ownBlock=some q→w.heap.size≤q∧q≠pb∧vL.ownBlock≠some q
 llo:∀ q,vL.ownBlock=some q→w.heap.size≤q∧q≠pb∧q≠eb
 pe:pb≠eb
 lo:w.heap.size≤eb∧w.heap.size≤pb
 bel:Below w.heap.size w wr
section
variable {w wr wd : World} {B : Nat → Prop} {eb pb f m : Nat} {v v' vL : Value} {l : List KnM}
theorem PlS.below (h:PlS w wr B eb pb f v vL l m) (hb:Below wr.heap.size wr wd):PlS w wd B eb pb f v vL l m :=
 ⟨h.env.below hb,fun k hk=>(h.kn k hk).move hb.size (fun q _ hl=>hb.block q hl) (fun _ hq _=>hq),h.pblk.below hb,by obtain ⟨cs,hc⟩:=h.pown;exact ⟨cs,hc.below hb⟩,h.vlo,h.llo,h.pe,h.lo,h.bel.trans (hb.mono h.bel.size)⟩
theorem PlS.keep (hB:∀ q,B q→q < w.heap.size) (h:PlS w wr B eb pb f v vL l m) (s:EnvS wr wd eb v v') :
 (∀ q,plB w.heap.size B eb pb v vL q→q < wr.heap.size→wd.heap[q]?=wr.heap[q]?)∧∀ q,plB w.heap.size B eb pb v vL q→q < wr.heap.size→plB w.heap.size B eb pb v' vL q:=by
 have hlo:=h.lo
 refine ⟨fun q hq hl=>s.only.block q hl (fun e=>?_),fun q hq hl=>?_⟩
 ·rcases hq with hq|hq
  ·have h1:=hB q hq
   rcases e with e|e
   ·omega
   ·have:=(h.vlo q e).1
    omega
  ·rcases e with e|e
   ·exact hq.2.1 e
   ·exact hq.2.2.2.1 e
 ·rcases hq with hq|hq
  ·exact .inl hq
  ·refine .inr ⟨hq.1,hq.2.1,hq.2.2.1,fun e=>?_,hq.2.2.2.2⟩
   rcases s.own q e with h1|h1
   ·exact hq.2.2.2.1 h1
   ·omega
theorem PlS.sl (hB:∀ q,B q→q < w.heap.size) (h:PlS w wr B eb pb f v vL l m) (s:EnvS wr wd eb v v') {sz n:Nat} {x:Value} {cs:List Value} (hx:Sl wr (plB w.heap.size B eb pb v vL) sz x n cs):Sl wd (plB w.heap.size B eb pb v' vL) sz x n cs :=
 hx.mono s.only.size (h.keep hB s).1 (h.keep hB s).2
theorem PlS.off (hB:∀ q,B q→q < w.heap.size) (h:PlS w wr B eb pb f v vL l m):∀ q,plB w.heap.size B eb pb v vL q→offE eb v q:=fun q hq=>by
 have hlo:=h.lo
 rcases hq with hq|hq
 ·have h1:=hB q hq
  exact ⟨by omega,fun e=>by have:=(h.vlo q e).1;omega⟩
 ·exact ⟨hq.2.1,hq.2.2.2.1⟩
theorem PlS.know (hB:∀ q,B q→q < w.heap.size) (h:PlS w wr B eb pb f v vL l m) (s:EnvS wr wd eb v v') {k:KnM} (he:EnvAt wd eb f v' (l++[k])) (hk:KnAt wd (plB w.heap.size B eb pb v' vL) k):PlS w wd B eb pb f v' vL (l++[k]) m:=by
 have hlo:=h.lo
 have hp:=h.pblk.lt
 have hv:∀ q,v'.ownBlock=some q→w.heap.size≤q∧q≠pb∧vL.ownBlock≠some q:=fun q hq=>by
  rcases s.own q hq with h1|h1
  ·exact h.vlo q h1
  ·have:=h.bel.size
   refine ⟨by omega,by omega,fun e=>?_⟩
   obtain ⟨cs,hc⟩:=h.pown
   have:=hc.lt q e
   omega
 refine ⟨he,fun y hy=>?_,h.pblk.only s.only (fun e=>?_),?_,hv,h.llo,h.pe,h.lo,h.bel.trans (s.only.below h.bel.size (fun q e=>?_))⟩
 ·rcases List.mem_append.1 hy with hy|hy
  ·exact (h.kn y hy).move s.only.size (h.keep hB s).1 (h.keep hB s).2
  ·rw [List.mem_singleton.1 hy]
   exact hk
 ·rcases e with e|e
  ·exact h.pe e
  ·exact (h.vlo _ e).2.1 rfl
 ·obtain ⟨cs,hc⟩:=h.pown
  refine ⟨cs,hc.only s.only (fun q hq e=>?_)⟩
  rcases e with e|e
  ·exact (h.llo q hq).2.2 e
  ·exact (h.vlo q e).2.2 hq
 ·rcases e with e|e
  ·omega
  ·exact (h.vlo q e).1
theorem PlS.push (hB:∀ q,B q→q < w.heap.size) (h:PlS w wr B eb pb f v vL l m) {wm wA:World} {v1:Value} {cs:List Value} (hb:Below wr.heap.size wr wm)
 (g1:Own wA 51 7 v1 (m+1) cs) (g2:Only (fun q=>vL.ownBlock=some q) wm wA) (g3:v1.ownBlock=vL.ownBlock∨v1.ownBlock=some wm.heap.size) :
 PlS w (wA.setCell ⟨pb,0,none⟩ v1) B eb pb f v v1 l (m+1)∧Blk wA pb 66 [vL,.int .i64 (f:Int)]:=by
 have hm:=h.below hb
 have hlo:=hm.lo
 have hsz:=hm.bel.size
 have hpl:=hm.pblk.lt
 have hel:=hm.env.blk.lt
 have hbm:=hm.pblk.only g2 (fun e=>(hm.llo _ e).2.1 rfl)
 have hl1:∀ q,v1.ownBlock=some q→w.heap.size≤q∧q≠pb∧q≠eb:=fun q hq=>by
  rcases g3 with g3|g3
  ·exact hm.llo q (g3.symm.trans hq)
  ·have e2:wm.heap.size=q:=Option.some.inj (g3.symm.trans hq)
   exact ⟨by omega,by omega,by omega⟩
 have hne:v1.ownBlock≠some pb:=fun e=>(hl1 _ e).2.1 rfl
 have ho:Only (fun q=>q=pb∨vL.ownBlock=some q) wm (wA.setCell ⟨pb,0,none⟩ v1):=(g2.mono (fun q _ e=>.inr e)).setCell (p:=⟨pb,0,none⟩) (fun _=>.inl rfl) v1
 have hkb:∀ q,plB w.heap.size B eb pb v vL q→q < wm.heap.size→(wA.setCell ⟨pb,0,none⟩ v1).heap[q]?=wm.heap[q]?:=fun q hq hl=>ho.block q hl (fun e=>by
  rcases hq with hq|hq
  ·have h1:=hB q hq
   rcases e with e|e
   ·omega
   ·have:=(hm.llo q e).1
    omega
  ·rcases e with e|e
   ·exact hq.2.2.1 e
   ·exact hq.2.2.2.2 e)
 have hkn:∀ k∈l,KnAt (wA.setCell ⟨pb,0,none⟩ v1) (plB w.heap.size B eb pb v v1) k:=fun k hk=>(hm.kn k hk).move ho.size hkb (fun q hq hl=>by
  rcases hq with hq|hq
  ·exact .inl hq
  ·refine .inr ⟨hq.1,hq.2.1,hq.2.2.1,hq.2.2.2.1,fun e=>?_⟩
   rcases g3 with g3|g3
   ·exact hq.2.2.2.2 (g3.symm.trans e)
   ·have e2:wm.heap.size=q:=Option.some.inj (g3.symm.trans e)
    omega)
 have hvl:∀ q,v.ownBlock=some q→w.heap.size≤q∧q≠pb∧v1.ownBlock≠some q:=fun q hq=>⟨(hm.vlo q hq).1,(hm.vlo q hq).2.1,fun e=>by
  rcases g3 with g3|g3
  ·exact (hm.vlo q hq).2.2 (g3.symm.trans e)
  ·have e2:wm.heap.size=q:=Option.some.inj (g3.symm.trans e)
   have:=hm.env.own.lt q hq
   omega⟩
 refine ⟨⟨⟨hm.env.blk.only ho (fun e=>?_),hm.env.own.only ho (fun q hq e=>?_),hm.env.ne,fun k hk=>(hkn k hk).move (Nat.le_refl _) (fun _ _ _=>rfl) (fun q hq _=>?_),hm.env.fuel,hm.env.lim⟩,hkn,hbm.set 0 _,⟨cs,g1.setOther hne _⟩,hvl,hl1,hm.pe,hm.lo,hm.bel.trans (ho.below hsz (fun q e=>?_))⟩,hbm⟩
 ·rcases e with e|e
  ·exact hm.pe e.symm
  ·exact (hm.llo _ e).2.2 rfl
 ·rcases e with e|e
  ·exact (hm.vlo q hq).2.1 e
  ·exact (hm.vlo q hq).2.2 e
 ·rcases hq with hq|hq
  ·have h1:=hB q hq
   exact ⟨by omega,fun e=>by have:=(hm.vlo q e).1;omega⟩
  ·exact ⟨hq.2.1,hq.2.2.2.1⟩
 ·rcases e with e|e
  ·omega
  ·exact (hm.llo q e).1
end
def thingA (t:ThV):KnA :=
 if t.is=0 then ⟨t.name,plainV t.val,[],[],0⟩
 else if t.is=2 then ⟨t.name,zeroA,t.cols,t.rows.map (fun r=>r.l.map plainV),2⟩
 else ⟨t.name,zeroA,t.cols,[((t.rows.map (fun r=>r.l.map plainV)).headD [])],1⟩
theorem plainV_ok {a:AV} (h:a.ok):(plainV a).ok:=by
 unfold plainV
 split
 ·exact ⟨by unfold fits;simp only;omega,h.2⟩
 ·exact h
def PlaceOut (w:World) (B:Nat→Prop) (l:List ThV) (n:Nat) (e:Ending) (w':World):Prop :=
 ∃ eb pb v vL ks,e=.returned (.tuple #[.pointer (some ⟨eb,0,none⟩),.pointer (some ⟨pb,0,none⟩)])∧PlS w w' B eb pb n v vL ks l.length∧ks.map KnM.a=l.map thingA
end Go.Proofs.YtnpplhkpnbonaaaGreat
namespace Go.Proofs.YtnpplhkpnbonaaaGreat
open Go.RowKit Go.Afx
theorem elemTh:Elem Tryz.prog 22 51 7 104 (.agg #[.string ⟨#[]⟩,.int .i64 0,.int .i64 0,.int .i64 0,.string ⟨#[]⟩,.slice none 0 0,.slice none 0 0]) :=
 ⟨Tryz.underlying22,by kernel_rfl,rfl,by omega,fun u hu=>(Ones.nil.cons rfl |>.cons rfl |>.cons rfl |>.cons rfl |>.cons rfl |>.cons rfl |>.cons rfl) u hu⟩
theorem th_ones {nm s:ByteArray} {kd n is:Int} {pc pr:Option Addr} {nc cc nr cr:Nat}:Ones [.string nm,.int .i64 is,.int .i64 kd,.int .i64 n,.string s,.slice pc nc cc,.slice pr nr cr] :=
 Ones.nil.cons rfl |>.cons rfl |>.cons rfl |>.cons rfl |>.cons rfl |>.cons rfl |>.cons rfl
theorem set_valE {w:World} {b:Nat} {t:TypeId} {a0 a1 a2 a3 a4 a5 a6:Value} (h:Blk w b t [a0,a1,a2,a3,a4,a5,a6]) (v0 v1 v2 v3:Value) :
 Blk ((((w.setCell ⟨b,2,none⟩ v0).setCell ⟨b,3,none⟩ v1).setCell ⟨b,4,none⟩ v2).setCell ⟨b,6,none⟩ v3) b t [a0,a1,v0,v1,v2,a5,v3]∧Only (fun q=>q=b) w ((((w.setCell ⟨b,2,none⟩ v0).setCell ⟨b,3,none⟩ v1).setCell ⟨b,4,none⟩ v2).setCell ⟨b,6,none⟩ v3):=by
 refine ⟨?_,?_⟩
 ·have h1:=(((h.set 2 v0).set 3 v1).set 4 v2).set 6 v3
  simpa only [List.set_cons_zero,List.set_cons_succ] using h1
 ·have step:∀ {u:World} (i:Nat) (v:Value),Only (fun q=>q=b) w u→Only (fun q=>q=b) w (u.setCell ⟨b,i,none⟩ v):=fun i v h=>h.setCell (p:=⟨b,i,none⟩) (fun _=>rfl) v
  exact step 6 v3 (step 4 v2 (step 3 v1 (step 2 v0 (Only.refl _ w))))
theorem plains_ok {acc rows:List RowV} (h:acc.map RowV.l=rows.map (fun r=>r.l.map plainV)) (hr:∀ r∈rows,∀ v∈r.l,v.ok):∀ r∈acc,∀ v∈r.l,v.ok:=fun r hra v hv=>by
 have h1:r.l∈rows.map (fun r=>r.l.map plainV):=h▸List.mem_map_of_mem hra
 obtain ⟨r',hr',he⟩:=List.mem_map.1 h1
 rw [←he] at hv
 obtain ⟨a,ha,rfl⟩:=List.mem_map.1 hv
 exact plainV_ok (hr r' hr' a ha)
theorem pne {eb n:Nat} {v:Value} (h:eb < n) (hv:∀ q,v.ownBlock=some q→q < n):¬ (n=eb∨v.ownBlock=some n):=fun e=>by
 rcases e with e|e
 ·omega
 ·have:=hv n e
  omega
theorem place_any (w:World) (B:Nat→Prop) (hB:∀ q,B q→q < w.heap.size) (v:Value) (l:List ThV) (h:ThsAt w B v l) (fuel:Int) (n:Nat) (hn:max fuel 0=(n:Int)) (h2:n≤100000) (hl:l.length≤12) (hrl:∀ t∈l,t.rows.length≤1000∧∀ r∈t.rows,r.l.length≤1000) :
 Calls Tryz.prog 8 #[v,.int .i64 fuel] w (PlaceOut w B l n):=by
 obtain ⟨p,cap,rfl,hc1,hc2⟩:=h.sl.form
 have H:=Lib.hid h
 have HRL:=Lib.hid hrl
 have HN:=Lib.hid (new_any w fuel n hn (by omega))
 have HM:=Lib.hid hn
 clear h hrl hn
 go_enter Tryz.func8,Tryz.ntmps8
 go_wp2_with fail
 refine HN.out.mono ?_
 clear HN
 rintro e w1 ⟨rfl,he,hb1⟩
 obtain ⟨w2,hw2⟩:∃ w2,w1.alloc (.cells #[.slice none 0 0,.int .i64 (n:Int)] 66)=w2:=⟨_,rfl⟩
 have hb2:Below w1.heap.size w1 w2:=hw2▸(Below.refl _ _).alloc (Nat.le_refl _) _
 have hk2:Blk w2 w1.heap.size 66 [.slice none 0 0,.int .i64 (n:Int)]:=hw2▸Blk.new w1 _ _
 have hel:=he.blk.lt
 have hP:PlS w w2 B w.heap.size w1.heap.size n (.slice none 0 0) (.slice none 0 0) [] 0 :=
  ⟨he.below hb2,(fun k hk=>by cases hk),hk2,⟨[],Own.nil _ _ _⟩,(by simp [Value.ownBlock]),(by simp [Value.ownBlock]),(by omega),⟨Nat.le_refl _,by omega⟩,hb1.trans (hb2.mono hb1.size)⟩
 have HP0:=Lib.hid hP
 have HW2:=Lib.hid hw2
 clear he hb1 hb2 hk2 hP hw2 hel
 go_upto_region 3 with fail
 rw [HM.out,HW2.out]
 go_wp2_with fail
 go_loopw [8] (fun iv wr=>∃ k:Nat,iv=.int .i64 (k:Int)∧k≤l.length∧∃ v vL ks,PlS w wr B w.heap.size w1.heap.size n v vL ks k∧ks.map KnM.a=(l.take k).map thingA) (fun iv _=>l.length - (intOf iv).toNat)
 case atStart=>exact ⟨0,rfl,Nat.zero_le _,_,_,[],HP0.out,by simp⟩
 case round =>
  obtain ⟨k,rfl,hk,v,vL,ks,hP,hks⟩:=hrel
  obtain ⟨wo,rfl⟩:∃ wo:World,wo=wr:=⟨_,rfl⟩
  obtain ⟨cs0,hown0⟩:=hP.pown
  obtain ⟨pL,cL,rfl,hcL1,hcL2⟩:=own_form hown0
  have HP:=Lib.hid hP
  have HKS:=Lib.hid hks
  clear hP hks hown0
  by_cases hka:k < l.length
  ·skip
   have hth:=(H.out.th l[k] (List.getElem_mem hka)).below HP.out.bel
   have hrl:=HRL.out l[k] (List.getElem_mem hka)
   obtain ⟨g,off,cap',hv,hg,e0,e1,e2,e3,e4,e5,e6⟩:=th_place (H.out.below HP.out.bel).sl hka
   cases hv
   have hnx:(l.take (k+1)).map thingA=(l.take k).map thingA++[thingA l[k]]:=by
    rw [List.take_succ_eq_append_getElem hka,List.map_append]
    rfl
   have HNX:=Lib.hid hnx
   generalize l[k]=t at *
   obtain ⟨pr,cr,hrv,_,_⟩:=hth.rows.1.form
   obtain ⟨pc,cc,hcv,hcc1,hcc2⟩:=hth.cols.form
   rw [hrv] at e6
   rw [hcv] at e5
   obtain ⟨w3,hw3⟩:∃ w3,wo.alloc (.cells #[.string t.name,.int .i64 t.is,.int .i64 t.val.kind,.int .i64 t.val.n,.string t.val.s,.slice pc t.cols.length cc,.slice pr t.rows.length cr] 51)=w3:=⟨_,rfl⟩
   have hb3:Below wo.heap.size wo w3:=hw3▸(Below.refl _ _).alloc (Nat.le_refl _) _
   have hk3:Blk w3 wo.heap.size 51 [.string t.name,.int .i64 t.is,.int .i64 t.val.kind,.int .i64 t.val.n,.string t.val.s,.slice pc t.cols.length cc,.slice pr t.rows.length cr]:=hw3▸Blk.new wo _ _
   obtain ⟨d0,d1,d2,d3,d4,d5,d6⟩:=seven_cells hk3
   have hld:=hk3.lt
   have HW3:=Lib.hid hw3
   have HB3:=Lib.hid hb3
   have HK3:=Lib.hid hk3
   have HTH:=Lib.hid hth
   have HRV:=Lib.hid hrv
   have HCV:=Lib.hid hcv
   have HRL2:=Lib.hid hrl
   clear hnx hb3 hk3 hw3 hth hrv hcv hrl
   go_upto_region 7 with fail
   rw [HW3.out]
   clear e0 e1 e2 e3 e4 e5 e6
   refine wp_region_lit_plan [] [(0,0),(3,0),(1,1),(4,2),(2,3),(6,0),(5,4),(7,4),(8,0),(9,4)] ((fun q=>q=wo.heap.size)) (by kernel_rfl) (by kernel_rfl) (fun c a d v w h=>by cases d<;>exact h) ?_
   go_wp2_with (first|(refine stp ?_))
   have HPV:=Lib.hid (plain_val w3.drew t.val)
   refine HPV.out.mono ?_
   clear HPV
   rintro e w4 ⟨rfl,hb4d⟩
   have hb4:Below w3.heap.size w3 w4:=(Below.refl _ _).drew.trans hb4d
   have hag4:Agree (fun q=>q=wo.heap.size) w3.drew w4:=agree_bel hb4d (fun q hq=>by subst hq;exact hld)
   have hpo:=plainV_ok HTH.out.val
   generalize hpv:plainV t.val=pv at *
   obtain ⟨pk,pn,ps⟩:=pv
   have HPVE:=Lib.hid hpv
   clear hpv
   have hb34:Below wo.heap.size wo w4:=HB3.out.trans (hb4.mono HB3.out.size)
   have hrw:=(HTH.out.below hb34).rows
   rw [HRV.out] at hrw
   have HPL:=Lib.hid (plains_any w4 B _ t.rows hrw HRL2.out.1 HRL2.out.2)
   have HB4:=Lib.hid hb34
   have HK4:=Lib.hid (HK3.out.below hb4)
   have hszw:wo.heap.size < w4.heap.size:=HK4.out.lt
   clear hb34 hb4 hb4d hrw
   go_wp2_with (first|(refine stp ?_))
   refine HPL.out.mono ?_
   clear HPL
   rintro e w5 ⟨va,acc,rfl,hacc0,hacm⟩
   obtain ⟨pa,ca,rfl,hca1,hca2⟩:=own_form hacc0.own
   have HAC:=Lib.hid hacc0
   have HAM:=Lib.hid hacm
   have hk5:=HK4.out.below hacc0.bel
   have HK5:=Lib.hid hk5
   have hf5:∀ i,w5.frozen? ⟨wo.heap.size,i,none⟩=false:=hk5.frozen
   obtain ⟨x0,x1,x2,x3,x4,x5,x6⟩:=seven_cells hk5
   have hlx:=hk5.lt
   obtain ⟨hkE,hoE⟩:=set_valE hk5 (.int .i64 pk) (.int .i64 pn) (.string ps) (.slice pa acc.length ca)
   clear hacc0 hacm hk5
   go_upto_region 8 with (first|(refine stp ?_))
   generalize (((w5.setCell ⟨wo.heap.size,2,none⟩ (.int .i64 pk)).setCell ⟨wo.heap.size,3,none⟩ (.int .i64 pn)).setCell ⟨wo.heap.size,4,none⟩ (.string ps)).setCell ⟨wo.heap.size,6,none⟩ (.slice pa acc.length ca)=w6 at *
   have hb5:Below wo.heap.size wo w5:=HB4.out.trans (HAC.out.bel.mono HB4.out.size)
   have hb6:Below wo.heap.size wo w6:=hb5.trans (hoE.below hb5.size (fun q hq=>by omega))
   have hacl:∀ q,w4.heap.size≤q→plB w.heap.size B w.heap.size w1.heap.size v (.slice pL k cL) q:=fun q hq=>by
    have h1:=HP.out.bel.size
    have h3:=HP.out.env.blk.lt
    have h4:=HP.out.pblk.lt
    obtain ⟨cs1,hown1⟩:=HP.out.pown
    exact .inr ⟨by omega,by omega,by omega,fun e=>by have:=HP.out.env.own.lt q e;omega,fun e=>by have:=hown1.lt q e;omega⟩
   have hvo:∀ q,v.ownBlock=some q→q < wo.heap.size:=HP.out.env.own.lt
   have heo:w.heap.size < wo.heap.size:=HP.out.env.blk.lt
   have HPO:=HP
   have HB6:=Lib.hid hb6
   have HACL:=Lib.hid hacl
   replace HP:=Lib.hid (HP.out.below hb6)
   have hrp:RowsAt w6 (fun q=>w4.heap.size≤q) (.slice pa acc.length ca) acc :=
    ⟨(HAC.out.own.sl (B:=fun q=>w4.heap.size≤q) (fun q hq=>HAC.out.lo q hq)).only hoE (fun q hq e=>by omega),
      fun r hr=>(HAC.out.rows r hr).mono hoE.size (fun q hq hl=>hoE.block q hl (by have:=hq.1;omega)) (fun q hq _=>hq.1)⟩
   have hcp:Sl w6 B 2 (.slice pc t.cols.length cc) t.cols.length (colCells t.cols):=HCV.out▸(HTH.out.cols.below hb6)
   have HRP:=Lib.hid hrp
   have HCP:=Lib.hid hcp
   have HT:=Lib.hid hkE
   have HTN:=HTH.out.nm
   have HTC:=Lib.hid HTH.out.nms
   have HOK:=Lib.hid (plains_ok HAM.out HTH.out.rok)
   have hacn:acc.length≤1000:=by
    have h1:=congrArg List.length HAM.out
    rw [List.length_map,List.length_map] at h1
    have:=HRL2.out.1
    omega
   have hkl:ks.length≤12:=by
    have h1:=congrArg List.length HKS.out
    rw [List.length_map,List.length_map,List.length_take] at h1
    omega
   have hk12:k≤12:=by omega
   obtain ⟨d0,d1,d2,d3,d4,d5,d6⟩:=seven_cells hkE
   have hld:=hkE.lt
   have hf6:∀ i,w6.frozen? ⟨wo.heap.size,i,none⟩=false:=hkE.frozen
   have HVO:=Lib.hid hvo
   clear x0 x1 x2 x3 x4 x5 x6 hlx hf5 hb5 hb6 hoE hkE hrp hcp hacl hvo
   by_cases h0:t.is=0
   ·skip
    have t0:(t.is == 0)=true:=by simp [h0]
    have hta:thingA t=(⟨t.name,⟨pk,pn,ps⟩,.slice none 0 0,[],.slice none 0 0,[],0⟩:KnM).a:=by
     unfold thingA
     rw [if_pos h0,HPVE.out]
     rfl
    have HTA:=Lib.hid hta
    have HC:=Lib.hid (let_any w6 w.heap.size n v ks HP.out.env (by omega) t.name ⟨pk,pn,ps⟩ hpo HTN)
    clear h0 hta
    go_upto_region 16 with fail
    go_wp2_with fail
    clear d0 d1 d2 d3 d4 d5 d6 hld hf6
    refine HC.out.mono ?_
    clear HC
    rintro e wd ⟨v',rfl,he,hs⟩
    replace HP:=Lib.hid (PlS.know hB HP.out hs he ⟨sl_zeroE _ _ 2,⟨sl_zeroE _ _ 1,fun r hr=>by cases hr⟩,hpo,(fun r hr=>by cases hr),(fun c hc=>by cases hc),(fun h=>absurd (show (0:Int)=1 from h) (by decide)),Nat.zero_le _,HTN⟩)
    replace HT:=Lib.hid (HT.out.only hs.only (pne heo HVO.out))
    clear he hs
    have hag1:Agree (fun q=>q=w1.heap.size) wd.drew (wd.alloc (.cells #[.string t.name,.int .i64 t.is,.int .i64 pk,.int .i64 pn,.string ps,.slice pc t.cols.length cc,.slice pa acc.length ca] 51)).drew:=agree_alloc (w:=wd) _ (fun q hq=>by subst hq;exact HP.out.pblk.lt)
    have hbm:Below wd.heap.size wd (wd.alloc (.cells #[.string t.name,.int .i64 t.is,.int .i64 pk,.int .i64 pn,.string ps,.slice pc t.cols.length cc,.slice pa acc.length ca] 51)).drew:=((Below.refl _ _).alloc (Nat.le_refl _) _).drew
    obtain ⟨csL,hown0⟩:=HP.out.pown
    have hown:=hown0.below hbm
    have hsm:Sl (wd.alloc (.cells #[.string t.name,.int .i64 t.is,.int .i64 pk,.int .i64 pn,.string ps,.slice pc t.cols.length cc,.slice pa acc.length ca] 51)).drew (fun _=>True) 7 (.slice (some ⟨wd.heap.size,0,none⟩) 1 1) 1 [.string t.name,.int .i64 t.is,.int .i64 pk,.int .i64 pn,.string ps,.slice pc t.cols.length cc,.slice pa acc.length ca] :=
     (Own.made wd 51 7 [.string t.name,.int .i64 t.is,.int .i64 pk,.int .i64 pn,.string ps,.slice pc t.cols.length cc,.slice pa acc.length ca] [] 1 1 rfl th_ones (Nat.le_refl _) (by decide) (Nat.le_refl 7)).sl (fun _ _=>trivial)
    have HBM:=Lib.hid hbm
    have cL0:wd.cell? ⟨w1.heap.size,0,none⟩=some (.slice pL k cL):=HP.out.pblk.cell 0
    have hpl:=HP.out.pblk.lt
    have hfp:∀ i,wd.frozen? ⟨w1.heap.size,i,none⟩=false:=HP.out.pblk.frozen
    obtain ⟨d0,d1,d2,d3,d4,d5,d6⟩:=seven_cells HT.out
    have hld:=HT.out.lt
    clear hbm hown0
    go_upto_region 19 with fail
    refine wp_region_lit_plan [] [(0,0),(1,0),(2,0),(3,0),(4,2),(5,1),(6,3),(7,4),(8,0),(9,0),(10,4)] ((fun q=>q=w1.heap.size)) (by kernel_rfl) (by kernel_rfl) (fun c a d v w h=>by cases d<;>exact h) ?_
    go_wp2_with (first|(refine stp ?_)|(at_builtin;refine wpList_app rfl _ _ rfl elemTh (by rfl) hown (by rfl) hsm (by unfold maxLen;omega) (by omega) ?_;intro v1 wA g1 g2 g3 g4 g5;refine Stp.go ?_))
    refine ⟨?_⟩
    obtain ⟨p1,c1',rfl,hc11,hc12⟩:=g1.sl (B:=fun _=>True) (fun _ _=>trivial) |>.form
    obtain ⟨hE,hkA⟩:=PlS.push hB HP.out HBM.out g1 g2 g3
    have HE:=Lib.hid hE
    have a1:wA.cell? ⟨w1.heap.size,0,none⟩=some (.slice pL k cL):=hkA.cell 0
    have hfA:∀ i,wA.frozen? ⟨w1.heap.size,i,none⟩=false:=hkA.frozen
    have hlA:=hkA.lt
    clear g1 g2 g3 g4 g5 hown hsm hag1 hE hkA cL0 hfp hpl d0 d1 d2 d3 d4 d5 d6 hld
    go_wp2_with fail
    refine plan_pure (v:=_) (by rfl) (by rfl) (by rfl) (by intro _;go_simp;with_reducible rfl) ?_
    simp only [List.setIfInBounds_toArray,List.set_cons_zero,List.set_cons_succ]
    try go_bits
    refine plan_pure (v:=_) (by rfl) (by rfl) (by rfl) (by intro _;go_simp;with_reducible rfl) ?_
    simp only [List.setIfInBounds_toArray,List.set_cons_zero,List.set_cons_succ]
    try go_bits
    refine plan_any (by rfl) ?_
    go_wp2_with fail
    refine plan_nil ?_
    go_wp2_with fail
    go_roundw
    case rel=>exact ⟨k+1,by go_num,by omega,v',_,ks++[⟨t.name,⟨pk,pn,ps⟩,.slice none 0 0,[],.slice none 0 0,[],0⟩],HE.out,by rw [HNX.out,List.map_append,HKS.out,HTA.out];rfl⟩
    case measure=>(simp [intOf])<;>omega
   have t0:(t.is == 0)=false:=by simp [h0]
   by_cases h2i:t.is=2
   ·skip
    have t2:(t.is == 2)=true:=by simp [h2i]
    have hta:thingA t=(⟨t.name,zeroA,.slice pc t.cols.length cc,t.cols,.slice pa acc.length ca,acc,2⟩:KnM).a:=by
     unfold thingA
     rw [if_neg h0,if_pos h2i,←HAM.out]
     rfl
    have HTA:=Lib.hid hta
    have HC:=Lib.hid (source_any w6 w.heap.size n v ks HP.out.env (by omega) t.name pc pa t.cols.length cc acc.length ca t.cols acc (HCP.out.mono (Nat.le_refl _) (fun _ _ _=>rfl) (fun q hq _=>HP.out.off hB q (.inl hq)))
     ⟨HRP.out.1.mono (Nat.le_refl _) (fun _ _ _=>rfl) (fun q hq _=>HP.out.off hB q (HACL.out q hq)),fun r hr=>(HRP.out.2 r hr).mono (Nat.le_refl _) (fun _ _ _=>rfl) (fun q hq _=>HP.out.off hB q (HACL.out q hq))⟩ HOK.out (by omega) HTC.out HTN)
    clear h0 h2i hta
    go_upto_region 18 with fail
    go_wp2_with fail
    clear d0 d1 d2 d3 d4 d5 d6 hld hf6
    refine HC.out.mono ?_
    clear HC
    rintro e wd ⟨v',rfl,he,hs⟩
    replace HP:=Lib.hid (PlS.know hB HP.out hs he ⟨HP.out.sl hB hs (HCP.out.mono (Nat.le_refl _) (fun _ _ _=>rfl) (fun q hq _=>.inl hq)),⟨HP.out.sl hB hs (HRP.out.1.mono (Nat.le_refl _) (fun _ _ _=>rfl) (fun q hq _=>HACL.out q hq)),fun r hr=>HP.out.sl hB hs ((HRP.out.2 r hr).mono (Nat.le_refl _) (fun _ _ _=>rfl) (fun q hq _=>HACL.out q hq))⟩,zero_ok,HOK.out,HTC.out,(fun h=>absurd (show (2:Int)=1 from h) (by decide)),(by show acc.length≤1000000;omega),HTN⟩)
    replace HT:=Lib.hid (HT.out.only hs.only (pne heo HVO.out))
    clear he hs
    have hag1:Agree (fun q=>q=w1.heap.size) wd.drew (wd.alloc (.cells #[.string t.name,.int .i64 t.is,.int .i64 pk,.int .i64 pn,.string ps,.slice pc t.cols.length cc,.slice pa acc.length ca] 51)).drew:=agree_alloc (w:=wd) _ (fun q hq=>by subst hq;exact HP.out.pblk.lt)
    have hbm:Below wd.heap.size wd (wd.alloc (.cells #[.string t.name,.int .i64 t.is,.int .i64 pk,.int .i64 pn,.string ps,.slice pc t.cols.length cc,.slice pa acc.length ca] 51)).drew:=((Below.refl _ _).alloc (Nat.le_refl _) _).drew
    obtain ⟨csL,hown0⟩:=HP.out.pown
    have hown:=hown0.below hbm
    have hsm:Sl (wd.alloc (.cells #[.string t.name,.int .i64 t.is,.int .i64 pk,.int .i64 pn,.string ps,.slice pc t.cols.length cc,.slice pa acc.length ca] 51)).drew (fun _=>True) 7 (.slice (some ⟨wd.heap.size,0,none⟩) 1 1) 1 [.string t.name,.int .i64 t.is,.int .i64 pk,.int .i64 pn,.string ps,.slice pc t.cols.length cc,.slice pa acc.length ca] :=
     (Own.made wd 51 7 [.string t.name,.int .i64 t.is,.int .i64 pk,.int .i64 pn,.string ps,.slice pc t.cols.length cc,.slice pa acc.length ca] [] 1 1 rfl th_ones (Nat.le_refl _) (by decide) (Nat.le_refl 7)).sl (fun _ _=>trivial)
    have HBM:=Lib.hid hbm
    have cL0:wd.cell? ⟨w1.heap.size,0,none⟩=some (.slice pL k cL):=HP.out.pblk.cell 0
    have hpl:=HP.out.pblk.lt
    have hfp:∀ i,wd.frozen? ⟨w1.heap.size,i,none⟩=false:=HP.out.pblk.frozen
    obtain ⟨d0,d1,d2,d3,d4,d5,d6⟩:=seven_cells HT.out
    have hld:=HT.out.lt
    clear hbm hown0
    go_upto_region 19 with fail
    refine wp_region_lit_plan [] [(0,0),(1,0),(2,0),(3,0),(4,2),(5,1),(6,3),(7,4),(8,0),(9,0),(10,4)] ((fun q=>q=w1.heap.size)) (by kernel_rfl) (by kernel_rfl) (fun c a d v w h=>by cases d<;>exact h) ?_
    go_wp2_with (first|(refine stp ?_)|(at_builtin;refine wpList_app rfl _ _ rfl elemTh (by rfl) hown (by rfl) hsm (by unfold maxLen;omega) (by omega) ?_;intro v1 wA g1 g2 g3 g4 g5;refine Stp.go ?_))
    refine ⟨?_⟩
    obtain ⟨p1,c1',rfl,hc11,hc12⟩:=g1.sl (B:=fun _=>True) (fun _ _=>trivial) |>.form
    obtain ⟨hE,hkA⟩:=PlS.push hB HP.out HBM.out g1 g2 g3
    have HE:=Lib.hid hE
    have a1:wA.cell? ⟨w1.heap.size,0,none⟩=some (.slice pL k cL):=hkA.cell 0
    have hfA:∀ i,wA.frozen? ⟨w1.heap.size,i,none⟩=false:=hkA.frozen
    have hlA:=hkA.lt
    clear g1 g2 g3 g4 g5 hown hsm hag1 hE hkA cL0 hfp hpl d0 d1 d2 d3 d4 d5 d6 hld
    go_wp2_with fail
    refine plan_pure (v:=_) (by rfl) (by rfl) (by rfl) (by intro _;go_simp;with_reducible rfl) ?_
    simp only [List.setIfInBounds_toArray,List.set_cons_zero,List.set_cons_succ]
    try go_bits
    refine plan_pure (v:=_) (by rfl) (by rfl) (by rfl) (by intro _;go_simp;with_reducible rfl) ?_
    simp only [List.setIfInBounds_toArray,List.set_cons_zero,List.set_cons_succ]
    try go_bits
    refine plan_any (by rfl) ?_
    go_wp2_with fail
    refine plan_nil ?_
    go_wp2_with fail
    go_roundw
    case rel=>exact ⟨k+1,by go_num,by omega,v',_,ks++[⟨t.name,zeroA,.slice pc t.cols.length cc,t.cols,.slice pa acc.length ca,acc,2⟩],HE.out,by rw [HNX.out,List.map_append,HKS.out,HTA.out];rfl⟩
    case measure=>(simp [intOf])<;>omega
   have t2:(t.is == 2)=false:=by simp [h2i]
   by_cases hac0:acc.length=0
   ·skip
    have hnil:acc=[]:=List.eq_nil_of_length_eq_zero hac0
    have hta:∀ x,thingA t=(⟨t.name,zeroA,.slice pc t.cols.length cc,t.cols,x,[⟨.slice none 0 0,[]⟩],1⟩:KnM).a:=fun x=>by
     unfold thingA
     rw [if_neg h0,if_neg h2i,←HAM.out,hnil]
     rfl
    have HTA0:=Lib.hid hta
    have hrow:Sl w6 (fun q=>w4.heap.size≤q) 3 (.slice none 0 0) ([]:List AV).length (rowCells []):=sl_zeroE _ _ 3
    have hrok:∀ x∈([]:List AV),x.ok:=fun x hx=>by cases hx
    have hdl:decide (0 < acc.length)=false:=decide_eq_false (by omega)
    clear h0 h2i hta hnil hac0
    have hk7:=HT.out.set 1 (.int .i64 1)
    simp only [List.set_cons_zero,List.set_cons_succ] at hk7
    have ho7:Only (fun q=>q=wo.heap.size) w6 (w6.setCell ⟨wo.heap.size,1,none⟩ (.int .i64 1)):=(Only.refl (fun q=>q=wo.heap.size) w6).setCell (p:=⟨wo.heap.size,1,none⟩) (fun _=>rfl) _
    obtain ⟨w7,hw7⟩:∃ w7,w6.setCell ⟨wo.heap.size,1,none⟩ (.int .i64 1)=w7:=⟨_,rfl⟩
    rw [hw7] at hk7 ho7
    obtain ⟨w8,hw8⟩:∃ w8,w7.alloc (.cells #[.slice none (0) 0] 42)=w8:=⟨_,rfl⟩
    have hb8:Below w7.heap.size w7 w8:=hw8▸(Below.refl _ _).alloc (Nat.le_refl _) _
    have hk8:=hk7.below hb8
    have hk9:=hk8.set 6 (.slice (some ⟨w7.heap.size,0,none⟩) 1 1)
    simp only [List.set_cons_zero,List.set_cons_succ] at hk9
    have ho9:Only (fun q=>q=wo.heap.size) w8 (w8.setCell ⟨wo.heap.size,6,none⟩ (.slice (some ⟨w7.heap.size,0,none⟩) 1 1)):=(Only.refl (fun q=>q=wo.heap.size) w8).setCell (p:=⟨wo.heap.size,6,none⟩) (fun _=>rfl) _
    obtain ⟨w9,hw9⟩:∃ w9,w8.setCell ⟨wo.heap.size,6,none⟩ (.slice (some ⟨w7.heap.size,0,none⟩) 1 1)=w9:=⟨_,rfl⟩
    rw [hw9] at hk9 ho9
    have hob:Only (fun q=>q=wo.heap.size) w6 w9:=ho7.trans ((Only.of_none hb8).trans ho9 (fun _ _ e=>e)) (fun _ _ e=>e)
    have hb9:Below wo.heap.size wo w9:=HB6.out.trans (hob.below HB6.out.size (fun q hq=>by omega))
    replace HP:=Lib.hid (HPO.out.below hb9)
    have hrow9:=(hrow.only hob (fun q hq e=>by omega)).mono (Nat.le_refl _) (fun _ _ _=>rfl) (fun q hq _=>HACL.out q hq)
    have hcp9:Sl w9 (plB w.heap.size B w.heap.size w1.heap.size v (.slice pL k cL)) 2 (.slice pc t.cols.length cc) t.cols.length (colCells t.cols) :=
     (HCP.out.only hob (fun q hq e=>by have:=hB q hq;omega)).mono (Nat.le_refl _) (fun _ _ _=>rfl) (fun q hq _=>.inl hq)
    have HC:=Lib.hid (row_any w9 w.heap.size n v ks HP.out.env (by omega) t.name pc none t.cols.length cc (0) 0 t.cols ([]:List AV) (hcp9.mono (Nat.le_refl _) (fun _ _ _=>rfl) (fun q hq _=>HP.out.off hB q hq)) (hrow9.mono (Nat.le_refl _) (fun _ _ _=>rfl) (fun q hq _=>HP.out.off hB q hq)) hrok HTC.out HTN)
    have HROW:=Lib.hid hrow9
    have HCP9:=Lib.hid hcp9
    have HROK:=Lib.hid hrok
    have HPS:=Lib.hid HP.out.pown
    replace HT:=Lib.hid hk9
    have hl8:=hk8.lt
    have q6:=hk8.cellE 6 rfl
    have hf8:∀ i,w8.frozen? ⟨wo.heap.size,i,none⟩=false:=hk8.frozen
    obtain ⟨y0,y1,y2,y3,y4,y5,y6⟩:=seven_cells hk9
    obtain ⟨z0,z1,z2,z3,z4,z5,z6⟩:=seven_cells hk7
    have hl7:=hk7.lt
    have hl9:=hk9.lt
    clear hk7 ho7 hb8 hk8 hk9 ho9 hob hb9 hrow hrow9 hcp9 hrok
    go_upto_region 14 with fail
    go_wp2_with fail
    clear d0 d1 d2 d3 d4 d5 d6 hld hf6 y0 y1 y2 y3 y4 y5 y6 z0 z1 z2 z3 z4 z5 z6 hl7 hl8 hl9 hf8 q6
    refine HC.out.mono ?_
    clear HC
    rintro e wd ⟨v',rfl,he,hs⟩
    have hkk:Sl wd (offE w.heap.size v') 1 (.slice (some ⟨w9.heap.size,0,none⟩) 1 1) 1 [.slice none (0) 0]:=(he.kn _ (List.mem_append_right _ (List.mem_singleton_self _))).rows.1
    have hre:=Sl.reg hkk (Nat.succ_pos 0)
    have hin:plB w.heap.size B w.heap.size w1.heap.size v' (.slice pL k cL) w9.heap.size:=by
     obtain ⟨cs1,hown1⟩:=HP.out.pown
     have h1:=HP.out.bel.size
     have h4:=HP.out.pblk.lt
     exact .inr ⟨h1,hre.1,by omega,hre.2,fun e=>by have:=hown1.lt _ e;omega⟩
    have hkk2:=Sl.loc hkk hin
    have hrr:=HP.out.sl hB hs HROW.out
    replace HP:=Lib.hid (PlS.know hB HP.out hs he ⟨HP.out.sl hB hs HCP9.out,⟨hkk2,fun r hr=>by rw [List.mem_singleton.1 hr];exact hrr⟩,zero_ok,(fun r hr=>by rw [List.mem_singleton.1 hr];exact HROK.out),HTC.out,(fun _=>Nat.le_refl 1),(by show 1≤1000000;omega),HTN⟩)
    replace HT:=Lib.hid (HT.out.only hs.only (pne heo HVO.out))
    have HTA:=Lib.hid (HTA0.out (.slice (some ⟨w9.heap.size,0,none⟩) 1 1))
    clear he hs hkk hre hin hkk2 hrr hw7 hw8 hw9
    have hag1:Agree (fun q=>q=w1.heap.size) wd.drew (wd.alloc (.cells #[.string t.name,.int .i64 1,.int .i64 pk,.int .i64 pn,.string ps,.slice pc t.cols.length cc,.slice (some ⟨w7.heap.size,0,none⟩) 1 1] 51)).drew:=agree_alloc (w:=wd) _ (fun q hq=>by subst hq;exact HP.out.pblk.lt)
    have hbm:Below wd.heap.size wd (wd.alloc (.cells #[.string t.name,.int .i64 1,.int .i64 pk,.int .i64 pn,.string ps,.slice pc t.cols.length cc,.slice (some ⟨w7.heap.size,0,none⟩) 1 1] 51)).drew:=((Below.refl _ _).alloc (Nat.le_refl _) _).drew
    obtain ⟨csL,hown0⟩:=HP.out.pown
    have hown:=hown0.below hbm
    have hsm:Sl (wd.alloc (.cells #[.string t.name,.int .i64 1,.int .i64 pk,.int .i64 pn,.string ps,.slice pc t.cols.length cc,.slice (some ⟨w7.heap.size,0,none⟩) 1 1] 51)).drew (fun _=>True) 7 (.slice (some ⟨wd.heap.size,0,none⟩) 1 1) 1 [.string t.name,.int .i64 1,.int .i64 pk,.int .i64 pn,.string ps,.slice pc t.cols.length cc,.slice (some ⟨w7.heap.size,0,none⟩) 1 1] :=
     (Own.made wd 51 7 [.string t.name,.int .i64 1,.int .i64 pk,.int .i64 pn,.string ps,.slice pc t.cols.length cc,.slice (some ⟨w7.heap.size,0,none⟩) 1 1] [] 1 1 rfl th_ones (Nat.le_refl _) (by decide) (Nat.le_refl 7)).sl (fun _ _=>trivial)
    have HBM:=Lib.hid hbm
    have cL0:wd.cell? ⟨w1.heap.size,0,none⟩=some (.slice pL k cL):=HP.out.pblk.cell 0
    have hpl:=HP.out.pblk.lt
    have hfp:∀ i,wd.frozen? ⟨w1.heap.size,i,none⟩=false:=HP.out.pblk.frozen
    obtain ⟨d0,d1,d2,d3,d4,d5,d6⟩:=seven_cells HT.out
    have hld:=HT.out.lt
    clear hbm hown0
    go_upto_region 19 with fail
    refine wp_region_lit_plan [] [(0,0),(1,0),(2,0),(3,0),(4,2),(5,1),(6,3),(7,4),(8,0),(9,0),(10,4)] ((fun q=>q=w1.heap.size)) (by kernel_rfl) (by kernel_rfl) (fun c a d v w h=>by cases d<;>exact h) ?_
    go_wp2_with (first|(refine stp ?_)|(at_builtin;refine wpList_app rfl _ _ rfl elemTh (by rfl) hown (by rfl) hsm (by unfold maxLen;omega) (by omega) ?_;intro v1 wA g1 g2 g3 g4 g5;refine Stp.go ?_))
    refine ⟨?_⟩
    obtain ⟨p1,c1',rfl,hc11,hc12⟩:=g1.sl (B:=fun _=>True) (fun _ _=>trivial) |>.form
    obtain ⟨hE,hkA⟩:=PlS.push hB HP.out HBM.out g1 g2 g3
    have HE:=Lib.hid hE
    have a1:wA.cell? ⟨w1.heap.size,0,none⟩=some (.slice pL k cL):=hkA.cell 0
    have hfA:∀ i,wA.frozen? ⟨w1.heap.size,i,none⟩=false:=hkA.frozen
    have hlA:=hkA.lt
    clear g1 g2 g3 g4 g5 hown hsm hag1 hE hkA cL0 hfp hpl d0 d1 d2 d3 d4 d5 d6 hld
    go_wp2_with fail
    refine plan_pure (v:=_) (by rfl) (by rfl) (by rfl) (by intro _;go_simp;with_reducible rfl) ?_
    simp only [List.setIfInBounds_toArray,List.set_cons_zero,List.set_cons_succ]
    try go_bits
    refine plan_pure (v:=_) (by rfl) (by rfl) (by rfl) (by intro _;go_simp;with_reducible rfl) ?_
    simp only [List.setIfInBounds_toArray,List.set_cons_zero,List.set_cons_succ]
    try go_bits
    refine plan_any (by rfl) ?_
    go_wp2_with fail
    refine plan_nil ?_
    go_wp2_with fail
    go_roundw
    case rel=>exact ⟨k+1,by go_num,by omega,v',_,ks++[⟨t.name,zeroA,.slice pc t.cols.length cc,t.cols,.slice (some ⟨w9.heap.size,0,none⟩) 1 1,[⟨.slice none (0) 0,([]:List AV)⟩],1⟩],HE.out,by rw [HNX.out,List.map_append,HKS.out,HTA.out];rfl⟩
    case measure=>(simp [intOf])<;>omega
   ·skip
    have hap:0 < acc.length:=by omega
    have hhd:(acc.map RowV.l).headD []=acc[0].l:=by
     match acc,hap with
     | r0::rs,_=>rfl
    have hta:∀ x y,thingA t=(⟨t.name,zeroA,.slice pc t.cols.length cc,t.cols,x,[⟨y,acc[0].l⟩],1⟩:KnM).a:=fun x y=>by
     unfold thingA
     rw [if_neg h0,if_neg h2i,←HAM.out,hhd]
     rfl
    have HTA1:=Lib.hid hta
    have hrow:=HRP.out.2 acc[0] (List.getElem_mem hap)
    have hrok:=HOK.out acc[0] (List.getElem_mem hap)
    obtain ⟨ga,oa,ca',hva,hgc⟩:=HRP.out.at hap
    cases hva
    obtain ⟨p0,c0,hr0,_,_⟩:=hrow.form
    rw [hr0] at hrow
    have hgc:w6.cell? ⟨ga,oa,none⟩=some (.slice p0 acc[0].l.length c0):=by rw [←hr0];exact hgc
    generalize acc[0].l=rl at *
    have HTA0:=Lib.hid (fun x=>HTA1.out x (.slice p0 rl.length c0))
    have hdl:decide (0 < acc.length)=true:=decide_eq_true (by omega)
    clear h0 h2i hta hac0 hhd hr0
    have hk7:=HT.out.set 1 (.int .i64 1)
    simp only [List.set_cons_zero,List.set_cons_succ] at hk7
    have ho7:Only (fun q=>q=wo.heap.size) w6 (w6.setCell ⟨wo.heap.size,1,none⟩ (.int .i64 1)):=(Only.refl (fun q=>q=wo.heap.size) w6).setCell (p:=⟨wo.heap.size,1,none⟩) (fun _=>rfl) _
    obtain ⟨w7,hw7⟩:∃ w7,w6.setCell ⟨wo.heap.size,1,none⟩ (.int .i64 1)=w7:=⟨_,rfl⟩
    rw [hw7] at hk7 ho7
    obtain ⟨w8,hw8⟩:∃ w8,w7.alloc (.cells #[.slice p0 (rl.length) c0] 42)=w8:=⟨_,rfl⟩
    have hb8:Below w7.heap.size w7 w8:=hw8▸(Below.refl _ _).alloc (Nat.le_refl _) _
    have hk8:=hk7.below hb8
    have hk9:=hk8.set 6 (.slice (some ⟨w7.heap.size,0,none⟩) 1 1)
    simp only [List.set_cons_zero,List.set_cons_succ] at hk9
    have ho9:Only (fun q=>q=wo.heap.size) w8 (w8.setCell ⟨wo.heap.size,6,none⟩ (.slice (some ⟨w7.heap.size,0,none⟩) 1 1)):=(Only.refl (fun q=>q=wo.heap.size) w8).setCell (p:=⟨wo.heap.size,6,none⟩) (fun _=>rfl) _
    obtain ⟨w9,hw9⟩:∃ w9,w8.setCell ⟨wo.heap.size,6,none⟩ (.slice (some ⟨w7.heap.size,0,none⟩) 1 1)=w9:=⟨_,rfl⟩
    rw [hw9] at hk9 ho9
    have hob:Only (fun q=>q=wo.heap.size) w6 w9:=ho7.trans ((Only.of_none hb8).trans ho9 (fun _ _ e=>e)) (fun _ _ e=>e)
    have hb9:Below wo.heap.size wo w9:=HB6.out.trans (hob.below HB6.out.size (fun q hq=>by omega))
    replace HP:=Lib.hid (HPO.out.below hb9)
    have hrow9:=(hrow.only hob (fun q hq e=>by omega)).mono (Nat.le_refl _) (fun _ _ _=>rfl) (fun q hq _=>HACL.out q hq)
    have hcp9:Sl w9 (plB w.heap.size B w.heap.size w1.heap.size v (.slice pL k cL)) 2 (.slice pc t.cols.length cc) t.cols.length (colCells t.cols) :=
     (HCP.out.only hob (fun q hq e=>by have:=hB q hq;omega)).mono (Nat.le_refl _) (fun _ _ _=>rfl) (fun q hq _=>.inl hq)
    have HC:=Lib.hid (row_any w9 w.heap.size n v ks HP.out.env (by omega) t.name pc p0 t.cols.length cc (rl.length) c0 t.cols rl (hcp9.mono (Nat.le_refl _) (fun _ _ _=>rfl) (fun q hq _=>HP.out.off hB q hq)) (hrow9.mono (Nat.le_refl _) (fun _ _ _=>rfl) (fun q hq _=>HP.out.off hB q hq)) hrok HTC.out HTN)
    have HROW:=Lib.hid hrow9
    have HCP9:=Lib.hid hcp9
    have HROK:=Lib.hid hrok
    have HPS:=Lib.hid HP.out.pown
    replace HT:=Lib.hid hk9
    have hl8:=hk8.lt
    have q6:=hk8.cellE 6 rfl
    have hf8:∀ i,w8.frozen? ⟨wo.heap.size,i,none⟩=false:=hk8.frozen
    obtain ⟨y0,y1,y2,y3,y4,y5,y6⟩:=seven_cells hk9
    obtain ⟨z0,z1,z2,z3,z4,z5,z6⟩:=seven_cells hk7
    have hl7:=hk7.lt
    have hl9:=hk9.lt
    clear hk7 ho7 hb8 hk8 hk9 ho9 hob hb9 hrow hrow9 hcp9 hrok
    go_upto_region 14 with fail
    go_wp2_with fail
    clear d0 d1 d2 d3 d4 d5 d6 hld hf6 y0 y1 y2 y3 y4 y5 y6 z0 z1 z2 z3 z4 z5 z6 hl7 hl8 hl9 hf8 q6
    refine HC.out.mono ?_
    clear HC
    rintro e wd ⟨v',rfl,he,hs⟩
    have hkk:Sl wd (offE w.heap.size v') 1 (.slice (some ⟨w9.heap.size,0,none⟩) 1 1) 1 [.slice p0 (rl.length) c0]:=(he.kn _ (List.mem_append_right _ (List.mem_singleton_self _))).rows.1
    have hre:=Sl.reg hkk (Nat.succ_pos 0)
    have hin:plB w.heap.size B w.heap.size w1.heap.size v' (.slice pL k cL) w9.heap.size:=by
     obtain ⟨cs1,hown1⟩:=HP.out.pown
     have h1:=HP.out.bel.size
     have h4:=HP.out.pblk.lt
     exact .inr ⟨h1,hre.1,by omega,hre.2,fun e=>by have:=hown1.lt _ e;omega⟩
    have hkk2:=Sl.loc hkk hin
    have hrr:=HP.out.sl hB hs HROW.out
    replace HP:=Lib.hid (PlS.know hB HP.out hs he ⟨HP.out.sl hB hs HCP9.out,⟨hkk2,fun r hr=>by rw [List.mem_singleton.1 hr];exact hrr⟩,zero_ok,(fun r hr=>by rw [List.mem_singleton.1 hr];exact HROK.out),HTC.out,(fun _=>Nat.le_refl 1),(by show 1≤1000000;omega),HTN⟩)
    replace HT:=Lib.hid (HT.out.only hs.only (pne heo HVO.out))
    have HTA:=Lib.hid (HTA0.out (.slice (some ⟨w9.heap.size,0,none⟩) 1 1))
    clear he hs hkk hre hin hkk2 hrr hw7 hw8 hw9
    have hag1:Agree (fun q=>q=w1.heap.size) wd.drew (wd.alloc (.cells #[.string t.name,.int .i64 1,.int .i64 pk,.int .i64 pn,.string ps,.slice pc t.cols.length cc,.slice (some ⟨w7.heap.size,0,none⟩) 1 1] 51)).drew:=agree_alloc (w:=wd) _ (fun q hq=>by subst hq;exact HP.out.pblk.lt)
    have hbm:Below wd.heap.size wd (wd.alloc (.cells #[.string t.name,.int .i64 1,.int .i64 pk,.int .i64 pn,.string ps,.slice pc t.cols.length cc,.slice (some ⟨w7.heap.size,0,none⟩) 1 1] 51)).drew:=((Below.refl _ _).alloc (Nat.le_refl _) _).drew
    obtain ⟨csL,hown0⟩:=HP.out.pown
    have hown:=hown0.below hbm
    have hsm:Sl (wd.alloc (.cells #[.string t.name,.int .i64 1,.int .i64 pk,.int .i64 pn,.string ps,.slice pc t.cols.length cc,.slice (some ⟨w7.heap.size,0,none⟩) 1 1] 51)).drew (fun _=>True) 7 (.slice (some ⟨wd.heap.size,0,none⟩) 1 1) 1 [.string t.name,.int .i64 1,.int .i64 pk,.int .i64 pn,.string ps,.slice pc t.cols.length cc,.slice (some ⟨w7.heap.size,0,none⟩) 1 1] :=
     (Own.made wd 51 7 [.string t.name,.int .i64 1,.int .i64 pk,.int .i64 pn,.string ps,.slice pc t.cols.length cc,.slice (some ⟨w7.heap.size,0,none⟩) 1 1] [] 1 1 rfl th_ones (Nat.le_refl _) (by decide) (Nat.le_refl 7)).sl (fun _ _=>trivial)
    have HBM:=Lib.hid hbm
    have cL0:wd.cell? ⟨w1.heap.size,0,none⟩=some (.slice pL k cL):=HP.out.pblk.cell 0
    have hpl:=HP.out.pblk.lt
    have hfp:∀ i,wd.frozen? ⟨w1.heap.size,i,none⟩=false:=HP.out.pblk.frozen
    obtain ⟨d0,d1,d2,d3,d4,d5,d6⟩:=seven_cells HT.out
    have hld:=HT.out.lt
    clear hbm hown0
    go_upto_region 19 with fail
    refine wp_region_lit_plan [] [(0,0),(1,0),(2,0),(3,0),(4,2),(5,1),(6,3),(7,4),(8,0),(9,0),(10,4)] ((fun q=>q=w1.heap.size)) (by kernel_rfl) (by kernel_rfl) (fun c a d v w h=>by cases d<;>exact h) ?_
    go_wp2_with (first|(refine stp ?_)|(at_builtin;refine wpList_app rfl _ _ rfl elemTh (by rfl) hown (by rfl) hsm (by unfold maxLen;omega) (by omega) ?_;intro v1 wA g1 g2 g3 g4 g5;refine Stp.go ?_))
    refine ⟨?_⟩
    obtain ⟨p1,c1',rfl,hc11,hc12⟩:=g1.sl (B:=fun _=>True) (fun _ _=>trivial) |>.form
    obtain ⟨hE,hkA⟩:=PlS.push hB HP.out HBM.out g1 g2 g3
    have HE:=Lib.hid hE
    have a1:wA.cell? ⟨w1.heap.size,0,none⟩=some (.slice pL k cL):=hkA.cell 0
    have hfA:∀ i,wA.frozen? ⟨w1.heap.size,i,none⟩=false:=hkA.frozen
    have hlA:=hkA.lt
    clear g1 g2 g3 g4 g5 hown hsm hag1 hE hkA cL0 hfp hpl d0 d1 d2 d3 d4 d5 d6 hld
    go_wp2_with fail
    refine plan_pure (v:=_) (by rfl) (by rfl) (by rfl) (by intro _;go_simp;with_reducible rfl) ?_
    simp only [List.setIfInBounds_toArray,List.set_cons_zero,List.set_cons_succ]
    try go_bits
    refine plan_pure (v:=_) (by rfl) (by rfl) (by rfl) (by intro _;go_simp;with_reducible rfl) ?_
    simp only [List.setIfInBounds_toArray,List.set_cons_zero,List.set_cons_succ]
    try go_bits
    refine plan_any (by rfl) ?_
    go_wp2_with fail
    refine plan_nil ?_
    go_wp2_with fail
    go_roundw
    case rel=>exact ⟨k+1,by go_num,by omega,v',_,ks++[⟨t.name,zeroA,.slice pc t.cols.length cc,t.cols,.slice (some ⟨w9.heap.size,0,none⟩) 1 1,[⟨.slice p0 (rl.length) c0,rl⟩],1⟩],HE.out,by rw [HNX.out,List.map_append,HKS.out,HTA.out];rfl⟩
    case measure=>(simp [intOf])<;>omega
  ·skip
   obtain rfl:k=l.length:=by omega
   rw [List.take_length] at HKS
   go_wp2_with fail
   go_ret2
   exact ⟨w.heap.size,w1.heap.size,v,_,ks,rfl,HP.out,HKS.out⟩
def xAw (v:Value):EX:=.two ⟨8,0,⟨#[]⟩,⟨#[]⟩,⟨#[]⟩⟩ v (.leaf ⟨4,0,⟨#[]⟩,⟨#[120]⟩,⟨#[]⟩⟩) (.leaf ⟨1,3,⟨#[]⟩,⟨#[]⟩,⟨#[]⟩⟩)
theorem aw_right (v:Value):rightX (xAw v)=true:=by kernel_rfl
theorem aw_eval (v:Value):evalX (xAw v) [⟨⟨#[120]⟩,⟨1,2,⟨#[]⟩⟩,[],[],0⟩] 9=(⟨1,6,⟨#[]⟩⟩,0,6):=by kernel_rfl
theorem aw_evalS (v:Value):evalS (xAw v) [⟨⟨#[120]⟩,⟨1,2,⟨#[]⟩⟩,[],[],0⟩] 9=(⟨1,6,⟨#[]⟩⟩,0,6):=by
 unfold evalS
 rw [if_pos (aw_right v)]
 exact aw_eval v
theorem aw_okx:Hd.ok ⟨4,0,⟨#[]⟩,⟨#[120]⟩,⟨#[]⟩⟩:=⟨by unfold fit64;simp only;omega,by unfold fit64;simp only;omega,Nat.zero_le _,by decide,Nat.zero_le _⟩
theorem aw_ok (v:Value):(xAw v).ok:=⟨hd_ok (o:=8) (n:=0) (by decide) (by decide) (by decide) (by decide),aw_okx,hd_ok (o:=1) (n:=3) (by decide) (by decide) (by decide) (by decide)⟩
theorem ex_ones2 {o n o' n':Int} {s nm c s' nm' c':ByteArray}:Ones [.int .i64 o,.int .i64 n,.string s,.string nm,.string c,.slice none 0 0,.int .i64 o',.int .i64 n',.string s',.string nm',.string c',.slice none 0 0] :=
 Ones.nil.cons rfl |>.cons rfl |>.cons rfl |>.cons rfl |>.cons rfl |>.cons rfl |>.cons rfl |>.cons rfl |>.cons rfl |>.cons rfl |>.cons rfl |>.cons rfl
theorem awake16_any (w:World):Calls Tryz.prog 6 #[] w fun e w'=>e=.returned (.bool true)∧Below w.heap.size w w':=by
 have HN:=Lib.hid (new_any w 9 9 (by decide) (by decide))
 go_enter Tryz.func6,Tryz.ntmps6
 go_wp2_with fail
 refine HN.out.mono ?_
 clear HN
 rintro e w1 ⟨rfl,he,hb1⟩
 have HL:=Lib.hid (let_any w1 w.heap.size 9 _ [] he (by decide) ⟨#[120]⟩ ⟨1,2,⟨#[]⟩⟩ ⟨by unfold fits;simp only;omega,Nat.zero_le _⟩ (by decide))
 have HB1:=Lib.hid hb1
 clear he hb1
 go_wp2_with fail
 refine HL.out.mono ?_
 clear HL
 rintro e w2 ⟨v,rfl,he,hs⟩
 have hb2:Below w.heap.size w w2:=HB1.out.trans (hs.only.below HB1.out.size (fun q e=>by
  rcases e with e|e
  ·omega
  ·simp [Value.ownBlock] at e))
 obtain ⟨w3,hw3⟩:∃ w3,w2.alloc (.cells #[.int .i64 4,.int .i64 0,.string ⟨#[]⟩,.string ⟨#[120]⟩,.string ⟨#[]⟩,.slice none 0 0,.int .i64 1,.int .i64 3,.string ⟨#[]⟩,.string ⟨#[]⟩,.string ⟨#[]⟩,.slice none 0 0] 27)=w3:=⟨_,rfl⟩
 have hb3:Below w2.heap.size w2 w3:=hw3▸(Below.refl _ _).alloc (Nat.le_refl _) _
 have hel:=he.blk.lt
 have hvl:=he.own.lt
 have hsl:Sl w3 (offE w.heap.size v) 6 (.slice (some ⟨w2.heap.size,0,none⟩) 2 2) 2 [.int .i64 4,.int .i64 0,.string ⟨#[]⟩,.string ⟨#[120]⟩,.string ⟨#[]⟩,.slice none 0 0,.int .i64 1,.int .i64 3,.string ⟨#[]⟩,.string ⟨#[]⟩,.string ⟨#[]⟩,.slice none 0 0] :=
  hw3▸(Own.made w2 27 6 [.int .i64 4,.int .i64 0,.string ⟨#[]⟩,.string ⟨#[120]⟩,.string ⟨#[]⟩,.slice none 0 0,.int .i64 1,.int .i64 3,.string ⟨#[]⟩,.string ⟨#[]⟩,.string ⟨#[]⟩,.slice none 0 0] [] 2 2 rfl ex_ones2 (Nat.le_refl _) (by decide) (Nat.le_refl 12)).sl (fun q hq=>by
   have e2:w2.heap.size=q:=Option.some.inj hq
   exact ⟨by omega,fun e=>by have:=hvl q e;omega⟩)
 obtain ⟨w4,hw4⟩:∃ w4,w3.alloc (.cells #[.int .i64 8,.int .i64 0,.string ⟨#[]⟩,.string ⟨#[]⟩,.string ⟨#[]⟩,.slice (some ⟨w2.heap.size,0,none⟩) 2 2] 27)=w4:=⟨_,rfl⟩
 have hb4:Below w3.heap.size w3 w4:=hw4▸(Below.refl _ _).alloc (Nat.le_refl _) _
 have hk4:Blk w4 w3.heap.size 27 [.int .i64 8,.int .i64 0,.string ⟨#[]⟩,.string ⟨#[]⟩,.string ⟨#[]⟩,.slice (some ⟨w2.heap.size,0,none⟩) 2 2]:=hw4▸Blk.new w3 _ _
 have he4:=(he.below hb3).below hb4
 have hz3:w3.heap.size=w2.heap.size+1:=by rw [←hw3];simp
 rw [hz3] at hk4
 have hev:=evals_any (xAw (.slice (some ⟨w2.heap.size,0,none⟩) 2 2)) (aw_ok _) w4 w.heap.size 9 v _ (some ⟨w2.heap.size,0,none⟩) 2 he4 ⟨hsl.below hb4,trivial,trivial⟩ rfl (by decide)
 have hmap:([]++[(⟨⟨#[120]⟩,⟨1,2,⟨#[]⟩⟩,.slice none 0 0,[],.slice none 0 0,[],0⟩:KnM)]).map KnM.a=[⟨⟨#[120]⟩,⟨1,2,⟨#[]⟩⟩,[],[],0⟩]:=rfl
 rw [hmap,aw_evalS] at hev
 have HE:Hid (Calls Tryz.prog 9 #[.pointer (some ⟨w.heap.size,0,none⟩),.agg #[.int .i64 8,.int .i64 0,.string ⟨#[]⟩,.string ⟨#[]⟩,.string ⟨#[]⟩,.slice (some ⟨w2.heap.size,0,none⟩) 2 2]] w4 (EvOut w4 w.heap.size v ([]++[(⟨⟨#[120]⟩,⟨1,2,⟨#[]⟩⟩,.slice none 0 0,[],.slice none 0 0,[],0⟩:KnM)]) (⟨1,6,⟨#[]⟩⟩,0,6))):=Lib.hid hev
 obtain ⟨d0,d1,d2,d3,d4,d5⟩:=six_cells hk4
 have hld:=hk4.lt
 have hvlo:∀ q,v.ownBlock=some q→w.heap.size≤q:=fun q hq=>by
  rcases hs.own q hq with h1|h1
  ·simp [Value.ownBlock] at h1
  ·have:=HB1.out.size
   omega
 have HVLO:=Lib.hid hvlo
 have HB4:=Lib.hid (hb2.trans ((hb3.trans (hb4.mono hb3.size)).mono hb2.size))
 have HW3:=Lib.hid hw3
 have HW4:=Lib.hid hw4
 clear he hs hb2 hw3 hw4 hz3 hb3 hb4 hsl hel hvl he4 hk4 hev hmap hvlo HB1
 go_upto_region 3 with fail
 rw [HW3.out,HW4.out]
 go_wp2_with fail
 clear d0 d1 d2 d3 d4 d5 hld
 refine HE.out.mono ?_
 clear HE
 rintro e w5 ⟨v',rfl,he,hs⟩
 have hb5:Below w.heap.size w w5:=HB4.out.trans (hs.only.below HB4.out.size (fun q e=>by
  rcases e with e|e
  ·omega
  ·exact HVLO.out q e))
 obtain ⟨w6,hw6⟩:∃ w6,w5.alloc (.cells #[.int .i64 1,.int .i64 6,.string ⟨#[]⟩] 35)=w6:=⟨_,rfl⟩
 have hb6:Below w5.heap.size w5 w6:=hw6▸(Below.refl _ _).alloc (Nat.le_refl _) _
 have hk6:Blk w6 w5.heap.size 35 [.int .i64 1,.int .i64 6,.string ⟨#[]⟩]:=hw6▸Blk.new w5 _ _
 obtain ⟨d0,d1,d2⟩:=three_cells hk6
 have hld:=hk6.lt
 have HLF:=Lib.hid (left_any w6 w.heap.size 6 v' _ (he.below hb6))
 have HB6:=Lib.hid (hb5.trans (hb6.mono hb5.size))
 have HW6:=Lib.hid hw6
 clear he hs hb5 hb6 hk6 hw6
 go_upto_region 4 with fail
 rw [HW6.out]
 go_wp2_with fail
 refine HLF.out.mono ?_
 clear HLF
 rintro e w7 ⟨rfl,rfl⟩
 go_wp2
 go_ret
 exact ⟨rfl,HB6.out⟩
end Go.Proofs.YtnpplhkpnbonaaaGreat
namespace Go.Proofs.YtnpplhkpnbonaaaGreat
open Go.RowKit Go.Afx
theorem left_blk (w:World) (eb:Nat) (f:Int) (v:Value) (hbk:Blk w eb 75 [.int .i64 f,v]):Calls Tryz.prog 10 #[.pointer (some ⟨eb,0,none⟩)] w fun e w'=>e=.returned (.int .i64 f)∧w=w':=by
 have c0:w.cell? ⟨eb,0,none⟩=some (.int .i64 f):=hbk.cell 0
 have hlt:=hbk.lt
 clear hbk
 go_enter Tryz.func10,Tryz.ntmps10
 go_wp2
 go_ret
 exact ⟨rfl,rfl⟩
section
variable {w wr wd : World} {B : Nat → Prop} {eb pb f m : Nat} {v vL : Value} {l : List KnM}
theorem PlS.stay (hB:∀ q,B q→q < w.heap.size) (h:PlS w wr B eb pb f v vL l m) {S:Nat→Prop} (ho:Only S wr wd) (hS:∀ q,S q→q < w.heap.size∧¬ B q):EnvAt wd eb f v l:=by
 have hlo:=h.lo
 have hno:∀ q,w.heap.size≤q→¬ S q:=fun q hq e=>by have:=(hS q e).1;omega
 refine ⟨h.env.blk.only ho (hno _ hlo.1),h.env.own.only ho (fun q hq=>hno q (h.vlo q hq).1),h.env.ne,fun k hk=>?_,h.env.fuel,h.env.lim⟩
 refine (h.kn k hk).move ho.size (fun q hq hl=>ho.block q hl ?_) (fun q hq _=>h.off hB q hq)
 rcases hq with hq|hq
 ·exact fun e=>(hS q e).2 hq
 ·exact hno q hq.1
end
end Go.Proofs.YtnpplhkpnbonaaaGreat
namespace Go.Proofs.YtnpplhkpnbonaaaGreat
open Go.RowKit Go.Afx
def pcB (c:UInt8):Bool:=(decide (97≤c.toNat) && decide (c.toNat≤122)) || (decide (65≤c.toNat) && decide (c.toNat≤90)) || (decide (48≤c.toNat) && decide (c.toNat≤57)) || c.toNat == 95
theorem refpart_any (w:World) (c:UInt8):Calls Tryz.prog 29 #[.int .u8 (c.toNat:Int)] w fun e w'=>e=.returned (.bool (pcB c))∧w=w':=by
 have hc:(c.toNat:Int) < 256:=by have:=c.toNat_lt;omega
 have hp:pcB c=((decide ((97:Int)≤(c.toNat:Int)) && decide ((c.toNat:Int)≤122)) || (decide ((65:Int)≤(c.toNat:Int)) && decide ((c.toNat:Int)≤90)) || (decide ((48:Int)≤(c.toNat:Int)) && decide ((c.toNat:Int)≤57)) || ((c.toNat:Int) == 95)):=by
  unfold pcB
  rw [Bool.eq_iff_iff];simp;omega
 rw [hp]
 have h0:(0:Int)≤(c.toNat:Int):=by omega
 generalize (c.toNat:Int)=n at *
 clear hp
 have hr:n < 48∨(48≤n∧n≤57)∨(57 < n∧n < 65)∨(65≤n∧n≤90)∨(90 < n∧n < 95)∨n=95∨n=96∨(97≤n∧n≤122)∨122 < n:=by omega
 rcases hr with h|h|h|h|h|h|h|h|h
 all_goals
  first|(have d1:decide ((97:Int)≤n)=true:=decide_eq_true (by omega);rw [d1])|(have d1:decide ((97:Int)≤n)=false:=decide_eq_false (by omega);rw [d1])
  first|(have d2:decide (n≤122)=true:=decide_eq_true (by omega);rw [d2])|(have d2:decide (n≤122)=false:=decide_eq_false (by omega);rw [d2])
  first|(have d3:decide ((65:Int)≤n)=true:=decide_eq_true (by omega);rw [d3])|(have d3:decide ((65:Int)≤n)=false:=decide_eq_false (by omega);rw [d3])
  first|(have d4:decide (n≤90)=true:=decide_eq_true (by omega);rw [d4])|(have d4:decide (n≤90)=false:=decide_eq_false (by omega);rw [d4])
  first|(have d5:decide ((48:Int)≤n)=true:=decide_eq_true (by omega);rw [d5])|(have d5:decide ((48:Int)≤n)=false:=decide_eq_false (by omega);rw [d5])
  first|(have d6:decide (n≤57)=true:=decide_eq_true (by omega);rw [d6])|(have d6:decide (n≤57)=false:=decide_eq_false (by omega);rw [d6])
  first|(have d7:(n == 95)=true:=(by rw [beq_iff_eq];omega);rw [d7])|(have d7:(n == 95)=false:=beq_eq_false_iff_ne.2 (by omega);rw [d7])
  go_enter Tryz.func29,Tryz.ntmps29
  go_wp2
  go_ret
  exact ⟨rfl,rfl⟩
def SignOut (w:World) (s:ByteArray) (e:Ending) (w':World):Prop:=∃ t:ByteArray,e=.returned (.string t)∧t.size≤s.size∧Below w.heap.size w w'
def signsB:ByteArray:=⟨#[40,41,123,125,91,93,44,59,58,46,43,45,42,47,37,60,61,62]⟩
theorem extract_size (s:ByteArray) (a b:Nat):(s.extract a b).size≤b - a:=by
 rw [ByteArray.size_extract]
 omega
theorem sgn11_any (w:World) (s:ByteArray) (h1:1≤s.size) (h2:s.size≤1000):Calls Tryz.prog 32 #[.string s] w (SignOut w s):=by
 obtain ⟨c0,hc0⟩:∃ c:Int,((s[0]'(by omega)).toNat:Int)=c:=⟨_,rfl⟩
 go_enter Tryz.func32,Tryz.ntmps32
 go_upto_region 1 with fail
 go_cut [27] (fun t wc=>∃ b,t=.bool b∧wc=w∧(b=true→2≤s.size))
 case first =>
  by_cases hs:1 < s.size
  ·obtain ⟨c1,hc1⟩:∃ c:Int,((s[1]'(by omega)).toNat:Int)=c:=⟨_,rfl⟩
   cases t1:(c1 == 61) with
   | false =>
    go_wp2
    go_meet
    exact ⟨false,rfl,rfl,fun h=>by cases h⟩
   | true =>
   cases t2:(c0 == 60) with
   | true =>
    go_wp2
    go_meet
    exact ⟨_,rfl,rfl,fun _=>hs⟩
   | false =>
   cases t3:(c0 == 33) with
   | true =>
    go_wp2
    go_meet
    exact ⟨_,rfl,rfl,fun _=>hs⟩
   | false =>
    go_wp2
    go_meet
    exact ⟨_,rfl,rfl,fun _=>hs⟩
  ·go_wp2
   go_meet
   exact ⟨false,rfl,rfl,fun h=>by cases h⟩
 case rest =>
 obtain ⟨b,rfl,rfl,hb⟩:=hcut
 cases b with
 | true =>
  have hs:=hb rfl
  clear hc0
  go_wp2
  go_ret
  exact ⟨_,rfl,by rw [ByteArray.size_extract];omega,Below.refl _ _⟩
 | false =>
  go_wp2_with fail
  go_loopw [4] (fun iv wr=>∃ k:Nat,iv=.int .i64 k∧k≤18∧Below wc.heap.size wc wr) (fun iv _=>18 - (intOf iv).toNat)
  case atStart=>exact ⟨0,rfl,Nat.zero_le _,Below.refl _ _⟩
  case round =>
   obtain ⟨k,rfl,hk,hbr⟩:=hrel
   obtain ⟨wo,rfl⟩:∃ wo:World,wo=wr:=⟨_,rfl⟩
   have HBR:=Lib.hid hbr
   clear hbr
   by_cases hkn:k < 18
   ·have h0:0 < s.size:=h1
    have h18:k < (⟨#[40,41,123,125,91,93,44,59,58,46,43,45,42,47,37,60,61,62]⟩:ByteArray).size:=hkn
    obtain ⟨d,hd⟩:∃ d:Int,(((⟨#[40,41,123,125,91,93,44,59,58,46,43,45,42,47,37,60,61,62]⟩:ByteArray)[k]'h18).toNat:Int)=d:=⟨_,rfl⟩
    go_upto_region 7 with fail
    refine wp_region_lit_plan [] [(0,0),(1,0),(2,0),(3,0),(4,0),(5,0),(6,0),(7,0),(8,0),(9,0),(10,0)] (fun _=>False) (by kernel_rfl) (by kernel_rfl) (fun c a d v w h=>by cases d<;>exact h) ?_
    go_upto_if 46 with (first|(refine stp ?_))
    cases hb:(c0 == d) with
    | true =>
     clear hc0 hd
     go_wp2
     go_ret
     exact ⟨_,rfl,by rw [ByteArray.size_extract];omega,HBR.out.drew⟩
    | false =>
     clear hc0 hd
     go_wp2
     go_roundw
     case rel=>exact ⟨k+1,by go_num,by omega,HBR.out.drew⟩
     case measure=>(simp [intOf])<;>omega
   ·go_wp2
    go_ret
    exact ⟨_,rfl,Nat.zero_le _,HBR.out⟩
end Go.Proofs.YtnpplhkpnbonaaaGreat
namespace Go.Afx
def ld (u:Nat):List Nat:=if _h:u=0 then [] else u % 10::ld (u / 10)
decreasing_by exact Nat.div_lt_self (by omega) (by omega)
theorem ld_zero:ld 0=[]:=by rw [ld];simp
theorem ld_pos (u:Nat) (h:0 < u):ld u=u % 10::ld (u / 10):=by rw [ld,dif_neg (by omega)]
def vd:List Nat→Nat
 | []=>0
 | x::t=>x+10*vd t
def D10 (d:List Nat):Prop:=∀ x∈d,x < 10
theorem vd_ld (u:Nat):vd (ld u)=u:=by
 induction u using Nat.strongRecOn with
 | ind u ih =>
  rcases Nat.eq_zero_or_pos u with h|h
  ·subst h;rw [ld_zero];rfl
  ·rw [ld_pos u h,vd,ih (u / 10) (Nat.div_lt_self h (by omega))];omega
theorem ld_D10 (u:Nat):D10 (ld u):=by
 induction u using Nat.strongRecOn with
 | ind u ih =>
  rcases Nat.eq_zero_or_pos u with h|h
  ·subst h;rw [ld_zero];intro x hx;simp at hx
  ·rw [ld_pos u h]
   intro x hx
   rcases List.mem_cons.1 hx with rfl|hx
   ·omega
   ·exact ih (u / 10) (Nat.div_lt_self h (by omega)) x hx
theorem vd_append (a b:List Nat):vd (a++b)=vd a+10 ^ a.length*vd b:=by
 induction a with
 | nil=>simp [vd]
 | cons x a ih =>
  rw [List.cons_append,vd,ih,vd,List.length_cons,Nat.pow_succ,Nat.mul_add,←Nat.mul_assoc,Nat.mul_comm 10 (10 ^ a.length)]
  omega
theorem vd_lt (d:List Nat) (h:D10 d):vd d < 10 ^ d.length:=by
 induction d with
 | nil=>simp [vd]
 | cons x d ih =>
  have h1:=h x (by simp)
  have h2:=ih (fun y hy=>h y (by simp [hy]))
  rw [vd,List.length_cons,Nat.pow_succ]
  omega
theorem vd_next (d:List Nat) (k:Nat):vd (d.take (k+1))=vd (d.take k)+10 ^ k*d.getD k 0:=by
 by_cases h:k < d.length
 ·rw [←List.take_append_getElem h,vd_append,List.length_take,Nat.min_eq_left (by omega)]
  simp [vd,List.getD,h]
 ·rw [List.take_of_length_le (by omega),List.take_of_length_le (by omega)]
  simp [List.getD,List.getElem?_eq_none (show d.length≤k by omega)]
theorem D10.take {d:List Nat} (h:D10 d) (k:Nat):D10 (d.take k):=fun x hx=>h x (List.mem_of_mem_take hx)
theorem D10.drop {d:List Nat} (h:D10 d) (k:Nat):D10 (d.drop k):=fun x hx=>h x (List.mem_of_mem_drop hx)
theorem D10.getD {d:List Nat} (h:D10 d) (k:Nat):d.getD k 0 < 10:=by
 by_cases hk:k < d.length
 ·have:d.getD k 0=d[k]:=by simp [List.getD,hk]
  rw [this];exact h _ (List.getElem_mem hk)
 ·simp [List.getD,List.getElem?_eq_none (show d.length≤k by omega)]
theorem D10.append {a b:List Nat} (ha:D10 a) (hb:D10 b):D10 (a++b):=fun x hx=>by
 rcases List.mem_append.1 hx with h|h
 ·exact ha x h
 ·exact hb x h
theorem vd_pos_of_last (d:List Nat) (x:Nat) (hx:x≠0):0 < vd (d++[x]):=by
 rw [vd_append]
 have:0 < 10 ^ d.length*vd [x]:=Nat.mul_pos (Nat.pow_pos (by omega)) (by simp [vd];omega)
 omega
theorem canon (d:List Nat) (x:Nat) (h:D10 (d++[x])) (hx:x≠0):d++[x]=ld (vd (d++[x])):=by
 induction d with
 | nil =>
  have h1:=h x (by simp)
  show [x]=ld (x+10*0)
  rw [Nat.mul_zero,Nat.add_zero,ld_pos x (by omega),show x / 10=0 by omega,ld_zero,show x % 10=x by omega]
 | cons y d ih =>
  have h1:=h y (by simp)
  have h2:=ih (fun z hz=>h z (by rw [List.cons_append];exact List.mem_cons_of_mem _ hz))
  have h3:=vd_pos_of_last d x hx
  rw [List.cons_append,vd,ld_pos _ (by omega)]
  have e1:(y+10*vd (d++[x])) % 10=y:=by omega
  have e2:(y+10*vd (d++[x])) / 10=vd (d++[x]):=by omega
  rw [e1,e2,←h2]
theorem ld_lt (u:Nat):u < 10 ^ (ld u).length:=by
 have:=vd_lt (ld u) (ld_D10 u)
 rwa [vd_ld] at this
theorem ld_ge (u:Nat) (h:0 < u):10 ^ ((ld u).length - 1)≤u:=by
 induction u using Nat.strongRecOn with
 | ind u ih =>
  rw [ld_pos u h,List.length_cons,Nat.add_sub_cancel]
  rcases Nat.eq_zero_or_pos (u / 10) with h2|h2
  ·rw [h2,ld_zero];simp;omega
  ·have h3:=ih (u / 10) (Nat.div_lt_self h (by omega)) h2
   have h4:0 < (ld (u / 10)).length:=by rw [ld_pos _ h2];simp
   obtain ⟨k,hk⟩:∃ k,(ld (u / 10)).length=k+1:=⟨_,(Nat.succ_pred_eq_of_pos h4).symm⟩
   rw [hk,Nat.add_sub_cancel] at h3
   rw [hk,Nat.pow_succ]
   omega
theorem ld_len_le (u k:Nat) (h:u < 10 ^ k):(ld u).length≤k:=by
 rcases Nat.eq_zero_or_pos u with h0|h0
 ·subst h0;rw [ld_zero];simp
 ·have h1:=ld_ge u h0
  have h2:10 ^ ((ld u).length - 1) < 10 ^ k:=Nat.lt_of_le_of_lt h1 h
  have h3:=(Nat.pow_lt_pow_iff_right (by omega:1 < 10)).1 h2
  omega
theorem ld_len_mono {x y:Nat} (h:x≤y):(ld x).length≤(ld y).length:=ld_len_le x _ (Nat.lt_of_le_of_lt h (ld_lt y))
theorem ld_len_lt {x y:Nat} (h:(ld x).length < (ld y).length):x < y:=by
 rcases Nat.lt_or_ge x y with h2|h2
 ·exact h2
 ·have:=ld_len_mono h2;omega
theorem ld_nil_iff (u:Nat):(ld u).length=0↔u=0:=by
 constructor
 ·intro h
  rcases Nat.eq_zero_or_pos u with h0|h0
  ·exact h0
  ·rw [ld_pos u h0] at h;simp at h
 ·rintro rfl;rw [ld_zero];rfl
theorem vd_split (d:List Nat) (i:Nat):vd d=vd (d.take i)+10 ^ i*vd (d.drop i):=by
 by_cases h:i≤d.length
 ·conv=>lhs;rw [←List.take_append_drop i d]
  rw [vd_append,List.length_take,Nat.min_eq_left h]
 ·rw [List.take_of_length_le (by omega),List.drop_of_length_le (by omega)]
  simp [vd]
theorem vd_drop (d:List Nat) (i:Nat) (h:i < d.length):vd (d.drop i)=d[i]+10*vd (d.drop (i+1)):=by
 rw [List.drop_eq_getElem_cons h,vd]
theorem vd_less (a b:List Nat) (ha:D10 a) (hb:D10 b) (i:Nat) (h1:i < a.length) (h2:i < b.length) (hd:a.drop (i+1)=b.drop (i+1)) (hne:a[i]≠b[i]):(a[i] < b[i])↔vd a < vd b:=by
 rw [vd_split a i,vd_split b i,vd_drop a i h1,vd_drop b i h2,hd]
 have h3:vd (a.take i) < 10 ^ i:=by
  have:=vd_lt _ (ha.take i)
  rwa [List.length_take,Nat.min_eq_left (by omega)] at this
 have h4:vd (b.take i) < 10 ^ i:=by
  have:=vd_lt _ (hb.take i)
  rwa [List.length_take,Nat.min_eq_left (by omega)] at this
 generalize vd (a.take i)=x at *
 generalize vd (b.take i)=y at *
 generalize vd (b.drop (i+1))=z at *
 generalize a[i]=p at *
 generalize b[i]=q at *
 generalize 10 ^ i=t at *
 constructor
 ·intro h
  have h5:t*(p+10*z)+t≤t*(q+10*z):=by
   rw [←Nat.mul_succ];exact Nat.mul_le_mul_left t (by omega)
  omega
 ·intro h
  rcases Nat.lt_or_ge p q with h6|h6
  ·exact h6
  ·have h5:t*(q+10*z)+t≤t*(p+10*z):=by
    rw [←Nat.mul_succ];exact Nat.mul_le_mul_left t (by omega)
   omega
theorem vd_set (d:List Nat) (j x:Nat) (h:j < d.length):vd (d.set j (d[j]+x))=vd d+10 ^ j*x:=by
 induction d generalizing j with
 | nil=>simp at h
 | cons y d ih =>
  cases j with
  | zero=>simp [vd];omega
  | succ j =>
   rw [List.set_cons_succ,vd,vd]
   have h2:j < d.length:=by simpa using h
   have h3:(y::d)[j+1]=d[j]:=rfl
   rw [h3,ih j h2,Nat.pow_succ,Nat.mul_add,Nat.mul_comm (10 ^ j) 10,Nat.mul_assoc]
   omega
theorem vd_set_sub (d:List Nat) (j y:Nat) (h:j < d.length) (hy:y≤d[j]):vd (d.set j y)+10 ^ j*(d[j] - y)=vd d:=by
 have e:=vd_set (d.set j y) j (d[j] - y) (by simpa using h)
 rw [List.set_set] at e
 have h2:(d.set j y)[j]'(by simpa using h)=y:=by simp
 rw [h2,show y+(d[j] - y)=d[j] by omega,List.set_getElem_self] at e
 exact e.symm
theorem vd_zeros (n:Nat):vd (List.replicate n 0)=0:=by
 induction n with
 | zero=>rfl
 | succ n ih=>rw [List.replicate_succ,vd,ih]
end Go.Afx
namespace Go.Proofs.YtnpplhkpnbonaaaGreat
open Go.RowKit Go.Afx
def nats (d:List Nat):List Value:=ints (d.map fun n:Nat=>(n:Int))
def slLen:Value→Nat
 | .slice _ n _=>n
 | _=>0
theorem nats_get (d:List Nat) (k:Nat) (h:k < d.length):(nats d)[k]?=some (.int .i64 (d[k]:Int)):=by simp [nats,ints,h]
theorem nats_length (d:List Nat):(nats d).length=d.length:=by simp [nats,ints]
theorem nats_append (a b:List Nat):nats (a++b)=nats a++nats b:=by simp [nats,ints]
theorem nats_take (d:List Nat) (k:Nat):(nats d).take k=nats (d.take k):=by simp [nats,ints,List.map_take]
theorem nats_set (d:List Nat) (k x:Nat):(nats d).set k (.int .i64 (x:Int))=nats (d.set k x):=by simp [nats,ints,List.map_set]
def IsNum (w:World) (B:Nat→Prop) (v:Value) (z:Int):Prop :=
 ∃ dv,v=.agg #[.bool (decide (z < 0)),dv]∧Sl w B 1 dv (ld z.natAbs).length (nats (ld z.natAbs))
theorem IsNum.below {w w':World} {B:Nat→Prop} {v:Value} {z:Int} (h:IsNum w B v z) (hb:Below w.heap.size w w'):IsNum w' B v z:=by
 obtain ⟨dv,rfl,h2⟩:=h
 exact ⟨dv,rfl,h2.below hb⟩
theorem sl_nat {w:World} {B:Nat→Prop} {v:Value} {d:List Nat} (h:Sl w B 1 v d.length (nats d)) {k:Nat} (hk:k < d.length) :
 ∃ g off cap,v=.slice (some ⟨g,off,none⟩) d.length cap∧g < w.heap.size∧w.cell? ⟨g,off+k,none⟩=some (.int .i64 (d[k]:Int)):=by
 obtain ⟨g,off,cap,hv,_,_,hgb,hglt,hc⟩:=h.place (by omega)
 exact ⟨g,off,cap,hv,hglt,by rw [hc k (by rw [nats_length];exact hk),nats_get d k hk]⟩
theorem trim_any (w:World) (B:Nat→Prop) (v:Value) (d:List Nat) (hd:D10 d) (hl:Sl w B 1 v d.length (nats d)) (_:d.length≤1000000) :
 Calls Tryz.prog 82 #[v] w fun e w'=>∃ v',e=.returned v'∧Sl w B 1 v' (ld (vd d)).length (nats (ld (vd d)))∧w=w':=by
 obtain ⟨p,cap,rfl,hc1,hc2⟩:=hl.form
 have HL:=Lib.hid hl
 have HD:=Lib.hid hd
 clear hl hd
 go_enter Tryz.func82,Tryz.ntmps82
 go_wp2
 go_loopw [0] (fun x wr=>∃ k:Nat,x=.slice p k cap∧k≤d.length∧vd (d.take k)=vd d∧w=wr) (fun x _=>slLen x)
 case atStart=>exact ⟨d.length,rfl,Nat.le_refl _,by rw [List.take_length],rfl⟩
 case round =>
  obtain ⟨k,rfl,hk,hv,rfl⟩:=hrel
  have HV:=Lib.hid hv
  clear hv
  rcases Nat.eq_zero_or_pos k with rfl|hpos
  ·go_wp2
   go_ret
   refine ⟨_,rfl,?_,rfl⟩
   have e:vd d=0:=by rw [←HV.out];rfl
   rw [e,ld_zero]
   have:=HL.out.take (Nat.zero_le d.length)
   simpa [nats,ints] using this
  ·obtain ⟨j,rfl⟩:∃ j,k=j+1:=⟨k - 1,by omega⟩
   have hj:j < d.length:=by omega
   obtain ⟨g,off,cap',hvv,hglt,hck⟩:=sl_nat HL.out hj
   cases hvv
   have HN:=Lib.hid (vd_next d j)
   have hg:d.getD j 0=d[j]:=by simp [List.getD,hj]
   by_cases h0:d[j]=0
   ·rw [h0] at hck
    clear hg
    go_wp2
    refine ⟨⟨j,rfl,by omega,?_,trivial⟩,by show j < j+1;omega⟩
    have:=HN.out
    rw [HV.out] at this
    rw [this]
    simp [List.getD,hj,h0]
   ·have h1:((d[j]:Int) == 0)=false:=by rw [beq_eq_false_iff_ne];omega
    have hcn:Hid (d.take (j+1)=ld (vd d)):=by
     show _=_
     rw [←HV.out,←List.take_append_getElem hj]
     refine canon _ _ ?_ h0
     rw [List.take_append_getElem hj];exact HD.out.take _
    generalize (d[j]:Int)=x at *
    clear hg h0
    go_wp2
    go_ret
    refine ⟨_,rfl,?_,rfl⟩
    have:=HL.out.take (m:=j+1) (by omega)
    rw [Nat.mul_one,nats_take] at this
    rw [←hcn.out,List.length_take,Nat.min_eq_left (by omega)]
    exact this
theorem Sl.lift {w w':World} {B:Nat→Prop} {sz:Nat} {v:Value} {n:Nat} {cs:List Value} (h:Sl w B sz v n cs) (hb:Below w.heap.size w w'):Sl w' (fun k=>k < w.heap.size∧B k) sz v n cs :=
 h.mono hb.size (fun k _ hk=>hb.block k hk) (fun _ h1 h2=>⟨h2,h1⟩)
theorem Sl.back {w w':World} {B:Nat→Prop} {sz:Nat} {v:Value} {n:Nat} {cs:List Value} (h:Sl w' (fun k=>k < w.heap.size∧B k) sz v n cs) (hb:Below w.heap.size w w'):Sl w B sz v n cs:=by
 refine ⟨h.1,h.2.1,?_⟩
 rcases h.2.2 with h2|⟨b,o,cap,e1,e2,e3,e4,_,e6⟩
 ·exact .inl h2
 ·exact .inr ⟨b,o,cap,e1,e2,e3,e4.2,e4.1,fun j hj=>by rw [←e6 j hj];exact (hb.cell (p:=⟨b,o+j,none⟩) e4.1).symm⟩
theorem sgn_law (neg:Bool) (u:Nat):(neg && decide (0 < (ld u).length))=decide (sgn neg (u:Int) < 0)∧(sgn neg (u:Int)).natAbs=u:=by
 have h:=ld_nil_iff u
 cases neg
 ·refine ⟨?_,by simp [sgn]⟩
  rw [Bool.false_and]
  symm
  apply decide_eq_false
  unfold sgn
  simp
 ·refine ⟨?_,by simp [sgn]⟩
  rw [Bool.true_and]
  apply decide_eq_decide.2
  unfold sgn
  simp
  omega
theorem sign_any (w:World) (B:Nat→Prop) (neg:Bool) (v:Value) (d:List Nat) (hd:D10 d) (hl:Sl w B 1 v d.length (nats d)) (hlen:d.length≤1000000) :
 Calls Tryz.prog 54 #[.bool neg,v] w fun e w'=>∃ v',e=.returned v'∧IsNum w' B v' (sgn neg (vd d))∧Below w.heap.size w w':=by
 have HT:Hid (∀ w':World,Below w.heap.size w w'→Calls Tryz.prog 82 #[v] w' fun e w2=>∃ v',e=.returned v'∧Sl w B 1 v' (ld (vd d)).length (nats (ld (vd d)))∧w'=w2) :=
  fun w' h=>(trim_any w' _ v d hd (Sl.lift hl h) hlen).mono fun e w2 ⟨v',h1,h2,h3⟩=>⟨v',h1,Sl.back h2 h,h3⟩
 obtain ⟨e1,e2⟩:=sgn_law neg (vd d)
 obtain ⟨p,cap,rfl,hc1,hc2⟩:=hl.form
 have E1:=Lib.hid e1
 have E2:=Lib.hid e2
 have hle:(ld (vd d)).length≤d.length:=ld_len_le _ _ (vd_lt d hd)
 clear hd hl e1 e2
 generalize sgn neg (vd d)=z at *
 generalize hq:ld (vd d)=q at *
 have HQ:=Lib.hid hq
 clear hq
 cases neg
 ·have E3:Hid (decide (z < 0)=false):=by rw [←E1.out];exact Lib.hid (Bool.false_and _)
  go_enter Tryz.func54,Tryz.ntmps54
  go_wp2_with (go_at_call 82;refine (HT.out _ ((Below.refl _ _).alloc (Nat.le_refl _) _)).mono ?_;rintro e w2 ⟨v2,rfl,h2,rfl⟩;obtain ⟨p2,cap2,rfl,hd1,hd2⟩:=h2.form;have H2:=Lib.hid h2;clear h2)
  refine bodyPost_ret (v:=.agg #[.bool false,.slice p2 q.length cap2]) (by simp [results,Tryz.results54,go_sem]) rfl ⟨_,rfl,⟨_,by rw [E3.out],?_⟩,?_⟩
  ·rw [E2.out,HQ.out]
   refine H2.out.below ?_
   repeat (with_reducible first|exact Below.refl _ _|apply Below.drew|(refine Below.alloc ?_ (by first|omega|(simp;omega)|simp) _)|(refine Below.setCell ?_ (by first|omega|(simp;omega)|simp) _))
  ·skip
   repeat (with_reducible first|exact Below.refl _ _|apply Below.drew|(refine Below.alloc ?_ (by first|omega|(simp;omega)|simp) _)|(refine Below.setCell ?_ (by first|omega|(simp;omega)|simp) _))
 ·have E3:Hid (decide (z < 0)=decide (0 < q.length)):=by rw [←E1.out];exact Lib.hid (Bool.true_and _)
  go_enter Tryz.func54,Tryz.ntmps54
  go_wp2_with (go_at_call 82;refine (HT.out _ ((Below.refl _ _).alloc (Nat.le_refl _) _)).mono ?_;rintro e w2 ⟨v2,rfl,h2,rfl⟩;obtain ⟨p2,cap2,rfl,hd1,hd2⟩:=h2.form;have H2:=Lib.hid h2;clear h2)
  refine bodyPost_ret (v:=.agg #[.bool (decide (0 < q.length)),.slice p2 q.length cap2]) (by simp [results,Tryz.results54,go_sem]) rfl ⟨_,rfl,⟨_,by rw [E3.out],?_⟩,?_⟩
  ·rw [E2.out,HQ.out]
   refine H2.out.below ?_
   repeat (with_reducible first|exact Below.refl _ _|apply Below.drew|(refine Below.alloc ?_ (by first|omega|(simp;omega)|simp) _)|(refine Below.setCell ?_ (by first|omega|(simp;omega)|simp) _))
  ·skip
   repeat (with_reducible first|exact Below.refl _ _|apply Below.drew|(refine Below.alloc ?_ (by first|omega|(simp;omega)|simp) _)|(refine Below.setCell ?_ (by first|omega|(simp;omega)|simp) _))
theorem own_form1 {w:World} {e:TypeId} {sz:Nat} {v:Value} {n:Nat} {cs:List Value} (h:Own w e sz v n cs):∃ p cap,v=.slice p n cap∧n≤cap∧cap≤9223372036854775807 :=
 (h.sl (B:=fun _=>True) fun _ _=>trivial).form
theorem push_post {w w2:World} {dv v1:Value} {d:List Nat} {x N:Nat} (hN:N≤w.heap.size) (hf:∀ k,dv.ownBlock=some k→N≤k)
 (g1:Own w2 3 1 v1 (d.length+1) (nats d++[.int .i64 (x:Int)])) (g2:Only (fun k=>dv.ownBlock=some k) (w.alloc (.cells #[.int .i64 (x:Int)] 3)) w2)
 (g3:v1.ownBlock=dv.ownBlock∨v1.ownBlock=some (w.alloc (.cells #[.int .i64 (x:Int)] 3)).heap.size) :
 Own w2 3 1 v1 (d++[x]).length (nats (d++[x]))∧Only (fun k=>dv.ownBlock=some k) w w2∧(∀ k,v1.ownBlock=some k→N≤k)∧Below N w w2:=by
 have ho:Only (fun k=>dv.ownBlock=some k) w w2:=((Only.refl _ w).alloc _).trans g2 (fun _ _ h=>h)
 refine ⟨?_,ho,fun k hk=>?_,ho.below hN hf⟩
 ·rw [nats_append,List.length_append];exact g1
 ·rcases g3 with h|h
  ·exact hf k (by rw [←h];exact hk)
  ·rw [h] at hk
   have:(w.alloc (.cells #[.int .i64 (x:Int)] 3)).heap.size=k:=by simpa using hk
   simp at this
   omega
theorem one_int (w:World) (x:Nat):Sl (w.alloc (.cells #[.int .i64 (x:Int)] 3)) (fun _=>True) 1 (.slice (some ⟨w.heap.size,0,none⟩) 1 1) 1 [.int .i64 (x:Int)] :=
 (Own.made w 3 1 [.int .i64 (x:Int)] [] 1 1 rfl (Ones.nil.cons rfl) (Nat.le_refl _) (by simp [maxLen]) (by simp)).sl (fun _ _=>trivial)
theorem of_num (w:World) (n:Int) (hn:fits n) :
 Calls Tryz.prog 80 #[.int .i64 n] w fun e w'=>∃ v',e=.returned v'∧IsNum w' (fun k=>w.heap.size < k) v' n∧Below w.heap.size w w':=by
 have e1:(if n < 0 then IntKind.u64.wrap (-IntKind.u64.wrap n) else IntKind.u64.wrap n)=(n.natAbs:Int):=by
  unfold fits at hn
  split
  ·rw [IntKind.wrap_u64,IntKind.wrap_u64];omega
  ·rw [IntKind.wrap_u64];omega
 have hu:n.natAbs < 10 ^ 19:=by unfold fits at hn;omega
 have hz:sgn (decide (n < 0)) (n.natAbs:Int)=n:=by
  unfold sgn
  by_cases h:n < 0
  ·rw [decide_eq_true h,if_pos rfl];omega
  ·rw [decide_eq_false h,if_neg (by decide)];omega
 have HU:=Lib.hid hu
 have HZ:=Lib.hid hz
 clear hn hu hz
 generalize n.natAbs=u at *
 have HB0:Hid (Blk (w.alloc (.cells #[.bool false,.slice none 0 0] 102)) w.heap.size 102 [.bool false,.slice none 0 0]):=Blk.new w _ _
 by_cases hneg:n < 0
 ·rw [if_pos hneg] at e1
  go_enter Tryz.func80,Tryz.ntmps80
  go_wp2
  generalize hw0:w.alloc (.cells #[.bool false,.slice none 0 0] 102)=w0 at *
  have HL0:Hid (Below w.heap.size w w0):=by rw [←hw0];exact (Below.refl _ _).alloc (Nat.le_refl _) _
  have HS0:Hid (w.heap.size+1≤w0.heap.size):=by rw [←hw0];show _≤_;simp
  clear hw0 e1
  go_loopw [3,4] (fun a x wr=>∃ (y:Nat) (d:List Nat),a=.int .u64 (y:Int)∧d++ld y=ld u∧Own wr 3 1 x d.length (nats d)∧(∀ k,x.ownBlock=some k→w.heap.size+1≤k)∧Below (w.heap.size+1) w0 wr) (fun a _ _=>(intOf a).toNat)
  case atStart=>exact ⟨u,[],rfl,rfl,Own.nil _ _ _,by simp [Value.ownBlock],Below.refl _ _⟩
  case round =>
   obtain ⟨y,d,rfl,hd,how,hfr,hb⟩:=hrel
   obtain ⟨p4,c4,rfl,hc41,hc42⟩:=own_form1 how
   have hdl:d.length≤19:=by
    have h1:=ld_len_le u 19 HU.out
    rw [←hd,List.length_append] at h1
    omega
   have hy64:y < 18446744073709551616:=by
    have h1:y < 10 ^ 19:=by
     have h2:vd (d++ld y)=u:=by rw [hd,vd_ld]
     rw [vd_append,vd_ld] at h2
     have h3:y≤10 ^ d.length*y:=Nat.le_mul_of_pos_left _ (Nat.pow_pos (by omega))
     have h4:=HU.out
     omega
    omega
   have HD:=Lib.hid hd
   have HW:=Lib.hid how
   have HF:=Lib.hid hfr
   have HB:=Lib.hid hb
   rcases Nat.eq_zero_or_pos y with h0|hpos
   ·subst h0
    have hd2:Hid (d=ld u):=by show _=_;rw [←HD.out,ld_zero,List.append_nil]
    have HSG:Hid (Calls Tryz.prog 54 #[.bool true,.slice p4 d.length c4] wr fun e w'=>∃ v',e=.returned v'∧IsNum w' (fun k=>w.heap.size < k) v' n∧Below wr.heap.size wr w'):=by
     have h1:=sign_any wr (fun k=>w.heap.size < k) true (.slice p4 d.length c4) d (by rw [hd2.out];exact ld_D10 u) (how.sl fun k hk=>hfr k hk) (by omega)
     have h3:vd d=u:=by rw [hd2.out,vd_ld]
     rw [h3] at h1
     have h2:sgn true (u:Int)=n:=by rw [←HZ.out];congr 1;exact (decide_eq_true hneg).symm
     rw [h2] at h1
     exact h1
    have HRB:Hid (Blk wr w.heap.size 102 [.bool false,.slice none 0 0]):=HB0.out.only (S:=fun k=>w.heap.size+1≤k) (Only.of_below hb (fun i _ h=>by omega)) (by omega)
    clear hd how hfr hb HD HW HF hy64
    go_wp2_with (first
     | (go_at_call 54;refine HSG.out.mono ?_;rintro e w2 ⟨v2,rfl,h2,hb2⟩;obtain ⟨dv2,rfl,h3⟩:=h2;obtain ⟨p3,cap3,rfl,hd31,hd32⟩:=h3.form;have HRB2:=Lib.hid (HRB.out.below hb2);
        have hc0:w2.cell? ⟨w.heap.size,0,none⟩=some (.bool false):=HRB2.out.cell 0;have hc1:w2.cell? ⟨w.heap.size,1,none⟩=some (.slice none 0 0):=HRB2.out.cell 1;have hf:∀ i,w2.frozen? ⟨w.heap.size,i,none⟩=false:=HRB2.out.frozen;have H3:=Lib.hid h3;clear h3))
    have HR3:=(HRB2.out.set 0 (.bool true)).set 1 (.slice p3 (ld n.natAbs).length cap3)
    have c0:=HR3.cell 0
    have c1:=HR3.cell 1
    refine bodyPost_ret (v:=.agg #[.bool true,.slice p3 (ld n.natAbs).length cap3]) (by simp [results,Tryz.results80,go_sem,c0,c1]) rfl ⟨_,rfl,⟨_,by rw [decide_eq_true hneg],?_⟩,?_⟩
    ·exact H3.out.only (((Only.refl (fun k=>k=w.heap.size) w2).setCell (p:=⟨w.heap.size,0,none⟩) (fun _=>rfl) _).setCell (p:=⟨w.heap.size,1,none⟩) (fun _=>rfl) _) (fun k h1 h2=>by omega)
    ·have h1:=HL0.out.trans (HB.out.mono (Nat.le_succ _))
     have h2:=h1.trans (hb2.mono h1.size)
     exact (h2.setCell (Nat.le_refl _) _).setCell (Nat.le_refl _) _
   ·have hp1:(0:Int) < y:=by omega
    have hwr:IntKind.u64.wrap ((y:Int) / 10)=(y:Int) / 10:=by rw [IntKind.wrap_u64];omega
    have ho1:=how.alloc (.cells #[.int .i64 ((y:Int) % 10)] 3)
    have hs1:=one_int wr (y % 10)
    have e9:((y % 10:Nat):Int)=(y:Int) % 10:=by omega
    rw [e9] at hs1
    clear hd how hfr hb e9
    go_wp2_with (first
     | (at_builtin;refine wpList_app rfl _ _ rfl elemInt (by rfl) ho1 (by rfl) hs1 (by unfold maxLen;omega) (by omega) ?_;intro v1 w2 g1 g2 g3 g4 g5;clear hs1 ho1;
        have G1:=Lib.hid g1;have G2:=Lib.hid g2;have G3:=Lib.hid g3;clear g1 g2 g3 g4 g5))
    have hsz0:w.heap.size+1≤wr.heap.size:=Nat.le_trans HS0.out HB.out.size
    have e9:((y % 10:Nat):Int)=(y:Int) % 10:=by omega
    obtain ⟨k1,k2,k3,k4⟩:=push_post (x:=y % 10) hsz0 HF.out (by rw [e9];exact G1.out) (by rw [e9];exact G2.out) (by rw [e9];exact G3.out)
    refine ⟨⟨y / 10,d++[y % 10],by congr 1,?_,k1,k3,HB.out.trans k4⟩,?_⟩
    ·rw [List.append_assoc,←HD.out,ld_pos y hpos];rfl
    ·show ((y:Int) / 10).toNat < (y:Int).toNat
     omega
 ·rw [if_neg hneg] at e1
  have hneg2:0≤n:=by omega
  have hdn:decide (n < 0)=false:=decide_eq_false hneg
  go_enter Tryz.func80,Tryz.ntmps80
  go_wp2
  generalize hw0:w.alloc (.cells #[.bool false,.slice none 0 0] 102)=w0 at *
  have HL0:Hid (Below w.heap.size w w0):=by rw [←hw0];exact (Below.refl _ _).alloc (Nat.le_refl _) _
  have HS0:Hid (w.heap.size+1≤w0.heap.size):=by rw [←hw0];show _≤_;simp
  clear hw0 e1
  go_loopw [3,4] (fun a x wr=>∃ (y:Nat) (d:List Nat),a=.int .u64 (y:Int)∧d++ld y=ld u∧Own wr 3 1 x d.length (nats d)∧(∀ k,x.ownBlock=some k→w.heap.size+1≤k)∧Below (w.heap.size+1) w0 wr) (fun a _ _=>(intOf a).toNat)
  case atStart=>exact ⟨u,[],rfl,rfl,Own.nil _ _ _,by simp [Value.ownBlock],Below.refl _ _⟩
  case round =>
   obtain ⟨y,d,rfl,hd,how,hfr,hb⟩:=hrel
   obtain ⟨p4,c4,rfl,hc41,hc42⟩:=own_form1 how
   have hdl:d.length≤19:=by
    have h1:=ld_len_le u 19 HU.out
    rw [←hd,List.length_append] at h1
    omega
   have hy64:y < 18446744073709551616:=by
    have h1:y < 10 ^ 19:=by
     have h2:vd (d++ld y)=u:=by rw [hd,vd_ld]
     rw [vd_append,vd_ld] at h2
     have h3:y≤10 ^ d.length*y:=Nat.le_mul_of_pos_left _ (Nat.pow_pos (by omega))
     have h4:=HU.out
     omega
    omega
   have HD:=Lib.hid hd
   have HW:=Lib.hid how
   have HF:=Lib.hid hfr
   have HB:=Lib.hid hb
   rcases Nat.eq_zero_or_pos y with h0|hpos
   ·subst h0
    have hd2:Hid (d=ld u):=by show _=_;rw [←HD.out,ld_zero,List.append_nil]
    have HSG:Hid (Calls Tryz.prog 54 #[.bool false,.slice p4 d.length c4] wr fun e w'=>∃ v',e=.returned v'∧IsNum w' (fun k=>w.heap.size < k) v' n∧Below wr.heap.size wr w'):=by
     have h1:=sign_any wr (fun k=>w.heap.size < k) false (.slice p4 d.length c4) d (by rw [hd2.out];exact ld_D10 u) (how.sl fun k hk=>hfr k hk) (by omega)
     have h3:vd d=u:=by rw [hd2.out,vd_ld]
     rw [h3] at h1
     have h2:sgn false (u:Int)=n:=by rw [←HZ.out];congr 1;exact (decide_eq_false (by omega)).symm
     rw [h2] at h1
     exact h1
    have HRB:Hid (Blk wr w.heap.size 102 [.bool false,.slice none 0 0]):=HB0.out.only (S:=fun k=>w.heap.size+1≤k) (Only.of_below hb (fun i _ h=>by omega)) (by omega)
    clear hd how hfr hb HD HW HF hy64
    go_wp2_with (first
     | (go_at_call 54;refine HSG.out.mono ?_;rintro e w2 ⟨v2,rfl,h2,hb2⟩;obtain ⟨dv2,rfl,h3⟩:=h2;obtain ⟨p3,cap3,rfl,hd31,hd32⟩:=h3.form;have HRB2:=Lib.hid (HRB.out.below hb2);
        have hc0:w2.cell? ⟨w.heap.size,0,none⟩=some (.bool false):=HRB2.out.cell 0;have hc1:w2.cell? ⟨w.heap.size,1,none⟩=some (.slice none 0 0):=HRB2.out.cell 1;have hf:∀ i,w2.frozen? ⟨w.heap.size,i,none⟩=false:=HRB2.out.frozen;have H3:=Lib.hid h3;clear h3))
    have HR3:=(HRB2.out.set 0 (.bool false)).set 1 (.slice p3 (ld n.natAbs).length cap3)
    have c0:=HR3.cell 0
    have c1:=HR3.cell 1
    refine bodyPost_ret (v:=.agg #[.bool false,.slice p3 (ld n.natAbs).length cap3]) (by simp [results,Tryz.results80,go_sem,c0,c1]) rfl ⟨_,rfl,⟨_,by rw [decide_eq_false (show ¬ n < 0 by omega)],?_⟩,?_⟩
    ·exact H3.out.only (((Only.refl (fun k=>k=w.heap.size) w2).setCell (p:=⟨w.heap.size,0,none⟩) (fun _=>rfl) _).setCell (p:=⟨w.heap.size,1,none⟩) (fun _=>rfl) _) (fun k h1 h2=>by omega)
    ·have h1:=HL0.out.trans (HB.out.mono (Nat.le_succ _))
     have h2:=h1.trans (hb2.mono h1.size)
     exact (h2.setCell (Nat.le_refl _) _).setCell (Nat.le_refl _) _
   ·have hp1:(0:Int) < y:=by omega
    have hwr:IntKind.u64.wrap ((y:Int) / 10)=(y:Int) / 10:=by rw [IntKind.wrap_u64];omega
    have ho1:=how.alloc (.cells #[.int .i64 ((y:Int) % 10)] 3)
    have hs1:=one_int wr (y % 10)
    have e9:((y % 10:Nat):Int)=(y:Int) % 10:=by omega
    rw [e9] at hs1
    clear hd how hfr hb e9
    go_wp2_with (first
     | (at_builtin;refine wpList_app rfl _ _ rfl elemInt (by rfl) ho1 (by rfl) hs1 (by unfold maxLen;omega) (by omega) ?_;intro v1 w2 g1 g2 g3 g4 g5;clear hs1 ho1;
        have G1:=Lib.hid g1;have G2:=Lib.hid g2;have G3:=Lib.hid g3;clear g1 g2 g3 g4 g5))
    have hsz0:w.heap.size+1≤wr.heap.size:=Nat.le_trans HS0.out HB.out.size
    have e9:((y % 10:Nat):Int)=(y:Int) % 10:=by omega
    obtain ⟨k1,k2,k3,k4⟩:=push_post (x:=y % 10) hsz0 HF.out (by rw [e9];exact G1.out) (by rw [e9];exact G2.out) (by rw [e9];exact G3.out)
    refine ⟨⟨y / 10,d++[y % 10],by congr 1,?_,k1,k3,HB.out.trans k4⟩,?_⟩
    ·rw [List.append_assoc,←HD.out,ld_pos y hpos];rfl
    ·show ((y:Int) / 10).toNat < (y:Int).toNat
     omega
theorem less_any (w:World) (B B':Nat→Prop) (va vb:Value) (x y:Nat) (ha:Sl w B 1 va (ld x).length (nats (ld x))) (hb:Sl w B' 1 vb (ld y).length (nats (ld y))) (hla:(ld x).length≤1000000) (hlb:(ld y).length≤1000000) :
 Calls Tryz.prog 81 #[va,vb] w fun e w'=>e=.returned (.bool (decide (x < y)))∧Below w.heap.size w w':=by
 obtain ⟨pa,ca,rfl,hc1,hc2⟩:=ha.form
 obtain ⟨pb,cb,rfl,hc3,hc4⟩:=hb.form
 have HL:=Lib.hid (fun h:(ld x).length < (ld y).length=>ld_len_lt h)
 have HG:=Lib.hid (fun h:(ld y).length < (ld x).length=>ld_len_lt h)
 have HV:Hid (∀ i,i < (ld x).length→i < (ld y).length→(ld x).drop (i+1)=(ld y).drop (i+1)→(ld x).getD i 0≠(ld y).getD i 0→((ld x).getD i 0 < (ld y).getD i 0↔vd (ld x) < vd (ld y))):=fun i h1 h2 h3 h4=>by
  have e1:(ld x).getD i 0=(ld x)[i]:=by simp [List.getD,h1]
  have e2:(ld y).getD i 0=(ld y)[i]:=by simp [List.getD,h2]
  rw [e1,e2] at h4 ⊢
  exact vd_less (ld x) (ld y) (ld_D10 x) (ld_D10 y) i h1 h2 h3 h4
 have HE:Hid (ld x=ld y→x=y):=fun h=>by have:=congrArg vd h;rwa [vd_ld,vd_ld] at this
 have HX:=Lib.hid (vd_ld x)
 have HY:=Lib.hid (vd_ld y)
 have HA:=Lib.hid ha
 have HB:=Lib.hid hb
 clear ha hb
 generalize ld x=a at *
 generalize ld y=b at *
 generalize hr:decide (x < y)=r
 have HR:=Lib.hid hr
 clear hr
 generalize hna:a.length=na at *
 generalize hnb:b.length=nb at *
 have HNA:=Lib.hid hna
 have HNB:=Lib.hid hnb
 clear hna hnb
 by_cases hne:na=nb
 ·subst hne
  go_enter Tryz.func81,Tryz.ntmps81
  go_wp2
  go_loopw [5] (fun i wr=>∃ j:Nat,i=.int .i64 ((j:Int) - 1)∧j≤na∧a.drop j=b.drop j∧Below w.heap.size w wr) (fun i _=>(intOf i+1).toNat)
  case atStart=>exact ⟨na,rfl,Nat.le_refl _,by rw [List.drop_of_length_le (by rw [HNA.out];exact Nat.le_refl _),List.drop_of_length_le (by rw [HNB.out];exact Nat.le_refl _)],Below.refl _ _⟩
  case round =>
   obtain ⟨j,rfl,hj,hd,hbw⟩:=hrel
   have HD:=Lib.hid hd
   have HW:=Lib.hid hbw
   clear hd
   rcases Nat.eq_zero_or_pos j with rfl|hpos
   ·have hxy:x=y:=by
     apply HE.out
     have:=HD.out
     rwa [List.drop_zero,List.drop_zero] at this
    subst hxy
    obtain rfl:r=false:=by rw [←HR.out];exact decide_eq_false (by omega)
    clear hbw
    go_wp2
    go_ret
    exact ⟨rfl,HW.out⟩
   ·obtain ⟨i,rfl⟩:∃ i,j=i+1:=⟨j - 1,by omega⟩
    have hia:i < a.length:=by rw [HNA.out];omega
    have hib:i < b.length:=by rw [HNB.out];omega
    have ha2:=HA.out.below HW.out
    have hb2:=HB.out.below HW.out
    have hvv:=HV.out i (by omega) (by omega) HD.out
    rw [←HNA.out] at ha2
    rw [show na=b.length from HNB.out.symm] at hb2
    obtain ⟨g,off,cap',hv1,hg,hca⟩:=sl_nat ha2 hia
    obtain ⟨g',off',cap'',hv2,hg',hcb⟩:=sl_nat hb2 hib
    cases hv1
    cases hv2
    have HN:Hid (a[i]=b[i]→a.drop i=b.drop i):=fun h=>by rw [List.drop_eq_getElem_cons hia,List.drop_eq_getElem_cons hib,h,HD.out]
    have ea:a.getD i 0=a[i]:=by simp [List.getD,hia]
    have eb:b.getD i 0=b[i]:=by simp [List.getD,hib]
    rw [HX.out,HY.out,ea,eb] at hvv
    have HVV:=Lib.hid hvv
    clear hbw ha2 hb2 hvv ea eb
    generalize a[i]=p at *
    generalize b[i]=q at *
    by_cases hpq:p=q
    ·subst hpq
     have HN2:=Lib.hid (HN.out rfl)
     clear HN HVV
     go_wp2
     go_region
     go_wp2
     go_roundw
     case rel=>exact ⟨i,by go_num,by omega,HN2.out,HW.out.drew⟩
     case measure=>(simp [intOf])<;>omega
    ·have hne2:((p:Int) == q)=false:=by rw [beq_eq_false_iff_ne];omega
     have hr:decide (p < q)=r:=by
      rw [←HR.out]
      exact decide_eq_decide.2 (HVV.out hpq)
     clear HN HVV
     go_wp2
     go_region
     go_wp2
     go_region
     go_wp2
     go_ret
     exact ⟨rfl,HW.out.drew.drew⟩
 ·have hne2:((na:Int) == nb)=false:=by rw [beq_eq_false_iff_ne];omega
  have hr:decide (na < nb)=r:=by
   rw [←HR.out]
   apply decide_eq_decide.2
   constructor
   ·intro h;exact HL.out h
   ·intro h
    rcases Nat.lt_or_ge na nb with h2|h2
    ·omega
    ·have:=HG.out (by omega);omega
  go_enter Tryz.func81,Tryz.ntmps81
  go_wp2
  go_ret
  exact ⟨rfl,Below.refl _ _⟩
theorem vd_push (d:List Nat) (x:Nat):vd (d++[x])=vd d+10 ^ d.length*x:=by rw [vd_append];simp [vd]
theorem add_step {d a b:List Nat} {k c x y:Nat} (hd:d.length=k) (h:vd d+10 ^ k*c=vd (a.take k)+vd (b.take k)) (hx:x=a.getD k 0) (hy:y=b.getD k 0) :
 vd (d++[(x+y+c) % 10])+10 ^ (k+1)*((x+y+c) / 10)=vd (a.take (k+1))+vd (b.take (k+1)):=by
 subst hx
 subst hy
 rw [vd_push,vd_next,vd_next,hd,Nat.pow_succ]
 generalize a.getD k 0=x at *
 generalize b.getD k 0=y at *
 have e:x+y+c=(x+y+c) % 10+10*((x+y+c) / 10):=by omega
 have e2:10 ^ k*(x+y+c)=10 ^ k*((x+y+c) % 10)+10 ^ k*10*((x+y+c) / 10):=by
  conv=>lhs;rw [e]
  rw [Nat.mul_add,Nat.mul_assoc]
 rw [Nat.mul_add,Nat.mul_add] at e2
 omega
theorem sub_step {d a b:List Nat} {k c x y z:Nat} (hd:d.length=k) (h:vd d+vd (b.take k)=vd (a.take k)+10 ^ k*c) (hx:x=a.getD k 0) (hy:y=b.getD k 0) (hz:z+y+c=10+x) (hz2:z≤19) :
 vd (d++[z % 10])+vd (b.take (k+1))=vd (a.take (k+1))+10 ^ (k+1)*(1 - z / 10):=by
 subst hx
 subst hy
 rw [vd_push,vd_next,vd_next,hd,Nat.pow_succ]
 generalize a.getD k 0=x at *
 generalize b.getD k 0=y at *
 have e:z % 10+y+c=x+10*(1 - z / 10):=by omega
 have e2:10 ^ k*(z % 10)+10 ^ k*y+10 ^ k*c=10 ^ k*x+10 ^ k*10*(1 - z / 10):=by
  rw [Nat.mul_assoc,←Nat.mul_add,←Nat.mul_add,←Nat.mul_add,e]
 omega
theorem IsNum.open' {w:World} {B:Nat→Prop} {v:Value} {z:Int} (h:IsNum w B v z) :
 ∃ (s:Bool) (x:Nat) (p:Option Addr) (c:Nat),v=.agg #[.bool s,.slice p (ld x).length c]∧Sl w B 1 (.slice p (ld x).length c) (ld x).length (nats (ld x))∧z=sgn s x∧z.natAbs=x∧(ld x).length≤c∧c≤9223372036854775807:=by
 obtain ⟨dv,rfl,hs⟩:=h
 obtain ⟨p,c,rfl,h1,h2⟩:=hs.form
 refine ⟨decide (z < 0),z.natAbs,p,c,rfl,hs,?_,rfl,h1,h2⟩
 unfold sgn
 by_cases h:z < 0
 ·rw [decide_eq_true h,if_pos rfl];omega
 ·rw [decide_eq_false h,if_neg (by decide)];omega
theorem Sl.weak {w:World} {B B':Nat→Prop} {sz:Nat} {v:Value} {n:Nat} {cs:List Value} (h:Sl w B sz v n cs) (hB:∀ k,B k→B' k):Sl w B' sz v n cs :=
 h.mono (Nat.le_refl _) (fun _ _ _=>rfl) (fun k h1 _=>hB k h1)
theorem IsNum.weak {w:World} {B B':Nat→Prop} {v:Value} {z:Int} (h:IsNum w B v z) (hB:∀ k,B k→B' k):IsNum w B' v z:=by
 obtain ⟨dv,h1,h2⟩:=h
 exact ⟨dv,h1,Sl.weak h2 hB⟩
theorem boxes3 (w:World) (A B C:List Value) (t:TypeId) :
 Blk (((w.alloc (.cells A.toArray t)).alloc (.cells B.toArray t)).alloc (.cells C.toArray t)) w.heap.size t A ∧
 Blk (((w.alloc (.cells A.toArray t)).alloc (.cells B.toArray t)).alloc (.cells C.toArray t)) (w.heap.size+1) t B ∧
 Blk (((w.alloc (.cells A.toArray t)).alloc (.cells B.toArray t)).alloc (.cells C.toArray t)) (w.heap.size+1+1) t C ∧
 Below w.heap.size w (((w.alloc (.cells A.toArray t)).alloc (.cells B.toArray t)).alloc (.cells C.toArray t)) ∧
 (((w.alloc (.cells A.toArray t)).alloc (.cells B.toArray t)).alloc (.cells C.toArray t)).heap.size=w.heap.size+3:=by
 have h1:=Blk.new w t A
 have h2:=Blk.new (w.alloc (.cells A.toArray t)) t B
 have h3:=Blk.new ((w.alloc (.cells A.toArray t)).alloc (.cells B.toArray t)) t C
 have e1:(w.alloc (.cells A.toArray t)).heap.size=w.heap.size+1:=by simp
 have e2:((w.alloc (.cells A.toArray t)).alloc (.cells B.toArray t)).heap.size=w.heap.size+1+1:=by simp
 rw [e1] at h2
 rw [e2] at h3
 refine ⟨(h1.alloc _).alloc _,h2.alloc _,h3,?_,by simp⟩
 exact (((Below.refl _ _).alloc (Nat.le_refl _) _).alloc (by omega) _).alloc (by omega) _
theorem boxes2 (w:World) (A C:List Value) (t:TypeId) :
 Blk ((w.alloc (.cells A.toArray t)).alloc (.cells C.toArray t)) w.heap.size t A ∧
 Blk ((w.alloc (.cells A.toArray t)).alloc (.cells C.toArray t)) (w.heap.size+1) t C ∧
 Below w.heap.size w ((w.alloc (.cells A.toArray t)).alloc (.cells C.toArray t)) ∧
 ((w.alloc (.cells A.toArray t)).alloc (.cells C.toArray t)).heap.size=w.heap.size+2:=by
 have h1:=Blk.new w t A
 have h2:=Blk.new (w.alloc (.cells A.toArray t)) t C
 have e1:(w.alloc (.cells A.toArray t)).heap.size=w.heap.size+1:=by simp
 rw [e1] at h2
 refine ⟨h1.alloc _,h2,?_,by simp⟩
 exact ((Below.refl _ _).alloc (Nat.le_refl _) _).alloc (by omega) _
theorem vd_drop_le (d:List Nat) (i:Nat):vd (d.drop i)≤vd d:=by
 rw [vd_split d i]
 have:vd (d.drop i)≤10 ^ i*vd (d.drop i):=Nat.le_mul_of_pos_left _ (Nat.pow_pos (by omega))
 omega
theorem of_open (w:World) (n:Int) (hn:fits n):Hid (Calls Tryz.prog 80 #[.int .i64 n] w fun e w'=>∃ p l c,e=.returned (.agg #[.bool (decide (n < 0)),.slice p l c])∧(l=(ld n.natAbs).length∧Sl w' (fun k=>w.heap.size < k) 1 (.slice p l c) l (nats (ld n.natAbs)))∧l≤20∧l≤c∧c≤9223372036854775807∧Below w.heap.size w w') :=
 (of_num w n hn).mono fun e w' ⟨v',he,⟨dv,hv,hs⟩,hb⟩=>by
  subst he
  subst hv
  obtain ⟨p,c,rfl,h1,h2⟩:=hs.form
  have h3:=ld_len_le n.natAbs 20 (by unfold fits at hn;omega)
  exact ⟨p,_,c,rfl,⟨rfl,hs⟩,h3,h1,h2,hb⟩
theorem small_num (w:World) (va:Value) (z:Int) (ha:IsNum w (fun _=>True) va z) (hla:(ld z.natAbs).length≤10000) :
 Calls Tryz.prog 53 #[va] w fun e w'=>e=.returned (.tuple #[.int .i64 (shortN z),.bool (decide (fits z))])∧Below w.heap.size w w':=by
 obtain ⟨sa,x,pa,ca,rfl,hsa,hz1,hx,hc1,hc2⟩:=ha.open'
 rw [hx] at hla
 have HOF1:=Lib.hid (fun w=>of_open w 9223372036854775807 (by unfold fits;omega))
 have HOF2:=Lib.hid (fun w=>of_open w (-9223372036854775808) (by unfold fits;omega))
 have HLS:Hid (∀ (w':World) (p:Option Addr) (l c m:Nat),Below w.heap.size w w'→(l=(ld m).length∧Sl w' (fun _=>True) 1 (.slice p l c) l (nats (ld m)))→l≤20→Calls Tryz.prog 81 #[.slice p l c,.slice pa (ld x).length ca] w' fun e w2=>e=.returned (.bool (decide (m < x)))∧Below w'.heap.size w' w2):=fun w' p l c m h h1 h2=>by
  obtain ⟨rfl,h1⟩:=h1
  exact less_any w' _ _ _ _ m x h1 (hsa.below h) (by omega) (by omega)
 have HSA:=Lib.hid hsa
 have HX10:=Lib.hid (ld_D10 x)
 have HVX:=Lib.hid (vd_ld x)
 have HWF:=Lib.hid (fun i=>vd_drop_le (ld x) i)
 clear ha hsa
 generalize hsn:shortN z=sn
 generalize hfz:decide (fits z)=fz
 have HSN:=Lib.hid hsn
 have HFZ:=Lib.hid hfz
 clear hsn hfz
 generalize hd:ld x=d at *
 have HDX:=Lib.hid hd
 clear hd
 generalize hlen:d.length=la at *
 have HLEN:=Lib.hid hlen
 clear hlen
 have hb0:=Blk.new w 102 [.bool sa,.slice pa la ca]
 have hbw:Below w.heap.size w (w.alloc (.cells #[.bool sa,.slice pa la ca] 102)):=(Below.refl _ _).alloc (Nat.le_refl _) _
 have hsz:(w.alloc (.cells #[.bool sa,.slice pa la ca] 102)).heap.size=w.heap.size+1:=by simp
 cases sa
 ·by_cases hxm:9223372036854775807 < x
  ·have DXM:decide (9223372036854775807 < x)=true:=decide_eq_true hxm
   have hnf:¬ fits z:=by rw [hz1];unfold fits sgn;simp;omega
   obtain rfl:sn=0:=by rw [←HSN.out];unfold shortN;rw [if_neg hnf]
   obtain rfl:fz=false:=by rw [←HFZ.out];exact decide_eq_false hnf
   clear hnf
   have HZ:=Lib.hid hz1
   clear hz1 hx
   go_enter Tryz.func53,Tryz.ntmps53
   go_wp2_with fail
   generalize (w.alloc (.cells #[.bool false,.slice pa la ca] 102))=w1 at *
   have HB0:=Lib.hid hb0
   have HBW:=Lib.hid hbw
   have HSZ:=Lib.hid hsz
   clear hb0 hbw hsz
   refine (HOF1.out w1).out.mono ?_
   rintro e w2 ⟨p1,l1,c1,rfl,hs1,hl1,hc11,hc12,hb2⟩
   have HS1:=Lib.hid hs1
   have HB2:=Lib.hid hb2
   have hB02:Blk w2 w.heap.size 102 [.bool false,.slice pa la ca]:=HB0.out.below hb2
   have hlt2:w.heap.size < w2.heap.size:=by have:=hb2.size;have:=HSZ.out;omega
   have e2:decide ((9223372036854775807:Int) < 0)=false:=by decide
   rw [e2]
   have hB03:Blk (w2.alloc (.cells #[.bool false,.slice p1 l1 c1] 102)) w.heap.size 102 [.bool false,.slice pa la ca]:=hB02.alloc _
   have hB13:Blk (w2.alloc (.cells #[.bool false,.slice p1 l1 c1] 102)) w2.heap.size 102 [.bool false,.slice p1 l1 c1]:=Blk.new w2 _ _
   have hb3:Below w2.heap.size w2 (w2.alloc (.cells #[.bool false,.slice p1 l1 c1] 102)):=(Below.refl _ _).alloc (Nat.le_refl _) _
   have hsz3:(w2.alloc (.cells #[.bool false,.slice p1 l1 c1] 102)).heap.size=w2.heap.size+1:=by simp
   have al:Hid ((w2.alloc (.cells #[.bool false,.slice p1 l1 c1] 102))=(w2.alloc (.cells #[.bool false,.slice p1 l1 c1] 102))):=rfl
   generalize hw3:(w2.alloc (.cells #[.bool false,.slice p1 l1 c1] 102))=w3 at hB03 hB13 hb3 hsz3
   clear al
   have c00:w3.cell? ⟨w.heap.size,0,none⟩=some (.bool false):=hB03.cell 0
   have c01:w3.cell? ⟨w.heap.size,1,none⟩=some (.slice pa la ca):=hB03.cell 1
   have c10:w3.cell? ⟨w2.heap.size,0,none⟩=some (.bool false):=hB13.cell 0
   have c11:w3.cell? ⟨w2.heap.size,1,none⟩=some (.slice p1 l1 c1):=hB13.cell 1
   have HB03:=Lib.hid hB03
   have HB13:=Lib.hid hB13
   have HB3:=Lib.hid hb3
   have HSZ3:=Lib.hid hsz3
   clear hs1 hb2 e2 hB02 hB03 hB13 hb3 hsz3
   have HW3:Hid (Below w.heap.size w w3):=by
    have h1:=HBW.out.trans (HB2.out.mono (by have:=HSZ.out;omega))
    exact h1.trans (HB3.out.mono h1.size)
   have HLS3:=Lib.hid (HLS.out w3 p1 l1 c1 9223372036854775807 HW3.out ⟨HS1.out.1,Sl.weak (HS1.out.2.below HB3.out) (fun _ _=>trivial)⟩ hl1)
   have HBB:=HB03
   have HWW:=HW3
   rw [DXM] at HLS3
   go_wp2_with (first
    | rw [hw3]
    | (go_at_call 81;refine HLS3.out.mono ?_;rintro e wl ⟨rfl,hbl⟩;
       have HBL:=Lib.hid (HBB.out.below hbl);have HWL:=Lib.hid (HWW.out.trans (hbl.mono HWW.out.size));clear hbl;
       have cl0:wl.cell? ⟨w.heap.size,0,none⟩=some (.bool false):=HBL.out.cell 0;
       have cl1:wl.cell? ⟨w.heap.size,1,none⟩=some (.slice pa la ca):=HBL.out.cell 1))
   go_ret2
   exact ⟨rfl,HWL.out⟩
  ·have DXM:decide (9223372036854775807 < x)=false:=decide_eq_false hxm
   have hxf:fits z:=by rw [hz1];unfold fits sgn;simp;omega
   obtain rfl:sn=z:=by rw [←HSN.out];unfold shortN;rw [if_pos hxf]
   obtain rfl:fz=true:=by rw [←HFZ.out];exact decide_eq_true hxf
   clear hxf
   have HZ:=Lib.hid hz1
   clear hz1 hx
   go_enter Tryz.func53,Tryz.ntmps53
   go_wp2_with fail
   generalize (w.alloc (.cells #[.bool false,.slice pa la ca] 102))=w1 at *
   have HB0:=Lib.hid hb0
   have HBW:=Lib.hid hbw
   have HSZ:=Lib.hid hsz
   clear hb0 hbw hsz
   refine (HOF1.out w1).out.mono ?_
   rintro e w2 ⟨p1,l1,c1,rfl,hs1,hl1,hc11,hc12,hb2⟩
   have HS1:=Lib.hid hs1
   have HB2:=Lib.hid hb2
   have hB02:Blk w2 w.heap.size 102 [.bool false,.slice pa la ca]:=HB0.out.below hb2
   have hlt2:w.heap.size < w2.heap.size:=by have:=hb2.size;have:=HSZ.out;omega
   have e2:decide ((9223372036854775807:Int) < 0)=false:=by decide
   rw [e2]
   have hB03:Blk (w2.alloc (.cells #[.bool false,.slice p1 l1 c1] 102)) w.heap.size 102 [.bool false,.slice pa la ca]:=hB02.alloc _
   have hB13:Blk (w2.alloc (.cells #[.bool false,.slice p1 l1 c1] 102)) w2.heap.size 102 [.bool false,.slice p1 l1 c1]:=Blk.new w2 _ _
   have hb3:Below w2.heap.size w2 (w2.alloc (.cells #[.bool false,.slice p1 l1 c1] 102)):=(Below.refl _ _).alloc (Nat.le_refl _) _
   have hsz3:(w2.alloc (.cells #[.bool false,.slice p1 l1 c1] 102)).heap.size=w2.heap.size+1:=by simp
   have al:Hid ((w2.alloc (.cells #[.bool false,.slice p1 l1 c1] 102))=(w2.alloc (.cells #[.bool false,.slice p1 l1 c1] 102))):=rfl
   generalize hw3:(w2.alloc (.cells #[.bool false,.slice p1 l1 c1] 102))=w3 at hB03 hB13 hb3 hsz3
   clear al
   have c00:w3.cell? ⟨w.heap.size,0,none⟩=some (.bool false):=hB03.cell 0
   have c01:w3.cell? ⟨w.heap.size,1,none⟩=some (.slice pa la ca):=hB03.cell 1
   have c10:w3.cell? ⟨w2.heap.size,0,none⟩=some (.bool false):=hB13.cell 0
   have c11:w3.cell? ⟨w2.heap.size,1,none⟩=some (.slice p1 l1 c1):=hB13.cell 1
   have HB03:=Lib.hid hB03
   have HB13:=Lib.hid hB13
   have HB3:=Lib.hid hb3
   have HSZ3:=Lib.hid hsz3
   clear hs1 hb2 e2 hB02 hB03 hB13 hb3 hsz3
   have HW3:Hid (Below w.heap.size w w3):=by
    have h1:=HBW.out.trans (HB2.out.mono (by have:=HSZ.out;omega))
    exact h1.trans (HB3.out.mono h1.size)
   have HLS3:=Lib.hid (HLS.out w3 p1 l1 c1 9223372036854775807 HW3.out ⟨HS1.out.1,Sl.weak (HS1.out.2.below HB3.out) (fun _ _=>trivial)⟩ hl1)
   have HBB:=HB03
   have HWW:=HW3
   rw [DXM] at HLS3
   go_wp2_with (first
    | rw [hw3]
    | (go_at_call 81;refine HLS3.out.mono ?_;rintro e wl ⟨rfl,hbl⟩;
       have HBL:=Lib.hid (HBB.out.below hbl);have HWL:=Lib.hid (HWW.out.trans (hbl.mono HWW.out.size));clear hbl;
       have cl0:wl.cell? ⟨w.heap.size,0,none⟩=some (.bool false):=HBL.out.cell 0;
       have cl1:wl.cell? ⟨w.heap.size,1,none⟩=some (.slice pa la ca):=HBL.out.cell 1))
   have HSL:=Lib.hid (HSA.out.below HWL.out)
   have HX64:Hid (x≤9223372036854775808):=by show _≤_;omega
   go_loopw [5,6] (fun u i wr=>∃ j:Nat,i=.int .i64 ((j:Int) - 1)∧u=.int .u64 (vd (d.drop j))∧j≤la∧wl=wr) (fun _ i _=>(intOf i+1).toNat)
   case atStart=>exact ⟨la,rfl,by rw [List.drop_of_length_le (by rw [HLEN.out];exact Nat.le_refl _)];rfl,Nat.le_refl _,rfl⟩
   case round =>
    obtain ⟨j,rfl,rfl,hj,rfl⟩:=hrel
    rcases Nat.eq_zero_or_pos j with rfl|hpos
    ·have e5:vd (d.drop 0)=x:=by rw [List.drop_zero];exact HVX.out
     rw [e5]
     clear e5
     have hzx:sn=x:=HZ.out
     subst hzx
     have hx63:(x:Int)≤9223372036854775807:=by omega
     go_wp2
     go_ret2
     exact ⟨rfl,HWL.out⟩
    ·obtain ⟨i,rfl⟩:∃ i,j=i+1:=⟨j - 1,by omega⟩
     have hia:i < d.length:=by rw [HLEN.out];omega
     have hsl:=HSL.out
     rw [←HLEN.out] at hsl
     obtain ⟨g,off,cap',hv1,hg,hca⟩:=sl_nat hsl hia
     cases hv1
     have hdr:=vd_drop d i hia
     have hle:=HWF.out i
     rw [HVX.out] at hle
     have hdg:d[i] < 10:=HX10.out _ (List.getElem_mem hia)
     have HI:=Lib.hid hia
     rw [hdr] at hle
     have HDR:=Lib.hid hdr
     have hx64:=HX64.out
     clear hsl hdr
     generalize vd (d.drop (i+1))=u at *
     generalize d[i]=q at *
     have hu1:10*(u:Int)+q < 18446744073709551616:=by omega
     have e9:(10:Int)*u+q=((q+10*u:Nat):Int):=by omega
     have hu2:(u:Int) < 1844674407370955161:=by omega
     clear hle hx64 hia
     go_wp2
     refine ⟨⟨i,by go_num,by rw [HDR.out];congr 1,by omega,trivial⟩,?_⟩
     (simp [intOf])<;>omega
 ·by_cases hxm:9223372036854775808 < x
  ·have DXM:decide (9223372036854775808 < x)=true:=decide_eq_true hxm
   have hnf:¬ fits z:=by rw [hz1];unfold fits sgn;simp;omega
   obtain rfl:sn=0:=by rw [←HSN.out];unfold shortN;rw [if_neg hnf]
   obtain rfl:fz=false:=by rw [←HFZ.out];exact decide_eq_false hnf
   clear hnf
   have HZ:=Lib.hid hz1
   clear hz1 hx
   go_enter Tryz.func53,Tryz.ntmps53
   go_wp2_with fail
   generalize (w.alloc (.cells #[.bool true,.slice pa la ca] 102))=w1 at *
   have HB0:=Lib.hid hb0
   have HBW:=Lib.hid hbw
   have HSZ:=Lib.hid hsz
   clear hb0 hbw hsz
   refine (HOF1.out w1).out.mono ?_
   rintro e w2 ⟨p1,l1,c1,rfl,hs1,hl1,hc11,hc12,hb2⟩
   have HS1:=Lib.hid hs1
   have HB2:=Lib.hid hb2
   have hB02:Blk w2 w.heap.size 102 [.bool true,.slice pa la ca]:=HB0.out.below hb2
   have hlt2:w.heap.size < w2.heap.size:=by have:=hb2.size;have:=HSZ.out;omega
   have e2:decide ((9223372036854775807:Int) < 0)=false:=by decide
   rw [e2]
   have hB03:Blk (w2.alloc (.cells #[.bool false,.slice p1 l1 c1] 102)) w.heap.size 102 [.bool true,.slice pa la ca]:=hB02.alloc _
   have hB13:Blk (w2.alloc (.cells #[.bool false,.slice p1 l1 c1] 102)) w2.heap.size 102 [.bool false,.slice p1 l1 c1]:=Blk.new w2 _ _
   have hb3:Below w2.heap.size w2 (w2.alloc (.cells #[.bool false,.slice p1 l1 c1] 102)):=(Below.refl _ _).alloc (Nat.le_refl _) _
   have hsz3:(w2.alloc (.cells #[.bool false,.slice p1 l1 c1] 102)).heap.size=w2.heap.size+1:=by simp
   have al:Hid ((w2.alloc (.cells #[.bool false,.slice p1 l1 c1] 102))=(w2.alloc (.cells #[.bool false,.slice p1 l1 c1] 102))):=rfl
   generalize hw3:(w2.alloc (.cells #[.bool false,.slice p1 l1 c1] 102))=w3 at hB03 hB13 hb3 hsz3
   clear al
   have c00:w3.cell? ⟨w.heap.size,0,none⟩=some (.bool true):=hB03.cell 0
   have c01:w3.cell? ⟨w.heap.size,1,none⟩=some (.slice pa la ca):=hB03.cell 1
   have c10:w3.cell? ⟨w2.heap.size,0,none⟩=some (.bool false):=hB13.cell 0
   have c11:w3.cell? ⟨w2.heap.size,1,none⟩=some (.slice p1 l1 c1):=hB13.cell 1
   have HB03:=Lib.hid hB03
   have HB13:=Lib.hid hB13
   have HB3:=Lib.hid hb3
   have HSZ3:=Lib.hid hsz3
   clear hs1 hb2 e2 hB02 hB03 hB13 hb3 hsz3
   have HW3:Hid (Below w.heap.size w w3):=by
    have h1:=HBW.out.trans (HB2.out.mono (by have:=HSZ.out;omega))
    exact h1.trans (HB3.out.mono h1.size)
   have HLS3:=Lib.hid (fun (w':World) (p:Option Addr) (l c:Nat)=>HLS.out w' p l c 9223372036854775808)
   rw [DXM] at HLS3
   go_wp2_with (first
    | rw [hw3])
   refine (HOF2.out w3).out.mono ?_
   rintro e w4 ⟨p4,l4,c4,rfl,hs4,hl4,hc41,hc42,hb4⟩
   have HS4:=Lib.hid hs4
   have HB4:=Lib.hid hb4
   clear hs4
   have HB14:=Lib.hid (HB13.out.below hb4)
   have HB04:=Lib.hid (HB03.out.below hb4)
   have hf4:∀ i,w4.frozen? ⟨w2.heap.size,i,none⟩=false:=HB14.out.frozen
   have k10:w4.cell? ⟨w2.heap.size,0,none⟩=some (.bool false):=HB14.out.cell 0
   have k11:w4.cell? ⟨w2.heap.size,1,none⟩=some (.slice p1 l1 c1):=HB14.out.cell 1
   have k00:w4.cell? ⟨w.heap.size,0,none⟩=some (.bool true):=HB04.out.cell 0
   have k01:w4.cell? ⟨w.heap.size,1,none⟩=some (.slice pa la ca):=HB04.out.cell 1
   clear hb4
   have e4:decide ((-9223372036854775808:Int) < 0)=true:=by decide
   rw [e4]
   clear e4
   have HW4:=Lib.hid (HW3.out.trans (HB4.out.mono HW3.out.size))
   have hle2:w.heap.size≤w2.heap.size:=Nat.le_of_lt hlt2
   have HWW:Hid (Below w.heap.size w ((w4.setCell ⟨w2.heap.size,0,none⟩ (.bool true)).setCell ⟨w2.heap.size,1,none⟩ (.slice p4 l4 c4))):=(HW4.out.setCell hle2 _).setCell hle2 _
   have HBB:Hid (Blk ((w4.setCell ⟨w2.heap.size,0,none⟩ (.bool true)).setCell ⟨w2.heap.size,1,none⟩ (.slice p4 l4 c4)) w.heap.size 102 [.bool true,.slice pa la ca]):=(HB04.out.setOther (Nat.ne_of_lt hlt2) _).setOther (Nat.ne_of_lt hlt2) _
   have HS5:=Lib.hid (HS4.out.2.only (((Only.refl (fun k=>k=w2.heap.size) w4).setCell (p:=⟨w2.heap.size,0,none⟩) (fun _=>rfl) (.bool true)).setCell (p:=⟨w2.heap.size,1,none⟩) (fun _=>rfl) (.slice p4 l4 c4)) (fun k (h1:w3.heap.size < k) h2=>by have:=HSZ3.out;omega))
   have HLS5:=Lib.hid (HLS3.out _ p4 l4 c4 HWW.out ⟨HS4.out.1,Sl.weak HS5.out (fun _ _=>trivial)⟩ hl4)
   go_wp2_with (first
    | (go_at_call 81;refine HLS5.out.mono ?_;rintro e wl ⟨rfl,hbl⟩;
       have HBL:=Lib.hid (HBB.out.below hbl);have HWL:=Lib.hid (HWW.out.trans (hbl.mono HWW.out.size));clear hbl;
       have cl0:wl.cell? ⟨w.heap.size,0,none⟩=some (.bool true):=HBL.out.cell 0;
       have cl1:wl.cell? ⟨w.heap.size,1,none⟩=some (.slice pa la ca):=HBL.out.cell 1))
   go_ret2
   exact ⟨rfl,HWL.out⟩
  ·have DXM:decide (9223372036854775808 < x)=false:=decide_eq_false hxm
   have hxf:fits z:=by rw [hz1];unfold fits sgn;simp;omega
   obtain rfl:sn=z:=by rw [←HSN.out];unfold shortN;rw [if_pos hxf]
   obtain rfl:fz=true:=by rw [←HFZ.out];exact decide_eq_true hxf
   clear hxf
   have HZ:=Lib.hid hz1
   clear hz1 hx
   go_enter Tryz.func53,Tryz.ntmps53
   go_wp2_with fail
   generalize (w.alloc (.cells #[.bool true,.slice pa la ca] 102))=w1 at *
   have HB0:=Lib.hid hb0
   have HBW:=Lib.hid hbw
   have HSZ:=Lib.hid hsz
   clear hb0 hbw hsz
   refine (HOF1.out w1).out.mono ?_
   rintro e w2 ⟨p1,l1,c1,rfl,hs1,hl1,hc11,hc12,hb2⟩
   have HS1:=Lib.hid hs1
   have HB2:=Lib.hid hb2
   have hB02:Blk w2 w.heap.size 102 [.bool true,.slice pa la ca]:=HB0.out.below hb2
   have hlt2:w.heap.size < w2.heap.size:=by have:=hb2.size;have:=HSZ.out;omega
   have e2:decide ((9223372036854775807:Int) < 0)=false:=by decide
   rw [e2]
   have hB03:Blk (w2.alloc (.cells #[.bool false,.slice p1 l1 c1] 102)) w.heap.size 102 [.bool true,.slice pa la ca]:=hB02.alloc _
   have hB13:Blk (w2.alloc (.cells #[.bool false,.slice p1 l1 c1] 102)) w2.heap.size 102 [.bool false,.slice p1 l1 c1]:=Blk.new w2 _ _
   have hb3:Below w2.heap.size w2 (w2.alloc (.cells #[.bool false,.slice p1 l1 c1] 102)):=(Below.refl _ _).alloc (Nat.le_refl _) _
   have hsz3:(w2.alloc (.cells #[.bool false,.slice p1 l1 c1] 102)).heap.size=w2.heap.size+1:=by simp
   have al:Hid ((w2.alloc (.cells #[.bool false,.slice p1 l1 c1] 102))=(w2.alloc (.cells #[.bool false,.slice p1 l1 c1] 102))):=rfl
   generalize hw3:(w2.alloc (.cells #[.bool false,.slice p1 l1 c1] 102))=w3 at hB03 hB13 hb3 hsz3
   clear al
   have c00:w3.cell? ⟨w.heap.size,0,none⟩=some (.bool true):=hB03.cell 0
   have c01:w3.cell? ⟨w.heap.size,1,none⟩=some (.slice pa la ca):=hB03.cell 1
   have c10:w3.cell? ⟨w2.heap.size,0,none⟩=some (.bool false):=hB13.cell 0
   have c11:w3.cell? ⟨w2.heap.size,1,none⟩=some (.slice p1 l1 c1):=hB13.cell 1
   have HB03:=Lib.hid hB03
   have HB13:=Lib.hid hB13
   have HB3:=Lib.hid hb3
   have HSZ3:=Lib.hid hsz3
   clear hs1 hb2 e2 hB02 hB03 hB13 hb3 hsz3
   have HW3:Hid (Below w.heap.size w w3):=by
    have h1:=HBW.out.trans (HB2.out.mono (by have:=HSZ.out;omega))
    exact h1.trans (HB3.out.mono h1.size)
   have HLS3:=Lib.hid (fun (w':World) (p:Option Addr) (l c:Nat)=>HLS.out w' p l c 9223372036854775808)
   rw [DXM] at HLS3
   go_wp2_with (first
    | rw [hw3])
   refine (HOF2.out w3).out.mono ?_
   rintro e w4 ⟨p4,l4,c4,rfl,hs4,hl4,hc41,hc42,hb4⟩
   have HS4:=Lib.hid hs4
   have HB4:=Lib.hid hb4
   clear hs4
   have HB14:=Lib.hid (HB13.out.below hb4)
   have HB04:=Lib.hid (HB03.out.below hb4)
   have hf4:∀ i,w4.frozen? ⟨w2.heap.size,i,none⟩=false:=HB14.out.frozen
   have k10:w4.cell? ⟨w2.heap.size,0,none⟩=some (.bool false):=HB14.out.cell 0
   have k11:w4.cell? ⟨w2.heap.size,1,none⟩=some (.slice p1 l1 c1):=HB14.out.cell 1
   have k00:w4.cell? ⟨w.heap.size,0,none⟩=some (.bool true):=HB04.out.cell 0
   have k01:w4.cell? ⟨w.heap.size,1,none⟩=some (.slice pa la ca):=HB04.out.cell 1
   clear hb4
   have e4:decide ((-9223372036854775808:Int) < 0)=true:=by decide
   rw [e4]
   clear e4
   have HW4:=Lib.hid (HW3.out.trans (HB4.out.mono HW3.out.size))
   have hle2:w.heap.size≤w2.heap.size:=Nat.le_of_lt hlt2
   have HWW:Hid (Below w.heap.size w ((w4.setCell ⟨w2.heap.size,0,none⟩ (.bool true)).setCell ⟨w2.heap.size,1,none⟩ (.slice p4 l4 c4))):=(HW4.out.setCell hle2 _).setCell hle2 _
   have HBB:Hid (Blk ((w4.setCell ⟨w2.heap.size,0,none⟩ (.bool true)).setCell ⟨w2.heap.size,1,none⟩ (.slice p4 l4 c4)) w.heap.size 102 [.bool true,.slice pa la ca]):=(HB04.out.setOther (Nat.ne_of_lt hlt2) _).setOther (Nat.ne_of_lt hlt2) _
   have HS5:=Lib.hid (HS4.out.2.only (((Only.refl (fun k=>k=w2.heap.size) w4).setCell (p:=⟨w2.heap.size,0,none⟩) (fun _=>rfl) (.bool true)).setCell (p:=⟨w2.heap.size,1,none⟩) (fun _=>rfl) (.slice p4 l4 c4)) (fun k (h1:w3.heap.size < k) h2=>by have:=HSZ3.out;omega))
   have HLS5:=Lib.hid (HLS3.out _ p4 l4 c4 HWW.out ⟨HS4.out.1,Sl.weak HS5.out (fun _ _=>trivial)⟩ hl4)
   go_wp2_with (first
    | (go_at_call 81;refine HLS5.out.mono ?_;rintro e wl ⟨rfl,hbl⟩;
       have HBL:=Lib.hid (HBB.out.below hbl);have HWL:=Lib.hid (HWW.out.trans (hbl.mono HWW.out.size));clear hbl;
       have cl0:wl.cell? ⟨w.heap.size,0,none⟩=some (.bool true):=HBL.out.cell 0;
       have cl1:wl.cell? ⟨w.heap.size,1,none⟩=some (.slice pa la ca):=HBL.out.cell 1))
   have HSL:=Lib.hid (HSA.out.below HWL.out)
   have HX64:Hid (x≤9223372036854775808):=by show _≤_;omega
   go_loopw [5,6] (fun u i wr=>∃ j:Nat,i=.int .i64 ((j:Int) - 1)∧u=.int .u64 (vd (d.drop j))∧j≤la∧wl=wr) (fun _ i _=>(intOf i+1).toNat)
   case atStart=>exact ⟨la,rfl,by rw [List.drop_of_length_le (by rw [HLEN.out];exact Nat.le_refl _)];rfl,Nat.le_refl _,rfl⟩
   case round =>
    obtain ⟨j,rfl,rfl,hj,rfl⟩:=hrel
    rcases Nat.eq_zero_or_pos j with rfl|hpos
    ·have e5:vd (d.drop 0)=x:=by rw [List.drop_zero];exact HVX.out
     rw [e5]
     clear e5
     have hzx:sn=-x:=HZ.out
     have hx63:(x:Int)≤9223372036854775808:=by omega
     have e7:wrap64 (IntKind.u64.wrap (-(x:Int)))=sn:=by rw [hzx];unfold wrap64;rw [IntKind.wrap_u64];omega
     go_wp2
     rw [e7]
     go_ret2
     exact ⟨rfl,HWL.out⟩
    ·obtain ⟨i,rfl⟩:∃ i,j=i+1:=⟨j - 1,by omega⟩
     have hia:i < d.length:=by rw [HLEN.out];omega
     have hsl:=HSL.out
     rw [←HLEN.out] at hsl
     obtain ⟨g,off,cap',hv1,hg,hca⟩:=sl_nat hsl hia
     cases hv1
     have hdr:=vd_drop d i hia
     have hle:=HWF.out i
     rw [HVX.out] at hle
     have hdg:d[i] < 10:=HX10.out _ (List.getElem_mem hia)
     have HI:=Lib.hid hia
     rw [hdr] at hle
     have HDR:=Lib.hid hdr
     have hx64:=HX64.out
     clear hsl hdr
     generalize vd (d.drop (i+1))=u at *
     generalize d[i]=q at *
     have hu1:10*(u:Int)+q < 18446744073709551616:=by omega
     have e9:(10:Int)*u+q=((q+10*u:Nat):Int):=by omega
     have hu2:(u:Int) < 1844674407370955161:=by omega
     clear hle hx64 hia
     go_wp2
     refine ⟨⟨i,by go_num,by rw [HDR.out];congr 1,by omega,trivial⟩,?_⟩
     (simp [intOf])<;>omega
def msum (minus:Bool) (l:List Int):Int:=if minus then -l.sum else l.sum
theorem msum_next (minus:Bool) (l:List Int) (k:Nat) (h:k < l.length):msum minus (l.take (k+1))=msum minus (l.take k)+(if minus then -l[k] else l[k]):=by
 unfold msum
 rw [sum_next l k h]
 cases minus<;>simp<;>omega
theorem msum_small (minus:Bool) (l:List Int) (hf:∀ x∈l,fits x) (hl:l.length≤1000):(ld (msum minus l).natAbs).length≤30:=by
 apply ld_len_le
 have h:=sum_range l hf
 unfold msum
 have e:(10:Nat) ^ 30=1000000000000000000000000000000:=by decide
 rw [e]
 split<;>omega
theorem fits_small {x:Int} (h:fits x):(ld x.natAbs).length≤30:=by
 have:=ld_len_le x.natAbs 20 (by unfold fits at h;omega)
 omega
theorem IsNum.only {w w':World} {S B:Nat→Prop} {v:Value} {z:Int} (h:IsNum w B v z) (ho:Only S w w') (hd:∀ k,B k→¬ S k):IsNum w' B v z:=by
 obtain ⟨dv,h1,h2⟩:=h
 exact ⟨dv,h1,h2.only ho hd⟩
theorem IsNum.alloc' {w:World} {B B':Nat→Prop} {v:Value} {z:Int} (h:IsNum w B v z) (o:Obj) (hB:∀ k,B k→B' k):IsNum (w.alloc o) (fun k=>B' k∧k≠w.heap.size) v z:=by
 obtain ⟨dv,h1,h2⟩:=h
 exact ⟨dv,h1,h2.mono (by simp) (fun k _ hk=>heap_alloc_old w o hk) (fun k h3 h4=>⟨hB k h3,by omega⟩)⟩
theorem IsNum.parts {w:World} {B:Nat→Prop} {v:Value} {z:Int} (h:IsNum w B v z):∃ s p n c,v=.agg #[.bool s,.slice p n c]:=by
 obtain ⟨s,x,p,c,rfl,_⟩:=h.open'
 exact ⟨s,p,_,c,rfl⟩
theorem mk_ints (w:World) (N:Nat) (h:N≤1000000) :
 (Instr.makeSlice 100 (.int .i64 (N:Int)) (.int .i64 (N:Int))).run Tryz.prog w=.ok (.slice (some ⟨w.heap.size,0,none⟩) N N) (w.alloc (.cells (nats (List.replicate N 0)).toArray 3)):=by
 obtain ⟨i,hi,hz,hsize,hby⟩:=elemInt.parts
 have hr:=run_make (P:=Tryz.prog) w 100 3 i (.int .i64 0) Tryz.underlying100 hi hz .i64 .i64 N N (by omega) (Int.le_refl _) (by rw [hby];omega) (by omega)
 rw [hr,hsize]
 simp only [Int.toNat_natCast,Nat.mul_one]
 have e:madeCells (Value.int .i64 0).cells N=(nats (List.replicate N 0)).toArray:=by
  apply Array.ext
  ·simp [madeCells,nats,ints]
  ·intro k h1 h2
   simp [madeCells,nats,ints,Value.cells,Nat.mod_one]
 rw [e]
structure TimesS (w wr:World) (A Bv C:List Value) (out:List Nat):Prop where
 a:Blk wr w.heap.size 102 A
 b:Blk wr (w.heap.size+1) 102 Bv
 c:Blk wr (w.heap.size+1+1) 102 C
 o:Blk wr (w.heap.size+3) 3 (nats out)
 below:Below w.heap.size w wr
theorem TimesS.drew {w wr:World} {A Bv C:List Value} {out:List Nat} (h:TimesS w wr A Bv C out):TimesS w wr.drew A Bv C out:=⟨h.a,h.b,h.c,h.o,h.below.drew⟩
theorem TimesS.set {w wr:World} {A Bv C:List Value} {out:List Nat} (h:TimesS w wr A Bv C out) (j x:Nat):TimesS w (wr.setCell ⟨w.heap.size+3,j,none⟩ (.int .i64 (x:Int))) A Bv C (out.set j x) :=
 ⟨h.a.setOther (show w.heap.size≠w.heap.size+3 by omega) _,h.b.setOther (show w.heap.size+1≠w.heap.size+3 by omega) _,h.c.setOther (show w.heap.size+1+1≠w.heap.size+3 by omega) _,
  (nats_set out j x)▸h.o.set j _,h.below.setCell (show w.heap.size≤w.heap.size+3 by omega) _⟩
theorem getD_set (out:List Nat) (j k v:Nat):(out.set j v).getD k 0=if k=j∧j < out.length then v else out.getD k 0:=by
 simp only [List.getD,List.getElem?_set]
 by_cases h1:j=k
 ·subst h1
  by_cases h2:j < out.length
  ·simp [h2]
  ·simp [h2]
 ·simp [h1,show ¬ k=j from fun h=>h1 h.symm]
theorem carry_step (out:List Nat) (m:Nat) (h:m+1 < out.length) :
 vd ((out.set (m+1) (out.getD (m+1) 0+out.getD m 0 / 10)).set m (out.getD m 0 % 10))=vd out:=by
 have e1:out.getD (m+1) 0=out[m+1]:=by simp [List.getD,h]
 have hm:m < out.length:=by omega
 have e2:out.getD m 0=out[m]:=by simp [List.getD,hm]
 rw [e1,e2]
 have h1:=vd_set out (m+1) (out[m] / 10) h
 have hl:m < (out.set (m+1) (out[m+1]+out[m] / 10)).length:=by simpa using hm
 have e3:(out.set (m+1) (out[m+1]+out[m] / 10))[m]=out[m]:=by rw [List.getElem_set];simp
 have h2:=vd_set_sub (out.set (m+1) (out[m+1]+out[m] / 10)) m (out[m] % 10) hl (by rw [e3];omega)
 rw [e3,h1] at h2
 have e4:out[m] - out[m] % 10=10*(out[m] / 10):=by omega
 have e5:10 ^ (m+1)=10 ^ m*10:=Nat.pow_succ ..
 rw [e4,←Nat.mul_assoc,e5] at h2
 omega
theorem D10_of_top (out:List Nat) (m:Nat) (hl:out.length=m+1) (h:∀ j,j < m→out.getD j 0 < 10) (hv:vd out < 10 ^ m):D10 out:=by
 have hs:=vd_split out m
 have hm:m < out.length:=by omega
 have hd:=vd_drop out m hm
 rw [List.drop_of_length_le (show out.length≤m+1 by omega)] at hd
 have h0:out[m]=0:=by
  rcases Nat.eq_zero_or_pos out[m] with h0|h0
  ·exact h0
  ·have:10 ^ m*1≤10 ^ m*vd (out.drop m):=Nat.mul_le_mul_left _ (by rw [hd];omega)
   omega
 intro x hx
 obtain ⟨j,hj,rfl⟩:=List.mem_iff_getElem.1 hx
 by_cases hjm:j < m
 ·have:=h j hjm
  simpa [List.getD,hj] using this
 ·obtain rfl:j=m:=by omega
  omega
theorem wf_fits {n:Int} (h:(Lit.int .i64 n).wf=true):fits n:=by
 have h2:-9223372036854775808≤n∧n≤9223372036854775807:=by simpa [Lit.wf,IntKind.min,IntKind.max,IntKind.bits,IntKind.signed] using h
 exact h2
theorem open_i64s {H:Type} {enc:TypeId × Value→H} {w:World} {v:Value} {d:DataW H} {ps:List MemPlace} (h:DataW.Trod enc Tryz.prog w 0 (fun _=>true) true 160 v d ps) (hv:v.cells.toList=[v]) :
 ∃ l:List Int,Sl w (fun _=>True) 1 v l.length (ints l)∧∀ x∈l,fits x:=by
 obtain ⟨fuel,hf⟩:=h
 rw [hv] at hf
 obtain ⟨l,h1,h2⟩:=open_ints_sl Tryz.underlying160 Tryz.underlying2 (by kernel_rfl) hf
 exact ⟨l,h1,fun x hx=>wf_fits (h2 x hx)⟩
theorem minI_spec:∀ (l:List Int) (a:Int),(minI a l=a∨minI a l∈l)∧minI a l≤a∧∀ x∈l,minI a l≤x
 | [],a=>⟨.inl rfl,Int.le_refl _,by simp⟩
 | x::l,a=>by
  obtain ⟨h1,h2,h3⟩:=minI_spec l (min a x)
  have e:minI a (x::l)=minI (min a x) l:=rfl
  rw [e]
  refine ⟨?_,by omega,fun y hy=>?_⟩
  ·rcases h1 with h1|h1
   ·by_cases hx:a≤x
    ·exact .inl (by omega)
    ·exact .inr (by rw [h1,show min a x=x by omega];simp)
   ·exact .inr (by simp [h1])
  ·rcases List.mem_cons.1 hy with rfl|hy
   ·omega
   ·exact h3 y hy
theorem maxI_spec:∀ (l:List Int) (a:Int),(maxI a l=a∨maxI a l∈l)∧a≤maxI a l∧∀ x∈l,x≤maxI a l
 | [],a=>⟨.inl rfl,Int.le_refl _,by simp⟩
 | x::l,a=>by
  obtain ⟨h1,h2,h3⟩:=maxI_spec l (max a x)
  have e:maxI a (x::l)=maxI (max a x) l:=rfl
  rw [e]
  refine ⟨?_,by omega,fun y hy=>?_⟩
  ·rcases h1 with h1|h1
   ·by_cases hx:x≤a
    ·exact .inl (by omega)
    ·exact .inr (by rw [h1,show max a x=x by omega];simp)
   ·exact .inr (by simp [h1])
  ·rcases List.mem_cons.1 hy with rfl|hy
   ·omega
   ·exact h3 y hy
def seen (m a:Int) (l:List Int) (k:Nat):Bool:=decide (m=a∨m∈l.take k)
theorem seen_zero (m a:Int) (l:List Int):seen m a l 0=(m == a):=by
 rw [Bool.eq_iff_iff];simp [seen]
theorem seen_next (m a:Int) (l:List Int) (k:Nat) (h:k < l.length):seen m a l (k+1)=(seen m a l k || m == l[k]):=by
 rw [Bool.eq_iff_iff]
 unfold seen
 rw [←List.take_append_getElem h,Bool.or_eq_true,decide_eq_true_iff,decide_eq_true_iff,List.mem_append,List.mem_singleton,beq_iff_eq,or_assoc]
theorem lit_i64s (w:World) (l:List Int) (h:l.length≤1000):Sl (w.alloc (.cells (ints l).toArray 2)) (fun _=>True) 1 (.slice (some ⟨w.heap.size,0,none⟩) l.length l.length) l.length (ints l):=by
 have:=Own.made w 2 1 (ints l) [] l.length l.length (by simp [ints]) (ints_ones l) (Nat.le_refl _) (by unfold maxLen;omega) (by simp [ints])
 have h2:Own (w.alloc (.cells (ints l).toArray 2)) 2 1 (.slice (some ⟨w.heap.size,0,none⟩) l.length l.length) l.length (ints l):=by simpa using this
 exact h2.sl (fun k hk=>trivial)
theorem rests_law (a b:Int) :
 dvE a b=2∨dvE a b=3∨(dvE a b=0∧mdE b=0∧dvN a b*b+mdN a b=a∧(0 < b∧0≤mdN a b∧mdN a b < b∨b < 0∧mdN a b≤0∧b < mdN a b)):=by
 by_cases h0:b=0
 ·subst h0;exact .inr (.inl rfl)
 by_cases h1:b=-1
 ·subst h1
  by_cases hf:fits (-a)
  ·refine .inr (.inr ⟨?_,rfl,?_,.inr ⟨by decide,by simp [mdN],by simp [mdN]⟩⟩)
   ·simp [dvE,shortE,hf]
   ·simp [dvN,mdN,shortN,hf]
  ·left;simp [dvE,shortE,hf]
 ·refine .inr (.inr ⟨by simp [dvE,h0,h1],by simp [mdE,h0],?_,?_⟩)
  ·simp only [dvN,mdN,if_neg h0,if_neg h1]
   rw [Int.mul_comm];exact Int.mul_fdiv_add_fmod a b
  ·simp only [mdN,if_neg h0,if_neg h1]
   by_cases hb:0 < b
   ·exact .inl ⟨hb,Int.fmod_nonneg_of_pos a hb,Int.fmod_lt_of_pos a hb⟩
   ·right
    have h2:=Int.fmod_nonneg_of_pos (-a) (show 0 < -b by omega)
    have h3:=Int.fmod_lt_of_pos (-a) (show 0 < -b by omega)
    rw [Int.neg_fmod_neg] at h2 h3
    omega
structure TAct where
 take:Bool
 lv:Value
 l:List Int
def TAct.cells (a:TAct):List Value:=[.bool a.take,a.lv]
def IsTActs (w:World) (v:Value) (acts:List TAct):Prop :=
 Sl w (fun _=>True) 2 v acts.length (acts.map TAct.cells).flatten∧∀ a∈acts,Sl w (fun _=>True) 1 a.lv a.l.length (ints a.l)∧∀ x∈a.l,fits x
theorem IsTActs.below {w w':World} {v:Value} {acts:List TAct} (h:IsTActs w v acts) (hb:Below w.heap.size w w'):IsTActs w' v acts :=
 ⟨h.1.below hb,fun a ha=>⟨(h.2 a ha).1.below hb,(h.2 a ha).2⟩⟩
theorem tcBool:Tryz.prog.cellsOf 4=1:=by kernel_rfl
theorem tcI64:Tryz.prog.cellsOf 2=1:=by kernel_rfl
theorem tcI64s:Tryz.prog.cellsOf 160=1:=by kernel_rfl
theorem sl_one' {w:World} {B:Nat→Prop} {sz:Nat} {v:Value} {n:Nat} {cs:List Value} (h:Sl w B sz v n cs):v.oneCell'=true:=by
 obtain ⟨p,cap,rfl,_⟩:=h.form
 rfl
theorem IsTActs.at {w:World} {v:Value} {acts:List TAct} (h:IsTActs w v acts) {k:Nat} (hk:k < acts.length) :
 ∃ g off cap,v=.slice (some ⟨g,off,none⟩) acts.length cap∧g < w.heap.size∧w.cell? ⟨g,off+k*2,none⟩=some (.bool acts[k].take) ∧
  w.cell? ⟨g,off+k*2+1,none⟩=some acts[k].lv∧Sl w (fun _=>True) 1 acts[k].lv acts[k].l.length (ints acts[k].l)∧∀ x∈acts[k].l,fits x:=by
 obtain ⟨g,off,cap,rfl,_,_,_,hlt,hc⟩:=h.1.place (by omega)
 have hlen:∀ c∈acts.map TAct.cells,c.length=2:=by
  intro c hcm
  obtain ⟨a,_,rfl⟩:=List.mem_map.1 hcm
  rfl
 have hfl:=flatten_length _ hlen
 rw [List.length_map] at hfl
 have get:∀ r,r < 2→w.cell? ⟨g,off+(k*2+r),none⟩=acts[k].cells[r]?:=fun r hr=>by
  rw [hc _ (by omega),flatten_get _ hlen k r hr,List.getElem?_map,List.getElem?_eq_getElem hk]
  rfl
 exact ⟨g,off,cap,rfl,hlt,get 0 (by omega),get 1 (by omega),h.2 _ (List.getElem_mem hk)⟩
def totZ (acts:List TAct):Int:=(acts.map fun a=>msum a.take a.l).sum
def totN (acts:List TAct):Int:=(acts.map fun a=>if a.take then -(a.l.length:Int) else a.l.length).sum
theorem totZ_next (acts:List TAct) (k:Nat) (h:k < acts.length):totZ (acts.take (k+1))=totZ (acts.take k)+msum acts[k].take acts[k].l:=by
 unfold totZ
 rw [←List.take_append_getElem h,List.map_append,List.sum_append]
 simp
theorem totN_next (acts:List TAct) (k:Nat) (h:k < acts.length):totN (acts.take (k+1))=totN (acts.take k)+(if acts[k].take then -(acts[k].l.length:Int) else acts[k].l.length):=by
 unfold totN
 rw [←List.take_append_getElem h,List.map_append,List.sum_append]
 simp
theorem boxes2t (w:World) (A C:List Value) (t u:TypeId) :
 Blk ((w.alloc (.cells A.toArray t)).alloc (.cells C.toArray u)) w.heap.size t A ∧
 Blk ((w.alloc (.cells A.toArray t)).alloc (.cells C.toArray u)) (w.heap.size+1) u C ∧
 Below w.heap.size w ((w.alloc (.cells A.toArray t)).alloc (.cells C.toArray u)) ∧
 ((w.alloc (.cells A.toArray t)).alloc (.cells C.toArray u)).heap.size=w.heap.size+2:=by
 have h1:=Blk.new w t A
 have h2:=Blk.new (w.alloc (.cells A.toArray t)) u C
 have e1:(w.alloc (.cells A.toArray t)).heap.size=w.heap.size+1:=by simp
 rw [e1] at h2
 refine ⟨h1.alloc _,h2,?_,by simp⟩
 exact ((Below.refl _ _).alloc (Nat.le_refl _) _).alloc (by omega) _
theorem msum_range (minus:Bool) (l:List Int) (hf:∀ x∈l,fits x) (hl:l.length≤20):-184467440737095516160≤msum minus l∧msum minus l≤184467440737095516160:=by
 have h:=sum_range l hf
 unfold msum
 split<;>omega
theorem IsNum.drew {w:World} {B:Nat→Prop} {v:Value} {z:Int} (h:IsNum w B v z):IsNum w.drew B v z:=by
 obtain ⟨dv,h1,h2⟩:=h
 exact ⟨dv,h1,h2.drew⟩
theorem near_len {z:Int} {k:Int} (h1:-184467440737095516160*k≤z) (h2:z≤184467440737095516160*k) (hk:k≤31:=by omega):(ld z.natAbs).length≤5000:=by
 have e:(10:Nat) ^ 30=1000000000000000000000000000000:=by decide
 have h:=ld_len_le z.natAbs 30 (by rw [e];omega)
 omega
theorem prod_small (l:List Int) (hf:∀ x∈l,fits x):∀ k,(prodI (l.take k)).natAbs≤10 ^ (19*k)
 | 0=>by simp [prodI]
 | k+1=>by
  have ih:=prod_small l hf k
  by_cases h:k < l.length
  ·rw [prodI_next l k h,Int.natAbs_mul,Nat.mul_succ,Nat.pow_add]
   exact Nat.mul_le_mul ih (by have:=hf l[k] (List.getElem_mem h);unfold fits at this;omega)
  ·rw [List.take_of_length_le (by omega)]
   rw [List.take_of_length_le (by omega)] at ih
   exact Nat.le_trans ih (Nat.pow_le_pow_right (by omega) (by omega))
theorem prod_len (l:List Int) (hf:∀ x∈l,fits x) (k:Nat) (hk:k≤100):(ld (prodI (l.take k)).natAbs).length≤2000:=by
 have h:=prod_small l hf k
 have h2:=ld_len_le (prodI (l.take k)).natAbs (19*k+1) (by rw [Nat.pow_succ];have:0 < 10 ^ (19*k):=Nat.pow_pos (by omega);omega)
 omega
end Go.Proofs.YtnpplhkpnbonaaaGreat
namespace Go.Proofs.YtnpplhkpnbonaaaGreat
open Go.RowKit Go.Afx
structure Nums (w wc:World) (raw:Option Nat) (bs:List Nat) (vals:List (Value × Int)) (vars:List (Nat × Int)):Prop where
 below:Below w.heap.size w wc
 bnd:∀ b∈bs,w.heap.size≤b∧b < wc.heap.size
 raws:∀ b,raw=some b→Blk wc b 102 [.bool false,.slice none 0 0]∧b∈bs∧∀ x∈vars,x.1≠b
 val:∀ x∈vals,IsNum wc (fun k=>k∉bs) x.1 x.2
 var:∀ x∈vars,x.1∈bs∧∃ s p l c,Blk wc x.1 102 [.bool s,.slice p l c]∧IsNum wc (fun k=>k∉bs) (.agg #[.bool s,.slice p l c]) x.2
variable {w wc : World} {raw : Option Nat} {bs : List Nat} {vals : List (Value × Int)} {vars : List (Nat × Int)}
theorem Nums.start (w:World):Nums w w none [] [] []:=⟨Below.refl _ _,by simp,by simp,by simp,by simp⟩
theorem Nums.drew (h:Nums w wc raw bs vals vars):Nums w wc.drew raw bs vals vars :=
 ⟨h.below.drew,h.bnd,fun b hb=>h.raws b hb,fun x hx=>IsNum.drew (h.val x hx),fun x hx=>⟨(h.var x hx).1,by
  obtain ⟨s,p,l,c,h1,h2⟩:=(h.var x hx).2
  exact ⟨s,p,l,c,h1,IsNum.drew h2⟩⟩⟩
theorem Nums.keep {w':World} (h:Nums w wc raw bs vals vars) (hb:Below wc.heap.size wc w'):Nums w w' raw bs vals vars :=
 ⟨h.below.trans (hb.mono h.below.size),fun b hm=>⟨(h.bnd b hm).1,Nat.lt_of_lt_of_le (h.bnd b hm).2 hb.size⟩,fun b hr=>⟨(h.raws b hr).1.below hb,(h.raws b hr).2⟩,
  fun x hx=>(h.val x hx).below hb,fun x hx=>⟨(h.var x hx).1,by
   obtain ⟨s,p,l,c,h1,h2⟩:=(h.var x hx).2
   exact ⟨s,p,l,c,h1.below hb,h2.below hb⟩⟩⟩
theorem Nums.call {w':World} {v:Value} {z:Int} (h:Nums w wc raw bs vals vars) (hb:Below wc.heap.size wc w') (hn:IsNum w' (fun k=>wc.heap.size≤k) v z):Nums w w' raw bs ((v,z)::vals) vars:=by
 have h2:=h.keep hb
 refine ⟨h2.below,h2.bnd,h2.raws,fun x hx=>?_,h2.var⟩
 rcases List.mem_cons.1 hx with rfl|hx
 ·exact hn.weak fun k hk hm=>by have:=(h.bnd k hm).2;omega
 ·exact h2.val x hx
theorem Nums.call' {w':World} {v:Value} {z:Int} (h:Nums w wc raw bs vals vars) (hb:Below wc.heap.size wc w') (hn:IsNum w' (fun k=>k∉bs) v z):Nums w w' raw bs ((v,z)::vals) vars:=by
 have h2:=h.keep hb
 refine ⟨h2.below,h2.bnd,h2.raws,fun x hx=>?_,h2.var⟩
 rcases List.mem_cons.1 hx with rfl|hx
 ·exact hn
 ·exact h2.val x hx
theorem Nums.alloc (h:Nums w wc raw bs vals vars):Nums w (wc.alloc (.cells #[.bool false,.slice none 0 0] 102)) (some wc.heap.size) (wc.heap.size::bs) vals vars:=by
 have hsz:(wc.alloc (.cells #[.bool false,.slice none 0 0] 102)).heap.size=wc.heap.size+1:=by simp
 have hk:∀ {v:Value} {z:Int},IsNum wc (fun k=>k∉bs) v z→IsNum (wc.alloc (.cells #[.bool false,.slice none 0 0] 102)) (fun k=>k∉wc.heap.size::bs) v z:=fun hn =>
  (IsNum.alloc' hn _ (fun k hk=>hk)).weak fun k hk hm=>by
   rcases List.mem_cons.1 hm with rfl|hm
   ·exact hk.2 rfl
   ·exact hk.1 hm
 refine ⟨h.below.alloc h.below.size _,fun b hb=>?_,fun b hb=>?_,fun x hx=>hk (h.val x hx),fun x hx=>⟨List.mem_cons_of_mem _ (h.var x hx).1,?_⟩⟩
 ·rcases List.mem_cons.1 hb with rfl|hb
  ·exact ⟨h.below.size,by omega⟩
  ·have:=h.bnd b hb;exact ⟨this.1,by omega⟩
 ·cases hb
  exact ⟨Blk.new wc _ _,by simp,fun x hx he=>by have:=(h.bnd x.1 (h.var x hx).1).2;omega⟩
 ·obtain ⟨s,p,l,c,h1,h2⟩:=(h.var x hx).2
  exact ⟨s,p,l,c,h1.alloc _,hk h2⟩
theorem Nums.store' {b:Nat} {s:Bool} {p:Option Addr} {l c:Nat} {z:Int} {cs:List Value} (h:Nums w wc raw bs vals vars) (hb:Blk wc b 102 cs) (hlen:cs.length=2) (hm:b∈bs) (hv:(Value.agg #[.bool s,.slice p l c],z)∈vals) :
 Nums w ((wc.setCell ⟨b,0,none⟩ (.bool s)).setCell ⟨b,1,none⟩ (.slice p l c)) none bs [] ((b,z)::vars.filter (fun x=>x.1 != b)):=by
 have ho:Only (fun k=>k=b) wc ((wc.setCell ⟨b,0,none⟩ (.bool s)).setCell ⟨b,1,none⟩ (.slice p l c)):=((Only.refl (fun k=>k=b) wc).setCell (p:=⟨b,0,none⟩) (fun _=>rfl) _).setCell (p:=⟨b,1,none⟩) (fun _=>rfl) _
 have hge:=(h.bnd b hm).1
 have hnb:∀ k,k∉bs→¬ k=b:=fun k hk e=>hk (e▸hm)
 have hbs:=(hb.set 0 (.bool s)).set 1 (.slice p l c)
 have hcs:(cs.set 0 (.bool s)).set 1 (.slice p l c)=[.bool s,.slice p l c]:=by
  obtain ⟨a,b',rfl⟩:=list2 hlen
  rfl
 rw [hcs] at hbs
 refine ⟨(h.below.setCell hge _).setCell hge _,fun b' hb'=>⟨(h.bnd b' hb').1,Nat.lt_of_lt_of_le (h.bnd b' hb').2 ho.size⟩,by simp,by simp,fun x hx=>?_⟩
 rcases List.mem_cons.1 hx with rfl|hx
 ·exact ⟨hm,s,p,l,c,hbs,(h.val _ hv).only ho hnb⟩
 ·obtain ⟨hx1,hx2⟩:=List.mem_filter.1 hx
  have hxb:x.1≠b:=by simpa using hx2
  obtain ⟨s',p',l',c',h1,h2⟩:=(h.var x hx1).2
  exact ⟨(h.var x hx1).1,s',p',l',c',h1.only ho hxb,h2.only ho hnb⟩
theorem Nums.store {b:Nat} {s:Bool} {p:Option Addr} {l c:Nat} {z:Int} (h:Nums w wc (some b) bs vals vars) (hv:(Value.agg #[.bool s,.slice p l c],z)∈vals) :
 Nums w ((wc.setCell ⟨b,0,none⟩ (.bool s)).setCell ⟨b,1,none⟩ (.slice p l c)) none bs [] ((b,z)::vars):=by
 obtain ⟨h1,h2,h3⟩:=h.raws b rfl
 have h4:=h.store' h1 rfl h2 hv
 have e:vars.filter (fun x=>x.1 != b)=vars:=List.filter_eq_self.2 fun x hx=>by simpa using h3 x hx
 rwa [e] at h4
theorem Nums.made {s:Bool} {p:Option Addr} {l c:Nat} {z:Int} (h:Nums w wc raw bs vals vars) (hv:(Value.agg #[.bool s,.slice p l c],z)∈vals) :
 Nums w (wc.alloc (.cells #[.bool s,.slice p l c] 102)) none (wc.heap.size::bs) [] ((wc.heap.size,z)::vars):=by
 have hsz:(wc.alloc (.cells #[.bool s,.slice p l c] 102)).heap.size=wc.heap.size+1:=by simp
 have hk:∀ {v:Value} {z:Int},IsNum wc (fun k=>k∉bs) v z→IsNum (wc.alloc (.cells #[.bool s,.slice p l c] 102)) (fun k=>k∉wc.heap.size::bs) v z:=fun hn =>
  (IsNum.alloc' hn _ (fun k hk=>hk)).weak fun k hk hm=>by
   rcases List.mem_cons.1 hm with rfl|hm
   ·exact hk.2 rfl
   ·exact hk.1 hm
 refine ⟨h.below.alloc h.below.size _,fun b hb=>?_,by simp,by simp,fun x hx=>?_⟩
 ·rcases List.mem_cons.1 hb with rfl|hb
  ·exact ⟨h.below.size,by omega⟩
  ·have:=h.bnd b hb;exact ⟨this.1,by omega⟩
 ·rcases List.mem_cons.1 hx with rfl|hx
  ·exact ⟨by simp,s,p,l,c,Blk.new wc _ _,hk (h.val _ hv)⟩
  ·obtain ⟨s',p',l',c',h1,h2⟩:=(h.var x hx).2
   exact ⟨List.mem_cons_of_mem _ (h.var x hx).1,s',p',l',c',h1.alloc _,hk h2⟩
theorem Nums.num (h:Nums w wc raw bs vals vars) {v:Value} {z:Int} (hv:(v,z)∈vals):IsNum wc (fun k=>k∉bs) v z:=h.val _ hv
theorem Nums.any (h:Nums w wc raw bs vals vars) {v:Value} {z:Int} (hv:(v,z)∈vals):IsNum wc (fun _=>True) v z:=(h.val _ hv).weak fun _ _=>trivial
theorem Nums.read (h:Nums w wc raw bs vals vars) {b:Nat} {z:Int} (hv:(b,z)∈vars) :
 ∃ s p l c,wc.cell? ⟨b,0,none⟩=some (.bool s)∧wc.cell? ⟨b,1,none⟩=some (.slice p l c)∧(∀ i,wc.frozen? ⟨b,i,none⟩=false)∧b < wc.heap.size∧Blk wc b 102 [.bool s,.slice p l c]∧Nums w wc raw bs ((.agg #[.bool s,.slice p l c],z)::vals) vars:=by
 obtain ⟨hm,s,p,l,c,h1,h2⟩:=h.var _ hv
 exact ⟨s,p,l,c,h1.cell 0,h1.cell 1,h1.frozen,h1.lt,h1,h.below,h.bnd,h.raws,fun x hx=>by
  rcases List.mem_cons.1 hx with rfl|hx
  ·exact h2
  ·exact h.val x hx,h.var⟩
theorem Nums.rawc {b:Nat} (h:Nums w wc (some b) bs vals vars):wc.cell? ⟨b,0,none⟩=some (.bool false)∧wc.cell? ⟨b,1,none⟩=some (.slice none 0 0)∧∀ i,wc.frozen? ⟨b,i,none⟩=false :=
 ⟨(h.raws b rfl).1.cell 0,(h.raws b rfl).1.cell 1,(h.raws b rfl).1.frozen⟩
theorem Nums.forget (h:Nums w wc raw bs vals vars):Nums w wc raw bs [] vars:=⟨h.below,h.bnd,h.raws,by simp,h.var⟩
end Go.Proofs.YtnpplhkpnbonaaaGreat
namespace Go.Proofs.YtnpplhkpnbonaaaGreat
open Go.RowKit Go.Afx
def splitL:List UInt8→List UInt8 × Bool
 | []=>([],false)
 | c::t=>if c=45 then (t,true) else (c::t,false)
def dig (c:UInt8):Prop:=48≤c.toNat∧c.toNat≤57
instance (c:UInt8):Decidable (dig c):=inferInstanceAs (Decidable (_∧_))
def valN (r:List UInt8):Nat:=r.foldl (fun n c=>n*10+(c.toNat - 48)) 0
def headOk (ng:Bool):List UInt8→Bool
 | []=>false
 | c::t=>!(c == 48 && (ng || !t.isEmpty))
def right (ng:Bool) (r:List UInt8):Prop:=headOk ng r=true∧∀ c∈r,dig c
instance (ng:Bool) (r:List UInt8):Decidable (right ng r):=inferInstanceAs (Decidable (_∧_))
def numN (ng:Bool) (r:List UInt8):Int:=if right ng r then shortN (sgn ng (valN r)) else 0
def numE (ng:Bool) (r:List UInt8):Int:=if right ng r then shortE (sgn ng (valN r)) else 12
def prsN (l:List UInt8):Int:=numN (splitL l).2 (splitL l).1
def prsE (l:List UInt8):Int:=numE (splitL l).2 (splitL l).1
theorem valN_next (r:List UInt8) (k:Nat) (h:k < r.length):valN (r.take (k+1))=valN (r.take k)*10+(r[k].toNat - 48):=by
 unfold valN
 rw [←List.take_append_getElem h,List.foldl_append];rfl
def keptV (n:Int) (over:Bool) (v:Nat):Prop :=
 0≤n∧n < 18446744073709551616∧(over=false∧n=v∨over=true∧18446744073709551616≤v)
theorem keptV_next {n:Int} {over:Bool} {v:Nat} (h:keptV n over v) (c:Int) (h1:48≤c) (h2:c≤57) :
 keptV ((n*10 % 18446744073709551616+(c - 48)) % 18446744073709551616) (over || (n*10 / 18446744073709551616 != 0) || ((n*10 % 18446744073709551616+(c - 48)) / 18446744073709551616 != 0)) (v*10+(c - 48).toNat):=by
 obtain ⟨h3,h4,h5⟩:=h
 refine ⟨by omega,by omega,?_⟩
 rcases h5 with ⟨rfl,h6⟩|⟨rfl,h6⟩
 ·by_cases hz:n*10 / 18446744073709551616=0∧(n*10 % 18446744073709551616+(c - 48)) / 18446744073709551616=0
  ·left
   rw [hz.1,hz.2]
   exact ⟨rfl,by omega⟩
  ·right
   refine ⟨?_,by omega⟩
   rw [Bool.false_or,Bool.or_eq_true,bne_iff_ne,bne_iff_ne]
   omega
 ·exact .inr ⟨rfl,by omega⟩
theorem headOk_cons {ng:Bool} {c:UInt8} {t:List UInt8} (h:headOk ng (c::t)=true) :
 ((c.toNat:Int) == 48)=false∨(ng=false∧((c.toNat:Int) == 48)=true∧t=[]):=by
 by_cases hc:c=48
 ·subst hc
  right
  refine ⟨?_,rfl,?_⟩
  ·cases ng
   ·rfl
   ·simp [headOk] at h
  ·cases ng<;>cases t<;>simp_all [headOk]
 ·left
  rw [beq_eq_false_iff_ne]
  intro h2
  exact hc (UInt8.toNat_inj.1 (by show c.toNat=48;omega))
theorem headOk_not {ng:Bool} {c:UInt8} {t:List UInt8} (h:headOk ng (c::t)=false) :
 (c.toNat:Int)=48∧(ng=true∨ng=false∧1≤t.length):=by
 by_cases hc:c=48
 ·subst hc
  refine ⟨rfl,?_⟩
  cases ng
  ·right
   cases t<;>simp_all [headOk]
  ·exact .inl rfl
 ·simp [headOk,hc] at h
def dig10 (u:Nat):List UInt8:=if _h:u=0 then [] else dig10 (u / 10)++[UInt8.ofNat (48+u % 10)]
decreasing_by exact Nat.div_lt_self (by omega) (by omega)
theorem dig10_zero:dig10 0=[]:=by rw [dig10];simp
theorem dig10_pos (u:Nat) (h:0 < u):dig10 u=dig10 (u / 10)++[UInt8.ofNat (48+u % 10)]:=by
 rw [dig10,dif_neg (by omega)]
def printL (n:Int):List UInt8:=if n=0 then [48] else if n < 0 then 45::dig10 n.natAbs else dig10 n.natAbs
theorem digit_toNat (x:Nat):(UInt8.ofNat (48+x % 10)).toNat=48+x % 10:=by
 rw [UInt8.toNat_ofNat']
 omega
def zb (k:Nat):List Value:=List.replicate k (.int .u8 0)
theorem zb_set (m:Nat) (suf:List UInt8) (c:UInt8):(zb (m+1)++by8 suf).set m (.int .u8 (c.toNat:Int))=zb m++by8 (c::suf):=by
 have e:zb (m+1)++by8 suf=zb m++([.int .u8 0]++by8 suf):=by
  unfold zb
  rw [List.replicate_succ',List.append_assoc]
 have hl:(zb m).length=m:=by simp [zb]
 rw [e,List.set_append_right _ _ (by omega),hl,Nat.sub_self]
 rfl
theorem by8_cells {w:World} {b m:Nat} {t:TypeId} {q:List UInt8} (h:Blk w b t (zb m++by8 q)):∀ j (hj:j < q.length),w.cell? ((⟨b,m,none⟩:Addr).add j)=some (.int .u8 (q[j].toNat:Int)):=by
 intro j hj
 have e:(⟨b,m,none⟩:Addr).add j=⟨b,m+j,none⟩:=Addr.add_lit _ _ _
 rw [e]
 refine h.cellE (m+j) ?_
 rw [List.getElem?_append_right (by simp [zb])]
 simp [zb,by8,hj]
def chars (d:List Nat):List UInt8:=d.map fun x=>UInt8.ofNat (48+x)
theorem dig10_ld (u:Nat):dig10 u=chars (ld u).reverse:=by
 induction u using Nat.strongRecOn with
 | ind u ih =>
  rcases Nat.eq_zero_or_pos u with h|h
  ·subst h;rw [dig10_zero,ld_zero];rfl
  ·rw [dig10_pos u h,ld_pos u h,ih (u / 10) (Nat.div_lt_self h (by omega))]
   simp [chars]
theorem chars_next (d:List Nat) (k:Nat) (h:k < d.length):chars (d.take (k+1)).reverse=UInt8.ofNat (48+d[k])::chars (d.take k).reverse:=by
 rw [←List.take_append_getElem h,List.reverse_append]
 rfl
def lows (r:List UInt8):List Nat:=r.reverse.map fun c=>c.toNat - 48
theorem lows_cons (c:UInt8) (r:List UInt8):lows (c::r)=lows r++[c.toNat - 48]:=by simp [lows]
theorem lows_D10 (r:List UInt8) (h:∀ c∈r,dig c):D10 (lows r):=by
 intro x hx
 obtain ⟨c,hc,rfl⟩:=List.mem_map.1 hx
 have:=h c (List.mem_reverse.1 hc)
 unfold dig at this
 omega
theorem vd_lows (r:List UInt8):vd (lows r)=valN r:=by
 have h:∀ (r:List UInt8) (a:Nat),r.foldl (fun n c=>n*10+(c.toNat - 48)) a=a*10 ^ r.length+vd (lows r):=by
  intro r
  induction r with
  | nil=>intro a;simp [lows,vd]
  | cons c r ih =>
   intro a
   rw [List.foldl_cons,ih,lows_cons,vd_append,List.length_cons,Nat.pow_succ]
   have:(lows r).length=r.length:=by simp [lows]
   rw [this]
   simp only [vd,Nat.mul_zero,Nat.add_zero]
   rw [Nat.add_mul,Nat.mul_assoc,Nat.mul_comm 10 (10 ^ r.length),Nat.mul_comm (c.toNat - 48)]
   omega
 have:=h r 0
 unfold valN
 rw [this];simp
theorem byte_at (s:ByteArray) (l:List UInt8) (h:s.data.toList=l) (i:Nat) (hi:i < s.size) (hi2:i < l.length):((s[i]'hi).toNat:Int)=(l[i].toNat:Int):=by
 rw [get_list s l h i hi hi2]
end Go.Proofs.YtnpplhkpnbonaaaGreat
