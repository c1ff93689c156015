/- Contracts of the functions that the statement reaches, one behind the other. No condition beyond each theorem's own. -/
import Derived.Test.YteggkjdlajgenaaGreatDoorTS4
import Derived.Test.YteggkjdlajgenaaGreatDoorTS7
set_option linter.unusedSimpArgs false
set_option linter.unusedVariables false
set_option maxRecDepth 100000
set_option maxHeartbeats 4000000
theorem zIMF {P:Prop} (h:P:=by
 have hb3:=hb.trans (hb2.mono hb.size)
 by_cases hk:ks=[]
 ·subst hk
  refine ⟨0,zTbe,hb3,acc',hbest,.inl ⟨rfl,?_,rfl⟩⟩
  rw [hres,←h0 rfl]
  simp only [List.map_nil]
  rw [flat_leaf]
 ·obtain ⟨c,hc,hc2⟩:=h1 hk
  have hcm:c∈ks:=List.mem_of_getElem? hc
  rcases d' with _|d'
  ·exact absurd zJtu hk
  ·have hkl:(ks.map P.t).length≤es.length+1:=Nat.le_of_eq hf.2.1
   rw [TyS.y0t] at hsq
   refine ⟨d'+1,zTbe,hb3,acc',hbest,.inr ⟨c,2,d',by rw [hc];rfl,rfl,(sep_kid (hsq.right (a:=[_,_,_])) hcm).below hb2,hf.2.2 _ (List.mem_map_of_mem hcm),?_,Nat.le_trans (kid_flat_len hkl (List.mem_map_of_mem hcm)) hln,by rw [hres,hc2]⟩⟩
   exact kid_rise hr hkl (List.mem_map_of_mem hcm)
 ):P:=h
theorem zBTU {P:Prop} (h:P:=by simp [results,Tryz.results86,go_sem]):P:=h
theorem zrPU {P:Prop} (h:P:=by
 have zz:Hid (∀ w2,Below wr.heap.size wr w2→Calls Tryz.prog 117 #[ptrV b,.int .i64 (j:Int)] w2 fun e w'=>e=.returned (kidV ks[j]?)∧w'=w2):=(fun w2 (hb2:Below wr.heap.size wr w2)=>TyS.y1r w2 b _ av bv ks j (fun _=>True) (HKB.out.below hb2) ((HOK.out.below hb2).sl (fun _ _=>trivial)) hjk)
 exact zz):P:=h
theorem zCxV {P:Prop} (h:P:=by
 obtain ⟨hjl,hjx⟩:=List.getElem?_eq_some_iff.1 hej
 obtain ⟨g,off,cap,hav2,hg,e0,e1⟩:=HEJ.out hjl
 rw [hjx] at e0 e1
 rw [hav2] at hav
 cases hav
 rw [hej,Option.some_or] at HSTEP
 have hjn:j < ne:=by rw [←hne];exact hjl
 have HAV2:=Lib.hid hav2
 clear hav2 hej hjx HEJ hne hjl
 unfold ptrV
 go_wp2_with fail
 refine HFD.out.mono ?_
 rintro e w2 ⟨rfl,hb2⟩
 obtain ⟨y0,y1⟩:=pg_cells (HKB.out.below hb2)
 rw [HAV2.out] at y0
 have HB2:=Lib.hid hb2
 clear hb2
 go_wp2_with fail
 refine (HCH.out w2 HB2.out).mono ?_
 rintro e wq ⟨rfl,hq⟩
 subst hq
 have hnew:=HSTEP.out _ (.pointer (some ⟨g,off+j*2,none⟩)) HB2.out ⟨g,_,rfl,Nat.lt_of_lt_of_le hg HB2.out.size,(HB2.out.cell hg).trans e0,(HB2.out.cell hg).trans e1⟩
 have HNEW:=Lib.hid hnew
 clear hnew e0 e1
 go_wp2_with fail
 go_roundw
 case rel=>obtain ⟨d2,h1,h2⟩:=HNEW.out;exact ⟨d2,h2⟩
 case measure =>
  exact zaWp
 ):P:=h
theorem zaWp {P:Prop} (h:P:=by
 obtain ⟨d2,h1,h2⟩:=HNEW.out
 have h3:=gm_le h2
 have h4:=HGM.out
 unfold ptrV at h4
 refine Nat.lt_of_le_of_lt h3 ?_
 exact Nat.lt_of_lt_of_eq h1 h4.symm
 ):P:=h
theorem zFuM {P:Prop} (h:P:=by
 rw [hej,Option.none_or] at HSTEP
 have hjn:¬ j < ne:=by
  rw [List.getElem?_eq_none_iff] at hej
  omega
 clear hne hej HEJ
 unfold ptrV
 go_wp2_with fail
 refine HFD.out.mono ?_
 rintro e w2 ⟨rfl,hb2⟩
 obtain ⟨y0,y1⟩:=pg_cells (HKB.out.below hb2)
 rw [HAV.out] at y0
 have HB2:=Lib.hid hb2
 clear hb2
 go_wp2_with fail
 refine (HCH.out w2 HB2.out).mono ?_
 rintro e wq ⟨rfl,hq⟩
 subst hq
 have hnew:=HSTEP.out _ _ HB2.out (HBEST.out.below HB2.out)
 have HNEW:=Lib.hid hnew
 clear hnew
 go_wp2_with fail
 go_roundw
 case rel=>obtain ⟨d2,h1,h2⟩:=HNEW.out;exact ⟨d2,h2⟩
 case measure =>
  exact zaWp
 ):P:=h
theorem zuHJ {P:Prop} (h:P:=by
 have HE:=Lib.hid he
 clear hown hfr hbw hkf hab he
 go_wp2
 go_ret
 exact ⟨_,rfl,by rw [HE.out];exact HOWN.out,HFR.out,HBW.out⟩
 ):P:=h
theorem zI1D {P:Prop} (h:P:=by
 have HST:=Lib.hid hst
 have hal5:=zp9w
 have ho1:=HOWN.out.below hal5
 have hxb:=Blk.new wr 9 [.string (kb xk)]
 have hs1:Sl (wr.alloc (.cells #[.string (kb xk)] 9)) (fun _=>True) 1 (.slice (some ⟨wr.heap.size,0,none⟩) 1 1) 1 [.string (kb xk)] :=
  ⟨rfl,Ones.cons rfl Ones.nil,.inr ⟨wr.heap.size,0,1,rfl,Nat.le_refl _,zdUY,trivial,hxb.lt,fun j hj=>zMNU⟩⟩
 have HX5:=Lib.hid hal5
 clear hal5 hxb hst hown hfr hbw hkf hab hu hte hlt
 go_wp2_with (at_builtin;refine wpList_app rfl _ _ rfl elemKey zdhv ho1 zdhv hs1 zefz zTbe ?_;intro v1 w7 g1 g2 g3 g4 g5;clear ho1 hs1;have G1:=Lib.hid g1;have G2:=Lib.hid g2;have G3:=Lib.hid g3;clear g1 g2 g3 g4 g5)
 have hb7:=zhHi
 have HB7:=Lib.hid hb7
 refine (HNXT.out w7 hb7).mono ?_
 clear hb7
 rintro e w8 ⟨rfl,hb8⟩
 have HB8:=Lib.hid hb8
 have hn8:=HST.out v1 w8 (G1.out.below hb8) (fun q hq=>by
  rcases G3.out with h|h
  ·rw [h] at hq;exact HFR.out q hq
  ·rw [h] at hq
   have h1:=zihe
   have h2:=HX5.out.size
   have h3:=HBW.out.size
   omega) (HB7.out.trans (hb8.mono HB7.out.size))
 have HN8:=Lib.hid hn8
 clear hb8 hn8
 go_wp2_with fail
 go_roundw
 case rel=>exact ⟨r.length,HN8.out⟩
 case measure =>
  have h3:=gm_le HN8.out
  have h4:=HGM2.out
  have h5:=HBL.out
  refine Nat.lt_of_le_of_lt h3 ?_
  refine Nat.lt_of_lt_of_eq ?_ h4.symm
  omega
 ):P:=h
theorem zp9w {P:Prop} (h:P:=by
 have zz:Below wr.heap.size wr (wr.alloc (.cells #[.string (kb xk)] 9)):=(Below.refl _ _).alloc (Nat.le_refl _) _
 exact zz):P:=h
theorem zMNU {P:Prop} (h:P:=by rw [Nat.zero_add];exact hxb.cell j):P:=h
theorem zhHi {P:Prop} (h:P:=by
 have zz:Below w.heap.size w w7:=(HBW.out.trans (HX5.out.mono HBW.out.size)).trans (G2.out.below z9Oi (fun q hq=>HFR.out q hq))
 exact zz):P:=h
theorem z9Oi {P:Prop} (h:P:=by have:=HX5.out.size;have:=HBW.out.size;omega):P:=h
theorem zihe {P:Prop} (h:P:=by
 have zz:(wr.alloc (.cells #[.string (kb xk)] 9)).heap.size=q:=Option.some.inj hq
 exact zz):P:=h
theorem zCrx {P:Prop} (h:P:=by
 have zz:Below w.heap.size w (w.alloc (.cells S.cells.toArray 125)):=(Below.refl _ _).alloc (Nat.le_refl _) _
 exact zz):P:=h
theorem zxJo {P:Prop} (h:P:=by
 have zz:∃ p n c,S.colsV=.slice p n c:=by obtain ⟨p,c,h,_⟩:=h.cols.form;exact ⟨p,_,c,h⟩
 exact zz):P:=h
theorem zIQI {P:Prop} (h:P:=by
 have zz:∃ p n c,S.idxV=.slice p n c:=by obtain ⟨p,c,h,_⟩:=h.idx.1.form;exact ⟨p,_,c,h⟩
 exact zz):P:=h
theorem zv8j {P:Prop} (h:P:=by
 exact ⟨_,rfl,HO3.out,HB2.out.trans (HB3.out.mono HB2.out.size),fun q hq=>Nat.le_trans HB2.out.size (HN3.out q hq)⟩
 ):P:=h
theorem zONN {P:Prop} (h:P:=by rw [←h.xl];exact hi):P:=h
theorem zgTD {P:Prop} (h:P:=by
 have h1:q.1∈g.S.idx:=by rw [←h.ixs];exact List.mem_map_of_mem hq
 obtain ⟨p,c,h2,_⟩:=(h.st.sch.idx.2 _ h1).form
 exact ⟨p,_,c,h2⟩
 ):P:=h
theorem zOT4 {P:Prop} (h:P:=by
 have zz:∃ w4,wr.alloc (.cells #[.slice px nx cx,.bool u,.pointer (some ⟨x.2.b,0,none⟩)] 123)=w4:=⟨_,rfl⟩
 exact zz):P:=h
theorem zsNI {P:Prop} (h:P:=by
 have zz:Blk w4 wr.heap.size 123 [.slice px nx cx,.bool u,.pointer (some ⟨x.2.b,0,none⟩)]:=hw4▸Blk.new wr _ _
 exact zz):P:=h
theorem zucm {P:Prop} (h:P:=by
 go_wp2_with (first
  | (refine stp ?_))
 go_roundw
 case rel=>exact ⟨k+1,by congr 1,zTbe,HLN.out⟩
 case measure=>(simp [intOf])<;>omega
 ):P:=h
theorem zP42 {P:Prop} (h:P:=by
 have zz:0 < g.S.idx.length:=(sch_small h.st.right).2.2.1
 exact zz):P:=h
theorem zX0L {P:Prop} (h:P:=by
 have zz:(keysO g.S row).length=g.xs.length:=by rw [keysO_len h0,h.xl]
 exact zz):P:=h
theorem zAgG {P:Prop} (h:P:=by
 have:g.rt.p.t.flat=ents (kfS g.S) g.L:=h.rtf
 rw [this,look_ents];rfl
 ):P:=h
theorem zfvr {P:Prop} (h:P:=by
 have zz:p∈g.L:=List.mem_of_find?_eq_some hp
 exact zz):P:=h
theorem zmZk {P:Prop} (h:P:=by have h1:=(fitB_len hok.fit).1;have h2:=(sch_small h.st.right).1;omega):P:=h
theorem zwZ8 {P:Prop} (h:P:=by have h1:=(fitB_len (h.ok p hm).fit).1;have h2:=(sch_small h.st.right).1;omega):P:=h
theorem zkd2 {P:Prop} (h:P:=by
 exact ⟨rfl,g,StepT.same h hb,rfl⟩
 ):P:=h
namespace Go.Proofs.YteggkjdlajgenaaGreatDoor
open Go.RowKit Go.Afx
def NextSts (w:World) (res:Option En) (k:Key) (wi:Bool) (best v:Value) (wr:World) (d:Nat):Prop :=
 Below w.heap.size w wr∧∃ acc,BestAt wr best acc∧((v=.pointer none∧res=acc∧d=0)∨∃ q m d',v=ptrV q.blk∧d=d'+1∧Sep wr (TyS.y0o q)∧Fat m d' q.t∧Rise q.t.flat∧q.t.flat.length≤99999∧res=(abv k wi q.t.flat).or acc)
theorem Next_step_s (w wr:World) (res:Option En) (k:Key) (wi:Bool) (b:Nat) (av bv:Value) (es:List En) (ks:List P) (m d' j:Nat) (acc acc':Option En) (hb:Below w.heap.size w wr) (hsq:Sep wr (TyS.y0o (.node b av es bv ks)))
 (hf:Fat m d' (.node es (ks.map P.t))) (hr:Rise (T.node es (ks.map P.t)).flat) (hln:(T.node es (ks.map P.t)).flat.length≤99999) (hres:res=(abv k wi (T.node es (ks.map P.t)).flat).or acc)
 (h0:ks=[]→(abv k wi es).or acc=acc') (h1:ks≠[]→∃ c,ks[j]?=some c∧((abv k wi (T.node es (ks.map P.t)).flat).or acc=(abv k wi c.t.flat).or acc')) :
 ∀ w2 best',Below wr.heap.size wr w2→BestAt w2 best' acc'→∃ d'',d'' < d'+1∧NextSts w res k wi best' (kidV ks[j]?) w2 d'':=by
 intro w2 best' hb2 hbest
 exact zIMF
theorem next_s (w:World) (tb:Nat) (p:P) (d n:Nat) (k:Key) (wi:Bool) (hs:Sep w (TyS.y13 tb p n)) (hg:Afx.Good d p.t) (hn:n=p.t.flat.length) (hl:n≤99999) :
 Calls Tryz.prog 86 #[ptrV tb,.string (kb k),.bool wi] w fun e w'=>e=.returned (toldV (.string ⟨#[]⟩) (abv k wi p.t.flat))∧Below w.heap.size w w':=by
 have kt0:Blk w tb 174 [ptrV p.blk,.int .i64 (n:Int)]:=hs.all (TyS.y12 tb p n) zPXO
 obtain ⟨c0,c1⟩:=pg_cells kt0
 obtain ⟨res,hres0⟩:∃ res,abv k wi p.t.flat=res:=⟨_,rfl⟩
 rw [hres0]
 have HST:Hid (NextSts w res k wi (.pointer none) (.pointer (some ⟨p.blk,0,none⟩)) w (d+1)):=⟨Below.refl _ _,none,rfl,.inr ⟨p,_,d,rfl,rfl,hs.right (a:=[TyS.y12 tb p n]),hg.fat,hg.rise,zTbe,by rw [hres0];simp⟩⟩
 unfold ptrV at c0 ⊢
 clear kt0 hs hg hn hl hres0
 go_enter Tryz.func86,Tryz.ntmps86
 go_wp2
 go_loopw [9,10,11,12] (fun best v i ok wr=>∃ d,NextSts w res k wi best v wr d) (fun best v _ _ wr=>gm (NextSts w res k wi best v wr))
 case atStart=>exact ⟨d+1,HST.out⟩
 case round =>
  have hst:=gm_spec hrel
  obtain ⟨dd,hdd⟩:∃ dd,gm (NextSts w res k wi u9 u10 wr)=dd:=⟨_,rfl⟩
  rw [hdd] at hst
  have HGM:=Lib.hid hdd
  clear hdd
  obtain ⟨hb,acc,hbest,hst⟩:=hst
  rcases hst with ⟨rfl,rfl,rfl⟩|⟨q,m,d',rfl,rfl,hsq,hf,hr,hln,hres⟩
  ·have HTD:=Lib.hid (TyS.y1t wr u9 res hbest)
   have HB:=Lib.hid hb
   clear hbest hb hrel
   go_wp2_with fail
   refine HTD.out.mono ?_
   rintro e w2 ⟨rfl,hb2⟩
   cases res with
   | none =>
    unfold toldV
    simp only
    go_wp2
    exact bodyPost_ret (v:=.tuple #[.string ⟨#[]⟩,(.string ⟨#[]⟩),.bool false]) zBTU rfl ⟨rfl,HB.out.trans (hb2.mono HB.out.size)⟩
   | some x =>
    unfold toldV
    simp only
    go_wp2
    exact bodyPost_ret (v:=.tuple #[.string (kb x.key),x.val,.bool true]) zBTU rfl ⟨rfl,HB.out.trans (hb2.mono HB.out.size)⟩
  ·obtain ⟨b,av,es,bv,ks,rfl⟩:=P.eta q
   rw [TyS.y0t] at hsq
   rw [P.t_node] at hf hr hln hres
   have kb0:Blk wr b 182 [av,bv]:=hsq.all (TyS.y0q b av bv) zInm
   have oa:Own wr 184 2 av es.length (enC es):=hsq.all (TyS.y0r av es) zInm
   have ok:Own wr 172 1 bv ks.length (ptrs ks):=hsq.all (TyS.y0s bv ks) zInm
   have hel:=zTDp
   have hfd:=TyS.y0k wr b _ av bv es k (fun _=>True) kb0 (oa.sl (B:=fun _=>True) (fun _ _=>trivial)) hr.es zTbe
   simp only [P.blk_node] at *
   have HKB:=Lib.hid kb0
   have HOA:=Lib.hid oa
   have HOK:=Lib.hid ok
   have HB:=Lib.hid hb
   have HSQ:=Lib.hid hsq
   have hbl:=kb0.lt
   obtain ⟨pa,ca,hav,hca1,hca2⟩:=TyS.y06 oa
   obtain ⟨ne,hne⟩:∃ ne,es.length=ne:=⟨_,rfl⟩
   rw [hne] at hav
   have HAV:=Lib.hid hav
   have HNE:=Lib.hid hne
   have HBEST:=Lib.hid hbest
   cases hh:has k es
   ·rw [hh] at hfd
    have hstep:=Next_step_s w wr res k wi b av bv es ks m d' (pos k es) acc (es[pos k es]?.or acc) hb (by rw [TyS.y0t];exact hsq) hf hr hln hres
     (fun hk=>by
      subst hk
      obtain ⟨a,b',hlf⟩:=leaf_page (k:=k) (es:=es) hr
      rw [hlf.abv.2.2 hh])
     (fun hk=>by
      rcases d' with _|d'
      ·exact absurd zJtu hk
      ·obtain ⟨a,bb,l,c,r,hsp,hgc⟩:=split_page (k:=k) hr hf.2.1
       rw [List.getElem?_map] at hgc
       cases hq:ks[pos k es]? with
       | none=>rw [hq] at hgc;cases hgc
       | some kc =>
        rw [hq] at hgc
        have hkc:kc.t=c:=by simpa using hgc
        exact ⟨kc,rfl,by rw [hsp.abv.2.2 hh,hkc,Option.or_assoc]⟩)
    have hjk:ks≠[]→pos k es < ks.length:=fun hk=>by
     rcases d' with _|d'
     ·exact absurd zJtu hk
     ·have h1:ks.length=es.length+1:=by simpa using hf.2.1
      have:=pos_le k es;omega
    obtain ⟨j,hj⟩:∃ j,j=pos k es:=⟨_,rfl⟩
    rw [←hj] at hstep hjk hfd
    have HFD:=Lib.hid hfd
    have HCH:=zrPU
    obtain ⟨nv,hnv⟩:∃ nv,kidV ks[j]?=nv:=⟨_,rfl⟩
    rw [hnv] at hstep HCH
    have HSTEP:=Lib.hid hstep
    have hj5:j≤100001:=by have h0:=pos_le k es;omega
    have HEJ:Hid (∀ h:j < es.length,∃ g off cap,av=.slice (some ⟨g,off,none⟩) ne cap∧g < wr.heap.size∧wr.cell? ⟨g,off+j*2,none⟩=some (.string (kb es[j].key))∧wr.cell? ⟨g,off+j*2+1,none⟩=some es[j].val):=fun h=>by
     rw [←hne]
     exact sl_en (oa.sl (B:=fun _=>True) (fun _ _=>trivial)) h
    unfold ptrV at HCH HFD
    clear kb0 oa ok hfd hb hsq hh hr hf hrel hln hbest hres hstep hjk hnv hj
    cases wi
    ·cases hej:es[j]? with
     | some xj =>
      exact zCxV
     | none =>
      exact zFuM
    ·cases hej:es[j]? with
     | some xj =>
      exact zCxV
     | none =>
      exact zFuM
   ·rw [hh] at hfd
    cases wi
    ·have hstep:=Next_step_s w wr res k false b av bv es ks m d' (pos k es+1) acc (es[pos k es+1]?.or acc) hb (by rw [TyS.y0t];exact hsq) hf hr hln hres
      (fun hk=>by
       subst hk
       obtain ⟨a,b',hlf⟩:=leaf_page (k:=k) (es:=es) hr
       rw [hlf.abv.2.1 hh rfl])
      (fun hk=>by
       rcases d' with _|d'
       ·exact absurd zJtu hk
       ·obtain ⟨a,bb,l,c,r,hsp,hgc⟩:=split_page (k:=k) hr hf.2.1
        obtain ⟨c',hc',habv⟩:=hsp.abv.2.1 hh rfl
        rw [List.getElem?_map] at hc'
        cases hq:ks[pos k es+1]? with
        | none=>rw [hq] at hc';cases hc'
        | some kc =>
         rw [hq] at hc'
         have hkc:kc.t=c':=by simpa using hc'
         exact ⟨kc,rfl,by rw [habv,hkc,Option.or_assoc]⟩)
     have hpl:pos k es < es.length:=(has_at.1 hh).1
     have hjk:ks≠[]→pos k es+1 < ks.length:=fun hk=>by
      rcases d' with _|d'
      ·exact absurd zJtu hk
      ·have h1:ks.length=es.length+1:=by simpa using hf.2.1
       omega
     obtain ⟨i,hi⟩:∃ i,i=pos k es:=⟨_,rfl⟩
     obtain ⟨j,hj⟩:∃ j,j=i+1:=⟨_,rfl⟩
     rw [←hi,←hj] at hstep hjk
     rw [←hi] at hfd hpl
     clear hi
     have hj2:(i:Int)+1=(j:Int):=zTbe
     have HFD:=Lib.hid hfd
     have HCH:=zrPU
     obtain ⟨nv,hnv⟩:∃ nv,kidV ks[j]?=nv:=⟨_,rfl⟩
     rw [hnv] at hstep HCH
     have HSTEP:=Lib.hid hstep
     have hj5:j≤100001:=by have h0:=pos_le k es;omega
     have HEJ:Hid (∀ h:j < es.length,∃ g off cap,av=.slice (some ⟨g,off,none⟩) ne cap∧g < wr.heap.size∧wr.cell? ⟨g,off+j*2,none⟩=some (.string (kb es[j].key))∧wr.cell? ⟨g,off+j*2+1,none⟩=some es[j].val):=fun h=>by
      rw [←hne]
      exact sl_en (oa.sl (B:=fun _=>True) (fun _ _=>trivial)) h
     unfold ptrV at HCH HFD
     clear kb0 oa ok hfd hb hsq hh hr hf hrel hln hbest hres hstep hjk hnv hj
     cases hej:es[j]? with
     | some xj =>
      exact zCxV
     | none =>
      exact zFuM
    ·have hpl:pos k es < es.length:=(has_at.1 hh).1
     have hx:=z2tu
     have hrx:res=some es[pos k es]:=by
      rw [hres]
      rcases d' with _|d'
      ·have hk0:ks=[]:=by simpa using hf.2
       subst hk0
       simp only [List.map_nil]
       rw [flat_leaf]
       obtain ⟨a,b',hlf⟩:=leaf_page (k:=k) (es:=es) hr
       obtain ⟨e,h1,h2⟩:=hlf.abv.1 hh rfl
       rw [h2,←h1,hx];rfl
      ·obtain ⟨a,bb,l,c,r,hsp,hgc⟩:=split_page (k:=k) hr hf.2.1
       obtain ⟨e,h1,h2⟩:=hsp.abv.1 hh rfl
       rw [h2,←h1,hx];rfl
     obtain ⟨x,hxx⟩:∃ x,es[pos k es]=x:=⟨_,rfl⟩
     obtain ⟨g,off,cap,hav2,hg,e0,e1⟩:=sl_en (oa.sl (B:=fun _=>True) (fun _ _=>trivial)) hpl
     rw [hne] at hav2
     rw [hav2] at hav
     cases hav
     rw [hne] at hpl
     rw [hxx] at hrx e0 e1
     subst hrx
     clear hxx
     obtain ⟨i,hi⟩:∃ i,i=pos k es:=⟨_,rfl⟩
     rw [←hi] at hpl e0 e1 hfd
     have HFD:=Lib.hid hfd
     have HAV2:=Lib.hid hav2
     clear kb0 oa ok hfd hb hsq hh hav2 hr hf hrel hln hx hne hi hbest hres
     unfold ptrV at HFD ⊢
     go_wp2_with fail
     refine HFD.out.mono ?_
     rintro e w2 ⟨rfl,hb2⟩
     have HTD:=Lib.hid (TyS.y1t w2 (.pointer (some ⟨g,off+i*2,none⟩)) (some x) ⟨g,_,rfl,Nat.lt_of_lt_of_le hg hb2.size,(hb2.cell hg).trans e0,(hb2.cell hg).trans e1⟩)
     obtain ⟨y0,y1⟩:=pg_cells (HKB.out.below hb2)
     rw [HAV2.out] at y0
     have HB2:=Lib.hid hb2
     clear hb2 e0 e1
     unfold toldV at HTD
     simp only at HTD
     go_wp2_with fail
     refine HTD.out.mono ?_
     rintro e w3 ⟨rfl,hb3⟩
     go_wp2
     exact bodyPost_ret (v:=.tuple #[.string (kb x.key),x.val,.bool true]) zBTU rfl ⟨rfl,HB.out.trans ((HB2.out.trans (hb3.mono HB2.out.size)).mono HB.out.size)⟩
def AheadSts (w:World) (res:Option En) (k:Key) (wi:Bool) (best v:Value) (wr:World) (d:Nat):Prop :=
 Below w.heap.size w wr∧∃ acc,BestAt wr best acc∧((v=.pointer none∧res=acc∧d=0)∨∃ q m d',v=ptrV q.blk∧d=d'+1∧Sep wr (TyS.y0o q)∧Fat m d' q.t∧Rise q.t.flat∧q.t.flat.length≤99999∧res=(blw k wi q.t.flat).or acc)
theorem Ahead_step_s (w wr:World) (res:Option En) (k:Key) (wi:Bool) (b:Nat) (av bv:Value) (es:List En) (ks:List P) (m d' j:Nat) (acc acc':Option En) (hb:Below w.heap.size w wr) (hsq:Sep wr (TyS.y0o (.node b av es bv ks)))
 (hf:Fat m d' (.node es (ks.map P.t))) (hr:Rise (T.node es (ks.map P.t)).flat) (hln:(T.node es (ks.map P.t)).flat.length≤99999) (hres:res=(blw k wi (T.node es (ks.map P.t)).flat).or acc)
 (h0:ks=[]→(blw k wi es).or acc=acc') (h1:ks≠[]→∃ c,ks[j]?=some c∧((blw k wi (T.node es (ks.map P.t)).flat).or acc=(blw k wi c.t.flat).or acc')) :
 ∀ w2 best',Below wr.heap.size wr w2→BestAt w2 best' acc'→∃ d'',d'' < d'+1∧AheadSts w res k wi best' (kidV ks[j]?) w2 d'':=by
 intro w2 best' hb2 hbest
 exact zIMF
def LastSts (w:World) (res:Option En) (best v:Value) (wr:World) (d:Nat):Prop :=
 Below w.heap.size w wr∧∃ acc,BestAt wr best acc∧((v=.pointer none∧res=acc∧d=0)∨∃ q m d',v=ptrV q.blk∧d=d'+1∧Sep wr (TyS.y0o q)∧Fat m d' q.t∧q.t.flat.length≤99999∧res=(q.t.flat.getLast?).or acc)
theorem Last_step_s (w wr:World) (res:Option En) (b:Nat) (av bv:Value) (es:List En) (ks:List P) (m d':Nat) (acc:Option En) (hb:Below w.heap.size w wr) (hsq:Sep wr (TyS.y0o (.node b av es bv ks)))
 (hf:Fat m d' (.node es (ks.map P.t))) (hln:(T.node es (ks.map P.t)).flat.length≤99999) (hres:res=((T.node es (ks.map P.t)).flat.getLast?).or acc) :
 ∀ w2 best',Below wr.heap.size wr w2→BestAt w2 best' (es.getLast?.or acc)→∃ d'',d'' < d'+1∧LastSts w res best' (kidV ks[es.length]?) w2 d'':=by
 intro w2 best' hb2 hbest
 have hb:=hb.trans (hb2.mono hb.size)
 by_cases hk:ks=[]
 ·subst hk
  refine ⟨0,zTbe,hb,_,hbest,.inl ⟨rfl,?_,rfl⟩⟩
  rw [hres]
  simp only [List.map_nil]
  rw [flat_leaf]
 ·rcases d' with _|d'
  ·exact absurd zJtu hk
  ·rcases List.eq_nil_or_concat ks with h|⟨kl,kc,h⟩
   ·exact absurd h hk
   ·rw [List.concat_eq_append] at h
    subst h
    have hlen:es.length=kl.length:=by have:=hf.2.1;simp at this;omega
    have hc:(kl++[kc])[es.length]?=some kc:=by rw [hlen];simp
    have hcm:kc∈kl++[kc]:=zPXO
    have hkl:((kl++[kc]).map P.t).length≤es.length+1:=Nat.le_of_eq hf.2.1
    rw [TyS.y0t] at hsq
    refine ⟨d'+1,zTbe,hb,_,hbest,.inr ⟨kc,2,d',by rw [hc];rfl,rfl,(sep_kid (hsq.right (a:=[_,_,_])) hcm).below hb2,hf.2.2 _ (List.mem_map_of_mem hcm),Nat.le_trans (kid_flat_len hkl (List.mem_map_of_mem hcm)) hln,?_⟩⟩
    rw [hres,List.map_append]
    show ((T.node es (kl.map P.t++[kc.t])).flat.getLast?).or acc=_
    rw [last_page es (kl.map P.t) kc.t (by rw [List.length_map];exact hlen),Option.or_assoc]
def KeysSts (w:World) (flat:List En) (fr tu:Key) (most:Int) (l k ok:Value) (wr:World) (m:Nat):Prop :=
 ∃ acc a b,flat=a++b∧b.length=m∧keysFrom fr tu flat=acc++keysUp tu b∧(acc.length:Int)≤max most 0∧Own wr 9 1 l acc.length (strs acc)∧(∀ q,l.ownBlock=some q→w.heap.size≤q)∧Below w.heap.size w wr ∧
  k=.string (headK b)∧ok=.bool (!b.isEmpty)
theorem keys_s (w:World) (tb:Nat) (p:P) (d n:Nat) (fr tu:Key) (most:Int) (hs:Sep w (TyS.y13 tb p n)) (hg:Afx.Good d p.t) (hn:n=p.t.flat.length) (hl:n≤99999) (hm1:-9223372036854775808≤most) (hm2:most≤9223372036854775807) :
 Calls Tryz.prog 62 #[ptrV tb,.string (kb fr),.string (kb tu),.int .i64 most] w fun e w'=>∃ v,e=.returned v∧Own w' 9 1 v ((keysFrom fr tu p.t.flat).take most.toNat).length (strs ((keysFrom fr tu p.t.flat).take most.toNat)) ∧
  (∀ q,v.ownBlock=some q→w.heap.size≤q)∧Below w.heap.size w w':=by
 have HNX:=Lib.hid (fun (w2:World) (hb:Below w.heap.size w w2) (k:Key) (wi:Bool)=>next_s w2 tb p d n k wi (hs.below hb) hg hn hl)
 have hrise:=hg.rise
 have hfl:p.t.flat.length≤99999:=zTbe
 generalize p.t.flat=flat at *
 obtain ⟨out,hout⟩:∃ out,(keysFrom fr tu flat).take most.toNat=out:=⟨_,rfl⟩
 rw [hout]
 have HOUT:=Lib.hid hout
 clear hout
 obtain ⟨a0,b0,hab,hlt,hge,habv⟩:=part_below fr hrise
 have hkf:keysFrom fr tu flat=keysUp tu b0:=by
  rw [hab,keysFrom_less hlt,keysFrom_up (by rw [hab] at hrise;exact hrise.right) hge]
 have HSTART:Hid (∀ wr,Below w.heap.size w wr→KeysSts w flat fr tu most (.slice none 0 0) (.string (headK b0)) (.bool (!b0.isEmpty)) wr b0.length):=fun wr hb =>
  ⟨[],a0,b0,hab,rfl,by rw [hkf];rfl,zr2F,Own.nil _ _ _,zfJ3,hb,rfl,rfl⟩
 have HN0:=HNX.out w (Below.refl _ _) fr true
 rw [habv] at HN0
 have HN1:=Lib.hid HN0
 have HRISE:=Lib.hid hrise
 clear HN0 hab hlt hge habv hkf hs hg hn hl hrise
 unfold ptrV
 go_enter Tryz.func62,Tryz.ntmps62
 go_wp2_with fail
 refine HN1.out.mono ?_
 clear HN1
 rintro e w2 ⟨rfl,hb2⟩
 have HS2:=Lib.hid (HSTART.out w2 hb2)
 clear hb2 HSTART
 rw [toldV_head]
 generalize headK b0=k0 at *
 generalize headV (.string ⟨#[]⟩) b0=v0 at *
 generalize (!b0.isEmpty)=ok0 at *
 go_wp2
 go_loopw [9,10,12] (fun l k ok wr=>∃ m,KeysSts w flat fr tu most l k ok wr m) (fun l k ok wr=>gm (KeysSts w flat fr tu most l k ok wr))
 case atStart=>exact ⟨_,HS2.out⟩
 case round =>
  have hst:=gm_spec hrel
  obtain ⟨dd,hdd⟩:∃ dd,gm (KeysSts w flat fr tu most u9 u10 u12 wr)=dd:=⟨_,rfl⟩
  rw [hdd] at hst
  have HGM:=Lib.hid hdd
  clear hdd HS2 hrel
  obtain ⟨acc,a,b,hab,hbl,hkf,hacc,hown,hfr,hbw,hk,hok⟩:=hst
  obtain ⟨pl,cl,rfl,hcl1,hcl2⟩:=(hown.sl (B:=fun _=>True) (fun _ _=>trivial)).form
  have hal:acc.length≤99999:=by
   have h1:(keysFrom fr tu flat).length≤flat.length:=by
    unfold keysFrom
    rw [List.length_map]
    exact List.length_filter_le _ _
   rw [hkf,List.length_append] at h1
   omega
  have HOWN:=Lib.hid hown
  have HFR:=Lib.hid hfr
  have HBW:=Lib.hid hbw
  have HKF:=Lib.hid hkf
  have HEND:Hid (keysUp tu b=[]∨¬ (acc.length:Int) < most→out=acc):=fun h=>by
   rw [←HOUT.out,hkf]
   rcases h with h|h
   ·rw [h,List.append_nil,List.take_of_length_le zTbe]
   ·have h2:most.toNat=acc.length:=by omega
    rw [h2,List.take_left' rfl]
  cases b with
  | nil =>
   subst hk
   subst hok
   have he:=HEND.out (.inl rfl)
   exact zuHJ
  | cons x r =>
   subst hk
   subst hok
   by_cases hlm:(acc.length:Int) < most
   ·obtain ⟨te,hte⟩:∃ te,tu.isEmpty=te:=⟨_,rfl⟩
    obtain ⟨lt,hlt⟩:∃ lt,Op.bytesLess x.key tu=lt:=⟨_,rfl⟩
    have hte2:(kb tu).toList.isEmpty=te:=by rw [kb_toList];exact hte
    have hlt2:Op.bytesLess (kb x.key).toList (kb tu).toList=lt:=by rw [kb_toList,kb_toList];exact hlt
    have HUP:Hid (keysUp tu (x::r)=if te || lt then x.key::keysUp tu r else []):=by
     show _=_
     rw [keysUp,hte,hlt]
    have HNXT:=Lib.hid (fun w3 (hb:Below w.heap.size w w3)=>by
     have h1:=HNX.out w3 hb x.key false
     have h2:abv x.key false flat=r.head?:=by
      rw [hab]
      exact abv_next (by rw [←hab];exact HRISE.out)
     rw [h2,toldV_head] at h1
     exact h1)
    have HSTEP:Hid (keysFrom fr tu flat=acc++x.key::keysUp tu r→∀ v w3,Own w3 9 1 v (acc.length+1) (strs acc++[.string (kb x.key)])→(∀ q,v.ownBlock=some q→w.heap.size≤q)→Below w.heap.size w w3→KeysSts w flat fr tu most v (.string (headK r)) (.bool (!r.isEmpty)) w3 r.length):=fun h v w3 ho hf hb=>by
     refine ⟨acc++[x.key],a++[x],r,by rw [hab];simp,rfl,by rw [h];simp,zr2F,?_,hf,hb,rfl,rfl⟩
     rw [List.length_append,strs_append]
     exact ho
    have HBL:Hid (dd=r.length+1):=hbl.symm
    have HGM2:Hid (gm (KeysSts w flat fr tu most (.slice pl acc.length cl) (.string (kb x.key)) (.bool true) wr)=dd):=HGM
    unfold headK
    simp only [List.isEmpty_cons,Bool.not_false]
    generalize x.key=xk at *
    cases te
    ·cases lt
     ·have hu:keysUp tu (x::r)=[]:=HUP.out
      have he:=HEND.out (.inl hu)
      have HE:=Lib.hid he
      clear hown hfr hbw hkf hab he hu hte hlt
      go_wp2
      go_ret
      exact ⟨_,rfl,by rw [HE.out];exact HOWN.out,HFR.out,HBW.out⟩
     ·have hu:keysUp tu (x::r)=xk::keysUp tu r:=HUP.out
      rw [hu] at hkf
      have hst:=HSTEP.out hkf
      exact zI1D
    ·have hu:keysUp tu (x::r)=xk::keysUp tu r:=HUP.out
     rw [hu] at hkf
     cases lt
     ·have hst:=HSTEP.out hkf
      exact zI1D
     ·have hst:=HSTEP.out hkf
      exact zI1D
   ·have he:=HEND.out (.inr hlm)
    exact zuHJ
theorem cells3_at {α:Type} (f:α→List Value) (hf:∀ a,(f a).length=3) (l:List α) (k r:Nat) (hk:k < l.length) (hr:r < 3):((l.map f).flatten)[k*3+r]?=(f l[k])[r]?:=by
 have hlen:∀ c∈l.map f,c.length=3:=by
  exact ztz1
 exact zAOB
theorem cells3_length {α:Type} (f:α→List Value) (hf:∀ a,(f a).length=3) (l:List α):((l.map f).flatten).length=l.length*3:=by
 have hlen:∀ c∈l.map f,c.length=3:=by
  exact ztz1
 exact z6Ba
theorem sl_three {α:Type} {f:α→List Value} (hf:∀ a,(f a).length=3) {w:World} {B:Nat→Prop} {v:Value} {l:List α} (h:Sl w B 3 v l.length ((l.map f).flatten)) {k:Nat} (hk:k < l.length) :
 ∃ g off cap,v=.slice (some ⟨g,off,none⟩) l.length cap∧B g∧g < w.heap.size∧w.cell? ⟨g,off+k*3,none⟩=(f l[k])[0]?∧w.cell? ⟨g,off+k*3+1,none⟩=(f l[k])[1]?∧w.cell? ⟨g,off+k*3+2,none⟩=(f l[k])[2]?:=by
 obtain ⟨g,off,cap,hv,_,_,hgb,hglt,hc⟩:=h.place zTbe
 have get:∀ r,r < 3→w.cell? ⟨g,off+(k*3+r),none⟩=(f l[k])[r]?:=fun r hr=>by
  rw [hc _ (by rw [cells3_length f hf];omega),cells3_at f hf l k r hk hr]
 exact ⟨g,off,cap,hv,hgb,hglt,get 0 zTbe,get 1 zTbe,get 2 zTbe⟩
structure TreeX where
 b:Nat
 p:P
abbrev TreeX.flat (x:TreeX):List En:=x.p.t.flat
def TreeX.rv (x:TreeX):List Res:=TyV.y13 x.b x.p x.flat.length
def TreeX.rs (x:TreeX):List Res:=TyS.y13 x.b x.p x.flat.length
abbrev IxT:=IdxV × TreeX
def ixOne (q:IxT):List Value:=[q.1.v,.bool q.1.unique,ptrV q.2.b]
def ixC (xs:List IxT):List Value:=(xs.map ixOne).flatten
def itsR (xs:List IxT):List Res:=xs.flatMap fun q=>q.2.rs
theorem itsR_nil:itsR []=[]:=rfl
theorem itsR_cons (q:IxT) (l:List IxT):itsR (q::l)=q.2.rs++itsR l:=rfl
theorem itsR_append (a b:List IxT):itsR (a++b)=itsR a++itsR b:=by simp [itsR]
theorem ixC_append (a b:List IxT):ixC (a++b)=ixC a++ixC b:=by simp [ixC]
theorem ixC_length (a:List IxT):(ixC a).length=a.length*3:=cells3_length ixOne (fun _=>rfl) a
def tabCells (S:SchV) (rp iv:Value):List Value:=[.string S.name,S.colsV,S.idxV,.int .i64 S.limit,.int .i64 S.parts,.int .i64 S.by_,rp,iv]
def rTab (tb:Nat) (S:SchV) (rp iv:Value):Res:=Res.blk tb 129 (tabCells S rp iv)
theorem tab_cells {w:World} {b:Nat} {t:TypeId} {S:SchV} {rp iv:Value} (h:Blk w b t (tabCells S rp iv)) :
 w.cell? ⟨b,0,none⟩=some (.string S.name)∧w.cell? ⟨b,1,none⟩=some S.colsV∧w.cell? ⟨b,2,none⟩=some S.idxV∧w.cell? ⟨b,3,none⟩=some (.int .i64 S.limit)∧w.cell? ⟨b,4,none⟩=some (.int .i64 S.parts)∧w.cell? ⟨b,5,none⟩=some (.int .i64 S.by_) ∧
  w.cell? ⟨b,6,none⟩=some rp∧w.cell? ⟨b,7,none⟩=some iv :=
 ⟨h.cell 0,h.cell 1,h.cell 2,h.cell 3,h.cell 4,h.cell 5,h.cell 6,h.cell 7⟩
def kfS (S:SchV) (i:Nat) (r:List AV):Key:=match S.idx[i]? with
 | some x=>skey S.idx r x
 | none=>[]
theorem kfS_at {S:SchV} {i:Nat} (h:i < S.idx.length) (r:List AV):kfS S i r=skey S.idx r S.idx[i]:=by unfold kfS;rw [List.getElem?_eq_getElem h]
structure TabG where
 tb:Nat
 S:SchV
 iv:Value
 rt:TreeX
 xs:List IxT
 L:List (List AV × Value)
def TabG.res (g:TabG):List Res:=rTab g.tb g.S (ptrV g.rt.b) g.iv::(g.rt.rv++itsR g.xs)
def TabG.rows (g:TabG):List (List AV):=g.L.map Prod.fst
structure RowOK (S:SchV) (r:List AV):Prop where
 fit:fitB S.cols r=true
 n64:∀ a∈r,fit64 a.n
def MxR (R:Nat→Prop):Prop:=R (Tryz.lays155_ren.g 1)
structure TabSt (w:World) (R:Nat→Prop) (S:SchV):Prop where
 mx:Mx w
 mxr:MxR R
 sch:SchAt w R S
 right:rightS S=true
structure TabOK (w:World) (R:Nat→Prop) (g:TabG):Prop where
 st:TabSt w R g.S
 ix:Sl w R 3 g.iv g.xs.length (ixC g.xs)
 ixs:g.xs.map Prod.fst=g.S.idx
 at_:∀ p∈g.L,Sl w R 3 p.2 p.1.length (rowCells p.1)
 ok:∀ p∈g.L,RowOK g.S p.1
 lim:g.L.length≤1000
 tab:TabM (kfS g.S) g.S.idx.length g.rows
 rt:∃ d,Afx.Good d g.rt.p.t
 rtf:g.rt.flat=ents (kfS g.S) g.L
 it:∀ i (h:i < g.xs.length),(∃ d,Afx.Good d g.xs[i].2.p.t)∧g.xs[i].2.flat=idxEnts (kfS g.S) i g.rows
theorem SchAt.to {w w':World} {R R':Nat→Prop} {s:SchV} (h:SchAt w R s) (hs:w.heap.size≤w'.heap.size) (hb:∀ k,R k→k < w.heap.size→w'.heap[k]?=w.heap[k]?) (hB:∀ k,R k→k < w.heap.size→R' k):SchAt w' R' s :=
 ⟨h.cols.mono hs hb hB,⟨h.idx.1.mono hs hb hB,fun x hx=>(h.idx.2 x hx).mono hs hb hB⟩,h.names,h.name⟩
theorem Mx.lt {w:World} (h:Mx w):(Tryz.lays155_ren.g 1) < w.heap.size:=by
 obtain ⟨m,hm⟩:=h
 exact World.block_lt_of_cell? _ _ hm
theorem Mx.to {w w':World} {R:Nat→Prop} (h:Mx w) (hr:MxR R) (hb:∀ k,R k→k < w.heap.size→w'.heap[k]?=w.heap[k]?):Mx w':=by
 have hl:=h.lt
 obtain ⟨m,hm⟩:=h
 have h2:=hb (Tryz.lays155_ren.g 1) hr hl
 exact ⟨m,(World.cell?_of_block (w:=w) (a:=⟨Tryz.lays155_ren.g 1,0,none⟩) h2).trans hm⟩
theorem TabSt.to {w w':World} {R R':Nat→Prop} {S:SchV} (h:TabSt w R S) (hs:w.heap.size≤w'.heap.size) (hb:∀ k,R k→k < w.heap.size→w'.heap[k]?=w.heap[k]?) (hB:∀ k,R k→k < w.heap.size→R' k):TabSt w' R' S :=
 ⟨h.mx.to h.mxr hb,hB _ h.mxr h.mx.lt,h.sch.to hs hb hB,h.right⟩
theorem TabOK.to {w w':World} {R R':Nat→Prop} {g:TabG} (h:TabOK w R g) (hs:w.heap.size≤w'.heap.size) (hb:∀ k,R k→k < w.heap.size→w'.heap[k]?=w.heap[k]?) (hB:∀ k,R k→k < w.heap.size→R' k):TabOK w' R' g :=
 ⟨h.st.to hs hb hB,h.ix.mono hs hb hB,h.ixs,fun p hp=>(h.at_ p hp).mono hs hb hB,h.ok,h.lim,h.tab,h.rt,h.rtf,h.it⟩
theorem TabOK.below {w w':World} {R:Nat→Prop} {g:TabG} (h:TabOK w R g) (hb:Below w.heap.size w w'):TabOK w' R g:=h.to hb.size (fun k _ hl=>hb.block k hl) (fun _ h _=>h)
theorem TabSt.below {w w':World} {R:Nat→Prop} {S:SchV} (h:TabSt w R S) (hb:Below w.heap.size w w'):TabSt w' R S:=h.to hb.size (fun k _ hl=>hb.block k hl) (fun _ h _=>h)
def grow (R:Nat→Prop) (n:Nat) (fs:List Nat):Nat→Prop:=fun k=>(k < n∧R k)∨(n≤k∧k∉fs)
theorem TabSt.trk {w w':World} {R:Nat→Prop} {S:SchV} {F:List Nat} {rs:List Res} (h:TabSt w R S) (hT:Trk w F w' rs) (hd:∀ k∈F,¬ R k):TabSt w' (grow R w.heap.size (feet rs)) S :=
 h.to hT.only.size (fun k hk hl=>hT.only.block k hl fun h2=>hd k h2 hk) (fun _ hk hl=>.inl ⟨hl,hk⟩)
theorem TabOK.trk {w w':World} {R:Nat→Prop} {g:TabG} {F:List Nat} {rs:List Res} (h:TabOK w R g) (hT:Trk w F w' rs) (hd:∀ k∈F,¬ R k):TabOK w' (grow R w.heap.size (feet rs)) g :=
 h.to hT.only.size (fun k hk hl=>hT.only.block k hl fun h2=>hd k h2 hk) (fun _ hk hl=>.inl ⟨hl,hk⟩)
theorem Sl.trk {w w':World} {R:Nat→Prop} {F:List Nat} {rs:List Res} {sz n:Nat} {v:Value} {cs:List Value} (h:Sl w R sz v n cs) (hT:Trk w F w' rs) (hd:∀ k∈F,¬ R k):Sl w' (grow R w.heap.size (feet rs)) sz v n cs :=
 h.mono hT.only.size (fun k hk hl=>hT.only.block k hl fun h2=>hd k h2 hk) (fun _ hk hl=>.inl ⟨hl,hk⟩)
theorem sch_small {S:SchV} (h:rightS S=true):S.cols.length≤1000∧S.idx.length≤4∧1≤S.idx.length∧S.limit≤1000:=by
 obtain ⟨_,_,_,_,_,h1,h2,h3,h4⟩:=rightS_by h
 exact ⟨zTbe,h3,h2,h1⟩
theorem elemIx:Elem Tryz.prog 127 123 3 40 (.agg #[.slice none 0 0,.bool false,.pointer none]) :=
 ⟨Tryz.underlying127,zyVB,rfl,zTbe,zAV0⟩
theorem own_formT {w:World} {e:TypeId} {sz:Nat} {v:Value} {n:Nat} {cs:List Value} (h:Own w e sz v n cs):∃ p cap,v=.slice p n cap∧n≤cap∧cap≤9223372036854775807 :=
 (h.sl (B:=fun _=>True) (fun _ _=>trivial)).form
theorem agree_set {B S:Nat→Prop} {w w':World} (h:Only S w w') (hB:∀ q,B q→q < w.heap.size∧¬ S q):Agree B w w':=fun b o hb=>h.cell (hB b hb).1 (hB b hb).2
abbrev rIx (iv:Value) (xs:List IxT):Res:=Res.own 123 3 iv xs.length (ixC xs)
def ClrSt (w:World) (tb:Nat) (S:SchV) (k:Nat) (wr:World):Prop :=
 ∃ (rt:TreeX) (iv:Value) (xs:List IxT),rt.p.t=.node [] []∧(∀ q∈xs,q.2.p.t=.node [] [])∧xs.map Prod.fst=S.idx.take k∧Trk w [tb] wr (rTab tb S (ptrV rt.b) iv::rIx iv xs::(rt.rv++itsR xs))
def ClrOut (w:World) (tb:Nat) (S:SchV) (w':World):Prop :=
 ∃ (rt:TreeX) (iv:Value) (xs:List IxT),rt.p.t=.node [] []∧(∀ q∈xs,q.2.p.t=.node [] [])∧xs.map Prod.fst=S.idx∧Trk w [tb] w' (rTab tb S (ptrV rt.b) iv::(rt.rv++itsR xs)) ∧
  Sl w' (fun k=>w.heap.size≤k∧k∉feet (rTab tb S (ptrV rt.b) iv::(rt.rv++itsR xs))) 3 iv xs.length (ixC xs)
theorem flat_nil {p:P} (h:p.t=.node [] []):p.t.flat=[]:=by rw [h];exact flat_leaf _
theorem TreeX.rv_new {b:Nat} {p:P} (h:p.t=.node [] []):TreeX.rv ⟨b,p⟩=TyV.y13 b p 0:=by
 show TyV.y13 b p p.t.flat.length=_
 rw [flat_nil h];rfl
theorem TreeX.rs_new {b:Nat} {p:P} (h:p.t=.node [] []):TreeX.rs ⟨b,p⟩=TyS.y13 b p 0:=by
 show TyS.y13 b p p.t.flat.length=_
 rw [flat_nil h];rfl
theorem ClrSt.out {w wr:World} {tb:Nat} {S:SchV} (h:ClrSt w tb S S.idx.length wr):ClrOut w tb S wr:=by
 obtain ⟨rt,iv,xs,h1,h2,h3,hT⟩:=h
 rw [List.take_length] at h3
 have hp:(rTab tb S (ptrV rt.b) iv::rIx iv xs::(rt.rv++itsR xs)).Perm (rIx iv xs::rTab tb S (ptrV rt.b) iv::(rt.rv++itsR xs)):=List.Perm.swap _ _ _
 have hT2:=hT.perm hp
 have ho:Own wr 123 3 iv xs.length (ixC xs):=hT2.own zPXO
 refine ⟨rt,iv,xs,h1,h2,h3,hT2.drop,ho.sl fun k hk=>⟨?_,?_⟩⟩
 ·have hkf:k∈feet (rIx iv xs::rTab tb S (ptrV rt.b) iv::(rt.rv++itsR xs)):=by rw [feet_cons];simp [Res.own,hk]
  rcases hT2.foot k hkf with h5|h5
  ·have h6:=(Sep.apart (a:=[rIx iv xs]) hT2.sep) k (by simp [feet,Res.own,hk])
   rw [List.mem_singleton] at h5
   subst h5
   exact absurd (by rw [feet_cons];simp [rTab,Res.blk]) h6
  ·exact h5
 ·exact (Sep.apart (a:=[rIx iv xs]) hT2.sep) k (by simp [feet,Res.own,hk])
theorem ClrSt.start {w w2:World} {tb:Nat} {S:SchV} {r0 i0:Value} (h:Blk w tb 129 (tabCells S r0 i0)) {rb:Nat} {rp:P} (hp:rp.t=.node [] []) (hT:Trk w [] w2 (TyV.y13 rb rp 0)) :
 ClrSt w tb S 0 ((w2.setCell ⟨tb,6,none⟩ (ptrV rb)).setCell ⟨tb,7,none⟩ (.slice none 0 0)):=by
 have T0:Trk w [tb] w [rTab tb S r0 i0]:=Trk.start (rs:=[rTab tb S r0 i0]) ⟨fun r hr=>by rw [List.mem_singleton] at hr;subst hr;exact h,by simp [feet,rTab,Res.blk]⟩
 have T1:=(T0.call (rs:=[]) (rest:=[rTab tb S r0 i0]) hT).perm (rs':=rTab tb S r0 i0::TyV.y13 rb rp 0) List.perm_append_comm
 have T2:Trk w [tb] (w2.setCell ⟨tb,6,none⟩ (ptrV rb)) (rTab tb S (ptrV rb) i0::TyV.y13 rb rp 0):=Trk.blkSet (cs:=tabCells S r0 i0) T1 6 (ptrV rb)
 have T3:Trk w [tb] ((w2.setCell ⟨tb,6,none⟩ (ptrV rb)).setCell ⟨tb,7,none⟩ (.slice none 0 0)) (rTab tb S (ptrV rb) (.slice none 0 0)::TyV.y13 rb rp 0):=Trk.blkSet (cs:=tabCells S (ptrV rb) i0) T2 7 (.slice none 0 0)
 have T4:=T3.new (r:=rIx (.slice none 0 0) []) (Own.nil _ _ _) znD9 znD9 (Below.refl _ _)
 refine ⟨⟨rb,rp⟩,.slice none 0 0,[],hp,zPXO,zPXO,?_⟩
 rw [TreeX.rv_new hp,itsR_nil,List.append_nil]
 exact T4.perm (List.Perm.swap _ _ _)
theorem ClrSt.next {w wr w2 w4 w5:World} {tb:Nat} {S:SchV} {rt:TreeX} {iv:Value} {xs:List IxT} {k:Nat} (h1:rt.p.t=.node [] []) (h2:∀ q∈xs,q.2.p.t=.node [] []) (h3:xs.map Prod.fst=S.idx.take k) (hk:k < S.idx.length)
 (hT:Trk w [tb] wr (rTab tb S (ptrV rt.b) iv::rIx iv xs::(rt.rv++itsR xs))) {w1:World} (hb1:Below wr.heap.size wr w1) {ib:Nat} {ip:P} (hp:ip.t=.node [] []) (hN:Trk w1 [] w2 (TyS.y13 ib ip 0)) (hb4:Below w2.heap.size w2 w4) {iv':Value}
 (g1:Own w5 123 3 iv' (xs.length+1) (ixC xs++ixOne (S.idx[k],⟨ib,ip⟩))) (g2:Only (fun q=>iv.ownBlock=some q) w4 w5) (g3:iv'.ownBlock=iv.ownBlock∨iv'.ownBlock=some w4.heap.size) :
 ClrSt w tb S (k+1) (w5.setCell ⟨tb,7,none⟩ iv'):=by
 have T1:=((hT.below hb1).call (rs:=[]) (rest:=(rTab tb S (ptrV rt.b) iv::rIx iv xs::(rt.rv++itsR xs))) hN).below hb4
 have T2:=T1.perm (rs':=rIx iv xs::rTab tb S (ptrV rt.b) iv::(rt.rv++itsR xs++TyS.y13 ib ip 0)) (perm_of_cnt fun a=>by simp only [cnt_append,cnt_cons];omega)
 have T3:=T2.ownTo (n':=xs.length+1) g1 g2 (fun q hq=>by
  rcases g3 with h|h
  ·exact .inl (h▸hq)
  ·rw [h] at hq;cases hq;exact .inr (Nat.le_refl _))
 have T4:=T3.perm (List.Perm.swap _ _ _)
 have T5:Trk w [tb] (w5.setCell ⟨tb,7,none⟩ iv') (rTab tb S (ptrV rt.b) iv'::Res.own 123 3 iv' (xs.length+1) (ixC xs++ixOne (S.idx[k],⟨ib,ip⟩))::(rt.rv++itsR xs++TyS.y13 ib ip 0)):=Trk.blkSet (cs:=tabCells S (ptrV rt.b) iv) T4 7 iv'
 refine ⟨rt,iv',xs++[(S.idx[k],⟨ib,ip⟩)],h1,fun q hq=>?_,?_,?_⟩
 ·rcases List.mem_append.1 hq with h|h
  ·exact h2 q h
  ·rw [List.mem_singleton] at h;subst h;exact hp
 ·rw [List.map_append,h3,List.take_succ_eq_append_getElem hk];rfl
 ·have e1:rIx iv' (xs++[(S.idx[k],⟨ib,ip⟩)])=Res.own 123 3 iv' (xs.length+1) (ixC xs++ixOne (S.idx[k],⟨ib,ip⟩)):=by
   show Res.own _ 3 iv' _ _=_
   rw [ixC_append,List.length_append];simp [ixC]
  rw [e1,itsR_append,itsR_cons,itsR_nil,List.append_nil,TreeX.rs_new hp,←List.append_assoc]
  exact T5
theorem clear_any (w:World) (R:Nat→Prop) (tb:Nat) (S:SchV) (r0 i0:Value) (h:Blk w tb 129 (tabCells S r0 i0)) (hs:SchAt w R S) (hr:¬ R tb) (hl:S.idx.length≤1000) :
 Calls Tryz.prog 71 #[ptrV tb] w fun e w'=>e=.returned (.tuple #[])∧ClrOut w tb S w':=by
 have HS0:=Lib.hid (fun w2 rb rp hp hT=>ClrSt.start (w2:=w2) (rb:=rb) (rp:=rp) h hp hT)
 have HOUT:=Lib.hid (fun wr=>ClrSt.out (w:=w) (wr:=wr) (tb:=tb) (S:=S))
 have HN:=Lib.hid (TyV.y14 w)
 have HKB:=Lib.hid h
 have hI:=hs.idx.1
 have HXF:Hid (∀ x∈S.idx,∃ p n c,x.v=.slice p n c):=Lib.hid fun x hx=>by
  obtain ⟨p,c,h,_⟩:=(hs.idx.2 x hx).form
  exact ⟨p,_,c,h⟩
 have HI:=Lib.hid (fun wr (ho:Only (fun q=>q∈[tb]) w wr)=>hI.only ho (fun q hq h2=>by rw [List.mem_singleton] at h2;subst h2;exact hr hq))
 have hlt:=h.lt
 obtain ⟨nm,cv,cl,iv0,il,lm,pt,by_⟩:=S
 simp only at hI HI hl HOUT HXF ⊢
 obtain ⟨pI,cI,rfl,_,_⟩:=hI.form
 unfold ptrV
 clear h hs hr hI
 go_enter Tryz.func71,Tryz.ntmps71
 go_wp2_with (go_at_call 103;refine HN.out.mono ?_;clear HN;rintro e w2 ⟨rb,rp,rfl,hp,hT⟩;have hst:=HS0.out w2 rb rp hp hT;have hk2:=HKB.out.below (hT.only.below (Nat.le_refl _) zPXO);unfold ptrV at *;have x6:w2.cell? ⟨tb,6,none⟩=some r0:=hk2.cell 6;have f6:w2.frozen? ⟨tb,6,none⟩=false:=hk2.frozen 6;have x7:w2.cell? ⟨tb,7,none⟩=some i0:=hk2.cell 7;have f7:w2.frozen? ⟨tb,7,none⟩=false:=hk2.frozen 7;obtain ⟨w3,hw3⟩:∃ w3,(w2.setCell ⟨tb,6,none⟩ (.pointer (some ⟨rb,0,none⟩))).setCell ⟨tb,7,none⟩ (.slice none 0 0)=w3:=⟨_,rfl⟩;rw [hw3] at hst;have HST:=Lib.hid hst;have k3:Blk w3 tb _ _:=hw3▸((hk2.set 6 _).set 7 _);have c2:w3.cell? ⟨tb,2,none⟩=some (.slice pI il.length cI):=k3.cell 2;have hl3:=k3.lt;clear hst hk2 k3)
 clear hw3
 go_loopw [18] (fun i wr=>∃ k:Nat,i=.int .i64 k∧k≤il.length∧ClrSt w tb ⟨nm,cv,cl,.slice pI il.length cI,il,lm,pt,by_⟩ k wr) (fun i _=>il.length - (intOf i).toNat)
 case atStart=>exact ⟨0,rfl,Nat.zero_le _,HST.out⟩
 case round =>
  obtain ⟨k,rfl,hk,hst⟩:=hrel
  by_cases hkl:k < il.length
  ·obtain ⟨rt,iv,xs,q1,q2,q3,hT⟩:=hst
   have hxl:xs.length=k:=by
    have:=congrArg List.length q3
    rw [List.length_map,List.length_take] at this
    simp only at this
    omega
   subst hxl
   have k1:Blk wr tb 129 _:=hT.blk (List.mem_cons_self ..)
   have hne:iv.ownBlock≠some tb:=fun h5=>by
    have:=(Sep.apart (a:=[rTab tb _ (ptrV rt.b) iv]) hT.sep) tb (by simp [feet,rTab,Res.blk])
    exact this (by rw [feet_cons];simp [Res.own,h5])
   have ho1:Own wr 123 3 iv xs.length (ixC xs):=hT.own zPXO
   have hix:=HI.out wr hT.only
   obtain ⟨g,off,cap,hv,hgl,hc0,hc1⟩:=sl_idx hix hkl
   cases hv
   have hxv:=HXF.out il[xs.length] (List.getElem_mem hkl)
   obtain ⟨pi,ci,rfl,_,_⟩:=own_formT ho1
   obtain ⟨px,nx,cx,hxv⟩:=hxv
   obtain ⟨u,hu⟩:∃ u,il[xs.length].unique=u:=⟨_,rfl⟩
   rw [hxv] at hc0
   rw [hu] at hc1
   obtain ⟨w1,hw1⟩:∃ w1,wr.alloc (.cells #[.slice px nx cx,.bool u] 108)=w1:=⟨_,rfl⟩
   have hb1:=zsNA
   have kx:Blk w1 wr.heap.size 108 [.slice px nx cx,.bool u]:=hw1▸Blk.new wr _ _
   have x0:w1.cell? ⟨wr.heap.size,0,none⟩=some (.slice px nx cx):=kx.cell 0
   have x1:w1.cell? ⟨wr.heap.size,1,none⟩=some (.bool u):=kx.cell 1
   have k11:=k1.below hb1
   have c7:w1.cell? ⟨tb,7,none⟩=some (.slice pi xs.length ci):=k11.cell 7
   have hl7:=k11.lt
   have hlx:=kx.lt
   have HN2:=Lib.hid (TyS.y14 w1.drew)
   have HT:=Lib.hid hT
   have HQ1:=Lib.hid q1
   have HQ2:=Lib.hid q2
   have HQ3:=Lib.hid q3
   have HB1:=Lib.hid hb1
   have HK11:=Lib.hid k11
   have HKX:=Lib.hid kx
   have HXV:=Lib.hid hxv
   have HU:=Lib.hid hu
   have HO1:=Lib.hid (ho1.below hb1)
   have HNE:=Lib.hid hne
   have HOL:=Lib.hid ho1.lt
   have hxk:xs.length≤1000:=zTbe
   clear hne hT q1 q2 q3 k1 ho1 hix hb1 kx k11 hxv hu
   go_upto_region 4 with fail
   have d7:w1.drew.cell? ⟨tb,7,none⟩=some (.slice pi xs.length ci):=c7
   have dx0:w1.drew.cell? ⟨wr.heap.size,0,none⟩=some (.slice px nx cx):=x0
   have dx1:w1.drew.cell? ⟨wr.heap.size,1,none⟩=some (.bool u):=x1
   have dl7:tb < w1.drew.heap.size:=hl7
   have dlx:wr.heap.size < w1.drew.heap.size:=hlx
   have HBB:Hid (∀ (w2:World) (o:Obj),Below w1.drew.heap.size w1.drew w2→∀ q,(q=tb∨q=wr.heap.size)→q < (w2.alloc o).heap.size∧¬ (Value.slice pi xs.length ci).ownBlock=some q):=Lib.hid fun w2 o hb q hq=>by
    have h5:=hb.size
    refine ⟨?_,fun h6=>?_⟩
    ·rcases hq with rfl|rfl<;>simp<;>omega
    ·rcases hq with rfl|rfl
     ·exact HNE.out h6
     ·exact absurd (HOL.out _ h6) (Nat.lt_irrefl _)
   clear c7 x0 x1 hw1
   refine wp_region_lit_plan [] [(0,0),(1,0),(2,0),(3,0),(4,2),(5,2),(6,3),(7,0),(8,3),(9,4),(10,0),(11,0),(12,4)] (fun q=>q=tb∨q=wr.heap.size) zyVB zyVB (fun c a d v w h=>zx0I) ?_
   go_wp2_with (first
    | (refine stp ?_)
    | (go_at_call 104;refine HN2.out.mono ?_;clear HN2;rintro e w2 ⟨ib,ip,rfl,hip,hTn⟩;unfold ptrV;have hb2:Below w1.drew.heap.size w1.drew w2:=hTn.only.below (Nat.le_refl _) zPXO;have hag2:Agree (fun q=>q=tb∨q=wr.heap.size) w1.drew w2:=agree_bel hb2 (by rintro q (rfl|rfl)<;>assumption);have haga:Agree (fun q=>q=tb∨q=wr.heap.size) w2 (w2.alloc (.cells #[.slice px nx cx,.bool u,.pointer (some ⟨ib,0,none⟩)] 123)):=agree_alloc _ (by have h5:=hb2.size;rintro q (rfl|rfl)<;>omega);have HIP:=Lib.hid hip;have HTN:=Lib.hid hTn;have HB2:=Lib.hid hb2;have HOA:=Lib.hid (((HO1.out.drew).below hb2).alloc (.cells #[.slice px nx cx,.bool u,.pointer (some ⟨ib,0,none⟩)] 123));have HOS:=Lib.hid ((Own.made w2 123 3 [.slice px nx cx,.bool u,.pointer (some ⟨ib,0,none⟩)] [] 1 1 rfl (by intro x hx;simp at hx;rcases hx with rfl|rfl|rfl<;>rfl) (Nat.le_refl _) zdUY zPXO).sl (B:=fun _=>True) (fun _ _=>trivial));clear hip hTn hb2)
    | (at_builtin;refine wpList_app rfl _ _ rfl elemIx zdhv HOA.out zdhv HOS.out zefz zTbe ?_;intro v5 w5 g1 g2 g3 _ _;have hagp:Agree (fun q=>q=tb∨q=wr.heap.size) (w2.alloc (.cells #[.slice px nx cx,.bool u,.pointer (some ⟨ib,0,none⟩)] 123)) w5:=agree_set g2 (HBB.out _ _ HB2.out);have k5:=((HK11.out.drew.below HB2.out).alloc (.cells #[.slice px nx cx,.bool u,.pointer (some ⟨ib,0,none⟩)] 123)).only g2 HNE.out;have x57:w5.cell? ⟨tb,7,none⟩=some (.slice pi xs.length ci):=k5.cell 7;have f57:w5.frozen? ⟨tb,7,none⟩=false:=k5.frozen 7;have l57:=k5.lt;clear k5;obtain ⟨p5,c5,hv5,_,_⟩:=own_formT g1;subst hv5;have G1:=Lib.hid g1;have G2:=Lib.hid g2;have G3:=Lib.hid g3;clear g1 g2 g3 HOA HOS))
   go_roundw
   case rel =>
    have e1:ixOne (il[xs.length],(⟨ib,ip⟩:TreeX))=[.slice px nx cx,.bool u,.pointer (some ⟨ib,0,none⟩)]:=by
     unfold ixOne ptrV
     simp only
     rw [HXV.out,HU.out]
    refine ⟨xs.length+1,by congr 1,zTbe,?_⟩
    refine ClrSt.next HQ1.out HQ2.out HQ3.out hkl HT.out HB1.out.drew HIP.out HTN.out ((Below.refl _ _).alloc (Nat.le_refl _) _) ?_ G2.out G3.out
    show Own _ _ _ _ _ (ixC xs++ixOne (il[xs.length],(⟨ib,ip⟩:TreeX)))
    rw [e1]
    exact G1.out
   case measure=>(simp [intOf])<;>omega
  ·obtain rfl:k=il.length:=by omega
   have HF:=Lib.hid (HOUT.out _ hst)
   clear hst
   go_wp2
   go_end0
   exact ⟨rfl,HF.out⟩
theorem rightS_xl {S:SchV} (h:rightS S=true):∀ x∈S.idx,x.l.length≤8:=fun x hx=>by
 have h8:=(rightS_by h).2.2.2.2.2.2.2.2
 have hp:placesB S.cols.length x=true:=by
  unfold rightS idxB at h
  simp only [Bool.and_eq_true] at h
  exact List.all_eq_true.1 h.2.2.1.1 x hx
 exact Nat.le_trans (places_len _ x hp).2 h8
theorem ClrOut.tab {w w':World} {tb:Nat} {S:SchV} (h:ClrOut w tb S w'):∃ g:TabG,g.tb=tb∧g.S=S∧g.L=[]∧Trk w [tb] w' g.res ∧
 ∀ R':Nat→Prop,TabSt w' R' S→(∀ k,w.heap.size≤k→k < w'.heap.size→k∉feet g.res→R' k)→TabOK w' R' g:=by
 obtain ⟨rt,iv,xs,h1,h2,h3,hT,hI⟩:=h
 refine ⟨⟨tb,S,iv,rt,xs,[]⟩,rfl,rfl,rfl,hT,fun R' hst hR=>?_⟩
 refine ⟨hst,hI.mono (Nat.le_refl _) (fun _ _ _=>rfl) (fun k hk hl=>hR k hk.1 hl hk.2),h3,zPXO,zPXO,zPXO,TabM.nil _ _,⟨0,by rw [h1];exact Afx.Good.new⟩,?_,fun i hi=>⟨⟨0,?_⟩,?_⟩⟩
 ·show rt.p.t.flat=_
  rw [flat_nil h1];rfl
 ·rw [h2 _ (List.getElem_mem hi)];exact Afx.Good.new
 ·show xs[i].2.p.t.flat=_
  rw [flat_nil (h2 _ (List.getElem_mem hi))];rfl
theorem unlikeGo_map {α β:Type} (f:α→β) (g:β→β→Bool):∀ t seen:List α,unlikeGo (fun a b=>g (f a) (f b)) seen t=unlikeGo g (seen.map f) (t.map f)
 | [],_=>rfl
 | a::t,seen=>by
  show (seen.all _ && unlikeGo _ (seen++[a]) t)=((seen.map f).all _ && unlikeGo g (seen.map f++[f a]) (t.map f))
  rw [unlikeGo_map f g t,List.map_append,List.all_map]
  rfl
theorem idxB_map (n:Int) (l:List IdxV):idxB n l=((l.map IdxV.l).all (fun L=>L.all (placeOk n) && (decide (0 < L.length) && unlikeB sameInt L)) && ((decide (1≤(l.map IdxV.l).length) && decide ((l.map IdxV.l).length≤4)) && (match l.map IdxV.unique with
 | []=>false
 | u::_=>u) && unlikeGo (fun a b=>a == b) [] (l.map IdxV.l))):=by
 have h1:unlikeB sameIdx l=unlikeGo (fun a b=>a == b) [] (l.map IdxV.l):=unlikeGo_map IdxV.l (fun a b=>a == b) l []
 unfold idxB
 rw [h1,List.all_map,List.length_map]
 cases l<;>rfl
theorem Alike.right {c s:SchV} (h:Alike c s):rightS c=rightS s:=by
 unfold rightS
 rw [idxB_map,idxB_map,h.name,h.cols,h.idx,h.uni,h.limit,h.parts,h.by_]
theorem SchOwn.at {w w':World} {n:Nat} {c s:SchV} {B:Nat→Prop} (h:SchOwn w n c) (ha:Alike c s) {R:Nat→Prop} (hs:SchAt w' R s) (hB:∀ k,n≤k→k < w.heap.size→B k):SchAt w B c :=
 ⟨h.cols.sl fun k hk=>hB k (h.fc k hk).1 (h.cols.lt k hk),⟨h.idx.sl fun k hk=>hB k (h.fi k hk).1 (h.idx.lt k hk),fun x hx=>(h.pl x hx).sl fun k hk=>hB k (h.fp x hx k hk) ((h.pl x hx).lt k hk)⟩,by rw [ha.cols];exact hs.names,by rw [ha.name];exact hs.name⟩
def newR (w:World) (g:TabG):Nat→Prop:=fun k=>k∉feet g.res∧(w.heap.size≤k∨k=(Tryz.lays155_ren.g 1))
def NewOutT (w:World) (s:SchV) (e:Ending) (w':World):Prop :=
 (rightS s=false∧e=.returned (.tuple #[.pointer none,.int .i64 1])∧Below w.heap.size w w') ∨
 (rightS s=true∧∃ g:TabG,e=.returned (.tuple #[ptrV g.tb,.int .i64 0])∧Alike g.S s∧g.L=[]∧Trk w [] w' g.res∧TabOK w' (newR w g) g)
theorem tabnew_any (w:World) (hm:Mx w) (R:Nat→Prop) (s:SchV) (hs:SchAt w R s) (hcl:s.cols.length≤1000) (hil:s.idx.length≤1000) (hxl:∀ x∈s.idx,x.l.length≤1000) :
 Calls Tryz.prog 34 #[s.agg] w (NewOutT w s):=by
 have hal:Below w.heap.size w (w.alloc (.cells s.cells.toArray 25)):=(Below.refl _ _).alloc (Nat.le_refl _) _
 have HR:=Lib.hid (schright_any (w.alloc (.cells s.cells.toArray 25)) R s (hs.below hal))
 have HC:=Lib.hid (fun w2 (hb:Below w.heap.size w w2)=>schcopy_any w2 R s (hs.below hb) hcl hil hxl)
 have hk:=Blk.new w 25 s.cells
 have HS:=Lib.hid hs
 have HM:=Lib.hid hm
 have HIL:=Lib.hid hil
 obtain ⟨rb,hrb⟩:∃ rb,rightS s=rb:=⟨_,rfl⟩
 rw [hrb] at HR
 have HRB:=Lib.hid hrb
 obtain ⟨w1,hw1⟩:∃ w1,w.alloc (.cells s.cells.toArray 25)=w1:=⟨_,rfl⟩
 rw [hw1] at hal HR hk
 have HAL:=Lib.hid hal
 have HK:=Lib.hid hk
 obtain ⟨nm,cv,cl,iv,il,lm,pt,by_⟩:=s
 simp only [SchV.agg,SchV.cells] at HR HC hw1 hk HK ⊢
 have hw1':w.alloc (.cells #[.string nm,cv,iv,.int .i64 lm,.int .i64 pt,.int .i64 by_] 25)=w1:=hw1
 have hlt:w.heap.size < w1.heap.size:=hk.lt
 obtain ⟨c0,c1,c2,c3,c4,c5⟩:=sch_cells hk
 have hfc:∃ p n c,cv=.slice p n c:=by obtain ⟨p,c,h,_⟩:=hs.cols.form;exact ⟨p,_,c,h⟩
 have hfi:∃ p n c,iv=.slice p n c:=by obtain ⟨p,c,h,_⟩:=hs.idx.1.form;exact ⟨p,_,c,h⟩
 obtain ⟨p1,n1,e1,rfl⟩:=hfc
 obtain ⟨p2,n2,e2,rfl⟩:=hfi
 clear hw1 hm hs hal hk hrb hcl hil hxl
 cases rb
 ·go_enter Tryz.func34,Tryz.ntmps34
  go_wp2_with (go_at_call 69;refine HR.out.mono ?_;clear HR hw1';rintro e w2 ⟨rfl,hb2⟩)
  go_ret2
  exact .inl ⟨HRB.out,rfl,HAL.out.trans (hb2.mono HAL.out.size)⟩
 ·go_enter Tryz.func34,Tryz.ntmps34
  go_wp2_with (go_at_call 69;refine HR.out.mono ?_;clear HR hw1';rintro e w2 ⟨rfl,hb2⟩;have HB2:=Lib.hid (HAL.out.trans (hb2.mono HAL.out.size));obtain ⟨c0,c1,c2,c3,c4,c5⟩:=sch_cells (HK.out.below hb2);have hlt2:=(HK.out.below hb2).lt;clear hb2)
  refine (HC.out _ HB2.out).mono ?_
  rintro e w3 ⟨c,rfl,hak,hown,hb3⟩
  have hb03:=HB2.out.trans (hb3.mono HB2.out.size)
  have hsc:=hown.at (B:=fun q=>w.heap.size≤q∧q < w3.heap.size) hak (HS.out.below hb03) (fun _ h hk=>⟨Nat.le_trans HB2.out.size h,hk⟩)
  have hcl2:c.idx.length≤1000:=by
   have h5:=congrArg List.length hak.idx
   rw [List.length_map,List.length_map] at h5
   rw [h5];exact HIL.out
  have hri:rightS c=true:=by rw [hak.right];exact HRB.out
  have HCL:=Lib.hid (clear_any (w3.alloc (.cells (tabCells c (.pointer none) (.slice none 0 0)).toArray 129)) (fun q=>w.heap.size≤q∧q < w3.heap.size) w3.heap.size c (.pointer none) (.slice none 0 0) (Blk.new _ _ _) (hsc.below ((Below.refl _ _).alloc (Nat.le_refl _) _)) (fun h=>Nat.lt_irrefl _ h.2) hcl2)
  have hfc:∃ p n c1,c.colsV=.slice p n c1:=by obtain ⟨p,c1,h,_⟩:=hsc.cols.form;exact ⟨p,_,c1,h⟩
  have hfi:∃ p n c1,c.idxV=.slice p n c1:=by obtain ⟨p,c1,h,_⟩:=hsc.idx.1.form;exact ⟨p,_,c1,h⟩
  have HAK:=Lib.hid hak
  have HSC:=Lib.hid hsc
  have HRI:=Lib.hid hri
  have HB3:=Lib.hid hb03
  obtain ⟨cn,ccv,ccl,civ,cil,clm,cpt,cby⟩:=c
  simp only at hfc hfi
  obtain ⟨q1,m1,f1,rfl⟩:=hfc
  obtain ⟨q2,m2,f2,rfl⟩:=hfi
  simp only [tabCells] at HCL
  unfold ptrV at HCL
  clear hak hown hb3 hsc hcl2 hri hb03 HC
  go_wp2_with fail
  refine HCL.out.mono ?_
  clear HCL
  rintro e w5 ⟨rfl,hout⟩
  have HO:=Lib.hid hout
  clear hout
  go_wp2
  go_ret2
  obtain ⟨g,hg1,hg2,hg3,hT,hok⟩:=HO.out.tab
  have hb4:Below w3.heap.size w3 (w3.alloc (.cells (tabCells ⟨cn,.slice q1 m1 f1,ccl,.slice q2 m2 f2,cil,clm,cpt,cby⟩ (.pointer none) (.slice none 0 0)).toArray 129)):=(Below.refl _ _).alloc (Nat.le_refl _) _
  have hft:∀ k,k < w3.heap.size→k∉feet g.res:=fun k hk hkf=>by
   rcases hT.foot k hkf with h5|h5
   ·rw [List.mem_singleton] at h5;omega
   ·have h6:=hb4.size
    simp only [tabCells] at h6
    omega
  have hsz:=HB3.out.size
  refine .inr ⟨HRB.out,g,by rw [hg1];rfl,by rw [hg2];exact HAK.out,hg3,?_,hok _ ?_ (fun k h1 _ hk=>⟨hk,.inl (Nat.le_trans hsz (Nat.le_trans hb4.size h1))⟩)⟩
  ·have hb34:=HB3.out.trans (hb4.mono HB3.out.size)
   refine ⟨hT.sep,(Only.of_none (S:=fun k=>k∈([]:List Nat)) hb34).trans hT.only (fun i hi h5=>by rw [List.mem_singleton] at h5;omega),fun k hk=>.inr ?_⟩
   rcases Nat.lt_or_ge k w3.heap.size with h5|h5
   ·exact absurd hk (hft k h5)
   ·omega
  ·refine TabSt.to (w:=w3) (R:=fun q=>(w.heap.size≤q∧q < w3.heap.size)∨q=(Tryz.lays155_ren.g 1)) ⟨HM.out.below HB3.out,.inr rfl,HSC.out.to (Nat.le_refl _) (fun _ _ _=>rfl) (fun _ h _=>.inl h),HRI.out⟩ (Nat.le_trans hb4.size hT.only.size) (fun k _ hk=>?_) (fun k hk hl=>⟨hft k hl,hk.imp And.left id⟩)
   rw [hT.only.block k (Nat.lt_of_lt_of_le hk hb4.size) (fun h5=>by rw [List.mem_singleton] at h5;omega)]
   exact hb4.block k hk
theorem tkeys_any (w:World) (hm:Mx w) (B B':Nat→Prop) (S:SchV) (v:Value) (row:List AV) (h:SchAt w B S) (hr:Sl w B' 3 v row.length (rowCells row)) (hf:∀ a∈row,fit64 a.n)
 (hrl:row.length≤1000) (hx:∀ x∈S.idx,x.l.length≤200) :
 Calls Tryz.prog 66 #[S.agg,v] w fun e w'=>∃ out,e=.returned (.tuple #[out,.int .i64 (chkS S 0 row)])∧Sl w' (fun q=>w.heap.size≤q) 1 out (keysO S row).length (strC (keysO S row))∧Below w.heap.size w w':=by
 have HC:=Lib.hid (fun w2 (hb:Below w.heap.size w w2)=>schkeys_any w2 (hm.below hb) B B' S v row (h.below hb) (hr.below hb) hf hrl hx)
 have hal:=zCrx
 have hk:=Blk.new w 125 S.cells
 obtain ⟨w1,hw1⟩:∃ w1,w.alloc (.cells S.cells.toArray 125)=w1:=⟨_,rfl⟩
 rw [hw1] at hal hk
 have HAL:=Lib.hid hal
 have hfc:=zxJo
 have hfi:=zIQI
 obtain ⟨pv,cv,rfl,_,_⟩:=hr.form
 obtain ⟨nm,cv,cl,iv,il,lm,pt,by_⟩:=S
 simp only at hfc hfi
 simp only [SchV.agg,SchV.cells] at HC hw1 hk ⊢
 have hw1':w.alloc (.cells #[.string nm,cv,iv,.int .i64 lm,.int .i64 pt,.int .i64 by_] 125)=w1:=hw1
 have hlt:w.heap.size < w1.heap.size:=hk.lt
 obtain ⟨c0,c1,c2,c3,c4,c5⟩:=sch_cells hk
 obtain ⟨p1,n1,e1,rfl⟩:=hfc
 obtain ⟨p2,n2,e2,rfl⟩:=hfi
 clear hw1 hm h hr hal hk hx
 go_enter Tryz.func66,Tryz.ntmps66
 go_wp2_with fail
 clear hw1'
 refine (HC.out _ HAL.out).mono ?_
 clear HC
 rintro e w2 ⟨out,rfl,ho,hb2⟩
 have HO:=Lib.hid (ho.mono (B':=fun q=>w.heap.size≤q) (Nat.le_refl _) (fun _ _ _=>rfl) (fun q hq _=>Nat.le_trans HAL.out.size hq))
 have HB2:=Lib.hid (HAL.out.trans (hb2.mono HAL.out.size))
 obtain ⟨p3,c3,rfl,_,_⟩:=ho.form
 clear ho hb2
 go_wp2
 go_ret2
 exact ⟨_,rfl,HO.out,HB2.out⟩
theorem tpart_any (w:World) (B B':Nat→Prop) (S:SchV) (v:Value) (row:List AV) (h:SchAt w B S) (hr:Sl w B' 3 v row.length (rowCells row)) (hf:∀ a∈row,fit64 a.n) (hrl:row.length≤1000) :
 Calls Tryz.prog 119 #[S.agg,v] w fun e w'=>e=.returned (.int .i64 (partO S row))∧Below w.heap.size w w':=by
 have HC:=Lib.hid (fun w2 (hb:Below w.heap.size w w2)=>schpart_any w2 B B' S v row (h.below hb) (hr.below hb) hf hrl)
 have hal:=zCrx
 have hk:=Blk.new w 125 S.cells
 obtain ⟨w1,hw1⟩:∃ w1,w.alloc (.cells S.cells.toArray 125)=w1:=⟨_,rfl⟩
 rw [hw1] at hal hk
 have HAL:=Lib.hid hal
 have hfc:=zxJo
 have hfi:=zIQI
 obtain ⟨pv,cv,rfl,_,_⟩:=hr.form
 obtain ⟨nm,cv,cl,iv,il,lm,pt,by_⟩:=S
 simp only at hfc hfi
 simp only [SchV.agg,SchV.cells] at HC hw1 hk ⊢
 have hw1':w.alloc (.cells #[.string nm,cv,iv,.int .i64 lm,.int .i64 pt,.int .i64 by_] 125)=w1:=hw1
 have hlt:w.heap.size < w1.heap.size:=hk.lt
 obtain ⟨c0,c1,c2,c3,c4,c5⟩:=sch_cells hk
 obtain ⟨p1,n1,e1,rfl⟩:=hfc
 obtain ⟨p2,n2,e2,rfl⟩:=hfi
 clear hw1 h hr hal hk
 go_enter Tryz.func119,Tryz.ntmps119
 go_wp2_with fail
 clear hw1'
 refine (HC.out _ HAL.out).mono ?_
 clear HC
 rintro e w2 ⟨rfl,hb2⟩
 have HB2:=Lib.hid (HAL.out.trans (hb2.mono HAL.out.size))
 clear hb2
 go_wp2
 go_ret
 exact ⟨rfl,HB2.out⟩
theorem TabG.blk {w:World} {g:TabG} (hs:Sep w g.res):Blk w g.tb 129 (tabCells g.S (ptrV g.rt.b) g.iv):=hs.all (rTab g.tb g.S (ptrV g.rt.b) g.iv) (by unfold TabG.res;simp)
theorem TabG.rtS {w:World} {g:TabG} (hs:Sep w g.res):Sep w (TyV.y13 g.rt.b g.rt.p g.rt.flat.length):=by
 have h0:Sep w (g.rt.rv++itsR g.xs):=hs.right (a:=[rTab g.tb g.S (ptrV g.rt.b) g.iv])
 exact Sep.left (a:=g.rt.rv) h0
theorem itsR_split (xs:List IxT) (i:Nat) (h:i < xs.length):itsR xs=itsR (xs.take i)++(xs[i].2.rs++itsR (xs.drop (i+1))):=by
 have e:xs=xs.take i++xs[i]::xs.drop (i+1):=by rw [←List.drop_eq_getElem_cons h,List.take_append_drop]
 conv=>lhs;rw [e]
 rw [itsR_append,itsR_cons]
theorem TabG.itS {w:World} {g:TabG} (hs:Sep w g.res) {i:Nat} (h:i < g.xs.length):Sep w (TyS.y13 g.xs[i].2.b g.xs[i].2.p g.xs[i].2.flat.length):=by
 have h0:Sep w (g.rt.rv++itsR g.xs):=hs.right (a:=[rTab g.tb g.S (ptrV g.rt.b) g.iv])
 have h1:=Sep.right (a:=g.rt.rv) h0
 rw [itsR_split _ i h] at h1
 exact Sep.left (a:=g.xs[i].2.rs) h1.right
theorem TabOK.lenRt {w:World} {R:Nat→Prop} {g:TabG} (h:TabOK w R g):g.rt.flat.length=g.L.length:=by rw [h.rtf];unfold ents;rw [List.length_map]
theorem TabOK.xl {w:World} {R:Nat→Prop} {g:TabG} (h:TabOK w R g):g.xs.length=g.S.idx.length:=by rw [←h.ixs,List.length_map]
theorem TabOK.lenIt {w:World} {R:Nat→Prop} {g:TabG} (h:TabOK w R g) {i:Nat} (hi:i < g.xs.length):g.xs[i].2.flat.length=g.L.length:=by
 rw [(h.it i hi).2,idx_len (kfS g.S) (n:=0),TabG.rows,List.length_map]
def lookL (g:TabG) (k:Key):Option (List AV × Value):=g.L.find? fun p=>kfS g.S 0 p.1 == k
def rowOf (g:TabG) (k:Key):List AV:=((lookL g k).map Prod.fst).getD []
theorem look_ents {α:Type} (kf:Nat→α→Key) (k:Key):∀ L:List (α × Value),Afx.look k (ents kf L)=(L.find? fun p=>kf 0 p.1 == k).map Prod.snd
 | []=>rfl
 | p::t=>by
  have ih:=look_ents kf k t
  unfold Afx.look ents at ih ⊢
  rw [List.map_cons,List.find?_cons,List.find?_cons]
  split
  ·rename_i h;simp only at h ⊢;rw [h];rfl
  ·rename_i h;simp only at h ⊢;rw [h];exact ih
theorem Sl.zero (w:World) (B:Nat→Prop) (sz:Nat):Sl w B sz (.slice none 0 0) 0 []:=(Own.nil w 0 sz).sl zfJ3
theorem look_row {w:World} {R:Nat→Prop} {g:TabG} (h:TabOK w R g) (k:Key):∃ p c,(Afx.look k g.rt.flat).getD (.slice none 0 0)=.slice p (rowOf g k).length c∧Sl w R 3 (.slice p (rowOf g k).length c) (rowOf g k).length (rowCells (rowOf g k)) ∧
 (Afx.look k g.rt.flat).isSome=(lookL g k).isSome∧(rowOf g k).length≤1000:=by
 rw [h.rtf,look_ents]
 unfold rowOf
 have e:(g.L.find? fun p=>kfS g.S 0 p.1 == k)=lookL g k:=rfl
 rw [e]
 cases hl:lookL g k with
 | none=>exact ⟨none,0,rfl,Sl.zero _ _ _,rfl,Nat.zero_le _⟩
 | some p =>
  have hm:p∈g.L:=List.mem_of_find?_eq_some hl
  have hs:=h.at_ p hm
  obtain ⟨q,c,hv,_,_⟩:=hs.form
  refine ⟨q,c,hv,?_,rfl,?_⟩
  ·show Sl w R 3 (.slice q p.1.length c) p.1.length (rowCells p.1)
   rw [←hv];exact hs
  ·have h1:=(fitB_len (h.ok p hm).fit).1
   have h2:=(sch_small h.st.right).1
   show p.1.length≤1000
   omega
theorem tlen_any (w:World) (R:Nat→Prop) (g:TabG) (h:TabOK w R g) (hs:Sep w g.res) :
 Calls Tryz.prog 25 #[ptrV g.tb] w fun e w'=>e=.returned (.int .i64 (g.L.length:Int))∧w'=w:=by
 have hl:=TyV.y1s w g.rt.b g.rt.p g.rt.flat.length ((TabG.rtS hs).all (TyV.y12 g.rt.b g.rt.p g.rt.flat.length) zPXO)
 rw [h.lenRt] at hl
 have HL:=Lib.hid hl
 obtain ⟨c0,c1,c2,c3,c4,c5,c6,c7⟩:=tab_cells (TabG.blk hs)
 unfold ptrV at HL c6 ⊢
 clear hl h hs
 go_enter Tryz.func25,Tryz.ntmps25
 go_wp2_with (go_at_call 65;refine HL.out.mono ?_;clear HL;rintro e w2 ⟨rfl,rfl⟩)
 exact zTTx
theorem trow_any (w:World) (R:Nat→Prop) (g:TabG) (h:TabOK w R g) (hs:Sep w g.res) (k:Key) :
 Calls Tryz.prog 64 #[ptrV g.tb,.string (kb k)] w fun e w'=>∃ v',e=.returned v'∧Own w' 113 3 v' (rowOf g k).length (rowCells (rowOf g k))∧Below w.heap.size w w'∧∀ q,v'.ownBlock=some q→w.heap.size≤q:=by
 obtain ⟨d,hd⟩:=h.rt
 have hl:=h.lenRt
 have hl2:=h.lim
 have HG:=Lib.hid (TyV.y1q w g.rt.b g.rt.p d g.rt.flat.length k (TabG.rtS hs) hd rfl zTbe)
 obtain ⟨p,c,hv,hsl,_,hrl⟩:=look_row h k
 obtain ⟨x,hx⟩:∃ x,(Afx.look k g.rt.p.t.flat).isSome=x:=⟨_,rfl⟩
 have hv':(Afx.look k g.rt.p.t.flat).getD (.slice none 0 0)=.slice p (rowOf g k).length c:=hv
 rw [hv',hx] at HG
 have HCL:=Lib.hid (fun w2 (hb:Below w.heap.size w w2)=>clone_tb w2 R _ _ _ (hsl.below hb) zTbe)
 obtain ⟨c0,c1,c2,c3,c4,c5,c6,c7⟩:=tab_cells (TabG.blk hs)
 unfold ptrV at HG c6 ⊢
 clear hd hl hl2 hv hv' hsl hrl hx h hs
 go_enter Tryz.func64,Tryz.ntmps64
 go_wp2_with (go_at_call 67;refine HG.out.mono ?_;clear HG;rintro e w2 ⟨rfl,hb2⟩;have HB2:=Lib.hid hb2;clear hb2)
 refine (HCL.out _ HB2.out).mono ?_
 clear HCL
 rintro e w3 ⟨v3,rfl,ho3,hb3,hn3⟩
 have HO3:=Lib.hid ho3
 have HB3:=Lib.hid hb3
 have HN3:=Lib.hid hn3
 obtain ⟨p3,c3,rfl,_,_⟩:=own_formT ho3
 clear ho3 hb3 hn3
 go_wp2
 go_ret
 exact zv8j
theorem tget_any (w:World) (R:Nat→Prop) (g:TabG) (h:TabOK w R g) (hs:Sep w g.res) (k:Key) :
 Calls Tryz.prog 27 #[ptrV g.tb,.string (kb k)] w fun e w'=>∃ v',e=.returned (.tuple #[v',.bool (lookL g k).isSome])∧Own w' 113 3 v' (rowOf g k).length (rowCells (rowOf g k))∧Below w.heap.size w w'∧∀ q,v'.ownBlock=some q→w.heap.size≤q:=by
 obtain ⟨d,hd⟩:=h.rt
 have hl:=h.lenRt
 have hl2:=h.lim
 have HG:=Lib.hid (TyV.y1q w g.rt.b g.rt.p d g.rt.flat.length k (TabG.rtS hs) hd rfl zTbe)
 obtain ⟨p,c,hv,hsl,hx,hrl⟩:=look_row h k
 have hv':(Afx.look k g.rt.p.t.flat).getD (.slice none 0 0)=.slice p (rowOf g k).length c:=hv
 have hx':(Afx.look k g.rt.p.t.flat).isSome=(lookL g k).isSome:=hx
 rw [hv',hx'] at HG
 have HCL:=Lib.hid (fun w2 (hb:Below w.heap.size w w2)=>clone_tb w2 R _ _ _ (hsl.below hb) zTbe)
 obtain ⟨c0,c1,c2,c3,c4,c5,c6,c7⟩:=tab_cells (TabG.blk hs)
 generalize (lookL g k).isSome=bx at *
 unfold ptrV at HG c6 ⊢
 clear hd hl hl2 hv hv' hsl hrl hx hx' h hs
 go_enter Tryz.func27,Tryz.ntmps27
 go_wp2_with (go_at_call 67;refine HG.out.mono ?_;clear HG;rintro e w2 ⟨rfl,hb2⟩;have HB2:=Lib.hid hb2;clear hb2)
 refine (HCL.out _ HB2.out).mono ?_
 clear HCL
 rintro e w3 ⟨v3,rfl,ho3,hb3,hn3⟩
 have HO3:=Lib.hid ho3
 have HB3:=Lib.hid hb3
 have HN3:=Lib.hid hn3
 obtain ⟨p3,c3,rfl,_,_⟩:=own_formT ho3
 clear ho3 hb3 hn3
 go_wp2
 go_ret2
 exact zv8j
theorem look_idx {α:Type} (kf:Nat→α→Key) (i:Nat) (rows:List α) (hp:rows.Pairwise fun a b=>kf i a≠kf i b) (k:Key) :
 Afx.look k (idxEnts kf i rows)=(rows.find? fun r=>kf i r == k).map fun r=>.string (kb (kf 0 r)):=by
 have hr:=idxEnts_rise kf i rows hp
 cases hf:rows.find? fun r=>kf i r == k with
 | none =>
  rw [Option.map_none,look_none_iff hr]
  intro e he
  obtain ⟨r,hr1,rfl⟩:=(mem_idxEnts kf i rows hp e).1 he
  have:=List.find?_eq_none.1 hf r hr1
  simpa using this
 | some r =>
  rw [Option.map_some,look_mem hr]
  have h1:=List.mem_of_find?_eq_some hf
  have h2:kf i r=k:=by have:=List.find?_some hf;simpa using this
  exact (mem_idxEnts kf i rows hp _).2 ⟨r,h1,by rw [h2]⟩
def findI (g:TabG) (i:Nat) (k:Key):Option (List AV):=g.rows.find? fun r=>kfS g.S i r == k
theorem look_it {w:World} {R:Nat→Prop} {g:TabG} (h:TabOK w R g) {i:Nat} (hi:i < g.xs.length) (k:Key):Afx.look k g.xs[i].2.flat=(findI g i k).map fun r=>.string (kb (kfS g.S 0 r)):=by
 rw [(h.it i hi).2]
 exact look_idx _ _ _ (h.tab.uniq i zONN) k
def clT (g:TabG) (u:Bool) (i:Nat) (k own:Key) (hs:Bool):Bool:=u && (match findI g i k with
 | some r=>!(hs && (kb (kfS g.S 0 r)).toList == (kb own).toList)
 | none=>false)
def clashT (g:TabG) (ks:List Key) (own:Key) (hs:Bool) (n:Nat):Bool:=(List.range n).any fun i=>match g.xs[i]?,ks[i]? with
 | some q,some k=>clT g q.1.unique i k own hs
 | _,_=>false
theorem clashT_succ (g:TabG) (ks:List Key) (own:Key) (hs:Bool) (n:Nat) (h1:n < g.xs.length) (h2:n < ks.length):clashT g ks own hs (n+1)=(clashT g ks own hs n || clT g g.xs[n].1.unique n ks[n] own hs):=by
 unfold clashT
 rw [List.range_succ,List.any_append]
 simp [List.getElem?_eq_getElem h1,List.getElem?_eq_getElem h2]
theorem clashT_mono (g:TabG) (ks:List Key) (own:Key) (hs:Bool) {n m:Nat} (hn:n < m) (h:clashT g ks own hs (n+1)=true):clashT g ks own hs m=true:=by
 unfold clashT at *
 rw [List.any_eq_true] at *
 obtain ⟨i,hi,h1⟩:=h
 exact ⟨i,List.mem_range.2 (by have:=List.mem_range.1 hi;omega),h1⟩
theorem sl_key {w:World} {B:Nat→Prop} {v:Value} {l:List Key} (h:Sl w B 1 v l.length (strC l)) {k:Nat} (hk:k < l.length) :
 ∃ g off cap,v=.slice (some ⟨g,off,none⟩) l.length cap∧B g∧g < w.heap.size∧w.cell? ⟨g,off+k,none⟩=some (.string (kb l[k])):=by
 obtain ⟨g,off,cap,hv,_,_,hgb,hglt,hc⟩:=h.place zTbe
 refine ⟨g,off,cap,hv,hgb,hglt,?_⟩
 rw [hc k (by unfold strC;rw [List.length_map];omega)]
 unfold strC
 rw [List.getElem?_map,List.getElem?_eq_getElem hk]
 rfl
theorem clash_any (w:World) (R B:Nat→Prop) (g:TabG) (h:TabOK w R g) (hs:Sep w g.res) (kv:Value) (ks:List Key) (hk:Sl w B 1 kv ks.length (strC ks)) (hkl:ks.length=g.xs.length) (own:Key) (hb:Bool) :
 Calls Tryz.prog 79 #[ptrV g.tb,kv,.string (kb own),.bool hb] w fun e w'=>e=.returned (.bool (clashT g ks own hb g.xs.length))∧Below w.heap.size w w':=by
 have hix:=h.ix
 have hn4:=(sch_small h.st.right).2.1
 have hxl:=h.xl
 have HGET:=Lib.hid (fun (w2:World) (i:Nat) (hi:i < g.xs.length) (k:Key) (hb2:Below w.heap.size w w2)=>by
  obtain ⟨d,hd⟩:=(h.it i hi).1
  have hl:=h.lenIt hi
  have hl2:=h.lim
  have h1:=TyS.y1q w2 g.xs[i].2.b g.xs[i].2.p d g.xs[i].2.flat.length k ((TabG.itS hs hi).below hb2) hd rfl zTbe
  have e:Afx.look k g.xs[i].2.p.t.flat=_:=look_it h hi k
  rw [e] at h1
  exact h1)
 have HXF:Hid (∀ q∈g.xs,∃ p n c,q.1.v=.slice p n c):=Lib.hid fun q hq=>by
  exact zgTD
 have hkt:=TabG.blk hs
 have HKT:=Lib.hid hkt
 have HIX:=Lib.hid hix
 have HKS:=Lib.hid hk
 have HSC:=Lib.hid (clashT_succ g ks own hb)
 obtain ⟨c0,c1,c2,c3,c4,c5,c6,c7⟩:=tab_cells hkt
 obtain ⟨pv,cv,rfl,_,_⟩:=hk.form
 obtain ⟨pi,ci,hiv,_,_⟩:=hix.form
 rw [hiv] at c7
 have HIV:=Lib.hid hiv
 have H0:Hid (clashT g ks own hb 0=false):=Lib.hid rfl
 have hn:g.xs.length≤4:=zTbe
 have hlt:=hkt.lt
 have hkl1:g.xs.length≤ks.length:=zTbe
 unfold ptrV
 clear h hs hk hix hkt hiv hxl hn4 hkl
 go_enter Tryz.func79,Tryz.ntmps79
 go_wp2
 go_loopw [18] (fun i wr=>∃ k:Nat,i=.int .i64 k∧k≤g.xs.length∧clashT g ks own hb k=false∧Below w.heap.size w wr) (fun i _=>g.xs.length - (intOf i).toNat)
 case atStart=>exact ⟨0,rfl,Nat.zero_le _,H0.out,Below.refl _ _⟩
 case round =>
  obtain ⟨k,rfl,hk,hf,hbw⟩:=hrel
  have HF:=Lib.hid hf
  have HBW:=Lib.hid hbw
  by_cases hkx:k < g.xs.length
  ·obtain ⟨gi,oi,cpi,hvi,_,hgi,e0,e1,e2⟩:=sl_three (f:=ixOne) (fun _=>rfl) (HIX.out.below hbw) hkx
   rw [HIV.out] at hvi
   cases hvi
   obtain ⟨gk,ok_,cpk,hvk,_,hgk,ek⟩:=sl_key (HKS.out.below hbw) (k:=k) zTbe
   cases hvk
   have HS:=Lib.hid (HSC.out k hkx zTbe)
   have HG:=Lib.hid (fun w2 (hb2:Below w.heap.size w w2)=>HGET.out w2 k hkx (ks[k]'(zTbe)) hb2)
   have hxv:=HXF.out g.xs[k] (List.getElem_mem hkx)
   generalize ks[k]'(zTbe)=key at *
   generalize g.xs[k]=q at *
   obtain ⟨⟨xv,xl,xu⟩,xt⟩:=q
   simp only [ixOne] at e0 e1 e2 HS hxv
   obtain ⟨px,nx,cx,rfl⟩:=hxv
   have hz:∃ (z:ByteArray) (bo:Bool),((findI g k key).map fun r=>Value.string (kb (kfS g.S 0 r))).getD (.string ⟨#[]⟩)=.string z∧((findI g k key).map fun r=>Value.string (kb (kfS g.S 0 r))).isSome=bo∧clT g xu k key own hb=(xu && (bo && !(hb && z.toList == (kb own).toList))):=by
    unfold clT
    cases findI g k key with
    | none=>exact ⟨⟨#[]⟩,false,rfl,rfl,rfl⟩
    | some r=>exact ⟨kb (kfS g.S 0 r),true,rfl,rfl,rfl⟩
   obtain ⟨z,bo,hz1,hz2,hz3⟩:=hz
   rw [hz1,hz2] at HG
   rw [HF.out,hz3,Bool.false_or] at HS
   obtain ⟨w1,hw1⟩:∃ w1,wr.alloc (.cells #[.slice px nx cx,.bool xu,.pointer (some ⟨xt.b,0,none⟩)] 123)=w1:=⟨_,rfl⟩
   have hb1:=zsNA
   have kx:Blk w1 wr.heap.size 123 [.slice px nx cx,.bool xu,.pointer (some ⟨xt.b,0,none⟩)]:=hw1▸Blk.new wr _ _
   have x0:w1.cell? ⟨wr.heap.size,0,none⟩=some (.slice px nx cx):=kx.cell 0
   have x1:w1.cell? ⟨wr.heap.size,1,none⟩=some (.bool xu):=kx.cell 1
   have x2:w1.cell? ⟨wr.heap.size,2,none⟩=some (.pointer (some ⟨xt.b,0,none⟩)):=kx.cell 2
   have hlx:=kx.lt
   have ek1:w1.cell? ⟨gk,ok_+k,none⟩=some (.string (kb key)):=(hb1.cell hgk).trans ek
   have hgk1:gk < w1.heap.size:=Nat.lt_of_lt_of_le hgk hb1.size
   have hkl2:k < ks.length:=zTbe
   have HB1:=Lib.hid (HBW.out.trans (hb1.mono HBW.out.size))
   have HKX:=Lib.hid kx
   unfold ptrV at HG e2
   obtain ⟨ez,hez⟩:∃ ez,(z.toList == (kb own).toList)=ez:=⟨_,rfl⟩
   rw [hez] at HS
   clear hf hbw hb1 kx hz1 hz2 hz3 ek
   go_upto_region 4 with fail
   have dx2:w1.drew.cell? ⟨wr.heap.size,2,none⟩=some (.pointer (some ⟨xt.b,0,none⟩)):=x2
   have dek:w1.drew.cell? ⟨gk,ok_+k,none⟩=some (.string (kb key)):=ek1
   have dlx:wr.heap.size < w1.drew.heap.size:=hlx
   have dgk:gk < w1.drew.heap.size:=hgk1
   have HGD:=Lib.hid (HG.out _ HB1.out.drew)
   clear x0 x1 x2 ek1 hlx hgk1 hw1 HG
   refine wp_region_lit_plan [] [(0,0),(2,0),(3,0),(4,0),(1,1),(5,1),(6,4),(7,0),(8,0),(9,0),(10,0),(11,0)] (fun _=>False) zyVB zyVB (fun c a d v w h=>zx0I) ?_
   go_upto_region 5 with (first
    | (refine stp ?_)
    | (go_at_call 63;refine HGD.out.mono ?_;clear HGD;rintro e w2 ⟨rfl,hb2⟩;have HB2:=Lib.hid (HB1.out.drew.trans (hb2.mono HB1.out.drew.size));have y1:w2.cell? ⟨wr.heap.size,1,none⟩=some (.bool xu):=(HKX.out.drew.below hb2).cell 1;have hly:=(HKX.out.drew.below hb2).lt;clear hb2))
   clear dx2 dek dlx dgk HB1 HKX
   have HTR:Hid (∀ n,n < g.xs.length→clashT g ks own hb (n+1)=true→clashT g ks own hb g.xs.length=true):=Lib.hid fun n hn h=>clashT_mono g ks own hb hn h
   cases xu<;>cases bo<;>cases hb<;>cases ez
   all_goals
    go_wp2
    first
     | (go_roundw
        case rel=>exact ⟨k+1,by congr 1,zTbe,HS.out,HB2.out⟩
        case measure=>(simp [intOf])<;>omega)
     | (go_ret
        have h5:=HTR.out k hkx HS.out
        exact ⟨by rw [h5];rfl,HB2.out⟩)
  ·obtain rfl:k=g.xs.length:=by omega
   clear hf hbw
   go_wp2
   go_ret
   have h5:=HF.out
   exact ⟨by rw [h5];rfl,HBW.out⟩
structure ItsTo (f:Nat→List En→List En) (n:Nat) (xs xs':List IxT):Prop where
 len:xs'.length=xs.length
 same:∀ i (h:i < xs.length) (h':i < xs'.length),xs'[i].1=xs[i].1∧xs'[i].2.b=xs[i].2.b
 good:∀ i (h':i < xs'.length),∃ d,Afx.Good d xs'[i].2.p.t
 flat:∀ i (h:i < xs.length) (h':i < xs'.length),xs'[i].2.flat=if i < n then f i xs[i].2.flat else xs[i].2.flat
theorem ItsTo.start {f:Nat→List En→List En} {xs:List IxT} (hg:∀ i (h:i < xs.length),∃ d,Afx.Good d xs[i].2.p.t):ItsTo f 0 xs xs :=
 ⟨rfl,fun _ _ _=>⟨rfl,rfl⟩,hg,fun i h h'=>by rw [if_neg zTbe]⟩
theorem ItsTo.next {f:Nat→List En→List En} {n:Nat} {xs xs':List IxT} (h:ItsTo f n xs xs') (hn:n < xs'.length) {p:P} (hg:∃ d,Afx.Good d p.t) (hp:p.t.flat=f n xs'[n].2.flat) :
 ItsTo f (n+1) xs (xs'.set n (xs'[n].1,⟨xs'[n].2.b,p⟩)):=by
 have hl:=h.len
 have hf:=h.flat n zTbe hn
 rw [if_neg zTbe] at hf
 refine ⟨by rw [List.length_set];exact h.len,fun i h1 h2=>?_,fun i h2=>?_,fun i h1 h2=>?_⟩
 ·rw [List.length_set] at h2
  rw [List.getElem_set]
  split
  ·rename_i e;subst e;exact h.same n h1 h2
  ·exact h.same i h1 h2
 ·rw [List.length_set] at h2
  rw [List.getElem_set]
  split
  ·exact hg
  ·exact h.good i h2
 ·rw [List.length_set] at h2
  rw [List.getElem_set]
  split
  ·rename_i e
   subst e
   rw [if_pos zTbe]
   show p.t.flat=_
   rw [hp,hf]
  ·rename_i e
   rw [h.flat i h1 h2]
   by_cases h3:i < n
   ·rw [if_pos h3,if_pos zTbe]
   ·rw [if_neg h3,if_neg zTbe]
theorem ItsTo.ixC {f:Nat→List En→List En} {n:Nat} {xs xs':List IxT} (h:ItsTo f n xs xs'):ixC xs'=ixC xs:=by
 unfold Go.Proofs.YteggkjdlajgenaaGreatDoor.ixC
 congr 1
 refine List.ext_getElem (by simp [h.len]) fun i h1 h2=>?_
 rw [List.getElem_map,List.getElem_map]
 simp only [List.length_map] at h1 h2
 obtain ⟨e1,e2⟩:=h.same i h2 h1
 unfold ixOne
 rw [e1,e2]
theorem ItsTo.fsts {f:Nat→List En→List En} {n:Nat} {xs xs':List IxT} (h:ItsTo f n xs xs'):xs'.map Prod.fst=xs.map Prod.fst:=by
 refine List.ext_getElem (by simp [h.len]) fun i h1 h2=>?_
 rw [List.getElem_map,List.getElem_map]
 simp only [List.length_map] at h1 h2
 exact (h.same i h2 h1).1
def resT (tb:Nat) (S:SchV) (iv:Value) (rt:TreeX) (xs:List IxT):List Res:=rTab tb S (ptrV rt.b) iv::(rt.rv++itsR xs)
theorem resT_rt (tb:Nat) (S:SchV) (iv:Value) (rt:TreeX) (xs:List IxT):(resT tb S iv rt xs).Perm (TyV.y13 rt.b rt.p rt.flat.length++(rTab tb S (ptrV rt.b) iv::itsR xs)):=by
 unfold resT
 exact (List.perm_middle (l₁:=rt.rv) (a:=rTab tb S (ptrV rt.b) iv) (l₂:=itsR xs)).symm
theorem resT_it (tb:Nat) (S:SchV) (iv:Value) (rt:TreeX) (xs:List IxT) (i:Nat) (h:i < xs.length) :
 (resT tb S iv rt xs).Perm (TyS.y13 xs[i].2.b xs[i].2.p xs[i].2.flat.length++(rTab tb S (ptrV rt.b) iv::(rt.rv++(itsR (xs.take i)++itsR (xs.drop (i+1)))))):=by
 unfold resT
 rw [itsR_split xs i h]
 refine perm_of_cnt fun a=>?_
 simp only [cnt_append,cnt_cons,TreeX.rs]
 omega
theorem resT_set (tb:Nat) (S:SchV) (iv:Value) (rt:TreeX) (xs:List IxT) (i:Nat) (h:i < xs.length) (q:IxT) :
 (q.2.rs++(rTab tb S (ptrV rt.b) iv::(rt.rv++(itsR (xs.take i)++itsR (xs.drop (i+1)))))).Perm (resT tb S iv rt (xs.set i q)):=by
 unfold resT
 rw [itsR_split (xs.set i q) i (by rw [List.length_set];exact h),List.getElem_set_self,List.take_set_of_le (Nat.le_refl i),List.drop_set_of_lt zTbe]
 refine perm_of_cnt fun a=>?_
 simp only [cnt_append,cnt_cons]
 omega
theorem Trk.rtTo {w0 w w':World} {F:List Nat} {tb:Nat} {S:SchV} {iv:Value} {rt:TreeX} {xs:List IxT} (h:Trk w0 F w (resT tb S iv rt xs)) {p':P} {n':Nat} (hn:n'=p'.t.flat.length)
 (hc:Trk w (feet (TyV.y13 rt.b rt.p rt.flat.length)) w' (TyV.y13 rt.b p' n')):Trk w0 F w' (resT tb S iv ⟨rt.b,p'⟩ xs):=by
 subst hn
 exact (h.use (resT_rt tb S iv rt xs) hc).perm (resT_rt tb S iv ⟨rt.b,p'⟩ xs).symm
theorem Trk.itTo {w0 w w':World} {F:List Nat} {tb:Nat} {S:SchV} {iv:Value} {rt:TreeX} {xs:List IxT} (h:Trk w0 F w (resT tb S iv rt xs)) {i:Nat} (hi:i < xs.length) {p':P} {n':Nat} (hn:n'=p'.t.flat.length)
 (hc:Trk w (feet (TyS.y13 xs[i].2.b xs[i].2.p xs[i].2.flat.length)) w' (TyS.y13 xs[i].2.b p' n')):Trk w0 F w' (resT tb S iv rt (xs.set i (xs[i].1,⟨xs[i].2.b,p'⟩))):=by
 subst hn
 exact (h.use (resT_it tb S iv rt xs i hi) hc).perm (resT_set tb S iv rt xs i hi (xs[i].1,⟨xs[i].2.b,p'⟩))
theorem resT_blk {w0 w:World} {F:List Nat} {tb:Nat} {S:SchV} {iv:Value} {rt:TreeX} {xs:List IxT} (h:Trk w0 F w (resT tb S iv rt xs)):Blk w tb 129 (tabCells S (ptrV rt.b) iv):=h.sep.all (rTab tb S (ptrV rt.b) iv) (by unfold resT;simp)
theorem resT_sepRt {w0 w:World} {F:List Nat} {tb:Nat} {S:SchV} {iv:Value} {rt:TreeX} {xs:List IxT} (h:Trk w0 F w (resT tb S iv rt xs)):Sep w (TyV.y13 rt.b rt.p rt.flat.length):=h.sepOf (resT_rt tb S iv rt xs)
theorem resT_sepIt {w0 w:World} {F:List Nat} {tb:Nat} {S:SchV} {iv:Value} {rt:TreeX} {xs:List IxT} (h:Trk w0 F w (resT tb S iv rt xs)) {i:Nat} (hi:i < xs.length):Sep w (TyS.y13 xs[i].2.b xs[i].2.p xs[i].2.flat.length):=h.sepOf (resT_it tb S iv rt xs i hi)
theorem Trk.pre {w w1 w':World} {F:List Nat} {rs:List Res} (hb:Below w.heap.size w w1) (h:Trk w1 F w' rs):Trk w F w' rs :=
 ⟨h.sep,(Only.of_none (S:=fun k=>k∈F) hb).trans h.only (fun _ _ hf=>hf),fun k hk=>(h.foot k hk).imp id (fun h2=>Nat.le_trans hb.size h2)⟩
def layF (ks:List Key) (i:Nat) (l:List En):List En:=ins (ks.getD i []) (.string (kb (ks.getD 0 []))) l
def LayOut (w:World) (tb:Nat) (S:SchV) (iv:Value) (rt:TreeX) (xs:List IxT) (row:List AV) (ks:List Key) (w':World):Prop :=
 ∃ (v':Value) (p':P) (xs':List IxT),Trk w (feet (resT tb S iv rt xs)) w' (resT tb S iv ⟨rt.b,p'⟩ xs')∧(∃ d,Afx.Good d p'.t)∧p'.t.flat=ins (ks.getD 0 []) v' rt.flat∧ItsTo (layF ks) xs.length xs xs' ∧
  Sl w' (fun q=>w.heap.size≤q∧q∉feet (resT tb S iv ⟨rt.b,p'⟩ xs')) 3 v' row.length (rowCells row)
def LaySt (w1:World) (tb:Nat) (S:SchV) (iv:Value) (rt:TreeX) (xs:List IxT) (ks:List Key) (v':Value) (k:Nat) (wr:World):Prop :=
 ∃ (p':P) (xs':List IxT),Trk w1 (feet (resT tb S iv rt xs)) wr (resT tb S iv ⟨rt.b,p'⟩ xs')∧(∃ d,Afx.Good d p'.t)∧p'.t.flat=ins (ks.getD 0 []) v' rt.flat∧ItsTo (layF ks) k xs xs'
theorem LaySt.out {w w1 wr:World} {tb:Nat} {S:SchV} {iv:Value} {rt:TreeX} {xs:List IxT} {ks:List Key} {v':Value} {row:List AV} (h:LaySt w1 tb S iv rt xs ks v' xs.length wr) (hb:Below w.heap.size w w1) (hs:Sep w (resT tb S iv rt xs))
 (ho:Own w1 113 3 v' row.length (rowCells row)) (hn:∀ q,v'.ownBlock=some q→w.heap.size≤q):LayOut w tb S iv rt xs row ks wr:=by
 obtain ⟨p',xs',hT,hg,hf,hi⟩:=h
 have hq:∀ q,v'.ownBlock=some q→q∉feet (resT tb S iv rt xs):=fun q hq h=>by
  have h1:=hn q hq
  have h2:=hs.lt q h
  omega
 refine ⟨v',p',xs',Trk.pre hb hT,hg,hf,hi,Own.sl (ho.only hT.only hq) fun q h=>⟨hn q h,fun h5=>?_⟩⟩
 rcases hT.foot q h5 with h6|h6
 ·exact hq q h h6
 ·have:=ho.lt q h;omega
theorem LaySt.start {w1 w2:World} {tb:Nat} {S:SchV} {iv:Value} {rt:TreeX} {xs:List IxT} {ks:List Key} {v':Value} (hs:Sep w1 (resT tb S iv rt xs)) {d:Nat} (hg:Afx.Good d rt.p.t) (hx:∀ i (h:i < xs.length),∃ d,Afx.Good d xs[i].2.p.t) {p':P}
 (hp:p'.t=(putTop (ks.getD 0 []) v' d rt.p.t).2) (hT:Trk w1 (feet (TyV.y13 rt.b rt.p rt.flat.length)) w2 (TyV.y13 rt.b p' (if (Afx.look (ks.getD 0 []) rt.p.t.flat).isSome then rt.flat.length else rt.flat.length+1))):LaySt w1 tb S iv rt xs ks v' 0 w2:=by
 obtain ⟨g1,g2⟩:=putTop_good (k:=ks.getD 0 []) (v:=v') hg
 rw [←hp] at g1 g2
 refine ⟨p',xs,Trk.rtTo (Trk.start hs) ?_ hT,⟨_,g1⟩,g2,ItsTo.start hx⟩
 rw [g2,look_ins_len hg.rise]
theorem LaySt.next {w1 wr wd w3:World} {tb:Nat} {S:SchV} {iv:Value} {rt:TreeX} {xs xs':List IxT} {ks:List Key} {v':Value} {k:Nat} {q':P} (hT:Trk w1 (feet (resT tb S iv rt xs)) wr (resT tb S iv ⟨rt.b,q'⟩ xs')) (hg:∃ d,Afx.Good d q'.t) (hf:q'.t.flat=ins (ks.getD 0 []) v' rt.flat) (hi:ItsTo (layF ks) k xs xs')
 (hk:k < xs'.length) (hb:Below wr.heap.size wr wd) {d:Nat} (hgk:Afx.Good d xs'[k].2.p.t) {p':P} (hp:p'.t=(putTop (ks.getD k []) (.string (kb (ks.getD 0 []))) d xs'[k].2.p.t).2)
 (hc:Trk wd (feet (TyS.y13 xs'[k].2.b xs'[k].2.p xs'[k].2.flat.length)) w3 (TyS.y13 xs'[k].2.b p' (if (Afx.look (ks.getD k []) xs'[k].2.p.t.flat).isSome then xs'[k].2.flat.length else xs'[k].2.flat.length+1))):LaySt w1 tb S iv rt xs ks v' (k+1) w3:=by
 obtain ⟨g1,g2⟩:=putTop_good (k:=ks.getD k []) (v:=.string (kb (ks.getD 0 []))) hgk
 rw [←hp] at g1 g2
 refine ⟨q',_,Trk.itTo (hT.below hb) hk ?_ hc,hg,hf,hi.next hk ⟨_,g1⟩ g2⟩
 rw [g2,look_ins_len hgk.rise]
theorem tlay_any (w:World) (tb:Nat) (S:SchV) (iv:Value) (rt:TreeX) (xs:List IxT) (B B' R:Nat→Prop) (hs:Sep w (resT tb S iv rt xs)) (hR:∀ q,R q→q∉feet (resT tb S iv rt xs)) (hB:∀ q,B' q→q∉feet (resT tb S iv rt xs))
 (hix:Sl w R 3 iv xs.length (ixC xs)) (hxs:∀ q∈xs,∃ p n c,q.1.v=.slice p n c) (hxl:xs.length≤4) (hl:rt.flat.length≤1000) (hli:∀ i (h:i < xs.length),xs[i].2.flat.length≤1000)
 {d:Nat} (hg:Afx.Good d rt.p.t) (hx:∀ i (h:i < xs.length),∃ d,Afx.Good d xs[i].2.p.t) (rv:Value) (row:List AV) (hr:Sl w B 3 rv row.length (rowCells row)) (hrl:row.length≤1000)
 (kv:Value) (ks:List Key) (hk:Sl w B' 1 kv ks.length (strC ks)) (hkl:ks.length=xs.length) (hk0:0 < ks.length) :
 Calls Tryz.prog 80 #[ptrV tb,rv,kv] w fun e w'=>e=.returned (.tuple #[])∧LayOut w tb S iv rt xs row ks w':=by
 have HCL:=Lib.hid (fun w2 (hb:Below w.heap.size w w2)=>clone_tb w2 B rv _ _ (hr.below hb) zTbe)
 have HPUT:=Lib.hid (fun (w2:World) (zp:Option Addr) (zn zc:Nat) (hb:Below w.heap.size w w2)=>TyV.y15 w2 rt.b rt.p d rt.flat.length (ks.getD 0 []) zp zn zc (resT_sepRt (Trk.start (hs.below hb))) hg rfl zTbe)
 have HST:=Lib.hid (fun w1 (hb:Below w.heap.size w w1) w2 v' p'=>LaySt.start (w1:=w1) (w2:=w2) (ks:=ks) (v':=v') (p':=p') (hs.below hb) hg hx)
 have HOUT:=Lib.hid (fun w1 wr v' (hb:Below w.heap.size w w1) ho hn h=>LaySt.out (w1:=w1) (wr:=wr) (v':=v') (row:=row) (ks:=ks) h hb hs ho hn)
 have hkb:=resT_blk (Trk.start hs)
 have HKB:=Lib.hid hkb
 obtain ⟨c0,c1,c2,c3,c4,c5,c6,c7⟩:=tab_cells hkb
 obtain ⟨pr,cr,rfl,_,_⟩:=hr.form
 obtain ⟨pi,ci,rfl,_,_⟩:=hix.form
 obtain ⟨gk,ok_,cpk,hvk,hbk,hgk,ek⟩:=sl_key hk hk0
 subst hvk
 have ek0:w.cell? ⟨gk,ok_,none⟩=some (.string (kb (ks.getD 0 []))):=by
  rw [List.getD_eq_getElem?_getD,List.getElem?_eq_getElem hk0];exact ek
 obtain ⟨k0,hk0e⟩:∃ k0,ks.getD 0 []=k0:=⟨_,rfl⟩
 simp only [hk0e] at HPUT HST ek0
 have HK0:=Lib.hid hk0e
 have hkl1:xs.length≤ks.length:=zTbe
 have hlt:=hkb.lt
 have HIX:=Lib.hid hix
 have HK:=Lib.hid hk
 unfold ptrV at c6 HPUT ⊢
 clear hs hr hix hk hg hx hkb hkl ek hk0e
 go_enter Tryz.func80,Tryz.ntmps80
 go_upto_region 0 with fail
 have d6:w.drew.cell? ⟨tb,6,none⟩=some (.pointer (some ⟨rt.b,0,none⟩)):=c6
 have dek0:w.drew.cell? ⟨gk,ok_,none⟩=some (.string (kb k0)):=ek0
 have dlt:tb < w.drew.heap.size:=hlt
 have dgk:gk < w.drew.heap.size:=hgk
 have d7:Hid (w.cell? ⟨tb,7,none⟩=some (.slice pi xs.length ci)):=Lib.hid c7
 clear c0 c1 c2 c3 c4 c5 c6 c7 ek0
 refine wp_region_lit_plan [] [(0,0),(1,0),(2,0),(4,0),(5,0),(7,0),(3,2),(6,2),(8,3),(9,4)] (fun q=>q=tb∨q=gk) zyVB zyVB (fun c a d v w h=>zx0I) ?_
 go_upto_region 1 with (first
  | (refine stp ?_)
  | (go_at_call 68;refine (HCL.out _ (Below.refl _ _).drew).mono ?_;clear HCL;rintro e w1 ⟨v1,rfl,ho1,hb1,hn1⟩;have hag1:Agree (fun q=>q=tb∨q=gk) w.drew w1:=agree_bel hb1 (by rintro q (rfl|rfl)<;>assumption);obtain ⟨p1,c1',hv1,_,_⟩:=own_formT ho1;subst hv1;have HO1:=Lib.hid ho1;have HB1:=Lib.hid hb1;have HN1:=Lib.hid hn1;clear ho1 hb1 hn1))
 have HB1:Hid (Below w.heap.size w w1):=Lib.hid ((Below.refl w.heap.size w).drew.trans HB1.out)
 refine (HPUT.out _ _ _ _ HB1.out).mono ?_
 clear HPUT
 rintro e w2 ⟨rfl,p',hp,hT⟩
 have HLS:=Lib.hid (HST.out _ HB1.out _ _ _ hp hT)
 have e7:w2.cell? ⟨tb,7,none⟩=some (.slice pi xs.length ci):=by
  obtain ⟨q',xs',hT2,_⟩:=HLS.out
  exact (resT_blk hT2).cell 7
 have l7:tb < w2.heap.size:=by
  obtain ⟨q',xs',hT2,_⟩:=HLS.out
  exact (resT_blk hT2).lt
 clear hp hT d6 dek0 dlt dgk hag1
 go_wp2_with (first|(refine stp ?_))
 go_loopw [23] (fun i wr=>∃ k:Nat,i=.int .i64 k∧k≤xs.length∧LaySt w1 tb S (.slice pi xs.length ci) rt xs ks (.slice p1 row.length c1') k wr) (fun i _=>xs.length - (intOf i).toNat)
 case atStart=>exact ⟨0,rfl,Nat.zero_le _,HLS.out⟩
 case round =>
  obtain ⟨k,rfl,hk,hst⟩:=hrel
  by_cases hkx:k < xs.length
  ·obtain ⟨q',xs',hT,hg2,hf2,hi⟩:=hst
   have hkx':k < xs'.length:=by rw [hi.len];exact hkx
   have hix2:=((HIX.out.below HB1.out).only hT.only hR)
   have hk2:=((HK.out.below HB1.out).only hT.only hB)
   obtain ⟨gi,oi,cpi,hvi,_,hgi,e0,e1,e2⟩:=sl_three (f:=ixOne) (fun _=>rfl) hix2 hkx
   cases hvi
   obtain ⟨gk2,ok2,cpk2,hvk,_,hgk2,ek⟩:=sl_key hk2 (k:=k) zTbe
   cases hvk
   obtain ⟨gk2,ok2,cpk2,hvk,_,_,ek0⟩:=sl_key hk2 (k:=0) zTbe
   cases hvk
   have hxv:=hxs xs[k] (List.getElem_mem hkx)
   have hsm:=(hi.same k hkx hkx').2
   have hfl:=hi.flat k hkx hkx'
   rw [if_neg zTbe] at hfl
   have hfl2:=hli k hkx
   rw [←hfl] at hfl2
   obtain ⟨d2,hd2⟩:=hi.good k hkx'
   have e2':wr.cell? ⟨gi,oi+k*3+2,none⟩=some (ptrV xs'[k].2.b):=by rw [e2,hsm];rfl
   have ek':wr.cell? ⟨gk,ok_+k,none⟩=some (.string (kb (ks.getD k []))):=by
    rw [ek,List.getD_eq_getElem?_getD,List.getElem?_eq_getElem zTbe];rfl
   have ek0':wr.cell? ⟨gk,ok_,none⟩=some (.string (kb k0)):=by
    rw [←HK0.out,List.getD_eq_getElem?_getD,List.getElem?_eq_getElem hk0];exact ek0
   have HNX:=Lib.hid (fun wd w3 (hb:Below wr.heap.size wr wd) p' hp hc=>LaySt.next (wd:=wd) (w3:=w3) (p':=p') hT hg2 hf2 hi hkx' hb hd2 hp hc)
   have HPT:=Lib.hid (fun wd (hb:Below wr.heap.size wr wd)=>TyS.y15 wd xs'[k].2.b xs'[k].2.p d2 xs'[k].2.flat.length (ks.getD k []) (kb k0) (resT_sepIt (hT.below hb) hkx') hd2 rfl zTbe)
   simp only [HK0.out] at HNX
   obtain ⟨kk,hkk⟩:∃ kk,ks.getD k []=kk:=⟨_,rfl⟩
   simp only [hkk] at HNX HPT ek'
   clear hkk
   obtain ⟨px,nx,cx,hxv⟩:=hxv
   have e0':wr.cell? ⟨gi,oi+k*3,none⟩=some (.slice px nx cx):=by rw [e0,←hxv];rfl
   obtain ⟨u,hu⟩:∃ u,xs[k].1.unique=u:=⟨_,rfl⟩
   have e1':wr.cell? ⟨gi,oi+k*3+1,none⟩=some (.bool u):=by rw [e1,←hu];rfl
   clear hT hg2 hf2 hi hix2 hk2 e0 e1 e2 ek ek0 hsm hfl hd2 hu hxv
   generalize xs'[k]=x at *
   obtain ⟨w4,hw4⟩:=zOT4
   have hb4:Below wr.heap.size wr w4:=hw4▸(Below.refl _ _).alloc (Nat.le_refl _) _
   have kx:=zsNI
   have x2:w4.cell? ⟨wr.heap.size,2,none⟩=some (.pointer (some ⟨x.2.b,0,none⟩)):=kx.cell 2
   have hlx:=kx.lt
   have ek4:w4.cell? ⟨gk,ok_+k,none⟩=some (.string (kb kk)):=(hb4.cell hgk2).trans ek'
   have ek04:w4.cell? ⟨gk,ok_,none⟩=some (.string (kb k0)):=(hb4.cell hgk2).trans ek0'
   have hgk4:gk < w4.heap.size:=Nat.lt_of_lt_of_le hgk2 hb4.size
   have hkl2:k < ks.length:=zTbe
   have HB4:=Lib.hid hb4
   unfold ptrV at e2' HPT
   clear hb4 kx ek' ek0'
   go_upto_region 4 with fail
   have dx2:w4.drew.cell? ⟨wr.heap.size,2,none⟩=some (.pointer (some ⟨x.2.b,0,none⟩)):=x2
   have dek:w4.drew.cell? ⟨gk,ok_+k,none⟩=some (.string (kb kk)):=ek4
   have dek0:w4.drew.cell? ⟨gk,ok_,none⟩=some (.string (kb k0)):=ek04
   have dlx:wr.heap.size < w4.drew.heap.size:=hlx
   have dgk:gk < w4.drew.heap.size:=hgk4
   clear x2 hlx ek4 ek04 hgk4 hw4 e0' e1' e2'
   refine wp_region_lit_plan [] [(0,0),(2,0),(3,0),(4,0),(6,0),(7,0),(1,1),(5,1),(8,1),(9,4)] (fun _=>False) zyVB zyVB (fun c a d v w h=>zx0I) ?_
   go_wp2_with (first
    | (refine stp ?_))
   refine (HPT.out _ HB4.out.drew).mono ?_
   rintro e w5 ⟨rfl,p',hp,hc⟩
   have HLN:=Lib.hid (HNX.out _ _ HB4.out.drew _ hp hc)
   clear hp hc HNX HPT
   exact zucm
  ·obtain rfl:k=xs.length:=by omega
   have HF:=Lib.hid (HOUT.out _ _ _ HB1.out HO1.out HN1.out hst)
   clear hst
   go_wp2
   go_end0
   exact ⟨rfl,HF.out⟩
def takeF (ks:List Key) (i:Nat) (l:List En):List En:=del (ks.getD i []) l
def TakeOut (w:World) (tb:Nat) (S:SchV) (iv:Value) (rt:TreeX) (xs:List IxT) (ks:List Key) (w':World):Prop :=
 ∃ (p':P) (xs':List IxT),Trk w (feet (resT tb S iv rt xs)) w' (resT tb S iv ⟨rt.b,p'⟩ xs')∧(∃ d,Afx.Good d p'.t)∧p'.t.flat=del (ks.getD 0 []) rt.flat∧ItsTo (takeF ks) xs.length xs xs'
def TakeSt (w1:World) (tb:Nat) (S:SchV) (iv:Value) (rt:TreeX) (xs:List IxT) (ks:List Key) (k:Nat) (wr:World):Prop :=
 ∃ (p':P) (xs':List IxT),Trk w1 (feet (resT tb S iv rt xs)) wr (resT tb S iv ⟨rt.b,p'⟩ xs')∧(∃ d,Afx.Good d p'.t)∧p'.t.flat=del (ks.getD 0 []) rt.flat∧ItsTo (takeF ks) k xs xs'
theorem TakeSt.out {w w1 wr:World} {tb:Nat} {S:SchV} {iv:Value} {rt:TreeX} {xs:List IxT} {ks:List Key} (h:TakeSt w1 tb S iv rt xs ks xs.length wr) (hb:Below w.heap.size w w1):TakeOut w tb S iv rt xs ks wr:=by
 obtain ⟨p',xs',hT,hg,hf,hi⟩:=h
 exact ⟨p',xs',Trk.pre hb hT,hg,hf,hi⟩
theorem TakeSt.start {w1 w2:World} {tb:Nat} {S:SchV} {iv:Value} {rt:TreeX} {xs:List IxT} {ks:List Key} (hs:Sep w1 (resT tb S iv rt xs)) (hr:Rise rt.p.t.flat) (hx:∀ i (h:i < xs.length),∃ d,Afx.Good d xs[i].2.p.t) {d':Nat} {p':P} (hg:Afx.Good d' p'.t)
 (hp:p'.t.flat=del (ks.getD 0 []) rt.p.t.flat) (hT:Trk w1 (feet (TyV.y13 rt.b rt.p rt.flat.length)) w2 (TyV.y13 rt.b p' (if (Afx.look (ks.getD 0 []) rt.p.t.flat).isSome then rt.flat.length - 1 else rt.flat.length))):TakeSt w1 tb S iv rt xs ks 0 w2:=by
 refine ⟨p',xs,Trk.rtTo (Trk.start hs) ?_ hT,⟨_,hg⟩,hp,ItsTo.start hx⟩
 rw [hp,look_del_len hr]
theorem TakeSt.next {w1 wr wd w3:World} {tb:Nat} {S:SchV} {iv:Value} {rt:TreeX} {xs xs':List IxT} {ks:List Key} {k:Nat} {q':P} (hT:Trk w1 (feet (resT tb S iv rt xs)) wr (resT tb S iv ⟨rt.b,q'⟩ xs')) (hg:∃ d,Afx.Good d q'.t) (hf:q'.t.flat=del (ks.getD 0 []) rt.flat) (hi:ItsTo (takeF ks) k xs xs')
 (hk:k < xs'.length) (hb:Below wr.heap.size wr wd) (hr:Rise xs'[k].2.p.t.flat) {d':Nat} {p':P} (hg2:Afx.Good d' p'.t) (hp:p'.t.flat=del (ks.getD k []) xs'[k].2.p.t.flat)
 (hc:Trk wd (feet (TyS.y13 xs'[k].2.b xs'[k].2.p xs'[k].2.flat.length)) w3 (TyS.y13 xs'[k].2.b p' (if (Afx.look (ks.getD k []) xs'[k].2.p.t.flat).isSome then xs'[k].2.flat.length - 1 else xs'[k].2.flat.length))):TakeSt w1 tb S iv rt xs ks (k+1) w3:=by
 refine ⟨q',_,Trk.itTo (hT.below hb) hk ?_ hc,hg,hf,hi.next hk ⟨_,hg2⟩ hp⟩
 rw [hp,look_del_len hr]
theorem ttake_any (w:World) (hm:Mx w) (tb:Nat) (S:SchV) (iv:Value) (rt:TreeX) (xs:List IxT) (B B' R:Nat→Prop) (hs:Sep w (resT tb S iv rt xs)) (hR:∀ q,R q→q∉feet (resT tb S iv rt xs))
 (hix:Sl w R 3 iv xs.length (ixC xs)) (hxs:∀ q∈xs,∃ p n c,q.1.v=.slice p n c) (hxl:xs.length≤4) (hl:rt.flat.length≤1000) (hli:∀ i (h:i < xs.length),xs[i].2.flat.length≤1000)
 {d:Nat} (hg:Afx.Good d rt.p.t) (hx:∀ i (h:i < xs.length),∃ d,Afx.Good d xs[i].2.p.t) (hS:SchAt w B' S) (rv:Value) (row:List AV) (hr:Sl w B 3 rv row.length (rowCells row)) (hf:∀ a∈row,fit64 a.n) (hrl:row.length≤1000) (hx2:∀ x∈S.idx,x.l.length≤200)
 (hkl:(keysO S row).length=xs.length) (hk0:0 < (keysO S row).length) :
 Calls Tryz.prog 105 #[ptrV tb,rv] w fun e w'=>e=.returned (.tuple #[])∧TakeOut w tb S iv rt xs (keysO S row) w':=by
 have hky:=tkeys_any w hm B' B S rv row hS hr hf hrl hx2
 simp only [SchV.agg] at hky
 have HKY:=Lib.hid hky
 have HDEL:=Lib.hid (fun (w2:World) (k:Key) (hb:Below w.heap.size w w2)=>TyV.y1o w2 rt.b rt.p d rt.flat.length k (resT_sepRt (Trk.start (hs.below hb))) hg rfl zTbe)
 have HST:=Lib.hid (fun w1 (hb:Below w.heap.size w w1) w2 d' p'=>TakeSt.start (w1:=w1) (w2:=w2) (ks:=keysO S row) (d':=d') (p':=p') (hs.below hb) hg.rise hx)
 have HOUT:=Lib.hid (fun w1 wr (hb:Below w.heap.size w w1) h=>TakeSt.out (w1:=w1) (wr:=wr) (tb:=tb) (S:=S) (iv:=iv) (rt:=rt) (xs:=xs) (ks:=keysO S row) h hb)
 have hkb:=resT_blk (Trk.start hs)
 have HKB:=Lib.hid hkb
 obtain ⟨c0,c1,c2,c3,c4,c5,c6,c7⟩:=tab_cells hkb
 obtain ⟨pr,cr,rfl,_,_⟩:=hr.form
 obtain ⟨pi,ci,rfl,_,_⟩:=hix.form
 have hfs:∀ q,w.heap.size≤q→q∉feet (resT tb S (.slice pi xs.length ci) rt xs):=fun q h h2=>by have:=hs.lt q h2;omega
 obtain ⟨ks,hks⟩:∃ ks,keysO S row=ks:=⟨_,rfl⟩
 obtain ⟨cc,hcc⟩:∃ cc,chkS S 0 row=cc:=⟨_,rfl⟩
 rw [hks] at hkl hk0 HST HOUT ⊢
 rw [hks,hcc] at HKY
 obtain ⟨k0,hk0e⟩:∃ k0,ks.getD 0 []=k0:=⟨_,rfl⟩
 simp only [hk0e] at HST
 have HK0:=Lib.hid hk0e
 have hkl1:xs.length≤ks.length:=zTbe
 have hlt:=hkb.lt
 have HIX:=Lib.hid hix
 unfold ptrV at c6 HDEL ⊢
 clear hs hr hix hg hx hkb hkl hk0e hks hcc hky hS hf hrl hx2 hm
 go_enter Tryz.func105,Tryz.ntmps105
 go_wp2_with fail
 refine HKY.out.mono ?_
 clear HKY
 rintro e w1 ⟨out,rfl,ho,hb1⟩
 have HB1:=Lib.hid hb1
 have HK:=Lib.hid ho
 obtain ⟨gk,ok_,cpk,hvk,hbk,hgk,ek⟩:=sl_key ho hk0
 subst hvk
 have ek0:w1.cell? ⟨gk,ok_,none⟩=some (.string (kb k0)):=by
  rw [←HK0.out,List.getD_eq_getElem?_getD,List.getElem?_eq_getElem hk0];exact ek
 have e6:w1.cell? ⟨tb,6,none⟩=some (.pointer (some ⟨rt.b,0,none⟩)):=(HKB.out.below hb1).cell 6
 have elt:tb < w1.heap.size:=(HKB.out.below hb1).lt
 clear ho hb1 ek c0 c1 c2 c3 c4 c5 c6 c7
 go_upto_region 1 with fail
 have d6:w1.drew.cell? ⟨tb,6,none⟩=some (.pointer (some ⟨rt.b,0,none⟩)):=e6
 have dek0:w1.drew.cell? ⟨gk,ok_,none⟩=some (.string (kb k0)):=ek0
 have dlt:tb < w1.drew.heap.size:=elt
 have dgk:gk < w1.drew.heap.size:=hgk
 clear e6 ek0 elt
 refine wp_region_lit_plan [] [(0,0),(1,0),(2,0),(4,0),(5,0),(3,1),(6,1),(7,4)] (fun _=>False) zyVB zyVB (fun c a d v w h=>zx0I) ?_
 go_wp2_with (first
  | (refine stp ?_))
 have HB1d:Hid (Below w.heap.size w w1.drew):=Lib.hid HB1.out.drew
 refine (HDEL.out _ _ HB1d.out).mono ?_
 clear HDEL
 rintro e w2 ⟨rfl,d',p',hgd,hp,hT⟩
 have HLS:=Lib.hid (HST.out _ HB1d.out _ _ _ hgd hp hT)
 have e7:w2.cell? ⟨tb,7,none⟩=some (.slice pi xs.length ci):=by
  obtain ⟨q',xs',hT2,_⟩:=HLS.out
  exact (resT_blk hT2).cell 7
 have l7:tb < w2.heap.size:=by
  obtain ⟨q',xs',hT2,_⟩:=HLS.out
  exact (resT_blk hT2).lt
 clear hgd hp hT d6 dek0 dlt dgk
 go_wp2_with (first|(refine stp ?_))
 go_loopw [30] (fun i wr=>∃ k:Nat,i=.int .i64 k∧k≤xs.length∧TakeSt w1.drew tb S (.slice pi xs.length ci) rt xs ks k wr) (fun i _=>xs.length - (intOf i).toNat)
 case atStart=>exact ⟨0,rfl,Nat.zero_le _,HLS.out⟩
 case round =>
  obtain ⟨k,rfl,hk,hst⟩:=hrel
  by_cases hkx:k < xs.length
  ·obtain ⟨q',xs',hT,hg2,hf2,hi⟩:=hst
   have hkx':k < xs'.length:=by rw [hi.len];exact hkx
   have hix2:=((HIX.out.below HB1d.out).only hT.only hR)
   have hk2:=(HK.out.drew.only hT.only hfs)
   obtain ⟨gi,oi,cpi,hvi,_,hgi,e0,e1,e2⟩:=sl_three (f:=ixOne) (fun _=>rfl) hix2 hkx
   cases hvi
   obtain ⟨gk2,ok2,cpk2,hvk,_,hgk2,ek⟩:=sl_key hk2 (k:=k) zTbe
   cases hvk
   have hxv:=hxs xs[k] (List.getElem_mem hkx)
   have hsm:=(hi.same k hkx hkx').2
   have hfl:=hi.flat k hkx hkx'
   rw [if_neg zTbe] at hfl
   have hfl2:=hli k hkx
   rw [←hfl] at hfl2
   obtain ⟨d2,hd2⟩:=hi.good k hkx'
   have e2':wr.cell? ⟨gi,oi+k*3+2,none⟩=some (ptrV xs'[k].2.b):=by rw [e2,hsm];rfl
   have ek':wr.cell? ⟨gk,ok_+k,none⟩=some (.string (kb (ks.getD k []))):=by
    rw [ek,List.getD_eq_getElem?_getD,List.getElem?_eq_getElem zTbe];rfl
   have HNX:=Lib.hid (fun wd w3 (hb:Below wr.heap.size wr wd) d' p' hgd hp hc=>TakeSt.next (wd:=wd) (w3:=w3) (d':=d') (p':=p') hT hg2 hf2 hi hkx' hb hd2.rise hgd hp hc)
   have HPT:=Lib.hid (fun wd (hb:Below wr.heap.size wr wd)=>TyS.y1o wd xs'[k].2.b xs'[k].2.p d2 xs'[k].2.flat.length (ks.getD k []) (resT_sepIt (hT.below hb) hkx') hd2 rfl zTbe)
   obtain ⟨kk,hkk⟩:∃ kk,ks.getD k []=kk:=⟨_,rfl⟩
   simp only [hkk] at HNX HPT ek'
   clear hkk
   obtain ⟨px,nx,cx,hxv⟩:=hxv
   have e0':wr.cell? ⟨gi,oi+k*3,none⟩=some (.slice px nx cx):=by rw [e0,←hxv];rfl
   obtain ⟨u,hu⟩:∃ u,xs[k].1.unique=u:=⟨_,rfl⟩
   have e1':wr.cell? ⟨gi,oi+k*3+1,none⟩=some (.bool u):=by rw [e1,←hu];rfl
   clear hT hg2 hf2 hi hix2 hk2 e0 e1 e2 ek hsm hfl hd2 hu hxv
   generalize xs'[k]=x at *
   obtain ⟨w4,hw4⟩:=zOT4
   have hb4:Below wr.heap.size wr w4:=hw4▸(Below.refl _ _).alloc (Nat.le_refl _) _
   have kx:=zsNI
   have x2:w4.cell? ⟨wr.heap.size,2,none⟩=some (.pointer (some ⟨x.2.b,0,none⟩)):=kx.cell 2
   have hlx:=kx.lt
   have ek4:w4.cell? ⟨gk,ok_+k,none⟩=some (.string (kb kk)):=(hb4.cell hgk2).trans ek'
   have hgk4:gk < w4.heap.size:=Nat.lt_of_lt_of_le hgk2 hb4.size
   have hkl2:k < ks.length:=zTbe
   have HB4:=Lib.hid hb4
   unfold ptrV at e2' HPT
   clear hb4 kx ek'
   go_upto_region 5 with fail
   have dx2:w4.drew.cell? ⟨wr.heap.size,2,none⟩=some (.pointer (some ⟨x.2.b,0,none⟩)):=x2
   have dek:w4.drew.cell? ⟨gk,ok_+k,none⟩=some (.string (kb kk)):=ek4
   have dlx:wr.heap.size < w4.drew.heap.size:=hlx
   have dgk:gk < w4.drew.heap.size:=hgk4
   clear x2 hlx ek4 hgk4 hw4 e0' e1' e2'
   refine wp_region_lit_plan [] [(0,0),(2,0),(3,0),(4,0),(1,1),(5,1),(6,4)] (fun _=>False) zyVB zyVB (fun c a d v w h=>zx0I) ?_
   go_wp2_with (first
    | (refine stp ?_))
   refine (HPT.out _ HB4.out.drew).mono ?_
   rintro e w5 ⟨rfl,d',p',hgd,hp,hc⟩
   have HLN:=Lib.hid (HNX.out _ _ HB4.out.drew _ _ hgd hp hc)
   clear hp hc hgd HNX HPT
   exact zucm
  ·obtain rfl:k=xs.length:=by omega
   have HF:=Lib.hid (HOUT.out _ _ HB1d.out hst)
   clear hst
   go_wp2
   go_end0
   exact ⟨rfl,HF.out⟩
theorem thas_any (w:World) (R:Nat→Prop) (g:TabG) (h:TabOK w R g) (hs:Sep w g.res) (i:Int) :
 Calls Tryz.prog 61 #[ptrV g.tb,.int .i64 i] w fun e w'=>e=.returned (.bool (decide (0≤i) && decide (i < (g.xs.length:Int))))∧w'=w:=by
 have hkt:=TabG.blk hs
 obtain ⟨c0,c1,c2,c3,c4,c5,c6,c7⟩:=tab_cells hkt
 obtain ⟨pi,ci,hiv,_,_⟩:=h.ix.form
 rw [hiv] at c7
 have hlt:=hkt.lt
 unfold ptrV
 clear h hs hkt hiv c0 c1 c2 c3 c4 c5 c6
 by_cases h0:0≤i
 ·have e0:decide (i ≥ 0)=true:=decide_eq_true h0
  rw [decide_eq_true h0,Bool.true_and]
  obtain ⟨b,hb⟩:∃ b,decide (i < (g.xs.length:Int))=b:=⟨_,rfl⟩
  rw [hb]
  cases b
  ·go_enter Tryz.func61,Tryz.ntmps61
   exact zWFb
  ·go_enter Tryz.func61,Tryz.ntmps61
   exact zWFb
 ·have e0:decide (i ≥ 0)=false:=decide_eq_false h0
  rw [decide_eq_false h0,Bool.false_and]
  go_enter Tryz.func61,Tryz.ntmps61
  exact zWFb
theorem tkey_any (w:World) (R:Nat→Prop) (g:TabG) (h:TabOK w R g) (hs:Sep w g.res) (B:Nat→Prop) (rv:Value) (row:List AV) (hr:Sl w B 3 rv row.length (rowCells row)) (hf:∀ a∈row,fit64 a.n) (hrl:row.length≤1000) (h0:chkS g.S 0 row=0) :
 Calls Tryz.prog 26 #[ptrV g.tb,rv] w fun e w'=>e=.returned (.tuple #[.string (kb (kfS g.S 0 row)),.int .i64 0])∧Below w.heap.size w w':=by
 have hxl:=rightS_xl h.st.right
 have hky:=tkeys_any w h.st.mx R B g.S rv row h.st.sch hr hf hrl (fun x hx=>Nat.le_trans (hxl x hx) zTbe)
 have hn1:=(sch_small h.st.right).2.2.1
 have hkk:keysO g.S row=g.S.idx.map (skey g.S.idx row):=by unfold keysO;rw [if_pos h0]
 have hkl:0 < (keysO g.S row).length:=by rw [hkk,List.length_map];omega
 have hk0:(keysO g.S row)[0]=kfS g.S 0 row:=by
  rw [kfS_at zTbe]
  simp only [hkk,List.getElem_map]
 rw [h0] at hky
 generalize keysO g.S row=ks at *
 generalize kfS g.S 0 row=k0 at *
 simp only [SchV.agg] at hky
 have HKY:=Lib.hid hky
 have HK0:=Lib.hid hk0
 obtain ⟨c0,c1,c2,c3,c4,c5,c6,c7⟩:=tab_cells (TabG.blk hs)
 have hlt:=(TabG.blk hs).lt
 obtain ⟨pr,cr,rfl,_,_⟩:=hr.form
 unfold ptrV
 clear h hs hxl hky hn1 hkk hk0 h0 hr hf hrl
 go_enter Tryz.func26,Tryz.ntmps26
 go_wp2_with fail
 refine HKY.out.mono ?_
 clear HKY
 rintro e w1 ⟨out,rfl,ho,hb1⟩
 have HB1:=Lib.hid hb1
 obtain ⟨gk,ok_,cpk,hvk,hbk,hgk,ek⟩:=sl_key ho hkl
 subst hvk
 rw [HK0.out] at ek
 have ek0:w1.cell? ⟨gk,ok_,none⟩=some (.string (kb k0)):=ek
 clear ho hb1 ek
 go_wp2
 go_ret2
 exact ⟨rfl,HB1.out⟩
theorem TabOK.lay {w w':World} {R:Nat→Prop} {g:TabG} (h:TabOK w R g) (hR:∀ k∈feet g.res,¬ R k) {row:List AV} (hok:RowOK g.S row) {ks:List Key} (hks:∀ i,i < g.S.idx.length→ks.getD i []=kfS g.S i row)
 (hd:∀ i,i < g.S.idx.length→∀ r∈g.rows,kfS g.S i r≠kfS g.S i row) (hl:g.L.length < 1000) (ho:LayOut w g.tb g.S g.iv g.rt g.xs row ks w') :
 ∃ g':TabG,g'.tb=g.tb∧g'.S=g.S∧g'.rows=insM (kfS g.S) row g.rows∧Trk w (feet g.res) w' g'.res∧TabOK w' (grow R w.heap.size (feet g'.res)) g':=by
 obtain ⟨v',p',xs',hT,hg,hf,hi,hv⟩:=ho
 have hn:=zP42
 have hd0:∀ q∈g.L,kfS g.S 0 q.1≠kfS g.S 0 row:=fun q hq=>hd 0 hn q.1 (List.mem_map_of_mem hq)
 have hrows:(insP (kfS g.S) (row,v') g.L).map Prod.fst=insM (kfS g.S) row g.rows:=insP_fst (kfS g.S) (row,v') g.L
 refine ⟨⟨g.tb,g.S,g.iv,⟨g.rt.b,p'⟩,xs',insP (kfS g.S) (row,v') g.L⟩,rfl,rfl,hrows,hT,?_⟩
 refine ⟨h.st.trk hT hR,?_,hi.fsts.trans h.ixs,fun p hp=>?_,fun p hp=>?_,?_,?_,hg,?_,fun i hi2=>?_⟩
 ·show Sl w' _ 3 g.iv xs'.length (ixC xs')
  rw [hi.len,hi.ixC]
  exact Sl.trk h.ix hT hR
 ·rcases (mem_insP (kfS g.S) (row,v') g.L p).1 hp with rfl|hp
  ·exact hv.mono (Nat.le_refl _) (fun _ _ _=>rfl) (fun k hk _=>.inr hk)
  ·exact Sl.trk (h.at_ p hp) hT hR
 ·rcases (mem_insP (kfS g.S) (row,v') g.L p).1 hp with rfl|hp
  ·exact hok
  ·exact h.ok p hp
 ·show (insP (kfS g.S) (row,v') g.L).length≤1000
  rw [insP_len];omega
 ·show TabM _ _ ((insP (kfS g.S) (row,v') g.L).map Prod.fst)
  rw [hrows]
  exact h.tab.put (kfS g.S) hn hd
 ·show p'.t.flat=ents _ (insP (kfS g.S) (row,v') g.L)
  rw [hf,hks 0 hn,h.rtf]
  exact ins_ents (kfS g.S) (row,v') g.L hd0
 ·have hx:i < g.xs.length:=by rw [←hi.len];exact hi2
  have hx2:i < g.S.idx.length:=by rw [←h.xl];exact hx
  refine ⟨hi.good i hi2,?_⟩
  show xs'[i].2.flat=idxEnts (kfS g.S) i ((insP (kfS g.S) (row,v') g.L).map Prod.fst)
  rw [hi.flat i hx hi2,if_pos hx,(h.it i hx).2,hrows]
  unfold layF
  rw [hks i hx2,hks 0 hn]
  exact (idx_put (kfS g.S) h.tab hn hd hx2).symm
theorem TabOK.take {w w':World} {R:Nat→Prop} {g:TabG} (h:TabOK w R g) (hR:∀ k∈feet g.res,¬ R k) {j:Nat} (hj:j < g.L.length) {ks:List Key} (hks:∀ i,i < g.S.idx.length→ks.getD i []=kfS g.S i g.L[j].1)
 (ho:TakeOut w g.tb g.S g.iv g.rt g.xs ks w') :
 ∃ g':TabG,g'.tb=g.tb∧g'.S=g.S∧g'.rows=g.rows.eraseIdx j∧Trk w (feet g.res) w' g'.res∧TabOK w' (grow R w.heap.size (feet g'.res)) g':=by
 obtain ⟨p',xs',hT,hg,hf,hi⟩:=ho
 have hn:=zP42
 have hrows:(g.L.eraseIdx j).map Prod.fst=g.rows.eraseIdx j:=erase_map Prod.fst g.L j
 have hrj:j < g.rows.length:=by unfold TabG.rows;rw [List.length_map];exact hj
 have hrow:=z1zT
 have hmem:∀ p,p∈g.L.eraseIdx j→p∈g.L:=fun p hp=>List.mem_of_mem_eraseIdx hp
 have hrise:Rise (ents (kfS g.S) g.L):=by rw [←h.rtf];obtain ⟨d,hd⟩:=h.rt;exact hd.rise
 refine ⟨⟨g.tb,g.S,g.iv,⟨g.rt.b,p'⟩,xs',g.L.eraseIdx j⟩,rfl,rfl,hrows,hT,?_⟩
 refine ⟨h.st.trk hT hR,?_,hi.fsts.trans h.ixs,fun p hp=>Sl.trk (h.at_ p (hmem p hp)) hT hR,fun p hp=>h.ok p (hmem p hp),?_,?_,hg,?_,fun i hi2=>?_⟩
 ·show Sl w' _ 3 g.iv xs'.length (ixC xs')
  rw [hi.len,hi.ixC]
  exact Sl.trk h.ix hT hR
 ·show (g.L.eraseIdx j).length≤1000
  have:=List.length_eraseIdx_le g.L j
  have:=h.lim
  omega
 ·show TabM _ _ ((g.L.eraseIdx j).map Prod.fst)
  rw [hrows]
  exact h.tab.erase (kfS g.S) j
 ·show p'.t.flat=ents _ (g.L.eraseIdx j)
  rw [hf,hks 0 hn,h.rtf]
  exact del_ents (kfS g.S) g.L j hj hrise
 ·have hx:i < g.xs.length:=by rw [←hi.len];exact hi2
  have hx2:i < g.S.idx.length:=by rw [←h.xl];exact hx
  refine ⟨hi.good i hi2,?_⟩
  show xs'[i].2.flat=idxEnts (kfS g.S) i ((g.L.eraseIdx j).map Prod.fst)
  rw [hi.flat i hx hi2,if_pos hx,(h.it i hx).2,hrows]
  unfold takeF
  rw [hks i hx2,idx_erase (kfS g.S) h.tab hx2 hrj,hrow]
def InsOutT (w:World) (g:TabG) (row:List AV) (e:Ending) (w':World):Prop :=
 (chkS g.S 0 row≠0∧e=.returned (.int .i64 (chkS g.S 0 row))∧Below w.heap.size w w') ∨
 (chkS g.S 0 row=0∧clashT g (keysO g.S row) [] false g.xs.length=true∧e=.returned (.int .i64 9)∧Below w.heap.size w w') ∨
 (chkS g.S 0 row=0∧clashT g (keysO g.S row) [] false g.xs.length=false∧g.S.limit≤(g.L.length:Int)∧e=.returned (.int .i64 15)∧Below w.heap.size w w') ∨
 (chkS g.S 0 row=0∧clashT g (keysO g.S row) [] false g.xs.length=false∧(g.L.length:Int) < g.S.limit∧e=.returned (.int .i64 0)∧∃ w1,Below w.heap.size w w1∧LayOut w1 g.tb g.S g.iv g.rt g.xs row (keysO g.S row) w')
theorem keysO_len {S:SchV} {row:List AV} (h:chkS S 0 row=0):(keysO S row).length=S.idx.length:=by
 unfold keysO
 rw [if_pos h,List.length_map]
theorem keysO_at {S:SchV} {row:List AV} (h:chkS S 0 row=0) (i:Nat) (hi:i < S.idx.length):(keysO S row).getD i []=kfS S i row:=by
 rw [kfS_at hi]
 unfold keysO
 rw [if_pos h,List.getD_eq_getElem?_getD,List.getElem?_map,List.getElem?_eq_getElem hi]
 rfl
theorem tins_no (w:World) (R:Nat→Prop) (g:TabG) (h:TabOK w R g) (hs:Sep w g.res) (B:Nat→Prop) (rv:Value) (row:List AV) (hr:Sl w B 3 rv row.length (rowCells row)) (hf:∀ a∈row,fit64 a.n) (hrl:row.length≤1000) (h0:chkS g.S 0 row≠0) :
 Calls Tryz.prog 55 #[ptrV g.tb,rv] w (InsOutT w g row):=by
 have hxl:=rightS_xl h.st.right
 have hky:=tkeys_any w h.st.mx R B g.S rv row h.st.sch hr hf hrl (fun x hx=>Nat.le_trans (hxl x hx) zTbe)
 have HA:Hid (∀ w',Below w.heap.size w w'→InsOutT w g row (.returned (.int .i64 (chkS g.S 0 row))) w'):=Lib.hid fun w' hb=>.inl ⟨h0,rfl,hb⟩
 have hc0:(chkS g.S 0 row != 0)=true:=bne_iff_ne.2 h0
 generalize keysO g.S row=ks at hky
 obtain ⟨cc,hcc⟩:∃ cc,chkS g.S 0 row=cc:=⟨_,rfl⟩
 rw [hcc] at hky hc0 HA
 simp only [SchV.agg] at hky
 have HKY:=Lib.hid hky
 obtain ⟨c0,c1,c2,c3,c4,c5,c6,c7⟩:=tab_cells (TabG.blk hs)
 have hlt:=(TabG.blk hs).lt
 obtain ⟨pr,cr,rfl,_,_⟩:=hr.form
 unfold ptrV
 clear h hs hxl hky hr hf hrl h0 hcc
 go_enter Tryz.func55,Tryz.ntmps55
 go_wp2_with fail
 refine HKY.out.mono ?_
 clear HKY
 rintro e w1 ⟨out,rfl,ho,hb1⟩
 have HB1:=Lib.hid hb1
 obtain ⟨p3,c3',rfl,_,_⟩:=ho.form
 clear ho hb1
 go_wp2
 go_ret
 exact HA.out _ HB1.out
theorem TabOK.slots {w:World} {R:Nat→Prop} {g:TabG} (h:TabOK w R g):∀ q∈g.xs,∃ p n c,q.1.v=.slice p n c:=fun q hq=>by
 exact zgTD
theorem tins_fit (w:World) (R:Nat→Prop) (g:TabG) (h:TabOK w R g) (hs:Sep w g.res) (hR:∀ k∈feet g.res,¬ R k) (B:Nat→Prop) (rv:Value) (row:List AV) (hr:Sl w B 3 rv row.length (rowCells row)) (hf:∀ a∈row,fit64 a.n) (hrl:row.length≤1000) (h0:chkS g.S 0 row=0) :
 Calls Tryz.prog 55 #[ptrV g.tb,rv] w (InsOutT w g row):=by
 have hxl:=rightS_xl h.st.right
 have hn4:=(sch_small h.st.right).2.1
 have hn1:=(sch_small h.st.right).2.2.1
 have hky:=tkeys_any w h.st.mx R B g.S rv row h.st.sch hr hf hrl (fun x hx=>Nat.le_trans (hxl x hx) zTbe)
 have hkl:=zX0L
 have hk0:0 < (keysO g.S row).length:=by rw [keysO_len h0];omega
 have hx4:g.xs.length≤4:=by rw [h.xl];exact hn4
 have hnf:∀ q,w.heap.size≤q→q∉feet g.res:=fun q h1 h2=>by have:=hs.lt q h2;omega
 have HCL:=Lib.hid (fun w2 (hb:Below w.heap.size w w2) kv (hk:Sl w2 (fun q=>w.heap.size≤q) 1 kv (keysO g.S row).length (strC (keysO g.S row)))=>clash_any w2 R (fun q=>w.heap.size≤q) g (h.below hb) (hs.below hb) kv (keysO g.S row) hk hkl [] false)
 have HLN:=Lib.hid (fun w2 (hb:Below w.heap.size w w2)=>tlen_any w2 R g (h.below hb) (hs.below hb))
 obtain ⟨d,hd⟩:=h.rt
 have hl1:g.rt.flat.length≤1000:=by rw [h.lenRt];exact h.lim
 have HLY:=Lib.hid (fun w2 (hb:Below w.heap.size w w2) kv (hk:Sl w2 (fun q=>w.heap.size≤q) 1 kv (keysO g.S row).length (strC (keysO g.S row))) =>
  tlay_any w2 g.tb g.S g.iv g.rt g.xs B (fun q=>w.heap.size≤q) R (hs.below hb) (fun q hq h2=>hR q h2 hq) hnf (h.ix.below hb) h.slots hx4 hl1 (fun i hi=>by rw [h.lenIt hi];exact h.lim) hd (fun i hi=>(h.it i hi).1) rv row (hr.below hb) hrl kv (keysO g.S row) hk hkl hk0)
 have hkb:=TabG.blk hs
 have HKB:=Lib.hid hkb
 have HA1:Hid (∀ w',Below w.heap.size w w'→clashT g (keysO g.S row) [] false g.xs.length=true→InsOutT w g row (.returned (.int .i64 9)) w'):=Lib.hid fun w' hb hc=>.inr (.inl ⟨h0,hc,rfl,hb⟩)
 have HA2:Hid (∀ w',Below w.heap.size w w'→clashT g (keysO g.S row) [] false g.xs.length=false→g.S.limit≤(g.L.length:Int)→InsOutT w g row (.returned (.int .i64 15)) w'):=Lib.hid fun w' hb hc hl=>.inr (.inr (.inl ⟨h0,hc,hl,rfl,hb⟩))
 have HA3:Hid (∀ w1 w',Below w.heap.size w w1→clashT g (keysO g.S row) [] false g.xs.length=false→(g.L.length:Int) < g.S.limit→LayOut w1 g.tb g.S g.iv g.rt g.xs row (keysO g.S row) w'→InsOutT w g row (.returned (.int .i64 0)) w'):=Lib.hid fun w1 w' hb hc hl ho=>.inr (.inr (.inr ⟨h0,hc,hl,rfl,w1,hb,ho⟩))
 rw [h0] at hky
 generalize keysO g.S row=ks at *
 obtain ⟨cb,hcb⟩:∃ cb,clashT g ks [] false g.xs.length=cb:=⟨_,rfl⟩
 simp only [hcb] at HCL HA1 HA2 HA3
 simp only [SchV.agg] at hky
 have HKY:=Lib.hid hky
 obtain ⟨c0,c1,c2,c3,c4,c5,c6,c7⟩:=tab_cells hkb
 have hlt:=hkb.lt
 obtain ⟨pr,cr,rfl,_,_⟩:=hr.form
 have hkb0:kb []=⟨#[]⟩:=rfl
 rw [hkb0] at HCL
 unfold ptrV at HCL HLN HLY ⊢
 clear h hs hxl hky hr hf hrl h0 hcb hkl hk0 hnf hd hl1 hkb hR hkb0
 go_enter Tryz.func55,Tryz.ntmps55
 go_wp2_with fail
 refine HKY.out.mono ?_
 clear HKY
 rintro e w1 ⟨out,rfl,ho,hb1⟩
 have HB1:=Lib.hid hb1
 have HO:=Lib.hid ho
 obtain ⟨p3,c3',rfl,_,_⟩:=ho.form
 clear ho hb1
 go_wp2_with fail
 refine (HCL.out _ HB1.out _ HO.out).mono ?_
 clear HCL
 rintro e w2 ⟨rfl,hb2⟩
 have HB2:=Lib.hid (HB1.out.trans (hb2.mono HB1.out.size))
 have HO2:=Lib.hid (HO.out.below hb2)
 clear hb2
 cases cb
 ·go_upto_region 8 with fail
  have d3:w2.drew.cell? ⟨g.tb,3,none⟩=some (.int .i64 g.S.limit):=(HKB.out.below HB2.out).cell 3
  have dlt:g.tb < w2.drew.heap.size:=(HKB.out.below HB2.out).lt
  have hagd:Agree (fun q=>q=g.tb) w2.drew w2.drew:=fun _ _ _=>rfl
  have HLD:=Lib.hid (HLN.out w2.drew HB2.out.drew)
  by_cases hlim:g.S.limit≤(g.L.length:Int)
  ·have hge:decide ((g.L.length:Int) ≥ g.S.limit)=true:=decide_eq_true hlim
   have hge2:decide (g.S.limit≤(g.L.length:Int))=true:=decide_eq_true hlim
   refine wp_region_lit_plan [] [(0,0),(2,0),(3,0),(4,0),(5,0),(6,0),(7,2),(1,3),(8,0),(9,0)] (fun q=>q=g.tb) zyVB zyVB (fun c a d v w h=>zx0I) ?_
   go_wp2_with (first
    | (refine stp ?_)
    | (go_at_call 25;refine HLD.out.mono ?_;clear HLD;rintro e w3 ⟨rfl,rfl⟩))
   go_ret
   exact HA2.out _ HB2.out.drew zPXO hlim
  ·have hge:decide ((g.L.length:Int) ≥ g.S.limit)=false:=decide_eq_false hlim
   have hge2:decide (g.S.limit≤(g.L.length:Int))=false:=decide_eq_false hlim
   refine wp_region_lit_plan [] [(0,0),(2,0),(3,0),(4,0),(5,0),(6,0),(7,2),(1,3),(8,0),(9,0)] (fun q=>q=g.tb) zyVB zyVB (fun c a d v w h=>zx0I) ?_
   go_wp2_with (first
    | (refine stp ?_)
    | (go_at_call 25;refine HLD.out.mono ?_;clear HLD;rintro e w3 ⟨rfl,rfl⟩))
   refine (HLY.out _ HB2.out.drew _ HO2.out.drew).mono ?_
   clear HLY
   rintro e w4 ⟨rfl,hlo⟩
   have HLO:=Lib.hid hlo
   clear hlo
   go_wp2
   go_ret
   exact HA3.out _ _ HB2.out.drew zPXO zTbe HLO.out
 ·go_wp2
  go_ret
  exact HA1.out _ HB2.out zPXO
theorem RowOK.chk {S:SchV} {r:List AV} (h:RowOK S r) (hr:rightS S=true):chkS S 0 r=0:=by
 have h1:=(sch_small hr).2.2.1
 exact chk_ok S 0 r hr zr2F h.fit
def DelOutT (w:World) (g:TabG) (k:Key) (e:Ending) (w':World):Prop :=
 (lookL g k=none∧e=.returned (.int .i64 8)∧Below w.heap.size w w') ∨
 (∃ p,lookL g k=some p∧e=.returned (.int .i64 0)∧∃ w1,Below w.heap.size w w1∧TakeOut w1 g.tb g.S g.iv g.rt g.xs (keysO g.S p.1) w')
theorem tdelete_any (w:World) (R:Nat→Prop) (g:TabG) (h:TabOK w R g) (hs:Sep w g.res) (hR:∀ k∈feet g.res,¬ R k) (k:Key) :
 Calls Tryz.prog 74 #[ptrV g.tb,.string (kb k)] w (DelOutT w g k):=by
 obtain ⟨d,hd⟩:=h.rt
 have hl:=h.lenRt
 have hl2:=h.lim
 have hxl:=rightS_xl h.st.right
 have hn4:=(sch_small h.st.right).2.1
 have hn1:=(sch_small h.st.right).2.2.1
 have hget:=TyV.y1q w g.rt.b g.rt.p d g.rt.flat.length k (TabG.rtS hs) hd rfl zTbe
 have hlk:Afx.look k g.rt.p.t.flat=(lookL g k).map Prod.snd:=by
  exact zAgG
 rw [hlk] at hget
 have hlt:=(TabG.blk hs).lt
 obtain ⟨c0,c1,c2,c3,c4,c5,c6,c7⟩:=tab_cells (TabG.blk hs)
 have HA1:Hid (∀ w',Below w.heap.size w w'→lookL g k=none→DelOutT w g k (.returned (.int .i64 8)) w'):=Lib.hid fun w' hb hc=>.inl ⟨hc,rfl,hb⟩
 have HA2:Hid (∀ p w1 w',lookL g k=some p→Below w.heap.size w w1→TakeOut w1 g.tb g.S g.iv g.rt g.xs (keysO g.S p.1) w'→DelOutT w g k (.returned (.int .i64 0)) w'):=Lib.hid fun p w1 w' hc hb ho=>.inr ⟨p,hc,rfl,w1,hb,ho⟩
 cases hp:lookL g k with
 | none =>
  rw [hp] at hget
  have HG:=Lib.hid hget
  have HP:=Lib.hid hp
  unfold ptrV at HG c6 ⊢
  clear h hs hd hget hlk hp hxl
  go_enter Tryz.func74,Tryz.ntmps74
  go_wp2_with fail
  refine HG.out.mono ?_
  rintro e w2 ⟨rfl,hb2⟩
  have HB2:=Lib.hid hb2
  clear hb2 HG
  go_wp2
  go_ret
  exact HA1.out _ HB2.out HP.out
 | some p =>
  rw [hp] at hget
  have hm:=zfvr
  have hok:=h.ok p hm
  have hck:=hok.chk h.st.right
  have hsl:=h.at_ p hm
  have hrl:p.1.length≤1000:=zmZk
  have HTK:=Lib.hid (fun w2 (hb:Below w.heap.size w w2)=>ttake_any w2 (h.st.mx.below hb) g.tb g.S g.iv g.rt g.xs R R R (hs.below hb) (fun q hq h2=>hR q h2 hq) (h.ix.below hb) h.slots (by rw [h.xl];exact hn4) (by rw [hl];exact hl2) (fun i hi=>by rw [h.lenIt hi];exact hl2) hd (fun i hi=>(h.it i hi).1) (h.st.sch.below hb) p.2 p.1 (hsl.below hb) hok.n64 hrl (fun x hx=>Nat.le_trans (hxl x hx) zTbe) (by rw [keysO_len hck,h.xl]) (by rw [keysO_len hck];omega))
  have HG:=Lib.hid hget
  have HP:=Lib.hid hp
  obtain ⟨pv,cv,hpv,_,_⟩:=hsl.form
  simp only [Option.map_some,Option.getD_some,Option.isSome_some] at HG
  rw [hpv] at HG HTK
  unfold ptrV at HG HTK c6 ⊢
  clear h hs hd hget hlk hp hxl hm hok hck hsl hrl hpv hR
  go_enter Tryz.func74,Tryz.ntmps74
  go_wp2_with fail
  refine HG.out.mono ?_
  rintro e w2 ⟨rfl,hb2⟩
  have HB2:=Lib.hid hb2
  clear hb2 HG
  go_wp2_with fail
  refine (HTK.out _ HB2.out).mono ?_
  clear HTK
  rintro e w3 ⟨rfl,hto⟩
  have HT:=Lib.hid hto
  clear hto
  go_wp2
  go_ret
  exact HA2.out _ _ _ HP.out HB2.out HT.out
theorem lookL_at {g:TabG} {k:Key} {p:List AV × Value} (h:lookL g k=some p):∃ j,∃ hj:j < g.L.length,g.L[j]=p∧kfS g.S 0 p.1=k:=by
 obtain ⟨j,hj,he⟩:=List.getElem_of_mem (List.mem_of_find?_eq_some h)
 refine ⟨j,hj,he,?_⟩
 have:=List.find?_some h
 simpa using this
def UpdOutT (w:World) (R:Nat→Prop) (g:TabG) (k:Key) (row:List AV) (e:Ending) (w':World):Prop :=
 (lookL g k=none∧e=.returned (.int .i64 8)∧Below w.heap.size w w') ∨
 ((lookL g k).isSome=true∧chkS g.S 0 row≠0∧e=.returned (.int .i64 (chkS g.S 0 row))∧Below w.heap.size w w') ∨
 ((lookL g k).isSome=true∧chkS g.S 0 row=0∧clashT g (keysO g.S row) k true g.xs.length=true∧e=.returned (.int .i64 9)∧Below w.heap.size w w') ∨
 (∃ j,∃ hj:j < g.L.length,kfS g.S 0 g.L[j].1=k∧chkS g.S 0 row=0∧clashT g (keysO g.S row) k true g.xs.length=false∧e=.returned (.int .i64 0)∧∃ w1 w2 g1,Below w.heap.size w w1∧TabG.tb g1=g.tb∧TabG.S g1=g.S∧TabG.rows g1=g.rows.eraseIdx j ∧
  Trk w1 (feet g.res) w2 g1.res∧TabOK w2 (grow R w1.heap.size (feet g1.res)) g1∧LayOut w2 g1.tb g1.S g1.iv g1.rt g1.xs row (keysO g.S row) w')
theorem tupd_none (w:World) (R:Nat→Prop) (g:TabG) (h:TabOK w R g) (hs:Sep w g.res) (k:Key) (B:Nat→Prop) (rv:Value) (row:List AV) (hr:Sl w B 3 rv row.length (rowCells row)) (hp:lookL g k=none) :
 Calls Tryz.prog 73 #[ptrV g.tb,.string (kb k),rv] w (UpdOutT w R g k row):=by
 obtain ⟨d,hd⟩:=h.rt
 have hl:=h.lenRt
 have hl2:=h.lim
 have hxl:=rightS_xl h.st.right
 have hn4:=(sch_small h.st.right).2.1
 have hn1:=(sch_small h.st.right).2.2.1
 have hget:=TyV.y1q w g.rt.b g.rt.p d g.rt.flat.length k (TabG.rtS hs) hd rfl zTbe
 have hlk:Afx.look k g.rt.p.t.flat=(lookL g k).map Prod.snd:=by
  exact zAgG
 rw [hlk] at hget
 have hkb:=TabG.blk hs
 have HKB:=Lib.hid hkb
 have hlt:=hkb.lt
 obtain ⟨c0,c1,c2,c3,c4,c5,c6,c7⟩:=tab_cells hkb
 have HA1:Hid (∀ w',Below w.heap.size w w'→UpdOutT w R g k row (.returned (.int .i64 8)) w'):=Lib.hid fun w' hb=>.inl ⟨hp,rfl,hb⟩
 obtain ⟨pr,cr,rfl,_,_⟩:=hr.form
 rw [hp] at hget
 have HG:=Lib.hid hget
 unfold ptrV at HG c6 ⊢
 clear h hs hd hget hlk hp hxl hkb hr
 go_enter Tryz.func73,Tryz.ntmps73
 go_wp2_with fail
 refine HG.out.mono ?_
 rintro e w2 ⟨rfl,hb2⟩
 have HB2:=Lib.hid hb2
 clear hb2 HG
 go_wp2
 go_ret
 exact HA1.out _ HB2.out
theorem tupd_unfit (w:World) (R:Nat→Prop) (g:TabG) (h:TabOK w R g) (hs:Sep w g.res) (k:Key) (B:Nat→Prop) (rv:Value) (row:List AV) (hr:Sl w B 3 rv row.length (rowCells row)) (hf:∀ a∈row,fit64 a.n) (hrl:row.length≤1000) {p:List AV × Value} (hp:lookL g k=some p) (h0:chkS g.S 0 row≠0) :
 Calls Tryz.prog 73 #[ptrV g.tb,.string (kb k),rv] w (UpdOutT w R g k row):=by
 obtain ⟨d,hd⟩:=h.rt
 have hl:=h.lenRt
 have hl2:=h.lim
 have hxl:=rightS_xl h.st.right
 have hn4:=(sch_small h.st.right).2.1
 have hn1:=(sch_small h.st.right).2.2.1
 have hget:=TyV.y1q w g.rt.b g.rt.p d g.rt.flat.length k (TabG.rtS hs) hd rfl zTbe
 have hlk:Afx.look k g.rt.p.t.flat=(lookL g k).map Prod.snd:=by
  exact zAgG
 rw [hlk] at hget
 have hkb:=TabG.blk hs
 have HKB:=Lib.hid hkb
 have hlt:=hkb.lt
 obtain ⟨c0,c1,c2,c3,c4,c5,c6,c7⟩:=tab_cells hkb
 rw [hp] at hget
 have hm:=zfvr
 have hsl:=h.at_ p hm
 have hpl:p.1.length≤1000:=zwZ8
 obtain ⟨pv,cv,hpv,_,_⟩:=hsl.form
 simp only [Option.map_some,Option.getD_some,Option.isSome_some] at hget
 rw [hpv] at hget
 have HG:=Lib.hid hget
 have hky:=fun w2 (hb:Below w.heap.size w w2)=>tkeys_any w2 (h.st.mx.below hb) R B g.S rv row (h.st.sch.below hb) (hr.below hb) hf hrl (fun x hx=>Nat.le_trans (hxl x hx) zTbe)
 simp only [SchV.agg] at hky
 have HA1:Hid (∀ w',Below w.heap.size w w'→UpdOutT w R g k row (.returned (.int .i64 (chkS g.S 0 row))) w'):=Lib.hid fun w' hb=>.inr (.inl ⟨by rw [hp];rfl,h0,rfl,hb⟩)
 have hc0:(chkS g.S 0 row != 0)=true:=bne_iff_ne.2 h0
 generalize keysO g.S row=ks at hky
 obtain ⟨cc,hcc⟩:∃ cc,chkS g.S 0 row=cc:=⟨_,rfl⟩
 simp only [hcc] at hky hc0 HA1
 have HKY:=Lib.hid hky
 obtain ⟨pr,cr,rfl,_,_⟩:=hr.form
 unfold ptrV at HG c6 ⊢
 clear h hs hd hget hlk hp hxl hkb hr hm hsl hpl hpv hky hf hrl hcc h0
 go_enter Tryz.func73,Tryz.ntmps73
 go_wp2_with fail
 refine HG.out.mono ?_
 rintro e w2 ⟨rfl,hb2⟩
 have HB2:=Lib.hid hb2
 obtain ⟨c0,c1,c2,c3,c4,c5,c6,c7⟩:=tab_cells (HKB.out.below hb2)
 have hlt2:=(HKB.out.below hb2).lt
 clear hb2 HG
 go_wp2_with fail
 refine (HKY.out _ HB2.out).mono ?_
 clear HKY
 rintro e w3 ⟨out,rfl,ho,hb3⟩
 have HB3:=Lib.hid (HB2.out.trans (hb3.mono HB2.out.size))
 obtain ⟨p3,c3',rfl,_,_⟩:=ho.form
 clear ho hb3
 go_wp2
 go_ret
 exact HA1.out _ HB3.out
theorem tupd_clash (w:World) (R:Nat→Prop) (g:TabG) (h:TabOK w R g) (hs:Sep w g.res) (k:Key) (B:Nat→Prop) (rv:Value) (row:List AV) (hr:Sl w B 3 rv row.length (rowCells row)) (hf:∀ a∈row,fit64 a.n) (hrl:row.length≤1000) {p:List AV × Value} (hp:lookL g k=some p) (h0:chkS g.S 0 row=0)
 (hcl:clashT g (keysO g.S row) k true g.xs.length=true) :
 Calls Tryz.prog 73 #[ptrV g.tb,.string (kb k),rv] w (UpdOutT w R g k row):=by
 obtain ⟨d,hd⟩:=h.rt
 have hl:=h.lenRt
 have hl2:=h.lim
 have hxl:=rightS_xl h.st.right
 have hn4:=(sch_small h.st.right).2.1
 have hn1:=(sch_small h.st.right).2.2.1
 have hget:=TyV.y1q w g.rt.b g.rt.p d g.rt.flat.length k (TabG.rtS hs) hd rfl zTbe
 have hlk:Afx.look k g.rt.p.t.flat=(lookL g k).map Prod.snd:=by
  exact zAgG
 rw [hlk] at hget
 have hkb:=TabG.blk hs
 have HKB:=Lib.hid hkb
 have hlt:=hkb.lt
 obtain ⟨c0,c1,c2,c3,c4,c5,c6,c7⟩:=tab_cells hkb
 rw [hp] at hget
 have hm:=zfvr
 have hsl:=h.at_ p hm
 have hpl:p.1.length≤1000:=zwZ8
 obtain ⟨pv,cv,hpv,_,_⟩:=hsl.form
 simp only [Option.map_some,Option.getD_some,Option.isSome_some] at hget
 rw [hpv] at hget
 have HG:=Lib.hid hget
 have hky:=fun w2 (hb:Below w.heap.size w w2)=>tkeys_any w2 (h.st.mx.below hb) R B g.S rv row (h.st.sch.below hb) (hr.below hb) hf hrl (fun x hx=>Nat.le_trans (hxl x hx) zTbe)
 simp only [SchV.agg] at hky
 have HA1:Hid (∀ w',Below w.heap.size w w'→UpdOutT w R g k row (.returned (.int .i64 9)) w'):=Lib.hid fun w' hb=>.inr (.inr (.inl ⟨by rw [hp];rfl,h0,hcl,rfl,hb⟩))
 have hkl:=zX0L
 have HCL:=Lib.hid (fun w2 (hb:Below w.heap.size w w2) kv B2 (hk:Sl w2 B2 1 kv (keysO g.S row).length (strC (keysO g.S row)))=>clash_any w2 R B2 g (h.below hb) (hs.below hb) kv (keysO g.S row) hk hkl k true)
 generalize keysO g.S row=ks at *
 simp only [hcl] at HCL
 simp only [h0] at hky
 have HKY:=Lib.hid hky
 obtain ⟨pr,cr,rfl,_,_⟩:=hr.form
 unfold ptrV at HG HCL c6 ⊢
 clear h hs hd hget hlk hp hxl hkb hr hm hsl hpl hpv hky hf hrl h0 hkl hcl
 go_enter Tryz.func73,Tryz.ntmps73
 go_wp2_with fail
 refine HG.out.mono ?_
 rintro e w2 ⟨rfl,hb2⟩
 have HB2:=Lib.hid hb2
 obtain ⟨c0,c1,c2,c3,c4,c5,c6,c7⟩:=tab_cells (HKB.out.below hb2)
 have hlt2:=(HKB.out.below hb2).lt
 clear hb2 HG
 go_wp2_with fail
 refine (HKY.out _ HB2.out).mono ?_
 clear HKY
 rintro e w3 ⟨out,rfl,ho,hb3⟩
 have HB3:=Lib.hid (HB2.out.trans (hb3.mono HB2.out.size))
 have HO:=Lib.hid ho
 obtain ⟨p3,c3',rfl,_,_⟩:=ho.form
 clear ho hb3
 go_wp2_with fail
 refine (HCL.out _ HB3.out _ _ HO.out).mono ?_
 clear HCL
 rintro e w4 ⟨rfl,hb4⟩
 have HB4:=Lib.hid (HB3.out.trans (hb4.mono HB3.out.size))
 clear hb4
 go_wp2
 go_ret
 exact HA1.out _ HB4.out
theorem tupd_ok (w:World) (R:Nat→Prop) (g:TabG) (h:TabOK w R g) (hs:Sep w g.res) (hR:∀ k∈feet g.res,¬ R k) (k:Key) (rv:Value) (row:List AV) (hr:Sl w R 3 rv row.length (rowCells row)) (hf:∀ a∈row,fit64 a.n) (hrl:row.length≤1000) {p:List AV × Value} (hp:lookL g k=some p) (h0:chkS g.S 0 row=0)
 (hcl:clashT g (keysO g.S row) k true g.xs.length=false) :
 Calls Tryz.prog 73 #[ptrV g.tb,.string (kb k),rv] w (UpdOutT w R g k row):=by
 obtain ⟨d,hd⟩:=h.rt
 have hl:=h.lenRt
 have hl2:=h.lim
 have hxl:=rightS_xl h.st.right
 have hn4:=(sch_small h.st.right).2.1
 have hn1:=(sch_small h.st.right).2.2.1
 have hget:=TyV.y1q w g.rt.b g.rt.p d g.rt.flat.length k (TabG.rtS hs) hd rfl zTbe
 have hlk:Afx.look k g.rt.p.t.flat=(lookL g k).map Prod.snd:=by
  exact zAgG
 rw [hlk,hp] at hget
 have hkb:=TabG.blk hs
 have HKB:=Lib.hid hkb
 have hlt:=hkb.lt
 obtain ⟨c0,c1,c2,c3,c4,c5,c6,c7⟩:=tab_cells hkb
 obtain ⟨j,hj,hjp,hjk⟩:=lookL_at hp
 have hm:=zfvr
 have hsl:=h.at_ p hm
 have hok:=h.ok p hm
 have hck:=hok.chk h.st.right
 have hpl:p.1.length≤1000:=zmZk
 obtain ⟨pv,cv,hpv,_,_⟩:=hsl.form
 simp only [Option.map_some,Option.getD_some,Option.isSome_some] at hget
 rw [hpv] at hget
 have HG:=Lib.hid hget
 have hky:=fun w2 (hb:Below w.heap.size w w2)=>tkeys_any w2 (h.st.mx.below hb) R R g.S rv row (h.st.sch.below hb) (hr.below hb) hf hrl (fun x hx=>Nat.le_trans (hxl x hx) zTbe)
 simp only [SchV.agg] at hky
 have HTK:=fun w2 (hb:Below w.heap.size w w2)=>ttake_any w2 (h.st.mx.below hb) g.tb g.S g.iv g.rt g.xs R R R (hs.below hb) (fun q hq h2=>hR q h2 hq) (h.ix.below hb) h.slots (by rw [h.xl];exact hn4) (by rw [hl];exact hl2) (fun i hi=>by rw [h.lenIt hi];exact hl2) hd (fun i hi=>(h.it i hi).1) (h.st.sch.below hb) p.2 p.1 (hsl.below hb) hok.n64 hpl (fun x hx=>Nat.le_trans (hxl x hx) zTbe) (by rw [keysO_len hck,h.xl]) (by rw [keysO_len hck];omega)
 rw [hpv] at HTK
 have HTK:=Lib.hid HTK
 have HTG:=Lib.hid (fun w2 w3 (hb:Below w.heap.size w w2) ho=>TabOK.take (h.below hb) hR hj (ks:=keysO g.S p.1) (w':=w3) (fun i hi=>by rw [keysO_at hck i hi,hjp]) ho)
 have HA1:Hid (∀ w1 w2 g1 w',Below w.heap.size w w1→TabG.tb g1=g.tb→TabG.S g1=g.S→TabG.rows g1=g.rows.eraseIdx j→Trk w1 (feet g.res) w2 g1.res→TabOK w2 (grow R w1.heap.size (feet g1.res)) g1→LayOut w2 g1.tb g1.S g1.iv g1.rt g1.xs row (keysO g.S row) w'→UpdOutT w R g k row (.returned (.int .i64 0)) w') :=
  Lib.hid fun w1 w2 g1 w' hb a1 a2 a3 a4 a5 a6=>.inr (.inr (.inr ⟨j,hj,by rw [hjp];exact hjk,h0,hcl,rfl,w1,w2,g1,hb,a1,a2,a3,a4,a5,a6⟩))
 have hkl:=zX0L
 have hgl0:g.S.idx.length=g.xs.length:=h.xl.symm
 have hks0:0 < (keysO g.S row).length:=by rw [keysO_len h0];omega
 have HCL:=Lib.hid (fun w2 (hb:Below w.heap.size w w2) kv B2 (hk:Sl w2 B2 1 kv (keysO g.S row).length (strC (keysO g.S row)))=>clash_any w2 R B2 g (h.below hb) (hs.below hb) kv (keysO g.S row) hk hkl k true)
 have HR:=Lib.hid hR
 have HS:=Lib.hid hs
 have HRW:=Lib.hid hr
 generalize hksE:keysO g.S row=ks at *
 simp only [hcl] at HCL
 simp only [h0] at hky
 have HKY:=Lib.hid hky
 have HPG:Hid (∀ w3,Below w.heap.size w w3→∀ kv B2,Sl w3 B2 1 kv ks.length (strC ks)→(∀ q,B2 q→w.heap.size≤q)→True):=Lib.hid fun _ _ _ _ _ _=>trivial
 obtain ⟨pr,cr,rfl,_,_⟩:=hr.form
 unfold ptrV at HG HCL HTK c6 ⊢
 have HKL:=Lib.hid hkl
 have HGL:=Lib.hid hgl0
 clear hgl0 hkl hjp hjk h hs hd hget hlk hp hxl hkb hr hm hsl hpl hpv hky hf h0 hcl hR hok hck
 go_enter Tryz.func73,Tryz.ntmps73
 go_wp2_with fail
 refine HG.out.mono ?_
 rintro e w2 ⟨rfl,hb2⟩
 have HB2:=Lib.hid hb2
 obtain ⟨c0,c1,c2,c3,c4,c5,c6,c7⟩:=tab_cells (HKB.out.below hb2)
 have hlt2:=(HKB.out.below hb2).lt
 clear hb2 HG
 go_wp2_with fail
 refine (HKY.out _ HB2.out).mono ?_
 clear HKY
 rintro e w3 ⟨out,rfl,ho,hb3⟩
 have HB3:=Lib.hid (HB2.out.trans (hb3.mono HB2.out.size))
 have HO:=Lib.hid ho
 obtain ⟨p3,c3',rfl,_,_⟩:=ho.form
 clear ho hb3
 go_wp2_with fail
 refine (HCL.out _ HB3.out _ _ HO.out).mono ?_
 clear HCL
 rintro e w4 ⟨rfl,hb4⟩
 have HB4:=Lib.hid (HB3.out.trans (hb4.mono HB3.out.size))
 have HO4:=Lib.hid (HO.out.below hb4)
 clear hb4
 go_wp2_with fail
 refine (HTK.out _ HB4.out).mono ?_
 clear HTK
 rintro e w5 ⟨rfl,hto⟩
 have htk:=HTG.out _ _ HB4.out hto
 obtain ⟨g1,a1,a2,a3,hT,hok1⟩:=htk
 have hs1:Sep w5 g1.res:=hT.sep
 obtain ⟨d1,hd1⟩:=hok1.rt
 have hx1:g1.xs.length≤4:=by rw [hok1.xl];exact (sch_small hok1.st.right).2.1
 have hgrow:∀ q,grow R w4.heap.size (feet g1.res) q→q∉feet g1.res:=fun q hq h2=>by
  rcases hq with ⟨h3,h4⟩|⟨_,h4⟩
  ·rcases hT.foot q h2 with h5|h5
   ·exact HR.out q h5 h4
   ·omega
  ·exact h4 h2
 have hkf:∀ q,w.heap.size≤q→q < w4.heap.size→q∉feet g1.res:=fun q h1 h3 h2=>by
  rcases hT.foot q h2 with h5|h5
  ·have:=HS.out.lt q h5;omega
  ·omega
 have hk5:Sl w5 (fun q=>q∉feet g1.res) 1 (.slice p3 ks.length c3') ks.length (strC ks):=HO4.out.mono hT.only.size (fun q hq hl=>hT.only.block q hl (fun h2=>by
  have h6:=HS.out.lt q h2
  have h7:=HB2.out.size
  have:w2.heap.size≤q:=hq
  omega)) (fun q hq hl=>hkf q (Nat.le_trans HB2.out.size hq) hl)
 have hr5:=Sl.trk (HRW.out.below HB4.out) hT HR.out
 have HLY:=Lib.hid (tlay_any w5 g1.tb g1.S g1.iv g1.rt g1.xs _ (fun q=>q∉feet g1.res) _ hs1 hgrow (fun _ hq=>hq) hok1.ix hok1.slots hx1 (by rw [hok1.lenRt];exact hok1.lim) (fun i hi=>by rw [hok1.lenIt hi];exact hok1.lim) hd1 (fun i hi=>(hok1.it i hi).1) _ row hr5 hrl _ ks hk5 (by rw [HKL.out,hok1.xl,a2,HGL.out]) hks0)
 rw [a1] at HLY
 have HF:=Lib.hid (fun w' ho=>HA1.out w4 w5 g1 w' HB4.out a1 a2 a3 hT hok1 ho)
 rw [a1] at HF
 unfold ptrV at HLY
 clear hto hs1 hd1 hx1 hgrow hkf hk5 hr5 hT hok1 a1 a2 a3
 go_wp2_with fail
 refine HLY.out.mono ?_
 clear HLY
 rintro e w6 ⟨rfl,hlo⟩
 have HL:=Lib.hid hlo
 clear hlo
 go_wp2
 go_ret
 exact HF.out _ HL.out
def RowsSq (w wr:World) (lv:Value) (rws:List RowV):Prop :=
 Own wr 37 1 lv rws.length (rowVals rws)∧(∀ q,lv.ownBlock=some q→w.heap.size≤q)∧Below w.heap.size w wr ∧
  ∀ r∈rws,Sl wr (fun q=>w.heap.size≤q∧lv.ownBlock≠some q) 3 r.v r.l.length (rowCells r.l)
theorem RowsSq.nil (w:World) {wr:World} (hb:Below w.heap.size w wr):RowsSq w wr (.slice none 0 0) []:=⟨Own.nil _ _ _,zfJ3,hb,zPXO⟩
theorem RowsSq.at {w wr:World} {lv:Value} {rws:List RowV} (h:RowsSq w wr lv rws):RowsAt wr (fun q=>w.heap.size≤q) lv rws :=
 ⟨h.1.sl h.2.1,fun r hr=>(h.2.2.2 r hr).mono (Nat.le_refl _) (fun _ _ _=>rfl) (fun q hq _=>hq.1)⟩
theorem RowsSq.app {w wr w1 w3:World} {lv v3 v1:Value} {rws:List RowV} {rl:List AV} {t:TypeId} (h:RowsSq w wr lv rws) (hb1:Below wr.heap.size wr w1) (h1:Own w1 113 3 v1 rl.length (rowCells rl)) (hf1:∀ q,v1.ownBlock=some q→wr.heap.size≤q)
 (g1:Own w3 37 1 v3 (rws.length+1) (rowVals rws++[v1])) (g2:Only (fun k=>lv.ownBlock=some k) (w1.alloc (.cells #[v1] t)) w3) (g3:v3.ownBlock=lv.ownBlock∨v3.ownBlock=some (w1.alloc (.cells #[v1] t)).heap.size) :
 RowsSq w w3 v3 (rws++[⟨v1,rl⟩]):=by
 obtain ⟨ho,hn,hb,hi⟩:=h
 have hal:Below w1.heap.size w1 (w1.alloc (.cells #[v1] t)):=(Below.refl _ _).alloc (Nat.le_refl _) _
 have hz1:=hb1.size
 have hz2:=hal.size
 have hz0:=hb.size
 have hlo:=ho.lt
 refine ⟨by rw [List.length_append,rowVals_append];exact g1,fun q hq=>?_,?_,fun r hr=>?_⟩
 ·rcases g3 with h|h
  ·rw [h] at hq;exact hn q hq
  ·rw [h] at hq
   have:(w1.alloc (.cells #[v1] t)).heap.size=q:=Option.some.inj hq
   omega
 ·exact ((hb.trans (hb1.mono hz0)).trans (hal.mono zTbe)).trans (g2.below zTbe (fun q hq=>hn q hq))
 ·rcases List.mem_append.1 hr with h|h
  ·refine (hi r h).mono (by have:=g2.size;omega) (fun q hq hl=>?_) (fun q hq hl=>⟨hq.1,fun h7=>?_⟩)
   ·rw [g2.block q zTbe hq.2,hal.block q zTbe,hb1.block q hl]
   ·rcases g3 with h|h
    ·rw [h] at h7;exact hq.2 h7
    ·rw [h] at h7
     have:(w1.alloc (.cells #[v1] t)).heap.size=q:=Option.some.inj h7
     omega
  ·rw [List.mem_singleton.1 h]
   refine (h1.sl (B:=fun q=>wr.heap.size≤q) hf1).mono (by have:=g2.size;omega) (fun q hq hl=>?_) (fun q hq hl=>⟨zTbe,fun h7=>?_⟩)
   ·rw [g2.block q zTbe (fun h=>by have:=hlo q h;omega),hal.block q hl]
   ·rcases g3 with h|h
    ·rw [h] at h7;have:=hlo q h7;omega
    ·rw [h] at h7
     have:(w1.alloc (.cells #[v1] t)).heap.size=q:=Option.some.inj h7
     omega
theorem elemRowsT:Elem Tryz.prog 32 37 1 24 (.slice none 0 0) :=
 ⟨Tryz.underlying32,zyVB,rfl,zTbe,zOaE⟩
def fromTo (S:SchV) (i:Nat) (fr tu:Key) (r:List AV):Bool:=!Op.bytesLess (kfS S i r) fr && (tu.isEmpty || Op.bytesLess (kfS S i r) tu)
def scanR (g:TabG) (i:Nat) (fr tu:Key) (most:Int):List (List AV):=((byM (kfS g.S) i g.rows).filter (fromTo g.S i fr tu)).take most.toNat
theorem keys_scan {w:World} {R:Nat→Prop} {g:TabG} (h:TabOK w R g) {i:Nat} (hi:i < g.xs.length) (fr tu:Key) (most:Int):(keysFrom fr tu g.xs[i].2.flat).take most.toNat=(scanR g i fr tu most).map (kfS g.S i):=by
 rw [(h.it i hi).2]
 unfold keysFrom idxEnts scanR
 rw [List.filter_map,List.map_map,←List.map_take]
 rfl
theorem find_uniq {α:Type} {β:Type} [BEq β] [LawfulBEq β] (f:α→β):∀ {l:List α},l.Pairwise (fun a b=>f a≠f b)→∀ r∈l,l.find? (fun x=>f x == f r)=some r
 | [],_,r,hr=>absurd hr zPXO
 | x::t,hp,r,hr=>by
  obtain ⟨h1,h2⟩:=List.pairwise_cons.1 hp
  rw [List.find?_cons]
  rcases List.mem_cons.1 hr with rfl|hr
  ·simp
  ·rw [show (f x == f r)=false from beq_eq_false_iff_ne.2 (h1 r hr)]
   exact find_uniq f h2 r hr
theorem scan_mem {g:TabG} {i:Nat} (hp:g.rows.Pairwise fun a b=>kfS g.S i a≠kfS g.S i b) {fr tu:Key} {most:Int} {r:List AV} (hr:r∈scanR g i fr tu most):r∈g.rows :=
 ((byM_spec (kfS g.S) i g.rows hp).2 r).1 (List.mem_filter.1 (List.mem_of_mem_take hr)).1
theorem look_scan {w:World} {R:Nat→Prop} {g:TabG} (h:TabOK w R g) {i:Nat} (hi:i < g.xs.length) {r:List AV} (hr:r∈g.rows):Afx.look (kfS g.S i r) g.xs[i].2.flat=some (.string (kb (kfS g.S 0 r))):=by
 rw [look_it h hi]
 unfold findI
 have hx:i < g.S.idx.length:=zONN
 rw [find_uniq (kfS g.S i) (h.tab.uniq i hx) r hr]
 rfl
theorem rowOf_key {w:World} {R:Nat→Prop} {g:TabG} (h:TabOK w R g) {r:List AV} (hr:r∈g.rows):rowOf g (kfS g.S 0 r)=r:=by
 have hn:=zP42
 have h1:g.rows.find? (fun x=>kfS g.S 0 x == kfS g.S 0 r)=some r:=find_uniq (kfS g.S 0) (h.tab.uniq 0 hn) r hr
 unfold rowOf lookL
 unfold TabG.rows at h1
 rw [List.find?_map] at h1
 have e:((fun x=>kfS g.S 0 x == kfS g.S 0 r) ∘ Prod.fst:List AV × Value→Bool)=fun p=>kfS g.S 0 p.1 == kfS g.S 0 r:=rfl
 rw [e] at h1
 rw [h1];rfl
theorem cmpL_zero {x y:List UInt8} (h:x=y):cmpL x y=0:=by
 have h1:=cmpL_eq x y
 rw [beq_iff_eq] at h1
 have h2:(x == y)=true:=beq_iff_eq.2 h
 rw [h2] at h1
 exact of_decide_eq_true h1.symm
theorem eq_cmpL {x y:List UInt8} (h:cmpL x y=0):x=y:=by
 have h1:=cmpL_eq x y
 rw [beq_iff_eq,decide_eq_true h] at h1
 exact beq_iff_eq.1 h1
theorem rightS_first {S:SchV} (h:rightS S=true):firstU S.idx=true:=by
 rw [rightS_front] at h
 simp only [Bool.and_eq_true] at h
 have h2:=(frontS_iff _).1 h.1.1
 unfold FrontP at h2
 exact h2.2.2.2.2.2.2.2.2.2.2.2
theorem RowOK.len {S:SchV} {r:List AV} (h:RowOK S r):r.length=S.cols.length:=(fitB_len h.fit).1
theorem kfS_cmp {S:SchV} (hr:rightS S=true) {a b:List AV} (ha:RowOK S a) (hb:RowOK S b) {i:Nat} (hi:i < S.idx.length):cmpL (kfS S i a) (kfS S i b)=wayS S.idx a b S.idx[i]:=by
 rw [kfS_at hi,kfS_at hi]
 have ia:=rightS_in hr a ha.len
 have ib:=rightS_in hr b hb.len
 have hm:S.idx[i]∈S.idx:=List.getElem_mem hi
 have hd:S.idx.headD S.idx[i]∈S.idx:=by
  generalize S.idx[i]=y at hm ⊢
  revert hm
  cases S.idx with
  | nil=>intro hm;exact hm
  | cons x t=>intro _;simp
 exact stands_plain (fitB_len ha.fit).2 (fitB_len hb.fit).2 ha.n64 hb.n64 (ia _ hm) (ib _ hm) (ia _ hd) (ib _ hd)
theorem headD_zero {α:Type}:∀ {l:List α} (h:0 < l.length) (y:α),l.headD y=l[0]
 | x::t,_,_=>rfl
theorem kfS_non {S:SchV} (hr:rightS S=true) {a b:List AV} (ha:RowOK S a) (hb:RowOK S b) {i:Nat} (hi:i < S.idx.length) (hu:S.idx[i].unique=false) (h:kfS S i a=kfS S i b):kfS S 0 a=kfS S 0 b:=by
 have h0:0 < S.idx.length:=zTbe
 have h1:=kfS_cmp hr ha hb hi
 rw [cmpL_zero h] at h1
 have h2:=kfS_cmp hr ha hb h0
 have e1:S.idx.headD S.idx[i]=S.idx[0]:=headD_zero h0 _
 have e2:S.idx.headD S.idx[0]=S.idx[0]:=headD_zero h0 _
 unfold wayS at h1 h2
 rw [e1] at h1
 rw [e2] at h2
 simp only [hu,and_true] at h1
 apply eq_cmpL
 rw [h2]
 by_cases hc:cmpR (pickR a S.idx[i].l) (pickR b S.idx[i].l)=0
 ·rw [if_pos hc] at h1
  rw [←h1]
  split<;>rfl
 ·rw [if_neg hc] at h1
  exact absurd h1.symm hc
def unS (S:SchV) (i:Nat):Bool:=match S.idx[i]? with
 | some x=>x.unique
 | none=>false
theorem unS_at {S:SchV} {i:Nat} (h:i < S.idx.length):unS S i=S.idx[i].unique:=by unfold unS;rw [List.getElem?_eq_getElem h]
theorem unS_zero {S:SchV} (h:rightS S=true):unS S 0=true:=by
 have h1:=rightS_first h
 unfold firstU at h1
 unfold unS
 revert h1
 cases S.idx with
 | nil=>intro h1;simp at h1
 | cons x t=>intro h1;simpa using h1
def clashS (S:SchV) (m:List (List AV)) (row:List AV) (but:Int):Bool:=clashM (kfS S) (unS S) S.idx.length m row but
theorem clashS_iff (S:SchV) (m:List (List AV)) (row:List AV) (but:Int) :
 clashS S m row but=true↔∃ i,∃ h:i < m.length,(i:Int)≠but∧∃ k,k < S.idx.length∧unS S k=true∧kfS S k row=kfS S k m[i]:=by
 unfold clashS clashM
 rw [clashGo_iff]
 constructor
 ·rintro ⟨i,hi,h1,h2⟩
  unfold clashAt at h2
  rw [List.any_eq_true] at h2
  obtain ⟨k,hk,h3⟩:=h2
  rw [Bool.and_eq_true,beq_iff_eq] at h3
  exact ⟨i,hi,zVKw,k,List.mem_range.1 hk,h3.1,h3.2⟩
 ·rintro ⟨i,hi,h1,k,hk,h2,h3⟩
  refine ⟨i,hi,zVKw,?_⟩
  unfold clashAt
  rw [List.any_eq_true]
  exact ⟨k,List.mem_range.2 hk,by rw [h2,h3];simp⟩
theorem clashS_no {S:SchV} (hr:rightS S=true) {m:List (List AV)} {row:List AV} {but:Int} (hm:∀ r∈m,RowOK S r) (hrow:RowOK S row) (h:clashS S m row but=false) :
 ∀ k,k < S.idx.length→∀ i,∀ hi:i < m.length,(i:Int)≠but→kfS S k m[i]≠kfS S k row:=by
 intro k hk i hi hne he
 have hno:∀ k,k < S.idx.length→unS S k=true→kfS S k row≠kfS S k m[i]:=fun k hk hu he=>by
  have:=(clashS_iff S m row but).2 ⟨i,hi,hne,k,hk,hu,he⟩
  rw [h] at this;cases this
 have h0:0 < S.idx.length:=zTbe
 cases hu:unS S k with
 | true=>exact hno k hk hu he.symm
 | false =>
  rw [unS_at hk] at hu
  exact hno 0 h0 (unS_zero hr) (kfS_non hr hrow (hm _ (List.getElem_mem hi)) hk hu he.symm)
theorem ixs_unique {w:World} {R:Nat→Prop} {g:TabG} (h:TabOK w R g) {i:Nat} (hi:i < g.xs.length):g.xs[i].1.unique=unS g.S i:=by
 have h1:i < g.S.idx.length:=zONN
 have h2:(g.xs.map Prod.fst)[i]?=g.S.idx[i]?:=by rw [h.ixs]
 rw [List.getElem?_map,List.getElem?_eq_getElem hi,List.getElem?_eq_getElem h1] at h2
 rw [unS_at h1,←Option.some.inj h2]
theorem kb_list (x:Key):(kb x).toList=x:=by
 unfold kb
 simp
theorem clashT_iff {w:World} {R:Nat→Prop} {g:TabG} (h:TabOK w R g) {row:List AV} (h0:chkS g.S 0 row=0) (own:Key) (hs:Bool) :
 clashT g (keysO g.S row) own hs g.xs.length=true↔∃ i,i < g.S.idx.length∧unS g.S i=true∧∃ r,findI g i (kfS g.S i row)=some r∧¬ (hs=true∧kfS g.S 0 r=own):=by
 have hxl:=h.xl
 have hkl:=keysO_len h0
 have hlk:∀ i,∀ hi:i < g.xs.length,∀ hk:i < (keysO g.S row).length,(keysO g.S row)[i]=kfS g.S i row:=fun i hi hk=>by
  rw [←keysO_at h0 i zTbe,List.getD_eq_getElem?_getD,List.getElem?_eq_getElem hk];rfl
 unfold clashT
 rw [List.any_eq_true]
 constructor
 ·rintro ⟨i,hi,h1⟩
  have hi:=List.mem_range.1 hi
  have hk:i < (keysO g.S row).length:=zTbe
  rw [List.getElem?_eq_getElem hi,List.getElem?_eq_getElem hk] at h1
  simp only [hlk i hi hk] at h1
  unfold clT at h1
  rw [Bool.and_eq_true,ixs_unique h hi] at h1
  refine ⟨i,zTbe,h1.1,?_⟩
  have h2:=h1.2
  revert h2
  cases findI g i (kfS g.S i row) with
  | none=>intro h2;cases h2
  | some r =>
   intro h2
   refine ⟨r,rfl,fun h3=>?_⟩
   simp [h3.1,h3.2] at h2
 ·rintro ⟨i,hi,h1,r,h2,h3⟩
  have hi2:i < g.xs.length:=zTbe
  have hk:i < (keysO g.S row).length:=zTbe
  refine ⟨i,List.mem_range.2 hi2,?_⟩
  rw [List.getElem?_eq_getElem hi2,List.getElem?_eq_getElem hk]
  simp only [hlk i hi2 hk]
  unfold clT
  rw [ixs_unique h hi2,h1,h2]
  simp only [Bool.true_and,Bool.not_eq_true',Bool.and_eq_false_iff]
  cases hs with
  | false=>exact .inl rfl
  | true =>
   refine .inr (beq_eq_false_iff_ne.2 fun h4=>h3 ⟨rfl,?_⟩)
   rw [kb_list,kb_list] at h4
   exact h4
theorem findI_some {w:World} {R:Nat→Prop} {g:TabG} (h:TabOK w R g) {i:Nat} (hi:i < g.S.idx.length) (k:Key) (r:List AV):findI g i k=some r↔r∈g.rows∧kfS g.S i r=k:=by
 constructor
 ·intro h1
  exact ⟨List.mem_of_find?_eq_some h1,by have:=List.find?_some h1;simpa using this⟩
 ·rintro ⟨h1,rfl⟩
  exact find_uniq (kfS g.S i) (h.tab.uniq i hi) r h1
theorem pair_at {α:Type} {β:Type} (f:α→β) {l:List α} (h:l.Pairwise fun a b=>f a≠f b) {i j:Nat} (hi:i < l.length) (hj:j < l.length) (he:f l[i]=f l[j]):i=j:=by
 rw [List.pairwise_iff_getElem] at h
 rcases Nat.lt_trichotomy i j with h1|h1|h1
 ·exact absurd he (h i j hi hj h1)
 ·exact h1
 ·exact absurd he.symm (h j i hj hi h1)
theorem clash_one {w:World} {R:Nat→Prop} {g:TabG} (h:TabOK w R g) {row:List AV} (h0:chkS g.S 0 row=0):clashT g (keysO g.S row) [] false g.xs.length=clashS g.S g.rows row (-1):=by
 rw [Bool.eq_iff_iff,clashT_iff h h0,clashS_iff]
 constructor
 ·rintro ⟨i,hi,hu,r,hf,_⟩
  obtain ⟨h1,h2⟩:=(findI_some h hi _ _).1 hf
  obtain ⟨p,hp,rfl⟩:=List.mem_iff_getElem.1 h1
  exact ⟨p,hp,zTbe,i,hi,hu,h2.symm⟩
 ·rintro ⟨p,hp,_,i,hi,hu,h2⟩
  exact ⟨i,hi,hu,g.rows[p],(findI_some h hi _ _).2 ⟨List.getElem_mem hp,h2.symm⟩,zPXO⟩
theorem clash_but {w:World} {R:Nat→Prop} {g:TabG} (h:TabOK w R g) {row:List AV} (h0:chkS g.S 0 row=0) {j:Nat} (hj:j < g.rows.length):clashT g (keysO g.S row) (kfS g.S 0 g.rows[j]) true g.xs.length=clashS g.S g.rows row j:=by
 have hn:=zP42
 rw [Bool.eq_iff_iff,clashT_iff h h0,clashS_iff]
 constructor
 ·rintro ⟨i,hi,hu,r,hf,hne⟩
  obtain ⟨h1,h2⟩:=(findI_some h hi _ _).1 hf
  obtain ⟨p,hp,rfl⟩:=List.mem_iff_getElem.1 h1
  refine ⟨p,hp,fun he=>hne ⟨rfl,?_⟩,i,hi,hu,h2.symm⟩
  have he:p=j:=zTbe
  subst he;rfl
 ·rintro ⟨p,hp,hne,i,hi,hu,h2⟩
  refine ⟨i,hi,hu,g.rows[p],(findI_some h hi _ _).2 ⟨List.getElem_mem hp,h2.symm⟩,fun he=>hne ?_⟩
  rw [pair_at (kfS g.S 0) (h.tab.uniq 0 hn) hp hj he.2]
def insMd (S:SchV) (m:List (List AV)) (row:List AV):List (List AV) × Int :=
 if fitB S.cols row=false then (m,13) else if clashS S m row (-1)=true then (m,9) else if S.limit≤(m.length:Int) then (m,15) else (insM (kfS S) row m,0)
def updMd (S:SchV) (m:List (List AV)) (k:Key) (row:List AV):List (List AV) × Int :=
 if findM (kfS S) k m 0 < 0 then (m,8) else if fitB S.cols row=false then (m,13) else if clashS S m row (findM (kfS S) k m 0)=true then (m,9) else (withM (kfS S) m row (findM (kfS S) k m 0) true,0)
def delMd (S:SchV) (m:List (List AV)) (k:Key):List (List AV) × Int :=
 if findM (kfS S) k m 0 < 0 then (m,8) else (withM (kfS S) m [] (findM (kfS S) k m 0) false,0)
def loadGo (S:SchV):List (List AV)→List (List AV)→List (List AV) × Int
 | out,[]=>(out,0)
 | out,r::t=>if (insMd S out r).2≠0 then ([],(insMd S out r).2) else loadGo S (insMd S out r).1 t
def loadMd (S:SchV) (rows:List (List AV)):List (List AV) × Int:=loadGo S [] rows
theorem chk_zero {S:SchV} (hr:rightS S=true) (row:List AV):(fitB S.cols row=true→chkS S 0 row=0)∧(fitB S.cols row=false→chkS S 0 row=13):=by
 have h1:=(sch_small hr).2.2.1
 exact ⟨fun h=>chk_ok S 0 row hr zr2F h,fun h=>chk_unfit S 0 row hr zr2F h⟩
theorem lookL_find {g:TabG} (k:Key):(lookL g k=none∧findM (kfS g.S) k g.rows 0=-1)∨∃ j,∃ hj:j < g.rows.length,findM (kfS g.S) k g.rows 0=(j:Int)∧kfS g.S 0 g.rows[j]=k:=by
 rcases findM_spec (kfS g.S) k g.rows 0 with ⟨h1,h2⟩|⟨i,hi,h1,h2⟩
 ·refine .inl ⟨?_,h1⟩
  unfold lookL
  rw [List.find?_eq_none]
  intro p hp h3
  exact h2 p.1 (List.mem_map_of_mem hp) (by simpa using h3)
 ·exact .inr ⟨i,hi,by rw [h1];simp,h2⟩
theorem grow_dis {w w':World} {R:Nat→Prop} {F:List Nat} {rs:List Res} (hT:Trk w F w' rs) (hd:∀ k∈F,¬ R k):∀ k∈feet rs,¬ grow R w.heap.size (feet rs) k:=by
 rintro k hk (⟨h1,h2⟩|⟨_,h2⟩)
 ·rcases hT.foot k hk with h3|h3
  ·exact hd k h3 h2
  ·omega
 ·exact h2 hk
theorem grow_pre {w1 w':World} {R:Nat→Prop} {F:List Nat} {rs:List Res} {n:Nat} (hT:Trk w1 F w' rs) (hd:∀ k∈F,¬ R k) (hn:n≤w1.heap.size):∀ k,grow R w1.heap.size (feet rs) k→grow R n (feet rs) k:=by
 rintro k (⟨h1,h2⟩|⟨h1,h2⟩)
 ·by_cases hk:k < n
  ·exact .inl ⟨hk,h2⟩
  ·refine .inr ⟨zTbe,fun h3=>?_⟩
   rcases hT.foot k h3 with h4|h4
   ·exact hd k h4 h2
   ·omega
 ·exact .inr ⟨zTbe,h2⟩
theorem grow_two {w1 w2 w':World} {R:Nat→Prop} {F:List Nat} {rs1 rs2:List Res} {n:Nat} (hT1:Trk w1 F w2 rs1) (hT2:Trk w2 (feet rs1) w' rs2) (hd:∀ k∈F,¬ R k) (hn:n≤w1.heap.size) :
 ∀ k,grow (grow R w1.heap.size (feet rs1)) w2.heap.size (feet rs2) k→grow R n (feet rs2) k:=by
 have hs:=hT1.only.size
 have hf:∀ k,k∈feet rs2→k∈F∨w1.heap.size≤k:=fun k hk=>by
  rcases hT2.foot k hk with h|h
  ·exact hT1.foot k h
  ·exact .inr zTbe
 rintro k (⟨h1,h2|h2⟩|⟨h1,h2⟩)
 ·by_cases hk:k < n
  ·exact .inl ⟨hk,h2.2⟩
  ·refine .inr ⟨zTbe,fun h3=>?_⟩
   rcases hf k h3 with h4|h4
   ·exact hd k h4 h2.2
   ·omega
 ·refine .inr ⟨zTbe,fun h3=>?_⟩
  rcases hT2.foot k h3 with h4|h4
  ·exact h2.2 h4
  ·omega
 ·exact .inr ⟨zTbe,h2⟩
theorem TabOK.wide {w:World} {R R':Nat→Prop} {g:TabG} (h:TabOK w R g) (hR:∀ k,R k→R' k):TabOK w R' g:=h.to (Nat.le_refl _) (fun _ _ _=>rfl) (fun k hk _=>hR k hk)
structure TabW (w:World) (R:Nat→Prop) (g:TabG):Prop where
 ok:TabOK w R g
 sep:Sep w g.res
 dis:∀ k∈feet g.res,¬ R k
theorem TabW.below {w w':World} {R:Nat→Prop} {g:TabG} (h:TabW w R g) (hb:Below w.heap.size w w'):TabW w' R g:=⟨h.ok.below hb,h.sep.below hb,h.dis⟩
structure StepT (w w':World) (R:Nat→Prop) (g g':TabG):Prop where
 tab:TabW w' (grow R w.heap.size (feet g'.res)) g'
 trk:Trk w (feet g.res) w' g'.res
 tb:g'.tb=g.tb
 sch:g'.S=g.S
theorem StepT.same {w w':World} {R:Nat→Prop} {g:TabG} (h:TabW w R g) (hb:Below w.heap.size w w'):StepT w w' R g g:=by
 have hT:=Trk.of_below h.sep hb
 exact ⟨⟨h.ok.trk hT h.dis,hT.sep,grow_dis hT h.dis⟩,hT,rfl,rfl⟩
theorem Trk.after {w0 w w':World} {F:List Nat} {rs rs':List Res} (h:Trk w0 F w rs) (hc:Trk w (feet rs) w' rs'):Trk w0 F w' rs':=by
 have h1:Trk w0 F w (rs++[]):=by rw [List.append_nil];exact h
 have h2:=h1.call hc
 rw [List.append_nil] at h2
 exact h2
theorem TabG.rows_len (g:TabG):g.rows.length=g.L.length:=by unfold TabG.rows;rw [List.length_map]
theorem TabW.rowsOK {w:World} {R:Nat→Prop} {g:TabG} (h:TabW w R g):∀ r∈g.rows,RowOK g.S r:=fun r hr=>by
 obtain ⟨p,hp,rfl⟩:=List.mem_map.1 hr
 exact h.ok.ok p hp
theorem TabW.lay {w w1 w':World} {R:Nat→Prop} {g:TabG} (h:TabW w R g) (hb:Below w.heap.size w w1) {row:List AV} (hok:RowOK g.S row) (h0:chkS g.S 0 row=0) (hcl:clashS g.S g.rows row (-1)=false) (hl:(g.L.length:Int) < g.S.limit)
 (ho:LayOut w1 g.tb g.S g.iv g.rt g.xs row (keysO g.S row) w'):∃ g',StepT w w' R g g'∧g'.rows=insM (kfS g.S) row g.rows:=by
 have hri:=h.ok.st.right
 have hlim:=(sch_small hri).2.2.2
 have h1:=h.below hb
 obtain ⟨g',e1,e2,e3,hT,hok'⟩:=h1.ok.lay h.dis hok (keysO_at h0) (fun i hi r hr=>by
  obtain ⟨p,hp,rfl⟩:=List.mem_iff_getElem.1 hr
  exact clashS_no hri h.rowsOK hok hcl i hi p hp zTbe) zTbe ho
 refine ⟨g',⟨⟨hok'.wide (grow_pre hT h.dis hb.size),hT.sep,?_⟩,Trk.pre hb hT,e1,e2⟩,e3⟩
 exact grow_dis (Trk.pre hb hT) h.dis
theorem tins_md (w:World) (R:Nat→Prop) (g:TabG) (h:TabW w R g) (B:Nat→Prop) (rv:Value) (row:List AV) (hr:Sl w B 3 rv row.length (rowCells row)) (hf:∀ a∈row,fit64 a.n) (hrl:row.length≤1000) :
 Calls Tryz.prog 55 #[ptrV g.tb,rv] w fun e w'=>e=.returned (.int .i64 (insMd g.S g.rows row).2)∧∃ g',StepT w w' R g g'∧g'.rows=(insMd g.S g.rows row).1:=by
 have hri:=h.ok.st.right
 have hz:=chk_zero hri row
 unfold insMd
 cases hft:fitB g.S.cols row with
 | false =>
  have h0:=hz.2 hft
  refine (tins_no w R g h.ok h.sep B rv row hr hf hrl (by rw [h0];omega)).mono ?_
  rintro e w' (⟨_,rfl,hb⟩|⟨h1,_⟩|⟨h1,_⟩|⟨h1,_⟩)
  ·rw [if_pos rfl,h0]
   exact zkd2
  all_goals (rw [h0] at h1;omega)
 | true =>
  have h0:=hz.1 hft
  have hok:RowOK g.S row:=⟨hft,hf⟩
  rw [if_neg zPXO]
  refine (tins_fit w R g h.ok h.sep h.dis B rv row hr hf hrl h0).mono ?_
  rintro e w' (⟨h1,_⟩|⟨_,h1,rfl,hb⟩|⟨_,h1,h2,rfl,hb⟩|⟨_,h1,h2,rfl,w1,hb,ho⟩)
  ·exact absurd h0 h1
  all_goals rw [clash_one h.ok h0] at h1
  ·rw [if_pos h1]
   exact zkd2
  ·rw [if_neg (by rw [h1];simp),if_pos (by rw [g.rows_len];exact h2)]
   exact zkd2
  ·rw [if_neg (by rw [h1];simp),if_neg (by rw [g.rows_len];omega)]
   exact ⟨rfl,h.lay hb hok h0 h1 h2 ho⟩
theorem lookL_none {g:TabG} {k:Key} (h:lookL g k=none):findM (kfS g.S) k g.rows 0=-1:=by
 rcases lookL_find (g:=g) k with ⟨_,h1⟩|⟨j,hj,_,h1⟩
 ·exact h1
 ·exfalso
  unfold lookL at h
  rw [List.find?_eq_none] at h
  have hj2:j < g.L.length:=by rw [←g.rows_len];exact hj
  have e:=z1zT
  rw [e] at h1
  have:=h g.L[j] (List.getElem_mem hj2)
  simp [h1] at this
theorem find_row {w:World} {R:Nat→Prop} {g:TabG} (h:TabOK w R g) {k:Key} {j:Nat} (hj:j < g.L.length) (hk:kfS g.S 0 g.L[j].1=k):findM (kfS g.S) k g.rows 0=(j:Int):=by
 have hn:=zP42
 have hj2:j < g.rows.length:=by rw [g.rows_len];exact hj
 have e:=z1zT
 rcases findM_spec (kfS g.S) k g.rows 0 with ⟨_,h2⟩|⟨i,hi,h1,h2⟩
 ·exact absurd (by rw [e];exact hk) (h2 g.rows[j] (List.getElem_mem hj2))
 ·have:i=j:=pair_at (kfS g.S 0) (h.tab.uniq 0 hn) hi hj2 (by rw [h2,e,hk])
  rw [h1,this];simp
theorem tdel_md (w:World) (R:Nat→Prop) (g:TabG) (h:TabW w R g) (k:Key) :
 Calls Tryz.prog 74 #[ptrV g.tb,.string (kb k)] w fun e w'=>e=.returned (.int .i64 (delMd g.S g.rows k).2)∧∃ g',StepT w w' R g g'∧g'.rows=(delMd g.S g.rows k).1:=by
 refine (tdelete_any w R g h.ok h.sep h.dis k).mono ?_
 rintro e w' (⟨h1,rfl,hb⟩|⟨p,h1,rfl,w1,hb,ho⟩)
 ·unfold delMd
  rw [lookL_none h1,if_pos zTbe]
  exact zkd2
 ·obtain ⟨j,hj,rfl,hk⟩:=lookL_at h1
  have hfind:=find_row h.ok hj hk
  unfold delMd
  rw [hfind,if_neg zTbe]
  have hri:=h.ok.st.right
  have h0:=(h.ok.ok _ (List.getElem_mem hj)).chk hri
  have hb1:=h.below hb
  obtain ⟨g',e1,e2,e3,hT,hok'⟩:=hb1.ok.take h.dis hj (keysO_at h0) ho
  refine ⟨rfl,g',⟨⟨hok'.wide (grow_pre hT h.dis hb.size),hT.sep,grow_dis (Trk.pre hb hT) h.dis⟩,Trk.pre hb hT,e1,e2⟩,?_⟩
  rw [e3]
  unfold withM
  simp only [Bool.false_eq_true,if_false]
  rw [skipM_idx]
theorem tupd_md (w:World) (R:Nat→Prop) (g:TabG) (h:TabW w R g) (k:Key) (rv:Value) (row:List AV) (hr:Sl w R 3 rv row.length (rowCells row)) (hf:∀ a∈row,fit64 a.n) (hrl:row.length≤1000) :
 Calls Tryz.prog 73 #[ptrV g.tb,.string (kb k),rv] w fun e w'=>e=.returned (.int .i64 (updMd g.S g.rows k row).2)∧∃ g',StepT w w' R g g'∧g'.rows=(updMd g.S g.rows k row).1:=by
 have hri:=h.ok.st.right
 have hz:=chk_zero hri row
 have hcs:Calls Tryz.prog 73 #[ptrV g.tb,.string (kb k),rv] w (UpdOutT w R g k row):=by
  cases hp:lookL g k with
  | none=>exact tupd_none w R g h.ok h.sep k R rv row hr hp
  | some p =>
   cases hft:fitB g.S.cols row with
   | false=>exact tupd_unfit w R g h.ok h.sep k R rv row hr hf hrl hp (by rw [hz.2 hft];omega)
   | true =>
    have h0:=hz.1 hft
    cases hcl:clashT g (keysO g.S row) k true g.xs.length with
    | true=>exact tupd_clash w R g h.ok h.sep k R rv row hr hf hrl hp h0 hcl
    | false=>exact tupd_ok w R g h.ok h.sep h.dis k rv row hr hf hrl hp h0 hcl
 refine hcs.mono ?_
 unfold updMd
 rintro e w' (⟨h1,rfl,hb⟩|⟨h1,h2,rfl,hb⟩|⟨h1,h2,h3,rfl,hb⟩|⟨j,hj,hk,h0,h3,rfl,w1,w2,g1,hb,e1,e2,e3,hT1,hok1,ho⟩)
 ·rw [lookL_none h1,if_pos zTbe]
  exact zkd2
 ·obtain ⟨p,hp⟩:=Option.isSome_iff_exists.1 h1
  obtain ⟨j,hj,rfl,hk⟩:=lookL_at hp
  rw [find_row h.ok hj hk,if_neg zTbe]
  cases hft:fitB g.S.cols row with
  | true=>exact absurd (hz.1 hft) h2
  | false =>
   rw [if_pos rfl,hz.2 hft]
   exact zkd2
 ·obtain ⟨p,hp⟩:=Option.isSome_iff_exists.1 h1
  obtain ⟨j,hj,rfl,hk⟩:=lookL_at hp
  have hj2:j < g.rows.length:=by rw [g.rows_len];exact hj
  have er:=z1zT
  have hcb:=clash_but h.ok h2 hj2
  rw [er,hk,h3] at hcb
  have hft:fitB g.S.cols row=true:=by
   cases hft:fitB g.S.cols row with
   | true=>rfl
   | false=>rw [hz.2 hft] at h2;omega
  rw [find_row h.ok hj hk,if_neg zTbe,if_neg (by rw [hft];simp),if_pos hcb.symm]
  exact zkd2
 ·have hj2:j < g.rows.length:=by rw [g.rows_len];exact hj
  have er:=z1zT
  have hcb:=clash_but h.ok h0 hj2
  rw [er,hk,h3] at hcb
  have hft:fitB g.S.cols row=true:=by
   cases hft:fitB g.S.cols row with
   | true=>rfl
   | false=>rw [hz.2 hft] at h0;omega
  rw [find_row h.ok hj hk,if_neg zTbe,if_neg (by rw [hft];simp),if_neg (by rw [←hcb];simp)]
  have hok:RowOK g.S row:=⟨hft,hf⟩
  have hlim:=(sch_small hri).2.2.2
  have hl:=h.ok.lim
  have hl1:g1.L.length+1=g.L.length:=by
   rw [←g1.rows_len,e3,List.length_eraseIdx_of_lt hj2,g.rows_len];omega
  have hd1:=grow_dis hT1 h.dis
  obtain ⟨g2,f1,f2,f3,hT2,hok2⟩:=hok1.lay hd1 (by rw [e2];exact hok) (ks:=keysO g1.S row) (keysO_at (by rw [e2];exact h0)) (fun i hi r hr=>by
   rw [e3,List.mem_eraseIdx_iff_getElem] at hr
   obtain ⟨p,hp,hne,rfl⟩:=hr
   rw [e2] at hi ⊢
   exact clashS_no hri h.rowsOK hok hcb.symm i hi p hp zTbe) zTbe (by rw [e2];rw [e2] at ho;exact ho)
  have hT:=Trk.pre hb (Trk.after hT1 hT2)
  refine ⟨rfl,g2,⟨⟨hok2.wide (grow_two hT1 hT2 h.dis hb.size),hT.sep,grow_dis hT h.dis⟩,hT,f1.trans e1,f2.trans e2⟩,?_⟩
  rw [f3,e2,e3]
  unfold withM
  simp only [if_true]
  rw [skipM_idx]
theorem headD_map {α β:Type} (f:α→β) (l:List α) (x:α):(l.map f).headD (f x)=f (l.headD x):=by cases l<;>rfl
def kfL (ls:List (List Int)) (us:List Bool) (i:Nat) (r:List AV):Key:=match ls[i]?,us[i]? with
 | some l,some u=>rowKey (pickO r l)++(if u then [] else rowKey (pickO r (ls.headD l)))
 | _,_=>[]
theorem kfS_kfL (S:SchV) (i:Nat) (r:List AV):kfS S i r=kfL (S.idx.map IdxV.l) (S.idx.map IdxV.unique) i r:=by
 unfold kfS kfL
 rw [List.getElem?_map,List.getElem?_map]
 cases S.idx[i]? with
 | none=>rfl
 | some x =>
  show skey S.idx r x=_
  unfold skey
  simp only [Option.map_some]
  rw [headD_map]
theorem Alike.kf {c s:SchV} (h:Alike c s):kfS c=kfS s:=by
 funext i r
 rw [kfS_kfL,kfS_kfL,h.idx,h.uni]
theorem Alike.len {c s:SchV} (h:Alike c s):c.idx.length=s.idx.length:=by
 have h5:=congrArg List.length h.idx
 rw [List.length_map,List.length_map] at h5
 exact h5
theorem Alike.un {c s:SchV} (h:Alike c s):unS c=unS s:=by
 funext i
 have h1:∀ S:SchV,unS S i=((S.idx.map IdxV.unique)[i]?).getD false:=fun S=>by
  unfold unS
  rw [List.getElem?_map]
  cases S.idx[i]?<;>rfl
 rw [h1,h1,h.uni]
theorem Alike.rowOK {c s:SchV} (h:Alike c s) {r:List AV} (hr:RowOK s r):RowOK c r:=⟨by rw [h.cols];exact hr.fit,hr.n64⟩
theorem Alike.rowOK' {c s:SchV} (h:Alike c s) {r:List AV} (hr:RowOK c r):RowOK s r:=⟨by rw [←h.cols];exact hr.fit,hr.n64⟩
theorem Alike.clash {c s:SchV} (h:Alike c s):clashS c=clashS s:=by
 funext m row but
 unfold clashS
 rw [h.kf,h.un,h.len]
end Go.Proofs.YteggkjdlajgenaaGreatDoor
