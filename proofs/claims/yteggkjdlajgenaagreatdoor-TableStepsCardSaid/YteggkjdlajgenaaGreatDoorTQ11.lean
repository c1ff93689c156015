/- Contracts of the functions that the statement reaches, one behind the other. No condition beyond each theorem's own. -/
import Derived.Test.YteggkjdlajgenaaGreatDoorTQ10
set_option linter.unusedSimpArgs false
set_option linter.unusedVariables false
set_option maxRecDepth 100000
set_option maxHeartbeats 4000000
theorem zSSk {P:Prop} (h:P:=by rw [HCNT.out.2 (by first|trivial|rfl)];go_num):P:=h
theorem zXHr {P:Prop} (h:P:=by rw [HBN.out];exact Nat.le_refl _):P:=h
theorem zJz8 {P:Prop} (h:P:=by
 have HR1:=Lib.hid (HRO.out wI (HB68.out.trans (HBI.out.mono HB68.out.size)))
 clear hbI HIN HRO
 go_wp2_with fail
 refine HR1.out.mono ?_
 clear HR1
 rintro e wO ⟨rv,rwr,rfl,hsq,hrm⟩
 obtain ⟨pr_,cr_,hrv,_,_⟩:=own_formT hsq.1
 have hrl:rwr.length=ct:=zukL
 rw [hrl] at hrv
 subst hrv
 have HBO:=Lib.hid (HBI.out.trans (hsq.2.2.1.mono HBI.out.size))
 clear hsq hrm hrl
 go_wp2
 go_ret
 exact ⟨rfl,HB08.out.trans (HBO.out.mono HB08.out.size)⟩
 ):P:=h
theorem zukL {P:Prop} (h:P:=by have h1:=congrArg List.length hrm;rw [List.length_map] at h1;rw [h1];exact HCT.out):P:=h
namespace Go.Proofs.YteggkjdlajgenaaGreatDoor
open Go.RowKit Go.Afx
theorem steps_any (w:World) (hm:Mx w) (S:SchV) (hs:SchAt w (fun _=>True) S) (v:Value) (l:List ActT) (h:ActsAt w (fun _=>True) v l) (idx:Int) (bh:ByteArray) (pv:Value) (ps:List Int) (hps:Sl w (fun _=>True) 1 pv ps.length (ints ps)) :
 Calls Tryz.prog 3 #[S.agg,v,.int .i64 idx,.string bh,pv] w fun e w'=>e=.returned (.bool true)∧Below w.heap.size w w':=by
 obtain ⟨pp,cp,hpv,hcp1,hcp2⟩:=hps.form
 subst hpv
 obtain ⟨np,hnp⟩:∃ np,ps.length=np:=⟨_,rfl⟩
 rw [hnp] at hps hcp1 ⊢
 have HPS:Hid (Sl w (fun _=>True) 1 (.slice pp np cp) ps.length (ints ps)):=Lib.hid (by rw [hnp];exact hps)
 clear hps hnp
 obtain ⟨p,cap,rfl,hc1,hc2⟩:=h.sl.form
 have hgr:=great09_any
 have HM:=Lib.hid hm
 have HS:=Lib.hid h
 have HSC:=Lib.hid hs
 obtain ⟨pc,cc,hcv,_,_⟩:=hs.cols.form
 obtain ⟨pi,ci,hiv,_,_⟩:=hs.idx.1.form
 obtain ⟨nc,hnc⟩:=zAx9
 obtain ⟨ni,hni⟩:=zcSB
 rw [hnc] at hcv
 rw [hni] at hiv
 have HNI:=Lib.hid hni
 have HMV:=zYQU
 have HMC:=zVSb
 have HSA:=zBTG
 obtain ⟨n,hnn⟩:=zwjg
 rw [hnn] at hc1
 have HGR:=Lib.hid (fun W (hb:Below w.heap.size w W)=>great09_any W _ _ S (hs.below hb) _ l (h.below hb))
 have HRT:=Lib.hid (fun W (hb:Below w.heap.size w W)=>refright_any W _ S (hs.below hb))
 have HAW:=Lib.hid (fun W (hb:Below w.heap.size w W)=>awake09_any W (hm.below hb))
 have HPL:=Lib.hid (fun W (hb:Below w.heap.size w W) (hr:rightS S=true) (hf:FineT S l)=>play09_any W (hm.below hb) _ _ S (hs.below hb) hr _ l (h.below hb) hf)
 rw [hnn] at HGR HPL
 rw [HSA.out] at HGR HRT HPL ⊢
 rw [hnn]
 have HNL:=Lib.hid hnn
 obtain ⟨w1,hw1⟩:=zZts
 have hb1:=zppX
 have hk1:=zu9a
 have HB1:=Lib.hid hb1
 have HK1:=Lib.hid hk1
 obtain ⟨x0,x1,x2,x3,x4,x5⟩:=sch_cells hk1
 have HG1:=Lib.hid (HGR.out w1 hb1)
 have hz1:w.heap.size < w1.heap.size:=hk1.lt
 clear h hs hm hcv hiv hnc hni hb1 hk1 hnn hgr HGR
 go_enter Tryz.func3,Tryz.ntmps3
 go_wp2_with fail
 clear hw1 x0 x1 x2 x3 x4 x5
 refine HG1.out.mono ?_
 rintro e w2 ⟨gb,rfl,hb2,hgb⟩
 clear HG1
 have HB2:=Lib.hid (HB1.out.trans (hb2.mono HB1.out.size))
 have HK2:=Lib.hid (HK1.out.below hb2)
 have HGB:=Lib.hid hgb
 clear hb2 hgb
 cases gb with
 | true =>
  exact zDkY
 | false =>
  by_cases h1:300 < bh.size
  ·skip
   exact zDkY
  by_cases h2:10 < np
  ·skip
   exact zDkY
  have hfi:=HGB.out rfl
  have HFI:=Lib.hid hfi
  obtain ⟨rb,hrb⟩:∃ rb,rightS S=rb:=⟨_,rfl⟩
  have hrt:=HRT.out w2 HB2.out
  rw [hrb] at hrt
  have HRT2:=Lib.hid hrt
  have HRB:=Lib.hid hrb
  obtain ⟨x0,x1,x2,x3,x4,x5⟩:=sch_cells HK2.out
  clear hfi hrt hrb HRT
  go_wp2_with fail
  clear x0 x1 x2 x3 x4 x5
  refine HRT2.out.mono ?_
  rintro e w3 ⟨rfl,hb3⟩
  clear HRT2
  have HB3:=Lib.hid (HB2.out.trans (hb3.mono HB2.out.size))
  have HK3:=Lib.hid (HK2.out.below hb3)
  clear hb3
  cases rb with
  | false =>
   exact zrkE
  | true =>
   go_wp2_with fail
   refine (HAW.out _ HB3.out).mono ?_
   rintro e w4 ⟨rfl,hb4⟩
   have HB4:=Lib.hid (HB3.out.trans (hb4.mono HB3.out.size))
   have hk4:=HK3.out.below hb4
   have HK4:=Lib.hid hk4
   have HPL4:=Lib.hid (HPL.out w4 HB4.out HRB.out HFI.out)
   obtain ⟨x0,x1,x2,x3,x4,x5⟩:=sch_cells hk4
   clear hb4 HAW HPL hk4
   go_wp2_with fail
   clear x0 x1 x2 x3 x4 x5
   refine HPL4.out.mono ?_
   clear HPL4
   rintro e w5 ⟨g,lv,rws,rfl,hpr,hrm,hfe,hb5⟩
   obtain ⟨pl,cl,hlv,_,_⟩:=hpr.md.ra.1.form
   obtain ⟨nl,hnl⟩:=zo6F
   rw [hnl] at hlv
   subst hlv
   rw [HMV.out]
   obtain ⟨w6,hw6⟩:=z4Ek
   have hb56:=zxRo
   have hk6:=zniE
   have hpr6:=hpr.below hb56
   have hb06:=zK58
   have HB6:=Lib.hid hb06
   have HKM:=Lib.hid hk6
   have HKS:=Lib.hid ((HK4.out.below hb5).below hb56)
   have hlen:=hpr6.len.2
   have hxl:g.xs.length=ni:=zSkJ
   clear hb5 hb56 hk6 hpr hrm hfe hb06
   by_cases hix:0≤idx∧idx < (ni:Int)
   ·skip
    obtain ⟨i,rfl⟩:∃ i:Nat,idx=(i:Int):=⟨idx.toNat,zTbe⟩
    have hin:i < ni:=zTbe
    have hkf:kfS g.S=kfS S:=hpr6.like.kf
    have hip:inP g.S ps=inP S ps:=hpr6.like.inP ps
    have hPS6:=HPS.out.below HB6.out
    have hfst:=tfirst_any w6 _ g hpr6.tab.ok hpr6.tab.sep i (by rw [hxl];exact hin) _ _ ps hPS6
    obtain ⟨bl,hbl⟩:∃ bl,byM (kfS S) i (rws.map RowV.l)=bl:=⟨_,rfl⟩
    have hbg:byM (kfS S) i g.rows=bl:=by rw [←hpr6.eq];exact hbl
    rw [hkf,hip,hbg] at hfst
    have HFST:Hid (Calls Tryz.prog 15 #[ptrV g.tb,.int .i64 (i:Int),.slice pp np cp] w6 (FromOut w6 g.S i (bl.find? (inP S ps)))):=hfst
    have HNX:Hid (∀ W,Below w6.heap.size w6 W→∀ k:Key,Calls Tryz.prog 20 #[ptrV g.tb,.int .i64 (i:Int),.string (kb k),.slice pp np cp] W (FromOut W g.S i ((tailK (kfS S i) k false bl).find? (inP S ps)))):=Lib.hid fun W hb k=>by
     have h1:=tnext_any W _ g (hpr6.tab.ok.below hb) (hpr6.tab.sep.below hb) i (by rw [hxl];exact hin) k _ _ ps (hPS6.below hb)
     rwa [hkf,hip,hbg] at h1
    have hsort:bl.Pairwise fun a b=>Op.bytesLess (kfS S i a) (kfS S i b)=true:=by
     rw [←hbg,←hkf];exact (byM_spec (kfS g.S) i g.rows (hpr6.tab.ok.tab.uniq i (by rw [←hpr6.tab.ok.xl,hxl];exact hin))).1
    have HSORT:=Lib.hid hsort
    have HOKB:Hid (∀ r∈bl,RowOK S r):=Lib.hid fun r hr=>by
     rw [←hbl] at hr
     exact zJf9
    have hbln:bl.length≤1000:=by
     rw [←hbl,(byM_perm (kfS S) i (rws.map RowV.l)).length_eq,List.length_map];exact hlen
    have HCN:Hid ((bl.filter (inP S ps)).length=(g.rows.filter (inP S ps)).length):=Lib.hid (by rw [←hbg];exact byM_count _ _ _ _)
    have HIN:=Lib.hid (fun W (hb:Below w6.heap.size w6 W)=>by
     have h1:=tin_any W _ g (hpr6.tab.ok.below hb) (hpr6.tab.sep.below hb) _ _ ps (hPS6.below hb)
     rwa [hip] at h1)
    have HRO:=Lib.hid (fun W (hb:Below w6.heap.size w6 W)=>by
     have h1:=trows_any W _ g (hpr6.tab.ok.below hb) (hpr6.tab.sep.below hb) _ _ ps (hPS6.below hb)
     rwa [hip] at h1)
    have HBY:=Lib.hid (fun W (hb:Below w6.heap.size w6 W)=>by
     have h1:=mby_any W _ S _ rws (hpr6.md.below hb) hlen i ziQF
     rwa [hbl] at h1)
    have HRG:=Lib.hid hpr6.md.right
    have HKG:Hid (∀ r,kfS g.S i r=kfS S i r):=Lib.hid fun r=>by rw [hkf]
    rw [HMV.out] at HBY
    clear hpr6 hix hfst hbl hbg hsort hkf hip hPS6 hxl
    go_wp2_with fail
    clear hw6
    refine HFST.out.mono ?_
    clear HFST
    intro e w7 hfo
    obtain ⟨kv,yv,okv,rfl,hcur,hb67,⟨s1,rfl⟩,⟨py,ny,cy,rfl⟩,⟨b1,rfl⟩⟩:=cur_of hfo
    have HCUR:=Lib.hid hcur
    have HB67:=Lib.hid hb67
    have HBY7:=Lib.hid (HBY.out w7 hb67)
    obtain ⟨x0,x1,x2,x3,x4,x5⟩:=sch_cells (HKS.out.below hb67)
    obtain ⟨y0,y1,y2,y3,y4,y5,y6⟩:=md_cells (HKM.out.below hb67)
    have hi0:¬ ((i:Int) < 0):=zTbe
    have hi1:(i:Int) < (ni:Int):=zTbe
    clear hfo hcur hb67 HBY
    go_wp2_with fail
    clear x0 x1 x2 x3 x4 x5 y0 y1 y2 y3 y4 y5 y6
    refine HBY7.out.mono ?_
    clear HBY7
    rintro e w8 ⟨bv,rwsb,rfl,hbr,hbm,hb78⟩
    obtain ⟨pb,cb,hbv,hcb1,hcb2⟩:=hbr.1.form
    obtain ⟨nb,hnb⟩:∃ nb,rwsb.length=nb:=⟨_,rfl⟩
    rw [hnb] at hbv hcb1
    subst hbv
    have hbn:bl.length=nb:=by rw [←hbm,List.length_map];exact hnb
    have hbf:∀ r∈rwsb,∃ p n c,r.v=.slice p n c:=fun r hr=>by
     obtain ⟨p,c,h1,_⟩:=(hbr.2 r hr).form
     exact ⟨p,_,c,h1⟩
    have HBF:=Lib.hid hbf
    have HBR:=Lib.hid hbr
    have HNB:=Lib.hid hnb
    have HBM:=Lib.hid hbm
    have HBN:=Lib.hid hbn
    have HB68:=Lib.hid (HB67.out.trans (hb78.mono HB67.out.size))
    have HB08:Hid (Below w.heap.size w w8):=Lib.hid (HB6.out.trans (HB68.out.mono HB6.out.size))
    have HKS8:=zNYf
    have HCUR8:=Lib.hid (HCUR.out.below hb78)
    have HKEY:Hid (∀ W,Below w8.heap.size w8 W→∀ r∈rwsb,RowOK S r.l→Calls Tryz.prog 18 #[S.agg,.int .i64 (i:Int),r.v] W fun e w'=>e=.returned (.string (kb (kfS S i r.l)))∧Below W.heap.size W w'):=Lib.hid fun W hb r hr hok =>
     dkey_any W _ _ S i r.v r.l (HSC.out.below (HB08.out.trans (hb.mono HB08.out.size))) HRG.out ((hbr.2 r hr).below hb) ziQF hok
    have HINL:Hid (∀ W,Below w8.heap.size w8 W→∀ r∈rwsb,RowOK S r.l→Calls Tryz.prog 17 #[S.agg,r.v,.slice pp np cp] W fun e w'=>e=.returned (.bool (inP S ps r.l))∧Below W.heap.size W w'):=Lib.hid fun W hb r hr hok =>
     in09_any W _ _ _ S (HSC.out.below (HB08.out.trans (hb.mono HB08.out.size))) HRG.out r.v r.l ((hbr.2 r hr).below hb) hok _ ps (HPS.out.below (HB08.out.trans (hb.mono HB08.out.size)))
    rw [HSA.out] at HKEY HINL
    have hnb1:nb≤1000:=by rw [←hbn];exact hbln
    have HC0:Hid (CurS w8 g.S i ((bl.drop 0).find? (inP S ps)) (.string s1) (.slice py ny cy) (.bool b1)):=HCUR8
    clear hbr hbm hb78 hnb hbf hi0 hi1 hbn hbln HCUR
    go_wp2
    go_loopw [14,15,16,18,19,20] (fun kv yv okv nv av iv wr=>∃ (j:Nat) (after:Int),iv=.int .i64 j∧j≤nb∧nv=.int .i64 ((((bl.take j).filter (inP S ps)).length:Nat):Int)∧av=.int .i64 after∧AftR bl (fun r=>Op.bytesLess bh.toList (kfS S i r) && inP S ps r) j after∧CurS wr g.S i ((bl.drop j).find? (inP S ps)) kv yv okv∧Below w8.heap.size w8 wr) (fun _ _ _ _ _ iv _=>nb - (intOf iv).toNat)
    case atStart=>exact ⟨0,-1,rfl,Nat.zero_le _,rfl,rfl,.inl ⟨rfl,rfl⟩,HC0.out,Below.refl _ _⟩
    case round =>
     obtain ⟨j,after,rfl,hj,rfl,rfl,haf,hcur,hbw⟩:=hrel
     have HAF:=Lib.hid haf
     have HCUR:=Lib.hid hcur
     have HBW:=Lib.hid hbw
     by_cases hjb:j < nb
     ·have hjr:j < rwsb.length:=by rw [HNB.out];exact hjb
      have hjl:j < bl.length:=by rw [HBN.out];exact hjb
      obtain ⟨gb_,ob,cpb,hvb,eb⟩:=(HBR.out.below hbw).at hjr
      rw [HNB.out] at hvb
      cases hvb
      have hmk:rwsb[j]∈rwsb:=List.getElem_mem hjr
      have hel:rwsb[j].l=bl[j]:=by
       have h1:=HBM.out
       subst h1
       simp
      have hok:RowOK S rwsb[j].l:=by rw [hel];exact HOKB.out _ (List.getElem_mem hjl)
      obtain ⟨px,nx,cx,hxv⟩:=HBF.out _ hmk
      have hgb:gb_ < wr.heap.size:=World.block_lt_of_cell? _ _ eb
      have hI:=HINL.out wr.drew hbw.drew _ hmk hok
      have hKK:=fun W hb=>HKEY.out W hb _ hmk hok
      have hRS:=(HBR.out.2 _ hmk)
      rw [hxv] at eb hI hKK
      obtain ⟨x0,x1,x2,x3,x4,x5⟩:=sch_cells (HKS8.out.below hbw)
      obtain ⟨pr,hpr⟩:∃ pr,inP S ps rwsb[j].l=pr:=⟨_,rfl⟩
      have hpr2:inP S ps bl[j]=pr:=by rw [←hel];exact hpr
      rw [hpr] at hI
      have HIJ:=Lib.hid hI
      have HKJ:=Lib.hid hKK
      have HRS:=Lib.hid hRS
      have HXV:=Lib.hid hxv
      have HEL:=Lib.hid hel
      have HHP:=Lib.hid hpr2
      have hc1:((((bl.take j).filter (inP S ps)).length:Nat):Int)≤1000:=by
       have:=List.length_filter_le (inP S ps) (bl.take j)
       rw [List.length_take] at this
       omega
      have HCNT:Hid ((pr=false→((bl.take (j+1)).filter (inP S ps)).length=((bl.take j).filter (inP S ps)).length)∧(pr=true→((bl.take (j+1)).filter (inP S ps)).length=((bl.take j).filter (inP S ps)).length+1)):=Lib.hid ⟨fun h=>cnt_no hjl (by rw [hpr2,h]),fun h=>cnt_yes hjl (by rw [hpr2,h])⟩
      have HCNX:Hid (pr=false→(bl.drop j).find? (inP S ps)=(bl.drop (j+1)).find? (inP S ps)):=Lib.hid fun h=>find_drop_no hjl (by rw [hpr2,h])
      have HCNY:Hid (pr=true→(bl.drop j).find? (inP S ps)=some bl[j]):=Lib.hid fun h=>find_drop_yes hjl (by rw [hpr2,h])
      have HAFS:Hid (pr=false→AftR bl (fun r=>Op.bytesLess bh.toList (kfS S i r) && inP S ps r) (j+1) after):=Lib.hid fun h=>aft_skip haf hjl (by show (_ && inP S ps bl[j])=false;rw [hpr2,h,Bool.and_false])
      generalize hcn:((bl.take j).filter (inP S ps)).length=cn at *
      clear haf hcur hbw hmk hok hxv hI hKK hRS hpr hpr2 hel hcn
      cases pr with
      | false =>
       go_upto_region 15 with fail
       refine wp_region_lit_plan [] [(1,0),(2,0),(3,0),(5,0),(0,1),(4,1),(6,4),(7,0)] (fun _=>False) zyVB zyVB (fun c a d v w h=>zx0I) ?_
       go_wp2_with (first
        | (refine stp ?_)
        | (go_at_call 17;refine HIJ.out.mono ?_;clear HIJ;rintro e w9 ⟨rfl,hb9⟩;have HB9:=Lib.hid (HBW.out.drew.trans (Below.mono hb9 HBW.out.size));have HC9:=Lib.hid (HCUR.out.below (Below.trans (Below.refl _ _).drew hb9));clear hb9))
       go_roundw
       case rel=>exact ⟨j+1,after,z3KH,zTbe,by rw [HCNT.out.1 zHRT],rfl,HAFS.out zHRT,by rw [←HCNX.out zHRT];exact HC9.out,HB9.out⟩
       case measure=>(simp [intOf])<;>omega
      | true =>
       have hcur:=HCUR.out
       rw [HCNY.out rfl] at hcur
       obtain ⟨rfl,rfl,hown⟩:=hcur
       rw [HKG.out]
       obtain ⟨py,cy,hyv,_,_⟩:=(hown.sl (B:=fun _=>True) (fun _ _=>trivial)).form
       obtain ⟨ny,hny⟩:∃ ny,bl[j].length=ny:=⟨_,rfl⟩
       have hown2:=hown
       rw [hny] at hyv
       rw [hyv] at hown2
       subst hyv
       have HNXJ:Hid (∀ W,Below w6.heap.size w6 W→Calls Tryz.prog 20 #[ptrV g.tb,.int .i64 (i:Int),.string (kb (kfS S i bl[j])),.slice pp np cp] W (FromOut W g.S i ((bl.drop (j+1)).find? (inP S ps)))):=Lib.hid fun W hb=>by
        have h1:=HNX.out W hb (kfS S i bl[j])
        rwa [drop_next (kfS S i) bl HSORT.out hjl] at h1
       have HSM:Hid (∀ W,Below wr.heap.size wr W→Calls Tryz.prog 19 #[.slice py ny cy,.slice px nx cx] W fun e w'=>e=.returned (.bool true)∧Below W.heap.size W w'):=Lib.hid fun W hb=>by
        have h1:=same_row W (fun _=>True) _ (.slice py ny cy) rwsb[j].v bl[j] ((hown2.below hb).sl (B:=fun _=>True) (fun _ _=>trivial)) (by have:=(HRS.out.below (HBW.out)).below hb;rwa [HEL.out] at this)
        rwa [HXV.out] at h1
       have HEB:Hid (∀ W,Below wr.heap.size wr W→W.cell? ⟨gb_,ob+j,none⟩=some (.slice px nx cx)):=Lib.hid fun W hb=>(hb.cell (p:=⟨gb_,ob+j,none⟩) hgb).trans eb
       have hKJ:=HKJ.out
       rw [HEL.out] at hKJ
       obtain ⟨q,hq⟩:∃ q,Op.bytesLess bh.toList (kfS S i bl[j])=q:=⟨_,rfl⟩
       have HQ:Hid ((fun r=>Op.bytesLess bh.toList (kfS S i r) && inP S ps r) bl[j]=q):=Lib.hid (by show (_ && inP S ps bl[j])=q;rw [hq,HHP.out,Bool.and_true])
       have hlt:Op.bytesLess bh.toList (kb (kfS S i bl[j])).toList=q:=by rw [kb_list];exact hq
       have hgt:(!(Op.bytesLess (kb (kfS S i bl[j])).toList bh.toList || (kb (kfS S i bl[j])).toList == bh.toList))=q:=by rw [klt_gt];exact hlt
       have HJL:=Lib.hid hjl
       generalize kb (kfS S i bl[j])=kk at *
       have hkk:(kk.toList == kk.toList)=true:=beq_self_eq_true _
       clear hown hown2 hq hny HKJ
       have HKJ:Hid (∀ W,Below wr.heap.size wr W→Calls Tryz.prog 18 #[.agg #[.string S.name,.slice pc nc cc,.slice pi ni ci,.int .i64 S.limit,.int .i64 S.parts,.int .i64 S.by_],.int .i64 (i:Int),.slice px nx cx] W fun e w'=>e=.returned (.string kk)∧Below W.heap.size W w'):=Lib.hid fun W hb=>hKJ W (HBW.out.trans (hb.mono HBW.out.size))
       have HKSR:Hid (∀ W,Below wr.heap.size wr W→Blk W w.heap.size 25 [.string S.name,.slice pc nc cc,.slice pi ni ci,.int .i64 S.limit,.int .i64 S.parts,.int .i64 S.by_]):=Lib.hid fun W hb=>(HKS8.out.below HBW.out).below hb
       have HNXR:Hid (∀ W,Below wr.heap.size wr W→Calls Tryz.prog 20 #[ptrV g.tb,.int .i64 (i:Int),.string kk,.slice pp np cp] W (FromOut W g.S i ((bl.drop (j+1)).find? (inP S ps)))):=Lib.hid fun W hb=>HNXJ.out W (HB68.out.trans ((HBW.out.trans (hb.mono HBW.out.size)).mono HB68.out.size))
       clear hKJ HNXJ
       have HNXJ:=HNXR
       clear HNXR
       go_upto_region 15 with fail
       refine wp_region_lit_plan [] [(1,0),(2,0),(3,0),(5,0),(0,1),(4,1),(6,4),(7,0)] (fun _=>False) zyVB zyVB (fun c a d v w h=>zx0I) ?_
       go_upto_region 17 with (first
        | (refine stp ?_)
        | (go_at_call 17;refine HIJ.out.mono ?_;clear HIJ;rintro e w9 ⟨rfl,hb9⟩;have HB9:=Lib.hid (Below.trans (Below.refl wr.heap.size wr).drew hb9);clear hb9))
       clear x0 x1 x2 x3 x4 x5 eb
       rcases aft_cases HAF.out with ha|⟨a,ha⟩
       ·subst ha
        have hKX:=Lib.hid (HKJ.out w9.drew (Below.drew HB9.out))
        obtain ⟨x0,x1,x2,x3,x4,x5⟩:=sch_cells (HKSR.out _ HB9.out)
        have eb:=HEB.out _ HB9.out
        have hng:decide ((-1:Int) < 0)=true:=zcX3
        cases q with
        | true =>
         refine wp_region_lit_plan [] [(0,0),(1,0),(2,0),(4,0),(5,0),(6,0),(7,0),(10,0),(3,1),(8,1),(9,4),(11,0),(12,0)] (fun _=>False) zyVB zyVB (fun c a d v w h=>zx0I) ?_
         go_upto_region 19 with (first
          | (refine stp ?_)
          | (go_at_call 18;refine hKX.out.mono ?_;clear hKX;rintro e w10 ⟨rfl,hb10⟩;have HB10:=Lib.hid ((Below.drew HB9.out).trans (Below.mono hb10 (Below.drew HB9.out).size));clear hb10))
         clear x0 x1 x2 x3 x4 x5 eb
         have hKX:=Lib.hid (HKJ.out w10.drew (Below.drew HB10.out))
         obtain ⟨x0,x1,x2,x3,x4,x5⟩:=sch_cells (HKSR.out _ HB10.out)
         have eb:=HEB.out _ HB10.out
         go_upto_region 19 with fail
         refine wp_region_lit_plan [] [(0,0),(1,0),(2,0),(3,0),(5,0),(6,0),(7,0),(8,0),(4,1),(9,1),(10,4),(11,0),(12,0),(13,0),(14,0),(15,0),(16,0),(17,0),(18,1),(19,4),(20,0),(21,0)] (fun _=>False) zyVB zyVB (fun c a d v w h=>zx0I) ?_
         go_upto_region 21 with (first
          | (refine stp ?_)
          | (go_at_call 18;refine hKX.out.mono ?_;clear hKX;rintro e wK ⟨rfl,hbK⟩;have HBK:=Lib.hid ((Below.drew HB10.out).trans (Below.mono hbK (Below.drew HB10.out).size));have HSK:=Lib.hid (HSM.out wK HBK.out);have eb:=HEB.out _ HBK.out;clear hbK)
          | (go_at_call 19;refine HSK.out.mono ?_;clear HSK;rintro e wS ⟨rfl,hbS⟩;have HBS:=Lib.hid (HBK.out.trans (Below.mono hbS HBK.out.size));clear hbS))
         have HNS:=Lib.hid (HNXJ.out wS HBS.out)
         clear HNXJ HKJ x0 x1 x2 x3 x4 x5 eb
         go_wp2_with fail
         refine HNS.out.mono ?_
         clear HNS
         intro e wN hfo
         obtain ⟨kv2,yv2,okv2,rfl,hcur2,hbN,_,_,_⟩:=cur_of hfo
         have HCN2:=Lib.hid hcur2
         have hbNr:=HBS.out.trans (hbN.mono HBS.out.size)
         have HBN2:=Lib.hid (HBW.out.trans (hbNr.mono HBW.out.size))
         clear hfo hcur2 hbN hbNr
         go_wp2
         go_roundw
         case rel=>exact ⟨j+1,(j:Int),z3KH,zTbe,zSSk,rfl,aft_now HAF.out HJL.out HQ.out,HCN2.out,HBN2.out⟩
         case measure=>(simp [intOf])<;>omega
        | false =>
         refine wp_region_lit_plan [] [(0,0),(1,0),(2,0),(4,0),(5,0),(6,0),(7,0),(10,0),(3,1),(8,1),(9,4),(11,0),(12,0)] (fun _=>False) zyVB zyVB (fun c a d v w h=>zx0I) ?_
         go_upto_region 19 with (first
          | (refine stp ?_)
          | (go_at_call 18;refine hKX.out.mono ?_;clear hKX;rintro e w10 ⟨rfl,hb10⟩;have HB10:=Lib.hid ((Below.drew HB9.out).trans (Below.mono hb10 (Below.drew HB9.out).size));clear hb10))
         clear x0 x1 x2 x3 x4 x5 eb
         have hKX:=Lib.hid (HKJ.out w10.drew (Below.drew HB10.out))
         obtain ⟨x0,x1,x2,x3,x4,x5⟩:=sch_cells (HKSR.out _ HB10.out)
         have eb:=HEB.out _ HB10.out
         go_upto_region 19 with fail
         refine wp_region_lit_plan [] [(0,0),(1,0),(2,0),(3,0),(5,0),(6,0),(7,0),(8,0),(4,1),(9,1),(10,4),(11,0),(12,0),(13,0),(14,0),(15,0),(16,0),(17,0),(18,1),(19,4),(20,0),(21,0)] (fun _=>False) zyVB zyVB (fun c a d v w h=>zx0I) ?_
         go_upto_region 21 with (first
          | (refine stp ?_)
          | (go_at_call 18;refine hKX.out.mono ?_;clear hKX;rintro e wK ⟨rfl,hbK⟩;have HBK:=Lib.hid ((Below.drew HB10.out).trans (Below.mono hbK (Below.drew HB10.out).size));have HSK:=Lib.hid (HSM.out wK HBK.out);have eb:=HEB.out _ HBK.out;clear hbK)
          | (go_at_call 19;refine HSK.out.mono ?_;clear HSK;rintro e wS ⟨rfl,hbS⟩;have HBS:=Lib.hid (HBK.out.trans (Below.mono hbS HBK.out.size));clear hbS))
         have HNS:=Lib.hid (HNXJ.out wS HBS.out)
         clear HNXJ HKJ x0 x1 x2 x3 x4 x5 eb
         go_wp2_with fail
         refine HNS.out.mono ?_
         clear HNS
         intro e wN hfo
         obtain ⟨kv2,yv2,okv2,rfl,hcur2,hbN,_,_,_⟩:=cur_of hfo
         have HCN2:=Lib.hid hcur2
         have hbNr:=HBS.out.trans (hbN.mono HBS.out.size)
         have HBN2:=Lib.hid (HBW.out.trans (hbNr.mono HBW.out.size))
         clear hfo hcur2 hbN hbNr
         go_wp2
         go_roundw
         case rel=>exact ⟨j+1,-1,z3KH,zTbe,zSSk,rfl,aft_skip HAF.out HJL.out HQ.out,HCN2.out,HBN2.out⟩
         case measure=>(simp [intOf])<;>omega
       ·subst ha
        have hng:decide ((a:Int) < 0)=false:=decide_eq_false zTbe
        have hng2:¬ ((a:Int) < 0):=zTbe
        refine wp_region_lit_plan [] [(0,0),(1,0),(2,0),(4,0),(5,0),(6,0),(7,0),(10,0),(3,1),(8,1),(9,4),(11,0),(12,0)] (fun _=>False) zyVB zyVB (fun c a d v w h=>zx0I) ?_
        go_upto_region 19 with (first|(refine stp ?_))
        have HBD:=Lib.hid (Below.drew HB9.out)
        obtain ⟨w10,hw10⟩:∃ w10,w9.drew=w10:=⟨_,rfl⟩
        rw [hw10] at HBD ⊢
        clear hw10
        have hKX:=Lib.hid (HKJ.out w10.drew (Below.drew HBD.out))
        obtain ⟨x0,x1,x2,x3,x4,x5⟩:=sch_cells (HKSR.out _ HBD.out)
        have eb:=HEB.out _ HBD.out
        go_upto_region 19 with fail
        refine wp_region_lit_plan [] [(0,0),(1,0),(2,0),(3,0),(5,0),(6,0),(7,0),(8,0),(4,1),(9,1),(10,4),(11,0),(12,0),(13,0),(14,0),(15,0),(16,0),(17,0),(18,1),(19,4),(20,0),(21,0)] (fun _=>False) zyVB zyVB (fun c a d v w h=>zx0I) ?_
        go_upto_region 21 with (first
         | (refine stp ?_)
         | (go_at_call 18;refine hKX.out.mono ?_;clear hKX;rintro e wK ⟨rfl,hbK⟩;have HBK:=Lib.hid ((Below.drew HBD.out).trans (Below.mono hbK (Below.drew HBD.out).size));have HSK:=Lib.hid (HSM.out wK HBK.out);have eb:=HEB.out _ HBK.out;clear hbK)
         | (go_at_call 19;refine HSK.out.mono ?_;clear HSK;rintro e wS ⟨rfl,hbS⟩;have HBS:=Lib.hid (HBK.out.trans (Below.mono hbS HBK.out.size));clear hbS))
        have HNS:=Lib.hid (HNXJ.out wS HBS.out)
        clear HNXJ HKJ x0 x1 x2 x3 x4 x5 eb
        go_wp2_with fail
        refine HNS.out.mono ?_
        clear HNS
        intro e wN hfo
        obtain ⟨kv2,yv2,okv2,rfl,hcur2,hbN,_,_,_⟩:=cur_of hfo
        have HCN2:=Lib.hid hcur2
        have hbNr:=HBS.out.trans (hbN.mono HBS.out.size)
        have HBN2:=Lib.hid (HBW.out.trans (hbNr.mono HBW.out.size))
        clear hfo hcur2 hbN hbNr
        go_wp2
        go_roundw
        case rel=>exact ⟨j+1,(a:Int),z3KH,zTbe,zSSk,rfl,aft_more HAF.out HJL.out,HCN2.out,HBN2.out⟩
        case measure=>(simp [intOf])<;>omega
     ·have hje:j=nb:=by omega
      subst hje
      have hcur:=hcur
      rw [List.drop_of_length_le zXHr] at hcur
      obtain ⟨rfl,rfl,rfl⟩:=hcur
      rw [List.take_of_length_le zXHr]
      have hct:(bl.filter (inP S ps)).length=(g.rows.filter (inP S ps)).length:=HCN.out
      rw [hct]
      obtain ⟨ct,hct2⟩:∃ ct,(g.rows.filter (inP S ps)).length=ct:=⟨_,rfl⟩
      rw [hct2]
      have HCT:=Lib.hid hct2
      rw [hct2] at HIN
      have hcte:((ct:Int) == (ct:Int))=true:=beq_self_eq_true _
      have hnx:=HNX.out wr (HB68.out.trans (hbw.mono HB68.out.size)) bh.toList
      rw [kb_self,tail_find (kfS S i) bh.toList (inP S ps) bl HSORT.out] at hnx
      have haf2:=haf
      have hzs:((⟨#[]⟩:ByteArray).toList == (⟨#[]⟩:ByteArray).toList)=true:=beq_self_eq_true _
      have hzs2:(⟨#[]⟩:ByteArray).toList.isEmpty=true:=by rw [ByteArray.toList_eq];rfl
      have hbw2:=hbw
      clear hct hct2 HCUR hbw haf
      rcases haf2 with ⟨rfl,hf⟩|⟨a,rfl,hal,haj,hf⟩
      ·skip
       rw [List.take_of_length_le zXHr] at hf
       rw [hf] at hnx
       have HN1:=Lib.hid hnx
       clear hnx hf
       go_wp2_with fail
       refine HN1.out.mono ?_
       clear HN1
       rintro e wM ⟨rfl,hbM⟩
       have HBM2:=Lib.hid (HBW.out.trans (hbM.mono HBW.out.size))
       clear hbM
       have hng:decide ((-1:Int) < 0)=true:=zcX3
       have hng2:decide (0≤(-1:Int))=false:=zcX3
       go_upto_region 23 with fail
       refine wp_region_lit_plan [] [(0,0),(1,0),(2,0),(3,0),(4,0),(5,0),(6,0),(7,0),(8,0),(9,0),(10,0),(11,0),(12,0),(13,0),(14,0),(15,0),(16,0),(17,0),(18,0),(20,0),(21,0),(22,0),(23,0),(19,1),(24,1),(25,4),(26,0),(27,0),(28,0),(29,0),(30,0),(31,0),(32,1),(33,4),(34,0),(35,0),(36,0),(37,0),(38,0),(39,0),(40,0),(41,0)] (fun _=>False) zyVB zyVB (fun c a d v w h=>zx0I) ?_
       go_upto_region 25 with (first|(refine stp ?_))
       have HBMD:=Lib.hid (Below.drew HBM2.out)
       obtain ⟨wN,hwN⟩:∃ wN,wM.drew=wN:=⟨_,rfl⟩
       rw [hwN] at HBMD ⊢
       clear hwN
       have hIN:=HIN.out wN (HB68.out.trans ((HBMD.out).mono HB68.out.size))
       have HI1:=Lib.hid hIN
       clear hIN
       go_wp2_with fail
       refine HI1.out.mono ?_
       clear HI1
       rintro e wI ⟨rfl,hbI⟩
       have HBI:=Lib.hid (Below.trans (HBMD.out) (hbI.mono (HBMD.out).size))
       exact zJz8
      ·skip
       rw [List.take_of_length_le zXHr] at hf
       rw [hf] at hnx
       have HN1:=Lib.hid hnx
       have har:a < rwsb.length:=by rw [HNB.out];exact haj
       have hmk:rwsb[a]∈rwsb:=List.getElem_mem har
       have hel:rwsb[a].l=bl[a]:=by
        have h1:=HBM.out
        subst h1
        simp
       have hok:RowOK S rwsb[a].l:=by rw [hel];exact HOKB.out _ (List.getElem_mem hal)
       obtain ⟨px,nx,cx,hxv⟩:=HBF.out _ hmk
       have hKK:=fun W hb=>HKEY.out W hb _ hmk hok
       rw [hxv,hel] at hKK
       have HKK:=Lib.hid hKK
       have HRS:=Lib.hid (HBR.out.2 _ hmk)
       have HEL:=Lib.hid hel
       have HXV:=Lib.hid hxv
       have HEB:Hid (∀ W,Below w8.heap.size w8 W→∃ gb_ ob,pb=some ⟨gb_,ob,none⟩∧W.cell? ⟨gb_,ob+a,none⟩=some (.slice px nx cx)∧gb_ < W.heap.size):=Lib.hid fun W hb=>by
        obtain ⟨gb_,ob,cpb,hvb,eb⟩:=(HBR.out.below hb).at har
        rw [HXV.out] at eb
        cases hvb
        exact ⟨gb_,ob,rfl,eb,World.block_lt_of_cell? _ _ eb⟩
       clear hnx hf hmk hel hok hxv hKK
       go_wp2_with fail
       refine HN1.out.mono ?_
       clear HN1
       rintro e wM ⟨vm,rfl,ho,_,hbM⟩
       have hbm8:=HBW.out.trans (hbM.mono HBW.out.size)
       have HBM2:=Lib.hid hbm8
       rw [HKG.out]
       obtain ⟨pm,cm,hvm,_,_⟩:=(ho.sl (B:=fun _=>True) (fun _ _=>trivial)).form
       obtain ⟨nm,hnm⟩:∃ nm,bl[a].length=nm:=⟨_,rfl⟩
       rw [hnm] at hvm
       have HSM:Hid (∀ W,Below wM.heap.size wM W→Calls Tryz.prog 19 #[vm,.slice px nx cx] W fun e w'=>e=.returned (.bool true)∧Below W.heap.size W w'):=Lib.hid fun W hb=>by
        have h1:=same_row W (fun _=>True) _ vm rwsb[a].v bl[a] ((ho.below hb).sl (B:=fun _=>True) (fun _ _=>trivial)) (by have:=(HRS.out.below (HBM2.out)).below hb;rwa [HEL.out] at this)
        rwa [HXV.out] at h1
       rw [hvm] at HSM
       subst hvm
       obtain ⟨gb_,ob,hpb,eb,hgb⟩:=HEB.out _ hbm8
       subst hpb
       have HEB2:Hid (∀ W,Below wM.heap.size wM W→W.cell? ⟨gb_,ob+a,none⟩=some (.slice px nx cx)):=Lib.hid fun W hb=>(hb.cell (p:=⟨gb_,ob+a,none⟩) hgb).trans eb
       obtain ⟨x0,x1,x2,x3,x4,x5⟩:=sch_cells (HKS8.out.below hbm8)
       have HKX:=Lib.hid (HKK.out wM.drew hbm8.drew)
       generalize kb (kfS S i bl[a])=kk at *
       have hkk:(kk.toList == kk.toList)=true:=beq_self_eq_true _
       have hng:decide ((a:Int) < 0)=false:=decide_eq_false zTbe
       have hng2:decide (0≤(a:Int))=true:=decide_eq_true zTbe
       have hng3:¬ ((a:Int) < 0):=zTbe
       clear ho hbM hbm8 hnm HKK
       go_upto_region 23 with fail
       refine wp_region_lit_plan [] [(0,0),(1,0),(2,0),(3,0),(4,0),(5,0),(6,0),(7,0),(8,0),(9,0),(10,0),(11,0),(12,0),(13,0),(14,0),(15,0),(16,0),(17,0),(18,0),(20,0),(21,0),(22,0),(23,0),(19,1),(24,1),(25,4),(26,0),(27,0),(28,0),(29,0),(30,0),(31,0),(32,1),(33,4),(34,0),(35,0),(36,0),(37,0),(38,0),(39,0),(40,0),(41,0)] (fun _=>False) zyVB zyVB (fun c a d v w h=>zx0I) ?_
       go_upto_region 25 with (first
        | (refine stp ?_)
        | (go_at_call 18;refine HKX.out.mono ?_;clear HKX;rintro e wK ⟨rfl,hbK⟩;have HBK:=Lib.hid (Below.trans (Below.refl wM.heap.size wM).drew hbK);have HSK:=Lib.hid (HSM.out wK HBK.out);have eb:=HEB2.out _ HBK.out;clear hbK)
        | (go_at_call 19;refine HSK.out.mono ?_;clear HSK;rintro e wS ⟨rfl,hbS⟩;have HBS:=Lib.hid (HBM2.out.trans (Below.mono (HBK.out.trans (Below.mono hbS HBK.out.size)) HBM2.out.size));clear hbS))
       clear x0 x1 x2 x3 x4 x5 eb
       have hIN:=HIN.out wS (HB68.out.trans ((HBS.out).mono HB68.out.size))
       have HI1:=Lib.hid hIN
       clear hIN
       go_wp2_with fail
       refine HI1.out.mono ?_
       clear HI1
       rintro e wI ⟨rfl,hbI⟩
       have HBI:=Lib.hid (Below.trans (HBS.out) (hbI.mono (HBS.out).size))
       exact zJz8
   ·skip
    have hno:(decide (0≤idx) && decide (idx < (g.xs.length:Int)))=false:=by
     rw [hxl,Bool.and_eq_false_iff,decide_eq_false_iff_not,decide_eq_false_iff_not]
     omega
    have HSN:=Lib.hid (tfirst_no w6 _ g hpr6.tab.ok hpr6.tab.sep idx hno (.slice pp np cp))
    exact z6Id
theorem steps_law (v0:Value) (S:SchV) (v:Value) (l:List ActT) (idx:Int) (_:(Lit.int IntKind.i64 idx).wf=true) (bh:ByteArray) (_:bh.size≤maxLen) (pv:Value) (ps:List Int) (w:World) (hm:Mx w) (h:v0=S.agg∧SchAt w (fun _=>True) S∧S.read) (ha:ActsAt w (fun _=>True) v l) (hps:Sl w (fun _=>True) 1 pv ps.length (ints ps)) :
 Calls Tryz.prog 3 #[v0,v,.int .i64 idx,.string bh,pv] w fun e w'=>e=.returned (.bool true)∧Below w.heap.size w w':=by
 obtain ⟨rfl,hs,_⟩:=h
 exact steps_any w hm S hs v l ha idx bh pv ps hps
end Go.Proofs.YteggkjdlajgenaaGreatDoor
