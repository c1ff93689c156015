/- Contracts of the functions that the statement reaches, one behind the other. No condition beyond each theorem's own. -/
import Derived.Test.YteggkjdlajgenaaGreatDoorTQ9
set_option linter.unusedSimpArgs false
set_option linter.unusedVariables false
set_option maxRecDepth 100000
set_option maxHeartbeats 4000000
theorem zoJ7 {P:Prop} (h:P:=by
 obtain ⟨g5_,o5,c5,hv5,hc51,hc52,_,_,_⟩:=(g1.sl (B:=fun _=>True) (fun _ _=>trivial)).place zTbe
 subst hv5
 have hg5:w1.heap.size≤g5_:=hn5 g5_ rfl
 have HG1:=Lib.hid g1
 have HB5:=Lib.hid hb5
 clear hn5 hb5 g1 g2 g3 g4 g5
 go_wp2
 go_loopw [8] (fun t8 wr=>∃ (k:Nat) (x:Value),t8=.int .i64 k∧p≤k∧k≤nl∧Own wr 37 1 (.slice (some ⟨g5_,o5,none⟩) (nl+1) c5) (nl+1) ((rowVals rws).take k++x::(rowVals rws).drop k)∧Only (fun q=>q=g5_) w5 wr) (fun t8 _=>(intOf t8).toNat - p)
 case atStart =>
  have hvl:(rowVals rws).length=nl:=zO29
  exact ⟨nl,.slice none 0 0,z3KH,HP.out,Nat.le_refl _,zER4,Only.refl _ _⟩
 case round =>
  obtain ⟨k,x,rfl,hpk,hkn,hown,hon⟩:=hrel
  have hbw:Below w1.heap.size w1 wr:=HB5.out.trans (hon.below HB5.out.size (fun q hq=>zTbe))
  have HBX:=Lib.hid hbw
  have HON:=Lib.hid hon
  have HOWN:=Lib.hid hown
  by_cases hkp:p < k
  ·obtain ⟨k1,hk1⟩:∃ k1,k=k1+1:=⟨k - 1,zTbe⟩
   have e1:(k:Int) - 1=(k1:Int):=zTbe
   have hk1n:k1 < nl:=zTbe
   have hkn1:k < nl+1:=zTbe
   have hk1n1:k1 < nl+1:=zTbe
   have hkr:k1 < rws.length:=by rw [HNL.out];exact hk1n
   have hkv:k1 < (rowVals rws).length:=by unfold rowVals;rw [List.length_map,HNL.out];exact hk1n
   have hcv:(rowVals rws)[k1]=rws[k1].v:=by simp [rowVals]
   obtain ⟨px1,nx1,cx1,hxv1⟩:=HRF.out _ (HMEM.out _ (List.getElem_mem hkr))
   have ec:=(hown.cellAt (j:=k1) zTbe).1
   have zf:=(hown.cellAt (j:=k) zTbe).2
   have zc:=(hown.cellAt (j:=k) zTbe).1
   rw [at_mid _ _ _ zTbe] at zc
   have hgl:=World.block_lt_of_cell? _ _ (show wr.cell? ⟨g5_,o5+k1,none⟩=some (.slice px1 nx1 cx1) by rw [ec,hk1,at_take _ _ _ hkv,hcv,hxv1])
   rw [hk1,at_take _ _ _ hkv,hcv,hxv1] at ec
   have hsto:=hown.store (j:=k) (.slice px1 nx1 cx1) rfl
   have hss:((rowVals rws).take k++x::(rowVals rws).drop k).set k (.slice px1 nx1 cx1)=(rowVals rws).take k1++(.slice px1 nx1 cx1)::(rowVals rws).drop k1:=by
    rw [←hxv1,←hcv,hk1];exact shift_set _ _ _ hkv
   rw [hss] at hsto
   have HSTO:=Lib.hid hsto
   have HON2:=Lib.hid (hon.setCell (p:=⟨g5_,o5+k,none⟩) (fun _=>rfl) (.slice px1 nx1 cx1))
   have HPK:Hid (p≤k1∧k1≤nl):=Lib.hid ⟨zTbe,zTbe⟩
   have HK1:=Lib.hid hk1
   clear hown hon hbw hsto hss hcv hxv1 hk1 hpk
   go_wp2
   go_roundw
   case rel=>exact ⟨k1,.slice px1 nx1 cx1,z3KH,HPK.out.1,HPK.out.2,HSTO.out,HON2.out⟩
   case measure=>have:=HK1.out;have:=HPK.out.1;(simp [intOf])<;>omega
  ·obtain rfl:k=p:=by omega
   have zf:=(hown.cellAt (j:=k) zTbe).2
   obtain ⟨gY,oY,cpY,hvY,ekY⟩:=(HRA.out.below (HAL.out.trans (hbw.mono HAL.out.size))).at hkx
   cases hvY
   rw [HXV2.out] at ekY
   have hgY:=World.block_lt_of_cell? _ _ ekY
   have hg5l:g5_ < wr.heap.size:=hown.lt g5_ rfl
   obtain ⟨x0,x1,x2,x3,x4,x5,x6⟩:=md_cells (HKM.out.below hbw)
   have hlx:=(HKM.out.below hbw).lt
   have hsto:=hown.store (j:=k) (.slice px nx cx) rfl
   have hvl:(rowVals rws).length=nl:=zO29
   rw [put_set _ _ _ _ zTbe] at hsto
   have zc:=(hown.cellAt (j:=k) zTbe).1
   rw [at_mid _ _ _ zTbe] at zc
   have HSTO:=Lib.hid hsto
   have HON2:=Lib.hid (hon.setCell (p:=⟨g5_,o5+k,none⟩) (fun _=>rfl) (.slice px nx cx))
   have hkn1:k < nl+1:=zTbe
   clear hown hon hbw hsto hvl hpk
   go_wp2
   go_roundw
   case rel =>
    refine ⟨j+1,rws.take k++rj::rws.drop k,z3KH,zTbe,by simp;have:=HNL.out;have:=HNJ.out;omega,⟨?_,fun q hq=>by cases hq;omega,?_⟩,?_,?_⟩
    ·have e1:(rws.take k++rj::rws.drop k).length=nl+1:=by simp;have:=HNL.out;omega
     rw [e1,←rowVals_put,HXV.out];exact HSTO.out
    ·exact HB5.out.trans (HON2.out.below HB5.out.size (fun q hq=>zTbe))
    ·intro r hr
     rcases List.mem_append.1 hr with h|h
     ·exact HMEM.out r (List.mem_of_mem_take h)
     ·rcases List.mem_cons.1 h with rfl|h
      ·exact HMJ.out
      ·exact HMEM.out r (List.mem_of_mem_drop h)
    ·rw [by_put,←HSP.out];exact HF.out
   case measure=>(simp [intOf])<;>omega
 ):P:=h
theorem zO29 {P:Prop} (h:P:=by unfold rowVals;rw [List.length_map,HNL.out]):P:=h
theorem zER4 {P:Prop} (h:P:=by rw [List.take_of_length_le (by omega),List.drop_of_length_le (by omega)];exact HG1.out):P:=h
theorem zj9M {P:Prop} (h:P:=by cases hq;(first|exact s2|exact Nat.le_trans s2 s3|exact Nat.le_trans (Nat.le_trans s2 s3) s4)):P:=h
theorem zxRo {P:Prop} (h:P:=by
 have zz:Below w5.heap.size w5 w6:=hw6▸(Below.refl _ _).alloc (Nat.le_refl _) _
 exact zz):P:=h
theorem zAx9 {P:Prop} (h:P:=by
 have zz:∃ nc,S.cols.length=nc:=⟨_,rfl⟩
 exact zz):P:=h
theorem zcSB {P:Prop} (h:P:=by
 have zz:∃ ni,S.idx.length=ni:=⟨_,rfl⟩
 exact zz):P:=h
theorem zZts {P:Prop} (h:P:=by
 have zz:∃ w1,w.alloc (.cells #[.string S.name,.slice pc nc cc,.slice pi ni ci,.int .i64 S.limit,.int .i64 S.parts,.int .i64 S.by_] 25)=w1:=⟨_,rfl⟩
 exact zz):P:=h
theorem zwjg {P:Prop} (h:P:=by
 have zz:∃ n,l.length=n:=⟨_,rfl⟩
 exact zz):P:=h
theorem zn2b {P:Prop} (h:P:=by
 clear h0
 go_enter Tryz.func81,Tryz.ntmps81
 go_wp2
 go_ret
 exact ⟨by rw [HE.out];rfl,HB2.out⟩
 ):P:=h
theorem zjpP {P:Prop} (h:P:=by
 go_wp2_with fail
 refine HI.out.mono ?_
 clear HI
 rintro e w6 ⟨rfl,g6,hst,hr6⟩
 have hkp:=zSC0
 have hmd6:=HMD5.out.to hst.trk.only.size (fun k hk hl=>hst.trk.only.block k hl (fun hm=>HDIS.out k hm hk.1)) (fun _ hk _=>hk)
 have ha6:=HA5.out.to hst.trk.only.size (fun k hk hl=>hst.trk.only.block k hl (fun hm=>HDIS.out k hm hk.1)) (fun _ hk _=>hk)
 obtain ⟨x0,x1,x2,x3,x4,x5,x6⟩:=md_cells (hkp _ _ _ HK0.out (Nat.le_refl _))
 have hka:=hkp _ _ _ HKA.out HZ1.out
 have y3:=hka.cell 3
 have y4:=hka.cell 4
 simp only [List.getElem?_cons_zero,List.getElem?_cons_succ] at y3 y4
 have HST:=Lib.hid hst
 have HR6:=Lib.hid hr6
 have HSC6:=Lib.hid hmd6.sch
 have hk11:=hkp _ _ _ HK11.out HZ4.out
 have HK116:=Lib.hid hk11
 have HMO:=Lib.hid (HM.out w6 hmd6 ha6)
 clear hst hr6 hkp hmd6 ha6 hka hk11 HM
 go_wp2_with fail
 clear x0 x1 x2 x3 x4 x5 x6 y3 y4
 refine HMO.out.mono ?_
 rintro e w7 ⟨lv,rws,rfl,hra,hrm,hb7⟩
 obtain ⟨pl,cl,hlv,_,_⟩:=hra.1.form
 obtain ⟨nl,hnl⟩:=zo6F
 rw [hnl] at hlv
 subst hlv
 rw [HMV.out]
 have hk117:=HK116.out.below hb7
 obtain ⟨z0,z1,z2,z3,z4,z5,z6⟩:=md_cells hk117
 have zf:=zKB9
 have zl:=hk117.lt
 have HK117:=Lib.hid hk117
 have HRA:=Lib.hid hra
 have HRM:=Lib.hid hrm
 have HB7:=Lib.hid hb7
 clear hnl hra hrm hb7 hk117
 go_wp2
 go_meet
 obtain ⟨hk,hon⟩:=set_seven HK117.out (.string S.name) (.slice pc nc cc) (.slice pi ni ci) (.int .i64 S.limit) (.int .i64 S.parts) (.int .i64 S.by_) (.slice pl nl cl)
 generalize (((((((w7.setCell ⟨w4.heap.size,0,none⟩ (.string S.name)).setCell ⟨w4.heap.size,1,none⟩ (.slice pc nc cc)).setCell ⟨w4.heap.size,2,none⟩ (.slice pi ni ci)).setCell ⟨w4.heap.size,3,none⟩ (.int .i64 S.limit)).setCell ⟨w4.heap.size,4,none⟩ (.int .i64 S.parts)).setCell ⟨w4.heap.size,5,none⟩ (.int .i64 S.by_)).setCell ⟨w4.heap.size,6,none⟩ (.slice pl nl cl))=w8 at *
 exact ⟨g6,.slice pl nl cl,rws,rfl,rfl,cutD_mk HB5.out HSEP.out HST.out HR6.out HSC6.out HRA.out HRM.out HB7.out hon zR0f HZ4.out HZ45.out (Nat.ne_of_lt HZ24.out) (Nat.lt_trans HZ24.out HZ45.out) HZ2.out HKZ.out⟩
 ):P:=h
theorem zSC0 {P:Prop} (h:P:=by
 have zz:∀ b t cs,Blk w5 b t cs→w.heap.size≤b→Blk w6 b t cs:=fun b t cs hb hl=>hb.only hst.trk.only (fun hm=>zIFU)
 exact zz):P:=h
theorem zIFU {P:Prop} (h:P:=by have:=HLT.out _ hm;omega):P:=h
theorem zKB9 {P:Prop} (h:P:=by
 have zz:∀ i,w7.frozen? ⟨w4.heap.size,i,none⟩=false:=hk117.frozen
 exact zz):P:=h
theorem zAGp {P:Prop} (h:P:=by
 clear hk0 hk1 hk2 HI0 HI1 HI2 HI3 HM0 HM1 HM2 HM3
 go_wp2_with fail
 refine HI.out.mono ?_
 clear HI
 rintro e w6 ⟨rfl,g6,hst,hr6⟩
 have hkp:=zSC0
 have hmd6:=HMD5.out.to hst.trk.only.size (fun k hk hl=>hst.trk.only.block k hl (fun hm=>HDIS.out k hm hk.1)) (fun _ hk _=>hk)
 have ha6:=HA5.out.to hst.trk.only.size (fun k hk hl=>hst.trk.only.block k hl (fun hm=>HDIS.out k hm hk.1)) (fun _ hk _=>hk)
 obtain ⟨x0,x1,x2,x3,x4,x5,x6⟩:=md_cells (hkp _ _ _ HK0.out (Nat.le_refl _))
 have hka:=hkp _ _ _ HKA.out HZ1.out
 have y3:=hka.cell 3
 have y4:=hka.cell 4
 simp only [List.getElem?_cons_zero,List.getElem?_cons_succ] at y3 y4
 have HST:=Lib.hid hst
 have HR6:=Lib.hid hr6
 have HSC6:=Lib.hid hmd6.sch
 have hk11:=hkp _ _ _ HK11.out HZ4.out
 have HK116:=Lib.hid hk11
 have HMO:=Lib.hid (HM.out w6 hmd6 ha6)
 clear hst hr6 hkp hmd6 ha6 hka hk11 HM
 go_wp2_with fail
 clear x0 x1 x2 x3 x4 x5 x6 y3 y4
 refine HMO.out.mono ?_
 rintro e w7 ⟨lv,rws,rfl,hra,hrm,hb7⟩
 obtain ⟨pl,cl,hlv,_,_⟩:=hra.1.form
 obtain ⟨nl,hnl⟩:=zo6F
 rw [hnl] at hlv
 subst hlv
 rw [HMV.out]
 have hk117:=HK116.out.below hb7
 obtain ⟨z0,z1,z2,z3,z4,z5,z6⟩:=md_cells hk117
 have zf:=zKB9
 have zl:=hk117.lt
 have HK117:=Lib.hid hk117
 have HRA:=Lib.hid hra
 have HRM:=Lib.hid hrm
 have HB7:=Lib.hid hb7
 clear hnl hra hrm hb7 hk117
 go_wp2
 go_meet
 obtain ⟨hk,hon⟩:=set_seven HK117.out (.string S.name) (.slice pc nc cc) (.slice pi ni ci) (.int .i64 S.limit) (.int .i64 S.parts) (.int .i64 S.by_) (.slice pl nl cl)
 generalize (((((((w7.setCell ⟨w4.heap.size,0,none⟩ (.string S.name)).setCell ⟨w4.heap.size,1,none⟩ (.slice pc nc cc)).setCell ⟨w4.heap.size,2,none⟩ (.slice pi ni ci)).setCell ⟨w4.heap.size,3,none⟩ (.int .i64 S.limit)).setCell ⟨w4.heap.size,4,none⟩ (.int .i64 S.parts)).setCell ⟨w4.heap.size,5,none⟩ (.int .i64 S.by_)).setCell ⟨w4.heap.size,6,none⟩ (.slice pl nl cl))=w8 at *
 exact ⟨g6,.slice pl nl cl,rws,rfl,rfl,cutD_mk HB5.out HSEP.out HST.out HR6.out HSC6.out HRA.out HRM.out HB7.out hon zR0f HZ4.out HZ45.out (Nat.ne_of_lt HZ24.out) (Nat.lt_trans HZ24.out HZ45.out) HZ2.out HKZ.out⟩
 ):P:=h
theorem zBTG {P:Prop} (h:P:=by
 have zz:Hid (S.agg=.agg #[.string S.name,.slice pc nc cc,.slice pi ni ci,.int .i64 S.limit,.int .i64 S.parts,.int .i64 S.by_]):=Lib.hid z9r7
 exact zz):P:=h
theorem z9r7 {P:Prop} (h:P:=by simp only [SchV.agg,hcv,hiv]):P:=h
theorem zu9a {P:Prop} (h:P:=by
 have zz:Blk w1 w.heap.size 25 [.string S.name,.slice pc nc cc,.slice pi ni ci,.int .i64 S.limit,.int .i64 S.parts,.int .i64 S.by_]:=hw1▸Blk.new w _ _
 exact zz):P:=h
theorem zDkY {P:Prop} (h:P:=by
 go_wp2_with (go_at_call 13;refine (HAW.out _ HB2.out).mono ?_;rintro e wZ ⟨rfl,hbZ⟩)
 go_ret
 exact ⟨rfl,(HB2.out).trans (hbZ.mono (HB2.out).size)⟩
 ):P:=h
theorem zrkE {P:Prop} (h:P:=by
 go_wp2_with (go_at_call 13;refine (HAW.out _ HB3.out).mono ?_;rintro e wZ ⟨rfl,hbZ⟩)
 go_ret
 exact ⟨rfl,(HB3.out).trans (hbZ.mono (HB3.out).size)⟩
 ):P:=h
theorem z4Ek {P:Prop} (h:P:=by
 have zz:∃ w6,w5.alloc (.cells #[.string S.name,.slice pc nc cc,.slice pi ni ci,.int .i64 S.limit,.int .i64 S.parts,.int .i64 S.by_,.slice pl nl cl] 34)=w6:=⟨_,rfl⟩
 exact zz):P:=h
theorem zniE {P:Prop} (h:P:=by
 have zz:Blk w6 w5.heap.size 34 [.string S.name,.slice pc nc cc,.slice pi ni ci,.int .i64 S.limit,.int .i64 S.parts,.int .i64 S.by_,.slice pl nl cl]:=hw6▸Blk.new w5 _ _
 exact zz):P:=h
theorem zK58 {P:Prop} (h:P:=by
 have zz:Below w.heap.size w w6:=HB4.out.trans ((hb5.trans (hb56.mono hb5.size)).mono HB4.out.size)
 exact zz):P:=h
theorem zSkJ {P:Prop} (h:P:=by rw [hpr6.tab.ok.xl,hpr6.like.len];exact HNI.out):P:=h
theorem ziQF {P:Prop} (h:P:=by rw [HNI.out];exact hin):P:=h
theorem zJf9 {P:Prop} (h:P:=by
 have h1:=((byM_spec (kfS S) i (rws.map RowV.l) zYs6).2 r).1 hr
 obtain ⟨x,hx,rfl⟩:=List.mem_map.1 h1
 exact hpr6.md.ok x hx
 ):P:=h
theorem zYs6 {P:Prop} (h:P:=by rw [hpr6.eq,←hpr6.like.kf];exact hpr6.tab.ok.tab.uniq i (by rw [hpr6.like.len,HNI.out];exact hin)):P:=h
theorem zNYf {P:Prop} (h:P:=by
 have zz:Hid (Blk w8 w.heap.size 25 [.string S.name,.slice pc nc cc,.slice pi ni ci,.int .i64 S.limit,.int .i64 S.parts,.int .i64 S.by_]):=Lib.hid ((HKS.out.below HB67.out).below hb78)
 exact zz):P:=h
theorem zrts {P:Prop} (h:P:=by
 by_cases hlm:(ol:Int) < most
 ·have ho1:=hoo.below ((Below.refl w7.heap.size w7).alloc (Nat.le_refl _) (.cells #[.slice px nx cx] 37))
  have hs1:=box1t w7 37 (.slice px nx cx) rfl
  clear hoo
  go_wp2_with (at_builtin;refine wpList_app rfl _ _ rfl elemRowsT zdhv ho1 zdhv hs1 zefz zTbe ?_;intro v5 w8 g1 g2 g3 g4 g5;clear ho1 hs1;rw [←HOLN.out] at g1;have HO5:=Lib.hid (HOU7.out.app rj HXV.out g1 g2 g3);clear g1 g2 g3 g4 g5)
  go_roundw
  case rel=>exact ⟨j+1,outl++[rj],z3KH,zTbe,by rw [List.length_append];have:=HOL.out;simp;omega,HO5.out,fun r hr=>(List.mem_append.1 hr).elim (HOM.out r) (fun h=>by rw [List.mem_singleton.1 h];exact HMK.out),zuqX⟩
  case measure=>(simp [intOf])<;>omega
 ·clear hoo
  go_wp2
  go_roundw
  case rel=>exact ⟨j+1,outl,z3KH,zTbe,by have:=HOL.out;omega,HOU7.out,HOM.out,by rw [HEQ.out];exact (HNOL.out zTbe).symm⟩
  case measure=>(simp [intOf])<;>omega
 ):P:=h
theorem zuqX {P:Prop} (h:P:=by rw [List.map_append,HEQ.out];exact (HYES.out (by simp [Bool.not_false]) hlm).symm):P:=h
theorem z6Id {P:Prop} (h:P:=by
 clear hno hpr6 hxl
 go_wp2_with fail
 clear hw6
 refine HSN.out.mono ?_
 rintro e w7 ⟨rfl,rfl⟩
 obtain ⟨x0,x1,x2,x3,x4,x5⟩:=sch_cells HKS.out
 by_cases h0:idx < 0
 ·clear hix
  go_wp2
  go_ret
  exact ⟨rfl,HB6.out⟩
 ·have h3:(ni:Int)≤idx:=by omega
  clear hix
  go_wp2
  go_ret
  exact ⟨rfl,HB6.out⟩
 ):P:=h
theorem zHRT {P:Prop} (h:P:=by first|trivial|rfl):P:=h
theorem zjL9 {P:Prop} (h:P:=by rw [←List.take_append_getElem hj,List.find?_append,h2];simp [hq]):P:=h
namespace Go.Proofs.YteggkjdlajgenaaGreatDoor
open Go.RowKit Go.Afx
theorem mby_any (w:World) (B:Nat→Prop) (S:SchV) (rv:Value) (rows:List RowV) (h:MdAt w B S rv rows) (hlen:rows.length≤1000) (i:Nat) (hi:i < S.idx.length) :
 Calls Tryz.prog 16 #[mdV S rv,.int .i64 (i:Int)] w fun e w'=>∃ v rws,e=.returned v∧RowsAt w' (fun q=>B q∨w.heap.size≤q) v rws∧rws.map RowV.l=byM (kfS S) i (rows.map RowV.l)∧Below w.heap.size w w':=by
 have hkey:=fun w2 hb r hr=>h.key w2 hb i hi r hr
 have HRA:=Lib.hid h.ra
 obtain ⟨⟨pc,nc,cc,hcv⟩,⟨pi,ni,ci,hiv⟩,⟨pr,cr,hrv,hcr1,hcr2⟩,hrf⟩:=h.forms
 have HRF:=Lib.hid hrf
 subst hrv
 simp only [SchV.agg,hcv,hiv] at hkey
 have HKEY:=Lib.hid hkey
 simp only [mdV,hcv,hiv]
 obtain ⟨fm,hfm⟩:∃ fm,byM (kfS S) i (rows.map RowV.l)=fm:=⟨_,rfl⟩
 rw [hfm]
 have HFM:Hid ((rows.map RowV.l).foldl (fun l r=>insBy (kfS S) i r l) []=fm):=hfm
 have hal:=z0KE
 have hkm:=Blk.new w 34 [.string S.name,.slice pc nc cc,.slice pi ni ci,.int .i64 S.limit,.int .i64 S.parts,.int .i64 S.by_,.slice pr rows.length cr]
 obtain ⟨w1,hw1⟩:=zC8e
 rw [hw1] at hal
 have hkm:=zJ1I
 have HAL:=Lib.hid hal
 have HKM:=Lib.hid hkm
 have hz1:=hal.size
 clear h hkey hrf hcv hiv hfm hal hkm hi
 go_enter Tryz.func16,Tryz.ntmps16
 go_wp2
 clear hw1
 go_loopw [5,6] (fun lv iv wr=>∃ (j:Nat) (rws:List RowV),iv=.int .i64 j∧j≤rows.length∧rws.length=j∧OutSt w1 lv rws wr∧(∀ r∈rws,r∈rows)∧((rows.drop j).map RowV.l).foldl (fun l r=>insBy (kfS S) i r l) (rws.map RowV.l)=fm) (fun _ iv _=>rows.length - (intOf iv).toNat)
 case atStart=>exact ⟨0,[],rfl,Nat.zero_le _,rfl,OutSt.nil (Below.refl _ _),zPXO,HFM.out⟩
 case round =>
  obtain ⟨j,rws,rfl,hj,hrl,hou,hmem,hf⟩:=hrel
  obtain ⟨wo,rfl⟩:=zDit
  obtain ⟨nl,hnl⟩:=zo6F
  have HOU:=Lib.hid hou
  have HMEM:=Lib.hid hmem
  have HNL:=Lib.hid hnl
  obtain ⟨po,co,hvo,hc1,hc2⟩:=own_formT hou.own
  rw [hnl] at hvo hc1
  subst hvo
  have hbo:=hou.bel
  have HBO:=Lib.hid hbo
  have hnj:nl=j:=by rw [←hnl];exact hrl
  obtain ⟨x0,x1,x2,x3,x4,x5,x6⟩:=md_cells (HKM.out.below hbo)
  have hlx:=(HKM.out.below hbo).lt
  by_cases hkx:j < rows.length
  ·have hmk:rows[j]∈rows:=List.getElem_mem hkx
   obtain ⟨px,nx,cx,hxv⟩:=HRF.out _ hmk
   have HXV2:=Lib.hid hxv
   have HEK:Hid (∀ w4,Below w1.heap.size w1 w4→∃ gr or_,pr=some ⟨gr,or_,none⟩∧w4.cell? ⟨gr,or_+j,none⟩=some (.slice px nx cx)∧gr < w4.heap.size):=Lib.hid fun w4 hb=>by
    obtain ⟨g2,o2,c2,hv2,ek2⟩:=(HRA.out.below (HAL.out.trans (hb.mono HAL.out.size))).at hkx
    rw [HXV2.out] at ek2
    cases hv2
    exact ⟨g2,o2,rfl,ek2,World.block_lt_of_cell? _ _ ek2⟩
   have HKJ:=Lib.hid (fun w4 (hb:Below w1.heap.size w1 w4)=>HKEY.out w4 (HAL.out.trans (hb.mono HAL.out.size)) rows[j] hmk)
   rw [hxv] at HKJ
   rw [List.drop_eq_getElem_cons hkx,List.map_cons,List.foldl_cons] at hf
   have HF:=Lib.hid hf
   have HXV:=Lib.hid hxv
   have HMJ:=Lib.hid hmk
   generalize hrj:rows[j]=rj at HKJ HF HXV HMJ
   have hnl2:nl≤1000:=zTbe
   have HNJ:=Lib.hid hnj
   clear hou hmem hf hbo hmk hxv hnl hrl hrj hnj
   go_wp2
   clear x0 x1 x2 x3 x4 x5 x6 hlx
   go_loopw [7] (fun t7 wr=>∃ p:Nat,t7=.int .i64 p∧p≤nl∧(∀ k,∀ h:k < (rws.map RowV.l).length,k < p→Op.bytesLess (kfS S i (rws.map RowV.l)[k]) (kfS S i rj.l)=true)∧Below wo.heap.size wo wr) (fun t7 _=>nl - (intOf t7).toNat)
   case atStart=>exact ⟨0,rfl,Nat.zero_le _,fun _ _ h=>absurd h zTbe,Below.refl _ _⟩
   case round =>
    obtain ⟨p,rfl,hp,hless,hbw⟩:=hrel
    obtain ⟨wi,rfl⟩:∃ wi:World,wi=wr:=⟨_,rfl⟩
    have HLE:=Lib.hid hless
    have HBW:=Lib.hid hbw
    have hb1:=HBO.out.trans (hbw.mono HBO.out.size)
    have HB1:=Lib.hid hb1
    obtain ⟨gr,or_,hpr,ek,hgr⟩:=HEK.out _ hb1
    have HPR:=Lib.hid hpr
    by_cases hpn:p < nl
    ·have hpr2:p < rws.length:=by rw [HNL.out];exact hpn
     have hpm:p < (rws.map RowV.l).length:=by rw [List.length_map];exact hpr2
     have hme:=HMEM.out _ (List.getElem_mem hpr2)
     obtain ⟨pz,nz,cz,hzv⟩:=HRF.out _ hme
     have hoo:=HOU.out.own.below hbw
     rw [HNL.out] at hoo
     obtain ⟨gz,oz,cpz,hvz,_,_,_,hgz,ez⟩:=(hoo.sl (B:=fun _=>True) (fun _ _=>trivial)).place zTbe
     cases hvz
     have ezp:=ez p (by unfold rowVals;rw [List.length_map];exact hpr2)
     have hvp:(rowVals rws)[p]?=some rws[p].v:=by unfold rowVals;rw [List.getElem?_map,List.getElem?_eq_getElem hpr2];rfl
     rw [hvp,hzv] at ezp
     have hKP:=HKEY.out wi.drew (HAL.out.trans (hb1.drew.mono HAL.out.size)) rws[p] hme
     rw [hzv] at hKP
     have HKP:=Lib.hid hKP
     have hez:∃ bl,Op.bytesLess (kb (kfS S i rws[p].l)).toList (kb (kfS S i rj.l)).toList=bl∧Op.bytesLess (kfS S i (rws.map RowV.l)[p]) (kfS S i rj.l)=bl:=⟨_,rfl,by rw [kb_list,kb_list,List.getElem_map]⟩
     obtain ⟨bl,hbl,hbl2⟩:=hez
     generalize kb (kfS S i rws[p].l)=k1 at *
     generalize kb (kfS S i rj.l)=k2 at *
     have HBL:Hid (∀ h:p < (rws.map RowV.l).length,Op.bytesLess (kfS S i (rws.map RowV.l)[p]) (kfS S i rj.l)=bl):=Lib.hid fun _=>hbl2
     obtain ⟨x0,x1,x2,x3,x4,x5,x6⟩:=md_cells (HKM.out.below hb1)
     have hlx:=(HKM.out.below hb1).lt
     subst hpr
     have d0:wi.drew.cell? ⟨w.heap.size,0,none⟩=some (.string S.name):=x0
     have d1:wi.drew.cell? ⟨w.heap.size,1,none⟩=some (.slice pc nc cc):=x1
     have d2:wi.drew.cell? ⟨w.heap.size,2,none⟩=some (.slice pi ni ci):=x2
     have d3:wi.drew.cell? ⟨w.heap.size,3,none⟩=some (.int .i64 S.limit):=x3
     have d4:wi.drew.cell? ⟨w.heap.size,4,none⟩=some (.int .i64 S.parts):=x4
     have d5:wi.drew.cell? ⟨w.heap.size,5,none⟩=some (.int .i64 S.by_):=x5
     have d6:wi.drew.cell? ⟨w.heap.size,6,none⟩=some (.slice (some ⟨gr,or_,none⟩) rows.length cr):=x6
     have dek:wi.drew.cell? ⟨gr,or_+j,none⟩=some (.slice px nx cx):=ek
     have dez:wi.drew.cell? ⟨gz,oz+p,none⟩=some (.slice pz nz cz):=ezp
     have hlx2:w.heap.size < wi.drew.heap.size:=hlx
     have hgr2:gr < wi.drew.heap.size:=hgr
     have hgz2:gz < wi.drew.heap.size:=hgz
     have HAG:Hid (∀ w4,Below wi.drew.heap.size wi.drew w4→Agree (fun q=>q=w.heap.size∨q=gr∨q=gz) wi.drew w4):=Lib.hid fun w4 hb q o hq=>by
      refine hb.cell ?_
      rcases hq with rfl|rfl|rfl<;>assumption
     clear hless hbw hb1 hpr2 hpm hme hzv hoo ez ezp hvp hKP hbl2 x0 x1 x2 x3 x4 x5 x6 hlx ek hgr hgz
     cases bl with
     | true =>
      go_upto_region 6 with fail
      refine wp_region_lit_plan [] [(0,0),(1,0),(2,0),(3,0),(4,0),(5,0),(7,0),(8,0),(9,0),(10,0),(13,0),(15,0),(16,0),(18,0),(6,1),(11,1),(14,2),(17,2),(19,0),(20,2),(12,3),(21,4),(22,0),(23,0)] (fun q=>q=w.heap.size∨q=gr∨q=gz) zyVB zyVB (fun c a d v w h=>zx0I) ?_
      go_upto_region 7 with (first
       | (refine stp ?_)
       | (go_at_call 18;refine HKP.out.mono ?_;clear HKP;rintro e w3 ⟨rfl,hb3⟩;have hag3:=HAG.out _ hb3;have HB3:=Lib.hid (HB1.out.drew.trans (Below.mono hb3 HB1.out.size));have HB3w:=Lib.hid (HBW.out.drew.trans (Below.mono hb3 HBW.out.size));clear hb3)
       | (go_at_call 18;refine (HKJ.out _ HB3.out).mono ?_;clear HKJ;rintro e w4 ⟨rfl,hb4⟩;have HB4:=Lib.hid (HB3w.out.trans (hb4.mono HB3w.out.size));clear hb4))
      go_wp2
      go_roundw
      case rel=>exact ⟨p+1,z3KH,zTbe,fun k h hk=>by
       by_cases hkp:k=p
       ·subst hkp;exact HBL.out h
       ·exact HLE.out k h zTbe,HB4.out⟩
      case measure=>(simp [intOf])<;>omega
     | false =>
      go_upto_region 6 with fail
      refine wp_region_lit_plan [] [(0,0),(1,0),(2,0),(3,0),(4,0),(5,0),(7,0),(8,0),(9,0),(10,0),(13,0),(15,0),(16,0),(18,0),(6,1),(11,1),(14,2),(17,2),(19,0),(20,2),(12,3),(21,4),(22,0),(23,0)] (fun q=>q=w.heap.size∨q=gr∨q=gz) zyVB zyVB (fun c a d v w h=>zx0I) ?_
      go_upto_region 8 with (first
       | (refine stp ?_)
       | (go_at_call 18;refine HKP.out.mono ?_;clear HKP;rintro e w3 ⟨rfl,hb3⟩;have hag3:=HAG.out _ hb3;have HB3:=Lib.hid (HB1.out.drew.trans (Below.mono hb3 HB1.out.size));have HB3w:=Lib.hid (HBW.out.drew.trans (Below.mono hb3 HBW.out.size));clear hb3)
       | (go_at_call 18;refine (HKJ.out _ HB3.out).mono ?_;clear HKJ;rintro e w4 ⟨rfl,hb4⟩;have HBE:=Lib.hid (HB3w.out.trans (hb4.mono HB3w.out.size));clear hb4))
      have HP:=Lib.hid hp
      have HSP:Hid (insBy (kfS S) i rj.l (rws.map RowV.l)=(rws.map RowV.l).take p++rj.l::(rws.map RowV.l).drop p):=Lib.hid (insBy_at (kfS S) i rj.l (rws.map RowV.l) p (by rw [List.length_map,HNL.out];exact hp) HLE.out HBL.out)
      clear HLE HBL HAG hag3 HKEY d0 d1 d2 d3 d4 d5 d6 dek dez hlx2 hgr2 hgz2
      have hou:=HOU.out.below HBE.out
      have hoo:=hou.own
      rw [HNL.out] at hoo
      have ho1:=hoo.below ((Below.refl w4.heap.size w4).alloc (Nat.le_refl _) (.cells #[.slice none 0 0] 37))
      have hs1:=box1t w4 37 (.slice none 0 0) rfl
      have HOE:=Lib.hid hou
      clear hou hoo
      go_upto_region 9 with (at_builtin;refine wpList_app rfl _ _ rfl elemRowsT zdhv ho1 zdhv hs1 zefz zTbe ?_;intro v5 w5 g1 g2 g3 g4 g5;clear ho1 hs1)
      have hn5:∀ q,v5.ownBlock=some q→w1.heap.size≤q:=fun q hq=>by
       have hz1:=HOE.out.bel.size
       rcases g3 with h3|h3
       ·rw [h3] at hq;exact HOE.out.new q hq
       ·rw [h3] at hq
        have h4:=Option.some.inj hq
        rw [←h4]
        exact Nat.le_trans hz1 ((Below.refl w4.heap.size w4).alloc (Nat.le_refl _) _).size
      have hb5:Below w1.heap.size w1 w5:=HOE.out.bel.trans (((Below.refl w4.heap.size w4).alloc (Nat.le_refl _) _).mono HOE.out.bel.size |>.trans (g2.below (Nat.le_trans HOE.out.bel.size ((Below.refl w4.heap.size w4).alloc (Nat.le_refl _) _).size) (fun q hq=>HOE.out.new q hq)))
      exact zoJ7
    ·have hpe:p=nl:=by omega
     have HSP:Hid (insBy (kfS S) i rj.l (rws.map RowV.l)=(rws.map RowV.l).take p++rj.l::(rws.map RowV.l).drop p):=Lib.hid (insBy_at (kfS S) i rj.l (rws.map RowV.l) p (by rw [List.length_map,HNL.out];exact hp) HLE.out (fun h=>by rw [List.length_map,HNL.out] at h;omega))
     have HP:=Lib.hid hp
     clear hless hbw hb1 ek hgr hpr HKEY hpe
     go_upto_region 6 with fail
     refine wp_region_lit_plan [] [(0,0),(1,0),(2,0),(3,0),(4,0),(5,0),(7,0),(8,0),(9,0),(10,0),(13,0),(15,0),(16,0),(18,0),(6,1),(11,1),(14,2),(17,2),(19,0),(20,2),(12,3),(21,4),(22,0),(23,0)] (fun _=>False) zyVB zyVB (fun c a d v w h=>zx0I) ?_
     go_upto_region 8 with (first|(refine stp ?_))
     have HBE:=Lib.hid HBW.out.drew
     clear hpn
     have hou:=HOU.out.below HBE.out
     have hoo:=hou.own
     rw [HNL.out] at hoo
     have ho1:=hoo.below ((Below.refl wi.drew.heap.size wi.drew).alloc (Nat.le_refl _) (.cells #[.slice none 0 0] 37))
     have hs1:=box1t wi.drew 37 (.slice none 0 0) rfl
     have HOE:=Lib.hid hou
     clear hou hoo
     go_upto_region 9 with (at_builtin;refine wpList_app rfl _ _ rfl elemRowsT zdhv ho1 zdhv hs1 zefz zTbe ?_;intro v5 w5 g1 g2 g3 g4 g5;clear ho1 hs1)
     have hn5:∀ q,v5.ownBlock=some q→w1.heap.size≤q:=fun q hq=>by
      have hz1:=HOE.out.bel.size
      rcases g3 with h3|h3
      ·rw [h3] at hq;exact HOE.out.new q hq
      ·rw [h3] at hq
       have h4:=Option.some.inj hq
       rw [←h4]
       exact Nat.le_trans hz1 ((Below.refl wi.drew.heap.size wi.drew).alloc (Nat.le_refl _) _).size
     have hb5:Below w1.heap.size w1 w5:=HOE.out.bel.trans (((Below.refl wi.drew.heap.size wi.drew).alloc (Nat.le_refl _) _).mono HOE.out.bel.size |>.trans (g2.below (Nat.le_trans HOE.out.bel.size ((Below.refl wi.drew.heap.size wi.drew).alloc (Nat.le_refl _) _).size) (fun q hq=>HOE.out.new q hq)))
     exact zoJ7
  ·obtain rfl:j=rows.length:=by omega
   rw [List.drop_length] at hf
   have HF:Hid (rws.map RowV.l=fm):=Lib.hid hf
   clear hf hbo
   go_wp2
   go_ret
   have hb:=HAL.out.trans (HBO.out.mono HAL.out.size)
   refine ⟨_,rws,rfl,⟨?_,fun r hr=>((HRA.out.2 r (HMEM.out r hr)).below hb).mono (Nat.le_refl _) (fun _ _ _=>rfl) (fun _ hk _=>.inl hk)⟩,HF.out,hb⟩
   have h1:=HOU.out.own.sl (B:=fun q=>w1.heap.size≤q) HOU.out.new
   rw [HNL.out] at h1 ⊢
   exact h1.mono (Nat.le_refl _) (fun _ _ _=>rfl) (fun q hk _=>.inr zTbe)
def exT (nm:ByteArray) (k2:Int) (lim parts:Int) (a b c d:Value):SchV:=⟨nm,a,[⟨⟨#[97]⟩,1⟩,⟨⟨#[98]⟩,k2⟩],b,[⟨c,[0],true⟩,⟨d,[1],true⟩],lim,parts,0⟩
def PlanOut (w:World) (S:Value→Value→Value→Value→SchV) (e:Ending) (w':World):Prop:=∃ a b c d,e=.returned (S a b c d).agg∧SchAt w' (fun q=>w.heap.size≤q) (S a b c d)∧Below w.heap.size w w'
theorem exT_at {w w1 w2 w3 w4 w5 w6:World} {nm:ByteArray} (hnm:nm.size≤maxLen) (k2 lim parts:Int) (hb1:Below w.heap.size w w1)
 (h2:w1.alloc (.cells #[.string ⟨#[97]⟩,.int .i64 1,.string ⟨#[98]⟩,.int .i64 k2] 110)=w2) (h3:w2.alloc (.cells #[.int .i64 0] 3)=w3) (h4:w3.alloc (.cells #[.int .i64 1] 3)=w4)
 (h5:w4.alloc (.cells #[.slice (some ⟨w2.heap.size,0,none⟩) 1 1,.bool true,.slice (some ⟨w3.heap.size,0,none⟩) 1 1,.bool true] 108)=w5) (h6:Only (fun q=>q=w.heap.size) w5 w6) (hlt:w.heap.size+1≤w1.heap.size) :
 SchAt w6 (fun q=>w.heap.size≤q) (exT nm k2 lim parts (.slice (some ⟨w1.heap.size,0,none⟩) 2 2) (.slice (some ⟨w4.heap.size,0,none⟩) 2 2) (.slice (some ⟨w2.heap.size,0,none⟩) 1 1) (.slice (some ⟨w3.heap.size,0,none⟩) 1 1))∧Below w.heap.size w w6:=by
 have b2:Below w1.heap.size w1 w2:=h2▸(Below.refl _ _).alloc (Nat.le_refl _) _
 have b3:Below w2.heap.size w2 w3:=h3▸(Below.refl _ _).alloc (Nat.le_refl _) _
 have b4:Below w3.heap.size w3 w4:=h4▸(Below.refl _ _).alloc (Nat.le_refl _) _
 have b5:Below w4.heap.size w4 w5:=h5▸(Below.refl _ _).alloc (Nat.le_refl _) _
 have s2:=b2.size
 have s3:=b3.size
 have s4:=b4.size
 have s5:=b5.size
 have c45:Below w3.heap.size w3 w5:=b4.trans (b5.mono b4.size)
 have c35:Below w2.heap.size w2 w5:=b3.trans (c45.mono b3.size)
 have c25:Below w1.heap.size w1 w5:=b2.trans (c35.mono b2.size)
 have c05:Below w.heap.size w w5:=hb1.trans (c25.mono hb1.size)
 have o2:Own w2 110 2 (.slice (some ⟨w1.heap.size,0,none⟩) 2 2) 2 (colCells [⟨⟨#[97]⟩,1⟩,⟨⟨#[98]⟩,k2⟩]):=by
  rw [←h2];exact Own.made w1 110 2 _ [] 2 2 rfl (by intro u hu;simp [colCells,ColV.cells] at hu;rcases hu with rfl|rfl|rfl|rfl<;>rfl) zTbe zdUY (by simp [colCells,ColV.cells])
 have o3:Own w3 3 1 (.slice (some ⟨w2.heap.size,0,none⟩) 1 1) 1 (ints [0]):=by
  rw [←h3];exact Own.made w2 3 1 _ [] 1 1 rfl (by intro u hu;simp [ints] at hu;subst hu;rfl) zTbe zdUY (by simp [ints])
 have o4:Own w4 3 1 (.slice (some ⟨w3.heap.size,0,none⟩) 1 1) 1 (ints [1]):=by
  rw [←h4];exact Own.made w3 3 1 _ [] 1 1 rfl (by intro u hu;simp [ints] at hu;subst hu;rfl) zTbe zdUY (by simp [ints])
 have o5:Own w5 108 2 (.slice (some ⟨w4.heap.size,0,none⟩) 2 2) 2 (idxCells [⟨.slice (some ⟨w2.heap.size,0,none⟩) 1 1,[0],true⟩,⟨.slice (some ⟨w3.heap.size,0,none⟩) 1 1,[1],true⟩]):=by
  rw [←h5];exact Own.made w4 108 2 _ [] 2 2 rfl (by intro u hu;simp [idxCells,IdxV.cells] at hu;rcases hu with rfl|rfl|rfl|rfl<;>rfl) zTbe zdUY (by simp [idxCells,IdxV.cells])
 have hN:∀ q,w1.heap.size≤q→¬ q=w.heap.size:=fun q hq he=>zTbe
 refine ⟨⟨?_,⟨?_,?_⟩,?_,hnm⟩,c05.trans (h6.below c05.size (fun q hq=>zTbe))⟩
 ·exact (((o2.sl (B:=fun q=>w1.heap.size≤q) (fun q hq=>by cases hq;exact Nat.le_refl _)).below c35).only h6 hN).mono (Nat.le_refl _) (fun _ _ _=>rfl) (fun q hq _=>zTbe)
 ·exact (((o5.sl (B:=fun q=>w1.heap.size≤q) (fun q hq=>zj9M))).only h6 hN).mono (Nat.le_refl _) (fun _ _ _=>rfl) (fun q hq _=>zTbe)
 ·intro x hx
  simp only [exT,List.mem_cons,List.not_mem_nil,or_false] at hx
  rcases hx with rfl|rfl
  ·exact (((o3.sl (B:=fun q=>w1.heap.size≤q) (fun q hq=>zj9M)).below c45).only h6 hN).mono (Nat.le_refl _) (fun _ _ _=>rfl) (fun q hq _=>zTbe)
  ·exact (((o4.sl (B:=fun q=>w1.heap.size≤q) (fun q hq=>zj9M)).below b5).only h6 hN).mono (Nat.le_refl _) (fun _ _ _=>rfl) (fun q hq _=>zTbe)
 ·intro c hc
  simp only [exT,List.mem_cons,List.not_mem_nil,or_false] at hc
  rcases hc with rfl|rfl<;>(show (1:Nat)≤maxLen;decide)
theorem plan09_any (w:World):Calls Tryz.prog 54 #[] w (PlanOut w (exT ⟨#[116]⟩ 2 5 2)):=by
 obtain ⟨w1,hw1⟩:∃ w1,w.alloc (.cells #[.string ⟨#[]⟩,.slice none 0 0,.slice none 0 0,.int .i64 0,.int .i64 0,.int .i64 0] 25)=w1:=⟨_,rfl⟩
 obtain ⟨w2,hw2⟩:∃ w2,w1.alloc (.cells #[.string ⟨#[97]⟩,.int .i64 1,.string ⟨#[98]⟩,.int .i64 2] 110)=w2:=⟨_,rfl⟩
 obtain ⟨w3,hw3⟩:∃ w3,w2.alloc (.cells #[.int .i64 0] 3)=w3:=⟨_,rfl⟩
 obtain ⟨w4,hw4⟩:∃ w4,w3.alloc (.cells #[.int .i64 1] 3)=w4:=⟨_,rfl⟩
 obtain ⟨w5,hw5⟩:∃ w5,w4.alloc (.cells #[.slice (some ⟨w2.heap.size,0,none⟩) 1 1,.bool true,.slice (some ⟨w3.heap.size,0,none⟩) 1 1,.bool true] 108)=w5:=⟨_,rfl⟩
 have b1:=zppX
 have b2:=zXxX
 have b3:=zUeY
 have b4:=zvR2
 have b5:Below w4.heap.size w4 w5:=hw5▸(Below.refl _ _).alloc (Nat.le_refl _) _
 have k1:Blk w1 w.heap.size 25 [.string ⟨#[]⟩,.slice none 0 0,.slice none 0 0,.int .i64 0,.int .i64 0,.int .i64 0]:=hw1▸Blk.new w _ _
 have hlt1:=k1.lt
 have k5:=(((k1.below b2).below b3).below b4).below b5
 have HK5:=Lib.hid k5
 obtain ⟨z0,z1,z2,z3,z4,z5⟩:=sch_cells k5
 have zf:∀ i,w5.frozen? ⟨w.heap.size,i,none⟩=false:=k5.frozen
 have zl:=k5.lt
 have HW1:=Lib.hid b1
 have HL1:=Lib.hid hlt1
 have HW2:=Lib.hid hw2
 have HW3:=Lib.hid hw3
 have HW4:=Lib.hid hw4
 have HW5:=Lib.hid hw5
 clear b1 b2 b3 b4 b5 k1 k5 hlt1
 go_enter Tryz.func54,Tryz.ntmps54
 go_wp2
 clear hw1 hw2 hw3 hw4 hw5
 obtain ⟨hk,hon⟩:=set_six HK5.out (.string ⟨#[116]⟩) (.slice (some ⟨w1.heap.size,0,none⟩) 2 2) (.slice (some ⟨w4.heap.size,0,none⟩) 2 2) (.int .i64 5) (.int .i64 2) (.int .i64 0)
 generalize ((((((w5.setCell ⟨w.heap.size,0,none⟩ (.string ⟨#[116]⟩)).setCell ⟨w.heap.size,1,none⟩ (.slice (some ⟨w1.heap.size,0,none⟩) 2 2)).setCell ⟨w.heap.size,2,none⟩ (.slice (some ⟨w4.heap.size,0,none⟩) 2 2)).setCell ⟨w.heap.size,3,none⟩ (.int .i64 5)).setCell ⟨w.heap.size,4,none⟩ (.int .i64 2)).setCell ⟨w.heap.size,5,none⟩ (.int .i64 0))=wE at *
 obtain ⟨m0,m1,m2,m3,m4,m5⟩:=sch_cells hk
 obtain ⟨hs,hb⟩:=exT_at (nm:=⟨#[116]⟩) (by show (1:Nat)≤maxLen;decide) 2 5 2 HW1.out HW2.out HW3.out HW4.out HW5.out hon HL1.out
 exact bodyPost_ret (v:=.agg #[.string ⟨#[116]⟩,.slice (some ⟨w1.heap.size,0,none⟩) 2 2,.slice (some ⟨w4.heap.size,0,none⟩) 2 2,.int .i64 5,.int .i64 2,.int .i64 0]) (by simp [results,Tryz.results54,go_sem,m0,m1,m2,m3,m4,m5]) rfl ⟨_,_,_,_,rfl,hs,hb⟩
def TabC (w:World) (g:TabG):Prop:=TabW w (fun k=>k∉feet g.res) g
theorem StepT.c {w w':World} {g g':TabG} (hs:StepT w w' (fun k=>k∉feet g.res) g g'):TabC w' g' :=
 ⟨hs.tab.ok.wide fun k hk hm=>hs.tab.dis k hm hk,hs.tab.sep,fun k hk h=>h hk⟩
theorem TabC.of {w:World} {R:Nat→Prop} {g:TabG} (h:TabW w R g):TabC w g:=⟨h.ok.wide fun k hk hm=>h.dis k hm hk,h.sep,fun _ hk h=>h hk⟩
theorem TabC.below {w w':World} {g:TabG} (h:TabC w g) (hb:Below w.heap.size w w'):TabC w' g:=TabW.below h hb
def exR1:List AV:=[⟨1,1,⟨#[]⟩⟩,⟨2,0,⟨#[120]⟩⟩]
def exR2:List AV:=[⟨1,2,⟨#[]⟩⟩,⟨2,0,⟨#[120]⟩⟩]
theorem exT_right (a b c d:Value):rightS (exT ⟨#[116]⟩ 2 5 2 a b c d)=true:=zyVB
theorem exT_in1 (a b c d:Value):insMd (exT ⟨#[116]⟩ 2 5 2 a b c d) [] exR1=([exR1],0):=zyVB
theorem exT_in2 (a b c d:Value):insMd (exT ⟨#[116]⟩ 2 5 2 a b c d) [exR1] exR2=([exR1],9):=zyVB
theorem rowCells_ones (l:List AV):Ones (rowCells l):=by
 intro u hu
 unfold rowCells at hu
 obtain ⟨c,hc,hu⟩:=List.mem_flatten.1 hu
 obtain ⟨a,_,rfl⟩:=List.mem_map.1 hc
 simp [AV.cells] at hu
 rcases hu with rfl|rfl|rfl<;>rfl
theorem ex_own {w:World} {r:List AV} (h:r.length=2):Own (w.alloc (.cells (rowCells r).toArray 113)) 113 3 (.slice (some ⟨w.heap.size,0,none⟩) 2 2) 2 (rowCells r):=by
 have hl:(rowCells r).length=6:=by rw [rowCells_length,h]
 have:=Own.made w 113 3 (rowCells r) [] 2 2 zTbe (rowCells_ones r) zTbe zdUY (by rw [List.append_nil,hl];omega)
 rwa [List.append_nil] at this
theorem awake09_any (w:World) (hm:Mx w):Calls Tryz.prog 13 #[] w fun e w'=>e=.returned (.bool true)∧Below w.heap.size w w':=by
 have HM:=Lib.hid hm
 have HPL:=Lib.hid (plan09_any w)
 clear hm
 go_enter Tryz.func13,Tryz.ntmps13
 go_wp2_with fail
 refine HPL.out.mono ?_
 rintro e w1 ⟨a,b,c,d,rfl,hs1,hb1⟩
 have HB1:=Lib.hid hb1
 have HN:=Lib.hid (tabnew_any w1 (HM.out.below hb1) _ _ hs1 (by simp [exT]) (by simp [exT]) (by intro x hx;simp [exT] at hx;rcases hx with rfl|rfl<;>simp))
 clear HPL hs1 hb1
 go_wp2_with fail
 refine HN.out.mono ?_
 clear HN
 rintro e w2 (⟨h1,_⟩|⟨_,g,rfl,hal,hgl,htk,htab⟩)
 ·rw [exT_right] at h1;cases h1
 have HAL:=Lib.hid hal
 have hbk:Below w1.heap.size w1 w2:=htk.only.below (Nat.le_refl _) (fun q hq=>by simp at hq)
 have HB2:=Lib.hid (HB1.out.trans (hbk.mono HB1.out.size))
 have hc2:TabC w2 g:=⟨htab.wide (fun k hk=>hk.1),htk.sep,fun k hk h=>h hk⟩
 have HFT:Hid (∀ k∈feet g.res,w1.heap.size≤k):=Lib.hid fun k hk=>(htk.foot k hk).elim (fun h=>zhtf) id
 have hr0:g.rows=[]:=by unfold TabG.rows;rw [hgl];rfl
 obtain ⟨w3,hw3⟩:∃ w3,w2.alloc (.cells #[.int .i64 2,.int .i64 0,.string ⟨#[120]⟩] 113)=w3:=⟨_,rfl⟩
 have hb3:=zUeY
 have hk3:Blk w3 w2.heap.size 113 [.int .i64 2,.int .i64 0,.string ⟨#[120]⟩]:=hw3▸Blk.new w2 _ _
 obtain ⟨w4,hw4⟩:∃ w4,w3.alloc (.cells (rowCells exR1).toArray 113)=w4:=⟨_,rfl⟩
 have hb4:=zvR2
 have ho4:Own w4 113 3 (.slice (some ⟨w3.heap.size,0,none⟩) 2 2) 2 (rowCells exR1):=hw4▸ex_own rfl
 have hw4':w3.alloc (.cells #[.int .i64 1,.int .i64 1,.string ⟨#[]⟩,.int .i64 2,.int .i64 0,.string ⟨#[120]⟩] 113)=w4:=hw4
 have hc4:=(hc2.below hb3).below hb4
 have HIN:=Lib.hid (tins_md w4 _ g hc4 (fun _=>True) _ exR1 (ho4.sl (fun _ _=>trivial)) (by intro x hx;simp [exR1] at hx;rcases hx with rfl|rfl<;>simp [fit64]) (by simp [exR1]))
 rw [hal.ins,hr0,exT_in1] at HIN
 have HK3:=Lib.hid (hk3.below hb4)
 have HB4:=Lib.hid (HB2.out.trans ((hb3.trans (hb4.mono hb3.size)).mono HB2.out.size))
 have HC4:=Lib.hid hc4
 have e0:=hk3.cell 0
 have e1:=hk3.cell 1
 have e2:=hk3.cell 2
 simp only [List.getElem?_cons_zero,List.getElem?_cons_succ] at e0 e1 e2
 have HZ2:=Lib.hid hb3.size
 have HZ3:=Lib.hid hk3.lt
 have HLT:Hid (∀ k∈feet g.res,k < w2.heap.size):=Lib.hid htk.sep.lt
 clear hal hbk htk htab hc2 hgl hr0 hb3 hk3 hw4 hb4 ho4 hc4
 go_wp2_with fail
 refine HIN.out.mono ?_
 rintro e w5 ⟨rfl,g5,hst5,hr5⟩
 clear HIN hw3 hw4' e0 e1 e2
 have hc5:TabC w5 g5:=hst5.c
 have hr5':g5.rows=[exR1]:=hr5
 have hs5:g5.S=g.S:=hst5.sch
 have HTB5:Hid (g5.tb=g.tb):=hst5.tb
 have hfe:∀ k,k∈feet g.res→w.heap.size≤k:=fun k hk=>Nat.le_trans HB1.out.size (HFT.out k hk)
 have hbel5:Below w.heap.size w w5:=HB4.out.trans (hst5.trk.only.below HB4.out.size hfe)
 have hdj:∀ k,k∈feet g.res→w2.heap.size≠k:=fun k hk he=>by have:=HLT.out k hk;omega
 have hk5:Blk w5 w2.heap.size 113 [.int .i64 2,.int .i64 0,.string ⟨#[120]⟩]:=HK3.out.only hst5.trk.only fun h=>hdj _ h rfl
 obtain ⟨w6,hw6⟩:∃ w6,w5.alloc (.cells (rowCells exR2).toArray 113)=w6:=⟨_,rfl⟩
 have hb6:=zxRo
 have ho6:Own w6 113 3 (.slice (some ⟨w5.heap.size,0,none⟩) 2 2) 2 (rowCells exR2):=hw6▸ex_own rfl
 have hw6':w5.alloc (.cells #[.int .i64 1,.int .i64 2,.string ⟨#[]⟩,.int .i64 2,.int .i64 0,.string ⟨#[120]⟩] 113)=w6:=hw6
 have hc6:=hc5.below hb6
 have HIN:=Lib.hid (tins_md w6 _ g5 hc6 (fun _=>True) _ exR2 (ho6.sl (fun _ _=>trivial)) (by intro x hx;simp [exR2] at hx;rcases hx with rfl|rfl<;>simp [fit64]) (by simp [exR2]))
 rw [hr5',hs5,HAL.out.ins,exT_in2,HTB5.out] at HIN
 have HFT5:Hid (∀ k∈feet g5.res,w.heap.size≤k):=Lib.hid fun k hk=>(hst5.trk.foot k hk).elim (hfe k) (fun h=>Nat.le_trans HB4.out.size h)
 have HB6:=Lib.hid (hbel5.trans (hb6.mono hbel5.size))
 have e0:=hk5.cell 0
 have e1:=hk5.cell 1
 have e2:=hk5.cell 2
 simp only [List.getElem?_cons_zero,List.getElem?_cons_succ] at e0 e1 e2
 clear hc5 hr5 hr5' hs5 hst5 hfe hbel5 hdj hk5 hw6 hb6 ho6 hc6
 go_wp2_with fail
 refine HIN.out.mono ?_
 rintro e w7 ⟨rfl,g7,hst7,hr7⟩
 clear HIN hw6' e0 e1 e2
 have hc7:TabC w7 g7:=hst7.c
 have hr7':g7.rows=[exR1]:=hr7
 have hl7:g7.L.length=1:=by rw [←TabG.rows_len,hr7'];rfl
 have htb7:g7.tb=g.tb:=hst7.tb.trans HTB5.out
 have hbel7:Below w.heap.size w w7:=HB6.out.trans (hst7.trk.only.below HB6.out.size HFT5.out)
 have HB7:=Lib.hid hbel7
 have hle:=tlen_any w7 _ g7 hc7.ok hc7.sep
 have hro:=trows_any w7 _ g7 hc7.ok hc7.sep (fun _=>True) _ [] (sl_none w7 _ 1)
 rw [htb7] at hle hro
 rw [hl7] at hle
 rw [hr7'] at hro
 have HLE:=Lib.hid hle
 have HRO:=Lib.hid hro
 clear hc7 hr7 hr7' hl7 htb7 hbel7 hst7 hle hro
 go_wp2_with fail
 refine HLE.out.mono ?_
 rintro e w8 ⟨rfl,rfl⟩
 clear HLE
 go_wp2_with fail
 refine HRO.out.mono ?_
 rintro e w9 ⟨v,rws,rfl,hrs,hrm⟩
 have hrl:rws.length=1:=by have:=congrArg List.length hrm;simpa [inP] using this
 obtain ⟨pv,cv,hpv,_,_⟩:=own_formT hrs.1
 rw [hrl] at hpv
 subst hpv
 have HB9:=Lib.hid (HB7.out.trans (hrs.2.2.1.mono HB7.out.size))
 clear hrs hrm hrl HRO
 go_wp2
 go_ret
 exact ⟨rfl,HB9.out⟩
theorem flat_length {α:Type} (f:α→List Value) (n:Nat) (hf:∀ a,(f a).length=n) (l:List α):((l.map f).flatten).length=l.length*n:=by
 have hlen:∀ c∈l.map f,c.length=n:=by
  exact ztz1
 exact z6Ba
theorem flat_at {α:Type} (f:α→List Value) (n:Nat) (hf:∀ a,(f a).length=n) (l:List α) (k r:Nat) (hk:k < l.length) (hr:r < n):((l.map f).flatten)[k*n+r]?=(f l[k])[r]?:=by
 have hlen:∀ c∈l.map f,c.length=n:=by
  exact ztz1
 exact zAOB
theorem sl_actT {w:World} {B:Nat→Prop} {v:Value} {l:List ActT} (h:Sl w B 5 v l.length (actCT l)) {k:Nat} (hk:k < l.length) :
 ∃ g off cap,v=.slice (some ⟨g,off,none⟩) l.length cap∧g < w.heap.size∧w.cell? ⟨g,off+k*5,none⟩=some (.int .i64 l[k].kind)∧w.cell? ⟨g,off+k*5+1,none⟩=some (.int .i64 l[k].n)∧w.cell? ⟨g,off+k*5+2,none⟩=some (.string l[k].key) ∧
  w.cell? ⟨g,off+k*5+3,none⟩=some l[k].rv∧w.cell? ⟨g,off+k*5+4,none⟩=some l[k].sv:=by
 obtain ⟨g,off,cap,hv,_,_,_,hglt,hc⟩:=h.place zTbe
 have hL:(actCT l).length=l.length*5:=flat_length actCT1 5 (fun _=>rfl) l
 have get:∀ r,r < 5→w.cell? ⟨g,off+(k*5+r),none⟩=(actCT1 l[k])[r]?:=fun r hr=>by
  rw [hc _ (by rw [hL];omega)];exact flat_at actCT1 5 (fun _=>rfl) l k r hk hr
 exact ⟨g,off,cap,hv,hglt,get 0 zTbe,get 1 zTbe,get 2 zTbe,get 3 zTbe,get 4 zTbe⟩
theorem ActsAt.forms {w:World} {B:Nat→Prop} {v:Value} {l:List ActT} (h:ActsAt w B v l):∀ a∈l,(∃ p n c,a.rv=.slice p n c)∧∃ p n c,a.sv=.slice p n c:=fun a ha=>by
 obtain ⟨p,c,h1,_⟩:=(h.row a ha).form
 obtain ⟨q,d,h2,_⟩:=(h.rows a ha).1.form
 exact ⟨⟨p,_,c,h1⟩,⟨q,_,d,h2⟩⟩
theorem gB_len {l:List AV} (h:greatB l=false):l.length≤1000∧∀ a∈l,a.s.size≤300:=by
 unfold greatB at h
 rw [Bool.or_eq_false_iff,decide_eq_false_iff_not,List.any_eq_false] at h
 exact ⟨zTbe,fun a ha=>by have:=h.2 a ha;simpa using this⟩
theorem gRB_len {l:List (List AV)} (h:greatRowsB l=false):l.length≤1000∧∀ r∈l,r.length≤1000∧∀ a∈r,a.s.size≤300:=by
 unfold greatRowsB at h
 rw [Bool.or_eq_false_iff,decide_eq_false_iff_not,List.any_eq_false] at h
 exact ⟨zTbe,fun a ha=>gB_len (by simpa using h.2 a ha)⟩
structure FineA (a:ActT):Prop where
 row:a.row.length≤1000∧∀ x∈a.row,x.s.size≤300
 rows:a.rows.length≤1000∧∀ r∈a.rows,r.l.length≤1000∧∀ x∈r.l,x.s.size≤300
 key:a.key.size≤300
structure FineT (S:SchV) (l:List ActT):Prop where
 sch:greatS S.name S.cols S.idx=false
 len:l.length≤40
 acts:∀ a∈l,FineA a
theorem gA_fine {a:ActT} (h1:greatB a.row=false) (h2:greatRowsB (a.rows.map RowV.l)=false) (h3:a.key.size≤300):FineA a:=by
 obtain ⟨g1,g2⟩:=gRB_len h2
 exact ⟨gB_len h1,⟨by simpa using g1,fun r hr=>g2 _ (List.mem_map_of_mem hr)⟩,h3⟩
theorem great09_any (w:World) (B B':Nat→Prop) (S:SchV) (hs:SchAt w B S) (v:Value) (l:List ActT) (h:ActsAt w B' v l) :
 Calls Tryz.prog 11 #[S.agg,v] w fun e w'=>∃ b,e=.returned (.bool b)∧Below w.heap.size w w'∧(b=false→FineT S l):=by
 obtain ⟨p,cap,rfl,hc1,hc2⟩:=h.sl.form
 have HS:=Lib.hid h
 have HG:=Lib.hid (fun W (hb:Below w.heap.size w W)=>great_sch W B S (hs.below hb).cols (hs.below hb).idx)
 obtain ⟨pc,cc,hcv,_,_⟩:=hs.cols.form
 obtain ⟨pi,ci,hiv,_,_⟩:=hs.idx.1.form
 obtain ⟨nc,hnc⟩:=zAx9
 obtain ⟨ni,hni⟩:=zcSB
 rw [hnc] at hcv
 rw [hni] at hiv
 simp only [SchV.agg,hcv,hiv] at HG ⊢
 obtain ⟨gs,hgs⟩:∃ gs,greatS S.name S.cols S.idx=gs:=⟨_,rfl⟩
 rw [hgs] at HG
 have HGS:=Lib.hid hgs
 have HFO:=Lib.hid h.forms
 have HGR:=Lib.hid (fun W (hb:Below w.heap.size w W) a (ha:a∈l)=>great_row W B' a.rv a.row ((h.row a ha).below hb))
 have HGW:=Lib.hid (fun W (hb:Below w.heap.size w W) a (ha:a∈l)=>great_rows W B' a.sv a.rows ((h.rows a ha).below hb))
 have hal:Below w.heap.size w (w.alloc (.cells #[.string S.name,.slice pc nc cc,.slice pi ni ci,.int .i64 S.limit,.int .i64 S.parts,.int .i64 S.by_] 25)):=(Below.refl _ _).alloc (Nat.le_refl _) _
 have hkk:=Blk.new w 25 [.string S.name,.slice pc nc cc,.slice pi ni ci,.int .i64 S.limit,.int .i64 S.parts,.int .i64 S.by_]
 obtain ⟨w1,hw1⟩:=zZts
 rw [hw1] at hal
 have hkk:Blk w1 w.heap.size 25 [.string S.name,.slice pc nc cc,.slice pi ni ci,.int .i64 S.limit,.int .i64 S.parts,.int .i64 S.by_]:=hw1▸hkk
 have HAL:=Lib.hid hal
 have HG1:=Lib.hid (HG.out w1 hal)
 obtain ⟨x0,x1,x2,x3,x4,x5⟩:=sch_cells hkk
 obtain ⟨n,hnn⟩:=zwjg
 rw [hnn] at hc1 ⊢
 have HN:=Lib.hid hnn
 clear h hs hcv hiv hnc hni hgs hal hkk hnn HG
 go_enter Tryz.func11,Tryz.ntmps11
 go_wp2_with fail
 clear hw1 x0 x1 x2 x3 x4 x5
 refine HG1.out.mono ?_
 rintro e w2 ⟨rfl,hb2⟩
 clear HG1
 have HB2:=Lib.hid (HAL.out.trans (hb2.mono HAL.out.size))
 clear hb2
 cases gs with
 | true =>
  go_wp2
  go_ret
  exact ⟨true,rfl,HB2.out,zPXO⟩
 | false =>
  by_cases hl:40 < n
  ·go_wp2
   go_ret
   exact ⟨true,rfl,HB2.out,zPXO⟩
  ·go_wp2
   go_loopw [5] (fun i wr=>∃ k:Nat,i=.int .i64 k∧k≤n∧Hid (∀ a∈l.take k,FineA a)∧Below w.heap.size w wr) (fun i _=>n - (intOf i).toNat)
   case atStart=>exact ⟨0,rfl,Nat.zero_le _,Lib.hid zPXO,HB2.out⟩
   case round =>
    obtain ⟨k,rfl,hk,hkt,hbel⟩:=hrel
    have HBL:=Lib.hid hbel
    by_cases hkx:k < n
    ·have hkl:k < l.length:=by rw [HN.out];exact hkx
     obtain ⟨g,off,cap',hv,hg,e0,e1,e2,e3,e4⟩:=sl_actT (HS.out.below hbel).sl hkl
     rw [HN.out] at hv
     cases hv
     have hmk:l[k]∈l:=List.getElem_mem hkl
     have hx1:l.take (k+1)=l.take k++[l[k]]:=by rw [List.take_succ_eq_append_getElem hkl]
     obtain ⟨⟨pr,nr,cr,hrv⟩,⟨ps,ns,cs,hsv⟩⟩:=HFO.out _ hmk
     have HR1:=Lib.hid (HGR.out wr hbel _ hmk)
     have HR2:=Lib.hid (fun W hb=>HGW.out W hb _ hmk)
     generalize l[k]=x at *
     rw [hrv] at e3 HR1
     rw [hsv] at e4 HR2
     have HX:=Lib.hid hx1
     obtain ⟨g1,hg1⟩:∃ g1,greatB x.row=g1:=⟨_,rfl⟩
     obtain ⟨g2,hg2⟩:∃ g2,greatRowsB (x.rows.map RowV.l)=g2:=⟨_,rfl⟩
     rw [hg1] at HR1
     rw [hg2] at HR2
     have HQ1:=Lib.hid hg1
     have HQ2:=Lib.hid hg2
     have HE2:=Lib.hid e2
     have HE4:=Lib.hid e4
     have HGG:=Lib.hid hg
     obtain ⟨ks,hks⟩:∃ ks,x.key.size=ks:=⟨_,rfl⟩
     have HKS:=Lib.hid hks
     clear hbel hx1 hg1 hg2 hrv hsv hmk e0 e1 e2 e4
     go_wp2_with fail
     refine HR1.out.mono ?_
     rintro e w3 ⟨rfl,hb3⟩
     clear HR1
     have hb03:=HBL.out.trans (hb3.mono HBL.out.size)
     have HB3:=Lib.hid hb03
     have e4:=(hb3.cell (p:=⟨g,off+k*5+4,none⟩) HGG.out).trans HE4.out
     have HE32:=Lib.hid ((hb3.cell (p:=⟨g,off+k*5+2,none⟩) HGG.out).trans HE2.out)
     have HG3:=Lib.hid (Nat.lt_of_lt_of_le HGG.out hb3.size)
     clear hb3 e3 hb03 hg
     cases g1 with
     | true =>
      go_wp2
      go_ret
      exact ⟨true,rfl,HB3.out,zPXO⟩
     | false =>
      have HR3:=Lib.hid (HR2.out w3 HB3.out)
      clear HR2
      go_wp2_with fail
      refine HR3.out.mono ?_
      rintro e w4 ⟨rfl,hb4⟩
      clear HR3 e4
      have HB4:=Lib.hid (HB3.out.trans (hb4.mono HB3.out.size))
      have e2:=(hb4.cell (p:=⟨g,off+k*5+2,none⟩) HG3.out).trans HE32.out
      clear hb4
      cases g2 with
      | true =>
       go_wp2
       go_ret
       exact ⟨true,rfl,HB4.out,zPXO⟩
      | false =>
       by_cases hb:300 < ks
       ·go_wp2
        go_ret
        exact ⟨true,rfl,HB4.out,zPXO⟩
       ·go_wp2
        go_roundw
        case rel=>exact ⟨k+1,z3KH,zTbe,Lib.hid (by
         rw [HX.out]
         intro a ha
         rcases List.mem_append.1 ha with h1|h1
         ·exact hkt.out a h1
         ·rw [List.mem_singleton.1 h1];exact gA_fine HQ1.out HQ2.out (by rw [HKS.out];omega)),HB4.out⟩
        case measure=>(simp [intOf])<;>omega
    ·have hk2:k=n:=by omega
     clear hbel
     go_wp2
     go_ret
     refine ⟨false,rfl,HBL.out,fun _=>⟨HGS.out,by rw [HN.out];omega,?_⟩⟩
     have h1:=hkt.out
     rw [hk2,←HN.out,List.take_length] at h1
     exact h1
def ActT.agg (a:ActT):Value:=.agg #[.int .i64 a.kind,.int .i64 a.n,.string a.key,a.rv,a.sv]
theorem kb_self (s:ByteArray):kb s.toList=s:=by rw [ByteArray.toList_eq];unfold kb;rw [Array.toArray_toList]
theorem keyM_1 {S:SchV} {m:List (List AV)} {a:ActT} (h:m.length=0∨a.n < 0):kb (keyM S m a)=a.key:=by unfold keyM;rw [if_pos h];exact kb_self _
theorem keyM_2 {S:SchV} {m:List (List AV)} {a:ActT} (h:¬ (m.length=0∨a.n < 0)) {r:List AV} (hr:m[a.n.toNat % m.length]?=some r):keyM S m a=kfS S 0 r:=by
 unfold keyM
 rw [if_neg h,List.getD_eq_getElem?_getD,hr]
 rfl
theorem key09_any (w:World) (B:Nat→Prop) (S:SchV) (rv:Value) (rows:List RowV) (h:MdAt w B S rv rows) (hlen:rows.length≤1000) (a:ActT) (hn:fit64 a.n) (hfo:(∃ p n c,a.rv=.slice p n c)∧∃ p n c,a.sv=.slice p n c) :
 Calls Tryz.prog 81 #[mdV S rv,a.agg] w fun e w'=>e=.returned (.string (kb (keyM S (rows.map RowV.l) a)))∧Below w.heap.size w w':=by
 have hi0:0 < S.idx.length:=(sch_small h.right).2.2.1
 have hkey:=fun w2 hb r hr=>h.key w2 hb 0 hi0 r hr
 have HRA:=Lib.hid h.ra
 obtain ⟨⟨pc,nc,cc,hcv⟩,⟨pi,ni,ci,hiv⟩,⟨pr,cr,hrv,hcr1,hcr2⟩,hrf⟩:=h.forms
 have HRF:=Lib.hid hrf
 subst hrv
 simp only [SchV.agg,hcv,hiv] at hkey
 have HKEY:=Lib.hid hkey
 simp only [mdV,hcv,hiv]
 obtain ⟨⟨p1,n1,c1,hv1⟩,⟨p2,n2,c2,hv2⟩⟩:=hfo
 simp only [ActT.agg,hv1,hv2]
 have hk1:=fun hh=>keyM_1 (S:=S) (m:=rows.map RowV.l) (a:=a) hh
 have hk2:=fun hh r hr=>keyM_2 (S:=S) (m:=rows.map RowV.l) (a:=a) hh (r:=r) hr
 rw [List.length_map] at hk1 hk2
 obtain ⟨ak,an,as_,av1,ar,av2,ars⟩:=a
 simp only at hk1 hk2 hn hv1 hv2 ⊢
 generalize keyM S (rows.map RowV.l) _=km at *
 have HK1:=Lib.hid hk1
 have HK2:=Lib.hid hk2
 have hal:=z0KE
 have hkm:=Blk.new w 34 [.string S.name,.slice pc nc cc,.slice pi ni ci,.int .i64 S.limit,.int .i64 S.parts,.int .i64 S.by_,.slice pr rows.length cr]
 obtain ⟨w1,hw1⟩:=zC8e
 rw [hw1] at hal
 have hkm:=zJ1I
 have HAL:=Lib.hid hal
 have HKM:=Lib.hid hkm
 obtain ⟨w2,hw2⟩:∃ w2,w1.alloc (.cells #[.int .i64 ak,.int .i64 an,.string as_,.slice p1 n1 c1,.slice p2 n2 c2] 104)=w2:=⟨_,rfl⟩
 have hb12:=zXxX
 have hka:Blk w2 w1.heap.size 104 [.int .i64 ak,.int .i64 an,.string as_,.slice p1 n1 c1,.slice p2 n2 c2]:=hw2▸Blk.new w1 _ _
 have a1:=hka.cell 1
 have a2:=hka.cell 2
 simp only [List.getElem?_cons_zero,List.getElem?_cons_succ] at a1 a2
 have hz1:=hka.lt
 obtain ⟨x0,x1,x2,x3,x4,x5,x6⟩:=md_cells (hkm.below hb12)
 have hlx:=(hkm.below hb12).lt
 have HB2:=Lib.hid (hal.trans (hb12.mono hal.size))
 clear h hkey hrf hcv hiv hal hkm hk1 hk2 hb12 hka hi0 hv1 hv2 av1 av2
 by_cases h0:rows.length=0
 ·skip
  have d0:((rows.length:Int) == 0)=true:=beq_iff_eq.2 zTbe
  have HE:=Lib.hid (HK1.out (.inl h0))
  exact zn2b
 ·have d0:((rows.length:Int) == 0)=false:=beq_eq_false_iff_ne.2 zTbe
  by_cases hng:an < 0
  ·skip
   have HE:=Lib.hid (HK1.out (.inr hng))
   exact zn2b
  ·skip
   obtain ⟨N,rfl⟩:∃ N:Nat,an=(N:Int):=⟨an.toNat,zTbe⟩
   have hlt:N % rows.length < rows.length:=Nat.mod_lt _ zTbe
   have hmk:rows[N % rows.length]∈rows:=List.getElem_mem hlt
   have HE:=Lib.hid (HK2.out zTbe rows[N % rows.length].l (by rw [Int.toNat_natCast,List.getElem?_map,List.getElem?_eq_getElem hlt];rfl))
   obtain ⟨gr,or_,cpr,hvr,ek⟩:=(HRA.out.below HB2.out).at hlt
   cases hvr
   have hgr:=World.block_lt_of_cell? _ _ ek
   obtain ⟨px,nx,cx,hxv⟩:=HRF.out _ hmk
   rw [hxv] at ek
   have hKJ:=HKEY.out w2.drew HB2.out.drew _ hmk
   rw [hxv] at hKJ
   have HKJ:=Lib.hid hKJ
   have hmod:(N:Int).tmod (rows.length:Int)=((N % rows.length:Nat):Int):=by rw [Int.tmod_eq_emod_of_nonneg zTbe];simp
   generalize rows[N % rows.length].l=rl at *
   generalize N % rows.length=q at *
   have hz:¬ (rows.length=0):=h0
   have hrl1:(1:Int)≤(rows.length:Int):=zTbe
   have hwq:IntKind.i64.wrap (q:Int)=(q:Int):=IntWalk.i64_in _ zTbe
   clear hKJ hmk hxv
   go_enter Tryz.func81,Tryz.ntmps81
   go_upto_region 3 with fail
   clear hw1 hw2
   have d0:w2.drew.cell? ⟨w.heap.size,0,none⟩=some (.string S.name):=x0
   have d1:w2.drew.cell? ⟨w.heap.size,1,none⟩=some (.slice pc nc cc):=x1
   have d2:w2.drew.cell? ⟨w.heap.size,2,none⟩=some (.slice pi ni ci):=x2
   have d3:w2.drew.cell? ⟨w.heap.size,3,none⟩=some (.int .i64 S.limit):=x3
   have d4:w2.drew.cell? ⟨w.heap.size,4,none⟩=some (.int .i64 S.parts):=x4
   have d5:w2.drew.cell? ⟨w.heap.size,5,none⟩=some (.int .i64 S.by_):=x5
   have d6:w2.drew.cell? ⟨w.heap.size,6,none⟩=some (.slice (some ⟨gr,or_,none⟩) rows.length cr):=x6
   have dek:w2.drew.cell? ⟨gr,or_+q,none⟩=some (.slice px nx cx):=ek
   have da1:w2.drew.cell? ⟨w1.heap.size,1,none⟩=some (.int .i64 (N:Int)):=a1
   clear x0 x1 x2 x3 x4 x5 x6 ek a1 a2
   refine wp_region_lit_plan [] [(0,0),(2,0),(4,0),(6,0),(1,1),(3,1),(5,1),(7,1),(8,0),(9,0),(10,0),(11,1),(12,4),(13,0)] (fun _=>False) zyVB zyVB (fun c a d v w h=>zx0I) ?_
   go_wp2_with (first
    | (refine stp ?_)
    | (go_at_call 18;refine HKJ.out.mono ?_;clear HKJ;rintro e w3 ⟨rfl,hb3⟩;have HB3:=Lib.hid (HB2.out.drew.trans (Below.mono hb3 HB2.out.size));clear hb3))
   go_ret
   exact ⟨by rw [HE.out];rfl,HB3.out⟩
theorem StepT.keep {w w':World} {g g':TabG} (hst:StepT w w' (fun k=>k∉feet g.res) g g') :
 w.heap.size≤w'.heap.size∧(∀ k,k∉feet g.res→k < w.heap.size→w'.heap[k]?=w.heap[k]?)∧(∀ k,k∉feet g.res→k < w.heap.size→k∉feet g'.res) :=
 ⟨hst.trk.only.size,fun k hk hl=>hst.trk.only.block k hl hk,fun k hk hl hm=>(hst.trk.foot k hm).elim hk (fun h=>zTbe)⟩
theorem TabC.lt {w:World} {g:TabG} (h:TabC w g):∀ k∈feet g.res,k < w.heap.size:=h.sep.lt
theorem MdAt.step {w w':World} {g g':TabG} {S:SchV} {v:Value} {rows:List RowV} (h:MdAt w (fun k=>k∉feet g.res) S v rows) (hst:StepT w w' (fun k=>k∉feet g.res) g g'):MdAt w' (fun k=>k∉feet g'.res) S v rows :=
 h.to hst.keep.1 hst.keep.2.1 hst.keep.2.2
theorem RowsAt.step {w w':World} {g g':TabG} {v:Value} {rows:List RowV} (h:RowsAt w (fun k=>k∉feet g.res) v rows) (hst:StepT w w' (fun k=>k∉feet g.res) g g'):RowsAt w' (fun k=>k∉feet g'.res) v rows :=
 h.to hst.keep.1 hst.keep.2.1 hst.keep.2.2
theorem Sl.step {w w':World} {g g':TabG} {v:Value} {n sz:Nat} {cs:List Value} (h:Sl w (fun k=>k∉feet g.res) sz v n cs) (hst:StepT w w' (fun k=>k∉feet g.res) g g'):Sl w' (fun k=>k∉feet g'.res) sz v n cs :=
 h.mono hst.keep.1 hst.keep.2.1 hst.keep.2.2
theorem Blk.step {w w':World} {R:Nat→Prop} {g g':TabG} {b:Nat} {t:TypeId} {cs:List Value} (h:Blk w b t cs) (hst:StepT w w' R g g') (hb:b∉feet g.res):Blk w' b t cs:=h.only hst.trk.only hb
structure ActAt (w:World) (B:Nat→Prop) (a:ActT):Prop where
 row:Sl w B 3 a.rv a.row.length (rowCells a.row)
 rows:RowsAt w B a.sv a.rows
 n64:fit64 a.kind∧fit64 a.n∧(∀ v∈a.row,fit64 v.n)∧∀ r∈a.rows,∀ v∈r.l,fit64 v.n
 fine:FineA a
theorem ActAt.to {w w':World} {R R':Nat→Prop} {a:ActT} (h:ActAt w R a) (hs:w.heap.size≤w'.heap.size) (hb:∀ k,R k→k < w.heap.size→w'.heap[k]?=w.heap[k]?) (hB:∀ k,R k→k < w.heap.size→R' k):ActAt w' R' a :=
 ⟨h.row.mono hs hb hB,h.rows.to hs hb hB,h.n64,h.fine⟩
theorem ActAt.below {w w':World} {R:Nat→Prop} {a:ActT} (h:ActAt w R a) (hb:Below w.heap.size w w'):ActAt w' R a:=h.to hb.size (fun k _ hl=>hb.block k hl) (fun _ hk _=>hk)
structure Pair (w:World) (R:Nat→Prop) (S:SchV) (g:TabG) (v:Value) (rows:List RowV):Prop where
 tab:TabW w R g
 like:Alike g.S S
 md:MdAt w R S v rows
 eq:rows.map RowV.l=g.rows
theorem Pair.below {w w':World} {R:Nat→Prop} {S:SchV} {g:TabG} {v:Value} {rows:List RowV} (h:Pair w R S g v rows) (hb:Below w.heap.size w w'):Pair w' R S g v rows:=⟨h.tab.below hb,h.like,h.md.below hb,h.eq⟩
theorem Pair.len {w:World} {R:Nat→Prop} {S:SchV} {g:TabG} {v:Value} {rows:List RowV} (h:Pair w R S g v rows):rows.length=g.L.length∧rows.length≤1000:=by
 have h1:=congrArg List.length h.eq
 rw [List.length_map,TabG.rows_len] at h1
 exact ⟨h1,by rw [h1];exact h.tab.ok.lim⟩
def DoesOut (w:World) (R:Nat→Prop) (S:SchV) (g:TabG) (rows:List RowV) (a:ActT) (e:Ending) (w':World):Prop :=
 ∃ g' lv rws,e=.returned (.tuple #[mdV S lv,.bool true])∧Pair w' (grow R w.heap.size (feet g'.res)) S g' lv rws∧rws.map RowV.l=(doMd S (rows.map RowV.l) a).1∧Trk w (feet g.res) w' g'.res∧g'.tb=g.tb
theorem Trk.side {w0 w w':World} {F:List Nat} {rs:List Res} {b:Nat} (h:Trk w0 F w rs) (ho:Only (fun q=>q=b) w w') (hb:w0.heap.size≤b) (hn:b∉feet rs):Trk w0 F w' rs :=
 ⟨h.sep.keep fun k hk=>ho.block k (h.sep.lt k hk) (fun he=>hn (he▸hk)),h.only.trans ho (fun i hi he=>zTbe),h.foot⟩
theorem TabW.side {w w':World} {R:Nat→Prop} {g:TabG} {b:Nat} (h:TabW w R g) (ho:Only (fun q=>q=b) w w') (hR:¬ R b) (hn:b∉feet g.res):TabW w' R g :=
 ⟨h.ok.to ho.size (fun k hk hl=>ho.block k hl (fun he=>hR (he▸hk))) (fun _ hk _=>hk),h.sep.keep fun k hk=>ho.block k (h.sep.lt k hk) (fun he=>hn (he▸hk)),h.dis⟩
theorem RowsAt.side {w w':World} {R:Nat→Prop} {v:Value} {rows:List RowV} {b:Nat} (h:RowsAt w R v rows) (ho:Only (fun q=>q=b) w w') (hR:¬ R b):RowsAt w' R v rows :=
 h.to ho.size (fun k hk hl=>ho.block k hl (fun he=>hR (he▸hk))) (fun _ hk _=>hk)
theorem SchAt.side {w w':World} {R:Nat→Prop} {S:SchV} {b:Nat} (h:SchAt w R S) (ho:Only (fun q=>q=b) w w') (hR:¬ R b):SchAt w' R S :=
 h.to ho.size (fun k hk hl=>ho.block k hl (fun he=>hR (he▸hk))) (fun _ hk _=>hk)
structure CutD (w w5:World) (R:Nat→Prop) (S:SchV) (g:TabG) (o:List (List AV)) (b11 b6:Nat) (g6:TabG) (lv:Value) (rws:List RowV) (wc:World):Prop where
 tab:TabW wc (grow (fun k=>R k∧k < w.heap.size) w5.heap.size (feet g6.res)) g6
 trk:Trk w (feet g.res) wc g6.res
 new:∀ k∈feet g6.res,k∈feet g.res∨w5.heap.size≤k
 tb:g6.tb=g.tb
 sch:g6.S=g.S
 rows:g6.rows=o
 eq:rws.map RowV.l=o
 ra:RowsAt wc (fun q=>(R q∧q < w.heap.size)∨(w5.heap.size≤q∧q∉feet g6.res)) lv rws
 sc:SchAt wc (fun q=>R q∧q < w.heap.size) S
 box:Blk wc b11 34 (mdC S lv)
 res:Blk wc b6 34 [.string ⟨#[]⟩,.slice none 0 0,.slice none 0 0,.int .i64 0,.int .i64 0,.int .i64 0,.slice none 0 0]
theorem doMd_0 {S:SchV} {m:List (List AV)} {a:ActT} (h:a.kind=0):doMd S m a=insMd S m a.row:=by unfold doMd;rw [if_pos h]
theorem doMd_1 {S:SchV} {m:List (List AV)} {a:ActT} (h:a.kind=1):doMd S m a=updMd S m (keyM S m a) a.row:=by unfold doMd;rw [if_neg zTbe,if_pos h]
theorem doMd_2 {S:SchV} {m:List (List AV)} {a:ActT} (h:a.kind=2):doMd S m a=delMd S m (keyM S m a):=by unfold doMd;rw [if_neg zTbe,if_neg zTbe,if_pos h]
theorem doMd_3 {S:SchV} {m:List (List AV)} {a:ActT} (h0:a.kind≠0) (h1:a.kind≠1) (h2:a.kind≠2):doMd S m a=loadMd S (a.rows.map RowV.l):=by unfold doMd;rw [if_neg h0,if_neg h1,if_neg h2]
theorem cutD_mk {w w5 w6 w7 w8:World} {R:Nat→Prop} {S:SchV} {g g6:TabG} {o:List (List AV)} {b11 b6:Nat} {lv:Value} {rws:List RowV} (hb5:Below w.heap.size w w5) (hsep:Sep w g.res)
 (hst:StepT w5 w6 (fun k=>R k∧k < w.heap.size) g g6) (hr6:g6.rows=o) (hsc:SchAt w6 (fun k=>R k∧k < w.heap.size) S)
 (hra:RowsAt w7 (fun q=>(R q∧q < w.heap.size)∨w6.heap.size≤q) lv rws) (hrm:rws.map RowV.l=o) (hb7:Below w6.heap.size w6 w7)
 (ho:Only (fun q=>q=b11) w7 w8) (hbox:Blk w8 b11 34 (mdC S lv)) (h1:w.heap.size≤b11) (h2:b11 < w5.heap.size) (h3:b6≠b11) (h4:b6 < w5.heap.size) (h5:w.heap.size≤b6)
 (hres:Blk w5 b6 34 [.string ⟨#[]⟩,.slice none 0 0,.slice none 0 0,.int .i64 0,.int .i64 0,.int .i64 0,.slice none 0 0]) :
 CutD w w5 R S g o b11 b6 g6 lv rws w8:=by
 have s6:=hst.trk.only.size
 have s7:=hb7.size
 have hg:=hsep.lt
 have h56:∀ k∈feet g6.res,k∈feet g.res∨w5.heap.size≤k:=hst.trk.foot
 have hnb:b11∉feet g6.res:=fun h=>by
  rcases h56 _ h with h|h
  ·have:=hg _ h;omega
  ·omega
 have hT0:Trk w (feet g.res) w7 g6.res:=(Trk.after (Trk.of_below hsep hb5) hst.trk).below hb7
 have hR:¬ grow (fun k=>R k∧k < w.heap.size) w5.heap.size (feet g6.res) b11:=fun h=>by
  rcases h with ⟨_,_,h⟩|⟨h,_⟩<;>omega
 refine ⟨(hst.tab.below hb7).side ho hR hnb,Trk.side hT0 ho h1 hnb,h56,hst.tb,hst.sch,hr6,hrm,?_,(hsc.below hb7).side ho (fun h=>zTbe),hbox,?_⟩
 ·refine (hra.side ho (fun h=>by rcases h with ⟨_,h⟩|h<;>omega)).to (Nat.le_refl _) (fun _ _ _=>rfl) (fun q hq _=>?_)
  rcases hq with h|h
  ·exact .inl h
  ·exact .inr ⟨zTbe,fun hm=>by have:=hst.tab.sep.lt _ hm;omega⟩
 ·exact ((hres.only hst.trk.only (fun h=>by have:=hg _ h;omega)).below hb7).only ho h3
theorem does_any (w:World) (R:Nat→Prop) (S:SchV) (g:TabG) (rv:Value) (rows:List RowV) (h:Pair w R S g rv rows) (a:ActT) (ha:ActAt w R a) :
 Calls Tryz.prog 56 #[ptrV g.tb,mdV S rv,a.agg] w (DoesOut w R S g rows a):=by
 have hti:TabW w (fun k=>R k∧k < w.heap.size) g:=⟨h.tab.ok.to (Nat.le_refl _) (fun _ _ _=>rfl) (fun _ hk hl=>⟨hk,hl⟩),h.tab.sep,fun k hk hr=>h.tab.dis k hk hr.1⟩
 have HDIS:=Lib.hid h.tab.dis
 have hmt:=h.md.tight
 have hat:ActAt w (fun k=>R k∧k < w.heap.size) a:=ha.to (Nat.le_refl _) (fun _ _ _=>rfl) (fun _ hk hl=>⟨hk,hl⟩)
 have hlen:=h.len.2
 obtain ⟨⟨pa,na,ca,hav⟩,⟨pb,nb,cb,hbv⟩⟩:(∃ p n c,a.rv=.slice p n c)∧∃ p n c,a.sv=.slice p n c:=by
  obtain ⟨p,c,h1,_⟩:=ha.row.form
  obtain ⟨q,d,h2,_⟩:=ha.rows.1.form
  exact ⟨⟨p,_,c,h1⟩,⟨q,_,d,h2⟩⟩
 have hkey:=fun w4 (hb:Below w.heap.size w w4)=>key09_any w4 _ S rv rows (h.md.below hb) hlen a ha.n64.2.1 ⟨⟨pa,na,ca,hav⟩,⟨pb,nb,cb,hbv⟩⟩
 obtain ⟨o,ho⟩:∃ o,doMd S (rows.map RowV.l) a=o:=⟨_,rfl⟩
 have hins:a.kind=0→∀ w5,Below w.heap.size w w5→Calls Tryz.prog 55 #[ptrV g.tb,a.rv] w5 fun e w'=>e=.returned (.int .i64 o.2)∧∃ g',StepT w5 w' (fun k=>R k∧k < w.heap.size) g g'∧g'.rows=o.1:=fun hk w5 hb=>by
  have h1:=tins_md w5 _ g (hti.below hb) _ a.rv a.row (hat.row.below hb) ha.n64.2.2.1 ha.fine.row.1
  rwa [h.like.ins,←h.eq,←doMd_0 hk,ho] at h1
 have hupd:a.kind=1→∀ w5,Below w.heap.size w w5→Calls Tryz.prog 73 #[ptrV g.tb,.string (kb (keyM S (rows.map RowV.l) a)),a.rv] w5 fun e w'=>e=.returned (.int .i64 o.2)∧∃ g',StepT w5 w' (fun k=>R k∧k < w.heap.size) g g'∧g'.rows=o.1:=fun hk w5 hb=>by
  have h1:=tupd_md w5 _ g (hti.below hb) (keyM S (rows.map RowV.l) a) a.rv a.row (hat.row.below hb) ha.n64.2.2.1 ha.fine.row.1
  rwa [h.like.upd,←h.eq,←doMd_1 hk,ho] at h1
 have hdel:a.kind=2→∀ w5,Below w.heap.size w w5→Calls Tryz.prog 74 #[ptrV g.tb,.string (kb (keyM S (rows.map RowV.l) a))] w5 fun e w'=>e=.returned (.int .i64 o.2)∧∃ g',StepT w5 w' (fun k=>R k∧k < w.heap.size) g g'∧g'.rows=o.1:=fun hk w5 hb=>by
  have h1:=tdel_md w5 _ g (hti.below hb) (keyM S (rows.map RowV.l) a)
  rwa [h.like.del,←h.eq,←doMd_2 hk,ho] at h1
 have hloa:a.kind≠0→a.kind≠1→a.kind≠2→∀ w5,Below w.heap.size w w5→Calls Tryz.prog 37 #[ptrV g.tb,a.sv] w5 fun e w'=>e=.returned (.int .i64 o.2)∧∃ g',StepT w5 w' (fun k=>R k∧k < w.heap.size) g g'∧g'.rows=o.1:=fun h0 h1 h2 w5 hb=>by
  have h1:=tload_md w5 _ g (hti.below hb) (fun k=>R k∧k < w.heap.size) (fun k hk hm=>h.tab.dis k hm hk.1) a.sv a.rows (hat.rows.below hb) ha.n64.2.2.2 (fun r hr=>(ha.fine.rows.2 r hr).1)
  rwa [h.like.load,←doMd_3 (m:=rows.map RowV.l) h0 (by assumption) h2,ho] at h1
 have hmi:a.kind=0→∀ w6,MdAt w6 (fun k=>R k∧k < w.heap.size) S rv rows→ActAt w6 (fun k=>R k∧k < w.heap.size) a→Calls Tryz.prog 82 #[mdV S rv,a.rv] w6 (MdOut w6 (fun k=>R k∧k < w.heap.size) S o):=fun hk w6 hm hb=>by
  have h1:=minsert_any w6 _ S rv rows hm hlen ⟨a.rv,a.row⟩ hb.row hb.n64.2.2.1
  simp only at h1
  rwa [←doMd_0 hk,ho] at h1
 have hmu:a.kind=1→∀ w6,MdAt w6 (fun k=>R k∧k < w.heap.size) S rv rows→ActAt w6 (fun k=>R k∧k < w.heap.size) a→Calls Tryz.prog 83 #[mdV S rv,.string (kb (keyM S (rows.map RowV.l) a)),a.rv] w6 (MdOut w6 (fun k=>R k∧k < w.heap.size) S o):=fun hk w6 hm hb=>by
  have h1:=mupdate_any w6 _ S rv rows hm hlen (keyM S (rows.map RowV.l) a) ⟨a.rv,a.row⟩ hb.row hb.n64.2.2.1
  simp only at h1
  rwa [←doMd_1 hk,ho] at h1
 have hmd_:a.kind=2→∀ w6,MdAt w6 (fun k=>R k∧k < w.heap.size) S rv rows→ActAt w6 (fun k=>R k∧k < w.heap.size) a→Calls Tryz.prog 84 #[mdV S rv,.string (kb (keyM S (rows.map RowV.l) a))] w6 (MdOut w6 (fun k=>R k∧k < w.heap.size) S o):=fun hk w6 hm hb=>by
  have h1:=mdelete_any w6 _ S rv rows hm hlen (keyM S (rows.map RowV.l) a)
  rwa [←doMd_2 hk,ho] at h1
 have hml:a.kind≠0→a.kind≠1→a.kind≠2→∀ w6,MdAt w6 (fun k=>R k∧k < w.heap.size) S rv rows→ActAt w6 (fun k=>R k∧k < w.heap.size) a→Calls Tryz.prog 85 #[mdV S rv,a.sv] w6 (MdOut w6 (fun k=>R k∧k < w.heap.size) S o):=fun h0 h1 h2 w6 hm hb=>by
  have h3:=mload_any w6 _ S rv rows hm a.sv a.rows hb.rows hb.fine.rows.1 hb.n64.2.2.2
  rwa [←doMd_3 (m:=rows.map RowV.l) h0 h1 h2,ho] at h3
 have HO:=Lib.hid ho
 have HSEP:=Lib.hid h.tab.sep
 have HLT:Hid (∀ k∈feet g.res,k < w.heap.size):=Lib.hid h.tab.sep.lt
 have HLIKE:=Lib.hid h.like
 have HAT:=Lib.hid hat
 have HMT:=Lib.hid hmt
 have HLE:=Lib.hid (fun (W:World) (g2:TabG) R (h1:TabOK W R g2) (h2:Sep W g2.res)=>tlen_any W R g2 h1 h2)
 have hrgt:=h.md.right
 have HRG:=Lib.hid hrgt
 have HOK:=Lib.hid h.md.ok
 generalize hkk:keyM S (rows.map RowV.l) a=km at *
 clear hkk
 replace h:=h.md
 obtain ⟨⟨pc,nc,cc,hcv⟩,⟨pi,ni,ci,hiv⟩,⟨pr,cr,hrv,hcr1,hcr2⟩,hrf⟩:=h.forms
 have HRF:=Lib.hid hrf
 subst hrv
 have HMV:=zYQU
 have HMC:=zVSb
 simp only [HMV.out,ActT.agg,hav,hbv] at hkey hins hupd hdel hloa hmi hmu hmd_ hml ⊢
 have hal:=z0KE
 have hkm:=Blk.new w 34 [.string S.name,.slice pc nc cc,.slice pi ni ci,.int .i64 S.limit,.int .i64 S.parts,.int .i64 S.by_,.slice pr rows.length cr]
 obtain ⟨w1,hw1⟩:=zC8e
 rw [hw1] at hal
 have hkm:=zJ1I
 have HAL:=Lib.hid hal
 have HKM:=Lib.hid hkm
 obtain ⟨w2,hw2⟩:∃ w2,w1.alloc (.cells #[.int .i64 a.kind,.int .i64 a.n,.string a.key,.slice pa na ca,.slice pb nb cb] 104)=w2:=⟨_,rfl⟩
 have hb12:=zXxX
 have hka:Blk w2 w1.heap.size 104 [.int .i64 a.kind,.int .i64 a.n,.string a.key,.slice pa na ca,.slice pb nb cb]:=hw2▸Blk.new w1 _ _
 obtain ⟨w3,hw3⟩:∃ w3,w2.alloc (.cells #[.string ⟨#[]⟩,.slice none 0 0,.slice none 0 0,.int .i64 0,.int .i64 0,.int .i64 0,.slice none 0 0] 34)=w3:=⟨_,rfl⟩
 have hb23:=zUeY
 have hkz:Blk w3 w2.heap.size 34 [.string ⟨#[]⟩,.slice none 0 0,.slice none 0 0,.int .i64 0,.int .i64 0,.int .i64 0,.slice none 0 0]:=hw3▸Blk.new w2 _ _
 have hb3:Below w.heap.size w w3:=hal.trans ((hb12.trans (hb23.mono hb12.size)).mono hal.size)
 have HB3:=Lib.hid hb3
 have HKY:=Lib.hid (hkey w3 hb3)
 have HK03:=Lib.hid ((hkm.below hb12).below hb23)
 have HKA3:=Lib.hid (hka.below hb23)
 have HKZ3:=Lib.hid hkz
 have HZ1:Hid (w.heap.size≤w1.heap.size):=hal.size
 have HZ2:Hid (w.heap.size≤w2.heap.size):=Nat.le_trans hal.size hb12.size
 obtain ⟨x0,x1,x2,x3,x4,x5,x6⟩:=md_cells HK03.out
 have hka3:=HKA3.out
 have a0:=hka3.cell 0
 have a1:=hka3.cell 1
 have a2:=hka3.cell 2
 have a3:=hka3.cell 3
 have a4:=hka3.cell 4
 simp only [List.getElem?_cons_zero,List.getElem?_cons_succ] at a0 a1 a2 a3 a4
 have HI0:=Lib.hid hins
 have HI1:=Lib.hid hupd
 have HI2:=Lib.hid hdel
 have HI3:=Lib.hid hloa
 have HM0:=Lib.hid hmi
 have HM1:=Lib.hid hmu
 have HM2:=Lib.hid hmd_
 have HM3:=Lib.hid hml
 clear h hti hmt hat hkey ho hins hupd hdel hloa hmi hmu hmd_ hml hrf hcv hiv hal hkm hb12 hka hb23 hkz hb3 hka3 ha hav hbv
 go_enter Tryz.func56,Tryz.ntmps56
 go_wp2_with fail
 clear hw1 hw2 hw3 x0 x1 x2 x3 x4 x5 x6 a0 a1 a2 a3 a4
 refine HKY.out.mono ?_
 rintro e w4 ⟨rfl,hb4⟩
 clear HKY
 have hb04:=HB3.out.trans (hb4.mono HB3.out.size)
 have hk04:=HK03.out.below hb4
 obtain ⟨x0,x1,x2,x3,x4,x5,x6⟩:=md_cells hk04
 obtain ⟨w5,hw5⟩:∃ w5,w4.alloc (.cells #[.string S.name,.slice pc nc cc,.slice pi ni ci,.int .i64 S.limit,.int .i64 S.parts,.int .i64 S.by_,.slice pr rows.length cr] 34)=w5:=⟨_,rfl⟩
 have hb45:Below w4.heap.size w4 w5:=hw5▸(Below.refl _ _).alloc (Nat.le_refl _) _
 have hk11:Blk w5 w4.heap.size 34 [.string S.name,.slice pc nc cc,.slice pi ni ci,.int .i64 S.limit,.int .i64 S.parts,.int .i64 S.by_,.slice pr rows.length cr]:=hw5▸Blk.new w4 _ _
 have hb5:=hb04.trans (hb45.mono hb04.size)
 have HB5:=Lib.hid hb5
 have HK0:=Lib.hid (hk04.below hb45)
 have HKA:=Lib.hid ((HKA3.out.below hb4).below hb45)
 have HKZ:=Lib.hid ((HKZ3.out.below hb4).below hb45)
 have HK11:=Lib.hid hk11
 have HZ4:Hid (w.heap.size≤w4.heap.size):=hb04.size
 have HZ24:Hid (w2.heap.size < w4.heap.size):=Nat.lt_of_lt_of_le HKZ3.out.lt hb4.size
 have HZ45:Hid (w4.heap.size < w5.heap.size):=hk11.lt
 have HMD5:=Lib.hid (HMT.out.below hb5)
 have HA5:=Lib.hid (HAT.out.below hb5)
 have HW5:=Lib.hid hw5
 clear hb04 hk04 hb45 hk11 hb5 hb4 hw5
 go_upto_region 4 with fail
 rw [HW5.out]
 clear x0 x1 x2 x3 x4 x5 x6
 have a0:=HKA.out.cell 0
 simp only [List.getElem?_cons_zero,List.getElem?_cons_succ] at a0
 go_upto_block 0 with fail
 clear a0
 go_cut [9,10] (fun t9 t10 wc=>∃ g6 lv rws,t9=.int .i64 o.2∧t10=.int .i64 o.2∧CutD w w5 R S g o.1 w4.heap.size w2.heap.size g6 lv rws wc)
 case first =>
  have hka:=HKA.out
  have a0:=hka.cell 0
  have a3:=hka.cell 3
  have a4:=hka.cell 4
  simp only [List.getElem?_cons_zero,List.getElem?_cons_succ] at a0 a3 a4
  clear hka
  by_cases hk0:a.kind=0
  ·skip
   have d0:(a.kind == 0)=true:=beq_iff_eq.2 hk0
   have HI:=Lib.hid (HI0.out hk0 w5 HB5.out)
   have HM:=Lib.hid (HM0.out hk0)
   clear hk0 HI0 HI1 HI2 HI3 HM0 HM1 HM2 HM3
   exact zjpP
  ·have d0:(a.kind == 0)=false:=beq_eq_false_iff_ne.2 hk0
   by_cases hk1:a.kind=1
   ·skip
    have d1:(a.kind == 1)=true:=beq_iff_eq.2 hk1
    have HI:=Lib.hid (HI1.out hk1 w5 HB5.out)
    have HM:=Lib.hid (HM1.out hk1)
    clear hk0 hk1 HI0 HI1 HI2 HI3 HM0 HM1 HM2 HM3
    exact zjpP
   ·have d1:(a.kind == 1)=false:=beq_eq_false_iff_ne.2 hk1
    by_cases hk2:a.kind=2
    ·skip
     have d2:(a.kind == 2)=true:=beq_iff_eq.2 hk2
     have HI:=Lib.hid (HI2.out hk2 w5 HB5.out)
     have HM:=Lib.hid (HM2.out hk2)
     exact zAGp
    ·skip
     have d2:(a.kind == 2)=false:=beq_eq_false_iff_ne.2 hk2
     have HI:=Lib.hid (HI3.out hk0 hk1 hk2 w5 HB5.out)
     have HM:=Lib.hid (HM3.out hk0 hk1 hk2)
     exact zAGp
 case rest =>
  obtain ⟨g6,lv,rws,rfl,rfl,hc⟩:=hcut
  obtain ⟨pl,cl,hlv,_,_⟩:=hc.ra.1.form
  obtain ⟨nl,hnl⟩:=zo6F
  rw [hnl] at hlv
  subst hlv
  have hll:g6.L.length=nl:=by
   have h1:=congrArg List.length (hc.eq.trans hc.rows.symm)
   rw [List.length_map,TabG.rows_len,hnl] at h1
   exact h1.symm
  have htd:TabW wc.drew _ g6:=hc.tab.below (Below.refl _ _).drew
  have hle:=HLE.out wc.drew g6 _ htd.ok htd.sep
  rw [hc.tb,hll] at hle
  have HL:=Lib.hid hle
  have d0:(o.2 == o.2)=true:=beq_self_eq_true _
  have d1:((nl:Int) == (nl:Int))=true:=beq_self_eq_true _
  have hk11:=HMC.out _▸hc.box
  have HK:=Lib.hid hc.res
  have HC:=Lib.hid hc
  obtain ⟨x0,x1,x2,x3,x4,x5,x6⟩:=md_cells hk11
  obtain ⟨z0,z1,z2,z3,z4,z5,z6⟩:=md_cells hc.res
  have zf:∀ i,wc.frozen? ⟨w2.heap.size,i,none⟩=false:=hc.res.frozen
  have zl:=hc.res.lt
  have xl:=hc.box.lt
  have HZC:Hid (w2.heap.size < w5.heap.size):=Nat.lt_trans HZ24.out HZ45.out
  clear hc hle hk11 hll hnl htd
  generalize o.2=code at *
  go_upto_region 16 with fail
  refine wp_region_lit_plan [] [(1,0),(2,0),(3,0),(4,0),(5,0),(7,0),(0,2),(8,2),(9,0),(6,3),(10,0),(11,0),(12,3),(13,0)] (fun q=>q=w4.heap.size) zyVB zyVB (fun c a d v w h=>zx0I) ?_
  go_wp2_with (first
   | (refine stp ?_)
   | (go_at_call 25;refine HL.out.mono ?_;clear HL;rintro e w9 ⟨rfl,rfl⟩))
  obtain ⟨hk,hon⟩:=set_seven HK.out (.string S.name) (.slice pc nc cc) (.slice pi ni ci) (.int .i64 S.limit) (.int .i64 S.parts) (.int .i64 S.by_) (.slice pl nl cl)
  generalize (((((((wc.setCell ⟨w2.heap.size,0,none⟩ (.string S.name)).setCell ⟨w2.heap.size,1,none⟩ (.slice pc nc cc)).setCell ⟨w2.heap.size,2,none⟩ (.slice pi ni ci)).setCell ⟨w2.heap.size,3,none⟩ (.int .i64 S.limit)).setCell ⟨w2.heap.size,4,none⟩ (.int .i64 S.parts)).setCell ⟨w2.heap.size,5,none⟩ (.int .i64 S.by_)).setCell ⟨w2.heap.size,6,none⟩ (.slice pl nl cl))=wY at *
  refine ⟨fun q i hq=>?_,?_⟩
  ·subst hq
   exact hon.cell (p:=⟨w4.heap.size,i,none⟩) xl (fun he=>by have h1:w4.heap.size=w2.heap.size:=he;have:=HZ24.out;omega)
  go_wp2_with (first|(refine stp ?_))
  obtain ⟨wE,hwE⟩:∃ wE,wY.drew=wE:=⟨_,rfl⟩
  replace hk:Blk wE w2.heap.size 34 [.string S.name,.slice pc nc cc,.slice pi ni ci,.int .i64 S.limit,.int .i64 S.parts,.int .i64 S.by_,.slice pl nl cl]:=hwE▸hk.drew
  replace hon:Only (fun q=>q=w2.heap.size) wc wE:=hwE▸hon.drew
  rw [hwE]
  clear hwE
  obtain ⟨m0,m1,m2,m3,m4,m5,m6⟩:=md_cells hk
  refine bodyPost_ret (v:=.tuple #[.agg #[.string S.name,.slice pc nc cc,.slice pi ni ci,.int .i64 S.limit,.int .i64 S.parts,.int .i64 S.by_,.slice pl nl cl],.bool true]) (by simp [results,Tryz.results56,go_sem,m0,m1,m2,m3,m4,m5,m6]) rfl ?_
  have hc:=HC.out
  have hn6:w2.heap.size∉feet g6.res:=fun hm=>by
   rcases hc.new _ hm with h|h
   ·have:=HLT.out _ h;have:=HZ2.out;omega
   ·have:=HZC.out;omega
  have hR6:¬ grow (fun k=>R k∧k < w.heap.size) w5.heap.size (feet g6.res) w2.heap.size:=fun h=>by
   have:=HZC.out
   have:=HZ2.out
   rcases h with ⟨_,_,h⟩|⟨h,_⟩<;>omega
  have ht:=hc.tab.side hon hR6 hn6
  have hz5:=HB5.out.size
  have hfe:∀ q,(R q∧q < w.heap.size)→q∉feet g6.res:=fun q hq hm=>by
   rcases hc.new _ hm with h|h
   ·exact HDIS.out q h hq.1
   ·omega
  have hG:∀ q,grow (fun k=>R k∧k < w.heap.size) w5.heap.size (feet g6.res) q→grow R w.heap.size (feet g6.res) q:=fun q hq=>by
   rcases hq with ⟨_,h1,h2⟩|⟨h1,h2⟩
   ·exact .inl ⟨h2,h1⟩
   ·exact .inr ⟨zTbe,h2⟩
  refine ⟨g6,.slice pl nl cl,rws,by rw [HMV.out],⟨⟨ht.ok.wide hG,ht.sep,fun k hk h=>?_⟩,?_,⟨?_,HRG.out,?_,?_⟩,hc.eq.trans hc.rows.symm⟩,by rw [HO.out];exact hc.eq,Trk.side hc.trk hon HZ2.out hn6,hc.tb⟩
  ·rcases h with ⟨h1,h2⟩|⟨_,h2⟩
   ·exact hfe k ⟨h2,h1⟩ hk
   ·exact h2 hk
  ·rw [hc.sch];exact HLIKE.out
  ·exact (hc.sc.side hon (fun h=>by have:=HZ2.out;omega)).to (Nat.le_refl _) (fun _ _ _=>rfl) (fun q hq _=>.inl ⟨hq.2,hq.1⟩)
  ·refine (hc.ra.side hon (fun h=>by have:=HZ2.out;have:=HZC.out;rcases h with ⟨_,h⟩|⟨h,_⟩<;>omega)).to (Nat.le_refl _) (fun _ _ _=>rfl) (fun q hq _=>?_)
   rcases hq with h|h
   ·exact .inl ⟨h.2,h.1⟩
   ·exact .inr ⟨zTbe,h.2⟩
  ·intro r hr
   have h1:r.l∈g6.rows:=by rw [hc.rows,←hc.eq];exact List.mem_map_of_mem hr
   exact HLIKE.out.rowOK' (hc.sch▸ht.rowsOK r.l h1)
theorem Pair.move {w w':World} {R R':Nat→Prop} {S:SchV} {g:TabG} {v:Value} {rows:List RowV} (h:Pair w R S g v rows) (hs:w.heap.size≤w'.heap.size) (hb:∀ k,(R k∨k∈feet g.res)→k < w.heap.size→w'.heap[k]?=w.heap[k]?)
 (hB:∀ k,R k→k < w.heap.size→R' k) (hd:∀ k∈feet g.res,¬ R' k):Pair w' R' S g v rows :=
 ⟨⟨h.tab.ok.to hs (fun k hk hl=>hb k (.inl hk) hl) hB,h.tab.sep.keep fun k hk=>hb k (.inr hk) (h.tab.sep.lt k hk),hd⟩,h.like,h.md.to hs (fun k hk hl=>hb k (.inl hk) hl) hB,h.eq⟩
def offR (g:TabG) (b9 b5:Nat):Nat→Prop:=fun k=>k∉feet g.res∧k≠b9∧k≠b5
structure PlaySt (w w2:World) (tb b9 b5:Nat) (S:SchV) (m:List (List AV)) (g:TabG) (lv:Value) (rws:List RowV) (wr:World):Prop where
 pair:Pair wr (offR g b9 b5) S g lv rws
 box:Blk wr b9 34 (mdC S lv)
 res:Blk wr b5 34 [.string ⟨#[]⟩,.slice none 0 0,.slice none 0 0,.int .i64 0,.int .i64 0,.int .i64 0,.slice none 0 0]
 eq:rws.map RowV.l=m
 feet:∀ k∈feet g.res,w2.heap.size≤k∧k≠b9
 tb:g.tb=tb
 bel:Below w.heap.size w wr
def PlayOut (w:World) (S:SchV) (l:List ActT) (e:Ending) (w':World):Prop :=
 ∃ g lv rws,e=.returned (.tuple #[ptrV g.tb,mdV S lv,.bool true])∧Pair w' (fun k=>k∉feet g.res) S g lv rws∧rws.map RowV.l=playMd S [] l∧(∀ k∈feet g.res,w.heap.size≤k)∧Below w.heap.size w w'
structure CutP (wr:World) (b9 b5:Nat) (S:SchV) (g:TabG) (o:List (List AV)) (b11:Nat) (g':TabG) (lv:Value) (rws:List RowV) (wc:World):Prop where
 pair:Pair wc (fun k=>(offR g b9 b5 k∧k < wr.heap.size)∨(wr.heap.size≤k∧k∉Afx.feet g'.res∧k≠b11)) S g' lv rws
 box:Blk wc b11 34 (mdC S lv)
 eq:rws.map RowV.l=o
 trk:Trk wr (Afx.feet g.res) wc g'.res
 tb:g'.tb=g.tb
 ge:wr.heap.size≤b11
 off:b11∉Afx.feet g'.res
theorem cutP_first {wr w5 w6:World} {b9 b5:Nat} {S:SchV} {g:TabG} {rows:List RowV} {a:ActT} {lv:Value} {rws:List RowV} {g':TabG} (hd:∀ k∈feet g.res,k < wr.heap.size)
 (hp:Pair w5 (grow (fun k=>offR g b9 b5 k∧k < wr.heap.size) wr.heap.size (feet g'.res)) S g' lv rws) (heq:rws.map RowV.l=(doMd S (rows.map RowV.l) a).1) (htk:Trk wr (feet g.res) w5 g'.res) (htb:g'.tb=g.tb)
 (h6:w5.alloc (.cells (mdC S lv).toArray 34)=w6):CutP wr b9 b5 S g (doMd S (rows.map RowV.l) a).1 w5.heap.size g' lv rws w6:=by
 have hb:Below w5.heap.size w5 w6:=h6▸(Below.refl _ _).alloc (Nat.le_refl _) _
 have hs:=htk.only.size
 have hl:=hp.tab.sep.lt
 refine ⟨hp.move hb.size (fun k _ hl=>hb.block k hl) (fun k hk hlk=>?_) (fun k hk h=>?_),h6▸Blk.new w5 _ _,heq,htk.below hb,htb,hs,fun hm=>by have:=hl _ hm;omega⟩
 ·rcases hk with ⟨_,h⟩|⟨h1,h2⟩
  ·exact .inl h
  ·exact .inr ⟨h1,h2,zTbe⟩
 ·rcases h with ⟨h1,h2⟩|⟨_,h2,_⟩
  ·exact hp.tab.dis k hk (.inl ⟨h2,h1,h2⟩)
  ·exact h2 hk
theorem cutP_second {wr wA w5 w6:World} {b9 b5:Nat} {S:SchV} {g:TabG} {rows:List RowV} {a:ActT} {lv:Value} {rws:List RowV} {g':TabG} (hA:Below wr.heap.size wr wA) (hA1:wr.heap.size < wA.heap.size) (hd:∀ k∈feet g.res,k < wr.heap.size) (hsep:Sep wr g.res)
 (hp:Pair w5 (grow (fun k=>offR g b9 b5 k∧k < wr.heap.size) wA.heap.size (feet g'.res)) S g' lv rws) (heq:rws.map RowV.l=(doMd S (rows.map RowV.l) a).1) (htk:Trk wA (feet g.res) w5 g'.res) (htb:g'.tb=g.tb)
 (ho:Only (fun q=>q=wr.heap.size) w5 w6) (hk6:Blk w6 wr.heap.size 34 (mdC S lv)):CutP wr b9 b5 S g (doMd S (rows.map RowV.l) a).1 wr.heap.size g' lv rws w6:=by
 have hn:wr.heap.size∉feet g'.res:=fun hm=>by
  rcases htk.foot _ hm with h|h
  ·have:=hd _ h;omega
  ·omega
 refine ⟨hp.move ho.size (fun k hk hl=>ho.block k hl (fun he=>?_)) (fun k hk hlk=>?_) (fun k hk h=>?_),hk6,heq,Trk.side (Trk.after (Trk.of_below hsep hA) htk) ho (Nat.le_refl _) hn,htb,Nat.le_refl _,hn⟩
 ·have he:k=wr.heap.size:=he
  rcases hk with h|h
  ·rcases h with ⟨_,_,h⟩|⟨h,_⟩<;>omega
  ·exact hn (he▸h)
 ·rcases hk with ⟨_,h⟩|⟨h1,h2⟩
  ·exact .inl h
  ·exact .inr ⟨zTbe,h2,zTbe⟩
 ·rcases h with ⟨h1,h2⟩|⟨_,h2,_⟩
  ·exact hp.tab.dis k hk (.inl ⟨zTbe,h1,h2⟩)
  ·exact h2 hk
theorem PlaySt.next {w w2 wr wc wE:World} {tb b9 b5 b11:Nat} {S:SchV} {m o:List (List AV)} {g g':TabG} {lv lv':Value} {rws rws':List RowV} (h:PlaySt w w2 tb b9 b5 S m g lv rws wr) (hc:CutP wr b9 b5 S g o b11 g' lv' rws' wc)
 (ho:Only (fun q=>q=b9) wc wE) (hk:Blk wE b9 34 (mdC S lv')) (h2:w2.heap.size≤b9) (h5:b5 < w2.heap.size) (hw:w.heap.size≤w2.heap.size):PlaySt w w2 tb b9 b5 S o g' lv' rws' wE:=by
 have hl9:=h.box.lt
 have hf:∀ k∈Afx.feet g'.res,w2.heap.size≤k∧k≠b9:=fun k hk=>by
  rcases hc.trk.foot k hk with h1|h1
  ·exact h.feet k h1
  ·exact ⟨zTbe,zTbe⟩
 refine ⟨hc.pair.move ho.size (fun k hk hl=>ho.block k hl (fun he=>?_)) (fun k hk hl=>?_) (fun k hk hr=>hr.1 hk),hk,?_,hc.eq,hf,hc.tb.trans h.tb,?_⟩
 ·have he:k=b9:=he
  rcases hk with h1|h1
  ·rcases h1 with ⟨⟨_,h1,_⟩,_⟩|⟨h1,_⟩
   ·exact h1 he
   ·omega
  ·exact (hf k h1).2 he
 ·rcases hk with ⟨⟨h1,h2,h3⟩,h4⟩|⟨h1,h2,h3⟩
  ·exact ⟨fun hm=>(hc.trk.foot k hm).elim h1 (fun h=>zTbe),h2,h3⟩
  ·exact ⟨h2,zTbe,zTbe⟩
 ·exact (h.res.only hc.trk.only (fun hm=>by have:=(h.feet _ hm).1;omega)).only ho zTbe
 ·have h1:=h.bel.trans (hc.trk.only.below h.bel.size (fun q hq=>by have:=(h.feet q hq).1;omega))
  exact h1.trans (ho.below h1.size (fun q hq=>zTbe))
theorem play09_any (w:World) (hm:Mx w) (B B':Nat→Prop) (S:SchV) (hs:SchAt w B S) (hri:rightS S=true) (v:Value) (l:List ActT) (h:ActsAt w B' v l) (hfi:FineT S l) :
 Calls Tryz.prog 14 #[S.agg,v] w (PlayOut w S l):=by
 obtain ⟨p,cap,rfl,hc1,hc2⟩:=h.sl.form
 have HM:=Lib.hid hm
 have HS:=Lib.hid h
 have HSC:=Lib.hid hs
 have HRI:=Lib.hid hri
 have HFI:=Lib.hid hfi
 have hsz:=greatS_no hfi.sch
 have HSZ:=Lib.hid hsz
 have HFO:=Lib.hid h.forms
 obtain ⟨pc,cc,hcv,_,_⟩:=hs.cols.form
 obtain ⟨pi,ci,hiv,_,_⟩:=hs.idx.1.form
 obtain ⟨nc,hnc⟩:=zAx9
 obtain ⟨ni,hni⟩:=zcSB
 rw [hnc] at hcv
 rw [hni] at hiv
 have HMV:=zYQU
 have HMC:=zVSb
 have HSA:=zBTG
 rw [HSA.out]
 obtain ⟨w1,hw1⟩:=zZts
 have hb1:=zppX
 have hk1:=zu9a
 obtain ⟨w2,hw2⟩:=zX17
 have hb2:=zXxX
 have hk2:=zTgR
 have hb02:=hb1.trans (hb2.mono hb1.size)
 have hk12:=hk1.below hb2
 obtain ⟨x0,x1,x2,x3,x4,x5⟩:=sch_cells hk12
 have HB2:=Lib.hid hb02
 have HK1:=Lib.hid hk12
 have HK2:=Lib.hid hk2
 have hz1:w.heap.size≤w1.heap.size:=hb1.size
 have hz2:w1.heap.size < w2.heap.size:=hk2.lt
 have hnew:=tabnew_any w2 (HM.out.below hb02) B S (hs.below hb02) zTbe zTbe (fun x hx=>by have:=hsz.2.2.2.2 x hx;omega)
 rw [HSA.out] at hnew
 have HN:=Lib.hid hnew
 obtain ⟨n,hnn⟩:=zwjg
 rw [hnn] at hc1 ⊢
 have HNL:=Lib.hid hnn
 clear h hs hm hfi hsz hcv hiv hnc hni hb1 hk1 hb2 hk2 hb02 hk12 hnew hnn hri
 go_enter Tryz.func14,Tryz.ntmps14
 go_wp2_with fail
 clear hw1 hw2 x0 x1 x2 x3 x4 x5
 refine HN.out.mono ?_
 clear HN
 rintro e w3 (⟨h1,_⟩|⟨_,g0,rfl,hal,hgl,htk,htab⟩)
 ·rw [HRI.out] at h1;cases h1
 have hb23:Below w2.heap.size w2 w3:=htk.only.below (Nat.le_refl _) (fun q hq=>by simp at hq)
 obtain ⟨x0,x1,x2,x3,x4,x5⟩:=sch_cells (HK1.out.below hb23)
 obtain ⟨w4,hw4⟩:∃ w4,w3.alloc (.cells #[.string S.name,.slice pc nc cc,.slice pi ni ci,.int .i64 S.limit,.int .i64 S.parts,.int .i64 S.by_,.slice none 0 0] 34)=w4:=⟨_,rfl⟩
 have hb34:=zvR2
 have hk9:Blk w4 w3.heap.size 34 (mdC S (.slice none 0 0)):=by rw [HMC.out,←hw4];exact Blk.new w3 _ _
 have hz3:w2.heap.size≤w3.heap.size:=hb23.size
 have hf0:∀ k∈feet g0.res,w2.heap.size≤k∧k < w3.heap.size:=fun k hk=>⟨(htk.foot k hk).elim (fun h=>zhtf) id,htk.sep.lt k hk⟩
 have hb04:Below w.heap.size w w4:=HB2.out.trans ((hb23.trans (hb34.mono hb23.size)).mono HB2.out.size)
 have hst0:PlaySt w w2 g0.tb w3.heap.size w1.heap.size S [] g0 (.slice none 0 0) [] w4:=by
  refine ⟨⟨⟨htab.to hb34.size (fun k _ hl=>hb34.block k hl) (fun k hk hl=>⟨hk.1,zTbe,?_⟩),htk.sep.below hb34,fun k hk h=>h.1 hk⟩,hal,⟨?_,HRI.out,⟨sl_none _ _ _,fun r hr=>absurd hr zPXO⟩,fun r hr=>absurd hr zPXO⟩,?_⟩,hk9,(HK2.out.below hb23).below hb34,rfl,fun k hk=>⟨(hf0 k hk).1,by have:=(hf0 k hk).2;omega⟩,rfl,hb04⟩
  ·rcases hk.2 with h|h
   ·omega
   ·have:=(HM.out).lt;omega
  ·exact HSC.out.to hb04.size (fun k _ hl=>hb04.block k hl) (fun k _ hl=>⟨fun hm=>by have:=(hf0 k hm).1;omega,zTbe,zTbe⟩)
  ·unfold TabG.rows;rw [hgl];rfl
 have HST0:=Lib.hid hst0
 have HW4:=Lib.hid hw4
 clear hal hgl htk htab hb23 hb34 hk9 hf0 hb04 hst0 hw4
 go_wp2
 rw [HW4.out]
 clear x0 x1 x2 x3 x4 x5
 go_loopw [10] (fun i wr=>∃ (j:Nat) (g:TabG) (lv:Value) (rws:List RowV),i=.int .i64 j∧j≤n∧PlaySt w w2 g0.tb w3.heap.size w1.heap.size S (playMd S [] (l.take j)) g lv rws wr) (fun i _=>n - (intOf i).toNat)
 case atStart=>exact ⟨0,g0,_,[],rfl,Nat.zero_le _,HST0.out⟩
 case round =>
  obtain ⟨j,g,lv,rws,rfl,hj,hst⟩:=hrel
  obtain ⟨pl,cl,hlv,_,_⟩:=hst.pair.md.ra.1.form
  obtain ⟨nl,hnl⟩:=zo6F
  rw [hnl] at hlv
  subst hlv
  have HST:=Lib.hid hst
  obtain ⟨y0,y1,y2,y3,y4,y5,y6⟩:=md_cells (HMC.out _▸hst.box)
  have hly:=hst.box.lt
  by_cases hjn:j < n
  ·have hkl:j < l.length:=by rw [HNL.out];exact hjn
   obtain ⟨ga,off,cap',hv,hga0,c0,c1,c2,c3,c4⟩:=sl_actT HS.out.sl hkl
   have e0:=(hst.bel.cell (p:=⟨ga,_,none⟩) hga0).trans c0
   have e1:=(hst.bel.cell (p:=⟨ga,_,none⟩) hga0).trans c1
   have e2:=(hst.bel.cell (p:=⟨ga,_,none⟩) hga0).trans c2
   have e3:=(hst.bel.cell (p:=⟨ga,_,none⟩) hga0).trans c3
   have e4:=(hst.bel.cell (p:=⟨ga,_,none⟩) hga0).trans c4
   have hga:ga < wr.heap.size:=Nat.lt_of_lt_of_le hga0 hst.bel.size
   clear c0 c1 c2 c3 c4
   rw [HNL.out] at hv
   cases hv
   have hmk:l[j]∈l:=List.getElem_mem hkl
   have hnx:=playMd_succ S [] l hkl
   obtain ⟨⟨pr,nr,cr,hrv⟩,⟨ps,ns,cs,hsv⟩⟩:=HFO.out _ hmk
   have hbel:=hst.bel
   have ha0:ActAt wr (fun k=>offR g w3.heap.size w1.heap.size k∧k < wr.heap.size) l[j]:=by
    have h1:ActAt w B' l[j]:=⟨HS.out.row _ hmk,HS.out.rows _ hmk,HS.out.n64 _ hmk,HFI.out.acts _ hmk⟩
    exact h1.to hbel.size (fun k _ hl=>hbel.block k hl) (fun k _ hl=>⟨⟨fun hm=>by have:=(hst.feet k hm).1;omega,zTbe,zTbe⟩,by have:=hbel.size;omega⟩)
   have hp0:Pair wr (fun k=>offR g w3.heap.size w1.heap.size k∧k < wr.heap.size) S g (.slice pl nl cl) rws:=hst.pair.move (Nat.le_refl _) (fun _ _ _=>rfl) (fun k hk hl=>⟨hk,hl⟩) (fun k hk h=>h.1.1 hk)
   have HDO:Hid (∀ w4,Below wr.heap.size wr w4→Calls Tryz.prog 56 #[ptrV g.tb,mdV S (.slice pl nl cl),l[j].agg] w4 (DoesOut w4 (fun k=>offR g w3.heap.size w1.heap.size k∧k < wr.heap.size) S g rws l[j])):=Lib.hid fun w4 hb=>does_any w4 _ S g _ rws (hp0.below hb) l[j] (ha0.below hb)
   have hEQ:rws.map RowV.l=playMd S [] (l.take j):=hst.eq
   rw [←hEQ] at hnx
   generalize l[j]=a at *
   have HNX:=Lib.hid hnx
   rw [hrv] at e3
   rw [hsv] at e4
   simp only [HMV.out,ActT.agg,hrv,hsv] at HDO
   have HTB:Hid (g.tb=g0.tb):=Lib.hid hst.tb
   rw [hst.tb] at HDO
   have HLT:Hid (∀ k∈feet g.res,k < wr.heap.size):=Lib.hid hst.pair.tab.sep.lt
   have HSEP:=Lib.hid hst.pair.tab.sep
   clear hst hbel ha0 hp0 hmk hnx hrv hsv hnl hEQ
   go_upto_region 6 with fail
   go_cut [11,12] (fun t11 t12 wc=>t12=.bool true∧∃ b11 g' lv' rws',t11=.pointer (some ⟨b11,0,none⟩)∧CutP wr w3.heap.size w1.heap.size S g (doMd S (rws.map RowV.l) a).1 b11 g' lv' rws' wc)
   case first =>
    have d0:wr.drew.cell? ⟨w3.heap.size,0,none⟩=some (.string S.name):=y0
    have d1:wr.drew.cell? ⟨w3.heap.size,1,none⟩=some (.slice pc nc cc):=y1
    have d2:wr.drew.cell? ⟨w3.heap.size,2,none⟩=some (.slice pi ni ci):=y2
    have d3:wr.drew.cell? ⟨w3.heap.size,3,none⟩=some (.int .i64 S.limit):=y3
    have d4:wr.drew.cell? ⟨w3.heap.size,4,none⟩=some (.int .i64 S.parts):=y4
    have d5:wr.drew.cell? ⟨w3.heap.size,5,none⟩=some (.int .i64 S.by_):=y5
    have d6:wr.drew.cell? ⟨w3.heap.size,6,none⟩=some (.slice pl nl cl):=y6
    have f0:wr.drew.cell? ⟨ga,off+j*5,none⟩=some (.int .i64 a.kind):=e0
    have f1:wr.drew.cell? ⟨ga,off+j*5+1,none⟩=some (.int .i64 a.n):=e1
    have f2:wr.drew.cell? ⟨ga,off+j*5+2,none⟩=some (.string a.key):=e2
    have f3:wr.drew.cell? ⟨ga,off+j*5+3,none⟩=some (.slice pr nr cr):=e3
    have f4:wr.drew.cell? ⟨ga,off+j*5+4,none⟩=some (.slice ps ns cs):=e4
    have hd:Below wr.heap.size wr wr.drew:=(Below.refl _ _).drew
    have ha:=zRAR
    have H1:=Lib.hid (HDO.out _ hd)
    have H2:=Lib.hid (HDO.out _ ha)
    have hag0:Agree (fun q=>q=w3.heap.size∨q=ga) wr.drew (wr.alloc (.cells #[.string ⟨#[]⟩,.slice none 0 0,.slice none 0 0,.int .i64 0,.int .i64 0,.int .i64 0,.slice none 0 0] 34)).drew:=agree2_alloc (w:=wr) _ hly hga
    have HA:=Lib.hid ha
    have HZA:=zYYc
    have HKB:=z062
    have H9:Hid (w3.heap.size∉feet g.res):=Lib.hid fun hm=>(HST.out.feet _ hm).2 rfl
    have HGA:Hid (ga∉feet g.res):=Lib.hid fun hm=>by
     have h1:=(HST.out.feet _ hm).1
     omega
    clear hd ha HDO y0 y1 y2 y3 y4 y5 y6 e0 e1 e2 e3 e4
    refine wp_region_lit_plans [6,7,8,9,10,11] [[(0,0),(2,0),(3,0),(4,0),(1,2),(5,2),(6,4),(7,0),(8,0),(9,0),(10,3),(11,4),(12,0)],[(0,0),(2,0),(3,0),(4,0),(1,2),(5,2),(6,4),(7,0),(8,0),(10,3),(9,0),(11,4),(12,0)],[(0,0),(2,0),(3,0),(4,0),(1,2),(5,2),(6,4),(7,0),(8,0),(10,3),(11,4),(9,0),(12,0)],[(0,0),(2,0),(3,0),(4,0),(1,2),(5,2),(6,4),(7,0),(9,0),(8,0),(10,3),(11,4),(12,0)],[(0,0),(2,0),(3,0),(4,0),(1,2),(5,2),(6,4),(7,0),(9,0),(10,3),(8,0),(11,4),(12,0)],[(0,0),(2,0),(3,0),(4,0),(1,2),(5,2),(6,4),(7,0),(10,3),(8,0),(9,0),(11,4),(12,0)],[(0,0),(2,0),(3,0),(4,0),(1,2),(5,2),(6,4),(7,0),(10,3),(8,0),(11,4),(9,0),(12,0)],[(0,0),(2,0),(3,0),(4,0),(1,2),(5,2),(6,4),(7,0),(10,3),(9,0),(8,0),(11,4),(12,0)],[(0,0),(2,0),(3,0),(4,0),(1,2),(5,2),(6,4),(10,3),(7,0),(8,0),(9,0),(11,4),(12,0)],[(0,0),(2,0),(3,0),(4,0),(1,2),(5,2),(6,4),(10,3),(7,0),(8,0),(11,4),(9,0),(12,0)],[(0,0),(2,0),(3,0),(4,0),(1,2),(5,2),(6,4),(10,3),(7,0),(9,0),(8,0),(11,4),(12,0)],[(0,0),(2,0),(3,0),(4,0),(1,2),(5,2),(10,3),(6,4),(7,0),(8,0),(9,0),(11,4),(12,0)],[(0,0),(2,0),(3,0),(4,0),(1,2),(5,2),(10,3),(6,4),(7,0),(8,0),(11,4),(9,0),(12,0)],[(0,0),(2,0),(3,0),(4,0),(1,2),(5,2),(10,3),(6,4),(7,0),(9,0),(8,0),(11,4),(12,0)]] (fun q=>q=w3.heap.size∨q=ga) zyVB zyVB (fun c a d v w h=>zx0I) ?_;refine ⟨?_,?_,?_,?_,?_,?_,?_,?_,?_,?_,?_,?_,?_,?_,trivial⟩
    all_goals
     go_wp2_with (first
      | (refine stp ?_)
      | (go_at_call 56;(with_reducible refine H1.out.mono ?_);rintro e w5 ⟨g',lv',rws',rfl,hp,heq,htk,htb⟩;obtain ⟨p5,c5,hlv5,_,_⟩:=hp.md.ra.1.form;obtain ⟨n5,hn5⟩:∃ n5,rws'.length=n5:=⟨_,rfl⟩;rw [hn5] at hlv5;subst hlv5;rw [HMV.out];have hag5:=agree2_alloc (w:=w5) (.cells #[.string ⟨#[]⟩,.slice none 0 0,.slice none 0 0,.int .i64 0,.int .i64 0,.int .i64 0,.slice none 0 0] 34) (Nat.lt_of_lt_of_le hly htk.only.size) (Nat.lt_of_lt_of_le hga htk.only.size);have HP:=Lib.hid hp;have HEQ:=Lib.hid heq;have HTK:=Lib.hid htk;have HTB5:=Lib.hid htb;clear hp heq htk htb hn5 H2 HKB)
      | (go_at_call 56;(with_reducible refine H2.out.mono ?_);rintro e w5 ⟨g',lv',rws',rfl,hp,heq,htk,htb⟩;obtain ⟨p5,c5,hlv5,_,_⟩:=hp.md.ra.1.form;obtain ⟨n5,hn5⟩:∃ n5,rws'.length=n5:=⟨_,rfl⟩;rw [hn5] at hlv5;subst hlv5;rw [HMV.out];have hkb:=HKB.out.only htk.only (fun hm=>zIFU);have HK5:=Lib.hid hkb;obtain ⟨z0,z1,z2,z3,z4,z5,z6⟩:=md_cells hkb;have zf:∀ i,w5.frozen? ⟨wr.heap.size,i,none⟩=false:=hkb.frozen;have hag5:Agree (fun q=>q=w3.heap.size∨q=ga) _ w5:=(fun q i hq=>htk.only.cell (p:=⟨q,i,none⟩) (Nat.lt_trans zcbp HZA.out) (fun hm=>by rcases hq with rfl|rfl;exact H9.out hm;exact HGA.out hm));have HP:=Lib.hid hp;have HEQ:=Lib.hid heq;have HTK:=Lib.hid htk;have HTB5:=Lib.hid htb;clear hp heq htk htb hn5 hkb H1))
     go_meet
     first
      | (have hk5:=HK5.out
         clear hk5
         obtain ⟨hk,hon⟩:=set_seven HK5.out (.string S.name) (.slice pc nc cc) (.slice pi ni ci) (.int .i64 S.limit) (.int .i64 S.parts) (.int .i64 S.by_) (.slice p5 n5 c5)
         generalize (((((((w5.setCell ⟨wr.heap.size,0,none⟩ (.string S.name)).setCell ⟨wr.heap.size,1,none⟩ (.slice pc nc cc)).setCell ⟨wr.heap.size,2,none⟩ (.slice pi ni ci)).setCell ⟨wr.heap.size,3,none⟩ (.int .i64 S.limit)).setCell ⟨wr.heap.size,4,none⟩ (.int .i64 S.parts)).setCell ⟨wr.heap.size,5,none⟩ (.int .i64 S.by_)).setCell ⟨wr.heap.size,6,none⟩ (.slice p5 n5 c5))=wE at *
         exact ⟨rfl,wr.heap.size,g',.slice p5 n5 c5,rws',rfl,cutP_second HA.out HZA.out HLT.out HSEP.out HP.out HEQ.out HTK.out HTB5.out hon zR0f⟩)
      | skip
     all_goals
      obtain ⟨w6,h6⟩:∃ w6,w5.alloc (.cells #[.string S.name,.slice pc nc cc,.slice pi ni ci,.int .i64 S.limit,.int .i64 S.parts,.int .i64 S.by_,.slice p5 n5 c5] 34)=w6:=⟨_,rfl⟩
      rw [h6]
      exact ⟨rfl,w5.heap.size,g',.slice p5 n5 c5,rws',rfl,cutP_first HLT.out HP.out HEQ.out (Trk.after (Trk.of_below HSEP.out (Below.refl _ _).drew) HTK.out) HTB5.out (by rw [HMC.out];exact h6)⟩
   case rest =>
    obtain ⟨rfl,b11,g',lv',rws',rfl,hc⟩:=hcut
    obtain ⟨p8,c8,hlv8,_,_⟩:=hc.pair.md.ra.1.form
    obtain ⟨n8,hn8⟩:∃ n8,rws'.length=n8:=⟨_,rfl⟩
    rw [hn8] at hlv8
    subst hlv8
    have HC:=Lib.hid hc
    have h9:w3.heap.size∉feet g.res:=fun hm=>(HST.out.feet _ hm).2 rfl
    have hk9:=HMC.out _▸HST.out.box.only hc.trk.only h9
    have HK9:=Lib.hid hk9
    obtain ⟨x0,x1,x2,x3,x4,x5,x6⟩:=md_cells (HMC.out _▸hc.box)
    obtain ⟨z0,z1,z2,z3,z4,z5,z6⟩:=md_cells hk9
    have zf:∀ i,wc.frozen? ⟨w3.heap.size,i,none⟩=false:=hk9.frozen
    have zl:=hk9.lt
    clear hc hk9 h9 y0 y1 y2 y3 y4 y5 y6 e0 e1 e2 e3 e4 hn8
    go_wp2
    obtain ⟨hk,hon⟩:=set_seven HK9.out (.string S.name) (.slice pc nc cc) (.slice pi ni ci) (.int .i64 S.limit) (.int .i64 S.parts) (.int .i64 S.by_) (.slice p8 n8 c8)
    generalize (((((((wc.setCell ⟨w3.heap.size,0,none⟩ (.string S.name)).setCell ⟨w3.heap.size,1,none⟩ (.slice pc nc cc)).setCell ⟨w3.heap.size,2,none⟩ (.slice pi ni ci)).setCell ⟨w3.heap.size,3,none⟩ (.int .i64 S.limit)).setCell ⟨w3.heap.size,4,none⟩ (.int .i64 S.parts)).setCell ⟨w3.heap.size,5,none⟩ (.int .i64 S.by_)).setCell ⟨w3.heap.size,6,none⟩ (.slice p8 n8 c8))=wE at *
    have HK:=Lib.hid hk
    have HON:=Lib.hid hon
    clear hk hon x0 x1 x2 x3 x4 x5 x6 z0 z1 z2 z3 z4 z5 z6 zf zl
    go_roundw
    case rel=>exact ⟨j+1,g',_,rws',z3KH,zTbe,by rw [HNX.out];exact HST.out.next HC.out HON.out (by rw [HMC.out];exact HK.out) hz3 hz2 (Nat.le_trans hz1 (Nat.le_of_lt hz2))⟩
    case measure=>(simp [intOf])<;>omega
  ·obtain rfl:j=n:=by omega
   have hz:=HMC.out _▸hst.box
   have HK5:=Lib.hid hst.res
   obtain ⟨z0,z1,z2,z3,z4,z5,z6⟩:=md_cells hst.res
   have zf:∀ i,wr.frozen? ⟨w1.heap.size,i,none⟩=false:=hst.res.frozen
   have zl:=hst.res.lt
   have htb:=hst.tb
   have HTB:=Lib.hid htb
   clear hst htb hz
   go_upto_region 10 with fail
   refine wp_region_lit_plan [] [(0,0),(2,0),(3,0),(4,0),(1,1),(5,4),(6,0)] (fun q=>q=w3.heap.size) zyVB zyVB (fun c a d v w h=>zx0I) ?_
   go_wp2_with (first|(refine stp ?_))
   have hst:=HST.out
   obtain ⟨hk,hon⟩:=set_seven HK5.out (.string S.name) (.slice pc nc cc) (.slice pi ni ci) (.int .i64 S.limit) (.int .i64 S.parts) (.int .i64 S.by_) (.slice pl nl cl)
   generalize (((((((wr.setCell ⟨w1.heap.size,0,none⟩ (.string S.name)).setCell ⟨w1.heap.size,1,none⟩ (.slice pc nc cc)).setCell ⟨w1.heap.size,2,none⟩ (.slice pi ni ci)).setCell ⟨w1.heap.size,3,none⟩ (.int .i64 S.limit)).setCell ⟨w1.heap.size,4,none⟩ (.int .i64 S.parts)).setCell ⟨w1.heap.size,5,none⟩ (.int .i64 S.by_)).setCell ⟨w1.heap.size,6,none⟩ (.slice pl nl cl))=wY at *
   obtain ⟨wE,hwE⟩:∃ wE,wY.drew=wE:=⟨_,rfl⟩
   replace hk:Blk wE w1.heap.size 34 [.string S.name,.slice pc nc cc,.slice pi ni ci,.int .i64 S.limit,.int .i64 S.parts,.int .i64 S.by_,.slice pl nl cl]:=hwE▸hk.drew
   replace hon:Only (fun q=>q=w1.heap.size) wr wE:=hwE▸hon.drew
   rw [hwE]
   clear hwE
   obtain ⟨m0,m1,m2,m3,m4,m5,m6⟩:=md_cells hk
   refine bodyPost_ret (v:=.tuple #[ptrV g0.tb,.agg #[.string S.name,.slice pc nc cc,.slice pi ni ci,.int .i64 S.limit,.int .i64 S.parts,.int .i64 S.by_,.slice pl nl cl],.bool true]) (by simp [results,Tryz.results14,go_sem,m0,m1,m2,m3,m4,m5,m6]) rfl ?_
   have hn1:∀ k,k∈feet g.res→k≠w1.heap.size:=fun k hk=>by have:=(hst.feet k hk).1;omega
   refine ⟨g,_,rws,by rw [HMV.out,hst.tb],hst.pair.move hon.size (fun k hk hl=>hon.block k hl (fun he=>?_)) (fun k hk _=>hk.1) (fun k hk h=>h hk),?_,fun k hk=>by have:=(hst.feet k hk).1;omega,hst.bel.trans (hon.below hst.bel.size (fun q hq=>zTbe))⟩
   ·have he:k=w1.heap.size:=he
    rcases hk with h|h
    ·exact h.2.2 he
    ·exact hn1 k h he
   ·rw [hst.eq,←HNL.out,List.take_length]
theorem ocActT:Tryz.prog.cellsOf 104=5:=zyVB
theorem ocRowsT:Tryz.prog.cellsOf 32=1:=zyVB
theorem ocRowT:Tryz.prog.cellsOf 37=1:=zyVB
theorem open_actsT {H:Type} {enc:TypeId × Value→H} {w:World} {v:Value} {d:DataW H} {ps:List MemPlace} (h:DataW.Trod enc Tryz.prog w 0 (fun _=>true) true 26 v d ps) (hv:v.cells.toList=[v]) :
 ∃ l:List ActT,ActsAt w (fun _=>True) v l:=by
 obtain ⟨fuel,hf⟩:=h
 rw [hv] at hf
 obtain ⟨es,h1,h2⟩:=open_sl Tryz.underlying26 ocActT zTbe hf
  (fun c=>∃ a:ActT,c=actCT1 a∧(Sl w (fun _=>True) 3 a.rv a.row.length (rowCells a.row)∧RowsAt w (fun _=>True) a.sv a.rows∧fit64 a.kind∧fit64 a.n∧(∀ v∈a.row,fit64 v.n)∧∀ r∈a.rows,∀ v∈r.l,fit64 v.n))
  (fun c ⟨a,hc,hr,hs,_⟩=>by subst hc;exact ((((Ones.nil.cons (sl_one hs.1)).cons (sl_one hr)).cons rfl).cons rfl).cons rfl)
  (fun f c y hl hy=>by
   obtain ⟨n,hfs⟩:=open_fields Tryz.underlying104 hy
   obtain ⟨c0,c1,c2,c3,c4,rfl⟩:=list5 hl
   obtain ⟨y0,h0⟩:=hfs 0 _ rfl
   obtain ⟨y1,h1⟩:=hfs 1 _ rfl
   obtain ⟨y2,h2⟩:=hfs 2 _ rfl
   obtain ⟨y3,h3⟩:=hfs 3 _ rfl
   obtain ⟨y4,h4⟩:=hfs 4 _ rfl
   simp only [ocInt,ocStr,ocRowT,ocRowsT,List.drop_zero,List.drop_succ_cons,List.take_succ_cons,List.take_zero] at h0 h1 h2 h3 h4
   obtain ⟨k,e0,_,w0⟩:=DataW.trod_int Tryz.underlying3 h0
   obtain ⟨m,e1,_,w1⟩:=DataW.trod_int Tryz.underlying3 h1
   obtain ⟨s,e2,_,w2⟩:=DataW.trod_string Tryz.underlying9 h2
   obtain ⟨l,hl3,hr3⟩:=open_row_at h3
   obtain ⟨rows,hl4,hr4⟩:=open_rows_at h4
   simp only [List.cons.injEq,and_true] at e0 e1 e2
   subst e0 e1 e2
   exact ⟨⟨k,m,s,c3,l,c4,rows⟩,rfl,hl3,hl4,wf_fit64 w0,wf_fit64 w1,fun a ha=>(hr3 a ha).2.1,fun r hr a ha=>(hr4 r hr a ha).2.1⟩)
 obtain ⟨acts,rfl,h4⟩:=choose_list es (fun c hc=>(h1 c hc).2)
 rw [List.length_map] at h2
 exact ⟨acts,h2,fun a ha=>(h4 a ha).1,fun a ha=>(h4 a ha).2.1,fun a ha=>(h4 a ha).2.2⟩
theorem open_intsT {H:Type} {enc:TypeId × Value→H} {w:World} {v:Value} {d:DataW H} {ps:List MemPlace} (h:DataW.Trod enc Tryz.prog w 0 (fun _=>true) true 27 v d ps) (hv:v.cells.toList=[v]) :
 ∃ l:List Int,Sl w (fun _=>True) 1 v l.length (ints l):=by
 obtain ⟨fuel,hf⟩:=h
 rw [hv] at hf
 exact open_ints_at hf
theorem take_yes {α:Type} (P:α→Bool) (l:List α) (j:Nat) (hj:j < l.length) (m:Nat) (hp:P l[j]=true) (hl:(((l.take j).filter P).take m).length < m):((l.take (j+1)).filter P).take m=((l.take j).filter P).take m++[l[j]]:=by
 rw [List.length_take] at hl
 rw [←List.take_append_getElem hj,List.filter_append,List.take_of_length_le (l:=(l.take j).filter P) zTbe,List.take_of_length_le (by simp [hp];omega)]
 simp [hp]
theorem take_no {α:Type} (P:α→Bool) (l:List α) (j:Nat) (hj:j < l.length) (m:Nat) (hp:P l[j]=false∨¬ (((l.take j).filter P).take m).length < m):((l.take (j+1)).filter P).take m=((l.take j).filter P).take m:=by
 rw [←List.take_append_getElem hj,List.filter_append]
 rcases hp with h|h
 ·simp [h]
 ·rw [List.length_take] at h
  rw [List.take_append_of_le_length zTbe]
theorem scans_any (w:World) (hm:Mx w) (S:SchV) (hs:SchAt w (fun _=>True) S) (v:Value) (l:List ActT) (h:ActsAt w (fun _=>True) v l) (idx:Int) (fr tu:ByteArray) (hfr:fr.size≤maxLen) (htu:tu.size≤maxLen) (most:Int) (hm1:fit64 most) (hmi:fit64 idx) :
 Calls Tryz.prog 4 #[S.agg,v,.int .i64 idx,.string fr,.string tu,.int .i64 most] w fun e w'=>e=.returned (.bool true)∧Below w.heap.size w w':=by
 obtain ⟨p,cap,rfl,hc1,hc2⟩:=h.sl.form
 have hgr:=great09_any
 have HM:=Lib.hid hm
 have HS:=Lib.hid h
 have HSC:=Lib.hid hs
 obtain ⟨pc,cc,hcv,_,_⟩:=hs.cols.form
 obtain ⟨pi,ci,hiv,_,_⟩:=hs.idx.1.form
 obtain ⟨nc,hnc⟩:=zAx9
 obtain ⟨ni,hni⟩:=zcSB
 rw [hnc] at hcv
 rw [hni] at hiv
 have HNI:=Lib.hid hni
 have HMV:=zYQU
 have HMC:=zVSb
 have HSA:=zBTG
 obtain ⟨n,hnn⟩:=zwjg
 rw [hnn] at hc1
 have HGR:=Lib.hid (fun W (hb:Below w.heap.size w W)=>great09_any W _ _ S (hs.below hb) _ l (h.below hb))
 have HRT:=Lib.hid (fun W (hb:Below w.heap.size w W)=>refright_any W _ S (hs.below hb))
 have HAW:=Lib.hid (fun W (hb:Below w.heap.size w W)=>awake09_any W (hm.below hb))
 have HPL:=Lib.hid (fun W (hb:Below w.heap.size w W) (hr:rightS S=true) (hf:FineT S l)=>play09_any W (hm.below hb) _ _ S (hs.below hb) hr _ l (h.below hb) hf)
 rw [hnn] at HGR HPL
 rw [HSA.out] at HGR HRT HPL ⊢
 rw [hnn]
 have HNL:=Lib.hid hnn
 obtain ⟨w1,hw1⟩:=zZts
 have hb1:=zppX
 have hk1:=zu9a
 have HB1:=Lib.hid hb1
 have HK1:=Lib.hid hk1
 obtain ⟨x0,x1,x2,x3,x4,x5⟩:=sch_cells hk1
 have HG1:=Lib.hid (HGR.out w1 hb1)
 have hz1:w.heap.size < w1.heap.size:=hk1.lt
 clear h hs hm hcv hiv hnc hni hb1 hk1 hnn hgr HGR
 go_enter Tryz.func4,Tryz.ntmps4
 go_wp2_with fail
 clear hw1 x0 x1 x2 x3 x4 x5
 refine HG1.out.mono ?_
 rintro e w2 ⟨gb,rfl,hb2,hgb⟩
 clear HG1
 have HB2:=Lib.hid (HB1.out.trans (hb2.mono HB1.out.size))
 have HK2:=Lib.hid (HK1.out.below hb2)
 have HGB:=Lib.hid hgb
 clear hb2 hgb
 cases gb with
 | true =>
  exact zDkY
 | false =>
  by_cases h1:300 < fr.size
  ·skip
   exact zDkY
  by_cases h2:300 < tu.size
  ·skip
   exact zDkY
  have hfi:=HGB.out rfl
  have HFI:=Lib.hid hfi
  obtain ⟨rb,hrb⟩:∃ rb,rightS S=rb:=⟨_,rfl⟩
  have hrt:=HRT.out w2 HB2.out
  rw [hrb] at hrt
  have HRT2:=Lib.hid hrt
  have HRB:=Lib.hid hrb
  obtain ⟨x0,x1,x2,x3,x4,x5⟩:=sch_cells HK2.out
  clear hfi hrt hrb HRT
  go_wp2_with fail
  clear x0 x1 x2 x3 x4 x5
  refine HRT2.out.mono ?_
  rintro e w3 ⟨rfl,hb3⟩
  clear HRT2
  have HB3:=Lib.hid (HB2.out.trans (hb3.mono HB2.out.size))
  have HK3:=Lib.hid (HK2.out.below hb3)
  clear hb3
  cases rb with
  | false =>
   exact zrkE
  | true =>
   go_wp2_with fail
   refine (HAW.out _ HB3.out).mono ?_
   rintro e w4 ⟨rfl,hb4⟩
   have HB4:=Lib.hid (HB3.out.trans (hb4.mono HB3.out.size))
   have hk4:=HK3.out.below hb4
   have HK4:=Lib.hid hk4
   have HPL4:=Lib.hid (HPL.out w4 HB4.out HRB.out HFI.out)
   obtain ⟨x0,x1,x2,x3,x4,x5⟩:=sch_cells hk4
   clear hb4 HAW HPL hk4
   go_wp2_with fail
   clear x0 x1 x2 x3 x4 x5
   refine HPL4.out.mono ?_
   clear HPL4
   rintro e w5 ⟨g,lv,rws,rfl,hpr,hrm,hfe,hb5⟩
   obtain ⟨pl,cl,hlv,_,_⟩:=hpr.md.ra.1.form
   obtain ⟨nl,hnl⟩:=zo6F
   rw [hnl] at hlv
   subst hlv
   rw [HMV.out]
   obtain ⟨w6,hw6⟩:=z4Ek
   have hb56:=zxRo
   have hk6:=zniE
   have hpr6:=hpr.below hb56
   have hb06:=zK58
   have HB6:=Lib.hid hb06
   have HKM:=Lib.hid hk6
   have HKS:=Lib.hid ((HK4.out.below hb5).below hb56)
   have HPR:=Lib.hid hpr6
   have HLI:=Lib.hid hpr6.like
   have hlen:=hpr6.len.2
   have hxl:g.xs.length=ni:=zSkJ
   have HRM:=Lib.hid hrm
   clear hb5 hb56 hk6 hpr hrm hfe hb06
   by_cases hix:0≤idx∧idx < (ni:Int)
   ·skip
    obtain ⟨i,rfl⟩:∃ i:Nat,idx=(i:Int):=⟨idx.toNat,zTbe⟩
    have hin:i < ni:=zTbe
    have hsc:=tscan_any w6 _ g hpr6.tab.ok hpr6.tab.sep i (by rw [hxl];exact hin) fr.toList tu.toList most hm1.1 (by have:=hm1.2;omega)
    rw [kb_self,kb_self] at hsc
    have HSN:=Lib.hid hsc
    have HBY:=Lib.hid (fun W (hb:Below w6.heap.size w6 W)=>mby_any W _ S _ rws (hpr6.md.below hb) hlen i ziQF)
    have HOK:=Lib.hid hpr6.md.ok
    have HRG:=Lib.hid hpr6.md.right
    have hsR:scanR g i fr.toList tu.toList most=((byM (kfS S) i (rws.map RowV.l)).filter (fromTo S i fr.toList tu.toList)).take most.toNat:=by
     unfold scanR
     have h1:fromTo g.S i fr.toList tu.toList=fromTo S i fr.toList tu.toList:=by funext r;unfold fromTo;rw [hpr6.like.kf]
     rw [h1,hpr6.like.kf,hpr6.eq]
    have HSR:=Lib.hid hsR
    have HBM:Hid (∀ r∈byM (kfS S) i (rws.map RowV.l),RowOK S r):=Lib.hid fun r hr=>by
     exact zJf9
    have HBL:Hid ((byM (kfS S) i (rws.map RowV.l)).length≤1000):=Lib.hid (by
     have h1:=idx_len (kfS S) (n:=0) (rows:=rws.map RowV.l) i
     unfold idxEnts at h1
     rw [List.length_map,List.length_map] at h1
     omega)
    clear hsc hpr6 hix hsR
    go_wp2_with fail
    clear hw6
    refine HSN.out.mono ?_
    clear HSN
    rintro e w7 ⟨gv,rgot,rfl,hgot,hgm⟩
    have hb67:=hgot.2.2.1
    have HGOT:=Lib.hid hgot
    have HGM:=Lib.hid hgm
    obtain ⟨pg,cg,hgv,_,_⟩:=own_formT hgot.1
    obtain ⟨ng,hng⟩:∃ ng,rgot.length=ng:=⟨_,rfl⟩
    rw [hng] at hgv
    subst hgv
    have HB67:=Lib.hid hb67
    have hby:=HBY.out w7 hb67
    rw [HMV.out] at hby
    have HBY7:=Lib.hid hby
    have HNG:=Lib.hid hng
    obtain ⟨x0,x1,x2,x3,x4,x5⟩:=sch_cells (HKS.out.below hb67)
    obtain ⟨y0,y1,y2,y3,y4,y5,y6⟩:=md_cells (HKM.out.below hb67)
    have hi0:¬ ((i:Int) < 0):=zTbe
    have hi1:(i:Int) < (ni:Int):=zTbe
    clear hgot hgm hb67 hby HBY hng
    go_wp2_with fail
    clear x0 x1 x2 x3 x4 x5 y0 y1 y2 y3 y4 y5 y6
    refine HBY7.out.mono ?_
    clear HBY7
    rintro e w8 ⟨bv,rwsb,rfl,hbr,hbm,hb78⟩
    rw [←hbm] at HBM HSR HBL
    rw [HSR.out] at HGM
    obtain ⟨pb,cb,hbv,hcb1,hcb2⟩:=hbr.1.form
    obtain ⟨nb,hnb⟩:∃ nb,rwsb.length=nb:=⟨_,rfl⟩
    rw [hnb] at hbv hcb1
    subst hbv
    have hbf:∀ r∈rwsb,∃ p n c,r.v=.slice p n c:=fun r hr=>by
     obtain ⟨p,c,h1,_⟩:=(hbr.2 r hr).form
     exact ⟨p,_,c,h1⟩
    have HBF:=Lib.hid hbf
    have HBR:=Lib.hid hbr
    have HNB:=Lib.hid hnb
    have HB78:=Lib.hid hb78
    have hbl:nb≤1000:=by have:=HBL.out;rw [List.length_map,hnb] at this;exact this
    have HB08:Hid (Below w.heap.size w w8):=Lib.hid (HB6.out.trans ((HB67.out.trans (hb78.mono HB67.out.size)).mono HB6.out.size))
    have HKS8:=zNYf
    have HKEY:Hid (∀ W,Below w8.heap.size w8 W→∀ r∈rwsb,Calls Tryz.prog 18 #[S.agg,.int .i64 (i:Int),r.v] W fun e w'=>e=.returned (.string (kb (kfS S i r.l)))∧Below W.heap.size W w'):=Lib.hid fun W hb r hr =>
     dkey_any W _ _ S i r.v r.l (HSC.out.below (HB08.out.trans (hb.mono HB08.out.size))) HRG.out ((hbr.2 r hr).below hb) ziQF (HBM.out _ (List.mem_map_of_mem hr))
    rw [HSA.out] at HKEY
    clear hbr hbm hb78 hnb hbf HSR hi0 hi1
    go_wp2
    go_loopw [17,19] (fun lv iv wr=>∃ (j:Nat) (outl:List RowV),iv=.int .i64 j∧j≤nb∧outl.length≤j∧OutSt w8 lv outl wr∧(∀ r∈outl,r∈rwsb)∧outl.map RowV.l=(((rwsb.map RowV.l).take j).filter (fromTo S i fr.toList tu.toList)).take most.toNat) (fun _ iv _=>nb - (intOf iv).toNat)
    case atStart=>exact ⟨0,[],rfl,Nat.zero_le _,Nat.le_refl _,OutSt.nil (Below.refl _ _),zPXO,zPXO⟩
    case round =>
     obtain ⟨j,outl,rfl,hj,hol,hou,hom,heq⟩:=hrel
     obtain ⟨po,co,hvo,hco1,hco2⟩:=own_formT hou.own
     obtain ⟨ol,holn⟩:∃ ol,outl.length=ol:=⟨_,rfl⟩
     rw [holn] at hvo hco1
     subst hvo
     have HOU:=Lib.hid hou
     have HOM:=Lib.hid hom
     have HEQ:=Lib.hid heq
     have HOL:=Lib.hid hol
     have HOLN:=Lib.hid holn
     have hbw:=hou.bel
     by_cases hjb:j < nb
     ·have hjr:j < rwsb.length:=by rw [HNB.out];exact hjb
      obtain ⟨gb_,ob,cpb,hvb,eb⟩:=(HBR.out.below hbw).at hjr
      rw [HNB.out] at hvb
      cases hvb
      have hmk:rwsb[j]∈rwsb:=List.getElem_mem hjr
      obtain ⟨px,nx,cx,hxv⟩:=HBF.out _ hmk
      have hgb:gb_ < wr.heap.size:=World.block_lt_of_cell? _ _ eb
      have hK:=HKEY.out wr.drew hbw.drew _ hmk
      rw [hxv] at eb hK
      have HKJ:=Lib.hid hK
      obtain ⟨x0,x1,x2,x3,x4,x5⟩:=sch_cells (HKS8.out.below hbw)
      have hjm:j < (rwsb.map RowV.l).length:=by rw [List.length_map];exact hjr
      have HMK:=Lib.hid hmk
      have HXV:=Lib.hid hxv
      obtain ⟨a1,ha1⟩:∃ a1,Op.bytesLess (kfS S i rwsb[j].l) fr.toList=a1:=⟨_,rfl⟩
      obtain ⟨a2,ha2⟩:∃ a2,tu.toList.isEmpty=a2:=⟨_,rfl⟩
      obtain ⟨a3,ha3⟩:∃ a3,Op.bytesLess (kfS S i rwsb[j].l) tu.toList=a3:=⟨_,rfl⟩
      have hP:fromTo S i fr.toList tu.toList (rwsb.map RowV.l)[j]=(!a1 && (a2 || a3)):=by unfold fromTo;simp only [List.getElem_map];rw [ha1,ha2,ha3]
      have hlt2:((ol:Int) < most)↔((((rwsb.map RowV.l).take j).filter (fromTo S i fr.toList tu.toList)).take most.toNat).length < most.toNat:=by
       rw [←heq,List.length_map,holn];omega
      have HNO:Hid ((!a1 && (a2 || a3))=false→(((rwsb.map RowV.l).take (j+1)).filter (fromTo S i fr.toList tu.toList)).take most.toNat=(((rwsb.map RowV.l).take j).filter (fromTo S i fr.toList tu.toList)).take most.toNat):=Lib.hid fun h=>take_no _ _ j hjm _ (.inl (hP.trans h))
      have HYES:Hid ((!a1 && (a2 || a3))=true→(ol:Int) < most→(((rwsb.map RowV.l).take (j+1)).filter (fromTo S i fr.toList tu.toList)).take most.toNat=(((rwsb.map RowV.l).take j).filter (fromTo S i fr.toList tu.toList)).take most.toNat++[rwsb[j]].map RowV.l):=Lib.hid fun h h2=>by
       rw [take_yes _ _ j hjm _ (hP.trans h) (hlt2.1 h2)];simp only [List.getElem_map];rfl
      have HNOL:Hid (¬ (ol:Int) < most→(((rwsb.map RowV.l).take (j+1)).filter (fromTo S i fr.toList tu.toList)).take most.toNat=(((rwsb.map RowV.l).take j).filter (fromTo S i fr.toList tu.toList)).take most.toNat):=Lib.hid fun h=>take_no _ _ j hjm _ (.inr fun h2=>h (hlt2.2 h2))
      have hk1:Op.bytesLess (kb (kfS S i rwsb[j].l)).toList fr.toList=a1:=by rw [kb_list];exact ha1
      have hk3:Op.bytesLess (kb (kfS S i rwsb[j].l)).toList tu.toList=a3:=by rw [kb_list];exact ha3
      generalize kb (kfS S i rwsb[j].l)=kk at *
      generalize hrj:rwsb[j]=rj at HMK HXV HYES
      have HBW:=Lib.hid hbw
      have hol2:ol≤1000:=zTbe
      clear hou hom heq hol holn hbw hmk hxv hK hP hlt2 hjm ha1 ha3 hrj hjr
      go_upto_region 14 with fail
      refine wp_region_lit_plan [] [(1,0),(2,0),(3,0),(4,0),(0,1),(5,1),(6,4),(7,0)] (fun _=>False) zyVB zyVB (fun c a d v w h=>zx0I) ?_
      go_upto_region 15 with (first
       | (refine stp ?_)
       | (go_at_call 18;refine HKJ.out.mono ?_;clear HKJ;rintro e w7 ⟨rfl,hb7⟩;have HB7:=Lib.hid (HBW.out.drew.trans (Below.mono hb7 HBW.out.size));have HOU7:=Lib.hid (HOU.out.below (Below.trans (Below.refl _ _).drew hb7));have HEB7:=Lib.hid ((Below.cell hb7 (p:=⟨gb_,ob+j,none⟩) hgb).trans eb);clear hb7))
      have hoo:=HOU7.out.own
      rw [HOLN.out] at hoo
      clear x0 x1 x2 x3 x4 x5 eb
      have eb:=HEB7.out
      cases a1 with
      | true =>
       clear hoo
       go_wp2
       go_roundw
       case rel=>exact ⟨j+1,outl,z3KH,zTbe,by have:=HOL.out;omega,HOU7.out,HOM.out,by rw [HEQ.out];exact (HNO.out (by simp [Bool.not_true])).symm⟩
       case measure=>(simp [intOf])<;>omega
      | false =>
       cases a2 with
       | true =>
        exact zrts
       | false =>
        cases a3 with
        | true =>
         exact zrts
        | false =>
         clear hoo
         go_wp2
         go_roundw
         case rel=>exact ⟨j+1,outl,z3KH,zTbe,by have:=HOL.out;omega,HOU7.out,HOM.out,by rw [HEQ.out];exact (HNO.out (by simp [Bool.not_false])).symm⟩
         case measure=>(simp [intOf])<;>omega
     ·have hje:j=nb:=by omega
      have hgr:RowsAt wr (fun q=>w6.heap.size≤q) (.slice pg ng cg) rgot:=(HGOT.out.at.below HB78.out).below hbw
      have hwr:RowsAt wr (fun _=>True) (.slice po ol co) outl:=⟨by have:=hou.own.sl (B:=fun _=>True) (fun _ _=>trivial);rwa [holn] at this ⊢,fun r hr=>((HBR.out.2 r (hom r hr)).below hbw).mono (Nat.le_refl _) (fun _ _ _=>rfl) (fun _ _ _=>trivial)⟩
      have hee:rgot.map RowV.l=outl.map RowV.l:=by
       rw [HGM.out,heq,hje,List.take_of_length_le (l:=rwsb.map RowV.l) (i:=nb) (by rw [List.length_map,HNB.out];exact Nat.le_refl _)]
      have HSM:=Lib.hid (same_rows wr _ _ _ _ rgot outl hgr hwr hee)
      have HBW:=Lib.hid hbw
      clear hou hom heq hol holn hbw hgr hwr hee
      go_wp2_with fail
      refine HSM.out.mono ?_
      rintro e w9 ⟨rfl,hb9⟩
      go_wp2
      go_ret
      exact ⟨rfl,HB08.out.trans ((HBW.out.trans (hb9.mono HBW.out.size)).mono HB08.out.size)⟩
   ·skip
    have hno:(decide (0≤idx) && decide (idx < (g.xs.length:Int)))=false:=by
     rw [hxl,Bool.and_eq_false_iff,decide_eq_false_iff_not,decide_eq_false_iff_not]
     omega
    have HSN:=Lib.hid (tscan_no w6 _ g hpr6.tab.ok hpr6.tab.sep idx hno fr tu most)
    exact z6Id
theorem scans_law (v0:Value) (S:SchV) (v:Value) (l:List ActT) (idx:Int) (hi:(Lit.int IntKind.i64 idx).wf=true) (fr:ByteArray) (h1:fr.size≤maxLen) (tu:ByteArray) (h2:tu.size≤maxLen) (most:Int) (hm1:(Lit.int IntKind.i64 most).wf=true) (w:World) (hm:Mx w) (h:v0=S.agg∧SchAt w (fun _=>True) S∧S.read) (ha:ActsAt w (fun _=>True) v l) :
 Calls Tryz.prog 4 #[v0,v,.int .i64 idx,.string fr,.string tu,.int .i64 most] w fun e w'=>e=.returned (.bool true)∧Below w.heap.size w w':=by
 obtain ⟨rfl,hs,_⟩:=h
 exact scans_any w hm S hs v l ha idx fr tu h1 h2 most (wf_fit64 hm1) (wf_fit64 hi)
theorem tsame_any (w:World) (hm:Mx w) (S:SchV) (hs:SchAt w (fun _=>True) S) (v:Value) (l:List ActT) (h:ActsAt w (fun _=>True) v l) :
 Calls Tryz.prog 5 #[S.agg,v] w fun e w'=>e=.returned (.bool true)∧Below w.heap.size w w':=by
 obtain ⟨p,cap,rfl,hc1,hc2⟩:=h.sl.form
 have hgr:=great09_any
 have HM:=Lib.hid hm
 have HS:=Lib.hid h
 have HSC:=Lib.hid hs
 obtain ⟨pc,cc,hcv,_,_⟩:=hs.cols.form
 obtain ⟨pi,ci,hiv,_,_⟩:=hs.idx.1.form
 obtain ⟨nc,hnc⟩:=zAx9
 obtain ⟨ni,hni⟩:=zcSB
 rw [hnc] at hcv
 rw [hni] at hiv
 have HNI:=Lib.hid hni
 have HMV:=zYQU
 have HMC:=zVSb
 have HSA:=zBTG
 obtain ⟨n,hnn⟩:=zwjg
 rw [hnn] at hc1
 have HGR:=Lib.hid (fun W (hb:Below w.heap.size w W)=>great09_any W _ _ S (hs.below hb) _ l (h.below hb))
 have HRT:=Lib.hid (fun W (hb:Below w.heap.size w W)=>refright_any W _ S (hs.below hb))
 have HAW:=Lib.hid (fun W (hb:Below w.heap.size w W)=>awake09_any W (hm.below hb))
 have HPL:=Lib.hid (fun W (hb:Below w.heap.size w W) (hr:rightS S=true) (hf:FineT S l)=>play09_any W (hm.below hb) _ _ S (hs.below hb) hr _ l (h.below hb) hf)
 rw [hnn] at HGR HPL
 rw [HSA.out] at HGR HRT HPL ⊢
 rw [hnn]
 have HNL:=Lib.hid hnn
 obtain ⟨w1,hw1⟩:=zZts
 have hb1:=zppX
 have hk1:=zu9a
 have HB1:=Lib.hid hb1
 have HK1:=Lib.hid hk1
 obtain ⟨x0,x1,x2,x3,x4,x5⟩:=sch_cells hk1
 have HG1:=Lib.hid (HGR.out w1 hb1)
 have hz1:w.heap.size < w1.heap.size:=hk1.lt
 clear h hs hm hcv hiv hnc hni hb1 hk1 hnn hgr HGR
 go_enter Tryz.func5,Tryz.ntmps5
 go_wp2_with fail
 clear hw1 x0 x1 x2 x3 x4 x5
 refine HG1.out.mono ?_
 rintro e w2 ⟨gb,rfl,hb2,hgb⟩
 clear HG1
 have HB2:=Lib.hid (HB1.out.trans (hb2.mono HB1.out.size))
 have HK2:=Lib.hid (HK1.out.below hb2)
 have HGB:=Lib.hid hgb
 clear hb2 hgb
 cases gb with
 | true =>
  exact zDkY
 | false =>
  have hfi:=HGB.out rfl
  have HFI:=Lib.hid hfi
  obtain ⟨rb,hrb⟩:∃ rb,rightS S=rb:=⟨_,rfl⟩
  have hrt:=HRT.out w2 HB2.out
  rw [hrb] at hrt
  have HRT2:=Lib.hid hrt
  have HRB:=Lib.hid hrb
  obtain ⟨x0,x1,x2,x3,x4,x5⟩:=sch_cells HK2.out
  clear hfi hrt hrb HRT
  go_wp2_with fail
  clear x0 x1 x2 x3 x4 x5
  refine HRT2.out.mono ?_
  rintro e w3 ⟨rfl,hb3⟩
  clear HRT2
  have HB3:=Lib.hid (HB2.out.trans (hb3.mono HB2.out.size))
  have HK3:=Lib.hid (HK2.out.below hb3)
  clear hb3
  cases rb with
  | false =>
   exact zrkE
  | true =>
   go_wp2_with fail
   refine (HAW.out _ HB3.out).mono ?_
   rintro e w4 ⟨rfl,hb4⟩
   have HB4:=Lib.hid (HB3.out.trans (hb4.mono HB3.out.size))
   have hk4:=HK3.out.below hb4
   have HK4:=Lib.hid hk4
   have HPL4:=Lib.hid (HPL.out w4 HB4.out HRB.out HFI.out)
   obtain ⟨x0,x1,x2,x3,x4,x5⟩:=sch_cells hk4
   clear hb4 HAW HPL hk4
   go_wp2_with fail
   clear x0 x1 x2 x3 x4 x5
   refine HPL4.out.mono ?_
   clear HPL4
   rintro e w5 ⟨g,lv,rws,rfl,hpr,hrm,hfe,hb5⟩
   obtain ⟨pl,cl,hlv,_,_⟩:=hpr.md.ra.1.form
   obtain ⟨nl,hnl⟩:=zo6F
   rw [hnl] at hlv
   subst hlv
   rw [HMV.out]
   obtain ⟨w6,hw6⟩:=z4Ek
   have hb56:=zxRo
   have hpr6:=hpr.below hb56
   have hb06:=zK58
   have HB6:=Lib.hid hb06
   have HKS:=Lib.hid ((HK4.out.below hb5).below hb56)
   have HPR:=Lib.hid hpr6
   have hxl:g.xs.length=ni:=zSkJ
   have hni4:ni≤4:=by have:=(sch_small HRB.out).2.1;rw [HNI.out] at this;exact this
   have hll:g.L.length≤1000:=hpr6.tab.ok.lim
   have HSN:Hid (∀ W,Below w6.heap.size w6 W→∀ i:Nat,i < ni→Calls Tryz.prog 23 #[ptrV g.tb,.int .i64 (i:Int),.string ⟨#[]⟩,.string ⟨#[]⟩,.int .i64 2000] W fun e w'=>∃ v rws2,e=.returned v∧RowsSq W w' v rws2∧rws2.length=g.L.length∧∀ r∈rws2,r.l∈g.rows):=Lib.hid fun W hb i hi=>by
    refine (tscan_any W _ g (hpr6.tab.ok.below hb) (hpr6.tab.sep.below hb) i (by rw [hxl];exact hi) [] [] 2000 zTbe zTbe).mono ?_
    rintro e w' ⟨v2,rws2,rfl,hsq,hsm⟩
    have hF:scanR g i [] [] 2000=byM (kfS g.S) i g.rows:=by
     have hfl:(byM (kfS g.S) i g.rows).length=g.rows.length:=by
      have h1:=idx_len (kfS g.S) (n:=0) (rows:=g.rows) i
      unfold idxEnts at h1
      rwa [List.length_map] at h1
     have hft:∀ r,fromTo g.S i [] [] r=true:=fun r=>by
      unfold fromTo
      have:Op.bytesLess (kfS g.S i r) []=false:=by cases kfS g.S i r<;>rfl
      rw [this];rfl
     unfold scanR
     rw [List.filter_eq_self.2 (fun r _=>hft r),List.take_of_length_le]
     rw [hfl,TabG.rows_len]
     show g.L.length≤2000
     omega
    have hln:rws2.length=g.L.length:=by
     have h1:=congrArg List.length (hsm.trans hF)
     have h2:=idx_len (kfS g.S) (n:=0) (rows:=g.rows) i
     unfold idxEnts at h2
     rw [List.length_map] at h1 h2
     rw [h1,h2,TabG.rows_len]
    refine ⟨v2,rws2,rfl,hsq,hln,fun r hr=>?_⟩
    have hmem:r.l∈byM (kfS g.S) i g.rows:=by rw [←hF,←hsm];exact List.mem_map_of_mem hr
    exact ((byM_spec (kfS g.S) i g.rows (hpr6.tab.ok.tab.uniq i (by rw [←hpr6.tab.ok.xl,hxl];exact hi))).2 r.l).1 hmem
   have HLE:Hid (∀ W,Below w6.heap.size w6 W→Calls Tryz.prog 25 #[ptrV g.tb] W fun e w'=>e=.returned (.int .i64 (g.L.length:Int))∧w'=W):=Lib.hid fun W hb=>tlen_any W _ g (hpr6.tab.ok.below hb) (hpr6.tab.sep.below hb)
   have HKY:Hid (∀ W,Below w6.heap.size w6 W→∀ (B:Nat→Prop) (r:RowV),r.l∈g.rows→Sl W B 3 r.v r.l.length (rowCells r.l)→Calls Tryz.prog 26 #[ptrV g.tb,r.v] W fun e w'=>e=.returned (.tuple #[.string (kb (kfS g.S 0 r.l)),.int .i64 0])∧Below W.heap.size W w'):=Lib.hid fun W hb B r hr hsl=>by
    have hok:=hpr6.tab.rowsOK r.l hr
    exact tkey_any W _ g (hpr6.tab.ok.below hb) (hpr6.tab.sep.below hb) B r.v r.l hsl hok.n64 (by have:=(sch_small hpr6.tab.ok.st.right).1;have:=hok.len;omega) ((chk_zero hpr6.tab.ok.st.right r.l).1 hok.fit)
   have HGT:Hid (∀ W,Below w6.heap.size w6 W→∀ r:List AV,r∈g.rows→Calls Tryz.prog 27 #[ptrV g.tb,.string (kb (kfS g.S 0 r))] W fun e w'=>∃ v',e=.returned (.tuple #[v',.bool true])∧Own w' 113 3 v' r.length (rowCells r)∧Below W.heap.size W w'):=Lib.hid fun W hb r hr=>by
    refine (tget_any W _ g (hpr6.tab.ok.below hb) (hpr6.tab.sep.below hb) (kfS g.S 0 r)).mono ?_
    rintro e w' ⟨v',rfl,ho,hb',_⟩
    have h1:=rowOf_key hpr6.tab.ok hr
    have h2:(lookL g (kfS g.S 0 r)).isSome=true:=by
     obtain ⟨p,hp,hpr⟩:=List.mem_map.1 hr
     unfold lookL
     rw [List.find?_isSome]
     exact ⟨p,hp,by rw [hpr];exact beq_self_eq_true _⟩
    rw [h1] at ho
    rw [h2]
    exact ⟨v',rfl,ho,hb'⟩
   obtain ⟨ln,hln⟩:∃ ln,g.L.length=ln:=⟨_,rfl⟩
   rw [hln] at hll
   simp only [hln] at HSN HLE
   clear hb5 hb56 hpr hrm hfe hb06 hpr6 hxl hln HPR
   go_wp2
   clear hw6
   go_loopw [8] (fun i wr=>∃ k:Nat,i=.int .i64 k∧k≤ni∧Below w6.heap.size w6 wr) (fun i _=>ni - (intOf i).toNat)
   case atStart=>exact ⟨0,rfl,Nat.zero_le _,Below.refl _ _⟩
   case round =>
    obtain ⟨k,rfl,hk,hbw⟩:=hrel
    obtain ⟨wo,rfl⟩:=zDit
    have HBW:=Lib.hid hbw
    obtain ⟨x0,x1,x2,x3,x4,x5⟩:=sch_cells (HKS.out.below hbw)
    by_cases hkn:k < ni
    ·have HS1:=Lib.hid (HSN.out wo hbw k hkn)
     clear hbw
     go_wp2_with fail
     clear x0 x1 x2 x3 x4 x5
     refine HS1.out.mono ?_
     clear HS1
     rintro e w7 ⟨gv,rws2,rfl,hsq,hsl,hsm⟩
     have hb7:=HBW.out.trans (hsq.2.2.1.mono HBW.out.size)
     have HB7:=Lib.hid hb7
     obtain ⟨pg,cg,hgv,_,_⟩:=own_formT hsq.1
     rw [hsl] at hgv
     subst hgv
     have HSQ:=Lib.hid hsq.at
     have HSL:=Lib.hid hsl
     have HSM:=Lib.hid hsm
     have HL7:=Lib.hid (HLE.out w7 hb7)
     have hfo:∀ r∈rws2,∃ p n c,r.v=.slice p n c:=fun r hr=>by
      obtain ⟨p,c,h1,_⟩:=(hsq.at.2 r hr).form
      exact ⟨p,_,c,h1⟩
     have HFO2:=Lib.hid hfo
     have hle:((ln:Int) == (ln:Int))=true:=beq_self_eq_true _
     clear hsq hsl hsm hb7 hfo
     go_wp2_with fail
     refine HL7.out.mono ?_
     clear HL7
     rintro e w8 ⟨rfl,rfl⟩
     go_wp2
     go_loopw [10] (fun i wr=>∃ j:Nat,i=.int .i64 j∧j≤ln∧Below w8.heap.size w8 wr) (fun i _=>ln - (intOf i).toNat)
     case atStart=>exact ⟨0,rfl,Nat.zero_le _,Below.refl _ _⟩
     case round =>
      obtain ⟨j,rfl,hj,hbj⟩:=hrel
      have hb6:=HB7.out.trans (hbj.mono HB7.out.size)
      have HBJ:=Lib.hid hb6
      have HBJ8:=Lib.hid hbj
      by_cases hjn:j < ln
      ·skip
       have hjr:j < rws2.length:=by rw [HSL.out];exact hjn
       have hra:=HSQ.out.below hbj
       obtain ⟨gr,or_,cpr,hvr,ek⟩:=hra.at hjr
       rw [HSL.out] at hvr
       cases hvr
       have hgr:=World.block_lt_of_cell? _ _ ek
       have hmk:rws2[j]∈rws2:=List.getElem_mem hjr
       obtain ⟨px,nx,cx,hxv⟩:=HFO2.out _ hmk
       have hin:=HSM.out _ hmk
       have hKY:=HKY.out wr hb6 _ rws2[j] hin (hra.2 _ hmk)
       have HROW:=Lib.hid (hra.2 _ hmk)
       generalize rws2[j]=rj at *
       rw [hxv] at ek hKY
       have HXV:=Lib.hid hxv
       have HKJ:=Lib.hid hKY
       have HGJ:=Lib.hid (fun W hb=>HGT.out W hb rj.l hin)
       have HEK:=Lib.hid ek
       generalize kb (kfS g.S 0 rj.l)=k1 at *
       clear hbj hb6 hra hmk hin hKY hxv hjr
       go_wp2_with fail
       clear ek
       refine HKJ.out.mono ?_
       clear HKJ
       rintro e w9 ⟨rfl,hb9⟩
       have hb69:=HBJ.out.trans (hb9.mono HBJ.out.size)
       have HB9:=Lib.hid hb9
       have HB69:=Lib.hid hb69
       have HG9:=Lib.hid (HGJ.out w9 hb69)
       clear hb9 hb69 HGJ
       go_wp2_with fail
       refine HG9.out.mono ?_
       clear HG9
       rintro e w10 ⟨v',rfl,ho,hb10⟩
       obtain ⟨po,co,hvo,_,_⟩:=(ho.sl (B:=fun _=>True) (fun _ _=>trivial)).form
       have hb910:=HB9.out.trans (hb10.mono HB9.out.size)
       have ek:=(hb910.cell (p:=⟨gr,or_+j,none⟩) hgr).trans HEK.out
       have hSM:=same_row w10 _ _ v' rj.v rj.l (ho.sl (B:=fun _=>True) (fun _ _=>trivial)) (HROW.out.below hb910)
       obtain ⟨nr,hnr⟩:∃ nr,rj.l.length=nr:=⟨_,rfl⟩
       rw [hnr] at hvo
       rw [hvo,HXV.out] at hSM
       subst hvo
       have HSM2:=Lib.hid hSM
       have HB10:=Lib.hid (HB69.out.trans (hb10.mono HB69.out.size))
       have HB910:=Lib.hid hb910
       clear ho hb10 hb910 hSM hnr
       go_wp2_with fail
       refine HSM2.out.mono ?_
       rintro e w11 ⟨rfl,hb11⟩
       have HB11:=Lib.hid (HBJ8.out.trans ((HB910.out.trans (hb11.mono HB910.out.size)).mono HBJ8.out.size))
       clear hb11
       go_wp2
       go_roundw
       case rel=>exact ⟨j+1,z3KH,zTbe,HB11.out⟩
       case measure=>(simp [intOf])<;>omega
      ·have hje:j=ln:=by omega
       clear hbj hb6
       go_wp2
       go_roundw
       case rel=>exact ⟨k+1,z3KH,zTbe,HBJ.out⟩
       case measure=>(simp [intOf])<;>omega
    ·clear hbw
     go_wp2
     go_ret
     exact ⟨rfl,HB6.out.trans (HBW.out.mono HB6.out.size)⟩
theorem tsame_law (v0:Value) (S:SchV) (v:Value) (l:List ActT) (w:World) (hm:Mx w) (h:v0=S.agg∧SchAt w (fun _=>True) S∧S.read) (ha:ActsAt w (fun _=>True) v l) :
 Calls Tryz.prog 5 #[v0,v] w fun e w'=>e=.returned (.bool true)∧Below w.heap.size w w':=by
 obtain ⟨rfl,hs,_⟩:=h
 exact tsame_any w hm S hs v l ha
theorem in09_any (w:World) (B B' B2:Nat→Prop) (S:SchV) (hs:SchAt w B S) (hri:rightS S=true) (rv:Value) (row:List AV) (hr:Sl w B' 3 rv row.length (rowCells row)) (hok:RowOK S row) (pv:Value) (ps:List Int) (hp:Sl w B2 1 pv ps.length (ints ps)) :
 Calls Tryz.prog 17 #[S.agg,rv,pv] w fun e w'=>e=.returned (.bool (inP S ps row))∧Below w.heap.size w w':=by
 obtain ⟨hby0,hby1,hp1,hp8,_⟩:=rightS_by hri
 have hfl:=fitB_len hok.fit
 obtain ⟨by_,hby⟩:∃ n:Nat,S.by_=(n:Int):=⟨S.by_.toNat,zTbe⟩
 obtain ⟨M,hM⟩:∃ n:Nat,S.parts=(n:Int):=⟨S.parts.toNat,zTbe⟩
 have hnr:by_ < row.length:=zTbe
 have hra:row[by_].right=true:=by
  exact zuaw
 have hfa:fits row[by_].n:=hok.n64 _ (List.getElem_mem hnr)
 have hz:partO S row=mdN (spT row[by_].kind row[by_].n row[by_].s) M:=by
  unfold partO
  rw [if_pos ((chk_zero hri row).1 hok.fit),hby,Int.toNat_natCast,List.getElem?_eq_getElem hnr,hM]
 have HSP:=Lib.hid (fun W=>refspread_any W row[by_].kind row[by_].n row[by_].s M zTbe zTbe hfa (fun h=>right_two _ hra h) (right_size _ hra))
 obtain ⟨g,off,cap,hv,hg,e0,e1,e2⟩:=sl_av hr hnr
 obtain ⟨pp,cp,hpv,hcp1,hcp2⟩:=hp.form
 subst hpv
 obtain ⟨pc,cc,hcv,_,_⟩:=hs.cols.form
 obtain ⟨pi,ci,hiv,_,_⟩:=hs.idx.1.form
 obtain ⟨nc,hnc⟩:=zAx9
 obtain ⟨ni,hni⟩:=zcSB
 obtain ⟨np,hnp⟩:∃ np,ps.length=np:=⟨_,rfl⟩
 obtain ⟨nr,hnr2⟩:∃ nr,row.length=nr:=⟨_,rfl⟩
 rw [hnc] at hcv
 rw [hni] at hiv
 rw [hnp] at hcp1 ⊢
 rw [hnr2] at hv hnr
 subst hv
 have hin:∀ b,(∀ x∈ps,x≠partO S row)→np=0∨b=false→True:=fun _ _ _=>trivial
 have HP:=Lib.hid hp
 have HNP:=Lib.hid hnp
 simp only [SchV.agg,hcv,hiv,hby,hM]
 rw [←hz] at HSP
 have HIN:Hid (inP S ps row=(ps.isEmpty || ps.contains (partO S row))):=Lib.hid rfl
 generalize partO S row=z at *
 generalize inP S ps row=out at *
 obtain ⟨w1,hw1⟩:∃ w1,w.alloc (.cells #[.string S.name,.slice pc nc cc,.slice pi ni ci,.int .i64 S.limit,.int .i64 (M:Int),.int .i64 (by_:Int)] 25)=w1:=⟨_,rfl⟩
 have hal:=zppX
 have hk1:Blk w1 w.heap.size 25 [.string S.name,.slice pc nc cc,.slice pi ni ci,.int .i64 S.limit,.int .i64 (M:Int),.int .i64 (by_:Int)]:=hw1▸Blk.new w _ _
 have HAL:=Lib.hid hal
 have HK1:=Lib.hid hk1
 have HG:=Lib.hid hg
 have HE0:=Lib.hid e0
 have HE1:=Lib.hid e1
 have HE2:=Lib.hid e2
 clear hs hri hr hok hp hby0 hby1 hp1 hp8 hfl hby hM hra hfa hz hcv hiv hnc hni hnp hnr2 hal hk1 e0 e1 e2 hin
 generalize row[by_]'_=a at *
 obtain ⟨ak,an,sa⟩:=a
 simp only at HE0 HE1 HE2 HSP
 go_enter Tryz.func17,Tryz.ntmps17
 go_wp2
 clear hw1
 go_loopw [7] (fun i wr=>∃ j:Nat,i=.int .i64 j∧j≤np∧(ps.take j).contains z=false∧Below w1.heap.size w1 wr) (fun i _=>np - (intOf i).toNat)
 case atStart=>exact ⟨0,rfl,Nat.zero_le _,zPXO,Below.refl _ _⟩
 case round =>
  obtain ⟨j,rfl,hj,hc,hbw⟩:=hrel
  have HBW:=Lib.hid hbw
  have hb0:=HAL.out.trans (hbw.mono HAL.out.size)
  by_cases hjn:j < np
  ·have hjp:j < ps.length:=by rw [HNP.out];exact hjn
   obtain ⟨gp,op,cpp,hvp,hgp,ep⟩:=sl_int (HP.out.below hb0) hjp
   rw [HNP.out] at hvp
   cases hvp
   have hst:(ps[j] == z)=false→(ps.take (j+1)).contains z=false:=fun h=>by
    rw [←List.take_append_getElem hjp,List.contains_eq_any_beq,List.any_append,←List.contains_eq_any_beq,hc]
    simp only [List.any_cons,List.any_nil,Bool.or_false,Bool.false_or]
    rw [beq_eq_false_iff_ne] at h ⊢
    exact fun he=>h he.symm
   have hyes:(ps[j] == z)=true→out=true:=fun h=>by
    rw [HIN.out]
    have:ps.contains z=true:=by rw [List.contains_iff_mem,←beq_iff_eq.1 h];exact List.getElem_mem hjp
    rw [this,Bool.or_true]
   obtain ⟨x0,x1,x2,x3,x4,x5⟩:=sch_cells (HK1.out.below hbw)
   have e0:=(hb0.cell HG.out).trans HE0.out
   have e1:=(hb0.cell HG.out).trans HE1.out
   have e2:=(hb0.cell HG.out).trans HE2.out
   have HST:=Lib.hid hst
   have HY:=Lib.hid hyes
   generalize ps[j]=pj at *
   have d4:wr.drew.cell? ⟨w.heap.size,4,none⟩=some (.int .i64 (M:Int)):=x4
   have d5:wr.drew.cell? ⟨w.heap.size,5,none⟩=some (.int .i64 (by_:Int)):=x5
   have f0:wr.drew.cell? ⟨g,off+by_*3,none⟩=some (.int .i64 ak):=e0
   have f1:wr.drew.cell? ⟨g,off+by_*3+1,none⟩=some (.int .i64 an):=e1
   have f2:wr.drew.cell? ⟨g,off+by_*3+2,none⟩=some (.string sa):=e2
   have fp:wr.drew.cell? ⟨gp,op+j,none⟩=some (.int .i64 pj):=ep
   have HAG:Hid (∀ w4,Below wr.drew.heap.size wr.drew w4→Agree (fun q=>q=gp) wr.drew w4):=Lib.hid fun w4 hb q o hq=>by subst hq;exact hb.cell hgp
   clear hst hyes hbw hb0 x0 x1 x2 x3 x4 x5 e0 e1 e2 ep hc hjp
   obtain ⟨eb,heb⟩:∃ eb,(pj == z)=eb:=⟨_,rfl⟩
   rw [heb] at HST HY
   cases eb with
   | true =>
    go_upto_region 4 with fail
    refine wp_region_lit_plan [] [(0,0),(1,0),(2,0),(4,0),(5,0),(9,0),(3,2),(6,1),(7,0),(8,1),(10,1),(11,3),(12,0)] (fun q=>q=gp) zyVB zyVB (fun c a d v w h=>zx0I) ?_
    go_wp2_with (first
     | (refine stp ?_)
     | (go_at_call 58;refine (HSP.out _).mono ?_;clear HSP;rintro e w3 ⟨rfl,hb3⟩;have hag3:=HAG.out _ hb3;have HB3:=Lib.hid (HBW.out.drew.trans (Below.mono hb3 HBW.out.size));clear hb3))
    go_ret
    exact ⟨by rw [HY.out zHRT];rfl,HAL.out.trans (HB3.out.mono HAL.out.size)⟩
   | false =>
    go_upto_region 4 with fail
    refine wp_region_lit_plan [] [(0,0),(1,0),(2,0),(4,0),(5,0),(9,0),(3,2),(6,1),(7,0),(8,1),(10,1),(11,3),(12,0)] (fun q=>q=gp) zyVB zyVB (fun c a d v w h=>zx0I) ?_
    go_wp2_with (first
     | (refine stp ?_)
     | (go_at_call 58;refine (HSP.out _).mono ?_;rintro e w3 ⟨rfl,hb3⟩;have hag3:=HAG.out _ hb3;have HB3:=Lib.hid (HBW.out.drew.trans (Below.mono hb3 HBW.out.size));clear hb3))
    go_roundw
    case rel=>exact ⟨j+1,z3KH,zTbe,HST.out zHRT,HB3.out⟩
    case measure=>(simp [intOf])<;>omega
  ·obtain rfl:j=np:=by omega
   have ho:out=decide ((j:Int)=0):=by
    rw [HIN.out]
    have h1:ps.contains z=false:=by rw [←HNP.out,List.take_length] at hc;exact hc
    rw [h1,Bool.or_false]
    have h2:=HNP.out
    cases ps with
    | nil=>simp at h2;subst h2;rfl
    | cons a t=>simp at h2;subst h2;rfl
   have HO:=Lib.hid ho
   clear hc hbw hb0 ho
   go_wp2
   go_ret
   exact ⟨by rw [HO.out];rfl,HAL.out.trans (HBW.out.mono HAL.out.size)⟩
theorem plan_skip4 {P:Program} {B:Nat→Prop} {Q:Exit→Act→World→Prop} {i:Nat} {rest:List (Nat × Nat)} {a:Act} {w:World} {o:Oper} {l:List Oper} {d:Tmp} (ho:l[i]?=some o) (hd:o.dst=some d) (hw:Region.wanted o (yielded l.toArray a.tmps)=false)
 (h:wpPlan P l.toArray B Q rest { a with tmps:=a.tmps.setIfInBounds d undef } w):wpPlan P l.toArray B Q ((i,4)::rest) a w:=by
 have hy:Yields P l.toArray o undef a:=.inr ⟨hw,rfl⟩
 have hr:wpPlan P l.toArray B Q rest (a.put o.dst undef) w:=zabi
 exact hy.wpOp zI2c hr
theorem Alike.chk {c s:SchV} (h:Alike c s) (i:Int) (r:List AV):chkS c i r=chkS s i r:=by
 unfold chkS
 rw [h.right,h.cols,h.len]
theorem Alike.part {c s:SchV} (h:Alike c s) (r:List AV):partO c r=partO s r:=by
 unfold partO
 rw [h.chk,h.by_,h.parts]
theorem Alike.inP {c s:SchV} (h:Alike c s) (ps:List Int):Go.Proofs.YteggkjdlajgenaaGreatDoor.inP c ps=Go.Proofs.YteggkjdlajgenaaGreatDoor.inP s ps:=by
 funext r
 unfold Go.Proofs.YteggkjdlajgenaaGreatDoor.inP
 rw [h.part]
theorem insBy_perm {α:Type} (kf:Nat→α→Key) (i:Nat) (row:α):∀ l:List α,(insBy kf i row l).Perm (row::l)
 | []=>List.Perm.refl _
 | x::t=>by
  rw [insBy]
  split
  ·exact ((insBy_perm kf i row t).cons x).trans (List.Perm.swap _ _ _)
  ·exact List.Perm.refl _
theorem byM_perm_go {α:Type} (kf:Nat→α→Key) (i:Nat):∀ rows l:List α,(rows.foldl (fun l r=>insBy kf i r l) l).Perm (rows++l)
 | [],l=>List.Perm.refl _
 | r::t,l=>(byM_perm_go kf i t (insBy kf i r l)).trans ((List.Perm.append_left t (insBy_perm kf i r l)).trans (by
  have:(t++r::l).Perm (r::(t++l)):=List.perm_middle
  exact this))
theorem byM_perm {α:Type} (kf:Nat→α→Key) (i:Nat) (rows:List α):(byM kf i rows).Perm rows:=by
 have:=byM_perm_go kf i rows []
 rwa [List.append_nil] at this
theorem byM_count {α:Type} (kf:Nat→α→Key) (i:Nat) (rows:List α) (P:α→Bool):((byM kf i rows).filter P).length=(rows.filter P).length:=((byM_perm kf i rows).filter P).length_eq
def AftR (bl:List (List AV)) (Q:List AV→Bool) (j:Nat) (after:Int):Prop :=
 (after=-1∧(bl.take j).find? Q=none)∨∃ a:Nat,after=(a:Int)∧∃ h:a < bl.length,a < j∧(bl.take j).find? Q=some bl[a]
theorem aft_skip {bl:List (List AV)} {Q:List AV→Bool} {j:Nat} {after:Int} (h:AftR bl Q j after) (hj:j < bl.length) (hq:Q bl[j]=false):AftR bl Q (j+1) after:=by
 rcases h with ⟨h1,h2⟩|⟨a,h1,ha,h2,h3⟩
 ·exact .inl ⟨h1,zjL9⟩
 ·exact .inr ⟨a,h1,ha,zTbe,by rw [←List.take_append_getElem hj,List.find?_append,h3];rfl⟩
theorem aft_more {bl:List (List AV)} {Q:List AV→Bool} {j:Nat} {a:Nat} (h:AftR bl Q j (a:Int)) (hj:j < bl.length):AftR bl Q (j+1) (a:Int):=by
 rcases h with ⟨h1,h2⟩|⟨b,h1,ha,h2,h3⟩
 ·omega
 ·exact .inr ⟨b,h1,ha,zTbe,by rw [←List.take_append_getElem hj,List.find?_append,h3];rfl⟩
theorem aft_now {bl:List (List AV)} {Q:List AV→Bool} {j:Nat} (h:AftR bl Q j (-1)) (hj:j < bl.length) (hq:Q bl[j]=true):AftR bl Q (j+1) (j:Int):=by
 rcases h with ⟨h1,h2⟩|⟨b,h1,ha,h2,h3⟩
 ·exact .inr ⟨j,rfl,hj,zTbe,zjL9⟩
 ·omega
theorem aft_cases {bl:List (List AV)} {Q:List AV→Bool} {j:Nat} {after:Int} (h:AftR bl Q j after):after=-1∨∃ a:Nat,after=(a:Int):=by
 rcases h with ⟨h1,_⟩|⟨a,h1,_⟩
 ·exact .inl h1
 ·exact .inr ⟨a,h1⟩
def CurS (wr:World) (S:SchV) (i:Nat) (o:Option (List AV)) (kv yv okv:Value):Prop:=match o with
 | none=>kv=.string ⟨#[]⟩∧yv=.slice none 0 0∧okv=.bool false
 | some r=>kv=.string (kb (kfS S i r))∧okv=.bool true∧Own wr 113 3 yv r.length (rowCells r)
theorem CurS.below {w w':World} {S:SchV} {i:Nat} {o:Option (List AV)} {kv yv okv:Value} (h:CurS w S i o kv yv okv) (hb:Below w.heap.size w w'):CurS w' S i o kv yv okv:=by
 cases o with
 | none=>exact h
 | some r=>exact ⟨h.1,h.2.1,h.2.2.below hb⟩
theorem cur_of {w:World} {S:SchV} {i:Nat} {o:Option (List AV)} {e:Ending} {w':World} (h:FromOut w S i o e w'):∃ kv yv okv,e=.returned (.tuple #[kv,yv,okv])∧CurS w' S i o kv yv okv∧Below w.heap.size w w'∧(∃ s,kv=.string s)∧(∃ p n c,yv=.slice p n c)∧∃ b,okv=.bool b:=by
 cases o with
 | none =>
  obtain ⟨rfl,hb⟩:=h
  exact ⟨_,_,_,rfl,⟨rfl,rfl,rfl⟩,hb,⟨_,rfl⟩,⟨_,_,_,rfl⟩,⟨_,rfl⟩⟩
 | some r =>
  obtain ⟨v,rfl,ho,hf,hb⟩:=h
  obtain ⟨p,c,hv,_⟩:=(ho.sl (B:=fun _=>True) (fun _ _=>trivial)).form
  exact ⟨_,v,_,rfl,⟨rfl,rfl,ho⟩,hb,⟨_,rfl⟩,⟨p,_,c,hv⟩,⟨_,rfl⟩⟩
theorem drop_next (f:List AV→Key) (bl:List (List AV)) (h:bl.Pairwise fun a b=>Op.bytesLess (f a) (f b)=true) {j:Nat} (hj:j < bl.length):tailK f (f bl[j]) false bl=bl.drop (j+1):=by
 have h1:bl=bl.take j++bl[j]::bl.drop (j+1):=by rw [←List.drop_eq_getElem_cons hj,List.take_append_drop]
 have h2:=drop_mid f (bl.take j) (bl.drop (j+1)) bl[j] (h1▸h)
 rwa [←h1] at h2
theorem find_drop_yes {P:List AV→Bool} {bl:List (List AV)} {j:Nat} (hj:j < bl.length) (h:P bl[j]=true):(bl.drop j).find? P=some bl[j]:=by
 rw [List.drop_eq_getElem_cons hj,List.find?_cons,h]
theorem find_drop_no {P:List AV→Bool} {bl:List (List AV)} {j:Nat} (hj:j < bl.length) (h:P bl[j]=false):(bl.drop j).find? P=(bl.drop (j+1)).find? P:=by
 rw [List.drop_eq_getElem_cons hj,List.find?_cons,h]
theorem cnt_yes {P:List AV→Bool} {bl:List (List AV)} {j:Nat} (hj:j < bl.length) (h:P bl[j]=true):((bl.take (j+1)).filter P).length=((bl.take j).filter P).length+1:=by
 rw [←List.take_append_getElem hj,List.filter_append,List.length_append];simp [h]
theorem cnt_no {P:List AV→Bool} {bl:List (List AV)} {j:Nat} (hj:j < bl.length) (h:P bl[j]=false):((bl.take (j+1)).filter P).length=((bl.take j).filter P).length:=by
 rw [←List.take_append_getElem hj,List.filter_append,List.length_append];simp [h]
end Go.Proofs.YteggkjdlajgenaaGreatDoor
