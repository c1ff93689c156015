/- Contracts of the functions that the statement reaches, one behind the other. No condition beyond each theorem's own. -/
import Derived.Test.YteggkjdlajgenaaGreatDoorTS9
set_option linter.unusedSimpArgs false
set_option linter.unusedVariables false
set_option maxRecDepth 100000
set_option maxHeartbeats 4000000
theorem z0KE {P:Prop} (h:P:=by
 have zz:Below w.heap.size w (w.alloc (.cells #[.string S.name,.slice pc nc cc,.slice pi ni ci,.int .i64 S.limit,.int .i64 S.parts,.int .i64 S.by_,.slice pr rows.length cr] 34)):=(Below.refl _ _).alloc (Nat.le_refl _) _
 exact zz):P:=h
theorem zC8e {P:Prop} (h:P:=by
 have zz:∃ w1,w.alloc (.cells #[.string S.name,.slice pc nc cc,.slice pi ni ci,.int .i64 S.limit,.int .i64 S.parts,.int .i64 S.by_,.slice pr rows.length cr] 34)=w1:=⟨_,rfl⟩
 exact zz):P:=h
theorem zJ1I {P:Prop} (h:P:=by
 have zz:Blk w1 w.heap.size 34 [.string S.name,.slice pc nc cc,.slice pi ni ci,.int .i64 S.limit,.int .i64 S.parts,.int .i64 S.by_,.slice pr rows.length cr]:=hw1▸hkm
 exact zz):P:=h
theorem zQf8 {P:Prop} (h:P:=by
 have zz:w.heap.size < wr.drew.heap.size:=hlx
 exact zz):P:=h
theorem zOGF {P:Prop} (h:P:=by
 have zz:wr.drew.cell? ⟨w.heap.size,0,none⟩=some (.string S.name):=x0
 exact zz):P:=h
theorem zdGf {P:Prop} (h:P:=by
 have zz:wr.drew.cell? ⟨w.heap.size,1,none⟩=some (.slice pc nc cc):=x1
 exact zz):P:=h
theorem z2Xi {P:Prop} (h:P:=by
 have zz:wr.drew.cell? ⟨w.heap.size,2,none⟩=some (.slice pi ni ci):=x2
 exact zz):P:=h
theorem zjgD {P:Prop} (h:P:=by
 have zz:wr.drew.cell? ⟨w.heap.size,3,none⟩=some (.int .i64 S.limit):=x3
 exact zz):P:=h
theorem zk33 {P:Prop} (h:P:=by
 have zz:wr.drew.cell? ⟨w.heap.size,4,none⟩=some (.int .i64 S.parts):=x4
 exact zz):P:=h
theorem zg14 {P:Prop} (h:P:=by
 have zz:wr.drew.cell? ⟨w.heap.size,5,none⟩=some (.int .i64 S.by_):=x5
 exact zz):P:=h
theorem zGv6 {P:Prop} (h:P:=by
 have zz:wr.drew.cell? ⟨w.heap.size,6,none⟩=some (.slice (some ⟨gr,or_,none⟩) rows.length cr):=x6
 exact zz):P:=h
theorem zk1i {P:Prop} (h:P:=by
 have zz:wr.drew.cell? ⟨gr,or_+j,none⟩=some (.slice px nx cx):=ek
 exact zz):P:=h
theorem zUaI {P:Prop} (h:P:=by
 have zz:gr < wr.drew.heap.size:=hgr
 exact zz):P:=h
theorem zX17 {P:Prop} (h:P:=by
 have zz:∃ w2,w1.alloc (.cells #[.string ⟨#[]⟩,.slice none 0 0,.slice none 0 0,.int .i64 0,.int .i64 0,.int .i64 0,.slice none 0 0] 34)=w2:=⟨_,rfl⟩
 exact zz):P:=h
theorem zTgR {P:Prop} (h:P:=by
 have zz:Blk w2 w1.heap.size 34 [.string ⟨#[]⟩,.slice none 0 0,.slice none 0 0,.int .i64 0,.int .i64 0,.int .i64 0,.slice none 0 0]:=hw2▸Blk.new w1 _ _
 exact zz):P:=h
theorem zfIB {P:Prop} (h:P:=by
 have zz:∀ w4,Below w2.heap.size w2 w4→Below w.heap.size w w4:=fun w4 hb=>HB2.out.trans (hb.mono HB2.out.size)
 exact zz):P:=h
theorem zjFE {P:Prop} (h:P:=by simp [results,Tryz.results115,go_sem,m0,m1,m2,m3,m4,m5,m6]):P:=h
theorem zIaD {P:Prop} (h:P:=by
 have zz:wr.drew.cell? ⟨w.heap.size,2,none⟩=some (.slice (some ⟨g,off,none⟩) S.idx.length ci):=x2
 exact zz):P:=h
theorem zNTk {P:Prop} (h:P:=by
 have zz:w1.heap.size+1≤w2.heap.size:=hkz.lt
 exact zz):P:=h
theorem zi0R {P:Prop} (h:P:=by
 have zz:w.heap.size≤w1.heap.size:=hal.size
 exact zz):P:=h
theorem ziR2 {P:Prop} (h:P:=by
 have zz:Hid (∀ w4,Below w2.heap.size w2 w4→Below w.heap.size w w4):=Lib.hid fun w4 hb=>HB2.out.trans (hb.mono HB2.out.size)
 exact zz):P:=h
theorem zYQU {P:Prop} (h:P:=by
 have zz:Hid (∀ lv,mdV S lv=.agg #[.string S.name,.slice pc nc cc,.slice pi ni ci,.int .i64 S.limit,.int .i64 S.parts,.int .i64 S.by_,lv]):=Lib.hid fun lv=>zkRd
 exact zz):P:=h
theorem zkRd {P:Prop} (h:P:=by unfold mdV;rw [hcv,hiv]):P:=h
theorem zxiX {P:Prop} (h:P:=by
 have zz:∀ i,w3.frozen? ⟨w1.heap.size,i,none⟩=false:=hkz.frozen
 exact zz):P:=h
theorem zu2I {P:Prop} (h:P:=by simp [results,Tryz.results82,go_sem,m0,m1,m2,m3,m4,m5,m6]):P:=h
theorem zj0T {P:Prop} (h:P:=by
 have zz:∀ i,w4.frozen? ⟨w1.heap.size,i,none⟩=false:=hkz.frozen
 exact zz):P:=h
theorem zo6F {P:Prop} (h:P:=by
 have zz:∃ nl,rws.length=nl:=⟨_,rfl⟩
 exact zz):P:=h
theorem zz32 {P:Prop} (h:P:=by rw [HFI.out];exact hneg):P:=h
theorem zsZm {P:Prop} (h:P:=by simp [results,Tryz.results83,go_sem,m0,m1,m2,m3,m4,m5,m6]):P:=h
theorem zaSK {P:Prop} (h:P:=by simp [results,Tryz.results84,go_sem,m0,m1,m2,m3,m4,m5,m6]):P:=h
theorem zVSb {P:Prop} (h:P:=by
 have zz:Hid (∀ lv,mdC S lv=[.string S.name,.slice pc nc cc,.slice pi ni ci,.int .i64 S.limit,.int .i64 S.parts,.int .i64 S.by_,lv]):=Lib.hid fun lv=>z5JH
 exact zz):P:=h
theorem z5JH {P:Prop} (h:P:=by unfold mdC;rw [hcv,hiv]):P:=h
theorem zRAR {P:Prop} (h:P:=by
 have zz:Below wr.heap.size wr (wr.alloc (.cells #[.string ⟨#[]⟩,.slice none 0 0,.slice none 0 0,.int .i64 0,.int .i64 0,.int .i64 0,.slice none 0 0] 34)).drew:=((Below.refl _ _).alloc (Nat.le_refl _) _).drew
 exact zz):P:=h
theorem zYYc {P:Prop} (h:P:=by
 have zz:Hid (wr.heap.size < (wr.alloc (.cells #[.string ⟨#[]⟩,.slice none 0 0,.slice none 0 0,.int .i64 0,.int .i64 0,.int .i64 0,.slice none 0 0] 34)).drew.heap.size):=(Blk.new wr 34 [.string ⟨#[]⟩,.slice none 0 0,.slice none 0 0,.int .i64 0,.int .i64 0,.int .i64 0,.slice none 0 0]).lt
 exact zz):P:=h
theorem z062 {P:Prop} (h:P:=by
 have zz:Hid (Blk (wr.alloc (.cells #[.string ⟨#[]⟩,.slice none 0 0,.slice none 0 0,.int .i64 0,.int .i64 0,.int .i64 0,.slice none 0 0] 34)).drew wr.heap.size 34 [.string ⟨#[]⟩,.slice none 0 0,.slice none 0 0,.int .i64 0,.int .i64 0,.int .i64 0,.slice none 0 0]):=(Blk.new wr 34 [.string ⟨#[]⟩,.slice none 0 0,.slice none 0 0,.int .i64 0,.int .i64 0,.int .i64 0,.slice none 0 0]).drew
 exact zz):P:=h
theorem zR0f {P:Prop} (h:P:=by rw [HMC.out];exact hk):P:=h
theorem z8hY {P:Prop} (h:P:=by simp [results,Tryz.results85,go_sem,m0,m1,m2,m3,m4,m5,m6]):P:=h
theorem zoJ7 {P:Prop} (h:P:=by
 obtain ⟨g5_,o5,c5,hv5,hc51,hc52,_,_,_⟩:=(g1.sl (B:=fun _=>True) (fun _ _=>trivial)).place zTbe
 subst hv5
 have hg5:w1.heap.size≤g5_:=hn5 g5_ rfl
 have HG1:=Lib.hid g1
 have HB5:=Lib.hid hb5
 clear hn5 hb5 g1 g2 g3 g4 g5
 go_wp2
 go_loopw [8] (fun t8 wr=>∃ (k:Nat) (x:Value),t8=.int .i64 k∧p≤k∧k≤nl∧Own wr 37 1 (.slice (some ⟨g5_,o5,none⟩) (nl+1) c5) (nl+1) ((rowVals rws).take k++x::(rowVals rws).drop k)∧Only (fun q=>q=g5_) w5 wr) (fun t8 _=>(intOf t8).toNat - p)
 case atStart =>
  have hvl:(rowVals rws).length=nl:=zO29
  exact ⟨nl,.slice none 0 0,z3KH,HP.out,Nat.le_refl _,zER4,Only.refl _ _⟩
 case round =>
  obtain ⟨k,x,rfl,hpk,hkn,hown,hon⟩:=hrel
  have hbw:Below w1.heap.size w1 wr:=HB5.out.trans (hon.below HB5.out.size (fun q hq=>zTbe))
  have HBX:=Lib.hid hbw
  have HON:=Lib.hid hon
  have HOWN:=Lib.hid hown
  by_cases hkp:p < k
  ·obtain ⟨k1,hk1⟩:∃ k1,k=k1+1:=⟨k - 1,zTbe⟩
   have e1:(k:Int) - 1=(k1:Int):=zTbe
   have hk1n:k1 < nl:=zTbe
   have hkn1:k < nl+1:=zTbe
   have hk1n1:k1 < nl+1:=zTbe
   have hkr:k1 < rws.length:=by rw [HNL.out];exact hk1n
   have hkv:k1 < (rowVals rws).length:=by unfold rowVals;rw [List.length_map,HNL.out];exact hk1n
   have hcv:(rowVals rws)[k1]=rws[k1].v:=by simp [rowVals]
   obtain ⟨px1,nx1,cx1,hxv1⟩:=HRF.out _ (HMEM.out _ (List.getElem_mem hkr))
   have ec:=(hown.cellAt (j:=k1) zTbe).1
   have zf:=(hown.cellAt (j:=k) zTbe).2
   have zc:=(hown.cellAt (j:=k) zTbe).1
   rw [at_mid _ _ _ zTbe] at zc
   have hgl:=World.block_lt_of_cell? _ _ (show wr.cell? ⟨g5_,o5+k1,none⟩=some (.slice px1 nx1 cx1) by rw [ec,hk1,at_take _ _ _ hkv,hcv,hxv1])
   rw [hk1,at_take _ _ _ hkv,hcv,hxv1] at ec
   have hsto:=hown.store (j:=k) (.slice px1 nx1 cx1) rfl
   have hss:((rowVals rws).take k++x::(rowVals rws).drop k).set k (.slice px1 nx1 cx1)=(rowVals rws).take k1++(.slice px1 nx1 cx1)::(rowVals rws).drop k1:=by
    rw [←hxv1,←hcv,hk1];exact shift_set _ _ _ hkv
   rw [hss] at hsto
   have HSTO:=Lib.hid hsto
   have HON2:=Lib.hid (hon.setCell (p:=⟨g5_,o5+k,none⟩) (fun _=>rfl) (.slice px1 nx1 cx1))
   have HPK:Hid (p≤k1∧k1≤nl):=Lib.hid ⟨zTbe,zTbe⟩
   have HK1:=Lib.hid hk1
   clear hown hon hbw hsto hss hcv hxv1 hk1 hpk
   go_wp2
   go_roundw
   case rel=>exact ⟨k1,.slice px1 nx1 cx1,z3KH,HPK.out.1,HPK.out.2,HSTO.out,HON2.out⟩
   case measure=>have:=HK1.out;have:=HPK.out.1;(simp [intOf])<;>omega
  ·obtain rfl:k=p:=by omega
   have zf:=(hown.cellAt (j:=k) zTbe).2
   obtain ⟨gY,oY,cpY,hvY,ekY⟩:=(HRA.out.below (HAL.out.trans (hbw.mono HAL.out.size))).at hkx
   cases hvY
   rw [HXV2.out] at ekY
   have hgY:=World.block_lt_of_cell? _ _ ekY
   have hg5l:g5_ < wr.heap.size:=hown.lt g5_ rfl
   obtain ⟨x0,x1,x2,x3,x4,x5,x6⟩:=md_cells (HKM.out.below hbw)
   have hlx:=(HKM.out.below hbw).lt
   have hsto:=hown.store (j:=k) (.slice px nx cx) rfl
   have hvl:(rowVals rws).length=nl:=zO29
   rw [put_set _ _ _ _ zTbe] at hsto
   have zc:=(hown.cellAt (j:=k) zTbe).1
   rw [at_mid _ _ _ zTbe] at zc
   have HSTO:=Lib.hid hsto
   have HON2:=Lib.hid (hon.setCell (p:=⟨g5_,o5+k,none⟩) (fun _=>rfl) (.slice px nx cx))
   have hkn1:k < nl+1:=zTbe
   clear hown hon hbw hsto hvl hpk
   go_wp2
   go_roundw
   case rel =>
    refine ⟨j+1,rws.take k++rj::rws.drop k,z3KH,zTbe,by simp;have:=HNL.out;have:=HNJ.out;omega,⟨?_,fun q hq=>by cases hq;omega,?_⟩,?_,?_⟩
    ·have e1:(rws.take k++rj::rws.drop k).length=nl+1:=by simp;have:=HNL.out;omega
     rw [e1,←rowVals_put,HXV.out];exact HSTO.out
    ·exact HB5.out.trans (HON2.out.below HB5.out.size (fun q hq=>zTbe))
    ·intro r hr
     rcases List.mem_append.1 hr with h|h
     ·exact HMEM.out r (List.mem_of_mem_take h)
     ·rcases List.mem_cons.1 h with rfl|h
      ·exact HMJ.out
      ·exact HMEM.out r (List.mem_of_mem_drop h)
    ·rw [by_put,←HSP.out];exact HF.out
   case measure=>(simp [intOf])<;>omega
 ):P:=h
theorem zO29 {P:Prop} (h:P:=by unfold rowVals;rw [List.length_map,HNL.out]):P:=h
theorem zER4 {P:Prop} (h:P:=by rw [List.take_of_length_le (by omega),List.drop_of_length_le (by omega)];exact HG1.out):P:=h
theorem zZts {P:Prop} (h:P:=by
 have zz:∃ w1,w.alloc (.cells #[.string S.name,.slice pc nc cc,.slice pi ni ci,.int .i64 S.limit,.int .i64 S.parts,.int .i64 S.by_] 25)=w1:=⟨_,rfl⟩
 exact zz):P:=h
namespace Go.Proofs.YteggkjdlajgenaaGreatDoor
open Go.RowKit Go.Afx
theorem dkey_any (w:World) (B B':Nat→Prop) (S:SchV) (i:Nat) (v:Value) (row:List AV) (h:SchAt w B S) (hri:rightS S=true) (hr:Sl w B' 3 v row.length (rowCells row)) (hi:i < S.idx.length) (hok:RowOK S row) :
 Calls Tryz.prog 18 #[S.agg,.int .i64 (i:Int),v] w fun e w'=>e=.returned (.string (kb (kfS S i row)))∧Below w.heap.size w w':=by
 have hxl:=rightS_xl hri
 have h1:=refKey_any w B B' S i v row h hr hi hok.n64 (fun x hx=>Nat.le_trans (hxl x hx) zTbe) (rightS_in hri row hok.len) (fitB_len hok.fit).2
 rw [←kfS_at hi] at h1
 exact h1
def mdC (S:SchV) (rv:Value):List Value:=[.string S.name,S.colsV,S.idxV,.int .i64 S.limit,.int .i64 S.parts,.int .i64 S.by_,rv]
def mdV (S:SchV) (rv:Value):Value:=.agg #[.string S.name,S.colsV,S.idxV,.int .i64 S.limit,.int .i64 S.parts,.int .i64 S.by_,rv]
theorem md_cells {w:World} {b:Nat} {t:TypeId} {v0 v1 v2 v3 v4 v5 v6:Value} (h:Blk w b t [v0,v1,v2,v3,v4,v5,v6]) :
 w.cell? ⟨b,0,none⟩=some v0∧w.cell? ⟨b,1,none⟩=some v1∧w.cell? ⟨b,2,none⟩=some v2∧w.cell? ⟨b,3,none⟩=some v3∧w.cell? ⟨b,4,none⟩=some v4∧w.cell? ⟨b,5,none⟩=some v5∧w.cell? ⟨b,6,none⟩=some v6 :=
 ⟨h.cell 0,h.cell 1,h.cell 2,h.cell 3,h.cell 4,h.cell 5,h.cell 6⟩
structure MdAt (w:World) (B:Nat→Prop) (S:SchV) (rv:Value) (rows:List RowV):Prop where
 sch:SchAt w B S
 right:rightS S=true
 ra:RowsAt w B rv rows
 ok:∀ r∈rows,RowOK S r.l
theorem MdAt.below {w w':World} {B:Nat→Prop} {S:SchV} {rv:Value} {rows:List RowV} (h:MdAt w B S rv rows) (hb:Below w.heap.size w w'):MdAt w' B S rv rows:=⟨h.sch.below hb,h.right,h.ra.below hb,h.ok⟩
theorem MdAt.forms {w:World} {B:Nat→Prop} {S:SchV} {rv:Value} {rows:List RowV} (h:MdAt w B S rv rows):(∃ p n c,S.colsV=.slice p n c)∧(∃ p n c,S.idxV=.slice p n c)∧(∃ p c,rv=.slice p rows.length c∧rows.length≤c∧c≤9223372036854775807)∧∀ r∈rows,∃ p n c,r.v=.slice p n c:=by
 refine ⟨?_,?_,?_,fun r hr=>?_⟩
 ·obtain ⟨p,c,h,_⟩:=h.sch.cols.form;exact ⟨p,_,c,h⟩
 ·obtain ⟨p,c,h,_⟩:=h.sch.idx.1.form;exact ⟨p,_,c,h⟩
 ·obtain ⟨p,c,h,h1,h2⟩:=h.ra.1.form;exact ⟨p,c,h,h1,h2⟩
 ·obtain ⟨p,c,h,_⟩:=(h.ra.2 r hr).form;exact ⟨p,_,c,h⟩
theorem MdAt.key {w:World} {B:Nat→Prop} {S:SchV} {rv:Value} {rows:List RowV} (h:MdAt w B S rv rows):∀ w2,Below w.heap.size w w2→∀ i:Nat,i < S.idx.length→∀ r∈rows,Calls Tryz.prog 18 #[S.agg,.int .i64 (i:Int),r.v] w2 fun e w'=>e=.returned (.string (kb (kfS S i r.l)))∧Below w2.heap.size w2 w':=fun w2 hb i hi r hr =>
 dkey_any w2 B B S i r.v r.l (h.sch.below hb) h.right ((h.ra.2 r hr).below hb) hi (h.ok r hr)
theorem mfind_any (w:World) (B:Nat→Prop) (S:SchV) (rv:Value) (rows:List RowV) (h:MdAt w B S rv rows) (k:Key) :
 Calls Tryz.prog 49 #[mdV S rv,.string (kb k)] w fun e w'=>e=.returned (.int .i64 (findM (kfS S) k (rows.map RowV.l) 0))∧Below w.heap.size w w':=by
 have hn:0 < S.idx.length:=(sch_small h.right).2.2.1
 have hkey:=fun w2 hb r hr=>h.key w2 hb 0 hn r hr
 have HRA:=Lib.hid h.ra
 obtain ⟨⟨pc,nc,cc,hcv⟩,⟨pi,ni,ci,hiv⟩,⟨pr,cr,hrv,hcr1,hcr2⟩,hrf⟩:=h.forms
 have HRF:=Lib.hid hrf
 subst hrv
 simp only [SchV.agg,hcv,hiv] at hkey
 have HKEY:=Lib.hid hkey
 simp only [mdV,hcv,hiv]
 obtain ⟨fm,hfm⟩:∃ fm,findM (kfS S) k (rows.map RowV.l) 0=fm:=⟨_,rfl⟩
 rw [hfm]
 have HFM:=Lib.hid hfm
 have hal:=z0KE
 have hkm:=Blk.new w 34 [.string S.name,.slice pc nc cc,.slice pi ni ci,.int .i64 S.limit,.int .i64 S.parts,.int .i64 S.by_,.slice pr rows.length cr]
 obtain ⟨w1,hw1⟩:=zC8e
 rw [hw1] at hal
 have hkm:=zJ1I
 have HAL:=Lib.hid hal
 have HKM:=Lib.hid hkm
 clear h hkey hrf hcv hiv hn hfm hal hkm
 go_enter Tryz.func49,Tryz.ntmps49
 go_wp2
 clear hw1
 go_loopw [5] (fun i wr=>∃ j:Nat,i=.int .i64 j∧j≤rows.length∧fm=findM (kfS S) k ((rows.drop j).map RowV.l) j∧Below w1.heap.size w1 wr) (fun i _=>rows.length - (intOf i).toNat)
 case atStart=>exact ⟨0,rfl,Nat.zero_le _,HFM.out.symm,Below.refl _ _⟩
 case round =>
  obtain ⟨j,rfl,hj,hf,hbw⟩:=hrel
  have hb0:=HAL.out.trans (hbw.mono HAL.out.size)
  have HBW:=Lib.hid hbw
  have HB0:=Lib.hid hb0
  have hkm:=HKM.out.below hbw
  obtain ⟨x0,x1,x2,x3,x4,x5,x6⟩:=md_cells hkm
  have hlx:=hkm.lt
  by_cases hkx:j < rows.length
  ·obtain ⟨gr,or_,cpr,hvr,ek⟩:=(HRA.out.below hb0).at hkx
   cases hvr
   have hgr:=World.block_lt_of_cell? _ _ ek
   have hmk:rows[j]∈rows:=List.getElem_mem hkx
   have HK:=Lib.hid (HKEY.out wr.drew hb0.drew rows[j] hmk)
   obtain ⟨px,nx,cx,hxv⟩:=HRF.out _ hmk
   rw [hxv] at ek HK
   rw [List.drop_eq_getElem_cons hkx,List.map_cons,findM] at hf
   have hez:∃ ez,((kb (kfS S 0 rows[j].l)).toList == (kb k).toList)=ez∧(fm=if ez then (j:Int) else findM (kfS S) k ((rows.drop (j+1)).map RowV.l) (j+1)):=by
    refine ⟨_,rfl,?_⟩
    rw [hf,kb_list,kb_list]
    by_cases hc:kfS S 0 rows[j].l=k
    ·rw [if_pos hc,if_pos (by simpa using hc)]
    ·rw [if_neg hc,if_neg (by simpa using hc)]
   obtain ⟨ez,hez,hfe⟩:=hez
   have HFE:=Lib.hid hfe
   generalize kb (kfS S 0 rows[j].l)=k1 at *
   generalize hkk:kb k=k2 at *
   have hlx2:=zQf8
   clear hf hbw hb0 hkm hmk hxv hfe hkk
   cases ez
   ·go_upto_region 4 with fail
    have d0:=zOGF
    have d1:=zdGf
    have d2:=z2Xi
    have d3:=zjgD
    have d4:=zk33
    have d5:=zg14
    have d6:=zGv6
    have dek:=zk1i
    have dgr:=zUaI
    clear x0 x1 x2 x3 x4 x5 x6 ek hgr hlx
    refine wp_region_lit_plan [] [(0,0),(2,0),(4,0),(8,0),(1,1),(3,1),(5,0),(6,1),(7,4),(9,0)] (fun _=>False) zyVB zyVB (fun c a d v w h=>zx0I) ?_
    go_upto_region 3 with (first
     | (refine stp ?_)
     | (go_at_call 18;refine HK.out.mono ?_;clear HK;rintro e w2 ⟨rfl,hb2⟩;have HB2:=Lib.hid (HBW.out.drew.trans (hb2.mono HBW.out.size));clear hb2))
    go_wp2
    go_roundw
    case rel=>exact ⟨j+1,z3KH,zTbe,HFE.out,HB2.out⟩
    case measure=>(simp [intOf])<;>omega
   ·go_upto_region 4 with fail
    have d0:=zOGF
    have d1:=zdGf
    have d2:=z2Xi
    have d3:=zjgD
    have d4:=zk33
    have d5:=zg14
    have d6:=zGv6
    have dek:=zk1i
    have dgr:=zUaI
    clear x0 x1 x2 x3 x4 x5 x6 ek hgr hlx
    refine wp_region_lit_plan [] [(0,0),(2,0),(4,0),(8,0),(1,1),(3,1),(5,0),(6,1),(7,4),(9,0)] (fun _=>False) zyVB zyVB (fun c a d v w h=>zx0I) ?_
    go_upto_region 5 with (first
     | (refine stp ?_)
     | (go_at_call 18;refine HK.out.mono ?_;clear HK;rintro e w2 ⟨rfl,hb2⟩;have HB2:=Lib.hid (HBW.out.drew.trans (hb2.mono HBW.out.size));clear hb2))
    go_wp2
    go_ret
    exact ⟨by rw [HFE.out];rfl,HAL.out.trans (HB2.out.mono HAL.out.size)⟩
  ·obtain rfl:j=rows.length:=by omega
   rw [List.drop_length] at hf
   have HF:=Lib.hid hf
   clear hf hbw hb0 hkm
   go_wp2
   go_ret
   exact ⟨zS9n,HB0.out⟩
theorem set_seven {w:World} {b:Nat} {t:TypeId} {a0 a1 a2 a3 a4 a5 a6:Value} (h:Blk w b t [a0,a1,a2,a3,a4,a5,a6]) (v0 v1 v2 v3 v4 v5 v6:Value) :
 Blk (((((((w.setCell ⟨b,0,none⟩ v0).setCell ⟨b,1,none⟩ v1).setCell ⟨b,2,none⟩ v2).setCell ⟨b,3,none⟩ v3).setCell ⟨b,4,none⟩ v4).setCell ⟨b,5,none⟩ v5).setCell ⟨b,6,none⟩ v6) b t [v0,v1,v2,v3,v4,v5,v6] ∧
 Only (fun q=>q=b) w (((((((w.setCell ⟨b,0,none⟩ v0).setCell ⟨b,1,none⟩ v1).setCell ⟨b,2,none⟩ v2).setCell ⟨b,3,none⟩ v3).setCell ⟨b,4,none⟩ v4).setCell ⟨b,5,none⟩ v5).setCell ⟨b,6,none⟩ v6):=by
 refine ⟨?_,?_⟩
 ·have h1:=((((((h.set 0 v0).set 1 v1).set 2 v2).set 3 v3).set 4 v4).set 5 v5).set 6 v6
  simpa only [List.set_cons_zero,List.set_cons_succ] using h1
 ·have step:∀ {u:World} (i:Nat) (v:Value),Only (fun q=>q=b) w u→Only (fun q=>q=b) w (u.setCell ⟨b,i,none⟩ v):=fun i v h=>h.setCell (p:=⟨b,i,none⟩) (fun _=>rfl) v
  exact step 6 v6 (step 5 v5 (step 4 v4 (step 3 v3 (step 2 v2 (step 1 v1 (step 0 v0 (Only.refl _ w)))))))
def withR {α:Type} (kf:Nat→α→Key) (row:α) (gone:Int) (done:Bool) (k:Nat) (l:List α):List α:=if done then skipM gone k l else insM kf row (skipM gone k l)
theorem withR_gone {α:Type} (kf:Nat→α→Key) (row:α) (gone:Int) (done:Bool) (k:Nat) (r:α) (t:List α) (h:(k:Int)=gone):withR kf row gone done k (r::t)=withR kf row gone done (k+1) t:=by
 unfold withR;rw [skipM,if_pos h]
theorem withR_done {α:Type} (kf:Nat→α→Key) (row:α) (gone:Int) (k:Nat) (r:α) (t:List α) (h:¬ (k:Int)=gone):withR kf row gone true k (r::t)=r::withR kf row gone true (k+1) t:=by
 unfold withR;rw [skipM,if_neg h];rfl
theorem withR_less {α:Type} (kf:Nat→α→Key) (row:α) (gone:Int) (k:Nat) (r:α) (t:List α) (h:¬ (k:Int)=gone) (hl:Op.bytesLess (kf 0 row) (kf 0 r)=true):withR kf row gone false k (r::t)=row::r::withR kf row gone true (k+1) t:=by
 unfold withR;rw [skipM,if_neg h]
 show insM kf row (r::skipM gone (k+1) t)=_
 rw [insM,if_pos hl];rfl
theorem withR_more {α:Type} (kf:Nat→α→Key) (row:α) (gone:Int) (k:Nat) (r:α) (t:List α) (h:¬ (k:Int)=gone) (hl:Op.bytesLess (kf 0 row) (kf 0 r)=false):withR kf row gone false k (r::t)=r::withR kf row gone false (k+1) t:=by
 unfold withR;rw [skipM,if_neg h]
 show insM kf row (r::skipM gone (k+1) t)=_
 rw [insM,if_neg (by rw [hl];simp)];rfl
theorem withR_start {α:Type} (kf:Nat→α→Key) (rows:List α) (row:α) (gone:Int) (put:Bool):withM kf rows row gone put=withR kf row gone (!put) 0 rows:=by
 unfold withM withR;cases put<;>rfl
structure OutSt (w2:World) (lv:Value) (outl:List RowV) (wr:World):Prop where
 own:Own wr 37 1 lv outl.length (rowVals outl)
 new:∀ q,lv.ownBlock=some q→w2.heap.size≤q
 bel:Below w2.heap.size w2 wr
theorem OutSt.nil {w2 wr:World} (hb:Below w2.heap.size w2 wr):OutSt w2 (.slice none 0 0) [] wr:=⟨Own.nil _ _ _,zfJ3,hb⟩
theorem OutSt.below {w2 wr w':World} {lv:Value} {outl:List RowV} (h:OutSt w2 lv outl wr) (hb:Below wr.heap.size wr w'):OutSt w2 lv outl w':=⟨h.own.below hb,h.new,h.bel.trans (hb.mono h.bel.size)⟩
theorem OutSt.app {w2 wr w5:World} {lv v5 v:Value} {outl:List RowV} {t:TypeId} (h:OutSt w2 lv outl wr) (r:RowV) (hv:r.v=v) (g1:Own w5 37 1 v5 (outl.length+1) (rowVals outl++[v])) (g2:Only (fun k=>lv.ownBlock=some k) (wr.alloc (.cells #[v] t)) w5)
 (g3:v5.ownBlock=lv.ownBlock∨v5.ownBlock=some (wr.alloc (.cells #[v] t)).heap.size):OutSt w2 v5 (outl++[r]) w5:=by
 have hal:Below wr.heap.size wr (wr.alloc (.cells #[v] t)):=(Below.refl _ _).alloc (Nat.le_refl _) _
 have hz1:=hal.size
 have hz0:=h.bel.size
 refine ⟨by rw [List.length_append,rowVals_append];subst hv;exact g1,fun q hq=>?_,(h.bel.trans (hal.mono hz0)).trans (g2.below zTbe (fun q hq=>h.new q hq))⟩
 rcases g3 with h3|h3
 ·rw [h3] at hq;exact h.new q hq
 ·rw [h3] at hq
  have:(wr.alloc (.cells #[v] t)).heap.size=q:=Option.some.inj hq
  omega
theorem mwith_any (w:World) (B:Nat→Prop) (S:SchV) (rv:Value) (rows:List RowV) (h:MdAt w B S rv rows) (hlen:rows.length≤1000) (rw_:RowV) (hrow:Sl w B 3 rw_.v rw_.l.length (rowCells rw_.l)) (gone:Int) (put:Bool) (hok:put=true→RowOK S rw_.l) :
 Calls Tryz.prog 115 #[mdV S rv,rw_.v,.int .i64 gone,.bool put] w fun e w'=>∃ lv rws,e=.returned (mdV S lv)∧RowsAt w' (fun q=>B q∨w.heap.size≤q) lv rws∧rws.map RowV.l=withM (kfS S) (rows.map RowV.l) rw_.l gone put∧Below w.heap.size w w':=by
 have hn:0 < S.idx.length:=(sch_small h.right).2.2.1
 have hkey:=fun w2 hb r hr=>h.key w2 hb 0 hn r hr
 have hkeyr:=fun (hp:put=true) w2 hb=>dkey_any w2 B B S 0 rw_.v rw_.l (h.sch.below hb) h.right (hrow.below hb) hn (hok hp)
 have HRA:=Lib.hid h.ra
 have HRO:=Lib.hid hrow
 obtain ⟨⟨pc,nc,cc,hcv⟩,⟨pi,ni,ci,hiv⟩,⟨pr,cr,hrv,hcr1,hcr2⟩,hrf⟩:=h.forms
 have HRF:=Lib.hid hrf
 subst hrv
 obtain ⟨pw,cw,hrw,_,_⟩:=hrow.form
 obtain ⟨nw,hnw⟩:∃ nw,rw_.l.length=nw:=⟨_,rfl⟩
 rw [hnw] at hrw
 have HRW:=Lib.hid hrw
 simp only [SchV.agg,hcv,hiv] at hkey
 simp only [SchV.agg,hcv,hiv,hrw] at hkeyr
 have HKEY:=Lib.hid hkey
 have HKEYR:=Lib.hid hkeyr
 have HCV:=Lib.hid hcv
 have HIV:=Lib.hid hiv
 rw [hrw]
 rw [show mdV S (.slice pr rows.length cr)=.agg #[.string S.name,.slice pc nc cc,.slice pi ni ci,.int .i64 S.limit,.int .i64 S.parts,.int .i64 S.by_,.slice pr rows.length cr] by unfold mdV;rw [hcv,hiv]]
 have hws:=withR_start (kfS S) (rows.map RowV.l) rw_.l gone put
 obtain ⟨fm,hfm⟩:∃ fm,withM (kfS S) (rows.map RowV.l) rw_.l gone put=fm:=⟨_,rfl⟩
 rw [hfm] at hws ⊢
 have HWS:=Lib.hid hws
 have hal:=z0KE
 have hkm:=Blk.new w 34 [.string S.name,.slice pc nc cc,.slice pi ni ci,.int .i64 S.limit,.int .i64 S.parts,.int .i64 S.by_,.slice pr rows.length cr]
 obtain ⟨w1,hw1⟩:=zC8e
 rw [hw1] at hal
 have hkm:=zJ1I
 have HAL:=Lib.hid hal
 have HKM:=Lib.hid hkm
 obtain ⟨w2,hw2⟩:=zX17
 have hb12:=zXxX
 have hkz:=zTgR
 have HKM2:=Lib.hid (hkm.below hb12)
 have HKZ:=Lib.hid hkz
 have HB2:=Lib.hid (hal.trans (hb12.mono hal.size))
 clear h hkey hkeyr hrf hrow hrw hcv hiv hn hfm hws hal hkm hb12 hkz hok
 go_enter Tryz.func115,Tryz.ntmps115
 go_wp2
 clear hw1 hw2
 go_loopw [9,10,11] (fun lv dv iv wr=>∃ (j:Nat) (done:Bool) (outl:List RowV),iv=.int .i64 j∧dv=.bool done∧j≤rows.length∧outl.length≤j+1∧(done=false→put=true∧outl.length≤j)∧OutSt w2 lv outl wr∧(∀ r∈outl,r=rw_∨r∈rows)∧outl.map RowV.l++withR (kfS S) rw_.l gone done j ((rows.drop j).map RowV.l)=fm) (fun _ _ iv _=>rows.length - (intOf iv).toNat)
 case atStart=>exact ⟨0,!put,[],rfl,rfl,Nat.zero_le _,Nat.zero_le _,by cases put<;>simp,OutSt.nil (Below.refl _ _),zPXO,HWS.out.symm⟩
 case round =>
  obtain ⟨j,done,outl,rfl,rfl,hj,hol,hdp,hou,hom,hfm⟩:=hrel
  have HOU:=Lib.hid hou
  have HOM:=Lib.hid hom
  have HDP:=Lib.hid hdp
  obtain ⟨po,co,rfl,hc1,hc2⟩:=own_formT hou.own
  have hbw:=hou.bel
  have HBX:=Lib.hid hbw
  have HKM:=HKM2
  obtain ⟨x0,x1,x2,x3,x4,x5,x6⟩:=md_cells (HKM2.out.below hbw)
  have hlx:=(HKM2.out.below hbw).lt
  by_cases hkx:j < rows.length
  ·obtain ⟨gr,or_,cpr,hvr,ek⟩:=(HRA.out.below (HB2.out.trans (hbw.mono HB2.out.size))).at hkx
   cases hvr
   have hgr:=World.block_lt_of_cell? _ _ ek
   have hmk:rows[j]∈rows:=List.getElem_mem hkx
   obtain ⟨px,nx,cx,hxv⟩:=HRF.out _ hmk
   have hB0:=zfIB
   have HEK:Hid (∀ w4,Below w2.heap.size w2 w4→w4.cell? ⟨gr,or_+j,none⟩=some (.slice px nx cx)∧gr < w4.heap.size):=Lib.hid fun w4 hb=>by
    obtain ⟨g2,o2,c2,hv2,ek2⟩:=(HRA.out.below (hB0 w4 hb)).at hkx
    cases hv2
    rw [hxv] at ek2
    exact ⟨ek2,World.block_lt_of_cell? _ _ ek2⟩
   have HKJ:=Lib.hid (fun w4 hb=>HKEY.out w4 (hB0 w4 hb) rows[j] hmk)
   rw [hxv] at ek HKJ
   have HXV:=Lib.hid hxv
   have HMK:=Lib.hid hmk
   rw [List.drop_eq_getElem_cons hkx,List.map_cons] at hfm
   generalize rows[j]=rj at *
   have hol2:outl.length≤1000:=zTbe
   clear hdp hou hom hbw hmk hxv hB0
   by_cases hg:(j:Int)=gone
   ·have eg:((j:Int) == gone)=true:=beq_iff_eq.2 hg
    rw [withR_gone _ _ _ _ _ _ _ hg] at hfm
    have HFM:=Lib.hid hfm
    clear hfm hg
    go_wp2
    go_roundw
    case rel=>exact ⟨j+1,done,outl,z3KH,rfl,zTbe,zTbe,fun h=>⟨(HDP.out h).1,Nat.le_succ_of_le (HDP.out h).2⟩,HOU.out,HOM.out,HFM.out⟩
    case measure=>(simp [intOf])<;>omega
   ·have eg:((j:Int) == gone)=false:=beq_eq_false_iff_ne.2 hg
    cases done with
    | true =>
     rw [withR_done _ _ _ _ _ _ hg] at hfm
     have HFM:=Lib.hid hfm
     clear hfm hg
     go_upto_region 7 with fail
     refine wp_region_lit_plan [] [(0,0),(1,0),(2,0),(3,0),(5,0),(7,0),(9,0),(11,0),(4,1),(8,2),(10,2),(12,0),(13,2),(6,3),(14,4),(15,0),(16,0)] (fun _=>False) zyVB zyVB (fun c a d v w h=>zx0I) ?_
     go_upto_region 10 with (first|(refine stp ?_))
     have hbx:=HBX.out.drew
     have HBX:=Lib.hid hbx
     have HOU:=Lib.hid (HOU.out.below (Below.refl _ _).drew)
     obtain ⟨wX,hwX⟩:∃ wX,wr.drew=wX:=⟨_,rfl⟩
     rw [hwX] at HBX HOU ⊢
     clear x0 x1 x2 x3 x4 x5 x6 ek hgr hlx hbx hwX
     have ho1:=HOU.out.own.below ((Below.refl wX.heap.size wX).alloc (Nat.le_refl _) (.cells #[.slice px nx cx] 37))
     have hs1:=box1t wX 37 (.slice px nx cx) rfl
     have hkd:=HKM.out.below HBX.out
     obtain ⟨d0,d1,d2,d3,d4,d5,d6⟩:=md_cells hkd
     have hld:=hkd.lt
     have dek:=(HEK.out _ HBX.out).1
     have dgr:=(HEK.out _ HBX.out).2
     clear hkd
     go_wp2_with (at_builtin;refine wpList_app rfl _ _ rfl elemRowsT zdhv ho1 zdhv hs1 zefz zTbe ?_;intro v5 w5 g1 g2 g3 g4 g5;clear ho1 hs1;have HO5:=Lib.hid (HOU.out.app rj HXV.out g1 g2 g3);clear g1 g2 g3 g4 g5)
     go_roundw
     case rel=>exact ⟨j+1,true,outl++[rj],z3KH,rfl,zTbe,zr2F,zPXO,HO5.out,fun r hr=>(List.mem_append.1 hr).elim (HOM.out r) (fun h=>by rw [List.mem_singleton.1 h];exact .inr HMK.out),by rw [←HFM.out];simp⟩
     case measure=>(simp [intOf])<;>omega
    | false =>
     have hol3:=(HDP.out rfl).2
     have HPUT:=Lib.hid (HDP.out rfl).1
     have HKR:=Lib.hid (fun w4 hb=>HKEYR.out HPUT.out w4 (HB2.out.trans (Below.mono hb HB2.out.size)))
     have hless:∃ bl,Op.bytesLess (kb (kfS S 0 rw_.l)).toList (kb (kfS S 0 rj.l)).toList=bl∧Op.bytesLess (kfS S 0 rw_.l) (kfS S 0 rj.l)=bl:=⟨_,rfl,by rw [kb_list,kb_list]⟩
     obtain ⟨bl,hbl,hbl2⟩:=hless
     generalize kb (kfS S 0 rw_.l)=k1 at *
     generalize kb (kfS S 0 rj.l)=k2 at *
     have hKR:=HKR.out wr.drew HBX.out.drew
     have HKR1:=Lib.hid hKR
     have HAG:Hid (∀ w4,Below wr.drew.heap.size wr.drew w4→Agree (fun q=>q=w.heap.size∨q=gr) wr.drew w4):=Lib.hid fun w4 hb q o hq=>by
      refine hb.cell ?_
      rcases hq with rfl|rfl<;>assumption
     clear hKR
     cases bl with
     | true =>
      rw [withR_less _ _ _ _ _ _ hg hbl2] at hfm
      have HFM:=Lib.hid hfm
      clear hfm hg hbl2
      go_upto_region 7 with fail
      have d0:=zOGF
      have d1:=zdGf
      have d2:=z2Xi
      have d3:=zjgD
      have d4:=zk33
      have d5:=zg14
      have d6:=zGv6
      have dek:=zk1i
      have dgr:=zUaI
      have dlx:=zQf8
      clear x0 x1 x2 x3 x4 x5 x6 ek hgr hlx
      refine wp_region_lit_plan [] [(0,0),(1,0),(2,0),(3,0),(5,0),(7,0),(9,0),(11,0),(4,1),(8,2),(10,2),(12,0),(13,2),(6,3),(14,4),(15,0),(16,0)] (fun q=>q=w.heap.size∨q=gr) zyVB zyVB (fun c a d v w h=>zx0I) ?_
      go_upto_region 8 with (first
       | (refine stp ?_)
       | (go_at_call 18;refine HKR1.out.mono ?_;clear HKR1;rintro e w3 ⟨rfl,hb3⟩;have hag3:=HAG.out _ hb3;have HB3:=Lib.hid hb3;have HB3w:=Lib.hid (HBX.out.drew.trans (Below.mono hb3 HBX.out.size));clear hb3)
       | (go_at_call 18;refine (HKJ.out _ HB3w.out).mono ?_;clear HKJ;rintro e w4 ⟨rfl,hb4⟩;have HB4:=Lib.hid (HB3.out.trans (Below.mono hb4 HB3.out.size));clear hb4))
      have HOU4:=Lib.hid ((HOU.out.below (Below.refl _ _).drew).below HB4.out)
      clear HOU HBX HB3 HB3w HAG hag3 d0 d1 d2 d3 d4 d5 d6 dek dgr dlx
      have ho1:=HOU4.out.own.below ((Below.refl w4.heap.size w4).alloc (Nat.le_refl _) (.cells #[.slice pw nw cw] 37))
      have hs1:=box1t w4 37 (.slice pw nw cw) rfl
      go_upto_region 10 with (at_builtin;refine wpList_app rfl _ _ rfl elemRowsT zdhv ho1 zdhv hs1 zefz zTbe ?_;intro vY wX g1 g2 g3 g4 g5;clear ho1 hs1)
      have hou5:=HOU4.out.app rw_ HRW.out g1 g2 g3
      obtain ⟨pY,cY,hvY,_,_⟩:=own_formT hou5.own
      rw [show (outl++[rw_]).length=outl.length+1 by simp] at hvY
      subst hvY
      have HOU:=Lib.hid hou5
      have HBX:=Lib.hid hou5.bel
      have ho1:=(show Own wX 37 1 (.slice pY (outl.length+1) cY) (outl.length+1) (rowVals outl++[.slice pw nw cw]) from g1).below ((Below.refl wX.heap.size wX).alloc (Nat.le_refl _) (.cells #[.slice px nx cx] 37))
      have hs1:=box1t wX 37 (.slice px nx cx) rfl
      clear g1 g2 g3 g4 g5 hou5
      have hkd:=HKM.out.below HBX.out
      obtain ⟨d0,d1,d2,d3,d4,d5,d6⟩:=md_cells hkd
      have hld:=hkd.lt
      have dek:=(HEK.out _ HBX.out).1
      have dgr:=(HEK.out _ HBX.out).2
      clear hkd
      have HAP:Hid (∀ v5 w5,Own w5 37 1 v5 (outl.length+1+1) (rowVals outl++[.slice pw nw cw]++[.slice px nx cx])→Only (fun k=>(Value.slice pY (outl.length+1) cY).ownBlock=some k) (wX.alloc (.cells #[.slice px nx cx] 37)) w5→(v5.ownBlock=(Value.slice pY (outl.length+1) cY).ownBlock∨v5.ownBlock=some (wX.alloc (.cells #[.slice px nx cx] 37)).heap.size)→OutSt w2 v5 (outl++[rw_]++[rj]) w5):=Lib.hid fun v5 w5 g1 g2 g3=>by
       refine HOU.out.app rj HXV.out ?_ g2 g3
       have e1:(outl++[rw_]).length=outl.length+1:=zPXO
       have e2:rowVals (outl++[rw_])=rowVals outl++[.slice pw nw cw]:=by rw [rowVals_append,←HRW.out];rfl
       rw [e1,e2];exact g1
      go_upto_region 5 with (at_builtin;refine wpList_app rfl _ _ rfl elemRowsT zdhv ho1 zdhv hs1 zefz zTbe ?_;intro v5 w5 g1 g2 g3 g4 g5;clear ho1 hs1)
      have HO5:=Lib.hid (HAP.out _ _ g1 g2 g3)
      clear g1 g2 g3 g4 g5
      go_wp2
      go_roundw
      case rel=>exact ⟨j+1,true,outl++[rw_]++[rj],z3KH,rfl,zTbe,zr2F,zPXO,HO5.out,fun r hr=>by
       rcases List.mem_append.1 hr with h|h
       ·rcases List.mem_append.1 h with h|h
        ·exact HOM.out r h
        ·rw [List.mem_singleton.1 h];exact .inl rfl
       ·rw [List.mem_singleton.1 h];exact .inr HMK.out,by rw [←HFM.out];simp⟩
      case measure=>(simp [intOf])<;>omega
     | false =>
      rw [withR_more _ _ _ _ _ _ hg hbl2] at hfm
      have HFM:=Lib.hid hfm
      clear hfm hg hbl2
      go_upto_region 7 with fail
      have d0:=zOGF
      have d1:=zdGf
      have d2:=z2Xi
      have d3:=zjgD
      have d4:=zk33
      have d5:=zg14
      have d6:=zGv6
      have dek:=zk1i
      have dgr:=zUaI
      have dlx:=zQf8
      clear x0 x1 x2 x3 x4 x5 x6 ek hgr hlx
      refine wp_region_lit_plan [] [(0,0),(1,0),(2,0),(3,0),(5,0),(7,0),(9,0),(11,0),(4,1),(8,2),(10,2),(12,0),(13,2),(6,3),(14,4),(15,0),(16,0)] (fun q=>q=w.heap.size∨q=gr) zyVB zyVB (fun c a d v w h=>zx0I) ?_
      go_upto_region 10 with (first
       | (refine stp ?_)
       | (go_at_call 18;refine HKR1.out.mono ?_;clear HKR1;rintro e w3 ⟨rfl,hb3⟩;have hag3:=HAG.out _ hb3;have HB3:=Lib.hid hb3;have HB3w:=Lib.hid (HBX.out.drew.trans (Below.mono hb3 HBX.out.size));clear hb3)
       | (go_at_call 18;refine (HKJ.out _ HB3w.out).mono ?_;clear HKJ;rintro e wX ⟨rfl,hb4⟩;have HB4:=Lib.hid (HB3.out.trans (Below.mono hb4 HB3.out.size));clear hb4))
      have hou4:=(HOU.out.below (Below.refl _ _).drew).below HB4.out
      clear HOU HBX HB3 HB3w HAG hag3 d0 d1 d2 d3 d4 d5 d6 dek dgr dlx
      have HOU:=Lib.hid hou4
      have HBX:=Lib.hid hou4.bel
      clear hou4
      have ho1:=HOU.out.own.below ((Below.refl wX.heap.size wX).alloc (Nat.le_refl _) (.cells #[.slice px nx cx] 37))
      have hs1:=box1t wX 37 (.slice px nx cx) rfl
      have hkd:=HKM.out.below HBX.out
      obtain ⟨d0,d1,d2,d3,d4,d5,d6⟩:=md_cells hkd
      have hld:=hkd.lt
      have dek:=(HEK.out _ HBX.out).1
      have dgr:=(HEK.out _ HBX.out).2
      clear hkd
      go_wp2_with (at_builtin;refine wpList_app rfl _ _ rfl elemRowsT zdhv ho1 zdhv hs1 zefz zTbe ?_;intro v5 w5 g1 g2 g3 g4 g5;clear ho1 hs1;have HO5:=Lib.hid (HOU.out.app rj HXV.out g1 g2 g3);clear g1 g2 g3 g4 g5)
      go_roundw
      case rel=>exact ⟨j+1,false,outl++[rj],z3KH,rfl,zTbe,zr2F,fun _=>⟨HPUT.out,zr2F⟩,HO5.out,fun r hr=>(List.mem_append.1 hr).elim (HOM.out r) (fun h=>by rw [List.mem_singleton.1 h];exact .inr HMK.out),by rw [←HFM.out];simp⟩
      case measure=>(simp [intOf])<;>omega
  ·obtain rfl:j=rows.length:=by omega
   rw [List.drop_length] at hfm
   have hB0:=zfIB
   have hol2:outl.length≤1001:=zTbe
   have hzl:w1.heap.size+1≤w2.heap.size:=HKZ.out.lt
   have hzl0:w.heap.size≤w1.heap.size:=HAL.out.size
   have HFIN:Hid (∀ wE lv outl',OutSt w2 lv outl' wE→(∀ r∈outl',r=rw_∨r∈rows)→RowsAt wE (fun q=>B q∨w.heap.size≤q) lv outl'):=Lib.hid fun wE lv outl' ho hm=>by
    have hbE:=hB0 wE ho.bel
    refine ⟨ho.own.sl fun q hq=>.inr (by have:=ho.new q hq;omega),fun r hr=>?_⟩
    rcases hm r hr with h|h
    ·rw [h];exact HRO.out.mono hbE.size (fun k _ hl=>hbE.block k hl) (fun k hk _=>.inl hk)
    ·exact (HRA.out.2 r h).mono hbE.size (fun k _ hl=>hbE.block k hl) (fun k hk _=>.inl hk)
   have HST:Hid (∀ wE lv outl',OutSt w2 lv outl' wE→∀ wF,Only (fun q=>q=w1.heap.size) wE wF→(∀ r∈outl',r=rw_∨r∈rows)→RowsAt wF (fun q=>B q∨w.heap.size≤q) lv outl'∧Below w.heap.size w wF):=Lib.hid fun wE lv outl' ho wF hon hm=>by
    have hbE:=hB0 wE ho.bel
    have hbF:Below w.heap.size w wF:=hbE.trans (hon.below hbE.size (fun q hq=>zTbe))
    refine ⟨⟨(ho.own.sl (B:=fun q=>w2.heap.size≤q) ho.new).mono hon.size (fun k hk hl=>hon.block k hl zTbe) (fun k hk _=>.inr zTbe),fun r hr=>?_⟩,hbF⟩
    rcases hm r hr with h|h
    ·rw [h];exact HRO.out.mono hbF.size (fun k _ hl=>hbF.block k hl) (fun k hk _=>.inl hk)
    ·exact (HRA.out.2 r h).mono hbF.size (fun k _ hl=>hbF.block k hl) (fun k hk _=>.inl hk)
   clear hdp hou hom hbw hB0
   cases done with
   | true =>
    have HFM:Hid (outl.map RowV.l=fm):=Lib.hid (by rw [←hfm];simp [withR,skipM])
    clear hfm
    have hkz:=HKZ.out.below HBX.out
    have HZ:=Lib.hid hkz
    have zf:∀ i,wr.frozen? ⟨w1.heap.size,i,none⟩=false:=hkz.frozen
    have zl:=hkz.lt
    obtain ⟨z0,z1,z2,z3,z4,z5,z6⟩:=md_cells hkz
    clear hkz
    go_wp2
    obtain ⟨hk,hon⟩:=set_seven HZ.out (.string S.name) (.slice pc nc cc) (.slice pi ni ci) (.int .i64 S.limit) (.int .i64 S.parts) (.int .i64 S.by_) (.slice po outl.length co)
    generalize (((((((wr.setCell ⟨w1.heap.size,0,none⟩ (.string S.name)).setCell ⟨w1.heap.size,1,none⟩ (.slice pc nc cc)).setCell ⟨w1.heap.size,2,none⟩ (.slice pi ni ci)).setCell ⟨w1.heap.size,3,none⟩ (.int .i64 S.limit)).setCell ⟨w1.heap.size,4,none⟩ (.int .i64 S.parts)).setCell ⟨w1.heap.size,5,none⟩ (.int .i64 S.by_)).setCell ⟨w1.heap.size,6,none⟩ (.slice po outl.length co))=wE at *
    obtain ⟨m0,m1,m2,m3,m4,m5,m6⟩:=md_cells hk
    obtain ⟨hra,hbF⟩:=HST.out _ _ _ HOU.out _ hon HOM.out
    exact bodyPost_ret (v:=.agg #[.string S.name,.slice pc nc cc,.slice pi ni ci,.int .i64 S.limit,.int .i64 S.parts,.int .i64 S.by_,.slice po outl.length co]) zjFE rfl ⟨_,outl,by unfold mdV;rw [HCV.out,HIV.out],hra,HFM.out,hbF⟩
   | false =>
    have HFM:Hid ((outl++[rw_]).map RowV.l=fm):=Lib.hid (by rw [←hfm];simp [withR,skipM,insM])
    clear hfm
    have ho1:=HOU.out.own.below ((Below.refl wr.heap.size wr).alloc (Nat.le_refl _) (.cells #[.slice pw nw cw] 37))
    have hs1:=box1t wr 37 (.slice pw nw cw) rfl
    go_upto_region 13 with (at_builtin;refine wpList_app rfl _ _ rfl elemRowsT zdhv ho1 zdhv hs1 zefz zTbe ?_;intro vY wX g1 g2 g3 g4 g5;clear ho1 hs1)
    have hou5:=HOU.out.app rw_ HRW.out g1 g2 g3
    obtain ⟨pY,cY,hvY,_,_⟩:=own_formT hou5.own
    rw [show (outl++[rw_]).length=outl.length+1 by simp] at hvY
    subst hvY
    have HOU5:=Lib.hid hou5
    have hb5:=hou5.bel
    have hkz:=HKZ.out.below hb5
    have HZ:=Lib.hid hkz
    have zf:∀ i,wX.frozen? ⟨w1.heap.size,i,none⟩=false:=hkz.frozen
    have zl:=hkz.lt
    obtain ⟨z0,z1,z2,z3,z4,z5,z6⟩:=md_cells hkz
    clear x0 x1 x2 x3 x4 x5 x6 hlx
    obtain ⟨x0,x1,x2,x3,x4,x5,x6⟩:=md_cells (HKM2.out.below hb5)
    have hlx:=(HKM2.out.below hb5).lt
    clear g1 g2 g3 g4 g5 hou5 hb5 hkz
    go_wp2
    obtain ⟨hk,hon⟩:=set_seven HZ.out (.string S.name) (.slice pc nc cc) (.slice pi ni ci) (.int .i64 S.limit) (.int .i64 S.parts) (.int .i64 S.by_) (.slice pY (outl.length+1) cY)
    generalize (((((((wX.setCell ⟨w1.heap.size,0,none⟩ (.string S.name)).setCell ⟨w1.heap.size,1,none⟩ (.slice pc nc cc)).setCell ⟨w1.heap.size,2,none⟩ (.slice pi ni ci)).setCell ⟨w1.heap.size,3,none⟩ (.int .i64 S.limit)).setCell ⟨w1.heap.size,4,none⟩ (.int .i64 S.parts)).setCell ⟨w1.heap.size,5,none⟩ (.int .i64 S.by_)).setCell ⟨w1.heap.size,6,none⟩ (.slice pY (outl.length+1) cY))=wE at *
    obtain ⟨m0,m1,m2,m3,m4,m5,m6⟩:=md_cells hk
    obtain ⟨hra,hbF⟩:=HST.out _ _ _ HOU5.out _ hon (fun r hr=>(List.mem_append.1 hr).elim (HOM.out r) (fun h=>.inl (List.mem_singleton.1 h)))
    exact bodyPost_ret (v:=.agg #[.string S.name,.slice pc nc cc,.slice pi ni ci,.int .i64 S.limit,.int .i64 S.parts,.int .i64 S.by_,.slice pY (outl.length+1) cY]) zjFE rfl ⟨_,by unfold mdV;rw [HCV.out,HIV.out],outl++[rw_],hra,HFM.out,hbF⟩
def clashUp {α:Type} (kf:Nat→α→Key) (un:Nat→Bool) (n:Nat) (row r:α) (k:Nat):Bool:=((List.range n).drop k).any fun k=>un k && (kf k row == kf k r)
theorem clashUp_succ {α:Type} (kf:Nat→α→Key) (un:Nat→Bool) (n:Nat) (row r:α) {k:Nat} (hk:k < n):clashUp kf un n row r k=((un k && (kf k row == kf k r)) || clashUp kf un n row r (k+1)):=by
 unfold clashUp
 rw [List.drop_eq_getElem_cons zFJU,List.any_cons,List.getElem_range]
theorem clashUp_end {α:Type} (kf:Nat→α→Key) (un:Nat→Bool) (n:Nat) (row r:α):clashUp kf un n row r n=false:=by
 unfold clashUp
 rw [List.drop_of_length_le zPXO];rfl
theorem clashGo_but {α:Type} (kf:Nat→α→Key) (un:Nat→Bool) (n:Nat) (row r:α) (but:Int) (j:Nat) (t:List α) (h:(j:Int)=but):clashGo kf un n row but j (r::t)=clashGo kf un n row but (j+1) t:=by
 rw [clashGo,show decide ((j:Int)=but)=true from decide_eq_true h];rfl
theorem clashGo_not {α:Type} (kf:Nat→α→Key) (un:Nat→Bool) (n:Nat) (row r:α) (but:Int) (j:Nat) (t:List α) (h:¬ (j:Int)=but):clashGo kf un n row but j (r::t)=(clashUp kf un n row r 0 || clashGo kf un n row but (j+1) t):=by
 rw [clashGo,show decide ((j:Int)=but)=false from decide_eq_false h];rfl
theorem mclash_any (w:World) (B:Nat→Prop) (S:SchV) (rv:Value) (rows:List RowV) (h:MdAt w B S rv rows) (hlen:rows.length≤1000) (B':Nat→Prop) (v:Value) (row:List AV) (hrow:Sl w B' 3 v row.length (rowCells row)) (but:Int) (hok:RowOK S row) :
 Calls Tryz.prog 114 #[mdV S rv,v,.int .i64 but] w fun e w'=>e=.returned (.bool (clashS S (rows.map RowV.l) row but))∧Below w.heap.size w w':=by
 have hkey:=h.key
 have hkeyr:=fun w2 hb (i:Nat) hi=>dkey_any w2 B B' S i v row (h.sch.below hb) h.right (hrow.below hb) hi hok
 have HRA:=Lib.hid h.ra
 have HIX:=Lib.hid h.sch.idx
 have hun:∀ k,∀ hk:k < S.idx.length,unS S k=S.idx[k].unique:=fun k hk=>unS_at hk
 have HUN:=Lib.hid hun
 have hil:=(sch_small h.right).2.1
 obtain ⟨⟨pc,nc,cc,hcv⟩,⟨pi,ni,ci,hiv⟩,⟨pr,cr,hrv,hcr1,hcr2⟩,hrf⟩:=h.forms
 have HRF:=Lib.hid hrf
 subst hrv
 obtain ⟨pw,cw,hrw,_,_⟩:=hrow.form
 obtain ⟨nw,hnw⟩:∃ nw,row.length=nw:=⟨_,rfl⟩
 rw [hnw] at hrw
 subst hrw
 have hni:ni=S.idx.length:=by
  obtain ⟨p,c,h1,_⟩:=HIX.out.1.form
  rw [hiv] at h1;cases h1;rfl
 have HNI:=Lib.hid hni
 simp only [SchV.agg,hcv,hiv] at hkey hkeyr
 have HKEY:=Lib.hid hkey
 have HKEYR:=Lib.hid hkeyr
 have HIV:=Lib.hid hiv
 simp only [mdV,hcv,hiv]
 obtain ⟨fm,hfm⟩:∃ fm,clashS S (rows.map RowV.l) row but=fm:=⟨_,rfl⟩
 rw [hfm]
 have HFM:=Lib.hid hfm
 have hal:=z0KE
 have hkm:=Blk.new w 34 [.string S.name,.slice pc nc cc,.slice pi ni ci,.int .i64 S.limit,.int .i64 S.parts,.int .i64 S.by_,.slice pr rows.length cr]
 obtain ⟨w1,hw1⟩:=zC8e
 rw [hw1] at hal
 have hkm:=zJ1I
 have HAL:=Lib.hid hal
 have HKM:=Lib.hid hkm
 clear h hkey hkeyr hrf hrow hcv hiv hfm hal hkm hok hun hnw hni
 go_enter Tryz.func114,Tryz.ntmps114
 go_wp2
 clear hw1
 go_loopw [7] (fun i wr=>∃ j:Nat,i=.int .i64 j∧j≤rows.length∧clashGo (kfS S) (unS S) S.idx.length row but j ((rows.drop j).map RowV.l)=fm∧Below w1.heap.size w1 wr) (fun i _=>rows.length - (intOf i).toNat)
 case atStart=>exact ⟨0,rfl,Nat.zero_le _,HFM.out,Below.refl _ _⟩
 case round =>
  obtain ⟨j,rfl,hj,hf,hbo⟩:=hrel
  obtain ⟨wo,rfl⟩:=zDit
  have HBO:=Lib.hid hbo
  obtain ⟨x0,x1,x2,x3,x4,x5,x6⟩:=md_cells (HKM.out.below hbo)
  have hlx:=(HKM.out.below hbo).lt
  by_cases hkx:j < rows.length
  ·have hmk:rows[j]∈rows:=List.getElem_mem hkx
   obtain ⟨px,nx,cx,hxv⟩:=HRF.out _ hmk
   have HXV:=Lib.hid hxv
   have HB0:Hid (∀ w4,Below w1.heap.size w1 w4→Below w.heap.size w w4):=Lib.hid fun w4 hb=>HAL.out.trans (hb.mono HAL.out.size)
   have HEK:Hid (∀ w4,Below w1.heap.size w1 w4→∃ gr or_,pr=some ⟨gr,or_,none⟩∧w4.cell? ⟨gr,or_+j,none⟩=some (.slice px nx cx)∧gr < w4.heap.size):=Lib.hid fun w4 hb=>by
    obtain ⟨g2,o2,c2,hv2,ek2⟩:=(HRA.out.below (HB0.out w4 hb)).at hkx
    rw [HXV.out] at ek2
    cases hv2
    exact ⟨g2,o2,rfl,ek2,World.block_lt_of_cell? _ _ ek2⟩
   have HKJ:=Lib.hid (fun w4 hb k hk=>HKEY.out w4 (HB0.out w4 hb) k hk rows[j] hmk)
   rw [hxv] at HKJ
   rw [List.drop_eq_getElem_cons hkx,List.map_cons] at hf
   generalize rows[j]=rj at *
   have hstep:∃ b0 b1,clashUp (kfS S) (unS S) S.idx.length row rj.l 0=b0∧clashGo (kfS S) (unS S) S.idx.length row but (j+1) ((rows.drop (j+1)).map RowV.l)=b1∧(((j:Int)=but)→b1=fm)∧(¬ ((j:Int)=but)→(b0 || b1)=fm):=⟨_,_,rfl,rfl,fun h=>by rw [←hf,clashGo_but _ _ _ _ _ _ _ _ h],fun h=>by rw [←hf,clashGo_not _ _ _ _ _ _ _ _ h]⟩
   obtain ⟨b0,b1,hb0,hb1,hf1,hf2⟩:=hstep
   have HU0:=Lib.hid hb0
   have HU1:=Lib.hid hb1
   have HF1:=Lib.hid hf1
   have HF2:=Lib.hid hf2
   clear hf hbo hmk hxv hb0 hb1 hf1 hf2
   go_wp2
   clear x0 x1 x2 x3 x4 x5 x6 hlx
   go_loopw [8] (fun i wr=>∃ k:Nat,i=.int .i64 k∧k≤ni∧(¬ ((j:Int)=but)→clashUp (kfS S) (unS S) S.idx.length row rj.l k=b0)∧Below w1.heap.size w1 wr) (fun i _=>ni - (intOf i).toNat)
   case atStart=>exact ⟨0,rfl,Nat.zero_le _,fun _=>HU0.out,HBO.out⟩
   case round =>
    obtain ⟨k,rfl,hk,hu,hbw⟩:=hrel
    have HBX:=Lib.hid hbw
    have HU:=Lib.hid hu
    obtain ⟨x0,x1,x2,x3,x4,x5,x6⟩:=md_cells (HKM.out.below hbw)
    have hlx:=(HKM.out.below hbw).lt
    obtain ⟨gr,or_,hpr,ek,hgr⟩:=HEK.out _ hbw
    subst hpr
    by_cases hkn:k < ni
    ·have hkk:k < S.idx.length:=by rw [←HNI.out];exact hkn
     obtain ⟨g,off,cap1,hv,hg,y0,y1⟩:=sl_idx (HIX.out.1.below (HB0.out _ hbw)) hkk
     rw [HIV.out] at hv
     cases hv
     have HUK:=Lib.hid (HUN.out k hkk)
     have HKR:=Lib.hid (fun w4 hb=>HKEYR.out w4 (HB0.out w4 hb) k hkk)
     have HKK:=Lib.hid (fun w4 hb=>HKJ.out w4 hb k hkk)
     generalize S.idx[k].unique=uk at *
     clear hu hbw y0
     by_cases hg1:(j:Int)=but
     ·have eg:((j:Int) == but)=true:=beq_iff_eq.2 hg1
      have en:((j:Int) != but)=false:=by rw [bne,eg];rfl
      have HG1:=Lib.hid hg1
      clear y1 ek hgr hg hg1
      go_upto_region 7 with fail
      refine wp_region_lit_plan [] [(0,0),(1,0),(2,0),(3,0),(4,0),(5,0),(7,0),(6,1),(8,0),(9,0),(10,1),(11,0),(12,0),(13,0),(15,0),(16,0),(18,0),(20,0),(21,0),(23,0),(14,1),(19,2),(22,2),(24,0),(25,2),(17,3),(26,4),(27,0),(28,0)] (fun _=>False) zyVB zyVB (fun c a d v w h=>zx0I) ?_
      go_wp2_with (first|(refine stp ?_))
      go_roundw
      case rel=>exact ⟨k+1,z3KH,zTbe,fun h=>absurd HG1.out h,HBX.out.drew⟩
      case measure=>(simp [intOf])<;>omega
     ·have eg:((j:Int) == but)=false:=beq_eq_false_iff_ne.2 hg1
      have en:((j:Int) != but)=true:=by rw [bne,eg];rfl
      have hu2:=HU.out hg1
      rw [clashUp_succ _ _ _ _ _ hkk,HUK.out] at hu2
      cases uk with
      | false =>
       have HU2:=Lib.hid hu2
       clear hu2
       have d0:=zOGF
       have d2:=zIaD
       have dy:wr.drew.cell? ⟨g,off+k*2+1,none⟩=some (.bool false):=y1
       have dlx:=zQf8
       go_upto_region 7 with fail
       clear x0 x1 x2 x3 x4 x5 x6 y1 ek hgr hlx
       refine wp_region_lit_plan [] [(0,0),(1,0),(2,0),(3,0),(4,0),(5,0),(7,0),(6,1),(8,0),(9,0),(10,1),(11,0),(12,0),(13,0),(15,0),(16,0),(18,0),(20,0),(21,0),(23,0),(14,1),(19,2),(22,2),(24,0),(25,2),(17,3),(26,4),(27,0),(28,0)] (fun q=>q=w.heap.size∨q=gr) zyVB zyVB (fun c a d v w h=>zx0I) ?_
       go_wp2_with (first|(refine stp ?_))
       go_roundw
       case rel=>exact ⟨k+1,z3KH,zTbe,fun _=>by rw [←HU2.out];rfl,HBX.out.drew⟩
       case measure=>(simp [intOf])<;>omega
      | true =>
       rw [Bool.true_and] at hu2
       have HU2:=Lib.hid hu2
       have hez:∃ ez,((kb (kfS S k row)).toList == (kb (kfS S k rj.l)).toList)=ez∧(kfS S k row == kfS S k rj.l)=ez:=⟨_,rfl,by rw [kb_list,kb_list]⟩
       obtain ⟨ez,hez,hez2⟩:=hez
       have HEZ:=Lib.hid hez2
       generalize kb (kfS S k row)=k1 at *
       generalize kb (kfS S k rj.l)=k2 at *
       have hKR:=HKR.out wr.drew HBX.out.drew
       have HKR1:=Lib.hid hKR
       have HAG:Hid (∀ w4,Below wr.drew.heap.size wr.drew w4→Agree (fun q=>q=w.heap.size∨q=gr) wr.drew w4):=Lib.hid fun w4 hb q o hq=>by
        refine hb.cell ?_
        rcases hq with rfl|rfl<;>assumption
       clear hKR hu2 hez2
       have dy:wr.drew.cell? ⟨g,off+k*2+1,none⟩=some (.bool true):=y1
       cases ez with
       | false =>
        go_upto_region 7 with fail
        clear y1
        have d0:=zOGF
        have d1:=zdGf
        have d2:=zIaD
        have d3:=zjgD
        have d4:=zk33
        have d5:=zg14
        have d6:=zGv6
        have dek:=zk1i
        have dgr:=zUaI
        have dlx:=zQf8
        clear x0 x1 x2 x3 x4 x5 x6 ek hgr hlx
        refine wp_region_lit_plan [] [(0,0),(1,0),(2,0),(3,0),(4,0),(5,0),(7,0),(6,1),(8,0),(9,0),(10,1),(11,0),(12,0),(13,0),(15,0),(16,0),(18,0),(20,0),(21,0),(23,0),(14,1),(19,2),(22,2),(24,0),(25,2),(17,3),(26,4),(27,0),(28,0)] (fun q=>q=w.heap.size∨q=gr) zyVB zyVB (fun c a d v w h=>zx0I) ?_
        go_upto_region 6 with (first
         | (refine stp ?_)
         | (go_at_call 18;refine HKR1.out.mono ?_;clear HKR1;rintro e w3 ⟨rfl,hb3⟩;have hag3:=HAG.out _ hb3;have HB3:=Lib.hid (HBX.out.drew.trans (Below.mono hb3 HBX.out.size));clear hb3)
         | (go_at_call 18;refine (HKK.out _ HB3.out).mono ?_;clear HKK;rintro e w4 ⟨rfl,hb4⟩;have HB4:=Lib.hid (HB3.out.trans (hb4.mono HB3.out.size));clear hb4))
        go_wp2
        go_roundw
        case rel=>exact ⟨k+1,z3KH,zTbe,fun _=>by rw [←HU2.out,HEZ.out];rfl,HB4.out⟩
        case measure=>(simp [intOf])<;>omega
       | true =>
        go_upto_region 7 with fail
        clear y1
        have d0:=zOGF
        have d1:=zdGf
        have d2:=zIaD
        have d3:=zjgD
        have d4:=zk33
        have d5:=zg14
        have d6:=zGv6
        have dek:=zk1i
        have dgr:=zUaI
        have dlx:=zQf8
        clear x0 x1 x2 x3 x4 x5 x6 ek hgr hlx
        refine wp_region_lit_plan [] [(0,0),(1,0),(2,0),(3,0),(4,0),(5,0),(7,0),(6,1),(8,0),(9,0),(10,1),(11,0),(12,0),(13,0),(15,0),(16,0),(18,0),(20,0),(21,0),(23,0),(14,1),(19,2),(22,2),(24,0),(25,2),(17,3),(26,4),(27,0),(28,0)] (fun q=>q=w.heap.size∨q=gr) zyVB zyVB (fun c a d v w h=>zx0I) ?_
        go_upto_region 8 with (first
         | (refine stp ?_)
         | (go_at_call 18;refine HKR1.out.mono ?_;clear HKR1;rintro e w3 ⟨rfl,hb3⟩;have hag3:=HAG.out _ hb3;have HB3:=Lib.hid (HBX.out.drew.trans (Below.mono hb3 HBX.out.size));clear hb3)
         | (go_at_call 18;refine (HKK.out _ HB3.out).mono ?_;clear HKK;rintro e w4 ⟨rfl,hb4⟩;have HB4:=Lib.hid (HB3.out.trans (hb4.mono HB3.out.size));clear hb4))
        go_wp2
        go_ret
        exact ⟨by rw [←HF2.out hg1,←HU2.out,HEZ.out];rfl,HB0.out _ HB4.out⟩
    ·obtain rfl:k=ni:=by omega
     rw [HNI.out] at hu
     have hb1:b1=fm:=by
      by_cases hg1:(j:Int)=but
      ·exact HF1.out hg1
      ·have h2:=hu hg1
       rw [clashUp_end] at h2
       rw [←HF2.out hg1,←h2];rfl
     have HB1:=Lib.hid (HU1.out.trans hb1)
     clear hu hbw hb1
     go_wp2
     go_roundw
     case rel=>exact ⟨j+1,z3KH,zTbe,HB1.out,HBX.out⟩
     case measure=>(simp [intOf])<;>omega
  ·obtain rfl:j=rows.length:=by omega
   rw [List.drop_length] at hf
   have HF:Hid (fm=false):=Lib.hid hf.symm
   clear hf hbo
   go_wp2
   go_ret
   exact ⟨zS9n,HAL.out.trans (HBO.out.mono HAL.out.size)⟩
theorem RowsAt.to {w w':World} {R R':Nat→Prop} {v:Value} {rows:List RowV} (h:RowsAt w R v rows) (hs:w.heap.size≤w'.heap.size) (hb:∀ k,R k→k < w.heap.size→w'.heap[k]?=w.heap[k]?) (hB:∀ k,R k→k < w.heap.size→R' k):RowsAt w' R' v rows :=
 ⟨h.1.mono hs hb hB,fun r hr=>(h.2 r hr).mono hs hb hB⟩
theorem MdAt.to {w w':World} {R R':Nat→Prop} {S:SchV} {v:Value} {rows:List RowV} (h:MdAt w R S v rows) (hs:w.heap.size≤w'.heap.size) (hb:∀ k,R k→k < w.heap.size→w'.heap[k]?=w.heap[k]?) (hB:∀ k,R k→k < w.heap.size→R' k):MdAt w' R' S v rows :=
 ⟨h.sch.to hs hb hB,h.right,h.ra.to hs hb hB,h.ok⟩
theorem MdAt.tight {w:World} {R:Nat→Prop} {S:SchV} {v:Value} {rows:List RowV} (h:MdAt w R S v rows):MdAt w (fun q=>R q∧q < w.heap.size) S v rows:=h.to (Nat.le_refl _) (fun _ _ _=>rfl) (fun _ hk hl=>⟨hk,hl⟩)
def MdOut (w:World) (B:Nat→Prop) (S:SchV) (o:List (List AV) × Int) (e:Ending) (w':World):Prop :=
 ∃ lv rws,e=.returned (.tuple #[mdV S lv,.int .i64 o.2])∧RowsAt w' (fun q=>B q∨w.heap.size≤q) lv rws∧rws.map RowV.l=o.1∧Below w.heap.size w w'
theorem md_same {w w1 w2:World} {B:Nat→Prop} {rv:Value} {rows:List RowV} (hra:RowsAt w B rv rows) (hb:Below w.heap.size w w2) (h1:w.heap.size≤w1.heap.size) :
 ∀ wX,Below w2.heap.size w2 wX→∀ wF,Only (fun q=>q=w1.heap.size) wX wF→RowsAt wF (fun q=>B q∨w.heap.size≤q) rv rows∧Below w.heap.size w wF:=fun wX hx wF ho=>by
 have hbF:Below w.heap.size w wF:=(hb.trans (hx.mono hb.size)).trans (ho.below (by have:=hb.size;have:=hx.size;omega) (fun q hq=>zTbe))
 exact ⟨hra.to hbF.size (fun k _ hl=>hbF.block k hl) (fun k hk _=>.inl hk),hbF⟩
theorem md_other {w w1 w2:World} {B:Nat→Prop} (hb:Below w.heap.size w w2) (h1:w.heap.size≤w1.heap.size) (h2:w1.heap.size+1≤w2.heap.size) :
 ∀ wY,Below w2.heap.size w2 wY→∀ wX lv rws,RowsAt wX (fun q=>(B q∧q < w.heap.size)∨wY.heap.size≤q) lv rws→Below wY.heap.size wY wX→∀ wF,Only (fun q=>q=w1.heap.size) wX wF→RowsAt wF (fun q=>B q∨w.heap.size≤q) lv rws∧Below w.heap.size w wF:=fun wY hy wX lv rws hra hx wF ho=>by
 have hsy:=hy.size
 have hbY:Below w.heap.size w wY:=hb.trans (hy.mono hb.size)
 have hbX:Below w.heap.size w wX:=hbY.trans (hx.mono hbY.size)
 have hbF:Below w.heap.size w wF:=hbX.trans (ho.below hbX.size (fun q hq=>zTbe))
 refine ⟨hra.to ho.size (fun k hk hl=>ho.block k hl ?_) (fun k hk _=>?_),hbF⟩
 ·rcases hk with ⟨_,hk⟩|hk<;>omega
 ·rcases hk with ⟨hk,_⟩|hk
  ·exact .inl hk
  ·exact .inr (by have:=hbY.size;omega)
theorem insMd_1 {S:SchV} {m:List (List AV)} {row:List AV} (h:fitB S.cols row=false):insMd S m row=(m,13):=by unfold insMd;rw [if_pos h]
theorem insMd_2 {S:SchV} {m:List (List AV)} {row:List AV} (h:fitB S.cols row=true) (hc:clashS S m row (-1)=true):insMd S m row=(m,9):=by unfold insMd;rw [if_neg (by rw [h];simp),if_pos hc]
theorem insMd_3 {S:SchV} {m:List (List AV)} {row:List AV} (h:fitB S.cols row=true) (hc:clashS S m row (-1)=false) (hl:S.limit≤(m.length:Int)):insMd S m row=(m,15):=by unfold insMd;rw [if_neg (by rw [h];simp),if_neg (by rw [hc];simp),if_pos hl]
theorem insMd_4 {S:SchV} {m:List (List AV)} {row:List AV} (h:fitB S.cols row=true) (hc:clashS S m row (-1)=false) (hl:¬ S.limit≤(m.length:Int)):insMd S m row=(withM (kfS S) m row (-1) true,0):=by unfold insMd;rw [if_neg (by rw [h];simp),if_neg (by rw [hc];simp),if_neg hl,withM,if_pos rfl,skipM_none]
theorem updMd_1 {S:SchV} {m:List (List AV)} {k:Key} {row:List AV} (h:findM (kfS S) k m 0 < 0):updMd S m k row=(m,8):=by unfold updMd;rw [if_pos h]
theorem updMd_2 {S:SchV} {m:List (List AV)} {k:Key} {row:List AV} (h:¬ findM (kfS S) k m 0 < 0) (hf:fitB S.cols row=false):updMd S m k row=(m,13):=by unfold updMd;rw [if_neg h,if_pos hf]
theorem updMd_3 {S:SchV} {m:List (List AV)} {k:Key} {row:List AV} (h:¬ findM (kfS S) k m 0 < 0) (hf:fitB S.cols row=true) (hc:clashS S m row (findM (kfS S) k m 0)=true):updMd S m k row=(m,9):=by unfold updMd;rw [if_neg h,if_neg (by rw [hf];simp),if_pos hc]
theorem updMd_4 {S:SchV} {m:List (List AV)} {k:Key} {row:List AV} (h:¬ findM (kfS S) k m 0 < 0) (hf:fitB S.cols row=true) (hc:clashS S m row (findM (kfS S) k m 0)=false):updMd S m k row=(withM (kfS S) m row (findM (kfS S) k m 0) true,0):=by unfold updMd;rw [if_neg h,if_neg (by rw [hf];simp),if_neg (by rw [hc];simp)]
theorem MdAt.slot {w:World} {B:Nat→Prop} {S:SchV} {rv:Value} {rows:List RowV} (h:MdAt w B S rv rows):∃ p n c,S.idxV=.slice p n c:=h.forms.2.1
theorem minsert_any (w:World) (B:Nat→Prop) (S:SchV) (rv:Value) (rows:List RowV) (h:MdAt w B S rv rows) (hlen:rows.length≤1000) (rw_:RowV) (hrow:Sl w B 3 rw_.v rw_.l.length (rowCells rw_.l)) (hf:∀ a∈rw_.l,fit64 a.n) :
 Calls Tryz.prog 82 #[mdV S rv,rw_.v] w (MdOut w B S (insMd S (rows.map RowV.l) rw_.l)):=by
 have hti:=h.tight
 have HFIT:=Lib.hid (fun w4 (hb:Below w.heap.size w w4)=>reffits_any w4 B B S rw_.v rw_.l (h.sch.cols.below hb) (hrow.below hb) h.slot)
 have HCLA:=Lib.hid (fun w4 (hb:Below w.heap.size w w4) (but:Int) (hk:RowOK S rw_.l)=>mclash_any w4 B S rv rows (h.below hb) hlen B rw_.v rw_.l (hrow.below hb) but hk)
 have HWIT:=Lib.hid (fun w4 (hb:Below w.heap.size w w4) (gone:Int) (hk:RowOK S rw_.l)=>mwith_any w4 (fun q=>B q∧q < w.heap.size) S rv rows (hti.below hb) hlen rw_ ((hrow.mono (Nat.le_refl _) (fun _ _ _=>rfl) (fun _ hk hl=>⟨hk,hl⟩)).below hb) gone true (fun _=>hk))
 have HRA:=Lib.hid h.ra
 obtain ⟨⟨pc,nc,cc,hcv⟩,⟨pi,ni,ci,hiv⟩,⟨pr,cr,hrv,hcr1,hcr2⟩,hrf⟩:=h.forms
 have HRF:=Lib.hid hrf
 subst hrv
 obtain ⟨pw,cw,hrw,_,_⟩:=hrow.form
 obtain ⟨nw,hnw⟩:∃ nw,rw_.l.length=nw:=⟨_,rfl⟩
 rw [hnw] at hrw
 have HCV:=Lib.hid hcv
 have HIV:=Lib.hid hiv
 have ROK:=Lib.hid (fun (hft:fitB S.cols rw_.l=true)=>(⟨hft,hf⟩:RowOK S rw_.l))
 simp only [mdV,hcv,hiv,hrw] at HCLA HWIT
 simp only [SchV.agg,hcv,hiv,hrw] at HFIT
 rw [hrw]
 rw [show mdV S (.slice pr rows.length cr)=.agg #[.string S.name,.slice pc nc cc,.slice pi ni ci,.int .i64 S.limit,.int .i64 S.parts,.int .i64 S.by_,.slice pr rows.length cr] by unfold mdV;rw [hcv,hiv]]
 have hal:=z0KE
 have hkm:=Blk.new w 34 [.string S.name,.slice pc nc cc,.slice pi ni ci,.int .i64 S.limit,.int .i64 S.parts,.int .i64 S.by_,.slice pr rows.length cr]
 obtain ⟨w1,hw1⟩:=zC8e
 rw [hw1] at hal
 have hkm:=zJ1I
 have HAL:=Lib.hid hal
 have HKM:=Lib.hid hkm
 obtain ⟨w2,hw2⟩:=zX17
 have hb12:=zXxX
 have hkz:=zTgR
 have HKM2:=Lib.hid (hkm.below hb12)
 have HKZ:=Lib.hid hkz
 have HB2:=Lib.hid (hal.trans (hb12.mono hal.size))
 have hzl:=zNTk
 have hzl0:=zi0R
 have HSAME:=Lib.hid (md_same (w1:=w1) HRA.out HB2.out hzl0)
 have HOTH:=Lib.hid (md_other (B:=B) HB2.out hzl0 hzl)
 have HB0:=ziR2
 have HMV:=zYQU
 generalize hfb:fitB S.cols rw_.l=fb at *
 clear h hti hrf hrow hcv hiv hal hkm hkz hb12 hnw hf hrw
 have hlm:((rows.map RowV.l).length:Int)=rows.length:=zPXO
 have HLM:=Lib.hid hlm
 generalize hcb:clashS S (rows.map RowV.l) rw_.l (-1)=cb at *
 have HFB:=Lib.hid hfb
 have HCB:Hid (clashS S (rows.map RowV.l) rw_.l (-1)=cb):=hcb
 clear hfb hcb hlm
 go_enter Tryz.func82,Tryz.ntmps82
 have HBX:=Lib.hid (Below.refl w2.heap.size w2)
 obtain ⟨x0,x1,x2,x3,x4,x5,x6⟩:=md_cells (HKM2.out.below HBX.out)
 have hlx:=(HKM2.out.below HBX.out).lt
 go_wp2_with fail
 clear hw1 hw2 x0 x1 x2 x3 x4 x5 x6
 refine (HFIT.out w2 HB2.out).mono ?_
 rintro e w3 ⟨rfl,hb3⟩
 clear HBX
 have HBX:=Lib.hid hb3
 clear hb3 HFIT
 cases fb with
 | false =>
  obtain ⟨x0,x1,x2,x3,x4,x5,x6⟩:=md_cells (HKM2.out.below HBX.out)
  have hlx:=(HKM2.out.below HBX.out).lt
  have hkz:=HKZ.out.below HBX.out
  have HZ:=Lib.hid hkz
  have zf:=zxiX
  have zl:=hkz.lt
  obtain ⟨z0,z1,z2,z3,z4,z5,z6⟩:=md_cells hkz
  clear hkz
  go_wp2
  obtain ⟨hk,hon⟩:=set_seven HZ.out (.string S.name) (.slice pc nc cc) (.slice pi ni ci) (.int .i64 S.limit) (.int .i64 S.parts) (.int .i64 S.by_) (.slice pr rows.length cr)
  generalize (((((((w3.setCell ⟨w1.heap.size,0,none⟩ (.string S.name)).setCell ⟨w1.heap.size,1,none⟩ (.slice pc nc cc)).setCell ⟨w1.heap.size,2,none⟩ (.slice pi ni ci)).setCell ⟨w1.heap.size,3,none⟩ (.int .i64 S.limit)).setCell ⟨w1.heap.size,4,none⟩ (.int .i64 S.parts)).setCell ⟨w1.heap.size,5,none⟩ (.int .i64 S.by_)).setCell ⟨w1.heap.size,6,none⟩ (.slice pr rows.length cr))=wE at *
  obtain ⟨m0,m1,m2,m3,m4,m5,m6⟩:=md_cells hk
  exact bodyPost_ret (v:=.tuple #[.agg #[.string S.name,.slice pc nc cc,.slice pi ni ci,.int .i64 S.limit,.int .i64 S.parts,.int .i64 S.by_,.slice pr rows.length cr],.int .i64 13]) zu2I rfl (⟨_,rows,by rw [insMd_1 HFB.out,HMV.out],(HSAME.out _ HBX.out _ hon).1,by rw [insMd_1 HFB.out],(HSAME.out _ HBX.out _ hon).2⟩)
 | true =>
  have hrk:=ROK.out rfl
  have HRK:=Lib.hid hrk
  have hcl:=HCLA.out w3 (HB0.out _ HBX.out) (-1) hrk
  rw [HCB.out] at hcl
  have HCL:=Lib.hid hcl
  obtain ⟨x0,x1,x2,x3,x4,x5,x6⟩:=md_cells (HKM2.out.below HBX.out)
  have hlx:=(HKM2.out.below HBX.out).lt
  clear hcl hrk HCLA
  go_wp2_with fail
  clear x0 x1 x2 x3 x4 x5 x6 hlx
  refine HCL.out.mono ?_
  rintro e w4 ⟨rfl,hb4⟩
  have hbx:=HBX.out.trans (hb4.mono HBX.out.size)
  clear HBX HCL
  have HBX:=Lib.hid hbx
  clear hb4 hbx
  cases cb with
  | true =>
   obtain ⟨x0,x1,x2,x3,x4,x5,x6⟩:=md_cells (HKM2.out.below HBX.out)
   have hlx:=(HKM2.out.below HBX.out).lt
   have hkz:=HKZ.out.below HBX.out
   have HZ:=Lib.hid hkz
   have zf:=zj0T
   have zl:=hkz.lt
   obtain ⟨z0,z1,z2,z3,z4,z5,z6⟩:=md_cells hkz
   clear hkz
   go_wp2
   obtain ⟨hk,hon⟩:=set_seven HZ.out (.string S.name) (.slice pc nc cc) (.slice pi ni ci) (.int .i64 S.limit) (.int .i64 S.parts) (.int .i64 S.by_) (.slice pr rows.length cr)
   generalize (((((((w4.setCell ⟨w1.heap.size,0,none⟩ (.string S.name)).setCell ⟨w1.heap.size,1,none⟩ (.slice pc nc cc)).setCell ⟨w1.heap.size,2,none⟩ (.slice pi ni ci)).setCell ⟨w1.heap.size,3,none⟩ (.int .i64 S.limit)).setCell ⟨w1.heap.size,4,none⟩ (.int .i64 S.parts)).setCell ⟨w1.heap.size,5,none⟩ (.int .i64 S.by_)).setCell ⟨w1.heap.size,6,none⟩ (.slice pr rows.length cr))=wE at *
   obtain ⟨m0,m1,m2,m3,m4,m5,m6⟩:=md_cells hk
   exact bodyPost_ret (v:=.tuple #[.agg #[.string S.name,.slice pc nc cc,.slice pi ni ci,.int .i64 S.limit,.int .i64 S.parts,.int .i64 S.by_,.slice pr rows.length cr],.int .i64 9]) zu2I rfl (⟨_,rows,by rw [insMd_2 HFB.out HCB.out,HMV.out],(HSAME.out _ HBX.out _ hon).1,by rw [insMd_2 HFB.out HCB.out],(HSAME.out _ HBX.out _ hon).2⟩)
  | false =>
   by_cases hl:S.limit≤(rows.length:Int)
   ·have hl2:¬ ((rows.length:Int) < S.limit):=by omega
    obtain ⟨x0,x1,x2,x3,x4,x5,x6⟩:=md_cells (HKM2.out.below HBX.out)
    have hlx:=(HKM2.out.below HBX.out).lt
    have hkz:=HKZ.out.below HBX.out
    have HZ:=Lib.hid hkz
    have zf:=zj0T
    have zl:=hkz.lt
    obtain ⟨z0,z1,z2,z3,z4,z5,z6⟩:=md_cells hkz
    clear hkz
    have d1:decide (S.limit≤(rows.length:Int))=true:=decide_eq_true hl
    have d2:decide ((rows.length:Int) < S.limit)=false:=decide_eq_false hl2
    have HL:Hid (S.limit≤((rows.map RowV.l).length:Int)):=Lib.hid (by rw [HLM.out];exact hl)
    go_wp2
    obtain ⟨hk,hon⟩:=set_seven HZ.out (.string S.name) (.slice pc nc cc) (.slice pi ni ci) (.int .i64 S.limit) (.int .i64 S.parts) (.int .i64 S.by_) (.slice pr rows.length cr)
    generalize (((((((w4.setCell ⟨w1.heap.size,0,none⟩ (.string S.name)).setCell ⟨w1.heap.size,1,none⟩ (.slice pc nc cc)).setCell ⟨w1.heap.size,2,none⟩ (.slice pi ni ci)).setCell ⟨w1.heap.size,3,none⟩ (.int .i64 S.limit)).setCell ⟨w1.heap.size,4,none⟩ (.int .i64 S.parts)).setCell ⟨w1.heap.size,5,none⟩ (.int .i64 S.by_)).setCell ⟨w1.heap.size,6,none⟩ (.slice pr rows.length cr))=wE at *
    obtain ⟨m0,m1,m2,m3,m4,m5,m6⟩:=md_cells hk
    exact bodyPost_ret (v:=.tuple #[.agg #[.string S.name,.slice pc nc cc,.slice pi ni ci,.int .i64 S.limit,.int .i64 S.parts,.int .i64 S.by_,.slice pr rows.length cr],.int .i64 15]) zu2I rfl (⟨_,rows,by rw [insMd_3 HFB.out HCB.out HL.out,HMV.out],(HSAME.out _ HBX.out _ hon).1,by rw [insMd_3 HFB.out HCB.out HL.out],(HSAME.out _ HBX.out _ hon).2⟩)
   ·have hl2:(rows.length:Int) < S.limit:=by omega
    obtain ⟨x0,x1,x2,x3,x4,x5,x6⟩:=md_cells (HKM2.out.below HBX.out)
    have hlx:=(HKM2.out.below HBX.out).lt
    have d1:decide (S.limit≤(rows.length:Int))=false:=decide_eq_false hl
    have d2:decide ((rows.length:Int) < S.limit)=true:=decide_eq_true hl2
    have HL:Hid (¬ S.limit≤((rows.map RowV.l).length:Int)):=Lib.hid (by rw [HLM.out];exact hl)
    have HWI:=Lib.hid (HWIT.out w4 (HB0.out _ HBX.out) (-1) HRK.out)
    clear HWIT
    go_wp2_with fail
    clear x0 x1 x2 x3 x4 x5 x6 hlx
    refine HWI.out.mono ?_
    rintro e w5 ⟨lv,rws,rfl,hra,hrm,hb5⟩
    obtain ⟨pl,cl,hlv,_,_⟩:=hra.1.form
    obtain ⟨nl,hnl⟩:=zo6F
    rw [hnl] at hlv
    subst hlv
    clear hnl
    have HRA5:=Lib.hid hra
    have HRM:=Lib.hid hrm
    have HFIN:=Lib.hid (HOTH.out w4 HBX.out w5 _ rws hra hb5)
    have hbx:=HBX.out.trans (hb5.mono HBX.out.size)
    clear HBX HWI
    have HBX:=Lib.hid hbx
    clear hb5 hbx hra hrm
    have hkz:=HKZ.out.below HBX.out
    have HZ:=Lib.hid hkz
    have zf:∀ i,w5.frozen? ⟨w1.heap.size,i,none⟩=false:=hkz.frozen
    have zl:=hkz.lt
    obtain ⟨z0,z1,z2,z3,z4,z5,z6⟩:=md_cells hkz
    clear hkz
    go_wp2
    obtain ⟨hk,hon⟩:=set_seven HZ.out (.string S.name) (.slice pc nc cc) (.slice pi ni ci) (.int .i64 S.limit) (.int .i64 S.parts) (.int .i64 S.by_) (.slice pl nl cl)
    generalize (((((((w5.setCell ⟨w1.heap.size,0,none⟩ (.string S.name)).setCell ⟨w1.heap.size,1,none⟩ (.slice pc nc cc)).setCell ⟨w1.heap.size,2,none⟩ (.slice pi ni ci)).setCell ⟨w1.heap.size,3,none⟩ (.int .i64 S.limit)).setCell ⟨w1.heap.size,4,none⟩ (.int .i64 S.parts)).setCell ⟨w1.heap.size,5,none⟩ (.int .i64 S.by_)).setCell ⟨w1.heap.size,6,none⟩ (.slice pl nl cl))=wE at *
    obtain ⟨m0,m1,m2,m3,m4,m5,m6⟩:=md_cells hk
    exact bodyPost_ret (v:=.tuple #[.agg #[.string S.name,.slice pc nc cc,.slice pi ni ci,.int .i64 S.limit,.int .i64 S.parts,.int .i64 S.by_,.slice pl nl cl],.int .i64 0]) zu2I rfl (⟨_,rws,by rw [insMd_4 HFB.out HCB.out (by have:=HL.out;omega),HMV.out],(HFIN.out _ hon).1,by rw [insMd_4 HFB.out HCB.out (by have:=HL.out;omega),HRM.out],(HFIN.out _ hon).2⟩)
theorem mupdate_any (w:World) (B:Nat→Prop) (S:SchV) (rv:Value) (rows:List RowV) (h:MdAt w B S rv rows) (hlen:rows.length≤1000) (k:Key) (rw_:RowV) (hrow:Sl w B 3 rw_.v rw_.l.length (rowCells rw_.l)) (hf:∀ a∈rw_.l,fit64 a.n) :
 Calls Tryz.prog 83 #[mdV S rv,.string (kb k),rw_.v] w (MdOut w B S (updMd S (rows.map RowV.l) k rw_.l)):=by
 have HFND:=Lib.hid (fun w4 (hb:Below w.heap.size w w4)=>mfind_any w4 B S rv rows (h.below hb) k)
 obtain ⟨kv,hkv⟩:∃ kv,kb k=kv:=⟨_,rfl⟩
 rw [hkv] at HFND ⊢
 clear hkv
 obtain ⟨fi,hfi⟩:∃ fi,findM (kfS S) k (rows.map RowV.l) 0=fi:=⟨_,rfl⟩
 rw [hfi] at HFND
 have HFI:=Lib.hid hfi
 simp only [mdV,h.slot.choose_spec] at HFND
 have hti:=h.tight
 have HFIT:=Lib.hid (fun w4 (hb:Below w.heap.size w w4)=>reffits_any w4 B B S rw_.v rw_.l (h.sch.cols.below hb) (hrow.below hb) h.slot)
 have HCLA:=Lib.hid (fun w4 (hb:Below w.heap.size w w4) (but:Int) (hk:RowOK S rw_.l)=>mclash_any w4 B S rv rows (h.below hb) hlen B rw_.v rw_.l (hrow.below hb) but hk)
 have HWIT:=Lib.hid (fun w4 (hb:Below w.heap.size w w4) (gone:Int) (hk:RowOK S rw_.l)=>mwith_any w4 (fun q=>B q∧q < w.heap.size) S rv rows (hti.below hb) hlen rw_ ((hrow.mono (Nat.le_refl _) (fun _ _ _=>rfl) (fun _ hk hl=>⟨hk,hl⟩)).below hb) gone true (fun _=>hk))
 have HRA:=Lib.hid h.ra
 obtain ⟨⟨pc,nc,cc,hcv⟩,⟨pi,ni,ci,hiv⟩,⟨pr,cr,hrv,hcr1,hcr2⟩,hrf⟩:=h.forms
 have HRF:=Lib.hid hrf
 subst hrv
 obtain ⟨pw,cw,hrw,_,_⟩:=hrow.form
 obtain ⟨nw,hnw⟩:∃ nw,rw_.l.length=nw:=⟨_,rfl⟩
 rw [hnw] at hrw
 have HCV:=Lib.hid hcv
 have HIV:=Lib.hid hiv
 have ROK:=Lib.hid (fun (hft:fitB S.cols rw_.l=true)=>(⟨hft,hf⟩:RowOK S rw_.l))
 simp only [mdV,hcv,hiv,hrw] at HCLA HWIT
 simp only [SchV.agg,hcv,hiv,hrw] at HFIT
 rw [hrw]
 rw [show mdV S (.slice pr rows.length cr)=.agg #[.string S.name,.slice pc nc cc,.slice pi ni ci,.int .i64 S.limit,.int .i64 S.parts,.int .i64 S.by_,.slice pr rows.length cr] by unfold mdV;rw [hcv,hiv]]
 have hal:=z0KE
 have hkm:=Blk.new w 34 [.string S.name,.slice pc nc cc,.slice pi ni ci,.int .i64 S.limit,.int .i64 S.parts,.int .i64 S.by_,.slice pr rows.length cr]
 obtain ⟨w1,hw1⟩:=zC8e
 rw [hw1] at hal
 have hkm:=zJ1I
 have HAL:=Lib.hid hal
 have HKM:=Lib.hid hkm
 obtain ⟨w2,hw2⟩:=zX17
 have hb12:=zXxX
 have hkz:=zTgR
 have HKM2:=Lib.hid (hkm.below hb12)
 have HKZ:=Lib.hid hkz
 have HB2:=Lib.hid (hal.trans (hb12.mono hal.size))
 have hzl:=zNTk
 have hzl0:=zi0R
 have HSAME:=Lib.hid (md_same (w1:=w1) HRA.out HB2.out hzl0)
 have HOTH:=Lib.hid (md_other (B:=B) HB2.out hzl0 hzl)
 have HB0:=ziR2
 have HMV:=zYQU
 generalize hfb:fitB S.cols rw_.l=fb at *
 clear h hti hrf hrow hcv hiv hal hkm hkz hb12 hnw hf hrw
 simp only [HCV.out,HIV.out] at HFND
 generalize hcb:clashS S (rows.map RowV.l) rw_.l fi=cb at *
 have HFB:=Lib.hid hfb
 have HCB:Hid (clashS S (rows.map RowV.l) rw_.l fi=cb):=hcb
 clear hfb hcb hfi
 go_enter Tryz.func83,Tryz.ntmps83
 have HBX:=Lib.hid (Below.refl w2.heap.size w2)
 obtain ⟨x0,x1,x2,x3,x4,x5,x6⟩:=md_cells (HKM2.out.below HBX.out)
 have hlx:=(HKM2.out.below HBX.out).lt
 go_wp2_with fail
 clear hw1 hw2 x0 x1 x2 x3 x4 x5 x6
 refine (HFND.out w2 HB2.out).mono ?_
 rintro e w3 ⟨rfl,hb3⟩
 clear HBX
 have HBX:=Lib.hid hb3
 clear hb3 HFND
 by_cases hneg:fi < 0
 ·have HN:Hid (findM (kfS S) k (rows.map RowV.l) 0 < 0):=Lib.hid zz32
  have d1:decide (fi < 0)=true:=decide_eq_true hneg
  obtain ⟨x0,x1,x2,x3,x4,x5,x6⟩:=md_cells (HKM2.out.below HBX.out)
  have hlx:=(HKM2.out.below HBX.out).lt
  have hkz:=HKZ.out.below HBX.out
  have HZ:=Lib.hid hkz
  have zf:=zxiX
  have zl:=hkz.lt
  obtain ⟨z0,z1,z2,z3,z4,z5,z6⟩:=md_cells hkz
  clear hkz
  go_wp2
  obtain ⟨hk,hon⟩:=set_seven HZ.out (.string S.name) (.slice pc nc cc) (.slice pi ni ci) (.int .i64 S.limit) (.int .i64 S.parts) (.int .i64 S.by_) (.slice pr rows.length cr)
  generalize (((((((w3.setCell ⟨w1.heap.size,0,none⟩ (.string S.name)).setCell ⟨w1.heap.size,1,none⟩ (.slice pc nc cc)).setCell ⟨w1.heap.size,2,none⟩ (.slice pi ni ci)).setCell ⟨w1.heap.size,3,none⟩ (.int .i64 S.limit)).setCell ⟨w1.heap.size,4,none⟩ (.int .i64 S.parts)).setCell ⟨w1.heap.size,5,none⟩ (.int .i64 S.by_)).setCell ⟨w1.heap.size,6,none⟩ (.slice pr rows.length cr))=wE at *
  obtain ⟨m0,m1,m2,m3,m4,m5,m6⟩:=md_cells hk
  exact bodyPost_ret (v:=.tuple #[.agg #[.string S.name,.slice pc nc cc,.slice pi ni ci,.int .i64 S.limit,.int .i64 S.parts,.int .i64 S.by_,.slice pr rows.length cr],.int .i64 8]) zsZm rfl (⟨_,rows,by rw [updMd_1 HN.out,HMV.out],(HSAME.out _ HBX.out _ hon).1,by rw [updMd_1 HN.out],(HSAME.out _ HBX.out _ hon).2⟩)
 ·have HN:Hid (¬ findM (kfS S) k (rows.map RowV.l) 0 < 0):=Lib.hid zz32
  have d1:decide (fi < 0)=false:=decide_eq_false hneg
  have HFT:=Lib.hid (HFIT.out w3 (HB0.out _ HBX.out))
  obtain ⟨x0,x1,x2,x3,x4,x5,x6⟩:=md_cells (HKM2.out.below HBX.out)
  have hlx:=(HKM2.out.below HBX.out).lt
  clear HFIT
  go_wp2_with fail
  clear x0 x1 x2 x3 x4 x5 x6 hlx
  refine HFT.out.mono ?_
  rintro e w4 ⟨rfl,hb4⟩
  have hbx:=HBX.out.trans (hb4.mono HBX.out.size)
  clear HBX HFT
  have HBX:=Lib.hid hbx
  clear hb4 hbx
  cases fb with
  | false =>
   obtain ⟨x0,x1,x2,x3,x4,x5,x6⟩:=md_cells (HKM2.out.below HBX.out)
   have hlx:=(HKM2.out.below HBX.out).lt
   have hkz:=HKZ.out.below HBX.out
   have HZ:=Lib.hid hkz
   have zf:=zj0T
   have zl:=hkz.lt
   obtain ⟨z0,z1,z2,z3,z4,z5,z6⟩:=md_cells hkz
   clear hkz
   go_wp2
   obtain ⟨hk,hon⟩:=set_seven HZ.out (.string S.name) (.slice pc nc cc) (.slice pi ni ci) (.int .i64 S.limit) (.int .i64 S.parts) (.int .i64 S.by_) (.slice pr rows.length cr)
   generalize (((((((w4.setCell ⟨w1.heap.size,0,none⟩ (.string S.name)).setCell ⟨w1.heap.size,1,none⟩ (.slice pc nc cc)).setCell ⟨w1.heap.size,2,none⟩ (.slice pi ni ci)).setCell ⟨w1.heap.size,3,none⟩ (.int .i64 S.limit)).setCell ⟨w1.heap.size,4,none⟩ (.int .i64 S.parts)).setCell ⟨w1.heap.size,5,none⟩ (.int .i64 S.by_)).setCell ⟨w1.heap.size,6,none⟩ (.slice pr rows.length cr))=wE at *
   obtain ⟨m0,m1,m2,m3,m4,m5,m6⟩:=md_cells hk
   exact bodyPost_ret (v:=.tuple #[.agg #[.string S.name,.slice pc nc cc,.slice pi ni ci,.int .i64 S.limit,.int .i64 S.parts,.int .i64 S.by_,.slice pr rows.length cr],.int .i64 13]) zsZm rfl (⟨_,rows,by rw [updMd_2 z9se HFB.out,HMV.out],(HSAME.out _ HBX.out _ hon).1,by rw [updMd_2 z9se HFB.out],(HSAME.out _ HBX.out _ hon).2⟩)
  | true =>
   have hrk:=ROK.out rfl
   have HRK:=Lib.hid hrk
   have hcl:=HCLA.out w4 (HB0.out _ HBX.out) fi hrk
   rw [HCB.out] at hcl
   have HCL:=Lib.hid hcl
   obtain ⟨x0,x1,x2,x3,x4,x5,x6⟩:=md_cells (HKM2.out.below HBX.out)
   have hlx:=(HKM2.out.below HBX.out).lt
   clear hcl hrk HCLA
   go_wp2_with fail
   clear x0 x1 x2 x3 x4 x5 x6 hlx
   refine HCL.out.mono ?_
   rintro e w5 ⟨rfl,hb5⟩
   have hbx:=HBX.out.trans (hb5.mono HBX.out.size)
   clear HBX HCL
   have HBX:=Lib.hid hbx
   clear hb5 hbx
   have HCB2:Hid (clashS S (rows.map RowV.l) rw_.l (findM (kfS S) k (rows.map RowV.l) 0)=cb):=Lib.hid (by rw [HFI.out];exact HCB.out)
   cases cb with
   | true =>
    obtain ⟨x0,x1,x2,x3,x4,x5,x6⟩:=md_cells (HKM2.out.below HBX.out)
    have hlx:=(HKM2.out.below HBX.out).lt
    have hkz:=HKZ.out.below HBX.out
    have HZ:=Lib.hid hkz
    have zf:∀ i,w5.frozen? ⟨w1.heap.size,i,none⟩=false:=hkz.frozen
    have zl:=hkz.lt
    obtain ⟨z0,z1,z2,z3,z4,z5,z6⟩:=md_cells hkz
    clear hkz
    go_wp2
    obtain ⟨hk,hon⟩:=set_seven HZ.out (.string S.name) (.slice pc nc cc) (.slice pi ni ci) (.int .i64 S.limit) (.int .i64 S.parts) (.int .i64 S.by_) (.slice pr rows.length cr)
    generalize (((((((w5.setCell ⟨w1.heap.size,0,none⟩ (.string S.name)).setCell ⟨w1.heap.size,1,none⟩ (.slice pc nc cc)).setCell ⟨w1.heap.size,2,none⟩ (.slice pi ni ci)).setCell ⟨w1.heap.size,3,none⟩ (.int .i64 S.limit)).setCell ⟨w1.heap.size,4,none⟩ (.int .i64 S.parts)).setCell ⟨w1.heap.size,5,none⟩ (.int .i64 S.by_)).setCell ⟨w1.heap.size,6,none⟩ (.slice pr rows.length cr))=wE at *
    obtain ⟨m0,m1,m2,m3,m4,m5,m6⟩:=md_cells hk
    exact bodyPost_ret (v:=.tuple #[.agg #[.string S.name,.slice pc nc cc,.slice pi ni ci,.int .i64 S.limit,.int .i64 S.parts,.int .i64 S.by_,.slice pr rows.length cr],.int .i64 9]) zsZm rfl (⟨_,rows,by rw [updMd_3 z9se HFB.out HCB2.out,HMV.out],(HSAME.out _ HBX.out _ hon).1,by rw [updMd_3 z9se HFB.out HCB2.out],(HSAME.out _ HBX.out _ hon).2⟩)
   | false =>
    obtain ⟨x0,x1,x2,x3,x4,x5,x6⟩:=md_cells (HKM2.out.below HBX.out)
    have hlx:=(HKM2.out.below HBX.out).lt
    have HWI:=Lib.hid (HWIT.out w5 (HB0.out _ HBX.out) fi HRK.out)
    clear HWIT
    go_wp2_with fail
    clear x0 x1 x2 x3 x4 x5 x6 hlx
    refine HWI.out.mono ?_
    rintro e w6 ⟨lv,rws,rfl,hra,hrm,hb6⟩
    obtain ⟨pl,cl,hlv,_,_⟩:=hra.1.form
    obtain ⟨nl,hnl⟩:=zo6F
    rw [hnl] at hlv
    subst hlv
    clear hnl
    have HRA5:=Lib.hid hra
    have HRM:=Lib.hid hrm
    have HFIN:=Lib.hid (HOTH.out w5 HBX.out w6 _ rws hra hb6)
    have hbx:=HBX.out.trans (hb6.mono HBX.out.size)
    clear HBX HWI
    have HBX:=Lib.hid hbx
    clear hb6 hbx hra hrm
    have hkz:=HKZ.out.below HBX.out
    have HZ:=Lib.hid hkz
    have zf:∀ i,w6.frozen? ⟨w1.heap.size,i,none⟩=false:=hkz.frozen
    have zl:=hkz.lt
    obtain ⟨z0,z1,z2,z3,z4,z5,z6⟩:=md_cells hkz
    clear hkz
    go_wp2
    obtain ⟨hk,hon⟩:=set_seven HZ.out (.string S.name) (.slice pc nc cc) (.slice pi ni ci) (.int .i64 S.limit) (.int .i64 S.parts) (.int .i64 S.by_) (.slice pl nl cl)
    generalize (((((((w6.setCell ⟨w1.heap.size,0,none⟩ (.string S.name)).setCell ⟨w1.heap.size,1,none⟩ (.slice pc nc cc)).setCell ⟨w1.heap.size,2,none⟩ (.slice pi ni ci)).setCell ⟨w1.heap.size,3,none⟩ (.int .i64 S.limit)).setCell ⟨w1.heap.size,4,none⟩ (.int .i64 S.parts)).setCell ⟨w1.heap.size,5,none⟩ (.int .i64 S.by_)).setCell ⟨w1.heap.size,6,none⟩ (.slice pl nl cl))=wE at *
    obtain ⟨m0,m1,m2,m3,m4,m5,m6⟩:=md_cells hk
    exact bodyPost_ret (v:=.tuple #[.agg #[.string S.name,.slice pc nc cc,.slice pi ni ci,.int .i64 S.limit,.int .i64 S.parts,.int .i64 S.by_,.slice pl nl cl],.int .i64 0]) zsZm rfl (⟨_,rws,by rw [updMd_4 z9se HFB.out HCB2.out,HMV.out],(HFIN.out _ hon).1,by rw [updMd_4 z9se HFB.out HCB2.out,HRM.out,HFI.out],(HFIN.out _ hon).2⟩)
theorem delMd_1 {S:SchV} {m:List (List AV)} {k:Key} (h:findM (kfS S) k m 0 < 0):delMd S m k=(m,8):=by unfold delMd;rw [if_pos h]
theorem delMd_2 {S:SchV} {m:List (List AV)} {k:Key} (h:¬ findM (kfS S) k m 0 < 0):delMd S m k=(withM (kfS S) m [] (findM (kfS S) k m 0) false,0):=by unfold delMd;rw [if_neg h]
theorem sl_none (w:World) (B:Nat→Prop) (sz:Nat):Sl w B sz (.slice none 0 0) 0 []:=⟨zPXO,Ones.nil,.inl ⟨none,0,rfl,rfl,zPXO,fun _=>rfl⟩⟩
theorem mdelete_any (w:World) (B:Nat→Prop) (S:SchV) (rv:Value) (rows:List RowV) (h:MdAt w B S rv rows) (hlen:rows.length≤1000) (k:Key) :
 Calls Tryz.prog 84 #[mdV S rv,.string (kb k)] w (MdOut w B S (delMd S (rows.map RowV.l) k)):=by
 have HFND:=Lib.hid (fun w4 (hb:Below w.heap.size w w4)=>mfind_any w4 B S rv rows (h.below hb) k)
 obtain ⟨kv,hkv⟩:∃ kv,kb k=kv:=⟨_,rfl⟩
 rw [hkv] at HFND ⊢
 clear hkv
 obtain ⟨fi,hfi⟩:∃ fi,findM (kfS S) k (rows.map RowV.l) 0=fi:=⟨_,rfl⟩
 rw [hfi] at HFND
 have HFI:=Lib.hid hfi
 have hti:=h.tight
 have HWIT:=Lib.hid (fun w4 (hb:Below w.heap.size w w4)=>mwith_any w4 (fun q=>B q∧q < w.heap.size) S rv rows (hti.below hb) hlen ⟨.slice none 0 0,[]⟩ (sl_none _ _ _) fi false (fun h=>by cases h))
 have HRA:=Lib.hid h.ra
 obtain ⟨⟨pc,nc,cc,hcv⟩,⟨pi,ni,ci,hiv⟩,⟨pr,cr,hrv,hcr1,hcr2⟩,hrf⟩:=h.forms
 have HRF:=Lib.hid hrf
 subst hrv
 have HCV:=Lib.hid hcv
 have HIV:=Lib.hid hiv
 simp only [mdV,hcv,hiv] at HFND HWIT
 rw [show mdV S (.slice pr rows.length cr)=.agg #[.string S.name,.slice pc nc cc,.slice pi ni ci,.int .i64 S.limit,.int .i64 S.parts,.int .i64 S.by_,.slice pr rows.length cr] by unfold mdV;rw [hcv,hiv]]
 have hal:=z0KE
 have hkm:=Blk.new w 34 [.string S.name,.slice pc nc cc,.slice pi ni ci,.int .i64 S.limit,.int .i64 S.parts,.int .i64 S.by_,.slice pr rows.length cr]
 obtain ⟨w1,hw1⟩:=zC8e
 rw [hw1] at hal
 have hkm:=zJ1I
 have HAL:=Lib.hid hal
 have HKM:=Lib.hid hkm
 obtain ⟨w2,hw2⟩:=zX17
 have hb12:=zXxX
 have hkz:=zTgR
 have HKM2:=Lib.hid (hkm.below hb12)
 have HKZ:=Lib.hid hkz
 have HB2:=Lib.hid (hal.trans (hb12.mono hal.size))
 have hzl:=zNTk
 have hzl0:=zi0R
 have HSAME:=Lib.hid (md_same (w1:=w1) HRA.out HB2.out hzl0)
 have HOTH:=Lib.hid (md_other (B:=B) HB2.out hzl0 hzl)
 have HB0:=ziR2
 have HMV:=zYQU
 clear h hti hrf hcv hiv hal hkm hkz hb12 hfi
 go_enter Tryz.func84,Tryz.ntmps84
 have HBX:=Lib.hid (Below.refl w2.heap.size w2)
 obtain ⟨x0,x1,x2,x3,x4,x5,x6⟩:=md_cells (HKM2.out.below HBX.out)
 have hlx:=(HKM2.out.below HBX.out).lt
 go_wp2_with fail
 clear hw1 hw2 x0 x1 x2 x3 x4 x5 x6
 refine (HFND.out w2 HB2.out).mono ?_
 rintro e w3 ⟨rfl,hb3⟩
 clear HBX
 have HBX:=Lib.hid hb3
 clear hb3 HFND
 by_cases hneg:fi < 0
 ·have HN:Hid (findM (kfS S) k (rows.map RowV.l) 0 < 0):=Lib.hid zz32
  have d1:decide (fi < 0)=true:=decide_eq_true hneg
  obtain ⟨x0,x1,x2,x3,x4,x5,x6⟩:=md_cells (HKM2.out.below HBX.out)
  have hlx:=(HKM2.out.below HBX.out).lt
  have hkz:=HKZ.out.below HBX.out
  have HZ:=Lib.hid hkz
  have zf:=zxiX
  have zl:=hkz.lt
  obtain ⟨z0,z1,z2,z3,z4,z5,z6⟩:=md_cells hkz
  clear hkz
  go_wp2
  obtain ⟨hk,hon⟩:=set_seven HZ.out (.string S.name) (.slice pc nc cc) (.slice pi ni ci) (.int .i64 S.limit) (.int .i64 S.parts) (.int .i64 S.by_) (.slice pr rows.length cr)
  generalize (((((((w3.setCell ⟨w1.heap.size,0,none⟩ (.string S.name)).setCell ⟨w1.heap.size,1,none⟩ (.slice pc nc cc)).setCell ⟨w1.heap.size,2,none⟩ (.slice pi ni ci)).setCell ⟨w1.heap.size,3,none⟩ (.int .i64 S.limit)).setCell ⟨w1.heap.size,4,none⟩ (.int .i64 S.parts)).setCell ⟨w1.heap.size,5,none⟩ (.int .i64 S.by_)).setCell ⟨w1.heap.size,6,none⟩ (.slice pr rows.length cr))=wE at *
  obtain ⟨m0,m1,m2,m3,m4,m5,m6⟩:=md_cells hk
  exact bodyPost_ret (v:=.tuple #[.agg #[.string S.name,.slice pc nc cc,.slice pi ni ci,.int .i64 S.limit,.int .i64 S.parts,.int .i64 S.by_,.slice pr rows.length cr],.int .i64 8]) zaSK rfl (⟨_,rows,by rw [delMd_1 HN.out,HMV.out],(HSAME.out _ HBX.out _ hon).1,by rw [delMd_1 HN.out],(HSAME.out _ HBX.out _ hon).2⟩)
 ·have HN:Hid (¬ findM (kfS S) k (rows.map RowV.l) 0 < 0):=Lib.hid zz32
  have d1:decide (fi < 0)=false:=decide_eq_false hneg
  obtain ⟨x0,x1,x2,x3,x4,x5,x6⟩:=md_cells (HKM2.out.below HBX.out)
  have hlx:=(HKM2.out.below HBX.out).lt
  have HWI:=Lib.hid (HWIT.out w3 (HB0.out _ HBX.out))
  clear HWIT
  go_wp2_with fail
  clear x0 x1 x2 x3 x4 x5 x6 hlx
  refine HWI.out.mono ?_
  rintro e w6 ⟨lv,rws,rfl,hra,hrm,hb6⟩
  obtain ⟨pl,cl,hlv,_,_⟩:=hra.1.form
  obtain ⟨nl,hnl⟩:=zo6F
  rw [hnl] at hlv
  subst hlv
  clear hnl
  have HRA5:=Lib.hid hra
  have HRM:=Lib.hid hrm
  have HFIN:=Lib.hid (HOTH.out w3 HBX.out w6 _ rws hra hb6)
  have hbx:=HBX.out.trans (hb6.mono HBX.out.size)
  clear HBX HWI
  have HBX:=Lib.hid hbx
  clear hb6 hbx hra hrm
  have hkz:=HKZ.out.below HBX.out
  have HZ:=Lib.hid hkz
  have zf:∀ i,w6.frozen? ⟨w1.heap.size,i,none⟩=false:=hkz.frozen
  have zl:=hkz.lt
  obtain ⟨z0,z1,z2,z3,z4,z5,z6⟩:=md_cells hkz
  clear hkz
  go_wp2
  obtain ⟨hk,hon⟩:=set_seven HZ.out (.string S.name) (.slice pc nc cc) (.slice pi ni ci) (.int .i64 S.limit) (.int .i64 S.parts) (.int .i64 S.by_) (.slice pl nl cl)
  generalize (((((((w6.setCell ⟨w1.heap.size,0,none⟩ (.string S.name)).setCell ⟨w1.heap.size,1,none⟩ (.slice pc nc cc)).setCell ⟨w1.heap.size,2,none⟩ (.slice pi ni ci)).setCell ⟨w1.heap.size,3,none⟩ (.int .i64 S.limit)).setCell ⟨w1.heap.size,4,none⟩ (.int .i64 S.parts)).setCell ⟨w1.heap.size,5,none⟩ (.int .i64 S.by_)).setCell ⟨w1.heap.size,6,none⟩ (.slice pl nl cl))=wE at *
  obtain ⟨m0,m1,m2,m3,m4,m5,m6⟩:=md_cells hk
  exact bodyPost_ret (v:=.tuple #[.agg #[.string S.name,.slice pc nc cc,.slice pi ni ci,.int .i64 S.limit,.int .i64 S.parts,.int .i64 S.by_,.slice pl nl cl],.int .i64 0]) zaSK rfl (⟨_,rws,by rw [delMd_2 z9se,HMV.out],(HFIN.out _ hon).1,by rw [delMd_2 z9se,HRM.out,HFI.out],(HFIN.out _ hon).2⟩)
theorem insMd_len (S:SchV) (m:List (List AV)) (row:List AV):(insMd S m row).1.length≤m.length+1:=by
 unfold insMd
 split
 ·simp
 ·split
  ·simp
  ·split
   ·simp
   ·simp [insM_len]
theorem insMd_ok {S:SchV} {m:List (List AV)} {row:List AV} (hm:∀ r∈m,RowOK S r) (hf:∀ a∈row,fit64 a.n):∀ r∈(insMd S m row).1,RowOK S r:=by
 unfold insMd
 split
 ·exact hm
 ·rename_i h1
  split
  ·exact hm
  ·split
   ·exact hm
   ·intro r hr
    rcases (mem_insM (kfS S) row m r).1 hr with rfl|hr
    ·exact ⟨zVKw,hf⟩
    ·exact hm r hr
structure LdSt (w3:World) (b2:Nat) (S:SchV) (Bq:Nat→Prop) (lv:Value) (rws:List RowV) (wr:World):Prop where
 blk:Blk wr b2 34 (mdC S lv)
 ra:RowsAt wr Bq lv rws
 ok:∀ r∈rws,RowOK S r.l
 only:Only (fun q=>q=b2) w3 wr
theorem ld_b1 {P:Prop} {n a b q:Nat} (h1:n≤a) (h2:a≤b) (h:((P∨n≤q)∧q < a)∨b≤q):P∨n≤q:=by
 rcases h with ⟨h,_⟩|h
 ·exact h
 ·exact .inr zTbe
theorem ld_b2 {P:Prop} {a b q:Nat} (h2:a < b) (h:(P∧q < a)∨b≤q):q≠a:=by
 rcases h with ⟨_,h⟩|h<;>omega
theorem agree2_alloc {a b:Nat} {w:World} (o:Obj) (ha:a < w.heap.size) (hb:b < w.heap.size):Agree (fun q=>q=a∨q=b) w (w.alloc o):=agree_alloc o fun k hk=>by rcases hk with rfl|rfl<;>assumption
theorem agree2_below {a b n:Nat} {w w':World} (h:Below n w w') (ha:a < n) (hb:b < n):Agree (fun q=>q=a∨q=b) w w':=fun q o hq=>h.cell zcbp
theorem mload_any (w:World) (B:Nat→Prop) (S:SchV) (rv:Value) (rows:List RowV) (h:MdAt w B S rv rows) (v2:Value) (rows2:List RowV) (hr2:RowsAt w B v2 rows2) (hl2:rows2.length≤1000) (hf2:∀ r∈rows2,∀ a∈r.l,fit64 a.n) :
 Calls Tryz.prog 85 #[mdV S rv,v2] w (MdOut w B S (loadMd S (rows2.map RowV.l))):=by
 obtain ⟨p2,c2,hv2,hc21,hc22⟩:=hr2.1.form
 subst hv2
 have HF2:=Lib.hid hf2
 have HR2:=Lib.hid hr2
 have HSC:=Lib.hid h.sch
 have HRI:=Lib.hid h.right
 obtain ⟨⟨pc,nc,cc,hcv⟩,⟨pi,ni,ci,hiv⟩,⟨pr,cr,hrv,hcr1,hcr2⟩,hrf⟩:=h.forms
 have HRF:=Lib.hid hrf
 subst hrv
 have HCV:=Lib.hid hcv
 have HIV:=Lib.hid hiv
 have HRF2:Hid (∀ r∈rows2,∃ p n c,r.v=.slice p n c):=Lib.hid fun r hr=>by
  obtain ⟨p,c,h1,_⟩:=(HR2.out.2 r hr).form
  exact ⟨p,_,c,h1⟩
 have HMV:=zYQU
 have HMC:=zVSb
 rw [show mdV S (.slice pr rows.length cr)=.agg #[.string S.name,.slice pc nc cc,.slice pi ni ci,.int .i64 S.limit,.int .i64 S.parts,.int .i64 S.by_,.slice pr rows.length cr] by unfold mdV;rw [hcv,hiv]]
 obtain ⟨fm,hfm⟩:∃ fm,loadMd S (rows2.map RowV.l)=fm:=⟨_,rfl⟩
 rw [hfm]
 have HFM:Hid (loadGo S [] (rows2.map RowV.l)=fm):=hfm
 have hal:=z0KE
 have hkm:=Blk.new w 34 [.string S.name,.slice pc nc cc,.slice pi ni ci,.int .i64 S.limit,.int .i64 S.parts,.int .i64 S.by_,.slice pr rows.length cr]
 obtain ⟨w1,hw1⟩:=zC8e
 rw [hw1] at hal
 have hkm:=zJ1I
 have HAL:=Lib.hid hal
 have HKM:=Lib.hid hkm
 obtain ⟨w2,hw2⟩:=zX17
 have hb12:=zXxX
 have hkz:=zTgR
 have HKM2:=Lib.hid (hkm.below hb12)
 have HKZ:=Lib.hid hkz
 have HB2:=Lib.hid (hal.trans (hb12.mono hal.size))
 have hzl:=zNTk
 have hzl0:=zi0R
 obtain ⟨w3,hw3⟩:∃ w3,w2.alloc (.cells #[.string S.name,.slice pc nc cc,.slice pi ni ci,.int .i64 S.limit,.int .i64 S.parts,.int .i64 S.by_,.slice none 0 0] 34)=w3:=⟨_,rfl⟩
 have hb23:=zUeY
 have ho3:Blk w3 w2.heap.size 34 (mdC S (.slice none 0 0)):=by rw [HMC.out,←hw3];exact Blk.new w2 _ _
 have hzl3:w2.heap.size+1≤w3.heap.size:=ho3.lt
 have HB23:=Lib.hid hb23
 have HO3:=Lib.hid ho3
 have HKM3:=Lib.hid (HKM2.out.below hb23)
 have HKZ3:=Lib.hid (HKZ.out.below hb23)
 have hz2:=HB2.out.size
 have HBW:Hid (∀ wr,Only (fun q=>q=w2.heap.size) w3 wr→Below w.heap.size w wr):=Lib.hid fun wr ho=>(HB2.out.trans (HB23.out.mono HB2.out.size)).trans (ho.below zTbe (fun q hq=>zTbe))
 have HW3:Hid (LdSt w3 w2.heap.size S (fun q=>(B q∧q < w.heap.size)∨w3.heap.size≤q) (.slice none 0 0) [] w3):=Lib.hid ⟨HO3.out,⟨sl_none _ _ _,fun r hr=>absurd hr zPXO⟩,fun r hr=>absurd hr zPXO,Only.refl _ _⟩
 have HMD:Hid (∀ lv rws wr,LdSt w3 w2.heap.size S (fun q=>(B q∧q < w.heap.size)∨w3.heap.size≤q) lv rws wr→MdAt wr (fun q=>((B q∧q < w.heap.size)∨w3.heap.size≤q)∧q < wr.heap.size) S lv rws):=Lib.hid fun lv rws wr hst=>by
  have hbw:=HBW.out wr hst.only
  exact MdAt.tight ⟨HSC.out.to hbw.size (fun k _ hl=>hbw.block k hl) (fun k hk hl=>.inl ⟨hk,hl⟩),HRI.out,hst.ra,hst.ok⟩
 have HROW:Hid (∀ wr,Only (fun q=>q=w2.heap.size) w3 wr→∀ r∈rows2,Sl wr (fun q=>((B q∧q < w.heap.size)∨w3.heap.size≤q)∧q < wr.heap.size) 3 r.v r.l.length (rowCells r.l)):=Lib.hid fun wr ho r hr=>by
  have hbw:=HBW.out wr ho
  exact (HR2.out.2 r hr).mono hbw.size (fun k _ hl=>hbw.block k hl) (fun k hk hl=>⟨.inl ⟨hk,hl⟩,by have:=hbw.size;omega⟩)
 have HW3E:=Lib.hid hw3
 clear h hrf hcv hiv hal hkm hkz hb12 hfm hr2 hf2 hb23 ho3 hw3
 go_enter Tryz.func85,Tryz.ntmps85
 have HBX:=Lib.hid (Below.refl w2.heap.size w2)
 obtain ⟨x0,x1,x2,x3,x4,x5,x6⟩:=md_cells (HKM2.out.below HBX.out)
 have hlx:=(HKM2.out.below HBX.out).lt
 go_wp2
 rw [HW3E.out]
 clear hw1 hw2 x0 x1 x2 x3 x4 x5 x6 hlx HBX
 go_loopw [7] (fun i wr=>∃ (j:Nat) (lv:Value) (rws:List RowV),i=.int .i64 j∧j≤rows2.length∧rws.length≤j∧LdSt w3 w2.heap.size S (fun q=>(B q∧q < w.heap.size)∨w3.heap.size≤q) lv rws wr∧loadGo S (rws.map RowV.l) ((rows2.drop j).map RowV.l)=fm) (fun i _=>rows2.length - (intOf i).toNat)
 case atStart=>exact ⟨0,_,[],rfl,Nat.zero_le _,Nat.le_refl _,HW3.out,HFM.out⟩
 case round =>
  obtain ⟨j,lv,rws,rfl,hj,hlj,hst,hlg⟩:=hrel
  have HST:=Lib.hid hst
  obtain ⟨pl,cl,hlv,_,_⟩:=hst.ra.1.form
  obtain ⟨nl,hnl⟩:=zo6F
  rw [hnl] at hlv
  subst hlv
  have hbw:=HBW.out _ hst.only
  have HBWR:=Lib.hid hbw
  obtain ⟨y0,y1,y2,y3,y4,y5,y6⟩:=md_cells (HMC.out _▸hst.blk)
  have hly:=hst.blk.lt
  have hsz:=hst.only.size
  by_cases hjl:j < rows2.length
  ·obtain ⟨gr,or_,cpr,hvr,ek⟩:=(HR2.out.below hbw).at hjl
   cases hvr
   have hgr:=World.block_lt_of_cell? _ _ ek
   have hmk:rows2[j]∈rows2:=List.getElem_mem hjl
   obtain ⟨px,nx,cx,hxv⟩:=HRF2.out _ hmk
   have HROWJ:=Lib.hid (HROW.out _ hst.only _ hmk)
   have HF:=Lib.hid (HF2.out _ hmk)
   have HMDJ:=Lib.hid (HMD.out _ _ _ hst)
   rw [hxv] at ek
   rw [List.drop_eq_getElem_cons hjl,List.map_cons,loadGo] at hlg
   have HXV:=Lib.hid hxv
   generalize rows2[j]=rj at *
   have HIN:Hid (∀ w4,Below wr.heap.size wr w4→Calls Tryz.prog 82 #[mdV S (.slice pl nl cl),rj.v] w4 (MdOut w4 (fun q=>((B q∧q < w.heap.size)∨w3.heap.size≤q)∧q < wr.heap.size) S (insMd S (rws.map RowV.l) rj.l))):=Lib.hid fun w4 hb=>minsert_any w4 _ S _ rws (HMDJ.out.below hb) zTbe rj (HROWJ.out.below hb) HF.out
   rw [HMV.out,HXV.out] at HIN
   have hmo:=insMd_len S (rws.map RowV.l) rj.l
   have hmk2:=insMd_ok (S:=S) (m:=rws.map RowV.l) (row:=rj.l) (fun r hr=>by obtain ⟨x,hx,rfl⟩:=List.mem_map.1 hr;exact hst.ok x hx) HF.out
   rw [List.length_map,hnl] at hmo
   generalize insMd S (rws.map RowV.l) rj.l=mo at *
   obtain ⟨mo,code⟩:=mo
   simp only at hlg hmo hmk2
   have HLG:=Lib.hid hlg
   have HMK:=Lib.hid hmk2
   have HMO:=Lib.hid hmo
   have HNL:=Lib.hid hnl
   clear hst hbw hlg hmk hxv hmo hmk2 hnl
   go_upto_region 5 with fail
   go_cut [8,9] (fun t8 t9 wc=>t9=.int .i64 code∧∃ b8 lv2 rws2,t8=.pointer (some ⟨b8,0,none⟩)∧Blk wc b8 34 (mdC S lv2)∧RowsAt wc (fun q=>((B q∧q < w.heap.size)∨w3.heap.size≤q)∧q≠b8) lv2 rws2∧rws2.map RowV.l=mo∧wr.heap.size≤b8∧Below wr.heap.size wr wc)
   case first =>
    have d0:wr.drew.cell? ⟨w2.heap.size,0,none⟩=some (.string S.name):=y0
    have d1:wr.drew.cell? ⟨w2.heap.size,1,none⟩=some (.slice pc nc cc):=y1
    have d2:wr.drew.cell? ⟨w2.heap.size,2,none⟩=some (.slice pi ni ci):=y2
    have d3:wr.drew.cell? ⟨w2.heap.size,3,none⟩=some (.int .i64 S.limit):=y3
    have d4:wr.drew.cell? ⟨w2.heap.size,4,none⟩=some (.int .i64 S.parts):=y4
    have d5:wr.drew.cell? ⟨w2.heap.size,5,none⟩=some (.int .i64 S.by_):=y5
    have d6:wr.drew.cell? ⟨w2.heap.size,6,none⟩=some (.slice pl nl cl):=y6
    have dek:=zk1i
    have hd:Below wr.heap.size wr wr.drew:=(Below.refl _ _).drew
    have ha:=zRAR
    have H1:=Lib.hid (HIN.out _ hd)
    have H2:=Lib.hid (HIN.out _ ha)
    have hag0:Agree (fun q=>q=w2.heap.size∨q=gr) wr.drew (wr.alloc (.cells #[.string ⟨#[]⟩,.slice none 0 0,.slice none 0 0,.int .i64 0,.int .i64 0,.int .i64 0,.slice none 0 0] 34)).drew:=agree2_alloc (w:=wr) _ hly hgr
    have HD:=Lib.hid hd
    have HA:=Lib.hid ha
    have HZD:=Lib.hid hd.size
    have HZA:=zYYc
    have HKB:=z062
    clear hd ha HIN y0 y1 y2 y3 y4 y5 y6 ek
    refine wp_region_lit_plans [5,6,7,8,9,10] [[(1,0),(2,0),(3,0),(0,2),(4,2),(5,4),(6,0),(7,0),(8,0),(9,3),(10,4),(11,0)],[(1,0),(2,0),(3,0),(0,2),(4,2),(5,4),(6,0),(7,0),(9,3),(8,0),(10,4),(11,0)],[(1,0),(2,0),(3,0),(0,2),(4,2),(5,4),(6,0),(7,0),(9,3),(10,4),(8,0),(11,0)],[(1,0),(2,0),(3,0),(0,2),(4,2),(5,4),(6,0),(8,0),(7,0),(9,3),(10,4),(11,0)],[(1,0),(2,0),(3,0),(0,2),(4,2),(5,4),(6,0),(8,0),(9,3),(7,0),(10,4),(11,0)],[(1,0),(2,0),(3,0),(0,2),(4,2),(5,4),(6,0),(9,3),(7,0),(8,0),(10,4),(11,0)],[(1,0),(2,0),(3,0),(0,2),(4,2),(5,4),(6,0),(9,3),(7,0),(10,4),(8,0),(11,0)],[(1,0),(2,0),(3,0),(0,2),(4,2),(5,4),(6,0),(9,3),(8,0),(7,0),(10,4),(11,0)],[(1,0),(2,0),(3,0),(0,2),(4,2),(5,4),(9,3),(6,0),(7,0),(8,0),(10,4),(11,0)],[(1,0),(2,0),(3,0),(0,2),(4,2),(5,4),(9,3),(6,0),(7,0),(10,4),(8,0),(11,0)],[(1,0),(2,0),(3,0),(0,2),(4,2),(5,4),(9,3),(6,0),(8,0),(7,0),(10,4),(11,0)],[(1,0),(2,0),(3,0),(0,2),(4,2),(9,3),(5,4),(6,0),(7,0),(8,0),(10,4),(11,0)],[(1,0),(2,0),(3,0),(0,2),(4,2),(9,3),(5,4),(6,0),(7,0),(10,4),(8,0),(11,0)],[(1,0),(2,0),(3,0),(0,2),(4,2),(9,3),(5,4),(6,0),(8,0),(7,0),(10,4),(11,0)]] (fun q=>q=w2.heap.size∨q=gr) zyVB zyVB (fun c a d v w h=>zx0I) ?_;refine ⟨?_,?_,?_,?_,?_,?_,?_,?_,?_,?_,?_,?_,?_,?_,trivial⟩
    all_goals
     go_wp2_with (first
      | (refine stp ?_)
      | (go_at_call 82;(with_reducible refine H1.out.mono ?_);rintro e w5 ⟨lv2,rws2,rfl,hra,hrm,hb5⟩;obtain ⟨p5,c5,hlv5,_,_⟩:=hra.1.form;obtain ⟨n5,hn5⟩:∃ n5,rws2.length=n5:=⟨_,rfl⟩;rw [hn5] at hlv5;subst hlv5;rw [HMV.out];have HRA5:=Lib.hid hra;have HRM5:=Lib.hid hrm;have hag5:=agree2_alloc (w:=w5) (.cells #[.string ⟨#[]⟩,.slice none 0 0,.slice none 0 0,.int .i64 0,.int .i64 0,.int .i64 0,.slice none 0 0] 34) (Nat.lt_of_lt_of_le hly (HD.out.trans (Below.mono hb5 HD.out.size)).size) (Nat.lt_of_lt_of_le hgr (HD.out.trans (Below.mono hb5 HD.out.size)).size);have HB5:=Lib.hid (HD.out.trans (hb5.mono HD.out.size));clear hra hrm hb5 hn5 H2 HKB)
      | (go_at_call 82;(with_reducible refine H2.out.mono ?_);rintro e w5 ⟨lv2,rws2,rfl,hra,hrm,hb5⟩;obtain ⟨p5,c5,hlv5,_,_⟩:=hra.1.form;obtain ⟨n5,hn5⟩:∃ n5,rws2.length=n5:=⟨_,rfl⟩;rw [hn5] at hlv5;subst hlv5;rw [HMV.out];have hkb:=HKB.out.below hb5;have HK5:=Lib.hid hkb;obtain ⟨z0,z1,z2,z3,z4,z5,z6⟩:=md_cells hkb;have zf:∀ i,w5.frozen? ⟨wr.heap.size,i,none⟩=false:=hkb.frozen;have HRA5:=Lib.hid hra;have HRM5:=Lib.hid hrm;have hag5:=agree2_below hb5 (Nat.lt_trans hly HZA.out) (Nat.lt_trans hgr HZA.out);have HB5:=Lib.hid (HA.out.trans (hb5.mono HA.out.size));clear hra hrm hb5 hn5 hkb H1))
     go_meet
     first
      | (have hk5:=HK5.out
         clear hk5
         obtain ⟨hk,hon⟩:=set_seven HK5.out (.string S.name) (.slice pc nc cc) (.slice pi ni ci) (.int .i64 S.limit) (.int .i64 S.parts) (.int .i64 S.by_) (.slice p5 n5 c5)
         generalize (((((((w5.setCell ⟨wr.heap.size,0,none⟩ (.string S.name)).setCell ⟨wr.heap.size,1,none⟩ (.slice pc nc cc)).setCell ⟨wr.heap.size,2,none⟩ (.slice pi ni ci)).setCell ⟨wr.heap.size,3,none⟩ (.int .i64 S.limit)).setCell ⟨wr.heap.size,4,none⟩ (.int .i64 S.parts)).setCell ⟨wr.heap.size,5,none⟩ (.int .i64 S.by_)).setCell ⟨wr.heap.size,6,none⟩ (.slice p5 n5 c5))=wE at *
         exact ⟨rfl,wr.heap.size,.slice p5 n5 c5,rws2,rfl,zR0f,HRA5.out.to hon.size (fun k hk hl=>hon.block k hl (ld_b2 HZA.out hk)) (fun k hk hl=>⟨ld_b1 hsz (Nat.le_of_lt HZA.out) hk,ld_b2 HZA.out hk⟩),HRM5.out,Nat.le_refl _,HB5.out.trans (hon.below HB5.out.size (fun q hq=>zTbe))⟩)
      | skip
     all_goals
      have hal5:Below w5.heap.size w5 (w5.alloc (.cells #[.string S.name,.slice pc nc cc,.slice pi ni ci,.int .i64 S.limit,.int .i64 S.parts,.int .i64 S.by_,.slice p5 n5 c5] 34)):=(Below.refl _ _).alloc (Nat.le_refl _) _
      have hw5:=HB5.out.size
      exact ⟨rfl,w5.heap.size,.slice p5 n5 c5,rws2,rfl,by rw [HMC.out];exact Blk.new w5 _ _,HRA5.out.to hal5.size (fun k _ hl=>hal5.block k hl) (fun k hk hl=>⟨ld_b1 hsz HZD.out hk,zTbe⟩),HRM5.out,hw5,HB5.out.trans (hal5.mono hw5)⟩
   case rest =>
    obtain ⟨rfl,b8,lv2,rws2,rfl,hk8,hra8,hrm8,hb8,hbw8⟩:=hcut
    obtain ⟨p8,c8,hlv8,_,_⟩:=hra8.1.form
    obtain ⟨n8,hn8⟩:∃ n8,rws2.length=n8:=⟨_,rfl⟩
    rw [hn8] at hlv8
    subst hlv8
    have HN8:=Lib.hid hn8
    have HRA8:=Lib.hid hra8
    have HRM8:=Lib.hid hrm8
    have HBW8:=Lib.hid hbw8
    have HOW:Hid (Only (fun q=>q=w2.heap.size) w3 wc):=Lib.hid (HST.out.only.trans (Only.of_none (S:=fun _=>False) hbw8) (fun _ _ h=>h.elim))
    have hkz:=(HKZ3.out.only HOW.out zTbe)
    have hkm:=(HKM3.out.only HOW.out zTbe)
    have HKO:=Lib.hid (HST.out.blk.below hbw8)
    by_cases hc0:code=0
    ·have HC0:=Lib.hid hc0
     subst hc0
     have hko:=(HMC.out _▸HKO.out:Blk wc w2.heap.size 34 [.string S.name,.slice pc nc cc,.slice pi ni ci,.int .i64 S.limit,.int .i64 S.parts,.int .i64 S.by_,.slice pl nl cl])
     have HKO2:=Lib.hid hko
     obtain ⟨x0,x1,x2,x3,x4,x5,x6⟩:=md_cells (HMC.out _▸hk8)
     obtain ⟨z0,z1,z2,z3,z4,z5,z6⟩:=md_cells hko
     have zf:∀ i,wc.frozen? ⟨w2.heap.size,i,none⟩=false:=hko.frozen
     have zl:=hko.lt
     clear hk8 hra8 hrm8 hbw8 hkz hkm hko hn8 y0 y1 y2 y3 y4 y5 y6
     go_wp2
     obtain ⟨hk,hon⟩:=set_seven HKO2.out (.string S.name) (.slice pc nc cc) (.slice pi ni ci) (.int .i64 S.limit) (.int .i64 S.parts) (.int .i64 S.by_) (.slice p8 n8 c8)
     generalize (((((((wc.setCell ⟨w2.heap.size,0,none⟩ (.string S.name)).setCell ⟨w2.heap.size,1,none⟩ (.slice pc nc cc)).setCell ⟨w2.heap.size,2,none⟩ (.slice pi ni ci)).setCell ⟨w2.heap.size,3,none⟩ (.int .i64 S.limit)).setCell ⟨w2.heap.size,4,none⟩ (.int .i64 S.parts)).setCell ⟨w2.heap.size,5,none⟩ (.int .i64 S.by_)).setCell ⟨w2.heap.size,6,none⟩ (.slice p8 n8 c8))=wE at *
     have HKE:=Lib.hid hk
     have HON:=Lib.hid hon
     clear hk hon z0 z1 z2 z3 z4 z5 z6 zf zl x0 x1 x2 x3 x4 x5 x6
     go_roundw
     case rel =>
      refine ⟨j+1,_,rws2,z3KH,zTbe,?_,⟨by rw [HMC.out];exact HKE.out,HRA8.out.to HON.out.size (fun k hk hl=>HON.out.block k hl ?_) (fun k hk _=>hk.1),?_,HOW.out.trans HON.out (fun _ _ h=>h)⟩,?_⟩
      ·have:=HMO.out
       have h2:=congrArg List.length HRM8.out
       rw [List.length_map] at h2
       have:=HNL.out
       omega
      ·rcases hk with ⟨⟨_,hk⟩|hk,_⟩<;>omega
      ·intro r hr
       exact HMK.out r.l (by rw [←HRM8.out];exact List.mem_map_of_mem hr)
      ·rw [HRM8.out,←HLG.out];simp
     case measure=>(simp [intOf])<;>omega
    ·have e0:(code == 0)=false:=beq_eq_false_iff_ne.2 hc0
     have e1:(code != 0)=true:=by rw [bne,e0];rfl
     have HC0:=Lib.hid hc0
     have HZ:=Lib.hid hkz
     obtain ⟨x0,x1,x2,x3,x4,x5,x6⟩:=md_cells hkm
     obtain ⟨z0,z1,z2,z3,z4,z5,z6⟩:=md_cells hkz
     have zf:∀ i,wc.frozen? ⟨w1.heap.size,i,none⟩=false:=hkz.frozen
     have zl:=hkz.lt
     clear hc0 hk8 hra8 hrm8 hbw8 hkz hkm hn8 y0 y1 y2 y3 y4 y5 y6
     go_wp2
     obtain ⟨hk,hon⟩:=set_seven HZ.out (.string S.name) (.slice pc nc cc) (.slice pi ni ci) (.int .i64 S.limit) (.int .i64 S.parts) (.int .i64 S.by_) (.slice none 0 0)
     generalize (((((((wc.setCell ⟨w1.heap.size,0,none⟩ (.string S.name)).setCell ⟨w1.heap.size,1,none⟩ (.slice pc nc cc)).setCell ⟨w1.heap.size,2,none⟩ (.slice pi ni ci)).setCell ⟨w1.heap.size,3,none⟩ (.int .i64 S.limit)).setCell ⟨w1.heap.size,4,none⟩ (.int .i64 S.parts)).setCell ⟨w1.heap.size,5,none⟩ (.int .i64 S.by_)).setCell ⟨w1.heap.size,6,none⟩ (.slice none 0 0))=wE at *
     obtain ⟨m0,m1,m2,m3,m4,m5,m6⟩:=md_cells hk
     have hfm:fm=([],code):=by rw [←HLG.out,if_pos HC0.out]
     have hbE:=(HBW.out _ HOW.out).trans (hon.below (HBW.out _ HOW.out).size (fun q hq=>zTbe))
     exact bodyPost_ret (v:=.tuple #[.agg #[.string S.name,.slice pc nc cc,.slice pi ni ci,.int .i64 S.limit,.int .i64 S.parts,.int .i64 S.by_,.slice none 0 0],.int .i64 code]) z8hY rfl ⟨_,[],by rw [hfm,HMV.out],⟨sl_none _ _ _,fun r hr=>by cases hr⟩,by rw [hfm];rfl,hbE⟩
  ·obtain rfl:j=rows2.length:=by omega
   rw [List.drop_length] at hlg
   have hfm:fm=(rws.map RowV.l,0):=hlg.symm
   have HFE:=Lib.hid hfm
   have hkz:=(HKZ3.out.only hst.only zTbe)
   have HZ:=Lib.hid hkz
   obtain ⟨z0,z1,z2,z3,z4,z5,z6⟩:=md_cells hkz
   have zf:∀ i,wr.frozen? ⟨w1.heap.size,i,none⟩=false:=hkz.frozen
   have zl:=hkz.lt
   clear hst hbw hlg hfm hkz hnl
   go_wp2
   obtain ⟨hk,hon⟩:=set_seven HZ.out (.string S.name) (.slice pc nc cc) (.slice pi ni ci) (.int .i64 S.limit) (.int .i64 S.parts) (.int .i64 S.by_) (.slice pl nl cl)
   generalize (((((((wr.setCell ⟨w1.heap.size,0,none⟩ (.string S.name)).setCell ⟨w1.heap.size,1,none⟩ (.slice pc nc cc)).setCell ⟨w1.heap.size,2,none⟩ (.slice pi ni ci)).setCell ⟨w1.heap.size,3,none⟩ (.int .i64 S.limit)).setCell ⟨w1.heap.size,4,none⟩ (.int .i64 S.parts)).setCell ⟨w1.heap.size,5,none⟩ (.int .i64 S.by_)).setCell ⟨w1.heap.size,6,none⟩ (.slice pl nl cl))=wE at *
   obtain ⟨m0,m1,m2,m3,m4,m5,m6⟩:=md_cells hk
   have hbE:=HBWR.out.trans (hon.below HBWR.out.size (fun q hq=>zTbe))
   exact bodyPost_ret (v:=.tuple #[.agg #[.string S.name,.slice pc nc cc,.slice pi ni ci,.int .i64 S.limit,.int .i64 S.parts,.int .i64 S.by_,.slice pl nl cl],.int .i64 0]) z8hY rfl ⟨_,rws,by rw [HFE.out,HMV.out],HST.out.ra.to hon.size (fun k hk hl=>hon.block k hl (by rcases hk with ⟨_,hk⟩|hk<;>omega)) (fun k hk _=>by
    rcases hk with ⟨hk,_⟩|hk
    ·exact .inl hk
    ·exact .inr zTbe),by rw [HFE.out],hbE⟩
theorem insBy_at {α:Type} (kf:Nat→α→Key) (i:Nat) (row:α):∀ (l:List α) (p:Nat),p≤l.length→(∀ k,∀ h:k < l.length,k < p→Op.bytesLess (kf i l[k]) (kf i row)=true)→(∀ h:p < l.length,Op.bytesLess (kf i l[p]) (kf i row)=false)→insBy kf i row l=l.take p++row::l.drop p
 | [],p,_,_,_=>by simp [insBy]
 | x::t,0,_,_,h=>by
  have h1:=h zPXO
  simp only [List.getElem_cons_zero] at h1
  rw [insBy,if_neg (by rw [h1];simp)]
  rfl
 | x::t,p+1,hp,h1,h2=>by
  have h3:=h1 0 zPXO zTbe
  simp only [List.getElem_cons_zero] at h3
  rw [insBy,if_pos h3,insBy_at kf i row t p (by simpa using hp) (fun k hk hkp=>h1 (k+1) zFJU zTbe) (fun hk=>h2 zFJU)]
  rfl
theorem shift_set {α:Type} (l:List α) (x:α) (k1:Nat) (h:k1 < l.length):(l.take (k1+1)++x::l.drop (k1+1)).set (k1+1) l[k1]=l.take k1++l[k1]::l.drop k1:=by
 have h1:(l.take (k1+1)).length=k1+1:=z2Pg
 rw [List.set_append_right _ _ zTbe,h1,Nat.sub_self,List.set_cons_zero,List.drop_eq_getElem_cons h,←List.take_append_getElem h,List.append_assoc]
 rfl
theorem put_set {α:Type} (l:List α) (x y:α) (k:Nat) (h:k≤l.length):(l.take k++x::l.drop k).set k y=l.take k++y::l.drop k:=by
 have h1:(l.take k).length=k:=z2Pg
 rw [List.set_append_right _ _ zTbe,h1,Nat.sub_self,List.set_cons_zero]
theorem at_take {α:Type} (l:List α) (x:α) (k1:Nat) (h:k1 < l.length):(l.take (k1+1)++x::l.drop (k1+1))[k1]?=some l[k1]:=by
 rw [List.getElem?_append_left z2Pg,List.getElem?_take_of_lt zTbe,List.getElem?_eq_getElem h]
theorem at_mid {α:Type} (l:List α) (x:α) (k:Nat) (h:k≤l.length):(l.take k++x::l.drop k)[k]?=some x:=by
 have h1:(l.take k).length=k:=z2Pg
 rw [List.getElem?_append_right zTbe,h1,Nat.sub_self]
 rfl
theorem rowVals_put (l:List RowV) (r:RowV) (p:Nat):(rowVals l).take p++r.v::(rowVals l).drop p=rowVals (l.take p++r::l.drop p):=by
 unfold rowVals;simp
theorem by_put (l:List RowV) (r:RowV) (p:Nat):(l.take p++r::l.drop p).map RowV.l=(l.map RowV.l).take p++r.l::(l.map RowV.l).drop p:=zPXO
theorem mby_any (w:World) (B:Nat→Prop) (S:SchV) (rv:Value) (rows:List RowV) (h:MdAt w B S rv rows) (hlen:rows.length≤1000) (i:Nat) (hi:i < S.idx.length) :
 Calls Tryz.prog 16 #[mdV S rv,.int .i64 (i:Int)] w fun e w'=>∃ v rws,e=.returned v∧RowsAt w' (fun q=>B q∨w.heap.size≤q) v rws∧rws.map RowV.l=byM (kfS S) i (rows.map RowV.l)∧Below w.heap.size w w':=by
 have hkey:=fun w2 hb r hr=>h.key w2 hb i hi r hr
 have HRA:=Lib.hid h.ra
 obtain ⟨⟨pc,nc,cc,hcv⟩,⟨pi,ni,ci,hiv⟩,⟨pr,cr,hrv,hcr1,hcr2⟩,hrf⟩:=h.forms
 have HRF:=Lib.hid hrf
 subst hrv
 simp only [SchV.agg,hcv,hiv] at hkey
 have HKEY:=Lib.hid hkey
 simp only [mdV,hcv,hiv]
 obtain ⟨fm,hfm⟩:∃ fm,byM (kfS S) i (rows.map RowV.l)=fm:=⟨_,rfl⟩
 rw [hfm]
 have HFM:Hid ((rows.map RowV.l).foldl (fun l r=>insBy (kfS S) i r l) []=fm):=hfm
 have hal:=z0KE
 have hkm:=Blk.new w 34 [.string S.name,.slice pc nc cc,.slice pi ni ci,.int .i64 S.limit,.int .i64 S.parts,.int .i64 S.by_,.slice pr rows.length cr]
 obtain ⟨w1,hw1⟩:=zC8e
 rw [hw1] at hal
 have hkm:=zJ1I
 have HAL:=Lib.hid hal
 have HKM:=Lib.hid hkm
 have hz1:=hal.size
 clear h hkey hrf hcv hiv hfm hal hkm hi
 go_enter Tryz.func16,Tryz.ntmps16
 go_wp2
 clear hw1
 go_loopw [5,6] (fun lv iv wr=>∃ (j:Nat) (rws:List RowV),iv=.int .i64 j∧j≤rows.length∧rws.length=j∧OutSt w1 lv rws wr∧(∀ r∈rws,r∈rows)∧((rows.drop j).map RowV.l).foldl (fun l r=>insBy (kfS S) i r l) (rws.map RowV.l)=fm) (fun _ iv _=>rows.length - (intOf iv).toNat)
 case atStart=>exact ⟨0,[],rfl,Nat.zero_le _,rfl,OutSt.nil (Below.refl _ _),zPXO,HFM.out⟩
 case round =>
  obtain ⟨j,rws,rfl,hj,hrl,hou,hmem,hf⟩:=hrel
  obtain ⟨wo,rfl⟩:=zDit
  obtain ⟨nl,hnl⟩:=zo6F
  have HOU:=Lib.hid hou
  have HMEM:=Lib.hid hmem
  have HNL:=Lib.hid hnl
  obtain ⟨po,co,hvo,hc1,hc2⟩:=own_formT hou.own
  rw [hnl] at hvo hc1
  subst hvo
  have hbo:=hou.bel
  have HBO:=Lib.hid hbo
  have hnj:nl=j:=by rw [←hnl];exact hrl
  obtain ⟨x0,x1,x2,x3,x4,x5,x6⟩:=md_cells (HKM.out.below hbo)
  have hlx:=(HKM.out.below hbo).lt
  by_cases hkx:j < rows.length
  ·have hmk:rows[j]∈rows:=List.getElem_mem hkx
   obtain ⟨px,nx,cx,hxv⟩:=HRF.out _ hmk
   have HXV2:=Lib.hid hxv
   have HEK:Hid (∀ w4,Below w1.heap.size w1 w4→∃ gr or_,pr=some ⟨gr,or_,none⟩∧w4.cell? ⟨gr,or_+j,none⟩=some (.slice px nx cx)∧gr < w4.heap.size):=Lib.hid fun w4 hb=>by
    obtain ⟨g2,o2,c2,hv2,ek2⟩:=(HRA.out.below (HAL.out.trans (hb.mono HAL.out.size))).at hkx
    rw [HXV2.out] at ek2
    cases hv2
    exact ⟨g2,o2,rfl,ek2,World.block_lt_of_cell? _ _ ek2⟩
   have HKJ:=Lib.hid (fun w4 (hb:Below w1.heap.size w1 w4)=>HKEY.out w4 (HAL.out.trans (hb.mono HAL.out.size)) rows[j] hmk)
   rw [hxv] at HKJ
   rw [List.drop_eq_getElem_cons hkx,List.map_cons,List.foldl_cons] at hf
   have HF:=Lib.hid hf
   have HXV:=Lib.hid hxv
   have HMJ:=Lib.hid hmk
   generalize hrj:rows[j]=rj at HKJ HF HXV HMJ
   have hnl2:nl≤1000:=zTbe
   have HNJ:=Lib.hid hnj
   clear hou hmem hf hbo hmk hxv hnl hrl hrj hnj
   go_wp2
   clear x0 x1 x2 x3 x4 x5 x6 hlx
   go_loopw [7] (fun t7 wr=>∃ p:Nat,t7=.int .i64 p∧p≤nl∧(∀ k,∀ h:k < (rws.map RowV.l).length,k < p→Op.bytesLess (kfS S i (rws.map RowV.l)[k]) (kfS S i rj.l)=true)∧Below wo.heap.size wo wr) (fun t7 _=>nl - (intOf t7).toNat)
   case atStart=>exact ⟨0,rfl,Nat.zero_le _,fun _ _ h=>absurd h zTbe,Below.refl _ _⟩
   case round =>
    obtain ⟨p,rfl,hp,hless,hbw⟩:=hrel
    obtain ⟨wi,rfl⟩:∃ wi:World,wi=wr:=⟨_,rfl⟩
    have HLE:=Lib.hid hless
    have HBW:=Lib.hid hbw
    have hb1:=HBO.out.trans (hbw.mono HBO.out.size)
    have HB1:=Lib.hid hb1
    obtain ⟨gr,or_,hpr,ek,hgr⟩:=HEK.out _ hb1
    have HPR:=Lib.hid hpr
    by_cases hpn:p < nl
    ·have hpr2:p < rws.length:=by rw [HNL.out];exact hpn
     have hpm:p < (rws.map RowV.l).length:=by rw [List.length_map];exact hpr2
     have hme:=HMEM.out _ (List.getElem_mem hpr2)
     obtain ⟨pz,nz,cz,hzv⟩:=HRF.out _ hme
     have hoo:=HOU.out.own.below hbw
     rw [HNL.out] at hoo
     obtain ⟨gz,oz,cpz,hvz,_,_,_,hgz,ez⟩:=(hoo.sl (B:=fun _=>True) (fun _ _=>trivial)).place zTbe
     cases hvz
     have ezp:=ez p (by unfold rowVals;rw [List.length_map];exact hpr2)
     have hvp:(rowVals rws)[p]?=some rws[p].v:=by unfold rowVals;rw [List.getElem?_map,List.getElem?_eq_getElem hpr2];rfl
     rw [hvp,hzv] at ezp
     have hKP:=HKEY.out wi.drew (HAL.out.trans (hb1.drew.mono HAL.out.size)) rws[p] hme
     rw [hzv] at hKP
     have HKP:=Lib.hid hKP
     have hez:∃ bl,Op.bytesLess (kb (kfS S i rws[p].l)).toList (kb (kfS S i rj.l)).toList=bl∧Op.bytesLess (kfS S i (rws.map RowV.l)[p]) (kfS S i rj.l)=bl:=⟨_,rfl,by rw [kb_list,kb_list,List.getElem_map]⟩
     obtain ⟨bl,hbl,hbl2⟩:=hez
     generalize kb (kfS S i rws[p].l)=k1 at *
     generalize kb (kfS S i rj.l)=k2 at *
     have HBL:Hid (∀ h:p < (rws.map RowV.l).length,Op.bytesLess (kfS S i (rws.map RowV.l)[p]) (kfS S i rj.l)=bl):=Lib.hid fun _=>hbl2
     obtain ⟨x0,x1,x2,x3,x4,x5,x6⟩:=md_cells (HKM.out.below hb1)
     have hlx:=(HKM.out.below hb1).lt
     subst hpr
     have d0:wi.drew.cell? ⟨w.heap.size,0,none⟩=some (.string S.name):=x0
     have d1:wi.drew.cell? ⟨w.heap.size,1,none⟩=some (.slice pc nc cc):=x1
     have d2:wi.drew.cell? ⟨w.heap.size,2,none⟩=some (.slice pi ni ci):=x2
     have d3:wi.drew.cell? ⟨w.heap.size,3,none⟩=some (.int .i64 S.limit):=x3
     have d4:wi.drew.cell? ⟨w.heap.size,4,none⟩=some (.int .i64 S.parts):=x4
     have d5:wi.drew.cell? ⟨w.heap.size,5,none⟩=some (.int .i64 S.by_):=x5
     have d6:wi.drew.cell? ⟨w.heap.size,6,none⟩=some (.slice (some ⟨gr,or_,none⟩) rows.length cr):=x6
     have dek:wi.drew.cell? ⟨gr,or_+j,none⟩=some (.slice px nx cx):=ek
     have dez:wi.drew.cell? ⟨gz,oz+p,none⟩=some (.slice pz nz cz):=ezp
     have hlx2:w.heap.size < wi.drew.heap.size:=hlx
     have hgr2:gr < wi.drew.heap.size:=hgr
     have hgz2:gz < wi.drew.heap.size:=hgz
     have HAG:Hid (∀ w4,Below wi.drew.heap.size wi.drew w4→Agree (fun q=>q=w.heap.size∨q=gr∨q=gz) wi.drew w4):=Lib.hid fun w4 hb q o hq=>by
      refine hb.cell ?_
      rcases hq with rfl|rfl|rfl<;>assumption
     clear hless hbw hb1 hpr2 hpm hme hzv hoo ez ezp hvp hKP hbl2 x0 x1 x2 x3 x4 x5 x6 hlx ek hgr hgz
     cases bl with
     | true =>
      go_upto_region 6 with fail
      refine wp_region_lit_plan [] [(0,0),(1,0),(2,0),(3,0),(4,0),(5,0),(7,0),(8,0),(9,0),(10,0),(13,0),(15,0),(16,0),(18,0),(6,1),(11,1),(14,2),(17,2),(19,0),(20,2),(12,3),(21,4),(22,0),(23,0)] (fun q=>q=w.heap.size∨q=gr∨q=gz) zyVB zyVB (fun c a d v w h=>zx0I) ?_
      go_upto_region 7 with (first
       | (refine stp ?_)
       | (go_at_call 18;refine HKP.out.mono ?_;clear HKP;rintro e w3 ⟨rfl,hb3⟩;have hag3:=HAG.out _ hb3;have HB3:=Lib.hid (HB1.out.drew.trans (Below.mono hb3 HB1.out.size));have HB3w:=Lib.hid (HBW.out.drew.trans (Below.mono hb3 HBW.out.size));clear hb3)
       | (go_at_call 18;refine (HKJ.out _ HB3.out).mono ?_;clear HKJ;rintro e w4 ⟨rfl,hb4⟩;have HB4:=Lib.hid (HB3w.out.trans (hb4.mono HB3w.out.size));clear hb4))
      go_wp2
      go_roundw
      case rel=>exact ⟨p+1,z3KH,zTbe,fun k h hk=>by
       by_cases hkp:k=p
       ·subst hkp;exact HBL.out h
       ·exact HLE.out k h zTbe,HB4.out⟩
      case measure=>(simp [intOf])<;>omega
     | false =>
      go_upto_region 6 with fail
      refine wp_region_lit_plan [] [(0,0),(1,0),(2,0),(3,0),(4,0),(5,0),(7,0),(8,0),(9,0),(10,0),(13,0),(15,0),(16,0),(18,0),(6,1),(11,1),(14,2),(17,2),(19,0),(20,2),(12,3),(21,4),(22,0),(23,0)] (fun q=>q=w.heap.size∨q=gr∨q=gz) zyVB zyVB (fun c a d v w h=>zx0I) ?_
      go_upto_region 8 with (first
       | (refine stp ?_)
       | (go_at_call 18;refine HKP.out.mono ?_;clear HKP;rintro e w3 ⟨rfl,hb3⟩;have hag3:=HAG.out _ hb3;have HB3:=Lib.hid (HB1.out.drew.trans (Below.mono hb3 HB1.out.size));have HB3w:=Lib.hid (HBW.out.drew.trans (Below.mono hb3 HBW.out.size));clear hb3)
       | (go_at_call 18;refine (HKJ.out _ HB3.out).mono ?_;clear HKJ;rintro e w4 ⟨rfl,hb4⟩;have HBE:=Lib.hid (HB3w.out.trans (hb4.mono HB3w.out.size));clear hb4))
      have HP:=Lib.hid hp
      have HSP:Hid (insBy (kfS S) i rj.l (rws.map RowV.l)=(rws.map RowV.l).take p++rj.l::(rws.map RowV.l).drop p):=Lib.hid (insBy_at (kfS S) i rj.l (rws.map RowV.l) p (by rw [List.length_map,HNL.out];exact hp) HLE.out HBL.out)
      clear HLE HBL HAG hag3 HKEY d0 d1 d2 d3 d4 d5 d6 dek dez hlx2 hgr2 hgz2
      have hou:=HOU.out.below HBE.out
      have hoo:=hou.own
      rw [HNL.out] at hoo
      have ho1:=hoo.below ((Below.refl w4.heap.size w4).alloc (Nat.le_refl _) (.cells #[.slice none 0 0] 37))
      have hs1:=box1t w4 37 (.slice none 0 0) rfl
      have HOE:=Lib.hid hou
      clear hou hoo
      go_upto_region 9 with (at_builtin;refine wpList_app rfl _ _ rfl elemRowsT zdhv ho1 zdhv hs1 zefz zTbe ?_;intro v5 w5 g1 g2 g3 g4 g5;clear ho1 hs1)
      have hn5:∀ q,v5.ownBlock=some q→w1.heap.size≤q:=fun q hq=>by
       have hz1:=HOE.out.bel.size
       rcases g3 with h3|h3
       ·rw [h3] at hq;exact HOE.out.new q hq
       ·rw [h3] at hq
        have h4:=Option.some.inj hq
        rw [←h4]
        exact Nat.le_trans hz1 ((Below.refl w4.heap.size w4).alloc (Nat.le_refl _) _).size
      have hb5:Below w1.heap.size w1 w5:=HOE.out.bel.trans (((Below.refl w4.heap.size w4).alloc (Nat.le_refl _) _).mono HOE.out.bel.size |>.trans (g2.below (Nat.le_trans HOE.out.bel.size ((Below.refl w4.heap.size w4).alloc (Nat.le_refl _) _).size) (fun q hq=>HOE.out.new q hq)))
      exact zoJ7
    ·have hpe:p=nl:=by omega
     have HSP:Hid (insBy (kfS S) i rj.l (rws.map RowV.l)=(rws.map RowV.l).take p++rj.l::(rws.map RowV.l).drop p):=Lib.hid (insBy_at (kfS S) i rj.l (rws.map RowV.l) p (by rw [List.length_map,HNL.out];exact hp) HLE.out (fun h=>by rw [List.length_map,HNL.out] at h;omega))
     have HP:=Lib.hid hp
     clear hless hbw hb1 ek hgr hpr HKEY hpe
     go_upto_region 6 with fail
     refine wp_region_lit_plan [] [(0,0),(1,0),(2,0),(3,0),(4,0),(5,0),(7,0),(8,0),(9,0),(10,0),(13,0),(15,0),(16,0),(18,0),(6,1),(11,1),(14,2),(17,2),(19,0),(20,2),(12,3),(21,4),(22,0),(23,0)] (fun _=>False) zyVB zyVB (fun c a d v w h=>zx0I) ?_
     go_upto_region 8 with (first|(refine stp ?_))
     have HBE:=Lib.hid HBW.out.drew
     clear hpn
     have hou:=HOU.out.below HBE.out
     have hoo:=hou.own
     rw [HNL.out] at hoo
     have ho1:=hoo.below ((Below.refl wi.drew.heap.size wi.drew).alloc (Nat.le_refl _) (.cells #[.slice none 0 0] 37))
     have hs1:=box1t wi.drew 37 (.slice none 0 0) rfl
     have HOE:=Lib.hid hou
     clear hou hoo
     go_upto_region 9 with (at_builtin;refine wpList_app rfl _ _ rfl elemRowsT zdhv ho1 zdhv hs1 zefz zTbe ?_;intro v5 w5 g1 g2 g3 g4 g5;clear ho1 hs1)
     have hn5:∀ q,v5.ownBlock=some q→w1.heap.size≤q:=fun q hq=>by
      have hz1:=HOE.out.bel.size
      rcases g3 with h3|h3
      ·rw [h3] at hq;exact HOE.out.new q hq
      ·rw [h3] at hq
       have h4:=Option.some.inj hq
       rw [←h4]
       exact Nat.le_trans hz1 ((Below.refl wi.drew.heap.size wi.drew).alloc (Nat.le_refl _) _).size
     have hb5:Below w1.heap.size w1 w5:=HOE.out.bel.trans (((Below.refl wi.drew.heap.size wi.drew).alloc (Nat.le_refl _) _).mono HOE.out.bel.size |>.trans (g2.below (Nat.le_trans HOE.out.bel.size ((Below.refl wi.drew.heap.size wi.drew).alloc (Nat.le_refl _) _).size) (fun q hq=>HOE.out.new q hq)))
     exact zoJ7
  ·obtain rfl:j=rows.length:=by omega
   rw [List.drop_length] at hf
   have HF:Hid (rws.map RowV.l=fm):=Lib.hid hf
   clear hf hbo
   go_wp2
   go_ret
   have hb:=HAL.out.trans (HBO.out.mono HAL.out.size)
   refine ⟨_,rws,rfl,⟨?_,fun r hr=>((HRA.out.2 r (HMEM.out r hr)).below hb).mono (Nat.le_refl _) (fun _ _ _=>rfl) (fun _ hk _=>.inl hk)⟩,HF.out,hb⟩
   have h1:=HOU.out.own.sl (B:=fun q=>w1.heap.size≤q) HOU.out.new
   rw [HNL.out] at h1 ⊢
   exact h1.mono (Nat.le_refl _) (fun _ _ _=>rfl) (fun q hk _=>.inr zTbe)
def exT (nm:ByteArray) (k2:Int) (lim parts:Int) (a b c d:Value):SchV:=⟨nm,a,[⟨⟨#[97]⟩,1⟩,⟨⟨#[98]⟩,k2⟩],b,[⟨c,[0],true⟩,⟨d,[1],true⟩],lim,parts,0⟩
def PlanOut (w:World) (S:Value→Value→Value→Value→SchV) (e:Ending) (w':World):Prop:=∃ a b c d,e=.returned (S a b c d).agg∧SchAt w' (fun q=>w.heap.size≤q) (S a b c d)∧Below w.heap.size w w'
theorem exT_at {w w1 w2 w3 w4 w5 w6:World} {nm:ByteArray} (hnm:nm.size≤maxLen) (k2 lim parts:Int) (hb1:Below w.heap.size w w1)
 (h2:w1.alloc (.cells #[.string ⟨#[97]⟩,.int .i64 1,.string ⟨#[98]⟩,.int .i64 k2] 110)=w2) (h3:w2.alloc (.cells #[.int .i64 0] 3)=w3) (h4:w3.alloc (.cells #[.int .i64 1] 3)=w4)
 (h5:w4.alloc (.cells #[.slice (some ⟨w2.heap.size,0,none⟩) 1 1,.bool true,.slice (some ⟨w3.heap.size,0,none⟩) 1 1,.bool true] 108)=w5) (h6:Only (fun q=>q=w.heap.size) w5 w6) (hlt:w.heap.size+1≤w1.heap.size) :
 SchAt w6 (fun q=>w.heap.size≤q) (exT nm k2 lim parts (.slice (some ⟨w1.heap.size,0,none⟩) 2 2) (.slice (some ⟨w4.heap.size,0,none⟩) 2 2) (.slice (some ⟨w2.heap.size,0,none⟩) 1 1) (.slice (some ⟨w3.heap.size,0,none⟩) 1 1))∧Below w.heap.size w w6:=by
 have b2:Below w1.heap.size w1 w2:=h2▸(Below.refl _ _).alloc (Nat.le_refl _) _
 have b3:Below w2.heap.size w2 w3:=h3▸(Below.refl _ _).alloc (Nat.le_refl _) _
 have b4:Below w3.heap.size w3 w4:=h4▸(Below.refl _ _).alloc (Nat.le_refl _) _
 have b5:Below w4.heap.size w4 w5:=h5▸(Below.refl _ _).alloc (Nat.le_refl _) _
 have s2:=b2.size
 have s3:=b3.size
 have s4:=b4.size
 have s5:=b5.size
 have c45:Below w3.heap.size w3 w5:=b4.trans (b5.mono b4.size)
 have c35:Below w2.heap.size w2 w5:=b3.trans (c45.mono b3.size)
 have c25:Below w1.heap.size w1 w5:=b2.trans (c35.mono b2.size)
 have c05:Below w.heap.size w w5:=hb1.trans (c25.mono hb1.size)
 have o2:Own w2 110 2 (.slice (some ⟨w1.heap.size,0,none⟩) 2 2) 2 (colCells [⟨⟨#[97]⟩,1⟩,⟨⟨#[98]⟩,k2⟩]):=by
  exact zCwl
 have o3:Own w3 3 1 (.slice (some ⟨w2.heap.size,0,none⟩) 1 1) 1 (ints [0]):=by
  rw [←h3];exact Own.made w2 3 1 _ [] 1 1 rfl zVxh zTbe zdUY zN8V
 have o4:Own w4 3 1 (.slice (some ⟨w3.heap.size,0,none⟩) 1 1) 1 (ints [1]):=by
  rw [←h4];exact Own.made w3 3 1 _ [] 1 1 rfl zVxh zTbe zdUY zN8V
 have o5:Own w5 108 2 (.slice (some ⟨w4.heap.size,0,none⟩) 2 2) 2 (idxCells [⟨.slice (some ⟨w2.heap.size,0,none⟩) 1 1,[0],true⟩,⟨.slice (some ⟨w3.heap.size,0,none⟩) 1 1,[1],true⟩]):=by
  exact zRqU
 have hN:∀ q,w1.heap.size≤q→¬ q=w.heap.size:=fun q hq he=>zTbe
 refine ⟨⟨?_,⟨?_,?_⟩,?_,hnm⟩,c05.trans (h6.below c05.size (fun q hq=>zTbe))⟩
 ·exact (((o2.sl (B:=fun q=>w1.heap.size≤q) (fun q hq=>by cases hq;exact Nat.le_refl _)).below c35).only h6 hN).mono (Nat.le_refl _) (fun _ _ _=>rfl) (fun q hq _=>zTbe)
 ·exact (((o5.sl (B:=fun q=>w1.heap.size≤q) (fun q hq=>zj9M))).only h6 hN).mono (Nat.le_refl _) (fun _ _ _=>rfl) (fun q hq _=>zTbe)
 ·intro x hx
  simp only [exT,List.mem_cons,List.not_mem_nil,or_false] at hx
  exact ztao
 ·intro c hc
  simp only [exT,List.mem_cons,List.not_mem_nil,or_false] at hc
  rcases hc with rfl|rfl<;>(show (1:Nat)≤maxLen;decide)
theorem plan09_any (w:World):Calls Tryz.prog 54 #[] w (PlanOut w (exT ⟨#[116]⟩ 2 5 2)):=by
 obtain ⟨w1,hw1⟩:=ztQo
 obtain ⟨w2,hw2⟩:∃ w2,w1.alloc (.cells #[.string ⟨#[97]⟩,.int .i64 1,.string ⟨#[98]⟩,.int .i64 2] 110)=w2:=⟨_,rfl⟩
 obtain ⟨w3,hw3⟩:∃ w3,w2.alloc (.cells #[.int .i64 0] 3)=w3:=⟨_,rfl⟩
 obtain ⟨w4,hw4⟩:∃ w4,w3.alloc (.cells #[.int .i64 1] 3)=w4:=⟨_,rfl⟩
 obtain ⟨w5,hw5⟩:=zQXk
 have b1:=zppX
 have b2:=zXxX
 have b3:=zUeY
 have b4:=zvR2
 have b5:=z1O1
 have k1:=znEU
 have hlt1:=k1.lt
 have k5:=(((k1.below b2).below b3).below b4).below b5
 have HK5:=Lib.hid k5
 obtain ⟨z0,z1,z2,z3,z4,z5⟩:=sch_cells k5
 have zf:∀ i,w5.frozen? ⟨w.heap.size,i,none⟩=false:=k5.frozen
 have zl:=k5.lt
 have HW1:=Lib.hid b1
 have HL1:=Lib.hid hlt1
 have HW2:=Lib.hid hw2
 have HW3:=Lib.hid hw3
 have HW4:=Lib.hid hw4
 have HW5:=Lib.hid hw5
 clear b1 b2 b3 b4 b5 k1 k5 hlt1
 go_enter Tryz.func54,Tryz.ntmps54
 go_wp2
 clear hw1 hw2 hw3 hw4 hw5
 obtain ⟨hk,hon⟩:=set_six HK5.out (.string ⟨#[116]⟩) (.slice (some ⟨w1.heap.size,0,none⟩) 2 2) (.slice (some ⟨w4.heap.size,0,none⟩) 2 2) (.int .i64 5) (.int .i64 2) (.int .i64 0)
 generalize ((((((w5.setCell ⟨w.heap.size,0,none⟩ (.string ⟨#[116]⟩)).setCell ⟨w.heap.size,1,none⟩ (.slice (some ⟨w1.heap.size,0,none⟩) 2 2)).setCell ⟨w.heap.size,2,none⟩ (.slice (some ⟨w4.heap.size,0,none⟩) 2 2)).setCell ⟨w.heap.size,3,none⟩ (.int .i64 5)).setCell ⟨w.heap.size,4,none⟩ (.int .i64 2)).setCell ⟨w.heap.size,5,none⟩ (.int .i64 0))=wE at *
 obtain ⟨m0,m1,m2,m3,m4,m5⟩:=sch_cells hk
 obtain ⟨hs,hb⟩:=exT_at (nm:=⟨#[116]⟩) z7Rn 2 5 2 HW1.out HW2.out HW3.out HW4.out HW5.out hon HL1.out
 exact bodyPost_ret (v:=.agg #[.string ⟨#[116]⟩,.slice (some ⟨w1.heap.size,0,none⟩) 2 2,.slice (some ⟨w4.heap.size,0,none⟩) 2 2,.int .i64 5,.int .i64 2,.int .i64 0]) (by simp [results,Tryz.results54,go_sem,m0,m1,m2,m3,m4,m5]) rfl ⟨_,_,_,_,rfl,hs,hb⟩
def TabC (w:World) (g:TabG):Prop:=TabW w (fun k=>k∉feet g.res) g
theorem StepT.c {w w':World} {g g':TabG} (hs:StepT w w' (fun k=>k∉feet g.res) g g'):TabC w' g' :=
 ⟨hs.tab.ok.wide fun k hk hm=>hs.tab.dis k hm hk,hs.tab.sep,fun k hk h=>h hk⟩
theorem TabC.of {w:World} {R:Nat→Prop} {g:TabG} (h:TabW w R g):TabC w g:=⟨h.ok.wide fun k hk hm=>h.dis k hm hk,h.sep,fun _ hk h=>h hk⟩
theorem TabC.below {w w':World} {g:TabG} (h:TabC w g) (hb:Below w.heap.size w w'):TabC w' g:=TabW.below h hb
def exR1:List AV:=[⟨1,1,⟨#[]⟩⟩,⟨2,0,⟨#[120]⟩⟩]
def exR2:List AV:=[⟨1,2,⟨#[]⟩⟩,⟨2,0,⟨#[120]⟩⟩]
theorem exT_right (a b c d:Value):rightS (exT ⟨#[116]⟩ 2 5 2 a b c d)=true:=zyVB
theorem exT_in1 (a b c d:Value):insMd (exT ⟨#[116]⟩ 2 5 2 a b c d) [] exR1=([exR1],0):=zyVB
theorem exT_in2 (a b c d:Value):insMd (exT ⟨#[116]⟩ 2 5 2 a b c d) [exR1] exR2=([exR1],9):=zyVB
theorem rowCells_ones (l:List AV):Ones (rowCells l):=by
 intro u hu
 unfold rowCells at hu
 obtain ⟨c,hc,hu⟩:=List.mem_flatten.1 hu
 obtain ⟨a,_,rfl⟩:=List.mem_map.1 hc
 simp [AV.cells] at hu
 rcases hu with rfl|rfl|rfl<;>rfl
theorem ex_own {w:World} {r:List AV} (h:r.length=2):Own (w.alloc (.cells (rowCells r).toArray 113)) 113 3 (.slice (some ⟨w.heap.size,0,none⟩) 2 2) 2 (rowCells r):=by
 have hl:(rowCells r).length=6:=by rw [rowCells_length,h]
 have:=Own.made w 113 3 (rowCells r) [] 2 2 zTbe (rowCells_ones r) zTbe zdUY (by rw [List.append_nil,hl];omega)
 rwa [List.append_nil] at this
theorem awake09_any (w:World) (hm:Mx w):Calls Tryz.prog 13 #[] w fun e w'=>e=.returned (.bool true)∧Below w.heap.size w w':=by
 have HM:=Lib.hid hm
 have HPL:=Lib.hid (plan09_any w)
 clear hm
 go_enter Tryz.func13,Tryz.ntmps13
 go_wp2_with fail
 refine HPL.out.mono ?_
 rintro e w1 ⟨a,b,c,d,rfl,hs1,hb1⟩
 have HB1:=Lib.hid hb1
 have HN:=Lib.hid (tabnew_any w1 (HM.out.below hb1) _ _ hs1 (by simp [exT]) (by simp [exT]) (by intro x hx;simp [exT] at hx;rcases hx with rfl|rfl<;>simp))
 clear HPL hs1 hb1
 go_wp2_with fail
 refine HN.out.mono ?_
 clear HN
 rintro e w2 (⟨h1,_⟩|⟨_,g,rfl,hal,hgl,htk,htab⟩)
 ·rw [exT_right] at h1;cases h1
 have HAL:=Lib.hid hal
 have hbk:Below w1.heap.size w1 w2:=htk.only.below (Nat.le_refl _) (fun q hq=>zks3)
 have HB2:=Lib.hid (HB1.out.trans (hbk.mono HB1.out.size))
 have hc2:TabC w2 g:=⟨htab.wide (fun k hk=>hk.1),htk.sep,fun k hk h=>h hk⟩
 have HFT:Hid (∀ k∈feet g.res,w1.heap.size≤k):=Lib.hid fun k hk=>(htk.foot k hk).elim (fun h=>zhtf) id
 have hr0:g.rows=[]:=by unfold TabG.rows;rw [hgl];rfl
 obtain ⟨w3,hw3⟩:∃ w3,w2.alloc (.cells #[.int .i64 2,.int .i64 0,.string ⟨#[120]⟩] 113)=w3:=⟨_,rfl⟩
 have hb3:=zUeY
 have hk3:Blk w3 w2.heap.size 113 [.int .i64 2,.int .i64 0,.string ⟨#[120]⟩]:=hw3▸Blk.new w2 _ _
 obtain ⟨w4,hw4⟩:∃ w4,w3.alloc (.cells (rowCells exR1).toArray 113)=w4:=⟨_,rfl⟩
 have hb4:=zvR2
 have ho4:Own w4 113 3 (.slice (some ⟨w3.heap.size,0,none⟩) 2 2) 2 (rowCells exR1):=hw4▸ex_own rfl
 have hw4':w3.alloc (.cells #[.int .i64 1,.int .i64 1,.string ⟨#[]⟩,.int .i64 2,.int .i64 0,.string ⟨#[120]⟩] 113)=w4:=hw4
 have hc4:=(hc2.below hb3).below hb4
 have HIN:=Lib.hid (tins_md w4 _ g hc4 (fun _=>True) _ exR1 (ho4.sl (fun _ _=>trivial)) (by intro x hx;simp [exR1] at hx;rcases hx with rfl|rfl<;>simp [fit64]) (by simp [exR1]))
 rw [hal.ins,hr0,exT_in1] at HIN
 have HK3:=Lib.hid (hk3.below hb4)
 have HB4:=Lib.hid (HB2.out.trans ((hb3.trans (hb4.mono hb3.size)).mono HB2.out.size))
 have HC4:=Lib.hid hc4
 have e0:=hk3.cell 0
 have e1:=hk3.cell 1
 have e2:=hk3.cell 2
 simp only [List.getElem?_cons_zero,List.getElem?_cons_succ] at e0 e1 e2
 have HZ2:=Lib.hid hb3.size
 have HZ3:=Lib.hid hk3.lt
 have HLT:Hid (∀ k∈feet g.res,k < w2.heap.size):=Lib.hid htk.sep.lt
 clear hal hbk htk htab hc2 hgl hr0 hb3 hk3 hw4 hb4 ho4 hc4
 go_wp2_with fail
 refine HIN.out.mono ?_
 rintro e w5 ⟨rfl,g5,hst5,hr5⟩
 clear HIN hw3 hw4' e0 e1 e2
 have hc5:TabC w5 g5:=hst5.c
 have hr5':g5.rows=[exR1]:=hr5
 have hs5:g5.S=g.S:=hst5.sch
 have HTB5:Hid (g5.tb=g.tb):=hst5.tb
 have hfe:∀ k,k∈feet g.res→w.heap.size≤k:=fun k hk=>Nat.le_trans HB1.out.size (HFT.out k hk)
 have hbel5:Below w.heap.size w w5:=HB4.out.trans (hst5.trk.only.below HB4.out.size hfe)
 have hdj:∀ k,k∈feet g.res→w2.heap.size≠k:=fun k hk he=>by have:=HLT.out k hk;omega
 have hk5:Blk w5 w2.heap.size 113 [.int .i64 2,.int .i64 0,.string ⟨#[120]⟩]:=HK3.out.only hst5.trk.only fun h=>hdj _ h rfl
 obtain ⟨w6,hw6⟩:∃ w6,w5.alloc (.cells (rowCells exR2).toArray 113)=w6:=⟨_,rfl⟩
 have hb6:Below w5.heap.size w5 w6:=hw6▸(Below.refl _ _).alloc (Nat.le_refl _) _
 have ho6:Own w6 113 3 (.slice (some ⟨w5.heap.size,0,none⟩) 2 2) 2 (rowCells exR2):=hw6▸ex_own rfl
 have hw6':w5.alloc (.cells #[.int .i64 1,.int .i64 2,.string ⟨#[]⟩,.int .i64 2,.int .i64 0,.string ⟨#[120]⟩] 113)=w6:=hw6
 have hc6:=hc5.below hb6
 have HIN:=Lib.hid (tins_md w6 _ g5 hc6 (fun _=>True) _ exR2 (ho6.sl (fun _ _=>trivial)) (by intro x hx;simp [exR2] at hx;rcases hx with rfl|rfl<;>simp [fit64]) (by simp [exR2]))
 rw [hr5',hs5,HAL.out.ins,exT_in2,HTB5.out] at HIN
 have HFT5:Hid (∀ k∈feet g5.res,w.heap.size≤k):=Lib.hid fun k hk=>(hst5.trk.foot k hk).elim (hfe k) (fun h=>Nat.le_trans HB4.out.size h)
 have HB6:=Lib.hid (hbel5.trans (hb6.mono hbel5.size))
 have e0:=hk5.cell 0
 have e1:=hk5.cell 1
 have e2:=hk5.cell 2
 simp only [List.getElem?_cons_zero,List.getElem?_cons_succ] at e0 e1 e2
 clear hc5 hr5 hr5' hs5 hst5 hfe hbel5 hdj hk5 hw6 hb6 ho6 hc6
 go_wp2_with fail
 refine HIN.out.mono ?_
 rintro e w7 ⟨rfl,g7,hst7,hr7⟩
 clear HIN hw6' e0 e1 e2
 have hc7:TabC w7 g7:=hst7.c
 have hr7':g7.rows=[exR1]:=hr7
 have hl7:g7.L.length=1:=by rw [←TabG.rows_len,hr7'];rfl
 have htb7:g7.tb=g.tb:=hst7.tb.trans HTB5.out
 have hbel7:Below w.heap.size w w7:=HB6.out.trans (hst7.trk.only.below HB6.out.size HFT5.out)
 have HB7:=Lib.hid hbel7
 have hle:=tlen_any w7 _ g7 hc7.ok hc7.sep
 have hro:=trows_any w7 _ g7 hc7.ok hc7.sep (fun _=>True) _ [] (sl_none w7 _ 1)
 rw [htb7] at hle hro
 rw [hl7] at hle
 rw [hr7'] at hro
 have HLE:=Lib.hid hle
 have HRO:=Lib.hid hro
 clear hc7 hr7 hr7' hl7 htb7 hbel7 hst7 hle hro
 go_wp2_with fail
 refine HLE.out.mono ?_
 rintro e w8 ⟨rfl,rfl⟩
 clear HLE
 go_wp2_with fail
 refine HRO.out.mono ?_
 rintro e w9 ⟨v,rws,rfl,hrs,hrm⟩
 have hrl:rws.length=1:=by have:=congrArg List.length hrm;simpa [inP] using this
 obtain ⟨pv,cv,hpv,_,_⟩:=own_formT hrs.1
 rw [hrl] at hpv
 subst hpv
 have HB9:=Lib.hid (HB7.out.trans (hrs.2.2.1.mono HB7.out.size))
 clear hrs hrm hrl HRO
 go_wp2
 go_ret
 exact ⟨rfl,HB9.out⟩
theorem flat_length {α:Type} (f:α→List Value) (n:Nat) (hf:∀ a,(f a).length=n) (l:List α):((l.map f).flatten).length=l.length*n:=by
 have hlen:∀ c∈l.map f,c.length=n:=by
  exact ztz1
 exact z6Ba
theorem flat_at {α:Type} (f:α→List Value) (n:Nat) (hf:∀ a,(f a).length=n) (l:List α) (k r:Nat) (hk:k < l.length) (hr:r < n):((l.map f).flatten)[k*n+r]?=(f l[k])[r]?:=by
 have hlen:∀ c∈l.map f,c.length=n:=by
  exact ztz1
 exact zAOB
theorem sl_actT {w:World} {B:Nat→Prop} {v:Value} {l:List ActT} (h:Sl w B 5 v l.length (actCT l)) {k:Nat} (hk:k < l.length) :
 ∃ g off cap,v=.slice (some ⟨g,off,none⟩) l.length cap∧g < w.heap.size∧w.cell? ⟨g,off+k*5,none⟩=some (.int .i64 l[k].kind)∧w.cell? ⟨g,off+k*5+1,none⟩=some (.int .i64 l[k].n)∧w.cell? ⟨g,off+k*5+2,none⟩=some (.string l[k].key) ∧
  w.cell? ⟨g,off+k*5+3,none⟩=some l[k].rv∧w.cell? ⟨g,off+k*5+4,none⟩=some l[k].sv:=by
 obtain ⟨g,off,cap,hv,_,_,_,hglt,hc⟩:=h.place zTbe
 have hL:(actCT l).length=l.length*5:=flat_length actCT1 5 (fun _=>rfl) l
 have get:∀ r,r < 5→w.cell? ⟨g,off+(k*5+r),none⟩=(actCT1 l[k])[r]?:=fun r hr=>by
  rw [hc _ (by rw [hL];omega)];exact flat_at actCT1 5 (fun _=>rfl) l k r hk hr
 exact ⟨g,off,cap,hv,hglt,get 0 zTbe,get 1 zTbe,get 2 zTbe,get 3 zTbe,get 4 zTbe⟩
theorem ActsAt.forms {w:World} {B:Nat→Prop} {v:Value} {l:List ActT} (h:ActsAt w B v l):∀ a∈l,(∃ p n c,a.rv=.slice p n c)∧∃ p n c,a.sv=.slice p n c:=fun a ha=>by
 obtain ⟨p,c,h1,_⟩:=(h.row a ha).form
 obtain ⟨q,d,h2,_⟩:=(h.rows a ha).1.form
 exact ⟨⟨p,_,c,h1⟩,⟨q,_,d,h2⟩⟩
theorem gB_len {l:List AV} (h:greatB l=false):l.length≤1000∧∀ a∈l,a.s.size≤300:=by
 unfold greatB at h
 rw [Bool.or_eq_false_iff,decide_eq_false_iff_not,List.any_eq_false] at h
 exact ⟨zTbe,fun a ha=>by have:=h.2 a ha;simpa using this⟩
theorem gRB_len {l:List (List AV)} (h:greatRowsB l=false):l.length≤1000∧∀ r∈l,r.length≤1000∧∀ a∈r,a.s.size≤300:=by
 unfold greatRowsB at h
 rw [Bool.or_eq_false_iff,decide_eq_false_iff_not,List.any_eq_false] at h
 exact ⟨zTbe,fun a ha=>gB_len (by simpa using h.2 a ha)⟩
structure FineA (a:ActT):Prop where
 row:a.row.length≤1000∧∀ x∈a.row,x.s.size≤300
 rows:a.rows.length≤1000∧∀ r∈a.rows,r.l.length≤1000∧∀ x∈r.l,x.s.size≤300
 key:a.key.size≤300
structure FineT (S:SchV) (l:List ActT):Prop where
 sch:greatS S.name S.cols S.idx=false
 len:l.length≤40
 acts:∀ a∈l,FineA a
theorem gA_fine {a:ActT} (h1:greatB a.row=false) (h2:greatRowsB (a.rows.map RowV.l)=false) (h3:a.key.size≤300):FineA a:=by
 obtain ⟨g1,g2⟩:=gRB_len h2
 exact ⟨gB_len h1,⟨by simpa using g1,fun r hr=>g2 _ (List.mem_map_of_mem hr)⟩,h3⟩
theorem great09_any (w:World) (B B':Nat→Prop) (S:SchV) (hs:SchAt w B S) (v:Value) (l:List ActT) (h:ActsAt w B' v l) :
 Calls Tryz.prog 11 #[S.agg,v] w fun e w'=>∃ b,e=.returned (.bool b)∧Below w.heap.size w w'∧(b=false→FineT S l):=by
 obtain ⟨p,cap,rfl,hc1,hc2⟩:=h.sl.form
 have HS:=Lib.hid h
 have HG:=Lib.hid (fun W (hb:Below w.heap.size w W)=>great_sch W B S (hs.below hb).cols (hs.below hb).idx)
 obtain ⟨pc,cc,hcv,_,_⟩:=hs.cols.form
 obtain ⟨pi,ci,hiv,_,_⟩:=hs.idx.1.form
 obtain ⟨nc,hnc⟩:∃ nc,S.cols.length=nc:=⟨_,rfl⟩
 obtain ⟨ni,hni⟩:∃ ni,S.idx.length=ni:=⟨_,rfl⟩
 rw [hnc] at hcv
 rw [hni] at hiv
 simp only [SchV.agg,hcv,hiv] at HG ⊢
 obtain ⟨gs,hgs⟩:∃ gs,greatS S.name S.cols S.idx=gs:=⟨_,rfl⟩
 rw [hgs] at HG
 have HGS:=Lib.hid hgs
 have HFO:=Lib.hid h.forms
 have HGR:=Lib.hid (fun W (hb:Below w.heap.size w W) a (ha:a∈l)=>great_row W B' a.rv a.row ((h.row a ha).below hb))
 have HGW:=Lib.hid (fun W (hb:Below w.heap.size w W) a (ha:a∈l)=>great_rows W B' a.sv a.rows ((h.rows a ha).below hb))
 have hal:Below w.heap.size w (w.alloc (.cells #[.string S.name,.slice pc nc cc,.slice pi ni ci,.int .i64 S.limit,.int .i64 S.parts,.int .i64 S.by_] 25)):=(Below.refl _ _).alloc (Nat.le_refl _) _
 have hkk:=Blk.new w 25 [.string S.name,.slice pc nc cc,.slice pi ni ci,.int .i64 S.limit,.int .i64 S.parts,.int .i64 S.by_]
 obtain ⟨w1,hw1⟩:=zZts
 rw [hw1] at hal
 have hkk:Blk w1 w.heap.size 25 [.string S.name,.slice pc nc cc,.slice pi ni ci,.int .i64 S.limit,.int .i64 S.parts,.int .i64 S.by_]:=hw1▸hkk
 have HAL:=Lib.hid hal
 have HG1:=Lib.hid (HG.out w1 hal)
 obtain ⟨x0,x1,x2,x3,x4,x5⟩:=sch_cells hkk
 obtain ⟨n,hnn⟩:=zwjg
 rw [hnn] at hc1 ⊢
 have HN:=Lib.hid hnn
 clear h hs hcv hiv hnc hni hgs hal hkk hnn HG
 go_enter Tryz.func11,Tryz.ntmps11
 go_wp2_with fail
 clear hw1 x0 x1 x2 x3 x4 x5
 refine HG1.out.mono ?_
 rintro e w2 ⟨rfl,hb2⟩
 clear HG1
 have HB2:=Lib.hid (HAL.out.trans (hb2.mono HAL.out.size))
 clear hb2
 cases gs with
 | true =>
  go_wp2
  go_ret
  exact ⟨true,rfl,HB2.out,zPXO⟩
 | false =>
  by_cases hl:40 < n
  ·go_wp2
   go_ret
   exact ⟨true,rfl,HB2.out,zPXO⟩
  ·go_wp2
   go_loopw [5] (fun i wr=>∃ k:Nat,i=.int .i64 k∧k≤n∧Hid (∀ a∈l.take k,FineA a)∧Below w.heap.size w wr) (fun i _=>n - (intOf i).toNat)
   case atStart=>exact ⟨0,rfl,Nat.zero_le _,Lib.hid zPXO,HB2.out⟩
   case round =>
    obtain ⟨k,rfl,hk,hkt,hbel⟩:=hrel
    have HBL:=Lib.hid hbel
    by_cases hkx:k < n
    ·have hkl:k < l.length:=by rw [HN.out];exact hkx
     obtain ⟨g,off,cap',hv,hg,e0,e1,e2,e3,e4⟩:=sl_actT (HS.out.below hbel).sl hkl
     rw [HN.out] at hv
     cases hv
     have hmk:=zKzh
     have hx1:l.take (k+1)=l.take k++[l[k]]:=by rw [List.take_succ_eq_append_getElem hkl]
     obtain ⟨⟨pr,nr,cr,hrv⟩,⟨ps,ns,cs,hsv⟩⟩:=HFO.out _ hmk
     have HR1:=Lib.hid (HGR.out wr hbel _ hmk)
     have HR2:=Lib.hid (fun W hb=>HGW.out W hb _ hmk)
     generalize l[k]=x at *
     rw [hrv] at e3 HR1
     rw [hsv] at e4 HR2
     have HX:=Lib.hid hx1
     obtain ⟨g1,hg1⟩:∃ g1,greatB x.row=g1:=⟨_,rfl⟩
     obtain ⟨g2,hg2⟩:∃ g2,greatRowsB (x.rows.map RowV.l)=g2:=⟨_,rfl⟩
     rw [hg1] at HR1
     rw [hg2] at HR2
     have HQ1:=Lib.hid hg1
     have HQ2:=Lib.hid hg2
     have HE2:=Lib.hid e2
     have HE4:=Lib.hid e4
     have HGG:=Lib.hid hg
     obtain ⟨ks,hks⟩:∃ ks,x.key.size=ks:=⟨_,rfl⟩
     have HKS:=Lib.hid hks
     clear hbel hx1 hg1 hg2 hrv hsv hmk e0 e1 e2 e4
     go_wp2_with fail
     refine HR1.out.mono ?_
     rintro e w3 ⟨rfl,hb3⟩
     clear HR1
     have hb03:=HBL.out.trans (hb3.mono HBL.out.size)
     have HB3:=Lib.hid hb03
     have e4:=(hb3.cell (p:=⟨g,off+k*5+4,none⟩) HGG.out).trans HE4.out
     have HE32:=Lib.hid ((hb3.cell (p:=⟨g,off+k*5+2,none⟩) HGG.out).trans HE2.out)
     have HG3:=Lib.hid (Nat.lt_of_lt_of_le HGG.out hb3.size)
     clear hb3 e3 hb03 hg
     cases g1 with
     | true =>
      go_wp2
      go_ret
      exact ⟨true,rfl,HB3.out,zPXO⟩
     | false =>
      have HR3:=Lib.hid (HR2.out w3 HB3.out)
      clear HR2
      go_wp2_with fail
      refine HR3.out.mono ?_
      rintro e w4 ⟨rfl,hb4⟩
      clear HR3 e4
      have HB4:=Lib.hid (HB3.out.trans (hb4.mono HB3.out.size))
      have e2:=(hb4.cell (p:=⟨g,off+k*5+2,none⟩) HG3.out).trans HE32.out
      clear hb4
      cases g2 with
      | true =>
       go_wp2
       go_ret
       exact ⟨true,rfl,HB4.out,zPXO⟩
      | false =>
       by_cases hb:300 < ks
       ·go_wp2
        go_ret
        exact ⟨true,rfl,HB4.out,zPXO⟩
       ·go_wp2
        go_roundw
        case rel=>exact ⟨k+1,z3KH,zTbe,Lib.hid (by
         rw [HX.out]
         intro a ha
         rcases List.mem_append.1 ha with h1|h1
         ·exact hkt.out a h1
         ·rw [List.mem_singleton.1 h1];exact gA_fine HQ1.out HQ2.out (by rw [HKS.out];omega)),HB4.out⟩
        case measure=>(simp [intOf])<;>omega
    ·have hk2:k=n:=by omega
     clear hbel
     go_wp2
     go_ret
     refine ⟨false,rfl,HBL.out,fun _=>⟨HGS.out,by rw [HN.out];omega,?_⟩⟩
     have h1:=hkt.out
     rw [hk2,←HN.out,List.take_length] at h1
     exact h1
def ActT.agg (a:ActT):Value:=.agg #[.int .i64 a.kind,.int .i64 a.n,.string a.key,a.rv,a.sv]
theorem kb_self (s:ByteArray):kb s.toList=s:=by rw [ByteArray.toList_eq];unfold kb;rw [Array.toArray_toList]
theorem keyM_1 {S:SchV} {m:List (List AV)} {a:ActT} (h:m.length=0∨a.n < 0):kb (keyM S m a)=a.key:=by unfold keyM;rw [if_pos h];exact kb_self _
theorem keyM_2 {S:SchV} {m:List (List AV)} {a:ActT} (h:¬ (m.length=0∨a.n < 0)) {r:List AV} (hr:m[a.n.toNat % m.length]?=some r):keyM S m a=kfS S 0 r:=by
 unfold keyM
 rw [if_neg h,List.getD_eq_getElem?_getD,hr]
 rfl
theorem key09_any (w:World) (B:Nat→Prop) (S:SchV) (rv:Value) (rows:List RowV) (h:MdAt w B S rv rows) (hlen:rows.length≤1000) (a:ActT) (hn:fit64 a.n) (hfo:(∃ p n c,a.rv=.slice p n c)∧∃ p n c,a.sv=.slice p n c) :
 Calls Tryz.prog 81 #[mdV S rv,a.agg] w fun e w'=>e=.returned (.string (kb (keyM S (rows.map RowV.l) a)))∧Below w.heap.size w w':=by
 have hi0:0 < S.idx.length:=(sch_small h.right).2.2.1
 have hkey:=fun w2 hb r hr=>h.key w2 hb 0 hi0 r hr
 have HRA:=Lib.hid h.ra
 obtain ⟨⟨pc,nc,cc,hcv⟩,⟨pi,ni,ci,hiv⟩,⟨pr,cr,hrv,hcr1,hcr2⟩,hrf⟩:=h.forms
 have HRF:=Lib.hid hrf
 subst hrv
 simp only [SchV.agg,hcv,hiv] at hkey
 have HKEY:=Lib.hid hkey
 simp only [mdV,hcv,hiv]
 obtain ⟨⟨p1,n1,c1,hv1⟩,⟨p2,n2,c2,hv2⟩⟩:=hfo
 simp only [ActT.agg,hv1,hv2]
 have hk1:=fun hh=>keyM_1 (S:=S) (m:=rows.map RowV.l) (a:=a) hh
 have hk2:=fun hh r hr=>keyM_2 (S:=S) (m:=rows.map RowV.l) (a:=a) hh (r:=r) hr
 rw [List.length_map] at hk1 hk2
 obtain ⟨ak,an,as_,av1,ar,av2,ars⟩:=a
 simp only at hk1 hk2 hn hv1 hv2 ⊢
 generalize keyM S (rows.map RowV.l) _=km at *
 have HK1:=Lib.hid hk1
 have HK2:=Lib.hid hk2
 have hal:=z0KE
 have hkm:=Blk.new w 34 [.string S.name,.slice pc nc cc,.slice pi ni ci,.int .i64 S.limit,.int .i64 S.parts,.int .i64 S.by_,.slice pr rows.length cr]
 obtain ⟨w1,hw1⟩:=zC8e
 rw [hw1] at hal
 have hkm:=zJ1I
 have HAL:=Lib.hid hal
 have HKM:=Lib.hid hkm
 obtain ⟨w2,hw2⟩:∃ w2,w1.alloc (.cells #[.int .i64 ak,.int .i64 an,.string as_,.slice p1 n1 c1,.slice p2 n2 c2] 104)=w2:=⟨_,rfl⟩
 have hb12:=zXxX
 have hka:Blk w2 w1.heap.size 104 [.int .i64 ak,.int .i64 an,.string as_,.slice p1 n1 c1,.slice p2 n2 c2]:=hw2▸Blk.new w1 _ _
 have a1:=hka.cell 1
 have a2:=hka.cell 2
 simp only [List.getElem?_cons_zero,List.getElem?_cons_succ] at a1 a2
 have hz1:=hka.lt
 obtain ⟨x0,x1,x2,x3,x4,x5,x6⟩:=md_cells (hkm.below hb12)
 have hlx:=(hkm.below hb12).lt
 have HB2:=Lib.hid (hal.trans (hb12.mono hal.size))
 clear h hkey hrf hcv hiv hal hkm hk1 hk2 hb12 hka hi0 hv1 hv2 av1 av2
 by_cases h0:rows.length=0
 ·skip
  have d0:((rows.length:Int) == 0)=true:=beq_iff_eq.2 zTbe
  have HE:=Lib.hid (HK1.out (.inl h0))
  clear h0
  go_enter Tryz.func81,Tryz.ntmps81
  go_wp2
  go_ret
  exact ⟨zKZO,HB2.out⟩
 ·have d0:((rows.length:Int) == 0)=false:=beq_eq_false_iff_ne.2 zTbe
  by_cases hng:an < 0
  ·skip
   have HE:=Lib.hid (HK1.out (.inr hng))
   clear h0
   go_enter Tryz.func81,Tryz.ntmps81
   go_wp2
   go_ret
   exact ⟨zKZO,HB2.out⟩
  ·skip
   obtain ⟨N,rfl⟩:∃ N:Nat,an=(N:Int):=⟨an.toNat,zTbe⟩
   have hlt:N % rows.length < rows.length:=Nat.mod_lt _ zTbe
   have hmk:rows[N % rows.length]∈rows:=List.getElem_mem hlt
   have HE:=Lib.hid (HK2.out zTbe rows[N % rows.length].l (by rw [Int.toNat_natCast,List.getElem?_map,List.getElem?_eq_getElem hlt];rfl))
   obtain ⟨gr,or_,cpr,hvr,ek⟩:=(HRA.out.below HB2.out).at hlt
   cases hvr
   have hgr:=World.block_lt_of_cell? _ _ ek
   obtain ⟨px,nx,cx,hxv⟩:=HRF.out _ hmk
   rw [hxv] at ek
   have hKJ:=HKEY.out w2.drew HB2.out.drew _ hmk
   rw [hxv] at hKJ
   have HKJ:=Lib.hid hKJ
   have hmod:(N:Int).tmod (rows.length:Int)=((N % rows.length:Nat):Int):=by rw [Int.tmod_eq_emod_of_nonneg zTbe];simp
   generalize rows[N % rows.length].l=rl at *
   generalize N % rows.length=q at *
   have hz:¬ (rows.length=0):=h0
   have hrl1:(1:Int)≤(rows.length:Int):=zTbe
   have hwq:IntKind.i64.wrap (q:Int)=(q:Int):=IntWalk.i64_in _ zTbe
   clear hKJ hmk hxv
   go_enter Tryz.func81,Tryz.ntmps81
   go_upto_region 3 with fail
   clear hw1 hw2
   have d0:w2.drew.cell? ⟨w.heap.size,0,none⟩=some (.string S.name):=x0
   have d1:w2.drew.cell? ⟨w.heap.size,1,none⟩=some (.slice pc nc cc):=x1
   have d2:w2.drew.cell? ⟨w.heap.size,2,none⟩=some (.slice pi ni ci):=x2
   have d3:w2.drew.cell? ⟨w.heap.size,3,none⟩=some (.int .i64 S.limit):=x3
   have d4:w2.drew.cell? ⟨w.heap.size,4,none⟩=some (.int .i64 S.parts):=x4
   have d5:w2.drew.cell? ⟨w.heap.size,5,none⟩=some (.int .i64 S.by_):=x5
   have d6:w2.drew.cell? ⟨w.heap.size,6,none⟩=some (.slice (some ⟨gr,or_,none⟩) rows.length cr):=x6
   have dek:w2.drew.cell? ⟨gr,or_+q,none⟩=some (.slice px nx cx):=ek
   have da1:w2.drew.cell? ⟨w1.heap.size,1,none⟩=some (.int .i64 (N:Int)):=a1
   clear x0 x1 x2 x3 x4 x5 x6 ek a1 a2
   refine wp_region_lit_plan [] [(0,0),(2,0),(4,0),(6,0),(1,1),(3,1),(5,1),(7,1),(8,0),(9,0),(10,0),(11,1),(12,4),(13,0)] (fun _=>False) zyVB zyVB (fun c a d v w h=>zx0I) ?_
   go_wp2_with (first
    | (refine stp ?_)
    | (go_at_call 18;refine HKJ.out.mono ?_;clear HKJ;rintro e w3 ⟨rfl,hb3⟩;have HB3:=Lib.hid (HB2.out.drew.trans (Below.mono hb3 HB2.out.size));clear hb3))
   go_ret
   exact ⟨zKZO,HB3.out⟩
theorem StepT.keep {w w':World} {g g':TabG} (hst:StepT w w' (fun k=>k∉feet g.res) g g') :
 w.heap.size≤w'.heap.size∧(∀ k,k∉feet g.res→k < w.heap.size→w'.heap[k]?=w.heap[k]?)∧(∀ k,k∉feet g.res→k < w.heap.size→k∉feet g'.res) :=
 ⟨hst.trk.only.size,fun k hk hl=>hst.trk.only.block k hl hk,fun k hk hl hm=>(hst.trk.foot k hm).elim hk (fun h=>zTbe)⟩
theorem TabC.lt {w:World} {g:TabG} (h:TabC w g):∀ k∈feet g.res,k < w.heap.size:=h.sep.lt
theorem MdAt.step {w w':World} {g g':TabG} {S:SchV} {v:Value} {rows:List RowV} (h:MdAt w (fun k=>k∉feet g.res) S v rows) (hst:StepT w w' (fun k=>k∉feet g.res) g g'):MdAt w' (fun k=>k∉feet g'.res) S v rows :=
 h.to hst.keep.1 hst.keep.2.1 hst.keep.2.2
theorem RowsAt.step {w w':World} {g g':TabG} {v:Value} {rows:List RowV} (h:RowsAt w (fun k=>k∉feet g.res) v rows) (hst:StepT w w' (fun k=>k∉feet g.res) g g'):RowsAt w' (fun k=>k∉feet g'.res) v rows :=
 h.to hst.keep.1 hst.keep.2.1 hst.keep.2.2
theorem Sl.step {w w':World} {g g':TabG} {v:Value} {n sz:Nat} {cs:List Value} (h:Sl w (fun k=>k∉feet g.res) sz v n cs) (hst:StepT w w' (fun k=>k∉feet g.res) g g'):Sl w' (fun k=>k∉feet g'.res) sz v n cs :=
 h.mono hst.keep.1 hst.keep.2.1 hst.keep.2.2
theorem Blk.step {w w':World} {R:Nat→Prop} {g g':TabG} {b:Nat} {t:TypeId} {cs:List Value} (h:Blk w b t cs) (hst:StepT w w' R g g') (hb:b∉feet g.res):Blk w' b t cs:=h.only hst.trk.only hb
structure ActAt (w:World) (B:Nat→Prop) (a:ActT):Prop where
 row:Sl w B 3 a.rv a.row.length (rowCells a.row)
 rows:RowsAt w B a.sv a.rows
 n64:fit64 a.kind∧fit64 a.n∧(∀ v∈a.row,fit64 v.n)∧∀ r∈a.rows,∀ v∈r.l,fit64 v.n
 fine:FineA a
theorem ActAt.to {w w':World} {R R':Nat→Prop} {a:ActT} (h:ActAt w R a) (hs:w.heap.size≤w'.heap.size) (hb:∀ k,R k→k < w.heap.size→w'.heap[k]?=w.heap[k]?) (hB:∀ k,R k→k < w.heap.size→R' k):ActAt w' R' a :=
 ⟨h.row.mono hs hb hB,h.rows.to hs hb hB,h.n64,h.fine⟩
theorem ActAt.below {w w':World} {R:Nat→Prop} {a:ActT} (h:ActAt w R a) (hb:Below w.heap.size w w'):ActAt w' R a:=h.to hb.size (fun k _ hl=>hb.block k hl) (fun _ hk _=>hk)
structure Pair (w:World) (R:Nat→Prop) (S:SchV) (g:TabG) (v:Value) (rows:List RowV):Prop where
 tab:TabW w R g
 like:Alike g.S S
 md:MdAt w R S v rows
 eq:rows.map RowV.l=g.rows
theorem Pair.below {w w':World} {R:Nat→Prop} {S:SchV} {g:TabG} {v:Value} {rows:List RowV} (h:Pair w R S g v rows) (hb:Below w.heap.size w w'):Pair w' R S g v rows:=⟨h.tab.below hb,h.like,h.md.below hb,h.eq⟩
theorem Pair.len {w:World} {R:Nat→Prop} {S:SchV} {g:TabG} {v:Value} {rows:List RowV} (h:Pair w R S g v rows):rows.length=g.L.length∧rows.length≤1000:=by
 have h1:=congrArg List.length h.eq
 rw [List.length_map,TabG.rows_len] at h1
 exact ⟨h1,by rw [h1];exact h.tab.ok.lim⟩
def DoesOut (w:World) (R:Nat→Prop) (S:SchV) (g:TabG) (rows:List RowV) (a:ActT) (e:Ending) (w':World):Prop :=
 ∃ g' lv rws,e=.returned (.tuple #[mdV S lv,.bool true])∧Pair w' (grow R w.heap.size (feet g'.res)) S g' lv rws∧rws.map RowV.l=(doMd S (rows.map RowV.l) a).1∧Trk w (feet g.res) w' g'.res∧g'.tb=g.tb
theorem Trk.side {w0 w w':World} {F:List Nat} {rs:List Res} {b:Nat} (h:Trk w0 F w rs) (ho:Only (fun q=>q=b) w w') (hb:w0.heap.size≤b) (hn:b∉feet rs):Trk w0 F w' rs :=
 ⟨h.sep.keep fun k hk=>ho.block k (h.sep.lt k hk) (fun he=>hn (he▸hk)),h.only.trans ho (fun i hi he=>zTbe),h.foot⟩
theorem TabW.side {w w':World} {R:Nat→Prop} {g:TabG} {b:Nat} (h:TabW w R g) (ho:Only (fun q=>q=b) w w') (hR:¬ R b) (hn:b∉feet g.res):TabW w' R g :=
 ⟨h.ok.to ho.size (fun k hk hl=>ho.block k hl (fun he=>hR (he▸hk))) (fun _ hk _=>hk),h.sep.keep fun k hk=>ho.block k (h.sep.lt k hk) (fun he=>hn (he▸hk)),h.dis⟩
theorem RowsAt.side {w w':World} {R:Nat→Prop} {v:Value} {rows:List RowV} {b:Nat} (h:RowsAt w R v rows) (ho:Only (fun q=>q=b) w w') (hR:¬ R b):RowsAt w' R v rows :=
 h.to ho.size (fun k hk hl=>ho.block k hl (fun he=>hR (he▸hk))) (fun _ hk _=>hk)
theorem SchAt.side {w w':World} {R:Nat→Prop} {S:SchV} {b:Nat} (h:SchAt w R S) (ho:Only (fun q=>q=b) w w') (hR:¬ R b):SchAt w' R S :=
 h.to ho.size (fun k hk hl=>ho.block k hl (fun he=>hR (he▸hk))) (fun _ hk _=>hk)
structure CutD (w w5:World) (R:Nat→Prop) (S:SchV) (g:TabG) (o:List (List AV)) (b11 b6:Nat) (g6:TabG) (lv:Value) (rws:List RowV) (wc:World):Prop where
 tab:TabW wc (grow (fun k=>R k∧k < w.heap.size) w5.heap.size (feet g6.res)) g6
 trk:Trk w (feet g.res) wc g6.res
 new:∀ k∈feet g6.res,k∈feet g.res∨w5.heap.size≤k
 tb:g6.tb=g.tb
 sch:g6.S=g.S
 rows:g6.rows=o
 eq:rws.map RowV.l=o
 ra:RowsAt wc (fun q=>(R q∧q < w.heap.size)∨(w5.heap.size≤q∧q∉feet g6.res)) lv rws
 sc:SchAt wc (fun q=>R q∧q < w.heap.size) S
 box:Blk wc b11 34 (mdC S lv)
 res:Blk wc b6 34 [.string ⟨#[]⟩,.slice none 0 0,.slice none 0 0,.int .i64 0,.int .i64 0,.int .i64 0,.slice none 0 0]
theorem doMd_0 {S:SchV} {m:List (List AV)} {a:ActT} (h:a.kind=0):doMd S m a=insMd S m a.row:=by unfold doMd;rw [if_pos h]
theorem doMd_1 {S:SchV} {m:List (List AV)} {a:ActT} (h:a.kind=1):doMd S m a=updMd S m (keyM S m a) a.row:=by unfold doMd;rw [if_neg zTbe,if_pos h]
theorem doMd_2 {S:SchV} {m:List (List AV)} {a:ActT} (h:a.kind=2):doMd S m a=delMd S m (keyM S m a):=by unfold doMd;rw [if_neg zTbe,if_neg zTbe,if_pos h]
theorem doMd_3 {S:SchV} {m:List (List AV)} {a:ActT} (h0:a.kind≠0) (h1:a.kind≠1) (h2:a.kind≠2):doMd S m a=loadMd S (a.rows.map RowV.l):=by unfold doMd;rw [if_neg h0,if_neg h1,if_neg h2]
theorem cutD_mk {w w5 w6 w7 w8:World} {R:Nat→Prop} {S:SchV} {g g6:TabG} {o:List (List AV)} {b11 b6:Nat} {lv:Value} {rws:List RowV} (hb5:Below w.heap.size w w5) (hsep:Sep w g.res)
 (hst:StepT w5 w6 (fun k=>R k∧k < w.heap.size) g g6) (hr6:g6.rows=o) (hsc:SchAt w6 (fun k=>R k∧k < w.heap.size) S)
 (hra:RowsAt w7 (fun q=>(R q∧q < w.heap.size)∨w6.heap.size≤q) lv rws) (hrm:rws.map RowV.l=o) (hb7:Below w6.heap.size w6 w7)
 (ho:Only (fun q=>q=b11) w7 w8) (hbox:Blk w8 b11 34 (mdC S lv)) (h1:w.heap.size≤b11) (h2:b11 < w5.heap.size) (h3:b6≠b11) (h4:b6 < w5.heap.size) (h5:w.heap.size≤b6)
 (hres:Blk w5 b6 34 [.string ⟨#[]⟩,.slice none 0 0,.slice none 0 0,.int .i64 0,.int .i64 0,.int .i64 0,.slice none 0 0]) :
 CutD w w5 R S g o b11 b6 g6 lv rws w8:=by
 have s6:=hst.trk.only.size
 have s7:=hb7.size
 have hg:=hsep.lt
 have h56:∀ k∈feet g6.res,k∈feet g.res∨w5.heap.size≤k:=hst.trk.foot
 have hnb:b11∉feet g6.res:=fun h=>by
  rcases h56 _ h with h|h
  ·have:=hg _ h;omega
  ·omega
 have hT0:Trk w (feet g.res) w7 g6.res:=(Trk.after (Trk.of_below hsep hb5) hst.trk).below hb7
 have hR:¬ grow (fun k=>R k∧k < w.heap.size) w5.heap.size (feet g6.res) b11:=fun h=>by
  rcases h with ⟨_,_,h⟩|⟨h,_⟩<;>omega
 refine ⟨(hst.tab.below hb7).side ho hR hnb,Trk.side hT0 ho h1 hnb,h56,hst.tb,hst.sch,hr6,hrm,?_,(hsc.below hb7).side ho (fun h=>zTbe),hbox,?_⟩
 ·refine (hra.side ho (fun h=>by rcases h with ⟨_,h⟩|h<;>omega)).to (Nat.le_refl _) (fun _ _ _=>rfl) (fun q hq _=>?_)
  rcases hq with h|h
  ·exact .inl h
  ·exact .inr ⟨zTbe,fun hm=>by have:=hst.tab.sep.lt _ hm;omega⟩
 ·exact ((hres.only hst.trk.only (fun h=>by have:=hg _ h;omega)).below hb7).only ho h3
end Go.Proofs.YteggkjdlajgenaaGreatDoor
