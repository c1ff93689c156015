/- Contracts of the functions that the statement reaches, one behind the other. No condition beyond each theorem's own. -/
import Derived.Test.YteggkjdlajgenaaGreatDoorTS9
import Derived.Test.YteggkjdlajgenaaGreatDoorTS10
set_option linter.unusedSimpArgs false
set_option linter.unusedVariables false
set_option maxRecDepth 100000
set_option maxHeartbeats 4000000
theorem zPKe {P:Prop} (h:P:=by have:=h2.len;have:=HC8.out;omega):P:=h
namespace Go.Proofs.YteggkjdlajgenaaGreatDoor
open Go.RowKit Go.Afx
theorem tschema_any (w:World) (R:Nat→Prop) (g:TabG) (h:TabOK w R g) (hs:Sep w g.res) :
 Calls Tryz.prog 42 #[ptrV g.tb] w fun e w'=>∃ c,e=.returned c.agg∧Alike c g.S∧SchOwn w' w.heap.size c∧Below w.heap.size w w':=by
 have hsm:=sch_small h.st.right
 have hx:∀ x∈g.S.idx,x.l.length≤1000:=fun x hx=>Nat.le_trans (rightS_xl h.st.right x hx) zTbe
 have HC:=Lib.hid (fun w2 (hb:Below w.heap.size w w2)=>schcopy_any w2 _ g.S (h.st.sch.below hb) zTbe zTbe hx)
 have HBL:=Lib.hid (TabG.blk hs)
 have hfc:∃ p n c,g.S.colsV=.slice p n c:=by obtain ⟨p,c,h,_⟩:=h.st.sch.cols.form;exact ⟨p,_,c,h⟩
 have hfi:∃ p n c,g.S.idxV=.slice p n c:=by obtain ⟨p,c,h,_⟩:=h.st.sch.idx.1.form;exact ⟨p,_,c,h⟩
 clear h hs hsm hx
 obtain ⟨tb,S,iv,rt,xs,L⟩:=g
 obtain ⟨nm,cv,cl,jv,il,lm,pt,by_⟩:=S
 simp only at hfc hfi HC HBL ⊢
 obtain ⟨p1,n1,e1,rfl⟩:=hfc
 obtain ⟨p2,n2,e2,rfl⟩:=hfi
 obtain ⟨c0,c1,c2,c3,c4,c5,c6,c7⟩:=tab_cells HBL.out
 have hlt:=HBL.out.lt
 unfold ptrV
 simp only [SchV.agg] at HC ⊢
 go_enter Tryz.func42,Tryz.ntmps42
 go_wp2_with fail
 obtain ⟨w1,hw1⟩:=ztQo
 have hb1:=zppX
 have hk1:=znEU
 rw [hw1]
 have HB1:=Lib.hid hb1
 have HK1:=Lib.hid hk1
 clear hb1 hk1 hw1 HBL c0 c1 c2 c3 c4 c5 c6 c7
 refine (HC.out w1 HB1.out).mono ?_
 rintro e w2 ⟨c,rfl,hal,hown,hb⟩
 have hz1:w.heap.size < w1.heap.size:=HK1.out.lt
 have hk2:=HK1.out.below hb
 have HX:=Lib.hid (And.intro hal (And.intro hown (And.intro hb hk2)))
 obtain ⟨p3,m3,hcf,_,_⟩:=own_formT hown.cols
 obtain ⟨p4,m4,hif,_,_⟩:=own_formT hown.idx
 obtain ⟨z0,z1,z2,z3,z4,z5⟩:=sch_cells hk2
 have f0:∀ i,w2.frozen? ⟨w.heap.size,i,none⟩=false:=hk2.frozen
 have hlz:=hk2.lt
 clear HC hal hown hb hk2
 obtain ⟨cn,ccv,ccl,civ,cil,clm,cpt,cby⟩:=c
 simp only at hcf hif ⊢
 subst hcf hif
 go_wp2
 obtain ⟨hal,hown,hb,hk2⟩:=HX.out
 obtain ⟨hk,hon⟩:=set_six hk2 (.string cn) (.slice p3 ccl.length m3) (.slice p4 cil.length m4) (.int .i64 clm) (.int .i64 cpt) (.int .i64 cby)
 generalize ((((((w2.setCell ⟨w.heap.size,0,none⟩ (.string cn)).setCell ⟨w.heap.size,1,none⟩ (.slice p3 ccl.length m3)).setCell ⟨w.heap.size,2,none⟩ (.slice p4 cil.length m4)).setCell ⟨w.heap.size,3,none⟩ (.int .i64 clm)).setCell ⟨w.heap.size,4,none⟩ (.int .i64 cpt)).setCell ⟨w.heap.size,5,none⟩ (.int .i64 cby))=wE at *
 obtain ⟨q0,q1,q2,q3,q4,q5⟩:=sch_cells hk
 have hbel:Below w.heap.size w wE:=(HB1.out.trans (hb.mono HB1.out.size)).trans (hon.below (Nat.le_of_lt hlz) (fun q hq=>zTbe))
 have hfin:SchOwn wE w.heap.size ⟨cn,.slice p3 ccl.length m3,ccl,.slice p4 cil.length m4,cil,clm,cpt,cby⟩ :=
  ⟨hown.cols.only hon (fun q hq h=>by have:=(hown.fc q hq).1;omega),hown.idx.only hon (fun q hq h=>by have:=(hown.fi q hq).1;omega),fun x hx=>(hown.pl x hx).only hon (fun q hq h=>by have:=hown.fp x hx q hq;omega),
   fun q hq=>⟨by have:=(hown.fc q hq).1;omega,(hown.fc q hq).2⟩,fun q hq=>⟨by have:=(hown.fi q hq).1;omega,(hown.fi q hq).2⟩,fun x hx q hq=>by have:=hown.fp x hx q hq;omega⟩
 exact bodyPost_ret (v:=.agg #[.string cn,.slice p3 ccl.length m3,.slice p4 cil.length m4,.int .i64 clm,.int .i64 cpt,.int .i64 cby]) (by simp [results,Tryz.results42,go_sem,q0,q1,q2,q3,q4,q5]) rfl ⟨⟨cn,.slice p3 ccl.length m3,ccl,.slice p4 cil.length m4,cil,clm,cpt,cby⟩,rfl,hal,hfin,hbel⟩
theorem inP_no (S:SchV) (l:List (List AV)):l.filter (inP S [])=l:=List.filter_eq_self.2 fun _ _=>rfl
theorem buf_new (w:World):Buf (w.alloc (.cells #[.slice none 0 0] 153)) 153 w.heap.size (fun k=>k=w.heap.size) [] [] :=
 ⟨.slice none 0 0,Blk.new w _ _,Own.nil _ _ _,rfl,fun k hk=>by simp [Value.ownBlock] at hk⟩
theorem tbytes_any (w:World) (R:Nat→Prop) (g:TabG) (h:TabOK w R g) (hs:Sep w g.res) :
 Calls Tryz.prog 47 #[ptrV g.tb] w fun e w'=>e=.returned (.string (bs (rowsB2 g.rows)))∧Below w.heap.size w w':=by
 have hal:Below w.heap.size w (w.alloc (.cells #[.slice none 0 0] 153)):=(Below.refl _ _).alloc (Nat.le_refl _) _
 have HNEW:=Lib.hid (buf_new w)
 have hri:=h.st.right
 have hc8:=(rightS_by hri).2.2.2.2.2.2.2.2
 have hok:∀ r∈g.rows,RowOK g.S r:=fun r hr=>by
  obtain ⟨p,hp,rfl⟩:=List.mem_map.1 hr
  exact h.ok p hp
 have hrl:g.rows.length≤1000:=by rw [TabG.rows_len];exact h.lim
 have HRW:=Lib.hid (fun W (hb:Below w.heap.size w W)=>trows_any W _ g (h.below hb) (hs.below hb) (fun _=>True) (.slice none 0 0) [] (Sl.zero W _ 1))
 have HOK:=Lib.hid hok
 have HRL:=Lib.hid hrl
 have hsz:(w.alloc (.cells #[.slice none 0 0] 153)).heap.size=w.heap.size+1:=zPXO
 have HSZ:=Lib.hid hsz
 have HAL:=Lib.hid hal
 clear h hs hri hok hrl hsz hal
 have h1:=HRW.out _ HAL.out
 have HR1:=Lib.hid h1
 clear h1 HRW
 have HC8:=Lib.hid hc8
 clear hc8
 unfold ptrV at HR1 ⊢
 go_enter Tryz.func47,Tryz.ntmps47
 go_wp2_with fail
 generalize w.alloc (.cells #[.slice none 0 0] 153)=w1 at *
 refine HR1.out.mono ?_
 clear HR1
 rintro e w2 ⟨v,rws,rfl,hsq,hsm⟩
 rw [inP_no] at hsm
 have hb2:=hsq.2.2.1
 have hbu:Buf w2 153 w.heap.size (fun k=>k=w.heap.size) [] []:=HNEW.out.below hb2
 have hir:IsRows w2 (fun k=>¬ k=w.heap.size) v rws:=by
  have h1:=hsq.at
  have hn:∀ q,w1.heap.size≤q→¬ q=w.heap.size:=fun q hq h=>by have:=HSZ.out;omega
  refine ⟨h1.1.mono (Nat.le_refl _) (fun _ _ _=>rfl) (fun q hq _=>hn q hq),fun r hr=>⟨(h1.2 r hr).mono (Nat.le_refl _) (fun _ _ _=>rfl) (fun q hq _=>hn q hq),?_⟩⟩
  have h2:=HOK.out r.l (by rw [←hsm];exact List.mem_map_of_mem hr)
  exact ⟨h2.n64,zPKe⟩
 have hlr:rws.length≤1000:=by have:=congrArg List.length hsm;rw [List.length_map] at this;have:=HRL.out;omega
 have hrb:∀ r∈rws,(rowB r.l).length≤8089:=fun r hr=>by
  have h2:=HOK.out r.l (by rw [←hsm];exact List.mem_map_of_mem hr)
  have h3:=laid_len valB 1010 r.l (fun a ha=>valB_len a (h2.n64 a ha))
  have h4:=be_len8 (max (r.l.length:Int) 0).toNat zPKe
  have h5:r.l.length≤8:=zPKe
  unfold rowB sizeB
  rw [List.length_append];omega
 have hw:=rows_wrM w2 _ w.heap.size _ [] [] hbu v rws hir zPXO hlr 8089 zTbe hrb
 obtain ⟨p,c,hvf,_,_⟩:=own_formT hsq.1
 rw [hvf] at hw ⊢
 have HW:=Lib.hid hw
 have HB2:=Lib.hid (HAL.out.trans (hb2.mono HAL.out.size))
 have HE:Hid (rowsB rws=rowsB2 g.rows):=Lib.hid (by rw [rowsB_2,hsm])
 clear hsq hsm hb2 hbu hir hlr hrb hw hvf
 go_wp2_with fail
 refine HW.out.mono ?_
 clear HW
 rintro e w3 ⟨rfl,F3,hbu,hon,_⟩
 have hs:=string_wr w3 _ _ _ _ _ hbu
 rw [List.nil_append,HE.out] at hs
 have HS:=Lib.hid hs
 have HB3:=Lib.hid (HB2.out.trans (hon.below HB2.out.size (fun q hq=>zTbe)))
 clear hbu hon hs
 go_wp2_with fail
 refine HS.out.mono ?_
 rintro e w4 ⟨rfl,rfl⟩
 go_wp2
 go_ret
 exact ⟨rfl,HB3.out⟩
end Go.Proofs.YteggkjdlajgenaaGreatDoor
