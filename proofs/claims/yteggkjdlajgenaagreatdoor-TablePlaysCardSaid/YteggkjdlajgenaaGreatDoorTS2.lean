/- Contracts of the functions that the statement reaches, one behind the other. No condition beyond each theorem's own. -/
import Derived.Test.YteggkjdlajgenaaGreatDoorTS1
set_option linter.unusedSimpArgs false
set_option linter.unusedVariables false
set_option maxRecDepth 100000
set_option maxHeartbeats 4000000
theorem zxI0 {P:Prop} (h:P:=by
 simp only [Builtin.copy_,List.getElem?_toArray,List.getElem?_cons_zero,List.getElem?_cons_succ,Sem.run_bind,run_underlying ht,Result.andThen_ok,hlen,hmm]
 simp [sizeOf,typeInfo,hi,hf2,hst,over,goInt]
 ):P:=h
theorem zPHS {P:Prop} (h:P:=by
 unfold Oper.wp execOp
 simp only [ho,resolve,invoke,builtin,Sem.run_bind,Sem.run_pure,Result.andThen_ok,List.map_toArray,List.map_cons,List.map_nil,hs,hx,hr]
 exact hK _ _ h
 ):P:=h
theorem zzKb {P:Prop} (h:P:=by
 rcases h.2.2 with ⟨h0,_⟩|⟨g',off',cap',cur,hv,_,h1,_⟩
 ·cases h0
 ·cases hv;exact h1
 ):P:=h
theorem zL9b {P:Prop} (h:P:=by
 rcases h.2.2 with ⟨h0,_⟩|⟨g',off',cap',cur,hv,_,_,h1,_⟩
 ·cases h0
 ·cases hv;exact h1
 ):P:=h
theorem zCeT {P:Prop} (h:P:=by
 refine ⟨by rw [List.length_drop];omega,h.2.1.drop _,.inr ?_⟩
 obtain ⟨g',off',cap',hv,h1,h2,h3,h4,h5⟩:=hsl.place zTbe
 cases hv
 exact ⟨g,off,0,rfl,zTbe,zTbe,trivial,h4,fun q hq=>by rw [List.length_drop] at hq;omega⟩
 ):P:=h
theorem zPIn {P:Prop} (h:P:=by
 go_ret
 refine ⟨zPXO,by rw [Nat.sub_self];exact h4,?_,by rw [h6,h3];rfl⟩
 exact ((Only.refl (fun k=>k=g) w).drew.trans h2 (fun _ _ h=>h)).trans h5 (fun _ _ h=>h)
 ):P:=h
theorem zzCN {P:Prop} (h:P:=by
 go_ret
 refine ⟨rfl,h4,?_,by rw [h6,h3];rfl⟩
 exact ((Only.refl (fun k=>k=g) w).drew.trans h2 (fun _ _ h=>h)).trans h5 (fun _ _ h=>h)
 ):P:=h
theorem zkNw {P:Prop} (h:P:=by
 clear hg
 go_enter q20,q21
 go_wp2
 go_ret
 exact ⟨rfl,(Below.refl _ _).alloc (Nat.le_refl _) _⟩
 ):P:=h
theorem za8t {P:Prop} (h:P:=by
 refine ⟨v',rfl,h1,h2,fun k hk=>?_⟩
 rcases h3 with h3|h3
 ·exact .inl (h3.symm.trans hk)
 ·have:=Option.some.inj (h3.symm.trans hk)
  exact .inr zTbe
 ):P:=h
theorem zZMJ {P:Prop} (h:P:=by rw [Nat.zero_add];exact (hx.drew.setRowOther (fun e=>hxb e.symm) _).cell j):P:=h
theorem zK0C {P:Prop} (h:P:=by
 have zz:IntKind.i64.wrap ((i:Int)+1)=(i:Int)+1:=zrPp
 exact zz):P:=h
theorem z3OW {P:Prop} (h:P:=by
 have zz:((i:Int)+1).toNat=i+1:=zTbe
 exact zz):P:=h
theorem zIOG {P:Prop} (h:P:=by
 have zz:(0:Int)≤(i:Int)+1:=zTbe
 exact zz):P:=h
theorem z083 {P:Prop} (h:P:=by simp only [Nat.min_def];split<;>omega):P:=h
theorem znbJ {P:Prop} (h:P:=by
 rw [hsp,hsp2,hsp3] at hfin
 exact ⟨rfl,hfin,(((Only.refl (fun k=>k=g) w).drew.setRow (fun _=>rfl) _).setRow (fun _=>rfl) _)⟩
 ):P:=h
theorem zr54 {P:Prop} (h:P:=by
 have h1:=(Sl.from (h.sl (B:=fun _=>True) (fun _ _=>trivial)) (Nat.le_of_lt hi)).below hg2
 rw [e,hii] at h1
 exact h1
 ):P:=h
theorem zwTo {P:Prop} (h:P:=by
 exact ⟨c,rfl,hfin hbf,below_setRow ((below_setRow HBEL.out (Nat.le_refl _) _).drew) (Nat.le_refl _) _⟩
 ):P:=h
theorem zaRA {P:Prop} (h:P:=by
 have hl:=h.1
 rw [List.take_of_length_le zTbe,List.drop_eq_nil_of_le zTbe,List.append_nil]
 ):P:=h
theorem zIYC {P:Prop} (h:P:=by
 rcases h.2.2 with ⟨h0,h1⟩|⟨g',off',cap',cur,hv,_⟩
 ·exfalso;omega
 ·cases hv;exact ⟨g',off',rfl⟩
 ):P:=h
theorem z4DJ {P:Prop} (h:P:=by
 rintro e w' ⟨h1,h2,h3⟩
 exact ⟨_,h1,h2,h3.mono (fun k _ hk=>by subst hk;rfl),fun k hk=>.inl hk⟩
 ):P:=h
theorem zOP3 {P:Prop} (h:P:=by
 rintro e w' ⟨c,h1,h2,h3⟩
 refine ⟨_,h1,h2,Only.of_none h3,fun k hk=>.inr ?_⟩
 have h4:w.heap.size=k:=Option.some.inj hk
 omega
 ):P:=h
theorem zts7 {P:Prop} (h:P:=by
 obtain ⟨g,off,cap,h1,h2,h3,h4⟩:=sl_en (ha.sl (B:=fun _=>True) (fun _ _=>trivial)) hi
 exact ⟨g,off,cap,h1,trivial,h2,h3,h4⟩
 ):P:=h
theorem zHp0 {P:Prop} (h:P:=by
 have h1:=ha.2.1
 have h2:=(enC_at l i hi).2
 rw [hx] at h2
 exact h1 _ (List.mem_of_getElem? h2)
 ):P:=h
theorem zHWv {P:Prop} (h:P:=by show ¬ b=w.heap.size;omega):P:=h
theorem zhWR {P:Prop} (h:P:=by
 have h3:=zqQ6
 exact ((h3.setCell (fun _=>.inl rfl) _).setCell (fun h=>absurd h zPXO) _).setCell (fun h=>absurd h zPXO) _
 ):P:=h
theorem zqQ6 {P:Prop} (h:P:=by
 have zz:Only (fun k=>k=b∨(Value.slice (some ⟨g,off,none⟩) l.length cap).ownBlock=some k) w w3:=((Only.of_none (S:=fun _=>False) HAL2.out).mono (fun _ _ h=>h.elim)).trans HON3.out (fun i hi hk=>.inr (by rw [hk];rfl))
 exact zz):P:=h
theorem zGJo {P:Prop} (h:P:=by
 rw [e1,List.nodup_cons]
 refine ⟨fun h=>?_,ownBlock_nodup av'⟩
 rcases hf b zynw with h2|h2
 ·exact hab h2
 ·omega
 ):P:=h
theorem zuAu {P:Prop} (h:P:=by
 rw [e1] at hk
 rcases List.mem_cons.1 hk with rfl|hk
 ·exact .inl zEaK
 ·rcases hf k zFJU with h2|h2
  ·exact .inl (by simp [feet,Res.own,h2])
  ·exact .inr h2
 ):P:=h
theorem zDoW {P:Prop} (h:P:=by
 have zz:Blk w b (value_of% n2t) [av,bv]:=T0.blk zInm
 exact zz):P:=h
theorem zJFC {P:Prop} (h:P:=by
 have zz:Blk w cb (value_of% n2t) [cav,cbv]:=T0.blk zInm
 exact zz):P:=h
theorem zPoB {P:Prop} (h:P:=by
 have zz:Own w (value_of% n1x) 2 cav ces.length (enC ces):=T0.own zInm
 exact zz):P:=h
theorem zX0n {P:Prop} (h:P:=by
 have zz:Own w (value_of% n2e) 1 cbv cks.length (ptrs cks):=T0.own zInm
 exact zz):P:=h
theorem zunR {P:Prop} (h:P:=by rw [←hnk];simp):P:=h
theorem zIzS {P:Prop} (h:P:=by simp only [cnt_append,cnt_cons,cnt_nil,y0q,y0r,y0s];omega):P:=h
theorem zq1s {P:Prop} (h:P:=by
 have kbX:Blk wX b (value_of% n2t) [av,bv]:=HTX.out.blk zInm
 have kcX:Blk wX cb (value_of% n2t) [cav,cv2]:=HTX.out.blk zInm
 have oaX:Own wX (value_of% n1x) 2 cav ces.length (enC ces):=HTX.out.own zInm
 obtain ⟨x0,x1⟩:=pg_cells kbX
 obtain ⟨y0,y1⟩:=pg_cells kcX
 rw [HBV.out] at x1
 rw [HCAV.out] at y0 oaX
 obtain ⟨g',o',c',hv',hgaX,e0,e1⟩:=sl_en (k:=2) (oaX.sl (B:=fun _=>True) (fun _ _=>trivial)) zTbe
 cases hv'
 have hone:(ces[2]).val.oneCell'=true:=oaX.2.1 _ (List.mem_of_getElem? (enC_at ces 2 zTbe).2)
 have hpX:=znNE
 have HI:=Lib.hid (y0u wX.drew b l.length av bv es ces[2] (HTX.out.drew.sepOf hpX) hone hl zTbe)
 have HP:=Lib.hid hpX
 clear kbX kcX oaX hone hpX
 obtain ⟨me,hme⟩:∃ me,me=ces[2]:=⟨_,rfl⟩
 rw [←hme] at e0 e1 HI
 have HME:=Lib.hid hme
 clear hme
 unfold ptrV at HI
 have hl2:2 < ces.length:=zTbe
 have hl2i:(2:Int) < (ces.length:Int):=zTbe
 refine wp_region_lit_plan [] [(0,0),(1,0),(2,0),(3,0),(4,0),(5,0),(6,0),(7,0),(9,0),(8,1),(10,0),(11,1),(12,4)] (fun _=>False) zyVB zyVB (fun c a d v w h=>zx0I) ?_
 go_wp2_with (first|(refine stp ?_))
 refine HI.out.mono ?_
 rintro e w6 ⟨rfl,av2,hT⟩
 have T6:=HTX.out.drew.use HP.out hT
 have kb6:Blk w6 b (value_of% n2t) [av2,bv]:=T6.blk z0tC
 obtain ⟨w7,hw7⟩:=zFvi
 have hb67:Below w6.heap.size w6 w7:=hw7▸(Below.refl _ _).alloc (Nat.le_refl _) _
 have T7:=T6.below hb67
 have hkx:=zmWW
 have hp7:=zmOM
 have T7:=T7.perm hp7
 have ok7:=zB4s
 have ok6:=z2Mt
 have HI2:=Lib.hid (y0j w7 bv (l++.node cb cav ces cbv cks::r).length (l.length+1) (ptrs (l++.node cb cav ces cbv cks::r)) [.pointer (some ⟨w1.heap.size,0,none⟩)] w6.heap.size ok7 hkx rfl (Ones.cons rfl Ones.nil) (fun h=>by have:=ok6.lt _ h;omega) zPXO (by rw [HNK.out];omega))
 obtain ⟨x0,x1⟩:=pg_cells kb6
 rw [HBV.out] at x1
 have HT7:=Lib.hid T7
 have HW7:=Lib.hid hw7
 have hcast:=zcmn
 rw [hcast,HBV.out,HNK.out] at HI2
 clear hT T6 kb6 hkx hp7 T7 ok7 ok6 HI HTX y0 y1 e0 e1
 obtain ⟨z0,z1⟩:=zmbN
 go_wp2_with (first|(refine plan_nil ?_))
 refine HI2.out.mono ?_
 rintro e w8 ⟨bv2,rfl,ho8,hon8,hf8⟩
 have hcs:=ptrs_two l r (.node cb cav ces cbv cks) (P.node cb (.slice (some ⟨ga,offa,none⟩) 2 2) (ces.take 2) cv2 (cks.take 3)) (P.node w1.heap.size (.slice p1 (ces.length - 3) c1) (ces.drop 3) v2 (cks.drop 3)) rfl
 have hln:=znLv
 have ho8':=zX9I
 rw [←HBV.out] at hon8 hf8
 have T8:=HT7.out.ownTo ho8' hon8 hf8
 obtain ⟨p8,c8,hbv2,_,_⟩:=y0f ho8
 have hp8:=zN3J
 have T8:=T8.perm hp8
 obtain ⟨w9,hw9⟩:∃ w9,w8.setCell ⟨b,1,none⟩ bv2=w9:=⟨_,rfl⟩
 have T9:=z0ep
 have kb8:Blk w8 b (value_of% n2t) [av2,bv]:=T8.blk zInm
 have kc9:Blk w9 cb (value_of% n2t) [cav,cv2]:=T9.blk zInm
 obtain ⟨x0,x1⟩:=pg_cells kb8
 obtain ⟨y0,y1⟩:=pg_cells kc9
 have hf1:=kb8.frozen 1
 have hf2:=kc9.frozen 0
 rw [HCAV.out] at y0
 have HT9:=Lib.hid T9
 have HBV2:=Lib.hid hbv2
 subst hbv2
 clear T8 T9 kb8 kc9 hp8 ho8 ho8' hon8 hf8 hcs hln HI2 HT7 z0 z1 hw7 hcast
 have hca2:2≤capa:=zTbe
 have hca2i:(2:Int)≤(capa:Int):=zTbe
 go_wp2_with fail
 clear hw9
 go_end0
 have hpA:=zSby
 have TA:=(HT9.out.perm hpA).blkSet 0 (.slice (some ⟨ga,offa,none⟩) 2 2)
 generalize w9.setCell ⟨cb,0,none⟩ (.slice (some ⟨ga,offa,none⟩) 2 2)=wA at *
 have TA:=zgoO
 have hpB:=zojp
 have oaA:Own wA (value_of% n1x) 2 cav ces.length (enC ces):=TA.own zInm
 have hoA:Own wA (value_of% n1x) 2 (.slice (some ⟨ga,offa,none⟩) 2 2) (ces.take 2).length (enC (ces.take 2)):=by
  rw [HCAV.out] at oaA
  have h1:=oaA.cut (m:=2) (c:=2) zTbe zTbe zTbe
  rw [(enC_td ces 2).1] at h1
  have h2:(ces.take 2).length=2:=z2Pg
  rw [h2]
  exact h1
 have TB:=(TA.perm hpB).swap (r':=y0r (.slice (some ⟨ga,offa,none⟩) 2 2) (ces.take 2)) hoA (show (Value.slice (some ⟨ga,offa,none⟩) 2 2).ownBlock.toList.Nodup from ownBlock_nodup _) (fun k hk=>by
  have h1:k=ga:=zhc6
  simp [Res.own,HCAV.out,Value.ownBlock,h1])
 refine ⟨rfl,P.node b av2 (insAt l.length me es) (.slice p8 (nk+1) c8) (l++P.node cb (.slice (some ⟨ga,offa,none⟩) 2 2) (ces.take 2) cv2 (cks.take 3)::P.node w1.heap.size (.slice p1 (ces.length - 3) c1) (ces.drop 3) v2 (cks.drop 3)::r),rfl,?_,TB.perm ?_⟩
 ·rw [P.t_node,P.t_node,splitT]
  have hmid:midT (T.node ces (cks.map P.t))=me:=by
   rw [HME.out]
   unfold midT T.es
   rw [List.getD_eq_getElem?_getD,List.getElem?_eq_getElem hl2];rfl
  rw [hmid]
  congr 1
  rw [List.map_append,List.map_append,List.map_cons,List.map_cons,List.map_cons,List.take_left' zPXO,drop_len1 zPXO,P.t_node,P.t_node]
  unfold leftT rightT T.es T.ts
  simp only [List.map_take,List.map_drop]
 ·refine perm_of_cnt fun a=>?_
  rw [y0t,y0p,P.resL_append,P.resL_cons,P.resL_cons,P.res_node,P.res_node]
  simp only [cnt_append,cnt_cons,cnt_nil,y0q,y0r,y0s,HRR.out a,y0p]
  omega
 ):P:=h
theorem znNE {P:Prop} (h:P:=by
 have zz:(y0q w1.heap.size (.slice p1 (ces.length - 3) c1) v2::y0r (.slice p1 (ces.length - 3) c1) (ces.drop 3)::y0s v2 (cks.drop 3)::y0q b av bv::y0r av es::y0s bv (l++.node cb cav ces cbv cks::r)::y0q cb cav cv2::y0r cav ces::y0s cv2 (cks.take 3)::R).Perm ([y0q b av bv,y0r av es]++(y0q w1.heap.size (.slice p1 (ces.length - 3) c1) v2::y0r (.slice p1 (ces.length - 3) c1) (ces.drop 3)::y0s v2 (cks.drop 3)::y0s bv (l++.node cb cav ces cbv cks::r)::y0q cb cav cv2::y0r cav ces::y0s cv2 (cks.take 3)::R)):=perm_of_cnt fun a=>zIzS
 exact zz):P:=h
theorem z0tC {P:Prop} (h:P:=by simp only [List.mem_append,List.mem_cons,true_or,or_true]):P:=h
theorem zFvi {P:Prop} (h:P:=by
 have zz:∃ w7,w6.alloc (.cells #[.pointer (some ⟨w1.heap.size,0,none⟩)] (value_of% n2e))=w7:=⟨_,rfl⟩
 exact zz):P:=h
theorem zmWW {P:Prop} (h:P:=by
 have zz:Blk w7 w6.heap.size (value_of% n2e) [.pointer (some ⟨w1.heap.size,0,none⟩)]:=hw7▸Blk.new w6 _ _
 exact zz):P:=h
theorem zmOM {P:Prop} (h:P:=by
 have zz:([y0q b av2 bv,y0r av2 (insAt l.length me es)]++(y0q w1.heap.size (.slice p1 (ces.length - 3) c1) v2::y0r (.slice p1 (ces.length - 3) c1) (ces.drop 3)::y0s v2 (cks.drop 3)::y0s bv (l++.node cb cav ces cbv cks::r)::y0q cb cav cv2::y0r cav ces::y0s cv2 (cks.take 3)::R)).Perm (y0s bv (l++.node cb cav ces cbv cks::r)::(y0q b av2 bv::y0r av2 (insAt l.length me es)::y0q w1.heap.size (.slice p1 (ces.length - 3) c1) v2::y0r (.slice p1 (ces.length - 3) c1) (ces.drop 3)::y0s v2 (cks.drop 3)::y0q cb cav cv2::y0r cav ces::y0s cv2 (cks.take 3)::R)):=perm_of_cnt fun a=>zIzS
 exact zz):P:=h
theorem zB4s {P:Prop} (h:P:=by
 have zz:Own w7 (value_of% n2e) 1 bv (l++.node cb cav ces cbv cks::r).length (ptrs (l++.node cb cav ces cbv cks::r)):=T7.own zInm
 exact zz):P:=h
theorem z2Mt {P:Prop} (h:P:=by
 have zz:Own w6 (value_of% n2e) 1 bv (l++.node cb cav ces cbv cks::r).length (ptrs (l++.node cb cav ces cbv cks::r)):=T6.own z0tC
 exact zz):P:=h
theorem zcmn {P:Prop} (h:P:=by
 have zz:((l.length+1:Nat):Int)=(l.length:Int)+1:=zTbe
 exact zz):P:=h
theorem zmbN {P:Prop} (h:P:=by
 have zz:w7.cell? ⟨b,0,none⟩=some av2∧w7.cell? ⟨b,1,none⟩=some bv:=pg_cells (HT7.out.blk (t:=(value_of% n2t)) zInm)
 exact zz):P:=h
theorem znLv {P:Prop} (h:P:=by
 have zz:nk+1=(l++P.node cb (.slice (some ⟨ga,offa,none⟩) 2 2) (ces.take 2) cv2 (cks.take 3)::P.node w1.heap.size (.slice p1 (ces.length - 3) c1) (ces.drop 3) v2 (cks.drop 3)::r).length:=by rw [←HNK.out];simp;omega
 exact zz):P:=h
theorem zX9I {P:Prop} (h:P:=by
 have zz:Own w8 (value_of% n2e) 1 bv2 (l++P.node cb (.slice (some ⟨ga,offa,none⟩) 2 2) (ces.take 2) cv2 (cks.take 3)::P.node w1.heap.size (.slice p1 (ces.length - 3) c1) (ces.drop 3) v2 (cks.drop 3)::r).length (ptrs (l++P.node cb (.slice (some ⟨ga,offa,none⟩) 2 2) (ces.take 2) cv2 (cks.take 3)::P.node w1.heap.size (.slice p1 (ces.length - 3) c1) (ces.drop 3) v2 (cks.drop 3)::r)):=by rw [←hln,←hcs];exact ho8
 exact zz):P:=h
theorem zN3J {P:Prop} (h:P:=by
 have zz:(y0s bv2 (l++P.node cb (.slice (some ⟨ga,offa,none⟩) 2 2) (ces.take 2) cv2 (cks.take 3)::P.node w1.heap.size (.slice p1 (ces.length - 3) c1) (ces.drop 3) v2 (cks.drop 3)::r)::y0q b av2 bv::y0r av2 (insAt l.length me es)::y0q w1.heap.size (.slice p1 (ces.length - 3) c1) v2::y0r (.slice p1 (ces.length - 3) c1) (ces.drop 3)::y0s v2 (cks.drop 3)::y0q cb cav cv2::y0r cav ces::y0s cv2 (cks.take 3)::R).Perm (y0q b av2 bv::(y0s bv2 (l++P.node cb (.slice (some ⟨ga,offa,none⟩) 2 2) (ces.take 2) cv2 (cks.take 3)::P.node w1.heap.size (.slice p1 (ces.length - 3) c1) (ces.drop 3) v2 (cks.drop 3)::r)::y0r av2 (insAt l.length me es)::y0q w1.heap.size (.slice p1 (ces.length - 3) c1) v2::y0r (.slice p1 (ces.length - 3) c1) (ces.drop 3)::y0s v2 (cks.drop 3)::y0q cb cav cv2::y0r cav ces::y0s cv2 (cks.take 3)::R)):=perm_of_cnt fun a=>zIzS
 exact zz):P:=h
theorem z0ep {P:Prop} (h:P:=by
 have zz:Trk w F w9 (y0q b av2 bv2::(y0s bv2 (l++P.node cb (.slice (some ⟨ga,offa,none⟩) 2 2) (ces.take 2) cv2 (cks.take 3)::P.node w1.heap.size (.slice p1 (ces.length - 3) c1) (ces.drop 3) v2 (cks.drop 3)::r)::y0r av2 (insAt l.length me es)::y0q w1.heap.size (.slice p1 (ces.length - 3) c1) v2::y0r (.slice p1 (ces.length - 3) c1) (ces.drop 3)::y0s v2 (cks.drop 3)::y0q cb cav cv2::y0r cav ces::y0s cv2 (cks.take 3)::R)):=hw9▸T8.blkSet 1 bv2
 exact zz):P:=h
theorem zSby {P:Prop} (h:P:=by
 have zz:(y0q b av2 (.slice p8 (nk+1) c8)::(y0s (.slice p8 (nk+1) c8) (l++P.node cb (.slice (some ⟨ga,offa,none⟩) 2 2) (ces.take 2) cv2 (cks.take 3)::P.node w1.heap.size (.slice p1 (ces.length - 3) c1) (ces.drop 3) v2 (cks.drop 3)::r)::y0r av2 (insAt l.length me es)::y0q w1.heap.size (.slice p1 (ces.length - 3) c1) v2::y0r (.slice p1 (ces.length - 3) c1) (ces.drop 3)::y0s v2 (cks.drop 3)::y0q cb cav cv2::y0r cav ces::y0s cv2 (cks.take 3)::R)).Perm (y0q cb cav cv2::(y0r cav ces::y0q b av2 (.slice p8 (nk+1) c8)::y0s (.slice p8 (nk+1) c8) (l++P.node cb (.slice (some ⟨ga,offa,none⟩) 2 2) (ces.take 2) cv2 (cks.take 3)::P.node w1.heap.size (.slice p1 (ces.length - 3) c1) (ces.drop 3) v2 (cks.drop 3)::r)::y0r av2 (insAt l.length me es)::y0q w1.heap.size (.slice p1 (ces.length - 3) c1) v2::y0r (.slice p1 (ces.length - 3) c1) (ces.drop 3)::y0s v2 (cks.drop 3)::y0s cv2 (cks.take 3)::R)):=perm_of_cnt fun a=>zIzS
 exact zz):P:=h
theorem zgoO {P:Prop} (h:P:=by
 have zz:Trk w F wA (y0q cb (.slice (some ⟨ga,offa,none⟩) 2 2) cv2::(y0r cav ces::y0q b av2 (.slice p8 (nk+1) c8)::y0s (.slice p8 (nk+1) c8) (l++P.node cb (.slice (some ⟨ga,offa,none⟩) 2 2) (ces.take 2) cv2 (cks.take 3)::P.node w1.heap.size (.slice p1 (ces.length - 3) c1) (ces.drop 3) v2 (cks.drop 3)::r)::y0r av2 (insAt l.length me es)::y0q w1.heap.size (.slice p1 (ces.length - 3) c1) v2::y0r (.slice p1 (ces.length - 3) c1) (ces.drop 3)::y0s v2 (cks.drop 3)::y0s cv2 (cks.take 3)::R)):=TA
 exact zz):P:=h
theorem zojp {P:Prop} (h:P:=by
 have zz:(y0q cb (.slice (some ⟨ga,offa,none⟩) 2 2) cv2::(y0r cav ces::y0q b av2 (.slice p8 (nk+1) c8)::y0s (.slice p8 (nk+1) c8) (l++P.node cb (.slice (some ⟨ga,offa,none⟩) 2 2) (ces.take 2) cv2 (cks.take 3)::P.node w1.heap.size (.slice p1 (ces.length - 3) c1) (ces.drop 3) v2 (cks.drop 3)::r)::y0r av2 (insAt l.length me es)::y0q w1.heap.size (.slice p1 (ces.length - 3) c1) v2::y0r (.slice p1 (ces.length - 3) c1) (ces.drop 3)::y0s v2 (cks.drop 3)::y0s cv2 (cks.take 3)::R)).Perm (y0r cav ces::(y0q cb (.slice (some ⟨ga,offa,none⟩) 2 2) cv2::y0q b av2 (.slice p8 (nk+1) c8)::y0s (.slice p8 (nk+1) c8) (l++P.node cb (.slice (some ⟨ga,offa,none⟩) 2 2) (ces.take 2) cv2 (cks.take 3)::P.node w1.heap.size (.slice p1 (ces.length - 3) c1) (ces.drop 3) v2 (cks.drop 3)::r)::y0r av2 (insAt l.length me es)::y0q w1.heap.size (.slice p1 (ces.length - 3) c1) v2::y0r (.slice p1 (ces.length - 3) c1) (ces.drop 3)::y0s v2 (cks.drop 3)::y0s cv2 (cks.take 3)::R)):=perm_of_cnt fun a=>zIzS
 exact zz):P:=h
theorem zhc6 {P:Prop} (h:P:=by simpa [Res.own,Value.ownBlock] using hk):P:=h
theorem zPv8 {P:Prop} (h:P:=by rw [y0t];simp only [cnt_append,cnt_cons,cnt_nil,y0q,y0r,y0s];omega):P:=h
theorem zZqg {P:Prop} (h:P:=by
 have zz:(y0q b av bv::y0r av es::y0s bv []::y0p []).Perm ([y0q b av bv,y0r av es]++(y0s bv []::y0p [])):=perm_of_cnt fun a=>zIzS
 exact zz):P:=h
theorem z1Ck {P:Prop} (h:P:=by simp only [cnt_append,cnt_cons,cnt_nil,y0o,y0p,y0q,y0r,y0s,P.resL_append,P.resL_cons,P.res_node];omega):P:=h
theorem zUFh {P:Prop} (h:P:=by
 have zz:Own w (value_of% n2e) 1 bv (kl++kc::kr).length (ptrs (kl++kc::kr)):=T0.own zInm
 exact zz):P:=h
theorem zqdF {P:Prop} (h:P:=by
 have zz:∃ nk,(kl++kc::kr).length=nk:=⟨_,rfl⟩
 exact zz):P:=h
theorem z872 {P:Prop} (h:P:=by
 have zz:Blk w2 b (value_of% n2t) [av,bv]:=T2.blk zInm
 exact zz):P:=h
theorem zWUf {P:Prop} (h:P:=by
 have zz:Own w2 (value_of% n2e) 1 bv (kl++kc::kr).length (ptrs (kl++kc::kr)):=T2.own zInm
 exact zz):P:=h
theorem zrjT {P:Prop} (h:P:=by
 have zz:ptrs (kl++.node kc.blk cav ces cbv cks::kr)=ptrs (kl++kc::kr):=zy6c
 exact zz):P:=h
theorem zy6c {P:Prop} (h:P:=by simp [ptrs,P.blk]):P:=h
theorem z5vv {P:Prop} (h:P:=by
 have zz:(kl++P.node kc.blk cav ces cbv cks::kr).length=(kl++kc::kr).length:=zPXO
 exact zz):P:=h
theorem z4xf {P:Prop} (h:P:=by
 rcases hsh with h|h
 ·left;simpa [T.ts] using h
 ·right;simpa [T.ts,T.es] using h
 ):P:=h
theorem zuh6 {P:Prop} (h:P:=by rcases hsh with h|h;exact .inl h;exact .inr (by omega)):P:=h
theorem zD2f {P:Prop} (h:P:=by rcases hsh with h|h;(rw [h];simp);omega):P:=h
theorem zkTB {P:Prop} (h:P:=by rw [flat_leaf];exact hr):P:=h
theorem z673 {P:Prop} (h:P:=by
 have zz:ks.length=es.length+1:=by simpa using hf2
 exact zz):P:=h
theorem zxXA {P:Prop} (h:P:=by
 rw [List.getElem?_map,List.getElem?_eq_getElem hpl] at hg
 simpa using hg
 ):P:=h
theorem ziwa {P:Prop} (h:P:=by
 have zz:ks=ks.take (pos k es)++ks[pos k es]::ks.drop (pos k es+1):=zQpK
 exact zz):P:=h
theorem zQpK {P:Prop} (h:P:=by rw [←List.drop_eq_getElem_cons hpl,List.take_append_drop]):P:=h
theorem zwlH {P:Prop} (h:P:=by
 have zz:(ks.take (pos k es)).length=pos k es:=z2Pg
 exact zz):P:=h
theorem zkeD {P:Prop} (h:P:=by rw [hfl] at hr;exact hr.right.left):P:=h
theorem zsK8 {P:Prop} (h:P:=by rw [hfl] at hn;simp at hn;omega):P:=h
theorem zAzv {P:Prop} (h:P:=by rw [←hcm,List.mem_map];exact ⟨kc,by simp,rfl⟩):P:=h
theorem zGlH {P:Prop} (h:P:=by rcases hpf.shape with ⟨_,h⟩|⟨_,h⟩<;>simp [h]):P:=h
theorem zigJ {P:Prop} (h:P:=by
 rw [ht',hput,hkll]
 split
 ·rfl
 ·congr 1
  rw [List.map_append,List.map_cons,set_len (by rw [List.length_map];exact hkll)]
 ):P:=h
theorem zYhk {P:Prop} (h:P:=by
 have zz:(y13 tb p n).Perm (y0o p++[y12 tb p n]):=perm_of_cnt fun a=>zNod
 exact zz):P:=h
theorem zNod {P:Prop} (h:P:=by simp only [cnt_append,cnt_cons,cnt_nil,y13,y12,P.blk_node,y0o,y0p,y0q,y0r,y0s,P.resL_append,P.resL_cons,P.resL_nil,P.res_node]<;>omega):P:=h
theorem zyEN {P:Prop} (h:P:=by
 have zz:(y0o (.node p.blk cav ces cbv cks)++[y12 tb p n]).Perm (y12 tb p n::y0q p.blk cav cbv::y0r cav ces::y0s cbv cks::y0p cks):=perm_of_cnt fun a=>zNod
 exact zz):P:=h
theorem zKcV {P:Prop} (h:P:=by
 have zz:∃ w5,w4.setCell ⟨tb,0,none⟩ (.pointer (some ⟨w3.heap.size,0,none⟩))=w5:=⟨_,rfl⟩
 exact zz):P:=h
theorem zsuc {P:Prop} (h:P:=by simp only [List.nil_append,cnt_append,cnt_cons,cnt_nil,y13,y12,P.blk_node,y0o,y0p,y0q,y0r,y0s,P.resL_append,P.resL_cons,P.resL_nil,P.res_node];omega):P:=h
theorem zxdH {P:Prop} (h:P:=by simp only [cnt_append,cnt_cons,cnt_nil,List.set_cons_zero];omega):P:=h
theorem zsiD {P:Prop} (h:P:=by
 show Trk w F _ (y12 tb (.node p.blk cav ces cbv cks) (n+1)::y0o (.node p.blk cav ces cbv cks))
 rw [e]
 exact T4.perm (perm_of_cnt fun a=>zNod)
 ):P:=h
theorem zHiX {P:Prop} (h:P:=by
 have zz:Trk w F w (y0q b av bv::y0r av (ea++x::eb)::y0s bv (l++.node ab aav aes abv aks::.node cb cav ces cbv cks::r)::y0q ab aav abv::y0r aav aes::y0s abv aks::y0q cb cav cbv::y0r cav ces::y0s cbv cks::(y0p aks++(y0p cks++(y0p l++y0p r)))):=T0.perm (perm_of_cnt fun a=>zR75)
 exact zz):P:=h
theorem zR75 {P:Prop} (h:P:=by simp only [cnt_append,cnt_cons,cnt_nil,y0o,y0p,y0q,y0r,y0s,P.resL_append,P.resL_cons,P.resL_nil,P.res_node]<;>omega):P:=h
theorem zqgq {P:Prop} (h:P:=by
 have zz:Own w (value_of% n1x) 2 av (ea++x::eb).length (enC (ea++x::eb)):=T0.own zInm
 exact zz):P:=h
theorem zjHr {P:Prop} (h:P:=by
 have zz:Own w (value_of% n2e) 1 bv (l++.node ab aav aes abv aks::.node cb cav ces cbv cks::r).length (ptrs (l++.node ab aav aes abv aks::.node cb cav ces cbv cks::r)):=T0.own zInm
 exact zz):P:=h
theorem zTdj {P:Prop} (h:P:=by
 have zz:Own w (value_of% n1x) 2 aav aes.length (enC aes):=T0.own zInm
 exact zz):P:=h
theorem zt6r {P:Prop} (h:P:=by
 have zz:Own w (value_of% n2e) 1 abv aks.length (ptrs aks):=T0.own zInm
 exact zz):P:=h
theorem zNYv {P:Prop} (h:P:=by
 have zz:(l++.node ab aav aes abv aks::.node cb cav ces cbv cks::r)[l.length]'(zPXO)=.node ab aav aes abv aks:=zPXO
 exact zz):P:=h
theorem zVg4 {P:Prop} (h:P:=by
 rw [List.getElem_append_right zTbe]
 have:l.length+1 - l.length=1:=zTbe
 simp [this]
 ):P:=h
theorem zGTR {P:Prop} (h:P:=by
 have zz:w.cell? ⟨gk,offk+l.length,none⟩=some (.pointer (some ⟨ab,0,none⟩)):=q0
 exact zz):P:=h
theorem zEsJ {P:Prop} (h:P:=by
 have zz:w.cell? ⟨gk,offk+(l.length+1),none⟩=some (.pointer (some ⟨cb,0,none⟩)):=q1
 exact zz):P:=h
theorem zGvV {P:Prop} (h:P:=by
 have zz:∃ nk,(l++.node ab aav aes abv aks::.node cb cav ces cbv cks::r).length=nk:=⟨_,rfl⟩
 exact zz):P:=h
theorem z1eC {P:Prop} (h:P:=by
 have zz:ne=l.length+(eb.length+1):=by rw [←hne,←hl];simp
 exact zz):P:=h
theorem zuUP {P:Prop} (h:P:=by
 have zz:(ea++x::eb)[l.length]?=some x:=by rw [←hl];simp
 exact zz):P:=h
theorem zw3Q {P:Prop} (h:P:=by
 have h1:=zICb
 have h2:=(enC_at (ea++x::eb) l.length h1).2
 rw [List.getElem?_eq_getElem h1] at hex
 rw [Option.some.inj hex] at h2
 exact oe.2.1 _ (List.mem_of_getElem? h2)
 ):P:=h
theorem zICb {P:Prop} (h:P:=by
 have zz:l.length < (ea++x::eb).length:=znrV
 exact zz):P:=h
theorem znrV {P:Prop} (h:P:=by rw [hne];exact hle1):P:=h
theorem zQt0 {P:Prop} (h:P:=by
 have h1:=zICb
 have h2:=sl_en (h.sl (B:=fun _=>True) (fun _ _=>trivial)) h1
 rw [List.getElem?_eq_getElem h1] at hex
 rw [Option.some.inj hex,hne] at h2
 exact h2
 ):P:=h
theorem zCr4 {P:Prop} (h:P:=by
 have h:=HT2.out
 have e:(ea++x::eb).set l.length y=ea++y::eb:=set_len HL.out
 rw [←e]
 rw [HAV.out] at h ⊢
 exact h.setEn HNE.out.symm (by rw [HNE.out];exact hle1) y hyo
 ):P:=h
theorem zhU6 {P:Prop} (h:P:=by simp [P.t_node]):P:=h
theorem zpOg {P:Prop} (h:P:=by
 have zz:Below w3.heap.size w3 (w3.alloc (.cells #[ptrV k1.blk] (value_of% n2e))).drew:=((Below.refl _ _).alloc (Nat.le_refl _) _).drew
 exact zz):P:=h
theorem zLvq {P:Prop} (h:P:=by
 have zz:Blk (w3.alloc (.cells #[ptrV k1.blk] (value_of% n2e))).drew w3.heap.size (value_of% n2e) [ptrV k1.blk]:=(Blk.new w3 _ _).drew
 exact zz):P:=h
theorem zr1M {P:Prop} (h:P:=by simp only [cnt_append,cnt_cons,cnt_nil,y0o,y0p,y0q,y0r,y0s,P.resL_append,P.resL_cons,P.resL_nil,P.res_node,List.set_cons_zero,List.set_cons_succ]<;>omega):P:=h
namespace Go.Afx
open Go Go.RowKit
section
variable {P : Program} {t e ty : TypeId} {sz bytes : Nat} {z : Value} {w : World}
def over (cur news:List Value) (o:Nat):List Value:=cur.take o++news++cur.drop (o+news.length)
theorem over_length {cur news:List Value} {o:Nat} (h:o+news.length≤cur.length):(over cur news o).length=cur.length:=by
 unfold over
 simp only [List.length_append,List.length_take,List.length_drop]
 omega
theorem run_copy_blk (he:Elem P t e sz bytes z) {g o dLen dCap:Nat} {cur:List Value} (hb:Blk w g e cur) {B:Nat→Prop} {x:Value} {m:Nat} {news:List Value} (hx:Sl w B sz x m news)
 (hfit:o+min m dLen*sz≤cur.length) :
 (Builtin.copy_ #[t,t] ty #[.slice (some ⟨g,o,none⟩) dLen dCap,x]).run P w=.ok (.int .i64 (min m dLen:Nat)) (w.setRow g (over cur (news.take (min m dLen*sz)) o).toArray):=by
 obtain ⟨i,hi,hz,hsize,hby⟩:=he.parts
 have ht:=he.sl
 subst hsize
 obtain ⟨p,cap,rfl,hc1,hc2⟩:=hx.form
 have hlen:=(hx.first (P:=P)).2
 have htk:=hx.take (m:=min m dLen) (Nat.min_le_left _ _)
 have hf:=(htk.first (P:=P)).1
 have hf2:(Builtin.firstCells i.size (min m dLen) (.slice p m cap)).run P w=.ok (news.take (min m dLen*i.size)).toArray w:=by
  cases p<;>exact hf
 have hnl:(news.take (min m dLen*i.size)).length=min m dLen*i.size:=by
  rw [List.length_take,hx.1]
  have:min m dLen*i.size≤m*i.size:=Nat.mul_le_mul_right _ (Nat.min_le_left _ _)
  omega
 have hst:=run_storeCells_at P g o e (news.take (min m dLen*i.size)) 0 cur.toArray w hb (by simp only [List.size_toArray,hnl];omega) (hx.2.1.take _)
 simp only [Nat.add_zero] at hst
 have hmm:Nat.min m dLen=min m dLen:=rfl
 exact zxI0
theorem run_copy_part (he:Elem P t e sz bytes z) {g o dLen dCap:Nat} {cur:List Value} (hb:Blk w g e cur) {B:Nat→Prop} {p:Option Addr} {m cap q:Nat} {news:List Value} (hq:q=min m dLen) (hx:Sl w B sz (.slice p q cap) q news)
 (hfit:o+q*sz≤cur.length) :
 (Builtin.copy_ #[t,t] ty #[.slice (some ⟨g,o,none⟩) dLen dCap,.slice p m cap]).run P w=.ok (.int .i64 (q:Nat)) (w.setRow g (over cur news o).toArray):=by
 obtain ⟨i,hi,hz,hsize,hby⟩:=he.parts
 have ht:=he.sl
 subst hsize
 have hlen:(Builtin.lenOf (.slice p m cap)).run P w=.ok m w:=zt4P
 have hf:=(hx.first (P:=P)).1
 have hf2:(Builtin.firstCells i.size q (.slice p m cap)).run P w=.ok news.toArray w:=by
  cases p<;>exact hf
 have hst:=run_storeCells_at P g o e news 0 cur.toArray w hb (by simp only [List.size_toArray,hx.1];omega) hx.2.1
 simp only [Nat.add_zero] at hst
 have hmm:Nat.min m dLen=q:=hq.symm
 exact zxI0
section steps
variable {ops : Array Oper} {rest : List Oper} {o : Oper} {a : Act} {Q : Exit → Act → World → Prop}
theorem wpList_copy (hgd:o.guard=none) (d x:Operand) (ho:o.op=.call { callee:=.builtin .copy,args:=#[d,x],argTypes:=#[t,t] })
 (he:Elem P t e sz bytes z) {g off dLen dCap:Nat} {cur:List Value} (hd:a.eval d=.slice (some ⟨g,off,none⟩) dLen dCap) (hb:Blk w g e cur) {B:Nat→Prop} {p:Option Addr} {m cap q:Nat} {news:List Value}
 (hxv:a.eval x=.slice p m cap) (hq:q=min m dLen) (hx:Sl w B sz (.slice p q cap) q news) (hfit:off+q*sz≤cur.length)
 (h:wpList P ops Q rest (a.put o.dst (.int .i64 (q:Nat))) (w.setRow g (over cur news off).toArray)):wpList P ops Q (o::rest) a w:=by
 have hr:=run_copy_part (P:=P) (ty:=o.type) he (dCap:=dCap) hb hq hx hfit
 refine wpList_plain hgd fun K hK=>?_
 unfold Oper.wp execOp
 simp only [ho,resolve,invoke,builtin,Sem.run_bind,Sem.run_pure,Result.andThen_ok,List.map_toArray,List.map_cons,List.map_nil,hd,hxv,hr]
 exact hK _ _ h
theorem wpList_app_grow (hgd:o.guard=none) (s x:Operand) (ho:o.op=.call { callee:=.builtin .append,args:=#[s,x],argTypes:=#[t,t] })
 {v:Value} (hs:a.eval s=v) {xv:Value} (hx:a.eval x=xv) {v':Value} {w':World}
 (hr:(Builtin.append_ #[t,t] o.type #[v,xv]).run P w=.ok v' w')
 (h:wpList P ops Q rest (a.put o.dst v') w'):wpList P ops Q (o::rest) a w:=by
 refine wpList_plain hgd fun K hK=>?_
 exact zPHS
end steps
theorem run_app_grow (he:Elem P t e sz bytes z) {g off n cap:Nat} {cs:List Value} (hown:Own w e sz (.slice (some ⟨g,off,none⟩) n cap) n cs) {B:Nat→Prop} {x:Value} {m:Nat} {news:List Value} (hx:Sl w B sz x m news)
 (hgr:cap < n+m) (h63:n+m≤maxLen) (hb:(n+m)*bytes≤140737488355328) :
 ∃ c w',(Builtin.append_ #[t,t] ty #[.slice (some ⟨g,off,none⟩) n cap,x]).run P w=.ok (.slice (some ⟨w.heap.size,0,none⟩) (n+m) c) w'∧Own w' e sz (.slice (some ⟨w.heap.size,0,none⟩) (n+m) c) (n+m) (cs++news) ∧
  Below w.heap.size w w'∧w'.heap.size=w.heap.size+1:=by
 obtain ⟨i,hi,hz,hsize,hby⟩:=he.parts
 have ht:=he.sl
 have hzs:=he.zs
 subst hsize
 subst hby
 have hlen:(cs++news).length=(n+m)*i.size:=zV2H
 have hones:Ones (cs++news):=hown.2.1.append hx.2.1
 have hncap:n≤cap:=by
  rcases hown.2.2 with ⟨h0,_⟩|⟨g2,off2,cap2,cur,hv,hbk,hnc,_⟩
  ·cases h0
  ·cases hv;exact hnc
 rcases hx.2.2 with ⟨p,cap',rfl,rfl,_,_⟩|⟨g',off',cap',rfl,_,_,_,_,hcell⟩
 ·omega
 ·have holds:∀ j u,cs[j]?=some u→w.cell? ((⟨g,off,none⟩:Addr).add j)=some u:=by
   exact z7p4
  have hr:=run_append_grow (P:=P) w t ty e i z ht hi hz ⟨g,off,none⟩ n cap cs hown.1 holds ⟨g',off',none⟩ m cap' news hx.1 (news_of_sl hcell) zTbe (by simp only [maxLen] at h63;omega) (growslice_fits zTbe hb)
  have hge:=grownCap_ge w (n+m) cap e
  have hcm:grownCap w (n+m) cap e≤maxLen:=grownCap_le_maxLen w (n+m) cap e h63
  have hsz2:(cs++news++(Builtin.zeroCells z.cells (grownCap w (n+m) cap e - (n+m))).toList).length=grownCap w (n+m) cap e*i.size:=by
   exact zCtK
  have h1:=Own.made w.drew e i.size (cs++news) (Builtin.zeroCells z.cells (grownCap w (n+m) cap e - (n+m))).toList (n+m) (grownCap w (n+m) cap e) hlen hones hge hcm zTbe
  have e1:(cs++news++(Builtin.zeroCells z.cells (grownCap w (n+m) cap e - (n+m))).toList).toArray=cs.toArray++news.toArray++Builtin.zeroCells z.cells (grownCap w (n+m) cap e - (n+m)):=zPXO
  rw [e1] at h1
  exact ⟨_,_,hr,h1,((Below.refl _ _).drew).alloc (Nat.le_refl _) _,zPXO⟩
theorem Sl.from {B:Nat→Prop} {g off n cap:Nat} {cs:List Value} (h:Sl w B sz (.slice (some ⟨g,off,none⟩) n cap) n cs) {k:Nat} (hk:k≤n) :
 Sl w B sz (.slice (some ⟨g,off+k*sz,none⟩) (n - k) (cap - k)) (n - k) (cs.drop (k*sz)):=by
 have hl:(cs.drop (k*sz)).length=(n - k)*sz:=by rw [List.length_drop,h.1,Nat.sub_mul]
 refine ⟨hl,fun u hu=>h.2.1 u (List.mem_of_mem_drop hu),?_⟩
 rcases h.2.2 with ⟨p,c,hv,hn,hc,_⟩|⟨g',off',cap',hv,a1,a2,a3,a4,a5⟩
 ·cases hv
  refine .inl ⟨some ⟨g,off+k*sz,none⟩,cap - k,?_,zTbe,zTbe,fun h=>by cases h⟩
  have:0 - k=0:=zTbe
  rw [this]
 ·cases hv
  refine .inr ⟨g,off+k*sz,cap - k,rfl,zTbe,zTbe,a3,a4,fun j hj=>?_⟩
  rw [hl] at hj
  have e1:off+k*sz+j=off+(k*sz+j):=zTbe
  rw [e1,a5 (k*sz+j) (by rw [h.1];have:k*sz+(n - k)*sz=n*sz:=by rw [←Nat.add_mul];congr 1;omega
                         omega),List.getElem?_drop]
theorem over_ins (pre c1 c2 s1 s2 vs:List Value) (h:s1.length=vs.length) :
 over (over (pre++(c1++(c2++(s1++s2)))) c2 (pre.length+c1.length+vs.length)) vs (pre.length+c1.length)=pre++(c1++(vs++(c2++s2))):=by
 have e1:pre++(c1++(c2++(s1++s2)))=(pre++c1)++(c2++(s1++s2)):=zPXO
 have hl:(pre++c1).length=pre.length+c1.length:=zPXO
 have hx:((pre++c1)++(c2++(s1++s2))).take (pre.length+c1.length+vs.length)=(pre++c1)++(c2++(s1++s2)).take vs.length:=by
  rw [←hl,List.take_append,List.take_of_length_le zTbe]
  congr 2
  omega
 have hd:((pre++c1)++(c2++(s1++s2))).drop (pre.length+c1.length+vs.length+c2.length)=s2:=by
  have e2:(pre++c1)++(c2++(s1++s2))=(pre++c1++c2++s1)++s2:=zPXO
  rw [e2]
  have e3:pre.length+c1.length+vs.length+c2.length=(pre++c1++c2++s1).length:=zr2F
  rw [e3,List.drop_left]
 have hin:over (pre++(c1++(c2++(s1++s2)))) c2 (pre.length+c1.length+vs.length)=((pre++c1)++(c2++(s1++s2)).take vs.length)++(c2++s2):=by
  unfold over
  rw [e1,hx,hd]
  simp
 rw [hin]
 unfold over
 have hk:((c2++(s1++s2)).take vs.length).length=vs.length:=by
  rw [List.length_take];simp;omega
 have ht:(((pre++c1)++(c2++(s1++s2)).take vs.length)++(c2++s2)).take (pre.length+c1.length)=pre++c1:=by
  rw [List.append_assoc,←hl,List.take_left]
 have hdd:(((pre++c1)++(c2++(s1++s2)).take vs.length)++(c2++s2)).drop (pre.length+c1.length+vs.length)=c2++s2:=by
  have e3:pre.length+c1.length+vs.length=((pre++c1)++(c2++(s1++s2)).take vs.length).length:=by rw [List.length_append,hk,hl]
  rw [e3,List.drop_left]
 rw [ht,hdd]
 simp
theorem row_parts {cur cs:List Value} {off N:Nat} (h:(cur.drop off).take N=cs) (hN:cs.length=N) (ho:off+N≤cur.length):cur=cur.take off++(cs++cur.drop (off+N)):=by
 subst hN
 have h1:cur.drop off=cs++cur.drop (off+cs.length):=by
  rw [←List.drop_drop]
  conv=>lhs;rw [←List.take_append_drop cs.length (cur.drop off),h]
 rw [←h1,List.take_append_drop]
theorem Own.inserted {g off n cap:Nat} {cs cur:List Value} (hown:Own w e sz (.slice (some ⟨g,off,none⟩) n cap) n cs) (hb:Blk w g e cur) (hc:off+cap*sz≤cur.length) (ht:(cur.drop off).take (n*sz)=cs)
 {i m:Nat} (hi:i≤n) {vs:List Value} (hv:vs.length=m*sz) (hvo:Ones vs) (hroom:n+m≤cap) (hcm:cap≤maxLen) :
 Own ((w.setRow g (over cur (cs.drop (i*sz)) (off+(i+m)*sz)).toArray).setRow g (over (over cur (cs.drop (i*sz)) (off+(i+m)*sz)) vs (off+i*sz)).toArray) e sz (.slice (some ⟨g,off,none⟩) (n+m) cap) (n+m)
  (cs.take (i*sz)++(vs++cs.drop (i*sz))):=by
 have hnl:cs.length=n*sz:=hown.1
 have h3:(n+m)*sz≤cap*sz:=Nat.mul_le_mul_right _ hroom
 rw [Nat.add_mul] at h3
 have hin:i*sz≤n*sz:=Nat.mul_le_mul_right _ hi
 have hcur:=row_parts ht hnl zTbe
 have hc1:(cs.take (i*sz)).length=i*sz:=z2Pg
 have hpre:(cur.take off).length=off:=z2Pg
 have hs1:((cur.drop (off+n*sz)).take (m*sz)).length=vs.length:=by rw [List.length_take,List.length_drop,hv];omega
 have hsplit:cur=cur.take off++(cs.take (i*sz)++(cs.drop (i*sz)++((cur.drop (off+n*sz)).take (m*sz)++(cur.drop (off+n*sz)).drop (m*sz)))):=by
  conv=>lhs;rw [hcur]
  rw [List.take_append_drop,←List.append_assoc (cs.take (i*sz)),List.take_append_drop]
 have hov:=over_ins (cur.take off) (cs.take (i*sz)) (cs.drop (i*sz)) ((cur.drop (off+n*sz)).take (m*sz)) ((cur.drop (off+n*sz)).drop (m*sz)) vs hs1
 rw [←hsplit,hpre,hc1,hv] at hov
 have e1:off+(i+m)*sz=off+i*sz+m*sz:=by rw [Nat.add_mul];omega
 rw [e1,hov]
 have hres:(cs.take (i*sz)++(vs++cs.drop (i*sz))).length=(n+m)*sz:=by
  rw [List.length_append,List.length_append,hc1,hv,List.length_drop,hnl,Nat.add_mul];omega
 refine ⟨hres,?_,.inr ⟨g,off,cap,_,rfl,(hb.setRow _).setRow _,hroom,hcm,?_,?_⟩⟩
 ·intro u hu
  rcases List.mem_append.1 hu with hu|hu
  ·exact hown.2.1 u (List.mem_of_mem_take hu)
  ·rcases List.mem_append.1 hu with hu|hu
   ·exact hvo u hu
   ·exact hown.2.1 u (List.mem_of_mem_drop hu)
 ·simp only [List.length_append,hpre,hc1,hv,List.length_drop,hnl]
  omega
 ·have e4:(cur.take off++(cs.take (i*sz)++(vs++(cs.drop (i*sz)++(cur.drop (off+n*sz)).drop (m*sz))))).drop off=cs.take (i*sz)++(vs++(cs.drop (i*sz)++(cur.drop (off+n*sz)).drop (m*sz))):=by
   conv=>lhs;rw [←hpre]
   rw [hpre]
   have:=List.drop_left (l₁:=cur.take off) (l₂:=cs.take (i*sz)++(vs++(cs.drop (i*sz)++(cur.drop (off+n*sz)).drop (m*sz))))
   rwa [hpre] at this
  rw [e4]
  have e5:cs.take (i*sz)++(vs++(cs.drop (i*sz)++(cur.drop (off+n*sz)).drop (m*sz)))=(cs.take (i*sz)++(vs++cs.drop (i*sz)))++(cur.drop (off+n*sz)).drop (m*sz):=zPXO
  rw [e5,←hres,List.take_left]
theorem over_mid (pre cs suf news:List Value) (pos:Nat) (h:pos+news.length≤cs.length):over (pre++(cs++suf)) news (pre.length+pos)=pre++(over cs news pos++suf):=by
 unfold over
 have h1:(pre++(cs++suf)).take (pre.length+pos)=pre++cs.take pos:=by
  rw [List.take_append,List.take_of_length_le zTbe]
  have:pre.length+pos - pre.length=pos:=zTbe
  rw [this,List.take_append_of_le_length zTbe]
 have h2:(pre++(cs++suf)).drop (pre.length+pos+news.length)=cs.drop (pos+news.length)++suf:=by
  rw [List.drop_append,List.drop_eq_nil_of_le zTbe,List.nil_append]
  have:pre.length+pos+news.length - pre.length=pos+news.length:=zTbe
  rw [this,List.drop_append_of_le_length zTbe]
 rw [h1,h2]
 simp
theorem Own.over {g off n cap:Nat} {cs cur:List Value} (hown:Own w e sz (.slice (some ⟨g,off,none⟩) n cap) n cs) (hb:Blk w g e cur) (hc:off+cap*sz≤cur.length) (ht:(cur.drop off).take (n*sz)=cs) (hnc:n≤cap) (hcm:cap≤maxLen)
 {news:List Value} {pos:Nat} (hp:pos+news.length≤n*sz) (hno:Ones news) :
 Own (w.setRow g (Afx.over cur news (off+pos)).toArray) e sz (.slice (some ⟨g,off,none⟩) n cap) n (Afx.over cs news pos)∧((Afx.over cur news (off+pos)).drop off).take (n*sz)=Afx.over cs news pos∧(Afx.over cur news (off+pos)).length=cur.length:=by
 have hnl:cs.length=n*sz:=hown.1
 have h3:n*sz≤cap*sz:=Nat.mul_le_mul_right _ hnc
 have hcur:=row_parts ht hnl zTbe
 have hpre:(cur.take off).length=off:=z2Pg
 have hol:(Afx.over cs news pos).length=n*sz:=by rw [over_length zTbe,hnl]
 have hov:=over_mid (cur.take off) cs (cur.drop (off+n*sz)) news pos zTbe
 rw [←hcur,hpre] at hov
 have htk:((Afx.over cur news (off+pos)).drop off).take (n*sz)=Afx.over cs news pos:=by
  rw [hov]
  have:=List.drop_left (l₁:=cur.take off) (l₂:=Afx.over cs news pos++cur.drop (off+n*sz))
  rw [hpre] at this
  rw [this,←hol,List.take_left]
 have hll:=over_length (cur:=cur) (news:=news) (o:=off+pos) zTbe
 refine ⟨⟨hol,?_,.inr ⟨g,off,cap,_,rfl,hb.setRow _,hnc,hcm,by rw [hll];exact hc,htk⟩⟩,htk,hll⟩
 intro u hu
 unfold Afx.over at hu
 rcases List.mem_append.1 hu with hu|hu
 ·rcases List.mem_append.1 hu with hu|hu
  ·exact hown.2.1 u (List.mem_of_mem_take hu)
  ·exact hno u hu
 ·exact hown.2.1 u (List.mem_of_mem_drop hu)
theorem over_two (c1 zs vs c2:List Value) (h:zs.length=vs.length+c2.length):over (over (c1++zs) vs c1.length) c2 (c1.length+vs.length)=c1++(vs++c2):=by
 have h1:over (c1++zs) vs c1.length=c1++(vs++zs.drop vs.length):=by
  unfold over
  rw [List.take_left,List.drop_append,List.drop_eq_nil_of_le zTbe]
  have:c1.length+vs.length - c1.length=vs.length:=zTbe
  rw [this];simp
 rw [h1]
 unfold over
 have e1:c1++(vs++zs.drop vs.length)=(c1++vs)++zs.drop vs.length:=zPXO
 have e2:c1.length+vs.length=(c1++vs).length:=zPXO
 rw [e1,e2,List.take_left,List.drop_eq_nil_of_le zr2F]
 simp
end
end Go.Afx
namespace Go.Proofs.YteggkjdlajgenaaGreatDoor
open Go.RowKit Go.Afx
namespace TyS
def n1x:Nat:=184
def n24:Nat:=125
def n28:Nat:=204
def n2a:Nat:=177
def n2e:Nat:=172
def n2j:Nat:=187
def n2l:Nat:=180
def n2t:Nat:=182
def n2z:Nat:=174
def n32:Nat:=167
def n35:Nat:=177
def n36:Nat:=170
theorem q1u:type_of% Tryz.underlying177:=Tryz.underlying177
theorem q1v:type_of% Tryz.func168:=Tryz.func168
theorem q1w:type_of% Tryz.ntmps168:=Tryz.ntmps168
theorem q1y:type_of% Tryz.func197:=Tryz.func197
theorem q1z:type_of% Tryz.ntmps197:=Tryz.ntmps197
theorem q20:type_of% Tryz.func125:=Tryz.func125
theorem q21:type_of% Tryz.ntmps125:=Tryz.ntmps125
theorem q22:type_of% Tryz.func124:=Tryz.func124
theorem q23:type_of% Tryz.ntmps124:=Tryz.ntmps124
theorem q25:type_of% Tryz.results124:=Tryz.results124
theorem q26:type_of% Tryz.func186:=Tryz.func186
theorem q27:type_of% Tryz.ntmps186:=Tryz.ntmps186
theorem q29:type_of% Tryz.func204:=Tryz.func204
theorem q2b:type_of% Tryz.underlying180:=Tryz.underlying180
theorem q2c:type_of% Tryz.func169:=Tryz.func169
theorem q2d:type_of% Tryz.ntmps169:=Tryz.ntmps169
theorem q2f:type_of% Tryz.func211:=Tryz.func211
theorem q2g:type_of% Tryz.ntmps211:=Tryz.ntmps211
theorem q2h:type_of% Tryz.func170:=Tryz.func170
theorem q2i:type_of% Tryz.ntmps170:=Tryz.ntmps170
theorem q2k:type_of% Tryz.func187:=Tryz.func187
theorem q2m:type_of% Tryz.func91:=Tryz.func91
theorem q2n:type_of% Tryz.ntmps91:=Tryz.ntmps91
theorem q2o:type_of% Tryz.results91:=Tryz.results91
theorem q2p:type_of% Tryz.func92:=Tryz.func92
theorem q2q:type_of% Tryz.ntmps92:=Tryz.ntmps92
theorem q2r:type_of% Tryz.func167:=Tryz.func167
theorem q2s:type_of% Tryz.ntmps167:=Tryz.ntmps167
theorem q2u:type_of% Tryz.func148:=Tryz.func148
theorem q2v:type_of% Tryz.ntmps148:=Tryz.ntmps148
theorem q2w:type_of% Tryz.func147:=Tryz.func147
theorem q2x:type_of% Tryz.ntmps147:=Tryz.ntmps147
theorem q2y:type_of% Tryz.results147:=Tryz.results147
theorem q30:type_of% Tryz.func104:=Tryz.func104
theorem q31:type_of% Tryz.ntmps104:=Tryz.ntmps104
theorem q33:type_of% Tryz.func198:=Tryz.func198
theorem q34:type_of% Tryz.ntmps198:=Tryz.ntmps198
theorem q37:type_of% Tryz.func199:=Tryz.func199
theorem q38:type_of% Tryz.ntmps199:=Tryz.ntmps199
theorem q39:type_of% Tryz.func200:=Tryz.func200
theorem q3a:type_of% Tryz.ntmps200:=Tryz.ntmps200
theorem q3b:type_of% Tryz.func179:=Tryz.func179
theorem q3c:type_of% Tryz.ntmps179:=Tryz.ntmps179
theorem q3d:type_of% Tryz.underlying184:=Tryz.underlying184
theorem q3e:type_of% Tryz.func160:=Tryz.func160
theorem q3f:type_of% Tryz.ntmps160:=Tryz.ntmps160
theorem q3g:type_of% Tryz.results160:=Tryz.results160
theorem q3h:type_of% Tryz.func63:=Tryz.func63
theorem q3i:type_of% Tryz.ntmps63:=Tryz.ntmps63
end TyS
namespace TyV
def n1x:Nat:=196
def n24:Nat:=129
def n28:Nat:=201
def n2a:Nat:=189
def n2e:Nat:=185
def n2j:Nat:=184
def n2l:Nat:=192
def n2t:Nat:=194
def n2z:Nat:=187
def n32:Nat:=163
def n35:Nat:=174
def n36:Nat:=166
theorem q1u:type_of% Tryz.underlying189:=Tryz.underlying189
theorem q1v:type_of% Tryz.func164:=Tryz.func164
theorem q1w:type_of% Tryz.ntmps164:=Tryz.ntmps164
theorem q1y:type_of% Tryz.func193:=Tryz.func193
theorem q1z:type_of% Tryz.ntmps193:=Tryz.ntmps193
theorem q20:type_of% Tryz.func129:=Tryz.func129
theorem q21:type_of% Tryz.ntmps129:=Tryz.ntmps129
theorem q22:type_of% Tryz.func128:=Tryz.func128
theorem q23:type_of% Tryz.ntmps128:=Tryz.ntmps128
theorem q25:type_of% Tryz.results128:=Tryz.results128
theorem q26:type_of% Tryz.func183:=Tryz.func183
theorem q27:type_of% Tryz.ntmps183:=Tryz.ntmps183
theorem q29:type_of% Tryz.func201:=Tryz.func201
theorem q2b:type_of% Tryz.underlying192:=Tryz.underlying192
theorem q2c:type_of% Tryz.func165:=Tryz.func165
theorem q2d:type_of% Tryz.ntmps165:=Tryz.ntmps165
theorem q2f:type_of% Tryz.func210:=Tryz.func210
theorem q2g:type_of% Tryz.ntmps210:=Tryz.ntmps210
theorem q2h:type_of% Tryz.func166:=Tryz.func166
theorem q2i:type_of% Tryz.ntmps166:=Tryz.ntmps166
theorem q2k:type_of% Tryz.func184:=Tryz.func184
theorem q2m:type_of% Tryz.func94:=Tryz.func94
theorem q2n:type_of% Tryz.ntmps94:=Tryz.ntmps94
theorem q2o:type_of% Tryz.results94:=Tryz.results94
theorem q2p:type_of% Tryz.func95:=Tryz.func95
theorem q2q:type_of% Tryz.ntmps95:=Tryz.ntmps95
theorem q2r:type_of% Tryz.func163:=Tryz.func163
theorem q2s:type_of% Tryz.ntmps163:=Tryz.ntmps163
theorem q2u:type_of% Tryz.func146:=Tryz.func146
theorem q2v:type_of% Tryz.ntmps146:=Tryz.ntmps146
theorem q2w:type_of% Tryz.func145:=Tryz.func145
theorem q2x:type_of% Tryz.ntmps145:=Tryz.ntmps145
theorem q2y:type_of% Tryz.results145:=Tryz.results145
theorem q30:type_of% Tryz.func103:=Tryz.func103
theorem q31:type_of% Tryz.ntmps103:=Tryz.ntmps103
theorem q33:type_of% Tryz.func194:=Tryz.func194
theorem q34:type_of% Tryz.ntmps194:=Tryz.ntmps194
theorem q37:type_of% Tryz.func195:=Tryz.func195
theorem q38:type_of% Tryz.ntmps195:=Tryz.ntmps195
theorem q39:type_of% Tryz.func196:=Tryz.func196
theorem q3a:type_of% Tryz.ntmps196:=Tryz.ntmps196
theorem q3b:type_of% Tryz.func176:=Tryz.func176
theorem q3c:type_of% Tryz.ntmps176:=Tryz.ntmps176
theorem q3d:type_of% Tryz.underlying196:=Tryz.underlying196
theorem q3e:type_of% Tryz.func159:=Tryz.func159
theorem q3f:type_of% Tryz.ntmps159:=Tryz.ntmps159
theorem q3g:type_of% Tryz.results159:=Tryz.results159
theorem q3h:type_of% Tryz.func67:=Tryz.func67
theorem q3i:type_of% Tryz.ntmps67:=Tryz.ntmps67
end TyV
theorem atc {P:Program} {f:Nat} {a:Array Value} {w:World} {Q:Ending→World→Prop} (h:Calls P f a w Q):Calls P f a w Q:=h
theorem z40T {P:Prop} (h:P:=by
 obtain ⟨p,cap,rfl,_,_⟩:=h.form
 cases p with
 | none =>
  have hn0:n=0:=by
   exact zdw8
  subst hn0
  have hc:=zN9L
  subst hc
  go_enter q1v,q1w
  exact zfC3
 | some a =>
  have hs:=h.alloc (.cells #[] (value_of% n1x))
  have ho:Own (w.alloc (.cells #[] (value_of% n1x))) (value_of% n1x) 2 (.slice (some ⟨w.heap.size,0,none⟩) 0 0) 0 []:=Own.made w (value_of% n1x) 2 [] [] 0 0 rfl Ones.nil (Nat.le_refl _) zdUY zPXO
  clear h
  go_enter q1v,q1w
  go_wp2_with (at_builtin;refine wpList_app rfl _ _ rfl y01 zdhv ho zdhv hs zefz zTbe ?_;intro v' w' h1 h2 h3 _ _)
  exact zP8m
):P:=h
theorem zE1n {P:Prop} (h:P:=by
 have hnc:n≤cap:=by
  exact zzKb
 have hcm:cap≤maxLen:=by
  exact zL9b
 unfold maxLen at hcm
 obtain ⟨j,hj⟩:∃ j,j=i+1:=⟨_,rfl⟩
 have hji:(i:Int)+1=(j:Int):=zTbe
 have hres:n - 1=i+(n - j):=zTbe
 have hjn:j≤n:=zTbe
 have hil:i < j:=zTbe
 rw [hji,hres,←hj]
 have ho:=(h.take (m:=i) zTbe).drew
 have hsl:=(h.sl (B:=fun _=>True) (fun _ _=>trivial))
 have hij:((i:Int) == (j:Int))=false:=zJDc
 have hic:i≤cap:=zTbe
 have hlen:=h.1
 clear hji hj hres
 by_cases hcj:cap=j
 ·have hnj:n=j:=by omega
  subst hcj
  subst hnj
  have hs:Sl w.drew (fun _=>True) 2 (.slice (some ⟨g,off,none⟩) 0 0) 0 (cs.drop (n*2)):=by
   exact zCeT
  have HL:=Lib.hid hlen
  clear h hsl hlen
  go_enter q1y,q1z
  go_wp2
  refine wp_region_lit_plan [] [(0,0),(1,0),(2,0),(3,0),(4,0),(5,0),(6,4),(7,0)] (fun _=>False) zyVB zyVB (fun c a d v w h=>zx0I) ?_
  go_wp2_with (first
   | (refine stp ?_)
   | (at_builtin;refine wpList_app_room rfl _ _ rfl y01 zdhv ho zdhv hs zTbe ?_;intro w1 h1 h2 h3)
   | (refine wpList_clear_spare rfl _ rfl y01 h1 zdhv zTbe zTbe ?_;intro w2 h4 h5 h6))
  exact zPIn
 ·have hs:Sl w.drew (fun _=>True) 2 (.slice (some ⟨g,off+j*2,none⟩) (n - j) (cap - j)) (n - j) (cs.drop (j*2)):=by
   have e:off+j*2=off+j*2:=zTbe
   have h1:=(Sl.from hsl hjn).drew
   rw [e] at h1
   exact h1
  have HL:=Lib.hid hlen
  clear h hsl hlen
  go_enter q1y,q1z
  go_wp2
  refine wp_region_lit_plan [] [(0,0),(1,0),(2,0),(3,0),(4,0),(5,0),(6,4),(7,0)] (fun _=>False) zyVB zyVB (fun c a d v w h=>zx0I) ?_
  go_wp2_with (first
   | (refine stp ?_)
   | (at_builtin;refine wpList_app_room rfl _ _ rfl y01 zdhv ho zdhv hs zTbe ?_;intro w1 h1 h2 h3)
   | (refine wpList_clear_spare rfl _ rfl y01 h1 zdhv zTbe zTbe ?_;intro w2 h4 h5 h6))
  exact zzCN
):P:=h
namespace TyS
@[go_sem] theorem y00 (w:World) (a:Option Addr) (n c:Nat):(binOp .eql 177 (.slice a n c) (.slice none 0 0)).run Tryz.prog w=.ok (.bool a.isNone) w:=Lib.run_eql_slice_nil w _ _ a n c 0 0 Tryz.underlying177
theorem y01:Elem Tryz.prog 177 184 2 32 (.agg #[.string ⟨#[]⟩,.string ⟨#[]⟩]) :=
 ⟨Tryz.underlying177,zyVB,rfl,zTbe,zk9O⟩
theorem y02 (w:World) (B:Nat→Prop) (v:Value) (n:Nat) (cs:List Value) (h:Sl w B 2 v n cs) (hn:n≤1000000000) :
 Calls Tryz.prog 168 #[v] w fun e w'=>∃ v',e=.returned v'∧Own w' 184 2 v' n cs∧Below w.heap.size w w'∧(∀ k,v'.ownBlock=some k→w.heap.size≤k):=z40T
theorem y03 (w:World) (g off cap n i:Nat) (cs:List Value) (h:Own w 184 2 (.slice (some ⟨g,off,none⟩) n cap) n cs) (hn:n≤1000000000) (hi:i < n) :
 Calls Tryz.prog 197 #[.slice (some ⟨g,off,none⟩) n cap,.int .i64 i,.int .i64 ((i:Int)+1)] w fun e w' =>
  e=.returned (.slice (some ⟨g,off,none⟩) (n - 1) cap)∧Own w' 184 2 (.slice (some ⟨g,off,none⟩) (n - 1) cap) (n - 1) (cs.take (i*2)++cs.drop ((i+1)*2))∧Only (fun k=>k=g) w w'∧w'.heap.size=w.heap.size:=zE1n
end TyS
theorem zx07 {P:Prop} (h:P:=by
 have h1:cmpK a k=if Op.bytesLess a k then -1 else if Op.bytesLess k a then 1 else 0:=rfl
 have hl:Op.bytesLess (kb a).toList (kb k).toList=Op.bytesLess a k:=by rw [kb_toList,kb_toList]
 have hg:((kb a).toList == (kb k).toList)=(!Op.bytesLess a k && !Op.bytesLess k a):=by rw [kb_toList,kb_toList];exact keq_lt a k
 rw [h1]
 clear h1
 generalize Op.bytesLess a k=x at *
 generalize Op.bytesLess k a=y at *
 cases x
 ·cases y
  ·have hg2:((kb a).toList == (kb k).toList)=true:=hg
   exact zkNw
  ·have hg2:((kb a).toList == (kb k).toList)=false:=hg
   exact zkNw
 ·go_enter q20,q21
  go_wp2
  go_ret
  exact ⟨rfl,(Below.refl _ _).alloc (Nat.le_refl _) _⟩
):P:=h
theorem z81I {P:Prop} (h:P:=by
 obtain ⟨p,cap,rfl,hc1,hc2⟩:=h.form
 have HS:=Lib.hid h
 have HPL:=Lib.hid (pos_le k l)
 have HLS:Hid (∀ (h:Nat) (hh:h < l.length),Op.bytesLess (l[h]).key k=decide (h < pos k l)):=fun h hh=>pos_lt hr hh
 have HH1:Hid (∀ h:pos k l < l.length,has k l=((l[pos k l]).key == k)):=fun h=>by unfold has;rw [List.getElem?_eq_getElem h]
 have HH2:Hid (¬ pos k l < l.length→has k l=false):=fun h=>by unfold has;rw [List.getElem?_eq_none zTbe]
 generalize pos k l=q at *
 generalize has k l=hs at *
 clear h hr
 go_enter q22,q23
 go_wp2
 go_loopw [9,10,11] (fun i j h wr=>∃ a b:Nat,i=.int .i64 a∧j=.int .i64 b∧a≤q∧q≤b∧b≤l.length∧Below w.heap.size w wr) (fun i j _ _=>(intOf j).toNat - (intOf i).toNat)
 case atStart=>exact ⟨0,l.length,rfl,rfl,Nat.zero_le _,HPL.out,Nat.le_refl _,Below.refl _ _⟩
 case round =>
  obtain ⟨a,b,rfl,rfl,h1,h2,h3,hb⟩:=hrel
  have HB:=Lib.hid hb
  by_cases hab:a < b
  ·obtain ⟨h,hh⟩:∃ h:Nat,h=(a+b) / 2:=⟨_,rfl⟩
   have hhi:((a:Int)+(b:Int)) / 2=(h:Int):=zTbe
   have hah:a≤h:=zTbe
   have hhb:h < b:=zTbe
   have hhl:h < l.length:=zTbe
   obtain ⟨g,off,cap',hv,hg,e0,e1⟩:=sl_en (HS.out.below hb) hhl
   cases hv
   have HLT:=Lib.hid (HLS.out h hhl)
   have HC:=Lib.hid (fun W=>y04 W l[h].key k l[h].val)
   have HN:=Lib.hid (cmpK_neg l[h].key k)
   clear hb hh
   generalize l[h].key=ke at *
   generalize l[h].val=ve at *
   generalize cmpK ke k=c at *
   cases hc:Op.bytesLess ke k
   ·have hpos:¬ h < q:=of_decide_eq_false (HLT.out.symm.trans hc)
    have hcn:(decide (c < 0))=false:=HN.out.trans hc
    have hcn2:¬ c < 0:=of_decide_eq_false hcn
    clear hc
    go_wp2_with (with_reducible refine atc (f:=value_of% n24) ?_;refine (HC.out _).mono ?_;rintro e w2 ⟨rfl,hb2⟩)
    go_roundw
    case rel=>exact ⟨a,h,rfl,rfl,h1,zTbe,zTbe,HB.out.trans (hb2.mono HB.out.size)⟩
    case measure=>(simp [intOf])<;>omega
   ·have hpos:h < q:=of_decide_eq_true (HLT.out.symm.trans hc)
    have hcn:(decide (c < 0))=true:=HN.out.trans hc
    have hcn2:c < 0:=of_decide_eq_true hcn
    clear hc
    go_wp2_with (with_reducible refine atc (f:=value_of% n24) ?_;refine (HC.out _).mono ?_;rintro e w2 ⟨rfl,hb2⟩)
    go_roundw
    case rel=>exact ⟨h+1,b,z3KH,rfl,zTbe,h2,h3,HB.out.trans (hb2.mono HB.out.size)⟩
    case measure=>(simp [intOf])<;>omega
  ·obtain rfl:a=q:=by omega
   obtain rfl:b=a:=zTbe
   by_cases hpl:b < l.length
   ·obtain ⟨g,off,cap',hv,hg,e0,e1⟩:=sl_en (HS.out.below hb) hpl
    cases hv
    have HC:=Lib.hid (fun W=>y04 W (l[b]).key k (l[b]).val)
    have hcz:(cmpK (l[b]).key k == 0)=hs:=(cmpK_zero _ _).trans (HH1.out hpl).symm
    clear hb HLS HH1 HH2
    generalize (l[b]).key=ke at *
    generalize (l[b]).val=ve at *
    generalize cmpK ke k=c at *
    go_wp2_with (with_reducible refine atc (f:=value_of% n24) ?_;refine (HC.out _).mono ?_;rintro e w2 ⟨rfl,hb2⟩)
    exact bodyPost_ret (v:=.tuple #[.int .i64 (b:Nat),.bool hs]) (by simp [results,q25,go_sem]) rfl ⟨rfl,HB.out.trans (hb2.mono HB.out.size)⟩
   ·have hh:=HH2.out hpl
    subst hh
    have hpe:b=l.length:=zTbe
    have hnl:¬ (b:Int) < (l.length:Int):=zTbe
    have HPE:=Lib.hid hpe
    clear hpe
    clear hb HLS HH1 HH2
    go_wp2
    exact bodyPost_ret (v:=.tuple #[.int .i64 (b:Nat),.bool false]) (by simp [results,q25,go_sem]) rfl ⟨rfl,HB.out⟩
):P:=h
namespace TyS
theorem y04 (w:World) (a k:Key) (v:Value) :
 Calls Tryz.prog 125 #[.agg #[.string (kb a),v],.string (kb k)] w fun e w'=>e=.returned (.int .i64 (cmpK a k))∧Below w.heap.size w w':=zx07
theorem y05 (w:World) (B:Nat→Prop) (v:Value) (l:List En) (k:Key) (h:Sl w B 2 v l.length (enC l)) (hr:Rise l) (hn:l.length≤1000000000) :
 Calls Tryz.prog 124 #[v,.string (kb k),.func (.func 125) #[] #[]] w fun e w'=>e=.returned (.tuple #[.int .i64 (pos k l:Nat),.bool (has k l)])∧Below w.heap.size w w':=z81I
end TyS
end Go.Proofs.YteggkjdlajgenaaGreatDoor
namespace Go.Afx
open Go Go.RowKit
section
variable {P : Program} {t e ty : TypeId} {sz bytes : Nat} {z : Value} {w : World}
theorem run_app_zeros (he:Elem P t e sz bytes z) {tn:TypeId} (htn:P.underlying tn=some (.int .i64)) {g off n cap:Nat} {cs:List Value} (hown:Own w e sz (.slice (some ⟨g,off,none⟩) n cap) n cs) {i k:Nat} (hi:i≤n) (h0:0 < k) (hs:0 < sz)
 (hgr:cap < i+k) (h63:i+k≤maxLen) (hb:(i+k)*bytes≤140737488355328) :
 ∃ c zs,(∀ ty,(Builtin.append_ #[t,tn] ty #[.slice (some ⟨g,off,none⟩) i cap,.int .i64 (k:Int)]).run P w=.ok (.slice (some ⟨w.heap.size,0,none⟩) (i+k) c) (w.drew.alloc (.cells (cs.take (i*sz)++zs).toArray e))) ∧
  i+k≤c∧c≤maxLen∧zs.length=(c - i)*sz∧Ones zs:=by
 obtain ⟨inf,hi0,hz,hsize,hby⟩:=he.parts
 have ht:=he.sl
 subst hsize
 subst hby
 have hd:=hown.take hi
 have hdd:=(hd.sl (B:=fun _=>True) (fun _ _=>trivial)).drew
 have hfc:=(hdd.first (P:=P)).1
 have hlen:(cs.take (i*inf.size)).length=i*inf.size:=hd.1
 have h48:k*inf.bytes≤(i+k)*inf.bytes:=Nat.mul_le_mul_right _ zTbe
 have hr:=fun ty=>Lib.run_append_grow_zeros (P:=P) w t tn ty e inf z .i64 .i64 ht htn hi0 hz (some ⟨g,off,none⟩) i cap (cs.take (i*inf.size)) hfc k h0 hs hgr (by simp only [maxLen] at h63;omega) zTbe (growslice_fits hgr hb)
 have hge:=grownCap_ge w (i+k) cap e
 have hcm:grownCap w (i+k) cap e≤maxLen:=grownCap_le_maxLen w (i+k) cap e h63
 refine ⟨grownCap w (i+k) cap e,(Builtin.zeroCells z.cells k).toList++(Builtin.zeroCells z.cells (grownCap w (i+k) cap e - (i+k))).toList,fun ty=>?_,hge,hcm,?_,(ones_zeroCells he.one _).append (ones_zeroCells he.one _)⟩
 ·rw [hr ty]
  congr 3
  simp
 ·rw [List.length_append,Array.length_toList,Array.length_toList,size_zeroCells,size_zeroCells,he.zs,←Nat.add_mul]
  congr 1
  omega
theorem over_three (c1 zs vs c2:List Value) (h:vs.length+c2.length≤zs.length):over (over (c1++zs) vs c1.length) c2 (c1.length+vs.length)=(c1++(vs++c2))++zs.drop (vs.length+c2.length):=by
 have e1:c1++zs=[]++((c1++zs.take (vs.length+c2.length))++zs.drop (vs.length+c2.length)):=zPXO
 have hl:(zs.take (vs.length+c2.length)).length=vs.length+c2.length:=z2Pg
 have h1:=over_mid [] (c1++zs.take (vs.length+c2.length)) (zs.drop (vs.length+c2.length)) vs c1.length (by rw [List.length_append,hl];omega)
 simp only [List.length_nil,Nat.zero_add,List.nil_append] at h1 e1
 rw [e1,h1]
 have h2:=over_mid [] (over (c1++zs.take (vs.length+c2.length)) vs c1.length) (zs.drop (vs.length+c2.length)) c2 (c1.length+vs.length) (by rw [over_length (by rw [List.length_append,hl];omega),List.length_append,hl];omega)
 simp only [List.length_nil,Nat.zero_add,List.nil_append] at h2
 rw [h2,over_two _ _ _ _ hl]
theorem Own.insertedNew {w':World} {g c n i m:Nat} {cs vs zs:List Value} (hcl:cs.length=n*sz) (hco:Ones cs) (hvl:vs.length=m*sz) (hvo:Ones vs) (hi:i≤n) (hz:zs.length=(c - i)*sz) (hnc:n+m≤c) (hcm:c≤maxLen)
 (hb:Blk w' g e (Afx.over (Afx.over (cs.take (i*sz)++zs) vs (i*sz)) (cs.drop (i*sz)) (i*sz+m*sz))) :
 Own w' e sz (.slice (some ⟨g,0,none⟩) (n+m) c) (n+m) (cs.take (i*sz)++(vs++cs.drop (i*sz))):=by
 have hin:i*sz≤n*sz:=Nat.mul_le_mul_right _ hi
 have hc1:(cs.take (i*sz)).length=i*sz:=z2Pg
 have hc2:(cs.drop (i*sz)).length=(n - i)*sz:=by rw [List.length_drop,hcl,Nat.sub_mul]
 have hle:m*sz+(n - i)*sz≤(c - i)*sz:=by rw [←Nat.add_mul];exact Nat.mul_le_mul_right _ zTbe
 have ho:=over_three (cs.take (i*sz)) zs vs (cs.drop (i*sz)) (by rw [hvl,hc2,hz];exact hle)
 rw [hc1,hvl] at ho
 rw [ho] at hb
 have hres:(cs.take (i*sz)++(vs++cs.drop (i*sz))).length=(n+m)*sz:=by
  rw [List.length_append,List.length_append,hc1,hvl,List.length_drop,hcl,Nat.add_mul];omega
 refine ⟨hres,?_,.inr ⟨g,0,c,_,rfl,hb,hnc,hcm,?_,?_⟩⟩
 ·intro u hu
  rcases List.mem_append.1 hu with hu|hu
  ·exact hco u (List.mem_of_mem_take hu)
  ·rcases List.mem_append.1 hu with hu|hu
   ·exact hvo u hu
   ·exact hco u (List.mem_of_mem_drop hu)
 ·rw [List.length_append,hres,List.length_drop,hc2,hz,Nat.zero_add]
  have h1:c*sz=(n+m)*sz+(c - (n+m))*sz:=by rw [←Nat.add_mul];congr 1;omega
  have h2:(c - i)*sz=m*sz+(n - i)*sz+(c - (n+m))*sz:=by rw [←Nat.add_mul,←Nat.add_mul];congr 1;omega
  omega
 ·rw [List.drop_zero,←hres,List.take_left]
theorem Blk.shape {b:Nat} {cs:List Value} (h:Blk w b t cs):w.shape? b=some (t,cs.length):=by
 unfold Blk at h
 unfold World.shape?
 rw [h]
 simp
theorem run_overlaps_no (he:Elem P t e sz bytes z) {tR:TypeId} {xb b o la ca lb cb:Nat} {news cur:List Value} (hx:Blk w xb e news) (hb:Blk w b e cur) (hne:xb≠b) (hc:cur≠[]) :
 (Extern.SlicesOverlaps.overlaps #[t,t] #[tR] #[.slice (some ⟨xb,0,none⟩) la ca,.slice (some ⟨b,o,none⟩) lb cb]).run P w=.ok (.bool false) w:=by
 obtain ⟨i,hi,hz,hsize,hby⟩:=he.parts
 have hsz:∀ w,(Go.sizeOf e).run P w=.ok i.size w:=fun w=>by simp [Go.sizeOf,typeInfo,hi]
 exact Lib.run_overlaps_apart w t tR e he.sl i.size hsz ⟨xb,0,none⟩ ⟨b,o,none⟩ la ca lb cb hne e e news.length cur.length hx.shape hb.shape (fun h=>hc (List.eq_nil_of_length_eq_zero h)) (hx.frozen 0) (hx.frozen _)
theorem below_setRow {w w':World} (h:Below w.heap.size w w') {g:Nat} (hg:w.heap.size≤g) (cs:Array Value):Below w.heap.size w (w'.setRow g cs) :=
 ((Only.of_below (S:=fun k=>w.heap.size≤k) h (fun i hi hs=>hi)).setRow (fun hl=>zTbe) cs).below (Nat.le_refl _) (fun _ hi=>hi)
theorem wpList_app_two {ops:Array Oper} {rest:List Oper} {o:Oper} {a:Act} {Q:Exit→Act→World→Prop} (hgd:o.guard=none) (s x:Operand) {tn:TypeId} (ho:o.op=.call { callee:=.builtin .append,args:=#[s,x],argTypes:=#[t,tn] })
 {v:Value} (hs:a.eval s=v) {xv:Value} (hx:a.eval x=xv) {v':Value} {w':World}
 (hr:(Builtin.append_ #[t,tn] o.type #[v,xv]).run P w=.ok v' w')
 (h:wpList P ops Q rest (a.put o.dst v') w'):wpList P ops Q (o::rest) a w:=by
 refine wpList_plain hgd fun K hK=>?_
 exact zPHS
end
end Go.Afx
namespace Go.Proofs.YteggkjdlajgenaaGreatDoor
open Go.RowKit Go.Afx
theorem zoFo {P:Prop} (h:P:=by
 have hs:Sl w (fun _=>True) 2 (.slice (some ⟨xb,0,none⟩) 1 1) 1 news :=
  ⟨by rw [hnl],hno,.inr ⟨xb,0,1,rfl,Nat.le_refl _,zdUY,trivial,hx.lt,fun j hj=>by rw [Nat.zero_add];exact hx.cell j⟩⟩
 obtain ⟨p,cap,rfl,hc1,hc2⟩:=y06 h
 cases p
 all_goals
  go_enter q26,q27
  go_wp2_with (at_builtin;refine wpList_app rfl _ _ rfl y01 zdhv h zdhv hs zefz zTbe ?_;intro v' w' h1 h2 h3 h4 h5)
  all_goals
   go_ret
   exact za8t
):P:=h
theorem zv0p {P:Prop} (h:P:=by
 have hown:=h
 rcases h.2.2 with ⟨h0,_⟩|⟨g',off',cap',cur,hv,hb,hnc,hcm,hcl,htk⟩
 ·cases h0
 cases hv
 have hcur:cur≠[]:=fun e=>by rw [e] at hcl;simp at hcl;omega
 have hov:∀ lb cb,(callFunc (value_of% n28) #[.slice (some ⟨xb,0,none⟩) 1 1,.slice (some ⟨g,off+(i+1)*2,none⟩) lb cb]).run Tryz.prog w=.ok (.value (.bool false)) w:=fun lb cb=>by
  rw [run_callFunc_extern q29 zyVB zyVB zyVB (e:=Extern.SlicesOverlaps.overlaps #[(value_of% n2a),(value_of% n2a)] #[4]) zyVB,
   run_overlaps_no y01 hx hb (fun e=>hxb e.symm) hcur]
  rfl
 have hin:=Own.inserted hown hb hcl htk (Nat.le_of_lt hi) (m:=1) (vs:=news) (by rw [hnl]) hno hroom hcm
 have hsl:=(hown.sl (B:=fun _=>True) (fun _ _=>trivial))
 have hs1:Sl w.drew (fun _=>True) 2 (.slice (some ⟨g,off+i*2,none⟩) (n - i) (cap - i)) (n - i) (cs.drop (i*2)):=by
  have e:off+i*2=off+i*2:=zTbe
  have e2:i*2=i*2:=zTbe
  have h1:=(Sl.from hsl (Nat.le_of_lt hi)).drew
  rw [e,e2] at h1
  exact h1
 have hdl:(cs.drop (i*2)).length=(n - i)*2:=hs1.1
 have hbd:Blk w.drew g (value_of% n1x) cur:=hb.drew
 have hov2:(over cur (cs.drop (i*2)) (off+(i+1)*2)).length=cur.length:=over_length (by rw [hdl];unfold maxLen at hcm;omega)
 have hb2:Blk (w.drew.setRow g (over cur (cs.drop (i*2)) (off+(i+1)*2)).toArray) g (value_of% n1x) (over cur (cs.drop (i*2)) (off+(i+1)*2)):=hbd.setRow _
 have hs2:Sl (w.drew.setRow g (over cur (cs.drop (i*2)) (off+(i+1)*2)).toArray) (fun _=>True) 2 (.slice (some ⟨xb,0,none⟩) 1 1) 1 news :=
  ⟨by rw [hnl],hno,.inr ⟨xb,0,1,rfl,Nat.le_refl _,zdUY,trivial,(hx.drew.setRowOther (fun e=>hxb e.symm) _).lt,fun j hj=>zZMJ⟩⟩
 have hci:¬ (cap=i):=zTbe
 have hci1:¬ (cap=i+1):=zTbe
 have HIN:=Lib.hid hin
 have HCL:=Lib.hid hcl
 have hni:¬ ((i:Int)=(n:Int)):=zTbe
 have hw1:=zK0C
 have htn:=z3OW
 have hin1:i≤n:=zTbe
 have hb1:=zIOG
 have hb3:(i:Int)≤(n:Int)+1:=zTbe
 have hfit1:off+(i+1)*2+(n - i)*2≤cur.length:=by unfold maxLen at hcm;omega
 have hfit2:off+i*2+1*2≤(over cur (cs.drop (i*2)) (off+(i+1)*2)).length:=by rw [hov2];omega
 clear h hin hown htk hsl hdl hov2 hcl hcur
 unfold maxLen at hcm
 go_enter q26,q27
 go_wp2_with (simp only [hov])
 refine wp_region_lit_plan [] [(0,0),(1,0),(2,0),(3,0),(4,0),(5,0),(6,0),(7,0),(8,4)] (fun _=>False) zyVB zyVB (fun c a d v w h=>zx0I) ?_
 go_wp2_with (first
  | (refine stp ?_)
  | (refine wpList_copy rfl _ _ rfl y01 zdhv hbd zdhv (q:=n - i) z083 hs1 hfit1 ?_)
  | (refine wpList_copy rfl _ _ rfl y01 zdhv hb2 zdhv (q:=1) z083 hs2 hfit2 ?_))
 go_ret
 have hsp:off+(i+1)*2=off+(i+1)*2:=zTbe
 have hsp2:off+i*2=off+i*2:=zTbe
 have hfin:=HIN.out
 have hsp3:i*2=i*2:=zTbe
 exact znbJ
):P:=h
theorem zVm6 {P:Prop} (h:P:=by
 have hcl:cs.length=n*2:=h.1
 have hco:Ones cs:=h.2.1
 have hlt:g < w.heap.size:=h.lt g rfl
 have hnc:n≤cap:=by
  exact zzKb
 obtain ⟨c,zs,hr,hic,hcm,hzl,hzo⟩:=run_app_zeros (P:=Tryz.prog) (w:=w) y01 (tn:=3) zyVB h (i:=i) (k:=n+1 - i) zTbe zTbe zTbe zTbe zefz zTbe
 have hkk:((n+1 - i:Nat):Int)=(n:Int)+1 - (i:Int):=zTbe
 have hik:i+(n+1 - i)=n+1:=zTbe
 have hii:i*2=i*2:=zTbe
 rw [hik] at hr hic
 rw [hkk,hii] at hr
 have hc1:(cs.take (i*2)).length=i*2:=z2Pg
 have hdl:(cs.drop (i*2)).length=(n - i)*2:=by rw [List.length_drop,hcl];omega
 have hB1:=Blk.new w.drew (value_of% n1x) (cs.take (i*2)++zs)
 have hbel:Below w.heap.size w (w.drew.alloc (.cells (cs.take (i*2)++zs).toArray (value_of% n1x))):=((Below.refl _ _).drew).alloc (Nat.le_refl _) _
 have hrl:(cs.take (i*2)++zs).length=i*2+(c - i)*2:=by rw [List.length_append,hc1,hzl]
 have hle1:1*2≤(c - i)*2:=Nat.mul_le_mul_right _ zTbe
 have hle2:(n+1 - i)*2≤(c - i)*2:=Nat.mul_le_mul_right _ zTbe
 have hfin:=fun (w':World) hb=>Own.insertedNew (e:=(value_of% n1x)) (w':=w') (g:=w.heap.size) (c:=c) (n:=n) (i:=i) (m:=1) (vs:=news) (zs:=zs) hcl hco (by rw [hnl]) hno (Nat.le_of_lt hi) hzl hic hcm hb
 have hi2:i*2+1*2=(i+1)*2:=zTbe
 rw [hi2,hii] at hfin
 generalize hrow:cs.take (i*2)++zs=row at *
 obtain ⟨W1,hW1⟩:∃ W1,W1=w.drew.alloc (.cells row.toArray (value_of% n1x)):=⟨_,rfl⟩
 rw [←hW1] at hr hB1 hbel
 clear hW1
 have hb1:Blk W1 w.heap.size (value_of% n1x) row:=hB1
 have hx1:=hx.below hbel
 have hs1:Sl W1 (fun _=>True) 2 (.slice (some ⟨xb,0,none⟩) 1 1) 1 news :=
  ⟨by rw [hnl],hno,.inr ⟨xb,0,1,rfl,Nat.le_refl _,zdUY,trivial,hx1.lt,fun j hj=>by rw [Nat.zero_add];exact hx1.cell j⟩⟩
 have hov1:(over row news (i*2)).length=row.length:=over_length zTbe
 have hb2:Blk (W1.setRow w.heap.size (over row news (i*2)).toArray).drew w.heap.size (value_of% n1x) (over row news (i*2)):=(hb1.setRow _).drew
 have hg2:Below w.heap.size w (W1.setRow w.heap.size (over row news (i*2)).toArray).drew:=(below_setRow hbel (Nat.le_refl _) _).drew
 have hs2:Sl (W1.setRow w.heap.size (over row news (i*2)).toArray).drew (fun _=>True) 2 (.slice (some ⟨g,off+i*2,none⟩) (n - i) (cap - i)) (n - i) (cs.drop (i*2)):=by
  have e:off+i*2=off+i*2:=zTbe
  exact zr54
 have hfit1:i*2+1*2≤row.length:=zTbe
 have hfit2:(i+1)*2+(n - i)*2≤(over row news (i*2)).length:=by rw [hov1];omega
 have HFIN:=Lib.hid hfin
 have HBEL:=Lib.hid hbel
 have hci:¬ (c=i):=zTbe
 have hci1:¬ (c=i+1):=zTbe
 have hca:¬ (cap=i):=zTbe
 have hni:¬ ((i:Int)=(n:Int)):=zTbe
 have hw1:=zK0C
 have htn:=z3OW
 have hin1:i≤n:=zTbe
 have hbb:=zIOG
 have hb3:(i:Int)≤(n:Int)+1:=zTbe
 have hz3:(cap:Int) < (n:Int)+1:=zTbe
 have hcm2:c≤9223372036854775807:=hcm
 have hcm3:cap≤9223372036854775807:=zTbe
 clear hii hi2 h hx hB1 hbel hx1 hov1 hg2 hrl hzl hzo hle1 hle2 hkk hik hfin hrow hc1 hdl hcl hco hnl hno hcm
 go_enter q26,q27
 go_wp2_with (first
  | (at_builtin;refine wpList_app_two rfl _ _ rfl zdhv zdhv (hr _) ?_)
  | (refine wpList_copy rfl _ _ rfl y01 zdhv hb1 zdhv (q:=1) z083 hs1 hfit1 ?_))
 refine wp_region_lit_plan [] [(0,0),(1,0),(2,0),(3,0),(4,0),(5,0),(6,0),(7,0),(8,4)] (fun _=>False) zyVB zyVB (fun c a d v w h=>zx0I) ?_
 go_wp2_with (first
  | (refine stp ?_)
  | (refine wpList_copy rfl _ _ rfl y01 zdhv hb2 zdhv (q:=n - i) z083 hs2 hfit2 ?_))
 go_ret
 have hbf:=hb2.setRow (over (over row news (i*2)) (cs.drop (i*2)) ((i+1)*2))
 have hfin:=HFIN.out ((W1.setRow w.heap.size (over row news (i*2)).toArray).drew.setRow w.heap.size (over (over row news (i*2)) (cs.drop (i*2)) ((i+1)*2)).toArray)
 exact zwTo
):P:=h
theorem zXNN {P:Prop} (h:P:=by
 by_cases he:i=n
 ·subst he
  have h1:cs.take (i*2)++(news++cs.drop (i*2))=cs++news:=by
   exact zaRA
  rw [h1]
  exact y07 w v i cs news xb h hx hnl hno hn
 ·obtain ⟨p,cap,rfl,hc1,hc2⟩:=y06 h
  obtain ⟨g,off,hp⟩:∃ g off,p=some ⟨g,off,none⟩:=by
   exact zIYC
  subst hp
  by_cases hr:n+1≤cap
  ·refine (y08 w g off cap n i cs news xb h hx hnl hno (fun e=>hxb (by rw [e];rfl)) zTbe hr hn).mono ?_
   exact z4DJ
  ·refine (y09 w g off cap n i cs news xb h hx hnl hno zTbe zTbe hn).mono ?_
   exact zOP3
):P:=h
namespace TyS
theorem y06 {w:World} {e:TypeId} {sz:Nat} {v:Value} {n:Nat} {cs:List Value} (h:Own w e sz v n cs):∃ p cap,v=.slice p n cap∧n≤cap∧cap≤9223372036854775807 :=
 (h.sl (B:=fun _=>True) (fun _ _=>trivial)).form
theorem y07 (w:World) (v:Value) (n:Nat) (cs news:List Value) (xb:Nat) (h:Own w 184 2 v n cs) (hx:Blk w xb 184 news) (hnl:news.length=2) (hno:Ones news) (hn:n≤1000000000) :
 Calls Tryz.prog 186 #[v,.int .i64 (n:Int),.slice (some ⟨xb,0,none⟩) 1 1] w fun e w'=>∃ v',e=.returned v'∧Own w' 184 2 v' (n+1) (cs++news) ∧
  Only (fun k=>v.ownBlock=some k) w w'∧(∀ k,v'.ownBlock=some k→v.ownBlock=some k∨w.heap.size≤k):=zoFo
theorem y08 (w:World) (g off cap n i:Nat) (cs news:List Value) (xb:Nat) (h:Own w 184 2 (.slice (some ⟨g,off,none⟩) n cap) n cs) (hx:Blk w xb 184 news) (hnl:news.length=2) (hno:Ones news) (hxb:g≠xb) (hi:i < n) (hroom:n+1≤cap) (hn:n≤1000000000) :
 Calls Tryz.prog 186 #[.slice (some ⟨g,off,none⟩) n cap,.int .i64 (i:Int),.slice (some ⟨xb,0,none⟩) 1 1] w fun e w'=>e=.returned (.slice (some ⟨g,off,none⟩) (n+1) cap) ∧
  Own w' 184 2 (.slice (some ⟨g,off,none⟩) (n+1) cap) (n+1) (cs.take (i*2)++(news++cs.drop (i*2)))∧Only (fun k=>k=g) w w':=zv0p
theorem y09 (w:World) (g off cap n i:Nat) (cs news:List Value) (xb:Nat) (h:Own w 184 2 (.slice (some ⟨g,off,none⟩) n cap) n cs) (hx:Blk w xb 184 news) (hnl:news.length=2) (hno:Ones news) (hi:i < n) (hroom:cap < n+1) (hn:n≤1000000000) :
 Calls Tryz.prog 186 #[.slice (some ⟨g,off,none⟩) n cap,.int .i64 (i:Int),.slice (some ⟨xb,0,none⟩) 1 1] w fun e w'=>∃ c,e=.returned (.slice (some ⟨w.heap.size,0,none⟩) (n+1) c) ∧
  Own w' 184 2 (.slice (some ⟨w.heap.size,0,none⟩) (n+1) c) (n+1) (cs.take (i*2)++(news++cs.drop (i*2)))∧Below w.heap.size w w':=zVm6
theorem y0a (w:World) (v:Value) (n i:Nat) (cs news:List Value) (xb:Nat) (h:Own w 184 2 v n cs) (hx:Blk w xb 184 news) (hnl:news.length=2) (hno:Ones news) (hxb:v.ownBlock≠some xb) (hi:i≤n) (hn:n≤1000000000) :
 Calls Tryz.prog 186 #[v,.int .i64 (i:Int),.slice (some ⟨xb,0,none⟩) 1 1] w fun e w'=>∃ v',e=.returned v'∧Own w' 184 2 v' (n+1) (cs.take (i*2)++(news++cs.drop (i*2))) ∧
  Only (fun k=>v.ownBlock=some k) w w'∧(∀ k,v'.ownBlock=some k→v.ownBlock=some k∨w.heap.size≤k):=zXNN
end TyS
theorem zTot {P:Prop} (h:P:=by
 obtain ⟨p,cap,rfl,_,_⟩:=h.form
 cases p with
 | none =>
  have hn0:n=0:=by
   exact zdw8
  subst hn0
  have hc:=zN9L
  subst hc
  go_enter q2c,q2d
  exact zfC3
 | some a =>
  have hs:=h.alloc (.cells #[] (value_of% n2e))
  have ho:Own (w.alloc (.cells #[] (value_of% n2e))) (value_of% n2e) 1 (.slice (some ⟨w.heap.size,0,none⟩) 0 0) 0 []:=Own.made w (value_of% n2e) 1 [] [] 0 0 rfl Ones.nil (Nat.le_refl _) zdUY zPXO
  clear h
  go_enter q2c,q2d
  go_wp2_with (at_builtin;refine wpList_app rfl _ _ rfl y0c zdhv ho zdhv hs zefz zTbe ?_;intro v' w' h1 h2 h3 _ _)
  exact zP8m
):P:=h
theorem zWmO {P:Prop} (h:P:=by
 have hnc:n≤cap:=by
  exact zzKb
 have hcm:cap≤maxLen:=by
  exact zL9b
 unfold maxLen at hcm
 obtain ⟨j,hj⟩:∃ j,j=i+1:=⟨_,rfl⟩
 have hji:(i:Int)+1=(j:Int):=zTbe
 have hres:n - 1=i+(n - j):=zTbe
 have hjn:j≤n:=zTbe
 have hil:i < j:=zTbe
 rw [hji,hres,←hj]
 have ho:=(h.take (m:=i) zTbe).drew
 have hsl:=(h.sl (B:=fun _=>True) (fun _ _=>trivial))
 have hij:((i:Int) == (j:Int))=false:=zJDc
 have hic:i≤cap:=zTbe
 have hlen:=h.1
 clear hji hj hres
 by_cases hcj:cap=j
 ·have hnj:n=j:=by omega
  subst hcj
  subst hnj
  have hs:Sl w.drew (fun _=>True) 1 (.slice (some ⟨g,off,none⟩) 0 0) 0 (cs.drop (n*1)):=by
   exact zCeT
  have HL:=Lib.hid hlen
  clear h hsl hlen
  go_enter q2f,q2g
  go_wp2
  refine wp_region_lit_plan [] [(0,0),(1,0),(2,0),(3,0),(4,0),(5,0),(6,4),(7,0)] (fun _=>False) zyVB zyVB (fun c a d v w h=>zx0I) ?_
  go_wp2_with (first
   | (refine stp ?_)
   | (at_builtin;refine wpList_app_room rfl _ _ rfl y0c zdhv ho zdhv hs zTbe ?_;intro w1 h1 h2 h3)
   | (refine wpList_clear_spare rfl _ rfl y0c h1 zdhv zTbe zTbe ?_;intro w2 h4 h5 h6))
  exact zPIn
 ·have hs:Sl w.drew (fun _=>True) 1 (.slice (some ⟨g,off+j,none⟩) (n - j) (cap - j)) (n - j) (cs.drop (j*1)):=by
   have e:off+j*1=off+j:=zTbe
   have h1:=(Sl.from hsl hjn).drew
   rw [e] at h1
   exact h1
  have HL:=Lib.hid hlen
  clear h hsl hlen
  go_enter q2f,q2g
  go_wp2
  refine wp_region_lit_plan [] [(0,0),(1,0),(2,0),(3,0),(4,0),(5,0),(6,4),(7,0)] (fun _=>False) zyVB zyVB (fun c a d v w h=>zx0I) ?_
  go_wp2_with (first
   | (refine stp ?_)
   | (at_builtin;refine wpList_app_room rfl _ _ rfl y0c zdhv ho zdhv hs zTbe ?_;intro w1 h1 h2 h3)
   | (refine wpList_clear_spare rfl _ rfl y0c h1 zdhv zTbe zTbe ?_;intro w2 h4 h5 h6))
  exact zzCN
):P:=h
namespace TyS
@[go_sem] theorem y0b (w:World) (a:Option Addr) (n c:Nat):(binOp .eql 180 (.slice a n c) (.slice none 0 0)).run Tryz.prog w=.ok (.bool a.isNone) w:=Lib.run_eql_slice_nil w _ _ a n c 0 0 Tryz.underlying180
theorem y0c:Elem Tryz.prog 180 172 1 8 (.pointer none) :=
 ⟨Tryz.underlying180,zyVB,rfl,zTbe,zk9O⟩
theorem y0d (w:World) (B:Nat→Prop) (v:Value) (n:Nat) (cs:List Value) (h:Sl w B 1 v n cs) (hn:n≤1000000000) :
 Calls Tryz.prog 169 #[v] w fun e w'=>∃ v',e=.returned v'∧Own w' 172 1 v' n cs∧Below w.heap.size w w'∧(∀ k,v'.ownBlock=some k→w.heap.size≤k):=zTot
theorem y0e (w:World) (g off cap n i:Nat) (cs:List Value) (h:Own w 172 1 (.slice (some ⟨g,off,none⟩) n cap) n cs) (hn:n≤1000000000) (hi:i < n) :
 Calls Tryz.prog 211 #[.slice (some ⟨g,off,none⟩) n cap,.int .i64 i,.int .i64 ((i:Int)+1)] w fun e w' =>
  e=.returned (.slice (some ⟨g,off,none⟩) (n - 1) cap)∧Own w' 172 1 (.slice (some ⟨g,off,none⟩) (n - 1) cap) (n - 1) (cs.take (i*1)++cs.drop ((i+1)*1))∧Only (fun k=>k=g) w w'∧w'.heap.size=w.heap.size:=zWmO
end TyS
theorem zY6R {P:Prop} (h:P:=by
 have hs:Sl w (fun _=>True) 1 (.slice (some ⟨xb,0,none⟩) 1 1) 1 news :=
  ⟨by rw [hnl],hno,.inr ⟨xb,0,1,rfl,Nat.le_refl _,zdUY,trivial,hx.lt,fun j hj=>by rw [Nat.zero_add];exact hx.cell j⟩⟩
 obtain ⟨p,cap,rfl,hc1,hc2⟩:=y0f h
 cases p
 all_goals
  go_enter q2h,q2i
  go_wp2_with (at_builtin;refine wpList_app rfl _ _ rfl y0c zdhv h zdhv hs zefz zTbe ?_;intro v' w' h1 h2 h3 h4 h5)
  all_goals
   go_ret
   exact za8t
):P:=h
theorem zTYm {P:Prop} (h:P:=by
 have hown:=h
 rcases h.2.2 with ⟨h0,_⟩|⟨g',off',cap',cur,hv,hb,hnc,hcm,hcl,htk⟩
 ·cases h0
 cases hv
 have hcur:cur≠[]:=fun e=>by rw [e] at hcl;simp at hcl;omega
 have hov:∀ lb cb,(callFunc (value_of% n2j) #[.slice (some ⟨xb,0,none⟩) 1 1,.slice (some ⟨g,off+(i+1),none⟩) lb cb]).run Tryz.prog w=.ok (.value (.bool false)) w:=fun lb cb=>by
  rw [run_callFunc_extern q2k zyVB zyVB zyVB (e:=Extern.SlicesOverlaps.overlaps #[(value_of% n2l),(value_of% n2l)] #[4]) zyVB,
   run_overlaps_no y0c hx hb (fun e=>hxb e.symm) hcur]
  rfl
 have hin:=Own.inserted hown hb hcl htk (Nat.le_of_lt hi) (m:=1) (vs:=news) (by rw [hnl]) hno hroom hcm
 have hsl:=(hown.sl (B:=fun _=>True) (fun _ _=>trivial))
 have hs1:Sl w.drew (fun _=>True) 1 (.slice (some ⟨g,off+i,none⟩) (n - i) (cap - i)) (n - i) (cs.drop (i)):=by
  have e:off+i*1=off+i:=zTbe
  have e2:i*1=i:=zTbe
  have h1:=(Sl.from hsl (Nat.le_of_lt hi)).drew
  rw [e,e2] at h1
  exact h1
 have hdl:(cs.drop (i)).length=(n - i)*1:=hs1.1
 have hbd:Blk w.drew g (value_of% n2e) cur:=hb.drew
 have hov2:(over cur (cs.drop (i)) (off+(i+1))).length=cur.length:=over_length (by rw [hdl];unfold maxLen at hcm;omega)
 have hb2:Blk (w.drew.setRow g (over cur (cs.drop (i)) (off+(i+1))).toArray) g (value_of% n2e) (over cur (cs.drop (i)) (off+(i+1))):=hbd.setRow _
 have hs2:Sl (w.drew.setRow g (over cur (cs.drop (i)) (off+(i+1))).toArray) (fun _=>True) 1 (.slice (some ⟨xb,0,none⟩) 1 1) 1 news :=
  ⟨by rw [hnl],hno,.inr ⟨xb,0,1,rfl,Nat.le_refl _,zdUY,trivial,(hx.drew.setRowOther (fun e=>hxb e.symm) _).lt,fun j hj=>zZMJ⟩⟩
 have hci:¬ (cap=i):=zTbe
 have hci1:¬ (cap=i+1):=zTbe
 have HIN:=Lib.hid hin
 have HCL:=Lib.hid hcl
 have hni:¬ ((i:Int)=(n:Int)):=zTbe
 have hw1:=zK0C
 have htn:=z3OW
 have hin1:i≤n:=zTbe
 have hb1:=zIOG
 have hb3:(i:Int)≤(n:Int)+1:=zTbe
 have hfit1:off+(i+1)+(n - i)*1≤cur.length:=by unfold maxLen at hcm;omega
 have hfit2:off+i+1*1≤(over cur (cs.drop (i)) (off+(i+1))).length:=by rw [hov2];omega
 clear h hin hown htk hsl hdl hov2 hcl hcur
 unfold maxLen at hcm
 go_enter q2h,q2i
 go_wp2_with (simp only [hov])
 refine wp_region_lit_plan [] [(0,0),(1,0),(2,0),(3,0),(4,0),(5,0),(6,0),(7,0),(8,4)] (fun _=>False) zyVB zyVB (fun c a d v w h=>zx0I) ?_
 go_wp2_with (first
  | (refine stp ?_)
  | (refine wpList_copy rfl _ _ rfl y0c zdhv hbd zdhv (q:=n - i) z083 hs1 hfit1 ?_)
  | (refine wpList_copy rfl _ _ rfl y0c zdhv hb2 zdhv (q:=1) z083 hs2 hfit2 ?_))
 go_ret
 have hsp:off+(i+1)*1=off+(i+1):=zTbe
 have hsp2:off+i*1=off+i:=zTbe
 have hfin:=HIN.out
 have hsp3:i*1=i:=zTbe
 exact znbJ
):P:=h
theorem zrm5 {P:Prop} (h:P:=by
 have hcl:cs.length=n*1:=h.1
 have hco:Ones cs:=h.2.1
 have hlt:g < w.heap.size:=h.lt g rfl
 have hnc:n≤cap:=by
  exact zzKb
 obtain ⟨c,zs,hr,hic,hcm,hzl,hzo⟩:=run_app_zeros (P:=Tryz.prog) (w:=w) y0c (tn:=3) zyVB h (i:=i) (k:=n+1 - i) zTbe zTbe zTbe zTbe zefz zTbe
 have hkk:((n+1 - i:Nat):Int)=(n:Int)+1 - (i:Int):=zTbe
 have hik:i+(n+1 - i)=n+1:=zTbe
 have hii:i*1=i:=zTbe
 rw [hik] at hr hic
 rw [hkk,hii] at hr
 have hc1:(cs.take (i)).length=i:=z2Pg
 have hdl:(cs.drop (i)).length=(n - i)*1:=by rw [List.length_drop,hcl];omega
 have hB1:=Blk.new w.drew (value_of% n2e) (cs.take (i)++zs)
 have hbel:Below w.heap.size w (w.drew.alloc (.cells (cs.take (i)++zs).toArray (value_of% n2e))):=((Below.refl _ _).drew).alloc (Nat.le_refl _) _
 have hrl:(cs.take (i)++zs).length=i+(c - i)*1:=by rw [List.length_append,hc1,hzl]
 have hle1:1*1≤(c - i)*1:=Nat.mul_le_mul_right _ zTbe
 have hle2:(n+1 - i)*1≤(c - i)*1:=Nat.mul_le_mul_right _ zTbe
 have hfin:=fun (w':World) hb=>Own.insertedNew (e:=(value_of% n2e)) (w':=w') (g:=w.heap.size) (c:=c) (n:=n) (i:=i) (m:=1) (vs:=news) (zs:=zs) hcl hco (by rw [hnl]) hno (Nat.le_of_lt hi) hzl hic hcm hb
 have hi2:i*1+1*1=i+1:=zTbe
 rw [hi2,hii] at hfin
 generalize hrow:cs.take (i)++zs=row at *
 obtain ⟨W1,hW1⟩:∃ W1,W1=w.drew.alloc (.cells row.toArray (value_of% n2e)):=⟨_,rfl⟩
 rw [←hW1] at hr hB1 hbel
 clear hW1
 have hb1:Blk W1 w.heap.size (value_of% n2e) row:=hB1
 have hx1:=hx.below hbel
 have hs1:Sl W1 (fun _=>True) 1 (.slice (some ⟨xb,0,none⟩) 1 1) 1 news :=
  ⟨by rw [hnl],hno,.inr ⟨xb,0,1,rfl,Nat.le_refl _,zdUY,trivial,hx1.lt,fun j hj=>by rw [Nat.zero_add];exact hx1.cell j⟩⟩
 have hov1:(over row news (i)).length=row.length:=over_length zTbe
 have hb2:Blk (W1.setRow w.heap.size (over row news (i)).toArray).drew w.heap.size (value_of% n2e) (over row news (i)):=(hb1.setRow _).drew
 have hg2:Below w.heap.size w (W1.setRow w.heap.size (over row news (i)).toArray).drew:=(below_setRow hbel (Nat.le_refl _) _).drew
 have hs2:Sl (W1.setRow w.heap.size (over row news (i)).toArray).drew (fun _=>True) 1 (.slice (some ⟨g,off+i,none⟩) (n - i) (cap - i)) (n - i) (cs.drop (i)):=by
  have e:off+i*1=off+i:=zTbe
  exact zr54
 have hfit1:i+1*1≤row.length:=zTbe
 have hfit2:i+1+(n - i)*1≤(over row news (i)).length:=by rw [hov1];omega
 have HFIN:=Lib.hid hfin
 have HBEL:=Lib.hid hbel
 have hci:¬ (c=i):=zTbe
 have hci1:¬ (c=i+1):=zTbe
 have hca:¬ (cap=i):=zTbe
 have hni:¬ ((i:Int)=(n:Int)):=zTbe
 have hw1:=zK0C
 have htn:=z3OW
 have hin1:i≤n:=zTbe
 have hbb:=zIOG
 have hb3:(i:Int)≤(n:Int)+1:=zTbe
 have hz3:(cap:Int) < (n:Int)+1:=zTbe
 have hcm2:c≤9223372036854775807:=hcm
 have hcm3:cap≤9223372036854775807:=zTbe
 clear hii hi2 h hx hB1 hbel hx1 hov1 hg2 hrl hzl hzo hle1 hle2 hkk hik hfin hrow hc1 hdl hcl hco hnl hno hcm
 go_enter q2h,q2i
 go_wp2_with (first
  | (at_builtin;refine wpList_app_two rfl _ _ rfl zdhv zdhv (hr _) ?_)
  | (refine wpList_copy rfl _ _ rfl y0c zdhv hb1 zdhv (q:=1) z083 hs1 hfit1 ?_))
 refine wp_region_lit_plan [] [(0,0),(1,0),(2,0),(3,0),(4,0),(5,0),(6,0),(7,0),(8,4)] (fun _=>False) zyVB zyVB (fun c a d v w h=>zx0I) ?_
 go_wp2_with (first
  | (refine stp ?_)
  | (refine wpList_copy rfl _ _ rfl y0c zdhv hb2 zdhv (q:=n - i) z083 hs2 hfit2 ?_))
 go_ret
 have hbf:=hb2.setRow (over (over row news (i)) (cs.drop (i)) (i+1))
 have hfin:=HFIN.out ((W1.setRow w.heap.size (over row news (i)).toArray).drew.setRow w.heap.size (over (over row news (i)) (cs.drop (i)) (i+1)).toArray)
 exact zwTo
):P:=h
theorem zaE4 {P:Prop} (h:P:=by
 by_cases he:i=n
 ·subst he
  have h1:cs.take (i)++(news++cs.drop (i))=cs++news:=by
   exact zaRA
  rw [h1]
  exact y0g w v i cs news xb h hx hnl hno hn
 ·obtain ⟨p,cap,rfl,hc1,hc2⟩:=y0f h
  obtain ⟨g,off,hp⟩:∃ g off,p=some ⟨g,off,none⟩:=by
   exact zIYC
  subst hp
  by_cases hr:n+1≤cap
  ·refine (y0h w g off cap n i cs news xb h hx hnl hno (fun e=>hxb (by rw [e];rfl)) zTbe hr hn).mono ?_
   exact z4DJ
  ·refine (y0i w g off cap n i cs news xb h hx hnl hno zTbe zTbe hn).mono ?_
   exact zOP3
):P:=h
namespace TyS
theorem y0f {w:World} {e:TypeId} {sz:Nat} {v:Value} {n:Nat} {cs:List Value} (h:Own w e sz v n cs):∃ p cap,v=.slice p n cap∧n≤cap∧cap≤9223372036854775807 :=
 (h.sl (B:=fun _=>True) (fun _ _=>trivial)).form
theorem y0g (w:World) (v:Value) (n:Nat) (cs news:List Value) (xb:Nat) (h:Own w 172 1 v n cs) (hx:Blk w xb 172 news) (hnl:news.length=1) (hno:Ones news) (hn:n≤1000000000) :
 Calls Tryz.prog 170 #[v,.int .i64 (n:Int),.slice (some ⟨xb,0,none⟩) 1 1] w fun e w'=>∃ v',e=.returned v'∧Own w' 172 1 v' (n+1) (cs++news) ∧
  Only (fun k=>v.ownBlock=some k) w w'∧(∀ k,v'.ownBlock=some k→v.ownBlock=some k∨w.heap.size≤k):=zY6R
theorem y0h (w:World) (g off cap n i:Nat) (cs news:List Value) (xb:Nat) (h:Own w 172 1 (.slice (some ⟨g,off,none⟩) n cap) n cs) (hx:Blk w xb 172 news) (hnl:news.length=1) (hno:Ones news) (hxb:g≠xb) (hi:i < n) (hroom:n+1≤cap) (hn:n≤1000000000) :
 Calls Tryz.prog 170 #[.slice (some ⟨g,off,none⟩) n cap,.int .i64 (i:Int),.slice (some ⟨xb,0,none⟩) 1 1] w fun e w'=>e=.returned (.slice (some ⟨g,off,none⟩) (n+1) cap) ∧
  Own w' 172 1 (.slice (some ⟨g,off,none⟩) (n+1) cap) (n+1) (cs.take (i)++(news++cs.drop (i)))∧Only (fun k=>k=g) w w':=zTYm
theorem y0i (w:World) (g off cap n i:Nat) (cs news:List Value) (xb:Nat) (h:Own w 172 1 (.slice (some ⟨g,off,none⟩) n cap) n cs) (hx:Blk w xb 172 news) (hnl:news.length=1) (hno:Ones news) (hi:i < n) (hroom:cap < n+1) (hn:n≤1000000000) :
 Calls Tryz.prog 170 #[.slice (some ⟨g,off,none⟩) n cap,.int .i64 (i:Int),.slice (some ⟨xb,0,none⟩) 1 1] w fun e w'=>∃ c,e=.returned (.slice (some ⟨w.heap.size,0,none⟩) (n+1) c) ∧
  Own w' 172 1 (.slice (some ⟨w.heap.size,0,none⟩) (n+1) c) (n+1) (cs.take (i)++(news++cs.drop (i)))∧Below w.heap.size w w':=zrm5
theorem y0j (w:World) (v:Value) (n i:Nat) (cs news:List Value) (xb:Nat) (h:Own w 172 1 v n cs) (hx:Blk w xb 172 news) (hnl:news.length=1) (hno:Ones news) (hxb:v.ownBlock≠some xb) (hi:i≤n) (hn:n≤1000000000) :
 Calls Tryz.prog 170 #[v,.int .i64 (i:Int),.slice (some ⟨xb,0,none⟩) 1 1] w fun e w'=>∃ v',e=.returned v'∧Own w' 172 1 v' (n+1) (cs.take (i)++(news++cs.drop (i))) ∧
  Only (fun k=>v.ownBlock=some k) w w'∧(∀ k,v'.ownBlock=some k→v.ownBlock=some k∨w.heap.size≤k):=zaE4
end TyS
theorem zLKE {P:Prop} (h:P:=by
 have HS:=Lib.hid (y05 w B av l k h hr hn)
 obtain ⟨p,cap,rfl,_,_⟩:=h.form
 obtain ⟨c0,c1⟩:=pg_cells hb
 unfold ptrV
 clear h hb
 generalize pos k l=q at *
 generalize has k l=hs at *
 go_enter q2m,q2n
 go_wp2_with fail
 refine HS.out.mono ?_
 rintro e w2 ⟨rfl,hb2⟩
 go_wp2
 exact bodyPost_ret (v:=.tuple #[.int .i64 (q:Nat),.bool hs]) (by simp [results,q2o,go_sem]) rfl ⟨rfl,hb2⟩
):P:=h
theorem zxIu {P:Prop} (h:P:=by
 obtain ⟨c0,c1⟩:=pg_cells hb
 unfold ptrV
 clear hb
 by_cases h:n=0
 ·subst h
  go_enter q2p,q2q
  exact zWFb
 ·rw [decide_eq_false h]
  have h2:((n:Int) == 0)=false:=zJDc
  have h3:¬ ((n:Int)=0):=zTbe
  go_enter q2p,q2q
  exact zWFb
):P:=h
theorem zL6X {P:Prop} (h:P:=by
 obtain ⟨xk,xv⟩:=x
 obtain ⟨p,cap,rfl,hc1,hc2⟩:=y06 ha
 obtain ⟨w1,hw1⟩:∃ w1,w.alloc (.cells #[.string (kb xk),xv] (value_of% n1x))=w1:=⟨_,rfl⟩
 have b1:=zppX
 have s1:=zFlm
 have hbx:Blk w1 w.heap.size (value_of% n1x) [.string (kb xk),xv]:=hw1▸Blk.new w _ _
 have hbl:b < w.heap.size:=hb.lt
 have b2:Below w.heap.size w (w1.alloc (.cells #[.string (kb xk),xv] (value_of% n1x))).drew:=(b1.alloc (by rw [s1];omega) _).drew
 have HI:=Lib.hid (y0a (w1.alloc (.cells #[.string (kb xk),xv] (value_of% n1x))).drew (.slice p l.length cap) l.length i (enC l) [.string (kb xk),xv] w1.heap.size (ha.below b2) (Blk.new w1 _ _).drew rfl
  (Ones.cons rfl (Ones.cons hx1 Ones.nil)) (fun h=>by have:=ha.lt _ h;omega) hi hn)
 rw [enC_ins l i ⟨xk,xv⟩] at HI
 obtain ⟨c0,c1⟩:=pg_cells (hb.below b1)
 have d0:=hbx.cell 0
 have d1:=hbx.cell 1
 simp only [List.getElem?_cons_zero,List.getElem?_cons_succ] at d0 d1
 have HB:=Lib.hid hb
 have HB2:=Lib.hid b2
 have HAB:=Lib.hid hab
 have hag0:Agree (fun q=>q=b) w1.drew (w1.alloc (.cells #[.string (kb xk),xv] (value_of% n1x))).drew:=agree_alloc (w:=w1) _ (by intro k hk;subst hk;rw [s1];omega)
 unfold ptrV
 simp only
 have S1:=Lib.hid s1
 clear hb ha hab hx1 hbx b1 b2 s1
 go_enter q2r,q2s
 go_wp2_with fail
 refine wp_region_lit_plan [] [(0,0),(1,0),(2,0),(3,0),(5,0),(4,2),(6,1),(7,3),(8,4),(9,0),(10,0),(11,4)] (fun q=>q=b) zyVB zyVB (fun c a d v w h=>zx0I) ?_
 go_wp2_with (first|(refine stp ?_))
 refine HI.out.mono ?_
 rintro e w3 ⟨v',rfl,ho3,hon3,hv3⟩
 have hb3:=(HB.out.below HB2.out).only hon3 HAB.out
 have hnb:v'.ownBlock≠some b:=fun h=>by
  rcases hv3 b h with h2|h2
  ·exact HAB.out h2
  ·have:=HB2.out.size;omega
 obtain ⟨p3,c3,rfl,_,_⟩:=y06 ho3
 have HO3:=Lib.hid ho3
 have HON3:=Lib.hid hon3
 have HV3:=Lib.hid hv3
 have HB3:=Lib.hid hb3
 have hf:=hb3.frozen 0
 obtain ⟨x0,x1⟩:=pg_cells hb3
 clear ho3 hon3 hv3 hb3
 go_wp2_with (first|(refine stp ?_))
 have h3:Only (fun k=>k=b∨(Value.slice p l.length cap).ownBlock=some k) w w3:=((Only.of_none (S:=fun _=>False) HB2.out).mono (fun _ _ h=>h.elim)).trans HON3.out (fun i hi hk=>.inr hk)
 go_end0
 refine ⟨rfl,_,HB3.out.set 0 (.slice p3 (l.length+1) c3),HO3.out.setOther hnb _,h3.setCell (fun _=>.inl rfl) _,fun k hk=>?_⟩
 rcases HV3.out k hk with h2|h2
 ·exact .inl h2
 ·exact .inr (Nat.le_trans HB2.out.size h2)
):P:=h
namespace TyS
theorem y0k (w:World) (b:Nat) (t:TypeId) (av bv:Value) (l:List En) (k:Key) (B:Nat→Prop) (hb:Blk w b t [av,bv]) (h:Sl w B 2 av l.length (enC l)) (hr:Rise l) (hn:l.length≤1000000000) :
 Calls Tryz.prog 91 #[ptrV b,.string (kb k)] w fun e w'=>e=.returned (.tuple #[.int .i64 (pos k l:Nat),.bool (has k l)])∧Below w.heap.size w w':=zLKE
theorem y0l (w:World) (b:Nat) (t:TypeId) (av:Value) (p:Option Addr) (n c:Nat) (hb:Blk w b t [av,.slice p n c]) :
 Calls Tryz.prog 92 #[ptrV b] w fun e w'=>e=.returned (.bool (decide (n=0)))∧w'=w:=zxIu
theorem y1r (w:World) (b:Nat) (t:TypeId) (av bv:Value) (ks:List P) (i:Nat) (B:Nat→Prop) (hb:Blk w b t [av,bv]) (h:Sl w B 1 bv ks.length (ptrs ks)) (hi:ks≠[]→i < ks.length) :
 Calls Tryz.prog 117 #[ptrV b,.int .i64 (i:Int)] w fun e w'=>e=.returned (match ks[i]? with|some c=>ptrV c.blk|none=>.pointer none)∧w'=w:=by
 obtain ⟨p,cap,rfl,_,_⟩:=h.form
 have HL:=Lib.hid (y0l w b t av p ks.length cap hb)
 obtain ⟨c0,c1⟩:=pg_cells hb
 unfold ptrV at *
 by_cases hk:ks.length=0
 ·obtain rfl:=List.eq_nil_of_length_eq_zero hk
  clear hb h hi hk
  go_enter Tryz.func117,Tryz.ntmps117
  go_wp2_with fail
  refine HL.out.mono ?_
  rintro e w2 ⟨rfl,rfl⟩
  go_wp2
  go_ret
  exact ⟨zPXO,rfl⟩
 ·have hil:i < ks.length:=hi (fun e=>hk (by rw [e];rfl))
  rw [decide_eq_false hk] at HL
  obtain ⟨g,off,cap',hv,hg,e0⟩:=sl_ptr h hil
  cases hv
  rw [List.getElem?_eq_getElem hil]
  unfold ptrV at e0
  simp only
  clear hb h hi hk
  generalize ks[i]=x at *
  go_enter Tryz.func117,Tryz.ntmps117
  go_wp2_with fail
  refine HL.out.mono ?_
  rintro e w2 ⟨rfl,rfl⟩
  exact zWFb
theorem y0m (w:World) (b i:Nat) (av bv:Value) (l:List En) (x:En) (hb:Blk w b 182 [av,bv]) (ha:Own w 184 2 av l.length (enC l)) (hab:av.ownBlock≠some b) (hx1:x.val.oneCell'=true) (hi:i≤l.length) (hn:l.length≤1000000000) :
 Calls Tryz.prog 167 #[ptrV b,.int .i64 (i:Int),.agg #[.string (kb x.key),x.val]] w fun e w'=>e=.returned (.tuple #[])∧∃ av',Blk w' b 182 [av',bv]∧Own w' 184 2 av' (l.length+1) (enC (insAt i x l)) ∧
  Only (fun k=>k=b∨av.ownBlock=some k) w w'∧(∀ k,av'.ownBlock=some k→av.ownBlock=some k∨w.heap.size≤k):=zL6X
theorem y0n (w:World) (b i:Nat) (av bv:Value) (l:List En) (hb:Blk w b 182 [av,bv]) (ha:Own w 184 2 av l.length (enC l)) (hab:av.ownBlock≠some b) (hi:i < l.length) (hn:l.length≤1000000000) :
 Calls Tryz.prog 177 #[ptrV b,.int .i64 (i:Int)] w fun e w'=>e=.returned (.agg #[.string (kb l[i].key),l[i].val])∧∃ av',Blk w' b 182 [av',bv]∧Own w' 184 2 av' (l.length - 1) (enC (l.take i++l.drop (i+1))) ∧
  Only (fun k=>k=b∨av.ownBlock=some k) w w'∧(∀ k,av'.ownBlock=some k→av.ownBlock=some k∨w.heap.size≤k):=by
 obtain ⟨g,off,cap,rfl,_,hg,e0,e1⟩:∃ g off cap,av=.slice (some ⟨g,off,none⟩) l.length cap∧True∧g < w.heap.size∧w.cell? ⟨g,off+i*2,none⟩=some (.string (kb l[i].key))∧w.cell? ⟨g,off+i*2+1,none⟩=some l[i].val:=by
  exact zts7
 generalize hx:l[i]=x at *
 obtain ⟨xk,xv⟩:=x
 simp only at e0 e1 ⊢
 have hal:Below w.heap.size w (w.alloc (.cells #[.string ⟨#[]⟩,(.string ⟨#[]⟩)] 184)):=(Below.refl _ _).alloc (Nat.le_refl _) _
 have hxv:xv.oneCell'=true:=by
  exact zHp0
 obtain ⟨c0,c1⟩:=pg_cells hb
 have hbl:b < w.heap.size:=hb.lt
 have hal2:Below w.heap.size w ((w.alloc (.cells #[.string ⟨#[]⟩,(.string ⟨#[]⟩)] 184)).alloc (.cells #[.string (kb xk),xv] 184)):=hal.alloc zPXO _
 have hgb:g≠b:=fun e=>hab (by rw [e];rfl)
 have HD:=Lib.hid (y03 _ g off cap l.length i (enC l) (ha.below hal2) hn hi)
 rw [enC_del] at HD
 have hkA:Blk ((w.alloc (.cells #[.string ⟨#[]⟩,(.string ⟨#[]⟩)] 184)).alloc (.cells #[.string (kb xk),xv] 184)) w.heap.size 184 [.string ⟨#[]⟩,(.string ⟨#[]⟩)]:=(Blk.new w _ _).alloc _
 have hkB:Blk ((w.alloc (.cells #[.string ⟨#[]⟩,(.string ⟨#[]⟩)] 184)).alloc (.cells #[.string (kb xk),xv] 184)) (w.heap.size+1) 184 [.string (kb xk),xv]:=by
  have h1:(w.alloc (.cells #[.string ⟨#[]⟩,(.string ⟨#[]⟩)] 184)).heap.size=w.heap.size+1:=zPXO
  exact h1▸Blk.new (w.alloc (.cells #[.string ⟨#[]⟩,(.string ⟨#[]⟩)] 184)) _ _
 have HKA:=Lib.hid hkA
 have HKB:=Lib.hid hkB
 have HB:=Lib.hid hb
 have HAL2:=Lib.hid hal2
 have hgn:¬ (w.heap.size=g):=zTbe
 have hgn1:¬ (w.heap.size+1=g):=zTbe
 unfold ptrV
 clear hb ha hab hx hal hal2 hkA hkB
 go_enter Tryz.func177,Tryz.ntmps177
 go_wp2_with fail
 refine HD.out.mono ?_
 rintro e w3 ⟨rfl,ho3,hon3,hs3⟩
 have hb3:=(HB.out.below HAL2.out).only hon3 (fun e=>hgb e.symm)
 have hA3:=HKA.out.only hon3 hgn
 have hB3:=HKB.out.only hon3 hgn1
 obtain ⟨x0,x1⟩:=pg_cells hb3
 have hf:=hb3.frozen 0
 have y0:=hA3.cell 0
 have y1:=hA3.cell 1
 have z0:=hB3.cell 0
 have z1:=hB3.cell 1
 have f0:=hA3.frozen 0
 have f1:=hA3.frozen 1
 simp only [List.getElem?_cons_zero,List.getElem?_cons_succ] at y0 y1 z0 z1
 have HB3:=Lib.hid hb3
 have HA3:=Lib.hid hA3
 have HO3:=Lib.hid ho3
 have HON3:=Lib.hid hon3
 clear hb3 hA3 hB3 ho3 hon3 hs3 e0 e1 c0 c1 HD
 go_wp2
 have hA4:=((HA3.out.setOther (p:=⟨b,0,none⟩) (by show ¬ w.heap.size=b;omega) (.slice (some ⟨g,off,none⟩) (l.length - 1) cap)).set 0 (.string (kb xk))).set 1 xv
 have hB4:=((HB3.out.set 0 (.slice (some ⟨g,off,none⟩) (l.length - 1) cap)).setOther (p:=⟨w.heap.size,0,none⟩) zHWv (.string (kb xk))).setOther (p:=⟨w.heap.size,1,none⟩) zHWv xv
 have hO4:=((HO3.out.setOther (p:=⟨b,0,none⟩) (fun h=>hgb (Option.some.inj h)) (.slice (some ⟨g,off,none⟩) (l.length - 1) cap)).setOther (p:=⟨w.heap.size,0,none⟩) (fun h=>hgn (Option.some.inj h).symm) (.string (kb xk))).setOther (p:=⟨w.heap.size,1,none⟩) (fun h=>hgn (Option.some.inj h).symm) xv
 have hN4:Only (fun k=>k=b∨(Value.slice (some ⟨g,off,none⟩) l.length cap).ownBlock=some k) w (((w3.setCell ⟨b,0,none⟩ (.slice (some ⟨g,off,none⟩) (l.length - 1) cap)).setCell ⟨w.heap.size,0,none⟩ (.string (kb xk))).setCell ⟨w.heap.size,1,none⟩ xv):=by
  exact zhWR
 have m0:=hA4.cell 0
 have m1:=hA4.cell 1
 simp only [List.getElem?_cons_zero,List.getElem?_cons_succ,List.set_cons_zero,List.set_cons_succ] at m0 m1
 exact bodyPost_ret (v:=.agg #[.string (kb xk),xv]) (by simp [results,Tryz.results177,go_sem,m0,m1]) rfl ⟨rfl,_,hB4,hO4,hN4,fun k hk=>.inl hk⟩
end TyS
theorem ztu3 {P:Prop} (h:P:=by
 have hb:Blk w b (value_of% n2t) [av,bv]:=hs.all (y0q b av bv) zPXO
 have ha:Own w (value_of% n1x) 2 av l.length (enC l):=hs.all (y0r av l) zPXO
 have hab:av.ownBlock≠some b:=fun h=>two_apart hs b zg6m (by simp [Res.own,h])
 refine (y0m w b i av bv l x hb ha hab hx1 hi hn).mono ?_
 rintro e w' ⟨rfl,av',hb',ha',ho,hf⟩
 have hbl:=hb.lt
 have hl:=insAt_length i x l hi
 refine ⟨rfl,av',⟨⟨fun q hq=>?_,?_⟩,ho.mono fun k _ hk=>?_,fun k hk=>?_⟩⟩
 ·simp only [List.mem_cons,List.not_mem_nil,or_false] at hq
  rcases hq with rfl|rfl
  ·exact hb'
  ·show Own w' _ _ _ _ _;rw [hl];exact ha'
 ·show (feet [y0q b av' bv,y0r av' (insAt i x l)]).Nodup
  have e1:feet [y0q b av' bv,y0r av' (insAt i x l)]=b::av'.ownBlock.toList:=by simp [feet,Res.blk,Res.own]
  exact zGJo
 ·show k∈feet [y0q b av bv,y0r av l]
  rcases hk with rfl|hk
  ·simp [feet,Res.blk]
  ·simp [feet,Res.own,hk]
 ·have e1:feet [y0q b av' bv,y0r av' (insAt i x l)]=b::av'.ownBlock.toList:=by simp [feet,Res.blk,Res.own]
  exact zuAu
):P:=h
theorem z1iw {P:Prop} (h:P:=by
 have hb:Blk w b (value_of% n2t) [av,bv]:=hs.all (y0q b av bv) zPXO
 have ha:Own w (value_of% n1x) 2 av l.length (enC l):=hs.all (y0r av l) zPXO
 have hab:av.ownBlock≠some b:=fun h=>two_apart hs b zg6m (by simp [Res.own,h])
 refine (y0n w b i av bv l hb ha hab hi hn).mono ?_
 rintro e w' ⟨rfl,av',hb',ha',ho,hf⟩
 have hbl:=hb.lt
 have hl:(l.take i++l.drop (i+1)).length=l.length - 1:=zr2F
 refine ⟨rfl,av',⟨⟨fun q hq=>?_,?_⟩,ho.mono fun k _ hk=>?_,fun k hk=>?_⟩⟩
 ·simp only [List.mem_cons,List.not_mem_nil,or_false] at hq
  rcases hq with rfl|rfl
  ·exact hb'
  ·show Own w' _ _ _ _ _;rw [hl];exact ha'
 ·show (feet [y0q b av' bv,y0r av' (l.take i++l.drop (i+1))]).Nodup
  have e1:feet [y0q b av' bv,y0r av' (l.take i++l.drop (i+1))]=b::av'.ownBlock.toList:=by simp [feet,Res.blk,Res.own]
  exact zGJo
 ·show k∈feet [y0q b av bv,y0r av l]
  rcases hk with rfl|hk
  ·simp [feet,Res.blk]
  ·simp [feet,Res.own,hk]
 ·have e1:feet [y0q b av' bv,y0r av' (l.take i++l.drop (i+1))]=b::av'.ownBlock.toList:=by simp [feet,Res.blk,Res.own]
  exact zuAu
):P:=h
namespace TyS
abbrev y0o (p:P):List Res:=p.res 182 184 172
abbrev y0p (l:List P):List Res:=P.resL 182 184 172 l
abbrev y0q (b:Nat) (av bv:Value):Res:=Res.blk b 182 [av,bv]
abbrev y0r (av:Value) (es:List En):Res:=Res.own 184 2 av es.length (enC es)
abbrev y0s (bv:Value) (ks:List P):Res:=Res.own 172 1 bv ks.length (ptrs ks)
theorem y0t (b:Nat) (av bv:Value) (es:List En) (ks:List P):y0o (.node b av es bv ks)=y0q b av bv::y0r av es::y0s bv ks::y0p ks:=P.res_node b av es bv ks
theorem y0u (w:World) (b i:Nat) (av bv:Value) (l:List En) (x:En) (hs:Sep w [y0q b av bv,y0r av l]) (hx1:x.val.oneCell'=true) (hi:i≤l.length) (hn:l.length≤1000000000) :
 Calls Tryz.prog 167 #[ptrV b,.int .i64 (i:Int),.agg #[.string (kb x.key),x.val]] w fun e w'=>e=.returned (.tuple #[])∧∃ av',Trk w (feet [y0q b av bv,y0r av l]) w' [y0q b av' bv,y0r av' (insAt i x l)]:=ztu3
theorem y0v (w:World) (b i:Nat) (av bv:Value) (l:List En) (hs:Sep w [y0q b av bv,y0r av l]) (hi:i < l.length) (hn:l.length≤1000000000) :
 Calls Tryz.prog 177 #[ptrV b,.int .i64 (i:Int)] w fun e w'=>e=.returned (.agg #[.string (kb l[i].key),l[i].val])∧∃ av',Trk w (feet [y0q b av bv,y0r av l]) w' [y0q b av' bv,y0r av' (l.take i++l.drop (i+1))]:=z1iw
end TyS
theorem zDMu {P:Prop} (h:P:=by
 have T0:=Trk.start hs
 generalize hF:feet (y0o (.node b av es bv (l++.node cb cav ces cbv cks::r)))=F at *
 have hp0:(y0o (.node b av es bv (l++.node cb cav ces cbv cks::r))).Perm (y0q b av bv::y0r av es::y0s bv (l++.node cb cav ces cbv cks::r)::y0q cb cav cbv::y0r cav ces::y0s cbv cks::(y0p (cks.take 3)++(y0p (cks.drop 3)++(y0p l++y0p r)))):=by
  have e:P.resL (value_of% n2t) (value_of% n1x) (value_of% n2e) cks=y0p (cks.take 3)++y0p (cks.drop 3):=by rw [←P.resL_append,List.take_append_drop]
  rw [y0t,y0p,P.resL_append,P.resL_cons,P.res_node,e]
  exact perm_of_cnt fun a=>by simp only [cnt_append,cnt_cons,y0p,y0q,y0r,y0s];omega
 have T0:=T0.perm hp0
 have hR:∀ q,cnt q (y0p (cks.take 3)++(y0p (cks.drop 3)++(y0p l++y0p r)))=cnt q (y0p (cks.take 3))+(cnt q (y0p (cks.drop 3))+(cnt q (y0p l)+cnt q (y0p r))):=fun q=>by simp only [cnt_append]
 have HRR:=Lib.hid hR
 generalize y0p (cks.take 3)++(y0p (cks.drop 3)++(y0p l++y0p r))=R at *
 clear hs hp0 hR
 have kb0:=zDoW
 have kc0:=zJFC
 have oa:=zPoB
 have ok:Own w (value_of% n2e) 1 bv (l++.node cb cav ces cbv cks::r).length (ptrs (l++.node cb cav ces cbv cks::r)):=T0.own zInm
 have ock:=zX0n
 obtain ⟨gk,offk,capk,hbv,hgk,p0⟩:=sl_ptr (k:=l.length) (ok.sl (B:=fun _=>True) (fun _ _=>trivial)) zPXO
 have hcl:(l++P.node cb cav ces cbv cks::r)[l.length]'(zPXO)=P.node cb cav ces cbv cks:=zPXO
 rw [hcl] at p0
 obtain ⟨ga,offa,capa,hcav,hga,e0,e1⟩:=sl_en (k:=2) (oa.sl (B:=fun _=>True) (fun _ _=>trivial)) zTbe
 obtain ⟨x0,x1⟩:=pg_cells kb0
 obtain ⟨y0,y1⟩:=pg_cells kc0
 have HBV:=Lib.hid hbv
 have HCAV:=Lib.hid hcav
 rw [hbv] at x1
 rw [hcav] at y0 oa
 clear hbv hcav
 have hlt1:=kb0.lt
 have hlt2:=kc0.lt
 have hsl1:=Sl.from (k:=3) (oa.sl (B:=fun _=>True) (fun _ _=>trivial)) zTbe
 have HC1:=Lib.hid (y02 w _ _ _ _ hsl1 zTbe)
 have hcap:ces.length≤capa∧capa≤9223372036854775807:=by obtain ⟨p,c,h1,h2,h3⟩:=y06 oa;cases h1;exact ⟨h2,h3⟩
 obtain ⟨hcap1,hcap2⟩:=hcap
 have hca3:¬ (capa=3):=zTbe
 have HT0:=Lib.hid T0
 have hp0:w.cell? ⟨gk,offk+l.length,none⟩=some (.pointer (some ⟨cb,0,none⟩)):=p0
 unfold ptrV
 clear T0 kb0 kc0 oa ok ock hcl p0 hsl1 hF
 obtain ⟨nk,hnk⟩:∃ nk,(l++P.node cb cav ces cbv cks::r).length=nk:=⟨_,rfl⟩
 rw [hnk] at x1 HBV hkn
 have hlnk:l.length < nk:=zunR
 have HNK:=Lib.hid hnk
 clear hnk
 go_enter q2u,q2v
 go_wp2_with fail
 refine HC1.out.mono ?_
 rintro e w1 ⟨v1,rfl,ho1,hb1,hf1⟩
 have ho1':Own w1 (value_of% n1x) 2 v1 (ces.drop 3).length (enC (ces.drop 3)):=by rw [←(enC_td ces 3).2,List.length_drop];exact ho1
 have T1:=HT0.out.new (r:=y0r v1 (ces.drop 3)) ho1' (ownBlock_nodup v1) (fun k hk=>hf1 k (by simpa [Res.own] using hk)) hb1
 obtain ⟨p1,c1,hv1,_,_⟩:=y06 ho1
 obtain ⟨w2,hw2⟩:∃ w2,w1.alloc (.cells #[.slice p1 (ces.length - 3) c1,.slice none 0 0] (value_of% n2t))=w2:=⟨_,rfl⟩
 have hb12:=zXxX
 have hkr:Blk w2 w1.heap.size (value_of% n2t) [v1,.slice none 0 0]:=by rw [hv1,←hw2];exact Blk.new w1 _ _
 have T2:=T1.new (r:=y0q w1.heap.size v1 (.slice none 0 0)) hkr zg6m zg6m hb12
 have kc2:Blk w2 cb (value_of% n2t) [cav,cbv]:=T2.blk zInm
 have hcbv:∃ p c,cbv=.slice p cks.length c∧cks.length≤c∧c≤9223372036854775807:=y0f (T2.own (e:=(value_of% n2e)) (sz:=1) (cs:=ptrs cks) zInm)
 obtain ⟨pk,ck,hcbv,hck1,hck2⟩:=hcbv
 have HL:=Lib.hid (y0l w2 cb (value_of% n2t) cav pk cks.length ck (hcbv▸kc2))
 have HT2:=Lib.hid T2
 have HW2:=Lib.hid hw2
 have HCBV:=Lib.hid hcbv
 have HV1:=Lib.hid hv1
 clear ho1 ho1' hb1 hf1 T1 T2 kc2 hkr hb12 hcbv HC1 HT0 x0 x1 y0 y1 e0 e1 hp0
 subst hv1
 go_wp2_with fail
 refine HL.out.mono ?_
 clear hw2
 rintro e wq ⟨rfl,hq⟩
 subst hq
 rcases hk with hk|hk
 ·have hk0:cks.length=0:=by rw [hk];rfl
  obtain ⟨wX,hX⟩:∃ wX,wX=wq:=⟨_,rfl⟩
  obtain ⟨v2,hv2⟩:∃ v2,v2=Value.slice none 0 0:=⟨_,rfl⟩
  obtain ⟨cv2,hcv2⟩:∃ cv2,cv2=cbv:=⟨_,rfl⟩
  have TX:Trk w F wX (y0q w1.heap.size (.slice p1 (ces.length - 3) c1) v2::y0r (.slice p1 (ces.length - 3) c1) (ces.drop 3)::y0s v2 (cks.drop 3)::y0q b av bv::y0r av es::y0s bv (l++.node cb cav ces cbv cks::r)::y0q cb cav cv2::y0r cav ces::y0s cv2 (cks.take 3)::R):=by
   have e1:cks.drop 3=[]:=by rw [hk];rfl
   have e2:cks.take 3=cks:=by rw [hk];rfl
   rw [e1,e2,hX,hv2,hcv2]
   have T3:=HT2.out.new (r:=y0s (.slice none 0 0) []) (Own.nil _ _ _) znD9 znD9 (Below.refl _ _)
   exact T3.perm (perm_of_cnt fun a=>zIzS)
  have HTX:=Lib.hid TX
  have HX:=Lib.hid hX
  have HV2:=Lib.hid hv2
  clear TX hX hv2 hcv2
  go_wp2_with fail
  rw [←HX.out]
  exact zq1s
 ·have hk0:¬ cks.length=0:=by omega
  have kc2:Blk wq cb (value_of% n2t) [cav,cbv]:=HT2.out.blk zInm
  have ock:Own wq (value_of% n2e) 1 cbv cks.length (ptrs cks):=HT2.out.own zInm
  obtain ⟨y0,y1⟩:=pg_cells kc2
  rw [HCBV.out] at y1 ock
  obtain ⟨gq,offq,hpk⟩:∃ g off,pk=some ⟨g,off,none⟩:=by
   rcases ock.2.2 with ⟨h0,h1⟩|⟨g',off',cap',cur,hv,_⟩
   ·exfalso;omega
   ·cases hv;exact ⟨g',off',rfl⟩
  subst hpk
  have hslk:=Sl.from (k:=3) (ock.sl (B:=fun _=>True) (fun _ _=>trivial)) zTbe
  have HC2:=Lib.hid (y0d wq _ _ _ _ hslk zTbe)
  simp only [Nat.mul_one] at HC2
  have hck3:¬ ck=3:=zTbe
  clear kc2 ock hslk
  go_wp2_with fail
  refine HC2.out.mono ?_
  rintro e w3 ⟨v2,rfl,ho2,hb2,hf2⟩
  have ho2':Own w3 (value_of% n2e) 1 v2 (cks.drop 3).length (ptrs (cks.drop 3)):=by rw [←(ptrs_td cks 3).2,List.length_drop];exact ho2
  have T3:=HT2.out.new (r:=y0s v2 (cks.drop 3)) ho2' (ownBlock_nodup v2) (fun k hk=>hf2 k (by simpa [Res.own] using hk)) hb2
  have hp3:(y0s v2 (cks.drop 3)::y0q w1.heap.size (.slice p1 (ces.length - 3) c1) (.slice none 0 0)::y0r (.slice p1 (ces.length - 3) c1) (ces.drop 3)::y0q b av bv::y0r av es::y0s bv (l++.node cb cav ces cbv cks::r)::y0q cb cav cbv::y0r cav ces::y0s cbv cks::R).Perm (y0q w1.heap.size (.slice p1 (ces.length - 3) c1) (.slice none 0 0)::(y0q cb cav cbv::y0s cbv cks::y0s v2 (cks.drop 3)::y0r (.slice p1 (ces.length - 3) c1) (ces.drop 3)::y0q b av bv::y0r av es::y0s bv (l++.node cb cav ces cbv cks::r)::y0r cav ces::R)):=perm_of_cnt fun a=>zIzS
  have T3:=T3.perm hp3
  have kr3:Blk w3 w1.heap.size (value_of% n2t) [(.slice p1 (ces.length - 3) c1),.slice none 0 0]:=T3.blk zInm
  obtain ⟨w4,hw4⟩:∃ w4,w3.setCell ⟨w1.heap.size,1,none⟩ v2=w4:=⟨_,rfl⟩
  have T4:Trk w F w4 (y0q w1.heap.size (.slice p1 (ces.length - 3) c1) v2::(y0q cb cav cbv::y0s cbv cks::y0s v2 (cks.drop 3)::y0r (.slice p1 (ces.length - 3) c1) (ces.drop 3)::y0q b av bv::y0r av es::y0s bv (l++.node cb cav ces cbv cks::r)::y0r cav ces::R)):=hw4▸T3.blkSet 1 v2
  have hp4:(y0q w1.heap.size (.slice p1 (ces.length - 3) c1) v2::(y0q cb cav cbv::y0s cbv cks::y0s v2 (cks.drop 3)::y0r (.slice p1 (ces.length - 3) c1) (ces.drop 3)::y0q b av bv::y0r av es::y0s bv (l++.node cb cav ces cbv cks::r)::y0r cav ces::R)).Perm (y0q cb cav cbv::(y0s cbv cks::y0q w1.heap.size (.slice p1 (ces.length - 3) c1) v2::y0s v2 (cks.drop 3)::y0r (.slice p1 (ces.length - 3) c1) (ces.drop 3)::y0q b av bv::y0r av es::y0s bv (l++.node cb cav ces cbv cks::r)::y0r cav ces::R)):=perm_of_cnt fun a=>zIzS
  have T4:=T4.perm hp4
  have kc4:Blk w4 cb (value_of% n2t) [cav,cbv]:=T4.blk zInm
  obtain ⟨cv2,hcv2⟩:∃ cv2,Value.slice (some ⟨gq,offq,none⟩) 3 3=cv2:=⟨_,rfl⟩
  obtain ⟨wX,hX⟩:∃ wX,w4.setCell ⟨cb,1,none⟩ (.slice (some ⟨gq,offq,none⟩) 3 3)=wX:=⟨_,rfl⟩
  have T5:Trk w F wX (y0q cb cav cv2::(y0s cbv cks::y0q w1.heap.size (.slice p1 (ces.length - 3) c1) v2::y0s v2 (cks.drop 3)::y0r (.slice p1 (ces.length - 3) c1) (ces.drop 3)::y0q b av bv::y0r av es::y0s bv (l++.node cb cav ces cbv cks::r)::y0r cav ces::R)):=hX▸hcv2▸T4.blkSet 1 (.slice (some ⟨gq,offq,none⟩) 3 3)
  have hp5:(y0q cb cav cv2::(y0s cbv cks::y0q w1.heap.size (.slice p1 (ces.length - 3) c1) v2::y0s v2 (cks.drop 3)::y0r (.slice p1 (ces.length - 3) c1) (ces.drop 3)::y0q b av bv::y0r av es::y0s bv (l++.node cb cav ces cbv cks::r)::y0r cav ces::R)).Perm (y0s cbv cks::(y0q w1.heap.size (.slice p1 (ces.length - 3) c1) v2::y0r (.slice p1 (ces.length - 3) c1) (ces.drop 3)::y0s v2 (cks.drop 3)::y0q b av bv::y0r av es::y0s bv (l++.node cb cav ces cbv cks::r)::y0q cb cav cv2::y0r cav ces::R)):=perm_of_cnt fun a=>zIzS
  have T5:=T5.perm hp5
  have ock5:Own wX (value_of% n2e) 1 cbv cks.length (ptrs cks):=T5.own zInm
  have hoK:Own wX (value_of% n2e) 1 cv2 (cks.take 3).length (ptrs (cks.take 3)):=by
   rw [HCBV.out] at ock5
   have h1:=ock5.cut (m:=3) (c:=3) zTbe zTbe zTbe
   rw [Nat.mul_one,(ptrs_td cks 3).1,hcv2] at h1
   have h2:(cks.take 3).length=3:=z2Pg
   rw [h2]
   exact h1
  have T6:=T5.swap (r':=y0s cv2 (cks.take 3)) hoK (show cv2.ownBlock.toList.Nodup from ownBlock_nodup _) (fun k hk=>by
   rw [←hcv2] at hk
   have h1:k=gq:=zhc6
   simp [Res.own,HCBV.out,Value.ownBlock,h1])
  have TX:Trk w F wX (y0q w1.heap.size (.slice p1 (ces.length - 3) c1) v2::y0r (.slice p1 (ces.length - 3) c1) (ces.drop 3)::y0s v2 (cks.drop 3)::y0q b av bv::y0r av es::y0s bv (l++.node cb cav ces cbv cks::r)::y0q cb cav cv2::y0r cav ces::y0s cv2 (cks.take 3)::R):=T6.perm (perm_of_cnt fun a=>zIzS)
  have HTX:=Lib.hid TX
  obtain ⟨z0,z1⟩:=pg_cells kr3
  obtain ⟨y0,y1⟩:=pg_cells kc4
  rw [HCBV.out] at y1
  have hf1:=kr3.frozen 1
  have hf2:=kc4.frozen 1
  obtain ⟨p2,c2,hv2,_,_⟩:=y0f ho2
  have HV2:=Lib.hid hv2
  have HX:=Lib.hid hX
  have HCV2:=Lib.hid hcv2
  have hck3i:(3:Int)≤(ck:Int):=zTbe
  have hck3n:3≤ck:=zTbe
  subst hv2
  clear ho2 ho2' hb2 hf2 T3 T4 T5 T6 TX hp3 hp4 hp5 kr3 kc4 ock5 hoK HC2 hcv2
  go_wp2_with fail
  clear hw4 hX z0 z1 y0 y1 hf1 hf2
  obtain ⟨v2,hv2⟩:∃ v2,v2=Value.slice p2 (cks.length - 3) c2:=⟨_,rfl⟩
  rw [←hv2] at HTX
  have HV3:=Lib.hid hv2
  clear hv2
  exact zq1s
):P:=h
namespace TyS
theorem y0w (w:World) (b:Nat) (av bv:Value) (es:List En) (l r:List P) (cb:Nat) (cav cbv:Value) (ces:List En) (cks:List P)
 (hs:Sep w (y0o (.node b av es bv (l++.node cb cav ces cbv cks::r)))) (hl:l.length≤es.length) (h6:3 < ces.length) (hk:cks=[]∨3 < cks.length)
 (hn:es.length≤1000000) (hcn:ces.length≤1000000) (hkn:(l++.node cb cav ces cbv cks::r).length≤1000000) (hckn:cks.length≤1000000) :
 Calls Tryz.prog 148 #[ptrV b,.int .i64 (l.length:Int)] w fun e w'=>e=.returned (.tuple #[])∧∃ p',p'.blk=b∧p'.t=splitT l.length es ((l++.node cb cav ces cbv cks::r).map P.t) (P.node cb cav ces cbv cks).t ∧
  Trk w (feet (y0o (.node b av es bv (l++.node cb cav ces cbv cks::r)))) w' (y0o p'):=zDMu
theorem y0x (z:ByteArray):Value.oneCell' (.string z)=true:=rfl
theorem y0y (w:World) (b:Nat) (av bv:Value) (es:List En) (ks:List P) (k:Key) (z:ByteArray) (hs:Sep w (y0o (.node b av es bv ks))) (hr:Rise es) (hn:es.length≤1000000) (hh:has k es=true) :
 Calls Tryz.prog 147 #[ptrV b,.string (kb k),(.string z)] w fun e w'=>∃ x,es[pos k es]?=some x∧e=.returned (.tuple #[x.val,.bool true])∧Trk w (feet (y0o (.node b av es bv ks))) w' (y0o (.node b av (es.set (pos k es) ⟨k,(.string z)⟩) bv ks)):=by
 have T0:=Trk.start hs
 generalize hF:feet (y0o (.node b av es bv ks))=F at *
 rw [y0t] at T0
 obtain ⟨hpl,hkey⟩:=has_at.1 hh
 have kb0:Blk w b 182 [av,bv]:=T0.blk zInm
 have oa:Own w 184 2 av es.length (enC es):=T0.own zInm
 have HFD:=Lib.hid (y0k w b _ av bv es k (fun _=>True) kb0 (oa.sl (B:=fun _=>True) (fun _ _=>trivial)) hr zTbe)
 rw [hh] at HFD
 have HST:Hid (∀ (w2:World) (g off cap:Nat),av=.slice (some ⟨g,off,none⟩) es.length cap→Own w2 184 2 av es.length (enC es)→Own (w2.setCell ⟨g,off+(pos k es*2+1),none⟩ (.string z)) 184 2 av (es.set (pos k es) ⟨k,(.string z)⟩).length (enC (es.set (pos k es) ⟨k,(.string z)⟩))):=fun w2 g off cap hv ho=>by
  rw [hv] at ho ⊢
  have h1:=ho.store (j:=pos k es*2+1) (.string z) rfl
  rw [List.length_set,enC_set es (pos k es) ⟨k,(.string z)⟩ hpl hkey.symm]
  exact h1
 have hx:=z2tu
 obtain ⟨g,off,cap,hav,hg,_,_⟩:=sl_en (oa.sl (B:=fun _=>True) (fun _ _=>trivial)) hpl
 have HX:=Lib.hid hx
 have HE:=Lib.hid (fun (w2:World) (h:Own w2 184 2 av es.length (enC es))=>sl_en (h.sl (B:=fun _=>True) (fun _ _=>trivial)) hpl)
 generalize es.set (pos k es) ⟨k,(.string z)⟩=es2 at *
 generalize es[pos k es]=x at *
 generalize pos k es=i at *
 have HT0:=Lib.hid T0
 have HAV:=Lib.hid hav
 unfold ptrV
 obtain ⟨x0,x1⟩:=pg_cells kb0
 rw [hav] at x0
 have hbl:=kb0.lt
 unfold ptrV at HFD
 clear T0 kb0 oa hkey hx hh hs hF hr
 go_enter Tryz.func147,Tryz.ntmps147
 go_wp2_with fail
 refine HFD.out.mono ?_
 clear HFD
 rintro e w2 ⟨rfl,hb2⟩
 have T2:=HT0.out.below hb2
 have kb2:Blk w2 b 182 [av,bv]:=T2.blk zInm
 have oa2:Own w2 184 2 av es.length (enC es):=T2.own zInm
 obtain ⟨g',off',cap',hv',hg2,e0,e1⟩:=HE.out w2 oa2
 rw [hav] at hv'
 cases hv'
 obtain ⟨y0,y1⟩:=pg_cells kb2
 rw [hav] at y0
 have hfz:w2.frozen? ⟨g,off+i*2+1,none⟩=false:=by
  rw [hav] at oa2
  have h1:=(oa2.cellAt (j:=i*2+1) zTbe).2
  rwa [←Nat.add_assoc] at h1
 have HT2:=Lib.hid T2
 clear T2 kb2 oa2 hb2 x0 x1 hav
 go_wp2_with fail
 refine wp_region_lit_plan [] [(0,0),(1,0),(2,0),(3,0),(5,0),(6,0),(7,0),(8,0),(9,0),(11,0),(15,0),(4,1),(10,1),(12,0),(13,0),(14,1),(16,0),(17,0),(18,0),(19,4)] (fun _=>False) zyVB zyVB (fun c a d v w h=>zx0I) ?_
 go_wp2_with (first|(refine stp ?_))
 have hadr:(⟨g,off+(i*2+1),none⟩:Addr)=⟨g,off+i*2+1,none⟩:=rfl
 have ho:=HST.out w2 g off cap HAV.out (HT2.out.own zInm)
 rw [hadr] at ho
 have T3:=(HT2.out.perm (perm_of_cnt (y:=y0r av es::(y0q b av bv::y0s bv ks::y0p ks)) fun a=>zIzS)).one (w':=w2.setCell ⟨g,off+i*2+1,none⟩ (.string z)) (r':=y0r av es2) ho (show av.ownBlock.toList.Nodup from ownBlock_nodup av) (fun k hk=>.inl hk)
  (Only.setCell (Only.refl _ _) (p:=⟨g,off+i*2+1,none⟩) (fun _=>by simp [Res.own,HAV.out,Value.ownBlock]) _)
 have T4:=T3.drew.perm (perm_of_cnt (y:=y0o (.node b av es2 bv ks)) fun a=>zPv8)
 exact bodyPost_ret (v:=.tuple #[x.val,.bool true]) (by simp [results,Tryz.results147,go_sem]) rfl ⟨x,HX.out,rfl,T4⟩
theorem y0z (w:World) (b:Nat) (av bv:Value) (es:List En) (k:Key) (z:ByteArray) (hs:Sep w (y0o (.node b av es bv []))) (hr:Rise es) (hn:es.length≤1000000) (hh:has k es=false) :
 Calls Tryz.prog 147 #[ptrV b,.string (kb k),(.string z)] w fun e w'=>e=.returned (.tuple #[(.string ⟨#[]⟩),.bool false])∧∃ av',Trk w (feet (y0o (.node b av es bv []))) w' (y0o (.node b av' (insAt (pos k es) ⟨k,(.string z)⟩ es) bv [])):=by
 have T0:=Trk.start hs
 generalize hF:feet (y0o (.node b av es bv []))=F at *
 rw [y0t] at T0
 have kb0:Blk w b 182 [av,bv]:=T0.blk zInm
 have oa:Own w 184 2 av es.length (enC es):=T0.own zInm
 have ok:Own w 172 1 bv ([]:List P).length (ptrs []):=T0.own zInm
 obtain ⟨pk,ck,hbv,_,_⟩:=y0f ok
 have hpl:=pos_le k es
 have HFD:=Lib.hid (y0k w b _ av bv es k (fun _=>True) kb0 (oa.sl (B:=fun _=>True) (fun _ _=>trivial)) hr zTbe)
 rw [hh] at HFD
 have HBV:=Lib.hid hbv
 generalize pos k es=i at *
 have HT0:=Lib.hid T0
 have hbl:=kb0.lt
 unfold ptrV at HFD ⊢
 clear T0 kb0 oa ok hh hs hF hr hbv
 go_enter Tryz.func147,Tryz.ntmps147
 go_wp2_with fail
 refine HFD.out.mono ?_
 clear HFD
 rintro e w2 ⟨rfl,hb2⟩
 have T2:=HT0.out.below hb2
 have kb2:Blk w2 b 182 [av,bv]:=T2.blk zInm
 have HLF:=Lib.hid (y0l w2 b _ av pk 0 ck (HBV.out▸kb2))
 have hp2:=zZqg
 have HI:=Lib.hid (y0u w2 b i av bv es ⟨k,(.string z)⟩ (T2.sepOf hp2) rfl hpl zTbe)
 have HT2:=Lib.hid T2
 have HP2:=Lib.hid hp2
 unfold ptrV at HLF HI
 simp only at HI
 clear T2 kb2 hp2 hb2
 go_wp2_with fail
 refine HLF.out.mono ?_
 rintro e wq ⟨rfl,hq⟩
 subst hq
 go_wp2_with fail
 refine HI.out.mono ?_
 rintro e w3 ⟨rfl,av2,hT3⟩
 go_wp2
 have T3:=(HT2.out.use HP2.out hT3).perm (perm_of_cnt (y:=y0o (.node b av2 (insAt i ⟨k,(.string z)⟩ es) bv [])) fun a=>zPv8)
 exact bodyPost_ret (v:=.tuple #[(.string ⟨#[]⟩),.bool false]) (by simp [results,Tryz.results147,go_sem]) rfl ⟨rfl,av2,T3⟩
end TyS
theorem z124 {P:Prop} (h:P:=by
 have T0:=Trk.start hs
 generalize hF:feet (y0o (.node b av es bv (kl++kc::kr)))=F at *
 have hp0:(y0o (.node b av es bv (kl++kc::kr))).Perm (y0q b av bv::y0r av es::y0s bv (kl++kc::kr)::(y0o kc++(y0p kl++y0p kr))):=by
  exact perm_of_cnt fun a=>z1Ck
 have T0:=T0.perm hp0
 have kb0:=zDoW
 have oa:Own w (value_of% n1x) 2 av es.length (enC es):=T0.own zInm
 have ok:=zUFh
 have hle:kl.length≤es.length:=by rw [hl];exact pos_le k es
 have HFD:=Lib.hid (y0k w b _ av bv es k (fun _=>True) kb0 (oa.sl (B:=fun _=>True) (fun _ _=>trivial)) hr zTbe)
 rw [hh,←hl] at HFD
 clear hl
 have HPT:=Lib.hid (fun (w2:World) (h:Own w2 (value_of% n2e) 1 bv (kl++kc::kr).length (ptrs (kl++kc::kr)))=>sl_ptr (k:=kl.length) (h.sl (B:=fun _=>True) (fun _ _=>trivial)) zPXO)
 have hcl:(kl++kc::kr)[kl.length]'(zPXO)=kc:=zPXO
 rw [hcl] at HPT
 obtain ⟨gk,offk,capk,hbv,hgk,p0⟩:=HPT.out w ok
 obtain ⟨nk,hnk⟩:=zqdF
 rw [hnk] at hbv hkn
 have hlnk:kl.length < nk:=zunR
 have hnk0:¬ nk=0:=zTbe
 have HNK:=Lib.hid hnk
 have HBV:=Lib.hid hbv
 have HT0:=Lib.hid T0
 have hbl:=kb0.lt
 clear T0 kb0 oa ok hh hs hF hr hbv hcl p0 hp0 hnk
 unfold ptrV at HFD hc ⊢
 go_enter q2w,q2x
 go_wp2_with fail
 refine HFD.out.mono ?_
 clear HFD
 rintro e w2 ⟨rfl,hb2⟩
 have T2:=HT0.out.below hb2
 have kb2:=z872
 have ok2:=zWUf
 have hlf:=y0l w2 b _ av (some ⟨gk,offk,none⟩) nk capk (HBV.out▸kb2)
 rw [decide_eq_false hnk0] at hlf
 have HLF:=Lib.hid hlf
 unfold ptrV at HLF
 obtain ⟨g',off',cap',hv',hg2,p0⟩:=HPT.out w2 ok2
 rw [HBV.out] at hv'
 have hv2:Value.slice (some ⟨gk,offk,none⟩) nk capk=Value.slice (some ⟨g',off',none⟩) nk cap':=by rw [hv',HNK.out]
 cases hv2
 obtain ⟨y0,y1⟩:=pg_cells kb2
 rw [HBV.out] at y1
 have hp2:(y0q b av bv::y0r av es::y0s bv (kl++kc::kr)::(y0o kc++(y0p kl++y0p kr))).Perm (y0o kc++(y0q b av bv::y0r av es::y0s bv (kl++kc::kr)::(y0p kl++y0p kr))):=perm_of_cnt fun a=>z1Ck
 have HC:=Lib.hid (hc w2 (T2.sepOf hp2))
 have HT2:=Lib.hid T2
 have HP2:=Lib.hid hp2
 unfold ptrV at p0
 clear T2 kb2 ok2 hlf hp2 hb2 hv' hc
 go_wp2_with fail
 refine HLF.out.mono ?_
 rintro e wq ⟨rfl,hq⟩
 subst hq
 go_wp2_with fail
 refine HC.out.mono ?_
 rintro e w3 ⟨rfl,p',hpb,hpt,hT3⟩
 have T3:=HT2.out.use HP2.out hT3
 obtain ⟨cb,cav,ces,cbv,cks,rfl⟩:=P.eta p'
 obtain rfl:cb=kc.blk:=hpb
 have hptr:=zrjT
 have hlen:=z5vv
 have hp3:(y0o (.node kc.blk cav ces cbv cks)++(y0q b av bv::y0r av es::y0s bv (kl++kc::kr)::(y0p kl++y0p kr))).Perm (y0o (.node b av es bv (kl++.node kc.blk cav ces cbv cks::kr))):=by
  exact perm_of_cnt fun a=>by simp only [cnt_append,cnt_cons,cnt_nil,y0o,y0p,y0q,y0r,y0s,P.resL_append,P.resL_cons,P.res_node,hptr,hlen];omega
 have T4:=T3.perm hp3
 have hp4:(y0o (.node b av es bv (kl++.node kc.blk cav ces cbv cks::kr))).Perm (y0q b av bv::y0s bv (kl++.node kc.blk cav ces cbv cks::kr)::y0q kc.blk cav cbv::y0r cav ces::(y0r av es::y0s cbv cks::(y0p cks++(y0p kl++y0p kr)))):=by
  exact perm_of_cnt fun a=>z1Ck
 have T5:=T4.perm hp4
 have kb3:Blk w3 b (value_of% n2t) [av,bv]:=T5.blk zInm
 have kc3:Blk w3 kc.blk (value_of% n2t) [cav,cbv]:=T5.blk zInm
 have oc3:Own w3 (value_of% n1x) 2 cav ces.length (enC ces):=T5.own zInm
 have ok3:Own w3 (value_of% n2e) 1 bv (kl++.node kc.blk cav ces cbv cks::kr).length (ptrs (kl++.node kc.blk cav ces cbv cks::kr)):=T5.own zInm
 rw [hptr,hlen] at ok3
 obtain ⟨g',off',cap',hv',hg3,q0⟩:=HPT.out w3 ok3
 rw [HBV.out,HNK.out] at hv'
 cases hv'
 obtain ⟨pc,cc,hcav,hcc1,hcc2⟩:=y06 oc3
 obtain ⟨x0,x1⟩:=pg_cells kb3
 obtain ⟨z0,z1⟩:=pg_cells kc3
 rw [HBV.out] at x1
 rw [hcav] at z0
 unfold ptrV at q0
 rw [P.t_node] at hpt
 subst hpt
 have hsh:cks=[]∨cks.length=ces.length+1:=by
  exact z4xf
 have hn1:ces.length≤100000:=hn1
 have HT4:=Lib.hid T4
 have HH:=Lib.hid hlen
 clear T3 T4 T5 hp3 hp4 hT3 kb3 kc3 oc3 ok3 hptr p0 y0 y1 hcav hlen HC HLF HT2 HP2 HT0
 simp only [T.es]
 by_cases h5:5 < ces.length
 ·have h5i:(5:Int) < (ces.length:Int):=by omega
  have HSP:=Lib.hid (y0w w3 b av bv es kl kr kc.blk cav cbv ces cks HT4.out.sep hle zTbe zuh6 hn zTbe (by rw [HH.out,HNK.out];omega) zD2f)
  unfold ptrV at HSP
  go_wp2_with fail
  refine HSP.out.mono ?_
  rintro e w4 ⟨rfl,p',hpb2,hpt2,hT4⟩
  have T6:=HT4.out.use (cal:=y0o (.node b av es bv (kl++.node kc.blk cav ces cbv cks::kr))) (rest:=[]) (by rw [List.append_nil]) hT4
  rw [List.append_nil] at T6
  have HT6:=Lib.hid T6
  have HPT2:=Lib.hid hpt2
  have HPB2:=Lib.hid hpb2
  clear hT4 T6 hpt2 hpb2
  go_wp2
  refine bodyPost_ret (v:=.tuple #[x,.bool y]) ?_ rfl ⟨rfl,p',HPB2.out,?_,HT6.out⟩
  ·simp [results,q2y,go_sem]
  ·rw [HPT2.out,P.t_node]
   unfold splitT
   congr 1
   simp only [List.map_append,List.map_cons]
   rw [List.take_left' zPXO,List.take_left' zPXO,drop_len1 zPXO,drop_len1 zPXO]
 ·have h5i:¬ (5:Int) < (ces.length:Int):=by omega
  go_wp2
  refine bodyPost_ret (v:=.tuple #[x,.bool y]) ?_ rfl ⟨rfl,_,rfl,?_,HT4.out⟩
  ·simp [results,q2y,go_sem]
  ·rw [P.t_node,List.map_append,List.map_cons,P.t_node]
):P:=h
namespace TyS
theorem y10 (w:World) (b:Nat) (av bv:Value) (es:List En) (kl:List P) (kc:P) (kr:List P) (k:Key) (z:ByteArray) (hs:Sep w (y0o (.node b av es bv (kl++kc::kr)))) (hr:Rise es) (hn:es.length≤1000000) (hkn:(kl++kc::kr).length≤1000000) (hh:has k es=false)
 (hl:kl.length=pos k es) (x:Value) (y:Bool) (t':T)
 (hc:∀ w2,Sep w2 (y0o kc)→Calls Tryz.prog 147 #[ptrV kc.blk,.string (kb k),(.string z)] w2 fun e w'=>e=.returned (.tuple #[x,.bool y])∧∃ p',p'.blk=kc.blk∧p'.t=t'∧Trk w2 (feet (y0o kc)) w' (y0o p'))
 (hsh:t'.ts=[]∨t'.ts.length=t'.es.length+1) (hn1:t'.es.length≤100000) :
 Calls Tryz.prog 147 #[ptrV b,.string (kb k),(.string z)] w fun e w'=>e=.returned (.tuple #[x,.bool y])∧∃ p',p'.blk=b∧p'.t=(if 5 < t'.es.length then splitT kl.length es ((kl++kc::kr).map P.t) t' else .node es (kl.map P.t++t'::kr.map P.t)) ∧
  Trk w (feet (y0o (.node b av es bv (kl++kc::kr)))) w' (y0o p'):=z124
theorem y11 (k:Key) (z:ByteArray):∀ (d m:Nat) (w:World) (p:P),m≤2→Fat m d p.t→Rise p.t.flat→p.t.flat.length≤99999→Sep w (y0o p) →
 Calls Tryz.prog 147 #[ptrV p.blk,.string (kb k),(.string z)] w fun e w'=>e=.returned (.tuple #[(Afx.look k p.t.flat).getD (.string ⟨#[]⟩),.bool (Afx.look k p.t.flat).isSome])∧∃ p',p'.blk=p.blk∧p'.t=putT k (.string z) d p.t∧Trk w (feet (y0o p)) w' (y0o p'):=by
 intro d
 induction d with
 | zero =>
  intro m w p hm hf hr hn hs
  obtain ⟨b,av,es,bv,ks,rfl⟩:=P.eta p
  rw [P.t_node] at hf hr hn ⊢
  have hk0:ks=[]:=zJtu
  subst hk0
  simp only [List.map_nil] at *
  rw [flat_leaf] at *
  have hn2:es.length≤99999:=hn
  obtain ⟨a,b',hlf⟩:=leaf_page (k:=k) (es:=es) zkTB
  have hlk:=hlf.look
  cases hh:has k es
  ·refine (y0z w b av bv es k z hs hr zTbe hh).mono ?_
   rintro e w' ⟨rfl,av',hT⟩
   rw [hlk.2 hh]
   refine ⟨rfl,.node b av' (insAt (pos k es) ⟨k,(.string z)⟩ es) bv [],rfl,?_,hT⟩
   rw [P.t_node,putT,if_neg (by rw [hh];simp)];rfl
  ·refine (y0y w b av bv es [] k z hs hr zTbe hh).mono ?_
   rintro e w' ⟨x,hx,rfl,hT⟩
   obtain ⟨x2,hx2,_,hl2⟩:=hlk.1 hh
   rw [hx] at hx2
   cases hx2
   rw [hl2]
   refine ⟨rfl,.node b av (es.set (pos k es) ⟨k,(.string z)⟩) bv [],rfl,?_,hT⟩
   rw [P.t_node,putT,if_pos hh];rfl
 | succ d ih =>
  intro m w p hm hf hr hn hs
  obtain ⟨b,av,es,bv,ks,rfl⟩:=P.eta p
  rw [P.t_node] at hf hr hn ⊢
  obtain ⟨hf1,hf2,hf3⟩:=hf
  have hel:es.length≤99999:=by
   have h1:=(es_sublist es (ks.map P.t)).length_le
   rw [←flat_node] at h1
   omega
  have hkl:=z673
  obtain ⟨a,bb,l,c,r,hsp,hg⟩:=split_page (k:=k) hr hf2
  have hlk:=hsp.look
  have hres:=hr.es
  cases hh:has k es
  ·have hpl:pos k es < ks.length:=by have:=pos_le k es;omega
   have hcm:(ks[pos k es]).t=c:=by
    exact zxXA
   have hks:=ziwa
   have hkll:=zwlH
   generalize hkc:ks[pos k es]=kc at *
   generalize ks.take (pos k es)=kl at *
   generalize ks.drop (pos k es+1)=kr at *
   subst hks
   have hfl:=hsp.fl
   have hr2:Rise c.flat:=zkeD
   have hn2:c.flat.length≤99999:=zsK8
   have hfc:Fat 2 d c:=hf3 c zAzv
   obtain ⟨hpf,hpfl⟩:=put_fat k (.string z) d 2 c hr2 hfc (Nat.le_refl _)
   have hn3:(putT k (.string z) d c).es.length≤100000:=by
    have h1:(putT k (.string z) d c).es.length≤(putT k (.string z) d c).flat.length:=by
     cases hq:putT k (.string z) d c with
     | node es' ts'=>rw [flat_node];exact (es_sublist es' ts').length_le
    rw [hpfl] at h1
    have:=ins_length k (.string z) c.flat
    omega
   have hsh:(putT k (.string z) d c).ts=[]∨(putT k (.string z) d c).ts.length=(putT k (.string z) d c).es.length+1:=zGlH
   refine (y10 w b av bv es kl kc kr k z hs hres zTbe zTbe hh hkll ((Afx.look k c.flat).getD (.string ⟨#[]⟩)) (Afx.look k c.flat).isSome (putT k (.string z) d c) (fun w2 hs2=>?_) hsh hn3).mono ?_
   ·have h1:=ih 2 w2 kc (Nat.le_refl _) (hcm▸hfc) (hcm▸hr2) (hcm▸hn2) hs2
    rw [hcm] at h1
    exact h1
   ·rintro e w' ⟨rfl,p',hb',ht',hT⟩
    rw [hlk.2 hh]
    refine ⟨rfl,p',hb',?_,hT⟩
    have hput:putT k (.string z) (d+1) (.node es ((kl++kc::kr).map P.t))=if 5 < (putT k (.string z) d c).es.length then splitT (pos k es) es ((kl++kc::kr).map P.t) (putT k (.string z) d c) else .node es (((kl++kc::kr).map P.t).set (pos k es) (putT k (.string z) d c)):=by
     rw [putT,if_neg (by rw [hh];simp),hg]
    exact zigJ
  ·refine (y0y w b av bv es ks k z hs hres zTbe hh).mono ?_
   rintro e w' ⟨x,hx,rfl,hT⟩
   obtain ⟨x2,hx2,_,hl2⟩:=hlk.1 hh
   rw [hx] at hx2
   cases hx2
   rw [hl2]
   refine ⟨rfl,.node b av (es.set (pos k es) ⟨k,(.string z)⟩) bv ks,rfl,?_,hT⟩
   rw [P.t_node,putT,if_pos hh]
end TyS
theorem zy8L {P:Prop} (h:P:=by
 obtain ⟨w1,hw1⟩:∃ w1,w.alloc (.cells #[.slice none 0 0,.slice none 0 0] (value_of% n2t))=w1:=⟨_,rfl⟩
 obtain ⟨w2,hw2⟩:∃ w2,w1.alloc (.cells #[.pointer (some ⟨w.heap.size,0,none⟩),.int .i64 0] (value_of% n2z))=w2:=⟨_,rfl⟩
 have b1:=zppX
 have b2:=zXxX
 have T0:Trk w [] w []:=⟨⟨fun _ h=>absurd h zPXO,List.nodup_nil⟩,Only.refl _ _,fun k hk=>by simp [feet] at hk⟩
 have T1:=T0.new (r:=y0s (.slice none 0 0) []) (Own.nil _ _ _) znD9 znD9 (Below.refl _ _)
 have T2:=T1.new (r:=y0r (.slice none 0 0) []) (Own.nil _ _ _) znD9 znD9 (Below.refl _ _)
 have k1:Blk w1 w.heap.size (value_of% n2t) [.slice none 0 0,.slice none 0 0]:=hw1▸Blk.new w _ _
 have T3:=T2.new (r:=y0q w.heap.size (.slice none 0 0) (.slice none 0 0)) k1 zg6m zg6m b1
 have k2:Blk w2 w1.heap.size (value_of% n2z) [.pointer (some ⟨w.heap.size,0,none⟩),.int .i64 0]:=hw2▸Blk.new w1 _ _
 have T4:=T3.new (r:=y12 w1.heap.size (.node w.heap.size (.slice none 0 0) [] (.slice none 0 0) []) 0) k2 zg6m zg6m b2
 have HT:=Lib.hid T4
 clear T0 T1 T2 T3 T4 b1 b2 k1 k2
 go_enter q30,q31
 go_wp2
 go_ret
 refine ⟨w1.heap.size,.node w.heap.size (.slice none 0 0) [] (.slice none 0 0) [],rfl,rfl,HT.out.perm (perm_of_cnt fun a=>by simp only [cnt_append,cnt_cons,cnt_nil,y13,y12,P.blk_node,y0o,y0p,y0q,y0r,y0s,P.resL_append,P.resL_cons,P.resL_nil,P.res_node])⟩
):P:=h
namespace TyS
abbrev y12 (tb:Nat) (p:P) (n:Nat):Res:=Res.blk tb 174 [ptrV p.blk,.int .i64 (n:Int)]
abbrev y13 (tb:Nat) (p:P) (n:Nat):List Res:=y12 tb p n::y0o p
theorem y14 (w:World):Calls Tryz.prog 104 #[] w fun e w'=>∃ tb p,e=.returned (ptrV tb)∧p.t=.node [] []∧Trk w [] w' (y13 tb p 0):=zy8L
theorem y15 (w:World) (tb:Nat) (p:P) (d n:Nat) (k:Key) (z:ByteArray) (hs:Sep w (y13 tb p n)) (hg:Afx.Good d p.t) (hn:n=p.t.flat.length) (hl:n≤99999) :
 Calls Tryz.prog 112 #[ptrV tb,.string (kb k),(.string z)] w fun e w'=>e=.returned (.tuple #[(Afx.look k p.t.flat).getD (.string ⟨#[]⟩),.bool (Afx.look k p.t.flat).isSome])∧∃ p',p'.t=(putTop k (.string z) d p.t).2 ∧
  Trk w (feet (y13 tb p n)) w' (y13 tb p' (if (Afx.look k p.t.flat).isSome then n else n+1)):=by
 have T0:=Trk.start hs
 generalize hF:feet (y13 tb p n)=F at *
 have kt0:Blk w tb 174 [ptrV p.blk,.int .i64 (n:Int)]:=T0.blk zInm
 have HPUT:=Lib.hid (y11 k z d (min 1 d) w p zTbe hg.fat hg.rise zTbe (hs.right (a:=[y12 tb p n])))
 obtain ⟨c0,c1⟩:=pg_cells kt0
 obtain ⟨hpf,hpfl⟩:=put_fat k (.string z) d (min 1 d) p.t hg.rise hg.fat zTbe
 have HG:=Lib.hid hg
 have HT0:=Lib.hid T0
 have hsh:(putT k (.string z) d p.t).ts=[]∨(putT k (.string z) d p.t).ts.length=(putT k (.string z) d p.t).es.length+1:=zGlH
 have hel:(putT k (.string z) d p.t).es.length≤100000:=by
  have h1:(putT k (.string z) d p.t).es.length≤(putT k (.string z) d p.t).flat.length:=by
   cases hq:putT k (.string z) d p.t with
   | node es' ts'=>rw [flat_node];exact (es_sublist es' ts').length_le
  rw [hpfl] at h1
  have:=ins_length k (.string z) p.t.flat
  omega
 have HTOP:Hid ((putTop k (.string z) d p.t).2=if 5 < (putT k (.string z) d p.t).es.length then splitT 0 [] [putT k (.string z) d p.t] (putT k (.string z) d p.t) else putT k (.string z) d p.t):=by
  show _=_
  unfold putTop
  split<;>rfl
 generalize (putTop k (.string z) d p.t).2=tt at *
 generalize hpt:putT k (.string z) d p.t=t' at *
 generalize hx:(Afx.look k p.t.flat).getD (.string ⟨#[]⟩)=x at *
 generalize hy:(Afx.look k p.t.flat).isSome=y at *
 have hnf:(n:Int)≤99999:=zTbe
 unfold ptrV at c0 HPUT ⊢
 clear T0 kt0 hs hF hg hn hpf hpfl hpt hx hy
 go_enter Tryz.func112,Tryz.ntmps112
 go_wp2_with fail
 refine HPUT.out.mono ?_
 clear HPUT
 rintro e w2 ⟨rfl,p',hpb,hpt,hT⟩
 have hp1:=zYhk
 have T2:=HT0.out.use hp1 hT
 obtain ⟨cb,cav,ces,cbv,cks,rfl⟩:=P.eta p'
 obtain rfl:cb=p.blk:=hpb
 rw [P.t_node] at hpt
 subst hpt
 have hsh:cks=[]∨cks.length=ces.length+1:=by
  exact z4xf
 have hel:ces.length≤100000:=hel
 have hp2:=zyEN
 have T3:=T2.perm hp2
 have kt2:Blk w2 tb 174 [ptrV p.blk,.int .i64 (n:Int)]:=T3.blk zInm
 have kc2:Blk w2 p.blk 182 [cav,cbv]:=T3.blk zInm
 have oc2:Own w2 184 2 cav ces.length (enC ces):=T3.own zInm
 obtain ⟨pc,cc,hcav,hcc1,hcc2⟩:=y06 oc2
 obtain ⟨x0,x1⟩:=pg_cells kt2
 obtain ⟨y0,y1⟩:=pg_cells kc2
 rw [hcav] at y0
 unfold ptrV at x0
 have hf0:=kt2.frozen 0
 have hf1:=kt2.frozen 1
 have HT3:=Lib.hid T3
 have hwn:IntKind.i64.wrap ((n:Int)+1)=(n:Int)+1:=zrPp
 have htl:=kt2.lt
 have hpl:=kc2.lt
 clear T2 T3 kt2 kc2 oc2 hp1 hp2 hT c0 c1 hcav HT0
 by_cases h5:5 < ces.length
 ·have h5i:(5:Int) < (ces.length:Int):=by omega
  have hslc:1≤ces.length:=zTbe
  obtain ⟨w3,hw3⟩:∃ w3,w2.alloc (.cells #[.pointer (some ⟨p.blk,0,none⟩)] 172)=w3:=⟨_,rfl⟩
  obtain ⟨w4,hw4⟩:∃ w4,w3.alloc (.cells #[.slice none 0 0,.slice (some ⟨w2.heap.size,0,none⟩) 1 1] 182)=w4:=⟨_,rfl⟩
  obtain ⟨w5,hw5⟩:=zKcV
  have b3:=zUeY
  have b4:=zvR2
  have o3:Own w3 172 1 (.slice (some ⟨w2.heap.size,0,none⟩) 1 1) 1 (ptrs [.node p.blk cav ces cbv cks]):=by
   rw [←hw3]
   exact Own.made w2 172 1 (ptrs [.node p.blk cav ces cbv cks]) [] 1 1 rfl (Ones.cons rfl Ones.nil) (Nat.le_refl _) zdUY (by simp [ptrs])
  have T4:=HT3.out.new (r:=y0s (.slice (some ⟨w2.heap.size,0,none⟩) 1 1) [.node p.blk cav ces cbv cks]) o3 znD9 znD9 b3
  have k4:Blk w4 w3.heap.size 182 [.slice none 0 0,.slice (some ⟨w2.heap.size,0,none⟩) 1 1]:=hw4▸Blk.new w3 _ _
  have T5:=T4.new (r:=y0q w3.heap.size (.slice none 0 0) (.slice (some ⟨w2.heap.size,0,none⟩) 1 1)) k4 zg6m zg6m b4
  have T6:=T5.new (r:=y0r (.slice none 0 0) []) (Own.nil _ _ _) znD9 znD9 (Below.refl _ _)
  have T7:=T6.perm (perm_of_cnt (y:=y12 tb p n::y0o (.node w3.heap.size (.slice none 0 0) [] (.slice (some ⟨w2.heap.size,0,none⟩) 1 1) ([]++.node p.blk cav ces cbv cks::[]))) fun a=>zsuc)
  have T8:=T7.blkSet 0 (.pointer (some ⟨w3.heap.size,0,none⟩))
  rw [hw5] at T8
  have kt5:Blk w5 tb 174 [.pointer (some ⟨w3.heap.size,0,none⟩),.int .i64 (n:Int)]:=T8.blk (List.mem_cons_self)
  have kt4:Blk w4 tb 174 [ptrV p.blk,.int .i64 (n:Int)]:=T7.blk (List.mem_cons_self)
  have hsp:Calls Tryz.prog 148 #[.pointer (some ⟨w3.heap.size,0,none⟩),.int .i64 0] w5 _:=y0w w5 w3.heap.size (.slice none 0 0) (.slice (some ⟨w2.heap.size,0,none⟩) 1 1) [] [] [] p.blk cav cbv ces cks
   (T8.sep.right (a:=[_])) zPXO zTbe zuh6 zPXO zTbe zPXO zD2f
  have HSP:=Lib.hid hsp
  have HT8:=Lib.hid T8
  have HTT:Hid (tt=splitT 0 [] [T.node ces (cks.map P.t)] (T.node ces (cks.map P.t))):=by
   show _=_
   rw [HTOP.out,if_pos (show 5 < (T.node ces (cks.map P.t)).es.length from h5)]
  obtain ⟨u0,u1⟩:=pg_cells kt5
  obtain ⟨v0,v1⟩:=pg_cells kt4
  have hg0:=kt4.frozen 0
  clear T4 T5 T6 T7 T8 k4 o3 b3 b4 hsp kt5 kt4 HTOP HT3
  go_wp2_with fail
  clear hw3 hw4 hw5 v0 v1 u0 u1 x0 x1 y0 y1 hg0 hf0 hf1
  refine HSP.out.mono ?_
  clear HSP
  rintro e w6 ⟨rfl,p',hpb,hpt,hT⟩
  have T9:=HT8.out.use (rest:=[Res.blk tb 174 [.pointer (some ⟨w3.heap.size,0,none⟩),.int .i64 (n:Int)]]) (perm_of_cnt fun a=>zxdH) hT
  have kt6:Blk w6 tb 174 [.pointer (some ⟨w3.heap.size,0,none⟩),.int .i64 (n:Int)]:=T9.blk (List.mem_append_right _ List.mem_cons_self)
  obtain ⟨x0,x1⟩:=pg_cells kt6
  have hf1:=kt6.frozen 1
  have TA:=T9.perm (perm_of_cnt (y:=Res.blk tb 174 [.pointer (some ⟨w3.heap.size,0,none⟩),.int .i64 (n:Int)]::y0o p') fun a=>by simp only [cnt_append,cnt_cons,cnt_nil];omega)
  have HTA:=Lib.hid TA
  have HPB:=Lib.hid hpb
  have HPT:=Lib.hid hpt
  clear hT T9 TA kt6 HT8 hpb hpt
  cases y
  ·go_wp2
   have TB:=HTA.out.blkSet 1 (.int .i64 ((n:Int)+1))
   refine bodyPost_ret (v:=.tuple #[x,.bool false]) ?_ rfl ⟨rfl,p',?_,?_⟩
   ·simp [results,Tryz.results112,go_sem]
   ·rw [HTT.out,HPT.out,P.t_node];rfl
   ·have e:y12 tb p' (n+1)=Res.blk tb 174 ([.pointer (some ⟨w3.heap.size,0,none⟩),.int .i64 (n:Int)].set 1 (.int .i64 ((n:Int)+1))):=by
     show Res.blk tb 174 [ptrV p'.blk,.int .i64 ((n+1:Nat):Int)]=Res.blk tb 174 [.pointer (some ⟨w3.heap.size,0,none⟩),.int .i64 ((n:Int)+1)]
     rw [show ((n+1:Nat):Int)=(n:Int)+1 from zTbe,HPB.out];rfl
    show Trk w F _ (y12 tb p' (n+1)::y0o p')
    rw [e]
    exact TB
  ·go_wp2
   refine bodyPost_ret (v:=.tuple #[x,.bool true]) ?_ rfl ⟨rfl,p',?_,?_⟩
   ·simp [results,Tryz.results112,go_sem]
   ·rw [HTT.out,HPT.out,P.t_node];rfl
   ·have e:y12 tb p' n=Res.blk tb 174 [.pointer (some ⟨w3.heap.size,0,none⟩),.int .i64 (n:Int)]:=by
     show Res.blk tb 174 [ptrV p'.blk,.int .i64 (n:Int)]=_
     rw [HPB.out];rfl
    show Trk w F _ (y12 tb p' n::y0o p')
    rw [e]
    exact HTA.out
 ·have h5i:¬ (5:Int) < (ces.length:Int):=by omega
  have HTT:Hid (tt=.node ces (cks.map P.t)):=by
   show _=_
   rw [HTOP.out,if_neg (show ¬ 5 < (T.node ces (cks.map P.t)).es.length from h5)]
  clear HTOP
  cases y
  ·go_wp2
   have T4:=HT3.out.blkSet 1 (.int .i64 ((n:Int)+1))
   refine bodyPost_ret (v:=.tuple #[x,.bool false]) ?_ rfl ⟨rfl,.node p.blk cav ces cbv cks,?_,?_⟩
   ·simp [results,Tryz.results112,go_sem]
   ·rw [HTT.out,P.t_node]
   ·have e:y12 tb (.node p.blk cav ces cbv cks) (n+1)=Res.blk tb 174 ([ptrV p.blk,.int .i64 (n:Int)].set 1 (.int .i64 ((n:Int)+1))):=by
     show Res.blk tb 174 [ptrV p.blk,.int .i64 ((n+1:Nat):Int)]=Res.blk tb 174 [ptrV p.blk,.int .i64 ((n:Int)+1)]
     rw [show ((n+1:Nat):Int)=(n:Int)+1 from zTbe]
    exact zsiD
  ·go_wp2
   refine bodyPost_ret (v:=.tuple #[x,.bool true]) ?_ rfl ⟨rfl,.node p.blk cav ces cbv cks,?_,?_⟩
   ·simp [results,Tryz.results112,go_sem]
   ·rw [HTT.out,P.t_node]
   ·exact HT3.out.perm (perm_of_cnt fun a=>zNod)
end TyS
end Go.Proofs.YteggkjdlajgenaaGreatDoor
namespace Go.Afx
open Go Go.RowKit
theorem agree_blk {w w':World} {b:Nat} {t:TypeId} {cs:List Value} (h:Blk w b t cs) (h':Blk w' b t cs):Agree (fun q=>q=b) w w':=fun q o hq=>by
 subst hq
 rw [h.cell,h'.cell]
theorem agree_trans2 {w w' w'':World} {B:Nat→Prop} (h:Agree B w w') (h2:Agree B w' w''):Agree B w w'':=h.trans h2
theorem enC_set2:∀ (l:List En) (i:Nat) (x:En) (_:i < l.length),enC (l.set i x)=((enC l).set (i*2) (.string (kb x.key))).set (i*2+1) x.val
 | [],_,_,h=>zhtf
 | y::l,0,x,_=>rfl
 | y::l,i+1,x,h=>by
  have ih:=enC_set2 l i x zynw
  have e:(i+1)*2=(i*2)+1+1:=zTbe
  have e2:enC (y::l)=.string (kb y.key)::y.val::enC l:=rfl
  have e3:enC ((y::l).set (i+1) x)=.string (kb y.key)::y.val::enC (l.set i x):=rfl
  rw [e,e2,e3,ih,List.set_cons_succ,List.set_cons_succ,List.set_cons_succ,List.set_cons_succ]
theorem Trk.setEn {w0 w:World} {F:List Nat} {et:TypeId} {g off n cap:Nat} {es:List En} {rest:List Res} (h:Trk w0 F w (Res.own et 2 (.slice (some ⟨g,off,none⟩) n cap) es.length (enC es)::rest)) {i:Nat} (hn:n=es.length) (hi:i < es.length) (x:En) (hx:x.val.oneCell'=true) :
 Trk w0 F ((w.setCell ⟨g,off+i*2,none⟩ (.string (kb x.key))).setCell ⟨g,off+i*2+1,none⟩ x.val) (Res.own et 2 (.slice (some ⟨g,off,none⟩) n cap) (es.set i x).length (enC (es.set i x))::rest):=by
 subst hn
 have ho:Own w et 2 (.slice (some ⟨g,off,none⟩) es.length cap) es.length (enC es):=h.own (List.mem_cons_self)
 have h1:=(ho.store (j:=i*2) (.string (kb x.key)) rfl).store (j:=i*2+1) x.val hx
 rw [←enC_set2 es i x hi] at h1
 refine h.one (r':=Res.own et 2 (.slice (some ⟨g,off,none⟩) es.length cap) (es.set i x).length (enC (es.set i x))) ?_ (show (Value.slice (some ⟨g,off,none⟩) es.length cap).ownBlock.toList.Nodup from ownBlock_nodup _) (fun k hk=>.inl hk) (((Only.refl _ w).setCell (fun _=>znD9) _).setCell (fun _=>znD9) _)
 show Own _ _ _ _ _ _
 rw [List.length_set]
 exact h1
theorem Trk.keepBlk {w0 w w':World} {F:List Nat} {e t:TypeId} {sz n b:Nat} {v:Value} {cs cells:List Value} {rest:List Res} (h:Trk w0 F w (Res.own e sz v n cs::Res.blk b t cells::rest)) (ho:Only (fun k=>v.ownBlock=some k) w w'):Blk w' b t cells :=
 (h.blk (List.mem_cons_of_mem _ List.mem_cons_self)).only ho fun hb=>Sep.apart (a:=[Res.own e sz v n cs]) (b:=Res.blk b t cells::rest) h.sep b (by simp [feet,Res.own,hb]) zEaK
end Go.Afx
namespace Go.Proofs.YteggkjdlajgenaaGreatDoor
open Go.RowKit Go.Afx
theorem z8YU {P:Prop} (h:P:=by
 have T0:=Trk.start hs
 generalize hF:feet (y0o (.node b av (ea++x::eb) bv (l++.node ab aav aes abv aks::.node cb cav ces cbv cks::r)))=F at *
 have T0:=zHiX
 have kb0:=zDoW
 have ka0:Blk w ab (value_of% n2t) [aav,abv]:=T0.blk zInm
 have kc0:=zJFC
 have oe:=zqgq
 have ok:=zjHr
 have oaa:=zTdj
 have oca:=zPoB
 have oak:=zt6r
 have ock:=zX0n
 obtain ⟨gk,offk,capk,hbv,hgk,q0⟩:=sl_ptr (k:=l.length) (ok.sl (B:=fun _=>True) (fun _ _=>trivial)) zPXO
 obtain ⟨gk',offk',capk',hbv',hgk',q1⟩:=sl_ptr (k:=l.length+1) (ok.sl (B:=fun _=>True) (fun _ _=>trivial)) zPXO
 rw [hbv] at hbv'
 cases hbv'
 have e0:=zNYv
 have e1:(l++.node ab aav aes abv aks::.node cb cav ces cbv cks::r)[l.length+1]'(zPXO)=.node cb cav ces cbv cks:=by
  exact zVg4
 rw [e0] at q0
 rw [e1] at q1
 replace q0:=zGTR
 replace q1:=zEsJ
 obtain ⟨nk,hnk⟩:=zGvV
 obtain ⟨ne,hne⟩:∃ ne,(ea++x::eb).length=ne:=⟨_,rfl⟩
 have hnk2:nk=l.length+(r.length+2):=zunR
 have hne2:=z1eC
 rw [hnk] at hbv hkn
 rw [hne] at hn
 have hlk1:l.length < nk:=zTbe
 have hlk2:l.length+1 < nk:=zTbe
 have hlk2i:(l.length:Int)+1 < (nk:Int):=zTbe
 have hlk0:(0:Int)≤(l.length:Int)+1:=zTbe
 have htn:((l.length:Int)+1).toNat=l.length+1:=zTbe
 have hle1:l.length < ne:=zTbe
 have hex:=zuUP
 have hxo:x.val.oneCell'=true:=by
  exact zw3Q
 have HEX:Hid (∀ w2,Own w2 (value_of% n1x) 2 av (ea++x::eb).length (enC (ea++x::eb))→∃ g off cap,av=.slice (some ⟨g,off,none⟩) ne cap∧g < w2.heap.size∧w2.cell? ⟨g,off+l.length*2,none⟩=some (.string (kb x.key))∧w2.cell? ⟨g,off+l.length*2+1,none⟩=some x.val):=fun w2 h=>by
  exact zQt0
 obtain ⟨ge,offe,cape,hav,hge,v0,v1⟩:=HEX.out w oe
 have HOE:=Lib.hid oe
 obtain ⟨x0,x1⟩:=pg_cells kb0
 obtain ⟨y0,y1⟩:=pg_cells ka0
 obtain ⟨z0,z1⟩:=pg_cells kc0
 rw [hbv] at x1
 rw [hav] at x0
 have HAV:=Lib.hid hav
 have HBV:=Lib.hid hbv
 have HNK:=Lib.hid hnk
 have HNE:=Lib.hid hne
 have HL:=Lib.hid hl
 have HXO:=Lib.hid hxo
 have HT0:=Lib.hid T0
 have HKB:=Lib.hid kb0
 have HKA:=Lib.hid ka0
 have HKC:=Lib.hid kc0
 obtain ⟨na,hna⟩:∃ na,aes.length=na:=⟨_,rfl⟩
 have hna2:na=ae.length+1:=by rw [←hna,hae];simp
 obtain ⟨pa,ca,haav,_,_⟩:=y06 oaa
 rw [haav,hna] at y0
 have HNA:=Lib.hid hna
 have HNA2:=Lib.hid hna2
 have hna3:1≤na:=zTbe
 have hna4:na≤1000000:=zTbe
 have HAAV:=Lib.hid haav
 have HAE:=Lib.hid hae
 have hp1:(y0q b av bv::y0r av (ea++x::eb)::y0s bv (l++.node ab aav aes abv aks::.node cb cav ces cbv cks::r)::y0q ab aav abv::y0r aav aes::y0s abv aks::y0q cb cav cbv::y0r cav ces::y0s cbv cks::(y0p aks++(y0p cks++(y0p l++y0p r)))).Perm ([y0q cb cav cbv,y0r cav ces]++(y0q b av bv::y0r av (ea++x::eb)::y0s bv (l++.node ab aav aes abv aks::.node cb cav ces cbv cks::r)::y0q ab aav abv::y0r aav aes::y0s abv aks::y0s cbv cks::(y0p aks++(y0p cks++(y0p l++y0p r))))):=perm_of_cnt fun a=>zR75
 have hi1:∀ w2,Sep w2 [y0q cb cav cbv,y0r cav ces]→Calls Tryz.prog (value_of% n32) #[ptrV cb,.int .i64 0,.agg #[.string (kb x.key),x.val]] w2 _:=fun w2 hs=>y0u w2 cb 0 cav cbv ces x hs hxo (Nat.zero_le _) zTbe
 have HI1:=Lib.hid hi1
 have HP1:=Lib.hid hp1
 clear T0 kb0 ka0 kc0 oe ok oaa oca oak ock hp1 hi1 hs hF e0 e1 hav hbv hnk hne hl hxo hna haav hex hae hnk2 hne2 hna2
 unfold ptrV at HI1 ⊢
 go_enter q33,q34
 go_wp2_with fail
 refine wp_region_lit_plan [] [(0,0),(1,0),(2,0),(4,0),(7,0),(8,0),(9,0),(11,0),(12,0),(3,1),(5,0),(6,1),(15,0),(10,1),(13,0),(14,1),(16,0)] (fun _=>False) zyVB zyVB (fun c a d v w h=>zx0I) ?_
 go_wp2_with (first|(refine stp ?_))
 refine wp_region_lit_plan [] [(0,0),(1,0),(2,0),(3,0),(4,0),(5,0),(6,0),(8,0),(7,1),(9,0),(10,1),(11,4)] (fun _=>False) zyVB zyVB (fun c a d v w h=>zx0I) ?_
 go_wp2_with (first|(refine stp ?_))
 refine (HI1.out _ (HT0.out.drew.drew.sepOf HP1.out)).mono ?_
 clear x0 x1 y0 y1 z0 z1 v0 v1 q0 q1
 rintro e w1 ⟨rfl,cav2,hT⟩
 have T1:=HT0.out.drew.drew.use HP1.out hT
 have T1:Trk w F w1 (y0q b av bv::y0r av (ea++x::eb)::y0s bv (l++.node ab aav aes abv aks::.node cb cav ces cbv cks::r)::y0q ab aav abv::y0r aav aes::y0s abv aks::y0q cb cav2 cbv::y0r cav2 (insAt 0 x ces)::y0s cbv cks::(y0p aks++(y0p cks++(y0p l++y0p r)))):=T1.perm (perm_of_cnt fun a=>zR75)
 have kb1:Blk w1 b (value_of% n2t) [av,bv]:=T1.blk zInm
 have ka1:Blk w1 ab (value_of% n2t) [aav,abv]:=T1.blk zInm
 have hp2:(y0q b av bv::y0r av (ea++x::eb)::y0s bv (l++.node ab aav aes abv aks::.node cb cav ces cbv cks::r)::y0q ab aav abv::y0r aav aes::y0s abv aks::y0q cb cav2 cbv::y0r cav2 (insAt 0 x ces)::y0s cbv cks::(y0p aks++(y0p cks++(y0p l++y0p r)))).Perm ([y0q ab aav abv,y0r aav aes]++(y0q b av bv::y0r av (ea++x::eb)::y0s bv (l++.node ab aav aes abv aks::.node cb cav ces cbv cks::r)::y0s abv aks::y0q cb cav2 cbv::y0r cav2 (insAt 0 x ces)::y0s cbv cks::(y0p aks++(y0p cks++(y0p l++y0p r))))):=perm_of_cnt fun a=>zR75
 have hy:aes[ae.length]'(by rw [HNA.out,HNA2.out];omega)=y:=by simp [HAE.out]
 have htd:aes.take ae.length++aes.drop (ae.length+1)=ae:=by rw [HAE.out];simp
 have hi2:∀ w2,Sep w2 [y0q ab aav abv,y0r aav aes]→Calls Tryz.prog (value_of% n35) #[.pointer (some ⟨ab,0,none⟩),.int .i64 ((na:Int) - 1)] w2 fun e w'=>e=.returned (.agg #[.string (kb y.key),y.val])∧∃ av',Trk w2 (feet [y0q ab aav abv,y0r aav aes]) w' [y0q ab av' abv,y0r av' ae]:=fun w2 hs=>by
  have h1:=y0v w2 ab ae.length aav abv aes hs (by rw [HNA.out,HNA2.out];omega) zTbe
  have h2:((ae.length:Nat):Int)=(na:Int) - 1:=by have:=HNA2.out;omega
  rw [h2,hy,htd] at h1
  exact h1
 have hyo:y.val.oneCell'=true:=by
  have h1:ae.length < aes.length:=by rw [HNA.out,HNA2.out];omega
  have h2:=(enC_at aes ae.length h1).2
  rw [hy] at h2
  have oaa:Own w1 (value_of% n1x) 2 aav aes.length (enC aes):=T1.own zInm
  exact oaa.2.1 _ (List.mem_of_getElem? h2)
 have HI2:=Lib.hid hi2
 have HT1:=Lib.hid T1
 have HP2:=Lib.hid hp2
 have HYO:=Lib.hid hyo
 obtain ⟨x0,x1⟩:=pg_cells kb1
 obtain ⟨y0,y1⟩:=pg_cells ka1
 rw [HAV.out] at x0
 rw [HBV.out] at x1
 rw [HAAV.out,HNA.out] at y0
 have HKB1:=Lib.hid kb1
 clear hT T1 kb1 ka1 hp2 hy htd hi2 HI1 HP1 hyo
 go_wp2_with (first|(refine plan_nil ?_))
 refine wp_region_lit_plan [] [(0,0),(1,0),(2,0),(3,0),(5,0),(6,0),(7,0),(8,0),(9,0),(10,0),(11,0),(12,0),(4,2),(13,1),(14,0),(15,0),(16,3),(17,0),(18,4)] (fun q=>q=b) zyVB zyVB (fun c a d v w h=>zx0I) ?_
 go_wp2_with (first|(refine stp ?_))
 refine (HI2.out _ (HT1.out.drew.sepOf HP2.out)).mono ?_
 clear x0 x1 y0 y1
 rintro e w2 ⟨rfl,aav2,hT⟩
 have T2:=HT1.out.drew.use HP2.out hT
 have T2:Trk w F w2 (y0r av (ea++x::eb)::y0q b av bv::y0s bv (l++.node ab aav aes abv aks::.node cb cav ces cbv cks::r)::y0q ab aav2 abv::y0r aav2 ae::y0s abv aks::y0q cb cav2 cbv::y0r cav2 (insAt 0 x ces)::y0s cbv cks::(y0p aks++(y0p cks++(y0p l++y0p r)))):=T2.perm (perm_of_cnt fun a=>zR75)
 have kb2:=z872
 have oe2:Own w2 (value_of% n1x) 2 av (ea++x::eb).length (enC (ea++x::eb)):=T2.own zInm
 have hag:=agree_blk HKB1.out.drew kb2
 obtain ⟨g',o',c',hv',hge2,v0,v1⟩:=HEX.out w2 oe2
 rw [HAV.out] at hv'
 cases hv'
 rw [HAV.out] at oe2
 have hf0:w2.frozen? ⟨ge,offe+l.length*2,none⟩=false:=by
  rw [HNE.out] at oe2
  exact (oe2.cellAt (j:=l.length*2) zTbe).2
 have hf1:w2.frozen? ⟨ge,offe+l.length*2+1,none⟩=false:=by
  rw [HNE.out] at oe2
  have h1:=(oe2.cellAt (j:=l.length*2+1) zTbe).2
  rwa [←Nat.add_assoc] at h1
 have hyo:=HYO.out
 have HT2:=Lib.hid T2
 clear hT T2 oe2 HI2 HP2 HT1 HKB1
 go_upto_region 3 with (first|(refine stp ?_))
 have T3:Trk w F ((w2.setCell ⟨ge,offe+l.length*2,none⟩ (.string (kb y.key))).setCell ⟨ge,offe+l.length*2+1,none⟩ y.val) (y0r av (ea++y::eb)::y0q b av bv::y0s bv (l++.node ab aav aes abv aks::.node cb cav ces cbv cks::r)::y0q ab aav2 abv::y0r aav2 ae::y0s abv aks::y0q cb cav2 cbv::y0r cav2 (insAt 0 x ces)::y0s cbv cks::(y0p aks++(y0p cks++(y0p l++y0p r)))):=by
  exact zCr4
 generalize ((w2.setCell ⟨ge,offe+l.length*2,none⟩ (.string (kb y.key))).setCell ⟨ge,offe+l.length*2+1,none⟩ y.val)=w3 at *
 have ka3:Blk w3 ab (value_of% n2t) [aav2,abv]:=T3.blk zInm
 have kc3:Blk w3 cb (value_of% n2t) [cav2,cbv]:=T3.blk zInm
 have oak3:Own w3 (value_of% n2e) 1 abv aks.length (ptrs aks):=T3.own zInm
 have ock3:Own w3 (value_of% n2e) 1 cbv cks.length (ptrs cks):=T3.own zInm
 obtain ⟨pak,cak,habv,hcak1,hcak2⟩:=y0f oak3
 obtain ⟨pck,cck,hcbv,hcck1,hcck2⟩:=y0f ock3
 have hlf:=y0l w3 ab (value_of% n2t) aav2 pak aks.length cak (habv▸ka3)
 unfold ptrV at hlf
 have HABV:=Lib.hid habv
 have HCBV:=Lib.hid hcbv
 have HT3:=Lib.hid T3
 clear kb2 hag v0 v1 hf0 hf1 hyo HT2
 rcases tk with _|⟨k1,tk⟩
 ·have hak0:=hleaf rfl
  subst hak0
  have haks:aks=[]:=hak
  subst haks
  rw [show decide (([]:List P).length=0)=true from rfl] at hlf
  have HLF:=Lib.hid hlf
  clear hlf ka3 kc3 oak3 ock3 habv hcbv T3
  go_wp2_with fail
  refine HLF.out.mono ?_
  rintro e wq ⟨rfl,hq⟩
  subst hq
  go_wp2_with fail
  go_end0
  exact ⟨rfl,.node b av (ea++y::eb) bv (l++.node ab aav2 ae abv []::.node cb cav2 (x::ces) cbv cks::r),rfl,zhU6,HT3.out.perm (perm_of_cnt fun a=>by
   have e1:ptrs (l++.node ab aav2 ae abv []::.node cb cav2 (x::ces) cbv cks::r)=ptrs (l++.node ab aav aes abv []::.node cb cav ces cbv cks::r):=zy6c
   have e2:(l++P.node ab aav2 ae abv []::.node cb cav2 (x::ces) cbv cks::r).length=(l++P.node ab aav aes abv []::.node cb cav ces cbv cks::r).length:=zPXO
   have e3:insAt 0 x ces=x::ces:=rfl
   simp only [cnt_append,cnt_cons,cnt_nil,y0o,y0p,y0q,y0r,y0s,P.resL_append,P.resL_cons,P.resL_nil,P.res_node,e1,e2,e3]<;>omega)⟩
 ·have htk0:tk=[]:=by cases tk with
   | nil=>rfl
   | cons a t=>simp at htk
  subst htk0
  have hakl:aks.length=ak.length+1:=by rw [hak];simp
  obtain ⟨nak,hnak⟩:∃ nak,aks.length=nak:=⟨_,rfl⟩
  have hm:(nak:Int) - 1=(ak.length:Int):=zTbe
  have hk1:aks[ak.length]'(zTbe)=k1:=by simp [hak]
  obtain ⟨gq,offq,cq,hq1,hq2,p1⟩:=sl_ptr (k:=ak.length) (oak3.sl (B:=fun _=>True) (fun _ _=>trivial)) zTbe
  rw [habv] at hq1
  cases hq1
  rw [hk1] at p1
  obtain ⟨y0,y1⟩:=pg_cells ka3
  obtain ⟨z0,z1⟩:=pg_cells kc3
  rw [habv,hnak] at y1
  rw [hcbv] at z1
  rw [decide_eq_false zTbe] at hlf
  have HLF:=Lib.hid hlf
  have b4:=zpOg
  have hxk:=zLvq
  have hi3:Calls Tryz.prog (value_of% n36) #[cbv,.int .i64 0,.slice (some ⟨w3.heap.size,0,none⟩) 1 1] (w3.alloc (.cells #[ptrV k1.blk] (value_of% n2e))).drew _:=y0j _ cbv cks.length 0 (ptrs cks) [ptrV k1.blk] w3.heap.size (ock3.below b4) hxk rfl (Ones.cons rfl Ones.nil) (fun h=>by have:=ock3.lt _ h;omega) (Nat.zero_le _) zTbe
  rw [hcbv] at hi3
  have hag0:Agree (fun q=>q=cb) w3.drew (w3.alloc (.cells #[ptrV k1.blk] (value_of% n2e))).drew:=agree_alloc (w:=w3) _ (by intro k hk;subst hk;exact kc3.lt)
  have HI3:=Lib.hid hi3
  have HM:=Lib.hid hakl
  have HNAK:=Lib.hid hnak
  have HAK:=Lib.hid hak
  have hnak1:1≤nak:=zTbe
  have hnak2:nak≤1000000:=zTbe
  have hakn2:ak.length < nak:=zTbe
  have HKC3:=Lib.hid kc3
  unfold ptrV at HI3 hag0 p1
  clear hlf ka3 kc3 oak3 ock3 habv hcbv T3 hi3 hakl hnak hak hk1 b4 hxk
  go_wp2_with fail
  refine HLF.out.mono ?_
  rintro e wq ⟨rfl,hq⟩
  subst hq
  go_wp2_with fail
  refine wp_region_lit_plan [] [(0,0),(1,0),(2,0),(3,0),(5,0),(6,0),(7,0),(9,0),(4,2),(8,1),(10,0),(11,1),(12,3),(13,4),(14,0),(15,0),(16,4)] (fun q=>q=cb) zyVB zyVB (fun c a d v w h=>zx0I) ?_
  go_wp2_with (first|(refine stp ?_))
  refine HI3.out.mono ?_
  clear z0 z1 y0 y1 p1
  rintro e w4 ⟨cbv2,rfl,ho4,hon4,hf4⟩
  have b4:Below wq.heap.size wq (wq.alloc (.cells #[ptrV k1.blk] (value_of% n2e))).drew:=((Below.refl _ _).alloc (Nat.le_refl _) _).drew
  have T4:Trk w F (wq.alloc (.cells #[ptrV k1.blk] (value_of% n2e))).drew (y0s cbv cks::y0r av (ea++y::eb)::y0q b av bv::y0s bv (l++.node ab aav aes abv aks::.node cb cav ces cbv cks::r)::y0q ab aav2 abv::y0r aav2 ae::y0s abv aks::y0q cb cav2 cbv::y0r cav2 (insAt 0 x ces)::(y0p aks++(y0p cks++(y0p l++y0p r)))):=(HT3.out.below b4).perm (perm_of_cnt fun a=>zR75)
  have hin:=ptrs_ins cks 0 k1
  have hil:=insAt_length 0 k1 cks (Nat.zero_le _)
  have ho4':Own w4 (value_of% n2e) 1 cbv2 (insAt 0 k1 cks).length (ptrs (insAt 0 k1 cks)):=by rw [hil,←hin];exact ho4
  have T5:Trk w F w4 (y0s cbv2 (insAt 0 k1 cks)::y0r av (ea++y::eb)::y0q b av bv::y0s bv (l++.node ab aav aes abv aks::.node cb cav ces cbv cks::r)::y0q ab aav2 abv::y0r aav2 ae::y0s abv aks::y0q cb cav2 cbv::y0r cav2 (insAt 0 x ces)::(y0p aks++(y0p cks++(y0p l++y0p r)))):=T4.ownTo ho4' (HCBV.out▸hon4) (HCBV.out▸hf4)
  obtain ⟨p4,c4,hcbv2,_,_⟩:=y0f ho4
  have T5:Trk w F w4 (y0q cb cav2 cbv::y0r av (ea++y::eb)::y0q b av bv::y0s bv (l++.node ab aav aes abv aks::.node cb cav ces cbv cks::r)::y0q ab aav2 abv::y0r aav2 ae::y0s abv aks::y0s cbv2 (insAt 0 k1 cks)::y0r cav2 (insAt 0 x ces)::(y0p aks++(y0p cks++(y0p l++y0p r)))):=T5.perm (perm_of_cnt fun a=>zR75)
  have kc4:Blk w4 cb (value_of% n2t) [cav2,cbv]:=T5.blk zInm
  obtain ⟨w5,hw5⟩:∃ w5,w4.setCell ⟨cb,1,none⟩ cbv2=w5:=⟨_,rfl⟩
  have T6:Trk w F w5 (y0q cb cav2 cbv2::y0r av (ea++y::eb)::y0q b av bv::y0s bv (l++.node ab aav aes abv aks::.node cb cav ces cbv cks::r)::y0q ab aav2 abv::y0r aav2 ae::y0s abv aks::y0s cbv2 (insAt 0 k1 cks)::y0r cav2 (insAt 0 x ces)::(y0p aks++(y0p cks++(y0p l++y0p r)))):=hw5▸T5.blkSet 1 cbv2
  have T6:Trk w F w5 (y0q ab aav2 abv::y0r av (ea++y::eb)::y0q b av bv::y0s bv (l++.node ab aav aes abv aks::.node cb cav ces cbv cks::r)::y0q cb cav2 cbv2::y0r aav2 ae::y0s abv aks::y0s cbv2 (insAt 0 k1 cks)::y0r cav2 (insAt 0 x ces)::(y0p aks++(y0p cks++(y0p l++y0p r)))):=T6.perm (perm_of_cnt fun a=>zR75)
  have ka5:Blk w5 ab (value_of% n2t) [aav2,abv]:=T6.blk zInm
  obtain ⟨y0,y1⟩:=pg_cells ka5
  obtain ⟨z0,z1⟩:=pg_cells kc4
  have hfz:=kc4.frozen 1
  have hfy:=ka5.frozen 1
  rw [HABV.out,HNAK.out] at y1
  rw [HCBV.out] at z1
  have hag5:=agree_blk (HKC3.out.below b4) kc4
  have hag6:=agree_trans2 hag0 hag5
  have HT6:=Lib.hid T6
  have HCBV2:=Lib.hid hcbv2
  have HW5:=Lib.hid hw5
  have hckq:ak.length≤cak:=by have:=HM.out;omega
  have HHM:=Lib.hid hm
  subst hcbv2
  clear T4 T5 T6 ho4 ho4' hon4 hf4 hin hil kc4 ka5
  go_wp2_with (first|(refine stp ?_))
  go_end0
  have T7:=HT6.out.blkSet 1 (.slice (some ⟨gq,offq,none⟩) ak.length cak)
  generalize w5.setCell ⟨ab,1,none⟩ (.slice (some ⟨gq,offq,none⟩) ak.length cak)=w7 at *
  have T8:Trk w F w7 (y0s abv aks::y0q ab aav2 (.slice (some ⟨gq,offq,none⟩) ak.length cak)::y0r av (ea++y::eb)::y0q b av bv::y0s bv (l++.node ab aav aes abv aks::.node cb cav ces cbv cks::r)::y0q cb cav2 (.slice p4 (cks.length+1) c4)::y0r aav2 ae::y0s (.slice p4 (cks.length+1) c4) (insAt 0 k1 cks)::y0r cav2 (insAt 0 x ces)::(y0p aks++(y0p cks++(y0p l++y0p r)))):=T7.perm (perm_of_cnt fun a=>zr1M)
  have oa7:Own w7 (value_of% n2e) 1 abv aks.length (ptrs aks):=T8.own zInm
  have oa8:Own w7 (value_of% n2e) 1 (.slice (some ⟨gq,offq,none⟩) ak.length cak) ak.length (ptrs ak):=by
   rw [HABV.out] at oa7
   have h1:=oa7.take (m:=ak.length) (by have:=HM.out;omega)
   rw [Nat.mul_one,(ptrs_td aks ak.length).1] at h1
   have h2:aks.take ak.length=ak:=by rw [HAK.out];simp
   rw [h2] at h1
   exact h1
  have T9:=T8.swap (r':=y0s (.slice (some ⟨gq,offq,none⟩) ak.length cak) ak) oa8 (show (Value.slice (some ⟨gq,offq,none⟩) ak.length cak).ownBlock.toList.Nodup from ownBlock_nodup _) (fun k hk=>by
   have h1:k=gq:=zhc6
   simp [Res.own,HABV.out,Value.ownBlock,h1])
  have haks:=HAK.out
  exact ⟨rfl,.node b av (ea++y::eb) bv (l++.node ab aav2 ae (.slice (some ⟨gq,offq,none⟩) ak.length cak) ak::.node cb cav2 (x::ces) (.slice p4 (cks.length+1) c4) (k1::cks)::r),rfl,zhU6,T9.perm (perm_of_cnt fun a=>by
   have e1:ptrs (l++.node ab aav2 ae (.slice (some ⟨gq,offq,none⟩) ak.length cak) ak::.node cb cav2 (x::ces) (.slice p4 (cks.length+1) c4) (k1::cks)::r)=ptrs (l++.node ab aav aes abv aks::.node cb cav ces cbv cks::r):=zy6c
   have e2:(l++.node ab aav2 ae (.slice (some ⟨gq,offq,none⟩) ak.length cak) ak::.node cb cav2 (x::ces) (.slice p4 (cks.length+1) c4) (k1::cks)::r).length=(l++.node ab aav aes abv aks::.node cb cav ces cbv cks::r).length:=zPXO
   have e3:insAt 0 x ces=x::ces:=rfl
   have e4:insAt 0 k1 cks=k1::cks:=rfl
   have e5:P.resL (value_of% n2t) (value_of% n1x) (value_of% n2e) aks=y0p ak++k1.res (value_of% n2t) (value_of% n1x) (value_of% n2e):=by rw [haks,P.resL_append,P.resL_cons,P.resL_nil,List.append_nil]
   simp only [cnt_append,cnt_cons,cnt_nil,y0o,y0p,y0q,y0r,y0s,P.resL_append,P.resL_cons,P.resL_nil,P.res_node,e1,e2,e3,e4,e5]<;>omega)⟩
):P:=h
namespace TyS
theorem y16 (w:World) (b:Nat) (av bv:Value) (ea:List En) (x:En) (eb:List En) (l:List P) (ab:Nat) (aav:Value) (aes:List En) (abv:Value) (aks:List P) (cb:Nat) (cav:Value) (ces:List En) (cbv:Value) (cks r:List P)
 (hs:Sep w (y0o (.node b av (ea++x::eb) bv (l++.node ab aav aes abv aks::.node cb cav ces cbv cks::r)))) (hl:ea.length=l.length) (hn:(ea++x::eb).length≤1000000) (hkn:(l++.node ab aav aes abv aks::.node cb cav ces cbv cks::r).length≤1000000) (han:aes.length≤1000000) (hcn:ces.length≤1000000) (hakn:aks.length≤1000000) (hckn:cks.length≤1000000)
 (ae:List En) (y:En) (hae:aes=ae++[y]) (ak:List P) (tk:List P) (hak:aks=ak++tk) (htk:tk.length≤1) (hleaf:tk=[]→ak=[]) :
 Calls Tryz.prog 198 #[ptrV b,.int .i64 (l.length:Int)] w fun e w'=>e=.returned (.tuple #[])∧∃ p',p'.blk=b∧p'.t=.node (ea++y::eb) (l.map P.t++.node ae (ak.map P.t)::.node (x::ces) ((tk++cks).map P.t)::r.map P.t) ∧
  Trk w (feet (y0o (.node b av (ea++x::eb) bv (l++.node ab aav aes abv aks::.node cb cav ces cbv cks::r)))) w' (y0o p'):=z8YU
end TyS
end Go.Proofs.YteggkjdlajgenaaGreatDoor
