/- Contracts of the functions that the statement reaches, one behind the other. No condition beyond each theorem's own. -/
import Derived.Test.YtnpplhkpnbonaaaGreatTV2
set_option linter.unusedSimpArgs false
set_option linter.unusedVariables false
set_option maxRecDepth 100000
set_option maxHeartbeats 4000000
namespace Go.Proofs.YtnpplhkpnbonaaaGreat
open Go.RowKit Go.Afx
theorem single_any (w:World) (sb:Nat) (wv:Value) (ws:List WdV) (s:PSt) (h:PS w sb wv ws s) (HPar:Hid (Par sb wv ws (4*Mz ws s))) :
 Calls Tryz.prog 36 #[.pointer (some ⟨sb,0,none⟩)] w (TreeOut w sb wv ws s):=by
 obtain ⟨w1,hww1⟩:∃ w',w.alloc (.cells #[.int .i64 0,.int .i64 0,.string ⟨#[]⟩,.string ⟨#[]⟩,.string ⟨#[]⟩,.slice none 0 0] 27)=w':=⟨_,rfl⟩
 have hbw1:Below w.heap.size w w1:=hww1▸(Below.refl _ _).alloc (Nat.le_refl _) _
 have hkw1:Blk w1 w.heap.size 27 [.int .i64 0,.int .i64 0,.string ⟨#[]⟩,.string ⟨#[]⟩,.string ⟨#[]⟩,.slice none 0 0]:=hww1▸Blk.new w _ _
 have hlt:=h.blk.lt
 have hs1:=StepP.bel h hbw1
 have HK:=Lib.hid hkw1
 have HS:=Lib.hid hs1
 have HP:=Lib.hid h
 have hsz:w.heap.size < w1.heap.size:=hkw1.lt
 have q4:w1.cell? ⟨sb,4,none⟩=some (.bool s.bad):=hs1.ps.blk.cell 4
 have hlq:=hs1.ps.blk.lt
 clear hbw1 hkw1 hs1 h
 go_enter Tryz.func36,Tryz.ntmps36
 cases hbd:s.bad with
 | true =>
  rw [hbd] at q4
  have hkr:=HK.out
  have hlr:=hkr.lt
  have hfr:∀ i,w1.frozen? ⟨w.heap.size,i,none⟩=false:=hkr.frozen
  obtain ⟨d0,d1,d2,d3,d4,d5⟩:=six_cells hkr
  clear hkr
  go_wp2
  obtain ⟨hkE,hoE⟩:=set_sixE HK.out (.int .i64 0) (.int .i64 0) (.string ⟨#[]⟩) (.string ⟨#[]⟩) (.string ⟨#[]⟩) (.slice none 0 0)
  generalize ((((((w1.setCell ⟨w.heap.size,0,none⟩ (.int .i64 0)).setCell ⟨w.heap.size,1,none⟩ (.int .i64 0)).setCell ⟨w.heap.size,2,none⟩ (.string ⟨#[]⟩)).setCell ⟨w.heap.size,3,none⟩ (.string ⟨#[]⟩)).setCell ⟨w.heap.size,4,none⟩ (.string ⟨#[]⟩)).setCell ⟨w.heap.size,5,none⟩ (.slice none 0 0))=wE at *
  obtain ⟨m0,m1,m2,m3,m4,m5⟩:=six_cells hkE
  exact bodyPost_ret (v:=.agg #[.int .i64 0,.int .i64 0,.string ⟨#[]⟩,.string ⟨#[]⟩,.string ⟨#[]⟩,.slice none 0 0]) (by simp [results,Tryz.results36,go_sem,m0,m1,m2,m3,m4,m5]) rfl (⟨0,0,⟨#[]⟩,⟨#[]⟩,⟨#[]⟩,none,0,0,.leaf ⟨0,0,⟨#[]⟩,⟨#[]⟩,⟨#[]⟩⟩,s,rfl,rfl,rfl,HS.out.box HP.out hoE (Nat.le_refl _),trivial,hd_ok (by decide) (by decide) (by decide) (by decide)⟩)
 | false =>
  rw [hbd] at q4
  have HM:=Lib.hid (may_any w1 sb wv ws s HS.out.ps ⟨#[45]⟩)
  go_wp2_with fail
  refine HM.out.mono ?_
  clear HM
  rintro e w2 ⟨b,s2,rfl,hst,hf,ht⟩
  replace HS:=Lib.hid (HS.out.trans hst)
  replace HK:=Lib.hid (HK.out.only hst.only (by omega))
  have HT:=Lib.hid ht
  have HF:=Lib.hid hf
  have hzw2:=hst.only.size
  clear hst hf ht
  clear q4 hlq hww1
  cases b with
  | true =>
   obtain ⟨hb0,hi,rfl⟩:=HT.out rfl
   have hmz:=Mz.next hb0 hi
   have HEn:=Lib.hid (enter_any w2 sb wv ws _ HS.out.ps)
   go_wp2_with fail
   refine HEn.out.mono ?_
   clear HEn
   rintro e wx ⟨sq,rfl,hst⟩
   have HK:=Lib.hid (HK.out.only hst.only (by omega))
   have HS:=Lib.hid (HS.out.trans hst)
   have hmz4:=hst.mz
   have hszB:=hst.only.size
   have HC:=Lib.hid ((HPar.out wx sq hst.ps).1 (by omega))
   clear hst
   go_wp2_with fail
   refine HC.out.mono ?_
   clear HC
   rintro e w4 ⟨o,n,sx,nx,cx,p,k,c,x,s4,rfl,hh,hv,hst,hx,hok⟩
   have HX:=Lib.hid hx
   have HOK:=Lib.hid hok
   have HH:=Lib.hid hh
   have HV:=Lib.hid hv
   have hs4:=HS.out.trans hst
   have HK:=Lib.hid (HK.out.only hst.only (by omega))
   have hsz4:=hst.only.size
   obtain ⟨w5,hww5⟩:∃ w',w4.alloc (.cells #[.int .i64 0,.int .i64 0,.string ⟨#[]⟩,.string ⟨#[]⟩,.string ⟨#[]⟩,.slice none 0 0] 27)=w':=⟨_,rfl⟩
   have hbw5:Below w4.heap.size w4 w5:=hww5▸(Below.refl _ _).alloc (Nat.le_refl _) _
   have hkw5:Blk w5 w4.heap.size 27 [.int .i64 0,.int .i64 0,.string ⟨#[]⟩,.string ⟨#[]⟩,.string ⟨#[]⟩,.slice none 0 0]:=hww5▸Blk.new w4 _ _
   have hl5:=hkw5.lt
   obtain ⟨d0,d1,d2,d3,d4,d5⟩:=six_cells hkw5
   have hfz5:∀ i,w5.frozen? ⟨w4.heap.size,i,none⟩=false:=hkw5.frozen
   obtain ⟨hkS,hoS⟩:=set_sixE hkw5 (.int .i64 o) (.int .i64 n) (.string sx) (.string nx) (.string cx) (.slice p k c)
   obtain ⟨wS,hwS⟩:∃ w',((((((w5.setCell ⟨w4.heap.size,0,none⟩ (.int .i64 o)).setCell ⟨w4.heap.size,1,none⟩ (.int .i64 n)).setCell ⟨w4.heap.size,2,none⟩ (.string sx)).setCell ⟨w4.heap.size,3,none⟩ (.string nx)).setCell ⟨w4.heap.size,4,none⟩ (.string cx)).setCell ⟨w4.heap.size,5,none⟩ (.slice p k c))=w':=⟨_,rfl⟩
   rw [hwS] at hkS hoS
   obtain ⟨e0,e1,e2,e3,e4,e5⟩:=six_cells hkS
   have hsS:=(hs4.on hbw5).box HP.out hoS (by omega)
   have hbS:Below w4.heap.size w4 wS:=hbw5.trans (hoS.below hbw5.size (fun i e=>by omega))
   have hxS:=EX.at_below hbS x HX.out
   have c2:wS.cell? ⟨sb,2,none⟩=some (.int .i64 s4.op):=hsS.ps.blk.cell 2
   have hfzs:∀ i,wS.frozen? ⟨sb,i,none⟩=false:=hsS.ps.blk.frozen
   have hlS:=hsS.ps.blk.lt
   obtain ⟨o2,ho2⟩:∃ o2,IntKind.i64.wrap (s4.op - 1)=o2:=⟨_,rfl⟩
   obtain ⟨w7,hw7⟩:∃ w7,wS.setCell ⟨sb,2,none⟩ (.int .i64 o2)=w7:=⟨_,rfl⟩
   have hs7:=hsS.opens o2
   have ho7:Only (fun q=>q=sb) wS w7:=hw7▸(Only.refl (fun q=>q=sb) wS).setCell (fun _=>rfl) _
   rw [hw7] at hs7
   obtain ⟨f0,f1,f2,f3,f4,f5⟩:=six_cells (hkS.only ho7 (by omega))
   have hx7:x.at w7 (fun q=>wx.heap.size≤q):=EX.at_only ho7 (fun q hq e=>by omega) x hxS
   obtain ⟨w8,hw8⟩:∃ w8,w7.alloc (.cells #[.int .i64 o,.int .i64 n,.string sx,.string nx,.string cx,.slice p k c] 27)=w8:=⟨_,rfl⟩
   have hb8:Below w7.heap.size w7 w8:=hw8▸(Below.refl _ _).alloc (Nat.le_refl _) _
   have hsz7:=ho7.size
   have hszS:=hbS.size
   have hx8:=EX.one_at hx7 (by omega) HH.out HV.out hw8 ⟨20,0,⟨#[]⟩,⟨#[]⟩,⟨#[]⟩⟩
   have hon48:Only (fun q=>q=sb) w4 w8:=((Only.of_none hbS).trans ho7 (fun _ _ e=>e)).trans (Only.of_none hb8) (fun _ _ e=>e)
   have HX8:=Lib.hid hx8
   have HS8:=Lib.hid (hs7.on hb8)
   have hsz8:=hb8.size
   clear hs4 hbw5 hkw5 hkS hoS hsS hbS hxS hs7 ho7 hx7 hb8 hx8 hst hx hok hh hv
   have hk1:=HK.out.only hon48 (by omega)
   have HK:=Lib.hid hk1
   obtain ⟨g0,g1,g2,g3,g4,g5⟩:=six_cells hk1
   have hfz8:∀ i,w8.frozen? ⟨w.heap.size,i,none⟩=false:=hk1.frozen
   have hl8:=hk1.lt
   clear hon48 hk1
   go_wp2
   obtain ⟨hkE,hoE⟩:=set_sixE HK.out (.int .i64 20) (.int .i64 0) (.string ⟨#[]⟩) (.string ⟨#[]⟩) (.string ⟨#[]⟩) (.slice (some ⟨w7.heap.size,0,none⟩) 1 1)
   generalize ((((((w8.setCell ⟨w.heap.size,0,none⟩ (.int .i64 20)).setCell ⟨w.heap.size,1,none⟩ (.int .i64 0)).setCell ⟨w.heap.size,2,none⟩ (.string ⟨#[]⟩)).setCell ⟨w.heap.size,3,none⟩ (.string ⟨#[]⟩)).setCell ⟨w.heap.size,4,none⟩ (.string ⟨#[]⟩)).setCell ⟨w.heap.size,5,none⟩ (.slice (some ⟨w7.heap.size,0,none⟩) 1 1))=wE at *
   obtain ⟨m0,m1,m2,m3,m4,m5⟩:=six_cells hkE
   exact bodyPost_ret (v:=.agg #[.int .i64 20,.int .i64 0,.string ⟨#[]⟩,.string ⟨#[]⟩,.string ⟨#[]⟩,.slice (some ⟨w7.heap.size,0,none⟩) 1 1]) (by simp [results,Tryz.results36,go_sem,m0,m1,m2,m3,m4,m5]) rfl (⟨20,0,⟨#[]⟩,⟨#[]⟩,⟨#[]⟩,some ⟨w7.heap.size,0,none⟩,1,1,.one ⟨20,0,⟨#[]⟩,⟨#[]⟩,⟨#[]⟩⟩ (.slice (some ⟨w7.heap.size,0,none⟩) 1 1) x,_,rfl,rfl,rfl,HS8.out.box HP.out hoE (Nat.le_refl _),EX.at_reg (fun q hq=>by omega) (EX.at_box HX8.out hoE (by omega)),hd_ok (by decide) (by decide) (by decide) (by decide),HOK.out⟩)
  | false =>
  rw [HF.out rfl] at HS
  clear HF HT
  have HM:=Lib.hid (kind_anyP w2 sb wv ws s HS.out.ps 1)
  go_wp2_with fail
  refine HM.out.mono ?_
  clear HM
  rintro e w3 ⟨b,rfl,hb,hb2⟩
  replace HS:=Lib.hid (HS.out.on hb2)
  replace HK:=Lib.hid (HK.out.below hb2)
  have HT:=Lib.hid hb
  have hzw3:=hb2.size
  clear hb hb2
  cases b with
  | true =>
   have HN:=Lib.hid (number_anyP w3 sb wv ws _ HS.out.ps)
   go_wp2_with fail
   refine HN.out.mono ?_
   clear HN
   rintro e w4 ⟨n,s4,rfl,hn,hst⟩
   have HK:=Lib.hid (HK.out.only hst.only (by omega))
   have HS:=Lib.hid (HS.out.trans hst)
   have HN:=Lib.hid hn
   clear hst hn
   have hkr:=HK.out
   have hlr:=hkr.lt
   have hfr:∀ i,w4.frozen? ⟨w.heap.size,i,none⟩=false:=hkr.frozen
   obtain ⟨d0,d1,d2,d3,d4,d5⟩:=six_cells hkr
   clear hkr
   go_wp2
   obtain ⟨hkE,hoE⟩:=set_sixE HK.out (.int .i64 1) (.int .i64 n) (.string ⟨#[]⟩) (.string ⟨#[]⟩) (.string ⟨#[]⟩) (.slice none 0 0)
   generalize ((((((w4.setCell ⟨w.heap.size,0,none⟩ (.int .i64 1)).setCell ⟨w.heap.size,1,none⟩ (.int .i64 n)).setCell ⟨w.heap.size,2,none⟩ (.string ⟨#[]⟩)).setCell ⟨w.heap.size,3,none⟩ (.string ⟨#[]⟩)).setCell ⟨w.heap.size,4,none⟩ (.string ⟨#[]⟩)).setCell ⟨w.heap.size,5,none⟩ (.slice none 0 0))=wE at *
   obtain ⟨m0,m1,m2,m3,m4,m5⟩:=six_cells hkE
   exact bodyPost_ret (v:=.agg #[.int .i64 1,.int .i64 n,.string ⟨#[]⟩,.string ⟨#[]⟩,.string ⟨#[]⟩,.slice none 0 0]) (by simp [results,Tryz.results36,go_sem,m0,m1,m2,m3,m4,m5]) rfl (⟨1,n,⟨#[]⟩,⟨#[]⟩,⟨#[]⟩,none,0,0,.leaf ⟨1,n,⟨#[]⟩,⟨#[]⟩,⟨#[]⟩⟩,s4,rfl,rfl,rfl,HS.out.box HP.out hoE (Nat.le_refl _),trivial,⟨by unfold fit64;simp only;omega,HN.out,Nat.zero_le _,Nat.zero_le _,Nat.zero_le _⟩⟩)
  | false =>
  have HM:=Lib.hid (kind_anyP w3 sb wv ws s HS.out.ps 2)
  go_wp2_with fail
  refine HM.out.mono ?_
  clear HM
  rintro e w4 ⟨b,rfl,hb,hb2⟩
  replace HS:=Lib.hid (HS.out.on hb2)
  replace HK:=Lib.hid (HK.out.below hb2)
  have HT:=Lib.hid hb
  have hzw4:=hb2.size
  clear hb hb2
  cases b with
  | true =>
   obtain ⟨hb0,hi⟩:=HT.out rfl
   have hbk:=HS.out.ps.blk
   have c1:w4.cell? ⟨sb,1,none⟩=some (.int .i64 (s.i:Int)):=hbk.cell 1
   have hfz:∀ i,w4.frozen? ⟨sb,i,none⟩=false:=hbk.frozen
   have hlq:=hbk.lt
   have hle:=HS.out.ps.le
   have hlim:=HS.out.ps.lim
   obtain ⟨wn,hwn⟩:∃ wn,w4.setCell ⟨sb,1,none⟩ (.int .i64 ((s.i:Int)+1))=wn:=⟨_,rfl⟩
   have h3:=HS.out.next hi
   have hon:Only (fun q=>q=sb) w4 wn:=hwn▸(Only.refl (fun q=>q=sb) w4).setCell (fun _=>rfl) _
   rw [hwn] at h3
   have hkr:=HK.out.only hon (by omega)
   have HK:=Lib.hid hkr
   obtain ⟨pw,cw,hwv⟩:=h3.ps.form
   have hbk3:=h3.ps.blk
   rw [hwv] at hbk3
   have d0:wn.cell? ⟨sb,0,none⟩=some (.slice pw ws.length cw):=hbk3.cell 0
   have d1:wn.cell? ⟨sb,1,none⟩=some (.int .i64 ((s.i:Int)+1)):=hbk3.cell 1
   obtain ⟨g,off,cap,hv,hgl,hg,e0,e1,e2,e3⟩:=h3.ps.at hi
   rw [hwv] at hv
   cases hv
   have hn:=(h3.ps.n64 _ (List.getElem_mem hi)).2.2
   generalize ws[s.i]=xw at *
   have H3:=Lib.hid h3
   have HNN:=Lib.hid hn
   have hfr:∀ i,wn.frozen? ⟨w.heap.size,i,none⟩=false:=hkr.frozen
   have hlr:=hkr.lt
   obtain ⟨x0,x1,x2,x3,x4,x5⟩:=six_cells hkr
   clear hbk h3 hbk3 hwv hn e0 e2 e3 hon hkr
   go_upto_region 16 with fail
   clear hwn c1
   refine wp_region_lit_plan [] [(0,0),(1,0),(2,0),(4,0),(5,0),(6,0),(3,1),(7,1),(8,0),(9,0),(10,0),(11,1),(12,0),(13,4)] ((fun q=>q=sb∨q=g)) (by kernel_rfl) (by kernel_rfl) (fun c a d v w h=>by cases d<;>exact h) ?_
   go_wp2_with (first|(refine stp ?_))
   obtain ⟨hkE,hoE⟩:=set_sixE HK.out (.int .i64 2) (.int .i64 0) (.string xw.text) (.string ⟨#[]⟩) (.string ⟨#[]⟩) (.slice none 0 0)
   generalize ((((((wn.setCell ⟨w.heap.size,0,none⟩ (.int .i64 2)).setCell ⟨w.heap.size,1,none⟩ (.int .i64 0)).setCell ⟨w.heap.size,2,none⟩ (.string xw.text)).setCell ⟨w.heap.size,3,none⟩ (.string ⟨#[]⟩)).setCell ⟨w.heap.size,4,none⟩ (.string ⟨#[]⟩)).setCell ⟨w.heap.size,5,none⟩ (.slice none 0 0))=wE at *
   have hkE:=hkE.drew
   have hoE:=hoE.drew
   generalize wE.drew=wF at *
   obtain ⟨m0,m1,m2,m3,m4,m5⟩:=six_cells hkE
   exact bodyPost_ret (v:=.agg #[.int .i64 2,.int .i64 0,.string xw.text,.string ⟨#[]⟩,.string ⟨#[]⟩,.slice none 0 0]) (by simp [results,Tryz.results36,go_sem,m0,m1,m2,m3,m4,m5]) rfl (⟨2,0,xw.text,⟨#[]⟩,⟨#[]⟩,none,0,0,.leaf ⟨2,0,xw.text,⟨#[]⟩,⟨#[]⟩⟩,_,rfl,rfl,rfl,H3.out.box HP.out hoE (Nat.le_refl _),trivial,⟨by unfold fit64;simp only;omega,by unfold fit64;simp only;omega,HNN.out,Nat.zero_le _,Nat.zero_le _⟩⟩)
  | false =>
  have HM:=Lib.hid (may_any w4 sb wv ws s HS.out.ps ⟨#[116,114,117,101]⟩)
  go_wp2_with fail
  refine HM.out.mono ?_
  clear HM
  rintro e w5 ⟨b,s2,rfl,hst,hf,ht⟩
  replace HS:=Lib.hid (HS.out.trans hst)
  replace HK:=Lib.hid (HK.out.only hst.only (by omega))
  have HT:=Lib.hid ht
  have HF:=Lib.hid hf
  have hzw5:=hst.only.size
  clear hst hf ht
  cases b with
  | true =>
   have hkr:=HK.out
   have hlr:=hkr.lt
   have hfr:∀ i,w5.frozen? ⟨w.heap.size,i,none⟩=false:=hkr.frozen
   obtain ⟨d0,d1,d2,d3,d4,d5⟩:=six_cells hkr
   clear hkr
   go_wp2
   obtain ⟨hkE,hoE⟩:=set_sixE HK.out (.int .i64 3) (.int .i64 1) (.string ⟨#[]⟩) (.string ⟨#[]⟩) (.string ⟨#[]⟩) (.slice none 0 0)
   generalize ((((((w5.setCell ⟨w.heap.size,0,none⟩ (.int .i64 3)).setCell ⟨w.heap.size,1,none⟩ (.int .i64 1)).setCell ⟨w.heap.size,2,none⟩ (.string ⟨#[]⟩)).setCell ⟨w.heap.size,3,none⟩ (.string ⟨#[]⟩)).setCell ⟨w.heap.size,4,none⟩ (.string ⟨#[]⟩)).setCell ⟨w.heap.size,5,none⟩ (.slice none 0 0))=wE at *
   obtain ⟨m0,m1,m2,m3,m4,m5⟩:=six_cells hkE
   exact bodyPost_ret (v:=.agg #[.int .i64 3,.int .i64 1,.string ⟨#[]⟩,.string ⟨#[]⟩,.string ⟨#[]⟩,.slice none 0 0]) (by simp [results,Tryz.results36,go_sem,m0,m1,m2,m3,m4,m5]) rfl (⟨3,1,⟨#[]⟩,⟨#[]⟩,⟨#[]⟩,none,0,0,.leaf ⟨3,1,⟨#[]⟩,⟨#[]⟩,⟨#[]⟩⟩,s2,rfl,rfl,rfl,HS.out.box HP.out hoE (Nat.le_refl _),trivial,hd_ok (by decide) (by decide) (by decide) (by decide)⟩)
  | false =>
  rw [HF.out rfl] at HS
  clear HF HT
  have HM:=Lib.hid (may_any w5 sb wv ws s HS.out.ps ⟨#[102,97,108,115,101]⟩)
  go_wp2_with fail
  refine HM.out.mono ?_
  clear HM
  rintro e w6 ⟨b,s2,rfl,hst,hf,ht⟩
  replace HS:=Lib.hid (HS.out.trans hst)
  replace HK:=Lib.hid (HK.out.only hst.only (by omega))
  have HT:=Lib.hid ht
  have HF:=Lib.hid hf
  have hzw6:=hst.only.size
  clear hst hf ht
  cases b with
  | true =>
   have hkr:=HK.out
   have hlr:=hkr.lt
   have hfr:∀ i,w6.frozen? ⟨w.heap.size,i,none⟩=false:=hkr.frozen
   obtain ⟨d0,d1,d2,d3,d4,d5⟩:=six_cells hkr
   clear hkr
   go_wp2
   obtain ⟨hkE,hoE⟩:=set_sixE HK.out (.int .i64 3) (.int .i64 0) (.string ⟨#[]⟩) (.string ⟨#[]⟩) (.string ⟨#[]⟩) (.slice none 0 0)
   generalize ((((((w6.setCell ⟨w.heap.size,0,none⟩ (.int .i64 3)).setCell ⟨w.heap.size,1,none⟩ (.int .i64 0)).setCell ⟨w.heap.size,2,none⟩ (.string ⟨#[]⟩)).setCell ⟨w.heap.size,3,none⟩ (.string ⟨#[]⟩)).setCell ⟨w.heap.size,4,none⟩ (.string ⟨#[]⟩)).setCell ⟨w.heap.size,5,none⟩ (.slice none 0 0))=wE at *
   obtain ⟨m0,m1,m2,m3,m4,m5⟩:=six_cells hkE
   exact bodyPost_ret (v:=.agg #[.int .i64 3,.int .i64 0,.string ⟨#[]⟩,.string ⟨#[]⟩,.string ⟨#[]⟩,.slice none 0 0]) (by simp [results,Tryz.results36,go_sem,m0,m1,m2,m3,m4,m5]) rfl (⟨3,0,⟨#[]⟩,⟨#[]⟩,⟨#[]⟩,none,0,0,.leaf ⟨3,0,⟨#[]⟩,⟨#[]⟩,⟨#[]⟩⟩,s2,rfl,rfl,rfl,HS.out.box HP.out hoE (Nat.le_refl _),trivial,hd_ok (by decide) (by decide) (by decide) (by decide)⟩)
  | false =>
  rw [HF.out rfl] at HS
  clear HF HT
  have HM:=Lib.hid (may_any w6 sb wv ws s HS.out.ps ⟨#[40]⟩)
  go_wp2_with fail
  refine HM.out.mono ?_
  clear HM
  rintro e w7 ⟨b,s2,rfl,hst,hf,ht⟩
  replace HS:=Lib.hid (HS.out.trans hst)
  replace HK:=Lib.hid (HK.out.only hst.only (by omega))
  have HT:=Lib.hid ht
  have HF:=Lib.hid hf
  have hzw7:=hst.only.size
  clear hst hf ht
  cases b with
  | true =>
   obtain ⟨hb0,hi,rfl⟩:=HT.out rfl
   have hmz:=Mz.next hb0 hi
   have HEn:=Lib.hid (enter_any w7 sb wv ws _ HS.out.ps)
   go_wp2_with fail
   refine HEn.out.mono ?_
   clear HEn
   rintro e wx ⟨sq,rfl,hst⟩
   have HK:=Lib.hid (HK.out.only hst.only (by omega))
   have HS:=Lib.hid (HS.out.trans hst)
   have hmz4:=hst.mz
   have hszB:=hst.only.size
   have HC:=Lib.hid ((HPar.out wx sq hst.ps).2.2 1 (by simp only [show (1:Int)≤2 by decide,if_true];omega))
   clear hst
   go_wp2_with fail
   refine HC.out.mono ?_
   clear HC
   rintro e wA ⟨o,n,sx,nx,cx,p,k,c,x,s4,rfl,hh,hv,hst,hx,hok⟩
   have HX:=Lib.hid hx
   have HOK:=Lib.hid hok
   have HH:=Lib.hid hh
   have HV:=Lib.hid hv
   have hs4:=HS.out.trans hst
   have hk4:=HK.out.only hst.only (by omega)
   have hsz4:=hst.only.size
   clear HS HK hst hx hok hh hv
   obtain ⟨wB,hwwB⟩:∃ w',wA.alloc (.cells #[.int .i64 0,.int .i64 0,.string ⟨#[]⟩,.string ⟨#[]⟩,.string ⟨#[]⟩,.slice none 0 0] 27)=w':=⟨_,rfl⟩
   have hbwB:Below wA.heap.size wA wB:=hwwB▸(Below.refl _ _).alloc (Nat.le_refl _) _
   have hkwB:Blk wB wA.heap.size 27 [.int .i64 0,.int .i64 0,.string ⟨#[]⟩,.string ⟨#[]⟩,.string ⟨#[]⟩,.slice none 0 0]:=hwwB▸Blk.new wA _ _
   have hl5:=hkwB.lt
   obtain ⟨d0,d1,d2,d3,d4,d5⟩:=six_cells hkwB
   have hfz5:∀ i,wB.frozen? ⟨wA.heap.size,i,none⟩=false:=hkwB.frozen
   obtain ⟨hkS,hoS⟩:=set_sixE hkwB (.int .i64 o) (.int .i64 n) (.string sx) (.string nx) (.string cx) (.slice p k c)
   obtain ⟨wS,hwS⟩:∃ w',((((((wB.setCell ⟨wA.heap.size,0,none⟩ (.int .i64 o)).setCell ⟨wA.heap.size,1,none⟩ (.int .i64 n)).setCell ⟨wA.heap.size,2,none⟩ (.string sx)).setCell ⟨wA.heap.size,3,none⟩ (.string nx)).setCell ⟨wA.heap.size,4,none⟩ (.string cx)).setCell ⟨wA.heap.size,5,none⟩ (.slice p k c))=w':=⟨_,rfl⟩
   rw [hwS] at hkS hoS
   have hsS:=(hs4.on hbwB).box HP.out hoS (by omega)
   have hbS:Below wA.heap.size wA wS:=hbwB.trans (hoS.below hbwB.size (fun i e=>by omega))
   have HXS:=Lib.hid (EX.at_below hbS x HX.out)
   have HKS:=Lib.hid hkS
   have HK:=Lib.hid (hk4.below hbS)
   have HS:=Lib.hid hsS
   have hszS:=hbS.size
   have HTk:=Lib.hid (take_anyP wS sb wv ws _ hsS.ps ⟨#[41]⟩)
   clear hk4 hs4 hbwB hkwB hoS hsS hbS hkS
   go_wp2_with fail
   clear hwwB hwS d0 d1 d2 d3 d4 d5 hfz5
   refine HTk.out.mono ?_
   clear HTk
   rintro e wC ⟨s5,rfl,hst,hmz5⟩
   have hsC:=HS.out.trans hst
   have hkC:=HK.out.only hst.only (by omega)
   have hkB:=HKS.out.only hst.only (by omega)
   have hxC:x.at wC (fun q=>wx.heap.size≤q):=EX.at_only hst.only (fun q hq e=>by omega) x HXS.out
   have hszC:=hst.only.size
   clear hst hmz5 HS HK HKS HXS
   have c2:wC.cell? ⟨sb,2,none⟩=some (.int .i64 s5.op):=hsC.ps.blk.cell 2
   have hfzs:∀ i,wC.frozen? ⟨sb,i,none⟩=false:=hsC.ps.blk.frozen
   have hlS:=hsC.ps.blk.lt
   obtain ⟨o2,ho2⟩:∃ o2,IntKind.i64.wrap (s5.op - 1)=o2:=⟨_,rfl⟩
   obtain ⟨wD,hwD⟩:∃ w',wC.setCell ⟨sb,2,none⟩ (.int .i64 o2)=w':=⟨_,rfl⟩
   have hsD:=hsC.opens o2
   have hoD:Only (fun q=>q=sb) wC wD:=hwD▸(Only.refl (fun q=>q=sb) wC).setCell (fun _=>rfl) _
   rw [hwD] at hsD
   have hkD:=hkC.only hoD (by omega)
   have hkE2:=hkB.only hoD (by omega)
   have HXD:=Lib.hid (EX.at_only hoD (fun q hq e=>by omega) x hxC)
   have HSD:=Lib.hid hsD
   have HK:=Lib.hid hkD
   obtain ⟨f0,f1,f2,f3,f4,f5⟩:=six_cells hkE2
   obtain ⟨g0,g1,g2,g3,g4,g5⟩:=six_cells hkD
   have hfz8:∀ i,wD.frozen? ⟨w.heap.size,i,none⟩=false:=hkD.frozen
   have hl8:=hkD.lt
   have hl9:=hkE2.lt
   clear hsC hkC hkB hxC hsD hoD hkD hkE2
   go_wp2
   obtain ⟨hkE,hoE⟩:=set_sixE HK.out (.int .i64 o) (.int .i64 n) (.string sx) (.string nx) (.string cx) (.slice p k c)
   generalize ((((((wD.setCell ⟨w.heap.size,0,none⟩ (.int .i64 o)).setCell ⟨w.heap.size,1,none⟩ (.int .i64 n)).setCell ⟨w.heap.size,2,none⟩ (.string sx)).setCell ⟨w.heap.size,3,none⟩ (.string nx)).setCell ⟨w.heap.size,4,none⟩ (.string cx)).setCell ⟨w.heap.size,5,none⟩ (.slice p k c))=wE at *
   obtain ⟨m0,m1,m2,m3,m4,m5⟩:=six_cells hkE
   exact bodyPost_ret (v:=.agg #[.int .i64 o,.int .i64 n,.string sx,.string nx,.string cx,.slice p k c]) (by simp [results,Tryz.results36,go_sem,m0,m1,m2,m3,m4,m5]) rfl (⟨o,n,sx,nx,cx,p,k,c,x,_,rfl,HH.out,HV.out,HSD.out.box HP.out hoE (Nat.le_refl _),EX.at_reg (fun q hq=>by omega) (EX.at_box HXD.out hoE (by omega)),HOK.out⟩)
  | false =>
  rw [HF.out rfl] at HS
  clear HF HT
  go_upto_region 27 with fail
  go_cut [95] (fun t wc=>∃ b,t=.bool b∧StepP w wc sb wv ws s s∧Blk wc w.heap.size 27 [.int .i64 0,.int .i64 0,.string ⟨#[]⟩,.string ⟨#[]⟩,.string ⟨#[]⟩,.slice none 0 0]∧(b=true→0 < Mz ws s))
  case first =>
   have HI:=Lib.hid (is_any w7 sb wv ws s HS.out.ps ⟨#[99,111,117,110,116]⟩)
   go_wp2_with fail
   refine HI.out.mono ?_
   clear HI
   rintro e w8 ⟨b,rfl,hb,hb2⟩
   replace HS:=Lib.hid (HS.out.on hb2)
   replace HK:=Lib.hid (HK.out.below hb2)
   replace HT:=Lib.hid hb
   clear hb hb2
   cases b with
   | true =>
    have HTT:=Lib.hid (HT.out rfl)
    go_wp2
    go_meet
    exact ⟨true,rfl,HS.out,HK.out,fun _=>by obtain ⟨h1,h2⟩:=HTT.out;rw [Mz.good h1];omega⟩
   | false =>
   have HI:=Lib.hid (is_any w8 sb wv ws s HS.out.ps ⟨#[115,117,109]⟩)
   go_wp2_with fail
   refine HI.out.mono ?_
   clear HI
   rintro e w9 ⟨b,rfl,hb,hb2⟩
   replace HS:=Lib.hid (HS.out.on hb2)
   replace HK:=Lib.hid (HK.out.below hb2)
   replace HT:=Lib.hid hb
   clear hb hb2
   cases b with
   | true =>
    have HTT:=Lib.hid (HT.out rfl)
    go_wp2
    go_meet
    exact ⟨true,rfl,HS.out,HK.out,fun _=>by obtain ⟨h1,h2⟩:=HTT.out;rw [Mz.good h1];omega⟩
   | false =>
   have HI:=Lib.hid (is_any w9 sb wv ws s HS.out.ps ⟨#[109,105,110]⟩)
   go_wp2_with fail
   refine HI.out.mono ?_
   clear HI
   rintro e w10 ⟨b,rfl,hb,hb2⟩
   replace HS:=Lib.hid (HS.out.on hb2)
   replace HK:=Lib.hid (HK.out.below hb2)
   replace HT:=Lib.hid hb
   clear hb hb2
   cases b with
   | true =>
    have HTT:=Lib.hid (HT.out rfl)
    go_wp2
    go_meet
    exact ⟨true,rfl,HS.out,HK.out,fun _=>by obtain ⟨h1,h2⟩:=HTT.out;rw [Mz.good h1];omega⟩
   | false =>
   have HI:=Lib.hid (is_any w10 sb wv ws s HS.out.ps ⟨#[109,97,120]⟩)
   go_wp2_with fail
   refine HI.out.mono ?_
   clear HI
   rintro e w11 ⟨b,rfl,hb,hb2⟩
   replace HS:=Lib.hid (HS.out.on hb2)
   replace HK:=Lib.hid (HK.out.below hb2)
   replace HT:=Lib.hid hb
   clear hb hb2
   cases b with
   | true =>
    have HTT:=Lib.hid (HT.out rfl)
    go_wp2
    go_meet
    exact ⟨true,rfl,HS.out,HK.out,fun _=>by obtain ⟨h1,h2⟩:=HTT.out;rw [Mz.good h1];omega⟩
   | false =>
    go_wp2
    go_meet
    exact ⟨false,rfl,HS.out,HK.out,by simp⟩
  case rest =>
  obtain ⟨b,rfl,hst,hkr,hmz⟩:=hcut
  replace HS:=Lib.hid hst
  replace HK:=Lib.hid hkr
  have HMZ:=Lib.hid hmz
  have hszc:=hkr.lt
  clear hst hkr hmz
  obtain ⟨w8,rfl⟩:∃ w8,w8=wc:=⟨_,rfl⟩
  cases b with
  | true =>
   have hm0:=HMZ.out rfl
   clear HMZ
   obtain ⟨wg,hwg⟩:∃ w',w8.alloc (.cells #[.string ⟨#[99,111,117,110,116]⟩,.string ⟨#[115,117,109]⟩,.string ⟨#[109,105,110]⟩,.string ⟨#[109,97,120]⟩] 9)=w':=⟨_,rfl⟩
   have hbg:Below w8.heap.size w8 wg:=hwg▸(Below.refl _ _).alloc (Nat.le_refl _) _
   have hkg:Blk wg w8.heap.size 9 [.string ⟨#[99,111,117,110,116]⟩,.string ⟨#[115,117,109]⟩,.string ⟨#[109,105,110]⟩,.string ⟨#[109,97,120]⟩]:=hwg▸Blk.new w8 _ _
   obtain ⟨we,hwwe⟩:∃ w',wg.alloc (.cells #[.int .i64 0,.int .i64 0,.string ⟨#[]⟩,.string ⟨#[]⟩,.string ⟨#[]⟩,.slice none 0 0] 27)=w':=⟨_,rfl⟩
   have hbwe:Below wg.heap.size wg we:=hwwe▸(Below.refl _ _).alloc (Nat.le_refl _) _
   have hkwe:Blk we wg.heap.size 27 [.int .i64 0,.int .i64 0,.string ⟨#[]⟩,.string ⟨#[]⟩,.string ⟨#[]⟩,.slice none 0 0]:=hwwe▸Blk.new wg _ _
   have hlE:=hkwe.lt
   obtain ⟨d0,d1,d2,d3,d4,d5⟩:=six_cells hkwe
   have hfE:∀ i,we.frozen? ⟨wg.heap.size,i,none⟩=false:=hkwe.frozen
   obtain ⟨hkS,hoS⟩:=set_sixE hkwe (.int .i64 0) (.int .i64 0) (.string ⟨#[]⟩) (.string ⟨#[]⟩) (.string ⟨#[]⟩) (.slice none 0 0)
   obtain ⟨wS,hwS⟩:∃ w',((((((we.setCell ⟨wg.heap.size,0,none⟩ (.int .i64 0)).setCell ⟨wg.heap.size,1,none⟩ (.int .i64 0)).setCell ⟨wg.heap.size,2,none⟩ (.string ⟨#[]⟩)).setCell ⟨wg.heap.size,3,none⟩ (.string ⟨#[]⟩)).setCell ⟨wg.heap.size,4,none⟩ (.string ⟨#[]⟩)).setCell ⟨wg.heap.size,5,none⟩ (.slice none 0 0))=w':=⟨_,rfl⟩
   rw [hwS] at hkS hoS
   have hszg:=hbg.size
   have hsze:=hbwe.size
   have hszS:=hoS.size
   have hlg:=hkg.lt
   have HF:=Lib.hid (show FoldS w wS sb wv ws s w.heap.size wg.heap.size 0 ⟨#[]⟩ ⟨#[]⟩ (.slice none 0 0) s from ⟨((HS.out.on hbg).on hbwe).box HP.out hoS (by omega),((HK.out.below hbg).below hbwe).only hoS (by omega),hkS,Int.le_refl _,by decide⟩)
   have HG:=Lib.hid (show Blk wS w8.heap.size 9 foldW from (hkg.below hbwe).only hoS (by omega))
   have hsb8:=HS.out.ps.blk.lt
   have hgS:wg.heap.size < wS.heap.size:=Nat.lt_of_lt_of_le hlE hszS
   clear HS HK hbg hkg hbwe hkwe hkS hoS
   go_wp2_with fail
   clear hwg hwwe hwS d0 d1 d2 d3 d4 d5 hfE hlE
   go_loopw [7] (fun iv wr=>∃ (k:Nat) (o:Int) (s':PSt),iv=.int .i64 k∧k≤4∧wS.heap.size≤wr.heap.size∧FoldS w wr sb wv ws s w.heap.size wg.heap.size o ⟨#[]⟩ ⟨#[]⟩ (.slice none 0 0) s'∧Blk wr w8.heap.size 9 foldW) (fun iv _=>4 - (intOf iv).toNat)
   case atStart=>exact ⟨0,0,s,rfl,Nat.zero_le _,Nat.le_refl _,HF.out,HG.out⟩
   case round =>
    obtain ⟨k,o,s',rfl,hk4,hszr,hf,hg⟩:=hrel
    obtain ⟨wo,rfl⟩:∃ wo:World,wo=wr:=⟨_,rfl⟩
    replace HF:=Lib.hid hf
    replace HG:=Lib.hid hg
    have hke:=hf.ke
    obtain ⟨d0,d1,d2,d3,d4,d5⟩:=six_cells hke
    have hfE:∀ i,wo.frozen? ⟨wg.heap.size,i,none⟩=false:=hke.frozen
    have hlE:=hke.lt
    have hlg2:=hg.lt
    have ho24:=hf.o24
    have hmzs:=hf.st.mz
    clear hke
    by_cases hkn:k < 4
    ·skip
     obtain ⟨t,ht⟩:=foldW_at hkn
     have ht2:wo.cell? ⟨w8.heap.size,k,none⟩=some (.string t):=(hg.cell k).trans ht
     have HM:=Lib.hid (may_any wo sb wv ws s' hf.st.ps t)
     clear hf hg ht
     by_cases ho:o=0
     ·subst ho
      go_wp2_with fail
      refine HM.out.mono ?_
      clear HM
      rintro e wb ⟨b,s2,rfl,hst,hff,htt⟩
      have hf2:=HF.out.call hst (by omega) (by omega)
      have hg2:=HG.out.only hst.only (by omega)
      have HF2:=Lib.hid hf2
      have HG2:=Lib.hid hg2
      have hsz2:=hst.only.size
      obtain ⟨d0,d1,d2,d3,d4,d5⟩:=six_cells hf2.ke
      have hfE:∀ i,wb.frozen? ⟨wg.heap.size,i,none⟩=false:=hf2.ke.frozen
      have hlE:=hf2.ke.lt
      cases b with
      | true =>
       obtain ⟨wT,hwT⟩:∃ w',wb.setCell ⟨wg.heap.size,0,none⟩ (.int .i64 (21+(k:Int)))=w':=⟨_,rfl⟩
       have hkT:=hwT▸hf2.ke.set 0 (.int .i64 (21+(k:Int)))
       have hoT:Only (fun q=>q=wg.heap.size) wb wT:=hwT▸(Only.refl (fun q=>q=wg.heap.size) wb).setCell (fun _=>rfl) _
       simp only [List.set_cons_zero] at hkT
       have HF3:=Lib.hid (hf2.set HP.out hoT (by omega) (by omega) hkT (by omega) (by omega))
       have HG3:=Lib.hid (hg2.only hoT (by omega))
       have hszT:=hoT.size
       clear hst hff htt hf2 hg2 hkT hoT
       go_wp2
       go_roundw
       case rel=>exact ⟨k+1,_,_,by go_num,by omega,by omega,HF3.out,HG3.out⟩
       case measure=>(simp [intOf])<;>omega
      | false =>
       clear hst hff htt hf2 hg2
       go_wp2
       go_roundw
       case rel=>exact ⟨k+1,_,_,by go_num,by omega,by omega,HF2.out,HG2.out⟩
       case measure=>(simp [intOf])<;>omega
     ·have hob:(o == 0)=false:=by simp [ho]
      go_wp2
      go_roundw
      case rel=>exact ⟨k+1,_,_,by go_num,by omega,by omega,HF.out,HG.out⟩
      case measure=>(simp [intOf])<;>omega
    ·skip
     clear hf hg HG hlg2
     have HC:=Lib.hid (take_anyP wo sb wv ws s' HF.out.st.ps ⟨#[40]⟩)
     go_wp2_with fail
     refine HC.out.mono ?_
     clear HC
     rintro e wa ⟨sa,rfl,hst,hmt⟩
     replace HF:=Lib.hid (HF.out.call hst (by omega) (by omega))
     have hszwa:=hst.only.size
     have hmzwa:=hmt
     have HOwa:=Lib.hid hst.only
     clear hst hmt
     clear d0 d1 d2 d3 d4 d5 hfE hlE
     have HC:=Lib.hid (enter_any wa sb wv ws _ HF.out.st.ps)
     go_wp2_with fail
     refine HC.out.mono ?_
     clear HC
     rintro e wb ⟨sb2,rfl,hst⟩
     replace HF:=Lib.hid (HF.out.call hst (by omega) (by omega))
     have hszwb:=hst.only.size
     have hmzwb:=hst.mz
     clear hst
     have HC:=Lib.hid (name_anyP wb sb wv ws sb2 HF.out.st.ps)
     go_wp2_with fail
     refine HC.out.mono ?_
     clear HC
     rintro e wc2 ⟨nm,sc,rfl,hn,hst⟩
     have hf2:=HF.out.call hst (by omega) (by omega)
     have hszwc2:=hst.only.size
     have hmzwc2:=hst.mz
     have HNnm:=Lib.hid hn
     obtain ⟨d0,d1,d2,d3,d4,d5⟩:=six_cells hf2.ke
     have hfE:∀ i,wc2.frozen? ⟨wg.heap.size,i,none⟩=false:=hf2.ke.frozen
     have hlE:=hf2.ke.lt
     obtain ⟨wn1,hwT⟩:∃ w',wc2.setCell ⟨wg.heap.size,3,none⟩ (.string nm)=w':=⟨_,rfl⟩
     have hkT:=hwT▸hf2.ke.set 3 (.string nm)
     have hoT:Only (fun q=>q=wg.heap.size) wc2 wn1:=hwT▸(Only.refl (fun q=>q=wg.heap.size) wc2).setCell (fun _=>rfl) _
     simp only [List.set_cons_zero,List.set_cons_succ] at hkT
     replace HF:=Lib.hid (hf2.set HP.out hoT (by omega) (by omega) hkT hf2.o0 hf2.o24)
     have hszTwc2:=hoT.size
     clear hn hst hf2 hkT hoT
     go_upto_region 38 with fail
     clear hwT d0 d1 d2 d3 d4 d5 hfE hlE
     have HC:=Lib.hid (take_anyP wn1 sb wv ws sc HF.out.st.ps ⟨#[105,110]⟩)
     go_wp2_with fail
     refine HC.out.mono ?_
     clear HC
     rintro e wd ⟨sd,rfl,hst,hmt⟩
     replace HF:=Lib.hid (HF.out.call hst (by omega) (by omega))
     have hszwd:=hst.only.size
     have hmzwd:=hmt
     have HOwd:=Lib.hid hst.only
     clear hst hmt
     have HC:=Lib.hid (name_anyP wd sb wv ws sd HF.out.st.ps)
     go_wp2_with fail
     refine HC.out.mono ?_
     clear HC
     rintro e we2 ⟨src,se,rfl,hn,hst⟩
     have hf2:=HF.out.call hst (by omega) (by omega)
     have hszwe2:=hst.only.size
     have hmzwe2:=hst.mz
     have HNsrc:=Lib.hid hn
     obtain ⟨d0,d1,d2,d3,d4,d5⟩:=six_cells hf2.ke
     have hfE:∀ i,we2.frozen? ⟨wg.heap.size,i,none⟩=false:=hf2.ke.frozen
     have hlE:=hf2.ke.lt
     obtain ⟨wn2,hwT⟩:∃ w',we2.setCell ⟨wg.heap.size,4,none⟩ (.string src)=w':=⟨_,rfl⟩
     have hkT:=hwT▸hf2.ke.set 4 (.string src)
     have hoT:Only (fun q=>q=wg.heap.size) we2 wn2:=hwT▸(Only.refl (fun q=>q=wg.heap.size) we2).setCell (fun _=>rfl) _
     simp only [List.set_cons_zero,List.set_cons_succ] at hkT
     replace HF:=Lib.hid (hf2.set HP.out hoT (by omega) (by omega) hkT hf2.o0 hf2.o24)
     have hszTwe2:=hoT.size
     clear hn hst hf2 hkT hoT
     go_upto_region 40 with fail
     clear hwT d0 d1 d2 d3 d4 d5 hfE hlE
     have HC:=Lib.hid (where_any wn2 sb wv ws se HF.out.st.ps fun W s'' hp hlt'=>(HPar.out W s'' hp).2.2 1 (by simp only [show (1:Int)≤2 by decide,if_true];omega))
     go_wp2_with fail
     refine HC.out.mono ?_
     clear HC
     rintro e wf ⟨o1,n1,sx,nx,cx,p1,k1,c1,x,sf,rfl,hh,hv,hst,hx,hok⟩
     have hf2:=HF.out.call hst (by omega) (by omega)
     have hszf:=hst.only.size
     have hmzf:=hst.mz
     obtain ⟨wh,hwh⟩:∃ w',wf.alloc (.cells #[.int .i64 o1,.int .i64 n1,.string sx,.string nx,.string cx,.slice p1 k1 c1] 27)=w':=⟨_,rfl⟩
     have hbh:Below wf.heap.size wf wh:=hwh▸(Below.refl _ _).alloc (Nat.le_refl _) _
     have hszh:=hbh.size
     have hown:Own wh 27 6 (.slice (some ⟨wf.heap.size,0,none⟩) 1 1) 1 [.int .i64 o1,.int .i64 n1,.string sx,.string nx,.string cx,.slice p1 k1 c1]:=hwh▸Own.made wf 27 6 [.int .i64 o1,.int .i64 n1,.string sx,.string nx,.string cx,.slice p1 k1 c1] [] 1 1 rfl ones_six (Nat.le_refl _) (by decide) (Nat.le_refl 6)
     have hszh2:wf.heap.size < wh.heap.size:=hown.lt _ rfl
     have hfh:=hf2.below hbh
     have hxh:=EX.at_below hbh x (EX.at_cap hx)
     obtain ⟨d0,d1,d2,d3,d4,d5⟩:=six_cells hfh.ke
     have hfE:∀ i,wh.frozen? ⟨wg.heap.size,i,none⟩=false:=hfh.ke.frozen
     have hlE:=hfh.ke.lt
     obtain ⟨wi,hwi⟩:∃ w',wh.setCell ⟨wg.heap.size,5,none⟩ (.slice (some ⟨wf.heap.size,0,none⟩) 1 1)=w':=⟨_,rfl⟩
     have hkT:=hwi▸hfh.ke.set 5 (.slice (some ⟨wf.heap.size,0,none⟩) 1 1)
     have hoT:Only (fun q=>q=wg.heap.size) wh wi:=hwi▸(Only.refl (fun q=>q=wg.heap.size) wh).setCell (fun _=>rfl) _
     simp only [List.set_cons_zero,List.set_cons_succ] at hkT
     have hszi:=hoT.size
     replace HF:=Lib.hid (hfh.set HP.out hoT (by omega) (by omega) hkT hfh.o0 hfh.o24)
     have HX:=Lib.hid (EX.at_only hoT (fun q hq e=>by omega) x hxh)
     have HO:=Lib.hid (hown.only hoT (fun q hq e=>by have e2:wf.heap.size=q:=Option.some.inj hq;omega))
     have HH:=Lib.hid hh
     have HV:=Lib.hid hv
     have HOK:=Lib.hid hok
     clear hh hv hst hx hok hf2 hbh hown hfh hxh hkT hoT
     go_upto_region 41 with fail
     clear hwh hwi d0 d1 d2 d3 d4 d5 hfE hlE
     by_cases h21:21 < o
     ·skip
      obtain ⟨d0,d1,d2,d3,d4,d5⟩:=six_cells HF.out.ke
      have hlE:=HF.out.ke.lt
      go_upto_region 42 with fail
      clear d0 d1 d2 d3 d4 d5 hlE
      have HC:=Lib.hid (take_anyP wi sb wv ws sf HF.out.st.ps ⟨#[58]⟩)
      go_wp2_with fail
      refine HC.out.mono ?_
      clear HC
      rintro e wk ⟨sk,rfl,hst,hmt⟩
      replace HF:=Lib.hid (HF.out.call hst (by omega) (by omega))
      have hszwk:=hst.only.size
      have hmzwk:=hmt
      have HOwk:=Lib.hid hst.only
      clear hst hmt
      have HX:=Lib.hid (EX.at_only HOwk.out (fun q hq e=>by omega) x HX.out)
      have HO:=Lib.hid (HO.out.only HOwk.out (fun q hq e=>by have e2:wf.heap.size=q:=Option.some.inj hq;omega))
      obtain ⟨d0,d1,d2,d3,d4,d5⟩:=six_cells HF.out.ke
      have hlE:=HF.out.ke.lt
      have HC:=Lib.hid ((HPar.out wk.drew sk HF.out.st.drew.ps).2.2 1 (by simp only [show (1:Int)≤2 by decide,if_true];omega))
      go_upto_region 43 with fail
      refine wp_region_lit_plan [] [(0,0),(2,0),(1,2),(3,3),(4,3),(5,4),(6,0),(7,4)] ((fun q=>q=wg.heap.size)) (by kernel_rfl) (by kernel_rfl) (fun c a d v w h=>by cases d<;>exact h) ?_
      go_wp2_with (first|(refine stp ?_))
      refine HC.out.mono ?_
      clear HC
      rintro e wl ⟨o2,n2,sy,ny,cy,p2,k2,c2,y,sl,rfl,hh2,hv2,hst,hy,hok2⟩
      have hszd:wk.drew.heap.size=wk.heap.size:=rfl
      have hwfk:wf.heap.size < wk.drew.heap.size:=by omega
      have hszl:=hst.only.size
      have hag:Agree (fun q=>q=wg.heap.size) wk.drew wl:=fun b o hb=>by subst hb;exact hst.only.cell (p:=⟨_,o,none⟩) hlE (show ¬ wg.heap.size=sb by omega)
      have hfl:=(HF.out.below (Below.refl _ _).drew).call hst (by omega) (by omega)
      have hxl:=EX.at_only hst.only (fun q hq e=>by omega) x (EX.at_below (Below.refl _ _).drew x HX.out)
      have hol:=(HO.out.drew).only hst.only (fun q hq e=>by have e2:wf.heap.size=q:=Option.some.inj hq;omega)
      obtain ⟨wm,hwm⟩:∃ w',wl.alloc (.cells #[.int .i64 o2,.int .i64 n2,.string sy,.string ny,.string cy,.slice p2 k2 c2] 27)=w':=⟨_,rfl⟩
      have hbm:Below wl.heap.size wl wm:=hwm▸(Below.refl _ _).alloc (Nat.le_refl _) _
      have hszm:=hbm.size
      have hom:Own wm 27 6 (.slice (some ⟨wl.heap.size,0,none⟩) 1 1) 1 [.int .i64 o2,.int .i64 n2,.string sy,.string ny,.string cy,.slice p2 k2 c2]:=hwm▸Own.made wl 27 6 [.int .i64 o2,.int .i64 n2,.string sy,.string ny,.string cy,.slice p2 k2 c2] [] 1 1 rfl ones_six (Nat.le_refl _) (by decide) (Nat.le_refl 6)
      have hsm:=hom.sl (B:=fun q=>q=wl.heap.size) (fun q hq=>(Option.some.inj hq).symm)
      have hown:=hol.below hbm
      have hag2:Agree (fun q=>q=wg.heap.size) wl wm:=fun b o hb=>by subst hb;exact hbm.cell (p:=⟨_,o,none⟩) hfl.ke.lt
      have HFM:=Lib.hid (hfl.below hbm)
      have HXM:=Lib.hid (EX.at_below hbm x hxl)
      have HYM:=Lib.hid (EX.at_below hbm y hy)
      have HOK2:=Lib.hid hok2
      have HH2:=Lib.hid hh2
      have HV2:=Lib.hid hv2
      clear hst hfl hxl hol hbm hom hh2 hv2 hy hok2
      have hbw:wk.drew.heap.size≤wm.heap.size:=Nat.le_trans hszl hszm
      go_wp2_with (first|(refine stp ?_)|(at_builtin;refine wpList_app rfl _ _ rfl elemEx (by rfl) hown (by rfl) hsm (by decide) (by decide) ?_;intro v1 wA g1 g2 g3 g4 g5;refine Stp.go ?_))
      refine ⟨?_⟩
      obtain ⟨gA,oA,cA,wB,rfl,hwB,hkA,hfA⟩:=fold_app HFM.out HP.out g1 g2 g3 rfl HXM.out HYM.out hwfk hbw (Nat.le_refl _) (by omega) (by omega) (by omega)
      obtain ⟨b0,b1,b2,b3,b4,b5⟩:=six_cells hkA
      have hfrA:∀ i,wA.frozen? ⟨wg.heap.size,i,none⟩=false:=hkA.frozen
      have hlA:=hkA.lt
      have HFA:=Lib.hid hfA
      clear hwm hown hsm g1 g2 g3 g4 g5 hag hag2 d0 d1 d2 d3 d4 d5 hkA hfA
      go_wp2_with fail
      refine plan_pure (v:=_) (by rfl) (by rfl) (by rfl) (by intro _;go_simp;with_reducible rfl) ?_
      simp only [List.setIfInBounds_toArray,List.set_cons_zero,List.set_cons_succ]
      try go_bits
      refine plan_any (by rfl) ?_
      go_wp2_with fail
      refine plan_nil ?_
      go_upto_region 44 with fail
      clear hwB b0 b1 b2 b3 b4 b5 hfrA hlA
      have hszB:=HFA.out.sz
      have HFF:=Lib.hid HFA.out.fs
      clear HF
      have HF:=HFF
      have HC:=Lib.hid (take_anyP wB sb wv ws sl HF.out.st.ps ⟨#[41]⟩)
      go_wp2_with fail
      refine HC.out.mono ?_
      clear HC
      rintro e wj ⟨sj,rfl,hst,hmt⟩
      replace HF:=Lib.hid (HF.out.call hst (by omega) (by omega))
      have hszwj:=hst.only.size
      have hmzwj:=hmt
      have HOwj:=Lib.hid hst.only
      clear hst hmt
      have hxj:=EX.at_only HOwj.out (fun q hq e=>by omega) x HFA.out.xa
      have hyj:=EX.at_only HOwj.out (fun q hq e=>by omega) y HFA.out.ya
      have hoj:=HFA.out.own.only HOwj.out (fun q hq e=>by have:=HFA.out.blk q hq;omega)
      have c2:wj.cell? ⟨sb,2,none⟩=some (.int .i64 _):=HF.out.st.ps.blk.cell 2
      have hfzs:∀ i,wj.frozen? ⟨sb,i,none⟩=false:=HF.out.st.ps.blk.frozen
      have hlS:=HF.out.st.ps.blk.lt
      obtain ⟨o9,ho9⟩:∃ o9,IntKind.i64.wrap (sj.op - 1)=o9:=⟨_,rfl⟩
      obtain ⟨wd2,hwD⟩:∃ w',wj.setCell ⟨sb,2,none⟩ (.int .i64 o9)=w':=⟨_,rfl⟩
      have hoD:Only (fun q=>q=sb) wj wd2:=hwD▸(Only.refl (fun q=>q=sb) wj).setCell (fun _=>rfl) _
      have hsD:=(StepP.refl HF.out.st.ps).opens o9
      rw [hwD] at hsD
      have hfD:=HF.out.call hsD (by omega) (by omega)
      obtain ⟨d0,d1,d2,d3,d4,d5⟩:=six_cells hfD.ke
      obtain ⟨g0,g1,g2,g3,g4,g5⟩:=six_cells hfD.kr
      have hfr:∀ i,wd2.frozen? ⟨w.heap.size,i,none⟩=false:=hfD.kr.frozen
      have hlr:=hfD.kr.lt
      have hlE:=hfD.ke.lt
      have HFD:=Lib.hid hfD
      clear hsD hfD
      have HO2:=Lib.hid (hoj.only hoD (fun q hq e=>by have:=HFA.out.blk q hq;omega))
      have HX2:=Lib.hid (EX.at_only hoD (fun q hq e=>by omega) x hxj)
      have HY2:=Lib.hid (EX.at_only hoD (fun q hq e=>by omega) y hyj)
      have hszD:=hoD.size
      clear hxj hyj hoj hoD
      go_wp2
      obtain ⟨hkE,hoE⟩:=set_sixE HFD.out.kr (.int .i64 o) (.int .i64 0) (.string ⟨#[]⟩) (.string nm) (.string src) (.slice (some ⟨gA,oA,none⟩) 2 cA)
      generalize ((((((wd2.setCell ⟨w.heap.size,0,none⟩ (.int .i64 o)).setCell ⟨w.heap.size,1,none⟩ (.int .i64 0)).setCell ⟨w.heap.size,2,none⟩ (.string ⟨#[]⟩)).setCell ⟨w.heap.size,3,none⟩ (.string nm)).setCell ⟨w.heap.size,4,none⟩ (.string src)).setCell ⟨w.heap.size,5,none⟩ (.slice (some ⟨gA,oA,none⟩) 2 cA))=wE at *
      obtain ⟨m0,m1,m2,m3,m4,m5⟩:=six_cells hkE
      exact bodyPost_ret (v:=.agg #[.int .i64 o,.int .i64 0,.string ⟨#[]⟩,.string nm,.string src,.slice (some ⟨gA,oA,none⟩) 2 cA]) (by simp [results,Tryz.results36,go_sem,m0,m1,m2,m3,m4,m5]) rfl (⟨o,0,⟨#[]⟩,nm,src,some ⟨gA,oA,none⟩,2,cA,.two ⟨o,0,⟨#[]⟩,nm,src⟩ (.slice (some ⟨gA,oA,none⟩) 2 cA) x y,_,rfl,rfl,rfl,HFD.out.st.box HP.out hoE (Nat.le_refl _),EX.two_own (EX.at_reg (fun q hq=>by omega) (EX.at_only hoE (fun q hq e=>by omega) x HX2.out)) (EX.at_reg (fun q hq=>by omega) (EX.at_only hoE (fun q hq e=>by omega) y HY2.out)) (HO2.out.only hoE (fun q hq e=>by have:=HFA.out.blk q hq;omega)) (fun q hq=>by have:=HFA.out.blk q hq;omega) HH.out HV.out HH2.out HV2.out _,⟨⟨by have:=HFD.out.o0;have:=HFD.out.o24;unfold fit64;simp only;omega,by unfold fit64;simp only;omega,Nat.zero_le _,HNnm.out,HNsrc.out⟩,HOK.out,HOK2.out⟩⟩)
     ·skip
      obtain ⟨d0,d1,d2,d3,d4,d5⟩:=six_cells HF.out.ke
      have hlE:=HF.out.ke.lt
      go_upto_region 44 with fail
      clear d0 d1 d2 d3 d4 d5 hlE
      have HC:=Lib.hid (take_anyP wi sb wv ws sf HF.out.st.ps ⟨#[41]⟩)
      go_wp2_with fail
      refine HC.out.mono ?_
      clear HC
      rintro e wj ⟨sj,rfl,hst,hmt⟩
      replace HF:=Lib.hid (HF.out.call hst (by omega) (by omega))
      have hszwj:=hst.only.size
      have hmzwj:=hmt
      have HOwj:=Lib.hid hst.only
      clear hst hmt
      have hxj:=EX.at_only HOwj.out (fun q hq e=>by omega) x HX.out
      have hoj:=HO.out.only HOwj.out (fun q hq e=>by have e2:wf.heap.size=q:=Option.some.inj hq;omega)
      have c2:wj.cell? ⟨sb,2,none⟩=some (.int .i64 _):=HF.out.st.ps.blk.cell 2
      have hfzs:∀ i,wj.frozen? ⟨sb,i,none⟩=false:=HF.out.st.ps.blk.frozen
      have hlS:=HF.out.st.ps.blk.lt
      obtain ⟨o9,ho9⟩:∃ o9,IntKind.i64.wrap (sj.op - 1)=o9:=⟨_,rfl⟩
      obtain ⟨wd2,hwD⟩:∃ w',wj.setCell ⟨sb,2,none⟩ (.int .i64 o9)=w':=⟨_,rfl⟩
      have hoD:Only (fun q=>q=sb) wj wd2:=hwD▸(Only.refl (fun q=>q=sb) wj).setCell (fun _=>rfl) _
      have hsD:=(StepP.refl HF.out.st.ps).opens o9
      rw [hwD] at hsD
      have hfD:=HF.out.call hsD (by omega) (by omega)
      obtain ⟨d0,d1,d2,d3,d4,d5⟩:=six_cells hfD.ke
      obtain ⟨g0,g1,g2,g3,g4,g5⟩:=six_cells hfD.kr
      have hfr:∀ i,wd2.frozen? ⟨w.heap.size,i,none⟩=false:=hfD.kr.frozen
      have hlr:=hfD.kr.lt
      have hlE:=hfD.ke.lt
      have HFD:=Lib.hid hfD
      clear hsD hfD
      have HO2:=Lib.hid (hoj.only hoD (fun q hq e=>by have e2:wf.heap.size=q:=Option.some.inj hq;omega))
      have HX2:=Lib.hid (EX.at_only hoD (fun q hq e=>by omega) x hxj)
      have hszD:=hoD.size
      clear hxj hoj hoD
      go_wp2
      obtain ⟨hkE,hoE⟩:=set_sixE HFD.out.kr (.int .i64 o) (.int .i64 0) (.string ⟨#[]⟩) (.string nm) (.string src) (.slice (some ⟨wf.heap.size,0,none⟩) 1 1)
      generalize ((((((wd2.setCell ⟨w.heap.size,0,none⟩ (.int .i64 o)).setCell ⟨w.heap.size,1,none⟩ (.int .i64 0)).setCell ⟨w.heap.size,2,none⟩ (.string ⟨#[]⟩)).setCell ⟨w.heap.size,3,none⟩ (.string nm)).setCell ⟨w.heap.size,4,none⟩ (.string src)).setCell ⟨w.heap.size,5,none⟩ (.slice (some ⟨wf.heap.size,0,none⟩) 1 1))=wE at *
      obtain ⟨m0,m1,m2,m3,m4,m5⟩:=six_cells hkE
      exact bodyPost_ret (v:=.agg #[.int .i64 o,.int .i64 0,.string ⟨#[]⟩,.string nm,.string src,.slice (some ⟨wf.heap.size,0,none⟩) 1 1]) (by simp [results,Tryz.results36,go_sem,m0,m1,m2,m3,m4,m5]) rfl (⟨o,0,⟨#[]⟩,nm,src,some ⟨wf.heap.size,0,none⟩,1,1,.one ⟨o,0,⟨#[]⟩,nm,src⟩ (.slice (some ⟨wf.heap.size,0,none⟩) 1 1) x,_,rfl,rfl,rfl,HFD.out.st.box HP.out hoE (Nat.le_refl _),EX.one_own (EX.at_reg (fun q hq=>by omega) (EX.at_only hoE (fun q hq e=>by omega) x HX2.out)) (HO2.out.only hoE (fun q hq e=>by have e2:wf.heap.size=q:=Option.some.inj hq;omega)) (fun q hq=>by have e2:wf.heap.size=q:=Option.some.inj hq;omega) HH.out HV.out _,⟨⟨by have:=HFD.out.o0;have:=HFD.out.o24;unfold fit64;simp only;omega,by unfold fit64;simp only;omega,Nat.zero_le _,HNnm.out,HNsrc.out⟩,HOK.out⟩⟩)
  | false =>
   have HC:=Lib.hid (name_anyP w8 sb wv ws s HS.out.ps)
   go_wp2_with fail
   refine HC.out.mono ?_
   clear HC
   rintro e w9 ⟨nm,s4,rfl,hn,hst⟩
   have HN:=Lib.hid hn
   have hs4:=HS.out.trans hst
   have hk4:=HK.out.only hst.only (by omega)
   have hsz9:=hst.only.size
   obtain ⟨wB,hwwB⟩:∃ w',w9.alloc (.cells #[.int .i64 0,.int .i64 0,.string ⟨#[]⟩,.string ⟨#[]⟩,.string ⟨#[]⟩,.slice none 0 0] 27)=w':=⟨_,rfl⟩
   have hbwB:Below w9.heap.size w9 wB:=hwwB▸(Below.refl _ _).alloc (Nat.le_refl _) _
   have hkwB:Blk wB w9.heap.size 27 [.int .i64 0,.int .i64 0,.string ⟨#[]⟩,.string ⟨#[]⟩,.string ⟨#[]⟩,.slice none 0 0]:=hwwB▸Blk.new w9 _ _
   have hl5:=hkwB.lt
   obtain ⟨d0,d1,d2,d3,d4,d5⟩:=six_cells hkwB
   have hfz5:∀ i,wB.frozen? ⟨w9.heap.size,i,none⟩=false:=hkwB.frozen
   obtain ⟨hkS,hoS⟩:=set_sixE hkwB (.int .i64 4) (.int .i64 0) (.string ⟨#[]⟩) (.string nm) (.string ⟨#[]⟩) (.slice none 0 0)
   obtain ⟨wS,hwS⟩:∃ w',((((((wB.setCell ⟨w9.heap.size,0,none⟩ (.int .i64 4)).setCell ⟨w9.heap.size,1,none⟩ (.int .i64 0)).setCell ⟨w9.heap.size,2,none⟩ (.string ⟨#[]⟩)).setCell ⟨w9.heap.size,3,none⟩ (.string nm)).setCell ⟨w9.heap.size,4,none⟩ (.string ⟨#[]⟩)).setCell ⟨w9.heap.size,5,none⟩ (.slice none 0 0))=w':=⟨_,rfl⟩
   rw [hwS] at hkS hoS
   have hszB:=hbwB.size
   have HFS:=Lib.hid (show FoldS w wS sb wv ws s w.heap.size w9.heap.size 4 nm ⟨#[]⟩ (.slice none 0 0) s4 from ⟨(hs4.on hbwB).box HP.out hoS (by omega),(hk4.below hbwB).only hoS (by omega),hkS,by decide,by decide⟩)
   have hszS:=hoS.size
   have HM:=Lib.hid (may_any wS sb wv ws s4 HFS.out.st.ps ⟨#[46]⟩)
   clear hn hst hs4 hk4 hbwB hkwB hkS hoS HS HK
   go_wp2_with fail
   clear hwwB hwS d0 d1 d2 d3 d4 d5 hfz5
   refine HM.out.mono ?_
   clear HM
   rintro e wM ⟨b,s5,rfl,hst,hf,ht⟩
   have hfM:=HFS.out.call hst (by omega) (by omega)
   have HFM:=Lib.hid hfM
   have hszM:=hst.only.size
   obtain ⟨d0,d1,d2,d3,d4,d5⟩:=six_cells hfM.ke
   obtain ⟨g0,g1,g2,g3,g4,g5⟩:=six_cells hfM.kr
   have hfr:∀ i,wM.frozen? ⟨w.heap.size,i,none⟩=false:=hfM.kr.frozen
   have hfe:∀ i,wM.frozen? ⟨w9.heap.size,i,none⟩=false:=hfM.ke.frozen
   have hlr:=hfM.kr.lt
   have hle:=hfM.ke.lt
   clear hst hf ht hfM HFS
   cases b with
   | false =>
    go_wp2
    obtain ⟨hkE,hoE⟩:=set_sixE HFM.out.kr (.int .i64 4) (.int .i64 0) (.string ⟨#[]⟩) (.string nm) (.string ⟨#[]⟩) (.slice none 0 0)
    generalize ((((((wM.setCell ⟨w.heap.size,0,none⟩ (.int .i64 4)).setCell ⟨w.heap.size,1,none⟩ (.int .i64 0)).setCell ⟨w.heap.size,2,none⟩ (.string ⟨#[]⟩)).setCell ⟨w.heap.size,3,none⟩ (.string nm)).setCell ⟨w.heap.size,4,none⟩ (.string ⟨#[]⟩)).setCell ⟨w.heap.size,5,none⟩ (.slice none 0 0))=wE at *
    obtain ⟨m0,m1,m2,m3,m4,m5⟩:=six_cells hkE
    exact bodyPost_ret (v:=.agg #[.int .i64 4,.int .i64 0,.string ⟨#[]⟩,.string nm,.string ⟨#[]⟩,.slice none 0 0]) (by simp [results,Tryz.results36,go_sem,m0,m1,m2,m3,m4,m5]) rfl (⟨4,0,⟨#[]⟩,nm,⟨#[]⟩,none,0,0,.leaf ⟨4,0,⟨#[]⟩,nm,⟨#[]⟩⟩,_,rfl,rfl,rfl,HFM.out.st.box HP.out hoE (Nat.le_refl _),trivial,⟨by unfold fit64;simp only;omega,by unfold fit64;simp only;omega,Nat.zero_le _,HN.out,Nat.zero_le _⟩⟩)
   | true =>
    obtain ⟨wT,hwT⟩:∃ w',wM.setCell ⟨w9.heap.size,0,none⟩ (.int .i64 5)=w':=⟨_,rfl⟩
    have hkT:=hwT▸HFM.out.ke.set 0 (.int .i64 5)
    have hoT:Only (fun q=>q=w9.heap.size) wM wT:=hwT▸(Only.refl (fun q=>q=w9.heap.size) wM).setCell (fun _=>rfl) _
    simp only [List.set_cons_zero] at hkT
    have hfT:=HFM.out.set HP.out hoT (by omega) (by omega) hkT (by decide:(0:Int)≤5) (by decide)
    have HFT:=Lib.hid hfT
    have hszT:=hoT.size
    have HC:=Lib.hid (name_anyP wT sb wv ws _ hfT.st.ps)
    clear hkT hoT hfT HFM
    go_wp2_with fail
    clear hwT d0 d1 d2 d3 d4 d5 g0 g1 g2 g3 g4 g5 hfr hfe hlr hle
    refine HC.out.mono ?_
    clear HC
    rintro e wU ⟨nm2,s6,rfl,hn,hst⟩
    have HN2:=Lib.hid hn
    have hfU:=HFT.out.call hst (by omega) (by omega)
    have hszU:=hst.only.size
    obtain ⟨d0,d1,d2,d3,d4,d5⟩:=six_cells hfU.ke
    have hfe:∀ i,wU.frozen? ⟨w9.heap.size,i,none⟩=false:=hfU.ke.frozen
    have hle:=hfU.ke.lt
    obtain ⟨wV,hwV⟩:∃ w',wU.setCell ⟨w9.heap.size,2,none⟩ (.string nm2)=w':=⟨_,rfl⟩
    have hkV:=hwV▸hfU.ke.set 2 (.string nm2)
    have hoV:Only (fun q=>q=w9.heap.size) wU wV:=hwV▸(Only.refl (fun q=>q=w9.heap.size) wU).setCell (fun _=>rfl) _
    simp only [List.set_cons_zero,List.set_cons_succ] at hkV
    have hsV:=hfU.st.box HP.out hoV (by omega)
    have hkr:=hfU.kr.only hoV (by omega)
    have HSV:=Lib.hid hsV
    have HKR:=Lib.hid hkr
    obtain ⟨f0,f1,f2,f3,f4,f5⟩:=six_cells hkV
    obtain ⟨g0,g1,g2,g3,g4,g5⟩:=six_cells hkr
    have hfr:∀ i,wV.frozen? ⟨w.heap.size,i,none⟩=false:=hkr.frozen
    have hlr:=hkr.lt
    have hlv:=hkV.lt
    clear hn hst hfU hkV hoV hsV hkr HFT
    go_wp2
    obtain ⟨hkE,hoE⟩:=set_sixE HKR.out (.int .i64 5) (.int .i64 0) (.string nm2) (.string nm) (.string ⟨#[]⟩) (.slice none 0 0)
    generalize ((((((wV.setCell ⟨w.heap.size,0,none⟩ (.int .i64 5)).setCell ⟨w.heap.size,1,none⟩ (.int .i64 0)).setCell ⟨w.heap.size,2,none⟩ (.string nm2)).setCell ⟨w.heap.size,3,none⟩ (.string nm)).setCell ⟨w.heap.size,4,none⟩ (.string ⟨#[]⟩)).setCell ⟨w.heap.size,5,none⟩ (.slice none 0 0))=wE at *
    obtain ⟨m0,m1,m2,m3,m4,m5⟩:=six_cells hkE
    exact bodyPost_ret (v:=.agg #[.int .i64 5,.int .i64 0,.string nm2,.string nm,.string ⟨#[]⟩,.slice none 0 0]) (by simp [results,Tryz.results36,go_sem,m0,m1,m2,m3,m4,m5]) rfl (⟨5,0,nm2,nm,⟨#[]⟩,none,0,0,.leaf ⟨5,0,nm2,nm,⟨#[]⟩⟩,_,rfl,rfl,rfl,HSV.out.box HP.out hoE (Nat.le_refl _),trivial,⟨by unfold fit64;simp only;omega,by unfold fit64;simp only;omega,HN2.out,HN.out,Nat.zero_le _⟩⟩)
def EX.kids:EX→List EX
 | .leaf _=>[]
 | .one _ _ a=>[a]
 | .two _ _ a b=>[a,b]
def exC (l:List EX):List Value:=(l.map EX.cells).flatten
theorem EX.rec_kids {P:EX→Prop} (h:∀ x,(∀ y∈x.kids,P y)→P x):∀ x,P x
 | .leaf hd=>h _ (fun y hy=>by cases hy)
 | .one hd v a=>h _ (fun y hy=>by rw [List.mem_singleton.1 hy];exact EX.rec_kids h a)
 | .two hd v a b=>h _ (fun y hy=>by
  have h1:=EX.rec_kids h a
  have h2:=EX.rec_kids h b
  have h3:y=a∨y=b:=by simpa [EX.kids] using hy
  rcases h3 with rfl|rfl<;>assumption)
theorem EX.at_kids {w:World} {B:Nat→Prop}:∀ {x:EX},x.at w B→Sl w B 6 x.av x.kids.length (exC x.kids)∧∀ y∈x.kids,y.at w B
 | .leaf _,_=>⟨⟨rfl,Ones.nil,.inl ⟨none,0,rfl,rfl,Nat.zero_le _,fun _=>rfl⟩⟩,fun y hy=>by cases hy⟩
 | .one _ _ a,h=>⟨by have h1:=h.1;rw [←List.append_nil a.cells] at h1;exact h1,fun y hy=>by rw [List.mem_singleton.1 hy];exact h.2⟩
 | .two _ _ a b,h=>⟨by have h1:=h.1;rw [←List.append_nil b.cells] at h1;exact h1,fun y hy=>by
  have h3:y=a∨y=b:=by simpa [EX.kids] using hy
  rcases h3 with rfl|rfl
  ·exact h.2.1
  ·exact h.2.2⟩
theorem EX.ok_hd:∀ {x:EX},x.ok→x.hd.ok
 | .leaf _,h=>h
 | .one _ _ _,h=>h.1
 | .two _ _ _ _,h=>h.1
theorem EX.ok_kids:∀ {x:EX},x.ok→∀ y∈x.kids,y.ok
 | .leaf _,_=>fun y hy=>by cases hy
 | .one _ _ a,h=>fun y hy=>by rw [List.mem_singleton.1 hy];exact h.2
 | .two _ _ a b,h=>fun y hy=>by
  have h3:y=a∨y=b:=by simpa [EX.kids] using hy
  rcases h3 with rfl|rfl
  ·exact h.2.1
  ·exact h.2.2
theorem exC_len (l:List EX):(exC l).length=l.length*6:=by
 induction l with
 | nil=>rfl
 | cons x t ih=>show (x.cells++exC t).length=_;rw [List.length_append,ih,List.length_cons];show 6+_=_;omega
theorem exC_at (l:List EX) (k r:Nat) (hk:k < l.length) (hr:r < 6):(exC l)[k*6+r]?=(l[k].cells)[r]?:=by
 induction l generalizing k with
 | nil=>simp at hk
 | cons x t ih =>
  show (x.cells++exC t)[k*6+r]?=_
  cases k with
  | zero=>rw [Nat.zero_mul,Nat.zero_add,List.getElem?_append_left (show r < 6 from hr)];rfl
  | succ k =>
   rw [List.getElem?_append_right (by show 6≤_;omega),show (k+1)*6+r - x.cells.length=k*6+r by show (k+1)*6+r - 6=_;omega]
   exact ih k (by simpa using hk)
theorem EX.kids_le:∀ x:EX,x.kids.length≤2
 | .leaf _=>Nat.zero_le _
 | .one _ _ _=>Nat.le_succ 1
 | .two _ _ _ _=>Nat.le_refl _
theorem EX.kid {w:World} {B:Nat→Prop} {x:EX} (h:x.at w B) {k:Nat} (hk:k < x.kids.length) :
 ∃ g off cap,x.av=.slice (some ⟨g,off,none⟩) x.kids.length cap∧g < w.heap.size∧B g∧w.cell? ⟨g,off+k*6,none⟩=some (.int .i64 x.kids[k].hd.op)∧w.cell? ⟨g,off+k*6+1,none⟩=some (.int .i64 x.kids[k].hd.n)∧w.cell? ⟨g,off+k*6+2,none⟩=some (.string x.kids[k].hd.s) ∧
  w.cell? ⟨g,off+k*6+3,none⟩=some (.string x.kids[k].hd.name)∧w.cell? ⟨g,off+k*6+4,none⟩=some (.string x.kids[k].hd.src)∧w.cell? ⟨g,off+k*6+5,none⟩=some x.kids[k].av:=by
 obtain ⟨g,off,cap,hv,_,_,hg,hgl,hcs⟩:=(EX.at_kids h).1.place (by omega)
 have h0:∀ r,r < 6→w.cell? ⟨g,off+(k*6+r),none⟩=(x.kids[k].cells)[r]?:=fun r hr=>by rw [hcs _ (by rw [exC_len];omega),exC_at x.kids k r hk hr]
 exact ⟨g,off,cap,hv,hgl,hg,h0 0 (by omega),h0 1 (by omega),h0 2 (by omega),h0 3 (by omega),h0 4 (by omega),h0 5 (by omega)⟩
theorem EX.form_kids {w:World} {B:Nat→Prop} {x:EX} (h:x.at w B):∃ p c,x.av=.slice p x.kids.length c:=by
 obtain ⟨p,c,h1,_⟩:=(EX.at_kids h).1.form
 exact ⟨p,c,h1⟩
def exAgg (hd:Hd) (p:Option Addr) (n c:Nat):Value:=.agg #[.int .i64 hd.op,.int .i64 hd.n,.string hd.s,.string hd.name,.string hd.src,.slice p n c]
theorem par_all (sb:Nat) (wv:Value) (ws:List WdV):∀ n,Par sb wv ws n
 | 0=>fun _ _ _=>⟨fun h=>absurd h (Nat.not_lt_zero _),fun h=>absurd h (Nat.not_lt_zero _),fun _ h=>absurd h (Nat.not_lt_zero _)⟩
 | n+1=>fun W s hp=>⟨fun h=>single_any W sb wv ws s hp (Lib.hid ((par_all sb wv ws n).mono (by omega))),fun h=>not_any W sb wv ws s hp (Lib.hid ((par_all sb wv ws n).mono (by omega))),
  fun l h=>expr_any W sb wv ws s hp l (Lib.hid ((par_all sb wv ws n).mono (by omega)))⟩
def TwoInts (w:World) (e:Ending) (w':World):Prop:=∃ n d:Int,e=.returned (.tuple #[.int .i64 n,.int .i64 d])∧Below w.heap.size w w'
theorem count_any:∀ (x:EX) (w:World) (B:Nat→Prop) (p:Option Addr) (c:Nat),x.at w B→x.av=.slice p x.kids.length c →
 Calls Tryz.prog 19 #[.agg #[.int .i64 x.hd.op,.int .i64 x.hd.n,.string x.hd.s,.string x.hd.name,.string x.hd.src,.slice p x.kids.length c]] w (TwoInts w):=by
 refine EX.rec_kids fun x IH w B p c hx hv=>?_
 obtain ⟨w1,hw1⟩:∃ w1,w.alloc (.cells #[.int .i64 x.hd.op,.int .i64 x.hd.n,.string x.hd.s,.string x.hd.name,.string x.hd.src,.slice p x.kids.length c] 27)=w1:=⟨_,rfl⟩
 have hb1:Below w.heap.size w w1:=hw1▸(Below.refl _ _).alloc (Nat.le_refl _) _
 have hk1:Blk w1 w.heap.size 27 [.int .i64 x.hd.op,.int .i64 x.hd.n,.string x.hd.s,.string x.hd.name,.string x.hd.src,.slice p x.kids.length c]:=hw1▸Blk.new w _ _
 have HB1:=Lib.hid hb1
 have HK1:=Lib.hid hk1
 have HX:=Lib.hid hx
 have HIH:=Lib.hid IH
 have HV:=Lib.hid hv
 have hle:=EX.kids_le x
 clear hb1 hk1 hx IH hv
 go_enter Tryz.func19,Tryz.ntmps19
 go_wp2
 clear hw1
 go_loopw [4,5,6] (fun nv dv iv wr=>∃ (n d:Int) (k:Nat),nv=.int .i64 n∧dv=.int .i64 d∧iv=.int .i64 k∧k≤x.kids.length∧Below w.heap.size w wr∧Blk wr w.heap.size 27 [.int .i64 x.hd.op,.int .i64 x.hd.n,.string x.hd.s,.string x.hd.name,.string x.hd.src,.slice p x.kids.length c]) (fun _ _ iv _=>x.kids.length - (intOf iv).toNat)
 case atStart=>exact ⟨1,1,0,rfl,rfl,rfl,Nat.zero_le _,HB1.out,HK1.out⟩
 case round =>
  obtain ⟨n,d,k,rfl,rfl,rfl,hk,hbr,hkr⟩:=hrel
  obtain ⟨wo,rfl⟩:∃ wo:World,wo=wr:=⟨_,rfl⟩
  have HBR:=Lib.hid hbr
  have HKR:=Lib.hid hkr
  obtain ⟨d0,d1,d2,d3,d4,d5⟩:=six_cells hkr
  have hlE:=hkr.lt
  by_cases hkn:k < x.kids.length
  ·have hxw:=EX.at_below hbr x HX.out
   obtain ⟨g,off,cap,hv,hgl,hg,e0,e1,e2,e3,e4,e5⟩:=EX.kid hxw hkn
   rw [HV.out] at hv
   cases hv
   have hy:=(EX.at_kids hxw).2 _ (List.getElem_mem hkn)
   obtain ⟨p',c',hv'⟩:=EX.form_kids hy
   rw [hv'] at e5
   have HC:=Lib.hid (HIH.out _ (List.getElem_mem hkn) wo B p' c' hy hv')
   generalize x.kids[k]=y at *
   clear hbr hkr hxw hy hv' hg
   go_wp2_with fail
   refine HC.out.mono ?_
   clear HC
   rintro e w3 ⟨m,f,rfl,hb3⟩
   have HBW:=Lib.hid (HBR.out.trans (hb3.mono HBR.out.size))
   have HKW:=Lib.hid (HKR.out.below hb3)
   clear hb3 d0 d1 d2 d3 d4 d5 e0 e1 e2 e3 e4 e5 hgl hlE
   go_wp2
   go_roundw
   case rel=>exact ⟨_,_,k+1,rfl,rfl,by go_num,by omega,HBW.out,HKW.out⟩
   case measure=>(simp [intOf])<;>omega
  ·clear hbr hkr
   go_wp2
   go_ret2
   exact ⟨_,_,rfl,HBR.out⟩
structure RowV where
 v:Value
 l:List AV
def rowVals (rows:List RowV):List Value:=rows.map RowV.v
theorem rowVals_append (a b:List RowV):rowVals (a++b)=rowVals a++rowVals b:=by simp [rowVals]
def RowsAt (w:World) (B:Nat→Prop) (v:Value) (rows:List RowV):Prop :=
 Sl w B 1 v rows.length (rowVals rows)∧∀ r∈rows,Sl w B 3 r.v r.l.length (rowCells r.l)
theorem RowsAt.below {w w':World} {B:Nat→Prop} {v:Value} {rows:List RowV} (h:RowsAt w B v rows) (hb:Below w.heap.size w w'):RowsAt w' B v rows :=
 ⟨h.1.below hb,fun r hr=>(h.2 r hr).below hb⟩
theorem RowsAt.only {w w':World} {S B:Nat→Prop} {v:Value} {rows:List RowV} (h:RowsAt w B v rows) (hb:Only S w w') (hd:∀ k,B k→¬ S k):RowsAt w' B v rows :=
 ⟨h.1.only hb hd,fun r hr=>(h.2 r hr).only hb hd⟩
theorem RowsAt.at {w:World} {B:Nat→Prop} {v:Value} {rows:List RowV} (h:RowsAt w B v rows) {k:Nat} (hk:k < rows.length) :
 ∃ g off cap,v=.slice (some ⟨g,off,none⟩) rows.length cap∧w.cell? ⟨g,off+k,none⟩=some rows[k].v:=by
 obtain ⟨g,off,cap,hv,_,_,_,_,hc⟩:=h.1.place (by omega)
 exact ⟨g,off,cap,hv,by rw [hc k (by simpa [rowVals] using hk)];simp [rowVals,hk]⟩
structure KnM where
 name:ByteArray
 val:AV
 cv:Value
 cols:List ColV
 rv:Value
 rows:List RowV
 is:Int
def KnM.a (k:KnM):KnA:=⟨k.name,k.val,k.cols,k.rows.map RowV.l,k.is⟩
def KnM.cells (k:KnM):List Value:=[.string k.name,.int .i64 k.val.kind,.int .i64 k.val.n,.string k.val.s,k.cv,k.rv,.int .i64 k.is]
def knC (l:List KnM):List Value:=(l.map KnM.cells).flatten
theorem knC_len (l:List KnM):(knC l).length=l.length*7:=by
 induction l with
 | nil=>rfl
 | cons x t ih=>show (x.cells++knC t).length=_;rw [List.length_append,ih,List.length_cons];show 7+_=_;omega
theorem knC_at (l:List KnM) (k r:Nat) (hk:k < l.length) (hr:r < 7):(knC l)[k*7+r]?=(l[k].cells)[r]?:=by
 induction l generalizing k with
 | nil=>simp at hk
 | cons x t ih =>
  show (x.cells++knC t)[k*7+r]?=_
  cases k with
  | zero=>rw [Nat.zero_mul,Nat.zero_add,List.getElem?_append_left (show r < 7 from hr)];rfl
  | succ k =>
   rw [List.getElem?_append_right (by show 7≤_;omega),show (k+1)*7+r - x.cells.length=k*7+r by show (k+1)*7+r - 7=_;omega]
   exact ih k (by simpa using hk)
theorem knC_snoc (l:List KnM) (x:KnM):knC (l++[x])=knC l++x.cells:=by simp [knC]
theorem knC_take (l:List KnM) (x:KnM):(knC (l++[x])).take (l.length*7)=knC l:=by
 rw [knC_snoc,←knC_len,List.take_left']
 rfl
def AV.ok (v:AV):Prop:=fits v.n∧v.s.size≤maxLen
structure KnAt (w:World) (B:Nat→Prop) (k:KnM):Prop where
 cols:Sl w B 2 k.cv k.cols.length (colCells k.cols)
 rows:RowsAt w B k.rv k.rows
 val:k.val.ok
 rok:∀ r∈k.rows,∀ v∈r.l,v.ok
 nms:∀ c∈k.cols,c.name.size≤maxLen
 one:k.is=1→1≤k.rows.length
 rlen:k.rows.length≤1000000
 nm:k.name.size≤maxLen
def offE (eb:Nat) (v:Value):Nat→Prop:=fun q=>q≠eb∧v.ownBlock≠some q
structure EnvAt (w:World) (eb f:Nat) (v:Value) (l:List KnM):Prop where
 blk:Blk w eb 75 [.int .i64 (f:Int),v]
 own:Own w 79 7 v l.length (knC l)
 ne:v.ownBlock≠some eb
 kn:∀ k∈l,KnAt w (offE eb v) k
 fuel:f≤1000000
 lim:l.length≤1000000
structure EnvS (w w':World) (eb:Nat) (v v':Value):Prop where
 only:Only (fun q=>q=eb∨v.ownBlock=some q) w w'
 own:∀ q,v'.ownBlock=some q→v.ownBlock=some q∨w.heap.size≤q
theorem EnvS.refl (w:World) (eb:Nat) (v:Value):EnvS w w eb v v:=⟨Only.refl _ _,fun _ h=>.inl h⟩
theorem EnvS.trans {a b c:World} {eb:Nat} {v v' v'':Value} (h:EnvS a b eb v v') (k:EnvS b c eb v' v''):EnvS a c eb v v'' :=
 ⟨h.only.trans k.only (fun i hi e=>by
  rcases e with e|e
  ·exact .inl e
  ·rcases h.own i e with h1|h1
   ·exact .inr h1
   ·omega),fun q hq=>by
  rcases k.own q hq with h1|h1
  ·exact h.own q h1
  ·exact .inr (Nat.le_trans h.only.size h1)⟩
theorem EnvS.below {a b c:World} {eb:Nat} {v v':Value} (h:EnvS a b eb v v') (k:Below b.heap.size b c):EnvS a c eb v v' :=
 h.trans ⟨Only.of_none k,fun _ hq=>.inl hq⟩
theorem EnvS.of_below {a b:World} {eb:Nat} {v:Value} (k:Below a.heap.size a b):EnvS a b eb v v:=(EnvS.refl a eb v).below k
theorem sl_off {w w':World} {eb sz n:Nat} {v v' x:Value} {cs:List Value} (h:Sl w (offE eb v) sz x n cs) (s:EnvS w w' eb v v'):Sl w' (offE eb v') sz x n cs :=
 h.mono s.only.size (fun k hk hl=>s.only.block k hl (fun e=>by
  rcases e with e|e
  ·exact hk.1 e
  ·exact hk.2 e)) (fun k hk hl=>⟨hk.1,fun e=>by
  rcases s.own k e with h1|h1
  ·exact hk.2 h1
  ·omega⟩)
theorem KnAt.next {w w':World} {eb:Nat} {v v':Value} {k:KnM} (h:KnAt w (offE eb v) k) (s:EnvS w w' eb v v'):KnAt w' (offE eb v') k :=
 ⟨sl_off h.cols s,⟨sl_off h.rows.1 s,fun r hr=>sl_off (h.rows.2 r hr) s⟩,h.val,h.rok,h.nms,h.one,h.rlen,h.nm⟩
theorem EX.next {w w':World} {eb:Nat} {v v':Value} (s:EnvS w w' eb v v'):∀ {x:EX},x.at w (offE eb v)→x.at w' (offE eb v')
 | .leaf _,_=>trivial
 | .one _ _ _,h=>⟨sl_off h.1 s,EX.next s h.2⟩
 | .two _ _ _ _,h=>⟨sl_off h.1 s,EX.next s h.2.1,EX.next s h.2.2⟩
theorem EnvAt.below {w w':World} {eb f:Nat} {v:Value} {l:List KnM} (h:EnvAt w eb f v l) (hb:Below w.heap.size w w'):EnvAt w' eb f v l :=
 ⟨h.blk.below hb,h.own.below hb,h.ne,fun k hk=>(h.kn k hk).next (EnvS.of_below hb),h.fuel,h.lim⟩
theorem EnvAt.fuelTo {w:World} {eb f f':Nat} {v:Value} {l:List KnM} (h:EnvAt w eb f v l) (hf:f'≤f):EnvAt (w.setCell ⟨eb,0,none⟩ (.int .i64 (f':Int))) eb f' v l∧EnvS w (w.setCell ⟨eb,0,none⟩ (.int .i64 (f':Int))) eb v v:=by
 have hs:EnvS w (w.setCell ⟨eb,0,none⟩ (.int .i64 (f':Int))) eb v v:=⟨(Only.refl _ w).setCell (fun _=>.inl rfl) _,fun _ h=>.inl h⟩
 exact ⟨⟨h.blk.set 0 _,h.own.setOther h.ne _,h.ne,fun k hk=>(h.kn k hk).next hs,Nat.le_trans hf h.fuel,h.lim⟩,hs⟩
def ValOut (w:World) (a:AV) (r:Ending) (w':World):Prop:=r=.returned (.agg #[.int .i64 a.kind,.int .i64 a.n,.string a.s])∧Below w.heap.size w w'
def PairOut (w:World) (a:AV) (e:Int) (r:Ending) (w':World):Prop:=r=.returned (.tuple #[.agg #[.int .i64 a.kind,.int .i64 a.n,.string a.s],.int .i64 e])∧Below w.heap.size w w'
theorem three_cells {w:World} {b:Nat} {t:TypeId} {a0 a1 a2:Value} (h:Blk w b t [a0,a1,a2]):w.cell? ⟨b,0,none⟩=some a0∧w.cell? ⟨b,1,none⟩=some a1∧w.cell? ⟨b,2,none⟩=some a2:=⟨h.cell 0,h.cell 1,h.cell 2⟩
theorem set_threeE {w:World} {b:Nat} {t:TypeId} {a0 a1 a2:Value} (h:Blk w b t [a0,a1,a2]) (v0 v1 v2:Value) :
 Blk (((w.setCell ⟨b,0,none⟩ v0).setCell ⟨b,1,none⟩ v1).setCell ⟨b,2,none⟩ v2) b t [v0,v1,v2]∧Only (fun q=>q=b) w (((w.setCell ⟨b,0,none⟩ v0).setCell ⟨b,1,none⟩ v1).setCell ⟨b,2,none⟩ v2):=by
 refine ⟨?_,?_⟩
 ·have h1:=((h.set 0 v0).set 1 v1).set 2 v2
  simpa only [List.set_cons_zero,List.set_cons_succ] using h1
 ·have step:∀ {u:World} (i:Nat) (v:Value),Only (fun q=>q=b) w u→Only (fun q=>q=b) w (u.setCell ⟨b,i,none⟩ v):=fun i v h=>h.setCell (p:=⟨b,i,none⟩) (fun _=>rfl) v
  exact step 2 v2 (step 1 v1 (step 0 v0 (Only.refl _ w)))
theorem wrong_e (w:World) (e:Int):Calls Tryz.prog 43 #[.int .i64 e] w (PairOut w zeroA e):=by
 obtain ⟨w1,hw1⟩:∃ w1,w.alloc (.cells #[.int .i64 0,.int .i64 0,.string ⟨#[]⟩] 35)=w1:=⟨_,rfl⟩
 have hb1:Below w.heap.size w w1:=hw1▸(Below.refl _ _).alloc (Nat.le_refl _) _
 have hk1:Blk w1 w.heap.size 35 [.int .i64 0,.int .i64 0,.string ⟨#[]⟩]:=hw1▸Blk.new w _ _
 obtain ⟨m0,m1,m2⟩:=three_cells hk1
 have HB:=Lib.hid hb1
 have HW:=Lib.hid hw1
 clear hb1 hk1 hw1
 go_enter Tryz.func43,Tryz.ntmps43
 go_wp2
 rw [HW.out]
 exact bodyPost_ret (v:=.tuple #[.agg #[.int .i64 0,.int .i64 0,.string ⟨#[]⟩],.int .i64 e]) (by simp [results,Tryz.results43,go_sem,m0,m1,m2]) rfl ⟨rfl,HB.out⟩
theorem int_e (w:World) (n:Int):Calls Tryz.prog 44 #[.int .i64 n] w (ValOut w ⟨1,n,⟨#[]⟩⟩):=by
 obtain ⟨w1,hw1⟩:∃ w1,w.alloc (.cells #[.int .i64 1,.int .i64 n,.string ⟨#[]⟩] 35)=w1:=⟨_,rfl⟩
 have hb1:Below w.heap.size w w1:=hw1▸(Below.refl _ _).alloc (Nat.le_refl _) _
 have hk1:Blk w1 w.heap.size 35 [.int .i64 1,.int .i64 n,.string ⟨#[]⟩]:=hw1▸Blk.new w _ _
 obtain ⟨m0,m1,m2⟩:=three_cells hk1
 have HB:=Lib.hid hb1
 have HW:=Lib.hid hw1
 clear hb1 hk1 hw1
 go_enter Tryz.func44,Tryz.ntmps44
 go_wp2
 rw [HW.out]
 exact bodyPost_ret (v:=.agg #[.int .i64 1,.int .i64 n,.string ⟨#[]⟩]) (by simp [results,Tryz.results44,go_sem,m0,m1,m2]) rfl ⟨rfl,HB.out⟩
theorem text_e (w:World) (s:ByteArray):Calls Tryz.prog 45 #[.string s] w (ValOut w ⟨2,0,s⟩):=by
 obtain ⟨w1,hw1⟩:∃ w1,w.alloc (.cells #[.int .i64 2,.int .i64 0,.string s] 35)=w1:=⟨_,rfl⟩
 have hb1:Below w.heap.size w w1:=hw1▸(Below.refl _ _).alloc (Nat.le_refl _) _
 have hk1:Blk w1 w.heap.size 35 [.int .i64 2,.int .i64 0,.string s]:=hw1▸Blk.new w _ _
 obtain ⟨m0,m1,m2⟩:=three_cells hk1
 have HB:=Lib.hid hb1
 have HW:=Lib.hid hw1
 clear hb1 hk1 hw1
 go_enter Tryz.func45,Tryz.ntmps45
 go_wp2
 rw [HW.out]
 exact bodyPost_ret (v:=.agg #[.int .i64 2,.int .i64 0,.string s]) (by simp [results,Tryz.results45,go_sem,m0,m1,m2]) rfl ⟨rfl,HB.out⟩
theorem bool_e (w:World) (b:Bool):Calls Tryz.prog 46 #[.bool b] w (ValOut w ⟨3,if b then 1 else 0,⟨#[]⟩⟩):=by
 obtain ⟨w1,hw1⟩:∃ w1,w.alloc (.cells #[.int .i64 0,.int .i64 0,.string ⟨#[]⟩] 35)=w1:=⟨_,rfl⟩
 have hb1:Below w.heap.size w w1:=hw1▸(Below.refl _ _).alloc (Nat.le_refl _) _
 have hk1:Blk w1 w.heap.size 35 [.int .i64 0,.int .i64 0,.string ⟨#[]⟩]:=hw1▸Blk.new w _ _
 have key:∀ n:Int,Blk (w1.alloc (.cells #[.int .i64 3,.int .i64 n,.string ⟨#[]⟩] 35)) w.heap.size 35 [.int .i64 0,.int .i64 0,.string ⟨#[]⟩]∧Below w.heap.size w (w1.alloc (.cells #[.int .i64 3,.int .i64 n,.string ⟨#[]⟩] 35)):=fun n=>⟨hk1.alloc _,hb1.alloc hb1.size _⟩
 have KEY:=Lib.hid key
 clear hb1 hk1 key
 go_enter Tryz.func46,Tryz.ntmps46
 cases b with
 | true =>
  obtain ⟨hkA,hbA⟩:=KEY.out 1
  obtain ⟨a0,a1,a2⟩:=three_cells hkA
  have hfr:=fun i=>hkA.frozen i
  have hla:=hkA.lt
  have HKA:=Lib.hid hkA
  have HBA:=Lib.hid hbA
  clear hkA hbA KEY
  go_wp2
  obtain ⟨hkE,hoE⟩:=set_threeE HKA.out (.int .i64 3) (.int .i64 1) (.string ⟨#[]⟩)
  generalize (((w1.alloc (.cells #[.int .i64 3,.int .i64 1,.string ⟨#[]⟩] 35)).setCell ⟨w.heap.size,0,none⟩ (.int .i64 3)).setCell ⟨w.heap.size,1,none⟩ (.int .i64 1)).setCell ⟨w.heap.size,2,none⟩ (.string ⟨#[]⟩)=wE at *
  obtain ⟨m0,m1,m2⟩:=three_cells hkE
  exact bodyPost_ret (v:=.agg #[.int .i64 3,.int .i64 1,.string ⟨#[]⟩]) (by simp [results,Tryz.results46,go_sem,m0,m1,m2]) rfl ⟨rfl,HBA.out.trans (hoE.below HBA.out.size (fun q hq=>by omega))⟩
 | false =>
  obtain ⟨hkA,hbA⟩:=KEY.out 0
  obtain ⟨a0,a1,a2⟩:=three_cells hkA
  have hfr:=fun i=>hkA.frozen i
  have hla:=hkA.lt
  have HKA:=Lib.hid hkA
  have HBA:=Lib.hid hbA
  clear hkA hbA KEY
  go_wp2
  obtain ⟨hkE,hoE⟩:=set_threeE HKA.out (.int .i64 3) (.int .i64 0) (.string ⟨#[]⟩)
  generalize (((w1.alloc (.cells #[.int .i64 3,.int .i64 0,.string ⟨#[]⟩] 35)).setCell ⟨w.heap.size,0,none⟩ (.int .i64 3)).setCell ⟨w.heap.size,1,none⟩ (.int .i64 0)).setCell ⟨w.heap.size,2,none⟩ (.string ⟨#[]⟩)=wE at *
  obtain ⟨m0,m1,m2⟩:=three_cells hkE
  exact bodyPost_ret (v:=.agg #[.int .i64 3,.int .i64 0,.string ⟨#[]⟩]) (by simp [results,Tryz.results46,go_sem,m0,m1,m2]) rfl ⟨rfl,HBA.out.trans (hoE.below HBA.out.size (fun q hq=>by omega))⟩
theorem number_e (w:World) (n e:Int):Calls Tryz.prog 72 #[.int .i64 n,.int .i64 e] w (PairOut w (numA n e 0).1 (numA n e 0).2.1):=by
 obtain ⟨w1,hw1⟩:∃ w1,w.alloc (.cells #[.int .i64 0,.int .i64 0,.string ⟨#[]⟩] 35)=w1:=⟨_,rfl⟩
 have hb1:Below w.heap.size w w1:=hw1▸(Below.refl _ _).alloc (Nat.le_refl _) _
 have hk1:Blk w1 w.heap.size 35 [.int .i64 0,.int .i64 0,.string ⟨#[]⟩]:=hw1▸Blk.new w _ _
 have HB:=Lib.hid hb1
 have HK:=Lib.hid hk1
 have HW:=Lib.hid (wrong_e w1 e)
 have HI:=Lib.hid (int_e w1 n)
 unfold numA
 clear hb1 hk1
 by_cases h:e=0
 ·rw [if_neg (by simp [h])]
  subst h
  go_enter Tryz.func72,Tryz.ntmps72
  go_wp2_with fail
  refine HI.out.mono ?_
  clear HI HW
  rintro r w2 ⟨rfl,hb2⟩
  have hk2:=HK.out.below hb2
  have HB2:=Lib.hid (HB.out.trans (hb2.mono HB.out.size))
  have HK2:=Lib.hid hk2
  obtain ⟨a0,a1,a2⟩:=three_cells hk2
  have hfr:=fun i=>hk2.frozen i
  have hla:=hk2.lt
  clear hb2 hk2
  go_wp2
  obtain ⟨hkE,hoE⟩:=set_threeE HK2.out (.int .i64 1) (.int .i64 n) (.string ⟨#[]⟩)
  generalize ((w2.setCell ⟨w.heap.size,0,none⟩ (.int .i64 1)).setCell ⟨w.heap.size,1,none⟩ (.int .i64 n)).setCell ⟨w.heap.size,2,none⟩ (.string ⟨#[]⟩)=wE at *
  obtain ⟨m0,m1,m2⟩:=three_cells hkE
  exact bodyPost_ret (v:=.tuple #[.agg #[.int .i64 1,.int .i64 n,.string ⟨#[]⟩],.int .i64 0]) (by simp [results,Tryz.results72,go_sem,m0,m1,m2]) rfl ⟨rfl,HB2.out.trans (hoE.below HB2.out.size (fun q hq=>by omega))⟩
 ·rw [if_pos h]
  have t1:(e != 0)=true:=by simp [h]
  go_enter Tryz.func72,Tryz.ntmps72
  go_wp2_with fail
  refine HW.out.mono ?_
  clear HI HW
  rintro r w2 ⟨rfl,hb2⟩
  have hk2:=HK.out.below hb2
  have HB2:=Lib.hid (HB.out.trans (hb2.mono HB.out.size))
  have HK2:=Lib.hid hk2
  obtain ⟨a0,a1,a2⟩:=three_cells hk2
  have hfr:=fun i=>hk2.frozen i
  have hla:=hk2.lt
  unfold zeroA
  clear hb2 hk2
  go_wp2
  obtain ⟨hkE,hoE⟩:=set_threeE HK2.out (.int .i64 0) (.int .i64 0) (.string ⟨#[]⟩)
  generalize ((w2.setCell ⟨w.heap.size,0,none⟩ (.int .i64 0)).setCell ⟨w.heap.size,1,none⟩ (.int .i64 0)).setCell ⟨w.heap.size,2,none⟩ (.string ⟨#[]⟩)=wE at *
  obtain ⟨m0,m1,m2⟩:=three_cells hkE
  exact bodyPost_ret (v:=.tuple #[.agg #[.int .i64 0,.int .i64 0,.string ⟨#[]⟩],.int .i64 e]) (by simp [results,Tryz.results72,go_sem,m0,m1,m2]) rfl ⟨rfl,HB2.out.trans (hoE.below HB2.out.size (fun q hq=>by omega))⟩
theorem step_none (w:World) (eb:Nat) (v:Value) (l:List KnM) (h:EnvAt w eb 0 v l):Calls Tryz.prog 42 #[.pointer (some ⟨eb,0,none⟩)] w fun e w'=>e=.returned (.bool false)∧w=w':=by
 have hs:Calls Tryz.prog 68 #[.pointer (some ⟨eb,0,none⟩),.int .i64 1] w fun e w'=>e=.returned (.bool false)∧w=w':=by
  have hbk:=h.blk
  have c0:w.cell? ⟨eb,0,none⟩=some (.int .i64 0):=hbk.cell 0
  have hlt:=hbk.lt
  clear h hbk
  go_enter Tryz.func68,Tryz.ntmps68
  go_wp2
  go_ret
  exact ⟨rfl,rfl⟩
 have HS:=Lib.hid hs
 clear hs h
 go_enter Tryz.func42,Tryz.ntmps42
 go_wp2_with fail
 refine HS.out.mono ?_
 rintro e w2 ⟨rfl,rfl⟩
 go_wp2
 go_ret
 exact ⟨rfl,rfl⟩
theorem step_some (w:World) (eb f:Nat) (v:Value) (l:List KnM) (h:EnvAt w eb (f+1) v l):Calls Tryz.prog 42 #[.pointer (some ⟨eb,0,none⟩)] w fun e w'=>e=.returned (.bool true)∧EnvAt w' eb f v l∧EnvS w w' eb v v:=by
 have hs:Calls Tryz.prog 68 #[.pointer (some ⟨eb,0,none⟩),.int .i64 1] w fun e w'=>e=.returned (.bool true)∧EnvAt w' eb f v l∧EnvS w w' eb v v:=by
  have hbk:=h.blk
  have c0:w.cell? ⟨eb,0,none⟩=some (.int .i64 ((f:Int)+1)):=hbk.cell 0
  have hfz:∀ i,w.frozen? ⟨eb,i,none⟩=false:=hbk.frozen
  have hlt:=hbk.lt
  have hfl:=h.fuel
  have HF:=Lib.hid (h.fuelTo (f':=f) (Nat.le_succ f))
  clear h hbk
  go_enter Tryz.func68,Tryz.ntmps68
  go_wp2
  go_ret
  exact ⟨rfl,HF.out.1,HF.out.2⟩
 have HS:=Lib.hid hs
 clear hs h
 go_enter Tryz.func42,Tryz.ntmps42
 go_wp2_with fail
 refine HS.out.mono ?_
 clear HS
 rintro e w2 ⟨rfl,h1,h2⟩
 have H1:=Lib.hid h1
 have H2:=Lib.hid h2
 clear h1 h2
 go_wp2
 go_ret
 exact ⟨rfl,H1.out,H2.out⟩
theorem left_any (w:World) (eb f:Nat) (v:Value) (l:List KnM) (h:EnvAt w eb f v l):Calls Tryz.prog 10 #[.pointer (some ⟨eb,0,none⟩)] w fun e w'=>e=.returned (.int .i64 (f:Int))∧w=w':=by
 have hbk:=h.blk
 have c0:w.cell? ⟨eb,0,none⟩=some (.int .i64 (f:Int)):=hbk.cell 0
 have hfz:∀ i,w.frozen? ⟨eb,i,none⟩=false:=hbk.frozen
 have hlt:=hbk.lt
 have hfl:=h.fuel
 clear h hbk
 go_enter Tryz.func10,Tryz.ntmps10
 go_wp2
 go_ret
 exact ⟨rfl,rfl⟩
def KnowOut (w:World) (eb f:Nat) (v:Value) (l:List KnM) (k:KnM) (e:Ending) (w':World):Prop:=∃ v',e=.returned (.pointer (some ⟨eb,0,none⟩))∧EnvAt w' eb f v' (l++[k])∧EnvS w w' eb v v'
theorem elemKn:Elem Tryz.prog 73 79 7 104 (.agg #[.string ⟨#[]⟩,.int .i64 0,.int .i64 0,.string ⟨#[]⟩,.slice none 0 0,.slice none 0 0,.int .i64 0]) :=
 ⟨Tryz.underlying73,by kernel_rfl,rfl,by omega,fun u hu=>(Ones.nil.cons rfl |>.cons rfl |>.cons rfl |>.cons rfl |>.cons rfl |>.cons rfl |>.cons rfl) u hu⟩
theorem env_push {w wm wA:World} {eb f:Nat} {v v1:Value} {l:List KnM} {k:KnM} (h:EnvAt w eb f v l) (hk:KnAt w (offE eb v) k) (hl:l.length+1≤1000000) (hb:Below w.heap.size w wm)
 (g1:Own wA 79 7 v1 (l.length+1) (knC l++k.cells)) (g2:Only (fun q=>v.ownBlock=some q) wm wA) (g3:v1.ownBlock=v.ownBlock∨v1.ownBlock=some wm.heap.size) :
 EnvAt (wA.setCell ⟨eb,1,none⟩ v1) eb f v1 (l++[k])∧EnvS w (wA.setCell ⟨eb,1,none⟩ v1) eb v v1∧Blk wA eb 75 [.int .i64 (f:Int),v]:=by
 have hlt:=h.blk.lt
 have hsz:=hb.size
 have hbm:=(h.blk.below hb).only g2 h.ne
 have hne:v1.ownBlock≠some eb:=fun e=>by
  rcases g3 with g3|g3
  ·exact h.ne (g3.symm.trans e)
  ·have e2:wm.heap.size=eb:=Option.some.inj (g3.symm.trans e)
   omega
 have hs:EnvS w (wA.setCell ⟨eb,1,none⟩ v1) eb v v1:=⟨((Only.of_none hb).trans g2 (fun i _ e=>.inr e)).setCell (fun _=>.inl rfl) _,fun q hq=>by
  rcases g3 with g3|g3
  ·exact .inl (g3.symm.trans hq)
  ·have e2:wm.heap.size=q:=Option.some.inj (g3.symm.trans hq)
   exact .inr (by omega)⟩
 refine ⟨⟨hbm.set 1 _,?_,hne,fun y hy=>?_,h.fuel,by rw [List.length_append];exact hl⟩,hs,hbm⟩
 ·rw [knC_snoc,List.length_append]
  exact g1.setOther hne _
 ·rcases List.mem_append.1 hy with hy|hy
  ·exact (h.kn y hy).next hs
  ·rw [List.mem_singleton.1 hy]
   exact hk.next hs
theorem kn_ones {nm s:ByteArray} {kd n is:Int} {pc pr:Option Addr} {nc cc nr cr:Nat}:Ones [.string nm,.int .i64 kd,.int .i64 n,.string s,.slice pc nc cc,.slice pr nr cr,.int .i64 is] :=
 Ones.nil.cons rfl |>.cons rfl |>.cons rfl |>.cons rfl |>.cons rfl |>.cons rfl |>.cons rfl
theorem know_any (w:World) (eb f:Nat) (v:Value) (l:List KnM) (h:EnvAt w eb f v l) (hl:l.length+1≤1000000) (nm s:ByteArray) (kd n is:Int) (pc pr:Option Addr) (nc cc nr cr:Nat) (k:KnM)
 (hk:KnAt w (offE eb v) k) (hc:k.cells=[.string nm,.int .i64 kd,.int .i64 n,.string s,.slice pc nc cc,.slice pr nr cr,.int .i64 is]) :
 Calls Tryz.prog 28 #[.pointer (some ⟨eb,0,none⟩),.agg #[.string nm,.int .i64 kd,.int .i64 n,.string s,.slice pc nc cc,.slice pr nr cr,.int .i64 is]] w (KnowOut w eb f v l k):=by
 obtain ⟨pv,cv,rfl,hcv1,hcv2⟩:=h.own.sl (B:=fun _=>True) (fun _ _=>trivial) |>.form
 obtain ⟨w1,hw1⟩:∃ w1,w.alloc (.cells #[.string nm,.int .i64 kd,.int .i64 n,.string s,.slice pc nc cc,.slice pr nr cr,.int .i64 is] 79)=w1:=⟨_,rfl⟩
 have hb1:Below w.heap.size w w1:=hw1▸(Below.refl _ _).alloc (Nat.le_refl _) _
 have hk1:Blk w1 w.heap.size 79 [.string nm,.int .i64 kd,.int .i64 n,.string s,.slice pc nc cc,.slice pr nr cr,.int .i64 is]:=hw1▸Blk.new w _ _
 have he1:=(h.below hb1)
 have c1:w1.cell? ⟨eb,1,none⟩=some (.slice pv l.length cv):=he1.blk.cell 1
 have hlt1:=he1.blk.lt
 have hfr:∀ i,w1.frozen? ⟨eb,i,none⟩=false:=he1.blk.frozen
 have d0:w1.cell? ⟨w.heap.size,0,none⟩=some (.string nm):=hk1.cell 0
 have d1:w1.cell? ⟨w.heap.size,1,none⟩=some (.int .i64 kd):=hk1.cell 1
 have d2:w1.cell? ⟨w.heap.size,2,none⟩=some (.int .i64 n):=hk1.cell 2
 have d3:w1.cell? ⟨w.heap.size,3,none⟩=some (.string s):=hk1.cell 3
 have d4:w1.cell? ⟨w.heap.size,4,none⟩=some (.slice pc nc cc):=hk1.cell 4
 have d5:w1.cell? ⟨w.heap.size,5,none⟩=some (.slice pr nr cr):=hk1.cell 5
 have d6:w1.cell? ⟨w.heap.size,6,none⟩=some (.int .i64 is):=hk1.cell 6
 have hlk:=hk1.lt
 have hag1:Agree (fun q=>q=eb) w1.drew (w1.alloc (.cells #[.string nm,.int .i64 kd,.int .i64 n,.string s,.slice pc nc cc,.slice pr nr cr,.int .i64 is] 79)).drew:=agree_alloc (w:=w1) _ (fun q hq=>by subst hq;exact hlt1)
 have hbm:Below w.heap.size w (w1.alloc (.cells #[.string nm,.int .i64 kd,.int .i64 n,.string s,.slice pc nc cc,.slice pr nr cr,.int .i64 is] 79)).drew:=(hb1.alloc hb1.size _).drew
 have hown:=h.own.below hbm
 have hsm:Sl (w1.alloc (.cells #[.string nm,.int .i64 kd,.int .i64 n,.string s,.slice pc nc cc,.slice pr nr cr,.int .i64 is] 79)).drew (fun _=>True) 7 (.slice (some ⟨w1.heap.size,0,none⟩) 1 1) 1 k.cells:=by
  rw [hc]
  exact (Own.made w1 79 7 [.string nm,.int .i64 kd,.int .i64 n,.string s,.slice pc nc cc,.slice pr nr cr,.int .i64 is] [] 1 1 rfl kn_ones (Nat.le_refl _) (by decide) (Nat.le_refl 7)).sl (fun _ _=>trivial)
 have HH:=Lib.hid h
 have HK:=Lib.hid hk
 have HBM:=Lib.hid hbm
 clear h hk hc hb1 hk1 he1 hbm
 go_enter Tryz.func28,Tryz.ntmps28
 go_upto_region 2 with fail
 clear hw1
 refine wp_region_lit_plan [] [(0,0),(1,0),(2,0),(3,0),(4,2),(5,1),(6,3),(7,4),(8,0),(9,0),(10,4)] ((fun q=>q=eb)) (by kernel_rfl) (by kernel_rfl) (fun c a d v w h=>by cases d<;>exact h) ?_
 go_wp2_with (first|(refine stp ?_)|(at_builtin;refine wpList_app rfl _ _ rfl elemKn (by rfl) hown (by rfl) hsm (by unfold maxLen;omega) (by omega) ?_;intro v1 wA g1 g2 g3 g4 g5;refine Stp.go ?_))
 refine ⟨?_⟩
 obtain ⟨p1,c1',rfl,hc11,hc12⟩:=g1.sl (B:=fun _=>True) (fun _ _=>trivial) |>.form
 obtain ⟨hE,hS,hkA⟩:=env_push HH.out HK.out hl HBM.out g1 g2 g3
 have HE:=Lib.hid hE
 have HS:=Lib.hid hS
 have a1:wA.cell? ⟨eb,1,none⟩=some (.slice pv l.length cv):=hkA.cell 1
 have hfA:∀ i,wA.frozen? ⟨eb,i,none⟩=false:=hkA.frozen
 have hlA:=hkA.lt
 clear g1 g2 g3 g4 g5 hown hsm hag1 hE hS hkA c1 hfr hlt1 d0 d1 d2 d3 d4 d5 d6 hlk
 go_wp2_with fail
 refine plan_pure (v:=_) (by rfl) (by rfl) (by rfl) (by intro _;go_simp;with_reducible rfl) ?_
 simp only [List.setIfInBounds_toArray,List.set_cons_zero,List.set_cons_succ]
 try go_bits
 refine plan_pure (v:=_) (by rfl) (by rfl) (by rfl) (by intro _;go_simp;with_reducible rfl) ?_
 simp only [List.setIfInBounds_toArray,List.set_cons_zero,List.set_cons_succ]
 try go_bits
 refine plan_any (by rfl) ?_
 go_wp2_with fail
 refine plan_nil ?_
 go_wp2_with fail
 go_ret
 exact ⟨_,rfl,HE.out,HS.out⟩
theorem let_any (w:World) (eb f:Nat) (v:Value) (l:List KnM) (h:EnvAt w eb f v l) (hl:l.length+1≤1000000) (nm:ByteArray) (a:AV) (ha:a.ok) (hn:nm.size≤maxLen) :
 Calls Tryz.prog 15 #[.pointer (some ⟨eb,0,none⟩),.string nm,.agg #[.int .i64 a.kind,.int .i64 a.n,.string a.s]] w (KnowOut w eb f v l ⟨nm,a,.slice none 0 0,[],.slice none 0 0,[],0⟩):=by
 obtain ⟨kd,n,s⟩:=a
 simp only
 obtain ⟨w1,hw1⟩:∃ w1,w.alloc (.cells #[.int .i64 kd,.int .i64 n,.string s] 35)=w1:=⟨_,rfl⟩
 have hb1:Below w.heap.size w w1:=hw1▸(Below.refl _ _).alloc (Nat.le_refl _) _
 have hk1:Blk w1 w.heap.size 35 [.int .i64 kd,.int .i64 n,.string s]:=hw1▸Blk.new w _ _
 obtain ⟨m0,m1,m2⟩:=three_cells hk1
 have hl1:=hk1.lt
 have hnil:∀ {B:Nat→Prop} {sz:Nat},Sl w1 B sz (.slice none 0 0) 0 []:=fun {B sz}=>⟨by simp,Ones.nil,.inl ⟨none,0,rfl,rfl,Nat.zero_le _,fun _=>rfl⟩⟩
 have HC:=Lib.hid (know_any w1 eb f v l (h.below hb1) hl nm s kd n 0 none none 0 0 0 0 ⟨nm,⟨kd,n,s⟩,.slice none 0 0,[],.slice none 0 0,[],0⟩
  ⟨hnil,⟨hnil,fun r hr=>by cases hr⟩,ha,(fun r hr=>by cases hr),(fun c hc=>by cases hc),(fun h=>by cases h),Nat.zero_le _,hn⟩ rfl)
 have HB:=Lib.hid hb1
 have HW:=Lib.hid hw1
 clear h hb1 hk1 hw1 hnil
 go_enter Tryz.func15,Tryz.ntmps15
 go_wp2_with fail
 rw [HW.out]
 refine HC.out.mono ?_
 clear HC
 rintro e w2 ⟨v',rfl,h1,h2⟩
 have H1:=Lib.hid h1
 have H2:=Lib.hid h2
 clear h1 h2
 go_wp2
 go_ret
 exact ⟨v',rfl,H1.out,(EnvS.of_below HB.out).trans H2.out⟩
theorem row_any (w:World) (eb f:Nat) (v:Value) (l:List KnM) (h:EnvAt w eb f v l) (hl:l.length+1≤1000000) (nm:ByteArray) (pc pr:Option Addr) (nc cc nr cr:Nat) (cols:List ColV) (r:List AV)
 (hcv:Sl w (offE eb v) 2 (.slice pc nc cc) cols.length (colCells cols)) (hr:Sl w (offE eb v) 3 (.slice pr nr cr) r.length (rowCells r)) (hok:∀ x∈r,x.ok) (hnm:∀ c∈cols,c.name.size≤maxLen) (hn:nm.size≤maxLen) :
 Calls Tryz.prog 24 #[.pointer (some ⟨eb,0,none⟩),.string nm,.slice pc nc cc,.slice pr nr cr] w (KnowOut w eb f v l ⟨nm,zeroA,.slice pc nc cc,cols,.slice (some ⟨w.heap.size,0,none⟩) 1 1,[⟨.slice pr nr cr,r⟩],1⟩):=by
 obtain ⟨w1,hw1⟩:∃ w1,w.alloc (.cells #[.slice pr nr cr] 42)=w1:=⟨_,rfl⟩
 have hb1:Below w.heap.size w w1:=hw1▸(Below.refl _ _).alloc (Nat.le_refl _) _
 have hE:=h.blk.lt
 have hlo:=h.own.lt
 have hs1:Sl w1 (offE eb v) 1 (.slice (some ⟨w.heap.size,0,none⟩) 1 1) 1 [.slice pr nr cr]:=hw1▸(Own.made w 42 1 [.slice pr nr cr] [] 1 1 rfl (Ones.nil.cons rfl) (Nat.le_refl _) (by decide) (Nat.le_refl 1)).sl (fun q hq=>by
  have e2:w.heap.size=q:=Option.some.inj hq
  exact ⟨by omega,fun e=>by have:=hlo q e;omega⟩)
 have HC:=Lib.hid (know_any w1 eb f v l (h.below hb1) hl nm ⟨#[]⟩ 0 0 1 pc (some ⟨w.heap.size,0,none⟩) nc cc 1 1 ⟨nm,zeroA,.slice pc nc cc,cols,.slice (some ⟨w.heap.size,0,none⟩) 1 1,[⟨.slice pr nr cr,r⟩],1⟩
  ⟨hcv.below hb1,⟨hs1,fun r' hr'=>by rw [List.mem_singleton.1 hr'];exact hr.below hb1⟩,⟨(by unfold fits zeroA;simp only;omega),Nat.zero_le _⟩,(fun r' hr' x hx=>by rw [List.mem_singleton.1 hr'] at hx;exact hok x hx),hnm,(fun _=>Nat.le_refl 1),(by show 1≤1000000;omega),hn⟩ rfl)
 have HB:=Lib.hid hb1
 have HW:=Lib.hid hw1
 clear h hb1 hw1 hs1 hcv hr hlo hE
 go_enter Tryz.func24,Tryz.ntmps24
 go_wp2_with fail
 rw [HW.out]
 refine HC.out.mono ?_
 clear HC
 rintro e w2 ⟨v',rfl,h1,h2⟩
 have H1:=Lib.hid h1
 have H2:=Lib.hid h2
 clear h1 h2
 go_wp2
 go_ret
 exact ⟨v',rfl,H1.out,(EnvS.of_below HB.out).trans H2.out⟩
theorem source_any (w:World) (eb f:Nat) (v:Value) (l:List KnM) (h:EnvAt w eb f v l) (hl:l.length+1≤1000000) (nm:ByteArray) (pc pr:Option Addr) (nc cc nr cr:Nat) (cols:List ColV) (rows:List RowV)
 (hcv:Sl w (offE eb v) 2 (.slice pc nc cc) cols.length (colCells cols)) (hr:RowsAt w (offE eb v) (.slice pr nr cr) rows) (hok:∀ r∈rows,∀ x∈r.l,x.ok) (hrl:rows.length≤1000000) (hnm:∀ c∈cols,c.name.size≤maxLen) (hn:nm.size≤maxLen) :
 Calls Tryz.prog 23 #[.pointer (some ⟨eb,0,none⟩),.string nm,.slice pc nc cc,.slice pr nr cr] w (KnowOut w eb f v l ⟨nm,zeroA,.slice pc nc cc,cols,.slice pr nr cr,rows,2⟩):=by
 have HC:=Lib.hid (know_any w eb f v l h hl nm ⟨#[]⟩ 0 0 2 pc pr nc cc nr cr ⟨nm,zeroA,.slice pc nc cc,cols,.slice pr nr cr,rows,2⟩
  ⟨hcv,hr,⟨(by unfold fits zeroA;simp only;omega),Nat.zero_le _⟩,hok,hnm,(fun e=>by cases e),hrl,hn⟩ rfl)
 clear h hcv hr
 go_enter Tryz.func23,Tryz.ntmps23
 go_wp2_with fail
 refine HC.out.mono ?_
 clear HC
 rintro e w2 ⟨v',rfl,h1,h2⟩
 have H1:=Lib.hid h1
 have H2:=Lib.hid h2
 clear h1 h2
 go_wp2
 go_ret
 exact ⟨v',rfl,H1.out,H2.out⟩
@[go_sem] theorem ite_lt_max (x y:Int):(if x < y then y else x)=max x y:=by omega
@[go_sem] theorem ite_lt_min (x y:Int):(if x < y then x else y)=min x y:=by omega
def minI (a:Int) (l:List Int):Int:=l.foldl min a
def maxI (a:Int) (l:List Int):Int:=l.foldl max a
theorem minI_next (a:Int) (l:List Int) (i:Nat) (h:i < l.length):minI a (l.take (i+1))=min (minI a (l.take i)) l[i]:=by
 unfold minI
 rw [←List.take_append_getElem h,List.foldl_append];rfl
theorem maxI_next (a:Int) (l:List Int) (i:Nat) (h:i < l.length):maxI a (l.take (i+1))=max (maxI a (l.take i)) l[i]:=by
 unfold maxI
 rw [←List.take_append_getElem h,List.foldl_append];rfl
theorem least_any (w:World) (a:Int) (v:Value) (l:List Int) (hl:Sl w (fun _=>True) 1 v l.length (ints l)) (hll:l.length≤1000000) :
 Calls Tryz.prog 93 #[.int .i64 a,v] w fun e w'=>e=.returned (.int .i64 (minI a l))∧Below w.heap.size w w':=by
 obtain ⟨p,cap,rfl,hc1,hc2⟩:=hl.form
 have HL:=Lib.hid hl
 clear hl
 generalize hz:minI a l=z
 have HZ:=Lib.hid hz
 clear hz
 go_enter Tryz.func93,Tryz.ntmps93
 go_wp2
 go_loopw [0,9] (fun m i wr=>∃ k:Nat,i=.int .i64 k∧k≤l.length∧m=.int .i64 (minI a (l.take k))∧Below w.heap.size w wr) (fun _ i _=>l.length - (intOf i).toNat)
 case atStart=>exact ⟨0,rfl,Nat.zero_le _,rfl,Below.refl _ _⟩
 case round =>
  obtain ⟨k,rfl,hk,rfl,hb⟩:=hrel
  by_cases hka:k < l.length
  ·obtain ⟨g,off,cap',hv,_,_,hgb,hglt,hc⟩:=HL.out.place (by omega)
   cases hv
   have hc0:w.cell? ⟨g,off+k,none⟩=some (.int .i64 l[k]):=by rw [hc k (by simpa [ints] using hka)];simp [ints,hka]
   have hck:wr.cell? ⟨g,off+k,none⟩=some (.int .i64 l[k]):=(hb.cell hglt).trans hc0
   have HX:=Lib.hid (minI_next a l k hka)
   have HB:=Lib.hid hb
   clear hc hc0 hb
   generalize minI a (l.take k)=m at *
   generalize l[k]=x at *
   go_wp2
   go_roundw
   case rel=>exact ⟨k+1,by go_num,by omega,by rw [HX.out,Int.min_comm],HB.out⟩
   case measure=>simp [intOf];omega
  ·have hkl:k=l.length:=by omega
   subst hkl
   rw [List.take_length,HZ.out]
   go_wp2
   go_ret
   exact ⟨rfl,hb⟩
theorem most_any (w:World) (a:Int) (v:Value) (l:List Int) (hl:Sl w (fun _=>True) 1 v l.length (ints l)) (hll:l.length≤1000000) :
 Calls Tryz.prog 94 #[.int .i64 a,v] w fun e w'=>e=.returned (.int .i64 (maxI a l))∧Below w.heap.size w w':=by
 obtain ⟨p,cap,rfl,hc1,hc2⟩:=hl.form
 have HL:=Lib.hid hl
 clear hl
 generalize hz:maxI a l=z
 have HZ:=Lib.hid hz
 clear hz
 go_enter Tryz.func94,Tryz.ntmps94
 go_wp2
 go_loopw [0,9] (fun m i wr=>∃ k:Nat,i=.int .i64 k∧k≤l.length∧m=.int .i64 (maxI a (l.take k))∧Below w.heap.size w wr) (fun _ i _=>l.length - (intOf i).toNat)
 case atStart=>exact ⟨0,rfl,Nat.zero_le _,rfl,Below.refl _ _⟩
 case round =>
  obtain ⟨k,rfl,hk,rfl,hb⟩:=hrel
  by_cases hka:k < l.length
  ·obtain ⟨g,off,cap',hv,_,_,hgb,hglt,hc⟩:=HL.out.place (by omega)
   cases hv
   have hc0:w.cell? ⟨g,off+k,none⟩=some (.int .i64 l[k]):=by rw [hc k (by simpa [ints] using hka)];simp [ints,hka]
   have hck:wr.cell? ⟨g,off+k,none⟩=some (.int .i64 l[k]):=(hb.cell hglt).trans hc0
   have HX:=Lib.hid (maxI_next a l k hka)
   have HB:=Lib.hid hb
   clear hc hc0 hb
   generalize maxI a (l.take k)=m at *
   generalize l[k]=x at *
   go_wp2
   go_roundw
   case rel=>exact ⟨k+1,by go_num,by omega,by rw [HX.out,Int.max_comm],HB.out⟩
   case measure=>simp [intOf];omega
  ·have hkl:k=l.length:=by omega
   subst hkl
   rw [List.take_length,HZ.out]
   go_wp2
   go_ret
   exact ⟨rfl,hb⟩
theorem size_any (w:World) (a:Int) (ha:fits a):Calls Tryz.prog 110 #[.int .i64 a] w fun e w'=>e=.returned (.int .u64 (a.natAbs:Int))∧Below w.heap.size w w':=by
 unfold fits at ha
 by_cases h:a < 0
 ·have h2:decide (a < 0)=true:=decide_eq_true h
  have e1:IntKind.u64.wrap (-IntKind.u64.wrap a)=(a.natAbs:Int):=by rw [IntKind.wrap_u64,IntKind.wrap_u64];omega
  generalize (a.natAbs:Int)=z at *
  go_enter Tryz.func110,Tryz.ntmps110
  go_wp2
  go_ret
  exact ⟨rfl,Below.refl _ _⟩
 ·have h2:decide (a < 0)=false:=decide_eq_false h
  have e1:(a.natAbs:Int)=a:=by omega
  rw [e1]
  go_enter Tryz.func110,Tryz.ntmps110
  go_wp2
  go_ret
  exact ⟨rfl,Below.refl _ _⟩
def sgn (neg:Bool) (n:Int):Int:=if neg then -n else n
theorem signed_any (w:World) (neg:Bool) (n:Int) (h0:0≤n) (h1:n < 18446744073709551616) :
 Calls Tryz.prog 111 #[.bool neg,.int .u64 n] w fun e w'=>e=.returned (.tuple #[.int .i64 (shortN (sgn neg n)),.int .i64 (shortE (sgn neg n))])∧Below w.heap.size w w':=by
 have hf:(fits (sgn neg n)∧shortN (sgn neg n)=sgn neg n∧shortE (sgn neg n)=0)∨(¬ fits (sgn neg n)∧shortN (sgn neg n)=0∧shortE (sgn neg n)=2):=by
  unfold shortN shortE;split
  ·exact .inl ⟨by assumption,rfl,rfl⟩
  ·exact .inr ⟨by assumption,rfl,rfl⟩
 rcases hf with ⟨h2,e1,e2⟩|⟨h2,e1,e2⟩
 ·rw [e1,e2]
  clear e1 e2
  cases neg
  ·simp only [sgn,fits,Bool.false_eq_true,if_false] at h2 ⊢
   go_enter Tryz.func111,Tryz.ntmps111
   go_wp2
   go_ret2
   exact ⟨rfl,Below.refl _ _⟩
  ·simp only [sgn,fits,if_true] at h2 ⊢
   have h3:n≤9223372036854775808:=by omega
   go_enter Tryz.func111,Tryz.ntmps111
   go_wp2
   rw [show wrap64 (-wrap64 n)=-n by unfold wrap64;omega]
   go_ret2
   exact ⟨rfl,Below.refl _ _⟩
 ·rw [e1,e2]
  clear e1 e2
  cases neg
  ·simp only [sgn,fits,Bool.false_eq_true,if_false] at h2
   have h3:9223372036854775807 < n:=by omega
   clear h2
   go_enter Tryz.func111,Tryz.ntmps111
   go_wp2
   go_ret2
   exact ⟨rfl,Below.refl _ _⟩
  ·simp only [sgn,fits,if_true] at h2
   have h3:9223372036854775808 < n:=by omega
   clear h2
   go_enter Tryz.func111,Tryz.ntmps111
   go_wp2
   go_ret2
   exact ⟨rfl,Below.refl _ _⟩
theorem new_any (w:World) (fuel:Int) (n:Nat) (hn:max fuel 0=(n:Int)) (h2:n≤1000000):Calls Tryz.prog 14 #[.int .i64 fuel] w fun e w' =>
 e=.returned (.pointer (some ⟨w.heap.size,0,none⟩))∧EnvAt w' w.heap.size n (.slice none 0 0) []∧Below w.heap.size w w':=by
 obtain ⟨w1,hw1⟩:∃ w1,w.alloc (.cells #[.int .i64 (n:Int),.slice none 0 0] 75)=w1:=⟨_,rfl⟩
 have hb1:Below w.heap.size w w1:=hw1▸(Below.refl _ _).alloc (Nat.le_refl _) _
 have hk1:Blk w1 w.heap.size 75 [.int .i64 (n:Int),.slice none 0 0]:=hw1▸Blk.new w _ _
 have HE:Hid (EnvAt w1 w.heap.size n (.slice none 0 0) []):=Lib.hid ⟨hk1,Own.nil _ _ _,(by simp [Value.ownBlock]),(fun k hk=>by cases hk),h2,Nat.zero_le _⟩
 have HB:=Lib.hid hb1
 have HW:=Lib.hid hw1
 have HN:=Lib.hid hn
 clear hb1 hk1 hw1 hn
 go_enter Tryz.func14,Tryz.ntmps14
 go_wp2
 rw [HN.out,HW.out]
 go_ret
 exact ⟨rfl,HE.out,HB.out⟩
theorem drop_any (w:World) (eb f:Nat) (v:Value) (l:List KnM) (k:KnM) (h:EnvAt w eb f v (l++[k])):Calls Tryz.prog 75 #[.pointer (some ⟨eb,0,none⟩),.int .i64 1] w fun e w' =>
 ∃ v',e=.returned (.pointer (some ⟨eb,0,none⟩))∧EnvAt w' eb f v' l∧EnvS w w' eb v v':=by
 have hlen:(l++[k]).length=l.length+1:=by simp
 have hown:=h.own
 rw [hlen] at hown
 obtain ⟨g,off,cap,rfl⟩:=own_form_pos hown (by omega)
 obtain ⟨_,_,hform,hcap1,hcap2⟩:=hown.sl (B:=fun _=>True) (fun _ _=>trivial) |>.form
 cases hform
 have hlim:=h.lim
 rw [hlen] at hlim
 have c1:w.cell? ⟨eb,1,none⟩=some (.slice (some ⟨g,off,none⟩) (l.length+1) cap):=h.blk.cell 1
 have hfz:∀ i,w.frozen? ⟨eb,i,none⟩=false:=h.blk.frozen
 have hlt:=h.blk.lt
 have hc1:l.length≤cap:=by omega
 have hq:(l.length:Int)+1 - min ((l.length:Int)+1) 1=(l.length:Int):=by omega
 have HH:=Lib.hid h
 have HO:=Lib.hid hown
 clear h hown hlen
 go_enter Tryz.func75,Tryz.ntmps75
 go_upto_region 2 with fail
 refine wp_region_lit_plan [] [(0,0),(1,0),(2,0),(3,0),(5,0),(6,0),(7,0),(10,0),(11,0),(12,0),(13,0),(14,0),(4,1),(8,1),(9,0),(15,1),(16,0),(17,0),(18,0),(19,0),(20,0),(21,0),(22,4)] (fun _=>False) (by kernel_rfl) (by kernel_rfl) (fun c a d v w h=>by cases d<;>exact h) ?_
 go_upto_region 3 with (first|(refine stp ?_))
 have hs:EnvS w (w.setCell ⟨eb,1,none⟩ (.slice (some ⟨g,off,none⟩) l.length cap)) eb (.slice (some ⟨g,off,none⟩) (l.length+1) cap) (.slice (some ⟨g,off,none⟩) l.length cap) :=
  ⟨(Only.refl _ w).setCell (fun _=>.inl rfl) _,fun q hq=>.inl hq⟩
 have hh:=HH.out
 have ho:=HO.out.take (m:=l.length) (Nat.le_succ _)
 rw [knC_take] at ho
 have hne:(Value.slice (some ⟨g,off,none⟩) l.length cap).ownBlock≠some eb:=hh.ne
 have HE:Hid (EnvAt (w.setCell ⟨eb,1,none⟩ (.slice (some ⟨g,off,none⟩) l.length cap)) eb f (.slice (some ⟨g,off,none⟩) l.length cap) l) :=
  Lib.hid ⟨hh.blk.set 1 _,ho.setOther hne _,hne,fun y hy=>(hh.kn y (List.mem_append_left _ hy)).next hs,hh.fuel,by omega⟩
 have HS:=Lib.hid hs
 clear hs hh ho
 go_wp2_with fail
 go_ret
 exact ⟨_,rfl,HE.out.below (Below.refl _ _).drew,HS.out.below (Below.refl _ _).drew⟩
theorem any_next {α:Type} (p:α→Bool) (l:List α) (k:Nat) (h:k < l.length) (ha:(l.take k).any p=false) (hp:p l[k]=false):(l.take (k+1)).any p=false:=by
 rw [List.take_succ_eq_append_getElem h,List.any_append,ha,List.any_cons,hp];rfl
theorem any_hit {α:Type} (p:α→Bool) (l:List α) (k:Nat) (h:k < l.length) (hp:p l[k]=true):l.any p=true:=List.any_eq_true.2 ⟨_,List.getElem_mem h,hp⟩
def txC (l:List ByteArray):List Value:=l.map .string
theorem txC_len (l:List ByteArray):(txC l).length=l.length:=by simp [txC]
theorem txC_cell {w:World} {g off:Nat} {l:List ByteArray} {k:Nat} (hk:k < l.length) (hc:∀ j,j < (txC l).length→w.cell? ⟨g,off+j,none⟩=(txC l)[j]?):w.cell? ⟨g,off+k,none⟩=some (.string l[k]):=by
 rw [hc k (by rw [txC_len];exact hk)]
 simp [txC,hk]
def resT:List ByteArray:=[⟨#[97,110,100]⟩,⟨#[111,114]⟩,⟨#[110,111,116]⟩,⟨#[116,114,117,101]⟩,⟨#[102,97,108,115,101]⟩,⟨#[108,101,116]⟩,⟨#[115,101,116]⟩,⟨#[105,110,115,101,114,116]⟩,⟨#[117,112,100,97,116,101]⟩,⟨#[100,101,108,101,116,101]⟩,⟨#[102,111,114]⟩,⟨#[105,110]⟩,⟨#[119,104,101,114,101]⟩,⟨#[108,105,109,105,116]⟩,⟨#[105,102]⟩,⟨#[101,108,115,101]⟩,⟨#[101,109,105,116]⟩,⟨#[97,98,111,114,116]⟩,⟨#[114,101,112,108,121]⟩,⟨#[99,111,117,110,116]⟩,⟨#[115,117,109]⟩,⟨#[109,105,110]⟩,⟨#[109,97,120]⟩,⟨#[105,110,116]⟩,⟨#[116,101,120,116]⟩,⟨#[98,111,111,108]⟩,⟨#[116,97,98,108,101]⟩,⟨#[115,116,114,101,97,109]⟩,⟨#[119,105,110,100,111,119]⟩,⟨#[115,105,110,107]⟩,⟨#[112,114,111,99]⟩,⟨#[107,101,121]⟩,⟨#[117,110,105,113,117,101]⟩,⟨#[105,110,100,101,120]⟩,⟨#[112,97,114,116,115]⟩,⟨#[98,121]⟩,⟨#[111,110]⟩,⟨#[102,114,111,109]⟩,⟨#[97,116]⟩,⟨#[102,117,101,108]⟩,⟨#[116,117,112,108,101,115]⟩,⟨#[98,97,116,99,104,101,115]⟩,⟨#[115,108,105,100,101]⟩]
def sameT (t x:ByteArray):Bool:=x.toList == t.toList
def resB (t:ByteArray):Bool:=resT.any (sameT t)
def freeB (t:ByteArray):Bool:=namedB t && !resB t
def freesB (l:List ByteArray):Bool:=l.all namedB && !l.any resB
theorem sl_at {w:World} {B:Nat→Prop} {p:Option Addr} {c:Nat} {l:List ByteArray} (h:Sl w B 1 (.slice p l.length c) l.length (txC l)) {k:Nat} (hk:k < l.length):∃ g off,p=some ⟨g,off,none⟩∧g < w.heap.size∧w.cell? ⟨g,off+k,none⟩=some (.string l[k]):=by
 obtain ⟨g,off,cap,hv,_,_,_,hgl,hc⟩:=h.place (by omega)
 cases hv
 exact ⟨g,off,rfl,hgl,txC_cell hk hc⟩
def IdxOut (w:World) (b:Bool) (e:Ending) (w':World):Prop:=∃ r:Int,e=.returned (.int .i64 r)∧decide (0≤r)=b∧Below w.heap.size w w'
def BoolOut (w:World) (b:Bool) (e:Ending) (w':World):Prop:=e=.returned (.bool b)∧Below w.heap.size w w'
theorem indexs_any (w:World) (B:Nat→Prop) (v:Value) (l:List ByteArray) (t:ByteArray) (hl:Sl w B 1 v l.length (txC l)) :
 Calls Tryz.prog 128 #[v,.string t] w (IdxOut w (l.any (sameT t))):=by
 obtain ⟨p,cap,rfl,hc1,hc2⟩:=hl.form
 have HL:=Lib.hid hl
 clear hl
 go_enter Tryz.func128,Tryz.ntmps128
 go_wp2
 go_loopw [8] (fun i wr=>∃ k:Nat,i=.int .i64 k∧k≤l.length∧(l.take k).any (sameT t)=false∧Below w.heap.size w wr) (fun i _=>l.length - (intOf i).toNat)
 case atStart=>exact ⟨0,rfl,Nat.zero_le _,rfl,Below.refl _ _⟩
 case round =>
  obtain ⟨k,rfl,hk,hn,hb⟩:=hrel
  have HN:=Lib.hid hn
  have HB:=Lib.hid hb
  by_cases hka:k < l.length
  ·obtain ⟨g,off,rfl,hgl,e0⟩:=sl_at (HL.out.below hb) hka
   have HX:=Lib.hid (any_next (sameT t) l k hka hn)
   have HY:=Lib.hid (any_hit (sameT t) l k hka)
   generalize l[k]=x at *
   unfold sameT at HX HY
   clear hn hb
   cases hx:(x.toList == t.toList) with
   | true =>
    have HF:=Lib.hid (HY.out hx)
    have hx2:(t.toList == x.toList)=true:=by rw [beq_iff_eq] at hx ⊢;exact hx.symm
    clear HX HY
    go_wp2
    go_ret
    exact ⟨k,rfl,by rw [show l.any (sameT t)=true from HF.out];exact decide_eq_true (by omega),HB.out⟩
   | false =>
    have HF:=Lib.hid (HX.out hx)
    have hx2:(t.toList == x.toList)=false:=by rw [beq_eq_false_iff_ne] at hx ⊢;exact Ne.symm hx
    clear HX HY
    go_wp2
    go_roundw
    case rel=>exact ⟨k+1,by go_num,by omega,HF.out,HB.out⟩
    case measure=>(simp [intOf])<;>omega
  ·have HC:Hid (l.any (sameT t)=false):=by
    have:=HN.out
    rw [List.take_of_length_le (by omega)] at this
    exact this
   clear hn hb
   go_wp2
   go_ret
   exact ⟨-1,rfl,by rw [HC.out];rfl,HB.out⟩
theorem containss_any (w:World) (B:Nat→Prop) (v:Value) (l:List ByteArray) (t:ByteArray) (hl:Sl w B 1 v l.length (txC l)) :
 Calls Tryz.prog 119 #[v,.string t] w (BoolOut w (l.any (sameT t))):=by
 have HI:=Lib.hid (indexs_any w B v l t hl)
 obtain ⟨p,cap,rfl,hc1,hc2⟩:=hl.form
 clear hl
 go_enter Tryz.func119,Tryz.ntmps119
 go_wp2_with fail
 refine HI.out.mono ?_
 clear HI
 rintro e w2 ⟨r,rfl,hr,hb2⟩
 have HR:=Lib.hid hr
 have HB:=Lib.hid hb2
 clear hr hb2
 go_wp2
 go_ret
 exact ⟨by rw [←HR.out];rfl,HB.out⟩
theorem words_anyP (w:World):Calls Tryz.prog 120 #[] w fun e w'=>e=.returned (.slice (some ⟨w.heap.size,0,none⟩) 43 43)∧Sl w' (fun _=>True) 1 (.slice (some ⟨w.heap.size,0,none⟩) 43 43) 43 (txC resT)∧Below w.heap.size w w':=by
 obtain ⟨w1,hw1⟩:∃ w1,w.alloc (.cells #[.string ⟨#[97,110,100]⟩,.string ⟨#[111,114]⟩,.string ⟨#[110,111,116]⟩,.string ⟨#[116,114,117,101]⟩,.string ⟨#[102,97,108,115,101]⟩,.string ⟨#[108,101,116]⟩,.string ⟨#[115,101,116]⟩,.string ⟨#[105,110,115,101,114,116]⟩,.string ⟨#[117,112,100,97,116,101]⟩,.string ⟨#[100,101,108,101,116,101]⟩,.string ⟨#[102,111,114]⟩,.string ⟨#[105,110]⟩,.string ⟨#[119,104,101,114,101]⟩,.string ⟨#[108,105,109,105,116]⟩,.string ⟨#[105,102]⟩,.string ⟨#[101,108,115,101]⟩,.string ⟨#[101,109,105,116]⟩,.string ⟨#[97,98,111,114,116]⟩,.string ⟨#[114,101,112,108,121]⟩,.string ⟨#[99,111,117,110,116]⟩,.string ⟨#[115,117,109]⟩,.string ⟨#[109,105,110]⟩,.string ⟨#[109,97,120]⟩,.string ⟨#[105,110,116]⟩,.string ⟨#[116,101,120,116]⟩,.string ⟨#[98,111,111,108]⟩,.string ⟨#[116,97,98,108,101]⟩,.string ⟨#[115,116,114,101,97,109]⟩,.string ⟨#[119,105,110,100,111,119]⟩,.string ⟨#[115,105,110,107]⟩,.string ⟨#[112,114,111,99]⟩,.string ⟨#[107,101,121]⟩,.string ⟨#[117,110,105,113,117,101]⟩,.string ⟨#[105,110,100,101,120]⟩,.string ⟨#[112,97,114,116,115]⟩,.string ⟨#[98,121]⟩,.string ⟨#[111,110]⟩,.string ⟨#[102,114,111,109]⟩,.string ⟨#[97,116]⟩,.string ⟨#[102,117,101,108]⟩,.string ⟨#[116,117,112,108,101,115]⟩,.string ⟨#[98,97,116,99,104,101,115]⟩,.string ⟨#[115,108,105,100,101]⟩] 9)=w1:=⟨_,rfl⟩
 have hb1:Below w.heap.size w w1:=hw1▸(Below.refl _ _).alloc (Nat.le_refl _) _
 have hs1:Sl w1 (fun _=>True) 1 (.slice (some ⟨w.heap.size,0,none⟩) 43 43) 43 (txC resT):=hw1▸(Own.made w 9 1 (txC resT) [] 43 43 rfl (fun u hu=>by
  obtain ⟨x,_,rfl⟩:=List.mem_map.1 hu
  rfl) (Nat.le_refl _) (by decide) (Nat.le_refl 43)).sl (fun _ _=>trivial)
 have HB:=Lib.hid hb1
 have HS:=Lib.hid hs1
 clear hb1 hs1
 go_enter Tryz.func120,Tryz.ntmps120
 go_wp2
 go_ret
 exact ⟨rfl,HS.out,HB.out⟩
theorem sreserved_any (w:World) (t:ByteArray):Calls Tryz.prog 104 #[.string t] w (BoolOut w (resB t)):=by
 have HW:=Lib.hid (words_anyP w)
 go_enter Tryz.func104,Tryz.ntmps104
 go_wp2_with fail
 refine HW.out.mono ?_
 clear HW
 rintro e w2 ⟨rfl,hs,hb2⟩
 have HC:=Lib.hid (containss_any w2 _ _ resT t hs)
 have HB:=Lib.hid hb2
 clear hs hb2
 go_wp2_with fail
 refine HC.out.mono ?_
 clear HC
 rintro e w3 ⟨rfl,hb3⟩
 have HB3:=Lib.hid (HB.out.trans (hb3.mono HB.out.size))
 clear hb3
 go_wp2
 go_ret
 exact ⟨rfl,HB3.out⟩
abbrev resFn:Value:=.func (.func 104) #[] #[]
theorem indexfs_any (w:World) (B:Nat→Prop) (v:Value) (l:List ByteArray) (hl:Sl w B 1 v l.length (txC l)) :
 Calls Tryz.prog 118 #[v,.func (.func 104) #[] #[]] w (IdxOut w (l.any resB)):=by
 obtain ⟨p,cap,rfl,hc1,hc2⟩:=hl.form
 have HL:=Lib.hid hl
 clear hl
 go_enter Tryz.func118,Tryz.ntmps118
 go_wp2
 go_loopw [8] (fun i wr=>∃ k:Nat,i=.int .i64 k∧k≤l.length∧(l.take k).any resB=false∧Below w.heap.size w wr) (fun i _=>l.length - (intOf i).toNat)
 case atStart=>exact ⟨0,rfl,Nat.zero_le _,rfl,Below.refl _ _⟩
 case round =>
  obtain ⟨k,rfl,hk,hn,hb⟩:=hrel
  have HN:=Lib.hid hn
  have HB:=Lib.hid hb
  by_cases hka:k < l.length
  ·obtain ⟨g,off,rfl,hgl,e0⟩:=sl_at (HL.out.below hb) hka
   have HX:=Lib.hid (any_next resB l k hka hn)
   have HY:=Lib.hid (any_hit resB l k hka)
   have HC:=Lib.hid (sreserved_any wr l[k])
   generalize l[k]=x at *
   clear hn hb
   go_wp2_with fail
   refine HC.out.mono ?_
   clear HC
   rintro e w2 ⟨rfl,hb2⟩
   have HB2:=Lib.hid (HB.out.trans (hb2.mono HB.out.size))
   clear hb2
   cases hx:resB x with
   | true =>
    have HF:=Lib.hid (HY.out hx)
    clear HX HY hx
    go_wp2
    go_ret
    exact ⟨k,rfl,by rw [HF.out];exact decide_eq_true (by omega),HB2.out⟩
   | false =>
    have HF:=Lib.hid (HX.out hx)
    clear HX HY hx
    go_wp2
    go_roundw
    case rel=>exact ⟨k+1,by go_num,by omega,HF.out,HB2.out⟩
    case measure=>(simp [intOf])<;>omega
  ·have HC:Hid (l.any resB=false):=by
    have:=HN.out
    rw [List.take_of_length_le (by omega)] at this
    exact this
   clear hn hb
   go_wp2
   go_ret
   exact ⟨-1,rfl,by rw [HC.out];rfl,HB.out⟩
theorem containsfs_any (w:World) (B:Nat→Prop) (v:Value) (l:List ByteArray) (hl:Sl w B 1 v l.length (txC l)) :
 Calls Tryz.prog 103 #[v,.func (.func 104) #[] #[]] w (BoolOut w (l.any resB)):=by
 have HI:=Lib.hid (indexfs_any w B v l hl)
 obtain ⟨p,cap,rfl,hc1,hc2⟩:=hl.form
 clear hl
 go_enter Tryz.func103,Tryz.ntmps103
 go_wp2_with fail
 refine HI.out.mono ?_
 clear HI
 rintro e w2 ⟨r,rfl,hr,hb2⟩
 have HR:=Lib.hid hr
 have HB:=Lib.hid hb2
 clear hr hb2
 go_wp2
 go_ret
 exact ⟨by rw [←HR.out];rfl,HB.out⟩
theorem nameds_any (w:World) (B:Nat→Prop) (v:Value) (l:List ByteArray) (hl:Sl w B 1 v l.length (txC l)) (hm:∀ t∈l,t.size≤maxLen) :
 Calls Tryz.prog 102 #[v] w (BoolOut w (l.all namedB)):=by
 obtain ⟨p,cap,rfl,hc1,hc2⟩:=hl.form
 have HL:=Lib.hid hl
 have HM:=Lib.hid hm
 obtain ⟨out,hout⟩:∃ out,l.all namedB=out:=⟨_,rfl⟩
 rw [hout]
 have HO:=Lib.hid hout
 clear hl hm hout
 go_enter Tryz.func102,Tryz.ntmps102
 go_wp2
 go_loopw [7] (fun i wr=>∃ k:Nat,i=.int .i64 k∧k≤l.length∧(l.take k).all namedB=true∧Below w.heap.size w wr) (fun i _=>l.length - (intOf i).toNat)
 case atStart=>exact ⟨0,rfl,Nat.zero_le _,rfl,Below.refl _ _⟩
 case round =>
  obtain ⟨k,rfl,hk,hall,hb⟩:=hrel
  have HB:=Lib.hid hb
  have HA:=Lib.hid hall
  clear hall
  by_cases hka:k < l.length
  ·obtain ⟨g,off,rfl,hgl,e0⟩:=sl_at (HL.out.below hb) hka
   have HX:=Lib.hid (all_next namedB l k hka HA.out)
   have HY:=Lib.hid (all_not namedB l k hka)
   have HN:=Lib.hid (named_any wr l[k] (HM.out _ (List.getElem_mem hka)))
   generalize l[k]=x at *
   clear hb
   go_wp2_with fail
   refine HN.out.mono ?_
   clear HN
   rintro e w2 ⟨rfl,hb2⟩
   have HB2:=Lib.hid (HB.out.trans (hb2.mono HB.out.size))
   clear hb2
   cases hx:namedB x with
   | false =>
    have HF:=Lib.hid (HO.out.symm.trans (HY.out hx))
    clear HX HY hx
    go_wp2
    go_ret
    exact ⟨by rw [HF.out];rfl,HB2.out⟩
   | true =>
    have HF:=Lib.hid (HX.out hx)
    clear HX HY hx
    go_wp2
    go_roundw
    case rel=>exact ⟨k+1,by go_num,by omega,HF.out,HB2.out⟩
    case measure=>(simp [intOf])<;>omega
  ·have HC:Hid (out=true):=by
    have:=HA.out
    rw [List.take_of_length_le (by omega)] at this
    exact Lib.hid (HO.out.symm.trans this)
   clear hb
   go_wp2
   go_ret
   exact ⟨by rw [HC.out];rfl,HB.out⟩
theorem sfree_any (w:World) (B:Nat→Prop) (v:Value) (l:List ByteArray) (hl:Sl w B 1 v l.length (txC l)) (hm:∀ t∈l,t.size≤maxLen) :
 Calls Tryz.prog 86 #[v] w (BoolOut w (freesB l)):=by
 have HN:=Lib.hid (nameds_any w B v l hl hm)
 have HC:=Lib.hid (fun W (h:Below w.heap.size w W)=>containsfs_any W B v l (hl.below h))
 obtain ⟨p,cap,rfl,hc1,hc2⟩:=hl.form
 unfold freesB
 clear hl hm
 go_enter Tryz.func86,Tryz.ntmps86
 go_wp2_with fail
 refine HN.out.mono ?_
 clear HN
 rintro e w2 ⟨rfl,hb2⟩
 have HC2:=Lib.hid (HC.out w2 hb2)
 have HB:=Lib.hid hb2
 clear hb2 HC
 cases hn:l.all namedB with
 | false =>
  go_wp2
  go_ret
  exact ⟨by rw [hn];rfl,HB.out⟩
 | true =>
  go_wp2_with fail
  refine HC2.out.mono ?_
  clear HC2
  rintro e w3 ⟨rfl,hb3⟩
  have HB3:=Lib.hid (HB.out.trans (hb3.mono HB.out.size))
  clear hb3
  go_wp2
  go_ret
  exact ⟨by rw [hn];rfl,HB3.out⟩
theorem index_int (w:World) (B:Nat→Prop) (v:Value) (l:List Int) (x:Int) (hl:Sl w B 1 v l.length (ints l)) :
 Calls Tryz.prog 88 #[v,.int .i64 x] w (IdxOut w (l.any (fun y=>y == x))):=by
 obtain ⟨p,cap,rfl,hc1,hc2⟩:=hl.form
 have HL:=Lib.hid hl
 clear hl
 go_enter Tryz.func88,Tryz.ntmps88
 go_wp2
 go_loopw [8] (fun i wr=>∃ k:Nat,i=.int .i64 k∧k≤l.length∧(l.take k).any (fun y=>y == x)=false∧Below w.heap.size w wr) (fun i _=>l.length - (intOf i).toNat)
 case atStart=>exact ⟨0,rfl,Nat.zero_le _,rfl,Below.refl _ _⟩
 case round =>
  obtain ⟨k,rfl,hk,hn,hb⟩:=hrel
  have HN:=Lib.hid hn
  have HB:=Lib.hid hb
  by_cases hka:k < l.length
  ·obtain ⟨g,off,cap1,hv,_,_,_,hlt,hc⟩:=(HL.out.below hb).place (by omega)
   cases hv
   have e0:wr.cell? ⟨g,off+k,none⟩=some (.int .i64 l[k]):=by
    rw [hc k (by simpa [ints] using hka)]
    simp [ints]
   have HX:=Lib.hid (any_next (fun y=>y == x) l k hka hn)
   have HY:=Lib.hid (any_hit (fun y=>y == x) l k hka)
   generalize l[k]=y at *
   clear hn hb hc
   by_cases hxy:y=x
   ·subst hxy
    have HC:=Lib.hid (HY.out (by simp))
    clear HX HY
    go_wp2
    go_ret
    exact ⟨k,rfl,by rw [HC.out];exact decide_eq_true (by omega),HB.out⟩
   ·have HC:=Lib.hid (HX.out (by simp [hxy]))
    clear HX HY
    have d1:(x == y)=false:=beq_eq_false_iff_ne.2 (Ne.symm hxy)
    go_wp2
    go_roundw
    case rel=>exact ⟨k+1,by go_num,by omega,HC.out,HB.out⟩
    case measure=>(simp [intOf])<;>omega
  ·have HC:Hid (l.any (fun y=>y == x)=false):=by
    have:=HN.out
    rw [List.take_of_length_le (by omega)] at this
    exact this
   clear hn hb
   go_wp2
   go_ret
   exact ⟨-1,rfl,by rw [HC.out];rfl,HB.out⟩
theorem contains_int (w:World) (B:Nat→Prop) (v:Value) (l:List Int) (x:Int) (hl:Sl w B 1 v l.length (ints l)) :
 Calls Tryz.prog 69 #[v,.int .i64 x] w (BoolOut w (l.any (fun y=>y == x))):=by
 have HI:=Lib.hid (index_int w B v l x hl)
 obtain ⟨p,cap,rfl,hc1,hc2⟩:=hl.form
 clear hl
 go_enter Tryz.func69,Tryz.ntmps69
 go_wp2_with fail
 refine HI.out.mono ?_
 clear HI
 rintro e w2 ⟨r,rfl,hr,hb2⟩
 have HR:=Lib.hid hr
 have HB:=Lib.hid hb2
 clear hr hb2
 go_wp2
 go_ret
 exact ⟨by rw [←HR.out];rfl,HB.out⟩
def isK (nm:ByteArray) (p:Int→Bool) (k:KnM):Bool:=(k.name.toList == nm.toList) && p k.is
def findM (l:List KnM) (nm:ByteArray) (p:Int→Bool):Option KnM:=l.reverse.find? (isK nm p)
theorem findM_a (l:List KnM) (nm:ByteArray) (p:Int→Bool):findK (l.map KnM.a) nm p=(findM l nm p).map KnM.a:=by
 unfold findK findM
 rw [←List.map_reverse,List.find?_map]
 rfl
theorem findM_none {l:List KnM} {nm:ByteArray} {p:Int→Bool} (h:∀ m (hm:m < l.length),isK nm p l[m]=false):findM l nm p=none:=by
 unfold findM
 rw [List.find?_eq_none]
 intro x hx
 obtain ⟨m,hm,rfl⟩:=List.getElem_of_mem (List.mem_reverse.1 hx)
 rw [h m hm]
 decide
theorem findM_hit {l:List KnM} {nm:ByteArray} {p:Int→Bool} {i:Nat} (hi:i < l.length) (h1:isK nm p l[i]=true) (h:∀ m (hm:m < l.length),i < m→isK nm p l[m]=false):findM l nm p=some l[i]:=by
 unfold findM
 have e:l=l.take i++l[i]::l.drop (i+1):=by
  rw [←List.drop_eq_getElem_cons hi,List.take_append_drop]
 have hd:(l.drop (i+1)).reverse.find? (isK nm p)=none:=by
  rw [List.find?_eq_none]
  intro x hx
  obtain ⟨m,hm,rfl⟩:=List.getElem_of_mem (List.mem_reverse.1 hx)
  rw [List.length_drop] at hm
  rw [List.getElem_drop,h _ (by omega) (by omega)]
  decide
 generalize hx:l[i]=x at *
 rw [e,List.reverse_append,List.reverse_cons,List.append_assoc,List.find?_append,hd]
 simp [List.find?_cons,h1]
theorem findM_mem {l:List KnM} {nm:ByteArray} {p:Int→Bool} {k:KnM} (h:findM l nm p=some k):k∈l∧isK nm p k=true:=by
 unfold findM at h
 exact ⟨List.mem_reverse.1 (List.mem_of_find?_eq_some h),List.find?_some h⟩
theorem EnvAt.kcell {w:World} {eb f:Nat} {v:Value} {l:List KnM} (h:EnvAt w eb f v l) {i:Nat} (hi:i < l.length) :
 ∃ g off cap pc nc cc pr nr cr,v=.slice (some ⟨g,off,none⟩) l.length cap∧g < w.heap.size∧l[i].cv=.slice pc nc cc∧l[i].rv=.slice pr nr cr∧w.cell? ⟨g,off+i*7,none⟩=some (.string l[i].name)∧w.cell? ⟨g,off+i*7+1,none⟩=some (.int .i64 l[i].val.kind) ∧
  w.cell? ⟨g,off+i*7+2,none⟩=some (.int .i64 l[i].val.n)∧w.cell? ⟨g,off+i*7+3,none⟩=some (.string l[i].val.s)∧w.cell? ⟨g,off+i*7+4,none⟩=some (.slice pc nc cc)∧w.cell? ⟨g,off+i*7+5,none⟩=some (.slice pr nr cr) ∧
  w.cell? ⟨g,off+i*7+6,none⟩=some (.int .i64 l[i].is):=by
 obtain ⟨g,off,cap,hv,_,_,_,hgl,hcs⟩:=(h.own.sl (B:=fun _=>True) (fun _ _=>trivial)).place (by omega)
 have h0:∀ r,r < 7→w.cell? ⟨g,off+(i*7+r),none⟩=(l[i].cells)[r]?:=fun r hr=>by rw [hcs _ (by rw [knC_len];omega),knC_at l i r hi hr]
 have hk:=h.kn l[i] (List.getElem_mem hi)
 obtain ⟨pc,cc,hc,_⟩:=hk.cols.form
 obtain ⟨pr,cr,hr,_⟩:=hk.rows.1.form
 exact ⟨g,off,cap,pc,_,cc,pr,_,cr,hv,hgl,hc,hr,h0 0 (by omega),h0 1 (by omega),h0 2 (by omega),h0 3 (by omega),(h0 4 (by omega)).trans (congrArg some hc),(h0 5 (by omega)).trans (congrArg some hr),h0 6 (by omega)⟩
def FindOut (w:World) (o:Option KnM) (e:Ending) (w':World):Prop :=
 Below w.heap.size w w'∧((∃ k pc nc cc pr nr cr,o=some k∧k.cv=.slice pc nc cc∧k.rv=.slice pr nr cr∧e=.returned (.tuple #[.agg #[.string k.name,.int .i64 k.val.kind,.int .i64 k.val.n,.string k.val.s,.slice pc nc cc,.slice pr nr cr,.int .i64 k.is],.bool true])) ∨
  (o=none∧e=.returned (.tuple #[.agg #[.string ⟨#[]⟩,.int .i64 0,.int .i64 0,.string ⟨#[]⟩,.slice none 0 0,.slice none 0 0,.int .i64 0],.bool false])))
theorem seven_cells {w:World} {b:Nat} {t:TypeId} {a0 a1 a2 a3 a4 a5 a6:Value} (h:Blk w b t [a0,a1,a2,a3,a4,a5,a6]):w.cell? ⟨b,0,none⟩=some a0∧w.cell? ⟨b,1,none⟩=some a1∧w.cell? ⟨b,2,none⟩=some a2∧w.cell? ⟨b,3,none⟩=some a3∧w.cell? ⟨b,4,none⟩=some a4∧w.cell? ⟨b,5,none⟩=some a5∧w.cell? ⟨b,6,none⟩=some a6 :=
 ⟨h.cell 0,h.cell 1,h.cell 2,h.cell 3,h.cell 4,h.cell 5,h.cell 6⟩
theorem set_sevenE {w:World} {b:Nat} {t:TypeId} {a0 a1 a2 a3 a4 a5 a6:Value} (h:Blk w b t [a0,a1,a2,a3,a4,a5,a6]) (v0 v1 v2 v3 v4 v5 v6:Value) :
 Blk (((((((w.setCell ⟨b,0,none⟩ v0).setCell ⟨b,1,none⟩ v1).setCell ⟨b,2,none⟩ v2).setCell ⟨b,3,none⟩ v3).setCell ⟨b,4,none⟩ v4).setCell ⟨b,5,none⟩ v5).setCell ⟨b,6,none⟩ v6) b t [v0,v1,v2,v3,v4,v5,v6] ∧
 Only (fun q=>q=b) w (((((((w.setCell ⟨b,0,none⟩ v0).setCell ⟨b,1,none⟩ v1).setCell ⟨b,2,none⟩ v2).setCell ⟨b,3,none⟩ v3).setCell ⟨b,4,none⟩ v4).setCell ⟨b,5,none⟩ v5).setCell ⟨b,6,none⟩ v6):=by
 refine ⟨?_,?_⟩
 ·have h1:=((((((h.set 0 v0).set 1 v1).set 2 v2).set 3 v3).set 4 v4).set 5 v5).set 6 v6
  simpa only [List.set_cons_zero,List.set_cons_succ] using h1
 ·have step:∀ {u:World} (i:Nat) (v:Value),Only (fun q=>q=b) w u→Only (fun q=>q=b) w (u.setCell ⟨b,i,none⟩ v):=fun i v h=>h.setCell (p:=⟨b,i,none⟩) (fun _=>rfl) v
  exact step 6 v6 (step 5 v5 (step 4 v4 (step 3 v3 (step 2 v2 (step 1 v1 (step 0 v0 (Only.refl _ w)))))))
theorem find_any (w:World) (eb f:Nat) (v:Value) (l:List KnM) (h:EnvAt w eb f v l) (nm:ByteArray) (pk:Option Addr) (nk ck:Nat) (ks:List Int) (B:Nat→Prop) (hks:Sl w B 1 (.slice pk nk ck) ks.length (ints ks)) :
 Calls Tryz.prog 47 #[.pointer (some ⟨eb,0,none⟩),.string nm,.slice pk nk ck] w (FindOut w (findM l nm (fun i=>ks.any (fun y=>y == i)))):=by
 obtain ⟨pv,cv,rfl,hcv1,hcv2⟩:=h.own.sl (B:=fun _=>True) (fun _ _=>trivial) |>.form
 obtain ⟨w1,hw1⟩:∃ w1,w.alloc (.cells #[.string ⟨#[]⟩,.int .i64 0,.int .i64 0,.string ⟨#[]⟩,.slice none 0 0,.slice none 0 0,.int .i64 0] 79)=w1:=⟨_,rfl⟩
 have hb1:Below w.heap.size w w1:=hw1▸(Below.refl _ _).alloc (Nat.le_refl _) _
 have hk1:Blk w1 w.heap.size 79 [.string ⟨#[]⟩,.int .i64 0,.int .i64 0,.string ⟨#[]⟩,.slice none 0 0,.slice none 0 0,.int .i64 0]:=hw1▸Blk.new w _ _
 have hE:=(h.below hb1).blk
 have c1:w1.cell? ⟨eb,1,none⟩=some (.slice pv l.length cv):=hE.cell 1
 have hlt:=hE.lt
 have HB1:=Lib.hid hb1
 have HK1:=Lib.hid hk1
 have HH:=Lib.hid h
 have HKS:=Lib.hid (fun W (hb:Below w.heap.size w W) x=>contains_int W B (.slice pk nk ck) ks x (hks.below hb))
 have hlim:=h.lim
 clear h hks hb1 hk1 hE
 go_enter Tryz.func47,Tryz.ntmps47
 go_wp2
 clear hw1 c1 hlt
 go_loopw [8] (fun iv wr=>∃ j:Nat,iv=.int .i64 ((j:Int) - 1)∧j≤l.length∧(∀ m (hm:m < l.length),j≤m→isK nm (fun i=>ks.any (fun y=>y == i)) l[m]=false)∧Below w.heap.size w wr∧Blk wr w.heap.size 79 [.string ⟨#[]⟩,.int .i64 0,.int .i64 0,.string ⟨#[]⟩,.slice none 0 0,.slice none 0 0,.int .i64 0]) (fun iv _=>(intOf iv+1).toNat)
 case atStart=>exact ⟨l.length,rfl,Nat.le_refl _,(fun m hm h=>by omega),HB1.out,HK1.out⟩
 case round =>
  obtain ⟨j,rfl,hj,hall,hb,hk⟩:=hrel
  obtain ⟨wo,rfl⟩:∃ wo:World,wo=wr:=⟨_,rfl⟩
  have HALL:=Lib.hid hall
  replace HB1:=Lib.hid hb
  replace HK1:=Lib.hid hk
  clear hall
  cases j with
  | zero =>
   obtain ⟨a0,a1,a2,a3,a4,a5,a6⟩:=seven_cells hk
   have hfr:∀ i,wo.frozen? ⟨w.heap.size,i,none⟩=false:=hk.frozen
   have hl:=hk.lt
   have HN:=Lib.hid (findM_none (fun m hm=>HALL.out m hm (Nat.zero_le _)))
   clear hb hk
   go_wp2
   obtain ⟨hkE,hoE⟩:=set_sevenE HK1.out (.string ⟨#[]⟩) (.int .i64 0) (.int .i64 0) (.string ⟨#[]⟩) (.slice none 0 0) (.slice none 0 0) (.int .i64 0)
   generalize ((((((wo.setCell ⟨w.heap.size,0,none⟩ (.string ⟨#[]⟩)).setCell ⟨w.heap.size,1,none⟩ (.int .i64 0)).setCell ⟨w.heap.size,2,none⟩ (.int .i64 0)).setCell ⟨w.heap.size,3,none⟩ (.string ⟨#[]⟩)).setCell ⟨w.heap.size,4,none⟩ (.slice none 0 0)).setCell ⟨w.heap.size,5,none⟩ (.slice none 0 0)).setCell ⟨w.heap.size,6,none⟩ (.int .i64 0)=wE at *
   obtain ⟨m0,m1,m2,m3,m4,m5,m6⟩:=seven_cells hkE
   exact bodyPost_ret (v:=.tuple #[.agg #[.string ⟨#[]⟩,.int .i64 0,.int .i64 0,.string ⟨#[]⟩,.slice none 0 0,.slice none 0 0,.int .i64 0],.bool false]) (by simp [results,Tryz.results47,go_sem,m0,m1,m2,m3,m4,m5,m6]) rfl ⟨HB1.out.trans (hoE.below HB1.out.size (fun q hq=>by omega)),.inr ⟨HN.out,rfl⟩⟩
  | succ i =>
   have hi:i < l.length:=hj
   have he:=HH.out.below hb
   obtain ⟨g,off,cap,pc,nc,cc,pr,nr,cr,hv,hgl,hcv,hrv,y0,y1,y2,y3,y4,y5,y6⟩:=he.kcell hi
   cases hv
   have c1:wo.cell? ⟨eb,1,none⟩=some (.slice (some ⟨g,off,none⟩) l.length cv):=he.blk.cell 1
   have hlt:=he.blk.lt
   have hii:((i+1:Nat):Int) - 1=(i:Int):=by omega
   have HHIT:=Lib.hid (fun h=>findM_hit (nm:=nm) (p:=fun i=>ks.any (fun y=>y == i)) hi h (fun m hm hlt=>HALL.out m hm hlt))
   have HNEXT:Hid (isK nm (fun i=>ks.any (fun y=>y == i)) l[i]=false→∀ m (hm:m < l.length),i≤m→isK nm (fun i=>ks.any (fun y=>y == i)) l[m]=false):=Lib.hid fun h m hm hle=>by
    by_cases e:m=i
    ·subst e;exact h
    ·exact HALL.out m hm (by omega)
   have HKC:=Lib.hid (HKS.out wo hb l[i].is)
   have HCV:=Lib.hid hcv
   have HRV:=Lib.hid hrv
   generalize l[i]=k at *
   unfold isK at HHIT
   clear he hb hcv hrv
   cases q1:(k.name.toList == nm.toList) with
   | false =>
    have HN2:=Lib.hid (HNEXT.out (by unfold isK;rw [q1];rfl))
    clear HHIT HNEXT hk
    go_wp2
    go_roundw
    case rel=>exact ⟨i,by go_num,by omega,HN2.out,HB1.out,HK1.out⟩
    case measure=>(simp [intOf])<;>omega
   | true =>
    clear hk
    go_wp2_with fail
    refine HKC.out.mono ?_
    clear HKC
    rintro e w2 ⟨rfl,hb2⟩
    have hk2:=HK1.out.below hb2
    have HB2:=Lib.hid (HB1.out.trans (hb2.mono HB1.out.size))
    have HK2:=Lib.hid hk2
    have z0:=(hb2.cell (p:=⟨g,off+i*7,none⟩) hgl).trans y0
    have z1:=(hb2.cell (p:=⟨g,off+i*7+1,none⟩) hgl).trans y1
    have z2:=(hb2.cell (p:=⟨g,off+i*7+2,none⟩) hgl).trans y2
    have z3:=(hb2.cell (p:=⟨g,off+i*7+3,none⟩) hgl).trans y3
    have z4:=(hb2.cell (p:=⟨g,off+i*7+4,none⟩) hgl).trans y4
    have z5:=(hb2.cell (p:=⟨g,off+i*7+5,none⟩) hgl).trans y5
    have z6:=(hb2.cell (p:=⟨g,off+i*7+6,none⟩) hgl).trans y6
    have b1:=(hb2.cell (p:=⟨eb,1,none⟩) hlt).trans c1
    have hgl2:=Nat.lt_of_lt_of_le hgl hb2.size
    have hlt2:=Nat.lt_of_lt_of_le hlt hb2.size
    obtain ⟨a0,a1,a2,a3,a4,a5,a6⟩:=seven_cells hk2
    have hfr:∀ i,w2.frozen? ⟨w.heap.size,i,none⟩=false:=hk2.frozen
    have hl:=hk2.lt
    clear hb2 hk2 y0 y1 y2 y3 y4 y5 y6 c1 hgl hlt
    cases q2:ks.any (fun y=>y == k.is) with
    | false =>
     have HN2:=Lib.hid (HNEXT.out (by unfold isK;rw [q1];exact q2))
     clear HHIT HNEXT
     go_wp2
     go_roundw
     case rel=>exact ⟨i,by go_num,by omega,HN2.out,HB2.out,HK2.out⟩
     case measure=>(simp [intOf])<;>omega
    | true =>
     have HF:=Lib.hid (HHIT.out (by rw [q1];exact q2))
     clear HHIT HNEXT
     go_wp2
     obtain ⟨hkE,hoE⟩:=set_sevenE HK2.out (.string k.name) (.int .i64 k.val.kind) (.int .i64 k.val.n) (.string k.val.s) (.slice pc nc cc) (.slice pr nr cr) (.int .i64 k.is)
     generalize ((((((w2.setCell ⟨w.heap.size,0,none⟩ (.string k.name)).setCell ⟨w.heap.size,1,none⟩ (.int .i64 k.val.kind)).setCell ⟨w.heap.size,2,none⟩ (.int .i64 k.val.n)).setCell ⟨w.heap.size,3,none⟩ (.string k.val.s)).setCell ⟨w.heap.size,4,none⟩ (.slice pc nc cc)).setCell ⟨w.heap.size,5,none⟩ (.slice pr nr cr)).setCell ⟨w.heap.size,6,none⟩ (.int .i64 k.is)=wE at *
     obtain ⟨m0,m1,m2,m3,m4,m5,m6⟩:=seven_cells hkE
     exact bodyPost_ret (v:=.tuple #[.agg #[.string k.name,.int .i64 k.val.kind,.int .i64 k.val.n,.string k.val.s,.slice pc nc cc,.slice pr nr cr,.int .i64 k.is],.bool true]) (by simp [results,Tryz.results47,go_sem,m0,m1,m2,m3,m4,m5,m6]) rfl ⟨HB2.out.trans (hoE.below HB2.out.size (fun q hq=>by omega)),.inl ⟨k,pc,nc,cc,pr,nr,cr,HF.out,HCV.out,HRV.out,rfl⟩⟩
theorem colA_bad {k:KnA} {nm:ByteArray} {f:Nat} (h:¬ (k.is=1∧0≤firstI (nameIs nm) k.cols)):colA k nm f=wrongA 13 f:=by
 unfold colA
 rw [if_neg h]
theorem colA_out {k:KnA} {nm:ByteArray} {f:Nat} {i:Nat} {r:List AV} (h:k.is=1) (hi:firstI (nameIs nm) k.cols=i) (hr:(k.rows[0]?).getD []=r) (ho:r.length≤i):colA k nm f=wrongA 13 f:=by
 unfold colA
 rw [if_pos ⟨h,by rw [hi];omega⟩,hr,hi,Int.toNat_natCast,List.getElem?_eq_none ho]
theorem colA_in {k:KnA} {nm:ByteArray} {f:Nat} {i:Nat} {r:List AV} (h:k.is=1) (hi:firstI (nameIs nm) k.cols=i) (hr:(k.rows[0]?).getD []=r) (ho:i < r.length):colA k nm f=(r[i],0,f):=by
 unfold colA
 rw [if_pos ⟨h,by rw [hi];omega⟩,hr,hi,Int.toNat_natCast,List.getElem?_eq_getElem ho]
theorem column_any (w:World) (B:Nat→Prop) (k:KnM) (hk:KnAt w B k) (pc pr:Option Addr) (nc cc nr cr:Nat) (hcv:k.cv=.slice pc nc cc) (hrv:k.rv=.slice pr nr cr) (nm:ByteArray) :
 Calls Tryz.prog 48 #[.agg #[.string k.name,.int .i64 k.val.kind,.int .i64 k.val.n,.string k.val.s,.slice pc nc cc,.slice pr nr cr,.int .i64 k.is],.string nm] w (PairOut w (colA k.a nm 0).1 (colA k.a nm 0).2.1):=by
 obtain ⟨w1,hw1⟩:∃ w1,w.alloc (.cells #[.string k.name,.int .i64 k.val.kind,.int .i64 k.val.n,.string k.val.s,.slice pc nc cc,.slice pr nr cr,.int .i64 k.is] 79)=w1:=⟨_,rfl⟩
 have hb1:Below w.heap.size w w1:=hw1▸(Below.refl _ _).alloc (Nat.le_refl _) _
 have hk1:Blk w1 w.heap.size 79 [.string k.name,.int .i64 k.val.kind,.int .i64 k.val.n,.string k.val.s,.slice pc nc cc,.slice pr nr cr,.int .i64 k.is]:=hw1▸Blk.new w _ _
 obtain ⟨w2,hw2⟩:∃ w2,w1.alloc (.cells #[.int .i64 0,.int .i64 0,.string ⟨#[]⟩] 35)=w2:=⟨_,rfl⟩
 have hb2:Below w1.heap.size w1 w2:=hw2▸(Below.refl _ _).alloc (Nat.le_refl _) _
 have hk2:Blk w2 w1.heap.size 35 [.int .i64 0,.int .i64 0,.string ⟨#[]⟩]:=hw2▸Blk.new w1 _ _
 have hl12:w.heap.size < w1.heap.size:=hk1.lt
 have hb12:=hb1.trans (hb2.mono hb1.size)
 have hk12:=hk1.below hb2
 have hnil:∀ {W:World} {B:Nat→Prop} {sz:Nat},Sl W B sz (.slice none 0 0) 0 []:=fun {W B sz}=>⟨by simp,Ones.nil,.inl ⟨none,0,rfl,rfl,Nat.zero_le _,fun _=>rfl⟩⟩
 have hcols:=hk.cols
 rw [hcv] at hcols
 have hC:=col_any w2 B ⟨⟨#[]⟩,.slice pc nc cc,k.cols,.slice none 0 0,[],0,0,0⟩ nm ⟨hcols.below hb12,⟨hnil,fun x hx=>by cases hx⟩,hk.nms,Nat.zero_le _⟩
 unfold SchV.agg at hC
 simp only at hC
 have HC:=Lib.hid hC
 have HB0:=Lib.hid hb12
 have HK0:=Lib.hid hk2
 have HKB:=Lib.hid hk12
 have HKN:=Lib.hid hk
 have HRV:=Lib.hid hrv
 obtain ⟨d0,d1,d2,d3,d4,d5,d6⟩:=seven_cells hk12
 have hld:=hk12.lt
 clear hb1 hk1 hb2 hk2 hb12 hk12 hnil hcols hC hk hcv hrv
 go_enter Tryz.func48,Tryz.ntmps48
 go_wp2_with fail
 clear hw1 hw2 d0 d1 d2 d3 d4 d5 d6 hld
 refine HC.out.mono ?_
 clear HC
 rintro e w3 ⟨rfl,hb3⟩
 have hkb3:=HKB.out.below hb3
 have HB:=Lib.hid (HB0.out.trans (hb3.mono HB0.out.size))
 have HK:=Lib.hid (HK0.out.below hb3)
 obtain ⟨d0,d1,d2,d3,d4,d5,d6⟩:=seven_cells hkb3
 have hld:=hkb3.lt
 clear hkb3 hb3
 obtain ⟨i,hi⟩:∃ i,firstI (nameIs nm) k.cols=i:=⟨_,rfl⟩
 have HI:=Lib.hid hi
 rw [hi]
 clear hi
 by_cases h1:k.is=1
 ·by_cases h2:0≤i
  ·obtain ⟨i,rfl⟩:=Int.eq_ofNat_of_zero_le h2
   have hrl:=HKN.out.one h1
   have hrows:=HKN.out.rows.below HB.out
   obtain ⟨g,off,cap,hv,e0⟩:=hrows.at (k:=0) hrl
   have hr0:=hrows.2 _ (List.getElem_mem hrl)
   obtain ⟨p0,c0,hv0,hc01,hc02⟩:=hr0.form
   obtain ⟨g',off',cap',hv',_,_,_,hgl,_⟩:=hrows.1.place hrl
   have hrr:((k.rows.map RowV.l)[0]?).getD []=(k.rows[0]).l:=by rw [List.getElem?_map,List.getElem?_eq_getElem hrl];rfl
   rw [HRV.out] at hv hv'
   cases hv
   cases hv'
   rw [hv0,Nat.add_zero] at e0
   have t2:decide ((i:Int) < 0)=false:=decide_eq_false (by omega)
   generalize k.rows[0]=r0 at *
   by_cases h3:i < r0.l.length
   ·skip
    have HA:=Lib.hid (colA_in (k:=k.a) (f:=0) h1 HI.out hrr h3)
    obtain ⟨g2,off2,cap2,hv2,hgl2,x0,x1,x2⟩:=sl_av hr0 h3
    rw [hv0] at hv2
    cases hv2
    obtain ⟨z0,z1,z2⟩:=three_cells HK.out
    have hfr:=fun i=>HK.out.frozen i
    have hlk:=HK.out.lt
    generalize r0.l[i]=x at *
    have t1:(k.is != 1)=false:=by simp [h1]
    clear hrows hr0 hv0 h2 hrr
    go_wp2
    obtain ⟨hkE,hoE⟩:=set_threeE HK.out (.int .i64 x.kind) (.int .i64 x.n) (.string x.s)
    generalize ((w3.setCell ⟨w1.heap.size,0,none⟩ (.int .i64 x.kind)).setCell ⟨w1.heap.size,1,none⟩ (.int .i64 x.n)).setCell ⟨w1.heap.size,2,none⟩ (.string x.s)=wE at *
    obtain ⟨m0,m1,m2⟩:=three_cells hkE
    exact bodyPost_ret (v:=.tuple #[.agg #[.int .i64 x.kind,.int .i64 x.n,.string x.s],.int .i64 0]) (by simp [results,Tryz.results48,go_sem,m0,m1,m2]) rfl ⟨by rw [HA.out],HB.out.trans (hoE.below HB.out.size (fun q hq=>by omega))⟩
   ·skip
    have HA:=Lib.hid (colA_out (k:=k.a) (f:=0) h1 HI.out hrr (by omega))
    have t1:(k.is != 1)=false:=by simp [h1]
    have h3':r0.l.length≤i:=by omega
    clear hrows hr0 hv0 h2 hrr
    have HR:=Lib.hid (wrong_e w3 13)
    go_wp2_with fail
    refine HR.out.mono ?_
    clear HR
    rintro e w4 ⟨rfl,hb4⟩
    unfold zeroA
    have hk4:=HK.out.below hb4
    have HB4:=Lib.hid (HB.out.trans (hb4.mono HB.out.size))
    have HK4:=Lib.hid hk4
    obtain ⟨a0,a1,a2⟩:=three_cells hk4
    have hfr:=fun i=>hk4.frozen i
    have hla:=hk4.lt
    clear hb4 hk4
    go_wp2
    obtain ⟨hkE,hoE⟩:=set_threeE HK4.out (.int .i64 0) (.int .i64 0) (.string ⟨#[]⟩)
    generalize ((w4.setCell ⟨w1.heap.size,0,none⟩ (.int .i64 0)).setCell ⟨w1.heap.size,1,none⟩ (.int .i64 0)).setCell ⟨w1.heap.size,2,none⟩ (.string ⟨#[]⟩)=wE at *
    obtain ⟨m0,m1,m2⟩:=three_cells hkE
    exact bodyPost_ret (v:=.tuple #[.agg #[.int .i64 0,.int .i64 0,.string ⟨#[]⟩],.int .i64 13]) (by simp [results,Tryz.results48,go_sem,m0,m1,m2]) rfl ⟨by rw [HA.out];rfl,HB4.out.trans (hoE.below HB4.out.size (fun q hq=>by omega))⟩
  ·skip
   have HA:=Lib.hid (colA_bad (k:=k.a) (nm:=nm) (f:=0) (fun h=>h2 (HI.out▸h.2)))
   have t1:(k.is != 1)=false:=by simp [h1]
   have t2:decide (i < 0)=true:=decide_eq_true (by omega)
   have HR:=Lib.hid (wrong_e w3 13)
   go_wp2_with fail
   refine HR.out.mono ?_
   clear HR
   rintro e w4 ⟨rfl,hb4⟩
   unfold zeroA
   have hk4:=HK.out.below hb4
   have HB4:=Lib.hid (HB.out.trans (hb4.mono HB.out.size))
   have HK4:=Lib.hid hk4
   obtain ⟨a0,a1,a2⟩:=three_cells hk4
   have hfr:=fun i=>hk4.frozen i
   have hla:=hk4.lt
   clear hb4 hk4
   go_wp2
   obtain ⟨hkE,hoE⟩:=set_threeE HK4.out (.int .i64 0) (.int .i64 0) (.string ⟨#[]⟩)
   generalize ((w4.setCell ⟨w1.heap.size,0,none⟩ (.int .i64 0)).setCell ⟨w1.heap.size,1,none⟩ (.int .i64 0)).setCell ⟨w1.heap.size,2,none⟩ (.string ⟨#[]⟩)=wE at *
   obtain ⟨m0,m1,m2⟩:=three_cells hkE
   exact bodyPost_ret (v:=.tuple #[.agg #[.int .i64 0,.int .i64 0,.string ⟨#[]⟩],.int .i64 13]) (by simp [results,Tryz.results48,go_sem,m0,m1,m2]) rfl ⟨by rw [HA.out];rfl,HB4.out.trans (hoE.below HB4.out.size (fun q hq=>by omega))⟩
 ·skip
  have HA:=Lib.hid (colA_bad (k:=k.a) (nm:=nm) (f:=0) (fun h=>h1 h.1))
  have t1:(k.is != 1)=true:=by simp [h1]
  have HR:=Lib.hid (wrong_e w3 13)
  go_wp2_with fail
  refine HR.out.mono ?_
  clear HR
  rintro e w4 ⟨rfl,hb4⟩
  unfold zeroA
  have hk4:=HK.out.below hb4
  have HB4:=Lib.hid (HB.out.trans (hb4.mono HB.out.size))
  have HK4:=Lib.hid hk4
  obtain ⟨a0,a1,a2⟩:=three_cells hk4
  have hfr:=fun i=>hk4.frozen i
  have hla:=hk4.lt
  clear hb4 hk4
  go_wp2
  obtain ⟨hkE,hoE⟩:=set_threeE HK4.out (.int .i64 0) (.int .i64 0) (.string ⟨#[]⟩)
  generalize ((w4.setCell ⟨w1.heap.size,0,none⟩ (.int .i64 0)).setCell ⟨w1.heap.size,1,none⟩ (.int .i64 0)).setCell ⟨w1.heap.size,2,none⟩ (.string ⟨#[]⟩)=wE at *
  obtain ⟨m0,m1,m2⟩:=three_cells hkE
  exact bodyPost_ret (v:=.tuple #[.agg #[.int .i64 0,.int .i64 0,.string ⟨#[]⟩],.int .i64 13]) (by simp [results,Tryz.results48,go_sem,m0,m1,m2]) rfl ⟨by rw [HA.out];rfl,HB4.out.trans (hoE.below HB4.out.size (fun q hq=>by omega))⟩
end Go.Proofs.YtnpplhkpnbonaaaGreat
namespace Go.Proofs.YtnpplhkpnbonaaaGreat
open Go.RowKit Go.Afx
namespace M64
theorem maskN (a:Nat) (ha:a < 18446744073709551616):bits .and .u64 (a:Int) 4294967295=((a % 4294967296:Nat):Int):=by
 have h:=bits_and_u64_nat a 4294967295 ha (by omega)
 have e:a &&& 4294967295=a % 4294967296:=Nat.and_two_pow_sub_one_eq_mod a 32
 rw [e] at h
 exact h
theorem divN (a:Nat):(a:Int) / 4294967296=((a / 4294967296:Nat):Int):=by omega
theorem mulN (a b:Nat):(a:Int)*(b:Int)=((a*b:Nat):Int):=(Int.natCast_mul a b).symm
theorem addN (a b:Nat):(a:Int)+(b:Int)=((a+b:Nat):Int):=(Int.natCast_add a b).symm
theorem wrapN (a:Nat) (ha:a < 18446744073709551616):IntKind.u64.wrap (a:Int)=(a:Int):=by rw [IntKind.wrap_u64];omega
theorem wrapM (a:Nat):IntKind.u64.wrap (a:Int)=((a % 18446744073709551616:Nat):Int):=by rw [IntKind.wrap_u64];omega
end M64
theorem mul64_nat (x y:Nat) (hx:x < 18446744073709551616) (hy:y < 18446744073709551616) (w:World) :
 Calls Tryz.prog 109 #[.int .u64 x,.int .u64 y] w fun e w'=>e=.returned (.tuple #[.int .u64 ((x*y / 18446744073709551616:Nat):Int),.int .u64 ((x*y % 18446744073709551616:Nat):Int)])∧w'=w:=by
 obtain ⟨bd,bt,bw,hhi⟩:=Lib.mul64_hi x y hx hy
 have ba:=Lib.half_mul_le (a:=x / 4294967296) (b:=y / 4294967296) (by omega) (by omega)
 have bb:=Lib.half_mul_le (a:=x / 4294967296) (b:=y % 4294967296) (by omega) (by omega)
 have bc:=Lib.half_mul_le (a:=x % 4294967296) (b:=y / 4294967296) (by omega) (by omega)
 have ba':x / 4294967296*(y / 4294967296) < 18446744073709551616:=by omega
 have bb':x / 4294967296*(y % 4294967296) < 18446744073709551616:=by omega
 have bc':x % 4294967296*(y / 4294967296) < 18446744073709551616:=by omega
 have bh1:x / 4294967296*(y / 4294967296)+(x / 4294967296*(y % 4294967296)+x % 4294967296*(y % 4294967296) / 4294967296) / 4294967296 < 18446744073709551616:=by omega
 have bh:x / 4294967296*(y / 4294967296)+(x / 4294967296*(y % 4294967296)+x % 4294967296*(y % 4294967296) / 4294967296) / 4294967296+((x / 4294967296*(y % 4294967296)+x % 4294967296*(y % 4294967296) / 4294967296) % 4294967296+x % 4294967296*(y / 4294967296)) / 4294967296 < 18446744073709551616:=by omega
 go_enter Tryz.func109,Tryz.ntmps109
 go_wp2
 simp only [M64.maskN x hx,M64.maskN y hy,M64.divN,M64.mulN,M64.addN,M64.wrapN _ bd,M64.wrapN _ bb',M64.wrapN _ bt,M64.maskN _ bt,M64.wrapN _ bc',M64.wrapN _ bw,M64.wrapN _ ba',M64.wrapN _ bh1,M64.wrapN _ bh,M64.wrapM (x*y)]
 rw [hhi]
 go_ret2
 exact ⟨rfl,rfl⟩
theorem mul64_any (x y:Int) (hx0:0≤x) (hx:x < 18446744073709551616) (hy0:0≤y) (hy:y < 18446744073709551616) (w:World) :
 Calls Tryz.prog 109 #[.int .u64 x,.int .u64 y] w fun e w'=>e=.returned (.tuple #[.int .u64 (x*y / 18446744073709551616),.int .u64 (x*y % 18446744073709551616)])∧w=w':=by
 obtain ⟨x,rfl⟩:=Int.eq_ofNat_of_zero_le hx0
 obtain ⟨y,rfl⟩:=Int.eq_ofNat_of_zero_le hy0
 refine (mul64_nat x y (by omega) (by omega) w).mono ?_
 rintro e w' ⟨rfl,rfl⟩
 refine ⟨?_,rfl⟩
 rw [Int.natCast_ediv,Int.natCast_emod,Int.natCast_mul]
 rfl
def prodI (l:List Int):Int:=l.foldl (·* ·) 1
theorem prodI_next (l:List Int) (i:Nat) (h:i < l.length):prodI (l.take (i+1))=prodI (l.take i)*l[i]:=by
 unfold prodI
 rw [←List.take_append_getElem h,List.foldl_append];rfl
theorem prodI_zero (l:List Int) (i:Nat) (h:i < l.length) (h0:l[i]=0):prodI l=0:=by
 have h1:prodI (l.take (i+1))=0:=by rw [prodI_next l i h,h0,Int.mul_zero]
 have h2:∀ (m:List Int),m.foldl (·* ·) (0:Int)=0:=by
  intro m
  induction m with
  | nil=>rfl
  | cons a m ih=>simpa using ih
 have h3:prodI l=(l.drop (i+1)).foldl (·* ·) (prodI (l.take (i+1))):=by
  conv=>lhs;rw [←List.take_append_drop (i+1) l]
  unfold prodI
  rw [List.foldl_append]
 rw [h3,h1,h2]
def kept (neg:Bool) (out:Int) (over:Bool) (p:Int):Prop :=
 p≠0∧neg=decide (p < 0)∧0≤out∧out < 18446744073709551616 ∧
  (over=false∧out=p.natAbs∨over=true∧18446744073709551616≤p.natAbs)
theorem kept_next {neg:Bool} {out:Int} {over:Bool} {p:Int} (h:kept neg out over p) (x:Int) (hx:x≠0) :
 kept (neg != decide (x < 0)) (out*(x.natAbs:Int) % 18446744073709551616) (over || (out*(x.natAbs:Int) / 18446744073709551616 != 0)) (p*x):=by
 obtain ⟨h1,h2,h3,h4,h5⟩:=h
 refine ⟨Int.mul_ne_zero h1 hx,?_,Int.emod_nonneg _ (by omega),Int.emod_lt_of_pos _ (by omega),?_⟩
 ·rw [h2]
  by_cases hp:p < 0<;>by_cases hx2:x < 0
  ·have:=Int.mul_pos_of_neg_of_neg hp hx2
   rw [decide_eq_true hp,decide_eq_true hx2,decide_eq_false (by omega)];rfl
  ·have:=Int.mul_neg_of_neg_of_pos hp (show 0 < x by omega)
   rw [decide_eq_true hp,decide_eq_false hx2,decide_eq_true this];rfl
  ·have:=Int.mul_neg_of_pos_of_neg (show 0 < p by omega) hx2
   rw [decide_eq_false hp,decide_eq_true hx2,decide_eq_true this];rfl
  ·have:=Int.mul_pos (show 0 < p by omega) (show 0 < x by omega)
   rw [decide_eq_false hp,decide_eq_false hx2,decide_eq_false (by omega)];rfl
 ·have hx1:1≤x.natAbs:=by omega
  rcases h5 with ⟨rfl,h6⟩|⟨rfl,h6⟩
  ·have h7:out*(x.natAbs:Int)=((p*x).natAbs:Int):=by rw [h6,Int.natAbs_mul];simp
   rw [h7]
   generalize (p*x).natAbs=z
   by_cases hz:18446744073709551616≤z
   ·right
    refine ⟨?_,hz⟩
    have:((z:Int) / 18446744073709551616 != 0)=true:=by rw [bne_iff_ne];omega
    rw [this];rfl
   ·left
    refine ⟨?_,by omega⟩
    have:((z:Int) / 18446744073709551616 != 0)=false:=by rw [bne_eq_false_iff_eq];omega
    rw [this];rfl
  ·right
   refine ⟨rfl,?_⟩
   rw [Int.natAbs_mul]
   exact Nat.le_trans h6 (Nat.le_mul_of_pos_right _ hx1)
theorem kept_end {neg:Bool} {out:Int} {over:Bool} {p:Int} (h:kept neg out over p) :
 (over=true∧shortN p=0∧shortE p=2)∨(over=false∧sgn neg out=p):=by
 obtain ⟨h1,h2,h3,h4,h5⟩:=h
 rcases h5 with ⟨h5,h6⟩|⟨h5,h6⟩
 ·right
  refine ⟨h5,?_⟩
  subst h2
  unfold sgn
  by_cases hp:p < 0
  ·rw [decide_eq_true hp,if_pos rfl];omega
  ·rw [decide_eq_false hp,if_neg (by decide)];omega
 ·left
  have:¬ fits p:=by unfold fits;omega
  exact ⟨h5,by unfold shortN;rw [if_neg this],by unfold shortE;rw [if_neg this]⟩
theorem mul_any (w:World) (v:Value) (l:List Int) (hl:Sl w (fun _=>True) 1 v l.length (ints l)) (hfit:∀ x∈l,fits x) (hll:l.length≤1000000) :
 Calls Tryz.prog 98 #[v] w fun e w'=>e=.returned (.tuple #[.int .i64 (shortN (prodI l)),.int .i64 (shortE (prodI l))])∧Below w.heap.size w w':=by
 obtain ⟨p,cap,rfl,hc1,hc2⟩:=hl.form
 have HL:=Lib.hid hl
 have HF:=Lib.hid hfit
 clear hl hfit
 generalize hz:prodI l=z
 have HZ:=Lib.hid hz
 clear hz
 generalize hsn:shortN z=sn
 generalize hse:shortE z=se
 have HSN:=Lib.hid hsn
 have HSE:=Lib.hid hse
 clear hsn hse
 go_enter Tryz.func98,Tryz.ntmps98
 go_wp2
 go_loopw [4,5,6,13] (fun neg out over i wr=>∃ (k:Nat) (n:Bool) (o:Int) (ov:Bool),neg=.bool n∧out=.int .u64 o∧over=.bool ov∧i=.int .i64 k∧k≤l.length∧kept n o ov (prodI (l.take k))∧Below w.heap.size w wr) (fun _ _ _ i _=>l.length - (intOf i).toNat)
 case atStart=>exact ⟨0,false,1,false,rfl,rfl,rfl,rfl,Nat.zero_le _,⟨by simp [prodI],by simp [prodI],by omega,by omega,.inl ⟨rfl,by simp [prodI]⟩⟩,Below.refl _ _⟩
 case round =>
  obtain ⟨k,n,o,ov,rfl,rfl,rfl,rfl,hk,hkp,hb⟩:=hrel
  by_cases hka:k < l.length
  ·obtain ⟨g,off,cap',hv,_,_,hgb,hglt,hc⟩:=HL.out.place (by omega)
   cases hv
   have hc0:w.cell? ⟨g,off+k,none⟩=some (.int .i64 l[k]):=by rw [hc k (by simpa [ints] using hka)];simp [ints,hka]
   have hck:wr.cell? ⟨g,off+k,none⟩=some (.int .i64 l[k]):=(hb.cell hglt).trans hc0
   have hfx:=HF.out l[k] (List.getElem_mem hka)
   have HX:=Lib.hid (prodI_next l k hka)
   have HX0:=Lib.hid (prodI_zero l k hka)
   have ho:=hkp.2.2
   have HKP:=Lib.hid hkp
   have HB:=Lib.hid hb
   generalize l[k]=x at *
   have HSZ:=Lib.hid (fun w=>size_any w x hfx)
   have HM:=Lib.hid (fun w=>mul64_any o x.natAbs ho.1 ho.2.1 (by omega) (by unfold fits at hfx;omega) w)
   clear hc hc0 hb hkp ho hfx
   by_cases hx:x=0
   ·subst hx
    have hz0:0=z:=by rw [←HX0.out rfl,HZ.out]
    obtain rfl:sn=0:=by rw [←HSN.out,←hz0];decide
    obtain rfl:se=0:=by rw [←HSE.out,←hz0];decide
    clear HX0 HX HSZ HM hz0
    go_wp2
    go_ret2
    exact ⟨rfl,HB.out⟩
   ·have hx2:(x == 0)=false:=by rw [beq_eq_false_iff_ne];exact hx
    have HN:=Lib.hid (kept_next HKP.out x hx)
    clear hx HX0 HKP
    generalize (x.natAbs:Int)=xs at *
    generalize o*xs / 18446744073709551616=ph at *
    generalize o*xs % 18446744073709551616=pl at *
    have e1:∀ b:Bool,(!(n == b))=(n != b):=fun _=>rfl
    cases ov
    ·go_wp2_with (first
      | (go_at_call 110;refine (HSZ.out _).mono ?_;rintro e w2 ⟨rfl,hb2⟩)
      | (go_at_call 109;refine (HM.out _).mono ?_;rintro e w3 ⟨rfl,rfl⟩))
     go_roundw
     case rel=>exact ⟨k+1,(n != decide (x < 0)),pl,(ph != 0),rfl,rfl,rfl,by go_num,by omega,by rw [HX.out];exact HN.out,HB.out.trans (hb2.mono HB.out.size)⟩
     case measure=>simp [intOf];omega
    ·go_wp2_with (first
      | (go_at_call 110;refine (HSZ.out _).mono ?_;rintro e w2 ⟨rfl,hb2⟩)
      | (go_at_call 109;refine (HM.out _).mono ?_;rintro e w3 ⟨rfl,rfl⟩))
     go_roundw
     case rel=>exact ⟨k+1,(n != decide (x < 0)),pl,true,rfl,rfl,rfl,by go_num,by omega,by rw [HX.out];exact HN.out,HB.out.trans (hb2.mono HB.out.size)⟩
     case measure=>simp [intOf];omega
  ·have hkl:k=l.length:=by omega
   subst hkl
   rw [List.take_length,HZ.out] at hkp
   rcases kept_end hkp with ⟨rfl,e1,e2⟩|⟨rfl,e1⟩
   ·obtain rfl:sn=0:=by rw [←HSN.out,e1]
    obtain rfl:se=2:=by rw [←HSE.out,e2]
    clear hkp e1 e2
    go_wp2
    go_ret2
    exact ⟨rfl,hb⟩
   ·have HS:=Lib.hid (fun w=>signed_any w n o hkp.2.2.1 hkp.2.2.2.1)
    rw [e1,HSN.out,HSE.out] at HS
    clear e1 hkp
    go_wp2_with (go_at_call 111;refine (HS.out _).mono ?_;rintro e w2 ⟨rfl,hb2⟩)
    go_ret2
    exact ⟨rfl,hb.trans (hb2.mono hb.size)⟩
end Go.Proofs.YtnpplhkpnbonaaaGreat
namespace Go.Proofs.YtnpplhkpnbonaaaGreat
open Go.RowKit Go.Afx
theorem two_i64e (w:World) (a b:Int):Sl (w.alloc (.cells #[.int .i64 a,.int .i64 b] 2)) (fun _=>True) 1 (.slice (some ⟨w.heap.size,0,none⟩) 2 2) 2 (ints [a,b]) :=
 (Own.made w 2 1 (ints [a,b]) [] 2 2 rfl ((Ones.nil.cons rfl).cons rfl) (Nat.le_refl _) (by decide) (Nat.le_refl 2)).sl (fun _ _=>trivial)
theorem one_i64e (w:World) (a:Int):Sl (w.alloc (.cells #[.int .i64 a] 2)) (fun _=>True) 1 (.slice (some ⟨w.heap.size,0,none⟩) 1 1) 1 (ints [a]) :=
 (Own.made w 2 1 (ints [a]) [] 1 1 rfl (Ones.nil.cons rfl) (Nat.le_refl _) (by decide) (Nat.le_refl 1)).sl (fun _ _=>trivial)
theorem sums_any (w:World) (op:Int) (a b:AV) (ha:fits a.n) (hb:fits b.n) (h6:6≤op) (h10:op≤10) :
 Calls Tryz.prog 78 #[.int .i64 op,.agg #[.int .i64 a.kind,.int .i64 a.n,.string a.s],.agg #[.int .i64 b.kind,.int .i64 b.n,.string b.s]] w (PairOut w (sumsA op a b 0).1 (sumsA op a b 0).2.1):=by
 obtain ⟨ak,an,sa⟩:=a
 obtain ⟨bk,bn,sc⟩:=b
 simp only at ha hb ⊢
 obtain ⟨⟨x,e',f'⟩,hA⟩:∃ q,sumsA op ⟨ak,an,sa⟩ ⟨bk,bn,sc⟩ 0=q:=⟨_,rfl⟩
 rw [hA]
 unfold sumsA at hA
 simp only at hA ⊢
 obtain ⟨w0,hw0⟩:∃ w0,w.alloc (.cells #[.int .i64 ak,.int .i64 an,.string sa] 35)=w0:=⟨_,rfl⟩
 have hb0:Below w.heap.size w w0:=hw0▸(Below.refl _ _).alloc (Nat.le_refl _) _
 have hk0:Blk w0 w.heap.size 35 [.int .i64 ak,.int .i64 an,.string sa]:=hw0▸Blk.new w _ _
 obtain ⟨w2,hw2⟩:∃ w2,w0.alloc (.cells #[.int .i64 bk,.int .i64 bn,.string sc] 35)=w2:=⟨_,rfl⟩
 have hb2:Below w0.heap.size w0 w2:=hw2▸(Below.refl _ _).alloc (Nat.le_refl _) _
 have hk2:Blk w2 w0.heap.size 35 [.int .i64 bk,.int .i64 bn,.string sc]:=hw2▸Blk.new w0 _ _
 obtain ⟨w3,hw3⟩:∃ w3,w2.alloc (.cells #[.int .i64 0,.int .i64 0,.string ⟨#[]⟩] 35)=w3:=⟨_,rfl⟩
 have hb3:Below w2.heap.size w2 w3:=hw3▸(Below.refl _ _).alloc (Nat.le_refl _) _
 have hk3:Blk w3 w2.heap.size 35 [.int .i64 0,.int .i64 0,.string ⟨#[]⟩]:=hw3▸Blk.new w2 _ _
 have hsz:w.heap.size≤w2.heap.size:=Nat.le_trans hb0.size hb2.size
 have HB:=Lib.hid (hb0.trans ((hb2.trans (hb3.mono hb2.size)).mono hb0.size))
 have HK:=Lib.hid hk3
 obtain ⟨a0,a1,a2⟩:=three_cells ((hk0.below hb2).below hb3)
 obtain ⟨b0,b1,b2⟩:=three_cells (hk2.below hb3)
 have hla:=((hk0.below hb2).below hb3).lt
 have hlb:=(hk2.below hb3).lt
 clear hb0 hk0 hb2 hk2 hb3 hk3
 by_cases h1:ak=1
 ·subst h1
  rw [if_neg (by decide)] at hA
  by_cases o6:op=6
  ·skip
   rw [if_pos o6] at hA
   subst o6
   have hC:=add_any (w3.alloc (.cells #[.int .i64 an,.int .i64 bn] 2)) _ [an,bn] (two_i64e w3 an bn) (by simp [ha,hb]) (by simp)
   rw [show [an,bn].sum=an+bn by simp] at hC
   have HC:=Lib.hid hC
   have HBA:=Lib.hid (show Below w3.heap.size w3 (w3.alloc (.cells #[.int .i64 an,.int .i64 bn] 2)) from (Below.refl _ _).alloc (Nat.le_refl _) _)
   clear hC
   have HN:Hid (∀ W,Calls Tryz.prog 72 #[.int .i64 (shortN (an+bn)),.int .i64 (shortE (an+bn))] W (PairOut W x e')):=Lib.hid fun W=>by
    have h0:=number_e W (shortN (an+bn)) (shortE (an+bn))
    rw [hA] at h0
    exact h0
   clear hA
   go_enter Tryz.func78,Tryz.ntmps78
   go_wp2_with fail
   clear hw0 hw2 hw3 a0 a1 a2 b0 b1 b2 hla hlb
   refine HC.out.mono ?_
   clear HC
   rintro r w4 ⟨rfl,hb4⟩
   replace HB:=Lib.hid (HB.out.trans ((HBA.out.trans (hb4.mono HBA.out.size)).mono HB.out.size))
   replace HK:=Lib.hid (HK.out.below (HBA.out.trans (hb4.mono HBA.out.size)))
   clear hb4
   go_wp2_with fail
   refine (HN.out _).mono ?_
   clear HN
   rintro r w5 ⟨rfl,hb5⟩
   replace HB:=Lib.hid (HB.out.trans (hb5.mono HB.out.size))
   have hk5:=HK.out.below hb5
   replace HK:=Lib.hid hk5
   obtain ⟨z0,z1,z2⟩:=three_cells hk5
   have hfr:=fun i=>hk5.frozen i
   have hlk:=hk5.lt
   clear hb5 hk5
   go_wp2
   obtain ⟨hkE,hoE⟩:=set_threeE HK.out (.int .i64 x.kind) (.int .i64 x.n) (.string x.s)
   generalize ((w5.setCell ⟨w2.heap.size,0,none⟩ (.int .i64 x.kind)).setCell ⟨w2.heap.size,1,none⟩ (.int .i64 x.n)).setCell ⟨w2.heap.size,2,none⟩ (.string x.s)=wE at *
   obtain ⟨m0,m1,m2⟩:=three_cells hkE
   exact bodyPost_ret (v:=.tuple #[.agg #[.int .i64 x.kind,.int .i64 x.n,.string x.s],.int .i64 e']) (by simp [results,Tryz.results78,go_sem,m0,m1,m2]) rfl ⟨rfl,HB.out.trans (hoE.below HB.out.size (fun q hq=>by omega))⟩
  rw [if_neg o6] at hA
  have t6:(op == 6)=false:=by simp [o6]
  by_cases o7:op=7
  ·skip
   rw [if_pos o7] at hA
   subst o7
   have hC:=sub_any (w3.alloc (.cells #[.int .i64 bn] 2)) an ha _ [bn] (one_i64e w3 bn) (by simp [hb]) (by simp)
   rw [show [bn].sum=bn by simp] at hC
   have HC:=Lib.hid hC
   have HBA:=Lib.hid (show Below w3.heap.size w3 (w3.alloc (.cells #[.int .i64 bn] 2)) from (Below.refl _ _).alloc (Nat.le_refl _) _)
   clear hC
   have HN:Hid (∀ W,Calls Tryz.prog 72 #[.int .i64 (shortN (an - bn)),.int .i64 (shortE (an - bn))] W (PairOut W x e')):=Lib.hid fun W=>by
    have h0:=number_e W (shortN (an - bn)) (shortE (an - bn))
    rw [hA] at h0
    exact h0
   clear hA
   go_enter Tryz.func78,Tryz.ntmps78
   go_wp2_with fail
   clear hw0 hw2 hw3 a0 a1 a2 b0 b1 b2 hla hlb
   refine HC.out.mono ?_
   clear HC
   rintro r w4 ⟨rfl,hb4⟩
   replace HB:=Lib.hid (HB.out.trans ((HBA.out.trans (hb4.mono HBA.out.size)).mono HB.out.size))
   replace HK:=Lib.hid (HK.out.below (HBA.out.trans (hb4.mono HBA.out.size)))
   clear hb4
   go_wp2_with fail
   refine (HN.out _).mono ?_
   clear HN
   rintro r w5 ⟨rfl,hb5⟩
   replace HB:=Lib.hid (HB.out.trans (hb5.mono HB.out.size))
   have hk5:=HK.out.below hb5
   replace HK:=Lib.hid hk5
   obtain ⟨z0,z1,z2⟩:=three_cells hk5
   have hfr:=fun i=>hk5.frozen i
   have hlk:=hk5.lt
   clear hb5 hk5
   go_wp2
   obtain ⟨hkE,hoE⟩:=set_threeE HK.out (.int .i64 x.kind) (.int .i64 x.n) (.string x.s)
   generalize ((w5.setCell ⟨w2.heap.size,0,none⟩ (.int .i64 x.kind)).setCell ⟨w2.heap.size,1,none⟩ (.int .i64 x.n)).setCell ⟨w2.heap.size,2,none⟩ (.string x.s)=wE at *
   obtain ⟨m0,m1,m2⟩:=three_cells hkE
   exact bodyPost_ret (v:=.tuple #[.agg #[.int .i64 x.kind,.int .i64 x.n,.string x.s],.int .i64 e']) (by simp [results,Tryz.results78,go_sem,m0,m1,m2]) rfl ⟨rfl,HB.out.trans (hoE.below HB.out.size (fun q hq=>by omega))⟩
  rw [if_neg o7] at hA
  have t7:(op == 7)=false:=by simp [o7]
  by_cases o8:op=8
  ·skip
   rw [if_pos o8] at hA
   subst o8
   have hC:=mul_any (w3.alloc (.cells #[.int .i64 an,.int .i64 bn] 2)) _ [an,bn] (two_i64e w3 an bn) (by simp [ha,hb]) (by simp)
   rw [show prodI [an,bn]=an*bn by simp [prodI]] at hC
   have HC:=Lib.hid hC
   have HBA:=Lib.hid (show Below w3.heap.size w3 (w3.alloc (.cells #[.int .i64 an,.int .i64 bn] 2)) from (Below.refl _ _).alloc (Nat.le_refl _) _)
   clear hC
   have HN:Hid (∀ W,Calls Tryz.prog 72 #[.int .i64 (shortN (an*bn)),.int .i64 (shortE (an*bn))] W (PairOut W x e')):=Lib.hid fun W=>by
    have h0:=number_e W (shortN (an*bn)) (shortE (an*bn))
    rw [hA] at h0
    exact h0
   clear hA
   go_enter Tryz.func78,Tryz.ntmps78
   go_wp2_with fail
   clear hw0 hw2 hw3 a0 a1 a2 b0 b1 b2 hla hlb
   refine HC.out.mono ?_
   clear HC
   rintro r w4 ⟨rfl,hb4⟩
   replace HB:=Lib.hid (HB.out.trans ((HBA.out.trans (hb4.mono HBA.out.size)).mono HB.out.size))
   replace HK:=Lib.hid (HK.out.below (HBA.out.trans (hb4.mono HBA.out.size)))
   clear hb4
   go_wp2_with fail
   refine (HN.out _).mono ?_
   clear HN
   rintro r w5 ⟨rfl,hb5⟩
   replace HB:=Lib.hid (HB.out.trans (hb5.mono HB.out.size))
   have hk5:=HK.out.below hb5
   replace HK:=Lib.hid hk5
   obtain ⟨z0,z1,z2⟩:=three_cells hk5
   have hfr:=fun i=>hk5.frozen i
   have hlk:=hk5.lt
   clear hb5 hk5
   go_wp2
   obtain ⟨hkE,hoE⟩:=set_threeE HK.out (.int .i64 x.kind) (.int .i64 x.n) (.string x.s)
   generalize ((w5.setCell ⟨w2.heap.size,0,none⟩ (.int .i64 x.kind)).setCell ⟨w2.heap.size,1,none⟩ (.int .i64 x.n)).setCell ⟨w2.heap.size,2,none⟩ (.string x.s)=wE at *
   obtain ⟨m0,m1,m2⟩:=three_cells hkE
   exact bodyPost_ret (v:=.tuple #[.agg #[.int .i64 x.kind,.int .i64 x.n,.string x.s],.int .i64 e']) (by simp [results,Tryz.results78,go_sem,m0,m1,m2]) rfl ⟨rfl,HB.out.trans (hoE.below HB.out.size (fun q hq=>by omega))⟩
  rw [if_neg o8] at hA
  have t8:(op == 8)=false:=by simp [o8]
  have HBA:=Lib.hid (Below.refl w3.heap.size w3)
  by_cases o9:op=9
  ·skip
   rw [if_pos o9] at hA
   subst o9
   have HC:=Lib.hid (div_any w3 an bn ha hb)
   have HN:Hid (∀ W,Calls Tryz.prog 72 #[.int .i64 (dvN an bn),.int .i64 (dvE an bn)] W (PairOut W x e')):=Lib.hid fun W=>by
    have h0:=number_e W (dvN an bn) (dvE an bn)
    rw [hA] at h0
    exact h0
   clear hA
   go_enter Tryz.func78,Tryz.ntmps78
   go_wp2_with fail
   clear hw0 hw2 hw3 a0 a1 a2 b0 b1 b2 hla hlb
   refine HC.out.mono ?_
   clear HC
   rintro r w4 ⟨rfl,hb4⟩
   replace HB:=Lib.hid (HB.out.trans ((HBA.out.trans (hb4.mono HBA.out.size)).mono HB.out.size))
   replace HK:=Lib.hid (HK.out.below (HBA.out.trans (hb4.mono HBA.out.size)))
   clear hb4
   go_wp2_with fail
   refine (HN.out _).mono ?_
   clear HN
   rintro r w5 ⟨rfl,hb5⟩
   replace HB:=Lib.hid (HB.out.trans (hb5.mono HB.out.size))
   have hk5:=HK.out.below hb5
   replace HK:=Lib.hid hk5
   obtain ⟨z0,z1,z2⟩:=three_cells hk5
   have hfr:=fun i=>hk5.frozen i
   have hlk:=hk5.lt
   clear hb5 hk5
   go_wp2
   obtain ⟨hkE,hoE⟩:=set_threeE HK.out (.int .i64 x.kind) (.int .i64 x.n) (.string x.s)
   generalize ((w5.setCell ⟨w2.heap.size,0,none⟩ (.int .i64 x.kind)).setCell ⟨w2.heap.size,1,none⟩ (.int .i64 x.n)).setCell ⟨w2.heap.size,2,none⟩ (.string x.s)=wE at *
   obtain ⟨m0,m1,m2⟩:=three_cells hkE
   exact bodyPost_ret (v:=.tuple #[.agg #[.int .i64 x.kind,.int .i64 x.n,.string x.s],.int .i64 e']) (by simp [results,Tryz.results78,go_sem,m0,m1,m2]) rfl ⟨rfl,HB.out.trans (hoE.below HB.out.size (fun q hq=>by omega))⟩
  ·skip
   rw [if_neg o9] at hA
   have t9:(op == 9)=false:=by simp [o9]
   have HC:=Lib.hid (mod_any w3 an bn ha hb)
   have HN:Hid (∀ W,Calls Tryz.prog 72 #[.int .i64 (mdN an bn),.int .i64 (mdE bn)] W (PairOut W x e')):=Lib.hid fun W=>by
    have h0:=number_e W (mdN an bn) (mdE bn)
    rw [hA] at h0
    exact h0
   clear hA
   go_enter Tryz.func78,Tryz.ntmps78
   go_wp2_with fail
   clear hw0 hw2 hw3 a0 a1 a2 b0 b1 b2 hla hlb
   refine HC.out.mono ?_
   clear HC
   rintro r w4 ⟨rfl,hb4⟩
   replace HB:=Lib.hid (HB.out.trans ((HBA.out.trans (hb4.mono HBA.out.size)).mono HB.out.size))
   replace HK:=Lib.hid (HK.out.below (HBA.out.trans (hb4.mono HBA.out.size)))
   clear hb4
   go_wp2_with fail
   refine (HN.out _).mono ?_
   clear HN
   rintro r w5 ⟨rfl,hb5⟩
   replace HB:=Lib.hid (HB.out.trans (hb5.mono HB.out.size))
   have hk5:=HK.out.below hb5
   replace HK:=Lib.hid hk5
   obtain ⟨z0,z1,z2⟩:=three_cells hk5
   have hfr:=fun i=>hk5.frozen i
   have hlk:=hk5.lt
   clear hb5 hk5
   go_wp2
   obtain ⟨hkE,hoE⟩:=set_threeE HK.out (.int .i64 x.kind) (.int .i64 x.n) (.string x.s)
   generalize ((w5.setCell ⟨w2.heap.size,0,none⟩ (.int .i64 x.kind)).setCell ⟨w2.heap.size,1,none⟩ (.int .i64 x.n)).setCell ⟨w2.heap.size,2,none⟩ (.string x.s)=wE at *
   obtain ⟨m0,m1,m2⟩:=three_cells hkE
   exact bodyPost_ret (v:=.tuple #[.agg #[.int .i64 x.kind,.int .i64 x.n,.string x.s],.int .i64 e']) (by simp [results,Tryz.results78,go_sem,m0,m1,m2]) rfl ⟨rfl,HB.out.trans (hoE.below HB.out.size (fun q hq=>by omega))⟩
 ·skip
  rw [if_pos h1] at hA
  unfold wrongA zeroA at hA
  cases hA
  have t1:(ak != 1)=true:=by simp [h1]
  have HC:=Lib.hid (wrong_e w3 13)
  go_enter Tryz.func78,Tryz.ntmps78
  go_wp2_with fail
  clear hw0 hw2 hw3 a0 a1 a2 b0 b1 b2 hla hlb
  refine HC.out.mono ?_
  clear HC
  rintro r w5 ⟨rfl,hb5⟩
  unfold zeroA
  replace HB:=Lib.hid (HB.out.trans (hb5.mono HB.out.size))
  have hk5:=HK.out.below hb5
  replace HK:=Lib.hid hk5
  obtain ⟨z0,z1,z2⟩:=three_cells hk5
  have hfr:=fun i=>hk5.frozen i
  have hlk:=hk5.lt
  clear hb5 hk5
  go_wp2
  obtain ⟨hkE,hoE⟩:=set_threeE HK.out (.int .i64 0) (.int .i64 0) (.string ⟨#[]⟩)
  generalize ((w5.setCell ⟨w2.heap.size,0,none⟩ (.int .i64 0)).setCell ⟨w2.heap.size,1,none⟩ (.int .i64 0)).setCell ⟨w2.heap.size,2,none⟩ (.string ⟨#[]⟩)=wE at *
  obtain ⟨m0,m1,m2⟩:=three_cells hkE
  exact bodyPost_ret (v:=.tuple #[.agg #[.int .i64 0,.int .i64 0,.string ⟨#[]⟩],.int .i64 13]) (by simp [results,Tryz.results78,go_sem,m0,m1,m2]) rfl ⟨rfl,HB.out.trans (hoE.below HB.out.size (fun q hq=>by omega))⟩
end Go.Proofs.YtnpplhkpnbonaaaGreat
