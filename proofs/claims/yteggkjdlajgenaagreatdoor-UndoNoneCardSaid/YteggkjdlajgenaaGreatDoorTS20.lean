/- Contracts of the functions that the statement reaches, one behind the other. No condition beyond each theorem's own. -/
import Derived.Test.YteggkjdlajgenaaGreatDoorTS15
set_option linter.unusedSimpArgs false
set_option linter.unusedVariables false
set_option maxRecDepth 100000
set_option maxHeartbeats 4000000
theorem ze8r {P:Prop} (h:P:=by
 go_roundw
 case rel=>exact ⟨k+1,z3KH,zTbe,m,steps,HL.out,by have:=HSL.out;omega⟩
 case measure=>(simp [intOf])<;>omega
 ):P:=h
namespace Go.Proofs.YteggkjdlajgenaaGreatDoor
open Go.RowKit Go.Afx
def NonSt (w:World) (lv:Value) (ua ub ta tb tp k:Nat) (wr:World):Prop :=
 ∃ m steps,LawP w wr lv ua ub none [] (m,[]) steps ta tb tp m∧steps.length≤1000*k
theorem unone_any (w:World) (hm:Mx w) (v:Value) (l:List ActU) (h:ActsU w (fun _=>True) v l) (rv:Value) (row:List AV) (hr:Sl w (fun _=>True) 3 rv row.length (rowCells row)) (ks:ByteArray) (hks:ks.size≤maxLen) :
 Calls Tryz.prog 8 #[v,rv,.string ks] w fun e w'=>e=.returned (.bool true)∧Below w.heap.size w w':=by
 obtain ⟨p,cap,rfl,hc1,hc2⟩:=h.sl.form
 obtain ⟨pr0,cr0,rfl,_,_⟩:=hr.form
 have HGW:=Lib.hid (fun W (hb:Below w.heap.size w W)=>great_row W _ _ row (hr.below hb))
 generalize row.length=nr0 at *
 obtain ⟨n,hn⟩:=zwjg
 have HGR:=Lib.hid (great10_any w _ _ l h)
 rw [hn] at hc1 HGR ⊢
 have HS:=Lib.hid h
 have HN:=Lib.hid hn
 have HM:=Lib.hid hm
 have HAW:=Lib.hid (fun W (hb:Below w.heap.size w W)=>awake10_any W (hm.below hb))
 clear h hn hm hr
 go_enter Tryz.func8,Tryz.ntmps8
 go_wp2_with fail
 refine HGR.out.mono ?_
 clear HGR
 rintro e w1 ⟨gb,rfl,hb1,hgb⟩
 have HB1:=Lib.hid hb1
 have HGB:=Lib.hid hgb
 clear hb1 hgb
 cases gb with
 | true =>
  exact zVQu
 | false =>
  have HFI:=Lib.hid (HGB.out rfl)
  have HG1:=Lib.hid (HGW.out w1 HB1.out)
  clear HGB HGW
  generalize greatB row=g2 at *
  go_wp2_with fail
  refine HG1.out.mono ?_
  clear HG1
  rintro e w1b ⟨rfl,hb1b⟩
  have HB1b:=Lib.hid (HB1.out.trans (hb1b.mono HB1.out.size))
  clear hb1b HB1
  cases g2 with
  | true =>
   go_wp2_with (go_at_call 28;refine (HAW.out _ HB1b.out).mono ?_;rintro e wZ ⟨rfl,hbZ⟩)
   go_ret
   exact ⟨rfl,HB1b.out.trans (hbZ.mono HB1b.out.size)⟩
  | false =>
   by_cases hk3:300 < ks.size
   ·go_wp2_with (go_at_call 28;refine (HAW.out _ HB1b.out).mono ?_;rintro e wZ ⟨rfl,hbZ⟩)
    go_ret
    exact ⟨rfl,HB1b.out.trans (hbZ.mono HB1b.out.size)⟩
   go_wp2_with fail
   refine (HAW.out _ HB1b.out).mono ?_
   clear HAW
   rintro e w3 ⟨rfl,hb2⟩
   clear hk3 hks
   have hb03:=HB1b.out.trans (hb2.mono HB1b.out.size)
   have hT3:Trk w [] w3 []:=⟨⟨zPXO,z07k⟩,Only.of_none hb03,z07k⟩
   have HBO:=Lib.hid (both_any w w3 HM.out (HM.out.below hb03) _ hT3 none)
   unfold ptrJ at HBO
   clear hb2 hb03 hT3 HB1b
   go_wp2_with fail
   refine HBO.out.mono ?_
   clear HBO
   rintro e w4 ⟨lv,ua,ub,ga,gb,rfl,hbo⟩
   have hl4:=(show BothAt w w4 (rJ none (.slice none 0 0) []++[]) lv ua ub ga gb none from hbo).law
   have hmx4:=zedq
   obtain ⟨ga2,gb2,jv2,hg2⟩:=id hl4
   obtain ⟨gl,ol,cl,rfl,hgl,_,hl0,hl1⟩:=hg2.list
   have HL4:=Lib.hid hl4
   have HMX4:=Lib.hid hmx4
   have HP:=Lib.hid (plan10_any w4 ⟨#[116]⟩ z7Rn)
   generalize ga.tb=ta at *
   generalize gb.tb=tb at *
   clear hbo hl4 hg2 ga2 gb2 jv2 hgl hl0 hl1 hmx4
   go_wp2_with fail
   refine HP.out.mono ?_
   clear HP
   rintro e w5 ⟨a,b,c,d,rfl,hs5,hb5⟩
   have HNW:=Lib.hid (LawSt.plain (HL4.out.below hb5) HM.out (HMX4.out.below hb5) _ a b c d hs5)
   clear hs5 hb5
   go_wp2_with fail
   refine HNW.out.mono ?_
   clear HNW
   rintro e w6 ⟨tp,rfl,hl6⟩
   have h6:NonSt w (.slice (some ⟨gl,ol,none⟩) 2 cl) ua ub ta tb tp 0 w6:=⟨[],[],hl6,zPXO⟩
   have H6:=Lib.hid h6
   clear hl6 h6 HL4 HMX4
   go_wp2
   go_loopw [11] (fun iv wr=>∃ k:Nat,iv=.int .i64 k∧k≤n∧NonSt w (.slice (some ⟨gl,ol,none⟩) 2 cl) ua ub ta tb tp k wr) (fun iv _=>n - (intOf iv).toNat)
   case atStart=>exact ⟨0,rfl,Nat.zero_le _,H6.out⟩
   case round =>
    obtain ⟨k,rfl,hk,m,steps,hL,hsl⟩:=hrel
    obtain ⟨wo,rfl⟩:=zDit
    obtain ⟨fr',hst⟩:=hL.toSt
    have hbw:Below w.heap.size w wo:=zxCR
    obtain ⟨l0,_,hgl⟩:=hst.list
    have HL:=Lib.hid hL
    have HST:=Lib.hid hst
    have HSL:=Lib.hid hsl
    have HBW:=Lib.hid hbw
    have hn60:=HFI.out.len
    rw [HN.out] at hn60
    by_cases hkn:k < n
    ·skip
     have hkl:k < l.length:=by rw [HN.out];exact hkn
     obtain ⟨g,off,cap',hv,hg,e0,e1,e2,e3⟩:=(HS.out.below hbw).at hkl
     rw [HN.out] at hv
     cases hv
     have hmk2:=zKzh
     obtain ⟨pr,nr,cr,hrv⟩:=HS.out.forms _ hmk2
     have hrow:=zgN1
     obtain ⟨hf1,hf2,hf3⟩:=HS.out.n64 _ hmk2
     have hrl:=HFI.out.row _ hmk2
     generalize l[k]=x at *
     have HDO:=Lib.hid (fun W (hb:Below wo.heap.size wo W)=>(hL.below hb).does x (hrow.below hb) hf3 hrl hf2 zTbe)
     have hcl:=cntU_le hst.v.1 x
     have HCL:=Lib.hid hcl
     have hagg:=z5c5
     rw [hrv] at e3
     rw [hagg] at HDO
     have HAGG:=Lib.hid hagg
     clear hL hst hsl hbw hkl hmk2 hrow hf2 hf3 hrl hcl hrv hagg
     by_cases hlo:x.kind < 0
     ·go_wp2
      exact ze8r
     by_cases hhi:3 < x.kind
     ·go_wp2
      exact ze8r
     ·have hdo:=HDO.out wo.drew (Below.refl _ _).drew
      unfold ptrV at hdo
      have HD:=Lib.hid hdo
      have hk3:x.kind≤3:=zTbe
      clear hdo HDO
      go_upto_region 12 with fail
      refine wp_region_lit_plan [] [(0,0),(1,0),(3,0),(4,0),(5,0),(6,0),(2,1),(7,1),(8,4),(9,0),(10,0),(11,0),(12,0),(13,0)] (fun _=>False) zyVB zyVB (fun c a d v w h=>zx0I) ?_
      go_wp2_with (first|(refine stp ?_))
      clear l0 hgl e0 e1 e2 e3
      refine HD.out.mono ?_
      clear HD
      rintro e w7 ⟨rfl,ls,hL7,hb7,hlen7,htb7⟩
      have hfin:NonSt w (.slice (some ⟨gl,ol,none⟩) 2 cl) ua ub ta tb tp (k+1) w7:=by
       refine ⟨_,_,hL7,?_⟩
       have:=HSL.out;have:=HCL.out;rw [List.length_append,hlen7];omega
      exact zzOA
    ·skip
     clear hL hsl l0 hgl hst hbw
     have HKN:=Lib.hid (fun W=>keep_nil W)
     have HNN:=Lib.hid (fun W p n c=>note_nil W p n c)
     have HMN:=Lib.hid (fun W=>mark_nil W)
     have HBN:=Lib.hid (fun W=>back_nil W 0)
     obtain ⟨wa,hwa⟩:∃ wa,wo.alloc (.cells #[.slice none 0 0] 64)=wa:=⟨_,rfl⟩
     obtain ⟨wb,hwb⟩:∃ wb,wa.alloc (.cells #[.iface 66 (.agg #[.pointer (some ⟨wo.heap.size,0,none⟩),.int .i64 1])] 139)=wb:=⟨_,rfl⟩
     obtain ⟨wc,hwc⟩:∃ wc,wb.alloc (.cells #[.slice none 0 0] 61)=wc:=⟨_,rfl⟩
     obtain ⟨wd,hwd⟩:∃ wd,wc.alloc (.cells #[.pointer none] 31)=wd:=⟨_,rfl⟩
     have ba:Below wo.heap.size wo wa:=hwa▸(Below.refl _ _).alloc (Nat.le_refl _) _
     have bb:Below wa.heap.size wa wb:=hwb▸(Below.refl _ _).alloc (Nat.le_refl _) _
     have bc:Below wb.heap.size wb wc:=hwc▸(Below.refl _ _).alloc (Nat.le_refl _) _
     have bd:Below wc.heap.size wc wd:=hwd▸(Below.refl _ _).alloc (Nat.le_refl _) _
     have bab:=ba.trans (bb.mono ba.size)
     have babc:=bab.trans (bc.mono bab.size)
     have babcd:=babc.trans (bd.mono babc.size)
     have hsd:Sl wd (fun _=>True) 1 (.slice (some ⟨wc.heap.size,0,none⟩) 1 1) [Value.pointer none].length [Value.pointer none]:=by
      rw [←hwd]
      exact (Own.made wc 31 1 [Value.pointer none] [] 1 1 rfl (Ones.nil.cons rfl) (Nat.le_refl _) zdUY zPXO).sl (fun _ _=>trivial)
     have HTR:=Lib.hid (track_none wd wb.heap.size _ _ hsd)
     have HBD:=Lib.hid babcd
     clear ba bb bc bd bab babc babcd hsd
     go_wp2_with (first
      | (go_at_call 38;refine (HKN.out _).mono ?_;rintro e w2 ⟨rfl,rfl⟩)
      | (go_at_call 29;refine (HNN.out _ _ _ _).mono ?_;rintro e w2 ⟨rfl,rfl⟩))
     clear hwa hwb hwc hwd
     refine HTR.out.mono ?_
     clear HTR
     rintro e w5 ⟨gn,on,cn,un,rfl,n0,ln,nc,lc,hb5⟩
     have hbo5:=HBD.out.trans (hb5.mono HBD.out.size)
     have hL5:=HL.out.below hbo5
     obtain ⟨fr5,hst5⟩:=hL5.toSt
     obtain ⟨l0,_,lg⟩:=hst5.list
     obtain ⟨uc,lu⟩:=hst5.uaC
     have HL5:=Lib.hid hL5
     have HST5:=Lib.hid hst5
     have HNA:=Lib.hid (NoneAt.mk l0 lg uc lu n0 ln nc lc)
     have hrw:=law_rowsA hst5
     unfold ptrV at hrw
     have HRW:=Lib.hid hrw
     clear hb5 hbo5 hL5 hst5 hrw HST HL HBD
     go_wp2_with fail
     clear l0 lg uc lu n0 ln nc lc
     refine HRW.out.mono ?_
     clear HRW
     rintro e w6 ⟨v1,rws1,rfl,hsq1,hsm1⟩
     obtain ⟨p1,c1,hv1,_,_⟩:=own_formT hsq1.1
     subst hv1
     have hb6:=hsq1.2.2.1
     have HB6:=Lib.hid hb6
     have HQ1:=Lib.hid hsq1
     have HSM1:=Lib.hid hsm1
     have hrp:=law_rowsP (HL5.out.below hb6)
     unfold ptrV at hrp
     have HRP:=Lib.hid hrp
     clear hsq1 hsm1 hb6 hrp
     go_wp2_with fail
     refine HRP.out.mono ?_
     clear HRP
     rintro e w7 ⟨v2,rws2,rfl,hsq2,hsm2⟩
     obtain ⟨p2,c2,hv2,_,_⟩:=own_formT hsq2.1
     subst hv2
     have hb7:=hsq2.2.2.1
     have HB7:=Lib.hid (HB6.out.trans (hb7.mono HB6.out.size))
     have HSA:=Lib.hid (same_rows w7 _ _ _ _ rws1 rws2 (HQ1.out.at.below hb7) hsq2.at (HSM1.out.trans hsm2.symm))
     clear hsq2 hsm2 hb7 HQ1 HSM1 HB6
     generalize rws1.length=n1 at *
     generalize rws2.length=n2 at *
     go_wp2_with fail
     refine HSA.out.mono ?_
     clear HSA
     rintro e w8 ⟨rfl,hb8⟩
     have hb58:=HB7.out.trans (hb8.mono HB7.out.size)
     have HB8:=Lib.hid hb58
     have hsc:=law_schA (HST5.out.below hb58)
     unfold ptrV at hsc
     have HSC:=Lib.hid hsc
     obtain ⟨l0,lg,uc,lu,n0,ln,nc,lc⟩:=HNA.out.below hb58
     clear hb8 hb58 hsc HB7
     go_wp2_with fail
     clear l0 lg uc lu n0 ln nc lc
     refine HSC.out.mono ?_
     clear HSC
     rintro e w9 ⟨cS,rfl,hal,hca,hb9⟩
     have HB9:=Lib.hid (HB8.out.trans (hb9.mono HB8.out.size))
     have HCA:=Lib.hid hca
     have HAL:=Lib.hid hal
     have HP:=Lib.hid (plan10_any w9 ⟨#[116]⟩ z7Rn)
     obtain ⟨q1,k1,hcf,_⟩:=hca.cols.form
     obtain ⟨q2,k2,hif,_⟩:=hca.idx.1.form
     have hcg:cS.agg=.agg #[.string cS.name,.slice q1 cS.cols.length k1,.slice q2 cS.idx.length k2,.int .i64 cS.limit,.int .i64 cS.parts,.int .i64 cS.by_]:=by unfold SchV.agg;rw [hcf,hif]
     rw [hcg]
     have HCG:=Lib.hid hcg
     clear hb9 hca hal hcf hif hcg HB8
     go_wp2_with fail
     refine HP.out.mono ?_
     clear HP
     rintro e w10 ⟨a2,b2,c2',d2,rfl,hs10,hb10⟩
     have HB10:=Lib.hid (HB9.out.trans (hb10.mono HB9.out.size))
     have hrs:=refsameS_any w10 _ _ cS _ (HCA.out.below hb10) hs10
     rw [sameS_alike (show Alike cS (exU ⟨#[116]⟩ 1 6 1 a2 b2 c2' d2) from HAL.out.then ⟨rfl,rfl,rfl,rfl,rfl,rfl,rfl⟩),HCG.out] at hrs
     have HRS:=Lib.hid hrs
     clear hs10 hb10 hrs HB9 HCA HAL
     go_wp2_with fail
     refine HRS.out.mono ?_
     clear HRS
     rintro e w11 ⟨rfl,hb11⟩
     have hb511:=HB10.out.trans (hb11.mono HB10.out.size)
     obtain ⟨l0,lg,uc,lu,n0,ln,nc,lc⟩:=HNA.out.below hb511
     have HFB:Hid (Below w.heap.size w w11):=Lib.hid (by obtain ⟨_,_,_,hG⟩:=HST5.out.below hb511;exact hG.trk.only.below (Nat.le_refl _) (fun q hq=>zks3))
     have HU1:=Lib.hid (fun p n c=>uins_none w11 un nc p n c)
     have HU2:=Lib.hid (fun k p n c=>uupd_none w11 un nc k p n c)
     have HU3:=Lib.hid (fun k=>udel_none w11 un nc k)
     have HU4:=Lib.hid (uclr_none w11 un nc)
     have HU5:=Lib.hid (fun W=>tlen_nil W)
     have HV1:=Lib.hid (fun W p n c=>uins_nil W p n c)
     have HV2:=Lib.hid (fun W k p n c=>uupd_nil W k p n c)
     have HV3:=Lib.hid (fun W k=>udel_nil W k)
     have HV4:=Lib.hid (fun W=>uclr_nil W)
     clear hb11 hb511 HB10 HL5 HST5 HNA l0 lg uc lu HS HFI HKN HNN
     go_wp2_with fail
     refine (HMN.out _).mono ?_
     rintro e w2 ⟨rfl,rfl⟩
     go_wp2_with fail
     refine (HBN.out _).mono ?_
     rintro e w2 ⟨rfl,rfl⟩
     go_wp2_with fail
     refine (HU1.out _ _ _).mono ?_
     rintro e w2 ⟨rfl,rfl⟩
     go_wp2_with fail
     refine (HU2.out _ _ _ _).mono ?_
     rintro e w2 ⟨rfl,rfl⟩
     go_wp2_with fail
     refine (HU3.out _).mono ?_
     rintro e w2 ⟨rfl,rfl⟩
     go_wp2_with fail
     refine HU4.out.mono ?_
     rintro e w2 ⟨rfl,rfl⟩
     go_wp2_with fail
     refine (HU5.out _).mono ?_
     rintro e w2 ⟨rfl,rfl⟩
     go_wp2_with fail
     refine (HV1.out _ _ _ _).mono ?_
     rintro e w2 ⟨rfl,rfl⟩
     go_wp2_with fail
     refine (HV2.out _ _ _ _ _).mono ?_
     rintro e w2 ⟨rfl,rfl⟩
     go_wp2_with fail
     refine (HV3.out _ _).mono ?_
     rintro e w2 ⟨rfl,rfl⟩
     go_wp2_with fail
     refine (HV4.out _).mono ?_
     rintro e w2 ⟨rfl,rfl⟩
     go_wp2_with fail
     go_ret
     exact ⟨rfl,HFB.out⟩
theorem unone_law (v:Value) (l:List ActU) (rv:Value) (row:List AV) (ks:ByteArray) (hks:ks.size≤maxLen) (w:World) (hm:Mx w) (h:ActsU w (fun _=>True) v l) (hr:Sl w (fun _=>True) 3 rv row.length (rowCells row)∧∀ a∈row,a.read) :
 Calls Tryz.prog 8 #[v,rv,.string ks] w fun e w'=>e=.returned (.bool true)∧Below w.heap.size w w' :=
 unone_any w hm v l h rv row hr.1 ks hks
end Go.Proofs.YteggkjdlajgenaaGreatDoor
