/- Contracts of the functions that the statement reaches, one behind the other. No condition beyond each theorem's own. -/
import Derived.Test.YteggkjdlajgenaaGreatDoorTS14
set_option linter.unusedSimpArgs false
set_option linter.unusedVariables false
set_option maxRecDepth 100000
set_option maxHeartbeats 4000000
theorem z8Pw {P:Prop} (h:P:=by
 go_roundw
 case rel=>exact ⟨k+1,z3KH,zTbe,m,steps,HL.out,by have:=HSL.out;omega,HBK.out⟩
 case measure=>(simp [intOf])<;>omega
 ):P:=h
theorem zI06 {P:Prop} (h:P:=by
 rw [HNN.out,hm0,show (0:Int).toNat=0 from rfl,Nat.min_zero,List.drop_zero,List.take_zero,Nat.sub_zero,HBK.out] at hbk
 have HBB:=Lib.hid hbk
 unfold ptrV at HBB
 clear hbk hm0
 go_wp2_with fail
 refine HBB.out.mono ?_
 clear HBB
 rintro e w11 ⟨rfl,hst11⟩
 obtain ⟨l0,_,hgl⟩:=hst11.list
 obtain ⟨uc,lua⟩:=hst11.uaC
 have hle:=law_lenA hst11
 have hmk2:=law_mark hst11
 have hbk2:=lawback_any w w11 _ ua ub jb fr' _ [] ta tb hst11 zPXO 0
 have hle2:Calls Tryz.prog 25 #[ptrV ta] w11 fun e w'=>e=.returned (.int .i64 0)∧w'=w11:=hle
 have hmk3:Calls Tryz.prog 30 #[ptrV jb] w11 fun e w'=>e=.returned (.int .i64 0)∧w'=w11:=hmk2
 unfold ptrV at hle2 hmk3 hbk2
 have HLE:=Lib.hid hle2
 have HMK3:=Lib.hid hmk3
 have HBK2:=Lib.hid hbk2
 clear hst11 hle hmk2 hbk2 hle2 hmk3
 go_wp2_with fail
 clear l0 hgl uc lua
 refine HLE.out.mono ?_
 clear HLE
 rintro e w12 ⟨rfl,rfl⟩
 go_wp2_with fail
 refine HMK3.out.mono ?_
 clear HMK3
 rintro e w13 ⟨rfl,rfl⟩
 go_wp2_with fail
 refine HBK2.out.mono ?_
 clear HBK2
 rintro e w14 ⟨rfl,hst14⟩
 have HFB:Hid (Below w.heap.size w w14):=Lib.hid zsCr
 clear hst14
 go_wp2
 go_ret
 exact ⟨rfl,HFB.out⟩
 ):P:=h
theorem zsCr {P:Prop} (h:P:=by obtain ⟨_,_,_,hG⟩:=hst14;exact hG.trk.only.below (Nat.le_refl _) (fun q hq=>by simp at hq)):P:=h
namespace Go.Proofs.YteggkjdlajgenaaGreatDoor
open Go.RowKit Go.Afx
def AllSt (w:World) (lv:Value) (ua ub jb ta tb tp k:Nat) (wr:World):Prop :=
 ∃ m steps,LawP w wr lv ua ub (some jb) [] (m,[]) steps ta tb tp m∧steps.length≤1000*k∧backP exUt exUu ta steps (m,[])=([],[])
theorem uall_any (w:World) (hm:Mx w) (v:Value) (l:List ActU) (h:ActsU w (fun _=>True) v l) (mk:Int) (hmk:fit64 mk) :
 Calls Tryz.prog 10 #[v,.int .i64 mk] w fun e w'=>e=.returned (.bool true)∧Below w.heap.size w w':=by
 obtain ⟨p,cap,rfl,hc1,hc2⟩:=h.sl.form
 obtain ⟨n,hn⟩:=zwjg
 have HGR:=Lib.hid (great10_any w _ _ l h)
 rw [hn] at hc1 HGR ⊢
 have HS:=Lib.hid h
 have HN:=Lib.hid hn
 have HM:=Lib.hid hm
 have HAW:=Lib.hid (fun W (hb:Below w.heap.size w W)=>awake10_any W (hm.below hb))
 clear h hn hm
 go_enter Tryz.func10,Tryz.ntmps10
 go_wp2_with fail
 refine HGR.out.mono ?_
 clear HGR
 rintro e w1 ⟨gb,rfl,hb1,hgb⟩
 have HB1:=Lib.hid hb1
 have HGB:=Lib.hid hgb
 clear hb1 hgb
 cases gb with
 | true =>
  exact zVQu
 | false =>
  have HFI:=Lib.hid (HGB.out rfl)
  clear HGB
  go_wp2_with fail
  refine (HAW.out _ HB1.out).mono ?_
  clear HAW
  rintro e w2 ⟨rfl,hb2⟩
  have hb02:=HB1.out.trans (hb2.mono HB1.out.size)
  obtain ⟨w3,hw3⟩:=zfMa
  have hT3:=jour_new w2 w3 hw3 hb02
  have hb3:=zUeY
  have HBO:=Lib.hid (both_any w w3 HM.out ((HM.out.below hb02).below hb3) _ hT3 (some w2.heap.size))
  unfold ptrJ ptrV at HBO
  clear hb2 hb02 hT3 hb3
  go_wp2_with fail
  clear hw3
  refine HBO.out.mono ?_
  clear HBO
  generalize w2.heap.size=jb at *
  rintro e w4 ⟨lv,ua,ub,ga,gb,rfl,hbo⟩
  have hl4:=hbo.law
  have hmx4:=zedq
  obtain ⟨ga2,gb2,jv2,hg2⟩:=id hl4
  obtain ⟨gl,ol,cl,rfl,hgl,_,hl0,hl1⟩:=hg2.list
  have HL4:=Lib.hid hl4
  have HMX4:=Lib.hid hmx4
  have HP:=Lib.hid (plan10_any w4 ⟨#[116]⟩ z7Rn)
  generalize ga.tb=ta at *
  generalize gb.tb=tb at *
  clear hbo hl4 hg2 ga2 gb2 jv2 hgl hl0 hl1 hmx4
  go_wp2_with fail
  refine HP.out.mono ?_
  clear HP
  rintro e w5 ⟨a,b,c,d,rfl,hs5,hb5⟩
  have HNW:=Lib.hid ((HL4.out.below hb5).plain HM.out (HMX4.out.below hb5) _ a b c d hs5)
  clear hs5 hb5
  go_wp2_with fail
  refine HNW.out.mono ?_
  clear HNW
  rintro e w6 ⟨tp,rfl,hl6⟩
  have h6:AllSt w (.slice (some ⟨gl,ol,none⟩) 2 cl) ua ub jb ta tb tp 0 w6:=⟨[],[],hl6,zPXO,rfl⟩
  have H6:=Lib.hid h6
  clear hl6 h6 HL4 HMX4
  go_wp2
  go_loopw [9] (fun iv wr=>∃ k:Nat,iv=.int .i64 k∧k≤n∧AllSt w (.slice (some ⟨gl,ol,none⟩) 2 cl) ua ub jb ta tb tp k wr) (fun iv _=>n - (intOf iv).toNat)
  case atStart=>exact ⟨0,rfl,Nat.zero_le _,H6.out⟩
  case round =>
   obtain ⟨k,rfl,hk,m,steps,hL,hsl,hbk⟩:=hrel
   obtain ⟨wo,rfl⟩:=zDit
   obtain ⟨fr',hst⟩:=hL.toSt
   have hbw:Below w.heap.size w wo:=zxCR
   obtain ⟨l0,_,hgl⟩:=hst.list
   have HL:=Lib.hid hL
   have HST:=Lib.hid hst
   have HBK:=Lib.hid hbk
   have HSL:=Lib.hid hsl
   have HBW:=Lib.hid hbw
   have hn60:=HFI.out.len
   rw [HN.out] at hn60
   by_cases hkn:k < n
   ·skip
    have hkl:k < l.length:=by rw [HN.out];exact hkn
    obtain ⟨g,off,cap',hv,hg,e0,e1,e2,e3⟩:=(HS.out.below hbw).at hkl
    rw [HN.out] at hv
    cases hv
    have hmk2:=zKzh
    obtain ⟨pr,nr,cr,hrv⟩:=HS.out.forms _ hmk2
    have hrow:=zgN1
    obtain ⟨hf1,hf2,hf3⟩:=HS.out.n64 _ hmk2
    have hrl:=HFI.out.row _ hmk2
    generalize l[k]=x at *
    have HDO:=Lib.hid (fun W (hb:Below wo.heap.size wo W)=>(hL.below hb).does x (hrow.below hb) hf3 hrl hf2 zTbe)
    have hcl:=cntU_le hst.v.1 x
    have HCL:=Lib.hid hcl
    have hagg:=z5c5
    rw [hrv] at e3
    rw [hagg] at HDO
    have HAGG:=Lib.hid hagg
    clear hL hst hbk hsl hbw hkl hmk2 hrow hf2 hf3 hrl hcl hrv hagg
    by_cases hlo:x.kind < 0
    ·go_wp2
     exact z8Pw
    by_cases hhi:3 < x.kind
    ·go_wp2
     exact z8Pw
    ·have hdo:=HDO.out wo.drew (Below.refl _ _).drew
     unfold ptrV at hdo
     have HD:=Lib.hid hdo
     have hk3:x.kind≤3:=zTbe
     clear hdo HDO
     go_upto_region 12 with fail
     refine wp_region_lit_plan [] [(0,0),(1,0),(3,0),(4,0),(5,0),(6,0),(2,1),(7,1),(8,4)] (fun _=>False) zyVB zyVB (fun c a d v w h=>zx0I) ?_
     go_wp2_with (first|(refine stp ?_))
     clear l0 hgl e0 e1 e2 e3
     refine HD.out.mono ?_
     clear HD
     rintro e w7 ⟨rfl,ls,hL7,hb7,hlen7,htb7⟩
     have hfin:AllSt w (.slice (some ⟨gl,ol,none⟩) 2 cl) ua ub jb ta tb tp (k+1) w7:=by
      refine ⟨_,_,hL7,?_,?_⟩
      ·have:=HSL.out;have:=HCL.out;rw [List.length_append,hlen7];omega
      ·rw [backP_append,backP_A _ _ _ ls _ _ htb7,hb7];exact HBK.out
     exact zzOA
   ·skip
    have hN:steps.length≤60000:=by have:k≤60:=by omega
                                   omega
    obtain ⟨uc,lua⟩:=hst.uaC
    have hby:=law_bytesA hst
    obtain ⟨out,hout⟩:∃ out,bs (rowsB2 m)=out:=⟨_,rfl⟩
    rw [show (m,([]:List (List AV))).1=m from rfl,hout] at hby
    have HOUT:=Lib.hid hout
    clear hout
    unfold ptrV at hby
    have HBY:=Lib.hid hby
    obtain ⟨N,hNN⟩:∃ N,steps.length=N:=⟨_,rfl⟩
    rw [hNN] at hN
    have HNN:=Lib.hid hNN
    clear hL hbk hsl hbw hby hNN
    go_wp2_with fail
    clear l0 hgl uc lua
    refine HBY.out.mono ?_
    clear HBY
    rintro e w7 ⟨rfl,hb7⟩
    have hst7:=HST.out.below hb7
    have HST7:=Lib.hid hst7
    have hmk7:=law_mark hst7
    rw [HNN.out] at hmk7
    unfold ptrV at hmk7
    have HMK:=Lib.hid hmk7
    clear hst hb7 hst7 hmk7
    go_wp2_with fail
    refine HMK.out.mono ?_
    clear HMK
    rintro e w8 ⟨rfl,rfl⟩
    by_cases hge:(N:Int)≤mk
    ·skip
     have hp0:N - (max mk 0).toNat=0:=zTbe
     have hmin:min N (max mk 0).toNat=N:=zTbe
     have hbk:=lawback_any w w8 _ ua ub jb fr' _ steps ta tb HST7.out (by rw [HNN.out];omega) mk
     rw [HNN.out,hp0,hmin,←HNN.out,List.drop_length,List.take_length] at hbk
     have HBB:=Lib.hid hbk
     unfold ptrV at HBB
     have hge2:(mk ≥ (N:Int)):=hge
     clear hbk hp0 hmin
     go_wp2_with fail
     refine HBB.out.mono ?_
     clear HBB
     rintro e w9 ⟨rfl,hst9⟩
     have hst9:LawSt w w9 (.slice (some ⟨gl,ol,none⟩) 2 cl) ua ub (some jb) fr' (m,[]) steps ta tb:=hst9
     obtain ⟨l0,_,hgl⟩:=hst9.list
     obtain ⟨uc,lua⟩:=hst9.uaC
     have hby:=law_bytesA hst9
     rw [show (m,([]:List (List AV))).1=m from rfl,HOUT.out] at hby
     unfold ptrV at hby
     have HBY:=Lib.hid hby
     have HST9:=Lib.hid hst9
     clear hst9 hby
     go_wp2_with fail
     clear l0 hgl uc lua
     refine HBY.out.mono ?_
     clear HBY
     rintro e w10 ⟨rfl,hb10⟩
     have HST10:=Lib.hid (HST9.out.below hb10)
     clear hb10
     have hm0:max (min mk 0) 0=0:=zTbe
     have hbk:=lawback_any w w10 _ ua ub jb fr' _ steps ta tb HST10.out (by rw [HNN.out];omega) (min mk 0)
     exact zI06
    ·skip
     have hge2:¬ (mk ≥ (N:Int)):=hge
     have hm0:max (min mk 0) 0=0:=zTbe
     have hbk:=lawback_any w w8 _ ua ub jb fr' _ steps ta tb HST7.out (by rw [HNN.out];omega) (min mk 0)
     exact zI06
theorem uall_law (v:Value) (l:List ActU) (mk:Int) (hm1:(Lit.int IntKind.i64 mk).wf=true) (w:World) (hm:Mx w) (h:ActsU w (fun _=>True) v l) :
 Calls Tryz.prog 10 #[v,.int .i64 mk] w fun e w'=>e=.returned (.bool true)∧Below w.heap.size w w' :=
 uall_any w hm v l h mk (wf_fit64 hm1)
end Go.Proofs.YteggkjdlajgenaaGreatDoor
