/- Contracts of the functions that the statement reaches, one behind the other. No condition beyond each theorem's own. -/
import Derived.Test.YteggkjdlajgenaaGreatDoorTS5
set_option linter.unusedSimpArgs false
set_option linter.unusedVariables false
set_option maxRecDepth 100000
set_option maxHeartbeats 4000000
theorem z9qC {P:Prop} (h:P:=by
 go_ret
 exact ⟨zsFg,HAL.out.trans (HB.out.mono HAL.out.size)⟩
 ):P:=h
theorem zwpm {P:Prop} (h:P:=by rw [hok,decide_eq_true (by omega),decide_eq_true (by omega)];rfl):P:=h
theorem zNz8 {P:Prop} (h:P:=by rw [hsd,hs];rfl):P:=h
theorem zVqD {P:Prop} (h:P:=by
 have zz:Value.slice pv (pickR l (ps.take ps.length)).length cv=Value.slice pv (pickR l ps).length cv:=by rw [List.take_length]
 exact zz):P:=h
theorem zMBQ {P:Prop} (h:P:=by
 obtain ⟨p,_,rfl⟩:=List.mem_map.1 ha
 rw [List.getD_eq_getElem?_getD]
 cases hg:row[p.toNat]? with
 | none=>simp [fit64]
 | some b=>simpa using h b (List.mem_of_getElem? hg)
 ):P:=h
theorem zoCq {P:Prop} (h:P:=by
 have zz:Below w.heap.size w (w.alloc (.cells #[.string nm,.slice pc cl.length cc,.slice (some ⟨g,off,none⟩) il.length ci,.int .i64 lim,.int .i64 prt,.int .i64 by_] 25)):=(Below.refl _ _).alloc (Nat.le_refl _) _
 exact zz):P:=h
theorem zN7s {P:Prop} (h:P:=by
 have zz:Hid (Blk (w.alloc (.cells #[.string nm,.slice pc cl.length cc,.slice (some ⟨g,off,none⟩) il.length ci,.int .i64 lim,.int .i64 prt,.int .i64 by_] 25)) w.heap.size 25 [.string nm,.slice pc cl.length cc,.slice (some ⟨g,off,none⟩) il.length ci,.int .i64 lim,.int .i64 prt,.int .i64 by_]):=Blk.new w _ _
 exact zz):P:=h
theorem zkA4 {P:Prop} (h:P:=by
 have:=rowKey_len (pickO row xl)
 have:=rowKey_len (pickO row yl)
 have:=pickO_len row xl
 have:=pickO_len row yl
 omega
 ):P:=h
theorem zuOT {P:Prop} (h:P:=by
 rintro e w5 ⟨rfl,hb5⟩
 have HB5:=Lib.hid (HB4.out.trans (hb5.mono HB4.out.size))
 clear hb5
 go_wp2
 go_ret
 exact ⟨by rw [HSK.out,←bs_append];rfl,HALW.out.trans (HB5.out.mono HALW.out.size)⟩
 ):P:=h
theorem zE70 {P:Prop} (h:P:=by
 have HG:=Lib.hid hg
 clear hg
 go_enter Tryz.func50,Tryz.ntmps50
 go_wp2
 go_ret
 exact ⟨by rw [HG.out];rfl,HAL.out⟩
 ):P:=h
theorem z4gY {P:Prop} (h:P:=by
 have HF:=Lib.hid (HX.out hcb)
 clear HX HY hcb hb
 go_wp2
 go_round
 case rel=>exact ⟨k+1,z3KH,zTbe,HF.out⟩
 case measure=>(simp [intOf])<;>omega
 ):P:=h
theorem zGHK {P:Prop} (h:P:=by
 repeat (with_reducible first|exact Below.refl _ _|apply Below.drew|(refine Below.alloc ?_ znAK _)|(refine Below.setCell ?_ znAK _))
 ):P:=h
theorem zVqq {P:Prop} (h:P:=by
 go_ret2
 refine ⟨rfl,Below.trans ?_ (hb2.mono zPXO)⟩
 repeat (with_reducible first|exact Below.refl _ _|apply Below.drew|(refine Below.alloc ?_ znAK _)|(refine Below.setCell ?_ znAK _))
 ):P:=h
theorem zTZY {P:Prop} (h:P:=by
 have zz:wr.cell? ⟨g,off+k,none⟩=some (.int .i64 l[k]):=(ho.cell (p:=⟨g,off+k,none⟩) hglt hgb).trans hc0
 exact zz):P:=h
theorem zvvv {P:Prop} (h:P:=by
 have HZX:=Lib.hid hzx
 clear hzx
 go_roundw
 case rel =>
  refine ⟨k+1,z3KH,zTbe,?_,?_⟩
  ·rw [←HZX.out]
   exact (HT3.out.set 0 _).set 1 _
  ·have ho3:Only (fun k=>k=b) w w3:=(HO.out.drew.trans (Only.of_none hb2) (fun _ _ h=>h)).trans (Only.of_none hb3) (fun _ _ h=>h)
   exact (ho3.setCell (fun _=>rfl) _).setCell (fun _=>rfl) _
 case measure=>simp [intOf];omega
 ):P:=h
theorem zwBC {P:Prop} (h:P:=by
 rw [hz] at ht
 have t2:wr.cell? ⟨b,2,none⟩=some (.int .i64 n):=ht.cell 2
 have hf:∀ i,wr.frozen? ⟨b,i,none⟩=false:=ht.frozen
 have HT:=Lib.hid ht
 have HO:=Lib.hid ho
 clear ht ho hkl hz
 go_wp2
 go_end0
 exact ⟨rfl,HT.out.set 2 _,HO.out.setCell (fun _=>rfl) _⟩
 ):P:=h
theorem zFSb {P:Prop} (h:P:=by simp [results,Tryz.results207,go_sem]):P:=h
theorem zfqm {P:Prop} (h:P:=by simpa [Lit.wf,IntKind.min,IntKind.max,IntKind.bits,IntKind.signed] using h):P:=h
theorem zJX4 {P:Prop} (h:P:=by
 have zz:∃ c,chkS ⟨nm,.slice pc cl.length cc,cl,.slice pi il.length ci,il,lim,prt,by_⟩ 0 row=c:=⟨_,rfl⟩
 exact zz):P:=h
theorem zKlB {P:Prop} (h:P:=by
 rw [not_or,hr]
 rw [Bool.and_eq_true,decide_eq_true_eq,decide_eq_true_eq] at hi
 refine ⟨zPXO,?_⟩
 rw [Bool.not_eq_false,Bool.and_eq_true,decide_eq_true_eq,decide_eq_true_eq]
 omega
 ):P:=h
theorem z5eP {P:Prop} (h:P:=by
 obtain ⟨l,rfl,h4⟩:=choose_list es (fun c hcm=>(h1 c hcm).2)
 rw [List.length_map] at h2
 exact ⟨l,h2,h4⟩
 ):P:=h
namespace Go.Proofs.YteggkjdlajgenaaGreatDoor
open Go.RowKit Go.Afx
theorem refright_main (w:World) (B:Nat→Prop) (s:SchV) (h:SchAt w B s) (hf:frontS s=true) :
 Calls Tryz.prog 12 #[s.agg] w fun e w'=>e=.returned (.bool (rightS s))∧Below w.heap.size w w':=by
 have hfp:=(frontS_iff s).1 hf
 have hrf:=rightS_front s
 rw [hf,Bool.true_and] at hrf
 obtain ⟨nm,cv,cl,iv,il,lim,prt,by_⟩:=s
 obtain ⟨h1,h2,h3,h4⟩:=h
 simp only at h1 h2 h3 h4 hfp hrf
 simp only [SchV.agg]
 generalize rightS ⟨nm,cv,cl,iv,il,lim,prt,by_⟩=out at *
 obtain ⟨p1,p2,p3,p4,p5,p6,p7,p8,p9,p10,p11,p12⟩:=hfp
 have HRF:=Lib.hid hrf
 obtain ⟨pc,cc,rfl,hcl,hcc⟩:=h1.form
 obtain ⟨pi,ci,rfl,hil,hci⟩:=h2.1.form
 have hal:=zVhr
 have HBK:=z1OE
 have HN:=Lib.hid (refnamed (w.alloc (.cells #[.string nm,.slice pc cl.length cc,.slice pi il.length ci,.int .i64 lim,.int .i64 prt,.int .i64 by_] 25)) nm h4)
 have HAL:=Lib.hid hal
 have H1:=Lib.hid (h1.below hal)
 have H2:=Lib.hid (h2.below hal)
 have H3:=Lib.hid h3
 have h0:0 < il.length:=zTbe
 obtain ⟨g,off,cap1,hv,hg,e0,e1⟩:=sl_idx (h2.below hal).1 h0
 cases hv
 have hfu:il[0].unique=true:=by
  cases il with
  | nil=>simp at h0
  | cons a t=>exact p12
 have e2:(w.alloc (.cells #[.string nm,.slice pc cl.length cc,.slice (some ⟨g,off,none⟩) il.length ci,.int .i64 lim,.int .i64 prt,.int .i64 by_] 25)).cell? ⟨g,off+1,none⟩=some (.bool true):=by rw [Nat.zero_mul,Nat.add_zero,hfu] at e1;exact e1
 have h0i:(0:Int) < (il.length:Int):=zTbe
 rw [p1] at HN
 have t1:decide ((cl.length:Int) < 1)=false:=decide_eq_false zTbe
 have t2:decide ((8:Int) < (cl.length:Int))=false:=decide_eq_false zTbe
 have t3:decide ((il.length:Int) < 1)=false:=decide_eq_false zTbe
 have t4:decide ((4:Int) < (il.length:Int))=false:=decide_eq_false zTbe
 have t5:decide (lim < 1)=false:=decide_eq_false zTbe
 have t6:decide (1000 < lim)=false:=decide_eq_false zTbe
 have t7:decide (prt < 1)=false:=decide_eq_false zTbe
 have t8:decide (8 < prt)=false:=decide_eq_false zTbe
 have t9:decide (by_ < 0)=false:=decide_eq_false zTbe
 have t10:decide ((cl.length:Int)≤by_)=false:=decide_eq_false zTbe
 clear h1 h2 h3 h4 hal hf hrf e0 e1 hfu p1 p12 h0
 go_enter Tryz.func12,Tryz.ntmps12
 go_wp2_with (go_at_call 52;refine HN.out.mono ?_;clear HN;rintro e w2 ⟨rfl,rfl⟩)
 generalize hw1:w.alloc (.cells #[.string nm,.slice pc cl.length cc,.slice (some ⟨g,off,none⟩) il.length ci,.int .i64 lim,.int .i64 prt,.int .i64 by_] 25)=w1 at *
 clear hw1 e2 t1 t2 t3 t4 t5 t6 t7 t8 t9 t10
 go_loopw [4] (fun i wr=>∃ k:Nat,i=.int .i64 k∧k≤cl.length∧(cl.take k).all colOk=true∧unlikeGo sameCol (cl.take k) (cl.drop k)=unlikeB sameCol cl∧Below w1.heap.size w1 wr) (fun i _=>cl.length - (intOf i).toNat)
 case atStart=>exact ⟨0,rfl,Nat.zero_le _,rfl,rfl,Below.refl _ _⟩
 case round =>
  obtain ⟨k,rfl,hk,ha,hu,hb⟩:=hrel
  obtain ⟨wo,rfl⟩:=zDit
  have HB:=Lib.hid hb
  have HA:=Lib.hid ha
  have HU:=Lib.hid hu
  obtain ⟨x0,x1,x2,x3,x4,x5⟩:=sch_cells (HBK.out.below hb)
  clear ha hu
  by_cases hka:k < cl.length
  ·obtain ⟨g1,off1,cap2,hv,hg1,e0,e1⟩:=sl_col (H1.out.below hb) hka
   cases hv
   have HX:=Lib.hid (all_next colOk cl k hka HA.out)
   have HY:=Lib.hid (all_not colOk cl k hka)
   have hrk:=H3.out cl[k] (List.getElem_mem hka)
   have hstep:=unlike_step sameCol cl k hka
   have HT:=Lib.hid hstep.1
   have HFF:=Lib.hid hstep.2
   clear hb hstep x0 x3 x4 x5
   generalize hce:cl[k]=c at *
   have HCE:=Lib.hid hce
   obtain ⟨nm2,kd⟩:=c
   have hok:colOk ⟨nm2,kd⟩=(namedB nm2 && (decide (1≤kd) && decide (kd≤3))):=rfl
   simp only at e0 e1 hrk
   have HN2:=Lib.hid (fun W=>refnamed W nm2 hrk)
   generalize namedB nm2=nb at *
   clear hrk hce
   by_cases hbad:nb=false∨kd < 1∨3 < kd
   ·have e5:out=false:=by
     rw [HRF.out,HY.out (by
      rw [hok]
      rcases hbad with h|h|h
      ·rw [h];rfl
      ·rw [decide_eq_false zTbe];simp
      ·rw [decide_eq_false (p:=kd≤3) zTbe];simp)]
     rfl
    have E5:=Lib.hid e5
    clear HX HY hok e5
    rcases hbad with rfl|h|h
    ·go_wp2_with (go_at_call 52;refine (HN2.out _).mono ?_;rintro e w2 ⟨rfl,rfl⟩)
     exact z9qC
    ·cases nb
     all_goals
      go_wp2_with (go_at_call 52;refine (HN2.out _).mono ?_;rintro e w2 ⟨rfl,rfl⟩)
      exact z9qC
    ·have h1':¬ kd < 1:=by omega
     cases nb
     all_goals
      go_wp2_with (go_at_call 52;refine (HN2.out _).mono ?_;rintro e w2 ⟨rfl,rfl⟩)
      exact z9qC
   ·have hnb:nb=true:=by cases nb;exact absurd (.inl rfl) hbad;rfl
    subst hnb
    have hk1:¬ kd < 1:=fun h=>hbad (.inr (.inl h))
    have hk3:¬ 3 < kd:=fun h=>hbad (.inr (.inr h))
    have HF:=Lib.hid (HX.out zwpm)
    clear HX HY hok hbad
    go_wp2_with (go_at_call 52;refine (HN2.out _).mono ?_;rintro e w2 ⟨rfl,rfl⟩)
    go_loopw [5] (fun i wr=>∃ j:Nat,i=.int .i64 j∧j≤k∧(cl.take j).all (fun b=>!sameCol ⟨nm2,kd⟩ b)=true∧Below w1.heap.size w1 wr) (fun i _=>k - (intOf i).toNat)
    case atStart=>exact ⟨0,rfl,Nat.zero_le _,rfl,HB.out⟩
    case round =>
     obtain ⟨j,rfl,hj,hall,hbq⟩:=hrel
     have HBQ:=Lib.hid hbq
     have HALL:=Lib.hid hall
     obtain ⟨y0,y1,y2,y3,y4,y5⟩:=sch_cells (HBK.out.below hbq)
     clear hall y0 y2 y3 y4 y5
     by_cases hjk:j < k
     ·have hjl:j < cl.length:=by omega
      have HNX:=Lib.hid (all_next (fun b=>!sameCol ⟨nm2,kd⟩ b) cl j hjl HALL.out)
      have HNF:=Lib.hid (all_false (fun b=>!sameCol ⟨nm2,kd⟩ b) cl j k hjk hjl)
      obtain ⟨g2,off2,cap3,hv2,hg2,f0,f1⟩:=sl_col (H1.out.below hbq) hjl
      cases hv2
      obtain ⟨g3,off3,cap4,hv3,hg3,r0,r1⟩:=sl_col (H1.out.below hbq) hka
      cases hv3
      rw [HCE.out] at r0
      clear hbq
      generalize cl[j]=b at *
      obtain ⟨nm3,kd3⟩:=b
      simp only at f0 r0
      have hsd:sameCol ⟨nm2,kd⟩ ⟨nm3,kd3⟩=(nm3.toList == nm2.toList):=by rw [sameCol_comm];rfl
      cases hs:(nm3.toList == nm2.toList)
      ·have HF2:=Lib.hid (HNX.out zNz8)
       clear HNX HNF hsd
       go_wp2
       refine wp_region_lit_plan [] [(0,0),(2,0),(6,0),(8,0),(1,1),(3,0),(4,0),(5,1),(7,1),(9,0),(10,0),(11,1),(12,0)] (fun _=>False) zyVB zyVB (fun c a d v w h=>zx0I) ?_
       go_wp2_with (first
        | (refine stp ?_))
       exact ⟨⟨j+1,z3KH,zTbe,HF2.out,HBQ.out.drew⟩,zQOc⟩
      ·have e5:out=false:=by
        rw [HRF.out,←HU.out,HFF.out (HNF.out zNz8)]
        simp
       have E5:=Lib.hid e5
       clear HNX HNF hsd e5
       go_wp2
       refine wp_region_lit_plan [] [(0,0),(2,0),(6,0),(8,0),(1,1),(3,0),(4,0),(5,1),(7,1),(9,0),(10,0),(11,1),(12,0)] (fun _=>False) zyVB zyVB (fun c a d v w h=>zx0I) ?_
       go_wp2_with (first
        | (refine stp ?_))
       go_ret
       exact ⟨zsFg,HAL.out.trans (HBQ.out.drew.mono HAL.out.size)⟩
     ·obtain rfl:j=k:=by omega
      clear hbq
      go_wp2
      go_roundw
      case rel=>exact ⟨j+1,z3KH,zTbe,HF.out,zxU7,HBQ.out⟩
      case measure=>(simp [intOf])<;>omega
  ·obtain rfl:k=cl.length:=by omega
   have hca:cl.all colOk=true:=by have:=HA.out;rwa [List.take_length] at this
   have hcu:unlikeB sameCol cl=true:=zbJ1
   have hr2:=HRF.out
   rw [hca,hcu,Bool.true_and,Bool.true_and] at hr2
   have HR2:=Lib.hid hr2
   clear hb hca hcu hr2 hka hk
   go_wp2
   go_loopw [6] (fun i wr=>∃ m:Nat,i=.int .i64 m∧m≤il.length∧(il.take m).all (placesB (cl.length:Int))=true∧unlikeGo sameIdx (il.take m) (il.drop m)=unlikeB sameIdx il∧Below w1.heap.size w1 wr) (fun i _=>il.length - (intOf i).toNat)
   case atStart=>exact ⟨0,rfl,Nat.zero_le _,rfl,rfl,HB.out⟩
   case round =>
    obtain ⟨m,rfl,hm,ha,hu,hb⟩:=hrel
    obtain ⟨wp,rfl⟩:∃ wp:World,wp=wr:=⟨_,rfl⟩
    have HBP:=Lib.hid hb
    have HAP:=Lib.hid ha
    have HUP:=Lib.hid hu
    obtain ⟨z0,z1,z2,z3,z4,z5⟩:=sch_cells (HBK.out.below hb)
    clear ha hu z0 z1 z3 z4 z5 x0 x1 x2 x3 x4 x5
    by_cases hma:m < il.length
    ·obtain ⟨g1,off1,cap2,hv,hg1,e0,e1⟩:=sl_idx (H2.out.below hb).1 hma
     cases hv
     have hxs:=(H2.out.below hb).2 il[m] (List.getElem_mem hma)
     have HX:=Lib.hid (all_next (placesB (cl.length:Int)) il m hma HAP.out)
     have HY:=Lib.hid (all_not (placesB (cl.length:Int)) il m hma)
     have hstep:=unlike_step sameIdx il m hma
     have HT:=Lib.hid hstep.1
     have HFF:=Lib.hid hstep.2
     have HXS0:=Lib.hid (H2.out.2 il[m] (List.getElem_mem hma))
     clear hb hstep e1
     generalize hxe:il[m]=x at *
     have HXE:=Lib.hid hxe
     have hpl:=places_len cl.length x
     obtain ⟨xv,xl,xu⟩:=x
     simp only at e0 hxs HXS0 hpl
     obtain ⟨px,cx,rfl,hcx1,hcx2⟩:=hxs.form
     have hpb:placesB (cl.length:Int) ⟨.slice px xl.length cx,xl,xu⟩=(xl.all (placeOk (cl.length:Int)) && (decide (0 < xl.length) && unlikeB sameInt xl)):=rfl
     have HPB:=Lib.hid hpb
     have HOF:Hid (placesB (cl.length:Int) ⟨.slice px xl.length cx,xl,xu⟩=false→out=false):=fun h=>by rw [HR2.out,HY.out h];rfl
     generalize placesB (cl.length:Int) ⟨.slice px xl.length cx,xl,xu⟩=pb at *
     clear hxe hpb HY hxs
     by_cases hx1:xl.length < 1
     ·have e5:=HOF.out (by rw [HPB.out,decide_eq_false (show ¬ 0 < xl.length by omega)];simp)
      have E5:=Lib.hid e5
      have d1:decide ((xl.length:Int) < 1)=true:=decide_eq_true zTbe
      clear e5 hpl
      go_wp2
      go_ret
      exact ⟨zsFg,HAL.out.trans (HBP.out.mono HAL.out.size)⟩
     by_cases hx8:8 < xl.length
     ·have e5:=HOF.out (by
       cases pb
       ·rfl
       ·have:=hpl rfl;omega)
      have E5:=Lib.hid e5
      have d1:decide ((xl.length:Int) < 1)=false:=decide_eq_false zTbe
      have d2:decide ((8:Int) < (xl.length:Int))=true:=decide_eq_true zTbe
      clear e5 hpl
      go_wp2
      go_ret
      exact ⟨zsFg,HAL.out.trans (HBP.out.mono HAL.out.size)⟩
     have d1:decide ((xl.length:Int) < 1)=false:=decide_eq_false zTbe
     have d2:decide ((8:Int) < (xl.length:Int))=false:=decide_eq_false zTbe
     have hxp:decide (0 < xl.length)=true:=decide_eq_true zTbe
     rw [hxp,Bool.true_and] at HPB
     clear hpl hxp
     go_wp2
     clear d1 d2
     go_loopw [8] (fun i wr=>∃ k:Nat,i=.int .i64 k∧k≤xl.length∧(xl.take k).all (placeOk (cl.length:Int))=true∧unlikeGo sameInt (xl.take k) (xl.drop k)=unlikeB sameInt xl∧Below w1.heap.size w1 wr) (fun i _=>xl.length - (intOf i).toNat)
     case atStart=>exact ⟨0,rfl,Nat.zero_le _,rfl,rfl,HBP.out⟩
     case round =>
      obtain ⟨k,rfl,hk,ha,hu,hb⟩:=hrel
      obtain ⟨wq,rfl⟩:∃ wq:World,wq=wr:=⟨_,rfl⟩
      have HBQ:=Lib.hid hb
      have HAQ:=Lib.hid ha
      have HUQ:=Lib.hid hu
      clear ha hu
      by_cases hka:k < xl.length
      ·obtain ⟨g2,off2,cap3,hv,hg2,f0⟩:=sl_int (HXS0.out.below hb) hka
       cases hv
       have HX2:=Lib.hid (all_next (placeOk (cl.length:Int)) xl k hka HAQ.out)
       have HY2:=Lib.hid (all_not (placeOk (cl.length:Int)) xl k hka)
       have hstep:=unlike_step sameInt xl k hka
       have HT2:=Lib.hid hstep.1
       have HFF2:=Lib.hid hstep.2
       clear hb hstep
       generalize hce:xl[k]=c at *
       have HCE:=Lib.hid hce
       have hok:placeOk (cl.length:Int) c=(decide (0≤c) && decide (c≤(cl.length:Int) - 1)):=rfl
       clear hce
       by_cases hbad:c < 0∨(cl.length:Int)≤c
       ·have e5:=HOF.out (by
         rw [HPB.out,HY2.out (by
          rw [hok]
          rcases hbad with h|h
          ·rw [decide_eq_false zTbe];rfl
          ·rw [decide_eq_false (p:=c≤(cl.length:Int) - 1) zTbe];simp)]
         rfl)
        have E5:=Lib.hid e5
        clear e5 HX2 HY2 hok
        rcases hbad with h|h
        ·have d1:decide (c < 0)=true:=decide_eq_true h
         go_wp2
         go_ret
         exact ⟨zsFg,HAL.out.trans (HBQ.out.mono HAL.out.size)⟩
        ·have d1:decide (c < 0)=false:=decide_eq_false zTbe
         have d2:decide ((cl.length:Int)≤c)=true:=decide_eq_true h
         go_wp2
         go_ret
         exact ⟨zsFg,HAL.out.trans (HBQ.out.mono HAL.out.size)⟩
       ·have hc0:¬ c < 0:=fun h=>hbad (.inl h)
        have hcn:¬ (cl.length:Int)≤c:=fun h=>hbad (.inr h)
        have d1:decide (c < 0)=false:=decide_eq_false hc0
        have d2:decide ((cl.length:Int)≤c)=false:=decide_eq_false hcn
        have HF:=Lib.hid (HX2.out zwpm)
        clear HX2 HY2 hok hbad
        go_wp2
        clear d1 d2
        go_loopw [9] (fun i wr=>∃ j:Nat,i=.int .i64 j∧j≤k∧(xl.take j).all (fun b=>!sameInt c b)=true∧Below w1.heap.size w1 wr) (fun i _=>k - (intOf i).toNat)
        case atStart=>exact ⟨0,rfl,Nat.zero_le _,rfl,HBQ.out⟩
        case round =>
         obtain ⟨j,rfl,hj,hall,hbq⟩:=hrel
         have HBR:=Lib.hid hbq
         have HALL:=Lib.hid hall
         clear hall
         by_cases hjk:j < k
         ·have hjl:j < xl.length:=by omega
          have HNX:=Lib.hid (all_next (fun b=>!sameInt c b) xl j hjl HALL.out)
          have HNF:=Lib.hid (all_false (fun b=>!sameInt c b) xl j k hjk hjl)
          obtain ⟨g3,off3,cap4,hv3,hg3,r0⟩:=sl_int (HXS0.out.below hbq) hjl
          cases hv3
          obtain ⟨g4,off4,cap5,hv4,hg4,s0⟩:=sl_int (HXS0.out.below hbq) hka
          cases hv4
          rw [HCE.out] at s0
          clear hbq
          generalize xl[j]=b at *
          have hsd:sameInt c b=(b == c):=by rw [sameInt_comm];rfl
          cases hs:(b == c)
          ·have HF2:=Lib.hid (HNX.out zNz8)
           clear HNX HNF hsd
           go_wp2
           refine wp_region_lit_plan [] [(0,0),(1,0),(2,0),(4,0),(5,0),(6,0),(3,1),(7,1),(8,0)] (fun _=>False) zyVB zyVB (fun c a d v w h=>zx0I) ?_
           go_wp2_with (first
            | (refine stp ?_))
           exact ⟨⟨j+1,z3KH,zTbe,HF2.out,HBR.out.drew⟩,zQOc⟩
          ·have e5:=HOF.out (by
            rw [HPB.out,←HUQ.out,HFF2.out (HNF.out zNz8)]
            simp)
           have E5:=Lib.hid e5
           clear HNX HNF hsd e5
           go_wp2
           refine wp_region_lit_plan [] [(0,0),(1,0),(2,0),(4,0),(5,0),(6,0),(3,1),(7,1),(8,0)] (fun _=>False) zyVB zyVB (fun c a d v w h=>zx0I) ?_
           go_wp2_with (first
            | (refine stp ?_))
           go_ret
           exact ⟨zsFg,HAL.out.trans (HBR.out.drew.mono HAL.out.size)⟩
         ·obtain rfl:j=k:=by omega
          clear hbq
          go_wp2
          go_roundw
          case rel=>exact ⟨j+1,z3KH,zTbe,HF.out,by rw [←HUQ.out,HT2.out HALL.out],HBR.out⟩
          case measure=>(simp [intOf])<;>omega
      ·obtain rfl:k=xl.length:=by omega
       have hca:xl.all (placeOk (cl.length:Int))=true:=by have:=HAQ.out;rwa [List.take_length] at this
       have hcu:unlikeB sameInt xl=true:=by rw [←HUQ.out,List.drop_length];rfl
       have hpbt:pb=true:=by rw [HPB.out,hca,hcu];rfl
       have HF:=Lib.hid (HX.out hpbt)
       clear hb hca hcu hka hk hpbt HOF HPB HX
       go_wp2
       go_loopw [10] (fun i wr=>∃ j:Nat,i=.int .i64 j∧j≤m∧(il.take j).all (fun b=>!sameIdx ⟨.slice px xl.length cx,xl,xu⟩ b)=true∧Below w1.heap.size w1 wr) (fun i _=>m - (intOf i).toNat)
       case atStart=>exact ⟨0,rfl,Nat.zero_le _,rfl,HBQ.out⟩
       case round =>
        obtain ⟨j,rfl,hj,hall,hbq⟩:=hrel
        have HBR:=Lib.hid hbq
        have HALL:=Lib.hid hall
        obtain ⟨v0,v1,v2,v3,v4,v5⟩:=sch_cells (HBK.out.below hbq)
        clear hall v0 v1 v3 v4 v5
        by_cases hjm:j < m
        ·have hjl:j < il.length:=by omega
         have HNX:=Lib.hid (all_next (fun b=>!sameIdx ⟨.slice px xl.length cx,xl,xu⟩ b) il j hjl HALL.out)
         have HNF:=Lib.hid (all_false (fun b=>!sameIdx ⟨.slice px xl.length cx,xl,xu⟩ b) il j m hjm hjl)
         obtain ⟨g3,off3,cap4,hv3,hg3,r0,r1⟩:=sl_idx (H2.out.below hbq).1 hjl
         cases hv3
         have hys:=(H2.out.below hbq).2 il[j] (List.getElem_mem hjl)
         generalize il[j]=b at *
         obtain ⟨bv,bl,bu⟩:=b
         simp only at r0 hys
         have HS:=Lib.hid (refsame wr B bv (.slice px xl.length cx) bl xl hys (HXS0.out.below hbq))
         obtain ⟨pb2,cb2,rfl,_,_⟩:=hys.form
         have hsd:sameIdx ⟨.slice px xl.length cx,xl,xu⟩ ⟨.slice pb2 bl.length cb2,bl,bu⟩=(bl == xl):=by rw [sameIdx_comm];rfl
         clear hbq hys r1
         cases hs:(bl == xl)
         ·rw [hs] at HS
          have HF2:=Lib.hid (HNX.out zNz8)
          clear HNX HNF hsd hs
          go_wp2_with (go_at_call 53;refine HS.out.mono ?_;clear HS;rintro e w5 ⟨rfl,hb5⟩)
          go_roundw
          case rel=>exact ⟨j+1,z3KH,zTbe,HF2.out,HBR.out.trans (hb5.mono HBR.out.size)⟩
          case measure=>(simp [intOf])<;>omega
         ·rw [hs] at HS
          have e5:out=false:=by
           rw [HR2.out,←HUP.out,HFF.out (HNF.out zNz8)]
           simp
          have E5:=Lib.hid e5
          clear HNX HNF hsd hs e5
          go_wp2_with (go_at_call 53;refine HS.out.mono ?_;clear HS;rintro e w5 ⟨rfl,hb5⟩)
          go_ret
          have h7:=HBR.out.trans (hb5.mono HBR.out.size)
          exact ⟨zsFg,HAL.out.trans (h7.mono HAL.out.size)⟩
        ·obtain rfl:j=m:=by omega
         clear hbq
         go_wp2
         go_roundw
         case rel=>exact ⟨j+1,z3KH,zTbe,HF.out,by rw [←HUP.out,HT.out HALL.out],HBR.out⟩
         case measure=>(simp [intOf])<;>omega
    ·obtain rfl:m=il.length:=by omega
     have hca:il.all (placesB (cl.length:Int))=true:=by have:=HAP.out;rwa [List.take_length] at this
     have hcu:unlikeB sameIdx il=true:=by rw [←HUP.out,List.drop_length];rfl
     have e5:out=true:=by rw [HR2.out,hca,hcu];rfl
     have E5:=Lib.hid e5
     clear hb hca hcu e5
     go_wp2
     go_ret
     exact ⟨zsFg,HAL.out.trans (HBP.out.mono HAL.out.size)⟩
theorem refright_any (w:World) (B:Nat→Prop) (s:SchV) (h:SchAt w B s) :
 Calls Tryz.prog 12 #[s.agg] w fun e w'=>e=.returned (.bool (rightS s))∧Below w.heap.size w w':=by
 cases hf:frontS s
 ·have:rightS s=false:=by rw [rightS_front,hf];rfl
  rw [this]
  exact refright_front w B s h hf
 ·exact refright_main w B s h hf
structure RowV where
 v:Value
 l:List AV
def rowVals (rows:List RowV):List Value:=rows.map RowV.v
theorem rowVals_append (a b:List RowV):rowVals (a++b)=rowVals a++rowVals b:=by simp [rowVals]
def RowsAt (w:World) (B:Nat→Prop) (v:Value) (rows:List RowV):Prop :=
 Sl w B 1 v rows.length (rowVals rows)∧∀ r∈rows,Sl w B 3 r.v r.l.length (rowCells r.l)
theorem RowsAt.below {w w':World} {B:Nat→Prop} {v:Value} {rows:List RowV} (h:RowsAt w B v rows) (hb:Below w.heap.size w w'):RowsAt w' B v rows :=
 ⟨h.1.below hb,fun r hr=>(h.2 r hr).below hb⟩
theorem RowsAt.only {w w':World} {S B:Nat→Prop} {v:Value} {rows:List RowV} (h:RowsAt w B v rows) (hb:Only S w w') (hd:∀ k,B k→¬ S k):RowsAt w' B v rows :=
 ⟨h.1.only hb hd,fun r hr=>(h.2 r hr).only hb hd⟩
theorem RowsAt.at {w:World} {B:Nat→Prop} {v:Value} {rows:List RowV} (h:RowsAt w B v rows) {k:Nat} (hk:k < rows.length) :
 ∃ g off cap,v=.slice (some ⟨g,off,none⟩) rows.length cap∧w.cell? ⟨g,off+k,none⟩=some rows[k].v:=by
 obtain ⟨g,off,cap,hv,_,_,_,_,hc⟩:=h.1.place zTbe
 exact ⟨g,off,cap,hv,by rw [hc k (by simpa [rowVals] using hk)];simp [rowVals,hk]⟩
def greatRowsB (rows:List (List AV)):Bool:=decide (30 < rows.length) || rows.any greatB
theorem great_rows (w:World) (B:Nat→Prop) (v:Value) (rows:List RowV) (hl:RowsAt w B v rows) :
 Calls Tryz.prog 51 #[v] w fun e w'=>e=.returned (.bool (greatRowsB (rows.map RowV.l)))∧Below w.heap.size w w':=by
 obtain ⟨p,cap,rfl,hc1,hc2⟩:=hl.1.form
 have HL:=Lib.hid hl
 clear hl
 by_cases h30:30 < rows.length
 ·have e1:greatRowsB (rows.map RowV.l)=true:=by unfold greatRowsB;simp [h30]
  rw [e1]
  have d:decide ((30:Int) < rows.length)=true:=decide_eq_true zTbe
  clear e1
  go_enter Tryz.func51,Tryz.ntmps51
  exact zI6W
 ·have d:decide ((30:Int) < rows.length)=false:=decide_eq_false zTbe
  have hll:rows.length≤30:=zTbe
  have HE:Hid (greatRowsB (rows.map RowV.l)=rows.any (fun r=>greatB r.l)):=by show _=_;unfold greatRowsB;rw [List.any_map];simp [h30];rfl
  go_enter Tryz.func51,Tryz.ntmps51
  go_wp2
  go_loopw [3] (fun i wr=>∃ k:Nat,i=.int .i64 k∧k≤rows.length∧(rows.take k).any (fun r=>greatB r.l)=false∧Below w.heap.size w wr) (fun i _=>rows.length - (intOf i).toNat)
  case atStart=>exact ⟨0,rfl,Nat.zero_le _,rfl,Below.refl _ _⟩
  case round =>
   obtain ⟨k,rfl,hk,hr,hb⟩:=hrel
   have HB:=Lib.hid hb
   have HR:=Lib.hid hr
   by_cases hka:k < rows.length
   ·obtain ⟨g,off,cap',hv,hck⟩:=(HL.out.below hb).at hka
    cases hv
    have hrow:=(HL.out.below hb).2 rows[k] (List.getElem_mem hka)
    have HX:Hid (∀ b,greatB rows[k].l=b→(rows.take (k+1)).any (fun r=>greatB r.l)=b):=fun b hb=>by
     rw [←List.take_append_getElem hka,List.any_append,hr]
     simp [←hb]
    have HY:Hid (greatB rows[k].l=true→rows.any (fun r=>greatB r.l)=true):=fun h=>by
     rw [List.any_eq_true]
     exact ⟨rows[k],List.getElem_mem hka,h⟩
    have HG:=Lib.hid (great_row _ _ _ _ hrow)
    clear hr hb hrow
    generalize rows[k]=x at *
    cases hx:greatB x.l
    ·rw [hx] at HG
     have HF:=Lib.hid (HX.out false hx)
     clear HX HY hx
     go_wp2_with (go_at_call 39;refine HG.out.mono ?_;rintro e w2 ⟨rfl,hb2⟩)
     exact zBtm
    ·rw [hx] at HG
     have HF:=Lib.hid (HY.out hx)
     clear HX HY hx
     go_wp2_with (go_at_call 39;refine HG.out.mono ?_;rintro e w2 ⟨rfl,hb2⟩)
     go_ret
     exact ⟨by rw [HE.out,HF.out];rfl,HB.out.trans (hb2.mono HB.out.size)⟩
   ·obtain rfl:k=rows.length:=by omega
    rw [List.take_length] at hr
    have HR2:=Lib.hid hr
    clear hr HR
    go_wp2
    go_ret
    exact ⟨by rw [HE.out,HR2.out];rfl,HB.out⟩
def kindAt (row:List AV) (cols:List ColV) (i:Nat):Bool:=(row[i]?).map AV.kind == (cols[i]?).map ColV.kind
def kindsB (row:List AV) (cols:List ColV):Bool:=(List.range row.length).all (kindAt row cols)
def fitB (cols:List ColV) (row:List AV):Bool:=decide (row.length=cols.length) && rightAll row && kindsB row cols
def fitsB (cols:List ColV) (rows:List (List AV)):Bool:=rows.all (fitB cols) && decide (rows.length≤32)
theorem kindAt_eq (row:List AV) (cols:List ColV) (k:Nat) (h1:k < row.length) (h2:k < cols.length):kindAt row cols k=(row[k].kind == cols[k].kind):=by
 unfold kindAt
 rw [List.getElem?_eq_getElem h1,List.getElem?_eq_getElem h2]
 rw [Bool.eq_iff_iff];simp
theorem kinds_next (row:List AV) (cols:List ColV) (k:Nat) (h1:k < row.length) (ha:((List.range row.length).take k).all (kindAt row cols)=true) (hk:kindAt row cols k=true):((List.range row.length).take (k+1)).all (kindAt row cols)=true :=
 all_next _ _ k zVKw ha zFJU
theorem kinds_not (row:List AV) (cols:List ColV) (k:Nat) (h1:k < row.length) (hk:kindAt row cols k=false):kindsB row cols=false :=
 all_not _ _ k zVKw zFJU
theorem reffits_any (w:World) (B B':Nat→Prop) (s:SchV) (v:Value) (row:List AV) (hc:Sl w B 2 s.colsV s.cols.length (colCells s.cols)) (hr:Sl w B' 3 v row.length (rowCells row)) (hio:∃ p n c,s.idxV=.slice p n c) :
 Calls Tryz.prog 113 #[s.agg,v] w fun e w'=>e=.returned (.bool (fitB s.cols row))∧Below w.heap.size w w':=by
 obtain ⟨nm,cv,cl,iv,il,lim,prt,by_⟩:=s
 simp only at hc hio
 obtain ⟨pi,ni,ci,rfl⟩:=hio
 simp only [SchV.agg]
 obtain ⟨pc,cc,rfl,hcc1,hcc⟩:=hc.form
 obtain ⟨pr,cr,rfl,hcr1,hcr⟩:=hr.form
 have hal:Below w.heap.size w (w.alloc (.cells #[.string nm,.slice pc cl.length cc,.slice pi ni ci,.int .i64 lim,.int .i64 prt,.int .i64 by_] 25)):=(Below.refl _ _).alloc (Nat.le_refl _) _
 have HBK:Hid (Blk (w.alloc (.cells #[.string nm,.slice pc cl.length cc,.slice pi ni ci,.int .i64 lim,.int .i64 prt,.int .i64 by_] 25)) w.heap.size 25 [.string nm,.slice pc cl.length cc,.slice pi ni ci,.int .i64 lim,.int .i64 prt,.int .i64 by_]):=Blk.new w _ _
 have HC:=Lib.hid (hc.below hal)
 have HR:=Lib.hid (hr.below hal)
 have HALL:=Lib.hid (all_row _ _ _ _ (hr.below hal))
 have HAL:=Lib.hid hal
 have HE:Hid (fitB cl row=(decide (row.length=cl.length) && rightAll row && kindsB row cl)):=rfl
 generalize fitB cl row=out at *
 clear hc hr hal
 by_cases hlen:row.length=cl.length
 ·have hli:(row.length:Int)=(cl.length:Int):=by omega
  have d1:((row.length:Int) != (cl.length:Int))=false:=by rw [hli];simp
  rw [decide_eq_true hlen,Bool.true_and] at HE
  have HLEN:=Lib.hid hlen
  clear hlen hli
  generalize rightAll row=ra at *
  cases ra
  ·go_enter Tryz.func113,Tryz.ntmps113
   go_wp2_with (go_at_call 149;refine HALL.out.mono ?_;clear HALL;rintro e w2 ⟨rfl,hb2⟩)
   go_ret
   exact ⟨zKZO,HAL.out.trans (hb2.mono HAL.out.size)⟩
  ·go_enter Tryz.func113,Tryz.ntmps113
   go_wp2_with (go_at_call 149;refine HALL.out.mono ?_;clear HALL;rintro e w2 ⟨rfl,hb2⟩;have HB2:=Lib.hid hb2;clear hb2)
   clear d1
   generalize hw1:w.alloc (.cells #[.string nm,.slice pc cl.length cc,.slice pi ni ci,.int .i64 lim,.int .i64 prt,.int .i64 by_] 25)=w1 at *
   clear hw1
   go_loopw [5] (fun i wr=>∃ k:Nat,i=.int .i64 k∧k≤row.length∧((List.range row.length).take k).all (kindAt row cl)=true∧Below w1.heap.size w1 wr) (fun i _=>row.length - (intOf i).toNat)
   case atStart=>exact ⟨0,rfl,Nat.zero_le _,rfl,HB2.out⟩
   case round =>
    obtain ⟨k,rfl,hk,ha,hb⟩:=hrel
    have HB:=Lib.hid hb
    have HA:=Lib.hid ha
    obtain ⟨x0,x1,x2,x3,x4,x5⟩:=sch_cells (HBK.out.below hb)
    clear ha x0 x2 x3 x4 x5
    by_cases hka:k < row.length
    ·have hkc:k < cl.length:=by rw [←HLEN.out];exact hka
     obtain ⟨g1,off1,cap2,hv,hg1,e0,e1,e2⟩:=sl_av (HR.out.below hb) hka
     cases hv
     obtain ⟨g2,off2,cap3,hv2,hg2,f0,f1⟩:=sl_col (HC.out.below hb) hkc
     cases hv2
     have HX:=Lib.hid (kinds_next row cl k hka HA.out)
     have HY:=Lib.hid (kinds_not row cl k hka)
     have hka2:=kindAt_eq row cl k hka hkc
     rw [hka2] at HX HY
     clear hb hka2 e1 e2 f0
     generalize row[k]=x at *
     generalize cl[k]=c at *
     by_cases hxc:x.kind=c.kind
     ·have HF:=Lib.hid (HX.out (by rw [hxc];simp))
      have d2:(x.kind != c.kind)=false:=by rw [hxc];simp
      clear HX HY
      rw [hxc] at e0
      clear hxc d2
      go_wp2
      refine wp_region_lit_plan [] [(0,0),(1,0),(2,0),(3,0),(5,0),(7,0),(4,1),(6,1),(8,0),(9,0),(10,1),(11,0)] (fun _=>False) zyVB zyVB (fun c a d v w h=>zx0I) ?_
      go_wp2_with (first
       | (refine stp ?_))
      exact ⟨⟨k+1,z3KH,zTbe,HF.out,HB.out.drew⟩,zQOc⟩
     ·have HF:=Lib.hid (HY.out (beq_eq_false_iff_ne.2 hxc))
      have d2:(x.kind != c.kind)=true:=bne_iff_ne.2 hxc
      have d3:(x.kind == c.kind)=false:=beq_eq_false_iff_ne.2 hxc
      clear HX HY hxc
      go_wp2
      refine wp_region_lit_plan [] [(0,0),(1,0),(2,0),(3,0),(5,0),(7,0),(4,1),(6,1),(8,0),(9,0),(10,1),(11,0)] (fun _=>False) zyVB zyVB (fun c a d v w h=>zx0I) ?_
      go_wp2_with (first
       | (refine stp ?_))
      go_ret
      exact ⟨by rw [HE.out,HF.out];rfl,HAL.out.trans (HB.out.drew.mono HAL.out.size)⟩
    ·obtain rfl:k=row.length:=by omega
     have e5:out=true:=by
      have:=HA.out
      rw [HE.out]
      unfold kindsB
      have hl:(List.range row.length).take row.length=List.range row.length:=by rw [List.take_of_length_le zPXO]
      rw [hl] at this
      rw [this];rfl
     have E5:=Lib.hid e5
     clear hb e5
     go_wp2
     exact z9qC
 ·have d1:((row.length:Int) != (cl.length:Int))=true:=bne_iff_ne.2 zTbe
  have d2:((row.length:Int) == (cl.length:Int))=false:=beq_eq_false_iff_ne.2 zTbe
  rw [decide_eq_false hlen] at HE
  go_enter Tryz.func113,Tryz.ntmps113
  go_wp2
  go_ret
  exact ⟨zKZO,HAL.out⟩
theorem elemAV:Elem Tryz.prog 37 113 3 32 (.agg #[.int .i64 0,.int .i64 0,.string ⟨#[]⟩]) :=
 ⟨Tryz.underlying37,zyVB,rfl,zTbe,zAV0⟩
theorem rowCells_append (a b:List AV):rowCells (a++b)=rowCells a++rowCells b:=by simp [rowCells]
theorem own_form3 {w:World} {e:TypeId} {sz:Nat} {v:Value} {n:Nat} {cs:List Value} (h:Own w e sz v n cs):∃ p cap,v=.slice p n cap∧n≤cap∧cap≤9223372036854775807 :=
 (h.sl (B:=fun _=>True) fun _ _=>trivial).form
theorem one_av (w:World) (v:AV):Sl (w.alloc (.cells #[.int .i64 v.kind,.int .i64 v.n,.string v.s] 113)) (fun _=>True) 3 (.slice (some ⟨w.heap.size,0,none⟩) 1 1) 1 (rowCells [v]):=by
 have:=Own.made w 113 3 (rowCells [v]) [] 1 1 rfl z0qj (Nat.le_refl _) zdUY (by simp [rowCells,AV.cells])
 exact this.sl (fun _ _=>trivial)
def pickR (l:List AV) (ps:List Int):List AV:=ps.map fun p=>l.getD p.toNat ⟨0,0,⟨#[]⟩⟩
def inR (l:List AV) (p:Int):Bool:=decide (0≤p) && decide (p≤(l.length:Int) - 1)
theorem inR_lt {l:List AV} {p:Int} (h:inR l p=true):0≤p∧p.toNat < l.length:=by
 unfold inR at h
 rw [Bool.and_eq_true,decide_eq_true_eq,decide_eq_true_eq] at h
 omega
theorem pickR_next (l:List AV) (ps:List Int) (k:Nat) (h:k < ps.length) (hp:ps[k].toNat < l.length):pickR l (ps.take (k+1))=pickR l (ps.take k)++[l[ps[k].toNat]]:=by
 unfold pickR
 rw [←List.take_append_getElem h,List.map_append]
 simp [List.getElem?_eq_getElem hp]
theorem pickR_len (l:List AV) (ps:List Int):(pickR l ps).length=ps.length:=by unfold pickR;simp
theorem refpick_any (w:World) (B B':Nat→Prop) (v v':Value) (l:List AV) (ps:List Int) (hl:Sl w B 3 v l.length (rowCells l)) (hp:Sl w B' 1 v' ps.length (ints ps)) (hin:∀ p∈ps,inR l p=true) (hll:ps.length≤1000) :
 Calls Tryz.prog 60 #[v,v'] w fun e w'=>∃ out,e=.returned out∧Sl w' (fun q=>w.heap.size≤q) 3 out (pickR l ps).length (rowCells (pickR l ps))∧Below w.heap.size w w':=by
 have HL:=Lib.hid hl
 have HP:=Lib.hid hp
 have HIN:=Lib.hid hin
 obtain ⟨p,cap,rfl,hc1,hc2⟩:=hl.form
 obtain ⟨p',cap',rfl,hc1',hc2'⟩:=hp.form
 clear hl hp hin
 go_enter Tryz.func60,Tryz.ntmps60
 go_wp2
 go_loopw [5,6] (fun v i wr=>∃ k:Nat,i=.int .i64 k∧k≤ps.length∧Own wr 113 3 v (pickR l (ps.take k)).length (rowCells (pickR l (ps.take k)))∧(∀ q,v.ownBlock=some q→w.heap.size≤q)∧Below w.heap.size w wr) (fun _ i _=>ps.length - (intOf i).toNat)
 case atStart=>exact ⟨0,rfl,Nat.zero_le _,Own.nil _ _ _,zfJ3,Below.refl _ _⟩
 case round =>
  obtain ⟨k,rfl,hk,hown,hnew,hbr⟩:=hrel
  obtain ⟨pv,cv,rfl,hcv1,hcv2⟩:=own_form3 hown
  have HOWN:=Lib.hid hown
  have HNEW:=Lib.hid hnew
  have HBR:=Lib.hid hbr
  by_cases hka:k < ps.length
  ·obtain ⟨hp0,hpk⟩:=inR_lt (HIN.out ps[k] (List.getElem_mem hka))
   have HX:=Lib.hid (pickR_next l ps k hka hpk)
   have hlen:=pickR_len l (ps.take k)
   rw [List.length_take] at hlen
   obtain ⟨g,off,cap1,hv,_,_,hgb,hglt,hc⟩:=(HP.out.below hbr).place zTbe
   cases hv
   have hc0:wr.cell? ⟨g,off+k,none⟩=some (.int .i64 (ps[k].toNat:Int)):=by rw [hc k zUBQ,Int.toNat_of_nonneg hp0];simp [ints,hka]
   obtain ⟨g',off',cap2,hv',hg',f0,f1,f2⟩:=sl_av (HL.out.below hbr) hpk
   cases hv'
   clear hown hnew hbr hc
   generalize ps[k].toNat=pk at *
   generalize l[pk]=x at *
   generalize pickR l (ps.take k)=acc at *
   have hal5:=zVak
   have ho1:=HOWN.out.below hal5
   have hs1:=one_av wr x
   have HX5:=Lib.hid hal5
   clear hal5
   go_wp2_with (at_builtin;refine wpList_app rfl _ _ rfl elemAV zdhv ho1 zdhv hs1 zefz zTbe ?_;intro v1 w7 g1 g2 g3 g4 g5;clear ho1 hs1;have G1:=Lib.hid g1;have G2:=Lib.hid g2;have G3:=Lib.hid g3;clear g1 g2 g3 g4 g5)
   have h9:w.heap.size≤wr.heap.size:=HBR.out.size
   refine ⟨⟨k+1,z3KH,zTbe,?_,fun q hq=>?_,?_⟩,zQOc⟩
   ·rw [HX.out,List.length_append,rowCells_append];exact G1.out
   ·rcases G3.out with h|h
    ·rw [h] at hq;exact HNEW.out q hq
    ·rw [h] at hq
     have:wr.heap.size+1=q:=by simpa using hq
     omega
   ·exact (HBR.out.trans (HX5.out.mono HBR.out.size)).trans (G2.out.below (by have:=HX5.out.size;omega) (fun q hq=>HNEW.out q hq))
  ·obtain rfl:k=ps.length:=by omega
   have he:=hown.sl hnew
   have hv:=zVqD
   rw [List.take_length] at he
   have HE:=Lib.hid he
   have HVV:=Lib.hid hv
   clear hown hnew he hv
   go_wp2
   go_ret
   exact ⟨Value.slice pv (pickR l ps).length cv,by rw [←HVV.out];rfl,HE.out,HBR.out⟩
def pickO (l:List AV) (ps:List Int):List AV:=if ps.all (inR l) then pickR l ps else []
theorem nil_row (w:World) (B:Nat→Prop):Sl w B 3 (.slice none 0 0) ([]:List AV).length (rowCells []):=⟨rfl,Ones.nil,.inl ⟨none,0,rfl,rfl,Nat.zero_le _,fun _=>rfl⟩⟩
theorem pick_any (w:World) (B B':Nat→Prop) (v v':Value) (l:List AV) (ps:List Int) (hl:Sl w B 3 v l.length (rowCells l)) (hp:Sl w B' 1 v' ps.length (ints ps)) (hlr:l.length≤1000) (hll:ps.length≤1000) :
 Calls Tryz.prog 156 #[v,v'] w fun e w'=>∃ out,e=.returned out∧Sl w' (fun q=>w.heap.size≤q) 3 out (pickO l ps).length (rowCells (pickO l ps))∧Below w.heap.size w w':=by
 have HL:=Lib.hid hl
 have HP:=Lib.hid hp
 obtain ⟨p,cap,rfl,hc1,hc2⟩:=hl.form
 obtain ⟨p',cap',rfl,hc1',hc2'⟩:=hp.form
 clear hl hp
 go_enter Tryz.func156,Tryz.ntmps156
 go_wp2
 go_loopw [5,10] (fun v i wr=>∃ k:Nat,i=.int .i64 k∧k≤ps.length∧(ps.take k).all (inR l)=true∧Own wr 113 3 v (pickR l (ps.take k)).length (rowCells (pickR l (ps.take k)))∧(∀ q,v.ownBlock=some q→w.heap.size≤q)∧Below w.heap.size w wr) (fun _ i _=>ps.length - (intOf i).toNat)
 case atStart=>exact ⟨0,rfl,Nat.zero_le _,rfl,Own.nil _ _ _,zfJ3,Below.refl _ _⟩
 case round =>
  obtain ⟨k,rfl,hk,hall,hown,hnew,hbr⟩:=hrel
  obtain ⟨pv,cv,rfl,hcv1,hcv2⟩:=own_form3 hown
  have HOWN:=Lib.hid hown
  have HNEW:=Lib.hid hnew
  have HBR:=Lib.hid hbr
  have HALL:=Lib.hid hall
  by_cases hka:k < ps.length
  ·obtain ⟨g,off,cap1,hv,_,_,hgb,hglt,hc⟩:=(HP.out.below hbr).place zTbe
   cases hv
   have hc0:wr.cell? ⟨g,off+k,none⟩=some (.int .i64 ps[k]):=zqhz
   have hlen:=pickR_len l (ps.take k)
   have hle:(pickR l (ps.take k)).length≤ps.length:=by rw [hlen,List.length_take];omega
   clear hlen
   have HW:=Lib.hid (fun w=>within_any w ps[k] 0 ((l.length:Int) - 1))
   have HIN:=Lib.hid (all_next (inR l) ps k hka hall)
   have HOUT:=Lib.hid (all_not (inR l) ps k hka)
   cases hin:inR l ps[k]
   ·have hd1:(decide ((0:Int)≤ps[k]) && decide (ps[k]≤(l.length:Int) - 1))=false:=hin
    rw [hd1] at HW
    have hno:ps.all (inR l)=false:=HOUT.out hin
    have HNO:=Lib.hid hno
    clear hd1 hin hown hnew hbr hc hno hall HIN HOUT
    generalize ps[k]=pk at *
    go_wp2_with fail
    refine (HW.out _).mono ?_
    rintro e w3 ⟨rfl,rfl⟩
    go_wp2
    go_ret
    refine ⟨_,rfl,?_,HBR.out⟩
    unfold pickO
    rw [HNO.out]
    exact nil_row _ _
   ·have hd1:(decide ((0:Int)≤ps[k]) && decide (ps[k]≤(l.length:Int) - 1))=true:=hin
    rw [hd1] at HW
    obtain ⟨hp0,hpk⟩:=inR_lt hin
    have HNX:=Lib.hid (HIN.out hin)
    have HX:=Lib.hid (pickR_next l ps k hka hpk)
    obtain ⟨g',off',cap2,hv',hg',f0,f1,f2⟩:=sl_av (HL.out.below hbr) hpk
    cases hv'
    have hpe:ps[k]=(ps[k].toNat:Int):=(Int.toNat_of_nonneg hp0).symm
    rw [hpe] at hc0 HW
    clear hown hnew hbr hc hd1 hin hpe hall HIN HOUT hp0
    generalize ps[k].toNat=pk at *
    generalize l[pk]=x at *
    generalize pickR l (ps.take k)=acc at *
    have hal5:=zVak
    have ho1:=HOWN.out.below hal5
    have hs1:=one_av wr x
    have HX5:=Lib.hid hal5
    clear hal5
    go_wp2_with fail
    refine (HW.out _).mono ?_
    rintro e w3 ⟨rfl,rfl⟩
    go_wp2_with (at_builtin;refine wpList_app rfl _ _ rfl elemAV zdhv ho1 zdhv hs1 zefz zTbe ?_;intro v1 w7 g1 g2 g3 g4 g5;clear ho1 hs1;have G1:=Lib.hid g1;have G2:=Lib.hid g2;have G3:=Lib.hid g3;clear g1 g2 g3 g4 g5)
    have h9:w.heap.size≤wr.heap.size:=HBR.out.size
    refine ⟨⟨k+1,z3KH,zTbe,HNX.out,?_,fun q hq=>?_,?_⟩,zQOc⟩
    ·rw [HX.out,List.length_append,rowCells_append];exact G1.out
    ·rcases G3.out with h|h
     ·rw [h] at hq;exact HNEW.out q hq
     ·rw [h] at hq
      have:wr.heap.size+1=q:=by simpa using hq
      omega
    ·exact (HBR.out.trans (HX5.out.mono HBR.out.size)).trans (G2.out.below (by have:=HX5.out.size;omega) (fun q hq=>HNEW.out q hq))
  ·obtain rfl:k=ps.length:=by omega
   have he:=hown.sl hnew
   rw [List.take_length] at hall
   have hpo:pickO l ps=pickR l ps:=by unfold pickO;rw [if_pos hall]
   have hv:=zVqD
   rw [List.take_length] at he
   rw [←hpo] at he hv
   have HE:=Lib.hid he
   have HVV:=Lib.hid hv
   clear hown hnew he hv hall hpo
   go_wp2
   go_ret
   exact ⟨Value.slice pv (pickO l ps).length cv,by rw [←HVV.out];rfl,HE.out,HBR.out⟩
theorem scfits_any (w:World) (B B':Nat→Prop) (cv v:Value) (cl:List ColV) (rl:List AV) (hc:Sl w B 2 cv cl.length (colCells cl)) (hr:Sl w B' 3 v rl.length (rowCells rl)) (hrl:rl.length≤1000000) :
 Calls Tryz.prog 154 #[cv,v] w fun e w'=>e=.returned (.bool (fitB cl rl))∧Below w.heap.size w w':=by
 obtain ⟨pc,cc,rfl,hcc1,hcc⟩:=hc.form
 obtain ⟨pv,cv2,rfl,hpv1,hpv2⟩:=hr.form
 have HC:=Lib.hid hc
 have HROW:=Lib.hid hr
 have HRT:=Lib.hid (right_any w _ _ rl hr hrl)
 have HFB:Hid (fitB cl rl=(decide (rl.length=cl.length) && rightAll rl && kindsB rl cl)):=rfl
 generalize fitB cl rl=fb at *
 clear hc hr hrl
 by_cases hlen:rl.length=cl.length
 ·have hli:(rl.length:Int)=(cl.length:Int):=by omega
  have d1:((rl.length:Int) != (cl.length:Int))=false:=by rw [hli];simp
  rw [decide_eq_true hlen,Bool.true_and] at HFB
  have HLEN:=Lib.hid hlen
  clear hlen hli
  generalize rightAll rl=ra at *
  cases ra
  ·have HZ:Hid (fb=false):=HFB.out
   clear HFB
   go_enter Tryz.func154,Tryz.ntmps154
   go_wp2_with (go_at_call 172;refine HRT.out.mono ?_;clear HRT;rintro e w2 ⟨rfl,hb2⟩)
   go_ret
   exact ⟨by rw [HZ.out];rfl,hb2⟩
  ·rw [Bool.true_and] at HFB
   go_enter Tryz.func154,Tryz.ntmps154
   go_wp2_with (go_at_call 172;refine HRT.out.mono ?_;clear HRT;rintro e w2 ⟨rfl,hb2⟩;have HB2:=Lib.hid hb2;clear hb2)
   clear d1
   go_loopw [19] (fun i wr=>∃ j:Nat,i=.int .i64 j∧j≤rl.length∧((List.range rl.length).take j).all (kindAt rl cl)=true∧Below w.heap.size w wr) (fun i _=>rl.length - (intOf i).toNat)
   case atStart=>exact ⟨0,rfl,Nat.zero_le _,rfl,HB2.out⟩
   case round =>
    obtain ⟨j,rfl,hj,ha,hb⟩:=hrel
    have HBJ:=Lib.hid hb
    have HAJ:=Lib.hid ha
    clear ha
    by_cases hja:j < rl.length
    ·have hjc:j < cl.length:=by rw [←HLEN.out];exact hja
     obtain ⟨g1,off1,cap2,hv,hg1,e0,e1,e2⟩:=sl_av (HROW.out.below hb) hja
     cases hv
     obtain ⟨g2,off2,cap3,hv2,hg2,f0,f1⟩:=sl_col (HC.out.below hb) hjc
     cases hv2
     have HX2:=Lib.hid (kinds_next rl cl j hja HAJ.out)
     have HY2:=Lib.hid (kinds_not rl cl j hja)
     have hka2:=kindAt_eq rl cl j hja hjc
     rw [hka2] at HX2 HY2
     clear hb hka2 f0
     generalize rl[j]=x at *
     generalize cl[j]=c at *
     obtain ⟨xk,xn,xs⟩:=x
     obtain ⟨cn,ck⟩:=c
     simp only at e0 e1 e2 f1 HX2 HY2
     have hal2:Below wr.heap.size wr (wr.alloc (.cells #[.int .i64 xk,.int .i64 xn,.string xs] 113)):=(Below.refl _ _).alloc (Nat.le_refl _) _
     have HBJ2:=Lib.hid (HBJ.out.trans (hal2.mono HBJ.out.size))
     clear hal2
     by_cases hxc:xk=ck
     ·have HF:=Lib.hid (HX2.out (by rw [hxc];simp))
      subst hxc
      clear HX2 HY2
      go_wp2
      refine wp_region_lit_plan [] [(0,0),(2,0),(3,0),(4,0),(5,0),(1,1),(6,1),(7,0)] (fun _=>False) zyVB zyVB (fun c a d v w h=>zx0I) ?_
      go_wp2_with (first
       | (refine stp ?_))
      exact ⟨⟨j+1,z3KH,zTbe,HF.out,HBJ2.out.drew⟩,zQOc⟩
     ·have HZ:Hid (fb=false):=by
       show _=_
       rw [HFB.out]
       exact HY2.out (beq_eq_false_iff_ne.2 hxc)
      have d2:(xk != ck)=true:=bne_iff_ne.2 hxc
      have d3:(xk == ck)=false:=beq_eq_false_iff_ne.2 hxc
      clear HX2 HY2 hxc
      go_wp2
      refine wp_region_lit_plan [] [(0,0),(2,0),(3,0),(4,0),(5,0),(1,1),(6,1),(7,0)] (fun _=>False) zyVB zyVB (fun c a d v w h=>zx0I) ?_
      go_wp2_with (first
       | (refine stp ?_))
      go_ret
      exact ⟨by rw [HZ.out];rfl,HBJ2.out.drew⟩
    ·obtain rfl:j=rl.length:=by omega
     have e5:fb=true:=by
      have:=HAJ.out
      rw [HFB.out]
      unfold kindsB
      have hl:(List.range rl.length).take rl.length=List.range rl.length:=by rw [List.take_of_length_le zPXO]
      rw [hl] at this
      exact this
     have HZ:=Lib.hid e5
     clear hb e5
     go_wp2
     go_ret
     exact ⟨by rw [HZ.out];rfl,HBJ.out⟩
 ·have d1:((rl.length:Int) != (cl.length:Int))=true:=bne_iff_ne.2 zTbe
  have d2:((rl.length:Int) == (cl.length:Int))=false:=beq_eq_false_iff_ne.2 zTbe
  have HZ:Hid (fb=false):=by
   show _=_
   rw [HFB.out,decide_eq_false hlen];rfl
  clear HFB
  go_enter Tryz.func154,Tryz.ntmps154
  go_wp2
  go_ret
  exact ⟨by rw [HZ.out];rfl,Below.refl _ _⟩
def chkS (s:SchV) (i:Int) (row:List AV):Int:=if rightS s=false∨(decide (0≤i) && decide (i≤(s.idx.length:Int) - 1))=false then 1 else if fitB s.cols row=false then 13 else 0
theorem checked_any (w:World) (B B':Nat→Prop) (s:SchV) (i:Int) (v:Value) (row:List AV) (h:SchAt w B s) (hr:Sl w B' 3 v row.length (rowCells row)) (hrl:row.length≤1000000) :
 Calls Tryz.prog 126 #[s.agg,.int .i64 i,v] w fun e w'=>e=.returned (.int .i64 (chkS s i row))∧Below w.heap.size w w':=by
 obtain ⟨nm,cv,cl,iv,il,lim,prt,by_⟩:=s
 have HS:=Lib.hid h
 obtain ⟨h1,h2,h3,h4⟩:=h
 simp only at h1 h2 h3 h4
 obtain ⟨pc,cc,rfl,_,hcc⟩:=h1.form
 obtain ⟨pi,ci,rfl,hci1,hci⟩:=h2.1.form
 obtain ⟨pr,cr,rfl,hpr1,hpr2⟩:=hr.form
 have hal:=zVhr
 have HBK:=z1OE
 have HRT:=Lib.hid (fun W hb=>schright_any W B ⟨nm,.slice pc cl.length cc,cl,.slice pi il.length ci,il,lim,prt,by_⟩ (SchAt.below (w':=W) HS.out hb))
 have HROW:=Lib.hid hr
 have HIX:=Lib.hid h2
 have HCL:=Lib.hid h1
 have HALW:=Lib.hid hal
 obtain ⟨x0,x1,x2,x3,x4,x5⟩:=sch_cells HBK.out
 simp only [SchV.agg,chkS] at HRT ⊢
 have HFT:=Lib.hid (fun W hb=>scfits_any W B B' (.slice pc cl.length cc) (.slice pr row.length cr) cl row (Sl.below (w':=W) HCL.out hb) (Sl.below (w':=W) HROW.out hb) hrl)
 have HWT:=Lib.hid (fun W=>within_any W i 0 ((il.length:Int) - 1))
 clear h1 h2 h3 h4 hal hr hcc hpr1 hpr2 HS HIX
 generalize rightS _=r1 at *
 generalize (decide (0≤i) && decide (i≤(il.length:Int) - 1))=r2 at *
 generalize fitB cl row=r3 at *
 clear x0
 cases r1
 ·simp only [true_or,if_true]
  go_enter Tryz.func126,Tryz.ntmps126
  go_wp2_with (first
   | (go_at_call 69;refine (HRT.out _ HALW.out).mono ?_;clear HRT;rintro e w2 ⟨rfl,hb2⟩;have HB2:=Lib.hid (HALW.out.trans (hb2.mono HALW.out.size));clear hb2))
  go_ret
  exact ⟨rfl,HB2.out⟩
 ·cases r2
  ·simp only [or_true,if_true]
   go_enter Tryz.func126,Tryz.ntmps126
   go_wp2_with (first
    | (go_at_call 69;refine (HRT.out _ HALW.out).mono ?_;clear HRT;rintro e w2 ⟨rfl,hb2⟩;have HB2:=Lib.hid (HALW.out.trans (hb2.mono HALW.out.size));obtain ⟨y0,y1,y2,y3,y4,y5⟩:=sch_cells (HBK.out.below hb2);clear hb2 x1 x2 x3 x4 x5 y0 y1 y3 y4 y5)
    | (go_at_call 99;refine (HWT.out _).mono ?_;clear HWT;rintro e w3 ⟨rfl,rfl⟩))
   go_ret
   exact ⟨rfl,HB2.out⟩
  ·simp only [Bool.true_eq_false,or_self,if_false]
   cases r3
   all_goals
    simp only [Bool.true_eq_false,if_false,if_true]
    go_enter Tryz.func126,Tryz.ntmps126
    go_wp2_with (first
     | (go_at_call 69;refine (HRT.out _ HALW.out).mono ?_;clear HRT;rintro e w2 ⟨rfl,hb2⟩;have HB2:=Lib.hid (HALW.out.trans (hb2.mono HALW.out.size));obtain ⟨y0,y1,y2,y3,y4,y5⟩:=sch_cells (HBK.out.below hb2);clear hb2 x1 x2 x3 x4 x5 y0 y3 y4 y5)
     | (go_at_call 99;refine (HWT.out _).mono ?_;clear HWT;rintro e w3 ⟨rfl,rfl⟩)
     | (go_at_call 154;refine (HFT.out _ HB2.out).mono ?_;clear HFT;rintro e w3 ⟨rfl,hb3⟩;have HB3:=Lib.hid (HB2.out.trans (hb3.mono HB2.out.size));clear hb3))
    go_ret
    exact ⟨rfl,HB3.out⟩
theorem pickO_fit {row:List AV} (ps:List Int) (h:∀ a∈row,fit64 a.n):∀ a∈pickO row ps,fit64 a.n:=by
 intro a ha
 unfold pickO at ha
 split at ha
 ·unfold pickR at ha
  exact zMBQ
 ·simp at ha
theorem pickO_len (row:List AV) (ps:List Int):(pickO row ps).length≤ps.length:=by
 unfold pickO
 split
 ·rw [pickR_len];omega
 ·simp
theorem rowKey_len (l:List AV):(rowKey l).length≤410*l.length:=by
 unfold rowKey
 split
 ·have h:=keysB_len l ‹_› l.length
  rwa [List.take_length] at h
 ·simp
theorem sl_anyw {w:World} {B:Nat→Prop} {sz:Nat} {v:Value} {n:Nat} {cs:List Value} (h:Sl w B sz v n cs):Sl w (fun _=>True) sz v n cs:=h.mono (Nat.le_refl _) (fun _ _ _=>rfl) (fun _ _ _=>trivial)
def skey (il:List IdxV) (row:List AV) (x:IdxV):List UInt8:=rowKey (pickO row x.l)++(if x.unique then [] else rowKey (pickO row (il.headD x).l))
theorem sckey_any (w:World) (hm:Mx w) (B B':Nat→Prop) (s:SchV) (i:Nat) (v:Value) (row:List AV) (h:SchAt w B s) (hr:Sl w B' 3 v row.length (rowCells row)) (hi:i < s.idx.length) (hf:∀ a∈row,fit64 a.n)
 (hrl:row.length≤1000) (hx:∀ x∈s.idx,x.l.length≤200) :
 Calls Tryz.prog 127 #[s.agg,.int .i64 (i:Int),v] w fun e w'=>e=.returned (.string (bs (skey s.idx row s.idx[i])))∧Below w.heap.size w w':=by
 obtain ⟨nm,cv,cl,iv,il,lim,prt,by_⟩:=s
 obtain ⟨h1,h2,h3,h4⟩:=h
 simp only at h1 h2 h3 h4 hi hx
 simp only [SchV.agg]
 obtain ⟨pc,cc,rfl,_,hcc⟩:=h1.form
 have hidx:=h2.1
 obtain ⟨g,off,ci,rfl,hci1,hci,_,hglt0,_⟩:=hidx.place zTbe
 have hal:=zoCq
 have HBK:=zN7s
 have HALW:=Lib.hid hal
 have HIX:=Lib.hid (h2.below hal)
 have HROW:=Lib.hid (hr.below hal)
 have HM:=Lib.hid (hm.below hal)
 have HF:=Lib.hid hf
 obtain ⟨x0,x1,x2,x3,x4,x5⟩:=sch_cells HBK.out
 clear x0 x1 x3 x4 x5 h1 h2 h3 h4 hidx hm hr hf hcc
 obtain ⟨g',off',cap',hv,hglt,e0,e1⟩:=sl_idx HIX.out.1 hi
 cases hv
 have hil0:0 < il.length:=zTbe
 obtain ⟨g',off',cap',hv,hglt',d0,d1⟩:=sl_idx HIX.out.1 hil0
 cases hv
 have hxi:=hx il[i] (List.getElem_mem hi)
 have hx0:=hx il[0] (List.getElem_mem hil0)
 have hsl:=HIX.out.2 il[i] (List.getElem_mem hi)
 have hsl0:=HIX.out.2 il[0] (List.getElem_mem hil0)
 have hhd:(il.headD il[i])=il[0]:=by cases il with
  | nil=>simp at hil0
  | cons a t=>rfl
 have HSK:Hid (skey il row il[i]=rowKey (pickO row il[i].l)++(if il[i].unique then [] else rowKey (pickO row il[0].l))):=by
  show _=_
  unfold skey
  rw [hhd]
 generalize skey il row il[i]=out at *
 clear hhd hx
 generalize hxx:il[i]=x at *
 generalize hyy:il[0]=y at *
 clear hxx hyy d1
 obtain ⟨xv,xl,xu⟩:=x
 obtain ⟨yv,yl,yu⟩:=y
 simp only at *
 rw [Nat.zero_mul,Nat.add_zero] at d0
 obtain ⟨px,cx,rfl,_,_⟩:=hsl.form
 generalize hw1:w.alloc (.cells #[.string nm,.slice pc cl.length cc,.slice (some ⟨g,off,none⟩) il.length ci,.int .i64 lim,.int .i64 prt,.int .i64 by_] 25)=w1 at *
 have hb1:Below w1.heap.size w1 (w1.alloc (.cells #[.slice px xl.length cx,.bool xu] 108)):=(Below.refl _ _).alloc (Nat.le_refl _) _
 have HB1:=Lib.hid hb1
 have HBX:Hid (Blk (w1.alloc (.cells #[.slice px xl.length cx,.bool xu] 108)) w1.heap.size 108 [.slice px xl.length cx,.bool xu]):=Blk.new w1 _ _
 have HY0:=Lib.hid (fun W (hb:Below w1.heap.size w1 W)=>hsl0.below hb)
 have HPK:=Lib.hid (fun W (hb:Below w1.heap.size w1 W)=>pick_any W B' B v _ row xl (HROW.out.below hb) (hsl.below hb) hrl zTbe)
 have HPK0:=Lib.hid (fun W (hb:Below w1.heap.size w1 W)=>pick_any W B' B v yv row yl (HROW.out.below hb) (hsl0.below hb) hrl zTbe)
 have HKY:=Lib.hid (fun W (hb:Below w1.heap.size w1 W) v (hv:Sl W (fun _=>True) 3 v (pickO row xl).length (rowCells (pickO row xl)))=>key_any W (HM.out.below hb) (fun _=>True) v (pickO row xl) hv (pickO_fit _ HF.out) (by have:=pickO_len row xl;omega))
 have HKY0:=Lib.hid (fun W (hb:Below w1.heap.size w1 W) v (hv:Sl W (fun _=>True) 3 v (pickO row yl).length (rowCells (pickO row yl)))=>key_any W (HM.out.below hb) (fun _=>True) v (pickO row yl) hv (pickO_fit _ HF.out) (by have:=pickO_len row yl;omega))
 have c0:=HBX.out.cell 0
 have c1:=HBX.out.cell 1
 simp only [List.getElem?_cons_zero,List.getElem?_cons_succ] at c0 c1
 have hsum:(bs (rowKey (pickO row xl))).size+(bs (rowKey (pickO row yl))).size≤9223372036854775807:=by
  rw [bs_size,bs_size]
  exact zkA4
 clear hsl hsl0 hb1
 generalize rowKey (pickO row xl)=kx at *
 generalize rowKey (pickO row yl)=ky at *
 cases xu
 ·simp only [Bool.false_eq_true,if_false] at HSK
  go_enter Tryz.func127,Tryz.ntmps127
  go_wp2_with fail
  clear hw1
  refine (HPK.out _ HB1.out).mono ?_
  rintro e w2 ⟨p1,rfl,hp1,hb2⟩
  have HB2:=Lib.hid (HB1.out.trans (hb2.mono HB1.out.size))
  have HP1:=Lib.hid (sl_anyw hp1)
  have HBX2:=Lib.hid (HBX.out.below hb2)
  clear hp1 hb2 c0 c1 HPK
  go_wp2_with fail
  refine (HKY.out _ HB2.out p1 HP1.out).mono ?_
  rintro e w3 ⟨rfl,hb3⟩
  have HB3:=Lib.hid (HB2.out.trans (hb3.mono HB2.out.size))
  have hbx3:=HBX2.out.below hb3
  have c1:=hbx3.cell 1
  simp only [List.getElem?_cons_zero,List.getElem?_cons_succ] at c1
  have x2:=(HBK.out.below HB3.out).cell 2
  simp only [List.getElem?_cons_zero,List.getElem?_cons_succ] at x2
  have d0:w3.cell? ⟨g,off,none⟩=some yv:=(HB3.out.cell hglt').trans d0
  clear hbx3 hb3 HKY
  go_wp2_with fail
  refine (HPK0.out _ HB3.out).mono ?_
  rintro e w4 ⟨p2,rfl,hp2,hb4⟩
  have HB4:=Lib.hid (HB3.out.trans (hb4.mono HB3.out.size))
  have HP2:=Lib.hid (sl_anyw hp2)
  clear hp2 hb4 HPK0
  go_wp2_with fail
  refine (HKY0.out _ HB4.out p2 HP2.out).mono ?_
  exact zuOT
 ·simp only [if_true,List.append_nil] at HSK
  go_enter Tryz.func127,Tryz.ntmps127
  go_wp2_with fail
  clear hw1
  refine (HPK.out _ HB1.out).mono ?_
  rintro e w2 ⟨p1,rfl,hp1,hb2⟩
  have HB2:=Lib.hid (HB1.out.trans (hb2.mono HB1.out.size))
  have HP1:=Lib.hid (sl_anyw hp1)
  have HBX2:=Lib.hid (HBX.out.below hb2)
  clear hp1 hb2 c0 c1 HPK
  go_wp2_with fail
  refine (HKY.out _ HB2.out p1 HP1.out).mono ?_
  rintro e w3 ⟨rfl,hb3⟩
  have HB3:=Lib.hid (HB2.out.trans (hb3.mono HB2.out.size))
  have hbx3:=HBX2.out.below hb3
  have c1:=hbx3.cell 1
  simp only [List.getElem?_cons_zero,List.getElem?_cons_succ] at c1
  clear hbx3 hb3 HKY
  go_wp2
  go_ret
  exact ⟨by rw [HSK.out];rfl,HALW.out.trans (HB3.out.mono HALW.out.size)⟩
def colBig (c:ColV):Bool:=decide (100 < c.name.size)
def idxBig (x:IdxV):Bool:=decide (12 < x.l.length)
def greatS (nm:ByteArray) (cl:List ColV) (il:List IdxV):Bool:=decide (12 < cl.length) || decide (8 < il.length) || decide (100 < nm.size) || cl.any colBig || il.any idxBig
theorem greatS_no {nm:ByteArray} {cl:List ColV} {il:List IdxV} (h:greatS nm cl il=false):cl.length≤12∧il.length≤8∧nm.size≤100∧(∀ c∈cl,c.name.size≤100)∧∀ x∈il,x.l.length≤12:=by
 unfold greatS at h
 simp only [Bool.or_eq_false_iff,decide_eq_false_iff_not,List.any_eq_false] at h
 obtain ⟨⟨⟨⟨h1,h2⟩,h3⟩,h4⟩,h5⟩:=h
 refine ⟨zTbe,zTbe,zTbe,fun c hc=>?_,fun x hx=>?_⟩
 ·have:=h4 c hc;unfold colBig at this;simpa using this
 ·have:=h5 x hx;unfold idxBig at this;simpa using this
theorem any_next {α:Type} (f:α→Bool) (l:List α) (k:Nat) (h:k < l.length) (ha:(l.take k).any f=false):f l[k]=false→(l.take (k+1)).any f=false:=fun hf=>by
 rw [←List.take_append_getElem h,List.any_append,ha]
 simp [hf]
theorem any_yes {α:Type} (f:α→Bool) (l:List α) (k:Nat) (h:k < l.length):f l[k]=true→l.any f=true:=fun hf=>by
 rw [List.any_eq_true]
 exact ⟨l[k],List.getElem_mem h,hf⟩
theorem great_sch (w:World) (B:Nat→Prop) (s:SchV) (h1:Sl w B 2 s.colsV s.cols.length (colCells s.cols)) (h2:IdxAt w B s.idxV s.idx) :
 Calls Tryz.prog 50 #[s.agg] w fun e w'=>e=.returned (.bool (greatS s.name s.cols s.idx))∧Below w.heap.size w w':=by
 obtain ⟨nm,cv,cl,iv,il,lim,prt,by_⟩:=s
 simp only at h1 h2
 simp only [SchV.agg]
 obtain ⟨pc,cc,rfl,hcl,hcc⟩:=h1.form
 obtain ⟨pi,ci,rfl,hil,hci⟩:=h2.1.form
 have hal:=zVhr
 have HBK:=z1OE
 have HAL:=Lib.hid hal
 have H1:=Lib.hid (h1.below hal)
 have H2:=Lib.hid (h2.below hal)
 have hg:greatS nm cl il=(decide ((12:Int) < (cl.length:Int)) || decide ((8:Int) < (il.length:Int)) || decide ((100:Int) < (nm.size:Int)) || cl.any colBig || il.any idxBig):=by
  unfold greatS
  congr 2
  congr 1
  congr 1
  all_goals first
   | rfl
   | (rw [Bool.eq_iff_iff];simp;omega)
 generalize greatS nm cl il=out at *
 clear h1 h2 hal
 by_cases a1:(12:Int) < (cl.length:Int)
 ·have d1:decide ((12:Int) < (cl.length:Int))=true:=decide_eq_true a1
  rw [d1] at hg
  exact zE70
 have d1:decide ((12:Int) < (cl.length:Int))=false:=decide_eq_false a1
 rw [d1,Bool.false_or] at hg
 by_cases a2:(8:Int) < (il.length:Int)
 ·have d2:decide ((8:Int) < (il.length:Int))=true:=decide_eq_true a2
  rw [d2] at hg
  exact zE70
 have d2:decide ((8:Int) < (il.length:Int))=false:=decide_eq_false a2
 rw [d2,Bool.false_or] at hg
 by_cases a3:(100:Int) < (nm.size:Int)
 ·have d3:decide ((100:Int) < (nm.size:Int))=true:=decide_eq_true a3
  rw [d3] at hg
  exact zE70
 have d3:decide ((100:Int) < (nm.size:Int))=false:=decide_eq_false a3
 rw [d3,Bool.false_or] at hg
 have HG:=Lib.hid hg
 have hl1:cl.length≤12:=zTbe
 have hl2:il.length≤8:=zTbe
 clear hg
 go_enter Tryz.func50,Tryz.ntmps50
 go_wp2
 generalize hw1:w.alloc (.cells #[.string nm,.slice pc cl.length cc,.slice pi il.length ci,.int .i64 lim,.int .i64 prt,.int .i64 by_] 25)=w1 at *
 clear hw1 d1 d2 d3 a1 a2 a3
 obtain ⟨x0,x1,x2,x3,x4,x5⟩:=sch_cells HBK.out
 clear x0 x3 x4 x5
 go_loop [3] (fun i=>∃ k:Nat,i=.int .i64 k∧k≤cl.length∧(cl.take k).any colBig=false) (fun i=>cl.length - (intOf i).toNat)
 case atStart=>exact ⟨0,rfl,Nat.zero_le _,rfl⟩
 case round =>
  obtain ⟨k,rfl,hk,ha⟩:=hrel
  have HA:=Lib.hid ha
  clear ha
  by_cases hka:k < cl.length
  ·obtain ⟨g1,off1,cap2,hv,hg1,e0,e1⟩:=sl_col H1.out hka
   cases hv
   have HX:=Lib.hid (any_next colBig cl k hka HA.out)
   have HY:=Lib.hid (any_yes colBig cl k hka)
   generalize cl[k]=c at *
   by_cases hb:(100:Int) < (c.name.size:Int)
   ·have hcb:colBig c=true:=decide_eq_true zTbe
    have d1:decide ((100:Int) < (c.name.size:Int))=true:=decide_eq_true hb
    have HF:=Lib.hid (HY.out hcb)
    clear HX HY hcb hb
    go_wp2
    go_ret
    exact ⟨by rw [HG.out,HF.out];rfl,HAL.out⟩
   ·have hcb:colBig c=false:=decide_eq_false zTbe
    have d1:decide ((100:Int) < (c.name.size:Int))=false:=decide_eq_false hb
    exact z4gY
  ·obtain rfl:k=cl.length:=by omega
   have hca:out=il.any idxBig:=by
    have:=HA.out
    rw [List.take_length] at this
    rw [HG.out,this,Bool.false_or]
   have HG2:=Lib.hid hca
   clear hca hka hk
   go_wp2
   go_loop [4] (fun i=>∃ k:Nat,i=.int .i64 k∧k≤il.length∧(il.take k).any idxBig=false) (fun i=>il.length - (intOf i).toNat)
   case atStart=>exact ⟨0,rfl,Nat.zero_le _,rfl⟩
   case round =>
    obtain ⟨k,rfl,hk,ha⟩:=hrel
    have HA2:=Lib.hid ha
    clear ha
    by_cases hka:k < il.length
    ·obtain ⟨g1,off1,cap2,hv,hg1,e0,e1⟩:=sl_idx H2.out.1 hka
     cases hv
     have hxs:=H2.out.2 il[k] (List.getElem_mem hka)
     have HX:=Lib.hid (any_next idxBig il k hka HA2.out)
     have HY:=Lib.hid (any_yes idxBig il k hka)
     generalize il[k]=c at *
     obtain ⟨cv,cl2,cu⟩:=c
     simp only at e0 hxs
     obtain ⟨px,cx,rfl,_,_⟩:=hxs.form
     clear hxs
     by_cases hb:(12:Int) < (cl2.length:Int)
     ·have hcb:idxBig ⟨.slice px cl2.length cx,cl2,cu⟩=true:=decide_eq_true (by simp only;omega)
      have d1:decide ((12:Int) < (cl2.length:Int))=true:=decide_eq_true hb
      have HF:=Lib.hid (HY.out hcb)
      clear HX HY hcb hb
      go_wp2
      go_ret
      exact ⟨by rw [HG2.out,HF.out];rfl,HAL.out⟩
     ·have hcb:idxBig ⟨.slice px cl2.length cx,cl2,cu⟩=false:=decide_eq_false (by simp only;omega)
      have d1:decide ((12:Int) < (cl2.length:Int))=false:=decide_eq_false hb
      exact z4gY
    ·obtain rfl:k=il.length:=by omega
     have e5:out=false:=by
      have:=HA2.out
      rw [List.take_length] at this
      rw [HG2.out,this]
     have E5:=Lib.hid e5
     clear e5
     go_wp2
     go_ret
     exact ⟨zsFg,HAL.out⟩
def keyO (s:SchV) (i:Int) (row:List AV):List UInt8:=if chkS s i row=0 then (match s.idx[i.toNat]? with
 | some x=>skey s.idx row x
 | none=>[]) else []
theorem chk_in {s:SchV} {i:Int} {row:List AV} (h:chkS s i row=0):∃ n:Nat,i=(n:Int)∧n < s.idx.length∧rightS s=true∧fitB s.cols row=true:=by
 unfold chkS at h
 split at h
 ·omega
 ·split at h
  ·omega
  ·rename_i h1 h2
   rw [not_or] at h1
   obtain ⟨h3,h4⟩:=h1
   rw [Bool.not_eq_false,Bool.and_eq_true,decide_eq_true_eq,decide_eq_true_eq] at h4
   rw [Bool.not_eq_false] at h2 h3
   exact ⟨i.toNat,zTbe,zTbe,h3,h2⟩
theorem chk_cases (s:SchV) (i:Int) (row:List AV):chkS s i row=0∨chkS s i row=1∨chkS s i row=13:=by
 unfold chkS
 split
 ·simp
 ·split<;>simp
theorem elemStr:Elem Tryz.prog 130 9 1 16 (.string ⟨#[]⟩) :=
 ⟨Tryz.underlying130,zyVB,rfl,zTbe,zOaE⟩
def strC (l:List (List UInt8)):List Value:=l.map fun s=>.string (bs s)
theorem strC_append (a b:List (List UInt8)):strC (a++b)=strC a++strC b:=by simp [strC]
theorem one_str (w:World) (s:List UInt8):Sl (w.alloc (.cells #[.string (bs s)] 9)) (fun _=>True) 1 (.slice (some ⟨w.heap.size,0,none⟩) 1 1) 1 (strC [s]):=by
 have:=Own.made w 9 1 (strC [s]) [] 1 1 rfl (by intro u hu;simp [strC] at hu;subst hu;rfl) (Nat.le_refl _) zdUY (by simp [strC])
 exact this.sl (fun _ _=>trivial)
theorem map_next {α β:Type} (f:α→β) (l:List α) (k:Nat) (h:k < l.length):(l.take (k+1)).map f=(l.take k).map f++[f l[k]]:=by
 rw [←List.take_append_getElem h,List.map_append];rfl
@[go_sem] theorem eqlNilInts (w:World) (a:Option Addr) (n c:Nat):(binOp .eql 27 (.slice a n c) (.slice none 0 0)).run Tryz.prog w=.ok (.bool a.isNone) w:=Lib.run_eql_slice_nil w _ _ a n c 0 0 Tryz.underlying27
theorem elemInt:Elem Tryz.prog 27 3 1 8 (.int .i64 0) :=
 ⟨Tryz.underlying27,zyVB,rfl,zTbe,zOaE⟩
theorem clone_int (w:World) (B:Nat→Prop) (v:Value) (n:Nat) (cs:List Value) (h:Sl w B 1 v n cs) (hn:n≤1000000000) :
 Calls Tryz.prog 102 #[v] w fun e w'=>∃ v',e=.returned v'∧Own w' 3 1 v' n cs∧Below w.heap.size w w'∧(∀ k,v'.ownBlock=some k→w.heap.size≤k):=by
 obtain ⟨p,cap,rfl,_,_⟩:=h.form
 cases p with
 | none =>
  have hn0:n=0:=by
   exact zdw8
  subst hn0
  have hc:=zN9L
  subst hc
  go_enter Tryz.func102,Tryz.ntmps102
  exact zfC3
 | some a =>
  have hs:=h.alloc (.cells #[] 3)
  have ho:Own (w.alloc (.cells #[] 3)) 3 1 (.slice (some ⟨w.heap.size,0,none⟩) 0 0) 0 []:=Own.made w 3 1 [] [] 0 0 rfl Ones.nil (Nat.le_refl _) zdUY zPXO
  clear h
  go_enter Tryz.func102,Tryz.ntmps102
  go_wp2_with (at_builtin;refine wpList_app rfl _ _ rfl elemInt zdhv ho zdhv hs zefz zTbe ?_;intro v' w' h1 h2 h3 _ _)
  exact zP8m
theorem agree_bel {B:Nat→Prop} {b:Nat} {w w':World} (h:Below b w w') (hB:∀ k,B k→k < b):Agree B w w':=fun k _ hk=>h.cell (hB k hk)
theorem add64 (x y c:Int) (hx:0≤x) (hy:0≤y) (hc0:0≤c) (hc:c≤1) (w:World):(callFunc 247 #[.int .u64 x,.int .u64 y,.int .u64 c]).run Tryz.prog w =
 .ok (.value (.tuple #[.int .u64 ((x+y+c) % 18446744073709551616),.int .u64 ((x+y+c) / 18446744073709551616)])) w:=by
 rw [run_callFunc_extern Tryz.func247 zyVB zyVB zyVB (e:=add64Entry) zyVB,run_add64 x y c hx hy hc0 hc]
 rfl
theorem add64_0 (x y:Int) (hx:0≤x) (hy:0≤y) (w:World):(callFunc 247 #[.int .u64 x,.int .u64 y,.int .u64 0]).run Tryz.prog w =
 .ok (.value (.tuple #[.int .u64 ((x+y) % 18446744073709551616),.int .u64 ((x+y) / 18446744073709551616)])) w:=by
 simpa using add64 x y 0 hx hy (Int.le_refl 0) zcX3 w
def bor (x y:Int):Int:=if x < y then 1 else 0
theorem bor_range (x y:Int):0≤bor x y∧bor x y≤1:=by unfold bor;split<;>decide
theorem sub64 (x y b:Int) (hx:0≤x) (hy:0≤y) (hy':y < 18446744073709551616) (hb0:0≤b) (hb:b≤1) (w:World):(callFunc 248 #[.int .u64 x,.int .u64 y,.int .u64 b]).run Tryz.prog w =
 .ok (.value (.tuple #[.int .u64 ((x - y - b) % 18446744073709551616),.int .u64 (bor x (y+b))])) w:=by
 obtain ⟨x,rfl⟩:=Int.eq_ofNat_of_zero_le hx
 obtain ⟨y,rfl⟩:=Int.eq_ofNat_of_zero_le hy
 obtain ⟨b,rfl⟩:=Int.eq_ofNat_of_zero_le hb0
 have e1:(((x+18446744073709551616 - y - b) % 18446744073709551616:Nat):Int)=((x:Int) - y - b) % 18446744073709551616:=zTbe
 have e2:((if x < y+b then 1 else 0:Nat):Int)=bor x (y+b):=by unfold bor;split<;>split<;>omega
 rw [←e1,←e2]
 rw [run_callFunc_extern Tryz.func248 zyVB zyVB zyVB (e:=sub64Entry) zyVB,run_sub64 x y b zTbe]
 rfl
theorem sub64_0 (x y:Int) (hx:0≤x) (hy:0≤y) (hy':y < 18446744073709551616) (w:World):(callFunc 248 #[.int .u64 x,.int .u64 y,.int .u64 0]).run Tryz.prog w =
 .ok (.value (.tuple #[.int .u64 ((x - y) % 18446744073709551616),.int .u64 (bor x y)])) w:=by
 simpa using sub64 x y 0 hx hy hy' (Int.le_refl 0) zcX3 w
def loW (z:Int):Int:=z % 18446744073709551616
def hiW (z:Int):Int:=z / 18446744073709551616 % 18446744073709551616
theorem loW_range (z:Int):0≤loW z∧loW z < 18446744073709551616:=by unfold loW;omega
theorem hiW_range (z:Int):0≤hiW z∧hiW z < 18446744073709551616:=by unfold hiW;omega
theorem loW_add (x y:Int):(loW x+loW y) % 18446744073709551616=loW (x+y):=by unfold loW;omega
theorem hiW_add (x y:Int):(hiW x+hiW y+(loW x+loW y) / 18446744073709551616) % 18446744073709551616=hiW (x+y):=by unfold hiW loW;omega
theorem loW_sub (x y:Int):(loW x - loW y) % 18446744073709551616=loW (x - y):=by unfold loW;omega
theorem hiW_sub (x y:Int):(hiW x - hiW y - bor (loW x) (loW y)) % 18446744073709551616=hiW (x - y):=by unfold bor hiW loW;split<;>omega
theorem of_any (n:Int) (h1:-9223372036854775808≤n) (h2:n≤9223372036854775807) (w:World) :
 Calls Tryz.prog 242 #[.int .i64 n] w fun e w'=>e=.returned (.agg #[.int .u64 (hiW n),.int .u64 (loW n)])∧Below w.heap.size w w':=by
 go_enter Tryz.func242,Tryz.ntmps242
 go_wp2
 have e1:IntKind.u64.wrap (n / 9223372036854775808)=hiW n:=by rw [IntKind.wrap_u64];unfold hiW;omega
 have e2:IntKind.u64.wrap n=loW n:=by rw [IntKind.wrap_u64];rfl
 rw [e1,e2]
 refine bodyPost_ret (v:=.agg #[.int .u64 (hiW n),.int .u64 (loW n)]) (by simp [results,Tryz.results242,go_sem]) rfl ⟨rfl,?_⟩
 exact zGHK
theorem plus_any (x y:Int) (w:World) :
 Calls Tryz.prog 241 #[.agg #[.int .u64 (hiW x),.int .u64 (loW x)],.agg #[.int .u64 (hiW y),.int .u64 (loW y)]] w fun e w'=>e=.returned (.agg #[.int .u64 (hiW (x+y)),.int .u64 (loW (x+y))])∧Below w.heap.size w w':=by
 have a1:=loW_range x
 have a2:=loW_range y
 have a3:=hiW_range x
 have a4:=hiW_range y
 have E1:=Lib.hid (loW_add x y)
 have E2:=Lib.hid (hiW_add x y)
 generalize loW x=xl at *
 generalize loW y=yl at *
 generalize hiW x=xh at *
 generalize hiW y=yh at *
 have k0:0≤(xl+yl) / 18446744073709551616:=zTbe
 have k1:(xl+yl) / 18446744073709551616≤1:=zTbe
 go_enter Tryz.func241,Tryz.ntmps241
 go_wp2_with (first|simp only [add64_0 xl yl a1.1 a2.1]|simp only [add64 xh yh _ a3.1 a4.1 k0 k1])
 rw [E1.out,E2.out]
 refine bodyPost_ret (v:=.agg #[.int .u64 (hiW (x+y)),.int .u64 (loW (x+y))]) (by simp [results,Tryz.results241,go_sem]) rfl ⟨rfl,?_⟩
 exact zGHK
theorem minus_any (x y:Int) (w:World) :
 Calls Tryz.prog 243 #[.agg #[.int .u64 (hiW x),.int .u64 (loW x)],.agg #[.int .u64 (hiW y),.int .u64 (loW y)]] w fun e w'=>e=.returned (.agg #[.int .u64 (hiW (x - y)),.int .u64 (loW (x - y))])∧Below w.heap.size w w':=by
 have a1:=loW_range x
 have a2:=loW_range y
 have a3:=hiW_range x
 have a4:=hiW_range y
 have E1:=Lib.hid (loW_sub x y)
 have E2:=Lib.hid (hiW_sub x y)
 generalize loW x=xl at *
 generalize loW y=yl at *
 generalize hiW x=xh at *
 generalize hiW y=yh at *
 have k:=bor_range xl yl
 go_enter Tryz.func243,Tryz.ntmps243
 go_wp2_with (first|simp only [sub64_0 xl yl a1.1 a2.1 a2.2]|simp only [sub64 xh yh _ a3.1 a4.1 a4.2 k.1 k.2])
 rw [E1.out,E2.out]
 refine bodyPost_ret (v:=.agg #[.int .u64 (hiW (x - y)),.int .u64 (loW (x - y))]) (by simp [results,Tryz.results243,go_sem]) rfl ⟨rfl,?_⟩
 exact zGHK
def fits (z:Int):Prop:=-9223372036854775808≤z∧z≤9223372036854775807
instance (z:Int):Decidable (fits z):=inferInstanceAs (Decidable (_∧_))
def shortN (z:Int):Int:=if fits z then z else 0
def shortE (z:Int):Int:=if fits z then 0 else 2
theorem short_any (z:Int) (hz1:-85070591730234615865843651857942052864≤z) (hz2:z≤85070591730234615865843651857942052864) (w:World) :
 Calls Tryz.prog 244 #[.agg #[.int .u64 (hiW z),.int .u64 (loW z)]] w fun e w'=>e=.returned (.tuple #[.int .i64 (shortN z),.int .i64 (shortE z)])∧Below w.heap.size w w':=by
 have a1:=loW_range z
 have hk:∃ k:Int,IntKind.i64.wrap (loW z)=k∧-9223372036854775808≤k∧k≤9223372036854775807∧loW k=loW z:=by
  refine ⟨_,rfl,?_⟩
  rw [IntKind.wrap_i64]
  unfold loW
  omega
 obtain ⟨k,hk1,hk2,hk3,hk4⟩:=hk
 have hof:=Lib.hid (fun w=>of_any k hk2 hk3 w)
 have hk5:(hiW z=hiW k∧z=k∧fits z)∨(¬ hiW z=hiW k∧¬ fits z):=by
  unfold fits
  unfold hiW loW at *
  omega
 have HK4:=Lib.hid hk4
 rcases hk5 with ⟨h5,h6,h7⟩|⟨h5,h7⟩
 ·have e1:shortN z=k:=by unfold shortN;rw [if_pos h7];exact h6
  have e2:shortE z=0:=by unfold shortE;rw [if_pos h7]
  rw [e1,e2]
  have H5:=Lib.hid h5
  clear h5 h6 h7 e1 e2 hk4
  generalize hiW z=zh at *
  generalize loW z=zl at *
  go_enter Tryz.func244,Tryz.ntmps244
  go_wp2
  refine wp_region_lit_plan [] [(1,0),(0,2),(2,1),(3,0),(4,3),(5,0)] (fun k=>k=w.heap.size) zyVB zyVB (fun c a d v w h=>zx0I) ?_
  go_wp2_with (first
   | (refine stp ?_)
   | (go_at_call 242;refine (hof.out _).mono ?_;rintro e w2 ⟨rfl,hb2⟩;rw [HK4.out,←H5.out];
      have hag:Agree (fun k=>k=w.heap.size) ((w.alloc (.cells #[.int .u64 zh,.int .u64 zl] 310)).drew) w2:=agree_bel hb2 (by intro k hk;subst hk;simp);
      have hc1:w2.cell? ⟨w.heap.size,1,none⟩=some (.int .u64 zl):=(hag w.heap.size 1 rfl).trans (by go_simp)))
  exact zVqq
 ·have e1:shortN z=0:=by unfold shortN;rw [if_neg h7]
  have e2:shortE z=2:=by unfold shortE;rw [if_neg h7]
  rw [e1,e2]
  have h5':(hiW z == hiW k)=false:=by rw [beq_eq_false_iff_ne];exact h5
  clear h5 h7 e1 e2 hk4
  generalize hiW z=zh at *
  generalize loW z=zl at *
  go_enter Tryz.func244,Tryz.ntmps244
  go_wp2
  refine wp_region_lit_plan [] [(1,0),(0,2),(2,1),(3,0),(4,3),(5,0)] (fun k=>k=w.heap.size) zyVB zyVB (fun c a d v w h=>zx0I) ?_
  go_wp2_with (first
   | (refine stp ?_)
   | (go_at_call 242;refine (hof.out _).mono ?_;rintro e w2 ⟨rfl,hb2⟩;rw [HK4.out];
      have hag:Agree (fun k=>k=w.heap.size) ((w.alloc (.cells #[.int .u64 zh,.int .u64 zl] 310)).drew) w2:=agree_bel hb2 (by intro k hk;subst hk;simp)))
  exact zVqq
def IsTot (w:World) (b:Nat) (z n:Int):Prop:=Blk w b 312 [.int .u64 (hiW z),.int .u64 (loW z),.int .i64 n]
theorem sum_next (l:List Int) (i:Nat) (h:i < l.length):(l.take (i+1)).sum=(l.take i).sum+l[i]:=by
 have e:(l.take i++[l[i]]).sum=(l.take (i+1)).sum:=by rw [List.take_append_getElem h]
 rw [←e,List.sum_append,List.sum_cons,List.sum_nil,Int.add_zero]
theorem put_tot (w:World) (b:Nat) (z n:Int) (v:Value) (l:List Int) (hb:IsTot w b z n) (hl:Sl w (fun k=>k≠b) 1 v l.length (ints l)) (hfit:∀ x∈l,fits x) (hn1:-1000000≤n) (hn2:n≤1000000) (hll:l.length≤1000000) :
 Calls Tryz.prog 232 #[.pointer (some ⟨b,0,none⟩),v] w fun e w'=>e=.returned (.tuple #[])∧IsTot w' b (z+l.sum) (n+l.length)∧Only (fun k=>k=b) w w':=by
 obtain ⟨p,cap,rfl,hc1,hc2⟩:=hl.form
 have HB:=Lib.hid hb
 have HL:=Lib.hid hl
 have HF:=Lib.hid hfit
 clear hb hl hfit
 go_enter Tryz.func232,Tryz.ntmps232
 go_wp2
 go_loopw [10] (fun i wr=>∃ k:Nat,i=.int .i64 k∧k≤l.length∧IsTot wr b (z+(l.take k).sum) n∧Only (fun k=>k=b) w wr) (fun i _=>l.length - (intOf i).toNat)
 case atStart=>exact ⟨0,rfl,Nat.zero_le _,by simpa using HB.out,Only.refl _ _⟩
 case round =>
  obtain ⟨k,rfl,hk,ht,ho⟩:=hrel
  have hlt:=ht.lt
  by_cases hka:k < l.length
  ·obtain ⟨g,off,cap',hv,_,_,hgb,hglt,hc⟩:=HL.out.place zTbe
   cases hv
   have hc0:w.cell? ⟨g,off+k,none⟩=some (.int .i64 l[k]):=zqhz
   have hck:=zTZY
   have hfx:=HF.out l[k] (List.getElem_mem hka)
   have HX:=Lib.hid (sum_next l k hka)
   generalize l[k]=x at *
   have HOF:=Lib.hid (fun w=>of_any x hfx.1 hfx.2 w)
   generalize hz:z+(l.take k).sum=zk at *
   have HZ:=Lib.hid hz
   have t0:wr.cell? ⟨b,0,none⟩=some (.int .u64 (hiW zk)):=ht.cell 0
   have t1:wr.cell? ⟨b,1,none⟩=some (.int .u64 (loW zk)):=ht.cell 1
   have HT:=Lib.hid ht
   have HO:=Lib.hid ho
   clear ht ho hc hfx hz hc0
   go_wp2
   refine wp_region_lit_plan [] [(0,0),(1,0),(2,0),(3,0),(5,0),(4,2),(6,3),(7,4),(8,0),(9,0),(10,4)] (fun k=>k=b) zyVB zyVB (fun c a d v w h=>zx0I) ?_
   go_wp2_with (first
    | (refine stp ?_)
    | (go_at_call 242;refine (HOF.out _).mono ?_;rintro e w2 ⟨rfl,hb2⟩;have hag:Agree (fun k=>k=b) wr.drew w2:=agree_bel hb2 (by intro k hk;subst hk;exact hlt))
    | (go_at_call 241;refine (plus_any zk x _).mono ?_;rintro e w3 ⟨rfl,hb3⟩;have ht3:=(HT.out.drew.below hb2).below hb3;have hf3:∀ i,w3.frozen? ⟨b,i,none⟩=false:=ht3.frozen;
       have t03:w3.cell? ⟨b,0,none⟩=some (.int .u64 (hiW zk)):=ht3.cell 0;have t13:w3.cell? ⟨b,1,none⟩=some (.int .u64 (loW zk)):=ht3.cell 1;have HT3:=Lib.hid ht3;clear ht3))
   have hzx:zk+x=z+(l.take (k+1)).sum:=by have:=HX.out;have:=HZ.out;omega
   exact zvvv
  ·have hkl:k=l.length:=by omega
   have hz:z+(l.take k).sum=z+l.sum:=by rw [hkl,List.take_length]
   exact zwBC
theorem take_tot (w:World) (b:Nat) (z n:Int) (v:Value) (l:List Int) (hb:IsTot w b z n) (hl:Sl w (fun k=>k≠b) 1 v l.length (ints l)) (hfit:∀ x∈l,fits x) (hn1:-1000000≤n) (hn2:n≤1000000) (hll:l.length≤1000000) :
 Calls Tryz.prog 233 #[.pointer (some ⟨b,0,none⟩),v] w fun e w'=>e=.returned (.tuple #[])∧IsTot w' b (z - l.sum) (n - l.length)∧Only (fun k=>k=b) w w':=by
 obtain ⟨p,cap,rfl,hc1,hc2⟩:=hl.form
 have HB:=Lib.hid hb
 have HL:=Lib.hid hl
 have HF:=Lib.hid hfit
 clear hb hl hfit
 go_enter Tryz.func233,Tryz.ntmps233
 go_wp2
 go_loopw [10] (fun i wr=>∃ k:Nat,i=.int .i64 k∧k≤l.length∧IsTot wr b (z - (l.take k).sum) n∧Only (fun k=>k=b) w wr) (fun i _=>l.length - (intOf i).toNat)
 case atStart=>exact ⟨0,rfl,Nat.zero_le _,by simpa using HB.out,Only.refl _ _⟩
 case round =>
  obtain ⟨k,rfl,hk,ht,ho⟩:=hrel
  have hlt:=ht.lt
  by_cases hka:k < l.length
  ·obtain ⟨g,off,cap',hv,_,_,hgb,hglt,hc⟩:=HL.out.place zTbe
   cases hv
   have hc0:w.cell? ⟨g,off+k,none⟩=some (.int .i64 l[k]):=zqhz
   have hck:=zTZY
   have hfx:=HF.out l[k] (List.getElem_mem hka)
   have HX:=Lib.hid (sum_next l k hka)
   generalize l[k]=x at *
   have HOF:=Lib.hid (fun w=>of_any x hfx.1 hfx.2 w)
   generalize hz:z - (l.take k).sum=zk at *
   have HZ:=Lib.hid hz
   have t0:wr.cell? ⟨b,0,none⟩=some (.int .u64 (hiW zk)):=ht.cell 0
   have t1:wr.cell? ⟨b,1,none⟩=some (.int .u64 (loW zk)):=ht.cell 1
   have HT:=Lib.hid ht
   have HO:=Lib.hid ho
   clear ht ho hc hfx hz hc0
   go_wp2
   refine wp_region_lit_plan [] [(0,0),(1,0),(2,0),(3,0),(5,0),(4,2),(6,3),(7,4),(8,0),(9,0),(10,4)] (fun k=>k=b) zyVB zyVB (fun c a d v w h=>zx0I) ?_
   go_wp2_with (first
    | (refine stp ?_)
    | (go_at_call 242;refine (HOF.out _).mono ?_;rintro e w2 ⟨rfl,hb2⟩;have hag:Agree (fun k=>k=b) wr.drew w2:=agree_bel hb2 (by intro k hk;subst hk;exact hlt))
    | (go_at_call 243;refine (minus_any zk x _).mono ?_;rintro e w3 ⟨rfl,hb3⟩;have ht3:=(HT.out.drew.below hb2).below hb3;have hf3:∀ i,w3.frozen? ⟨b,i,none⟩=false:=ht3.frozen;
       have t03:w3.cell? ⟨b,0,none⟩=some (.int .u64 (hiW zk)):=ht3.cell 0;have t13:w3.cell? ⟨b,1,none⟩=some (.int .u64 (loW zk)):=ht3.cell 1;have HT3:=Lib.hid ht3;clear ht3))
   have hzx:zk - x=z - (l.take (k+1)).sum:=by have:=HX.out;have:=HZ.out;omega
   exact zvvv
  ·have hkl:k=l.length:=by omega
   have hz:z - (l.take k).sum=z - l.sum:=by rw [hkl,List.take_length]
   exact zwBC
theorem put_nil (w:World) (p:Option Addr) (n cap:Nat):Calls Tryz.prog 232 #[.pointer none,.slice p n cap] w fun e w'=>e=.returned (.tuple #[])∧w=w':=by
 go_enter Tryz.func232,Tryz.ntmps232
 go_wp2
 exact bodyPost_ret (v:=.tuple #[]) (by simp [results,Tryz.results232,go_sem]) rfl ⟨rfl,rfl⟩
theorem take_nilT (w:World) (p:Option Addr) (n cap:Nat):Calls Tryz.prog 233 #[.pointer none,.slice p n cap] w fun e w'=>e=.returned (.tuple #[])∧w=w':=by
 go_enter Tryz.func233,Tryz.ntmps233
 go_wp2
 exact bodyPost_ret (v:=.tuple #[]) (by simp [results,Tryz.results233,go_sem]) rfl ⟨rfl,rfl⟩
def near (z:Int):Prop:=-85070591730234615865843651857942052864≤z∧z≤85070591730234615865843651857942052864
theorem sum_tot (w:World) (b:Nat) (z n:Int) (hb:IsTot w b z n) (hz:near z) :
 Calls Tryz.prog 234 #[.pointer (some ⟨b,0,none⟩)] w fun e w'=>e=.returned (.tuple #[.int .i64 (shortN z),.int .i64 (shortE z)])∧Below w.heap.size w w':=by
 have HS:=Lib.hid (fun w=>short_any z hz.1 hz.2 w)
 have t0:w.cell? ⟨b,0,none⟩=some (.int .u64 (hiW z)):=hb.cell 0
 have t1:w.cell? ⟨b,1,none⟩=some (.int .u64 (loW z)):=hb.cell 1
 clear hb hz
 generalize shortN z=sn at *
 generalize shortE z=se at *
 go_enter Tryz.func234,Tryz.ntmps234
 go_wp2_with (go_at_call 244;refine (HS.out _).mono ?_;rintro e w2 ⟨rfl,hb2⟩)
 go_ret2
 exact ⟨rfl,hb2⟩
theorem sum_nil (w:World):Calls Tryz.prog 234 #[.pointer none] w fun e w'=>e=.returned (.tuple #[.int .i64 0,.int .i64 0])∧w=w':=by
 go_enter Tryz.func234,Tryz.ntmps234
 go_wp2
 go_ret2
 exact ⟨rfl,rfl⟩
theorem sum_range:∀ (l:List Int),(∀ x∈l,fits x)→-9223372036854775808*(l.length:Int)≤l.sum∧l.sum≤9223372036854775808*(l.length:Int)
 | [],_=>zPXO
 | x::l,h=>by
  have h1:=sum_range l (fun y hy=>h y (by simp [hy]))
  have h2:=h x zPXO
  unfold fits at h2
  rw [List.sum_cons,List.length_cons]
  omega
theorem one_sl (w:World) (x:Int) (b:Nat) (hb:b≠w.heap.size):Sl (w.alloc (.cells #[.int .i64 x] 2)) (fun k=>k≠b) 1 (.slice (some ⟨w.heap.size,0,none⟩) 1 1) 1 (ints [x]) :=
 (Own.made w 2 1 (ints [x]) [] 1 1 rfl (ints_ones _) (Nat.le_refl _) zdUY zN8V).sl (fun k hk=>by simp [Value.ownBlock] at hk;omega)
theorem sub_any (w:World) (a:Int) (ha:fits a) (v:Value) (l:List Int) (hl:Sl w (fun _=>True) 1 v l.length (ints l)) (hfit:∀ x∈l,fits x) (hll:l.length≤1000000) :
 Calls Tryz.prog 225 #[.int .i64 a,v] w fun e w'=>e=.returned (.tuple #[.int .i64 (shortN (a - l.sum)),.int .i64 (shortE (a - l.sum))])∧Below w.heap.size w w':=by
 have hr:=sum_range l hfit
 have hn:near (a - l.sum):=by unfold near;unfold fits at ha;omega
 have ht:IsTot ((w.alloc (.cells #[.int .u64 0,.int .u64 0,.int .i64 0] 312)).alloc (.cells #[.int .i64 a] 2)) w.heap.size 0 0:=(Blk.new w 312 [.int .u64 0,.int .u64 0,.int .i64 0]).alloc _
 have hs1:=one_sl (w.alloc (.cells #[.int .u64 0,.int .u64 0,.int .i64 0] 312)) a w.heap.size zPXO
 have HP:=Lib.hid (put_tot _ w.heap.size 0 0 _ [a] ht hs1 (by simpa using ha) zTbe zTbe zPXO)
 have hl2:Sl ((w.alloc (.cells #[.int .u64 0,.int .u64 0,.int .i64 0] 312)).alloc (.cells #[.int .i64 a] 2)) (fun k=>k≠w.heap.size∧k < w.heap.size) 1 v l.length (ints l) :=
  hl.mono zr2F (fun k _ hk=>(heap_alloc_old _ _ zr2F).trans (heap_alloc_old w _ hk)) (fun k _ hk=>zTbe)
 have HL2:=Lib.hid hl2
 obtain ⟨p,cap,rfl,_,_⟩:=hl.form
 clear hr ht hl2 hl hs1
 have hz:(0:Int)+[a].sum=a:=zPXO
 have hk:(0:Int)+([a]:List Int).length=1:=zPXO
 rw [hz,hk] at HP
 clear hz hk
 have hsz:(w.alloc (.cells #[.int .u64 0,.int .u64 0,.int .i64 0] 312)).heap.size=w.heap.size+1:=zPXO
 rw [hsz] at HP
 clear hsz
 have HP2:RowKit.Hid (Calls Tryz.prog 232 #[.pointer (some ⟨w.heap.size,0,none⟩),.slice (some ⟨w.heap.size+1,0,none⟩) 1 1] ((w.alloc (.cells #[.int .u64 0,.int .u64 0,.int .i64 0] 312)).alloc (.cells #[.int .i64 a] 2)) fun e w'=>e=.returned (.tuple #[])∧IsTot w' w.heap.size a 1∧Only (fun k=>k=w.heap.size) ((w.alloc (.cells #[.int .u64 0,.int .u64 0,.int .i64 0] 312)).alloc (.cells #[.int .i64 a] 2)) w'):=HP
 clear HP
 have HSM:=Lib.hid (fun (w:World) (b:Nat) (n:Int) (h:IsTot w b (a - l.sum) n)=>sum_tot w b _ n h hn)
 have HTK:=Lib.hid (fun (w2:World) (b:Nat) (h:IsTot w2 b a 1) (hs:Sl w2 (fun k=>k≠b) 1 (.slice p l.length cap) l.length (ints l))=>take_tot w2 b a 1 _ l h hs hfit zTbe zTbe hll)
 clear ha hn hfit
 go_enter Tryz.func225,Tryz.ntmps225
 go_wp2_with (first
  | (go_at_call 232;refine HP2.out.mono ?_;clear HP2;rintro e w2 ⟨rfl,ht2,ho2⟩;have HT2:=Lib.hid ht2;have HO2:=Lib.hid ho2;clear ht2 ho2)
  | (go_at_call 233;refine (HTK.out w2 w.heap.size HT2.out ((HL2.out.only HO2.out (fun k hk=>hk.1)).mono (Nat.le_refl _) (fun _ _ _=>rfl) (fun k hk _=>hk.1))).mono ?_;rintro e w3 ⟨rfl,ht3,ho3⟩;have HT3:=Lib.hid ht3;clear ht3)
  | (go_at_call 234;refine (HSM.out _ _ _ HT3.out).mono ?_;rintro e w4 ⟨rfl,hb4⟩))
 go_ret2
 have hb2:Below w.heap.size w w2:=(((Below.refl w.heap.size w).alloc (Nat.le_refl _) _).alloc zPXO _).trans (HO2.out.below zr2F (fun i hi=>zTbe))
 have hb3:=hb2.trans (ho3.below hb2.size (fun i hi=>zTbe))
 exact ⟨rfl,hb3.trans (hb4.mono hb3.size)⟩
theorem neg_any (w:World) (a:Int) (ha:fits a) :
 Calls Tryz.prog 216 #[.int .i64 a] w fun e w'=>e=.returned (.tuple #[.int .i64 (shortN (-a)),.int .i64 (shortE (-a))])∧Below w.heap.size w w':=by
 have hs1:Sl (w.alloc (.cells #[.int .i64 a] 2)) (fun _=>True) 1 (.slice (some ⟨w.heap.size,0,none⟩) 1 1) [a].length (ints [a]):=(one_sl w a (w.heap.size+1) zTbe).mono (Nat.le_refl _) (fun _ _ _=>rfl) (fun _ _ _=>trivial)
 have HS:=Lib.hid (sub_any _ 0 (by unfold fits;omega) _ [a] hs1 (by simpa using ha) zPXO)
 have hz:(0:Int) - [a].sum=-a:=zPXO
 rw [hz] at HS
 clear hs1 hz ha
 generalize shortN (-a)=sn at *
 generalize shortE (-a)=se at *
 go_enter Tryz.func216,Tryz.ntmps216
 go_wp2_with (go_at_call 225;refine HS.out.mono ?_;rintro e w2 ⟨rfl,hb2⟩)
 go_ret2
 exact ⟨rfl,((Below.refl w.heap.size w).alloc (Nat.le_refl _) _).trans (hb2.mono zPXO)⟩
def dvN (a b:Int):Int:=if b=0 then 0 else if b=-1 then shortN (-a) else a.fdiv b
def dvE (a b:Int):Int:=if b=0 then 3 else if b=-1 then shortE (-a) else 0
def mdN (a b:Int):Int:=if b=0 then 0 else if b=-1 then 0 else a.fmod b
def mdE (b:Int):Int:=if b=0 then 3 else 0
theorem tdiv_fits (a b:Int) (ha:fits a) (hb:b≠-1):fits (a.tdiv b):=by
 unfold fits at *
 have h:=Int.natAbs_tdiv a b
 by_cases h2:b.natAbs≤1
 ·have:b=0∨b=1:=by omega
  rcases this with rfl|rfl
  ·simp
  ·simpa using ha
 ·have h3:a.natAbs / b.natAbs≤a.natAbs / 2:=Nat.div_le_div_left zTbe zTbe
  have h4:a.natAbs.div b.natAbs≤a.natAbs / 2:=h3
  rw [←h] at h4
  omega
theorem tdiv_low (a b:Int) (ha:fits a) (hb:b≠-1) (hr:a.tmod b≠0):b≠0→-9223372036854775808 < a.tdiv b:=by
 unfold fits at *
 have h:=Int.natAbs_tdiv a b
 intro h0
 by_cases h2:b.natAbs≤1
 ·have:b=1:=by omega
  subst this
  simp at hr
 ·have h3:a.natAbs / b.natAbs≤a.natAbs / 2:=Nat.div_le_div_left zTbe zTbe
  have h4:a.natAbs.div b.natAbs≤a.natAbs / 2:=h3
  rw [←h] at h4
  omega
theorem tmod_near (a b:Int):(a.tmod b).natAbs≤a.natAbs∧(a≤0→a.tmod b≤0):=by
 refine ⟨?_,fun h=>?_⟩
 ·rw [Int.natAbs_tmod];exact Nat.mod_le _ _
 ·have:=Int.tmod_nonneg b (a:=-a) zTbe
  rw [Int.neg_tmod] at this;omega
theorem parts_law (a b:Int) (hb:b≠0) :
 (a.tmod b≠0∧(decide (a.tmod b < 0) == decide (b < 0))=false∧(a.tmod b < 0∧0≤b∨0≤a.tmod b∧b < 0)∧a.fdiv b=a.tdiv b - 1∧a.fmod b=a.tmod b+b) ∨
 ((a.tmod b≠0∧(decide (a.tmod b < 0) == decide (b < 0))=true∨a.tmod b=0)∧a.fdiv b=a.tdiv b∧a.fmod b=a.tmod b):=by
 have h3:b ∣ a↔a.tmod b=0:=Int.dvd_iff_tmod_eq_zero
 have h1:=Int.fdiv_eq_tdiv (a:=a) (b:=b)
 have h2:=Int.fmod_eq_tmod (a:=a) (b:=b)
 by_cases hd:b ∣ a
 ·rw [if_pos hd] at h1 h2
  exact Or.inr ⟨Or.inr (h3.mp hd),zTbe,zTbe⟩
 ·rw [if_neg hd] at h1 h2
  have hn:a.tmod b≠0:=fun h=>hd (h3.mpr h)
  by_cases ha:0≤a
  ·have ht:=Int.tmod_nonneg b ha
   rw [if_pos ha] at h1 h2
   by_cases hb0:0≤b
   ·rw [if_pos hb0] at h1 h2
    refine Or.inr ⟨Or.inl ⟨hn,?_⟩,zTbe,zTbe⟩
    rw [decide_eq_false (show ¬ a.tmod b < 0 by omega),decide_eq_false (show ¬ b < 0 by omega)];rfl
   ·rw [if_neg hb0] at h1 h2
    refine Or.inl ⟨hn,?_,zTbe,zTbe,zTbe⟩
    rw [decide_eq_false (show ¬ a.tmod b < 0 by omega),decide_eq_true (show b < 0 by omega)];rfl
  ·have ht:a.tmod b≤0:=by
    have:=Int.tmod_nonneg b (a:=-a) zTbe
    rw [Int.neg_tmod] at this;omega
   rw [if_neg ha] at h1 h2
   by_cases hb0:0≤b
   ·rw [if_pos hb0] at h1 h2
    rw [Int.sign_eq_one_of_pos zTbe] at h1
    refine Or.inl ⟨hn,?_,zTbe,zTbe,zTbe⟩
    rw [decide_eq_true (show a.tmod b < 0 by omega),decide_eq_false (show ¬ b < 0 by omega)];rfl
   ·rw [if_neg hb0] at h1 h2
    rw [Int.sign_eq_neg_one_of_neg zTbe] at h1
    refine Or.inr ⟨Or.inl ⟨hn,?_⟩,zTbe,zTbe⟩
    rw [decide_eq_true (show a.tmod b < 0 by omega),decide_eq_true (show b < 0 by omega)];rfl
theorem parts_any (w:World) (a b:Int) (ha:fits a) (hbf:fits b) :
 Calls Tryz.prog 207 #[.int .i64 a,.int .i64 b] w fun e w'=>e=.returned (.tuple #[.int .i64 (dvN a b),.int .i64 (mdN a b),.int .i64 (dvE a b)])∧Below w.heap.size w w':=by
 by_cases h0:b=0
 ·subst h0
  simp only [dvN,dvE,mdN,if_pos]
  go_enter Tryz.func207,Tryz.ntmps207
  go_wp2
  refine bodyPost_ret (v:=.tuple #[.int .i64 0,.int .i64 0,.int .i64 3]) zFSb rfl ⟨rfl,Below.refl _ _⟩
 by_cases h1:b=-1
 ·subst h1
  simp only [dvN,dvE,mdN,if_pos,if_neg h0]
  have HN:=Lib.hid (fun w=>neg_any w a ha)
  clear ha hbf h0
  generalize shortN (-a)=sn at *
  generalize shortE (-a)=se at *
  go_enter Tryz.func207,Tryz.ntmps207
  go_wp2_with (go_at_call 216;refine (HN.out _).mono ?_;rintro e w2 ⟨rfl,hb2⟩)
  refine bodyPost_ret (v:=.tuple #[.int .i64 sn,.int .i64 0,.int .i64 se]) zFSb rfl ⟨rfl,hb2⟩
 simp only [dvN,dvE,mdN,if_neg h0,if_neg h1]
 have hq:=tdiv_fits a b ha h1
 have hr:=tmod_near a b
 have hl:=parts_law a b h0
 unfold fits at ha hbf hq
 have q0:(b == 0)=false:=by rw [beq_eq_false_iff_ne];exact h0
 have q1:(b == -1)=false:=by rw [beq_eq_false_iff_ne];exact h1
 have hw1:IntKind.i64.wrap (a.tdiv b)=a.tdiv b:=zrPp
 have hw2:IntKind.i64.wrap (a.tmod b)=a.tmod b:=zrPp
 rcases hl with ⟨hn,hs,hsg,e1,e2⟩|⟨hs,e1,e2⟩
 ·rw [e1,e2]
  have hlo:=tdiv_low a b (by unfold fits;exact ha) h1 hn h0
  have hlo2:-9223372036854775808≤a.tmod b+b:=zTbe
  have hlo3:a.tmod b+b≤9223372036854775807:=zTbe
  clear e1 e2 h1 hsg
  have hn':(a.tmod b == 0)=false:=by rw [beq_eq_false_iff_ne];exact hn
  go_enter Tryz.func207,Tryz.ntmps207
  go_wp2
  go_region
  go_wp2
  refine bodyPost_ret (v:=.tuple #[.int .i64 (a.tdiv b - 1),.int .i64 (a.tmod b+b),.int .i64 0]) zFSb rfl ⟨rfl,Below.drew (Below.refl _ _)⟩
 ·rw [e1,e2]
  clear e1 e2 h1
  rcases hs with ⟨hn,hs⟩|hs
  ·have hn':(a.tmod b == 0)=false:=by rw [beq_eq_false_iff_ne];exact hn
   go_enter Tryz.func207,Tryz.ntmps207
   go_wp2
   go_region
   go_wp2
   refine bodyPost_ret (v:=.tuple #[.int .i64 (a.tdiv b),.int .i64 (a.tmod b),.int .i64 0]) zFSb rfl ⟨rfl,Below.drew (Below.refl _ _)⟩
  ·rw [hs] at hw2 ⊢
   clear hr
   go_enter Tryz.func207,Tryz.ntmps207
   go_wp2
   go_region
   go_wp2
   refine bodyPost_ret (v:=.tuple #[.int .i64 (a.tdiv b),.int .i64 0,.int .i64 0]) zFSb rfl ⟨rfl,Below.drew (Below.refl _ _)⟩
theorem mod_any (w:World) (a b:Int) (ha:fits a) (hb:fits b) :
 Calls Tryz.prog 189 #[.int .i64 a,.int .i64 b] w fun e w'=>e=.returned (.tuple #[.int .i64 (mdN a b),.int .i64 (mdE b)])∧Below w.heap.size w w':=by
 have HP:=Lib.hid (fun w=>parts_any w a b ha hb)
 have hm:(b == -1)=false→dvE a b=mdE b:=by intro h;unfold dvE mdE;rw [beq_eq_false_iff_ne] at h;rw [if_neg h]
 by_cases h1:b=-1
 ·subst h1
  clear hm HP ha hb
  go_enter Tryz.func189,Tryz.ntmps189
  go_wp2
  go_ret2
  exact ⟨rfl,Below.refl _ _⟩
 ·have h2:(b == -1)=false:=by rw [beq_eq_false_iff_ne];exact h1
  rw [hm h2] at HP
  clear ha hb hm h1
  generalize dvN a b=dn at *
  generalize mdE b=de at *
  generalize mdN a b=mn at *
  go_enter Tryz.func189,Tryz.ntmps189
  go_wp2_with (go_at_call 207;refine (HP.out _).mono ?_;rintro e w2 ⟨rfl,hb2⟩)
  go_ret2
  exact ⟨rfl,hb2⟩
@[go_sem] theorem ite_lt_max (x y:Int):(if x < y then y else x)=max x y:=zTbe
@[go_sem] theorem ite_lt_min (x y:Int):(if x < y then x else y)=min x y:=zTbe
def minI (a:Int) (l:List Int):Int:=l.foldl min a
def maxI (a:Int) (l:List Int):Int:=l.foldl max a
theorem minI_next (a:Int) (l:List Int) (i:Nat) (h:i < l.length):minI a (l.take (i+1))=min (minI a (l.take i)) l[i]:=by
 unfold minI
 exact zz7W
theorem maxI_next (a:Int) (l:List Int) (i:Nat) (h:i < l.length):maxI a (l.take (i+1))=max (maxI a (l.take i)) l[i]:=by
 unfold maxI
 exact zz7W
def sgn (neg:Bool) (n:Int):Int:=if neg then -n else n
end Go.Proofs.YteggkjdlajgenaaGreatDoor
namespace Go.Proofs.YteggkjdlajgenaaGreatDoor
open Go.RowKit Go.Afx
namespace M64
theorem maskN (a:Nat) (ha:a < 18446744073709551616):bits .and .u64 (a:Int) 4294967295=((a % 4294967296:Nat):Int):=by
 have h:=bits_and_u64_nat a 4294967295 ha zTbe
 have e:a &&& 4294967295=a % 4294967296:=Nat.and_two_pow_sub_one_eq_mod a 32
 rw [e] at h
 exact h
theorem divN (a:Nat):(a:Int) / 4294967296=((a / 4294967296:Nat):Int):=zTbe
theorem mulN (a b:Nat):(a:Int)*(b:Int)=((a*b:Nat):Int):=(Int.natCast_mul a b).symm
theorem addN (a b:Nat):(a:Int)+(b:Int)=((a+b:Nat):Int):=(Int.natCast_add a b).symm
theorem wrapN (a:Nat) (ha:a < 18446744073709551616):IntKind.u64.wrap (a:Int)=(a:Int):=zm6w
theorem wrapM (a:Nat):IntKind.u64.wrap (a:Int)=((a % 18446744073709551616:Nat):Int):=zm6w
end M64
def prodI (l:List Int):Int:=l.foldl (·* ·) 1
theorem prodI_next (l:List Int) (i:Nat) (h:i < l.length):prodI (l.take (i+1))=prodI (l.take i)*l[i]:=by
 unfold prodI
 exact zz7W
theorem prodI_zero (l:List Int) (i:Nat) (h:i < l.length) (h0:l[i]=0):prodI l=0:=by
 have h1:prodI (l.take (i+1))=0:=by rw [prodI_next l i h,h0,Int.mul_zero]
 have h2:∀ (m:List Int),m.foldl (·* ·) (0:Int)=0:=by
  intro m
  induction m with
  | nil=>rfl
  | cons a m ih=>simpa using ih
 have h3:prodI l=(l.drop (i+1)).foldl (·* ·) (prodI (l.take (i+1))):=by
  conv=>lhs;rw [←List.take_append_drop (i+1) l]
  unfold prodI
  rw [List.foldl_append]
 rw [h3,h1,h2]
def kept (neg:Bool) (out:Int) (over:Bool) (p:Int):Prop :=
 p≠0∧neg=decide (p < 0)∧0≤out∧out < 18446744073709551616 ∧
  (over=false∧out=p.natAbs∨over=true∧18446744073709551616≤p.natAbs)
theorem kept_next {neg:Bool} {out:Int} {over:Bool} {p:Int} (h:kept neg out over p) (x:Int) (hx:x≠0) :
 kept (neg != decide (x < 0)) (out*(x.natAbs:Int) % 18446744073709551616) (over || (out*(x.natAbs:Int) / 18446744073709551616 != 0)) (p*x):=by
 obtain ⟨h1,h2,h3,h4,h5⟩:=h
 refine ⟨Int.mul_ne_zero h1 hx,?_,Int.emod_nonneg _ zTbe,Int.emod_lt_of_pos _ zTbe,?_⟩
 ·rw [h2]
  by_cases hp:p < 0<;>by_cases hx2:x < 0
  ·have:=Int.mul_pos_of_neg_of_neg hp hx2
   rw [decide_eq_true hp,decide_eq_true hx2,decide_eq_false zTbe];rfl
  ·have:=Int.mul_neg_of_neg_of_pos hp (show 0 < x by omega)
   rw [decide_eq_true hp,decide_eq_false hx2,decide_eq_true this];rfl
  ·have:=Int.mul_neg_of_pos_of_neg (show 0 < p by omega) hx2
   rw [decide_eq_false hp,decide_eq_true hx2,decide_eq_true this];rfl
  ·have:=Int.mul_pos (show 0 < p by omega) (show 0 < x by omega)
   rw [decide_eq_false hp,decide_eq_false hx2,decide_eq_false zTbe];rfl
 ·have hx1:1≤x.natAbs:=by omega
  rcases h5 with ⟨rfl,h6⟩|⟨rfl,h6⟩
  ·have h7:out*(x.natAbs:Int)=((p*x).natAbs:Int):=by rw [h6,Int.natAbs_mul];simp
   rw [h7]
   generalize (p*x).natAbs=z
   by_cases hz:18446744073709551616≤z
   ·right
    refine ⟨?_,hz⟩
    have:((z:Int) / 18446744073709551616 != 0)=true:=by rw [bne_iff_ne];omega
    rw [this];rfl
   ·left
    refine ⟨?_,zTbe⟩
    have:((z:Int) / 18446744073709551616 != 0)=false:=by rw [bne_eq_false_iff_eq];omega
    rw [this];rfl
  ·right
   refine ⟨rfl,?_⟩
   rw [Int.natAbs_mul]
   exact Nat.le_trans h6 (Nat.le_mul_of_pos_right _ hx1)
theorem kept_end {neg:Bool} {out:Int} {over:Bool} {p:Int} (h:kept neg out over p) :
 (over=true∧shortN p=0∧shortE p=2)∨(over=false∧sgn neg out=p):=by
 obtain ⟨h1,h2,h3,h4,h5⟩:=h
 rcases h5 with ⟨h5,h6⟩|⟨h5,h6⟩
 ·right
  refine ⟨h5,?_⟩
  subst h2
  unfold sgn
  by_cases hp:p < 0
  ·rw [decide_eq_true hp,if_pos rfl];omega
  ·rw [decide_eq_false hp,if_neg zcX3];omega
 ·left
  have:¬ fits p:=by unfold fits;omega
  exact ⟨h5,by unfold shortN;rw [if_neg this],by unfold shortE;rw [if_neg this]⟩
end Go.Proofs.YteggkjdlajgenaaGreatDoor
namespace Go.Proofs.YteggkjdlajgenaaGreatDoor
open Go.RowKit Go.Afx
def splitL:List UInt8→List UInt8 × Bool
 | []=>([],false)
 | c::t=>if c=45 then (t,true) else (c::t,false)
def dig (c:UInt8):Prop:=48≤c.toNat∧c.toNat≤57
instance (c:UInt8):Decidable (dig c):=inferInstanceAs (Decidable (_∧_))
def valN (r:List UInt8):Nat:=r.foldl (fun n c=>n*10+(c.toNat - 48)) 0
def headOk (ng:Bool):List UInt8→Bool
 | []=>false
 | c::t=>!(c == 48 && (ng || !t.isEmpty))
def right (ng:Bool) (r:List UInt8):Prop:=headOk ng r=true∧∀ c∈r,dig c
instance (ng:Bool) (r:List UInt8):Decidable (right ng r):=inferInstanceAs (Decidable (_∧_))
def numN (ng:Bool) (r:List UInt8):Int:=if right ng r then shortN (sgn ng (valN r)) else 0
def numE (ng:Bool) (r:List UInt8):Int:=if right ng r then shortE (sgn ng (valN r)) else 12
def prsN (l:List UInt8):Int:=numN (splitL l).2 (splitL l).1
def prsE (l:List UInt8):Int:=numE (splitL l).2 (splitL l).1
theorem valN_next (r:List UInt8) (k:Nat) (h:k < r.length):valN (r.take (k+1))=valN (r.take k)*10+(r[k].toNat - 48):=by
 unfold valN
 exact zz7W
def keptV (n:Int) (over:Bool) (v:Nat):Prop :=
 0≤n∧n < 18446744073709551616∧(over=false∧n=v∨over=true∧18446744073709551616≤v)
theorem keptV_next {n:Int} {over:Bool} {v:Nat} (h:keptV n over v) (c:Int) (h1:48≤c) (h2:c≤57) :
 keptV ((n*10 % 18446744073709551616+(c - 48)) % 18446744073709551616) (over || (n*10 / 18446744073709551616 != 0) || ((n*10 % 18446744073709551616+(c - 48)) / 18446744073709551616 != 0)) (v*10+(c - 48).toNat):=by
 obtain ⟨h3,h4,h5⟩:=h
 refine ⟨zTbe,zTbe,?_⟩
 rcases h5 with ⟨rfl,h6⟩|⟨rfl,h6⟩
 ·by_cases hz:n*10 / 18446744073709551616=0∧(n*10 % 18446744073709551616+(c - 48)) / 18446744073709551616=0
  ·left
   rw [hz.1,hz.2]
   exact ⟨rfl,zTbe⟩
  ·right
   refine ⟨?_,zTbe⟩
   rw [Bool.false_or,Bool.or_eq_true,bne_iff_ne,bne_iff_ne]
   omega
 ·exact .inr ⟨rfl,zTbe⟩
theorem headOk_cons {ng:Bool} {c:UInt8} {t:List UInt8} (h:headOk ng (c::t)=true) :
 ((c.toNat:Int) == 48)=false∨(ng=false∧((c.toNat:Int) == 48)=true∧t=[]):=by
 by_cases hc:c=48
 ·subst hc
  right
  refine ⟨?_,rfl,?_⟩
  ·cases ng
   ·rfl
   ·simp [headOk] at h
  ·cases ng<;>cases t<;>simp_all [headOk]
 ·left
  rw [beq_eq_false_iff_ne]
  intro h2
  exact hc (UInt8.toNat_inj.1 (by show c.toNat=48;omega))
theorem headOk_not {ng:Bool} {c:UInt8} {t:List UInt8} (h:headOk ng (c::t)=false) :
 (c.toNat:Int)=48∧(ng=true∨ng=false∧1≤t.length):=by
 by_cases hc:c=48
 ·subst hc
  refine ⟨rfl,?_⟩
  cases ng
  ·right
   cases t<;>simp_all [headOk]
  ·exact .inl rfl
 ·simp [headOk,hc] at h
def dig10 (u:Nat):List UInt8:=if _h:u=0 then [] else dig10 (u / 10)++[UInt8.ofNat (48+u % 10)]
decreasing_by exact Nat.div_lt_self zTbe zTbe
theorem dig10_zero:dig10 0=[]:=by rw [dig10];simp
theorem dig10_pos (u:Nat) (h:0 < u):dig10 u=dig10 (u / 10)++[UInt8.ofNat (48+u % 10)]:=by
 rw [dig10,dif_neg zTbe]
def printL (n:Int):List UInt8:=if n=0 then [48] else if n < 0 then 45::dig10 n.natAbs else dig10 n.natAbs
theorem digit_toNat (x:Nat):(UInt8.ofNat (48+x % 10)).toNat=48+x % 10:=by
 rw [UInt8.toNat_ofNat']
 omega
def zb (k:Nat):List Value:=List.replicate k (.int .u8 0)
theorem zb_set (m:Nat) (suf:List UInt8) (c:UInt8):(zb (m+1)++by8 suf).set m (.int .u8 (c.toNat:Int))=zb m++by8 (c::suf):=by
 have e:zb (m+1)++by8 suf=zb m++([.int .u8 0]++by8 suf):=by
  unfold zb
  rw [List.replicate_succ',List.append_assoc]
 have hl:(zb m).length=m:=by simp [zb]
 rw [e,List.set_append_right _ _ zTbe,hl,Nat.sub_self]
 rfl
theorem by8_cells {w:World} {b m:Nat} {t:TypeId} {q:List UInt8} (h:Blk w b t (zb m++by8 q)):∀ j (hj:j < q.length),w.cell? ((⟨b,m,none⟩:Addr).add j)=some (.int .u8 (q[j].toNat:Int)):=by
 intro j hj
 have e:(⟨b,m,none⟩:Addr).add j=⟨b,m+j,none⟩:=Addr.add_lit _ _ _
 rw [e]
 refine h.cellE (m+j) ?_
 rw [List.getElem?_append_right (by simp [zb])]
 simp [zb,by8,hj]
def trueL:List UInt8:=[116,114,117,101]
def falseL:List UInt8:=[102,97,108,115,101]
def prB (v:AV):List UInt8:=if v.kind=1 then printL v.n else if v.kind=2 then 39::(esc 39 [39,39] v.s.data.toList++[39]) else if v.n=1 then trueL else falseL
def printV (v:AV):List UInt8:=if v.right then prB v else []
theorem lit_row (w:World) (l:List AV) (h:l.length≤1000):Sl (w.alloc (.cells (rowCells l).toArray 113)) (fun _=>True) 3 (.slice (some ⟨w.heap.size,0,none⟩) l.length l.length) l.length (rowCells l):=by
 have h1:Ones (rowCells l):=by
  intro u hu
  obtain ⟨c,hc,huc⟩:=List.mem_flatten.1 hu
  obtain ⟨a,_,rfl⟩:=List.mem_map.1 hc
  simp [AV.cells] at huc
  rcases huc with rfl|rfl|rfl<;>rfl
 have:=Own.made w 113 3 (rowCells l) [] l.length l.length (rowCells_length l) h1 (Nat.le_refl _) zefz (by rw [List.append_nil,rowCells_length];exact Nat.le_refl _)
 rw [List.append_nil] at this
 exact this.sl (fun _ _=>trivial)
theorem nil_right:(⟨#[]⟩:ByteArray).toList.isEmpty=true:=toList_list _ [] rfl
theorem pr_its:printV ⟨2,0,⟨#[105,116,39,115]⟩⟩=[39,105,116,39,39,115,39]:=by
 have h:AV.right ⟨2,0,⟨#[105,116,39,115]⟩⟩=true:=by unfold AV.right;simp only;rfl
 unfold printV
 rw [h];rfl
theorem pr_true:printV ⟨3,1,⟨#[]⟩⟩=[116,114,117,101]:=by
 have h:AV.right ⟨3,1,⟨#[]⟩⟩=true:=by unfold AV.right;simp only;rw [nil_right];rfl
 unfold printV
 rw [h];rfl
theorem key_one:rowKey [⟨1,1,⟨#[]⟩⟩,⟨2,0,⟨#[97]⟩⟩]=[1,128,0,0,0,0,0,0,1,2,97,0,1]:=by
 have h:rightAll [⟨1,1,⟨#[]⟩⟩,⟨2,0,⟨#[97]⟩⟩]=true:=by
  unfold rightAll AV.right
  simp only [List.all_cons,List.all_nil]
  rw [nil_right];rfl
 unfold rowKey
 rw [h];rfl
theorem int_val (w:World) (n:Int):Calls Tryz.prog 180 #[.int .i64 n] w fun e w'=>e=.returned (.agg #[.int .i64 1,.int .i64 n,.string ⟨#[]⟩])∧Below w.heap.size w w':=by
 go_enter Tryz.func180,Tryz.ntmps180
 go_wp2
 refine bodyPost_ret (v:=.agg #[.int .i64 1,.int .i64 n,.string ⟨#[]⟩]) (by simp [results,Tryz.results180,go_sem]) rfl ⟨rfl,?_⟩
 exact zGHK
theorem bs_toList (l:List UInt8):(bs l).toList=l:=by rw [ByteArray.toList_eq,bs_data]
theorem wf_fits {n:Int} (h:(Lit.int .i64 n).wf=true):fits n:=by
 have h2:-9223372036854775808≤n∧n≤9223372036854775807:=zfqm
 exact h2
theorem open_i64s {H:Type} {enc:TypeId × Value→H} {w:World} {v:Value} {d:DataW H} {ps:List MemPlace} (h:DataW.Trod enc Tryz.prog w 0 (fun _=>true) true 280 v d ps) (hv:v.cells.toList=[v]) :
 ∃ l:List Int,Sl w (fun _=>True) 1 v l.length (ints l)∧∀ x∈l,fits x:=by
 obtain ⟨fuel,hf⟩:=h
 rw [hv] at hf
 obtain ⟨l,h1,h2⟩:=open_ints_sl Tryz.underlying280 Tryz.underlying2 zyVB hf
 exact ⟨l,h1,fun x hx=>wf_fits (h2 x hx)⟩
theorem minI_spec:∀ (l:List Int) (a:Int),(minI a l=a∨minI a l∈l)∧minI a l≤a∧∀ x∈l,minI a l≤x
 | [],a=>⟨.inl rfl,Int.le_refl _,zPXO⟩
 | x::l,a=>by
  obtain ⟨h1,h2,h3⟩:=minI_spec l (min a x)
  have e:minI a (x::l)=minI (min a x) l:=rfl
  rw [e]
  refine ⟨?_,zTbe,fun y hy=>?_⟩
  ·rcases h1 with h1|h1
   ·by_cases hx:a≤x
    ·exact .inl zTbe
    ·exact .inr (by rw [h1,show min a x=x by omega];simp)
   ·exact .inr (by simp [h1])
  ·rcases List.mem_cons.1 hy with rfl|hy
   ·omega
   ·exact h3 y hy
theorem maxI_spec:∀ (l:List Int) (a:Int),(maxI a l=a∨maxI a l∈l)∧a≤maxI a l∧∀ x∈l,x≤maxI a l
 | [],a=>⟨.inl rfl,Int.le_refl _,zPXO⟩
 | x::l,a=>by
  obtain ⟨h1,h2,h3⟩:=maxI_spec l (max a x)
  have e:maxI a (x::l)=maxI (max a x) l:=rfl
  rw [e]
  refine ⟨?_,zTbe,fun y hy=>?_⟩
  ·rcases h1 with h1|h1
   ·by_cases hx:x≤a
    ·exact .inl zTbe
    ·exact .inr (by rw [h1,show max a x=x by omega];simp)
   ·exact .inr (by simp [h1])
  ·rcases List.mem_cons.1 hy with rfl|hy
   ·omega
   ·exact h3 y hy
def seen (m a:Int) (l:List Int) (k:Nat):Bool:=decide (m=a∨m∈l.take k)
theorem seen_zero (m a:Int) (l:List Int):seen m a l 0=(m == a):=by
 rw [Bool.eq_iff_iff];simp [seen]
theorem seen_next (m a:Int) (l:List Int) (k:Nat) (h:k < l.length):seen m a l (k+1)=(seen m a l k || m == l[k]):=by
 rw [Bool.eq_iff_iff]
 unfold seen
 rw [←List.take_append_getElem h,Bool.or_eq_true,decide_eq_true_iff,decide_eq_true_iff,List.mem_append,List.mem_singleton,beq_iff_eq,or_assoc]
theorem lit_i64s (w:World) (l:List Int) (h:l.length≤1000):Sl (w.alloc (.cells (ints l).toArray 2)) (fun _=>True) 1 (.slice (some ⟨w.heap.size,0,none⟩) l.length l.length) l.length (ints l):=by
 have:=Own.made w 2 1 (ints l) [] l.length l.length zN8V (ints_ones l) (Nat.le_refl _) zefz zN8V
 have h2:Own (w.alloc (.cells (ints l).toArray 2)) 2 1 (.slice (some ⟨w.heap.size,0,none⟩) l.length l.length) l.length (ints l):=by simpa using this
 exact h2.sl (fun k hk=>trivial)
theorem rests_law (a b:Int) :
 dvE a b=2∨dvE a b=3∨(dvE a b=0∧mdE b=0∧dvN a b*b+mdN a b=a∧(0 < b∧0≤mdN a b∧mdN a b < b∨b < 0∧mdN a b≤0∧b < mdN a b)):=by
 by_cases h0:b=0
 ·subst h0;exact .inr (.inl rfl)
 by_cases h1:b=-1
 ·subst h1
  by_cases hf:fits (-a)
  ·refine .inr (.inr ⟨?_,rfl,?_,.inr ⟨zcX3,by simp [mdN],by simp [mdN]⟩⟩)
   ·simp [dvE,shortE,hf]
   ·simp [dvN,mdN,shortN,hf]
  ·left;simp [dvE,shortE,hf]
 ·refine .inr (.inr ⟨by simp [dvE,h0,h1],by simp [mdE,h0],?_,?_⟩)
  ·simp only [dvN,mdN,if_neg h0,if_neg h1]
   rw [Int.mul_comm];exact Int.mul_fdiv_add_fmod a b
  ·simp only [mdN,if_neg h0,if_neg h1]
   by_cases hb:0 < b
   ·exact .inl ⟨hb,Int.fmod_nonneg_of_pos a hb,Int.fmod_lt_of_pos a hb⟩
   ·right
    have h2:=Int.fmod_nonneg_of_pos (-a) (show 0 < -b by omega)
    have h3:=Int.fmod_lt_of_pos (-a) (show 0 < -b by omega)
    rw [Int.neg_fmod_neg] at h2 h3
    omega
theorem dig10_val (u:Nat):valN (dig10 u)=u:=by
 induction u using Nat.strongRecOn with
 | ind u ih =>
  rcases Nat.eq_zero_or_pos u with h|h
  ·subst h;rw [dig10_zero];rfl
  ·rw [dig10_pos u h]
   unfold valN
   rw [List.foldl_append]
   have:=ih (u / 10) (Nat.div_lt_self h zTbe)
   unfold valN at this
   rw [this,List.foldl_cons,List.foldl_nil,digit_toNat]
   omega
theorem dig10_digs (u:Nat):∀ c∈dig10 u,dig c:=by
 induction u using Nat.strongRecOn with
 | ind u ih =>
  rcases Nat.eq_zero_or_pos u with h|h
  ·subst h;rw [dig10_zero];simp
  ·rw [dig10_pos u h]
   intro c hc
   rcases List.mem_append.1 hc with hc|hc
   ·exact ih (u / 10) (Nat.div_lt_self h zTbe) c hc
   ·rw [List.mem_singleton.1 hc]
    unfold dig
    rw [digit_toNat]
    omega
theorem dig10_head (u:Nat) (h:0 < u):∃ c t,dig10 u=c::t∧c≠48:=by
 induction u using Nat.strongRecOn with
 | ind u ih =>
  rw [dig10_pos u h]
  rcases Nat.eq_zero_or_pos (u / 10) with h2|h2
  ·rw [h2,dig10_zero]
   refine ⟨_,[],rfl,?_⟩
   intro h3
   have:=digit_toNat u
   rw [h3] at this
   have h4:(48:UInt8).toNat=48:=rfl
   omega
  ·obtain ⟨c,t,h3,h4⟩:=ih (u / 10) (Nat.div_lt_self h zTbe) h2
   exact ⟨c,t++_,by rw [h3];rfl,h4⟩
theorem dig10_len (k:Nat):∀ u,u < 10 ^ k→(dig10 u).length≤k:=by
 induction k with
 | zero=>intro u hu;have:u=0:=by simpa using hu
         subst this;rw [dig10_zero];simp
 | succ k ih =>
  intro u hu
  rcases Nat.eq_zero_or_pos u with h|h
  ·subst h;rw [dig10_zero];simp
  ·rw [dig10_pos u h,List.length_append]
   have:=ih (u / 10) (Nat.div_lt_of_lt_mul (by rw [Nat.pow_succ] at hu;omega))
   simp
   exact this
theorem right_dig10 (ng:Bool) (u:Nat) (h:0 < u):right ng (dig10 u):=by
 obtain ⟨c,t,h1,h2⟩:=dig10_head u h
 refine ⟨?_,dig10_digs u⟩
 rw [h1]
 simp [headOk,h2]
theorem prs_print (n:Int) (hn:fits n):prsN (printL n)=n∧prsE (printL n)=0∧(printL n).length≤1000:=by
 have hf:shortN n=n∧shortE n=0:=by unfold shortN shortE;rw [if_pos hn,if_pos hn];exact ⟨rfl,rfl⟩
 have hlen:=dig10_len 19 n.natAbs (by unfold fits at hn;omega)
 unfold printL
 by_cases h0:n=0
 ·subst h0;exact ⟨zdhv,zdhv,zcX3⟩
 ·rw [if_neg h0]
  by_cases hneg:n < 0
  ·rw [if_pos hneg]
   have e:splitL (45::dig10 n.natAbs)=(dig10 n.natAbs,true):=rfl
   have hr:=right_dig10 true n.natAbs zTbe
   have hz:sgn true (n.natAbs:Int)=n:=by unfold sgn;simp;omega
   unfold prsN prsE numN numE
   simp only [e]
   rw [if_pos hr,if_pos hr,dig10_val,hz]
   exact ⟨hf.1,hf.2,by rw [List.length_cons];omega⟩
  ·rw [if_neg hneg]
   have hr:=right_dig10 false n.natAbs zTbe
   obtain ⟨c,t,h1,h2⟩:=dig10_head n.natAbs zTbe
   have hd:=dig10_digs n.natAbs c (by rw [h1];simp)
   have h45:c≠45:=by intro h;subst h;unfold dig at hd;exact absurd hd zcX3
   have e:splitL (dig10 n.natAbs)=(dig10 n.natAbs,false):=by rw [h1];simp [splitL,h45]
   have hz:sgn false (n.natAbs:Int)=n:=by unfold sgn;simp;omega
   unfold prsN prsE numN numE
   simp only [e]
   rw [if_pos hr,if_pos hr,dig10_val,hz]
   exact ⟨hf.1,hf.2,zTbe⟩
def zeroV:AV:=⟨0,0,⟨#[]⟩⟩
def chkV (v:AV) (l:List UInt8):AV × Int:=if v.right && (prB v == l) then (v,0) else (zeroV,12)
def midL (l:List UInt8):List UInt8:=(l.drop 1).take (l.length - 2)
def isText (l:List UInt8):Bool:=decide (2≤l.length) && (l.head? == some 39)
def prsV (l:List UInt8):AV × Int :=
 if l == trueL then (⟨3,1,⟨#[]⟩⟩,0) else if l == falseL then (⟨3,0,⟨#[]⟩⟩,0)
 else if isText l then chkV ⟨2,0,bs (unpair 39 (midL l))⟩ l else if prsE l=0 then chkV ⟨1,prsN l,⟨#[]⟩⟩ l else (zeroV,12)
theorem chkV_print (v:AV) (l:List UInt8):chkV v l=if v.right && (printV v == l) then (v,0) else (zeroV,12):=by
 unfold chkV printV
 cases v.right<;>rfl
theorem eq_lit (s:ByteArray) (l:List UInt8) (hs:s.data.toList=l) (x:List UInt8):(s.toList == x)=(l == x):=by rw [ByteArray.toList_eq,hs]
theorem right_true:AV.right ⟨3,1,⟨#[]⟩⟩=true:=by
 unfold AV.right
 simp only
 rw [nil_right];rfl
theorem right_false:AV.right ⟨3,0,⟨#[]⟩⟩=true:=by
 unfold AV.right
 simp only
 rw [nil_right];rfl
theorem right_int (n:Int):AV.right ⟨1,n,⟨#[]⟩⟩=true:=by
 unfold AV.right
 simp only
 rw [nil_right];rfl
theorem pr_false:printV ⟨3,0,⟨#[]⟩⟩=[102,97,108,115,101]:=by
 unfold printV
 rw [right_false];rfl
theorem blk3 {w:World} {b:Nat} {t:TypeId} {x y z:Value} (h:Blk w b t [x,y,z]):w.cell? ⟨b,0,none⟩=some x∧w.cell? ⟨b,1,none⟩=some y∧w.cell? ⟨b,2,none⟩=some z∧∀ i,w.frozen? ⟨b,i,none⟩=false :=
 ⟨h.cell 0,h.cell 1,h.cell 2,h.frozen⟩
theorem slice_mid (s:ByteArray) (i j:Nat) (h1:i≤j) (h2:j≤s.size) (w:World):(Instr.slice 9 (.string s) (some (.int .i64 (i:Int))) (some (.int .i64 (j:Int))) none).run Tryz.prog w=.ok (.string (s.extract i j)) w:=by
 have e1:((i:Int)).toNat=i:=zTbe
 have e2:((j:Int)).toNat=j:=zTbe
 simp [Instr.slice,run_underlying Tryz.underlying9,Instr.sliceBounds,run_sliceBound,h1,h2,e1,e2]
def sprN (l:List UInt8) (k:Nat):Nat:=((List.range k).map fun i=>(i+1)*(l.getD i 0).toNat).sum
theorem sprN_next (l:List UInt8) (k:Nat) (h:k < l.length):sprN l (k+1)=sprN l k+(k+1)*l[k].toNat:=by
 unfold sprN
 rw [List.range_succ,List.map_append,List.sum_append]
 simp [List.getElem?_eq_getElem h]
theorem prod_le (k:Nat) (c:UInt8) (h:k < 300):(k+1)*c.toNat≤76500:=by
 have h1:c.toNat≤255:=by have:=c.toNat_lt;omega
 have h2:(k+1)*c.toNat≤300*255:=Nat.mul_le_mul zTbe h1
 omega
theorem sprN_le (l:List UInt8) (k:Nat) (h:k≤l.length) (hl:l.length≤300):sprN l k≤76500*k:=by
 induction k with
 | zero=>exact Nat.le_refl _
 | succ k ih =>
  rw [sprN_next l k zTbe]
  have:=prod_le k l[k] zTbe
  have:=ih zTbe
  omega
def spT (k n:Int) (s:ByteArray):Int:=if k=2 then n+(sprN s.data.toList s.size:Int) else n
theorem spread_any (w:World) (k n:Int) (s:ByteArray) (m:Int) (hm:fits m) (hn:fits n) (hk:k=2→n=0) (hs:s.size≤300) :
 Calls Tryz.prog 171 #[.agg #[.int .i64 k,.int .i64 n,.string s],.int .i64 m] w fun e w'=>e=.returned (.int .i64 (if m < 1 then 0 else mdN (spT k n s) m))∧Below w.heap.size w w':=by
 have hb1:=z8Tj
 have HB1:=Lib.hid hb1
 clear hb1
 by_cases hm1:m < 1
 ·rw [if_pos hm1]
  have hd:decide (m < 1)=true:=decide_eq_true hm1
  clear hm1
  go_enter Tryz.func171,Tryz.ntmps171
  go_wp2
  go_ret
  exact ⟨rfl,HB1.out⟩
 ·rw [if_neg hm1]
  have hd:decide (m < 1)=false:=decide_eq_false hm1
  clear hm1
  obtain ⟨b0,b1,b2,bf⟩:=blk3 (Blk.new w 113 [.int .i64 k,.int .i64 n,.string s])
  by_cases hk2:k=2
  ·have hn0:=hk hk2
   subst hn0
   subst hk2
   have hsp:spT 2 0 s=(sprN s.data.toList s.size:Int):=by unfold spT;rw [if_pos rfl,Int.zero_add]
   rw [hsp]
   obtain ⟨l,hl⟩:=z9tc
   have hsz:=size_list s l hl
   rw [hl,hsz]
   have hfin:fits (sprN l l.length:Int):=by
    have:=sprN_le l l.length zTbe zTbe
    unfold fits
    omega
   have HM:=Lib.hid (fun w=>mod_any w (sprN l l.length:Int) m hfin hm)
   have HLE:Hid (∀ k,k≤l.length→sprN l k≤76500*k):=fun k h=>sprN_le l k h zTbe
   have HNX:=Lib.hid (sprN_next l)
   have kc:=zUgE
   clear hk hsp hfin hn hm
   go_enter Tryz.func171,Tryz.ntmps171
   go_wp2
   generalize hw1:w.alloc (.cells #[.int .i64 2,.int .i64 0,.string s] 113)=w1 at *
   have hs1:=zFlm
   have HC0:Hid (∀ k (h:k < l.length),(cvW w1 s 5).cell? ⟨w1.heap.size,k,none⟩=some (.int .u8 (l[k].toNat:Int))):=fun k h=>cvW_cell w1 s _ _ hl k h
   have HB2:Hid (Below w.heap.size w (cvW w1 s 5)):=HB1.out.trans ((cvW_below w1 s _).mono HB1.out.size)
   rw [hs1] at HC0
   have HC:=HC0
   clear kc hw1 hl hs1 HC0 b0 b1 b2 bf
   go_loop [5,21] (fun v i=>∃ k:Nat,i=.int .i64 k∧k≤l.length∧v=.int .i64 (sprN l k:Nat)) (fun _ i=>l.length - (intOf i).toNat)
   case atStart=>exact ⟨0,rfl,Nat.zero_le _,rfl⟩
   case round =>
    obtain ⟨k,rfl,hk,rfl⟩:=hrel
    have hle:=HLE.out k hk
    by_cases hka:k < l.length
    ·have hck:=HC.out k hka
     have hnx:=HNX.out k hka
     have hpl:=prod_le k l[k] zTbe
     have hcl:=l[k].toNat_lt
     have hci:((k:Int)+1)*(l[k].toNat:Int)=(((k+1)*l[k].toNat:Nat):Int):=by rw [Int.natCast_mul];rfl
     generalize hu2:sprN l (k+1)=u2 at *
     have HU2:=Lib.hid hu2
     clear hu2
     generalize sprN l k=u at *
     generalize l[k].toNat=c at *
     have HCI:=Lib.hid hci
     generalize hpr:(k+1)*c=pr at *
     clear hpr
     have hwr:IntKind.i64.wrap (c:Int)=(c:Int):=zrPp
     have HNX2:=Lib.hid hnx
     clear hnx
     go_wp2
     go_round
     case rel=>exact ⟨k+1,z3KH,zTbe,by rw [HU2.out];have:=HNX2.out;congr 1;omega⟩
     case measure=>(simp [intOf])<;>omega
    ·obtain rfl:k=l.length:=by omega
     clear hka hk hle
     generalize huu:sprN l l.length=u at *
     have HUU:=Lib.hid huu
     clear huu
     go_wp2_with fail
     refine (HM.out _).mono ?_
     rintro e w5 ⟨rfl,hb5⟩
     have HB5:=Lib.hid (HB2.out.trans (hb5.mono HB2.out.size))
     clear hb5
     go_wp2
     go_ret
     exact ⟨by rw [HUU.out];rfl,HB5.out⟩
  ·have hsp:spT k n s=n:=by unfold spT;rw [if_neg hk2]
   rw [hsp]
   have hz:(k == 2)=false:=by rw [beq_eq_false_iff_ne];exact hk2
   have HM:=Lib.hid (fun w=>mod_any w n m hn hm)
   clear hk hsp hk2
   go_enter Tryz.func171,Tryz.ntmps171
   go_wp2_with fail
   refine (HM.out _).mono ?_
   rintro e w5 ⟨rfl,hb5⟩
   have HB5:=Lib.hid (HB1.out.trans (hb5.mono HB1.out.size))
   clear hb5
   go_wp2
   go_ret
   exact ⟨rfl,HB5.out⟩
theorem chk_right {s:SchV} {i:Int} {row:List AV} (h:chkS s i row=0):rightS s=true:=by
 obtain ⟨_,_,_,h,_⟩:=chk_in h
 exact h
theorem chk_fit {s:SchV} {i:Int} {row:List AV} (h:chkS s i row=0):fitB s.cols row=true:=by
 obtain ⟨_,_,_,_,h⟩:=chk_in h
 exact h
def keysO (s:SchV) (row:List AV):List (List UInt8):=if chkS s 0 row=0 then s.idx.map (skey s.idx row) else []
theorem schkeys_any (w:World) (hm:Mx w) (B B':Nat→Prop) (s:SchV) (v:Value) (row:List AV) (h:SchAt w B s) (hr:Sl w B' 3 v row.length (rowCells row)) (hf:∀ a∈row,fit64 a.n)
 (hrl:row.length≤1000) (hx:∀ x∈s.idx,x.l.length≤200) :
 Calls Tryz.prog 93 #[s.agg,v] w fun e w'=>∃ out,e=.returned (.tuple #[out,.int .i64 (chkS s 0 row)])∧Sl w' (fun q=>w.heap.size≤q) 1 out (keysO s row).length (strC (keysO s row))∧Below w.heap.size w w':=by
 obtain ⟨nm,cv,cl,iv,il,lim,prt,by_⟩:=s
 have HS:=Lib.hid h
 obtain ⟨h1,h2,h3,h4⟩:=h
 simp only at h1 h2 h3 h4 hx
 obtain ⟨pc,cc,rfl,_,hcc⟩:=h1.form
 obtain ⟨pi,ci,rfl,hci1,hci⟩:=h2.1.form
 obtain ⟨pr,cr,rfl,hpr1,hpr2⟩:=hr.form
 have hal:=zVhr
 have HBK:=z1OE
 have HROW:=Lib.hid hr
 have HALW:=Lib.hid hal
 have HM:=Lib.hid hm
 have HF:=Lib.hid hf
 have HX:=Lib.hid hx
 obtain ⟨x0,x1,x2,x3,x4,x5⟩:=sch_cells HBK.out
 clear h1 h2 h3 h4 hal hr hcc hpr1 hpr2 hm hf hx
 simp only [SchV.agg]
 have HCK:=Lib.hid (fun W hb=>checked_any W B B' ⟨nm,.slice pc cl.length cc,cl,.slice pi il.length ci,il,lim,prt,by_⟩ 0 (.slice pr row.length cr) row (SchAt.below (w':=W) HS.out hb) (Sl.below (w':=W) HROW.out hb) zTbe)
 simp only [SchV.agg] at HCK
 obtain ⟨c,hc⟩:=zJX4
 have hko:keysO ⟨nm,.slice pc cl.length cc,cl,.slice pi il.length ci,il,lim,prt,by_⟩ row=if c=0 then il.map (skey il row) else []:=by unfold keysO;rw [hc]
 rw [hc] at HCK ⊢
 rw [hko]
 clear hko
 by_cases h0:c=0
 ·subst h0
  have hrt:=chk_right hc
  have hil4:il.length≤4:=by
   have:=((frontS_iff _).1 (by have h:=hrt;rw [rightS_front] at h;simp only [Bool.and_eq_true] at h;exact h.1.1)).2.2.2.2.1
   simp only at this
   omega
  rw [if_pos rfl]
  have hkk:=fun W hb hmm n hn=>sckey_any W hmm B B' ⟨nm,.slice pc cl.length cc,cl,.slice pi il.length ci,il,lim,prt,by_⟩ n (.slice pr row.length cr) row (SchAt.below (w':=W) HS.out hb) (Sl.below (w':=W) HROW.out hb) hn HF.out hrl HX.out
  simp only [SchV.agg] at hkk
  have HKK:=Lib.hid hkk
  clear hc hkk hrt
  go_enter Tryz.func93,Tryz.ntmps93
  go_wp2_with (first
   | (go_at_call 126;refine (HCK.out _ HALW.out).mono ?_;clear HCK;rintro e w2 ⟨rfl,hb2⟩;have HB2:=Lib.hid (HALW.out.trans (hb2.mono HALW.out.size));have HBK2:=Lib.hid (HBK.out.below hb2);obtain ⟨y0,y1,y2,y3,y4,y5⟩:=sch_cells HBK2.out;clear hb2 x0 x1 x2 x3 x4 x5 y0 y1 y3 y4 y5))
  have HW2:Hid (w.heap.size < w2.heap.size):=HBK2.out.lt
  clear y2
  go_loopw [7,18] (fun v i wr=>∃ k:Nat,i=.int .i64 k∧k≤il.length∧Own wr 9 1 v ((il.take k).map (skey il row)).length (strC ((il.take k).map (skey il row)))∧(∀ q,v.ownBlock=some q→w2.heap.size≤q)∧Below w2.heap.size w2 wr) (fun _ i _=>il.length - (intOf i).toNat)
  case atStart=>exact ⟨0,rfl,Nat.zero_le _,Own.nil _ _ _,zfJ3,Below.refl _ _⟩
  case round =>
   obtain ⟨k,rfl,hk,hown,hnew,hbr⟩:=hrel
   obtain ⟨pv,cv,rfl,hcv1,hcv2⟩:=own_form3 hown
   have HOWN:=Lib.hid hown
   have HNEW:=Lib.hid hnew
   have HBR:=Lib.hid hbr
   have HB3:=Lib.hid (HB2.out.trans (hbr.mono HB2.out.size))
   obtain ⟨y0,y1,y2,y3,y4,y5⟩:=sch_cells (HBK2.out.below hbr)
   by_cases hka:k < il.length
   ·have HX1:=Lib.hid (map_next (skey il row) il k hka)
    have HKR:=Lib.hid (fun W hb hmm=>HKK.out W hb hmm k hka)
    have hle:((il.take k).map (skey il row)).length≤il.length:=by rw [List.length_map,List.length_take];omega
    clear hown hnew hbr
    generalize skey il row il[k]=sk at *
    generalize (il.take k).map (skey il row)=acc at *
    go_wp2_with fail
    refine (HKR.out _ HB3.out (HM.out.below HB3.out)).mono ?_
    rintro e w3 ⟨rfl,hb3⟩
    have hal5:Below w3.heap.size w3 (w3.alloc (.cells #[.string (bs sk)] 9)):=(Below.refl _ _).alloc (Nat.le_refl _) _
    have ho1:=(HOWN.out.below hb3).below hal5
    have hs1:=one_str w3 sk
    have HX5:=Lib.hid (hb3.trans (hal5.mono hb3.size))
    have HSZ:Hid (wr.heap.size≤w3.heap.size):=hb3.size
    clear hal5 hb3 y0 y1 y2 y3 y4 y5 HKR
    go_wp2_with (at_builtin;refine wpList_app rfl _ _ rfl elemStr zdhv ho1 zdhv hs1 zefz zTbe ?_;intro v1 w7 g1 g2 g3 g4 g5;clear ho1 hs1;have G1:=Lib.hid g1;have G2:=Lib.hid g2;have G3:=Lib.hid g3;clear g1 g2 g3 g4 g5)
    have h9:w2.heap.size≤wr.heap.size:=HBR.out.size
    refine ⟨⟨k+1,z3KH,zTbe,?_,fun q hq=>?_,?_⟩,zQOc⟩
    ·rw [HX1.out,List.length_append,strC_append];exact G1.out
    ·rcases G3.out with h|h
     ·rw [h] at hq;exact HNEW.out q hq
     ·rw [h] at hq
      have:=HSZ.out
      have:w3.heap.size+1=q:=by simpa using hq
      omega
    ·exact (HBR.out.trans (HX5.out.mono HBR.out.size)).trans (G2.out.below (by have:=HX5.out.size;omega) (fun q hq=>HNEW.out q hq))
   ·obtain rfl:k=il.length:=by omega
    have he:=hown.sl hnew
    have hv:Value.slice pv ((il.take il.length).map (skey il row)).length cv=Value.slice pv (il.map (skey il row)).length cv:=by rw [List.take_length]
    rw [List.take_length] at he
    have HE:=Lib.hid (he.mono (Nat.le_refl _) (fun _ _ _=>rfl) (fun q hq _=>Nat.le_trans (Nat.le_of_lt HW2.out) hq))
    have HVV:=Lib.hid hv
    clear hown hnew he hv
    go_wp2
    exact bodyPost_ret (v:=.tuple #[Value.slice pv ((il.take il.length).map (skey il row)).length cv,.int .i64 0]) (by simp [results,Tryz.results93,go_sem]) rfl ⟨_,by rw [HVV.out],HE.out,HB3.out⟩
 ·rw [if_neg h0]
  have hc0:(c != 0)=true:=bne_iff_ne.2 h0
  clear hc h0
  go_enter Tryz.func93,Tryz.ntmps93
  go_wp2_with (first
   | (go_at_call 126;refine (HCK.out _ HALW.out).mono ?_;clear HCK;rintro e w2 ⟨rfl,hb2⟩;have HB2:=Lib.hid (HALW.out.trans (hb2.mono HALW.out.size));clear hb2))
  exact bodyPost_ret (v:=.tuple #[.slice none 0 0,.int .i64 c]) (by simp [results,Tryz.results93,go_sem]) rfl ⟨_,rfl,⟨rfl,Ones.nil,.inl ⟨none,0,rfl,rfl,Nat.zero_le _,fun _=>rfl⟩⟩,HB2.out⟩
theorem right_two (v:AV) (h:v.right=true) (hk:v.kind=2):v.n=0:=by
 unfold AV.right at h
 rw [hk] at h
 simp at h
 exact h.1
theorem right_size (v:AV) (h:v.right=true):v.s.size≤300:=by
 unfold AV.right at h
 simp only [Bool.or_eq_true,Bool.and_eq_true,beq_iff_eq,decide_eq_true_eq] at h
 have he:v.s.toList.isEmpty=true→v.s.size=0:=fun h=>by
  rw [toList_list v.s _ rfl] at h
  rw [size_list v.s _ rfl]
  cases hq:v.s.data.toList with
  | nil=>rfl
  | cons a t=>rw [hq] at h;simp at h
 rcases h with (⟨_,h⟩|⟨_,h⟩)|⟨_,h⟩
 ·rw [he h];omega
 ·omega
 ·rw [he h];omega
def partO (s:SchV) (row:List AV):Int:=if chkS s 0 row=0 then (match row[s.by_.toNat]? with
 | some a=>mdN (spT a.kind a.n a.s) s.parts
 | none=>0) else 0
theorem rightS_by {s:SchV} (h:rightS s=true):0≤s.by_∧s.by_ < (s.cols.length:Int)∧1≤s.parts∧s.parts≤8∧1≤s.limit∧s.limit≤1000∧1≤s.idx.length∧s.idx.length≤4∧s.cols.length≤8:=by
 rw [rightS_front] at h
 simp only [Bool.and_eq_true] at h
 have h2:=(frontS_iff _).1 h.1.1
 unfold FrontP at h2
 omega
theorem fitB_len {cl:List ColV} {row:List AV} (h:fitB cl row=true):row.length=cl.length∧rightAll row=true:=by
 unfold fitB at h
 simp only [Bool.and_eq_true,decide_eq_true_eq] at h
 exact h.1
theorem schpart_any (w:World) (B B':Nat→Prop) (s:SchV) (v:Value) (row:List AV) (h:SchAt w B s) (hr:Sl w B' 3 v row.length (rowCells row)) (hf:∀ a∈row,fit64 a.n) (hrl:row.length≤1000) :
 Calls Tryz.prog 151 #[s.agg,v] w fun e w'=>e=.returned (.tuple #[.int .i64 (partO s row),.int .i64 (chkS s 0 row)])∧Below w.heap.size w w':=by
 obtain ⟨nm,cv,cl,iv,il,lim,prt,by_⟩:=s
 have HS:=Lib.hid h
 obtain ⟨h1,h2,h3,h4⟩:=h
 simp only at h1 h2 h3 h4
 obtain ⟨pc,cc,rfl,_,hcc⟩:=h1.form
 obtain ⟨pi,ci,rfl,hci1,hci⟩:=h2.1.form
 obtain ⟨pr,cr,rfl,hpr1,hpr2⟩:=hr.form
 have hal:=zVhr
 have HBK:=z1OE
 have HROW:=Lib.hid hr
 have HALW:=Lib.hid hal
 obtain ⟨x0,x1,x2,x3,x4,x5⟩:=sch_cells HBK.out
 clear h1 h2 h3 h4 hal hr hcc hpr1 hpr2
 simp only [SchV.agg]
 have HCK:=Lib.hid (fun W hb=>checked_any W B B' ⟨nm,.slice pc cl.length cc,cl,.slice pi il.length ci,il,lim,prt,by_⟩ 0 (.slice pr row.length cr) row (SchAt.below (w':=W) HS.out hb) (Sl.below (w':=W) HROW.out hb) zTbe)
 simp only [SchV.agg] at HCK
 obtain ⟨c,hc⟩:=zJX4
 have hko:partO ⟨nm,.slice pc cl.length cc,cl,.slice pi il.length ci,il,lim,prt,by_⟩ row=if c=0 then (match row[by_.toNat]? with
  | some a=>mdN (spT a.kind a.n a.s) prt
  | none=>0) else 0:=by unfold partO;rw [hc]
 rw [hc] at HCK ⊢
 rw [hko]
 clear hko
 by_cases h0:c=0
 ·subst h0
  obtain ⟨hby0,hby1,hp1,hp8,_⟩:=rightS_by (chk_right hc)
  have hfl:=fitB_len (chk_fit hc)
  simp only at hby0 hby1 hp1 hp8 hfl
  obtain ⟨n,hn⟩:∃ n:Nat,by_=(n:Int):=⟨by_.toNat,zTbe⟩
  subst hn
  have hnr:n < row.length:=zTbe
  obtain ⟨g,off,cap,hv,hg,e0,e1,e2⟩:=sl_av (HROW.out.below HALW.out) hnr
  cases hv
  have hra:row[n].right=true:=by
   have:=hfl.2
   unfold rightAll at this
   rw [List.all_eq_true] at this
   exact this _ (List.getElem_mem hnr)
  have hfa:fits row[n].n:=hf _ (List.getElem_mem hnr)
  rw [if_pos rfl,Int.toNat_natCast,List.getElem?_eq_getElem hnr]
  simp only
  generalize row[n]=a at *
  obtain ⟨ak,an,sa⟩:=a
  have hnp:¬ prt < 1:=zTbe
  have HSP:=Lib.hid (fun W=>spread_any W ak an sa prt (by unfold fits;omega) hfa (fun h=>right_two _ hra h) (right_size _ hra))
  simp only [if_neg hnp] at HSP e0 e1 e2
  have HG:Hid (g < (w.alloc (.cells #[.string nm,.slice pc cl.length cc,.slice pi il.length ci,.int .i64 lim,.int .i64 prt,.int .i64 (n:Int)] 25)).heap.size):=hg
  have HPL:Hid (1≤prt):=hp1
  simp only at ⊢
  generalize mdN (spT ak an sa) prt=z at *
  clear hc hfl hra hfa hnp hf hp1 hp8 hby0 hby1
  go_enter Tryz.func151,Tryz.ntmps151
  go_wp2_with (first
   | (go_at_call 126;refine (HCK.out _ HALW.out).mono ?_;clear HCK;rintro e w2 ⟨rfl,hb2⟩;have HB2:=Lib.hid (HALW.out.trans (hb2.mono HALW.out.size));obtain ⟨y0,y1,y2,y3,y4,y5⟩:=sch_cells (HBK.out.below hb2);have z0:=(hb2.cell HG.out).trans e0;have z1:=(hb2.cell HG.out).trans e1;have z2:=(hb2.cell HG.out).trans e2;clear hb2 x0 x1 x2 x3 x4 x5 e0 e1 e2 y0 y1 y2 y3))
  refine wp_region_lit_plan [] [(0,0),(1,0),(5,0),(2,1),(3,0),(4,1),(6,1),(7,4),(8,0),(9,0)] (fun _=>False) zyVB zyVB (fun c a d v w h=>zx0I) ?_
  go_wp2_with (first
   | (refine stp ?_)
   | (go_at_call 171;refine (HSP.out _).mono ?_;clear HSP;rintro e w3 ⟨rfl,hb3⟩;have HB3:=Lib.hid (HB2.out.drew.trans (hb3.mono HB2.out.size));clear hb3))
  exact bodyPost_ret (v:=.tuple #[.int .i64 z,.int .i64 0]) (by simp [results,Tryz.results151,go_sem]) rfl ⟨rfl,HB3.out⟩
 ·rw [if_neg h0]
  have hc0:(c != 0)=true:=bne_iff_ne.2 h0
  clear hc h0
  go_enter Tryz.func151,Tryz.ntmps151
  go_wp2_with (first
   | (go_at_call 126;refine (HCK.out _ HALW.out).mono ?_;clear HCK;rintro e w2 ⟨rfl,hb2⟩;have HB2:=Lib.hid (HALW.out.trans (hb2.mono HALW.out.size));clear hb2))
  exact bodyPost_ret (v:=.tuple #[.int .i64 0,.int .i64 c]) (by simp [results,Tryz.results151,go_sem]) rfl ⟨rfl,HB2.out⟩
theorem elemCol:Elem Tryz.prog 22 110 2 24 (.agg #[.string ⟨#[]⟩,.int .i64 0]) :=
 ⟨Tryz.underlying22,zyVB,rfl,zTbe,zk9O⟩
theorem elemIdx:Elem Tryz.prog 23 108 2 32 (.agg #[.slice none 0 0,.bool false]) :=
 ⟨Tryz.underlying23,zyVB,rfl,zTbe,zk9O⟩
@[go_sem] theorem eqlNilCol (w:World) (a:Option Addr) (n c:Nat):(binOp .eql 22 (.slice a n c) (.slice none 0 0)).run Tryz.prog w=.ok (.bool a.isNone) w:=Lib.run_eql_slice_nil w _ _ a n c 0 0 Tryz.underlying22
theorem clone_col (w:World) (B:Nat→Prop) (v:Value) (n:Nat) (cs:List Value) (h:Sl w B 2 v n cs) (hn:n≤1000000000) :
 Calls Tryz.prog 100 #[v] w fun e w'=>∃ v',e=.returned v'∧Own w' 110 2 v' n cs∧Below w.heap.size w w'∧(∀ k,v'.ownBlock=some k→w.heap.size≤k):=by
 obtain ⟨p,cap,rfl,_,_⟩:=h.form
 cases p with
 | none =>
  have hn0:n=0:=by
   exact zdw8
  subst hn0
  have hc:=zN9L
  subst hc
  go_enter Tryz.func100,Tryz.ntmps100
  exact zfC3
 | some a =>
  have hs:=h.alloc (.cells #[] 110)
  have ho:Own (w.alloc (.cells #[] 110)) 110 2 (.slice (some ⟨w.heap.size,0,none⟩) 0 0) 0 []:=Own.made w 110 2 [] [] 0 0 rfl Ones.nil (Nat.le_refl _) zdUY zPXO
  clear h
  go_enter Tryz.func100,Tryz.ntmps100
  go_wp2_with (at_builtin;refine wpList_app rfl _ _ rfl elemCol zdhv ho zdhv hs zefz zTbe ?_;intro v' w' h1 h2 h3 _ _)
  exact zP8m
@[go_sem] theorem eqlNilIdx (w:World) (a:Option Addr) (n c:Nat):(binOp .eql 23 (.slice a n c) (.slice none 0 0)).run Tryz.prog w=.ok (.bool a.isNone) w:=Lib.run_eql_slice_nil w _ _ a n c 0 0 Tryz.underlying23
theorem clone_idx (w:World) (B:Nat→Prop) (v:Value) (n:Nat) (cs:List Value) (h:Sl w B 2 v n cs) (hn:n≤1000000000) :
 Calls Tryz.prog 101 #[v] w fun e w'=>∃ v',e=.returned v'∧Own w' 108 2 v' n cs∧Below w.heap.size w w'∧(∀ k,v'.ownBlock=some k→w.heap.size≤k):=by
 obtain ⟨p,cap,rfl,_,_⟩:=h.form
 cases p with
 | none =>
  have hn0:n=0:=by
   exact zdw8
  subst hn0
  have hc:=zN9L
  subst hc
  go_enter Tryz.func101,Tryz.ntmps101
  exact zfC3
 | some a =>
  have hs:=h.alloc (.cells #[] 108)
  have ho:Own (w.alloc (.cells #[] 108)) 108 2 (.slice (some ⟨w.heap.size,0,none⟩) 0 0) 0 []:=Own.made w 108 2 [] [] 0 0 rfl Ones.nil (Nat.le_refl _) zdUY zPXO
  clear h
  go_enter Tryz.func101,Tryz.ntmps101
  go_wp2_with (at_builtin;refine wpList_app rfl _ _ rfl elemIdx zdhv ho zdhv hs zefz zTbe ?_;intro v' w' h1 h2 h3 _ _)
  exact zP8m
@[go_sem] theorem eqlNilInt (w:World) (a:Option Addr) (n c:Nat):(binOp .eql 27 (.slice a n c) (.slice none 0 0)).run Tryz.prog w=.ok (.bool a.isNone) w:=Lib.run_eql_slice_nil w _ _ a n c 0 0 Tryz.underlying27
theorem idxCells_set:∀ (l:List IdxV) (k:Nat) (x:IdxV) (_:k < l.length) (_:x.unique=(l[k]).unique),idxCells (l.set k x)=(idxCells l).set (k*2) x.v
 | [],_,_,h,_=>zhtf
 | y::l,0,x,_,hu=>by
  obtain ⟨xv,xl,xu⟩:=x
  obtain ⟨yv,yl,yu⟩:=y
  simp only [List.getElem_cons_zero] at hu
  subst hu
  rfl
 | y::l,k+1,x,h,hu=>by
  have ih:=idxCells_set l k x zynw (by simpa using hu)
  have e:(k+1)*2=k*2+1+1:=zTbe
  have e2:idxCells (y::l)=y.v::.bool y.unique::idxCells l:=rfl
  have e3:idxCells ((y::l).set (k+1) x)=y.v::.bool y.unique::idxCells (l.set k x):=rfl
  rw [e,e2,e3,ih,List.set_cons_succ,List.set_cons_succ]
theorem list_set_same {α:Type} {l:List α} {k:Nat} {x:α} (h:l[k]?=some x):l.set k x=l:=by
 obtain ⟨hk,rfl⟩:=List.getElem?_eq_some_iff.1 h
 exact List.set_getElem_self hk
theorem set_six {w:World} {b:Nat} {t:TypeId} {a0 a1 a2 a3 a4 a5:Value} (h:Blk w b t [a0,a1,a2,a3,a4,a5]) (v0 v1 v2 v3 v4 v5:Value) :
 Blk ((((((w.setCell ⟨b,0,none⟩ v0).setCell ⟨b,1,none⟩ v1).setCell ⟨b,2,none⟩ v2).setCell ⟨b,3,none⟩ v3).setCell ⟨b,4,none⟩ v4).setCell ⟨b,5,none⟩ v5) b t [v0,v1,v2,v3,v4,v5] ∧
 Only (fun q=>q=b) w ((((((w.setCell ⟨b,0,none⟩ v0).setCell ⟨b,1,none⟩ v1).setCell ⟨b,2,none⟩ v2).setCell ⟨b,3,none⟩ v3).setCell ⟨b,4,none⟩ v4).setCell ⟨b,5,none⟩ v5):=by
 refine ⟨?_,?_⟩
 ·have h1:=(((((h.set 0 v0).set 1 v1).set 2 v2).set 3 v3).set 4 v4).set 5 v5
  simpa only [List.set_cons_zero,List.set_cons_succ] using h1
 ·have step:∀ {u:World} (i:Nat) (v:Value),Only (fun q=>q=b) w u→Only (fun q=>q=b) w (u.setCell ⟨b,i,none⟩ v):=fun i v h=>h.setCell (p:=⟨b,i,none⟩) (fun _=>rfl) v
  exact step 5 v5 (step 4 v4 (step 3 v3 (step 2 v2 (step 1 v1 (step 0 v0 (Only.refl _ w))))))
structure Alike (c s:SchV):Prop where
 name:c.name=s.name
 cols:c.cols=s.cols
 idx:c.idx.map IdxV.l=s.idx.map IdxV.l
 uni:c.idx.map IdxV.unique=s.idx.map IdxV.unique
 limit:c.limit=s.limit
 parts:c.parts=s.parts
 by_:c.by_=s.by_
structure SchOwn (w:World) (n:Nat) (c:SchV):Prop where
 cols:Own w 110 2 c.colsV c.cols.length (colCells c.cols)
 idx:Own w 108 2 c.idxV c.idx.length (idxCells c.idx)
 pl:∀ x∈c.idx,Own w 3 1 x.v x.l.length (ints x.l)
 fc:∀ k,c.colsV.ownBlock=some k→n≤k∧c.idxV.ownBlock≠some k∧∀ x∈c.idx,x.v.ownBlock≠some k
 fi:∀ k,c.idxV.ownBlock=some k→n≤k∧∀ x∈c.idx,x.v.ownBlock≠some k
 fp:∀ x∈c.idx,∀ k,x.v.ownBlock=some k→n≤k
structure CpSt (w:World) (b1:Nat) (s:SchV) (cv iv:Value) (k:Nat) (cur:List IdxV) (wr:World):Prop where
 bel:Below w.heap.size w wr
 b1s:Blk wr b1 25 [.string s.name,cv,iv,.int .i64 s.limit,.int .i64 s.parts,.int .i64 s.by_]
 b2s:Blk wr (b1+1) 25 [.string ⟨#[]⟩,.slice none 0 0,.slice none 0 0,.int .i64 0,.int .i64 0,.int .i64 0]
 cols:Own wr 110 2 cv s.cols.length (colCells s.cols)
 idx:Own wr 108 2 iv cur.length (idxCells cur)
 ls:cur.map IdxV.l=s.idx.map IdxV.l
 us:cur.map IdxV.unique=s.idx.map IdxV.unique
 rest:∀ j,k≤j→cur[j]?=s.idx[j]?
 pl:∀ x∈cur.take k,Own wr 3 1 x.v x.l.length (ints x.l)∧∀ q,x.v.ownBlock=some q→b1+1 < q∧cv.ownBlock≠some q∧iv.ownBlock≠some q
 fc:∀ q,cv.ownBlock=some q→b1+1 < q∧iv.ownBlock≠some q
 fi:∀ q,iv.ownBlock=some q→b1+1 < q
theorem schcopy_any (w:World) (B:Nat→Prop) (s:SchV) (h:SchAt w B s) (hcl:s.cols.length≤1000) (hil:s.idx.length≤1000) (hxl:∀ x∈s.idx,x.l.length≤1000) :
 Calls Tryz.prog 70 #[s.agg] w fun e w'=>∃ c,e=.returned c.agg∧Alike c s∧SchOwn w' w.heap.size c∧Below w.heap.size w w':=by
 obtain ⟨pc,cc,hpc,hcc1,hcc⟩:=h.cols.form
 obtain ⟨pi,ci,hpi,hci1,hci⟩:=h.idx.1.form
 obtain ⟨w1,hw1⟩:∃ w1,w.alloc (.cells #[.string s.name,.slice pc s.cols.length cc,.slice pi s.idx.length ci,.int .i64 s.limit,.int .i64 s.parts,.int .i64 s.by_] 25)=w1:=⟨_,rfl⟩
 obtain ⟨w2,hw2⟩:∃ w2,w1.alloc (.cells #[.string ⟨#[]⟩,.slice none 0 0,.slice none 0 0,.int .i64 0,.int .i64 0,.int .i64 0] 25)=w2:=⟨_,rfl⟩
 have b1:=zppX
 have b2:=zXxX
 have b12:Below w.heap.size w w2:=b1.trans (b2.mono b1.size)
 have s1:=zFlm
 have s2:w2.heap.size=w.heap.size+2:=by rw [←hw2];simp;omega
 have k1:Blk w1 w.heap.size 25 [.string s.name,.slice pc s.cols.length cc,.slice pi s.idx.length ci,.int .i64 s.limit,.int .i64 s.parts,.int .i64 s.by_]:=by rw [←hw1];exact Blk.new w _ _
 have k1b:=k1.below b2
 have k2:Blk w2 (w.heap.size+1) 25 [.string ⟨#[]⟩,.slice none 0 0,.slice none 0 0,.int .i64 0,.int .i64 0,.int .i64 0]:=by rw [←hw2,←s1];exact Blk.new w1 _ _
 have HCC:=Lib.hid (clone_col w2 B (.slice pc s.cols.length cc) s.cols.length (colCells s.cols) ((hpc▸h.cols).below b12) zTbe)
 have HCI:=Lib.hid (fun W (hb:Below w.heap.size w W)=>clone_idx W B (.slice pi s.idx.length ci) s.idx.length (idxCells s.idx) ((hpi▸h.idx.1).below hb) zTbe)
 have HPL:=Lib.hid (fun W (hb:Below w.heap.size w W) x (hx:x∈s.idx)=>clone_int W B x.v x.l.length (ints x.l) ((h.idx.2 x hx).below hb) (by have:=hxl x hx;omega))
 have hga:s.agg=.agg #[.string s.name,.slice pc s.cols.length cc,.slice pi s.idx.length ci,.int .i64 s.limit,.int .i64 s.parts,.int .i64 s.by_]:=by unfold SchV.agg;rw [hpc,hpi]
 rw [hga]
 have HK1:=Lib.hid k1b
 have HK2:=Lib.hid k2
 have HB12:=Lib.hid b12
 have HS2:=Lib.hid s2
 have HS1:=Lib.hid s1
 obtain ⟨x0,x1,x2,x3,x4,x5⟩:=sch_cells k1
 obtain ⟨y0,y1,y2,y3,y4,y5⟩:=sch_cells k1b
 clear b1 b2 b12 s1 s2 k1 k1b k2 hga
 go_enter Tryz.func70,Tryz.ntmps70
 go_wp2_with fail
 clear hw1 hw2 x0 x1 x2 x3 x4 x5 y0 y1 y2 y3 y4 y5
 refine HCC.out.mono ?_
 rintro e w3 ⟨cv,rfl,hoc,hb3,hf3⟩
 obtain ⟨pcv,ccv,rfl,_,_⟩:=own_form hoc
 have hk3:=HK1.out.below hb3
 obtain ⟨w4,hw4⟩:∃ w4,w3.setCell ⟨w.heap.size,1,none⟩ (.slice pcv s.cols.length ccv)=w4:=⟨_,rfl⟩
 have hk4:Blk w4 w.heap.size 25 [.string s.name,.slice pcv s.cols.length ccv,.slice pi s.idx.length ci,.int .i64 s.limit,.int .i64 s.parts,.int .i64 s.by_]:=hw4▸hk3.set 1 _
 have hk42:Blk w4 w1.heap.size 25 [.string ⟨#[]⟩,.slice none 0 0,.slice none 0 0,.int .i64 0,.int .i64 0,.int .i64 0]:=hw4▸(HS1.out▸HK2.out.below hb3).setOther (by rw [HS1.out];simp) _
 have hb4:Below w.heap.size w w4:=hw4▸(HB12.out.trans (hb3.mono HB12.out.size)).setCell zPXO _
 have hf4:∀ q,(Value.slice pcv s.cols.length ccv).ownBlock=some q→w.heap.size+1 < q:=fun q hq=>by have:=hf3 q hq;have:=HS2.out;omega
 have hc4:Own w4 110 2 (.slice pcv s.cols.length ccv) s.cols.length (colCells s.cols):=hw4▸hoc.setOther (fun hq=>by have h:w.heap.size+1 < w.heap.size:=hf4 _ hq;omega) _
 have hz4:w.heap.size+2≤w4.heap.size:=by have:=hb3.size;have:=HS2.out;rw [←hw4];simp;omega
 obtain ⟨z0,z1,z2,z3,z4,z5⟩:=sch_cells hk3
 obtain ⟨y0,y1,y2,y3,y4,y5⟩:=sch_cells hk4
 have HK4:=Lib.hid hk4
 have HK42:=Lib.hid hk42
 have HB4:=Lib.hid hb4
 have HF4:=Lib.hid hf4
 have HC4:=Lib.hid hc4
 have HZ4:=Lib.hid hz4
 have hfr:=hk3.frozen 1
 clear hk3 hk4 hk42 hb4 hf4 hc4 hz4 hoc hb3 hf3 HCC HK1 HK2 HB12 HS2
 go_wp2_with fail
 clear hw4 z0 z1 z2 z3 z4 z5 y0 y1 y2 y3 y4 y5 hfr
 refine (HCI.out _ HB4.out).mono ?_
 rintro e w5 ⟨iv,rfl,hoi,hb5,hf5⟩
 obtain ⟨piv,civ,rfl,hci5,hci6⟩:=own_form hoi
 have hk5:=HK4.out.below hb5
 obtain ⟨w6,hw6⟩:∃ w6,w5.setCell ⟨w.heap.size,2,none⟩ (.slice piv s.idx.length civ)=w6:=⟨_,rfl⟩
 have hk6:Blk w6 w.heap.size 25 [.string s.name,.slice pcv s.cols.length ccv,.slice piv s.idx.length civ,.int .i64 s.limit,.int .i64 s.parts,.int .i64 s.by_]:=hw6▸hk5.set 2 _
 have hk62:Blk w6 (w.heap.size+1) 25 [.string ⟨#[]⟩,.slice none 0 0,.slice none 0 0,.int .i64 0,.int .i64 0,.int .i64 0]:=hw6▸(HS1.out▸HK42.out.below hb5).setOther zPXO _
 have hb6:Below w.heap.size w w6:=hw6▸(HB4.out.trans (hb5.mono HB4.out.size)).setCell zPXO _
 have hf6:∀ q,(Value.slice piv s.idx.length civ).ownBlock=some q→w.heap.size+1 < q:=fun q hq=>by have:=hf5 q hq;have:=HZ4.out;omega
 have hc6:Own w6 110 2 (.slice pcv s.cols.length ccv) s.cols.length (colCells s.cols):=hw6▸(HC4.out.below hb5).setOther (fun hq=>by have h:w.heap.size+1 < w.heap.size:=HF4.out _ hq;omega) _
 have hi6:Own w6 108 2 (.slice piv s.idx.length civ) s.idx.length (idxCells s.idx):=hw6▸hoi.setOther (fun hq=>by have h:w.heap.size+1 < w.heap.size:=hf6 _ hq;omega) _
 have hst:CpSt w w.heap.size s (.slice pcv s.cols.length ccv) (.slice piv s.idx.length civ) 0 s.idx w6:=by
  refine ⟨hb6,hk6,hk62,hc6,hi6,rfl,rfl,fun _ _=>rfl,zPXO,fun q hq=>⟨HF4.out q hq,fun hi=>?_⟩,hf6⟩
  have h1:=hf5 q hi
  have h2:=HC4.out.lt q hq
  omega
 obtain ⟨z0,z1,z2,z3,z4,z5⟩:=sch_cells hk5
 obtain ⟨y0,y1,y2,y3,y4,y5⟩:=sch_cells hk6
 have HST:=Lib.hid hst
 have hfr:=hk5.frozen 2
 clear hk5 hk6 hk62 hb6 hf6 hc6 hi6 hst hoi hb5 hf5 HCI HK4 HK42 HB4 HF4 HC4 HZ4
 go_wp2_with fail
 clear hw6 z0 z1 z2 z3 z4 z5 y0 y1 y2 y3 y4 y5 hfr
 go_loopw [16] (fun i wr=>∃ (k:Nat) (cur:List IdxV),i=.int .i64 k∧k≤s.idx.length∧CpSt w w.heap.size s (.slice pcv s.cols.length ccv) (.slice piv s.idx.length civ) k cur wr) (fun i _=>s.idx.length - (intOf i).toNat)
 case atStart=>exact ⟨0,s.idx,rfl,Nat.zero_le _,HST.out⟩
 case round =>
  obtain ⟨k,cur,rfl,hk,hst⟩:=hrel
  have hlen:cur.length=s.idx.length:=by have:=congrArg List.length hst.ls;simpa using this
  have HS:=Lib.hid hst
  clear HST
  by_cases hka:k < s.idx.length
  ·have hkc:k < cur.length:=by omega
   have hidx:=hst.idx.sl (B:=fun _=>True) (fun _ _=>trivial)
   obtain ⟨g,off,cap,hv,hg,e0,e1⟩:=sl_idx hidx hkc
   rw [hlen] at hv
   cases hv
   have hck:cur[k]=s.idx[k]:=by
    have:=hst.rest k (Nat.le_refl _)
    rw [List.getElem?_eq_getElem hkc,List.getElem?_eq_getElem hka] at this
    exact Option.some.inj this
   rw [hck] at e0 e1
   have HCK:=Lib.hid hck
   have hxm:=List.getElem_mem hka
   have hsrc:=h.idx.2 s.idx[k] hxm
   obtain ⟨px,cx,hpx,_,_⟩:=hsrc.form
   have hal:Below wr.heap.size wr (wr.alloc (.cells #[s.idx[k].v,.bool s.idx[k].unique] 108)):=(Below.refl _ _).alloc (Nat.le_refl _) _
   have hkx:Blk (wr.alloc (.cells #[s.idx[k].v,.bool s.idx[k].unique] 108)) wr.heap.size 108 [s.idx[k].v,.bool s.idx[k].unique]:=Blk.new wr _ _
   have HPX:=Lib.hid (HPL.out _ (hst.bel.trans (hal.mono hst.bel.size)).drew s.idx[k] hxm)
   have c0:=hkx.cell 0
   have c1:=hkx.cell 1
   simp only [List.getElem?_cons_zero,List.getElem?_cons_succ] at c0 c1
   have y2:=(hst.b1s.below hal).cell 2
   simp only [List.getElem?_cons_zero,List.getElem?_cons_succ] at y2
   have hb1l:w.heap.size < wr.heap.size:=hst.b1s.lt
   have z2:=hst.b1s.cell 2
   simp only [List.getElem?_cons_zero,List.getElem?_cons_succ] at z2
   have HAL:=Lib.hid hal
   have HU:Hid (s.idx[k].unique=(cur[k]).unique):=by show _=_;rw [hck]
   have HLL:Hid (s.idx[k].l=(cur[k]).l):=by show _=_;rw [hck]
   have HVV:Hid (s.idx[k].v=(cur[k]).v):=by show _=_;rw [hck]
   have HB1:=Lib.hid hb1l
   have hgl:g≠w.heap.size∧g≠wr.heap.size∧g < wr.heap.size:=⟨fun e=>by have:=hst.fi g rfl;omega,zTbe,hg⟩
   have HGL:=Lib.hid hgl
   generalize s.idx[k]=x at *
   obtain ⟨xv,xl,xu⟩:=x
   simp only at hpx hal hkx HPX c0 c1 e0 e1 HAL HU HLL HVV
   subst hpx
   have hag:Hid (∀ W',Below (wr.alloc (.cells #[.slice px xl.length cx,.bool xu] 108)).heap.size (wr.alloc (.cells #[.slice px xl.length cx,.bool xu] 108)).drew W'→Agree (fun q=>q=w.heap.size∨q=wr.heap.size) (wr.alloc (.cells #[.slice px xl.length cx,.bool xu] 108)).drew W'):=fun W' h2 q o hq=>by
    rcases hq with rfl|rfl
    ·exact h2.cell (by show w.heap.size < _;simp;omega)
    ·exact h2.cell (by show wr.heap.size < _;simp)
   clear hst hidx hck hxm hsrc hal hkx hg hb1l hgl
   go_wp2_with fail
   refine wp_region_lit_plan [] [(0,0),(2,0),(3,0),(1,2),(4,1),(5,3),(6,0),(7,0),(8,4)] (fun q=>q=w.heap.size∨q=wr.heap.size) zyVB zyVB (fun c a d v w h=>zx0I) ?_
   go_wp2_with (first
    | (refine stp ?_))
   refine HPX.out.mono ?_
   clear HPX
   rintro e w7 ⟨v7,rfl,ho7,hb7,hf7⟩
   have hag7:=hag.out _ hb7
   obtain ⟨p7,c7,rfl,_,_⟩:=own_form ho7
   have hidx7:=((HS.out.idx.below HAL.out).drew.below hb7)
   rw [hlen] at hidx7
   obtain ⟨q0,q1⟩:=hidx7.cellAt (j:=k*2) zTbe
   have q2:(idxCells cur)[k*2]?=some (.slice px xl.length cx):=by
    have h:=cells2_at IdxV.cells (fun _=>rfl) cur k 0 hkc zTbe
    rw [HVV.out]
    exact h
   rw [q2] at q0
   have HO7:=Lib.hid ho7
   have HB7:=Lib.hid hb7
   have HF7:=Lib.hid hf7
   clear ho7 hb7 hf7 hidx7
   go_wp2_with (first
    | (refine stp ?_))
   have hst:=HS.out
   have hg1:(Value.slice (some ⟨g,off,none⟩) s.idx.length civ).ownBlock=some g:=rfl
   have hgb:=hst.fi g hg1
   have h17:Below wr.heap.size wr w7:=HAL.out.drew.trans (HB7.out.mono HAL.out.size)
   have hcg:(Value.slice pcv s.cols.length ccv).ownBlock≠some g:=fun hq=>(hst.fc g hq).2 hg1
   have hsz:wr.heap.size < w7.heap.size:=by have h1:=HB7.out.size;have:(wr.alloc (.cells #[Value.slice px xl.length cx,Value.bool xu] 108)).drew.heap.size=wr.heap.size+1:=by simp
                                            omega
   have hfr:∀ q,(Value.slice p7 xl.length c7).ownBlock=some q→wr.heap.size < q:=fun q hq=>by
    have h1:=HF7.out q hq
    have:(wr.alloc (.cells #[Value.slice px xl.length cx,Value.bool xu] 108)).drew.heap.size=wr.heap.size+1:=zPXO
    omega
   refine ⟨⟨k+1,cur.set k ⟨.slice p7 xl.length c7,xl,xu⟩,z3KH,zTbe,?_⟩,zQOc⟩
   refine ⟨(hst.bel.trans (h17.mono hst.bel.size)).setCell zr2F _,(hst.b1s.below h17).setOther zr2F _,(hst.b2s.below h17).setOther zr2F _,(hst.cols.below h17).setOther hcg _,?_,?_,?_,?_,?_,hst.fc,hst.fi⟩
   ·have hi7:=hst.idx.below h17
    have h3:cur.length=s.idx.length:=hlen
    rw [h3] at hi7
    have h2:=hi7.store (j:=k*2) (.slice p7 xl.length c7) rfl
    rw [List.length_set,h3,idxCells_set cur k _ hkc HU.out]
    exact h2
   ·rw [List.map_set,←hst.ls]
    exact list_set_same (by simp [HLL.out,hkc])
   ·rw [List.map_set,←hst.us]
    exact list_set_same (by simp [HU.out,hkc])
   ·intro j hj
    rw [List.getElem?_set_ne zTbe]
    exact hst.rest j zTbe
   ·intro y hy
    rw [List.take_set,←List.take_append_getElem hkc,List.set_append_right _ _ z2Pg] at hy
    have hn0:k - (cur.take k).length=0:=z2Pg
    rw [hn0] at hy
    rcases List.mem_append.1 hy with hy|hy
    ·obtain ⟨ha,hb⟩:=hst.pl y hy
     exact ⟨(ha.below h17).setOther (fun hq=>(hb g hq).2.2 hg1) _,hb⟩
    ·have hy2:y=⟨.slice p7 xl.length c7,xl,xu⟩:=by simpa using hy
     subst hy2
     refine ⟨HO7.out.setOther (fun hq=>by have:=hfr g hq;have:=HGL.out.2.2;omega) _,fun q hq=>⟨?_,fun hc=>?_,fun hi=>?_⟩⟩
     ·have:=hfr q hq;have:=hst.b2s.lt;omega
     ·have:=hfr q hq;have:=hst.cols.lt q hc;omega
     ·have:=hfr q hq;have:=hst.idx.lt q hi;omega
  ·obtain rfl:k=s.idx.length:=by omega
   obtain ⟨y0,y1,y2,y3,y4,y5⟩:=sch_cells hst.b1s
   have hb2:=hst.b2s
   rw [←HS1.out] at hb2
   obtain ⟨z0,z1,z2,z3,z4,z5⟩:=sch_cells hb2
   have f0:=hb2.frozen 0
   have f1:=hb2.frozen 1
   have f2:=hb2.frozen 2
   have f3:=hb2.frozen 3
   have f4:=hb2.frozen 4
   have f5:=hb2.frozen 5
   clear hst hb2
   go_wp2
   have hst:=HS.out
   have hb2:=hst.b2s
   rw [←HS1.out] at hb2
   obtain ⟨hk,hon⟩:=set_six hb2 (.string s.name) (.slice pcv s.cols.length ccv) (.slice piv s.idx.length civ) (.int .i64 s.limit) (.int .i64 s.parts) (.int .i64 s.by_)
   generalize ((((((wr.setCell ⟨w1.heap.size,0,none⟩ (.string s.name)).setCell ⟨w1.heap.size,1,none⟩ (.slice pcv s.cols.length ccv)).setCell ⟨w1.heap.size,2,none⟩ (.slice piv s.idx.length civ)).setCell ⟨w1.heap.size,3,none⟩ (.int .i64 s.limit)).setCell ⟨w1.heap.size,4,none⟩ (.int .i64 s.parts)).setCell ⟨w1.heap.size,5,none⟩ (.int .i64 s.by_))=wE at *
   obtain ⟨m0,m1,m2,m3,m4,m5⟩:=sch_cells hk
   have h1:w1.heap.size=w.heap.size+1:=HS1.out
   have hcn:∀ q,(Value.slice pcv s.cols.length ccv).ownBlock=some q→¬ q=w1.heap.size:=fun q hq=>by have:=(hst.fc q hq).1;omega
   have hin:∀ q,(Value.slice piv s.idx.length civ).ownBlock=some q→¬ q=w1.heap.size:=fun q hq=>by have:=hst.fi q hq;omega
   have hpn:∀ x∈cur,Own wr 3 1 x.v x.l.length (ints x.l)∧∀ q,x.v.ownBlock=some q→w.heap.size+1 < q∧(Value.slice pcv s.cols.length ccv).ownBlock≠some q∧(Value.slice piv s.idx.length civ).ownBlock≠some q:=fun x hx=>hst.pl x (by rw [List.take_of_length_le zTbe];exact hx)
   have hfin:SchOwn wE w.heap.size ⟨s.name,.slice pcv s.cols.length ccv,s.cols,.slice piv s.idx.length civ,cur,s.limit,s.parts,s.by_⟩:=by
    refine ⟨hst.cols.only hon hcn,hst.idx.only hon hin,fun x hx=>(hpn x hx).1.only hon (fun q hq=>by have:=((hpn x hx).2 q hq).1;omega),fun q hq=>⟨by have:=(hst.fc q hq).1;omega,(hst.fc q hq).2,fun x hx hq2=>((hpn x hx).2 q hq2).2.1 hq⟩,fun q hq=>⟨by have:=hst.fi q hq;omega,fun x hx hq2=>((hpn x hx).2 q hq2).2.2 hq⟩,fun x hx q hq=>by have:=((hpn x hx).2 q hq).1;omega⟩
   have hbel:Below w.heap.size w wE:=hst.bel.trans (hon.below hst.bel.size (fun q hq=>zTbe))
   exact bodyPost_ret (v:=.agg #[.string s.name,.slice pcv s.cols.length ccv,.slice piv s.idx.length civ,.int .i64 s.limit,.int .i64 s.parts,.int .i64 s.by_]) (by simp [results,Tryz.results70,go_sem,m0,m1,m2,m3,m4,m5]) rfl ⟨⟨s.name,.slice pcv s.cols.length ccv,s.cols,.slice piv s.idx.length civ,cur,s.limit,s.parts,s.by_⟩,rfl,⟨rfl,rfl,hst.ls,hst.us,rfl,rfl,rfl⟩,hfin,hbel⟩
theorem elemValTb:Elem Tryz.prog 37 113 3 32 (.agg #[.int .i64 0,.int .i64 0,.string ⟨#[]⟩]) :=
 ⟨Tryz.underlying37,zyVB,rfl,zTbe,zAV0⟩
@[go_sem] theorem eqlNilValTb (w:World) (a:Option Addr) (n c:Nat):(binOp .eql 37 (.slice a n c) (.slice none 0 0)).run Tryz.prog w=.ok (.bool a.isNone) w:=Lib.run_eql_slice_nil w _ _ a n c 0 0 Tryz.underlying37
theorem clone_tb (w:World) (B:Nat→Prop) (v:Value) (n:Nat) (cs:List Value) (h:Sl w B 3 v n cs) (hn:n≤1000000000) :
 Calls Tryz.prog 68 #[v] w fun e w'=>∃ v',e=.returned v'∧Own w' 113 3 v' n cs∧Below w.heap.size w w'∧(∀ k,v'.ownBlock=some k→w.heap.size≤k):=by
 obtain ⟨p,cap,rfl,_,_⟩:=h.form
 cases p with
 | none =>
  have hn0:n=0:=by
   exact zdw8
  subst hn0
  have hc:=zN9L
  subst hc
  go_enter Tryz.func68,Tryz.ntmps68
  exact zfC3
 | some a =>
  have hs:=h.alloc (.cells #[] 113)
  have ho:Own (w.alloc (.cells #[] 113)) 113 3 (.slice (some ⟨w.heap.size,0,none⟩) 0 0) 0 []:=Own.made w 113 3 [] [] 0 0 rfl Ones.nil (Nat.le_refl _) zdUY zPXO
  clear h
  go_enter Tryz.func68,Tryz.ntmps68
  go_wp2_with (at_builtin;refine wpList_app rfl _ _ rfl elemValTb zdhv ho zdhv hs zefz zTbe ?_;intro v' w' h1 h2 h3 _ _)
  exact zP8m
theorem chk_no (s:SchV) (i:Int) (row:List AV) (h:rightS s=false):chkS s i row=1:=by
 unfold chkS;rw [if_pos (.inl h)]
theorem chk_out (s:SchV) (i:Int) (row:List AV) (h:(decide (0≤i) && decide (i < (s.idx.length:Int)))=false):chkS s i row=1:=by
 unfold chkS
 refine if_pos (.inr ?_)
 rw [Bool.and_eq_false_iff,decide_eq_false_iff_not,decide_eq_false_iff_not] at *
 omega
theorem chk_unfit (s:SchV) (i:Int) (row:List AV) (hr:rightS s=true) (hi:(decide (0≤i) && decide (i < (s.idx.length:Int)))=true) (hf:fitB s.cols row=false):chkS s i row=13:=by
 unfold chkS
 rw [if_neg,if_pos hf]
 exact zKlB
theorem chk_ok (s:SchV) (i:Int) (row:List AV) (hr:rightS s=true) (hi:(decide (0≤i) && decide (i < (s.idx.length:Int)))=true) (hf:fitB s.cols row=true):chkS s i row=0:=by
 unfold chkS
 rw [if_neg,if_neg (by rw [hf];simp)]
 exact zKlB
theorem keyO_no {s:SchV} {i:Int} {row:List AV} (h:chkS s i row≠0):bs (keyO s i row)=⟨#[]⟩:=by unfold keyO;rw [if_neg h];rfl
theorem keysO_no {s:SchV} {row:List AV} (h:chkS s 0 row≠0):keysO s row=[]:=by unfold keysO;rw [if_neg h]
theorem partO_no {s:SchV} {row:List AV} (h:chkS s 0 row≠0):partO s row=0:=by unfold partO;rw [if_neg h]
theorem rightS_in {s:SchV} (h:rightS s=true) (row:List AV) (hl:row.length=s.cols.length):∀ x∈s.idx,x.l.all (inR row)=true:=by
 rw [rightS_front] at h
 simp only [Bool.and_eq_true,List.all_eq_true] at h
 intro x hx
 have h2:=h.2.1 x hx
 unfold placesB at h2
 simp only [Bool.and_eq_true,List.all_eq_true] at h2 ⊢
 intro c hc
 have h3:=h2.1 c hc
 unfold placeOk at h3
 unfold inR
 rw [hl]
 exact h3
def exRow:List AV:=[⟨1,1,⟨#[]⟩⟩,⟨2,0,⟨#[120]⟩⟩]
def exS (a b c d:Value):SchV:=⟨⟨#[116]⟩,a,[⟨⟨#[97]⟩,1⟩,⟨⟨#[98]⟩,2⟩],b,[⟨c,[0],true⟩,⟨d,[1],false⟩],5,1,0⟩
theorem exS_right (a b c d:Value):rightS (exS a b c d)=true:=zyVB
theorem exS_chk (a b c d:Value):chkS (exS a b c d) 1 exRow=0:=by
 unfold chkS
 rw [exS_right]
 have h1:fitB (exS a b c d).cols exRow=true:=zyVB
 rw [h1]
 rfl
theorem exS_key (a b c d:Value):bs (keyO (exS a b c d) 1 exRow)=⟨#[2,120,0,1,1,128,0,0,0,0,0,0,1]⟩:=by
 unfold keyO
 rw [exS_chk]
 kernel_rfl
end Go.Proofs.YteggkjdlajgenaaGreatDoor
namespace Go.Proofs.YteggkjdlajgenaaGreatDoor
open Go.RowKit Go.Afx
theorem wf_fit64 {n:Int} (h:(Lit.int .i64 n).wf=true):fit64 n:=by
 have h2:-9223372036854775808≤n∧n≤9223372036854775807:=zfqm
 exact h2
theorem ocInt:Tryz.prog.cellsOf 3=1:=zyVB
theorem ocI64:Tryz.prog.cellsOf 2=1:=zyVB
theorem ocStr:Tryz.prog.cellsOf 9=1:=zyVB
theorem ocVal:Tryz.prog.cellsOf 113=3:=zyVB
theorem ocRow:Tryz.prog.cellsOf 37=1:=zyVB
section
variable {H : Type} {enc : TypeId × Value → H} {w : World}
theorem open_ints {v:Value} {d:DataW H} {ps:List MemPlace} (h:DataW.Trod enc Tryz.prog w 0 (fun _=>true) true 27 v d ps) (hv:v.cells.toList=[v]) :
 ∃ l:List Int,Sl w (fun _=>True) 1 v l.length (ints l)∧∀ n∈l,fit64 n:=by
 obtain ⟨fuel,hf⟩:=h
 rw [hv] at hf
 obtain ⟨l,h1,h2⟩:=open_ints_sl Tryz.underlying27 Tryz.underlying3 ocInt hf
 exact ⟨l,h1,fun n hn=>wf_fit64 (h2 n hn)⟩
theorem flat_one {α:Type} (f:α→Value) (l:List α):(l.map fun x=>[f x]).flatten=l.map f:=by
 induction l with
 | nil=>rfl
 | cons a l ih=>simp [ih]
def AV.read (a:AV):Prop:=fit64 a.kind∧fit64 a.n∧a.s.size≤maxLen
theorem open_av {fuel:Nat} {c:List Value} {y:DataW H × List MemPlace} (hl:c.length=3) (hy:DataW.trod enc Tryz.prog w 0 (fun _=>true) true fuel 113 c=some y):∃ a:AV,c=a.cells∧a.read:=by
 obtain ⟨n,hfs⟩:=open_fields Tryz.underlying113 hy
 obtain ⟨c0,c1,c2,rfl⟩:=list3 hl
 obtain ⟨y0,h0⟩:=hfs 0 _ rfl
 obtain ⟨y1,h1⟩:=hfs 1 _ rfl
 obtain ⟨y2,h2⟩:=hfs 2 _ rfl
 simp only [ocInt,ocI64,ocStr,List.drop_zero,List.drop_succ_cons,List.take_succ_cons,List.take_zero] at h0 h1 h2
 obtain ⟨k,e0,_,w0⟩:=DataW.trod_int Tryz.underlying3 h0
 obtain ⟨m,e1,_,w1⟩:=DataW.trod_int Tryz.underlying2 h1
 obtain ⟨s,e2,_,w2⟩:=DataW.trod_string Tryz.underlying9 h2
 simp only [List.cons.injEq,and_true] at e0 e1 e2
 subst e0 e1 e2
 exact ⟨⟨k,m,s⟩,rfl,wf_fit64 w0,wf_fit64 w1,w2⟩
theorem av_ones (a:AV):Ones a.cells:=by
 intro u hu
 simp [AV.cells] at hu
 rcases hu with rfl|rfl|rfl<;>rfl
theorem open_row_at {fuel:Nat} {v:Value} {y:DataW H × List MemPlace} (hf:DataW.trod enc Tryz.prog w 0 (fun _=>true) true fuel 37 [v]=some y):∃ l:List AV,Sl w (fun _=>True) 3 v l.length (rowCells l)∧∀ a∈l,a.read:=by
 obtain ⟨es,h1,h2⟩:=open_sl Tryz.underlying37 ocVal zTbe hf (fun c=>∃ a:AV,c=a.cells∧a.read) (fun c ⟨a,hc,_⟩=>by subst hc;exact av_ones a) (fun f c y hl hy=>open_av hl hy)
 exact z5eP
theorem open_row {v:Value} {d:DataW H} {ps:List MemPlace} (h:DataW.Trod enc Tryz.prog w 0 (fun _=>true) true 37 v d ps) (hv:v.cells.toList=[v]) :
 ∃ l:List AV,Sl w (fun _=>True) 3 v l.length (rowCells l)∧∀ a∈l,a.read:=by
 obtain ⟨fuel,hf⟩:=h
 rw [hv] at hf
 exact open_row_at hf
theorem sl_one {w:World} {B:Nat→Prop} {sz:Nat} {v:Value} {n:Nat} {cs:List Value} (h:Sl w B sz v n cs):v.oneCell'=true:=by
 obtain ⟨p,cap,rfl,_⟩:=h.form
 rfl
theorem open_rows_at {fuel:Nat} {v:Value} {y:DataW H × List MemPlace} (hf:DataW.trod enc Tryz.prog w 0 (fun _=>true) true fuel 32 [v]=some y):∃ rows:List RowV,RowsAt w (fun _=>True) v rows∧∀ r∈rows,∀ a∈r.l,a.read:=by
 obtain ⟨es,h1,h2⟩:=open_sl Tryz.underlying32 ocRow zTbe hf (fun c=>∃ r:RowV,c=[r.v]∧Sl w (fun _=>True) 3 r.v r.l.length (rowCells r.l)∧∀ a∈r.l,a.read) (fun c ⟨r,hc,hr,_⟩=>by subst hc;exact Ones.nil.cons (sl_one hr))
  (fun f c y hl hy=>by
   obtain ⟨u,rfl⟩:=list1 hl
   obtain ⟨l,h3,h4⟩:=open_row_at hy
   exact ⟨⟨u,l⟩,rfl,h3,h4⟩)
 obtain ⟨rows,rfl,h4⟩:=choose_list (f:=fun r:RowV=>[r.v]) es (fun c hcm=>(h1 c hcm).2)
 rw [flat_one,List.length_map] at h2
 exact ⟨rows,⟨h2,fun r hr=>(h4 r hr).1⟩,fun r hr=>(h4 r hr).2⟩
theorem open_rows {v:Value} {d:DataW H} {ps:List MemPlace} (h:DataW.Trod enc Tryz.prog w 0 (fun _=>true) true 32 v d ps) (hv:v.cells.toList=[v]) :
 ∃ rows:List RowV,RowsAt w (fun _=>True) v rows∧∀ r∈rows,∀ a∈r.l,a.read:=by
 obtain ⟨fuel,hf⟩:=h
 rw [hv] at hf
 exact open_rows_at hf
end
end Go.Proofs.YteggkjdlajgenaaGreatDoor
