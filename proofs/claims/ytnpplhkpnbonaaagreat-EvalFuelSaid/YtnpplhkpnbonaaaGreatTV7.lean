/- Contracts of the functions that the statement reaches, one behind the other. No condition beyond each theorem's own. -/
import Derived.Test.YtnpplhkpnbonaaaGreatTV6
set_option linter.unusedSimpArgs false
set_option linter.unusedVariables false
set_option maxRecDepth 100000
set_option maxHeartbeats 4000000
namespace Go.Proofs.YtnpplhkpnbonaaaGreat
open Go.RowKit Go.Afx
theorem refparse_any (w:World) (s:ByteArray) (l:List UInt8) (hs:s.data.toList=l) (hl:l.length≤1000) :
 Calls Tryz.prog 31 #[.string s] w fun e w'=>e=.returned (.tuple #[.int .i64 (prsN l),.int .i64 (prsE l)])∧Below w.heap.size w w':=by
 cases l with
 | nil =>
  obtain rfl:=nil_list s hs
  have e1:prsN []=0:=by rfl
  have e2:prsE []=12:=by rfl
  rw [e1,e2]
  clear hs
  have hsz:(ByteArray.empty.size:Int)=0:=rfl
  go_enter Tryz.func31,Tryz.ntmps31
  have hb0:Below w.heap.size w (w.alloc (.cells #[.bool false,.slice none 0 0] 102)):=(Below.refl _ _).alloc (Nat.le_refl _) _
  go_wp2
  generalize (w.alloc (.cells #[.bool false,.slice none 0 0] 102))=w1 at *
  go_loopw [6] (fun i wr=>i=.int .i64 (-1)∧Below w.heap.size w wr) (fun _ _=>0)
  case atStart=>exact ⟨rfl,hb0⟩
  case round =>
   obtain ⟨rfl,hb⟩:=hrel
   go_wp2
   go_ret2
   exact ⟨rfl,hb⟩
 | cons c t =>
 generalize hpn:prsN (c::t)=pn
 generalize hpe:prsE (c::t)=pe
 have hsz0:=size_list s _ hs
 have h0:0 < s.size:=by rw [hsz0];simp
 have h0i:(0:Int) < s.size:=by omega
 have hc:((s[0]'h0).toNat:Int)=(c.toNat:Int):=byte_at s _ hs 0 h0 (by simp)
 by_cases h45:c=45
 ·subst h45
  have hc2:((s[0]'h0).toNat:Int)=45:=hc
  have HPN:Hid (numN true t=pn):=hpn
  have HPE:Hid (numE true t=pe):=hpe
  have HRB:Hid (∀ (i:Nat) (hi:i < t.length) (h:1+i < s.size),((s[1+i]'h).toNat:Int)=(t[i].toNat:Int)):=fun i hi h=>by
   have:=byte_at s _ hs (1+i) h (by rw [List.length_cons];omega)
   rw [this]
   congr 2
   have:∀ (j:Nat) (hj:j < ((45:UInt8)::t).length),j=i+1→((45:UInt8)::t)[j]=t[i]:=fun j hj e=>by subst e;rfl
   exact this _ _ (by omega)
  have hl2:t.length≤1000:=by rw [List.length_cons] at hl;omega
  rw [List.length_cons] at hsz0
  clear hc hpn hpe hs hl
  generalize t=r at *
  have hssz:s.size=r.length+1:=by rw [hsz0]
  clear hsz0
  have HK0:Hid (Blk (w.alloc (.cells #[.bool false,.slice none 0 0] 102)) w.heap.size 102 [.bool false,.slice none 0 0]):=Blk.new w _ _
  have HB0:Hid (Below w.heap.size w (w.alloc (.cells #[.bool false,.slice none 0 0] 102))):=(Below.refl _ _).alloc (Nat.le_refl _) _
  have HSZ0:Hid (w.heap.size < (w.alloc (.cells #[.bool false,.slice none 0 0] 102)).heap.size):=by show _ < _;simp
  have hszi:(s.size:Int) - 1=(1:Int)+r.length - 1:=by omega
  go_enter Tryz.func31,Tryz.ntmps31
  go_wp2
  generalize (w.alloc (.cells #[.bool false,.slice none 0 0] 102))=w1 at *
  clear hc2
  go_loopw [6] (fun i wr=>∃ (j:Nat) (dv:Value),i=.int .i64 ((1:Int)+j - 1)∧j≤r.length∧(∀ c∈r.drop j,dig c)∧Blk wr w.heap.size 102 [.bool false,dv]∧Own wr 3 1 dv (lows (r.drop j)).length (nats (lows (r.drop j)))∧(∀ q,dv.ownBlock=some q→w.heap.size < q)∧Below w.heap.size w wr∧w.heap.size < wr.heap.size) (fun i _=>(intOf i+1).toNat)
  case atStart =>
   refine ⟨r.length,.slice none 0 0,?_,Nat.le_refl _,by rw [List.drop_length];simp,HK0.out,?_,by simp [Value.ownBlock],HB0.out,HSZ0.out⟩
   ·first|rfl|rw [hszi]|(congr 1;omega)
   ·rw [List.drop_length];exact Own.nil _ _ _
  case round =>
   obtain ⟨j,dv,h6,hj,hdg,hk,how,hfr,hbw,hsz⟩:=hrel
   obtain ⟨p4,c4,rfl,hc41,hc42⟩:=own_form1 how
   have HDG:=Lib.hid hdg
   have HK:=Lib.hid hk
   have HW:=Lib.hid how
   have HF:=Lib.hid hfr
   have HBW:=Lib.hid hbw
   have k1:wr.cell? ⟨w.heap.size,1,none⟩=some (.slice p4 (lows (r.drop j)).length c4):=hk.cell 1
   have hf:∀ i,wr.frozen? ⟨w.heap.size,i,none⟩=false:=hk.frozen
   clear hdg hk how hfr hbw
   rcases Nat.eq_zero_or_pos j with hj0|hpos
   ·subst hj0
    have e6:(1:Int)+((0:Nat):Int) - 1=1 - 1:=by omega
    rw [e6] at h6
    subst h6
    have hrl:r.length≤1000:=by omega
    rw [List.drop_zero] at k1
    have hll:(lows r).length=r.length:=by simp [lows]
    rw [hll] at k1
    have HDG0:Hid (∀ c∈r,dig c):=by have:=HDG.out;rwa [List.drop_zero] at this
    have HSL:Hid (Sl wr (fun k=>w.heap.size < k) 1 (.slice p4 r.length c4) (lows r).length (nats (lows r))):=by
     have h1:=HW.out.sl (B:=fun k=>w.heap.size < k) HF.out
     rw [List.drop_zero] at h1
     rw [←hll];exact h1
    clear e6 hll HDG HW HF hf
    cases hok:headOk true r with
    | false =>
     have hbad:¬ right true r:=fun h=>by have:=h.1;rw [hok] at this;exact absurd this (by decide)
     have e1:numN true r=0:=by unfold numN;rw [if_neg hbad]
     have e2:numE true r=12:=by unfold numE;rw [if_neg hbad]
     rw [e1] at HPN
     rw [e2] at HPE
     obtain rfl:=HPN.out
     obtain rfl:=HPE.out
     clear HPN HPE hbad e1 e2
     cases r with
     | nil =>
      have hs0:(s.size:Int)=1:=by rw [hssz];rfl
      clear hssz hszi HRB HSL HDG0
      go_wp2
      go_ret2
      exact ⟨rfl,HBW.out⟩
     | cons c t =>
      obtain ⟨h48,hb⟩:=headOk_not hok
      have hfs:1 < s.size:=by rw [hssz,List.length_cons];omega
      have hcs:((s[1]'hfs).toNat:Int)=48:=by
       rw [←h48]
       exact HRB.out 0 (by simp) hfs
      have hs1:(1:Int) < s.size:=by
       rw [hssz,List.length_cons]
       omega
      have hs2:((s.size:Int) == 1)=false:=by rw [beq_eq_false_iff_ne];omega
      clear hssz hszi HRB HSL HDG0 hb
      go_wp2
      go_ret2
      exact ⟨rfl,HBW.out⟩
    | true =>
     have hr:right true r:=⟨hok,HDG0.out⟩
     have e1:pn=shortN (sgn true (valN r)):=by rw [←HPN.out];unfold numN;rw [if_pos hr]
     have e2:pe=shortE (sgn true (valN r)):=by rw [←HPE.out];unfold numE;rw [if_pos hr]
     have HSG:Hid (Calls Tryz.prog 54 #[.bool true,.slice p4 r.length c4] wr fun e w'=>∃ v',e=.returned v'∧IsNum w' (fun k=>w.heap.size < k) v' (sgn true (valN r))∧Below wr.heap.size wr w'):=by
      have h1:=sign_any wr _ true _ (lows r) (lows_D10 r HDG0.out) HSL.out (by simp [lows];omega)
      rwa [vd_lows] at h1
     have hlz:Hid ((ld (sgn true (valN r):Int).natAbs).length≤10000):=by
      have h1:=vd_lt (lows r) (lows_D10 r HDG0.out)
      rw [vd_lows] at h1
      have h2:=ld_len_le _ _ h1
      have h3:(lows r).length=r.length:=by simp [lows]
      have h4:(sgn true (valN r):Int).natAbs=valN r:=by unfold sgn;simp
      show _≤_
      rw [h4];omega
     cases r with
     | nil=>exact absurd hok (by decide)
     | cons c t =>
      have hfs:1 < s.size:=by rw [hssz,List.length_cons];omega
      have hcs:((s[1]'hfs).toNat:Int)=(c.toNat:Int):=HRB.out 0 (by simp) hfs
      have hhd:=headOk_cons hok
      have hs2:((s.size:Int) == 1)=false:=by rw [beq_eq_false_iff_ne,hssz,List.length_cons];omega
      have hs3:t=[]→(s.size:Int)=1+1:=fun h=>by subst h;rw [hssz];simp
      clear HPN HPE hr hok HRB HSL HDG0 hssz hszi
      generalize (sgn true (valN (c::t)):Int)=z at *
      generalize (c::t).length=rl at *
      rcases hhd with hhd|⟨hng,hhd,ht⟩
      ·by_cases hfz:fits z
       ·have DFZ:Hid (decide (fits z)=true):=decide_eq_true hfz
        have e3:shortE z=0:=by unfold shortE;rw [if_pos hfz]
        rw [e3] at e2
        subst e2
        have SNZ:Hid (shortN z=pn):=e1.symm
        clear e1 e3 hfz
        go_wp2_with (first
         | (go_at_call 54;refine HSG.out.mono ?_;rintro e w5 ⟨v5,rfl,hn5,hb5⟩;obtain ⟨s5,p5,l5,c5,rfl⟩:=hn5.parts;have HN5:=Lib.hid hn5;have HB5:=Lib.hid (HBW.out.trans (hb5.mono HBW.out.size));clear hn5 hb5)
         | (go_at_call 53;refine (small_num w5 _ z (HN5.out.weak fun _ _=>trivial) hlz.out).mono ?_;rw [DFZ.out,SNZ.out];rintro e w6 ⟨rfl,hb6⟩))
        go_ret2
        exact ⟨rfl,HB5.out.trans (hb6.mono HB5.out.size)⟩
       ·have DFZ:Hid (decide (fits z)=false):=decide_eq_false hfz
        have e3:shortE z=2:=by unfold shortE;rw [if_neg hfz]
        have e4:shortN z=0:=by unfold shortN;rw [if_neg hfz]
        rw [e3] at e2
        subst e2
        rw [e4] at e1
        subst e1
        have SNZ:Hid (shortN z=0):=e4
        clear e3 e4 hfz
        go_wp2_with (first
         | (go_at_call 54;refine HSG.out.mono ?_;rintro e w5 ⟨v5,rfl,hn5,hb5⟩;obtain ⟨s5,p5,l5,c5,rfl⟩:=hn5.parts;have HN5:=Lib.hid hn5;have HB5:=Lib.hid (HBW.out.trans (hb5.mono HBW.out.size));clear hn5 hb5)
         | (go_at_call 53;refine (small_num w5 _ z (HN5.out.weak fun _ _=>trivial) hlz.out).mono ?_;rw [DFZ.out,SNZ.out];rintro e w6 ⟨rfl,hb6⟩))
        go_ret2
        exact ⟨rfl,HB5.out.trans (hb6.mono HB5.out.size)⟩
      ·exact absurd hng (by decide)
   ·obtain ⟨i,rfl⟩:∃ i,j=i+1:=⟨j - 1,by omega⟩
    have hir:i < r.length:=by omega
    obtain ⟨m,hm⟩:∃ m:Nat,m=1+i:=⟨_,rfl⟩
    have hmi:(1:Int)+((i+1:Nat):Int) - 1=m:=by omega
    rw [hmi] at h6
    subst h6
    have hms:m < s.size:=by omega
    have hb:=HRB.out i hir (by omega:1+i < s.size)
    have hbm:((s[m]'hms).toNat:Int)=(r[i].toNat:Int):=by subst hm;rw [Nat.add_comm] at *;simpa [Nat.add_comm] using hb
    have hx256:(r[i].toNat:Int) < 256:=by have:=r[i].toNat_lt;omega
    have hx0:(0:Int)≤(r[i].toNat:Int):=by omega
    have hm0:(1:Int)≤m:=by omega
    have hcd:(dig r[i]∧48≤(r[i].toNat:Int)∧(r[i].toNat:Int)≤57)∨(¬ dig r[i]∧((r[i].toNat:Int) < 48∨48≤(r[i].toNat:Int)∧57 < (r[i].toNat:Int))):=by unfold dig;omega
    have hmem:r[i]∈r:=List.getElem_mem hir
    rcases hcd with ⟨hd1,hd2,hd3⟩|⟨hd1,hd2⟩
    ·have HDN:Hid (∀ c∈r.drop i,dig c):=fun c hc=>by
      rw [List.drop_eq_getElem_cons hir] at hc
      rcases List.mem_cons.1 hc with rfl|hc
      ·exact hd1
      ·exact HDG.out c hc
     have HLW:Hid (lows (r.drop i)=lows (r.drop (i+1))++[r[i].toNat - 48]):=by
      show _=_
      rw [List.drop_eq_getElem_cons hir,lows_cons]
     have hlen:(lows (r.drop (i+1))).length≤1000:=by simp [lows];omega
     obtain ⟨x,hx⟩:∃ x:Nat,x=r[i].toNat - 48:=⟨_,rfl⟩
     have hxi:(r[i].toNat:Int) - 48=x:=by omega
     rw [←hx] at HLW
     have ho1:=HW.out.drew.alloc (.cells #[.int .i64 (x:Int)] 3)
     have hs1:=one_int wr.drew x
     have HMI:=Lib.hid hmi
     clear hb hm hmem hd1 hx hmi
     generalize (r[i].toNat:Int)=b at *
     generalize hld:(lows (r.drop (i+1))).length=ll at *
     have HLD:=Lib.hid hld
     clear hld hir
     have hag0:Agree (fun q=>q=w.heap.size) wr.drew ((wr.alloc (.cells #[.int .i64 (x:Int)] 3)).drew):=agree_alloc (w:=wr) _ (by intro k hk;subst hk;exact hsz)
     go_wp2
     refine wp_region_lit_plan [] [(0,0),(2,0),(3,0),(4,0),(5,0),(6,0),(1,2),(7,3),(8,4),(9,0),(10,4)] (fun q=>q=w.heap.size) (by kernel_rfl) (by kernel_rfl) (fun c a d v w h=>by cases d<;>exact h) ?_
     go_wp2_with (first
      | (refine stp ?_)
      | (at_builtin;refine wpList_app rfl _ _ rfl elemInt (by rfl) ho1 (by rfl) hs1 (by unfold maxLen;omega) (by omega) ?_;intro v1 w2 g1 g2 g3 g4 g5;clear hs1 ho1;obtain ⟨p7,c7,rfl,hc71,hc72⟩:=own_form1 g1;
         have HK2:=Lib.hid ((HK.out.drew.alloc (.cells #[.int .i64 (x:Int)] 3)).only g2 (fun h=>Nat.lt_irrefl _ (HF.out _ h)));
         have j1:w2.cell? ⟨w.heap.size,1,none⟩=some (.slice p4 ll c4):=HK2.out.cell 1;have jf:∀ i,w2.frozen? ⟨w.heap.size,i,none⟩=false:=HK2.out.frozen;
         have G1:=Lib.hid g1;have G2:=Lib.hid g2;have G3:=Lib.hid g3;clear g1 g2 g3 g4 g5))
     obtain ⟨q1,q2,q3,q4⟩:=push_post (x:=x) (d:=lows (r.drop (i+1))) (N:=w.heap.size+1) (show w.heap.size+1≤wr.drew.heap.size from hsz) HF.out (by rw [HLD.out];exact G1.out) G2.out G3.out
     rw [←HLW.out] at q1
     refine ⟨⟨i,.slice p7 (ll+1) c7,?_,by omega,HDN.out,HK2.out.set 1 _,?_,fun k hk=>q3 k hk,(HBW.out.drew.trans (q4.mono (Nat.le_succ _))).setCell (Nat.le_refl _) _,?_⟩,?_⟩
     ·congr 1;have:=HMI.out;omega
     ·exact q1.setOther (fun h=>by have:=q3 _ h;exact absurd this (by show ¬ w.heap.size+1≤w.heap.size;omega)) _
     ·have h1:=q2.size
      have h2:(w2.setCell ⟨w.heap.size,1,none⟩ (.slice p7 (ll+1) c7)).heap.size=w2.heap.size:=by simp [World.setCell]
      rw [h2]
      exact Nat.lt_of_lt_of_le hsz h1
     ·(simp [intOf])<;>omega
    ·have hbad:¬ right true r:=fun h=>hd1 (h.2 _ hmem)
     have e1:numN true r=0:=by unfold numN;rw [if_neg hbad]
     have e2:numE true r=12:=by unfold numE;rw [if_neg hbad]
     rw [e1] at HPN
     rw [e2] at HPE
     obtain rfl:=HPN.out
     obtain rfl:=HPE.out
     clear HPN HPE hbad e1 e2 hb hm hmem hd1 hmi
     generalize (r[i].toNat:Int)=b at *
     clear hir HRB
     rcases hd2 with hd2|⟨hd2,hd3⟩
     all_goals
      go_wp2
      go_ret2
      exact ⟨rfl,HBW.out⟩
 ·have h46:((c.toNat:Int) == 45)=false:=by
   rw [beq_eq_false_iff_ne]
   intro h
   exact h45 (UInt8.toNat_inj.1 (by show c.toNat=45;omega))
  have HPN:Hid (numN false (c::t)=pn):=by
   have e:splitL (c::t)=(c::t,false):=by simp [splitL,h45]
   rw [←hpn];unfold prsN;rw [e];exact Lib.hid rfl
  have HPE:Hid (numE false (c::t)=pe):=by
   have e:splitL (c::t)=(c::t,false):=by simp [splitL,h45]
   rw [←hpe];unfold prsE;rw [e];exact Lib.hid rfl
  have HRB:Hid (∀ (i:Nat) (hi:i < (c::t).length) (h:0+i < s.size),((s[0+i]'h).toNat:Int)=((c::t)[i].toNat:Int)):=fun i hi h=>by
   have:=byte_at s _ hs (0+i) h (by omega)
   rw [this]
   congr 2
   have:∀ (j:Nat) (hj:j < (c::t).length),j=i→(c::t)[j]=(c::t)[i]:=fun j hj e=>by subst e;rfl
   exact this _ _ (by omega)
  have hl2:=hl
  clear hpn hpe hs hl h45
  generalize c::t=r at *
  have hssz:s.size=r.length+0:=by rw [hsz0];rfl
  clear hsz0
  have HK0:Hid (Blk (w.alloc (.cells #[.bool false,.slice none 0 0] 102)) w.heap.size 102 [.bool false,.slice none 0 0]):=Blk.new w _ _
  have HB0:Hid (Below w.heap.size w (w.alloc (.cells #[.bool false,.slice none 0 0] 102))):=(Below.refl _ _).alloc (Nat.le_refl _) _
  have HSZ0:Hid (w.heap.size < (w.alloc (.cells #[.bool false,.slice none 0 0] 102)).heap.size):=by show _ < _;simp
  have hszi:(s.size:Int) - 1=(0:Int)+r.length - 1:=by omega
  go_enter Tryz.func31,Tryz.ntmps31
  go_wp2
  generalize (w.alloc (.cells #[.bool false,.slice none 0 0] 102))=w1 at *
  clear hc h46
  go_loopw [6] (fun i wr=>∃ (j:Nat) (dv:Value),i=.int .i64 ((0:Int)+j - 1)∧j≤r.length∧(∀ c∈r.drop j,dig c)∧Blk wr w.heap.size 102 [.bool false,dv]∧Own wr 3 1 dv (lows (r.drop j)).length (nats (lows (r.drop j)))∧(∀ q,dv.ownBlock=some q→w.heap.size < q)∧Below w.heap.size w wr∧w.heap.size < wr.heap.size) (fun i _=>(intOf i+1).toNat)
  case atStart =>
   refine ⟨r.length,.slice none 0 0,?_,Nat.le_refl _,by rw [List.drop_length];simp,HK0.out,?_,by simp [Value.ownBlock],HB0.out,HSZ0.out⟩
   ·first|rfl|rw [hszi]|(congr 1;omega)
   ·rw [List.drop_length];exact Own.nil _ _ _
  case round =>
   obtain ⟨j,dv,h6,hj,hdg,hk,how,hfr,hbw,hsz⟩:=hrel
   obtain ⟨p4,c4,rfl,hc41,hc42⟩:=own_form1 how
   have HDG:=Lib.hid hdg
   have HK:=Lib.hid hk
   have HW:=Lib.hid how
   have HF:=Lib.hid hfr
   have HBW:=Lib.hid hbw
   have k1:wr.cell? ⟨w.heap.size,1,none⟩=some (.slice p4 (lows (r.drop j)).length c4):=hk.cell 1
   have hf:∀ i,wr.frozen? ⟨w.heap.size,i,none⟩=false:=hk.frozen
   clear hdg hk how hfr hbw
   rcases Nat.eq_zero_or_pos j with hj0|hpos
   ·subst hj0
    have e6:(0:Int)+((0:Nat):Int) - 1=0 - 1:=by omega
    rw [e6] at h6
    subst h6
    have hrl:r.length≤1000:=by omega
    rw [List.drop_zero] at k1
    have hll:(lows r).length=r.length:=by simp [lows]
    rw [hll] at k1
    have HDG0:Hid (∀ c∈r,dig c):=by have:=HDG.out;rwa [List.drop_zero] at this
    have HSL:Hid (Sl wr (fun k=>w.heap.size < k) 1 (.slice p4 r.length c4) (lows r).length (nats (lows r))):=by
     have h1:=HW.out.sl (B:=fun k=>w.heap.size < k) HF.out
     rw [List.drop_zero] at h1
     rw [←hll];exact h1
    clear e6 hll HDG HW HF hf
    cases hok:headOk false r with
    | false =>
     have hbad:¬ right false r:=fun h=>by have:=h.1;rw [hok] at this;exact absurd this (by decide)
     have e1:numN false r=0:=by unfold numN;rw [if_neg hbad]
     have e2:numE false r=12:=by unfold numE;rw [if_neg hbad]
     rw [e1] at HPN
     rw [e2] at HPE
     obtain rfl:=HPN.out
     obtain rfl:=HPE.out
     clear HPN HPE hbad e1 e2
     cases r with
     | nil =>
      have hs0:(s.size:Int)=0:=by rw [hssz];rfl
      clear hssz hszi HRB HSL HDG0
      go_wp2
      go_ret2
      exact ⟨rfl,HBW.out⟩
     | cons c t =>
      obtain ⟨h48,hb⟩:=headOk_not hok
      have hfs:0 < s.size:=by rw [hssz,List.length_cons];omega
      have hcs:((s[0]'hfs).toNat:Int)=48:=by
       rw [←h48]
       exact HRB.out 0 (by simp) hfs
      have hs1:(1:Int) < s.size:=by
       rw [hssz,List.length_cons]
       rcases hb with hb|⟨_,hb⟩
       ·exact absurd hb (by decide)
       ·omega
      have hs2:((s.size:Int) == 0)=false:=by rw [beq_eq_false_iff_ne];omega
      clear hssz hszi HRB HSL HDG0 hb
      go_wp2
      go_ret2
      exact ⟨rfl,HBW.out⟩
    | true =>
     have hr:right false r:=⟨hok,HDG0.out⟩
     have e1:pn=shortN (sgn false (valN r)):=by rw [←HPN.out];unfold numN;rw [if_pos hr]
     have e2:pe=shortE (sgn false (valN r)):=by rw [←HPE.out];unfold numE;rw [if_pos hr]
     have HSG:Hid (Calls Tryz.prog 54 #[.bool false,.slice p4 r.length c4] wr fun e w'=>∃ v',e=.returned v'∧IsNum w' (fun k=>w.heap.size < k) v' (sgn false (valN r))∧Below wr.heap.size wr w'):=by
      have h1:=sign_any wr _ false _ (lows r) (lows_D10 r HDG0.out) HSL.out (by simp [lows];omega)
      rwa [vd_lows] at h1
     have hlz:Hid ((ld (sgn false (valN r):Int).natAbs).length≤10000):=by
      have h1:=vd_lt (lows r) (lows_D10 r HDG0.out)
      rw [vd_lows] at h1
      have h2:=ld_len_le _ _ h1
      have h3:(lows r).length=r.length:=by simp [lows]
      have h4:(sgn false (valN r):Int).natAbs=valN r:=by unfold sgn;simp
      show _≤_
      rw [h4];omega
     cases r with
     | nil=>exact absurd hok (by decide)
     | cons c t =>
      have hfs:0 < s.size:=by rw [hssz,List.length_cons];omega
      have hcs:((s[0]'hfs).toNat:Int)=(c.toNat:Int):=HRB.out 0 (by simp) hfs
      have hhd:=headOk_cons hok
      have hs2:((s.size:Int) == 0)=false:=by rw [beq_eq_false_iff_ne,hssz,List.length_cons];omega
      have hs3:t=[]→(s.size:Int)=1+0:=fun h=>by subst h;rw [hssz];simp
      clear HPN HPE hr hok HRB HSL HDG0 hssz hszi
      generalize (sgn false (valN (c::t)):Int)=z at *
      generalize (c::t).length=rl at *
      rcases hhd with hhd|⟨hng,hhd,ht⟩
      ·by_cases hfz:fits z
       ·have DFZ:Hid (decide (fits z)=true):=decide_eq_true hfz
        have e3:shortE z=0:=by unfold shortE;rw [if_pos hfz]
        rw [e3] at e2
        subst e2
        have SNZ:Hid (shortN z=pn):=e1.symm
        clear e1 e3 hfz
        go_wp2_with (first
         | (go_at_call 54;refine HSG.out.mono ?_;rintro e w5 ⟨v5,rfl,hn5,hb5⟩;obtain ⟨s5,p5,l5,c5,rfl⟩:=hn5.parts;have HN5:=Lib.hid hn5;have HB5:=Lib.hid (HBW.out.trans (hb5.mono HBW.out.size));clear hn5 hb5)
         | (go_at_call 53;refine (small_num w5 _ z (HN5.out.weak fun _ _=>trivial) hlz.out).mono ?_;rw [DFZ.out,SNZ.out];rintro e w6 ⟨rfl,hb6⟩))
        go_ret2
        exact ⟨rfl,HB5.out.trans (hb6.mono HB5.out.size)⟩
       ·have DFZ:Hid (decide (fits z)=false):=decide_eq_false hfz
        have e3:shortE z=2:=by unfold shortE;rw [if_neg hfz]
        have e4:shortN z=0:=by unfold shortN;rw [if_neg hfz]
        rw [e3] at e2
        subst e2
        rw [e4] at e1
        subst e1
        have SNZ:Hid (shortN z=0):=e4
        clear e3 e4 hfz
        go_wp2_with (first
         | (go_at_call 54;refine HSG.out.mono ?_;rintro e w5 ⟨v5,rfl,hn5,hb5⟩;obtain ⟨s5,p5,l5,c5,rfl⟩:=hn5.parts;have HN5:=Lib.hid hn5;have HB5:=Lib.hid (HBW.out.trans (hb5.mono HBW.out.size));clear hn5 hb5)
         | (go_at_call 53;refine (small_num w5 _ z (HN5.out.weak fun _ _=>trivial) hlz.out).mono ?_;rw [DFZ.out,SNZ.out];rintro e w6 ⟨rfl,hb6⟩))
        go_ret2
        exact ⟨rfl,HB5.out.trans (hb6.mono HB5.out.size)⟩
      ·have hs4:=hs3 ht
       have hs5:(s.size:Int)=1:=hs4
       clear hs3 hs4 ht
       by_cases hfz:fits z
       ·have DFZ:Hid (decide (fits z)=true):=decide_eq_true hfz
        have e3:shortE z=0:=by unfold shortE;rw [if_pos hfz]
        rw [e3] at e2
        subst e2
        have SNZ:Hid (shortN z=pn):=e1.symm
        clear e1 e3 hfz
        go_wp2_with (first
         | (go_at_call 54;refine HSG.out.mono ?_;rintro e w5 ⟨v5,rfl,hn5,hb5⟩;obtain ⟨s5,p5,l5,c5,rfl⟩:=hn5.parts;have HN5:=Lib.hid hn5;have HB5:=Lib.hid (HBW.out.trans (hb5.mono HBW.out.size));clear hn5 hb5)
         | (go_at_call 53;refine (small_num w5 _ z (HN5.out.weak fun _ _=>trivial) hlz.out).mono ?_;rw [DFZ.out,SNZ.out];rintro e w6 ⟨rfl,hb6⟩))
        go_ret2
        exact ⟨rfl,HB5.out.trans (hb6.mono HB5.out.size)⟩
       ·have DFZ:Hid (decide (fits z)=false):=decide_eq_false hfz
        have e3:shortE z=2:=by unfold shortE;rw [if_neg hfz]
        have e4:shortN z=0:=by unfold shortN;rw [if_neg hfz]
        rw [e3] at e2
        subst e2
        rw [e4] at e1
        subst e1
        have SNZ:Hid (shortN z=0):=e4
        clear e3 e4 hfz
        go_wp2_with (first
         | (go_at_call 54;refine HSG.out.mono ?_;rintro e w5 ⟨v5,rfl,hn5,hb5⟩;obtain ⟨s5,p5,l5,c5,rfl⟩:=hn5.parts;have HN5:=Lib.hid hn5;have HB5:=Lib.hid (HBW.out.trans (hb5.mono HBW.out.size));clear hn5 hb5)
         | (go_at_call 53;refine (small_num w5 _ z (HN5.out.weak fun _ _=>trivial) hlz.out).mono ?_;rw [DFZ.out,SNZ.out];rintro e w6 ⟨rfl,hb6⟩))
        go_ret2
        exact ⟨rfl,HB5.out.trans (hb6.mono HB5.out.size)⟩
   ·obtain ⟨i,rfl⟩:∃ i,j=i+1:=⟨j - 1,by omega⟩
    have hir:i < r.length:=by omega
    obtain ⟨m,hm⟩:∃ m:Nat,m=0+i:=⟨_,rfl⟩
    have hmi:(0:Int)+((i+1:Nat):Int) - 1=m:=by omega
    rw [hmi] at h6
    subst h6
    have hms:m < s.size:=by omega
    have hb:=HRB.out i hir (by omega:0+i < s.size)
    have hbm:((s[m]'hms).toNat:Int)=(r[i].toNat:Int):=by subst hm;rw [Nat.add_comm] at *;simpa [Nat.add_comm] using hb
    have hx256:(r[i].toNat:Int) < 256:=by have:=r[i].toNat_lt;omega
    have hx0:(0:Int)≤(r[i].toNat:Int):=by omega
    have hm0:(0:Int)≤m:=by omega
    have hcd:(dig r[i]∧48≤(r[i].toNat:Int)∧(r[i].toNat:Int)≤57)∨(¬ dig r[i]∧((r[i].toNat:Int) < 48∨48≤(r[i].toNat:Int)∧57 < (r[i].toNat:Int))):=by unfold dig;omega
    have hmem:r[i]∈r:=List.getElem_mem hir
    rcases hcd with ⟨hd1,hd2,hd3⟩|⟨hd1,hd2⟩
    ·have HDN:Hid (∀ c∈r.drop i,dig c):=fun c hc=>by
      rw [List.drop_eq_getElem_cons hir] at hc
      rcases List.mem_cons.1 hc with rfl|hc
      ·exact hd1
      ·exact HDG.out c hc
     have HLW:Hid (lows (r.drop i)=lows (r.drop (i+1))++[r[i].toNat - 48]):=by
      show _=_
      rw [List.drop_eq_getElem_cons hir,lows_cons]
     have hlen:(lows (r.drop (i+1))).length≤1000:=by simp [lows];omega
     obtain ⟨x,hx⟩:∃ x:Nat,x=r[i].toNat - 48:=⟨_,rfl⟩
     have hxi:(r[i].toNat:Int) - 48=x:=by omega
     rw [←hx] at HLW
     have ho1:=HW.out.drew.alloc (.cells #[.int .i64 (x:Int)] 3)
     have hs1:=one_int wr.drew x
     have HMI:=Lib.hid hmi
     clear hb hm hmem hd1 hx hmi
     generalize (r[i].toNat:Int)=b at *
     generalize hld:(lows (r.drop (i+1))).length=ll at *
     have HLD:=Lib.hid hld
     clear hld hir
     have hag0:Agree (fun q=>q=w.heap.size) wr.drew ((wr.alloc (.cells #[.int .i64 (x:Int)] 3)).drew):=agree_alloc (w:=wr) _ (by intro k hk;subst hk;exact hsz)
     go_wp2
     refine wp_region_lit_plan [] [(0,0),(2,0),(3,0),(4,0),(5,0),(6,0),(1,2),(7,3),(8,4),(9,0),(10,4)] (fun q=>q=w.heap.size) (by kernel_rfl) (by kernel_rfl) (fun c a d v w h=>by cases d<;>exact h) ?_
     go_wp2_with (first
      | (refine stp ?_)
      | (at_builtin;refine wpList_app rfl _ _ rfl elemInt (by rfl) ho1 (by rfl) hs1 (by unfold maxLen;omega) (by omega) ?_;intro v1 w2 g1 g2 g3 g4 g5;clear hs1 ho1;obtain ⟨p7,c7,rfl,hc71,hc72⟩:=own_form1 g1;
         have HK2:=Lib.hid ((HK.out.drew.alloc (.cells #[.int .i64 (x:Int)] 3)).only g2 (fun h=>Nat.lt_irrefl _ (HF.out _ h)));
         have j1:w2.cell? ⟨w.heap.size,1,none⟩=some (.slice p4 ll c4):=HK2.out.cell 1;have jf:∀ i,w2.frozen? ⟨w.heap.size,i,none⟩=false:=HK2.out.frozen;
         have G1:=Lib.hid g1;have G2:=Lib.hid g2;have G3:=Lib.hid g3;clear g1 g2 g3 g4 g5))
     obtain ⟨q1,q2,q3,q4⟩:=push_post (x:=x) (d:=lows (r.drop (i+1))) (N:=w.heap.size+1) (show w.heap.size+1≤wr.drew.heap.size from hsz) HF.out (by rw [HLD.out];exact G1.out) G2.out G3.out
     rw [←HLW.out] at q1
     refine ⟨⟨i,.slice p7 (ll+1) c7,?_,by omega,HDN.out,HK2.out.set 1 _,?_,fun k hk=>q3 k hk,(HBW.out.drew.trans (q4.mono (Nat.le_succ _))).setCell (Nat.le_refl _) _,?_⟩,?_⟩
     ·congr 1;have:=HMI.out;omega
     ·exact q1.setOther (fun h=>by have:=q3 _ h;exact absurd this (by show ¬ w.heap.size+1≤w.heap.size;omega)) _
     ·have h1:=q2.size
      have h2:(w2.setCell ⟨w.heap.size,1,none⟩ (.slice p7 (ll+1) c7)).heap.size=w2.heap.size:=by simp [World.setCell]
      rw [h2]
      exact Nat.lt_of_lt_of_le hsz h1
     ·(simp [intOf])<;>omega
    ·have hbad:¬ right false r:=fun h=>hd1 (h.2 _ hmem)
     have e1:numN false r=0:=by unfold numN;rw [if_neg hbad]
     have e2:numE false r=12:=by unfold numE;rw [if_neg hbad]
     rw [e1] at HPN
     rw [e2] at HPE
     obtain rfl:=HPN.out
     obtain rfl:=HPE.out
     clear HPN HPE hbad e1 e2 hb hm hmem hd1 hmi
     generalize (r[i].toNat:Int)=b at *
     clear hir HRB
     rcases hd2 with hd2|⟨hd2,hd3⟩
     all_goals
      go_wp2
      go_ret2
      exact ⟨rfl,HBW.out⟩
theorem elemWd:Elem Tryz.prog 54 82 4 40 (.agg #[.int .i64 0,.string ⟨#[]⟩,.int .i64 0,.int .i64 0]) :=
 ⟨Tryz.underlying54,by kernel_rfl,rfl,by omega,by intro u hu;simp [Value.cells] at hu;rcases hu with rfl|rfl|rfl<;>rfl⟩
theorem prsN_fit (l:List UInt8):fit64 (prsN l):=by
 have:∀ ng r,fits (numN ng r):=fun ng r=>by
  unfold numN
  split
  ·unfold shortN
   split
   ·assumption
   ·unfold fits;omega
  ·unfold fits;omega
 exact this _ _
theorem size_pos_of (t:ByteArray) (h:t.toList.isEmpty=false):1≤t.size:=by
 rw [ByteArray.toList_eq] at h
 cases hd:t.data.toList with
 | nil=>rw [hd] at h;cases h
 | cons a r =>
  have h1:=size_list t _ hd
  rw [h1,List.length_cons]
  omega
def WdV.ok (x:WdV):Prop:=fit64 x.n∧fit64 x.kind∧x.text.size≤maxLen
structure WdsS (w wr:World) (v:Value) (l:List WdV) (k sz:Nat):Prop where
 bel:Below w.heap.size w wr
 own:Own wr 82 4 v l.length (wdC l)
 new:∀ q,v.ownBlock=some q→w.heap.size≤q
 le:l.length≤k
 kz:k≤sz
 ok:∀ x∈l,x.ok
theorem WdsS.below {w wr wr':World} {v:Value} {l:List WdV} {k sz:Nat} (h:WdsS w wr v l k sz) (hb:Below wr.heap.size wr wr'):WdsS w wr' v l k sz:=⟨h.bel.trans (hb.mono h.bel.size),h.own.below hb,h.new,h.le,h.kz,h.ok⟩
theorem WdsS.on {w wr:World} {v:Value} {l:List WdV} {k k' sz:Nat} (h:WdsS w wr v l k sz) (h1:k≤k') (h2:k'≤sz):WdsS w wr v l k' sz:=⟨h.bel,h.own,h.new,Nat.le_trans h.le h1,h2,h.ok⟩
theorem WdsS.push {w wr wA:World} {v v':Value} {l:List WdV} {k k' sz:Nat} (h:WdsS w wr v l k sz) (x:WdV) (hx:x.ok) (g1:Own wA 82 4 v' (l.length+1) (wdC l++x.cells)) (g2:Only (fun q=>v.ownBlock=some q) wr wA)
 (g3:v'.ownBlock=v.ownBlock∨v'.ownBlock=some wr.heap.size) (h1:k+1≤k') (h2:k'≤sz):WdsS w wA v' (l++[x]) k' sz :=
 ⟨h.bel.trans (g2.below h.bel.size h.new),by rw [wdC_snoc,List.length_append];exact g1,fun q hq=>by
  rcases g3 with g3|g3
  ·exact h.new q (g3.symm.trans hq)
  ·have e:wr.heap.size=q:=Option.some.inj (g3.symm.trans hq)
   have:=h.bel.size
   omega,by rw [List.length_append];have:=h.le;show l.length+1≤_;omega,h2,fun y hy=>by
  rcases List.mem_append.1 hy with hy|hy
  ·exact h.ok y hy
  ·rw [List.mem_singleton.1 hy];exact hx⟩
def WordsOut (w:World) (s:ByteArray) (e:Ending) (w':World):Prop :=
 ∃ (v:Value) (l:List WdV) (a:Int),e=.returned (.tuple #[v,.int .i64 a])∧Below w.heap.size w w'∧Sl w' (fun q=>w.heap.size≤q) 4 v l.length (wdC l)∧l.length≤s.size∧∀ x∈l,x.ok
theorem WordsOut.none {w wr:World} {s:ByteArray} {a:Int} (h:Below w.heap.size w wr):WordsOut w s (.returned (.tuple #[.slice none 0 0,.int .i64 a])) wr :=
 ⟨_,[],a,rfl,h,⟨rfl,Ones.nil,.inl ⟨Option.none,0,rfl,rfl,Nat.zero_le _,fun _=>rfl⟩⟩,Nat.zero_le _,fun x hx=>by cases hx⟩
structure StpW (p:Prop):Prop where
 go:p
structure BytS (w0 wr:World) (v:Value) (b:List UInt8) (i sz:Nat):Prop where
 bel:Below w0.heap.size w0 wr
 own:Own wr 5 1 v b.length (by8 b)
 new:∀ q,v.ownBlock=some q→w0.heap.size≤q
 le:b.length≤i
 kz:i≤sz
theorem BytS.push {w0 wr wm wA:World} {v v':Value} {b:List UInt8} {i i' sz:Nat} (h:BytS w0 wr v b i sz) (x:UInt8) (hb:Below wr.heap.size wr wm) (g1:Own wA 5 1 v' (b.length+1) (by8 b++by8 [x])) (g2:Only (fun q=>v.ownBlock=some q) wm wA)
 (g3:v'.ownBlock=v.ownBlock∨v'.ownBlock=some wm.heap.size) (h1:i+1≤i') (h2:i'≤sz):BytS w0 wA v' (b++[x]) i' sz :=
 have hm:=h.bel.trans (hb.mono h.bel.size)
 ⟨hm.trans (g2.below hm.size h.new),by rw [by8_append,List.length_append];exact g1,fun q hq=>by
  rcases g3 with g3|g3
  ·exact h.new q (g3.symm.trans hq)
  ·have e:wm.heap.size=q:=Option.some.inj (g3.symm.trans hq)
   have:=hm.size
   omega,by rw [List.length_append];have:=h.le;show b.length+1≤_;omega,h2⟩
theorem refwords_any (w:World) (s:ByteArray) (hs:s.size≤1000):Calls Tryz.prog 16 #[.string s] w (WordsOut w s):=by
 go_enter Tryz.func16,Tryz.ntmps16
 go_wp2
 go_loopw [4,5] (fun v i wr=>∃ (l:List WdV) (k:Nat),i=.int .i64 k∧WdsS w wr v l k s.size) (fun _ i _=>s.size - (intOf i).toNat)
 case atStart=>exact ⟨[],0,rfl,Below.refl _ _,Own.nil _ _ _,by simp [Value.ownBlock],Nat.le_refl _,Nat.zero_le _,fun x hx=>by cases hx⟩
 case round =>
  obtain ⟨l,k,rfl,hw⟩:=hrel
  obtain ⟨wo,rfl⟩:∃ wo:World,wo=wr:=⟨_,rfl⟩
  obtain ⟨pv,cv,rfl,hcv1,hcv2⟩:=own_form hw.own
  have HW:=Lib.hid hw
  have hkz:=hw.kz
  have hll:=hw.le
  clear hw
  by_cases hk:k < s.size
  ·obtain ⟨c,hc⟩:∃ c:UInt8,s[k]'hk=c:=⟨_,rfl⟩
   have hz:((s[k]'hk).toNat:Int)=(c.toNat:Int):=by rw [hc]
   have HC:=Lib.hid hc
   clear hc
   go_upto_region 10 with fail
   go_cut [40] (fun t wc=>∃ b,t=.bool b∧wo=wc)
   case first =>
    as_aux_lemma =>
     cases t1:((c.toNat:Int) == 32) with
     | true =>
      go_wp2
      go_meet
      exact ⟨_,rfl,rfl⟩
     | false =>
     cases t2:((c.toNat:Int) == 9) with
     | true =>
      go_wp2
      go_meet
      exact ⟨_,rfl,rfl⟩
     | false =>
      go_wp2
      go_meet
      exact ⟨_,rfl,rfl⟩
   case rest =>
   obtain ⟨b,rfl,hwc⟩:=hcut
   subst hwc
   cases b with
   | true =>
    go_wp2
    go_roundw
    case rel=>exact ⟨l,k+1,by go_num,HW.out.on (by omega) (by omega)⟩
    case measure=>(simp [intOf])<;>omega
   | false =>
   go_upto_region 12 with fail
   go_cut [53] (fun t wc=>∃ b,t=.bool b∧wo=wc∧(b=true→c=47))
   case first =>
    as_aux_lemma =>
     cases h47:((c.toNat:Int) == 47) with
     | false =>
      go_wp2
      go_meet
      exact ⟨false,rfl,rfl,fun h=>by cases h⟩
     | true =>
      have h47c:c=47:=UInt8.toNat_inj.1 (by have:=eq_of_beq h47;show c.toNat=47;omega)
      have H47:=Lib.hid h47c
      clear h47c
      by_cases hk1:k+1 < s.size
      ·obtain ⟨d,hd⟩:∃ d:Int,((s[k+1]'hk1).toNat:Int)=d:=⟨_,rfl⟩
       go_wp2
       go_meet
       exact ⟨_,rfl,rfl,fun _=>H47.out⟩
      ·go_wp2
       go_meet
       exact ⟨false,rfl,rfl,fun h=>by cases h⟩
   case rest =>
   obtain ⟨b,rfl,hwc,hb⟩:=hcut
   subst hwc
   cases b with
   | true =>
    as_aux_lemma =>
     have hc47:=Lib.hid (hb rfl)
     clear hb
     go_wp2_with fail
     go_loopw [5] (fun i wr=>∃ k':Nat,i=.int .i64 k'∧k≤k'∧k'≤s.size∧WdsS w wr (.slice pv l.length cv) l k s.size) (fun i _=>s.size - (intOf i).toNat)
     case atStart=>exact ⟨k,rfl,Nat.le_refl _,by omega,HW.out⟩
     case round =>
      obtain ⟨k',rfl,hkk,hk's,hw⟩:=hrel
      obtain ⟨wi,rfl⟩:∃ wi:World,wi=wr:=⟨_,rfl⟩
      have HWI:=Lib.hid hw
      clear hw
      by_cases hin:k' < s.size
      ·obtain ⟨d,hd⟩:∃ d:UInt8,s[k']'hin=d:=⟨_,rfl⟩
       have hzd:((s[k']'hin).toNat:Int)=(d.toNat:Int):=by rw [hd]
       have HD:=Lib.hid hd
       clear hd
       cases h10:((d.toNat:Int) != 10) with
       | true =>
        go_wp2
        go_roundw
        case rel=>exact ⟨k'+1,by go_num,by omega,by omega,HWI.out⟩
        case measure=>(simp [intOf])<;>omega
       | false =>
        have hne:k'≠k:=by
         rintro rfl
         have e1:=HD.out
         rw [HC.out,hc47.out] at e1
         subst e1
         exact absurd h10 (by decide)
        go_wp2
        go_roundw
        case rel=>exact ⟨l,k',rfl,HWI.out.on (by omega) (by omega)⟩
        case measure=>(simp [intOf])<;>omega
      ·go_wp2
       go_roundw
       case rel=>exact ⟨l,k',rfl,HWI.out.on (by omega) (by omega)⟩
       case measure=>(simp [intOf])<;>omega
   | false =>
   clear hb
   go_upto_region 15 with fail
   go_cut [82] (fun t wc=>∃ b,t=.bool b∧wo=wc)
   case first =>
    as_aux_lemma =>
     go_wp2
     all_goals
      go_meet
      exact ⟨_,rfl,rfl⟩
   case rest =>
   obtain ⟨b,rfl,hwc⟩:=hcut
   subst hwc
   cases b with
   | true =>
    go_wp2_with fail
    go_loopw [7,8] (fun v i wr=>∃ (b:List UInt8) (i':Nat),i=.int .i64 i'∧k+1≤i'∧BytS wo wr v b i' s.size) (fun _ i _=>s.size - (intOf i).toNat)
    case atStart=>exact ⟨[],k+1,by go_num,Nat.le_refl _,Below.refl _ _,Own.nil _ _ _,by simp [Value.ownBlock],Nat.zero_le _,hk⟩
    case round =>
     obtain ⟨b,i,rfl,hki,hb⟩:=hrel
     obtain ⟨wi,rfl⟩:∃ wi:World,wi=wr:=⟨_,rfl⟩
     obtain ⟨pb,cb,rfl,hcb1,hcb2⟩:=own_form hb.own
     have HB:=Lib.hid hb
     have hbl:=hb.le
     have hiz:=hb.kz
     clear hb
     go_upto_region 18 with fail
     go_cut [116] (fun t wc=>∃ q,t=.bool q∧wi=wc∧(q=true→∃ hin:i < s.size,((s[i]'hin).toNat=39→i+1 < s.size)))
     case first =>
      as_aux_lemma =>
       by_cases hin:i < s.size
       ·obtain ⟨d,hd⟩:∃ d:Nat,(s[i]'hin).toNat=d:=⟨_,rfl⟩
        have hzd:((s[i]'hin).toNat:Int)=(d:Int):=by rw [hd]
        have HD:=Lib.hid hd
        clear hd
        cases t1:((d:Int) != 10) with
        | false =>
         go_wp2
         go_meet
         exact ⟨false,rfl,rfl,fun h=>by cases h⟩
        | true =>
        cases t2:((d:Int) != 39) with
        | true =>
         have h39:=Lib.hid (bne_iff_ne.1 t2)
         go_wp2
         go_meet
         exact ⟨true,rfl,rfl,fun _=>⟨hin,fun h=>absurd (show (d:Int)=39 by rw [HD.out] at h;rw [h];rfl) h39.out⟩⟩
        | false =>
         by_cases hi1:i+1 < s.size
         ·obtain ⟨d2,hd2⟩:∃ d2:Int,((s[i+1]'hi1).toNat:Int)=d2:=⟨_,rfl⟩
          go_wp2
          go_meet
          exact ⟨_,rfl,rfl,fun _=>⟨hin,fun _=>hi1⟩⟩
         ·go_wp2
          go_meet
          exact ⟨false,rfl,rfl,fun h=>by cases h⟩
       ·go_wp2
        go_meet
        exact ⟨false,rfl,rfl,fun h=>by cases h⟩
     case rest =>
     obtain ⟨q,rfl,hwc,hq⟩:=hcut
     subst hwc
     cases q with
     | true =>
      as_aux_lemma =>
       obtain ⟨hin,hq2⟩:=hq rfl
       clear hq
       have hal:Below wi.heap.size wi (wi.alloc (.cells #[.int .u8 ((s[i]'hin).toNat:Int)] 5)):=(Below.refl _ _).alloc (Nat.le_refl _) _
       have hs1:=one_byte wi (s[i]'hin)
       have hown:=HB.out.own.below hal
       have HAL:=Lib.hid hal
       have HQ2:=Lib.hid hq2
       clear hal hq2
       go_wp2_with (at_builtin;refine wpList_app rfl _ _ rfl elemU8 (by rfl) hown (by rfl) hs1 (by unfold maxLen;omega) (by omega) ?_;intro v1 wA g1 g2 g3 g4 g5;refine StpW.go ?_)
       refine ⟨?_⟩
       obtain ⟨p1,c1,rfl,hc11,hc12⟩:=own_form g1
       have HG1:=Lib.hid g1
       have HG2:=Lib.hid g2
       have HG3:=Lib.hid g3
       clear g1 g2 g3 g4 g5 hown hs1
       cases t39:(((s[i]'hin).toNat:Int) == 39) with
       | true =>
        have h1:=HQ2.out (by have:=eq_of_beq t39;omega)
        go_wp2
        go_roundw
        case rel=>exact ⟨_,i+2,by go_num,by omega,HB.out.push (s[i]'hin) HAL.out HG1.out HG2.out HG3.out (by omega) (by omega)⟩
        case measure=>(simp [intOf])<;>omega
       | false =>
        go_wp2
        go_roundw
        case rel=>exact ⟨_,i+1,by go_num,by omega,HB.out.push (s[i]'hin) HAL.out HG1.out HG2.out HG3.out (by omega) (by omega)⟩
        case measure=>(simp [intOf])<;>omega
     | false =>
      as_aux_lemma =>
       clear hq
       go_upto_region 23 with fail
       go_cut [145] (fun t wc=>∃ q,t=.bool q∧wi=wc∧(q=false→i < s.size))
       case first =>
        by_cases hin:i < s.size
        ·obtain ⟨d,hd⟩:∃ d:Int,((s[i]'hin).toNat:Int)=d:=⟨_,rfl⟩
         cases t1:(d == 10) with
         | true =>
          go_wp2
          go_meet
          exact ⟨true,rfl,rfl,fun h=>by cases h⟩
         | false =>
          go_wp2
          go_meet
          exact ⟨_,rfl,rfl,fun _=>hin⟩
        ·go_wp2
         go_meet
         exact ⟨true,rfl,rfl,fun h=>by cases h⟩
       case rest =>
       obtain ⟨q,rfl,hwc,hq⟩:=hcut
       subst hwc
       cases q with
       | true =>
        go_wp2
        go_ret2
        exact WordsOut.none (HW.out.bel.trans (HB.out.bel.mono HW.out.bel.size))
       | false =>
        have hin:=hq rfl
        clear hq
        have HW:=Lib.hid (HW.out.below HB.out.bel)
        have kc:=sl_string wi (fun _=>True) (.slice pb b.length cb) b (HB.out.own.sl (fun _ _=>trivial))
        obtain ⟨wm,hwm⟩:∃ w',wi.alloc (.cells #[.int .i64 2,.string ⟨b.toArray⟩,.int .i64 0,.int .i64 k] 82)=w':=⟨_,rfl⟩
        have hbm:Below wi.heap.size wi wm:=hwm▸(Below.refl _ _).alloc (Nat.le_refl _) _
        have hsm:Sl wm (fun _=>True) 4 (.slice (some ⟨wi.heap.size,0,none⟩) 1 1) 1 (WdV.cells ⟨2,⟨b.toArray⟩,0,k⟩):=hwm▸(Own.made wi 82 4 (WdV.cells ⟨2,⟨b.toArray⟩,0,k⟩) [] 1 1 rfl (Ones.nil.cons rfl |>.cons rfl |>.cons rfl |>.cons rfl) (Nat.le_refl _) (by decide) (Nat.le_refl 4)).sl (fun _ _=>trivial)
        have hwb:=HW.out.below hbm
        have hown:=hwb.own
        have HWB:=Lib.hid hwb
        clear hbm hwb
        go_wp2_with (at_builtin;refine wpList_app rfl _ _ rfl elemWd (by rfl) hown (by rfl) hsm (by unfold maxLen;omega) (by omega) ?_;intro v1 wA g1 g2 g3 g4 g5;refine StpW.go ?_)
        refine ⟨?_⟩
        have hp:=HWB.out.push (k':=i+1) ⟨2,⟨b.toArray⟩,0,k⟩ ⟨by unfold fit64;simp only;omega,by unfold fit64;simp only;omega,by show b.toArray.size≤_;rw [List.size_toArray];unfold maxLen;omega⟩ g1 g2 g3 (by omega) (by omega)
        obtain ⟨p1,c1,rfl,hc11,hc12⟩:=own_form hp.own
        have HP:=Lib.hid hp
        clear hp g1 g2 g3 g4 g5 hown hsm hwm kc
        go_wp2
        go_roundw
        case rel=>exact ⟨_,i+1,by go_num,HP.out⟩
        case measure=>(simp [intOf])<;>omega
   | false =>
    have HP:=Lib.hid (refpart_any wo c)
    go_wp2_with fail
    refine HP.out.mono ?_
    clear HP
    rintro e w2 ⟨rfl,hw2⟩
    subst hw2
    cases hpc:pcB c with
    | true =>
     go_wp2_with fail
     go_loopw [9] (fun i wr=>∃ k':Nat,i=.int .i64 k'∧k≤k'∧k'≤s.size∧WdsS w wr (.slice pv l.length cv) l k s.size) (fun i _=>s.size - (intOf i).toNat)
     case atStart=>exact ⟨k,rfl,Nat.le_refl _,by omega,HW.out⟩
     case round =>
      obtain ⟨k',rfl,hkk,hk's,hw⟩:=hrel
      obtain ⟨wi,rfl⟩:∃ wi:World,wi=wr:=⟨_,rfl⟩
      have HWI:=Lib.hid hw
      clear hw
      go_upto_region 29 with fail
      go_cut [169] (fun t wc=>∃ q,t=.bool q∧wi=wc∧(q=true→k' < s.size)∧(q=false→k'≠k))
      case first =>
       as_aux_lemma =>
        by_cases hin:k' < s.size
        ·obtain ⟨d,hd⟩:∃ d:UInt8,s[k']'hin=d:=⟨_,rfl⟩
         have hzd:((s[k']'hin).toNat:Int)=(d.toNat:Int):=by rw [hd]
         have HD:=Lib.hid hd
         clear hd
         have HP:=Lib.hid (refpart_any wi d)
         go_wp2_with fail
         refine HP.out.mono ?_
         clear HP
         rintro e w2 ⟨rfl,hw2⟩
         subst hw2
         go_wp2
         go_meet
         exact ⟨_,rfl,rfl,fun _=>hin,fun hf=>by
          rintro rfl
          have e1:=HD.out
          rw [HC.out] at e1
          subst e1
          exact absurd (hpc.symm.trans hf) (by decide)⟩
        ·go_wp2
         go_meet
         exact ⟨false,rfl,rfl,(fun h=>by cases h),fun _=>by omega⟩
      case rest =>
      obtain ⟨q,rfl,hwc,hq1,hq2⟩:=hcut
      subst hwc
      cases q with
      | true =>
       have h1:=hq1 rfl
       clear hq1 hq2
       go_wp2
       go_roundw
       case rel=>exact ⟨k'+1,by go_num,by omega,by omega,HWI.out⟩
       case measure=>(simp [intOf])<;>omega
      | false =>
       have hne:=hq2 rfl
       clear hq1 hq2
       have hkk2:k < k':=by omega
       have hkk3:k≤k':=hkk
       have hsx:(s.extract k k').size=k' - k:=by rw [ByteArray.size_extract];omega
       have HSX:=Lib.hid hsx
       clear hsx hne
       obtain ⟨t,ht⟩:∃ t,s.extract k k'=t:=⟨_,rfl⟩
       have hts:t.size≤1000:=by rw [←ht,HSX.out];omega
       have htm:t.size≤maxLen:=by unfold maxLen;omega
       obtain ⟨wb,hwb⟩:∃ w',wi.alloc (.cells #[.int .i64 3,.string t,.int .i64 0,.int .i64 k] 82)=w':=⟨_,rfl⟩
       have hbb:Below wi.heap.size wi wb:=hwb▸(Below.refl _ _).alloc (Nat.le_refl _) _
       have hkb:Blk wb wi.heap.size 82 [.int .i64 3,.string t,.int .i64 0,.int .i64 k]:=hwb▸Blk.new wi _ _
       have HWB:=Lib.hid hwb
       have HBB:=Lib.hid hbb
       have HKB:=Lib.hid hkb
       have HN:=Lib.hid (refnamed wb t htm)
       clear hwb hbb hkb
       go_upto_region 33 with fail
       rw [HWB.out]
       go_wp2_with fail
       refine HN.out.mono ?_
       clear HN ht
       rintro e w2 ⟨rfl,hw2⟩
       subst hw2
       go_upto_region 34 with fail
       go_cut [186] (fun t wc=>∃ q,t=.bool q∧wb=wc)
       case first =>
        as_aux_lemma =>
         by_cases h48:(48:Int)≤(c.toNat:Int)
         ·have d1:decide ((48:Int)≤(c.toNat:Int))=true:=decide_eq_true h48
          go_wp2
          go_meet
          exact ⟨_,rfl,rfl⟩
         ·have d1:decide ((48:Int)≤(c.toNat:Int))=false:=decide_eq_false h48
          go_wp2
          go_meet
          exact ⟨_,rfl,rfl⟩
       case rest =>
       obtain ⟨q,rfl,hwc⟩:=hcut
       subst hwc
       go_upto_if 186 with fail
       go_cut [12] (fun ov wc=>∃ (b:Bool) (kd n:Int),ov=.bool b∧fit64 n∧fit64 kd∧Below wi.heap.size wi wc∧Blk wc wi.heap.size 82 [.int .i64 kd,.string t,.int .i64 n,.int .i64 k])
       case first =>
        as_aux_lemma =>
         cases q with
         | true =>
          have HPr:=Lib.hid (refparse_any wb t t.data.toList rfl (by rw [Array.length_toList];exact hts))
          go_wp2_with fail
          refine HPr.out.mono ?_
          clear HPr
          rintro e w3 ⟨rfl,hb3⟩
          have HB3:=Lib.hid (HBB.out.trans (hb3.mono HBB.out.size))
          have hk3:=HKB.out.below hb3
          have HK3:=Lib.hid hk3
          have HFT:=Lib.hid (prsN_fit t.data.toList)
          have z0:w3.cell? ⟨wi.heap.size,0,none⟩=some (.int .i64 3):=hk3.cell 0
          have z1:w3.cell? ⟨wi.heap.size,1,none⟩=some (.string t):=hk3.cell 1
          have z2:w3.cell? ⟨wi.heap.size,2,none⟩=some (.int .i64 0):=hk3.cell 2
          have z3:w3.cell? ⟨wi.heap.size,3,none⟩=some (.int .i64 k):=hk3.cell 3
          have zf:∀ i,w3.frozen? ⟨wi.heap.size,i,none⟩=false:=hk3.frozen
          have zl:=hk3.lt
          generalize prsN t.data.toList=n at *
          generalize prsE t.data.toList=pe at *
          clear hb3 hk3
          go_wp2
          go_meet
          refine ⟨_,1,n,rfl,HFT.out,by unfold fit64;omega,?_,?_⟩
          ·exact (((HB3.out.setCell (p:=⟨wi.heap.size,0,none⟩) (Nat.le_refl _) _).setCell (p:=⟨wi.heap.size,1,none⟩) (Nat.le_refl _) _).setCell (p:=⟨wi.heap.size,2,none⟩) (Nat.le_refl _) _).setCell (p:=⟨wi.heap.size,3,none⟩) (Nat.le_refl _) _
          ·exact (((HK3.out.set 0 _).set 1 _).set 2 _).set 3 _
         | false =>
          go_wp2
          go_meet
          exact ⟨_,3,0,rfl,by unfold fit64;omega,by unfold fit64;omega,HBB.out,HKB.out⟩
       case rest =>
       obtain ⟨b,kd,n,rfl,hn,hkd,hbc,hkc⟩:=hcut
       obtain ⟨w4,rfl⟩:∃ w4,w4=wc:=⟨_,rfl⟩
       replace HW:=Lib.hid (HWI.out.below hbc)
       have HOK:=Lib.hid (And.intro hn hkd)
       have z0:w4.cell? ⟨wi.heap.size,0,none⟩=some (.int .i64 kd):=hkc.cell 0
       have z1:w4.cell? ⟨wi.heap.size,1,none⟩=some (.string t):=hkc.cell 1
       have z2:w4.cell? ⟨wi.heap.size,2,none⟩=some (.int .i64 n):=hkc.cell 2
       have z3:w4.cell? ⟨wi.heap.size,3,none⟩=some (.int .i64 k):=hkc.cell 3
       have zl:=hkc.lt
       clear hn hkd hbc hkc HWB HBB HKB
       cases b with
       | false =>
        go_wp2
        go_ret2
        exact WordsOut.none HW.out.bel
       | true =>
        as_aux_lemma =>
         obtain ⟨wm,hwm⟩:∃ w',w4.alloc (.cells #[.int .i64 kd,.string t,.int .i64 n,.int .i64 k] 82)=w':=⟨_,rfl⟩
         have hbm:Below w4.heap.size w4 wm:=hwm▸(Below.refl _ _).alloc (Nat.le_refl _) _
         have hsm:Sl wm (fun _=>True) 4 (.slice (some ⟨w4.heap.size,0,none⟩) 1 1) 1 (WdV.cells ⟨kd,t,n,k⟩):=hwm▸(Own.made w4 82 4 (WdV.cells ⟨kd,t,n,k⟩) [] 1 1 rfl (Ones.nil.cons rfl |>.cons rfl |>.cons rfl |>.cons rfl) (Nat.le_refl _) (by decide) (Nat.le_refl 4)).sl (fun _ _=>trivial)
         have hwb:=HW.out.below hbm
         have hown:=hwb.own
         have HWB:=Lib.hid hwb
         clear hbm hwb
         go_wp2_with (at_builtin;refine wpList_app rfl _ _ rfl elemWd (by rfl) hown (by rfl) hsm (by unfold maxLen;omega) (by omega) ?_;intro v1 wA g1 g2 g3 g4 g5;refine StpW.go ?_)
         refine ⟨?_⟩
         have hp:=HWB.out.push (k':=k') ⟨kd,t,n,k⟩ ⟨HOK.out.1,HOK.out.2,htm⟩ g1 g2 g3 (by omega) (by omega)
         obtain ⟨p1,c1,rfl,hc11,hc12⟩:=own_form hp.own
         have HP:=Lib.hid hp
         clear hp g1 g2 g3 g4 g5 hown hsm hwm
         go_wp2
         go_roundw
         case rel=>exact ⟨_,k',rfl,HP.out⟩
         case measure=>(simp [intOf])<;>omega
    | false =>
     as_aux_lemma =>
      have hsx:(s.extract k s.size).size=s.size - k:=by rw [ByteArray.size_extract];omega
      have HS:=Lib.hid (sgn11_any wo (s.extract k s.size) (by omega) (by omega))
      have HRS:=Lib.hid hsx
      clear hsx
      go_wp2_with fail
      refine HS.out.mono ?_
      clear HS
      rintro e w2 ⟨t,rfl,hts,hb2⟩
      have hts:t.size≤s.size - k:=HRS.out▸hts
      have HW2:=Lib.hid (HW.out.below hb2)
      clear hb2
      go_upto_region 6 with fail
      go_cut [28] (fun v wc=>∃ q,v=.bool q∧w2=wc∧(q=false→1≤t.size))
      case first =>
       have HE:=Lib.hid (size_pos_of t)
       go_wp2
       go_meet
       exact ⟨_,rfl,rfl,HE.out⟩
      case rest =>
      obtain ⟨q,rfl,hwc,hq⟩:=hcut
      subst hwc
      replace HW:=HW2
      have hW2:=HW2.out
      cases q with
      | true =>
       go_wp2
       go_ret2
       exact WordsOut.none HW.out.bel
      | false =>
       have h1:=hq rfl
       have htm:t.size≤maxLen:=by unfold maxLen;omega
       clear hq hW2
       obtain ⟨wm,hwm⟩:∃ w',w2.alloc (.cells #[.int .i64 0,.string t,.int .i64 0,.int .i64 k] 82)=w':=⟨_,rfl⟩
       have hbm:Below w2.heap.size w2 wm:=hwm▸(Below.refl _ _).alloc (Nat.le_refl _) _
       have hsm:Sl wm (fun _=>True) 4 (.slice (some ⟨w2.heap.size,0,none⟩) 1 1) 1 (WdV.cells ⟨0,t,0,k⟩):=hwm▸(Own.made w2 82 4 (WdV.cells ⟨0,t,0,k⟩) [] 1 1 rfl (Ones.nil.cons rfl |>.cons rfl |>.cons rfl |>.cons rfl) (Nat.le_refl _) (by decide) (Nat.le_refl 4)).sl (fun _ _=>trivial)
       have hwb:=HW.out.below hbm
       have hown:=hwb.own
       have HWB:=Lib.hid hwb
       clear hbm hwb
       go_wp2_with (at_builtin;refine wpList_app rfl _ _ rfl elemWd (by rfl) hown (by rfl) hsm (by unfold maxLen;omega) (by omega) ?_;intro v1 wA g1 g2 g3 g4 g5;refine StpW.go ?_)
       refine ⟨?_⟩
       have hp:=HWB.out.push (k':=k+t.size) ⟨0,t,0,k⟩ ⟨by unfold fit64;simp only;omega,by unfold fit64;simp only;omega,htm⟩ g1 g2 g3 (by omega) (by omega)
       obtain ⟨p1,c1,rfl,hc11,hc12⟩:=own_form hp.own
       have HP:=Lib.hid hp
       clear hp g1 g2 g3 g4 g5 hown hsm hwm
       go_wp2
       go_roundw
       case rel=>exact ⟨_,k+t.size,by go_num,HP.out⟩
       case measure=>(simp [intOf])<;>omega
  ·skip
   go_wp2
   go_ret2
   exact ⟨_,l,_,rfl,HW.out.bel,HW.out.own.sl HW.out.new,Nat.le_trans hll hkz,HW.out.ok⟩
def ParseOut (w:World) (e:Ending) (w':World):Prop :=
 ∃ (x:EX) (hd:Hd) (p:Option Addr) (c:Nat) (a no:Int),e=.returned (.tuple #[.agg #[.int .i64 hd.op,.int .i64 hd.n,.string hd.s,.string hd.name,.string hd.src,.slice p x.kids.length c],.int .i64 a,.int .i64 no])∧x.hd=hd∧x.av=.slice p x.kids.length c ∧
  Below w.heap.size w w'∧x.at w' (fun q=>w.heap.size≤q)∧x.ok
theorem parse_anyX (w:World) (s:ByteArray) (hs:s.size≤1000):Calls Tryz.prog 7 #[.string s] w (ParseOut w):=by
 obtain ⟨w1,hww1⟩:∃ w',w.alloc (.cells #[.int .i64 0,.int .i64 0,.string ⟨#[]⟩,.string ⟨#[]⟩,.string ⟨#[]⟩,.slice none 0 0] 27)=w':=⟨_,rfl⟩
 have hbw1:Below w.heap.size w w1:=hww1▸(Below.refl _ _).alloc (Nat.le_refl _) _
 have hkw1:Blk w1 w.heap.size 27 [.int .i64 0,.int .i64 0,.string ⟨#[]⟩,.string ⟨#[]⟩,.string ⟨#[]⟩,.slice none 0 0]:=hww1▸Blk.new w _ _
 have HB1:=Lib.hid hbw1
 have HK1:=Lib.hid hkw1
 have HW:=Lib.hid (refwords_any w1 s hs)
 have hsz:w.heap.size < w1.heap.size:=hkw1.lt
 clear hbw1 hkw1
 go_enter Tryz.func7,Tryz.ntmps7
 go_wp2_with fail
 clear hww1
 refine HW.out.mono ?_
 clear HW
 rintro e w2 ⟨v,l,a,rfl,hb2,hsl,hll,hok⟩
 obtain ⟨pv,cv,rfl,hcv1,hcv2⟩:=hsl.form
 have HB:=Lib.hid (HB1.out.trans (hb2.mono HB1.out.size))
 have HK:=Lib.hid (HK1.out.below hb2)
 have HSL:=Lib.hid hsl
 have HOK:=Lib.hid hok
 have hsz2:=hb2.size
 clear hb2 hsl hok HB1 HK1
 by_cases ha:0≤a
 ·skip
  have hkr:=HK.out
  have hlr:=hkr.lt
  have hfr:∀ i,w2.frozen? ⟨w.heap.size,i,none⟩=false:=hkr.frozen
  obtain ⟨r0,r1,r2,r3,r4,r5⟩:=six_cells hkr
  clear hkr
  go_wp2
  obtain ⟨hkE,hoE⟩:=set_sixE HK.out (.int .i64 0) (.int .i64 0) (.string ⟨#[]⟩) (.string ⟨#[]⟩) (.string ⟨#[]⟩) (.slice none 0 0)
  generalize ((((((w2.setCell ⟨w.heap.size,0,none⟩ (.int .i64 0)).setCell ⟨w.heap.size,1,none⟩ (.int .i64 0)).setCell ⟨w.heap.size,2,none⟩ (.string ⟨#[]⟩)).setCell ⟨w.heap.size,3,none⟩ (.string ⟨#[]⟩)).setCell ⟨w.heap.size,4,none⟩ (.string ⟨#[]⟩)).setCell ⟨w.heap.size,5,none⟩ (.slice none 0 0))=wE at *
  obtain ⟨m0,m1,m2,m3,m4,m5⟩:=six_cells hkE
  exact bodyPost_ret (v:=.tuple #[.agg #[.int .i64 0,.int .i64 0,.string ⟨#[]⟩,.string ⟨#[]⟩,.string ⟨#[]⟩,.slice none 0 0],.int .i64 a,.int .i64 12]) (by simp [results,Tryz.results7,go_sem,m0,m1,m2,m3,m4,m5]) rfl (⟨.leaf ⟨0,0,⟨#[]⟩,⟨#[]⟩,⟨#[]⟩⟩,⟨0,0,⟨#[]⟩,⟨#[]⟩,⟨#[]⟩⟩,none,0,_,_,rfl,rfl,rfl,HB.out.trans (hoE.below HB.out.size (fun q hq=>by omega)),trivial,hd_ok (by decide) (by decide) (by decide) (by decide)⟩)
 ·skip
  obtain ⟨w3,hw3⟩:∃ w',w2.alloc (.cells #[.slice pv l.length cv,.int .i64 0,.int .i64 0,.bool false,.bool false] 59)=w':=⟨_,rfl⟩
  have hb3:Below w2.heap.size w2 w3:=hw3▸(Below.refl _ _).alloc (Nat.le_refl _) _
  have hk3:Blk w3 w2.heap.size 59 [.slice pv l.length cv,.int .i64 0,.int .i64 0,.bool false,.bool false]:=hw3▸Blk.new w2 _ _
  have hps:PS w3 w2.heap.size (.slice pv l.length cv) l ⟨0,0,false,false⟩:=⟨hk3,HSL.out.mono hb3.size (fun q _ hl=>hb3.block q hl) (fun q _ hl=>by omega),Nat.zero_le _,by omega,HOK.out⟩
  have HPS:=Lib.hid hps
  have HE:=Lib.hid ((par_all w2.heap.size (.slice pv l.length cv) l _ w3 _ hps).2.2 1 (Nat.lt_succ_self _))
  have hk3':=HK.out.below hb3
  replace HB:=Lib.hid (HB.out.trans (hb3.mono HB.out.size))
  replace HK:=Lib.hid hk3'
  have hsz3:w2.heap.size < w3.heap.size:=hk3.lt
  clear hb3 hk3 hps hk3'
  go_wp2_with fail
  clear hw3
  refine HE.out.mono ?_
  clear HE
  rintro e w4 ⟨o,n,sx,nx,cx,p,k,c,x,s4,rfl,hh,hv,hst,hx,hok⟩
  have hx4:=hx
  obtain ⟨p',c',hv'⟩:=EX.form_kids hx
  have hvv:=hv.symm.trans hv'
  obtain ⟨rfl,rfl,rfl⟩:p=p'∧k=x.kids.length∧c=c':=by cases hvv;exact ⟨rfl,rfl,rfl⟩
  have HH:=Lib.hid hh
  have HV:=Lib.hid hv
  have HX:=Lib.hid hx
  have HOKX:=Lib.hid hok
  have hb4:Below w.heap.size w3 w4:=hst.only.below (by omega) (fun q hq=>by omega)
  have hk4:=HK.out.only hst.only (by omega)
  replace HB:=Lib.hid (HB.out.trans hb4)
  have HST:=Lib.hid hst
  have hsz4:=hst.only.size
  clear hvv hv' hx4 hh hv hx hok hst hb4
  obtain ⟨w5,hww5⟩:∃ w',w4.alloc (.cells #[.int .i64 0,.int .i64 0,.string ⟨#[]⟩,.string ⟨#[]⟩,.string ⟨#[]⟩,.slice none 0 0] 27)=w':=⟨_,rfl⟩
  have hbw5:Below w4.heap.size w4 w5:=hww5▸(Below.refl _ _).alloc (Nat.le_refl _) _
  have hkw5:Blk w5 w4.heap.size 27 [.int .i64 0,.int .i64 0,.string ⟨#[]⟩,.string ⟨#[]⟩,.string ⟨#[]⟩,.slice none 0 0]:=hww5▸Blk.new w4 _ _
  have hl5:=hkw5.lt
  obtain ⟨d0,d1,d2,d3,d4,d5⟩:=six_cells hkw5
  have hfz5:∀ i,w5.frozen? ⟨w4.heap.size,i,none⟩=false:=hkw5.frozen
  obtain ⟨hkS,hoS⟩:=set_sixE hkw5 (.int .i64 o) (.int .i64 n) (.string sx) (.string nx) (.string cx) (.slice p x.kids.length c)
  obtain ⟨wS,hwS⟩:∃ w',((((((w5.setCell ⟨w4.heap.size,0,none⟩ (.int .i64 o)).setCell ⟨w4.heap.size,1,none⟩ (.int .i64 n)).setCell ⟨w4.heap.size,2,none⟩ (.string sx)).setCell ⟨w4.heap.size,3,none⟩ (.string nx)).setCell ⟨w4.heap.size,4,none⟩ (.string cx)).setCell ⟨w4.heap.size,5,none⟩ (.slice p x.kids.length c))=w':=⟨_,rfl⟩
  rw [hwS] at hkS hoS
  have hbS:Below w4.heap.size w4 wS:=hbw5.trans (hoS.below hbw5.size (fun i e=>by omega))
  have hsS:=(HST.out.on hbw5).box HPS.out hoS (by omega)
  have HEN:=Lib.hid (ends_any wS w2.heap.size _ l s4 hsS.ps s.size)
  have HKS:=Lib.hid hkS
  replace HX:=Lib.hid (EX.at_below hbS x HX.out)
  replace HB:=Lib.hid (HB.out.trans (hbS.mono HB.out.size))
  replace HK:=Lib.hid (hk4.below hbS)
  have hszS:=hbS.size
  clear hbw5 hkw5 hkS hoS hbS hsS hk4
  go_wp2_with fail
  clear hww5 hwS d0 d1 d2 d3 d4 d5 hfz5 hl5
  refine HEN.out.mono ?_
  clear HEN
  rintro e w6 ⟨en,rfl,hb6⟩
  replace HX:=Lib.hid (EX.at_below hb6 x HX.out)
  replace HB:=Lib.hid (HB.out.trans (hb6.mono HB.out.size))
  replace HK:=Lib.hid (HK.out.below hb6)
  replace HKS:=Lib.hid (HKS.out.below hb6)
  have hsz6:=hb6.size
  clear hb6
  by_cases hen:0≤en
  ·have hkr:=HK.out
   have hlr:=hkr.lt
   have hfr:∀ i,w6.frozen? ⟨w.heap.size,i,none⟩=false:=hkr.frozen
   obtain ⟨r0,r1,r2,r3,r4,r5⟩:=six_cells hkr
   clear hkr
   go_wp2
   obtain ⟨hkE,hoE⟩:=set_sixE HK.out (.int .i64 0) (.int .i64 0) (.string ⟨#[]⟩) (.string ⟨#[]⟩) (.string ⟨#[]⟩) (.slice none 0 0)
   generalize ((((((w6.setCell ⟨w.heap.size,0,none⟩ (.int .i64 0)).setCell ⟨w.heap.size,1,none⟩ (.int .i64 0)).setCell ⟨w.heap.size,2,none⟩ (.string ⟨#[]⟩)).setCell ⟨w.heap.size,3,none⟩ (.string ⟨#[]⟩)).setCell ⟨w.heap.size,4,none⟩ (.string ⟨#[]⟩)).setCell ⟨w.heap.size,5,none⟩ (.slice none 0 0))=wE at *
   obtain ⟨m0,m1,m2,m3,m4,m5⟩:=six_cells hkE
   exact bodyPost_ret (v:=.tuple #[.agg #[.int .i64 0,.int .i64 0,.string ⟨#[]⟩,.string ⟨#[]⟩,.string ⟨#[]⟩,.slice none 0 0],.int .i64 en,.int .i64 12]) (by simp [results,Tryz.results7,go_sem,m0,m1,m2,m3,m4,m5]) rfl (⟨.leaf ⟨0,0,⟨#[]⟩,⟨#[]⟩,⟨#[]⟩⟩,⟨0,0,⟨#[]⟩,⟨#[]⟩,⟨#[]⟩⟩,none,0,_,_,rfl,rfl,rfl,HB.out.trans (hoE.below HB.out.size (fun q hq=>by omega)),trivial,hd_ok (by decide) (by decide) (by decide) (by decide)⟩)
  ·obtain ⟨d0,d1,d2,d3,d4,d5⟩:=six_cells HKS.out
   have hl6:=HKS.out.lt
   have hcnt:=count_any x w6 _ p c HX.out HV.out
   simp only [HH.out] at hcnt
   have HC:=Lib.hid hcnt
   clear hcnt
   go_wp2_with fail
   clear d0 d1 d2 d3 d4 d5 hl6
   refine HC.out.mono ?_
   clear HC
   rintro e w7 ⟨cn,cd,rfl,hb7⟩
   replace HX:=Lib.hid (EX.at_below hb7 x HX.out)
   replace HB:=Lib.hid (HB.out.trans (hb7.mono HB.out.size))
   replace HK:=Lib.hid (HK.out.below hb7)
   replace HKS:=Lib.hid (HKS.out.below hb7)
   have hsz7:=hb7.size
   clear hb7
   go_upto_region 10 with fail
   go_cut [53] (fun t wc=>∃ b,t=.bool b∧Below w7.heap.size w7 wc)
   case first =>
    cases t1:(en == -2) with
    | true =>
     go_wp2
     go_meet
     exact ⟨_,rfl,Below.refl _ _⟩
    | false =>
    by_cases h300:300 < cn
    ·have t2:decide (300 < cn)=true:=decide_eq_true h300
     go_wp2
     go_meet
     exact ⟨_,rfl,Below.refl _ _⟩
    have t2:decide (300 < cn)=false:=decide_eq_false h300
    by_cases h12:12 < cd
    ·have t3:decide (12 < cd)=true:=decide_eq_true h12
     go_wp2
     go_meet
     exact ⟨_,rfl,Below.refl _ _⟩
    have t3:decide (12 < cd)=false:=decide_eq_false h12
    obtain ⟨d0,d1,d2,d3,d4,d5⟩:=six_cells HKS.out
    have hl6:=HKS.out.lt
    have hbu:=built_any x w7 _ p c HX.out HOKX.out HV.out
    simp only [HH.out] at hbu
    have HC:=Lib.hid hbu
    clear hbu
    go_wp2_with fail
    refine HC.out.mono ?_
    clear HC
    rintro e w8 ⟨b,rfl,hb8⟩
    have HB8:=Lib.hid hb8
    clear hb8
    go_wp2
    go_meet
    exact ⟨_,rfl,HB8.out⟩
   case rest =>
   obtain ⟨b,rfl,hbc⟩:=hcut
   obtain ⟨w8,rfl⟩:∃ w8,w8=wc:=⟨_,rfl⟩
   replace HX:=Lib.hid (EX.at_below hbc x HX.out)
   replace HB:=Lib.hid (HB.out.trans (hbc.mono HB.out.size))
   replace HK:=Lib.hid (HK.out.below hbc)
   replace HKS:=Lib.hid (HKS.out.below hbc)
   have hsz8:=hbc.size
   clear hbc
   cases b with
   | true =>
    have hkr:=HK.out
    have hlr:=hkr.lt
    have hfr:∀ i,w8.frozen? ⟨w.heap.size,i,none⟩=false:=hkr.frozen
    obtain ⟨r0,r1,r2,r3,r4,r5⟩:=six_cells hkr
    clear hkr
    go_wp2
    obtain ⟨hkE,hoE⟩:=set_sixE HK.out (.int .i64 0) (.int .i64 0) (.string ⟨#[]⟩) (.string ⟨#[]⟩) (.string ⟨#[]⟩) (.slice none 0 0)
    generalize ((((((w8.setCell ⟨w.heap.size,0,none⟩ (.int .i64 0)).setCell ⟨w.heap.size,1,none⟩ (.int .i64 0)).setCell ⟨w.heap.size,2,none⟩ (.string ⟨#[]⟩)).setCell ⟨w.heap.size,3,none⟩ (.string ⟨#[]⟩)).setCell ⟨w.heap.size,4,none⟩ (.string ⟨#[]⟩)).setCell ⟨w.heap.size,5,none⟩ (.slice none 0 0))=wE at *
    obtain ⟨m0,m1,m2,m3,m4,m5⟩:=six_cells hkE
    exact bodyPost_ret (v:=.tuple #[.agg #[.int .i64 0,.int .i64 0,.string ⟨#[]⟩,.string ⟨#[]⟩,.string ⟨#[]⟩,.slice none 0 0],.int .i64 0,.int .i64 14]) (by simp [results,Tryz.results7,go_sem,m0,m1,m2,m3,m4,m5]) rfl (⟨.leaf ⟨0,0,⟨#[]⟩,⟨#[]⟩,⟨#[]⟩⟩,⟨0,0,⟨#[]⟩,⟨#[]⟩,⟨#[]⟩⟩,none,0,_,_,rfl,rfl,rfl,HB.out.trans (hoE.below HB.out.size (fun q hq=>by omega)),trivial,hd_ok (by decide) (by decide) (by decide) (by decide)⟩)
   | false =>
    obtain ⟨d0,d1,d2,d3,d4,d5⟩:=six_cells HKS.out
    have hl8:=HKS.out.lt
    have hkr:=HK.out
    have hlr:=hkr.lt
    have hfr:∀ i,w8.frozen? ⟨w.heap.size,i,none⟩=false:=hkr.frozen
    obtain ⟨r0,r1,r2,r3,r4,r5⟩:=six_cells hkr
    clear hkr
    go_wp2
    obtain ⟨hkE,hoE⟩:=set_sixE HK.out (.int .i64 o) (.int .i64 n) (.string sx) (.string nx) (.string cx) (.slice p x.kids.length c)
    generalize ((((((w8.setCell ⟨w.heap.size,0,none⟩ (.int .i64 o)).setCell ⟨w.heap.size,1,none⟩ (.int .i64 n)).setCell ⟨w.heap.size,2,none⟩ (.string sx)).setCell ⟨w.heap.size,3,none⟩ (.string nx)).setCell ⟨w.heap.size,4,none⟩ (.string cx)).setCell ⟨w.heap.size,5,none⟩ (.slice p x.kids.length c))=wE at *
    obtain ⟨m0,m1,m2,m3,m4,m5⟩:=six_cells hkE
    exact bodyPost_ret (v:=.tuple #[.agg #[.int .i64 o,.int .i64 n,.string sx,.string nx,.string cx,.slice p x.kids.length c],.int .i64 0,.int .i64 0]) (by simp [results,Tryz.results7,go_sem,m0,m1,m2,m3,m4,m5]) rfl (⟨x,⟨o,n,sx,nx,cx⟩,p,c,_,_,rfl,HH.out,HV.out,HB.out.trans (hoE.below HB.out.size (fun q hq=>by omega)),EX.at_reg (fun q hq=>by omega) (EX.at_box HX.out hoE (by omega)),HOKX.out⟩)
theorem ThsAt.cap {w:World} {B:Nat→Prop} {v:Value} {l:List ThV} (h:ThsAt w B v l):ThsAt w (fun q=>q < w.heap.size) v l :=
 ⟨h.sl.mono (Nat.le_refl _) (fun _ _ _=>rfl) (fun _ _ hl=>hl),fun t ht=>⟨(h.th t ht).cols.mono (Nat.le_refl _) (fun _ _ _=>rfl) (fun _ _ hl=>hl),
  ⟨(h.th t ht).rows.1.mono (Nat.le_refl _) (fun _ _ _=>rfl) (fun _ _ hl=>hl),fun r hr=>((h.th t ht).rows.2 r hr).mono (Nat.le_refl _) (fun _ _ _=>rfl) (fun _ _ hl=>hl)⟩,(h.th t ht).val,(h.th t ht).rok,(h.th t ht).nms,(h.th t ht).nm⟩⟩
theorem efuel_law (w:World) (B:Nat→Prop) (v:Value) (l:List ThV) (h0:ThsAt w B v l) (s:ByteArray) (fuel:Int) (m:Nat) (hm:(m:Int) < 256) :
 Calls Tryz.prog 3 #[v,.string s,.int .i64 fuel,.int .u8 (m:Int)] w fun e w'=>e=.returned (.bool true)∧Below w.heap.size w w':=by
 have h:=h0.cap
 clear h0
 obtain ⟨p,cap,rfl,hc1,hc2⟩:=h.sl.form
 have HG:=Lib.hid (great16_any w _ _ l fuel h)
 have H:=Lib.hid h
 clear h
 go_enter Tryz.func3,Tryz.ntmps3
 go_wp2_with fail
 refine HG.out.mono ?_
 clear HG
 rintro e w1 ⟨rfl,hb1⟩
 cases hg:greatThs l fuel with
 | true =>
  clear hg
  have HB:=Lib.hid hb1
  clear hb1
  have HAW:=Lib.hid (awake16_any w1)
  go_wp2_with fail
  refine HAW.out.mono ?_
  rintro e wz ⟨rfl,hbz⟩
  go_wp2_with fail
  go_ret
  exact ⟨rfl,HB.out.trans (hbz.mono HB.out.size)⟩
 | false =>
  by_cases hs:1000 < s.size
  ·skip
   have d1:decide ((1000:Int) < s.size)=true:=decide_eq_true (by omega)
   have HB:=Lib.hid hb1
   clear hb1 hs hg
   have HAW:=Lib.hid (awake16_any w1)
   go_wp2_with fail
   refine HAW.out.mono ?_
   rintro e wz ⟨rfl,hbz⟩
   go_wp2_with fail
   go_ret
   exact ⟨rfl,HB.out.trans (hbz.mono HB.out.size)⟩
  have d1:decide ((1000:Int) < s.size)=false:=decide_eq_false (by omega)
  have hs2:s.size≤1000:=by omega
  obtain ⟨hl12,hf3,hrl⟩:=small16 hg
  have HRL:=Lib.hid hrl
  clear hs hg hrl
  have HAW:=Lib.hid (awake16_any w1)
  go_wp2_with fail
  refine HAW.out.mono ?_
  rintro e wz ⟨rfl,hbz⟩
  have hb2:=hb1.trans (hbz.mono hb1.size)
  have HB2:=Lib.hid hb2
  have HP:=Lib.hid (parse_anyX wz s hs2)
  clear hb1 hbz hb2 HAW d1
  go_wp2_with fail
  refine HP.out.mono ?_
  clear HP
  rintro e w3 ⟨x,hd,p',c,a,no,rfl,rfl,hv,hb3,hx,hok⟩
  obtain ⟨w4,hw4⟩:∃ w4,w3.alloc (.cells #[.int .i64 x.hd.op,.int .i64 x.hd.n,.string x.hd.s,.string x.hd.name,.string x.hd.src,.slice p' x.kids.length c] 27)=w4:=⟨_,rfl⟩
  have hb4:Below w3.heap.size w3 w4:=hw4▸(Below.refl _ _).alloc (Nat.le_refl _) _
  have hk4:Blk w4 w3.heap.size 27 [.int .i64 x.hd.op,.int .i64 x.hd.n,.string x.hd.s,.string x.hd.name,.string x.hd.src,.slice p' x.kids.length c]:=hw4▸Blk.new w3 _ _
  have hx4:x.at w4 (fun q=>q < w4.heap.size):=EX.at_reg (fun q hq=>hq.2) (EX.at_cap (EX.at_below hb4 x hx))
  have hb24:=HB2.out.trans ((hb3.trans (hb4.mono hb3.size)).mono HB2.out.size)
  have HB4:=Lib.hid hb24
  have HK4:=Lib.hid hk4
  have HX:=Lib.hid hx4
  have HOK:=Lib.hid hok
  have HV:=Lib.hid hv
  have HW4:=Lib.hid hw4
  clear hv hb3 hx hok hb4 hk4 hx4 hb24 hw4 HB2
  go_upto_region 4 with fail
  rw [HW4.out]
  by_cases hno:no=0
  ·skip
   have t1:(no != 0)=false:=by simp [hno]
   clear hno
   obtain ⟨n,hn⟩:∃ n:Nat,max fuel 0=(n:Int):=⟨(max fuel 0).toNat,by omega⟩
   have hn3:n≤3000:=by omega
   have hB4:∀ q,q < w.heap.size→q < w4.heap.size:=fun q hq=>by have:=HB4.out.size;omega
   have HP1:=Lib.hid (place_any w4 _ hB4 _ l (H.out.below HB4.out) fuel n hn (by omega) hl12 HRL.out)
   go_wp2_with fail
   refine HP1.out.mono ?_
   clear HP1
   rintro e w5 ⟨eb,pb,v1,vL1,ks1,rfl,hp1,hk1⟩
   have hB5:∀ q,q < w.heap.size→q < w5.heap.size:=fun q hq=>by have:=hB4 q hq;have:=hp1.bel.size;omega
   have HP2:=Lib.hid (place_any w5 _ hB5 _ l (H.out.below (HB4.out.trans (hp1.bel.mono HB4.out.size))) ((n:Int)+(m:Int)) (n+m) (by omega) (by omega) hl12 HRL.out)
   have HPL1:=Lib.hid hp1
   have HKS1:=Lib.hid hk1
   clear hp1 hk1
   go_wp2_with fail
   refine HP2.out.mono ?_
   clear HP2
   rintro e w6 ⟨eb2,pb2,v2,vL2,ks2,rfl,hp2,hk2⟩
   have HPL2:=Lib.hid hp2
   have HKS2:=Lib.hid hk2
   have HN:=Lib.hid hn
   have HB5:=Lib.hid hB5
   have HB4':=Lib.hid hB4
   have hb46:Below w4.heap.size w4 w6:=HPL1.out.bel.trans (hp2.bel.mono HPL1.out.bel.size)
   have HB46:=Lib.hid hb46
   obtain ⟨d0,d1,d2,d3,d4,d5⟩:=six_cells (HK4.out.below hb46)
   have hld:=(HK4.out.below hb46).lt
   clear hp2 hk2 hn hB5 hB4 hb46 t1
   have hfu:=evalS_fuel x (l.map thingA) n
   have hE1:=(HPL1.out.below HPL2.out.bel).env
   have hoff1:∀ q,q < w4.heap.size→offE eb v1 q:=fun q hq=>⟨by have:=HPL1.out.lo.1;omega,fun e=>by have:=(HPL1.out.vlo q e).1;omega⟩
   have hks1:ks1.length≤1000:=by
    have h1:=congrArg List.length HKS1.out
    rw [List.length_map,List.length_map] at h1
    omega
   have hks2:ks2.length≤1000:=by
    have h1:=congrArg List.length HKS2.out
    rw [List.length_map,List.length_map] at h1
    omega
   have hc1:=evals_any x HOK.out w6 eb n v1 ks1 p' c hE1 (EX.at_reg hoff1 (EX.at_below HB46.out x HX.out)) HV.out hks1
   rw [HKS1.out] at hc1
   obtain ⟨⟨⟨xk,xn,xs⟩,f,n1⟩,hA1⟩:∃ a,evalS x (l.map thingA) n=a:=⟨_,rfl⟩
   obtain ⟨⟨⟨yk,yn,ys⟩,g,n2⟩,hA2⟩:∃ a,evalS x (l.map thingA) (n+m)=a:=⟨_,rfl⟩
   have hfu1:=hfu.1
   have hfu2:=fun h=>hfu.2 h m
   rw [hA1] at hc1 hfu1 hfu2
   rw [hA2] at hfu2
   have HC:=Lib.hid hc1
   have HF1:=Lib.hid hfu1
   have HF2:=Lib.hid hfu2
   have HA2:=Lib.hid hA2
   clear hE1 hoff1 hks1 hc1 hA1 hA2 hfu hfu1 hfu2
   go_wp2_with fail
   clear d0 d1 d2 d3 d4 d5 hld
   refine HC.out.mono ?_
   clear HC
   rintro e w7 ⟨v1',rfl,he7,hs7⟩
   simp only at he7
   have hE2:=PlS.stay HB5.out HPL2.out hs7.only (fun q e=>by
    have h1:=HPL1.out.lo.1
    have h2:=HPL1.out.env.blk.lt
    have h3:=HB4.out.size
    rcases e with e|e
    ·exact ⟨by omega,by omega⟩
    ·have h4:=(HPL1.out.vlo q e).1
     have h5:=HPL1.out.env.own.lt q e
     exact ⟨by omega,by omega⟩)
   have hb47:Below w4.heap.size w4 w7:=HB46.out.trans (hs7.only.below HB46.out.size (fun q e=>by
    rcases e with e|e
    ·have:=HPL1.out.lo.1
     omega
    ·exact (HPL1.out.vlo q e).1))
   obtain ⟨w8,hw8⟩:∃ w8,w7.alloc (.cells #[.int .i64 xk,.int .i64 xn,.string xs] 35)=w8:=⟨_,rfl⟩
   have hb8:Below w7.heap.size w7 w8:=hw8▸(Below.refl _ _).alloc (Nat.le_refl _) _
   have hk8:Blk w8 w7.heap.size 35 [.int .i64 xk,.int .i64 xn,.string xs]:=hw8▸Blk.new w7 _ _
   have hb48:Below w4.heap.size w4 w8:=hb47.trans (hb8.mono hb47.size)
   have hoff2:∀ q,q < w4.heap.size→offE eb2 v2 q:=fun q hq=>by
    have h1:=HPL1.out.bel.size
    exact ⟨by have:=HPL2.out.lo.1;omega,fun e=>by have:=(HPL2.out.vlo q e).1;omega⟩
   have hc2:=evals_any x HOK.out w8 eb2 (n+m) v2 ks2 p' c (hE2.below hb8) (EX.at_reg hoff2 (EX.at_below hb48 x HX.out)) HV.out hks2
   rw [HKS2.out,HA2.out] at hc2
   have HC:=Lib.hid hc2
   obtain ⟨d0,d1,d2,d3,d4,d5⟩:=six_cells (HK4.out.below hb48)
   have hld:=(HK4.out.below hb48).lt
   have hv2l:∀ q,v2.ownBlock=some q→q < w7.heap.size:=hE2.own.lt
   have he2l:eb2 < w7.heap.size:=hE2.blk.lt
   have HV2L:=Lib.hid hv2l
   have HB48:=Lib.hid hb48
   have HK8:=Lib.hid hk8
   have HB1:=Lib.hid (he7.blk.below hb8)
   have HW8:=Lib.hid hw8
   clear he7 hs7 hE2 hb47 hb8 hk8 hb48 hoff2 hc2 hks2 hw8 hv2l
   go_upto_region 9 with fail
   rw [HW8.out]
   go_wp2_with fail
   clear d0 d1 d2 d3 d4 d5 hld
   refine HC.out.mono ?_
   clear HC
   rintro e w9 ⟨v2',rfl,he9,hs9⟩
   simp only at he9
   have hn2:=he9.fuel
   have hb49:Below w4.heap.size w4 w9:=HB48.out.trans (hs9.only.below HB48.out.size (fun q e=>by
    have h1:=HPL1.out.bel.size
    rcases e with e|e
    ·have:=HPL2.out.lo.1
     omega
    ·have:=(HPL2.out.vlo q e).1
     omega))
   have hk9:=HK8.out.only hs9.only (fun e=>by
    rcases e with e|e
    ·omega
    ·have:=HV2L.out _ e
     omega)
   have hbe9:=HB1.out.only hs9.only (fun e=>by
    have h1:=HPL1.out.env.blk.lt
    rcases e with e|e
    ·have:=HPL2.out.lo.1
     omega
    ·have:=(HPL2.out.vlo _ e).1
     omega)
   obtain ⟨w10,hw10⟩:∃ w10,w9.alloc (.cells #[.int .i64 yk,.int .i64 yn,.string ys] 35)=w10:=⟨_,rfl⟩
   have hb10:Below w9.heap.size w9 w10:=hw10▸(Below.refl _ _).alloc (Nat.le_refl _) _
   have hk10:Blk w10 w9.heap.size 35 [.int .i64 yk,.int .i64 yn,.string ys]:=hw10▸Blk.new w9 _ _
   have HL1:=Lib.hid (left_blk w10 eb _ _ (hbe9.below hb10))
   have HL2:=Lib.hid (left_blk w10 eb2 _ _ (he9.blk.below hb10))
   have HBE:=Lib.hid (HB4.out.trans ((hb49.trans (hb10.mono hb49.size)).mono HB4.out.size))
   obtain ⟨x0,x1,x2⟩:=three_cells (hk9.below hb10)
   have hlx:=(hk9.below hb10).lt
   obtain ⟨y0,y1,y2⟩:=three_cells hk10
   have hly:=hk10.lt
   have HW10:=Lib.hid hw10
   clear he9 hs9 hb49 hk9 hbe9 hb10 hk10 hw10 he2l
   go_upto_region 10 with fail
   rw [HW10.out]
   by_cases hf16:f=16
   ·skip
    subst hf16
    obtain ⟨hn1,hz⟩:=HF1.out rfl
    unfold zeroA at hz
    cases hz
    have hn0:n1=0:=hn1
    subst hn0
    clear HF1 HF2 HA2 hn1
    go_wp2_with fail
    refine HL1.out.mono ?_
    clear HL1 HL2
    rintro e w11 ⟨rfl,rfl⟩
    go_wp2_with fail
    go_ret
    exact ⟨rfl,HBE.out⟩
   ·skip
    have t2:(f == 16)=false:=by simp [hf16]
    have hq:=HF2.out hf16
    cases hq
    clear HF1 HF2 HA2 hf16
    rw [show ((n1+m:Nat):Int)=(n1:Int)+(m:Int) from by omega] at HL2
    go_wp2_with fail
    refine HL2.out.mono ?_
    clear HL2
    rintro e w11 ⟨rfl,rfl⟩
    go_wp2_with fail
    refine HL1.out.mono ?_
    clear HL1
    rintro e w11 ⟨rfl,rfl⟩
    go_wp2_with fail
    go_ret
    exact ⟨rfl,HBE.out⟩
  ·have t1:(no != 0)=true:=by simp [hno]
   go_wp2_with fail
   go_ret
   exact ⟨rfl,HB4.out⟩
end Go.Proofs.YtnpplhkpnbonaaaGreat
namespace Go.Proofs.YtnpplhkpnbonaaaGreat
open Go.RowKit Go.Afx
theorem wf_fit64 {n:Int} (h:(Lit.int .i64 n).wf=true):fit64 n:=by
 have h2:-9223372036854775808≤n∧n≤9223372036854775807:=by simpa [Lit.wf,IntKind.min,IntKind.max,IntKind.bits,IntKind.signed] using h
 exact h2
theorem ocInt:Tryz.prog.cellsOf 3=1:=by kernel_rfl
theorem ocI64:Tryz.prog.cellsOf 2=1:=by kernel_rfl
theorem ocStr:Tryz.prog.cellsOf 9=1:=by kernel_rfl
theorem ocVal:Tryz.prog.cellsOf 35=3:=by kernel_rfl
theorem ocRow:Tryz.prog.cellsOf 42=1:=by kernel_rfl
section
variable {H : Type} {enc : TypeId × Value → H} {w : World}
theorem open_ints {v:Value} {d:DataW H} {ps:List MemPlace} (h:DataW.Trod enc Tryz.prog w 0 (fun _=>true) true 100 v d ps) (hv:v.cells.toList=[v]) :
 ∃ l:List Int,Sl w (fun _=>True) 1 v l.length (ints l)∧∀ n∈l,fit64 n:=by
 obtain ⟨fuel,hf⟩:=h
 rw [hv] at hf
 obtain ⟨l,h1,h2⟩:=open_ints_sl Tryz.underlying100 Tryz.underlying3 ocInt hf
 exact ⟨l,h1,fun n hn=>wf_fit64 (h2 n hn)⟩
theorem flat_one {α:Type} (f:α→Value) (l:List α):(l.map fun x=>[f x]).flatten=l.map f:=by
 induction l with
 | nil=>rfl
 | cons a l ih=>simp [ih]
def AV.read (a:AV):Prop:=fit64 a.kind∧fit64 a.n∧a.s.size≤maxLen
theorem open_av {fuel:Nat} {c:List Value} {y:DataW H × List MemPlace} (hl:c.length=3) (hy:DataW.trod enc Tryz.prog w 0 (fun _=>true) true fuel 35 c=some y):∃ a:AV,c=a.cells∧a.read:=by
 obtain ⟨n,hfs⟩:=open_fields Tryz.underlying35 hy
 obtain ⟨c0,c1,c2,rfl⟩:=list3 hl
 obtain ⟨y0,h0⟩:=hfs 0 _ rfl
 obtain ⟨y1,h1⟩:=hfs 1 _ rfl
 obtain ⟨y2,h2⟩:=hfs 2 _ rfl
 simp only [ocInt,ocI64,ocStr,List.drop_zero,List.drop_succ_cons,List.take_succ_cons,List.take_zero] at h0 h1 h2
 obtain ⟨k,e0,_,w0⟩:=DataW.trod_int Tryz.underlying3 h0
 obtain ⟨m,e1,_,w1⟩:=DataW.trod_int Tryz.underlying2 h1
 obtain ⟨s,e2,_,w2⟩:=DataW.trod_string Tryz.underlying9 h2
 simp only [List.cons.injEq,and_true] at e0 e1 e2
 subst e0 e1 e2
 exact ⟨⟨k,m,s⟩,rfl,wf_fit64 w0,wf_fit64 w1,w2⟩
theorem av_ones (a:AV):Ones a.cells:=by
 intro u hu
 simp [AV.cells] at hu
 rcases hu with rfl|rfl|rfl<;>rfl
theorem open_row_at {fuel:Nat} {v:Value} {y:DataW H × List MemPlace} (hf:DataW.trod enc Tryz.prog w 0 (fun _=>true) true fuel 42 [v]=some y):∃ l:List AV,Sl w (fun _=>True) 3 v l.length (rowCells l)∧∀ a∈l,a.read:=by
 obtain ⟨es,h1,h2⟩:=open_sl Tryz.underlying42 ocVal (by omega) hf (fun c=>∃ a:AV,c=a.cells∧a.read) (fun c ⟨a,hc,_⟩=>by subst hc;exact av_ones a) (fun f c y hl hy=>open_av hl hy)
 obtain ⟨l,rfl,h4⟩:=choose_list es (fun c hcm=>(h1 c hcm).2)
 rw [List.length_map] at h2
 exact ⟨l,h2,h4⟩
theorem open_row {v:Value} {d:DataW H} {ps:List MemPlace} (h:DataW.Trod enc Tryz.prog w 0 (fun _=>true) true 42 v d ps) (hv:v.cells.toList=[v]) :
 ∃ l:List AV,Sl w (fun _=>True) 3 v l.length (rowCells l)∧∀ a∈l,a.read:=by
 obtain ⟨fuel,hf⟩:=h
 rw [hv] at hf
 exact open_row_at hf
theorem sl_one {w:World} {B:Nat→Prop} {sz:Nat} {v:Value} {n:Nat} {cs:List Value} (h:Sl w B sz v n cs):v.oneCell'=true:=by
 obtain ⟨p,cap,rfl,_⟩:=h.form
 rfl
theorem open_rows_at {fuel:Nat} {v:Value} {y:DataW H × List MemPlace} (hf:DataW.trod enc Tryz.prog w 0 (fun _=>true) true fuel 49 [v]=some y):∃ rows:List RowV,RowsAt w (fun _=>True) v rows∧∀ r∈rows,∀ a∈r.l,a.read:=by
 obtain ⟨es,h1,h2⟩:=open_sl Tryz.underlying49 ocRow (by omega) hf (fun c=>∃ r:RowV,c=[r.v]∧Sl w (fun _=>True) 3 r.v r.l.length (rowCells r.l)∧∀ a∈r.l,a.read) (fun c ⟨r,hc,hr,_⟩=>by subst hc;exact Ones.nil.cons (sl_one hr))
  (fun f c y hl hy=>by
   obtain ⟨u,rfl⟩:=list1 hl
   obtain ⟨l,h3,h4⟩:=open_row_at hy
   exact ⟨⟨u,l⟩,rfl,h3,h4⟩)
 obtain ⟨rows,rfl,h4⟩:=choose_list (f:=fun r:RowV=>[r.v]) es (fun c hcm=>(h1 c hcm).2)
 rw [flat_one,List.length_map] at h2
 exact ⟨rows,⟨h2,fun r hr=>(h4 r hr).1⟩,fun r hr=>(h4 r hr).2⟩
theorem open_rows {v:Value} {d:DataW H} {ps:List MemPlace} (h:DataW.Trod enc Tryz.prog w 0 (fun _=>true) true 49 v d ps) (hv:v.cells.toList=[v]) :
 ∃ rows:List RowV,RowsAt w (fun _=>True) v rows∧∀ r∈rows,∀ a∈r.l,a.read:=by
 obtain ⟨fuel,hf⟩:=h
 rw [hv] at hf
 exact open_rows_at hf
end
end Go.Proofs.YtnpplhkpnbonaaaGreat
namespace Go.Proofs.YtnpplhkpnbonaaaGreat
open Go.RowKit Go.Afx
theorem ocColE:Tryz.prog.cellsOf 149=2:=by kernel_rfl
theorem ocColsE:Tryz.prog.cellsOf 48=1:=by kernel_rfl
theorem ocRowsE:Tryz.prog.cellsOf 49=1:=by kernel_rfl
theorem ocThing:Tryz.prog.cellsOf 51=7:=by kernel_rfl
theorem list7E {α:Type} {l:List α} (h:l.length=7):∃ a b c d e f g,l=[a,b,c,d,e,f,g]:=by
 match l,h with
 | [a,b,c,d,e,f,g],_=>exact ⟨a,b,c,d,e,f,g,rfl⟩
section
variable {H : Type} {enc : TypeId × Value → H} {w : World}
theorem open_colsE {fuel:Nat} {v:Value} {y:DataW H × List MemPlace} (hf:DataW.trod enc Tryz.prog w 0 (fun _=>true) true fuel 48 [v]=some y):∃ l:List ColV,Sl w (fun _=>True) 2 v l.length (colCells l)∧∀ c∈l,c.name.size≤maxLen:=by
 obtain ⟨es,h1,h2⟩:=open_sl Tryz.underlying48 ocColE (by omega) hf (fun c=>∃ a:ColV,c=a.cells∧a.name.size≤maxLen) (fun c ⟨a,hc,_⟩=>by subst hc;intro u hu;simp [ColV.cells] at hu;rcases hu with rfl|rfl<;>rfl) (fun f c y hl hy=>by
  obtain ⟨n,hfs⟩:=open_fields Tryz.underlying149 hy
  obtain ⟨c0,c1,rfl⟩:=list2 hl
  obtain ⟨y0,h0⟩:=hfs 0 _ rfl
  obtain ⟨y1,h1⟩:=hfs 1 _ rfl
  simp only [ocInt,ocStr,List.drop_zero,List.drop_succ_cons,List.take_succ_cons,List.take_zero] at h0 h1
  obtain ⟨s,e0,_,w0⟩:=DataW.trod_string Tryz.underlying9 h0
  obtain ⟨k,e1,_,w1⟩:=DataW.trod_int Tryz.underlying3 h1
  simp only [List.cons.injEq,and_true] at e0 e1
  subst e0 e1
  exact ⟨⟨s,k⟩,rfl,w0⟩)
 obtain ⟨l,rfl,h4⟩:=choose_list es (fun c hcm=>(h1 c hcm).2)
 rw [List.length_map] at h2
 exact ⟨l,h2,h4⟩
theorem open_th {fuel:Nat} {c:List Value} {y:DataW H × List MemPlace} (hl:c.length=7) (hy:DataW.trod enc Tryz.prog w 0 (fun _=>true) true fuel 51 c=some y):∃ t:ThV,c=t.cells∧ThAt w (fun _=>True) t:=by
 obtain ⟨n,hfs⟩:=open_fields Tryz.underlying51 hy
 obtain ⟨c0,c1,c2,c3,c4,c5,c6,rfl⟩:=list7E hl
 obtain ⟨y0,h0⟩:=hfs 0 _ rfl
 obtain ⟨y1,h1⟩:=hfs 1 _ rfl
 obtain ⟨y2,h2⟩:=hfs 2 _ rfl
 obtain ⟨y3,h3⟩:=hfs 3 _ rfl
 obtain ⟨y4,h4⟩:=hfs 4 _ rfl
 simp only [ocInt,ocStr,ocVal,ocColsE,ocRowsE,List.drop_zero,List.drop_succ_cons,List.take_succ_cons,List.take_zero] at h0 h1 h2 h3 h4
 obtain ⟨s,e0,_,w0⟩:=DataW.trod_string Tryz.underlying9 h0
 obtain ⟨k,e1,_,_⟩:=DataW.trod_int Tryz.underlying3 h1
 obtain ⟨a,e2,_,w2,w2'⟩:=open_av rfl h2
 obtain ⟨cl,hc,hcn⟩:=open_colsE h3
 obtain ⟨rows,hr,hrk⟩:=open_rows_at h4
 simp only [List.cons.injEq,and_true] at e0 e1
 subst e0 e1
 unfold AV.cells at e2
 simp only [List.cons.injEq,and_true] at e2
 obtain ⟨rfl,rfl,rfl⟩:=e2
 exact ⟨⟨s,k,a,c5,cl,c6,rows⟩,rfl,⟨hc,hr,⟨w2,w2'⟩,fun r hr v hv=>(hrk r hr v hv).2,hcn,w0⟩⟩
theorem th_ones7 {B:Nat→Prop} {t:ThV} (h:ThAt w B t):Ones t.cells :=
 Ones.nil.cons (sl_one h.rows.1) |>.cons (sl_one h.cols) |>.cons rfl |>.cons rfl |>.cons rfl |>.cons rfl |>.cons rfl
theorem open_things {v:Value} {d:DataW H} {ps:List MemPlace} (h:DataW.Trod enc Tryz.prog w 0 (fun _=>true) true 22 v d ps) (hv:v.cells.toList=[v]) :
 ∃ l:List ThV,ThsAt w (fun _=>True) v l:=by
 obtain ⟨fuel,hf⟩:=h
 rw [hv] at hf
 obtain ⟨es,h1,h2⟩:=open_sl Tryz.underlying22 ocThing (by omega) hf (fun c=>∃ t:ThV,c=t.cells∧ThAt w (fun _=>True) t) (fun c ⟨t,hc,ht⟩=>by subst hc;exact th_ones7 ht) (fun f c y hl hy=>open_th hl hy)
 obtain ⟨l,rfl,h4⟩:=choose_list es (fun c hcm=>(h1 c hcm).2)
 rw [List.length_map] at h2
 exact ⟨l,⟨h2,h4⟩⟩
end
theorem efuel_walk (v:Value) (l:List ThV) (s:ByteArray) (_hs:s.size≤maxLen) (fuel:Int) (_hf:(Lit.int .i64 fuel).wf=true) (more:Int) (hm:(Lit.int .u8 more).wf=true) (w:World) (h:ThsAt w (fun _=>True) v l) :
 Calls Tryz.prog 3 #[v,.string s,.int .i64 fuel,.int .u8 more] w fun e w'=>e=.returned (.bool true)∧Below w.heap.size w w':=by
 have h2:0≤more∧more≤255:=by simpa [Lit.wf,IntKind.min,IntKind.max,IntKind.bits,IntKind.signed] using hm
 obtain ⟨m,rfl⟩:∃ m:Nat,more=(m:Int):=⟨more.toNat,by omega⟩
 exact efuel_law w _ v l h s fuel m (by omega)
end Go.Proofs.YtnpplhkpnbonaaaGreat
