/- Contracts of the functions that the statement reaches, one behind the other. No condition beyond each theorem's own. -/
import Derived.Test.YtnpplhkpnbonaaaGreatTV4
set_option linter.unusedSimpArgs false
set_option linter.unusedVariables false
set_option maxRecDepth 100000
set_option maxHeartbeats 4000000
namespace Go.Proofs.YtnpplhkpnbonaaaGreat
open Go.RowKit Go.Afx
theorem built_any:∀ (x:EX) (w:World) (B:Nat→Prop) (p:Option Addr) (c:Nat),x.at w B→x.ok→x.av=.slice p x.kids.length c →
 Calls Tryz.prog 20 #[.agg #[.int .i64 x.hd.op,.int .i64 x.hd.n,.string x.hd.s,.string x.hd.name,.string x.hd.src,.slice p x.kids.length c]] w (SomeBool w):=by
 refine EX.rec_kids fun x IH w B p c hx hok hv=>?_
 obtain ⟨⟨op,n,s,nm,src⟩,hhd⟩:∃ hd,x.hd=hd:=⟨_,rfl⟩
 have hhok:=EX.ok_hd hok
 rw [hhd] at hhok
 simp only [hhd]
 obtain ⟨w1,hw1⟩:∃ w1,w.alloc (.cells #[.int .i64 op,.int .i64 n,.string s,.string nm,.string src,.slice p x.kids.length c] 27)=w1:=⟨_,rfl⟩
 have hb1:Below w.heap.size w w1:=hw1▸(Below.refl _ _).alloc (Nat.le_refl _) _
 have hk1:Blk w1 w.heap.size 27 [.int .i64 op,.int .i64 n,.string s,.string nm,.string src,.slice p x.kids.length c]:=hw1▸Blk.new w _ _
 obtain ⟨w2,hw2⟩:∃ w2,w1.alloc (.cells #[.int .i64 op,.int .i64 0,.string ⟨#[]⟩,.string ⟨#[]⟩,.string ⟨#[]⟩,.slice none 0 0] 27)=w2:=⟨_,rfl⟩
 have hb2:Below w1.heap.size w1 w2:=hw2▸(Below.refl _ _).alloc (Nat.le_refl _) _
 have hk2:Blk w2 w1.heap.size 27 [.int .i64 op,.int .i64 0,.string ⟨#[]⟩,.string ⟨#[]⟩,.string ⟨#[]⟩,.slice none 0 0]:=hw2▸Blk.new w1 _ _
 have HS:Hid (BldS w w2 w.heap.size w1.heap.size [.int .i64 op,.int .i64 n,.string s,.string nm,.string src,.slice p x.kids.length c] [.int .i64 op,.int .i64 0,.string ⟨#[]⟩,.string ⟨#[]⟩,.string ⟨#[]⟩,.slice none 0 0]) :=
  Lib.hid ⟨hb1.trans (hb2.mono hb1.size),hk1.below hb2,hk2,Nat.le_refl _,hk1.lt⟩
 have HX:=Lib.hid hx
 have HIH:=Lib.hid IH
 have HV:=Lib.hid hv
 have HOK:=Lib.hid (EX.ok_kids hok)
 obtain ⟨_,_,hos,honm,hosr⟩:=hhok
 simp only at hos honm hosr
 have hle:=EX.kids_le x
 obtain ⟨d0,d1,d2,d3,d4,d5⟩:=six_cells hk1
 have hl1:=hk1.lt
 clear hb1 hk1 hb2 hk2 hx IH hv hok
 go_enter Tryz.func20,Tryz.ntmps20
 have HW2:=Lib.hid hw2
 clear hw2
 go_upto_block 0 with fail
 rw [HW2.out]
 clear hw1 HW2 d0 d1 d2 d3 d4 d5 hl1
 go_cut [4] (fun nv wc=>∃ (k o2 n2:Int) (s2 nm2 sr2:ByteArray) (v2:Value),nv=.int .i64 k∧BldS w wc w.heap.size w1.heap.size [.int .i64 op,.int .i64 n,.string s,.string nm,.string src,.slice p x.kids.length c] [.int .i64 o2,.int .i64 n2,.string s2,.string nm2,.string sr2,v2])
 case first =>
  obtain ⟨d0,d1,d2,d3,d4,d5⟩:=six_cells HS.out.k1
  obtain ⟨e0,e1,e2,e3,e4,e5⟩:=six_cells HS.out.k2
  have hl1:=HS.out.k1.lt
  have hl2:=HS.out.k2.lt
  have hf2:∀ i,w2.frozen? ⟨w1.heap.size,i,none⟩=false:=HS.out.k2.frozen
  by_cases h1:op=1
  ·skip
   subst h1
   go_wp2
   all_goals
    go_meet
    exact ⟨_,_,_,_,_,_,_,rfl,HS.out.set 1 _⟩
  have t1:(op == 1)=false:=by simp [h1]
  by_cases h2:op=2
  ·skip
   subst h2
   obtain ⟨w3,hww3⟩:∃ w',w2.setCell ⟨w1.heap.size,2,none⟩ (.string s)=w':=⟨_,rfl⟩
   have hs3:=hww3▸HS.out.set 2 (.string s)
   simp only [List.set_cons_zero,List.set_cons_succ] at hs3
   replace HS:=Lib.hid hs3
   clear hs3
   obtain ⟨d0,d1,d2,d3,d4,d5⟩:=six_cells HS.out.k1
   obtain ⟨e0,e1,e2,e3,e4,e5⟩:=six_cells HS.out.k2
   have hl1:=HS.out.k1.lt
   have hl2:=HS.out.k2.lt
   have hf2:∀ i,w3.frozen? ⟨w1.heap.size,i,none⟩=false:=HS.out.k2.frozen
   by_cases hl:200 < s.size
   ·go_wp2
    go_ret
    exact ⟨_,rfl,HS.out.bel⟩
   ·go_wp2
    go_meet
    exact ⟨_,_,_,_,_,_,_,rfl,HS.out⟩
  have t2:(op == 2)=false:=by simp [h2]
  by_cases h3:op=3
  ·skip
   subst h3
   go_wp2
   all_goals
    go_meet
    exact ⟨_,_,_,_,_,_,_,rfl,HS.out.set 1 _⟩
  have t3:(op == 3)=false:=by simp [h3]
  by_cases h4:op=4
  ·skip
   subst h4
   obtain ⟨w3,hww3⟩:∃ w',w2.setCell ⟨w1.heap.size,3,none⟩ (.string nm)=w':=⟨_,rfl⟩
   have hs3:=hww3▸HS.out.set 3 (.string nm)
   simp only [List.set_cons_zero,List.set_cons_succ] at hs3
   replace HS:=Lib.hid hs3
   clear hs3
   obtain ⟨d0,d1,d2,d3,d4,d5⟩:=six_cells HS.out.k1
   obtain ⟨e0,e1,e2,e3,e4,e5⟩:=six_cells HS.out.k2
   have hl1:=HS.out.k1.lt
   have hl2:=HS.out.k2.lt
   have hf2:∀ i,w3.frozen? ⟨w1.heap.size,i,none⟩=false:=HS.out.k2.frozen
   have HF:=Lib.hid (free_anyP w3 nm honm)
   go_wp2_with fail
   refine HF.out.mono ?_
   clear HF
   rintro e w4 ⟨b,rfl,hb⟩
   replace HS:=Lib.hid (HS.out.below hb)
   obtain ⟨d0,d1,d2,d3,d4,d5⟩:=six_cells HS.out.k1
   obtain ⟨e0,e1,e2,e3,e4,e5⟩:=six_cells HS.out.k2
   have hl1:=HS.out.k1.lt
   have hl2:=HS.out.k2.lt
   have hf2:∀ i,w4.frozen? ⟨w1.heap.size,i,none⟩=false:=HS.out.k2.frozen
   clear hb
   cases b with
   | false =>
    go_wp2
    go_ret
    exact ⟨_,rfl,HS.out.bel⟩
   | true =>
    go_wp2
    go_meet
    exact ⟨_,_,_,_,_,_,_,rfl,HS.out⟩
  have t4:(op == 4)=false:=by simp [h4]
  by_cases h5:op=5
  ·skip
   subst h5
   obtain ⟨w3,hww3⟩:∃ w',w2.setCell ⟨w1.heap.size,3,none⟩ (.string nm)=w':=⟨_,rfl⟩
   have hs3:=hww3▸HS.out.set 3 (.string nm)
   simp only [List.set_cons_zero,List.set_cons_succ] at hs3
   replace HS:=Lib.hid hs3
   clear hs3
   obtain ⟨d0,d1,d2,d3,d4,d5⟩:=six_cells HS.out.k1
   obtain ⟨e0,e1,e2,e3,e4,e5⟩:=six_cells HS.out.k2
   have hl1:=HS.out.k1.lt
   have hl2:=HS.out.k2.lt
   have hf2:∀ i,w3.frozen? ⟨w1.heap.size,i,none⟩=false:=HS.out.k2.frozen
   have HF:=Lib.hid (free_anyP w3 nm honm)
   go_wp2_with fail
   refine HF.out.mono ?_
   clear HF
   rintro e w4 ⟨b,rfl,hb⟩
   replace HS:=Lib.hid (HS.out.below hb)
   obtain ⟨d0,d1,d2,d3,d4,d5⟩:=six_cells HS.out.k1
   obtain ⟨e0,e1,e2,e3,e4,e5⟩:=six_cells HS.out.k2
   have hl1:=HS.out.k1.lt
   have hl2:=HS.out.k2.lt
   have hf2:∀ i,w4.frozen? ⟨w1.heap.size,i,none⟩=false:=HS.out.k2.frozen
   clear hb
   cases b with
   | false =>
    go_wp2
    go_ret
    exact ⟨_,rfl,HS.out.bel⟩
   | true =>
   clear hww3
   obtain ⟨w5,hww5⟩:∃ w',w4.setCell ⟨w1.heap.size,2,none⟩ (.string s)=w':=⟨_,rfl⟩
   have hs3:=hww5▸HS.out.set 2 (.string s)
   simp only [List.set_cons_zero,List.set_cons_succ] at hs3
   replace HS:=Lib.hid hs3
   clear hs3
   obtain ⟨d0,d1,d2,d3,d4,d5⟩:=six_cells HS.out.k1
   obtain ⟨e0,e1,e2,e3,e4,e5⟩:=six_cells HS.out.k2
   have hl1:=HS.out.k1.lt
   have hl2:=HS.out.k2.lt
   have hf2:∀ i,w5.frozen? ⟨w1.heap.size,i,none⟩=false:=HS.out.k2.frozen
   have HF:=Lib.hid (free_anyP w5 s hos)
   go_wp2_with fail
   refine HF.out.mono ?_
   clear HF
   rintro e w6 ⟨b,rfl,hb⟩
   replace HS:=Lib.hid (HS.out.below hb)
   obtain ⟨d0,d1,d2,d3,d4,d5⟩:=six_cells HS.out.k1
   obtain ⟨e0,e1,e2,e3,e4,e5⟩:=six_cells HS.out.k2
   have hl1:=HS.out.k1.lt
   have hl2:=HS.out.k2.lt
   have hf2:∀ i,w6.frozen? ⟨w1.heap.size,i,none⟩=false:=HS.out.k2.frozen
   clear hb
   cases b with
   | false =>
    go_wp2
    go_ret
    exact ⟨_,rfl,HS.out.bel⟩
   | true =>
    go_wp2
    go_meet
    exact ⟨_,_,_,_,_,_,_,rfl,HS.out⟩
  have t5:(op == 5)=false:=by simp [h5]
  by_cases h21:21≤op∧op≤24
  ·skip
   have f1:decide (21≤op)=true:=decide_eq_true h21.1
   have f2:decide (op≤24)=true:=decide_eq_true h21.2
   have f3:decide (5 < op)=true:=decide_eq_true (by omega)
   obtain ⟨w3,hww3⟩:∃ w',w2.setCell ⟨w1.heap.size,3,none⟩ (.string nm)=w':=⟨_,rfl⟩
   have hs3:=hww3▸HS.out.set 3 (.string nm)
   simp only [List.set_cons_zero,List.set_cons_succ] at hs3
   replace HS:=Lib.hid hs3
   clear hs3
   obtain ⟨d0,d1,d2,d3,d4,d5⟩:=six_cells HS.out.k1
   obtain ⟨e0,e1,e2,e3,e4,e5⟩:=six_cells HS.out.k2
   have hl1:=HS.out.k1.lt
   have hl2:=HS.out.k2.lt
   have hf2:∀ i,w3.frozen? ⟨w1.heap.size,i,none⟩=false:=HS.out.k2.frozen
   have HF:=Lib.hid (free_anyP w3 nm honm)
   go_wp2_with fail
   refine HF.out.mono ?_
   clear HF
   rintro e w4 ⟨b,rfl,hb⟩
   replace HS:=Lib.hid (HS.out.below hb)
   obtain ⟨d0,d1,d2,d3,d4,d5⟩:=six_cells HS.out.k1
   obtain ⟨e0,e1,e2,e3,e4,e5⟩:=six_cells HS.out.k2
   have hl1:=HS.out.k1.lt
   have hl2:=HS.out.k2.lt
   have hf2:∀ i,w4.frozen? ⟨w1.heap.size,i,none⟩=false:=HS.out.k2.frozen
   clear hb
   cases b with
   | false =>
    go_wp2
    go_ret
    exact ⟨_,rfl,HS.out.bel⟩
   | true =>
   clear hww3
   obtain ⟨w5,hww5⟩:∃ w',w4.setCell ⟨w1.heap.size,4,none⟩ (.string src)=w':=⟨_,rfl⟩
   have hs3:=hww5▸HS.out.set 4 (.string src)
   simp only [List.set_cons_zero,List.set_cons_succ] at hs3
   replace HS:=Lib.hid hs3
   clear hs3
   obtain ⟨d0,d1,d2,d3,d4,d5⟩:=six_cells HS.out.k1
   obtain ⟨e0,e1,e2,e3,e4,e5⟩:=six_cells HS.out.k2
   have hl1:=HS.out.k1.lt
   have hl2:=HS.out.k2.lt
   have hf2:∀ i,w5.frozen? ⟨w1.heap.size,i,none⟩=false:=HS.out.k2.frozen
   cases ho:(op == 21) with
   | true =>
    have HF:=Lib.hid (free_anyP w5 src hosr)
    go_wp2_with fail
    refine HF.out.mono ?_
    clear HF
    rintro e w6 ⟨b,rfl,hb⟩
    replace HS:=Lib.hid (HS.out.below hb)
    obtain ⟨d0,d1,d2,d3,d4,d5⟩:=six_cells HS.out.k1
    obtain ⟨e0,e1,e2,e3,e4,e5⟩:=six_cells HS.out.k2
    have hl1:=HS.out.k1.lt
    have hl2:=HS.out.k2.lt
    have hf2:∀ i,w6.frozen? ⟨w1.heap.size,i,none⟩=false:=HS.out.k2.frozen
    clear hb
    cases b with
    | false =>
     go_wp2
     go_ret
     exact ⟨_,rfl,HS.out.bel⟩
    | true =>
     go_wp2
     go_meet
     exact ⟨_,_,_,_,_,_,_,rfl,HS.out⟩
   | false =>
    have HF:=Lib.hid (free_anyP w5 src hosr)
    go_wp2_with fail
    refine HF.out.mono ?_
    clear HF
    rintro e w6 ⟨b,rfl,hb⟩
    replace HS:=Lib.hid (HS.out.below hb)
    obtain ⟨d0,d1,d2,d3,d4,d5⟩:=six_cells HS.out.k1
    obtain ⟨e0,e1,e2,e3,e4,e5⟩:=six_cells HS.out.k2
    have hl1:=HS.out.k1.lt
    have hl2:=HS.out.k2.lt
    have hf2:∀ i,w6.frozen? ⟨w1.heap.size,i,none⟩=false:=HS.out.k2.frozen
    clear hb
    cases b with
    | false =>
     go_wp2
     go_ret
     exact ⟨_,rfl,HS.out.bel⟩
    | true =>
     go_wp2
     go_meet
     exact ⟨_,_,_,_,_,_,_,rfl,HS.out⟩
  by_cases h6:6≤op∧op≤18
  ·skip
   have f1:decide (21≤op)=false:=decide_eq_false (by omega)
   have f2:decide (6≤op)=true:=decide_eq_true h6.1
   have f3:decide (op≤18)=true:=decide_eq_true h6.2
   go_wp2
   go_meet
   exact ⟨_,_,_,_,_,_,_,rfl,HS.out⟩
  by_cases h19:op=19
  ·skip
   subst h19
   go_wp2
   go_meet
   exact ⟨_,_,_,_,_,_,_,rfl,HS.out⟩
  by_cases h20:op=20
  ·skip
   subst h20
   go_wp2
   go_meet
   exact ⟨_,_,_,_,_,_,_,rfl,HS.out⟩
  have t6:(op == 19)=false:=by simp [h19]
  have t7:(op == 20)=false:=by simp [h20]
  by_cases ha:21≤op
  ·have f1:decide (21≤op)=true:=decide_eq_true ha
   have f2:decide (op≤24)=false:=decide_eq_false (by omega)
   have f3:decide (6≤op)=true:=decide_eq_true (by omega)
   have f4:decide (op≤18)=false:=decide_eq_false (by omega)
   go_wp2
   go_ret
   exact ⟨_,rfl,HS.out.bel⟩
  ·have f1:decide (21≤op)=false:=decide_eq_false ha
   by_cases hb:6≤op
   ·exfalso
    omega
   ·have f3:decide (6≤op)=false:=decide_eq_false hb
    go_wp2
    go_ret
    exact ⟨_,rfl,HS.out.bel⟩
 case rest =>
 obtain ⟨k,o2,n2,s2,nm2,sr2,v2,rfl,hs⟩:=hcut
 replace HS:=Lib.hid hs
 obtain ⟨w3,rfl⟩:∃ w3,w3=wc:=⟨_,rfl⟩
 clear hs
 obtain ⟨d0,d1,d2,d3,d4,d5⟩:=six_cells HS.out.k1
 obtain ⟨e0,e1,e2,e3,e4,e5⟩:=six_cells HS.out.k2
 have hl1:=HS.out.k1.lt
 have hl2:=HS.out.k2.lt
 have hf2:∀ i,w3.frozen? ⟨w1.heap.size,i,none⟩=false:=HS.out.k2.frozen
 go_upto_region 31 with fail
 go_cut [136] (fun t wc=>∃ b,t=.bool b∧wc=w3∧(b=false→k=x.kids.length))
 case first =>
  cases t1:(n != n2) with
  | true =>
   go_wp2
   go_meet
   exact ⟨true,rfl,rfl,fun h=>by cases h⟩
  | false =>
  cases t2:(s.toList == s2.toList) with
  | false =>
   go_wp2
   go_meet
   exact ⟨true,rfl,rfl,fun h=>by cases h⟩
  | true =>
  cases t3:(nm.toList == nm2.toList) with
  | false =>
   go_wp2
   go_meet
   exact ⟨true,rfl,rfl,fun h=>by cases h⟩
  | true =>
  cases t4:(src.toList == sr2.toList) with
  | false =>
   go_wp2
   go_meet
   exact ⟨true,rfl,rfl,fun h=>by cases h⟩
  | true =>
   cases t5:((x.kids.length:Int) != k) with
   | true =>
    go_wp2
    go_meet
    exact ⟨true,rfl,rfl,fun h=>by cases h⟩
   | false =>
    go_wp2
    go_meet
    exact ⟨false,rfl,rfl,fun _=>(bne_eq_false_iff_eq.1 t5).symm⟩
 case rest =>
 obtain ⟨b,rfl,rfl,hk⟩:=hcut
 cases b with
 | true =>
  go_wp2
  go_ret
  exact ⟨_,rfl,HS.out.bel⟩
 | false =>
 have hk:=hk rfl
 subst hk
 go_wp2_with fail
 go_loopw [5] (fun iv wr=>∃ k:Nat,iv=.int .i64 k∧k≤x.kids.length∧BldS w wr w.heap.size w1.heap.size [.int .i64 op,.int .i64 n,.string s,.string nm,.string src,.slice p x.kids.length c] [.int .i64 o2,.int .i64 n2,.string s2,.string nm2,.string sr2,v2]) (fun iv _=>x.kids.length - (intOf iv).toNat)
 case atStart=>exact ⟨0,rfl,Nat.zero_le _,HS.out⟩
 case round =>
  obtain ⟨k,rfl,hk,hs⟩:=hrel
  obtain ⟨wo,rfl⟩:∃ wo:World,wo=wr:=⟨_,rfl⟩
  replace HS:=Lib.hid hs
  by_cases hkn:k < x.kids.length
  ·have hxw:=EX.at_below hs.bel x HX.out
   obtain ⟨g,off,cap,hv,hgl,hg,y0,y1,y2,y3,y4,y5⟩:=EX.kid hxw hkn
   rw [HV.out] at hv
   cases hv
   have hy:=(EX.at_kids hxw).2 _ (List.getElem_mem hkn)
   obtain ⟨p',c',hv'⟩:=EX.form_kids hy
   rw [hv'] at y5
   have HC:=Lib.hid (HIH.out _ (List.getElem_mem hkn) wo B p' c' hy (HOK.out _ (List.getElem_mem hkn)) hv')
   generalize x.kids[k]=y at *
   clear hs hxw hy hv' hg d0 d1 d2 d3 d4 d5 e0 e1 e2 e3 e4 e5 hf2 hl1 hl2
   obtain ⟨d0,d1,d2,d3,d4,d5⟩:=six_cells HS.out.k1
   have hl1:=HS.out.k1.lt
   go_wp2_with fail
   refine HC.out.mono ?_
   clear HC
   rintro e w4 ⟨b,rfl,hb3⟩
   replace HS:=Lib.hid (HS.out.below hb3)
   clear hb3 d0 d1 d2 d3 d4 d5 y0 y1 y2 y3 y4 y5 hgl hl1
   cases b with
   | false =>
    go_wp2
    go_ret
    exact ⟨_,rfl,HS.out.bel⟩
   | true =>
    go_wp2
    go_roundw
    case rel=>exact ⟨k+1,by go_num,by omega,HS.out⟩
    case measure=>(simp [intOf])<;>omega
  ·clear hs
   go_wp2
   go_ret
   exact ⟨_,rfl,HS.out.bel⟩
def argsP (op:Int):Int × Bool :=
 if 1≤op∧op≤5 then (0,false) else if 6≤op∧op≤18 then (2,false) else if op=19∨op=20 then (1,false) else if op=21 then (1,true) else if 22≤op∧op≤24 then (2,true) else (-1,false)
def ArgsOut (w:World) (op:Int) (e:Ending) (w':World):Prop:=e=.returned (.tuple #[.int .i64 (argsP op).1,.bool (argsP op).2])∧w=w'
theorem args_any (w:World) (op:Int):Calls Tryz.prog 64 #[.int .i64 op] w (ArgsOut w op):=by
 obtain ⟨out,hout⟩:∃ out,argsP op=out:=⟨_,rfl⟩
 have HE:=Lib.hid hout
 unfold argsP at hout
 unfold ArgsOut
 by_cases h1:1≤op∧op≤5
 ·rw [if_pos h1] at hout
  subst hout
  have d1:decide (1≤op)=true:=decide_eq_true h1.1
  have d2:decide (op≤5)=true:=decide_eq_true h1.2
  go_enter Tryz.func64,Tryz.ntmps64
  go_wp2
  go_ret2
  exact ⟨by rw [HE.out];rfl,rfl⟩
 rw [if_neg h1] at hout
 by_cases h2:6≤op∧op≤18
 ·rw [if_pos h2] at hout
  subst hout
  have d1:decide (1≤op)=true:=decide_eq_true (by omega)
  have d2:decide (op≤5)=false:=decide_eq_false (by omega)
  have d3:decide (6≤op)=true:=decide_eq_true h2.1
  have d4:decide (op≤18)=true:=decide_eq_true h2.2
  go_enter Tryz.func64,Tryz.ntmps64
  go_wp2
  go_ret2
  exact ⟨by rw [HE.out];rfl,rfl⟩
 rw [if_neg h2] at hout
 by_cases h3:op=19∨op=20
 ·rw [if_pos h3] at hout
  subst hout
  rcases h3 with rfl|rfl
  ·go_enter Tryz.func64,Tryz.ntmps64
   go_wp2
   go_ret2
   exact ⟨by rw [HE.out];rfl,rfl⟩
  ·go_enter Tryz.func64,Tryz.ntmps64
   go_wp2
   go_ret2
   exact ⟨by rw [HE.out];rfl,rfl⟩
 rw [if_neg h3] at hout
 have d5:(op == 19)=false:=by simp;omega
 have d6:(op == 20)=false:=by simp;omega
 by_cases h4:op=21
 ·rw [if_pos h4] at hout
  subst hout
  subst h4
  go_enter Tryz.func64,Tryz.ntmps64
  go_wp2
  go_ret2
  exact ⟨by rw [HE.out];rfl,rfl⟩
 rw [if_neg h4] at hout
 have d7:(op == 21)=false:=by simp [h4]
 by_cases h5:22≤op∧op≤24
 ·rw [if_pos h5] at hout
  subst hout
  have d1:decide (1≤op)=true:=decide_eq_true (by omega)
  have d2:decide (op≤5)=false:=decide_eq_false (by omega)
  have d3:decide (6≤op)=true:=decide_eq_true (by omega)
  have d4:decide (op≤18)=false:=decide_eq_false (by omega)
  have d8:decide (22≤op)=true:=decide_eq_true h5.1
  have d9:decide (op≤24)=true:=decide_eq_true h5.2
  go_enter Tryz.func64,Tryz.ntmps64
  go_wp2
  go_ret2
  exact ⟨by rw [HE.out];rfl,rfl⟩
 rw [if_neg h5] at hout
 subst hout
 by_cases h6:1≤op
 ·have d1:decide (1≤op)=true:=decide_eq_true h6
  have d2:decide (op≤5)=false:=decide_eq_false (by omega)
  have d3:decide (6≤op)=true:=decide_eq_true (by omega)
  have d4:decide (op≤18)=false:=decide_eq_false (by omega)
  have d8:decide (22≤op)=true:=decide_eq_true (by omega)
  have d9:decide (op≤24)=false:=decide_eq_false (by omega)
  go_enter Tryz.func64,Tryz.ntmps64
  go_wp2
  go_ret2
  exact ⟨by rw [HE.out];rfl,rfl⟩
 ·have d1:decide (1≤op)=false:=decide_eq_false h6
  have d3:decide (6≤op)=false:=decide_eq_false (by omega)
  have d8:decide (22≤op)=false:=decide_eq_false (by omega)
  go_enter Tryz.func64,Tryz.ntmps64
  go_wp2
  go_ret2
  exact ⟨by rw [HE.out];rfl,rfl⟩
theorem BldS.drew {w wr:World} {b1 b2:Nat} {cs cs2:List Value} (h:BldS w wr b1 b2 cs cs2):BldS w wr.drew b1 b2 cs cs2:=h.below (Below.refl _ _).drew
theorem argsP_rows {op:Int}:(argsP op).2=decide (21≤op∧op≤24):=by
 unfold argsP
 by_cases h:21≤op∧op≤24
 ·rw [decide_eq_true h,if_neg (by omega),if_neg (by omega),if_neg (by omega)]
  split
  ·rfl
  ·rw [if_pos (by omega)]
 ·rw [decide_eq_false h]
  split
  ·rfl
  ·split
   ·rfl
   ·split
    ·rfl
    ·rw [if_neg (by omega),if_neg (by omega)]
theorem one_tx (w:World) (a:ByteArray):Sl (w.alloc (.cells #[.string a] 9)) (fun _=>True) 1 (.slice (some ⟨w.heap.size,0,none⟩) 1 1) 1 (txC [a]) :=
 (Own.made w 9 1 (txC [a]) [] 1 1 rfl (Ones.nil.cons rfl) (Nat.le_refl _) (by decide) (Nat.le_refl 1)).sl (fun _ _=>trivial)
theorem two_tx (w:World) (a b:ByteArray):Sl (w.alloc (.cells #[.string a,.string b] 9)) (fun _=>True) 1 (.slice (some ⟨w.heap.size,0,none⟩) 2 2) 2 (txC [a,b]) :=
 (Own.made w 9 1 (txC [a,b]) [] 2 2 rfl ((Ones.nil.cons rfl).cons rfl) (Nat.le_refl _) (by decide) (Nat.le_refl 2)).sl (fun _ _=>trivial)
def chkF (ok:Bool) (n:Int) (s nm sr:ByteArray) (h:Hd):Bool:=ok && (n == h.n) && (s.toList == h.s.toList) && (nm.toList == h.name.toList) && (sr.toList == h.src.toList)
def e0B:ByteArray:=⟨#[]⟩
def fieldsB (h:Hd):Bool :=
 if h.op=1 then chkF (decide (0≤h.n)) h.n e0B e0B e0B h else if h.op=2 then chkF (decide ((h.s.size:Int)≤200)) 0 h.s e0B e0B h else if h.op=3 then chkF (h.n / 2 == 0) h.n e0B e0B e0B h
 else if h.op=4 then chkF (freesB [h.name]) 0 e0B h.name e0B h else if h.op=5 then chkF (freesB [h.name,h.s]) 0 h.s h.name e0B h
 else if 21≤h.op∧h.op≤24 then chkF (freesB [h.name,h.src]) 0 e0B h.name h.src h else chkF true 0 e0B e0B e0B h
theorem fields_any (w:World) (h:Hd) (v:Value) (p:Option Addr) (k c:Nat) (hv:v=.slice p k c) (hok:h.ok) :
 Calls Tryz.prog 65 #[.agg #[.int .i64 h.op,.int .i64 h.n,.string h.s,.string h.name,.string h.src,.slice p k c]] w (BoolOut w (fieldsB h)):=by
 obtain ⟨op,n,s,nm,src⟩:=h
 obtain ⟨_,_,hos,honm,hosr⟩:=hok
 simp only at hos honm hosr ⊢
 obtain ⟨out,hout⟩:∃ out,fieldsB ⟨op,n,s,nm,src⟩=out:=⟨_,rfl⟩
 rw [hout]
 unfold fieldsB at hout
 simp only at hout
 obtain ⟨w1,hw1⟩:∃ w1,w.alloc (.cells #[.int .i64 op,.int .i64 n,.string s,.string nm,.string src,.slice p k c] 27)=w1:=⟨_,rfl⟩
 have hb1:Below w.heap.size w w1:=hw1▸(Below.refl _ _).alloc (Nat.le_refl _) _
 have hk1:Blk w1 w.heap.size 27 [.int .i64 op,.int .i64 n,.string s,.string nm,.string src,.slice p k c]:=hw1▸Blk.new w _ _
 obtain ⟨w2,hw2⟩:∃ w2,w1.alloc (.cells #[.int .i64 0,.int .i64 0,.string ⟨#[]⟩,.string ⟨#[]⟩,.string ⟨#[]⟩,.slice none 0 0] 27)=w2:=⟨_,rfl⟩
 have hb2:Below w1.heap.size w1 w2:=hw2▸(Below.refl _ _).alloc (Nat.le_refl _) _
 have hk2:Blk w2 w1.heap.size 27 [.int .i64 0,.int .i64 0,.string ⟨#[]⟩,.string ⟨#[]⟩,.string ⟨#[]⟩,.slice none 0 0]:=hw2▸Blk.new w1 _ _
 have HS:Hid (BldS w w2 w.heap.size w1.heap.size [.int .i64 op,.int .i64 n,.string s,.string nm,.string src,.slice p k c] [.int .i64 0,.int .i64 0,.string ⟨#[]⟩,.string ⟨#[]⟩,.string ⟨#[]⟩,.slice none 0 0]) :=
  Lib.hid ⟨hb1.trans (hb2.mono hb1.size),hk1.below hb2,hk2,Nat.le_refl _,hk1.lt⟩
 have HOUT:=Lib.hid hout
 have HA:=Lib.hid (args_any w1 op)
 obtain ⟨d0,d1,d2,d3,d4,d5⟩:=six_cells hk1
 have hl1:=hk1.lt
 clear hb1 hk1 hb2 hk2 hout hv
 go_enter Tryz.func65,Tryz.ntmps65
 have hrows:=argsP_rows (op:=op)
 unfold ArgsOut at HA
 obtain ⟨⟨an,ar⟩,har⟩:∃ q,argsP op=q:=⟨_,rfl⟩
 rw [har] at HA hrows
 simp only at HA hrows
 have HROW:=Lib.hid hrows
 clear hrows har
 go_wp2_with fail
 refine HA.out.mono ?_
 clear HA
 rintro e w1' ⟨rfl,hw1'⟩
 subst hw1'
 go_upto_block 0 with fail
 clear hw1 hw2 d0 d1 d2 d3 d4 d5 hl1
 go_cut [5] (fun t wc=>∃ (ok:Bool) (n2:Int) (s2 nm2 sr2:ByteArray),t=.bool ok∧BldS w wc w.heap.size w1.heap.size [.int .i64 op,.int .i64 n,.string s,.string nm,.string src,.slice p k c] [.int .i64 0,.int .i64 n2,.string s2,.string nm2,.string sr2,.slice none 0 0]∧chkF ok n2 s2 nm2 sr2 ⟨op,n,s,nm,src⟩=out)
 case first =>
  obtain ⟨d0,d1,d2,d3,d4,d5⟩:=six_cells HS.out.k1
  obtain ⟨e0,e1,e2,e3,e4,e5⟩:=six_cells HS.out.k2
  have hl1:=HS.out.k1.lt
  have hl2:=HS.out.k2.lt
  have hf2:∀ i,w2.frozen? ⟨w1.heap.size,i,none⟩=false:=HS.out.k2.frozen
  by_cases h1:op=1
  ·skip
   have hq:=HOUT.out
   rw [if_pos h1] at hq
   have HE:=Lib.hid hq
   clear hq
   subst h1
   go_upto_region 6 with fail
   refine wp_region_lit_plan [] [(0,0),(3,0),(1,1),(2,0),(5,0),(4,1),(6,0),(7,4)] (fun _=>False) (by kernel_rfl) (by kernel_rfl) (fun c a d v w h=>by cases d<;>exact h) ?_
   go_wp2_with (first|(refine stp ?_))
   go_meet
   exact ⟨_,_,_,_,_,rfl,(HS.out.set 1 _).drew,HE.out⟩
  have hq:=HOUT.out
  rw [if_neg h1] at hq
  have t1:(op == 1)=false:=by simp [h1]
  by_cases h2:op=2
  ·skip
   rw [if_pos h2] at hq
   have HE:=Lib.hid hq
   clear hq
   subst h2
   go_upto_region 8 with fail
   refine wp_region_lit_plan [] [(0,0),(4,0),(1,1),(2,0),(3,0),(6,0),(5,1),(7,0),(8,4)] (fun _=>False) (by kernel_rfl) (by kernel_rfl) (fun c a d v w h=>by cases d<;>exact h) ?_
   go_wp2_with (first|(refine stp ?_))
   go_meet
   exact ⟨_,_,_,_,_,rfl,(HS.out.set 2 _).drew,HE.out⟩
  rw [if_neg h2] at hq
  have t2:(op == 2)=false:=by simp [h2]
  by_cases h3:op=3
  ·skip
   rw [if_pos h3] at hq
   have HE:=Lib.hid hq
   clear hq
   subst h3
   go_upto_region 10 with fail
   refine wp_region_lit_plan [] [(0,0),(4,0),(1,1),(2,0),(3,0),(6,0),(5,1),(7,0),(8,4)] (fun _=>False) (by kernel_rfl) (by kernel_rfl) (fun c a d v w h=>by cases d<;>exact h) ?_
   go_wp2_with (first|(refine stp ?_))
   go_meet
   exact ⟨_,_,_,_,_,rfl,(HS.out.set 1 _).drew,HE.out⟩
  rw [if_neg h3] at hq
  have t3:(op == 3)=false:=by simp [h3]
  by_cases h4:op=4
  ·skip
   rw [if_pos h4] at hq
   have HE:=Lib.hid hq
   clear hq
   subst h4
   go_upto_region 12 with fail
   have hag1:Agree (fun q=>q=w.heap.size) w2.drew (w2.alloc (.cells #[.string nm] 9)).drew:=agree_alloc (w:=w2) (.cells #[.string nm] 9) (fun q hq=>by subst hq;exact hl1)
   have HC:=Lib.hid (sfree_any (w2.alloc (.cells #[.string nm] 9)).drew _ _ [nm] (one_tx w2 nm) (by simp [honm]))
   refine wp_region_lit_plan [] [(0,0),(4,0),(1,1),(5,2),(2,3),(3,3),(6,0),(7,0),(8,4)] ((fun q=>q=w.heap.size)) (by kernel_rfl) (by kernel_rfl) (fun c a d v w h=>by cases d<;>exact h) ?_
   go_wp2_with (first|(refine stp ?_))
   refine HC.out.mono ?_
   clear HC
   rintro e w4 ⟨rfl,hb4⟩
   have hb24:Below w2.heap.size w2 w4:=(((Below.refl w2.heap.size w2).alloc (Nat.le_refl _) _).drew).trans (hb4.mono (by show w2.heap.size≤(w2.alloc _).heap.size;simp))
   have hag2:Agree (fun q=>q=w.heap.size) (w2.alloc (.cells #[.string nm] 9)).drew w4:=agree_bel hb4 (fun q hq=>by subst hq;show w.heap.size < (w2.alloc _).heap.size;simp;omega)
   replace HS:=Lib.hid (HS.out.below hb24)
   clear hb4 hb24 d0 d1 d2 d3 d4 d5 e0 e1 e2 e3 e4 e5 hf2 hl1 hl2
   obtain ⟨d0,d1,d2,d3,d4,d5⟩:=six_cells HS.out.k1
   obtain ⟨e0,e1,e2,e3,e4,e5⟩:=six_cells HS.out.k2
   have hl1:=HS.out.k1.lt
   have hl2:=HS.out.k2.lt
   have hf2:∀ i,w4.frozen? ⟨w1.heap.size,i,none⟩=false:=HS.out.k2.frozen
   go_wp2_with (first|(refine stp ?_))
   go_meet
   exact ⟨_,_,_,_,_,rfl,HS.out.set 3 _,HE.out⟩
  rw [if_neg h4] at hq
  have t4:(op == 4)=false:=by simp [h4]
  by_cases h5:op=5
  ·skip
   rw [if_pos h5] at hq
   have HE:=Lib.hid hq
   clear hq
   subst h5
   go_upto_region 14 with fail
   have hag1:Agree (fun q=>q=w.heap.size) w2.drew (w2.alloc (.cells #[.string nm,.string s] 9)).drew:=agree_alloc (w:=w2) (.cells #[.string nm,.string s] 9) (fun q hq=>by subst hq;exact hl1)
   have HC:=Lib.hid (sfree_any (w2.alloc (.cells #[.string nm,.string s] 9)).drew _ _ [nm,s] (two_tx w2 nm s) (by simp [honm,hos]))
   refine wp_region_lit_plan [] [(0,0),(2,0),(6,0),(8,0),(1,1),(3,1),(7,2),(9,2),(4,3),(5,3),(10,0),(11,0),(12,3),(13,0),(14,4)] ((fun q=>q=w.heap.size)) (by kernel_rfl) (by kernel_rfl) (fun c a d v w h=>by cases d<;>exact h) ?_
   go_wp2_with (first|(refine stp ?_))
   refine HC.out.mono ?_
   clear HC
   rintro e w4 ⟨rfl,hb4⟩
   have hb24:Below w2.heap.size w2 w4:=(((Below.refl w2.heap.size w2).alloc (Nat.le_refl _) _).drew).trans (hb4.mono (by show w2.heap.size≤(w2.alloc _).heap.size;simp))
   have hag2:Agree (fun q=>q=w.heap.size) (w2.alloc (.cells #[.string nm,.string s] 9)).drew w4:=agree_bel hb4 (fun q hq=>by subst hq;show w.heap.size < (w2.alloc _).heap.size;simp;omega)
   replace HS:=Lib.hid (HS.out.below hb24)
   clear hb4 hb24 d0 d1 d2 d3 d4 d5 e0 e1 e2 e3 e4 e5 hf2 hl1 hl2
   obtain ⟨d0,d1,d2,d3,d4,d5⟩:=six_cells HS.out.k1
   obtain ⟨e0,e1,e2,e3,e4,e5⟩:=six_cells HS.out.k2
   have hl1:=HS.out.k1.lt
   have hl2:=HS.out.k2.lt
   have hf2:∀ i,w4.frozen? ⟨w1.heap.size,i,none⟩=false:=HS.out.k2.frozen
   have hl12:=HS.out.l2
   have hag3:Agree (fun q=>q=w.heap.size) w4 (w4.setCell ⟨w1.heap.size,3,none⟩ (.string nm)):=fun q o hq=>by
    subst hq
    exact ((Only.refl (fun q=>q=w1.heap.size) w4).setCell (p:=⟨w1.heap.size,3,none⟩) (fun _=>rfl) (.string nm)).cell (p:=⟨_,o,none⟩) hl1 (show ¬ w.heap.size=w1.heap.size by omega)
   go_wp2_with (first|(refine stp ?_))
   go_meet
   exact ⟨_,_,_,_,_,rfl,(HS.out.set 3 _).set 2 _,HE.out⟩
  rw [if_neg h5] at hq
  have t5:(op == 5)=false:=by simp [h5]
  by_cases h21:21≤op∧op≤24
  ·skip
   rw [if_pos h21] at hq
   have HE:=Lib.hid hq
   have har:ar=true:=by rw [HROW.out];exact decide_eq_true h21
   subst har
   clear hq
   go_upto_region 16 with fail
   have hag1:Agree (fun q=>q=w.heap.size) w2.drew (w2.alloc (.cells #[.string nm,.string src] 9)).drew:=agree_alloc (w:=w2) (.cells #[.string nm,.string src] 9) (fun q hq=>by subst hq;exact hl1)
   have HC:=Lib.hid (sfree_any (w2.alloc (.cells #[.string nm,.string src] 9)).drew _ _ [nm,src] (two_tx w2 nm src) (by simp [honm,hosr]))
   refine wp_region_lit_plan [] [(0,0),(2,0),(6,0),(8,0),(1,1),(3,1),(7,2),(9,2),(4,3),(5,3),(10,0),(11,0),(12,3),(13,0),(14,4)] ((fun q=>q=w.heap.size)) (by kernel_rfl) (by kernel_rfl) (fun c a d v w h=>by cases d<;>exact h) ?_
   go_wp2_with (first|(refine stp ?_))
   refine HC.out.mono ?_
   clear HC
   rintro e w4 ⟨rfl,hb4⟩
   have hb24:Below w2.heap.size w2 w4:=(((Below.refl w2.heap.size w2).alloc (Nat.le_refl _) _).drew).trans (hb4.mono (by show w2.heap.size≤(w2.alloc _).heap.size;simp))
   have hag2:Agree (fun q=>q=w.heap.size) (w2.alloc (.cells #[.string nm,.string src] 9)).drew w4:=agree_bel hb4 (fun q hq=>by subst hq;show w.heap.size < (w2.alloc _).heap.size;simp;omega)
   replace HS:=Lib.hid (HS.out.below hb24)
   clear hb4 hb24 d0 d1 d2 d3 d4 d5 e0 e1 e2 e3 e4 e5 hf2 hl1 hl2
   obtain ⟨d0,d1,d2,d3,d4,d5⟩:=six_cells HS.out.k1
   obtain ⟨e0,e1,e2,e3,e4,e5⟩:=six_cells HS.out.k2
   have hl1:=HS.out.k1.lt
   have hl2:=HS.out.k2.lt
   have hf2:∀ i,w4.frozen? ⟨w1.heap.size,i,none⟩=false:=HS.out.k2.frozen
   have hl12:=HS.out.l2
   have hag3:Agree (fun q=>q=w.heap.size) w4 (w4.setCell ⟨w1.heap.size,3,none⟩ (.string nm)):=fun q o hq=>by
    subst hq
    exact ((Only.refl (fun q=>q=w1.heap.size) w4).setCell (p:=⟨w1.heap.size,3,none⟩) (fun _=>rfl) (.string nm)).cell (p:=⟨_,o,none⟩) hl1 (show ¬ w.heap.size=w1.heap.size by omega)
   go_wp2_with (first|(refine stp ?_))
   go_meet
   exact ⟨_,_,_,_,_,rfl,(HS.out.set 3 _).set 4 _,HE.out⟩
  rw [if_neg h21] at hq
  have HE:=Lib.hid hq
  have har:ar=false:=by rw [HROW.out];exact decide_eq_false h21
  subst har
  clear hq
  go_wp2
  go_meet
  exact ⟨_,_,_,_,_,rfl,HS.out,HE.out⟩
 case rest =>
 obtain ⟨ok,n2,s2,nm2,sr2,rfl,hs,hq⟩:=hcut
 replace HS:=Lib.hid hs
 obtain ⟨w3,rfl⟩:∃ w3,w3=wc:=⟨_,rfl⟩
 obtain ⟨d0,d1,d2,d3,d4,d5⟩:=six_cells HS.out.k1
 obtain ⟨e0,e1,e2,e3,e4,e5⟩:=six_cells HS.out.k2
 have hl1:=HS.out.k1.lt
 have hl2:=HS.out.k2.lt
 have hf2:∀ i,w3.frozen? ⟨w1.heap.size,i,none⟩=false:=HS.out.k2.frozen
 have HE:=Lib.hid hq
 unfold chkF at HE
 simp only at HE
 clear hs hq
 cases ok with
 | false =>
  go_wp2
  go_ret
  exact ⟨by rw [←HE.out];rfl,HS.out.bel⟩
 | true =>
 cases q1:(n2 == n) with
 | false =>
  go_wp2
  go_ret
  exact ⟨by rw [←HE.out,q1];rfl,HS.out.bel⟩
 | true =>
 cases q2:(s2.toList == s.toList) with
 | false =>
  go_wp2
  go_ret
  exact ⟨by rw [←HE.out,q1,q2];rfl,HS.out.bel⟩
 | true =>
 cases q3:(nm2.toList == nm.toList) with
 | false =>
  go_wp2
  go_ret
  exact ⟨by rw [←HE.out,q1,q2,q3];rfl,HS.out.bel⟩
 | true =>
  go_wp2
  go_ret
  exact ⟨by rw [←HE.out,q1,q2,q3];rfl,HS.out.bel⟩
def builtX:EX→Bool
 | .leaf h=>((argsP h.op).1 == 0) && fieldsB h && true
 | .one h _ a=>((argsP h.op).1 == 1) && fieldsB h && (builtX a && true)
 | .two h _ a b=>((argsP h.op).1 == 2) && fieldsB h && (builtX a && (builtX b && true))
theorem builtX_eq:∀ x:EX,builtX x=(((argsP x.hd.op).1 == (x.kids.length:Int)) && fieldsB x.hd && x.kids.all builtX)
 | .leaf _=>rfl
 | .one _ _ _=>rfl
 | .two _ _ _ _=>rfl
def rightX (x:EX):Bool:=smallZ (sizeX x 0) && builtX x
def BuiltAt (x:EX):Prop:=∀ (w:World) (B:Nat→Prop) (p:Option Addr) (c:Nat),x.at w B→x.ok→x.av=.slice p x.kids.length c →
 Calls Tryz.prog 41 #[.agg #[.int .i64 x.hd.op,.int .i64 x.hd.n,.string x.hd.s,.string x.hd.name,.string x.hd.src,.slice p x.kids.length c]] w (BoolOut w (builtX x))
theorem not_built (x:EX) (hx:BuiltAt x) (w:World) (B:Nat→Prop) (p:Option Addr) (c:Nat) (hat:x.at w B) (hok:x.ok) (hv:x.av=.slice p x.kids.length c) :
 Calls Tryz.prog 67 #[.agg #[.int .i64 x.hd.op,.int .i64 x.hd.n,.string x.hd.s,.string x.hd.name,.string x.hd.src,.slice p x.kids.length c]] w (BoolOut w (!builtX x)):=by
 obtain ⟨w1,hw1⟩:∃ w1,w.alloc (.cells #[.int .i64 x.hd.op,.int .i64 x.hd.n,.string x.hd.s,.string x.hd.name,.string x.hd.src,.slice p x.kids.length c] 27)=w1:=⟨_,rfl⟩
 have hb1:Below w.heap.size w w1:=hw1▸(Below.refl _ _).alloc (Nat.le_refl _) _
 have hk1:Blk w1 w.heap.size 27 [.int .i64 x.hd.op,.int .i64 x.hd.n,.string x.hd.s,.string x.hd.name,.string x.hd.src,.slice p x.kids.length c]:=hw1▸Blk.new w _ _
 have HC:=Lib.hid (hx w1 B p c (EX.at_below hb1 x hat) hok hv)
 have HB:=Lib.hid hb1
 obtain ⟨d0,d1,d2,d3,d4,d5⟩:=six_cells hk1
 have hl1:=hk1.lt
 clear hb1 hk1 hx hat hok hv
 go_enter Tryz.func67,Tryz.ntmps67
 go_wp2_with fail
 refine HC.out.mono ?_
 clear HC
 rintro e w2 ⟨rfl,hb2⟩
 have HB2:=Lib.hid (HB.out.trans (hb2.mono HB.out.size))
 clear hb2
 go_wp2
 go_ret
 exact ⟨rfl,HB2.out⟩
def nBuilt (x:EX):Bool:=!builtX x
theorem index_built (x:EX) (IH:∀ y∈x.kids,BuiltAt y) (w:World) (B:Nat→Prop) (p:Option Addr) (c:Nat) (hx:x.at w B) (hok:x.ok) (hv:x.av=.slice p x.kids.length c) :
 Calls Tryz.prog 87 #[.slice p x.kids.length c,.func (.func 67) #[] #[]] w (IdxOut w (x.kids.any nBuilt)):=by
 have HX:=Lib.hid hx
 have HIH:=Lib.hid IH
 have HV:=Lib.hid hv
 have HOK:=Lib.hid (EX.ok_kids hok)
 have hle:=EX.kids_le x
 clear hx IH hv hok
 go_enter Tryz.func87,Tryz.ntmps87
 go_wp2
 go_loopw [8] (fun i wr=>∃ k:Nat,i=.int .i64 k∧k≤x.kids.length∧(x.kids.take k).any nBuilt=false∧Below w.heap.size w wr) (fun i _=>x.kids.length - (intOf i).toNat)
 case atStart=>exact ⟨0,rfl,Nat.zero_le _,rfl,Below.refl _ _⟩
 case round =>
  obtain ⟨k,rfl,hk,hn,hb⟩:=hrel
  obtain ⟨wo,rfl⟩:∃ wo:World,wo=wr:=⟨_,rfl⟩
  have HN:=Lib.hid hn
  have HB:=Lib.hid hb
  by_cases hkn:k < x.kids.length
  ·have hxw:=EX.at_below hb x HX.out
   obtain ⟨g,off,cap,hv,hgl,hg,e0,e1,e2,e3,e4,e5⟩:=EX.kid hxw hkn
   rw [HV.out] at hv
   cases hv
   have hy:=(EX.at_kids hxw).2 _ (List.getElem_mem hkn)
   obtain ⟨p',c',hv'⟩:=EX.form_kids hy
   rw [hv'] at e5
   have HC:=Lib.hid (not_built _ (HIH.out _ (List.getElem_mem hkn)) wo B p' c' hy (HOK.out _ (List.getElem_mem hkn)) hv')
   have HA:=Lib.hid (any_next nBuilt x.kids k hkn hn)
   have HY:=Lib.hid (any_hit nBuilt x.kids k hkn)
   generalize x.kids[k]=y at *
   clear hn hb hxw hy hv' hg
   go_wp2_with fail
   refine HC.out.mono ?_
   clear HC
   rintro e w2 ⟨rfl,hb2⟩
   have HB2:=Lib.hid (HB.out.trans (hb2.mono HB.out.size))
   clear hb2 e0 e1 e2 e3 e4 e5 hgl
   cases hx:builtX y with
   | true =>
    have HF:=Lib.hid (HA.out (by unfold nBuilt;rw [hx];rfl))
    clear HA HY
    go_wp2
    go_roundw
    case rel=>exact ⟨k+1,by go_num,by omega,HF.out,HB2.out⟩
    case measure=>(simp [intOf])<;>omega
   | false =>
    have HF:=Lib.hid (HY.out (by unfold nBuilt;rw [hx];rfl))
    clear HA HY
    go_wp2
    go_ret
    exact ⟨k,rfl,by rw [HF.out];exact decide_eq_true (by omega),HB2.out⟩
  ·have HC:Hid (x.kids.any nBuilt=false):=by
    have:=HN.out
    rw [List.take_of_length_le (by omega)] at this
    exact this
   clear hn hb
   go_wp2
   go_ret
   exact ⟨-1,rfl,by rw [HC.out];rfl,HB.out⟩
theorem contains_built (x:EX) (IH:∀ y∈x.kids,BuiltAt y) (w:World) (B:Nat→Prop) (p:Option Addr) (c:Nat) (hx:x.at w B) (hok:x.ok) (hv:x.av=.slice p x.kids.length c) :
 Calls Tryz.prog 66 #[.slice p x.kids.length c,.func (.func 67) #[] #[]] w (BoolOut w (x.kids.any nBuilt)):=by
 have HI:=Lib.hid (index_built x IH w B p c hx hok hv)
 clear hx IH hv hok
 go_enter Tryz.func66,Tryz.ntmps66
 go_wp2_with fail
 refine HI.out.mono ?_
 clear HI
 rintro e w2 ⟨r,rfl,hr,hb2⟩
 have HR:=Lib.hid hr
 have HB:=Lib.hid hb2
 clear hr hb2
 go_wp2
 go_ret
 exact ⟨by rw [←HR.out];rfl,HB.out⟩
theorem any_not {l:List EX}:l.any nBuilt=!l.all builtX:=by
 induction l with
 | nil=>rfl
 | cons a t ih=>rw [List.any_cons,List.all_cons,ih,Bool.not_and];rfl
theorem builtx_any:∀ x:EX,BuiltAt x:=by
 refine EX.rec_kids fun x IH w B p c hx hok hv=>?_
 obtain ⟨w1,hw1⟩:∃ w1,w.alloc (.cells #[.int .i64 x.hd.op,.int .i64 x.hd.n,.string x.hd.s,.string x.hd.name,.string x.hd.src,.slice p x.kids.length c] 27)=w1:=⟨_,rfl⟩
 have hb1:Below w.heap.size w w1:=hw1▸(Below.refl _ _).alloc (Nat.le_refl _) _
 have hk1:Blk w1 w.heap.size 27 [.int .i64 x.hd.op,.int .i64 x.hd.n,.string x.hd.s,.string x.hd.name,.string x.hd.src,.slice p x.kids.length c]:=hw1▸Blk.new w _ _
 obtain ⟨out,hout⟩:∃ out,builtX x=out:=⟨_,rfl⟩
 rw [hout]
 rw [builtX_eq] at hout
 have HE:=Lib.hid hout
 have HX1:=Lib.hid (EX.at_below hb1 x hx)
 have HA:=Lib.hid (args_any w1 x.hd.op)
 have HF:=Lib.hid (fun W=>fields_any W x.hd _ p x.kids.length c rfl (EX.ok_hd hok))
 have HC:=Lib.hid (fun W (h:Below w1.heap.size w1 W)=>contains_built x IH W B p c (EX.at_below h x (EX.at_below hb1 x hx)) hok hv)
 have HK:=Lib.hid hk1
 have HB:=Lib.hid hb1
 have hle:=EX.kids_le x
 obtain ⟨d0,d1,d2,d3,d4,d5⟩:=six_cells hk1
 have hl1:=hk1.lt
 unfold ArgsOut at HA
 obtain ⟨⟨an,ar⟩,har⟩:∃ q,argsP x.hd.op=q:=⟨_,rfl⟩
 rw [har] at HA HE
 simp only at HA HE
 clear hb1 hk1 hx IH hv hok hout har
 go_enter Tryz.func41,Tryz.ntmps41
 go_wp2_with fail
 refine HA.out.mono ?_
 clear HA
 rintro e w1' ⟨rfl,hw1'⟩
 subst hw1'
 clear hw1
 cases q1:(an == (x.kids.length:Int)) with
 | false =>
  go_wp2
  go_ret
  exact ⟨by rw [←HE.out,q1];rfl,HB.out⟩
 | true =>
 go_wp2_with fail
 refine (HF.out _).mono ?_
 clear HF
 rintro e w2 ⟨rfl,hb2⟩
 have HB2:=Lib.hid (HB.out.trans (hb2.mono HB.out.size))
 have HC2:=Lib.hid (HC.out w2 hb2)
 have hk2:=HK.out.below hb2
 clear d0 d1 d2 d3 d4 d5 hl1 HC
 obtain ⟨d0,d1,d2,d3,d4,d5⟩:=six_cells hk2
 have hl2:=hk2.lt
 clear hb2 hk2
 cases q2:fieldsB x.hd with
 | false =>
  go_wp2
  go_ret
  exact ⟨by rw [←HE.out,q1,q2];rfl,HB2.out⟩
 | true =>
 go_wp2_with fail
 refine HC2.out.mono ?_
 clear HC2
 rintro e w3 ⟨rfl,hb3⟩
 have HB3:=Lib.hid (HB2.out.trans (hb3.mono HB2.out.size))
 clear hb3
 go_wp2
 go_ret
 exact ⟨by show Ending.returned (.bool (!(x.kids.any nBuilt)))=_;rw [any_not,Bool.not_not,←HE.out,q1,q2];rfl,HB3.out⟩
theorem right_anyX (x:EX) (w:World) (B:Nat→Prop) (p:Option Addr) (c:Nat) (hx:x.at w B) (hok:x.ok) (hv:x.av=.slice p x.kids.length c) :
 Calls Tryz.prog 25 #[.agg #[.int .i64 x.hd.op,.int .i64 x.hd.n,.string x.hd.s,.string x.hd.name,.string x.hd.src,.slice p x.kids.length c]] w (BoolOut w (rightX x)):=by
 obtain ⟨w1,hw1⟩:∃ w1,w.alloc (.cells #[.int .i64 x.hd.op,.int .i64 x.hd.n,.string x.hd.s,.string x.hd.name,.string x.hd.src,.slice p x.kids.length c] 27)=w1:=⟨_,rfl⟩
 have hb1:Below w.heap.size w w1:=hw1▸(Below.refl _ _).alloc (Nat.le_refl _) _
 have hk1:Blk w1 w.heap.size 27 [.int .i64 x.hd.op,.int .i64 x.hd.n,.string x.hd.s,.string x.hd.name,.string x.hd.src,.slice p x.kids.length c]:=hw1▸Blk.new w _ _
 have hx1:=EX.at_below hb1 x hx
 have HS:=Lib.hid (sizex_any x 0 (by omega) w1 B p c hx1 hv)
 have HC:=Lib.hid (fun W (h:Below w1.heap.size w1 W)=>builtx_any x W B p c (EX.at_below h x hx1) hok hv)
 have HK:=Lib.hid hk1
 have HB:=Lib.hid hb1
 obtain ⟨d0,d1,d2,d3,d4,d5⟩:=six_cells hk1
 have hl1:=hk1.lt
 obtain ⟨out,hout⟩:∃ out,rightX x=out:=⟨_,rfl⟩
 rw [hout]
 unfold rightX at hout
 have HE:=Lib.hid hout
 clear hb1 hk1 hx hx1 hok hv hout
 go_enter Tryz.func25,Tryz.ntmps25
 go_wp2_with fail
 refine HS.out.mono ?_
 clear HS hw1
 rintro e w2 ⟨rfl,hb2⟩
 generalize sizeX x 0=s at *
 obtain ⟨w3,hw3⟩:∃ w3,w2.alloc (.cells #[.int .i64 s.1,.int .i64 s.2] 91)=w3:=⟨_,rfl⟩
 have hb3:Below w2.heap.size w2 w3:=hw3▸(Below.refl _ _).alloc (Nat.le_refl _) _
 have hk3:SzB w3 w2.heap.size s:=hw3▸Blk.new w2 _ _
 have HM:=Lib.hid (small_any w3 w2.heap.size s hk3)
 have hb13:=hb2.trans (hb3.mono hb2.size)
 have hk13:=HK.out.below hb13
 have HB3:=Lib.hid (HB.out.trans (hb13.mono HB.out.size))
 have HC3:=Lib.hid (HC.out w3 hb13)
 have HW3:=Lib.hid hw3
 clear d0 d1 d2 d3 d4 d5 hl1 HC hb2 hb3 hk3 hb13 hw3
 go_upto_region 2 with fail
 rw [HW3.out]
 obtain ⟨d0,d1,d2,d3,d4,d5⟩:=six_cells hk13
 have hl3:=hk13.lt
 clear hk13
 go_wp2_with fail
 refine HM.out.mono ?_
 clear HM
 rintro e w4 ⟨rfl,hw4⟩
 subst hw4
 cases q1:smallZ s with
 | false =>
  go_wp2
  go_ret
  exact ⟨by rw [←HE.out,q1];rfl,HB3.out⟩
 | true =>
 go_wp2_with fail
 refine HC3.out.mono ?_
 clear HC3
 rintro e w5 ⟨rfl,hb5⟩
 have HB5:=Lib.hid (HB3.out.trans (hb5.mono HB3.out.size))
 clear hb5
 go_wp2
 go_ret
 exact ⟨by rw [←HE.out,q1];rfl,HB5.out⟩
def FnAt (fn:Nat) (x:EX) (G:List KnA→Nat→Ans):Prop:=∀ (w:World) (eb f:Nat) (v:Value) (l:List KnM) (p:Option Addr) (c:Nat),EnvAt w eb f v l→x.at w (offE eb v)→x.av=.slice p x.kids.length c→l.length+x.dep≤1000000 →
 Calls Tryz.prog fn #[.pointer (some ⟨eb,0,none⟩),.agg #[.int .i64 x.hd.op,.int .i64 x.hd.n,.string x.hd.s,.string x.hd.name,.string x.hd.src,.slice p x.kids.length c]] w (EvOut w eb v l (G (l.map KnM.a) f))
theorem eval_one (x:EX) (G:List KnA→Nat→Ans) (hop:x.hd.op=19∨x.hd.op=20) (hxe:∀ l f,evalX x l f=stepF (G l) f) (hfn:FnAt 49 x G):EvalAt x:=by
 intro w eb f v l p c hE hx hv hd
 have HFN:=Lib.hid hfn
 clear hfn
 obtain ⟨w1,hw1⟩:∃ w1,w.alloc (.cells #[.int .i64 x.hd.op,.int .i64 x.hd.n,.string x.hd.s,.string x.hd.name,.string x.hd.src,.slice p x.kids.length c] 27)=w1:=⟨_,rfl⟩
 have hb1:Below w.heap.size w w1:=hw1▸(Below.refl _ _).alloc (Nat.le_refl _) _
 have hk1:Blk w1 w.heap.size 27 [.int .i64 x.hd.op,.int .i64 x.hd.n,.string x.hd.s,.string x.hd.name,.string x.hd.src,.slice p x.kids.length c]:=hw1▸Blk.new w _ _
 obtain ⟨w2,hw2⟩:∃ w2,w1.alloc (.cells #[.int .i64 0,.int .i64 0,.string ⟨#[]⟩] 35)=w2:=⟨_,rfl⟩
 have hb2:Below w1.heap.size w1 w2:=hw2▸(Below.refl _ _).alloc (Nat.le_refl _) _
 have hk2:Blk w2 w1.heap.size 35 [.int .i64 0,.int .i64 0,.string ⟨#[]⟩]:=hw2▸Blk.new w1 _ _
 have hl12:w.heap.size < w1.heap.size:=hk1.lt
 have hl12':w.heap.size≤w1.heap.size:=Nat.le_of_lt hl12
 have hs2:EnvS w w2 eb v v:=EnvS.of_below (hb1.trans (hb2.mono hb1.size))
 have he2:=(hE.below hb1).below hb2
 have hbx:BoxAt w2 eb v w.heap.size 27 [.int .i64 x.hd.op,.int .i64 x.hd.n,.string x.hd.s,.string x.hd.name,.string x.hd.src,.slice p x.kids.length c]:=(BoxAt.fresh hE hk1 rfl).below hb2
 have hbr:BoxAt w2 eb v w1.heap.size 35 [.int .i64 0,.int .i64 0,.string ⟨#[]⟩]:=BoxAt.fresh (hE.below hb1) hk2 rfl
 have H0:=Lib.hid hE
 have HX:=Lib.hid hx
 have HV:=Lib.hid hv
 have HE:=Lib.hid he2
 have HS:=Lib.hid hs2
 have HBX:=Lib.hid hbx
 have HBR:=Lib.hid hbr
 obtain ⟨d0,d1,d2,d3,d4,d5⟩:=six_cells hbx.blk
 have hld:=hbx.blk.lt
 clear hb1 hk1 hb2 hk2 hs2 he2 hbx hbr hE hx hv
 obtain ⟨⟨⟨ok,on,os⟩,oe,ff⟩,hout⟩:∃ out,evalX x (l.map KnM.a) f=out:=⟨_,rfl⟩
 rw [hout]
 rw [hxe] at hout
 have HO:=Lib.hid hout
 clear hout hxe
 go_enter Tryz.func26,Tryz.ntmps26
 cases f with
 | zero =>
  have hq:=HO.out
  unfold stepF wrongA zeroA at hq
  clear HO
  cases hq
  have HS0:=Lib.hid (step_none w2 eb v l HE.out)
  go_wp2_with fail
  clear hw1 hw2 d0 d1 d2 d3 d4 d5 hld
  refine HS0.out.mono ?_
  clear HS0
  rintro e w7 ⟨rfl,hw7⟩
  subst hw7
  have HR:=Lib.hid (wrong_e w2 16)
  go_wp2_with fail
  refine HR.out.mono ?_
  clear HR
  rintro r w9 ⟨rfl,hb9⟩
  unfold zeroA
  replace HS:=Lib.hid (HS.out.trans (EnvS.of_below hb9))
  replace HBX:=Lib.hid (HBX.out.step (EnvS.of_below hb9))
  replace HBR:=Lib.hid (HBR.out.step (EnvS.of_below hb9))
  replace HE:=Lib.hid (HE.out.below hb9)
  clear hb9
  have hkr:=HBR.out.blk
  obtain ⟨z0,z1,z2⟩:=three_cells hkr
  have hfr:=fun i=>hkr.frozen i
  have hlk:=hkr.lt
  clear hkr
  go_wp2
  obtain ⟨hkE,hoE⟩:=set_threeE HBR.out.blk (.int .i64 0) (.int .i64 0) (.string ⟨#[]⟩)
  generalize ((w9.setCell ⟨w1.heap.size,0,none⟩ (.int .i64 0)).setCell ⟨w1.heap.size,1,none⟩ (.int .i64 0)).setCell ⟨w1.heap.size,2,none⟩ (.string ⟨#[]⟩)=wE at *
  obtain ⟨m0,m1,m2⟩:=three_cells hkE
  exact bodyPost_ret (v:=.tuple #[.agg #[.int .i64 0,.int .i64 0,.string ⟨#[]⟩],.int .i64 16]) (by simp [results,Tryz.results26,go_sem,m0,m1,m2]) rfl ⟨_,rfl,EnvAt.wr H0.out HE.out HS.out hl12' HBR.out hoE,EnvS.wr HS.out hoE hl12'⟩
 | succ f1 =>
 unfold stepF at HO
 have HS1:=Lib.hid (step_some w2 eb f1 v l HE.out)
 go_wp2_with fail
 clear hw1 hw2 d0 d1 d2 d3 d4 d5 hld
 refine HS1.out.mono ?_
 clear HS1
 rintro e w3 ⟨rfl,he3,hs3⟩
 replace HS:=Lib.hid (HS.out.trans hs3)
 replace HBX:=Lib.hid (HBX.out.step hs3)
 replace HBR:=Lib.hid (HBR.out.step hs3)
 replace HE:=Lib.hid he3
 clear he3 hs3
 obtain ⟨d0,d1,d2,d3,d4,d5⟩:=six_cells HBX.out.blk
 have hld:=HBX.out.blk.lt
 have HC:=Lib.hid (HFN.out w3 eb f1 v l p c HE.out (EX.next HS.out HX.out) HV.out hd)
 have t1:(x.hd.op == 1)=false:=by simp;omega
 have t2:(x.hd.op == 2)=false:=by simp;omega
 have t3:(x.hd.op == 3)=false:=by simp;omega
 have t4:(x.hd.op == 4)=false:=by simp;omega
 have t5:(x.hd.op == 5)=false:=by simp;omega
 rcases hop with hop|hop
 ·have t19:(x.hd.op == 19)=true:=by simp;omega
  clear hop
  go_wp2_with fail
  clear d0 d1 d2 d3 d4 d5 hld
  refine HC.out.mono ?_
  clear HC
  generalize G (l.map KnM.a) f1=a at *
  obtain ⟨⟨ak,an,sa⟩,ae,f3⟩:=a
  rintro e w4 ⟨v3,rfl,he4,hs4⟩
  simp only at he4 hs4 HO
  have hq:=HO.out
  clear HO
  cases hq
  replace HS:=Lib.hid (HS.out.trans hs4)
  replace HBX:=Lib.hid (HBX.out.step hs4)
  replace HBR:=Lib.hid (HBR.out.step hs4)
  replace HE:=Lib.hid he4
  clear he4 hs4
  have hkr:=HBR.out.blk
  obtain ⟨z0,z1,z2⟩:=three_cells hkr
  have hfr:=fun i=>hkr.frozen i
  have hlk:=hkr.lt
  clear hkr
  go_wp2
  obtain ⟨hkE,hoE⟩:=set_threeE HBR.out.blk (.int .i64 ok) (.int .i64 on) (.string os)
  generalize ((w4.setCell ⟨w1.heap.size,0,none⟩ (.int .i64 ok)).setCell ⟨w1.heap.size,1,none⟩ (.int .i64 on)).setCell ⟨w1.heap.size,2,none⟩ (.string os)=wE at *
  obtain ⟨m0,m1,m2⟩:=three_cells hkE
  exact bodyPost_ret (v:=.tuple #[.agg #[.int .i64 ok,.int .i64 on,.string os],.int .i64 oe]) (by simp [results,Tryz.results26,go_sem,m0,m1,m2]) rfl ⟨_,rfl,EnvAt.wr H0.out HE.out HS.out hl12' HBR.out hoE,EnvS.wr HS.out hoE hl12'⟩
 ·have t19:(x.hd.op == 19)=false:=by simp;omega
  have t20:(x.hd.op == 20)=true:=by simp;omega
  clear hop
  go_wp2_with fail
  clear d0 d1 d2 d3 d4 d5 hld
  refine HC.out.mono ?_
  clear HC
  generalize G (l.map KnM.a) f1=a at *
  obtain ⟨⟨ak,an,sa⟩,ae,f3⟩:=a
  rintro e w4 ⟨v3,rfl,he4,hs4⟩
  simp only at he4 hs4 HO
  have hq:=HO.out
  clear HO
  cases hq
  replace HS:=Lib.hid (HS.out.trans hs4)
  replace HBX:=Lib.hid (HBX.out.step hs4)
  replace HBR:=Lib.hid (HBR.out.step hs4)
  replace HE:=Lib.hid he4
  clear he4 hs4
  have hkr:=HBR.out.blk
  obtain ⟨z0,z1,z2⟩:=three_cells hkr
  have hfr:=fun i=>hkr.frozen i
  have hlk:=hkr.lt
  clear hkr
  go_wp2
  obtain ⟨hkE,hoE⟩:=set_threeE HBR.out.blk (.int .i64 ok) (.int .i64 on) (.string os)
  generalize ((w4.setCell ⟨w1.heap.size,0,none⟩ (.int .i64 ok)).setCell ⟨w1.heap.size,1,none⟩ (.int .i64 on)).setCell ⟨w1.heap.size,2,none⟩ (.string os)=wE at *
  obtain ⟨m0,m1,m2⟩:=three_cells hkE
  exact bodyPost_ret (v:=.tuple #[.agg #[.int .i64 ok,.int .i64 on,.string os],.int .i64 oe]) (by simp [results,Tryz.results26,go_sem,m0,m1,m2]) rfl ⟨_,rfl,EnvAt.wr H0.out HE.out HS.out hl12' HBR.out hoE,EnvS.wr HS.out hoE hl12'⟩
theorem eval_both (x:EX) (G:List KnA→Nat→Ans) (hop:x.hd.op=17∨x.hd.op=18) (hxe:∀ l f,evalX x l f=stepF (G l) f) (hfn:FnAt 50 x G):EvalAt x:=by
 intro w eb f v l p c hE hx hv hd
 have HFN:=Lib.hid hfn
 clear hfn
 obtain ⟨w1,hw1⟩:∃ w1,w.alloc (.cells #[.int .i64 x.hd.op,.int .i64 x.hd.n,.string x.hd.s,.string x.hd.name,.string x.hd.src,.slice p x.kids.length c] 27)=w1:=⟨_,rfl⟩
 have hb1:Below w.heap.size w w1:=hw1▸(Below.refl _ _).alloc (Nat.le_refl _) _
 have hk1:Blk w1 w.heap.size 27 [.int .i64 x.hd.op,.int .i64 x.hd.n,.string x.hd.s,.string x.hd.name,.string x.hd.src,.slice p x.kids.length c]:=hw1▸Blk.new w _ _
 obtain ⟨w2,hw2⟩:∃ w2,w1.alloc (.cells #[.int .i64 0,.int .i64 0,.string ⟨#[]⟩] 35)=w2:=⟨_,rfl⟩
 have hb2:Below w1.heap.size w1 w2:=hw2▸(Below.refl _ _).alloc (Nat.le_refl _) _
 have hk2:Blk w2 w1.heap.size 35 [.int .i64 0,.int .i64 0,.string ⟨#[]⟩]:=hw2▸Blk.new w1 _ _
 have hl12:w.heap.size < w1.heap.size:=hk1.lt
 have hl12':w.heap.size≤w1.heap.size:=Nat.le_of_lt hl12
 have hs2:EnvS w w2 eb v v:=EnvS.of_below (hb1.trans (hb2.mono hb1.size))
 have he2:=(hE.below hb1).below hb2
 have hbx:BoxAt w2 eb v w.heap.size 27 [.int .i64 x.hd.op,.int .i64 x.hd.n,.string x.hd.s,.string x.hd.name,.string x.hd.src,.slice p x.kids.length c]:=(BoxAt.fresh hE hk1 rfl).below hb2
 have hbr:BoxAt w2 eb v w1.heap.size 35 [.int .i64 0,.int .i64 0,.string ⟨#[]⟩]:=BoxAt.fresh (hE.below hb1) hk2 rfl
 have H0:=Lib.hid hE
 have HX:=Lib.hid hx
 have HV:=Lib.hid hv
 have HE:=Lib.hid he2
 have HS:=Lib.hid hs2
 have HBX:=Lib.hid hbx
 have HBR:=Lib.hid hbr
 obtain ⟨d0,d1,d2,d3,d4,d5⟩:=six_cells hbx.blk
 have hld:=hbx.blk.lt
 clear hb1 hk1 hb2 hk2 hs2 he2 hbx hbr hE hx hv
 obtain ⟨⟨⟨ok,on,os⟩,oe,ff⟩,hout⟩:∃ out,evalX x (l.map KnM.a) f=out:=⟨_,rfl⟩
 rw [hout]
 rw [hxe] at hout
 have HO:=Lib.hid hout
 clear hout hxe
 go_enter Tryz.func26,Tryz.ntmps26
 cases f with
 | zero =>
  have hq:=HO.out
  unfold stepF wrongA zeroA at hq
  clear HO
  cases hq
  have HS0:=Lib.hid (step_none w2 eb v l HE.out)
  go_wp2_with fail
  clear hw1 hw2 d0 d1 d2 d3 d4 d5 hld
  refine HS0.out.mono ?_
  clear HS0
  rintro e w7 ⟨rfl,hw7⟩
  subst hw7
  have HR:=Lib.hid (wrong_e w2 16)
  go_wp2_with fail
  refine HR.out.mono ?_
  clear HR
  rintro r w9 ⟨rfl,hb9⟩
  unfold zeroA
  replace HS:=Lib.hid (HS.out.trans (EnvS.of_below hb9))
  replace HBX:=Lib.hid (HBX.out.step (EnvS.of_below hb9))
  replace HBR:=Lib.hid (HBR.out.step (EnvS.of_below hb9))
  replace HE:=Lib.hid (HE.out.below hb9)
  clear hb9
  have hkr:=HBR.out.blk
  obtain ⟨z0,z1,z2⟩:=three_cells hkr
  have hfr:=fun i=>hkr.frozen i
  have hlk:=hkr.lt
  clear hkr
  go_wp2
  obtain ⟨hkE,hoE⟩:=set_threeE HBR.out.blk (.int .i64 0) (.int .i64 0) (.string ⟨#[]⟩)
  generalize ((w9.setCell ⟨w1.heap.size,0,none⟩ (.int .i64 0)).setCell ⟨w1.heap.size,1,none⟩ (.int .i64 0)).setCell ⟨w1.heap.size,2,none⟩ (.string ⟨#[]⟩)=wE at *
  obtain ⟨m0,m1,m2⟩:=three_cells hkE
  exact bodyPost_ret (v:=.tuple #[.agg #[.int .i64 0,.int .i64 0,.string ⟨#[]⟩],.int .i64 16]) (by simp [results,Tryz.results26,go_sem,m0,m1,m2]) rfl ⟨_,rfl,EnvAt.wr H0.out HE.out HS.out hl12' HBR.out hoE,EnvS.wr HS.out hoE hl12'⟩
 | succ f1 =>
 unfold stepF at HO
 have HS1:=Lib.hid (step_some w2 eb f1 v l HE.out)
 go_wp2_with fail
 clear hw1 hw2 d0 d1 d2 d3 d4 d5 hld
 refine HS1.out.mono ?_
 clear HS1
 rintro e w3 ⟨rfl,he3,hs3⟩
 replace HS:=Lib.hid (HS.out.trans hs3)
 replace HBX:=Lib.hid (HBX.out.step hs3)
 replace HBR:=Lib.hid (HBR.out.step hs3)
 replace HE:=Lib.hid he3
 clear he3 hs3
 obtain ⟨d0,d1,d2,d3,d4,d5⟩:=six_cells HBX.out.blk
 have hld:=HBX.out.blk.lt
 have HC:=Lib.hid (HFN.out w3 eb f1 v l p c HE.out (EX.next HS.out HX.out) HV.out hd)
 have t1:(x.hd.op == 1)=false:=by simp;omega
 have t2:(x.hd.op == 2)=false:=by simp;omega
 have t3:(x.hd.op == 3)=false:=by simp;omega
 have t4:(x.hd.op == 4)=false:=by simp;omega
 have t5:(x.hd.op == 5)=false:=by simp;omega
 have t19:(x.hd.op == 19)=false:=by simp;omega
 have t20:(x.hd.op == 20)=false:=by simp;omega
 rcases hop with hop|hop
 ·have t17:(x.hd.op == 17)=true:=by simp;omega
  clear hop
  go_wp2_with fail
  clear d0 d1 d2 d3 d4 d5 hld
  refine HC.out.mono ?_
  clear HC
  generalize G (l.map KnM.a) f1=a at *
  obtain ⟨⟨ak,an,sa⟩,ae,f3⟩:=a
  rintro e w4 ⟨v3,rfl,he4,hs4⟩
  simp only at he4 hs4 HO
  have hq:=HO.out
  clear HO
  cases hq
  replace HS:=Lib.hid (HS.out.trans hs4)
  replace HBX:=Lib.hid (HBX.out.step hs4)
  replace HBR:=Lib.hid (HBR.out.step hs4)
  replace HE:=Lib.hid he4
  clear he4 hs4
  have hkr:=HBR.out.blk
  obtain ⟨z0,z1,z2⟩:=three_cells hkr
  have hfr:=fun i=>hkr.frozen i
  have hlk:=hkr.lt
  clear hkr
  go_wp2
  obtain ⟨hkE,hoE⟩:=set_threeE HBR.out.blk (.int .i64 ok) (.int .i64 on) (.string os)
  generalize ((w4.setCell ⟨w1.heap.size,0,none⟩ (.int .i64 ok)).setCell ⟨w1.heap.size,1,none⟩ (.int .i64 on)).setCell ⟨w1.heap.size,2,none⟩ (.string os)=wE at *
  obtain ⟨m0,m1,m2⟩:=three_cells hkE
  exact bodyPost_ret (v:=.tuple #[.agg #[.int .i64 ok,.int .i64 on,.string os],.int .i64 oe]) (by simp [results,Tryz.results26,go_sem,m0,m1,m2]) rfl ⟨_,rfl,EnvAt.wr H0.out HE.out HS.out hl12' HBR.out hoE,EnvS.wr HS.out hoE hl12'⟩
 ·have t17:(x.hd.op == 17)=false:=by simp;omega
  have t18:(x.hd.op == 18)=true:=by simp;omega
  clear hop
  go_wp2_with fail
  clear d0 d1 d2 d3 d4 d5 hld
  refine HC.out.mono ?_
  clear HC
  generalize G (l.map KnM.a) f1=a at *
  obtain ⟨⟨ak,an,sa⟩,ae,f3⟩:=a
  rintro e w4 ⟨v3,rfl,he4,hs4⟩
  simp only at he4 hs4 HO
  have hq:=HO.out
  clear HO
  cases hq
  replace HS:=Lib.hid (HS.out.trans hs4)
  replace HBX:=Lib.hid (HBX.out.step hs4)
  replace HBR:=Lib.hid (HBR.out.step hs4)
  replace HE:=Lib.hid he4
  clear he4 hs4
  have hkr:=HBR.out.blk
  obtain ⟨z0,z1,z2⟩:=three_cells hkr
  have hfr:=fun i=>hkr.frozen i
  have hlk:=hkr.lt
  clear hkr
  go_wp2
  obtain ⟨hkE,hoE⟩:=set_threeE HBR.out.blk (.int .i64 ok) (.int .i64 on) (.string os)
  generalize ((w4.setCell ⟨w1.heap.size,0,none⟩ (.int .i64 ok)).setCell ⟨w1.heap.size,1,none⟩ (.int .i64 on)).setCell ⟨w1.heap.size,2,none⟩ (.string os)=wE at *
  obtain ⟨m0,m1,m2⟩:=three_cells hkE
  exact bodyPost_ret (v:=.tuple #[.agg #[.int .i64 ok,.int .i64 on,.string os],.int .i64 oe]) (by simp [results,Tryz.results26,go_sem,m0,m1,m2]) rfl ⟨_,rfl,EnvAt.wr H0.out HE.out HS.out hl12' HBR.out hoE,EnvS.wr HS.out hoE hl12'⟩
theorem eval_fold (x:EX) (G:List KnA→Nat→Ans) (hop:x.hd.op=21∨x.hd.op=22∨x.hd.op=23∨x.hd.op=24) (hxe:∀ l f,evalX x l f=stepF (G l) f) (hfn:FnAt 51 x G):EvalAt x:=by
 intro w eb f v l p c hE hx hv hd
 have HFN:=Lib.hid hfn
 clear hfn
 obtain ⟨w1,hw1⟩:∃ w1,w.alloc (.cells #[.int .i64 x.hd.op,.int .i64 x.hd.n,.string x.hd.s,.string x.hd.name,.string x.hd.src,.slice p x.kids.length c] 27)=w1:=⟨_,rfl⟩
 have hb1:Below w.heap.size w w1:=hw1▸(Below.refl _ _).alloc (Nat.le_refl _) _
 have hk1:Blk w1 w.heap.size 27 [.int .i64 x.hd.op,.int .i64 x.hd.n,.string x.hd.s,.string x.hd.name,.string x.hd.src,.slice p x.kids.length c]:=hw1▸Blk.new w _ _
 obtain ⟨w2,hw2⟩:∃ w2,w1.alloc (.cells #[.int .i64 0,.int .i64 0,.string ⟨#[]⟩] 35)=w2:=⟨_,rfl⟩
 have hb2:Below w1.heap.size w1 w2:=hw2▸(Below.refl _ _).alloc (Nat.le_refl _) _
 have hk2:Blk w2 w1.heap.size 35 [.int .i64 0,.int .i64 0,.string ⟨#[]⟩]:=hw2▸Blk.new w1 _ _
 have hl12:w.heap.size < w1.heap.size:=hk1.lt
 have hl12':w.heap.size≤w1.heap.size:=Nat.le_of_lt hl12
 have hs2:EnvS w w2 eb v v:=EnvS.of_below (hb1.trans (hb2.mono hb1.size))
 have he2:=(hE.below hb1).below hb2
 have hbx:BoxAt w2 eb v w.heap.size 27 [.int .i64 x.hd.op,.int .i64 x.hd.n,.string x.hd.s,.string x.hd.name,.string x.hd.src,.slice p x.kids.length c]:=(BoxAt.fresh hE hk1 rfl).below hb2
 have hbr:BoxAt w2 eb v w1.heap.size 35 [.int .i64 0,.int .i64 0,.string ⟨#[]⟩]:=BoxAt.fresh (hE.below hb1) hk2 rfl
 have H0:=Lib.hid hE
 have HX:=Lib.hid hx
 have HV:=Lib.hid hv
 have HE:=Lib.hid he2
 have HS:=Lib.hid hs2
 have HBX:=Lib.hid hbx
 have HBR:=Lib.hid hbr
 obtain ⟨d0,d1,d2,d3,d4,d5⟩:=six_cells hbx.blk
 have hld:=hbx.blk.lt
 clear hb1 hk1 hb2 hk2 hs2 he2 hbx hbr hE hx hv
 obtain ⟨⟨⟨ok,on,os⟩,oe,ff⟩,hout⟩:∃ out,evalX x (l.map KnM.a) f=out:=⟨_,rfl⟩
 rw [hout]
 rw [hxe] at hout
 have HO:=Lib.hid hout
 clear hout hxe
 go_enter Tryz.func26,Tryz.ntmps26
 cases f with
 | zero =>
  have hq:=HO.out
  unfold stepF wrongA zeroA at hq
  clear HO
  cases hq
  have HS0:=Lib.hid (step_none w2 eb v l HE.out)
  go_wp2_with fail
  clear hw1 hw2 d0 d1 d2 d3 d4 d5 hld
  refine HS0.out.mono ?_
  clear HS0
  rintro e w7 ⟨rfl,hw7⟩
  subst hw7
  have HR:=Lib.hid (wrong_e w2 16)
  go_wp2_with fail
  refine HR.out.mono ?_
  clear HR
  rintro r w9 ⟨rfl,hb9⟩
  unfold zeroA
  replace HS:=Lib.hid (HS.out.trans (EnvS.of_below hb9))
  replace HBX:=Lib.hid (HBX.out.step (EnvS.of_below hb9))
  replace HBR:=Lib.hid (HBR.out.step (EnvS.of_below hb9))
  replace HE:=Lib.hid (HE.out.below hb9)
  clear hb9
  have hkr:=HBR.out.blk
  obtain ⟨z0,z1,z2⟩:=three_cells hkr
  have hfr:=fun i=>hkr.frozen i
  have hlk:=hkr.lt
  clear hkr
  go_wp2
  obtain ⟨hkE,hoE⟩:=set_threeE HBR.out.blk (.int .i64 0) (.int .i64 0) (.string ⟨#[]⟩)
  generalize ((w9.setCell ⟨w1.heap.size,0,none⟩ (.int .i64 0)).setCell ⟨w1.heap.size,1,none⟩ (.int .i64 0)).setCell ⟨w1.heap.size,2,none⟩ (.string ⟨#[]⟩)=wE at *
  obtain ⟨m0,m1,m2⟩:=three_cells hkE
  exact bodyPost_ret (v:=.tuple #[.agg #[.int .i64 0,.int .i64 0,.string ⟨#[]⟩],.int .i64 16]) (by simp [results,Tryz.results26,go_sem,m0,m1,m2]) rfl ⟨_,rfl,EnvAt.wr H0.out HE.out HS.out hl12' HBR.out hoE,EnvS.wr HS.out hoE hl12'⟩
 | succ f1 =>
 unfold stepF at HO
 have HS1:=Lib.hid (step_some w2 eb f1 v l HE.out)
 go_wp2_with fail
 clear hw1 hw2 d0 d1 d2 d3 d4 d5 hld
 refine HS1.out.mono ?_
 clear HS1
 rintro e w3 ⟨rfl,he3,hs3⟩
 replace HS:=Lib.hid (HS.out.trans hs3)
 replace HBX:=Lib.hid (HBX.out.step hs3)
 replace HBR:=Lib.hid (HBR.out.step hs3)
 replace HE:=Lib.hid he3
 clear he3 hs3
 obtain ⟨d0,d1,d2,d3,d4,d5⟩:=six_cells HBX.out.blk
 have hld:=HBX.out.blk.lt
 have HC:=Lib.hid (HFN.out w3 eb f1 v l p c HE.out (EX.next HS.out HX.out) HV.out hd)
 have t1:(x.hd.op == 1)=false:=by simp;omega
 have t2:(x.hd.op == 2)=false:=by simp;omega
 have t3:(x.hd.op == 3)=false:=by simp;omega
 have t4:(x.hd.op == 4)=false:=by simp;omega
 have t5:(x.hd.op == 5)=false:=by simp;omega
 have t19:(x.hd.op == 19)=false:=by simp;omega
 have t20:(x.hd.op == 20)=false:=by simp;omega
 have t17:(x.hd.op == 17)=false:=by simp;omega
 have t18:(x.hd.op == 18)=false:=by simp;omega
 rcases hop with hop|hop|hop|hop
 ·have t21:(x.hd.op == 21)=true:=by simp;omega
  clear hop
  go_wp2_with fail
  clear d0 d1 d2 d3 d4 d5 hld
  refine HC.out.mono ?_
  clear HC
  generalize G (l.map KnM.a) f1=a at *
  obtain ⟨⟨ak,an,sa⟩,ae,f3⟩:=a
  rintro e w4 ⟨v3,rfl,he4,hs4⟩
  simp only at he4 hs4 HO
  have hq:=HO.out
  clear HO
  cases hq
  replace HS:=Lib.hid (HS.out.trans hs4)
  replace HBX:=Lib.hid (HBX.out.step hs4)
  replace HBR:=Lib.hid (HBR.out.step hs4)
  replace HE:=Lib.hid he4
  clear he4 hs4
  have hkr:=HBR.out.blk
  obtain ⟨z0,z1,z2⟩:=three_cells hkr
  have hfr:=fun i=>hkr.frozen i
  have hlk:=hkr.lt
  clear hkr
  go_wp2
  obtain ⟨hkE,hoE⟩:=set_threeE HBR.out.blk (.int .i64 ok) (.int .i64 on) (.string os)
  generalize ((w4.setCell ⟨w1.heap.size,0,none⟩ (.int .i64 ok)).setCell ⟨w1.heap.size,1,none⟩ (.int .i64 on)).setCell ⟨w1.heap.size,2,none⟩ (.string os)=wE at *
  obtain ⟨m0,m1,m2⟩:=three_cells hkE
  exact bodyPost_ret (v:=.tuple #[.agg #[.int .i64 ok,.int .i64 on,.string os],.int .i64 oe]) (by simp [results,Tryz.results26,go_sem,m0,m1,m2]) rfl ⟨_,rfl,EnvAt.wr H0.out HE.out HS.out hl12' HBR.out hoE,EnvS.wr HS.out hoE hl12'⟩
 ·have t21:(x.hd.op == 21)=false:=by simp;omega
  have t22:(x.hd.op == 22)=true:=by simp;omega
  clear hop
  go_wp2_with fail
  clear d0 d1 d2 d3 d4 d5 hld
  refine HC.out.mono ?_
  clear HC
  generalize G (l.map KnM.a) f1=a at *
  obtain ⟨⟨ak,an,sa⟩,ae,f3⟩:=a
  rintro e w4 ⟨v3,rfl,he4,hs4⟩
  simp only at he4 hs4 HO
  have hq:=HO.out
  clear HO
  cases hq
  replace HS:=Lib.hid (HS.out.trans hs4)
  replace HBX:=Lib.hid (HBX.out.step hs4)
  replace HBR:=Lib.hid (HBR.out.step hs4)
  replace HE:=Lib.hid he4
  clear he4 hs4
  have hkr:=HBR.out.blk
  obtain ⟨z0,z1,z2⟩:=three_cells hkr
  have hfr:=fun i=>hkr.frozen i
  have hlk:=hkr.lt
  clear hkr
  go_wp2
  obtain ⟨hkE,hoE⟩:=set_threeE HBR.out.blk (.int .i64 ok) (.int .i64 on) (.string os)
  generalize ((w4.setCell ⟨w1.heap.size,0,none⟩ (.int .i64 ok)).setCell ⟨w1.heap.size,1,none⟩ (.int .i64 on)).setCell ⟨w1.heap.size,2,none⟩ (.string os)=wE at *
  obtain ⟨m0,m1,m2⟩:=three_cells hkE
  exact bodyPost_ret (v:=.tuple #[.agg #[.int .i64 ok,.int .i64 on,.string os],.int .i64 oe]) (by simp [results,Tryz.results26,go_sem,m0,m1,m2]) rfl ⟨_,rfl,EnvAt.wr H0.out HE.out HS.out hl12' HBR.out hoE,EnvS.wr HS.out hoE hl12'⟩
 ·have t21:(x.hd.op == 21)=false:=by simp;omega
  have t22:(x.hd.op == 22)=false:=by simp;omega
  have t23:(x.hd.op == 23)=true:=by simp;omega
  clear hop
  go_wp2_with fail
  clear d0 d1 d2 d3 d4 d5 hld
  refine HC.out.mono ?_
  clear HC
  generalize G (l.map KnM.a) f1=a at *
  obtain ⟨⟨ak,an,sa⟩,ae,f3⟩:=a
  rintro e w4 ⟨v3,rfl,he4,hs4⟩
  simp only at he4 hs4 HO
  have hq:=HO.out
  clear HO
  cases hq
  replace HS:=Lib.hid (HS.out.trans hs4)
  replace HBX:=Lib.hid (HBX.out.step hs4)
  replace HBR:=Lib.hid (HBR.out.step hs4)
  replace HE:=Lib.hid he4
  clear he4 hs4
  have hkr:=HBR.out.blk
  obtain ⟨z0,z1,z2⟩:=three_cells hkr
  have hfr:=fun i=>hkr.frozen i
  have hlk:=hkr.lt
  clear hkr
  go_wp2
  obtain ⟨hkE,hoE⟩:=set_threeE HBR.out.blk (.int .i64 ok) (.int .i64 on) (.string os)
  generalize ((w4.setCell ⟨w1.heap.size,0,none⟩ (.int .i64 ok)).setCell ⟨w1.heap.size,1,none⟩ (.int .i64 on)).setCell ⟨w1.heap.size,2,none⟩ (.string os)=wE at *
  obtain ⟨m0,m1,m2⟩:=three_cells hkE
  exact bodyPost_ret (v:=.tuple #[.agg #[.int .i64 ok,.int .i64 on,.string os],.int .i64 oe]) (by simp [results,Tryz.results26,go_sem,m0,m1,m2]) rfl ⟨_,rfl,EnvAt.wr H0.out HE.out HS.out hl12' HBR.out hoE,EnvS.wr HS.out hoE hl12'⟩
 ·have t21:(x.hd.op == 21)=false:=by simp;omega
  have t22:(x.hd.op == 22)=false:=by simp;omega
  have t23:(x.hd.op == 23)=false:=by simp;omega
  have t24:(x.hd.op == 24)=true:=by simp;omega
  clear hop
  go_wp2_with fail
  clear d0 d1 d2 d3 d4 d5 hld
  refine HC.out.mono ?_
  clear HC
  generalize G (l.map KnM.a) f1=a at *
  obtain ⟨⟨ak,an,sa⟩,ae,f3⟩:=a
  rintro e w4 ⟨v3,rfl,he4,hs4⟩
  simp only at he4 hs4 HO
  have hq:=HO.out
  clear HO
  cases hq
  replace HS:=Lib.hid (HS.out.trans hs4)
  replace HBX:=Lib.hid (HBX.out.step hs4)
  replace HBR:=Lib.hid (HBR.out.step hs4)
  replace HE:=Lib.hid he4
  clear he4 hs4
  have hkr:=HBR.out.blk
  obtain ⟨z0,z1,z2⟩:=three_cells hkr
  have hfr:=fun i=>hkr.frozen i
  have hlk:=hkr.lt
  clear hkr
  go_wp2
  obtain ⟨hkE,hoE⟩:=set_threeE HBR.out.blk (.int .i64 ok) (.int .i64 on) (.string os)
  generalize ((w4.setCell ⟨w1.heap.size,0,none⟩ (.int .i64 ok)).setCell ⟨w1.heap.size,1,none⟩ (.int .i64 on)).setCell ⟨w1.heap.size,2,none⟩ (.string os)=wE at *
  obtain ⟨m0,m1,m2⟩:=three_cells hkE
  exact bodyPost_ret (v:=.tuple #[.agg #[.int .i64 ok,.int .i64 on,.string os],.int .i64 oe]) (by simp [results,Tryz.results26,go_sem,m0,m1,m2]) rfl ⟨_,rfl,EnvAt.wr H0.out HE.out HS.out hl12' HBR.out hoE,EnvS.wr HS.out hoE hl12'⟩
theorem eval_two (x:EX) (G:List KnA→Nat→Ans) (hop:6≤x.hd.op∧x.hd.op≤16) (hxe:∀ l f,evalX x l f=stepF (G l) f) (hfn:FnAt 52 x G):EvalAt x:=by
 intro w eb f v l p c hE hx hv hd
 have HFN:=Lib.hid hfn
 clear hfn
 obtain ⟨w1,hw1⟩:∃ w1,w.alloc (.cells #[.int .i64 x.hd.op,.int .i64 x.hd.n,.string x.hd.s,.string x.hd.name,.string x.hd.src,.slice p x.kids.length c] 27)=w1:=⟨_,rfl⟩
 have hb1:Below w.heap.size w w1:=hw1▸(Below.refl _ _).alloc (Nat.le_refl _) _
 have hk1:Blk w1 w.heap.size 27 [.int .i64 x.hd.op,.int .i64 x.hd.n,.string x.hd.s,.string x.hd.name,.string x.hd.src,.slice p x.kids.length c]:=hw1▸Blk.new w _ _
 obtain ⟨w2,hw2⟩:∃ w2,w1.alloc (.cells #[.int .i64 0,.int .i64 0,.string ⟨#[]⟩] 35)=w2:=⟨_,rfl⟩
 have hb2:Below w1.heap.size w1 w2:=hw2▸(Below.refl _ _).alloc (Nat.le_refl _) _
 have hk2:Blk w2 w1.heap.size 35 [.int .i64 0,.int .i64 0,.string ⟨#[]⟩]:=hw2▸Blk.new w1 _ _
 have hl12:w.heap.size < w1.heap.size:=hk1.lt
 have hl12':w.heap.size≤w1.heap.size:=Nat.le_of_lt hl12
 have hs2:EnvS w w2 eb v v:=EnvS.of_below (hb1.trans (hb2.mono hb1.size))
 have he2:=(hE.below hb1).below hb2
 have hbx:BoxAt w2 eb v w.heap.size 27 [.int .i64 x.hd.op,.int .i64 x.hd.n,.string x.hd.s,.string x.hd.name,.string x.hd.src,.slice p x.kids.length c]:=(BoxAt.fresh hE hk1 rfl).below hb2
 have hbr:BoxAt w2 eb v w1.heap.size 35 [.int .i64 0,.int .i64 0,.string ⟨#[]⟩]:=BoxAt.fresh (hE.below hb1) hk2 rfl
 have H0:=Lib.hid hE
 have HX:=Lib.hid hx
 have HV:=Lib.hid hv
 have HE:=Lib.hid he2
 have HS:=Lib.hid hs2
 have HBX:=Lib.hid hbx
 have HBR:=Lib.hid hbr
 obtain ⟨d0,d1,d2,d3,d4,d5⟩:=six_cells hbx.blk
 have hld:=hbx.blk.lt
 clear hb1 hk1 hb2 hk2 hs2 he2 hbx hbr hE hx hv
 obtain ⟨⟨⟨ok,on,os⟩,oe,ff⟩,hout⟩:∃ out,evalX x (l.map KnM.a) f=out:=⟨_,rfl⟩
 rw [hout]
 rw [hxe] at hout
 have HO:=Lib.hid hout
 clear hout hxe
 go_enter Tryz.func26,Tryz.ntmps26
 cases f with
 | zero =>
  have hq:=HO.out
  unfold stepF wrongA zeroA at hq
  clear HO
  cases hq
  have HS0:=Lib.hid (step_none w2 eb v l HE.out)
  go_wp2_with fail
  clear hw1 hw2 d0 d1 d2 d3 d4 d5 hld
  refine HS0.out.mono ?_
  clear HS0
  rintro e w7 ⟨rfl,hw7⟩
  subst hw7
  have HR:=Lib.hid (wrong_e w2 16)
  go_wp2_with fail
  refine HR.out.mono ?_
  clear HR
  rintro r w9 ⟨rfl,hb9⟩
  unfold zeroA
  replace HS:=Lib.hid (HS.out.trans (EnvS.of_below hb9))
  replace HBX:=Lib.hid (HBX.out.step (EnvS.of_below hb9))
  replace HBR:=Lib.hid (HBR.out.step (EnvS.of_below hb9))
  replace HE:=Lib.hid (HE.out.below hb9)
  clear hb9
  have hkr:=HBR.out.blk
  obtain ⟨z0,z1,z2⟩:=three_cells hkr
  have hfr:=fun i=>hkr.frozen i
  have hlk:=hkr.lt
  clear hkr
  go_wp2
  obtain ⟨hkE,hoE⟩:=set_threeE HBR.out.blk (.int .i64 0) (.int .i64 0) (.string ⟨#[]⟩)
  generalize ((w9.setCell ⟨w1.heap.size,0,none⟩ (.int .i64 0)).setCell ⟨w1.heap.size,1,none⟩ (.int .i64 0)).setCell ⟨w1.heap.size,2,none⟩ (.string ⟨#[]⟩)=wE at *
  obtain ⟨m0,m1,m2⟩:=three_cells hkE
  exact bodyPost_ret (v:=.tuple #[.agg #[.int .i64 0,.int .i64 0,.string ⟨#[]⟩],.int .i64 16]) (by simp [results,Tryz.results26,go_sem,m0,m1,m2]) rfl ⟨_,rfl,EnvAt.wr H0.out HE.out HS.out hl12' HBR.out hoE,EnvS.wr HS.out hoE hl12'⟩
 | succ f1 =>
 unfold stepF at HO
 have HS1:=Lib.hid (step_some w2 eb f1 v l HE.out)
 go_wp2_with fail
 clear hw1 hw2 d0 d1 d2 d3 d4 d5 hld
 refine HS1.out.mono ?_
 clear HS1
 rintro e w3 ⟨rfl,he3,hs3⟩
 replace HS:=Lib.hid (HS.out.trans hs3)
 replace HBX:=Lib.hid (HBX.out.step hs3)
 replace HBR:=Lib.hid (HBR.out.step hs3)
 replace HE:=Lib.hid he3
 clear he3 hs3
 obtain ⟨d0,d1,d2,d3,d4,d5⟩:=six_cells HBX.out.blk
 have hld:=HBX.out.blk.lt
 have HC:=Lib.hid (HFN.out w3 eb f1 v l p c HE.out (EX.next HS.out HX.out) HV.out hd)
 have t1:(x.hd.op == 1)=false:=by simp;omega
 have t2:(x.hd.op == 2)=false:=by simp;omega
 have t3:(x.hd.op == 3)=false:=by simp;omega
 have t4:(x.hd.op == 4)=false:=by simp;omega
 have t5:(x.hd.op == 5)=false:=by simp;omega
 have t19:(x.hd.op == 19)=false:=by simp;omega
 have t20:(x.hd.op == 20)=false:=by simp;omega
 have t17:(x.hd.op == 17)=false:=by simp;omega
 have t18:(x.hd.op == 18)=false:=by simp;omega
 have t21:(x.hd.op == 21)=false:=by simp;omega
 have t22:(x.hd.op == 22)=false:=by simp;omega
 have t23:(x.hd.op == 23)=false:=by simp;omega
 have t24:(x.hd.op == 24)=false:=by simp;omega
 clear hop
 go_wp2_with fail
 clear d0 d1 d2 d3 d4 d5 hld
 refine HC.out.mono ?_
 clear HC
 generalize G (l.map KnM.a) f1=a at *
 obtain ⟨⟨ak,an,sa⟩,ae,f3⟩:=a
 rintro e w4 ⟨v3,rfl,he4,hs4⟩
 simp only at he4 hs4 HO
 have hq:=HO.out
 clear HO
 cases hq
 replace HS:=Lib.hid (HS.out.trans hs4)
 replace HBX:=Lib.hid (HBX.out.step hs4)
 replace HBR:=Lib.hid (HBR.out.step hs4)
 replace HE:=Lib.hid he4
 clear he4 hs4
 have hkr:=HBR.out.blk
 obtain ⟨z0,z1,z2⟩:=three_cells hkr
 have hfr:=fun i=>hkr.frozen i
 have hlk:=hkr.lt
 clear hkr
 go_wp2
 obtain ⟨hkE,hoE⟩:=set_threeE HBR.out.blk (.int .i64 ok) (.int .i64 on) (.string os)
 generalize ((w4.setCell ⟨w1.heap.size,0,none⟩ (.int .i64 ok)).setCell ⟨w1.heap.size,1,none⟩ (.int .i64 on)).setCell ⟨w1.heap.size,2,none⟩ (.string os)=wE at *
 obtain ⟨m0,m1,m2⟩:=three_cells hkE
 exact bodyPost_ret (v:=.tuple #[.agg #[.int .i64 ok,.int .i64 on,.string os],.int .i64 oe]) (by simp [results,Tryz.results26,go_sem,m0,m1,m2]) rfl ⟨_,rfl,EnvAt.wr H0.out HE.out HS.out hl12' HBR.out hoE,EnvS.wr HS.out hoE hl12'⟩
def LfOut (x:EX):Prop:=∀ l f,evalX x l f=stepF (leafA x.hd l) f
theorem eval_int (x:EX) (hop:x.hd.op=1) (hxe:LfOut x):EvalAt x:=by
 intro w eb f v l p c hE hx hv hd
 unfold LfOut at hxe
 have HOP:=Lib.hid hop
 clear hop
 obtain ⟨w1,hw1⟩:∃ w1,w.alloc (.cells #[.int .i64 x.hd.op,.int .i64 x.hd.n,.string x.hd.s,.string x.hd.name,.string x.hd.src,.slice p x.kids.length c] 27)=w1:=⟨_,rfl⟩
 have hb1:Below w.heap.size w w1:=hw1▸(Below.refl _ _).alloc (Nat.le_refl _) _
 have hk1:Blk w1 w.heap.size 27 [.int .i64 x.hd.op,.int .i64 x.hd.n,.string x.hd.s,.string x.hd.name,.string x.hd.src,.slice p x.kids.length c]:=hw1▸Blk.new w _ _
 obtain ⟨w2,hw2⟩:∃ w2,w1.alloc (.cells #[.int .i64 0,.int .i64 0,.string ⟨#[]⟩] 35)=w2:=⟨_,rfl⟩
 have hb2:Below w1.heap.size w1 w2:=hw2▸(Below.refl _ _).alloc (Nat.le_refl _) _
 have hk2:Blk w2 w1.heap.size 35 [.int .i64 0,.int .i64 0,.string ⟨#[]⟩]:=hw2▸Blk.new w1 _ _
 have hl12:w.heap.size < w1.heap.size:=hk1.lt
 have hl12':w.heap.size≤w1.heap.size:=Nat.le_of_lt hl12
 have hs2:EnvS w w2 eb v v:=EnvS.of_below (hb1.trans (hb2.mono hb1.size))
 have he2:=(hE.below hb1).below hb2
 have hbx:BoxAt w2 eb v w.heap.size 27 [.int .i64 x.hd.op,.int .i64 x.hd.n,.string x.hd.s,.string x.hd.name,.string x.hd.src,.slice p x.kids.length c]:=(BoxAt.fresh hE hk1 rfl).below hb2
 have hbr:BoxAt w2 eb v w1.heap.size 35 [.int .i64 0,.int .i64 0,.string ⟨#[]⟩]:=BoxAt.fresh (hE.below hb1) hk2 rfl
 have H0:=Lib.hid hE
 have HX:=Lib.hid hx
 have HV:=Lib.hid hv
 have HE:=Lib.hid he2
 have HS:=Lib.hid hs2
 have HBX:=Lib.hid hbx
 have HBR:=Lib.hid hbr
 obtain ⟨d0,d1,d2,d3,d4,d5⟩:=six_cells hbx.blk
 have hld:=hbx.blk.lt
 clear hb1 hk1 hb2 hk2 hs2 he2 hbx hbr hE hx hv
 obtain ⟨⟨⟨ok,on,os⟩,oe,ff⟩,hout⟩:∃ out,evalX x (l.map KnM.a) f=out:=⟨_,rfl⟩
 rw [hout]
 rw [hxe] at hout
 have HO:=Lib.hid hout
 clear hout hxe
 go_enter Tryz.func26,Tryz.ntmps26
 cases f with
 | zero =>
  have hq:=HO.out
  unfold stepF wrongA zeroA at hq
  clear HO
  cases hq
  have HS0:=Lib.hid (step_none w2 eb v l HE.out)
  go_wp2_with fail
  clear hw1 hw2 d0 d1 d2 d3 d4 d5 hld
  refine HS0.out.mono ?_
  clear HS0
  rintro e w7 ⟨rfl,hw7⟩
  subst hw7
  have HR:=Lib.hid (wrong_e w2 16)
  go_wp2_with fail
  refine HR.out.mono ?_
  clear HR
  rintro r w9 ⟨rfl,hb9⟩
  unfold zeroA
  replace HS:=Lib.hid (HS.out.trans (EnvS.of_below hb9))
  replace HBX:=Lib.hid (HBX.out.step (EnvS.of_below hb9))
  replace HBR:=Lib.hid (HBR.out.step (EnvS.of_below hb9))
  replace HE:=Lib.hid (HE.out.below hb9)
  clear hb9
  have hkr:=HBR.out.blk
  obtain ⟨z0,z1,z2⟩:=three_cells hkr
  have hfr:=fun i=>hkr.frozen i
  have hlk:=hkr.lt
  clear hkr
  go_wp2
  obtain ⟨hkE,hoE⟩:=set_threeE HBR.out.blk (.int .i64 0) (.int .i64 0) (.string ⟨#[]⟩)
  generalize ((w9.setCell ⟨w1.heap.size,0,none⟩ (.int .i64 0)).setCell ⟨w1.heap.size,1,none⟩ (.int .i64 0)).setCell ⟨w1.heap.size,2,none⟩ (.string ⟨#[]⟩)=wE at *
  obtain ⟨m0,m1,m2⟩:=three_cells hkE
  exact bodyPost_ret (v:=.tuple #[.agg #[.int .i64 0,.int .i64 0,.string ⟨#[]⟩],.int .i64 16]) (by simp [results,Tryz.results26,go_sem,m0,m1,m2]) rfl ⟨_,rfl,EnvAt.wr H0.out HE.out HS.out hl12' HBR.out hoE,EnvS.wr HS.out hoE hl12'⟩
 | succ f1 =>
 unfold stepF at HO
 have HS1:=Lib.hid (step_some w2 eb f1 v l HE.out)
 go_wp2_with fail
 clear hw1 hw2 d0 d1 d2 d3 d4 d5 hld
 refine HS1.out.mono ?_
 clear HS1
 rintro e w3 ⟨rfl,he3,hs3⟩
 replace HS:=Lib.hid (HS.out.trans hs3)
 replace HBX:=Lib.hid (HBX.out.step hs3)
 replace HBR:=Lib.hid (HBR.out.step hs3)
 replace HE:=Lib.hid he3
 clear he3 hs3
 obtain ⟨d0,d1,d2,d3,d4,d5⟩:=six_cells HBX.out.blk
 have hld:=HBX.out.blk.lt
 have hop:=HOP.out
 unfold leafA intA at HO
 have t1:(x.hd.op == 1)=true:=by simp;omega
 rw [if_pos hop] at HO
 have HC:=Lib.hid (int_e w3 x.hd.n)
 clear hop
 go_wp2_with fail
 clear d0 d1 d2 d3 d4 d5 hld
 refine HC.out.mono ?_
 clear HC
 rintro e w4 ⟨rfl,hb4⟩
 replace HS:=Lib.hid (HS.out.trans (EnvS.of_below hb4))
 replace HBX:=Lib.hid (HBX.out.step (EnvS.of_below hb4))
 replace HBR:=Lib.hid (HBR.out.step (EnvS.of_below hb4))
 replace HE:=Lib.hid (HE.out.below hb4)
 clear hb4
 have hq:=HO.out
 clear HO
 cases hq
 have hkr:=HBR.out.blk
 obtain ⟨z0,z1,z2⟩:=three_cells hkr
 have hfr:=fun i=>hkr.frozen i
 have hlk:=hkr.lt
 clear hkr
 go_wp2
 obtain ⟨hkE,hoE⟩:=set_threeE HBR.out.blk (.int .i64 1) (.int .i64 x.hd.n) (.string ⟨#[]⟩)
 generalize ((w4.setCell ⟨w1.heap.size,0,none⟩ (.int .i64 1)).setCell ⟨w1.heap.size,1,none⟩ (.int .i64 x.hd.n)).setCell ⟨w1.heap.size,2,none⟩ (.string ⟨#[]⟩)=wE at *
 obtain ⟨m0,m1,m2⟩:=three_cells hkE
 exact bodyPost_ret (v:=.tuple #[.agg #[.int .i64 1,.int .i64 x.hd.n,.string ⟨#[]⟩],.int .i64 0]) (by simp [results,Tryz.results26,go_sem,m0,m1,m2]) rfl ⟨_,rfl,EnvAt.wr H0.out HE.out HS.out hl12' HBR.out hoE,EnvS.wr HS.out hoE hl12'⟩
theorem eval_text (x:EX) (hop:x.hd.op=2) (hxe:LfOut x):EvalAt x:=by
 intro w eb f v l p c hE hx hv hd
 unfold LfOut at hxe
 have HOP:=Lib.hid hop
 clear hop
 obtain ⟨w1,hw1⟩:∃ w1,w.alloc (.cells #[.int .i64 x.hd.op,.int .i64 x.hd.n,.string x.hd.s,.string x.hd.name,.string x.hd.src,.slice p x.kids.length c] 27)=w1:=⟨_,rfl⟩
 have hb1:Below w.heap.size w w1:=hw1▸(Below.refl _ _).alloc (Nat.le_refl _) _
 have hk1:Blk w1 w.heap.size 27 [.int .i64 x.hd.op,.int .i64 x.hd.n,.string x.hd.s,.string x.hd.name,.string x.hd.src,.slice p x.kids.length c]:=hw1▸Blk.new w _ _
 obtain ⟨w2,hw2⟩:∃ w2,w1.alloc (.cells #[.int .i64 0,.int .i64 0,.string ⟨#[]⟩] 35)=w2:=⟨_,rfl⟩
 have hb2:Below w1.heap.size w1 w2:=hw2▸(Below.refl _ _).alloc (Nat.le_refl _) _
 have hk2:Blk w2 w1.heap.size 35 [.int .i64 0,.int .i64 0,.string ⟨#[]⟩]:=hw2▸Blk.new w1 _ _
 have hl12:w.heap.size < w1.heap.size:=hk1.lt
 have hl12':w.heap.size≤w1.heap.size:=Nat.le_of_lt hl12
 have hs2:EnvS w w2 eb v v:=EnvS.of_below (hb1.trans (hb2.mono hb1.size))
 have he2:=(hE.below hb1).below hb2
 have hbx:BoxAt w2 eb v w.heap.size 27 [.int .i64 x.hd.op,.int .i64 x.hd.n,.string x.hd.s,.string x.hd.name,.string x.hd.src,.slice p x.kids.length c]:=(BoxAt.fresh hE hk1 rfl).below hb2
 have hbr:BoxAt w2 eb v w1.heap.size 35 [.int .i64 0,.int .i64 0,.string ⟨#[]⟩]:=BoxAt.fresh (hE.below hb1) hk2 rfl
 have H0:=Lib.hid hE
 have HX:=Lib.hid hx
 have HV:=Lib.hid hv
 have HE:=Lib.hid he2
 have HS:=Lib.hid hs2
 have HBX:=Lib.hid hbx
 have HBR:=Lib.hid hbr
 obtain ⟨d0,d1,d2,d3,d4,d5⟩:=six_cells hbx.blk
 have hld:=hbx.blk.lt
 clear hb1 hk1 hb2 hk2 hs2 he2 hbx hbr hE hx hv
 obtain ⟨⟨⟨ok,on,os⟩,oe,ff⟩,hout⟩:∃ out,evalX x (l.map KnM.a) f=out:=⟨_,rfl⟩
 rw [hout]
 rw [hxe] at hout
 have HO:=Lib.hid hout
 clear hout hxe
 go_enter Tryz.func26,Tryz.ntmps26
 cases f with
 | zero =>
  have hq:=HO.out
  unfold stepF wrongA zeroA at hq
  clear HO
  cases hq
  have HS0:=Lib.hid (step_none w2 eb v l HE.out)
  go_wp2_with fail
  clear hw1 hw2 d0 d1 d2 d3 d4 d5 hld
  refine HS0.out.mono ?_
  clear HS0
  rintro e w7 ⟨rfl,hw7⟩
  subst hw7
  have HR:=Lib.hid (wrong_e w2 16)
  go_wp2_with fail
  refine HR.out.mono ?_
  clear HR
  rintro r w9 ⟨rfl,hb9⟩
  unfold zeroA
  replace HS:=Lib.hid (HS.out.trans (EnvS.of_below hb9))
  replace HBX:=Lib.hid (HBX.out.step (EnvS.of_below hb9))
  replace HBR:=Lib.hid (HBR.out.step (EnvS.of_below hb9))
  replace HE:=Lib.hid (HE.out.below hb9)
  clear hb9
  have hkr:=HBR.out.blk
  obtain ⟨z0,z1,z2⟩:=three_cells hkr
  have hfr:=fun i=>hkr.frozen i
  have hlk:=hkr.lt
  clear hkr
  go_wp2
  obtain ⟨hkE,hoE⟩:=set_threeE HBR.out.blk (.int .i64 0) (.int .i64 0) (.string ⟨#[]⟩)
  generalize ((w9.setCell ⟨w1.heap.size,0,none⟩ (.int .i64 0)).setCell ⟨w1.heap.size,1,none⟩ (.int .i64 0)).setCell ⟨w1.heap.size,2,none⟩ (.string ⟨#[]⟩)=wE at *
  obtain ⟨m0,m1,m2⟩:=three_cells hkE
  exact bodyPost_ret (v:=.tuple #[.agg #[.int .i64 0,.int .i64 0,.string ⟨#[]⟩],.int .i64 16]) (by simp [results,Tryz.results26,go_sem,m0,m1,m2]) rfl ⟨_,rfl,EnvAt.wr H0.out HE.out HS.out hl12' HBR.out hoE,EnvS.wr HS.out hoE hl12'⟩
 | succ f1 =>
 unfold stepF at HO
 have HS1:=Lib.hid (step_some w2 eb f1 v l HE.out)
 go_wp2_with fail
 clear hw1 hw2 d0 d1 d2 d3 d4 d5 hld
 refine HS1.out.mono ?_
 clear HS1
 rintro e w3 ⟨rfl,he3,hs3⟩
 replace HS:=Lib.hid (HS.out.trans hs3)
 replace HBX:=Lib.hid (HBX.out.step hs3)
 replace HBR:=Lib.hid (HBR.out.step hs3)
 replace HE:=Lib.hid he3
 clear he3 hs3
 obtain ⟨d0,d1,d2,d3,d4,d5⟩:=six_cells HBX.out.blk
 have hld:=HBX.out.blk.lt
 have hop:=HOP.out
 unfold leafA at HO
 have t1:(x.hd.op == 1)=false:=by simp;omega
 have t2:(x.hd.op == 2)=true:=by simp;omega
 rw [if_neg (by omega),if_pos hop] at HO
 have HC:=Lib.hid (text_e w3 x.hd.s)
 clear hop
 go_wp2_with fail
 clear d0 d1 d2 d3 d4 d5 hld
 refine HC.out.mono ?_
 clear HC
 rintro e w4 ⟨rfl,hb4⟩
 replace HS:=Lib.hid (HS.out.trans (EnvS.of_below hb4))
 replace HBX:=Lib.hid (HBX.out.step (EnvS.of_below hb4))
 replace HBR:=Lib.hid (HBR.out.step (EnvS.of_below hb4))
 replace HE:=Lib.hid (HE.out.below hb4)
 clear hb4
 have hq:=HO.out
 clear HO
 cases hq
 have hkr:=HBR.out.blk
 obtain ⟨z0,z1,z2⟩:=three_cells hkr
 have hfr:=fun i=>hkr.frozen i
 have hlk:=hkr.lt
 clear hkr
 go_wp2
 obtain ⟨hkE,hoE⟩:=set_threeE HBR.out.blk (.int .i64 2) (.int .i64 0) (.string x.hd.s)
 generalize ((w4.setCell ⟨w1.heap.size,0,none⟩ (.int .i64 2)).setCell ⟨w1.heap.size,1,none⟩ (.int .i64 0)).setCell ⟨w1.heap.size,2,none⟩ (.string x.hd.s)=wE at *
 obtain ⟨m0,m1,m2⟩:=three_cells hkE
 exact bodyPost_ret (v:=.tuple #[.agg #[.int .i64 2,.int .i64 0,.string x.hd.s],.int .i64 0]) (by simp [results,Tryz.results26,go_sem,m0,m1,m2]) rfl ⟨_,rfl,EnvAt.wr H0.out HE.out HS.out hl12' HBR.out hoE,EnvS.wr HS.out hoE hl12'⟩
theorem eval_bool (x:EX) (hop:x.hd.op=3) (hxe:LfOut x):EvalAt x:=by
 intro w eb f v l p c hE hx hv hd
 unfold LfOut at hxe
 have HOP:=Lib.hid hop
 clear hop
 obtain ⟨w1,hw1⟩:∃ w1,w.alloc (.cells #[.int .i64 x.hd.op,.int .i64 x.hd.n,.string x.hd.s,.string x.hd.name,.string x.hd.src,.slice p x.kids.length c] 27)=w1:=⟨_,rfl⟩
 have hb1:Below w.heap.size w w1:=hw1▸(Below.refl _ _).alloc (Nat.le_refl _) _
 have hk1:Blk w1 w.heap.size 27 [.int .i64 x.hd.op,.int .i64 x.hd.n,.string x.hd.s,.string x.hd.name,.string x.hd.src,.slice p x.kids.length c]:=hw1▸Blk.new w _ _
 obtain ⟨w2,hw2⟩:∃ w2,w1.alloc (.cells #[.int .i64 0,.int .i64 0,.string ⟨#[]⟩] 35)=w2:=⟨_,rfl⟩
 have hb2:Below w1.heap.size w1 w2:=hw2▸(Below.refl _ _).alloc (Nat.le_refl _) _
 have hk2:Blk w2 w1.heap.size 35 [.int .i64 0,.int .i64 0,.string ⟨#[]⟩]:=hw2▸Blk.new w1 _ _
 have hl12:w.heap.size < w1.heap.size:=hk1.lt
 have hl12':w.heap.size≤w1.heap.size:=Nat.le_of_lt hl12
 have hs2:EnvS w w2 eb v v:=EnvS.of_below (hb1.trans (hb2.mono hb1.size))
 have he2:=(hE.below hb1).below hb2
 have hbx:BoxAt w2 eb v w.heap.size 27 [.int .i64 x.hd.op,.int .i64 x.hd.n,.string x.hd.s,.string x.hd.name,.string x.hd.src,.slice p x.kids.length c]:=(BoxAt.fresh hE hk1 rfl).below hb2
 have hbr:BoxAt w2 eb v w1.heap.size 35 [.int .i64 0,.int .i64 0,.string ⟨#[]⟩]:=BoxAt.fresh (hE.below hb1) hk2 rfl
 have H0:=Lib.hid hE
 have HX:=Lib.hid hx
 have HV:=Lib.hid hv
 have HE:=Lib.hid he2
 have HS:=Lib.hid hs2
 have HBX:=Lib.hid hbx
 have HBR:=Lib.hid hbr
 obtain ⟨d0,d1,d2,d3,d4,d5⟩:=six_cells hbx.blk
 have hld:=hbx.blk.lt
 clear hb1 hk1 hb2 hk2 hs2 he2 hbx hbr hE hx hv
 obtain ⟨⟨⟨ok,on,os⟩,oe,ff⟩,hout⟩:∃ out,evalX x (l.map KnM.a) f=out:=⟨_,rfl⟩
 rw [hout]
 rw [hxe] at hout
 have HO:=Lib.hid hout
 clear hout hxe
 go_enter Tryz.func26,Tryz.ntmps26
 cases f with
 | zero =>
  have hq:=HO.out
  unfold stepF wrongA zeroA at hq
  clear HO
  cases hq
  have HS0:=Lib.hid (step_none w2 eb v l HE.out)
  go_wp2_with fail
  clear hw1 hw2 d0 d1 d2 d3 d4 d5 hld
  refine HS0.out.mono ?_
  clear HS0
  rintro e w7 ⟨rfl,hw7⟩
  subst hw7
  have HR:=Lib.hid (wrong_e w2 16)
  go_wp2_with fail
  refine HR.out.mono ?_
  clear HR
  rintro r w9 ⟨rfl,hb9⟩
  unfold zeroA
  replace HS:=Lib.hid (HS.out.trans (EnvS.of_below hb9))
  replace HBX:=Lib.hid (HBX.out.step (EnvS.of_below hb9))
  replace HBR:=Lib.hid (HBR.out.step (EnvS.of_below hb9))
  replace HE:=Lib.hid (HE.out.below hb9)
  clear hb9
  have hkr:=HBR.out.blk
  obtain ⟨z0,z1,z2⟩:=three_cells hkr
  have hfr:=fun i=>hkr.frozen i
  have hlk:=hkr.lt
  clear hkr
  go_wp2
  obtain ⟨hkE,hoE⟩:=set_threeE HBR.out.blk (.int .i64 0) (.int .i64 0) (.string ⟨#[]⟩)
  generalize ((w9.setCell ⟨w1.heap.size,0,none⟩ (.int .i64 0)).setCell ⟨w1.heap.size,1,none⟩ (.int .i64 0)).setCell ⟨w1.heap.size,2,none⟩ (.string ⟨#[]⟩)=wE at *
  obtain ⟨m0,m1,m2⟩:=three_cells hkE
  exact bodyPost_ret (v:=.tuple #[.agg #[.int .i64 0,.int .i64 0,.string ⟨#[]⟩],.int .i64 16]) (by simp [results,Tryz.results26,go_sem,m0,m1,m2]) rfl ⟨_,rfl,EnvAt.wr H0.out HE.out HS.out hl12' HBR.out hoE,EnvS.wr HS.out hoE hl12'⟩
 | succ f1 =>
 unfold stepF at HO
 have HS1:=Lib.hid (step_some w2 eb f1 v l HE.out)
 go_wp2_with fail
 clear hw1 hw2 d0 d1 d2 d3 d4 d5 hld
 refine HS1.out.mono ?_
 clear HS1
 rintro e w3 ⟨rfl,he3,hs3⟩
 replace HS:=Lib.hid (HS.out.trans hs3)
 replace HBX:=Lib.hid (HBX.out.step hs3)
 replace HBR:=Lib.hid (HBR.out.step hs3)
 replace HE:=Lib.hid he3
 clear he3 hs3
 obtain ⟨d0,d1,d2,d3,d4,d5⟩:=six_cells HBX.out.blk
 have hld:=HBX.out.blk.lt
 have hop:=HOP.out
 unfold leafA boolA at HO
 have t1:(x.hd.op == 1)=false:=by simp;omega
 have t2:(x.hd.op == 2)=false:=by simp;omega
 have t3:(x.hd.op == 3)=true:=by simp;omega
 rw [if_neg (by omega),if_neg (by omega),if_pos hop] at HO
 clear hop
 by_cases hn:x.hd.n=1
 ·have n1:(x.hd.n == 1)=true:=by simp [hn]
  rw [decide_eq_true hn,if_pos rfl] at HO
  have HC:=Lib.hid (bool_e w3 true)
  clear hn
  go_wp2_with fail
  clear d0 d1 d2 d3 d4 d5 hld
  refine HC.out.mono ?_
  clear HC
  rintro e w4 ⟨rfl,hb4⟩
  replace HS:=Lib.hid (HS.out.trans (EnvS.of_below hb4))
  replace HBX:=Lib.hid (HBX.out.step (EnvS.of_below hb4))
  replace HBR:=Lib.hid (HBR.out.step (EnvS.of_below hb4))
  replace HE:=Lib.hid (HE.out.below hb4)
  clear hb4
  have hq:=HO.out
  clear HO
  cases hq
  have hkr:=HBR.out.blk
  obtain ⟨z0,z1,z2⟩:=three_cells hkr
  have hfr:=fun i=>hkr.frozen i
  have hlk:=hkr.lt
  clear hkr
  go_wp2
  obtain ⟨hkE,hoE⟩:=set_threeE HBR.out.blk (.int .i64 3) (.int .i64 1) (.string ⟨#[]⟩)
  generalize ((w4.setCell ⟨w1.heap.size,0,none⟩ (.int .i64 3)).setCell ⟨w1.heap.size,1,none⟩ (.int .i64 1)).setCell ⟨w1.heap.size,2,none⟩ (.string ⟨#[]⟩)=wE at *
  obtain ⟨m0,m1,m2⟩:=three_cells hkE
  exact bodyPost_ret (v:=.tuple #[.agg #[.int .i64 3,.int .i64 1,.string ⟨#[]⟩],.int .i64 0]) (by simp [results,Tryz.results26,go_sem,m0,m1,m2]) rfl ⟨_,rfl,EnvAt.wr H0.out HE.out HS.out hl12' HBR.out hoE,EnvS.wr HS.out hoE hl12'⟩
 ·have n1:(x.hd.n == 1)=false:=by simp [hn]
  rw [decide_eq_false hn,if_neg (by decide)] at HO
  have HC:=Lib.hid (bool_e w3 false)
  clear hn
  go_wp2_with fail
  clear d0 d1 d2 d3 d4 d5 hld
  refine HC.out.mono ?_
  clear HC
  rintro e w4 ⟨rfl,hb4⟩
  replace HS:=Lib.hid (HS.out.trans (EnvS.of_below hb4))
  replace HBX:=Lib.hid (HBX.out.step (EnvS.of_below hb4))
  replace HBR:=Lib.hid (HBR.out.step (EnvS.of_below hb4))
  replace HE:=Lib.hid (HE.out.below hb4)
  clear hb4
  have hq:=HO.out
  clear HO
  cases hq
  have hkr:=HBR.out.blk
  obtain ⟨z0,z1,z2⟩:=three_cells hkr
  have hfr:=fun i=>hkr.frozen i
  have hlk:=hkr.lt
  clear hkr
  go_wp2
  obtain ⟨hkE,hoE⟩:=set_threeE HBR.out.blk (.int .i64 3) (.int .i64 0) (.string ⟨#[]⟩)
  generalize ((w4.setCell ⟨w1.heap.size,0,none⟩ (.int .i64 3)).setCell ⟨w1.heap.size,1,none⟩ (.int .i64 0)).setCell ⟨w1.heap.size,2,none⟩ (.string ⟨#[]⟩)=wE at *
  obtain ⟨m0,m1,m2⟩:=three_cells hkE
  exact bodyPost_ret (v:=.tuple #[.agg #[.int .i64 3,.int .i64 0,.string ⟨#[]⟩],.int .i64 0]) (by simp [results,Tryz.results26,go_sem,m0,m1,m2]) rfl ⟨_,rfl,EnvAt.wr H0.out HE.out HS.out hl12' HBR.out hoE,EnvS.wr HS.out hoE hl12'⟩
def kn0:KnM:=⟨⟨#[]⟩,zeroA,.slice none 0 0,[],.slice none 0 0,[],0⟩
theorem sl_zeroE (w:World) (B:Nat→Prop) (sz:Nat):Sl w B sz (.slice none 0 0) 0 []:=(Own.nil w 0 sz).sl (by simp [Value.ownBlock])
theorem kn0_at (w:World) (B:Nat→Prop):KnAt w B kn0 :=
 ⟨sl_zeroE w B 2,⟨sl_zeroE w B 1,fun r hr=>by cases hr⟩,zero_ok,(fun r hr=>by cases hr),(fun c hc=>by cases hc),(fun h=>absurd h (by decide)),Nat.zero_le _,Nat.zero_le _⟩
theorem colA_zero (nm:ByteArray):colA kn0.a nm 0=(zeroA,13,0):=by
 unfold colA
 rw [if_neg (fun h=>absurd h.1 (by decide))]
 rfl
theorem eval_var (x:EX) (hop:x.hd.op=4) (hxe:LfOut x):EvalAt x:=by
 intro w eb f v l p c hE hx hv hd
 unfold LfOut at hxe
 have HOP:=Lib.hid hop
 clear hop
 obtain ⟨w1,hw1⟩:∃ w1,w.alloc (.cells #[.int .i64 x.hd.op,.int .i64 x.hd.n,.string x.hd.s,.string x.hd.name,.string x.hd.src,.slice p x.kids.length c] 27)=w1:=⟨_,rfl⟩
 have hb1:Below w.heap.size w w1:=hw1▸(Below.refl _ _).alloc (Nat.le_refl _) _
 have hk1:Blk w1 w.heap.size 27 [.int .i64 x.hd.op,.int .i64 x.hd.n,.string x.hd.s,.string x.hd.name,.string x.hd.src,.slice p x.kids.length c]:=hw1▸Blk.new w _ _
 obtain ⟨w2,hw2⟩:∃ w2,w1.alloc (.cells #[.int .i64 0,.int .i64 0,.string ⟨#[]⟩] 35)=w2:=⟨_,rfl⟩
 have hb2:Below w1.heap.size w1 w2:=hw2▸(Below.refl _ _).alloc (Nat.le_refl _) _
 have hk2:Blk w2 w1.heap.size 35 [.int .i64 0,.int .i64 0,.string ⟨#[]⟩]:=hw2▸Blk.new w1 _ _
 have hl12:w.heap.size < w1.heap.size:=hk1.lt
 have hl12':w.heap.size≤w1.heap.size:=Nat.le_of_lt hl12
 have hs2:EnvS w w2 eb v v:=EnvS.of_below (hb1.trans (hb2.mono hb1.size))
 have he2:=(hE.below hb1).below hb2
 have hbx:BoxAt w2 eb v w.heap.size 27 [.int .i64 x.hd.op,.int .i64 x.hd.n,.string x.hd.s,.string x.hd.name,.string x.hd.src,.slice p x.kids.length c]:=(BoxAt.fresh hE hk1 rfl).below hb2
 have hbr:BoxAt w2 eb v w1.heap.size 35 [.int .i64 0,.int .i64 0,.string ⟨#[]⟩]:=BoxAt.fresh (hE.below hb1) hk2 rfl
 have H0:=Lib.hid hE
 have HX:=Lib.hid hx
 have HV:=Lib.hid hv
 have HE:=Lib.hid he2
 have HS:=Lib.hid hs2
 have HBX:=Lib.hid hbx
 have HBR:=Lib.hid hbr
 obtain ⟨d0,d1,d2,d3,d4,d5⟩:=six_cells hbx.blk
 have hld:=hbx.blk.lt
 clear hb1 hk1 hb2 hk2 hs2 he2 hbx hbr hE hx hv
 obtain ⟨⟨⟨ok,on,os⟩,oe,ff⟩,hout⟩:∃ out,evalX x (l.map KnM.a) f=out:=⟨_,rfl⟩
 rw [hout]
 rw [hxe] at hout
 have HO:=Lib.hid hout
 clear hout hxe
 go_enter Tryz.func26,Tryz.ntmps26
 cases f with
 | zero =>
  have hq:=HO.out
  unfold stepF wrongA zeroA at hq
  clear HO
  cases hq
  have HS0:=Lib.hid (step_none w2 eb v l HE.out)
  go_wp2_with fail
  clear hw1 hw2 d0 d1 d2 d3 d4 d5 hld
  refine HS0.out.mono ?_
  clear HS0
  rintro e w7 ⟨rfl,hw7⟩
  subst hw7
  have HR:=Lib.hid (wrong_e w2 16)
  go_wp2_with fail
  refine HR.out.mono ?_
  clear HR
  rintro r w9 ⟨rfl,hb9⟩
  unfold zeroA
  replace HS:=Lib.hid (HS.out.trans (EnvS.of_below hb9))
  replace HBX:=Lib.hid (HBX.out.step (EnvS.of_below hb9))
  replace HBR:=Lib.hid (HBR.out.step (EnvS.of_below hb9))
  replace HE:=Lib.hid (HE.out.below hb9)
  clear hb9
  have hkr:=HBR.out.blk
  obtain ⟨z0,z1,z2⟩:=three_cells hkr
  have hfr:=fun i=>hkr.frozen i
  have hlk:=hkr.lt
  clear hkr
  go_wp2
  obtain ⟨hkE,hoE⟩:=set_threeE HBR.out.blk (.int .i64 0) (.int .i64 0) (.string ⟨#[]⟩)
  generalize ((w9.setCell ⟨w1.heap.size,0,none⟩ (.int .i64 0)).setCell ⟨w1.heap.size,1,none⟩ (.int .i64 0)).setCell ⟨w1.heap.size,2,none⟩ (.string ⟨#[]⟩)=wE at *
  obtain ⟨m0,m1,m2⟩:=three_cells hkE
  exact bodyPost_ret (v:=.tuple #[.agg #[.int .i64 0,.int .i64 0,.string ⟨#[]⟩],.int .i64 16]) (by simp [results,Tryz.results26,go_sem,m0,m1,m2]) rfl ⟨_,rfl,EnvAt.wr H0.out HE.out HS.out hl12' HBR.out hoE,EnvS.wr HS.out hoE hl12'⟩
 | succ f1 =>
 unfold stepF at HO
 have HS1:=Lib.hid (step_some w2 eb f1 v l HE.out)
 go_wp2_with fail
 clear hw1 hw2 d0 d1 d2 d3 d4 d5 hld
 refine HS1.out.mono ?_
 clear HS1
 rintro e w3 ⟨rfl,he3,hs3⟩
 replace HS:=Lib.hid (HS.out.trans hs3)
 replace HBX:=Lib.hid (HBX.out.step hs3)
 replace HBR:=Lib.hid (HBR.out.step hs3)
 replace HE:=Lib.hid he3
 clear he3 hs3
 obtain ⟨d0,d1,d2,d3,d4,d5⟩:=six_cells HBX.out.blk
 have hld:=HBX.out.blk.lt
 have hop:=HOP.out
 unfold leafA at HO
 have t1:(x.hd.op == 1)=false:=by simp;omega
 have t2:(x.hd.op == 2)=false:=by simp;omega
 have t3:(x.hd.op == 3)=false:=by simp;omega
 have t4:(x.hd.op == 4)=true:=by simp;omega
 rw [if_neg (by omega),if_neg (by omega),if_neg (by omega)] at HO
 simp only [if_pos hop] at HO
 have hf:=find_any (w3.alloc (.cells #[.int .i64 0,.int .i64 1] 3)) eb f1 v l (HE.out.below ((Below.refl _ _).alloc (Nat.le_refl _) _)) x.hd.name _ _ _ [0,1] _ (two_kinds w3)
 rw [kinds_both] at hf
 have HF:=Lib.hid hf
 have hbf:Below w3.heap.size w3 (w3.alloc (.cells #[.int .i64 0,.int .i64 1] 3)):=(Below.refl _ _).alloc (Nat.le_refl _) _
 have HBF:=Lib.hid hbf
 rw [findM_a] at HO
 clear hf hbf hop
 go_wp2_with fail
 clear d0 d1 d2 d3 d4 d5 hld
 refine HF.out.mono ?_
 clear HF
 rintro e w4 ⟨hb4,hfo⟩
 have hb34:=HBF.out.trans (hb4.mono HBF.out.size)
 replace HS:=Lib.hid (HS.out.trans (EnvS.of_below hb34))
 replace HBX:=Lib.hid (HBX.out.step (EnvS.of_below hb34))
 replace HBR:=Lib.hid (HBR.out.step (EnvS.of_below hb34))
 replace HE:=Lib.hid (HE.out.below hb34)
 clear hb34
 clear hb4 HBF
 rcases hfo with ⟨k,pc,nc,cc,pr,nr,cr,hfk,hcv,hrv,rfl⟩|⟨hfk,rfl⟩
 ·skip
  rw [hfk] at HO
  simp only [Option.map_some] at HO
  have hkm:=findM_mem hfk
  have hkn:=HE.out.kn k hkm.1
  obtain ⟨w5,hw5⟩:∃ w5,w4.alloc (.cells #[.string k.name,.int .i64 k.val.kind,.int .i64 k.val.n,.string k.val.s,.slice pc nc cc,.slice pr nr cr,.int .i64 k.is] 79)=w5:=⟨_,rfl⟩
  have hb5:Below w4.heap.size w4 w5:=hw5▸(Below.refl _ _).alloc (Nat.le_refl _) _
  have hk5:Blk w5 w4.heap.size 79 [.string k.name,.int .i64 k.val.kind,.int .i64 k.val.n,.string k.val.s,.slice pc nc cc,.slice pr nr cr,.int .i64 k.is]:=hw5▸Blk.new w4 _ _
  have HKN:=Lib.hid (hkn.next (EnvS.of_below hb5))
  have HCV:=Lib.hid hcv
  have HRV:=Lib.hid hrv
  replace HS:=Lib.hid (HS.out.trans (EnvS.of_below hb5))
  replace HBX:=Lib.hid (HBX.out.step (EnvS.of_below hb5))
  replace HBR:=Lib.hid (HBR.out.step (EnvS.of_below hb5))
  replace HE:=Lib.hid (HE.out.below hb5)
  clear hb5
  obtain ⟨y0,y1,y2,y3,y4,y5,y6⟩:=seven_cells hk5
  have hly:=hk5.lt
  have HW5:=Lib.hid hw5
  clear hw5 hk5 hkm hkn hcv hrv hfk
  go_upto_region 12 with fail
  rw [HW5.out]
  by_cases hk0:k.is=0
  ·have t1:(k.is != 0)=false:=by simp [hk0]
   have hq:=HO.out
   rw [if_pos (show k.a.is=0 from hk0)] at hq
   clear hk0 HO
   have hq':(k.val,(0:Int),f1)=((⟨ok,on,os⟩:AV),oe,ff):=hq
   clear hq
   generalize k.val=kv at *
   obtain ⟨kk,kn,ks⟩:=kv
   cases hq'
   have hkr:=HBR.out.blk
   obtain ⟨z0,z1,z2⟩:=three_cells hkr
   have hfr:=fun i=>hkr.frozen i
   have hlk:=hkr.lt
   clear hkr
   go_wp2
   obtain ⟨hkE,hoE⟩:=set_threeE HBR.out.blk (.int .i64 ok) (.int .i64 on) (.string os)
   generalize ((w5.setCell ⟨w1.heap.size,0,none⟩ (.int .i64 ok)).setCell ⟨w1.heap.size,1,none⟩ (.int .i64 on)).setCell ⟨w1.heap.size,2,none⟩ (.string os)=wE at *
   obtain ⟨m0,m1,m2⟩:=three_cells hkE
   exact bodyPost_ret (v:=.tuple #[.agg #[.int .i64 ok,.int .i64 on,.string os],.int .i64 0]) (by simp [results,Tryz.results26,go_sem,m0,m1,m2]) rfl ⟨_,rfl,EnvAt.wr H0.out HE.out HS.out hl12' HBR.out hoE,EnvS.wr HS.out hoE hl12'⟩
  ·have t1:(k.is != 0)=true:=by simp [hk0]
   have hq:=HO.out
   rw [if_neg (show ¬ k.a.is=0 from hk0)] at hq
   unfold wrongA zeroA at hq
   clear hk0 HO
   cases hq
   have HR:=Lib.hid (wrong_e w5 13)
   go_wp2_with fail
   refine HR.out.mono ?_
   clear HR
   rintro r w9 ⟨rfl,hb9⟩
   unfold zeroA
   replace HS:=Lib.hid (HS.out.trans (EnvS.of_below hb9))
   replace HBX:=Lib.hid (HBX.out.step (EnvS.of_below hb9))
   replace HBR:=Lib.hid (HBR.out.step (EnvS.of_below hb9))
   replace HE:=Lib.hid (HE.out.below hb9)
   clear hb9
   have hkr:=HBR.out.blk
   obtain ⟨z0,z1,z2⟩:=three_cells hkr
   have hfr:=fun i=>hkr.frozen i
   have hlk:=hkr.lt
   clear hkr
   go_wp2
   obtain ⟨hkE,hoE⟩:=set_threeE HBR.out.blk (.int .i64 0) (.int .i64 0) (.string ⟨#[]⟩)
   generalize ((w9.setCell ⟨w1.heap.size,0,none⟩ (.int .i64 0)).setCell ⟨w1.heap.size,1,none⟩ (.int .i64 0)).setCell ⟨w1.heap.size,2,none⟩ (.string ⟨#[]⟩)=wE at *
   obtain ⟨m0,m1,m2⟩:=three_cells hkE
   exact bodyPost_ret (v:=.tuple #[.agg #[.int .i64 0,.int .i64 0,.string ⟨#[]⟩],.int .i64 13]) (by simp [results,Tryz.results26,go_sem,m0,m1,m2]) rfl ⟨_,rfl,EnvAt.wr H0.out HE.out HS.out hl12' HBR.out hoE,EnvS.wr HS.out hoE hl12'⟩
 ·skip
  rw [hfk] at HO
  simp only [Option.map_none] at HO
  have hq:=HO.out
  unfold wrongA zeroA at hq
  clear hfk HO
  cases hq
  obtain ⟨w5,hw5⟩:∃ w5,w4.alloc (.cells #[.string ⟨#[]⟩,.int .i64 0,.int .i64 0,.string ⟨#[]⟩,.slice none 0 0,.slice none 0 0,.int .i64 0] 79)=w5:=⟨_,rfl⟩
  have hb5:Below w4.heap.size w4 w5:=hw5▸(Below.refl _ _).alloc (Nat.le_refl _) _
  have hk5:Blk w5 w4.heap.size 79 [.string ⟨#[]⟩,.int .i64 0,.int .i64 0,.string ⟨#[]⟩,.slice none 0 0,.slice none 0 0,.int .i64 0]:=hw5▸Blk.new w4 _ _
  replace HS:=Lib.hid (HS.out.trans (EnvS.of_below hb5))
  replace HBX:=Lib.hid (HBX.out.step (EnvS.of_below hb5))
  replace HBR:=Lib.hid (HBR.out.step (EnvS.of_below hb5))
  replace HE:=Lib.hid (HE.out.below hb5)
  clear hb5
  have HW5:=Lib.hid hw5
  clear hw5
  clear hk5
  go_upto_region 12 with fail
  rw [HW5.out]
  have HR:=Lib.hid (wrong_e w5 13)
  go_wp2_with fail
  refine HR.out.mono ?_
  clear HR
  rintro r w9 ⟨rfl,hb9⟩
  unfold zeroA
  replace HS:=Lib.hid (HS.out.trans (EnvS.of_below hb9))
  replace HBX:=Lib.hid (HBX.out.step (EnvS.of_below hb9))
  replace HBR:=Lib.hid (HBR.out.step (EnvS.of_below hb9))
  replace HE:=Lib.hid (HE.out.below hb9)
  clear hb9
  have hkr:=HBR.out.blk
  obtain ⟨z0,z1,z2⟩:=three_cells hkr
  have hfr:=fun i=>hkr.frozen i
  have hlk:=hkr.lt
  clear hkr
  go_wp2
  obtain ⟨hkE,hoE⟩:=set_threeE HBR.out.blk (.int .i64 0) (.int .i64 0) (.string ⟨#[]⟩)
  generalize ((w9.setCell ⟨w1.heap.size,0,none⟩ (.int .i64 0)).setCell ⟨w1.heap.size,1,none⟩ (.int .i64 0)).setCell ⟨w1.heap.size,2,none⟩ (.string ⟨#[]⟩)=wE at *
  obtain ⟨m0,m1,m2⟩:=three_cells hkE
  exact bodyPost_ret (v:=.tuple #[.agg #[.int .i64 0,.int .i64 0,.string ⟨#[]⟩],.int .i64 13]) (by simp [results,Tryz.results26,go_sem,m0,m1,m2]) rfl ⟨_,rfl,EnvAt.wr H0.out HE.out HS.out hl12' HBR.out hoE,EnvS.wr HS.out hoE hl12'⟩
theorem eval_col (x:EX) (hop:x.hd.op=5) (hxe:LfOut x):EvalAt x:=by
 intro w eb f v l p c hE hx hv hd
 unfold LfOut at hxe
 have HOP:=Lib.hid hop
 clear hop
 obtain ⟨w1,hw1⟩:∃ w1,w.alloc (.cells #[.int .i64 x.hd.op,.int .i64 x.hd.n,.string x.hd.s,.string x.hd.name,.string x.hd.src,.slice p x.kids.length c] 27)=w1:=⟨_,rfl⟩
 have hb1:Below w.heap.size w w1:=hw1▸(Below.refl _ _).alloc (Nat.le_refl _) _
 have hk1:Blk w1 w.heap.size 27 [.int .i64 x.hd.op,.int .i64 x.hd.n,.string x.hd.s,.string x.hd.name,.string x.hd.src,.slice p x.kids.length c]:=hw1▸Blk.new w _ _
 obtain ⟨w2,hw2⟩:∃ w2,w1.alloc (.cells #[.int .i64 0,.int .i64 0,.string ⟨#[]⟩] 35)=w2:=⟨_,rfl⟩
 have hb2:Below w1.heap.size w1 w2:=hw2▸(Below.refl _ _).alloc (Nat.le_refl _) _
 have hk2:Blk w2 w1.heap.size 35 [.int .i64 0,.int .i64 0,.string ⟨#[]⟩]:=hw2▸Blk.new w1 _ _
 have hl12:w.heap.size < w1.heap.size:=hk1.lt
 have hl12':w.heap.size≤w1.heap.size:=Nat.le_of_lt hl12
 have hs2:EnvS w w2 eb v v:=EnvS.of_below (hb1.trans (hb2.mono hb1.size))
 have he2:=(hE.below hb1).below hb2
 have hbx:BoxAt w2 eb v w.heap.size 27 [.int .i64 x.hd.op,.int .i64 x.hd.n,.string x.hd.s,.string x.hd.name,.string x.hd.src,.slice p x.kids.length c]:=(BoxAt.fresh hE hk1 rfl).below hb2
 have hbr:BoxAt w2 eb v w1.heap.size 35 [.int .i64 0,.int .i64 0,.string ⟨#[]⟩]:=BoxAt.fresh (hE.below hb1) hk2 rfl
 have H0:=Lib.hid hE
 have HX:=Lib.hid hx
 have HV:=Lib.hid hv
 have HE:=Lib.hid he2
 have HS:=Lib.hid hs2
 have HBX:=Lib.hid hbx
 have HBR:=Lib.hid hbr
 obtain ⟨d0,d1,d2,d3,d4,d5⟩:=six_cells hbx.blk
 have hld:=hbx.blk.lt
 clear hb1 hk1 hb2 hk2 hs2 he2 hbx hbr hE hx hv
 obtain ⟨⟨⟨ok,on,os⟩,oe,ff⟩,hout⟩:∃ out,evalX x (l.map KnM.a) f=out:=⟨_,rfl⟩
 rw [hout]
 rw [hxe] at hout
 have HO:=Lib.hid hout
 clear hout hxe
 go_enter Tryz.func26,Tryz.ntmps26
 cases f with
 | zero =>
  have hq:=HO.out
  unfold stepF wrongA zeroA at hq
  clear HO
  cases hq
  have HS0:=Lib.hid (step_none w2 eb v l HE.out)
  go_wp2_with fail
  clear hw1 hw2 d0 d1 d2 d3 d4 d5 hld
  refine HS0.out.mono ?_
  clear HS0
  rintro e w7 ⟨rfl,hw7⟩
  subst hw7
  have HR:=Lib.hid (wrong_e w2 16)
  go_wp2_with fail
  refine HR.out.mono ?_
  clear HR
  rintro r w9 ⟨rfl,hb9⟩
  unfold zeroA
  replace HS:=Lib.hid (HS.out.trans (EnvS.of_below hb9))
  replace HBX:=Lib.hid (HBX.out.step (EnvS.of_below hb9))
  replace HBR:=Lib.hid (HBR.out.step (EnvS.of_below hb9))
  replace HE:=Lib.hid (HE.out.below hb9)
  clear hb9
  have hkr:=HBR.out.blk
  obtain ⟨z0,z1,z2⟩:=three_cells hkr
  have hfr:=fun i=>hkr.frozen i
  have hlk:=hkr.lt
  clear hkr
  go_wp2
  obtain ⟨hkE,hoE⟩:=set_threeE HBR.out.blk (.int .i64 0) (.int .i64 0) (.string ⟨#[]⟩)
  generalize ((w9.setCell ⟨w1.heap.size,0,none⟩ (.int .i64 0)).setCell ⟨w1.heap.size,1,none⟩ (.int .i64 0)).setCell ⟨w1.heap.size,2,none⟩ (.string ⟨#[]⟩)=wE at *
  obtain ⟨m0,m1,m2⟩:=three_cells hkE
  exact bodyPost_ret (v:=.tuple #[.agg #[.int .i64 0,.int .i64 0,.string ⟨#[]⟩],.int .i64 16]) (by simp [results,Tryz.results26,go_sem,m0,m1,m2]) rfl ⟨_,rfl,EnvAt.wr H0.out HE.out HS.out hl12' HBR.out hoE,EnvS.wr HS.out hoE hl12'⟩
 | succ f1 =>
 unfold stepF at HO
 have HS1:=Lib.hid (step_some w2 eb f1 v l HE.out)
 go_wp2_with fail
 clear hw1 hw2 d0 d1 d2 d3 d4 d5 hld
 refine HS1.out.mono ?_
 clear HS1
 rintro e w3 ⟨rfl,he3,hs3⟩
 replace HS:=Lib.hid (HS.out.trans hs3)
 replace HBX:=Lib.hid (HBX.out.step hs3)
 replace HBR:=Lib.hid (HBR.out.step hs3)
 replace HE:=Lib.hid he3
 clear he3 hs3
 obtain ⟨d0,d1,d2,d3,d4,d5⟩:=six_cells HBX.out.blk
 have hld:=HBX.out.blk.lt
 have hop:=HOP.out
 unfold leafA at HO
 have t1:(x.hd.op == 1)=false:=by simp;omega
 have t2:(x.hd.op == 2)=false:=by simp;omega
 have t3:(x.hd.op == 3)=false:=by simp;omega
 have t4:(x.hd.op == 4)=false:=by simp;omega
 have t5:(x.hd.op == 5)=true:=by simp;omega
 rw [if_neg (by omega),if_neg (by omega),if_neg (by omega)] at HO
 have hop4:¬ x.hd.op=4:=by omega
 simp only [if_neg hop4] at HO
 clear hop4
 have hf:=find_any (w3.alloc (.cells #[.int .i64 0,.int .i64 1] 3)) eb f1 v l (HE.out.below ((Below.refl _ _).alloc (Nat.le_refl _) _)) x.hd.name _ _ _ [0,1] _ (two_kinds w3)
 rw [kinds_both] at hf
 have HF:=Lib.hid hf
 have hbf:Below w3.heap.size w3 (w3.alloc (.cells #[.int .i64 0,.int .i64 1] 3)):=(Below.refl _ _).alloc (Nat.le_refl _) _
 have HBF:=Lib.hid hbf
 rw [findM_a] at HO
 clear hf hbf hop
 go_wp2_with fail
 clear d0 d1 d2 d3 d4 d5 hld
 refine HF.out.mono ?_
 clear HF
 rintro e w4 ⟨hb4,hfo⟩
 have hb34:=HBF.out.trans (hb4.mono HBF.out.size)
 replace HS:=Lib.hid (HS.out.trans (EnvS.of_below hb34))
 replace HBX:=Lib.hid (HBX.out.step (EnvS.of_below hb34))
 replace HBR:=Lib.hid (HBR.out.step (EnvS.of_below hb34))
 replace HE:=Lib.hid (HE.out.below hb34)
 clear hb34
 clear hb4 HBF
 rcases hfo with ⟨k,pc,nc,cc,pr,nr,cr,hfk,hcv,hrv,rfl⟩|⟨hfk,rfl⟩
 ·skip
  rw [hfk] at HO
  simp only [Option.map_some] at HO
  have hkm:=findM_mem hfk
  have hkn:=HE.out.kn k hkm.1
  obtain ⟨w5,hw5⟩:∃ w5,w4.alloc (.cells #[.string k.name,.int .i64 k.val.kind,.int .i64 k.val.n,.string k.val.s,.slice pc nc cc,.slice pr nr cr,.int .i64 k.is] 79)=w5:=⟨_,rfl⟩
  have hb5:Below w4.heap.size w4 w5:=hw5▸(Below.refl _ _).alloc (Nat.le_refl _) _
  have hk5:Blk w5 w4.heap.size 79 [.string k.name,.int .i64 k.val.kind,.int .i64 k.val.n,.string k.val.s,.slice pc nc cc,.slice pr nr cr,.int .i64 k.is]:=hw5▸Blk.new w4 _ _
  have HKN:=Lib.hid (hkn.next (EnvS.of_below hb5))
  have HCV:=Lib.hid hcv
  have HRV:=Lib.hid hrv
  replace HS:=Lib.hid (HS.out.trans (EnvS.of_below hb5))
  replace HBX:=Lib.hid (HBX.out.step (EnvS.of_below hb5))
  replace HBR:=Lib.hid (HBR.out.step (EnvS.of_below hb5))
  replace HE:=Lib.hid (HE.out.below hb5)
  clear hb5
  obtain ⟨y0,y1,y2,y3,y4,y5,y6⟩:=seven_cells hk5
  have hly:=hk5.lt
  have HW5:=Lib.hid hw5
  clear hw5 hk5 hkm hkn hcv hrv hfk
  go_upto_region 17 with fail
  rw [HW5.out]
  have hq:=HO.out
  rw [colA_eq] at hq
  have HC:=Lib.hid (column_any w5 _ k HKN.out pc pr nc cc nr cr HCV.out HRV.out x.hd.s)
  clear HO
  generalize colA k.a x.hd.s 0=a at *
  obtain ⟨⟨ak,an,sa⟩,ae,f3⟩:=a
  simp only at hq HC
  cases hq
  obtain ⟨d0,d1,d2,d3,d4,d5⟩:=six_cells HBX.out.blk
  have hld:=HBX.out.blk.lt
  go_wp2_with fail
  clear d0 d1 d2 d3 d4 d5 hld y0 y1 y2 y3 y4 y5 y6 hly
  refine HC.out.mono ?_
  clear HC
  rintro e w6 ⟨rfl,hb6⟩
  replace HS:=Lib.hid (HS.out.trans (EnvS.of_below hb6))
  replace HBX:=Lib.hid (HBX.out.step (EnvS.of_below hb6))
  replace HBR:=Lib.hid (HBR.out.step (EnvS.of_below hb6))
  replace HE:=Lib.hid (HE.out.below hb6)
  clear hb6
  have hkr:=HBR.out.blk
  obtain ⟨z0,z1,z2⟩:=three_cells hkr
  have hfr:=fun i=>hkr.frozen i
  have hlk:=hkr.lt
  clear hkr
  go_wp2
  obtain ⟨hkE,hoE⟩:=set_threeE HBR.out.blk (.int .i64 ok) (.int .i64 on) (.string os)
  generalize ((w6.setCell ⟨w1.heap.size,0,none⟩ (.int .i64 ok)).setCell ⟨w1.heap.size,1,none⟩ (.int .i64 on)).setCell ⟨w1.heap.size,2,none⟩ (.string os)=wE at *
  obtain ⟨m0,m1,m2⟩:=three_cells hkE
  exact bodyPost_ret (v:=.tuple #[.agg #[.int .i64 ok,.int .i64 on,.string os],.int .i64 oe]) (by simp [results,Tryz.results26,go_sem,m0,m1,m2]) rfl ⟨_,rfl,EnvAt.wr H0.out HE.out HS.out hl12' HBR.out hoE,EnvS.wr HS.out hoE hl12'⟩
 ·skip
  rw [hfk] at HO
  simp only [Option.map_none] at HO
  have hq:=HO.out
  unfold wrongA zeroA at hq
  clear hfk HO
  cases hq
  obtain ⟨w5,hw5⟩:∃ w5,w4.alloc (.cells #[.string ⟨#[]⟩,.int .i64 0,.int .i64 0,.string ⟨#[]⟩,.slice none 0 0,.slice none 0 0,.int .i64 0] 79)=w5:=⟨_,rfl⟩
  have hb5:Below w4.heap.size w4 w5:=hw5▸(Below.refl _ _).alloc (Nat.le_refl _) _
  have hk5:Blk w5 w4.heap.size 79 [.string ⟨#[]⟩,.int .i64 0,.int .i64 0,.string ⟨#[]⟩,.slice none 0 0,.slice none 0 0,.int .i64 0]:=hw5▸Blk.new w4 _ _
  replace HS:=Lib.hid (HS.out.trans (EnvS.of_below hb5))
  replace HBX:=Lib.hid (HBX.out.step (EnvS.of_below hb5))
  replace HBR:=Lib.hid (HBR.out.step (EnvS.of_below hb5))
  replace HE:=Lib.hid (HE.out.below hb5)
  clear hb5
  have HW5:=Lib.hid hw5
  clear hw5
  obtain ⟨y0,y1,y2,y3,y4,y5,y6⟩:=seven_cells hk5
  have hly:=hk5.lt
  clear hk5
  go_upto_region 17 with fail
  rw [HW5.out]
  obtain ⟨d0,d1,d2,d3,d4,d5⟩:=six_cells HBX.out.blk
  have hld:=HBX.out.blk.lt
  have HC:Hid (Calls Tryz.prog 48 #[.agg #[.string ⟨#[]⟩,.int .i64 0,.int .i64 0,.string ⟨#[]⟩,.slice none 0 0,.slice none 0 0,.int .i64 0],.string x.hd.s] w5 (PairOut w5 zeroA 13)):=Lib.hid (by
   have h:=column_any w5 (fun _=>True) kn0 (kn0_at _ _) none none 0 0 0 0 rfl rfl x.hd.s
   rw [colA_zero] at h
   exact h)
  unfold zeroA at HC
  go_wp2_with fail
  clear d0 d1 d2 d3 d4 d5 hld y0 y1 y2 y3 y4 y5 y6 hly
  refine HC.out.mono ?_
  clear HC
  rintro e w6 ⟨rfl,hb6⟩
  replace HS:=Lib.hid (HS.out.trans (EnvS.of_below hb6))
  replace HBX:=Lib.hid (HBX.out.step (EnvS.of_below hb6))
  replace HBR:=Lib.hid (HBR.out.step (EnvS.of_below hb6))
  replace HE:=Lib.hid (HE.out.below hb6)
  clear hb6
  have hkr:=HBR.out.blk
  obtain ⟨z0,z1,z2⟩:=three_cells hkr
  have hfr:=fun i=>hkr.frozen i
  have hlk:=hkr.lt
  clear hkr
  go_wp2
  obtain ⟨hkE,hoE⟩:=set_threeE HBR.out.blk (.int .i64 0) (.int .i64 0) (.string ⟨#[]⟩)
  generalize ((w6.setCell ⟨w1.heap.size,0,none⟩ (.int .i64 0)).setCell ⟨w1.heap.size,1,none⟩ (.int .i64 0)).setCell ⟨w1.heap.size,2,none⟩ (.string ⟨#[]⟩)=wE at *
  obtain ⟨m0,m1,m2⟩:=three_cells hkE
  exact bodyPost_ret (v:=.tuple #[.agg #[.int .i64 0,.int .i64 0,.string ⟨#[]⟩],.int .i64 13]) (by simp [results,Tryz.results26,go_sem,m0,m1,m2]) rfl ⟨_,rfl,EnvAt.wr H0.out HE.out HS.out hl12' HBR.out hoE,EnvS.wr HS.out hoE hl12'⟩
theorem args_zero {op:Int} (h:(argsP op).1=0):1≤op∧op≤5:=by
 unfold argsP at h
 repeat' split at h
 all_goals first|assumption|exact absurd h (by decide)
theorem args_one {op:Int} (h:(argsP op).1=1):op=19∨op=20∨op=21:=by
 unfold argsP at h
 repeat' split at h
 all_goals first|exact absurd h (by decide)|omega
theorem args_two {op:Int} (h:(argsP op).1=2):(6≤op∧op≤18)∨(22≤op∧op≤24):=by
 unfold argsP at h
 repeat' split at h
 all_goals first|exact absurd h (by decide)|omega
theorem eval_any:∀ x:EX,builtX x=true→x.ok→EvalAt x
 | .leaf h,hb,ho=>by
  have h1:(argsP h.op).1=0:=by
   have:=(Bool.and_eq_true _ _▸(Bool.and_eq_true _ _▸hb:(((argsP h.op).1 == 0) && fieldsB h)=true∧true=true).1:((argsP h.op).1 == 0)=true∧fieldsB h=true).1
   simpa using this
  have h2:=args_zero h1
  have hl:LfOut (.leaf h):=fun l f=>rfl
  by_cases h3:h.op=1
  ·exact eval_int _ h3 hl
  by_cases h4:h.op=2
  ·exact eval_text _ h4 hl
  by_cases h5:h.op=3
  ·exact eval_bool _ h5 hl
  by_cases h6:h.op=4
  ·exact eval_var _ h6 hl
  exact eval_col (.leaf h) (show h.op=5 by omega) hl
 | .one h v a,hb,ho=>by
  have hb1:(((argsP h.op).1 == 1) && fieldsB h && (builtX a && true))=true:=hb
  simp only [Bool.and_eq_true,Bool.and_true,beq_iff_eq] at hb1
  have ha:=eval_any a hb1.2 ho.2
  rcases args_one hb1.1.1 with h3|h3|h3
  ·refine eval_one (.one h v a) (fun l=>oneF h.op (evalX a l)) (.inl h3) (fun l f=>?_) (fun w eb f v' l p c hE hx hv hd=>one_anyE (.one h v a) a rfl ha ho.2 (.inl h3) w eb f v' l p c hE hx hv (Nat.le_trans (Nat.add_le_add_left (Nat.le_succ a.dep) _) hd))
   show stepF (if h.op=19∨h.op=20 then _ else _) f=_
   rw [if_pos (.inl h3)]
  ·refine eval_one (.one h v a) (fun l=>oneF h.op (evalX a l)) (.inr h3) (fun l f=>?_) (fun w eb f v' l p c hE hx hv hd=>one_anyE (.one h v a) a rfl ha ho.2 (.inr h3) w eb f v' l p c hE hx hv (Nat.le_trans (Nat.add_le_add_left (Nat.le_succ a.dep) _) hd))
   show stepF (if h.op=19∨h.op=20 then _ else _) f=_
   rw [if_pos (.inr h3)]
  ·refine eval_fold (.one h v a) (fun l=>foldF h l fun l'=>cnt1 (evalX a l')) (.inl h3) (fun l f=>?_) (fun w eb f v' l p c hE hx hv hd=>fold_any (.one h v a) a.dep (fun l'=>cnt1 (evalX a l'))
    (fun w eb f v' l p c hE hx hv hd=>counts_one (.one h v a) a rfl ha h3 w eb f v' l p c hE hx hv hd) (fun l' _=>cnt1_fit) ho.1.2.2.2.1 w eb f v' l p c hE hx hv hd)
   show stepF (if h.op=19∨h.op=20 then _ else _) f=_
   rw [if_neg (by omega)]
 | .two h v a b,hb,ho=>by
  have hb1:(((argsP h.op).1 == 2) && fieldsB h && (builtX a && (builtX b && true)))=true:=hb
  simp only [Bool.and_eq_true,Bool.and_true,beq_iff_eq] at hb1
  have ha:=eval_any a hb1.2.1 ho.2.1
  have hb':=eval_any b hb1.2.2 ho.2.2
  have hda:∀ {n:Nat},n+(EX.two h v a b).dep≤1000000→n+a.dep≤1000000:=fun {n} hd=>by
   have h1:n+(max a.dep b.dep+1)≤1000000:=hd
   omega
  have hdb:∀ {n:Nat},n+(EX.two h v a b).dep≤1000000→n+b.dep≤1000000:=fun {n} hd=>by
   have h1:n+(max a.dep b.dep+1)≤1000000:=hd
   omega
  rcases args_two hb1.1.1 with h3|h3
  ·by_cases h4:h.op=17∨h.op=18
   ·refine eval_both (.two h v a b) (fun l=>bothF h.op (evalX a l) (evalX b l)) h4 (fun l f=>?_) (fun w eb f v' l p c hE hx hv hd=>both_anyE (.two h v a b) a b rfl ha hb' w eb f v' l p c hE hx hv (hda hd) (hdb hd))
    show stepF (if h.op=17∨h.op=18 then _ else _) f=_
    rw [if_pos h4]
   ·refine eval_two (.two h v a b) (fun l=>twoF h.op (evalX a l) (evalX b l)) ⟨h3.1,show h.op≤16 by omega⟩ (fun l f=>?_) (fun w eb f v' l p c hE hx hv hd=>two_anyE (.two h v a b) a b rfl ha hb' ho.2.1 ho.2.2 h3.1 w eb f v' l p c hE hx hv (hda hd) (hdb hd))
    show stepF (if h.op=17∨h.op=18 then _ else _) f=_
    rw [if_neg h4,if_neg (by omega)]
  ·refine eval_fold (.two h v a b) (fun l=>foldF h l fun l'=>cnt2 (evalX a l') (evalX b l')) (show h.op=21∨h.op=22∨h.op=23∨h.op=24 by omega) (fun l f=>?_) (fun w eb f v' l p c hE hx hv hd=>fold_any (.two h v a b) (max a.dep b.dep) (fun l'=>cnt2 (evalX a l') (evalX b l'))
    (fun w eb f v' l p c hE hx hv hd=>counts_two (.two h v a b) a b rfl ha hb' (show h.op≠21 by omega) w eb f v' l p c hE hx hv (by omega) (by omega)) (fun l' hl'=>cnt2_fit (evalX_ok b l' ho.2.2 hl')) ho.1.2.2.2.1 w eb f v' l p c hE hx hv hd)
   show stepF (if h.op=17∨h.op=18 then _ else _) f=_
   rw [if_neg (by omega),if_pos (by omega)]
theorem sizeX_dep:∀ (x:EX) (a:Int),(sizeX x a).2 < 1000→(x.dep:Int)+1≤(sizeX x a).2
 | .leaf _,a,_=>by
  show ((0:Nat):Int)+1≤min 1000 ((0:Int)+1)
  omega
 | .one _ _ x,a,h=>by
  have IH:=sizeX_dep x (a+1)
  unfold sizeX overZ at h ⊢
  simp only at h ⊢
  split at h
  ·exact absurd h (by decide)
  ·rename_i hc
   rw [if_neg hc]
   unfold addZ at h ⊢
   simp only at h ⊢
   show ((x.dep+1:Nat):Int)+1≤_
   have hk:=IH (by omega)
   omega
 | .two _ _ x y,a,h=>by
  have IX:=sizeX_dep x (a+1)
  have IY:=sizeX_dep y (a+1)
  unfold sizeX overZ at h ⊢
  simp only at h ⊢
  split at h
  ·exact absurd h (by decide)
  ·rename_i hc
   split at h
   ·exact absurd h (by decide)
   ·rename_i hd
    rw [if_neg hc,if_neg hd]
    unfold addZ at h ⊢
    simp only at h ⊢
    show ((max x.dep y.dep+1:Nat):Int)+1≤_
    have h1:=IX (by omega)
    have h2:=IY (by omega)
    omega
theorem rightX_dep {x:EX} (h:rightX x=true):x.dep≤12:=by
 unfold rightX smallZ at h
 simp only [Bool.and_eq_true,decide_eq_true_eq] at h
 have:=sizeX_dep x 0 (by omega)
 omega
theorem rightX_built {x:EX} (h:rightX x=true):builtX x=true:=by
 unfold rightX at h
 exact (Bool.and_eq_true _ _▸h:smallZ (sizeX x 0)=true∧builtX x=true).2
def evalS (x:EX) (l:List KnA) (f:Nat):Ans:=if rightX x=true then evalX x l f else wrongA 13 f
theorem evals_any (x:EX) (hok:x.ok) (w:World) (eb f:Nat) (v:Value) (l:List KnM) (p:Option Addr) (c:Nat) (hE:EnvAt w eb f v l) (hx:x.at w (offE eb v)) (hv:x.av=.slice p x.kids.length c) (hd:l.length≤1000) :
 Calls Tryz.prog 9 #[.pointer (some ⟨eb,0,none⟩),.agg #[.int .i64 x.hd.op,.int .i64 x.hd.n,.string x.hd.s,.string x.hd.name,.string x.hd.src,.slice p x.kids.length c]] w (EvOut w eb v l (evalS x (l.map KnM.a) f)):=by
 obtain ⟨w1,hw1⟩:∃ w1,w.alloc (.cells #[.int .i64 x.hd.op,.int .i64 x.hd.n,.string x.hd.s,.string x.hd.name,.string x.hd.src,.slice p x.kids.length c] 27)=w1:=⟨_,rfl⟩
 have hb1:Below w.heap.size w w1:=hw1▸(Below.refl _ _).alloc (Nat.le_refl _) _
 have hk1:Blk w1 w.heap.size 27 [.int .i64 x.hd.op,.int .i64 x.hd.n,.string x.hd.s,.string x.hd.name,.string x.hd.src,.slice p x.kids.length c]:=hw1▸Blk.new w _ _
 obtain ⟨w2,hw2⟩:∃ w2,w1.alloc (.cells #[.int .i64 0,.int .i64 0,.string ⟨#[]⟩] 35)=w2:=⟨_,rfl⟩
 have hb2:Below w1.heap.size w1 w2:=hw2▸(Below.refl _ _).alloc (Nat.le_refl _) _
 have hk2:Blk w2 w1.heap.size 35 [.int .i64 0,.int .i64 0,.string ⟨#[]⟩]:=hw2▸Blk.new w1 _ _
 have hl12:w.heap.size < w1.heap.size:=hk1.lt
 have hl12':w.heap.size≤w1.heap.size:=Nat.le_of_lt hl12
 have hs2:EnvS w w2 eb v v:=EnvS.of_below (hb1.trans (hb2.mono hb1.size))
 have he2:=(hE.below hb1).below hb2
 have hbx:BoxAt w2 eb v w.heap.size 27 [.int .i64 x.hd.op,.int .i64 x.hd.n,.string x.hd.s,.string x.hd.name,.string x.hd.src,.slice p x.kids.length c]:=(BoxAt.fresh hE hk1 rfl).below hb2
 have hbr:BoxAt w2 eb v w1.heap.size 35 [.int .i64 0,.int .i64 0,.string ⟨#[]⟩]:=BoxAt.fresh (hE.below hb1) hk2 rfl
 have H0:=Lib.hid hE
 have HX:=Lib.hid hx
 have HV:=Lib.hid hv
 have HE:=Lib.hid he2
 have HS:=Lib.hid hs2
 have HBX:=Lib.hid hbx
 have HBR:=Lib.hid hbr
 obtain ⟨d0,d1,d2,d3,d4,d5⟩:=six_cells hbx.blk
 have hld:=hbx.blk.lt
 clear hb1 hk1 hb2 hk2 hs2 he2 hbx hbr hE hx hv
 obtain ⟨⟨⟨ok,on,os⟩,oe,ff⟩,hout⟩:∃ out,evalS x (l.map KnM.a) f=out:=⟨_,rfl⟩
 rw [hout]
 unfold evalS at hout
 have HO:=Lib.hid hout
 have HOK:=Lib.hid hok
 clear hout hok
 have HR:=Lib.hid (right_anyX x w2 (offE eb v) p c (EX.next HS.out HX.out) HOK.out HV.out)
 go_enter Tryz.func9,Tryz.ntmps9
 go_wp2_with fail
 clear hw1 hw2 d0 d1 d2 d3 d4 d5 hld
 refine HR.out.mono ?_
 clear HR
 rintro e w3 ⟨rfl,hb3⟩
 replace HS:=Lib.hid (HS.out.trans (EnvS.of_below hb3))
 replace HBX:=Lib.hid (HBX.out.step (EnvS.of_below hb3))
 replace HBR:=Lib.hid (HBR.out.step (EnvS.of_below hb3))
 replace HE:=Lib.hid (HE.out.below hb3)
 clear hb3
 cases q:rightX x with
 | false =>
  rw [q,if_neg (by decide)] at HO
  have hq:=HO.out
  unfold wrongA zeroA at hq
  clear HO q
  cases hq
  have hkr:=HBR.out.blk
  obtain ⟨z0,z1,z2⟩:=three_cells hkr
  have hfr:=fun i=>hkr.frozen i
  have hlk:=hkr.lt
  clear hkr
  go_wp2
  obtain ⟨hkE,hoE⟩:=set_threeE HBR.out.blk (.int .i64 0) (.int .i64 0) (.string ⟨#[]⟩)
  generalize ((w3.setCell ⟨w1.heap.size,0,none⟩ (.int .i64 0)).setCell ⟨w1.heap.size,1,none⟩ (.int .i64 0)).setCell ⟨w1.heap.size,2,none⟩ (.string ⟨#[]⟩)=wE at *
  obtain ⟨m0,m1,m2⟩:=three_cells hkE
  exact bodyPost_ret (v:=.tuple #[.agg #[.int .i64 0,.int .i64 0,.string ⟨#[]⟩],.int .i64 13]) (by simp [results,Tryz.results9,go_sem,m0,m1,m2]) rfl ⟨_,rfl,EnvAt.wr H0.out HE.out HS.out hl12' HBR.out hoE,EnvS.wr HS.out hoE hl12'⟩
 | true =>
  rw [q,if_pos rfl] at HO
  have hdp:=rightX_dep q
  have HC:=Lib.hid (eval_any x (rightX_built q) HOK.out w3 eb f v l p c HE.out (EX.next HS.out HX.out) HV.out (by omega))
  clear hdp q
  obtain ⟨d0,d1,d2,d3,d4,d5⟩:=six_cells HBX.out.blk
  have hld:=HBX.out.blk.lt
  go_wp2_with fail
  clear d0 d1 d2 d3 d4 d5 hld
  refine HC.out.mono ?_
  clear HC
  generalize evalX x (l.map KnM.a) f=a at *
  obtain ⟨⟨ak,an,sa⟩,ae,f3⟩:=a
  rintro e w4 ⟨v3,rfl,he4,hs4⟩
  simp only at he4 hs4 HO
  have hq:=HO.out
  clear HO
  cases hq
  replace HS:=Lib.hid (HS.out.trans hs4)
  replace HBX:=Lib.hid (HBX.out.step hs4)
  replace HBR:=Lib.hid (HBR.out.step hs4)
  replace HE:=Lib.hid he4
  clear he4 hs4
  have hkr:=HBR.out.blk
  obtain ⟨z0,z1,z2⟩:=three_cells hkr
  have hfr:=fun i=>hkr.frozen i
  have hlk:=hkr.lt
  clear hkr
  go_wp2
  obtain ⟨hkE,hoE⟩:=set_threeE HBR.out.blk (.int .i64 ok) (.int .i64 on) (.string os)
  generalize ((w4.setCell ⟨w1.heap.size,0,none⟩ (.int .i64 ok)).setCell ⟨w1.heap.size,1,none⟩ (.int .i64 on)).setCell ⟨w1.heap.size,2,none⟩ (.string os)=wE at *
  obtain ⟨m0,m1,m2⟩:=three_cells hkE
  exact bodyPost_ret (v:=.tuple #[.agg #[.int .i64 ok,.int .i64 on,.string os],.int .i64 oe]) (by simp [results,Tryz.results9,go_sem,m0,m1,m2]) rfl ⟨_,rfl,EnvAt.wr H0.out HE.out HS.out hl12' HBR.out hoE,EnvS.wr HS.out hoE hl12'⟩
theorem evalS_fuel (x:EX) (l:List KnA):Fuels zeroA (evalS x l):=by
 by_cases h:rightX x=true
 ·have:evalS x l=evalX x l:=funext fun f=>by unfold evalS;rw [if_pos h]
  rw [this]
  exact evalX_fuel x l
 ·have:evalS x l=wrongA 13:=funext fun f=>by unfold evalS;rw [if_neg h]
  rw [this]
  exact wrongA_fuel 13 (by decide)
def allS (l:List KnA):List EX→List AV→Nat→List AV × Int × Nat
 | [],acc,f=>(acc,0,f)
 | x::xs,acc,f=>if (evalS x l f).2.1≠0 then ([],(evalS x l f).2.1,(evalS x l f).2.2) else allS l xs (acc++[(evalS x l f).1]) (evalS x l f).2.2
theorem allS_cons (l:List KnA) (x:EX) (xs:List EX) (acc:List AV) (f:Nat):allS l (x::xs) acc f=if (evalS x l f).2.1≠0 then ([],(evalS x l f).2.1,(evalS x l f).2.2) else allS l xs (acc++[(evalS x l f).1]) (evalS x l f).2.2:=rfl
theorem elemValE:Elem Tryz.prog 42 35 3 32 (.agg #[.int .i64 0,.int .i64 0,.string ⟨#[]⟩]) :=
 ⟨Tryz.underlying42,by kernel_rfl,rfl,by omega,by intro u hu;simp [Value.cells] at hu;rcases hu with rfl|rfl|rfl<;>rfl⟩
structure OwnAt (W:World) (eb:Nat) (v:Value) (lo:Nat) (T:TypeId) (sz:Nat) (va:Value) (n:Nat) (cs:List Value):Prop where
 own:Own W T sz va n cs
 off:∀ q,va.ownBlock=some q→lo≤q∧q≠eb∧v.ownBlock≠some q
theorem OwnAt.step {W W':World} {eb lo sz n:Nat} {v v' va:Value} {T:TypeId} {cs:List Value} (h:OwnAt W eb v lo T sz va n cs) (s:EnvS W W' eb v v'):OwnAt W' eb v' lo T sz va n cs :=
 ⟨h.own.only s.only (fun q hq e=>by
  rcases e with e|e
  ·exact (h.off q hq).2.1 e
  ·exact (h.off q hq).2.2 e),fun q hq=>⟨(h.off q hq).1,(h.off q hq).2.1,fun e=>by
  rcases s.own q e with h1|h1
  ·exact (h.off q hq).2.2 h1
  ·have:=h.own.lt q hq
   omega⟩⟩
theorem EnvS.offS {w W W':World} {eb:Nat} {v v':Value} {S:Nat→Prop} (hs:EnvS w W eb v v') (ho:Only S W W') (hr:∀ q,S q→w.heap.size≤q):EnvS w W' eb v v' :=
 ⟨hs.only.trans ho (fun i hi e=>by have:=hr i e;omega),hs.own⟩
theorem EnvAt.offS {w W W':World} {eb f f0:Nat} {v v':Value} {l:List KnM} {S:Nat→Prop} (h0:EnvAt w eb f0 v l) (hW:EnvAt W eb f v' l) (hs:EnvS w W eb v v') (ho:Only S W W') (hr:∀ q,S q→w.heap.size≤q∧q≠eb∧v'.ownBlock≠some q):EnvAt W' eb f v' l :=
 ⟨hW.blk.only ho (fun e=>(hr eb e).2.1 rfl),hW.own.only ho (fun q hq e=>(hr q e).2.2 hq),hW.ne,fun k hk=>(h0.kn k hk).next (hs.offS ho fun q e=>(hr q e).1),hW.fuel,hW.lim⟩
structure AllSt (w wr:World) (eb fj:Nat) (v vj:Value) (l:List KnM) (va:Value) (acc:List AV):Prop where
 env:EnvAt wr eb fj vj l
 st:EnvS w wr eb v vj
 ow:OwnAt wr eb vj w.heap.size 35 3 va acc.length (rowCells acc)
theorem AllSt.step {w wr wr':World} {eb fj fj':Nat} {v vj vj' va:Value} {l:List KnM} {acc:List AV} (h:AllSt w wr eb fj v vj l va acc) (s:EnvS wr wr' eb vj vj') (he:EnvAt wr' eb fj' vj' l):AllSt w wr' eb fj' v vj' l va acc :=
 ⟨he,h.st.trans s,h.ow.step s⟩
theorem AllSt.below {w wr wr':World} {eb fj:Nat} {v vj va:Value} {l:List KnM} {acc:List AV} (h:AllSt w wr eb fj v vj l va acc) (hb:Below wr.heap.size wr wr'):AllSt w wr' eb fj v vj l va acc :=
 h.step (EnvS.of_below hb) (h.env.below hb)
theorem AllSt.push {w wr wm wA:World} {eb f0 fj:Nat} {v vj va v1:Value} {l:List KnM} {acc:List AV} {a:AV} (h0:EnvAt w eb f0 v l) (h:AllSt w wr eb fj v vj l va acc) (hb:Below wr.heap.size wr wm)
 (g1:Own wA 35 3 v1 (acc.length+1) (rowCells acc++a.cells)) (g2:Only (fun q=>va.ownBlock=some q) wm wA) (g3:v1.ownBlock=va.ownBlock∨v1.ownBlock=some wm.heap.size):AllSt w wA eb fj v vj l v1 (acc++[a]):=by
 have hm:=h.below hb
 have hsz:=hm.st.only.size
 refine ⟨EnvAt.offS h0 hm.env hm.st g2 (fun q hq=>hm.ow.off q hq),hm.st.offS g2 (fun q hq=>(hm.ow.off q hq).1),⟨?_,fun q hq=>?_⟩⟩
 ·rw [List.length_append,show rowCells (acc++[a])=rowCells acc++a.cells by simp [rowCells]]
  exact g1
 ·rcases g3 with g3|g3
  ·exact hm.ow.off q (g3.symm.trans hq)
  ·have e:wm.heap.size=q:=Option.some.inj (g3.symm.trans hq)
   subst e
   exact ⟨hsz,fun e=>by have:=hm.env.blk.lt;omega,fun e=>by have:=hm.env.own.lt _ e;omega⟩
theorem one_val (w:World) (k n:Int) (s:ByteArray):Sl (w.alloc (.cells #[.int .i64 k,.int .i64 n,.string s] 35)) (fun _=>True) 3 (.slice (some ⟨w.heap.size,0,none⟩) 1 1) 1 [.int .i64 k,.int .i64 n,.string s] :=
 (Own.made w 35 3 [.int .i64 k,.int .i64 n,.string s] [] 1 1 rfl (Ones.nil.cons rfl |>.cons rfl |>.cons rfl) (Nat.le_refl _) (by decide) (Nat.le_refl 3)).sl (fun _ _=>trivial)
theorem ex_place {w:World} {B:Nat→Prop} {vx:Value} {xs:List EX} (h:Sl w B 6 vx xs.length (exC xs)) {k:Nat} (hk:k < xs.length) :
 ∃ g off cap,vx=.slice (some ⟨g,off,none⟩) xs.length cap∧w.cell? ⟨g,off+k*6,none⟩=some (.int .i64 xs[k].hd.op)∧w.cell? ⟨g,off+k*6+1,none⟩=some (.int .i64 xs[k].hd.n)∧w.cell? ⟨g,off+k*6+2,none⟩=some (.string xs[k].hd.s) ∧
  w.cell? ⟨g,off+k*6+3,none⟩=some (.string xs[k].hd.name)∧w.cell? ⟨g,off+k*6+4,none⟩=some (.string xs[k].hd.src)∧w.cell? ⟨g,off+k*6+5,none⟩=some xs[k].av:=by
 obtain ⟨g,off,cap,hv,_,_,_,_,hcs⟩:=h.place (by omega)
 have h0:∀ r,r < 6→w.cell? ⟨g,off+(k*6+r),none⟩=(xs[k].cells)[r]?:=fun r hr=>by rw [hcs _ (by rw [exC_len];omega),exC_at xs k r hk hr]
 exact ⟨g,off,cap,hv,h0 0 (by omega),h0 1 (by omega),h0 2 (by omega),h0 3 (by omega),h0 4 (by omega),h0 5 (by omega)⟩
def AllOut (w:World) (eb:Nat) (v:Value) (l:List KnM) (r:List AV × Int × Nat) (e:Ending) (w':World):Prop :=
 ∃ v' va,e=.returned (.tuple #[va,.int .i64 r.2.1])∧AllSt w w' eb r.2.2 v v' l va r.1
theorem evall_any (xs:List EX) (hok:∀ x∈xs,x.ok) (w:World) (eb f:Nat) (v vx:Value) (l:List KnM) (hE:EnvAt w eb f v l) (hx:Sl w (offE eb v) 6 vx xs.length (exC xs)) (hat:∀ x∈xs,x.at w (offE eb v)) (hd:l.length≤1000) (hn:xs.length≤1000) :
 Calls Tryz.prog 11 #[.pointer (some ⟨eb,0,none⟩),vx] w (AllOut w eb v l (allS (l.map KnM.a) xs [] f)):=by
 obtain ⟨px,cx,rfl,_,_⟩:=hx.form
 obtain ⟨⟨ro,re,rf⟩,hr⟩:∃ r,allS (l.map KnM.a) xs [] f=r:=⟨_,rfl⟩
 rw [hr]
 have HX:=Lib.hid hx
 have HAT:=Lib.hid hat
 have HOK:=Lib.hid hok
 have H0:=Lib.hid hE
 have HR:=Lib.hid hr
 clear hx hat hok hE hr
 go_enter Tryz.func11,Tryz.ntmps11
 go_wp2
 go_loopw [6,15] (fun va iv wr=>∃ (j fj:Nat) (vj:Value) (acc:List AV),iv=.int .i64 (j:Int)∧j≤xs.length∧AllSt w wr eb fj v vj l va acc∧acc.length=j∧allS (l.map KnM.a) (xs.drop j) acc fj=(ro,re,rf)) (fun _ iv _=>xs.length - (intOf iv).toNat)
 case atStart=>exact ⟨0,f,v,[],rfl,Nat.zero_le _,⟨H0.out,EnvS.refl _ _ _,⟨Own.nil _ _ _,by simp [Value.ownBlock]⟩⟩,rfl,HR.out⟩
 case round =>
  obtain ⟨j,fj,vj,acc,rfl,hj,hT,hacl,hall⟩:=hrel
  obtain ⟨wo,rfl⟩:∃ wo:World,wo=wr:=⟨_,rfl⟩
  have HT:=Lib.hid hT
  obtain ⟨pa,ca,rfl,hca1,hca2⟩:=own_form hT.ow.own
  clear hT
  by_cases hlt:j < xs.length
  ·obtain ⟨g,off,cap,hv,y0,y1,y2,y3,y4,y5⟩:=ex_place (sl_off HX.out HT.out.st) hlt
   cases hv
   have hya:=EX.next HT.out.st (HAT.out _ (List.getElem_mem hlt))
   obtain ⟨p,c,hva⟩:=EX.form_kids hya
   have hyo:=HOK.out _ (List.getElem_mem hlt)
   rw [hva] at y5
   rw [List.drop_eq_getElem_cons hlt,allS_cons] at hall
   generalize xs[j]=x at *
   have HO:=Lib.hid hall
   have HYA:=Lib.hid hya
   have HYO:=Lib.hid hyo
   have HVA:=Lib.hid hva
   have HCL:=Lib.hid hacl
   obtain ⟨w3,hw3⟩:∃ w3,wo.alloc (.cells #[.int .i64 x.hd.op,.int .i64 x.hd.n,.string x.hd.s,.string x.hd.name,.string x.hd.src,.slice p x.kids.length c] 27)=w3:=⟨_,rfl⟩
   have hb3:Below wo.heap.size wo w3:=hw3▸(Below.refl _ _).alloc (Nat.le_refl _) _
   have hk3:Blk w3 wo.heap.size 27 [.int .i64 x.hd.op,.int .i64 x.hd.n,.string x.hd.s,.string x.hd.name,.string x.hd.src,.slice p x.kids.length c]:=hw3▸Blk.new wo _ _
   replace HT:=Lib.hid (HT.out.below hb3)
   have HC:=Lib.hid (evals_any x HYO.out w3 eb fj vj l p c HT.out.env (EX.next (EnvS.of_below hb3) HYA.out) HVA.out hd)
   obtain ⟨d0,d1,d2,d3,d4,d5⟩:=six_cells hk3
   have hld:=hk3.lt
   have HW3:=Lib.hid hw3
   clear hall hya hyo hva hacl hb3 hk3 hw3
   go_upto_region 7 with fail
   rw [HW3.out]
   go_wp2_with fail
   clear y0 y1 y2 y3 y4 y5 d0 d1 d2 d3 d4 d5 hld
   refine HC.out.mono ?_
   clear HC
   generalize evalS x (l.map KnM.a) fj=a at *
   obtain ⟨⟨ak,an,sa⟩,ae,f4⟩:=a
   simp only at HO
   rintro e w4 ⟨v4,rfl,he4,hs4⟩
   simp only at he4 hs4
   replace HT:=Lib.hid (HT.out.step hs4 he4)
   obtain ⟨w5,hw5⟩:∃ w5,w4.alloc (.cells #[.int .i64 ak,.int .i64 an,.string sa] 35)=w5:=⟨_,rfl⟩
   have hb5:Below w4.heap.size w4 w5:=hw5▸(Below.refl _ _).alloc (Nat.le_refl _) _
   have hk5:Blk w5 w4.heap.size 35 [.int .i64 ak,.int .i64 an,.string sa]:=hw5▸Blk.new w4 _ _
   replace HT:=Lib.hid (HT.out.below hb5)
   obtain ⟨d0,d1,d2⟩:=three_cells hk5
   have hld:=hk5.lt
   have HW5:=Lib.hid hw5
   clear he4 hs4 hb5 hk5 hw5
   go_upto_region 8 with fail
   rw [HW5.out]
   by_cases he0:ae=0
   ·skip
    have t1:(ae != 0)=false:=by simp [he0]
    have hq:=HO.out
    rw [if_neg (by simp [he0])] at hq
    have HO2:=Lib.hid hq
    clear HO hq he0
    have hbm:Below w5.heap.size w5 (w5.alloc (.cells #[.int .i64 ak,.int .i64 an,.string sa] 35)):=(Below.refl _ _).alloc (Nat.le_refl _) _
    have hown:=(HT.out.below hbm).ow.own
    have hsm:=one_val w5 ak an sa
    have HBM:=Lib.hid hbm
    clear hbm
    have hacn:acc.length≤1000:=by have:=HCL.out;omega
    go_wp2_with (at_builtin;refine wpList_app rfl _ _ rfl elemValE (by rfl) hown (by rfl) hsm (by unfold maxLen;omega) (by omega) ?_;intro v1 wA g1 g2 g3 g4 g5;refine Stp.go ?_)
    refine ⟨?_⟩
    have hA:=AllSt.push (a:=⟨ak,an,sa⟩) H0.out HT.out HBM.out g1 g2 g3
    obtain ⟨p1,c1',rfl,hc11,hc12⟩:=own_form hA.ow.own
    have HA:=Lib.hid hA
    clear g1 g2 g3 g4 g5 hown hsm hA d0 d1 d2 hld
    go_wp2
    go_roundw
    case rel=>exact ⟨j+1,f4,v4,acc++[⟨ak,an,sa⟩],by go_num,by omega,HA.out,by rw [List.length_append,HCL.out];rfl,HO2.out⟩
    case measure=>(simp [intOf])<;>omega
   ·skip
    have t1:(ae != 0)=true:=by simp [he0]
    have hq:=HO.out
    rw [if_pos he0] at hq
    clear HO he0
    cases hq
    go_wp2
    go_ret2
    exact ⟨v4,.slice none 0 0,rfl,HT.out.env,HT.out.st,⟨Own.nil _ _ _,by simp [Value.ownBlock]⟩⟩
  ·skip
   have hje:j=xs.length:=by omega
   rw [hje,List.drop_eq_nil_of_le (Nat.le_refl _)] at hall
   unfold allS at hall
   clear hje
   cases hall
   go_wp2
   go_ret2
   exact ⟨vj,_,rfl,HT.out⟩
def plainV (a:AV):AV:=if a.kind=3∧a.n≠0∧a.n≠1 then ⟨a.kind,1,a.s⟩ else a
theorem plain_val (w:World) (a:AV):Calls Tryz.prog 21 #[.agg #[.int .i64 a.kind,.int .i64 a.n,.string a.s]] w (ValOut w (plainV a)):=by
 obtain ⟨k,n,s⟩:=a
 simp only
 obtain ⟨w1,hw1⟩:∃ w1,w.alloc (.cells #[.int .i64 k,.int .i64 n,.string s] 35)=w1:=⟨_,rfl⟩
 have hb1:Below w.heap.size w w1:=hw1▸(Below.refl _ _).alloc (Nat.le_refl _) _
 have hk1:Blk w1 w.heap.size 35 [.int .i64 k,.int .i64 n,.string s]:=hw1▸Blk.new w _ _
 obtain ⟨w2,hw2⟩:∃ w2,w1.alloc (.cells #[.int .i64 0,.int .i64 0,.string ⟨#[]⟩] 35)=w2:=⟨_,rfl⟩
 have hb2:Below w1.heap.size w1 w2:=hw2▸(Below.refl _ _).alloc (Nat.le_refl _) _
 have hk2:Blk w2 w1.heap.size 35 [.int .i64 0,.int .i64 0,.string ⟨#[]⟩]:=hw2▸Blk.new w1 _ _
 have hk12:=hk1.below hb2
 have hsz:=hk1.lt
 have HB:=Lib.hid (hb1.trans (hb2.mono hb1.size))
 have HK1:=Lib.hid hk12
 obtain ⟨e0,e1,e2⟩:=three_cells hk12
 have hfx:∀ i,w2.frozen? ⟨w.heap.size,i,none⟩=false:=hk12.frozen
 have hl1:=hk12.lt
 obtain ⟨out,hout⟩:∃ out,plainV ⟨k,n,s⟩=out:=⟨_,rfl⟩
 rw [hout]
 unfold plainV at hout
 simp only at hout
 have HO:=Lib.hid hout
 clear hb1 hk1 hb2 hk12 hout
 go_enter Tryz.func21,Tryz.ntmps21
 by_cases h3:k=3
 ·have t3:(k == 3)=true:=by simp [h3]
  by_cases h0:n=0
  ·have t0:(n != 0)=false:=by simp [h0]
   have hq:=HO.out
   rw [if_neg (fun h=>h.2.1 h0)] at hq
   subst hq
   clear HO h3 h0
   obtain ⟨z0,z1,z2⟩:=three_cells hk2
   have hfr:∀ i,w2.frozen? ⟨w1.heap.size,i,none⟩=false:=hk2.frozen
   have hlk:=hk2.lt
   have HK2:=Lib.hid hk2
   clear hk2
   go_wp2
   obtain ⟨hkE,hoE⟩:=set_threeE HK2.out (.int .i64 k) (.int .i64 n) (.string s)
   generalize ((w2.setCell ⟨w1.heap.size,0,none⟩ (.int .i64 k)).setCell ⟨w1.heap.size,1,none⟩ (.int .i64 n)).setCell ⟨w1.heap.size,2,none⟩ (.string s)=wE at *
   obtain ⟨m0,m1,m2⟩:=three_cells hkE
   exact bodyPost_ret (v:=.agg #[.int .i64 k,.int .i64 n,.string s]) (by simp [results,Tryz.results21,go_sem,m0,m1,m2]) rfl ⟨rfl,HB.out.trans (hoE.below HB.out.size (fun q hq=>by omega))⟩
  ·have t0:(n != 0)=true:=by simp [h0]
   by_cases h1:n=1
   ·have t1:(n != 1)=false:=by simp [h1]
    have hq:=HO.out
    rw [if_neg (fun h=>h.2.2 h1)] at hq
    subst hq
    clear HO h3 h0 h1
    obtain ⟨z0,z1,z2⟩:=three_cells hk2
    have hfr:∀ i,w2.frozen? ⟨w1.heap.size,i,none⟩=false:=hk2.frozen
    have hlk:=hk2.lt
    have HK2:=Lib.hid hk2
    clear hk2
    go_wp2
    obtain ⟨hkE,hoE⟩:=set_threeE HK2.out (.int .i64 k) (.int .i64 n) (.string s)
    generalize ((w2.setCell ⟨w1.heap.size,0,none⟩ (.int .i64 k)).setCell ⟨w1.heap.size,1,none⟩ (.int .i64 n)).setCell ⟨w1.heap.size,2,none⟩ (.string s)=wE at *
    obtain ⟨m0,m1,m2⟩:=three_cells hkE
    exact bodyPost_ret (v:=.agg #[.int .i64 k,.int .i64 n,.string s]) (by simp [results,Tryz.results21,go_sem,m0,m1,m2]) rfl ⟨rfl,HB.out.trans (hoE.below HB.out.size (fun q hq=>by omega))⟩
   ·skip
    have t1:(n != 1)=true:=by simp [h1]
    have hq:=HO.out
    rw [if_pos ⟨h3,h0,h1⟩] at hq
    subst hq
    clear HO h3 h0 h1
    have hk3:=HK1.out.set 1 (.int .i64 1)
    simp only [List.set_cons_zero,List.set_cons_succ] at hk3
    have hk23:=hk2.only ((Only.refl (fun q=>q=w.heap.size) w2).setCell (p:=⟨w.heap.size,1,none⟩) (fun _=>rfl) (.int .i64 1)) (fun e=>by omega)
    obtain ⟨w3,hw3⟩:∃ w3,w2.setCell ⟨w.heap.size,1,none⟩ (.int .i64 1)=w3:=⟨_,rfl⟩
    have hb3:Below w.heap.size w w3:=hw3▸HB.out.setCell (p:=⟨w.heap.size,1,none⟩) (Nat.le_refl _) _
    rw [hw3] at hk3 hk23
    have HB3:=Lib.hid hb3
    have HK2:=Lib.hid hk23
    have HW3:=Lib.hid hw3
    clear HB hb3 hk2 hw3
    go_upto_region 3 with fail
    rw [HW3.out]
    clear e0 e1 e2 hfx hl1
    obtain ⟨e0,e1,e2⟩:=three_cells hk3
    have hl1:=hk3.lt
    obtain ⟨z0,z1,z2⟩:=three_cells hk23
    have hfr:∀ i,w3.frozen? ⟨w1.heap.size,i,none⟩=false:=hk23.frozen
    have hlk:=hk23.lt
    clear hk3 hk23
    go_wp2
    obtain ⟨hkE,hoE⟩:=set_threeE HK2.out (.int .i64 k) (.int .i64 1) (.string s)
    generalize ((w3.setCell ⟨w1.heap.size,0,none⟩ (.int .i64 k)).setCell ⟨w1.heap.size,1,none⟩ (.int .i64 1)).setCell ⟨w1.heap.size,2,none⟩ (.string s)=wE at *
    obtain ⟨m0,m1,m2⟩:=three_cells hkE
    exact bodyPost_ret (v:=.agg #[.int .i64 k,.int .i64 1,.string s]) (by simp [results,Tryz.results21,go_sem,m0,m1,m2]) rfl ⟨rfl,HB3.out.trans (hoE.below HB3.out.size (fun q hq=>by omega))⟩
 ·have t3:(k == 3)=false:=by simp [h3]
  have hq:=HO.out
  rw [if_neg (fun h=>h3 h.1)] at hq
  subst hq
  clear HO h3
  obtain ⟨z0,z1,z2⟩:=three_cells hk2
  have hfr:∀ i,w2.frozen? ⟨w1.heap.size,i,none⟩=false:=hk2.frozen
  have hlk:=hk2.lt
  have HK2:=Lib.hid hk2
  clear hk2
  go_wp2
  obtain ⟨hkE,hoE⟩:=set_threeE HK2.out (.int .i64 k) (.int .i64 n) (.string s)
  generalize ((w2.setCell ⟨w1.heap.size,0,none⟩ (.int .i64 k)).setCell ⟨w1.heap.size,1,none⟩ (.int .i64 n)).setCell ⟨w1.heap.size,2,none⟩ (.string s)=wE at *
  obtain ⟨m0,m1,m2⟩:=three_cells hkE
  exact bodyPost_ret (v:=.agg #[.int .i64 k,.int .i64 n,.string s]) (by simp [results,Tryz.results21,go_sem,m0,m1,m2]) rfl ⟨rfl,HB.out.trans (hoE.below HB.out.size (fun q hq=>by omega))⟩
theorem elemRowE:Elem Tryz.prog 49 42 1 24 (.slice none 0 0) :=
 ⟨Tryz.underlying49,by kernel_rfl,rfl,by omega,by intro u hu;simp [Value.cells] at hu;subst hu;rfl⟩
structure RowsP (w wr:World) (va:Value) (acc:List RowV):Prop where
 own:Own wr 42 1 va acc.length (rowVals acc)
 lo:∀ q,va.ownBlock=some q→w.heap.size≤q
 rows:∀ r∈acc,Sl wr (fun q=>w.heap.size≤q∧va.ownBlock≠some q) 3 r.v r.l.length (rowCells r.l)
 bel:Below w.heap.size w wr
theorem RowsP.below {w wr wr':World} {va:Value} {acc:List RowV} (h:RowsP w wr va acc) (hb:Below wr.heap.size wr wr'):RowsP w wr' va acc :=
 ⟨h.own.below hb,h.lo,fun r hr=>(h.rows r hr).below hb,h.bel.trans (hb.mono h.bel.size)⟩
theorem RowsP.push {w wr wm wA:World} {va v1:Value} {acc:List RowV} {r:RowV} (h:RowsP w wr va acc) (hb:Below wr.heap.size wr wm) (hr:Sl wm (fun q=>w.heap.size≤q∧va.ownBlock≠some q) 3 r.v r.l.length (rowCells r.l))
 (g1:Own wA 42 1 v1 (acc.length+1) (rowVals acc++[r.v])) (g2:Only (fun q=>va.ownBlock=some q) wm wA) (g3:v1.ownBlock=va.ownBlock∨v1.ownBlock=some wm.heap.size):RowsP w wA v1 (acc++[r]):=by
 have hm:=h.below hb
 have hsz:=hm.bel.size
 have hmv:∀ x:RowV,Sl wm (fun q=>w.heap.size≤q∧va.ownBlock≠some q) 3 x.v x.l.length (rowCells x.l)→Sl wA (fun q=>w.heap.size≤q∧v1.ownBlock≠some q) 3 x.v x.l.length (rowCells x.l):=fun x hx =>
  hx.mono g2.size (fun q hq hl=>g2.block q hl hq.2) (fun q hq hl=>⟨hq.1,fun e=>by
   rcases g3 with g3|g3
   ·exact hq.2 (g3.symm.trans e)
   ·have e2:wm.heap.size=q:=Option.some.inj (g3.symm.trans e)
    omega⟩)
 refine ⟨?_,fun q hq=>?_,fun x hx=>?_,hm.bel.trans (g2.below hsz (fun q hq=>hm.lo q hq))⟩
 ·rw [List.length_append,rowVals_append]
  exact g1
 ·rcases g3 with g3|g3
  ·exact hm.lo q (g3.symm.trans hq)
  ·have e:wm.heap.size=q:=Option.some.inj (g3.symm.trans hq)
   omega
 ·rcases List.mem_append.1 hx with hx|hx
  ·exact hmv x (hm.rows x hx)
  ·rw [List.mem_singleton.1 hx]
   exact hmv r hr
structure RowP (wo wr:World) (va:Value) (acc:List AV):Prop where
 own:Own wr 35 3 va acc.length (rowCells acc)
 lo:∀ q,va.ownBlock=some q→wo.heap.size≤q
 bel:Below wo.heap.size wo wr
theorem RowP.below {wo wr wr':World} {va:Value} {acc:List AV} (h:RowP wo wr va acc) (hb:Below wr.heap.size wr wr'):RowP wo wr' va acc :=
 ⟨h.own.below hb,h.lo,h.bel.trans (hb.mono h.bel.size)⟩
theorem RowP.push {wo wr wm wA:World} {va v1:Value} {acc:List AV} {a:AV} (h:RowP wo wr va acc) (hb:Below wr.heap.size wr wm)
 (g1:Own wA 35 3 v1 (acc.length+1) (rowCells acc++a.cells)) (g2:Only (fun q=>va.ownBlock=some q) wm wA) (g3:v1.ownBlock=va.ownBlock∨v1.ownBlock=some wm.heap.size):RowP wo wA v1 (acc++[a]):=by
 have hm:=h.below hb
 have hsz:=hm.bel.size
 refine ⟨?_,fun q hq=>?_,hm.bel.trans (g2.below hsz (fun q hq=>hm.lo q hq))⟩
 ·rw [List.length_append,show rowCells (acc++[a])=rowCells acc++a.cells by simp [rowCells]]
  exact g1
 ·rcases g3 with g3|g3
  ·exact hm.lo q (g3.symm.trans hq)
  ·have e:wm.heap.size=q:=Option.some.inj (g3.symm.trans hq)
   omega
def PlainsOut (w:World) (rows:List RowV) (e:Ending) (w':World):Prop :=
 ∃ va acc,e=.returned va∧RowsP w w' va acc∧acc.map RowV.l=rows.map (fun r=>r.l.map plainV)
theorem plains_any (w:World) (B:Nat→Prop) (v:Value) (rows:List RowV) (hr:RowsAt w B v rows) (hrl:rows.length≤1000) (hll:∀ r∈rows,r.l.length≤1000) :
 Calls Tryz.prog 22 #[v] w (PlainsOut w rows):=by
 obtain ⟨p,c,rfl,_,_⟩:=hr.1.form
 have H0:=Lib.hid hr
 have HLL:=Lib.hid hll
 clear hr hll
 go_enter Tryz.func22,Tryz.ntmps22
 go_wp2
 go_loopw [3,4] (fun va iv wr=>∃ (k:Nat) (acc:List RowV),iv=.int .i64 (k:Int)∧k≤rows.length∧RowsP w wr va acc∧acc.length=k∧acc.map RowV.l=(rows.take k).map (fun r=>r.l.map plainV)) (fun _ iv _=>rows.length - (intOf iv).toNat)
 case atStart=>exact ⟨0,[],rfl,Nat.zero_le _,⟨Own.nil _ _ _,by simp [Value.ownBlock],by simp,Below.refl _ _⟩,rfl,by simp⟩
 case round =>
  obtain ⟨k,acc,rfl,hk,hT,hacl,hacc⟩:=hrel
  obtain ⟨wo,rfl⟩:∃ wo:World,wo=wr:=⟨_,rfl⟩
  have HT:=Lib.hid hT
  have HCL:=Lib.hid hacl
  have HACC:=Lib.hid hacc
  obtain ⟨pa,ca,rfl,hca1,hca2⟩:=own_form hT.own
  clear hT hacl hacc
  by_cases hka:k < rows.length
  ·skip
   have hrb:=H0.out.below HT.out.bel
   obtain ⟨g,off,cap,hv,hce⟩:=hrb.at hka
   cases hv
   have hrow:=hrb.2 rows[k] (List.getElem_mem hka)
   have hlen:=HLL.out rows[k] (List.getElem_mem hka)
   have hnx:(rows.take (k+1)).map (fun r=>r.l.map plainV)=(rows.take k).map (fun r=>r.l.map plainV)++[rows[k].l.map plainV]:=by
    rw [List.take_succ_eq_append_getElem hka,List.map_append]
    rfl
   have hcell:∀ W,Below wo.heap.size wo W→W.cell? ⟨g,off+k,none⟩=some rows[k].v:=fun W hb=>by
    obtain ⟨g',off',cap',hv',hc'⟩:=(hrb.below hb).at hka
    cases hv'
    exact hc'
   obtain ⟨pr,cr,hrv,_,_⟩:=hrow.form
   rw [hrv] at hce hrow hcell
   clear hrv hrb
   have HCELL:=Lib.hid hcell
   clear hcell
   generalize rows[k].l=rl at *
   have HROW:=Lib.hid hrow
   have HNX:=Lib.hid hnx
   have hcl:acc.length≤1000:=by have:=HCL.out;omega
   clear hrow hnx
   go_wp2
   clear hce
   go_loopw [5,6] (fun vb iv wi=>∃ (i:Nat) (ac2:List AV),iv=.int .i64 (i:Int)∧i≤rl.length∧RowP wo wi vb ac2∧ac2.length=i∧ac2=(rl.take i).map plainV) (fun _ iv _=>rl.length - (intOf iv).toNat)
   case atStart=>exact ⟨0,[],rfl,Nat.zero_le _,⟨Own.nil _ _ _,by simp [Value.ownBlock],Below.refl _ _⟩,rfl,by simp⟩
   case round =>
    obtain ⟨i,ac2,rfl,hi,hS,hal,hac⟩:=hrel
    obtain ⟨wi,rfl⟩:∃ w2:World,w2=wr:=⟨_,rfl⟩
    have HS:=Lib.hid hS
    have HAL:=Lib.hid hal
    have HAC:=Lib.hid hac
    obtain ⟨pb,cb,rfl,hcb1,hcb2⟩:=own_form hS.own
    have hce:=HCELL.out wi hS.bel
    by_cases hia:i < rl.length
    ·skip
     obtain ⟨g2,off2,cap2,hv2,_,e0,e1,e2⟩:=sl_av (HROW.out.below hS.bel) hia
     cases hv2
     have hnx2:(rl.take (i+1)).map plainV=(rl.take i).map plainV++[plainV rl[i]]:=by
      rw [List.take_succ_eq_append_getElem hia,List.map_append]
      rfl
     generalize rl[i]=a at *
     have HNX2:=Lib.hid hnx2
     have HPV:=Lib.hid (plain_val wi a)
     have hal2:ac2.length≤1000:=by have:=HAL.out;omega
     clear hS hal hac hnx2
     go_wp2_with fail
     refine HPV.out.mono ?_
     clear HPV
     generalize plainV a=b at *
     obtain ⟨bk,bn,bs2⟩:=b
     rintro e w2 ⟨rfl,hb2⟩
     have hbm:Below w2.heap.size w2 (w2.alloc (.cells #[.int .i64 bk,.int .i64 bn,.string bs2] 35)):=(Below.refl _ _).alloc (Nat.le_refl _) _
     replace HS:=Lib.hid (HS.out.below hb2)
     have hown:=(HS.out.below hbm).own
     have hsm:=one_val w2 bk bn bs2
     have HBM:=Lib.hid hbm
     clear hbm hb2 e0 e1 e2 hce
     go_wp2_with (at_builtin;refine wpList_app rfl _ _ rfl elemValE (by rfl) hown (by rfl) hsm (by unfold maxLen;omega) (by omega) ?_;intro v1 wA g1 g2 g3 g4 g5;refine Stp.go ?_)
     refine ⟨?_⟩
     have hA:=RowP.push (a:=⟨bk,bn,bs2⟩) HS.out HBM.out g1 g2 g3
     obtain ⟨p1,c1',rfl,hc11,hc12⟩:=own_form hA.own
     have HA:=Lib.hid hA
     clear g1 g2 g3 g4 g5 hown hsm hA
     go_wp2
     go_roundw
     case rel=>exact ⟨i+1,ac2++[⟨bk,bn,bs2⟩],by go_num,by omega,HA.out,by rw [List.length_append,HAL.out];rfl,by rw [HNX2.out,HAC.out]⟩
     case measure=>(simp [intOf])<;>omega
    ·skip
     have hil:i=rl.length:=by omega
     rw [hil,List.take_length] at HAC
     clear hS hal hac hil
     have hbm:Below wi.heap.size wi (wi.alloc (.cells #[.slice pb ac2.length cb] 42)):=(Below.refl _ _).alloc (Nat.le_refl _) _
     have hlo:=HT.out.own.lt
     have hbl:=HT.out.bel.size
     replace HT:=Lib.hid (HT.out.below HS.out.bel)
     have hown:=(HT.out.below hbm).own
     have hrw:Sl (wi.alloc (.cells #[.slice pb ac2.length cb] 42)) (fun q=>w.heap.size≤q∧(Value.slice pa acc.length ca).ownBlock≠some q) 3 (.slice pb ac2.length cb) ac2.length (rowCells ac2):=(HS.out.own.sl (fun q hq=>by
      have h1:=HS.out.lo q hq
      exact ⟨by omega,fun e=>by have:=hlo q e;omega⟩)).below hbm
     have hsm:Sl (wi.alloc (.cells #[.slice pb ac2.length cb] 42)) (fun _=>True) 1 (.slice (some ⟨wi.heap.size,0,none⟩) 1 1) 1 [.slice pb ac2.length cb] :=
      (Own.made wi 42 1 [.slice pb ac2.length cb] [] 1 1 rfl (Ones.nil.cons rfl) (Nat.le_refl _) (by decide) (Nat.le_refl 1)).sl (fun _ _=>trivial)
     have HRW:=Lib.hid hrw
     have HBM:=Lib.hid hbm
     clear hbm hrw hlo hbl
     go_wp2_with (at_builtin;refine wpList_app rfl _ _ rfl elemRowE (by rfl) hown (by rfl) hsm (by unfold maxLen;omega) (by omega) ?_;intro v1 wA g1 g2 g3 g4 g5;refine Stp.go ?_)
     refine ⟨?_⟩
     have hA:=RowsP.push (r:=⟨.slice pb ac2.length cb,ac2⟩) HT.out HBM.out HRW.out g1 g2 g3
     obtain ⟨p1,c1',rfl,hc11,hc12⟩:=own_form hA.own
     have HA:=Lib.hid hA
     clear g1 g2 g3 g4 g5 hown hsm hA
     go_wp2
     go_roundw
     case rel=>exact ⟨k+1,acc++[⟨.slice pb ac2.length cb,ac2⟩],by go_num,by omega,HA.out,by rw [List.length_append,HCL.out];rfl,by rw [HNX.out,List.map_append,HACC.out,HAC.out];rfl⟩
     case measure=>(simp [intOf])<;>omega
  ·skip
   have hkl:k=rows.length:=by omega
   rw [hkl,List.take_length] at HACC
   clear hkl
   go_wp2
   go_ret
   exact ⟨_,acc,rfl,HT.out,HACC.out⟩
def greatRowsB (rows:List (List AV)):Bool:=decide (30 < rows.length) || rows.any greatB
theorem great_rows (w:World) (B:Nat→Prop) (v:Value) (rows:List RowV) (hl:RowsAt w B v rows) :
 Calls Tryz.prog 13 #[v] w fun e w'=>e=.returned (.bool (greatRowsB (rows.map RowV.l)))∧Below w.heap.size w w':=by
 obtain ⟨p,cap,rfl,hc1,hc2⟩:=hl.1.form
 have HL:=Lib.hid hl
 clear hl
 by_cases h30:30 < rows.length
 ·have e1:greatRowsB (rows.map RowV.l)=true:=by unfold greatRowsB;simp [h30]
  rw [e1]
  have d:decide ((30:Int) < rows.length)=true:=decide_eq_true (by omega)
  clear e1
  go_enter Tryz.func13,Tryz.ntmps13
  go_wp2
  go_ret
  exact ⟨rfl,Below.refl _ _⟩
 ·have d:decide ((30:Int) < rows.length)=false:=decide_eq_false (by omega)
  have hll:rows.length≤30:=by omega
  have HE:Hid (greatRowsB (rows.map RowV.l)=rows.any (fun r=>greatB r.l)):=by show _=_;unfold greatRowsB;rw [List.any_map];simp [h30];rfl
  go_enter Tryz.func13,Tryz.ntmps13
  go_wp2
  go_loopw [3] (fun i wr=>∃ k:Nat,i=.int .i64 k∧k≤rows.length∧(rows.take k).any (fun r=>greatB r.l)=false∧Below w.heap.size w wr) (fun i _=>rows.length - (intOf i).toNat)
  case atStart=>exact ⟨0,rfl,Nat.zero_le _,rfl,Below.refl _ _⟩
  case round =>
   obtain ⟨k,rfl,hk,hr,hb⟩:=hrel
   have HB:=Lib.hid hb
   have HR:=Lib.hid hr
   by_cases hka:k < rows.length
   ·obtain ⟨g,off,cap',hv,hck⟩:=(HL.out.below hb).at hka
    cases hv
    have hrow:=(HL.out.below hb).2 rows[k] (List.getElem_mem hka)
    have HX:Hid (∀ b,greatB rows[k].l=b→(rows.take (k+1)).any (fun r=>greatB r.l)=b):=fun b hb=>by
     rw [←List.take_append_getElem hka,List.any_append,hr]
     simp [←hb]
    have HY:Hid (greatB rows[k].l=true→rows.any (fun r=>greatB r.l)=true):=fun h=>by
     rw [List.any_eq_true]
     exact ⟨rows[k],List.getElem_mem hka,h⟩
    have HG:=Lib.hid (great_row _ _ _ _ hrow)
    clear hr hb hrow
    generalize rows[k]=x at *
    cases hx:greatB x.l
    ·rw [hx] at HG
     have HF:=Lib.hid (HX.out false hx)
     clear HX HY hx
     go_wp2_with (go_at_call 27;refine HG.out.mono ?_;rintro e w2 ⟨rfl,hb2⟩)
     go_roundw
     case rel=>exact ⟨k+1,by go_num,by omega,HF.out,HB.out.trans (hb2.mono HB.out.size)⟩
     case measure=>(simp [intOf])<;>omega
    ·rw [hx] at HG
     have HF:=Lib.hid (HY.out hx)
     clear HX HY hx
     go_wp2_with (go_at_call 27;refine HG.out.mono ?_;rintro e w2 ⟨rfl,hb2⟩)
     go_ret
     exact ⟨by rw [HE.out,HF.out];rfl,HB.out.trans (hb2.mono HB.out.size)⟩
   ·obtain rfl:k=rows.length:=by omega
    rw [List.take_length] at hr
    have HR2:=Lib.hid hr
    clear hr HR
    go_wp2
    go_ret
    exact ⟨by rw [HE.out,HR2.out];rfl,HB.out⟩
structure ThV where
 name:ByteArray
 is:Int
 val:AV
 cv:Value
 cols:List ColV
 rv:Value
 rows:List RowV
def ThV.cells (t:ThV):List Value:=[.string t.name,.int .i64 t.is,.int .i64 t.val.kind,.int .i64 t.val.n,.string t.val.s,t.cv,t.rv]
def thC (l:List ThV):List Value:=(l.map ThV.cells).flatten
theorem thC_len (l:List ThV):(thC l).length=l.length*7:=by
 induction l with
 | nil=>rfl
 | cons x t ih=>show (x.cells++thC t).length=_;rw [List.length_append,ih,List.length_cons];show 7+_=_;omega
theorem thC_at (l:List ThV) (k r:Nat) (hk:k < l.length) (hr:r < 7):(thC l)[k*7+r]?=(l[k].cells)[r]?:=by
 induction l generalizing k with
 | nil=>simp at hk
 | cons x t ih =>
  show (x.cells++thC t)[k*7+r]?=_
  cases k with
  | zero=>rw [Nat.zero_mul,Nat.zero_add,List.getElem?_append_left (show r < 7 from hr)];rfl
  | succ k =>
   rw [List.getElem?_append_right (by show 7≤_;omega),show (k+1)*7+r - x.cells.length=k*7+r by show (k+1)*7+r - 7=_;omega]
   exact ih k (by simpa using hk)
structure ThAt (w:World) (B:Nat→Prop) (t:ThV):Prop where
 cols:Sl w B 2 t.cv t.cols.length (colCells t.cols)
 rows:RowsAt w B t.rv t.rows
 val:t.val.ok
 rok:∀ r∈t.rows,∀ v∈r.l,v.ok
 nms:∀ c∈t.cols,c.name.size≤maxLen
 nm:t.name.size≤maxLen
theorem ThAt.below {w w':World} {B:Nat→Prop} {t:ThV} (h:ThAt w B t) (hb:Below w.heap.size w w'):ThAt w' B t :=
 ⟨h.cols.below hb,h.rows.below hb,h.val,h.rok,h.nms,h.nm⟩
structure ThsAt (w:World) (B:Nat→Prop) (v:Value) (l:List ThV):Prop where
 sl:Sl w B 7 v l.length (thC l)
 th:∀ t∈l,ThAt w B t
theorem ThsAt.below {w w':World} {B:Nat→Prop} {v:Value} {l:List ThV} (h:ThsAt w B v l) (hb:Below w.heap.size w w'):ThsAt w' B v l :=
 ⟨h.sl.below hb,fun t ht=>(h.th t ht).below hb⟩
theorem th_place {w:World} {B:Nat→Prop} {v:Value} {l:List ThV} (h:Sl w B 7 v l.length (thC l)) {k:Nat} (hk:k < l.length) :
 ∃ g off cap,v=.slice (some ⟨g,off,none⟩) l.length cap∧g < w.heap.size∧w.cell? ⟨g,off+k*7,none⟩=some (.string l[k].name)∧w.cell? ⟨g,off+k*7+1,none⟩=some (.int .i64 l[k].is)∧w.cell? ⟨g,off+k*7+2,none⟩=some (.int .i64 l[k].val.kind) ∧
  w.cell? ⟨g,off+k*7+3,none⟩=some (.int .i64 l[k].val.n)∧w.cell? ⟨g,off+k*7+4,none⟩=some (.string l[k].val.s)∧w.cell? ⟨g,off+k*7+5,none⟩=some l[k].cv∧w.cell? ⟨g,off+k*7+6,none⟩=some l[k].rv:=by
 obtain ⟨g,off,cap,hv,_,_,_,hg,hcs⟩:=h.place (by omega)
 have h0:∀ r,r < 7→w.cell? ⟨g,off+(k*7+r),none⟩=(l[k].cells)[r]?:=fun r hr=>by rw [hcs _ (by rw [thC_len];omega),thC_at l k r hk hr]
 exact ⟨g,off,cap,hv,hg,h0 0 (by omega),h0 1 (by omega),h0 2 (by omega),h0 3 (by omega),h0 4 (by omega),h0 5 (by omega),h0 6 (by omega)⟩
def greatTh (t:ThV):Bool:=greatRowsB (t.rows.map RowV.l) || (decide (12 < t.cols.length) || decide (300 < t.val.s.size))
def greatThs (l:List ThV) (fuel:Int):Bool:=decide (12 < l.length) || (decide (3000 < fuel) || l.any greatTh)
theorem great16_any (w:World) (B:Nat→Prop) (v:Value) (l:List ThV) (fuel:Int) (h:ThsAt w B v l) :
 Calls Tryz.prog 5 #[v,.int .i64 fuel] w fun e w'=>e=.returned (.bool (greatThs l fuel))∧Below w.heap.size w w':=by
 obtain ⟨p,cap,rfl,hc1,hc2⟩:=h.sl.form
 have HL:=Lib.hid h
 clear h
 by_cases h12:12 < l.length
 ·have e1:greatThs l fuel=true:=by unfold greatThs;simp [h12]
  rw [e1]
  have d:decide ((12:Int) < l.length)=true:=decide_eq_true (by omega)
  clear e1
  go_enter Tryz.func5,Tryz.ntmps5
  go_wp2
  go_ret
  exact ⟨rfl,Below.refl _ _⟩
 have d:decide ((12:Int) < l.length)=false:=decide_eq_false (by omega)
 by_cases hf:3000 < fuel
 ·have e1:greatThs l fuel=true:=by unfold greatThs;simp [hf]
  rw [e1]
  have d2:decide ((3000:Int) < fuel)=true:=decide_eq_true (by omega)
  clear e1 hf
  go_enter Tryz.func5,Tryz.ntmps5
  go_wp2
  go_ret
  exact ⟨rfl,Below.refl _ _⟩
 have d2:decide ((3000:Int) < fuel)=false:=decide_eq_false (by omega)
 have HE:Hid (greatThs l fuel=l.any greatTh):=by show _=_;unfold greatThs;simp [h12,hf]
 clear hf
 go_enter Tryz.func5,Tryz.ntmps5
 go_wp2
 clear d d2
 go_loopw [5] (fun i wr=>∃ k:Nat,i=.int .i64 k∧k≤l.length∧(l.take k).any greatTh=false∧Below w.heap.size w wr) (fun i _=>l.length - (intOf i).toNat)
 case atStart=>exact ⟨0,rfl,Nat.zero_le _,rfl,Below.refl _ _⟩
 case round =>
  obtain ⟨k,rfl,hk,hr,hb⟩:=hrel
  have HB:=Lib.hid hb
  have HR:=Lib.hid hr
  by_cases hka:k < l.length
  ·have hx:=(HL.out.th l[k] (List.getElem_mem hka)).below hb
   obtain ⟨g,off,cap',hv,hg,e0,e1,e2,e3,e4,e5,e6⟩:=th_place (HL.out.below hb).sl hka
   cases hv
   have HX:Hid (∀ b,greatTh l[k]=b→(l.take (k+1)).any greatTh=b):=fun b hb=>by
    rw [←List.take_append_getElem hka,List.any_append,hr]
    simp [←hb]
   have HY:Hid (greatTh l[k]=true→l.any greatTh=true):=fun h=>by
    rw [List.any_eq_true]
    exact ⟨l[k],List.getElem_mem hka,h⟩
   generalize l[k]=t at *
   obtain ⟨pr,cr,hrv,_,_⟩:=hx.rows.1.form
   obtain ⟨pc,cc,hcv,_,_⟩:=hx.cols.form
   have HG:=Lib.hid (great_rows wr _ _ _ hx.rows)
   rw [hrv] at e6 HG
   rw [hcv] at e5
   have e4':wr.cell? ⟨g,off+k*7+2+2,none⟩=some (.string t.val.s):=e4
   have hnx:∀ w2,Below wr.heap.size wr w2→w2.cell? ⟨g,off+k*7+5,none⟩=some (.slice pc t.cols.length cc)∧w2.cell? ⟨g,off+k*7+2+2,none⟩=some (.string t.val.s):=fun w2 h2 =>
    ⟨by rw [World.cell?_of_block (w:=wr) (h2.block g hg)];exact e5,by rw [World.cell?_of_block (w:=wr) (h2.block g hg)];exact e4'⟩
   have HNX:=Lib.hid hnx
   clear hr hb hx hrv hcv e0 e1 e2 e3 e4 e5 e4' hnx
   cases hx:greatRowsB (t.rows.map RowV.l)
   ·rw [hx] at HG
    go_upto_region 6 with fail
    go_wp2_with fail
    refine HG.out.mono ?_
    clear HG
    rintro e w2 ⟨rfl,hb2⟩
    obtain ⟨f5,f4⟩:=HNX.out w2 hb2
    clear HNX
    by_cases hc:12 < t.cols.length
    ·have d:decide ((12:Int) < t.cols.length)=true:=decide_eq_true (by omega)
     go_wp2
     go_ret
     exact ⟨by rw [HE.out,HY.out (by unfold greatTh;simp [hc])];rfl,HB.out.trans (hb2.mono HB.out.size)⟩
    have d:decide ((12:Int) < t.cols.length)=false:=decide_eq_false (by omega)
    by_cases hs:300 < t.val.s.size
    ·have d2:decide ((300:Int) < t.val.s.size)=true:=decide_eq_true (by omega)
     go_wp2
     go_ret
     exact ⟨by rw [HE.out,HY.out (by unfold greatTh;simp [hs])];rfl,HB.out.trans (hb2.mono HB.out.size)⟩
    have d2:decide ((300:Int) < t.val.s.size)=false:=decide_eq_false (by omega)
    have HF:=Lib.hid (HX.out false (by unfold greatTh;simp [hx,hc,hs]))
    clear HX HY hx
    go_wp2
    go_roundw
    case rel=>exact ⟨k+1,by go_num,by omega,HF.out,HB.out.trans (hb2.mono HB.out.size)⟩
    case measure=>(simp [intOf])<;>omega
   ·rw [hx] at HG
    go_wp2_with (go_at_call 13;refine HG.out.mono ?_;rintro e w2 ⟨rfl,hb2⟩)
    go_ret
    exact ⟨by rw [HE.out,HY.out (by unfold greatTh;simp [hx])];rfl,HB.out.trans (hb2.mono HB.out.size)⟩
  ·obtain rfl:k=l.length:=by omega
   rw [List.take_length] at hr
   have HR2:=Lib.hid hr
   clear hr HR
   go_wp2
   go_ret
   exact ⟨by rw [HE.out,HR2.out];rfl,HB.out⟩
theorem small16 {l:List ThV} {fuel:Int} (h:greatThs l fuel=false):l.length≤12∧fuel≤3000∧∀ t∈l,t.rows.length≤1000∧∀ r∈t.rows,r.l.length≤1000:=by
 unfold greatThs at h
 simp only [Bool.or_eq_false_iff,decide_eq_false_iff_not,List.any_eq_false] at h
 refine ⟨by omega,by omega,fun t ht=>?_⟩
 have h1:=h.2.2 t ht
 unfold greatTh greatRowsB at h1
 simp only [Bool.or_eq_true,decide_eq_true_eq,List.any_eq_true,List.length_map,List.mem_map,not_or] at h1
 refine ⟨by omega,fun r hr=>?_⟩
 have h2:¬ greatB r.l=true:=fun e=>h1.1.2 ⟨r.l,⟨r,hr,rfl⟩,e⟩
 unfold greatB at h2
 simp only [Bool.or_eq_true,decide_eq_true_eq,not_or] at h2
 omega
end Go.Proofs.YtnpplhkpnbonaaaGreat
