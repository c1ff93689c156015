/- Contracts of the functions that the statement reaches, one behind the other. No condition beyond each theorem's own. -/
import Derived.Test.YtnpplhkpnbonaaaGreatTV3
set_option linter.unusedSimpArgs false
set_option linter.unusedVariables false
set_option maxRecDepth 100000
set_option maxHeartbeats 4000000
namespace Go.Proofs.YtnpplhkpnbonaaaGreat
open Go.RowKit Go.Afx
theorem compared_any (w:World) (op:Int) (a b:AV) :
 Calls Tryz.prog 79 #[.int .i64 op,.agg #[.int .i64 a.kind,.int .i64 a.n,.string a.s],.agg #[.int .i64 b.kind,.int .i64 b.n,.string b.s]] w (PairOut w (cmpA op a b 0).1 (cmpA op a b 0).2.1):=by
 obtain ⟨⟨x,e',f'⟩,hA⟩:∃ q,cmpA op a b 0=q:=⟨_,rfl⟩
 rw [hA]
 unfold cmpA at hA
 have hC:=cmp_val
 unfold AV.agg at hC
 have HC0:=Lib.hid (fun W=>hC W a b)
 clear hC
 obtain ⟨c,hc⟩:∃ c,cmpV a b=c:=⟨_,rfl⟩
 rw [hc] at hA HC0
 obtain ⟨ak,an,sa⟩:=a
 obtain ⟨bk,bn,sc⟩:=b
 simp only at hA HC0 ⊢
 obtain ⟨w0,hw0⟩:∃ w0,w.alloc (.cells #[.int .i64 ak,.int .i64 an,.string sa] 35)=w0:=⟨_,rfl⟩
 have hb0:Below w.heap.size w w0:=hw0▸(Below.refl _ _).alloc (Nat.le_refl _) _
 have hk0:Blk w0 w.heap.size 35 [.int .i64 ak,.int .i64 an,.string sa]:=hw0▸Blk.new w _ _
 obtain ⟨w2,hw2⟩:∃ w2,w0.alloc (.cells #[.int .i64 bk,.int .i64 bn,.string sc] 35)=w2:=⟨_,rfl⟩
 have hb2:Below w0.heap.size w0 w2:=hw2▸(Below.refl _ _).alloc (Nat.le_refl _) _
 have hk2:Blk w2 w0.heap.size 35 [.int .i64 bk,.int .i64 bn,.string sc]:=hw2▸Blk.new w0 _ _
 obtain ⟨w3,hw3⟩:∃ w3,w2.alloc (.cells #[.int .i64 0,.int .i64 0,.string ⟨#[]⟩] 35)=w3:=⟨_,rfl⟩
 have hb3:Below w2.heap.size w2 w3:=hw3▸(Below.refl _ _).alloc (Nat.le_refl _) _
 have hk3:Blk w3 w2.heap.size 35 [.int .i64 0,.int .i64 0,.string ⟨#[]⟩]:=hw3▸Blk.new w2 _ _
 have hsz:w.heap.size≤w2.heap.size:=Nat.le_trans hb0.size hb2.size
 have HB:=Lib.hid (hb0.trans ((hb2.trans (hb3.mono hb2.size)).mono hb0.size))
 have HK:=Lib.hid hk3
 have hka:=(hk0.below hb2).below hb3
 have HKA:=Lib.hid hka
 obtain ⟨a0,a1,a2⟩:=three_cells hka
 obtain ⟨b0,b1,b2⟩:=three_cells (hk2.below hb3)
 have hla:=hka.lt
 have hlb:=(hk2.below hb3).lt
 clear hb0 hk0 hb2 hk2 hb3 hk3 hka
 go_enter Tryz.func79,Tryz.ntmps79
 go_wp2_with fail
 clear hw0 hw2 hw3 a0 a1 a2 b0 b1 b2 hla hlb
 refine (HC0.out _).mono ?_
 clear HC0 hc
 rintro r w4 ⟨rfl,hb4⟩
 have hka:=HKA.out.below hb4
 replace HB:=Lib.hid (HB.out.trans (hb4.mono HB.out.size))
 replace HK:=Lib.hid (HK.out.below hb4)
 obtain ⟨a0,a1,a2⟩:=three_cells hka
 have hla:=hka.lt
 clear hb4 hka HKA
 by_cases o1:op=11
 ·skip
  rw [if_pos o1] at hA
  unfold boolA at hA
  subst o1
  have hA:((⟨3,if (c == 0) then 1 else 0,⟨#[]⟩⟩:AV),(0:Int),0)=(x,e',f'):=by rw [←hA];by_cases h:c=0<;>simp [h]
  have HN:Hid (∀ W,Calls Tryz.prog 46 #[.bool (c == 0)] W (ValOut W x)):=Lib.hid fun W=>by
   have h0:=bool_e W (c == 0)
   rw [show (⟨3,if c == 0 then 1 else 0,⟨#[]⟩⟩:AV)=x from congrArg Prod.fst hA] at h0
   exact h0
  have he:e'=0:=(congrArg (fun q=>q.2.1) hA).symm
  subst he
  clear hA
  go_wp2_with fail
  refine (HN.out _).mono ?_
  clear HN
  rintro r w5 ⟨rfl,hb5⟩
  replace HB:=Lib.hid (HB.out.trans (hb5.mono HB.out.size))
  have hk5:=HK.out.below hb5
  replace HK:=Lib.hid hk5
  clear a0 a1 a2 hla
  obtain ⟨z0,z1,z2⟩:=three_cells hk5
  have hfr:=fun i=>hk5.frozen i
  have hlk:=hk5.lt
  clear hb5 hk5
  go_wp2
  obtain ⟨hkE,hoE⟩:=set_threeE HK.out (.int .i64 x.kind) (.int .i64 x.n) (.string x.s)
  generalize ((w5.setCell ⟨w2.heap.size,0,none⟩ (.int .i64 x.kind)).setCell ⟨w2.heap.size,1,none⟩ (.int .i64 x.n)).setCell ⟨w2.heap.size,2,none⟩ (.string x.s)=wE at *
  obtain ⟨m0,m1,m2⟩:=three_cells hkE
  exact bodyPost_ret (v:=.tuple #[.agg #[.int .i64 x.kind,.int .i64 x.n,.string x.s],.int .i64 0]) (by simp [results,Tryz.results79,go_sem,m0,m1,m2]) rfl ⟨rfl,HB.out.trans (hoE.below HB.out.size (fun q hq=>by omega))⟩
 rw [if_neg o1] at hA
 have t1:(op == 11)=false:=by simp [o1]
 by_cases o2:op=12
 ·skip
  rw [if_pos o2] at hA
  unfold boolA at hA
  subst o2
  have hA:((⟨3,if (c != 0) then 1 else 0,⟨#[]⟩⟩:AV),(0:Int),0)=(x,e',f'):=by rw [←hA];by_cases h:c=0<;>simp [h]
  have HN:Hid (∀ W,Calls Tryz.prog 46 #[.bool (c != 0)] W (ValOut W x)):=Lib.hid fun W=>by
   have h0:=bool_e W (c != 0)
   rw [show (⟨3,if c != 0 then 1 else 0,⟨#[]⟩⟩:AV)=x from congrArg Prod.fst hA] at h0
   exact h0
  have he:e'=0:=(congrArg (fun q=>q.2.1) hA).symm
  subst he
  clear hA
  go_wp2_with fail
  refine (HN.out _).mono ?_
  clear HN
  rintro r w5 ⟨rfl,hb5⟩
  replace HB:=Lib.hid (HB.out.trans (hb5.mono HB.out.size))
  have hk5:=HK.out.below hb5
  replace HK:=Lib.hid hk5
  clear a0 a1 a2 hla
  obtain ⟨z0,z1,z2⟩:=three_cells hk5
  have hfr:=fun i=>hk5.frozen i
  have hlk:=hk5.lt
  clear hb5 hk5
  go_wp2
  obtain ⟨hkE,hoE⟩:=set_threeE HK.out (.int .i64 x.kind) (.int .i64 x.n) (.string x.s)
  generalize ((w5.setCell ⟨w2.heap.size,0,none⟩ (.int .i64 x.kind)).setCell ⟨w2.heap.size,1,none⟩ (.int .i64 x.n)).setCell ⟨w2.heap.size,2,none⟩ (.string x.s)=wE at *
  obtain ⟨m0,m1,m2⟩:=three_cells hkE
  exact bodyPost_ret (v:=.tuple #[.agg #[.int .i64 x.kind,.int .i64 x.n,.string x.s],.int .i64 0]) (by simp [results,Tryz.results79,go_sem,m0,m1,m2]) rfl ⟨rfl,HB.out.trans (hoE.below HB.out.size (fun q hq=>by omega))⟩
 rw [if_neg o2] at hA
 have t2:(op == 12)=false:=by simp [o2]
 by_cases k3:ak=3
 ·skip
  rw [if_pos k3] at hA
  unfold wrongA zeroA at hA
  cases hA
  subst k3
  have HC:=Lib.hid (wrong_e w4 13)
  go_wp2_with fail
  refine HC.out.mono ?_
  clear HC a0 a1 a2 hla
  rintro r w5 ⟨rfl,hb5⟩
  unfold zeroA
  replace HB:=Lib.hid (HB.out.trans (hb5.mono HB.out.size))
  have hk5:=HK.out.below hb5
  replace HK:=Lib.hid hk5
  obtain ⟨z0,z1,z2⟩:=three_cells hk5
  have hfr:=fun i=>hk5.frozen i
  have hlk:=hk5.lt
  clear hb5 hk5
  go_wp2
  obtain ⟨hkE,hoE⟩:=set_threeE HK.out (.int .i64 0) (.int .i64 0) (.string ⟨#[]⟩)
  generalize ((w5.setCell ⟨w2.heap.size,0,none⟩ (.int .i64 0)).setCell ⟨w2.heap.size,1,none⟩ (.int .i64 0)).setCell ⟨w2.heap.size,2,none⟩ (.string ⟨#[]⟩)=wE at *
  obtain ⟨m0,m1,m2⟩:=three_cells hkE
  exact bodyPost_ret (v:=.tuple #[.agg #[.int .i64 0,.int .i64 0,.string ⟨#[]⟩],.int .i64 13]) (by simp [results,Tryz.results79,go_sem,m0,m1,m2]) rfl ⟨rfl,HB.out.trans (hoE.below HB.out.size (fun q hq=>by omega))⟩
 rw [if_neg k3] at hA
 have t3:(ak == 3)=false:=by simp [k3]
 unfold boolA at hA
 by_cases o4:op=13
 ·skip
  rw [if_pos o4] at hA
  subst o4
  have HN:Hid (∀ W,Calls Tryz.prog 46 #[.bool (decide (c < 0))] W (ValOut W x)):=Lib.hid fun W=>by
   have h0:=bool_e W (decide (c < 0))
   rw [show (⟨3,if decide (c < 0) then 1 else 0,⟨#[]⟩⟩:AV)=x from congrArg Prod.fst hA] at h0
   exact h0
  have he:e'=0:=(congrArg (fun q=>q.2.1) hA).symm
  subst he
  clear hA
  go_wp2_with fail
  refine (HN.out _).mono ?_
  clear HN
  rintro r w5 ⟨rfl,hb5⟩
  replace HB:=Lib.hid (HB.out.trans (hb5.mono HB.out.size))
  have hk5:=HK.out.below hb5
  replace HK:=Lib.hid hk5
  clear a0 a1 a2 hla
  obtain ⟨z0,z1,z2⟩:=three_cells hk5
  have hfr:=fun i=>hk5.frozen i
  have hlk:=hk5.lt
  clear hb5 hk5
  go_wp2
  obtain ⟨hkE,hoE⟩:=set_threeE HK.out (.int .i64 x.kind) (.int .i64 x.n) (.string x.s)
  generalize ((w5.setCell ⟨w2.heap.size,0,none⟩ (.int .i64 x.kind)).setCell ⟨w2.heap.size,1,none⟩ (.int .i64 x.n)).setCell ⟨w2.heap.size,2,none⟩ (.string x.s)=wE at *
  obtain ⟨m0,m1,m2⟩:=three_cells hkE
  exact bodyPost_ret (v:=.tuple #[.agg #[.int .i64 x.kind,.int .i64 x.n,.string x.s],.int .i64 0]) (by simp [results,Tryz.results79,go_sem,m0,m1,m2]) rfl ⟨rfl,HB.out.trans (hoE.below HB.out.size (fun q hq=>by omega))⟩
 rw [if_neg o4] at hA
 have t4:(op == 13)=false:=by simp [o4]
 by_cases o5:op=14
 ·skip
  rw [if_pos o5] at hA
  subst o5
  have HN:Hid (∀ W,Calls Tryz.prog 46 #[.bool (decide (c≤0))] W (ValOut W x)):=Lib.hid fun W=>by
   have h0:=bool_e W (decide (c≤0))
   rw [show (⟨3,if decide (c≤0) then 1 else 0,⟨#[]⟩⟩:AV)=x from congrArg Prod.fst hA] at h0
   exact h0
  have he:e'=0:=(congrArg (fun q=>q.2.1) hA).symm
  subst he
  clear hA
  go_wp2_with fail
  refine (HN.out _).mono ?_
  clear HN
  rintro r w5 ⟨rfl,hb5⟩
  replace HB:=Lib.hid (HB.out.trans (hb5.mono HB.out.size))
  have hk5:=HK.out.below hb5
  replace HK:=Lib.hid hk5
  clear a0 a1 a2 hla
  obtain ⟨z0,z1,z2⟩:=three_cells hk5
  have hfr:=fun i=>hk5.frozen i
  have hlk:=hk5.lt
  clear hb5 hk5
  go_wp2
  obtain ⟨hkE,hoE⟩:=set_threeE HK.out (.int .i64 x.kind) (.int .i64 x.n) (.string x.s)
  generalize ((w5.setCell ⟨w2.heap.size,0,none⟩ (.int .i64 x.kind)).setCell ⟨w2.heap.size,1,none⟩ (.int .i64 x.n)).setCell ⟨w2.heap.size,2,none⟩ (.string x.s)=wE at *
  obtain ⟨m0,m1,m2⟩:=three_cells hkE
  exact bodyPost_ret (v:=.tuple #[.agg #[.int .i64 x.kind,.int .i64 x.n,.string x.s],.int .i64 0]) (by simp [results,Tryz.results79,go_sem,m0,m1,m2]) rfl ⟨rfl,HB.out.trans (hoE.below HB.out.size (fun q hq=>by omega))⟩
 rw [if_neg o5] at hA
 have t5:(op == 14)=false:=by simp [o5]
 by_cases o6:op=15
 ·skip
  rw [if_pos o6] at hA
  subst o6
  have HN:Hid (∀ W,Calls Tryz.prog 46 #[.bool (decide (0≤c))] W (ValOut W x)):=Lib.hid fun W=>by
   have h0:=bool_e W (decide (0≤c))
   rw [show (⟨3,if decide (0≤c) then 1 else 0,⟨#[]⟩⟩:AV)=x from congrArg Prod.fst hA] at h0
   exact h0
  have he:e'=0:=(congrArg (fun q=>q.2.1) hA).symm
  subst he
  clear hA
  go_wp2_with fail
  refine (HN.out _).mono ?_
  clear HN
  rintro r w5 ⟨rfl,hb5⟩
  replace HB:=Lib.hid (HB.out.trans (hb5.mono HB.out.size))
  have hk5:=HK.out.below hb5
  replace HK:=Lib.hid hk5
  clear a0 a1 a2 hla
  obtain ⟨z0,z1,z2⟩:=three_cells hk5
  have hfr:=fun i=>hk5.frozen i
  have hlk:=hk5.lt
  clear hb5 hk5
  go_wp2
  obtain ⟨hkE,hoE⟩:=set_threeE HK.out (.int .i64 x.kind) (.int .i64 x.n) (.string x.s)
  generalize ((w5.setCell ⟨w2.heap.size,0,none⟩ (.int .i64 x.kind)).setCell ⟨w2.heap.size,1,none⟩ (.int .i64 x.n)).setCell ⟨w2.heap.size,2,none⟩ (.string x.s)=wE at *
  obtain ⟨m0,m1,m2⟩:=three_cells hkE
  exact bodyPost_ret (v:=.tuple #[.agg #[.int .i64 x.kind,.int .i64 x.n,.string x.s],.int .i64 0]) (by simp [results,Tryz.results79,go_sem,m0,m1,m2]) rfl ⟨rfl,HB.out.trans (hoE.below HB.out.size (fun q hq=>by omega))⟩
 ·skip
  rw [if_neg o6] at hA
  have t6:(op == 15)=false:=by simp [o6]
  have HN:Hid (∀ W,Calls Tryz.prog 46 #[.bool (decide (0 < c))] W (ValOut W x)):=Lib.hid fun W=>by
   have h0:=bool_e W (decide (0 < c))
   rw [show (⟨3,if decide (0 < c) then 1 else 0,⟨#[]⟩⟩:AV)=x from congrArg Prod.fst hA] at h0
   exact h0
  have he:e'=0:=(congrArg (fun q=>q.2.1) hA).symm
  subst he
  clear hA
  go_wp2_with fail
  refine (HN.out _).mono ?_
  clear HN
  rintro r w5 ⟨rfl,hb5⟩
  replace HB:=Lib.hid (HB.out.trans (hb5.mono HB.out.size))
  have hk5:=HK.out.below hb5
  replace HK:=Lib.hid hk5
  clear a0 a1 a2 hla
  obtain ⟨z0,z1,z2⟩:=three_cells hk5
  have hfr:=fun i=>hk5.frozen i
  have hlk:=hk5.lt
  clear hb5 hk5
  go_wp2
  obtain ⟨hkE,hoE⟩:=set_threeE HK.out (.int .i64 x.kind) (.int .i64 x.n) (.string x.s)
  generalize ((w5.setCell ⟨w2.heap.size,0,none⟩ (.int .i64 x.kind)).setCell ⟨w2.heap.size,1,none⟩ (.int .i64 x.n)).setCell ⟨w2.heap.size,2,none⟩ (.string x.s)=wE at *
  obtain ⟨m0,m1,m2⟩:=three_cells hkE
  exact bodyPost_ret (v:=.tuple #[.agg #[.int .i64 x.kind,.int .i64 x.n,.string x.s],.int .i64 0]) (by simp [results,Tryz.results79,go_sem,m0,m1,m2]) rfl ⟨rfl,HB.out.trans (hoE.below HB.out.size (fun q hq=>by omega))⟩
def IsTal (w:World) (b:Nat) (z n le mo:Int):Prop:=Blk w b 132 [.int .u64 (hiW z),.int .u64 (loW z),.int .i64 n,.int .i64 le,.int .i64 mo]
theorem put_tal (w:World) (b:Nat) (z n le mo:Int) (v:Value) (l:List Int) (hb:IsTal w b z n le mo) (hl:Sl w (fun k=>k≠b) 1 v l.length (ints l)) (hfit:∀ x∈l,fits x) (hn1:-1000000≤n) (hn2:n≤1000000) (hll:l.length≤1000000) :
 Calls Tryz.prog 95 #[.pointer (some ⟨b,0,none⟩),v] w fun e w'=>e=.returned (.tuple #[])∧IsTal w' b (z+l.sum) (n+l.length) le mo∧Only (fun k=>k=b) w w':=by
 obtain ⟨p,cap,rfl,hc1,hc2⟩:=hl.form
 have HB:=Lib.hid hb
 have HL:=Lib.hid hl
 have HF:=Lib.hid hfit
 clear hb hl hfit
 go_enter Tryz.func95,Tryz.ntmps95
 go_wp2
 go_loopw [10] (fun i wr=>∃ k:Nat,i=.int .i64 k∧k≤l.length∧IsTal wr b (z+(l.take k).sum) n le mo∧Only (fun k=>k=b) w wr) (fun i _=>l.length - (intOf i).toNat)
 case atStart=>exact ⟨0,rfl,Nat.zero_le _,by simpa using HB.out,Only.refl _ _⟩
 case round =>
  obtain ⟨k,rfl,hk,ht,ho⟩:=hrel
  have hlt:=ht.lt
  by_cases hka:k < l.length
  ·obtain ⟨g,off,cap',hv,_,_,hgb,hglt,hc⟩:=HL.out.place (by omega)
   cases hv
   have hc0:w.cell? ⟨g,off+k,none⟩=some (.int .i64 l[k]):=by rw [hc k (by simpa [ints] using hka)];simp [ints,hka]
   have hck:wr.cell? ⟨g,off+k,none⟩=some (.int .i64 l[k]):=(ho.cell (p:=⟨g,off+k,none⟩) hglt hgb).trans hc0
   have hfx:=HF.out l[k] (List.getElem_mem hka)
   have HX:=Lib.hid (sum_next l k hka)
   generalize l[k]=x at *
   have HOF:=Lib.hid (fun w=>of_any x hfx.1 hfx.2 w)
   generalize hz:z+(l.take k).sum=zk at *
   have HZ:=Lib.hid hz
   have t0:wr.cell? ⟨b,0,none⟩=some (.int .u64 (hiW zk)):=ht.cell 0
   have t1:wr.cell? ⟨b,1,none⟩=some (.int .u64 (loW zk)):=ht.cell 1
   have HT:=Lib.hid ht
   have HO:=Lib.hid ho
   clear ht ho hc hfx hz hc0
   go_wp2
   refine wp_region_lit_plan [] [(0,0),(1,0),(2,0),(3,0),(5,0),(4,2),(6,3),(7,4),(8,0),(9,0),(10,4)] (fun k=>k=b) (by kernel_rfl) (by kernel_rfl) (fun c a d v w h=>by cases d<;>exact h) ?_
   go_wp2_with (first
    | (refine stp ?_)
    | (go_at_call 107;refine (HOF.out _).mono ?_;rintro e w2 ⟨rfl,hb2⟩;have hag:Agree (fun k=>k=b) wr.drew w2:=agree_bel hb2 (by intro k hk;subst hk;exact hlt))
    | (go_at_call 106;refine (plus_any zk x _).mono ?_;rintro e w3 ⟨rfl,hb3⟩;have ht3:=(HT.out.drew.below hb2).below hb3;have hf3:∀ i,w3.frozen? ⟨b,i,none⟩=false:=ht3.frozen;
       have t03:w3.cell? ⟨b,0,none⟩=some (.int .u64 (hiW zk)):=ht3.cell 0;have t13:w3.cell? ⟨b,1,none⟩=some (.int .u64 (loW zk)):=ht3.cell 1;have HT3:=Lib.hid ht3;clear ht3))
   have hzx:zk+x=z+(l.take (k+1)).sum:=by have:=HX.out;have:=HZ.out;omega
   have HZX:=Lib.hid hzx
   clear hzx
   go_roundw
   case rel =>
    refine ⟨k+1,by go_num,by omega,?_,?_⟩
    ·rw [←HZX.out]
     exact (HT3.out.set 0 _).set 1 _
    ·have ho3:Only (fun k=>k=b) w w3:=(HO.out.drew.trans (Only.of_none hb2) (fun _ _ h=>h)).trans (Only.of_none hb3) (fun _ _ h=>h)
     exact (ho3.setCell (fun _=>rfl) _).setCell (fun _=>rfl) _
   case measure=>simp [intOf];omega
  ·have hkl:k=l.length:=by omega
   have hz:z+(l.take k).sum=z+l.sum:=by rw [hkl,List.take_length]
   rw [hz] at ht
   have t2:wr.cell? ⟨b,2,none⟩=some (.int .i64 n):=ht.cell 2
   have hf:∀ i,wr.frozen? ⟨b,i,none⟩=false:=ht.frozen
   have HT:=Lib.hid ht
   have HO:=Lib.hid ho
   clear ht ho hkl hz
   go_wp2
   go_end0
   exact ⟨rfl,HT.out.set 2 _,HO.out.setCell (fun _=>rfl) _⟩
theorem sum_tal (w:World) (b:Nat) (z n le mo:Int) (hb:IsTal w b z n le mo) (hz:near z) :
 Calls Tryz.prog 96 #[.pointer (some ⟨b,0,none⟩)] w fun e w'=>e=.returned (.tuple #[.int .i64 (shortN z),.int .i64 (shortE z)])∧Below w.heap.size w w':=by
 have HS:=Lib.hid (fun w=>short_any z hz.1 hz.2 w)
 have t0:w.cell? ⟨b,0,none⟩=some (.int .u64 (hiW z)):=hb.cell 0
 have t1:w.cell? ⟨b,1,none⟩=some (.int .u64 (loW z)):=hb.cell 1
 clear hb hz
 generalize shortN z=sn at *
 generalize shortE z=se at *
 go_enter Tryz.func96,Tryz.ntmps96
 go_wp2_with (go_at_call 108;refine (HS.out _).mono ?_;rintro e w2 ⟨rfl,hb2⟩)
 go_ret2
 exact ⟨rfl,hb2⟩
theorem count_tal (w:World) (b:Nat) (z n le mo:Int) (hb:IsTal w b z n le mo):Calls Tryz.prog 92 #[.pointer (some ⟨b,0,none⟩)] w fun e w'=>e=.returned (.int .i64 n)∧w=w':=by
 have t2:w.cell? ⟨b,2,none⟩=some (.int .i64 n):=hb.cell 2
 clear hb
 go_enter Tryz.func92,Tryz.ntmps92
 go_wp2
 go_ret
 exact ⟨rfl,rfl⟩
def PutTal (w:World) (b:Nat) (z n le mo:Int) (e:Ending) (w':World):Prop:=e=.returned (.tuple #[])∧IsTal w' b z n le mo∧Only (fun q=>q=b) w w'
theorem tput_any (w:World) (b:Nat) (c:Nat) (z le mo x:Int) (hb:IsTal w b z c le mo) (hx:fits x) (hc:c≤1000000) :
 Calls Tryz.prog 76 #[.pointer (some ⟨b,0,none⟩),.int .i64 x] w (PutTal w b (z+x) (c+1:Nat) (if c=0 then x else min x le) (if c=0 then x else max x mo)):=by
 have HC:=Lib.hid (count_tal w b z c le mo hb)
 have HB:=Lib.hid hb
 have HX:=Lib.hid hx
 have hlt:b < w.heap.size:=hb.lt
 obtain ⟨L,hL⟩:∃ L,(if c=0 then x else min x le)=L:=⟨_,rfl⟩
 obtain ⟨M,hM⟩:∃ M,(if c=0 then x else max x mo)=M:=⟨_,rfl⟩
 rw [hL,hM]
 have HL:=Lib.hid hL
 have HM:=Lib.hid hM
 clear hb hx hL hM
 go_enter Tryz.func76,Tryz.ntmps76
 go_wp2_with fail
 refine HC.out.mono ?_
 clear HC
 rintro e w' ⟨rfl,hw'⟩
 subst hw'
 go_upto_if 8 with fail
 go_cut [] (fun wc=>∃ le2 mo2,IsTal wc b z c le2 mo2∧Only (fun q=>q=b) w wc∧min x le2=L∧max x mo2=M)
 case first =>
  have t3:w.cell? ⟨b,3,none⟩=some (.int .i64 le):=HB.out.cell 3
  have t4:w.cell? ⟨b,4,none⟩=some (.int .i64 mo):=HB.out.cell 4
  have hfz:∀ i,w.frozen? ⟨b,i,none⟩=false:=fun i=>HB.out.frozen i
  by_cases h0:c=0
  ·have t0:((c:Int) == 0)=true:=by simp [h0]
   have H0:=Lib.hid h0
   clear h0
   go_wp2
   go_meet
   exact ⟨x,x,(HB.out.set 3 _).set 4 _,((Only.refl (fun q=>q=b) w).setCell (p:=⟨b,3,none⟩) (fun _=>rfl) _).setCell (p:=⟨b,4,none⟩) (fun _=>rfl) _,by rw [←HL.out,if_pos H0.out];omega,by rw [←HM.out,if_pos H0.out];omega⟩
  ·have t0:((c:Int) == 0)=false:=by simp [h0]
   have H0:=Lib.hid h0
   clear h0
   go_wp2
   go_meet
   exact ⟨le,mo,HB.out,Only.refl _ _,by rw [←HL.out,if_neg H0.out],by rw [←HM.out,if_neg H0.out]⟩
 case rest =>
 obtain ⟨le2,mo2,hb2,hon,e1,e2⟩:=hcut
 obtain ⟨w2,rfl⟩:∃ w2,w2=wc:=⟨_,rfl⟩
 replace HB:=Lib.hid hb2
 have HON:=Lib.hid hon
 have HE1:=Lib.hid e1
 have HE2:=Lib.hid e2
 have hlt2:b < w2.heap.size:=hb2.lt
 clear hb2 hon e1 e2
 go_upto_region 2 with fail
 go_cut [] (fun wc=>IsTal wc b z c (min x le2) (max x mo2)∧Only (fun q=>q=b) w2 wc)
 case first =>
  have t3:w2.cell? ⟨b,3,none⟩=some (.int .i64 le2):=HB.out.cell 3
  have t4:w2.cell? ⟨b,4,none⟩=some (.int .i64 mo2):=HB.out.cell 4
  have hfz:∀ i,w2.frozen? ⟨b,i,none⟩=false:=fun i=>HB.out.frozen i
  refine wp_region_lit_plans [7,8,14,15,18,21] [[(0,0),(1,0),(2,0),(3,0),(4,0),(5,0),(9,0),(10,0),(11,0),(12,0),(6,2),(13,2),(7,3),(8,3),(14,3),(15,4),(16,0),(17,0),(18,4),(19,0),(20,0),(21,4)],[(0,0),(1,0),(2,0),(3,0),(4,0),(5,0),(9,0),(10,0),(11,0),(12,0),(6,2),(13,2),(7,3),(14,3),(8,3),(15,4),(16,0),(17,0),(18,4),(19,0),(20,0),(21,4)],[(0,0),(1,0),(2,0),(3,0),(4,0),(5,0),(9,0),(10,0),(11,0),(12,0),(6,2),(13,2),(14,3),(7,3),(8,3),(15,4),(16,0),(17,0),(18,4),(19,0),(20,0),(21,4)]] ((fun q=>q=b)) (by kernel_rfl) (by kernel_rfl) (fun c a d v w h=>by cases d<;>exact h) ?_;refine ⟨?_,?_,?_,trivial⟩
  ·skip
   have hagL:Agree (fun q=>q=b) w2.drew (w2.alloc (.cells #[.int .i64 le2] 2)).drew:=agree_alloc (w:=w2) _ (fun q hq=>by subst hq;exact hlt2)
   have HCL:=Lib.hid (least_any (w2.alloc (.cells #[.int .i64 le2] 2)).drew x _ [le2] (one_i64e w2 le2) (by simp))
   have hbl:Below w2.heap.size w2 (w2.alloc (.cells #[.int .i64 le2] 2)).drew:=((Below.refl _ _).alloc (Nat.le_refl _) _).drew
   go_wp2_with (first|(refine stp ?_))
   refine HCL.out.mono ?_
   clear HCL
   rintro e w4 ⟨rfl,hb4⟩
   have hag4:Agree (fun q=>q=b) (w2.alloc (.cells #[.int .i64 le2] 2)).drew w4:=agree_bel hb4 (fun q hq=>by subst hq;exact Nat.lt_of_lt_of_le hlt2 hbl.size)
   have hb24:=hbl.trans (hb4.mono hbl.size)
   have HB4:=Lib.hid (Blk.below HB.out hb24)
   have HO4:=Lib.hid hb24
   have hlt4:b < w4.heap.size:=Nat.lt_of_lt_of_le hlt2 hb24.size
   clear hb4 hb24 hbl
   have hagM:Agree (fun q=>q=b) w4 (w4.alloc (.cells #[.int .i64 mo2] 2)):=agree_alloc _ (fun q hq=>by subst hq;exact hlt4)
   have HCM:=Lib.hid (most_any (w4.alloc (.cells #[.int .i64 mo2] 2)) x _ [mo2] (one_i64e w4 mo2) (by simp))
   have hbm:Below w4.heap.size w4 (w4.alloc (.cells #[.int .i64 mo2] 2)):=(Below.refl _ _).alloc (Nat.le_refl _) _
   go_wp2_with (first|(refine stp ?_))
   refine HCM.out.mono ?_
   clear HCM
   rintro e w5 ⟨rfl,hb5⟩
   have hb45:=hbm.trans (hb5.mono hbm.size)
   have hk5:=Blk.below HB4.out hb45
   have HB5:=Lib.hid hk5
   have HO5:=Lib.hid (HO4.out.trans (hb45.mono HO4.out.size))
   have s3:w5.cell? ⟨b,3,none⟩=some (.int .i64 le2):=hk5.cell 3
   have s4:w5.cell? ⟨b,4,none⟩=some (.int .i64 mo2):=hk5.cell 4
   have hf5:∀ i,w5.frozen? ⟨b,i,none⟩=false:=hk5.frozen
   have hlt5:=hk5.lt
   clear hb5 hb45 hbm hk5 t3 t4 hfz
   go_wp2_with (first|(refine stp ?_))
   go_meet
   exact ⟨(HB5.out.set 3 _).set 4 _,((Only.of_none (S:=fun q=>q=b) HO5.out).setCell (p:=⟨b,3,none⟩) (fun _=>rfl) _).setCell (p:=⟨b,4,none⟩) (fun _=>rfl) _⟩
  ·skip
   have hagL:Agree (fun q=>q=b) w2.drew (w2.alloc (.cells #[.int .i64 le2] 2)).drew:=agree_alloc (w:=w2) _ (fun q hq=>by subst hq;exact hlt2)
   have hagM:Agree (fun q=>q=b) (w2.alloc (.cells #[.int .i64 le2] 2)).drew ((w2.alloc (.cells #[.int .i64 le2] 2)).alloc (.cells #[.int .i64 mo2] 2)).drew:=agree_alloc (w:=w2.alloc (.cells #[.int .i64 le2] 2)) _ (fun q hq=>by subst hq;simp;omega)
   have hbl:Below w2.heap.size w2 ((w2.alloc (.cells #[.int .i64 le2] 2)).alloc (.cells #[.int .i64 mo2] 2)).drew:=(((Below.refl w2.heap.size w2).alloc (Nat.le_refl _) _).alloc (by simp) _).drew
   have HBL:=Lib.hid hbl
   clear hbl
   have sL:Sl ((w2.alloc (.cells #[.int .i64 le2] 2)).alloc (.cells #[.int .i64 mo2] 2)).drew (fun _=>True) 1 (.slice (some ⟨w2.heap.size,0,none⟩) 1 1) 1 (ints [le2]):=(one_i64e w2 le2).alloc _
   have sM:Sl ((w2.alloc (.cells #[.int .i64 le2] 2)).alloc (.cells #[.int .i64 mo2] 2)).drew (fun _=>True) 1 (.slice (some ⟨w2.heap.size+1,0,none⟩) 1 1) 1 (ints [mo2]):=by
    have h0:=one_i64e (w2.alloc (.cells #[.int .i64 le2] 2)) mo2
    rw [show (w2.alloc (.cells #[.int .i64 le2] 2)).heap.size=w2.heap.size+1 by simp] at h0
    exact h0
   have HCL:=Lib.hid (least_any _ x _ [le2] sL (by simp))
   have HSM:=Lib.hid sM
   clear sL sM
   go_wp2_with (first|(refine stp ?_))
   refine HCL.out.mono ?_
   clear HCL
   rintro e w4 ⟨rfl,hb4⟩
   have hag4:=agree_bel (B:=fun q=>q=b) hb4 (fun q hq=>by subst hq;exact Nat.lt_of_lt_of_le hlt2 HBL.out.size)
   have hb24:=HBL.out.trans (hb4.mono HBL.out.size)
   have HB4:=Lib.hid (Blk.below HB.out hb24)
   have HO4:=Lib.hid hb24
   have HCM:=Lib.hid (most_any w4 x _ [mo2] (HSM.out.below hb4) (by simp))
   have hbm:=Below.refl w4.heap.size w4
   clear hb4 hb24
   go_wp2_with (first|(refine stp ?_))
   refine HCM.out.mono ?_
   clear HCM
   rintro e w5 ⟨rfl,hb5⟩
   have hb45:=hbm.trans (hb5.mono hbm.size)
   have hk5:=Blk.below HB4.out hb45
   have HB5:=Lib.hid hk5
   have HO5:=Lib.hid (HO4.out.trans (hb45.mono HO4.out.size))
   have s3:w5.cell? ⟨b,3,none⟩=some (.int .i64 le2):=hk5.cell 3
   have s4:w5.cell? ⟨b,4,none⟩=some (.int .i64 mo2):=hk5.cell 4
   have hf5:∀ i,w5.frozen? ⟨b,i,none⟩=false:=hk5.frozen
   have hlt5:=hk5.lt
   clear hb5 hb45 hbm hk5 t3 t4 hfz
   go_wp2_with (first|(refine stp ?_))
   go_meet
   exact ⟨(HB5.out.set 3 _).set 4 _,((Only.of_none (S:=fun q=>q=b) HO5.out).setCell (p:=⟨b,3,none⟩) (fun _=>rfl) _).setCell (p:=⟨b,4,none⟩) (fun _=>rfl) _⟩
  ·skip
   have hagL:Agree (fun q=>q=b) w2.drew (w2.alloc (.cells #[.int .i64 mo2] 2)).drew:=agree_alloc (w:=w2) _ (fun q hq=>by subst hq;exact hlt2)
   have hagM:Agree (fun q=>q=b) (w2.alloc (.cells #[.int .i64 mo2] 2)).drew ((w2.alloc (.cells #[.int .i64 mo2] 2)).alloc (.cells #[.int .i64 le2] 2)).drew:=agree_alloc (w:=w2.alloc (.cells #[.int .i64 mo2] 2)) _ (fun q hq=>by subst hq;simp;omega)
   have hbl:Below w2.heap.size w2 ((w2.alloc (.cells #[.int .i64 mo2] 2)).alloc (.cells #[.int .i64 le2] 2)).drew:=(((Below.refl w2.heap.size w2).alloc (Nat.le_refl _) _).alloc (by simp) _).drew
   have HBL:=Lib.hid hbl
   clear hbl
   have sM:Sl ((w2.alloc (.cells #[.int .i64 mo2] 2)).alloc (.cells #[.int .i64 le2] 2)).drew (fun _=>True) 1 (.slice (some ⟨w2.heap.size,0,none⟩) 1 1) 1 (ints [mo2]):=(one_i64e w2 mo2).alloc _
   have sL:Sl ((w2.alloc (.cells #[.int .i64 mo2] 2)).alloc (.cells #[.int .i64 le2] 2)).drew (fun _=>True) 1 (.slice (some ⟨w2.heap.size+1,0,none⟩) 1 1) 1 (ints [le2]):=by
    have h0:=one_i64e (w2.alloc (.cells #[.int .i64 mo2] 2)) le2
    rw [show (w2.alloc (.cells #[.int .i64 mo2] 2)).heap.size=w2.heap.size+1 by simp] at h0
    exact h0
   have HCL:=Lib.hid (least_any _ x _ [le2] sL (by simp))
   have HSM:=Lib.hid sM
   clear sL sM
   go_wp2_with (first|(refine stp ?_))
   refine HCL.out.mono ?_
   clear HCL
   rintro e w4 ⟨rfl,hb4⟩
   have hag4:=agree_bel (B:=fun q=>q=b) hb4 (fun q hq=>by subst hq;exact Nat.lt_of_lt_of_le hlt2 HBL.out.size)
   have hb24:=HBL.out.trans (hb4.mono HBL.out.size)
   have HB4:=Lib.hid (Blk.below HB.out hb24)
   have HO4:=Lib.hid hb24
   have HCM:=Lib.hid (most_any w4 x _ [mo2] (HSM.out.below hb4) (by simp))
   have hbm:=Below.refl w4.heap.size w4
   clear hb4 hb24
   go_wp2_with (first|(refine stp ?_))
   refine HCM.out.mono ?_
   clear HCM
   rintro e w5 ⟨rfl,hb5⟩
   have hb45:=hbm.trans (hb5.mono hbm.size)
   have hk5:=Blk.below HB4.out hb45
   have HB5:=Lib.hid hk5
   have HO5:=Lib.hid (HO4.out.trans (hb45.mono HO4.out.size))
   have s3:w5.cell? ⟨b,3,none⟩=some (.int .i64 le2):=hk5.cell 3
   have s4:w5.cell? ⟨b,4,none⟩=some (.int .i64 mo2):=hk5.cell 4
   have hf5:∀ i,w5.frozen? ⟨b,i,none⟩=false:=hk5.frozen
   have hlt5:=hk5.lt
   clear hb5 hb45 hbm hk5 t3 t4 hfz
   go_wp2_with (first|(refine stp ?_))
   go_meet
   exact ⟨(HB5.out.set 3 _).set 4 _,((Only.of_none (S:=fun q=>q=b) HO5.out).setCell (p:=⟨b,3,none⟩) (fun _=>rfl) _).setCell (p:=⟨b,4,none⟩) (fun _=>rfl) _⟩
 case rest =>
 obtain ⟨hb3,hon⟩:=hcut
 obtain ⟨w3,rfl⟩:∃ w3,w3=wc:=⟨_,rfl⟩
 rw [HE1.out,HE2.out] at hb3
 obtain ⟨w4,hw4⟩:∃ w4,w3.alloc (.cells #[.int .i64 x] 2)=w4:=⟨_,rfl⟩
 have hb34:Below w3.heap.size w3 w4:=hw4▸(Below.refl _ _).alloc (Nat.le_refl _) _
 have hlt3:b < w3.heap.size:=hb3.lt
 have hs4:Sl w4 (fun q=>q≠b) 1 (.slice (some ⟨w3.heap.size,0,none⟩) 1 1) 1 (ints [x]):=hw4▸(Own.made w3 2 1 (ints [x]) [] 1 1 rfl (Ones.nil.cons rfl) (Nat.le_refl _) (by decide) (Nat.le_refl 1)).sl (fun q hq=>by
  have e2:w3.heap.size=q:=Option.some.inj hq
  show q≠b
  omega)
 have hP:=put_tal w4 b z c L M _ [x] (Blk.below hb3 hb34) hs4 (by simp [HX.out]) (by omega) (by omega) (by simp)
 have HP:=Lib.hid hP
 have HO3:=Lib.hid ((HON.out.trans hon (fun _ _ h=>h)).trans (Only.of_none (S:=fun q=>q=b) hb34) (fun _ _ h=>h))
 clear hb3 hon hb34 hs4 hP
 go_wp2_with fail
 clear hw4
 refine HP.out.mono ?_
 clear HP
 rintro e w5 ⟨rfl,hb5,ho5⟩
 have HB5:=Lib.hid hb5
 have HO5:=Lib.hid (HO3.out.trans ho5 (fun _ _ h=>h))
 clear hb5 ho5
 go_wp2
 go_end0
 refine ⟨rfl,?_,HO5.out⟩
 have h5:=HB5.out
 rw [show [x].sum=x by simp] at h5
 exact h5
theorem told_anyT (w:World) (b:Nat) (op:Int) (t:Tally) (hb:IsTal w b t.z t.c t.least t.most) (hz:near t.z) :
 Calls Tryz.prog 77 #[.pointer (some ⟨b,0,none⟩),.int .i64 op] w (PairOut w (toldA op t 0).1 (toldA op t 0).2.1):=by
 obtain ⟨c,z,le,mo⟩:=t
 simp only at hb hz
 obtain ⟨⟨x,e',f'⟩,hA⟩:∃ q,toldA op ⟨c,z,le,mo⟩ 0=q:=⟨_,rfl⟩
 rw [hA]
 unfold toldA intA at hA
 simp only at hA ⊢
 obtain ⟨w1,hw1⟩:∃ w1,w.alloc (.cells #[.int .i64 0,.int .i64 0,.string ⟨#[]⟩] 35)=w1:=⟨_,rfl⟩
 have hb1:Below w.heap.size w w1:=hw1▸(Below.refl _ _).alloc (Nat.le_refl _) _
 have hk1:Blk w1 w.heap.size 35 [.int .i64 0,.int .i64 0,.string ⟨#[]⟩]:=hw1▸Blk.new w _ _
 have ht:IsTal w1 b z c le mo:=Blk.below hb hb1
 have HB:=Lib.hid hb1
 have HK:=Lib.hid hk1
 have HC:=Lib.hid (count_tal w1 b z c le mo ht)
 have HS:=Lib.hid (sum_tal w1 b z c le mo ht hz)
 have t3:w1.cell? ⟨b,3,none⟩=some (.int .i64 le):=ht.cell 3
 have t4:w1.cell? ⟨b,4,none⟩=some (.int .i64 mo):=ht.cell 4
 have hlt:b < w1.heap.size:=ht.lt
 clear hb hz hb1 hk1 ht
 go_enter Tryz.func77,Tryz.ntmps77
 by_cases o1:op=21
 ·skip
  rw [if_pos o1] at hA
  cases hA
  subst o1
  have HI:=Lib.hid (fun W=>int_e W (c:Int))
  go_wp2_with fail
  refine HC.out.mono ?_
  rintro r w' ⟨rfl,hw'⟩
  subst hw'
  go_wp2_with fail
  refine (HI.out _).mono ?_
  rintro r w5 ⟨rfl,hb5⟩
  clear t3 t4 hlt hw1
  replace HB:=Lib.hid (HB.out.trans (hb5.mono HB.out.size))
  have hk5:=HK.out.below hb5
  replace HK:=Lib.hid hk5
  obtain ⟨z0,z1,z2⟩:=three_cells hk5
  have hfr:=fun i=>hk5.frozen i
  have hlk:=hk5.lt
  clear hb5 hk5
  go_wp2
  obtain ⟨hkE,hoE⟩:=set_threeE HK.out (.int .i64 1) (.int .i64 c) (.string ⟨#[]⟩)
  generalize ((w5.setCell ⟨w.heap.size,0,none⟩ (.int .i64 1)).setCell ⟨w.heap.size,1,none⟩ (.int .i64 c)).setCell ⟨w.heap.size,2,none⟩ (.string ⟨#[]⟩)=wE at *
  obtain ⟨m0,m1,m2⟩:=three_cells hkE
  exact bodyPost_ret (v:=.tuple #[.agg #[.int .i64 1,.int .i64 c,.string ⟨#[]⟩],.int .i64 0]) (by simp [results,Tryz.results77,go_sem,m0,m1,m2]) rfl ⟨rfl,HB.out.trans (hoE.below HB.out.size (fun q hq=>by omega))⟩
 rw [if_neg o1] at hA
 have t1:(op == 21)=false:=by simp [o1]
 by_cases o2:op=22
 ·skip
  rw [if_pos o2] at hA
  subst o2
  have HN:Hid (∀ W,Calls Tryz.prog 72 #[.int .i64 (shortN z),.int .i64 (shortE z)] W (PairOut W x e')):=Lib.hid fun W=>by
   have h0:=number_e W (shortN z) (shortE z)
   rw [hA] at h0
   exact h0
  clear hA
  go_wp2_with fail
  refine HS.out.mono ?_
  rintro r w4 ⟨rfl,hb4⟩
  replace HB:=Lib.hid (HB.out.trans (hb4.mono HB.out.size))
  replace HK:=Lib.hid (HK.out.below hb4)
  clear t3 t4 hlt hw1 hb4
  go_wp2_with fail
  refine (HN.out _).mono ?_
  rintro r w5 ⟨rfl,hb5⟩
  replace HB:=Lib.hid (HB.out.trans (hb5.mono HB.out.size))
  have hk5:=HK.out.below hb5
  replace HK:=Lib.hid hk5
  obtain ⟨z0,z1,z2⟩:=three_cells hk5
  have hfr:=fun i=>hk5.frozen i
  have hlk:=hk5.lt
  clear hb5 hk5
  go_wp2
  obtain ⟨hkE,hoE⟩:=set_threeE HK.out (.int .i64 x.kind) (.int .i64 x.n) (.string x.s)
  generalize ((w5.setCell ⟨w.heap.size,0,none⟩ (.int .i64 x.kind)).setCell ⟨w.heap.size,1,none⟩ (.int .i64 x.n)).setCell ⟨w.heap.size,2,none⟩ (.string x.s)=wE at *
  obtain ⟨m0,m1,m2⟩:=three_cells hkE
  exact bodyPost_ret (v:=.tuple #[.agg #[.int .i64 x.kind,.int .i64 x.n,.string x.s],.int .i64 e']) (by simp [results,Tryz.results77,go_sem,m0,m1,m2]) rfl ⟨rfl,HB.out.trans (hoE.below HB.out.size (fun q hq=>by omega))⟩
 rw [if_neg o2] at hA
 have t2:(op == 22)=false:=by simp [o2]
 by_cases c0:c=0
 ·skip
  rw [if_pos c0] at hA
  unfold wrongA zeroA at hA
  cases hA
  have q0:((c:Int) == 0)=true:=by simp [c0]
  have HR:=Lib.hid (wrong_e w1 8)
  go_wp2_with fail
  refine HC.out.mono ?_
  rintro r w' ⟨rfl,hw'⟩
  subst hw'
  go_wp2_with fail
  refine HR.out.mono ?_
  rintro r w5 ⟨rfl,hb5⟩
  unfold zeroA
  clear t3 t4 hlt hw1
  replace HB:=Lib.hid (HB.out.trans (hb5.mono HB.out.size))
  have hk5:=HK.out.below hb5
  replace HK:=Lib.hid hk5
  obtain ⟨z0,z1,z2⟩:=three_cells hk5
  have hfr:=fun i=>hk5.frozen i
  have hlk:=hk5.lt
  clear hb5 hk5
  go_wp2
  obtain ⟨hkE,hoE⟩:=set_threeE HK.out (.int .i64 0) (.int .i64 0) (.string ⟨#[]⟩)
  generalize ((w5.setCell ⟨w.heap.size,0,none⟩ (.int .i64 0)).setCell ⟨w.heap.size,1,none⟩ (.int .i64 0)).setCell ⟨w.heap.size,2,none⟩ (.string ⟨#[]⟩)=wE at *
  obtain ⟨m0,m1,m2⟩:=three_cells hkE
  exact bodyPost_ret (v:=.tuple #[.agg #[.int .i64 0,.int .i64 0,.string ⟨#[]⟩],.int .i64 8]) (by simp [results,Tryz.results77,go_sem,m0,m1,m2]) rfl ⟨rfl,HB.out.trans (hoE.below HB.out.size (fun q hq=>by omega))⟩
 rw [if_neg c0] at hA
 have q0:((c:Int) == 0)=false:=by simp [c0]
 by_cases o3:op=23
 ·skip
  rw [if_pos o3] at hA
  cases hA
  subst o3
  have HI:=Lib.hid (fun W=>int_e W le)
  go_wp2_with fail
  refine HC.out.mono ?_
  rintro r w' ⟨rfl,hw'⟩
  subst hw'
  go_wp2_with fail
  refine (HI.out _).mono ?_
  rintro r w5 ⟨rfl,hb5⟩
  clear t3 t4 hlt hw1
  replace HB:=Lib.hid (HB.out.trans (hb5.mono HB.out.size))
  have hk5:=HK.out.below hb5
  replace HK:=Lib.hid hk5
  obtain ⟨z0,z1,z2⟩:=three_cells hk5
  have hfr:=fun i=>hk5.frozen i
  have hlk:=hk5.lt
  clear hb5 hk5
  go_wp2
  obtain ⟨hkE,hoE⟩:=set_threeE HK.out (.int .i64 1) (.int .i64 le) (.string ⟨#[]⟩)
  generalize ((w5.setCell ⟨w.heap.size,0,none⟩ (.int .i64 1)).setCell ⟨w.heap.size,1,none⟩ (.int .i64 le)).setCell ⟨w.heap.size,2,none⟩ (.string ⟨#[]⟩)=wE at *
  obtain ⟨m0,m1,m2⟩:=three_cells hkE
  exact bodyPost_ret (v:=.tuple #[.agg #[.int .i64 1,.int .i64 le,.string ⟨#[]⟩],.int .i64 0]) (by simp [results,Tryz.results77,go_sem,m0,m1,m2]) rfl ⟨rfl,HB.out.trans (hoE.below HB.out.size (fun q hq=>by omega))⟩
 ·skip
  rw [if_neg o3] at hA
  cases hA
  have q3:(op == 23)=false:=by simp [o3]
  have HI:=Lib.hid (fun W=>int_e W mo)
  go_wp2_with fail
  refine HC.out.mono ?_
  rintro r w' ⟨rfl,hw'⟩
  subst hw'
  go_wp2_with fail
  refine (HI.out _).mono ?_
  rintro r w5 ⟨rfl,hb5⟩
  clear t3 t4 hlt hw1
  replace HB:=Lib.hid (HB.out.trans (hb5.mono HB.out.size))
  have hk5:=HK.out.below hb5
  replace HK:=Lib.hid hk5
  obtain ⟨z0,z1,z2⟩:=three_cells hk5
  have hfr:=fun i=>hk5.frozen i
  have hlk:=hk5.lt
  clear hb5 hk5
  go_wp2
  obtain ⟨hkE,hoE⟩:=set_threeE HK.out (.int .i64 1) (.int .i64 mo) (.string ⟨#[]⟩)
  generalize ((w5.setCell ⟨w.heap.size,0,none⟩ (.int .i64 1)).setCell ⟨w.heap.size,1,none⟩ (.int .i64 mo)).setCell ⟨w.heap.size,2,none⟩ (.string ⟨#[]⟩)=wE at *
  obtain ⟨m0,m1,m2⟩:=three_cells hkE
  exact bodyPost_ret (v:=.tuple #[.agg #[.int .i64 1,.int .i64 mo,.string ⟨#[]⟩],.int .i64 0]) (by simp [results,Tryz.results77,go_sem,m0,m1,m2]) rfl ⟨rfl,HB.out.trans (hoE.below HB.out.size (fun q hq=>by omega))⟩
structure KnOk (k:KnA):Prop where
 val:k.val.ok
 rows:∀ r∈k.rows,∀ v∈r,v.ok
 rlen:k.rows.length≤1000000
def AOk (F:Nat→Ans):Prop:=∀ f,(F f).1.ok
theorem zero_ok:AV.ok zeroA:=⟨by unfold fits zeroA;simp only;omega,Nat.zero_le _⟩
theorem wrongA_ok (e:Int):AOk (wrongA e):=fun _=>zero_ok
theorem intA_ok {n:Int} (h:fits n):AOk (intA n):=fun _=>⟨h,Nat.zero_le _⟩
theorem boolA_ok (b:Bool):AOk (boolA b):=fun _=>⟨by unfold fits boolA;cases b<;>simp,Nat.zero_le _⟩
theorem numA_ok {n:Int} (e:Int) (h:fits n):AOk (numA n e):=fun f=>by
 unfold numA
 split
 ·exact zero_ok
 ·exact ⟨h,Nat.zero_le _⟩
theorem ite_aok {c:Prop} [Decidable c] {F G:Nat→Ans} (hF:AOk F) (hG:AOk G):AOk (fun f=>if c then F f else G f):=fun f=>by
 show AV.ok (if c then F f else G f).1
 split
 ·exact hF f
 ·exact hG f
theorem step_aok {F:Nat→Ans} (h:AOk F):AOk (stepF F)
 | 0=>zero_ok
 | f+1=>h f
theorem bind_aok {F:Nat→Ans} {G:AV→Nat→Ans} (hF:AOk F) (hG:∀ x,x.ok→AOk (G x)):AOk (bindA F G):=fun f=>by
 unfold bindA
 split
 ·exact zero_ok
 ·exact hG _ (hF f) _
theorem of_aok {F:Nat→Ans} (hF:AOk F) (k:Int):AOk (ofF F k):=fun f=>by
 unfold ofF
 split
 ·exact hF f
 ·exact hF f
theorem shortN_fits (z:Int):fits (shortN z):=by
 unfold shortN
 split
 ·assumption
 ·unfold fits;omega
theorem fits_zero:fits 0:=by unfold fits;omega
theorem dvN_fits {a b:Int} (ha:fits a):fits (dvN a b):=by
 unfold dvN
 split
 ·exact fits_zero
 ·rename_i h0
  split
  ·exact shortN_fits _
  ·rename_i h1
   have ht:=tdiv_fits a b ha h1
   rcases parts_law a b h0 with ⟨hr,_,_,h,_⟩|⟨_,h,_⟩
   ·have hl:=tdiv_low a b ha h1 hr h0
    unfold fits at *
    omega
   ·rw [h];exact ht
theorem mdN_fits {a b:Int} (ha:fits a) (hb:fits b):fits (mdN a b):=by
 unfold mdN
 split
 ·exact fits_zero
 ·rename_i h0
  split
  ·exact fits_zero
  ·rename_i h1
   obtain ⟨hm,hm2⟩:=tmod_near a b
   rcases parts_law a b h0 with ⟨_,_,hc,_,h⟩|⟨_,_,h⟩
   ·unfold fits at *
    omega
   ·rw [h]
    unfold fits at *
    omega
theorem sumsA_ok {a b:AV} (op:Int) (ha:a.ok) (hb:b.ok):AOk (sumsA op a b) :=
 ite_aok (wrongA_ok 13) (ite_aok (numA_ok _ (shortN_fits _)) (ite_aok (numA_ok _ (shortN_fits _)) (ite_aok (numA_ok _ (shortN_fits _)) (ite_aok (numA_ok _ (dvN_fits ha.1)) (numA_ok _ (mdN_fits ha.1 hb.1))))))
theorem cmpA_ok (op:Int) (a b:AV):AOk (cmpA op a b) :=
 ite_aok (boolA_ok _) (ite_aok (boolA_ok _) (ite_aok (wrongA_ok 13) (ite_aok (boolA_ok _) (ite_aok (boolA_ok _) (ite_aok (boolA_ok _) (boolA_ok _))))))
structure TalOk (t:Tally):Prop where
 c:t.c≤1000000
 z1:-((t.c:Int)*9223372036854775808)≤t.z
 z2:t.z≤(t.c:Int)*9223372036854775808
 le:fits t.least
 mo:fits t.most
theorem TalOk.near {t:Tally} (h:TalOk t):Go.Proofs.YtnpplhkpnbonaaaGreat.near t.z:=by
 obtain ⟨h1,h2,h3,_,_⟩:=h
 unfold Go.Proofs.YtnpplhkpnbonaaaGreat.near
 omega
theorem TalOk.put {t:Tally} (h:TalOk t) {n:Int} (hn:fits n) (hc:t.c+1≤1000000):TalOk (t.put n):=by
 obtain ⟨h1,h2,h3,h4,h5⟩:=h
 unfold fits at *
 refine ⟨hc,?_,?_,?_,?_⟩
 ·show -(((t.c+1:Nat):Int)*9223372036854775808)≤t.z+n
  omega
 ·show t.z+n≤((t.c+1:Nat):Int)*9223372036854775808
  omega
 ·show fits (if t.c=0 then n else min n t.least)
  unfold fits
  split<;>omega
 ·show fits (if t.c=0 then n else max n t.most)
  unfold fits
  split<;>omega
theorem TalOk.zero:TalOk ⟨0,0,0,0⟩:=⟨Nat.zero_le _,by decide,by decide,fits_zero,fits_zero⟩
theorem toldA_ok (op:Int) {t:Tally} (h:TalOk t):AOk (toldA op t) :=
 ite_aok (intA_ok (by have:=h.c;unfold fits;omega)) (ite_aok (numA_ok _ (shortN_fits _)) (ite_aok (wrongA_ok 8) (ite_aok (intA_ok h.le) (intA_ok h.mo))))
theorem cnt1_fit {F:Nat→Ans}:∀ f,fits (cnt1 F f).1.1:=fun f=>by
 unfold Go.Proofs.YtnpplhkpnbonaaaGreat.cnt1
 split<;>exact fits_zero
theorem cnt2_fit {F G:Nat→Ans} (hG:AOk G):∀ f,fits (cnt2 F G f).1.1:=fun f=>by
 unfold Go.Proofs.YtnpplhkpnbonaaaGreat.cnt2
 split
 ·exact fits_zero
 ·exact (of_aok hG 1 _).1
theorem bindC_aok {F:Nat→RA (Int × Bool)} {G:Int × Bool→Nat→Ans} (hF:∀ f,fits (F f).1.1) (hG:∀ x,fits x.1→AOk (G x)):AOk (bindA F G):=fun f=>by
 unfold bindA
 split
 ·exact zero_ok
 ·exact hG _ (hF f) _
theorem foldR_ok (op:Int) (cnt:List AV→Nat→RA (Int × Bool)):∀ (rs:List (List AV)) (t:Tally),(∀ r∈rs,∀ f,fits (cnt r f).1.1)→TalOk t→t.c+rs.length≤1000000→AOk (foldR op cnt rs t)
 | [],t,_,ht,_=>toldA_ok op ht
 | r::rs,t,hc,ht,hl=>step_aok (bindC_aok (hc r List.mem_cons_self) fun x hx=>by
  rw [List.length_cons] at hl
  split
  ·exact foldR_ok op cnt rs _ (fun r' hr'=>hc r' (List.mem_cons_of_mem _ hr')) (ht.put hx (by omega)) (by show t.c+1+rs.length≤1000000;omega)
  ·exact foldR_ok op cnt rs _ (fun r' hr'=>hc r' (List.mem_cons_of_mem _ hr')) ht (by omega))
theorem findK_mem {l:List KnA} {nm:ByteArray} {p:Int→Bool} {k:KnA} (h:findK l nm p=some k):k∈l:=by
 unfold findK at h
 exact List.mem_reverse.1 (List.mem_of_find?_eq_some h)
theorem foldF_ok (h:Hd) (l:List KnA) (cnt:List KnA→Nat→RA (Int × Bool)) (hl:∀ k∈l,KnOk k) (hc:∀ l',(∀ k∈l',KnOk k)→∀ f,fits (cnt l' f).1.1):AOk (foldF h l cnt):=by
 unfold foldF
 cases hf:findK l h.src (fun i=>i == 2) with
 | none=>exact wrongA_ok 13
 | some k =>
  have hk:=hl k (findK_mem hf)
  refine foldR_ok _ _ _ _ (fun r hr=>hc _ ?_) TalOk.zero (by simpa using hk.rlen)
  intro k' hk'
  rcases List.mem_append.1 hk' with h1|h1
  ·exact hl k' h1
  ·rw [List.mem_singleton.1 h1]
   exact ⟨zero_ok,fun r' hr'=>by rw [List.mem_singleton.1 hr'];exact hk.rows r hr,by show 1≤1000000;omega⟩
theorem leafA_ok (h:Hd) (ho:h.ok) (l:List KnA) (hl:∀ k∈l,KnOk k):AOk (leafA h l):=by
 refine ite_aok (intA_ok (by have:=ho.2.1;unfold fits;unfold fit64 at this;omega)) (ite_aok (fun _=>⟨fits_zero,ho.2.2.1⟩) (ite_aok (boolA_ok _) ?_))
 cases hf:findK l h.name (fun i=>i == 0 || i == 1) with
 | none=>exact wrongA_ok 13
 | some k =>
  have hk:=hl k (findK_mem hf)
  refine ite_aok (ite_aok (fun _=>hk.val) (wrongA_ok 13)) (fun f=>?_)
  unfold colA
  split
  ·split
   ·rename_i v hv
    obtain ⟨hi,hv⟩:=List.getElem?_eq_some_iff.1 hv
    cases hr:k.rows[0]? with
    | none=>simp only [hr,Option.getD_none] at hi;simp at hi
    | some r =>
     have hrm:r∈k.rows:=List.mem_of_getElem? hr
     simp only [hr,Option.getD_some] at hi hv
     rw [←hv]
     exact hk.rows r hrm _ (List.getElem_mem hi)
   ·exact zero_ok
  ·exact zero_ok
theorem evalX_ok:∀ (x:EX) (l:List KnA),x.ok→(∀ k∈l,KnOk k)→AOk (evalX x l)
 | .leaf h,l,ho,hl=>step_aok (leafA_ok h ho l hl)
 | .one h _ a,l,ho,hl=>step_aok (by
  split
  ·exact bind_aok (of_aok (evalX_ok a l ho.2 hl) _) fun x hx=>ite_aok (boolA_ok _) (numA_ok _ (shortN_fits _))
  ·exact foldF_ok h l _ hl fun l' hl'=>cnt1_fit)
 | .two h _ a b,l,ho,hl=>step_aok (by
  split
  ·exact bind_aok (of_aok (evalX_ok a l ho.2.1 hl) 3) fun x hx=>ite_aok (fun _=>hx) (bind_aok (of_aok (evalX_ok b l ho.2.2 hl) 3) fun y hy=>fun _=>hy)
  ·split
   ·exact foldF_ok h l _ hl fun l' hl'=>cnt2_fit (evalX_ok b l' ho.2.2 hl')
   ·exact bind_aok (evalX_ok a l ho.2.1 hl) fun x hx=>bind_aok (evalX_ok b l ho.2.2 hl) fun y hy=>ite_aok (wrongA_ok 13) (ite_aok (sumsA_ok _ hx hy) (cmpA_ok _ _ _)))
theorem KnAt.aok {w:World} {B:Nat→Prop} {k:KnM} (h:KnAt w B k):KnOk k.a :=
 ⟨h.val,fun r hr=>by
  obtain ⟨r',hr',rfl⟩:=List.mem_map.1 hr
  exact h.rok r' hr',by show (k.rows.map RowV.l).length≤1000000;rw [List.length_map];exact h.rlen⟩
theorem EnvAt.aok {w:World} {eb f:Nat} {v:Value} {l:List KnM} (h:EnvAt w eb f v l):∀ k∈l.map KnM.a,KnOk k:=fun k hk=>by
 obtain ⟨k',hk',rfl⟩:=List.mem_map.1 hk
 exact (h.kn k' hk').aok
structure BoxAt (W:World) (eb:Nat) (v:Value) (b:Nat) (t:TypeId) (cs:List Value):Prop where
 blk:Blk W b t cs
 ne:b≠eb
 nv:v.ownBlock≠some b
theorem BoxAt.step {W W':World} {eb b:Nat} {v v':Value} {t:TypeId} {cs:List Value} (h:BoxAt W eb v b t cs) (s:EnvS W W' eb v v'):BoxAt W' eb v' b t cs :=
 ⟨h.blk.only s.only (fun e=>by
  rcases e with e|e
  ·exact h.ne e
  ·exact h.nv e),h.ne,fun e=>by
  rcases s.own b e with h1|h1
  ·exact h.nv h1
  ·have:=h.blk.lt
   omega⟩
theorem BoxAt.below {W W':World} {eb b:Nat} {v:Value} {t:TypeId} {cs:List Value} (h:BoxAt W eb v b t cs) (s:Below W.heap.size W W'):BoxAt W' eb v b t cs:=h.step (EnvS.of_below s)
theorem BoxAt.fresh {w W:World} {eb f b:Nat} {v:Value} {l:List KnM} {t:TypeId} {cs:List Value} (h:EnvAt w eb f v l) (hk:Blk W b t cs) (hb:b=w.heap.size):BoxAt W eb v b t cs :=
 ⟨hk,by have:=h.blk.lt;omega,fun e=>by have:=h.own.lt b e;omega⟩
theorem BoxAt.other {W W':World} {eb b r:Nat} {v:Value} {t:TypeId} {cs:List Value} (h:BoxAt W eb v b t cs) (ho:Only (fun q=>q=r) W W') (hr:b≠r):BoxAt W' eb v b t cs:=⟨h.blk.only ho hr,h.ne,h.nv⟩
theorem EnvS.wr {w W W':World} {eb r:Nat} {v v':Value} (hs:EnvS w W eb v v') (ho:Only (fun q=>q=r) W W') (hr:w.heap.size≤r):EnvS w W' eb v v' :=
 ⟨hs.only.trans ho (fun i hi e=>by omega),hs.own⟩
theorem EnvAt.wr {w W W':World} {eb f f0 r:Nat} {v v':Value} {l:List KnM} {t:TypeId} {cs:List Value} (h0:EnvAt w eb f0 v l) (hW:EnvAt W eb f v' l) (hs:EnvS w W eb v v') (hr:w.heap.size≤r) (hb:BoxAt W eb v' r t cs) (ho:Only (fun q=>q=r) W W'):EnvAt W' eb f v' l :=
 ⟨hW.blk.only ho (fun e=>hb.ne e.symm),hW.own.only ho (fun q hq e=>hb.nv (e▸hq)),hW.ne,fun k hk=>(h0.kn k hk).next (hs.wr ho hr),hW.fuel,hW.lim⟩
def EX.dep:EX→Nat
 | .leaf _=>0
 | .one _ _ a=>a.dep+1
 | .two _ _ a b=>max a.dep b.dep+1
def EvOut (w:World) (eb:Nat) (v:Value) (l:List KnM) (a:Ans) (e:Ending) (w':World):Prop :=
 ∃ v',e=.returned (.tuple #[.agg #[.int .i64 a.1.kind,.int .i64 a.1.n,.string a.1.s],.int .i64 a.2.1])∧EnvAt w' eb a.2.2 v' l∧EnvS w w' eb v v'
theorem numA_eq (n e:Int) (f:Nat):numA n e f=((numA n e 0).1,(numA n e 0).2.1,f):=by
 unfold numA
 split<;>rfl
theorem sumsA_eq (op:Int) (a b:AV) (f:Nat):sumsA op a b f=((sumsA op a b 0).1,(sumsA op a b 0).2.1,f):=by
 unfold sumsA
 repeat' split
 all_goals first|rfl|exact numA_eq _ _ _
theorem cmpA_eq (op:Int) (a b:AV) (f:Nat):cmpA op a b f=((cmpA op a b 0).1,(cmpA op a b 0).2.1,f):=by
 unfold cmpA
 repeat' split
 all_goals rfl
theorem toldA_eq (op:Int) (t:Tally) (f:Nat):toldA op t f=((toldA op t 0).1,(toldA op t 0).2.1,f):=by
 unfold toldA
 repeat' split
 all_goals first|rfl|exact numA_eq _ _ _
theorem colA_eq (k:KnA) (nm:ByteArray) (f:Nat):colA k nm f=((colA k nm 0).1,(colA k nm 0).2.1,f):=by
 unfold colA
 repeat' split
 all_goals rfl
def EvalAt (x:EX):Prop:=∀ (w:World) (eb f:Nat) (v:Value) (l:List KnM) (p:Option Addr) (c:Nat),EnvAt w eb f v l→x.at w (offE eb v)→x.av=.slice p x.kids.length c→l.length+x.dep≤1000000 →
 Calls Tryz.prog 26 #[.pointer (some ⟨eb,0,none⟩),.agg #[.int .i64 x.hd.op,.int .i64 x.hd.n,.string x.hd.s,.string x.hd.name,.string x.hd.src,.slice p x.kids.length c]] w (EvOut w eb v l (evalX x (l.map KnM.a) f))
theorem evof_any (x:EX) (hxe:EvalAt x) (w:World) (eb f:Nat) (v:Value) (l:List KnM) (p:Option Addr) (c:Nat) (hE:EnvAt w eb f v l) (hx:x.at w (offE eb v)) (hv:x.av=.slice p x.kids.length c) (hd:l.length+x.dep≤1000000) (kind:Int) :
 Calls Tryz.prog 71 #[.pointer (some ⟨eb,0,none⟩),.agg #[.int .i64 x.hd.op,.int .i64 x.hd.n,.string x.hd.s,.string x.hd.name,.string x.hd.src,.slice p x.kids.length c],.int .i64 kind] w (EvOut w eb v l (ofF (evalX x (l.map KnM.a)) kind f)):=by
 obtain ⟨w1,hw1⟩:∃ w1,w.alloc (.cells #[.int .i64 x.hd.op,.int .i64 x.hd.n,.string x.hd.s,.string x.hd.name,.string x.hd.src,.slice p x.kids.length c] 27)=w1:=⟨_,rfl⟩
 have hb1:Below w.heap.size w w1:=hw1▸(Below.refl _ _).alloc (Nat.le_refl _) _
 have hk1:Blk w1 w.heap.size 27 [.int .i64 x.hd.op,.int .i64 x.hd.n,.string x.hd.s,.string x.hd.name,.string x.hd.src,.slice p x.kids.length c]:=hw1▸Blk.new w _ _
 obtain ⟨w2,hw2⟩:∃ w2,w1.alloc (.cells #[.int .i64 0,.int .i64 0,.string ⟨#[]⟩] 35)=w2:=⟨_,rfl⟩
 have hb2:Below w1.heap.size w1 w2:=hw2▸(Below.refl _ _).alloc (Nat.le_refl _) _
 have hk2:Blk w2 w1.heap.size 35 [.int .i64 0,.int .i64 0,.string ⟨#[]⟩]:=hw2▸Blk.new w1 _ _
 have hl12:w.heap.size < w1.heap.size:=hk1.lt
 have hl12':w.heap.size≤w1.heap.size:=Nat.le_of_lt hl12
 have hs2:EnvS w w2 eb v v:=EnvS.of_below (hb1.trans (hb2.mono hb1.size))
 have he2:=(hE.below hb1).below hb2
 have hbx:BoxAt w2 eb v w.heap.size 27 [.int .i64 x.hd.op,.int .i64 x.hd.n,.string x.hd.s,.string x.hd.name,.string x.hd.src,.slice p x.kids.length c]:=(BoxAt.fresh hE hk1 rfl).below hb2
 have hbr:BoxAt w2 eb v w1.heap.size 35 [.int .i64 0,.int .i64 0,.string ⟨#[]⟩]:=BoxAt.fresh (hE.below hb1) hk2 rfl
 have H0:=Lib.hid hE
 have HX:=Lib.hid hx
 have HV:=Lib.hid hv
 have HE:=Lib.hid he2
 have HS:=Lib.hid hs2
 have HBX:=Lib.hid hbx
 have HBR:=Lib.hid hbr
 obtain ⟨d0,d1,d2,d3,d4,d5⟩:=six_cells hbx.blk
 have hld:=hbx.blk.lt
 clear hb1 hk1 hb2 hk2 hs2 he2 hbx hbr hE hx hv
 have HC:=Lib.hid (hxe w2 eb f v l p c HE.out (EX.next HS.out HX.out) HV.out hd)
 obtain ⟨⟨⟨ok,on,os⟩,oe,ff⟩,hout⟩:∃ out,ofF (evalX x (l.map KnM.a)) kind f=out:=⟨_,rfl⟩
 rw [hout]
 unfold ofF at hout
 have HO:=Lib.hid hout
 clear hout
 go_enter Tryz.func71,Tryz.ntmps71
 go_wp2_with fail
 clear hw1 hw2 d0 d1 d2 d3 d4 d5 hld
 refine HC.out.mono ?_
 clear HC
 generalize evalX x (l.map KnM.a) f=a at *
 obtain ⟨⟨ak,an,sa⟩,ae,f3⟩:=a
 rintro e w3 ⟨v3,rfl,he3,hs3⟩
 simp only at he3 hs3 HO
 replace HS:=Lib.hid (HS.out.trans hs3)
 replace HBX:=Lib.hid (HBX.out.step hs3)
 replace HBR:=Lib.hid (HBR.out.step hs3)
 obtain ⟨w4,hw4⟩:∃ w4,w3.alloc (.cells #[.int .i64 ak,.int .i64 an,.string sa] 35)=w4:=⟨_,rfl⟩
 have hb4:Below w3.heap.size w3 w4:=hw4▸(Below.refl _ _).alloc (Nat.le_refl _) _
 have hk4:Blk w4 w3.heap.size 35 [.int .i64 ak,.int .i64 an,.string sa]:=hw4▸Blk.new w3 _ _
 replace HS:=Lib.hid (HS.out.trans (EnvS.of_below hb4))
 replace HBX:=Lib.hid (HBX.out.step (EnvS.of_below hb4))
 replace HBR:=Lib.hid (HBR.out.step (EnvS.of_below hb4))
 replace HE:=Lib.hid (he3.below hb4)
 have HW4:=Lib.hid hw4
 obtain ⟨y0,y1,y2⟩:=three_cells hk4
 have hl4:=hk4.lt
 clear hw4 hb4 hk4 he3 hs3
 go_upto_region 2 with fail
 rw [HW4.out]
 by_cases h0:ae=0
 ·by_cases hk:ak=kind
  ·have t1:(ak != kind)=false:=by simp [hk]
   have hq:=HO.out
   rw [if_neg (fun h=>h.2 hk)] at hq
   clear hk
   cases hq
   subst h0
   have hkr:=HBR.out.blk
   obtain ⟨z0,z1,z2⟩:=three_cells hkr
   have hfr:=fun i=>hkr.frozen i
   have hlk:=hkr.lt
   clear hkr
   go_wp2
   obtain ⟨hkE,hoE⟩:=set_threeE HBR.out.blk (.int .i64 ok) (.int .i64 on) (.string os)
   generalize ((w4.setCell ⟨w1.heap.size,0,none⟩ (.int .i64 ok)).setCell ⟨w1.heap.size,1,none⟩ (.int .i64 on)).setCell ⟨w1.heap.size,2,none⟩ (.string os)=wE at *
   obtain ⟨m0,m1,m2⟩:=three_cells hkE
   exact bodyPost_ret (v:=.tuple #[.agg #[.int .i64 ok,.int .i64 on,.string os],.int .i64 0]) (by simp [results,Tryz.results71,go_sem,m0,m1,m2]) rfl ⟨_,rfl,EnvAt.wr H0.out HE.out HS.out hl12' HBR.out hoE,EnvS.wr HS.out hoE hl12'⟩
  ·have t1:(ak != kind)=true:=by simp [hk]
   have hq:=HO.out
   rw [if_pos ⟨h0,hk⟩] at hq
   clear hk
   cases hq
   subst h0
   have hkr:=HBR.out.blk
   obtain ⟨z0,z1,z2⟩:=three_cells hkr
   have hfr:=fun i=>hkr.frozen i
   have hlk:=hkr.lt
   clear hkr
   go_wp2
   obtain ⟨hkE,hoE⟩:=set_threeE HBR.out.blk (.int .i64 ok) (.int .i64 on) (.string os)
   generalize ((w4.setCell ⟨w1.heap.size,0,none⟩ (.int .i64 ok)).setCell ⟨w1.heap.size,1,none⟩ (.int .i64 on)).setCell ⟨w1.heap.size,2,none⟩ (.string os)=wE at *
   obtain ⟨m0,m1,m2⟩:=three_cells hkE
   exact bodyPost_ret (v:=.tuple #[.agg #[.int .i64 ok,.int .i64 on,.string os],.int .i64 13]) (by simp [results,Tryz.results71,go_sem,m0,m1,m2]) rfl ⟨_,rfl,EnvAt.wr H0.out HE.out HS.out hl12' HBR.out hoE,EnvS.wr HS.out hoE hl12'⟩
 ·have t0:(ae == 0)=false:=by simp [h0]
  have hq:=HO.out
  rw [if_neg (fun h=>h0 h.1)] at hq
  clear h0
  cases hq
  have hkr:=HBR.out.blk
  obtain ⟨z0,z1,z2⟩:=three_cells hkr
  have hfr:=fun i=>hkr.frozen i
  have hlk:=hkr.lt
  clear hkr
  go_wp2
  obtain ⟨hkE,hoE⟩:=set_threeE HBR.out.blk (.int .i64 ok) (.int .i64 on) (.string os)
  generalize ((w4.setCell ⟨w1.heap.size,0,none⟩ (.int .i64 ok)).setCell ⟨w1.heap.size,1,none⟩ (.int .i64 on)).setCell ⟨w1.heap.size,2,none⟩ (.string os)=wE at *
  obtain ⟨m0,m1,m2⟩:=three_cells hkE
  exact bodyPost_ret (v:=.tuple #[.agg #[.int .i64 ok,.int .i64 on,.string os],.int .i64 oe]) (by simp [results,Tryz.results71,go_sem,m0,m1,m2]) rfl ⟨_,rfl,EnvAt.wr H0.out HE.out HS.out hl12' HBR.out hoE,EnvS.wr HS.out hoE hl12'⟩
theorem one_anyE (x a:EX) (hkids:x.kids=[a]) (ha:EvalAt a) (hao:a.ok) (hop:x.hd.op=19∨x.hd.op=20) (w:World) (eb f:Nat) (v:Value) (l:List KnM) (p:Option Addr) (c:Nat) (hE:EnvAt w eb f v l) (hx:x.at w (offE eb v)) (hv:x.av=.slice p x.kids.length c) (hd:l.length+a.dep≤1000000) :
 Calls Tryz.prog 49 #[.pointer (some ⟨eb,0,none⟩),.agg #[.int .i64 x.hd.op,.int .i64 x.hd.n,.string x.hd.s,.string x.hd.name,.string x.hd.src,.slice p x.kids.length c]] w (EvOut w eb v l (oneF x.hd.op (evalX a (l.map KnM.a)) f)):=by
 obtain ⟨w1,hw1⟩:∃ w1,w.alloc (.cells #[.int .i64 x.hd.op,.int .i64 x.hd.n,.string x.hd.s,.string x.hd.name,.string x.hd.src,.slice p x.kids.length c] 27)=w1:=⟨_,rfl⟩
 have hb1:Below w.heap.size w w1:=hw1▸(Below.refl _ _).alloc (Nat.le_refl _) _
 have hk1:Blk w1 w.heap.size 27 [.int .i64 x.hd.op,.int .i64 x.hd.n,.string x.hd.s,.string x.hd.name,.string x.hd.src,.slice p x.kids.length c]:=hw1▸Blk.new w _ _
 obtain ⟨w2,hw2⟩:∃ w2,w1.alloc (.cells #[.int .i64 0,.int .i64 0,.string ⟨#[]⟩] 35)=w2:=⟨_,rfl⟩
 have hb2:Below w1.heap.size w1 w2:=hw2▸(Below.refl _ _).alloc (Nat.le_refl _) _
 have hk2:Blk w2 w1.heap.size 35 [.int .i64 0,.int .i64 0,.string ⟨#[]⟩]:=hw2▸Blk.new w1 _ _
 have hl12:w.heap.size < w1.heap.size:=hk1.lt
 have hl12':w.heap.size≤w1.heap.size:=Nat.le_of_lt hl12
 have hs2:EnvS w w2 eb v v:=EnvS.of_below (hb1.trans (hb2.mono hb1.size))
 have he2:=(hE.below hb1).below hb2
 have hbx:BoxAt w2 eb v w.heap.size 27 [.int .i64 x.hd.op,.int .i64 x.hd.n,.string x.hd.s,.string x.hd.name,.string x.hd.src,.slice p x.kids.length c]:=(BoxAt.fresh hE hk1 rfl).below hb2
 have hbr:BoxAt w2 eb v w1.heap.size 35 [.int .i64 0,.int .i64 0,.string ⟨#[]⟩]:=BoxAt.fresh (hE.below hb1) hk2 rfl
 have H0:=Lib.hid hE
 have HX:=Lib.hid hx
 have HV:=Lib.hid hv
 have HE:=Lib.hid he2
 have HS:=Lib.hid hs2
 have HBX:=Lib.hid hbx
 have HBR:=Lib.hid hbr
 obtain ⟨d0,d1,d2,d3,d4,d5⟩:=six_cells hbx.blk
 have hld:=hbx.blk.lt
 clear hb1 hk1 hb2 hk2 hs2 he2 hbx hbr hE hx hv
 obtain ⟨gA,oA,capA,hvA,hglA,_,kA0,kA1,kA2,kA3,kA4,kA5⟩:=EX.kid (EX.next HS.out HX.out) (k:=0) (by rw [hkids];exact Nat.zero_lt_one)
 rw [HV.out] at hvA
 cases hvA
 simp only [hkids,List.getElem_cons_zero,List.getElem_cons_succ,Nat.zero_mul,Nat.one_mul,Nat.add_zero] at kA0 kA1 kA2 kA3 kA4 kA5
 have hya:a.at w2 (offE eb v):=(EX.at_kids (EX.next HS.out HX.out)).2 a (by rw [hkids];exact List.mem_cons_self)
 obtain ⟨p',c',hva⟩:=EX.form_kids hya
 rw [hva] at kA5
 have hl0:0 < x.kids.length:=by rw [hkids];exact Nat.zero_lt_one
 clear hkids
 obtain ⟨⟨⟨ok,on,os⟩,oe,ff⟩,hout⟩:∃ out,oneF x.hd.op (evalX a (l.map KnM.a)) f=out:=⟨_,rfl⟩
 rw [hout]
 unfold oneF bindA at hout
 have HO:=Lib.hid hout
 clear hout
 go_enter Tryz.func49,Tryz.ntmps49
 rcases hop with hop|hop
 ·skip
  simp only [if_pos hop] at HO
  have t1:(x.hd.op == 19)=true:=by simp [hop]
  clear hop
  have HC:=Lib.hid (evof_any a ha w2 eb f v l p' c' HE.out hya hva (by omega) 3)
  go_wp2_with fail
  clear hw1 hw2 d0 d1 d2 d3 d4 d5 hld kA0 kA1 kA2 kA3 kA4 kA5 hglA
  refine HC.out.mono ?_
  clear HC
  have hok:=of_aok (evalX_ok a (l.map KnM.a) hao H0.out.aok) 3 f
  obtain ⟨⟨⟨ak,an,sa⟩,ae,f3⟩,ha3⟩:∃ q,ofF (evalX a (l.map KnM.a)) 3 f=q:=⟨_,rfl⟩
  rw [ha3] at HO hok ⊢
  simp only at HO hok
  have HOKN:=Lib.hid hok.1
  clear ha3 hok
  rintro e w3 ⟨v3,rfl,he3,hs3⟩
  simp only at he3
  replace HS:=Lib.hid (HS.out.trans hs3)
  replace HBX:=Lib.hid (HBX.out.step hs3)
  replace HBR:=Lib.hid (HBR.out.step hs3)
  replace HE:=Lib.hid he3
  clear he3 hs3
  obtain ⟨w4,hw4⟩:∃ w4,w3.alloc (.cells #[.int .i64 ak,.int .i64 an,.string sa] 35)=w4:=⟨_,rfl⟩
  have hb4:Below w3.heap.size w3 w4:=hw4▸(Below.refl _ _).alloc (Nat.le_refl _) _
  have hk4:Blk w4 w3.heap.size 35 [.int .i64 ak,.int .i64 an,.string sa]:=hw4▸Blk.new w3 _ _
  have hbv:BoxAt w4 eb v3 w3.heap.size 35 [.int .i64 ak,.int .i64 an,.string sa]:=BoxAt.fresh HE.out hk4 rfl
  have HBV:=Lib.hid hbv
  replace HS:=Lib.hid (HS.out.trans (EnvS.of_below hb4))
  replace HBX:=Lib.hid (HBX.out.step (EnvS.of_below hb4))
  replace HBR:=Lib.hid (HBR.out.step (EnvS.of_below hb4))
  replace HE:=Lib.hid (HE.out.below hb4)
  have HW4:=Lib.hid hw4
  obtain ⟨y0,y1,y2⟩:=three_cells hk4
  have hl4:=hk4.lt
  clear hw4 hb4 hk4 hbv
  go_upto_region 5 with fail
  rw [HW4.out]
  by_cases h0:ae=0
  ·have t0:(ae != 0)=false:=by simp [h0]
   have hq:=HO.out
   rw [if_neg (fun h=>h h0)] at hq
   have hq:((⟨3,if (an == 0) then 1 else 0,⟨#[]⟩⟩:AV),(0:Int),f3)=(⟨ok,on,os⟩,oe,ff):=hq
   have HN:Hid (∀ W,Calls Tryz.prog 46 #[.bool (an == 0)] W (ValOut W ⟨ok,on,os⟩)):=Lib.hid fun W=>by
    have h1:=bool_e W (an == 0)
    rw [show (⟨3,if (an == 0) then 1 else 0,⟨#[]⟩⟩:AV)=⟨ok,on,os⟩ from congrArg Prod.fst hq] at h1
    exact h1
   obtain rfl:0=oe:=congrArg (fun q=>q.2.1) hq
   obtain rfl:f3=ff:=congrArg (fun q=>q.2.2) hq
   clear hq h0 HO
   go_wp2_with fail
   refine (HN.out _).mono ?_
   clear HN
   rintro r w9 ⟨rfl,hb9⟩
   replace HS:=Lib.hid (HS.out.trans (EnvS.of_below hb9))
   replace HBX:=Lib.hid (HBX.out.step (EnvS.of_below hb9))
   replace HBR:=Lib.hid (HBR.out.step (EnvS.of_below hb9))
   replace HE:=Lib.hid (HE.out.below hb9)
   clear hb9
   have hkr:=HBR.out.blk
   obtain ⟨z0,z1,z2⟩:=three_cells hkr
   have hfr:=fun i=>hkr.frozen i
   have hlk:=hkr.lt
   clear hkr
   go_wp2
   obtain ⟨hkE,hoE⟩:=set_threeE HBR.out.blk (.int .i64 ok) (.int .i64 on) (.string os)
   generalize ((w9.setCell ⟨w1.heap.size,0,none⟩ (.int .i64 ok)).setCell ⟨w1.heap.size,1,none⟩ (.int .i64 on)).setCell ⟨w1.heap.size,2,none⟩ (.string os)=wE at *
   obtain ⟨m0,m1,m2⟩:=three_cells hkE
   exact bodyPost_ret (v:=.tuple #[.agg #[.int .i64 ok,.int .i64 on,.string os],.int .i64 0]) (by simp [results,Tryz.results49,go_sem,m0,m1,m2]) rfl ⟨_,rfl,EnvAt.wr H0.out HE.out HS.out hl12' HBR.out hoE,EnvS.wr HS.out hoE hl12'⟩
  ·have t0:(ae != 0)=true:=by simp [h0]
   have hq:=HO.out
   rw [if_pos h0] at hq
   unfold wrongA zeroA at hq
   clear h0
   cases hq
   have HR:=Lib.hid (wrong_e w4 oe)
   go_wp2_with fail
   refine HR.out.mono ?_
   clear HR
   rintro r w9 ⟨rfl,hb9⟩
   unfold zeroA
   replace HS:=Lib.hid (HS.out.trans (EnvS.of_below hb9))
   replace HBX:=Lib.hid (HBX.out.step (EnvS.of_below hb9))
   replace HBR:=Lib.hid (HBR.out.step (EnvS.of_below hb9))
   replace HE:=Lib.hid (HE.out.below hb9)
   clear hb9
   have hkr:=HBR.out.blk
   obtain ⟨z0,z1,z2⟩:=three_cells hkr
   have hfr:=fun i=>hkr.frozen i
   have hlk:=hkr.lt
   clear hkr
   go_wp2
   obtain ⟨hkE,hoE⟩:=set_threeE HBR.out.blk (.int .i64 0) (.int .i64 0) (.string ⟨#[]⟩)
   generalize ((w9.setCell ⟨w1.heap.size,0,none⟩ (.int .i64 0)).setCell ⟨w1.heap.size,1,none⟩ (.int .i64 0)).setCell ⟨w1.heap.size,2,none⟩ (.string ⟨#[]⟩)=wE at *
   obtain ⟨m0,m1,m2⟩:=three_cells hkE
   exact bodyPost_ret (v:=.tuple #[.agg #[.int .i64 0,.int .i64 0,.string ⟨#[]⟩],.int .i64 oe]) (by simp [results,Tryz.results49,go_sem,m0,m1,m2]) rfl ⟨_,rfl,EnvAt.wr H0.out HE.out HS.out hl12' HBR.out hoE,EnvS.wr HS.out hoE hl12'⟩
 ·skip
  have hno:¬ x.hd.op=19:=by omega
  simp only [if_neg hno] at HO
  have t1:(x.hd.op == 19)=false:=by simp [hno]
  clear hop hno
  have HC:=Lib.hid (evof_any a ha w2 eb f v l p' c' HE.out hya hva (by omega) 1)
  go_wp2_with fail
  clear hw1 hw2 d0 d1 d2 d3 d4 d5 hld kA0 kA1 kA2 kA3 kA4 kA5 hglA
  refine HC.out.mono ?_
  clear HC
  have hok:=of_aok (evalX_ok a (l.map KnM.a) hao H0.out.aok) 1 f
  obtain ⟨⟨⟨ak,an,sa⟩,ae,f3⟩,ha3⟩:∃ q,ofF (evalX a (l.map KnM.a)) 1 f=q:=⟨_,rfl⟩
  rw [ha3] at HO hok ⊢
  simp only at HO hok
  have HOKN:=Lib.hid hok.1
  clear ha3 hok
  rintro e w3 ⟨v3,rfl,he3,hs3⟩
  simp only at he3
  replace HS:=Lib.hid (HS.out.trans hs3)
  replace HBX:=Lib.hid (HBX.out.step hs3)
  replace HBR:=Lib.hid (HBR.out.step hs3)
  replace HE:=Lib.hid he3
  clear he3 hs3
  obtain ⟨w4,hw4⟩:∃ w4,w3.alloc (.cells #[.int .i64 ak,.int .i64 an,.string sa] 35)=w4:=⟨_,rfl⟩
  have hb4:Below w3.heap.size w3 w4:=hw4▸(Below.refl _ _).alloc (Nat.le_refl _) _
  have hk4:Blk w4 w3.heap.size 35 [.int .i64 ak,.int .i64 an,.string sa]:=hw4▸Blk.new w3 _ _
  have hbv:BoxAt w4 eb v3 w3.heap.size 35 [.int .i64 ak,.int .i64 an,.string sa]:=BoxAt.fresh HE.out hk4 rfl
  have HBV:=Lib.hid hbv
  replace HS:=Lib.hid (HS.out.trans (EnvS.of_below hb4))
  replace HBX:=Lib.hid (HBX.out.step (EnvS.of_below hb4))
  replace HBR:=Lib.hid (HBR.out.step (EnvS.of_below hb4))
  replace HE:=Lib.hid (HE.out.below hb4)
  have HW4:=Lib.hid hw4
  obtain ⟨y0,y1,y2⟩:=three_cells hk4
  have hl4:=hk4.lt
  clear hw4 hb4 hk4 hbv
  go_upto_region 5 with fail
  rw [HW4.out]
  by_cases h0:ae=0
  ·have t0:(ae != 0)=false:=by simp [h0]
   have hq:=HO.out
   rw [if_neg (fun h=>h h0),numA_eq] at hq
   have HN:Hid (∀ W,Calls Tryz.prog 72 #[.int .i64 (shortN (-an)),.int .i64 (shortE (-an))] W (PairOut W ⟨ok,on,os⟩ oe)):=Lib.hid fun W=>by
    have h1:=number_e W (shortN (-an)) (shortE (-an))
    rw [show (numA (shortN (-an)) (shortE (-an)) 0).1=⟨ok,on,os⟩ from congrArg Prod.fst hq,show (numA (shortN (-an)) (shortE (-an)) 0).2.1=oe from congrArg (fun q=>q.2.1) hq] at h1
    exact h1
   obtain rfl:f3=ff:=congrArg (fun q=>q.2.2) hq
   have HNG:=Lib.hid (neg_any w4 an HOKN.out)
   clear hq h0 HO
   go_wp2_with fail
   refine HNG.out.mono ?_
   clear HNG
   rintro r w8 ⟨rfl,hb8⟩
   replace HS:=Lib.hid (HS.out.trans (EnvS.of_below hb8))
   replace HBX:=Lib.hid (HBX.out.step (EnvS.of_below hb8))
   replace HBR:=Lib.hid (HBR.out.step (EnvS.of_below hb8))
   replace HE:=Lib.hid (HE.out.below hb8)
   clear hb8
   go_wp2_with fail
   refine (HN.out _).mono ?_
   clear HN
   rintro r w9 ⟨rfl,hb9⟩
   replace HS:=Lib.hid (HS.out.trans (EnvS.of_below hb9))
   replace HBX:=Lib.hid (HBX.out.step (EnvS.of_below hb9))
   replace HBR:=Lib.hid (HBR.out.step (EnvS.of_below hb9))
   replace HE:=Lib.hid (HE.out.below hb9)
   clear hb9
   have hkr:=HBR.out.blk
   obtain ⟨z0,z1,z2⟩:=three_cells hkr
   have hfr:=fun i=>hkr.frozen i
   have hlk:=hkr.lt
   clear hkr
   go_wp2
   obtain ⟨hkE,hoE⟩:=set_threeE HBR.out.blk (.int .i64 ok) (.int .i64 on) (.string os)
   generalize ((w9.setCell ⟨w1.heap.size,0,none⟩ (.int .i64 ok)).setCell ⟨w1.heap.size,1,none⟩ (.int .i64 on)).setCell ⟨w1.heap.size,2,none⟩ (.string os)=wE at *
   obtain ⟨m0,m1,m2⟩:=three_cells hkE
   exact bodyPost_ret (v:=.tuple #[.agg #[.int .i64 ok,.int .i64 on,.string os],.int .i64 oe]) (by simp [results,Tryz.results49,go_sem,m0,m1,m2]) rfl ⟨_,rfl,EnvAt.wr H0.out HE.out HS.out hl12' HBR.out hoE,EnvS.wr HS.out hoE hl12'⟩
  ·have t0:(ae != 0)=true:=by simp [h0]
   have hq:=HO.out
   rw [if_pos h0] at hq
   unfold wrongA zeroA at hq
   clear h0
   cases hq
   have HR:=Lib.hid (wrong_e w4 oe)
   go_wp2_with fail
   refine HR.out.mono ?_
   clear HR
   rintro r w9 ⟨rfl,hb9⟩
   unfold zeroA
   replace HS:=Lib.hid (HS.out.trans (EnvS.of_below hb9))
   replace HBX:=Lib.hid (HBX.out.step (EnvS.of_below hb9))
   replace HBR:=Lib.hid (HBR.out.step (EnvS.of_below hb9))
   replace HE:=Lib.hid (HE.out.below hb9)
   clear hb9
   have hkr:=HBR.out.blk
   obtain ⟨z0,z1,z2⟩:=three_cells hkr
   have hfr:=fun i=>hkr.frozen i
   have hlk:=hkr.lt
   clear hkr
   go_wp2
   obtain ⟨hkE,hoE⟩:=set_threeE HBR.out.blk (.int .i64 0) (.int .i64 0) (.string ⟨#[]⟩)
   generalize ((w9.setCell ⟨w1.heap.size,0,none⟩ (.int .i64 0)).setCell ⟨w1.heap.size,1,none⟩ (.int .i64 0)).setCell ⟨w1.heap.size,2,none⟩ (.string ⟨#[]⟩)=wE at *
   obtain ⟨m0,m1,m2⟩:=three_cells hkE
   exact bodyPost_ret (v:=.tuple #[.agg #[.int .i64 0,.int .i64 0,.string ⟨#[]⟩],.int .i64 oe]) (by simp [results,Tryz.results49,go_sem,m0,m1,m2]) rfl ⟨_,rfl,EnvAt.wr H0.out HE.out HS.out hl12' HBR.out hoE,EnvS.wr HS.out hoE hl12'⟩
theorem both_anyE (x a b:EX) (hkids:x.kids=[a,b]) (ha:EvalAt a) (hb:EvalAt b) (w:World) (eb f:Nat) (v:Value) (l:List KnM) (p:Option Addr) (c:Nat) (hE:EnvAt w eb f v l) (hx:x.at w (offE eb v)) (hv:x.av=.slice p x.kids.length c) (hda:l.length+a.dep≤1000000) (hdb:l.length+b.dep≤1000000) :
 Calls Tryz.prog 50 #[.pointer (some ⟨eb,0,none⟩),.agg #[.int .i64 x.hd.op,.int .i64 x.hd.n,.string x.hd.s,.string x.hd.name,.string x.hd.src,.slice p x.kids.length c]] w (EvOut w eb v l (bothF x.hd.op (evalX a (l.map KnM.a)) (evalX b (l.map KnM.a)) f)):=by
 obtain ⟨w1,hw1⟩:∃ w1,w.alloc (.cells #[.int .i64 x.hd.op,.int .i64 x.hd.n,.string x.hd.s,.string x.hd.name,.string x.hd.src,.slice p x.kids.length c] 27)=w1:=⟨_,rfl⟩
 have hb1:Below w.heap.size w w1:=hw1▸(Below.refl _ _).alloc (Nat.le_refl _) _
 have hk1:Blk w1 w.heap.size 27 [.int .i64 x.hd.op,.int .i64 x.hd.n,.string x.hd.s,.string x.hd.name,.string x.hd.src,.slice p x.kids.length c]:=hw1▸Blk.new w _ _
 obtain ⟨w2,hw2⟩:∃ w2,w1.alloc (.cells #[.int .i64 0,.int .i64 0,.string ⟨#[]⟩] 35)=w2:=⟨_,rfl⟩
 have hb2:Below w1.heap.size w1 w2:=hw2▸(Below.refl _ _).alloc (Nat.le_refl _) _
 have hk2:Blk w2 w1.heap.size 35 [.int .i64 0,.int .i64 0,.string ⟨#[]⟩]:=hw2▸Blk.new w1 _ _
 have hl12:w.heap.size < w1.heap.size:=hk1.lt
 have hl12':w.heap.size≤w1.heap.size:=Nat.le_of_lt hl12
 have hs2:EnvS w w2 eb v v:=EnvS.of_below (hb1.trans (hb2.mono hb1.size))
 have he2:=(hE.below hb1).below hb2
 have hbx:BoxAt w2 eb v w.heap.size 27 [.int .i64 x.hd.op,.int .i64 x.hd.n,.string x.hd.s,.string x.hd.name,.string x.hd.src,.slice p x.kids.length c]:=(BoxAt.fresh hE hk1 rfl).below hb2
 have hbr:BoxAt w2 eb v w1.heap.size 35 [.int .i64 0,.int .i64 0,.string ⟨#[]⟩]:=BoxAt.fresh (hE.below hb1) hk2 rfl
 have H0:=Lib.hid hE
 have HX:=Lib.hid hx
 have HV:=Lib.hid hv
 have HE:=Lib.hid he2
 have HS:=Lib.hid hs2
 have HBX:=Lib.hid hbx
 have HBR:=Lib.hid hbr
 obtain ⟨d0,d1,d2,d3,d4,d5⟩:=six_cells hbx.blk
 have hld:=hbx.blk.lt
 clear hb1 hk1 hb2 hk2 hs2 he2 hbx hbr hE hx hv
 obtain ⟨gA,oA,capA,hvA,hglA,_,kA0,kA1,kA2,kA3,kA4,kA5⟩:=EX.kid (EX.next HS.out HX.out) (k:=0) (by rw [hkids];exact Nat.zero_lt_two)
 rw [HV.out] at hvA
 cases hvA
 simp only [hkids,List.getElem_cons_zero,List.getElem_cons_succ,Nat.zero_mul,Nat.one_mul,Nat.add_zero] at kA0 kA1 kA2 kA3 kA4 kA5
 have hya:a.at w2 (offE eb v):=(EX.at_kids (EX.next HS.out HX.out)).2 a (by rw [hkids];exact List.mem_cons_self)
 obtain ⟨p',c',hva⟩:=EX.form_kids hya
 rw [hva] at kA5
 have hl0:0 < x.kids.length:=by rw [hkids];exact Nat.zero_lt_two
 have hl1:1 < x.kids.length:=by rw [hkids];exact Nat.one_lt_two
 have HKI:=Lib.hid hkids
 clear hkids
 obtain ⟨⟨⟨ok,on,os⟩,oe,ff⟩,hout⟩:∃ out,bothF x.hd.op (evalX a (l.map KnM.a)) (evalX b (l.map KnM.a)) f=out:=⟨_,rfl⟩
 rw [hout]
 unfold bothF bindA at hout
 have HO:=Lib.hid hout
 clear hout
 have HC:=Lib.hid (evof_any a ha w2 eb f v l p' c' HE.out hya hva hda 3)
 go_enter Tryz.func50,Tryz.ntmps50
 go_wp2_with fail
 clear hw1 hw2 d0 d1 d2 d3 d4 d5 hld kA0 kA1 kA2 kA3 kA4 kA5 hglA
 refine HC.out.mono ?_
 clear HC
 obtain ⟨⟨⟨ak,an,sa⟩,ae,f3⟩,ha3⟩:∃ q,ofF (evalX a (l.map KnM.a)) 3 f=q:=⟨_,rfl⟩
 rw [ha3] at HO ⊢
 simp only at HO
 clear ha3
 rintro e w3 ⟨v3,rfl,he3,hs3⟩
 simp only at he3
 replace HS:=Lib.hid (HS.out.trans hs3)
 replace HBX:=Lib.hid (HBX.out.step hs3)
 replace HBR:=Lib.hid (HBR.out.step hs3)
 replace HE:=Lib.hid he3
 clear he3 hs3
 have hxl:w.heap.size < w3.heap.size:=HBX.out.blk.lt
 have hrl:w1.heap.size < w3.heap.size:=HBR.out.blk.lt
 obtain ⟨w4,hw4⟩:∃ w4,w3.alloc (.cells #[.int .i64 ak,.int .i64 an,.string sa] 35)=w4:=⟨_,rfl⟩
 have hb4:Below w3.heap.size w3 w4:=hw4▸(Below.refl _ _).alloc (Nat.le_refl _) _
 have hk4:Blk w4 w3.heap.size 35 [.int .i64 ak,.int .i64 an,.string sa]:=hw4▸Blk.new w3 _ _
 have hbv:BoxAt w4 eb v3 w3.heap.size 35 [.int .i64 ak,.int .i64 an,.string sa]:=BoxAt.fresh HE.out hk4 rfl
 have HBV:=Lib.hid hbv
 replace HS:=Lib.hid (HS.out.trans (EnvS.of_below hb4))
 replace HBX:=Lib.hid (HBX.out.step (EnvS.of_below hb4))
 replace HBR:=Lib.hid (HBR.out.step (EnvS.of_below hb4))
 replace HE:=Lib.hid (HE.out.below hb4)
 have HW4:=Lib.hid hw4
 obtain ⟨y0,y1,y2⟩:=three_cells hk4
 have hl4:=hk4.lt
 clear hw4 hb4 hk4 hbv
 go_upto_region 2 with fail
 rw [HW4.out]
 by_cases h0:ae=0
 ·have t0:(ae != 0)=false:=by simp [h0]
  have hq:=HO.out
  rw [if_neg (fun h=>h h0)] at hq
  obtain ⟨d0,d1,d2,d3,d4,d5⟩:=six_cells HBX.out.blk
  have hld:=HBX.out.blk.lt
  cases hT:((an == 1) == (x.hd.op == 18)) with
  | true =>
   rw [if_pos (show decide (an=1)=decide (x.hd.op=18) from eq_of_beq hT)] at hq
   clear HO h0
   cases hq
   have hkr:=HBR.out.blk
   obtain ⟨z0,z1,z2⟩:=three_cells hkr
   have hfr:=fun i=>hkr.frozen i
   have hlk:=hkr.lt
   clear hkr
   go_wp2
   obtain ⟨hkE,hoE⟩:=set_threeE HBR.out.blk (.int .i64 ok) (.int .i64 on) (.string os)
   generalize ((w4.setCell ⟨w1.heap.size,0,none⟩ (.int .i64 ok)).setCell ⟨w1.heap.size,1,none⟩ (.int .i64 on)).setCell ⟨w1.heap.size,2,none⟩ (.string os)=wE at *
   obtain ⟨m0,m1,m2⟩:=three_cells hkE
   exact bodyPost_ret (v:=.tuple #[.agg #[.int .i64 ok,.int .i64 on,.string os],.int .i64 0]) (by simp [results,Tryz.results50,go_sem,m0,m1,m2]) rfl ⟨_,rfl,EnvAt.wr H0.out HE.out HS.out hl12' HBR.out hoE,EnvS.wr HS.out hoE hl12'⟩
  | false =>
   rw [if_neg (fun h=>by rw [show ((an == 1) == (x.hd.op == 18))=true from beq_iff_eq.2 h] at hT;cases hT)] at hq
   have hkids:=HKI.out
   obtain ⟨gB,oB,capB,hvB,hglB,_,kB0,kB1,kB2,kB3,kB4,kB5⟩:=EX.kid (EX.next HS.out HX.out) (k:=1) (by rw [hkids];exact Nat.one_lt_two)
   rw [HV.out] at hvB
   cases hvB
   simp only [hkids,List.getElem_cons_zero,List.getElem_cons_succ,Nat.zero_mul,Nat.one_mul,Nat.add_zero] at kB0 kB1 kB2 kB3 kB4 kB5
   have hyb:b.at w4 (offE eb v3):=(EX.at_kids (EX.next HS.out HX.out)).2 b (by rw [hkids];simp)
   obtain ⟨p2,c2,hvb⟩:=EX.form_kids hyb
   rw [hvb] at kB5
   have HC2:=Lib.hid (evof_any b hb w4 eb f3 v3 l p2 c2 HE.out hyb hvb hdb 3)
   clear hkids
   replace HO:=Lib.hid hq
   clear hq h0
   go_wp2_with fail
   clear HW4 d0 d1 d2 d3 d4 d5 hld y0 y1 y2 hl4 kB0 kB1 kB2 kB3 kB4 kB5 hglB
   refine HC2.out.mono ?_
   clear HC2
   obtain ⟨⟨⟨bk,bn,sb⟩,be,f5⟩,hb5⟩:∃ q,ofF (evalX b (l.map KnM.a)) 3 f3=q:=⟨_,rfl⟩
   rw [hb5] at HO ⊢
   simp only at HO
   clear hb5
   rintro e w5 ⟨v5,rfl,he5,hs5⟩
   simp only at he5
   replace HS:=Lib.hid (HS.out.trans hs5)
   replace HBX:=Lib.hid (HBX.out.step hs5)
   replace HBR:=Lib.hid (HBR.out.step hs5)
   replace HBV:=Lib.hid (HBV.out.step hs5)
   replace HE:=Lib.hid he5
   clear he5 hs5
   obtain ⟨u0,u1,u2⟩:=three_cells HBV.out.blk
   have hfv:=fun i=>HBV.out.blk.frozen i
   have hlv:=HBV.out.blk.lt
   obtain ⟨hkS,hoS⟩:=set_threeE HBV.out.blk (.int .i64 bk) (.int .i64 bn) (.string sb)
   obtain ⟨wS,hwS⟩:∃ w',((w5.setCell ⟨w3.heap.size,0,none⟩ (.int .i64 bk)).setCell ⟨w3.heap.size,1,none⟩ (.int .i64 bn)).setCell ⟨w3.heap.size,2,none⟩ (.string sb)=w':=⟨_,rfl⟩
   rw [hwS] at hkS hoS
   have hwle:w.heap.size≤w3.heap.size:=Nat.le_of_lt hxl
   replace HE:=Lib.hid (EnvAt.wr H0.out HE.out HS.out hwle HBV.out hoS)
   replace HS:=Lib.hid (EnvS.wr HS.out hoS hwle)
   replace HBX:=Lib.hid (HBX.out.other hoS (by omega))
   replace HBR:=Lib.hid (HBR.out.other hoS (by omega))
   have hnv:=HBV.out.nv
   have hne:=HBV.out.ne
   replace HBV:=Lib.hid (BoxAt.mk hkS hne hnv)
   have HWS:=Lib.hid hwS
   obtain ⟨y0,y1,y2⟩:=three_cells hkS
   have hlS:=hkS.lt
   clear hwS hkS hoS hnv hne
   go_upto_region 7 with fail
   rw [HWS.out]
   clear HWS u0 u1 u2 hfv hlv
   by_cases h0:be=0
   ·have t0:(be != 0)=false:=by simp [h0]
    have hq:=HO.out
    rw [if_neg (fun h=>h h0)] at hq
    clear HO h0
    cases hq
    have hkr:=HBR.out.blk
    obtain ⟨z0,z1,z2⟩:=three_cells hkr
    have hfr:=fun i=>hkr.frozen i
    have hlk:=hkr.lt
    clear hkr
    go_wp2
    obtain ⟨hkE,hoE⟩:=set_threeE HBR.out.blk (.int .i64 ok) (.int .i64 on) (.string os)
    generalize ((wS.setCell ⟨w1.heap.size,0,none⟩ (.int .i64 ok)).setCell ⟨w1.heap.size,1,none⟩ (.int .i64 on)).setCell ⟨w1.heap.size,2,none⟩ (.string os)=wE at *
    obtain ⟨m0,m1,m2⟩:=three_cells hkE
    exact bodyPost_ret (v:=.tuple #[.agg #[.int .i64 ok,.int .i64 on,.string os],.int .i64 0]) (by simp [results,Tryz.results50,go_sem,m0,m1,m2]) rfl ⟨_,rfl,EnvAt.wr H0.out HE.out HS.out hl12' HBR.out hoE,EnvS.wr HS.out hoE hl12'⟩
   ·have t0:(be != 0)=true:=by simp [h0]
    have hq:=HO.out
    rw [if_pos h0] at hq
    unfold wrongA zeroA at hq
    clear HO h0
    cases hq
    have HR:=Lib.hid (wrong_e wS oe)
    go_wp2_with fail
    refine HR.out.mono ?_
    clear HR
    rintro r w9 ⟨rfl,hb9⟩
    unfold zeroA
    replace HS:=Lib.hid (HS.out.trans (EnvS.of_below hb9))
    replace HBX:=Lib.hid (HBX.out.step (EnvS.of_below hb9))
    replace HBR:=Lib.hid (HBR.out.step (EnvS.of_below hb9))
    replace HE:=Lib.hid (HE.out.below hb9)
    clear hb9
    have hkr:=HBR.out.blk
    obtain ⟨z0,z1,z2⟩:=three_cells hkr
    have hfr:=fun i=>hkr.frozen i
    have hlk:=hkr.lt
    clear hkr
    go_wp2
    obtain ⟨hkE,hoE⟩:=set_threeE HBR.out.blk (.int .i64 0) (.int .i64 0) (.string ⟨#[]⟩)
    generalize ((w9.setCell ⟨w1.heap.size,0,none⟩ (.int .i64 0)).setCell ⟨w1.heap.size,1,none⟩ (.int .i64 0)).setCell ⟨w1.heap.size,2,none⟩ (.string ⟨#[]⟩)=wE at *
    obtain ⟨m0,m1,m2⟩:=three_cells hkE
    exact bodyPost_ret (v:=.tuple #[.agg #[.int .i64 0,.int .i64 0,.string ⟨#[]⟩],.int .i64 oe]) (by simp [results,Tryz.results50,go_sem,m0,m1,m2]) rfl ⟨_,rfl,EnvAt.wr H0.out HE.out HS.out hl12' HBR.out hoE,EnvS.wr HS.out hoE hl12'⟩
 ·skip
  have t0:(ae != 0)=true:=by simp [h0]
  have hq:=HO.out
  rw [if_pos h0] at hq
  unfold wrongA zeroA at hq
  clear HO h0
  cases hq
  have HR:=Lib.hid (wrong_e w4 oe)
  go_wp2_with fail
  refine HR.out.mono ?_
  clear HR
  rintro r w9 ⟨rfl,hb9⟩
  unfold zeroA
  replace HS:=Lib.hid (HS.out.trans (EnvS.of_below hb9))
  replace HBX:=Lib.hid (HBX.out.step (EnvS.of_below hb9))
  replace HBR:=Lib.hid (HBR.out.step (EnvS.of_below hb9))
  replace HE:=Lib.hid (HE.out.below hb9)
  clear hb9
  have hkr:=HBR.out.blk
  obtain ⟨z0,z1,z2⟩:=three_cells hkr
  have hfr:=fun i=>hkr.frozen i
  have hlk:=hkr.lt
  clear hkr
  go_wp2
  obtain ⟨hkE,hoE⟩:=set_threeE HBR.out.blk (.int .i64 0) (.int .i64 0) (.string ⟨#[]⟩)
  generalize ((w9.setCell ⟨w1.heap.size,0,none⟩ (.int .i64 0)).setCell ⟨w1.heap.size,1,none⟩ (.int .i64 0)).setCell ⟨w1.heap.size,2,none⟩ (.string ⟨#[]⟩)=wE at *
  obtain ⟨m0,m1,m2⟩:=three_cells hkE
  exact bodyPost_ret (v:=.tuple #[.agg #[.int .i64 0,.int .i64 0,.string ⟨#[]⟩],.int .i64 oe]) (by simp [results,Tryz.results50,go_sem,m0,m1,m2]) rfl ⟨_,rfl,EnvAt.wr H0.out HE.out HS.out hl12' HBR.out hoE,EnvS.wr HS.out hoE hl12'⟩
theorem two_anyE (x a b:EX) (hkids:x.kids=[a,b]) (ha:EvalAt a) (hb:EvalAt b) (hao:a.ok) (hbo:b.ok) (hop:6≤x.hd.op) (w:World) (eb f:Nat) (v:Value) (l:List KnM) (p:Option Addr) (c:Nat) (hE:EnvAt w eb f v l) (hx:x.at w (offE eb v)) (hv:x.av=.slice p x.kids.length c) (hda:l.length+a.dep≤1000000) (hdb:l.length+b.dep≤1000000) :
 Calls Tryz.prog 52 #[.pointer (some ⟨eb,0,none⟩),.agg #[.int .i64 x.hd.op,.int .i64 x.hd.n,.string x.hd.s,.string x.hd.name,.string x.hd.src,.slice p x.kids.length c]] w (EvOut w eb v l (twoF x.hd.op (evalX a (l.map KnM.a)) (evalX b (l.map KnM.a)) f)):=by
 obtain ⟨w1,hw1⟩:∃ w1,w.alloc (.cells #[.int .i64 x.hd.op,.int .i64 x.hd.n,.string x.hd.s,.string x.hd.name,.string x.hd.src,.slice p x.kids.length c] 27)=w1:=⟨_,rfl⟩
 have hb1:Below w.heap.size w w1:=hw1▸(Below.refl _ _).alloc (Nat.le_refl _) _
 have hk1:Blk w1 w.heap.size 27 [.int .i64 x.hd.op,.int .i64 x.hd.n,.string x.hd.s,.string x.hd.name,.string x.hd.src,.slice p x.kids.length c]:=hw1▸Blk.new w _ _
 obtain ⟨w2,hw2⟩:∃ w2,w1.alloc (.cells #[.int .i64 0,.int .i64 0,.string ⟨#[]⟩] 35)=w2:=⟨_,rfl⟩
 have hb2:Below w1.heap.size w1 w2:=hw2▸(Below.refl _ _).alloc (Nat.le_refl _) _
 have hk2:Blk w2 w1.heap.size 35 [.int .i64 0,.int .i64 0,.string ⟨#[]⟩]:=hw2▸Blk.new w1 _ _
 have hl12:w.heap.size < w1.heap.size:=hk1.lt
 have hl12':w.heap.size≤w1.heap.size:=Nat.le_of_lt hl12
 have hs2:EnvS w w2 eb v v:=EnvS.of_below (hb1.trans (hb2.mono hb1.size))
 have he2:=(hE.below hb1).below hb2
 have hbx:BoxAt w2 eb v w.heap.size 27 [.int .i64 x.hd.op,.int .i64 x.hd.n,.string x.hd.s,.string x.hd.name,.string x.hd.src,.slice p x.kids.length c]:=(BoxAt.fresh hE hk1 rfl).below hb2
 have hbr:BoxAt w2 eb v w1.heap.size 35 [.int .i64 0,.int .i64 0,.string ⟨#[]⟩]:=BoxAt.fresh (hE.below hb1) hk2 rfl
 have H0:=Lib.hid hE
 have HX:=Lib.hid hx
 have HV:=Lib.hid hv
 have HE:=Lib.hid he2
 have HS:=Lib.hid hs2
 have HBX:=Lib.hid hbx
 have HBR:=Lib.hid hbr
 obtain ⟨d0,d1,d2,d3,d4,d5⟩:=six_cells hbx.blk
 have hld:=hbx.blk.lt
 clear hb1 hk1 hb2 hk2 hs2 he2 hbx hbr hE hx hv
 obtain ⟨gA,oA,capA,hvA,hglA,_,kA0,kA1,kA2,kA3,kA4,kA5⟩:=EX.kid (EX.next HS.out HX.out) (k:=0) (by rw [hkids];exact Nat.zero_lt_two)
 rw [HV.out] at hvA
 cases hvA
 simp only [hkids,List.getElem_cons_zero,List.getElem_cons_succ,Nat.zero_mul,Nat.one_mul,Nat.add_zero] at kA0 kA1 kA2 kA3 kA4 kA5
 have hya:a.at w2 (offE eb v):=(EX.at_kids (EX.next HS.out HX.out)).2 a (by rw [hkids];exact List.mem_cons_self)
 obtain ⟨p',c',hva⟩:=EX.form_kids hya
 rw [hva] at kA5
 have hl0:0 < x.kids.length:=by rw [hkids];exact Nat.zero_lt_two
 have hl1:1 < x.kids.length:=by rw [hkids];exact Nat.one_lt_two
 have HKI:=Lib.hid hkids
 have HOP:=Lib.hid hop
 clear hkids hop
 have HOKA:=Lib.hid (evalX_ok a (l.map KnM.a) hao H0.out.aok f)
 have HOKB:=Lib.hid (evalX_ok b (l.map KnM.a) hbo H0.out.aok)
 obtain ⟨⟨⟨ok,on,os⟩,oe,ff⟩,hout⟩:∃ out,twoF x.hd.op (evalX a (l.map KnM.a)) (evalX b (l.map KnM.a)) f=out:=⟨_,rfl⟩
 rw [hout]
 unfold twoF bindA at hout
 have HO:=Lib.hid hout
 clear hout
 have HC:=Lib.hid (ha w2 eb f v l p' c' HE.out hya hva hda)
 go_enter Tryz.func52,Tryz.ntmps52
 go_wp2_with fail
 clear hw1 hw2 d0 d1 d2 d3 d4 d5 hld kA0 kA1 kA2 kA3 kA4 kA5 hglA
 refine HC.out.mono ?_
 clear HC
 obtain ⟨⟨⟨ak,an,sa⟩,ae,f3⟩,ha3⟩:∃ q,evalX a (l.map KnM.a) f=q:=⟨_,rfl⟩
 rw [ha3] at HO HOKA ⊢
 simp only at HO HOKA
 clear ha3
 rintro e w3 ⟨v3,rfl,he3,hs3⟩
 simp only at he3
 replace HS:=Lib.hid (HS.out.trans hs3)
 replace HBX:=Lib.hid (HBX.out.step hs3)
 replace HBR:=Lib.hid (HBR.out.step hs3)
 replace HE:=Lib.hid he3
 clear he3 hs3
 have hxl:w.heap.size < w3.heap.size:=HBX.out.blk.lt
 have hrl:w1.heap.size < w3.heap.size:=HBR.out.blk.lt
 obtain ⟨w4,hw4⟩:∃ w4,w3.alloc (.cells #[.int .i64 ak,.int .i64 an,.string sa] 35)=w4:=⟨_,rfl⟩
 have hb4:Below w3.heap.size w3 w4:=hw4▸(Below.refl _ _).alloc (Nat.le_refl _) _
 have hk4:Blk w4 w3.heap.size 35 [.int .i64 ak,.int .i64 an,.string sa]:=hw4▸Blk.new w3 _ _
 have hbv:BoxAt w4 eb v3 w3.heap.size 35 [.int .i64 ak,.int .i64 an,.string sa]:=BoxAt.fresh HE.out hk4 rfl
 have HBV:=Lib.hid hbv
 replace HS:=Lib.hid (HS.out.trans (EnvS.of_below hb4))
 replace HBX:=Lib.hid (HBX.out.step (EnvS.of_below hb4))
 replace HBR:=Lib.hid (HBR.out.step (EnvS.of_below hb4))
 replace HE:=Lib.hid (HE.out.below hb4)
 have HW4:=Lib.hid hw4
 obtain ⟨y0,y1,y2⟩:=three_cells hk4
 have hl4:=hk4.lt
 clear hw4 hb4 hk4 hbv
 go_upto_region 2 with fail
 rw [HW4.out]
 by_cases h0:ae=0
 ·have t0:(ae != 0)=false:=by simp [h0]
  have hq:=HO.out
  rw [if_neg (fun h=>h h0)] at hq
  obtain ⟨d0,d1,d2,d3,d4,d5⟩:=six_cells HBX.out.blk
  have hld:=HBX.out.blk.lt
  have hkids:=HKI.out
  obtain ⟨gB,oB,capB,hvB,hglB,_,kB0,kB1,kB2,kB3,kB4,kB5⟩:=EX.kid (EX.next HS.out HX.out) (k:=1) (by rw [hkids];exact Nat.one_lt_two)
  rw [HV.out] at hvB
  cases hvB
  simp only [hkids,List.getElem_cons_zero,List.getElem_cons_succ,Nat.zero_mul,Nat.one_mul,Nat.add_zero] at kB0 kB1 kB2 kB3 kB4 kB5
  have hyb:b.at w4 (offE eb v3):=(EX.at_kids (EX.next HS.out HX.out)).2 b (by rw [hkids];simp)
  obtain ⟨p2,c2,hvb⟩:=EX.form_kids hyb
  rw [hvb] at kB5
  have HC2:=Lib.hid (hb w4 eb f3 v3 l p2 c2 HE.out hyb hvb hdb)
  have HOKB3:=Lib.hid (HOKB.out f3)
  clear hkids
  replace HO:=Lib.hid hq
  clear hq h0 HOKB
  go_wp2_with fail
  clear HW4 d0 d1 d2 d3 d4 d5 hld y0 y1 y2 hl4 kB0 kB1 kB2 kB3 kB4 kB5 hglB
  refine HC2.out.mono ?_
  clear HC2
  obtain ⟨⟨⟨bk,bn,sb⟩,be,f5⟩,hb5⟩:∃ q,evalX b (l.map KnM.a) f3=q:=⟨_,rfl⟩
  rw [hb5] at HO HOKB3 ⊢
  simp only at HO HOKB3
  clear hb5
  rintro e w5 ⟨v5,rfl,he5,hs5⟩
  simp only at he5
  replace HS:=Lib.hid (HS.out.trans hs5)
  replace HBX:=Lib.hid (HBX.out.step hs5)
  replace HBR:=Lib.hid (HBR.out.step hs5)
  have HBA:=Lib.hid (HBV.out.step hs5)
  replace HE:=Lib.hid he5
  clear he5 hs5 HBV t0
  obtain ⟨w6,hw6⟩:∃ w6,w5.alloc (.cells #[.int .i64 bk,.int .i64 bn,.string sb] 35)=w6:=⟨_,rfl⟩
  have hb6:Below w5.heap.size w5 w6:=hw6▸(Below.refl _ _).alloc (Nat.le_refl _) _
  have hk6:Blk w6 w5.heap.size 35 [.int .i64 bk,.int .i64 bn,.string sb]:=hw6▸Blk.new w5 _ _
  replace HBA:=Lib.hid (HBA.out.below hb6)
  replace HS:=Lib.hid (HS.out.trans (EnvS.of_below hb6))
  replace HBX:=Lib.hid (HBX.out.step (EnvS.of_below hb6))
  replace HBR:=Lib.hid (HBR.out.step (EnvS.of_below hb6))
  replace HE:=Lib.hid (HE.out.below hb6)
  have HW6:=Lib.hid hw6
  obtain ⟨y0,y1,y2⟩:=three_cells hk6
  have hl6:=hk6.lt
  obtain ⟨u0,u1,u2⟩:=three_cells HBA.out.blk
  have hl3:=HBA.out.blk.lt
  obtain ⟨d0,d1,d2,d3,d4,d5⟩:=six_cells HBX.out.blk
  have hld:=HBX.out.blk.lt
  clear hw6 hb6 hk6
  go_upto_region 5 with fail
  rw [HW6.out]
  by_cases h0:be=0
  ·have t0:(be != 0)=false:=by simp [h0]
   have hq:=HO.out
   rw [if_neg (fun h=>h h0)] at hq
   by_cases hk:ak=bk
   ·have t1:(ak != bk)=false:=by simp [hk]
    rw [if_neg (fun h=>h hk)] at hq
    by_cases ho:x.hd.op≤10
    ·skip
     have t2:decide (x.hd.op≤10)=true:=decide_eq_true ho
     rw [if_pos ho,sumsA_eq] at hq
     have HN:Hid (∀ W,Calls Tryz.prog 78 #[.int .i64 x.hd.op,.agg #[.int .i64 ak,.int .i64 an,.string sa],.agg #[.int .i64 bk,.int .i64 bn,.string sb]] W (PairOut W ⟨ok,on,os⟩ oe)):=Lib.hid fun W=>by
      have h1:=sums_any W x.hd.op ⟨ak,an,sa⟩ ⟨bk,bn,sb⟩ HOKA.out.1 HOKB3.out.1 HOP.out ho
      rw [show (sumsA x.hd.op ⟨ak,an,sa⟩ ⟨bk,bn,sb⟩ 0).1=⟨ok,on,os⟩ from congrArg Prod.fst hq,show (sumsA x.hd.op ⟨ak,an,sa⟩ ⟨bk,bn,sb⟩ 0).2.1=oe from congrArg (fun q=>q.2.1) hq] at h1
      exact h1
     obtain rfl:f5=ff:=congrArg (fun q=>q.2.2) hq
     clear hq h0 HO hk ho
     go_wp2_with fail
     clear d0 d1 d2 d3 d4 d5 hld y0 y1 y2 u0 u1 u2 hl3 hl6
     refine (HN.out _).mono ?_
     clear HN
     rintro r w9 ⟨rfl,hb9⟩
     replace HS:=Lib.hid (HS.out.trans (EnvS.of_below hb9))
     replace HBX:=Lib.hid (HBX.out.step (EnvS.of_below hb9))
     replace HBR:=Lib.hid (HBR.out.step (EnvS.of_below hb9))
     replace HE:=Lib.hid (HE.out.below hb9)
     clear hb9
     have hkr:=HBR.out.blk
     obtain ⟨z0,z1,z2⟩:=three_cells hkr
     have hfr:=fun i=>hkr.frozen i
     have hlk:=hkr.lt
     clear hkr
     go_wp2
     obtain ⟨hkE,hoE⟩:=set_threeE HBR.out.blk (.int .i64 ok) (.int .i64 on) (.string os)
     generalize ((w9.setCell ⟨w1.heap.size,0,none⟩ (.int .i64 ok)).setCell ⟨w1.heap.size,1,none⟩ (.int .i64 on)).setCell ⟨w1.heap.size,2,none⟩ (.string os)=wE at *
     obtain ⟨m0,m1,m2⟩:=three_cells hkE
     exact bodyPost_ret (v:=.tuple #[.agg #[.int .i64 ok,.int .i64 on,.string os],.int .i64 oe]) (by simp [results,Tryz.results52,go_sem,m0,m1,m2]) rfl ⟨_,rfl,EnvAt.wr H0.out HE.out HS.out hl12' HBR.out hoE,EnvS.wr HS.out hoE hl12'⟩
    ·skip
     have t2:decide (x.hd.op≤10)=false:=decide_eq_false ho
     rw [if_neg ho,cmpA_eq] at hq
     have HN:Hid (∀ W,Calls Tryz.prog 79 #[.int .i64 x.hd.op,.agg #[.int .i64 ak,.int .i64 an,.string sa],.agg #[.int .i64 bk,.int .i64 bn,.string sb]] W (PairOut W ⟨ok,on,os⟩ oe)):=Lib.hid fun W=>by
      have h1:=compared_any W x.hd.op ⟨ak,an,sa⟩ ⟨bk,bn,sb⟩
      rw [show (cmpA x.hd.op ⟨ak,an,sa⟩ ⟨bk,bn,sb⟩ 0).1=⟨ok,on,os⟩ from congrArg Prod.fst hq,show (cmpA x.hd.op ⟨ak,an,sa⟩ ⟨bk,bn,sb⟩ 0).2.1=oe from congrArg (fun q=>q.2.1) hq] at h1
      exact h1
     obtain rfl:f5=ff:=congrArg (fun q=>q.2.2) hq
     clear hq h0 HO hk ho
     go_wp2_with fail
     clear d0 d1 d2 d3 d4 d5 hld y0 y1 y2 u0 u1 u2 hl3 hl6
     refine (HN.out _).mono ?_
     clear HN
     rintro r w9 ⟨rfl,hb9⟩
     replace HS:=Lib.hid (HS.out.trans (EnvS.of_below hb9))
     replace HBX:=Lib.hid (HBX.out.step (EnvS.of_below hb9))
     replace HBR:=Lib.hid (HBR.out.step (EnvS.of_below hb9))
     replace HE:=Lib.hid (HE.out.below hb9)
     clear hb9
     have hkr:=HBR.out.blk
     obtain ⟨z0,z1,z2⟩:=three_cells hkr
     have hfr:=fun i=>hkr.frozen i
     have hlk:=hkr.lt
     clear hkr
     go_wp2
     obtain ⟨hkE,hoE⟩:=set_threeE HBR.out.blk (.int .i64 ok) (.int .i64 on) (.string os)
     generalize ((w9.setCell ⟨w1.heap.size,0,none⟩ (.int .i64 ok)).setCell ⟨w1.heap.size,1,none⟩ (.int .i64 on)).setCell ⟨w1.heap.size,2,none⟩ (.string os)=wE at *
     obtain ⟨m0,m1,m2⟩:=three_cells hkE
     exact bodyPost_ret (v:=.tuple #[.agg #[.int .i64 ok,.int .i64 on,.string os],.int .i64 oe]) (by simp [results,Tryz.results52,go_sem,m0,m1,m2]) rfl ⟨_,rfl,EnvAt.wr H0.out HE.out HS.out hl12' HBR.out hoE,EnvS.wr HS.out hoE hl12'⟩
   ·skip
    have t1:(ak != bk)=true:=by simp [hk]
    rw [if_pos hk] at hq
    unfold wrongA zeroA at hq
    clear hk h0 HO
    cases hq
    have HR:=Lib.hid (wrong_e w6 13)
    go_wp2_with fail
    refine HR.out.mono ?_
    clear HR
    rintro r w9 ⟨rfl,hb9⟩
    unfold zeroA
    replace HS:=Lib.hid (HS.out.trans (EnvS.of_below hb9))
    replace HBX:=Lib.hid (HBX.out.step (EnvS.of_below hb9))
    replace HBR:=Lib.hid (HBR.out.step (EnvS.of_below hb9))
    replace HE:=Lib.hid (HE.out.below hb9)
    clear hb9
    have hkr:=HBR.out.blk
    obtain ⟨z0,z1,z2⟩:=three_cells hkr
    have hfr:=fun i=>hkr.frozen i
    have hlk:=hkr.lt
    clear hkr
    go_wp2
    obtain ⟨hkE,hoE⟩:=set_threeE HBR.out.blk (.int .i64 0) (.int .i64 0) (.string ⟨#[]⟩)
    generalize ((w9.setCell ⟨w1.heap.size,0,none⟩ (.int .i64 0)).setCell ⟨w1.heap.size,1,none⟩ (.int .i64 0)).setCell ⟨w1.heap.size,2,none⟩ (.string ⟨#[]⟩)=wE at *
    obtain ⟨m0,m1,m2⟩:=three_cells hkE
    exact bodyPost_ret (v:=.tuple #[.agg #[.int .i64 0,.int .i64 0,.string ⟨#[]⟩],.int .i64 13]) (by simp [results,Tryz.results52,go_sem,m0,m1,m2]) rfl ⟨_,rfl,EnvAt.wr H0.out HE.out HS.out hl12' HBR.out hoE,EnvS.wr HS.out hoE hl12'⟩
  ·skip
   have t0:(be != 0)=true:=by simp [h0]
   have hq:=HO.out
   rw [if_pos h0] at hq
   unfold wrongA zeroA at hq
   clear HO h0
   cases hq
   have HR:=Lib.hid (wrong_e w6 oe)
   go_wp2_with fail
   refine HR.out.mono ?_
   clear HR
   rintro r w9 ⟨rfl,hb9⟩
   unfold zeroA
   replace HS:=Lib.hid (HS.out.trans (EnvS.of_below hb9))
   replace HBX:=Lib.hid (HBX.out.step (EnvS.of_below hb9))
   replace HBR:=Lib.hid (HBR.out.step (EnvS.of_below hb9))
   replace HE:=Lib.hid (HE.out.below hb9)
   clear hb9
   have hkr:=HBR.out.blk
   obtain ⟨z0,z1,z2⟩:=three_cells hkr
   have hfr:=fun i=>hkr.frozen i
   have hlk:=hkr.lt
   clear hkr
   go_wp2
   obtain ⟨hkE,hoE⟩:=set_threeE HBR.out.blk (.int .i64 0) (.int .i64 0) (.string ⟨#[]⟩)
   generalize ((w9.setCell ⟨w1.heap.size,0,none⟩ (.int .i64 0)).setCell ⟨w1.heap.size,1,none⟩ (.int .i64 0)).setCell ⟨w1.heap.size,2,none⟩ (.string ⟨#[]⟩)=wE at *
   obtain ⟨m0,m1,m2⟩:=three_cells hkE
   exact bodyPost_ret (v:=.tuple #[.agg #[.int .i64 0,.int .i64 0,.string ⟨#[]⟩],.int .i64 oe]) (by simp [results,Tryz.results52,go_sem,m0,m1,m2]) rfl ⟨_,rfl,EnvAt.wr H0.out HE.out HS.out hl12' HBR.out hoE,EnvS.wr HS.out hoE hl12'⟩
 ·skip
  have t0:(ae != 0)=true:=by simp [h0]
  have hq:=HO.out
  rw [if_pos h0] at hq
  unfold wrongA zeroA at hq
  clear HO h0
  cases hq
  have HR:=Lib.hid (wrong_e w4 oe)
  go_wp2_with fail
  refine HR.out.mono ?_
  clear HR
  rintro r w9 ⟨rfl,hb9⟩
  unfold zeroA
  replace HS:=Lib.hid (HS.out.trans (EnvS.of_below hb9))
  replace HBX:=Lib.hid (HBX.out.step (EnvS.of_below hb9))
  replace HBR:=Lib.hid (HBR.out.step (EnvS.of_below hb9))
  replace HE:=Lib.hid (HE.out.below hb9)
  clear hb9
  have hkr:=HBR.out.blk
  obtain ⟨z0,z1,z2⟩:=three_cells hkr
  have hfr:=fun i=>hkr.frozen i
  have hlk:=hkr.lt
  clear hkr
  go_wp2
  obtain ⟨hkE,hoE⟩:=set_threeE HBR.out.blk (.int .i64 0) (.int .i64 0) (.string ⟨#[]⟩)
  generalize ((w9.setCell ⟨w1.heap.size,0,none⟩ (.int .i64 0)).setCell ⟨w1.heap.size,1,none⟩ (.int .i64 0)).setCell ⟨w1.heap.size,2,none⟩ (.string ⟨#[]⟩)=wE at *
  obtain ⟨m0,m1,m2⟩:=three_cells hkE
  exact bodyPost_ret (v:=.tuple #[.agg #[.int .i64 0,.int .i64 0,.string ⟨#[]⟩],.int .i64 oe]) (by simp [results,Tryz.results52,go_sem,m0,m1,m2]) rfl ⟨_,rfl,EnvAt.wr H0.out HE.out HS.out hl12' HBR.out hoE,EnvS.wr HS.out hoE hl12'⟩
def CntOut (w:World) (eb:Nat) (v:Value) (l:List KnM) (r:RA (Int × Bool)) (e:Ending) (w':World):Prop :=
 ∃ v',e=.returned (.tuple #[.int .i64 r.1.1,.bool r.1.2,.int .i64 r.2.1])∧EnvAt w' eb r.2.2 v' l∧EnvS w w' eb v v'
theorem counts_one (x a:EX) (hkids:x.kids=[a]) (ha:EvalAt a) (hop:x.hd.op=21) (w:World) (eb f:Nat) (v:Value) (l:List KnM) (p:Option Addr) (c:Nat) (hE:EnvAt w eb f v l) (hx:x.at w (offE eb v)) (hv:x.av=.slice p x.kids.length c) (hda:l.length+a.dep≤1000000) :
 Calls Tryz.prog 74 #[.pointer (some ⟨eb,0,none⟩),.agg #[.int .i64 x.hd.op,.int .i64 x.hd.n,.string x.hd.s,.string x.hd.name,.string x.hd.src,.slice p x.kids.length c]] w (CntOut w eb v l (cnt1 (evalX a (l.map KnM.a)) f)):=by
 obtain ⟨w2,hw2⟩:∃ w2,w.alloc (.cells #[.int .i64 x.hd.op,.int .i64 x.hd.n,.string x.hd.s,.string x.hd.name,.string x.hd.src,.slice p x.kids.length c] 27)=w2:=⟨_,rfl⟩
 have hb1:Below w.heap.size w w2:=hw2▸(Below.refl _ _).alloc (Nat.le_refl _) _
 have hk1:Blk w2 w.heap.size 27 [.int .i64 x.hd.op,.int .i64 x.hd.n,.string x.hd.s,.string x.hd.name,.string x.hd.src,.slice p x.kids.length c]:=hw2▸Blk.new w _ _
 have hbx:BoxAt w2 eb v w.heap.size 27 [.int .i64 x.hd.op,.int .i64 x.hd.n,.string x.hd.s,.string x.hd.name,.string x.hd.src,.slice p x.kids.length c]:=BoxAt.fresh hE hk1 rfl
 have H0:=Lib.hid hE
 have HX:=Lib.hid hx
 have HV:=Lib.hid hv
 have HE:=Lib.hid (hE.below hb1)
 have HS:=Lib.hid (EnvS.of_below (eb:=eb) (v:=v) hb1)
 have HBX:=Lib.hid hbx
 obtain ⟨d0,d1,d2,d3,d4,d5⟩:=six_cells hbx.blk
 have hld:=hbx.blk.lt
 clear hb1 hk1 hbx hE hx hv
 obtain ⟨gA,oA,capA,hvA,hglA,_,kA0,kA1,kA2,kA3,kA4,kA5⟩:=EX.kid (EX.next HS.out HX.out) (k:=0) (by rw [hkids];exact Nat.zero_lt_one)
 rw [HV.out] at hvA
 cases hvA
 simp only [hkids,List.getElem_cons_zero,List.getElem_cons_succ,Nat.zero_mul,Nat.one_mul,Nat.add_zero] at kA0 kA1 kA2 kA3 kA4 kA5
 have hya:a.at w2 (offE eb v):=(EX.at_kids (EX.next HS.out HX.out)).2 a (by rw [hkids];simp)
 obtain ⟨p',c',hva⟩:=EX.form_kids hya
 rw [hva] at kA5
 have hl0:0 < x.kids.length:=by rw [hkids];simp
 have HC:=Lib.hid (evof_any a ha w2 eb f v l p' c' HE.out hya hva hda 3)
 clear hkids
 obtain ⟨⟨⟨on,ob⟩,oe,ff⟩,hout⟩:∃ out,cnt1 (evalX a (l.map KnM.a)) f=out:=⟨_,rfl⟩
 rw [hout]
 unfold Go.Proofs.YtnpplhkpnbonaaaGreat.cnt1 at hout
 have HO:=Lib.hid hout
 have t1:(x.hd.op == 21)=true:=by simp [hop]
 clear hout hop
 go_enter Tryz.func74,Tryz.ntmps74
 go_wp2_with fail
 clear hw2 d0 d1 d2 d3 d4 d5 hld kA0 kA1 kA2 kA3 kA4 kA5 hglA
 refine HC.out.mono ?_
 clear HC
 obtain ⟨⟨⟨ak,an,sa⟩,ae,f3⟩,ha3⟩:∃ q,ofF (evalX a (l.map KnM.a)) 3 f=q:=⟨_,rfl⟩
 rw [ha3] at HO ⊢
 simp only at HO
 clear ha3
 rintro e w3 ⟨v3,rfl,he3,hs3⟩
 simp only at he3
 replace HS:=Lib.hid (HS.out.trans hs3)
 replace HBX:=Lib.hid (HBX.out.step hs3)
 replace HE:=Lib.hid he3
 clear he3 hs3
 have hxl:w.heap.size < w3.heap.size:=HBX.out.blk.lt
 obtain ⟨w4,hw4⟩:∃ w4,w3.alloc (.cells #[.int .i64 ak,.int .i64 an,.string sa] 35)=w4:=⟨_,rfl⟩
 have hb4:Below w3.heap.size w3 w4:=hw4▸(Below.refl _ _).alloc (Nat.le_refl _) _
 have hk4:Blk w4 w3.heap.size 35 [.int .i64 ak,.int .i64 an,.string sa]:=hw4▸Blk.new w3 _ _
 have hbv:BoxAt w4 eb v3 w3.heap.size 35 [.int .i64 ak,.int .i64 an,.string sa]:=BoxAt.fresh HE.out hk4 rfl
 have HBV:=Lib.hid hbv
 replace HS:=Lib.hid (HS.out.trans (EnvS.of_below hb4))
 replace HBX:=Lib.hid (HBX.out.step (EnvS.of_below hb4))
 replace HE:=Lib.hid (HE.out.below hb4)
 have HW4:=Lib.hid hw4
 obtain ⟨y0,y1,y2⟩:=three_cells hk4
 have hl4:=hk4.lt
 obtain ⟨d0,d1,d2,d3,d4,d5⟩:=six_cells HBX.out.blk
 have hld:=HBX.out.blk.lt
 clear hw4 hb4 hk4 hbv
 go_upto_region 2 with fail
 rw [HW4.out]
 have hq:=HO.out
 clear HO
 by_cases h0:ae=0
 ·have t0:(ae != 0)=false:=by simp [h0]
  by_cases hn:an=0
  ·skip
   have t2:(an == 0)=true:=by simp [hn]
   rw [if_pos (.inr hn)] at hq
   subst h0
   clear hn
   cases hq
   go_wp2
   go_ret3
   exact ⟨_,rfl,HE.out,HS.out⟩
  ·skip
   have t2:(an == 0)=false:=by simp [hn]
   rw [if_neg (fun h=>h.elim (fun h=>h h0) hn)] at hq
   clear hn h0
   cases hq
   go_wp2
   go_ret3
   exact ⟨_,rfl,HE.out,HS.out⟩
 ·skip
  have t0:(ae != 0)=true:=by simp [h0]
  rw [if_pos (.inl h0)] at hq
  clear h0
  cases hq
  go_wp2
  go_ret3
  exact ⟨_,rfl,HE.out,HS.out⟩
theorem counts_two (x a b:EX) (hkids:x.kids=[a,b]) (ha:EvalAt a) (hb:EvalAt b) (hop:x.hd.op≠21) (w:World) (eb f:Nat) (v:Value) (l:List KnM) (p:Option Addr) (c:Nat) (hE:EnvAt w eb f v l) (hx:x.at w (offE eb v)) (hv:x.av=.slice p x.kids.length c) (hda:l.length+a.dep≤1000000) (hdb:l.length+b.dep≤1000000) :
 Calls Tryz.prog 74 #[.pointer (some ⟨eb,0,none⟩),.agg #[.int .i64 x.hd.op,.int .i64 x.hd.n,.string x.hd.s,.string x.hd.name,.string x.hd.src,.slice p x.kids.length c]] w (CntOut w eb v l (cnt2 (evalX a (l.map KnM.a)) (evalX b (l.map KnM.a)) f)):=by
 obtain ⟨w2,hw2⟩:∃ w2,w.alloc (.cells #[.int .i64 x.hd.op,.int .i64 x.hd.n,.string x.hd.s,.string x.hd.name,.string x.hd.src,.slice p x.kids.length c] 27)=w2:=⟨_,rfl⟩
 have hb1:Below w.heap.size w w2:=hw2▸(Below.refl _ _).alloc (Nat.le_refl _) _
 have hk1:Blk w2 w.heap.size 27 [.int .i64 x.hd.op,.int .i64 x.hd.n,.string x.hd.s,.string x.hd.name,.string x.hd.src,.slice p x.kids.length c]:=hw2▸Blk.new w _ _
 have hbx:BoxAt w2 eb v w.heap.size 27 [.int .i64 x.hd.op,.int .i64 x.hd.n,.string x.hd.s,.string x.hd.name,.string x.hd.src,.slice p x.kids.length c]:=BoxAt.fresh hE hk1 rfl
 have H0:=Lib.hid hE
 have HX:=Lib.hid hx
 have HV:=Lib.hid hv
 have HE:=Lib.hid (hE.below hb1)
 have HS:=Lib.hid (EnvS.of_below (eb:=eb) (v:=v) hb1)
 have HBX:=Lib.hid hbx
 obtain ⟨d0,d1,d2,d3,d4,d5⟩:=six_cells hbx.blk
 have hld:=hbx.blk.lt
 clear hb1 hk1 hbx hE hx hv
 obtain ⟨gA,oA,capA,hvA,hglA,_,kA0,kA1,kA2,kA3,kA4,kA5⟩:=EX.kid (EX.next HS.out HX.out) (k:=0) (by rw [hkids];exact Nat.zero_lt_two)
 rw [HV.out] at hvA
 cases hvA
 simp only [hkids,List.getElem_cons_zero,List.getElem_cons_succ,Nat.zero_mul,Nat.one_mul,Nat.add_zero] at kA0 kA1 kA2 kA3 kA4 kA5
 have hya:a.at w2 (offE eb v):=(EX.at_kids (EX.next HS.out HX.out)).2 a (by rw [hkids];simp)
 obtain ⟨p',c',hva⟩:=EX.form_kids hya
 rw [hva] at kA5
 have hl0:0 < x.kids.length:=by rw [hkids];simp
 have HC:=Lib.hid (evof_any a ha w2 eb f v l p' c' HE.out hya hva hda 3)
 have hl1:1 < x.kids.length:=by rw [hkids];exact Nat.one_lt_two
 have HKI:=Lib.hid hkids
 clear hkids
 obtain ⟨⟨⟨on,ob⟩,oe,ff⟩,hout⟩:∃ out,cnt2 (evalX a (l.map KnM.a)) (evalX b (l.map KnM.a)) f=out:=⟨_,rfl⟩
 rw [hout]
 unfold Go.Proofs.YtnpplhkpnbonaaaGreat.cnt2 at hout
 have HO:=Lib.hid hout
 have t1:(x.hd.op == 21)=false:=by simp [hop]
 clear hout hop
 go_enter Tryz.func74,Tryz.ntmps74
 go_wp2_with fail
 clear hw2 d0 d1 d2 d3 d4 d5 hld kA0 kA1 kA2 kA3 kA4 kA5 hglA
 refine HC.out.mono ?_
 clear HC
 obtain ⟨⟨⟨ak,an,sa⟩,ae,f3⟩,ha3⟩:∃ q,ofF (evalX a (l.map KnM.a)) 3 f=q:=⟨_,rfl⟩
 rw [ha3] at HO ⊢
 simp only at HO
 clear ha3
 rintro e w3 ⟨v3,rfl,he3,hs3⟩
 simp only at he3
 replace HS:=Lib.hid (HS.out.trans hs3)
 replace HBX:=Lib.hid (HBX.out.step hs3)
 replace HE:=Lib.hid he3
 clear he3 hs3
 have hxl:w.heap.size < w3.heap.size:=HBX.out.blk.lt
 obtain ⟨w4,hw4⟩:∃ w4,w3.alloc (.cells #[.int .i64 ak,.int .i64 an,.string sa] 35)=w4:=⟨_,rfl⟩
 have hb4:Below w3.heap.size w3 w4:=hw4▸(Below.refl _ _).alloc (Nat.le_refl _) _
 have hk4:Blk w4 w3.heap.size 35 [.int .i64 ak,.int .i64 an,.string sa]:=hw4▸Blk.new w3 _ _
 have hbv:BoxAt w4 eb v3 w3.heap.size 35 [.int .i64 ak,.int .i64 an,.string sa]:=BoxAt.fresh HE.out hk4 rfl
 have HBV:=Lib.hid hbv
 replace HS:=Lib.hid (HS.out.trans (EnvS.of_below hb4))
 replace HBX:=Lib.hid (HBX.out.step (EnvS.of_below hb4))
 replace HE:=Lib.hid (HE.out.below hb4)
 have HW4:=Lib.hid hw4
 obtain ⟨y0,y1,y2⟩:=three_cells hk4
 have hl4:=hk4.lt
 obtain ⟨d0,d1,d2,d3,d4,d5⟩:=six_cells HBX.out.blk
 have hld:=HBX.out.blk.lt
 clear hw4 hb4 hk4 hbv
 go_upto_region 2 with fail
 rw [HW4.out]
 have hq:=HO.out
 clear HO
 by_cases h0:ae=0
 ·have t0:(ae != 0)=false:=by simp [h0]
  by_cases hn:an=0
  ·skip
   have t2:(an == 0)=true:=by simp [hn]
   rw [if_pos (.inr hn)] at hq
   subst h0
   clear hn
   cases hq
   go_wp2
   go_ret3
   exact ⟨_,rfl,HE.out,HS.out⟩
  ·skip
   have t2:(an == 0)=false:=by simp [hn]
   rw [if_neg (fun h=>h.elim (fun h=>h h0) hn)] at hq
   have hkids:=HKI.out
   obtain ⟨gB,oB,capB,hvB,hglB,_,kB0,kB1,kB2,kB3,kB4,kB5⟩:=EX.kid (EX.next HS.out HX.out) (k:=1) (by rw [hkids];exact Nat.one_lt_two)
   rw [HV.out] at hvB
   cases hvB
   simp only [hkids,List.getElem_cons_zero,List.getElem_cons_succ,Nat.zero_mul,Nat.one_mul,Nat.add_zero] at kB0 kB1 kB2 kB3 kB4 kB5
   have hyb:b.at w4 (offE eb v3):=(EX.at_kids (EX.next HS.out HX.out)).2 b (by rw [hkids];simp)
   obtain ⟨p2,c2,hvb⟩:=EX.form_kids hyb
   rw [hvb] at kB5
   have HC2:=Lib.hid (evof_any b hb w4 eb f3 v3 l p2 c2 HE.out hyb hvb hdb 1)
   clear hkids hn h0
   have HO:=Lib.hid hq
   clear hq
   go_wp2_with fail
   clear HW4 d0 d1 d2 d3 d4 d5 hld y0 y1 y2 hl4 kB0 kB1 kB2 kB3 kB4 kB5 hglB
   refine HC2.out.mono ?_
   clear HC2
   obtain ⟨⟨⟨bk,bn,sb⟩,be,f5⟩,hb5⟩:∃ q,ofF (evalX b (l.map KnM.a)) 1 f3=q:=⟨_,rfl⟩
   rw [hb5] at HO ⊢
   simp only at HO
   clear hb5
   rintro e w5 ⟨v5,rfl,he5,hs5⟩
   simp only at he5
   replace HS:=Lib.hid (HS.out.trans hs5)
   replace HBX:=Lib.hid (HBX.out.step hs5)
   replace HBV:=Lib.hid (HBV.out.step hs5)
   replace HE:=Lib.hid he5
   clear he5 hs5
   obtain ⟨u0,u1,u2⟩:=three_cells HBV.out.blk
   have hfv:=fun i=>HBV.out.blk.frozen i
   have hlv:=HBV.out.blk.lt
   obtain ⟨hkS,hoS⟩:=set_threeE HBV.out.blk (.int .i64 bk) (.int .i64 bn) (.string sb)
   obtain ⟨wS,hwS⟩:∃ w',((w5.setCell ⟨w3.heap.size,0,none⟩ (.int .i64 bk)).setCell ⟨w3.heap.size,1,none⟩ (.int .i64 bn)).setCell ⟨w3.heap.size,2,none⟩ (.string sb)=w':=⟨_,rfl⟩
   rw [hwS] at hkS hoS
   have hwle:w.heap.size≤w3.heap.size:=Nat.le_of_lt hxl
   replace HE:=Lib.hid (EnvAt.wr H0.out HE.out HS.out hwle HBV.out hoS)
   replace HS:=Lib.hid (EnvS.wr HS.out hoS hwle)
   have HWS:=Lib.hid hwS
   obtain ⟨y0,y1,y2⟩:=three_cells hkS
   have hlS:=hkS.lt
   clear hwS hkS hoS
   go_upto_region 7 with fail
   rw [HWS.out]
   clear HWS u0 u1 u2 hfv hlv
   have hq:=HO.out
   have hq:((bn,(be == 0)),be,f5)=((on,ob),oe,ff):=hq
   clear HO
   cases hq
   go_wp2
   go_ret3
   exact ⟨_,rfl,HE.out,HS.out⟩
 ·skip
  have t0:(ae != 0)=true:=by simp [h0]
  rw [if_pos (.inl h0)] at hq
  clear h0
  cases hq
  go_wp2
  go_ret3
  exact ⟨_,rfl,HE.out,HS.out⟩
theorem kinds_two:(fun i=>([2]:List Int).any (fun y=>y == i))=fun i=>i == 2:=by
 funext i
 by_cases h:i=2
 ·subst h;rfl
 ·rw [show (i == 2)=false by simp [h]]
  simp [Ne.symm h]
theorem kinds_both:(fun i=>([0,1]:List Int).any (fun y=>y == i))=fun i=>i == 0 || i == 1:=by
 funext i
 by_cases h:i=0
 ·subst h;rfl
 ·by_cases h1:i=1
  ·subst h1;rfl
  ·rw [show (i == 0)=false by simp [h],show (i == 1)=false by simp [h1]]
   simp [Ne.symm h,Ne.symm h1]
theorem two_kinds (w:World):Sl (w.alloc (.cells #[.int .i64 0,.int .i64 1] 3)) (fun _=>True) 1 (.slice (some ⟨w.heap.size,0,none⟩) 2 2) 2 (ints [0,1]) :=
 (Own.made w 3 1 (ints [0,1]) [] 2 2 rfl ((Ones.nil.cons rfl).cons rfl) (Nat.le_refl _) (by decide) (Nat.le_refl 2)).sl (fun _ _=>trivial)
theorem one_kind (w:World):Sl (w.alloc (.cells #[.int .i64 2] 3)) (fun _=>True) 1 (.slice (some ⟨w.heap.size,0,none⟩) 1 1) 1 (ints [2]) :=
 (Own.made w 3 1 (ints [2]) [] 1 1 rfl (Ones.nil.cons rfl) (Nat.le_refl _) (by decide) (Nat.le_refl 1)).sl (fun _ _=>trivial)
def talC (t:Tally):List Value:=[.int .u64 (hiW t.z),.int .u64 (loW t.z),.int .i64 (t.c:Int),.int .i64 t.least,.int .i64 t.most]
def xC (x:EX) (p:Option Addr) (c:Nat):List Value:=[.int .i64 x.hd.op,.int .i64 x.hd.n,.string x.hd.s,.string x.hd.name,.string x.hd.src,.slice p x.kids.length c]
def kC (k:KnM) (pc:Option Addr) (nc cc:Nat) (pr:Option Addr) (nr cr:Nat):List Value:=[.string k.name,.int .i64 k.val.kind,.int .i64 k.val.n,.string k.val.s,.slice pc nc cc,.slice pr nr cr,.int .i64 k.is]
structure FoldT (w wr:World) (eb fj:Nat) (v vj:Value) (l:List KnM) (xb rb kb tb:Nat) (cx ck:List Value) (t:Tally):Prop where
 env:EnvAt wr eb fj vj l
 st:EnvS w wr eb v vj
 bx:BoxAt wr eb vj xb 27 cx
 br:BoxAt wr eb vj rb 35 [.int .i64 0,.int .i64 0,.string ⟨#[]⟩]
 bk:BoxAt wr eb vj kb 79 ck
 bt:BoxAt wr eb vj tb 132 (talC t)
 ok:TalOk t
theorem FoldT.step {w wr wr':World} {eb fj fj':Nat} {v vj vj':Value} {l l':List KnM} {xb rb kb tb:Nat} {cx ck:List Value} {t:Tally} (h:FoldT w wr eb fj v vj l xb rb kb tb cx ck t) (s:EnvS wr wr' eb vj vj') (he:EnvAt wr' eb fj' vj' l'):FoldT w wr' eb fj' v vj' l' xb rb kb tb cx ck t :=
 ⟨he,h.st.trans s,h.bx.step s,h.br.step s,h.bk.step s,h.bt.step s,h.ok⟩
def CntAt (x:EX) (n:Nat) (cnt:List KnA→Nat→RA (Int × Bool)):Prop:=∀ (w:World) (eb f:Nat) (v:Value) (l:List KnM) (p:Option Addr) (c:Nat),EnvAt w eb f v l→x.at w (offE eb v)→x.av=.slice p x.kids.length c→l.length+n≤1000000 →
 Calls Tryz.prog 74 #[.pointer (some ⟨eb,0,none⟩),.agg #[.int .i64 x.hd.op,.int .i64 x.hd.n,.string x.hd.s,.string x.hd.name,.string x.hd.src,.slice p x.kids.length c]] w (CntOut w eb v l (cnt (l.map KnM.a) f))
theorem foldR_zero (op:Int) (F:List AV→Nat→RA (Int × Bool)) (r:List AV) (rs:List (List AV)) (t:Tally):foldR op F (r::rs) t 0=(zeroA,16,0):=rfl
theorem foldR_succ (op:Int) (F:List AV→Nat→RA (Int × Bool)) (r:List AV) (rs:List (List AV)) (t:Tally) (f:Nat):foldR op F (r::rs) t (f+1)=if (F r f).2.1≠0 then (zeroA,(F r f).2.1,(F r f).2.2) else foldR op F rs (if (F r f).1.2=true then t.put (F r f).1.1 else t) (F r f).2.2:=rfl
theorem foldR_nil (op:Int) (F:List AV→Nat→RA (Int × Bool)) (t:Tally) (f:Nat):foldR op F [] t f=((toldA op t 0).1,(toldA op t 0).2.1,f):=toldA_eq op t f
theorem fold_any (x:EX) (n:Nat) (cnt:List KnA→Nat→RA (Int × Bool)) (hcnt:CntAt x n cnt) (hfit:∀ l',(∀ k∈l',KnOk k)→∀ f,fits (cnt l' f).1.1) (hnm:x.hd.name.size≤maxLen) (w:World) (eb f:Nat) (v:Value) (l:List KnM) (p:Option Addr) (c:Nat) (hE:EnvAt w eb f v l) (hx:x.at w (offE eb v)) (hv:x.av=.slice p x.kids.length c) (hd:l.length+(n+1)≤1000000) :
 Calls Tryz.prog 51 #[.pointer (some ⟨eb,0,none⟩),.agg #[.int .i64 x.hd.op,.int .i64 x.hd.n,.string x.hd.s,.string x.hd.name,.string x.hd.src,.slice p x.kids.length c]] w (EvOut w eb v l (foldF x.hd (l.map KnM.a) cnt f)):=by
 obtain ⟨w1,hw1⟩:∃ w1,w.alloc (.cells #[.int .i64 x.hd.op,.int .i64 x.hd.n,.string x.hd.s,.string x.hd.name,.string x.hd.src,.slice p x.kids.length c] 27)=w1:=⟨_,rfl⟩
 have hb1:Below w.heap.size w w1:=hw1▸(Below.refl _ _).alloc (Nat.le_refl _) _
 have hk1:Blk w1 w.heap.size 27 [.int .i64 x.hd.op,.int .i64 x.hd.n,.string x.hd.s,.string x.hd.name,.string x.hd.src,.slice p x.kids.length c]:=hw1▸Blk.new w _ _
 obtain ⟨w2,hw2⟩:∃ w2,w1.alloc (.cells #[.int .i64 0,.int .i64 0,.string ⟨#[]⟩] 35)=w2:=⟨_,rfl⟩
 have hb2:Below w1.heap.size w1 w2:=hw2▸(Below.refl _ _).alloc (Nat.le_refl _) _
 have hk2:Blk w2 w1.heap.size 35 [.int .i64 0,.int .i64 0,.string ⟨#[]⟩]:=hw2▸Blk.new w1 _ _
 have hl12:w.heap.size < w1.heap.size:=hk1.lt
 have hl12':w.heap.size≤w1.heap.size:=Nat.le_of_lt hl12
 have hs2:EnvS w w2 eb v v:=EnvS.of_below (hb1.trans (hb2.mono hb1.size))
 have he2:=(hE.below hb1).below hb2
 have hbx:BoxAt w2 eb v w.heap.size 27 [.int .i64 x.hd.op,.int .i64 x.hd.n,.string x.hd.s,.string x.hd.name,.string x.hd.src,.slice p x.kids.length c]:=(BoxAt.fresh hE hk1 rfl).below hb2
 have hbr:BoxAt w2 eb v w1.heap.size 35 [.int .i64 0,.int .i64 0,.string ⟨#[]⟩]:=BoxAt.fresh (hE.below hb1) hk2 rfl
 have H0:=Lib.hid hE
 have HX:=Lib.hid hx
 have HV:=Lib.hid hv
 have HE:=Lib.hid he2
 have HS:=Lib.hid hs2
 have HBX:=Lib.hid hbx
 have HBR:=Lib.hid hbr
 obtain ⟨d0,d1,d2,d3,d4,d5⟩:=six_cells hbx.blk
 have hld:=hbx.blk.lt
 clear hb1 hk1 hb2 hk2 hs2 he2 hbx hbr hE hx hv
 have hf:=find_any (w2.alloc (.cells #[.int .i64 2] 3)) eb f v l (HE.out.below ((Below.refl _ _).alloc (Nat.le_refl _) _)) x.hd.src _ _ _ [2] _ (one_kind w2)
 rw [kinds_two] at hf
 have HF:=Lib.hid hf
 have hbf:Below w2.heap.size w2 (w2.alloc (.cells #[.int .i64 2] 3)):=(Below.refl _ _).alloc (Nat.le_refl _) _
 have HBF:=Lib.hid hbf
 obtain ⟨⟨⟨ok,on,os⟩,oe,ff⟩,hout⟩:∃ out,foldF x.hd (l.map KnM.a) cnt f=out:=⟨_,rfl⟩
 rw [hout]
 unfold foldF at hout
 rw [findM_a] at hout
 have HO:=Lib.hid hout
 have HCNT:=Lib.hid hcnt
 have HFIT:=Lib.hid hfit
 clear hf hbf hout hcnt hfit
 go_enter Tryz.func51,Tryz.ntmps51
 go_wp2_with fail
 clear hw1 hw2 d0 d1 d2 d3 d4 d5 hld
 refine HF.out.mono ?_
 clear HF
 rintro e w4 ⟨hb4,hfo⟩
 have hb24:=HBF.out.trans (hb4.mono HBF.out.size)
 replace HS:=Lib.hid (HS.out.trans (EnvS.of_below hb24))
 replace HBX:=Lib.hid (HBX.out.step (EnvS.of_below hb24))
 replace HBR:=Lib.hid (HBR.out.step (EnvS.of_below hb24))
 replace HE:=Lib.hid (HE.out.below hb24)
 clear hb24
 clear hb4 HBF
 rcases hfo with ⟨k,pc,nc,cc,pr,nr,cr,hfk,hcv,hrv,rfl⟩|⟨hfk,rfl⟩
 ·skip
  rw [hfk] at HO
  simp only [Option.map_some] at HO
  have hxr:w.heap.size < w1.heap.size∧w1.heap.size < w4.heap.size:=⟨hl12,HBR.out.blk.lt⟩
  have hkm:=findM_mem hfk
  have hkn:=H0.out.kn k hkm.1
  obtain ⟨pr',cr',hrv',_,_⟩:=hkn.rows.1.form
  have hnr:=hrv.symm.trans hrv'
  obtain rfl:nr=k.rows.length:=by cases hnr;rfl
  obtain ⟨w5,hw5⟩:∃ w5,w4.alloc (.cells #[.string k.name,.int .i64 k.val.kind,.int .i64 k.val.n,.string k.val.s,.slice pc nc cc,.slice pr k.rows.length cr,.int .i64 k.is] 79)=w5:=⟨_,rfl⟩
  have hb5:Below w4.heap.size w4 w5:=hw5▸(Below.refl _ _).alloc (Nat.le_refl _) _
  have hk5:Blk w5 w4.heap.size 79 (kC k pc nc cc pr k.rows.length cr):=hw5▸Blk.new w4 _ _
  obtain ⟨w6,hw6⟩:∃ w6,w5.alloc (.cells #[.int .u64 0,.int .u64 0,.int .i64 0,.int .i64 0,.int .i64 0] 132)=w6:=⟨_,rfl⟩
  have hb6:Below w5.heap.size w5 w6:=hw6▸(Below.refl _ _).alloc (Nat.le_refl _) _
  have hk6:Blk w6 w5.heap.size 132 (talC ⟨0,0,0,0⟩):=hw6▸Blk.new w5 _ _
  have hbk:BoxAt w6 eb v w4.heap.size 79 (kC k pc nc cc pr k.rows.length cr):=(BoxAt.fresh HE.out hk5 rfl).below hb6
  have hbt:BoxAt w6 eb v w5.heap.size 132 (talC ⟨0,0,0,0⟩):=BoxAt.fresh (HE.out.below hb5) hk6 rfl
  have hb56:=hb5.trans (hb6.mono hb5.size)
  have hx45:w4.heap.size < w5.heap.size:=hk5.lt
  replace HS:=Lib.hid (HS.out.trans (EnvS.of_below hb56))
  replace HBX:=Lib.hid (HBX.out.step (EnvS.of_below hb56))
  replace HBR:=Lib.hid (HBR.out.step (EnvS.of_below hb56))
  replace HE:=Lib.hid (HE.out.below hb56)
  clear hb56
  have HT:Hid (FoldT w w6 eb f v v l w.heap.size w1.heap.size w4.heap.size w5.heap.size (xC x p c) (kC k pc nc cc pr k.rows.length cr) ⟨0,0,0,0⟩):=Lib.hid ⟨HE.out,HS.out,HBX.out,HBR.out,hbk,hbt,TalOk.zero⟩
  have HKN:=Lib.hid hkn
  have HCV:=Lib.hid hcv
  have HRV:=Lib.hid hrv
  have HW5:=Lib.hid hw5
  have HW6:=Lib.hid hw6
  have hw6':=hw6
  clear hb5 hk5 hb6 hk6 hbk hbt hkm hkn hrv' hnr hcv hrv hfk hw6 hw5 HE HS HBX HBR
  obtain ⟨F,hF⟩:∃ F,(fun r=>cnt (List.map KnM.a l++[{ name:=x.hd.name,val:=zeroA,cols:=k.a.cols,rows:=[r],is:=1 }]))=F:=⟨_,rfl⟩
  rw [hF] at HO
  have HF:=Lib.hid hF
  clear hF
  obtain ⟨d0,d1,d2,d3,d4,d5⟩:=six_cells HT.out.bx.blk
  have hlx:=HT.out.bx.blk.lt
  obtain ⟨y0,y1,y2,y3,y4,y5,y6⟩:=seven_cells HT.out.bk.blk
  have hly:=HT.out.bk.blk.lt
  go_upto_region 4 with fail
  rw [HW5.out]
  go_wp2
  clear d0 d1 d2 d3 d4 d5 hlx y0 y1 y2 y3 y4 y5 y6 hly
  clear hw6'
  go_loopw [30] (fun iv wr=>∃ (j fj:Nat) (vj:Value) (t:Tally),iv=.int .i64 (j:Int)∧j≤k.rows.length∧FoldT w wr eb fj v vj l w.heap.size w1.heap.size w4.heap.size w5.heap.size (xC x p c) (kC k pc nc cc pr k.rows.length cr) t∧t.c≤j∧foldR x.hd.op F ((k.rows.map RowV.l).drop j) t fj=(⟨ok,on,os⟩,oe,ff)) (fun iv _=>k.rows.length - (intOf iv).toNat)
  case atStart=>exact ⟨0,f,v,⟨0,0,0,0⟩,rfl,Nat.zero_le _,HT.out,Nat.zero_le _,HO.out⟩
  case round =>
   clear HT HO
   obtain ⟨j,fj,vj,t,rfl,hj,hT,htc,hfo⟩:=hrel
   obtain ⟨wo,rfl⟩:∃ wo:World,wo=wr:=⟨_,rfl⟩
   have HT:=Lib.hid hT
   clear hT
   obtain ⟨d0,d1,d2,d3,d4,d5⟩:=six_cells HT.out.bx.blk
   have hlx:=HT.out.bx.blk.lt
   obtain ⟨y0,y1,y2,y3,y4,y5,y6⟩:=seven_cells HT.out.bk.blk
   have hly:=HT.out.bk.blk.lt
   by_cases hlt:j < k.rows.length
   ·obtain ⟨g,off,cap,hv,hce⟩:=(HKN.out.next HT.out.st).rows.at hlt
    rw [HRV.out] at hv
    cases hv
    obtain ⟨pj,cj,hvj,_,_⟩:=((HKN.out.next HT.out.st).rows.2 _ (List.getElem_mem hlt)).form
    rw [hvj] at hce
    have hrow:∀ w2 v2,EnvS w w2 eb v v2→Sl w2 (offE eb v2) 3 (.slice pj k.rows[j].l.length cj) k.rows[j].l.length (rowCells k.rows[j].l):=fun w2 v2 hs=>by
     rw [←hvj]
     exact (HKN.out.next hs).rows.2 _ (List.getElem_mem hlt)
    have hrok:∀ x∈k.rows[j].l,x.ok:=HKN.out.rok _ (List.getElem_mem hlt)
    rw [List.drop_eq_getElem_cons (l:=k.rows.map RowV.l) (i:=j) (by simpa using hlt),List.getElem_map] at hfo
    clear hvj
    generalize k.rows[j]=rj at *
    have HROW:=Lib.hid hrow
    have HROK:=Lib.hid hrok
    clear hrow hrok
    cases fj with
    | zero =>
     rw [foldR_zero] at hfo
     unfold zeroA at hfo
     cases hfo
     have HS0:=Lib.hid (step_none wo eb vj l HT.out.env)
     go_wp2_with fail
     refine HS0.out.mono ?_
     clear HS0
     rintro e w7 ⟨rfl,hw7⟩
     subst hw7
     have HR:=Lib.hid (wrong_e wo 16)
     go_wp2_with fail
     refine HR.out.mono ?_
     clear HR
     rintro r w9 ⟨rfl,hb9⟩
     unfold zeroA
     replace HT:=Lib.hid (HT.out.step (EnvS.of_below hb9) (HT.out.env.below hb9))
     clear hb9
     have hkr:=HT.out.br.blk
     obtain ⟨z0,z1,z2⟩:=three_cells hkr
     have hfr:=fun i=>hkr.frozen i
     have hlk:=hkr.lt
     clear hkr
     go_wp2
     obtain ⟨hkE,hoE⟩:=set_threeE HT.out.br.blk (.int .i64 0) (.int .i64 0) (.string ⟨#[]⟩)
     generalize ((w9.setCell ⟨w1.heap.size,0,none⟩ (.int .i64 0)).setCell ⟨w1.heap.size,1,none⟩ (.int .i64 0)).setCell ⟨w1.heap.size,2,none⟩ (.string ⟨#[]⟩)=wE at *
     obtain ⟨m0,m1,m2⟩:=three_cells hkE
     exact bodyPost_ret (v:=.tuple #[.agg #[.int .i64 0,.int .i64 0,.string ⟨#[]⟩],.int .i64 16]) (by simp [results,Tryz.results51,go_sem,m0,m1,m2]) rfl ⟨_,rfl,EnvAt.wr H0.out HT.out.env HT.out.st hl12' HT.out.br hoE,EnvS.wr HT.out.st hoE hl12'⟩
    | succ f1 =>
     rw [foldR_succ] at hfo
     have HO:=Lib.hid hfo
     clear hfo
     have HS1:=Lib.hid (step_some wo eb f1 vj l HT.out.env)
     go_wp2_with fail
     refine HS1.out.mono ?_
     clear HS1
     rintro e w7 ⟨rfl,he7,hs7⟩
     replace HT:=Lib.hid (HT.out.step hs7 he7)
     clear d0 d1 d2 d3 d4 d5 hlx y0 y1 y2 y3 y4 y5 y6 hly
     clear he7 hs7 hce
     obtain ⟨d0,d1,d2,d3,d4,d5⟩:=six_cells HT.out.bx.blk
     have hlx:=HT.out.bx.blk.lt
     obtain ⟨y0,y1,y2,y3,y4,y5,y6⟩:=seven_cells HT.out.bk.blk
     have hly:=HT.out.bk.blk.lt
     obtain ⟨kn,hkn⟩:∃ kn:KnM,kn=⟨x.hd.name,zeroA,.slice pc nc cc,k.cols,.slice (some ⟨w7.heap.size,0,none⟩) 1 1,[⟨.slice pj rj.l.length cj,rj.l⟩],1⟩:=⟨_,rfl⟩
     have hr7:=row_any w7 eb f1 vj l HT.out.env (by omega) x.hd.name pc pj nc cc rj.l.length cj k.cols rj.l (HCV.out▸(HKN.out.next HT.out.st).cols) (HROW.out w7 vj HT.out.st) HROK.out HKN.out.nms hnm
     rw [←hkn] at hr7
     have hkna:kn.a=⟨x.hd.name,zeroA,k.cols,[rj.l],1⟩:=by rw [hkn];rfl
     have HR7:=Lib.hid hr7
     have HKNA:=Lib.hid hkna
     clear hr7 hkna hkn
     go_wp2_with fail
     refine HR7.out.mono ?_
     clear HR7
     rintro e w8 ⟨v8,rfl,he8,hs8⟩
     replace HT:=Lib.hid (HT.out.step hs8 he8)
     clear d0 d1 d2 d3 d4 d5 hlx y0 y1 y2 y3 y4 y5 y6 hly
     clear he8 hs8
     obtain ⟨d0,d1,d2,d3,d4,d5⟩:=six_cells HT.out.bx.blk
     have hlx:=HT.out.bx.blk.lt
     obtain ⟨y0,y1,y2,y3,y4,y5,y6⟩:=seven_cells HT.out.bk.blk
     have hly:=HT.out.bk.blk.lt
     have HC:=Lib.hid (HCNT.out w8 eb f1 v8 (l++[kn]) p c HT.out.env (EX.next HT.out.st HX.out) HV.out (by simp only [List.length_append,List.length_singleton];omega))
     have HFT:=Lib.hid (HFIT.out _ HT.out.env.aok f1)
     go_wp2_with fail
     refine HC.out.mono ?_
     clear HC
     have hcq:cnt (List.map KnM.a (l++[kn])) f1=F rj.l f1:=by
      rw [←HF.out,List.map_append,List.map_singleton,HKNA.out]
      rfl
     rw [hcq] at HFT
     rw [hcq]
     clear hcq
     generalize F rj.l f1=q at *
     obtain ⟨⟨cn,cb⟩,ce,f2⟩:=q
     rintro e w9 ⟨v9,rfl,he9,hs9⟩
     simp only at he9 hs9 HFT HO
     replace HT:=Lib.hid (HT.out.step hs9 he9)
     clear d0 d1 d2 d3 d4 d5 hlx y0 y1 y2 y3 y4 y5 y6 hly
     clear he9 hs9
     have HD:=Lib.hid (drop_any w9 eb f2 v9 l kn HT.out.env)
     go_wp2_with fail
     refine HD.out.mono ?_
     clear HD
     rintro e w10 ⟨v10,rfl,he10,hs10⟩
     replace HT:=Lib.hid (HT.out.step hs10 he10)
     clear he10 hs10 HROW HROK HKNA
     by_cases he0:ce=0
     ·have hq:=HO.out
      rw [if_neg (by simp [he0])] at hq
      subst he0
      clear HO
      cases cb with
      | false =>
       rw [if_neg (by decide)] at hq
       have HO:=Lib.hid hq
       clear hq
       go_wp2
       go_roundw
       case rel=>exact ⟨j+1,f2,v10,t,by go_num,by omega,HT.out,by omega,HO.out⟩
       case measure=>(simp [intOf])<;>omega
      | true =>
       rw [if_pos rfl] at hq
       have HO:=Lib.hid hq
       have hrl:=HKN.out.rlen
       have HTP:=Lib.hid (HT.out.ok.put HFT.out (by omega))
       have HP:=Lib.hid (tput_any w10 w5.heap.size t.c t.z t.least t.most cn HT.out.bt.blk HFT.out (by omega))
       clear hq
       go_wp2_with fail
       refine HP.out.mono ?_
       clear HP
       rintro e w11 ⟨rfl,htal,hoP⟩
       have hwle:w.heap.size≤w5.heap.size:=by omega
       replace HT:Hid (FoldT w w11 eb f2 v v10 l w.heap.size w1.heap.size w4.heap.size w5.heap.size (xC x p c) (kC k pc nc cc (some ⟨g,off,none⟩) k.rows.length cr) (t.put cn)):=Lib.hid ⟨EnvAt.wr H0.out HT.out.env HT.out.st hwle HT.out.bt hoP,HT.out.st.wr hoP hwle,HT.out.bx.other hoP (by omega),HT.out.br.other hoP (by omega),HT.out.bk.other hoP (by omega),⟨htal,HT.out.bt.ne,HT.out.bt.nv⟩,HTP.out⟩
       clear htal hoP
       go_wp2
       go_roundw
       case rel=>exact ⟨j+1,f2,v10,t.put cn,by go_num,by omega,HT.out,Nat.succ_le_succ htc,HO.out⟩
       case measure=>(simp [intOf])<;>omega
     ·skip
      have t1:(ce != 0)=true:=by simp [he0]
      have hq:=HO.out
      rw [if_pos he0] at hq
      unfold zeroA at hq
      clear HO he0
      cases hq
      have HR:=Lib.hid (wrong_e w10 oe)
      go_wp2_with fail
      refine HR.out.mono ?_
      clear HR
      rintro r w9 ⟨rfl,hb9⟩
      unfold zeroA
      replace HT:=Lib.hid (HT.out.step (EnvS.of_below hb9) (HT.out.env.below hb9))
      clear hb9
      have hkr:=HT.out.br.blk
      obtain ⟨z0,z1,z2⟩:=three_cells hkr
      have hfr:=fun i=>hkr.frozen i
      have hlk:=hkr.lt
      clear hkr
      go_wp2
      obtain ⟨hkE,hoE⟩:=set_threeE HT.out.br.blk (.int .i64 0) (.int .i64 0) (.string ⟨#[]⟩)
      generalize ((w9.setCell ⟨w1.heap.size,0,none⟩ (.int .i64 0)).setCell ⟨w1.heap.size,1,none⟩ (.int .i64 0)).setCell ⟨w1.heap.size,2,none⟩ (.string ⟨#[]⟩)=wE at *
      obtain ⟨m0,m1,m2⟩:=three_cells hkE
      exact bodyPost_ret (v:=.tuple #[.agg #[.int .i64 0,.int .i64 0,.string ⟨#[]⟩],.int .i64 oe]) (by simp [results,Tryz.results51,go_sem,m0,m1,m2]) rfl ⟨_,rfl,EnvAt.wr H0.out HT.out.env HT.out.st hl12' HT.out.br hoE,EnvS.wr HT.out.st hoE hl12'⟩
   ·skip
    have hje:j=k.rows.length:=by omega
    rw [hje,List.drop_eq_nil_of_le (by simp),foldR_nil] at hfo
    have HP:=Lib.hid (told_anyT wo w5.heap.size x.hd.op t HT.out.bt.blk HT.out.ok.near)
    clear hje
    generalize toldA x.hd.op t 0=q at *
    obtain ⟨⟨qk,qn,qs⟩,qe,qf⟩:=q
    simp only at hfo HP
    have hlt':¬ (j:Int) < (k.rows.length:Int):=by omega
    cases hfo
    go_wp2_with fail
    refine HP.out.mono ?_
    clear HP
    rintro e w9 ⟨rfl,hb9⟩
    replace HT:=Lib.hid (HT.out.step (EnvS.of_below hb9) (HT.out.env.below hb9))
    clear d0 d1 d2 d3 d4 d5 hlx y0 y1 y2 y3 y4 y5 y6 hly
    clear hb9
    have hkr:=HT.out.br.blk
    obtain ⟨z0,z1,z2⟩:=three_cells hkr
    have hfr:=fun i=>hkr.frozen i
    have hlk:=hkr.lt
    clear hkr
    go_wp2
    obtain ⟨hkE,hoE⟩:=set_threeE HT.out.br.blk (.int .i64 ok) (.int .i64 on) (.string os)
    generalize ((w9.setCell ⟨w1.heap.size,0,none⟩ (.int .i64 ok)).setCell ⟨w1.heap.size,1,none⟩ (.int .i64 on)).setCell ⟨w1.heap.size,2,none⟩ (.string os)=wE at *
    obtain ⟨m0,m1,m2⟩:=three_cells hkE
    exact bodyPost_ret (v:=.tuple #[.agg #[.int .i64 ok,.int .i64 on,.string os],.int .i64 oe]) (by simp [results,Tryz.results51,go_sem,m0,m1,m2]) rfl ⟨_,rfl,EnvAt.wr H0.out HT.out.env HT.out.st hl12' HT.out.br hoE,EnvS.wr HT.out.st hoE hl12'⟩
 ·skip
  rw [hfk] at HO
  simp only [Option.map_none] at HO
  have hq:=HO.out
  unfold wrongA zeroA at hq
  clear hfk HO
  cases hq
  obtain ⟨w5,hw5⟩:∃ w5,w4.alloc (.cells #[.string ⟨#[]⟩,.int .i64 0,.int .i64 0,.string ⟨#[]⟩,.slice none 0 0,.slice none 0 0,.int .i64 0] 79)=w5:=⟨_,rfl⟩
  have hb5:Below w4.heap.size w4 w5:=hw5▸(Below.refl _ _).alloc (Nat.le_refl _) _
  replace HS:=Lib.hid (HS.out.trans (EnvS.of_below hb5))
  replace HBX:=Lib.hid (HBX.out.step (EnvS.of_below hb5))
  replace HBR:=Lib.hid (HBR.out.step (EnvS.of_below hb5))
  replace HE:=Lib.hid (HE.out.below hb5)
  clear hb5
  have HW5:=Lib.hid hw5
  clear hw5
  go_upto_region 3 with fail
  rw [HW5.out]
  have HR:=Lib.hid (wrong_e w5 13)
  go_wp2_with fail
  refine HR.out.mono ?_
  clear HR
  rintro r w9 ⟨rfl,hb9⟩
  unfold zeroA
  replace HS:=Lib.hid (HS.out.trans (EnvS.of_below hb9))
  replace HBX:=Lib.hid (HBX.out.step (EnvS.of_below hb9))
  replace HBR:=Lib.hid (HBR.out.step (EnvS.of_below hb9))
  replace HE:=Lib.hid (HE.out.below hb9)
  clear hb9
  have hkr:=HBR.out.blk
  obtain ⟨z0,z1,z2⟩:=three_cells hkr
  have hfr:=fun i=>hkr.frozen i
  have hlk:=hkr.lt
  clear hkr
  go_wp2
  obtain ⟨hkE,hoE⟩:=set_threeE HBR.out.blk (.int .i64 0) (.int .i64 0) (.string ⟨#[]⟩)
  generalize ((w9.setCell ⟨w1.heap.size,0,none⟩ (.int .i64 0)).setCell ⟨w1.heap.size,1,none⟩ (.int .i64 0)).setCell ⟨w1.heap.size,2,none⟩ (.string ⟨#[]⟩)=wE at *
  obtain ⟨m0,m1,m2⟩:=three_cells hkE
  exact bodyPost_ret (v:=.tuple #[.agg #[.int .i64 0,.int .i64 0,.string ⟨#[]⟩],.int .i64 13]) (by simp [results,Tryz.results51,go_sem,m0,m1,m2]) rfl ⟨_,rfl,EnvAt.wr H0.out HE.out HS.out hl12' HBR.out hoE,EnvS.wr HS.out hoE hl12'⟩
abbrev SZ:=Int × Int
def addZ (a b:SZ):SZ:=(min 1000 (a.1+b.1),max a.2 b.2)
def fullZ (s:SZ):Bool:=decide (1000≤s.1) || decide (1000≤s.2)
def overZ (s:SZ):SZ:=(min 1000 (s.1+1),min 1000 (s.2+1))
def smallZ (s:SZ):Bool:=decide (s.1≤300) && decide (s.2≤12)
def allZ (f:EX→SZ) (a:Int):List EX→SZ→SZ
 | [],s=>s
 | x::t,s=>if fullZ s || decide (1000≤a) then (1000,1000) else allZ f a t (addZ s (f x))
def sizeX:EX→Int→SZ
 | .leaf _,_=>overZ (0,0)
 | .one _ _ x,a=>overZ (if fullZ (0,0) || decide (1000≤a+1) then (1000,1000) else addZ (0,0) (sizeX x (a+1)))
 | .two _ _ x y,a=>overZ (if fullZ (0,0) || decide (1000≤a+1) then (1000,1000) else if fullZ (addZ (0,0) (sizeX x (a+1))) || decide (1000≤a+1) then (1000,1000) else addZ (addZ (0,0) (sizeX x (a+1))) (sizeX y (a+1)))
theorem sizeX_eq:∀ (x:EX) (a:Int),sizeX x a=overZ (allZ (fun y=>sizeX y (a+1)) (a+1) x.kids (0,0))
 | .leaf _,_=>rfl
 | .one _ _ _,_=>rfl
 | .two _ _ _ _,_=>rfl
def okZ (s:SZ):Prop:=0≤s.1∧s.1≤1000∧0≤s.2∧s.2≤1000
theorem okZ.add {a b:SZ} (ha:okZ a) (hb:okZ b):okZ (addZ a b):=by unfold okZ addZ at *;simp only;omega
theorem okZ.over {a:SZ} (ha:okZ a):okZ (overZ a):=by unfold okZ overZ at *;simp only;omega
theorem okZ.all {f:EX→SZ} {a:Int}:∀ {l:List EX} {s:SZ},(∀ x∈l,okZ (f x))→okZ s→okZ (allZ f a l s)
 | [],_,_,hs=>hs
 | x::t,s,hf,hs=>by
  unfold allZ
  split
  ·unfold okZ;simp only;omega
  ·exact okZ.all (fun y hy=>hf y (List.mem_cons_of_mem _ hy)) (hs.add (hf x List.mem_cons_self))
theorem sizeX_ok:∀ (x:EX) (a:Int),okZ (sizeX x a):=fun x=>by
 refine EX.rec_kids (P:=fun x=>∀ a,okZ (sizeX x a)) (fun x IH a=>?_) x
 rw [sizeX_eq]
 exact (okZ.all (fun y hy=>IH y hy _) (by unfold okZ;simp only;omega)).over
def SzB (w:World) (b:Nat) (s:SZ):Prop:=Blk w b 91 [.int .i64 s.1,.int .i64 s.2]
theorem full_any (w:World) (b:Nat) (s:SZ) (h:SzB w b s):Calls Tryz.prog 84 #[.pointer (some ⟨b,0,none⟩)] w fun e w'=>e=.returned (.bool (fullZ s))∧w=w':=by
 have c0:w.cell? ⟨b,0,none⟩=some (.int .i64 s.1):=h.cell 0
 have c1:w.cell? ⟨b,1,none⟩=some (.int .i64 s.2):=h.cell 1
 have hl:b < w.heap.size:=h.lt
 obtain ⟨n,d⟩:=s
 simp only at c0 c1 ⊢
 clear h
 unfold fullZ
 simp only
 go_enter Tryz.func84,Tryz.ntmps84
 cases t1:decide (1000≤n) with
 | true =>
  go_wp2
  go_ret
  exact ⟨by simp,rfl⟩
 | false =>
  go_wp2
  go_ret
  exact ⟨by simp,rfl⟩
theorem small_any (w:World) (b:Nat) (s:SZ) (h:SzB w b s):Calls Tryz.prog 40 #[.pointer (some ⟨b,0,none⟩)] w fun e w'=>e=.returned (.bool (smallZ s))∧w=w':=by
 have c0:w.cell? ⟨b,0,none⟩=some (.int .i64 s.1):=h.cell 0
 have c1:w.cell? ⟨b,1,none⟩=some (.int .i64 s.2):=h.cell 1
 have hl:b < w.heap.size:=h.lt
 obtain ⟨n,d⟩:=s
 simp only at c0 c1 ⊢
 clear h
 unfold smallZ
 simp only
 go_enter Tryz.func40,Tryz.ntmps40
 cases t1:decide (n≤300) with
 | true =>
  go_wp2
  go_ret
  exact ⟨by simp,rfl⟩
 | false =>
  go_wp2
  go_ret
  exact ⟨by simp,rfl⟩
theorem add_anyZ (w:World) (b:Nat) (s t:SZ) (h:SzB w b s) (hs:okZ s) (ht:okZ t) :
 Calls Tryz.prog 85 #[.pointer (some ⟨b,0,none⟩),.agg #[.int .i64 t.1,.int .i64 t.2]] w fun e w'=>e=.returned (.tuple #[])∧SzB w' b (addZ s t)∧Only (fun q=>q=b) w w':=by
 obtain ⟨n,d⟩:=s
 obtain ⟨m,f⟩:=t
 unfold okZ at hs ht
 simp only at hs ht ⊢
 obtain ⟨w1,hw1⟩:∃ w1,w.alloc (.cells #[.int .i64 m,.int .i64 f] 91)=w1:=⟨_,rfl⟩
 have hb1:Below w.heap.size w w1:=hw1▸(Below.refl _ _).alloc (Nat.le_refl _) _
 have hk1:Blk w1 w.heap.size 91 [.int .i64 m,.int .i64 f]:=hw1▸Blk.new w _ _
 have hl0:b < w.heap.size:=h.lt
 have hb:=Blk.below h hb1
 have HB:=Lib.hid hb
 have HB1:=Lib.hid hb1
 have c0:w1.cell? ⟨b,0,none⟩=some (.int .i64 n):=hb.cell 0
 have c1:w1.cell? ⟨b,1,none⟩=some (.int .i64 d):=hb.cell 1
 have e0:w1.cell? ⟨w.heap.size,0,none⟩=some (.int .i64 m):=hk1.cell 0
 have e1:w1.cell? ⟨w.heap.size,1,none⟩=some (.int .i64 f):=hk1.cell 1
 have hfz:∀ i,w1.frozen? ⟨b,i,none⟩=false:=hb.frozen
 have hl:b < w1.heap.size:=hb.lt
 have hl1:=hk1.lt
 have hag:Agree (fun q=>q=w.heap.size) w1.drew (w1.setCell ⟨b,0,none⟩ (.int .i64 (min 1000 (n+m)))).drew:=fun q o hq=>by
  subst hq
  exact ((Only.refl (fun q=>q=b) w1).setCell (p:=⟨b,0,none⟩) (fun _=>rfl) (.int .i64 (min 1000 (n+m)))).cell (p:=⟨_,o,none⟩) hl1 (show ¬ w.heap.size=b by omega)
 clear h hb hk1 hb1
 go_enter Tryz.func85,Tryz.ntmps85
 go_upto_region 1 with fail
 clear hw1
 refine wp_region_lit_plan [] [(0,0),(1,0),(2,0),(3,0),(4,0),(6,0),(10,0),(11,0),(12,0),(14,0),(5,1),(7,1),(8,0),(9,0),(13,1),(17,0),(18,0),(15,2),(16,0),(19,3),(20,0),(21,0),(22,4)] ((fun q=>q=w.heap.size)) (by kernel_rfl) (by kernel_rfl) (fun c a d v w h=>by cases d<;>exact h) ?_
 go_wp2_with (first|(refine stp ?_))
 go_end0
 refine ⟨rfl,(HB.out.set 0 _).set 1 _,?_⟩
 exact ((((Only.of_none (S:=fun q=>q=b) HB1.out).setCell (p:=⟨b,0,none⟩) (fun _=>rfl) _).setCell (p:=⟨b,1,none⟩) (fun _=>rfl) _).drew)
theorem over_any (w:World) (s:SZ) (hs:okZ s):Calls Tryz.prog 62 #[.agg #[.int .i64 s.1,.int .i64 s.2]] w fun e w'=>e=.returned (.agg #[.int .i64 (overZ s).1,.int .i64 (overZ s).2])∧Below w.heap.size w w':=by
 obtain ⟨n,d⟩:=s
 unfold okZ at hs
 simp only at hs ⊢
 obtain ⟨w1,hw1⟩:∃ w1,w.alloc (.cells #[.int .i64 n,.int .i64 d] 91)=w1:=⟨_,rfl⟩
 have hb1:Below w.heap.size w w1:=hw1▸(Below.refl _ _).alloc (Nat.le_refl _) _
 have hk1:Blk w1 w.heap.size 91 [.int .i64 n,.int .i64 d]:=hw1▸Blk.new w _ _
 obtain ⟨w2,hw2⟩:∃ w2,w1.alloc (.cells #[.int .i64 0,.int .i64 0] 91)=w2:=⟨_,rfl⟩
 have hb2:Below w1.heap.size w1 w2:=hw2▸(Below.refl _ _).alloc (Nat.le_refl _) _
 have hk2:Blk w2 w1.heap.size 91 [.int .i64 0,.int .i64 0]:=hw2▸Blk.new w1 _ _
 have hk12:=hk1.below hb2
 have HB:=Lib.hid (hb1.trans (hb2.mono hb1.size))
 have HK:=Lib.hid hk2
 have e0:w2.cell? ⟨w.heap.size,0,none⟩=some (.int .i64 n):=hk12.cell 0
 have e1:w2.cell? ⟨w.heap.size,1,none⟩=some (.int .i64 d):=hk12.cell 1
 have z0:w2.cell? ⟨w1.heap.size,0,none⟩=some (.int .i64 0):=hk2.cell 0
 have z1:w2.cell? ⟨w1.heap.size,1,none⟩=some (.int .i64 0):=hk2.cell 1
 have hfz:∀ i,w2.frozen? ⟨w1.heap.size,i,none⟩=false:=hk2.frozen
 have hl0:=hk12.lt
 have hl2:=hk2.lt
 have hsz:=hb1.size
 clear hb1 hk1 hb2 hk2 hk12
 go_enter Tryz.func62,Tryz.ntmps62
 go_wp2
 have hkF:=(HK.out.set 0 (.int .i64 (min 1000 (n+1)))).set 1 (.int .i64 (min 1000 (d+1)))
 simp only [List.set_cons_zero,List.set_cons_succ] at hkF
 have hbF:Below w.heap.size w ((w2.setCell ⟨w1.heap.size,0,none⟩ (.int .i64 (min 1000 (n+1)))).setCell ⟨w1.heap.size,1,none⟩ (.int .i64 (min 1000 (d+1)))):=(HB.out.setCell (p:=⟨w1.heap.size,0,none⟩) hsz _).setCell (p:=⟨w1.heap.size,1,none⟩) hsz _
 generalize (w2.setCell ⟨w1.heap.size,0,none⟩ (.int .i64 (min 1000 (n+1)))).setCell ⟨w1.heap.size,1,none⟩ (.int .i64 (min 1000 (d+1)))=wE at *
 have m0:wE.cell? ⟨w1.heap.size,0,none⟩=some (.int .i64 (min 1000 (n+1))):=hkF.cell 0
 have m1:wE.cell? ⟨w1.heap.size,1,none⟩=some (.int .i64 (min 1000 (d+1))):=hkF.cell 1
 exact bodyPost_ret (v:=.agg #[.int .i64 (min 1000 (n+1)),.int .i64 (min 1000 (d+1))]) (by simp [results,Tryz.results62,go_sem,m0,m1]) rfl ⟨rfl,hbF⟩
def SzOut (w:World) (s:SZ) (e:Ending) (w':World):Prop:=e=.returned (.agg #[.int .i64 s.1,.int .i64 s.2])∧Below w.heap.size w w'
def SizeAt (x:EX) (a:Int):Prop:=∀ (w:World) (B:Nat→Prop) (p:Option Addr) (c:Nat),x.at w B→x.av=.slice p x.kids.length c →
 Calls Tryz.prog 39 #[.agg #[.int .i64 x.hd.op,.int .i64 x.hd.n,.string x.hd.s,.string x.hd.name,.string x.hd.src,.slice p x.kids.length c],.int .i64 a] w (SzOut w (sizeX x a))
theorem all_anyZ (x:EX) (a:Int) (ha:0≤a∧a≤1001) (IH:∀ y∈x.kids,a≤1000→SizeAt y a) (w:World) (B:Nat→Prop) (p:Option Addr) (c:Nat) (hx:x.at w B) (hv:x.av=.slice p x.kids.length c) :
 Calls Tryz.prog 63 #[.slice p x.kids.length c,.int .i64 a,.func (.func 39) #[] #[]] w (SzOut w (allZ (fun y=>sizeX y a) a x.kids (0,0))):=by
 obtain ⟨w1,hw1⟩:∃ w1,w.alloc (.cells #[.int .i64 0,.int .i64 0] 91)=w1:=⟨_,rfl⟩
 have hb1:Below w.heap.size w w1:=hw1▸(Below.refl _ _).alloc (Nat.le_refl _) _
 have hk1:Blk w1 w.heap.size 91 [.int .i64 0,.int .i64 0]:=hw1▸Blk.new w _ _
 obtain ⟨w2,hw2⟩:∃ w2,w1.alloc (.cells #[.int .i64 0,.int .i64 0] 91)=w2:=⟨_,rfl⟩
 have hb2:Below w1.heap.size w1 w2:=hw2▸(Below.refl _ _).alloc (Nat.le_refl _) _
 have hk2:Blk w2 w1.heap.size 91 [.int .i64 0,.int .i64 0]:=hw2▸Blk.new w1 _ _
 have hl12:w.heap.size < w1.heap.size:=hk1.lt
 have HBR:=Lib.hid (hb1.trans (hb2.mono hb1.size))
 have HK6:=Lib.hid (hk1.below hb2)
 have HK7:=Lib.hid hk2
 have HX:=Lib.hid hx
 have HIH:=Lib.hid IH
 have HV:=Lib.hid hv
 have hle:=EX.kids_le x
 obtain ⟨out,hout⟩:∃ out,allZ (fun y=>sizeX y a) a x.kids (0,0)=out:=⟨_,rfl⟩
 rw [hout]
 have HO:=Lib.hid hout
 clear hout hb1 hk1 hb2 hk2 hx IH hv
 go_enter Tryz.func63,Tryz.ntmps63
 go_wp2
 clear hw1 hw2
 go_loopw [12] (fun iv wr=>∃ (k:Nat) (s:SZ),iv=.int .i64 k∧k≤x.kids.length∧okZ s∧allZ (fun y=>sizeX y a) a (x.kids.drop k) s=out∧Below w.heap.size w wr∧Blk wr w.heap.size 91 [.int .i64 0,.int .i64 0]∧SzB wr w1.heap.size s) (fun iv _=>x.kids.length - (intOf iv).toNat)
 case atStart=>exact ⟨0,(0,0),rfl,Nat.zero_le _,(by unfold okZ;simp only;omega),HO.out,HBR.out,HK6.out,HK7.out⟩
 case round =>
  obtain ⟨k,s,rfl,hk,hs,hq,hbr,hk6,hk7⟩:=hrel
  obtain ⟨wo,rfl⟩:∃ wo:World,wo=wr:=⟨_,rfl⟩
  replace HBR:=Lib.hid hbr
  replace HK6:=Lib.hid hk6
  replace HK7:=Lib.hid hk7
  have HS:=Lib.hid hs
  by_cases hkn:k < x.kids.length
  ·skip
   have hxw:=EX.at_below hbr x HX.out
   obtain ⟨g,off,cap,hv,hgl,hg,e0,e1,e2,e3,e4,e5⟩:=EX.kid hxw hkn
   rw [HV.out] at hv
   cases hv
   have hy:=(EX.at_kids hxw).2 _ (List.getElem_mem hkn)
   obtain ⟨p',c',hv'⟩:=EX.form_kids hy
   rw [hv'] at e5
   have HC:=Lib.hid (HIH.out _ (List.getElem_mem hkn))
   rw [List.drop_eq_getElem_cons hkn,allZ.eq_def] at hq
   simp only at hq
   have HQ:=Lib.hid hq
   generalize x.kids[k]=y at *
   obtain ⟨w3,hw3⟩:∃ w3,wo.alloc (.cells #[.int .i64 y.hd.op,.int .i64 y.hd.n,.string y.hd.s,.string y.hd.name,.string y.hd.src,.slice p' y.kids.length c'] 27)=w3:=⟨_,rfl⟩
   have hb3:Below wo.heap.size wo w3:=hw3▸(Below.refl _ _).alloc (Nat.le_refl _) _
   have hk3:Blk w3 wo.heap.size 27 [.int .i64 y.hd.op,.int .i64 y.hd.n,.string y.hd.s,.string y.hd.name,.string y.hd.src,.slice p' y.kids.length c']:=hw3▸Blk.new wo _ _
   have hy3:=EX.at_below hb3 y hy
   have HB3:=Lib.hid hb3
   have HW3:=Lib.hid hw3
   have HY:=Lib.hid hy3
   have HV':=Lib.hid hv'
   have HF:=Lib.hid (full_any w3 w1.heap.size s (hk7.below hb3))
   obtain ⟨d0,d1,d2,d3,d4,d5⟩:=six_cells hk3
   have hl3:=hk3.lt
   have hsz3:=hb3.size
   clear hbr hk6 hk7 hxw hy hv' hg hq hw3 hb3 hk3 hy3 hs
   go_upto_region 5 with fail
   rw [HW3.out]
   clear HW3 e0 e1 e2 e3 e4 e5
   replace HBR:=Lib.hid (HBR.out.trans (HB3.out.mono HBR.out.size))
   replace HK6:=Lib.hid (HK6.out.below HB3.out)
   replace HK7:=Lib.hid (Blk.below HK7.out HB3.out)
   go_cut [20] (fun t wc=>∃ b,t=.bool b∧w3=wc∧b=(fullZ s || decide (1000≤a)))
   case first =>
    go_wp2_with fail
    refine HF.out.mono ?_
    clear HF
    rintro e w4 ⟨rfl,hw4⟩
    subst hw4
    cases hfl:fullZ s with
    | true =>
     go_wp2
     go_meet
     exact ⟨true,rfl,rfl,by rw [hfl,Bool.true_or]⟩
    | false =>
     go_wp2
     go_meet
     exact ⟨_,rfl,rfl,by rw [hfl,Bool.false_or]⟩
   case rest =>
   obtain ⟨b,rfl,hwc,hb⟩:=hcut
   subst hwc
   cases b with
   | true =>
    have hout:out=(1000,1000):=by rw [←HQ.out,if_pos (by rw [←hb])]
    have HOUT:=Lib.hid hout
    have z0:w3.cell? ⟨w.heap.size,0,none⟩=some (.int .i64 0):=HK6.out.cell 0
    have z1:w3.cell? ⟨w.heap.size,1,none⟩=some (.int .i64 0):=HK6.out.cell 1
    have zf:∀ i,w3.frozen? ⟨w.heap.size,i,none⟩=false:=HK6.out.frozen
    have zl:=HK6.out.lt
    clear hb hout
    go_wp2
    have hkF:=(HK6.out.set 0 (.int .i64 1000)).set 1 (.int .i64 1000)
    simp only [List.set_cons_zero,List.set_cons_succ] at hkF
    have hbF:Below w.heap.size w ((w3.setCell ⟨w.heap.size,0,none⟩ (.int .i64 1000)).setCell ⟨w.heap.size,1,none⟩ (.int .i64 1000)):=(HBR.out.setCell (p:=⟨w.heap.size,0,none⟩) (Nat.le_refl _) _).setCell (p:=⟨w.heap.size,1,none⟩) (Nat.le_refl _) _
    generalize (w3.setCell ⟨w.heap.size,0,none⟩ (.int .i64 1000)).setCell ⟨w.heap.size,1,none⟩ (.int .i64 1000)=wE at *
    have m0:wE.cell? ⟨w.heap.size,0,none⟩=some (.int .i64 1000):=hkF.cell 0
    have m1:wE.cell? ⟨w.heap.size,1,none⟩=some (.int .i64 1000):=hkF.cell 1
    exact bodyPost_ret (v:=.agg #[.int .i64 1000,.int .i64 1000]) (by simp [results,Tryz.results63,go_sem,m0,m1]) rfl (by rw [HOUT.out];exact ⟨rfl,hbF⟩)
   | false =>
    have h1000:a < 1000:=by
     have h2:(fullZ s || decide (1000≤a))=false:=hb.symm
     rw [Bool.or_eq_false_iff] at h2
     have:=of_decide_eq_false h2.2
     omega
    have hout:allZ (fun y=>sizeX y a) a (x.kids.drop (k+1)) (addZ s (sizeX y a))=out:=by rw [←HQ.out,if_neg (by rw [←hb];decide)]
    have HOUT:=Lib.hid hout
    have HSZ:=Lib.hid (HC.out (by omega) w3 _ p' c' HY.out HV'.out)
    have HYok:=Lib.hid (sizeX_ok y a)
    clear hb hout
    go_wp2_with fail
    refine HSZ.out.mono ?_
    clear HSZ
    rintro e w4 ⟨rfl,hb4⟩
    replace HBR:=Lib.hid (HBR.out.trans (hb4.mono HBR.out.size))
    replace HK6:=Lib.hid (HK6.out.below hb4)
    replace HK7:=Lib.hid (Blk.below HK7.out hb4)
    have HA:=Lib.hid (add_anyZ w4 w1.heap.size s (sizeX y a) HK7.out HS.out HYok.out)
    generalize sizeX y a=sy at *
    clear hb4 d0 d1 d2 d3 d4 d5 hl3
    go_wp2_with fail
    refine HA.out.mono ?_
    clear HA
    rintro e w5 ⟨rfl,hk5,ho5⟩
    have hw1s:=HBR.out.size
    have HBR5:=Lib.hid (HBR.out.trans (ho5.below hw1s (fun q hq=>by omega)))
    have HK65:=Lib.hid (HK6.out.only ho5 (by omega))
    have HK75:=Lib.hid hk5
    have HS5:=Lib.hid (HS.out.add HYok.out)
    clear hk5 ho5
    go_wp2
    go_roundw
    case rel=>exact ⟨k+1,addZ s sy,by go_num,by omega,HS5.out,HOUT.out,HBR5.out,HK65.out,HK75.out⟩
    case measure=>(simp [intOf])<;>omega
  ·skip
   have hout:s=out:=by
    rw [List.drop_eq_nil_of_le (by omega)] at hq
    exact hq
   subst hout
   have y0:wo.cell? ⟨w1.heap.size,0,none⟩=some (.int .i64 s.1):=hk7.cell 0
   have y1:wo.cell? ⟨w1.heap.size,1,none⟩=some (.int .i64 s.2):=hk7.cell 1
   have yl:=Blk.lt hk7
   have z0:wo.cell? ⟨w.heap.size,0,none⟩=some (.int .i64 0):=HK6.out.cell 0
   have z1:wo.cell? ⟨w.heap.size,1,none⟩=some (.int .i64 0):=HK6.out.cell 1
   have zf:∀ i,wo.frozen? ⟨w.heap.size,i,none⟩=false:=HK6.out.frozen
   have zl:=HK6.out.lt
   clear hq hbr hk6 hk7 hs
   obtain ⟨n,d⟩:=s
   simp only at y0 y1
   go_wp2
   have hkF:=(HK6.out.set 0 (.int .i64 n)).set 1 (.int .i64 d)
   simp only [List.set_cons_zero,List.set_cons_succ] at hkF
   have hbF:Below w.heap.size w ((wo.setCell ⟨w.heap.size,0,none⟩ (.int .i64 n)).setCell ⟨w.heap.size,1,none⟩ (.int .i64 d)):=(HBR.out.setCell (p:=⟨w.heap.size,0,none⟩) (Nat.le_refl _) _).setCell (p:=⟨w.heap.size,1,none⟩) (Nat.le_refl _) _
   generalize (wo.setCell ⟨w.heap.size,0,none⟩ (.int .i64 n)).setCell ⟨w.heap.size,1,none⟩ (.int .i64 d)=wE at *
   have m0:wE.cell? ⟨w.heap.size,0,none⟩=some (.int .i64 n):=hkF.cell 0
   have m1:wE.cell? ⟨w.heap.size,1,none⟩=some (.int .i64 d):=hkF.cell 1
   exact bodyPost_ret (v:=.agg #[.int .i64 n,.int .i64 d]) (by simp [results,Tryz.results63,go_sem,m0,m1]) rfl (⟨rfl,hbF⟩)
theorem sizex_any:∀ (x:EX) (a:Int),0≤a∧a≤1000→SizeAt x a:=by
 refine EX.rec_kids fun x IH a ha w B p c hx hv=>?_
 obtain ⟨w1,hw1⟩:∃ w1,w.alloc (.cells #[.int .i64 x.hd.op,.int .i64 x.hd.n,.string x.hd.s,.string x.hd.name,.string x.hd.src,.slice p x.kids.length c] 27)=w1:=⟨_,rfl⟩
 have hb1:Below w.heap.size w w1:=hw1▸(Below.refl _ _).alloc (Nat.le_refl _) _
 have hk1:Blk w1 w.heap.size 27 [.int .i64 x.hd.op,.int .i64 x.hd.n,.string x.hd.s,.string x.hd.name,.string x.hd.src,.slice p x.kids.length c]:=hw1▸Blk.new w _ _
 obtain ⟨w2,hw2⟩:∃ w2,w1.alloc (.cells #[.int .i64 0,.int .i64 0] 91)=w2:=⟨_,rfl⟩
 have hb2:Below w1.heap.size w1 w2:=hw2▸(Below.refl _ _).alloc (Nat.le_refl _) _
 have hk2:Blk w2 w1.heap.size 91 [.int .i64 0,.int .i64 0]:=hw2▸Blk.new w1 _ _
 have hl12:w.heap.size < w1.heap.size:=hk1.lt
 have hbw:=hb1.trans (hb2.mono hb1.size)
 have hk12:=hk1.below hb2
 have HBR:=Lib.hid hbw
 have HK:=Lib.hid hk2
 have HA:=Lib.hid (all_anyZ x (a+1) (by omega) (fun y hy h=>IH y hy (a+1) (by omega)) w2 B p c (EX.at_below hbw x hx) hv)
 have hok:okZ (allZ (fun y=>sizeX y (a+1)) (a+1) x.kids (0,0)):=okZ.all (fun y _=>sizeX_ok y _) (by unfold okZ;simp only;omega)
 rw [sizeX_eq]
 generalize allZ (fun y=>sizeX y (a+1)) (a+1) x.kids (0,0)=t at *
 have HO:=Lib.hid (fun W=>over_any W t hok)
 have HOK:=Lib.hid hok
 obtain ⟨d0,d1,d2,d3,d4,d5⟩:=six_cells hk12
 have hl0:=hk12.lt
 clear hb1 hk1 hb2 hk2 hbw hk12 hx IH hv hok
 go_enter Tryz.func39,Tryz.ntmps39
 go_wp2_with fail
 clear hw1 hw2 d0 d1 d2 d3 d4 d5 hl0
 refine HA.out.mono ?_
 clear HA
 rintro e w3 ⟨rfl,hb3⟩
 replace HBR:=Lib.hid (HBR.out.trans (hb3.mono HBR.out.size))
 replace HK:=Lib.hid (HK.out.below hb3)
 clear hb3
 go_wp2_with fail
 refine (HO.out _).mono ?_
 clear HO
 rintro e w4 ⟨rfl,hb4⟩
 replace HBR:=Lib.hid (HBR.out.trans (hb4.mono HBR.out.size))
 have hk4:=HK.out.below hb4
 replace HK:=Lib.hid hk4
 have z0:w4.cell? ⟨w1.heap.size,0,none⟩=some (.int .i64 0):=hk4.cell 0
 have z1:w4.cell? ⟨w1.heap.size,1,none⟩=some (.int .i64 0):=hk4.cell 1
 have zf:∀ i,w4.frozen? ⟨w1.heap.size,i,none⟩=false:=hk4.frozen
 have zl:=hk4.lt
 obtain ⟨⟨n,d⟩,hnd⟩:∃ q,overZ t=q:=⟨_,rfl⟩
 rw [hnd]
 have HND:=Lib.hid hnd
 clear hb4 hk4 hnd
 go_wp2
 have hkF:=(HK.out.set 0 (.int .i64 n)).set 1 (.int .i64 d)
 simp only [List.set_cons_zero,List.set_cons_succ] at hkF
 have hbF:Below w.heap.size w ((w4.setCell ⟨w1.heap.size,0,none⟩ (.int .i64 n)).setCell ⟨w1.heap.size,1,none⟩ (.int .i64 d)):=(HBR.out.setCell (p:=⟨w1.heap.size,0,none⟩) (Nat.le_of_lt hl12) _).setCell (p:=⟨w1.heap.size,1,none⟩) (Nat.le_of_lt hl12) _
 generalize (w4.setCell ⟨w1.heap.size,0,none⟩ (.int .i64 n)).setCell ⟨w1.heap.size,1,none⟩ (.int .i64 d)=wE at *
 have m0:wE.cell? ⟨w1.heap.size,0,none⟩=some (.int .i64 n):=hkF.cell 0
 have m1:wE.cell? ⟨w1.heap.size,1,none⟩=some (.int .i64 d):=hkF.cell 1
 exact bodyPost_ret (v:=.agg #[.int .i64 n,.int .i64 d]) (by simp [results,Tryz.results39,go_sem,m0,m1]) rfl ⟨by rw [HND.out],hbF⟩
theorem free_anyP (w:World) (t:ByteArray) (ht:t.size≤maxLen):Calls Tryz.prog 38 #[.string t] w (SomeBool w):=by
 have HN:=Lib.hid (fun W=>refnamed W t ht)
 have HR:=Lib.hid (fun W=>reserved_any W t)
 go_enter Tryz.func38,Tryz.ntmps38
 go_wp2_with fail
 refine (HN.out _).mono ?_
 rintro e w2 ⟨rfl,rfl⟩
 cases hb:namedB t with
 | false =>
  go_wp2
  go_ret
  exact ⟨_,rfl,Below.refl _ _⟩
 | true =>
  go_wp2_with fail
  refine (HR.out _).mono ?_
  rintro e w3 ⟨b,rfl,hb3⟩
  have HB3:=Lib.hid hb3
  clear hb3
  go_wp2
  go_ret
  exact ⟨_,rfl,HB3.out⟩
def SomeInt (w:World) (e:Ending) (w':World):Prop:=∃ n:Int,e=.returned (.int .i64 n)∧Below w.heap.size w w'
theorem ends_any (w:World) (sb:Nat) (wv:Value) (ws:List WdV) (s:PSt) (h:PS w sb wv ws s) (n:Int):Calls Tryz.prog 18 #[.pointer (some ⟨sb,0,none⟩),.int .i64 n] w (SomeInt w):=by
 obtain ⟨pw,cw,hwv⟩:=h.form
 have hbk:=h.blk
 rw [hwv] at hbk
 have c0:w.cell? ⟨sb,0,none⟩=some (.slice pw ws.length cw):=hbk.cell 0
 have c1:w.cell? ⟨sb,1,none⟩=some (.int .i64 (s.i:Int)):=hbk.cell 1
 have c2:w.cell? ⟨sb,2,none⟩=some (.int .i64 s.op):=hbk.cell 2
 have c3:w.cell? ⟨sb,3,none⟩=some (.bool s.deep):=hbk.cell 3
 have c4:w.cell? ⟨sb,4,none⟩=some (.bool s.bad):=hbk.cell 4
 have hfz:∀ i,w.frozen? ⟨sb,i,none⟩=false:=hbk.frozen
 have hlt:=hbk.lt
 have hle:=h.le
 have hlim:=h.lim
 obtain ⟨i,op,deep,bad⟩:=s
 simp only at c1 c2 c3 c4 hle
 by_cases hi:i < ws.length
 ·obtain ⟨g,off,cap,hv,hgl,hg,e0,e1,e2,e3⟩:=h.at hi
  rw [hwv] at hv
  cases hv
  generalize ws[i]=x at *
  clear h hbk hwv
  go_enter Tryz.func18,Tryz.ntmps18
  cases deep with
  | true =>
   go_wp2
   go_ret
   exact ⟨_,rfl,Below.refl _ _⟩
  | false =>
   go_upto_region 3 with fail
   refine wp_region_lit_plan [] [(0,0),(1,0),(2,0),(4,0),(5,0),(6,0),(3,1),(7,1),(8,0),(9,0)] ((fun q=>q=sb∨q=g)) (by kernel_rfl) (by kernel_rfl) (fun c a d v w h=>by cases d<;>exact h) ?_
   go_upto_region 4 with (first|(refine stp ?_))
   refine wp_region_lit_plan [] [(0,0),(1,0),(2,0),(4,0),(5,0),(6,0),(3,1),(7,1),(8,0),(9,0),(10,1),(11,0)] ((fun q=>q=sb∨q=g)) (by kernel_rfl) (by kernel_rfl) (fun c a d v w h=>by cases d<;>exact h) ?_
   go_wp2_with (first|(refine stp ?_))
   go_ret
   exact ⟨_,rfl,(Below.refl _ _).drew.drew⟩
 ·clear h hbk hwv
  go_enter Tryz.func18,Tryz.ntmps18
  cases deep with
  | true =>
   go_wp2
   go_ret
   exact ⟨_,rfl,Below.refl _ _⟩
  | false =>
   go_upto_region 3 with fail
   refine wp_region_lit_plan [] [(0,0),(1,0),(2,0),(4,0),(5,0),(6,0),(3,1),(7,1),(8,0),(9,0)] ((fun q=>q=sb)) (by kernel_rfl) (by kernel_rfl) (fun c a d v w h=>by cases d<;>exact h) ?_
   go_upto_region 5 with (first|(refine stp ?_))
   cases bad with
   | true =>
    go_wp2
    go_ret
    exact ⟨_,rfl,(Below.refl _ _).drew⟩
   | false =>
    go_wp2
    go_ret
    exact ⟨_,rfl,(Below.refl _ _).drew⟩
structure BldS (w wr:World) (b1 b2:Nat) (cs:List Value) (cs2:List Value):Prop where
 bel:Below w.heap.size w wr
 k1:Blk wr b1 27 cs
 k2:Blk wr b2 27 cs2
 l1:w.heap.size≤b1
 l2:b1 < b2
theorem BldS.below {w wr wr':World} {b1 b2:Nat} {cs cs2:List Value} (h:BldS w wr b1 b2 cs cs2) (hb:Below wr.heap.size wr wr'):BldS w wr' b1 b2 cs cs2:=⟨h.bel.trans (hb.mono h.bel.size),h.k1.below hb,h.k2.below hb,h.l1,h.l2⟩
theorem BldS.set {w wr:World} {b1 b2:Nat} {cs cs2:List Value} (h:BldS w wr b1 b2 cs cs2) (i:Nat) (v:Value):BldS w (wr.setCell ⟨b2,i,none⟩ v) b1 b2 cs (cs2.set i v) :=
 have hlt:=h.l2
 have hl1:=h.l1
 ⟨h.bel.setCell (p:=⟨b2,i,none⟩) (show w.heap.size≤b2 by omega) v,h.k1.setOther (p:=⟨b2,i,none⟩) (show b1≠b2 by omega) v,h.k2.set i v,h.l1,h.l2⟩
end Go.Proofs.YtnpplhkpnbonaaaGreat
