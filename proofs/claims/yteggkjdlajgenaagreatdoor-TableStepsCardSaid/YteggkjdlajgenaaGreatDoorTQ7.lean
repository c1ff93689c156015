/- Contracts of the functions that the statement reaches, one behind the other. No condition beyond each theorem's own. -/
import Derived.Test.YteggkjdlajgenaaGreatDoorTQ6
set_option linter.unusedSimpArgs false
set_option linter.unusedVariables false
set_option maxRecDepth 100000
set_option maxHeartbeats 4000000
theorem zfIM {P:Prop} (h:P:=by
 refine H2.out.below ?_
 repeat (with_reducible first|exact Below.refl _ _|apply Below.drew|(refine Below.alloc ?_ znAK _)|(refine Below.setCell ?_ znAK _))
 ):P:=h
theorem zyeu {P:Prop} (h:P:=by
 have h1:y < 10 ^ 19:=by
  have h2:vd (d++ld y)=u:=by rw [hd,vd_ld]
  rw [vd_append,vd_ld] at h2
  have h3:y≤10 ^ d.length*y:=Nat.le_mul_of_pos_left _ (Nat.pow_pos zTbe)
  have h4:=HU.out
  omega
 omega
 ):P:=h
theorem zWY1 {P:Prop} (h:P:=by
 have zz:Hid (Blk wr w.heap.size 168 [.bool false,.slice none 0 0]):=HB0.out.only (S:=fun k=>w.heap.size+1≤k) (Only.of_below hb (fun i _ h=>zTbe)) zTbe
 exact zz):P:=h
theorem zWKN {P:Prop} (h:P:=by
 have h2:=h1.trans (hb2.mono h1.size)
 exact (h2.setCell (Nat.le_refl _) _).setCell (Nat.le_refl _) _
 ):P:=h
theorem zVxJ {P:Prop} (h:P:=by
 have hwr:IntKind.u64.wrap ((y:Int) / 10)=(y:Int) / 10:=zm6w
 have ho1:=how.alloc (.cells #[.int .i64 ((y:Int) % 10)] 3)
 have hs1:=one_int wr (y % 10)
 have e9:=zdQi
 rw [e9] at hs1
 clear hd how hfr hb e9
 go_wp2_with (first
  | (at_builtin;refine wpList_app rfl _ _ rfl elemInt zdhv ho1 zdhv hs1 zefz zTbe ?_;intro v1 w2 g1 g2 g3 g4 g5;clear hs1 ho1;
     have G1:=Lib.hid g1;have G2:=Lib.hid g2;have G3:=Lib.hid g3;clear g1 g2 g3 g4 g5))
 have hsz0:w.heap.size+1≤wr.heap.size:=Nat.le_trans HS0.out HB.out.size
 have e9:=zdQi
 obtain ⟨k1,k2,k3,k4⟩:=push_post (x:=y % 10) hsz0 HF.out (by rw [e9];exact G1.out) (by rw [e9];exact G2.out) (by rw [e9];exact G3.out)
 refine ⟨⟨y / 10,d++[y % 10],by congr 1,?_,k1,k3,HB.out.trans k4⟩,?_⟩
 ·rw [List.append_assoc,←HD.out,ld_pos y hpos];rfl
 ·show ((y:Int) / 10).toNat < (y:Int).toNat
  omega
 ):P:=h
theorem zdQi {P:Prop} (h:P:=by
 have zz:((y % 10:Nat):Int)=(y:Int) % 10:=zTbe
 exact zz):P:=h
theorem zBxj {P:Prop} (h:P:=by
 have zz:Hid (∀ w',Below w.heap.size w w'→∀ i:Nat,Calls Tryz.prog 153 #[.slice pb b.length cb,.int .i64 i] w' fun e w2=>e=.returned (.int .i64 (b.getD i 0:Nat))∧w'=w2):=fun w' h i=>at_any w' _ _ b (hb.below h) zTbe i
 exact zz):P:=h
theorem znR5 {P:Prop} (h:P:=by
 have zz:(w.alloc (.cells A.toArray t)).heap.size=w.heap.size+1:=zPXO
 exact zz):P:=h
theorem zPCU {P:Prop} (h:P:=by
 have zz:w4.cell? ⟨w.heap.size,0,none⟩=some (.bool false):=b0.cell 0
 exact zz):P:=h
theorem z4uV {P:Prop} (h:P:=by
 have zz:w4.cell? ⟨w.heap.size,1,none⟩=some (.slice pa la ca):=b0.cell 1
 exact zz):P:=h
theorem zsv8 {P:Prop} (h:P:=by
 have zz:w4.cell? ⟨w.heap.size+1,0,none⟩=some (.bool false):=b1.cell 0
 exact zz):P:=h
theorem zAdW {P:Prop} (h:P:=by
 have zz:w4.cell? ⟨w.heap.size+1,1,none⟩=some (.slice pb lb cb):=b1.cell 1
 exact zz):P:=h
theorem z4y4 {P:Prop} (h:P:=by
 have zz:w.heap.size < w4.heap.size:=zTbe
 exact zz):P:=h
theorem zzGx {P:Prop} (h:P:=by
 have zz:w.heap.size+1 < w4.heap.size:=zTbe
 exact zz):P:=h
theorem zcuq {P:Prop} (h:P:=by
 have HR7:=(B26.out.set 0 (.bool (decide (z < 0)))).set 1 (.slice p6 (ld z.natAbs).length c6)
 have c70:=HR7.cell 0
 have c71:=HR7.cell 1
 refine bodyPost_ret (v:=.agg #[.bool (decide (z < 0)),.slice p6 (ld z.natAbs).length c6]) z9bO rfl ⟨_,rfl,⟨_,rfl,?_⟩,?_⟩
 ·have h1:w4.heap.size≤w4.heap.size:=HSX.out
  refine Sl.weak (H62.out.only (((Only.refl (fun k=>k=w.heap.size+1+1) w6).setCell (p:=⟨w.heap.size+1+1,0,none⟩) (fun _=>rfl) _).setCell (p:=⟨w.heap.size+1+1,1,none⟩) (fun _=>rfl) _) (fun k (h1:w4.heap.size≤k) h2=>zTtf)) (fun k (h:w4.heap.size≤k)=>zTbe)
 ·have h1:=HBX.out.drew.trans (HB5.out.mono HBX.out.size)
  exact zK17
 ):P:=h
theorem z9bO {P:Prop} (h:P:=by simp [results,Tryz.results89,go_sem,c70,c71]):P:=h
theorem zTtf {P:Prop} (h:P:=by have:=HS4.out;omega):P:=h
theorem zK17 {P:Prop} (h:P:=by
 have h2:=h1.trans (HB6.out.mono h1.size)
 exact (h2.setCell zmJx _).setCell zmJx _
 ):P:=h
theorem zmJx {P:Prop} (h:P:=by show w.heap.size≤w.heap.size+1+1;omega):P:=h
theorem zoIb {P:Prop} (h:P:=by
 show _=_
 rw [hz1,hz2];unfold sgn;simp;omega
 ):P:=h
theorem zIzO {P:Prop} (h:P:=by
 have zz:w4.cell? ⟨w.heap.size+1,0,none⟩=some (.bool true):=b1.cell 0
 exact zz):P:=h
theorem zE9p {P:Prop} (h:P:=by
 have zz:wl.cell? ⟨w.heap.size,1,none⟩=some (.slice pa la ca):=(B0.out.below hbl).cell 1
 exact zz):P:=h
theorem z59K {P:Prop} (h:P:=by
 have d11:=zjJF
 have m0:=zH42
 have m1:=zH1K
 have BX:=Lib.hid (B2.out.below hbl)
 have HSX:=Lib.hid hbl.size
 have HBX:=Lib.hid (HB4.out.trans (hbl.mono zTbe))
 clear hbl
 go_wp2
 refine wp_region_lit_plan [] [(0,0),(2,0),(4,0),(1,2),(3,1),(5,1),(6,3),(7,4),(8,4)] (fun k=>k < wl.heap.size) zyVB zyVB (fun c a d v w h=>zx0I) ?_
 go_wp2_with (first
  | (refine stp ?_)
  | (go_at_call 123;refine (HOP.out _ (HBX.out.drew)).mono ?_;clear HOP;rintro e w5 ⟨v5,d5,rfl,h51,h52,h53,h54,hb5⟩;obtain ⟨p5,c5,rfl,h55,h56⟩:=h54.form;
     have hag:Agree (fun k=>k < wl.heap.size) wl.drew w5:=agree_bel hb5 (fun k hk=>hk);
     have HSG5:=Lib.hid (HSG.out w5 _ true _ d5 h51 h54 h53);rw [h52,HZ.out] at HSG5;
     have B25:=Lib.hid (BX.out.drew.below hb5);have HB5:=Lib.hid hb5;clear hb5 h54 h51 h53 h52)
  | (go_at_call 120;refine HSG5.out.mono ?_;rintro e w6 ⟨v6,rfl,⟨dv6,rfl,h62⟩,hb6⟩;obtain ⟨p6,c6,rfl,h65,h66⟩:=h62.form;have H62:=Lib.hid h62;
     have hag6:Agree (fun k=>k < wl.heap.size) w5 w6:=agree_bel hb6 (fun k hk=>Nat.lt_of_lt_of_le hk HB5.out.size);
     have B26:=Lib.hid (B25.out.below hb6);
     have c20:w6.cell? ⟨w.heap.size+1+1,0,none⟩=some (.bool false):=B26.out.cell 0;
     have c21:w6.cell? ⟨w.heap.size+1+1,1,none⟩=some (.slice none 0 0):=B26.out.cell 1;
     have hf6:∀ i,w6.frozen? ⟨w.heap.size+1+1,i,none⟩=false:=B26.out.frozen;have HB6:=Lib.hid hb6;clear hb6 h62))
 have HR7:=(B26.out.set 0 (.bool (decide (z < 0)))).set 1 (.slice p6 (ld z.natAbs).length c6)
 have c70:=HR7.cell 0
 have c71:=HR7.cell 1
 refine bodyPost_ret (v:=.agg #[.bool (decide (z < 0)),.slice p6 (ld z.natAbs).length c6]) z9bO rfl ⟨_,rfl,⟨_,rfl,?_⟩,?_⟩
 ·have h1:w4.heap.size≤wl.heap.size:=HSX.out
  exact zNWB
 ·have h1:=HBX.out.drew.trans (HB5.out.mono HBX.out.size)
  exact zK17
 ):P:=h
theorem zjJF {P:Prop} (h:P:=by
 have zz:wl.cell? ⟨w.heap.size+1,1,none⟩=some (.slice pb lb cb):=(B1.out.below hbl).cell 1
 exact zz):P:=h
theorem zH42 {P:Prop} (h:P:=by
 have zz:w.heap.size < wl.heap.size:=Nat.lt_of_lt_of_le hl0 hbl.size
 exact zz):P:=h
theorem zH1K {P:Prop} (h:P:=by
 have zz:w.heap.size+1 < wl.heap.size:=Nat.lt_of_lt_of_le hl1 hbl.size
 exact zz):P:=h
theorem zNWB {P:Prop} (h:P:=by
 refine Sl.weak (H62.out.only (((Only.refl (fun k=>k=w.heap.size+1+1) w6).setCell (p:=⟨w.heap.size+1+1,0,none⟩) (fun _=>rfl) _).setCell (p:=⟨w.heap.size+1+1,1,none⟩) (fun _=>rfl) _) (fun k (h1:wl.heap.size≤k) h2=>zTtf)) (fun k (h:wl.heap.size≤k)=>zTbe)
 ):P:=h
theorem zZht {P:Prop} (h:P:=by
 have d11:=zjJF
 have m0:=zH42
 have m1:=zH1K
 have BX:=Lib.hid (B2.out.below hbl)
 have HSX:=Lib.hid hbl.size
 have HBX:=Lib.hid (HB4.out.trans (hbl.mono zTbe))
 clear hbl
 go_wp2
 refine wp_region_lit_plan [] [(0,0),(2,0),(4,0),(1,2),(3,1),(5,1),(6,3),(7,4),(8,4)] (fun k=>k < wl.heap.size) zyVB zyVB (fun c a d v w h=>zx0I) ?_
 go_wp2_with (first
  | (refine stp ?_)
  | (go_at_call 123;refine (HOP.out _ (HBX.out.drew)).mono ?_;clear HOP;rintro e w5 ⟨v5,d5,rfl,h51,h52,h53,h54,hb5⟩;obtain ⟨p5,c5,rfl,h55,h56⟩:=h54.form;
     have hag:Agree (fun k=>k < wl.heap.size) wl.drew w5:=agree_bel hb5 (fun k hk=>hk);
     have HSG5:=Lib.hid (HSG.out w5 _ false _ d5 h51 h54 h53);rw [h52,HZ.out] at HSG5;
     have B25:=Lib.hid (BX.out.drew.below hb5);have HB5:=Lib.hid hb5;clear hb5 h54 h51 h53 h52)
  | (go_at_call 120;refine HSG5.out.mono ?_;rintro e w6 ⟨v6,rfl,⟨dv6,rfl,h62⟩,hb6⟩;obtain ⟨p6,c6,rfl,h65,h66⟩:=h62.form;have H62:=Lib.hid h62;
     have hag6:Agree (fun k=>k < wl.heap.size) w5 w6:=agree_bel hb6 (fun k hk=>Nat.lt_of_lt_of_le hk HB5.out.size);
     have B26:=Lib.hid (B25.out.below hb6);
     have c20:w6.cell? ⟨w.heap.size+1+1,0,none⟩=some (.bool false):=B26.out.cell 0;
     have c21:w6.cell? ⟨w.heap.size+1+1,1,none⟩=some (.slice none 0 0):=B26.out.cell 1;
     have hf6:∀ i,w6.frozen? ⟨w.heap.size+1+1,i,none⟩=false:=B26.out.frozen;have HB6:=Lib.hid hb6;clear hb6 h62))
 have HR7:=(B26.out.set 0 (.bool (decide (z < 0)))).set 1 (.slice p6 (ld z.natAbs).length c6)
 have c70:=HR7.cell 0
 have c71:=HR7.cell 1
 refine bodyPost_ret (v:=.agg #[.bool (decide (z < 0)),.slice p6 (ld z.natAbs).length c6]) z9bO rfl ⟨_,rfl,⟨_,rfl,?_⟩,?_⟩
 ·have h1:w4.heap.size≤wl.heap.size:=HSX.out
  exact zNWB
 ·have h1:=HBX.out.drew.trans (HB5.out.mono HBX.out.size)
  exact zK17
 ):P:=h
theorem za1f {P:Prop} (h:P:=by
 have zz:w4.cell? ⟨w.heap.size,0,none⟩=some (.bool true):=b0.cell 0
 exact zz):P:=h
theorem zX62 {P:Prop} (h:P:=by
 have e1:=znR5
 rw [e1] at h2
 refine ⟨h1.alloc _,h2,?_,zPXO⟩
 exact ((Below.refl _ _).alloc (Nat.le_refl _) _).alloc zTbe _
 ):P:=h
theorem zbdS {P:Prop} (h:P:=by
 clear hbody
 go_wp2
 go_loopw [7,8] (fun left i wx=>∃ (t:Nat) (i0:Int),i=.int .i64 i0∧i0=(t:Int) - 1∧t≤d.length∧left=.int .i64 ((vd (d.drop t) % M:Nat):Int)∧wx=wo) (fun _ i _=>(intOf i+1).toNat)
 case atStart=>exact ⟨d.length,_,rfl,rfl,Nat.le_refl _,by rw [List.drop_length];simp [vd],rfl⟩
 case round =>
  obtain ⟨t,i0,rfl,hi0,ht,rfl,rfl⟩:=hrel
  have hlt2:vd (d.drop t) % M < M:=Nat.mod_lt _ hM1
  cases t with
  | zero =>
   obtain rfl:i0=-1:=zTbe
   rw [List.drop_zero] at *
   have ho:=HOUT2.out
   have HOUT3:=Lib.hid ho
   clear hD hi0 ht ho
   generalize vd d % M=A at *
   cases neg
   ·go_wp2
    go_ret
    exact ⟨by rw [HOUT3.out];simp,HBW.out⟩
   ·by_cases hA:0 < A
    ·have hA2:(0:Int) < (A:Int):=by omega
     go_wp2
     go_ret
     exact ⟨by rw [HOUT3.out];simp [hA],HBW.out⟩
    ·obtain rfl:A=0:=by omega
     go_wp2
     go_ret
     exact ⟨by rw [HOUT3.out];simp,HBW.out⟩
  | succ t =>
   obtain rfl:i0=(t:Int):=zTbe
   have hst:=drop_step d t M zTbe
   obtain ⟨g,off,cap2,hv2,hg2,hcell⟩:=sl_nat HSL.out (show t < d.length by omega)
   cases hv2
   have hb10:d[t] < 10:=hD _ (List.getElem_mem _)
   have HR2:=Lib.hid (show vd (d.drop t) % M < M from Nat.mod_lt _ hM1)
   generalize hrr:vd (d.drop t) % M=r at *
   have HRR:=Lib.hid hrr
   generalize vd (d.drop (t+1)) % M=a at *
   generalize d[t]=b at *
   have hr2:=HR2.out
   have htm:(10*(a:Int)+(b:Int)).tmod (M:Int)=(r:Int):=by
    have h1:10*(a:Int)+(b:Int)=((10*a+b:Nat):Int):=zTbe
    rw [h1,←hst,Int.ofNat_tmod]
   have hM3:((M:Int) == 0)=false:=zJDc
   have hM4:(M:Int)≠0:=zTbe
   clear hst hrr hi0
   go_wp2
   refine ⟨⟨t,_,rfl,rfl,zTbe,by rw [HRR.out],trivial⟩,zQOc⟩
 ):P:=h
namespace Go.Proofs.YteggkjdlajgenaaGreatDoor
open Go.RowKit Go.Afx
theorem ocCol:Tryz.prog.cellsOf 110=2:=zyVB
theorem ocCols:Tryz.prog.cellsOf 22=1:=zyVB
theorem ocIdx:Tryz.prog.cellsOf 108=2:=zyVB
theorem ocIdxs:Tryz.prog.cellsOf 23=1:=zyVB
theorem ocInts:Tryz.prog.cellsOf 27=1:=zyVB
theorem ocBool:Tryz.prog.cellsOf 4=1:=zyVB
def ColV.read (c:ColV):Prop:=c.name.size≤maxLen∧fit64 c.kind
def SchV.read (s:SchV):Prop:=fit64 s.limit∧fit64 s.parts∧fit64 s.by_∧∀ c∈s.cols,c.read
section
variable {H : Type} {enc : TypeId × Value → H} {w : World}
theorem open_cols_at {fuel:Nat} {v:Value} {y:DataW H × List MemPlace} (hf:DataW.trod enc Tryz.prog w 0 (fun _=>true) true fuel 22 [v]=some y):∃ l:List ColV,Sl w (fun _=>True) 2 v l.length (colCells l)∧∀ c∈l,c.read:=by
 obtain ⟨es,h1,h2⟩:=open_sl Tryz.underlying22 ocCol zTbe hf (fun c=>∃ a:ColV,c=a.cells∧a.read) (fun c ⟨a,hc,_⟩=>by subst hc;intro u hu;simp [ColV.cells] at hu;rcases hu with rfl|rfl<;>rfl) (fun f c y hl hy=>by
  obtain ⟨n,hfs⟩:=open_fields Tryz.underlying110 hy
  obtain ⟨c0,c1,rfl⟩:=list2 hl
  obtain ⟨y0,h0⟩:=hfs 0 _ rfl
  obtain ⟨y1,h1⟩:=hfs 1 _ rfl
  simp only [ocInt,ocStr,List.drop_zero,List.drop_succ_cons,List.take_succ_cons,List.take_zero] at h0 h1
  obtain ⟨s,e0,_,w0⟩:=DataW.trod_string Tryz.underlying9 h0
  obtain ⟨k,e1,_,w1⟩:=DataW.trod_int Tryz.underlying3 h1
  simp only [List.cons.injEq,and_true] at e0 e1
  subst e0 e1
  exact ⟨⟨s,k⟩,rfl,w0,wf_fit64 w1⟩)
 exact z5eP
theorem open_ints_at {fuel:Nat} {v:Value} {y:DataW H × List MemPlace} (hf:DataW.trod enc Tryz.prog w 0 (fun _=>true) true fuel 27 [v]=some y):∃ l:List Int,Sl w (fun _=>True) 1 v l.length (ints l):=by
 obtain ⟨l,h1,_⟩:=open_ints_sl Tryz.underlying27 Tryz.underlying3 ocInt hf
 exact ⟨l,h1⟩
theorem open_idxs_at {fuel:Nat} {v:Value} {y:DataW H × List MemPlace} (hf:DataW.trod enc Tryz.prog w 0 (fun _=>true) true fuel 23 [v]=some y):∃ l:List IdxV,IdxAt w (fun _=>True) v l:=by
 obtain ⟨es,h1,h2⟩:=open_sl Tryz.underlying23 ocIdx zTbe hf (fun c=>∃ x:IdxV,c=x.cells∧Sl w (fun _=>True) 1 x.v x.l.length (ints x.l)) (fun c ⟨x,hc,hx⟩=>by subst hc;exact (Ones.nil.cons (rfl:(Value.bool x.unique).oneCell'=true)).cons (sl_one hx)) (fun f c y hl hy=>by
  obtain ⟨n,hfs⟩:=open_fields Tryz.underlying108 hy
  obtain ⟨c0,c1,rfl⟩:=list2 hl
  obtain ⟨y0,h0⟩:=hfs 0 _ rfl
  obtain ⟨y1,h1⟩:=hfs 1 _ rfl
  simp only [ocInts,ocBool,List.drop_zero,List.drop_succ_cons,List.take_succ_cons,List.take_zero] at h0 h1
  obtain ⟨l,h2⟩:=open_ints_at h0
  obtain ⟨b,e1,_⟩:=DataW.trod_bool Tryz.underlying4 h1
  simp only [List.cons.injEq,and_true] at e1
  subst e1
  exact ⟨⟨c0,l,b⟩,rfl,h2⟩)
 exact z5eP
theorem open_sch {cs:Array Value} {d:DataW H} {ps:List MemPlace} (h:DataW.Trod enc Tryz.prog w 0 (fun _=>true) true 25 (.agg cs) d ps) (hs:cs.size=6) :
 ∃ s:SchV,Value.agg cs=s.agg∧SchAt w (fun _=>True) s∧s.read:=by
 obtain ⟨fuel,hf⟩:=h
 have hf2:DataW.trod enc Tryz.prog w 0 (fun _=>true) true fuel 25 cs.toList=some _:=hf
 obtain ⟨n,hfs⟩:=open_fields Tryz.underlying25 hf2
 obtain ⟨c0,c1,c2,c3,c4,c5,hcs⟩:=list6 (l:=cs.toList) (by simpa using hs)
 rw [hcs] at hfs
 obtain ⟨y0,h0⟩:=hfs 0 _ rfl
 obtain ⟨y1,h1⟩:=hfs 1 _ rfl
 obtain ⟨y2,h2⟩:=hfs 2 _ rfl
 obtain ⟨y3,h3⟩:=hfs 3 _ rfl
 obtain ⟨y4,h4⟩:=hfs 4 _ rfl
 obtain ⟨y5,h5⟩:=hfs 5 _ rfl
 simp only [ocStr,ocCols,ocIdxs,ocInt,List.drop_zero,List.drop_succ_cons,List.take_succ_cons,List.take_zero] at h0 h1 h2 h3 h4 h5
 obtain ⟨s,e0,_,w0⟩:=DataW.trod_string Tryz.underlying9 h0
 obtain ⟨l,hl1,hl2⟩:=open_cols_at h1
 obtain ⟨il,hi1⟩:=open_idxs_at h2
 obtain ⟨k3,e3,_,w3⟩:=DataW.trod_int Tryz.underlying3 h3
 obtain ⟨k4,e4,_,w4⟩:=DataW.trod_int Tryz.underlying3 h4
 obtain ⟨k5,e5,_,w5⟩:=DataW.trod_int Tryz.underlying3 h5
 simp only [List.cons.injEq,and_true] at e0 e3 e4 e5
 subst e0 e3 e4 e5
 refine ⟨⟨s,c1,l,c2,il,k3,k4,k5⟩,?_,⟨hl1,hi1,fun c hc=>(hl2 c hc).1,w0⟩,wf_fit64 w3,wf_fit64 w4,wf_fit64 w5,hl2⟩
 have:cs=#[.string s,c1,c2,.int .i64 k3,.int .i64 k4,.int .i64 k5]:=by rw [←Array.toList_inj,hcs]
 rw [this];rfl
end
end Go.Proofs.YteggkjdlajgenaaGreatDoor
namespace Go.Proofs.YteggkjdlajgenaaGreatDoor
open Go.RowKit Go.Afx
theorem be_front (k u:Nat):be (k+1) u=UInt8.ofNat (u / 256 ^ k % 256)::be k u:=by
 induction k generalizing u with
 | zero=>simp [be]
 | succ k ih =>
  rw [be,ih (u / 256),Nat.div_div_eq_div_mul,←Nat.pow_succ']
  show _::(be k (u / 256)++_)=_
  rfl
theorem refkey_num (w:World) (n:Int) (s:ByteArray) (hf:fit64 n) :
 Calls Tryz.prog 90 #[.agg #[.int .i64 1,.int .i64 n,.string s]] w fun e w'=>e=.returned (.string (bs (1::be 8 (up64 n))))∧Below w.heap.size w w':=by
 have hx:IntKind.u64.wrap (IntKind.u64.wrap n+9223372036854775808)=(up64 n:Int):=by
  rw [IntKind.wrap_u64,IntKind.wrap_u64];unfold fit64 at hf;unfold up64;omega
 have hlt:=up64_lt n hf
 generalize up64 n=u0 at *
 obtain ⟨wb,hwb⟩:∃ wb,w.alloc (.cells #[.int .i64 1,.int .i64 n,.string s] 113)=wb:=⟨_,rfl⟩
 have hbb:=zdvx
 have hk:Blk wb w.heap.size 113 [.int .i64 1,.int .i64 n,.string s]:=zZuX
 have t0:wb.cell? ⟨w.heap.size,0,none⟩=some (.int .i64 1):=hk.cell 0
 have t1:wb.cell? ⟨w.heap.size,1,none⟩=some (.int .i64 n):=hk.cell 1
 have HB0:=Lib.hid hbb
 have HLT:=Lib.hid hlt
 clear hbb hk hlt
 go_enter Tryz.func90,Tryz.ntmps90
 go_wp2_with (rw [hwb])
 have HX:=Lib.hid hx
 clear t0 t1 hx
 go_loopw [3,4,5] (fun n0 s i wr=>∃ j:Nat,n0=.int .u64 ((u0 / 256 ^ j:Nat):Int)∧s=.string (bs (be j u0))∧i=.int .i64 j∧j≤8∧Below w.heap.size w wr) (fun _ _ i _=>(8 - intOf i).toNat)
 case atStart=>exact ⟨0,by first|rw [HX.out,Nat.pow_zero,Nat.div_one]|rw [Nat.pow_zero,Nat.div_one],rfl,rfl,zTbe,HB0.out⟩
 case round =>
  obtain ⟨j,rfl,rfl,rfl,hj,hb⟩:=hrel
  have HB:=Lib.hid hb
  have HSZ:Hid ((bs (be j u0)).size=j):=by
   show _=_
   rw [bs_size,be_length]
  clear hb
  by_cases hj8:j < 8
  ·have HE:=Lib.hid (be_front j u0)
   have h2:u0 / 256 ^ j / 256=u0 / 256 ^ (j+1):=by rw [Nat.div_div_eq_div_mul,←Nat.pow_succ]
   have hq:((u0 / 256 ^ j:Nat):Int) / 256=((u0 / 256 ^ (j+1):Nat):Int):=by rw [←h2];omega
   have hlt:u0 / 256 ^ j < 18446744073709551616:=Nat.lt_of_le_of_lt (Nat.div_le_self _ _) HLT.out
   clear h2
   have hlt2:u0 / 256 ^ (j+1) < 18446744073709551616:=Nat.lt_of_le_of_lt (Nat.div_le_self _ _) HLT.out
   generalize hu2:u0 / 256 ^ (j+1)=u2 at *
   have HU:=Lib.hid hu2
   clear hu2
   generalize u0 / 256 ^ j=u at *
   obtain ⟨x,hx⟩:∃ x:Nat,x=u % 256:=⟨_,rfl⟩
   have hx2:(u:Int) % 256=(x:Int):=zTbe
   have hx256:x < 256:=zTbe
   have hxi:(x:Int) < 256:=zTbe
   rw [←hx] at HE
   have cvb:=cv_byte wr x hx256
   have hcat:bs [UInt8.ofNat x]++bs (be j u0)=bs (UInt8.ofNat x::be j u0):=bs_append _ _
   have hsum:(bs [UInt8.ofNat x]).size+(bs (be j u0)).size≤9223372036854775807:=by rw [HSZ.out,bs_size];simp;omega
   rw [←HE.out] at hcat
   clear hx hlt
   generalize hS2:bs (be (j+1) u0)=S2 at *
   have HS2:=Lib.hid hS2
   clear hS2
   generalize bs (be j u0)=S at *
   generalize bs [UInt8.ofNat x]=ch at *
   go_wp2
   go_roundw
   case rel=>exact ⟨j+1,by rw [HU.out];first|done|(congr 1;done)|(congr 1;rw [IntKind.wrap_u64];omega),by rw [HS2.out],z3KH,zTbe,HB.out.alloc HB.out.size _⟩
   case measure=>(simp [intOf])<;>omega
  ·obtain rfl:j=8:=by omega
   have hcat:(⟨#[1]⟩:ByteArray)++bs (be 8 u0)=bs (1::be 8 u0):=bs_append [1] _
   have hsum:(⟨#[1]⟩:ByteArray).size+(bs (be 8 u0)).size≤9223372036854775807:=by rw [HSZ.out];decide
   generalize hS2:bs (1::be 8 u0)=S2 at *
   have HS2:=Lib.hid hS2
   clear hS2
   generalize bs (be 8 u0)=S at *
   go_wp2
   go_ret
   exact ⟨by rw [HS2.out];rfl,HB.out⟩
theorem refkey_text (w:World) (n:Int) (s:ByteArray) (hs:s.size≤1000) :
 Calls Tryz.prog 90 #[.agg #[.int .i64 2,.int .i64 n,.string s]] w fun e w'=>e=.returned (.string (bs (2::(esc 0 [0,255] s.data.toList++[0,1]))))∧Below w.heap.size w w':=by
 obtain ⟨l,hl⟩:=z9tc
 have HG:=Lib.hid (get_list s l hl)
 have hsz:=size_list s l hl
 rw [hl]
 obtain ⟨wb,hwb⟩:∃ wb,w.alloc (.cells #[.int .i64 2,.int .i64 n,.string s] 113)=wb:=⟨_,rfl⟩
 have hbb:=zdvx
 have hk:Blk wb w.heap.size 113 [.int .i64 2,.int .i64 n,.string s]:=zZuX
 have t0:wb.cell? ⟨w.heap.size,0,none⟩=some (.int .i64 2):=hk.cell 0
 have hw1:wb.heap.size=w.heap.size+1:=by rw [←hwb];simp
 have ho0:=Own.made wb 5 1 [.int .u8 2] [] 1 1 rfl (by intro u hu;simp at hu;subst hu;rfl) (Nat.le_refl _) zdUY zPXO
 have HK:=Lib.hid hk
 have HB0:=Lib.hid hbb
 have HO0:=Lib.hid ho0
 have HW1:=Lib.hid hw1
 have HSZ:=Lib.hid hsz
 clear hbb hk ho0 hw1 hl hsz
 go_enter Tryz.func90,Tryz.ntmps90
 go_wp2_with (rw [hwb])
 clear t0
 have hwz:∀ q,(Value.slice (some ⟨wb.heap.size,0,none⟩) 1 1).ownBlock=some q→w.heap.size < q:=fun q hq=>by
  have h1:wb.heap.size=q:=by simpa [Value.ownBlock] using hq
  have:=HW1.out
  omega
 have hst:by8 (2::esc 0 [0,255] (l.take 0))=[.int .u8 2]:=rfl
 have HST:=Lib.hid hst
 have HWZ:=Lib.hid hwz
 clear hst hwz
 go_loopw [6,7] (fun v i wr=>∃ k:Nat,i=.int .i64 k∧k≤s.size∧Own wr 5 1 v (2::esc 0 [0,255] (l.take k)).length (by8 (2::esc 0 [0,255] (l.take k)))∧(∀ q,v.ownBlock=some q→w.heap.size < q)∧Below wb.heap.size wb wr) (fun _ i _=>s.size - (intOf i).toNat)
 case atStart=>exact ⟨0,rfl,Nat.zero_le _,by rw [HST.out];exact HO0.out,HWZ.out,(Below.refl _ _).alloc (Nat.le_refl _) _⟩
 case round =>
  obtain ⟨k,rfl,hk,hown,hnew,hbr⟩:=hrel
  have hlen:=(esc_length 0 0 255 (l.take k)).1
  rw [List.length_take] at hlen
  have HN:Hid (∀ h:k < l.length,esc 0 [0,255] (l.take (k+1))=esc 0 [0,255] (l.take k)++(if l[k]=0 then [0,255] else [l[k]])):=fun h=>by
   rw [←List.take_append_getElem h,esc_append];simp [esc]
  have HEND:Hid (l.length≤k→l.take k=l):=fun h=>List.take_of_length_le h
  obtain ⟨q,hq⟩:∃ q,2::esc 0 [0,255] (l.take k)=q:=⟨_,rfl⟩
  have hql:q.length≤2*s.size+1:=by rw [←hq,List.length_cons];omega
  have HQ:=Lib.hid hq
  rw [hq] at hown
  obtain ⟨pv,cv,rfl,hcv1,hcv2⟩:=own_form hown
  have hkr:=HK.out.below hbr
  have t2:wr.cell? ⟨w.heap.size,2,none⟩=some (.string s):=hkr.cell 2
  have HOWN:=Lib.hid hown
  have HNEW:=Lib.hid hnew
  have HBR:=Lib.hid hbr
  have HKR:=Lib.hid hkr
  clear hown hnew hbr hq hlen hkr
  by_cases hka:k < s.size
  ·have hkl:k < l.length:=by rw [←HSZ.out];exact hka
   have hal:Below wr.heap.size wr (wr.alloc (.cells #[.int .u8 ((s[k]'hka).toNat:Int)] 5)):=(Below.refl _ _).alloc (Nat.le_refl _) _
   have ho1:=HOWN.out.below hal
   have hs1:=one_byte wr (s[k]'hka)
   have hcc:(s[k]'hka)=l[k]:=HG.out k hka hkl
   have HCC:=Lib.hid hcc
   have HN2:=Lib.hid (HN.out hkl)
   have HG0:=Lib.hid (Grew.start HOWN.out)
   have HAL2:=Lib.hid hal
   have hno:¬ (Value.slice pv q.length cv).ownBlock=some w.heap.size:=fun h=>by have:=HNEW.out _ h;omega
   have HK3:=Lib.hid (fun (w1:World) (h:Only (fun k=>(Value.slice pv q.length cv).ownBlock=some k) (wr.alloc (.cells #[.int .u8 ((s[k]'hka).toNat:Int)] 5)) w1)=>(HKR.out.alloc (.cells #[.int .u8 ((s[k]'hka).toNat:Int)] 5)).only h hno)
   clear hal hcc hno
   cases hz:((((s[k]'hka).toNat:Int) == 0))
   ·have hne:¬ l[k]=0:=fun h=>by
     rw [HCC.out,h] at hz;cases hz
    rw [if_neg hne] at HN2
    clear hne
    go_wp2_with (at_builtin;refine wpList_app rfl _ _ rfl elemU8 zdhv ho1 zdhv hs1 zefz zTbe ?_;intro v1 w7 g1 g2 g3 g4 g5;clear ho1 hs1;have HK1:=HK3.out w7 g2;have t2:w7.cell? ⟨w.heap.size,2,none⟩=some (.string s):=HK1.cell 2;have G0:=Lib.hid (HG0.out.push HAL2.out g1 g2 g3 rfl rfl rfl);clear g1 g2 g3 g4 g5 HK1)
    have h8:=HBR.out.size
    have h9:=HW1.out
    refine ⟨⟨k+1,z3KH,zTbe,?_,fun q hq=>?_,?_⟩,zQOc⟩
    ·rw [HN2.out,←List.cons_append,HQ.out,←HCC.out];exact G0.out.1
    ·rcases G0.out.2.2 q hq with h|h
     ·exact HNEW.out q h
     ·omega
    ·exact HBR.out.trans (G0.out.2.1.below h8 (fun q hq=>by have:=HNEW.out q hq;omega))
   ·have hne:l[k]=0:=by
     have h1:((s[k]'hka).toNat:Int)=0:=by simpa using hz
     rw [HCC.out] at h1
     exact UInt8.toNat_inj.1 (by show l[k].toNat=0;omega)
    rw [if_pos hne] at HN2
    have HZ:Hid ((s[k]'hka)=0):=by show _=_;rw [HCC.out];exact hne
    clear hne
    go_wp2_with (first
     | (at_builtin;refine wpList_app rfl _ _ rfl elemU8 zdhv ho1 zdhv hs1 zefz zTbe ?_;intro v1 w7 g1 g2 g3 g4 g5;clear ho1 hs1;have HK1:=HK3.out w7 g2;have t2:w7.cell? ⟨w.heap.size,2,none⟩=some (.string s):=HK1.cell 2;have G0:=Lib.hid (HG0.out.push HAL2.out g1 g2 g3 rfl rfl rfl);have HB7:Hid (Below w7.heap.size w7 (w7.alloc (.cells #[.int .u8 255] 5))):=(Below.refl _ _).alloc (Nat.le_refl _) _;have ho2:=G0.out.1.below HB7.out;have hs2:=sl_byte w7 255 255 rfl;clear g1 g2 g3 g4 g5 HK1)
     | (at_builtin;refine wpList_app rfl _ _ rfl elemU8 zdhv ho2 zdhv hs2 zLdZ zGLF ?_;intro v2 w8 g1 g2 g3 g4 g5;clear ho2 hs2;have G1:=Lib.hid (G0.out.push HB7.out g1 g2 g3 rfl rfl rfl);clear g1 g2 g3 g4 g5))
    have h8:=HBR.out.size
    have h9:=HW1.out
    refine ⟨⟨k+1,z3KH,zTbe,?_,fun q hq=>?_,?_⟩,zQOc⟩
    ·rw [HN2.out,←List.cons_append,HQ.out]
     have h7:=G1.out.1
     rw [HZ.out,List.append_assoc] at h7
     exact h7
    ·rcases G1.out.2.2 q hq with h|h
     ·exact HNEW.out q h
     ·omega
    ·exact HBR.out.trans (G1.out.2.1.below h8 (fun q hq=>by have:=HNEW.out q hq;omega))
  ·have hend:=HEND.out (by have:=HSZ.out;omega)
   have hq:=HQ.out
   rw [hend] at hq
   have kc:=sl_string wr (fun _=>True) _ q (HOWN.out.sl (fun _ _=>trivial))
   have hcat:(⟨q.toArray⟩:ByteArray)++⟨#[0,1]⟩=bs (2::(esc 0 [0,255] l++[0,1])):=by rw [←List.cons_append,hq];exact bs_append q [0,1]
   have hsum:(⟨q.toArray⟩:ByteArray).size+(⟨#[0,1]⟩:ByteArray).size≤9223372036854775807:=by
    have h1:=bs_size q
    have h2:(⟨#[0,1]⟩:ByteArray).size=2:=rfl
    unfold bs at h1
    rw [h1,h2];omega
   generalize hS2:bs (2::(esc 0 [0,255] l++[0,1]))=S2 at *
   have HS2:=Lib.hid hS2
   have HQ2:=Lib.hid hq
   clear hS2 hend hq
   generalize (⟨q.toArray⟩:ByteArray)=S at *
   go_wp2
   go_ret
   have h9:=HW1.out
   exact ⟨by rw [HS2.out];rfl,HB0.out.trans (HBR.out.mono zTbe)⟩
theorem refkey_bool (w:World) (n:Int) (s:ByteArray) (hn:n=0∨n=1) :
 Calls Tryz.prog 90 #[.agg #[.int .i64 3,.int .i64 n,.string s]] w fun e w'=>e=.returned (.string (bs [3,UInt8.ofNat n.toNat]))∧Below w.heap.size w w':=by
 have hall:=(Below.refl w.heap.size w).alloc (Nat.le_refl _) (.cells #[.int .i64 3,.int .i64 n,.string s] 113)
 have hsz:(w.alloc (.cells #[.int .i64 3,.int .i64 n,.string s] 113)).heap.size=w.heap.size+1:=zPXO
 have HB:=Lib.hid (hall.alloc hall.size (.cells #[.int .u8 3,.int .u8 n] 5))
 have hcv:=cv_block (w.alloc (.cells #[.int .i64 3,.int .i64 n,.string s] 113)) [3,UInt8.ofNat n.toNat]
 have hby:(by8 [3,UInt8.ofNat n.toNat]).toArray=#[.int .u8 3,.int .u8 n]:=by
  rcases hn with rfl|rfl<;>rfl
 have hl2:[3,UInt8.ofNat n.toNat].length=2:=rfl
 rw [hby,hsz,hl2] at hcv
 have hnr:0≤n∧n≤255:=zTbe
 obtain ⟨hn0,hn1⟩:=hnr
 generalize hS:bs [3,UInt8.ofNat n.toNat]=S at *
 clear hall hsz hby hn hS hl2
 go_enter Tryz.func90,Tryz.ntmps90
 go_wp2
 go_ret
 exact ⟨rfl,HB.out⟩
theorem refkey_any (w:World) (v:AV) (hr:v.right=true) (hf:fit64 v.n) :
 Calls Tryz.prog 90 #[v.agg] w fun e w'=>e=.returned (.string (bs (keyB v)))∧Below w.heap.size w w':=by
 obtain ⟨k,n,s⟩:=v
 unfold AV.right at hr
 simp only [AV.agg,keyB] at hr hf ⊢
 by_cases h1:k=1
 ·subst h1
  rw [if_pos rfl]
  exact refkey_num w n s hf
 rw [if_neg h1]
 by_cases h2:k=2
 ·subst h2
  rw [if_pos rfl]
  simp at hr
  exact refkey_text w n s zTbe
 rw [if_neg h2]
 simp [h1,h2] at hr
 obtain ⟨⟨rfl,h4⟩,_⟩:=hr
 exact refkey_bool w n s h4
theorem refkeys_any (w:World) (B:Nat→Prop) (v:Value) (l:List AV) (hl:Sl w B 3 v l.length (rowCells l)) (hr:rightAll l=true) (hf:∀ a∈l,fit64 a.n) (hll:l.length≤200) :
 Calls Tryz.prog 59 #[v] w fun e w'=>e=.returned (.string (bs (keysB l)))∧Below w.heap.size w w':=by
 obtain ⟨p,cap,rfl,hc1,hc2⟩:=hl.form
 have HL:=Lib.hid hl
 have HF:=Lib.hid hf
 have HRR:=Lib.hid hr
 clear hl hf hr
 go_enter Tryz.func59,Tryz.ntmps59
 go_wp2
 go_loopw [3,4] (fun v i wr=>∃ k:Nat,i=.int .i64 k∧k≤l.length∧v=.string (bs (keysB (l.take k)))∧Below w.heap.size w wr) (fun _ i _=>l.length - (intOf i).toNat)
 case atStart=>exact ⟨0,rfl,Nat.zero_le _,rfl,Below.refl _ _⟩
 case round =>
  obtain ⟨k,rfl,hk,rfl,hbr⟩:=hrel
  have hlen:=keysB_len l HRR.out k
  rw [List.length_take] at hlen
  have HN:=Lib.hid (fun h=>keysB_next l k h)
  have HBR:=Lib.hid hbr
  have HLR:=HL.out.below hbr
  clear hbr
  by_cases hka:k < l.length
  ·obtain ⟨g,off,cap',hv,hg,e0,e1,e2⟩:=sl_av HLR hka
   cases hv
   have hrk:l[k].right=true:=by
    exact zhFB
   have hfk:=HF.out _ (List.getElem_mem hka)
   have HN2:=Lib.hid (HN.out hka)
   clear HN HLR
   generalize l[k]=x at *
   have HP:=Lib.hid (fun w=>refkey_any w x hrk hfk)
   have hag:=z3Mw
   rw [hag] at HP
   have hkl:=keyB_length x hrk
   have hcat:bs (keysB (l.take k))++bs (keyB x)=bs (keysB (l.take (k+1))):=by rw [bs_append,HN2.out]
   have hsum:(bs (keysB (l.take k))).size+(bs (keyB x)).size≤9223372036854775807:=by rw [bs_size,bs_size];omega
   clear hrk hfk hag hkl hlen
   generalize hS2:bs (keysB (l.take (k+1)))=S2 at *
   have HS2:=Lib.hid hS2
   clear hS2
   generalize bs (keysB (l.take k))=S at *
   generalize bs (keyB x)=T at *
   go_wp2_with (go_at_call 90;refine (HP.out _).mono ?_;clear HP;rintro e w3 ⟨rfl,hb3⟩;have HB3:=Lib.hid hb3;clear hb3)
   go_roundw
   case rel=>exact ⟨k+1,z3KH,zTbe,by rw [HS2.out],HBR.out.trans (HB3.out.mono HBR.out.size)⟩
   case measure=>(simp [intOf])<;>omega
  ·obtain rfl:k=l.length:=by omega
   have hta:bs (keysB (l.take l.length))=bs (keysB l):=zvGW
   have HTA:=Lib.hid hta
   clear hta
   go_wp2
   go_ret
   exact ⟨by rw [←HTA.out];rfl,HBR.out⟩
theorem pickO_all {row:List AV} {ps:List Int} (h:ps.all (inR row)=true):pickO row ps=pickR row ps:=by unfold pickO;rw [if_pos h]
theorem pick_right {row:List AV} {ps:List Int} (h:ps.all (inR row)=true) (hr:rightAll row=true):rightAll (pickR row ps)=true:=by
 unfold rightAll at *
 rw [List.all_eq_true] at *
 intro a ha
 unfold pickR at ha
 obtain ⟨p,hp,rfl⟩:=List.mem_map.1 ha
 obtain ⟨_,hlt⟩:=inR_lt (h p hp)
 rw [List.getD_eq_getElem?_getD,List.getElem?_eq_getElem hlt]
 exact hr _ (List.getElem_mem hlt)
theorem rowKey_pick {row:List AV} {ps:List Int} (h:ps.all (inR row)=true) (hr:rightAll row=true):rowKey (pickO row ps)=keysB (pickR row ps):=by
 rw [pickO_all h]
 unfold rowKey
 rw [if_pos (pick_right h hr)]
theorem pickR_fit {row:List AV} (ps:List Int) (h:∀ a∈row,fit64 a.n):∀ a∈pickR row ps,fit64 a.n:=by
 intro a ha
 unfold pickR at ha
 exact zMBQ
theorem refKey_any (w:World) (B B':Nat→Prop) (s:SchV) (i:Nat) (v:Value) (row:List AV) (h:SchAt w B s) (hr:Sl w B' 3 v row.length (rowCells row)) (hi:i < s.idx.length) (hf:∀ a∈row,fit64 a.n)
 (hx:∀ x∈s.idx,x.l.length≤200) (hin:∀ x∈s.idx,x.l.all (inR row)=true) (hra:rightAll row=true) :
 Calls Tryz.prog 18 #[s.agg,.int .i64 (i:Int),v] w fun e w'=>e=.returned (.string (bs (skey s.idx row s.idx[i])))∧Below w.heap.size w w':=by
 obtain ⟨nm,cv,cl,iv,il,lim,prt,by_⟩:=s
 obtain ⟨h1,h2,h3,h4⟩:=h
 simp only at h1 h2 h3 h4 hi hx hin
 simp only [SchV.agg]
 obtain ⟨pc,cc,rfl,_,hcc⟩:=h1.form
 have hidx:=h2.1
 obtain ⟨g,off,ci,rfl,hci1,hci,_,hglt0,_⟩:=hidx.place zTbe
 have hal:=zoCq
 have HBK:=zN7s
 have HALW:=Lib.hid hal
 have HIX:=Lib.hid (h2.below hal)
 have HROW:=Lib.hid (hr.below hal)
 have HF:=Lib.hid hf
 obtain ⟨x0,x1,x2,x3,x4,x5⟩:=sch_cells HBK.out
 clear x0 x1 x3 x4 x5 h1 h2 h3 h4 hidx hr hf hcc
 obtain ⟨g',off',cap',hv,hglt,e0,e1⟩:=sl_idx HIX.out.1 hi
 cases hv
 have hil0:0 < il.length:=zTbe
 obtain ⟨g',off',cap',hv,hglt',d0,d1⟩:=sl_idx HIX.out.1 hil0
 cases hv
 have hin0:=hin il[0] (List.getElem_mem hil0)
 have hini:=hin il[i] (List.getElem_mem hi)
 have hxi:=hx il[i] (List.getElem_mem hi)
 have hx0:=hx il[0] (List.getElem_mem hil0)
 have hsl:=HIX.out.2 il[i] (List.getElem_mem hi)
 have hsl0:=HIX.out.2 il[0] (List.getElem_mem hil0)
 have hhd:(il.headD il[i])=il[0]:=by cases il with
  | nil=>simp at hil0
  | cons a t=>rfl
 have HSK:Hid (skey il row il[i]=rowKey (pickO row il[i].l)++(if il[i].unique then [] else rowKey (pickO row il[0].l))):=by
  show _=_
  unfold skey
  rw [hhd]
 generalize skey il row il[i]=out at *
 clear hhd hx hin
 generalize hxx:il[i]=x at *
 generalize hyy:il[0]=y at *
 clear hxx hyy d1
 obtain ⟨xv,xl,xu⟩:=x
 obtain ⟨yv,yl,yu⟩:=y
 simp only at *
 rw [Nat.zero_mul,Nat.add_zero] at d0
 obtain ⟨px,cx,rfl,_,_⟩:=hsl.form
 generalize hw1:w.alloc (.cells #[.string nm,.slice pc cl.length cc,.slice (some ⟨g,off,none⟩) il.length ci,.int .i64 lim,.int .i64 prt,.int .i64 by_] 25)=w1 at *
 have hke:rowKey (pickO row xl)=keysB (pickR row xl):=rowKey_pick hini hra
 have hke0:rowKey (pickO row yl)=keysB (pickR row yl):=rowKey_pick hin0 hra
 rw [hke,hke0] at HSK
 have HY0:=Lib.hid (fun W (hb:Below w1.heap.size w1 W)=>hsl0.below hb)
 have HPK:=Lib.hid (fun W (hb:Below w1.heap.size w1 W)=>refpick_any W B' B v _ row xl (HROW.out.below hb) (hsl.below hb) (List.all_eq_true.1 hini) zTbe)
 have HPK0:=Lib.hid (fun W (hb:Below w1.heap.size w1 W)=>refpick_any W B' B v yv row yl (HROW.out.below hb) (hsl0.below hb) (List.all_eq_true.1 hin0) zTbe)
 have HKY:=Lib.hid (fun W v B2 (hv:Sl W B2 3 v (pickR row xl).length (rowCells (pickR row xl)))=>refkeys_any W B2 v (pickR row xl) hv (pick_right hini hra) (pickR_fit _ HF.out) (by have:=pickR_len row xl;omega))
 have HKY0:=Lib.hid (fun W v B2 (hv:Sl W B2 3 v (pickR row yl).length (rowCells (pickR row yl)))=>refkeys_any W B2 v (pickR row yl) hv (pick_right hin0 hra) (pickR_fit _ HF.out) (by have:=pickR_len row yl;omega))
 have hsum:(bs (keysB (pickR row xl))).size+(bs (keysB (pickR row yl))).size≤9223372036854775807:=by
  rw [←hke,←hke0,bs_size,bs_size]
  exact zkA4
 have HALX:Hid (w.alloc (.cells #[.string nm,.slice pc cl.length cc,.slice (some ⟨g,off,none⟩) il.length ci,.int .i64 lim,.int .i64 prt,.int .i64 by_] 25)=w1):=hw1
 have HE1:=Lib.hid e1
 have HD0:=Lib.hid d0
 clear hsl hsl0 hke hke0 hin0 hini hra e1 d0
 generalize keysB (pickR row xl)=kx at *
 generalize keysB (pickR row yl)=ky at *
 have HB1:=Lib.hid (Below.refl w1.heap.size w1)
 go_enter Tryz.func18,Tryz.ntmps18
 go_wp2_with fail
 clear hw1 x2 e0
 refine (HPK.out _ HB1.out).mono ?_
 rintro e w2 ⟨p1,rfl,hp1,hb2⟩
 have HP1:=Lib.hid hp1
 have HB2:=Lib.hid hb2
 clear hp1 hb2 HPK
 go_wp2_with fail
 refine (HKY.out _ p1 _ HP1.out).mono ?_
 rintro e w3 ⟨rfl,hb3⟩
 have HB3:=Lib.hid (HB2.out.trans (hb3.mono HB2.out.size))
 have x2:=(HBK.out.below HB3.out).cell 2
 simp only [List.getElem?_cons_zero,List.getElem?_cons_succ] at x2
 have e1:w3.cell? ⟨g,off+i*2+1,none⟩=some (.bool xu):=(HB3.out.cell hglt).trans HE1.out
 have d0:w3.cell? ⟨g,off,none⟩=some yv:=(HB3.out.cell hglt').trans HD0.out
 clear hb3 HKY
 cases xu
 ·simp only [Bool.false_eq_true,if_false] at HSK
  go_wp2_with fail
  refine (HPK0.out _ HB3.out).mono ?_
  rintro e w4 ⟨p2,rfl,hp2,hb4⟩
  have HB4:=Lib.hid (HB3.out.trans (hb4.mono HB3.out.size))
  have HP2:=Lib.hid hp2
  clear hp2 hb4 HPK0
  go_wp2_with fail
  refine (HKY0.out _ p2 _ HP2.out).mono ?_
  exact zuOT
 ·simp only [if_true,List.append_nil] at HSK
  go_wp2
  go_ret
  exact ⟨by rw [HSK.out];rfl,HALW.out.trans (HB3.out.mono HALW.out.size)⟩
def cmpI (x y:Int):Int:=if x < y then -1 else if y < x then 1 else 0
def cmpL (a b:List UInt8):Int:=if Op.bytesLess a b then -1 else if a == b then 0 else 1
def cmpV (a b:AV):Int:=if cmpI a.kind b.kind≠0 then cmpI a.kind b.kind else if cmpI a.n b.n≠0 then cmpI a.n b.n else cmpL a.s.toList b.s.toList
def cmpR:List AV→List AV→Int
 | [],[]=>0
 | [],_::_=>-1
 | _::_,[]=>1
 | a::x,b::y=>if cmpV a b≠0 then cmpV a b else cmpR x y
theorem less_irrefl:∀ a:List UInt8,Op.bytesLess a a=false
 | []=>rfl
 | c::a=>by simp [Op.bytesLess,less_irrefl a]
theorem less_asymm:∀ a b:List UInt8,Op.bytesLess a b=true→Op.bytesLess b a=false
 | _,[],h=>zJP2
 | [],c::b,_=>rfl
 | c::a,d::b,h=>by
  simp only [Op.bytesLess,Bool.or_eq_true,Bool.and_eq_true,decide_eq_true_eq,beq_iff_eq] at h
  rcases h with h|⟨rfl,h⟩
  ·have h1:¬ d < c:=fun h2=>by have:=UInt8.lt_irrefl c;exact this (UInt8.lt_trans h h2)
   have h2:¬ d=c:=fun h2=>by subst h2;exact UInt8.lt_irrefl d h
   simp [Op.bytesLess,h1,h2]
  ·simp [Op.bytesLess,less_asymm a b h]
theorem less_total:∀ a b:List UInt8,Op.bytesLess a b=false→Op.bytesLess b a=false→a=b
 | [],[],_,_=>rfl
 | [],c::b,h,_=>zJP2
 | c::a,[],_,h=>zJP2
 | c::a,d::b,h,k=>by
  simp only [Op.bytesLess,Bool.or_eq_false_iff,decide_eq_false_iff_not] at h k
  have h1:c=d:=by
   rcases UInt8.lt_or_lt_of_ne (a:=c) (b:=d) |> fun f=>Classical.em (c=d) with h2|h2
   ·exact h2
   ·rcases UInt8.lt_or_lt_of_ne h2 with h3|h3
    ·exact absurd h3 h.1
    ·exact absurd h3 k.1
  subst h1
  have h2:Op.bytesLess a b=false:=by simpa using h.2
  have h3:Op.bytesLess b a=false:=by simpa using k.2
  rw [less_total a b h2 h3]
theorem gtr_str (x y:ByteArray) (w:World):(binOp .gtr 9 (.string x) (.string y)).run Tryz.prog w=.ok (.bool (!(Op.bytesLess x.toList y.toList || x.toList == y.toList))) w:=zyVB
def or3 (a b c:Int):Int:=if a≠0 then a else if b≠0 then b else c
def OrSt (a b c:Int) (k:Nat):Prop:=(1≤k→a=0)∧(2≤k→b=0)∧(3≤k→c=0)
theorem cmpR_take (a b:List AV) (k:Nat):(∀ j (_:j < k) (ha:j < a.length) (hb:j < b.length),cmpV a[j] b[j]=0)→k≤a.length→k≤b.length→cmpR a b=cmpR (a.drop k) (b.drop k):=by
 induction k generalizing a b with
 | zero=>intros;rfl
 | succ k ih =>
  intro h ha hb
  cases a with
  | nil=>simp at ha
  | cons x a =>
   cases b with
   | nil=>simp at hb
   | cons y b =>
    have h0:=h 0 zTbe zPXO zPXO
    simp only [List.getElem_cons_zero] at h0
    show (if cmpV x y≠0 then cmpV x y else cmpR a b)=_
    rw [if_neg (by rw [h0];decide),List.drop_succ_cons,List.drop_succ_cons]
    exact ih a b (fun j hj ha' hb'=>h (j+1) zTbe (by simpa using ha') (by simpa using hb')) (by simpa using ha) (by simpa using hb)
theorem cmpR_at (a b:List AV) (k:Nat) (h:∀ j (_:j < k) (ha:j < a.length) (hb:j < b.length),cmpV a[j] b[j]=0) (ha:k < a.length) (hb:k < b.length) (hne:cmpV a[k] b[k]≠0):cmpR a b=cmpV a[k] b[k]:=by
 rw [cmpR_take a b k h zTbe zTbe,List.drop_eq_getElem_cons ha,List.drop_eq_getElem_cons hb]
 show (if _ then _ else _)=_
 rw [if_pos hne]
theorem cmpR_end (a b:List AV) (h:∀ j (ha:j < a.length) (hb:j < b.length),cmpV a[j] b[j]=0):cmpR a b=if b.length < a.length then 1 else if a.length < b.length then -1 else 0:=by
 rcases Nat.lt_trichotomy a.length b.length with h1|h1|h1
 ·rw [cmpR_take a b a.length (fun j _ ha hb=>h j ha hb) (Nat.le_refl _) zTbe,if_neg zTbe,if_pos h1,List.drop_length,List.drop_eq_getElem_cons h1];rfl
 ·rw [cmpR_take a b a.length (fun j _ ha hb=>h j ha hb) (Nat.le_refl _) zTbe,if_neg zTbe,if_neg zTbe,List.drop_length,h1,List.drop_length];rfl
 ·rw [cmpR_take a b b.length (fun j _ ha hb=>h j ha hb) zTbe (Nat.le_refl _),if_pos h1,List.drop_length,List.drop_eq_getElem_cons h1];rfl
def SameTo (a b:List AV) (k:Nat):Prop:=∀ j (_:j < k) (ha:j < a.length) (hb:j < b.length),cmpV a[j] b[j]=0
theorem less_common (p x y:List UInt8):Op.bytesLess (p++x) (p++y)=Op.bytesLess x y:=by
 induction p with
 | nil=>rfl
 | cons c p ih =>
  show (decide (c < c) || (c == c && Op.bytesLess (p++x) (p++y)))=_
  have:¬ c < c:=UInt8.lt_irrefl c
  simp [this,ih]
def Apart (lt:Bool) (x y:List UInt8):Prop:=∃ p c d x' y',x=p++c::x'∧y=p++d::y'∧(if lt then c < d else d < c)
theorem Apart.more {lt:Bool} {x y:List UInt8} (h:Apart lt x y) (r s:List UInt8):Apart lt (x++r) (y++s):=by
 obtain ⟨p,c,d,x',y',rfl,rfl,h⟩:=h
 exact ⟨p,c,d,x'++r,y'++s,zPXO,zPXO,h⟩
theorem Apart.pre {lt:Bool} {x y:List UInt8} (h:Apart lt x y) (q:List UInt8):Apart lt (q++x) (q++y):=by
 obtain ⟨p,c,d,x',y',rfl,rfl,h⟩:=h
 exact ⟨q++p,c,d,x',y',zPXO,zPXO,h⟩
theorem Apart.swap {x y:List UInt8} (h:Apart true x y):Apart false y x:=by
 obtain ⟨p,c,d,x',y',rfl,rfl,h⟩:=h
 exact ⟨p,d,c,y',x',rfl,rfl,zynw⟩
theorem Apart.less {x y:List UInt8} (h:Apart true x y):Op.bytesLess x y=true:=by
 obtain ⟨p,c,d,x',y',rfl,rfl,h⟩:=h
 rw [less_common]
 have h2:c < d:=zynw
 show (decide (c < d) || _)=true
 simp [h2]
theorem Apart.neq {lt:Bool} {x y:List UInt8} (h:Apart lt x y):¬ x <+: y:=by
 obtain ⟨p,c,d,x',y',rfl,rfl,h⟩:=h
 intro hp
 obtain ⟨t,ht⟩:=hp
 rw [List.append_assoc] at ht
 have h2:=List.append_cancel_left ht
 have h3:c=d:=by simpa using (List.cons.inj h2).1
 subst h3
 cases lt<;>simp at h
theorem Apart.cmp {lt:Bool} {x y:List UInt8} (h:Apart lt x y):cmpL x y=if lt then -1 else 1:=by
 unfold cmpL
 cases lt
 ·have h2:Apart true y x:=by
   obtain ⟨p,c,d,x',y',rfl,rfl,h⟩:=h
   exact ⟨p,d,c,y',x',rfl,rfl,zynw⟩
  have h3:=less_asymm _ _ h2.less
  rw [h3]
  have h4:(x == y)=false:=by
   rw [beq_eq_false_iff_ne]
   intro e
   subst e
   exact h.neq (List.prefix_refl _)
  rw [h4];rfl
 ·rw [h.less];rfl
theorem ofNat_lt (a b:Nat) (h:a < b) (hb:b < 256):UInt8.ofNat a < UInt8.ofNat b:=by
 rw [UInt8.lt_iff_toNat_lt,UInt8.toNat_ofNat',UInt8.toNat_ofNat'];omega
theorem be_apart (k u v:Nat) (h:u < v) (hv:v < 256 ^ k):Apart true (be k u) (be k v):=by
 induction k generalizing u v with
 | zero=>simp at hv;omega
 | succ k ih =>
  rw [be,be]
  rw [Nat.pow_succ] at hv
  by_cases h2:u / 256=v / 256
  ·rw [h2]
   exact ⟨be k (v / 256),_,_,[],[],rfl,rfl,by simp;exact ofNat_lt _ _ zTbe zTbe⟩
  ·exact (ih (u / 256) (v / 256) zTbe zTbe).more _ _
theorem pos_lt (d:UInt8) (h:d≠0):(0:UInt8) < d:=by
 rw [UInt8.lt_iff_toNat_lt]
 have:d.toNat≠0:=fun e=>h (UInt8.toNat_inj.1 e)
 show 0 < d.toNat
 omega
theorem esc_apart:∀ (s t:List UInt8),Op.bytesLess s t=true→Apart true (esc 0 [0,255] s++[0,1]) (esc 0 [0,255] t++[0,1])
 | _,[],h=>zJP2
 | [],d::t,_=>by
  unfold esc
  by_cases hd:d=0
  ·subst hd
   rw [if_pos rfl]
   exact ⟨[0],1,255,[],esc 0 [0,255] t++[0,1],rfl,rfl,zcX3⟩
  ·rw [if_neg hd]
   exact ⟨[],0,d,[1],esc 0 [0,255] t++[0,1],rfl,rfl,by simpa using pos_lt d hd⟩
 | c::s,d::t,h=>by
  simp only [Op.bytesLess,Bool.or_eq_true,Bool.and_eq_true,decide_eq_true_eq,beq_iff_eq] at h
  unfold esc
  rcases h with h|⟨rfl,h⟩
  ·by_cases hc:c=0
   ·subst hc
    have hd:d≠0:=fun e=>by subst e;exact UInt8.lt_irrefl _ h
    rw [if_pos rfl,if_neg hd]
    exact ⟨[],0,d,_,_,rfl,rfl,zynw⟩
   ·have hd:d≠0:=fun e=>by
     subst e
     rw [UInt8.lt_iff_toNat_lt] at h
     exact absurd h (Nat.not_lt_zero _)
    rw [if_neg hc,if_neg hd]
    exact ⟨[],c,d,_,_,rfl,rfl,zynw⟩
  ·have ih:=esc_apart s t h
   have e1:∀ x y:List UInt8,(if c=0 then [0,255] else [c])++x++y=(if c=0 then [0,255] else [c])++(x++y):=fun x y=>List.append_assoc _ _ _
   rw [e1,e1]
   exact ih.pre _
theorem up_lt (n m:Int) (h:n < m) (hn:fit64 n):up64 n < up64 m:=by unfold up64;unfold fit64 at hn;omega
theorem emptyT (s:ByteArray) (h:s.toList.isEmpty=true):s.toList=[]:=zynw
theorem key_apart (u v:AV) (hu:u.right=true) (hv:v.right=true) (fu:fit64 u.n) (fv:fit64 v.n) (h:cmpV u v=-1):Apart true (keyB u) (keyB v):=by
 obtain ⟨k,n,s⟩:=u
 obtain ⟨k',n',s'⟩:=v
 have hk:k=1∨k=2∨k=3:=by
  unfold AV.right at hu
  by_cases h1:k=1
  ·exact .inl h1
  by_cases h2:k=2
  ·exact .inr (.inl h2)
  ·simp [h1,h2] at hu
   exact .inr (.inr hu.1.1)
 have hk':k'=1∨k'=2∨k'=3:=by
  unfold AV.right at hv
  by_cases h1:k'=1
  ·exact .inl h1
  by_cases h2:k'=2
  ·exact .inr (.inl h2)
  ·simp [h1,h2] at hv
   exact .inr (.inr hv.1.1)
 have hf:∀ (k n:Int) (s:ByteArray),k=1∨k=2∨k=3→∃ t,keyB ⟨k,n,s⟩=UInt8.ofNat k.toNat::t:=fun k n s h=>by
  rcases h with rfl|rfl|rfl
  ·exact ⟨_,rfl⟩
  ·exact ⟨_,rfl⟩
  ·exact ⟨_,rfl⟩
 unfold cmpV at h
 simp only at h fu fv
 by_cases hkk:k=k'
 ·subst hkk
  have e0:cmpI k k=0:=by unfold cmpI;simp
  rw [e0,if_neg zPXO] at h
  unfold AV.right at hu hv
  simp only at hu hv
  rcases hk with rfl|rfl|rfl
  ·simp at hu hv
   have es:s.toList=s'.toList:=by
    have h1:=emptyT s (by simpa using hu)
    have h2:=emptyT s' (by simpa using hv)
    rw [h1,h2]
   have ec:cmpL s.toList s'.toList=0:=by unfold cmpL;rw [es,less_irrefl];simp
   rw [ec] at h
   have hnn:n < n':=by
    unfold cmpI at h
    by_cases h1:n < n'
    ·exact h1
    ·rw [if_neg h1] at h
     split at h<;>simp at h
   exact ((be_apart 8 _ _ (up_lt n n' hnn fu) (up64_lt n' fv)).pre [1])
  ·simp at hu hv
   obtain ⟨rfl,_⟩:=hu
   obtain ⟨rfl,_⟩:=hv
   have e1:cmpI 0 0=0:=zcX3
   rw [e1,if_neg zPXO] at h
   have hl:Op.bytesLess s.toList s'.toList=true:=by
    unfold cmpL at h
    split at h
    ·assumption
    ·split at h<;>simp at h
   rw [ByteArray.toList_eq,ByteArray.toList_eq] at hl
   exact (esc_apart _ _ hl).pre [2]
  ·simp at hu hv
   have es:s.toList=s'.toList:=by
    have h1:=emptyT s (by simpa using hu.2)
    have h2:=emptyT s' (by simpa using hv.2)
    rw [h1,h2]
   have ec:cmpL s.toList s'.toList=0:=by unfold cmpL;rw [es,less_irrefl];simp
   rw [ec] at h
   have hnn:n < n':=by
    unfold cmpI at h
    by_cases h1:n < n'
    ·exact h1
    ·rw [if_neg h1] at h
     split at h<;>simp at h
   obtain ⟨rfl,rfl⟩:n=0∧n'=1:=by rcases hu.1 with rfl|rfl<;>rcases hv.1 with rfl|rfl<;>omega
   exact ⟨[3],0,1,[],[],rfl,rfl,zcX3⟩
 ·have hlt:k < k':=by
   unfold cmpI at h
   by_cases h1:k < k'
   ·exact h1
   ·have h2:k' < k:=by omega
    simp [h1,h2] at h
  obtain ⟨t,ht⟩:=hf k n s hk
  obtain ⟨t',ht'⟩:=hf k' n' s' hk'
  rw [ht,ht']
  refine ⟨[],_,_,t,t',rfl,rfl,?_⟩
  simp only [if_true]
  exact ofNat_lt _ _ zTbe zTbe
theorem cmpV_swap (u v:AV) (h:cmpV u v≠0) (h1:cmpV u v≠-1):cmpV v u=-1:=by
 unfold cmpV cmpI cmpL at *
 obtain ⟨k,n,s⟩:=u
 obtain ⟨k',n',s'⟩:=v
 simp only at *
 rcases Int.lt_trichotomy k k' with hk|hk|hk
 ·simp [hk] at h1
 ·subst hk
  simp only [Int.lt_irrefl,if_false,ne_eq,not_true_eq_false] at h h1 ⊢
  rcases Int.lt_trichotomy n n' with hn|hn|hn
  ·simp [hn] at h1
  ·subst hn
   simp only [Int.lt_irrefl,if_false,not_true_eq_false] at h h1 ⊢
   cases hl:Op.bytesLess s.toList s'.toList
   ·cases hl2:Op.bytesLess s'.toList s.toList
    ·have:=less_total _ _ hl hl2
     rw [hl,this] at h
     simp at h
    ·simp
   ·rw [hl] at h1;simp at h1
  ·have:¬ n < n':=by omega
   simp [hn]
 ·have:¬ k < k':=by omega
  simp [hk]
theorem cmpV_zero (u v:AV) (h:cmpV u v=0):u=v:=by
 obtain ⟨k,n,s⟩:=u
 obtain ⟨k',n',s'⟩:=v
 unfold cmpV cmpI cmpL at h
 simp only at h
 rcases Int.lt_trichotomy k k' with hk|hk|hk
 ·simp [hk] at h
 ·subst hk
  simp only [Int.lt_irrefl,if_false,ne_eq,not_true_eq_false] at h
  rcases Int.lt_trichotomy n n' with hn|hn|hn
  ·simp [hn] at h
  ·subst hn
   simp only [Int.lt_irrefl,if_false,not_true_eq_false] at h
   cases hl:Op.bytesLess s.toList s'.toList
   ·rw [hl] at h
    simp only [Bool.false_eq_true,if_false] at h
    split at h
    ·rename_i hs
     have hs2:s.toList=s'.toList:=by simpa using hs
     rw [ByteArray.toList_eq,ByteArray.toList_eq] at hs2
     have:s=s':=by
      obtain ⟨a⟩:=s
      obtain ⟨b⟩:=s'
      have:a=b:=Array.toList_inj.1 hs2
      rw [this]
     rw [this]
    ·simp at h
   ·rw [hl] at h;simp at h
  ·have:¬ n < n':=by omega
   simp [hn,this] at h
 ·have:¬ k < k':=by omega
  simp [hk,this] at h
theorem cmpV_three (u v:AV):cmpV u v=-1∨cmpV u v=0∨cmpV u v=1:=by
 have hI:∀ x y,cmpI x y=-1∨cmpI x y=0∨cmpI x y=1:=fun x y=>by
  unfold cmpI
  split
  ·exact .inl rfl
  split
  ·exact .inr (.inr rfl)
  ·exact .inr (.inl rfl)
 have hL:∀ x y,cmpL x y=-1∨cmpL x y=0∨cmpL x y=1:=fun x y=>by
  unfold cmpL
  split
  ·exact .inl rfl
  split
  ·exact .inr (.inl rfl)
  ·exact .inr (.inr rfl)
 unfold cmpV
 split
 ·exact hI _ _
 split
 ·exact hI _ _
 ·exact hL _ _
theorem cmpV_self (u:AV):cmpV u u=0:=by
 unfold cmpV cmpI cmpL
 simp [less_irrefl]
theorem keyB_ne (v:AV):keyB v≠[]:=by
 unfold keyB
 split
 ·simp
 split<;>simp
def okRow (l:List AV):Prop:=rightAll l=true∧∀ a∈l,fit64 a.n
theorem okRow.tail {v:AV} {l:List AV} (h:okRow (v::l)):v.right=true∧fit64 v.n∧okRow l:=by
 obtain ⟨h1,h2⟩:=h
 unfold rightAll at h1
 rw [List.all_cons,Bool.and_eq_true] at h1
 exact ⟨h1.1,h2 v zPXO,h1.2,fun a ha=>h2 a (by simp [ha])⟩
theorem keys_order:∀ (a b:List AV),okRow a→okRow b→cmpL (keysB a) (keysB b)=cmpR a b
 | [],[],_,_=>rfl
 | [],v::b,_,_=>by
  show cmpL [] (keyB v++keysB b)=-1
  cases h:keyB v with
  | nil=>exact absurd h (keyB_ne v)
  | cons c t=>rfl
 | u::a,[],_,_=>by
  show cmpL (keyB u++keysB a) []=1
  cases h:keyB u with
  | nil=>exact absurd h (keyB_ne u)
  | cons c t=>rfl
 | u::a,v::b,ha,hb=>by
  obtain ⟨a1,a2,a3⟩:=ha.tail
  obtain ⟨b1,b2,b3⟩:=hb.tail
  show cmpL (keyB u++keysB a) (keyB v++keysB b)=if cmpV u v≠0 then cmpV u v else cmpR a b
  by_cases h:cmpV u v=0
  ·obtain rfl:=cmpV_zero u v h
   rw [if_neg zynw,←keys_order a b a3 b3]
   unfold cmpL
   rw [less_common]
   have:(keyB u++keysB a == keyB u++keysB b)=(keysB a == keysB b):=by
    rw [Bool.eq_iff_iff,beq_iff_eq,beq_iff_eq]
    exact ⟨List.append_cancel_left,fun e=>by rw [e]⟩
   rw [this]
  ·rw [if_pos h]
   by_cases h1:cmpV u v=-1
   ·rw [h1]
    exact ((key_apart u v a1 b1 a2 b2 h1).more _ _).cmp
   ·have h2:=cmpV_swap u v h h1
    have h3:=(key_apart v u b1 a1 b2 a2 h2).swap
    rw [(h3.more _ _).cmp]
    rcases cmpV_three u v with h5|h5|h5
    ·exact absurd h5 h1
    ·exact absurd h5 h
    ·rw [h5];rfl
theorem keys_prefix:∀ (a b:List AV),okRow a→okRow b→(keysB a <+: keysB b↔a <+: b)
 | [],b,_,_=>⟨fun _=>List.nil_prefix,fun _=>List.nil_prefix⟩
 | u::a,[],_,_=>by
  constructor
  ·intro h
   have h2:keyB u++keysB a=[]:=by
    have:=List.prefix_nil.1 h
    exact this
   exact absurd (List.append_eq_nil_iff.1 h2).1 (keyB_ne u)
  ·intro h
   have:=List.prefix_nil.1 h
   cases this
 | u::a,v::b,ha,hb=>by
  obtain ⟨a1,a2,a3⟩:=ha.tail
  obtain ⟨b1,b2,b3⟩:=hb.tail
  have ih:=keys_prefix a b a3 b3
  show keyB u++keysB a <+: keyB v++keysB b↔_
  by_cases h:cmpV u v=0
  ·obtain rfl:=cmpV_zero u v h
   rw [List.prefix_append_right_inj,ih,List.cons_prefix_cons]
   simp
  ·have hne:u≠v:=fun e=>by subst e;exact h (cmpV_self u)
   have h4:¬ (keyB u++keysB a <+: keyB v++keysB b):=by
    by_cases h1:cmpV u v=-1
    ·exact ((key_apart u v a1 b1 a2 b2 h1).more _ _).neq
    ·exact ((key_apart v u b1 a1 b2 a2 (cmpV_swap u v h h1)).swap.more _ _).neq
   constructor
   ·intro h5;exact absurd h5 h4
   ·intro h5
    rw [List.cons_prefix_cons] at h5
    exact absurd h5.1 hne
def lessV (a b:AV):Bool:=if a.kind != b.kind then decide (a.kind < b.kind) else if a.n != b.n then decide (a.n < b.n) else Op.bytesLess a.s.toList b.s.toList
theorem cmpL_less (x y:List UInt8):cmpL x y=if Op.bytesLess x y=true then -1 else if Op.bytesLess y x=true then 1 else 0:=by
 unfold cmpL
 cases h:Op.bytesLess x y
 ·cases k:Op.bytesLess y x
  ·rw [less_total x y h k];simp
  ·have:(x == y)=false:=by
    rw [beq_eq_false_iff_ne]
    intro e
    subst e
    rw [less_irrefl] at k;cases k
   rw [this];rfl
 ·rfl
theorem cmpV_less (a b:AV):cmpV a b=if lessV a b=true then -1 else if lessV b a=true then 1 else 0:=by
 obtain ⟨ka,na,sa⟩:=a
 obtain ⟨kb,nb,sb⟩:=b
 unfold cmpV lessV cmpI
 simp only
 by_cases h1:ka=kb
 ·subst h1
  have e1:(ka != ka)=false:=zPXO
  rw [e1]
  simp only [Int.lt_irrefl,if_false,ne_eq,not_true_eq_false,Bool.false_eq_true]
  by_cases h2:na=nb
  ·subst h2
   have e2:(na != na)=false:=zPXO
   rw [e2]
   simp only [Int.lt_irrefl,if_false,not_true_eq_false,Bool.false_eq_true]
   exact cmpL_less _ _
  ·have e2:(na != nb)=true:=by simpa using h2
   have e3:(nb != na)=true:=by simpa using fun e=>h2 e.symm
   rw [e2,e3]
   by_cases h3:na < nb
   ·simp [h3]
   ·have h4:nb < na:=by omega
    simp [h3,h4]
 ·have e2:(ka != kb)=true:=by simpa using h1
  have e3:(kb != ka)=true:=by simpa using fun e=>h1 e.symm
  rw [e2,e3]
  by_cases h3:ka < kb
  ·simp [h3]
  ·have h4:kb < ka:=by omega
   simp [h3,h4]
theorem cmpR_append:∀ (a b x y:List AV),a.length=b.length→cmpR (a++x) (b++y)=if cmpR a b≠0 then cmpR a b else cmpR x y
 | [],[],_,_,_=>by simp [cmpR]
 | u::a,v::b,x,y,h=>by
  have ih:=cmpR_append a b x y zynw
  show (if cmpV u v≠0 then cmpV u v else cmpR (a++x) (b++y))=if (if cmpV u v≠0 then cmpV u v else cmpR a b)≠0 then (if cmpV u v≠0 then cmpV u v else cmpR a b) else cmpR x y
  by_cases hv:cmpV u v=0
  ·simp only [hv,ne_eq,not_true_eq_false,if_false]
   exact ih
  ·simp only [hv,ne_eq,not_false_eq_true,if_true]
theorem keysB_app (a b:List AV):keysB (a++b)=keysB a++keysB b:=by unfold keysB;simp
theorem rightAll_app {a b:List AV} (h1:rightAll a=true) (h2:rightAll b=true):rightAll (a++b)=true:=by
 unfold rightAll at *
 rw [List.all_append,h1,h2];rfl
def wayS (il:List IdxV) (a b:List AV) (x:IdxV):Int:=if cmpR (pickR a x.l) (pickR b x.l)=0∧x.unique=false then cmpR (pickR a (il.headD x).l) (pickR b (il.headD x).l) else cmpR (pickR a x.l) (pickR b x.l)
theorem stands_plain {il:List IdxV} {a b:List AV} {x:IdxV} (ha:rightAll a=true) (hb:rightAll b=true) (fa:∀ v∈a,fit64 v.n) (fb:∀ v∈b,fit64 v.n)
 (h1:x.l.all (inR a)=true) (h2:x.l.all (inR b)=true) (h3:(il.headD x).l.all (inR a)=true) (h4:(il.headD x).l.all (inR b)=true) :
 cmpL (skey il a x) (skey il b x)=wayS il a b x:=by
 unfold skey wayS
 rw [rowKey_pick h1 ha,rowKey_pick h2 hb,rowKey_pick h3 ha,rowKey_pick h4 hb]
 have oa:okRow (pickR a x.l):=⟨pick_right h1 ha,pickR_fit _ fa⟩
 have ob:okRow (pickR b x.l):=⟨pick_right h2 hb,pickR_fit _ fb⟩
 have oa0:okRow (pickR a (il.headD x).l):=⟨pick_right h3 ha,pickR_fit _ fa⟩
 have ob0:okRow (pickR b (il.headD x).l):=⟨pick_right h4 hb,pickR_fit _ fb⟩
 cases hu:x.unique
 ·simp only [Bool.false_eq_true,if_false,and_true]
  rw [←keysB_app,←keysB_app,keys_order _ _ ⟨rightAll_app oa.1 oa0.1,fun v hv=>(List.mem_append.1 hv).elim (oa.2 v) (oa0.2 v)⟩ ⟨rightAll_app ob.1 ob0.1,fun v hv=>(List.mem_append.1 hv).elim (ob.2 v) (ob0.2 v)⟩,
   cmpR_append _ _ _ _ (by rw [pickR_len,pickR_len])]
  by_cases h:cmpR (pickR a x.l) (pickR b x.l)=0
  ·rw [if_neg zynw,if_pos h]
  ·rw [if_pos h,if_neg h]
 ·simp only [if_true,List.append_nil,Bool.true_eq_false,and_false,if_false]
  exact keys_order _ _ oa ob
theorem cmpL_lt (x y:List UInt8):(Op.bytesLess x y == decide (cmpL x y < 0))=true:=by
 unfold cmpL
 cases Op.bytesLess x y
 ·cases (x == y)<;>rfl
 ·rfl
theorem cmpL_eq (x y:List UInt8):((x == y) == decide (cmpL x y=0))=true:=by
 unfold cmpL
 cases h:Op.bytesLess x y
 ·cases (x == y)<;>rfl
 ·have:(x == y)=false:=by
   rw [beq_eq_false_iff_ne]
   intro e
   subst e
   rw [less_irrefl] at h;cases h
  rw [this];rfl
theorem same_row (w:World) (B B':Nat→Prop) (v v':Value) (l:List AV) (h:Sl w B 3 v l.length (rowCells l)) (h':Sl w B' 3 v' l.length (rowCells l)) :
 Calls Tryz.prog 19 #[v,v'] w fun e w'=>e=.returned (.bool true)∧Below w.heap.size w w':=by
 obtain ⟨p,cap,rfl,hc1,hc2⟩:=h.form
 obtain ⟨p',cap',rfl,hc1',hc2'⟩:=h'.form
 have H:=Lib.hid h
 have H':=Lib.hid h'
 clear h h'
 go_enter Tryz.func19,Tryz.ntmps19
 go_wp2
 go_loopw [5] (fun i wr=>∃ k:Nat,i=.int .i64 k∧k≤l.length∧Below w.heap.size w wr) (fun i _=>l.length - (intOf i).toNat)
 case atStart=>exact ⟨0,rfl,Nat.zero_le _,Below.refl _ _⟩
 case round =>
  obtain ⟨k,rfl,hk,hb⟩:=hrel
  have HB:=Lib.hid hb
  by_cases hka:k < l.length
  ·obtain ⟨g,off,cap1,hv,hg,e0,e1,e2⟩:=sl_av (H.out.below hb) hka
   obtain ⟨g',off',cap1',hv',hg',e0',e1',e2'⟩:=sl_av (H'.out.below hb) hka
   cases hv
   cases hv'
   clear hb
   generalize l[k]=x at *
   go_wp2
   refine wp_region_lit_plan [] [(0,0),(1,0),(2,0),(4,0),(5,0),(6,0),(3,1),(7,1),(8,0)] (fun _=>False) zyVB zyVB (fun c a d v w h=>zx0I) ?_
   go_wp2_with (first
    | (refine stp ?_))
   exact ⟨⟨k+1,z3KH,zTbe,HB.out.drew⟩,zQOc⟩
  ·obtain rfl:k=l.length:=by omega
   clear hb
   go_wp2
   go_ret
   exact ⟨rfl,HB.out⟩
theorem same_rows (w:World) (B B':Nat→Prop) (v v':Value) (rows rows':List RowV) (h:RowsAt w B v rows) (h':RowsAt w B' v' rows') (he:rows.map RowV.l=rows'.map RowV.l) :
 Calls Tryz.prog 24 #[v,v'] w fun e w'=>e=.returned (.bool true)∧Below w.heap.size w w':=by
 obtain ⟨p,cap,rfl,hc1,hc2⟩:=h.1.form
 obtain ⟨p',cap',rfl,hc1',hc2'⟩:=h'.1.form
 have hl:rows'.length=rows.length:=by have:=congrArg List.length he;simpa using this.symm
 have hel:∀ k (h1:k < rows.length) (h2:k < rows'.length),rows'[k].l=rows[k].l:=fun k h1 h2=>by
  have:=congrArg (fun x:List (List AV)=>x[k]?) he
  simp [h1,h2] at this
  exact this.symm
 have H:=Lib.hid h
 have H':=Lib.hid h'
 have HEL:=Lib.hid hel
 have HL:=Lib.hid hl
 clear h h' he hel
 rw [hl]
 clear hl
 go_enter Tryz.func24,Tryz.ntmps24
 go_wp2
 go_loopw [5] (fun i wr=>∃ k:Nat,i=.int .i64 k∧k≤rows.length∧Below w.heap.size w wr) (fun i _=>rows.length - (intOf i).toNat)
 case atStart=>exact ⟨0,rfl,Nat.zero_le _,Below.refl _ _⟩
 case round =>
  obtain ⟨k,rfl,hk,hb⟩:=hrel
  have HB:=Lib.hid hb
  by_cases hka:k < rows.length
  ·have hka':k < rows'.length:=by rw [HL.out];exact hka
   obtain ⟨g,off,cap1,hv,hck⟩:=(H.out.below hb).at hka
   obtain ⟨g',off',cap1',hv',hck'⟩:=(H'.out.below hb).at hka'
   have hr:=(H.out.below hb).2 rows[k] (List.getElem_mem hka)
   have hr':=(H'.out.below hb).2 rows'[k] (List.getElem_mem hka')
   have e1:=HEL.out k hka hka'
   cases hv
   rw [HL.out] at hv'
   cases hv'
   generalize rows[k]=x at *
   generalize rows'[k]=x' at *
   obtain ⟨xv,xl⟩:=x
   obtain ⟨xv',xl'⟩:=x'
   have e2:xl'=xl:=e1
   subst e2
   simp only at hr hr' hck hck'
   have HS:=Lib.hid (same_row wr.drew _ _ xv xv' xl' hr.drew hr'.drew)
   clear hr hr' e1 hb
   go_wp2
   refine wp_region_lit_plan [] [(0,0),(1,0),(2,0),(4,0),(5,0),(6,0),(3,1),(7,1),(8,4),(9,0)] (fun _=>False) zyVB zyVB (fun c a d v w h=>zx0I) ?_
   go_wp2_with (first
    | (refine stp ?_)
    | (go_at_call 19;refine HS.out.mono ?_;clear HS;rintro e w2 ⟨rfl,hb2⟩))
   have hbd:Below w.heap.size w wr.drew:=HB.out.drew
   exact ⟨⟨k+1,z3KH,zTbe,hbd.trans (hb2.mono hbd.size)⟩,zQOc⟩
  ·obtain rfl:k=rows.length:=by omega
   clear hb
   go_wp2
   go_ret
   exact ⟨rfl,HB.out⟩
end Go.Proofs.YteggkjdlajgenaaGreatDoor
namespace Go.Afx
def ld (u:Nat):List Nat:=if _h:u=0 then [] else u % 10::ld (u / 10)
decreasing_by exact Nat.div_lt_self zTbe zTbe
theorem ld_zero:ld 0=[]:=by rw [ld];simp
theorem ld_pos (u:Nat) (h:0 < u):ld u=u % 10::ld (u / 10):=by rw [ld,dif_neg zTbe]
def vd:List Nat→Nat
 | []=>0
 | x::t=>x+10*vd t
def D10 (d:List Nat):Prop:=∀ x∈d,x < 10
theorem vd_ld (u:Nat):vd (ld u)=u:=by
 induction u using Nat.strongRecOn with
 | ind u ih =>
  rcases Nat.eq_zero_or_pos u with h|h
  ·subst h;rw [ld_zero];rfl
  ·rw [ld_pos u h,vd,ih (u / 10) (Nat.div_lt_self h zTbe)];omega
theorem ld_D10 (u:Nat):D10 (ld u):=by
 induction u using Nat.strongRecOn with
 | ind u ih =>
  rcases Nat.eq_zero_or_pos u with h|h
  ·subst h;rw [ld_zero];intro x hx;simp at hx
  ·rw [ld_pos u h]
   intro x hx
   rcases List.mem_cons.1 hx with rfl|hx
   ·omega
   ·exact ih (u / 10) (Nat.div_lt_self h zTbe) x hx
theorem vd_append (a b:List Nat):vd (a++b)=vd a+10 ^ a.length*vd b:=by
 induction a with
 | nil=>simp [vd]
 | cons x a ih =>
  rw [List.cons_append,vd,ih,vd,List.length_cons,Nat.pow_succ,Nat.mul_add,←Nat.mul_assoc,Nat.mul_comm 10 (10 ^ a.length)]
  omega
theorem vd_lt (d:List Nat) (h:D10 d):vd d < 10 ^ d.length:=by
 induction d with
 | nil=>simp [vd]
 | cons x d ih =>
  have h1:=h x zPXO
  have h2:=ih (fun y hy=>h y (by simp [hy]))
  rw [vd,List.length_cons,Nat.pow_succ]
  omega
theorem vd_next (d:List Nat) (k:Nat):vd (d.take (k+1))=vd (d.take k)+10 ^ k*d.getD k 0:=by
 by_cases h:k < d.length
 ·rw [←List.take_append_getElem h,vd_append,List.length_take,Nat.min_eq_left zTbe]
  simp [vd,List.getD,h]
 ·rw [List.take_of_length_le zTbe,List.take_of_length_le zTbe]
  simp [List.getD,List.getElem?_eq_none (show d.length≤k by omega)]
theorem D10.take {d:List Nat} (h:D10 d) (k:Nat):D10 (d.take k):=fun x hx=>h x (List.mem_of_mem_take hx)
theorem D10.drop {d:List Nat} (h:D10 d) (k:Nat):D10 (d.drop k):=fun x hx=>h x (List.mem_of_mem_drop hx)
theorem D10.getD {d:List Nat} (h:D10 d) (k:Nat):d.getD k 0 < 10:=by
 by_cases hk:k < d.length
 ·have:d.getD k 0=d[k]:=by simp [List.getD,hk]
  rw [this];exact h _ (List.getElem_mem hk)
 ·simp [List.getD,List.getElem?_eq_none (show d.length≤k by omega)]
theorem D10.append {a b:List Nat} (ha:D10 a) (hb:D10 b):D10 (a++b):=fun x hx=>by
 rcases List.mem_append.1 hx with h|h
 ·exact ha x h
 ·exact hb x h
theorem vd_pos_of_last (d:List Nat) (x:Nat) (hx:x≠0):0 < vd (d++[x]):=by
 rw [vd_append]
 have:0 < 10 ^ d.length*vd [x]:=Nat.mul_pos (Nat.pow_pos zTbe) (by simp [vd];omega)
 omega
theorem canon (d:List Nat) (x:Nat) (h:D10 (d++[x])) (hx:x≠0):d++[x]=ld (vd (d++[x])):=by
 induction d with
 | nil =>
  have h1:=h x zPXO
  show [x]=ld (x+10*0)
  rw [Nat.mul_zero,Nat.add_zero,ld_pos x zTbe,show x / 10=0 by omega,ld_zero,show x % 10=x by omega]
 | cons y d ih =>
  have h1:=h y zPXO
  have h2:=ih (fun z hz=>h z (by rw [List.cons_append];exact List.mem_cons_of_mem _ hz))
  have h3:=vd_pos_of_last d x hx
  rw [List.cons_append,vd,ld_pos _ zTbe]
  have e1:(y+10*vd (d++[x])) % 10=y:=zTbe
  have e2:(y+10*vd (d++[x])) / 10=vd (d++[x]):=zTbe
  rw [e1,e2,←h2]
theorem ld_lt (u:Nat):u < 10 ^ (ld u).length:=by
 have:=vd_lt (ld u) (ld_D10 u)
 rwa [vd_ld] at this
theorem ld_ge (u:Nat) (h:0 < u):10 ^ ((ld u).length - 1)≤u:=by
 induction u using Nat.strongRecOn with
 | ind u ih =>
  rw [ld_pos u h,List.length_cons,Nat.add_sub_cancel]
  rcases Nat.eq_zero_or_pos (u / 10) with h2|h2
  ·rw [h2,ld_zero];simp;omega
  ·have h3:=ih (u / 10) (Nat.div_lt_self h zTbe) h2
   have h4:0 < (ld (u / 10)).length:=by rw [ld_pos _ h2];simp
   obtain ⟨k,hk⟩:∃ k,(ld (u / 10)).length=k+1:=⟨_,(Nat.succ_pred_eq_of_pos h4).symm⟩
   rw [hk,Nat.add_sub_cancel] at h3
   rw [hk,Nat.pow_succ]
   omega
theorem ld_len_le (u k:Nat) (h:u < 10 ^ k):(ld u).length≤k:=by
 rcases Nat.eq_zero_or_pos u with h0|h0
 ·subst h0;rw [ld_zero];simp
 ·have h1:=ld_ge u h0
  have h2:10 ^ ((ld u).length - 1) < 10 ^ k:=Nat.lt_of_le_of_lt h1 h
  have h3:=(Nat.pow_lt_pow_iff_right (by omega:1 < 10)).1 h2
  omega
theorem ld_len_mono {x y:Nat} (h:x≤y):(ld x).length≤(ld y).length:=ld_len_le x _ (Nat.lt_of_le_of_lt h (ld_lt y))
theorem ld_len_lt {x y:Nat} (h:(ld x).length < (ld y).length):x < y:=by
 rcases Nat.lt_or_ge x y with h2|h2
 ·exact h2
 ·have:=ld_len_mono h2;omega
theorem ld_nil_iff (u:Nat):(ld u).length=0↔u=0:=by
 constructor
 ·intro h
  rcases Nat.eq_zero_or_pos u with h0|h0
  ·exact h0
  ·rw [ld_pos u h0] at h;simp at h
 ·rintro rfl;rw [ld_zero];rfl
theorem vd_split (d:List Nat) (i:Nat):vd d=vd (d.take i)+10 ^ i*vd (d.drop i):=by
 by_cases h:i≤d.length
 ·conv=>lhs;rw [←List.take_append_drop i d]
  rw [vd_append,List.length_take,Nat.min_eq_left h]
 ·rw [List.take_of_length_le zTbe,List.drop_of_length_le zTbe]
  simp [vd]
theorem vd_drop (d:List Nat) (i:Nat) (h:i < d.length):vd (d.drop i)=d[i]+10*vd (d.drop (i+1)):=by
 rw [List.drop_eq_getElem_cons h,vd]
theorem vd_less (a b:List Nat) (ha:D10 a) (hb:D10 b) (i:Nat) (h1:i < a.length) (h2:i < b.length) (hd:a.drop (i+1)=b.drop (i+1)) (hne:a[i]≠b[i]):(a[i] < b[i])↔vd a < vd b:=by
 rw [vd_split a i,vd_split b i,vd_drop a i h1,vd_drop b i h2,hd]
 have h3:vd (a.take i) < 10 ^ i:=by
  have:=vd_lt _ (ha.take i)
  rwa [List.length_take,Nat.min_eq_left zTbe] at this
 have h4:vd (b.take i) < 10 ^ i:=by
  have:=vd_lt _ (hb.take i)
  rwa [List.length_take,Nat.min_eq_left zTbe] at this
 generalize vd (a.take i)=x at *
 generalize vd (b.take i)=y at *
 generalize vd (b.drop (i+1))=z at *
 generalize a[i]=p at *
 generalize b[i]=q at *
 generalize 10 ^ i=t at *
 constructor
 ·intro h
  have h5:t*(p+10*z)+t≤t*(q+10*z):=by
   rw [←Nat.mul_succ];exact Nat.mul_le_mul_left t zTbe
  omega
 ·intro h
  rcases Nat.lt_or_ge p q with h6|h6
  ·exact h6
  ·have h5:t*(q+10*z)+t≤t*(p+10*z):=by
    rw [←Nat.mul_succ];exact Nat.mul_le_mul_left t zTbe
   omega
theorem vd_set (d:List Nat) (j x:Nat) (h:j < d.length):vd (d.set j (d[j]+x))=vd d+10 ^ j*x:=by
 induction d generalizing j with
 | nil=>simp at h
 | cons y d ih =>
  cases j with
  | zero=>simp [vd];omega
  | succ j =>
   rw [List.set_cons_succ,vd,vd]
   have h2:j < d.length:=zynw
   have h3:(y::d)[j+1]=d[j]:=rfl
   rw [h3,ih j h2,Nat.pow_succ,Nat.mul_add,Nat.mul_comm (10 ^ j) 10,Nat.mul_assoc]
   omega
theorem vd_set_sub (d:List Nat) (j y:Nat) (h:j < d.length) (hy:y≤d[j]):vd (d.set j y)+10 ^ j*(d[j] - y)=vd d:=by
 have e:=vd_set (d.set j y) j (d[j] - y) zynw
 rw [List.set_set] at e
 have h2:(d.set j y)[j]'(zynw)=y:=zPXO
 rw [h2,show y+(d[j] - y)=d[j] by omega,List.set_getElem_self] at e
 exact e.symm
theorem vd_zeros (n:Nat):vd (List.replicate n 0)=0:=by
 induction n with
 | zero=>rfl
 | succ n ih=>rw [List.replicate_succ,vd,ih]
end Go.Afx
namespace Go.Proofs.YteggkjdlajgenaaGreatDoor
open Go.RowKit Go.Afx
def nats (d:List Nat):List Value:=ints (d.map fun n:Nat=>(n:Int))
def slLen:Value→Nat
 | .slice _ n _=>n
 | _=>0
theorem nats_get (d:List Nat) (k:Nat) (h:k < d.length):(nats d)[k]?=some (.int .i64 (d[k]:Int)):=by simp [nats,ints,h]
theorem nats_length (d:List Nat):(nats d).length=d.length:=by simp [nats,ints]
theorem nats_append (a b:List Nat):nats (a++b)=nats a++nats b:=by simp [nats,ints]
theorem nats_take (d:List Nat) (k:Nat):(nats d).take k=nats (d.take k):=by simp [nats,ints,List.map_take]
theorem nats_set (d:List Nat) (k x:Nat):(nats d).set k (.int .i64 (x:Int))=nats (d.set k x):=by simp [nats,ints,List.map_set]
def IsNum (w:World) (B:Nat→Prop) (v:Value) (z:Int):Prop :=
 ∃ dv,v=.agg #[.bool (decide (z < 0)),dv]∧Sl w B 1 dv (ld z.natAbs).length (nats (ld z.natAbs))
theorem IsNum.below {w w':World} {B:Nat→Prop} {v:Value} {z:Int} (h:IsNum w B v z) (hb:Below w.heap.size w w'):IsNum w' B v z:=by
 obtain ⟨dv,rfl,h2⟩:=h
 exact ⟨dv,rfl,h2.below hb⟩
theorem sl_nat {w:World} {B:Nat→Prop} {v:Value} {d:List Nat} (h:Sl w B 1 v d.length (nats d)) {k:Nat} (hk:k < d.length) :
 ∃ g off cap,v=.slice (some ⟨g,off,none⟩) d.length cap∧g < w.heap.size∧w.cell? ⟨g,off+k,none⟩=some (.int .i64 (d[k]:Int)):=by
 obtain ⟨g,off,cap,hv,_,_,hgb,hglt,hc⟩:=h.place zTbe
 exact ⟨g,off,cap,hv,hglt,by rw [hc k (by rw [nats_length];exact hk),nats_get d k hk]⟩
theorem trim_any (w:World) (B:Nat→Prop) (v:Value) (d:List Nat) (hd:D10 d) (hl:Sl w B 1 v d.length (nats d)) (_:d.length≤1000000) :
 Calls Tryz.prog 152 #[v] w fun e w'=>∃ v',e=.returned v'∧Sl w B 1 v' (ld (vd d)).length (nats (ld (vd d)))∧w=w':=by
 obtain ⟨p,cap,rfl,hc1,hc2⟩:=hl.form
 have HL:=Lib.hid hl
 have HD:=Lib.hid hd
 clear hl hd
 go_enter Tryz.func152,Tryz.ntmps152
 go_wp2
 go_loopw [0] (fun x wr=>∃ k:Nat,x=.slice p k cap∧k≤d.length∧vd (d.take k)=vd d∧w=wr) (fun x _=>slLen x)
 case atStart=>exact ⟨d.length,rfl,Nat.le_refl _,zvGW,rfl⟩
 case round =>
  obtain ⟨k,rfl,hk,hv,rfl⟩:=hrel
  have HV:=Lib.hid hv
  clear hv
  rcases Nat.eq_zero_or_pos k with rfl|hpos
  ·go_wp2
   go_ret
   refine ⟨_,rfl,?_,rfl⟩
   have e:vd d=0:=by rw [←HV.out];rfl
   rw [e,ld_zero]
   have:=HL.out.take (Nat.zero_le d.length)
   simpa [nats,ints] using this
  ·obtain ⟨j,rfl⟩:∃ j,k=j+1:=⟨k - 1,zTbe⟩
   have hj:j < d.length:=zTbe
   obtain ⟨g,off,cap',hvv,hglt,hck⟩:=sl_nat HL.out hj
   cases hvv
   have HN:=Lib.hid (vd_next d j)
   have hg:d.getD j 0=d[j]:=by simp [List.getD,hj]
   by_cases h0:d[j]=0
   ·rw [h0] at hck
    clear hg
    go_wp2
    refine ⟨⟨j,rfl,zTbe,?_,trivial⟩,by show j < j+1;omega⟩
    have:=HN.out
    rw [HV.out] at this
    rw [this]
    simp [List.getD,hj,h0]
   ·have h1:((d[j]:Int) == 0)=false:=by rw [beq_eq_false_iff_ne];omega
    have hcn:Hid (d.take (j+1)=ld (vd d)):=by
     show _=_
     rw [←HV.out,←List.take_append_getElem hj]
     refine canon _ _ ?_ h0
     rw [List.take_append_getElem hj];exact HD.out.take _
    generalize (d[j]:Int)=x at *
    clear hg h0
    go_wp2
    go_ret
    refine ⟨_,rfl,?_,rfl⟩
    have:=HL.out.take (m:=j+1) zTbe
    rw [Nat.mul_one,nats_take] at this
    rw [←hcn.out,List.length_take,Nat.min_eq_left zTbe]
    exact this
theorem Sl.lift {w w':World} {B:Nat→Prop} {sz:Nat} {v:Value} {n:Nat} {cs:List Value} (h:Sl w B sz v n cs) (hb:Below w.heap.size w w'):Sl w' (fun k=>k < w.heap.size∧B k) sz v n cs :=
 h.mono hb.size (fun k _ hk=>hb.block k hk) (fun _ h1 h2=>⟨h2,h1⟩)
theorem Sl.back {w w':World} {B:Nat→Prop} {sz:Nat} {v:Value} {n:Nat} {cs:List Value} (h:Sl w' (fun k=>k < w.heap.size∧B k) sz v n cs) (hb:Below w.heap.size w w'):Sl w B sz v n cs:=by
 refine ⟨h.1,h.2.1,?_⟩
 rcases h.2.2 with h2|⟨b,o,cap,e1,e2,e3,e4,_,e6⟩
 ·exact .inl h2
 ·exact .inr ⟨b,o,cap,e1,e2,e3,e4.2,e4.1,fun j hj=>by rw [←e6 j hj];exact (hb.cell (p:=⟨b,o+j,none⟩) e4.1).symm⟩
theorem sgn_law (neg:Bool) (u:Nat):(neg && decide (0 < (ld u).length))=decide (sgn neg (u:Int) < 0)∧(sgn neg (u:Int)).natAbs=u:=by
 have h:=ld_nil_iff u
 cases neg
 ·refine ⟨?_,by simp [sgn]⟩
  rw [Bool.false_and]
  symm
  apply decide_eq_false
  unfold sgn
  simp
 ·refine ⟨?_,by simp [sgn]⟩
  rw [Bool.true_and]
  apply decide_eq_decide.2
  unfold sgn
  simp
  omega
theorem sign_any (w:World) (B:Nat→Prop) (neg:Bool) (v:Value) (d:List Nat) (hd:D10 d) (hl:Sl w B 1 v d.length (nats d)) (hlen:d.length≤1000000) :
 Calls Tryz.prog 120 #[.bool neg,v] w fun e w'=>∃ v',e=.returned v'∧IsNum w' B v' (sgn neg (vd d))∧Below w.heap.size w w':=by
 have HT:Hid (∀ w':World,Below w.heap.size w w'→Calls Tryz.prog 152 #[v] w' fun e w2=>∃ v',e=.returned v'∧Sl w B 1 v' (ld (vd d)).length (nats (ld (vd d)))∧w'=w2) :=
  fun w' h=>(trim_any w' _ v d hd (Sl.lift hl h) hlen).mono fun e w2 ⟨v',h1,h2,h3⟩=>⟨v',h1,Sl.back h2 h,h3⟩
 obtain ⟨e1,e2⟩:=sgn_law neg (vd d)
 obtain ⟨p,cap,rfl,hc1,hc2⟩:=hl.form
 have E1:=Lib.hid e1
 have E2:=Lib.hid e2
 have hle:(ld (vd d)).length≤d.length:=ld_len_le _ _ (vd_lt d hd)
 clear hd hl e1 e2
 generalize sgn neg (vd d)=z at *
 generalize hq:ld (vd d)=q at *
 have HQ:=Lib.hid hq
 clear hq
 cases neg
 ·have E3:Hid (decide (z < 0)=false):=by rw [←E1.out];exact Lib.hid (Bool.false_and _)
  go_enter Tryz.func120,Tryz.ntmps120
  go_wp2_with (go_at_call 152;refine (HT.out _ ((Below.refl _ _).alloc (Nat.le_refl _) _)).mono ?_;rintro e w2 ⟨v2,rfl,h2,rfl⟩;obtain ⟨p2,cap2,rfl,hd1,hd2⟩:=h2.form;have H2:=Lib.hid h2;clear h2)
  refine bodyPost_ret (v:=.agg #[.bool false,.slice p2 q.length cap2]) (by simp [results,Tryz.results120,go_sem]) rfl ⟨_,rfl,⟨_,by rw [E3.out],?_⟩,?_⟩
  ·rw [E2.out,HQ.out]
   exact zfIM
  ·skip
   exact zGHK
 ·have E3:Hid (decide (z < 0)=decide (0 < q.length)):=by rw [←E1.out];exact Lib.hid (Bool.true_and _)
  go_enter Tryz.func120,Tryz.ntmps120
  go_wp2_with (go_at_call 152;refine (HT.out _ ((Below.refl _ _).alloc (Nat.le_refl _) _)).mono ?_;rintro e w2 ⟨v2,rfl,h2,rfl⟩;obtain ⟨p2,cap2,rfl,hd1,hd2⟩:=h2.form;have H2:=Lib.hid h2;clear h2)
  refine bodyPost_ret (v:=.agg #[.bool (decide (0 < q.length)),.slice p2 q.length cap2]) (by simp [results,Tryz.results120,go_sem]) rfl ⟨_,rfl,⟨_,by rw [E3.out],?_⟩,?_⟩
  ·rw [E2.out,HQ.out]
   exact zfIM
  ·skip
   exact zGHK
theorem own_form1 {w:World} {e:TypeId} {sz:Nat} {v:Value} {n:Nat} {cs:List Value} (h:Own w e sz v n cs):∃ p cap,v=.slice p n cap∧n≤cap∧cap≤9223372036854775807 :=
 (h.sl (B:=fun _=>True) fun _ _=>trivial).form
theorem push_post {w w2:World} {dv v1:Value} {d:List Nat} {x N:Nat} (hN:N≤w.heap.size) (hf:∀ k,dv.ownBlock=some k→N≤k)
 (g1:Own w2 3 1 v1 (d.length+1) (nats d++[.int .i64 (x:Int)])) (g2:Only (fun k=>dv.ownBlock=some k) (w.alloc (.cells #[.int .i64 (x:Int)] 3)) w2)
 (g3:v1.ownBlock=dv.ownBlock∨v1.ownBlock=some (w.alloc (.cells #[.int .i64 (x:Int)] 3)).heap.size) :
 Own w2 3 1 v1 (d++[x]).length (nats (d++[x]))∧Only (fun k=>dv.ownBlock=some k) w w2∧(∀ k,v1.ownBlock=some k→N≤k)∧Below N w w2:=by
 have ho:Only (fun k=>dv.ownBlock=some k) w w2:=((Only.refl _ w).alloc _).trans g2 (fun _ _ h=>h)
 refine ⟨?_,ho,fun k hk=>?_,ho.below hN hf⟩
 ·rw [nats_append,List.length_append];exact g1
 ·rcases g3 with h|h
  ·exact hf k (by rw [←h];exact hk)
  ·rw [h] at hk
   have:(w.alloc (.cells #[.int .i64 (x:Int)] 3)).heap.size=k:=zFJU
   simp at this
   omega
theorem one_int (w:World) (x:Nat):Sl (w.alloc (.cells #[.int .i64 (x:Int)] 3)) (fun _=>True) 1 (.slice (some ⟨w.heap.size,0,none⟩) 1 1) 1 [.int .i64 (x:Int)] :=
 (Own.made w 3 1 [.int .i64 (x:Int)] [] 1 1 rfl (Ones.nil.cons rfl) (Nat.le_refl _) zdUY zPXO).sl (fun _ _=>trivial)
theorem of_num (w:World) (n:Int) (hn:fits n) :
 Calls Tryz.prog 88 #[.int .i64 n] w fun e w'=>∃ v',e=.returned v'∧IsNum w' (fun k=>w.heap.size < k) v' n∧Below w.heap.size w w':=by
 have e1:(if n < 0 then IntKind.u64.wrap (-IntKind.u64.wrap n) else IntKind.u64.wrap n)=(n.natAbs:Int):=by
  unfold fits at hn
  split
  ·rw [IntKind.wrap_u64,IntKind.wrap_u64];omega
  ·rw [IntKind.wrap_u64];omega
 have hu:n.natAbs < 10 ^ 19:=by unfold fits at hn;omega
 have hz:sgn (decide (n < 0)) (n.natAbs:Int)=n:=by
  unfold sgn
  by_cases h:n < 0
  ·rw [decide_eq_true h,if_pos rfl];omega
  ·rw [decide_eq_false h,if_neg zcX3];omega
 have HU:=Lib.hid hu
 have HZ:=Lib.hid hz
 clear hn hu hz
 generalize n.natAbs=u at *
 have HB0:Hid (Blk (w.alloc (.cells #[.bool false,.slice none 0 0] 168)) w.heap.size 168 [.bool false,.slice none 0 0]):=Blk.new w _ _
 by_cases hneg:n < 0
 ·rw [if_pos hneg] at e1
  go_enter Tryz.func88,Tryz.ntmps88
  go_wp2
  generalize hw0:w.alloc (.cells #[.bool false,.slice none 0 0] 168)=w0 at *
  have HL0:Hid (Below w.heap.size w w0):=by rw [←hw0];exact (Below.refl _ _).alloc (Nat.le_refl _) _
  have HS0:Hid (w.heap.size+1≤w0.heap.size):=by rw [←hw0];show _≤_;simp
  clear hw0 e1
  go_loopw [3,4] (fun a x wr=>∃ (y:Nat) (d:List Nat),a=.int .u64 (y:Int)∧d++ld y=ld u∧Own wr 3 1 x d.length (nats d)∧(∀ k,x.ownBlock=some k→w.heap.size+1≤k)∧Below (w.heap.size+1) w0 wr) (fun a _ _=>(intOf a).toNat)
  case atStart=>exact ⟨u,[],rfl,rfl,Own.nil _ _ _,zfJ3,Below.refl _ _⟩
  case round =>
   obtain ⟨y,d,rfl,hd,how,hfr,hb⟩:=hrel
   obtain ⟨p4,c4,rfl,hc41,hc42⟩:=own_form1 how
   have hdl:d.length≤19:=by
    have h1:=ld_len_le u 19 HU.out
    rw [←hd,List.length_append] at h1
    omega
   have hy64:y < 18446744073709551616:=by
    exact zyeu
   have HD:=Lib.hid hd
   have HW:=Lib.hid how
   have HF:=Lib.hid hfr
   have HB:=Lib.hid hb
   rcases Nat.eq_zero_or_pos y with h0|hpos
   ·subst h0
    have hd2:Hid (d=ld u):=by show _=_;rw [←HD.out,ld_zero,List.append_nil]
    have HSG:Hid (Calls Tryz.prog 120 #[.bool true,.slice p4 d.length c4] wr fun e w'=>∃ v',e=.returned v'∧IsNum w' (fun k=>w.heap.size < k) v' n∧Below wr.heap.size wr w'):=by
     have h1:=sign_any wr (fun k=>w.heap.size < k) true (.slice p4 d.length c4) d (by rw [hd2.out];exact ld_D10 u) (how.sl fun k hk=>hfr k hk) zTbe
     have h3:vd d=u:=by rw [hd2.out,vd_ld]
     rw [h3] at h1
     have h2:sgn true (u:Int)=n:=by rw [←HZ.out];congr 1;exact (decide_eq_true hneg).symm
     rw [h2] at h1
     exact h1
    have HRB:=zWY1
    clear hd how hfr hb HD HW HF hy64
    go_wp2_with (first
     | (go_at_call 120;refine HSG.out.mono ?_;rintro e w2 ⟨v2,rfl,h2,hb2⟩;obtain ⟨dv2,rfl,h3⟩:=h2;obtain ⟨p3,cap3,rfl,hd31,hd32⟩:=h3.form;have HRB2:=Lib.hid (HRB.out.below hb2);
        have hc0:w2.cell? ⟨w.heap.size,0,none⟩=some (.bool false):=HRB2.out.cell 0;have hc1:w2.cell? ⟨w.heap.size,1,none⟩=some (.slice none 0 0):=HRB2.out.cell 1;have hf:∀ i,w2.frozen? ⟨w.heap.size,i,none⟩=false:=HRB2.out.frozen;have H3:=Lib.hid h3;clear h3))
    have HR3:=(HRB2.out.set 0 (.bool true)).set 1 (.slice p3 (ld n.natAbs).length cap3)
    have c0:=HR3.cell 0
    have c1:=HR3.cell 1
    refine bodyPost_ret (v:=.agg #[.bool true,.slice p3 (ld n.natAbs).length cap3]) (by simp [results,Tryz.results88,go_sem,c0,c1]) rfl ⟨_,rfl,⟨_,by rw [decide_eq_true hneg],?_⟩,?_⟩
    ·exact H3.out.only (((Only.refl (fun k=>k=w.heap.size) w2).setCell (p:=⟨w.heap.size,0,none⟩) (fun _=>rfl) _).setCell (p:=⟨w.heap.size,1,none⟩) (fun _=>rfl) _) (fun k h1 h2=>zTbe)
    ·have h1:=HL0.out.trans (HB.out.mono (Nat.le_succ _))
     exact zWKN
   ·have hp1:(0:Int) < y:=by omega
    exact zVxJ
 ·rw [if_neg hneg] at e1
  have hneg2:0≤n:=zTbe
  have hdn:decide (n < 0)=false:=decide_eq_false hneg
  go_enter Tryz.func88,Tryz.ntmps88
  go_wp2
  generalize hw0:w.alloc (.cells #[.bool false,.slice none 0 0] 168)=w0 at *
  have HL0:Hid (Below w.heap.size w w0):=by rw [←hw0];exact (Below.refl _ _).alloc (Nat.le_refl _) _
  have HS0:Hid (w.heap.size+1≤w0.heap.size):=by rw [←hw0];show _≤_;simp
  clear hw0 e1
  go_loopw [3,4] (fun a x wr=>∃ (y:Nat) (d:List Nat),a=.int .u64 (y:Int)∧d++ld y=ld u∧Own wr 3 1 x d.length (nats d)∧(∀ k,x.ownBlock=some k→w.heap.size+1≤k)∧Below (w.heap.size+1) w0 wr) (fun a _ _=>(intOf a).toNat)
  case atStart=>exact ⟨u,[],rfl,rfl,Own.nil _ _ _,zfJ3,Below.refl _ _⟩
  case round =>
   obtain ⟨y,d,rfl,hd,how,hfr,hb⟩:=hrel
   obtain ⟨p4,c4,rfl,hc41,hc42⟩:=own_form1 how
   have hdl:d.length≤19:=by
    have h1:=ld_len_le u 19 HU.out
    rw [←hd,List.length_append] at h1
    omega
   have hy64:y < 18446744073709551616:=by
    exact zyeu
   have HD:=Lib.hid hd
   have HW:=Lib.hid how
   have HF:=Lib.hid hfr
   have HB:=Lib.hid hb
   rcases Nat.eq_zero_or_pos y with h0|hpos
   ·subst h0
    have hd2:Hid (d=ld u):=by show _=_;rw [←HD.out,ld_zero,List.append_nil]
    have HSG:Hid (Calls Tryz.prog 120 #[.bool false,.slice p4 d.length c4] wr fun e w'=>∃ v',e=.returned v'∧IsNum w' (fun k=>w.heap.size < k) v' n∧Below wr.heap.size wr w'):=by
     have h1:=sign_any wr (fun k=>w.heap.size < k) false (.slice p4 d.length c4) d (by rw [hd2.out];exact ld_D10 u) (how.sl fun k hk=>hfr k hk) zTbe
     have h3:vd d=u:=by rw [hd2.out,vd_ld]
     rw [h3] at h1
     have h2:sgn false (u:Int)=n:=by rw [←HZ.out];congr 1;exact (decide_eq_false zTbe).symm
     rw [h2] at h1
     exact h1
    have HRB:=zWY1
    clear hd how hfr hb HD HW HF hy64
    go_wp2_with (first
     | (go_at_call 120;refine HSG.out.mono ?_;rintro e w2 ⟨v2,rfl,h2,hb2⟩;obtain ⟨dv2,rfl,h3⟩:=h2;obtain ⟨p3,cap3,rfl,hd31,hd32⟩:=h3.form;have HRB2:=Lib.hid (HRB.out.below hb2);
        have hc0:w2.cell? ⟨w.heap.size,0,none⟩=some (.bool false):=HRB2.out.cell 0;have hc1:w2.cell? ⟨w.heap.size,1,none⟩=some (.slice none 0 0):=HRB2.out.cell 1;have hf:∀ i,w2.frozen? ⟨w.heap.size,i,none⟩=false:=HRB2.out.frozen;have H3:=Lib.hid h3;clear h3))
    have HR3:=(HRB2.out.set 0 (.bool false)).set 1 (.slice p3 (ld n.natAbs).length cap3)
    have c0:=HR3.cell 0
    have c1:=HR3.cell 1
    refine bodyPost_ret (v:=.agg #[.bool false,.slice p3 (ld n.natAbs).length cap3]) (by simp [results,Tryz.results88,go_sem,c0,c1]) rfl ⟨_,rfl,⟨_,by rw [decide_eq_false (show ¬ n < 0 by omega)],?_⟩,?_⟩
    ·exact H3.out.only (((Only.refl (fun k=>k=w.heap.size) w2).setCell (p:=⟨w.heap.size,0,none⟩) (fun _=>rfl) _).setCell (p:=⟨w.heap.size,1,none⟩) (fun _=>rfl) _) (fun k h1 h2=>zTbe)
    ·have h1:=HL0.out.trans (HB.out.mono (Nat.le_succ _))
     exact zWKN
   ·have hp1:(0:Int) < y:=by omega
    exact zVxJ
theorem at_any (w:World) (B:Nat→Prop) (v:Value) (d:List Nat) (hl:Sl w B 1 v d.length (nats d)) (_:d.length≤1000000) (i:Nat) :
 Calls Tryz.prog 153 #[v,.int .i64 i] w fun e w'=>e=.returned (.int .i64 (d.getD i 0:Nat))∧w=w':=by
 by_cases h:i < d.length
 ·have e1:d.getD i 0=d[i]:=by simp [List.getD,h]
  obtain ⟨g,off,cap,rfl,hg,hc⟩:=sl_nat hl h
  rw [e1]
  clear e1 hl
  generalize (d[i]:Int)=x at *
  go_enter Tryz.func153,Tryz.ntmps153
  exact zWFb
 ·have e1:d.getD i 0=0:=by simp [List.getD,List.getElem?_eq_none (show d.length≤i by omega)]
  obtain ⟨p,cap,rfl,_,_⟩:=hl.form
  rw [e1]
  clear e1 hl
  go_enter Tryz.func153,Tryz.ntmps153
  exact zWFb
theorem less_any (w:World) (B B':Nat→Prop) (va vb:Value) (x y:Nat) (ha:Sl w B 1 va (ld x).length (nats (ld x))) (hb:Sl w B' 1 vb (ld y).length (nats (ld y))) (hla:(ld x).length≤1000000) (hlb:(ld y).length≤1000000) :
 Calls Tryz.prog 122 #[va,vb] w fun e w'=>e=.returned (.bool (decide (x < y)))∧Below w.heap.size w w':=by
 obtain ⟨pa,ca,rfl,hc1,hc2⟩:=ha.form
 obtain ⟨pb,cb,rfl,hc3,hc4⟩:=hb.form
 have HL:=Lib.hid (fun h:(ld x).length < (ld y).length=>ld_len_lt h)
 have HG:=Lib.hid (fun h:(ld y).length < (ld x).length=>ld_len_lt h)
 have HV:Hid (∀ i,i < (ld x).length→i < (ld y).length→(ld x).drop (i+1)=(ld y).drop (i+1)→(ld x).getD i 0≠(ld y).getD i 0→((ld x).getD i 0 < (ld y).getD i 0↔vd (ld x) < vd (ld y))):=fun i h1 h2 h3 h4=>by
  have e1:(ld x).getD i 0=(ld x)[i]:=by simp [List.getD,h1]
  have e2:(ld y).getD i 0=(ld y)[i]:=by simp [List.getD,h2]
  rw [e1,e2] at h4 ⊢
  exact vd_less (ld x) (ld y) (ld_D10 x) (ld_D10 y) i h1 h2 h3 h4
 have HE:Hid (ld x=ld y→x=y):=fun h=>by have:=congrArg vd h;rwa [vd_ld,vd_ld] at this
 have HX:=Lib.hid (vd_ld x)
 have HY:=Lib.hid (vd_ld y)
 have HA:=Lib.hid ha
 have HB:=Lib.hid hb
 clear ha hb
 generalize ld x=a at *
 generalize ld y=b at *
 generalize hr:decide (x < y)=r
 have HR:=Lib.hid hr
 clear hr
 generalize hna:a.length=na at *
 generalize hnb:b.length=nb at *
 have HNA:=Lib.hid hna
 have HNB:=Lib.hid hnb
 clear hna hnb
 by_cases hne:na=nb
 ·subst hne
  go_enter Tryz.func122,Tryz.ntmps122
  go_wp2
  go_loopw [5] (fun i wr=>∃ j:Nat,i=.int .i64 ((j:Int) - 1)∧j≤na∧a.drop j=b.drop j∧Below w.heap.size w wr) (fun i _=>(intOf i+1).toNat)
  case atStart=>exact ⟨na,rfl,Nat.le_refl _,by rw [List.drop_of_length_le (by rw [HNA.out];exact Nat.le_refl _),List.drop_of_length_le (by rw [HNB.out];exact Nat.le_refl _)],Below.refl _ _⟩
  case round =>
   obtain ⟨j,rfl,hj,hd,hbw⟩:=hrel
   have HD:=Lib.hid hd
   have HW:=Lib.hid hbw
   clear hd
   rcases Nat.eq_zero_or_pos j with rfl|hpos
   ·have hxy:x=y:=by
     apply HE.out
     have:=HD.out
     rwa [List.drop_zero,List.drop_zero] at this
    subst hxy
    obtain rfl:r=false:=by rw [←HR.out];exact decide_eq_false zTbe
    clear hbw
    go_wp2
    go_ret
    exact ⟨rfl,HW.out⟩
   ·obtain ⟨i,rfl⟩:∃ i,j=i+1:=⟨j - 1,zTbe⟩
    have hia:i < a.length:=by rw [HNA.out];omega
    have hib:i < b.length:=by rw [HNB.out];omega
    have ha2:=HA.out.below HW.out
    have hb2:=HB.out.below HW.out
    have hvv:=HV.out i zTbe zTbe HD.out
    rw [←HNA.out] at ha2
    rw [show na=b.length from HNB.out.symm] at hb2
    obtain ⟨g,off,cap',hv1,hg,hca⟩:=sl_nat ha2 hia
    obtain ⟨g',off',cap'',hv2,hg',hcb⟩:=sl_nat hb2 hib
    cases hv1
    cases hv2
    have HN:Hid (a[i]=b[i]→a.drop i=b.drop i):=fun h=>by rw [List.drop_eq_getElem_cons hia,List.drop_eq_getElem_cons hib,h,HD.out]
    have ea:a.getD i 0=a[i]:=by simp [List.getD,hia]
    have eb:b.getD i 0=b[i]:=by simp [List.getD,hib]
    rw [HX.out,HY.out,ea,eb] at hvv
    have HVV:=Lib.hid hvv
    clear hbw ha2 hb2 hvv ea eb
    generalize a[i]=p at *
    generalize b[i]=q at *
    by_cases hpq:p=q
    ·subst hpq
     have HN2:=Lib.hid (HN.out rfl)
     clear HN HVV
     go_wp2
     go_region
     go_wp2
     go_roundw
     case rel=>exact ⟨i,z3KH,zTbe,HN2.out,HW.out.drew⟩
     case measure=>(simp [intOf])<;>omega
    ·have hne2:((p:Int) == q)=false:=by rw [beq_eq_false_iff_ne];omega
     have hr:decide (p < q)=r:=by
      rw [←HR.out]
      exact decide_eq_decide.2 (HVV.out hpq)
     clear HN HVV
     go_wp2
     go_region
     go_wp2
     go_region
     go_wp2
     go_ret
     exact ⟨rfl,HW.out.drew.drew⟩
 ·have hne2:((na:Int) == nb)=false:=by rw [beq_eq_false_iff_ne];omega
  have hr:decide (na < nb)=r:=by
   rw [←HR.out]
   apply decide_eq_decide.2
   constructor
   ·intro h;exact HL.out h
   ·intro h
    rcases Nat.lt_or_ge na nb with h2|h2
    ·omega
    ·have:=HG.out zTbe;omega
  go_enter Tryz.func122,Tryz.ntmps122
  exact zI6W
theorem vd_push (d:List Nat) (x:Nat):vd (d++[x])=vd d+10 ^ d.length*x:=by rw [vd_append];simp [vd]
theorem add_step {d a b:List Nat} {k c x y:Nat} (hd:d.length=k) (h:vd d+10 ^ k*c=vd (a.take k)+vd (b.take k)) (hx:x=a.getD k 0) (hy:y=b.getD k 0) :
 vd (d++[(x+y+c) % 10])+10 ^ (k+1)*((x+y+c) / 10)=vd (a.take (k+1))+vd (b.take (k+1)):=by
 subst hx
 subst hy
 rw [vd_push,vd_next,vd_next,hd,Nat.pow_succ]
 generalize a.getD k 0=x at *
 generalize b.getD k 0=y at *
 have e:x+y+c=(x+y+c) % 10+10*((x+y+c) / 10):=zTbe
 have e2:10 ^ k*(x+y+c)=10 ^ k*((x+y+c) % 10)+10 ^ k*10*((x+y+c) / 10):=by
  conv=>lhs;rw [e]
  rw [Nat.mul_add,Nat.mul_assoc]
 rw [Nat.mul_add,Nat.mul_add] at e2
 omega
theorem add_num (w:World) (va vb:Value) (a b:List Nat) (hda:D10 a) (hdb:D10 b) (ha:Sl w (fun _=>True) 1 va a.length (nats a)) (hb:Sl w (fun _=>True) 1 vb b.length (nats b)) (hla:a.length≤10000) (hlb:b.length≤10000) :
 Calls Tryz.prog 121 #[va,vb] w fun e w'=>∃ v' d,e=.returned v'∧D10 d∧vd d=vd a+vd b∧d.length≤10001∧Sl w' (fun k=>w.heap.size≤k) 1 v' d.length (nats d)∧Below w.heap.size w w':=by
 obtain ⟨pa,ca,rfl,hc1,hc2⟩:=ha.form
 obtain ⟨pb,cb,rfl,hc3,hc4⟩:=hb.form
 have HA:Hid (∀ w',Below w.heap.size w w'→∀ i:Nat,Calls Tryz.prog 153 #[.slice pa a.length ca,.int .i64 i] w' fun e w2=>e=.returned (.int .i64 (a.getD i 0:Nat))∧w'=w2):=fun w' h i=>at_any w' _ _ a (ha.below h) zTbe i
 have HB:=zBxj
 have HXA:=Lib.hid (fun i=>hda.getD i)
 have HXB:=Lib.hid (fun i=>hdb.getD i)
 clear ha hb hda hdb
 go_enter Tryz.func121,Tryz.ntmps121
 go_wp2
 go_loopw [5,6,7] (fun o cy i wr=>∃ (k c:Nat) (d:List Nat),cy=.int .i64 c∧i=.int .i64 k∧d.length=k∧D10 d∧c≤1∧vd d+10 ^ k*c=vd (a.take k)+vd (b.take k)∧(k≤max a.length b.length∨c=0∧k≤max a.length b.length+1)∧Own wr 3 1 o k (nats d)∧(∀ q,o.ownBlock=some q→w.heap.size≤q)∧Below w.heap.size w wr) (fun _ _ i _=>max a.length b.length+1 - (intOf i).toNat)
 case atStart=>exact ⟨0,0,[],rfl,rfl,rfl,by intro x hx;simp at hx,zTbe,by simp [vd],.inl zTbe,Own.nil _ _ _,zfJ3,Below.refl _ _⟩
 case round =>
  obtain ⟨k,c,d,rfl,rfl,hdk,hd,hc,hv,hkm,how,hfr,hbw⟩:=hrel
  obtain ⟨p5,c5,rfl,hc51,hc52⟩:=own_form1 how
  have HD:=Lib.hid hd
  have HV:=Lib.hid hv
  have HW:=Lib.hid how
  have HF:=Lib.hid hfr
  have HBW:=Lib.hid hbw
  have HDK:=Lib.hid hdk
  have HAX:=Lib.hid (HA.out wr hbw k)
  have HBX:=Lib.hid (HB.out wr hbw k)
  have hx:=HXA.out k
  have hy:=HXB.out k
  obtain ⟨x,hxe⟩:∃ x,x=a.getD k 0:=⟨_,rfl⟩
  obtain ⟨y,hye⟩:∃ y,y=b.getD k 0:=⟨_,rfl⟩
  rw [←hxe] at hx HAX
  rw [←hye] at hy HBX
  have HST:=Lib.hid (add_step hdk hv hxe hye)
  obtain ⟨z,hz⟩:∃ z:Nat,z=x+y+c:=⟨_,rfl⟩
  rw [←hz] at HST
  have hzi:(x:Int)+y+c=z:=zTbe
  have hk10:k≤10001:=zTbe
  have HKM:=Lib.hid hkm
  have HX0:Hid (a.length≤k→x=0):=fun h=>by rw [hxe];simp [List.getD,List.getElem?_eq_none h]
  have HY0:Hid (b.length≤k→y=0):=fun h=>by rw [hye];simp [List.getD,List.getElem?_eq_none h]
  clear hd hv how hfr hbw hxe hye hkm hdk
  by_cases hex:k < a.length∨k < b.length∨0 < c
  ·have hz19:z≤19:=by omega
   have hc3:(k < a.length)∨(a.length≤k∧k < b.length)∨(a.length≤k∧b.length≤k∧0 < c):=zTbe
   have HEX:=Lib.hid hex
   have hk2:k≤max a.length b.length:=by have:=HKM.out;omega
   have HK2:=Lib.hid hk2
   have HZ:=Lib.hid hz
   have e9:((z % 10:Nat):Int)=(z:Int) % 10:=zTbe
   have ho1:=HW.out.alloc (.cells #[.int .i64 ((z:Int) % 10)] 3)
   have hs1:=one_int wr (z % 10)
   rw [e9] at hs1
   clear hex hz e9 hk2
   have fin:Hid (∀ v1 w2,Own w2 3 1 v1 (k+1) (nats d++[.int .i64 ((z:Int) % 10)])→Only (fun q=>(Value.slice p5 k c5).ownBlock=some q) (wr.alloc (.cells #[.int .i64 ((z:Int) % 10)] 3)) w2 →
    (v1.ownBlock=(Value.slice p5 k c5).ownBlock∨v1.ownBlock=some (wr.alloc (.cells #[.int .i64 ((z:Int) % 10)] 3)).heap.size) →
    ∃ (k' c':Nat) (d':List Nat),Value.int .i64 ((z:Int) / 10)=.int .i64 c'∧Value.int .i64 ((k:Int)+1)=.int .i64 k'∧d'.length=k'∧D10 d'∧c'≤1∧vd d'+10 ^ k'*c'=vd (a.take k')+vd (b.take k')∧(k'≤max a.length b.length∨c'=0∧k'≤max a.length b.length+1)∧Own w2 3 1 v1 k' (nats d')∧(∀ q,v1.ownBlock=some q→w.heap.size≤q)∧Below w.heap.size w w2):=fun v1 w2 g1 g2 g3=>by
    have e9:((z % 10:Nat):Int)=(z:Int) % 10:=zTbe
    obtain ⟨k1,k2,k3,k4⟩:=push_post (x:=z % 10) HBW.out.size HF.out (by rw [e9,HDK.out];exact g1) (by rw [e9];exact g2) (by rw [e9];exact g3)
    rw [List.length_append,HDK.out] at k1
    refine ⟨k+1,z / 10,d++[z % 10],by congr 1,by congr 1,by rw [List.length_append,HDK.out];rfl,HD.out.append (by intro q hq;rw [List.mem_singleton.1 hq];omega),zTbe,HST.out,?_,k1,k3,HBW.out.trans k4⟩
    have h5:=HK2.out
    have h6:=HX0.out
    have h7:=HY0.out
    have h8:=HZ.out
    by_cases h9:k+1≤max a.length b.length
    ·exact .inl h9
    ·have h10:=h6 zTbe
     have h11:=h7 zTbe
     exact .inr ⟨zTbe,zTbe⟩
   rcases hc3 with h1|⟨h1,h2⟩|⟨h1,h2,h3⟩
   all_goals
    go_wp2_with (first
     | (go_at_call 153;refine HAX.out.mono ?_;clear HAX;rintro e w2 ⟨rfl,rfl⟩)
     | (go_at_call 153;refine HBX.out.mono ?_;clear HBX;rintro e w2 ⟨rfl,rfl⟩)
     | (at_builtin;refine wpList_app rfl _ _ rfl elemInt zdhv ho1 zdhv hs1 zefz zTbe ?_;intro v1 w2 g1 g2 g3 g4 g5;clear hs1 ho1;
        have FIN:=Lib.hid (fin.out v1 w2 g1 g2 g3);clear g1 g2 g3 g4 g5))
    go_roundw
    case rel=>exact FIN.out
    case measure =>
     have h5:=HK2.out
     show max a.length b.length+1 - ((k:Int)+1).toNat < max a.length b.length+1 - (k:Int).toNat
     omega
  ·have hla2:a.length≤k:=by omega
   have hlb2:b.length≤k:=zTbe
   obtain rfl:c=0:=zTbe
   have hf:Hid (vd d=vd a+vd b):=by
    have:=HV.out
    rw [Nat.mul_zero,List.take_of_length_le hla2,List.take_of_length_le hlb2] at this
    exact this
   clear hzi hz HST hex
   go_wp2
   go_ret
   refine ⟨_,rfl,d,HD.out,hf.out,by rw [HDK.out];exact hk10,?_,HBW.out⟩
   rw [HDK.out]
   exact HW.out.sl HF.out
theorem sub_step {d a b:List Nat} {k c x y z:Nat} (hd:d.length=k) (h:vd d+vd (b.take k)=vd (a.take k)+10 ^ k*c) (hx:x=a.getD k 0) (hy:y=b.getD k 0) (hz:z+y+c=10+x) (hz2:z≤19) :
 vd (d++[z % 10])+vd (b.take (k+1))=vd (a.take (k+1))+10 ^ (k+1)*(1 - z / 10):=by
 subst hx
 subst hy
 rw [vd_push,vd_next,vd_next,hd,Nat.pow_succ]
 generalize a.getD k 0=x at *
 generalize b.getD k 0=y at *
 have e:z % 10+y+c=x+10*(1 - z / 10):=zTbe
 have e2:10 ^ k*(z % 10)+10 ^ k*y+10 ^ k*c=10 ^ k*x+10 ^ k*10*(1 - z / 10):=by
  rw [Nat.mul_assoc,←Nat.mul_add,←Nat.mul_add,←Nat.mul_add,e]
 omega
theorem sub_num (w:World) (va vb:Value) (a b:List Nat) (hda:D10 a) (hdb:D10 b) (ha:Sl w (fun _=>True) 1 va a.length (nats a)) (hb:Sl w (fun _=>True) 1 vb b.length (nats b)) (hla:a.length≤10000) (hlb:b.length≤a.length) (hba:vd b≤vd a) :
 Calls Tryz.prog 123 #[va,vb] w fun e w'=>∃ v' d,e=.returned v'∧D10 d∧vd d=vd a - vd b∧d.length≤10001∧Sl w' (fun k=>w.heap.size≤k) 1 v' d.length (nats d)∧Below w.heap.size w w':=by
 obtain ⟨pa,ca,rfl,hc1,hc2⟩:=ha.form
 obtain ⟨pb,cb,rfl,hc3,hc4⟩:=hb.form
 have HB:=zBxj
 have HA:=Lib.hid ha
 have HXA:=Lib.hid (fun i=>hda.getD i)
 have HXB:=Lib.hid (fun i=>hdb.getD i)
 have HBA:=Lib.hid hba
 have HLB:=Lib.hid hlb
 clear ha hb hda hdb hba
 go_enter Tryz.func123,Tryz.ntmps123
 go_wp2
 go_loopw [5,6,7] (fun o cy i wr=>∃ (k c:Nat) (d:List Nat),cy=.int .i64 c∧i=.int .i64 k∧d.length=k∧D10 d∧c≤1∧vd d+vd (b.take k)=vd (a.take k)+10 ^ k*c∧k≤a.length∧Own wr 3 1 o k (nats d)∧(∀ q,o.ownBlock=some q→w.heap.size≤q)∧Below w.heap.size w wr) (fun _ _ i _=>a.length - (intOf i).toNat)
 case atStart=>exact ⟨0,0,[],rfl,rfl,rfl,by intro x hx;simp at hx,zTbe,by simp [vd],zTbe,Own.nil _ _ _,zfJ3,Below.refl _ _⟩
 case round =>
  obtain ⟨k,c,d,rfl,rfl,hdk,hd,hc,hv,hkm,how,hfr,hbw⟩:=hrel
  obtain ⟨p5,c5,rfl,hc51,hc52⟩:=own_form1 how
  have HD:=Lib.hid hd
  have HV:=Lib.hid hv
  have HW:=Lib.hid how
  have HF:=Lib.hid hfr
  have HBW:=Lib.hid hbw
  have HDK:=Lib.hid hdk
  by_cases hka:k < a.length
  ·have HBX:Hid (∀ w',Below wr.heap.size wr w'→Calls Tryz.prog 153 #[.slice pb b.length cb,.int .i64 k] w' fun e w2=>e=.returned (.int .i64 (b.getD k 0:Nat))∧w'=w2):=fun w' h=>HB.out w' (hbw.trans (h.mono hbw.size)) k
   have hx:=HXA.out k
   have hy:=HXB.out k
   have hax:a.getD k 0=a[k]:=by simp [List.getD,hka]
   obtain ⟨g,off,cap',hv1,hg,hca⟩:=sl_nat (HA.out.below HBW.out) hka
   cases hv1
   rw [←hax] at hca
   obtain ⟨x,hxe⟩:∃ x,x=a.getD k 0:=⟨_,rfl⟩
   obtain ⟨y,hye⟩:∃ y,y=b.getD k 0:=⟨_,rfl⟩
   rw [←hxe] at hx hca
   rw [←hye] at hy HBX
   obtain ⟨z,hz⟩:∃ z:Nat,z+y+c=10+x:=⟨10+x - y - c,zTbe⟩
   have hz19:z≤19:=zTbe
   have HST:=Lib.hid (sub_step hdk hv hxe hye hz hz19)
   have hzi:(10:Int)+x - y - c=z:=zTbe
   have e9:((z % 10:Nat):Int)=(z:Int) % 10:=zTbe
   have e8:((1 - z / 10:Nat):Int)=1 - (z:Int) / 10:=zTbe
   have ho1:=HW.out.drew.alloc (.cells #[.int .i64 ((z:Int) % 10)] 3)
   have hs1:=one_int wr.drew (z % 10)
   rw [e9] at hs1
   have fin:Hid (∀ v1 w2,Own w2 3 1 v1 (k+1) (nats d++[.int .i64 ((z:Int) % 10)])→Only (fun q=>(Value.slice p5 k c5).ownBlock=some q) (wr.drew.alloc (.cells #[.int .i64 ((z:Int) % 10)] 3)) w2 →
    (v1.ownBlock=(Value.slice p5 k c5).ownBlock∨v1.ownBlock=some (wr.drew.alloc (.cells #[.int .i64 ((z:Int) % 10)] 3)).heap.size) →
    ∃ (k' c':Nat) (d':List Nat),Value.int .i64 (1 - (z:Int) / 10)=.int .i64 c'∧Value.int .i64 ((k:Int)+1)=.int .i64 k'∧d'.length=k'∧D10 d'∧c'≤1∧vd d'+vd (b.take k')=vd (a.take k')+10 ^ k'*c'∧k'≤a.length∧Own w2 3 1 v1 k' (nats d')∧(∀ q,v1.ownBlock=some q→w.heap.size≤q)∧Below w.heap.size w w2):=fun v1 w2 g1 g2 g3=>by
    obtain ⟨k1,k2,k3,k4⟩:=push_post (x:=z % 10) HBW.out.drew.size HF.out (by rw [e9,HDK.out];exact g1) (by rw [e9];exact g2) (by rw [e9];exact g3)
    rw [List.length_append,HDK.out] at k1
    exact ⟨k+1,1 - z / 10,d++[z % 10],by rw [e8],by congr 1,by rw [List.length_append,HDK.out];rfl,HD.out.append (by intro q hq;rw [List.mem_singleton.1 hq];omega),zTbe,HST.out,zTbe,k1,k3,HBW.out.drew.trans k4⟩
   clear hdk hd hv how hfr hbw hxe hye hkm hax e8 e9 hz
   go_wp2
   refine wp_region_lit_plan [] [(0,0),(1,0),(2,0),(5,0),(6,0),(9,0),(3,2),(4,0),(7,3),(8,0),(10,0),(11,0)] (fun q=>q=g) zyVB zyVB (fun c a d v w h=>zx0I) ?_
   go_wp2_with (first
    | (refine stp ?_)
    | (go_at_call 153;refine (HBX.out _ (Below.drew (Below.refl _ _))).mono ?_;clear HBX;rintro e w2 ⟨rfl,rfl⟩)
    | (at_builtin;refine wpList_app rfl _ _ rfl elemInt zdhv ho1 zdhv hs1 zefz zTbe ?_;intro v1 w2 g1 g2 g3 g4 g5;clear hs1 ho1;
       have FIN:=Lib.hid (fin.out v1 w2 g1 g2 g3);clear g1 g2 g3 g4 g5))
   refine ⟨FIN.out,?_⟩
   show a.length - ((k:Int)+1).toNat < a.length - (k:Int).toNat
   omega
  ·obtain rfl:k=a.length:=by omega
   have hf:Hid (vd d=vd a - vd b):=by
    have h1:=HV.out
    rw [List.take_length,List.take_of_length_le HLB.out] at h1
    have h2:=vd_lt d HD.out
    rw [HDK.out] at h2
    have h3:=HBA.out
    have h4:c=0:=by
     rcases Nat.eq_zero_or_pos c with h|h
     ·exact h
     ·obtain rfl:c=1:=by omega
      rw [Nat.mul_one] at h1
      omega
    subst h4
    rw [Nat.mul_zero] at h1
    show _=_
    omega
   clear hdk hd hv how hfr hbw hkm
   go_wp2
   go_ret
   refine ⟨_,d,rfl,HD.out,hf.out,by rw [HDK.out];omega,?_,HBW.out⟩
   rw [HDK.out]
   exact HW.out.sl HF.out
theorem IsNum.open' {w:World} {B:Nat→Prop} {v:Value} {z:Int} (h:IsNum w B v z) :
 ∃ (s:Bool) (x:Nat) (p:Option Addr) (c:Nat),v=.agg #[.bool s,.slice p (ld x).length c]∧Sl w B 1 (.slice p (ld x).length c) (ld x).length (nats (ld x))∧z=sgn s x∧z.natAbs=x∧(ld x).length≤c∧c≤9223372036854775807:=by
 obtain ⟨dv,rfl,hs⟩:=h
 obtain ⟨p,c,rfl,h1,h2⟩:=hs.form
 refine ⟨decide (z < 0),z.natAbs,p,c,rfl,hs,?_,rfl,h1,h2⟩
 unfold sgn
 by_cases h:z < 0
 ·rw [decide_eq_true h,if_pos rfl];omega
 ·rw [decide_eq_false h,if_neg zcX3];omega
theorem Sl.weak {w:World} {B B':Nat→Prop} {sz:Nat} {v:Value} {n:Nat} {cs:List Value} (h:Sl w B sz v n cs) (hB:∀ k,B k→B' k):Sl w B' sz v n cs :=
 h.mono (Nat.le_refl _) (fun _ _ _=>rfl) (fun k h1 _=>hB k h1)
theorem IsNum.weak {w:World} {B B':Nat→Prop} {v:Value} {z:Int} (h:IsNum w B v z) (hB:∀ k,B k→B' k):IsNum w B' v z:=by
 obtain ⟨dv,h1,h2⟩:=h
 exact ⟨dv,h1,Sl.weak h2 hB⟩
theorem boxes3 (w:World) (A B C:List Value) (t:TypeId) :
 Blk (((w.alloc (.cells A.toArray t)).alloc (.cells B.toArray t)).alloc (.cells C.toArray t)) w.heap.size t A ∧
 Blk (((w.alloc (.cells A.toArray t)).alloc (.cells B.toArray t)).alloc (.cells C.toArray t)) (w.heap.size+1) t B ∧
 Blk (((w.alloc (.cells A.toArray t)).alloc (.cells B.toArray t)).alloc (.cells C.toArray t)) (w.heap.size+1+1) t C ∧
 Below w.heap.size w (((w.alloc (.cells A.toArray t)).alloc (.cells B.toArray t)).alloc (.cells C.toArray t)) ∧
 (((w.alloc (.cells A.toArray t)).alloc (.cells B.toArray t)).alloc (.cells C.toArray t)).heap.size=w.heap.size+3:=by
 have h1:=Blk.new w t A
 have h2:=Blk.new (w.alloc (.cells A.toArray t)) t B
 have h3:=Blk.new ((w.alloc (.cells A.toArray t)).alloc (.cells B.toArray t)) t C
 have e1:=znR5
 have e2:((w.alloc (.cells A.toArray t)).alloc (.cells B.toArray t)).heap.size=w.heap.size+1+1:=zPXO
 rw [e1] at h2
 rw [e2] at h3
 refine ⟨(h1.alloc _).alloc _,h2.alloc _,h3,?_,zPXO⟩
 exact (((Below.refl _ _).alloc (Nat.le_refl _) _).alloc zTbe _).alloc zTbe _
theorem plus_num (w:World) (va vb:Value) (z1 z2:Int) (ha:IsNum w (fun _=>True) va z1) (hb:IsNum w (fun _=>True) vb z2) (hla:(ld z1.natAbs).length≤5000) (hlb:(ld z2.natAbs).length≤5000) :
 Calls Tryz.prog 89 #[va,vb] w fun e w'=>∃ v',e=.returned v'∧IsNum w' (fun k=>w.heap.size≤k) v' (z1+z2)∧Below w.heap.size w w':=by
 obtain ⟨sa,x,pa,ca,rfl,hsa,hz1,hx,hc1,hc2⟩:=ha.open'
 obtain ⟨sb,y,pb,cb,rfl,hsb,hz2,hy,hc3,hc4⟩:=hb.open'
 rw [hx] at hla
 rw [hy] at hlb
 have HADD:Hid (∀ w',Below w.heap.size w w'→Calls Tryz.prog 121 #[.slice pa (ld x).length ca,.slice pb (ld y).length cb] w' fun e w2=>∃ v' d,e=.returned v'∧D10 d∧vd d=x+y∧d.length≤10001∧Sl w2 (fun k=>w'.heap.size≤k) 1 v' d.length (nats d)∧Below w'.heap.size w' w2):=fun w' h=>by
  have:=add_num w' _ _ (ld x) (ld y) (ld_D10 x) (ld_D10 y) (hsa.below h) (hsb.below h) zTbe zTbe
  rwa [vd_ld,vd_ld] at this
 have HLS:Hid (∀ w',Below w.heap.size w w'→Calls Tryz.prog 122 #[.slice pa (ld x).length ca,.slice pb (ld y).length cb] w' fun e w2=>e=.returned (.bool (decide (x < y)))∧Below w'.heap.size w' w2):=fun w' h =>
  less_any w' _ _ _ _ x y (hsa.below h) (hsb.below h) zTbe zTbe
 have HSG:=Lib.hid (fun (w':World) (B:Nat→Prop) (s:Bool) (v:Value) (d:List Nat) (h1:D10 d) (h2:Sl w' B 1 v d.length (nats d)) (h3:d.length≤10001)=>sign_any w' B s v d h1 h2 zTbe)
 have HSA:Hid (y≤x→Hid (∀ w',Below w.heap.size w w'→Calls Tryz.prog 123 #[.slice pa (ld x).length ca,.slice pb (ld y).length cb] w' fun e w2=>∃ v' d,e=.returned v'∧D10 d∧vd d=x - y∧d.length≤10001∧Sl w2 (fun k=>w'.heap.size≤k) 1 v' d.length (nats d)∧Below w'.heap.size w' w2)):=fun hle w' h=>by
  have:=sub_num w' _ _ (ld x) (ld y) (ld_D10 x) (ld_D10 y) (hsa.below h) (hsb.below h) zTbe (ld_len_mono hle) (by rw [vd_ld,vd_ld];exact hle)
  rwa [vd_ld,vd_ld] at this
 have HSB:Hid (x < y→Hid (∀ w',Below w.heap.size w w'→Calls Tryz.prog 123 #[.slice pb (ld y).length cb,.slice pa (ld x).length ca] w' fun e w2=>∃ v' d,e=.returned v'∧D10 d∧vd d=y - x∧d.length≤10001∧Sl w2 (fun k=>w'.heap.size≤k) 1 v' d.length (nats d)∧Below w'.heap.size w' w2)):=fun hlt w' h=>by
  have:=sub_num w' _ _ (ld y) (ld x) (ld_D10 y) (ld_D10 x) (hsb.below h) (hsa.below h) zTbe (ld_len_mono (Nat.le_of_lt hlt)) (by rw [vd_ld,vd_ld];exact Nat.le_of_lt hlt)
  rwa [vd_ld,vd_ld] at this
 cases sa<;>cases sb
 ·have HZ:Hid (sgn false ((x+y:Nat):Int)=z1+z2):=by
   show _=_
   rw [hz1,hz2];unfold sgn;simp
  have HOP:=HADD
  clear ha hb hz1 hz2 hx hy hsa hsb
  generalize z1+z2=z at *
  generalize (ld x).length=la at *
  generalize (ld y).length=lb at *
  obtain ⟨b0,b1,b2,hb4,hs4⟩:=boxes3 w [.bool false,.slice pa la ca] [.bool false,.slice pb lb cb] [.bool false,.slice none 0 0] 168
  go_enter Tryz.func89,Tryz.ntmps89
  go_wp2
  generalize (((w.alloc (.cells #[.bool false,.slice pa la ca] 168)).alloc (.cells #[.bool false,.slice pb lb cb] 168)).alloc (.cells #[.bool false,.slice none 0 0] 168))=w4 at *
  have c00:=zPCU
  have c01:=z4uV
  have c10:=zsv8
  have c11:=zAdW
  have B0:=Lib.hid b0
  have B1:=Lib.hid b1
  have B2:=Lib.hid b2
  have HB4:=Lib.hid hb4
  have HS4:=Lib.hid hs4
  have hl0:=z4y4
  have hl1:=zzGx
  clear b0 b1 b2 hb4 hs4
  have HBX:=HB4
  have BX:=B2
  have HSX:=Lib.hid (Nat.le_refl w4.heap.size)
  refine wp_region_lit_plan [] [(0,0),(2,0),(4,0),(1,2),(3,1),(5,1),(6,3),(7,4),(8,4)] (fun k=>k < w4.heap.size) zyVB zyVB (fun c a d v w h=>zx0I) ?_
  go_wp2_with (first
   | (refine stp ?_)
   | (go_at_call 121;refine (HOP.out _ (HBX.out.drew)).mono ?_;clear HOP;rintro e w5 ⟨v5,d5,rfl,h51,h52,h53,h54,hb5⟩;obtain ⟨p5,c5,rfl,h55,h56⟩:=h54.form;
      have hag:Agree (fun k=>k < w4.heap.size) w4.drew w5:=agree_bel hb5 (fun k hk=>hk);
      have HSG5:=Lib.hid (HSG.out w5 _ false _ d5 h51 h54 h53);rw [h52,HZ.out] at HSG5;
      have B25:=Lib.hid (BX.out.drew.below hb5);have HB5:=Lib.hid hb5;clear hb5 h54 h51 h53 h52)
   | (go_at_call 120;refine HSG5.out.mono ?_;rintro e w6 ⟨v6,rfl,⟨dv6,rfl,h62⟩,hb6⟩;obtain ⟨p6,c6,rfl,h65,h66⟩:=h62.form;have H62:=Lib.hid h62;
      have hag6:Agree (fun k=>k < w4.heap.size) w5 w6:=agree_bel hb6 (fun k hk=>Nat.lt_of_lt_of_le hk HB5.out.size);
      have B26:=Lib.hid (B25.out.below hb6);
      have c20:w6.cell? ⟨w.heap.size+1+1,0,none⟩=some (.bool false):=B26.out.cell 0;
      have c21:w6.cell? ⟨w.heap.size+1+1,1,none⟩=some (.slice none 0 0):=B26.out.cell 1;
      have hf6:∀ i,w6.frozen? ⟨w.heap.size+1+1,i,none⟩=false:=B26.out.frozen;have HB6:=Lib.hid hb6;clear hb6 h62))
  exact zcuq
 ·by_cases hxy:x < y
  ·have HZ:Hid (sgn true ((y - x:Nat):Int)=z1+z2):=by
    exact zoIb
   have DXY:decide (x < y)=true:=decide_eq_true hxy
   have HOP:=HSB.out hxy
   clear ha hb hz1 hz2 hx hy hsa hsb
   generalize z1+z2=z at *
   generalize (ld x).length=la at *
   generalize (ld y).length=lb at *
   obtain ⟨b0,b1,b2,hb4,hs4⟩:=boxes3 w [.bool false,.slice pa la ca] [.bool true,.slice pb lb cb] [.bool false,.slice none 0 0] 168
   go_enter Tryz.func89,Tryz.ntmps89
   go_wp2_with fail
   generalize (((w.alloc (.cells #[.bool false,.slice pa la ca] 168)).alloc (.cells #[.bool true,.slice pb lb cb] 168)).alloc (.cells #[.bool false,.slice none 0 0] 168))=w4 at *
   have c00:=zPCU
   have c01:=z4uV
   have c10:=zIzO
   have c11:=zAdW
   have B0:=Lib.hid b0
   have B1:=Lib.hid b1
   have B2:=Lib.hid b2
   have HB4:=Lib.hid hb4
   have HS4:=Lib.hid hs4
   have hl0:=z4y4
   have hl1:=zzGx
   clear b0 b1 b2 hb4 hs4
   go_wp2_with (go_at_call 122;refine (HLS.out _ HB4.out).mono ?_;clear HLS;rintro e wl ⟨rfl,hbl⟩;rw [DXY])
   have d00:wl.cell? ⟨w.heap.size,0,none⟩=some (.bool false):=(B0.out.below hbl).cell 0
   have d01:=zE9p
   have d10:wl.cell? ⟨w.heap.size+1,0,none⟩=some (.bool true):=(B1.out.below hbl).cell 0
   exact z59K
  ·have HZ:Hid (sgn false ((x - y:Nat):Int)=z1+z2):=by
    exact zoIb
   have DXY:decide (x < y)=false:=decide_eq_false hxy
   have HOP:=HSA.out (Nat.le_of_not_lt hxy)
   clear ha hb hz1 hz2 hx hy hsa hsb
   generalize z1+z2=z at *
   generalize (ld x).length=la at *
   generalize (ld y).length=lb at *
   obtain ⟨b0,b1,b2,hb4,hs4⟩:=boxes3 w [.bool false,.slice pa la ca] [.bool true,.slice pb lb cb] [.bool false,.slice none 0 0] 168
   go_enter Tryz.func89,Tryz.ntmps89
   go_wp2_with fail
   generalize (((w.alloc (.cells #[.bool false,.slice pa la ca] 168)).alloc (.cells #[.bool true,.slice pb lb cb] 168)).alloc (.cells #[.bool false,.slice none 0 0] 168))=w4 at *
   have c00:=zPCU
   have c01:=z4uV
   have c10:=zIzO
   have c11:=zAdW
   have B0:=Lib.hid b0
   have B1:=Lib.hid b1
   have B2:=Lib.hid b2
   have HB4:=Lib.hid hb4
   have HS4:=Lib.hid hs4
   have hl0:=z4y4
   have hl1:=zzGx
   clear b0 b1 b2 hb4 hs4
   go_wp2_with (go_at_call 122;refine (HLS.out _ HB4.out).mono ?_;clear HLS;rintro e wl ⟨rfl,hbl⟩;rw [DXY])
   have d00:wl.cell? ⟨w.heap.size,0,none⟩=some (.bool false):=(B0.out.below hbl).cell 0
   have d01:=zE9p
   have d10:wl.cell? ⟨w.heap.size+1,0,none⟩=some (.bool true):=(B1.out.below hbl).cell 0
   exact zZht
 ·by_cases hxy:x < y
  ·have HZ:Hid (sgn false ((y - x:Nat):Int)=z1+z2):=by
    exact zoIb
   have DXY:decide (x < y)=true:=decide_eq_true hxy
   have HOP:=HSB.out hxy
   clear ha hb hz1 hz2 hx hy hsa hsb
   generalize z1+z2=z at *
   generalize (ld x).length=la at *
   generalize (ld y).length=lb at *
   obtain ⟨b0,b1,b2,hb4,hs4⟩:=boxes3 w [.bool true,.slice pa la ca] [.bool false,.slice pb lb cb] [.bool false,.slice none 0 0] 168
   go_enter Tryz.func89,Tryz.ntmps89
   go_wp2_with fail
   generalize (((w.alloc (.cells #[.bool true,.slice pa la ca] 168)).alloc (.cells #[.bool false,.slice pb lb cb] 168)).alloc (.cells #[.bool false,.slice none 0 0] 168))=w4 at *
   have c00:=za1f
   have c01:=z4uV
   have c10:=zsv8
   have c11:=zAdW
   have B0:=Lib.hid b0
   have B1:=Lib.hid b1
   have B2:=Lib.hid b2
   have HB4:=Lib.hid hb4
   have HS4:=Lib.hid hs4
   have hl0:=z4y4
   have hl1:=zzGx
   clear b0 b1 b2 hb4 hs4
   go_wp2_with (go_at_call 122;refine (HLS.out _ HB4.out).mono ?_;clear HLS;rintro e wl ⟨rfl,hbl⟩;rw [DXY])
   have d00:wl.cell? ⟨w.heap.size,0,none⟩=some (.bool true):=(B0.out.below hbl).cell 0
   have d01:=zE9p
   have d10:wl.cell? ⟨w.heap.size+1,0,none⟩=some (.bool false):=(B1.out.below hbl).cell 0
   exact zZht
  ·have HZ:Hid (sgn true ((x - y:Nat):Int)=z1+z2):=by
    exact zoIb
   have DXY:decide (x < y)=false:=decide_eq_false hxy
   have HOP:=HSA.out (Nat.le_of_not_lt hxy)
   clear ha hb hz1 hz2 hx hy hsa hsb
   generalize z1+z2=z at *
   generalize (ld x).length=la at *
   generalize (ld y).length=lb at *
   obtain ⟨b0,b1,b2,hb4,hs4⟩:=boxes3 w [.bool true,.slice pa la ca] [.bool false,.slice pb lb cb] [.bool false,.slice none 0 0] 168
   go_enter Tryz.func89,Tryz.ntmps89
   go_wp2_with fail
   generalize (((w.alloc (.cells #[.bool true,.slice pa la ca] 168)).alloc (.cells #[.bool false,.slice pb lb cb] 168)).alloc (.cells #[.bool false,.slice none 0 0] 168))=w4 at *
   have c00:=za1f
   have c01:=z4uV
   have c10:=zsv8
   have c11:=zAdW
   have B0:=Lib.hid b0
   have B1:=Lib.hid b1
   have B2:=Lib.hid b2
   have HB4:=Lib.hid hb4
   have HS4:=Lib.hid hs4
   have hl0:=z4y4
   have hl1:=zzGx
   clear b0 b1 b2 hb4 hs4
   go_wp2_with (go_at_call 122;refine (HLS.out _ HB4.out).mono ?_;clear HLS;rintro e wl ⟨rfl,hbl⟩;rw [DXY])
   have d00:wl.cell? ⟨w.heap.size,0,none⟩=some (.bool true):=(B0.out.below hbl).cell 0
   have d01:=zE9p
   have d10:wl.cell? ⟨w.heap.size+1,0,none⟩=some (.bool false):=(B1.out.below hbl).cell 0
   exact z59K
 ·have HZ:Hid (sgn true ((x+y:Nat):Int)=z1+z2):=by
   show _=_
   rw [hz1,hz2];unfold sgn;simp<;>omega
  have HOP:=HADD
  clear ha hb hz1 hz2 hx hy hsa hsb
  generalize z1+z2=z at *
  generalize (ld x).length=la at *
  generalize (ld y).length=lb at *
  obtain ⟨b0,b1,b2,hb4,hs4⟩:=boxes3 w [.bool true,.slice pa la ca] [.bool true,.slice pb lb cb] [.bool false,.slice none 0 0] 168
  go_enter Tryz.func89,Tryz.ntmps89
  go_wp2
  generalize (((w.alloc (.cells #[.bool true,.slice pa la ca] 168)).alloc (.cells #[.bool true,.slice pb lb cb] 168)).alloc (.cells #[.bool false,.slice none 0 0] 168))=w4 at *
  have c00:=za1f
  have c01:=z4uV
  have c10:=zIzO
  have c11:=zAdW
  have B0:=Lib.hid b0
  have B1:=Lib.hid b1
  have B2:=Lib.hid b2
  have HB4:=Lib.hid hb4
  have HS4:=Lib.hid hs4
  have hl0:=z4y4
  have hl1:=zzGx
  clear b0 b1 b2 hb4 hs4
  have HBX:=HB4
  have BX:=B2
  have HSX:=Lib.hid (Nat.le_refl w4.heap.size)
  refine wp_region_lit_plan [] [(0,0),(2,0),(4,0),(1,2),(3,1),(5,1),(6,3),(7,4),(8,4)] (fun k=>k < w4.heap.size) zyVB zyVB (fun c a d v w h=>zx0I) ?_
  go_wp2_with (first
   | (refine stp ?_)
   | (go_at_call 121;refine (HOP.out _ (HBX.out.drew)).mono ?_;clear HOP;rintro e w5 ⟨v5,d5,rfl,h51,h52,h53,h54,hb5⟩;obtain ⟨p5,c5,rfl,h55,h56⟩:=h54.form;
      have hag:Agree (fun k=>k < w4.heap.size) w4.drew w5:=agree_bel hb5 (fun k hk=>hk);
      have HSG5:=Lib.hid (HSG.out w5 _ true _ d5 h51 h54 h53);rw [h52,HZ.out] at HSG5;
      have B25:=Lib.hid (BX.out.drew.below hb5);have HB5:=Lib.hid hb5;clear hb5 h54 h51 h53 h52)
   | (go_at_call 120;refine HSG5.out.mono ?_;rintro e w6 ⟨v6,rfl,⟨dv6,rfl,h62⟩,hb6⟩;obtain ⟨p6,c6,rfl,h65,h66⟩:=h62.form;have H62:=Lib.hid h62;
      have hag6:Agree (fun k=>k < w4.heap.size) w5 w6:=agree_bel hb6 (fun k hk=>Nat.lt_of_lt_of_le hk HB5.out.size);
      have B26:=Lib.hid (B25.out.below hb6);
      have c20:w6.cell? ⟨w.heap.size+1+1,0,none⟩=some (.bool false):=B26.out.cell 0;
      have c21:w6.cell? ⟨w.heap.size+1+1,1,none⟩=some (.slice none 0 0):=B26.out.cell 1;
      have hf6:∀ i,w6.frozen? ⟨w.heap.size+1+1,i,none⟩=false:=B26.out.frozen;have HB6:=Lib.hid hb6;clear hb6 h62))
  exact zcuq
theorem boxes2 (w:World) (A C:List Value) (t:TypeId) :
 Blk ((w.alloc (.cells A.toArray t)).alloc (.cells C.toArray t)) w.heap.size t A ∧
 Blk ((w.alloc (.cells A.toArray t)).alloc (.cells C.toArray t)) (w.heap.size+1) t C ∧
 Below w.heap.size w ((w.alloc (.cells A.toArray t)).alloc (.cells C.toArray t)) ∧
 ((w.alloc (.cells A.toArray t)).alloc (.cells C.toArray t)).heap.size=w.heap.size+2:=by
 have h1:=Blk.new w t A
 have h2:=Blk.new (w.alloc (.cells A.toArray t)) t C
 exact zX62
theorem vd_drop_le (d:List Nat) (i:Nat):vd (d.drop i)≤vd d:=by
 rw [vd_split d i]
 have:vd (d.drop i)≤10 ^ i*vd (d.drop i):=Nat.le_mul_of_pos_left _ (Nat.pow_pos zTbe)
 omega
theorem of_open (w:World) (n:Int) (hn:fits n):Hid (Calls Tryz.prog 88 #[.int .i64 n] w fun e w'=>∃ p l c,e=.returned (.agg #[.bool (decide (n < 0)),.slice p l c])∧(l=(ld n.natAbs).length∧Sl w' (fun k=>w.heap.size < k) 1 (.slice p l c) l (nats (ld n.natAbs)))∧l≤20∧l≤c∧c≤9223372036854775807∧Below w.heap.size w w') :=
 (of_num w n hn).mono fun e w' ⟨v',he,⟨dv,hv,hs⟩,hb⟩=>by
  subst he
  subst hv
  obtain ⟨p,c,rfl,h1,h2⟩:=hs.form
  have h3:=ld_len_le n.natAbs 20 (by unfold fits at hn;omega)
  exact ⟨p,_,c,rfl,⟨rfl,hs⟩,h3,h1,h2,hb⟩
def msum (minus:Bool) (l:List Int):Int:=if minus then -l.sum else l.sum
theorem msum_next (minus:Bool) (l:List Int) (k:Nat) (h:k < l.length):msum minus (l.take (k+1))=msum minus (l.take k)+(if minus then -l[k] else l[k]):=by
 unfold msum
 rw [sum_next l k h]
 cases minus<;>simp<;>omega
theorem msum_small (minus:Bool) (l:List Int) (hf:∀ x∈l,fits x) (hl:l.length≤1000):(ld (msum minus l).natAbs).length≤30:=by
 apply ld_len_le
 have h:=sum_range l hf
 unfold msum
 have e:(10:Nat) ^ 30=1000000000000000000000000000000:=zcX3
 rw [e]
 split<;>omega
theorem fits_small {x:Int} (h:fits x):(ld x.natAbs).length≤30:=by
 have:=ld_len_le x.natAbs 20 (by unfold fits at h;omega)
 omega
theorem IsNum.only {w w':World} {S B:Nat→Prop} {v:Value} {z:Int} (h:IsNum w B v z) (ho:Only S w w') (hd:∀ k,B k→¬ S k):IsNum w' B v z:=by
 obtain ⟨dv,h1,h2⟩:=h
 exact ⟨dv,h1,h2.only ho hd⟩
theorem IsNum.alloc' {w:World} {B B':Nat→Prop} {v:Value} {z:Int} (h:IsNum w B v z) (o:Obj) (hB:∀ k,B k→B' k):IsNum (w.alloc o) (fun k=>B' k∧k≠w.heap.size) v z:=by
 obtain ⟨dv,h1,h2⟩:=h
 exact ⟨dv,h1,h2.mono zPXO (fun k _ hk=>heap_alloc_old w o hk) (fun k h3 h4=>⟨hB k h3,zTbe⟩)⟩
theorem IsNum.parts {w:World} {B:Nat→Prop} {v:Value} {z:Int} (h:IsNum w B v z):∃ s p n c,v=.agg #[.bool s,.slice p n c]:=by
 obtain ⟨s,x,p,c,rfl,_⟩:=h.open'
 exact ⟨s,p,_,c,rfl⟩
theorem mk_ints (w:World) (N:Nat) (h:N≤1000000) :
 (Instr.makeSlice 27 (.int .i64 (N:Int)) (.int .i64 (N:Int))).run Tryz.prog w=.ok (.slice (some ⟨w.heap.size,0,none⟩) N N) (w.alloc (.cells (nats (List.replicate N 0)).toArray 3)):=by
 obtain ⟨i,hi,hz,hsize,hby⟩:=elemInt.parts
 have hr:=run_make (P:=Tryz.prog) w 27 3 i (.int .i64 0) Tryz.underlying27 hi hz .i64 .i64 N N zTbe (Int.le_refl _) (by rw [hby];omega) zTbe
 rw [hr,hsize]
 simp only [Int.toNat_natCast,Nat.mul_one]
 have e:madeCells (Value.int .i64 0).cells N=(nats (List.replicate N 0)).toArray:=by
  apply Array.ext
  ·simp [madeCells,nats,ints]
  ·intro k h1 h2
   simp [madeCells,nats,ints,Value.cells,Nat.mod_one]
 rw [e]
structure TimesS (w wr:World) (A Bv C:List Value) (out:List Nat):Prop where
 a:Blk wr w.heap.size 168 A
 b:Blk wr (w.heap.size+1) 168 Bv
 c:Blk wr (w.heap.size+1+1) 168 C
 o:Blk wr (w.heap.size+3) 3 (nats out)
 below:Below w.heap.size w wr
theorem TimesS.drew {w wr:World} {A Bv C:List Value} {out:List Nat} (h:TimesS w wr A Bv C out):TimesS w wr.drew A Bv C out:=⟨h.a,h.b,h.c,h.o,h.below.drew⟩
theorem TimesS.set {w wr:World} {A Bv C:List Value} {out:List Nat} (h:TimesS w wr A Bv C out) (j x:Nat):TimesS w (wr.setCell ⟨w.heap.size+3,j,none⟩ (.int .i64 (x:Int))) A Bv C (out.set j x) :=
 ⟨h.a.setOther (show w.heap.size≠w.heap.size+3 by omega) _,h.b.setOther (show w.heap.size+1≠w.heap.size+3 by omega) _,h.c.setOther (show w.heap.size+1+1≠w.heap.size+3 by omega) _,
  (nats_set out j x)▸h.o.set j _,h.below.setCell (show w.heap.size≤w.heap.size+3 by omega) _⟩
theorem getD_set (out:List Nat) (j k v:Nat):(out.set j v).getD k 0=if k=j∧j < out.length then v else out.getD k 0:=by
 simp only [List.getD,List.getElem?_set]
 by_cases h1:j=k
 ·subst h1
  by_cases h2:j < out.length
  ·simp [h2]
  ·simp [h2]
 ·simp [h1,show ¬ k=j from fun h=>h1 h.symm]
theorem carry_step (out:List Nat) (m:Nat) (h:m+1 < out.length) :
 vd ((out.set (m+1) (out.getD (m+1) 0+out.getD m 0 / 10)).set m (out.getD m 0 % 10))=vd out:=by
 have e1:out.getD (m+1) 0=out[m+1]:=by simp [List.getD,h]
 have hm:m < out.length:=zTbe
 have e2:out.getD m 0=out[m]:=by simp [List.getD,hm]
 rw [e1,e2]
 have h1:=vd_set out (m+1) (out[m] / 10) h
 have hl:m < (out.set (m+1) (out[m+1]+out[m] / 10)).length:=by simpa using hm
 have e3:(out.set (m+1) (out[m+1]+out[m] / 10))[m]=out[m]:=by rw [List.getElem_set];simp
 have h2:=vd_set_sub (out.set (m+1) (out[m+1]+out[m] / 10)) m (out[m] % 10) hl (by rw [e3];omega)
 rw [e3,h1] at h2
 have e4:out[m] - out[m] % 10=10*(out[m] / 10):=zTbe
 have e5:10 ^ (m+1)=10 ^ m*10:=Nat.pow_succ ..
 rw [e4,←Nat.mul_assoc,e5] at h2
 omega
theorem D10_of_top (out:List Nat) (m:Nat) (hl:out.length=m+1) (h:∀ j,j < m→out.getD j 0 < 10) (hv:vd out < 10 ^ m):D10 out:=by
 have hs:=vd_split out m
 have hm:m < out.length:=zTbe
 have hd:=vd_drop out m hm
 rw [List.drop_of_length_le (show out.length≤m+1 by omega)] at hd
 have h0:out[m]=0:=by
  rcases Nat.eq_zero_or_pos out[m] with h0|h0
  ·exact h0
  ·have:10 ^ m*1≤10 ^ m*vd (out.drop m):=Nat.mul_le_mul_left _ (by rw [hd];omega)
   omega
 intro x hx
 obtain ⟨j,hj,rfl⟩:=List.mem_iff_getElem.1 hx
 by_cases hjm:j < m
 ·have:=h j hjm
  simpa [List.getD,hj] using this
 ·obtain rfl:j=m:=by omega
  omega
structure TAct where
 take:Bool
 lv:Value
 l:List Int
def TAct.cells (a:TAct):List Value:=[.bool a.take,a.lv]
def IsTActs (w:World) (v:Value) (acts:List TAct):Prop :=
 Sl w (fun _=>True) 2 v acts.length (acts.map TAct.cells).flatten∧∀ a∈acts,Sl w (fun _=>True) 1 a.lv a.l.length (ints a.l)∧∀ x∈a.l,fits x
theorem IsTActs.below {w w':World} {v:Value} {acts:List TAct} (h:IsTActs w v acts) (hb:Below w.heap.size w w'):IsTActs w' v acts :=
 ⟨h.1.below hb,fun a ha=>⟨(h.2 a ha).1.below hb,(h.2 a ha).2⟩⟩
theorem tcBool:Tryz.prog.cellsOf 4=1:=zyVB
theorem tcI64:Tryz.prog.cellsOf 2=1:=zyVB
theorem tcI64s:Tryz.prog.cellsOf 280=1:=zyVB
theorem sl_one' {w:World} {B:Nat→Prop} {sz:Nat} {v:Value} {n:Nat} {cs:List Value} (h:Sl w B sz v n cs):v.oneCell'=true:=by
 obtain ⟨p,cap,rfl,_⟩:=h.form
 rfl
theorem IsTActs.at {w:World} {v:Value} {acts:List TAct} (h:IsTActs w v acts) {k:Nat} (hk:k < acts.length) :
 ∃ g off cap,v=.slice (some ⟨g,off,none⟩) acts.length cap∧g < w.heap.size∧w.cell? ⟨g,off+k*2,none⟩=some (.bool acts[k].take) ∧
  w.cell? ⟨g,off+k*2+1,none⟩=some acts[k].lv∧Sl w (fun _=>True) 1 acts[k].lv acts[k].l.length (ints acts[k].l)∧∀ x∈acts[k].l,fits x:=by
 obtain ⟨g,off,cap,rfl,_,_,_,hlt,hc⟩:=h.1.place zTbe
 have hlen:∀ c∈acts.map TAct.cells,c.length=2:=by
  intro c hcm
  obtain ⟨a,_,rfl⟩:=List.mem_map.1 hcm
  rfl
 have hfl:=flatten_length _ hlen
 rw [List.length_map] at hfl
 have get:∀ r,r < 2→w.cell? ⟨g,off+(k*2+r),none⟩=acts[k].cells[r]?:=fun r hr=>by
  rw [hc _ zTbe,flatten_get _ hlen k r hr,List.getElem?_map,List.getElem?_eq_getElem hk]
  rfl
 exact ⟨g,off,cap,rfl,hlt,get 0 zTbe,get 1 zTbe,h.2 _ (List.getElem_mem hk)⟩
def totZ (acts:List TAct):Int:=(acts.map fun a=>msum a.take a.l).sum
def totN (acts:List TAct):Int:=(acts.map fun a=>if a.take then -(a.l.length:Int) else a.l.length).sum
theorem totZ_next (acts:List TAct) (k:Nat) (h:k < acts.length):totZ (acts.take (k+1))=totZ (acts.take k)+msum acts[k].take acts[k].l:=by
 unfold totZ
 rw [←List.take_append_getElem h,List.map_append,List.sum_append]
 simp
theorem totN_next (acts:List TAct) (k:Nat) (h:k < acts.length):totN (acts.take (k+1))=totN (acts.take k)+(if acts[k].take then -(acts[k].l.length:Int) else acts[k].l.length):=by
 unfold totN
 rw [←List.take_append_getElem h,List.map_append,List.sum_append]
 simp
theorem boxes2t (w:World) (A C:List Value) (t u:TypeId) :
 Blk ((w.alloc (.cells A.toArray t)).alloc (.cells C.toArray u)) w.heap.size t A ∧
 Blk ((w.alloc (.cells A.toArray t)).alloc (.cells C.toArray u)) (w.heap.size+1) u C ∧
 Below w.heap.size w ((w.alloc (.cells A.toArray t)).alloc (.cells C.toArray u)) ∧
 ((w.alloc (.cells A.toArray t)).alloc (.cells C.toArray u)).heap.size=w.heap.size+2:=by
 have h1:=Blk.new w t A
 have h2:=Blk.new (w.alloc (.cells A.toArray t)) u C
 exact zX62
theorem msum_range (minus:Bool) (l:List Int) (hf:∀ x∈l,fits x) (hl:l.length≤20):-184467440737095516160≤msum minus l∧msum minus l≤184467440737095516160:=by
 have h:=sum_range l hf
 unfold msum
 split<;>omega
theorem IsNum.drew {w:World} {B:Nat→Prop} {v:Value} {z:Int} (h:IsNum w B v z):IsNum w.drew B v z:=by
 obtain ⟨dv,h1,h2⟩:=h
 exact ⟨dv,h1,h2.drew⟩
theorem near_len {z:Int} {k:Int} (h1:-184467440737095516160*k≤z) (h2:z≤184467440737095516160*k) (hk:k≤31:=by omega):(ld z.natAbs).length≤5000:=by
 have e:(10:Nat) ^ 30=1000000000000000000000000000000:=zcX3
 have h:=ld_len_le z.natAbs 30 (by rw [e];omega)
 omega
theorem prod_small (l:List Int) (hf:∀ x∈l,fits x):∀ k,(prodI (l.take k)).natAbs≤10 ^ (19*k)
 | 0=>by simp [prodI]
 | k+1=>by
  have ih:=prod_small l hf k
  by_cases h:k < l.length
  ·rw [prodI_next l k h,Int.natAbs_mul,Nat.mul_succ,Nat.pow_add]
   exact Nat.mul_le_mul ih (by have:=hf l[k] (List.getElem_mem h);unfold fits at this;omega)
  ·rw [List.take_of_length_le zTbe]
   rw [List.take_of_length_le zTbe] at ih
   exact Nat.le_trans ih (Nat.pow_le_pow_right zTbe zTbe)
theorem prod_len (l:List Int) (hf:∀ x∈l,fits x) (k:Nat) (hk:k≤100):(ld (prodI (l.take k)).natAbs).length≤2000:=by
 have h:=prod_small l hf k
 have h2:=ld_len_le (prodI (l.take k)).natAbs (19*k+1) (by rw [Nat.pow_succ];have:0 < 10 ^ (19*k):=Nat.pow_pos zTbe;omega)
 omega
end Go.Proofs.YteggkjdlajgenaaGreatDoor
namespace Go.Proofs.YteggkjdlajgenaaGreatDoor
open Go.RowKit Go.Afx
structure Nums (w wc:World) (raw:Option Nat) (bs:List Nat) (vals:List (Value × Int)) (vars:List (Nat × Int)):Prop where
 below:Below w.heap.size w wc
 bnd:∀ b∈bs,w.heap.size≤b∧b < wc.heap.size
 raws:∀ b,raw=some b→Blk wc b 168 [.bool false,.slice none 0 0]∧b∈bs∧∀ x∈vars,x.1≠b
 val:∀ x∈vals,IsNum wc (fun k=>k∉bs) x.1 x.2
 var:∀ x∈vars,x.1∈bs∧∃ s p l c,Blk wc x.1 168 [.bool s,.slice p l c]∧IsNum wc (fun k=>k∉bs) (.agg #[.bool s,.slice p l c]) x.2
variable {w wc : World} {raw : Option Nat} {bs : List Nat} {vals : List (Value × Int)} {vars : List (Nat × Int)}
theorem Nums.start (w:World):Nums w w none [] [] []:=⟨Below.refl _ _,zPXO,zPXO,zPXO,zPXO⟩
theorem Nums.drew (h:Nums w wc raw bs vals vars):Nums w wc.drew raw bs vals vars :=
 ⟨h.below.drew,h.bnd,fun b hb=>h.raws b hb,fun x hx=>IsNum.drew (h.val x hx),fun x hx=>⟨(h.var x hx).1,by
  obtain ⟨s,p,l,c,h1,h2⟩:=(h.var x hx).2
  exact ⟨s,p,l,c,h1,IsNum.drew h2⟩⟩⟩
theorem Nums.keep {w':World} (h:Nums w wc raw bs vals vars) (hb:Below wc.heap.size wc w'):Nums w w' raw bs vals vars :=
 ⟨h.below.trans (hb.mono h.below.size),fun b hm=>⟨(h.bnd b hm).1,Nat.lt_of_lt_of_le (h.bnd b hm).2 hb.size⟩,fun b hr=>⟨(h.raws b hr).1.below hb,(h.raws b hr).2⟩,
  fun x hx=>(h.val x hx).below hb,fun x hx=>⟨(h.var x hx).1,by
   obtain ⟨s,p,l,c,h1,h2⟩:=(h.var x hx).2
   exact ⟨s,p,l,c,h1.below hb,h2.below hb⟩⟩⟩
theorem Nums.call {w':World} {v:Value} {z:Int} (h:Nums w wc raw bs vals vars) (hb:Below wc.heap.size wc w') (hn:IsNum w' (fun k=>wc.heap.size≤k) v z):Nums w w' raw bs ((v,z)::vals) vars:=by
 have h2:=h.keep hb
 refine ⟨h2.below,h2.bnd,h2.raws,fun x hx=>?_,h2.var⟩
 rcases List.mem_cons.1 hx with rfl|hx
 ·exact hn.weak fun k hk hm=>by have:=(h.bnd k hm).2;omega
 ·exact h2.val x hx
theorem Nums.call' {w':World} {v:Value} {z:Int} (h:Nums w wc raw bs vals vars) (hb:Below wc.heap.size wc w') (hn:IsNum w' (fun k=>k∉bs) v z):Nums w w' raw bs ((v,z)::vals) vars:=by
 have h2:=h.keep hb
 refine ⟨h2.below,h2.bnd,h2.raws,fun x hx=>?_,h2.var⟩
 rcases List.mem_cons.1 hx with rfl|hx
 ·exact hn
 ·exact h2.val x hx
theorem Nums.alloc (h:Nums w wc raw bs vals vars):Nums w (wc.alloc (.cells #[.bool false,.slice none 0 0] 168)) (some wc.heap.size) (wc.heap.size::bs) vals vars:=by
 have hsz:(wc.alloc (.cells #[.bool false,.slice none 0 0] 168)).heap.size=wc.heap.size+1:=zPXO
 have hk:∀ {v:Value} {z:Int},IsNum wc (fun k=>k∉bs) v z→IsNum (wc.alloc (.cells #[.bool false,.slice none 0 0] 168)) (fun k=>k∉wc.heap.size::bs) v z:=fun hn =>
  (IsNum.alloc' hn _ (fun k hk=>hk)).weak fun k hk hm=>by
   rcases List.mem_cons.1 hm with rfl|hm
   ·exact hk.2 rfl
   ·exact hk.1 hm
 refine ⟨h.below.alloc h.below.size _,fun b hb=>?_,fun b hb=>?_,fun x hx=>hk (h.val x hx),fun x hx=>⟨List.mem_cons_of_mem _ (h.var x hx).1,?_⟩⟩
 ·rcases List.mem_cons.1 hb with rfl|hb
  ·exact ⟨h.below.size,zTbe⟩
  ·have:=h.bnd b hb;exact ⟨this.1,zTbe⟩
 ·cases hb
  exact ⟨Blk.new wc _ _,zPXO,fun x hx he=>by have:=(h.bnd x.1 (h.var x hx).1).2;omega⟩
 ·obtain ⟨s,p,l,c,h1,h2⟩:=(h.var x hx).2
  exact ⟨s,p,l,c,h1.alloc _,hk h2⟩
theorem Nums.store' {b:Nat} {s:Bool} {p:Option Addr} {l c:Nat} {z:Int} {cs:List Value} (h:Nums w wc raw bs vals vars) (hb:Blk wc b 168 cs) (hlen:cs.length=2) (hm:b∈bs) (hv:(Value.agg #[.bool s,.slice p l c],z)∈vals) :
 Nums w ((wc.setCell ⟨b,0,none⟩ (.bool s)).setCell ⟨b,1,none⟩ (.slice p l c)) none bs [] ((b,z)::vars.filter (fun x=>x.1 != b)):=by
 have ho:Only (fun k=>k=b) wc ((wc.setCell ⟨b,0,none⟩ (.bool s)).setCell ⟨b,1,none⟩ (.slice p l c)):=((Only.refl (fun k=>k=b) wc).setCell (p:=⟨b,0,none⟩) (fun _=>rfl) _).setCell (p:=⟨b,1,none⟩) (fun _=>rfl) _
 have hge:=(h.bnd b hm).1
 have hnb:∀ k,k∉bs→¬ k=b:=fun k hk e=>hk (e▸hm)
 have hbs:=(hb.set 0 (.bool s)).set 1 (.slice p l c)
 have hcs:(cs.set 0 (.bool s)).set 1 (.slice p l c)=[.bool s,.slice p l c]:=by
  obtain ⟨a,b',rfl⟩:=list2 hlen
  rfl
 rw [hcs] at hbs
 refine ⟨(h.below.setCell hge _).setCell hge _,fun b' hb'=>⟨(h.bnd b' hb').1,Nat.lt_of_lt_of_le (h.bnd b' hb').2 ho.size⟩,zPXO,zPXO,fun x hx=>?_⟩
 rcases List.mem_cons.1 hx with rfl|hx
 ·exact ⟨hm,s,p,l,c,hbs,(h.val _ hv).only ho hnb⟩
 ·obtain ⟨hx1,hx2⟩:=List.mem_filter.1 hx
  have hxb:x.1≠b:=by simpa using hx2
  obtain ⟨s',p',l',c',h1,h2⟩:=(h.var x hx1).2
  exact ⟨(h.var x hx1).1,s',p',l',c',h1.only ho hxb,h2.only ho hnb⟩
theorem Nums.store {b:Nat} {s:Bool} {p:Option Addr} {l c:Nat} {z:Int} (h:Nums w wc (some b) bs vals vars) (hv:(Value.agg #[.bool s,.slice p l c],z)∈vals) :
 Nums w ((wc.setCell ⟨b,0,none⟩ (.bool s)).setCell ⟨b,1,none⟩ (.slice p l c)) none bs [] ((b,z)::vars):=by
 obtain ⟨h1,h2,h3⟩:=h.raws b rfl
 have h4:=h.store' h1 rfl h2 hv
 have e:vars.filter (fun x=>x.1 != b)=vars:=List.filter_eq_self.2 fun x hx=>by simpa using h3 x hx
 rwa [e] at h4
theorem Nums.made {s:Bool} {p:Option Addr} {l c:Nat} {z:Int} (h:Nums w wc raw bs vals vars) (hv:(Value.agg #[.bool s,.slice p l c],z)∈vals) :
 Nums w (wc.alloc (.cells #[.bool s,.slice p l c] 168)) none (wc.heap.size::bs) [] ((wc.heap.size,z)::vars):=by
 have hsz:(wc.alloc (.cells #[.bool s,.slice p l c] 168)).heap.size=wc.heap.size+1:=zPXO
 have hk:∀ {v:Value} {z:Int},IsNum wc (fun k=>k∉bs) v z→IsNum (wc.alloc (.cells #[.bool s,.slice p l c] 168)) (fun k=>k∉wc.heap.size::bs) v z:=fun hn =>
  (IsNum.alloc' hn _ (fun k hk=>hk)).weak fun k hk hm=>by
   rcases List.mem_cons.1 hm with rfl|hm
   ·exact hk.2 rfl
   ·exact hk.1 hm
 refine ⟨h.below.alloc h.below.size _,fun b hb=>?_,zPXO,zPXO,fun x hx=>?_⟩
 ·rcases List.mem_cons.1 hb with rfl|hb
  ·exact ⟨h.below.size,zTbe⟩
  ·have:=h.bnd b hb;exact ⟨this.1,zTbe⟩
 ·rcases List.mem_cons.1 hx with rfl|hx
  ·exact ⟨zPXO,s,p,l,c,Blk.new wc _ _,hk (h.val _ hv)⟩
  ·obtain ⟨s',p',l',c',h1,h2⟩:=(h.var x hx).2
   exact ⟨List.mem_cons_of_mem _ (h.var x hx).1,s',p',l',c',h1.alloc _,hk h2⟩
theorem Nums.num (h:Nums w wc raw bs vals vars) {v:Value} {z:Int} (hv:(v,z)∈vals):IsNum wc (fun k=>k∉bs) v z:=h.val _ hv
theorem Nums.any (h:Nums w wc raw bs vals vars) {v:Value} {z:Int} (hv:(v,z)∈vals):IsNum wc (fun _=>True) v z:=(h.val _ hv).weak fun _ _=>trivial
theorem Nums.read (h:Nums w wc raw bs vals vars) {b:Nat} {z:Int} (hv:(b,z)∈vars) :
 ∃ s p l c,wc.cell? ⟨b,0,none⟩=some (.bool s)∧wc.cell? ⟨b,1,none⟩=some (.slice p l c)∧(∀ i,wc.frozen? ⟨b,i,none⟩=false)∧b < wc.heap.size∧Blk wc b 168 [.bool s,.slice p l c]∧Nums w wc raw bs ((.agg #[.bool s,.slice p l c],z)::vals) vars:=by
 obtain ⟨hm,s,p,l,c,h1,h2⟩:=h.var _ hv
 exact ⟨s,p,l,c,h1.cell 0,h1.cell 1,h1.frozen,h1.lt,h1,h.below,h.bnd,h.raws,fun x hx=>by
  rcases List.mem_cons.1 hx with rfl|hx
  ·exact h2
  ·exact h.val x hx,h.var⟩
theorem Nums.rawc {b:Nat} (h:Nums w wc (some b) bs vals vars):wc.cell? ⟨b,0,none⟩=some (.bool false)∧wc.cell? ⟨b,1,none⟩=some (.slice none 0 0)∧∀ i,wc.frozen? ⟨b,i,none⟩=false :=
 ⟨(h.raws b rfl).1.cell 0,(h.raws b rfl).1.cell 1,(h.raws b rfl).1.frozen⟩
theorem Nums.forget (h:Nums w wc raw bs vals vars):Nums w wc raw bs [] vars:=⟨h.below,h.bnd,h.raws,zPXO,h.var⟩
end Go.Proofs.YteggkjdlajgenaaGreatDoor
namespace Go.Proofs.YteggkjdlajgenaaGreatDoor
open Go.RowKit Go.Afx
theorem mdN_nat (z:Int) (M:Nat) (h:0 < M):mdN z M=if z < 0∧0 < z.natAbs % M then (M:Int) - (z.natAbs % M:Nat) else ((z.natAbs % M:Nat):Int):=by
 have h0:(M:Int)≠0:=zTbe
 have h1:(M:Int)≠-1:=zTbe
 have e:mdN z M=z % (M:Int):=by
  unfold mdN
  rw [if_neg h0,if_neg h1,Int.fmod_eq_emod_of_nonneg _ zTbe]
 rw [e]
 generalize hq:z.natAbs / M=q
 generalize hr:z.natAbs % M=r
 have hd:(z.natAbs:Int)=(r:Int)+(M:Int)*(q:Int):=by
  have h2:=Nat.mod_add_div z.natAbs M
  rw [hq,hr] at h2
  rw [←Int.natCast_mul]
  omega
 have hrl:r < M:=by rw [←hr];exact Nat.mod_lt _ h
 by_cases hz:z < 0
 ·by_cases hr0:0 < r
  ·rw [if_pos ⟨hz,hr0⟩]
   have:z=((M:Int) - (r:Int))+(M:Int)*(-(q:Int) - 1):=by rw [Int.mul_sub,Int.mul_neg];omega
   rw [this,Int.add_mul_emod_self_left,Int.emod_eq_of_lt zTbe zTbe]
  ·rw [if_neg (fun h=>hr0 h.2)]
   obtain rfl:r=0:=zTbe
   have:z=(M:Int)*(-(q:Int)):=by rw [Int.mul_neg];omega
   rw [this,Int.mul_emod_right]
   rfl
 ·rw [if_neg (fun h=>hz h.1)]
  have:z=(r:Int)+(M:Int)*(q:Int):=zTbe
  rw [this,Int.add_mul_emod_self_left,Int.emod_eq_of_lt zTbe zTbe]
def spZ (k n:Int) (l:List UInt8) (j:Nat):Int:=if k=2 then n+(sprN l j:Int) else n
theorem drop_step (d:List Nat) (i M:Nat) (h:i < d.length):(10*(vd (d.drop (i+1)) % M)+d[i]) % M=vd (d.drop i) % M:=by
 rw [vd_drop d i h,Nat.add_comm d[i],Nat.add_mod (10*_),Nat.mul_mod 10,Nat.mod_mod,←Nat.mul_mod,←Nat.add_mod]
theorem refspread_any (w:World) (k n:Int) (s:ByteArray) (M:Nat) (hM1:0 < M) (hM2:M≤1000000) (hn:fits n) (hk:k=2→n=0) (hs:s.size≤300) :
 Calls Tryz.prog 58 #[.agg #[.int .i64 k,.int .i64 n,.string s],.int .i64 (M:Int)] w fun e w'=>e=.returned (.int .i64 (mdN (spT k n s) M))∧Below w.heap.size w w':=by
 obtain ⟨l,hl⟩:=z9tc
 have hsz:=size_list s l hl
 have HG:=Lib.hid (get_list s l hl)
 have hspz:spT k n s=spZ k n l s.size:=by unfold spT spZ;rw [hl]
 have hz0:spZ k n l 0=n:=by unfold spZ sprN;simp
 have hfz:∀ j,j≤l.length→fits (spZ k n l j):=fun j hj=>by
  have:=sprN_le l j hj zTbe
  unfold spZ fits at *
  split
  ·rename_i h;have:=hk h;omega
  ·exact hn
 have HFZ:=Lib.hid hfz
 have HNX:=Lib.hid (sprN_next l)
 have HOF0:=Lib.hid (fun w=>of_num w n hn)
 have HZ0:=Lib.hid hz0
 have HSPZ:=Lib.hid hspz
 obtain ⟨out,hout⟩:∃ o,mdN (spT k n s) M=o:=⟨_,rfl⟩
 have HOUT:=Lib.hid hout
 rw [hout]
 clear hfz hz0 hspz hout hl hn hk
 obtain ⟨b0,b1,b2,bf⟩:=blk3 (Blk.new w 113 [.int .i64 k,.int .i64 n,.string s])
 have hb1:=z8Tj
 have HB1:=Lib.hid hb1
 have HBX:=Lib.hid (Blk.new w 113 [.int .i64 k,.int .i64 n,.string s])
 have hs1:(w.alloc (.cells #[.int .i64 k,.int .i64 n,.string s] 113)).heap.size=w.heap.size+1:=zPXO
 have HS1:=Lib.hid hs1
 clear hb1 hs1
 go_enter Tryz.func58,Tryz.ntmps58
 go_wp2_with fail
 refine (HOF0.out _).mono ?_
 rintro e w2 ⟨v2,rfl,hn2,hb2⟩
 obtain ⟨s2,p2,n2,c2,rfl⟩:=hn2.parts
 have hs2:w.heap.size+1≤w2.heap.size:=by have:=hb2.size;have:=HS1.out;omega
 have HN3:Hid (IsNum (w2.alloc (.cells #[.bool s2,.slice p2 n2 c2] 168)) (fun k=>w.heap.size < k∧k≠w2.heap.size) (.agg #[.bool s2,.slice p2 n2 c2]) n):=IsNum.alloc' hn2 _ (fun k (h1:_ < k)=>by have:=HS1.out;omega)
 have HX3:Hid (Blk (w2.alloc (.cells #[.bool s2,.slice p2 n2 c2] 168)) w.heap.size 113 [.int .i64 k,.int .i64 n,.string s]):=(HBX.out.below hb2).alloc _
 have HV3:Hid (Blk (w2.alloc (.cells #[.bool s2,.slice p2 n2 c2] 168)) w2.heap.size 168 [.bool s2,.slice p2 n2 c2]):=Blk.new w2 _ _
 have HB3:Hid (Below w.heap.size w (w2.alloc (.cells #[.bool s2,.slice p2 n2 c2] 168))):=by
  have h1:=HB1.out.trans (hb2.mono HB1.out.size)
  exact h1.alloc h1.size _
 have HZ3:Hid (w2.heap.size < (w2.alloc (.cells #[.bool s2,.slice p2 n2 c2] 168)).heap.size):=by show _ < _;simp
 clear hn2 hb2 b0 b1 b2 bf
 go_wp2
 generalize (w2.alloc (.cells #[.bool s2,.slice p2 n2 c2] 168))=w3 at *
 generalize w2.heap.size=bn at *
 go_loopw [6] (fun i wr=>∃ (j:Nat) (sg:Bool) (q:Option Addr) (l0 c0:Nat),i=.int .i64 j∧j≤s.size∧Blk wr bn 168 [.bool sg,.slice q l0 c0]∧IsNum wr (fun x=>w.heap.size < x∧x≠bn) (.agg #[.bool sg,.slice q l0 c0]) (spZ k n l j)∧Blk wr w.heap.size 113 [.int .i64 k,.int .i64 n,.string s]∧Below w.heap.size w wr∧bn < wr.heap.size) (fun i _=>s.size - (intOf i).toNat)
 case atStart=>exact ⟨0,s2,p2,n2,c2,rfl,Nat.zero_le _,HV3.out,by rw [HZ0.out];exact HN3.out,HX3.out,HB3.out,HZ3.out⟩
 case round =>
  obtain ⟨j,sg,q,l0,c0,rfl,hj,hbn,hnum,hbx,hbw,hlt⟩:=hrel
  have HBN:=Lib.hid hbn
  have HBXr:=Lib.hid hbx
  have HNUM:=Lib.hid hnum
  have HBW:=Lib.hid hbw
  obtain ⟨x0,x1,x2,xf⟩:=blk3 hbx
  have y0:wr.cell? ⟨bn,0,none⟩=some (.bool sg):=hbn.cell 0
  have y1:wr.cell? ⟨bn,1,none⟩=some (.slice q l0 c0):=hbn.cell 1
  clear hbn hnum hbx hbw
  by_cases hbody:j < s.size∧k=2
  ·obtain ⟨hja,rfl⟩:=hbody
   have hjl:j < l.length:=zTbe
   obtain ⟨c,hc⟩:∃ c,(s[j]'hja).toNat=c:=⟨_,rfl⟩
   have hc2:l[j].toNat=c:=by rw [←HG.out j hja hjl];exact hc
   have hcl:c < 256:=by rw [←hc];exact (s[j]'hja).toNat_lt
   have hnx:=HNX.out j hjl
   have hpl:=prod_le j l[j] zTbe
   rw [hc2] at hnx hpl
   have hci:((s[j]'hja).toNat:Int)=(c:Int):=by rw [hc]
   have hcp:((j:Int)+1)*(c:Int)=(((j+1)*c:Nat):Int):=by rw [Int.natCast_mul];rfl
   have hwr:IntKind.i64.wrap (c:Int)=(c:Int):=zrPp
   generalize (j+1)*c=pr at *
   have hsp:spZ 2 n l (j+1)=spZ 2 n l j+(pr:Int):=by unfold spZ;rw [if_pos rfl,if_pos rfl,hnx];omega
   have HSP:=Lib.hid hsp
   have hfp:fits (pr:Int):=by unfold fits;omega
   have HOF:=Lib.hid (fun w=>of_num w (pr:Int) hfp)
   have h30a:=fits_small (HFZ.out j zTbe)
   have h30b:=fits_small hfp
   have H30:Hid ((ld (spZ 2 n l j).natAbs).length≤30∧(ld (pr:Int).natAbs).length≤30):=⟨h30a,h30b⟩
   clear hc hc2 hnx hsp hfp h30a h30b
   have hxl:w.heap.size < wr.heap.size:=by have:=HBXr.out.lt;exact this
   have hag:Hid (∀ w2,Below wr.heap.size wr.drew w2→Agree (fun q=>q=w.heap.size∨q=bn) wr.drew w2):=fun w2 h q o hq=>h.cell zcbp
   have j1:(j:Int) < (s.size:Int):=zTbe
   go_wp2_with fail
   refine wp_region_lit_plan [] [(1,0),(2,0),(3,0),(5,0),(0,2),(4,1),(6,0),(7,0),(8,0),(9,3),(10,4),(11,4)] (fun q=>q=w.heap.size∨q=bn) zyVB zyVB (fun c a d v w h=>zx0I) ?_
   go_wp2_with (first
    | (refine stp ?_)
    | (go_at_call 88;refine (HOF.out _).mono ?_;clear HOF;rintro e w4 ⟨v4,rfl,hn4,hb4⟩;have hag4:=hag.out _ hb4;have HB4:=Lib.hid hb4;have HN4:=Lib.hid hn4;clear hb4 hn4)
    | (go_at_call 89;refine (plus_num _ _ _ _ _ ((IsNum.below (w:=wr.drew) (IsNum.drew HNUM.out) HB4.out).weak fun _ _=>trivial) (HN4.out.weak fun _ _=>trivial) (by have:=H30.out.1;omega) (by have:=H30.out.2;omega)).mono ?_;rintro e w6 ⟨v6,rfl,hn6,hb6⟩;obtain ⟨s6,p6,n6,c6,rfl⟩:=hn6.parts;have hbn6:=Blk.below (Blk.below (w:=wr.drew) HBN.out HB4.out) hb6;have u10:w6.cell? ⟨bn,0,none⟩=some (.bool sg):=hbn6.cell 0;have u11:w6.cell? ⟨bn,1,none⟩=some (.slice q l0 c0):=hbn6.cell 1;have uf:∀ i,w6.frozen? ⟨bn,i,none⟩=false:=hbn6.frozen;have HBN6:=Lib.hid hbn6;have HBX6:=Lib.hid (Blk.below (Blk.below (w:=wr.drew) HBXr.out HB4.out) hb6);have HN6:=Lib.hid hn6;have HB6:=Lib.hid hb6;clear hn6 hb6 hbn6))
   have ho7:Only (fun k=>k=bn) w6 ((w6.setCell ⟨bn,0,none⟩ (.bool s6)).setCell ⟨bn,1,none⟩ (.slice p6 n6 c6)):=((Only.refl (fun k=>k=bn) w6).setCell (p:=⟨bn,0,none⟩) (fun _=>rfl) _).setCell (p:=⟨bn,1,none⟩) (fun _=>rfl) _
   have h4:wr.heap.size≤w4.heap.size:=HB4.out.size
   have h6:=HB6.out.size
   have h7:=ho7.size
   have k4:=HBW.out.drew.trans (HB4.out.mono HBW.out.size)
   have k6:=k4.trans (HB6.out.mono k4.size)
   refine ⟨⟨j+1,s6,p6,n6,c6,z3KH,zTbe,(HBN6.out.set 0 _).set 1 _,?_,HBX6.out.only ho7 zTbe,(k6.setCell (by show w.heap.size≤bn;omega) _).setCell (by show w.heap.size≤bn;omega) _,zTbe⟩,zQOc⟩
   rw [HSP.out]
   exact IsNum.weak (IsNum.only HN6.out ho7 (fun k (h1:w4.heap.size≤k) h2=>zTbe)) (fun k (h1:w4.heap.size≤k)=>zTbe)
  ·have hzz:spZ k n l j=spT k n s:=by
    rw [HSPZ.out]
    by_cases hk2:k=2
    ·have:j=s.size:=by omega
     rw [this]
    ·unfold spZ;rw [if_neg hk2,if_neg hk2]
   have hnum:=HNUM.out
   have hl30:=fits_small (HFZ.out j zTbe)
   have hout:=HOUT.out
   rw [hzz] at hnum hl30
   rw [mdN_nat _ M hM1] at hout
   obtain ⟨wo,rfl⟩:=zDit
   clear HNUM HFZ HZ0 HNX HSPZ hzz HOUT HOF0 HB1 HBX HS1
   generalize spT k n s=z at *
   obtain ⟨dv,hv,hsl⟩:=hnum
   cases hv
   obtain ⟨p',cap',he,hc1,hc2⟩:=hsl.form
   cases he
   have HSL:=Lib.hid hsl
   have hD:=ld_D10 z.natAbs
   rw [←vd_ld z.natAbs] at hout
   generalize hneg:decide (z < 0)=neg at *
   have hout2:out=if neg=true∧0 < vd (ld z.natAbs) % M then (M:Int) - (vd (ld z.natAbs) % M:Nat) else ((vd (ld z.natAbs) % M:Nat):Int):=by
    rw [←hout,←hneg]
    simp only [decide_eq_true_eq]
   clear hout hneg hsl
   have HOUT2:=Lib.hid hout2
   clear hout2
   generalize ld z.natAbs=d at *
   by_cases hjs:j < s.size
   ·have hz2:(k == 2)=false:=by rw [beq_eq_false_iff_ne];exact fun h=>hbody ⟨hjs,h⟩
    have j1:(j:Int) < (s.size:Int):=zTbe
    exact zbdS
   ·have j1:¬ (j:Int) < (s.size:Int):=by omega
    exact zbdS
end Go.Proofs.YteggkjdlajgenaaGreatDoor
