/- Contracts of the functions that the statement reaches, one behind the other. No condition beyond each theorem's own. -/
import Derived.Test.YteggkjdlajgenaaGreatDoorTS6
set_option linter.unusedSimpArgs false
set_option linter.unusedVariables false
set_option maxRecDepth 100000
set_option maxHeartbeats 4000000
namespace Go.Proofs.YteggkjdlajgenaaGreatDoor
open Go.RowKit Go.Afx
theorem ocCol:Tryz.prog.cellsOf 110=2:=zyVB
theorem ocCols:Tryz.prog.cellsOf 22=1:=zyVB
theorem ocIdx:Tryz.prog.cellsOf 108=2:=zyVB
theorem ocIdxs:Tryz.prog.cellsOf 23=1:=zyVB
theorem ocInts:Tryz.prog.cellsOf 27=1:=zyVB
theorem ocBool:Tryz.prog.cellsOf 4=1:=zyVB
def ColV.read (c:ColV):Prop:=c.name.size≤maxLen∧fit64 c.kind
def SchV.read (s:SchV):Prop:=fit64 s.limit∧fit64 s.parts∧fit64 s.by_∧∀ c∈s.cols,c.read
section
variable {H : Type} {enc : TypeId × Value → H} {w : World}
theorem open_cols_at {fuel:Nat} {v:Value} {y:DataW H × List MemPlace} (hf:DataW.trod enc Tryz.prog w 0 (fun _=>true) true fuel 22 [v]=some y):∃ l:List ColV,Sl w (fun _=>True) 2 v l.length (colCells l)∧∀ c∈l,c.read:=by
 obtain ⟨es,h1,h2⟩:=open_sl Tryz.underlying22 ocCol zTbe hf (fun c=>∃ a:ColV,c=a.cells∧a.read) (fun c ⟨a,hc,_⟩=>by subst hc;intro u hu;simp [ColV.cells] at hu;rcases hu with rfl|rfl<;>rfl) (fun f c y hl hy=>by
  obtain ⟨n,hfs⟩:=open_fields Tryz.underlying110 hy
  obtain ⟨c0,c1,rfl⟩:=list2 hl
  obtain ⟨y0,h0⟩:=hfs 0 _ rfl
  obtain ⟨y1,h1⟩:=hfs 1 _ rfl
  simp only [ocInt,ocStr,List.drop_zero,List.drop_succ_cons,List.take_succ_cons,List.take_zero] at h0 h1
  obtain ⟨s,e0,_,w0⟩:=DataW.trod_string Tryz.underlying9 h0
  obtain ⟨k,e1,_,w1⟩:=DataW.trod_int Tryz.underlying3 h1
  simp only [List.cons.injEq,and_true] at e0 e1
  subst e0 e1
  exact ⟨⟨s,k⟩,rfl,w0,wf_fit64 w1⟩)
 exact z5eP
theorem open_ints_at {fuel:Nat} {v:Value} {y:DataW H × List MemPlace} (hf:DataW.trod enc Tryz.prog w 0 (fun _=>true) true fuel 27 [v]=some y):∃ l:List Int,Sl w (fun _=>True) 1 v l.length (ints l):=by
 obtain ⟨l,h1,_⟩:=open_ints_sl Tryz.underlying27 Tryz.underlying3 ocInt hf
 exact ⟨l,h1⟩
theorem open_idxs_at {fuel:Nat} {v:Value} {y:DataW H × List MemPlace} (hf:DataW.trod enc Tryz.prog w 0 (fun _=>true) true fuel 23 [v]=some y):∃ l:List IdxV,IdxAt w (fun _=>True) v l:=by
 obtain ⟨es,h1,h2⟩:=open_sl Tryz.underlying23 ocIdx zTbe hf (fun c=>∃ x:IdxV,c=x.cells∧Sl w (fun _=>True) 1 x.v x.l.length (ints x.l)) (fun c ⟨x,hc,hx⟩=>by subst hc;exact (Ones.nil.cons (rfl:(Value.bool x.unique).oneCell'=true)).cons (sl_one hx)) (fun f c y hl hy=>by
  obtain ⟨n,hfs⟩:=open_fields Tryz.underlying108 hy
  obtain ⟨c0,c1,rfl⟩:=list2 hl
  obtain ⟨y0,h0⟩:=hfs 0 _ rfl
  obtain ⟨y1,h1⟩:=hfs 1 _ rfl
  simp only [ocInts,ocBool,List.drop_zero,List.drop_succ_cons,List.take_succ_cons,List.take_zero] at h0 h1
  obtain ⟨l,h2⟩:=open_ints_at h0
  obtain ⟨b,e1,_⟩:=DataW.trod_bool Tryz.underlying4 h1
  simp only [List.cons.injEq,and_true] at e1
  subst e1
  exact ⟨⟨c0,l,b⟩,rfl,h2⟩)
 exact z5eP
theorem open_sch {cs:Array Value} {d:DataW H} {ps:List MemPlace} (h:DataW.Trod enc Tryz.prog w 0 (fun _=>true) true 25 (.agg cs) d ps) (hs:cs.size=6) :
 ∃ s:SchV,Value.agg cs=s.agg∧SchAt w (fun _=>True) s∧s.read:=by
 obtain ⟨fuel,hf⟩:=h
 have hf2:DataW.trod enc Tryz.prog w 0 (fun _=>true) true fuel 25 cs.toList=some _:=hf
 obtain ⟨n,hfs⟩:=open_fields Tryz.underlying25 hf2
 obtain ⟨c0,c1,c2,c3,c4,c5,hcs⟩:=list6 (l:=cs.toList) (by simpa using hs)
 rw [hcs] at hfs
 obtain ⟨y0,h0⟩:=hfs 0 _ rfl
 obtain ⟨y1,h1⟩:=hfs 1 _ rfl
 obtain ⟨y2,h2⟩:=hfs 2 _ rfl
 obtain ⟨y3,h3⟩:=hfs 3 _ rfl
 obtain ⟨y4,h4⟩:=hfs 4 _ rfl
 obtain ⟨y5,h5⟩:=hfs 5 _ rfl
 simp only [ocStr,ocCols,ocIdxs,ocInt,List.drop_zero,List.drop_succ_cons,List.take_succ_cons,List.take_zero] at h0 h1 h2 h3 h4 h5
 obtain ⟨s,e0,_,w0⟩:=DataW.trod_string Tryz.underlying9 h0
 obtain ⟨l,hl1,hl2⟩:=open_cols_at h1
 obtain ⟨il,hi1⟩:=open_idxs_at h2
 obtain ⟨k3,e3,_,w3⟩:=DataW.trod_int Tryz.underlying3 h3
 obtain ⟨k4,e4,_,w4⟩:=DataW.trod_int Tryz.underlying3 h4
 obtain ⟨k5,e5,_,w5⟩:=DataW.trod_int Tryz.underlying3 h5
 simp only [List.cons.injEq,and_true] at e0 e3 e4 e5
 subst e0 e3 e4 e5
 refine ⟨⟨s,c1,l,c2,il,k3,k4,k5⟩,?_,⟨hl1,hi1,fun c hc=>(hl2 c hc).1,w0⟩,wf_fit64 w3,wf_fit64 w4,wf_fit64 w5,hl2⟩
 have:cs=#[.string s,c1,c2,.int .i64 k3,.int .i64 k4,.int .i64 k5]:=by rw [←Array.toList_inj,hcs]
 rw [this];rfl
end
end Go.Proofs.YteggkjdlajgenaaGreatDoor
namespace Go.Proofs.YteggkjdlajgenaaGreatDoor
open Go.RowKit Go.Afx
theorem be_front (k u:Nat):be (k+1) u=UInt8.ofNat (u / 256 ^ k % 256)::be k u:=by
 induction k generalizing u with
 | zero=>simp [be]
 | succ k ih =>
  rw [be,ih (u / 256),Nat.div_div_eq_div_mul,←Nat.pow_succ']
  show _::(be k (u / 256)++_)=_
  rfl
theorem refkey_num (w:World) (n:Int) (s:ByteArray) (hf:fit64 n) :
 Calls Tryz.prog 90 #[.agg #[.int .i64 1,.int .i64 n,.string s]] w fun e w'=>e=.returned (.string (bs (1::be 8 (up64 n))))∧Below w.heap.size w w':=by
 have hx:IntKind.u64.wrap (IntKind.u64.wrap n+9223372036854775808)=(up64 n:Int):=by
  rw [IntKind.wrap_u64,IntKind.wrap_u64];unfold fit64 at hf;unfold up64;omega
 have hlt:=up64_lt n hf
 generalize up64 n=u0 at *
 obtain ⟨wb,hwb⟩:∃ wb,w.alloc (.cells #[.int .i64 1,.int .i64 n,.string s] 113)=wb:=⟨_,rfl⟩
 have hbb:=zdvx
 have hk:Blk wb w.heap.size 113 [.int .i64 1,.int .i64 n,.string s]:=zZuX
 have t0:wb.cell? ⟨w.heap.size,0,none⟩=some (.int .i64 1):=hk.cell 0
 have t1:wb.cell? ⟨w.heap.size,1,none⟩=some (.int .i64 n):=hk.cell 1
 have HB0:=Lib.hid hbb
 have HLT:=Lib.hid hlt
 clear hbb hk hlt
 go_enter Tryz.func90,Tryz.ntmps90
 go_wp2_with (rw [hwb])
 have HX:=Lib.hid hx
 clear t0 t1 hx
 go_loopw [3,4,5] (fun n0 s i wr=>∃ j:Nat,n0=.int .u64 ((u0 / 256 ^ j:Nat):Int)∧s=.string (bs (be j u0))∧i=.int .i64 j∧j≤8∧Below w.heap.size w wr) (fun _ _ i _=>(8 - intOf i).toNat)
 case atStart=>exact ⟨0,by first|rw [HX.out,Nat.pow_zero,Nat.div_one]|rw [Nat.pow_zero,Nat.div_one],rfl,rfl,zTbe,HB0.out⟩
 case round =>
  obtain ⟨j,rfl,rfl,rfl,hj,hb⟩:=hrel
  have HB:=Lib.hid hb
  have HSZ:Hid ((bs (be j u0)).size=j):=by
   show _=_
   rw [bs_size,be_length]
  clear hb
  by_cases hj8:j < 8
  ·have HE:=Lib.hid (be_front j u0)
   have h2:u0 / 256 ^ j / 256=u0 / 256 ^ (j+1):=by rw [Nat.div_div_eq_div_mul,←Nat.pow_succ]
   have hq:((u0 / 256 ^ j:Nat):Int) / 256=((u0 / 256 ^ (j+1):Nat):Int):=by rw [←h2];omega
   have hlt:u0 / 256 ^ j < 18446744073709551616:=Nat.lt_of_le_of_lt (Nat.div_le_self _ _) HLT.out
   clear h2
   have hlt2:u0 / 256 ^ (j+1) < 18446744073709551616:=Nat.lt_of_le_of_lt (Nat.div_le_self _ _) HLT.out
   generalize hu2:u0 / 256 ^ (j+1)=u2 at *
   have HU:=Lib.hid hu2
   clear hu2
   generalize u0 / 256 ^ j=u at *
   obtain ⟨x,hx⟩:∃ x:Nat,x=u % 256:=⟨_,rfl⟩
   have hx2:(u:Int) % 256=(x:Int):=zTbe
   have hx256:x < 256:=zTbe
   have hxi:(x:Int) < 256:=zTbe
   rw [←hx] at HE
   have cvb:=cv_byte wr x hx256
   have hcat:bs [UInt8.ofNat x]++bs (be j u0)=bs (UInt8.ofNat x::be j u0):=bs_append _ _
   have hsum:(bs [UInt8.ofNat x]).size+(bs (be j u0)).size≤9223372036854775807:=by rw [HSZ.out,bs_size];simp;omega
   rw [←HE.out] at hcat
   clear hx hlt
   generalize hS2:bs (be (j+1) u0)=S2 at *
   have HS2:=Lib.hid hS2
   clear hS2
   generalize bs (be j u0)=S at *
   generalize bs [UInt8.ofNat x]=ch at *
   go_wp2
   go_roundw
   case rel=>exact ⟨j+1,by rw [HU.out];first|done|(congr 1;done)|(congr 1;rw [IntKind.wrap_u64];omega),by rw [HS2.out],z3KH,zTbe,HB.out.alloc HB.out.size _⟩
   case measure=>(simp [intOf])<;>omega
  ·obtain rfl:j=8:=by omega
   have hcat:(⟨#[1]⟩:ByteArray)++bs (be 8 u0)=bs (1::be 8 u0):=bs_append [1] _
   have hsum:(⟨#[1]⟩:ByteArray).size+(bs (be 8 u0)).size≤9223372036854775807:=by rw [HSZ.out];decide
   generalize hS2:bs (1::be 8 u0)=S2 at *
   have HS2:=Lib.hid hS2
   clear hS2
   generalize bs (be 8 u0)=S at *
   go_wp2
   go_ret
   exact ⟨by rw [HS2.out];rfl,HB.out⟩
theorem refkey_text (w:World) (n:Int) (s:ByteArray) (hs:s.size≤1000) :
 Calls Tryz.prog 90 #[.agg #[.int .i64 2,.int .i64 n,.string s]] w fun e w'=>e=.returned (.string (bs (2::(esc 0 [0,255] s.data.toList++[0,1]))))∧Below w.heap.size w w':=by
 obtain ⟨l,hl⟩:=z9tc
 have HG:=Lib.hid (get_list s l hl)
 have hsz:=size_list s l hl
 rw [hl]
 obtain ⟨wb,hwb⟩:∃ wb,w.alloc (.cells #[.int .i64 2,.int .i64 n,.string s] 113)=wb:=⟨_,rfl⟩
 have hbb:=zdvx
 have hk:Blk wb w.heap.size 113 [.int .i64 2,.int .i64 n,.string s]:=zZuX
 have t0:wb.cell? ⟨w.heap.size,0,none⟩=some (.int .i64 2):=hk.cell 0
 have hw1:wb.heap.size=w.heap.size+1:=by rw [←hwb];simp
 have ho0:=Own.made wb 5 1 [.int .u8 2] [] 1 1 rfl (by intro u hu;simp at hu;subst hu;rfl) (Nat.le_refl _) zdUY zPXO
 have HK:=Lib.hid hk
 have HB0:=Lib.hid hbb
 have HO0:=Lib.hid ho0
 have HW1:=Lib.hid hw1
 have HSZ:=Lib.hid hsz
 clear hbb hk ho0 hw1 hl hsz
 go_enter Tryz.func90,Tryz.ntmps90
 go_wp2_with (rw [hwb])
 clear t0
 have hwz:∀ q,(Value.slice (some ⟨wb.heap.size,0,none⟩) 1 1).ownBlock=some q→w.heap.size < q:=fun q hq=>by
  have h1:wb.heap.size=q:=by simpa [Value.ownBlock] using hq
  have:=HW1.out
  omega
 have hst:by8 (2::esc 0 [0,255] (l.take 0))=[.int .u8 2]:=rfl
 have HST:=Lib.hid hst
 have HWZ:=Lib.hid hwz
 clear hst hwz
 go_loopw [6,7] (fun v i wr=>∃ k:Nat,i=.int .i64 k∧k≤s.size∧Own wr 5 1 v (2::esc 0 [0,255] (l.take k)).length (by8 (2::esc 0 [0,255] (l.take k)))∧(∀ q,v.ownBlock=some q→w.heap.size < q)∧Below wb.heap.size wb wr) (fun _ i _=>s.size - (intOf i).toNat)
 case atStart=>exact ⟨0,rfl,Nat.zero_le _,by rw [HST.out];exact HO0.out,HWZ.out,(Below.refl _ _).alloc (Nat.le_refl _) _⟩
 case round =>
  obtain ⟨k,rfl,hk,hown,hnew,hbr⟩:=hrel
  have hlen:=(esc_length 0 0 255 (l.take k)).1
  rw [List.length_take] at hlen
  have HN:Hid (∀ h:k < l.length,esc 0 [0,255] (l.take (k+1))=esc 0 [0,255] (l.take k)++(if l[k]=0 then [0,255] else [l[k]])):=fun h=>by
   rw [←List.take_append_getElem h,esc_append];simp [esc]
  have HEND:Hid (l.length≤k→l.take k=l):=fun h=>List.take_of_length_le h
  obtain ⟨q,hq⟩:∃ q,2::esc 0 [0,255] (l.take k)=q:=⟨_,rfl⟩
  have hql:q.length≤2*s.size+1:=by rw [←hq,List.length_cons];omega
  have HQ:=Lib.hid hq
  rw [hq] at hown
  obtain ⟨pv,cv,rfl,hcv1,hcv2⟩:=own_form hown
  have hkr:=HK.out.below hbr
  have t2:wr.cell? ⟨w.heap.size,2,none⟩=some (.string s):=hkr.cell 2
  have HOWN:=Lib.hid hown
  have HNEW:=Lib.hid hnew
  have HBR:=Lib.hid hbr
  have HKR:=Lib.hid hkr
  clear hown hnew hbr hq hlen hkr
  by_cases hka:k < s.size
  ·have hkl:k < l.length:=by rw [←HSZ.out];exact hka
   have hal:Below wr.heap.size wr (wr.alloc (.cells #[.int .u8 ((s[k]'hka).toNat:Int)] 5)):=(Below.refl _ _).alloc (Nat.le_refl _) _
   have ho1:=HOWN.out.below hal
   have hs1:=one_byte wr (s[k]'hka)
   have hcc:(s[k]'hka)=l[k]:=HG.out k hka hkl
   have HCC:=Lib.hid hcc
   have HN2:=Lib.hid (HN.out hkl)
   have HG0:=Lib.hid (Grew.start HOWN.out)
   have HAL2:=Lib.hid hal
   have hno:¬ (Value.slice pv q.length cv).ownBlock=some w.heap.size:=fun h=>by have:=HNEW.out _ h;omega
   have HK3:=Lib.hid (fun (w1:World) (h:Only (fun k=>(Value.slice pv q.length cv).ownBlock=some k) (wr.alloc (.cells #[.int .u8 ((s[k]'hka).toNat:Int)] 5)) w1)=>(HKR.out.alloc (.cells #[.int .u8 ((s[k]'hka).toNat:Int)] 5)).only h hno)
   clear hal hcc hno
   cases hz:((((s[k]'hka).toNat:Int) == 0))
   ·have hne:¬ l[k]=0:=fun h=>by
     rw [HCC.out,h] at hz;cases hz
    rw [if_neg hne] at HN2
    clear hne
    go_wp2_with (at_builtin;refine wpList_app rfl _ _ rfl elemU8 zdhv ho1 zdhv hs1 zefz zTbe ?_;intro v1 w7 g1 g2 g3 g4 g5;clear ho1 hs1;have HK1:=HK3.out w7 g2;have t2:w7.cell? ⟨w.heap.size,2,none⟩=some (.string s):=HK1.cell 2;have G0:=Lib.hid (HG0.out.push HAL2.out g1 g2 g3 rfl rfl rfl);clear g1 g2 g3 g4 g5 HK1)
    have h8:=HBR.out.size
    have h9:=HW1.out
    refine ⟨⟨k+1,z3KH,zTbe,?_,fun q hq=>?_,?_⟩,zQOc⟩
    ·rw [HN2.out,←List.cons_append,HQ.out,←HCC.out];exact G0.out.1
    ·rcases G0.out.2.2 q hq with h|h
     ·exact HNEW.out q h
     ·omega
    ·exact HBR.out.trans (G0.out.2.1.below h8 (fun q hq=>by have:=HNEW.out q hq;omega))
   ·have hne:l[k]=0:=by
     have h1:((s[k]'hka).toNat:Int)=0:=by simpa using hz
     rw [HCC.out] at h1
     exact UInt8.toNat_inj.1 (by show l[k].toNat=0;omega)
    rw [if_pos hne] at HN2
    have HZ:Hid ((s[k]'hka)=0):=by show _=_;rw [HCC.out];exact hne
    clear hne
    go_wp2_with (first
     | (at_builtin;refine wpList_app rfl _ _ rfl elemU8 zdhv ho1 zdhv hs1 zefz zTbe ?_;intro v1 w7 g1 g2 g3 g4 g5;clear ho1 hs1;have HK1:=HK3.out w7 g2;have t2:w7.cell? ⟨w.heap.size,2,none⟩=some (.string s):=HK1.cell 2;have G0:=Lib.hid (HG0.out.push HAL2.out g1 g2 g3 rfl rfl rfl);have HB7:Hid (Below w7.heap.size w7 (w7.alloc (.cells #[.int .u8 255] 5))):=(Below.refl _ _).alloc (Nat.le_refl _) _;have ho2:=G0.out.1.below HB7.out;have hs2:=sl_byte w7 255 255 rfl;clear g1 g2 g3 g4 g5 HK1)
     | (at_builtin;refine wpList_app rfl _ _ rfl elemU8 zdhv ho2 zdhv hs2 zLdZ zGLF ?_;intro v2 w8 g1 g2 g3 g4 g5;clear ho2 hs2;have G1:=Lib.hid (G0.out.push HB7.out g1 g2 g3 rfl rfl rfl);clear g1 g2 g3 g4 g5))
    have h8:=HBR.out.size
    have h9:=HW1.out
    refine ⟨⟨k+1,z3KH,zTbe,?_,fun q hq=>?_,?_⟩,zQOc⟩
    ·rw [HN2.out,←List.cons_append,HQ.out]
     have h7:=G1.out.1
     rw [HZ.out,List.append_assoc] at h7
     exact h7
    ·rcases G1.out.2.2 q hq with h|h
     ·exact HNEW.out q h
     ·omega
    ·exact HBR.out.trans (G1.out.2.1.below h8 (fun q hq=>by have:=HNEW.out q hq;omega))
  ·have hend:=HEND.out (by have:=HSZ.out;omega)
   have hq:=HQ.out
   rw [hend] at hq
   have kc:=sl_string wr (fun _=>True) _ q (HOWN.out.sl (fun _ _=>trivial))
   have hcat:(⟨q.toArray⟩:ByteArray)++⟨#[0,1]⟩=bs (2::(esc 0 [0,255] l++[0,1])):=by rw [←List.cons_append,hq];exact bs_append q [0,1]
   have hsum:(⟨q.toArray⟩:ByteArray).size+(⟨#[0,1]⟩:ByteArray).size≤9223372036854775807:=by
    have h1:=bs_size q
    have h2:(⟨#[0,1]⟩:ByteArray).size=2:=rfl
    unfold bs at h1
    rw [h1,h2];omega
   generalize hS2:bs (2::(esc 0 [0,255] l++[0,1]))=S2 at *
   have HS2:=Lib.hid hS2
   have HQ2:=Lib.hid hq
   clear hS2 hend hq
   generalize (⟨q.toArray⟩:ByteArray)=S at *
   go_wp2
   go_ret
   have h9:=HW1.out
   exact ⟨by rw [HS2.out];rfl,HB0.out.trans (HBR.out.mono zTbe)⟩
theorem refkey_bool (w:World) (n:Int) (s:ByteArray) (hn:n=0∨n=1) :
 Calls Tryz.prog 90 #[.agg #[.int .i64 3,.int .i64 n,.string s]] w fun e w'=>e=.returned (.string (bs [3,UInt8.ofNat n.toNat]))∧Below w.heap.size w w':=by
 have hall:=(Below.refl w.heap.size w).alloc (Nat.le_refl _) (.cells #[.int .i64 3,.int .i64 n,.string s] 113)
 have hsz:(w.alloc (.cells #[.int .i64 3,.int .i64 n,.string s] 113)).heap.size=w.heap.size+1:=zPXO
 have HB:=Lib.hid (hall.alloc hall.size (.cells #[.int .u8 3,.int .u8 n] 5))
 have hcv:=cv_block (w.alloc (.cells #[.int .i64 3,.int .i64 n,.string s] 113)) [3,UInt8.ofNat n.toNat]
 have hby:(by8 [3,UInt8.ofNat n.toNat]).toArray=#[.int .u8 3,.int .u8 n]:=by
  rcases hn with rfl|rfl<;>rfl
 have hl2:[3,UInt8.ofNat n.toNat].length=2:=rfl
 rw [hby,hsz,hl2] at hcv
 have hnr:0≤n∧n≤255:=zTbe
 obtain ⟨hn0,hn1⟩:=hnr
 generalize hS:bs [3,UInt8.ofNat n.toNat]=S at *
 clear hall hsz hby hn hS hl2
 go_enter Tryz.func90,Tryz.ntmps90
 go_wp2
 go_ret
 exact ⟨rfl,HB.out⟩
theorem refkey_any (w:World) (v:AV) (hr:v.right=true) (hf:fit64 v.n) :
 Calls Tryz.prog 90 #[v.agg] w fun e w'=>e=.returned (.string (bs (keyB v)))∧Below w.heap.size w w':=by
 obtain ⟨k,n,s⟩:=v
 unfold AV.right at hr
 simp only [AV.agg,keyB] at hr hf ⊢
 by_cases h1:k=1
 ·subst h1
  rw [if_pos rfl]
  exact refkey_num w n s hf
 rw [if_neg h1]
 by_cases h2:k=2
 ·subst h2
  rw [if_pos rfl]
  simp at hr
  exact refkey_text w n s zTbe
 rw [if_neg h2]
 simp [h1,h2] at hr
 obtain ⟨⟨rfl,h4⟩,_⟩:=hr
 exact refkey_bool w n s h4
theorem refkeys_any (w:World) (B:Nat→Prop) (v:Value) (l:List AV) (hl:Sl w B 3 v l.length (rowCells l)) (hr:rightAll l=true) (hf:∀ a∈l,fit64 a.n) (hll:l.length≤200) :
 Calls Tryz.prog 59 #[v] w fun e w'=>e=.returned (.string (bs (keysB l)))∧Below w.heap.size w w':=by
 obtain ⟨p,cap,rfl,hc1,hc2⟩:=hl.form
 have HL:=Lib.hid hl
 have HF:=Lib.hid hf
 have HRR:=Lib.hid hr
 clear hl hf hr
 go_enter Tryz.func59,Tryz.ntmps59
 go_wp2
 go_loopw [3,4] (fun v i wr=>∃ k:Nat,i=.int .i64 k∧k≤l.length∧v=.string (bs (keysB (l.take k)))∧Below w.heap.size w wr) (fun _ i _=>l.length - (intOf i).toNat)
 case atStart=>exact ⟨0,rfl,Nat.zero_le _,rfl,Below.refl _ _⟩
 case round =>
  obtain ⟨k,rfl,hk,rfl,hbr⟩:=hrel
  have hlen:=keysB_len l HRR.out k
  rw [List.length_take] at hlen
  have HN:=Lib.hid (fun h=>keysB_next l k h)
  have HBR:=Lib.hid hbr
  have HLR:=HL.out.below hbr
  clear hbr
  by_cases hka:k < l.length
  ·obtain ⟨g,off,cap',hv,hg,e0,e1,e2⟩:=sl_av HLR hka
   cases hv
   have hrk:l[k].right=true:=by
    exact zhFB
   have hfk:=HF.out _ (List.getElem_mem hka)
   have HN2:=Lib.hid (HN.out hka)
   clear HN HLR
   generalize l[k]=x at *
   have HP:=Lib.hid (fun w=>refkey_any w x hrk hfk)
   have hag:=z3Mw
   rw [hag] at HP
   have hkl:=keyB_length x hrk
   have hcat:bs (keysB (l.take k))++bs (keyB x)=bs (keysB (l.take (k+1))):=by rw [bs_append,HN2.out]
   have hsum:(bs (keysB (l.take k))).size+(bs (keyB x)).size≤9223372036854775807:=by rw [bs_size,bs_size];omega
   clear hrk hfk hag hkl hlen
   generalize hS2:bs (keysB (l.take (k+1)))=S2 at *
   have HS2:=Lib.hid hS2
   clear hS2
   generalize bs (keysB (l.take k))=S at *
   generalize bs (keyB x)=T at *
   go_wp2_with (go_at_call 90;refine (HP.out _).mono ?_;clear HP;rintro e w3 ⟨rfl,hb3⟩;have HB3:=Lib.hid hb3;clear hb3)
   go_roundw
   case rel=>exact ⟨k+1,z3KH,zTbe,by rw [HS2.out],HBR.out.trans (HB3.out.mono HBR.out.size)⟩
   case measure=>(simp [intOf])<;>omega
  ·obtain rfl:k=l.length:=by omega
   have hta:bs (keysB (l.take l.length))=bs (keysB l):=by rw [List.take_length]
   have HTA:=Lib.hid hta
   clear hta
   go_wp2
   go_ret
   exact ⟨by rw [←HTA.out];rfl,HBR.out⟩
theorem pickO_all {row:List AV} {ps:List Int} (h:ps.all (inR row)=true):pickO row ps=pickR row ps:=by unfold pickO;rw [if_pos h]
theorem pick_right {row:List AV} {ps:List Int} (h:ps.all (inR row)=true) (hr:rightAll row=true):rightAll (pickR row ps)=true:=by
 unfold rightAll at *
 rw [List.all_eq_true] at *
 intro a ha
 unfold pickR at ha
 obtain ⟨p,hp,rfl⟩:=List.mem_map.1 ha
 obtain ⟨_,hlt⟩:=inR_lt (h p hp)
 rw [List.getD_eq_getElem?_getD,List.getElem?_eq_getElem hlt]
 exact hr _ (List.getElem_mem hlt)
theorem rowKey_pick {row:List AV} {ps:List Int} (h:ps.all (inR row)=true) (hr:rightAll row=true):rowKey (pickO row ps)=keysB (pickR row ps):=by
 rw [pickO_all h]
 unfold rowKey
 rw [if_pos (pick_right h hr)]
theorem pickR_fit {row:List AV} (ps:List Int) (h:∀ a∈row,fit64 a.n):∀ a∈pickR row ps,fit64 a.n:=by
 intro a ha
 unfold pickR at ha
 exact zMBQ
theorem refKey_any (w:World) (B B':Nat→Prop) (s:SchV) (i:Nat) (v:Value) (row:List AV) (h:SchAt w B s) (hr:Sl w B' 3 v row.length (rowCells row)) (hi:i < s.idx.length) (hf:∀ a∈row,fit64 a.n)
 (hx:∀ x∈s.idx,x.l.length≤200) (hin:∀ x∈s.idx,x.l.all (inR row)=true) (hra:rightAll row=true) :
 Calls Tryz.prog 18 #[s.agg,.int .i64 (i:Int),v] w fun e w'=>e=.returned (.string (bs (skey s.idx row s.idx[i])))∧Below w.heap.size w w':=by
 obtain ⟨nm,cv,cl,iv,il,lim,prt,by_⟩:=s
 obtain ⟨h1,h2,h3,h4⟩:=h
 simp only at h1 h2 h3 h4 hi hx hin
 simp only [SchV.agg]
 obtain ⟨pc,cc,rfl,_,hcc⟩:=h1.form
 have hidx:=h2.1
 obtain ⟨g,off,ci,rfl,hci1,hci,_,hglt0,_⟩:=hidx.place zTbe
 have hal:=zoCq
 have HBK:=zN7s
 have HALW:=Lib.hid hal
 have HIX:=Lib.hid (h2.below hal)
 have HROW:=Lib.hid (hr.below hal)
 have HF:=Lib.hid hf
 obtain ⟨x0,x1,x2,x3,x4,x5⟩:=sch_cells HBK.out
 clear x0 x1 x3 x4 x5 h1 h2 h3 h4 hidx hr hf hcc
 obtain ⟨g',off',cap',hv,hglt,e0,e1⟩:=sl_idx HIX.out.1 hi
 cases hv
 have hil0:0 < il.length:=zTbe
 obtain ⟨g',off',cap',hv,hglt',d0,d1⟩:=sl_idx HIX.out.1 hil0
 cases hv
 have hin0:=hin il[0] (List.getElem_mem hil0)
 have hini:=hin il[i] (List.getElem_mem hi)
 have hxi:=hx il[i] (List.getElem_mem hi)
 have hx0:=hx il[0] (List.getElem_mem hil0)
 have hsl:=HIX.out.2 il[i] (List.getElem_mem hi)
 have hsl0:=HIX.out.2 il[0] (List.getElem_mem hil0)
 have hhd:(il.headD il[i])=il[0]:=by cases il with
  | nil=>simp at hil0
  | cons a t=>rfl
 have HSK:Hid (skey il row il[i]=rowKey (pickO row il[i].l)++(if il[i].unique then [] else rowKey (pickO row il[0].l))):=by
  show _=_
  unfold skey
  rw [hhd]
 generalize skey il row il[i]=out at *
 clear hhd hx hin
 generalize hxx:il[i]=x at *
 generalize hyy:il[0]=y at *
 clear hxx hyy d1
 obtain ⟨xv,xl,xu⟩:=x
 obtain ⟨yv,yl,yu⟩:=y
 simp only at *
 rw [Nat.zero_mul,Nat.add_zero] at d0
 obtain ⟨px,cx,rfl,_,_⟩:=hsl.form
 generalize hw1:w.alloc (.cells #[.string nm,.slice pc cl.length cc,.slice (some ⟨g,off,none⟩) il.length ci,.int .i64 lim,.int .i64 prt,.int .i64 by_] 25)=w1 at *
 have hke:rowKey (pickO row xl)=keysB (pickR row xl):=rowKey_pick hini hra
 have hke0:rowKey (pickO row yl)=keysB (pickR row yl):=rowKey_pick hin0 hra
 rw [hke,hke0] at HSK
 have HY0:=Lib.hid (fun W (hb:Below w1.heap.size w1 W)=>hsl0.below hb)
 have HPK:=Lib.hid (fun W (hb:Below w1.heap.size w1 W)=>refpick_any W B' B v _ row xl (HROW.out.below hb) (hsl.below hb) (List.all_eq_true.1 hini) zTbe)
 have HPK0:=Lib.hid (fun W (hb:Below w1.heap.size w1 W)=>refpick_any W B' B v yv row yl (HROW.out.below hb) (hsl0.below hb) (List.all_eq_true.1 hin0) zTbe)
 have HKY:=Lib.hid (fun W v B2 (hv:Sl W B2 3 v (pickR row xl).length (rowCells (pickR row xl)))=>refkeys_any W B2 v (pickR row xl) hv (pick_right hini hra) (pickR_fit _ HF.out) (by have:=pickR_len row xl;omega))
 have HKY0:=Lib.hid (fun W v B2 (hv:Sl W B2 3 v (pickR row yl).length (rowCells (pickR row yl)))=>refkeys_any W B2 v (pickR row yl) hv (pick_right hin0 hra) (pickR_fit _ HF.out) (by have:=pickR_len row yl;omega))
 have hsum:(bs (keysB (pickR row xl))).size+(bs (keysB (pickR row yl))).size≤9223372036854775807:=by
  rw [←hke,←hke0,bs_size,bs_size]
  exact zkA4
 have HALX:Hid (w.alloc (.cells #[.string nm,.slice pc cl.length cc,.slice (some ⟨g,off,none⟩) il.length ci,.int .i64 lim,.int .i64 prt,.int .i64 by_] 25)=w1):=hw1
 have HE1:=Lib.hid e1
 have HD0:=Lib.hid d0
 clear hsl hsl0 hke hke0 hin0 hini hra e1 d0
 generalize keysB (pickR row xl)=kx at *
 generalize keysB (pickR row yl)=ky at *
 have HB1:=Lib.hid (Below.refl w1.heap.size w1)
 go_enter Tryz.func18,Tryz.ntmps18
 go_wp2_with fail
 clear hw1 x2 e0
 refine (HPK.out _ HB1.out).mono ?_
 rintro e w2 ⟨p1,rfl,hp1,hb2⟩
 have HP1:=Lib.hid hp1
 have HB2:=Lib.hid hb2
 clear hp1 hb2 HPK
 go_wp2_with fail
 refine (HKY.out _ p1 _ HP1.out).mono ?_
 rintro e w3 ⟨rfl,hb3⟩
 have HB3:=Lib.hid (HB2.out.trans (hb3.mono HB2.out.size))
 have x2:=(HBK.out.below HB3.out).cell 2
 simp only [List.getElem?_cons_zero,List.getElem?_cons_succ] at x2
 have e1:w3.cell? ⟨g,off+i*2+1,none⟩=some (.bool xu):=(HB3.out.cell hglt).trans HE1.out
 have d0:w3.cell? ⟨g,off,none⟩=some yv:=(HB3.out.cell hglt').trans HD0.out
 clear hb3 HKY
 cases xu
 ·simp only [Bool.false_eq_true,if_false] at HSK
  go_wp2_with fail
  refine (HPK0.out _ HB3.out).mono ?_
  rintro e w4 ⟨p2,rfl,hp2,hb4⟩
  have HB4:=Lib.hid (HB3.out.trans (hb4.mono HB3.out.size))
  have HP2:=Lib.hid hp2
  clear hp2 hb4 HPK0
  go_wp2_with fail
  refine (HKY0.out _ p2 _ HP2.out).mono ?_
  exact zuOT
 ·simp only [if_true,List.append_nil] at HSK
  go_wp2
  go_ret
  exact ⟨by rw [HSK.out];rfl,HALW.out.trans (HB3.out.mono HALW.out.size)⟩
def cmpI (x y:Int):Int:=if x < y then -1 else if y < x then 1 else 0
def cmpL (a b:List UInt8):Int:=if Op.bytesLess a b then -1 else if a == b then 0 else 1
def cmpV (a b:AV):Int:=if cmpI a.kind b.kind≠0 then cmpI a.kind b.kind else if cmpI a.n b.n≠0 then cmpI a.n b.n else cmpL a.s.toList b.s.toList
def cmpR:List AV→List AV→Int
 | [],[]=>0
 | [],_::_=>-1
 | _::_,[]=>1
 | a::x,b::y=>if cmpV a b≠0 then cmpV a b else cmpR x y
theorem less_irrefl:∀ a:List UInt8,Op.bytesLess a a=false
 | []=>rfl
 | c::a=>by simp [Op.bytesLess,less_irrefl a]
theorem less_asymm:∀ a b:List UInt8,Op.bytesLess a b=true→Op.bytesLess b a=false
 | _,[],h=>zJP2
 | [],c::b,_=>rfl
 | c::a,d::b,h=>by
  simp only [Op.bytesLess,Bool.or_eq_true,Bool.and_eq_true,decide_eq_true_eq,beq_iff_eq] at h
  rcases h with h|⟨rfl,h⟩
  ·have h1:¬ d < c:=fun h2=>by have:=UInt8.lt_irrefl c;exact this (UInt8.lt_trans h h2)
   have h2:¬ d=c:=fun h2=>by subst h2;exact UInt8.lt_irrefl d h
   simp [Op.bytesLess,h1,h2]
  ·simp [Op.bytesLess,less_asymm a b h]
theorem less_total:∀ a b:List UInt8,Op.bytesLess a b=false→Op.bytesLess b a=false→a=b
 | [],[],_,_=>rfl
 | [],c::b,h,_=>zJP2
 | c::a,[],_,h=>zJP2
 | c::a,d::b,h,k=>by
  simp only [Op.bytesLess,Bool.or_eq_false_iff,decide_eq_false_iff_not] at h k
  have h1:c=d:=by
   rcases UInt8.lt_or_lt_of_ne (a:=c) (b:=d) |> fun f=>Classical.em (c=d) with h2|h2
   ·exact h2
   ·rcases UInt8.lt_or_lt_of_ne h2 with h3|h3
    ·exact absurd h3 h.1
    ·exact absurd h3 k.1
  subst h1
  have h2:Op.bytesLess a b=false:=by simpa using h.2
  have h3:Op.bytesLess b a=false:=by simpa using k.2
  rw [less_total a b h2 h3]
theorem gtr_str (x y:ByteArray) (w:World):(binOp .gtr 9 (.string x) (.string y)).run Tryz.prog w=.ok (.bool (!(Op.bytesLess x.toList y.toList || x.toList == y.toList))) w:=zyVB
def or3 (a b c:Int):Int:=if a≠0 then a else if b≠0 then b else c
def OrSt (a b c:Int) (k:Nat):Prop:=(1≤k→a=0)∧(2≤k→b=0)∧(3≤k→c=0)
theorem cmpR_take (a b:List AV) (k:Nat):(∀ j (_:j < k) (ha:j < a.length) (hb:j < b.length),cmpV a[j] b[j]=0)→k≤a.length→k≤b.length→cmpR a b=cmpR (a.drop k) (b.drop k):=by
 induction k generalizing a b with
 | zero=>intros;rfl
 | succ k ih =>
  intro h ha hb
  cases a with
  | nil=>simp at ha
  | cons x a =>
   cases b with
   | nil=>simp at hb
   | cons y b =>
    have h0:=h 0 zTbe zPXO zPXO
    simp only [List.getElem_cons_zero] at h0
    show (if cmpV x y≠0 then cmpV x y else cmpR a b)=_
    rw [if_neg (by rw [h0];decide),List.drop_succ_cons,List.drop_succ_cons]
    exact ih a b (fun j hj ha' hb'=>h (j+1) zTbe (by simpa using ha') (by simpa using hb')) (by simpa using ha) (by simpa using hb)
theorem cmpR_at (a b:List AV) (k:Nat) (h:∀ j (_:j < k) (ha:j < a.length) (hb:j < b.length),cmpV a[j] b[j]=0) (ha:k < a.length) (hb:k < b.length) (hne:cmpV a[k] b[k]≠0):cmpR a b=cmpV a[k] b[k]:=by
 rw [cmpR_take a b k h zTbe zTbe,List.drop_eq_getElem_cons ha,List.drop_eq_getElem_cons hb]
 show (if _ then _ else _)=_
 rw [if_pos hne]
theorem cmpR_end (a b:List AV) (h:∀ j (ha:j < a.length) (hb:j < b.length),cmpV a[j] b[j]=0):cmpR a b=if b.length < a.length then 1 else if a.length < b.length then -1 else 0:=by
 rcases Nat.lt_trichotomy a.length b.length with h1|h1|h1
 ·rw [cmpR_take a b a.length (fun j _ ha hb=>h j ha hb) (Nat.le_refl _) zTbe,if_neg zTbe,if_pos h1,List.drop_length,List.drop_eq_getElem_cons h1];rfl
 ·rw [cmpR_take a b a.length (fun j _ ha hb=>h j ha hb) (Nat.le_refl _) zTbe,if_neg zTbe,if_neg zTbe,List.drop_length,h1,List.drop_length];rfl
 ·rw [cmpR_take a b b.length (fun j _ ha hb=>h j ha hb) zTbe (Nat.le_refl _),if_pos h1,List.drop_length,List.drop_eq_getElem_cons h1];rfl
def SameTo (a b:List AV) (k:Nat):Prop:=∀ j (_:j < k) (ha:j < a.length) (hb:j < b.length),cmpV a[j] b[j]=0
theorem less_common (p x y:List UInt8):Op.bytesLess (p++x) (p++y)=Op.bytesLess x y:=by
 induction p with
 | nil=>rfl
 | cons c p ih =>
  show (decide (c < c) || (c == c && Op.bytesLess (p++x) (p++y)))=_
  have:¬ c < c:=UInt8.lt_irrefl c
  simp [this,ih]
def Apart (lt:Bool) (x y:List UInt8):Prop:=∃ p c d x' y',x=p++c::x'∧y=p++d::y'∧(if lt then c < d else d < c)
theorem Apart.more {lt:Bool} {x y:List UInt8} (h:Apart lt x y) (r s:List UInt8):Apart lt (x++r) (y++s):=by
 obtain ⟨p,c,d,x',y',rfl,rfl,h⟩:=h
 exact ⟨p,c,d,x'++r,y'++s,zPXO,zPXO,h⟩
theorem Apart.pre {lt:Bool} {x y:List UInt8} (h:Apart lt x y) (q:List UInt8):Apart lt (q++x) (q++y):=by
 obtain ⟨p,c,d,x',y',rfl,rfl,h⟩:=h
 exact ⟨q++p,c,d,x',y',zPXO,zPXO,h⟩
theorem Apart.swap {x y:List UInt8} (h:Apart true x y):Apart false y x:=by
 obtain ⟨p,c,d,x',y',rfl,rfl,h⟩:=h
 exact ⟨p,d,c,y',x',rfl,rfl,zynw⟩
theorem Apart.less {x y:List UInt8} (h:Apart true x y):Op.bytesLess x y=true:=by
 obtain ⟨p,c,d,x',y',rfl,rfl,h⟩:=h
 rw [less_common]
 have h2:c < d:=zynw
 show (decide (c < d) || _)=true
 simp [h2]
theorem Apart.neq {lt:Bool} {x y:List UInt8} (h:Apart lt x y):¬ x <+: y:=by
 obtain ⟨p,c,d,x',y',rfl,rfl,h⟩:=h
 intro hp
 obtain ⟨t,ht⟩:=hp
 rw [List.append_assoc] at ht
 have h2:=List.append_cancel_left ht
 have h3:c=d:=by simpa using (List.cons.inj h2).1
 subst h3
 cases lt<;>simp at h
theorem Apart.cmp {lt:Bool} {x y:List UInt8} (h:Apart lt x y):cmpL x y=if lt then -1 else 1:=by
 unfold cmpL
 cases lt
 ·have h2:Apart true y x:=by
   obtain ⟨p,c,d,x',y',rfl,rfl,h⟩:=h
   exact ⟨p,d,c,y',x',rfl,rfl,zynw⟩
  have h3:=less_asymm _ _ h2.less
  rw [h3]
  have h4:(x == y)=false:=by
   rw [beq_eq_false_iff_ne]
   intro e
   subst e
   exact h.neq (List.prefix_refl _)
  rw [h4];rfl
 ·rw [h.less];rfl
theorem ofNat_lt (a b:Nat) (h:a < b) (hb:b < 256):UInt8.ofNat a < UInt8.ofNat b:=by
 rw [UInt8.lt_iff_toNat_lt,UInt8.toNat_ofNat',UInt8.toNat_ofNat'];omega
theorem be_apart (k u v:Nat) (h:u < v) (hv:v < 256 ^ k):Apart true (be k u) (be k v):=by
 induction k generalizing u v with
 | zero=>simp at hv;omega
 | succ k ih =>
  rw [be,be]
  rw [Nat.pow_succ] at hv
  by_cases h2:u / 256=v / 256
  ·rw [h2]
   exact ⟨be k (v / 256),_,_,[],[],rfl,rfl,by simp;exact ofNat_lt _ _ zTbe zTbe⟩
  ·exact (ih (u / 256) (v / 256) zTbe zTbe).more _ _
theorem pos_lt (d:UInt8) (h:d≠0):(0:UInt8) < d:=by
 rw [UInt8.lt_iff_toNat_lt]
 have:d.toNat≠0:=fun e=>h (UInt8.toNat_inj.1 e)
 show 0 < d.toNat
 omega
theorem esc_apart:∀ (s t:List UInt8),Op.bytesLess s t=true→Apart true (esc 0 [0,255] s++[0,1]) (esc 0 [0,255] t++[0,1])
 | _,[],h=>zJP2
 | [],d::t,_=>by
  unfold esc
  by_cases hd:d=0
  ·subst hd
   rw [if_pos rfl]
   exact ⟨[0],1,255,[],esc 0 [0,255] t++[0,1],rfl,rfl,zcX3⟩
  ·rw [if_neg hd]
   exact ⟨[],0,d,[1],esc 0 [0,255] t++[0,1],rfl,rfl,by simpa using pos_lt d hd⟩
 | c::s,d::t,h=>by
  simp only [Op.bytesLess,Bool.or_eq_true,Bool.and_eq_true,decide_eq_true_eq,beq_iff_eq] at h
  unfold esc
  rcases h with h|⟨rfl,h⟩
  ·by_cases hc:c=0
   ·subst hc
    have hd:d≠0:=fun e=>by subst e;exact UInt8.lt_irrefl _ h
    rw [if_pos rfl,if_neg hd]
    exact ⟨[],0,d,_,_,rfl,rfl,zynw⟩
   ·have hd:d≠0:=fun e=>by
     subst e
     rw [UInt8.lt_iff_toNat_lt] at h
     exact absurd h (Nat.not_lt_zero _)
    rw [if_neg hc,if_neg hd]
    exact ⟨[],c,d,_,_,rfl,rfl,zynw⟩
  ·have ih:=esc_apart s t h
   have e1:∀ x y:List UInt8,(if c=0 then [0,255] else [c])++x++y=(if c=0 then [0,255] else [c])++(x++y):=fun x y=>List.append_assoc _ _ _
   rw [e1,e1]
   exact ih.pre _
theorem up_lt (n m:Int) (h:n < m) (hn:fit64 n):up64 n < up64 m:=by unfold up64;unfold fit64 at hn;omega
theorem emptyT (s:ByteArray) (h:s.toList.isEmpty=true):s.toList=[]:=zynw
theorem key_apart (u v:AV) (hu:u.right=true) (hv:v.right=true) (fu:fit64 u.n) (fv:fit64 v.n) (h:cmpV u v=-1):Apart true (keyB u) (keyB v):=by
 obtain ⟨k,n,s⟩:=u
 obtain ⟨k',n',s'⟩:=v
 have hk:k=1∨k=2∨k=3:=by
  unfold AV.right at hu
  by_cases h1:k=1
  ·exact .inl h1
  by_cases h2:k=2
  ·exact .inr (.inl h2)
  ·simp [h1,h2] at hu
   exact .inr (.inr hu.1.1)
 have hk':k'=1∨k'=2∨k'=3:=by
  unfold AV.right at hv
  by_cases h1:k'=1
  ·exact .inl h1
  by_cases h2:k'=2
  ·exact .inr (.inl h2)
  ·simp [h1,h2] at hv
   exact .inr (.inr hv.1.1)
 have hf:∀ (k n:Int) (s:ByteArray),k=1∨k=2∨k=3→∃ t,keyB ⟨k,n,s⟩=UInt8.ofNat k.toNat::t:=fun k n s h=>by
  rcases h with rfl|rfl|rfl
  ·exact ⟨_,rfl⟩
  ·exact ⟨_,rfl⟩
  ·exact ⟨_,rfl⟩
 unfold cmpV at h
 simp only at h fu fv
 by_cases hkk:k=k'
 ·subst hkk
  have e0:cmpI k k=0:=by unfold cmpI;simp
  rw [e0,if_neg zPXO] at h
  unfold AV.right at hu hv
  simp only at hu hv
  rcases hk with rfl|rfl|rfl
  ·simp at hu hv
   have es:s.toList=s'.toList:=by
    have h1:=emptyT s (by simpa using hu)
    have h2:=emptyT s' (by simpa using hv)
    rw [h1,h2]
   have ec:cmpL s.toList s'.toList=0:=by unfold cmpL;rw [es,less_irrefl];simp
   rw [ec] at h
   have hnn:n < n':=by
    unfold cmpI at h
    by_cases h1:n < n'
    ·exact h1
    ·rw [if_neg h1] at h
     split at h<;>simp at h
   exact ((be_apart 8 _ _ (up_lt n n' hnn fu) (up64_lt n' fv)).pre [1])
  ·simp at hu hv
   obtain ⟨rfl,_⟩:=hu
   obtain ⟨rfl,_⟩:=hv
   have e1:cmpI 0 0=0:=zcX3
   rw [e1,if_neg zPXO] at h
   have hl:Op.bytesLess s.toList s'.toList=true:=by
    unfold cmpL at h
    split at h
    ·assumption
    ·split at h<;>simp at h
   rw [ByteArray.toList_eq,ByteArray.toList_eq] at hl
   exact (esc_apart _ _ hl).pre [2]
  ·simp at hu hv
   have es:s.toList=s'.toList:=by
    have h1:=emptyT s (by simpa using hu.2)
    have h2:=emptyT s' (by simpa using hv.2)
    rw [h1,h2]
   have ec:cmpL s.toList s'.toList=0:=by unfold cmpL;rw [es,less_irrefl];simp
   rw [ec] at h
   have hnn:n < n':=by
    unfold cmpI at h
    by_cases h1:n < n'
    ·exact h1
    ·rw [if_neg h1] at h
     split at h<;>simp at h
   obtain ⟨rfl,rfl⟩:n=0∧n'=1:=by rcases hu.1 with rfl|rfl<;>rcases hv.1 with rfl|rfl<;>omega
   exact ⟨[3],0,1,[],[],rfl,rfl,zcX3⟩
 ·have hlt:k < k':=by
   unfold cmpI at h
   by_cases h1:k < k'
   ·exact h1
   ·have h2:k' < k:=by omega
    simp [h1,h2] at h
  obtain ⟨t,ht⟩:=hf k n s hk
  obtain ⟨t',ht'⟩:=hf k' n' s' hk'
  rw [ht,ht']
  refine ⟨[],_,_,t,t',rfl,rfl,?_⟩
  simp only [if_true]
  exact ofNat_lt _ _ zTbe zTbe
theorem cmpV_swap (u v:AV) (h:cmpV u v≠0) (h1:cmpV u v≠-1):cmpV v u=-1:=by
 unfold cmpV cmpI cmpL at *
 obtain ⟨k,n,s⟩:=u
 obtain ⟨k',n',s'⟩:=v
 simp only at *
 rcases Int.lt_trichotomy k k' with hk|hk|hk
 ·simp [hk] at h1
 ·subst hk
  simp only [Int.lt_irrefl,if_false,ne_eq,not_true_eq_false] at h h1 ⊢
  rcases Int.lt_trichotomy n n' with hn|hn|hn
  ·simp [hn] at h1
  ·subst hn
   simp only [Int.lt_irrefl,if_false,not_true_eq_false] at h h1 ⊢
   cases hl:Op.bytesLess s.toList s'.toList
   ·cases hl2:Op.bytesLess s'.toList s.toList
    ·have:=less_total _ _ hl hl2
     rw [hl,this] at h
     simp at h
    ·simp
   ·rw [hl] at h1;simp at h1
  ·have:¬ n < n':=by omega
   simp [hn]
 ·have:¬ k < k':=by omega
  simp [hk]
theorem cmpV_zero (u v:AV) (h:cmpV u v=0):u=v:=by
 obtain ⟨k,n,s⟩:=u
 obtain ⟨k',n',s'⟩:=v
 unfold cmpV cmpI cmpL at h
 simp only at h
 rcases Int.lt_trichotomy k k' with hk|hk|hk
 ·simp [hk] at h
 ·subst hk
  simp only [Int.lt_irrefl,if_false,ne_eq,not_true_eq_false] at h
  rcases Int.lt_trichotomy n n' with hn|hn|hn
  ·simp [hn] at h
  ·subst hn
   simp only [Int.lt_irrefl,if_false,not_true_eq_false] at h
   cases hl:Op.bytesLess s.toList s'.toList
   ·rw [hl] at h
    simp only [Bool.false_eq_true,if_false] at h
    split at h
    ·rename_i hs
     have hs2:s.toList=s'.toList:=by simpa using hs
     rw [ByteArray.toList_eq,ByteArray.toList_eq] at hs2
     have:s=s':=by
      obtain ⟨a⟩:=s
      obtain ⟨b⟩:=s'
      have:a=b:=Array.toList_inj.1 hs2
      rw [this]
     rw [this]
    ·simp at h
   ·rw [hl] at h;simp at h
  ·have:¬ n < n':=by omega
   simp [hn,this] at h
 ·have:¬ k < k':=by omega
  simp [hk,this] at h
theorem cmpV_three (u v:AV):cmpV u v=-1∨cmpV u v=0∨cmpV u v=1:=by
 have hI:∀ x y,cmpI x y=-1∨cmpI x y=0∨cmpI x y=1:=fun x y=>by
  unfold cmpI
  split
  ·exact .inl rfl
  split
  ·exact .inr (.inr rfl)
  ·exact .inr (.inl rfl)
 have hL:∀ x y,cmpL x y=-1∨cmpL x y=0∨cmpL x y=1:=fun x y=>by
  unfold cmpL
  split
  ·exact .inl rfl
  split
  ·exact .inr (.inl rfl)
  ·exact .inr (.inr rfl)
 unfold cmpV
 split
 ·exact hI _ _
 split
 ·exact hI _ _
 ·exact hL _ _
theorem cmpV_self (u:AV):cmpV u u=0:=by
 unfold cmpV cmpI cmpL
 simp [less_irrefl]
theorem keyB_ne (v:AV):keyB v≠[]:=by
 unfold keyB
 split
 ·simp
 split<;>simp
def okRow (l:List AV):Prop:=rightAll l=true∧∀ a∈l,fit64 a.n
theorem okRow.tail {v:AV} {l:List AV} (h:okRow (v::l)):v.right=true∧fit64 v.n∧okRow l:=by
 obtain ⟨h1,h2⟩:=h
 unfold rightAll at h1
 rw [List.all_cons,Bool.and_eq_true] at h1
 exact ⟨h1.1,h2 v zPXO,h1.2,fun a ha=>h2 a (by simp [ha])⟩
theorem keys_order:∀ (a b:List AV),okRow a→okRow b→cmpL (keysB a) (keysB b)=cmpR a b
 | [],[],_,_=>rfl
 | [],v::b,_,_=>by
  show cmpL [] (keyB v++keysB b)=-1
  cases h:keyB v with
  | nil=>exact absurd h (keyB_ne v)
  | cons c t=>rfl
 | u::a,[],_,_=>by
  show cmpL (keyB u++keysB a) []=1
  cases h:keyB u with
  | nil=>exact absurd h (keyB_ne u)
  | cons c t=>rfl
 | u::a,v::b,ha,hb=>by
  obtain ⟨a1,a2,a3⟩:=ha.tail
  obtain ⟨b1,b2,b3⟩:=hb.tail
  show cmpL (keyB u++keysB a) (keyB v++keysB b)=if cmpV u v≠0 then cmpV u v else cmpR a b
  by_cases h:cmpV u v=0
  ·obtain rfl:=cmpV_zero u v h
   rw [if_neg zynw,←keys_order a b a3 b3]
   unfold cmpL
   rw [less_common]
   have:(keyB u++keysB a == keyB u++keysB b)=(keysB a == keysB b):=by
    rw [Bool.eq_iff_iff,beq_iff_eq,beq_iff_eq]
    exact ⟨List.append_cancel_left,fun e=>by rw [e]⟩
   rw [this]
  ·rw [if_pos h]
   by_cases h1:cmpV u v=-1
   ·rw [h1]
    exact ((key_apart u v a1 b1 a2 b2 h1).more _ _).cmp
   ·have h2:=cmpV_swap u v h h1
    have h3:=(key_apart v u b1 a1 b2 a2 h2).swap
    rw [(h3.more _ _).cmp]
    rcases cmpV_three u v with h5|h5|h5
    ·exact absurd h5 h1
    ·exact absurd h5 h
    ·rw [h5];rfl
theorem keys_prefix:∀ (a b:List AV),okRow a→okRow b→(keysB a <+: keysB b↔a <+: b)
 | [],b,_,_=>⟨fun _=>List.nil_prefix,fun _=>List.nil_prefix⟩
 | u::a,[],_,_=>by
  constructor
  ·intro h
   have h2:keyB u++keysB a=[]:=by
    have:=List.prefix_nil.1 h
    exact this
   exact absurd (List.append_eq_nil_iff.1 h2).1 (keyB_ne u)
  ·intro h
   have:=List.prefix_nil.1 h
   cases this
 | u::a,v::b,ha,hb=>by
  obtain ⟨a1,a2,a3⟩:=ha.tail
  obtain ⟨b1,b2,b3⟩:=hb.tail
  have ih:=keys_prefix a b a3 b3
  show keyB u++keysB a <+: keyB v++keysB b↔_
  by_cases h:cmpV u v=0
  ·obtain rfl:=cmpV_zero u v h
   rw [List.prefix_append_right_inj,ih,List.cons_prefix_cons]
   simp
  ·have hne:u≠v:=fun e=>by subst e;exact h (cmpV_self u)
   have h4:¬ (keyB u++keysB a <+: keyB v++keysB b):=by
    by_cases h1:cmpV u v=-1
    ·exact ((key_apart u v a1 b1 a2 b2 h1).more _ _).neq
    ·exact ((key_apart v u b1 a1 b2 a2 (cmpV_swap u v h h1)).swap.more _ _).neq
   constructor
   ·intro h5;exact absurd h5 h4
   ·intro h5
    rw [List.cons_prefix_cons] at h5
    exact absurd h5.1 hne
def lessV (a b:AV):Bool:=if a.kind != b.kind then decide (a.kind < b.kind) else if a.n != b.n then decide (a.n < b.n) else Op.bytesLess a.s.toList b.s.toList
theorem cmpL_less (x y:List UInt8):cmpL x y=if Op.bytesLess x y=true then -1 else if Op.bytesLess y x=true then 1 else 0:=by
 unfold cmpL
 cases h:Op.bytesLess x y
 ·cases k:Op.bytesLess y x
  ·rw [less_total x y h k];simp
  ·have:(x == y)=false:=by
    rw [beq_eq_false_iff_ne]
    intro e
    subst e
    rw [less_irrefl] at k;cases k
   rw [this];rfl
 ·rfl
theorem cmpV_less (a b:AV):cmpV a b=if lessV a b=true then -1 else if lessV b a=true then 1 else 0:=by
 obtain ⟨ka,na,sa⟩:=a
 obtain ⟨kb,nb,sb⟩:=b
 unfold cmpV lessV cmpI
 simp only
 by_cases h1:ka=kb
 ·subst h1
  have e1:(ka != ka)=false:=zPXO
  rw [e1]
  simp only [Int.lt_irrefl,if_false,ne_eq,not_true_eq_false,Bool.false_eq_true]
  by_cases h2:na=nb
  ·subst h2
   have e2:(na != na)=false:=zPXO
   rw [e2]
   simp only [Int.lt_irrefl,if_false,not_true_eq_false,Bool.false_eq_true]
   exact cmpL_less _ _
  ·have e2:(na != nb)=true:=by simpa using h2
   have e3:(nb != na)=true:=by simpa using fun e=>h2 e.symm
   rw [e2,e3]
   by_cases h3:na < nb
   ·simp [h3]
   ·have h4:nb < na:=by omega
    simp [h3,h4]
 ·have e2:(ka != kb)=true:=by simpa using h1
  have e3:(kb != ka)=true:=by simpa using fun e=>h1 e.symm
  rw [e2,e3]
  by_cases h3:ka < kb
  ·simp [h3]
  ·have h4:kb < ka:=by omega
   simp [h3,h4]
theorem cmpR_append:∀ (a b x y:List AV),a.length=b.length→cmpR (a++x) (b++y)=if cmpR a b≠0 then cmpR a b else cmpR x y
 | [],[],_,_,_=>by simp [cmpR]
 | u::a,v::b,x,y,h=>by
  have ih:=cmpR_append a b x y zynw
  show (if cmpV u v≠0 then cmpV u v else cmpR (a++x) (b++y))=if (if cmpV u v≠0 then cmpV u v else cmpR a b)≠0 then (if cmpV u v≠0 then cmpV u v else cmpR a b) else cmpR x y
  by_cases hv:cmpV u v=0
  ·simp only [hv,ne_eq,not_true_eq_false,if_false]
   exact ih
  ·simp only [hv,ne_eq,not_false_eq_true,if_true]
theorem keysB_app (a b:List AV):keysB (a++b)=keysB a++keysB b:=by unfold keysB;simp
theorem rightAll_app {a b:List AV} (h1:rightAll a=true) (h2:rightAll b=true):rightAll (a++b)=true:=by
 unfold rightAll at *
 rw [List.all_append,h1,h2];rfl
def wayS (il:List IdxV) (a b:List AV) (x:IdxV):Int:=if cmpR (pickR a x.l) (pickR b x.l)=0∧x.unique=false then cmpR (pickR a (il.headD x).l) (pickR b (il.headD x).l) else cmpR (pickR a x.l) (pickR b x.l)
theorem stands_plain {il:List IdxV} {a b:List AV} {x:IdxV} (ha:rightAll a=true) (hb:rightAll b=true) (fa:∀ v∈a,fit64 v.n) (fb:∀ v∈b,fit64 v.n)
 (h1:x.l.all (inR a)=true) (h2:x.l.all (inR b)=true) (h3:(il.headD x).l.all (inR a)=true) (h4:(il.headD x).l.all (inR b)=true) :
 cmpL (skey il a x) (skey il b x)=wayS il a b x:=by
 unfold skey wayS
 rw [rowKey_pick h1 ha,rowKey_pick h2 hb,rowKey_pick h3 ha,rowKey_pick h4 hb]
 have oa:okRow (pickR a x.l):=⟨pick_right h1 ha,pickR_fit _ fa⟩
 have ob:okRow (pickR b x.l):=⟨pick_right h2 hb,pickR_fit _ fb⟩
 have oa0:okRow (pickR a (il.headD x).l):=⟨pick_right h3 ha,pickR_fit _ fa⟩
 have ob0:okRow (pickR b (il.headD x).l):=⟨pick_right h4 hb,pickR_fit _ fb⟩
 cases hu:x.unique
 ·simp only [Bool.false_eq_true,if_false,and_true]
  rw [←keysB_app,←keysB_app,keys_order _ _ ⟨rightAll_app oa.1 oa0.1,fun v hv=>(List.mem_append.1 hv).elim (oa.2 v) (oa0.2 v)⟩ ⟨rightAll_app ob.1 ob0.1,fun v hv=>(List.mem_append.1 hv).elim (ob.2 v) (ob0.2 v)⟩,
   cmpR_append _ _ _ _ (by rw [pickR_len,pickR_len])]
  by_cases h:cmpR (pickR a x.l) (pickR b x.l)=0
  ·rw [if_neg zynw,if_pos h]
  ·rw [if_pos h,if_neg h]
 ·simp only [if_true,List.append_nil,Bool.true_eq_false,and_false,if_false]
  exact keys_order _ _ oa ob
theorem cmpL_lt (x y:List UInt8):(Op.bytesLess x y == decide (cmpL x y < 0))=true:=by
 unfold cmpL
 cases Op.bytesLess x y
 ·cases (x == y)<;>rfl
 ·rfl
theorem cmpL_eq (x y:List UInt8):((x == y) == decide (cmpL x y=0))=true:=by
 unfold cmpL
 cases h:Op.bytesLess x y
 ·cases (x == y)<;>rfl
 ·have:(x == y)=false:=by
   rw [beq_eq_false_iff_ne]
   intro e
   subst e
   rw [less_irrefl] at h;cases h
  rw [this];rfl
end Go.Proofs.YteggkjdlajgenaaGreatDoor
