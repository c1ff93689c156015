/- Contracts of the functions that the statement reaches, one behind the other. No condition beyond each theorem's own. -/
import Derived.Test.YteggkjdlajgenaaGreatDoorTS12
set_option linter.unusedSimpArgs false
set_option linter.unusedVariables false
set_option maxRecDepth 100000
set_option maxHeartbeats 4000000
namespace Go.Proofs.YteggkjdlajgenaaGreatDoor
open Go.RowKit Go.Afx
def rS (sb:Nat) (lv:Value) (l:List Int):List Res:=[Res.blk sb 64 [lv],Res.own 3 1 lv l.length (ints l)]
theorem wback_any (w:World) (sb:Nat) (n:Int) (lv:Value) (l:List Int) (hs:Sep w (rS sb lv l)) (hl:l.length≤100000) :
 Calls Tryz.prog 264 #[.agg #[.pointer (some ⟨sb,0,none⟩),.int .i64 n]] w fun e w'=>e=.returned (.tuple #[])∧∃ lv',Trk w (feet (rS sb lv l)) w' (rS sb lv' (l++[n])):=by
 have hk:Blk w sb 64 [lv]:=hs.all (Res.blk sb 64 [lv]) (by simp [rS])
 have ho:Own w 3 1 lv l.length (ints l):=hs.all (Res.own 3 1 lv l.length (ints l)) (by simp [rS])
 have hj:∀ q,lv.ownBlock=some q→q≠sb:=fun q hq h=>by
  have h1:=(show Sep w ([Res.blk sb 64 [lv]]++[Res.own 3 1 lv l.length (ints l)]) from hs).apart sb zEaK
  exact h1 (by simp [feet,Res.own];rw [hq,h])
 obtain ⟨p,c,rfl,hc1,hc2⟩:=own_formT ho
 obtain ⟨w1,hw1⟩:∃ w1,w.alloc (.cells #[.pointer (some ⟨sb,0,none⟩),.int .i64 n] 66)=w1:=⟨_,rfl⟩
 have hb1:=zppX
 have hk1:Blk w1 w.heap.size 66 [.pointer (some ⟨sb,0,none⟩),.int .i64 n]:=hw1▸Blk.new w _ _
 obtain ⟨w2,hw2⟩:∃ w2,(w1.alloc (.cells #[.int .i64 n] 3)).drew=w2:=⟨_,rfl⟩
 have hb2:Below w1.heap.size w1 w2:=hw2▸((Below.refl _ _).alloc (Nat.le_refl _) _).drew
 have hs2:Sl w2 (fun _=>True) 1 (.slice (some ⟨w1.heap.size,0,none⟩) 1 1) [n].length (ints [n]):=by
  rw [←hw2]
  exact ((Own.made w1 3 1 (ints [n]) [] 1 1 rfl (Ones.nil.cons rfl) (Nat.le_refl _) zdUY zN8V).sl (B:=fun _=>True) (fun _ _=>trivial)).below (Below.refl _ _).drew
 have hb12:=hb1.trans (hb2.mono hb1.size)
 have ho2:=ho.below hb12
 have hk2:=hk.below hb12
 have x0:w1.cell? ⟨w.heap.size,0,none⟩=some (.pointer (some ⟨sb,0,none⟩)):=hk1.cell 0
 have x1:w1.cell? ⟨w.heap.size,1,none⟩=some (.int .i64 n):=hk1.cell 1
 have c0:w1.cell? ⟨sb,0,none⟩=some (.slice p l.length c):=(hk.below hb1).cell 0
 have hsl:sb < w1.heap.size:=(hk.below hb1).lt
 have hbl:w.heap.size < w1.heap.size:=hk1.lt
 have hag:∀ B:Nat→Prop,(∀ q,B q→q < w1.heap.size)→Agree B w1.drew (w1.alloc (.cells #[.int .i64 n] 3)).drew:=fun B hB b o hb=>by
  have h1:=hb2.cell (p:=⟨b,o,none⟩) (hB b hb)
  rw [←hw2] at h1
  exact h1
 have HAG:=Lib.hid hag
 have HT:=Lib.hid ((Trk.start hs).below hb12)
 have HK2:=Lib.hid hk2
 have HJ:=Lib.hid hj
 have HNB:=Lib.hid ho.lt
 have HW2:=Lib.hid hw2
 clear hs hk ho hj hb1 hk1 hb2 hb12 hk2 hag hw2
 go_enter Tryz.func264,Tryz.ntmps264
 go_upto_region 1 with fail
 clear hw1
 refine wp_region_lit_plan [] [(0,0),(2,0),(7,0),(1,2),(3,2),(4,0),(5,0),(6,2),(8,1),(9,3),(10,3),(11,0),(12,0),(13,4)] ((fun q=>q=w.heap.size∨q=sb)) zyVB zyVB (fun c a d v w h=>zx0I) ?_
 go_wp2_with (first|(refine stp ?_))
 refine ⟨HAG.out _ (fun q hq=>zcbp),?_⟩
 rw [HW2.out]
 have hz2:w1.heap.size≤w2.heap.size:=by rw [←HW2.out];simp
 have HZ2:=Lib.hid hz2
 have HOB:=Lib.hid ho2.lt
 clear x0 x1 c0 hz2
 go_wp2_with (first|(refine stp ?_)|(at_builtin;refine wpList_app rfl _ _ rfl elemInt zdhv ho2 zdhv hs2 (by unfold maxLen;simp;omega) zr2F ?_;intro v3 w3 g1 g2 g3 g4 g5;clear ho2 hs2;have hag3:Agree (fun q=>q=w.heap.size∨q=sb) w2 w3:=agree_set g2 (fun q hq=>⟨by rcases hq with rfl|rfl<;>(have:=HZ2.out;omega),fun h=>by rcases hq with rfl|rfl;exact absurd (HNB.out _ h) (Nat.lt_irrefl _);exact HJ.out _ h rfl⟩);have k3:=HK2.out.only g2 (fun h=>HJ.out _ h rfl);have j0:w3.cell? ⟨sb,0,none⟩=some (.slice p l.length c):=k3.cell 0;have jf:∀ i,w3.frozen? ⟨sb,i,none⟩=false:=k3.frozen;have jl:=k3.lt;obtain ⟨p3,c3,hv3,hc31,hc32⟩:=own_formT g1;subst hv3;have G1:=Lib.hid g1;have G2:=Lib.hid g2;have G3:=Lib.hid (own_new g3);have HK3:=Lib.hid k3;clear g1 g2 g3 g4 g5 k3))
 go_end0
 refine ⟨rfl,.slice p3 (l.length+[n].length) c3,?_⟩
 have h1:=Trk.ownTo (HT.out.perm (List.Perm.swap _ _ _)) G1.out G2.out G3.out
 have h2:=Trk.blkSet (h1.perm (List.Perm.swap _ _ _)) 0 (.slice p3 (l.length+[n].length) c3)
 unfold rS
 rw [List.length_append]
 have e:ints l++ints [n]=ints (l++[n]):=zN8V
 rw [←e]
 exact h2
def wv (sb i:Nat):Value:=.iface 66 (.agg #[.pointer (some ⟨sb,0,none⟩),.int .i64 (i:Int)])
def wseg (sb a k:Nat):List Value:=(List.range' a k).map (wv sb)
theorem wseg_length (sb a k:Nat):(wseg sb a k).length=k:=by simp [wseg]
theorem wseg_app (sb a k m:Nat):wseg sb a k++wseg sb (a+k) m=wseg sb a (k+m):=by
 unfold wseg
 rw [←List.map_append]
 congr 1
 simp
theorem wseg_one (sb a:Nat):wseg sb a 1=[wv sb a]:=rfl
theorem wseg_take (sb:Nat) {k n:Nat} (h:k≤n):(wseg sb 0 n).take k=wseg sb 0 k:=by
 obtain ⟨m,rfl⟩:∃ m,n=k+m:=⟨n - k,zTbe⟩
 rw [←wseg_app,List.take_left' (wseg_length _ _ _)]
def downs (n k:Nat):List Int:=(List.range (n - k)).map fun (i:Nat)=>(n:Int) - 1 - (i:Int)
theorem downs_length (n k:Nat):(downs n k).length=n - k:=by simp [downs]
theorem downs_step {n k:Nat} (h:k < n):downs n (k+1)++[(k:Int)]=downs n k:=by
 unfold downs
 have e:n - k=(n - (k+1))+1:=zTbe
 rw [e,List.range_succ,List.map_append]
 congr 1
 simp only [List.map_cons,List.map_nil,List.cons.injEq,and_true]
 omega
theorem rJ_cut {w0 w:World} {F:List Nat} {jb g off cap n k:Nat} {vs:List Value} {fr:List Res} (h:Trk w0 F w (rJ (some jb) (.slice (some ⟨g,off,none⟩) n cap) vs++fr)) (hn:vs.length=n) (hk:k≤n) :
 Trk w0 F (w.setCell ⟨jb,0,none⟩ (.slice (some ⟨g,off,none⟩) k cap)) (rJ (some jb) (.slice (some ⟨g,off,none⟩) k cap) (vs.take k)++fr):=by
 have h1:=h.perm (rs':=Res.own 139 1 (.slice (some ⟨g,off,none⟩) n cap) vs.length vs::Res.blk jb 61 [.slice (some ⟨g,off,none⟩) n cap]::fr) (perm_of_cnt fun a=>by rw [rJ_some];simp only [cnt_append,cnt_cons,cnt_nil];omega)
 have ho:Own w 139 1 (.slice (some ⟨g,off,none⟩) n cap) vs.length vs:=h1.own zPXO
 rw [hn] at ho
 have ht:=ho.take hk
 rw [Nat.mul_one] at ht
 have h2:=h1.swap (r':=Res.own 139 1 (.slice (some ⟨g,off,none⟩) k cap) k (vs.take k)) ht (show (Value.ownBlock (.slice (some ⟨g,off,none⟩) k cap)).toList.Nodup from ownBlock_nodup _) (fun q hq=>hq)
 have h3:=Trk.blkSet (h2.perm (List.Perm.swap _ _ _)) 0 (.slice (some ⟨g,off,none⟩) k cap)
 have hlk:(vs.take k).length=k:=z2Pg
 refine h3.perm (perm_of_cnt fun a=>?_)
 rw [rJ_some,hlk]
 simp only [cnt_append,cnt_cons,cnt_nil,List.set_cons_zero]
 omega
def WSt (w0:World) (jb sb n k k2:Nat) (wr:World):Prop:=k≤n∧∃ jv lv,Trk w0 [] wr (rJ (some jb) jv (wseg sb 0 k)++rS sb lv (downs n k2))
theorem wjback_any (w0 w:World) (jb sb n:Nat) (hn:n≤1000) (h:WSt w0 jb sb n n n w) (m:Int) :
 Calls Tryz.prog 31 #[ptrV jb,.int .i64 m] w fun e w'=>e=.returned (.int .i64 ((n - (max m 0).toNat:Nat):Int))∧WSt w0 jb sb n (min n (max m 0).toNat) (min n (max m 0).toNat) w':=by
 refine jback_gen w jb n zTbe (fun k wr=>WSt w0 jb sb n k k wr) (fun k wr=>WSt w0 jb sb n k (k+1) wr) (fun _=>264) (fun k=>.agg #[.pointer (some ⟨sb,0,none⟩),.int .i64 (k:Int)]) h ?_ ?_ ?_ m
 ·rintro k wr ⟨hk,jv,lv,hT⟩
  have h1:=mark_u (some jb) jv (wseg sb 0 k) hT.sep.left
  have h3:lenJ (some jb) (wseg sb 0 k)=k:=wseg_length _ _ _
  rw [h3] at h1
  exact h1
 ·rintro k wr hk ⟨_,jv,lv,hT⟩
  have hbk:Blk wr jb 61 [jv]:=hT.sep.all (Res.blk jb 61 [jv]) (by rw [rJ_some];simp)
  have how:Own wr 139 1 jv (wseg sb 0 (k+1)).length (wseg sb 0 (k+1)):=hT.sep.all (Res.own 139 1 jv (wseg sb 0 (k+1)).length (wseg sb 0 (k+1))) (by rw [rJ_some];simp)
  rw [wseg_length] at how
  obtain ⟨g,off,cap,hjv,hc1,hc2,_,hgl,hcs⟩:=(how.sl (B:=fun _=>True) (fun _ _=>trivial)).place zTbe
  subst hjv
  unfold maxLen at hc2
  have hck:wr.cell? ⟨g,off+k,none⟩=some (wv sb k):=by
   rw [hcs k (by rw [wseg_length];omega),←wseg_app sb 0 k 1,Nat.zero_add,wseg_one,List.getElem?_append_right (by rw [wseg_length];exact Nat.le_refl _),wseg_length,Nat.sub_self]
   rfl
  have hcut:=rJ_cut hT (wseg_length _ _ _) (Nat.le_succ k)
  rw [wseg_take sb (Nat.le_succ k)] at hcut
  exact ⟨g,off,cap,66,hbk.cell 0,hc1,hc2,hbk.frozen,hbk.lt,hck,fun w=>zyVB,fun w=>zyVB,⟨Nat.le_of_lt hk,_,lv,hcut⟩⟩
 ·rintro k w1 hk ⟨_,jv,lv,hT⟩
  have hp:(rJ (some jb) jv (wseg sb 0 k)++rS sb lv (downs n (k+1))).Perm (rS sb lv (downs n (k+1))++rJ (some jb) jv (wseg sb 0 k)):=perm_of_cnt fun a=>by simp only [cnt_append];omega
  refine (wback_any w1 sb (k:Int) lv (downs n (k+1)) ((hT.sep.perm hp).left) (by rw [downs_length];omega)).mono ?_
  rintro e w' ⟨rfl,lv',hT2⟩
  rw [downs_step hk] at hT2
  have h3:=(hT.perm hp).call hT2
  exact ⟨rfl,Nat.le_of_lt hk,jv,lv',h3.perm (perm_of_cnt fun a=>by simp only [cnt_append];omega)⟩
theorem downs_get {n k i:Nat} (h:i < n - k):(ints (downs n k))[i]?=some (.int .i64 ((n:Int) - 1 - (i:Int))):=by
 unfold ints downs
 rw [List.getElem?_map,List.getElem?_map,List.getElem?_range h]
 rfl
theorem usteps_any (w:World) (hm:Mx w) (v:Value) (l:List UInt8) (h:Sl w (fun _=>True) 1 v l.length (by8 l)) (m:Int) (hmf:fit64 m) :
 Calls Tryz.prog 6 #[v,.int .i64 m] w fun e w'=>e=.returned (.bool true)∧Below w.heap.size w w':=by
 obtain ⟨p,cap,rfl,hc1,hc2⟩:=h.form
 obtain ⟨n,hn⟩:=zwjg
 rw [hn] at hc1 ⊢
 have HS:=Lib.hid h
 have HN:=Lib.hid hn
 have HMF:=Lib.hid hmf
 have HAW:=Lib.hid (fun W (hb:Below w.heap.size w W)=>awake10_any W (hm.below hb))
 clear h hn hm hmf
 go_enter Tryz.func6,Tryz.ntmps6
 by_cases h20:20 < n
 ·go_wp2_with (go_at_call 28;refine (HAW.out _ (Below.refl _ _)).mono ?_;rintro e wZ ⟨rfl,hbZ⟩)
  go_ret
  exact ⟨rfl,hbZ⟩
 go_wp2_with fail
 refine (HAW.out _ (Below.refl _ _)).mono ?_
 rintro e w2 ⟨rfl,hb2⟩
 clear HAW
 obtain ⟨w3,hw3⟩:=zfMa
 obtain ⟨w4,hw4⟩:∃ w4,w3.alloc (.cells #[.slice none 0 0] 64)=w4:=⟨_,rfl⟩
 have hb3:=zUeY
 have hb4:=zvR2
 have hk3:Blk w3 w2.heap.size 61 [.slice none 0 0]:=hw3▸Blk.new w2 _ _
 have hk4:Blk w4 w3.heap.size 64 [.slice none 0 0]:=hw4▸Blk.new w3 _ _
 have hT4:Trk w [] w4 (rJ (some w2.heap.size) (.slice none 0 0) (wseg w3.heap.size 0 0)++rS w3.heap.size (.slice none 0 0) []):=by
  have h0:Trk w [] w2 []:=⟨⟨zPXO,z07k⟩,Only.of_none hb2,z07k⟩
  have own0:∀ {W:World} {rs:List Res} (e:TypeId),Trk w [] W rs→Trk w [] W (Res.own e 1 (.slice none 0 0) 0 []::rs):=fun e h=>h.new (Own.nil _ _ _) znD9 znD9 (Below.refl _ _)
  have h1:=(own0 3 (own0 139 h0))
  have h2:=h1.new (r:=Res.blk w2.heap.size 61 [.slice none 0 0]) hk3 zg6m zg6m hb3
  have h3:=h2.new (r:=Res.blk w3.heap.size 64 [.slice none 0 0]) hk4 zg6m zg6m hb4
  refine h3.perm (perm_of_cnt fun a=>?_)
  rw [rJ_some]
  unfold rS wseg
  simp only [cnt_append,cnt_cons,cnt_nil,List.range'_zero,List.map_nil,List.length_nil,ints]
  omega
 have HT4:=Lib.hid hT4
 have HB04:=Lib.hid (hb2.trans ((hb3.trans (hb4.mono hb3.size)).mono hb2.size))
 clear hb2 hb3 hb4 hk3 hk4 hT4
 go_wp2_with fail
 clear hw3 hw4
 generalize w2.heap.size=jb at *
 generalize w3.heap.size=sb at *
 go_loopw [7,8] (fun nv iv wr=>∃ (i N:Nat),nv=.int .i64 N∧iv=.int .i64 i∧i≤n∧N≤4*i∧∃ jv,Trk w [] wr (rJ (some jb) jv (wseg sb 0 N)++rS sb (.slice none 0 0) [])) (fun _ iv _=>n - (intOf iv).toNat)
 case atStart=>exact ⟨0,0,rfl,rfl,Nat.zero_le _,Nat.zero_le _,_,HT4.out⟩
 case round =>
  obtain ⟨i,N,rfl,rfl,hi,hN,jv,hT⟩:=hrel
  obtain ⟨wo,rfl⟩:=zDit
  by_cases hin:i < n
  ·skip
   have HT:=Lib.hid hT
   have hbw:Below w.heap.size w wo:=hT.only.below (Nat.le_refl _) (fun q hq=>zks3)
   have HBW:=Lib.hid hbw
   have hil:i < l.length:=by rw [HN.out];exact hin
   obtain ⟨g,off,cap',hv,_,_,_,hgl,hcs⟩:=HS.out.place (by rw [HN.out];omega)
   rw [HN.out] at hv
   cases hv
   obtain ⟨x,hx⟩:∃ x:Nat,l[i].toNat=x:=⟨_,rfl⟩
   have hx256:x < 256:=by rw [←hx];exact l[i].toNat_lt
   have hg0:w.cell? ⟨g,off+i,none⟩=some (.int .u8 (x:Int)):=by rw [hcs i (by rw [by8_length];exact hil),by8_get l i hil,hx]
   have HG0:=Lib.hid hg0
   have HGL:=Lib.hid hgl
   have hm5:(x:Int) % 5=((x % 5:Nat):Int):=zTbe
   clear hT hbw hcs hg0 hx hil
   go_wp2_with fail
   obtain ⟨x5,hx5⟩:∃ x5,x % 5=x5:=⟨_,rfl⟩
   rw [hx5] at hm5
   have hx5l:x5 < 5:=zTbe
   clear hx5
   go_loopw [7,9,10] (fun nv lv kv wr=>∃ k M:Nat,nv=.int .i64 (M:Int)∧M=N+k∧kv=.int .i64 k∧k≤x5∧Trk w [] wr (Res.own 139 1 lv k (wseg sb N k)::(rJ (some jb) jv (wseg sb 0 N)++rS sb (.slice none 0 0) []))) (fun _ _ kv _=>x5 - (intOf kv).toNat)
   case atStart=>exact ⟨0,N,rfl,rfl,rfl,Nat.zero_le _,HT.out.new (Own.nil _ _ _) znD9 znD9 (Below.refl _ _)⟩
   case round =>
    obtain ⟨k,M,rfl,hM,rfl,hk,hT⟩:=hrel
    obtain ⟨wi,rfl⟩:∃ wi:World,wi=wr:=⟨_,rfl⟩
    have hbw:Below w.heap.size w wi:=hT.only.below (Nat.le_refl _) (fun q hq=>zks3)
    have hgi:wi.cell? ⟨g,off+i,none⟩=some (.int .u8 (x:Int)):=(hbw.cell (p:=⟨g,off+i,none⟩) HGL.out).trans HG0.out
    have ho:Own wi 139 1 u9 k (wseg sb N k):=hT.own zPXO
    obtain ⟨po,co,hvo,hco1,hco2⟩:=own_formT ho
    subst hvo
    have HT2:=Lib.hid hT
    have hM1:M≤1000:=zTbe
    by_cases hkx:k < x5
    ·obtain ⟨w5,hw5⟩:∃ w5,wi.alloc (.cells #[.iface 66 (.agg #[.pointer (some ⟨sb,0,none⟩),.int .i64 (M:Int)])] 139)=w5:=⟨_,rfl⟩
     have hb5:Below wi.heap.size wi w5:=hw5▸(Below.refl _ _).alloc (Nat.le_refl _) _
     have hs5:Sl w5 (fun _=>True) 1 (.slice (some ⟨wi.heap.size,0,none⟩) 1 1) [wv sb M].length [wv sb M]:=by
      rw [←hw5]
      exact box1u wi (wv sb M) rfl
     have ho5:=ho.below hb5
     have HT5:=Lib.hid (hT.below hb5)
     have HM:=Lib.hid hM
     clear hT hbw ho hb5 hM
     go_wp2_with (at_builtin;refine wpList_app rfl _ _ rfl elemStepU zdhv ho5 zdhv hs5 (by unfold maxLen;simp;omega) zr2F ?_;intro v3 w6 g1 g2 g3 g4 g5;clear ho5 hs5;have G1:=Lib.hid g1;have G2:=Lib.hid g2;have G3:=Lib.hid (own_new g3);clear g1 g2 g3 g4 g5)
     clear hw5
     go_roundw
     case rel =>
      refine ⟨k+1,M+1,z3KH,by have:=HM.out;omega,z3KH,zTbe,?_⟩
      have h4:=Trk.ownTo HT5.out G1.out G2.out G3.out
      have e:wseg sb N k++[wv sb M]=wseg sb N (k+1):=by rw [←wseg_one,HM.out,wseg_app]
      rw [e] at h4
      exact h4
     case measure=>(simp [intOf])<;>omega
    ·obtain rfl:k=x5:=by omega
     have hsep:=hT.sep
     have hsl:Sl wi (fun _=>True) 1 (.slice po k co) (wseg sb N k).length (wseg sb N k):=by
      rw [wseg_length];exact ho.sl (fun _ _=>trivial)
     have HNT:=Lib.hid (note_u wi (some jb) jv (wseg sb 0 N) ((hsep.right (a:=[Res.own 139 1 (.slice po k co) k (wseg sb N k)])).left) _ _ _ hsl (by rw [wseg_length];omega) (by rw [wseg_length];omega))
     unfold ptrJ ptrV at HNT
     have HM:=Lib.hid hM
     clear hT hbw ho hsep hsl hM
     go_wp2_with fail
     refine HNT.out.mono ?_
     clear HNT
     rintro e w6 ⟨rfl,jv',hn⟩
     have hfin:Trk w [] w6 (rJ (some jb) jv' (wseg sb 0 M)++rS sb (.slice none 0 0) []):=by
      have h1:Trk w [] wi (rJ (some jb) jv (wseg sb 0 N)++rS sb (.slice none 0 0) []):=HT2.out.drop
      have h2:=h1.call hn
      have e:wseg sb 0 N++wseg sb N k=wseg sb 0 M:=by
       have:=wseg_app sb 0 N k
       rw [Nat.zero_add] at this
       rw [this,HM.out]
      rw [e] at h2
      exact h2
     have HFIN:=Lib.hid hfin
     clear hn hfin
     go_wp2
     go_roundw
     case rel=>exact ⟨i+1,M,rfl,z3KH,zTbe,by have:=HM.out;omega,jv',HFIN.out⟩
     case measure=>(simp [intOf])<;>omega
  ·skip
   have hni:i=n:=zTbe
   have hN80:N≤80:=zTbe
   have hMK:=Lib.hid (mark_u (some jb) jv (wseg sb 0 N) hT.sep.left)
   have h3:lenJ (some jb) (wseg sb 0 N)=N:=wseg_length _ _ _
   rw [h3] at hMK
   have hsb:Blk wo sb 64 [.slice none 0 0]:=hT.sep.all (Res.blk sb 64 [.slice none 0 0]) (by unfold rS;simp)
   have s0:wo.cell? ⟨sb,0,none⟩=some (.slice none 0 0):=hsb.cell 0
   have hsl:=hsb.lt
   have e0:downs N N=[]:=by unfold downs;rw [Nat.sub_self];rfl
   have hBK:=wjback_any w wo jb sb N zTbe ⟨Nat.le_refl _,jv,.slice none 0 0,by rw [e0];exact hT⟩ m
   obtain ⟨pm,hpm⟩:∃ pm:Nat,(max m 0).toNat=pm:=⟨_,rfl⟩
   have hmx:max m 0=(pm:Int):=zTbe
   obtain ⟨to',hto⟩:∃ to':Nat,min N pm=to':=⟨_,rfl⟩
   have hmn:min (pm:Int) (N:Int)=(to':Int):=zTbe
   have hcn:((N - pm:Nat):Int)=(N:Int) - (to':Int):=zTbe
   have htn:to'≤N:=zTbe
   rw [hpm,hto,hcn] at hBK
   have HBK:=Lib.hid hBK
   unfold ptrJ ptrV at hMK
   unfold ptrV at HBK
   clear hT hsb hBK hpm hto hcn h3 e0
   go_wp2_with fail
   refine hMK.out.mono ?_
   clear hMK
   rintro e w5 ⟨rfl,rfl⟩
   go_wp2_with fail
   clear s0 hsl
   refine HBK.out.mono ?_
   clear HBK
   rintro e w6 ⟨rfl,_,jv6,lv6,hT6⟩
   obtain ⟨d,hd⟩:∃ d,N - to'=d:=⟨_,rfl⟩
   have hd2:(N:Int) - (to':Int)=(d:Int):=zTbe
   have hsb:Blk w6 sb 64 [lv6]:=hT6.sep.all (Res.blk sb 64 [lv6]) (by unfold rS;simp)
   have hso:Own w6 3 1 lv6 (downs N to').length (ints (downs N to')):=hT6.sep.all (Res.own 3 1 lv6 (downs N to').length (ints (downs N to'))) (by unfold rS;simp)
   rw [downs_length,hd] at hso
   obtain ⟨ps,cs,hvs,hcs1,hcs2⟩:=own_formT hso
   subst hvs
   have s0:w6.cell? ⟨sb,0,none⟩=some (.slice ps d cs):=hsb.cell 0
   have hsl:=hsb.lt
   have HM6:=Lib.hid (mark_u (some jb) jv6 (wseg sb 0 to') hT6.sep.left)
   have h3:lenJ (some jb) (wseg sb 0 to')=to':=wseg_length _ _ _
   rw [h3] at HM6
   unfold ptrJ ptrV at HM6
   have HSO:=Lib.hid (hso.sl (B:=fun _=>True) (fun _ _=>trivial))
   have HFB:Hid (Below w.heap.size w w6):=Lib.hid (hT6.only.below (Nat.le_refl _) (fun q hq=>zks3))
   have HD:=Lib.hid hd
   clear hT6 hsb hso h3 hd hmx hmn
   go_wp2_with fail
   refine HM6.out.mono ?_
   clear HM6
   rintro e w7 ⟨rfl,rfl⟩
   go_wp2
   go_loopw [12] (fun iv wr=>∃ k:Nat,iv=.int .i64 k∧k≤d∧wr=w7) (fun iv _=>d - (intOf iv).toNat)
   case atStart=>exact ⟨0,rfl,Nat.zero_le _,rfl⟩
   case round =>
    obtain ⟨k,rfl,hk,rfl⟩:=hrel
    by_cases hkd:k < d
    ·obtain ⟨g3,o3,cp3,hv3,_,_,_,hg3,hc3⟩:=HSO.out.place zTbe
     cases hv3
     have ck:wr.cell? ⟨g3,o3+k,none⟩=some (.int .i64 ((N:Int) - 1 - (k:Int))):=by
      rw [hc3 k (by simp [ints,downs_length];rw [HD.out];exact hkd),downs_get (by rw [HD.out];exact hkd)]
     clear hc3
     go_wp2
     go_roundw
     case rel=>exact ⟨k+1,z3KH,zTbe,by first|rfl|trivial⟩
     case measure=>(simp [intOf])<;>omega
    ·go_wp2
     go_ret
     exact ⟨rfl,HFB.out⟩
theorem ocU8:Tryz.prog.cellsOf 5=1:=zyVB
theorem by8_flat:∀ l:List UInt8,(l.map fun x=>[Value.int .u8 (x.toNat:Int)]).flatten=by8 l
 | []=>rfl
 | x::t=>by
  have h:=by8_flat t
  simp only [List.map_cons,List.flatten_cons,h]
  rfl
theorem open_u8T {H:Type} {enc:TypeId × Value→H} {w:World} {v:Value} {d:DataW H} {ps:List MemPlace} (h:DataW.Trod enc Tryz.prog w 0 (fun _=>true) true 57 v d ps) (hv:v.cells.toList=[v]) :
 ∃ l:List UInt8,Sl w (fun _=>True) 1 v l.length (by8 l):=by
 obtain ⟨fuel,hf⟩:=h
 rw [hv] at hf
 obtain ⟨es,h1,h2⟩:=open_sl Tryz.underlying57 ocU8 zTbe hf (fun c=>∃ x:UInt8,c=[Value.int .u8 (x.toNat:Int)]∧True) (fun c ⟨x,hc,_⟩=>by subst hc;exact Ones.nil.cons rfl) (fun f c y hl hy=>by
  obtain ⟨c0,rfl⟩:∃ c0,c=[c0]:=by
   match c,hl with
   | [x],_=>exact ⟨x,rfl⟩
  obtain ⟨k,e0,_,w0⟩:=DataW.trod_int Tryz.underlying5 hy
  simp only [List.cons.injEq,and_true] at e0
  subst e0
  have hk:0≤k∧k < 256:=by
   have h3:IntKind.u8.min=0:=rfl
   have h4:IntKind.u8.max=255:=rfl
   simp [Lit.wf] at w0
   omega
  refine ⟨UInt8.ofNat k.toNat,?_,trivial⟩
  have e:((UInt8.ofNat k.toNat).toNat:Int)=k:=by
   rw [UInt8.toNat_ofNat']
   omega
  rw [e])
 obtain ⟨l,rfl,_⟩:=choose_list es (fun c hcm=>(h1 c hcm).2)
 rw [List.length_map,by8_flat] at h2
 exact ⟨l,h2⟩
theorem usteps_law (v:Value) (l:List UInt8) (m:Int) (hm1:(Lit.int IntKind.i64 m).wf=true) (w:World) (hm:Mx w) (h:Sl w (fun _=>True) 1 v l.length (by8 l)) :
 Calls Tryz.prog 6 #[v,.int .i64 m] w fun e w'=>e=.returned (.bool true)∧Below w.heap.size w w' :=
 usteps_any w hm v l h m (wf_fit64 hm1)
end Go.Proofs.YteggkjdlajgenaaGreatDoor
