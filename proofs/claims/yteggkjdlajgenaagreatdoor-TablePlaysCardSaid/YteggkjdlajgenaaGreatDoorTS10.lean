/- Contracts of the functions that the statement reaches, one behind the other. No condition beyond each theorem's own. -/
import Derived.Test.YteggkjdlajgenaaGreatDoorTS6
set_option linter.unusedSimpArgs false
set_option linter.unusedVariables false
set_option maxRecDepth 100000
set_option maxHeartbeats 4000000
theorem ztFl {P:Prop} (h:P:=by
 have hm:k=(be256 u).length:=zTbe
 have HM:=Lib.hid hm
 have HL1:=Lib.hid (lay_one w t b F rest l HB.out k zTbe zTbe)
 clear hkl hm
 go_wp2_with (go_at_call 161;refine HL1.out.mono ?_;clear HL1;rintro e w2 ⟨rfl,F2,h21,h22,h23⟩;have H21:=Lib.hid h21;have H22:=Lib.hid h22;have H23:=Lib.hid h23;clear h21 h22 h23)
 go_loopw [5] (fun i wr=>∃ (j:Nat) (F3:Nat→Prop),i=.int .i64 ((j:Int) - 1)∧j≤k∧Buf wr t b F3 rest (l++[UInt8.ofNat k]++(be256 u).take (k - j))∧Only F w wr∧∀ q,F3 q→F q∨w.heap.size≤q) (fun i _=>(intOf i+1).toNat)
 case atStart=>exact ⟨k,F2,rfl,Nat.le_refl _,zQZ8,H22.out,H23.out⟩
 case round =>
  obtain ⟨j,F3,h5,hj,hb3,ho3,hf3⟩:=hrel
  have HB3:=Lib.hid hb3
  have HO3:=Lib.hid ho3
  have HF3:=Lib.hid hf3
  clear hb3 ho3 hf3
  rcases Nat.eq_zero_or_pos j with rfl|hpos
  ·have e5:(((0:Nat):Int) - 1)=-1:=by omega
   rw [e5] at h5
   subst h5
   go_wp2
   go_end0
   refine ⟨rfl,F3,?_,HO3.out,HF3.out⟩
   have h1:=HB3.out
   rw [Nat.sub_zero,List.take_of_length_le (by rw [←HM.out];exact Nat.le_refl _),List.append_assoc] at h1
   have h2:numB u=[UInt8.ofNat k]++be256 u:=by unfold numB;rw [←HM.out];rfl
   rw [h2];exact h1
  ·obtain ⟨i,rfl⟩:∃ i,j=i+1:=⟨j - 1,zTbe⟩
   have e5:(((i+1:Nat):Int) - 1)=i:=zTbe
   rw [e5] at h5
   subst h5
   have hi8:(i:Int) < 8:=zTbe
   have hsh:=shr_nat u i
   obtain ⟨d,hd⟩:∃ d,d=u / 256 ^ i % 256:=⟨_,rfl⟩
   have hd256:d < 256:=zTbe
   have hwr:IntKind.u8.wrap ((u / 256 ^ i:Nat):Int)=(d:Int):=by rw [IntKind.wrap_u8];omega
   have hL3:=lay_one wr t b F3 rest _ HB3.out d hd256 zo93
   have hcat:l++[UInt8.ofNat k]++(be256 u).take (k - (i+1))++[UInt8.ofNat d]=l++[UInt8.ofNat k]++(be256 u).take (k - i):=by
    have hg:=be_get i u (by rw [←HM.out];omega)
    have hlt:k - (i+1) < (be256 u).length:=by rw [←HM.out];omega
    have e1:k - i=k - (i+1)+1:=zTbe
    rw [e1,←List.take_append_getElem hlt,←List.append_assoc]
    congr 2
    rw [hd,←hg]
    congr 1
    rw [←HM.out];omega
   rw [hcat] at hL3
   have HL3:=Lib.hid hL3
   clear hL3 hcat hd
   generalize ((u / 256 ^ i:Nat):Int)=q at *
   go_wp2_with (go_at_call 161;refine HL3.out.mono ?_;clear HL3;rintro e w4 ⟨rfl,F4,h41,h42,h43⟩;have H41:=Lib.hid h41;have H42:=Lib.hid h42;have H43:=Lib.hid h43;clear h41 h42 h43)
   have ho4:Only F w w4:=HO3.out.trans H42.out (fun q hq h=>by
    rcases HF3.out q h with h2|h2
    ·exact h2
    ·omega)
   refine ⟨⟨i,F4,by congr 1,zTbe,H41.out,ho4,fun q hq=>?_⟩,?_⟩
   ·rcases H43.out q hq with h|h
    ·exact HF3.out q h
    ·exact .inr (Nat.le_trans HO3.out.size h)
   ·(simp [intOf])<;>omega
 ):P:=h
theorem zQZ8 {P:Prop} (h:P:=by rw [Nat.sub_self,List.take_zero,List.append_nil];exact H21.out):P:=h
theorem zo93 {P:Prop} (h:P:=by simp only [List.length_append,List.length_take,List.length_cons,List.length_nil];omega):P:=h
theorem z2HW {P:Prop} (h:P:=by simpa [laid] using HB.out):P:=h
theorem zPhR {P:Prop} (h:P:=by
 have zz:wr.cell? ⟨g,off+k,none⟩=some (.int .i64 x[k]):=(ho3.cell (p:=⟨g,off+k,none⟩) hglt hgb).trans hc0
 exact zz):P:=h
theorem zzYD {P:Prop} (h:P:=by
 rw [←HU.out] at hxo
 clear HXN HXP
 go_wp2_with (go_at_call 140;refine HL.out.mono ?_;clear HL;rintro e w4 ⟨rfl,F4,h41,h42,h43⟩;have H41:=Lib.hid h41;have H42:=Lib.hid h42;have H43:=Lib.hid h43;clear h41 h42 h43)
 have ho4:Only F w w4:=HO3.out.trans H42.out (fun q hq h=>by
  rcases HF3.out q h with h2|h2
  ·exact h2
  ·omega)
 refine ⟨⟨k+1,F4,by congr 1,zTbe,H41.out,ho4,fun q hq=>?_⟩,?_⟩
 ·rcases H43.out q hq with h|h
  ·exact HF3.out q h
  ·exact .inr (Nat.le_trans HO3.out.size h)
 ·(simp [intOf])<;>omega
 ):P:=h
theorem zPSC {P:Prop} (h:P:=by
 rw [e1,←List.append_assoc];exact h71
 ):P:=h
theorem zvLr {P:Prop} (h:P:=by intro q hq;subst hq;exact hlx):P:=h
theorem zldO {P:Prop} (h:P:=by
 have zz:Only (fun q=>F q∧q < w.heap.size) w w5:=(Only.of_none HBW2.out).trans H52.out (fun _ _ h=>h)
 exact zz):P:=h
theorem zbVK {P:Prop} (h:P:=by
 have zz:Hid (Calls Tryz.prog 161 #[.pointer (some ⟨b,0,none⟩),.slice (some ⟨w2.heap.size,0,none⟩) 1 1] ((w2.alloc (.cells #[.int .u8 3] 5)).drew) fun e w'=>e=.returned (.tuple #[])∧∃ F',Buf w' t b F' rest (l++[UInt8.ofNat 3])∧Only (fun q=>F q∧q < w.heap.size) w2 w'∧∀ q,F' q→(fun q=>F q∧q < w.heap.size) q∨w2.heap.size≤q):=lay_drew w2 t b (fun q=>F q∧q < w.heap.size) rest l HBX.out 3 3 zTbe rfl zTbe
 exact zz):P:=h
theorem zsOh {P:Prop} (h:P:=by
 have zz:Agree (fun q=>q=w.heap.size) w2.drew ((w2.alloc (.cells #[.int .u8 3] 5)).drew):=agree_alloc (w:=w2) _ zvLr
 exact zz):P:=h
theorem zLde {P:Prop} (h:P:=by
 have ho4:Only F w w4:=HO3.out.trans H42.out (fun q hq h=>by
  rcases HF3.out q h with h2|h2
  ·exact h2
  ·omega)
 refine ⟨⟨k+1,F4,by congr 1,zTbe,H41.out,ho4,fun q hq=>?_⟩,?_⟩
 ·rcases H43.out q hq with h|h
  ·exact HF3.out q h
  ·exact .inr (Nat.le_trans HO3.out.size h)
 ·(simp [intOf])<;>omega
 ):P:=h
theorem zQGT {P:Prop} (h:P:=by
 go_enter Tryz.func143,Tryz.ntmps143
 go_wp2_with (go_at_call 109;refine HN2.out.mono ?_;rintro e w2 ⟨rfl,hb⟩)
 go_ret
 exact ⟨rfl,hb⟩
 ):P:=h
theorem zsWa {P:Prop} (h:P:=by
 have zz:w2.cell? ⟨w.heap.size,2,none⟩=some (.string s):=hk2.cell 2
 exact zz):P:=h
theorem zGvU {P:Prop} (h:P:=by
 have k2:=zsWa
 have HB2:=Lib.hid (H1.out.trans (hb2.mono H1.out.size))
 clear hk2 hb2 HK H1
 have cv:=HCV.out w2
 go_wp2
 go_ret
 exact ⟨rfl,HB2.out.alloc HB2.out.size _⟩
 ):P:=h
theorem z9Ti {P:Prop} (h:P:=by
 go_roundw
 case rel=>exact ⟨k+1,z3KH,zTbe,by rw [HR.out],HB.out.trans (hb3.mono HB.out.size)⟩
 case measure=>(simp [intOf])<;>omega
 ):P:=h
namespace Go.Proofs.YteggkjdlajgenaaGreatDoor
open Go.RowKit Go.Afx
def Buf (w:World) (t:TypeId) (b:Nat) (F:Nat→Prop) (rest:List Value) (l:List UInt8):Prop :=
 ∃ bv,Blk w b t (bv::rest)∧Own w 5 1 bv l.length (by8 l)∧F b∧(∀ k,bv.ownBlock=some k→F k∧k≠b)
theorem Buf.only {w w':World} {t:TypeId} {b:Nat} {F S:Nat→Prop} {rest:List Value} {l:List UInt8} (h:Buf w t b F rest l) (ho:Only S w w') (hd:∀ k,F k→¬ S k):Buf w' t b F rest l:=by
 obtain ⟨bv,h1,h2,h3,h4⟩:=h
 exact ⟨bv,h1.only ho (hd b h3),h2.only ho (fun k hk=>hd k (h4 k hk).1),h3,h4⟩
theorem Buf.below {w w':World} {t:TypeId} {b:Nat} {F:Nat→Prop} {rest:List Value} {l:List UInt8} (h:Buf w t b F rest l) (hb:Below w.heap.size w w'):Buf w' t b F rest l:=by
 obtain ⟨bv,h1,h2,h3,h4⟩:=h
 exact ⟨bv,h1.below hb,h2.below hb,h3,h4⟩
theorem own_form2 {w:World} {e:TypeId} {sz:Nat} {v:Value} {n:Nat} {cs:List Value} (h:Own w e sz v n cs):∃ p cap,v=.slice p n cap∧n≤cap∧cap≤9223372036854775807 :=
 (h.sl (B:=fun _=>True) fun _ _=>trivial).form
theorem lay_any (w:World) (t:TypeId) (b:Nat) (F:Nat→Prop) (rest:List Value) (l:List UInt8) (hb:Buf w t b F rest l) (B:Nat→Prop) (v:Value) (x:List UInt8) (hx:Sl w B 1 v x.length (by8 x)) (hlen:l.length+x.length≤1000000000) :
 Calls Tryz.prog 161 #[.pointer (some ⟨b,0,none⟩),v] w fun e w'=>e=.returned (.tuple #[])∧∃ F',Buf w' t b F' rest (l++x)∧Only F w w'∧∀ k,F' k→F k∨w.heap.size≤k:=by
 obtain ⟨bv,h1,h2,h3,h4⟩:=hb
 obtain ⟨p1,c1,rfl,hc1,hc2⟩:=own_form2 h2
 obtain ⟨p2,c2,rfl,hc3,hc4⟩:=hx.form
 have k0:w.cell? ⟨b,0,none⟩=some (.slice p1 l.length c1):=h1.cell 0
 have hf:∀ i,w.frozen? ⟨b,i,none⟩=false:=h1.frozen
 have H1:=Lib.hid h1
 have H4:=Lib.hid h4
 have H3:=Lib.hid h3
 clear h1 h3 h4
 go_enter Tryz.func161,Tryz.ntmps161
 go_wp2_with (first
  | (at_builtin;refine wpList_app rfl _ _ rfl elemU8 zdhv h2 zdhv hx zefz zTbe ?_;intro v1 w2 g1 g2 g3 g4 g5;clear h2 hx;obtain ⟨p7,c7,rfl,hc71,hc72⟩:=own_form2 g1;
     have HK2:=Lib.hid (H1.out.only g2 (fun h=>(H4.out _ h).2 rfl));
     have j1:w2.cell? ⟨b,0,none⟩=some (.slice p1 l.length c1):=HK2.out.cell 0;have jf:∀ i,w2.frozen? ⟨b,i,none⟩=false:=HK2.out.frozen;
     have G1:=Lib.hid g1;have G2:=Lib.hid g2;have G3:=Lib.hid g3;clear g1 g2 g3 g4 g5))
 go_end0
 have hlt:=H1.out.lt
 have hnb:∀ k,(Value.slice p7 (l.length+x.length) c7).ownBlock=some k→k≠b:=fun k hk he=>by
  subst he
  rcases G3.out with h|h
  ·exact (H4.out k (by rw [←h];exact hk)).2 rfl
  ·rw [h] at hk
   have:w.heap.size=k:=zFJU
   omega
 refine ⟨rfl,fun k=>F k∨(Value.slice p7 (l.length+x.length) c7).ownBlock=some k,⟨_,HK2.out.set 0 _,?_,.inl H3.out,fun k hk=>⟨.inr hk,hnb k hk⟩⟩,?_,fun k hk=>?_⟩
 ·have h9:=G1.out.setOther (p:=⟨b,0,none⟩) (fun h=>hnb _ h rfl) (.slice p7 (l.length+x.length) c7)
  rw [List.length_append,by8_append]
  exact h9
 ·exact (G2.out.mono (fun k _ h=>(H4.out k h).1)).setCell (fun _=>H3.out) _
 ·rcases hk with hk|hk
  ·exact .inl hk
  ·rcases G3.out with h|h
   ·exact .inl (H4.out k (by rw [←h];exact hk)).1
   ·rw [h] at hk
    have:w.heap.size=k:=zFJU
    exact .inr zTbe
def be256 (u:Nat):List UInt8:=if _h:u=0 then [] else be256 (u / 256)++[UInt8.ofNat (u % 256)]
decreasing_by exact Nat.div_lt_self zTbe zTbe
theorem be_zero:be256 0=[]:=by rw [be256];simp
theorem be_pos (u:Nat) (h:0 < u):be256 u=be256 (u / 256)++[UInt8.ofNat (u % 256)]:=by rw [be256,dif_neg zTbe]
def numB (u:Nat):List UInt8:=UInt8.ofNat (be256 u).length::be256 u
theorem be_len_le (k:Nat):∀ u,u < 256 ^ k→(be256 u).length≤k:=by
 induction k with
 | zero=>intro u hu;obtain rfl:u=0:=by simpa using hu
         rw [be_zero];simp
 | succ k ih =>
  intro u hu
  rcases Nat.eq_zero_or_pos u with h|h
  ·subst h;rw [be_zero];simp
  ·rw [be_pos u h,List.length_append]
   have:=ih (u / 256) (Nat.div_lt_of_lt_mul (by rw [Nat.pow_succ] at hu;omega))
   simpa using this
theorem be_len_ge (k:Nat):∀ u,256 ^ k≤u→k+1≤(be256 u).length:=by
 induction k with
 | zero=>intro u hu;rw [be_pos u (by simp at hu;omega)];simp
 | succ k ih =>
  intro u hu
  have hp:0 < 256 ^ (k+1):=Nat.pow_pos zTbe
  rw [be_pos u zTbe,List.length_append]
  have h1:256 ^ k≤u / 256:=by
   rw [Nat.le_div_iff_mul_le zTbe]
   rw [Nat.pow_succ] at hu;exact hu
  have:=ih (u / 256) h1
  simpa using this
theorem be_get:∀ (i u:Nat) (h:i < (be256 u).length),(be256 u)[(be256 u).length - 1 - i]'(zTbe)=UInt8.ofNat (u / 256 ^ i % 256):=by
 intro i
 induction i with
 | zero =>
  intro u h
  rcases Nat.eq_zero_or_pos u with h0|h0
  ·subst h0;rw [be_zero] at h;simp at h
  ·have e:=be_pos u h0
   have:∀ (l:List UInt8) (hl:l=be256 (u / 256)++[UInt8.ofNat (u % 256)]) (hlt:l.length - 1 - 0 < l.length),l[l.length - 1 - 0]=UInt8.ofNat (u % 256):=by
    intro l hl hlt
    subst hl
    simp
   rw [this _ e zTbe]
   simp
 | succ i ih =>
  intro u h
  rcases Nat.eq_zero_or_pos u with h0|h0
  ·subst h0;rw [be_zero] at h;simp at h
  ·have e:=be_pos u h0
   have hl:(be256 u).length=(be256 (u / 256)).length+1:=by rw [e];simp
   have h2:i < (be256 (u / 256)).length:=zTbe
   have h3:=ih (u / 256) h2
   have:∀ (l:List UInt8) (hl2:l=be256 (u / 256)++[UInt8.ofNat (u % 256)]) (j:Nat) (hj:j=(be256 (u / 256)).length - 1 - i) (hlt:j < l.length),l[j]=(be256 (u / 256))[(be256 (u / 256)).length - 1 - i]'(zTbe):=by
    intro l hl2 j hj hlt
    subst hl2
    subst hj
    rw [List.getElem_append_left zTbe]
   rw [this _ e _ zTbe zTbe,h3,Nat.div_div_eq_div_mul,Nat.pow_succ,Nat.mul_comm]
theorem shr_nat (u k:Nat):(u:Int) / 2 ^ (8*k)=((u / 256 ^ k:Nat):Int):=by
 have e:(2:Int) ^ (8*k)=((256 ^ k:Nat):Int):=by
  have e1:(256:Nat) ^ k=2 ^ (8*k):=by rw [Nat.pow_mul]
  rw [e1,Int.natCast_pow];rfl
 rw [e,Int.natCast_ediv]
theorem one_u8 (w:World) (x:Nat) (hx:x < 256):Sl (w.alloc (.cells #[.int .u8 (x:Int)] 5)) (fun _=>True) 1 (.slice (some ⟨w.heap.size,0,none⟩) 1 1) [UInt8.ofNat x].length (by8 [UInt8.ofNat x]):=by
 have e:by8 [UInt8.ofNat x]=[.int .u8 (x:Int)]:=by
  have h:(UInt8.ofNat x).toNat=x:=by rw [UInt8.toNat_ofNat'];omega
  simp [by8,h]
 rw [e]
 exact (Own.made w 5 1 [.int .u8 (x:Int)] [] 1 1 rfl (Ones.nil.cons rfl) (Nat.le_refl _) zdUY zPXO).sl (fun _ _=>trivial)
theorem lay_one (w:World) (t:TypeId) (b:Nat) (F:Nat→Prop) (rest:List Value) (l:List UInt8) (hb:Buf w t b F rest l) (x:Nat) (hx:x < 256) (hlen:l.length≤950000000) :
 Calls Tryz.prog 161 #[.pointer (some ⟨b,0,none⟩),.slice (some ⟨w.heap.size,0,none⟩) 1 1] (w.alloc (.cells #[.int .u8 (x:Int)] 5)) fun e w'=>e=.returned (.tuple #[])∧∃ F',Buf w' t b F' rest (l++[UInt8.ofNat x])∧Only F w w'∧∀ k,F' k→F k∨w.heap.size≤k:=by
 have hb1:Buf (w.alloc (.cells #[.int .u8 (x:Int)] 5)) t b F rest l:=hb.below ((Below.refl _ _).alloc (Nat.le_refl _) _)
 refine (lay_any _ t b F rest l hb1 _ _ [UInt8.ofNat x] (one_u8 w x hx) zr2F).mono ?_
 rintro e w' ⟨he,F',h1,h2,h3⟩
 refine ⟨he,F',h1,((Only.refl F w).alloc _).trans h2 (fun _ _ h=>h),fun k hk=>?_⟩
 rcases h3 k hk with h|h
 ·exact .inl h
 ·exact .inr (by simp at h;omega)
theorem number_any (w:World) (t:TypeId) (b:Nat) (F:Nat→Prop) (rest:List Value) (l:List UInt8) (hb:Buf w t b F rest l) (u:Nat) (hu:u < 18446744073709551616) (hlen:l.length≤900000000) :
 Calls Tryz.prog 140 #[.pointer (some ⟨b,0,none⟩),.int .u64 (u:Int)] w fun e w'=>e=.returned (.tuple #[])∧∃ F',Buf w' t b F' rest (l++numB u)∧Only F w w'∧∀ k,F' k→F k∨w.heap.size≤k:=by
 have HB:=Lib.hid hb
 clear hb
 go_enter Tryz.func140,Tryz.ntmps140
 go_wp2
 go_loopw [4] (fun i wr=>∃ k:Nat,i=.int .i64 k∧k≤8∧k≤(be256 u).length∧w=wr) (fun i _=>8 - (intOf i).toNat)
 case atStart=>exact ⟨0,rfl,Nat.zero_le _,Nat.zero_le _,rfl⟩
 case round =>
  obtain ⟨k,rfl,hk,hkl,rfl⟩:=hrel
  by_cases hk8:k < 8
  ·have hsh:=shr_nat u k
   by_cases hq:u / 256 ^ k=0
   ·have hlt:u < 256 ^ k:=by
     rcases Nat.lt_or_ge u (256 ^ k) with h|h
     ·exact h
     ·have:=Nat.div_pos h (Nat.pow_pos zTbe);omega
    have hle:=be_len_le k u hlt
    rw [hq] at hsh
    clear hlt hq
    exact ztFl
   ·have hge:256 ^ k≤u:=by
     rcases Nat.lt_or_ge u (256 ^ k) with h|h
     ·exact absurd (Nat.div_eq_of_lt h) hq
     ·exact h
    have hle:=be_len_ge k u hge
    have hq2:(((u / 256 ^ k:Nat):Int) != 0)=true:=by rw [bne_iff_ne];omega
    have hq3:¬ ((u / 256 ^ k:Nat):Int)=0:=zTbe
    clear hge hq
    generalize ((u / 256 ^ k:Nat):Int)=q at *
    go_wp2
    go_roundw
    case rel=>exact ⟨k+1,z3KH,zTbe,hle,by first|rfl|trivial⟩
    case measure=>(simp [intOf])<;>omega
  ·have hle:=be_len_le 8 u (by have:(256:Nat) ^ 8=18446744073709551616:=by decide
                               omega)
   have hk9:(8:Int)≤k:=zTbe
   exact ztFl
@[go_sem] theorem ite_lt_max_w (x y:Int):(if x < y then y else x)=max x y:=zTbe
@[go_sem] theorem ite_lt_min_w (x y:Int):(if x < y then x else y)=min x y:=zTbe
def laid {α:Type} (f:α→List UInt8) (l:List α):List UInt8:=(l.map f).flatten
theorem laid_next {α:Type} (f:α→List UInt8) (l:List α) (k:Nat) (h:k < l.length):laid f (l.take (k+1))=laid f (l.take k)++f l[k]:=by
 unfold laid
 rw [←List.take_append_getElem h,List.map_append,List.flatten_append]
 simp
def sizeB (n:Int):List UInt8:=numB (max n 0).toNat
theorem be_len8 (u:Nat) (h:u < 18446744073709551616):(numB u).length≤9:=by
 unfold numB
 have:=be_len_le 8 u (by have:(256:Nat) ^ 8=18446744073709551616:=by decide
                         omega)
 rw [List.length_cons];omega
theorem laid_len {α:Type} (f:α→List UInt8) (m:Nat) (l:List α) (h:∀ x∈l,(f x).length≤m):(laid f l).length≤m*l.length:=by
 induction l with
 | nil=>simp [laid]
 | cons x l ih =>
  have h1:=h x zPXO
  have h2:=ih (fun y hy=>h y (by simp [hy]))
  unfold laid at *
  rw [List.map_cons,List.flatten_cons,List.length_append,List.length_cons,Nat.mul_succ]
  omega
theorem size_wr (w:World) (t:TypeId) (b:Nat) (F:Nat→Prop) (rest:List Value) (l:List UInt8) (hb:Buf w t b F rest l) (v:Value) (x:List Int) (hx:Sl w (fun k=>¬ F k) 1 v x.length (ints x)) (hf:∀ n∈x,fit64 n) (hlen:l.length≤100000000) (hxl:x.length≤1000000) :
 Calls Tryz.prog 106 #[.pointer (some ⟨b,0,none⟩),v] w fun e w'=>e=.returned (.pointer (some ⟨b,0,none⟩))∧∃ F',Buf w' t b F' rest (l++laid sizeB x)∧Only F w w'∧∀ k,F' k→F k∨w.heap.size≤k:=by
 obtain ⟨p,cap,rfl,hc1,hc2⟩:=hx.form
 have HB:=Lib.hid hb
 have HX:=Lib.hid hx
 have HF:=Lib.hid hf
 clear hb hx hf
 go_enter Tryz.func106,Tryz.ntmps106
 go_wp2
 go_loopw [9] (fun i wr=>∃ (k:Nat) (F3:Nat→Prop),i=.int .i64 k∧k≤x.length∧Buf wr t b F3 rest (l++laid sizeB (x.take k))∧Only F w wr∧∀ q,F3 q→F q∨w.heap.size≤q) (fun i _=>x.length - (intOf i).toNat)
 case atStart=>exact ⟨0,F,rfl,Nat.zero_le _,z2HW,Only.refl _ _,fun q h=>.inl h⟩
 case round =>
  obtain ⟨k,F3,rfl,hk,hb3,ho3,hf3⟩:=hrel
  have HB3:=Lib.hid hb3
  have HO3:=Lib.hid ho3
  have HF3:=Lib.hid hf3
  by_cases hka:k < x.length
  ·obtain ⟨g,off,cap',hv,_,_,hgb,hglt,hc⟩:=HX.out.place zTbe
   cases hv
   have hc0:w.cell? ⟨g,off+k,none⟩=some (.int .i64 x[k]):=zqhz
   have hck:=zPhR
   have hfx:=HF.out x[k] (List.getElem_mem hka)
   have HN:=Lib.hid (laid_next sizeB x k hka)
   have hll:=laid_len sizeB 9 (x.take k) (fun n hn=>be_len8 _ (by have:=HF.out n (List.mem_of_mem_take hn);unfold fit64 at this;omega))
   have hlk:(x.take k).length≤1000000:=z2Pg
   unfold fit64 at hfx
   clear hc hc0 hb3 ho3 hf3
   generalize x[k]=n at *
   obtain ⟨u,hu⟩:∃ u:Nat,u=(max n 0).toNat:=⟨_,rfl⟩
   have hui:max n 0=(u:Int):=zTbe
   have hL:=number_any wr t b F3 rest _ HB3.out u zTbe zZJx
   have hsb:sizeB n=numB u:=by unfold sizeB;rw [hu]
   rw [List.append_assoc,←hsb,←HN.out] at hL
   have HL:=Lib.hid hL
   have hu64:(u:Int) < 18446744073709551616:=zTbe
   clear hL hll hlk hu hsb
   go_wp2_with (go_at_call 140;refine HL.out.mono ?_;clear HL;rintro e w4 ⟨rfl,F4,h41,h42,h43⟩;have H41:=Lib.hid h41;have H42:=Lib.hid h42;have H43:=Lib.hid h43;clear h41 h42 h43)
   have ho4:Only F w w4:=HO3.out.trans H42.out (fun q hq h=>by
    rcases HF3.out q h with h2|h2
    ·exact h2
    ·omega)
   refine ⟨⟨k+1,F4,by congr 1,zTbe,H41.out,ho4,fun q hq=>?_⟩,?_⟩
   ·rcases H43.out q hq with h|h
    ·exact HF3.out q h
    ·exact .inr (Nat.le_trans HO3.out.size h)
   ·(simp [intOf])<;>omega
  ·obtain rfl:k=x.length:=by omega
   clear hb3 ho3 hf3
   go_wp2
   go_ret
   refine ⟨rfl,F3,?_,HO3.out,HF3.out⟩
   have:=HB3.out
   rwa [List.take_length] at this
def zig (n:Int):Nat:=if n < 0 then (-2*n - 1).toNat else (2*n).toNat
def signB (n:Int):List UInt8:=numB (zig n)
theorem xor_ones (m:Nat) (h:m < 18446744073709551616):m ^^^ 18446744073709551615=18446744073709551615 - m:=by
 have:=@BitVec.toNat_not 64 (BitVec.ofNat 64 m)
 have h2:(BitVec.ofNat 64 m ^^^ BitVec.allOnes 64)= ~~~ (BitVec.ofNat 64 m):=BitVec.xor_allOnes
 have h3:=congrArg BitVec.toNat h2
 rw [BitVec.toNat_xor,this] at h3
 simp at h3
 rw [Nat.mod_eq_of_lt h] at h3
 omega
theorem zig_neg (n:Int) (h:fit64 n) (hn:n < 0):bits .xor .u64 (IntKind.u64.wrap (IntKind.u64.wrap n*2)) (IntKind.u64.wrap (n / 9223372036854775808))=(zig n:Int):=by
 unfold fit64 at h
 have e1:IntKind.u64.wrap (IntKind.u64.wrap n*2)=(((2*n) % 18446744073709551616).toNat:Int):=by rw [IntKind.wrap_u64,IntKind.wrap_u64];omega
 have e2:IntKind.u64.wrap (n / 9223372036854775808)=((18446744073709551615:Nat):Int):=zm6w
 rw [e1,e2,bits_xor_u64_nat _ _ zTbe zTbe,xor_ones _ zTbe]
 unfold zig
 rw [if_pos hn]
 omega
theorem zig_pos (n:Int) (h:fit64 n) (hn:¬ n < 0):bits .xor .u64 (n*2) (n / 9223372036854775808)=(zig n:Int):=by
 unfold fit64 at h
 have e1:n*2=((2*n).toNat:Int):=zTbe
 have e2:n / 9223372036854775808=((0:Nat):Int):=zTbe
 rw [e1,e2,bits_xor_u64_nat _ _ zTbe zTbe,Nat.xor_zero]
 unfold zig
 rw [if_neg hn]
theorem signed_wr (w:World) (t:TypeId) (b:Nat) (F:Nat→Prop) (rest:List Value) (l:List UInt8) (hb:Buf w t b F rest l) (v:Value) (x:List Int) (hx:Sl w (fun k=>¬ F k) 1 v x.length (ints x)) (hf:∀ n∈x,fit64 n) (hlen:l.length≤100000000) (hxl:x.length≤1000000) :
 Calls Tryz.prog 181 #[.pointer (some ⟨b,0,none⟩),v] w fun e w'=>e=.returned (.pointer (some ⟨b,0,none⟩))∧∃ F',Buf w' t b F' rest (l++laid signB x)∧Only F w w'∧∀ k,F' k→F k∨w.heap.size≤k:=by
 obtain ⟨p,cap,rfl,hc1,hc2⟩:=hx.form
 have HB:=Lib.hid hb
 have HX:=Lib.hid hx
 have HF:=Lib.hid hf
 clear hb hx hf
 go_enter Tryz.func181,Tryz.ntmps181
 go_wp2
 go_loopw [9] (fun i wr=>∃ (k:Nat) (F3:Nat→Prop),i=.int .i64 k∧k≤x.length∧Buf wr t b F3 rest (l++laid signB (x.take k))∧Only F w wr∧∀ q,F3 q→F q∨w.heap.size≤q) (fun i _=>x.length - (intOf i).toNat)
 case atStart=>exact ⟨0,F,rfl,Nat.zero_le _,z2HW,Only.refl _ _,fun q h=>.inl h⟩
 case round =>
  obtain ⟨k,F3,rfl,hk,hb3,ho3,hf3⟩:=hrel
  have HB3:=Lib.hid hb3
  have HO3:=Lib.hid ho3
  have HF3:=Lib.hid hf3
  by_cases hka:k < x.length
  ·obtain ⟨g,off,cap',hv,_,_,hgb,hglt,hc⟩:=HX.out.place zTbe
   cases hv
   have hc0:w.cell? ⟨g,off+k,none⟩=some (.int .i64 x[k]):=zqhz
   have hck:=zPhR
   have hfx:=HF.out x[k] (List.getElem_mem hka)
   have HN:=Lib.hid (laid_next signB x k hka)
   have HXN:=Lib.hid (zig_neg x[k] hfx)
   have HXP:=Lib.hid (zig_pos x[k] hfx)
   have hll:=laid_len signB 9 (x.take k) (fun n hn=>be_len8 _ (by have:=HF.out n (List.mem_of_mem_take hn);unfold fit64 at this;unfold zig;split<;>omega))
   have hlk:(x.take k).length≤1000000:=z2Pg
   unfold fit64 at hfx
   clear hc hc0 hb3 ho3 hf3
   generalize x[k]=n at *
   obtain ⟨u,hu⟩:∃ u:Nat,u=zig n:=⟨_,rfl⟩
   have hu64:u < 18446744073709551616:=by rw [hu];unfold zig;split<;>omega
   have hL:=number_any wr t b F3 rest _ HB3.out u hu64 zZJx
   have hsb:signB n=numB u:=by unfold signB;rw [hu]
   rw [List.append_assoc,←hsb,←HN.out] at hL
   have HL:=Lib.hid hL
   have HU:=Lib.hid hu
   clear hL hll hlk hu hsb
   by_cases hneg:n < 0
   ·have hxo:=HXN.out hneg
    exact zzYD
   ·have hxo:=HXP.out hneg
    exact zzYD
  ·obtain rfl:k=x.length:=by omega
   clear hb3 ho3 hf3
   go_wp2
   go_ret
   refine ⟨rfl,F3,?_,HO3.out,HF3.out⟩
   have:=HB3.out
   rwa [List.take_length] at this
theorem string_bytes (w:World) (t:TypeId) (b:Nat) (F:Nat→Prop) (rest:List Value) (l:List UInt8) (hb:Buf w t b F rest l) :
 Calls Tryz.prog 108 #[.pointer (some ⟨b,0,none⟩)] w fun e w'=>e=.returned (.string ⟨l.toArray⟩)∧w=w':=by
 obtain ⟨bv,h1,h2,h3,h4⟩:=hb
 have k0:=h1.cell 0
 rcases h2.2.2 with ⟨rfl,h0⟩|⟨g,off,cap,cur,rfl,hcur,hc1,hc2,hrest⟩
 ·have hl:l=[]:=List.eq_nil_of_length_eq_zero h0
  subst hl
  have k1:w.cell? ⟨b,0,none⟩=some (.slice none 0 0):=k0
  have kc:∀ w,(convert 57 9 (.slice none 0 0)).run Tryz.prog w=.ok (.string ⟨#[]⟩) w:=fun _=>zyVB
  clear h1 h2 h3 h4 k0
  go_enter Tryz.func108,Tryz.ntmps108
  exact zWFb
 ·have k1:w.cell? ⟨b,0,none⟩=some (.slice (some ⟨g,off,none⟩) l.length cap):=k0
  have kc:=run_convert_bytes_back (P:=Tryz.prog) w 57 9 5 ⟨g,off,none⟩ cap l Tryz.underlying57 Tryz.underlying5 Tryz.underlying9 (fun j hj=>by
   have h5:=(h2.cellAt (j:=j) zTbe).1
   rw [Addr.add_lit,h5]
   exact by8_get l j hj)
  clear h1 h2 h3 h4 k0 hcur hrest
  go_enter Tryz.func108,Tryz.ntmps108
  exact zWFb
theorem string_wr (w:World) (t:TypeId) (b:Nat) (F:Nat→Prop) (rest:List Value) (l:List UInt8) (hb:Buf w t b F rest l) :
 Calls Tryz.prog 76 #[.pointer (some ⟨b,0,none⟩)] w fun e w'=>e=.returned (.string ⟨l.toArray⟩)∧w=w':=by
 have HS:=Lib.hid (string_bytes w t b F rest l hb)
 clear hb
 generalize (⟨l.toArray⟩:ByteArray)=s at *
 go_enter Tryz.func76,Tryz.ntmps76
 go_wp2_with (go_at_call 108;refine HS.out.mono ?_;rintro e w2 ⟨rfl,rfl⟩)
 exact zTTx
def txs (l:List ByteArray):List Value:=l.map Value.string
def textB (s:ByteArray):List UInt8:=numB s.size++s.data.toList
theorem cv_sl (w:World) (s:ByteArray):Sl (cvW w s 5) (fun _=>True) 1 (.slice (some ⟨w.heap.size,0,none⟩) s.size (cvCap w s 5)) s.data.toList.length (by8 s.data.toList)∨maxLen < s.size:=by
 by_cases h:s.size≤maxLen
 ·left
  have hl:=size_list s _ rfl
  refine ⟨by rw [by8_length,Nat.mul_one],by8_ones _,.inr ⟨w.heap.size,0,cvCap w s _,by rw [hl],?_,grownCap_le_maxLen w s.size 0 _ h,trivial,by rw [cvW_size];omega,fun j hj=>?_⟩⟩
  ·rw [←hl];exact grownCap_ge w s.size 0 _
  ·rw [by8_length] at hj
   rw [Nat.zero_add,cvW_cell w s _ _ rfl j hj,by8_get _ j hj]
 ·right;omega
theorem text_wr (w:World) (t:TypeId) (b:Nat) (F:Nat→Prop) (rest:List Value) (l:List UInt8) (hb:Buf w t b F rest l) (v:Value) (x:List ByteArray) (hx:Sl w (fun k=>¬ F k) 1 v x.length (txs x)) (hf:∀ s∈x,s.size≤1000) (hlen:l.length≤100000000) (hxl:x.length≤10000) :
 Calls Tryz.prog 182 #[.pointer (some ⟨b,0,none⟩),v] w fun e w'=>e=.returned (.pointer (some ⟨b,0,none⟩))∧∃ F',Buf w' t b F' rest (l++laid textB x)∧Only F w w'∧∀ k,F' k→F k∨w.heap.size≤k:=by
 obtain ⟨p,cap,rfl,hc1,hc2⟩:=hx.form
 have HB:=Lib.hid hb
 have HX:=Lib.hid hx
 have HF:=Lib.hid hf
 clear hb hx hf
 go_enter Tryz.func182,Tryz.ntmps182
 go_wp2
 go_loopw [9] (fun i wr=>∃ (k:Nat) (F3:Nat→Prop),i=.int .i64 k∧k≤x.length∧Buf wr t b F3 rest (l++laid textB (x.take k))∧Only F w wr∧∀ q,F3 q→F q∨w.heap.size≤q) (fun i _=>x.length - (intOf i).toNat)
 case atStart=>exact ⟨0,F,rfl,Nat.zero_le _,z2HW,Only.refl _ _,fun q h=>.inl h⟩
 case round =>
  obtain ⟨k,F3,rfl,hk,hb3,ho3,hf3⟩:=hrel
  have HB3:=Lib.hid hb3
  have HO3:=Lib.hid ho3
  have HF3:=Lib.hid hf3
  by_cases hka:k < x.length
  ·obtain ⟨g,off,cap',hv,_,_,hgb,hglt,hc⟩:=HX.out.place zTbe
   cases hv
   have hc0:w.cell? ⟨g,off+k,none⟩=some (.string x[k]):=by rw [hc k (by simpa [txs] using hka)];simp [txs,hka]
   have hck:wr.cell? ⟨g,off+k,none⟩=some (.string x[k]):=(ho3.cell (p:=⟨g,off+k,none⟩) hglt hgb).trans hc0
   have hfx:=HF.out x[k] (List.getElem_mem hka)
   have HN:=Lib.hid (laid_next textB x k hka)
   have hll:=laid_len textB 1009 (x.take k) (fun s hs=>by
    have h1:=HF.out s (List.mem_of_mem_take hs)
    have h2:=be_len8 s.size zTbe
    have h3:=size_list s _ rfl
    unfold textB
    rw [List.length_append];omega)
   have hlk:(x.take k).length≤10000:=z2Pg
   clear hc hc0 hb3 ho3 hf3
   generalize x[k]=s at *
   have hL:=number_any wr t b F3 rest _ HB3.out s.size zTbe zZJx
   have HL:=Lib.hid hL
   have hss:=size_list s _ rfl
   have kc:=zUgE
   have hbig:(l++laid textB (x.take k)++numB s.size).length+s.data.toList.length≤1000000000:=by
    have h2:=be_len8 s.size zTbe
    rw [List.length_append,List.length_append];omega
   have HLY:Hid (∀ (w4:World) (F4:Nat→Prop),Buf w4 t b F4 rest (l++laid textB (x.take k)++numB s.size)→Calls Tryz.prog 161 #[.pointer (some ⟨b,0,none⟩),.slice (some ⟨w4.heap.size,0,none⟩) s.size (cvCap w4 s 5)] (cvW w4 s 5) fun e w'=>e=.returned (.tuple #[])∧∃ F',Buf w' t b F' rest (l++laid textB (x.take (k+1)))∧Only F4 w4 w'∧∀ k,F' k→F4 k∨w4.heap.size≤k):=fun w4 F4 h4=>by
    have hsl:=(cv_sl w4 s).resolve_right zefz
    refine (lay_any (cvW w4 s 5) t b F4 rest _ (h4.below (cvW_below w4 s _)) _ _ s.data.toList hsl hbig).mono ?_
    rintro e w' ⟨he,F',h1,h2,h3⟩
    refine ⟨he,F',?_,(Only.of_none (cvW_below w4 s _)).trans h2 (fun _ _ h=>h),fun k hk=>?_⟩
    ·rw [HN.out]
     unfold textB at h1 ⊢
     rw [←List.append_assoc,←List.append_assoc]
     exact h1
    ·rcases h3 k hk with h|h
     ·exact .inl h
     ·rw [cvW_size] at h;exact .inr zTbe
   clear hL hll hlk hss hbig
   go_wp2_with (first
    | (go_at_call 140;refine HL.out.mono ?_;clear HL;rintro e w4 ⟨rfl,F4,h41,h42,h43⟩;have HLY4:=Lib.hid (HLY.out w4 F4 h41);have H42:=Lib.hid h42;have H43:=Lib.hid h43;clear h41 h42 h43)
    | (go_at_call 161;refine HLY4.out.mono ?_;clear HLY4;rintro e w5 ⟨rfl,F5,h51,h52,h53⟩;have H51:=Lib.hid h51;have H52:=Lib.hid h52;have H53:=Lib.hid h53;clear h51 h52 h53))
   have ho4:Only F w w4:=HO3.out.trans H42.out (fun q hq h=>by
    rcases HF3.out q h with h2|h2
    ·exact h2
    ·omega)
   have hf4:∀ q,F4 q→F q∨w.heap.size≤q:=fun q hq=>by
    rcases H43.out q hq with h|h
    ·exact HF3.out q h
    ·exact .inr (Nat.le_trans HO3.out.size h)
   have ho5:Only F w w5:=ho4.trans H52.out (fun q hq h=>by
    rcases hf4 q h with h2|h2
    ·exact h2
    ·omega)
   refine ⟨⟨k+1,F5,by congr 1,zTbe,H51.out,ho5,fun q hq=>?_⟩,?_⟩
   ·rcases H53.out q hq with h|h
    ·exact hf4 q h
    ·exact .inr (Nat.le_trans ho4.size h)
   ·(simp [intOf])<;>omega
  ·obtain rfl:k=x.length:=by omega
   clear hb3 ho3 hf3
   go_wp2
   go_ret
   refine ⟨rfl,F3,?_,HO3.out,HF3.out⟩
   have:=HB3.out
   rwa [List.take_length] at this
theorem int_valw (w:World) (n:Int):Calls Tryz.prog 180 #[.int .i64 n] w fun e w'=>e=.returned (.agg #[.int .i64 1,.int .i64 n,.string ⟨#[]⟩])∧Below w.heap.size w w':=by
 go_enter Tryz.func180,Tryz.ntmps180
 go_wp2
 refine bodyPost_ret (v:=.agg #[.int .i64 1,.int .i64 n,.string ⟨#[]⟩]) (by simp [results,Tryz.results180,go_sem]) rfl ⟨rfl,?_⟩
 exact (Below.refl _ _).alloc (Nat.le_refl _) _
def AV.zero:AV:=⟨1,0,⟨#[]⟩⟩
def rightB (v:AV):List UInt8:=UInt8.ofNat v.kind.toNat::(if v.kind=1 then signB v.n else if v.kind=2 then textB v.s else [UInt8.ofNat v.n.toNat])
def valB (v:AV):List UInt8:=if v.right then rightB v else rightB AV.zero
theorem Buf.tight {w:World} {t:TypeId} {b:Nat} {F:Nat→Prop} {rest:List Value} {l:List UInt8} (h:Buf w t b F rest l):Buf w t b (fun k=>F k∧k < w.heap.size) rest l:=by
 obtain ⟨bv,h1,h2,h3,h4⟩:=h
 exact ⟨bv,h1,h2,⟨h3,h1.lt⟩,fun k hk=>⟨⟨(h4 k hk).1,h2.lt k hk⟩,(h4 k hk).2⟩⟩
theorem lay_drew (w:World) (t:TypeId) (b:Nat) (F:Nat→Prop) (rest:List Value) (l:List UInt8) (hb:Buf w t b F rest l) (x:Nat) (xi:Int) (hx:x < 256) (hxi:xi=(x:Int)) (hlen:l.length≤950000000) :
 Hid (Calls Tryz.prog 161 #[.pointer (some ⟨b,0,none⟩),.slice (some ⟨w.heap.size,0,none⟩) 1 1] ((w.alloc (.cells #[.int .u8 xi] 5)).drew) fun e w'=>e=.returned (.tuple #[])∧∃ F',Buf w' t b F' rest (l++[UInt8.ofNat x])∧Only F w w'∧∀ q,F' q→F q∨w.heap.size≤q):=by
 subst hxi
 have h:=lay_one w.drew t b F rest l (hb.below (Below.drew (Below.refl _ _))) x hx hlen
 have h2:Calls Tryz.prog 161 #[.pointer (some ⟨b,0,none⟩),.slice (some ⟨w.heap.size,0,none⟩) 1 1] ((w.alloc (.cells #[.int .u8 (x:Int)] 5)).drew) _:=h
 refine h2.mono ?_
 rintro e w' ⟨he,F',h3,h4,h5⟩
 exact ⟨he,F',h3,(Only.drew (Only.refl F w)).trans h4 (fun _ _ h=>h),h5⟩
theorem one_wr (w:World) (t:TypeId) (b:Nat) (F:Nat→Prop) (rest:List Value) (l:List UInt8) (hb:Buf w t b F rest l) (v:AV) (hn:fit64 v.n) (hlen:l.length≤90000000) (hs:v.right=true→v.s.size≤1000) :
 Calls Tryz.prog 162 #[.pointer (some ⟨b,0,none⟩),v.agg] w fun e w'=>e=.returned (.tuple #[])∧∃ F',Buf w' t b F' rest (l++valB v)∧Only F w w'∧∀ k,F' k→F k∨w.heap.size≤k:=by
 have HB:=Lib.hid hb.tight
 clear hb
 obtain ⟨k,n,s⟩:=v
 have HR:Hid (∀ (w':World) (p:Option Addr),Sl w' (fun _=>True) 3 (.slice p 1 1) [(⟨k,n,s⟩:AV)].length (rowCells [⟨k,n,s⟩])→Calls Tryz.prog 172 #[.slice p 1 1] w' fun e w2=>e=.returned (.bool (rightAll [⟨k,n,s⟩]))∧Below w'.heap.size w' w2):=fun w' p h=>right_any w' _ _ [⟨k,n,s⟩] h zPXO
 have era:rightAll [⟨k,n,s⟩]=(⟨k,n,s⟩:AV).right:=by simp [rightAll]
 rw [era] at HR
 have HSL:Hid (∀ w':World,Sl (w'.alloc (.cells #[.int .i64 k,.int .i64 n,.string s] 113)) (fun _=>True) 3 (.slice (some ⟨w'.heap.size,0,none⟩) 1 1) [(⟨k,n,s⟩:AV)].length (rowCells [⟨k,n,s⟩])):=fun w' =>
  (Own.made w' 113 3 (rowCells [⟨k,n,s⟩]) [] 1 1 rfl z0qj (Nat.le_refl _) zdUY (by simp [rowCells,AV.cells])).sl (fun _ _=>trivial)
 generalize hvr:(⟨k,n,s⟩:AV).right=r at *
 simp only [AV.agg]
 have HVR:=Lib.hid hvr
 have hb0:=Blk.new w 113 [.int .i64 k,.int .i64 n,.string s]
 have hbw:=z8Tj
 have hsz:(w.alloc (.cells #[.int .i64 k,.int .i64 n,.string s] 113)).heap.size=w.heap.size+1:=zPXO
 clear hvr era
 go_enter Tryz.func162,Tryz.ntmps162
 go_wp2_with fail
 have hw2b:Below w.heap.size w ((w.alloc (.cells #[.int .i64 k,.int .i64 n,.string s] 113)).alloc (.cells #[.int .i64 k,.int .i64 n,.string s] 113)):=hbw.alloc zTbe _
 have hb1:=hb0.alloc (.cells #[.int .i64 k,.int .i64 n,.string s] 113)
 have hc:=HR.out _ _ (HSL.out (w.alloc (.cells #[.int .i64 k,.int .i64 n,.string s] 113)))
 rw [hsz] at hc
 refine hc.mono ?_
 clear hc
 rintro e w2 ⟨rfl,hb2⟩
 have hbw2:Below w.heap.size w w2:=hw2b.trans (hb2.mono zr2F)
 have hk2:=hb1.below hb2
 have hlx:w.heap.size < w2.heap.size:=by have:=hb2.size;simp at this;omega
 have HBX:=Lib.hid (HB.out.below hbw2)
 have HK2:=Lib.hid hk2
 have HBW2:=Lib.hid hbw2
 clear hw2b hb1 hb0 hbw hsz hb2 hk2 hbw2 HR HSL
 cases r
 ·have z0:w2.cell? ⟨w.heap.size,0,none⟩=some (.int .i64 k):=HK2.out.cell 0
  have z1:w2.cell? ⟨w.heap.size,1,none⟩=some (.int .i64 n):=HK2.out.cell 1
  have z2:w2.cell? ⟨w.heap.size,2,none⟩=some (.string s):=HK2.out.cell 2
  go_wp2_with fail
  refine (int_valw w2 0).mono ?_
  rintro e w3 ⟨rfl,hb3⟩
  have hk3:=HK2.out.below hb3
  have z0':w3.cell? ⟨w.heap.size,0,none⟩=some (.int .i64 k):=hk3.cell 0
  have z1':w3.cell? ⟨w.heap.size,1,none⟩=some (.int .i64 n):=hk3.cell 1
  have z2':w3.cell? ⟨w.heap.size,2,none⟩=some (.string s):=hk3.cell 2
  have zf:∀ i,w3.frozen? ⟨w.heap.size,i,none⟩=false:=hk3.frozen
  have hk4:Blk (((w3.setCell ⟨w.heap.size,0,none⟩ (.int .i64 1)).setCell ⟨w.heap.size,1,none⟩ (.int .i64 0)).setCell ⟨w.heap.size,2,none⟩ (.string ⟨#[]⟩)) w.heap.size 113 [.int .i64 1,.int .i64 0,.string ⟨#[]⟩]:=((hk3.set 0 (.int .i64 1)).set 1 (.int .i64 0)).set 2 (.string ⟨#[]⟩)
  have hb24:Below w.heap.size w (((w3.setCell ⟨w.heap.size,0,none⟩ (.int .i64 1)).setCell ⟨w.heap.size,1,none⟩ (.int .i64 0)).setCell ⟨w.heap.size,2,none⟩ (.string ⟨#[]⟩)) :=
   (((HBW2.out.trans (hb3.mono HBW2.out.size)).setCell (Nat.le_refl _) _).setCell (Nat.le_refl _) _).setCell (Nat.le_refl _) _
  have hlx4:w.heap.size < (((w3.setCell ⟨w.heap.size,0,none⟩ (.int .i64 1)).setCell ⟨w.heap.size,1,none⟩ (.int .i64 0)).setCell ⟨w.heap.size,2,none⟩ (.string ⟨#[]⟩)).heap.size:=hk4.lt
  have HBX4:=Lib.hid (HB.out.below hb24)
  have HK4:=Lib.hid hk4
  have HBW4:=Lib.hid hb24
  clear z0 z1 z2 hb3 hk3 hk4 hb24
  generalize hw4:(((w3.setCell ⟨w.heap.size,0,none⟩ (.int .i64 1)).setCell ⟨w.heap.size,1,none⟩ (.int .i64 0)).setCell ⟨w.heap.size,2,none⟩ (.string ⟨#[]⟩))=w4 at *
  go_wp2_with (first|rw [hw4])
  clear z0' z1' z2' zf hw4
  have HL3:Hid (Calls Tryz.prog 161 #[.pointer (some ⟨b,0,none⟩),.slice (some ⟨w4.heap.size,0,none⟩) 1 1] ((w4.alloc (.cells #[.int .u8 1] 5)).drew) fun e w'=>e=.returned (.tuple #[])∧∃ F',Buf w' t b F' rest (l++[UInt8.ofNat 1])∧Only (fun q=>F q∧q < w.heap.size) w4 w'∧∀ q,F' q→(fun q=>F q∧q < w.heap.size) q∨w4.heap.size≤q):=lay_drew w4 t b (fun q=>F q∧q < w.heap.size) rest l HBX4.out 1 1 zTbe rfl zTbe
  have hag0:Agree (fun q=>q=w.heap.size) w4.drew ((w4.alloc (.cells #[.int .u8 1] 5)).drew):=agree_alloc (w:=w4) _ (by intro q hq;subst hq;exact hlx4)
  have x0:w4.cell? ⟨w.heap.size,0,none⟩=some (.int .i64 1):=HK4.out.cell 0
  refine wp_region_lit_plan [] [(0,0),(1,0),(2,0),(3,0),(4,1),(5,0),(6,4),(7,4)] (fun q=>q=w.heap.size) zyVB zyVB (fun c a d v w h=>zx0I) ?_
  go_wp2_with (first
   | (refine stp ?_)
   | (go_at_call 161;refine HL3.out.mono ?_;clear HL3;rintro e w5 ⟨rfl,F5,h51,h52,h53⟩;
      have HK5:=Lib.hid (HK4.out.only h52 (fun h=>Nat.lt_irrefl _ h.2));
      have y0:w5.cell? ⟨w.heap.size,0,none⟩=some (.int .i64 1):=HK5.out.cell 0;have y1:w5.cell? ⟨w.heap.size,1,none⟩=some (.int .i64 0):=HK5.out.cell 1;have y2:w5.cell? ⟨w.heap.size,2,none⟩=some (.string ⟨#[]⟩):=HK5.out.cell 2;
      have H51:=Lib.hid h51.tight;have H52:=Lib.hid h52;have H53:=Lib.hid h53;clear h51 h52 h53))
  have hw6:Below w5.heap.size w5 (w5.alloc (.cells #[.int .i64 0] 2)):=(Below.refl _ _).alloc (Nat.le_refl _) _
  have hsl6:Sl (w5.alloc (.cells #[.int .i64 0] 2)) (fun q=>¬ (F5 q∧q < w5.heap.size)) 1 (.slice (some ⟨w5.heap.size,0,none⟩) 1 1) [0].length (ints [0]) :=
   (Own.made w5 2 1 (ints [0]) [] 1 1 rfl (Ones.nil.cons rfl) (Nat.le_refl _) zdUY zN8V).sl (fun q hq h=>absurd h.2 (Nat.not_lt_of_le (Nat.le_of_eq (show w5.heap.size=q by simpa [Value.ownBlock] using hq))))
  have HS6:=Lib.hid (signed_wr (w5.alloc (.cells #[.int .i64 0] 2)) t b _ rest _ (H51.out.below hw6) _ [0] hsl6 (by intro q hq;rw [List.mem_singleton.1 hq];unfold fit64;omega) zr2F zPXO)
  clear hw6 hsl6
  go_wp2_with (go_at_call 181;refine HS6.out.mono ?_;clear HS6;rintro e w7 ⟨rfl,F7,h71,h72,h73⟩)
  go_end0
  have ho5:Only (fun q=>F q∧q < w.heap.size) w w5:=(Only.of_none HBW4.out).trans H52.out (fun _ _ h=>h)
  have ho6:Only (fun q=>F q∧q < w.heap.size) w (w5.alloc (.cells #[.int .i64 0] 2)):=ho5.alloc _
  have ho7:Only (fun q=>F q∧q < w.heap.size) w w7:=ho6.trans h72 (fun q hq h=>by
   rcases H53.out q h.1 with h2|h2
   ·exact h2
   ·exact absurd (Nat.lt_of_lt_of_le hq HBW4.out.size) zTbe)
  refine ⟨rfl,F7,?_,ho7.mono (fun q _ h=>h.1),fun q hq=>?_⟩
  ·have e1:valB ⟨k,n,s⟩=[UInt8.ofNat 1]++laid signB [0]:=by unfold valB;rw [if_neg (by rw [HVR.out];decide)];simp [rightB,laid,AV.zero]
   exact zPSC
  ·rcases h73 q hq with h|h
   ·rcases H53.out q h.1 with h2|h2
    ·exact .inl h2.1
    ·exact .inr (Nat.le_trans HBW4.out.size h2)
   ·exact .inr (Nat.le_trans ho6.size h)
 ·have hcase:k=1∨(k=2∧n=0)∨(k=3∧(n=0∨n=1)):=by
   have:=HVR.out
   simp [AV.right] at this
   omega
  rcases hcase with rfl|⟨rfl,rfl⟩|⟨rfl,hn01⟩
  ·go_wp2
   have HL3:Hid (Calls Tryz.prog 161 #[.pointer (some ⟨b,0,none⟩),.slice (some ⟨w2.heap.size,0,none⟩) 1 1] ((w2.alloc (.cells #[.int .u8 1] 5)).drew) fun e w'=>e=.returned (.tuple #[])∧∃ F',Buf w' t b F' rest (l++[UInt8.ofNat 1])∧Only (fun q=>F q∧q < w.heap.size) w2 w'∧∀ q,F' q→(fun q=>F q∧q < w.heap.size) q∨w2.heap.size≤q):=lay_drew w2 t b (fun q=>F q∧q < w.heap.size) rest l HBX.out 1 1 zTbe rfl zTbe
   have hag0:Agree (fun q=>q=w.heap.size) w2.drew ((w2.alloc (.cells #[.int .u8 1] 5)).drew):=agree_alloc (w:=w2) _ zvLr
   have x0:w2.cell? ⟨w.heap.size,0,none⟩=some (.int .i64 1):=HK2.out.cell 0
   refine wp_region_lit_plan [] [(0,0),(1,0),(2,0),(3,0),(4,1),(5,0),(6,4),(7,4)] (fun q=>q=w.heap.size) zyVB zyVB (fun c a d v w h=>zx0I) ?_
   go_wp2_with (first
    | (refine stp ?_)
    | (go_at_call 161;refine HL3.out.mono ?_;clear HL3;rintro e w5 ⟨rfl,F5,h51,h52,h53⟩;
       have HK5:=Lib.hid (HK2.out.only h52 (fun h=>Nat.lt_irrefl _ h.2));
       have y0:w5.cell? ⟨w.heap.size,0,none⟩=some (.int .i64 1):=HK5.out.cell 0;have y1:w5.cell? ⟨w.heap.size,1,none⟩=some (.int .i64 n):=HK5.out.cell 1;have y2:w5.cell? ⟨w.heap.size,2,none⟩=some (.string s):=HK5.out.cell 2;
       have H51:=Lib.hid h51.tight;have H52:=Lib.hid h52;have H53:=Lib.hid h53;clear h51 h52 h53))
   have hw6:Below w5.heap.size w5 (w5.alloc (.cells #[.int .i64 n] 2)):=(Below.refl _ _).alloc (Nat.le_refl _) _
   have hsl6:Sl (w5.alloc (.cells #[.int .i64 n] 2)) (fun q=>¬ (F5 q∧q < w5.heap.size)) 1 (.slice (some ⟨w5.heap.size,0,none⟩) 1 1) [n].length (ints [n]) :=
    (Own.made w5 2 1 (ints [n]) [] 1 1 rfl (Ones.nil.cons rfl) (Nat.le_refl _) zdUY zN8V).sl (fun q hq h=>absurd h.2 (Nat.not_lt_of_le (Nat.le_of_eq (show w5.heap.size=q by simpa [Value.ownBlock] using hq))))
   have HS6:=Lib.hid (signed_wr (w5.alloc (.cells #[.int .i64 n] 2)) t b _ rest _ (H51.out.below hw6) _ [n] hsl6 (by intro q hq;rw [List.mem_singleton.1 hq];exact hn) zr2F zPXO)
   clear hw6 hsl6
   go_wp2_with (go_at_call 181;refine HS6.out.mono ?_;clear HS6;rintro e w7 ⟨rfl,F7,h71,h72,h73⟩)
   go_end0
   have ho5:=zldO
   have ho6:Only (fun q=>F q∧q < w.heap.size) w (w5.alloc (.cells #[.int .i64 n] 2)):=ho5.alloc _
   have ho7:Only (fun q=>F q∧q < w.heap.size) w w7:=ho6.trans h72 (fun q hq h=>by
    rcases H53.out q h.1 with h2|h2
    ·exact h2
    ·exact absurd (Nat.lt_of_lt_of_le hq HBW2.out.size) zTbe)
   refine ⟨rfl,F7,?_,ho7.mono (fun q _ h=>h.1),fun q hq=>?_⟩
   ·have e1:valB ⟨1,n,s⟩=[UInt8.ofNat 1]++laid signB [n]:=by unfold valB;rw [if_pos HVR.out];simp [rightB,laid]
    exact zPSC
   ·rcases h73 q hq with h|h
    ·rcases H53.out q h.1 with h2|h2
     ·exact .inl h2.1
     ·exact .inr (Nat.le_trans HBW2.out.size h2)
    ·exact .inr (Nat.le_trans ho6.size h)
  ·go_wp2
   have HL3:Hid (Calls Tryz.prog 161 #[.pointer (some ⟨b,0,none⟩),.slice (some ⟨w2.heap.size,0,none⟩) 1 1] ((w2.alloc (.cells #[.int .u8 2] 5)).drew) fun e w'=>e=.returned (.tuple #[])∧∃ F',Buf w' t b F' rest (l++[UInt8.ofNat 2])∧Only (fun q=>F q∧q < w.heap.size) w2 w'∧∀ q,F' q→(fun q=>F q∧q < w.heap.size) q∨w2.heap.size≤q):=lay_drew w2 t b (fun q=>F q∧q < w.heap.size) rest l HBX.out 2 2 zTbe rfl zTbe
   have hag0:Agree (fun q=>q=w.heap.size) w2.drew ((w2.alloc (.cells #[.int .u8 2] 5)).drew):=agree_alloc (w:=w2) _ zvLr
   have x0:w2.cell? ⟨w.heap.size,0,none⟩=some (.int .i64 2):=HK2.out.cell 0
   refine wp_region_lit_plan [] [(0,0),(1,0),(2,0),(3,0),(4,1),(5,0),(6,4),(7,4)] (fun q=>q=w.heap.size) zyVB zyVB (fun c a d v w h=>zx0I) ?_
   go_wp2_with (first
    | (refine stp ?_)
    | (go_at_call 161;refine HL3.out.mono ?_;clear HL3;rintro e w5 ⟨rfl,F5,h51,h52,h53⟩;
       have HK5:=Lib.hid (HK2.out.only h52 (fun h=>Nat.lt_irrefl _ h.2));
       have y0:w5.cell? ⟨w.heap.size,0,none⟩=some (.int .i64 2):=HK5.out.cell 0;have y1:w5.cell? ⟨w.heap.size,1,none⟩=some (.int .i64 0):=HK5.out.cell 1;have y2:w5.cell? ⟨w.heap.size,2,none⟩=some (.string s):=HK5.out.cell 2;
       have H51:=Lib.hid h51.tight;have H52:=Lib.hid h52;have H53:=Lib.hid h53;clear h51 h52 h53))
   have hw6:Below w5.heap.size w5 (w5.alloc (.cells #[.string s] 9)):=(Below.refl _ _).alloc (Nat.le_refl _) _
   have hsl6:Sl (w5.alloc (.cells #[.string s] 9)) (fun q=>¬ (F5 q∧q < w5.heap.size)) 1 (.slice (some ⟨w5.heap.size,0,none⟩) 1 1) [s].length (txs [s]) :=
    (Own.made w5 9 1 (txs [s]) [] 1 1 rfl (Ones.nil.cons rfl) (Nat.le_refl _) zdUY (by simp [txs])).sl (fun q hq h=>absurd h.2 (Nat.not_lt_of_le (Nat.le_of_eq (show w5.heap.size=q by simpa [Value.ownBlock] using hq))))
   have HS6:=Lib.hid (text_wr (w5.alloc (.cells #[.string s] 9)) t b _ rest _ (H51.out.below hw6) _ [s] hsl6 (by intro q hq;rw [List.mem_singleton.1 hq];first|exact hs HVR.out|exact hs trivial) zr2F zPXO)
   clear hw6 hsl6
   go_wp2_with (go_at_call 182;refine HS6.out.mono ?_;clear HS6;rintro e w7 ⟨rfl,F7,h71,h72,h73⟩)
   go_end0
   have ho5:=zldO
   have ho6:Only (fun q=>F q∧q < w.heap.size) w (w5.alloc (.cells #[.string s] 9)):=ho5.alloc _
   have ho7:Only (fun q=>F q∧q < w.heap.size) w w7:=ho6.trans h72 (fun q hq h=>by
    rcases H53.out q h.1 with h2|h2
    ·exact h2
    ·exact absurd (Nat.lt_of_lt_of_le hq HBW2.out.size) zTbe)
   refine ⟨rfl,F7,?_,ho7.mono (fun q _ h=>h.1),fun q hq=>?_⟩
   ·have e1:valB ⟨2,0,s⟩=[UInt8.ofNat 2]++laid textB [s]:=by unfold valB;rw [if_pos HVR.out];simp [rightB,laid]
    exact zPSC
   ·rcases h73 q hq with h|h
    ·rcases H53.out q h.1 with h2|h2
     ·exact .inl h2.1
     ·exact .inr (Nat.le_trans HBW2.out.size h2)
    ·exact .inr (Nat.le_trans ho6.size h)
  ·rcases hn01 with rfl|rfl
   ·go_wp2
    have HL3:=zbVK
    have hag0:=zsOh
    have x0:w2.cell? ⟨w.heap.size,0,none⟩=some (.int .i64 3):=HK2.out.cell 0
    refine wp_region_lit_plan [] [(0,0),(1,0),(2,0),(3,0),(4,1),(5,0),(6,4),(7,4)] (fun q=>q=w.heap.size) zyVB zyVB (fun c a d v w h=>zx0I) ?_
    go_wp2_with (first
     | (refine stp ?_)
     | (go_at_call 161;refine HL3.out.mono ?_;clear HL3;rintro e w5 ⟨rfl,F5,h51,h52,h53⟩;
        have HK5:=Lib.hid (HK2.out.only h52 (fun h=>Nat.lt_irrefl _ h.2));
        have y0:w5.cell? ⟨w.heap.size,0,none⟩=some (.int .i64 3):=HK5.out.cell 0;have y1:w5.cell? ⟨w.heap.size,1,none⟩=some (.int .i64 0):=HK5.out.cell 1;have y2:w5.cell? ⟨w.heap.size,2,none⟩=some (.string s):=HK5.out.cell 2;
        have H51:=Lib.hid h51.tight;have H52:=Lib.hid h52;have H53:=Lib.hid h53;clear h51 h52 h53))
    have HL5:=lay_drew w5 t b _ rest _ H51.out 0 0 zTbe zTbe zr2F
    have hl5:w.heap.size < w5.heap.size:=Nat.lt_of_lt_of_le hlx H52.out.size
    have hag5:Agree (fun q=>q=w.heap.size) w5.drew ((w5.alloc (.cells #[.int .u8 0] 5)).drew):=agree_alloc (w:=w5) _ (by intro q hq;subst hq;exact hl5)
    go_wp2
    refine wp_region_lit_plan [] [(0,0),(1,0),(2,0),(3,0),(4,1),(5,0),(6,4),(7,4)] (fun q=>q=w.heap.size) zyVB zyVB (fun c a d v w h=>zx0I) ?_
    go_wp2_with (first
     | (refine stp ?_)
     | (go_at_call 161;refine HL5.out.mono ?_;clear HL5;rintro e w7 ⟨rfl,F7,h71,h72,h73⟩))
    go_end0
    have ho5:=zldO
    have ho7:Only (fun q=>F q∧q < w.heap.size) w w7:=ho5.trans h72 (fun q hq h=>by
     rcases H53.out q h.1 with h2|h2
     ·exact h2
     ·exact absurd (Nat.lt_of_lt_of_le hq HBW2.out.size) zTbe)
    refine ⟨rfl,F7,?_,ho7.mono (fun q _ h=>h.1),fun q hq=>?_⟩
    ·have e1:valB ⟨3,0,s⟩=[UInt8.ofNat 3]++[UInt8.ofNat 0]:=by unfold valB;rw [if_pos HVR.out];simp [rightB]
     exact zPSC
    ·rcases h73 q hq with h|h
     ·rcases H53.out q h.1 with h2|h2
      ·exact .inl h2.1
      ·exact .inr (Nat.le_trans HBW2.out.size h2)
     ·exact .inr (Nat.le_trans ho5.size h)
   ·go_wp2
    have HL3:=zbVK
    have hag0:=zsOh
    have x0:w2.cell? ⟨w.heap.size,0,none⟩=some (.int .i64 3):=HK2.out.cell 0
    refine wp_region_lit_plan [] [(0,0),(1,0),(2,0),(3,0),(4,1),(5,0),(6,4),(7,4)] (fun q=>q=w.heap.size) zyVB zyVB (fun c a d v w h=>zx0I) ?_
    go_wp2_with (first
     | (refine stp ?_)
     | (go_at_call 161;refine HL3.out.mono ?_;clear HL3;rintro e w5 ⟨rfl,F5,h51,h52,h53⟩;
        have HK5:=Lib.hid (HK2.out.only h52 (fun h=>Nat.lt_irrefl _ h.2));
        have y0:w5.cell? ⟨w.heap.size,0,none⟩=some (.int .i64 3):=HK5.out.cell 0;have y1:w5.cell? ⟨w.heap.size,1,none⟩=some (.int .i64 1):=HK5.out.cell 1;have y2:w5.cell? ⟨w.heap.size,2,none⟩=some (.string s):=HK5.out.cell 2;
        have H51:=Lib.hid h51.tight;have H52:=Lib.hid h52;have H53:=Lib.hid h53;clear h51 h52 h53))
    have HL5:=lay_drew w5 t b _ rest _ H51.out 1 1 zTbe zTbe zr2F
    have hl5:w.heap.size < w5.heap.size:=Nat.lt_of_lt_of_le hlx H52.out.size
    have hag5:Agree (fun q=>q=w.heap.size) w5.drew ((w5.alloc (.cells #[.int .u8 1] 5)).drew):=agree_alloc (w:=w5) _ (by intro q hq;subst hq;exact hl5)
    go_wp2
    refine wp_region_lit_plan [] [(0,0),(1,0),(2,0),(3,0),(4,1),(5,0),(6,4),(7,4)] (fun q=>q=w.heap.size) zyVB zyVB (fun c a d v w h=>zx0I) ?_
    go_wp2_with (first
     | (refine stp ?_)
     | (go_at_call 161;refine HL5.out.mono ?_;clear HL5;rintro e w7 ⟨rfl,F7,h71,h72,h73⟩))
    go_end0
    have ho5:=zldO
    have ho7:Only (fun q=>F q∧q < w.heap.size) w w7:=ho5.trans h72 (fun q hq h=>by
     rcases H53.out q h.1 with h2|h2
     ·exact h2
     ·exact absurd (Nat.lt_of_lt_of_le hq HBW2.out.size) zTbe)
    refine ⟨rfl,F7,?_,ho7.mono (fun q _ h=>h.1),fun q hq=>?_⟩
    ·have e1:valB ⟨3,1,s⟩=[UInt8.ofNat 3]++[UInt8.ofNat 1]:=by unfold valB;rw [if_pos HVR.out];simp [rightB]
     exact zPSC
    ·rcases h73 q hq with h|h
     ·rcases H53.out q h.1 with h2|h2
      ·exact .inl h2.1
      ·exact .inr (Nat.le_trans HBW2.out.size h2)
     ·exact .inr (Nat.le_trans ho5.size h)
theorem right_sizew (v:AV) (h:v.right=true):v.s.size≤1000:=by
 have h2:=size_list v.s _ rfl
 have h3:v.s.toList=v.s.data.toList:=ByteArray.toList_eq _
 unfold AV.right at h
 simp only [Bool.or_eq_true,Bool.and_eq_true,decide_eq_true_iff,h3,List.isEmpty_iff] at h
 rcases h with (h|h)|h
 ·rw [h2,h.2];simp
 ·omega
 ·rw [h2,h.2];simp
theorem valB_len (v:AV) (hn:fit64 v.n):(valB v).length≤1010:=by
 have hs:∀ n,fit64 n→(signB n).length≤9:=fun n h=>be_len8 _ (by unfold fit64 at h;unfold zig;split<;>omega)
 have hr:∀ v:AV,fit64 v.n→(v.kind=2→v.s.size≤1000)→(rightB v).length≤1010:=fun v h1 h2=>by
  unfold rightB
  rw [List.length_cons]
  split
  ·have:=hs v.n h1;omega
  ·split
   ·rename_i h3
    have h4:=be_len8 v.s.size (by have:=h2 h3;omega)
    have h5:=size_list v.s _ rfl
    unfold textB
    rw [List.length_append]
    have:=h2 h3
    omega
   ·simp
 unfold valB
 split
 ·rename_i h
  exact hr v hn (fun _=>right_sizew v h)
 ·exact hr _ (by unfold fit64 AV.zero;simp) (fun h=>by simp [AV.zero] at h)
theorem value_wr (w:World) (t:TypeId) (b:Nat) (F:Nat→Prop) (rest:List Value) (l:List UInt8) (hb:Buf w t b F rest l) (v:Value) (x:List AV) (hx:Sl w (fun k=>¬ F k) 3 v x.length (rowCells x)) (hf:∀ a∈x,fit64 a.n) (hlen:l.length≤40000000) (hxl:x.length≤1000) :
 Calls Tryz.prog 141 #[.pointer (some ⟨b,0,none⟩),v] w fun e w'=>e=.returned (.pointer (some ⟨b,0,none⟩))∧∃ F',Buf w' t b F' rest (l++laid valB x)∧Only F w w'∧∀ k,F' k→F k∨w.heap.size≤k:=by
 obtain ⟨p,cap,rfl,hc1,hc2⟩:=hx.form
 have HB:=Lib.hid hb
 have HX:=Lib.hid hx
 have HF:=Lib.hid hf
 clear hb hx hf
 go_enter Tryz.func141,Tryz.ntmps141
 go_wp2
 go_loopw [9] (fun i wr=>∃ (k:Nat) (F3:Nat→Prop),i=.int .i64 k∧k≤x.length∧Buf wr t b F3 rest (l++laid valB (x.take k))∧Only F w wr∧∀ q,F3 q→F q∨w.heap.size≤q) (fun i _=>x.length - (intOf i).toNat)
 case atStart=>exact ⟨0,F,rfl,Nat.zero_le _,z2HW,Only.refl _ _,fun q h=>.inl h⟩
 case round =>
  obtain ⟨k,F3,rfl,hk,hb3,ho3,hf3⟩:=hrel
  have HB3:=Lib.hid hb3
  have HO3:=Lib.hid ho3
  have HF3:=Lib.hid hf3
  by_cases hka:k < x.length
  ·have hxr:Sl wr (fun _=>True) 3 (.slice p x.length cap) x.length (rowCells x):=Sl.mono (HX.out.only ho3 (fun _ h=>h)) (Nat.le_refl _) (fun _ _ _=>rfl) (fun _ _ _=>trivial)
   obtain ⟨g,off,cap',hv,hg,e0,e1,e2⟩:=sl_av hxr hka
   cases hv
   have hfx:=HF.out x[k] (List.getElem_mem hka)
   have HN:=Lib.hid (laid_next valB x k hka)
   have hll:=laid_len valB 1010 (x.take k) (fun a ha=>valB_len a (HF.out a (List.mem_of_mem_take ha)))
   have hlk:(x.take k).length≤1000:=z2Pg
   clear hxr hb3 ho3 hf3
   generalize x[k]=a at *
   have hbx:Below wr.heap.size wr (wr.alloc (.cells #[.int .i64 a.kind,.int .i64 a.n,.string a.s] 113)):=(Below.refl _ _).alloc (Nat.le_refl _) _
   have hL:=one_wr _ t b F3 rest _ (HB3.out.below hbx) a hfx zZJx (right_sizew a)
   rw [List.append_assoc,←HN.out] at hL
   have HL:Hid (Calls Tryz.prog 162 #[.pointer (some ⟨b,0,none⟩),.agg #[.int .i64 a.kind,.int .i64 a.n,.string a.s]] (wr.alloc (.cells #[.int .i64 a.kind,.int .i64 a.n,.string a.s] 113)) fun e w'=>e=.returned (.tuple #[])∧∃ F',Buf w' t b F' rest (l++laid valB (x.take (k+1)))∧Only F3 wr w'∧∀ k,F' k→F3 k∨wr.heap.size≤k):=hL.mono fun e w' ⟨he,F',h1,h2,h3⟩ =>
    ⟨he,F',h1,((Only.refl F3 wr).alloc _).trans h2 (fun _ _ h=>h),fun k hk=>(h3 k hk).imp id (fun h=>Nat.le_trans zPXO h)⟩
   clear hbx
   clear hL hll hlk hfx
   go_wp2_with (go_at_call 162;refine HL.out.mono ?_;clear HL;rintro e w4 ⟨rfl,F4,h41,h42,h43⟩;have H41:=Lib.hid h41;have H42:=Lib.hid h42;have H43:=Lib.hid h43;clear h41 h42 h43)
   exact zLde
  ·obtain rfl:k=x.length:=by omega
   clear hb3 ho3 hf3
   go_wp2
   go_ret
   refine ⟨rfl,F3,?_,HO3.out,HF3.out⟩
   have:=HB3.out
   rwa [List.take_length] at this
def rowB (l:List AV):List UInt8:=sizeB l.length++laid valB l
theorem rowB_len (l:List AV) (h:∀ a∈l,fit64 a.n) (hl:l.length≤100):(rowB l).length≤101009:=by
 have h1:=laid_len valB 1010 l (fun a ha=>valB_len a (h a ha))
 have h2:=be_len8 (max (l.length:Int) 0).toNat zTbe
 unfold rowB sizeB
 rw [List.length_append];omega
theorem size_one (w:World) (t:TypeId) (b:Nat) (F:Nat→Prop) (rest:List Value) (l:List UInt8) (hb:Buf w t b F rest l) (n:Nat) (hn:n≤1000000) (hlen:l.length≤100000000) :
 Hid (Calls Tryz.prog 106 #[.pointer (some ⟨b,0,none⟩),.slice (some ⟨w.heap.size,0,none⟩) 1 1] (w.alloc (.cells #[.int .i64 n] 3)) fun e w'=>e=.returned (.pointer (some ⟨b,0,none⟩))∧∃ F',Buf w' t b F' rest (l++sizeB n)∧Only F w w'∧∀ k,F' k→F k∨w.heap.size≤k):=by
 have hw6:Below w.heap.size w (w.alloc (.cells #[.int .i64 n] 3)):=(Below.refl _ _).alloc (Nat.le_refl _) _
 have hsl6:Sl (w.alloc (.cells #[.int .i64 n] 3)) (fun q=>¬ (F q∧q < w.heap.size)) 1 (.slice (some ⟨w.heap.size,0,none⟩) 1 1) [(n:Int)].length (ints [(n:Int)]) :=
  (Own.made w 3 1 (ints [(n:Int)]) [] 1 1 rfl (Ones.nil.cons rfl) (Nat.le_refl _) zdUY zN8V).sl (fun q hq h=>absurd h.2 (Nat.not_lt_of_le (Nat.le_of_eq (show w.heap.size=q by simpa [Value.ownBlock] using hq))))
 refine (size_wr _ t b _ rest l (hb.tight.below hw6) _ [(n:Int)] hsl6 (by intro q hq;rw [List.mem_singleton.1 hq];unfold fit64;omega) hlen zPXO).mono ?_
 rintro e w' ⟨he,F',h1,h2,h3⟩
 refine ⟨he,F',by simpa [laid] using h1,(((Only.refl (fun q=>F q∧q < w.heap.size) w).alloc _).trans h2 (fun _ _ h=>h)).mono (fun _ _ h=>h.1),fun k hk=>?_⟩
 rcases h3 k hk with h|h
 ·exact .inl h.1
 ·exact .inr (Nat.le_trans zPXO h)
theorem row_wr (w:World) (t:TypeId) (b:Nat) (F:Nat→Prop) (rest:List Value) (l:List UInt8) (hb:Buf w t b F rest l) (v:Value) (x:List AV) (hx:Sl w (fun k=>¬ F k) 3 v x.length (rowCells x)) (hf:∀ a∈x,fit64 a.n) (hlen:l.length≤30000000) (hxl:x.length≤1000) :
 Calls Tryz.prog 107 #[.pointer (some ⟨b,0,none⟩),v] w fun e w'=>e=.returned (.pointer (some ⟨b,0,none⟩))∧∃ F',Buf w' t b F' rest (l++rowB x)∧Only F w w'∧∀ k,F' k→F k∨w.heap.size≤k:=by
 obtain ⟨p,cap,rfl,hc1,hc2⟩:=hx.form
 have HS:=size_one w t b F rest l hb x.length zTbe zTbe
 have HV:Hid (∀ (w2:World) (F2:Nat→Prop),Buf w2 t b F2 rest (l++sizeB x.length)→Only F w w2→(∀ k,F2 k→F k∨w.heap.size≤k)→Calls Tryz.prog 141 #[.pointer (some ⟨b,0,none⟩),.slice p x.length cap] w2 fun e w'=>e=.returned (.pointer (some ⟨b,0,none⟩))∧∃ F',Buf w' t b F' rest (l++rowB x)∧Only F2 w2 w'∧∀ k,F' k→F2 k∨w2.heap.size≤k):=fun w2 F2 h1 h2 h3=>by
  have hx2:Sl w2 (fun k=>¬ F2 k) 3 (.slice p x.length cap) x.length (rowCells x) :=
   Sl.mono hx h2.size (fun k hk hlt=>h2.block k hlt hk) (fun k hk hlt h=>by
    rcases h3 k h with h4|h4
    ·exact hk h4
    ·omega)
  have:=value_wr w2 t b F2 rest _ h1 _ x hx2 hf (by
   have h2:=be_len8 (max (x.length:Int) 0).toNat zTbe
   unfold sizeB
   rw [List.length_append];omega) hxl
  rw [List.append_assoc] at this
  exact this
 clear hb hx hf
 go_enter Tryz.func107,Tryz.ntmps107
 go_wp2_with (first
  | (go_at_call 106;refine HS.out.mono ?_;clear HS;rintro e w2 ⟨rfl,F2,h21,h22,h23⟩;have HV2:=Lib.hid (HV.out w2 F2 h21 h22 h23);have H22:=Lib.hid h22;have H23:=Lib.hid h23;clear h21 h22 h23)
  | (go_at_call 141;refine HV2.out.mono ?_;clear HV2;rintro e w3 ⟨rfl,F3,h31,h32,h33⟩))
 go_ret
 refine ⟨rfl,F3,h31,H22.out.trans h32 (fun q hq h=>?_),fun q hq=>?_⟩
 ·rcases H23.out q h with h2|h2
  ·exact h2
  ·omega
 ·rcases h33 q hq with h|h
  ·exact H23.out q h
  ·exact .inr (Nat.le_trans H22.out.size h)
def rowsB (rows:List RowV):List UInt8:=sizeB rows.length++laid (fun r=>rowB r.l) rows
def IsRows (w:World) (B:Nat→Prop) (v:Value) (rows:List RowV):Prop :=
 Sl w B 1 v rows.length (rowVals rows)∧∀ r∈rows,Sl w B 3 r.v r.l.length (rowCells r.l)∧(∀ a∈r.l,fit64 a.n)∧r.l.length≤1000
theorem rows_wrM (w:World) (t:TypeId) (b:Nat) (F:Nat→Prop) (rest:List Value) (l:List UInt8) (hb:Buf w t b F rest l) (v:Value) (x:List RowV) (hx:IsRows w (fun k=>¬ F k) v x) (hlen:l.length≤15000000) (hxl:x.length≤1000) (mx:Nat) (hmx:mx*x.length≤14000000) (hrl:∀ r∈x,(rowB r.l).length≤mx) :
 Calls Tryz.prog 75 #[.pointer (some ⟨b,0,none⟩),v] w fun e w'=>e=.returned (.pointer (some ⟨b,0,none⟩))∧∃ F',Buf w' t b F' rest (l++rowsB x)∧Only F w w'∧∀ k,F' k→F k∨w.heap.size≤k:=by
 obtain ⟨p,cap,rfl,hc1,hc2⟩:=hx.1.form
 have HS:=size_one w t b F rest l hb x.length zTbe zTbe
 have HX:=Lib.hid hx
 have HR:=Lib.hid hrl
 clear hb hx hrl
 go_enter Tryz.func75,Tryz.ntmps75
 go_wp2_with (go_at_call 106;refine HS.out.mono ?_;clear HS;rintro e w2 ⟨rfl,F2,h21,h22,h23⟩;have H21:=Lib.hid h21;have H22:=Lib.hid h22;have H23:=Lib.hid h23;clear h21 h22 h23)
 go_loopw [14] (fun i wr=>∃ (k:Nat) (F3:Nat→Prop),i=.int .i64 k∧k≤x.length∧Buf wr t b F3 rest (l++sizeB x.length++laid (fun r:RowV=>rowB r.l) (x.take k))∧Only F w wr∧∀ q,F3 q→F q∨w.heap.size≤q) (fun i _=>x.length - (intOf i).toNat)
 case atStart=>exact ⟨0,F2,rfl,Nat.zero_le _,by simpa [laid] using H21.out,H22.out,H23.out⟩
 case round =>
  obtain ⟨k,F3,rfl,hk,hb3,ho3,hf3⟩:=hrel
  have HB3:=Lib.hid hb3
  have HO3:=Lib.hid ho3
  have HF3:=Lib.hid hf3
  by_cases hka:k < x.length
  ·obtain ⟨g,off,cap',hv,_,_,hgb,hglt,hc⟩:=HX.out.1.place zTbe
   cases hv
   have hc0:w.cell? ⟨g,off+k,none⟩=some x[k].v:=by rw [hc k (by simpa [rowVals] using hka)];simp [rowVals,hka]
   have hck:wr.cell? ⟨g,off+k,none⟩=some x[k].v:=(ho3.cell (p:=⟨g,off+k,none⟩) hglt hgb).trans hc0
   have hrx:=HX.out.2 x[k] (List.getElem_mem hka)
   have HN:=Lib.hid (laid_next (fun r:RowV=>rowB r.l) x k hka)
   have hll:=Nat.le_trans (laid_len (fun r:RowV=>rowB r.l) mx (x.take k) (fun r hr=>HR.out r (List.mem_of_mem_take hr))) (Nat.mul_le_mul_left mx (by rw [List.length_take];omega:(x.take k).length≤x.length))
   have hlk:(x.take k).length≤1000:=z2Pg
   have hsz:=be_len8 (max (x.length:Int) 0).toNat zTbe
   clear hc hc0 hb3 ho3 hf3
   generalize x[k]=r at *
   obtain ⟨rv,rl⟩:=r
   obtain ⟨rp,rc,hrv,hrc1,hrc2⟩:=hrx.1.form
   have hrv2:rv=.slice rp rl.length rc:=hrv
   subst hrv2
   have hx3:Sl wr (fun k=>¬ F3 k) 3 (.slice rp rl.length rc) rl.length (rowCells rl) :=
    Sl.mono hrx.1 HO3.out.size (fun k hk hlt=>HO3.out.block k hlt hk) (fun k hk hlt h=>by
     rcases HF3.out k h with h4|h4
     ·exact hk h4
     ·omega)
   have hL:=row_wr wr t b F3 rest _ HB3.out _ rl hx3 hrx.2.1 (by
    unfold sizeB
    rw [List.length_append,List.length_append];omega) hrx.2.2
   rw [List.append_assoc,←HN.out] at hL
   have HL:=Lib.hid hL
   have hck2:wr.cell? ⟨g,off+k,none⟩=some (.slice rp rl.length rc):=hck
   clear hL hll hlk hrx hx3 hsz hck hrv
   go_wp2_with (go_at_call 107;refine HL.out.mono ?_;clear HL;rintro e w4 ⟨rfl,F4,h41,h42,h43⟩;have H41:=Lib.hid h41;have H42:=Lib.hid h42;have H43:=Lib.hid h43;clear h41 h42 h43)
   exact zLde
  ·obtain rfl:k=x.length:=by omega
   clear hb3 ho3 hf3
   go_wp2
   go_ret
   refine ⟨rfl,F3,?_,HO3.out,HF3.out⟩
   have:=HB3.out
   rw [List.take_length,List.append_assoc] at this
   exact this
theorem rows_wr (w:World) (t:TypeId) (b:Nat) (F:Nat→Prop) (rest:List Value) (l:List UInt8) (hb:Buf w t b F rest l) (v:Value) (x:List RowV) (hx:IsRows w (fun k=>¬ F k) v x) (hlen:l.length≤15000000) (hxl:x.length≤100) (hrl:∀ r∈x,r.l.length≤100) :
 Calls Tryz.prog 75 #[.pointer (some ⟨b,0,none⟩),v] w fun e w'=>e=.returned (.pointer (some ⟨b,0,none⟩))∧∃ F',Buf w' t b F' rest (l++rowsB x)∧Only F w w'∧∀ k,F' k→F k∨w.heap.size≤k :=
 rows_wrM w t b F rest l hb v x hx hlen zTbe 101009 zTbe (fun r hr=>rowB_len r.l (hx.2 r hr).2.1 (hrl r hr))
end Go.Proofs.YteggkjdlajgenaaGreatDoor
namespace Go.Proofs.YteggkjdlajgenaaGreatDoor
open Go.RowKit Go.Afx
variable {RB:Nat→Prop}
@[go_sem] theorem eqlNilU8 (w:World) (a:Option Addr) (n c:Nat):(binOp .eql 57 (.slice a n c) (.slice none 0 0)).run Tryz.prog w=.ok (.bool a.isNone) w:=Lib.run_eql_slice_nil w _ _ a n c 0 0 Tryz.underlying57
end Go.Proofs.YteggkjdlajgenaaGreatDoor
namespace Go.Proofs.YteggkjdlajgenaaGreatDoor
open Go.RowKit Go.Afx
variable {RB:Nat→Prop}
theorem by8_take (l:List UInt8) (n:Nat):(by8 l).take n=by8 (l.take n):=by simp [by8,List.map_take]
end Go.Proofs.YteggkjdlajgenaaGreatDoor
namespace Go.Proofs.YteggkjdlajgenaaGreatDoor
open Go.RowKit Go.Afx
variable {RB:Nat→Prop}
def rByte (bad:Bool) (l:List UInt8):Int × Bool × List UInt8 :=
  match bad,l with
  | false,c::t=>((c.toNat:Int),false,t)
  | _,_=>(0,true,[])
end Go.Proofs.YteggkjdlajgenaaGreatDoor
namespace Go.Proofs.YteggkjdlajgenaaGreatDoor
open Go.RowKit Go.Afx
def ofBytes (l:List UInt8):Nat:=l.foldl (fun n c=>n*256+c.toNat) 0
theorem ofBytes_next (l:List UInt8) (k:Nat) (h:k < l.length):ofBytes (l.take (k+1))=ofBytes (l.take k)*256+l[k].toNat:=by
  unfold ofBytes
  exact zz7W
theorem ofBytes_lt (l:List UInt8):∀ k,ofBytes (l.take k) < 256 ^ k
  | 0=>by simp [ofBytes]
  | k+1=>by
    have ih:=ofBytes_lt l k
    by_cases h:k < l.length
    · rw [ofBytes_next l k h,Nat.pow_succ]
      have:=l[k].toNat_lt
      omega
    · rw [List.take_of_length_le zTbe]
      rw [List.take_of_length_le zTbe] at ih
      exact Nat.lt_of_lt_of_le ih (Nat.pow_le_pow_right zTbe zTbe)
theorem or_byte (n c:Nat) (hn:n < 72057594037927936) (hc:c < 256):bits .or .u64 (IntKind.u64.wrap ((n:Int)*256)) (c:Int)=((n*256+c:Nat):Int):=by
  have e1:IntKind.u64.wrap ((n:Int)*256)=((n*256:Nat):Int):=zm6w
  rw [e1,bits_or_u64_nat _ _ zTbe zTbe]
  have h2:n*256=n <<< 8:=by rw [Nat.shiftLeft_eq]
  rw [h2,←Nat.shiftLeft_add_eq_or_of_lt (show c < 2 ^ 8 from hc)]
def rNum (bad:Bool) (l:List UInt8):Nat × Bool × List UInt8 :=
  let r:=rByte bad l
  let size:=r.1.toNat
  if r.2.1 then (0,true,[]) else if 8 < size∨r.2.2.length < size then (0,true,[]) else if (r.2.2.take size).head?=some 0 then (0,true,[]) else (ofBytes (r.2.2.take size),false,r.2.2.drop size)
end Go.Proofs.YteggkjdlajgenaaGreatDoor
namespace Go.Proofs.YteggkjdlajgenaaGreatDoor
open Go.RowKit Go.Afx
variable {RB:Nat→Prop}
theorem rByte_bad (bad:Bool) (l:List UInt8) (h:(rByte bad l).2.1=true):(rByte bad l).1=0∧(rByte bad l).2.2=[]:=by
  unfold rByte at *
  split
  · rename_i h2;simp at h
  · exact ⟨rfl,rfl⟩
theorem rByte_range (bad:Bool) (l:List UInt8):∃ m:Nat,(rByte bad l).1=m∧m < 256:=by
  unfold rByte
  split
  · rename_i c t;exact ⟨c.toNat,rfl,c.toNat_lt⟩
  · exact ⟨0,rfl,zTbe⟩
end Go.Proofs.YteggkjdlajgenaaGreatDoor
namespace Go.Proofs.YteggkjdlajgenaaGreatDoor
open Go.RowKit Go.Afx
variable {RB:Nat→Prop}
def Mine (p:Option Addr) (k:Nat):Prop:=p=some ⟨k,0,none⟩
theorem mine_only {w w':World} {b:Nat} (h:Only (fun k=>k=b) w w'):Only (Mine (some ⟨b,0,none⟩)) w w' :=
  h.mono fun k _ h=>by subst h;rfl
theorem mine_eq {b k:Nat} (h:Mine (some ⟨b,0,none⟩) k):k=b:=by unfold Mine at h;injection h with h;injection h with h1;exact h1.symm
def rCut (n:Nat) (bad:Bool) (l:List UInt8):List UInt8 × Bool × List UInt8 :=
  if bad=true∨l.length < n then ([],true,[]) else (l.take n,false,l.drop n)
end Go.Proofs.YteggkjdlajgenaaGreatDoor
namespace Go.Proofs.YteggkjdlajgenaaGreatDoor
open Go.RowKit Go.Afx
variable {RB:Nat→Prop}
theorem mine_trans {w w' w'':World} {p:Option Addr} (h:Only (Mine p) w w') (h2:Only (Mine p) w' w''):Only (Mine p) w w'':=h.trans h2 (fun _ _ h=>h)
theorem rNum_bad (bad:Bool) (l:List UInt8) (h:(rNum bad l).2.1=true):(rNum bad l).1=0∧(rNum bad l).2.2=[]:=by
  unfold rNum at *
  simp only at *
  split at h
  · rename_i h1;rw [if_pos h1];exact ⟨rfl,rfl⟩
  · rename_i h1
    rw [if_neg h1]
    split at h
    · rename_i h2;rw [if_pos h2];exact ⟨rfl,rfl⟩
    · rename_i h2
      rw [if_neg h2]
      split at h
      · rename_i h3;rw [if_pos h3];exact ⟨rfl,rfl⟩
      · cases h
theorem rNum_lt (bad:Bool) (l:List UInt8):(rNum bad l).1 < 18446744073709551616:=by
  unfold rNum
  simp only
  split
  · exact zcX3
  · split
    · exact zcX3
    · rename_i h2
      split
      · exact zcX3
      · have h1:=ofBytes_lt (rByte bad l).2.2 (rByte bad l).1.toNat
        have h3:(rByte bad l).1.toNat≤8:=by
          rcases Nat.lt_or_ge 8 (rByte bad l).1.toNat with h|h
          · exact absurd (.inl h) h2
          · exact h
        exact Nat.lt_of_lt_of_le h1 (Nat.le_trans (Nat.pow_le_pow_right zTbe h3) zcX3)
def rSize (most:Int) (bad:Bool) (l:List UInt8):Nat × Bool × List UInt8 :=
  let r:=rNum bad l
  if r.2.1=true∨most < 0∨most < (r.1:Int) then (0,true,[]) else r
def unzig (n:Nat):Int:=if n % 2=0 then n / 2 else -(n / 2:Nat) - 1
theorem wrap_64 (x:Int):wrap64 x=IntKind.i64.wrap x:=by rw [IntKind.wrap_i64];unfold wrap64;first|rfl|omega
theorem unzig_bits (n:Nat) (h:n < 18446744073709551616):bits .xor .i64 ((n:Int) / 2) (IntKind.i64.wrap (-IntKind.i64.wrap (bits .and .u64 (n:Int) 1)))=unzig n:=by
  have e1:bits .and .u64 (n:Int) 1=((n % 2:Nat):Int):=by
    have:=bits_and_u64_nat n 1 h zcX3
    rw [Nat.and_one_is_mod] at this
    exact this
  have e2:(n:Int) / 2=((n / 2:Nat):Int):=zTbe
  have h1:(BitVec.ofInt 64 ((n / 2:Nat):Int)).toNat=n / 2:=by
    rw [BitVec.ofInt_natCast,BitVec.toNat_ofNat];exact Nat.mod_eq_of_lt zTbe
  rw [e1,e2]
  unfold unzig
  rcases Nat.mod_two_eq_zero_or_one n with h0|h0
  · rw [h0,if_pos rfl]
    have e3:IntKind.i64.wrap (-IntKind.i64.wrap ((0:Nat):Int))=((0:Nat):Int):=zdhv
    rw [e3]
    show IntKind.i64.wrap ((BitVec.ofInt 64 ((n / 2:Nat):Int) ^^^ BitVec.ofInt 64 ((0:Nat):Int)).toNat:Int)=_
    have h2:(BitVec.ofInt 64 ((0:Nat):Int)).toNat=0:=zdhv
    rw [BitVec.toNat_xor,h1,h2,Nat.xor_zero,IntKind.wrap_i64]
    omega
  · rw [h0,if_neg zcX3]
    have e3:IntKind.i64.wrap (-IntKind.i64.wrap ((1:Nat):Int))=-1:=zdhv
    rw [e3]
    show IntKind.i64.wrap ((BitVec.ofInt 64 ((n / 2:Nat):Int) ^^^ BitVec.ofInt 64 (-1)).toNat:Int)=_
    have h2:(BitVec.ofInt 64 (-1)).toNat=18446744073709551615:=zdhv
    rw [BitVec.toNat_xor,h1,h2,xor_ones _ zTbe,IntKind.wrap_i64]
    omega
def rSign (bad:Bool) (l:List UInt8):Int × Bool × List UInt8:=(unzig (rNum bad l).1,(rNum bad l).2)
def rText (most:Int) (bad:Bool) (l:List UInt8):List UInt8 × Bool × List UInt8:=rCut (rSize most bad l).1 (rSize most bad l).2.1 (rSize most bad l).2.2
end Go.Proofs.YteggkjdlajgenaaGreatDoor
namespace Go.Proofs.YteggkjdlajgenaaGreatDoor
open Go.RowKit Go.Afx
variable {RB:Nat→Prop}
def rRaw (bad:Bool) (l:List UInt8):AV × Bool × List UInt8 :=
  let k:=rByte bad l
  if k.1=1 then (⟨1,(rSign k.2.1 k.2.2).1,⟨#[]⟩⟩,(rSign k.2.1 k.2.2).2) else if k.1=2 then (⟨2,0,⟨(rText 200 k.2.1 k.2.2).1.toArray⟩⟩,(rText 200 k.2.1 k.2.2).2)
    else if k.1=3 then (⟨3,(rByte k.2.1 k.2.2).1,⟨#[]⟩⟩,(rByte k.2.1 k.2.2).2) else (⟨k.1,0,⟨#[]⟩⟩,k.2)
def AV.none:AV:=⟨0,0,⟨#[]⟩⟩
def rVal (bad:Bool) (l:List UInt8):AV × Bool × List UInt8:=if (rRaw bad l).1.right=true∧(rRaw bad l).2.1=false then rRaw bad l else (AV.none,true,[])
theorem AV.cells_none:AV.none.cells=[.int .i64 0,.int .i64 0,.string ⟨#[]⟩]:=rfl
end Go.Proofs.YteggkjdlajgenaaGreatDoor
namespace Go.Proofs.YteggkjdlajgenaaGreatDoor
open Go.RowKit Go.Afx
variable {RB:Nat→Prop}
theorem rByte_good (bad:Bool) (l:List UInt8) (h:(rByte bad l).2.1=false):bad=false∧(rByte bad l).2.2.length+1=l.length:=by
  cases bad
  · cases l
    · cases h
    · exact ⟨rfl,rfl⟩
  · cases h
theorem rNum_good (bad:Bool) (l:List UInt8) (h:(rNum bad l).2.1=false):bad=false∧(rNum bad l).2.2.length+1≤l.length:=by
  unfold rNum at *
  simp only at *
  split at h
  · cases h
  · rename_i h1
    rw [if_neg h1]
    have hb:=rByte_good bad l zVKw
    split at h
    · cases h
    · rename_i h2
      rw [if_neg h2]
      split at h
      · cases h
      · rename_i h3
        rw [if_neg h3]
        refine ⟨hb.1,?_⟩
        rw [List.length_drop];omega
theorem rSize_good (most:Int) (bad:Bool) (l:List UInt8) (h:(rSize most bad l).2.1=false):bad=false∧(rSize most bad l).2.2.length+1≤l.length:=by
  unfold rSize at *
  simp only at *
  split at h
  · cases h
  · rename_i h1
    rw [if_neg h1]
    exact rNum_good bad l h
theorem rText_good (most:Int) (bad:Bool) (l:List UInt8) (h:(rText most bad l).2.1=false):bad=false∧(rText most bad l).2.2.length+1≤l.length:=by
  unfold rText rCut at *
  split at h
  · cases h
  · rename_i h1
    rw [if_neg h1]
    have h2:=rSize_good most bad l (by cases hq:(rSize most bad l).2.1;rfl;exact absurd (.inl hq) h1)
    refine ⟨h2.1,?_⟩
    simp only [List.length_drop];omega
theorem rRaw_good (bad:Bool) (l:List UInt8) (h:(rRaw bad l).2.1=false):bad=false∧(rRaw bad l).2.2.length+1≤l.length:=by
  unfold rRaw at *
  simp only at *
  split at h
  · rename_i h1
    rw [if_pos h1]
    have h2:=rNum_good _ _ h
    have h3:=rByte_good bad l h2.1
    have h4:=h2.2
    exact ⟨h3.1,by simp only [rSign];omega⟩
  · rename_i h1
    rw [if_neg h1]
    split at h
    · rename_i h2
      rw [if_pos h2]
      have h2:=rText_good _ _ _ h
      have h3:=rByte_good bad l h2.1
      exact ⟨h3.1,by simp only;omega⟩
    · rename_i h2
      rw [if_neg h2]
      split at h
      · rename_i h3
        rw [if_pos h3]
        have h2:=rByte_good _ _ h
        have h3:=rByte_good bad l h2.1
        exact ⟨h3.1,by simp only;omega⟩
      · rename_i h3
        rw [if_neg h3]
        have h3:=rByte_good bad l h
        exact ⟨h3.1,by simp only;omega⟩
theorem unzig_fit (n:Nat) (h:n < 18446744073709551616):fit64 (unzig n):=by
  unfold fit64 unzig
  split<;>omega
theorem rVal_good (bad:Bool) (l:List UInt8) (h:(rVal bad l).2.1=false):bad=false∧(rVal bad l).2.2.length+1≤l.length∧(rVal bad l).1.right=true∧fit64 (rVal bad l).1.n:=by
  unfold rVal at *
  split at h
  · rename_i h1
    rw [if_pos h1]
    have h2:=rRaw_good bad l h1.2
    refine ⟨h2.1,h2.2,h1.1,?_⟩
    have hr:=h1.1
    unfold rRaw at *
    simp only at *
    split
    · exact unzig_fit _ (rNum_lt _ _)
    · rename_i h3
      rw [if_neg h3] at hr
      split
      · unfold fit64;simp only;omega
      · rename_i h4
        rw [if_neg h4] at hr
        split
        · rename_i h5
          rw [if_pos h5] at hr
          simp [AV.right] at hr
          unfold fit64;simp only;omega
        · unfold fit64;simp only;omega
  · cases h
def rMany {α:Type} (f:Bool→List UInt8→α × Bool × List UInt8):Nat→Bool→List UInt8→List α × Bool × List UInt8
  | 0,bad,l=>([],bad,l)
  | n+1,bad,l=>if bad then ([],bad,l) else ((f bad l).1::(rMany f n (f bad l).2.1 (f bad l).2.2).1,(rMany f n (f bad l).2.1 (f bad l).2.2).2)
def rList {α:Type} (f:Bool→List UInt8→α × Bool × List UInt8) (most:Int) (bad:Bool) (l:List UInt8):List α × Bool × List UInt8 :=
  let s:=rSize most bad l
  let q:=rMany f s.1 s.2.1 s.2.2
  if q.2.1 then ([],true,[]) else q
def rRow (most:Int) (bad:Bool) (l:List UInt8):List AV × Bool × List UInt8:=rList rVal most bad l
theorem own_val (w:World) (v:AV):Own (w.alloc (.cells #[.int .i64 v.kind,.int .i64 v.n,.string v.s] 113)) 113 3 (.slice (some ⟨w.heap.size,0,none⟩) 1 1) 1 (rowCells [v]) :=
  Own.made w 113 3 (rowCells [v]) [] 1 1 rfl z0qj (Nat.le_refl _) zdUY (by simp [rowCells,AV.cells])
theorem sl_val (w:World) (v:AV):Sl (w.alloc (.cells #[.int .i64 v.kind,.int .i64 v.n,.string v.s] 113)) (fun _=>True) 3 (.slice (some ⟨w.heap.size,0,none⟩) 1 1) 1 (rowCells [v]) :=
  (own_val w v).sl (fun _ _=>trivial)
end Go.Proofs.YteggkjdlajgenaaGreatDoor
namespace Go.Proofs.YteggkjdlajgenaaGreatDoor
open Go.RowKit Go.Afx
variable {RB:Nat→Prop}
theorem elemRow:Elem Tryz.prog 32 37 1 24 (.slice none 0 0) :=
  ⟨Tryz.underlying32,zyVB,rfl,zTbe,zOaE⟩
theorem rMany_good {α:Type} (f:Bool→List UInt8→α × Bool × List UInt8) (hf:∀ bad l,(f bad l).2.1=false→bad=false∧(f bad l).2.2.length≤l.length) :
    ∀ n bad l,(rMany f n bad l).2.1=false→bad=false∧(rMany f n bad l).2.2.length≤l.length
  | 0,bad,l,h=>⟨h,Nat.le_refl _⟩
  | n+1,bad,l,h=>by
    unfold rMany at *
    cases bad
    · rw [if_neg zcX3] at h ⊢
      have h1:=rMany_good f hf n _ _ h
      have h2:=hf _ _ h1.1
      exact ⟨rfl,Nat.le_trans h1.2 h2.2⟩
    · cases h
theorem rList_good {α:Type} (f:Bool→List UInt8→α × Bool × List UInt8) (hf:∀ bad l,(f bad l).2.1=false→bad=false∧(f bad l).2.2.length≤l.length) (most:Int) (bad:Bool) (l:List UInt8)
    (h:(rList f most bad l).2.1=false):bad=false∧(rList f most bad l).2.2.length+1≤l.length:=by
  unfold rList at *
  simp only at *
  split at h
  · cases h
  · rename_i h1
    rw [if_neg h1]
    have h2:=rMany_good f hf _ _ _ h
    have h3:=rSize_good most bad l h2.1
    exact ⟨h3.1,zTbe⟩
theorem rRow_good (most:Int) (bad:Bool) (l:List UInt8) (h:(rRow most bad l).2.1=false):bad=false∧(rRow most bad l).2.2.length+1≤l.length :=
  rList_good rVal (fun bad l h=>by have:=rVal_good bad l h;exact ⟨this.1,zTbe⟩) most bad l h
def rRows (most cols:Int) (bad:Bool) (l:List UInt8):List (List AV) × Bool × List UInt8:=rList (rRow cols) most bad l
end Go.Proofs.YteggkjdlajgenaaGreatDoor
namespace Go.Proofs.YteggkjdlajgenaaGreatDoor
open Go.RowKit Go.Afx
theorem refnum (w:World) (n:Nat) (hn:n < 18446744073709551616) :
 Calls Tryz.prog 109 #[.int .u64 (n:Int)] w fun e w'=>e=.returned (.string (bs (numB n)))∧Below w.heap.size w w':=by
 have hl8:=be_len_le 8 n hn
 have HL8:=Lib.hid hl8
 clear hl8
 go_enter Tryz.func109,Tryz.ntmps109
 go_wp2
 go_loopw [0,3] (fun n0 s wr=>∃ (u:Nat) (acc:List UInt8),n0=.int .u64 (u:Int)∧u≤n∧s=.string (bs acc)∧be256 u++acc=be256 n∧Below w.heap.size w wr) (fun n0 _ _=>(intOf n0).toNat)
 case atStart=>exact ⟨n,[],rfl,Nat.le_refl _,by rw [bs_nil],zPXO,Below.refl _ _⟩
 case round =>
  obtain ⟨u,acc,rfl,hu,rfl,hacc,hb⟩:=hrel
  have hal8:acc.length≤8:=by have:=HL8.out;rw [←hacc,List.length_append] at this;omega
  have HB:=Lib.hid hb
  have HSZ:Hid ((bs acc).size=acc.length):=bs_size acc
  clear hb
  rcases Nat.eq_zero_or_pos u with h0|h0
  ·subst h0
   rw [be_zero,List.nil_append] at hacc
   subst hacc
   have cvb:=cv_byte wr (be256 n).length zTbe
   have hsz:=HSZ.out
   have hcat:bs [UInt8.ofNat (be256 n).length]++bs (be256 n)=bs (numB n):=by rw [bs_append];rfl
   have hsl:(bs [UInt8.ofNat (be256 n).length]).size=1:=by rw [bs_size];rfl
   have hsum:(bs [UInt8.ofNat (be256 n).length]).size+(bs (be256 n)).size≤9223372036854775807:=by rw [hsl,hsz];omega
   clear hsl
   generalize bs (be256 n)=S at *
   generalize (be256 n).length=k at *
   generalize bs [UInt8.ofNat k]=ch at *
   generalize hR:bs (numB n)=R at *
   have HR:=Lib.hid hR
   clear hR
   go_wp2
   go_ret
   exact ⟨by rw [HR.out];rfl,HB.out.alloc HB.out.size _⟩
  ·have HE:=Lib.hid (be_pos u h0)
   obtain ⟨x,hx⟩:∃ x:Nat,x=u % 256:=⟨_,rfl⟩
   have hx2:(u:Int) % 256=(x:Int):=zTbe
   have hx256:x < 256:=zTbe
   have hxi:(x:Int) < 256:=zTbe
   have hu0:(0:Int) < (u:Int):=zTbe
   rw [←hx] at HE
   have HX:=Lib.hid hx
   have hq:(u:Int) / 256=((u / 256:Nat):Int):=zTbe
   have hlt:u / 256 < u:=Nat.div_lt_self h0 zTbe
   have cvb:=cv_byte wr x hx256
   have hcat:bs [UInt8.ofNat x]++bs acc=bs ([UInt8.ofNat x]++acc):=bs_append _ _
   have hsum:(bs [UInt8.ofNat x]).size+(bs acc).size≤9223372036854775807:=by rw [bs_size,bs_size];simp;omega
   have HACC:Hid (be256 (u / 256)++([UInt8.ofNat x]++acc)=be256 n):=by
    show _=_
    rw [←List.append_assoc,←HE.out];exact hacc
   clear hx hacc
   generalize hbs:bs ([UInt8.ofNat x]++acc)=S2 at *
   have HBS:=Lib.hid hbs
   clear hbs
   generalize bs acc=S at *
   generalize bs [UInt8.ofNat x]=ch at *
   generalize u / 256=u2 at *
   go_wp2
   go_roundw
   case rel=>exact ⟨u2,[UInt8.ofNat x]++acc,by congr 1,zTbe,by rw [HBS.out],HACC.out,HB.out.alloc HB.out.size _⟩
   case measure=>(simp [intOf])<;>omega
theorem refsize (w:World) (n:Int) (hn:fit64 n) :
 Calls Tryz.prog 77 #[.int .i64 n] w fun e w'=>e=.returned (.string (bs (sizeB n)))∧Below w.heap.size w w':=by
 unfold fit64 at hn
 by_cases h:n < 0
 ·have h0:sizeB n=numB 0:=by unfold sizeB;congr 1;omega
  rw [h0]
  have HN:=Lib.hid (refnum w 0 zcX3)
  generalize bs (numB 0)=S at *
  have HN2:Hid (Calls Tryz.prog 109 #[.int .u64 0] w fun e w'=>e=.returned (.string S)∧Below w.heap.size w w'):=HN
  go_enter Tryz.func77,Tryz.ntmps77
  go_wp2_with (go_at_call 109;refine HN2.out.mono ?_;rintro e w2 ⟨rfl,hb⟩)
  go_ret
  exact ⟨rfl,hb⟩
 ·obtain ⟨m,rfl⟩:∃ m:Nat,n=m:=⟨n.toNat,zTbe⟩
  have h0:sizeB (m:Int)=numB m:=by unfold sizeB;congr 1;omega
  rw [h0]
  have HN:=Lib.hid (refnum w m zTbe)
  generalize bs (numB m)=S at *
  go_enter Tryz.func77,Tryz.ntmps77
  go_wp2_with (go_at_call 109;refine HN.out.mono ?_;rintro e w2 ⟨rfl,hb⟩)
  go_ret
  exact ⟨rfl,hb⟩
theorem refsign (w:World) (n:Int) (hn:fit64 n) :
 Calls Tryz.prog 143 #[.int .i64 n] w fun e w'=>e=.returned (.string (bs (signB n)))∧Below w.heap.size w w':=by
 unfold fit64 at hn
 unfold signB
 by_cases h:n < 0
 ·obtain ⟨u,hu⟩:∃ u:Nat,u=zig n:=⟨_,rfl⟩
  have hu2:(u:Int)=-2*n - 1:=by rw [hu];unfold zig;rw [if_pos h];omega
  rw [←hu]
  have HN:=Lib.hid (refnum w u zTbe)
  clear hu
  generalize bs (numB u)=S at *
  obtain ⟨m,hm⟩:∃ m:Nat,n=-(m:Int) - 1:=⟨(-n - 1).toNat,zTbe⟩
  subst hm
  have hu3:u=2*m+1:=zTbe
  subst hu3
  have HN2:Hid (Calls Tryz.prog 109 #[.int .u64 (2*(m:Int)+1)] w fun e w'=>e=.returned (.string S)∧Below w.heap.size w w'):=by
   have:=HN.out
   rw [Int.natCast_add,Int.natCast_mul] at this
   exact this
  have e1:-(-(m:Int) - 1+1)=m:=zTbe
  clear hu2 HN
  exact zQGT
 ·obtain ⟨m,rfl⟩:∃ m:Nat,n=m:=⟨n.toNat,zTbe⟩
  have hz:zig (m:Int)=2*m:=by unfold zig;rw [if_neg h];omega
  rw [hz]
  have HN:=Lib.hid (refnum w (2*m) zTbe)
  generalize bs (numB (2*m))=S at *
  have HN2:Hid (Calls Tryz.prog 109 #[.int .u64 (2*(m:Int))] w fun e w'=>e=.returned (.string S)∧Below w.heap.size w w'):=by
   have:=HN.out
   rw [Int.natCast_mul] at this
   exact this
  clear HN
  exact zQGT
theorem reftext (w:World) (s:ByteArray) (hs:s.size≤1000000) :
 Calls Tryz.prog 144 #[.string s] w fun e w'=>e=.returned (.string (bs (textB s)))∧Below w.heap.size w w':=by
 have HN:=Lib.hid (refsize w s.size (by unfold fit64;omega))
 have h0:sizeB (s.size:Int)=numB s.size:=by unfold sizeB;congr 1;omega
 rw [h0] at HN
 have hcat:bs (numB s.size)++s=bs (textB s):=by
  have:=bs_append (numB s.size) s.data.toList
  rw [bs_of] at this
  rw [this];rfl
 have hl:=be_len8 s.size zTbe
 have hsum:(bs (numB s.size)).size+s.size≤9223372036854775807:=by rw [bs_size];omega
 clear h0 hl
 generalize bs (textB s)=R at *
 generalize bs (numB s.size)=S at *
 go_enter Tryz.func144,Tryz.ntmps144
 go_wp2_with (go_at_call 77;refine HN.out.mono ?_;rintro e w2 ⟨rfl,hb⟩)
 go_ret
 exact ⟨rfl,hb⟩
theorem refval (w:World) (v:AV) (hn:fit64 v.n) :
 Calls Tryz.prog 110 #[v.agg] w fun e w'=>e=.returned (.string (bs (valB v)))∧Below w.heap.size w w':=by
 have HR:=Lib.hid (fun w=>refright w v)
 have hcat1:∀ l:List UInt8,(⟨#[1]⟩:ByteArray)++bs l=bs (1::l):=fun l=>bs_append [1] l
 have hcat2:∀ l:List UInt8,(⟨#[2]⟩:ByteArray)++bs l=bs (2::l):=fun l=>bs_append [2] l
 have hsz1:(⟨#[1]⟩:ByteArray).size=1:=rfl
 have hsz2:(⟨#[2]⟩:ByteArray).size=1:=rfl
 have hvl:=valB_len v hn
 have HV:Hid (valB v=if v.right then rightB v else rightB AV.zero):=rfl
 have HRB:Hid (rightB v=UInt8.ofNat v.kind.toNat::(if v.kind=1 then signB v.n else if v.kind=2 then textB v.s else [UInt8.ofNat v.n.toNat])):=rfl
 have hrd:v.right=((v.kind == 1 && v.s.toList.isEmpty) || (v.kind == 2 && v.n == 0 && decide (v.s.size≤200)) || (v.kind == 3 && (v.n == 0 || v.n == 1) && v.s.toList.isEmpty)):=rfl
 generalize valB v=out at *
 generalize rightB v=rb at *
 have HC1:=Lib.hid hcat1
 have HC2:=Lib.hid hcat2
 have hag:v.agg=.agg #[.int .i64 v.kind,.int .i64 v.n,.string v.s]:=rfl
 rw [hag] at HR ⊢
 have HRD:=Lib.hid hrd
 clear hag hcat1 hcat2 hrd
 generalize v.right=r at *
 generalize v.kind=k at *
 generalize v.n=n at *
 generalize v.s=s at *
 cases r
 ·have HO:Hid (out=1::signB 0):=HV.out
  have hc:=HC1.out (signB 0)
  rw [←HO.out] at hc
  have HS:=Lib.hid (fun w=>refsign w 0 ⟨zTbe,zTbe⟩)
  have hsl:(bs (signB 0)).size≤1010:=by rw [bs_size];have:=HO.out;rw [this] at hvl;simp at hvl;omega
  have hsum:(⟨#[1]⟩:ByteArray).size+(bs (signB 0)).size≤9223372036854775807:=by rw [hsz1];omega
  clear HV HRB hvl HO hsz1 hsz2 hsl
  generalize bs (signB 0)=S at *
  generalize bs out=R at *
  go_enter Tryz.func110,Tryz.ntmps110
  go_wp2_with (first
   | (go_at_call 142;refine (HR.out _).mono ?_;rintro e w2 ⟨rfl,hb2⟩;have HB2:=Lib.hid hb2;clear hb2)
   | (go_at_call 143;refine (HS.out _).mono ?_;rintro e w3 ⟨rfl,hb3⟩;have HB3:=Lib.hid hb3;clear hb3))
  go_ret
  have h1:=z8Tj
  have h2:=h1.trans (HB2.out.mono h1.size)
  exact ⟨rfl,h2.trans (HB3.out.mono h2.size)⟩
 ·have hcase:k=1∨(k=2∧n=0∧s.size≤200)∨(k=3∧(n=0∨n=1)):=by
   have:=HRD.out
   simp at this
   omega
  have HO:Hid (out=rb):=HV.out
  clear HRD HV
  rcases hcase with rfl|⟨rfl,rfl,hs⟩|⟨rfl,hn01⟩
  ·have hrb:rb=1::signB n:=HRB.out
   rw [HO.out,hrb] at hvl ⊢
   have hc:=HC1.out (signB n)
   have HS:=Lib.hid (fun w=>refsign w n hn)
   have hsl:(bs (signB n)).size≤1010:=by rw [bs_size];simp at hvl;omega
   have hsum:(⟨#[1]⟩:ByteArray).size+(bs (signB n)).size≤9223372036854775807:=by rw [hsz1];omega
   clear HC1 HC2 HRB HO hrb hsz1 hsz2 hsl hvl
   generalize bs (1::signB n)=R at *
   generalize bs (signB n)=S at *
   have h1:Below w.heap.size w (w.alloc (.cells #[.int .i64 1,.int .i64 n,.string s] 113)):=(Below.refl _ _).alloc (Nat.le_refl _) _
   have HK:Hid (Blk (w.alloc (.cells #[.int .i64 1,.int .i64 n,.string s] 113)) w.heap.size 113 [.int .i64 1,.int .i64 n,.string s]):=Blk.new w _ _
   have H1:=Lib.hid h1
   clear h1
   go_enter Tryz.func110,Tryz.ntmps110
   go_wp2_with fail
   refine (HR.out _).mono ?_
   clear HR
   rintro e w2 ⟨rfl,hb2⟩
   have hk2:=HK.out.below hb2
   have k0:w2.cell? ⟨w.heap.size,0,none⟩=some (.int .i64 1):=hk2.cell 0
   have k1:w2.cell? ⟨w.heap.size,1,none⟩=some (.int .i64 n):=hk2.cell 1
   have k2:=zsWa
   have HB2:=Lib.hid (H1.out.trans (hb2.mono H1.out.size))
   clear hk2 hb2 HK H1
   go_wp2_with (go_at_call 143;refine (HS.out _).mono ?_;rintro e w3 ⟨rfl,hb3⟩)
   go_ret
   exact ⟨rfl,HB2.out.trans (hb3.mono HB2.out.size)⟩
  ·have hrb:rb=2::textB s:=HRB.out
   rw [HO.out,hrb] at hvl ⊢
   have hc:=HC2.out (textB s)
   have HS:=Lib.hid (fun w=>reftext w s zTbe)
   have hsl:(bs (textB s)).size≤1010:=by rw [bs_size];simp at hvl;omega
   have hsum:(⟨#[2]⟩:ByteArray).size+(bs (textB s)).size≤9223372036854775807:=by rw [hsz2];omega
   clear HC1 HC2 HRB HO hrb hsz1 hsz2 hsl hvl hs
   generalize bs (2::textB s)=R at *
   generalize bs (textB s)=S at *
   have h1:Below w.heap.size w (w.alloc (.cells #[.int .i64 2,.int .i64 0,.string s] 113)):=(Below.refl _ _).alloc (Nat.le_refl _) _
   have HK:Hid (Blk (w.alloc (.cells #[.int .i64 2,.int .i64 0,.string s] 113)) w.heap.size 113 [.int .i64 2,.int .i64 0,.string s]):=Blk.new w _ _
   have H1:=Lib.hid h1
   clear h1
   go_enter Tryz.func110,Tryz.ntmps110
   go_wp2_with fail
   refine (HR.out _).mono ?_
   clear HR
   rintro e w2 ⟨rfl,hb2⟩
   have hk2:=HK.out.below hb2
   have k0:w2.cell? ⟨w.heap.size,0,none⟩=some (.int .i64 2):=hk2.cell 0
   have k1:w2.cell? ⟨w.heap.size,1,none⟩=some (.int .i64 0):=hk2.cell 1
   have k2:=zsWa
   have HB2:=Lib.hid (H1.out.trans (hb2.mono H1.out.size))
   clear hk2 hb2 HK H1
   go_wp2_with (go_at_call 144;refine (HS.out _).mono ?_;rintro e w3 ⟨rfl,hb3⟩)
   go_ret
   exact ⟨rfl,HB2.out.trans (hb3.mono HB2.out.size)⟩
  ·rcases hn01 with rfl|rfl
   ·have hrb:rb=[3,0]:=HRB.out
    rw [HO.out,hrb] at hvl ⊢
    have HCV:Hid (∀ w:World,(convert 57 9 (.slice (some ⟨w.heap.size,0,none⟩) 2 2)).run Tryz.prog (w.alloc (.cells #[.int .u8 3,.int .u8 0] 5))=.ok (.string (bs [3,0])) (w.alloc (.cells #[.int .u8 3,.int .u8 0] 5))):=fun w=>cv_block w [3,0]
    clear HC1 HC2 HRB HO hrb hsz1 hsz2 hvl hn
    generalize bs [3,0]=R at *
    have h1:Below w.heap.size w (w.alloc (.cells #[.int .i64 3,.int .i64 0,.string s] 113)):=(Below.refl _ _).alloc (Nat.le_refl _) _
    have HK:Hid (Blk (w.alloc (.cells #[.int .i64 3,.int .i64 0,.string s] 113)) w.heap.size 113 [.int .i64 3,.int .i64 0,.string s]):=Blk.new w _ _
    have H1:=Lib.hid h1
    clear h1
    go_enter Tryz.func110,Tryz.ntmps110
    go_wp2_with fail
    refine (HR.out _).mono ?_
    clear HR
    rintro e w2 ⟨rfl,hb2⟩
    have hk2:=HK.out.below hb2
    have k0:w2.cell? ⟨w.heap.size,0,none⟩=some (.int .i64 3):=hk2.cell 0
    have k1:w2.cell? ⟨w.heap.size,1,none⟩=some (.int .i64 0):=hk2.cell 1
    exact zGvU
   ·have hrb:rb=[3,1]:=HRB.out
    rw [HO.out,hrb] at hvl ⊢
    have HCV:Hid (∀ w:World,(convert 57 9 (.slice (some ⟨w.heap.size,0,none⟩) 2 2)).run Tryz.prog (w.alloc (.cells #[.int .u8 3,.int .u8 1] 5))=.ok (.string (bs [3,1])) (w.alloc (.cells #[.int .u8 3,.int .u8 1] 5))):=fun w=>cv_block w [3,1]
    clear HC1 HC2 HRB HO hrb hsz1 hsz2 hvl hn
    generalize bs [3,1]=R at *
    have h1:Below w.heap.size w (w.alloc (.cells #[.int .i64 3,.int .i64 1,.string s] 113)):=(Below.refl _ _).alloc (Nat.le_refl _) _
    have HK:Hid (Blk (w.alloc (.cells #[.int .i64 3,.int .i64 1,.string s] 113)) w.heap.size 113 [.int .i64 3,.int .i64 1,.string s]):=Blk.new w _ _
    have H1:=Lib.hid h1
    clear h1
    go_enter Tryz.func110,Tryz.ntmps110
    go_wp2_with fail
    refine (HR.out _).mono ?_
    clear HR
    rintro e w2 ⟨rfl,hb2⟩
    have hk2:=HK.out.below hb2
    have k0:w2.cell? ⟨w.heap.size,0,none⟩=some (.int .i64 3):=hk2.cell 0
    have k1:w2.cell? ⟨w.heap.size,1,none⟩=some (.int .i64 1):=hk2.cell 1
    exact zGvU
theorem refrow (w:World) (B:Nat→Prop) (v:Value) (l:List AV) (hl:Sl w B 3 v l.length (rowCells l)) (hf:∀ a∈l,fit64 a.n) (hll:l.length≤10000) :
 Calls Tryz.prog 78 #[v] w fun e w'=>e=.returned (.string (bs (rowB l)))∧Below w.heap.size w w':=by
 obtain ⟨p,cap,rfl,hc1,hc2⟩:=hl.form
 have HL:=Lib.hid hl
 have HF:=Lib.hid hf
 have HS:=Lib.hid (refsize w l.length (by unfold fit64;omega))
 have hsz:=be_len8 (max (l.length:Int) 0).toNat zTbe
 have HSZ:Hid ((sizeB l.length).length≤9):=hsz
 clear hl hf hsz
 go_enter Tryz.func78,Tryz.ntmps78
 go_wp2_with (go_at_call 77;refine HS.out.mono ?_;clear HS;rintro e w2 ⟨rfl,hb2⟩)
 go_loopw [3,4] (fun s i wr=>∃ k:Nat,i=.int .i64 k∧k≤l.length∧s=.string (bs (sizeB l.length++laid valB (l.take k)))∧Below w.heap.size w wr) (fun _ i _=>l.length - (intOf i).toNat)
 case atStart=>exact ⟨0,rfl,Nat.zero_le _,by simp [laid],hb2⟩
 case round =>
  obtain ⟨k,rfl,hk,rfl,hb⟩:=hrel
  have HB:=Lib.hid hb
  have hll2:=laid_len valB 1010 (l.take k) (fun a ha=>valB_len a (HF.out a (List.mem_of_mem_take ha)))
  have hlk:(l.take k).length≤10000:=z2Pg
  by_cases hka:k < l.length
  ·obtain ⟨g,off,cap',hv,hg,e0,e1,e2⟩:=sl_av (HL.out.below hb) hka
   cases hv
   have HN:=Lib.hid (laid_next valB l k hka)
   have hx:=HF.out l[k] (List.getElem_mem hka)
   have hvl:=valB_len _ hx
   generalize l[k]=x at *
   have hcat:bs (sizeB l.length++laid valB (l.take k))++bs (valB x)=bs (sizeB l.length++laid valB (l.take (k+1))):=by rw [bs_append,HN.out,List.append_assoc]
   have hsum:(bs (sizeB l.length++laid valB (l.take k))).size+(bs (valB x)).size≤9223372036854775807:=by
    have:=HSZ.out
    rw [bs_size,bs_size,List.length_append];omega
   have HV:=Lib.hid (refval wr x hx)
   have hag:=z3Mw
   rw [hag] at HV
   clear hag hb hx hvl hll2 hlk
   generalize bs (sizeB l.length++laid valB (l.take k))=S at *
   generalize hR:bs (sizeB l.length++laid valB (l.take (k+1)))=R at *
   have HR:=Lib.hid hR
   clear hR
   generalize bs (valB x)=T at *
   go_wp2_with (go_at_call 110;refine HV.out.mono ?_;clear HV;rintro e w3 ⟨rfl,hb3⟩)
   exact z9Ti
  ·obtain rfl:k=l.length:=by omega
   rw [List.take_length]
   have HE:Hid (rowB l=sizeB l.length++laid valB l):=rfl
   generalize sizeB l.length++laid valB l=S at *
   clear hb hll2 hlk
   go_wp2
   go_ret
   exact ⟨zKZO,HB.out⟩
def rowsB2 (rows:List (List AV)):List UInt8:=sizeB rows.length++laid rowB rows
theorem rowsB_2 (rows:List RowV):rowsB rows=rowsB2 (rows.map RowV.l):=by
 unfold rowsB rowsB2 laid
 rw [List.length_map,List.map_map]
 rfl
theorem refrows (w:World) (B:Nat→Prop) (v:Value) (rows:List RowV) (hl:RowsAt w B v rows) (hf:∀ r∈rows,(∀ a∈r.l,fit64 a.n)∧r.l.length≤100) (hll:rows.length≤1000) :
 Calls Tryz.prog 48 #[v] w fun e w'=>e=.returned (.string (bs (rowsB rows)))∧Below w.heap.size w w':=by
 obtain ⟨p,cap,rfl,hc1,hc2⟩:=hl.1.form
 have HL:=Lib.hid hl
 have HF:=Lib.hid hf
 have HS:=Lib.hid (refsize w rows.length (by unfold fit64;omega))
 have hsz:=be_len8 (max (rows.length:Int) 0).toNat zTbe
 have HSZ:Hid ((sizeB rows.length).length≤9):=hsz
 clear hl hf hsz
 go_enter Tryz.func48,Tryz.ntmps48
 go_wp2_with (go_at_call 77;refine HS.out.mono ?_;clear HS;rintro e w2 ⟨rfl,hb2⟩)
 go_loopw [3,4] (fun s i wr=>∃ k:Nat,i=.int .i64 k∧k≤rows.length∧s=.string (bs (sizeB rows.length++laid (fun r:RowV=>rowB r.l) (rows.take k)))∧Below w.heap.size w wr) (fun _ i _=>rows.length - (intOf i).toNat)
 case atStart=>exact ⟨0,rfl,Nat.zero_le _,by simp [laid],hb2⟩
 case round =>
  obtain ⟨k,rfl,hk,rfl,hb⟩:=hrel
  have HB:=Lib.hid hb
  have hll2:=laid_len (fun r:RowV=>rowB r.l) 101009 (rows.take k) (fun r hr=>by
   have h1:=HF.out r (List.mem_of_mem_take hr)
   exact rowB_len r.l h1.1 h1.2)
  have hlk:(rows.take k).length≤1000:=z2Pg
  by_cases hka:k < rows.length
  ·obtain ⟨g,off,cap',hv,hck⟩:=(HL.out.below hb).at hka
   cases hv
   have hrow:=(HL.out.below hb).2 rows[k] (List.getElem_mem hka)
   have HN:=Lib.hid (laid_next (fun r:RowV=>rowB r.l) rows k hka)
   have hx:=HF.out rows[k] (List.getElem_mem hka)
   have hvl:=rowB_len _ hx.1 hx.2
   generalize rows[k]=x at *
   have hcat:bs (sizeB rows.length++laid (fun r:RowV=>rowB r.l) (rows.take k))++bs (rowB x.l)=bs (sizeB rows.length++laid (fun r:RowV=>rowB r.l) (rows.take (k+1))):=by rw [bs_append,HN.out,List.append_assoc]
   have hsum:(bs (sizeB rows.length++laid (fun r:RowV=>rowB r.l) (rows.take k))).size+(bs (rowB x.l)).size≤9223372036854775807:=by
    have:=HSZ.out
    rw [bs_size,bs_size,List.length_append];omega
   have HV:=Lib.hid (refrow wr _ _ x.l hrow hx.1 zTbe)
   clear hb hx hvl hll2 hlk hrow
   generalize bs (sizeB rows.length++laid (fun r:RowV=>rowB r.l) (rows.take k))=S at *
   generalize hR:bs (sizeB rows.length++laid (fun r:RowV=>rowB r.l) (rows.take (k+1)))=R at *
   have HR:=Lib.hid hR
   clear hR
   generalize bs (rowB x.l)=T at *
   go_wp2_with (go_at_call 78;refine HV.out.mono ?_;clear HV;rintro e w3 ⟨rfl,hb3⟩)
   exact z9Ti
  ·obtain rfl:k=rows.length:=by omega
   rw [List.take_length]
   have HE:Hid (rowsB rows=sizeB rows.length++laid (fun r:RowV=>rowB r.l) rows):=rfl
   generalize sizeB rows.length++laid (fun r:RowV=>rowB r.l) rows=S at *
   clear hb hll2 hlk
   go_wp2
   go_ret
   exact ⟨zKZO,HB.out⟩
end Go.Proofs.YteggkjdlajgenaaGreatDoor
