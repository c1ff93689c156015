/- Contracts of the functions that the statement reaches, one behind the other. No condition beyond each theorem's own. -/
import Derived.Test.YteggkjdlajgenaaGreatDoorTS2
set_option linter.unusedSimpArgs false
set_option linter.unusedVariables false
set_option maxRecDepth 100000
set_option maxHeartbeats 4000000
theorem zlj9 {P:Prop} (h:P:=by simp at hk ⊢;omega):P:=h
theorem z3Uo {P:Prop} (h:P:=by
 have zz:∃ ea x eb,es=ea++x::eb∧ea.length=l.length:=⟨es.take l.length,es[l.length],es.drop (l.length+1),z9FV,z2Pg⟩
 exact zz):P:=h
theorem z9FV {P:Prop} (h:P:=by rw [←List.drop_eq_getElem_cons hll,List.take_append_drop]):P:=h
theorem zaRk {P:Prop} (h:P:=by
 have zz:((l++.node ab aav aes abv aks::.node cb cav ces cbv cks::r).map P.t).length≤(ea++x::eb).length+1:=zmA9
 exact zz):P:=h
theorem zv3W {P:Prop} (h:P:=by
 have zz:(P.node ab aav aes abv aks).t.flat.length≤99999:=Nat.le_trans (kid_flat_len hkm (List.mem_map_of_mem zPXO)) hfl
 exact zz):P:=h
theorem zJAL {P:Prop} (h:P:=by
 have zz:(P.node cb cav ces cbv cks).t.flat.length≤99999:=Nat.le_trans (kid_flat_len hkm (List.mem_map_of_mem zPXO)) hfl
 exact zz):P:=h
theorem zEDK {P:Prop} (h:P:=by
 have zz:(ea++x::eb).length≤99999:=Nat.le_trans (es_flat_len (.node (ea++x::eb) _)) hfl
 exact zz):P:=h
theorem zcNR {P:Prop} (h:P:=by
 have zz:aes.length≤99999:=Nat.le_trans (es_flat_len (P.node ab aav aes abv aks).t) hfa
 exact zz):P:=h
theorem zZUl {P:Prop} (h:P:=by
 have zz:ces.length≤99999:=Nat.le_trans (es_flat_len (P.node cb cav ces cbv cks).t) hfc
 exact zz):P:=h
theorem zV0K {P:Prop} (h:P:=by
 obtain ⟨h1,h2,_⟩:=ha.kids
 rcases Nat.eq_zero_or_pos d with h|h
 ·have:=h1 h;have h3:aks.length=(aks.map P.t).length:=by rw [List.length_map]
  rw [h3,this];simp
 ·have:=(h2 h).1;rw [List.length_map] at this;omega
 ):P:=h
theorem zUee {P:Prop} (h:P:=by
 obtain ⟨h1,h2,_⟩:=hc.kids
 rcases Nat.eq_zero_or_pos d with h|h
 ·have:=h1 h;have h3:cks.length=(cks.map P.t).length:=by rw [List.length_map]
  rw [h3,this];simp
 ·have:=(h2 h).1;rw [List.length_map] at this;omega
 ):P:=h
theorem zfkE {P:Prop} (h:P:=by
 rw [←List.map_append] at hq
 obtain ⟨p,hp,rfl⟩:=List.mem_map.1 hq
 exact hF p hp
 ):P:=h
theorem z9DK {P:Prop} (h:P:=by
 have zz:(l.map P.t++T.node aes (aks.map P.t)::T.node ces (cks.map P.t)::r.map P.t).length=(ea++x::eb).length+1:=zlj9
 exact zz):P:=h
theorem zshi {P:Prop} (h:P:=by
 have zz:(l++P.node ab aav aes abv aks::.node cb cav ces cbv cks::r).map P.t=l.map P.t++T.node aes (aks.map P.t)::T.node ces (cks.map P.t)::r.map P.t:=zhU6
 exact zz):P:=h
theorem zp5D {P:Prop} (h:P:=by
 obtain ⟨q1,q2⟩:=two_good (l:=l.map P.t) (r:=r.map P.t) (by rw [List.length_map];exact hel) hk2 g1 g2 hF2 g3
 exact ⟨rfl,p',hb,by rw [ht];exact q1,by rw [ht,hmap];exact q2,hT⟩
 ):P:=h
theorem z6vj {P:Prop} (h:P:=by
 have zz:es.length≤99999:=Nat.le_trans (es_flat_len (.node es _)) hfl
 exact zz):P:=h
theorem zKGu {P:Prop} (h:P:=by
 rw [P.es_t] at h1
 exact Nat.le_trans h1 (Nat.le_trans (kid_flat_len zmA9 (List.mem_map_of_mem zPXO)) hfl)
 ):P:=h
theorem zCP9 {P:Prop} (h:P:=by
 have h1:=es_flat_len q.t
 rw [P.es_t] at h1
 exact Nat.le_trans h1 (Nat.le_trans (kid_flat_len zmA9 (List.mem_map_of_mem zPXO)) hfl)
 ):P:=h
theorem zSx3 {P:Prop} (h:P:=by
 unfold ptrV at HC
 go_enter q3b,q3c
 go_wp2_with fail
 refine HC.out.mono ?_
 rintro e w' ⟨rfl,p',hb,hf,hfl2,hT⟩
 go_wp2
 go_end0
 exact ⟨rfl,p',hb,hf,hfl2,hT⟩
 ):P:=h
theorem z0xf {P:Prop} (h:P:=by simp at hx ⊢;rcases hx with h|h;exact .inl h;exact .inr (.inr h)):P:=h
theorem zKTB {P:Prop} (h:P:=by
 go_enter q3b,q3c
 go_wp2_with fail
 refine HJ.out.mono ?_
 rintro e w' ⟨rfl,p',hb,hf,hfl2,hT⟩
 go_wp2
 go_end0
 exact ⟨rfl,p',hb,hf,by rw [eKS];exact hfl2,by rw [eKS];exact hT⟩
 ):P:=h
theorem z2gj {P:Prop} (h:P:=by
 have zz:(kl++[kc]).map P.t=kl.map P.t++kc.t::[]:=zPXO
 exact zz):P:=h
theorem z4eG {P:Prop} (h:P:=by
 have h1:∀ e∈es,e.val.oneCell'=true:=fun e he=>by
  obtain ⟨i,hi,rfl⟩:=List.mem_iff_getElem.1 he
  exact ho.2.1 _ (List.mem_of_getElem? (enC_at es i hi).2)
 have h2:=y1e (ks:=ks) (h.right (a:=[_,_,_]))
 rcases mem_flatL he with h3|⟨t,ht,h3⟩
 ·exact h1 e h3
 ·obtain ⟨q,hq,rfl⟩:=List.mem_map.1 ht
  exact h2 q hq e h3
 ):P:=h
theorem zcWO {P:Prop} (h:P:=by
 rw [y0p,P.resL_cons] at h
 rcases List.mem_cons.1 hq with h1|hq
 ·rw [h1] at he
  exact y1d (p:=k) h.left e he
 ·exact y1e (ks:=ks) h.right q hq e he
 ):P:=h
theorem zbCR {P:Prop} (h:P:=by simp only [List.cons_append,List.mem_cons,true_or,or_true]):P:=h
theorem z2oI {P:Prop} (h:P:=by simp only [List.cons_append,List.nil_append,List.mem_cons,true_or,or_true]):P:=h
theorem zofW {P:Prop} (h:P:=by
 have h1:ae.length < (ae++[x]).length:=zPXO
 have h2:=(enC_at (ae++[x]) ae.length h1).2
 have h3:(ae++[x])[ae.length]'h1=x:=zPXO
 rw [h3] at h2
 exact oa1.2.1 _ (List.mem_of_getElem? h2)
 ):P:=h
theorem zjNL {P:Prop} (h:P:=by
 have h1:=y0v w2 b ae.length av bv (ae++[x]) hs zPXO zr2F
 have h2:(ae++[x])[ae.length]'(zPXO)=x:=zPXO
 have h3:(ae++[x]).take ae.length++(ae++[x]).drop (ae.length+1)=ae:=zPXO
 rw [h2,h3] at h1
 exact h1
 ):P:=h
theorem zQ3r {P:Prop} (h:P:=by
 have h1:=flat_at es [] (kl.map P.t) (P.node kc.blk cav ces cbv cks).t [] hkel
 rw [List.append_nil,tl_nil,List.append_nil,hpfl] at h1
 rw [List.map_append]
 exact h1
 ):P:=h
theorem zfxX {P:Prop} (h:P:=by simp only [cnt_append,cnt_cons,cnt_nil,y0o,y0p,y0q,y0r,y0s,P.resL_append,P.resL_cons,P.res_node,hptr,hlen]<;>omega):P:=h
theorem z0be {P:Prop} (h:P:=by
 intro m w p hm hf hr hn hs
 obtain ⟨b,av,es,bv,ks,rfl⟩:=P.eta p
 rw [P.t_node] at hf hr hn ⊢
 have hk0:ks=[]:=zJtu
 subst hk0
 simp only [List.map_nil] at *
 rw [flat_leaf] at *
 have hn2:es.length≤99999:=hn
 obtain ⟨a,b',hlf⟩:=leaf_page (k:=k) (es:=es) zkTB
 have hlk:=hlf.look
 have hdl:=hlf.del
 cases hh:has k es
 ·refine (y1j w b av bv es k hs hr hn2 hh).mono ?_
  rintro e w' ⟨rfl,hT⟩
  rw [hlk.2 hh]
  refine ⟨rfl,.node b av es bv [],rfl,?_,?_,hT⟩
  ·rw [P.t_node];exact hf.weaken zTbe
  ·rw [P.t_node,hdl.2 hh];exact flat_leaf _
 ·refine (y1k w b av bv es k hs hr hn2 hh).mono ?_
  rintro e w' ⟨x,hx,rfl,av',hT⟩
  obtain ⟨x2,hx2,_,hl2⟩:=hlk.1 hh
  rw [hx] at hx2
  cases hx2
  rw [hl2]
  refine ⟨rfl,.node b av' (es.take (pos k es)++es.drop (pos k es+1)) bv [],rfl,?_,?_,hT⟩
  ·rw [P.t_node]
   refine ⟨?_,rfl⟩
   have h1:=hf.1
   obtain ⟨h2,_⟩:=List.getElem?_eq_some_iff.1 hx
   simp
   omega
  ·obtain ⟨v,b2,hb2,hd2⟩:=hdl.1 hh
   have he:es=a++⟨k,v⟩::b2:=by rw [hlf.es_,hb2]
   have e1:=zO6P
   rw [P.t_node]
   show (T.node _ []).flat=_
   rw [e1,hd2,←hlf.al]
   conv=>lhs;rw [he]
   simp
 ):P:=h
theorem zO6P {P:Prop} (h:P:=by
 have zz:(T.node (es.take (pos k es)++es.drop (pos k es+1)) []).flat=es.take (pos k es)++es.drop (pos k es+1):=flat_leaf _
 exact zz):P:=h
theorem zPjL {P:Prop} (h:P:=by
 have h1:=hsp.ts_
 rw [List.map_append,List.map_cons] at h1
 have h2:=List.append_inj h1 (by rw [List.length_map,hkll];exact hsp.ll.symm)
 have h3:=List.cons_eq_cons.1 h2.2
 exact ⟨h2.1,h3.2⟩
 ):P:=h
theorem zBnQ {P:Prop} (h:P:=by
 rcases hsp.hit with ⟨_,_,v',b',c',r',hb,hrr,_,_⟩|⟨h2,_⟩
 ·subst hb
  rw [tl] at hd3
  have hv:v'=v:=by
   have:=(List.cons_eq_cons.1 hd3).1
   exact (En.mk.inj this).2
  have hrest:=(List.cons_eq_cons.1 hd3).2
  subst hv
  have hcne:c.flat≠[]:=fun e=>by
   have h3:=es_flat_len c
   have h4:=hfc.len
   rw [e,List.length_nil] at h3
   omega
  have hci:c.flat=c.flat.dropLast++[c.flat.getLast hcne]:=(List.dropLast_concat_getLast hcne).symm
  have hci2:kc.t.flat=c.flat.dropLast++[c.flat.getLast hcne]:=by rw [hcm];exact hci
  have htx:=z0yC
  have hdd:del k (T.node es ((kl++kc::kr).map P.t)).flat=wl a (kl.map P.t)++(c.flat.dropLast++tl (c.flat.getLast hcne::b') (kr.map P.t)):=by
   rw [hd2,hl1,htx]
   have h5:c.flat++rest=c.flat.dropLast++c.flat.getLast hcne::rest:=by
    conv=>lhs;rw [hci]
    simp
   rw [h5]
  have hxo:(c.flat.getLast hcne).val.oneCell'=true:=y1d hs _ (by rw [P.t_node,hfl];simp)
  have hdlen:=del_length k (T.node es ((kl++kc::kr).map P.t)).flat
  rw [hdd] at hdlen
  obtain ⟨x2,hx2,hx3,hl2⟩:=hlk.1 hh
  rw [hl2,hdd]
  have hx4:x2.val=v':=by
   have h6:es[pos k es]?=some ⟨k,v'⟩:=by rw [←hsp.al,hes];simp
   rw [hx2] at h6
   rw [Option.some.inj h6]
  subst hes
  refine (y1m d w b av bv a b' kl kc kr k v' (c.flat.getLast hcne) c.flat.dropLast hs hres hkl hFF hel hh hkll hal hxo zTbe (fun w2 hs2=>?_)).mono ?_
  ·exact y1h d 2 w2 kc (c.flat.getLast hcne) c.flat.dropLast zTbe (hcm▸hfc) hci2 (hcm▸hn2) hs2
  ·rintro e w' ⟨rfl,p',hb',hf',ht',hT⟩
   exact ⟨by rw [hx4];rfl,p',hb',hf'.weaken zTbe,ht',hT⟩
 ·rw [hh] at h2;cases h2
 ):P:=h
theorem z0yC {P:Prop} (h:P:=by
 have zz:tl (c.flat.getLast hcne::b') (kr.map P.t)=c.flat.getLast hcne::rest:=by rw [tl,hr1,hrest]
 exact zz):P:=h
theorem zh60 {P:Prop} (h:P:=by
 rw [hn]
 cases hq:p.t.flat with
 | nil=>rw [hq] at h;simp [Afx.look] at h
 | cons a t=>simp
 ):P:=h
theorem zwy1 {P:Prop} (h:P:=by
 have zz:Trk w F w2 (y12 tb p n::y0q p.blk cav cbv::y0r cav ces::y0s cbv cks::y0p cks):=T2.perm (perm_of_cnt fun a=>zNod)
 exact zz):P:=h
theorem z2NX {P:Prop} (h:P:=by
 rcases Nat.eq_zero_or_pos d with h|h
 ·have:=kd0 h;have h3:cks.length=(cks.map P.t).length:=by rw [List.length_map]
  rw [h3,this];simp
 ·have:=(kd1 h).1;rw [List.length_map] at this;omega
 ):P:=h
theorem zWKw {P:Prop} (h:P:=by
 have zz:((ces.length:Int) == 0)=true:=by rw [hc0];rfl
 exact zz):P:=h
theorem z94R {P:Prop} (h:P:=by
 rw [←HN.out]
 exact HTX.out.perm (perm_of_cnt fun a=>zNod)
 ):P:=h
theorem zXmU {P:Prop} (h:P:=by
 rcases Nat.eq_zero_or_pos d with h|h
 ·have:=kd0 h;simp at this
 ·exact h
 ):P:=h
theorem zlJK {P:Prop} (h:P:=by
 have h1:=(kd1 hd).1
 rw [hces] at h1
 simp at h1
 exact h1
 ):P:=h
theorem z0Ni {P:Prop} (h:P:=by
 have zz:wX.cell? ⟨gk,offk,none⟩=some (.pointer (some ⟨k1.blk,0,none⟩)):=p0
 exact zz):P:=h
theorem zkxu {P:Prop} (h:P:=by
 rw [HCES.out,flat_node,List.map_cons,List.map_nil,flatL_end,flatL_nil,List.append_nil] at h1
 rw [h1];exact HRD.out
 ):P:=h
theorem zcet {P:Prop} (h:P:=by
 rw [HCES.out,flat_node,List.map_cons,List.map_nil,flatL_end,flatL_nil,List.append_nil] at h1
 exact h1
 ):P:=h
theorem zmp4 {P:Prop} (h:P:=by
 rw [←HN.out]
 have T9:=zb6E
 exact T9.right
 ):P:=h
theorem zb6E {P:Prop} (h:P:=by
 have zz:Trk w F _ ([y0q p.blk cav cbv,y0r cav ces,y0s cbv [k1]]++y13 tb k1 n'):=T9.perm (perm_of_cnt fun a=>z3iC)
 exact zz):P:=h
theorem z3iC {P:Prop} (h:P:=by simp only [cnt_append,cnt_cons,cnt_nil,y13,y12,ptrV,P.blk_node,y0o,y0p,y0q,y0r,y0s,P.resL_append,P.resL_cons,P.resL_nil,P.res_node,List.set_cons_zero]<;>omega):P:=h
theorem z8CV {P:Prop} (h:P:=by
 exact HPF.out.of_len (show min 1 d≤ces.length by omega)
 ):P:=h
theorem zfax {P:Prop} (h:P:=by
 have zz:Hid (y1p w lk k (.pointer (some ⟨p.blk,0,none⟩)) w d):=⟨p,rfl,hs.right (a:=[y12 tb p n]),⟨_,hg.fat⟩,hg.rise,zTbe,hlk0.symm,Below.refl _ _⟩
 exact zz):P:=h
theorem zajd {P:Prop} (h:P:=by
 rw [HLK.out]
 simp only [List.map_nil]
 rw [flat_leaf]
 obtain ⟨a,b',hlf⟩:=leaf_page (k:=k) (es:=es) hr
 exact hlf.look.2 hh
 ):P:=h
theorem zkpe {P:Prop} (h:P:=by
 have hkl:ks.length=es.length+1:=by simpa using hf.2.1
 have hpl:pos k es < ks.length:=zIJi
 have hcm:(ks[pos k es]).t=c:=by
  rw [List.getElem?_map,List.getElem?_eq_getElem hpl] at hgc
  simpa using hgc
 have hkm:ks[pos k es]∈ks:=List.getElem_mem hpl
 have hnew:∀ w2,Below wr.heap.size wr w2→y1p w lk k (ptrV (ks[pos k es]).blk) w2 dd:=fun w2 hb2 =>
  ⟨ks[pos k es],rfl,(sep_kid (HSQ.out.right (a:=[_,_,_])) hkm).below hb2,⟨2,hf.2.2 _ (List.mem_map_of_mem hkm)⟩,by
   rw [hcm]
   rw [hsp.fl] at hr
   exact hr.right.left,by
   rw [hcm]
   rw [hsp.fl] at hln
   simp at hln;omega,by rw [HLK.out,hcm];exact hsp.look.2 hh,HB.out.trans (hb2.mono HB.out.size)⟩
 obtain ⟨gk,offk,capk,hbv,hgk,p0⟩:=sl_ptr (ok.sl (B:=fun _=>True) (fun _ _=>trivial)) hpl
 have HLF:=Lib.hid (fun w2 (hb:Below wr.heap.size wr w2)=>by
  have h:=y0l w2 b _ av (some ⟨gk,offk,none⟩) ks.length capk (hbv▸HKB.out.below hb)
  rw [decide_eq_false zTbe] at h
  exact h)
 have HNEW:=Lib.hid hnew
 have HBV:=Lib.hid hbv
 unfold ptrV at HLF p0
 generalize ks[pos k es]=kc at *
 generalize pos k es=i at *
 obtain ⟨nk,hnk⟩:∃ nk,ks.length=nk:=⟨_,rfl⟩
 rw [hnk] at hpl HBV
 have HNK:=Lib.hid hnk
 clear kb0 oa ok hfd hb hsq hlk hh hbv hr hf hrel hgc hkl hcm hkm hnew hsp hnk hln
 go_wp2_with fail
 refine HFD.out.mono ?_
 rintro e w2 ⟨rfl,hb2⟩
 have HB2:=Lib.hid hb2
 have p1:=(hb2.cell (p:=⟨gk,offk+i,none⟩) hgk).trans p0
 obtain ⟨y0,y1⟩:=pg_cells (HKB.out.below hb2)
 rw [HBV.out] at y1
 clear hb2 p0
 go_wp2_with fail
 refine (HLF.out w2 HB2.out).mono ?_
 rintro e wq ⟨rfl,hq⟩
 subst hq
 go_wp2_with fail
 go_roundw
 case rel=>exact ⟨dd,HNEW.out _ HB2.out⟩
 case measure =>
  have h1:=gm_le (HNEW.out _ HB2.out)
  have h2:=HGM.out
  unfold ptrV at h1 h2
  show gm (y1p w lk k (.pointer (some ⟨kc.blk,0,none⟩)) _) < gm (y1p w lk k (.pointer (some ⟨b,0,none⟩)) wr)
  rw [h2]
  exact Nat.lt_succ_of_le h1
 ):P:=h
theorem zADN {P:Prop} (h:P:=by
 rcases dd with _|dd
 ·have hk0:ks=[]:=by simpa using hf.2
  subst hk0
  rw [hlk]
  simp only [List.map_nil]
  rw [flat_leaf]
  obtain ⟨a,b',hlf⟩:=leaf_page (k:=k) (es:=es) hr
  obtain ⟨e,h1,_,h3⟩:=hlf.look.1 hh
  exact ⟨e,h1,h3⟩
 ·obtain ⟨a,bb,l,c,r,hsp,hgc⟩:=split_page (k:=k) hr hf.2.1
  obtain ⟨e,h1,_,h3⟩:=hsp.look.1 hh
  exact ⟨e,h1,by rw [hlk];exact h3⟩
 ):P:=h
namespace Go.Proofs.YteggkjdlajgenaaGreatDoor
open Go.RowKit Go.Afx
theorem z1Ef {P:Prop} (h:P:=by
 have T0:=Trk.start hs
 generalize hF:feet (y0o (.node b av (ea++x::eb) bv (l++.node ab aav aes abv aks::.node cb cav ces cbv cks::r)))=F at *
 have T0:=zHiX
 have kb0:=zDoW
 have ka0:Blk w ab (value_of% n2t) [aav,abv]:=T0.blk zInm
 have kc0:=zJFC
 have oe:=zqgq
 have ok:=zjHr
 have oaa:=zTdj
 have oca:=zPoB
 have oak:=zt6r
 have ock:=zX0n
 obtain ⟨gk,offk,capk,hbv,hgk,q0⟩:=sl_ptr (k:=l.length) (ok.sl (B:=fun _=>True) (fun _ _=>trivial)) zPXO
 obtain ⟨gk',offk',capk',hbv',hgk',q1⟩:=sl_ptr (k:=l.length+1) (ok.sl (B:=fun _=>True) (fun _ _=>trivial)) zPXO
 rw [hbv] at hbv'
 cases hbv'
 have e0:=zNYv
 have e1:(l++.node ab aav aes abv aks::.node cb cav ces cbv cks::r)[l.length+1]'(zPXO)=.node cb cav ces cbv cks:=by
  exact zVg4
 rw [e0] at q0
 rw [e1] at q1
 replace q0:=zGTR
 replace q1:=zEsJ
 obtain ⟨nk,hnk⟩:=zGvV
 obtain ⟨ne,hne⟩:∃ ne,(ea++x::eb).length=ne:=⟨_,rfl⟩
 have hnk2:nk=l.length+(r.length+2):=zunR
 have hne2:=z1eC
 rw [hnk] at hbv hkn
 rw [hne] at hn
 have hlk1:l.length < nk:=zTbe
 have hlk2:l.length+1 < nk:=zTbe
 have hlk2i:(l.length:Int)+1 < (nk:Int):=zTbe
 have hlk0:(0:Int)≤(l.length:Int)+1:=zTbe
 have htn:((l.length:Int)+1).toNat=l.length+1:=zTbe
 have hle1:l.length < ne:=zTbe
 have hex:=zuUP
 have hxo:x.val.oneCell'=true:=by
  exact zw3Q
 have HEX:Hid (∀ w2,Own w2 (value_of% n1x) 2 av (ea++x::eb).length (enC (ea++x::eb))→∃ g off cap,av=.slice (some ⟨g,off,none⟩) ne cap∧g < w2.heap.size∧w2.cell? ⟨g,off+l.length*2,none⟩=some (.string (kb x.key))∧w2.cell? ⟨g,off+l.length*2+1,none⟩=some x.val):=fun w2 h=>by
  exact zQt0
 obtain ⟨ge,offe,cape,hav,hge,v0,v1⟩:=HEX.out w oe
 have HOE:=Lib.hid oe
 obtain ⟨x0,x1⟩:=pg_cells kb0
 obtain ⟨y0,y1⟩:=pg_cells ka0
 obtain ⟨z0,z1⟩:=pg_cells kc0
 rw [hbv] at x1
 rw [hav] at x0
 have HAV:=Lib.hid hav
 have HBV:=Lib.hid hbv
 have HNK:=Lib.hid hnk
 have HNE:=Lib.hid hne
 have HL:=Lib.hid hl
 have HXO:=Lib.hid hxo
 have HT0:=Lib.hid T0
 have HKB:=Lib.hid kb0
 have HKA:=Lib.hid ka0
 have HKC:=Lib.hid kc0
 obtain ⟨na,hna⟩:∃ na,aes.length=na:=⟨_,rfl⟩
 obtain ⟨pa,ca,haav,_,_⟩:=y06 oaa
 rw [haav,hna] at y0
 have HNA:=Lib.hid hna
 have HAAV:=Lib.hid haav
 have HCE:=Lib.hid hce
 have hna4:na≤1000000:=zTbe
 have hp1:(y0q b av bv::y0r av (ea++x::eb)::y0s bv (l++.node ab aav aes abv aks::.node cb cav ces cbv cks::r)::y0q ab aav abv::y0r aav aes::y0s abv aks::y0q cb cav cbv::y0r cav ces::y0s cbv cks::(y0p aks++(y0p cks++(y0p l++y0p r)))).Perm ([y0q ab aav abv,y0r aav aes]++(y0q b av bv::y0r av (ea++x::eb)::y0s bv (l++.node ab aav aes abv aks::.node cb cav ces cbv cks::r)::y0s abv aks::y0q cb cav cbv::y0r cav ces::y0s cbv cks::(y0p aks++(y0p cks++(y0p l++y0p r))))):=perm_of_cnt fun a=>zR75
 have hi1:∀ w2,Sep w2 [y0q ab aav abv,y0r aav aes]→Calls Tryz.prog (value_of% n32) #[ptrV ab,.int .i64 (na:Int),.agg #[.string (kb x.key),x.val]] w2 _:=fun w2 hs=>y0u w2 ab na aav abv aes x hs hxo zTbe zTbe
 have HI1:=Lib.hid hi1
 have HP1:=Lib.hid hp1
 clear T0 kb0 ka0 kc0 oe ok oaa oca oak ock hp1 hi1 hs hF e0 e1 hav hbv hnk hne hl hxo hna haav hex hce hnk2 hne2
 unfold ptrV at HI1 ⊢
 go_enter q37,q38
 go_wp2_with fail
 refine wp_region_lit_plan [] [(0,0),(1,0),(2,0),(4,0),(7,0),(8,0),(9,0),(11,0),(12,0),(3,1),(5,0),(6,1),(15,0),(10,1),(13,0),(14,1),(16,0)] (fun _=>False) zyVB zyVB (fun c a d v w h=>zx0I) ?_
 go_wp2_with (first|(refine stp ?_))
 refine wp_region_lit_plan [] [(0,0),(1,0),(2,0),(3,0),(4,0),(5,0),(6,0),(9,0),(10,0),(11,0),(12,0),(14,0),(7,1),(8,0),(13,1),(15,0),(16,1),(17,4)] (fun _=>False) zyVB zyVB (fun c a d v w h=>zx0I) ?_
 go_wp2_with (first|(refine stp ?_))
 refine (HI1.out _ (HT0.out.drew.drew.sepOf HP1.out)).mono ?_
 clear x0 x1 y0 y1 z0 z1 v0 v1 q0 q1
 rintro e w1 ⟨rfl,aav2,hT⟩
 have T1:=HT0.out.drew.drew.use HP1.out hT
 have T1:Trk w F w1 (y0q b av bv::y0r av (ea++x::eb)::y0s bv (l++.node ab aav aes abv aks::.node cb cav ces cbv cks::r)::y0q ab aav2 abv::y0r aav2 (insAt na x aes)::y0s abv aks::y0q cb cav cbv::y0r cav ces::y0s cbv cks::(y0p aks++(y0p cks++(y0p l++y0p r)))):=T1.perm (perm_of_cnt fun a=>zR75)
 have kb1:Blk w1 b (value_of% n2t) [av,bv]:=T1.blk zInm
 have kc1:Blk w1 cb (value_of% n2t) [cav,cbv]:=T1.blk zInm
 have hp2:(y0q b av bv::y0r av (ea++x::eb)::y0s bv (l++.node ab aav aes abv aks::.node cb cav ces cbv cks::r)::y0q ab aav2 abv::y0r aav2 (insAt na x aes)::y0s abv aks::y0q cb cav cbv::y0r cav ces::y0s cbv cks::(y0p aks++(y0p cks++(y0p l++y0p r)))).Perm ([y0q cb cav cbv,y0r cav ces]++(y0q b av bv::y0r av (ea++x::eb)::y0s bv (l++.node ab aav aes abv aks::.node cb cav ces cbv cks::r)::y0q ab aav2 abv::y0r aav2 (insAt na x aes)::y0s abv aks::y0s cbv cks::(y0p aks++(y0p cks++(y0p l++y0p r))))):=perm_of_cnt fun a=>zR75
 have hcl:0 < ces.length:=by rw [HCE.out];simp
 have hy:ces[0]'hcl=y:=by simp [HCE.out]
 have htd:ces.take 0++ces.drop (0+1)=ce:=by rw [HCE.out];simp
 have hi2:∀ w2,Sep w2 [y0q cb cav cbv,y0r cav ces]→Calls Tryz.prog (value_of% n35) #[.pointer (some ⟨cb,0,none⟩),.int .i64 0] w2 fun e w'=>e=.returned (.agg #[.string (kb y.key),y.val])∧∃ av',Trk w2 (feet [y0q cb cav cbv,y0r cav ces]) w' [y0q cb av' cbv,y0r av' ce]:=fun w2 hs=>by
  have h1:=y0v w2 cb 0 cav cbv ces hs hcl zTbe
  rw [hy,htd] at h1
  exact h1
 have hyo:y.val.oneCell'=true:=by
  have h2:=(enC_at ces 0 hcl).2
  rw [hy] at h2
  have oca:Own w1 (value_of% n1x) 2 cav ces.length (enC ces):=T1.own zInm
  exact oca.2.1 _ (List.mem_of_getElem? h2)
 have HI2:=Lib.hid hi2
 have HT1:=Lib.hid T1
 have HP2:=Lib.hid hp2
 have HYO:=Lib.hid hyo
 obtain ⟨x0,x1⟩:=pg_cells kb1
 obtain ⟨z0,z1⟩:=pg_cells kc1
 rw [HAV.out] at x0
 rw [HBV.out] at x1
 have HKB1:=Lib.hid kb1
 clear hT T1 kb1 kc1 hp2 hy htd hi2 HI1 HP1 hyo hcl
 go_wp2_with (first|(refine plan_nil ?_))
 refine wp_region_lit_plan [] [(0,0),(1,0),(2,0),(3,0),(5,0),(6,0),(7,0),(8,0),(4,2),(9,3),(10,0),(11,4)] (fun q=>q=b) zyVB zyVB (fun c a d v w h=>zx0I) ?_
 go_wp2_with (first|(refine stp ?_))
 refine (HI2.out _ (HT1.out.drew.sepOf HP2.out)).mono ?_
 clear x0 x1 z0 z1
 rintro e w2 ⟨rfl,cav2,hT⟩
 have T2:=HT1.out.drew.use HP2.out hT
 have T2:Trk w F w2 (y0r av (ea++x::eb)::y0q b av bv::y0s bv (l++.node ab aav aes abv aks::.node cb cav ces cbv cks::r)::y0q ab aav2 abv::y0r aav2 (insAt na x aes)::y0s abv aks::y0q cb cav2 cbv::y0r cav2 ce::y0s cbv cks::(y0p aks++(y0p cks++(y0p l++y0p r)))):=T2.perm (perm_of_cnt fun a=>zR75)
 have kb2:=z872
 have oe2:Own w2 (value_of% n1x) 2 av (ea++x::eb).length (enC (ea++x::eb)):=T2.own zInm
 have hag:=agree_blk HKB1.out.drew kb2
 obtain ⟨g',o',c',hv',hge2,v0,v1⟩:=HEX.out w2 oe2
 rw [HAV.out] at hv'
 cases hv'
 rw [HAV.out] at oe2
 have hf0:w2.frozen? ⟨ge,offe+l.length*2,none⟩=false:=by
  rw [HNE.out] at oe2
  exact (oe2.cellAt (j:=l.length*2) zTbe).2
 have hf1:w2.frozen? ⟨ge,offe+l.length*2+1,none⟩=false:=by
  rw [HNE.out] at oe2
  have h1:=(oe2.cellAt (j:=l.length*2+1) zTbe).2
  rwa [←Nat.add_assoc] at h1
 have hyo:=HYO.out
 have HT2:=Lib.hid T2
 clear hT T2 oe2 HI2 HP2 HT1 HKB1
 go_upto_region 3 with (first|(refine stp ?_))
 have T3:Trk w F ((w2.setCell ⟨ge,offe+l.length*2,none⟩ (.string (kb y.key))).setCell ⟨ge,offe+l.length*2+1,none⟩ y.val) (y0r av (ea++y::eb)::y0q b av bv::y0s bv (l++.node ab aav aes abv aks::.node cb cav ces cbv cks::r)::y0q ab aav2 abv::y0r aav2 (insAt na x aes)::y0s abv aks::y0q cb cav2 cbv::y0r cav2 ce::y0s cbv cks::(y0p aks++(y0p cks++(y0p l++y0p r)))):=by
  exact zCr4
 generalize ((w2.setCell ⟨ge,offe+l.length*2,none⟩ (.string (kb y.key))).setCell ⟨ge,offe+l.length*2+1,none⟩ y.val)=w3 at *
 have ka3:Blk w3 ab (value_of% n2t) [aav2,abv]:=T3.blk zInm
 have kc3:Blk w3 cb (value_of% n2t) [cav2,cbv]:=T3.blk zInm
 have oak3:Own w3 (value_of% n2e) 1 abv aks.length (ptrs aks):=T3.own zInm
 have ock3:Own w3 (value_of% n2e) 1 cbv cks.length (ptrs cks):=T3.own zInm
 obtain ⟨pak,cak,habv,hcak1,hcak2⟩:=y0f oak3
 obtain ⟨pck,cck,hcbv,hcck1,hcck2⟩:=y0f ock3
 have hlf:=y0l w3 cb (value_of% n2t) cav2 pck cks.length cck (hcbv▸kc3)
 unfold ptrV at hlf
 have HABV:=Lib.hid habv
 have HCBV:=Lib.hid hcbv
 have HT3:=Lib.hid T3
 have hins:insAt na x aes=aes++[x]:=by unfold insAt;rw [←HNA.out];simp
 have HINS:=Lib.hid hins
 clear kb2 hag v0 v1 hf0 hf1 hyo HT2 hins
 rcases tk with _|⟨k1,tk⟩
 ·obtain ⟨hck0,hak0⟩:=hleaf rfl
  subst hck0
  subst hak0
  have hcks:cks=[]:=hck
  subst hcks
  rw [show decide (([]:List P).length=0)=true from rfl] at hlf
  have HLF:=Lib.hid hlf
  clear hlf ka3 kc3 oak3 ock3 habv hcbv T3
  go_wp2_with fail
  refine HLF.out.mono ?_
  rintro e wq ⟨rfl,hq⟩
  subst hq
  go_wp2_with fail
  go_end0
  exact ⟨rfl,.node b av (ea++y::eb) bv (l++.node ab aav2 (aes++[x]) abv []::.node cb cav2 ce cbv []::r),rfl,zhU6,HT3.out.perm (perm_of_cnt fun a=>by
   have e1:ptrs (l++.node ab aav2 (aes++[x]) abv []::.node cb cav2 ce cbv []::r)=ptrs (l++.node ab aav aes abv []::.node cb cav ces cbv []::r):=zy6c
   have e2:(l++.node ab aav2 (aes++[x]) abv []::.node cb cav2 ce cbv []::r).length=(l++P.node ab aav aes abv []::.node cb cav ces cbv []::r).length:=zPXO
   simp only [cnt_append,cnt_cons,cnt_nil,y0o,y0p,y0q,y0r,y0s,P.resL_append,P.resL_cons,P.resL_nil,P.res_node,List.set_cons_zero,List.set_cons_succ,e1,e2,HINS.out]<;>omega)⟩
 ·have htk0:tk=[]:=by cases tk with
   | nil=>rfl
   | cons a t=>simp at htk
  subst htk0
  have hckl:cks.length=ck.length+1:=by rw [hck];simp
  obtain ⟨nck,hnck⟩:∃ nck,cks.length=nck:=⟨_,rfl⟩
  obtain ⟨nak,hnak⟩:∃ nak,aks.length=nak:=⟨_,rfl⟩
  have hk1:cks[0]'(zTbe)=k1:=by simp [hck]
  obtain ⟨gq,offq,cq,hq1,hq2,p1⟩:=sl_ptr (k:=0) (ock3.sl (B:=fun _=>True) (fun _ _=>trivial)) zTbe
  rw [hcbv] at hq1
  cases hq1
  rw [hk1] at p1
  obtain ⟨y0,y1⟩:=pg_cells ka3
  obtain ⟨z0,z1⟩:=pg_cells kc3
  rw [habv,hnak] at y1
  rw [hcbv,hnck] at z1
  rw [decide_eq_false zTbe] at hlf
  have HLF:=Lib.hid hlf
  have b4:=zpOg
  have hxk:=zLvq
  have hsx:Sl (w3.alloc (.cells #[ptrV k1.blk] (value_of% n2e))).drew (fun _=>True) 1 (.slice (some ⟨w3.heap.size,0,none⟩) 1 1) 1 [ptrV k1.blk] :=
   ⟨rfl,Ones.cons rfl Ones.nil,.inr ⟨w3.heap.size,0,1,rfl,Nat.le_refl _,zdUY,trivial,hxk.lt,fun j hj=>by rw [Nat.zero_add];exact hxk.cell j⟩⟩
  have hao:=oak3.below b4
  rw [habv,hnak] at hao
  have hag0:Agree (fun q=>q=ab) w3.drew (w3.alloc (.cells #[ptrV k1.blk] (value_of% n2e))).drew:=agree_alloc (w:=w3) _ (by intro k hk;subst hk;exact ka3.lt)
  have HNCK:=Lib.hid hnck
  have HNAK:=Lib.hid hnak
  have HCKL:=Lib.hid hckl
  have HCK:=Lib.hid hck
  have hnck1:0 < nck:=zTbe
  have hnck1i:(0:Int) < (nck:Int):=zTbe
  have hnck2:nck≤1000000:=zTbe
  have hnak2:nak≤1000000:=zTbe
  have HAFT:Hid (∀ w4,Only (fun k=>(Value.slice pak nak cak).ownBlock=some k) (w3.alloc (.cells #[.pointer (some ⟨k1.blk,0,none⟩)] (value_of% n2e))).drew w4→Blk w4 ab (value_of% n2t) [aav2,abv]):=fun w4 hon=>by
   refine (ka3.below b4).only hon fun h=>?_
   have h1:=(T3.sep.perm (perm_of_cnt (y:=[y0s abv aks,y0q ab aav2 abv]++(y0r av (ea++y::eb)::y0q b av bv::y0s bv (l++.node ab aav aes abv aks::.node cb cav ces cbv cks::r)::y0r aav2 (insAt na x aes)::y0q cb cav2 cbv::y0r cav2 ce::y0s cbv cks::(y0p aks++(y0p cks++(y0p l++y0p r))))) fun a=>zR75)).left
   rw [←hnak,←habv] at h
   exact two_apart h1 ab (by simp [Res.own,h]) zg6m
  unfold ptrV at hag0 p1 hsx hao
  rw [Nat.add_zero] at p1
  clear hlf ka3 kc3 oak3 ock3 habv hcbv T3 hckl hnck hnak hck hk1 b4 hxk
  go_wp2_with fail
  refine HLF.out.mono ?_
  rintro e wq ⟨rfl,hq⟩
  subst hq
  go_wp2_with fail
  refine wp_region_lit_plan [] [(0,0),(1,0),(2,0),(3,0),(5,0),(6,0),(7,0),(4,2),(8,1),(9,0),(10,1),(11,3),(12,4),(13,0),(14,0),(15,4)] (fun q=>q=ab) zyVB zyVB (fun c a d v w h=>zx0I) ?_
  go_upto_region 5 with (first
   | (at_builtin;refine wpList_app rfl _ _ rfl y0c zdhv hao zdhv hsx zefz zTbe ?_;clear hao hsx;intro abv2 w4 ho4 hon4 hf4 _ _;have ka4:=HAFT.out w4 hon4;have HO4:=Lib.hid ho4;have HON4:=Lib.hid hon4;have HF4:=Lib.hid hf4;obtain ⟨p4,c4,hv4,_,_⟩:=y0f ho4;obtain ⟨u0,u1⟩:=pg_cells ka4;have hfu:=ka4.frozen 1;rw [HABV.out,HNAK.out] at u1;have HKA4:=Lib.hid ka4;subst hv4;clear ho4 hon4 hf4 ka4)
   | (refine stp ?_))
  have b4:Below wq.heap.size wq (wq.alloc (.cells #[.pointer (some ⟨k1.blk,0,none⟩)] (value_of% n2e))).drew:=((Below.refl _ _).alloc (Nat.le_refl _) _).drew
  have T4:Trk w F (wq.alloc (.cells #[.pointer (some ⟨k1.blk,0,none⟩)] (value_of% n2e))).drew (y0s abv aks::y0r av (ea++y::eb)::y0q b av bv::y0s bv (l++.node ab aav aes abv aks::.node cb cav ces cbv cks::r)::y0q ab aav2 abv::y0r aav2 (insAt na x aes)::y0q cb cav2 cbv::y0r cav2 ce::y0s cbv cks::(y0p aks++(y0p cks++(y0p l++y0p r)))):=(HT3.out.below b4).perm (perm_of_cnt fun a=>zR75)
  have hAB:abv=Value.slice pak nak cak:=by rw [HABV.out,HNAK.out]
  obtain ⟨abv2,habv2⟩:∃ abv2,abv2=Value.slice p4 (nak+1) c4:=⟨_,rfl⟩
  have hal2:(aks++[k1]).length=nak+1:=by rw [List.length_append,HNAK.out];rfl
  have hap2:ptrs (aks++[k1])=ptrs aks++[.pointer (some ⟨k1.blk,0,none⟩)]:=by rw [ptrs_append];rfl
  have T5:Trk w F w4 (y0s abv2 (aks++[k1])::y0r av (ea++y::eb)::y0q b av bv::y0s bv (l++.node ab aav aes abv aks::.node cb cav ces cbv cks::r)::y0q ab aav2 abv::y0r aav2 (insAt na x aes)::y0q cb cav2 cbv::y0r cav2 ce::y0s cbv cks::(y0p aks++(y0p cks++(y0p l++y0p r)))):=T4.ownTo (e:=(value_of% n2e)) (sz:=1) (by rw [hal2,hap2,habv2];exact HO4.out) (hAB▸HON4.out) (fun k hk=>by
   rw [habv2] at hk
   rcases HF4.out with h|h
   ·left;rw [hAB,←h];exact hk
   ·right
    have h2:=h.symm.trans hk
    have h3:=Option.some.inj h2
    omega)
  have T5:Trk w F w4 (y0q ab aav2 abv::y0s abv2 (aks++[k1])::y0r av (ea++y::eb)::y0q b av bv::y0s bv (l++.node ab aav aes abv aks::.node cb cav ces cbv cks::r)::y0r aav2 (insAt na x aes)::y0q cb cav2 cbv::y0r cav2 ce::y0s cbv cks::(y0p aks++(y0p cks++(y0p l++y0p r)))):=T5.perm (perm_of_cnt fun a=>zR75)
  have T6:=T5.blkSet 1 (.slice p4 (nak+1) c4)
  generalize w4.setCell ⟨ab,1,none⟩ (.slice p4 (nak+1) c4)=w5 at *
  rw [←habv2] at T6
  have T6:Trk w F w5 (y0s cbv cks::y0q ab aav2 abv2::y0s abv2 (aks++[k1])::y0r av (ea++y::eb)::y0q b av bv::y0s bv (l++.node ab aav aes abv aks::.node cb cav ces cbv cks::r)::y0r aav2 (insAt na x aes)::y0q cb cav2 cbv::y0r cav2 ce::(y0p aks++(y0p cks++(y0p l++y0p r)))):=T6.perm (perm_of_cnt fun a=>zr1M)
  have kc5:Blk w5 cb (value_of% n2t) [cav2,cbv]:=T6.blk zInm
  have ok5:Own w5 (value_of% n2e) 1 cbv cks.length (ptrs cks):=T6.own zInm
  obtain ⟨z0,z1⟩:=pg_cells kc5
  rw [HCBV.out,HNCK.out] at z1 ok5
  have hdel:=y0e w5 gq offq cck nck 0 (ptrs cks) ok5 zTbe hnck1
  rw [show ((0:Nat):Int)+1=1 from rfl,show ((0:Nat):Int)=0 from rfl] at hdel
  have HDEL:=Lib.hid hdel
  have HT6:=Lib.hid T6
  have HAB2:=Lib.hid habv2
  clear T4 T5 T6 kc5 ok5 hdel hal2 hap2 b4 hAB habv2 u0 u1 hfu HKA4 HAFT
  go_wp2_with fail
  refine HDEL.out.mono ?_
  rintro e w6 ⟨rfl,ho6,hon6,hs6⟩
  have hCB:cbv=Value.slice (some ⟨gq,offq,none⟩) nck cck:=by rw [HCBV.out,HNCK.out]
  have hcl2:ck.length=nck - 1:=by have:=HCKL.out;have:=HNCK.out;omega
  have hcp2:(ptrs cks).take (0*1)++(ptrs cks).drop ((0+1)*1)=ptrs ck:=by rw [HCK.out];rfl
  rw [hcp2,←hcl2] at ho6
  have T7:Trk w F w6 (y0s (.slice (some ⟨gq,offq,none⟩) ck.length cck) ck::y0q ab aav2 abv2::y0s abv2 (aks++[k1])::y0r av (ea++y::eb)::y0q b av bv::y0s bv (l++.node ab aav aes abv aks::.node cb cav ces cbv cks::r)::y0r aav2 (insAt na x aes)::y0q cb cav2 cbv::y0r cav2 ce::(y0p aks++(y0p cks++(y0p l++y0p r)))):=HT6.out.ownTo (e:=(value_of% n2e)) (sz:=1) ho6 (by rw [hCB];exact hon6.mono fun i _ h=>by rw [h];rfl) (fun k hk=>by left;rw [hCB];exact hk)
  rw [hcl2] at T7
  have T8:Trk w F w6 (y0q cb cav2 cbv::y0s (.slice (some ⟨gq,offq,none⟩) (nck - 1) cck) ck::y0q ab aav2 abv2::y0s abv2 (aks++[k1])::y0r av (ea++y::eb)::y0q b av bv::y0s bv (l++.node ab aav aes abv aks::.node cb cav ces cbv cks::r)::y0r aav2 (insAt na x aes)::y0r cav2 ce::(y0p aks++(y0p cks++(y0p l++y0p r)))):=T7.perm (perm_of_cnt fun a=>zR75)
  have kc6:Blk w6 cb (value_of% n2t) [cav2,cbv]:=T8.blk zInm
  obtain ⟨z0,z1⟩:=pg_cells kc6
  have hfz:=kc6.frozen 1
  rw [hCB] at z1
  have HT8:=Lib.hid T8
  clear T7 T8 kc6 ho6 hon6 hs6 hCB hcl2 hcp2 HDEL
  go_wp2_with fail
  go_end0
  have T9:Trk w F (w6.setCell ⟨cb,1,none⟩ (.slice (some ⟨gq,offq,none⟩) (nck - 1) cck)) (y0q cb cav2 (.slice (some ⟨gq,offq,none⟩) (nck - 1) cck)::y0s (.slice (some ⟨gq,offq,none⟩) (nck - 1) cck) ck::y0q ab aav2 abv2::y0s abv2 (aks++[k1])::y0r av (ea++y::eb)::y0q b av bv::y0s bv (l++.node ab aav aes abv aks::.node cb cav ces cbv cks::r)::y0r aav2 (insAt na x aes)::y0r cav2 ce::(y0p aks++(y0p cks++(y0p l++y0p r)))):=HT8.out.blkSet 1 (.slice (some ⟨gq,offq,none⟩) (nck - 1) cck)
  have hcks:=HCK.out
  refine ⟨rfl,.node b av (ea++y::eb) bv (l++.node ab aav2 (aes++[x]) abv2 (aks++[k1])::.node cb cav2 ce (.slice (some ⟨gq,offq,none⟩) (nck - 1) cck) ck::r),rfl,zhU6,T9.perm (perm_of_cnt fun a=>?_)⟩
  have e1:ptrs (l++.node ab aav2 (aes++[x]) abv2 (aks++[k1])::.node cb cav2 ce (.slice (some ⟨gq,offq,none⟩) (nck - 1) cck) ck::r)=ptrs (l++.node ab aav aes abv aks::.node cb cav ces cbv cks::r):=zy6c
  have e2:(l++.node ab aav2 (aes++[x]) abv2 (aks++[k1])::.node cb cav2 ce (.slice (some ⟨gq,offq,none⟩) (nck - 1) cck) ck::r).length=(l++.node ab aav aes abv aks::.node cb cav ces cbv cks::r).length:=zPXO
  have e5:P.resL (value_of% n2t) (value_of% n1x) (value_of% n2e) cks=k1.res (value_of% n2t) (value_of% n1x) (value_of% n2e)++y0p ck:=by rw [hcks];rfl
  have e6:(Res.own (value_of% n2e) 1 (.slice (some ⟨gq,offq,none⟩) (nck - 1) cck) ck.length (ptrs ck))=Res.own (value_of% n2e) 1 (.slice (some ⟨gq,offq,none⟩) (nck - 1) cck) ck.length (ptrs ck):=rfl
  simp only [cnt_append,cnt_cons,cnt_nil,y0o,y0p,y0q,y0r,y0s,P.resL_append,P.resL_cons,P.resL_nil,P.res_node,List.set_cons_zero,List.set_cons_succ,e1,e2,e5,HINS.out]<;>omega
):P:=h
namespace TyS
theorem y17 (w:World) (b:Nat) (av bv:Value) (ea:List En) (x:En) (eb:List En) (l:List P) (ab:Nat) (aav:Value) (aes:List En) (abv:Value) (aks:List P) (cb:Nat) (cav:Value) (ces:List En) (cbv:Value) (cks r:List P)
 (hs:Sep w (y0o (.node b av (ea++x::eb) bv (l++.node ab aav aes abv aks::.node cb cav ces cbv cks::r)))) (hl:ea.length=l.length) (hn:(ea++x::eb).length≤1000000) (hkn:(l++.node ab aav aes abv aks::.node cb cav ces cbv cks::r).length≤1000000) (han:aes.length≤1000000) (hcn:ces.length≤1000000) (hakn:aks.length≤1000000) (hckn:cks.length≤1000000)
 (ce:List En) (y:En) (hce:ces=y::ce) (ck:List P) (tk:List P) (hck:cks=tk++ck) (htk:tk.length≤1) (hleaf:tk=[]→ck=[]∧aks=[]) :
 Calls Tryz.prog 199 #[ptrV b,.int .i64 (l.length:Int)] w fun e w'=>e=.returned (.tuple #[])∧∃ p',p'.blk=b∧p'.t=.node (ea++y::eb) (l.map P.t++.node (aes++[x]) ((aks++tk).map P.t)::.node ce (ck.map P.t)::r.map P.t) ∧
  Trk w (feet (y0o (.node b av (ea++x::eb) bv (l++.node ab aav aes abv aks::.node cb cav ces cbv cks::r)))) w' (y0o p'):=z1Ef
end TyS
theorem z0Lz {P:Prop} (h:P:=by
 have T0:=Trk.start hs
 generalize hF:feet (y0o (.node b av (ea++x::eb) bv (l++.node ab aav aes abv aks::.node cb cav ces cbv cks::r)))=F at *
 have T0:=zHiX
 have kb0:=zDoW
 have ka0:Blk w ab (value_of% n2t) [aav,abv]:=T0.blk zInm
 have kc0:=zJFC
 have oe:=zqgq
 have ok:=zjHr
 have oaa:=zTdj
 have oca:=zPoB
 have oak:=zt6r
 have ock:=zX0n
 obtain ⟨gk,offk,capk,hbv,hgk,q0⟩:=sl_ptr (k:=l.length) (ok.sl (B:=fun _=>True) (fun _ _=>trivial)) zPXO
 obtain ⟨gk',offk',capk',hbv',hgk',q1⟩:=sl_ptr (k:=l.length+1) (ok.sl (B:=fun _=>True) (fun _ _=>trivial)) zPXO
 rw [hbv] at hbv'
 cases hbv'
 have e0:=zNYv
 have e1:(l++.node ab aav aes abv aks::.node cb cav ces cbv cks::r)[l.length+1]'(zPXO)=.node cb cav ces cbv cks:=by
  exact zVg4
 rw [e0] at q0
 rw [e1] at q1
 replace q0:=zGTR
 replace q1:=zEsJ
 obtain ⟨nk,hnk⟩:=zGvV
 obtain ⟨ne,hne⟩:∃ ne,(ea++x::eb).length=ne:=⟨_,rfl⟩
 have hnk2:nk=l.length+(r.length+2):=zunR
 have hne2:=z1eC
 rw [hnk] at hbv hkn
 rw [hne] at hn
 have hlk1:l.length < nk:=zTbe
 have hlk2:l.length+1 < nk:=zTbe
 have hlk2i:(l.length:Int)+1 < (nk:Int):=zTbe
 have hlk0:(0:Int)≤(l.length:Int)+1:=zTbe
 have htn:((l.length:Int)+1).toNat=l.length+1:=zTbe
 have hle1:l.length < ne:=zTbe
 have hex:=zuUP
 have hxo:x.val.oneCell'=true:=by
  exact zw3Q
 have HEX:Hid (∀ w2,Own w2 (value_of% n1x) 2 av (ea++x::eb).length (enC (ea++x::eb))→∃ g off cap,av=.slice (some ⟨g,off,none⟩) ne cap∧g < w2.heap.size∧w2.cell? ⟨g,off+l.length*2,none⟩=some (.string (kb x.key))∧w2.cell? ⟨g,off+l.length*2+1,none⟩=some x.val):=fun w2 h=>by
  exact zQt0
 obtain ⟨ge,offe,cape,hav,hge,v0,v1⟩:=HEX.out w oe
 have HOE:=Lib.hid oe
 obtain ⟨x0,x1⟩:=pg_cells kb0
 obtain ⟨y0,y1⟩:=pg_cells ka0
 obtain ⟨z0,z1⟩:=pg_cells kc0
 rw [hbv] at x1
 rw [hav] at x0
 have HAV:=Lib.hid hav
 have HBV:=Lib.hid hbv
 have HNK:=Lib.hid hnk
 have HNE:=Lib.hid hne
 have HL:=Lib.hid hl
 have HXO:=Lib.hid hxo
 have HT0:=Lib.hid T0
 have HKB:=Lib.hid kb0
 have HKA:=Lib.hid ka0
 have HKC:=Lib.hid kc0
 obtain ⟨na,hna⟩:∃ na,aes.length=na:=⟨_,rfl⟩
 obtain ⟨pa,ca,haav,_,_⟩:=y06 oaa
 rw [haav,hna] at y0
 have HNA:=Lib.hid hna
 have HAAV:=Lib.hid haav
 have hna4:na≤1000000:=zTbe
 have hp1:(y0q b av bv::y0r av (ea++x::eb)::y0s bv (l++.node ab aav aes abv aks::.node cb cav ces cbv cks::r)::y0q ab aav abv::y0r aav aes::y0s abv aks::y0q cb cav cbv::y0r cav ces::y0s cbv cks::(y0p aks++(y0p cks++(y0p l++y0p r)))).Perm ([y0q b av bv,y0r av (ea++x::eb)]++(y0s bv (l++.node ab aav aes abv aks::.node cb cav ces cbv cks::r)::y0q ab aav abv::y0r aav aes::y0s abv aks::y0q cb cav cbv::y0r cav ces::y0s cbv cks::(y0p aks++(y0p cks++(y0p l++y0p r))))):=perm_of_cnt fun a=>zR75
 have hxe:(ea++x::eb)[l.length]'(znrV)=x:=by
  have h1:=zICb
  rw [List.getElem?_eq_getElem h1] at hex
  exact Option.some.inj hex
 have htd:(ea++x::eb).take l.length++(ea++x::eb).drop (l.length+1)=ea++eb:=by rw [←hl];simp
 have hi1:∀ w2,Sep w2 [y0q b av bv,y0r av (ea++x::eb)]→Calls Tryz.prog (value_of% n35) #[.pointer (some ⟨b,0,none⟩),.int .i64 (l.length:Int)] w2 fun e w'=>e=.returned (.agg #[.string (kb x.key),x.val])∧∃ av',Trk w2 (feet [y0q b av bv,y0r av (ea++x::eb)]) w' [y0q b av' bv,y0r av' (ea++eb)]:=fun w2 hs=>by
  have h1:=y0v w2 b l.length av bv (ea++x::eb) hs znrV (by rw [hne];omega)
  rw [hxe,htd] at h1
  exact h1
 have hins:insAt na x aes=aes++[x]:=by unfold insAt;rw [←hna];simp
 have hi2:∀ w2,Sep w2 [y0q ab aav abv,y0r aav aes]→Calls Tryz.prog (value_of% n32) #[.pointer (some ⟨ab,0,none⟩),.int .i64 (na:Int),.agg #[.string (kb x.key),x.val]] w2 fun e w'=>e=.returned (.tuple #[])∧∃ av',Trk w2 (feet [y0q ab aav abv,y0r aav aes]) w' [y0q ab av' abv,y0r av' (aes++[x])]:=fun w2 hs=>by
  have h1:=y0u w2 ab na aav abv aes x hs hxo zTbe zTbe
  rw [hins] at h1
  exact h1
 have HI1:=Lib.hid hi1
 have HI2:=Lib.hid hi2
 have HP1:=Lib.hid hp1
 clear T0 kb0 ka0 kc0 oe ok oaa oca oak ock hp1 hi1 hi2 hs hF e0 e1 hav hbv hnk hne hl hxo hna haav hex hnk2 hne2 hxe htd hins
 unfold ptrV
 go_enter q39,q3a
 go_wp2_with fail
 refine wp_region_lit_plan [] [(0,0),(1,0),(2,0),(4,0),(7,0),(8,0),(9,0),(11,0),(12,0),(3,1),(5,0),(6,1),(15,0),(10,1),(13,0),(14,1),(16,0)] (fun _=>False) zyVB zyVB (fun c a d v w h=>zx0I) ?_
 go_wp2_with (first|(refine stp ?_))
 refine wp_region_lit_plan [] [(0,0),(1,0),(2,0),(3,0),(4,0),(5,0),(6,0),(9,0),(10,0),(11,0),(12,0),(7,2),(8,0),(13,3),(14,4)] (fun q=>q=ab) zyVB zyVB (fun c a d v w h=>zx0I) ?_
 go_wp2_with (first|(refine stp ?_))
 refine (HI1.out _ (HT0.out.drew.drew.sepOf HP1.out)).mono ?_
 clear x0 x1 y0 y1 z0 z1 v0 v1 q0 q1
 rintro e w1 ⟨rfl,av2,hT⟩
 have T1:=HT0.out.drew.drew.use HP1.out hT
 have T1:Trk w F w1 (y0q b av2 bv::y0r av2 (ea++eb)::y0s bv (l++.node ab aav aes abv aks::.node cb cav ces cbv cks::r)::y0q ab aav abv::y0r aav aes::y0s abv aks::y0q cb cav cbv::y0r cav ces::y0s cbv cks::(y0p aks++(y0p cks++(y0p l++y0p r)))):=T1.perm (perm_of_cnt fun a=>zR75)
 have hag:=agree_blk HKA.out.drew.drew (T1.blk (b:=ab) (t:=(value_of% n2t)) (cs:=[aav,abv]) zInm)
 have hp2:(y0q b av2 bv::y0r av2 (ea++eb)::y0s bv (l++.node ab aav aes abv aks::.node cb cav ces cbv cks::r)::y0q ab aav abv::y0r aav aes::y0s abv aks::y0q cb cav cbv::y0r cav ces::y0s cbv cks::(y0p aks++(y0p cks++(y0p l++y0p r)))).Perm ([y0q ab aav abv,y0r aav aes]++(y0q b av2 bv::y0r av2 (ea++eb)::y0s bv (l++.node ab aav aes abv aks::.node cb cav ces cbv cks::r)::y0s abv aks::y0q cb cav cbv::y0r cav ces::y0s cbv cks::(y0p aks++(y0p cks++(y0p l++y0p r))))):=perm_of_cnt fun a=>zR75
 have HT1:=Lib.hid T1
 have HP2:=Lib.hid hp2
 clear hT T1 hp2 HI1 HP1
 go_wp2_with (first|(refine stp ?_))
 refine (HI2.out _ (HT1.out.sepOf HP2.out)).mono ?_
 rintro e w2 ⟨rfl,aav2,hT⟩
 have T2:=HT1.out.use HP2.out hT
 have T2:Trk w F w2 (y0r aav2 (aes++[x])::y0q ab aav2 abv::y0q b av2 bv::y0r av2 (ea++eb)::y0s bv (l++.node ab aav aes abv aks::.node cb cav ces cbv cks::r)::y0s abv aks::y0q cb cav cbv::y0r cav ces::y0s cbv cks::(y0p aks++(y0p cks++(y0p l++y0p r)))):=T2.perm (perm_of_cnt fun a=>zR75)
 have ka2:Blk w2 ab (value_of% n2t) [aav2,abv]:=T2.blk zInm
 have kc2:Blk w2 cb (value_of% n2t) [cav,cbv]:=T2.blk zInm
 have oa2:Own w2 (value_of% n1x) 2 aav2 (aes++[x]).length (enC (aes++[x])):=T2.own zInm
 have oc2:Own w2 (value_of% n1x) 2 cav ces.length (enC ces):=T2.own zInm
 obtain ⟨pa2,ca2,haav2,_,_⟩:=y06 oa2
 obtain ⟨pc2,cc2,hcav,_,_⟩:=y06 oc2
 obtain ⟨na2,hna2⟩:∃ na2,(aes++[x]).length=na2:=⟨_,rfl⟩
 obtain ⟨nc,hnc⟩:∃ nc,ces.length=nc:=⟨_,rfl⟩
 have hna5:na2≤1000001:=by rw [←hna2,List.length_append,HNA.out];simp;omega
 have hnc5:nc≤1000000:=zTbe
 obtain ⟨y0,y1⟩:=pg_cells ka2
 obtain ⟨z0,z1⟩:=pg_cells kc2
 rw [haav2,hna2] at y0
 rw [hcav,hnc] at z0
 have hsc:=(oc2.sl (B:=fun _=>True) (fun _ _=>trivial)).drew
 have hoa:=oa2.drew
 rw [hcav,hnc] at hsc
 rw [haav2,hna2] at hoa
 have HAFT:Hid (∀ w',Only (fun k=>(Value.slice pa2 na2 ca2).ownBlock=some k) w2.drew w'→Blk w' ab (value_of% n2t) [aav2,abv]):=fun w' ho=>by
  rw [←hna2,←haav2] at ho
  exact T2.drew.keepBlk ho
 have HT2:=Lib.hid T2
 have HAAV2:=Lib.hid haav2
 have HNA2:=Lib.hid hna2
 have HNC:=Lib.hid hnc
 clear hT T2 ka2 kc2 oa2 oc2 haav2 hcav hna2 hnc HI2 HT1 HP2 hag
 go_wp2_with (first|(refine plan_nil ?_))
 refine wp_region_lit_plan [] [(0,0),(1,0),(2,0),(3,0),(4,0),(6,0),(7,0),(8,0),(9,0),(5,1),(10,1),(11,4),(12,0),(13,0),(14,0),(15,4)] (fun _=>False) zyVB zyVB (fun c a d v w h=>zx0I) ?_
 go_upto_region 3 with (first
  | (at_builtin;refine wpList_app rfl _ _ rfl y01 zdhv hoa zdhv hsc zefz zTbe ?_;clear hoa hsc;intro aav3 w3 ho4 hon4 hf4 _ _;have ka4:=HAFT.out w3 hon4;have HO4:=Lib.hid ho4;have HON4:=Lib.hid hon4;have HF4:=Lib.hid hf4;obtain ⟨p4,c4,hv4,_,_⟩:=y06 ho4;obtain ⟨u0,u1⟩:=pg_cells ka4;have hfu:=ka4.frozen 0;rw [HAAV2.out,HNA2.out] at u0;subst hv4;clear ho4 hon4 hf4 ka4)
  | (refine stp ?_))
 obtain ⟨aav3,haav3⟩:∃ aav3,aav3=Value.slice p4 (na2+nc) c4:=⟨_,rfl⟩
 have hal3:(aes++x::ces).length=na2+nc:=by rw [←HNA2.out,←HNC.out];simp;omega
 have hap3:enC (aes++x::ces)=enC (aes++[x])++enC ces:=by rw [←enC_append];simp
 have hAV:aav2=Value.slice pa2 na2 ca2:=by rw [HAAV2.out,HNA2.out]
 have T3:Trk w F w3 (y0r aav3 (aes++x::ces)::y0q ab aav2 abv::y0q b av2 bv::y0r av2 (ea++eb)::y0s bv (l++.node ab aav aes abv aks::.node cb cav ces cbv cks::r)::y0s abv aks::y0q cb cav cbv::y0r cav ces::y0s cbv cks::(y0p aks++(y0p cks++(y0p l++y0p r)))):=HT2.out.drew.ownTo (e:=(value_of% n1x)) (sz:=2) (by rw [hal3,hap3,haav3];exact HO4.out) (hAV▸HON4.out) (fun k hk=>by
  rw [haav3] at hk
  rcases HF4.out with h|h
  ·left;rw [hAV,←h];exact hk
  ·right
   have h2:=h.symm.trans hk
   have h3:=Option.some.inj h2
   exact Nat.le_of_eq h3)
 have T3:Trk w F w3 (y0q ab aav2 abv::y0r aav3 (aes++x::ces)::y0q b av2 bv::y0r av2 (ea++eb)::y0s bv (l++.node ab aav aes abv aks::.node cb cav ces cbv cks::r)::y0s abv aks::y0q cb cav cbv::y0r cav ces::y0s cbv cks::(y0p aks++(y0p cks++(y0p l++y0p r)))):=T3.perm (perm_of_cnt fun a=>zR75)
 have T4:=T3.blkSet 0 (.slice p4 (na2+nc) c4)
 generalize w3.setCell ⟨ab,0,none⟩ (.slice p4 (na2+nc) c4)=w4 at *
 rw [←haav3] at T4
 have T4:Trk w F w4 (y0s abv aks::y0q ab aav3 abv::y0r aav3 (aes++x::ces)::y0q b av2 bv::y0r av2 (ea++eb)::y0s bv (l++.node ab aav aes abv aks::.node cb cav ces cbv cks::r)::y0q cb cav cbv::y0r cav ces::y0s cbv cks::(y0p aks++(y0p cks++(y0p l++y0p r)))):=T4.perm (perm_of_cnt fun a=>zr1M)
 clear T3 u0 u1 hfu HAFT y0 y1 z0 z1 hal3 hap3 hAV haav3
 have ka4:Blk w4 ab (value_of% n2t) [aav3,abv]:=T4.blk zInm
 have kc4:Blk w4 cb (value_of% n2t) [cav,cbv]:=T4.blk zInm
 have oa4:Own w4 (value_of% n2e) 1 abv aks.length (ptrs aks):=T4.own zInm
 have oc4:Own w4 (value_of% n2e) 1 cbv cks.length (ptrs cks):=T4.own zInm
 obtain ⟨pak,cak,habv,_,_⟩:=y0f oa4
 obtain ⟨pck,cck,hcbv,_,_⟩:=y0f oc4
 obtain ⟨nak,hnak⟩:∃ nak,aks.length=nak:=⟨_,rfl⟩
 obtain ⟨nck,hnck⟩:∃ nck,cks.length=nck:=⟨_,rfl⟩
 have hnak5:nak≤1000000:=zTbe
 have hnck5:nck≤1000000:=zTbe
 obtain ⟨y0,y1⟩:=pg_cells ka4
 obtain ⟨z0,z1⟩:=pg_cells kc4
 rw [habv,hnak] at y1
 rw [hcbv,hnck] at z1
 have hsc:=(oc4.sl (B:=fun _=>True) (fun _ _=>trivial)).drew
 have hoa:=oa4.drew
 rw [hcbv,hnck] at hsc
 rw [habv,hnak] at hoa
 have HAFT:Hid (∀ w',Only (fun k=>(Value.slice pak nak cak).ownBlock=some k) w4.drew w'→Blk w' ab (value_of% n2t) [aav3,abv]):=fun w' ho=>by
  rw [←hnak,←habv] at ho
  exact T4.drew.keepBlk ho
 have HT4:=Lib.hid T4
 have HABV:=Lib.hid habv
 have HNAK:=Lib.hid hnak
 have HNCK:=Lib.hid hnck
 clear T4 ka4 kc4 oa4 oc4 habv hcbv hnak hnck
 refine wp_region_lit_plan [] [(0,0),(1,0),(2,0),(3,0),(5,0),(6,0),(7,0),(4,1),(8,1),(9,4),(10,0),(11,0),(12,4)] (fun _=>False) zyVB zyVB (fun c a d v w h=>zx0I) ?_
 go_upto_region 4 with (first
  | (at_builtin;refine wpList_app rfl _ _ rfl y0c zdhv hoa zdhv hsc zefz zTbe ?_;clear hoa hsc;intro abv2 w5 ho4 hon4 hf4 _ _;have ka4:=HAFT.out w5 hon4;have HO5:=Lib.hid ho4;have HON5:=Lib.hid hon4;have HF5:=Lib.hid hf4;obtain ⟨p5,c5,hv4,_,_⟩:=y0f ho4;obtain ⟨u0,u1⟩:=pg_cells ka4;have hfu:=ka4.frozen 1;rw [HABV.out,HNAK.out] at u1;subst hv4;clear ho4 hon4 hf4 ka4)
  | (refine stp ?_))
 obtain ⟨abv2,habv2⟩:∃ abv2,abv2=Value.slice p5 (nak+nck) c5:=⟨_,rfl⟩
 have hal3:(aks++cks).length=nak+nck:=by rw [←HNAK.out,←HNCK.out];simp
 have hap3:ptrs (aks++cks)=ptrs aks++ptrs cks:=ptrs_append _ _
 have hAV:abv=Value.slice pak nak cak:=by rw [HABV.out,HNAK.out]
 have T5:Trk w F w5 (y0s abv2 (aks++cks)::y0q ab aav3 abv::y0r aav3 (aes++x::ces)::y0q b av2 bv::y0r av2 (ea++eb)::y0s bv (l++.node ab aav aes abv aks::.node cb cav ces cbv cks::r)::y0q cb cav cbv::y0r cav ces::y0s cbv cks::(y0p aks++(y0p cks++(y0p l++y0p r)))):=HT4.out.drew.ownTo (e:=(value_of% n2e)) (sz:=1) (by rw [hal3,hap3,habv2];exact HO5.out) (hAV▸HON5.out) (fun k hk=>by
  rw [habv2] at hk
  rcases HF5.out with h|h
  ·left;rw [hAV,←h];exact hk
  ·right
   have h2:=h.symm.trans hk
   have h3:=Option.some.inj h2
   exact Nat.le_of_eq h3)
 have T5:Trk w F w5 (y0q ab aav3 abv::y0s abv2 (aks++cks)::y0r aav3 (aes++x::ces)::y0q b av2 bv::y0r av2 (ea++eb)::y0s bv (l++.node ab aav aes abv aks::.node cb cav ces cbv cks::r)::y0q cb cav cbv::y0r cav ces::y0s cbv cks::(y0p aks++(y0p cks++(y0p l++y0p r)))):=T5.perm (perm_of_cnt fun a=>zR75)
 have T6:=T5.blkSet 1 (.slice p5 (nak+nck) c5)
 generalize w5.setCell ⟨ab,1,none⟩ (.slice p5 (nak+nck) c5)=w6 at *
 rw [←habv2] at T6
 have T6:Trk w F w6 (y0s bv (l++.node ab aav aes abv aks::.node cb cav ces cbv cks::r)::y0q ab aav3 abv2::y0s abv2 (aks++cks)::y0r aav3 (aes++x::ces)::y0q b av2 bv::y0r av2 (ea++eb)::y0q cb cav cbv::y0r cav ces::y0s cbv cks::(y0p aks++(y0p cks++(y0p l++y0p r)))):=T6.perm (perm_of_cnt fun a=>zr1M)
 have kb6:Blk w6 b (value_of% n2t) [av2,bv]:=T6.blk zInm
 have ok6:Own w6 (value_of% n2e) 1 bv (l++.node ab aav aes abv aks::.node cb cav ces cbv cks::r).length (ptrs (l++.node ab aav aes abv aks::.node cb cav ces cbv cks::r)):=T6.own zInm
 obtain ⟨x0,x1⟩:=pg_cells kb6
 rw [HBV.out] at x1 ok6
 rw [HNK.out] at ok6
 have hdel:=y0e w6 gk offk capk nk (l.length+1) (ptrs (l++.node ab aav aes abv aks::.node cb cav ces cbv cks::r)) ok6 zTbe hlk2
 have hc1:=zcmn
 have hc2:(l.length:Int)+1+1=(l.length:Int)+2:=zTbe
 rw [hc1,hc2] at hdel
 have HDEL:=Lib.hid hdel
 have HT6:=Lib.hid T6
 clear T5 T6 kb6 ok6 hdel hal3 hap3 hAV habv2 u0 u1 hfu HAFT y0 y1 z0 z1 hc1 hc2
 go_wp2_with fail
 refine HDEL.out.mono ?_
 rintro e w7 ⟨rfl,ho7,hon7,hs7⟩
 have hpl:(l++.node ab aav3 (aes++x::ces) abv2 (aks++cks)::r).length=nk - 1:=by rw [←HNK.out];simp<;>omega
 have hpp:(ptrs (l++.node ab aav aes abv aks::.node cb cav ces cbv cks::r)).take ((l.length+1)*1)++(ptrs (l++.node ab aav aes abv aks::.node cb cav ces cbv cks::r)).drop ((l.length+1+1)*1)=ptrs (l++.node ab aav3 (aes++x::ces) abv2 (aks++cks)::r):=by
  have e:(l++.node ab aav3 (aes++x::ces) abv2 (aks++cks)::r:List P)=l++.node ab aav3 (aes++x::ces) abv2 (aks++cks)::r:=rfl
  rw [ptrs_del]
  have e1:(l++.node ab aav aes abv aks::.node cb cav ces cbv cks::r).take (l.length+1)=l++[.node ab aav aes abv aks]:=by
   exact znZX
  have e2:(l++.node ab aav aes abv aks::.node cb cav ces cbv cks::r).drop (l.length+1+1)=r:=by
   rw [List.drop_append,List.drop_eq_nil_of_le zTbe]
   have:l.length+1+1 - l.length=2:=zTbe
   rw [this];rfl
  rw [e1,e2]
  simp [ptrs,P.blk]
 rw [hpp] at ho7
 have ho7':Own w7 (value_of% n2e) 1 (.slice (some ⟨gk,offk,none⟩) (nk - 1) capk) (l++.node ab aav3 (aes++x::ces) abv2 (aks++cks)::r).length (ptrs (l++.node ab aav3 (aes++x::ces) abv2 (aks++cks)::r)):=by rw [hpl];exact ho7
 have T7:Trk w F w7 (y0s (.slice (some ⟨gk,offk,none⟩) (nk - 1) capk) (l++.node ab aav3 (aes++x::ces) abv2 (aks++cks)::r)::y0q ab aav3 abv2::y0s abv2 (aks++cks)::y0r aav3 (aes++x::ces)::y0q b av2 bv::y0r av2 (ea++eb)::y0q cb cav cbv::y0r cav ces::y0s cbv cks::(y0p aks++(y0p cks++(y0p l++y0p r)))):=HT6.out.ownTo (e:=(value_of% n2e)) (sz:=1) ho7' (by rw [HBV.out];exact hon7.mono fun i _ h=>by rw [h];rfl) (fun k hk=>by left;rw [HBV.out];exact hk)
 have T8:Trk w F w7 (y0q b av2 bv::y0s (.slice (some ⟨gk,offk,none⟩) (nk - 1) capk) (l++.node ab aav3 (aes++x::ces) abv2 (aks++cks)::r)::y0q ab aav3 abv2::y0s abv2 (aks++cks)::y0r aav3 (aes++x::ces)::y0r av2 (ea++eb)::y0q cb cav cbv::y0r cav ces::y0s cbv cks::(y0p aks++(y0p cks++(y0p l++y0p r)))):=T7.perm (perm_of_cnt fun a=>zR75)
 have kb7:Blk w7 b (value_of% n2t) [av2,bv]:=T8.blk zInm
 obtain ⟨x0,x1⟩:=pg_cells kb7
 have hfz:=kb7.frozen 1
 rw [HBV.out] at x1
 have HT8:=Lib.hid T8
 clear T7 T8 kb7 ho7 ho7' hon7 hs7 hpl hpp HDEL
 go_wp2_with fail
 go_end0
 have T9:Trk w F (w7.setCell ⟨b,1,none⟩ (.slice (some ⟨gk,offk,none⟩) (nk - 1) capk)) (y0q b av2 (.slice (some ⟨gk,offk,none⟩) (nk - 1) capk)::y0s (.slice (some ⟨gk,offk,none⟩) (nk - 1) capk) (l++.node ab aav3 (aes++x::ces) abv2 (aks++cks)::r)::y0q ab aav3 abv2::y0s abv2 (aks++cks)::y0r aav3 (aes++x::ces)::y0r av2 (ea++eb)::y0q cb cav cbv::y0r cav ces::y0s cbv cks::(y0p aks++(y0p cks++(y0p l++y0p r)))):=HT8.out.blkSet 1 (.slice (some ⟨gk,offk,none⟩) (nk - 1) capk)
 refine ⟨rfl,.node b av2 (ea++eb) (.slice (some ⟨gk,offk,none⟩) (nk - 1) capk) (l++.node ab aav3 (aes++x::ces) abv2 (aks++cks)::r),rfl,zhU6,?_⟩
 have hdrop:(y0q b av2 (.slice (some ⟨gk,offk,none⟩) (nk - 1) capk)::y0s (.slice (some ⟨gk,offk,none⟩) (nk - 1) capk) (l++.node ab aav3 (aes++x::ces) abv2 (aks++cks)::r)::y0q ab aav3 abv2::y0s abv2 (aks++cks)::y0r aav3 (aes++x::ces)::y0r av2 (ea++eb)::y0q cb cav cbv::y0r cav ces::y0s cbv cks::(y0p aks++(y0p cks++(y0p l++y0p r)))).Perm ([y0q cb cav cbv,y0r cav ces,y0s cbv cks]++y0o (.node b av2 (ea++eb) (.slice (some ⟨gk,offk,none⟩) (nk - 1) capk) (l++.node ab aav3 (aes++x::ces) abv2 (aks++cks)::r))):=perm_of_cnt fun a=>zR75
 exact (T9.perm hdrop).right
):P:=h
namespace TyS
theorem y18 (w:World) (b:Nat) (av bv:Value) (ea:List En) (x:En) (eb:List En) (l:List P) (ab:Nat) (aav:Value) (aes:List En) (abv:Value) (aks:List P) (cb:Nat) (cav:Value) (ces:List En) (cbv:Value) (cks r:List P)
 (hs:Sep w (y0o (.node b av (ea++x::eb) bv (l++.node ab aav aes abv aks::.node cb cav ces cbv cks::r)))) (hl:ea.length=l.length) (hn:(ea++x::eb).length≤1000000) (hkn:(l++.node ab aav aes abv aks::.node cb cav ces cbv cks::r).length≤1000000) (han:aes.length≤1000000) (hcn:ces.length≤1000000) (hakn:aks.length≤1000000) (hckn:cks.length≤1000000) :
 Calls Tryz.prog 200 #[ptrV b,.int .i64 (l.length:Int)] w fun e w'=>e=.returned (.tuple #[])∧∃ p',p'.blk=b∧p'.t=.node (ea++eb) (l.map P.t++.node (aes++x::ces) ((aks++cks).map P.t)::r.map P.t) ∧
  Trk w (feet (y0o (.node b av (ea++x::eb) bv (l++.node ab aav aes abv aks::.node cb cav ces cbv cks::r)))) w' (y0o p'):=z0Lz
end TyS
end Go.Proofs.YteggkjdlajgenaaGreatDoor
namespace Go.Afx
open Go Go.RowKit
theorem Fat.kids {m d:Nat} {es:List En} {ts:List T} (h:Fat m d (.node es ts)):(d=0→ts=[])∧(0 < d→ts.length=es.length+1∧∀ c∈ts,Fat 2 (d - 1) c)∧m≤es.length:=by
 cases d with
 | zero=>exact ⟨fun _=>h.2,fun h=>zTbe,h.1⟩
 | succ d=>exact ⟨fun h=>zTbe,fun _=>⟨h.2.1,h.2.2⟩,h.1⟩
theorem Fat.mk {m d:Nat} {es:List En} {ts:List T} (hm:m≤es.length) (h0:d=0→ts=[]) (h1:0 < d→ts.length=es.length+1∧∀ c∈ts,Fat 2 (d - 1) c):Fat m d (.node es ts):=by
 cases d with
 | zero=>exact ⟨hm,h0 rfl⟩
 | succ d=>exact ⟨hm,(h1 zTbe).1,(h1 zTbe).2⟩
theorem right_good {d:Nat} {aes ces ae:List En} {x y:En} {at_ ct ak tk:List T} (hae:aes=ae++[y]) (hat:at_=ak++tk) (htk:tk.length≤1) (hleaf:tk=[]→ak=[]) (ha:Fat 3 d (.node aes at_)) (hc:Fat 1 d (.node ces ct)) :
 Fat 2 d (.node ae ak)∧Fat 2 d (.node (x::ces) (tk++ct))∧(T.node ae ak).flat++y::(T.node (x::ces) (tk++ct)).flat=(T.node aes at_).flat++x::(T.node ces ct).flat:=by
 subst hae
 subst hat
 obtain ⟨a0,a1,a2⟩:=ha.kids
 obtain ⟨c0,c1,c2⟩:=hc.kids
 have hl:(ae++[y]).length=ae.length+1:=zPXO
 rcases tk with _|⟨t,tk⟩
 ·have:=hleaf rfl
  subst this
  rcases Nat.eq_zero_or_pos d with rfl|hd
  ·have:=c0 rfl
   subst this
   exact ⟨Fat.mk zTbe (fun _=>rfl) (fun h=>zTbe),Fat.mk zr2F (fun _=>rfl) (fun h=>zTbe),by simp [flat_leaf]⟩
  ·have:=(a1 hd).1;simp at this
 ·have:tk=[]:=by cases tk with
   | nil=>rfl
   | cons a b=>simp at htk
  subst this
  rcases Nat.eq_zero_or_pos d with rfl|hd
  ·have:=a0 rfl;simp at this
  ·obtain ⟨a3,a4⟩:=a1 hd
   obtain ⟨c3,c4⟩:=c1 hd
   have h1:ak.length=ae.length+1:=by simp at a3;omega
   refine ⟨Fat.mk zTbe (fun h=>zTbe) (fun _=>⟨h1,fun q hq=>a4 q (by simp [hq])⟩),Fat.mk zr2F (fun h=>zTbe) (fun _=>⟨zr2F,fun q hq=>?_⟩),?_⟩
   ·rcases List.mem_append.1 hq with hq|hq
    ·exact a4 q (List.mem_append_right _ hq)
    ·exact c4 q hq
   ·rw [flat_node,flat_node,flat_node,flat_node,flatL_snoc ae ak y t h1,List.cons_append,flatL_cons]
    simp
theorem left_good {d:Nat} {aes ces ce:List En} {x y:En} {at_ ct ck tk:List T} (hce:ces=y::ce) (hct:ct=tk++ck) (htk:tk.length≤1) (hleaf:tk=[]→ck=[]∧at_=[]) (ha:Fat 1 d (.node aes at_)) (hc:Fat 3 d (.node ces ct)) :
 Fat 2 d (.node (aes++[x]) (at_++tk))∧Fat 2 d (.node ce ck)∧(T.node (aes++[x]) (at_++tk)).flat++y::(T.node ce ck).flat=(T.node aes at_).flat++x::(T.node ces ct).flat:=by
 subst hce
 subst hct
 obtain ⟨a0,a1,a2⟩:=ha.kids
 obtain ⟨c0,c1,c2⟩:=hc.kids
 have hl:(y::ce).length=ce.length+1:=zPXO
 rcases tk with _|⟨t,tk⟩
 ·obtain ⟨h1,h2⟩:=hleaf rfl
  subst h1
  subst h2
  rcases Nat.eq_zero_or_pos d with rfl|hd
  ·exact ⟨Fat.mk zr2F (fun _=>rfl) (fun h=>zTbe),Fat.mk zTbe (fun _=>rfl) (fun h=>zTbe),by simp [flat_leaf]⟩
  ·have:=(a1 hd).1;simp at this
 ·have:tk=[]:=by cases tk with
   | nil=>rfl
   | cons a b=>simp at htk
  subst this
  rcases Nat.eq_zero_or_pos d with rfl|hd
  ·have:=c0 rfl;simp at this
  ·obtain ⟨a3,a4⟩:=a1 hd
   obtain ⟨c3,c4⟩:=c1 hd
   have h1:ck.length=ce.length+1:=by simp at c3;omega
   refine ⟨Fat.mk zr2F (fun h=>zTbe) (fun _=>⟨zr2F,fun q hq=>?_⟩),Fat.mk zTbe (fun h=>zTbe) (fun _=>⟨h1,fun q hq=>c4 q (by simp [hq])⟩),?_⟩
   ·rcases List.mem_append.1 hq with hq|hq
    ·exact a4 q hq
    ·exact c4 q (List.mem_append_left _ hq)
   ·rw [flat_node,flatL_snoc aes at_ x t a3,flat_node,flat_node,flat_node,List.singleton_append,flatL_cons]
    simp
theorem two_good {d:Nat} {ea eb:List En} {x y:En} {l r:List T} {a c a' c':T} (h:ea.length=l.length) (hk:(l++a::c::r).length=(ea++x::eb).length+1) (ha:Fat 2 d a') (hc:Fat 2 d c') (hF:∀ q∈l++r,Fat 2 d q) (hfl:a'.flat++y::c'.flat=a.flat++x::c.flat) :
 Fat ((ea++x::eb).length - 1) (d+1) (.node (ea++y::eb) (l++a'::c'::r))∧(T.node (ea++y::eb) (l++a'::c'::r)).flat=(T.node (ea++x::eb) (l++a::c::r)).flat:=by
 refine ⟨⟨zPXO,zlj9,fun q hq=>?_⟩,flat_same h hfl⟩
 rcases List.mem_append.1 hq with hq|hq
 ·exact hF q (List.mem_append_left _ hq)
 ·rcases List.mem_cons.1 hq with rfl|hq
  ·exact ha
  ·rcases List.mem_cons.1 hq with rfl|hq
   ·exact hc
   ·exact hF q (List.mem_append_right _ hq)
theorem one_good {d:Nat} {ea eb:List En} {x:En} {l r:List T} {a c t:T} (h:ea.length=l.length) (hk:(l++a::c::r).length=(ea++x::eb).length+1) (ht:Fat 2 d t) (hF:∀ q∈l++r,Fat 2 d q) (hfl:t.flat=a.flat++x::c.flat) :
 Fat ((ea++x::eb).length - 1) (d+1) (.node (ea++eb) (l++t::r))∧(T.node (ea++eb) (l++t::r)).flat=(T.node (ea++x::eb) (l++a::c::r)).flat:=by
 refine ⟨⟨by simp<;>omega,zlj9,fun q hq=>?_⟩,flat_one_of h hfl⟩
 rcases List.mem_append.1 hq with hq|hq
 ·exact hF q (List.mem_append_left _ hq)
 ·rcases List.mem_cons.1 hq with rfl|hq
  ·exact ht
  ·exact hF q (List.mem_append_right _ hq)
theorem P.mem_resL {pt et qt:TypeId} {q:P} {x:Res}:∀ {ks:List P},q∈ks→x∈q.res pt et qt→x∈P.resL pt et qt ks
 | k::ks,hq,hx=>by
  rw [P.resL_cons]
  rcases List.mem_cons.1 hq with rfl|hq
  ·exact List.mem_append_left _ hx
  ·exact List.mem_append_right _ (P.mem_resL hq hx)
theorem kid_cells {pt et qt:TypeId} {w:World} {ks:List P} (h:Sep w (P.resL pt et qt ks)) {q:P} (hq:q∈ks):∃ pq cq bv,Blk w q.blk pt [.slice pq q.es.length cq,bv]∧q.es.length≤cq∧cq≤9223372036854775807:=by
 obtain ⟨qb,qa,qes,qbv,qks,rfl⟩:=P.eta q
 have h1:Blk w qb pt [qa,qbv]:=h.all (Res.blk qb pt [qa,qbv]) (P.mem_resL hq (by rw [P.res_node];simp))
 have h2:Own w et 2 qa qes.length (enC qes):=h.all (Res.own et 2 qa qes.length (enC qes)) (P.mem_resL hq (by rw [P.res_node];simp))
 obtain ⟨p,c,rfl,h3,h4⟩:=(h2.sl (B:=fun _=>True) (fun _ _=>trivial)).form
 exact ⟨p,c,qbv,h1,h3,h4⟩
theorem P.es_t (q:P):q.t.es=q.es:=by
 cases q with
 | node b av es bv ks=>rw [P.t_node];rfl
theorem Fat.len {m d:Nat} {t:T} (h:Fat m d t):m≤t.es.length:=by
 cases t with
 | node es ts=>exact h.kids.2.2
theorem Fat.of_len {m m' d:Nat} {t:T} (h:Fat m d t) (hm:m'≤t.es.length):Fat m' d t:=by
 cases t with
 | node es ts =>
  obtain ⟨h0,h1,_⟩:=h.kids
  exact Fat.mk hm h0 h1
theorem mem_flatL {e:En}:∀ {es:List En} {ts:List T},e∈T.flatL es ts→e∈es∨∃ t∈ts,e∈t.flat
 | es,[],h=>by rw [flatL_nil] at h;exact .inl h
 | [],t::ts,h=>by
  rw [flatL_end] at h
  rcases List.mem_append.1 h with h|h
  ·exact .inr ⟨t,zPXO,h⟩
  ·rcases mem_flatL h with h|⟨q,hq,h⟩
   ·exact .inl h
   ·exact .inr ⟨q,by simp [hq],h⟩
 | x::es,t::ts,h=>by
  rw [flatL_cons] at h
  rcases List.mem_append.1 h with h|h
  ·exact .inr ⟨t,zPXO,h⟩
  ·rcases List.mem_cons.1 h with rfl|h
   ·exact .inl zPXO
   ·rcases mem_flatL h with h|⟨q,hq,h⟩
    ·exact .inl (by simp [h])
    ·exact .inr ⟨q,by simp [hq],h⟩
theorem es_flat_len (t:T):t.es.length≤t.flat.length:=by
 cases t with
 | node es ts=>rw [flat_node];exact (es_sublist es ts).length_le
theorem kid_flat_len {es:List En}:∀ {ts:List T} {t:T} (_:ts.length≤es.length+1) (_:t∈ts),t.flat.length≤(T.node es ts).flat.length:=by
 intro ts
 rw [show ∀ es:List En,(T.node es ts).flat=T.flatL es ts from fun es=>flat_node es ts]
 induction ts generalizing es with
 | nil=>intro t _ h;simp at h
 | cons a ts ih =>
  intro t hl ht
  cases es with
  | nil =>
   rw [flatL_end]
   have:ts=[]:=by simp at hl;exact List.eq_nil_of_length_eq_zero (by simpa using hl)
   subst this
   simp at ht
   subst ht
   simp
  | cons e es =>
   rw [flatL_cons]
   rcases List.mem_cons.1 ht with rfl|ht
   ·simp
   ·have:=ih (es:=es) (by simpa using hl) ht
    simp;omega
end Go.Afx
namespace Go.Proofs.YteggkjdlajgenaaGreatDoor
open Go.RowKit Go.Afx
theorem zEOg {P:Prop} (h:P:=by
 obtain ⟨ab,aav,aes,abv,aks,rfl⟩:=P.eta A
 obtain ⟨cb,cav,ces,cbv,cks,rfl⟩:=P.eta C
 have hll:l.length < es.length:=by simp at hk;omega
 obtain ⟨ea,x,eb,rfl,hel⟩:=z3Uo
 have hkm:=zaRk
 have hfa:=zv3W
 have hfc:=zJAL
 have hel1:=zEDK
 have hal1:=zcNR
 have hcl1:=zZUl
 rw [P.t_node] at ha hc
 have hak1:aks.length≤100000:=by
  exact zV0K
 have hck1:cks.length≤100000:=by
  exact zUee
 have hne:aes≠[]:=fun e=>by have:=ha.kids.2.2;rw [e] at this;simp at this
 have hkt:∃ ak tk,aks=ak++tk∧tk.length≤1∧(tk=[]→ak=[]):=by
  rcases List.eq_nil_or_concat aks with h|⟨ak,k,h⟩
  ·exact ⟨[],[],by simp [h],zPXO,fun _=>rfl⟩
  ·exact ⟨ak,[k],by rw [h,List.concat_eq_append],zPXO,fun h=>zhtf⟩
 obtain ⟨ak,tk,hak,htk,hleaf⟩:=hkt
 have hae:aes=aes.dropLast++[aes.getLast hne]:=(List.dropLast_concat_getLast hne).symm
 have hF2:∀ q∈l.map P.t++r.map P.t,Fat 2 d q:=fun q hq=>by
  exact zfkE
 have hk2:=z9DK
 have hmap:=zshi
 refine (y16 w b av bv ea x eb l ab aav aes abv aks cb cav ces cbv cks r hs hel zTbe zTbe zTbe zTbe zTbe zTbe aes.dropLast (aes.getLast hne) hae ak tk hak htk hleaf).mono ?_
 rintro e w' ⟨rfl,p',hb,ht,hT⟩
 obtain ⟨g1,g2,g3⟩:=right_good (d:=d) (x:=x) (ct:=cks.map P.t) (ces:=ces) hae (at_:=aks.map P.t) (ak:=ak.map P.t) (tk:=tk.map P.t) (by rw [hak,List.map_append]) (by rw [List.length_map];exact htk) (fun h=>by
  have:tk=[]:=zynw
  rw [hleaf this];rfl) ha hc
 rw [←List.map_append] at g2 g3
 exact zp5D
):P:=h
theorem zeNY {P:Prop} (h:P:=by
 obtain ⟨ab,aav,aes,abv,aks,rfl⟩:=P.eta A
 obtain ⟨cb,cav,ces,cbv,cks,rfl⟩:=P.eta C
 have hll:l.length < es.length:=by simp at hk;omega
 obtain ⟨ea,x,eb,rfl,hel⟩:=z3Uo
 have hkm:=zaRk
 have hfa:=zv3W
 have hfc:=zJAL
 have hel1:=zEDK
 have hal1:=zcNR
 have hcl1:=zZUl
 rw [P.t_node] at ha hc
 have hak1:aks.length≤100000:=by
  exact zV0K
 have hck1:cks.length≤100000:=by
  exact zUee
 have hne:ces≠[]:=fun e=>by have:=hc.kids.2.2;rw [e] at this;simp at this
 obtain ⟨y,ce,hce⟩:=List.exists_cons_of_ne_nil hne
 have hkt:∃ tk ck,cks=tk++ck∧tk.length≤1∧(tk=[]→ck=[]∧aks=[]):=by
  cases hq:cks with
  | nil =>
   refine ⟨[],[],rfl,zPXO,fun _=>⟨rfl,?_⟩⟩
   obtain ⟨a0,a1,_⟩:=ha.kids
   obtain ⟨c0,c1,_⟩:=hc.kids
   rcases Nat.eq_zero_or_pos d with h|h
   ·simpa using a0 h
   ·have:=(c1 h).1;rw [hq] at this;simp at this
  | cons k ck=>exact ⟨[k],ck,rfl,zPXO,fun h=>zhtf⟩
 obtain ⟨tk,ck,hck,htk,hleaf⟩:=hkt
 have hF2:∀ q∈l.map P.t++r.map P.t,Fat 2 d q:=fun q hq=>by
  exact zfkE
 have hk2:=z9DK
 have hmap:=zshi
 refine (y17 w b av bv ea x eb l ab aav aes abv aks cb cav ces cbv cks r hs hel zTbe zTbe zTbe zTbe zTbe zTbe ce y hce ck tk hck htk hleaf).mono ?_
 rintro e w' ⟨rfl,p',hb,ht,hT⟩
 obtain ⟨g1,g2,g3⟩:=left_good (d:=d) (x:=x) (at_:=aks.map P.t) (aes:=aes) hce (ct:=cks.map P.t) (ck:=ck.map P.t) (tk:=tk.map P.t) (by rw [hck,List.map_append]) (by rw [List.length_map];exact htk) (fun h=>by
  have:tk=[]:=zynw
  obtain ⟨h1,h2⟩:=hleaf this
  rw [h1,h2];exact ⟨rfl,rfl⟩) ha hc
 rw [←List.map_append] at g1 g3
 exact zp5D
):P:=h
theorem zI7H {P:Prop} (h:P:=by
 obtain ⟨ab,aav,aes,abv,aks,rfl⟩:=P.eta A
 obtain ⟨cb,cav,ces,cbv,cks,rfl⟩:=P.eta C
 have hll:l.length < es.length:=by simp at hk;omega
 obtain ⟨ea,x,eb,rfl,hel⟩:=z3Uo
 have hkm:=zaRk
 have hfa:=zv3W
 have hfc:=zJAL
 have hel1:=zEDK
 have hal1:=zcNR
 have hcl1:=zZUl
 rw [P.t_node] at ha hc
 have hak1:aks.length≤100000:=by
  exact zV0K
 have hck1:cks.length≤100000:=by
  exact zUee
 have hF2:∀ q∈l.map P.t++r.map P.t,Fat 2 d q:=fun q hq=>by
  exact zfkE
 have hk2:=z9DK
 have hmap:=zshi
 refine (y18 w b av bv ea x eb l ab aav aes abv aks cb cav ces cbv cks r hs hel zTbe zTbe zTbe zTbe zTbe zTbe).mono ?_
 rintro e w' ⟨rfl,p',hb,ht,hT⟩
 have g1:=(join_fat (x:=x) ha hc).weaken (m':=2) zTbe
 have g3:=join_flat (x:=x) (ha.weaken (m':=0) zTbe) (hc.weaken (m':=0) zTbe)
 rw [←List.map_append] at g1 g3
 obtain ⟨q1,q2⟩:=one_good (l:=l.map P.t) (r:=r.map P.t) (a:=T.node aes (aks.map P.t)) (c:=T.node ces (cks.map P.t)) (by rw [List.length_map];exact hel) hk2 g1 hF2 g3
 exact ⟨rfl,p',hb,by rw [ht];exact q1,by rw [ht,hmap];exact q2,hT⟩
):P:=h
theorem zSry {P:Prop} (h:P:=by
 have T0:=Trk.start hs
 have kb0:Blk w b (value_of% n2t) [av,bv]:=T0.blk (by rw [y0t];simp only [List.mem_cons,true_or,or_true])
 have ok:Own w (value_of% n2e) 1 bv (l++c::r).length (ptrs (l++c::r)):=T0.own (by rw [y0t];simp only [List.mem_cons,true_or,or_true])
 have hsk:Sep w (P.resL (value_of% n2t) (value_of% n1x) (value_of% n2e) (l++c::r)):=by
  rw [y0t] at hs
  exact hs.right (a:=[_,_,_])
 obtain ⟨gk,offk,capk,hbv,hgk,_⟩:=sl_ptr (k:=0) (ok.sl (B:=fun _=>True) (fun _ _=>trivial)) (by simp<;>omega)
 have HPT:Hid (∀ j q,(l++c::r)[j]?=some q→w.cell? ⟨gk,offk+j,none⟩=some (ptrV q.blk)):=fun j q hj=>by
  obtain ⟨h1,h2⟩:=List.getElem?_eq_some_iff.1 hj
  obtain ⟨g',o',c',hv',_,h3⟩:=sl_ptr (k:=j) (ok.sl (B:=fun _=>True) (fun _ _=>trivial)) h1
  rw [hbv] at hv'
  cases hv'
  rw [h2] at h3
  exact h3
 have HSK:=Lib.hid hsk
 obtain ⟨x0,x1⟩:=pg_cells kb0
 rw [hbv] at x1
 have hel1:=z6vj
 obtain ⟨nk,hnk⟩:∃ nk,(l++c::r).length=nk:=⟨_,rfl⟩
 rw [hnk] at x1
 have hnk2:nk=l.length+(r.length+1):=zunR
 have hnk3:nk≤100000:=zTbe
 have hnk4:2≤nk:=zTbe
 obtain ⟨pqc,cqc,bqc,kqc,_,_⟩:=kid_cells HSK.out (q:=c) zPXO
 have qc:=HPT.out (l.length) c zPXO
 have zc:=(pg_cells kqc).1
 unfold ptrV at qc
 clear kqc
 have hclen:=hc.len
 rw [P.es_t] at hclen
 have HHS:=Lib.hid hs
 have hcl1:c.es.length≤99999:=by
  have h1:=es_flat_len c.t
  exact zKGu
 have hlk:l.length < nk:=zTbe
 have HNK:=Lib.hid hnk
 unfold ptrV
 clear T0 kb0 ok hsk hbv hnk
 by_cases h2:2≤c.es.length
 ·have h2i:(2:Int)≤(c.es.length:Int):=by omega
  have HNK2:=Lib.hid hnk2
  clear hnk2
  go_enter q3b,q3c
  go_wp2
  go_end0
  refine ⟨rfl,.node b av es bv (l++c::r),rfl,?_,by rw [P.t_node],Trk.start HHS.out⟩
  rw [P.t_node]
  refine ⟨zTbe,by rw [List.length_map];exact hk,fun q hq=>?_⟩
  obtain ⟨p,hp,rfl⟩:=List.mem_map.1 hq
  rcases List.mem_append.1 hp with hp|hp
  ·exact hF p (List.mem_append_left _ hp)
  ·rcases List.mem_cons.1 hp with rfl|hp
   ·obtain ⟨cb,ca,ces,cbv,cks,rfl⟩:=P.eta p
    rw [P.t_node] at hc ⊢
    obtain ⟨c1,c2,c3⟩:=hc.kids
    exact Fat.mk h2 c1 c2
   ·exact hF p (List.mem_append_right _ hp)
 ·have h2i:¬ (2:Int)≤(c.es.length:Int):=by omega
  have HNK2:=Lib.hid hnk2
  clear hnk2
  rcases List.eq_nil_or_concat l with hl0|⟨l',a,hl0⟩
  ·subst hl0
   have qc:=HPT.out 0 c zPXO
   rw [Nat.add_zero] at qc
   unfold ptrV at qc
   cases r with
   | nil=>exact absurd HNK2.out zr2F
   | cons q r' =>
    have qq:=HPT.out 1 q zPXO
    unfold ptrV at qq
    obtain ⟨pqq,cqq,bqq,kqq,_,_⟩:=kid_cells HSK.out (q:=q) zPXO
    have zq:=(pg_cells kqq).1
    have hqf:Fat 2 d q.t:=hF q zPXO
    have hql1:q.es.length≤99999:=by
     exact zCP9
    have hnk5:(0:Int) < (nk:Int) - 1:=zTbe
    have hnk6:(1:Int) < (nk:Int):=zTbe
    have hnk7:1 < nk:=zTbe
    have hnk8:0 < nk:=zTbe
    clear kqq
    simp only [List.nil_append] at *
    by_cases h3:3≤q.es.length
    ·have h3i:(2:Int) < (q.es.length:Int):=by omega
     have HC:=Lib.hid (y1a d w b av bv es [] c q r' HHS.out hk (fun x hx=>hF x (by simp at hx ⊢;exact .inr hx)) hc (hqf.of_len (by rw [P.es_t];exact h3)) hfl)
     exact zSx3
    ·have h3i:¬ (2:Int) < (q.es.length:Int):=by omega
     have HC:=Lib.hid (y1b d w b av bv es [] c q r' HHS.out hk (fun x hx=>hF x (by simp at hx ⊢;exact .inr hx)) hc (hqf.weaken zTbe) hfl)
     exact zSx3
  ·rw [List.concat_eq_append] at hl0
   subst hl0
   have eKS:(l'++[a])++c::r=l'++a::c::r:=zPXO
   obtain ⟨i,hi⟩:∃ i,(l'++[a]).length=i:=⟨_,rfl⟩
   have hi0:i=l'.length+1:=by rw [←hi];simp
   rw [hi] at qc hlk ⊢
   have hHS2:Sep w (y0o (.node b av es bv (l'++a::c::r))):=by rw [←eKS];exact HHS.out
   have hk2:(l'++a::c::r).length=es.length+1:=by rw [←eKS];exact hk
   have hfl3:(T.node es ((l'++a::c::r).map P.t)).flat.length≤99999:=by rw [←eKS];exact hfl
   have qa:=HPT.out l'.length a zPXO
   unfold ptrV at qa
   obtain ⟨pqa,cqa,bqa,kqa,_,_⟩:=kid_cells HSK.out (q:=a) zPXO
   have za:=(pg_cells kqa).1
   have haf:Fat 2 d a.t:=hF a zPXO
   have hal1:a.es.length≤99999:=by
    have h1:=es_flat_len a.t
    exact zKGu
   have hi1:(i:Int) - 1=(l'.length:Int):=zTbe
   have hi2:(0:Int) < (i:Int):=zTbe
   have hi3:l'.length < nk:=zTbe
   have hi4:i≤100000:=zTbe
   have HI:=Lib.hid hi
   have HI0:=Lib.hid hi0
   have hi5:0 < i:=zTbe
   clear kqa hi hi0
   by_cases ha3:3≤a.es.length
   ·have h3i:(2:Int) < (a.es.length:Int):=by omega
    have HC:=Lib.hid (y19 d w b av bv es l' a c r hHS2 hk2 (fun x hx=>hF x z0xf) (haf.of_len (by rw [P.es_t];exact ha3)) hc hfl3)
    unfold ptrV at HC
    go_enter q3b,q3c
    go_wp2_with fail
    refine HC.out.mono ?_
    rintro e w' ⟨rfl,p',hb,hf,hfl2,hT⟩
    go_wp2
    go_end0
    exact ⟨rfl,p',hb,hf,by rw [eKS];exact hfl2,by rw [eKS];exact hT⟩
   ·have h3i:¬ (2:Int) < (a.es.length:Int):=by omega
    have HJ:=Lib.hid (y1b d w b av bv es l' a c r hHS2 hk2 (fun x hx=>hF x z0xf) (haf.weaken zTbe) hc hfl3)
    unfold ptrV at HJ
    cases r with
    | nil =>
     have hnk5:¬ (i:Int) < (nk:Int) - 1:=by have:=HNK2.out;have:=HI.out;simp at *;omega
     exact zKTB
    | cons q r' =>
     have hnk5:(i:Int) < (nk:Int) - 1:=by have:=HNK2.out;have:=HI.out;simp at *;omega
     have hnk6:(i:Int)+1 < (nk:Int):=zTbe
     have hnk7:i+1 < nk:=zTbe
     have htn:=z3OW
     have hi6:=zIOG
     have qq:=HPT.out (i+1) q (by
      have e1:i+1=(l'++[a]).length+1:=by rw [HI.out]
      rw [e1,List.getElem?_append_right zTbe]
      have:(l'++[a]).length+1 - (l'++[a]).length=1:=zTbe
      rw [this];rfl)
     unfold ptrV at qq
     obtain ⟨pqq,cqq,bqq,kqq,_,_⟩:=kid_cells HSK.out (q:=q) zPXO
     have zq:=(pg_cells kqq).1
     have hqf:Fat 2 d q.t:=hF q zPXO
     have hql1:q.es.length≤99999:=by
      exact zCP9
     clear kqq
     by_cases h3:3≤q.es.length
     ·have h3q:(2:Int) < (q.es.length:Int):=by omega
      have hc0:=y1a d w b av bv es (l'++[a]) c q r' HHS.out hk (fun x hx=>hF x (by simp at hx ⊢;rcases hx with h|h|h;exact .inl h;exact .inr (.inl h);exact .inr (.inr (.inr h)))) hc (hqf.of_len (by rw [P.es_t];exact h3)) hfl
      rw [HI.out] at hc0
      have HC:=Lib.hid hc0
      clear hc0
      exact zSx3
     ·have h3q:¬ (2:Int) < (q.es.length:Int):=by omega
      exact zKTB
):P:=h
namespace TyS
theorem y19 (d:Nat) (w:World) (b:Nat) (av bv:Value) (es:List En) (l:List P) (A C:P) (r:List P) (hs:Sep w (y0o (.node b av es bv (l++A::C::r)))) (hk:(l++A::C::r).length=es.length+1) (hF:∀ q∈l++r,Fat 2 d q.t) (ha:Fat 3 d A.t) (hc:Fat 1 d C.t)
 (hfl:(T.node es ((l++A::C::r).map P.t)).flat.length≤99999) :
 Calls Tryz.prog 198 #[ptrV b,.int .i64 (l.length:Int)] w fun e w'=>e=.returned (.tuple #[])∧∃ p',p'.blk=b∧Fat (es.length - 1) (d+1) p'.t∧p'.t.flat=(T.node es ((l++A::C::r).map P.t)).flat∧Trk w (feet (y0o (.node b av es bv (l++A::C::r)))) w' (y0o p'):=zEOg
theorem y1a (d:Nat) (w:World) (b:Nat) (av bv:Value) (es:List En) (l:List P) (A C:P) (r:List P) (hs:Sep w (y0o (.node b av es bv (l++A::C::r)))) (hk:(l++A::C::r).length=es.length+1) (hF:∀ q∈l++r,Fat 2 d q.t) (ha:Fat 1 d A.t) (hc:Fat 3 d C.t)
 (hfl:(T.node es ((l++A::C::r).map P.t)).flat.length≤99999) :
 Calls Tryz.prog 199 #[ptrV b,.int .i64 (l.length:Int)] w fun e w'=>e=.returned (.tuple #[])∧∃ p',p'.blk=b∧Fat (es.length - 1) (d+1) p'.t∧p'.t.flat=(T.node es ((l++A::C::r).map P.t)).flat∧Trk w (feet (y0o (.node b av es bv (l++A::C::r)))) w' (y0o p'):=zeNY
theorem y1b (d:Nat) (w:World) (b:Nat) (av bv:Value) (es:List En) (l:List P) (A C:P) (r:List P) (hs:Sep w (y0o (.node b av es bv (l++A::C::r)))) (hk:(l++A::C::r).length=es.length+1) (hF:∀ q∈l++r,Fat 2 d q.t) (ha:Fat 1 d A.t) (hc:Fat 1 d C.t)
 (hfl:(T.node es ((l++A::C::r).map P.t)).flat.length≤99999) :
 Calls Tryz.prog 200 #[ptrV b,.int .i64 (l.length:Int)] w fun e w'=>e=.returned (.tuple #[])∧∃ p',p'.blk=b∧Fat (es.length - 1) (d+1) p'.t∧p'.t.flat=(T.node es ((l++A::C::r).map P.t)).flat∧Trk w (feet (y0o (.node b av es bv (l++A::C::r)))) w' (y0o p'):=zI7H
theorem y1c (d:Nat) (w:World) (b:Nat) (av bv:Value) (es:List En) (l:List P) (c:P) (r:List P) (hs:Sep w (y0o (.node b av es bv (l++c::r)))) (hk:(l++c::r).length=es.length+1) (hes:1≤es.length) (hF:∀ q∈l++r,Fat 2 d q.t) (hc:Fat 1 d c.t)
 (hfl:(T.node es ((l++c::r).map P.t)).flat.length≤99999) :
 Calls Tryz.prog 179 #[ptrV b,.int .i64 (l.length:Int)] w fun e w'=>e=.returned (.tuple #[])∧∃ p',p'.blk=b∧Fat (es.length - 1) (d+1) p'.t∧p'.t.flat=(T.node es ((l++c::r).map P.t)).flat∧Trk w (feet (y0o (.node b av es bv (l++c::r)))) w' (y0o p'):=zSry
end TyS
theorem zVnS {P:Prop} (h:P:=by
 intro d
 induction d with
 | zero =>
  intro m w p x init hm hf hfl hn hs
  obtain ⟨b,av,es,bv,ks,rfl⟩:=P.eta p
  rw [P.t_node] at hf hfl hn
  have hk0:ks=[]:=zJtu
  subst hk0
  simp only [List.map_nil] at *
  rw [flat_leaf] at hfl hn
  subst hfl
  refine (y1f w b av bv init x hs (by simp at hn;omega)).mono ?_
  rintro e w' ⟨rfl,av',hT⟩
  refine ⟨rfl,.node b av' init bv [],rfl,?_,?_,hT⟩
  ·rw [P.t_node];exact ⟨by have:=hf.1;simp at this;omega,rfl⟩
  ·rw [P.t_node];exact flat_leaf _
 | succ d ih =>
  intro m w p x init hm hf hfl hn hs
  obtain ⟨b,av,es,bv,ks,rfl⟩:=P.eta p
  rw [P.t_node] at hf hfl hn
  obtain ⟨hf1,hf2,hf3⟩:=hf
  have hkl:=z673
  rcases List.eq_nil_or_concat ks with h|⟨kl,kc,h⟩
  ·rw [h] at hkl;simp at hkl
  ·rw [List.concat_eq_append] at h
   subst h
   have hlen:es.length=(kl.map P.t).length:=by simp at hkl ⊢;omega
   have hfc:Fat 2 d kc.t:=hf3 kc.t zPXO
   have h1:=flat_at es [] (kl.map P.t) kc.t [] hlen
   rw [List.append_nil,tl_nil,List.append_nil] at h1
   have h2:=z2gj
   rw [h2,h1] at hfl
   have hn2:kc.t.flat.length≤99999:=by rw [h2,h1] at hn;simp at hn;omega
   have hcne:kc.t.flat≠[]:=fun e=>by
    have h3:=es_flat_len kc.t
    have h4:=hfc.len
    rw [e,List.length_nil] at h3
    omega
   have hci:kc.t.flat=kc.t.flat.dropLast++[kc.t.flat.getLast hcne]:=(List.dropLast_concat_getLast hcne).symm
   have hx:kc.t.flat.getLast hcne=x∧init=wl es (kl.map P.t)++kc.t.flat.dropLast:=by
    rw [hci,←List.append_assoc] at hfl
    have h3:=List.append_inj' hfl rfl
    exact ⟨by simpa using h3.2,h3.1.symm⟩
   obtain ⟨hx1,hx2⟩:=hx
   rw [hx1] at hci
   have hxo:x.val.oneCell'=true:=y1d hs x (by rw [P.t_node,h2,h1,hci];simp)
   refine (y1g d w b av bv es kl kc x kc.t.flat.dropLast hs hkl zTbe (fun q hq=>hf3 q.t (by rw [List.mem_map];exact ⟨q,by simp [hq],rfl⟩)) hn hci hxo (fun w2 hs2=>?_)).mono ?_
   ·exact ih 2 w2 kc x kc.t.flat.dropLast zTbe hfc hci hn2 hs2
   ·rintro e w' ⟨rfl,p',hb,hf',hfl',hT⟩
    exact ⟨rfl,p',hb,hf'.weaken zTbe,by rw [hfl',hx2],hT⟩
):P:=h
end Go.Proofs.YteggkjdlajgenaaGreatDoor
namespace Go.Proofs.YteggkjdlajgenaaGreatDoor
open Go.RowKit Go.Afx
namespace TyS
mutual
theorem y1d:∀ {p:P} {w:World},Sep w (y0o p)→∀ e∈p.t.flat,e.val.oneCell'=true
 | .node b av es bv ks,w,h,e,he=>by
  rw [y0t] at h
  rw [P.t_node,flat_node] at he
  have ho:Own w 184 2 av es.length (enC es):=h.all (y0r av es) zInm
  exact z4eG
theorem y1e:∀ {ks:List P} {w:World},Sep w (y0p ks)→∀ q∈ks,∀ e∈q.t.flat,e.val.oneCell'=true
 | [],_,_,q,hq,_,_=>absurd hq zPXO
 | k::ks,w,h,q,hq,e,he=>by
  exact zcWO
end
theorem y1f (w:World) (b:Nat) (av bv:Value) (ae:List En) (x:En) (hs:Sep w (y0o (.node b av (ae++[x]) bv []))) (hn:ae.length≤99999) :
 Calls Tryz.prog 178 #[ptrV b] w fun e w'=>e=.returned (.agg #[.string (kb x.key),x.val])∧∃ av',Trk w (feet (y0o (.node b av (ae++[x]) bv []))) w' (y0o (.node b av' ae bv [])):=by
 have T0:=Trk.start hs
 generalize hF:feet (y0o (.node b av (ae++[x]) bv []))=F at *
 obtain ⟨w1,hw1⟩:∃ w1,w.alloc (.cells #[.string ⟨#[]⟩,(.string ⟨#[]⟩)] 184)=w1:=⟨_,rfl⟩
 have b1:=zppX
 have kz1:Blk w1 w.heap.size 184 [.string ⟨#[]⟩,(.string ⟨#[]⟩)]:=hw1▸Blk.new w _ _
 have T1:=T0.new (r:=Res.blk w.heap.size 184 [.string ⟨#[]⟩,(.string ⟨#[]⟩)]) kz1 zg6m zg6m b1
 have T1:Trk w F w1 ([y0q b av bv,y0r av (ae++[x])]++[y0s bv [],Res.blk w.heap.size 184 [.string ⟨#[]⟩,(.string ⟨#[]⟩)]]):=T1.perm (perm_of_cnt fun a=>zR75)
 have kb1:Blk w1 b 182 [av,bv]:=T1.blk zbCR
 have oa1:Own w1 184 2 av (ae++[x]).length (enC (ae++[x])):=T1.own zbCR
 have ok1:Own w1 172 1 bv ([]:List P).length (ptrs []):=T1.own z2oI
 have hxo:x.val.oneCell'=true:=by
  exact zofW
 obtain ⟨pk,ck,hbv,_,_⟩:=y0f ok1
 obtain ⟨pa,ca,hav,_,_⟩:=y06 oa1
 obtain ⟨na,hna⟩:∃ na,(ae++[x]).length=na:=⟨_,rfl⟩
 have hna1:(na:Int) - 1=(ae.length:Int):=by rw [←hna];simp
 have hna2:1≤na:=zTbe
 have hna3:na≤100000:=zTbe
 have hlf:Calls Tryz.prog 92 #[ptrV b] w1 fun e w'=>e=.returned (.bool true)∧w'=w1:=y0l w1 b _ av pk 0 ck (hbv▸kb1)
 have hrm:∀ w2,Sep w2 [y0q b av bv,y0r av (ae++[x])]→Calls Tryz.prog 177 #[.pointer (some ⟨b,0,none⟩),.int .i64 (ae.length:Int)] w2 fun e w'=>e=.returned (.agg #[.string (kb x.key),x.val])∧∃ av',Trk w2 (feet [y0q b av bv,y0r av (ae++[x])]) w' [y0q b av' bv,y0r av' ae]:=fun w2 hs=>by
  exact zjNL
 obtain ⟨x0,x1⟩:=pg_cells kb1
 rw [hav,hna] at x0
 have HLF:=Lib.hid hlf
 have HRM:=Lib.hid hrm
 have HT1:=Lib.hid T1
 have HXO:=Lib.hid hxo
 have hbl:=kb1.lt
 unfold ptrV at HLF ⊢
 clear T0 T1 b1 kz1 kb1 oa1 ok1 hlf hrm hs hF hbv hav hna hxo
 go_enter Tryz.func178,Tryz.ntmps178
 go_wp2_with fail
 refine HLF.out.mono ?_
 rintro e wq ⟨rfl,hq⟩
 subst hq
 go_wp2_with fail
 refine wp_region_lit_plan [] [(0,0),(1,0),(2,0),(3,0),(4,0),(5,0),(6,0),(7,1),(8,0),(9,0),(10,4),(11,4)] (fun _=>False) zyVB zyVB (fun c a d v w h=>zx0I) ?_
 go_wp2_with (first|(refine stp ?_))
 refine (HRM.out _ HT1.out.drew.sep.left).mono ?_
 rintro e w2 ⟨rfl,av',hT⟩
 have T2:=HT1.out.drew.call hT
 have T2:Trk w F w2 (Res.blk w.heap.size 184 [.string ⟨#[]⟩,(.string ⟨#[]⟩)]::y0o (.node b av' ae bv [])):=T2.perm (perm_of_cnt fun a=>zR75)
 have kz2:Blk w2 w.heap.size 184 [.string ⟨#[]⟩,(.string ⟨#[]⟩)]:=T2.blk List.mem_cons_self
 have z0:=kz2.cell 0
 have z1:=kz2.cell 1
 simp only [List.getElem?_cons_zero,List.getElem?_cons_succ] at z0 z1
 have hf0:=kz2.frozen 0
 have hf1:=kz2.frozen 1
 have hxo:=HXO.out
 have HT2:=Lib.hid T2
 clear hT T2 kz2 HRM HT1 x0 x1
 go_wp2_with (first|(refine stp ?_))
 have T3:=(HT2.out.blkSet 0 (.string (kb x.key))).blkSet 1 x.val
 have kz3:Blk ((w2.setCell ⟨w.heap.size,0,none⟩ (.string (kb x.key))).setCell ⟨w.heap.size,1,none⟩ x.val) w.heap.size 184 [.string (kb x.key),x.val]:=T3.blk List.mem_cons_self
 have m0:=kz3.cell 0
 have m1:=kz3.cell 1
 simp only [List.getElem?_cons_zero,List.getElem?_cons_succ] at m0 m1
 exact bodyPost_ret (v:=.agg #[.string (kb x.key),x.val]) (by simp [results,Tryz.results178,go_sem,m0,m1]) rfl ⟨rfl,av',T3.drop⟩
theorem y1g (d:Nat) (w:World) (b:Nat) (av bv:Value) (es:List En) (kl:List P) (kc:P) (x:En) (init:List En) (hs:Sep w (y0o (.node b av es bv (kl++[kc])))) (hk:(kl++[kc]).length=es.length+1) (hes:1≤es.length) (hF:∀ q∈kl,Fat 2 d q.t)
 (hfl:(T.node es ((kl++[kc]).map P.t)).flat.length≤99999) (hcf:kc.t.flat=init++[x]) (hxo:x.val.oneCell'=true)
 (hc:∀ w2,Sep w2 (y0o kc)→Calls Tryz.prog 178 #[ptrV kc.blk] w2 fun e w'=>e=.returned (.agg #[.string (kb x.key),x.val])∧∃ p',p'.blk=kc.blk∧Fat 1 d p'.t∧p'.t.flat=init∧Trk w2 (feet (y0o kc)) w' (y0o p')) :
 Calls Tryz.prog 178 #[ptrV b] w fun e w'=>e=.returned (.agg #[.string (kb x.key),x.val])∧∃ p',p'.blk=b∧Fat (es.length - 1) (d+1) p'.t∧p'.t.flat=wl es (kl.map P.t)++init ∧
  Trk w (feet (y0o (.node b av es bv (kl++[kc])))) w' (y0o p'):=by
 have T0:=Trk.start hs
 generalize hFF:feet (y0o (.node b av es bv (kl++[kc])))=F at *
 obtain ⟨w1,hw1⟩:∃ w1,w.alloc (.cells #[.string ⟨#[]⟩,(.string ⟨#[]⟩)] 184)=w1:=⟨_,rfl⟩
 have b1:=zppX
 have kz1:Blk w1 w.heap.size 184 [.string ⟨#[]⟩,(.string ⟨#[]⟩)]:=hw1▸Blk.new w _ _
 have T1:=T0.new (r:=Res.blk w.heap.size 184 [.string ⟨#[]⟩,(.string ⟨#[]⟩)]) kz1 zg6m zg6m b1
 have T1:Trk w F w1 (y0q b av bv::y0s bv (kl++[kc])::(y0o kc++(y0r av es::Res.blk w.heap.size 184 [.string ⟨#[]⟩,(.string ⟨#[]⟩)]::y0p kl))):=T1.perm (perm_of_cnt fun a=>zR75)
 have kb1:Blk w1 b 182 [av,bv]:=T1.blk zInm
 have ok1:Own w1 172 1 bv (kl++[kc]).length (ptrs (kl++[kc])):=T1.own zInm
 obtain ⟨gk,offk,capk,hbv,hgk,p0⟩:=sl_ptr (k:=kl.length) (ok1.sl (B:=fun _=>True) (fun _ _=>trivial)) zPXO
 have hcl:(kl++[kc])[kl.length]'(zPXO)=kc:=zPXO
 rw [hcl] at p0
 obtain ⟨nk,hnk⟩:∃ nk,(kl++[kc]).length=nk:=⟨_,rfl⟩
 rw [hnk] at hbv
 have hel1:=z6vj
 have hnk1:(nk:Int) - 1=(kl.length:Int):=zunR
 have hnk2:1≤nk:=zunR
 have hnk3:nk≤100000:=zTbe
 have hnk4:¬ nk=0:=zTbe
 have hnk5:kl.length < nk:=zTbe
 have hlf:=y0l w1 b _ av (some ⟨gk,offk,none⟩) nk capk (hbv▸kb1)
 rw [decide_eq_false hnk4] at hlf
 have hp1:(y0q b av bv::y0s bv (kl++[kc])::(y0o kc++(y0r av es::Res.blk w.heap.size 184 [.string ⟨#[]⟩,(.string ⟨#[]⟩)]::y0p kl))).Perm (y0o kc++(y0q b av bv::y0s bv (kl++[kc])::y0r av es::Res.blk w.heap.size 184 [.string ⟨#[]⟩,(.string ⟨#[]⟩)]::y0p kl)):=perm_of_cnt fun a=>zR75
 have HC:=Lib.hid (hc w1 (T1.sepOf hp1))
 obtain ⟨x0,x1⟩:=pg_cells kb1
 rw [hbv] at x1
 have HLF:=Lib.hid hlf
 have HT1:=Lib.hid T1
 have HP1:=Lib.hid hp1
 have hbl:=kb1.lt
 have HNK:=Lib.hid hnk
 have HBV:=Lib.hid hbv
 unfold ptrV at HLF HC p0 ⊢
 clear T0 T1 b1 kz1 kb1 ok1 hlf hc hs hFF hbv hcl hnk hp1
 go_enter Tryz.func178,Tryz.ntmps178
 go_wp2_with fail
 refine HLF.out.mono ?_
 rintro e wq ⟨rfl,hq⟩
 subst hq
 go_wp2_with fail
 refine HC.out.mono ?_
 rintro e w2 ⟨rfl,p',hpb,hpf,hpfl,hT⟩
 clear hw1 x0 x1 p0
 have T2:=HT1.out.use HP1.out hT
 obtain ⟨w3,hw3⟩:∃ w3,w2.alloc (.cells #[.string (kb x.key),x.val] 184)=w3:=⟨_,rfl⟩
 have b3:=zUeY
 have kx3:Blk w3 w2.heap.size 184 [.string (kb x.key),x.val]:=hw3▸Blk.new w2 _ _
 have T3:=T2.new (r:=Res.blk w2.heap.size 184 [.string (kb x.key),x.val]) kx3 zg6m zg6m b3
 obtain ⟨cb,cav,ces,cbv,cks,rfl⟩:=P.eta p'
 obtain rfl:cb=kc.blk:=hpb
 have T3:Trk w F w3 (y0o (.node b av es bv (kl++.node kc.blk cav ces cbv cks::[]))++[Res.blk w2.heap.size 184 [.string (kb x.key),x.val],Res.blk w.heap.size 184 [.string ⟨#[]⟩,(.string ⟨#[]⟩)]]):=T3.perm (perm_of_cnt fun a=>by
  have e1:ptrs (kl++.node kc.blk cav ces cbv cks::[])=ptrs (kl++[kc]):=zy6c
  have e2:(kl++P.node kc.blk cav ces cbv cks::[]).length=(kl++[kc]).length:=zPXO
  simp only [cnt_append,cnt_cons,cnt_nil,y0o,y0p,y0q,y0r,y0s,P.resL_append,P.resL_cons,P.resL_nil,P.res_node,e1,e2]<;>omega)
 have hkel:es.length=(kl.map P.t).length:=by
  have h2:(kl++[kc]).length=kl.length+1:=zPXO
  rw [List.length_map];omega
 have hcf2:(T.node es ((kl++P.node kc.blk cav ces cbv cks::[]).map P.t)).flat=wl es (kl.map P.t)++init:=by
  exact zQ3r
 have hmd:=y1c d w3 b av bv es kl (.node kc.blk cav ces cbv cks) [] T3.sep.left (by rw [←hk];simp) hes (fun q hq=>hF q (by simpa using hq)) hpf (by
  rw [hcf2]
  have h1:=flat_at es [] (kl.map P.t) kc.t [] hkel
  rw [List.append_nil,tl_nil,List.append_nil,hcf] at h1
  have h2:=z2gj
  rw [h2,h1] at hfl
  simp at hfl ⊢
  omega)
 have HMD:=Lib.hid hmd
 have HT3:=Lib.hid T3
 have HCF2:=Lib.hid hcf2
 unfold ptrV at HMD
 have hxl:w2.heap.size < w3.heap.size:=kx3.lt
 have HW3:=Lib.hid hw3
 clear hT T2 T3 b3 kx3 hpf hpfl hcf2 hmd HC HLF HP1 HT1
 go_wp2_with fail
 refine HMD.out.mono ?_
 clear hw3
 rintro e w4 ⟨rfl,p2,hb2,hf2,hfl2,hT2⟩
 have T4:=HT3.out.call hT2
 have T4:Trk w F w4 (Res.blk w.heap.size 184 [.string ⟨#[]⟩,(.string ⟨#[]⟩)]::Res.blk w2.heap.size 184 [.string (kb x.key),x.val]::y0o p2):=T4.perm (perm_of_cnt fun a=>zR75)
 have kz4:Blk w4 w.heap.size 184 [.string ⟨#[]⟩,(.string ⟨#[]⟩)]:=T4.blk List.mem_cons_self
 have kx4:Blk w4 w2.heap.size 184 [.string (kb x.key),x.val]:=T4.blk (List.mem_cons_of_mem _ List.mem_cons_self)
 have z0:=kz4.cell 0
 have z1:=kz4.cell 1
 have v0:=kx4.cell 0
 have v1:=kx4.cell 1
 simp only [List.getElem?_cons_zero,List.getElem?_cons_succ] at z0 z1 v0 v1
 have hf0:=kz4.frozen 0
 have hf1:=kz4.frozen 1
 have HT4:=Lib.hid T4
 have HB2:=Lib.hid hb2
 have HF2:=Lib.hid hf2
 have HFL2:=Lib.hid hfl2
 clear T4 kz4 kx4 hT2 HT3 HMD hb2 hf2 hfl2
 go_wp2
 have T5:=(HT4.out.blkSet 0 (.string (kb x.key))).blkSet 1 x.val
 have kz5:Blk ((w4.setCell ⟨w.heap.size,0,none⟩ (.string (kb x.key))).setCell ⟨w.heap.size,1,none⟩ x.val) w.heap.size 184 [.string (kb x.key),x.val]:=T5.blk List.mem_cons_self
 have m0:=kz5.cell 0
 have m1:=kz5.cell 1
 simp only [List.getElem?_cons_zero,List.getElem?_cons_succ] at m0 m1
 exact bodyPost_ret (v:=.agg #[.string (kb x.key),x.val]) (by simp [results,Tryz.results178,go_sem,m0,m1]) rfl ⟨rfl,p2,HB2.out,HF2.out,by rw [HFL2.out,HCF2.out],T5.drop.drop⟩
theorem y1h:∀ (d m:Nat) (w:World) (p:P) (x:En) (init:List En),1≤m→Fat m d p.t→p.t.flat=init++[x]→p.t.flat.length≤99999→Sep w (y0o p) →
 Calls Tryz.prog 178 #[ptrV p.blk] w fun e w'=>e=.returned (.agg #[.string (kb x.key),x.val])∧∃ p',p'.blk=p.blk∧Fat (m - 1) d p'.t∧p'.t.flat=init∧Trk w (feet (y0o p)) w' (y0o p'):=zVnS
end TyS
end Go.Proofs.YteggkjdlajgenaaGreatDoor
namespace Go.Proofs.YteggkjdlajgenaaGreatDoor
open Go.RowKit Go.Afx
theorem z42J {P:Prop} (h:P:=by
 unfold Instr.field
 simp only [Sem.run_bind,run_underlying q3d,Result.andThen_ok]
 simp [part,isAgg,asAgg,go_sem]
):P:=h
theorem zbju {P:Prop} (h:P:=by
 have T0:=Trk.start hs
 generalize hF:feet (y0o (.node b av es bv []))=F at *
 rw [y0t] at T0
 obtain ⟨hpl,hkey⟩:=has_at.1 hh
 have kb0:=zDoW
 have oa:Own w (value_of% n1x) 2 av es.length (enC es):=T0.own zInm
 have ok:Own w (value_of% n2e) 1 bv ([]:List P).length (ptrs []):=T0.own zInm
 obtain ⟨pk,ck,hbv,_,_⟩:=y0f ok
 have HFD:=Lib.hid (y0k w b _ av bv es k (fun _=>True) kb0 (oa.sl (B:=fun _=>True) (fun _ _=>trivial)) hr zTbe)
 rw [hh] at HFD
 have hx:=z2tu
 have HX:=Lib.hid hx
 have HRM:=Lib.hid (fun (w2:World) (h:Sep w2 [y0q b av bv,y0r av es])=>y0v w2 b (pos k es) av bv es h hpl zTbe)
 generalize es.take (pos k es)++es.drop (pos k es+1)=es2 at *
 generalize es[pos k es]=x at *
 generalize pos k es=i at *
 have HT0:=Lib.hid T0
 have HBV:=Lib.hid hbv
 have hbl:=kb0.lt
 unfold ptrV at HFD HRM ⊢
 clear T0 kb0 oa ok hkey hx hh hs hF hr hbv
 go_enter q3e,q3f
 go_wp2_with fail
 refine HFD.out.mono ?_
 clear HFD
 rintro e w2 ⟨rfl,hb2⟩
 have T2:Trk w F w2 ([y0q b av bv,y0r av es]++[y0s bv []]):=(HT0.out.below hb2).perm (perm_of_cnt fun a=>zR75)
 have kb2:Blk w2 b (value_of% n2t) [av,bv]:=T2.blk zbCR
 have HLF:=Lib.hid (y0l w2 b _ av pk 0 ck (HBV.out▸kb2))
 have HT2:=Lib.hid T2
 unfold ptrV at HLF
 clear T2 kb2 hb2
 go_wp2_with fail
 refine HLF.out.mono ?_
 rintro e wq ⟨rfl,hq⟩
 subst hq
 go_wp2_with fail
 refine HLF.out.mono ?_
 rintro e wq2 ⟨rfl,hq⟩
 subst hq
 go_wp2_with fail
 refine (HRM.out _ HT2.out.sep.left).mono ?_
 rintro e w3 ⟨rfl,av',hT⟩
 have T3:Trk w F w3 (y0o (.node b av' es2 bv [])):=(HT2.out.call hT).perm (perm_of_cnt fun a=>zR75)
 have HT3:=Lib.hid T3
 clear hT T3
 go_wp2
 exact bodyPost_ret (v:=.tuple #[x.val,.bool true]) (by simp [results,q3g,go_sem]) rfl ⟨x,HX.out,rfl,av',HT3.out⟩
):P:=h
theorem zjjp {P:Prop} (h:P:=by
 have T0:=Trk.start hs
 generalize hFF:feet (y0o (.node b av (ea++eb) bv (kl++kc::kr)))=F at *
 have T0:Trk w F w (y0q b av bv::y0r av (ea++eb)::y0s bv (kl++kc::kr)::(y0o kc++(y0p kl++y0p kr))):=T0.perm (perm_of_cnt fun a=>zR75)
 have kb0:=zDoW
 have oa:Own w (value_of% n1x) 2 av (ea++eb).length (enC (ea++eb)):=T0.own zInm
 have ok:=zUFh
 have HFD:=Lib.hid (y0k w b _ av bv (ea++eb) k (fun _=>True) kb0 (oa.sl (B:=fun _=>True) (fun _ _=>trivial)) hr zTbe)
 rw [hh,←hl] at HFD
 have HPT:=Lib.hid (fun (w2:World) (h:Own w2 (value_of% n2e) 1 bv (kl++kc::kr).length (ptrs (kl++kc::kr)))=>sl_ptr (k:=kl.length) (h.sl (B:=fun _=>True) (fun _ _=>trivial)) zPXO)
 have hcl:(kl++kc::kr)[kl.length]'(zPXO)=kc:=zPXO
 rw [hcl] at HPT
 obtain ⟨gk,offk,capk,hbv,hgk,p0⟩:=HPT.out w ok
 obtain ⟨nk,hnk⟩:=zqdF
 rw [hnk] at hbv
 have hlnk:kl.length < nk:=zunR
 have hnk0:¬ nk=0:=zTbe
 have HNK:=Lib.hid hnk
 have HBV:=Lib.hid hbv
 have HT0:=Lib.hid T0
 have hbl:=kb0.lt
 have HL:=Lib.hid hl
 clear T0 kb0 oa ok hh hs hFF hr hbv hcl p0 hnk hl
 unfold ptrV at HFD hc ⊢
 go_enter q3e,q3f
 go_wp2_with fail
 refine HFD.out.mono ?_
 clear HFD
 rintro e w2 ⟨rfl,hb2⟩
 have T2:=HT0.out.below hb2
 have kb2:=z872
 have ok2:=zWUf
 have hlf:=y0l w2 b _ av (some ⟨gk,offk,none⟩) nk capk (HBV.out▸kb2)
 rw [decide_eq_false hnk0] at hlf
 have HLF:=Lib.hid hlf
 unfold ptrV at HLF
 obtain ⟨g',off',cap',hv',hg2,p0⟩:=HPT.out w2 ok2
 rw [HBV.out,HNK.out] at hv'
 cases hv'
 obtain ⟨y0,y1⟩:=pg_cells kb2
 rw [HBV.out] at y1
 have hp2:(y0q b av bv::y0r av (ea++eb)::y0s bv (kl++kc::kr)::(y0o kc++(y0p kl++y0p kr))).Perm (y0o kc++(y0q b av bv::y0r av (ea++eb)::y0s bv (kl++kc::kr)::(y0p kl++y0p kr))):=perm_of_cnt fun a=>zR75
 have HC:=Lib.hid (hc w2 (T2.sepOf hp2))
 have HT2:=Lib.hid T2
 have HP2:=Lib.hid hp2
 unfold ptrV at p0
 clear T2 kb2 ok2 hlf hp2 hb2 hc
 go_wp2_with fail
 refine HLF.out.mono ?_
 rintro e wq ⟨rfl,hq⟩
 subst hq
 go_wp2_with fail
 refine HLF.out.mono ?_
 rintro e wq2 ⟨rfl,hq⟩
 subst hq
 go_wp2_with fail
 refine HC.out.mono ?_
 rintro e w3 ⟨rfl,p',hpb,hpf,hpfl,hT3⟩
 have T3:=HT2.out.use HP2.out hT3
 obtain ⟨cb,cav,ces,cbv,cks,rfl⟩:=P.eta p'
 obtain rfl:cb=kc.blk:=hpb
 have hptr:=zrjT
 have hlen:=z5vv
 have T3:Trk w F w3 (y0o (.node b av (ea++eb) bv (kl++.node kc.blk cav ces cbv cks::kr))):=T3.perm (perm_of_cnt fun a=>zfxX)
 have hff:(T.node (ea++eb) ((kl++P.node kc.blk cav ces cbv cks::kr).map P.t)).flat=wl ea (kl.map P.t)++(fl'++tl eb (kr.map P.t)):=by
  have h1:=flat_at ea eb (kl.map P.t) (P.node kc.blk cav ces cbv cks).t (kr.map P.t) (by rw [List.length_map];exact hal)
  rw [hpfl] at h1
  rw [List.map_append,List.map_cons]
  exact h1
 have hmd:=y1c d w3 b av bv (ea++eb) kl (.node kc.blk cav ces cbv cks) kr T3.sep (by rw [hlen];exact hk) hes hF hpf (by rw [hff];exact hfl)
 unfold ptrV at hmd
 have HMD:=Lib.hid hmd
 have HT3:=Lib.hid T3
 have HFF:=Lib.hid hff
 clear hT3 T3 hpf hpfl hff hmd HC HLF HT2 HP2 p0 y0 y1 hptr hlen HT0
 go_wp2_with fail
 refine HMD.out.mono ?_
 rintro e w4 ⟨rfl,p2,hb2,hf2,hfl2,hT2⟩
 have T4:=HT3.out.use (rest:=[]) (by rw [List.append_nil]) hT2
 rw [List.append_nil] at T4
 have HT4:=Lib.hid T4
 have HB2:=Lib.hid hb2
 have HF2:=Lib.hid hf2
 have HFL2:=Lib.hid hfl2
 clear T4 hT2 hb2 hf2 hfl2 HMD HT3
 go_wp2
 exact bodyPost_ret (v:=.tuple #[x,.bool y]) (by simp [results,q3g,go_sem]) rfl ⟨rfl,p2,HB2.out,HF2.out,by rw [HFL2.out,HFF.out],HT4.out⟩
):P:=h
theorem zGNV {P:Prop} (h:P:=by
 have T0:=Trk.start hs
 generalize hFF:feet (y0o (.node b av (ea++⟨k,v⟩::eb) bv (kl++kc::kr)))=F at *
 have T0:Trk w F w (y0q b av bv::y0r av (ea++⟨k,v⟩::eb)::y0s bv (kl++kc::kr)::(y0o kc++(y0p kl++y0p kr))):=T0.perm (perm_of_cnt fun a=>zR75)
 have kb0:=zDoW
 have oa:Own w (value_of% n1x) 2 av (ea++⟨k,v⟩::eb).length (enC (ea++⟨k,v⟩::eb)):=T0.own zInm
 have ok:=zUFh
 have HFD:=Lib.hid (y0k w b _ av bv (ea++⟨k,v⟩::eb) k (fun _=>True) kb0 (oa.sl (B:=fun _=>True) (fun _ _=>trivial)) hr zTbe)
 rw [hh,←hl] at HFD
 have HPT:=Lib.hid (fun (w2:World) (h:Own w2 (value_of% n2e) 1 bv (kl++kc::kr).length (ptrs (kl++kc::kr)))=>sl_ptr (k:=kl.length) (h.sl (B:=fun _=>True) (fun _ _=>trivial)) zPXO)
 have hcl:(kl++kc::kr)[kl.length]'(zPXO)=kc:=zPXO
 rw [hcl] at HPT
 obtain ⟨gk,offk,capk,hbv,hgk,p0⟩:=HPT.out w ok
 obtain ⟨nk,hnk⟩:=zqdF
 rw [hnk] at hbv
 have hlnk:kl.length < nk:=zunR
 have hnk0:¬ nk=0:=zTbe
 have HNK:=Lib.hid hnk
 have HBV:=Lib.hid hbv
 have HT0:=Lib.hid T0
 have hbl:=kb0.lt
 have HL:=Lib.hid hl
 obtain ⟨ne,hne⟩:∃ ne,(ea++⟨k,v⟩::eb).length=ne:=⟨_,rfl⟩
 have hle1:kl.length < ne:=by rw [←hne,←hal];simp
 have hex:(ea++⟨k,v⟩::eb)[kl.length]'(znrV)=⟨k,v⟩:=by
  have h1:(ea++⟨k,v⟩::eb)[kl.length]?=some ⟨k,v⟩:=by rw [←hal];simp
  have h2:kl.length < (ea++⟨k,v⟩::eb).length:=znrV
  rw [List.getElem?_eq_getElem h2] at h1
  exact Option.some.inj h1
 have HEX:Hid (∀ w2,Own w2 (value_of% n1x) 2 av (ea++⟨k,v⟩::eb).length (enC (ea++⟨k,v⟩::eb))→∃ g off cap,av=.slice (some ⟨g,off,none⟩) ne cap∧g < w2.heap.size∧w2.cell? ⟨g,off+kl.length*2,none⟩=some (.string (kb k))∧w2.cell? ⟨g,off+kl.length*2+1,none⟩=some v):=fun w2 h=>by
  have h2:=sl_en (k:=kl.length) (h.sl (B:=fun _=>True) (fun _ _=>trivial)) znrV
  rw [hex,hne] at h2
  exact h2
 obtain ⟨ge,offe,cape,hav,hge,_,_⟩:=HEX.out w oa
 have HAV:=Lib.hid hav
 have HNE:=Lib.hid hne
 have HAL:=Lib.hid hal
 have HXO:=Lib.hid hxo
 clear T0 kb0 oa ok hh hs hFF hr hbv hcl p0 hnk hl hav hne hal hxo hex
 unfold ptrV at HFD hc ⊢
 go_enter q3e,q3f
 go_wp2_with fail
 refine HFD.out.mono ?_
 clear HFD
 rintro e w2 ⟨rfl,hb2⟩
 have T2:=HT0.out.below hb2
 have kb2:=z872
 have ok2:=zWUf
 have oa2:Own w2 (value_of% n1x) 2 av (ea++⟨k,v⟩::eb).length (enC (ea++⟨k,v⟩::eb)):=T2.own zInm
 have hlf:=y0l w2 b _ av (some ⟨gk,offk,none⟩) nk capk (HBV.out▸kb2)
 rw [decide_eq_false hnk0] at hlf
 have HLF:=Lib.hid hlf
 unfold ptrV at HLF
 obtain ⟨g',off',cap',hv',hg2,p0⟩:=HPT.out w2 ok2
 rw [HBV.out,HNK.out] at hv'
 cases hv'
 obtain ⟨g',off',cap',hv',hg3,v0,v1⟩:=HEX.out w2 oa2
 rw [HAV.out] at hv'
 cases hv'
 obtain ⟨y0,y1⟩:=pg_cells kb2
 rw [HBV.out] at y1
 rw [HAV.out] at y0
 have T2:Trk w F w2.drew (y0o kc++(y0q b av bv::y0r av (ea++⟨k,v⟩::eb)::y0s bv (kl++kc::kr)::(y0p kl++y0p kr))):=T2.drew.perm (perm_of_cnt fun a=>zR75)
 have HC:=Lib.hid (hc w2.drew T2.sep.left)
 have HT2:=Lib.hid T2
 have HKB2:=Lib.hid kb2.drew
 unfold ptrV at p0
 clear T2 kb2 ok2 oa2 hlf hb2 hc
 go_wp2_with fail
 refine HLF.out.mono ?_
 rintro e wq ⟨rfl,hq⟩
 subst hq
 go_wp2_with fail
 refine HLF.out.mono ?_
 rintro e wq2 ⟨rfl,hq⟩
 subst hq
 go_wp2_with fail
 refine wp_region_lit_plan [] [(0,0),(1,0),(2,0),(3,0),(5,0),(6,0),(7,0),(8,0),(10,0),(4,2),(9,1),(11,0),(12,1),(13,3),(14,0),(15,4)] (fun q=>q=b) zyVB zyVB (fun c a d v w h=>zx0I) ?_
 go_wp2_with (first|(refine stp ?_))
 refine HC.out.mono ?_
 rintro e w3 ⟨rfl,p',hpb,hpf,hpfl,hT3⟩
 have T3:=HT2.out.call hT3
 obtain ⟨cb,cav,ces,cbv,cks,rfl⟩:=P.eta p'
 obtain rfl:cb=kc.blk:=hpb
 have hptr:=zrjT
 have hlen:=z5vv
 have T3:Trk w F w3 (y0r av (ea++⟨k,v⟩::eb)::y0q b av bv::y0s bv (kl++.node kc.blk cav ces cbv cks::kr)::y0p (kl++.node kc.blk cav ces cbv cks::kr)):=T3.perm (perm_of_cnt fun a=>zfxX)
 have kb3:Blk w3 b (value_of% n2t) [av,bv]:=T3.blk zInm
 have oa3:Own w3 (value_of% n1x) 2 av (ea++⟨k,v⟩::eb).length (enC (ea++⟨k,v⟩::eb)):=T3.own zInm
 have hag:=agree_blk HKB2.out kb3
 obtain ⟨g',off',cap',hv',hg4,v0,v1⟩:=HEX.out w3 oa3
 rw [HAV.out] at hv'
 cases hv'
 rw [HAV.out,HNE.out] at oa3
 have hf0:w3.frozen? ⟨ge,offe+kl.length*2,none⟩=false:=(oa3.cellAt (j:=kl.length*2) zTbe).2
 have hf1:w3.frozen? ⟨ge,offe+kl.length*2+1,none⟩=false:=by
  have h1:=(oa3.cellAt (j:=kl.length*2+1) zTbe).2
  rwa [←Nat.add_assoc] at h1
 have hxo:=HXO.out
 have HT3:=Lib.hid T3
 have HPF:=Lib.hid hpf
 have HPFL:=Lib.hid hpfl
 clear hT3 T3 oa3 hpf hpfl HC HLF HT2 HKB2 HT0
 go_upto_region 11 with (first|(refine stp ?_))
 have T4:Trk w F ((w3.setCell ⟨ge,offe+kl.length*2,none⟩ (.string (kb x.key))).setCell ⟨ge,offe+kl.length*2+1,none⟩ x.val) (y0r av (ea++x::eb)::y0q b av bv::y0s bv (kl++.node kc.blk cav ces cbv cks::kr)::y0p (kl++.node kc.blk cav ces cbv cks::kr)):=by
  have h:=HT3.out
  have e:(ea++⟨k,v⟩::eb).set kl.length x=ea++x::eb:=set_len HAL.out
  rw [←e]
  rw [HAV.out] at h ⊢
  exact h.setEn HNE.out.symm (by rw [HNE.out];exact hle1) x hxo
 generalize ((w3.setCell ⟨ge,offe+kl.length*2,none⟩ (.string (kb x.key))).setCell ⟨ge,offe+kl.length*2+1,none⟩ x.val)=w4 at *
 have T4:Trk w F w4 (y0o (.node b av (ea++x::eb) bv (kl++.node kc.blk cav ces cbv cks::kr))):=T4.perm (perm_of_cnt fun a=>zR75)
 have hff:(T.node (ea++x::eb) ((kl++P.node kc.blk cav ces cbv cks::kr).map P.t)).flat=wl ea (kl.map P.t)++(init++tl (x::eb) (kr.map P.t)):=by
  have h1:=flat_at ea (x::eb) (kl.map P.t) (P.node kc.blk cav ces cbv cks).t (kr.map P.t) (by rw [List.length_map];exact HAL.out)
  rw [HPFL.out] at h1
  rw [List.map_append,List.map_cons]
  exact h1
 have hesl:(ea++x::eb).length=(ea++⟨k,v⟩::eb).length:=zPXO
 have hmd:=y1c d w4 b av bv (ea++x::eb) kl (.node kc.blk cav ces cbv cks) kr T4.sep (by rw [hlen,hesl];exact hk) (by simp<;>omega) hF HPF.out (by rw [hff];exact hfl)
 rw [hesl] at hmd
 unfold ptrV at hmd
 have HMD:=Lib.hid hmd
 have HT4:=Lib.hid T4
 have HFF:=Lib.hid hff
 clear T4 hff hmd hag kb3 v0 v1 hf0 hf1 hxo HT3 hptr hlen hesl
 go_wp2_with fail
 refine HMD.out.mono ?_
 rintro e w5 ⟨rfl,p2,hb2,hf2,hfl2,hT2⟩
 have T5:=HT4.out.use (rest:=[]) (by rw [List.append_nil]) hT2
 rw [List.append_nil] at T5
 have HT5:=Lib.hid T5
 have HB2:=Lib.hid hb2
 have HF2:=Lib.hid hf2
 have HFL2:=Lib.hid hfl2
 clear T5 hT2 hb2 hf2 hfl2 HMD HT4
 go_wp2
 exact bodyPost_ret (v:=.tuple #[v,.bool true]) (by simp [results,q3g,go_sem]) rfl ⟨rfl,p2,HB2.out,HF2.out,by rw [HFL2.out,HFF.out],HT5.out⟩
):P:=h
namespace TyS
@[go_sem] theorem y1i (w:World) (s v:Value):(Instr.field 184 (.agg #[s,v]) 1).run Tryz.prog w=.ok v w:=z42J
theorem y1j (w:World) (b:Nat) (av bv:Value) (es:List En) (k:Key) (hs:Sep w (y0o (.node b av es bv []))) (hr:Rise es) (hn:es.length≤99999) (hh:has k es=false) :
 Calls Tryz.prog 160 #[ptrV b,.string (kb k)] w fun e w'=>e=.returned (.tuple #[(.string ⟨#[]⟩),.bool false])∧Trk w (feet (y0o (.node b av es bv []))) w' (y0o (.node b av es bv [])):=by
 have T0:=Trk.start hs
 generalize hF:feet (y0o (.node b av es bv []))=F at *
 rw [y0t] at T0
 have kb0:Blk w b 182 [av,bv]:=T0.blk zInm
 have oa:Own w 184 2 av es.length (enC es):=T0.own zInm
 have ok:Own w 172 1 bv ([]:List P).length (ptrs []):=T0.own zInm
 obtain ⟨pk,ck,hbv,_,_⟩:=y0f ok
 have HFD:=Lib.hid (y0k w b _ av bv es k (fun _=>True) kb0 (oa.sl (B:=fun _=>True) (fun _ _=>trivial)) hr zTbe)
 rw [hh] at HFD
 generalize pos k es=i at *
 have HT0:=Lib.hid T0
 have HBV:=Lib.hid hbv
 have hbl:=kb0.lt
 unfold ptrV at HFD ⊢
 clear T0 kb0 oa ok hh hs hF hr hbv
 go_enter Tryz.func160,Tryz.ntmps160
 go_wp2_with fail
 refine HFD.out.mono ?_
 clear HFD
 rintro e w2 ⟨rfl,hb2⟩
 have T2:=HT0.out.below hb2
 have kb2:Blk w2 b 182 [av,bv]:=T2.blk zInm
 have HLF:=Lib.hid (y0l w2 b _ av pk 0 ck (HBV.out▸kb2))
 have HT2:=Lib.hid T2
 unfold ptrV at HLF
 clear T2 kb2 hb2
 go_wp2_with fail
 refine HLF.out.mono ?_
 rintro e wq ⟨rfl,hq⟩
 subst hq
 go_wp2
 exact bodyPost_ret (v:=.tuple #[(.string ⟨#[]⟩),.bool false]) (by simp [results,Tryz.results160,go_sem]) rfl ⟨rfl,HT2.out⟩
theorem y1k (w:World) (b:Nat) (av bv:Value) (es:List En) (k:Key) (hs:Sep w (y0o (.node b av es bv []))) (hr:Rise es) (hn:es.length≤99999) (hh:has k es=true) :
 Calls Tryz.prog 160 #[ptrV b,.string (kb k)] w fun e w'=>∃ x,es[pos k es]?=some x∧e=.returned (.tuple #[x.val,.bool true])∧∃ av',Trk w (feet (y0o (.node b av es bv []))) w' (y0o (.node b av' (es.take (pos k es)++es.drop (pos k es+1)) bv [])):=zbju
theorem y1l (d:Nat) (w:World) (b:Nat) (av bv:Value) (ea eb:List En) (kl:List P) (kc:P) (kr:List P) (k:Key) (x:Value) (y:Bool) (fl':List En) (hs:Sep w (y0o (.node b av (ea++eb) bv (kl++kc::kr)))) (hr:Rise (ea++eb)) (hk:(kl++kc::kr).length=(ea++eb).length+1) (hes:1≤(ea++eb).length) (hF:∀ q∈kl++kr,Fat 2 d q.t)
 (hn:(ea++eb).length≤99999) (hh:has k (ea++eb)=false) (hl:kl.length=pos k (ea++eb)) (hal:ea.length=kl.length) (hfl:(wl ea (kl.map P.t)++(fl'++tl eb (kr.map P.t))).length≤99999)
 (hc:∀ w2,Sep w2 (y0o kc)→Calls Tryz.prog 160 #[ptrV kc.blk,.string (kb k)] w2 fun e w'=>e=.returned (.tuple #[x,.bool y])∧∃ p',p'.blk=kc.blk∧Fat 1 d p'.t∧p'.t.flat=fl'∧Trk w2 (feet (y0o kc)) w' (y0o p')) :
 Calls Tryz.prog 160 #[ptrV b,.string (kb k)] w fun e w'=>e=.returned (.tuple #[x,.bool y])∧∃ p',p'.blk=b∧Fat ((ea++eb).length - 1) (d+1) p'.t∧p'.t.flat=wl ea (kl.map P.t)++(fl'++tl eb (kr.map P.t)) ∧
  Trk w (feet (y0o (.node b av (ea++eb) bv (kl++kc::kr)))) w' (y0o p'):=zjjp
theorem y1m (d:Nat) (w:World) (b:Nat) (av bv:Value) (ea eb:List En) (kl:List P) (kc:P) (kr:List P) (k:Key) (v:Value) (x:En) (init:List En) (hs:Sep w (y0o (.node b av (ea++⟨k,v⟩::eb) bv (kl++kc::kr)))) (hr:Rise (ea++⟨k,v⟩::eb)) (hk:(kl++kc::kr).length=(ea++⟨k,v⟩::eb).length+1) (hF:∀ q∈kl++kr,Fat 2 d q.t)
 (hn:(ea++⟨k,v⟩::eb).length≤99999) (hh:has k (ea++⟨k,v⟩::eb)=true) (hl:kl.length=pos k (ea++⟨k,v⟩::eb)) (hal:ea.length=kl.length) (hxo:x.val.oneCell'=true) (hfl:(wl ea (kl.map P.t)++(init++tl (x::eb) (kr.map P.t))).length≤99999)
 (hc:∀ w2,Sep w2 (y0o kc)→Calls Tryz.prog 178 #[ptrV kc.blk] w2 fun e w'=>e=.returned (.agg #[.string (kb x.key),x.val])∧∃ p',p'.blk=kc.blk∧Fat 1 d p'.t∧p'.t.flat=init∧Trk w2 (feet (y0o kc)) w' (y0o p')) :
 Calls Tryz.prog 160 #[ptrV b,.string (kb k)] w fun e w'=>e=.returned (.tuple #[v,.bool true])∧∃ p',p'.blk=b∧Fat ((ea++⟨k,v⟩::eb).length - 1) (d+1) p'.t∧p'.t.flat=wl ea (kl.map P.t)++(init++tl (x::eb) (kr.map P.t)) ∧
  Trk w (feet (y0o (.node b av (ea++⟨k,v⟩::eb) bv (kl++kc::kr)))) w' (y0o p'):=zGNV
theorem y1n (k:Key):∀ (d m:Nat) (w:World) (p:P),(0 < d→1≤m)→Fat m d p.t→Rise p.t.flat→p.t.flat.length≤99999→Sep w (y0o p) →
 Calls Tryz.prog 160 #[ptrV p.blk,.string (kb k)] w fun e w'=>e=.returned (.tuple #[(Afx.look k p.t.flat).getD (.string ⟨#[]⟩),.bool (Afx.look k p.t.flat).isSome])∧∃ p',p'.blk=p.blk∧Fat (m - 1) d p'.t∧p'.t.flat=del k p.t.flat∧Trk w (feet (y0o p)) w' (y0o p'):=by
 intro d
 induction d with
 | zero =>
  exact z0be
 | succ d ih =>
  intro m w p hm hf hr hn hs
  obtain ⟨b,av,es,bv,ks,rfl⟩:=P.eta p
  rw [P.t_node] at hf hr hn ⊢
  obtain ⟨hf1,hf2,hf3⟩:=hf
  have hm1:=hm zTbe
  have hel:es.length≤99999:=Nat.le_trans (es_flat_len (.node es _)) hn
  have hkl:=z673
  obtain ⟨a,bb,l,c,r,hsp,hg⟩:=split_page (k:=k) hr hf2
  have hlk:=hsp.look
  have hdl:=hsp.del
  have hres:=hr.es
  have hpl:pos k es < ks.length:=zIJi
  have hcm:(ks[pos k es]).t=c:=by
   exact zxXA
  have hks:=ziwa
  have hkll:=zwlH
  generalize hkc:ks[pos k es]=kc at *
  generalize ks.take (pos k es)=kl at *
  generalize ks.drop (pos k es+1)=kr at *
  subst hks
  have hlr:kl.map P.t=l∧kr.map P.t=r:=by
   exact zPjL
  obtain ⟨hl1,hr1⟩:=hlr
  have hfl:=hsp.fl
  have hr2:Rise c.flat:=zkeD
  have hn2:c.flat.length≤99999:=zsK8
  have hfc:Fat 2 d c:=hf3 c zAzv
  have hFF:∀ q∈kl++kr,Fat 2 d q.t:=fun q hq=>hf3 q.t (by
   rw [List.mem_map]
   refine ⟨q,?_,rfl⟩
   rcases List.mem_append.1 hq with h|h
   ·exact List.mem_append_left _ h
   ·exact List.mem_append_right _ (List.mem_cons_of_mem _ h))
  have hes:=hsp.es_
  have hal:a.length=kl.length:=by rw [hkll];exact hsp.al
  cases hh:has k es
  ·have hdf:=hdl.2 hh
   have hdlen:(wl a (kl.map P.t)++(del k c.flat++tl bb (kr.map P.t))).length≤99999:=by
    rw [hl1,hr1,←hdf]
    exact Nat.le_trans (del_length k _) hn
   subst hes
   refine (y1l d w b av bv a bb kl kc kr k ((Afx.look k c.flat).getD (.string ⟨#[]⟩)) (Afx.look k c.flat).isSome (del k c.flat) hs hres hkl zTbe hFF hel hh hkll hal hdlen (fun w2 hs2=>?_)).mono ?_
   ·have h1:=ih 2 w2 kc (fun _=>zTbe) (hcm▸hfc) (hcm▸hr2) (hcm▸hn2) hs2
    rw [hcm] at h1
    exact h1
   ·rintro e w' ⟨rfl,p',hb',hf',ht',hT⟩
    rw [hlk.2 hh]
    exact ⟨rfl,p',hb',hf'.weaken zTbe,by rw [ht',hdf,hl1,hr1],hT⟩
  ·obtain ⟨v,rest,hd1,hd2,hd3⟩:=hdl.1 hh
   exact zBnQ
theorem y1o (w:World) (tb:Nat) (p:P) (d n:Nat) (k:Key) (hs:Sep w (y13 tb p n)) (hg:Afx.Good d p.t) (hn:n=p.t.flat.length) (hl:n≤99999) :
 Calls Tryz.prog 139 #[ptrV tb,.string (kb k)] w fun e w'=>e=.returned (.tuple #[(Afx.look k p.t.flat).getD (.string ⟨#[]⟩),.bool (Afx.look k p.t.flat).isSome])∧∃ d' p',Afx.Good d' p'.t∧p'.t.flat=del k p.t.flat ∧
  Trk w (feet (y13 tb p n)) w' (y13 tb p' (if (Afx.look k p.t.flat).isSome then n - 1 else n)):=by
 have T0:=Trk.start hs
 generalize hF:feet (y13 tb p n)=F at *
 have kt0:Blk w tb 174 [ptrV p.blk,.int .i64 (n:Int)]:=T0.blk zInm
 have HDROP:=Lib.hid (y1n k d (min 1 d) w p zTbe hg.fat hg.rise zTbe (hs.right (a:=[y12 tb p n])))
 obtain ⟨c0,c1⟩:=pg_cells kt0
 have hrd:=hg.rise.del (k:=k)
 have hyn:(Afx.look k p.t.flat).isSome=true→1≤n:=fun h=>by
  exact zh60
 have hdl:(del k p.t.flat).length≤99999:=Nat.le_trans (del_length k _) zTbe
 have HT0:=Lib.hid T0
 have HRD:=Lib.hid hrd
 generalize del k p.t.flat=fl' at *
 generalize hx:(Afx.look k p.t.flat).getD (.string ⟨#[]⟩)=x at *
 generalize hy:(Afx.look k p.t.flat).isSome=y at *
 have hnf:(n:Int)≤99999:=zTbe
 unfold ptrV at c0 HDROP ⊢
 have hm0:min 1 d - 1=0:=zTbe
 rw [hm0] at HDROP
 clear T0 kt0 hs hF hg hn hx hy hrd hm0
 go_enter Tryz.func139,Tryz.ntmps139
 go_wp2_with fail
 refine HDROP.out.mono ?_
 clear HDROP
 rintro e w2 ⟨rfl,p',hpb,hpf,hpfl,hT⟩
 have hp1:=zYhk
 have T2:=HT0.out.use hp1 hT
 obtain ⟨cb,cav,ces,cbv,cks,rfl⟩:=P.eta p'
 obtain rfl:cb=p.blk:=hpb
 rw [P.t_node] at hpf hpfl
 have T3:=zwy1
 have kt2:Blk w2 tb 174 [ptrV p.blk,.int .i64 (n:Int)]:=T3.blk zInm
 have hcel:ces.length≤99999:=by
  have h1:=es_flat_len (T.node ces (cks.map P.t))
  rw [hpfl] at h1
  exact Nat.le_trans h1 hdl
 obtain ⟨kd0,kd1,_⟩:=hpf.kids
 have hkn:cks.length≤100000:=by
  exact z2NX
 obtain ⟨x0,x1⟩:=pg_cells kt2
 unfold ptrV at x0
 have hf1:=kt2.frozen 1
 have HT3:=Lib.hid T3
 have HPF:=Lib.hid hpf
 have HPFL:=Lib.hid hpfl
 clear T2 T3 kt2 hp1 hT c0 c1 HT0 hpf hpfl
 cases y
 ·go_upto_region 7 with fail
  obtain ⟨n',hn'⟩:∃ n',n'=n:=⟨_,rfl⟩
  obtain ⟨wX,hwX⟩:∃ wX,wX=w2:=⟨_,rfl⟩
  have TX:Trk w F wX (Res.blk tb 174 [ptrV p.blk,.int .i64 (n':Int)]::y0q p.blk cav cbv::y0r cav ces::y0s cbv cks::y0p cks):=by rw [hwX,hn'];exact HT3.out
  rw [←hwX]
  have HN:=Lib.hid hn'
  clear hn' hwX
  have ktX:Blk wX tb 174 [ptrV p.blk,.int .i64 (n':Int)]:=TX.blk zInm
  have kpX:Blk wX p.blk 182 [cav,cbv]:=TX.blk zInm
  have oaX:Own wX 184 2 cav ces.length (enC ces):=TX.own zInm
  have okX:Own wX 172 1 cbv cks.length (ptrs cks):=TX.own zInm
  obtain ⟨pa,ca,hav,_,_⟩:=y06 oaX
  obtain ⟨pk,ck,hbv,_,_⟩:=y0f okX
  obtain ⟨x0,x1⟩:=pg_cells ktX
  obtain ⟨y0,y1⟩:=pg_cells kpX
  have hf0:=ktX.frozen 0
  rw [hav] at y0
  rw [hbv] at y1
  unfold ptrV at x0
  have hlf:=y0l wX p.blk _ cav pk cks.length ck (hbv▸kpX)
  unfold ptrV at hlf
  have HTX:=Lib.hid TX
  by_cases hc0:ces.length=0
  ·have hces:ces=[]:=List.eq_nil_of_length_eq_zero hc0
   have hc0i:=zWKw
   rcases cks with _|⟨k1,ks1⟩
   ·rw [show decide (([]:List P).length=0)=true from rfl] at hlf
    have HLF:=Lib.hid hlf
    have HCES:=Lib.hid hces
    have HBV:=Lib.hid hbv
    have HAV:=Lib.hid hav
    clear TX ktX kpX oaX okX hlf hces hbv hav
    go_wp2_with fail
    refine HLF.out.mono ?_
    rintro e wq ⟨rfl,hq⟩
    subst hq
    go_wp2
    refine bodyPost_ret (v:=.tuple #[x,.bool false]) zkS8 rfl ⟨rfl,d,.node p.blk cav ces cbv [],⟨?_,?_⟩,?_,?_⟩
    ·rw [P.t_node]
     rcases Nat.eq_zero_or_pos d with h|h
     ·subst h
      exact HPF.out.weaken zTbe
     ·have:=(kd1 h).1;simp at this
    ·rw [P.t_node,HPFL.out];exact HRD.out
    ·rw [P.t_node,HPFL.out]
    ·show Trk w F _ (y13 tb (.node p.blk cav ces cbv []) n)
     exact z94R
   ·rw [decide_eq_false zPXO] at hlf
    have hd:0 < d:=by
     exact zXmU
    have hk1:ks1=[]:=by
     exact zlJK
    subst hk1
    obtain ⟨gk,offk,capk,hbv2,hgk,p0⟩:=sl_ptr (k:=0) (okX.sl (B:=fun _=>True) (fun _ _=>trivial)) zPXO
    rw [hbv] at hbv2
    cases hbv2
    have p0:=z0Ni
    have HLF:=Lib.hid hlf
    have HCES:=Lib.hid hces
    have HBV:=Lib.hid hbv
    have HAV:=Lib.hid hav
    clear TX ktX kpX oaX okX hlf hces hbv hav
    go_wp2_with fail
    refine HLF.out.mono ?_
    rintro e wq ⟨rfl,hq⟩
    subst hq
    go_wp2
    have T9:=HTX.out.blkSet 0 (.pointer (some ⟨k1.blk,0,none⟩))
    refine bodyPost_ret (v:=.tuple #[x,.bool false]) zkS8 rfl ⟨rfl,d - 1,k1,⟨?_,?_⟩,?_,?_⟩
    ·exact ((kd1 hd).2 k1.t zPXO).weaken zTbe
    ·have h1:=HPFL.out
     exact zkxu
    ·have h1:=HPFL.out
     exact zcet
    ·show Trk w F _ (y13 tb k1 n)
     exact zmp4
  ·have hc0i:((ces.length:Int) == 0)=false:=by rw [beq_eq_false_iff_ne];omega
   have hc0j:¬ ((ces.length:Int)=0):=zTbe
   clear TX ktX kpX oaX okX hlf hbv hav
   go_wp2
   refine bodyPost_ret (v:=.tuple #[x,.bool false]) zkS8 rfl ⟨rfl,d,.node p.blk cav ces cbv cks,⟨?_,?_⟩,?_,?_⟩
   ·rw [P.t_node]
    exact z8CV
   ·rw [P.t_node,HPFL.out];exact HRD.out
   ·rw [P.t_node,HPFL.out]
   ·show Trk w F _ (y13 tb (.node p.blk cav ces cbv cks) n)
    exact z94R
 ·have hn1:=hyn rfl
  have hni:(1:Int)≤(n:Int):=zTbe
  have hcs:((n - 1:Nat):Int)=(n:Int) - 1:=zTbe
  go_upto_region 7 with fail
  have T4:=HT3.out.blkSet 1 (.int .i64 ((n:Int) - 1))
  obtain ⟨n',hn'⟩:∃ n',n'=n - 1:=⟨_,rfl⟩
  have TX:Trk w F (w2.setCell ⟨tb,1,none⟩ (.int .i64 ((n:Int) - 1))) (Res.blk tb 174 [ptrV p.blk,.int .i64 (n':Int)]::y0q p.blk cav cbv::y0r cav ces::y0s cbv cks::y0p cks):=by
   rw [hn',hcs];exact T4
  generalize (w2.setCell ⟨tb,1,none⟩ (.int .i64 ((n:Int) - 1)))=wX at *
  have HN:=Lib.hid hn'
  clear hn' T4 hcs
  have ktX:Blk wX tb 174 [ptrV p.blk,.int .i64 (n':Int)]:=TX.blk zInm
  have kpX:Blk wX p.blk 182 [cav,cbv]:=TX.blk zInm
  have oaX:Own wX 184 2 cav ces.length (enC ces):=TX.own zInm
  have okX:Own wX 172 1 cbv cks.length (ptrs cks):=TX.own zInm
  obtain ⟨pa,ca,hav,_,_⟩:=y06 oaX
  obtain ⟨pk,ck,hbv,_,_⟩:=y0f okX
  obtain ⟨x0,x1⟩:=pg_cells ktX
  obtain ⟨y0,y1⟩:=pg_cells kpX
  have hf0:=ktX.frozen 0
  rw [hav] at y0
  rw [hbv] at y1
  unfold ptrV at x0
  have hlf:=y0l wX p.blk _ cav pk cks.length ck (hbv▸kpX)
  unfold ptrV at hlf
  have HTX:=Lib.hid TX
  by_cases hc0:ces.length=0
  ·have hces:ces=[]:=List.eq_nil_of_length_eq_zero hc0
   have hc0i:=zWKw
   rcases cks with _|⟨k1,ks1⟩
   ·rw [show decide (([]:List P).length=0)=true from rfl] at hlf
    have HLF:=Lib.hid hlf
    have HCES:=Lib.hid hces
    have HBV:=Lib.hid hbv
    have HAV:=Lib.hid hav
    clear TX ktX kpX oaX okX hlf hces hbv hav
    go_wp2_with fail
    refine HLF.out.mono ?_
    rintro e wq ⟨rfl,hq⟩
    subst hq
    go_wp2
    refine bodyPost_ret (v:=.tuple #[x,.bool true]) zkS8 rfl ⟨rfl,d,.node p.blk cav ces cbv [],⟨?_,?_⟩,?_,?_⟩
    ·rw [P.t_node]
     rcases Nat.eq_zero_or_pos d with h|h
     ·subst h
      exact HPF.out.weaken zTbe
     ·have:=(kd1 h).1;simp at this
    ·rw [P.t_node,HPFL.out];exact HRD.out
    ·rw [P.t_node,HPFL.out]
    ·show Trk w F _ (y13 tb (.node p.blk cav ces cbv []) (n - 1))
     exact z94R
   ·rw [decide_eq_false zPXO] at hlf
    have hd:0 < d:=by
     exact zXmU
    have hk1:ks1=[]:=by
     exact zlJK
    subst hk1
    obtain ⟨gk,offk,capk,hbv2,hgk,p0⟩:=sl_ptr (k:=0) (okX.sl (B:=fun _=>True) (fun _ _=>trivial)) zPXO
    rw [hbv] at hbv2
    cases hbv2
    have p0:=z0Ni
    have HLF:=Lib.hid hlf
    have HCES:=Lib.hid hces
    have HBV:=Lib.hid hbv
    have HAV:=Lib.hid hav
    clear TX ktX kpX oaX okX hlf hces hbv hav
    go_wp2_with fail
    refine HLF.out.mono ?_
    rintro e wq ⟨rfl,hq⟩
    subst hq
    go_wp2
    have T9:=HTX.out.blkSet 0 (.pointer (some ⟨k1.blk,0,none⟩))
    refine bodyPost_ret (v:=.tuple #[x,.bool true]) zkS8 rfl ⟨rfl,d - 1,k1,⟨?_,?_⟩,?_,?_⟩
    ·exact ((kd1 hd).2 k1.t zPXO).weaken zTbe
    ·have h1:=HPFL.out
     exact zkxu
    ·have h1:=HPFL.out
     exact zcet
    ·show Trk w F _ (y13 tb k1 (n - 1))
     exact zmp4
  ·have hc0i:((ces.length:Int) == 0)=false:=by rw [beq_eq_false_iff_ne];omega
   have hc0j:¬ ((ces.length:Int)=0):=zTbe
   clear TX ktX kpX oaX okX hlf hbv hav
   go_wp2
   refine bodyPost_ret (v:=.tuple #[x,.bool true]) zkS8 rfl ⟨rfl,d,.node p.blk cav ces cbv cks,⟨?_,?_⟩,?_,?_⟩
   ·rw [P.t_node]
    exact z8CV
   ·rw [P.t_node,HPFL.out];exact HRD.out
   ·rw [P.t_node,HPFL.out]
   ·show Trk w F _ (y13 tb (.node p.blk cav ces cbv cks) (n - 1))
    exact z94R
end TyS
end Go.Proofs.YteggkjdlajgenaaGreatDoor
namespace Go.Afx
open Go Go.RowKit
theorem least_of {R:Nat→Prop}:∀ n,R n→∃ m,R m∧∀ j,R j→m≤j:=by
 intro n
 induction n using Nat.strongRecOn with
 | ind n ih =>
  intro h
  by_cases hq:∃ j,j < n∧R j
  ·obtain ⟨j,hj,hr⟩:=hq
   exact ih j hj hr
  ·exact ⟨n,h,fun j hj=>by
    rcases Nat.lt_or_ge j n with h1|h1
    ·exact absurd ⟨j,h1,hj⟩ hq
    ·exact h1⟩
open Classical in
noncomputable def gm (R:Nat→Prop):Nat:=if h:∃ m,R m∧∀ j,R j→m≤j then h.choose else 0
theorem gm_spec {R:Nat→Prop} (h:∃ n,R n):R (gm R):=by
 obtain ⟨n,hn⟩:=h
 have h2:=least_of n hn
 unfold gm
 rw [dif_pos h2]
 exact h2.choose_spec.1
theorem gm_le {R:Nat→Prop} {n:Nat} (h:R n):gm R≤n:=by
 have h2:=least_of n h
 unfold gm
 rw [dif_pos h2]
 exact h2.choose_spec.2 n h
theorem sep_kid {pt et qt:TypeId} {w:World} {ks:List P} (h:Sep w (P.resL pt et qt ks)) {q:P} (hq:q∈ks):Sep w (q.res pt et qt):=by
 obtain ⟨l,r,rfl⟩:=List.append_of_mem hq
 exact (h.perm (P.resL_at l q r)).left
theorem kid_rise {es:List En} {ts:List T} {t:T} (h:Rise (T.node es ts).flat) (hl:ts.length≤es.length+1) (ht:t∈ts):Rise t.flat:=by
 have key:∀ (ts:List T) (es:List En) (t:T),ts.length≤es.length+1→t∈ts→List.Sublist t.flat (T.flatL es ts):=by
  intro ts
  induction ts with
  | nil=>intro es t _ h;simp at h
  | cons a ts ih =>
   intro es t hl ht
   cases es with
   | nil =>
    rw [flatL_end]
    have:ts=[]:=List.eq_nil_of_length_eq_zero (by simpa using hl)
    subst this
    simp at ht
    subst ht
    exact List.sublist_append_left _ _
   | cons e es =>
    rw [flatL_cons]
    rcases List.mem_cons.1 ht with rfl|ht
    ·exact List.sublist_append_left _ _
    ·exact ((ih es t (by simpa using hl) ht).cons e).trans (List.sublist_append_right _ _)
 rw [flat_node] at h
 exact List.Pairwise.sublist (key ts es t hl ht) h
theorem last_ahead {es a b:List En} {k:Key} (he:es=a++b) (ha:a.length=pos k es):a.getLast?=if pos k es=0 then none else es[pos k es - 1]?:=by
 rcases List.eq_nil_or_concat a with h|⟨i,x,h⟩
 ·subst h
  have h0:pos k es=0:=ha.symm
  rw [if_pos h0];rfl
 ·rw [List.concat_eq_append] at h
  subst h
  have hl:pos k es=i.length+1:=by rw [←ha];simp
  rw [if_neg zTbe,hl,Nat.add_sub_cancel,he]
  simp
def BestAt (w:World) (v:Value):Option En→Prop
 | none=>v=.pointer none
 | some e=>∃ g o,v=.pointer (some ⟨g,o,none⟩)∧g < w.heap.size∧w.cell? ⟨g,o,none⟩=some (.string (kb e.key))∧w.cell? ⟨g,o+1,none⟩=some e.val
theorem BestAt.below {w w':World} {v:Value} {o:Option En} (h:BestAt w v o) (hb:Below w.heap.size w w'):BestAt w' v o:=by
 cases o with
 | none=>exact h
 | some e =>
  obtain ⟨g,o,h1,h2,h3,h4⟩:=h
  exact ⟨g,o,h1,Nat.lt_of_lt_of_le h2 hb.size,(hb.cell h2).trans h3,(hb.cell h2).trans h4⟩
def kidV:Option P→Value
 | some c=>ptrV c.blk
 | none=>.pointer none
theorem kidV_form (o:Option P):∃ a,kidV o=.pointer a:=by
 cases o with
 | none=>exact ⟨none,rfl⟩
 | some c=>exact ⟨_,rfl⟩
def headK:List En→ByteArray
 | []=>⟨#[]⟩
 | e::_=>kb e.key
def headV (zero:Value):List En→Value
 | []=>zero
 | e::_=>e.val
def toldV (zero:Value):Option En→Value
 | none=>.tuple #[.string ⟨#[]⟩,zero,.bool false]
 | some e=>.tuple #[.string (kb e.key),e.val,.bool true]
theorem toldV_head (zero:Value) (b:List En):toldV zero b.head?=.tuple #[.string (headK b),headV zero b,.bool (!b.isEmpty)]:=by
 cases b<;>rfl
end Go.Afx
namespace Go.Proofs.YteggkjdlajgenaaGreatDoor
open Go.RowKit Go.Afx
namespace TyS
theorem y1t (w:World) (v:Value) (o:Option En) (h:BestAt w v o):Calls Tryz.prog 116 #[v] w fun e w'=>e=.returned (toldV (.string ⟨#[]⟩) o)∧Below w.heap.size w w':=by
 cases o with
 | none =>
  obtain rfl:v=.pointer none:=h
  go_enter Tryz.func116,Tryz.ntmps116
  go_wp2
  exact bodyPost_ret (v:=.tuple #[.string ⟨#[]⟩,(.string ⟨#[]⟩),.bool false]) (by simp [results,Tryz.results116,go_sem]) rfl ⟨rfl,Below.refl _ _⟩
 | some e =>
  obtain ⟨g,o,rfl,h2,h3,h4⟩:=h
  unfold toldV
  simp only
  generalize e.key=ke at *
  generalize e.val=ve at *
  go_enter Tryz.func116,Tryz.ntmps116
  go_wp2
  refine wp_region_lit_plan [] [(0,0),(1,0),(2,0),(4,0),(5,0),(6,0),(3,1),(8,0),(7,1),(9,0),(10,0)] (fun _=>False) zyVB zyVB (fun c a d v w h=>zx0I) ?_
  go_wp2_with (first|(refine stp ?_))
  exact bodyPost_ret (v:=.tuple #[.string (kb ke),ve,.bool true]) (by simp [results,Tryz.results116,go_sem]) rfl ⟨rfl,(Below.refl _ _).drew⟩
def y1p (w:World) (lk:Option Value) (k:Key) (v:Value) (wr:World) (d:Nat):Prop :=
 ∃ q,v=ptrV q.blk∧Sep wr (y0o q)∧(∃ m,Fat m d q.t)∧Rise q.t.flat∧q.t.flat.length≤99999∧lk=Afx.look k q.t.flat∧Below w.heap.size w wr
theorem y1q (w:World) (tb:Nat) (p:P) (d n:Nat) (k:Key) (hs:Sep w (y13 tb p n)) (hg:Afx.Good d p.t) (hn:n=p.t.flat.length) (hl:n≤99999) :
 Calls Tryz.prog 63 #[ptrV tb,.string (kb k)] w fun e w'=>e=.returned (.tuple #[(Afx.look k p.t.flat).getD (.string ⟨#[]⟩),.bool (Afx.look k p.t.flat).isSome])∧Below w.heap.size w w':=by
 have kt0:Blk w tb 174 [ptrV p.blk,.int .i64 (n:Int)]:=hs.all (y12 tb p n) zPXO
 obtain ⟨c0,c1⟩:=pg_cells kt0
 obtain ⟨lk,hlk0⟩:∃ lk,Afx.look k p.t.flat=lk:=⟨_,rfl⟩
 rw [hlk0]
 have HST:=zfax
 unfold ptrV at c0 ⊢
 clear kt0 hs hg hn hl hlk0
 go_enter Tryz.func63,Tryz.ntmps63
 go_wp2
 go_loopw [7,8,9] (fun v i ok wr=>∃ d,y1p w lk k v wr d) (fun v _ _ wr=>gm (y1p w lk k v wr))
 case atStart=>exact ⟨d,HST.out⟩
 case round =>
  have hst:=gm_spec hrel
  obtain ⟨dd,hdd⟩:∃ dd,gm (y1p w lk k u7 wr)=dd:=⟨_,rfl⟩
  rw [hdd] at hst
  have HGM:=Lib.hid hdd
  clear hdd
  obtain ⟨q,rfl,hsq,⟨m,hf⟩,hr,hln,hlk,hb⟩:=hst
  obtain ⟨b,av,es,bv,ks,rfl⟩:=P.eta q
  rw [y0t] at hsq
  rw [P.t_node] at hf hr hln hlk
  have kb0:Blk wr b 182 [av,bv]:=hsq.all (y0q b av bv) zInm
  have oa:Own wr 184 2 av es.length (enC es):=hsq.all (y0r av es) zInm
  have ok:Own wr 172 1 bv ks.length (ptrs ks):=hsq.all (y0s bv ks) zInm
  have hel:=zTDp
  have hfd:=y0k wr b _ av bv es k (fun _=>True) kb0 (oa.sl (B:=fun _=>True) (fun _ _=>trivial)) hr.es zTbe
  have HKB:=Lib.hid kb0
  have HOA:=Lib.hid oa
  have HOK:=Lib.hid ok
  have HB:=Lib.hid hb
  have HSQ:=Lib.hid hsq
  have HLK:=Lib.hid hlk
  have hbl:=kb0.lt
  simp only [P.blk_node] at *
  unfold ptrV at hfd ⊢
  cases hh:has k es
  ·rw [hh] at hfd
   have HFD:=Lib.hid hfd
   rcases dd with _|dd
   ·have hk0:ks=[]:=by simpa using hf.2
    subst hk0
    have hlk2:lk=none:=by
     exact zajd
    subst hlk2
    obtain ⟨pk,ck,hbv,_,_⟩:=y0f ok
    have HLF:=Lib.hid (fun w2 (hb:Below wr.heap.size wr w2)=>y0l w2 b _ av pk 0 ck (hbv▸HKB.out.below hb))
    unfold ptrV at HLF
    generalize pos k es=i at *
    clear kb0 oa ok hfd hb hsq hlk hh hbv hr hf hrel
    go_wp2_with fail
    refine HFD.out.mono ?_
    rintro e w2 ⟨rfl,hb2⟩
    have HB2:=Lib.hid hb2
    clear hb2
    go_wp2_with fail
    refine (HLF.out w2 HB2.out).mono ?_
    rintro e wq ⟨rfl,hq⟩
    subst hq
    go_wp2
    exact bodyPost_ret (v:=.tuple #[(.string ⟨#[]⟩),.bool false]) zM8Z rfl ⟨rfl,HB.out.trans (HB2.out.mono HB.out.size)⟩
   ·obtain ⟨a,bb,l,c,r,hsp,hgc⟩:=split_page (k:=k) hr hf.2.1
    exact zkpe
  ·rw [hh] at hfd
   have HFD:=Lib.hid hfd
   obtain ⟨x,hx,hlx⟩:∃ x,es[pos k es]?=some x∧lk=some x.val:=by
    exact zADN
   subst hlx
   obtain ⟨hpl,hxe⟩:=List.getElem?_eq_some_iff.1 hx
   obtain ⟨g,off,cap,hav,hg,e0,e1⟩:=sl_en (oa.sl (B:=fun _=>True) (fun _ _=>trivial)) hpl
   rw [hxe] at e0 e1
   have HAV:=Lib.hid hav
   generalize pos k es=i at *
   obtain ⟨ne,hne⟩:∃ ne,es.length=ne:=⟨_,rfl⟩
   rw [hne] at hpl HAV
   clear kb0 oa ok hfd hb hsq hlk hh hav hr hf hrel hln hx hxe hne
   go_wp2_with fail
   refine HFD.out.mono ?_
   rintro e w2 ⟨rfl,hb2⟩
   have HB2:=Lib.hid hb2
   have f0:=(hb2.cell (p:=⟨g,off+i*2,none⟩) hg).trans e0
   have f1:=(hb2.cell (p:=⟨g,off+i*2+1,none⟩) hg).trans e1
   obtain ⟨y0,y1⟩:=pg_cells (HKB.out.below hb2)
   rw [HAV.out] at y0
   clear hb2 e0 e1
   go_wp2
   exact bodyPost_ret (v:=.tuple #[x.val,.bool true]) zM8Z rfl ⟨rfl,HB.out.trans (HB2.out.mono HB.out.size)⟩
end TyS
namespace TyV
@[go_sem] theorem y00 (w:World) (a:Option Addr) (n c:Nat):(binOp .eql 189 (.slice a n c) (.slice none 0 0)).run Tryz.prog w=.ok (.bool a.isNone) w:=Lib.run_eql_slice_nil w _ _ a n c 0 0 Tryz.underlying189
theorem y01:Elem Tryz.prog 189 196 2 40 (.agg #[.string ⟨#[]⟩,.slice none 0 0]) :=
 ⟨Tryz.underlying189,zyVB,rfl,zTbe,zk9O⟩
theorem y02 (w:World) (B:Nat→Prop) (v:Value) (n:Nat) (cs:List Value) (h:Sl w B 2 v n cs) (hn:n≤1000000000) :
 Calls Tryz.prog 164 #[v] w fun e w'=>∃ v',e=.returned v'∧Own w' 196 2 v' n cs∧Below w.heap.size w w'∧(∀ k,v'.ownBlock=some k→w.heap.size≤k):=z40T
theorem y03 (w:World) (g off cap n i:Nat) (cs:List Value) (h:Own w 196 2 (.slice (some ⟨g,off,none⟩) n cap) n cs) (hn:n≤1000000000) (hi:i < n) :
 Calls Tryz.prog 193 #[.slice (some ⟨g,off,none⟩) n cap,.int .i64 i,.int .i64 ((i:Int)+1)] w fun e w' =>
  e=.returned (.slice (some ⟨g,off,none⟩) (n - 1) cap)∧Own w' 196 2 (.slice (some ⟨g,off,none⟩) (n - 1) cap) (n - 1) (cs.take (i*2)++cs.drop ((i+1)*2))∧Only (fun k=>k=g) w w'∧w'.heap.size=w.heap.size:=zE1n
theorem y04 (w:World) (a k:Key) (v:Value) :
 Calls Tryz.prog 129 #[.agg #[.string (kb a),v],.string (kb k)] w fun e w'=>e=.returned (.int .i64 (cmpK a k))∧Below w.heap.size w w':=zx07
theorem y05 (w:World) (B:Nat→Prop) (v:Value) (l:List En) (k:Key) (h:Sl w B 2 v l.length (enC l)) (hr:Rise l) (hn:l.length≤1000000000) :
 Calls Tryz.prog 128 #[v,.string (kb k),.func (.func 129) #[] #[]] w fun e w'=>e=.returned (.tuple #[.int .i64 (pos k l:Nat),.bool (has k l)])∧Below w.heap.size w w':=z81I
theorem y06 {w:World} {e:TypeId} {sz:Nat} {v:Value} {n:Nat} {cs:List Value} (h:Own w e sz v n cs):∃ p cap,v=.slice p n cap∧n≤cap∧cap≤9223372036854775807 :=
 (h.sl (B:=fun _=>True) (fun _ _=>trivial)).form
theorem y07 (w:World) (v:Value) (n:Nat) (cs news:List Value) (xb:Nat) (h:Own w 196 2 v n cs) (hx:Blk w xb 196 news) (hnl:news.length=2) (hno:Ones news) (hn:n≤1000000000) :
 Calls Tryz.prog 183 #[v,.int .i64 (n:Int),.slice (some ⟨xb,0,none⟩) 1 1] w fun e w'=>∃ v',e=.returned v'∧Own w' 196 2 v' (n+1) (cs++news) ∧
  Only (fun k=>v.ownBlock=some k) w w'∧(∀ k,v'.ownBlock=some k→v.ownBlock=some k∨w.heap.size≤k):=zoFo
theorem y08 (w:World) (g off cap n i:Nat) (cs news:List Value) (xb:Nat) (h:Own w 196 2 (.slice (some ⟨g,off,none⟩) n cap) n cs) (hx:Blk w xb 196 news) (hnl:news.length=2) (hno:Ones news) (hxb:g≠xb) (hi:i < n) (hroom:n+1≤cap) (hn:n≤1000000000) :
 Calls Tryz.prog 183 #[.slice (some ⟨g,off,none⟩) n cap,.int .i64 (i:Int),.slice (some ⟨xb,0,none⟩) 1 1] w fun e w'=>e=.returned (.slice (some ⟨g,off,none⟩) (n+1) cap) ∧
  Own w' 196 2 (.slice (some ⟨g,off,none⟩) (n+1) cap) (n+1) (cs.take (i*2)++(news++cs.drop (i*2)))∧Only (fun k=>k=g) w w':=zv0p
theorem y09 (w:World) (g off cap n i:Nat) (cs news:List Value) (xb:Nat) (h:Own w 196 2 (.slice (some ⟨g,off,none⟩) n cap) n cs) (hx:Blk w xb 196 news) (hnl:news.length=2) (hno:Ones news) (hi:i < n) (hroom:cap < n+1) (hn:n≤1000000000) :
 Calls Tryz.prog 183 #[.slice (some ⟨g,off,none⟩) n cap,.int .i64 (i:Int),.slice (some ⟨xb,0,none⟩) 1 1] w fun e w'=>∃ c,e=.returned (.slice (some ⟨w.heap.size,0,none⟩) (n+1) c) ∧
  Own w' 196 2 (.slice (some ⟨w.heap.size,0,none⟩) (n+1) c) (n+1) (cs.take (i*2)++(news++cs.drop (i*2)))∧Below w.heap.size w w':=zVm6
theorem y0a (w:World) (v:Value) (n i:Nat) (cs news:List Value) (xb:Nat) (h:Own w 196 2 v n cs) (hx:Blk w xb 196 news) (hnl:news.length=2) (hno:Ones news) (hxb:v.ownBlock≠some xb) (hi:i≤n) (hn:n≤1000000000) :
 Calls Tryz.prog 183 #[v,.int .i64 (i:Int),.slice (some ⟨xb,0,none⟩) 1 1] w fun e w'=>∃ v',e=.returned v'∧Own w' 196 2 v' (n+1) (cs.take (i*2)++(news++cs.drop (i*2))) ∧
  Only (fun k=>v.ownBlock=some k) w w'∧(∀ k,v'.ownBlock=some k→v.ownBlock=some k∨w.heap.size≤k):=zXNN
@[go_sem] theorem y0b (w:World) (a:Option Addr) (n c:Nat):(binOp .eql 192 (.slice a n c) (.slice none 0 0)).run Tryz.prog w=.ok (.bool a.isNone) w:=Lib.run_eql_slice_nil w _ _ a n c 0 0 Tryz.underlying192
theorem y0c:Elem Tryz.prog 192 185 1 8 (.pointer none) :=
 ⟨Tryz.underlying192,zyVB,rfl,zTbe,zk9O⟩
theorem y0d (w:World) (B:Nat→Prop) (v:Value) (n:Nat) (cs:List Value) (h:Sl w B 1 v n cs) (hn:n≤1000000000) :
 Calls Tryz.prog 165 #[v] w fun e w'=>∃ v',e=.returned v'∧Own w' 185 1 v' n cs∧Below w.heap.size w w'∧(∀ k,v'.ownBlock=some k→w.heap.size≤k):=zTot
theorem y0e (w:World) (g off cap n i:Nat) (cs:List Value) (h:Own w 185 1 (.slice (some ⟨g,off,none⟩) n cap) n cs) (hn:n≤1000000000) (hi:i < n) :
 Calls Tryz.prog 210 #[.slice (some ⟨g,off,none⟩) n cap,.int .i64 i,.int .i64 ((i:Int)+1)] w fun e w' =>
  e=.returned (.slice (some ⟨g,off,none⟩) (n - 1) cap)∧Own w' 185 1 (.slice (some ⟨g,off,none⟩) (n - 1) cap) (n - 1) (cs.take (i*1)++cs.drop ((i+1)*1))∧Only (fun k=>k=g) w w'∧w'.heap.size=w.heap.size:=zWmO
theorem y0f {w:World} {e:TypeId} {sz:Nat} {v:Value} {n:Nat} {cs:List Value} (h:Own w e sz v n cs):∃ p cap,v=.slice p n cap∧n≤cap∧cap≤9223372036854775807 :=
 (h.sl (B:=fun _=>True) (fun _ _=>trivial)).form
theorem y0g (w:World) (v:Value) (n:Nat) (cs news:List Value) (xb:Nat) (h:Own w 185 1 v n cs) (hx:Blk w xb 185 news) (hnl:news.length=1) (hno:Ones news) (hn:n≤1000000000) :
 Calls Tryz.prog 166 #[v,.int .i64 (n:Int),.slice (some ⟨xb,0,none⟩) 1 1] w fun e w'=>∃ v',e=.returned v'∧Own w' 185 1 v' (n+1) (cs++news) ∧
  Only (fun k=>v.ownBlock=some k) w w'∧(∀ k,v'.ownBlock=some k→v.ownBlock=some k∨w.heap.size≤k):=zY6R
theorem y0h (w:World) (g off cap n i:Nat) (cs news:List Value) (xb:Nat) (h:Own w 185 1 (.slice (some ⟨g,off,none⟩) n cap) n cs) (hx:Blk w xb 185 news) (hnl:news.length=1) (hno:Ones news) (hxb:g≠xb) (hi:i < n) (hroom:n+1≤cap) (hn:n≤1000000000) :
 Calls Tryz.prog 166 #[.slice (some ⟨g,off,none⟩) n cap,.int .i64 (i:Int),.slice (some ⟨xb,0,none⟩) 1 1] w fun e w'=>e=.returned (.slice (some ⟨g,off,none⟩) (n+1) cap) ∧
  Own w' 185 1 (.slice (some ⟨g,off,none⟩) (n+1) cap) (n+1) (cs.take (i)++(news++cs.drop (i)))∧Only (fun k=>k=g) w w':=zTYm
theorem y0i (w:World) (g off cap n i:Nat) (cs news:List Value) (xb:Nat) (h:Own w 185 1 (.slice (some ⟨g,off,none⟩) n cap) n cs) (hx:Blk w xb 185 news) (hnl:news.length=1) (hno:Ones news) (hi:i < n) (hroom:cap < n+1) (hn:n≤1000000000) :
 Calls Tryz.prog 166 #[.slice (some ⟨g,off,none⟩) n cap,.int .i64 (i:Int),.slice (some ⟨xb,0,none⟩) 1 1] w fun e w'=>∃ c,e=.returned (.slice (some ⟨w.heap.size,0,none⟩) (n+1) c) ∧
  Own w' 185 1 (.slice (some ⟨w.heap.size,0,none⟩) (n+1) c) (n+1) (cs.take (i)++(news++cs.drop (i)))∧Below w.heap.size w w':=zrm5
theorem y0j (w:World) (v:Value) (n i:Nat) (cs news:List Value) (xb:Nat) (h:Own w 185 1 v n cs) (hx:Blk w xb 185 news) (hnl:news.length=1) (hno:Ones news) (hxb:v.ownBlock≠some xb) (hi:i≤n) (hn:n≤1000000000) :
 Calls Tryz.prog 166 #[v,.int .i64 (i:Int),.slice (some ⟨xb,0,none⟩) 1 1] w fun e w'=>∃ v',e=.returned v'∧Own w' 185 1 v' (n+1) (cs.take (i)++(news++cs.drop (i))) ∧
  Only (fun k=>v.ownBlock=some k) w w'∧(∀ k,v'.ownBlock=some k→v.ownBlock=some k∨w.heap.size≤k):=zaE4
theorem y0k (w:World) (b:Nat) (t:TypeId) (av bv:Value) (l:List En) (k:Key) (B:Nat→Prop) (hb:Blk w b t [av,bv]) (h:Sl w B 2 av l.length (enC l)) (hr:Rise l) (hn:l.length≤1000000000) :
 Calls Tryz.prog 94 #[ptrV b,.string (kb k)] w fun e w'=>e=.returned (.tuple #[.int .i64 (pos k l:Nat),.bool (has k l)])∧Below w.heap.size w w':=zLKE
theorem y0l (w:World) (b:Nat) (t:TypeId) (av:Value) (p:Option Addr) (n c:Nat) (hb:Blk w b t [av,.slice p n c]) :
 Calls Tryz.prog 95 #[ptrV b] w fun e w'=>e=.returned (.bool (decide (n=0)))∧w'=w:=zxIu
theorem y0m (w:World) (b i:Nat) (av bv:Value) (l:List En) (x:En) (hb:Blk w b 194 [av,bv]) (ha:Own w 196 2 av l.length (enC l)) (hab:av.ownBlock≠some b) (hx1:x.val.oneCell'=true) (hi:i≤l.length) (hn:l.length≤1000000000) :
 Calls Tryz.prog 163 #[ptrV b,.int .i64 (i:Int),.agg #[.string (kb x.key),x.val]] w fun e w'=>e=.returned (.tuple #[])∧∃ av',Blk w' b 194 [av',bv]∧Own w' 196 2 av' (l.length+1) (enC (insAt i x l)) ∧
  Only (fun k=>k=b∨av.ownBlock=some k) w w'∧(∀ k,av'.ownBlock=some k→av.ownBlock=some k∨w.heap.size≤k):=zL6X
theorem y0n (w:World) (b i:Nat) (av bv:Value) (l:List En) (hb:Blk w b 194 [av,bv]) (ha:Own w 196 2 av l.length (enC l)) (hab:av.ownBlock≠some b) (hi:i < l.length) (hn:l.length≤1000000000) :
 Calls Tryz.prog 174 #[ptrV b,.int .i64 (i:Int)] w fun e w'=>e=.returned (.agg #[.string (kb l[i].key),l[i].val])∧∃ av',Blk w' b 194 [av',bv]∧Own w' 196 2 av' (l.length - 1) (enC (l.take i++l.drop (i+1))) ∧
  Only (fun k=>k=b∨av.ownBlock=some k) w w'∧(∀ k,av'.ownBlock=some k→av.ownBlock=some k∨w.heap.size≤k):=by
 obtain ⟨g,off,cap,rfl,_,hg,e0,e1⟩:∃ g off cap,av=.slice (some ⟨g,off,none⟩) l.length cap∧True∧g < w.heap.size∧w.cell? ⟨g,off+i*2,none⟩=some (.string (kb l[i].key))∧w.cell? ⟨g,off+i*2+1,none⟩=some l[i].val:=by
  exact zts7
 generalize hx:l[i]=x at *
 obtain ⟨xk,xv⟩:=x
 simp only at e0 e1 ⊢
 have hal:Below w.heap.size w (w.alloc (.cells #[.string ⟨#[]⟩,(.slice none 0 0)] 196)):=(Below.refl _ _).alloc (Nat.le_refl _) _
 have hxv:xv.oneCell'=true:=by
  exact zHp0
 obtain ⟨c0,c1⟩:=pg_cells hb
 have hbl:b < w.heap.size:=hb.lt
 have hal2:Below w.heap.size w ((w.alloc (.cells #[.string ⟨#[]⟩,(.slice none 0 0)] 196)).alloc (.cells #[.string (kb xk),xv] 196)):=hal.alloc zPXO _
 have hgb:g≠b:=fun e=>hab (by rw [e];rfl)
 have HD:=Lib.hid (y03 _ g off cap l.length i (enC l) (ha.below hal2) hn hi)
 rw [enC_del] at HD
 have hkA:Blk ((w.alloc (.cells #[.string ⟨#[]⟩,(.slice none 0 0)] 196)).alloc (.cells #[.string (kb xk),xv] 196)) w.heap.size 196 [.string ⟨#[]⟩,(.slice none 0 0)]:=(Blk.new w _ _).alloc _
 have hkB:Blk ((w.alloc (.cells #[.string ⟨#[]⟩,(.slice none 0 0)] 196)).alloc (.cells #[.string (kb xk),xv] 196)) (w.heap.size+1) 196 [.string (kb xk),xv]:=by
  have h1:(w.alloc (.cells #[.string ⟨#[]⟩,(.slice none 0 0)] 196)).heap.size=w.heap.size+1:=zPXO
  exact h1▸Blk.new (w.alloc (.cells #[.string ⟨#[]⟩,(.slice none 0 0)] 196)) _ _
 have HKA:=Lib.hid hkA
 have HKB:=Lib.hid hkB
 have HB:=Lib.hid hb
 have HAL2:=Lib.hid hal2
 have hgn:¬ (w.heap.size=g):=zTbe
 have hgn1:¬ (w.heap.size+1=g):=zTbe
 unfold ptrV
 clear hb ha hab hx hal hal2 hkA hkB
 go_enter Tryz.func174,Tryz.ntmps174
 go_wp2_with fail
 refine HD.out.mono ?_
 rintro e w3 ⟨rfl,ho3,hon3,hs3⟩
 have hb3:=(HB.out.below HAL2.out).only hon3 (fun e=>hgb e.symm)
 have hA3:=HKA.out.only hon3 hgn
 have hB3:=HKB.out.only hon3 hgn1
 obtain ⟨x0,x1⟩:=pg_cells hb3
 have hf:=hb3.frozen 0
 have y0:=hA3.cell 0
 have y1:=hA3.cell 1
 have z0:=hB3.cell 0
 have z1:=hB3.cell 1
 have f0:=hA3.frozen 0
 have f1:=hA3.frozen 1
 simp only [List.getElem?_cons_zero,List.getElem?_cons_succ] at y0 y1 z0 z1
 have HB3:=Lib.hid hb3
 have HA3:=Lib.hid hA3
 have HO3:=Lib.hid ho3
 have HON3:=Lib.hid hon3
 clear hb3 hA3 hB3 ho3 hon3 hs3 e0 e1 c0 c1 HD
 go_wp2
 have hA4:=((HA3.out.setOther (p:=⟨b,0,none⟩) (by show ¬ w.heap.size=b;omega) (.slice (some ⟨g,off,none⟩) (l.length - 1) cap)).set 0 (.string (kb xk))).set 1 xv
 have hB4:=((HB3.out.set 0 (.slice (some ⟨g,off,none⟩) (l.length - 1) cap)).setOther (p:=⟨w.heap.size,0,none⟩) zHWv (.string (kb xk))).setOther (p:=⟨w.heap.size,1,none⟩) zHWv xv
 have hO4:=((HO3.out.setOther (p:=⟨b,0,none⟩) (fun h=>hgb (Option.some.inj h)) (.slice (some ⟨g,off,none⟩) (l.length - 1) cap)).setOther (p:=⟨w.heap.size,0,none⟩) (fun h=>hgn (Option.some.inj h).symm) (.string (kb xk))).setOther (p:=⟨w.heap.size,1,none⟩) (fun h=>hgn (Option.some.inj h).symm) xv
 have hN4:Only (fun k=>k=b∨(Value.slice (some ⟨g,off,none⟩) l.length cap).ownBlock=some k) w (((w3.setCell ⟨b,0,none⟩ (.slice (some ⟨g,off,none⟩) (l.length - 1) cap)).setCell ⟨w.heap.size,0,none⟩ (.string (kb xk))).setCell ⟨w.heap.size,1,none⟩ xv):=by
  exact zhWR
 have m0:=hA4.cell 0
 have m1:=hA4.cell 1
 simp only [List.getElem?_cons_zero,List.getElem?_cons_succ,List.set_cons_zero,List.set_cons_succ] at m0 m1
 exact bodyPost_ret (v:=.agg #[.string (kb xk),xv]) (by simp [results,Tryz.results174,go_sem,m0,m1]) rfl ⟨rfl,_,hB4,hO4,hN4,fun k hk=>.inl hk⟩
abbrev y0o (p:P):List Res:=p.res 194 196 185
abbrev y0p (l:List P):List Res:=P.resL 194 196 185 l
abbrev y0q (b:Nat) (av bv:Value):Res:=Res.blk b 194 [av,bv]
abbrev y0r (av:Value) (es:List En):Res:=Res.own 196 2 av es.length (enC es)
abbrev y0s (bv:Value) (ks:List P):Res:=Res.own 185 1 bv ks.length (ptrs ks)
theorem y0t (b:Nat) (av bv:Value) (es:List En) (ks:List P):y0o (.node b av es bv ks)=y0q b av bv::y0r av es::y0s bv ks::y0p ks:=P.res_node b av es bv ks
theorem y0u (w:World) (b i:Nat) (av bv:Value) (l:List En) (x:En) (hs:Sep w [y0q b av bv,y0r av l]) (hx1:x.val.oneCell'=true) (hi:i≤l.length) (hn:l.length≤1000000000) :
 Calls Tryz.prog 163 #[ptrV b,.int .i64 (i:Int),.agg #[.string (kb x.key),x.val]] w fun e w'=>e=.returned (.tuple #[])∧∃ av',Trk w (feet [y0q b av bv,y0r av l]) w' [y0q b av' bv,y0r av' (insAt i x l)]:=ztu3
theorem y0v (w:World) (b i:Nat) (av bv:Value) (l:List En) (hs:Sep w [y0q b av bv,y0r av l]) (hi:i < l.length) (hn:l.length≤1000000000) :
 Calls Tryz.prog 174 #[ptrV b,.int .i64 (i:Int)] w fun e w'=>e=.returned (.agg #[.string (kb l[i].key),l[i].val])∧∃ av',Trk w (feet [y0q b av bv,y0r av l]) w' [y0q b av' bv,y0r av' (l.take i++l.drop (i+1))]:=z1iw
theorem y0w (w:World) (b:Nat) (av bv:Value) (es:List En) (l r:List P) (cb:Nat) (cav cbv:Value) (ces:List En) (cks:List P)
 (hs:Sep w (y0o (.node b av es bv (l++.node cb cav ces cbv cks::r)))) (hl:l.length≤es.length) (h6:3 < ces.length) (hk:cks=[]∨3 < cks.length)
 (hn:es.length≤1000000) (hcn:ces.length≤1000000) (hkn:(l++.node cb cav ces cbv cks::r).length≤1000000) (hckn:cks.length≤1000000) :
 Calls Tryz.prog 146 #[ptrV b,.int .i64 (l.length:Int)] w fun e w'=>e=.returned (.tuple #[])∧∃ p',p'.blk=b∧p'.t=splitT l.length es ((l++.node cb cav ces cbv cks::r).map P.t) (P.node cb cav ces cbv cks).t ∧
  Trk w (feet (y0o (.node b av es bv (l++.node cb cav ces cbv cks::r)))) w' (y0o p'):=zDMu
theorem y0x (zp:Option Addr) (zn zc:Nat):Value.oneCell' (.slice zp zn zc)=true:=rfl
theorem y0y (w:World) (b:Nat) (av bv:Value) (es:List En) (ks:List P) (k:Key) (zp:Option Addr) (zn zc:Nat) (hs:Sep w (y0o (.node b av es bv ks))) (hr:Rise es) (hn:es.length≤1000000) (hh:has k es=true) :
 Calls Tryz.prog 145 #[ptrV b,.string (kb k),(.slice zp zn zc)] w fun e w'=>∃ x,es[pos k es]?=some x∧e=.returned (.tuple #[x.val,.bool true])∧Trk w (feet (y0o (.node b av es bv ks))) w' (y0o (.node b av (es.set (pos k es) ⟨k,(.slice zp zn zc)⟩) bv ks)):=by
 have T0:=Trk.start hs
 generalize hF:feet (y0o (.node b av es bv ks))=F at *
 rw [y0t] at T0
 obtain ⟨hpl,hkey⟩:=has_at.1 hh
 have kb0:Blk w b 194 [av,bv]:=T0.blk zInm
 have oa:Own w 196 2 av es.length (enC es):=T0.own zInm
 have HFD:=Lib.hid (y0k w b _ av bv es k (fun _=>True) kb0 (oa.sl (B:=fun _=>True) (fun _ _=>trivial)) hr zTbe)
 rw [hh] at HFD
 have HST:Hid (∀ (w2:World) (g off cap:Nat),av=.slice (some ⟨g,off,none⟩) es.length cap→Own w2 196 2 av es.length (enC es)→Own (w2.setCell ⟨g,off+(pos k es*2+1),none⟩ (.slice zp zn zc)) 196 2 av (es.set (pos k es) ⟨k,(.slice zp zn zc)⟩).length (enC (es.set (pos k es) ⟨k,(.slice zp zn zc)⟩))):=fun w2 g off cap hv ho=>by
  rw [hv] at ho ⊢
  have h1:=ho.store (j:=pos k es*2+1) (.slice zp zn zc) rfl
  rw [List.length_set,enC_set es (pos k es) ⟨k,(.slice zp zn zc)⟩ hpl hkey.symm]
  exact h1
 have hx:=z2tu
 obtain ⟨g,off,cap,hav,hg,_,_⟩:=sl_en (oa.sl (B:=fun _=>True) (fun _ _=>trivial)) hpl
 have HX:=Lib.hid hx
 have HE:=Lib.hid (fun (w2:World) (h:Own w2 196 2 av es.length (enC es))=>sl_en (h.sl (B:=fun _=>True) (fun _ _=>trivial)) hpl)
 generalize es.set (pos k es) ⟨k,(.slice zp zn zc)⟩=es2 at *
 generalize es[pos k es]=x at *
 generalize pos k es=i at *
 have HT0:=Lib.hid T0
 have HAV:=Lib.hid hav
 unfold ptrV
 obtain ⟨x0,x1⟩:=pg_cells kb0
 rw [hav] at x0
 have hbl:=kb0.lt
 unfold ptrV at HFD
 clear T0 kb0 oa hkey hx hh hs hF hr
 go_enter Tryz.func145,Tryz.ntmps145
 go_wp2_with fail
 refine HFD.out.mono ?_
 clear HFD
 rintro e w2 ⟨rfl,hb2⟩
 have T2:=HT0.out.below hb2
 have kb2:Blk w2 b 194 [av,bv]:=T2.blk zInm
 have oa2:Own w2 196 2 av es.length (enC es):=T2.own zInm
 obtain ⟨g',off',cap',hv',hg2,e0,e1⟩:=HE.out w2 oa2
 rw [hav] at hv'
 cases hv'
 obtain ⟨y0,y1⟩:=pg_cells kb2
 rw [hav] at y0
 have hfz:w2.frozen? ⟨g,off+i*2+1,none⟩=false:=by
  rw [hav] at oa2
  have h1:=(oa2.cellAt (j:=i*2+1) zTbe).2
  rwa [←Nat.add_assoc] at h1
 have HT2:=Lib.hid T2
 clear T2 kb2 oa2 hb2 x0 x1 hav
 go_wp2_with fail
 refine wp_region_lit_plan [] [(0,0),(1,0),(2,0),(3,0),(5,0),(6,0),(7,0),(8,0),(9,0),(11,0),(15,0),(4,1),(10,1),(12,0),(13,0),(14,1),(16,0),(17,0),(18,0),(19,4)] (fun _=>False) zyVB zyVB (fun c a d v w h=>zx0I) ?_
 go_wp2_with (first|(refine stp ?_))
 have hadr:(⟨g,off+(i*2+1),none⟩:Addr)=⟨g,off+i*2+1,none⟩:=rfl
 have ho:=HST.out w2 g off cap HAV.out (HT2.out.own zInm)
 rw [hadr] at ho
 have T3:=(HT2.out.perm (perm_of_cnt (y:=y0r av es::(y0q b av bv::y0s bv ks::y0p ks)) fun a=>zIzS)).one (w':=w2.setCell ⟨g,off+i*2+1,none⟩ (.slice zp zn zc)) (r':=y0r av es2) ho (show av.ownBlock.toList.Nodup from ownBlock_nodup av) (fun k hk=>.inl hk)
  (Only.setCell (Only.refl _ _) (p:=⟨g,off+i*2+1,none⟩) (fun _=>by simp [Res.own,HAV.out,Value.ownBlock]) _)
 have T4:=T3.drew.perm (perm_of_cnt (y:=y0o (.node b av es2 bv ks)) fun a=>zPv8)
 exact bodyPost_ret (v:=.tuple #[x.val,.bool true]) (by simp [results,Tryz.results145,go_sem]) rfl ⟨x,HX.out,rfl,T4⟩
theorem y0z (w:World) (b:Nat) (av bv:Value) (es:List En) (k:Key) (zp:Option Addr) (zn zc:Nat) (hs:Sep w (y0o (.node b av es bv []))) (hr:Rise es) (hn:es.length≤1000000) (hh:has k es=false) :
 Calls Tryz.prog 145 #[ptrV b,.string (kb k),(.slice zp zn zc)] w fun e w'=>e=.returned (.tuple #[(.slice none 0 0),.bool false])∧∃ av',Trk w (feet (y0o (.node b av es bv []))) w' (y0o (.node b av' (insAt (pos k es) ⟨k,(.slice zp zn zc)⟩ es) bv [])):=by
 have T0:=Trk.start hs
 generalize hF:feet (y0o (.node b av es bv []))=F at *
 rw [y0t] at T0
 have kb0:Blk w b 194 [av,bv]:=T0.blk zInm
 have oa:Own w 196 2 av es.length (enC es):=T0.own zInm
 have ok:Own w 185 1 bv ([]:List P).length (ptrs []):=T0.own zInm
 obtain ⟨pk,ck,hbv,_,_⟩:=y0f ok
 have hpl:=pos_le k es
 have HFD:=Lib.hid (y0k w b _ av bv es k (fun _=>True) kb0 (oa.sl (B:=fun _=>True) (fun _ _=>trivial)) hr zTbe)
 rw [hh] at HFD
 have HBV:=Lib.hid hbv
 generalize pos k es=i at *
 have HT0:=Lib.hid T0
 have hbl:=kb0.lt
 unfold ptrV at HFD ⊢
 clear T0 kb0 oa ok hh hs hF hr hbv
 go_enter Tryz.func145,Tryz.ntmps145
 go_wp2_with fail
 refine HFD.out.mono ?_
 clear HFD
 rintro e w2 ⟨rfl,hb2⟩
 have T2:=HT0.out.below hb2
 have kb2:Blk w2 b 194 [av,bv]:=T2.blk zInm
 have HLF:=Lib.hid (y0l w2 b _ av pk 0 ck (HBV.out▸kb2))
 have hp2:=zZqg
 have HI:=Lib.hid (y0u w2 b i av bv es ⟨k,(.slice zp zn zc)⟩ (T2.sepOf hp2) rfl hpl zTbe)
 have HT2:=Lib.hid T2
 have HP2:=Lib.hid hp2
 unfold ptrV at HLF HI
 simp only at HI
 clear T2 kb2 hp2 hb2
 go_wp2_with fail
 refine HLF.out.mono ?_
 rintro e wq ⟨rfl,hq⟩
 subst hq
 go_wp2_with fail
 refine HI.out.mono ?_
 rintro e w3 ⟨rfl,av2,hT3⟩
 go_wp2
 have T3:=(HT2.out.use HP2.out hT3).perm (perm_of_cnt (y:=y0o (.node b av2 (insAt i ⟨k,(.slice zp zn zc)⟩ es) bv [])) fun a=>zPv8)
 exact bodyPost_ret (v:=.tuple #[(.slice none 0 0),.bool false]) (by simp [results,Tryz.results145,go_sem]) rfl ⟨rfl,av2,T3⟩
theorem y10 (w:World) (b:Nat) (av bv:Value) (es:List En) (kl:List P) (kc:P) (kr:List P) (k:Key) (zp:Option Addr) (zn zc:Nat) (hs:Sep w (y0o (.node b av es bv (kl++kc::kr)))) (hr:Rise es) (hn:es.length≤1000000) (hkn:(kl++kc::kr).length≤1000000) (hh:has k es=false)
 (hl:kl.length=pos k es) (x:Value) (y:Bool) (t':T)
 (hc:∀ w2,Sep w2 (y0o kc)→Calls Tryz.prog 145 #[ptrV kc.blk,.string (kb k),(.slice zp zn zc)] w2 fun e w'=>e=.returned (.tuple #[x,.bool y])∧∃ p',p'.blk=kc.blk∧p'.t=t'∧Trk w2 (feet (y0o kc)) w' (y0o p'))
 (hsh:t'.ts=[]∨t'.ts.length=t'.es.length+1) (hn1:t'.es.length≤100000) :
 Calls Tryz.prog 145 #[ptrV b,.string (kb k),(.slice zp zn zc)] w fun e w'=>e=.returned (.tuple #[x,.bool y])∧∃ p',p'.blk=b∧p'.t=(if 5 < t'.es.length then splitT kl.length es ((kl++kc::kr).map P.t) t' else .node es (kl.map P.t++t'::kr.map P.t)) ∧
  Trk w (feet (y0o (.node b av es bv (kl++kc::kr)))) w' (y0o p'):=z124
theorem y11 (k:Key) (zp:Option Addr) (zn zc:Nat):∀ (d m:Nat) (w:World) (p:P),m≤2→Fat m d p.t→Rise p.t.flat→p.t.flat.length≤99999→Sep w (y0o p) →
 Calls Tryz.prog 145 #[ptrV p.blk,.string (kb k),(.slice zp zn zc)] w fun e w'=>e=.returned (.tuple #[(Afx.look k p.t.flat).getD (.slice none 0 0),.bool (Afx.look k p.t.flat).isSome])∧∃ p',p'.blk=p.blk∧p'.t=putT k (.slice zp zn zc) d p.t∧Trk w (feet (y0o p)) w' (y0o p'):=by
 intro d
 induction d with
 | zero =>
  intro m w p hm hf hr hn hs
  obtain ⟨b,av,es,bv,ks,rfl⟩:=P.eta p
  rw [P.t_node] at hf hr hn ⊢
  have hk0:ks=[]:=zJtu
  subst hk0
  simp only [List.map_nil] at *
  rw [flat_leaf] at *
  have hn2:es.length≤99999:=hn
  obtain ⟨a,b',hlf⟩:=leaf_page (k:=k) (es:=es) zkTB
  have hlk:=hlf.look
  cases hh:has k es
  ·refine (y0z w b av bv es k zp zn zc hs hr zTbe hh).mono ?_
   rintro e w' ⟨rfl,av',hT⟩
   rw [hlk.2 hh]
   refine ⟨rfl,.node b av' (insAt (pos k es) ⟨k,(.slice zp zn zc)⟩ es) bv [],rfl,?_,hT⟩
   rw [P.t_node,putT,if_neg (by rw [hh];simp)];rfl
  ·refine (y0y w b av bv es [] k zp zn zc hs hr zTbe hh).mono ?_
   rintro e w' ⟨x,hx,rfl,hT⟩
   obtain ⟨x2,hx2,_,hl2⟩:=hlk.1 hh
   rw [hx] at hx2
   cases hx2
   rw [hl2]
   refine ⟨rfl,.node b av (es.set (pos k es) ⟨k,(.slice zp zn zc)⟩) bv [],rfl,?_,hT⟩
   rw [P.t_node,putT,if_pos hh];rfl
 | succ d ih =>
  intro m w p hm hf hr hn hs
  obtain ⟨b,av,es,bv,ks,rfl⟩:=P.eta p
  rw [P.t_node] at hf hr hn ⊢
  obtain ⟨hf1,hf2,hf3⟩:=hf
  have hel:es.length≤99999:=by
   have h1:=(es_sublist es (ks.map P.t)).length_le
   rw [←flat_node] at h1
   omega
  have hkl:=z673
  obtain ⟨a,bb,l,c,r,hsp,hg⟩:=split_page (k:=k) hr hf2
  have hlk:=hsp.look
  have hres:=hr.es
  cases hh:has k es
  ·have hpl:pos k es < ks.length:=by have:=pos_le k es;omega
   have hcm:(ks[pos k es]).t=c:=by
    exact zxXA
   have hks:=ziwa
   have hkll:=zwlH
   generalize hkc:ks[pos k es]=kc at *
   generalize ks.take (pos k es)=kl at *
   generalize ks.drop (pos k es+1)=kr at *
   subst hks
   have hfl:=hsp.fl
   have hr2:Rise c.flat:=zkeD
   have hn2:c.flat.length≤99999:=zsK8
   have hfc:Fat 2 d c:=hf3 c zAzv
   obtain ⟨hpf,hpfl⟩:=put_fat k (.slice zp zn zc) d 2 c hr2 hfc (Nat.le_refl _)
   have hn3:(putT k (.slice zp zn zc) d c).es.length≤100000:=by
    have h1:(putT k (.slice zp zn zc) d c).es.length≤(putT k (.slice zp zn zc) d c).flat.length:=by
     cases hq:putT k (.slice zp zn zc) d c with
     | node es' ts'=>rw [flat_node];exact (es_sublist es' ts').length_le
    rw [hpfl] at h1
    have:=ins_length k (.slice zp zn zc) c.flat
    omega
   have hsh:(putT k (.slice zp zn zc) d c).ts=[]∨(putT k (.slice zp zn zc) d c).ts.length=(putT k (.slice zp zn zc) d c).es.length+1:=zGlH
   refine (y10 w b av bv es kl kc kr k zp zn zc hs hres zTbe zTbe hh hkll ((Afx.look k c.flat).getD (.slice none 0 0)) (Afx.look k c.flat).isSome (putT k (.slice zp zn zc) d c) (fun w2 hs2=>?_) hsh hn3).mono ?_
   ·have h1:=ih 2 w2 kc (Nat.le_refl _) (hcm▸hfc) (hcm▸hr2) (hcm▸hn2) hs2
    rw [hcm] at h1
    exact h1
   ·rintro e w' ⟨rfl,p',hb',ht',hT⟩
    rw [hlk.2 hh]
    refine ⟨rfl,p',hb',?_,hT⟩
    have hput:putT k (.slice zp zn zc) (d+1) (.node es ((kl++kc::kr).map P.t))=if 5 < (putT k (.slice zp zn zc) d c).es.length then splitT (pos k es) es ((kl++kc::kr).map P.t) (putT k (.slice zp zn zc) d c) else .node es (((kl++kc::kr).map P.t).set (pos k es) (putT k (.slice zp zn zc) d c)):=by
     rw [putT,if_neg (by rw [hh];simp),hg]
    exact zigJ
  ·refine (y0y w b av bv es ks k zp zn zc hs hres zTbe hh).mono ?_
   rintro e w' ⟨x,hx,rfl,hT⟩
   obtain ⟨x2,hx2,_,hl2⟩:=hlk.1 hh
   rw [hx] at hx2
   cases hx2
   rw [hl2]
   refine ⟨rfl,.node b av (es.set (pos k es) ⟨k,(.slice zp zn zc)⟩) bv ks,rfl,?_,hT⟩
   rw [P.t_node,putT,if_pos hh]
abbrev y12 (tb:Nat) (p:P) (n:Nat):Res:=Res.blk tb 187 [ptrV p.blk,.int .i64 (n:Int)]
abbrev y13 (tb:Nat) (p:P) (n:Nat):List Res:=y12 tb p n::y0o p
theorem y14 (w:World):Calls Tryz.prog 103 #[] w fun e w'=>∃ tb p,e=.returned (ptrV tb)∧p.t=.node [] []∧Trk w [] w' (y13 tb p 0):=zy8L
theorem y1s (w:World) (tb:Nat) (p:P) (n:Nat) (h:Blk w tb 187 [ptrV p.blk,.int .i64 (n:Int)]):Calls Tryz.prog 65 #[ptrV tb] w fun e w'=>e=.returned (.int .i64 (n:Int))∧w'=w:=by
 obtain ⟨c0,c1⟩:=pg_cells h
 unfold ptrV
 clear h
 go_enter Tryz.func65,Tryz.ntmps65
 exact zWFb
end TyV
end Go.Proofs.YteggkjdlajgenaaGreatDoor
