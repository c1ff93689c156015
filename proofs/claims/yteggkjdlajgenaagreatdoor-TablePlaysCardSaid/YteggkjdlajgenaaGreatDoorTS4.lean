/- Contracts of the functions that the statement reaches, one behind the other. No condition beyond each theorem's own. -/
import Derived.Test.YteggkjdlajgenaaGreatDoorTS3
set_option linter.unusedSimpArgs false
set_option linter.unusedVariables false
set_option maxRecDepth 100000
set_option maxHeartbeats 4000000
theorem zvlG {P:Prop} (h:P:=by simp [results,Tryz.results138,go_sem]):P:=h
namespace Go.Proofs.YteggkjdlajgenaaGreatDoor
open Go.RowKit Go.Afx
namespace TyV
theorem y15 (w:World) (tb:Nat) (p:P) (d n:Nat) (k:Key) (zp:Option Addr) (zn zc:Nat) (hs:Sep w (y13 tb p n)) (hg:Afx.Good d p.t) (hn:n=p.t.flat.length) (hl:n≤99999) :
 Calls Tryz.prog 111 #[ptrV tb,.string (kb k),(.slice zp zn zc)] w fun e w'=>e=.returned (.tuple #[(Afx.look k p.t.flat).getD (.slice none 0 0),.bool (Afx.look k p.t.flat).isSome])∧∃ p',p'.t=(putTop k (.slice zp zn zc) d p.t).2 ∧
  Trk w (feet (y13 tb p n)) w' (y13 tb p' (if (Afx.look k p.t.flat).isSome then n else n+1)):=by
 have T0:=Trk.start hs
 generalize hF:feet (y13 tb p n)=F at *
 have kt0:Blk w tb 187 [ptrV p.blk,.int .i64 (n:Int)]:=T0.blk zInm
 have HPUT:=Lib.hid (y11 k zp zn zc d (min 1 d) w p zTbe hg.fat hg.rise zTbe (hs.right (a:=[y12 tb p n])))
 obtain ⟨c0,c1⟩:=pg_cells kt0
 obtain ⟨hpf,hpfl⟩:=put_fat k (.slice zp zn zc) d (min 1 d) p.t hg.rise hg.fat zTbe
 have HG:=Lib.hid hg
 have HT0:=Lib.hid T0
 have hsh:(putT k (.slice zp zn zc) d p.t).ts=[]∨(putT k (.slice zp zn zc) d p.t).ts.length=(putT k (.slice zp zn zc) d p.t).es.length+1:=zGlH
 have hel:(putT k (.slice zp zn zc) d p.t).es.length≤100000:=by
  have h1:(putT k (.slice zp zn zc) d p.t).es.length≤(putT k (.slice zp zn zc) d p.t).flat.length:=by
   cases hq:putT k (.slice zp zn zc) d p.t with
   | node es' ts'=>rw [flat_node];exact (es_sublist es' ts').length_le
  rw [hpfl] at h1
  have:=ins_length k (.slice zp zn zc) p.t.flat
  omega
 have HTOP:Hid ((putTop k (.slice zp zn zc) d p.t).2=if 5 < (putT k (.slice zp zn zc) d p.t).es.length then splitT 0 [] [putT k (.slice zp zn zc) d p.t] (putT k (.slice zp zn zc) d p.t) else putT k (.slice zp zn zc) d p.t):=by
  show _=_
  unfold putTop
  split<;>rfl
 generalize (putTop k (.slice zp zn zc) d p.t).2=tt at *
 generalize hpt:putT k (.slice zp zn zc) d p.t=t' at *
 generalize hx:(Afx.look k p.t.flat).getD (.slice none 0 0)=x at *
 generalize hy:(Afx.look k p.t.flat).isSome=y at *
 have hnf:(n:Int)≤99999:=zTbe
 unfold ptrV at c0 HPUT ⊢
 clear T0 kt0 hs hF hg hn hpf hpfl hpt hx hy
 go_enter Tryz.func111,Tryz.ntmps111
 go_wp2_with fail
 refine HPUT.out.mono ?_
 clear HPUT
 rintro e w2 ⟨rfl,p',hpb,hpt,hT⟩
 have hp1:=zYhk
 have T2:=HT0.out.use hp1 hT
 obtain ⟨cb,cav,ces,cbv,cks,rfl⟩:=P.eta p'
 obtain rfl:cb=p.blk:=hpb
 rw [P.t_node] at hpt
 subst hpt
 have hsh:cks=[]∨cks.length=ces.length+1:=by
  exact z4xf
 have hel:ces.length≤100000:=hel
 have hp2:=zyEN
 have T3:=T2.perm hp2
 have kt2:Blk w2 tb 187 [ptrV p.blk,.int .i64 (n:Int)]:=T3.blk zInm
 have kc2:Blk w2 p.blk 194 [cav,cbv]:=T3.blk zInm
 have oc2:Own w2 196 2 cav ces.length (enC ces):=T3.own zInm
 obtain ⟨pc,cc,hcav,hcc1,hcc2⟩:=y06 oc2
 obtain ⟨x0,x1⟩:=pg_cells kt2
 obtain ⟨y0,y1⟩:=pg_cells kc2
 rw [hcav] at y0
 unfold ptrV at x0
 have hf0:=kt2.frozen 0
 have hf1:=kt2.frozen 1
 have HT3:=Lib.hid T3
 have hwn:IntKind.i64.wrap ((n:Int)+1)=(n:Int)+1:=zrPp
 have htl:=kt2.lt
 have hpl:=kc2.lt
 clear T2 T3 kt2 kc2 oc2 hp1 hp2 hT c0 c1 hcav HT0
 by_cases h5:5 < ces.length
 ·have h5i:(5:Int) < (ces.length:Int):=by omega
  have hslc:1≤ces.length:=zTbe
  obtain ⟨w3,hw3⟩:∃ w3,w2.alloc (.cells #[.pointer (some ⟨p.blk,0,none⟩)] 185)=w3:=⟨_,rfl⟩
  obtain ⟨w4,hw4⟩:∃ w4,w3.alloc (.cells #[.slice none 0 0,.slice (some ⟨w2.heap.size,0,none⟩) 1 1] 194)=w4:=⟨_,rfl⟩
  obtain ⟨w5,hw5⟩:=zKcV
  have b3:=zUeY
  have b4:=zvR2
  have o3:Own w3 185 1 (.slice (some ⟨w2.heap.size,0,none⟩) 1 1) 1 (ptrs [.node p.blk cav ces cbv cks]):=by
   rw [←hw3]
   exact Own.made w2 185 1 (ptrs [.node p.blk cav ces cbv cks]) [] 1 1 rfl (Ones.cons rfl Ones.nil) (Nat.le_refl _) zdUY (by simp [ptrs])
  have T4:=HT3.out.new (r:=y0s (.slice (some ⟨w2.heap.size,0,none⟩) 1 1) [.node p.blk cav ces cbv cks]) o3 znD9 znD9 b3
  have k4:Blk w4 w3.heap.size 194 [.slice none 0 0,.slice (some ⟨w2.heap.size,0,none⟩) 1 1]:=hw4▸Blk.new w3 _ _
  have T5:=T4.new (r:=y0q w3.heap.size (.slice none 0 0) (.slice (some ⟨w2.heap.size,0,none⟩) 1 1)) k4 zg6m zg6m b4
  have T6:=T5.new (r:=y0r (.slice none 0 0) []) (Own.nil _ _ _) znD9 znD9 (Below.refl _ _)
  have T7:=T6.perm (perm_of_cnt (y:=y12 tb p n::y0o (.node w3.heap.size (.slice none 0 0) [] (.slice (some ⟨w2.heap.size,0,none⟩) 1 1) ([]++.node p.blk cav ces cbv cks::[]))) fun a=>zsuc)
  have T8:=T7.blkSet 0 (.pointer (some ⟨w3.heap.size,0,none⟩))
  rw [hw5] at T8
  have kt5:Blk w5 tb 187 [.pointer (some ⟨w3.heap.size,0,none⟩),.int .i64 (n:Int)]:=T8.blk (List.mem_cons_self)
  have kt4:Blk w4 tb 187 [ptrV p.blk,.int .i64 (n:Int)]:=T7.blk (List.mem_cons_self)
  have hsp:Calls Tryz.prog 146 #[.pointer (some ⟨w3.heap.size,0,none⟩),.int .i64 0] w5 _:=y0w w5 w3.heap.size (.slice none 0 0) (.slice (some ⟨w2.heap.size,0,none⟩) 1 1) [] [] [] p.blk cav cbv ces cks
   (T8.sep.right (a:=[_])) zPXO zTbe zuh6 zPXO zTbe zPXO zD2f
  have HSP:=Lib.hid hsp
  have HT8:=Lib.hid T8
  have HTT:Hid (tt=splitT 0 [] [T.node ces (cks.map P.t)] (T.node ces (cks.map P.t))):=by
   show _=_
   rw [HTOP.out,if_pos (show 5 < (T.node ces (cks.map P.t)).es.length from h5)]
  obtain ⟨u0,u1⟩:=pg_cells kt5
  obtain ⟨v0,v1⟩:=pg_cells kt4
  have hg0:=kt4.frozen 0
  clear T4 T5 T6 T7 T8 k4 o3 b3 b4 hsp kt5 kt4 HTOP HT3
  go_wp2_with fail
  clear hw3 hw4 hw5 v0 v1 u0 u1 x0 x1 y0 y1 hg0 hf0 hf1
  refine HSP.out.mono ?_
  clear HSP
  rintro e w6 ⟨rfl,p',hpb,hpt,hT⟩
  have T9:=HT8.out.use (rest:=[Res.blk tb 187 [.pointer (some ⟨w3.heap.size,0,none⟩),.int .i64 (n:Int)]]) (perm_of_cnt fun a=>zxdH) hT
  have kt6:Blk w6 tb 187 [.pointer (some ⟨w3.heap.size,0,none⟩),.int .i64 (n:Int)]:=T9.blk (List.mem_append_right _ List.mem_cons_self)
  obtain ⟨x0,x1⟩:=pg_cells kt6
  have hf1:=kt6.frozen 1
  have TA:=T9.perm (perm_of_cnt (y:=Res.blk tb 187 [.pointer (some ⟨w3.heap.size,0,none⟩),.int .i64 (n:Int)]::y0o p') fun a=>by simp only [cnt_append,cnt_cons,cnt_nil];omega)
  have HTA:=Lib.hid TA
  have HPB:=Lib.hid hpb
  have HPT:=Lib.hid hpt
  clear hT T9 TA kt6 HT8 hpb hpt
  cases y
  ·go_wp2
   have TB:=HTA.out.blkSet 1 (.int .i64 ((n:Int)+1))
   refine bodyPost_ret (v:=.tuple #[x,.bool false]) ?_ rfl ⟨rfl,p',?_,?_⟩
   ·simp [results,Tryz.results111,go_sem]
   ·rw [HTT.out,HPT.out,P.t_node];rfl
   ·have e:y12 tb p' (n+1)=Res.blk tb 187 ([.pointer (some ⟨w3.heap.size,0,none⟩),.int .i64 (n:Int)].set 1 (.int .i64 ((n:Int)+1))):=by
     show Res.blk tb 187 [ptrV p'.blk,.int .i64 ((n+1:Nat):Int)]=Res.blk tb 187 [.pointer (some ⟨w3.heap.size,0,none⟩),.int .i64 ((n:Int)+1)]
     rw [show ((n+1:Nat):Int)=(n:Int)+1 from zTbe,HPB.out];rfl
    show Trk w F _ (y12 tb p' (n+1)::y0o p')
    rw [e]
    exact TB
  ·go_wp2
   refine bodyPost_ret (v:=.tuple #[x,.bool true]) ?_ rfl ⟨rfl,p',?_,?_⟩
   ·simp [results,Tryz.results111,go_sem]
   ·rw [HTT.out,HPT.out,P.t_node];rfl
   ·have e:y12 tb p' n=Res.blk tb 187 [.pointer (some ⟨w3.heap.size,0,none⟩),.int .i64 (n:Int)]:=by
     show Res.blk tb 187 [ptrV p'.blk,.int .i64 (n:Int)]=_
     rw [HPB.out];rfl
    show Trk w F _ (y12 tb p' n::y0o p')
    rw [e]
    exact HTA.out
 ·have h5i:¬ (5:Int) < (ces.length:Int):=by omega
  have HTT:Hid (tt=.node ces (cks.map P.t)):=by
   show _=_
   rw [HTOP.out,if_neg (show ¬ 5 < (T.node ces (cks.map P.t)).es.length from h5)]
  clear HTOP
  cases y
  ·go_wp2
   have T4:=HT3.out.blkSet 1 (.int .i64 ((n:Int)+1))
   refine bodyPost_ret (v:=.tuple #[x,.bool false]) ?_ rfl ⟨rfl,.node p.blk cav ces cbv cks,?_,?_⟩
   ·simp [results,Tryz.results111,go_sem]
   ·rw [HTT.out,P.t_node]
   ·have e:y12 tb (.node p.blk cav ces cbv cks) (n+1)=Res.blk tb 187 ([ptrV p.blk,.int .i64 (n:Int)].set 1 (.int .i64 ((n:Int)+1))):=by
     show Res.blk tb 187 [ptrV p.blk,.int .i64 ((n+1:Nat):Int)]=Res.blk tb 187 [ptrV p.blk,.int .i64 ((n:Int)+1)]
     rw [show ((n+1:Nat):Int)=(n:Int)+1 from zTbe]
    exact zsiD
  ·go_wp2
   refine bodyPost_ret (v:=.tuple #[x,.bool true]) ?_ rfl ⟨rfl,.node p.blk cav ces cbv cks,?_,?_⟩
   ·simp [results,Tryz.results111,go_sem]
   ·rw [HTT.out,P.t_node]
   ·exact HT3.out.perm (perm_of_cnt fun a=>zNod)
theorem y16 (w:World) (b:Nat) (av bv:Value) (ea:List En) (x:En) (eb:List En) (l:List P) (ab:Nat) (aav:Value) (aes:List En) (abv:Value) (aks:List P) (cb:Nat) (cav:Value) (ces:List En) (cbv:Value) (cks r:List P)
 (hs:Sep w (y0o (.node b av (ea++x::eb) bv (l++.node ab aav aes abv aks::.node cb cav ces cbv cks::r)))) (hl:ea.length=l.length) (hn:(ea++x::eb).length≤1000000) (hkn:(l++.node ab aav aes abv aks::.node cb cav ces cbv cks::r).length≤1000000) (han:aes.length≤1000000) (hcn:ces.length≤1000000) (hakn:aks.length≤1000000) (hckn:cks.length≤1000000)
 (ae:List En) (y:En) (hae:aes=ae++[y]) (ak:List P) (tk:List P) (hak:aks=ak++tk) (htk:tk.length≤1) (hleaf:tk=[]→ak=[]) :
 Calls Tryz.prog 194 #[ptrV b,.int .i64 (l.length:Int)] w fun e w'=>e=.returned (.tuple #[])∧∃ p',p'.blk=b∧p'.t=.node (ea++y::eb) (l.map P.t++.node ae (ak.map P.t)::.node (x::ces) ((tk++cks).map P.t)::r.map P.t) ∧
  Trk w (feet (y0o (.node b av (ea++x::eb) bv (l++.node ab aav aes abv aks::.node cb cav ces cbv cks::r)))) w' (y0o p'):=z8YU
theorem y17 (w:World) (b:Nat) (av bv:Value) (ea:List En) (x:En) (eb:List En) (l:List P) (ab:Nat) (aav:Value) (aes:List En) (abv:Value) (aks:List P) (cb:Nat) (cav:Value) (ces:List En) (cbv:Value) (cks r:List P)
 (hs:Sep w (y0o (.node b av (ea++x::eb) bv (l++.node ab aav aes abv aks::.node cb cav ces cbv cks::r)))) (hl:ea.length=l.length) (hn:(ea++x::eb).length≤1000000) (hkn:(l++.node ab aav aes abv aks::.node cb cav ces cbv cks::r).length≤1000000) (han:aes.length≤1000000) (hcn:ces.length≤1000000) (hakn:aks.length≤1000000) (hckn:cks.length≤1000000)
 (ce:List En) (y:En) (hce:ces=y::ce) (ck:List P) (tk:List P) (hck:cks=tk++ck) (htk:tk.length≤1) (hleaf:tk=[]→ck=[]∧aks=[]) :
 Calls Tryz.prog 195 #[ptrV b,.int .i64 (l.length:Int)] w fun e w'=>e=.returned (.tuple #[])∧∃ p',p'.blk=b∧p'.t=.node (ea++y::eb) (l.map P.t++.node (aes++[x]) ((aks++tk).map P.t)::.node ce (ck.map P.t)::r.map P.t) ∧
  Trk w (feet (y0o (.node b av (ea++x::eb) bv (l++.node ab aav aes abv aks::.node cb cav ces cbv cks::r)))) w' (y0o p'):=z1Ef
theorem y18 (w:World) (b:Nat) (av bv:Value) (ea:List En) (x:En) (eb:List En) (l:List P) (ab:Nat) (aav:Value) (aes:List En) (abv:Value) (aks:List P) (cb:Nat) (cav:Value) (ces:List En) (cbv:Value) (cks r:List P)
 (hs:Sep w (y0o (.node b av (ea++x::eb) bv (l++.node ab aav aes abv aks::.node cb cav ces cbv cks::r)))) (hl:ea.length=l.length) (hn:(ea++x::eb).length≤1000000) (hkn:(l++.node ab aav aes abv aks::.node cb cav ces cbv cks::r).length≤1000000) (han:aes.length≤1000000) (hcn:ces.length≤1000000) (hakn:aks.length≤1000000) (hckn:cks.length≤1000000) :
 Calls Tryz.prog 196 #[ptrV b,.int .i64 (l.length:Int)] w fun e w'=>e=.returned (.tuple #[])∧∃ p',p'.blk=b∧p'.t=.node (ea++eb) (l.map P.t++.node (aes++x::ces) ((aks++cks).map P.t)::r.map P.t) ∧
  Trk w (feet (y0o (.node b av (ea++x::eb) bv (l++.node ab aav aes abv aks::.node cb cav ces cbv cks::r)))) w' (y0o p'):=z0Lz
theorem y19 (d:Nat) (w:World) (b:Nat) (av bv:Value) (es:List En) (l:List P) (A C:P) (r:List P) (hs:Sep w (y0o (.node b av es bv (l++A::C::r)))) (hk:(l++A::C::r).length=es.length+1) (hF:∀ q∈l++r,Fat 2 d q.t) (ha:Fat 3 d A.t) (hc:Fat 1 d C.t)
 (hfl:(T.node es ((l++A::C::r).map P.t)).flat.length≤99999) :
 Calls Tryz.prog 194 #[ptrV b,.int .i64 (l.length:Int)] w fun e w'=>e=.returned (.tuple #[])∧∃ p',p'.blk=b∧Fat (es.length - 1) (d+1) p'.t∧p'.t.flat=(T.node es ((l++A::C::r).map P.t)).flat∧Trk w (feet (y0o (.node b av es bv (l++A::C::r)))) w' (y0o p'):=zEOg
theorem y1a (d:Nat) (w:World) (b:Nat) (av bv:Value) (es:List En) (l:List P) (A C:P) (r:List P) (hs:Sep w (y0o (.node b av es bv (l++A::C::r)))) (hk:(l++A::C::r).length=es.length+1) (hF:∀ q∈l++r,Fat 2 d q.t) (ha:Fat 1 d A.t) (hc:Fat 3 d C.t)
 (hfl:(T.node es ((l++A::C::r).map P.t)).flat.length≤99999) :
 Calls Tryz.prog 195 #[ptrV b,.int .i64 (l.length:Int)] w fun e w'=>e=.returned (.tuple #[])∧∃ p',p'.blk=b∧Fat (es.length - 1) (d+1) p'.t∧p'.t.flat=(T.node es ((l++A::C::r).map P.t)).flat∧Trk w (feet (y0o (.node b av es bv (l++A::C::r)))) w' (y0o p'):=zeNY
theorem y1b (d:Nat) (w:World) (b:Nat) (av bv:Value) (es:List En) (l:List P) (A C:P) (r:List P) (hs:Sep w (y0o (.node b av es bv (l++A::C::r)))) (hk:(l++A::C::r).length=es.length+1) (hF:∀ q∈l++r,Fat 2 d q.t) (ha:Fat 1 d A.t) (hc:Fat 1 d C.t)
 (hfl:(T.node es ((l++A::C::r).map P.t)).flat.length≤99999) :
 Calls Tryz.prog 196 #[ptrV b,.int .i64 (l.length:Int)] w fun e w'=>e=.returned (.tuple #[])∧∃ p',p'.blk=b∧Fat (es.length - 1) (d+1) p'.t∧p'.t.flat=(T.node es ((l++A::C::r).map P.t)).flat∧Trk w (feet (y0o (.node b av es bv (l++A::C::r)))) w' (y0o p'):=zI7H
theorem y1c (d:Nat) (w:World) (b:Nat) (av bv:Value) (es:List En) (l:List P) (c:P) (r:List P) (hs:Sep w (y0o (.node b av es bv (l++c::r)))) (hk:(l++c::r).length=es.length+1) (hes:1≤es.length) (hF:∀ q∈l++r,Fat 2 d q.t) (hc:Fat 1 d c.t)
 (hfl:(T.node es ((l++c::r).map P.t)).flat.length≤99999) :
 Calls Tryz.prog 176 #[ptrV b,.int .i64 (l.length:Int)] w fun e w'=>e=.returned (.tuple #[])∧∃ p',p'.blk=b∧Fat (es.length - 1) (d+1) p'.t∧p'.t.flat=(T.node es ((l++c::r).map P.t)).flat∧Trk w (feet (y0o (.node b av es bv (l++c::r)))) w' (y0o p'):=zSry
end TyV
end Go.Proofs.YteggkjdlajgenaaGreatDoor
namespace Go.Proofs.YteggkjdlajgenaaGreatDoor
open Go.RowKit Go.Afx
namespace TyV
mutual
theorem y1d:∀ {p:P} {w:World},Sep w (y0o p)→∀ e∈p.t.flat,e.val.oneCell'=true
 | .node b av es bv ks,w,h,e,he=>by
  rw [y0t] at h
  rw [P.t_node,flat_node] at he
  have ho:Own w 196 2 av es.length (enC es):=h.all (y0r av es) zInm
  exact z4eG
theorem y1e:∀ {ks:List P} {w:World},Sep w (y0p ks)→∀ q∈ks,∀ e∈q.t.flat,e.val.oneCell'=true
 | [],_,_,q,hq,_,_=>absurd hq zPXO
 | k::ks,w,h,q,hq,e,he=>by
  exact zcWO
end
theorem y1f (w:World) (b:Nat) (av bv:Value) (ae:List En) (x:En) (hs:Sep w (y0o (.node b av (ae++[x]) bv []))) (hn:ae.length≤99999) :
 Calls Tryz.prog 175 #[ptrV b] w fun e w'=>e=.returned (.agg #[.string (kb x.key),x.val])∧∃ av',Trk w (feet (y0o (.node b av (ae++[x]) bv []))) w' (y0o (.node b av' ae bv [])):=by
 have T0:=Trk.start hs
 generalize hF:feet (y0o (.node b av (ae++[x]) bv []))=F at *
 obtain ⟨w1,hw1⟩:∃ w1,w.alloc (.cells #[.string ⟨#[]⟩,(.slice none 0 0)] 196)=w1:=⟨_,rfl⟩
 have b1:=zppX
 have kz1:Blk w1 w.heap.size 196 [.string ⟨#[]⟩,(.slice none 0 0)]:=hw1▸Blk.new w _ _
 have T1:=T0.new (r:=Res.blk w.heap.size 196 [.string ⟨#[]⟩,(.slice none 0 0)]) kz1 zg6m zg6m b1
 have T1:Trk w F w1 ([y0q b av bv,y0r av (ae++[x])]++[y0s bv [],Res.blk w.heap.size 196 [.string ⟨#[]⟩,(.slice none 0 0)]]):=T1.perm (perm_of_cnt fun a=>zR75)
 have kb1:Blk w1 b 194 [av,bv]:=T1.blk zbCR
 have oa1:Own w1 196 2 av (ae++[x]).length (enC (ae++[x])):=T1.own zbCR
 have ok1:Own w1 185 1 bv ([]:List P).length (ptrs []):=T1.own z2oI
 have hxo:x.val.oneCell'=true:=by
  exact zofW
 obtain ⟨pk,ck,hbv,_,_⟩:=y0f ok1
 obtain ⟨pa,ca,hav,_,_⟩:=y06 oa1
 obtain ⟨na,hna⟩:∃ na,(ae++[x]).length=na:=⟨_,rfl⟩
 have hna1:(na:Int) - 1=(ae.length:Int):=by rw [←hna];simp
 have hna2:1≤na:=zTbe
 have hna3:na≤100000:=zTbe
 have hlf:Calls Tryz.prog 95 #[ptrV b] w1 fun e w'=>e=.returned (.bool true)∧w'=w1:=y0l w1 b _ av pk 0 ck (hbv▸kb1)
 have hrm:∀ w2,Sep w2 [y0q b av bv,y0r av (ae++[x])]→Calls Tryz.prog 174 #[.pointer (some ⟨b,0,none⟩),.int .i64 (ae.length:Int)] w2 fun e w'=>e=.returned (.agg #[.string (kb x.key),x.val])∧∃ av',Trk w2 (feet [y0q b av bv,y0r av (ae++[x])]) w' [y0q b av' bv,y0r av' ae]:=fun w2 hs=>by
  exact zjNL
 obtain ⟨x0,x1⟩:=pg_cells kb1
 rw [hav,hna] at x0
 have HLF:=Lib.hid hlf
 have HRM:=Lib.hid hrm
 have HT1:=Lib.hid T1
 have HXO:=Lib.hid hxo
 have hbl:=kb1.lt
 unfold ptrV at HLF ⊢
 clear T0 T1 b1 kz1 kb1 oa1 ok1 hlf hrm hs hF hbv hav hna hxo
 go_enter Tryz.func175,Tryz.ntmps175
 go_wp2_with fail
 refine HLF.out.mono ?_
 rintro e wq ⟨rfl,hq⟩
 subst hq
 go_wp2_with fail
 refine wp_region_lit_plan [] [(0,0),(1,0),(2,0),(3,0),(4,0),(5,0),(6,0),(7,1),(8,0),(9,0),(10,4),(11,4)] (fun _=>False) zyVB zyVB (fun c a d v w h=>zx0I) ?_
 go_wp2_with (first|(refine stp ?_))
 refine (HRM.out _ HT1.out.drew.sep.left).mono ?_
 rintro e w2 ⟨rfl,av',hT⟩
 have T2:=HT1.out.drew.call hT
 have T2:Trk w F w2 (Res.blk w.heap.size 196 [.string ⟨#[]⟩,(.slice none 0 0)]::y0o (.node b av' ae bv [])):=T2.perm (perm_of_cnt fun a=>zR75)
 have kz2:Blk w2 w.heap.size 196 [.string ⟨#[]⟩,(.slice none 0 0)]:=T2.blk List.mem_cons_self
 have z0:=kz2.cell 0
 have z1:=kz2.cell 1
 simp only [List.getElem?_cons_zero,List.getElem?_cons_succ] at z0 z1
 have hf0:=kz2.frozen 0
 have hf1:=kz2.frozen 1
 have hxo:=HXO.out
 have HT2:=Lib.hid T2
 clear hT T2 kz2 HRM HT1 x0 x1
 go_wp2_with (first|(refine stp ?_))
 have T3:=(HT2.out.blkSet 0 (.string (kb x.key))).blkSet 1 x.val
 have kz3:Blk ((w2.setCell ⟨w.heap.size,0,none⟩ (.string (kb x.key))).setCell ⟨w.heap.size,1,none⟩ x.val) w.heap.size 196 [.string (kb x.key),x.val]:=T3.blk List.mem_cons_self
 have m0:=kz3.cell 0
 have m1:=kz3.cell 1
 simp only [List.getElem?_cons_zero,List.getElem?_cons_succ] at m0 m1
 exact bodyPost_ret (v:=.agg #[.string (kb x.key),x.val]) (by simp [results,Tryz.results175,go_sem,m0,m1]) rfl ⟨rfl,av',T3.drop⟩
theorem y1g (d:Nat) (w:World) (b:Nat) (av bv:Value) (es:List En) (kl:List P) (kc:P) (x:En) (init:List En) (hs:Sep w (y0o (.node b av es bv (kl++[kc])))) (hk:(kl++[kc]).length=es.length+1) (hes:1≤es.length) (hF:∀ q∈kl,Fat 2 d q.t)
 (hfl:(T.node es ((kl++[kc]).map P.t)).flat.length≤99999) (hcf:kc.t.flat=init++[x]) (hxo:x.val.oneCell'=true)
 (hc:∀ w2,Sep w2 (y0o kc)→Calls Tryz.prog 175 #[ptrV kc.blk] w2 fun e w'=>e=.returned (.agg #[.string (kb x.key),x.val])∧∃ p',p'.blk=kc.blk∧Fat 1 d p'.t∧p'.t.flat=init∧Trk w2 (feet (y0o kc)) w' (y0o p')) :
 Calls Tryz.prog 175 #[ptrV b] w fun e w'=>e=.returned (.agg #[.string (kb x.key),x.val])∧∃ p',p'.blk=b∧Fat (es.length - 1) (d+1) p'.t∧p'.t.flat=wl es (kl.map P.t)++init ∧
  Trk w (feet (y0o (.node b av es bv (kl++[kc])))) w' (y0o p'):=by
 have T0:=Trk.start hs
 generalize hFF:feet (y0o (.node b av es bv (kl++[kc])))=F at *
 obtain ⟨w1,hw1⟩:∃ w1,w.alloc (.cells #[.string ⟨#[]⟩,(.slice none 0 0)] 196)=w1:=⟨_,rfl⟩
 have b1:=zppX
 have kz1:Blk w1 w.heap.size 196 [.string ⟨#[]⟩,(.slice none 0 0)]:=hw1▸Blk.new w _ _
 have T1:=T0.new (r:=Res.blk w.heap.size 196 [.string ⟨#[]⟩,(.slice none 0 0)]) kz1 zg6m zg6m b1
 have T1:Trk w F w1 (y0q b av bv::y0s bv (kl++[kc])::(y0o kc++(y0r av es::Res.blk w.heap.size 196 [.string ⟨#[]⟩,(.slice none 0 0)]::y0p kl))):=T1.perm (perm_of_cnt fun a=>zR75)
 have kb1:Blk w1 b 194 [av,bv]:=T1.blk zInm
 have ok1:Own w1 185 1 bv (kl++[kc]).length (ptrs (kl++[kc])):=T1.own zInm
 obtain ⟨gk,offk,capk,hbv,hgk,p0⟩:=sl_ptr (k:=kl.length) (ok1.sl (B:=fun _=>True) (fun _ _=>trivial)) zPXO
 have hcl:(kl++[kc])[kl.length]'(zPXO)=kc:=zPXO
 rw [hcl] at p0
 obtain ⟨nk,hnk⟩:∃ nk,(kl++[kc]).length=nk:=⟨_,rfl⟩
 rw [hnk] at hbv
 have hel1:=z6vj
 have hnk1:(nk:Int) - 1=(kl.length:Int):=zunR
 have hnk2:1≤nk:=zunR
 have hnk3:nk≤100000:=zTbe
 have hnk4:¬ nk=0:=zTbe
 have hnk5:kl.length < nk:=zTbe
 have hlf:=y0l w1 b _ av (some ⟨gk,offk,none⟩) nk capk (hbv▸kb1)
 rw [decide_eq_false hnk4] at hlf
 have hp1:(y0q b av bv::y0s bv (kl++[kc])::(y0o kc++(y0r av es::Res.blk w.heap.size 196 [.string ⟨#[]⟩,(.slice none 0 0)]::y0p kl))).Perm (y0o kc++(y0q b av bv::y0s bv (kl++[kc])::y0r av es::Res.blk w.heap.size 196 [.string ⟨#[]⟩,(.slice none 0 0)]::y0p kl)):=perm_of_cnt fun a=>zR75
 have HC:=Lib.hid (hc w1 (T1.sepOf hp1))
 obtain ⟨x0,x1⟩:=pg_cells kb1
 rw [hbv] at x1
 have HLF:=Lib.hid hlf
 have HT1:=Lib.hid T1
 have HP1:=Lib.hid hp1
 have hbl:=kb1.lt
 have HNK:=Lib.hid hnk
 have HBV:=Lib.hid hbv
 unfold ptrV at HLF HC p0 ⊢
 clear T0 T1 b1 kz1 kb1 ok1 hlf hc hs hFF hbv hcl hnk hp1
 go_enter Tryz.func175,Tryz.ntmps175
 go_wp2_with fail
 refine HLF.out.mono ?_
 rintro e wq ⟨rfl,hq⟩
 subst hq
 go_wp2_with fail
 refine HC.out.mono ?_
 rintro e w2 ⟨rfl,p',hpb,hpf,hpfl,hT⟩
 clear hw1 x0 x1 p0
 have T2:=HT1.out.use HP1.out hT
 obtain ⟨w3,hw3⟩:∃ w3,w2.alloc (.cells #[.string (kb x.key),x.val] 196)=w3:=⟨_,rfl⟩
 have b3:=zUeY
 have kx3:Blk w3 w2.heap.size 196 [.string (kb x.key),x.val]:=hw3▸Blk.new w2 _ _
 have T3:=T2.new (r:=Res.blk w2.heap.size 196 [.string (kb x.key),x.val]) kx3 zg6m zg6m b3
 obtain ⟨cb,cav,ces,cbv,cks,rfl⟩:=P.eta p'
 obtain rfl:cb=kc.blk:=hpb
 have T3:Trk w F w3 (y0o (.node b av es bv (kl++.node kc.blk cav ces cbv cks::[]))++[Res.blk w2.heap.size 196 [.string (kb x.key),x.val],Res.blk w.heap.size 196 [.string ⟨#[]⟩,(.slice none 0 0)]]):=T3.perm (perm_of_cnt fun a=>by
  have e1:ptrs (kl++.node kc.blk cav ces cbv cks::[])=ptrs (kl++[kc]):=zy6c
  have e2:(kl++P.node kc.blk cav ces cbv cks::[]).length=(kl++[kc]).length:=zPXO
  simp only [cnt_append,cnt_cons,cnt_nil,y0o,y0p,y0q,y0r,y0s,P.resL_append,P.resL_cons,P.resL_nil,P.res_node,e1,e2]<;>omega)
 have hkel:es.length=(kl.map P.t).length:=by
  have h2:(kl++[kc]).length=kl.length+1:=zPXO
  rw [List.length_map];omega
 have hcf2:(T.node es ((kl++P.node kc.blk cav ces cbv cks::[]).map P.t)).flat=wl es (kl.map P.t)++init:=by
  exact zQ3r
 have hmd:=y1c d w3 b av bv es kl (.node kc.blk cav ces cbv cks) [] T3.sep.left (by rw [←hk];simp) hes (fun q hq=>hF q (by simpa using hq)) hpf (by
  rw [hcf2]
  have h1:=flat_at es [] (kl.map P.t) kc.t [] hkel
  rw [List.append_nil,tl_nil,List.append_nil,hcf] at h1
  have h2:=z2gj
  rw [h2,h1] at hfl
  simp at hfl ⊢
  omega)
 have HMD:=Lib.hid hmd
 have HT3:=Lib.hid T3
 have HCF2:=Lib.hid hcf2
 unfold ptrV at HMD
 have hxl:w2.heap.size < w3.heap.size:=kx3.lt
 have HW3:=Lib.hid hw3
 clear hT T2 T3 b3 kx3 hpf hpfl hcf2 hmd HC HLF HP1 HT1
 go_wp2_with fail
 refine HMD.out.mono ?_
 clear hw3
 rintro e w4 ⟨rfl,p2,hb2,hf2,hfl2,hT2⟩
 have T4:=HT3.out.call hT2
 have T4:Trk w F w4 (Res.blk w.heap.size 196 [.string ⟨#[]⟩,(.slice none 0 0)]::Res.blk w2.heap.size 196 [.string (kb x.key),x.val]::y0o p2):=T4.perm (perm_of_cnt fun a=>zR75)
 have kz4:Blk w4 w.heap.size 196 [.string ⟨#[]⟩,(.slice none 0 0)]:=T4.blk List.mem_cons_self
 have kx4:Blk w4 w2.heap.size 196 [.string (kb x.key),x.val]:=T4.blk (List.mem_cons_of_mem _ List.mem_cons_self)
 have z0:=kz4.cell 0
 have z1:=kz4.cell 1
 have v0:=kx4.cell 0
 have v1:=kx4.cell 1
 simp only [List.getElem?_cons_zero,List.getElem?_cons_succ] at z0 z1 v0 v1
 have hf0:=kz4.frozen 0
 have hf1:=kz4.frozen 1
 have HT4:=Lib.hid T4
 have HB2:=Lib.hid hb2
 have HF2:=Lib.hid hf2
 have HFL2:=Lib.hid hfl2
 clear T4 kz4 kx4 hT2 HT3 HMD hb2 hf2 hfl2
 go_wp2
 have T5:=(HT4.out.blkSet 0 (.string (kb x.key))).blkSet 1 x.val
 have kz5:Blk ((w4.setCell ⟨w.heap.size,0,none⟩ (.string (kb x.key))).setCell ⟨w.heap.size,1,none⟩ x.val) w.heap.size 196 [.string (kb x.key),x.val]:=T5.blk List.mem_cons_self
 have m0:=kz5.cell 0
 have m1:=kz5.cell 1
 simp only [List.getElem?_cons_zero,List.getElem?_cons_succ] at m0 m1
 exact bodyPost_ret (v:=.agg #[.string (kb x.key),x.val]) (by simp [results,Tryz.results175,go_sem,m0,m1]) rfl ⟨rfl,p2,HB2.out,HF2.out,by rw [HFL2.out,HCF2.out],T5.drop.drop⟩
theorem y1h:∀ (d m:Nat) (w:World) (p:P) (x:En) (init:List En),1≤m→Fat m d p.t→p.t.flat=init++[x]→p.t.flat.length≤99999→Sep w (y0o p) →
 Calls Tryz.prog 175 #[ptrV p.blk] w fun e w'=>e=.returned (.agg #[.string (kb x.key),x.val])∧∃ p',p'.blk=p.blk∧Fat (m - 1) d p'.t∧p'.t.flat=init∧Trk w (feet (y0o p)) w' (y0o p'):=zVnS
end TyV
end Go.Proofs.YteggkjdlajgenaaGreatDoor
namespace Go.Proofs.YteggkjdlajgenaaGreatDoor
open Go.RowKit Go.Afx
namespace TyV
@[go_sem] theorem y1i (w:World) (s v:Value):(Instr.field 196 (.agg #[s,v]) 1).run Tryz.prog w=.ok v w:=z42J
theorem y1j (w:World) (b:Nat) (av bv:Value) (es:List En) (k:Key) (hs:Sep w (y0o (.node b av es bv []))) (hr:Rise es) (hn:es.length≤99999) (hh:has k es=false) :
 Calls Tryz.prog 159 #[ptrV b,.string (kb k)] w fun e w'=>e=.returned (.tuple #[(.slice none 0 0),.bool false])∧Trk w (feet (y0o (.node b av es bv []))) w' (y0o (.node b av es bv [])):=by
 have T0:=Trk.start hs
 generalize hF:feet (y0o (.node b av es bv []))=F at *
 rw [y0t] at T0
 have kb0:Blk w b 194 [av,bv]:=T0.blk zInm
 have oa:Own w 196 2 av es.length (enC es):=T0.own zInm
 have ok:Own w 185 1 bv ([]:List P).length (ptrs []):=T0.own zInm
 obtain ⟨pk,ck,hbv,_,_⟩:=y0f ok
 have HFD:=Lib.hid (y0k w b _ av bv es k (fun _=>True) kb0 (oa.sl (B:=fun _=>True) (fun _ _=>trivial)) hr zTbe)
 rw [hh] at HFD
 generalize pos k es=i at *
 have HT0:=Lib.hid T0
 have HBV:=Lib.hid hbv
 have hbl:=kb0.lt
 unfold ptrV at HFD ⊢
 clear T0 kb0 oa ok hh hs hF hr hbv
 go_enter Tryz.func159,Tryz.ntmps159
 go_wp2_with fail
 refine HFD.out.mono ?_
 clear HFD
 rintro e w2 ⟨rfl,hb2⟩
 have T2:=HT0.out.below hb2
 have kb2:Blk w2 b 194 [av,bv]:=T2.blk zInm
 have HLF:=Lib.hid (y0l w2 b _ av pk 0 ck (HBV.out▸kb2))
 have HT2:=Lib.hid T2
 unfold ptrV at HLF
 clear T2 kb2 hb2
 go_wp2_with fail
 refine HLF.out.mono ?_
 rintro e wq ⟨rfl,hq⟩
 subst hq
 go_wp2
 exact bodyPost_ret (v:=.tuple #[(.slice none 0 0),.bool false]) (by simp [results,Tryz.results159,go_sem]) rfl ⟨rfl,HT2.out⟩
theorem y1k (w:World) (b:Nat) (av bv:Value) (es:List En) (k:Key) (hs:Sep w (y0o (.node b av es bv []))) (hr:Rise es) (hn:es.length≤99999) (hh:has k es=true) :
 Calls Tryz.prog 159 #[ptrV b,.string (kb k)] w fun e w'=>∃ x,es[pos k es]?=some x∧e=.returned (.tuple #[x.val,.bool true])∧∃ av',Trk w (feet (y0o (.node b av es bv []))) w' (y0o (.node b av' (es.take (pos k es)++es.drop (pos k es+1)) bv [])):=zbju
theorem y1l (d:Nat) (w:World) (b:Nat) (av bv:Value) (ea eb:List En) (kl:List P) (kc:P) (kr:List P) (k:Key) (x:Value) (y:Bool) (fl':List En) (hs:Sep w (y0o (.node b av (ea++eb) bv (kl++kc::kr)))) (hr:Rise (ea++eb)) (hk:(kl++kc::kr).length=(ea++eb).length+1) (hes:1≤(ea++eb).length) (hF:∀ q∈kl++kr,Fat 2 d q.t)
 (hn:(ea++eb).length≤99999) (hh:has k (ea++eb)=false) (hl:kl.length=pos k (ea++eb)) (hal:ea.length=kl.length) (hfl:(wl ea (kl.map P.t)++(fl'++tl eb (kr.map P.t))).length≤99999)
 (hc:∀ w2,Sep w2 (y0o kc)→Calls Tryz.prog 159 #[ptrV kc.blk,.string (kb k)] w2 fun e w'=>e=.returned (.tuple #[x,.bool y])∧∃ p',p'.blk=kc.blk∧Fat 1 d p'.t∧p'.t.flat=fl'∧Trk w2 (feet (y0o kc)) w' (y0o p')) :
 Calls Tryz.prog 159 #[ptrV b,.string (kb k)] w fun e w'=>e=.returned (.tuple #[x,.bool y])∧∃ p',p'.blk=b∧Fat ((ea++eb).length - 1) (d+1) p'.t∧p'.t.flat=wl ea (kl.map P.t)++(fl'++tl eb (kr.map P.t)) ∧
  Trk w (feet (y0o (.node b av (ea++eb) bv (kl++kc::kr)))) w' (y0o p'):=zjjp
theorem y1m (d:Nat) (w:World) (b:Nat) (av bv:Value) (ea eb:List En) (kl:List P) (kc:P) (kr:List P) (k:Key) (v:Value) (x:En) (init:List En) (hs:Sep w (y0o (.node b av (ea++⟨k,v⟩::eb) bv (kl++kc::kr)))) (hr:Rise (ea++⟨k,v⟩::eb)) (hk:(kl++kc::kr).length=(ea++⟨k,v⟩::eb).length+1) (hF:∀ q∈kl++kr,Fat 2 d q.t)
 (hn:(ea++⟨k,v⟩::eb).length≤99999) (hh:has k (ea++⟨k,v⟩::eb)=true) (hl:kl.length=pos k (ea++⟨k,v⟩::eb)) (hal:ea.length=kl.length) (hxo:x.val.oneCell'=true) (hfl:(wl ea (kl.map P.t)++(init++tl (x::eb) (kr.map P.t))).length≤99999)
 (hc:∀ w2,Sep w2 (y0o kc)→Calls Tryz.prog 175 #[ptrV kc.blk] w2 fun e w'=>e=.returned (.agg #[.string (kb x.key),x.val])∧∃ p',p'.blk=kc.blk∧Fat 1 d p'.t∧p'.t.flat=init∧Trk w2 (feet (y0o kc)) w' (y0o p')) :
 Calls Tryz.prog 159 #[ptrV b,.string (kb k)] w fun e w'=>e=.returned (.tuple #[v,.bool true])∧∃ p',p'.blk=b∧Fat ((ea++⟨k,v⟩::eb).length - 1) (d+1) p'.t∧p'.t.flat=wl ea (kl.map P.t)++(init++tl (x::eb) (kr.map P.t)) ∧
  Trk w (feet (y0o (.node b av (ea++⟨k,v⟩::eb) bv (kl++kc::kr)))) w' (y0o p'):=zGNV
theorem y1n (k:Key):∀ (d m:Nat) (w:World) (p:P),(0 < d→1≤m)→Fat m d p.t→Rise p.t.flat→p.t.flat.length≤99999→Sep w (y0o p) →
 Calls Tryz.prog 159 #[ptrV p.blk,.string (kb k)] w fun e w'=>e=.returned (.tuple #[(Afx.look k p.t.flat).getD (.slice none 0 0),.bool (Afx.look k p.t.flat).isSome])∧∃ p',p'.blk=p.blk∧Fat (m - 1) d p'.t∧p'.t.flat=del k p.t.flat∧Trk w (feet (y0o p)) w' (y0o p'):=by
 intro d
 induction d with
 | zero =>
  exact z0be
 | succ d ih =>
  intro m w p hm hf hr hn hs
  obtain ⟨b,av,es,bv,ks,rfl⟩:=P.eta p
  rw [P.t_node] at hf hr hn ⊢
  obtain ⟨hf1,hf2,hf3⟩:=hf
  have hm1:=hm zTbe
  have hel:es.length≤99999:=Nat.le_trans (es_flat_len (.node es _)) hn
  have hkl:=z673
  obtain ⟨a,bb,l,c,r,hsp,hg⟩:=split_page (k:=k) hr hf2
  have hlk:=hsp.look
  have hdl:=hsp.del
  have hres:=hr.es
  have hpl:pos k es < ks.length:=zIJi
  have hcm:(ks[pos k es]).t=c:=by
   exact zxXA
  have hks:=ziwa
  have hkll:=zwlH
  generalize hkc:ks[pos k es]=kc at *
  generalize ks.take (pos k es)=kl at *
  generalize ks.drop (pos k es+1)=kr at *
  subst hks
  have hlr:kl.map P.t=l∧kr.map P.t=r:=by
   exact zPjL
  obtain ⟨hl1,hr1⟩:=hlr
  have hfl:=hsp.fl
  have hr2:Rise c.flat:=zkeD
  have hn2:c.flat.length≤99999:=zsK8
  have hfc:Fat 2 d c:=hf3 c zAzv
  have hFF:∀ q∈kl++kr,Fat 2 d q.t:=fun q hq=>hf3 q.t (by
   rw [List.mem_map]
   refine ⟨q,?_,rfl⟩
   rcases List.mem_append.1 hq with h|h
   ·exact List.mem_append_left _ h
   ·exact List.mem_append_right _ (List.mem_cons_of_mem _ h))
  have hes:=hsp.es_
  have hal:a.length=kl.length:=by rw [hkll];exact hsp.al
  cases hh:has k es
  ·have hdf:=hdl.2 hh
   have hdlen:(wl a (kl.map P.t)++(del k c.flat++tl bb (kr.map P.t))).length≤99999:=by
    rw [hl1,hr1,←hdf]
    exact Nat.le_trans (del_length k _) hn
   subst hes
   refine (y1l d w b av bv a bb kl kc kr k ((Afx.look k c.flat).getD (.slice none 0 0)) (Afx.look k c.flat).isSome (del k c.flat) hs hres hkl zTbe hFF hel hh hkll hal hdlen (fun w2 hs2=>?_)).mono ?_
   ·have h1:=ih 2 w2 kc (fun _=>zTbe) (hcm▸hfc) (hcm▸hr2) (hcm▸hn2) hs2
    rw [hcm] at h1
    exact h1
   ·rintro e w' ⟨rfl,p',hb',hf',ht',hT⟩
    rw [hlk.2 hh]
    exact ⟨rfl,p',hb',hf'.weaken zTbe,by rw [ht',hdf,hl1,hr1],hT⟩
  ·obtain ⟨v,rest,hd1,hd2,hd3⟩:=hdl.1 hh
   exact zBnQ
theorem y1o (w:World) (tb:Nat) (p:P) (d n:Nat) (k:Key) (hs:Sep w (y13 tb p n)) (hg:Afx.Good d p.t) (hn:n=p.t.flat.length) (hl:n≤99999) :
 Calls Tryz.prog 138 #[ptrV tb,.string (kb k)] w fun e w'=>e=.returned (.tuple #[(Afx.look k p.t.flat).getD (.slice none 0 0),.bool (Afx.look k p.t.flat).isSome])∧∃ d' p',Afx.Good d' p'.t∧p'.t.flat=del k p.t.flat ∧
  Trk w (feet (y13 tb p n)) w' (y13 tb p' (if (Afx.look k p.t.flat).isSome then n - 1 else n)):=by
 have T0:=Trk.start hs
 generalize hF:feet (y13 tb p n)=F at *
 have kt0:Blk w tb 187 [ptrV p.blk,.int .i64 (n:Int)]:=T0.blk zInm
 have HDROP:=Lib.hid (y1n k d (min 1 d) w p zTbe hg.fat hg.rise zTbe (hs.right (a:=[y12 tb p n])))
 obtain ⟨c0,c1⟩:=pg_cells kt0
 have hrd:=hg.rise.del (k:=k)
 have hyn:(Afx.look k p.t.flat).isSome=true→1≤n:=fun h=>by
  exact zh60
 have hdl:(del k p.t.flat).length≤99999:=Nat.le_trans (del_length k _) zTbe
 have HT0:=Lib.hid T0
 have HRD:=Lib.hid hrd
 generalize del k p.t.flat=fl' at *
 generalize hx:(Afx.look k p.t.flat).getD (.slice none 0 0)=x at *
 generalize hy:(Afx.look k p.t.flat).isSome=y at *
 have hnf:(n:Int)≤99999:=zTbe
 unfold ptrV at c0 HDROP ⊢
 have hm0:min 1 d - 1=0:=zTbe
 rw [hm0] at HDROP
 clear T0 kt0 hs hF hg hn hx hy hrd hm0
 go_enter Tryz.func138,Tryz.ntmps138
 go_wp2_with fail
 refine HDROP.out.mono ?_
 clear HDROP
 rintro e w2 ⟨rfl,p',hpb,hpf,hpfl,hT⟩
 have hp1:=zYhk
 have T2:=HT0.out.use hp1 hT
 obtain ⟨cb,cav,ces,cbv,cks,rfl⟩:=P.eta p'
 obtain rfl:cb=p.blk:=hpb
 rw [P.t_node] at hpf hpfl
 have T3:=zwy1
 have kt2:Blk w2 tb 187 [ptrV p.blk,.int .i64 (n:Int)]:=T3.blk zInm
 have hcel:ces.length≤99999:=by
  have h1:=es_flat_len (T.node ces (cks.map P.t))
  rw [hpfl] at h1
  exact Nat.le_trans h1 hdl
 obtain ⟨kd0,kd1,_⟩:=hpf.kids
 have hkn:cks.length≤100000:=by
  exact z2NX
 obtain ⟨x0,x1⟩:=pg_cells kt2
 unfold ptrV at x0
 have hf1:=kt2.frozen 1
 have HT3:=Lib.hid T3
 have HPF:=Lib.hid hpf
 have HPFL:=Lib.hid hpfl
 clear T2 T3 kt2 hp1 hT c0 c1 HT0 hpf hpfl
 cases y
 ·go_upto_region 7 with fail
  obtain ⟨n',hn'⟩:∃ n',n'=n:=⟨_,rfl⟩
  obtain ⟨wX,hwX⟩:∃ wX,wX=w2:=⟨_,rfl⟩
  have TX:Trk w F wX (Res.blk tb 187 [ptrV p.blk,.int .i64 (n':Int)]::y0q p.blk cav cbv::y0r cav ces::y0s cbv cks::y0p cks):=by rw [hwX,hn'];exact HT3.out
  rw [←hwX]
  have HN:=Lib.hid hn'
  clear hn' hwX
  have ktX:Blk wX tb 187 [ptrV p.blk,.int .i64 (n':Int)]:=TX.blk zInm
  have kpX:Blk wX p.blk 194 [cav,cbv]:=TX.blk zInm
  have oaX:Own wX 196 2 cav ces.length (enC ces):=TX.own zInm
  have okX:Own wX 185 1 cbv cks.length (ptrs cks):=TX.own zInm
  obtain ⟨pa,ca,hav,_,_⟩:=y06 oaX
  obtain ⟨pk,ck,hbv,_,_⟩:=y0f okX
  obtain ⟨x0,x1⟩:=pg_cells ktX
  obtain ⟨y0,y1⟩:=pg_cells kpX
  have hf0:=ktX.frozen 0
  rw [hav] at y0
  rw [hbv] at y1
  unfold ptrV at x0
  have hlf:=y0l wX p.blk _ cav pk cks.length ck (hbv▸kpX)
  unfold ptrV at hlf
  have HTX:=Lib.hid TX
  by_cases hc0:ces.length=0
  ·have hces:ces=[]:=List.eq_nil_of_length_eq_zero hc0
   have hc0i:=zWKw
   rcases cks with _|⟨k1,ks1⟩
   ·rw [show decide (([]:List P).length=0)=true from rfl] at hlf
    have HLF:=Lib.hid hlf
    have HCES:=Lib.hid hces
    have HBV:=Lib.hid hbv
    have HAV:=Lib.hid hav
    clear TX ktX kpX oaX okX hlf hces hbv hav
    go_wp2_with fail
    refine HLF.out.mono ?_
    rintro e wq ⟨rfl,hq⟩
    subst hq
    go_wp2
    refine bodyPost_ret (v:=.tuple #[x,.bool false]) zvlG rfl ⟨rfl,d,.node p.blk cav ces cbv [],⟨?_,?_⟩,?_,?_⟩
    ·rw [P.t_node]
     rcases Nat.eq_zero_or_pos d with h|h
     ·subst h
      exact HPF.out.weaken zTbe
     ·have:=(kd1 h).1;simp at this
    ·rw [P.t_node,HPFL.out];exact HRD.out
    ·rw [P.t_node,HPFL.out]
    ·show Trk w F _ (y13 tb (.node p.blk cav ces cbv []) n)
     exact z94R
   ·rw [decide_eq_false zPXO] at hlf
    have hd:0 < d:=by
     exact zXmU
    have hk1:ks1=[]:=by
     exact zlJK
    subst hk1
    obtain ⟨gk,offk,capk,hbv2,hgk,p0⟩:=sl_ptr (k:=0) (okX.sl (B:=fun _=>True) (fun _ _=>trivial)) zPXO
    rw [hbv] at hbv2
    cases hbv2
    have p0:=z0Ni
    have HLF:=Lib.hid hlf
    have HCES:=Lib.hid hces
    have HBV:=Lib.hid hbv
    have HAV:=Lib.hid hav
    clear TX ktX kpX oaX okX hlf hces hbv hav
    go_wp2_with fail
    refine HLF.out.mono ?_
    rintro e wq ⟨rfl,hq⟩
    subst hq
    go_wp2
    have T9:=HTX.out.blkSet 0 (.pointer (some ⟨k1.blk,0,none⟩))
    refine bodyPost_ret (v:=.tuple #[x,.bool false]) zvlG rfl ⟨rfl,d - 1,k1,⟨?_,?_⟩,?_,?_⟩
    ·exact ((kd1 hd).2 k1.t zPXO).weaken zTbe
    ·have h1:=HPFL.out
     exact zkxu
    ·have h1:=HPFL.out
     exact zcet
    ·show Trk w F _ (y13 tb k1 n)
     exact zmp4
  ·have hc0i:((ces.length:Int) == 0)=false:=by rw [beq_eq_false_iff_ne];omega
   have hc0j:¬ ((ces.length:Int)=0):=zTbe
   clear TX ktX kpX oaX okX hlf hbv hav
   go_wp2
   refine bodyPost_ret (v:=.tuple #[x,.bool false]) zvlG rfl ⟨rfl,d,.node p.blk cav ces cbv cks,⟨?_,?_⟩,?_,?_⟩
   ·rw [P.t_node]
    exact z8CV
   ·rw [P.t_node,HPFL.out];exact HRD.out
   ·rw [P.t_node,HPFL.out]
   ·show Trk w F _ (y13 tb (.node p.blk cav ces cbv cks) n)
    exact z94R
 ·have hn1:=hyn rfl
  have hni:(1:Int)≤(n:Int):=zTbe
  have hcs:((n - 1:Nat):Int)=(n:Int) - 1:=zTbe
  go_upto_region 7 with fail
  have T4:=HT3.out.blkSet 1 (.int .i64 ((n:Int) - 1))
  obtain ⟨n',hn'⟩:∃ n',n'=n - 1:=⟨_,rfl⟩
  have TX:Trk w F (w2.setCell ⟨tb,1,none⟩ (.int .i64 ((n:Int) - 1))) (Res.blk tb 187 [ptrV p.blk,.int .i64 (n':Int)]::y0q p.blk cav cbv::y0r cav ces::y0s cbv cks::y0p cks):=by
   rw [hn',hcs];exact T4
  generalize (w2.setCell ⟨tb,1,none⟩ (.int .i64 ((n:Int) - 1)))=wX at *
  have HN:=Lib.hid hn'
  clear hn' T4 hcs
  have ktX:Blk wX tb 187 [ptrV p.blk,.int .i64 (n':Int)]:=TX.blk zInm
  have kpX:Blk wX p.blk 194 [cav,cbv]:=TX.blk zInm
  have oaX:Own wX 196 2 cav ces.length (enC ces):=TX.own zInm
  have okX:Own wX 185 1 cbv cks.length (ptrs cks):=TX.own zInm
  obtain ⟨pa,ca,hav,_,_⟩:=y06 oaX
  obtain ⟨pk,ck,hbv,_,_⟩:=y0f okX
  obtain ⟨x0,x1⟩:=pg_cells ktX
  obtain ⟨y0,y1⟩:=pg_cells kpX
  have hf0:=ktX.frozen 0
  rw [hav] at y0
  rw [hbv] at y1
  unfold ptrV at x0
  have hlf:=y0l wX p.blk _ cav pk cks.length ck (hbv▸kpX)
  unfold ptrV at hlf
  have HTX:=Lib.hid TX
  by_cases hc0:ces.length=0
  ·have hces:ces=[]:=List.eq_nil_of_length_eq_zero hc0
   have hc0i:=zWKw
   rcases cks with _|⟨k1,ks1⟩
   ·rw [show decide (([]:List P).length=0)=true from rfl] at hlf
    have HLF:=Lib.hid hlf
    have HCES:=Lib.hid hces
    have HBV:=Lib.hid hbv
    have HAV:=Lib.hid hav
    clear TX ktX kpX oaX okX hlf hces hbv hav
    go_wp2_with fail
    refine HLF.out.mono ?_
    rintro e wq ⟨rfl,hq⟩
    subst hq
    go_wp2
    refine bodyPost_ret (v:=.tuple #[x,.bool true]) zvlG rfl ⟨rfl,d,.node p.blk cav ces cbv [],⟨?_,?_⟩,?_,?_⟩
    ·rw [P.t_node]
     rcases Nat.eq_zero_or_pos d with h|h
     ·subst h
      exact HPF.out.weaken zTbe
     ·have:=(kd1 h).1;simp at this
    ·rw [P.t_node,HPFL.out];exact HRD.out
    ·rw [P.t_node,HPFL.out]
    ·show Trk w F _ (y13 tb (.node p.blk cav ces cbv []) (n - 1))
     exact z94R
   ·rw [decide_eq_false zPXO] at hlf
    have hd:0 < d:=by
     exact zXmU
    have hk1:ks1=[]:=by
     exact zlJK
    subst hk1
    obtain ⟨gk,offk,capk,hbv2,hgk,p0⟩:=sl_ptr (k:=0) (okX.sl (B:=fun _=>True) (fun _ _=>trivial)) zPXO
    rw [hbv] at hbv2
    cases hbv2
    have p0:=z0Ni
    have HLF:=Lib.hid hlf
    have HCES:=Lib.hid hces
    have HBV:=Lib.hid hbv
    have HAV:=Lib.hid hav
    clear TX ktX kpX oaX okX hlf hces hbv hav
    go_wp2_with fail
    refine HLF.out.mono ?_
    rintro e wq ⟨rfl,hq⟩
    subst hq
    go_wp2
    have T9:=HTX.out.blkSet 0 (.pointer (some ⟨k1.blk,0,none⟩))
    refine bodyPost_ret (v:=.tuple #[x,.bool true]) zvlG rfl ⟨rfl,d - 1,k1,⟨?_,?_⟩,?_,?_⟩
    ·exact ((kd1 hd).2 k1.t zPXO).weaken zTbe
    ·have h1:=HPFL.out
     exact zkxu
    ·have h1:=HPFL.out
     exact zcet
    ·show Trk w F _ (y13 tb k1 (n - 1))
     exact zmp4
  ·have hc0i:((ces.length:Int) == 0)=false:=by rw [beq_eq_false_iff_ne];omega
   have hc0j:¬ ((ces.length:Int)=0):=zTbe
   clear TX ktX kpX oaX okX hlf hbv hav
   go_wp2
   refine bodyPost_ret (v:=.tuple #[x,.bool true]) zvlG rfl ⟨rfl,d,.node p.blk cav ces cbv cks,⟨?_,?_⟩,?_,?_⟩
   ·rw [P.t_node]
    exact z8CV
   ·rw [P.t_node,HPFL.out];exact HRD.out
   ·rw [P.t_node,HPFL.out]
   ·show Trk w F _ (y13 tb (.node p.blk cav ces cbv cks) (n - 1))
    exact z94R
def y1p (w:World) (lk:Option Value) (k:Key) (v:Value) (wr:World) (d:Nat):Prop :=
 ∃ q,v=ptrV q.blk∧Sep wr (y0o q)∧(∃ m,Fat m d q.t)∧Rise q.t.flat∧q.t.flat.length≤99999∧lk=Afx.look k q.t.flat∧Below w.heap.size w wr
theorem y1q (w:World) (tb:Nat) (p:P) (d n:Nat) (k:Key) (hs:Sep w (y13 tb p n)) (hg:Afx.Good d p.t) (hn:n=p.t.flat.length) (hl:n≤99999) :
 Calls Tryz.prog 67 #[ptrV tb,.string (kb k)] w fun e w'=>e=.returned (.tuple #[(Afx.look k p.t.flat).getD (.slice none 0 0),.bool (Afx.look k p.t.flat).isSome])∧Below w.heap.size w w':=by
 have kt0:Blk w tb 187 [ptrV p.blk,.int .i64 (n:Int)]:=hs.all (y12 tb p n) zPXO
 obtain ⟨c0,c1⟩:=pg_cells kt0
 obtain ⟨lk,hlk0⟩:∃ lk,Afx.look k p.t.flat=lk:=⟨_,rfl⟩
 rw [hlk0]
 have HST:=zfax
 unfold ptrV at c0 ⊢
 clear kt0 hs hg hn hl hlk0
 go_enter Tryz.func67,Tryz.ntmps67
 go_wp2
 go_loopw [7,8,9] (fun v i ok wr=>∃ d,y1p w lk k v wr d) (fun v _ _ wr=>gm (y1p w lk k v wr))
 case atStart=>exact ⟨d,HST.out⟩
 case round =>
  have hst:=gm_spec hrel
  obtain ⟨dd,hdd⟩:∃ dd,gm (y1p w lk k u7 wr)=dd:=⟨_,rfl⟩
  rw [hdd] at hst
  have HGM:=Lib.hid hdd
  clear hdd
  obtain ⟨q,rfl,hsq,⟨m,hf⟩,hr,hln,hlk,hb⟩:=hst
  obtain ⟨b,av,es,bv,ks,rfl⟩:=P.eta q
  rw [y0t] at hsq
  rw [P.t_node] at hf hr hln hlk
  have kb0:Blk wr b 194 [av,bv]:=hsq.all (y0q b av bv) zInm
  have oa:Own wr 196 2 av es.length (enC es):=hsq.all (y0r av es) zInm
  have ok:Own wr 185 1 bv ks.length (ptrs ks):=hsq.all (y0s bv ks) zInm
  have hel:=zTDp
  have hfd:=y0k wr b _ av bv es k (fun _=>True) kb0 (oa.sl (B:=fun _=>True) (fun _ _=>trivial)) hr.es zTbe
  have HKB:=Lib.hid kb0
  have HOA:=Lib.hid oa
  have HOK:=Lib.hid ok
  have HB:=Lib.hid hb
  have HSQ:=Lib.hid hsq
  have HLK:=Lib.hid hlk
  have hbl:=kb0.lt
  simp only [P.blk_node] at *
  unfold ptrV at hfd ⊢
  cases hh:has k es
  ·rw [hh] at hfd
   have HFD:=Lib.hid hfd
   rcases dd with _|dd
   ·have hk0:ks=[]:=by simpa using hf.2
    subst hk0
    have hlk2:lk=none:=by
     exact zajd
    subst hlk2
    obtain ⟨pk,ck,hbv,_,_⟩:=y0f ok
    have HLF:=Lib.hid (fun w2 (hb:Below wr.heap.size wr w2)=>y0l w2 b _ av pk 0 ck (hbv▸HKB.out.below hb))
    unfold ptrV at HLF
    generalize pos k es=i at *
    clear kb0 oa ok hfd hb hsq hlk hh hbv hr hf hrel
    go_wp2_with fail
    refine HFD.out.mono ?_
    rintro e w2 ⟨rfl,hb2⟩
    have HB2:=Lib.hid hb2
    clear hb2
    go_wp2_with fail
    refine (HLF.out w2 HB2.out).mono ?_
    rintro e wq ⟨rfl,hq⟩
    subst hq
    go_wp2
    exact bodyPost_ret (v:=.tuple #[(.slice none 0 0),.bool false]) (by simp [results,Tryz.results67,go_sem]) rfl ⟨rfl,HB.out.trans (HB2.out.mono HB.out.size)⟩
   ·obtain ⟨a,bb,l,c,r,hsp,hgc⟩:=split_page (k:=k) hr hf.2.1
    exact zkpe
  ·rw [hh] at hfd
   have HFD:=Lib.hid hfd
   obtain ⟨x,hx,hlx⟩:∃ x,es[pos k es]?=some x∧lk=some x.val:=by
    exact zADN
   subst hlx
   obtain ⟨hpl,hxe⟩:=List.getElem?_eq_some_iff.1 hx
   obtain ⟨g,off,cap,hav,hg,e0,e1⟩:=sl_en (oa.sl (B:=fun _=>True) (fun _ _=>trivial)) hpl
   rw [hxe] at e0 e1
   have HAV:=Lib.hid hav
   generalize pos k es=i at *
   obtain ⟨ne,hne⟩:∃ ne,es.length=ne:=⟨_,rfl⟩
   rw [hne] at hpl HAV
   clear kb0 oa ok hfd hb hsq hlk hh hav hr hf hrel hln hx hxe hne
   go_wp2_with fail
   refine HFD.out.mono ?_
   rintro e w2 ⟨rfl,hb2⟩
   have HB2:=Lib.hid hb2
   have f0:=(hb2.cell (p:=⟨g,off+i*2,none⟩) hg).trans e0
   have f1:=(hb2.cell (p:=⟨g,off+i*2+1,none⟩) hg).trans e1
   obtain ⟨y0,y1⟩:=pg_cells (HKB.out.below hb2)
   rw [HAV.out] at y0
   clear hb2 e0 e1
   go_wp2
   exact bodyPost_ret (v:=.tuple #[x.val,.bool true]) (by simp [results,Tryz.results67,go_sem]) rfl ⟨rfl,HB.out.trans (HB2.out.mono HB.out.size)⟩
end TyV
end Go.Proofs.YteggkjdlajgenaaGreatDoor
