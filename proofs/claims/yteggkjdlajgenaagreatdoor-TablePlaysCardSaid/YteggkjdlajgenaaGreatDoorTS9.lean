/- Contracts of the functions that the statement reaches, one behind the other. No condition beyond each theorem's own. -/
import Derived.Test.YteggkjdlajgenaaGreatDoorTS8
set_option linter.unusedSimpArgs false
set_option linter.unusedVariables false
set_option maxRecDepth 100000
set_option maxHeartbeats 4000000
theorem zY0w {P:Prop} (h:P:=by
 have zz:∃ w1,w.alloc (.cells #[.slice px nx cx,.bool xu,.pointer (some ⟨xt.b,0,none⟩)] 123)=w1:=⟨_,rfl⟩
 exact zz):P:=h
theorem zoIR {P:Prop} (h:P:=by
 have zz:Blk w1 w.heap.size 123 [.slice px nx cx,.bool xu,.pointer (some ⟨xt.b,0,none⟩)]:=hw1▸Blk.new w _ _
 exact zz):P:=h
theorem zIMD {P:Prop} (h:P:=by
 go_wp2_with fail
 refine HF.out.mono ?_
 rintro e w2 ⟨rfl,hw⟩
 subst w2
 go_wp2
 go_ret3
 exact ⟨rfl,rfl⟩
 ):P:=h
theorem zsr9 {P:Prop} (h:P:=by
 go_wp2_with fail
 refine HF.out.mono ?_
 clear HF
 cases o with
 | none =>
  rintro e w2 ⟨rfl,hb2⟩
  have HB2:=Lib.hid hb2
  clear hb2
  go_wp2
  go_ret3
  exact ⟨rfl,HB2.out⟩
 | some r =>
  rintro e w2 ⟨v,rfl,ho2,hf2,hb2⟩
  have HB2:=Lib.hid hb2
  have HO2:=Lib.hid ho2
  have HF2:=Lib.hid hf2
  obtain ⟨p2,c2,rfl,_,_⟩:=own_formT ho2
  clear hb2 ho2 hf2
  go_wp2
  go_ret3
  exact ⟨_,rfl,HO2.out,HF2.out,HB2.out⟩
 ):P:=h
theorem z89f {P:Prop} (h:P:=by
 refine h2.mono ?_
 rintro e w' ⟨rfl,g',h3,h4⟩
 exact ⟨rfl,g',h1.trans h.dis h3,h4⟩
 ):P:=h
namespace Go.Proofs.YteggkjdlajgenaaGreatDoor
open Go.RowKit Go.Afx
theorem Alike.ins {c s:SchV} (h:Alike c s) (m:List (List AV)) (row:List AV):insMd c m row=insMd s m row:=by
 unfold insMd
 rw [h.kf,h.clash,h.limit,h.cols]
theorem Alike.upd {c s:SchV} (h:Alike c s) (m:List (List AV)) (k:Key) (row:List AV):updMd c m k row=updMd s m k row:=by
 unfold updMd
 rw [h.kf,h.clash,h.cols]
theorem Alike.del {c s:SchV} (h:Alike c s) (m:List (List AV)) (k:Key):delMd c m k=delMd s m k:=by
 unfold delMd
 rw [h.kf]
theorem Alike.loadGo {c s:SchV} (h:Alike c s):∀ (rows out:List (List AV)),Go.Proofs.YteggkjdlajgenaaGreatDoor.loadGo c out rows=Go.Proofs.YteggkjdlajgenaaGreatDoor.loadGo s out rows
 | [],_=>rfl
 | r::t,out=>by
  unfold Go.Proofs.YteggkjdlajgenaaGreatDoor.loadGo
  rw [h.ins,h.loadGo t]
theorem Alike.load {c s:SchV} (h:Alike c s) (rows:List (List AV)):loadMd c rows=loadMd s rows:=h.loadGo rows []
def abvP (k:Key) (wi:Bool) (x:Key):Bool:=Op.bytesLess k x || (wi && x == k)
def tailK (f:List AV→Key) (k:Key) (wi:Bool) (l:List (List AV)):List (List AV):=l.dropWhile fun r=>!abvP k wi (f r)
theorem find_drop {α:Type} (p:α→Bool):∀ l:List α,l.find? p=(l.dropWhile fun x=>!p x).head?
 | []=>rfl
 | x::t=>by
  rw [List.find?_cons,List.dropWhile_cons]
  cases p x
  ·exact find_drop p t
  ·rfl
theorem abv_idx (kf:Nat→List AV→Key) (i:Nat) (rows:List (List AV)) (k:Key) (wi:Bool):abv k wi (idxEnts kf i rows)=(tailK (kf i) k wi (byM kf i rows)).head?.map fun r=>⟨kf i r,.string (kb (kf 0 r))⟩:=by
 unfold abv idxEnts tailK
 rw [List.find?_map]
 have e:((fun e:En=>Op.bytesLess k e.key || (wi && e.key == k)) ∘ fun r=>(⟨kf i r,.string (kb (kf 0 r))⟩:En))=fun r=>abvP k wi (kf i r):=rfl
 rw [e,find_drop]
theorem drop_mid (f:List AV→Key):∀ (pre post:List (List AV)) (r:List AV),(pre++r::post).Pairwise (fun a b=>Op.bytesLess (f a) (f b)=true)→tailK f (f r) false (pre++r::post)=post
 | [],post,r,h=>by
  obtain ⟨h1,_⟩:=List.pairwise_cons.1 h
  unfold tailK
  rw [List.nil_append,List.dropWhile_cons]
  have e:abvP (f r) false (f r)=false:=by unfold abvP;rw [klt_irrefl];rfl
  rw [e]
  simp only [Bool.not_false,if_true]
  cases post with
  | nil=>rfl
  | cons x t =>
   rw [List.dropWhile_cons]
   have e2:abvP (f r) false (f x)=true:=by unfold abvP;rw [h1 x zPXO];rfl
   rw [e2];rfl
 | p::pre,post,r,h=>by
  rw [List.cons_append] at h
  obtain ⟨h1,h2⟩:=List.pairwise_cons.1 h
  have ih:=drop_mid f pre post r h2
  unfold tailK at ih ⊢
  rw [List.cons_append,List.dropWhile_cons]
  have e:abvP (f r) false (f p)=false:=by unfold abvP;rw [klt_asymm _ _ (h1 r zPXO)];rfl
  rw [e]
  exact ih
theorem tail_all (f:List AV→Key) (l:List (List AV)):tailK f [] true l=l:=by
 unfold tailK
 cases l with
 | nil=>rfl
 | cons x t =>
  rw [List.dropWhile_cons]
  have e:abvP [] true (f x)=true:=by
   unfold abvP
   cases f x with
   | nil=>rfl
   | cons a b=>rfl
  rw [e];rfl
theorem tail_suffix (f:List AV→Key) (k:Key) (wi:Bool) (l:List (List AV)):∃ pre,l=pre++tailK f k wi l:=⟨l.takeWhile fun r=>!abvP k wi (f r),List.takeWhile_append_dropWhile.symm⟩
theorem tail_find (f:List AV→Key) (k:Key) (P:List AV→Bool):∀ l:List (List AV),l.Pairwise (fun a b=>Op.bytesLess (f a) (f b)=true)→(tailK f k false l).find? P=l.find? fun r=>Op.bytesLess k (f r) && P r
 | [],_=>rfl
 | x::t,h=>by
  obtain ⟨h1,h2⟩:=List.pairwise_cons.1 h
  have ih:=tail_find f k P t h2
  unfold tailK at ih ⊢
  rw [List.dropWhile_cons]
  cases hx:Op.bytesLess k (f x) with
  | false =>
   have e:abvP k false (f x)=false:=by unfold abvP;rw [hx];rfl
   rw [e,List.find?_cons,hx]
   exact ih
  | true =>
   have e:abvP k false (f x)=true:=by unfold abvP;rw [hx];rfl
   rw [e]
   have e2:(if (!true)=true then List.dropWhile (fun r=>!abvP k false (f r)) t else x::t)=x::t:=rfl
   rw [e2]
   have hall:∀ y∈x::t,Op.bytesLess k (f y)=true:=fun y hy=>by
    rcases List.mem_cons.1 hy with rfl|hy
    ·exact hx
    ·exact klt_trans _ _ _ hx (h1 y hy)
   have:∀ l:List (List AV),(∀ y∈l,Op.bytesLess k (f y)=true)→l.find? P=l.find? fun r=>Op.bytesLess k (f r) && P r:=by
    intro l
    induction l with
    | nil=>intro _;rfl
    | cons y u ih2 =>
     intro hl
     rw [List.find?_cons,List.find?_cons,hl y zPXO,ih2 fun z hz=>hl z (by simp [hz])]
     rfl
   exact this _ hall
theorem filter_find (P:List AV→Bool):∀ l:List (List AV),l.filter P=match l.find? P with
    | none=>[]
    | some r=>r::((l.dropWhile fun x=>!P x).drop 1).filter P
  | []=>rfl
  | x::t=>by
    rw [List.filter_cons,List.find?_cons,List.dropWhile_cons]
    cases hx:P x with
    | true=>rfl
    | false=>exact filter_find P t
theorem nil_Put_s (w:World) (k:Key) (z:ByteArray):Calls Tryz.prog 112 #[.pointer none,.string (kb k),(.string z)] w fun e w'=>e=.returned (.tuple #[(.string ⟨#[]⟩),.bool false])∧Below w.heap.size w w':=by
 go_enter Tryz.func112,Tryz.ntmps112
 go_wp2
 exact bodyPost_ret (v:=.tuple #[(.string ⟨#[]⟩),.bool false]) (by simp [results,Tryz.results112,go_sem]) rfl ⟨rfl,Below.refl _ _⟩
theorem nil_Delete_s (w:World) (k:Key):Calls Tryz.prog 139 #[.pointer none,.string (kb k)] w fun e w'=>e=.returned (.tuple #[(.string ⟨#[]⟩),.bool false])∧Below w.heap.size w w':=by
 go_enter Tryz.func139,Tryz.ntmps139
 go_wp2
 exact bodyPost_ret (v:=.tuple #[(.string ⟨#[]⟩),.bool false]) zkS8 rfl ⟨rfl,Below.refl _ _⟩
theorem nil_Get_s (w:World) (k:Key):Calls Tryz.prog 63 #[.pointer none,.string (kb k)] w fun e w'=>e=.returned (.tuple #[(.string ⟨#[]⟩),.bool false])∧Below w.heap.size w w':=by
 go_enter Tryz.func63,Tryz.ntmps63
 go_wp2
 exact bodyPost_ret (v:=.tuple #[(.string ⟨#[]⟩),.bool false]) zM8Z rfl ⟨rfl,Below.refl _ _⟩
theorem nil_Next_s (w:World) (k:Key) (wi:Bool):Calls Tryz.prog 86 #[.pointer none,.string (kb k),.bool wi] w fun e w'=>e=.returned ((.tuple #[.string ⟨#[]⟩,(.string ⟨#[]⟩),.bool false]))∧Below w.heap.size w w':=by
 go_enter Tryz.func86,Tryz.ntmps86
 go_wp2_with fail
 refine (TyS.y1t w (.pointer none) none rfl).mono ?_
 rintro e w2 ⟨rfl,hb⟩
 unfold toldV
 simp only
 go_wp2
 exact bodyPost_ret (v:=(.tuple #[.string ⟨#[]⟩,(.string ⟨#[]⟩),.bool false])) zBTU rfl ⟨rfl,hb⟩
theorem nil_Keys_s (w:World) (k tu:Key) (most:Int):Calls Tryz.prog 62 #[.pointer none,.string (kb k),.string (kb tu),.int .i64 most] w fun e w'=>e=.returned (.slice none 0 0)∧Below w.heap.size w w':=by
 go_enter Tryz.func62,Tryz.ntmps62
 have HNX:=Lib.hid (nil_Next_s w k true)
 go_wp2_with fail
 refine HNX.out.mono ?_
 rintro e w2 ⟨rfl,hb⟩
 go_wp2
 go_loop [9,10,12] (fun l k ok=>l=.slice none 0 0∧k=.string ⟨#[]⟩∧ok=.bool false) (fun _ _ _=>0)
 case atStart=>exact ⟨rfl,rfl,rfl⟩
 case round =>
  obtain ⟨rfl,rfl,rfl⟩:=hrel
  go_wp2
  go_ret
  exact ⟨rfl,hb⟩
theorem box1t (w:World) (t:TypeId) (u:Value) (hu:u.oneCell'=true):Sl (w.alloc (.cells #[u] t)) (fun q=>q=w.heap.size) 1 (.slice (some ⟨w.heap.size,0,none⟩) 1 1) 1 [u] :=
 ⟨rfl,Ones.cons hu Ones.nil,.inr ⟨w.heap.size,0,1,rfl,Nat.le_refl _,zdUY,rfl,(Blk.new w t [u]).lt,fun j _=>by rw [Nat.zero_add];exact (Blk.new w t [u]).cell j⟩⟩
theorem RowsSq.pre {w w2 wr:World} {lv:Value} {rws:List RowV} (hb:Below w.heap.size w w2) (h:RowsSq w2 wr lv rws):RowsSq w wr lv rws:=by
 obtain ⟨h1,h2,h3,h4⟩:=h
 have hs:=hb.size
 exact ⟨h1,fun q hq=>Nat.le_trans hs (h2 q hq),hb.trans (h3.mono hs),fun r hr=>(h4 r hr).mono (Nat.le_refl _) (fun _ _ _=>rfl) (fun q hq _=>⟨Nat.le_trans hs hq.1,hq.2⟩)⟩
theorem RowsSq.below {w wr w':World} {lv:Value} {rws:List RowV} (h:RowsSq w wr lv rws) (hb:Below wr.heap.size wr w'):RowsSq w w' lv rws:=by
 obtain ⟨h1,h2,h3,h4⟩:=h
 exact ⟨h1.below hb,h2,h3.trans (hb.mono h3.size),fun r hr=>(h4 r hr).below hb⟩
theorem tscan_no (w:World) (R:Nat→Prop) (g:TabG) (h:TabOK w R g) (hs:Sep w g.res) (i:Int) (hi:(decide (0≤i) && decide (i < (g.xs.length:Int)))=false) (fr tu:ByteArray) (most:Int) :
 Calls Tryz.prog 23 #[ptrV g.tb,.int .i64 i,.string fr,.string tu,.int .i64 most] w fun e w'=>e=.returned (.slice none 0 0)∧w'=w:=by
 have hh:=thas_any w R g h hs i
 rw [hi] at hh
 have HH:=Lib.hid hh
 unfold ptrV at HH ⊢
 clear h hs hi hh
 go_enter Tryz.func23,Tryz.ntmps23
 go_wp2_with (go_at_call 61;refine HH.out.mono ?_;clear HH;rintro e w2 ⟨rfl,rfl⟩)
 exact zTTx
theorem tscan_any (w:World) (R:Nat→Prop) (g:TabG) (h:TabOK w R g) (hs:Sep w g.res) (i:Nat) (hi:i < g.xs.length) (fr tu:Key) (most:Int) (hm1:-9223372036854775808≤most) (hm2:most≤9223372036854775807) :
 Calls Tryz.prog 23 #[ptrV g.tb,.int .i64 i,.string (kb fr),.string (kb tu),.int .i64 most] w fun e w'=>∃ v rws,e=.returned v∧RowsSq w w' v rws∧rws.map RowV.l=scanR g i fr tu most:=by
 have hh:=thas_any w R g h hs i
 rw [show (decide (0≤(i:Int)) && decide ((i:Int) < (g.xs.length:Int)))=true by simp;omega] at hh
 have HH:=Lib.hid hh
 obtain ⟨d,hd⟩:=(h.it i hi).1
 have hl:=h.lenIt hi
 have hl2:=h.lim
 have hx2:i < g.S.idx.length:=zONN
 have HKY:Hid (∀ w2,Below w.heap.size w w2→Calls Tryz.prog 62 #[ptrV g.xs[i].2.b,.string (kb fr),.string (kb tu),.int .i64 most] w2 fun e w'=>∃ v,e=.returned v∧Own w' 9 1 v ((scanR g i fr tu most).map (kfS g.S i)).length (strC ((scanR g i fr tu most).map (kfS g.S i)))∧(∀ q,v.ownBlock=some q→w2.heap.size≤q)∧Below w2.heap.size w2 w'):=Lib.hid fun w2 hb=>by
  have h1:=keys_s w2 g.xs[i].2.b g.xs[i].2.p d g.xs[i].2.flat.length fr tu most ((TabG.itS hs hi).below hb) hd rfl zTbe hm1 hm2
  have e:(keysFrom fr tu g.xs[i].2.p.t.flat).take most.toNat=(scanR g i fr tu most).map (kfS g.S i):=keys_scan h hi fr tu most
  rw [e] at h1
  exact h1
 have hmem:∀ r∈scanR g i fr tu most,r∈g.rows:=fun r hr=>scan_mem (h.tab.uniq i hx2) hr
 have hrl:∀ r∈g.rows,r.length≤1000:=fun r hr=>by
  obtain ⟨p,hp,rfl⟩:=List.mem_map.1 hr
  have h1:=(fitB_len (h.ok p hp).fit).1
  have h2:=(sch_small h.st.right).1
  omega
 have HGET:Hid (∀ w2,Below w.heap.size w w2→∀ r∈scanR g i fr tu most,Calls Tryz.prog 63 #[ptrV g.xs[i].2.b,.string (kb (kfS g.S i r))] w2 fun e w'=>e=.returned (.tuple #[.string (kb (kfS g.S 0 r)),.bool true])∧Below w2.heap.size w2 w'):=Lib.hid fun w2 hb r hr=>by
  have h1:=TyS.y1q w2 g.xs[i].2.b g.xs[i].2.p d g.xs[i].2.flat.length (kfS g.S i r) ((TabG.itS hs hi).below hb) hd rfl zTbe
  have e:Afx.look (kfS g.S i r) g.xs[i].2.p.t.flat=some (.string (kb (kfS g.S 0 r))):=look_scan h hi (hmem r hr)
  rw [e] at h1
  exact h1
 have HROW:Hid (∀ w2,Below w.heap.size w w2→∀ r∈scanR g i fr tu most,Calls Tryz.prog 64 #[ptrV g.tb,.string (kb (kfS g.S 0 r))] w2 fun e w'=>∃ v',e=.returned v'∧Own w' 113 3 v' r.length (rowCells r)∧Below w2.heap.size w2 w'∧∀ q,v'.ownBlock=some q→w2.heap.size≤q):=Lib.hid fun w2 hb r hr=>by
  have h1:=trow_any w2 R g (h.below hb) (hs.below hb) (kfS g.S 0 r)
  rw [rowOf_key h (hmem r hr)] at h1
  exact h1
 have HRL:Hid (∀ r∈scanR g i fr tu most,r.length≤1000):=Lib.hid fun r hr=>hrl r (hmem r hr)
 have hsl:(scanR g i fr tu most).length≤1000:=by
  have h1:(scanR g i fr tu most).length≤(byM (kfS g.S) i g.rows).length:=by unfold scanR;exact Nat.le_trans z2Pg (List.length_filter_le (fromTo g.S i fr tu) _)
  have h3:=idx_len (kfS g.S) (n:=0) (rows:=g.rows) i
  unfold idxEnts at h3
  rw [List.length_map] at h3
  have:=g.rows_len
  omega
 have hkt:=TabG.blk hs
 have HKT:=Lib.hid hkt
 obtain ⟨c0,c1,c2,c3,c4,c5,c6,c7⟩:=tab_cells hkt
 obtain ⟨pi,ci,hiv,_,_⟩:=h.ix.form
 obtain ⟨gi,oi,cpi,hvi,_,hgi,e0,e1,e2⟩:=sl_three (f:=ixOne) (fun _=>rfl) h.ix hi
 rw [hvi] at c7
 have hlt:=hkt.lt
 have hxv:∃ p n c,g.xs[i].1.v=.slice p n c:=h.slots _ (List.getElem_mem hi)
 generalize scanR g i fr tu most=sc at *
 generalize g.xs[i]=q at *
 obtain ⟨⟨xv,xl,xu⟩,xt⟩:=q
 simp only [ixOne] at e0 e1 e2 hxv
 obtain ⟨px,nx,cx,rfl⟩:=hxv
 obtain ⟨w1,hw1⟩:=zY0w
 have hb1:=zppX
 have kx:=zoIR
 have x2:w1.cell? ⟨w.heap.size,2,none⟩=some (.pointer (some ⟨xt.b,0,none⟩)):=kx.cell 2
 have hlx:=kx.lt
 have HB1:=Lib.hid hb1
 have HKX:=Lib.hid kx
 have hkl:(sc.map (kfS g.S i)).length=sc.length:=List.length_map _
 unfold ptrV at HH HKY HGET HROW e2 ⊢
 simp only at HKY HGET
 clear h hs hh hd hl hl2 hx2 hmem hrl hkt hiv hvi hm1 hm2 kx
 go_enter Tryz.func23,Tryz.ntmps23
 go_wp2_with (go_at_call 61;refine HH.out.mono ?_;clear HH;rintro e w9 ⟨rfl,hw9⟩;subst w9)
 refine (HKY.out _ HB1.out).mono ?_
 clear HKY
 rintro e w2 ⟨kv,rfl,hok,hfk,hb2⟩
 obtain ⟨pk,ck,rfl,_,_⟩:=own_formT hok
 have HB2:=Lib.hid (HB1.out.trans (hb2.mono HB1.out.size))
 have hks:=hok.sl (B:=fun _=>True) (fun _ _=>trivial)
 have HKS:=Lib.hid hks
 have HKX2:=Lib.hid (HKX.out.below hb2)
 rw [hkl]
 clear hok hfk hb2 hb1 x2 hlx HKX c0 c1 c2 c3 c4 c5 c6 c7 hlt e0 e1 e2 hw1
 have HKL:=Lib.hid hkl
 clear hkl
 go_wp2
 go_loopw [11,35] (fun ov i wr=>∃ k:Nat,i=.int .i64 k∧k≤sc.length∧∃ rws,RowsSq w2 wr ov rws∧rws.map RowV.l=sc.take k) (fun _ i _=>sc.length - (intOf i).toNat)
 case atStart=>exact ⟨0,rfl,Nat.zero_le _,[],RowsSq.nil _ (Below.refl _ _),rfl⟩
 case round =>
  obtain ⟨k,rfl,hk,rws,hrw,hrk⟩:=hrel
  have hrn:rws.length=k:=by
   have:=congrArg List.length hrk
   rw [List.length_map,List.length_take] at this
   omega
  have hbw:=hrw.2.2.1
  have HBW:=Lib.hid (HB2.out.trans (hbw.mono HB2.out.size))
  have HRW:=Lib.hid hrw
  have HRK:=Lib.hid hrk
  obtain ⟨po,co,rfl,hc1,hc2⟩:=own_formT hrw.1
  have ho1:=hrw.1
  by_cases hkx:k < sc.length
  ·obtain ⟨gk,ok_,cpk,hvk,_,hgk,ek⟩:=sl_key (HKS.out.below hbw) (k:=k) (by rw [HKL.out];exact hkx)
   rw [HKL.out] at hvk
   cases hvk
   rw [List.getElem_map] at ek
   have hmk:sc[k]∈sc:=List.getElem_mem hkx
   have HG:=Lib.hid (fun w3 hb3=>HGET.out w3 hb3 sc[k] hmk)
   have HR:=Lib.hid (fun w3 hb3=>HROW.out w3 hb3 sc[k] hmk)
   have hrl:sc[k].length≤1000:=HRL.out _ hmk
   have HTK:Hid (sc.take (k+1)=sc.take k++[sc[k]]):=Lib.hid (List.take_append_getElem hkx).symm
   generalize kb (kfS g.S i sc[k])=k1 at *
   generalize kb (kfS g.S 0 sc[k])=k0 at *
   generalize sc[k]=rl at *
   have kx:=HKX2.out.below hbw
   have x2:wr.cell? ⟨w.heap.size,2,none⟩=some (.pointer (some ⟨xt.b,0,none⟩)):=kx.cell 2
   have hlx:=kx.lt
   have hlr:rws.length≤1000:=zTbe
   clear hrw hrk hbw kx hmk hrn ho1 hc1 hc2
   go_wp2_with (first
    | (go_at_call 63;refine (HG.out _ HBW.out).mono ?_;clear HG;rintro e w3 ⟨rfl,hb3⟩;have HB3:=Lib.hid hb3;clear hb3 x2 hlx ek)
    | (go_at_call 64;refine (HR.out _ (HBW.out.trans (HB3.out.mono HBW.out.size))).mono ?_;clear HR;rintro e w4 ⟨rv,rfl,ho4,hb4,hf4⟩;have HB4:=Lib.hid (HB3.out.trans (hb4.mono HB3.out.size));have HO4:=Lib.hid ho4;have HF4:=Lib.hid (fun q hq=>Nat.le_trans HB3.out.size (hf4 q hq));obtain ⟨p4,c4,rfl,_,_⟩:=own_formT ho4;have ho1:=(HRW.out.1.below HB4.out).below ((Below.refl _ _).alloc (Nat.le_refl _) (.cells #[.slice p4 rl.length c4] 37));have hs1:=box1t w4 37 (.slice p4 rl.length c4) rfl;clear hb4 hf4 ho4)
    | (at_builtin;refine wpList_app rfl _ _ rfl elemRowsT zdhv ho1 zdhv hs1 zefz zTbe ?_;intro v5 w5 g1 g2 g3 g4 g5;clear ho1 hs1;have G1:=Lib.hid g1;have G2:=Lib.hid g2;have G3:=Lib.hid g3;clear g1 g2 g3 g4 g5))
   go_roundw
   case rel =>
    have hq:=HRW.out.app HB4.out HO4.out HF4.out G1.out G2.out G3.out
    exact ⟨k+1,z3KH,zTbe,_,hq,by rw [List.map_append,HRK.out,HTK.out];rfl⟩
   case measure=>(simp [intOf])<;>omega
  ·obtain rfl:k=sc.length:=by omega
   clear hrw hrk hbw hrn ho1 hc1 hc2
   go_wp2
   go_ret
   exact ⟨_,rws,rfl,HRW.out.pre HB2.out,by rw [HRK.out,List.take_length]⟩
structure ActT where
 kind:Int
 n:Int
 key:ByteArray
 rv:Value
 row:List AV
 sv:Value
 rows:List RowV
def actCT1 (a:ActT):List Value:=[.int .i64 a.kind,.int .i64 a.n,.string a.key,a.rv,a.sv]
def actCT (l:List ActT):List Value:=(l.map actCT1).flatten
structure ActsAt (w:World) (B:Nat→Prop) (v:Value) (l:List ActT):Prop where
 sl:Sl w B 5 v l.length (actCT l)
 row:∀ a∈l,Sl w B 3 a.rv a.row.length (rowCells a.row)
 rows:∀ a∈l,RowsAt w B a.sv a.rows
 n64:∀ a∈l,fit64 a.kind∧fit64 a.n∧(∀ v∈a.row,fit64 v.n)∧∀ r∈a.rows,∀ v∈r.l,fit64 v.n
theorem ActsAt.below {w w':World} {B:Nat→Prop} {v:Value} {l:List ActT} (h:ActsAt w B v l) (hb:Below w.heap.size w w'):ActsAt w' B v l :=
 ⟨h.sl.below hb,fun a ha=>(h.row a ha).below hb,fun a ha=>(h.rows a ha).below hb,h.n64⟩
theorem ActsAt.only {w w':World} {S B:Nat→Prop} {v:Value} {l:List ActT} (h:ActsAt w B v l) (hb:Only S w w') (hd:∀ k,B k→¬ S k):ActsAt w' B v l :=
 ⟨h.sl.only hb hd,fun a ha=>(h.row a ha).only hb hd,fun a ha=>(h.rows a ha).only hb hd,h.n64⟩
def greatA (a:ActT):Bool:=greatB a.row || greatRowsB (a.rows.map RowV.l) || decide (300 < a.key.size)
def greatAs (l:List ActT):Bool:=decide (40 < l.length) || l.any greatA
def keyM (S:SchV) (m:List (List AV)) (a:ActT):Key:=if m.length=0∨a.n < 0 then a.key.toList else kfS S 0 (m.getD (a.n.toNat % m.length) [])
def doMd (S:SchV) (m:List (List AV)) (a:ActT):List (List AV) × Int :=
 if a.kind=0 then insMd S m a.row else if a.kind=1 then updMd S m (keyM S m a) a.row else if a.kind=2 then delMd S m (keyM S m a) else loadMd S (a.rows.map RowV.l)
def playMd (S:SchV) (m:List (List AV)) (l:List ActT):List (List AV):=l.foldl (fun m a=>(doMd S m a).1) m
theorem playMd_succ (S:SchV) (m:List (List AV)) (l:List ActT) {k:Nat} (hk:k < l.length):playMd S m (l.take (k+1))=(doMd S (playMd S m (l.take k)) l[k]).1:=by
 unfold playMd
 rw [←List.take_append_getElem hk,List.foldl_append]
 rfl
theorem insBy_last (kf:Nat→List AV→Key) (i:Nat) (r:List AV):∀ l:List (List AV),(∀ x∈l,Op.bytesLess (kf i x) (kf i r)=true)→insBy kf i r l=l++[r]
 | [],_=>rfl
 | x::t,h=>by
  rw [insBy,if_pos (h x zPXO),insBy_last kf i r t fun y hy=>h y (by simp [hy])]
  rfl
theorem byM_id_go (kf:Nat→List AV→Key) (i:Nat):∀ rows l:List (List AV),SortedBy kf i (l++rows)→rows.foldl (fun l r=>insBy kf i r l) l=l++rows
 | [],l,_=>zPXO
 | r::t,l,h=>by
  have h1:∀ x∈l,Op.bytesLess (kf i x) (kf i r)=true:=fun x hx=>(List.pairwise_append.1 h).2.2 x hx r zPXO
  rw [List.foldl_cons,insBy_last kf i r l h1,byM_id_go kf i t (l++[r]) (by rw [List.append_assoc];exact h),List.append_assoc]
  rfl
theorem byM_id (kf:Nat→List AV→Key) (i:Nat) {rows:List (List AV)} (h:SortedBy kf i rows):byM kf i rows=rows:=byM_id_go kf i rows [] h
def inP (S:SchV) (ps:List Int) (r:List AV):Bool:=ps.isEmpty || ps.contains (partO S r)
theorem tindex_any (w:World) (B:Nat→Prop) (v:Value) (l:List Int) (x:Int) (hl:Sl w B 1 v l.length (ints l)) :
 Calls Tryz.prog 150 #[v,.int .i64 x] w fun e w'=>(∃ r:Int,e=.returned (.int .i64 r)∧decide (0≤r)=l.contains x)∧Below w.heap.size w w':=by
 obtain ⟨p,cap,rfl,hc1,hc2⟩:=hl.form
 have HL:=Lib.hid hl
 clear hl
 go_enter Tryz.func150,Tryz.ntmps150
 go_wp2
 go_loopw [8] (fun i wr=>∃ k:Nat,i=.int .i64 k∧k≤l.length∧(l.take k).contains x=false∧Below w.heap.size w wr) (fun i _=>l.length - (intOf i).toNat)
 case atStart=>exact ⟨0,rfl,Nat.zero_le _,rfl,Below.refl _ _⟩
 case round =>
  obtain ⟨k,rfl,hk,hn,hb⟩:=hrel
  have HN:=Lib.hid hn
  have HB:=Lib.hid hb
  by_cases hka:k < l.length
  ·obtain ⟨g,off,cap1,hv,_,_,_,hlt,hc⟩:=(HL.out.below hb).place zTbe
   cases hv
   have e0:wr.cell? ⟨g,off+k,none⟩=some (.int .i64 l[k]):=by
    rw [hc k zUBQ]
    simp [ints]
   have HT:Hid (l[k]≠x→(l.take (k+1)).contains x=false):=fun h=>by
    rw [List.take_succ_eq_append_getElem hka,List.contains_append,HN.out]
    simp [Ne.symm h]
   have HY:Hid (l[k]=x→l.contains x=true):=fun h=>by
    rw [List.contains_iff_mem]
    exact h▸List.getElem_mem hka
   generalize l[k]=y at *
   clear hn hb hc
   by_cases hxy:y=x
   ·subst hxy
    have HC:=Lib.hid (HY.out rfl)
    clear HT HY
    go_wp2
    go_ret
    exact ⟨⟨k,rfl,by rw [HC.out];exact decide_eq_true zTbe⟩,HB.out⟩
   ·have HC:=Lib.hid (HT.out hxy)
    clear HT HY
    have d1:(x == y)=false:=beq_eq_false_iff_ne.2 (Ne.symm hxy)
    go_wp2
    exact ⟨⟨k+1,z3KH,zTbe,HC.out,HB.out⟩,zQOc⟩
  ·obtain rfl:k=l.length:=by omega
   have HC:Hid (l.contains x=false):=by
    have:=HN.out
    rwa [List.take_length] at this
   clear hn hb
   go_wp2
   go_ret
   exact ⟨⟨-1,rfl,by rw [HC.out];rfl⟩,HB.out⟩
theorem tcontains_any (w:World) (B:Nat→Prop) (v:Value) (l:List Int) (x:Int) (hl:Sl w B 1 v l.length (ints l)) :
 Calls Tryz.prog 118 #[v,.int .i64 x] w fun e w'=>e=.returned (.bool (l.contains x))∧Below w.heap.size w w':=by
 have HI:=Lib.hid (tindex_any w B v l x hl)
 obtain ⟨p,cap,rfl,hc1,hc2⟩:=hl.form
 clear hl
 go_enter Tryz.func118,Tryz.ntmps118
 go_wp2_with (go_at_call 150;refine HI.out.mono ?_;clear HI;rintro e w2 ⟨⟨r,rfl,hr⟩,hb2⟩)
 go_ret
 exact ⟨by rw [List.contains_eq_mem];rfl,hb2⟩
theorem among_any (w:World) (R:Nat→Prop) (g:TabG) (h:TabOK w R g) (hs:Sep w g.res) (B B2:Nat→Prop) (rv pv:Value) (row:List AV) (ps:List Int) (hr:Sl w B 3 rv row.length (rowCells row)) (hf:∀ a∈row,fit64 a.n) (hrl:row.length≤1000) (hp:Sl w B2 1 pv ps.length (ints ps)) :
 Calls Tryz.prog 87 #[ptrV g.tb,rv,pv] w fun e w'=>e=.returned (.bool (inP g.S ps row))∧Below w.heap.size w w':=by
 have HPT:=Lib.hid (tpart_any w R B g.S rv row h.st.sch hr hf hrl)
 have HCN:=Lib.hid (fun w2 (hb:Below w.heap.size w w2)=>tcontains_any w2 B2 pv ps (partO g.S row) (hp.below hb))
 have hkt:=TabG.blk hs
 obtain ⟨c0,c1,c2,c3,c4,c5,c6,c7⟩:=tab_cells hkt
 have hlt:=hkt.lt
 obtain ⟨pr,cr,rfl,_,_⟩:=hr.form
 obtain ⟨pp,cp,rfl,_,_⟩:=hp.form
 have HP:Hid (inP g.S ps row=(decide (ps.length=0) || ps.contains (partO g.S row))):=Lib.hid (by unfold inP;cases ps<;>simp)
 unfold ptrV
 simp only [SchV.agg] at HPT
 generalize partO g.S row=pn at *
 clear h hs hr hf hrl hp hkt
 by_cases h0:ps.length=0
 ·have e0:decide ((ps.length:Int)=0)=true:=decide_eq_true zTbe
  have e1:((ps.length:Int) == 0)=true:=beq_iff_eq.2 zTbe
  have HR:Hid (inP g.S ps row=true):=Lib.hid (by rw [HP.out,decide_eq_true h0];rfl)
  clear HP h0
  go_enter Tryz.func87,Tryz.ntmps87
  go_wp2
  go_ret
  exact ⟨by rw [HR.out];rfl,Below.refl _ _⟩
 ·have e1:((ps.length:Int) == 0)=false:=beq_eq_false_iff_ne.2 zTbe
  have HR:Hid (inP g.S ps row=ps.contains pn):=Lib.hid (by rw [HP.out,decide_eq_false h0];rfl)
  clear HP h0
  generalize ps.contains pn=bo at *
  go_enter Tryz.func87,Tryz.ntmps87
  go_wp2_with fail
  refine HPT.out.mono ?_
  clear HPT
  rintro e w2 ⟨rfl,hb2⟩
  have HB2:=Lib.hid hb2
  clear hb2 c0 c1 c2 c3 c4 c5 c6 c7 hlt
  go_wp2_with fail
  refine (HCN.out _ HB2.out).mono ?_
  clear HCN
  rintro e w3 ⟨rfl,hb3⟩
  have HB3:=Lib.hid (HB2.out.trans (hb3.mono HB2.out.size))
  clear hb3
  go_wp2
  go_ret
  exact ⟨by rw [HR.out];rfl,HB3.out⟩
def ToldT (S:SchV) (i:Nat) (T:List (List AV)) (s1 s2:ByteArray) (ok:Bool):Prop:=match T with
 | []=>s1=⟨#[]⟩∧s2=⟨#[]⟩∧ok=false
 | r::_=>s1=kb (kfS S i r)∧s2=kb (kfS S 0 r)∧ok=true
theorem told_tail (S:SchV) (i:Nat) (T:List (List AV)):∃ s1 s2 ok,toldV (.string ⟨#[]⟩) (T.head?.map fun r=>(⟨kfS S i r,.string (kb (kfS S 0 r))⟩:En))=.tuple #[.string s1,.string s2,.bool ok]∧ToldT S i T s1 s2 ok:=by
 cases T with
 | nil=>exact ⟨_,_,_,rfl,rfl,rfl,rfl⟩
 | cons r t=>exact ⟨_,_,_,rfl,rfl,rfl,rfl⟩
def FromOut (w:World) (S:SchV) (i:Nat) (o:Option (List AV)) (e:Ending) (w':World):Prop:=match o with
 | none=>e=.returned (.tuple #[.string ⟨#[]⟩,.slice none 0 0,.bool false])∧Below w.heap.size w w'
 | some r=>∃ v,e=.returned (.tuple #[.string (kb (kfS S i r)),v,.bool true])∧Own w' 113 3 v r.length (rowCells r)∧(∀ q,v.ownBlock=some q→w.heap.size≤q)∧Below w.heap.size w w'
def FromSt (w1:World) (S:SchV) (i:Nat) (by_:List (List AV)) (P:List AV→Bool) (o:Option (List AV)) (kv yv ov:Value) (wr:World) (n:Nat):Prop :=
 ∃ pre T s1 s2 ok,T.length=n∧kv=.string s1∧yv=.string s2∧ov=.bool ok∧by_=pre++T∧ToldT S i T s1 s2 ok∧o=T.find? P∧Below w1.heap.size w1 wr
theorem from_no (w:World) (R:Nat→Prop) (g:TabG) (h:TabOK w R g) (hs:Sep w g.res) (i:Int) (hi:(decide (0≤i) && decide (i < (g.xs.length:Int)))=false) (k:ByteArray) (wi:Bool) (pv:Value) :
 Calls Tryz.prog 57 #[ptrV g.tb,.int .i64 i,.string k,.bool wi,pv] w fun e w'=>e=.returned (.tuple #[.string ⟨#[]⟩,.slice none 0 0,.bool false])∧w'=w:=by
 have hh:=thas_any w R g h hs i
 rw [hi] at hh
 have HH:=Lib.hid hh
 unfold ptrV at HH ⊢
 clear h hs hi hh
 go_enter Tryz.func57,Tryz.ntmps57
 go_wp2_with (go_at_call 61;refine HH.out.mono ?_;clear HH;rintro e w9 ⟨rfl,hw9⟩;subst w9)
 go_ret3
 exact ⟨rfl,rfl⟩
theorem from_any (w:World) (R:Nat→Prop) (g:TabG) (h:TabOK w R g) (hs:Sep w g.res) (i:Nat) (hi:i < g.xs.length) (k:Key) (wi:Bool) (B2:Nat→Prop) (pv:Value) (ps:List Int) (hp:Sl w B2 1 pv ps.length (ints ps)) :
 Calls Tryz.prog 57 #[ptrV g.tb,.int .i64 i,.string (kb k),.bool wi,pv] w (FromOut w g.S i ((tailK (kfS g.S i) k wi (byM (kfS g.S) i g.rows)).find? (inP g.S ps))):=by
 have hh:=thas_any w R g h hs i
 rw [show (decide (0≤(i:Int)) && decide ((i:Int) < (g.xs.length:Int)))=true by simp;omega] at hh
 have HH:=Lib.hid hh
 obtain ⟨d,hd⟩:=(h.it i hi).1
 have hl:=h.lenIt hi
 have hl2:=h.lim
 have hx2:i < g.S.idx.length:=zONN
 have hby:=byM_spec (kfS g.S) i g.rows (h.tab.uniq i hx2)
 have HNX:Hid (∀ w2,Below w.heap.size w w2→∀ k wi,Calls Tryz.prog 86 #[ptrV g.xs[i].2.b,.string (kb k),.bool wi] w2 fun e w'=>∃ s1 s2 ok,e=.returned (.tuple #[.string s1,.string s2,.bool ok])∧ToldT g.S i (tailK (kfS g.S i) k wi (byM (kfS g.S) i g.rows)) s1 s2 ok∧Below w2.heap.size w2 w'):=Lib.hid fun w2 hb k wi=>by
  refine (next_s w2 g.xs[i].2.b g.xs[i].2.p d g.xs[i].2.flat.length k wi ((TabG.itS hs hi).below hb) hd rfl zTbe).mono ?_
  rintro e w' ⟨rfl,hb'⟩
  have e:g.xs[i].2.p.t.flat=idxEnts (kfS g.S) i g.rows:=(h.it i hi).2
  rw [e,abv_idx]
  obtain ⟨s1,s2,ok,h1,h2⟩:=told_tail g.S i (tailK (kfS g.S i) k wi (byM (kfS g.S) i g.rows))
  exact ⟨s1,s2,ok,by rw [h1],h2,hb'⟩
 have HROW:Hid (∀ w2,Below w.heap.size w w2→∀ r∈byM (kfS g.S) i g.rows,Calls Tryz.prog 64 #[ptrV g.tb,.string (kb (kfS g.S 0 r))] w2 fun e w'=>∃ v',e=.returned v'∧Own w' 113 3 v' r.length (rowCells r)∧Below w2.heap.size w2 w'∧∀ q,v'.ownBlock=some q→w2.heap.size≤q):=Lib.hid fun w2 hb r hr=>by
  have h1:=trow_any w2 R g (h.below hb) (hs.below hb) (kfS g.S 0 r)
  rw [rowOf_key h ((hby.2 r).1 hr)] at h1
  exact h1
 have HAM:Hid (∀ w2,Below w.heap.size w w2→∀ r∈byM (kfS g.S) i g.rows,∀ rv,Own w2 113 3 rv r.length (rowCells r)→Calls Tryz.prog 87 #[ptrV g.tb,rv,pv] w2 fun e w'=>e=.returned (.bool (inP g.S ps r))∧Below w2.heap.size w2 w'):=Lib.hid fun w2 hb r hr rv ho=>by
  obtain ⟨p,hp1,rfl⟩:=List.mem_map.1 ((hby.2 r).1 hr)
  have hok:=h.ok p hp1
  have h1:=(fitB_len hok.fit).1
  have h2:=(sch_small h.st.right).1
  exact among_any w2 R g (h.below hb) (hs.below hb) (fun _=>True) B2 rv pv p.1 ps (ho.sl fun _ _=>trivial) hok.n64 zTbe (hp.below hb)
 have HMID:Hid (∀ pre post r,byM (kfS g.S) i g.rows=pre++r::post→tailK (kfS g.S i) (kfS g.S i r) false (byM (kfS g.S) i g.rows)=post):=Lib.hid fun pre post r e=>by
  have h1:=hby.1
  rw [e] at h1 ⊢
  exact drop_mid (kfS g.S i) pre post r h1
 have HSUF:=Lib.hid (tail_suffix (kfS g.S i) k wi (byM (kfS g.S) i g.rows))
 have hkt:=TabG.blk hs
 obtain ⟨c0,c1,c2,c3,c4,c5,c6,c7⟩:=tab_cells hkt
 obtain ⟨gi,oi,cpi,hvi,_,hgi,e0,e1,e2⟩:=sl_three (f:=ixOne) (fun _=>rfl) h.ix hi
 rw [hvi] at c7
 have hlt:=hkt.lt
 have hxv:∃ p n c,g.xs[i].1.v=.slice p n c:=h.slots _ (List.getElem_mem hi)
 obtain ⟨pp,cp,rfl,_,_⟩:=hp.form
 generalize inP g.S ps=P at *
 generalize byM (kfS g.S) i g.rows=by_ at *
 generalize g.xs[i]=q at *
 obtain ⟨⟨xv,xl,xu⟩,xt⟩:=q
 simp only [ixOne] at e0 e1 e2 hxv
 obtain ⟨px,nx,cx,rfl⟩:=hxv
 obtain ⟨w1,hw1⟩:=zY0w
 have hb1:=zppX
 have kx:=zoIR
 have x2:w1.cell? ⟨w.heap.size,2,none⟩=some (.pointer (some ⟨xt.b,0,none⟩)):=kx.cell 2
 have hlx:=kx.lt
 have HB1:=Lib.hid hb1
 have HKX:=Lib.hid kx
 unfold ptrV at HH HNX HROW HAM e2 ⊢
 simp only at HNX
 obtain ⟨o,ho⟩:∃ o,(tailK (kfS g.S i) k wi by_).find? P=o:=⟨_,rfl⟩
 rw [ho]
 have HO:=Lib.hid ho
 clear h hs hp hh hd hl hl2 hx2 hby hkt hvi kx ho hb1
 go_enter Tryz.func57,Tryz.ntmps57
 go_wp2_with (go_at_call 61;refine HH.out.mono ?_;clear HH;rintro e w9 ⟨rfl,hw9⟩;subst w9)
 refine (HNX.out _ HB1.out k wi).mono ?_
 rintro e w2 ⟨s1,s2,ok,rfl,htd,hb2⟩
 have HTD:=Lib.hid htd
 have HB2:=Lib.hid hb2
 have HKX2:=Lib.hid (HKX.out.below hb2)
 clear htd hb2 x2 hlx HKX c0 c1 c2 c3 c4 c5 c6 c7 hlt e0 e1 e2 hw1 hgi
 go_wp2
 go_loopw [2,14,15] (fun kv yv ov wr=>∃ n,FromSt w2 g.S i by_ P o kv yv ov wr n) (fun kv yv ov wr=>gm (FromSt w2 g.S i by_ P o kv yv ov wr))
 case atStart =>
  obtain ⟨pre,hpre⟩:=HSUF.out
  exact ⟨_,pre,_,s1,s2,ok,rfl,rfl,rfl,rfl,hpre,HTD.out,HO.out.symm,Below.refl _ _⟩
 case round =>
  have hst:=gm_spec hrel
  obtain ⟨dd,hdd⟩:∃ dd,gm (FromSt w2 g.S i by_ P o u2 u14 u15 wr)=dd:=⟨_,rfl⟩
  rw [hdd] at hst
  have HGM:=Lib.hid hdd
  obtain ⟨pre,T,s1,s2,ok,hTn,rfl,rfl,rfl,hby,htd,hoT,hbw⟩:=hst
  have HBW:=Lib.hid (HB1.out.trans ((HB2.out.trans (hbw.mono HB2.out.size)).mono HB1.out.size))
  have HW2:=Lib.hid hbw
  cases T with
  | nil =>
   obtain ⟨rfl,rfl,rfl⟩:=htd
   have HON:Hid (o=none):=Lib.hid hoT
   clear hTn hby hoT hbw hdd hrel
   go_wp2
   go_ret3
   show FromOut w g.S i o _ _
   rw [HON.out]
   exact ⟨rfl,HBW.out⟩
  | cons r t =>
   obtain ⟨rfl,rfl,rfl⟩:=htd
   have hmr:r∈by_:=by rw [hby];simp
   have HR1:=Lib.hid (fun w3 hb3=>HROW.out w3 hb3 r hmr)
   have HR2:=Lib.hid (fun w3 hb3=>HROW.out w3 hb3 r hmr)
   have HA:=Lib.hid (fun w3 hb3=>HAM.out w3 hb3 r hmr)
   have HNR:=Lib.hid (fun w3 hb3=>HNX.out w3 hb3 (kfS g.S i r) false)
   have HMR:=Lib.hid (HMID.out pre t r hby)
   rw [HMR.out] at HNR
   have HBY:=Lib.hid hby
   have HTN:Hid (t.length+1=dd):=Lib.hid hTn
   have kx:=HKX2.out.below hbw
   have HKX3:=Lib.hid kx
   have x2:wr.cell? ⟨w.heap.size,2,none⟩=some (.pointer (some ⟨xt.b,0,none⟩)):=kx.cell 2
   have hlx:=kx.lt
   have HOT:Hid (o=if P r then some r else t.find? P):=Lib.hid (by rw [hoT,List.find?_cons];cases P r<;>rfl)
   have HKI:Hid (kb (kfS g.S i r)=kb (kfS g.S i r)):=Lib.hid rfl
   clear hTn hby hoT hbw hdd hrel hmr kx HMR
   obtain ⟨pr,hpr⟩:∃ pr,P r=pr:=⟨_,rfl⟩
   rw [hpr] at HA HOT
   clear hpr
   generalize kb (kfS g.S 0 r)=k0 at *
   cases pr
   ·go_wp2_with fail
    refine (HR1.out _ HBW.out).mono ?_
    clear HR1
    rintro e w3 ⟨rv,rfl,ho3,hb3,_⟩
    have HB3:=Lib.hid (HBW.out.trans (hb3.mono HBW.out.size))
    have HO3:=Lib.hid ho3
    have HKX4:=Lib.hid (HKX3.out.below hb3)
    have HW3:=Lib.hid (HW2.out.trans (hb3.mono HW2.out.size))
    obtain ⟨p3,c3,rfl,_,_⟩:=own_formT ho3
    clear ho3 hb3 x2 hlx
    go_wp2_with fail
    refine (HA.out _ HB3.out _ HO3.out).mono ?_
    clear HA
    rintro e w4 ⟨rfl,hb4⟩
    have HB4:=Lib.hid (HB3.out.trans (hb4.mono HB3.out.size))
    have HW4:=Lib.hid (HW3.out.trans (hb4.mono HW3.out.size))
    have x2:w4.cell? ⟨w.heap.size,2,none⟩=some (.pointer (some ⟨xt.b,0,none⟩)):=(HKX4.out.below hb4).cell 2
    have hlx:=(HKX4.out.below hb4).lt
    clear hb4
    go_wp2_with fail
    refine (HNR.out _ HB4.out).mono ?_
    clear HNR
    rintro e w5 ⟨s1,s2,ok,rfl,htd,hb5⟩
    have HTD5:=Lib.hid htd
    have HW5:=Lib.hid (HW4.out.trans (hb5.mono HW4.out.size))
    clear htd hb5 x2 hlx
    go_wp2
    have hnew:FromSt w2 g.S i by_ P o (.string s1) (.string s2) (.bool ok) w5 t.length:=⟨pre++[r],t,s1,s2,ok,rfl,rfl,rfl,rfl,by rw [HBY.out];simp,HTD5.out,by rw [HOT.out];rfl,HW5.out⟩
    go_roundw
    case rel=>exact ⟨_,hnew⟩
    case measure =>
     have h1:=gm_le hnew
     have h2:=HGM.out
     have h3:=HTN.out
     omega
   ·go_wp2_with fail
    refine (HR1.out _ HBW.out).mono ?_
    clear HR1
    rintro e w3 ⟨rv,rfl,ho3,hb3,_⟩
    have HB3:=Lib.hid (HBW.out.trans (hb3.mono HBW.out.size))
    have HO3:=Lib.hid ho3
    obtain ⟨p3,c3,rfl,_,_⟩:=own_formT ho3
    clear ho3 hb3 x2 hlx
    go_wp2_with fail
    refine (HA.out _ HB3.out _ HO3.out).mono ?_
    clear HA
    rintro e w4 ⟨rfl,hb4⟩
    have HB4:=Lib.hid (HB3.out.trans (hb4.mono HB3.out.size))
    clear hb4
    go_wp2_with fail
    refine (HR2.out _ HB4.out).mono ?_
    clear HR2
    rintro e w5 ⟨rv5,rfl,ho5,hb5,hf5⟩
    have HB5:=Lib.hid (HB4.out.trans (hb5.mono HB4.out.size))
    have HO5:=Lib.hid ho5
    have HF5:=Lib.hid hf5
    obtain ⟨p5,c5,rfl,_,_⟩:=own_formT ho5
    clear ho5 hb5 hf5
    go_wp2
    go_ret3
    show FromOut w g.S i o _ _
    rw [HOT.out]
    exact ⟨_,rfl,HO5.out,fun q hq=>Nat.le_trans HB4.out.size (HF5.out q hq),HB5.out⟩
theorem tfirst_no (w:World) (R:Nat→Prop) (g:TabG) (h:TabOK w R g) (hs:Sep w g.res) (i:Int) (hi:(decide (0≤i) && decide (i < (g.xs.length:Int)))=false) (pv:Value) :
 Calls Tryz.prog 15 #[ptrV g.tb,.int .i64 i,pv] w fun e w'=>e=.returned (.tuple #[.string ⟨#[]⟩,.slice none 0 0,.bool false])∧w'=w:=by
 have HF:=Lib.hid (from_no w R g h hs i hi ⟨#[]⟩ true pv)
 unfold ptrV at HF ⊢
 clear h hs hi
 go_enter Tryz.func15,Tryz.ntmps15
 exact zIMD
theorem tfirst_any (w:World) (R:Nat→Prop) (g:TabG) (h:TabOK w R g) (hs:Sep w g.res) (i:Nat) (hi:i < g.xs.length) (B2:Nat→Prop) (pv:Value) (ps:List Int) (hp:Sl w B2 1 pv ps.length (ints ps)) :
 Calls Tryz.prog 15 #[ptrV g.tb,.int .i64 i,pv] w (FromOut w g.S i ((byM (kfS g.S) i g.rows).find? (inP g.S ps))):=by
 have hf:=from_any w R g h hs i hi [] true B2 pv ps hp
 rw [tail_all] at hf
 have HF:=Lib.hid hf
 have e0:kb []=⟨#[]⟩:=rfl
 rw [e0] at HF
 obtain ⟨o,ho⟩:∃ o,(byM (kfS g.S) i g.rows).find? (inP g.S ps)=o:=⟨_,rfl⟩
 rw [ho] at HF ⊢
 obtain ⟨pp,cp,rfl,_,_⟩:=hp.form
 unfold ptrV at HF ⊢
 clear h hs hi hp hf ho e0
 go_enter Tryz.func15,Tryz.ntmps15
 exact zsr9
theorem tnext_no (w:World) (R:Nat→Prop) (g:TabG) (h:TabOK w R g) (hs:Sep w g.res) (i:Int) (hi:(decide (0≤i) && decide (i < (g.xs.length:Int)))=false) (k:ByteArray) (pv:Value) :
 Calls Tryz.prog 20 #[ptrV g.tb,.int .i64 i,.string k,pv] w fun e w'=>e=.returned (.tuple #[.string ⟨#[]⟩,.slice none 0 0,.bool false])∧w'=w:=by
 have HF:=Lib.hid (from_no w R g h hs i hi k false pv)
 unfold ptrV at HF ⊢
 clear h hs hi
 go_enter Tryz.func20,Tryz.ntmps20
 exact zIMD
theorem tnext_any (w:World) (R:Nat→Prop) (g:TabG) (h:TabOK w R g) (hs:Sep w g.res) (i:Nat) (hi:i < g.xs.length) (k:Key) (B2:Nat→Prop) (pv:Value) (ps:List Int) (hp:Sl w B2 1 pv ps.length (ints ps)) :
 Calls Tryz.prog 20 #[ptrV g.tb,.int .i64 i,.string (kb k),pv] w (FromOut w g.S i ((tailK (kfS g.S i) k false (byM (kfS g.S) i g.rows)).find? (inP g.S ps))):=by
 have HF:=Lib.hid (from_any w R g h hs i hi k false B2 pv ps hp)
 obtain ⟨o,ho⟩:∃ o,(tailK (kfS g.S i) k false (byM (kfS g.S) i g.rows)).find? (inP g.S ps)=o:=⟨_,rfl⟩
 rw [ho] at HF ⊢
 obtain ⟨pp,cp,rfl,_,_⟩:=hp.form
 unfold ptrV at HF ⊢
 clear h hs hi hp ho
 go_enter Tryz.func20,Tryz.ntmps20
 exact zsr9
def CurT (wa wr:World) (S:SchV) (o:Option (List AV)) (kv yv okv:Value):Prop:=match o with
 | none=>kv=.string ⟨#[]⟩∧yv=.slice none 0 0∧okv=.bool false
 | some r=>kv=.string (kb (kfS S 0 r))∧okv=.bool true∧Own wr 113 3 yv r.length (rowCells r)∧∀ q,yv.ownBlock=some q→wa.heap.size≤q
def RowsSt (w:World) (S:SchV) (by_:List (List AV)) (P:List AV→Bool) (ov kv yv okv:Value) (wr:World) (n:Nat):Prop :=
 ∃ wa pre T rws,T.length=n∧by_=pre++T∧RowsSq w wa ov rws∧Below wa.heap.size wa wr∧rws.map RowV.l++T.filter P=by_.filter P∧CurT wa wr S (T.find? P) kv yv okv
theorem find_split {P:List AV→Bool} {T:List (List AV)} {r:List AV} (h:T.find? P=some r):∃ a b,T=a++r::b∧T.filter P=r::b.filter P:=by
 obtain ⟨h1,a,b,rfl,h2⟩:=List.find?_eq_some_iff_append.1 h
 refine ⟨a,b,rfl,?_⟩
 rw [List.filter_append,List.filter_cons,h1]
 have:a.filter P=[]:=by
  rw [List.filter_eq_nil_iff]
  intro x hx
  have:=h2 x hx
  simpa using this
 rw [this];rfl
theorem filter_none {P:List AV→Bool} {T:List (List AV)} (h:T.find? P=none):T.filter P=[]:=by
 rw [List.filter_eq_nil_iff]
 exact List.find?_eq_none.1 h
theorem trows_any (w:World) (R:Nat→Prop) (g:TabG) (h:TabOK w R g) (hs:Sep w g.res) (B2:Nat→Prop) (pv:Value) (ps:List Int) (hp:Sl w B2 1 pv ps.length (ints ps)) :
 Calls Tryz.prog 22 #[ptrV g.tb,pv] w fun e w'=>∃ v rws,e=.returned v∧RowsSq w w' v rws∧rws.map RowV.l=g.rows.filter (inP g.S ps):=by
 have hn1:=(sch_small h.st.right).2.2.1
 have hx0:0 < g.xs.length:=by rw [h.xl];omega
 have hid:=byM_id (kfS g.S) 0 h.tab.sort
 have hlen:g.rows.length≤1000:=by rw [g.rows_len];exact h.lim
 have HFI:Hid (Calls Tryz.prog 15 #[ptrV g.tb,.int .i64 0,pv] w (FromOut w g.S 0 (g.rows.find? (inP g.S ps)))):=Lib.hid (by
  have h1:=tfirst_any w R g h hs 0 hx0 B2 pv ps hp
  rw [hid] at h1
  exact h1)
 have HNX:Hid (∀ w2,Below w.heap.size w w2→∀ k,Calls Tryz.prog 20 #[ptrV g.tb,.int .i64 0,.string (kb k),pv] w2 (FromOut w2 g.S 0 ((tailK (kfS g.S 0) k false g.rows).find? (inP g.S ps)))):=Lib.hid fun w2 hb k=>by
  have h1:=tnext_any w2 R g (h.below hb) (hs.below hb) 0 hx0 k B2 pv ps (hp.below hb)
  rw [hid] at h1
  exact h1
 have HMID:Hid (∀ pre post r,g.rows=pre++r::post→tailK (kfS g.S 0) (kfS g.S 0 r) false g.rows=post):=Lib.hid fun pre post r e=>by
  have h1:=h.tab.sort
  rw [e] at h1 ⊢
  exact drop_mid (kfS g.S 0) pre post r h1
 obtain ⟨pp,cp,rfl,_,_⟩:=hp.form
 generalize inP g.S ps=P at *
 generalize g.rows=by_ at *
 unfold ptrV at HFI HNX ⊢
 clear h hs hp hn1 hx0 hid
 go_enter Tryz.func22,Tryz.ntmps22
 go_wp2_with fail
 refine HFI.out.mono ?_
 clear HFI
 intro e w2 hfo
 have hst:∃ k y ok,e=.returned (.tuple #[k,y,ok])∧RowsSt w g.S by_ P (.slice none 0 0) k y ok w2 by_.length:=by
  cases hf:by_.find? P with
  | none =>
   rw [hf] at hfo
   obtain ⟨rfl,hb2⟩:=hfo
   exact ⟨_,_,_,rfl,w,[],by_,[],rfl,rfl,RowsSq.nil w (Below.refl _ _),hb2,rfl,by rw [hf];exact ⟨rfl,rfl,rfl⟩⟩
  | some r =>
   rw [hf] at hfo
   obtain ⟨v,rfl,ho2,hf2,hb2⟩:=hfo
   exact ⟨_,_,_,rfl,w,[],by_,[],rfl,rfl,RowsSq.nil w (Below.refl _ _),hb2,rfl,by rw [hf];exact ⟨rfl,rfl,ho2,hf2⟩⟩
 clear hfo
 obtain ⟨k0,y0,ok0,rfl,hst⟩:=hst
 have HST:=Lib.hid hst
 clear hst
 go_wp2
 go_loopw [5,6,7,8] (fun ov kv yv okv wr=>∃ n,RowsSt w g.S by_ P ov kv yv okv wr n) (fun ov kv yv okv wr=>gm (RowsSt w g.S by_ P ov kv yv okv wr))
 case atStart=>exact ⟨_,HST.out⟩
 case round =>
  have hst:=gm_spec hrel
  obtain ⟨dd,hdd⟩:∃ dd,gm (RowsSt w g.S by_ P u5 u6 u7 u8 wr)=dd:=⟨_,rfl⟩
  rw [hdd] at hst
  have HGM:=Lib.hid hdd
  clear hdd hrel
  obtain ⟨wa,pre,T,rws,hTn,hby,hrw,hbw,hfl,hcur⟩:=hst
  have HRW:=Lib.hid hrw
  have HBW:=Lib.hid hbw
  have HWR:=Lib.hid (hrw.2.2.1.trans (hbw.mono hrw.2.2.1.size))
  obtain ⟨po,co,rfl,hc1,hc2⟩:=own_formT hrw.1
  cases hf:T.find? P with
  | none =>
   rw [hf] at hcur
   obtain ⟨rfl,rfl,rfl⟩:=hcur
   have HFL:Hid (rws.map RowV.l=by_.filter P):=Lib.hid (by rw [←hfl,filter_none hf,List.append_nil])
   clear hTn hby hrw hbw hfl hf hc1 hc2
   go_wp2
   go_ret
   exact ⟨_,rws,rfl,HRW.out.below HBW.out,HFL.out⟩
  | some r =>
   rw [hf] at hcur
   obtain ⟨rfl,rfl,ho7,hf7⟩:=hcur
   obtain ⟨a,b,hT,hTf⟩:=find_split hf
   have hby2:by_=(pre++a)++r::b:=by rw [hby,hT];simp
   have HN:=Lib.hid (fun w3 hb3=>HNX.out w3 hb3 (kfS g.S 0 r))
   rw [HMID.out _ _ _ hby2] at HN
   have hlr:rws.length≤1000:=by
    have h1:=congrArg List.length hfl
    rw [List.length_append,List.length_map] at h1
    have h2:=List.length_filter_le P by_
    omega
   have HBY:Hid (by_=(pre++a++[r])++b):=Lib.hid (by rw [hby2];simp)
   have HFL:Hid (∀ v:Value,(rws++[(⟨v,r⟩:RowV)]).map RowV.l++b.filter P=by_.filter P):=Lib.hid fun v=>by
    rw [←hfl,hTf,List.map_append];simp
   have HTN:Hid (b.length < dd):=Lib.hid (by rw [←hTn,hT,List.length_append,List.length_cons];omega)
   have HO7:=Lib.hid ho7
   have HF7:=Lib.hid hf7
   obtain ⟨p7,c7,rfl,_,_⟩:=own_formT ho7
   have ho1:=(hrw.1.below hbw).below ((Below.refl wr.heap.size wr).alloc (Nat.le_refl _) (.cells #[.slice p7 r.length c7] 37))
   have hs1:=box1t wr 37 (.slice p7 r.length c7) rfl
   clear hTn hby hrw hbw hfl hf hc1 hc2 ho7 hf7 hT hTf hby2
   go_wp2_with (at_builtin;refine wpList_app rfl _ _ rfl elemRowsT zdhv ho1 zdhv hs1 zefz zTbe ?_;intro v5 w5 g1 g2 g3 g4 g5;clear ho1 hs1;have G1:=Lib.hid g1;have HQ:=Lib.hid (HRW.out.app HBW.out HO7.out HF7.out g1 g2 g3);clear g1 g2 g3 g4 g5)
   refine (HN.out _ HQ.out.2.2.1).mono ?_
   clear HN
   intro e w6 hfo
   have hst:∃ k y ok,e=.returned (.tuple #[k,y,ok])∧RowsSt w g.S by_ P v5 k y ok w6 b.length:=by
    cases hf:b.find? P with
    | none =>
     rw [hf] at hfo
     obtain ⟨rfl,hb2⟩:=hfo
     exact ⟨_,_,_,rfl,w5,_,b,_,rfl,HBY.out,HQ.out,hb2,HFL.out _,by rw [hf];exact ⟨rfl,rfl,rfl⟩⟩
    | some r =>
     rw [hf] at hfo
     obtain ⟨v,rfl,ho2,hf2,hb2⟩:=hfo
     exact ⟨_,_,_,rfl,w5,_,b,_,rfl,HBY.out,HQ.out,hb2,HFL.out _,by rw [hf];exact ⟨rfl,rfl,ho2,hf2⟩⟩
   clear hfo
   obtain ⟨k0,y0,ok0,rfl,hst⟩:=hst
   have HST2:=Lib.hid hst
   clear hst
   go_wp2
   go_roundw
   case rel=>exact ⟨_,HST2.out⟩
   case measure =>
    have h1:=gm_le HST2.out
    have h2:=HGM.out
    have h3:=HTN.out
    omega
theorem tin_any (w:World) (R:Nat→Prop) (g:TabG) (h:TabOK w R g) (hs:Sep w g.res) (B2:Nat→Prop) (pv:Value) (ps:List Int) (hp:Sl w B2 1 pv ps.length (ints ps)) :
 Calls Tryz.prog 21 #[ptrV g.tb,pv] w fun e w'=>e=.returned (.int .i64 ((g.rows.filter (inP g.S ps)).length:Int))∧Below w.heap.size w w':=by
 have HR:=Lib.hid (trows_any w R g h hs B2 pv ps hp)
 obtain ⟨pp,cp,rfl,_,_⟩:=hp.form
 generalize g.rows.filter (inP g.S ps)=L at *
 unfold ptrV at HR ⊢
 clear h hs hp
 go_enter Tryz.func21,Tryz.ntmps21
 go_wp2_with fail
 refine HR.out.mono ?_
 clear HR
 rintro e w2 ⟨v,rws,rfl,hq,hl⟩
 have HB:=Lib.hid hq.2.2.1
 have HL:Hid (rws.length=L.length):=Lib.hid (by rw [←hl,List.length_map])
 obtain ⟨pq,cq,rfl,_,_⟩:=own_formT hq.1
 clear hq hl
 go_wp2
 go_ret
 exact ⟨by rw [←HL.out];rfl,HB.out⟩
theorem StepT.trans {w w1 w2:World} {R:Nat→Prop} {g g1 g2:TabG} (hd:∀ k∈feet g.res,¬ R k) (h1:StepT w w1 R g g1) (h2:StepT w1 w2 (grow R w.heap.size (feet g1.res)) g1 g2):StepT w w2 R g g2:=by
 have hT:=Trk.after h1.trk h2.trk
 exact ⟨⟨h2.tab.ok.wide (grow_two h1.trk h2.trk hd (Nat.le_refl _)),h2.tab.sep,grow_dis hT hd⟩,hT,h2.tb.trans h1.tb,h2.sch.trans h1.sch⟩
theorem StepT.pre {w w1 w2:World} {R:Nat→Prop} {g g2:TabG} (hd:∀ k∈feet g.res,¬ R k) (hb:Below w.heap.size w w1) (h2:StepT w1 w2 R g g2):StepT w w2 R g g2:=by
 have hT:=Trk.pre hb h2.trk
 exact ⟨⟨h2.tab.ok.wide (grow_pre h2.trk hd hb.size),h2.tab.sep,grow_dis hT hd⟩,hT,h2.tb,h2.sch⟩
theorem StepT.post {w w1 w2:World} {R:Nat→Prop} {g g2:TabG} (h:StepT w w1 R g g2) (hb:Below w1.heap.size w1 w2):StepT w w2 R g g2 :=
 ⟨h.tab.below hb,h.trk.below hb,h.tb,h.sch⟩
theorem tclear_md (w:World) (R:Nat→Prop) (g:TabG) (h:TabW w R g) :
 Calls Tryz.prog 71 #[ptrV g.tb] w fun e w'=>e=.returned (.tuple #[])∧∃ g',StepT w w' R g g'∧g'.rows=[]:=by
 have htb:g.tb∈feet g.res:=by unfold TabG.res;rw [feet_cons];simp [rTab,Res.blk]
 have hil:=(sch_small h.ok.st.right).2.1
 refine (clear_any w R g.tb g.S _ _ (TabG.blk h.sep) h.ok.st.sch (h.dis _ htb) zTbe).mono ?_
 rintro e w' ⟨rfl,ho⟩
 obtain ⟨g',e1,e2,e3,hT,hok⟩:=ho.tab
 have hd1:∀ k∈[g.tb],¬ R k:=fun k hk=>by rw [List.mem_singleton] at hk;subst hk;exact h.dis _ htb
 have hT2:Trk w (feet g.res) w' g'.res:=hT.widen fun k hk=>by rw [List.mem_singleton] at hk;subst hk;exact htb
 refine ⟨rfl,g',⟨⟨hok _ (h.ok.st.trk hT hd1) (fun k h1 _ h3=>.inr ⟨h1,h3⟩),hT.sep,grow_dis hT2 h.dis⟩,hT2,e1,e2⟩,?_⟩
 unfold TabG.rows
 rw [e3];rfl
theorem tload_md (w:World) (R:Nat→Prop) (g:TabG) (h:TabW w R g) (B:Nat→Prop) (hB:∀ k,B k→k∉feet g.res) (rv:Value) (rows:List RowV) (hra:RowsAt w B rv rows) (hf:∀ r∈rows,∀ a∈r.l,fit64 a.n) (hrl:∀ r∈rows,r.l.length≤1000) :
 Calls Tryz.prog 37 #[ptrV g.tb,rv] w fun e w'=>e=.returned (.int .i64 (loadMd g.S (rows.map RowV.l)).2)∧∃ g',StepT w w' R g g'∧g'.rows=(loadMd g.S (rows.map RowV.l)).1:=by
 have HCL:=Lib.hid (tclear_md w R g h)
 have HD:=Lib.hid h.dis
 have HCL2:Hid (∀ w1 g1,StepT w w1 R g g1→Calls Tryz.prog 71 #[ptrV g.tb] w1 fun e w'=>e=.returned (.tuple #[])∧∃ g',StepT w w' R g g'∧g'.rows=[]):=Lib.hid fun w1 g1 h1=>by
  have h2:=tclear_md w1 _ g1 h1.tab
  rw [h1.tb] at h2
  exact z89f
 have HIN:Hid (∀ w1 g1,StepT w w1 R g g1→∀ r∈rows,Calls Tryz.prog 55 #[ptrV g.tb,r.v] w1 fun e w'=>e=.returned (.int .i64 (insMd g.S g1.rows r.l).2)∧∃ g',StepT w w' R g g'∧g'.rows=(insMd g.S g1.rows r.l).1):=Lib.hid fun w1 g1 h1 r hr=>by
  have hra1:=hra.only h1.trk.only hB
  have h2:=tins_md w1 _ g1 h1.tab B r.v r.l (hra1.2 r hr) (hf r hr) (hrl r hr)
  rw [h1.tb,h1.sch] at h2
  exact z89f
 have HRA:Hid (∀ w1 g1,StepT w w1 R g g1→RowsAt w1 B rv rows):=Lib.hid fun w1 g1 h1=>hra.only h1.trk.only hB
 have HRF:Hid (∀ r∈rows,∃ p n c,r.v=.slice p n c):=Lib.hid fun r hr=>by obtain ⟨p,c,h,_⟩:=(hra.2 r hr).form;exact ⟨p,_,c,h⟩
 obtain ⟨pr,cr,rfl,_,_⟩:=hra.1.form
 have HLD:Hid (loadMd g.S (rows.map RowV.l)=loadGo g.S [] (rows.map RowV.l)):=Lib.hid rfl
 unfold ptrV at HCL HCL2 HIN ⊢
 clear h hra hf hrl
 go_enter Tryz.func37,Tryz.ntmps37
 go_wp2_with fail
 refine HCL.out.mono ?_
 clear HCL
 rintro e w1 ⟨rfl,g1,hs1,hg1⟩
 have HS1:=Lib.hid hs1
 have HG1:=Lib.hid hg1
 clear hs1 hg1
 go_wp2
 go_loopw [14] (fun i wr=>∃ k:Nat,i=.int .i64 k∧k≤rows.length∧∃ gk,StepT w wr R g gk∧loadMd g.S (rows.map RowV.l)=loadGo g.S gk.rows ((rows.drop k).map RowV.l)) (fun i _=>rows.length - (intOf i).toNat)
 case atStart=>exact ⟨0,rfl,Nat.zero_le _,g1,HS1.out,by rw [HG1.out];exact HLD.out⟩
 case round =>
  obtain ⟨k,rfl,hk,gk,hst,hld⟩:=hrel
  have HST:=Lib.hid hst
  have HLK:=Lib.hid hld
  by_cases hkx:k < rows.length
  ·obtain ⟨gr,or_,cpr,hvr,ek⟩:=(HRA.out _ _ hst).at hkx
   cases hvr
   have hmk:rows[k]∈rows:=List.getElem_mem hkx
   obtain ⟨px,nx,cx,hxv⟩:=HRF.out _ hmk
   have HI:=Lib.hid (HIN.out _ _ hst _ hmk)
   have hdk:(rows.drop k).map RowV.l=rows[k].l::(rows.drop (k+1)).map RowV.l:=by
    rw [List.drop_eq_getElem_cons hkx];rfl
   have hgr:=(World.block_lt_of_cell? _ _ ek)
   rw [hdk] at hld
   have hstep:loadGo g.S gk.rows (rows[k].l::(rows.drop (k+1)).map RowV.l)=if (insMd g.S gk.rows rows[k].l).2≠0 then ([],(insMd g.S gk.rows rows[k].l).2) else loadGo g.S (insMd g.S gk.rows rows[k].l).1 ((rows.drop (k+1)).map RowV.l):=rfl
   rw [hstep] at hld
   rw [hxv] at ek HI
   generalize (insMd g.S gk.rows rows[k].l).1=mk at *
   generalize (insMd g.S gk.rows rows[k].l).2=en at *
   clear hst hdk hstep hxv hmk
   by_cases hen:en=0
   ·subst hen
    have HLN:=Lib.hid hld
    clear hld
    go_wp2_with (go_at_call 55;refine HI.out.mono ?_;clear HI;rintro e w3 ⟨rfl,g3,hs3,hg3⟩;have HS3:=Lib.hid hs3;have HG3:=Lib.hid hg3;clear hs3 hg3)
    go_roundw
    case rel=>exact ⟨k+1,z3KH,zTbe,g3,HS3.out,by rw [HLN.out,HG3.out];rfl⟩
    case measure=>(simp [intOf])<;>omega
   ·have e1:(en != 0)=true:=bne_iff_ne.2 hen
    rw [if_pos hen] at hld
    have HLN:=Lib.hid hld
    clear hld hen
    go_wp2_with (first
     | (go_at_call 55;refine HI.out.mono ?_;clear HI;rintro e w3 ⟨rfl,g3,hs3,hg3⟩;have HC3:=Lib.hid (HCL2.out _ _ hs3);clear hs3 hg3)
     | (go_at_call 71;refine HC3.out.mono ?_;clear HC3;rintro e w4 ⟨rfl,g4,hs4,hg4⟩;have HS4:=Lib.hid hs4;have HG4:=Lib.hid hg4;clear hs4 hg4))
    go_ret
    exact ⟨by rw [HLN.out];rfl,g4,HS4.out,by rw [HG4.out,HLN.out]⟩
  ·obtain rfl:k=rows.length:=by omega
   rw [List.drop_length] at hld
   have HLN:=Lib.hid hld
   clear hst hld
   go_wp2
   go_ret
   exact ⟨by rw [HLN.out];rfl,gk,HST.out,by rw [HLN.out];rfl⟩
end Go.Proofs.YteggkjdlajgenaaGreatDoor
