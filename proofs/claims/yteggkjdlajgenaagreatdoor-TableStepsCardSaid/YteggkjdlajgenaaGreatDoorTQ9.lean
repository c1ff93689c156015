/- Contracts of the functions that the statement reaches, one behind the other. No condition beyond each theorem's own. -/
import Derived.Test.YteggkjdlajgenaaGreatDoorTQ8
set_option linter.unusedSimpArgs false
set_option linter.unusedVariables false
set_option maxRecDepth 100000
set_option maxHeartbeats 4000000
theorem zY0w {P:Prop} (h:P:=by
 have zz:∃ w1,w.alloc (.cells #[.slice px nx cx,.bool xu,.pointer (some ⟨xt.b,0,none⟩)] 123)=w1:=⟨_,rfl⟩
 exact zz):P:=h
theorem zoIR {P:Prop} (h:P:=by
 have zz:Blk w1 w.heap.size 123 [.slice px nx cx,.bool xu,.pointer (some ⟨xt.b,0,none⟩)]:=hw1▸Blk.new w _ _
 exact zz):P:=h
theorem zIMD {P:Prop} (h:P:=by
 go_wp2_with fail
 refine HF.out.mono ?_
 rintro e w2 ⟨rfl,hw⟩
 subst w2
 go_wp2
 go_ret3
 exact ⟨rfl,rfl⟩
 ):P:=h
theorem zsr9 {P:Prop} (h:P:=by
 go_wp2_with fail
 refine HF.out.mono ?_
 clear HF
 cases o with
 | none =>
  rintro e w2 ⟨rfl,hb2⟩
  have HB2:=Lib.hid hb2
  clear hb2
  go_wp2
  go_ret3
  exact ⟨rfl,HB2.out⟩
 | some r =>
  rintro e w2 ⟨v,rfl,ho2,hf2,hb2⟩
  have HB2:=Lib.hid hb2
  have HO2:=Lib.hid ho2
  have HF2:=Lib.hid hf2
  obtain ⟨p2,c2,rfl,_,_⟩:=own_formT ho2
  clear hb2 ho2 hf2
  go_wp2
  go_ret3
  exact ⟨_,rfl,HO2.out,HF2.out,HB2.out⟩
 ):P:=h
theorem z89f {P:Prop} (h:P:=by
 refine h2.mono ?_
 rintro e w' ⟨rfl,g',h3,h4⟩
 exact ⟨rfl,g',h1.trans h.dis h3,h4⟩
 ):P:=h
theorem z0KE {P:Prop} (h:P:=by
 have zz:Below w.heap.size w (w.alloc (.cells #[.string S.name,.slice pc nc cc,.slice pi ni ci,.int .i64 S.limit,.int .i64 S.parts,.int .i64 S.by_,.slice pr rows.length cr] 34)):=(Below.refl _ _).alloc (Nat.le_refl _) _
 exact zz):P:=h
theorem zC8e {P:Prop} (h:P:=by
 have zz:∃ w1,w.alloc (.cells #[.string S.name,.slice pc nc cc,.slice pi ni ci,.int .i64 S.limit,.int .i64 S.parts,.int .i64 S.by_,.slice pr rows.length cr] 34)=w1:=⟨_,rfl⟩
 exact zz):P:=h
theorem zJ1I {P:Prop} (h:P:=by
 have zz:Blk w1 w.heap.size 34 [.string S.name,.slice pc nc cc,.slice pi ni ci,.int .i64 S.limit,.int .i64 S.parts,.int .i64 S.by_,.slice pr rows.length cr]:=hw1▸hkm
 exact zz):P:=h
theorem zQf8 {P:Prop} (h:P:=by
 have zz:w.heap.size < wr.drew.heap.size:=hlx
 exact zz):P:=h
theorem zOGF {P:Prop} (h:P:=by
 have zz:wr.drew.cell? ⟨w.heap.size,0,none⟩=some (.string S.name):=x0
 exact zz):P:=h
theorem zdGf {P:Prop} (h:P:=by
 have zz:wr.drew.cell? ⟨w.heap.size,1,none⟩=some (.slice pc nc cc):=x1
 exact zz):P:=h
theorem z2Xi {P:Prop} (h:P:=by
 have zz:wr.drew.cell? ⟨w.heap.size,2,none⟩=some (.slice pi ni ci):=x2
 exact zz):P:=h
theorem zjgD {P:Prop} (h:P:=by
 have zz:wr.drew.cell? ⟨w.heap.size,3,none⟩=some (.int .i64 S.limit):=x3
 exact zz):P:=h
theorem zk33 {P:Prop} (h:P:=by
 have zz:wr.drew.cell? ⟨w.heap.size,4,none⟩=some (.int .i64 S.parts):=x4
 exact zz):P:=h
theorem zg14 {P:Prop} (h:P:=by
 have zz:wr.drew.cell? ⟨w.heap.size,5,none⟩=some (.int .i64 S.by_):=x5
 exact zz):P:=h
theorem zGv6 {P:Prop} (h:P:=by
 have zz:wr.drew.cell? ⟨w.heap.size,6,none⟩=some (.slice (some ⟨gr,or_,none⟩) rows.length cr):=x6
 exact zz):P:=h
theorem zk1i {P:Prop} (h:P:=by
 have zz:wr.drew.cell? ⟨gr,or_+j,none⟩=some (.slice px nx cx):=ek
 exact zz):P:=h
theorem zUaI {P:Prop} (h:P:=by
 have zz:gr < wr.drew.heap.size:=hgr
 exact zz):P:=h
theorem zX17 {P:Prop} (h:P:=by
 have zz:∃ w2,w1.alloc (.cells #[.string ⟨#[]⟩,.slice none 0 0,.slice none 0 0,.int .i64 0,.int .i64 0,.int .i64 0,.slice none 0 0] 34)=w2:=⟨_,rfl⟩
 exact zz):P:=h
theorem zTgR {P:Prop} (h:P:=by
 have zz:Blk w2 w1.heap.size 34 [.string ⟨#[]⟩,.slice none 0 0,.slice none 0 0,.int .i64 0,.int .i64 0,.int .i64 0,.slice none 0 0]:=hw2▸Blk.new w1 _ _
 exact zz):P:=h
theorem zfIB {P:Prop} (h:P:=by
 have zz:∀ w4,Below w2.heap.size w2 w4→Below w.heap.size w w4:=fun w4 hb=>HB2.out.trans (hb.mono HB2.out.size)
 exact zz):P:=h
theorem zjFE {P:Prop} (h:P:=by simp [results,Tryz.results115,go_sem,m0,m1,m2,m3,m4,m5,m6]):P:=h
theorem zIaD {P:Prop} (h:P:=by
 have zz:wr.drew.cell? ⟨w.heap.size,2,none⟩=some (.slice (some ⟨g,off,none⟩) S.idx.length ci):=x2
 exact zz):P:=h
theorem zNTk {P:Prop} (h:P:=by
 have zz:w1.heap.size+1≤w2.heap.size:=hkz.lt
 exact zz):P:=h
theorem zi0R {P:Prop} (h:P:=by
 have zz:w.heap.size≤w1.heap.size:=hal.size
 exact zz):P:=h
theorem ziR2 {P:Prop} (h:P:=by
 have zz:Hid (∀ w4,Below w2.heap.size w2 w4→Below w.heap.size w w4):=Lib.hid fun w4 hb=>HB2.out.trans (hb.mono HB2.out.size)
 exact zz):P:=h
theorem zYQU {P:Prop} (h:P:=by
 have zz:Hid (∀ lv,mdV S lv=.agg #[.string S.name,.slice pc nc cc,.slice pi ni ci,.int .i64 S.limit,.int .i64 S.parts,.int .i64 S.by_,lv]):=Lib.hid fun lv=>zkRd
 exact zz):P:=h
theorem zkRd {P:Prop} (h:P:=by unfold mdV;rw [hcv,hiv]):P:=h
theorem zxiX {P:Prop} (h:P:=by
 have zz:∀ i,w3.frozen? ⟨w1.heap.size,i,none⟩=false:=hkz.frozen
 exact zz):P:=h
theorem zu2I {P:Prop} (h:P:=by simp [results,Tryz.results82,go_sem,m0,m1,m2,m3,m4,m5,m6]):P:=h
theorem zj0T {P:Prop} (h:P:=by
 have zz:∀ i,w4.frozen? ⟨w1.heap.size,i,none⟩=false:=hkz.frozen
 exact zz):P:=h
theorem zo6F {P:Prop} (h:P:=by
 have zz:∃ nl,rws.length=nl:=⟨_,rfl⟩
 exact zz):P:=h
theorem zz32 {P:Prop} (h:P:=by rw [HFI.out];exact hneg):P:=h
theorem zsZm {P:Prop} (h:P:=by simp [results,Tryz.results83,go_sem,m0,m1,m2,m3,m4,m5,m6]):P:=h
theorem z9se {P:Prop} (h:P:=by have:=HN.out;omega):P:=h
theorem zaSK {P:Prop} (h:P:=by simp [results,Tryz.results84,go_sem,m0,m1,m2,m3,m4,m5,m6]):P:=h
theorem zVSb {P:Prop} (h:P:=by
 have zz:Hid (∀ lv,mdC S lv=[.string S.name,.slice pc nc cc,.slice pi ni ci,.int .i64 S.limit,.int .i64 S.parts,.int .i64 S.by_,lv]):=Lib.hid fun lv=>z5JH
 exact zz):P:=h
theorem z5JH {P:Prop} (h:P:=by unfold mdC;rw [hcv,hiv]):P:=h
theorem zRAR {P:Prop} (h:P:=by
 have zz:Below wr.heap.size wr (wr.alloc (.cells #[.string ⟨#[]⟩,.slice none 0 0,.slice none 0 0,.int .i64 0,.int .i64 0,.int .i64 0,.slice none 0 0] 34)).drew:=((Below.refl _ _).alloc (Nat.le_refl _) _).drew
 exact zz):P:=h
theorem zYYc {P:Prop} (h:P:=by
 have zz:Hid (wr.heap.size < (wr.alloc (.cells #[.string ⟨#[]⟩,.slice none 0 0,.slice none 0 0,.int .i64 0,.int .i64 0,.int .i64 0,.slice none 0 0] 34)).drew.heap.size):=(Blk.new wr 34 [.string ⟨#[]⟩,.slice none 0 0,.slice none 0 0,.int .i64 0,.int .i64 0,.int .i64 0,.slice none 0 0]).lt
 exact zz):P:=h
theorem z062 {P:Prop} (h:P:=by
 have zz:Hid (Blk (wr.alloc (.cells #[.string ⟨#[]⟩,.slice none 0 0,.slice none 0 0,.int .i64 0,.int .i64 0,.int .i64 0,.slice none 0 0] 34)).drew wr.heap.size 34 [.string ⟨#[]⟩,.slice none 0 0,.slice none 0 0,.int .i64 0,.int .i64 0,.int .i64 0,.slice none 0 0]):=(Blk.new wr 34 [.string ⟨#[]⟩,.slice none 0 0,.slice none 0 0,.int .i64 0,.int .i64 0,.int .i64 0,.slice none 0 0]).drew
 exact zz):P:=h
theorem zR0f {P:Prop} (h:P:=by rw [HMC.out];exact hk):P:=h
theorem z8hY {P:Prop} (h:P:=by simp [results,Tryz.results85,go_sem,m0,m1,m2,m3,m4,m5,m6]):P:=h
namespace Go.Proofs.YteggkjdlajgenaaGreatDoor
open Go.RowKit Go.Afx
theorem Alike.rowOK' {c s:SchV} (h:Alike c s) {r:List AV} (hr:RowOK c r):RowOK s r:=⟨by rw [←h.cols];exact hr.fit,hr.n64⟩
theorem Alike.clash {c s:SchV} (h:Alike c s):clashS c=clashS s:=by
 funext m row but
 unfold clashS
 rw [h.kf,h.un,h.len]
theorem Alike.ins {c s:SchV} (h:Alike c s) (m:List (List AV)) (row:List AV):insMd c m row=insMd s m row:=by
 unfold insMd
 rw [h.kf,h.clash,h.limit,h.cols]
theorem Alike.upd {c s:SchV} (h:Alike c s) (m:List (List AV)) (k:Key) (row:List AV):updMd c m k row=updMd s m k row:=by
 unfold updMd
 rw [h.kf,h.clash,h.cols]
theorem Alike.del {c s:SchV} (h:Alike c s) (m:List (List AV)) (k:Key):delMd c m k=delMd s m k:=by
 unfold delMd
 rw [h.kf]
theorem Alike.loadGo {c s:SchV} (h:Alike c s):∀ (rows out:List (List AV)),Go.Proofs.YteggkjdlajgenaaGreatDoor.loadGo c out rows=Go.Proofs.YteggkjdlajgenaaGreatDoor.loadGo s out rows
 | [],_=>rfl
 | r::t,out=>by
  unfold Go.Proofs.YteggkjdlajgenaaGreatDoor.loadGo
  rw [h.ins,h.loadGo t]
theorem Alike.load {c s:SchV} (h:Alike c s) (rows:List (List AV)):loadMd c rows=loadMd s rows:=h.loadGo rows []
def abvP (k:Key) (wi:Bool) (x:Key):Bool:=Op.bytesLess k x || (wi && x == k)
def tailK (f:List AV→Key) (k:Key) (wi:Bool) (l:List (List AV)):List (List AV):=l.dropWhile fun r=>!abvP k wi (f r)
theorem find_drop {α:Type} (p:α→Bool):∀ l:List α,l.find? p=(l.dropWhile fun x=>!p x).head?
 | []=>rfl
 | x::t=>by
  rw [List.find?_cons,List.dropWhile_cons]
  cases p x
  ·exact find_drop p t
  ·rfl
theorem abv_idx (kf:Nat→List AV→Key) (i:Nat) (rows:List (List AV)) (k:Key) (wi:Bool):abv k wi (idxEnts kf i rows)=(tailK (kf i) k wi (byM kf i rows)).head?.map fun r=>⟨kf i r,.string (kb (kf 0 r))⟩:=by
 unfold abv idxEnts tailK
 rw [List.find?_map]
 have e:((fun e:En=>Op.bytesLess k e.key || (wi && e.key == k)) ∘ fun r=>(⟨kf i r,.string (kb (kf 0 r))⟩:En))=fun r=>abvP k wi (kf i r):=rfl
 rw [e,find_drop]
theorem drop_mid (f:List AV→Key):∀ (pre post:List (List AV)) (r:List AV),(pre++r::post).Pairwise (fun a b=>Op.bytesLess (f a) (f b)=true)→tailK f (f r) false (pre++r::post)=post
 | [],post,r,h=>by
  obtain ⟨h1,_⟩:=List.pairwise_cons.1 h
  unfold tailK
  rw [List.nil_append,List.dropWhile_cons]
  have e:abvP (f r) false (f r)=false:=by unfold abvP;rw [klt_irrefl];rfl
  rw [e]
  simp only [Bool.not_false,if_true]
  cases post with
  | nil=>rfl
  | cons x t =>
   rw [List.dropWhile_cons]
   have e2:abvP (f r) false (f x)=true:=by unfold abvP;rw [h1 x zPXO];rfl
   rw [e2];rfl
 | p::pre,post,r,h=>by
  rw [List.cons_append] at h
  obtain ⟨h1,h2⟩:=List.pairwise_cons.1 h
  have ih:=drop_mid f pre post r h2
  unfold tailK at ih ⊢
  rw [List.cons_append,List.dropWhile_cons]
  have e:abvP (f r) false (f p)=false:=by unfold abvP;rw [klt_asymm _ _ (h1 r zPXO)];rfl
  rw [e]
  exact ih
theorem tail_all (f:List AV→Key) (l:List (List AV)):tailK f [] true l=l:=by
 unfold tailK
 cases l with
 | nil=>rfl
 | cons x t =>
  rw [List.dropWhile_cons]
  have e:abvP [] true (f x)=true:=by
   unfold abvP
   cases f x with
   | nil=>rfl
   | cons a b=>rfl
  rw [e];rfl
theorem tail_suffix (f:List AV→Key) (k:Key) (wi:Bool) (l:List (List AV)):∃ pre,l=pre++tailK f k wi l:=⟨l.takeWhile fun r=>!abvP k wi (f r),List.takeWhile_append_dropWhile.symm⟩
theorem tail_find (f:List AV→Key) (k:Key) (P:List AV→Bool):∀ l:List (List AV),l.Pairwise (fun a b=>Op.bytesLess (f a) (f b)=true)→(tailK f k false l).find? P=l.find? fun r=>Op.bytesLess k (f r) && P r
 | [],_=>rfl
 | x::t,h=>by
  obtain ⟨h1,h2⟩:=List.pairwise_cons.1 h
  have ih:=tail_find f k P t h2
  unfold tailK at ih ⊢
  rw [List.dropWhile_cons]
  cases hx:Op.bytesLess k (f x) with
  | false =>
   have e:abvP k false (f x)=false:=by unfold abvP;rw [hx];rfl
   rw [e,List.find?_cons,hx]
   exact ih
  | true =>
   have e:abvP k false (f x)=true:=by unfold abvP;rw [hx];rfl
   rw [e]
   have e2:(if (!true)=true then List.dropWhile (fun r=>!abvP k false (f r)) t else x::t)=x::t:=rfl
   rw [e2]
   have hall:∀ y∈x::t,Op.bytesLess k (f y)=true:=fun y hy=>by
    rcases List.mem_cons.1 hy with rfl|hy
    ·exact hx
    ·exact klt_trans _ _ _ hx (h1 y hy)
   have:∀ l:List (List AV),(∀ y∈l,Op.bytesLess k (f y)=true)→l.find? P=l.find? fun r=>Op.bytesLess k (f r) && P r:=by
    intro l
    induction l with
    | nil=>intro _;rfl
    | cons y u ih2 =>
     intro hl
     rw [List.find?_cons,List.find?_cons,hl y zPXO,ih2 fun z hz=>hl z (by simp [hz])]
     rfl
   exact this _ hall
theorem filter_find (P:List AV→Bool):∀ l:List (List AV),l.filter P=match l.find? P with
    | none=>[]
    | some r=>r::((l.dropWhile fun x=>!P x).drop 1).filter P
  | []=>rfl
  | x::t=>by
    rw [List.filter_cons,List.find?_cons,List.dropWhile_cons]
    cases hx:P x with
    | true=>rfl
    | false=>exact filter_find P t
theorem nil_Put_s (w:World) (k:Key) (z:ByteArray):Calls Tryz.prog 112 #[.pointer none,.string (kb k),(.string z)] w fun e w'=>e=.returned (.tuple #[(.string ⟨#[]⟩),.bool false])∧Below w.heap.size w w':=by
 go_enter Tryz.func112,Tryz.ntmps112
 go_wp2
 exact bodyPost_ret (v:=.tuple #[(.string ⟨#[]⟩),.bool false]) (by simp [results,Tryz.results112,go_sem]) rfl ⟨rfl,Below.refl _ _⟩
theorem nil_Delete_s (w:World) (k:Key):Calls Tryz.prog 139 #[.pointer none,.string (kb k)] w fun e w'=>e=.returned (.tuple #[(.string ⟨#[]⟩),.bool false])∧Below w.heap.size w w':=by
 go_enter Tryz.func139,Tryz.ntmps139
 go_wp2
 exact bodyPost_ret (v:=.tuple #[(.string ⟨#[]⟩),.bool false]) zkS8 rfl ⟨rfl,Below.refl _ _⟩
theorem nil_Get_s (w:World) (k:Key):Calls Tryz.prog 63 #[.pointer none,.string (kb k)] w fun e w'=>e=.returned (.tuple #[(.string ⟨#[]⟩),.bool false])∧Below w.heap.size w w':=by
 go_enter Tryz.func63,Tryz.ntmps63
 go_wp2
 exact bodyPost_ret (v:=.tuple #[(.string ⟨#[]⟩),.bool false]) zM8Z rfl ⟨rfl,Below.refl _ _⟩
theorem nil_Next_s (w:World) (k:Key) (wi:Bool):Calls Tryz.prog 86 #[.pointer none,.string (kb k),.bool wi] w fun e w'=>e=.returned ((.tuple #[.string ⟨#[]⟩,(.string ⟨#[]⟩),.bool false]))∧Below w.heap.size w w':=by
 go_enter Tryz.func86,Tryz.ntmps86
 go_wp2_with fail
 refine (TyS.y1t w (.pointer none) none rfl).mono ?_
 rintro e w2 ⟨rfl,hb⟩
 unfold toldV
 simp only
 go_wp2
 exact bodyPost_ret (v:=(.tuple #[.string ⟨#[]⟩,(.string ⟨#[]⟩),.bool false])) zBTU rfl ⟨rfl,hb⟩
theorem nil_Keys_s (w:World) (k tu:Key) (most:Int):Calls Tryz.prog 62 #[.pointer none,.string (kb k),.string (kb tu),.int .i64 most] w fun e w'=>e=.returned (.slice none 0 0)∧Below w.heap.size w w':=by
 go_enter Tryz.func62,Tryz.ntmps62
 have HNX:=Lib.hid (nil_Next_s w k true)
 go_wp2_with fail
 refine HNX.out.mono ?_
 rintro e w2 ⟨rfl,hb⟩
 go_wp2
 go_loop [9,10,12] (fun l k ok=>l=.slice none 0 0∧k=.string ⟨#[]⟩∧ok=.bool false) (fun _ _ _=>0)
 case atStart=>exact ⟨rfl,rfl,rfl⟩
 case round =>
  obtain ⟨rfl,rfl,rfl⟩:=hrel
  go_wp2
  go_ret
  exact ⟨rfl,hb⟩
theorem box1t (w:World) (t:TypeId) (u:Value) (hu:u.oneCell'=true):Sl (w.alloc (.cells #[u] t)) (fun q=>q=w.heap.size) 1 (.slice (some ⟨w.heap.size,0,none⟩) 1 1) 1 [u] :=
 ⟨rfl,Ones.cons hu Ones.nil,.inr ⟨w.heap.size,0,1,rfl,Nat.le_refl _,zdUY,rfl,(Blk.new w t [u]).lt,fun j _=>by rw [Nat.zero_add];exact (Blk.new w t [u]).cell j⟩⟩
theorem RowsSq.pre {w w2 wr:World} {lv:Value} {rws:List RowV} (hb:Below w.heap.size w w2) (h:RowsSq w2 wr lv rws):RowsSq w wr lv rws:=by
 obtain ⟨h1,h2,h3,h4⟩:=h
 have hs:=hb.size
 exact ⟨h1,fun q hq=>Nat.le_trans hs (h2 q hq),hb.trans (h3.mono hs),fun r hr=>(h4 r hr).mono (Nat.le_refl _) (fun _ _ _=>rfl) (fun q hq _=>⟨Nat.le_trans hs hq.1,hq.2⟩)⟩
theorem RowsSq.below {w wr w':World} {lv:Value} {rws:List RowV} (h:RowsSq w wr lv rws) (hb:Below wr.heap.size wr w'):RowsSq w w' lv rws:=by
 obtain ⟨h1,h2,h3,h4⟩:=h
 exact ⟨h1.below hb,h2,h3.trans (hb.mono h3.size),fun r hr=>(h4 r hr).below hb⟩
theorem tscan_no (w:World) (R:Nat→Prop) (g:TabG) (h:TabOK w R g) (hs:Sep w g.res) (i:Int) (hi:(decide (0≤i) && decide (i < (g.xs.length:Int)))=false) (fr tu:ByteArray) (most:Int) :
 Calls Tryz.prog 23 #[ptrV g.tb,.int .i64 i,.string fr,.string tu,.int .i64 most] w fun e w'=>e=.returned (.slice none 0 0)∧w'=w:=by
 have hh:=thas_any w R g h hs i
 rw [hi] at hh
 have HH:=Lib.hid hh
 unfold ptrV at HH ⊢
 clear h hs hi hh
 go_enter Tryz.func23,Tryz.ntmps23
 go_wp2_with (go_at_call 61;refine HH.out.mono ?_;clear HH;rintro e w2 ⟨rfl,rfl⟩)
 go_ret
 exact ⟨rfl,rfl⟩
theorem tscan_any (w:World) (R:Nat→Prop) (g:TabG) (h:TabOK w R g) (hs:Sep w g.res) (i:Nat) (hi:i < g.xs.length) (fr tu:Key) (most:Int) (hm1:-9223372036854775808≤most) (hm2:most≤9223372036854775807) :
 Calls Tryz.prog 23 #[ptrV g.tb,.int .i64 i,.string (kb fr),.string (kb tu),.int .i64 most] w fun e w'=>∃ v rws,e=.returned v∧RowsSq w w' v rws∧rws.map RowV.l=scanR g i fr tu most:=by
 have hh:=thas_any w R g h hs i
 rw [show (decide (0≤(i:Int)) && decide ((i:Int) < (g.xs.length:Int)))=true by simp;omega] at hh
 have HH:=Lib.hid hh
 obtain ⟨d,hd⟩:=(h.it i hi).1
 have hl:=h.lenIt hi
 have hl2:=h.lim
 have hx2:i < g.S.idx.length:=zONN
 have HKY:Hid (∀ w2,Below w.heap.size w w2→Calls Tryz.prog 62 #[ptrV g.xs[i].2.b,.string (kb fr),.string (kb tu),.int .i64 most] w2 fun e w'=>∃ v,e=.returned v∧Own w' 9 1 v ((scanR g i fr tu most).map (kfS g.S i)).length (strC ((scanR g i fr tu most).map (kfS g.S i)))∧(∀ q,v.ownBlock=some q→w2.heap.size≤q)∧Below w2.heap.size w2 w'):=Lib.hid fun w2 hb=>by
  have h1:=keys_s w2 g.xs[i].2.b g.xs[i].2.p d g.xs[i].2.flat.length fr tu most ((TabG.itS hs hi).below hb) hd rfl zTbe hm1 hm2
  have e:(keysFrom fr tu g.xs[i].2.p.t.flat).take most.toNat=(scanR g i fr tu most).map (kfS g.S i):=keys_scan h hi fr tu most
  rw [e] at h1
  exact h1
 have hmem:∀ r∈scanR g i fr tu most,r∈g.rows:=fun r hr=>scan_mem (h.tab.uniq i hx2) hr
 have hrl:∀ r∈g.rows,r.length≤1000:=fun r hr=>by
  obtain ⟨p,hp,rfl⟩:=List.mem_map.1 hr
  have h1:=(fitB_len (h.ok p hp).fit).1
  have h2:=(sch_small h.st.right).1
  omega
 have HGET:Hid (∀ w2,Below w.heap.size w w2→∀ r∈scanR g i fr tu most,Calls Tryz.prog 63 #[ptrV g.xs[i].2.b,.string (kb (kfS g.S i r))] w2 fun e w'=>e=.returned (.tuple #[.string (kb (kfS g.S 0 r)),.bool true])∧Below w2.heap.size w2 w'):=Lib.hid fun w2 hb r hr=>by
  have h1:=TyS.y1q w2 g.xs[i].2.b g.xs[i].2.p d g.xs[i].2.flat.length (kfS g.S i r) ((TabG.itS hs hi).below hb) hd rfl zTbe
  have e:Afx.look (kfS g.S i r) g.xs[i].2.p.t.flat=some (.string (kb (kfS g.S 0 r))):=look_scan h hi (hmem r hr)
  rw [e] at h1
  exact h1
 have HROW:Hid (∀ w2,Below w.heap.size w w2→∀ r∈scanR g i fr tu most,Calls Tryz.prog 64 #[ptrV g.tb,.string (kb (kfS g.S 0 r))] w2 fun e w'=>∃ v',e=.returned v'∧Own w' 113 3 v' r.length (rowCells r)∧Below w2.heap.size w2 w'∧∀ q,v'.ownBlock=some q→w2.heap.size≤q):=Lib.hid fun w2 hb r hr=>by
  have h1:=trow_any w2 R g (h.below hb) (hs.below hb) (kfS g.S 0 r)
  rw [rowOf_key h (hmem r hr)] at h1
  exact h1
 have HRL:Hid (∀ r∈scanR g i fr tu most,r.length≤1000):=Lib.hid fun r hr=>hrl r (hmem r hr)
 have hsl:(scanR g i fr tu most).length≤1000:=by
  have h1:(scanR g i fr tu most).length≤(byM (kfS g.S) i g.rows).length:=by unfold scanR;exact Nat.le_trans z2Pg (List.length_filter_le (fromTo g.S i fr tu) _)
  have h3:=idx_len (kfS g.S) (n:=0) (rows:=g.rows) i
  unfold idxEnts at h3
  rw [List.length_map] at h3
  have:=g.rows_len
  omega
 have hkt:=TabG.blk hs
 have HKT:=Lib.hid hkt
 obtain ⟨c0,c1,c2,c3,c4,c5,c6,c7⟩:=tab_cells hkt
 obtain ⟨pi,ci,hiv,_,_⟩:=h.ix.form
 obtain ⟨gi,oi,cpi,hvi,_,hgi,e0,e1,e2⟩:=sl_three (f:=ixOne) (fun _=>rfl) h.ix hi
 rw [hvi] at c7
 have hlt:=hkt.lt
 have hxv:∃ p n c,g.xs[i].1.v=.slice p n c:=h.slots _ (List.getElem_mem hi)
 generalize scanR g i fr tu most=sc at *
 generalize g.xs[i]=q at *
 obtain ⟨⟨xv,xl,xu⟩,xt⟩:=q
 simp only [ixOne] at e0 e1 e2 hxv
 obtain ⟨px,nx,cx,rfl⟩:=hxv
 obtain ⟨w1,hw1⟩:=zY0w
 have hb1:=zppX
 have kx:=zoIR
 have x2:w1.cell? ⟨w.heap.size,2,none⟩=some (.pointer (some ⟨xt.b,0,none⟩)):=kx.cell 2
 have hlx:=kx.lt
 have HB1:=Lib.hid hb1
 have HKX:=Lib.hid kx
 have hkl:(sc.map (kfS g.S i)).length=sc.length:=List.length_map _
 unfold ptrV at HH HKY HGET HROW e2 ⊢
 simp only at HKY HGET
 clear h hs hh hd hl hl2 hx2 hmem hrl hkt hiv hvi hm1 hm2 kx
 go_enter Tryz.func23,Tryz.ntmps23
 go_wp2_with (go_at_call 61;refine HH.out.mono ?_;clear HH;rintro e w9 ⟨rfl,hw9⟩;subst w9)
 refine (HKY.out _ HB1.out).mono ?_
 clear HKY
 rintro e w2 ⟨kv,rfl,hok,hfk,hb2⟩
 obtain ⟨pk,ck,rfl,_,_⟩:=own_formT hok
 have HB2:=Lib.hid (HB1.out.trans (hb2.mono HB1.out.size))
 have hks:=hok.sl (B:=fun _=>True) (fun _ _=>trivial)
 have HKS:=Lib.hid hks
 have HKX2:=Lib.hid (HKX.out.below hb2)
 rw [hkl]
 clear hok hfk hb2 hb1 x2 hlx HKX c0 c1 c2 c3 c4 c5 c6 c7 hlt e0 e1 e2 hw1
 have HKL:=Lib.hid hkl
 clear hkl
 go_wp2
 go_loopw [11,35] (fun ov i wr=>∃ k:Nat,i=.int .i64 k∧k≤sc.length∧∃ rws,RowsSq w2 wr ov rws∧rws.map RowV.l=sc.take k) (fun _ i _=>sc.length - (intOf i).toNat)
 case atStart=>exact ⟨0,rfl,Nat.zero_le _,[],RowsSq.nil _ (Below.refl _ _),rfl⟩
 case round =>
  obtain ⟨k,rfl,hk,rws,hrw,hrk⟩:=hrel
  have hrn:rws.length=k:=by
   have:=congrArg List.length hrk
   rw [List.length_map,List.length_take] at this
   omega
  have hbw:=hrw.2.2.1
  have HBW:=Lib.hid (HB2.out.trans (hbw.mono HB2.out.size))
  have HRW:=Lib.hid hrw
  have HRK:=Lib.hid hrk
  obtain ⟨po,co,rfl,hc1,hc2⟩:=own_formT hrw.1
  have ho1:=hrw.1
  by_cases hkx:k < sc.length
  ·obtain ⟨gk,ok_,cpk,hvk,_,hgk,ek⟩:=sl_key (HKS.out.below hbw) (k:=k) (by rw [HKL.out];exact hkx)
   rw [HKL.out] at hvk
   cases hvk
   rw [List.getElem_map] at ek
   have hmk:sc[k]∈sc:=List.getElem_mem hkx
   have HG:=Lib.hid (fun w3 hb3=>HGET.out w3 hb3 sc[k] hmk)
   have HR:=Lib.hid (fun w3 hb3=>HROW.out w3 hb3 sc[k] hmk)
   have hrl:sc[k].length≤1000:=HRL.out _ hmk
   have HTK:Hid (sc.take (k+1)=sc.take k++[sc[k]]):=Lib.hid (List.take_append_getElem hkx).symm
   generalize kb (kfS g.S i sc[k])=k1 at *
   generalize kb (kfS g.S 0 sc[k])=k0 at *
   generalize sc[k]=rl at *
   have kx:=HKX2.out.below hbw
   have x2:wr.cell? ⟨w.heap.size,2,none⟩=some (.pointer (some ⟨xt.b,0,none⟩)):=kx.cell 2
   have hlx:=kx.lt
   have hlr:rws.length≤1000:=zTbe
   clear hrw hrk hbw kx hmk hrn ho1 hc1 hc2
   go_wp2_with (first
    | (go_at_call 63;refine (HG.out _ HBW.out).mono ?_;clear HG;rintro e w3 ⟨rfl,hb3⟩;have HB3:=Lib.hid hb3;clear hb3 x2 hlx ek)
    | (go_at_call 64;refine (HR.out _ (HBW.out.trans (HB3.out.mono HBW.out.size))).mono ?_;clear HR;rintro e w4 ⟨rv,rfl,ho4,hb4,hf4⟩;have HB4:=Lib.hid (HB3.out.trans (hb4.mono HB3.out.size));have HO4:=Lib.hid ho4;have HF4:=Lib.hid (fun q hq=>Nat.le_trans HB3.out.size (hf4 q hq));obtain ⟨p4,c4,rfl,_,_⟩:=own_formT ho4;have ho1:=(HRW.out.1.below HB4.out).below ((Below.refl _ _).alloc (Nat.le_refl _) (.cells #[.slice p4 rl.length c4] 37));have hs1:=box1t w4 37 (.slice p4 rl.length c4) rfl;clear hb4 hf4 ho4)
    | (at_builtin;refine wpList_app rfl _ _ rfl elemRowsT zdhv ho1 zdhv hs1 zefz zTbe ?_;intro v5 w5 g1 g2 g3 g4 g5;clear ho1 hs1;have G1:=Lib.hid g1;have G2:=Lib.hid g2;have G3:=Lib.hid g3;clear g1 g2 g3 g4 g5))
   go_roundw
   case rel =>
    have hq:=HRW.out.app HB4.out HO4.out HF4.out G1.out G2.out G3.out
    exact ⟨k+1,z3KH,zTbe,_,hq,by rw [List.map_append,HRK.out,HTK.out];rfl⟩
   case measure=>(simp [intOf])<;>omega
  ·obtain rfl:k=sc.length:=by omega
   clear hrw hrk hbw hrn ho1 hc1 hc2
   go_wp2
   go_ret
   exact ⟨_,rws,rfl,HRW.out.pre HB2.out,by rw [HRK.out,List.take_length]⟩
structure ActT where
 kind:Int
 n:Int
 key:ByteArray
 rv:Value
 row:List AV
 sv:Value
 rows:List RowV
def actCT1 (a:ActT):List Value:=[.int .i64 a.kind,.int .i64 a.n,.string a.key,a.rv,a.sv]
def actCT (l:List ActT):List Value:=(l.map actCT1).flatten
structure ActsAt (w:World) (B:Nat→Prop) (v:Value) (l:List ActT):Prop where
 sl:Sl w B 5 v l.length (actCT l)
 row:∀ a∈l,Sl w B 3 a.rv a.row.length (rowCells a.row)
 rows:∀ a∈l,RowsAt w B a.sv a.rows
 n64:∀ a∈l,fit64 a.kind∧fit64 a.n∧(∀ v∈a.row,fit64 v.n)∧∀ r∈a.rows,∀ v∈r.l,fit64 v.n
theorem ActsAt.below {w w':World} {B:Nat→Prop} {v:Value} {l:List ActT} (h:ActsAt w B v l) (hb:Below w.heap.size w w'):ActsAt w' B v l :=
 ⟨h.sl.below hb,fun a ha=>(h.row a ha).below hb,fun a ha=>(h.rows a ha).below hb,h.n64⟩
theorem ActsAt.only {w w':World} {S B:Nat→Prop} {v:Value} {l:List ActT} (h:ActsAt w B v l) (hb:Only S w w') (hd:∀ k,B k→¬ S k):ActsAt w' B v l :=
 ⟨h.sl.only hb hd,fun a ha=>(h.row a ha).only hb hd,fun a ha=>(h.rows a ha).only hb hd,h.n64⟩
def greatA (a:ActT):Bool:=greatB a.row || greatRowsB (a.rows.map RowV.l) || decide (300 < a.key.size)
def greatAs (l:List ActT):Bool:=decide (40 < l.length) || l.any greatA
def keyM (S:SchV) (m:List (List AV)) (a:ActT):Key:=if m.length=0∨a.n < 0 then a.key.toList else kfS S 0 (m.getD (a.n.toNat % m.length) [])
def doMd (S:SchV) (m:List (List AV)) (a:ActT):List (List AV) × Int :=
 if a.kind=0 then insMd S m a.row else if a.kind=1 then updMd S m (keyM S m a) a.row else if a.kind=2 then delMd S m (keyM S m a) else loadMd S (a.rows.map RowV.l)
def playMd (S:SchV) (m:List (List AV)) (l:List ActT):List (List AV):=l.foldl (fun m a=>(doMd S m a).1) m
theorem playMd_succ (S:SchV) (m:List (List AV)) (l:List ActT) {k:Nat} (hk:k < l.length):playMd S m (l.take (k+1))=(doMd S (playMd S m (l.take k)) l[k]).1:=by
 unfold playMd
 rw [←List.take_append_getElem hk,List.foldl_append]
 rfl
theorem insBy_last (kf:Nat→List AV→Key) (i:Nat) (r:List AV):∀ l:List (List AV),(∀ x∈l,Op.bytesLess (kf i x) (kf i r)=true)→insBy kf i r l=l++[r]
 | [],_=>rfl
 | x::t,h=>by
  rw [insBy,if_pos (h x zPXO),insBy_last kf i r t fun y hy=>h y (by simp [hy])]
  rfl
theorem byM_id_go (kf:Nat→List AV→Key) (i:Nat):∀ rows l:List (List AV),SortedBy kf i (l++rows)→rows.foldl (fun l r=>insBy kf i r l) l=l++rows
 | [],l,_=>zPXO
 | r::t,l,h=>by
  have h1:∀ x∈l,Op.bytesLess (kf i x) (kf i r)=true:=fun x hx=>(List.pairwise_append.1 h).2.2 x hx r zPXO
  rw [List.foldl_cons,insBy_last kf i r l h1,byM_id_go kf i t (l++[r]) (by rw [List.append_assoc];exact h),List.append_assoc]
  rfl
theorem byM_id (kf:Nat→List AV→Key) (i:Nat) {rows:List (List AV)} (h:SortedBy kf i rows):byM kf i rows=rows:=byM_id_go kf i rows [] h
def inP (S:SchV) (ps:List Int) (r:List AV):Bool:=ps.isEmpty || ps.contains (partO S r)
theorem tindex_any (w:World) (B:Nat→Prop) (v:Value) (l:List Int) (x:Int) (hl:Sl w B 1 v l.length (ints l)) :
 Calls Tryz.prog 150 #[v,.int .i64 x] w fun e w'=>(∃ r:Int,e=.returned (.int .i64 r)∧decide (0≤r)=l.contains x)∧Below w.heap.size w w':=by
 obtain ⟨p,cap,rfl,hc1,hc2⟩:=hl.form
 have HL:=Lib.hid hl
 clear hl
 go_enter Tryz.func150,Tryz.ntmps150
 go_wp2
 go_loopw [8] (fun i wr=>∃ k:Nat,i=.int .i64 k∧k≤l.length∧(l.take k).contains x=false∧Below w.heap.size w wr) (fun i _=>l.length - (intOf i).toNat)
 case atStart=>exact ⟨0,rfl,Nat.zero_le _,rfl,Below.refl _ _⟩
 case round =>
  obtain ⟨k,rfl,hk,hn,hb⟩:=hrel
  have HN:=Lib.hid hn
  have HB:=Lib.hid hb
  by_cases hka:k < l.length
  ·obtain ⟨g,off,cap1,hv,_,_,_,hlt,hc⟩:=(HL.out.below hb).place zTbe
   cases hv
   have e0:wr.cell? ⟨g,off+k,none⟩=some (.int .i64 l[k]):=by
    rw [hc k zUBQ]
    simp [ints]
   have HT:Hid (l[k]≠x→(l.take (k+1)).contains x=false):=fun h=>by
    rw [List.take_succ_eq_append_getElem hka,List.contains_append,HN.out]
    simp [Ne.symm h]
   have HY:Hid (l[k]=x→l.contains x=true):=fun h=>by
    rw [List.contains_iff_mem]
    exact h▸List.getElem_mem hka
   generalize l[k]=y at *
   clear hn hb hc
   by_cases hxy:y=x
   ·subst hxy
    have HC:=Lib.hid (HY.out rfl)
    clear HT HY
    go_wp2
    go_ret
    exact ⟨⟨k,rfl,by rw [HC.out];exact decide_eq_true zTbe⟩,HB.out⟩
   ·have HC:=Lib.hid (HT.out hxy)
    clear HT HY
    have d1:(x == y)=false:=beq_eq_false_iff_ne.2 (Ne.symm hxy)
    go_wp2
    exact ⟨⟨k+1,z3KH,zTbe,HC.out,HB.out⟩,zQOc⟩
  ·obtain rfl:k=l.length:=by omega
   have HC:Hid (l.contains x=false):=by
    have:=HN.out
    rwa [List.take_length] at this
   clear hn hb
   go_wp2
   go_ret
   exact ⟨⟨-1,rfl,by rw [HC.out];rfl⟩,HB.out⟩
theorem tcontains_any (w:World) (B:Nat→Prop) (v:Value) (l:List Int) (x:Int) (hl:Sl w B 1 v l.length (ints l)) :
 Calls Tryz.prog 118 #[v,.int .i64 x] w fun e w'=>e=.returned (.bool (l.contains x))∧Below w.heap.size w w':=by
 have HI:=Lib.hid (tindex_any w B v l x hl)
 obtain ⟨p,cap,rfl,hc1,hc2⟩:=hl.form
 clear hl
 go_enter Tryz.func118,Tryz.ntmps118
 go_wp2_with (go_at_call 150;refine HI.out.mono ?_;clear HI;rintro e w2 ⟨⟨r,rfl,hr⟩,hb2⟩)
 go_ret
 exact ⟨by rw [List.contains_eq_mem];rfl,hb2⟩
theorem among_any (w:World) (R:Nat→Prop) (g:TabG) (h:TabOK w R g) (hs:Sep w g.res) (B B2:Nat→Prop) (rv pv:Value) (row:List AV) (ps:List Int) (hr:Sl w B 3 rv row.length (rowCells row)) (hf:∀ a∈row,fit64 a.n) (hrl:row.length≤1000) (hp:Sl w B2 1 pv ps.length (ints ps)) :
 Calls Tryz.prog 87 #[ptrV g.tb,rv,pv] w fun e w'=>e=.returned (.bool (inP g.S ps row))∧Below w.heap.size w w':=by
 have HPT:=Lib.hid (tpart_any w R B g.S rv row h.st.sch hr hf hrl)
 have HCN:=Lib.hid (fun w2 (hb:Below w.heap.size w w2)=>tcontains_any w2 B2 pv ps (partO g.S row) (hp.below hb))
 have hkt:=TabG.blk hs
 obtain ⟨c0,c1,c2,c3,c4,c5,c6,c7⟩:=tab_cells hkt
 have hlt:=hkt.lt
 obtain ⟨pr,cr,rfl,_,_⟩:=hr.form
 obtain ⟨pp,cp,rfl,_,_⟩:=hp.form
 have HP:Hid (inP g.S ps row=(decide (ps.length=0) || ps.contains (partO g.S row))):=Lib.hid (by unfold inP;cases ps<;>simp)
 unfold ptrV
 simp only [SchV.agg] at HPT
 generalize partO g.S row=pn at *
 clear h hs hr hf hrl hp hkt
 by_cases h0:ps.length=0
 ·have e0:decide ((ps.length:Int)=0)=true:=decide_eq_true zTbe
  have e1:((ps.length:Int) == 0)=true:=beq_iff_eq.2 zTbe
  have HR:Hid (inP g.S ps row=true):=Lib.hid (by rw [HP.out,decide_eq_true h0];rfl)
  clear HP h0
  go_enter Tryz.func87,Tryz.ntmps87
  go_wp2
  go_ret
  exact ⟨by rw [HR.out];rfl,Below.refl _ _⟩
 ·have e1:((ps.length:Int) == 0)=false:=beq_eq_false_iff_ne.2 zTbe
  have HR:Hid (inP g.S ps row=ps.contains pn):=Lib.hid (by rw [HP.out,decide_eq_false h0];rfl)
  clear HP h0
  generalize ps.contains pn=bo at *
  go_enter Tryz.func87,Tryz.ntmps87
  go_wp2_with fail
  refine HPT.out.mono ?_
  clear HPT
  rintro e w2 ⟨rfl,hb2⟩
  have HB2:=Lib.hid hb2
  clear hb2 c0 c1 c2 c3 c4 c5 c6 c7 hlt
  go_wp2_with fail
  refine (HCN.out _ HB2.out).mono ?_
  clear HCN
  rintro e w3 ⟨rfl,hb3⟩
  have HB3:=Lib.hid (HB2.out.trans (hb3.mono HB2.out.size))
  clear hb3
  go_wp2
  go_ret
  exact ⟨by rw [HR.out];rfl,HB3.out⟩
def ToldT (S:SchV) (i:Nat) (T:List (List AV)) (s1 s2:ByteArray) (ok:Bool):Prop:=match T with
 | []=>s1=⟨#[]⟩∧s2=⟨#[]⟩∧ok=false
 | r::_=>s1=kb (kfS S i r)∧s2=kb (kfS S 0 r)∧ok=true
theorem told_tail (S:SchV) (i:Nat) (T:List (List AV)):∃ s1 s2 ok,toldV (.string ⟨#[]⟩) (T.head?.map fun r=>(⟨kfS S i r,.string (kb (kfS S 0 r))⟩:En))=.tuple #[.string s1,.string s2,.bool ok]∧ToldT S i T s1 s2 ok:=by
 cases T with
 | nil=>exact ⟨_,_,_,rfl,rfl,rfl,rfl⟩
 | cons r t=>exact ⟨_,_,_,rfl,rfl,rfl,rfl⟩
def FromOut (w:World) (S:SchV) (i:Nat) (o:Option (List AV)) (e:Ending) (w':World):Prop:=match o with
 | none=>e=.returned (.tuple #[.string ⟨#[]⟩,.slice none 0 0,.bool false])∧Below w.heap.size w w'
 | some r=>∃ v,e=.returned (.tuple #[.string (kb (kfS S i r)),v,.bool true])∧Own w' 113 3 v r.length (rowCells r)∧(∀ q,v.ownBlock=some q→w.heap.size≤q)∧Below w.heap.size w w'
def FromSt (w1:World) (S:SchV) (i:Nat) (by_:List (List AV)) (P:List AV→Bool) (o:Option (List AV)) (kv yv ov:Value) (wr:World) (n:Nat):Prop :=
 ∃ pre T s1 s2 ok,T.length=n∧kv=.string s1∧yv=.string s2∧ov=.bool ok∧by_=pre++T∧ToldT S i T s1 s2 ok∧o=T.find? P∧Below w1.heap.size w1 wr
theorem from_no (w:World) (R:Nat→Prop) (g:TabG) (h:TabOK w R g) (hs:Sep w g.res) (i:Int) (hi:(decide (0≤i) && decide (i < (g.xs.length:Int)))=false) (k:ByteArray) (wi:Bool) (pv:Value) :
 Calls Tryz.prog 57 #[ptrV g.tb,.int .i64 i,.string k,.bool wi,pv] w fun e w'=>e=.returned (.tuple #[.string ⟨#[]⟩,.slice none 0 0,.bool false])∧w'=w:=by
 have hh:=thas_any w R g h hs i
 rw [hi] at hh
 have HH:=Lib.hid hh
 unfold ptrV at HH ⊢
 clear h hs hi hh
 go_enter Tryz.func57,Tryz.ntmps57
 go_wp2_with (go_at_call 61;refine HH.out.mono ?_;clear HH;rintro e w9 ⟨rfl,hw9⟩;subst w9)
 go_ret3
 exact ⟨rfl,rfl⟩
theorem from_any (w:World) (R:Nat→Prop) (g:TabG) (h:TabOK w R g) (hs:Sep w g.res) (i:Nat) (hi:i < g.xs.length) (k:Key) (wi:Bool) (B2:Nat→Prop) (pv:Value) (ps:List Int) (hp:Sl w B2 1 pv ps.length (ints ps)) :
 Calls Tryz.prog 57 #[ptrV g.tb,.int .i64 i,.string (kb k),.bool wi,pv] w (FromOut w g.S i ((tailK (kfS g.S i) k wi (byM (kfS g.S) i g.rows)).find? (inP g.S ps))):=by
 have hh:=thas_any w R g h hs i
 rw [show (decide (0≤(i:Int)) && decide ((i:Int) < (g.xs.length:Int)))=true by simp;omega] at hh
 have HH:=Lib.hid hh
 obtain ⟨d,hd⟩:=(h.it i hi).1
 have hl:=h.lenIt hi
 have hl2:=h.lim
 have hx2:i < g.S.idx.length:=zONN
 have hby:=byM_spec (kfS g.S) i g.rows (h.tab.uniq i hx2)
 have HNX:Hid (∀ w2,Below w.heap.size w w2→∀ k wi,Calls Tryz.prog 86 #[ptrV g.xs[i].2.b,.string (kb k),.bool wi] w2 fun e w'=>∃ s1 s2 ok,e=.returned (.tuple #[.string s1,.string s2,.bool ok])∧ToldT g.S i (tailK (kfS g.S i) k wi (byM (kfS g.S) i g.rows)) s1 s2 ok∧Below w2.heap.size w2 w'):=Lib.hid fun w2 hb k wi=>by
  refine (next_s w2 g.xs[i].2.b g.xs[i].2.p d g.xs[i].2.flat.length k wi ((TabG.itS hs hi).below hb) hd rfl zTbe).mono ?_
  rintro e w' ⟨rfl,hb'⟩
  have e:g.xs[i].2.p.t.flat=idxEnts (kfS g.S) i g.rows:=(h.it i hi).2
  rw [e,abv_idx]
  obtain ⟨s1,s2,ok,h1,h2⟩:=told_tail g.S i (tailK (kfS g.S i) k wi (byM (kfS g.S) i g.rows))
  exact ⟨s1,s2,ok,by rw [h1],h2,hb'⟩
 have HROW:Hid (∀ w2,Below w.heap.size w w2→∀ r∈byM (kfS g.S) i g.rows,Calls Tryz.prog 64 #[ptrV g.tb,.string (kb (kfS g.S 0 r))] w2 fun e w'=>∃ v',e=.returned v'∧Own w' 113 3 v' r.length (rowCells r)∧Below w2.heap.size w2 w'∧∀ q,v'.ownBlock=some q→w2.heap.size≤q):=Lib.hid fun w2 hb r hr=>by
  have h1:=trow_any w2 R g (h.below hb) (hs.below hb) (kfS g.S 0 r)
  rw [rowOf_key h ((hby.2 r).1 hr)] at h1
  exact h1
 have HAM:Hid (∀ w2,Below w.heap.size w w2→∀ r∈byM (kfS g.S) i g.rows,∀ rv,Own w2 113 3 rv r.length (rowCells r)→Calls Tryz.prog 87 #[ptrV g.tb,rv,pv] w2 fun e w'=>e=.returned (.bool (inP g.S ps r))∧Below w2.heap.size w2 w'):=Lib.hid fun w2 hb r hr rv ho=>by
  obtain ⟨p,hp1,rfl⟩:=List.mem_map.1 ((hby.2 r).1 hr)
  have hok:=h.ok p hp1
  have h1:=(fitB_len hok.fit).1
  have h2:=(sch_small h.st.right).1
  exact among_any w2 R g (h.below hb) (hs.below hb) (fun _=>True) B2 rv pv p.1 ps (ho.sl fun _ _=>trivial) hok.n64 zTbe (hp.below hb)
 have HMID:Hid (∀ pre post r,byM (kfS g.S) i g.rows=pre++r::post→tailK (kfS g.S i) (kfS g.S i r) false (byM (kfS g.S) i g.rows)=post):=Lib.hid fun pre post r e=>by
  have h1:=hby.1
  rw [e] at h1 ⊢
  exact drop_mid (kfS g.S i) pre post r h1
 have HSUF:=Lib.hid (tail_suffix (kfS g.S i) k wi (byM (kfS g.S) i g.rows))
 have hkt:=TabG.blk hs
 obtain ⟨c0,c1,c2,c3,c4,c5,c6,c7⟩:=tab_cells hkt
 obtain ⟨gi,oi,cpi,hvi,_,hgi,e0,e1,e2⟩:=sl_three (f:=ixOne) (fun _=>rfl) h.ix hi
 rw [hvi] at c7
 have hlt:=hkt.lt
 have hxv:∃ p n c,g.xs[i].1.v=.slice p n c:=h.slots _ (List.getElem_mem hi)
 obtain ⟨pp,cp,rfl,_,_⟩:=hp.form
 generalize inP g.S ps=P at *
 generalize byM (kfS g.S) i g.rows=by_ at *
 generalize g.xs[i]=q at *
 obtain ⟨⟨xv,xl,xu⟩,xt⟩:=q
 simp only [ixOne] at e0 e1 e2 hxv
 obtain ⟨px,nx,cx,rfl⟩:=hxv
 obtain ⟨w1,hw1⟩:=zY0w
 have hb1:=zppX
 have kx:=zoIR
 have x2:w1.cell? ⟨w.heap.size,2,none⟩=some (.pointer (some ⟨xt.b,0,none⟩)):=kx.cell 2
 have hlx:=kx.lt
 have HB1:=Lib.hid hb1
 have HKX:=Lib.hid kx
 unfold ptrV at HH HNX HROW HAM e2 ⊢
 simp only at HNX
 obtain ⟨o,ho⟩:∃ o,(tailK (kfS g.S i) k wi by_).find? P=o:=⟨_,rfl⟩
 rw [ho]
 have HO:=Lib.hid ho
 clear h hs hp hh hd hl hl2 hx2 hby hkt hvi kx ho hb1
 go_enter Tryz.func57,Tryz.ntmps57
 go_wp2_with (go_at_call 61;refine HH.out.mono ?_;clear HH;rintro e w9 ⟨rfl,hw9⟩;subst w9)
 refine (HNX.out _ HB1.out k wi).mono ?_
 rintro e w2 ⟨s1,s2,ok,rfl,htd,hb2⟩
 have HTD:=Lib.hid htd
 have HB2:=Lib.hid hb2
 have HKX2:=Lib.hid (HKX.out.below hb2)
 clear htd hb2 x2 hlx HKX c0 c1 c2 c3 c4 c5 c6 c7 hlt e0 e1 e2 hw1 hgi
 go_wp2
 go_loopw [2,14,15] (fun kv yv ov wr=>∃ n,FromSt w2 g.S i by_ P o kv yv ov wr n) (fun kv yv ov wr=>gm (FromSt w2 g.S i by_ P o kv yv ov wr))
 case atStart =>
  obtain ⟨pre,hpre⟩:=HSUF.out
  exact ⟨_,pre,_,s1,s2,ok,rfl,rfl,rfl,rfl,hpre,HTD.out,HO.out.symm,Below.refl _ _⟩
 case round =>
  have hst:=gm_spec hrel
  obtain ⟨dd,hdd⟩:∃ dd,gm (FromSt w2 g.S i by_ P o u2 u14 u15 wr)=dd:=⟨_,rfl⟩
  rw [hdd] at hst
  have HGM:=Lib.hid hdd
  obtain ⟨pre,T,s1,s2,ok,hTn,rfl,rfl,rfl,hby,htd,hoT,hbw⟩:=hst
  have HBW:=Lib.hid (HB1.out.trans ((HB2.out.trans (hbw.mono HB2.out.size)).mono HB1.out.size))
  have HW2:=Lib.hid hbw
  cases T with
  | nil =>
   obtain ⟨rfl,rfl,rfl⟩:=htd
   have HON:Hid (o=none):=Lib.hid hoT
   clear hTn hby hoT hbw hdd hrel
   go_wp2
   go_ret3
   show FromOut w g.S i o _ _
   rw [HON.out]
   exact ⟨rfl,HBW.out⟩
  | cons r t =>
   obtain ⟨rfl,rfl,rfl⟩:=htd
   have hmr:r∈by_:=by rw [hby];simp
   have HR1:=Lib.hid (fun w3 hb3=>HROW.out w3 hb3 r hmr)
   have HR2:=Lib.hid (fun w3 hb3=>HROW.out w3 hb3 r hmr)
   have HA:=Lib.hid (fun w3 hb3=>HAM.out w3 hb3 r hmr)
   have HNR:=Lib.hid (fun w3 hb3=>HNX.out w3 hb3 (kfS g.S i r) false)
   have HMR:=Lib.hid (HMID.out pre t r hby)
   rw [HMR.out] at HNR
   have HBY:=Lib.hid hby
   have HTN:Hid (t.length+1=dd):=Lib.hid hTn
   have kx:=HKX2.out.below hbw
   have HKX3:=Lib.hid kx
   have x2:wr.cell? ⟨w.heap.size,2,none⟩=some (.pointer (some ⟨xt.b,0,none⟩)):=kx.cell 2
   have hlx:=kx.lt
   have HOT:Hid (o=if P r then some r else t.find? P):=Lib.hid (by rw [hoT,List.find?_cons];cases P r<;>rfl)
   have HKI:Hid (kb (kfS g.S i r)=kb (kfS g.S i r)):=Lib.hid rfl
   clear hTn hby hoT hbw hdd hrel hmr kx HMR
   obtain ⟨pr,hpr⟩:∃ pr,P r=pr:=⟨_,rfl⟩
   rw [hpr] at HA HOT
   clear hpr
   generalize kb (kfS g.S 0 r)=k0 at *
   cases pr
   ·go_wp2_with fail
    refine (HR1.out _ HBW.out).mono ?_
    clear HR1
    rintro e w3 ⟨rv,rfl,ho3,hb3,_⟩
    have HB3:=Lib.hid (HBW.out.trans (hb3.mono HBW.out.size))
    have HO3:=Lib.hid ho3
    have HKX4:=Lib.hid (HKX3.out.below hb3)
    have HW3:=Lib.hid (HW2.out.trans (hb3.mono HW2.out.size))
    obtain ⟨p3,c3,rfl,_,_⟩:=own_formT ho3
    clear ho3 hb3 x2 hlx
    go_wp2_with fail
    refine (HA.out _ HB3.out _ HO3.out).mono ?_
    clear HA
    rintro e w4 ⟨rfl,hb4⟩
    have HB4:=Lib.hid (HB3.out.trans (hb4.mono HB3.out.size))
    have HW4:=Lib.hid (HW3.out.trans (hb4.mono HW3.out.size))
    have x2:w4.cell? ⟨w.heap.size,2,none⟩=some (.pointer (some ⟨xt.b,0,none⟩)):=(HKX4.out.below hb4).cell 2
    have hlx:=(HKX4.out.below hb4).lt
    clear hb4
    go_wp2_with fail
    refine (HNR.out _ HB4.out).mono ?_
    clear HNR
    rintro e w5 ⟨s1,s2,ok,rfl,htd,hb5⟩
    have HTD5:=Lib.hid htd
    have HW5:=Lib.hid (HW4.out.trans (hb5.mono HW4.out.size))
    clear htd hb5 x2 hlx
    go_wp2
    have hnew:FromSt w2 g.S i by_ P o (.string s1) (.string s2) (.bool ok) w5 t.length:=⟨pre++[r],t,s1,s2,ok,rfl,rfl,rfl,rfl,by rw [HBY.out];simp,HTD5.out,by rw [HOT.out];rfl,HW5.out⟩
    go_roundw
    case rel=>exact ⟨_,hnew⟩
    case measure =>
     have h1:=gm_le hnew
     have h2:=HGM.out
     have h3:=HTN.out
     omega
   ·go_wp2_with fail
    refine (HR1.out _ HBW.out).mono ?_
    clear HR1
    rintro e w3 ⟨rv,rfl,ho3,hb3,_⟩
    have HB3:=Lib.hid (HBW.out.trans (hb3.mono HBW.out.size))
    have HO3:=Lib.hid ho3
    obtain ⟨p3,c3,rfl,_,_⟩:=own_formT ho3
    clear ho3 hb3 x2 hlx
    go_wp2_with fail
    refine (HA.out _ HB3.out _ HO3.out).mono ?_
    clear HA
    rintro e w4 ⟨rfl,hb4⟩
    have HB4:=Lib.hid (HB3.out.trans (hb4.mono HB3.out.size))
    clear hb4
    go_wp2_with fail
    refine (HR2.out _ HB4.out).mono ?_
    clear HR2
    rintro e w5 ⟨rv5,rfl,ho5,hb5,hf5⟩
    have HB5:=Lib.hid (HB4.out.trans (hb5.mono HB4.out.size))
    have HO5:=Lib.hid ho5
    have HF5:=Lib.hid hf5
    obtain ⟨p5,c5,rfl,_,_⟩:=own_formT ho5
    clear ho5 hb5 hf5
    go_wp2
    go_ret3
    show FromOut w g.S i o _ _
    rw [HOT.out]
    exact ⟨_,rfl,HO5.out,fun q hq=>Nat.le_trans HB4.out.size (HF5.out q hq),HB5.out⟩
theorem tfirst_no (w:World) (R:Nat→Prop) (g:TabG) (h:TabOK w R g) (hs:Sep w g.res) (i:Int) (hi:(decide (0≤i) && decide (i < (g.xs.length:Int)))=false) (pv:Value) :
 Calls Tryz.prog 15 #[ptrV g.tb,.int .i64 i,pv] w fun e w'=>e=.returned (.tuple #[.string ⟨#[]⟩,.slice none 0 0,.bool false])∧w'=w:=by
 have HF:=Lib.hid (from_no w R g h hs i hi ⟨#[]⟩ true pv)
 unfold ptrV at HF ⊢
 clear h hs hi
 go_enter Tryz.func15,Tryz.ntmps15
 exact zIMD
theorem tfirst_any (w:World) (R:Nat→Prop) (g:TabG) (h:TabOK w R g) (hs:Sep w g.res) (i:Nat) (hi:i < g.xs.length) (B2:Nat→Prop) (pv:Value) (ps:List Int) (hp:Sl w B2 1 pv ps.length (ints ps)) :
 Calls Tryz.prog 15 #[ptrV g.tb,.int .i64 i,pv] w (FromOut w g.S i ((byM (kfS g.S) i g.rows).find? (inP g.S ps))):=by
 have hf:=from_any w R g h hs i hi [] true B2 pv ps hp
 rw [tail_all] at hf
 have HF:=Lib.hid hf
 have e0:kb []=⟨#[]⟩:=rfl
 rw [e0] at HF
 obtain ⟨o,ho⟩:∃ o,(byM (kfS g.S) i g.rows).find? (inP g.S ps)=o:=⟨_,rfl⟩
 rw [ho] at HF ⊢
 obtain ⟨pp,cp,rfl,_,_⟩:=hp.form
 unfold ptrV at HF ⊢
 clear h hs hi hp hf ho e0
 go_enter Tryz.func15,Tryz.ntmps15
 exact zsr9
theorem tnext_no (w:World) (R:Nat→Prop) (g:TabG) (h:TabOK w R g) (hs:Sep w g.res) (i:Int) (hi:(decide (0≤i) && decide (i < (g.xs.length:Int)))=false) (k:ByteArray) (pv:Value) :
 Calls Tryz.prog 20 #[ptrV g.tb,.int .i64 i,.string k,pv] w fun e w'=>e=.returned (.tuple #[.string ⟨#[]⟩,.slice none 0 0,.bool false])∧w'=w:=by
 have HF:=Lib.hid (from_no w R g h hs i hi k false pv)
 unfold ptrV at HF ⊢
 clear h hs hi
 go_enter Tryz.func20,Tryz.ntmps20
 exact zIMD
theorem tnext_any (w:World) (R:Nat→Prop) (g:TabG) (h:TabOK w R g) (hs:Sep w g.res) (i:Nat) (hi:i < g.xs.length) (k:Key) (B2:Nat→Prop) (pv:Value) (ps:List Int) (hp:Sl w B2 1 pv ps.length (ints ps)) :
 Calls Tryz.prog 20 #[ptrV g.tb,.int .i64 i,.string (kb k),pv] w (FromOut w g.S i ((tailK (kfS g.S i) k false (byM (kfS g.S) i g.rows)).find? (inP g.S ps))):=by
 have HF:=Lib.hid (from_any w R g h hs i hi k false B2 pv ps hp)
 obtain ⟨o,ho⟩:∃ o,(tailK (kfS g.S i) k false (byM (kfS g.S) i g.rows)).find? (inP g.S ps)=o:=⟨_,rfl⟩
 rw [ho] at HF ⊢
 obtain ⟨pp,cp,rfl,_,_⟩:=hp.form
 unfold ptrV at HF ⊢
 clear h hs hi hp ho
 go_enter Tryz.func20,Tryz.ntmps20
 exact zsr9
def CurT (wa wr:World) (S:SchV) (o:Option (List AV)) (kv yv okv:Value):Prop:=match o with
 | none=>kv=.string ⟨#[]⟩∧yv=.slice none 0 0∧okv=.bool false
 | some r=>kv=.string (kb (kfS S 0 r))∧okv=.bool true∧Own wr 113 3 yv r.length (rowCells r)∧∀ q,yv.ownBlock=some q→wa.heap.size≤q
def RowsSt (w:World) (S:SchV) (by_:List (List AV)) (P:List AV→Bool) (ov kv yv okv:Value) (wr:World) (n:Nat):Prop :=
 ∃ wa pre T rws,T.length=n∧by_=pre++T∧RowsSq w wa ov rws∧Below wa.heap.size wa wr∧rws.map RowV.l++T.filter P=by_.filter P∧CurT wa wr S (T.find? P) kv yv okv
theorem find_split {P:List AV→Bool} {T:List (List AV)} {r:List AV} (h:T.find? P=some r):∃ a b,T=a++r::b∧T.filter P=r::b.filter P:=by
 obtain ⟨h1,a,b,rfl,h2⟩:=List.find?_eq_some_iff_append.1 h
 refine ⟨a,b,rfl,?_⟩
 rw [List.filter_append,List.filter_cons,h1]
 have:a.filter P=[]:=by
  rw [List.filter_eq_nil_iff]
  intro x hx
  have:=h2 x hx
  simpa using this
 rw [this];rfl
theorem filter_none {P:List AV→Bool} {T:List (List AV)} (h:T.find? P=none):T.filter P=[]:=by
 rw [List.filter_eq_nil_iff]
 exact List.find?_eq_none.1 h
theorem trows_any (w:World) (R:Nat→Prop) (g:TabG) (h:TabOK w R g) (hs:Sep w g.res) (B2:Nat→Prop) (pv:Value) (ps:List Int) (hp:Sl w B2 1 pv ps.length (ints ps)) :
 Calls Tryz.prog 22 #[ptrV g.tb,pv] w fun e w'=>∃ v rws,e=.returned v∧RowsSq w w' v rws∧rws.map RowV.l=g.rows.filter (inP g.S ps):=by
 have hn1:=(sch_small h.st.right).2.2.1
 have hx0:0 < g.xs.length:=by rw [h.xl];omega
 have hid:=byM_id (kfS g.S) 0 h.tab.sort
 have hlen:g.rows.length≤1000:=by rw [g.rows_len];exact h.lim
 have HFI:Hid (Calls Tryz.prog 15 #[ptrV g.tb,.int .i64 0,pv] w (FromOut w g.S 0 (g.rows.find? (inP g.S ps)))):=Lib.hid (by
  have h1:=tfirst_any w R g h hs 0 hx0 B2 pv ps hp
  rw [hid] at h1
  exact h1)
 have HNX:Hid (∀ w2,Below w.heap.size w w2→∀ k,Calls Tryz.prog 20 #[ptrV g.tb,.int .i64 0,.string (kb k),pv] w2 (FromOut w2 g.S 0 ((tailK (kfS g.S 0) k false g.rows).find? (inP g.S ps)))):=Lib.hid fun w2 hb k=>by
  have h1:=tnext_any w2 R g (h.below hb) (hs.below hb) 0 hx0 k B2 pv ps (hp.below hb)
  rw [hid] at h1
  exact h1
 have HMID:Hid (∀ pre post r,g.rows=pre++r::post→tailK (kfS g.S 0) (kfS g.S 0 r) false g.rows=post):=Lib.hid fun pre post r e=>by
  have h1:=h.tab.sort
  rw [e] at h1 ⊢
  exact drop_mid (kfS g.S 0) pre post r h1
 obtain ⟨pp,cp,rfl,_,_⟩:=hp.form
 generalize inP g.S ps=P at *
 generalize g.rows=by_ at *
 unfold ptrV at HFI HNX ⊢
 clear h hs hp hn1 hx0 hid
 go_enter Tryz.func22,Tryz.ntmps22
 go_wp2_with fail
 refine HFI.out.mono ?_
 clear HFI
 intro e w2 hfo
 have hst:∃ k y ok,e=.returned (.tuple #[k,y,ok])∧RowsSt w g.S by_ P (.slice none 0 0) k y ok w2 by_.length:=by
  cases hf:by_.find? P with
  | none =>
   rw [hf] at hfo
   obtain ⟨rfl,hb2⟩:=hfo
   exact ⟨_,_,_,rfl,w,[],by_,[],rfl,rfl,RowsSq.nil w (Below.refl _ _),hb2,rfl,by rw [hf];exact ⟨rfl,rfl,rfl⟩⟩
  | some r =>
   rw [hf] at hfo
   obtain ⟨v,rfl,ho2,hf2,hb2⟩:=hfo
   exact ⟨_,_,_,rfl,w,[],by_,[],rfl,rfl,RowsSq.nil w (Below.refl _ _),hb2,rfl,by rw [hf];exact ⟨rfl,rfl,ho2,hf2⟩⟩
 clear hfo
 obtain ⟨k0,y0,ok0,rfl,hst⟩:=hst
 have HST:=Lib.hid hst
 clear hst
 go_wp2
 go_loopw [5,6,7,8] (fun ov kv yv okv wr=>∃ n,RowsSt w g.S by_ P ov kv yv okv wr n) (fun ov kv yv okv wr=>gm (RowsSt w g.S by_ P ov kv yv okv wr))
 case atStart=>exact ⟨_,HST.out⟩
 case round =>
  have hst:=gm_spec hrel
  obtain ⟨dd,hdd⟩:∃ dd,gm (RowsSt w g.S by_ P u5 u6 u7 u8 wr)=dd:=⟨_,rfl⟩
  rw [hdd] at hst
  have HGM:=Lib.hid hdd
  clear hdd hrel
  obtain ⟨wa,pre,T,rws,hTn,hby,hrw,hbw,hfl,hcur⟩:=hst
  have HRW:=Lib.hid hrw
  have HBW:=Lib.hid hbw
  have HWR:=Lib.hid (hrw.2.2.1.trans (hbw.mono hrw.2.2.1.size))
  obtain ⟨po,co,rfl,hc1,hc2⟩:=own_formT hrw.1
  cases hf:T.find? P with
  | none =>
   rw [hf] at hcur
   obtain ⟨rfl,rfl,rfl⟩:=hcur
   have HFL:Hid (rws.map RowV.l=by_.filter P):=Lib.hid (by rw [←hfl,filter_none hf,List.append_nil])
   clear hTn hby hrw hbw hfl hf hc1 hc2
   go_wp2
   go_ret
   exact ⟨_,rws,rfl,HRW.out.below HBW.out,HFL.out⟩
  | some r =>
   rw [hf] at hcur
   obtain ⟨rfl,rfl,ho7,hf7⟩:=hcur
   obtain ⟨a,b,hT,hTf⟩:=find_split hf
   have hby2:by_=(pre++a)++r::b:=by rw [hby,hT];simp
   have HN:=Lib.hid (fun w3 hb3=>HNX.out w3 hb3 (kfS g.S 0 r))
   rw [HMID.out _ _ _ hby2] at HN
   have hlr:rws.length≤1000:=by
    have h1:=congrArg List.length hfl
    rw [List.length_append,List.length_map] at h1
    have h2:=List.length_filter_le P by_
    omega
   have HBY:Hid (by_=(pre++a++[r])++b):=Lib.hid (by rw [hby2];simp)
   have HFL:Hid (∀ v:Value,(rws++[(⟨v,r⟩:RowV)]).map RowV.l++b.filter P=by_.filter P):=Lib.hid fun v=>by
    rw [←hfl,hTf,List.map_append];simp
   have HTN:Hid (b.length < dd):=Lib.hid (by rw [←hTn,hT,List.length_append,List.length_cons];omega)
   have HO7:=Lib.hid ho7
   have HF7:=Lib.hid hf7
   obtain ⟨p7,c7,rfl,_,_⟩:=own_formT ho7
   have ho1:=(hrw.1.below hbw).below ((Below.refl wr.heap.size wr).alloc (Nat.le_refl _) (.cells #[.slice p7 r.length c7] 37))
   have hs1:=box1t wr 37 (.slice p7 r.length c7) rfl
   clear hTn hby hrw hbw hfl hf hc1 hc2 ho7 hf7 hT hTf hby2
   go_wp2_with (at_builtin;refine wpList_app rfl _ _ rfl elemRowsT zdhv ho1 zdhv hs1 zefz zTbe ?_;intro v5 w5 g1 g2 g3 g4 g5;clear ho1 hs1;have G1:=Lib.hid g1;have HQ:=Lib.hid (HRW.out.app HBW.out HO7.out HF7.out g1 g2 g3);clear g1 g2 g3 g4 g5)
   refine (HN.out _ HQ.out.2.2.1).mono ?_
   clear HN
   intro e w6 hfo
   have hst:∃ k y ok,e=.returned (.tuple #[k,y,ok])∧RowsSt w g.S by_ P v5 k y ok w6 b.length:=by
    cases hf:b.find? P with
    | none =>
     rw [hf] at hfo
     obtain ⟨rfl,hb2⟩:=hfo
     exact ⟨_,_,_,rfl,w5,_,b,_,rfl,HBY.out,HQ.out,hb2,HFL.out _,by rw [hf];exact ⟨rfl,rfl,rfl⟩⟩
    | some r =>
     rw [hf] at hfo
     obtain ⟨v,rfl,ho2,hf2,hb2⟩:=hfo
     exact ⟨_,_,_,rfl,w5,_,b,_,rfl,HBY.out,HQ.out,hb2,HFL.out _,by rw [hf];exact ⟨rfl,rfl,ho2,hf2⟩⟩
   clear hfo
   obtain ⟨k0,y0,ok0,rfl,hst⟩:=hst
   have HST2:=Lib.hid hst
   clear hst
   go_wp2
   go_roundw
   case rel=>exact ⟨_,HST2.out⟩
   case measure =>
    have h1:=gm_le HST2.out
    have h2:=HGM.out
    have h3:=HTN.out
    omega
theorem tin_any (w:World) (R:Nat→Prop) (g:TabG) (h:TabOK w R g) (hs:Sep w g.res) (B2:Nat→Prop) (pv:Value) (ps:List Int) (hp:Sl w B2 1 pv ps.length (ints ps)) :
 Calls Tryz.prog 21 #[ptrV g.tb,pv] w fun e w'=>e=.returned (.int .i64 ((g.rows.filter (inP g.S ps)).length:Int))∧Below w.heap.size w w':=by
 have HR:=Lib.hid (trows_any w R g h hs B2 pv ps hp)
 obtain ⟨pp,cp,rfl,_,_⟩:=hp.form
 generalize g.rows.filter (inP g.S ps)=L at *
 unfold ptrV at HR ⊢
 clear h hs hp
 go_enter Tryz.func21,Tryz.ntmps21
 go_wp2_with fail
 refine HR.out.mono ?_
 clear HR
 rintro e w2 ⟨v,rws,rfl,hq,hl⟩
 have HB:=Lib.hid hq.2.2.1
 have HL:Hid (rws.length=L.length):=Lib.hid (by rw [←hl,List.length_map])
 obtain ⟨pq,cq,rfl,_,_⟩:=own_formT hq.1
 clear hq hl
 go_wp2
 go_ret
 exact ⟨by rw [←HL.out];rfl,HB.out⟩
theorem StepT.trans {w w1 w2:World} {R:Nat→Prop} {g g1 g2:TabG} (hd:∀ k∈feet g.res,¬ R k) (h1:StepT w w1 R g g1) (h2:StepT w1 w2 (grow R w.heap.size (feet g1.res)) g1 g2):StepT w w2 R g g2:=by
 have hT:=Trk.after h1.trk h2.trk
 exact ⟨⟨h2.tab.ok.wide (grow_two h1.trk h2.trk hd (Nat.le_refl _)),h2.tab.sep,grow_dis hT hd⟩,hT,h2.tb.trans h1.tb,h2.sch.trans h1.sch⟩
theorem StepT.pre {w w1 w2:World} {R:Nat→Prop} {g g2:TabG} (hd:∀ k∈feet g.res,¬ R k) (hb:Below w.heap.size w w1) (h2:StepT w1 w2 R g g2):StepT w w2 R g g2:=by
 have hT:=Trk.pre hb h2.trk
 exact ⟨⟨h2.tab.ok.wide (grow_pre h2.trk hd hb.size),h2.tab.sep,grow_dis hT hd⟩,hT,h2.tb,h2.sch⟩
theorem StepT.post {w w1 w2:World} {R:Nat→Prop} {g g2:TabG} (h:StepT w w1 R g g2) (hb:Below w1.heap.size w1 w2):StepT w w2 R g g2 :=
 ⟨h.tab.below hb,h.trk.below hb,h.tb,h.sch⟩
theorem tclear_md (w:World) (R:Nat→Prop) (g:TabG) (h:TabW w R g) :
 Calls Tryz.prog 71 #[ptrV g.tb] w fun e w'=>e=.returned (.tuple #[])∧∃ g',StepT w w' R g g'∧g'.rows=[]:=by
 have htb:g.tb∈feet g.res:=by unfold TabG.res;rw [feet_cons];simp [rTab,Res.blk]
 have hil:=(sch_small h.ok.st.right).2.1
 refine (clear_any w R g.tb g.S _ _ (TabG.blk h.sep) h.ok.st.sch (h.dis _ htb) zTbe).mono ?_
 rintro e w' ⟨rfl,ho⟩
 obtain ⟨g',e1,e2,e3,hT,hok⟩:=ho.tab
 have hd1:∀ k∈[g.tb],¬ R k:=fun k hk=>by rw [List.mem_singleton] at hk;subst hk;exact h.dis _ htb
 have hT2:Trk w (feet g.res) w' g'.res:=hT.widen fun k hk=>by rw [List.mem_singleton] at hk;subst hk;exact htb
 refine ⟨rfl,g',⟨⟨hok _ (h.ok.st.trk hT hd1) (fun k h1 _ h3=>.inr ⟨h1,h3⟩),hT.sep,grow_dis hT2 h.dis⟩,hT2,e1,e2⟩,?_⟩
 unfold TabG.rows
 rw [e3];rfl
theorem tload_md (w:World) (R:Nat→Prop) (g:TabG) (h:TabW w R g) (B:Nat→Prop) (hB:∀ k,B k→k∉feet g.res) (rv:Value) (rows:List RowV) (hra:RowsAt w B rv rows) (hf:∀ r∈rows,∀ a∈r.l,fit64 a.n) (hrl:∀ r∈rows,r.l.length≤1000) :
 Calls Tryz.prog 37 #[ptrV g.tb,rv] w fun e w'=>e=.returned (.int .i64 (loadMd g.S (rows.map RowV.l)).2)∧∃ g',StepT w w' R g g'∧g'.rows=(loadMd g.S (rows.map RowV.l)).1:=by
 have HCL:=Lib.hid (tclear_md w R g h)
 have HD:=Lib.hid h.dis
 have HCL2:Hid (∀ w1 g1,StepT w w1 R g g1→Calls Tryz.prog 71 #[ptrV g.tb] w1 fun e w'=>e=.returned (.tuple #[])∧∃ g',StepT w w' R g g'∧g'.rows=[]):=Lib.hid fun w1 g1 h1=>by
  have h2:=tclear_md w1 _ g1 h1.tab
  rw [h1.tb] at h2
  exact z89f
 have HIN:Hid (∀ w1 g1,StepT w w1 R g g1→∀ r∈rows,Calls Tryz.prog 55 #[ptrV g.tb,r.v] w1 fun e w'=>e=.returned (.int .i64 (insMd g.S g1.rows r.l).2)∧∃ g',StepT w w' R g g'∧g'.rows=(insMd g.S g1.rows r.l).1):=Lib.hid fun w1 g1 h1 r hr=>by
  have hra1:=hra.only h1.trk.only hB
  have h2:=tins_md w1 _ g1 h1.tab B r.v r.l (hra1.2 r hr) (hf r hr) (hrl r hr)
  rw [h1.tb,h1.sch] at h2
  exact z89f
 have HRA:Hid (∀ w1 g1,StepT w w1 R g g1→RowsAt w1 B rv rows):=Lib.hid fun w1 g1 h1=>hra.only h1.trk.only hB
 have HRF:Hid (∀ r∈rows,∃ p n c,r.v=.slice p n c):=Lib.hid fun r hr=>by obtain ⟨p,c,h,_⟩:=(hra.2 r hr).form;exact ⟨p,_,c,h⟩
 obtain ⟨pr,cr,rfl,_,_⟩:=hra.1.form
 have HLD:Hid (loadMd g.S (rows.map RowV.l)=loadGo g.S [] (rows.map RowV.l)):=Lib.hid rfl
 unfold ptrV at HCL HCL2 HIN ⊢
 clear h hra hf hrl
 go_enter Tryz.func37,Tryz.ntmps37
 go_wp2_with fail
 refine HCL.out.mono ?_
 clear HCL
 rintro e w1 ⟨rfl,g1,hs1,hg1⟩
 have HS1:=Lib.hid hs1
 have HG1:=Lib.hid hg1
 clear hs1 hg1
 go_wp2
 go_loopw [14] (fun i wr=>∃ k:Nat,i=.int .i64 k∧k≤rows.length∧∃ gk,StepT w wr R g gk∧loadMd g.S (rows.map RowV.l)=loadGo g.S gk.rows ((rows.drop k).map RowV.l)) (fun i _=>rows.length - (intOf i).toNat)
 case atStart=>exact ⟨0,rfl,Nat.zero_le _,g1,HS1.out,by rw [HG1.out];exact HLD.out⟩
 case round =>
  obtain ⟨k,rfl,hk,gk,hst,hld⟩:=hrel
  have HST:=Lib.hid hst
  have HLK:=Lib.hid hld
  by_cases hkx:k < rows.length
  ·obtain ⟨gr,or_,cpr,hvr,ek⟩:=(HRA.out _ _ hst).at hkx
   cases hvr
   have hmk:rows[k]∈rows:=List.getElem_mem hkx
   obtain ⟨px,nx,cx,hxv⟩:=HRF.out _ hmk
   have HI:=Lib.hid (HIN.out _ _ hst _ hmk)
   have hdk:(rows.drop k).map RowV.l=rows[k].l::(rows.drop (k+1)).map RowV.l:=by
    rw [List.drop_eq_getElem_cons hkx];rfl
   have hgr:=(World.block_lt_of_cell? _ _ ek)
   rw [hdk] at hld
   have hstep:loadGo g.S gk.rows (rows[k].l::(rows.drop (k+1)).map RowV.l)=if (insMd g.S gk.rows rows[k].l).2≠0 then ([],(insMd g.S gk.rows rows[k].l).2) else loadGo g.S (insMd g.S gk.rows rows[k].l).1 ((rows.drop (k+1)).map RowV.l):=rfl
   rw [hstep] at hld
   rw [hxv] at ek HI
   generalize (insMd g.S gk.rows rows[k].l).1=mk at *
   generalize (insMd g.S gk.rows rows[k].l).2=en at *
   clear hst hdk hstep hxv hmk
   by_cases hen:en=0
   ·subst hen
    have HLN:=Lib.hid hld
    clear hld
    go_wp2_with (go_at_call 55;refine HI.out.mono ?_;clear HI;rintro e w3 ⟨rfl,g3,hs3,hg3⟩;have HS3:=Lib.hid hs3;have HG3:=Lib.hid hg3;clear hs3 hg3)
    go_roundw
    case rel=>exact ⟨k+1,z3KH,zTbe,g3,HS3.out,by rw [HLN.out,HG3.out];rfl⟩
    case measure=>(simp [intOf])<;>omega
   ·have e1:(en != 0)=true:=bne_iff_ne.2 hen
    rw [if_pos hen] at hld
    have HLN:=Lib.hid hld
    clear hld hen
    go_wp2_with (first
     | (go_at_call 55;refine HI.out.mono ?_;clear HI;rintro e w3 ⟨rfl,g3,hs3,hg3⟩;have HC3:=Lib.hid (HCL2.out _ _ hs3);clear hs3 hg3)
     | (go_at_call 71;refine HC3.out.mono ?_;clear HC3;rintro e w4 ⟨rfl,g4,hs4,hg4⟩;have HS4:=Lib.hid hs4;have HG4:=Lib.hid hg4;clear hs4 hg4))
    go_ret
    exact ⟨by rw [HLN.out];rfl,g4,HS4.out,by rw [HG4.out,HLN.out]⟩
  ·obtain rfl:k=rows.length:=by omega
   rw [List.drop_length] at hld
   have HLN:=Lib.hid hld
   clear hst hld
   go_wp2
   go_ret
   exact ⟨by rw [HLN.out];rfl,gk,HST.out,by rw [HLN.out];rfl⟩
theorem dkey_any (w:World) (B B':Nat→Prop) (S:SchV) (i:Nat) (v:Value) (row:List AV) (h:SchAt w B S) (hri:rightS S=true) (hr:Sl w B' 3 v row.length (rowCells row)) (hi:i < S.idx.length) (hok:RowOK S row) :
 Calls Tryz.prog 18 #[S.agg,.int .i64 (i:Int),v] w fun e w'=>e=.returned (.string (kb (kfS S i row)))∧Below w.heap.size w w':=by
 have hxl:=rightS_xl hri
 have h1:=refKey_any w B B' S i v row h hr hi hok.n64 (fun x hx=>Nat.le_trans (hxl x hx) zTbe) (rightS_in hri row hok.len) (fitB_len hok.fit).2
 rw [←kfS_at hi] at h1
 exact h1
def mdC (S:SchV) (rv:Value):List Value:=[.string S.name,S.colsV,S.idxV,.int .i64 S.limit,.int .i64 S.parts,.int .i64 S.by_,rv]
def mdV (S:SchV) (rv:Value):Value:=.agg #[.string S.name,S.colsV,S.idxV,.int .i64 S.limit,.int .i64 S.parts,.int .i64 S.by_,rv]
theorem md_cells {w:World} {b:Nat} {t:TypeId} {v0 v1 v2 v3 v4 v5 v6:Value} (h:Blk w b t [v0,v1,v2,v3,v4,v5,v6]) :
 w.cell? ⟨b,0,none⟩=some v0∧w.cell? ⟨b,1,none⟩=some v1∧w.cell? ⟨b,2,none⟩=some v2∧w.cell? ⟨b,3,none⟩=some v3∧w.cell? ⟨b,4,none⟩=some v4∧w.cell? ⟨b,5,none⟩=some v5∧w.cell? ⟨b,6,none⟩=some v6 :=
 ⟨h.cell 0,h.cell 1,h.cell 2,h.cell 3,h.cell 4,h.cell 5,h.cell 6⟩
structure MdAt (w:World) (B:Nat→Prop) (S:SchV) (rv:Value) (rows:List RowV):Prop where
 sch:SchAt w B S
 right:rightS S=true
 ra:RowsAt w B rv rows
 ok:∀ r∈rows,RowOK S r.l
theorem MdAt.below {w w':World} {B:Nat→Prop} {S:SchV} {rv:Value} {rows:List RowV} (h:MdAt w B S rv rows) (hb:Below w.heap.size w w'):MdAt w' B S rv rows:=⟨h.sch.below hb,h.right,h.ra.below hb,h.ok⟩
theorem MdAt.forms {w:World} {B:Nat→Prop} {S:SchV} {rv:Value} {rows:List RowV} (h:MdAt w B S rv rows):(∃ p n c,S.colsV=.slice p n c)∧(∃ p n c,S.idxV=.slice p n c)∧(∃ p c,rv=.slice p rows.length c∧rows.length≤c∧c≤9223372036854775807)∧∀ r∈rows,∃ p n c,r.v=.slice p n c:=by
 refine ⟨?_,?_,?_,fun r hr=>?_⟩
 ·obtain ⟨p,c,h,_⟩:=h.sch.cols.form;exact ⟨p,_,c,h⟩
 ·obtain ⟨p,c,h,_⟩:=h.sch.idx.1.form;exact ⟨p,_,c,h⟩
 ·obtain ⟨p,c,h,h1,h2⟩:=h.ra.1.form;exact ⟨p,c,h,h1,h2⟩
 ·obtain ⟨p,c,h,_⟩:=(h.ra.2 r hr).form;exact ⟨p,_,c,h⟩
theorem MdAt.key {w:World} {B:Nat→Prop} {S:SchV} {rv:Value} {rows:List RowV} (h:MdAt w B S rv rows):∀ w2,Below w.heap.size w w2→∀ i:Nat,i < S.idx.length→∀ r∈rows,Calls Tryz.prog 18 #[S.agg,.int .i64 (i:Int),r.v] w2 fun e w'=>e=.returned (.string (kb (kfS S i r.l)))∧Below w2.heap.size w2 w':=fun w2 hb i hi r hr =>
 dkey_any w2 B B S i r.v r.l (h.sch.below hb) h.right ((h.ra.2 r hr).below hb) hi (h.ok r hr)
theorem mfind_any (w:World) (B:Nat→Prop) (S:SchV) (rv:Value) (rows:List RowV) (h:MdAt w B S rv rows) (k:Key) :
 Calls Tryz.prog 49 #[mdV S rv,.string (kb k)] w fun e w'=>e=.returned (.int .i64 (findM (kfS S) k (rows.map RowV.l) 0))∧Below w.heap.size w w':=by
 have hn:0 < S.idx.length:=(sch_small h.right).2.2.1
 have hkey:=fun w2 hb r hr=>h.key w2 hb 0 hn r hr
 have HRA:=Lib.hid h.ra
 obtain ⟨⟨pc,nc,cc,hcv⟩,⟨pi,ni,ci,hiv⟩,⟨pr,cr,hrv,hcr1,hcr2⟩,hrf⟩:=h.forms
 have HRF:=Lib.hid hrf
 subst hrv
 simp only [SchV.agg,hcv,hiv] at hkey
 have HKEY:=Lib.hid hkey
 simp only [mdV,hcv,hiv]
 obtain ⟨fm,hfm⟩:∃ fm,findM (kfS S) k (rows.map RowV.l) 0=fm:=⟨_,rfl⟩
 rw [hfm]
 have HFM:=Lib.hid hfm
 have hal:=z0KE
 have hkm:=Blk.new w 34 [.string S.name,.slice pc nc cc,.slice pi ni ci,.int .i64 S.limit,.int .i64 S.parts,.int .i64 S.by_,.slice pr rows.length cr]
 obtain ⟨w1,hw1⟩:=zC8e
 rw [hw1] at hal
 have hkm:=zJ1I
 have HAL:=Lib.hid hal
 have HKM:=Lib.hid hkm
 clear h hkey hrf hcv hiv hn hfm hal hkm
 go_enter Tryz.func49,Tryz.ntmps49
 go_wp2
 clear hw1
 go_loopw [5] (fun i wr=>∃ j:Nat,i=.int .i64 j∧j≤rows.length∧fm=findM (kfS S) k ((rows.drop j).map RowV.l) j∧Below w1.heap.size w1 wr) (fun i _=>rows.length - (intOf i).toNat)
 case atStart=>exact ⟨0,rfl,Nat.zero_le _,HFM.out.symm,Below.refl _ _⟩
 case round =>
  obtain ⟨j,rfl,hj,hf,hbw⟩:=hrel
  have hb0:=HAL.out.trans (hbw.mono HAL.out.size)
  have HBW:=Lib.hid hbw
  have HB0:=Lib.hid hb0
  have hkm:=HKM.out.below hbw
  obtain ⟨x0,x1,x2,x3,x4,x5,x6⟩:=md_cells hkm
  have hlx:=hkm.lt
  by_cases hkx:j < rows.length
  ·obtain ⟨gr,or_,cpr,hvr,ek⟩:=(HRA.out.below hb0).at hkx
   cases hvr
   have hgr:=World.block_lt_of_cell? _ _ ek
   have hmk:rows[j]∈rows:=List.getElem_mem hkx
   have HK:=Lib.hid (HKEY.out wr.drew hb0.drew rows[j] hmk)
   obtain ⟨px,nx,cx,hxv⟩:=HRF.out _ hmk
   rw [hxv] at ek HK
   rw [List.drop_eq_getElem_cons hkx,List.map_cons,findM] at hf
   have hez:∃ ez,((kb (kfS S 0 rows[j].l)).toList == (kb k).toList)=ez∧(fm=if ez then (j:Int) else findM (kfS S) k ((rows.drop (j+1)).map RowV.l) (j+1)):=by
    refine ⟨_,rfl,?_⟩
    rw [hf,kb_list,kb_list]
    by_cases hc:kfS S 0 rows[j].l=k
    ·rw [if_pos hc,if_pos (by simpa using hc)]
    ·rw [if_neg hc,if_neg (by simpa using hc)]
   obtain ⟨ez,hez,hfe⟩:=hez
   have HFE:=Lib.hid hfe
   generalize kb (kfS S 0 rows[j].l)=k1 at *
   generalize hkk:kb k=k2 at *
   have hlx2:=zQf8
   clear hf hbw hb0 hkm hmk hxv hfe hkk
   cases ez
   ·go_upto_region 4 with fail
    have d0:=zOGF
    have d1:=zdGf
    have d2:=z2Xi
    have d3:=zjgD
    have d4:=zk33
    have d5:=zg14
    have d6:=zGv6
    have dek:=zk1i
    have dgr:=zUaI
    clear x0 x1 x2 x3 x4 x5 x6 ek hgr hlx
    refine wp_region_lit_plan [] [(0,0),(2,0),(4,0),(8,0),(1,1),(3,1),(5,0),(6,1),(7,4),(9,0)] (fun _=>False) zyVB zyVB (fun c a d v w h=>zx0I) ?_
    go_upto_region 3 with (first
     | (refine stp ?_)
     | (go_at_call 18;refine HK.out.mono ?_;clear HK;rintro e w2 ⟨rfl,hb2⟩;have HB2:=Lib.hid (HBW.out.drew.trans (hb2.mono HBW.out.size));clear hb2))
    go_wp2
    go_roundw
    case rel=>exact ⟨j+1,z3KH,zTbe,HFE.out,HB2.out⟩
    case measure=>(simp [intOf])<;>omega
   ·go_upto_region 4 with fail
    have d0:=zOGF
    have d1:=zdGf
    have d2:=z2Xi
    have d3:=zjgD
    have d4:=zk33
    have d5:=zg14
    have d6:=zGv6
    have dek:=zk1i
    have dgr:=zUaI
    clear x0 x1 x2 x3 x4 x5 x6 ek hgr hlx
    refine wp_region_lit_plan [] [(0,0),(2,0),(4,0),(8,0),(1,1),(3,1),(5,0),(6,1),(7,4),(9,0)] (fun _=>False) zyVB zyVB (fun c a d v w h=>zx0I) ?_
    go_upto_region 5 with (first
     | (refine stp ?_)
     | (go_at_call 18;refine HK.out.mono ?_;clear HK;rintro e w2 ⟨rfl,hb2⟩;have HB2:=Lib.hid (HBW.out.drew.trans (hb2.mono HBW.out.size));clear hb2))
    go_wp2
    go_ret
    exact ⟨by rw [HFE.out];rfl,HAL.out.trans (HB2.out.mono HAL.out.size)⟩
  ·obtain rfl:j=rows.length:=by omega
   rw [List.drop_length] at hf
   have HF:=Lib.hid hf
   clear hf hbw hb0 hkm
   go_wp2
   go_ret
   exact ⟨zS9n,HB0.out⟩
theorem set_seven {w:World} {b:Nat} {t:TypeId} {a0 a1 a2 a3 a4 a5 a6:Value} (h:Blk w b t [a0,a1,a2,a3,a4,a5,a6]) (v0 v1 v2 v3 v4 v5 v6:Value) :
 Blk (((((((w.setCell ⟨b,0,none⟩ v0).setCell ⟨b,1,none⟩ v1).setCell ⟨b,2,none⟩ v2).setCell ⟨b,3,none⟩ v3).setCell ⟨b,4,none⟩ v4).setCell ⟨b,5,none⟩ v5).setCell ⟨b,6,none⟩ v6) b t [v0,v1,v2,v3,v4,v5,v6] ∧
 Only (fun q=>q=b) w (((((((w.setCell ⟨b,0,none⟩ v0).setCell ⟨b,1,none⟩ v1).setCell ⟨b,2,none⟩ v2).setCell ⟨b,3,none⟩ v3).setCell ⟨b,4,none⟩ v4).setCell ⟨b,5,none⟩ v5).setCell ⟨b,6,none⟩ v6):=by
 refine ⟨?_,?_⟩
 ·have h1:=((((((h.set 0 v0).set 1 v1).set 2 v2).set 3 v3).set 4 v4).set 5 v5).set 6 v6
  simpa only [List.set_cons_zero,List.set_cons_succ] using h1
 ·have step:∀ {u:World} (i:Nat) (v:Value),Only (fun q=>q=b) w u→Only (fun q=>q=b) w (u.setCell ⟨b,i,none⟩ v):=fun i v h=>h.setCell (p:=⟨b,i,none⟩) (fun _=>rfl) v
  exact step 6 v6 (step 5 v5 (step 4 v4 (step 3 v3 (step 2 v2 (step 1 v1 (step 0 v0 (Only.refl _ w)))))))
def withR {α:Type} (kf:Nat→α→Key) (row:α) (gone:Int) (done:Bool) (k:Nat) (l:List α):List α:=if done then skipM gone k l else insM kf row (skipM gone k l)
theorem withR_gone {α:Type} (kf:Nat→α→Key) (row:α) (gone:Int) (done:Bool) (k:Nat) (r:α) (t:List α) (h:(k:Int)=gone):withR kf row gone done k (r::t)=withR kf row gone done (k+1) t:=by
 unfold withR;rw [skipM,if_pos h]
theorem withR_done {α:Type} (kf:Nat→α→Key) (row:α) (gone:Int) (k:Nat) (r:α) (t:List α) (h:¬ (k:Int)=gone):withR kf row gone true k (r::t)=r::withR kf row gone true (k+1) t:=by
 unfold withR;rw [skipM,if_neg h];rfl
theorem withR_less {α:Type} (kf:Nat→α→Key) (row:α) (gone:Int) (k:Nat) (r:α) (t:List α) (h:¬ (k:Int)=gone) (hl:Op.bytesLess (kf 0 row) (kf 0 r)=true):withR kf row gone false k (r::t)=row::r::withR kf row gone true (k+1) t:=by
 unfold withR;rw [skipM,if_neg h]
 show insM kf row (r::skipM gone (k+1) t)=_
 rw [insM,if_pos hl];rfl
theorem withR_more {α:Type} (kf:Nat→α→Key) (row:α) (gone:Int) (k:Nat) (r:α) (t:List α) (h:¬ (k:Int)=gone) (hl:Op.bytesLess (kf 0 row) (kf 0 r)=false):withR kf row gone false k (r::t)=r::withR kf row gone false (k+1) t:=by
 unfold withR;rw [skipM,if_neg h]
 show insM kf row (r::skipM gone (k+1) t)=_
 rw [insM,if_neg (by rw [hl];simp)];rfl
theorem withR_start {α:Type} (kf:Nat→α→Key) (rows:List α) (row:α) (gone:Int) (put:Bool):withM kf rows row gone put=withR kf row gone (!put) 0 rows:=by
 unfold withM withR;cases put<;>rfl
structure OutSt (w2:World) (lv:Value) (outl:List RowV) (wr:World):Prop where
 own:Own wr 37 1 lv outl.length (rowVals outl)
 new:∀ q,lv.ownBlock=some q→w2.heap.size≤q
 bel:Below w2.heap.size w2 wr
theorem OutSt.nil {w2 wr:World} (hb:Below w2.heap.size w2 wr):OutSt w2 (.slice none 0 0) [] wr:=⟨Own.nil _ _ _,zfJ3,hb⟩
theorem OutSt.below {w2 wr w':World} {lv:Value} {outl:List RowV} (h:OutSt w2 lv outl wr) (hb:Below wr.heap.size wr w'):OutSt w2 lv outl w':=⟨h.own.below hb,h.new,h.bel.trans (hb.mono h.bel.size)⟩
theorem OutSt.app {w2 wr w5:World} {lv v5 v:Value} {outl:List RowV} {t:TypeId} (h:OutSt w2 lv outl wr) (r:RowV) (hv:r.v=v) (g1:Own w5 37 1 v5 (outl.length+1) (rowVals outl++[v])) (g2:Only (fun k=>lv.ownBlock=some k) (wr.alloc (.cells #[v] t)) w5)
 (g3:v5.ownBlock=lv.ownBlock∨v5.ownBlock=some (wr.alloc (.cells #[v] t)).heap.size):OutSt w2 v5 (outl++[r]) w5:=by
 have hal:Below wr.heap.size wr (wr.alloc (.cells #[v] t)):=(Below.refl _ _).alloc (Nat.le_refl _) _
 have hz1:=hal.size
 have hz0:=h.bel.size
 refine ⟨by rw [List.length_append,rowVals_append];subst hv;exact g1,fun q hq=>?_,(h.bel.trans (hal.mono hz0)).trans (g2.below zTbe (fun q hq=>h.new q hq))⟩
 rcases g3 with h3|h3
 ·rw [h3] at hq;exact h.new q hq
 ·rw [h3] at hq
  have:(wr.alloc (.cells #[v] t)).heap.size=q:=Option.some.inj hq
  omega
theorem mwith_any (w:World) (B:Nat→Prop) (S:SchV) (rv:Value) (rows:List RowV) (h:MdAt w B S rv rows) (hlen:rows.length≤1000) (rw_:RowV) (hrow:Sl w B 3 rw_.v rw_.l.length (rowCells rw_.l)) (gone:Int) (put:Bool) (hok:put=true→RowOK S rw_.l) :
 Calls Tryz.prog 115 #[mdV S rv,rw_.v,.int .i64 gone,.bool put] w fun e w'=>∃ lv rws,e=.returned (mdV S lv)∧RowsAt w' (fun q=>B q∨w.heap.size≤q) lv rws∧rws.map RowV.l=withM (kfS S) (rows.map RowV.l) rw_.l gone put∧Below w.heap.size w w':=by
 have hn:0 < S.idx.length:=(sch_small h.right).2.2.1
 have hkey:=fun w2 hb r hr=>h.key w2 hb 0 hn r hr
 have hkeyr:=fun (hp:put=true) w2 hb=>dkey_any w2 B B S 0 rw_.v rw_.l (h.sch.below hb) h.right (hrow.below hb) hn (hok hp)
 have HRA:=Lib.hid h.ra
 have HRO:=Lib.hid hrow
 obtain ⟨⟨pc,nc,cc,hcv⟩,⟨pi,ni,ci,hiv⟩,⟨pr,cr,hrv,hcr1,hcr2⟩,hrf⟩:=h.forms
 have HRF:=Lib.hid hrf
 subst hrv
 obtain ⟨pw,cw,hrw,_,_⟩:=hrow.form
 obtain ⟨nw,hnw⟩:∃ nw,rw_.l.length=nw:=⟨_,rfl⟩
 rw [hnw] at hrw
 have HRW:=Lib.hid hrw
 simp only [SchV.agg,hcv,hiv] at hkey
 simp only [SchV.agg,hcv,hiv,hrw] at hkeyr
 have HKEY:=Lib.hid hkey
 have HKEYR:=Lib.hid hkeyr
 have HCV:=Lib.hid hcv
 have HIV:=Lib.hid hiv
 rw [hrw]
 rw [show mdV S (.slice pr rows.length cr)=.agg #[.string S.name,.slice pc nc cc,.slice pi ni ci,.int .i64 S.limit,.int .i64 S.parts,.int .i64 S.by_,.slice pr rows.length cr] by unfold mdV;rw [hcv,hiv]]
 have hws:=withR_start (kfS S) (rows.map RowV.l) rw_.l gone put
 obtain ⟨fm,hfm⟩:∃ fm,withM (kfS S) (rows.map RowV.l) rw_.l gone put=fm:=⟨_,rfl⟩
 rw [hfm] at hws ⊢
 have HWS:=Lib.hid hws
 have hal:=z0KE
 have hkm:=Blk.new w 34 [.string S.name,.slice pc nc cc,.slice pi ni ci,.int .i64 S.limit,.int .i64 S.parts,.int .i64 S.by_,.slice pr rows.length cr]
 obtain ⟨w1,hw1⟩:=zC8e
 rw [hw1] at hal
 have hkm:=zJ1I
 have HAL:=Lib.hid hal
 have HKM:=Lib.hid hkm
 obtain ⟨w2,hw2⟩:=zX17
 have hb12:=zXxX
 have hkz:=zTgR
 have HKM2:=Lib.hid (hkm.below hb12)
 have HKZ:=Lib.hid hkz
 have HB2:=Lib.hid (hal.trans (hb12.mono hal.size))
 clear h hkey hkeyr hrf hrow hrw hcv hiv hn hfm hws hal hkm hb12 hkz hok
 go_enter Tryz.func115,Tryz.ntmps115
 go_wp2
 clear hw1 hw2
 go_loopw [9,10,11] (fun lv dv iv wr=>∃ (j:Nat) (done:Bool) (outl:List RowV),iv=.int .i64 j∧dv=.bool done∧j≤rows.length∧outl.length≤j+1∧(done=false→put=true∧outl.length≤j)∧OutSt w2 lv outl wr∧(∀ r∈outl,r=rw_∨r∈rows)∧outl.map RowV.l++withR (kfS S) rw_.l gone done j ((rows.drop j).map RowV.l)=fm) (fun _ _ iv _=>rows.length - (intOf iv).toNat)
 case atStart=>exact ⟨0,!put,[],rfl,rfl,Nat.zero_le _,Nat.zero_le _,by cases put<;>simp,OutSt.nil (Below.refl _ _),zPXO,HWS.out.symm⟩
 case round =>
  obtain ⟨j,done,outl,rfl,rfl,hj,hol,hdp,hou,hom,hfm⟩:=hrel
  have HOU:=Lib.hid hou
  have HOM:=Lib.hid hom
  have HDP:=Lib.hid hdp
  obtain ⟨po,co,rfl,hc1,hc2⟩:=own_formT hou.own
  have hbw:=hou.bel
  have HBX:=Lib.hid hbw
  have HKM:=HKM2
  obtain ⟨x0,x1,x2,x3,x4,x5,x6⟩:=md_cells (HKM2.out.below hbw)
  have hlx:=(HKM2.out.below hbw).lt
  by_cases hkx:j < rows.length
  ·obtain ⟨gr,or_,cpr,hvr,ek⟩:=(HRA.out.below (HB2.out.trans (hbw.mono HB2.out.size))).at hkx
   cases hvr
   have hgr:=World.block_lt_of_cell? _ _ ek
   have hmk:rows[j]∈rows:=List.getElem_mem hkx
   obtain ⟨px,nx,cx,hxv⟩:=HRF.out _ hmk
   have hB0:=zfIB
   have HEK:Hid (∀ w4,Below w2.heap.size w2 w4→w4.cell? ⟨gr,or_+j,none⟩=some (.slice px nx cx)∧gr < w4.heap.size):=Lib.hid fun w4 hb=>by
    obtain ⟨g2,o2,c2,hv2,ek2⟩:=(HRA.out.below (hB0 w4 hb)).at hkx
    cases hv2
    rw [hxv] at ek2
    exact ⟨ek2,World.block_lt_of_cell? _ _ ek2⟩
   have HKJ:=Lib.hid (fun w4 hb=>HKEY.out w4 (hB0 w4 hb) rows[j] hmk)
   rw [hxv] at ek HKJ
   have HXV:=Lib.hid hxv
   have HMK:=Lib.hid hmk
   rw [List.drop_eq_getElem_cons hkx,List.map_cons] at hfm
   generalize rows[j]=rj at *
   have hol2:outl.length≤1000:=zTbe
   clear hdp hou hom hbw hmk hxv hB0
   by_cases hg:(j:Int)=gone
   ·have eg:((j:Int) == gone)=true:=beq_iff_eq.2 hg
    rw [withR_gone _ _ _ _ _ _ _ hg] at hfm
    have HFM:=Lib.hid hfm
    clear hfm hg
    go_wp2
    go_roundw
    case rel=>exact ⟨j+1,done,outl,z3KH,rfl,zTbe,zTbe,fun h=>⟨(HDP.out h).1,Nat.le_succ_of_le (HDP.out h).2⟩,HOU.out,HOM.out,HFM.out⟩
    case measure=>(simp [intOf])<;>omega
   ·have eg:((j:Int) == gone)=false:=beq_eq_false_iff_ne.2 hg
    cases done with
    | true =>
     rw [withR_done _ _ _ _ _ _ hg] at hfm
     have HFM:=Lib.hid hfm
     clear hfm hg
     go_upto_region 7 with fail
     refine wp_region_lit_plan [] [(0,0),(1,0),(2,0),(3,0),(5,0),(7,0),(9,0),(11,0),(4,1),(8,2),(10,2),(12,0),(13,2),(6,3),(14,4),(15,0),(16,0)] (fun _=>False) zyVB zyVB (fun c a d v w h=>zx0I) ?_
     go_upto_region 10 with (first|(refine stp ?_))
     have hbx:=HBX.out.drew
     have HBX:=Lib.hid hbx
     have HOU:=Lib.hid (HOU.out.below (Below.refl _ _).drew)
     obtain ⟨wX,hwX⟩:∃ wX,wr.drew=wX:=⟨_,rfl⟩
     rw [hwX] at HBX HOU ⊢
     clear x0 x1 x2 x3 x4 x5 x6 ek hgr hlx hbx hwX
     have ho1:=HOU.out.own.below ((Below.refl wX.heap.size wX).alloc (Nat.le_refl _) (.cells #[.slice px nx cx] 37))
     have hs1:=box1t wX 37 (.slice px nx cx) rfl
     have hkd:=HKM.out.below HBX.out
     obtain ⟨d0,d1,d2,d3,d4,d5,d6⟩:=md_cells hkd
     have hld:=hkd.lt
     have dek:=(HEK.out _ HBX.out).1
     have dgr:=(HEK.out _ HBX.out).2
     clear hkd
     go_wp2_with (at_builtin;refine wpList_app rfl _ _ rfl elemRowsT zdhv ho1 zdhv hs1 zefz zTbe ?_;intro v5 w5 g1 g2 g3 g4 g5;clear ho1 hs1;have HO5:=Lib.hid (HOU.out.app rj HXV.out g1 g2 g3);clear g1 g2 g3 g4 g5)
     go_roundw
     case rel=>exact ⟨j+1,true,outl++[rj],z3KH,rfl,zTbe,zr2F,zPXO,HO5.out,fun r hr=>(List.mem_append.1 hr).elim (HOM.out r) (fun h=>by rw [List.mem_singleton.1 h];exact .inr HMK.out),by rw [←HFM.out];simp⟩
     case measure=>(simp [intOf])<;>omega
    | false =>
     have hol3:=(HDP.out rfl).2
     have HPUT:=Lib.hid (HDP.out rfl).1
     have HKR:=Lib.hid (fun w4 hb=>HKEYR.out HPUT.out w4 (HB2.out.trans (Below.mono hb HB2.out.size)))
     have hless:∃ bl,Op.bytesLess (kb (kfS S 0 rw_.l)).toList (kb (kfS S 0 rj.l)).toList=bl∧Op.bytesLess (kfS S 0 rw_.l) (kfS S 0 rj.l)=bl:=⟨_,rfl,by rw [kb_list,kb_list]⟩
     obtain ⟨bl,hbl,hbl2⟩:=hless
     generalize kb (kfS S 0 rw_.l)=k1 at *
     generalize kb (kfS S 0 rj.l)=k2 at *
     have hKR:=HKR.out wr.drew HBX.out.drew
     have HKR1:=Lib.hid hKR
     have HAG:Hid (∀ w4,Below wr.drew.heap.size wr.drew w4→Agree (fun q=>q=w.heap.size∨q=gr) wr.drew w4):=Lib.hid fun w4 hb q o hq=>by
      refine hb.cell ?_
      rcases hq with rfl|rfl<;>assumption
     clear hKR
     cases bl with
     | true =>
      rw [withR_less _ _ _ _ _ _ hg hbl2] at hfm
      have HFM:=Lib.hid hfm
      clear hfm hg hbl2
      go_upto_region 7 with fail
      have d0:=zOGF
      have d1:=zdGf
      have d2:=z2Xi
      have d3:=zjgD
      have d4:=zk33
      have d5:=zg14
      have d6:=zGv6
      have dek:=zk1i
      have dgr:=zUaI
      have dlx:=zQf8
      clear x0 x1 x2 x3 x4 x5 x6 ek hgr hlx
      refine wp_region_lit_plan [] [(0,0),(1,0),(2,0),(3,0),(5,0),(7,0),(9,0),(11,0),(4,1),(8,2),(10,2),(12,0),(13,2),(6,3),(14,4),(15,0),(16,0)] (fun q=>q=w.heap.size∨q=gr) zyVB zyVB (fun c a d v w h=>zx0I) ?_
      go_upto_region 8 with (first
       | (refine stp ?_)
       | (go_at_call 18;refine HKR1.out.mono ?_;clear HKR1;rintro e w3 ⟨rfl,hb3⟩;have hag3:=HAG.out _ hb3;have HB3:=Lib.hid hb3;have HB3w:=Lib.hid (HBX.out.drew.trans (Below.mono hb3 HBX.out.size));clear hb3)
       | (go_at_call 18;refine (HKJ.out _ HB3w.out).mono ?_;clear HKJ;rintro e w4 ⟨rfl,hb4⟩;have HB4:=Lib.hid (HB3.out.trans (Below.mono hb4 HB3.out.size));clear hb4))
      have HOU4:=Lib.hid ((HOU.out.below (Below.refl _ _).drew).below HB4.out)
      clear HOU HBX HB3 HB3w HAG hag3 d0 d1 d2 d3 d4 d5 d6 dek dgr dlx
      have ho1:=HOU4.out.own.below ((Below.refl w4.heap.size w4).alloc (Nat.le_refl _) (.cells #[.slice pw nw cw] 37))
      have hs1:=box1t w4 37 (.slice pw nw cw) rfl
      go_upto_region 10 with (at_builtin;refine wpList_app rfl _ _ rfl elemRowsT zdhv ho1 zdhv hs1 zefz zTbe ?_;intro vY wX g1 g2 g3 g4 g5;clear ho1 hs1)
      have hou5:=HOU4.out.app rw_ HRW.out g1 g2 g3
      obtain ⟨pY,cY,hvY,_,_⟩:=own_formT hou5.own
      rw [show (outl++[rw_]).length=outl.length+1 by simp] at hvY
      subst hvY
      have HOU:=Lib.hid hou5
      have HBX:=Lib.hid hou5.bel
      have ho1:=(show Own wX 37 1 (.slice pY (outl.length+1) cY) (outl.length+1) (rowVals outl++[.slice pw nw cw]) from g1).below ((Below.refl wX.heap.size wX).alloc (Nat.le_refl _) (.cells #[.slice px nx cx] 37))
      have hs1:=box1t wX 37 (.slice px nx cx) rfl
      clear g1 g2 g3 g4 g5 hou5
      have hkd:=HKM.out.below HBX.out
      obtain ⟨d0,d1,d2,d3,d4,d5,d6⟩:=md_cells hkd
      have hld:=hkd.lt
      have dek:=(HEK.out _ HBX.out).1
      have dgr:=(HEK.out _ HBX.out).2
      clear hkd
      have HAP:Hid (∀ v5 w5,Own w5 37 1 v5 (outl.length+1+1) (rowVals outl++[.slice pw nw cw]++[.slice px nx cx])→Only (fun k=>(Value.slice pY (outl.length+1) cY).ownBlock=some k) (wX.alloc (.cells #[.slice px nx cx] 37)) w5→(v5.ownBlock=(Value.slice pY (outl.length+1) cY).ownBlock∨v5.ownBlock=some (wX.alloc (.cells #[.slice px nx cx] 37)).heap.size)→OutSt w2 v5 (outl++[rw_]++[rj]) w5):=Lib.hid fun v5 w5 g1 g2 g3=>by
       refine HOU.out.app rj HXV.out ?_ g2 g3
       have e1:(outl++[rw_]).length=outl.length+1:=zPXO
       have e2:rowVals (outl++[rw_])=rowVals outl++[.slice pw nw cw]:=by rw [rowVals_append,←HRW.out];rfl
       rw [e1,e2];exact g1
      go_upto_region 5 with (at_builtin;refine wpList_app rfl _ _ rfl elemRowsT zdhv ho1 zdhv hs1 zefz zTbe ?_;intro v5 w5 g1 g2 g3 g4 g5;clear ho1 hs1)
      have HO5:=Lib.hid (HAP.out _ _ g1 g2 g3)
      clear g1 g2 g3 g4 g5
      go_wp2
      go_roundw
      case rel=>exact ⟨j+1,true,outl++[rw_]++[rj],z3KH,rfl,zTbe,zr2F,zPXO,HO5.out,fun r hr=>by
       rcases List.mem_append.1 hr with h|h
       ·rcases List.mem_append.1 h with h|h
        ·exact HOM.out r h
        ·rw [List.mem_singleton.1 h];exact .inl rfl
       ·rw [List.mem_singleton.1 h];exact .inr HMK.out,by rw [←HFM.out];simp⟩
      case measure=>(simp [intOf])<;>omega
     | false =>
      rw [withR_more _ _ _ _ _ _ hg hbl2] at hfm
      have HFM:=Lib.hid hfm
      clear hfm hg hbl2
      go_upto_region 7 with fail
      have d0:=zOGF
      have d1:=zdGf
      have d2:=z2Xi
      have d3:=zjgD
      have d4:=zk33
      have d5:=zg14
      have d6:=zGv6
      have dek:=zk1i
      have dgr:=zUaI
      have dlx:=zQf8
      clear x0 x1 x2 x3 x4 x5 x6 ek hgr hlx
      refine wp_region_lit_plan [] [(0,0),(1,0),(2,0),(3,0),(5,0),(7,0),(9,0),(11,0),(4,1),(8,2),(10,2),(12,0),(13,2),(6,3),(14,4),(15,0),(16,0)] (fun q=>q=w.heap.size∨q=gr) zyVB zyVB (fun c a d v w h=>zx0I) ?_
      go_upto_region 10 with (first
       | (refine stp ?_)
       | (go_at_call 18;refine HKR1.out.mono ?_;clear HKR1;rintro e w3 ⟨rfl,hb3⟩;have hag3:=HAG.out _ hb3;have HB3:=Lib.hid hb3;have HB3w:=Lib.hid (HBX.out.drew.trans (Below.mono hb3 HBX.out.size));clear hb3)
       | (go_at_call 18;refine (HKJ.out _ HB3w.out).mono ?_;clear HKJ;rintro e wX ⟨rfl,hb4⟩;have HB4:=Lib.hid (HB3.out.trans (Below.mono hb4 HB3.out.size));clear hb4))
      have hou4:=(HOU.out.below (Below.refl _ _).drew).below HB4.out
      clear HOU HBX HB3 HB3w HAG hag3 d0 d1 d2 d3 d4 d5 d6 dek dgr dlx
      have HOU:=Lib.hid hou4
      have HBX:=Lib.hid hou4.bel
      clear hou4
      have ho1:=HOU.out.own.below ((Below.refl wX.heap.size wX).alloc (Nat.le_refl _) (.cells #[.slice px nx cx] 37))
      have hs1:=box1t wX 37 (.slice px nx cx) rfl
      have hkd:=HKM.out.below HBX.out
      obtain ⟨d0,d1,d2,d3,d4,d5,d6⟩:=md_cells hkd
      have hld:=hkd.lt
      have dek:=(HEK.out _ HBX.out).1
      have dgr:=(HEK.out _ HBX.out).2
      clear hkd
      go_wp2_with (at_builtin;refine wpList_app rfl _ _ rfl elemRowsT zdhv ho1 zdhv hs1 zefz zTbe ?_;intro v5 w5 g1 g2 g3 g4 g5;clear ho1 hs1;have HO5:=Lib.hid (HOU.out.app rj HXV.out g1 g2 g3);clear g1 g2 g3 g4 g5)
      go_roundw
      case rel=>exact ⟨j+1,false,outl++[rj],z3KH,rfl,zTbe,zr2F,fun _=>⟨HPUT.out,zr2F⟩,HO5.out,fun r hr=>(List.mem_append.1 hr).elim (HOM.out r) (fun h=>by rw [List.mem_singleton.1 h];exact .inr HMK.out),by rw [←HFM.out];simp⟩
      case measure=>(simp [intOf])<;>omega
  ·obtain rfl:j=rows.length:=by omega
   rw [List.drop_length] at hfm
   have hB0:=zfIB
   have hol2:outl.length≤1001:=zTbe
   have hzl:w1.heap.size+1≤w2.heap.size:=HKZ.out.lt
   have hzl0:w.heap.size≤w1.heap.size:=HAL.out.size
   have HFIN:Hid (∀ wE lv outl',OutSt w2 lv outl' wE→(∀ r∈outl',r=rw_∨r∈rows)→RowsAt wE (fun q=>B q∨w.heap.size≤q) lv outl'):=Lib.hid fun wE lv outl' ho hm=>by
    have hbE:=hB0 wE ho.bel
    refine ⟨ho.own.sl fun q hq=>.inr (by have:=ho.new q hq;omega),fun r hr=>?_⟩
    rcases hm r hr with h|h
    ·rw [h];exact HRO.out.mono hbE.size (fun k _ hl=>hbE.block k hl) (fun k hk _=>.inl hk)
    ·exact (HRA.out.2 r h).mono hbE.size (fun k _ hl=>hbE.block k hl) (fun k hk _=>.inl hk)
   have HST:Hid (∀ wE lv outl',OutSt w2 lv outl' wE→∀ wF,Only (fun q=>q=w1.heap.size) wE wF→(∀ r∈outl',r=rw_∨r∈rows)→RowsAt wF (fun q=>B q∨w.heap.size≤q) lv outl'∧Below w.heap.size w wF):=Lib.hid fun wE lv outl' ho wF hon hm=>by
    have hbE:=hB0 wE ho.bel
    have hbF:Below w.heap.size w wF:=hbE.trans (hon.below hbE.size (fun q hq=>zTbe))
    refine ⟨⟨(ho.own.sl (B:=fun q=>w2.heap.size≤q) ho.new).mono hon.size (fun k hk hl=>hon.block k hl zTbe) (fun k hk _=>.inr zTbe),fun r hr=>?_⟩,hbF⟩
    rcases hm r hr with h|h
    ·rw [h];exact HRO.out.mono hbF.size (fun k _ hl=>hbF.block k hl) (fun k hk _=>.inl hk)
    ·exact (HRA.out.2 r h).mono hbF.size (fun k _ hl=>hbF.block k hl) (fun k hk _=>.inl hk)
   clear hdp hou hom hbw hB0
   cases done with
   | true =>
    have HFM:Hid (outl.map RowV.l=fm):=Lib.hid (by rw [←hfm];simp [withR,skipM])
    clear hfm
    have hkz:=HKZ.out.below HBX.out
    have HZ:=Lib.hid hkz
    have zf:∀ i,wr.frozen? ⟨w1.heap.size,i,none⟩=false:=hkz.frozen
    have zl:=hkz.lt
    obtain ⟨z0,z1,z2,z3,z4,z5,z6⟩:=md_cells hkz
    clear hkz
    go_wp2
    obtain ⟨hk,hon⟩:=set_seven HZ.out (.string S.name) (.slice pc nc cc) (.slice pi ni ci) (.int .i64 S.limit) (.int .i64 S.parts) (.int .i64 S.by_) (.slice po outl.length co)
    generalize (((((((wr.setCell ⟨w1.heap.size,0,none⟩ (.string S.name)).setCell ⟨w1.heap.size,1,none⟩ (.slice pc nc cc)).setCell ⟨w1.heap.size,2,none⟩ (.slice pi ni ci)).setCell ⟨w1.heap.size,3,none⟩ (.int .i64 S.limit)).setCell ⟨w1.heap.size,4,none⟩ (.int .i64 S.parts)).setCell ⟨w1.heap.size,5,none⟩ (.int .i64 S.by_)).setCell ⟨w1.heap.size,6,none⟩ (.slice po outl.length co))=wE at *
    obtain ⟨m0,m1,m2,m3,m4,m5,m6⟩:=md_cells hk
    obtain ⟨hra,hbF⟩:=HST.out _ _ _ HOU.out _ hon HOM.out
    exact bodyPost_ret (v:=.agg #[.string S.name,.slice pc nc cc,.slice pi ni ci,.int .i64 S.limit,.int .i64 S.parts,.int .i64 S.by_,.slice po outl.length co]) zjFE rfl ⟨_,outl,by unfold mdV;rw [HCV.out,HIV.out],hra,HFM.out,hbF⟩
   | false =>
    have HFM:Hid ((outl++[rw_]).map RowV.l=fm):=Lib.hid (by rw [←hfm];simp [withR,skipM,insM])
    clear hfm
    have ho1:=HOU.out.own.below ((Below.refl wr.heap.size wr).alloc (Nat.le_refl _) (.cells #[.slice pw nw cw] 37))
    have hs1:=box1t wr 37 (.slice pw nw cw) rfl
    go_upto_region 13 with (at_builtin;refine wpList_app rfl _ _ rfl elemRowsT zdhv ho1 zdhv hs1 zefz zTbe ?_;intro vY wX g1 g2 g3 g4 g5;clear ho1 hs1)
    have hou5:=HOU.out.app rw_ HRW.out g1 g2 g3
    obtain ⟨pY,cY,hvY,_,_⟩:=own_formT hou5.own
    rw [show (outl++[rw_]).length=outl.length+1 by simp] at hvY
    subst hvY
    have HOU5:=Lib.hid hou5
    have hb5:=hou5.bel
    have hkz:=HKZ.out.below hb5
    have HZ:=Lib.hid hkz
    have zf:∀ i,wX.frozen? ⟨w1.heap.size,i,none⟩=false:=hkz.frozen
    have zl:=hkz.lt
    obtain ⟨z0,z1,z2,z3,z4,z5,z6⟩:=md_cells hkz
    clear x0 x1 x2 x3 x4 x5 x6 hlx
    obtain ⟨x0,x1,x2,x3,x4,x5,x6⟩:=md_cells (HKM2.out.below hb5)
    have hlx:=(HKM2.out.below hb5).lt
    clear g1 g2 g3 g4 g5 hou5 hb5 hkz
    go_wp2
    obtain ⟨hk,hon⟩:=set_seven HZ.out (.string S.name) (.slice pc nc cc) (.slice pi ni ci) (.int .i64 S.limit) (.int .i64 S.parts) (.int .i64 S.by_) (.slice pY (outl.length+1) cY)
    generalize (((((((wX.setCell ⟨w1.heap.size,0,none⟩ (.string S.name)).setCell ⟨w1.heap.size,1,none⟩ (.slice pc nc cc)).setCell ⟨w1.heap.size,2,none⟩ (.slice pi ni ci)).setCell ⟨w1.heap.size,3,none⟩ (.int .i64 S.limit)).setCell ⟨w1.heap.size,4,none⟩ (.int .i64 S.parts)).setCell ⟨w1.heap.size,5,none⟩ (.int .i64 S.by_)).setCell ⟨w1.heap.size,6,none⟩ (.slice pY (outl.length+1) cY))=wE at *
    obtain ⟨m0,m1,m2,m3,m4,m5,m6⟩:=md_cells hk
    obtain ⟨hra,hbF⟩:=HST.out _ _ _ HOU5.out _ hon (fun r hr=>(List.mem_append.1 hr).elim (HOM.out r) (fun h=>.inl (List.mem_singleton.1 h)))
    exact bodyPost_ret (v:=.agg #[.string S.name,.slice pc nc cc,.slice pi ni ci,.int .i64 S.limit,.int .i64 S.parts,.int .i64 S.by_,.slice pY (outl.length+1) cY]) zjFE rfl ⟨_,by unfold mdV;rw [HCV.out,HIV.out],outl++[rw_],hra,HFM.out,hbF⟩
def clashUp {α:Type} (kf:Nat→α→Key) (un:Nat→Bool) (n:Nat) (row r:α) (k:Nat):Bool:=((List.range n).drop k).any fun k=>un k && (kf k row == kf k r)
theorem clashUp_succ {α:Type} (kf:Nat→α→Key) (un:Nat→Bool) (n:Nat) (row r:α) {k:Nat} (hk:k < n):clashUp kf un n row r k=((un k && (kf k row == kf k r)) || clashUp kf un n row r (k+1)):=by
 unfold clashUp
 rw [List.drop_eq_getElem_cons zFJU,List.any_cons,List.getElem_range]
theorem clashUp_end {α:Type} (kf:Nat→α→Key) (un:Nat→Bool) (n:Nat) (row r:α):clashUp kf un n row r n=false:=by
 unfold clashUp
 rw [List.drop_of_length_le zPXO];rfl
theorem clashGo_but {α:Type} (kf:Nat→α→Key) (un:Nat→Bool) (n:Nat) (row r:α) (but:Int) (j:Nat) (t:List α) (h:(j:Int)=but):clashGo kf un n row but j (r::t)=clashGo kf un n row but (j+1) t:=by
 rw [clashGo,show decide ((j:Int)=but)=true from decide_eq_true h];rfl
theorem clashGo_not {α:Type} (kf:Nat→α→Key) (un:Nat→Bool) (n:Nat) (row r:α) (but:Int) (j:Nat) (t:List α) (h:¬ (j:Int)=but):clashGo kf un n row but j (r::t)=(clashUp kf un n row r 0 || clashGo kf un n row but (j+1) t):=by
 rw [clashGo,show decide ((j:Int)=but)=false from decide_eq_false h];rfl
theorem mclash_any (w:World) (B:Nat→Prop) (S:SchV) (rv:Value) (rows:List RowV) (h:MdAt w B S rv rows) (hlen:rows.length≤1000) (B':Nat→Prop) (v:Value) (row:List AV) (hrow:Sl w B' 3 v row.length (rowCells row)) (but:Int) (hok:RowOK S row) :
 Calls Tryz.prog 114 #[mdV S rv,v,.int .i64 but] w fun e w'=>e=.returned (.bool (clashS S (rows.map RowV.l) row but))∧Below w.heap.size w w':=by
 have hkey:=h.key
 have hkeyr:=fun w2 hb (i:Nat) hi=>dkey_any w2 B B' S i v row (h.sch.below hb) h.right (hrow.below hb) hi hok
 have HRA:=Lib.hid h.ra
 have HIX:=Lib.hid h.sch.idx
 have hun:∀ k,∀ hk:k < S.idx.length,unS S k=S.idx[k].unique:=fun k hk=>unS_at hk
 have HUN:=Lib.hid hun
 have hil:=(sch_small h.right).2.1
 obtain ⟨⟨pc,nc,cc,hcv⟩,⟨pi,ni,ci,hiv⟩,⟨pr,cr,hrv,hcr1,hcr2⟩,hrf⟩:=h.forms
 have HRF:=Lib.hid hrf
 subst hrv
 obtain ⟨pw,cw,hrw,_,_⟩:=hrow.form
 obtain ⟨nw,hnw⟩:∃ nw,row.length=nw:=⟨_,rfl⟩
 rw [hnw] at hrw
 subst hrw
 have hni:ni=S.idx.length:=by
  obtain ⟨p,c,h1,_⟩:=HIX.out.1.form
  rw [hiv] at h1;cases h1;rfl
 have HNI:=Lib.hid hni
 simp only [SchV.agg,hcv,hiv] at hkey hkeyr
 have HKEY:=Lib.hid hkey
 have HKEYR:=Lib.hid hkeyr
 have HIV:=Lib.hid hiv
 simp only [mdV,hcv,hiv]
 obtain ⟨fm,hfm⟩:∃ fm,clashS S (rows.map RowV.l) row but=fm:=⟨_,rfl⟩
 rw [hfm]
 have HFM:=Lib.hid hfm
 have hal:=z0KE
 have hkm:=Blk.new w 34 [.string S.name,.slice pc nc cc,.slice pi ni ci,.int .i64 S.limit,.int .i64 S.parts,.int .i64 S.by_,.slice pr rows.length cr]
 obtain ⟨w1,hw1⟩:=zC8e
 rw [hw1] at hal
 have hkm:=zJ1I
 have HAL:=Lib.hid hal
 have HKM:=Lib.hid hkm
 clear h hkey hkeyr hrf hrow hcv hiv hfm hal hkm hok hun hnw hni
 go_enter Tryz.func114,Tryz.ntmps114
 go_wp2
 clear hw1
 go_loopw [7] (fun i wr=>∃ j:Nat,i=.int .i64 j∧j≤rows.length∧clashGo (kfS S) (unS S) S.idx.length row but j ((rows.drop j).map RowV.l)=fm∧Below w1.heap.size w1 wr) (fun i _=>rows.length - (intOf i).toNat)
 case atStart=>exact ⟨0,rfl,Nat.zero_le _,HFM.out,Below.refl _ _⟩
 case round =>
  obtain ⟨j,rfl,hj,hf,hbo⟩:=hrel
  obtain ⟨wo,rfl⟩:=zDit
  have HBO:=Lib.hid hbo
  obtain ⟨x0,x1,x2,x3,x4,x5,x6⟩:=md_cells (HKM.out.below hbo)
  have hlx:=(HKM.out.below hbo).lt
  by_cases hkx:j < rows.length
  ·have hmk:rows[j]∈rows:=List.getElem_mem hkx
   obtain ⟨px,nx,cx,hxv⟩:=HRF.out _ hmk
   have HXV:=Lib.hid hxv
   have HB0:Hid (∀ w4,Below w1.heap.size w1 w4→Below w.heap.size w w4):=Lib.hid fun w4 hb=>HAL.out.trans (hb.mono HAL.out.size)
   have HEK:Hid (∀ w4,Below w1.heap.size w1 w4→∃ gr or_,pr=some ⟨gr,or_,none⟩∧w4.cell? ⟨gr,or_+j,none⟩=some (.slice px nx cx)∧gr < w4.heap.size):=Lib.hid fun w4 hb=>by
    obtain ⟨g2,o2,c2,hv2,ek2⟩:=(HRA.out.below (HB0.out w4 hb)).at hkx
    rw [HXV.out] at ek2
    cases hv2
    exact ⟨g2,o2,rfl,ek2,World.block_lt_of_cell? _ _ ek2⟩
   have HKJ:=Lib.hid (fun w4 hb k hk=>HKEY.out w4 (HB0.out w4 hb) k hk rows[j] hmk)
   rw [hxv] at HKJ
   rw [List.drop_eq_getElem_cons hkx,List.map_cons] at hf
   generalize rows[j]=rj at *
   have hstep:∃ b0 b1,clashUp (kfS S) (unS S) S.idx.length row rj.l 0=b0∧clashGo (kfS S) (unS S) S.idx.length row but (j+1) ((rows.drop (j+1)).map RowV.l)=b1∧(((j:Int)=but)→b1=fm)∧(¬ ((j:Int)=but)→(b0 || b1)=fm):=⟨_,_,rfl,rfl,fun h=>by rw [←hf,clashGo_but _ _ _ _ _ _ _ _ h],fun h=>by rw [←hf,clashGo_not _ _ _ _ _ _ _ _ h]⟩
   obtain ⟨b0,b1,hb0,hb1,hf1,hf2⟩:=hstep
   have HU0:=Lib.hid hb0
   have HU1:=Lib.hid hb1
   have HF1:=Lib.hid hf1
   have HF2:=Lib.hid hf2
   clear hf hbo hmk hxv hb0 hb1 hf1 hf2
   go_wp2
   clear x0 x1 x2 x3 x4 x5 x6 hlx
   go_loopw [8] (fun i wr=>∃ k:Nat,i=.int .i64 k∧k≤ni∧(¬ ((j:Int)=but)→clashUp (kfS S) (unS S) S.idx.length row rj.l k=b0)∧Below w1.heap.size w1 wr) (fun i _=>ni - (intOf i).toNat)
   case atStart=>exact ⟨0,rfl,Nat.zero_le _,fun _=>HU0.out,HBO.out⟩
   case round =>
    obtain ⟨k,rfl,hk,hu,hbw⟩:=hrel
    have HBX:=Lib.hid hbw
    have HU:=Lib.hid hu
    obtain ⟨x0,x1,x2,x3,x4,x5,x6⟩:=md_cells (HKM.out.below hbw)
    have hlx:=(HKM.out.below hbw).lt
    obtain ⟨gr,or_,hpr,ek,hgr⟩:=HEK.out _ hbw
    subst hpr
    by_cases hkn:k < ni
    ·have hkk:k < S.idx.length:=by rw [←HNI.out];exact hkn
     obtain ⟨g,off,cap1,hv,hg,y0,y1⟩:=sl_idx (HIX.out.1.below (HB0.out _ hbw)) hkk
     rw [HIV.out] at hv
     cases hv
     have HUK:=Lib.hid (HUN.out k hkk)
     have HKR:=Lib.hid (fun w4 hb=>HKEYR.out w4 (HB0.out w4 hb) k hkk)
     have HKK:=Lib.hid (fun w4 hb=>HKJ.out w4 hb k hkk)
     generalize S.idx[k].unique=uk at *
     clear hu hbw y0
     by_cases hg1:(j:Int)=but
     ·have eg:((j:Int) == but)=true:=beq_iff_eq.2 hg1
      have en:((j:Int) != but)=false:=by rw [bne,eg];rfl
      have HG1:=Lib.hid hg1
      clear y1 ek hgr hg hg1
      go_upto_region 7 with fail
      refine wp_region_lit_plan [] [(0,0),(1,0),(2,0),(3,0),(4,0),(5,0),(7,0),(6,1),(8,0),(9,0),(10,1),(11,0),(12,0),(13,0),(15,0),(16,0),(18,0),(20,0),(21,0),(23,0),(14,1),(19,2),(22,2),(24,0),(25,2),(17,3),(26,4),(27,0),(28,0)] (fun _=>False) zyVB zyVB (fun c a d v w h=>zx0I) ?_
      go_wp2_with (first|(refine stp ?_))
      go_roundw
      case rel=>exact ⟨k+1,z3KH,zTbe,fun h=>absurd HG1.out h,HBX.out.drew⟩
      case measure=>(simp [intOf])<;>omega
     ·have eg:((j:Int) == but)=false:=beq_eq_false_iff_ne.2 hg1
      have en:((j:Int) != but)=true:=by rw [bne,eg];rfl
      have hu2:=HU.out hg1
      rw [clashUp_succ _ _ _ _ _ hkk,HUK.out] at hu2
      cases uk with
      | false =>
       have HU2:=Lib.hid hu2
       clear hu2
       have d0:=zOGF
       have d2:=zIaD
       have dy:wr.drew.cell? ⟨g,off+k*2+1,none⟩=some (.bool false):=y1
       have dlx:=zQf8
       go_upto_region 7 with fail
       clear x0 x1 x2 x3 x4 x5 x6 y1 ek hgr hlx
       refine wp_region_lit_plan [] [(0,0),(1,0),(2,0),(3,0),(4,0),(5,0),(7,0),(6,1),(8,0),(9,0),(10,1),(11,0),(12,0),(13,0),(15,0),(16,0),(18,0),(20,0),(21,0),(23,0),(14,1),(19,2),(22,2),(24,0),(25,2),(17,3),(26,4),(27,0),(28,0)] (fun q=>q=w.heap.size∨q=gr) zyVB zyVB (fun c a d v w h=>zx0I) ?_
       go_wp2_with (first|(refine stp ?_))
       go_roundw
       case rel=>exact ⟨k+1,z3KH,zTbe,fun _=>by rw [←HU2.out];rfl,HBX.out.drew⟩
       case measure=>(simp [intOf])<;>omega
      | true =>
       rw [Bool.true_and] at hu2
       have HU2:=Lib.hid hu2
       have hez:∃ ez,((kb (kfS S k row)).toList == (kb (kfS S k rj.l)).toList)=ez∧(kfS S k row == kfS S k rj.l)=ez:=⟨_,rfl,by rw [kb_list,kb_list]⟩
       obtain ⟨ez,hez,hez2⟩:=hez
       have HEZ:=Lib.hid hez2
       generalize kb (kfS S k row)=k1 at *
       generalize kb (kfS S k rj.l)=k2 at *
       have hKR:=HKR.out wr.drew HBX.out.drew
       have HKR1:=Lib.hid hKR
       have HAG:Hid (∀ w4,Below wr.drew.heap.size wr.drew w4→Agree (fun q=>q=w.heap.size∨q=gr) wr.drew w4):=Lib.hid fun w4 hb q o hq=>by
        refine hb.cell ?_
        rcases hq with rfl|rfl<;>assumption
       clear hKR hu2 hez2
       have dy:wr.drew.cell? ⟨g,off+k*2+1,none⟩=some (.bool true):=y1
       cases ez with
       | false =>
        go_upto_region 7 with fail
        clear y1
        have d0:=zOGF
        have d1:=zdGf
        have d2:=zIaD
        have d3:=zjgD
        have d4:=zk33
        have d5:=zg14
        have d6:=zGv6
        have dek:=zk1i
        have dgr:=zUaI
        have dlx:=zQf8
        clear x0 x1 x2 x3 x4 x5 x6 ek hgr hlx
        refine wp_region_lit_plan [] [(0,0),(1,0),(2,0),(3,0),(4,0),(5,0),(7,0),(6,1),(8,0),(9,0),(10,1),(11,0),(12,0),(13,0),(15,0),(16,0),(18,0),(20,0),(21,0),(23,0),(14,1),(19,2),(22,2),(24,0),(25,2),(17,3),(26,4),(27,0),(28,0)] (fun q=>q=w.heap.size∨q=gr) zyVB zyVB (fun c a d v w h=>zx0I) ?_
        go_upto_region 6 with (first
         | (refine stp ?_)
         | (go_at_call 18;refine HKR1.out.mono ?_;clear HKR1;rintro e w3 ⟨rfl,hb3⟩;have hag3:=HAG.out _ hb3;have HB3:=Lib.hid (HBX.out.drew.trans (Below.mono hb3 HBX.out.size));clear hb3)
         | (go_at_call 18;refine (HKK.out _ HB3.out).mono ?_;clear HKK;rintro e w4 ⟨rfl,hb4⟩;have HB4:=Lib.hid (HB3.out.trans (hb4.mono HB3.out.size));clear hb4))
        go_wp2
        go_roundw
        case rel=>exact ⟨k+1,z3KH,zTbe,fun _=>by rw [←HU2.out,HEZ.out];rfl,HB4.out⟩
        case measure=>(simp [intOf])<;>omega
       | true =>
        go_upto_region 7 with fail
        clear y1
        have d0:=zOGF
        have d1:=zdGf
        have d2:=zIaD
        have d3:=zjgD
        have d4:=zk33
        have d5:=zg14
        have d6:=zGv6
        have dek:=zk1i
        have dgr:=zUaI
        have dlx:=zQf8
        clear x0 x1 x2 x3 x4 x5 x6 ek hgr hlx
        refine wp_region_lit_plan [] [(0,0),(1,0),(2,0),(3,0),(4,0),(5,0),(7,0),(6,1),(8,0),(9,0),(10,1),(11,0),(12,0),(13,0),(15,0),(16,0),(18,0),(20,0),(21,0),(23,0),(14,1),(19,2),(22,2),(24,0),(25,2),(17,3),(26,4),(27,0),(28,0)] (fun q=>q=w.heap.size∨q=gr) zyVB zyVB (fun c a d v w h=>zx0I) ?_
        go_upto_region 8 with (first
         | (refine stp ?_)
         | (go_at_call 18;refine HKR1.out.mono ?_;clear HKR1;rintro e w3 ⟨rfl,hb3⟩;have hag3:=HAG.out _ hb3;have HB3:=Lib.hid (HBX.out.drew.trans (Below.mono hb3 HBX.out.size));clear hb3)
         | (go_at_call 18;refine (HKK.out _ HB3.out).mono ?_;clear HKK;rintro e w4 ⟨rfl,hb4⟩;have HB4:=Lib.hid (HB3.out.trans (hb4.mono HB3.out.size));clear hb4))
        go_wp2
        go_ret
        exact ⟨by rw [←HF2.out hg1,←HU2.out,HEZ.out];rfl,HB0.out _ HB4.out⟩
    ·obtain rfl:k=ni:=by omega
     rw [HNI.out] at hu
     have hb1:b1=fm:=by
      by_cases hg1:(j:Int)=but
      ·exact HF1.out hg1
      ·have h2:=hu hg1
       rw [clashUp_end] at h2
       rw [←HF2.out hg1,←h2];rfl
     have HB1:=Lib.hid (HU1.out.trans hb1)
     clear hu hbw hb1
     go_wp2
     go_roundw
     case rel=>exact ⟨j+1,z3KH,zTbe,HB1.out,HBX.out⟩
     case measure=>(simp [intOf])<;>omega
  ·obtain rfl:j=rows.length:=by omega
   rw [List.drop_length] at hf
   have HF:Hid (fm=false):=Lib.hid hf.symm
   clear hf hbo
   go_wp2
   go_ret
   exact ⟨zS9n,HAL.out.trans (HBO.out.mono HAL.out.size)⟩
theorem RowsAt.to {w w':World} {R R':Nat→Prop} {v:Value} {rows:List RowV} (h:RowsAt w R v rows) (hs:w.heap.size≤w'.heap.size) (hb:∀ k,R k→k < w.heap.size→w'.heap[k]?=w.heap[k]?) (hB:∀ k,R k→k < w.heap.size→R' k):RowsAt w' R' v rows :=
 ⟨h.1.mono hs hb hB,fun r hr=>(h.2 r hr).mono hs hb hB⟩
theorem MdAt.to {w w':World} {R R':Nat→Prop} {S:SchV} {v:Value} {rows:List RowV} (h:MdAt w R S v rows) (hs:w.heap.size≤w'.heap.size) (hb:∀ k,R k→k < w.heap.size→w'.heap[k]?=w.heap[k]?) (hB:∀ k,R k→k < w.heap.size→R' k):MdAt w' R' S v rows :=
 ⟨h.sch.to hs hb hB,h.right,h.ra.to hs hb hB,h.ok⟩
theorem MdAt.tight {w:World} {R:Nat→Prop} {S:SchV} {v:Value} {rows:List RowV} (h:MdAt w R S v rows):MdAt w (fun q=>R q∧q < w.heap.size) S v rows:=h.to (Nat.le_refl _) (fun _ _ _=>rfl) (fun _ hk hl=>⟨hk,hl⟩)
def MdOut (w:World) (B:Nat→Prop) (S:SchV) (o:List (List AV) × Int) (e:Ending) (w':World):Prop :=
 ∃ lv rws,e=.returned (.tuple #[mdV S lv,.int .i64 o.2])∧RowsAt w' (fun q=>B q∨w.heap.size≤q) lv rws∧rws.map RowV.l=o.1∧Below w.heap.size w w'
theorem md_same {w w1 w2:World} {B:Nat→Prop} {rv:Value} {rows:List RowV} (hra:RowsAt w B rv rows) (hb:Below w.heap.size w w2) (h1:w.heap.size≤w1.heap.size) :
 ∀ wX,Below w2.heap.size w2 wX→∀ wF,Only (fun q=>q=w1.heap.size) wX wF→RowsAt wF (fun q=>B q∨w.heap.size≤q) rv rows∧Below w.heap.size w wF:=fun wX hx wF ho=>by
 have hbF:Below w.heap.size w wF:=(hb.trans (hx.mono hb.size)).trans (ho.below (by have:=hb.size;have:=hx.size;omega) (fun q hq=>zTbe))
 exact ⟨hra.to hbF.size (fun k _ hl=>hbF.block k hl) (fun k hk _=>.inl hk),hbF⟩
theorem md_other {w w1 w2:World} {B:Nat→Prop} (hb:Below w.heap.size w w2) (h1:w.heap.size≤w1.heap.size) (h2:w1.heap.size+1≤w2.heap.size) :
 ∀ wY,Below w2.heap.size w2 wY→∀ wX lv rws,RowsAt wX (fun q=>(B q∧q < w.heap.size)∨wY.heap.size≤q) lv rws→Below wY.heap.size wY wX→∀ wF,Only (fun q=>q=w1.heap.size) wX wF→RowsAt wF (fun q=>B q∨w.heap.size≤q) lv rws∧Below w.heap.size w wF:=fun wY hy wX lv rws hra hx wF ho=>by
 have hsy:=hy.size
 have hbY:Below w.heap.size w wY:=hb.trans (hy.mono hb.size)
 have hbX:Below w.heap.size w wX:=hbY.trans (hx.mono hbY.size)
 have hbF:Below w.heap.size w wF:=hbX.trans (ho.below hbX.size (fun q hq=>zTbe))
 refine ⟨hra.to ho.size (fun k hk hl=>ho.block k hl ?_) (fun k hk _=>?_),hbF⟩
 ·rcases hk with ⟨_,hk⟩|hk<;>omega
 ·rcases hk with ⟨hk,_⟩|hk
  ·exact .inl hk
  ·exact .inr (by have:=hbY.size;omega)
theorem insMd_1 {S:SchV} {m:List (List AV)} {row:List AV} (h:fitB S.cols row=false):insMd S m row=(m,13):=by unfold insMd;rw [if_pos h]
theorem insMd_2 {S:SchV} {m:List (List AV)} {row:List AV} (h:fitB S.cols row=true) (hc:clashS S m row (-1)=true):insMd S m row=(m,9):=by unfold insMd;rw [if_neg (by rw [h];simp),if_pos hc]
theorem insMd_3 {S:SchV} {m:List (List AV)} {row:List AV} (h:fitB S.cols row=true) (hc:clashS S m row (-1)=false) (hl:S.limit≤(m.length:Int)):insMd S m row=(m,15):=by unfold insMd;rw [if_neg (by rw [h];simp),if_neg (by rw [hc];simp),if_pos hl]
theorem insMd_4 {S:SchV} {m:List (List AV)} {row:List AV} (h:fitB S.cols row=true) (hc:clashS S m row (-1)=false) (hl:¬ S.limit≤(m.length:Int)):insMd S m row=(withM (kfS S) m row (-1) true,0):=by unfold insMd;rw [if_neg (by rw [h];simp),if_neg (by rw [hc];simp),if_neg hl,withM,if_pos rfl,skipM_none]
theorem updMd_1 {S:SchV} {m:List (List AV)} {k:Key} {row:List AV} (h:findM (kfS S) k m 0 < 0):updMd S m k row=(m,8):=by unfold updMd;rw [if_pos h]
theorem updMd_2 {S:SchV} {m:List (List AV)} {k:Key} {row:List AV} (h:¬ findM (kfS S) k m 0 < 0) (hf:fitB S.cols row=false):updMd S m k row=(m,13):=by unfold updMd;rw [if_neg h,if_pos hf]
theorem updMd_3 {S:SchV} {m:List (List AV)} {k:Key} {row:List AV} (h:¬ findM (kfS S) k m 0 < 0) (hf:fitB S.cols row=true) (hc:clashS S m row (findM (kfS S) k m 0)=true):updMd S m k row=(m,9):=by unfold updMd;rw [if_neg h,if_neg (by rw [hf];simp),if_pos hc]
theorem updMd_4 {S:SchV} {m:List (List AV)} {k:Key} {row:List AV} (h:¬ findM (kfS S) k m 0 < 0) (hf:fitB S.cols row=true) (hc:clashS S m row (findM (kfS S) k m 0)=false):updMd S m k row=(withM (kfS S) m row (findM (kfS S) k m 0) true,0):=by unfold updMd;rw [if_neg h,if_neg (by rw [hf];simp),if_neg (by rw [hc];simp)]
theorem MdAt.slot {w:World} {B:Nat→Prop} {S:SchV} {rv:Value} {rows:List RowV} (h:MdAt w B S rv rows):∃ p n c,S.idxV=.slice p n c:=h.forms.2.1
theorem minsert_any (w:World) (B:Nat→Prop) (S:SchV) (rv:Value) (rows:List RowV) (h:MdAt w B S rv rows) (hlen:rows.length≤1000) (rw_:RowV) (hrow:Sl w B 3 rw_.v rw_.l.length (rowCells rw_.l)) (hf:∀ a∈rw_.l,fit64 a.n) :
 Calls Tryz.prog 82 #[mdV S rv,rw_.v] w (MdOut w B S (insMd S (rows.map RowV.l) rw_.l)):=by
 have hti:=h.tight
 have HFIT:=Lib.hid (fun w4 (hb:Below w.heap.size w w4)=>reffits_any w4 B B S rw_.v rw_.l (h.sch.cols.below hb) (hrow.below hb) h.slot)
 have HCLA:=Lib.hid (fun w4 (hb:Below w.heap.size w w4) (but:Int) (hk:RowOK S rw_.l)=>mclash_any w4 B S rv rows (h.below hb) hlen B rw_.v rw_.l (hrow.below hb) but hk)
 have HWIT:=Lib.hid (fun w4 (hb:Below w.heap.size w w4) (gone:Int) (hk:RowOK S rw_.l)=>mwith_any w4 (fun q=>B q∧q < w.heap.size) S rv rows (hti.below hb) hlen rw_ ((hrow.mono (Nat.le_refl _) (fun _ _ _=>rfl) (fun _ hk hl=>⟨hk,hl⟩)).below hb) gone true (fun _=>hk))
 have HRA:=Lib.hid h.ra
 obtain ⟨⟨pc,nc,cc,hcv⟩,⟨pi,ni,ci,hiv⟩,⟨pr,cr,hrv,hcr1,hcr2⟩,hrf⟩:=h.forms
 have HRF:=Lib.hid hrf
 subst hrv
 obtain ⟨pw,cw,hrw,_,_⟩:=hrow.form
 obtain ⟨nw,hnw⟩:∃ nw,rw_.l.length=nw:=⟨_,rfl⟩
 rw [hnw] at hrw
 have HCV:=Lib.hid hcv
 have HIV:=Lib.hid hiv
 have ROK:=Lib.hid (fun (hft:fitB S.cols rw_.l=true)=>(⟨hft,hf⟩:RowOK S rw_.l))
 simp only [mdV,hcv,hiv,hrw] at HCLA HWIT
 simp only [SchV.agg,hcv,hiv,hrw] at HFIT
 rw [hrw]
 rw [show mdV S (.slice pr rows.length cr)=.agg #[.string S.name,.slice pc nc cc,.slice pi ni ci,.int .i64 S.limit,.int .i64 S.parts,.int .i64 S.by_,.slice pr rows.length cr] by unfold mdV;rw [hcv,hiv]]
 have hal:=z0KE
 have hkm:=Blk.new w 34 [.string S.name,.slice pc nc cc,.slice pi ni ci,.int .i64 S.limit,.int .i64 S.parts,.int .i64 S.by_,.slice pr rows.length cr]
 obtain ⟨w1,hw1⟩:=zC8e
 rw [hw1] at hal
 have hkm:=zJ1I
 have HAL:=Lib.hid hal
 have HKM:=Lib.hid hkm
 obtain ⟨w2,hw2⟩:=zX17
 have hb12:=zXxX
 have hkz:=zTgR
 have HKM2:=Lib.hid (hkm.below hb12)
 have HKZ:=Lib.hid hkz
 have HB2:=Lib.hid (hal.trans (hb12.mono hal.size))
 have hzl:=zNTk
 have hzl0:=zi0R
 have HSAME:=Lib.hid (md_same (w1:=w1) HRA.out HB2.out hzl0)
 have HOTH:=Lib.hid (md_other (B:=B) HB2.out hzl0 hzl)
 have HB0:=ziR2
 have HMV:=zYQU
 generalize hfb:fitB S.cols rw_.l=fb at *
 clear h hti hrf hrow hcv hiv hal hkm hkz hb12 hnw hf hrw
 have hlm:((rows.map RowV.l).length:Int)=rows.length:=zPXO
 have HLM:=Lib.hid hlm
 generalize hcb:clashS S (rows.map RowV.l) rw_.l (-1)=cb at *
 have HFB:=Lib.hid hfb
 have HCB:Hid (clashS S (rows.map RowV.l) rw_.l (-1)=cb):=hcb
 clear hfb hcb hlm
 go_enter Tryz.func82,Tryz.ntmps82
 have HBX:=Lib.hid (Below.refl w2.heap.size w2)
 obtain ⟨x0,x1,x2,x3,x4,x5,x6⟩:=md_cells (HKM2.out.below HBX.out)
 have hlx:=(HKM2.out.below HBX.out).lt
 go_wp2_with fail
 clear hw1 hw2 x0 x1 x2 x3 x4 x5 x6
 refine (HFIT.out w2 HB2.out).mono ?_
 rintro e w3 ⟨rfl,hb3⟩
 clear HBX
 have HBX:=Lib.hid hb3
 clear hb3 HFIT
 cases fb with
 | false =>
  obtain ⟨x0,x1,x2,x3,x4,x5,x6⟩:=md_cells (HKM2.out.below HBX.out)
  have hlx:=(HKM2.out.below HBX.out).lt
  have hkz:=HKZ.out.below HBX.out
  have HZ:=Lib.hid hkz
  have zf:=zxiX
  have zl:=hkz.lt
  obtain ⟨z0,z1,z2,z3,z4,z5,z6⟩:=md_cells hkz
  clear hkz
  go_wp2
  obtain ⟨hk,hon⟩:=set_seven HZ.out (.string S.name) (.slice pc nc cc) (.slice pi ni ci) (.int .i64 S.limit) (.int .i64 S.parts) (.int .i64 S.by_) (.slice pr rows.length cr)
  generalize (((((((w3.setCell ⟨w1.heap.size,0,none⟩ (.string S.name)).setCell ⟨w1.heap.size,1,none⟩ (.slice pc nc cc)).setCell ⟨w1.heap.size,2,none⟩ (.slice pi ni ci)).setCell ⟨w1.heap.size,3,none⟩ (.int .i64 S.limit)).setCell ⟨w1.heap.size,4,none⟩ (.int .i64 S.parts)).setCell ⟨w1.heap.size,5,none⟩ (.int .i64 S.by_)).setCell ⟨w1.heap.size,6,none⟩ (.slice pr rows.length cr))=wE at *
  obtain ⟨m0,m1,m2,m3,m4,m5,m6⟩:=md_cells hk
  exact bodyPost_ret (v:=.tuple #[.agg #[.string S.name,.slice pc nc cc,.slice pi ni ci,.int .i64 S.limit,.int .i64 S.parts,.int .i64 S.by_,.slice pr rows.length cr],.int .i64 13]) zu2I rfl (⟨_,rows,by rw [insMd_1 HFB.out,HMV.out],(HSAME.out _ HBX.out _ hon).1,by rw [insMd_1 HFB.out],(HSAME.out _ HBX.out _ hon).2⟩)
 | true =>
  have hrk:=ROK.out rfl
  have HRK:=Lib.hid hrk
  have hcl:=HCLA.out w3 (HB0.out _ HBX.out) (-1) hrk
  rw [HCB.out] at hcl
  have HCL:=Lib.hid hcl
  obtain ⟨x0,x1,x2,x3,x4,x5,x6⟩:=md_cells (HKM2.out.below HBX.out)
  have hlx:=(HKM2.out.below HBX.out).lt
  clear hcl hrk HCLA
  go_wp2_with fail
  clear x0 x1 x2 x3 x4 x5 x6 hlx
  refine HCL.out.mono ?_
  rintro e w4 ⟨rfl,hb4⟩
  have hbx:=HBX.out.trans (hb4.mono HBX.out.size)
  clear HBX HCL
  have HBX:=Lib.hid hbx
  clear hb4 hbx
  cases cb with
  | true =>
   obtain ⟨x0,x1,x2,x3,x4,x5,x6⟩:=md_cells (HKM2.out.below HBX.out)
   have hlx:=(HKM2.out.below HBX.out).lt
   have hkz:=HKZ.out.below HBX.out
   have HZ:=Lib.hid hkz
   have zf:=zj0T
   have zl:=hkz.lt
   obtain ⟨z0,z1,z2,z3,z4,z5,z6⟩:=md_cells hkz
   clear hkz
   go_wp2
   obtain ⟨hk,hon⟩:=set_seven HZ.out (.string S.name) (.slice pc nc cc) (.slice pi ni ci) (.int .i64 S.limit) (.int .i64 S.parts) (.int .i64 S.by_) (.slice pr rows.length cr)
   generalize (((((((w4.setCell ⟨w1.heap.size,0,none⟩ (.string S.name)).setCell ⟨w1.heap.size,1,none⟩ (.slice pc nc cc)).setCell ⟨w1.heap.size,2,none⟩ (.slice pi ni ci)).setCell ⟨w1.heap.size,3,none⟩ (.int .i64 S.limit)).setCell ⟨w1.heap.size,4,none⟩ (.int .i64 S.parts)).setCell ⟨w1.heap.size,5,none⟩ (.int .i64 S.by_)).setCell ⟨w1.heap.size,6,none⟩ (.slice pr rows.length cr))=wE at *
   obtain ⟨m0,m1,m2,m3,m4,m5,m6⟩:=md_cells hk
   exact bodyPost_ret (v:=.tuple #[.agg #[.string S.name,.slice pc nc cc,.slice pi ni ci,.int .i64 S.limit,.int .i64 S.parts,.int .i64 S.by_,.slice pr rows.length cr],.int .i64 9]) zu2I rfl (⟨_,rows,by rw [insMd_2 HFB.out HCB.out,HMV.out],(HSAME.out _ HBX.out _ hon).1,by rw [insMd_2 HFB.out HCB.out],(HSAME.out _ HBX.out _ hon).2⟩)
  | false =>
   by_cases hl:S.limit≤(rows.length:Int)
   ·have hl2:¬ ((rows.length:Int) < S.limit):=by omega
    obtain ⟨x0,x1,x2,x3,x4,x5,x6⟩:=md_cells (HKM2.out.below HBX.out)
    have hlx:=(HKM2.out.below HBX.out).lt
    have hkz:=HKZ.out.below HBX.out
    have HZ:=Lib.hid hkz
    have zf:=zj0T
    have zl:=hkz.lt
    obtain ⟨z0,z1,z2,z3,z4,z5,z6⟩:=md_cells hkz
    clear hkz
    have d1:decide (S.limit≤(rows.length:Int))=true:=decide_eq_true hl
    have d2:decide ((rows.length:Int) < S.limit)=false:=decide_eq_false hl2
    have HL:Hid (S.limit≤((rows.map RowV.l).length:Int)):=Lib.hid (by rw [HLM.out];exact hl)
    go_wp2
    obtain ⟨hk,hon⟩:=set_seven HZ.out (.string S.name) (.slice pc nc cc) (.slice pi ni ci) (.int .i64 S.limit) (.int .i64 S.parts) (.int .i64 S.by_) (.slice pr rows.length cr)
    generalize (((((((w4.setCell ⟨w1.heap.size,0,none⟩ (.string S.name)).setCell ⟨w1.heap.size,1,none⟩ (.slice pc nc cc)).setCell ⟨w1.heap.size,2,none⟩ (.slice pi ni ci)).setCell ⟨w1.heap.size,3,none⟩ (.int .i64 S.limit)).setCell ⟨w1.heap.size,4,none⟩ (.int .i64 S.parts)).setCell ⟨w1.heap.size,5,none⟩ (.int .i64 S.by_)).setCell ⟨w1.heap.size,6,none⟩ (.slice pr rows.length cr))=wE at *
    obtain ⟨m0,m1,m2,m3,m4,m5,m6⟩:=md_cells hk
    exact bodyPost_ret (v:=.tuple #[.agg #[.string S.name,.slice pc nc cc,.slice pi ni ci,.int .i64 S.limit,.int .i64 S.parts,.int .i64 S.by_,.slice pr rows.length cr],.int .i64 15]) zu2I rfl (⟨_,rows,by rw [insMd_3 HFB.out HCB.out HL.out,HMV.out],(HSAME.out _ HBX.out _ hon).1,by rw [insMd_3 HFB.out HCB.out HL.out],(HSAME.out _ HBX.out _ hon).2⟩)
   ·have hl2:(rows.length:Int) < S.limit:=by omega
    obtain ⟨x0,x1,x2,x3,x4,x5,x6⟩:=md_cells (HKM2.out.below HBX.out)
    have hlx:=(HKM2.out.below HBX.out).lt
    have d1:decide (S.limit≤(rows.length:Int))=false:=decide_eq_false hl
    have d2:decide ((rows.length:Int) < S.limit)=true:=decide_eq_true hl2
    have HL:Hid (¬ S.limit≤((rows.map RowV.l).length:Int)):=Lib.hid (by rw [HLM.out];exact hl)
    have HWI:=Lib.hid (HWIT.out w4 (HB0.out _ HBX.out) (-1) HRK.out)
    clear HWIT
    go_wp2_with fail
    clear x0 x1 x2 x3 x4 x5 x6 hlx
    refine HWI.out.mono ?_
    rintro e w5 ⟨lv,rws,rfl,hra,hrm,hb5⟩
    obtain ⟨pl,cl,hlv,_,_⟩:=hra.1.form
    obtain ⟨nl,hnl⟩:=zo6F
    rw [hnl] at hlv
    subst hlv
    clear hnl
    have HRA5:=Lib.hid hra
    have HRM:=Lib.hid hrm
    have HFIN:=Lib.hid (HOTH.out w4 HBX.out w5 _ rws hra hb5)
    have hbx:=HBX.out.trans (hb5.mono HBX.out.size)
    clear HBX HWI
    have HBX:=Lib.hid hbx
    clear hb5 hbx hra hrm
    have hkz:=HKZ.out.below HBX.out
    have HZ:=Lib.hid hkz
    have zf:∀ i,w5.frozen? ⟨w1.heap.size,i,none⟩=false:=hkz.frozen
    have zl:=hkz.lt
    obtain ⟨z0,z1,z2,z3,z4,z5,z6⟩:=md_cells hkz
    clear hkz
    go_wp2
    obtain ⟨hk,hon⟩:=set_seven HZ.out (.string S.name) (.slice pc nc cc) (.slice pi ni ci) (.int .i64 S.limit) (.int .i64 S.parts) (.int .i64 S.by_) (.slice pl nl cl)
    generalize (((((((w5.setCell ⟨w1.heap.size,0,none⟩ (.string S.name)).setCell ⟨w1.heap.size,1,none⟩ (.slice pc nc cc)).setCell ⟨w1.heap.size,2,none⟩ (.slice pi ni ci)).setCell ⟨w1.heap.size,3,none⟩ (.int .i64 S.limit)).setCell ⟨w1.heap.size,4,none⟩ (.int .i64 S.parts)).setCell ⟨w1.heap.size,5,none⟩ (.int .i64 S.by_)).setCell ⟨w1.heap.size,6,none⟩ (.slice pl nl cl))=wE at *
    obtain ⟨m0,m1,m2,m3,m4,m5,m6⟩:=md_cells hk
    exact bodyPost_ret (v:=.tuple #[.agg #[.string S.name,.slice pc nc cc,.slice pi ni ci,.int .i64 S.limit,.int .i64 S.parts,.int .i64 S.by_,.slice pl nl cl],.int .i64 0]) zu2I rfl (⟨_,rws,by rw [insMd_4 HFB.out HCB.out (by have:=HL.out;omega),HMV.out],(HFIN.out _ hon).1,by rw [insMd_4 HFB.out HCB.out (by have:=HL.out;omega),HRM.out],(HFIN.out _ hon).2⟩)
theorem mupdate_any (w:World) (B:Nat→Prop) (S:SchV) (rv:Value) (rows:List RowV) (h:MdAt w B S rv rows) (hlen:rows.length≤1000) (k:Key) (rw_:RowV) (hrow:Sl w B 3 rw_.v rw_.l.length (rowCells rw_.l)) (hf:∀ a∈rw_.l,fit64 a.n) :
 Calls Tryz.prog 83 #[mdV S rv,.string (kb k),rw_.v] w (MdOut w B S (updMd S (rows.map RowV.l) k rw_.l)):=by
 have HFND:=Lib.hid (fun w4 (hb:Below w.heap.size w w4)=>mfind_any w4 B S rv rows (h.below hb) k)
 obtain ⟨kv,hkv⟩:∃ kv,kb k=kv:=⟨_,rfl⟩
 rw [hkv] at HFND ⊢
 clear hkv
 obtain ⟨fi,hfi⟩:∃ fi,findM (kfS S) k (rows.map RowV.l) 0=fi:=⟨_,rfl⟩
 rw [hfi] at HFND
 have HFI:=Lib.hid hfi
 simp only [mdV,h.slot.choose_spec] at HFND
 have hti:=h.tight
 have HFIT:=Lib.hid (fun w4 (hb:Below w.heap.size w w4)=>reffits_any w4 B B S rw_.v rw_.l (h.sch.cols.below hb) (hrow.below hb) h.slot)
 have HCLA:=Lib.hid (fun w4 (hb:Below w.heap.size w w4) (but:Int) (hk:RowOK S rw_.l)=>mclash_any w4 B S rv rows (h.below hb) hlen B rw_.v rw_.l (hrow.below hb) but hk)
 have HWIT:=Lib.hid (fun w4 (hb:Below w.heap.size w w4) (gone:Int) (hk:RowOK S rw_.l)=>mwith_any w4 (fun q=>B q∧q < w.heap.size) S rv rows (hti.below hb) hlen rw_ ((hrow.mono (Nat.le_refl _) (fun _ _ _=>rfl) (fun _ hk hl=>⟨hk,hl⟩)).below hb) gone true (fun _=>hk))
 have HRA:=Lib.hid h.ra
 obtain ⟨⟨pc,nc,cc,hcv⟩,⟨pi,ni,ci,hiv⟩,⟨pr,cr,hrv,hcr1,hcr2⟩,hrf⟩:=h.forms
 have HRF:=Lib.hid hrf
 subst hrv
 obtain ⟨pw,cw,hrw,_,_⟩:=hrow.form
 obtain ⟨nw,hnw⟩:∃ nw,rw_.l.length=nw:=⟨_,rfl⟩
 rw [hnw] at hrw
 have HCV:=Lib.hid hcv
 have HIV:=Lib.hid hiv
 have ROK:=Lib.hid (fun (hft:fitB S.cols rw_.l=true)=>(⟨hft,hf⟩:RowOK S rw_.l))
 simp only [mdV,hcv,hiv,hrw] at HCLA HWIT
 simp only [SchV.agg,hcv,hiv,hrw] at HFIT
 rw [hrw]
 rw [show mdV S (.slice pr rows.length cr)=.agg #[.string S.name,.slice pc nc cc,.slice pi ni ci,.int .i64 S.limit,.int .i64 S.parts,.int .i64 S.by_,.slice pr rows.length cr] by unfold mdV;rw [hcv,hiv]]
 have hal:=z0KE
 have hkm:=Blk.new w 34 [.string S.name,.slice pc nc cc,.slice pi ni ci,.int .i64 S.limit,.int .i64 S.parts,.int .i64 S.by_,.slice pr rows.length cr]
 obtain ⟨w1,hw1⟩:=zC8e
 rw [hw1] at hal
 have hkm:=zJ1I
 have HAL:=Lib.hid hal
 have HKM:=Lib.hid hkm
 obtain ⟨w2,hw2⟩:=zX17
 have hb12:=zXxX
 have hkz:=zTgR
 have HKM2:=Lib.hid (hkm.below hb12)
 have HKZ:=Lib.hid hkz
 have HB2:=Lib.hid (hal.trans (hb12.mono hal.size))
 have hzl:=zNTk
 have hzl0:=zi0R
 have HSAME:=Lib.hid (md_same (w1:=w1) HRA.out HB2.out hzl0)
 have HOTH:=Lib.hid (md_other (B:=B) HB2.out hzl0 hzl)
 have HB0:=ziR2
 have HMV:=zYQU
 generalize hfb:fitB S.cols rw_.l=fb at *
 clear h hti hrf hrow hcv hiv hal hkm hkz hb12 hnw hf hrw
 simp only [HCV.out,HIV.out] at HFND
 generalize hcb:clashS S (rows.map RowV.l) rw_.l fi=cb at *
 have HFB:=Lib.hid hfb
 have HCB:Hid (clashS S (rows.map RowV.l) rw_.l fi=cb):=hcb
 clear hfb hcb hfi
 go_enter Tryz.func83,Tryz.ntmps83
 have HBX:=Lib.hid (Below.refl w2.heap.size w2)
 obtain ⟨x0,x1,x2,x3,x4,x5,x6⟩:=md_cells (HKM2.out.below HBX.out)
 have hlx:=(HKM2.out.below HBX.out).lt
 go_wp2_with fail
 clear hw1 hw2 x0 x1 x2 x3 x4 x5 x6
 refine (HFND.out w2 HB2.out).mono ?_
 rintro e w3 ⟨rfl,hb3⟩
 clear HBX
 have HBX:=Lib.hid hb3
 clear hb3 HFND
 by_cases hneg:fi < 0
 ·have HN:Hid (findM (kfS S) k (rows.map RowV.l) 0 < 0):=Lib.hid zz32
  have d1:decide (fi < 0)=true:=decide_eq_true hneg
  obtain ⟨x0,x1,x2,x3,x4,x5,x6⟩:=md_cells (HKM2.out.below HBX.out)
  have hlx:=(HKM2.out.below HBX.out).lt
  have hkz:=HKZ.out.below HBX.out
  have HZ:=Lib.hid hkz
  have zf:=zxiX
  have zl:=hkz.lt
  obtain ⟨z0,z1,z2,z3,z4,z5,z6⟩:=md_cells hkz
  clear hkz
  go_wp2
  obtain ⟨hk,hon⟩:=set_seven HZ.out (.string S.name) (.slice pc nc cc) (.slice pi ni ci) (.int .i64 S.limit) (.int .i64 S.parts) (.int .i64 S.by_) (.slice pr rows.length cr)
  generalize (((((((w3.setCell ⟨w1.heap.size,0,none⟩ (.string S.name)).setCell ⟨w1.heap.size,1,none⟩ (.slice pc nc cc)).setCell ⟨w1.heap.size,2,none⟩ (.slice pi ni ci)).setCell ⟨w1.heap.size,3,none⟩ (.int .i64 S.limit)).setCell ⟨w1.heap.size,4,none⟩ (.int .i64 S.parts)).setCell ⟨w1.heap.size,5,none⟩ (.int .i64 S.by_)).setCell ⟨w1.heap.size,6,none⟩ (.slice pr rows.length cr))=wE at *
  obtain ⟨m0,m1,m2,m3,m4,m5,m6⟩:=md_cells hk
  exact bodyPost_ret (v:=.tuple #[.agg #[.string S.name,.slice pc nc cc,.slice pi ni ci,.int .i64 S.limit,.int .i64 S.parts,.int .i64 S.by_,.slice pr rows.length cr],.int .i64 8]) zsZm rfl (⟨_,rows,by rw [updMd_1 HN.out,HMV.out],(HSAME.out _ HBX.out _ hon).1,by rw [updMd_1 HN.out],(HSAME.out _ HBX.out _ hon).2⟩)
 ·have HN:Hid (¬ findM (kfS S) k (rows.map RowV.l) 0 < 0):=Lib.hid zz32
  have d1:decide (fi < 0)=false:=decide_eq_false hneg
  have HFT:=Lib.hid (HFIT.out w3 (HB0.out _ HBX.out))
  obtain ⟨x0,x1,x2,x3,x4,x5,x6⟩:=md_cells (HKM2.out.below HBX.out)
  have hlx:=(HKM2.out.below HBX.out).lt
  clear HFIT
  go_wp2_with fail
  clear x0 x1 x2 x3 x4 x5 x6 hlx
  refine HFT.out.mono ?_
  rintro e w4 ⟨rfl,hb4⟩
  have hbx:=HBX.out.trans (hb4.mono HBX.out.size)
  clear HBX HFT
  have HBX:=Lib.hid hbx
  clear hb4 hbx
  cases fb with
  | false =>
   obtain ⟨x0,x1,x2,x3,x4,x5,x6⟩:=md_cells (HKM2.out.below HBX.out)
   have hlx:=(HKM2.out.below HBX.out).lt
   have hkz:=HKZ.out.below HBX.out
   have HZ:=Lib.hid hkz
   have zf:=zj0T
   have zl:=hkz.lt
   obtain ⟨z0,z1,z2,z3,z4,z5,z6⟩:=md_cells hkz
   clear hkz
   go_wp2
   obtain ⟨hk,hon⟩:=set_seven HZ.out (.string S.name) (.slice pc nc cc) (.slice pi ni ci) (.int .i64 S.limit) (.int .i64 S.parts) (.int .i64 S.by_) (.slice pr rows.length cr)
   generalize (((((((w4.setCell ⟨w1.heap.size,0,none⟩ (.string S.name)).setCell ⟨w1.heap.size,1,none⟩ (.slice pc nc cc)).setCell ⟨w1.heap.size,2,none⟩ (.slice pi ni ci)).setCell ⟨w1.heap.size,3,none⟩ (.int .i64 S.limit)).setCell ⟨w1.heap.size,4,none⟩ (.int .i64 S.parts)).setCell ⟨w1.heap.size,5,none⟩ (.int .i64 S.by_)).setCell ⟨w1.heap.size,6,none⟩ (.slice pr rows.length cr))=wE at *
   obtain ⟨m0,m1,m2,m3,m4,m5,m6⟩:=md_cells hk
   exact bodyPost_ret (v:=.tuple #[.agg #[.string S.name,.slice pc nc cc,.slice pi ni ci,.int .i64 S.limit,.int .i64 S.parts,.int .i64 S.by_,.slice pr rows.length cr],.int .i64 13]) zsZm rfl (⟨_,rows,by rw [updMd_2 z9se HFB.out,HMV.out],(HSAME.out _ HBX.out _ hon).1,by rw [updMd_2 z9se HFB.out],(HSAME.out _ HBX.out _ hon).2⟩)
  | true =>
   have hrk:=ROK.out rfl
   have HRK:=Lib.hid hrk
   have hcl:=HCLA.out w4 (HB0.out _ HBX.out) fi hrk
   rw [HCB.out] at hcl
   have HCL:=Lib.hid hcl
   obtain ⟨x0,x1,x2,x3,x4,x5,x6⟩:=md_cells (HKM2.out.below HBX.out)
   have hlx:=(HKM2.out.below HBX.out).lt
   clear hcl hrk HCLA
   go_wp2_with fail
   clear x0 x1 x2 x3 x4 x5 x6 hlx
   refine HCL.out.mono ?_
   rintro e w5 ⟨rfl,hb5⟩
   have hbx:=HBX.out.trans (hb5.mono HBX.out.size)
   clear HBX HCL
   have HBX:=Lib.hid hbx
   clear hb5 hbx
   have HCB2:Hid (clashS S (rows.map RowV.l) rw_.l (findM (kfS S) k (rows.map RowV.l) 0)=cb):=Lib.hid (by rw [HFI.out];exact HCB.out)
   cases cb with
   | true =>
    obtain ⟨x0,x1,x2,x3,x4,x5,x6⟩:=md_cells (HKM2.out.below HBX.out)
    have hlx:=(HKM2.out.below HBX.out).lt
    have hkz:=HKZ.out.below HBX.out
    have HZ:=Lib.hid hkz
    have zf:∀ i,w5.frozen? ⟨w1.heap.size,i,none⟩=false:=hkz.frozen
    have zl:=hkz.lt
    obtain ⟨z0,z1,z2,z3,z4,z5,z6⟩:=md_cells hkz
    clear hkz
    go_wp2
    obtain ⟨hk,hon⟩:=set_seven HZ.out (.string S.name) (.slice pc nc cc) (.slice pi ni ci) (.int .i64 S.limit) (.int .i64 S.parts) (.int .i64 S.by_) (.slice pr rows.length cr)
    generalize (((((((w5.setCell ⟨w1.heap.size,0,none⟩ (.string S.name)).setCell ⟨w1.heap.size,1,none⟩ (.slice pc nc cc)).setCell ⟨w1.heap.size,2,none⟩ (.slice pi ni ci)).setCell ⟨w1.heap.size,3,none⟩ (.int .i64 S.limit)).setCell ⟨w1.heap.size,4,none⟩ (.int .i64 S.parts)).setCell ⟨w1.heap.size,5,none⟩ (.int .i64 S.by_)).setCell ⟨w1.heap.size,6,none⟩ (.slice pr rows.length cr))=wE at *
    obtain ⟨m0,m1,m2,m3,m4,m5,m6⟩:=md_cells hk
    exact bodyPost_ret (v:=.tuple #[.agg #[.string S.name,.slice pc nc cc,.slice pi ni ci,.int .i64 S.limit,.int .i64 S.parts,.int .i64 S.by_,.slice pr rows.length cr],.int .i64 9]) zsZm rfl (⟨_,rows,by rw [updMd_3 z9se HFB.out HCB2.out,HMV.out],(HSAME.out _ HBX.out _ hon).1,by rw [updMd_3 z9se HFB.out HCB2.out],(HSAME.out _ HBX.out _ hon).2⟩)
   | false =>
    obtain ⟨x0,x1,x2,x3,x4,x5,x6⟩:=md_cells (HKM2.out.below HBX.out)
    have hlx:=(HKM2.out.below HBX.out).lt
    have HWI:=Lib.hid (HWIT.out w5 (HB0.out _ HBX.out) fi HRK.out)
    clear HWIT
    go_wp2_with fail
    clear x0 x1 x2 x3 x4 x5 x6 hlx
    refine HWI.out.mono ?_
    rintro e w6 ⟨lv,rws,rfl,hra,hrm,hb6⟩
    obtain ⟨pl,cl,hlv,_,_⟩:=hra.1.form
    obtain ⟨nl,hnl⟩:=zo6F
    rw [hnl] at hlv
    subst hlv
    clear hnl
    have HRA5:=Lib.hid hra
    have HRM:=Lib.hid hrm
    have HFIN:=Lib.hid (HOTH.out w5 HBX.out w6 _ rws hra hb6)
    have hbx:=HBX.out.trans (hb6.mono HBX.out.size)
    clear HBX HWI
    have HBX:=Lib.hid hbx
    clear hb6 hbx hra hrm
    have hkz:=HKZ.out.below HBX.out
    have HZ:=Lib.hid hkz
    have zf:∀ i,w6.frozen? ⟨w1.heap.size,i,none⟩=false:=hkz.frozen
    have zl:=hkz.lt
    obtain ⟨z0,z1,z2,z3,z4,z5,z6⟩:=md_cells hkz
    clear hkz
    go_wp2
    obtain ⟨hk,hon⟩:=set_seven HZ.out (.string S.name) (.slice pc nc cc) (.slice pi ni ci) (.int .i64 S.limit) (.int .i64 S.parts) (.int .i64 S.by_) (.slice pl nl cl)
    generalize (((((((w6.setCell ⟨w1.heap.size,0,none⟩ (.string S.name)).setCell ⟨w1.heap.size,1,none⟩ (.slice pc nc cc)).setCell ⟨w1.heap.size,2,none⟩ (.slice pi ni ci)).setCell ⟨w1.heap.size,3,none⟩ (.int .i64 S.limit)).setCell ⟨w1.heap.size,4,none⟩ (.int .i64 S.parts)).setCell ⟨w1.heap.size,5,none⟩ (.int .i64 S.by_)).setCell ⟨w1.heap.size,6,none⟩ (.slice pl nl cl))=wE at *
    obtain ⟨m0,m1,m2,m3,m4,m5,m6⟩:=md_cells hk
    exact bodyPost_ret (v:=.tuple #[.agg #[.string S.name,.slice pc nc cc,.slice pi ni ci,.int .i64 S.limit,.int .i64 S.parts,.int .i64 S.by_,.slice pl nl cl],.int .i64 0]) zsZm rfl (⟨_,rws,by rw [updMd_4 z9se HFB.out HCB2.out,HMV.out],(HFIN.out _ hon).1,by rw [updMd_4 z9se HFB.out HCB2.out,HRM.out,HFI.out],(HFIN.out _ hon).2⟩)
theorem delMd_1 {S:SchV} {m:List (List AV)} {k:Key} (h:findM (kfS S) k m 0 < 0):delMd S m k=(m,8):=by unfold delMd;rw [if_pos h]
theorem delMd_2 {S:SchV} {m:List (List AV)} {k:Key} (h:¬ findM (kfS S) k m 0 < 0):delMd S m k=(withM (kfS S) m [] (findM (kfS S) k m 0) false,0):=by unfold delMd;rw [if_neg h]
theorem sl_none (w:World) (B:Nat→Prop) (sz:Nat):Sl w B sz (.slice none 0 0) 0 []:=⟨zPXO,Ones.nil,.inl ⟨none,0,rfl,rfl,zPXO,fun _=>rfl⟩⟩
theorem mdelete_any (w:World) (B:Nat→Prop) (S:SchV) (rv:Value) (rows:List RowV) (h:MdAt w B S rv rows) (hlen:rows.length≤1000) (k:Key) :
 Calls Tryz.prog 84 #[mdV S rv,.string (kb k)] w (MdOut w B S (delMd S (rows.map RowV.l) k)):=by
 have HFND:=Lib.hid (fun w4 (hb:Below w.heap.size w w4)=>mfind_any w4 B S rv rows (h.below hb) k)
 obtain ⟨kv,hkv⟩:∃ kv,kb k=kv:=⟨_,rfl⟩
 rw [hkv] at HFND ⊢
 clear hkv
 obtain ⟨fi,hfi⟩:∃ fi,findM (kfS S) k (rows.map RowV.l) 0=fi:=⟨_,rfl⟩
 rw [hfi] at HFND
 have HFI:=Lib.hid hfi
 have hti:=h.tight
 have HWIT:=Lib.hid (fun w4 (hb:Below w.heap.size w w4)=>mwith_any w4 (fun q=>B q∧q < w.heap.size) S rv rows (hti.below hb) hlen ⟨.slice none 0 0,[]⟩ (sl_none _ _ _) fi false (fun h=>by cases h))
 have HRA:=Lib.hid h.ra
 obtain ⟨⟨pc,nc,cc,hcv⟩,⟨pi,ni,ci,hiv⟩,⟨pr,cr,hrv,hcr1,hcr2⟩,hrf⟩:=h.forms
 have HRF:=Lib.hid hrf
 subst hrv
 have HCV:=Lib.hid hcv
 have HIV:=Lib.hid hiv
 simp only [mdV,hcv,hiv] at HFND HWIT
 rw [show mdV S (.slice pr rows.length cr)=.agg #[.string S.name,.slice pc nc cc,.slice pi ni ci,.int .i64 S.limit,.int .i64 S.parts,.int .i64 S.by_,.slice pr rows.length cr] by unfold mdV;rw [hcv,hiv]]
 have hal:=z0KE
 have hkm:=Blk.new w 34 [.string S.name,.slice pc nc cc,.slice pi ni ci,.int .i64 S.limit,.int .i64 S.parts,.int .i64 S.by_,.slice pr rows.length cr]
 obtain ⟨w1,hw1⟩:=zC8e
 rw [hw1] at hal
 have hkm:=zJ1I
 have HAL:=Lib.hid hal
 have HKM:=Lib.hid hkm
 obtain ⟨w2,hw2⟩:=zX17
 have hb12:=zXxX
 have hkz:=zTgR
 have HKM2:=Lib.hid (hkm.below hb12)
 have HKZ:=Lib.hid hkz
 have HB2:=Lib.hid (hal.trans (hb12.mono hal.size))
 have hzl:=zNTk
 have hzl0:=zi0R
 have HSAME:=Lib.hid (md_same (w1:=w1) HRA.out HB2.out hzl0)
 have HOTH:=Lib.hid (md_other (B:=B) HB2.out hzl0 hzl)
 have HB0:=ziR2
 have HMV:=zYQU
 clear h hti hrf hcv hiv hal hkm hkz hb12 hfi
 go_enter Tryz.func84,Tryz.ntmps84
 have HBX:=Lib.hid (Below.refl w2.heap.size w2)
 obtain ⟨x0,x1,x2,x3,x4,x5,x6⟩:=md_cells (HKM2.out.below HBX.out)
 have hlx:=(HKM2.out.below HBX.out).lt
 go_wp2_with fail
 clear hw1 hw2 x0 x1 x2 x3 x4 x5 x6
 refine (HFND.out w2 HB2.out).mono ?_
 rintro e w3 ⟨rfl,hb3⟩
 clear HBX
 have HBX:=Lib.hid hb3
 clear hb3 HFND
 by_cases hneg:fi < 0
 ·have HN:Hid (findM (kfS S) k (rows.map RowV.l) 0 < 0):=Lib.hid zz32
  have d1:decide (fi < 0)=true:=decide_eq_true hneg
  obtain ⟨x0,x1,x2,x3,x4,x5,x6⟩:=md_cells (HKM2.out.below HBX.out)
  have hlx:=(HKM2.out.below HBX.out).lt
  have hkz:=HKZ.out.below HBX.out
  have HZ:=Lib.hid hkz
  have zf:=zxiX
  have zl:=hkz.lt
  obtain ⟨z0,z1,z2,z3,z4,z5,z6⟩:=md_cells hkz
  clear hkz
  go_wp2
  obtain ⟨hk,hon⟩:=set_seven HZ.out (.string S.name) (.slice pc nc cc) (.slice pi ni ci) (.int .i64 S.limit) (.int .i64 S.parts) (.int .i64 S.by_) (.slice pr rows.length cr)
  generalize (((((((w3.setCell ⟨w1.heap.size,0,none⟩ (.string S.name)).setCell ⟨w1.heap.size,1,none⟩ (.slice pc nc cc)).setCell ⟨w1.heap.size,2,none⟩ (.slice pi ni ci)).setCell ⟨w1.heap.size,3,none⟩ (.int .i64 S.limit)).setCell ⟨w1.heap.size,4,none⟩ (.int .i64 S.parts)).setCell ⟨w1.heap.size,5,none⟩ (.int .i64 S.by_)).setCell ⟨w1.heap.size,6,none⟩ (.slice pr rows.length cr))=wE at *
  obtain ⟨m0,m1,m2,m3,m4,m5,m6⟩:=md_cells hk
  exact bodyPost_ret (v:=.tuple #[.agg #[.string S.name,.slice pc nc cc,.slice pi ni ci,.int .i64 S.limit,.int .i64 S.parts,.int .i64 S.by_,.slice pr rows.length cr],.int .i64 8]) zaSK rfl (⟨_,rows,by rw [delMd_1 HN.out,HMV.out],(HSAME.out _ HBX.out _ hon).1,by rw [delMd_1 HN.out],(HSAME.out _ HBX.out _ hon).2⟩)
 ·have HN:Hid (¬ findM (kfS S) k (rows.map RowV.l) 0 < 0):=Lib.hid zz32
  have d1:decide (fi < 0)=false:=decide_eq_false hneg
  obtain ⟨x0,x1,x2,x3,x4,x5,x6⟩:=md_cells (HKM2.out.below HBX.out)
  have hlx:=(HKM2.out.below HBX.out).lt
  have HWI:=Lib.hid (HWIT.out w3 (HB0.out _ HBX.out))
  clear HWIT
  go_wp2_with fail
  clear x0 x1 x2 x3 x4 x5 x6 hlx
  refine HWI.out.mono ?_
  rintro e w6 ⟨lv,rws,rfl,hra,hrm,hb6⟩
  obtain ⟨pl,cl,hlv,_,_⟩:=hra.1.form
  obtain ⟨nl,hnl⟩:=zo6F
  rw [hnl] at hlv
  subst hlv
  clear hnl
  have HRA5:=Lib.hid hra
  have HRM:=Lib.hid hrm
  have HFIN:=Lib.hid (HOTH.out w3 HBX.out w6 _ rws hra hb6)
  have hbx:=HBX.out.trans (hb6.mono HBX.out.size)
  clear HBX HWI
  have HBX:=Lib.hid hbx
  clear hb6 hbx hra hrm
  have hkz:=HKZ.out.below HBX.out
  have HZ:=Lib.hid hkz
  have zf:∀ i,w6.frozen? ⟨w1.heap.size,i,none⟩=false:=hkz.frozen
  have zl:=hkz.lt
  obtain ⟨z0,z1,z2,z3,z4,z5,z6⟩:=md_cells hkz
  clear hkz
  go_wp2
  obtain ⟨hk,hon⟩:=set_seven HZ.out (.string S.name) (.slice pc nc cc) (.slice pi ni ci) (.int .i64 S.limit) (.int .i64 S.parts) (.int .i64 S.by_) (.slice pl nl cl)
  generalize (((((((w6.setCell ⟨w1.heap.size,0,none⟩ (.string S.name)).setCell ⟨w1.heap.size,1,none⟩ (.slice pc nc cc)).setCell ⟨w1.heap.size,2,none⟩ (.slice pi ni ci)).setCell ⟨w1.heap.size,3,none⟩ (.int .i64 S.limit)).setCell ⟨w1.heap.size,4,none⟩ (.int .i64 S.parts)).setCell ⟨w1.heap.size,5,none⟩ (.int .i64 S.by_)).setCell ⟨w1.heap.size,6,none⟩ (.slice pl nl cl))=wE at *
  obtain ⟨m0,m1,m2,m3,m4,m5,m6⟩:=md_cells hk
  exact bodyPost_ret (v:=.tuple #[.agg #[.string S.name,.slice pc nc cc,.slice pi ni ci,.int .i64 S.limit,.int .i64 S.parts,.int .i64 S.by_,.slice pl nl cl],.int .i64 0]) zaSK rfl (⟨_,rws,by rw [delMd_2 z9se,HMV.out],(HFIN.out _ hon).1,by rw [delMd_2 z9se,HRM.out,HFI.out],(HFIN.out _ hon).2⟩)
theorem insMd_len (S:SchV) (m:List (List AV)) (row:List AV):(insMd S m row).1.length≤m.length+1:=by
 unfold insMd
 split
 ·simp
 ·split
  ·simp
  ·split
   ·simp
   ·simp [insM_len]
theorem insMd_ok {S:SchV} {m:List (List AV)} {row:List AV} (hm:∀ r∈m,RowOK S r) (hf:∀ a∈row,fit64 a.n):∀ r∈(insMd S m row).1,RowOK S r:=by
 unfold insMd
 split
 ·exact hm
 ·rename_i h1
  split
  ·exact hm
  ·split
   ·exact hm
   ·intro r hr
    rcases (mem_insM (kfS S) row m r).1 hr with rfl|hr
    ·exact ⟨zVKw,hf⟩
    ·exact hm r hr
structure LdSt (w3:World) (b2:Nat) (S:SchV) (Bq:Nat→Prop) (lv:Value) (rws:List RowV) (wr:World):Prop where
 blk:Blk wr b2 34 (mdC S lv)
 ra:RowsAt wr Bq lv rws
 ok:∀ r∈rws,RowOK S r.l
 only:Only (fun q=>q=b2) w3 wr
theorem ld_b1 {P:Prop} {n a b q:Nat} (h1:n≤a) (h2:a≤b) (h:((P∨n≤q)∧q < a)∨b≤q):P∨n≤q:=by
 rcases h with ⟨h,_⟩|h
 ·exact h
 ·exact .inr zTbe
theorem ld_b2 {P:Prop} {a b q:Nat} (h2:a < b) (h:(P∧q < a)∨b≤q):q≠a:=by
 rcases h with ⟨_,h⟩|h<;>omega
theorem agree2_alloc {a b:Nat} {w:World} (o:Obj) (ha:a < w.heap.size) (hb:b < w.heap.size):Agree (fun q=>q=a∨q=b) w (w.alloc o):=agree_alloc o fun k hk=>by rcases hk with rfl|rfl<;>assumption
theorem agree2_below {a b n:Nat} {w w':World} (h:Below n w w') (ha:a < n) (hb:b < n):Agree (fun q=>q=a∨q=b) w w':=fun q o hq=>h.cell zcbp
theorem mload_any (w:World) (B:Nat→Prop) (S:SchV) (rv:Value) (rows:List RowV) (h:MdAt w B S rv rows) (v2:Value) (rows2:List RowV) (hr2:RowsAt w B v2 rows2) (hl2:rows2.length≤1000) (hf2:∀ r∈rows2,∀ a∈r.l,fit64 a.n) :
 Calls Tryz.prog 85 #[mdV S rv,v2] w (MdOut w B S (loadMd S (rows2.map RowV.l))):=by
 obtain ⟨p2,c2,hv2,hc21,hc22⟩:=hr2.1.form
 subst hv2
 have HF2:=Lib.hid hf2
 have HR2:=Lib.hid hr2
 have HSC:=Lib.hid h.sch
 have HRI:=Lib.hid h.right
 obtain ⟨⟨pc,nc,cc,hcv⟩,⟨pi,ni,ci,hiv⟩,⟨pr,cr,hrv,hcr1,hcr2⟩,hrf⟩:=h.forms
 have HRF:=Lib.hid hrf
 subst hrv
 have HCV:=Lib.hid hcv
 have HIV:=Lib.hid hiv
 have HRF2:Hid (∀ r∈rows2,∃ p n c,r.v=.slice p n c):=Lib.hid fun r hr=>by
  obtain ⟨p,c,h1,_⟩:=(HR2.out.2 r hr).form
  exact ⟨p,_,c,h1⟩
 have HMV:=zYQU
 have HMC:=zVSb
 rw [show mdV S (.slice pr rows.length cr)=.agg #[.string S.name,.slice pc nc cc,.slice pi ni ci,.int .i64 S.limit,.int .i64 S.parts,.int .i64 S.by_,.slice pr rows.length cr] by unfold mdV;rw [hcv,hiv]]
 obtain ⟨fm,hfm⟩:∃ fm,loadMd S (rows2.map RowV.l)=fm:=⟨_,rfl⟩
 rw [hfm]
 have HFM:Hid (loadGo S [] (rows2.map RowV.l)=fm):=hfm
 have hal:=z0KE
 have hkm:=Blk.new w 34 [.string S.name,.slice pc nc cc,.slice pi ni ci,.int .i64 S.limit,.int .i64 S.parts,.int .i64 S.by_,.slice pr rows.length cr]
 obtain ⟨w1,hw1⟩:=zC8e
 rw [hw1] at hal
 have hkm:=zJ1I
 have HAL:=Lib.hid hal
 have HKM:=Lib.hid hkm
 obtain ⟨w2,hw2⟩:=zX17
 have hb12:=zXxX
 have hkz:=zTgR
 have HKM2:=Lib.hid (hkm.below hb12)
 have HKZ:=Lib.hid hkz
 have HB2:=Lib.hid (hal.trans (hb12.mono hal.size))
 have hzl:=zNTk
 have hzl0:=zi0R
 obtain ⟨w3,hw3⟩:∃ w3,w2.alloc (.cells #[.string S.name,.slice pc nc cc,.slice pi ni ci,.int .i64 S.limit,.int .i64 S.parts,.int .i64 S.by_,.slice none 0 0] 34)=w3:=⟨_,rfl⟩
 have hb23:=zUeY
 have ho3:Blk w3 w2.heap.size 34 (mdC S (.slice none 0 0)):=by rw [HMC.out,←hw3];exact Blk.new w2 _ _
 have hzl3:w2.heap.size+1≤w3.heap.size:=ho3.lt
 have HB23:=Lib.hid hb23
 have HO3:=Lib.hid ho3
 have HKM3:=Lib.hid (HKM2.out.below hb23)
 have HKZ3:=Lib.hid (HKZ.out.below hb23)
 have hz2:=HB2.out.size
 have HBW:Hid (∀ wr,Only (fun q=>q=w2.heap.size) w3 wr→Below w.heap.size w wr):=Lib.hid fun wr ho=>(HB2.out.trans (HB23.out.mono HB2.out.size)).trans (ho.below zTbe (fun q hq=>zTbe))
 have HW3:Hid (LdSt w3 w2.heap.size S (fun q=>(B q∧q < w.heap.size)∨w3.heap.size≤q) (.slice none 0 0) [] w3):=Lib.hid ⟨HO3.out,⟨sl_none _ _ _,fun r hr=>absurd hr zPXO⟩,fun r hr=>absurd hr zPXO,Only.refl _ _⟩
 have HMD:Hid (∀ lv rws wr,LdSt w3 w2.heap.size S (fun q=>(B q∧q < w.heap.size)∨w3.heap.size≤q) lv rws wr→MdAt wr (fun q=>((B q∧q < w.heap.size)∨w3.heap.size≤q)∧q < wr.heap.size) S lv rws):=Lib.hid fun lv rws wr hst=>by
  have hbw:=HBW.out wr hst.only
  exact MdAt.tight ⟨HSC.out.to hbw.size (fun k _ hl=>hbw.block k hl) (fun k hk hl=>.inl ⟨hk,hl⟩),HRI.out,hst.ra,hst.ok⟩
 have HROW:Hid (∀ wr,Only (fun q=>q=w2.heap.size) w3 wr→∀ r∈rows2,Sl wr (fun q=>((B q∧q < w.heap.size)∨w3.heap.size≤q)∧q < wr.heap.size) 3 r.v r.l.length (rowCells r.l)):=Lib.hid fun wr ho r hr=>by
  have hbw:=HBW.out wr ho
  exact (HR2.out.2 r hr).mono hbw.size (fun k _ hl=>hbw.block k hl) (fun k hk hl=>⟨.inl ⟨hk,hl⟩,by have:=hbw.size;omega⟩)
 have HW3E:=Lib.hid hw3
 clear h hrf hcv hiv hal hkm hkz hb12 hfm hr2 hf2 hb23 ho3 hw3
 go_enter Tryz.func85,Tryz.ntmps85
 have HBX:=Lib.hid (Below.refl w2.heap.size w2)
 obtain ⟨x0,x1,x2,x3,x4,x5,x6⟩:=md_cells (HKM2.out.below HBX.out)
 have hlx:=(HKM2.out.below HBX.out).lt
 go_wp2
 rw [HW3E.out]
 clear hw1 hw2 x0 x1 x2 x3 x4 x5 x6 hlx HBX
 go_loopw [7] (fun i wr=>∃ (j:Nat) (lv:Value) (rws:List RowV),i=.int .i64 j∧j≤rows2.length∧rws.length≤j∧LdSt w3 w2.heap.size S (fun q=>(B q∧q < w.heap.size)∨w3.heap.size≤q) lv rws wr∧loadGo S (rws.map RowV.l) ((rows2.drop j).map RowV.l)=fm) (fun i _=>rows2.length - (intOf i).toNat)
 case atStart=>exact ⟨0,_,[],rfl,Nat.zero_le _,Nat.le_refl _,HW3.out,HFM.out⟩
 case round =>
  obtain ⟨j,lv,rws,rfl,hj,hlj,hst,hlg⟩:=hrel
  have HST:=Lib.hid hst
  obtain ⟨pl,cl,hlv,_,_⟩:=hst.ra.1.form
  obtain ⟨nl,hnl⟩:=zo6F
  rw [hnl] at hlv
  subst hlv
  have hbw:=HBW.out _ hst.only
  have HBWR:=Lib.hid hbw
  obtain ⟨y0,y1,y2,y3,y4,y5,y6⟩:=md_cells (HMC.out _▸hst.blk)
  have hly:=hst.blk.lt
  have hsz:=hst.only.size
  by_cases hjl:j < rows2.length
  ·obtain ⟨gr,or_,cpr,hvr,ek⟩:=(HR2.out.below hbw).at hjl
   cases hvr
   have hgr:=World.block_lt_of_cell? _ _ ek
   have hmk:rows2[j]∈rows2:=List.getElem_mem hjl
   obtain ⟨px,nx,cx,hxv⟩:=HRF2.out _ hmk
   have HROWJ:=Lib.hid (HROW.out _ hst.only _ hmk)
   have HF:=Lib.hid (HF2.out _ hmk)
   have HMDJ:=Lib.hid (HMD.out _ _ _ hst)
   rw [hxv] at ek
   rw [List.drop_eq_getElem_cons hjl,List.map_cons,loadGo] at hlg
   have HXV:=Lib.hid hxv
   generalize rows2[j]=rj at *
   have HIN:Hid (∀ w4,Below wr.heap.size wr w4→Calls Tryz.prog 82 #[mdV S (.slice pl nl cl),rj.v] w4 (MdOut w4 (fun q=>((B q∧q < w.heap.size)∨w3.heap.size≤q)∧q < wr.heap.size) S (insMd S (rws.map RowV.l) rj.l))):=Lib.hid fun w4 hb=>minsert_any w4 _ S _ rws (HMDJ.out.below hb) zTbe rj (HROWJ.out.below hb) HF.out
   rw [HMV.out,HXV.out] at HIN
   have hmo:=insMd_len S (rws.map RowV.l) rj.l
   have hmk2:=insMd_ok (S:=S) (m:=rws.map RowV.l) (row:=rj.l) (fun r hr=>by obtain ⟨x,hx,rfl⟩:=List.mem_map.1 hr;exact hst.ok x hx) HF.out
   rw [List.length_map,hnl] at hmo
   generalize insMd S (rws.map RowV.l) rj.l=mo at *
   obtain ⟨mo,code⟩:=mo
   simp only at hlg hmo hmk2
   have HLG:=Lib.hid hlg
   have HMK:=Lib.hid hmk2
   have HMO:=Lib.hid hmo
   have HNL:=Lib.hid hnl
   clear hst hbw hlg hmk hxv hmo hmk2 hnl
   go_upto_region 5 with fail
   go_cut [8,9] (fun t8 t9 wc=>t9=.int .i64 code∧∃ b8 lv2 rws2,t8=.pointer (some ⟨b8,0,none⟩)∧Blk wc b8 34 (mdC S lv2)∧RowsAt wc (fun q=>((B q∧q < w.heap.size)∨w3.heap.size≤q)∧q≠b8) lv2 rws2∧rws2.map RowV.l=mo∧wr.heap.size≤b8∧Below wr.heap.size wr wc)
   case first =>
    have d0:wr.drew.cell? ⟨w2.heap.size,0,none⟩=some (.string S.name):=y0
    have d1:wr.drew.cell? ⟨w2.heap.size,1,none⟩=some (.slice pc nc cc):=y1
    have d2:wr.drew.cell? ⟨w2.heap.size,2,none⟩=some (.slice pi ni ci):=y2
    have d3:wr.drew.cell? ⟨w2.heap.size,3,none⟩=some (.int .i64 S.limit):=y3
    have d4:wr.drew.cell? ⟨w2.heap.size,4,none⟩=some (.int .i64 S.parts):=y4
    have d5:wr.drew.cell? ⟨w2.heap.size,5,none⟩=some (.int .i64 S.by_):=y5
    have d6:wr.drew.cell? ⟨w2.heap.size,6,none⟩=some (.slice pl nl cl):=y6
    have dek:=zk1i
    have hd:Below wr.heap.size wr wr.drew:=(Below.refl _ _).drew
    have ha:=zRAR
    have H1:=Lib.hid (HIN.out _ hd)
    have H2:=Lib.hid (HIN.out _ ha)
    have hag0:Agree (fun q=>q=w2.heap.size∨q=gr) wr.drew (wr.alloc (.cells #[.string ⟨#[]⟩,.slice none 0 0,.slice none 0 0,.int .i64 0,.int .i64 0,.int .i64 0,.slice none 0 0] 34)).drew:=agree2_alloc (w:=wr) _ hly hgr
    have HD:=Lib.hid hd
    have HA:=Lib.hid ha
    have HZD:=Lib.hid hd.size
    have HZA:=zYYc
    have HKB:=z062
    clear hd ha HIN y0 y1 y2 y3 y4 y5 y6 ek
    refine wp_region_lit_plans [5,6,7,8,9,10] [[(1,0),(2,0),(3,0),(0,2),(4,2),(5,4),(6,0),(7,0),(8,0),(9,3),(10,4),(11,0)],[(1,0),(2,0),(3,0),(0,2),(4,2),(5,4),(6,0),(7,0),(9,3),(8,0),(10,4),(11,0)],[(1,0),(2,0),(3,0),(0,2),(4,2),(5,4),(6,0),(7,0),(9,3),(10,4),(8,0),(11,0)],[(1,0),(2,0),(3,0),(0,2),(4,2),(5,4),(6,0),(8,0),(7,0),(9,3),(10,4),(11,0)],[(1,0),(2,0),(3,0),(0,2),(4,2),(5,4),(6,0),(8,0),(9,3),(7,0),(10,4),(11,0)],[(1,0),(2,0),(3,0),(0,2),(4,2),(5,4),(6,0),(9,3),(7,0),(8,0),(10,4),(11,0)],[(1,0),(2,0),(3,0),(0,2),(4,2),(5,4),(6,0),(9,3),(7,0),(10,4),(8,0),(11,0)],[(1,0),(2,0),(3,0),(0,2),(4,2),(5,4),(6,0),(9,3),(8,0),(7,0),(10,4),(11,0)],[(1,0),(2,0),(3,0),(0,2),(4,2),(5,4),(9,3),(6,0),(7,0),(8,0),(10,4),(11,0)],[(1,0),(2,0),(3,0),(0,2),(4,2),(5,4),(9,3),(6,0),(7,0),(10,4),(8,0),(11,0)],[(1,0),(2,0),(3,0),(0,2),(4,2),(5,4),(9,3),(6,0),(8,0),(7,0),(10,4),(11,0)],[(1,0),(2,0),(3,0),(0,2),(4,2),(9,3),(5,4),(6,0),(7,0),(8,0),(10,4),(11,0)],[(1,0),(2,0),(3,0),(0,2),(4,2),(9,3),(5,4),(6,0),(7,0),(10,4),(8,0),(11,0)],[(1,0),(2,0),(3,0),(0,2),(4,2),(9,3),(5,4),(6,0),(8,0),(7,0),(10,4),(11,0)]] (fun q=>q=w2.heap.size∨q=gr) zyVB zyVB (fun c a d v w h=>zx0I) ?_;refine ⟨?_,?_,?_,?_,?_,?_,?_,?_,?_,?_,?_,?_,?_,?_,trivial⟩
    all_goals
     go_wp2_with (first
      | (refine stp ?_)
      | (go_at_call 82;(with_reducible refine H1.out.mono ?_);rintro e w5 ⟨lv2,rws2,rfl,hra,hrm,hb5⟩;obtain ⟨p5,c5,hlv5,_,_⟩:=hra.1.form;obtain ⟨n5,hn5⟩:∃ n5,rws2.length=n5:=⟨_,rfl⟩;rw [hn5] at hlv5;subst hlv5;rw [HMV.out];have HRA5:=Lib.hid hra;have HRM5:=Lib.hid hrm;have hag5:=agree2_alloc (w:=w5) (.cells #[.string ⟨#[]⟩,.slice none 0 0,.slice none 0 0,.int .i64 0,.int .i64 0,.int .i64 0,.slice none 0 0] 34) (Nat.lt_of_lt_of_le hly (HD.out.trans (Below.mono hb5 HD.out.size)).size) (Nat.lt_of_lt_of_le hgr (HD.out.trans (Below.mono hb5 HD.out.size)).size);have HB5:=Lib.hid (HD.out.trans (hb5.mono HD.out.size));clear hra hrm hb5 hn5 H2 HKB)
      | (go_at_call 82;(with_reducible refine H2.out.mono ?_);rintro e w5 ⟨lv2,rws2,rfl,hra,hrm,hb5⟩;obtain ⟨p5,c5,hlv5,_,_⟩:=hra.1.form;obtain ⟨n5,hn5⟩:∃ n5,rws2.length=n5:=⟨_,rfl⟩;rw [hn5] at hlv5;subst hlv5;rw [HMV.out];have hkb:=HKB.out.below hb5;have HK5:=Lib.hid hkb;obtain ⟨z0,z1,z2,z3,z4,z5,z6⟩:=md_cells hkb;have zf:∀ i,w5.frozen? ⟨wr.heap.size,i,none⟩=false:=hkb.frozen;have HRA5:=Lib.hid hra;have HRM5:=Lib.hid hrm;have hag5:=agree2_below hb5 (Nat.lt_trans hly HZA.out) (Nat.lt_trans hgr HZA.out);have HB5:=Lib.hid (HA.out.trans (hb5.mono HA.out.size));clear hra hrm hb5 hn5 hkb H1))
     go_meet
     first
      | (have hk5:=HK5.out
         clear hk5
         obtain ⟨hk,hon⟩:=set_seven HK5.out (.string S.name) (.slice pc nc cc) (.slice pi ni ci) (.int .i64 S.limit) (.int .i64 S.parts) (.int .i64 S.by_) (.slice p5 n5 c5)
         generalize (((((((w5.setCell ⟨wr.heap.size,0,none⟩ (.string S.name)).setCell ⟨wr.heap.size,1,none⟩ (.slice pc nc cc)).setCell ⟨wr.heap.size,2,none⟩ (.slice pi ni ci)).setCell ⟨wr.heap.size,3,none⟩ (.int .i64 S.limit)).setCell ⟨wr.heap.size,4,none⟩ (.int .i64 S.parts)).setCell ⟨wr.heap.size,5,none⟩ (.int .i64 S.by_)).setCell ⟨wr.heap.size,6,none⟩ (.slice p5 n5 c5))=wE at *
         exact ⟨rfl,wr.heap.size,.slice p5 n5 c5,rws2,rfl,zR0f,HRA5.out.to hon.size (fun k hk hl=>hon.block k hl (ld_b2 HZA.out hk)) (fun k hk hl=>⟨ld_b1 hsz (Nat.le_of_lt HZA.out) hk,ld_b2 HZA.out hk⟩),HRM5.out,Nat.le_refl _,HB5.out.trans (hon.below HB5.out.size (fun q hq=>zTbe))⟩)
      | skip
     all_goals
      have hal5:Below w5.heap.size w5 (w5.alloc (.cells #[.string S.name,.slice pc nc cc,.slice pi ni ci,.int .i64 S.limit,.int .i64 S.parts,.int .i64 S.by_,.slice p5 n5 c5] 34)):=(Below.refl _ _).alloc (Nat.le_refl _) _
      have hw5:=HB5.out.size
      exact ⟨rfl,w5.heap.size,.slice p5 n5 c5,rws2,rfl,by rw [HMC.out];exact Blk.new w5 _ _,HRA5.out.to hal5.size (fun k _ hl=>hal5.block k hl) (fun k hk hl=>⟨ld_b1 hsz HZD.out hk,zTbe⟩),HRM5.out,hw5,HB5.out.trans (hal5.mono hw5)⟩
   case rest =>
    obtain ⟨rfl,b8,lv2,rws2,rfl,hk8,hra8,hrm8,hb8,hbw8⟩:=hcut
    obtain ⟨p8,c8,hlv8,_,_⟩:=hra8.1.form
    obtain ⟨n8,hn8⟩:∃ n8,rws2.length=n8:=⟨_,rfl⟩
    rw [hn8] at hlv8
    subst hlv8
    have HN8:=Lib.hid hn8
    have HRA8:=Lib.hid hra8
    have HRM8:=Lib.hid hrm8
    have HBW8:=Lib.hid hbw8
    have HOW:Hid (Only (fun q=>q=w2.heap.size) w3 wc):=Lib.hid (HST.out.only.trans (Only.of_none (S:=fun _=>False) hbw8) (fun _ _ h=>h.elim))
    have hkz:=(HKZ3.out.only HOW.out zTbe)
    have hkm:=(HKM3.out.only HOW.out zTbe)
    have HKO:=Lib.hid (HST.out.blk.below hbw8)
    by_cases hc0:code=0
    ·have HC0:=Lib.hid hc0
     subst hc0
     have hko:=(HMC.out _▸HKO.out:Blk wc w2.heap.size 34 [.string S.name,.slice pc nc cc,.slice pi ni ci,.int .i64 S.limit,.int .i64 S.parts,.int .i64 S.by_,.slice pl nl cl])
     have HKO2:=Lib.hid hko
     obtain ⟨x0,x1,x2,x3,x4,x5,x6⟩:=md_cells (HMC.out _▸hk8)
     obtain ⟨z0,z1,z2,z3,z4,z5,z6⟩:=md_cells hko
     have zf:∀ i,wc.frozen? ⟨w2.heap.size,i,none⟩=false:=hko.frozen
     have zl:=hko.lt
     clear hk8 hra8 hrm8 hbw8 hkz hkm hko hn8 y0 y1 y2 y3 y4 y5 y6
     go_wp2
     obtain ⟨hk,hon⟩:=set_seven HKO2.out (.string S.name) (.slice pc nc cc) (.slice pi ni ci) (.int .i64 S.limit) (.int .i64 S.parts) (.int .i64 S.by_) (.slice p8 n8 c8)
     generalize (((((((wc.setCell ⟨w2.heap.size,0,none⟩ (.string S.name)).setCell ⟨w2.heap.size,1,none⟩ (.slice pc nc cc)).setCell ⟨w2.heap.size,2,none⟩ (.slice pi ni ci)).setCell ⟨w2.heap.size,3,none⟩ (.int .i64 S.limit)).setCell ⟨w2.heap.size,4,none⟩ (.int .i64 S.parts)).setCell ⟨w2.heap.size,5,none⟩ (.int .i64 S.by_)).setCell ⟨w2.heap.size,6,none⟩ (.slice p8 n8 c8))=wE at *
     have HKE:=Lib.hid hk
     have HON:=Lib.hid hon
     clear hk hon z0 z1 z2 z3 z4 z5 z6 zf zl x0 x1 x2 x3 x4 x5 x6
     go_roundw
     case rel =>
      refine ⟨j+1,_,rws2,z3KH,zTbe,?_,⟨by rw [HMC.out];exact HKE.out,HRA8.out.to HON.out.size (fun k hk hl=>HON.out.block k hl ?_) (fun k hk _=>hk.1),?_,HOW.out.trans HON.out (fun _ _ h=>h)⟩,?_⟩
      ·have:=HMO.out
       have h2:=congrArg List.length HRM8.out
       rw [List.length_map] at h2
       have:=HNL.out
       omega
      ·rcases hk with ⟨⟨_,hk⟩|hk,_⟩<;>omega
      ·intro r hr
       exact HMK.out r.l (by rw [←HRM8.out];exact List.mem_map_of_mem hr)
      ·rw [HRM8.out,←HLG.out];simp
     case measure=>(simp [intOf])<;>omega
    ·have e0:(code == 0)=false:=beq_eq_false_iff_ne.2 hc0
     have e1:(code != 0)=true:=by rw [bne,e0];rfl
     have HC0:=Lib.hid hc0
     have HZ:=Lib.hid hkz
     obtain ⟨x0,x1,x2,x3,x4,x5,x6⟩:=md_cells hkm
     obtain ⟨z0,z1,z2,z3,z4,z5,z6⟩:=md_cells hkz
     have zf:∀ i,wc.frozen? ⟨w1.heap.size,i,none⟩=false:=hkz.frozen
     have zl:=hkz.lt
     clear hc0 hk8 hra8 hrm8 hbw8 hkz hkm hn8 y0 y1 y2 y3 y4 y5 y6
     go_wp2
     obtain ⟨hk,hon⟩:=set_seven HZ.out (.string S.name) (.slice pc nc cc) (.slice pi ni ci) (.int .i64 S.limit) (.int .i64 S.parts) (.int .i64 S.by_) (.slice none 0 0)
     generalize (((((((wc.setCell ⟨w1.heap.size,0,none⟩ (.string S.name)).setCell ⟨w1.heap.size,1,none⟩ (.slice pc nc cc)).setCell ⟨w1.heap.size,2,none⟩ (.slice pi ni ci)).setCell ⟨w1.heap.size,3,none⟩ (.int .i64 S.limit)).setCell ⟨w1.heap.size,4,none⟩ (.int .i64 S.parts)).setCell ⟨w1.heap.size,5,none⟩ (.int .i64 S.by_)).setCell ⟨w1.heap.size,6,none⟩ (.slice none 0 0))=wE at *
     obtain ⟨m0,m1,m2,m3,m4,m5,m6⟩:=md_cells hk
     have hfm:fm=([],code):=by rw [←HLG.out,if_pos HC0.out]
     have hbE:=(HBW.out _ HOW.out).trans (hon.below (HBW.out _ HOW.out).size (fun q hq=>zTbe))
     exact bodyPost_ret (v:=.tuple #[.agg #[.string S.name,.slice pc nc cc,.slice pi ni ci,.int .i64 S.limit,.int .i64 S.parts,.int .i64 S.by_,.slice none 0 0],.int .i64 code]) z8hY rfl ⟨_,[],by rw [hfm,HMV.out],⟨sl_none _ _ _,fun r hr=>by cases hr⟩,by rw [hfm];rfl,hbE⟩
  ·obtain rfl:j=rows2.length:=by omega
   rw [List.drop_length] at hlg
   have hfm:fm=(rws.map RowV.l,0):=hlg.symm
   have HFE:=Lib.hid hfm
   have hkz:=(HKZ3.out.only hst.only zTbe)
   have HZ:=Lib.hid hkz
   obtain ⟨z0,z1,z2,z3,z4,z5,z6⟩:=md_cells hkz
   have zf:∀ i,wr.frozen? ⟨w1.heap.size,i,none⟩=false:=hkz.frozen
   have zl:=hkz.lt
   clear hst hbw hlg hfm hkz hnl
   go_wp2
   obtain ⟨hk,hon⟩:=set_seven HZ.out (.string S.name) (.slice pc nc cc) (.slice pi ni ci) (.int .i64 S.limit) (.int .i64 S.parts) (.int .i64 S.by_) (.slice pl nl cl)
   generalize (((((((wr.setCell ⟨w1.heap.size,0,none⟩ (.string S.name)).setCell ⟨w1.heap.size,1,none⟩ (.slice pc nc cc)).setCell ⟨w1.heap.size,2,none⟩ (.slice pi ni ci)).setCell ⟨w1.heap.size,3,none⟩ (.int .i64 S.limit)).setCell ⟨w1.heap.size,4,none⟩ (.int .i64 S.parts)).setCell ⟨w1.heap.size,5,none⟩ (.int .i64 S.by_)).setCell ⟨w1.heap.size,6,none⟩ (.slice pl nl cl))=wE at *
   obtain ⟨m0,m1,m2,m3,m4,m5,m6⟩:=md_cells hk
   have hbE:=HBWR.out.trans (hon.below HBWR.out.size (fun q hq=>zTbe))
   exact bodyPost_ret (v:=.tuple #[.agg #[.string S.name,.slice pc nc cc,.slice pi ni ci,.int .i64 S.limit,.int .i64 S.parts,.int .i64 S.by_,.slice pl nl cl],.int .i64 0]) z8hY rfl ⟨_,rws,by rw [HFE.out,HMV.out],HST.out.ra.to hon.size (fun k hk hl=>hon.block k hl (by rcases hk with ⟨_,hk⟩|hk<;>omega)) (fun k hk _=>by
    rcases hk with ⟨hk,_⟩|hk
    ·exact .inl hk
    ·exact .inr zTbe),by rw [HFE.out],hbE⟩
theorem insBy_at {α:Type} (kf:Nat→α→Key) (i:Nat) (row:α):∀ (l:List α) (p:Nat),p≤l.length→(∀ k,∀ h:k < l.length,k < p→Op.bytesLess (kf i l[k]) (kf i row)=true)→(∀ h:p < l.length,Op.bytesLess (kf i l[p]) (kf i row)=false)→insBy kf i row l=l.take p++row::l.drop p
 | [],p,_,_,_=>by simp [insBy]
 | x::t,0,_,_,h=>by
  have h1:=h zPXO
  simp only [List.getElem_cons_zero] at h1
  rw [insBy,if_neg (by rw [h1];simp)]
  rfl
 | x::t,p+1,hp,h1,h2=>by
  have h3:=h1 0 zPXO zTbe
  simp only [List.getElem_cons_zero] at h3
  rw [insBy,if_pos h3,insBy_at kf i row t p (by simpa using hp) (fun k hk hkp=>h1 (k+1) zFJU zTbe) (fun hk=>h2 zFJU)]
  rfl
theorem shift_set {α:Type} (l:List α) (x:α) (k1:Nat) (h:k1 < l.length):(l.take (k1+1)++x::l.drop (k1+1)).set (k1+1) l[k1]=l.take k1++l[k1]::l.drop k1:=by
 have h1:(l.take (k1+1)).length=k1+1:=z2Pg
 rw [List.set_append_right _ _ zTbe,h1,Nat.sub_self,List.set_cons_zero,List.drop_eq_getElem_cons h,←List.take_append_getElem h,List.append_assoc]
 rfl
theorem put_set {α:Type} (l:List α) (x y:α) (k:Nat) (h:k≤l.length):(l.take k++x::l.drop k).set k y=l.take k++y::l.drop k:=by
 have h1:(l.take k).length=k:=z2Pg
 rw [List.set_append_right _ _ zTbe,h1,Nat.sub_self,List.set_cons_zero]
theorem at_take {α:Type} (l:List α) (x:α) (k1:Nat) (h:k1 < l.length):(l.take (k1+1)++x::l.drop (k1+1))[k1]?=some l[k1]:=by
 rw [List.getElem?_append_left z2Pg,List.getElem?_take_of_lt zTbe,List.getElem?_eq_getElem h]
theorem at_mid {α:Type} (l:List α) (x:α) (k:Nat) (h:k≤l.length):(l.take k++x::l.drop k)[k]?=some x:=by
 have h1:(l.take k).length=k:=z2Pg
 rw [List.getElem?_append_right zTbe,h1,Nat.sub_self]
 rfl
theorem rowVals_put (l:List RowV) (r:RowV) (p:Nat):(rowVals l).take p++r.v::(rowVals l).drop p=rowVals (l.take p++r::l.drop p):=by
 unfold rowVals;simp
theorem by_put (l:List RowV) (r:RowV) (p:Nat):(l.take p++r::l.drop p).map RowV.l=(l.map RowV.l).take p++r.l::(l.map RowV.l).drop p:=zPXO
end Go.Proofs.YteggkjdlajgenaaGreatDoor
