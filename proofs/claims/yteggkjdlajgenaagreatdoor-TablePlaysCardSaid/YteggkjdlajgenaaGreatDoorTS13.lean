/- Contracts of the functions that the statement reaches, one behind the other. No condition beyond each theorem's own. -/
import Derived.Test.YteggkjdlajgenaaGreatDoorTS6
set_option linter.unusedSimpArgs false
set_option linter.unusedVariables false
set_option maxRecDepth 100000
set_option maxHeartbeats 4000000
theorem zt2q {P:Prop} (h:P:=by
 go_enter Tryz.func41,Tryz.ntmps41
 go_wp2
 go_ret
 exact ⟨rfl,HB.out⟩
 ):P:=h
namespace Go.Proofs.YteggkjdlajgenaaGreatDoor
open Go.RowKit Go.Afx
theorem same_row (w:World) (B B':Nat→Prop) (v v':Value) (l:List AV) (h:Sl w B 3 v l.length (rowCells l)) (h':Sl w B' 3 v' l.length (rowCells l)) :
 Calls Tryz.prog 19 #[v,v'] w fun e w'=>e=.returned (.bool true)∧Below w.heap.size w w':=by
 obtain ⟨p,cap,rfl,hc1,hc2⟩:=h.form
 obtain ⟨p',cap',rfl,hc1',hc2'⟩:=h'.form
 have H:=Lib.hid h
 have H':=Lib.hid h'
 clear h h'
 go_enter Tryz.func19,Tryz.ntmps19
 go_wp2
 go_loopw [5] (fun i wr=>∃ k:Nat,i=.int .i64 k∧k≤l.length∧Below w.heap.size w wr) (fun i _=>l.length - (intOf i).toNat)
 case atStart=>exact ⟨0,rfl,Nat.zero_le _,Below.refl _ _⟩
 case round =>
  obtain ⟨k,rfl,hk,hb⟩:=hrel
  have HB:=Lib.hid hb
  by_cases hka:k < l.length
  ·obtain ⟨g,off,cap1,hv,hg,e0,e1,e2⟩:=sl_av (H.out.below hb) hka
   obtain ⟨g',off',cap1',hv',hg',e0',e1',e2'⟩:=sl_av (H'.out.below hb) hka
   cases hv
   cases hv'
   clear hb
   generalize l[k]=x at *
   go_wp2
   refine wp_region_lit_plan [] [(0,0),(1,0),(2,0),(4,0),(5,0),(6,0),(3,1),(7,1),(8,0)] (fun _=>False) zyVB zyVB (fun c a d v w h=>zx0I) ?_
   go_wp2_with (first
    | (refine stp ?_))
   exact ⟨⟨k+1,z3KH,zTbe,HB.out.drew⟩,zQOc⟩
  ·obtain rfl:k=l.length:=by omega
   clear hb
   go_wp2
   go_ret
   exact ⟨rfl,HB.out⟩
theorem same_rows (w:World) (B B':Nat→Prop) (v v':Value) (rows rows':List RowV) (h:RowsAt w B v rows) (h':RowsAt w B' v' rows') (he:rows.map RowV.l=rows'.map RowV.l) :
 Calls Tryz.prog 24 #[v,v'] w fun e w'=>e=.returned (.bool true)∧Below w.heap.size w w':=by
 obtain ⟨p,cap,rfl,hc1,hc2⟩:=h.1.form
 obtain ⟨p',cap',rfl,hc1',hc2'⟩:=h'.1.form
 have hl:rows'.length=rows.length:=by have:=congrArg List.length he;simpa using this.symm
 have hel:∀ k (h1:k < rows.length) (h2:k < rows'.length),rows'[k].l=rows[k].l:=fun k h1 h2=>by
  have:=congrArg (fun x:List (List AV)=>x[k]?) he
  simp [h1,h2] at this
  exact this.symm
 have H:=Lib.hid h
 have H':=Lib.hid h'
 have HEL:=Lib.hid hel
 have HL:=Lib.hid hl
 clear h h' he hel
 rw [hl]
 clear hl
 go_enter Tryz.func24,Tryz.ntmps24
 go_wp2
 go_loopw [5] (fun i wr=>∃ k:Nat,i=.int .i64 k∧k≤rows.length∧Below w.heap.size w wr) (fun i _=>rows.length - (intOf i).toNat)
 case atStart=>exact ⟨0,rfl,Nat.zero_le _,Below.refl _ _⟩
 case round =>
  obtain ⟨k,rfl,hk,hb⟩:=hrel
  have HB:=Lib.hid hb
  by_cases hka:k < rows.length
  ·have hka':k < rows'.length:=by rw [HL.out];exact hka
   obtain ⟨g,off,cap1,hv,hck⟩:=(H.out.below hb).at hka
   obtain ⟨g',off',cap1',hv',hck'⟩:=(H'.out.below hb).at hka'
   have hr:=(H.out.below hb).2 rows[k] (List.getElem_mem hka)
   have hr':=(H'.out.below hb).2 rows'[k] (List.getElem_mem hka')
   have e1:=HEL.out k hka hka'
   cases hv
   rw [HL.out] at hv'
   cases hv'
   generalize rows[k]=x at *
   generalize rows'[k]=x' at *
   obtain ⟨xv,xl⟩:=x
   obtain ⟨xv',xl'⟩:=x'
   have e2:xl'=xl:=e1
   subst e2
   simp only at hr hr' hck hck'
   have HS:=Lib.hid (same_row wr.drew _ _ xv xv' xl' hr.drew hr'.drew)
   clear hr hr' e1 hb
   go_wp2
   refine wp_region_lit_plan [] [(0,0),(1,0),(2,0),(4,0),(5,0),(6,0),(3,1),(7,1),(8,4),(9,0)] (fun _=>False) zyVB zyVB (fun c a d v w h=>zx0I) ?_
   go_wp2_with (first
    | (refine stp ?_)
    | (go_at_call 19;refine HS.out.mono ?_;clear HS;rintro e w2 ⟨rfl,hb2⟩))
   have hbd:Below w.heap.size w wr.drew:=HB.out.drew
   exact ⟨⟨k+1,z3KH,zTbe,hbd.trans (hb2.mono hbd.size)⟩,zQOc⟩
  ·obtain rfl:k=rows.length:=by omega
   clear hb
   go_wp2
   go_ret
   exact ⟨rfl,HB.out⟩
def avEq (x y:AV):Bool:=x.kind == y.kind && x.n == y.n && x.s.toList == y.s.toList
theorem ba_toList_inj {A B:ByteArray} (h:A.toList=B.toList):A=B:=by
 rw [ByteArray.toList_eq,ByteArray.toList_eq] at h
 obtain ⟨a⟩:=A
 obtain ⟨b⟩:=B
 have:a=b:=Array.toList_inj.1 h
 rw [this]
theorem avEq_iff (x y:AV):avEq x y=true↔x=y:=by
 unfold avEq
 obtain ⟨k,n,s⟩:=x
 obtain ⟨k',n',s'⟩:=y
 simp only [Bool.and_eq_true,beq_iff_eq]
 constructor
 ·rintro ⟨⟨rfl,rfl⟩,h⟩
  rw [ba_toList_inj h]
 ·intro h
  cases h
  exact ⟨⟨rfl,rfl⟩,rfl⟩
theorem ba_beq (s s':ByteArray):(s == s')=(s.toList == s'.toList):=by
 obtain ⟨a⟩:=s
 obtain ⟨b⟩:=s'
 rw [ByteArray.toList_eq,ByteArray.toList_eq]
 show (a == b)=(a.toList == b.toList)
 rw [Bool.eq_iff_iff]
 simp
theorem eqS (w:World) (d:Nat) (s s':ByteArray):(Op.equalIn (d+1) 9 (.string s) (.string s')).run Tryz.prog w=.ok (s.toList == s'.toList) w:=by
 rw [←ba_beq]
 simp [Op.equalIn,run_underlying Tryz.underlying9]
theorem eqI (w:World) (d:Nat) (s s':Int):(Op.equalIn (d+1) 3 (.int .i64 s) (.int .i64 s')).run Tryz.prog w=.ok (s == s') w:=by
 simp [Op.equalIn,run_underlying Tryz.underlying3]
theorem eqI2 (w:World) (d:Nat) (s s':Int):(Op.equalIn (d+1) 2 (.int .i64 s) (.int .i64 s')).run Tryz.prog w=.ok (s == s') w:=by
 simp [Op.equalIn,run_underlying Tryz.underlying2]
theorem eqV (w:World) (d:Nat) (k k' n n':Int) (s s':ByteArray):(Op.equalIn (d+2) 113 (.agg #[.int .i64 k,.int .i64 n,.string s]) (.agg #[.int .i64 k',.int .i64 n',.string s'])).run Tryz.prog w=.ok (k == k' && n == n' && s.toList == s'.toList) w:=by
 have p0:∀ (x y z:Value) w,(part 3 #[x,y,z] 0).run Tryz.prog w=.ok x w:=fun _ _ _ _=>zyVB
 have p1:∀ (x y z:Value) w,(part 2 #[x,y,z] 1).run Tryz.prog w=.ok y w:=fun _ _ _ _=>zyVB
 have p2:∀ (x y z:Value) w,(part 9 #[x,y,z] 2).run Tryz.prog w=.ok z w:=fun _ _ _ _=>zyVB
 rw [Op.equalIn]
 simp [run_underlying Tryz.underlying113,p0,p1,p2,eqI,eqI2,eqS]
 cases hk:(k == k')<;>cases hn:(n == n')<;>cases hs:(s.toList == s'.toList)<;>simp_all
@[go_sem] theorem eqlV (w:World) (k k' n n':Int) (s s':ByteArray):(binOp .eql 113 (.agg #[.int .i64 k,.int .i64 n,.string s]) (.agg #[.int .i64 k',.int .i64 n',.string s'])).run Tryz.prog w=.ok (.bool (k == k' && n == n' && s.toList == s'.toList)) w:=by
 simp only [binOp]
 simp [Op.equal,Op.maxDepth,eqV w 9998]
@[go_sem] theorem neqV (w:World) (k k' n n':Int) (s s':ByteArray):(binOp .neq 113 (.agg #[.int .i64 k,.int .i64 n,.string s]) (.agg #[.int .i64 k',.int .i64 n',.string s'])).run Tryz.prog w=.ok (.bool (!(k == k' && n == n' && s.toList == s'.toList))) w:=by
 simp only [binOp]
 simp [Op.equal,Op.maxDepth,eqV w 9998]
def eqAt (l l':List AV) (i:Nat):Bool:=match l[i]?,l'[i]? with
 | some x,some y=>avEq x y
 | _,_=>false
def rowEq (l l':List AV):Bool:=decide (l.length=l'.length) && (List.range l.length).all (eqAt l l')
theorem eqAt_eq (l l':List AV) (k:Nat) (h1:k < l.length) (h2:k < l'.length):eqAt l l' k=avEq l[k] l'[k]:=by
 unfold eqAt
 rw [List.getElem?_eq_getElem h1,List.getElem?_eq_getElem h2]
theorem rowEq_self (l:List AV):rowEq l l=true:=by
 unfold rowEq
 rw [Bool.and_eq_true,List.all_eq_true]
 refine ⟨decide_eq_true rfl,fun k hk=>?_⟩
 have hk2:k < l.length:=zFJU
 rw [eqAt_eq l l k hk2 hk2]
 exact (avEq_iff _ _).2 rfl
theorem range_next (f:Nat→Bool) (n k:Nat) (h:k < n) (ha:((List.range n).take k).all f=true) (hk:f k=true):((List.range n).take (k+1)).all f=true :=
 all_next f (List.range n) k zynw ha zFJU
theorem range_not (f:Nat→Bool) (n k:Nat) (h:k < n) (hk:f k=false):(List.range n).all f=false :=
 all_not f (List.range n) k zynw zFJU
theorem range_all (f:Nat→Bool) (n:Nat) (ha:((List.range n).take n).all f=true):(List.range n).all f=true:=by
 rwa [List.take_of_length_le zPXO] at ha
theorem same_rowG (w:World) (B B':Nat→Prop) (v v':Value) (l l':List AV) (h:Sl w B 3 v l.length (rowCells l)) (h':Sl w B' 3 v' l'.length (rowCells l')) :
 Calls Tryz.prog 19 #[v,v'] w fun e w'=>e=.returned (.bool (rowEq l l'))∧Below w.heap.size w w':=by
 have HE:Hid (rowEq l l'=(decide (l.length=l'.length) && (List.range l.length).all (eqAt l l'))):=rfl
 generalize rowEq l l'=out at *
 by_cases hlen:l'.length=l.length
 ·rw [hlen] at h'
  rw [decide_eq_true hlen.symm,Bool.true_and] at HE
  obtain ⟨p,cap,rfl,hc1,hc2⟩:=h.form
  obtain ⟨p',cap',rfl,hc1',hc2'⟩:=h'.form
  have H:=Lib.hid h
  have H':=Lib.hid h'
  have HL:=Lib.hid hlen
  clear h h' hlen
  go_enter Tryz.func19,Tryz.ntmps19
  go_wp2
  go_loopw [5] (fun i wr=>∃ k:Nat,i=.int .i64 k∧k≤l.length∧((List.range l.length).take k).all (eqAt l l')=true∧Below w.heap.size w wr) (fun i _=>l.length - (intOf i).toNat)
  case atStart=>exact ⟨0,rfl,Nat.zero_le _,rfl,Below.refl _ _⟩
  case round =>
   obtain ⟨k,rfl,hk,ha,hb⟩:=hrel
   have HB:=Lib.hid hb
   have HA:=Lib.hid ha
   clear ha
   by_cases hka:k < l.length
   ·have hka':k < l'.length:=by rw [HL.out];exact hka
    have h1':=H'.out
    rw [←HL.out] at h1'
    obtain ⟨g,off,cap1,hv,hg,e0,e1,e2⟩:=sl_av (H.out.below hb) hka
    obtain ⟨g',off',cap1',hv',hg',e0',e1',e2'⟩:=sl_av (h1'.below hb) hka'
    rw [HL.out] at hv'
    cases hv
    cases hv'
    have HX:=Lib.hid (range_next (eqAt l l') l.length k hka HA.out)
    have HY:=Lib.hid (range_not (eqAt l l') l.length k hka)
    rw [eqAt_eq l l' k hka hka'] at HX HY
    clear hb h1'
    generalize l[k]=x at *
    generalize l'[k]=y at *
    obtain ⟨xk,xn,xs⟩:=x
    obtain ⟨yk,yn,ys⟩:=y
    have hav:avEq ⟨xk,xn,xs⟩ ⟨yk,yn,ys⟩=(xk == yk && xn == yn && xs.toList == ys.toList):=rfl
    rw [hav] at HX HY
    simp only at e0 e1 e2 e0' e1' e2'
    have kn:=fun w:World=>neqV w xk yk xn yn xs ys
    cases ht:(xk == yk && xn == yn && xs.toList == ys.toList)
    ·rw [ht] at HX HY kn
     have HF:=Lib.hid (HY.out rfl)
     clear HX HY ht hav
     go_wp2
     refine wp_region_lit_plan [] [(0,0),(1,0),(2,0),(4,0),(5,0),(6,0),(3,1),(7,1),(8,0)] (fun _=>False) zyVB zyVB (fun c a d v w h=>zx0I) ?_
     go_wp2_with (first
      | (refine stp ?_))
     go_ret
     exact ⟨by rw [HE.out,HF.out];rfl,HB.out.drew⟩
    ·rw [ht] at HX HY kn
     have HF:=Lib.hid (HX.out rfl)
     clear HX HY ht hav
     exact zLlr
   ·obtain rfl:k=l.length:=by omega
    have e5:out=true:=by rw [HE.out];exact range_all _ _ HA.out
    have E5:=Lib.hid e5
    clear hb e5
    go_wp2
    go_ret
    exact ⟨zsFg,HB.out⟩
 ·obtain ⟨p,cap,rfl,hc1,hc2⟩:=h.form
  obtain ⟨p',cap',rfl,hc1',hc2'⟩:=h'.form
  rw [decide_eq_false (fun e=>hlen e.symm)] at HE
  have d1:=zqhx
  have d2:=zIx0
  clear h h' hlen
  go_enter Tryz.func19,Tryz.ntmps19
  go_wp2
  go_ret
  exact ⟨zKZO,Below.refl _ _⟩
theorem sl_anyw' {w:World} {B:Nat→Prop} {sz:Nat} {v:Value} {n:Nat} {cs:List Value} (h:Sl w B sz v n cs):Sl w (fun _=>True) sz v n cs:=h.mono (Nat.le_refl _) (fun _ _ _=>rfl) (fun _ _ _=>trivial)
def eqByAt {α:Type} (f:α→α→Bool) (l l':List α) (i:Nat):Bool:=match l[i]?,l'[i]? with
 | some x,some y=>f x y
 | _,_=>false
def eqBy {α:Type} (f:α→α→Bool) (l l':List α):Bool:=decide (l.length=l'.length) && (List.range l.length).all (eqByAt f l l')
theorem eqByAt_eq {α:Type} (f:α→α→Bool) (l l':List α) (k:Nat) (h1:k < l.length) (h2:k < l'.length):eqByAt f l l' k=f l[k] l'[k]:=by
 unfold eqByAt
 rw [List.getElem?_eq_getElem h1,List.getElem?_eq_getElem h2]
def colEq (a b:ColV):Bool:=a.name.toList == b.name.toList && a.kind == b.kind
def idxEq (a b:IdxV):Bool:=a.unique == b.unique && a.l == b.l
theorem eqC (w:World) (d:Nat) (k k':Int) (s s':ByteArray):(Op.equalIn (d+2) 110 (.agg #[.string s,.int .i64 k]) (.agg #[.string s',.int .i64 k'])).run Tryz.prog w=.ok (s.toList == s'.toList && k == k') w:=by
 have p0:∀ (x y:Value) w,(part 9 #[x,y] 0).run Tryz.prog w=.ok x w:=fun _ _ _=>zyVB
 have p1:∀ (x y:Value) w,(part 3 #[x,y] 1).run Tryz.prog w=.ok y w:=fun _ _ _=>zyVB
 rw [Op.equalIn]
 simp [run_underlying Tryz.underlying110,p0,p1,eqI,eqS]
 cases hk:(k == k')<;>cases hs:(s.toList == s'.toList)<;>simp_all
@[go_sem] theorem neqC (w:World) (k k':Int) (s s':ByteArray):(binOp .neq 110 (.agg #[.string s,.int .i64 k]) (.agg #[.string s',.int .i64 k'])).run Tryz.prog w=.ok (.bool (!(s.toList == s'.toList && k == k'))) w:=by
 simp only [binOp]
 simp [Op.equal,Op.maxDepth,eqC w 9998]
def sameS (a b:SchV):Bool:=(a.name.toList == b.name.toList && (a.limit == b.limit && (a.parts == b.parts && a.by_ == b.by_))) && (eqBy colEq a.cols b.cols && eqBy idxEq a.idx b.idx)
theorem bne_of {α:Type} [BEq α] {a b:α} {t:Bool} (h:(a == b)=t):(a != b)=!t:=by unfold bne;rw [h]
theorem eqBy_len {α:Type} {f:α→α→Bool} {l l':List α} (h:l.length≠l'.length):eqBy f l l'=false:=by unfold eqBy;rw [decide_eq_false h];rfl
theorem eqBy_all {α:Type} {f:α→α→Bool} {l l':List α} (h:l.length=l'.length):eqBy f l l'=(List.range l.length).all (eqByAt f l l'):=by unfold eqBy;rw [decide_eq_true h,Bool.true_and]
theorem refsameS_any (w:World) (B B':Nat→Prop) (a b:SchV) (ha:SchAt w B a) (hb:SchAt w B' b) :
 Calls Tryz.prog 41 #[a.agg,b.agg] w fun e w'=>e=.returned (.bool (sameS a b))∧Below w.heap.size w w':=by
 obtain ⟨nm,cv,cl,iv,il,lim,prt,by_⟩:=a
 obtain ⟨nm',cv',cl',iv',il',lim',prt',by_'⟩:=b
 obtain ⟨h1,h2,h3,h4⟩:=ha
 obtain ⟨h1',h2',h3',h4'⟩:=hb
 simp only at h1 h2 h3 h4 h1' h2' h3' h4'
 simp only [SchV.agg,sameS]
 obtain ⟨pc,cc,rfl,hcc1,hcc⟩:=h1.form
 obtain ⟨pi,ci,rfl,hci1,hci⟩:=h2.1.form
 obtain ⟨pc',cc',rfl,hcc1',hcc'⟩:=h1'.form
 obtain ⟨pi',ci',rfl,hci1',hci'⟩:=h2'.1.form
 obtain ⟨w1,hw1⟩:∃ w1,w.alloc (.cells #[.string nm,.slice pc cl.length cc,.slice pi il.length ci,.int .i64 lim,.int .i64 prt,.int .i64 by_] 25)=w1:=⟨_,rfl⟩
 obtain ⟨w2,hw2⟩:∃ w2,w1.alloc (.cells #[.string nm',.slice pc' cl'.length cc',.slice pi' il'.length ci',.int .i64 lim',.int .i64 prt',.int .i64 by_'] 25)=w2:=⟨_,rfl⟩
 have b1:=zppX
 have b2:=zXxX
 have b12:Below w.heap.size w w2:=b1.trans (b2.mono b1.size)
 have k1:Blk w1 w.heap.size 25 [.string nm,.slice pc cl.length cc,.slice pi il.length ci,.int .i64 lim,.int .i64 prt,.int .i64 by_]:=by rw [←hw1];exact Blk.new w _ _
 have k1b:=k1.below b2
 have k2:Blk w2 w1.heap.size 25 [.string nm',.slice pc' cl'.length cc',.slice pi' il'.length ci',.int .i64 lim',.int .i64 prt',.int .i64 by_']:=by rw [←hw2];exact Blk.new w1 _ _
 have HB:=Lib.hid b12
 have HK1:=Lib.hid k1b
 have HK2:=Lib.hid k2
 obtain ⟨x0,x1,x2,x3,x4,x5⟩:=sch_cells k1b
 obtain ⟨y0,y1,y2,y3,y4,y5⟩:=sch_cells k2
 have HCL:=Lib.hid h1
 have HCL':=Lib.hid h1'
 have HIL:=Lib.hid h2
 have HIL':=Lib.hid h2'
 clear b1 b2 b12 k1 k1b k2 h1 h1' h2 h2' h3 h3' h4 h4'
 by_cases hf:(nm.toList == nm'.toList && (lim == lim' && (prt == prt' && by_ == by_')))=false
 ·skip
  rw [hf,Bool.false_and]
  cases d1:(nm.toList == nm'.toList)
  ·clear hf
   exact zt2q
  ·have n1:=bne_of d1
   cases d2:(lim == lim')
   ·have n2:=bne_of d2
    simp only [Bool.not_true,Bool.not_false] at n1 n2
    clear hf
    go_enter Tryz.func41,Tryz.ntmps41
    go_wp2
    go_ret
    exact ⟨rfl,HB.out⟩
   ·have n2:=bne_of d2
    cases d3:(prt == prt')
    ·have n3:=bne_of d3
     simp only [Bool.not_true,Bool.not_false] at n1 n2 n3
     clear hf
     go_enter Tryz.func41,Tryz.ntmps41
     go_wp2
     go_ret
     exact ⟨rfl,HB.out⟩
    ·have n3:=bne_of d3
     rw [d1,d2,d3,Bool.true_and,Bool.true_and,Bool.true_and] at hf
     have n4:=bne_of hf
     simp only [Bool.not_true,Bool.not_false] at n1 n2 n3 n4
     exact zt2q
 rw [Bool.not_eq_false] at hf
 rw [hf,Bool.true_and]
 rw [Bool.and_eq_true,Bool.and_eq_true,Bool.and_eq_true] at hf
 obtain ⟨d1,d2,d3,d4⟩:=hf
 have n1:=bne_of d1
 have n2:=bne_of d2
 have n3:=bne_of d3
 have n4:=bne_of d4
 simp only [Bool.not_true] at n1 n2 n3 n4
 rcases Classical.em (¬ cl.length=cl'.length) with hcl|hcl
 ·rw [eqBy_len hcl,Bool.false_and]
  have d5:((cl.length:Int) == (cl'.length:Int))=false:=beq_eq_false_iff_ne.2 zTbe
  have d6:((cl.length:Int) != (cl'.length:Int))=true:=bne_iff_ne.2 zTbe
  exact zt2q
 rw [Classical.not_not] at hcl
 rcases Classical.em (¬ il.length=il'.length) with hil|hil
 ·rw [eqBy_len hil,Bool.and_false]
  have d5:((cl.length:Int) == (cl'.length:Int))=true:=beq_iff_eq.2 zTbe
  have d6:((cl.length:Int) != (cl'.length:Int))=false:=by rw [hcl];simp
  have d7:((il.length:Int) == (il'.length:Int))=false:=beq_eq_false_iff_ne.2 zTbe
  have d8:((il.length:Int) != (il'.length:Int))=true:=bne_iff_ne.2 zTbe
  clear hcl hil
  exact zt2q
 rw [Classical.not_not] at hil
 rw [eqBy_all hcl,eqBy_all hil]
 have d6:((cl.length:Int) != (cl'.length:Int))=false:=by rw [hcl];simp
 have d8:((il.length:Int) != (il'.length:Int))=false:=by rw [hil];simp
 have HLC:=Lib.hid hcl
 have HLI:=Lib.hid hil
 obtain ⟨out,hout⟩:∃ out,((List.range cl.length).all (eqByAt colEq cl cl') && (List.range il.length).all (eqByAt idxEq il il'))=out:=⟨_,rfl⟩
 rw [hout]
 have HO:=Lib.hid hout
 clear hcl hil hout
 go_enter Tryz.func41,Tryz.ntmps41
 go_wp2
 clear hw1 hw2 d1 d2 d3 d4 n1 n2 n3 n4 d6 d8 x0 x1 x2 x3 x4 x5 y0 y1 y2 y3 y4 y5
 go_loopw [5] (fun i wr=>∃ k:Nat,i=.int .i64 k∧k≤cl.length∧((List.range cl.length).take k).all (eqByAt colEq cl cl')=true∧Below w2.heap.size w2 wr) (fun i _=>cl.length - (intOf i).toNat)
 case atStart=>exact ⟨0,rfl,Nat.zero_le _,rfl,Below.refl _ _⟩
 case round =>
  obtain ⟨k,rfl,hk,hall,hb⟩:=hrel
  have HX:=Lib.hid hb
  have HA:=Lib.hid hall
  have hbw:=HB.out.trans (hb.mono HB.out.size)
  obtain ⟨x0,x1,x2,x3,x4,x5⟩:=sch_cells (HK1.out.below hb)
  obtain ⟨y0,y1,y2,y3,y4,y5⟩:=sch_cells (HK2.out.below hb)
  clear hall
  by_cases hka:k < cl.length
  ·have hka':k < cl'.length:=by rw [←HLC.out];exact hka
   obtain ⟨g,off,cap1,hv,hg,e0,e1⟩:=sl_col (HCL.out.below hbw) hka
   obtain ⟨g',off',cap1',hv',hg',e0',e1'⟩:=sl_col (HCL'.out.below hbw) hka'
   cases hv
   cases hv'
   have HX1:=Lib.hid (range_next (eqByAt colEq cl cl') cl.length k hka HA.out)
   have HY1:=Lib.hid (range_not (eqByAt colEq cl cl') cl.length k hka)
   rw [eqByAt_eq colEq cl cl' k hka hka'] at HX1 HY1
   clear hb hbw
   generalize cl[k]=x at *
   generalize cl'[k]=y at *
   obtain ⟨xs,xk⟩:=x
   obtain ⟨ys,yk⟩:=y
   have hav:colEq ⟨xs,xk⟩ ⟨ys,yk⟩=(xs.toList == ys.toList && xk == yk):=rfl
   rw [hav] at HX1 HY1
   simp only at e0 e1 e0' e1'
   have kn:=fun w:World=>neqC w xk yk xs ys
   cases ht:(xs.toList == ys.toList && xk == yk)
   ·rw [ht] at HX1 HY1 kn
    have HF:=Lib.hid (HY1.out rfl)
    clear HX1 HY1 ht hav
    go_wp2
    refine wp_region_lit_plan [] [(0,0),(2,0),(5,0),(7,0),(1,1),(3,0),(4,1),(6,1),(8,0),(9,1),(10,0)] (fun _=>False) zyVB zyVB (fun c a d v w h=>zx0I) ?_
    go_wp2_with (first
     | (refine stp ?_))
    go_ret
    exact ⟨by rw [←HO.out,HF.out];rfl,HB.out.trans (HX.out.drew.mono HB.out.size)⟩
   ·rw [ht] at HX1 HY1 kn
    have HF:=Lib.hid (HX1.out rfl)
    clear HX1 HY1 ht hav
    go_wp2
    refine wp_region_lit_plan [] [(0,0),(2,0),(5,0),(7,0),(1,1),(3,0),(4,1),(6,1),(8,0),(9,1),(10,0)] (fun _=>False) zyVB zyVB (fun c a d v w h=>zx0I) ?_
    go_wp2_with (first
     | (refine stp ?_))
    exact ⟨⟨k+1,z3KH,zTbe,HF.out,HX.out.drew⟩,zQOc⟩
  ·obtain rfl:k=cl.length:=by omega
   have hc1:=range_all _ _ HA.out
   have HO2:Hid ((List.range il.length).all (eqByAt idxEq il il')=out):=by
    show _=_
    have:=HO.out
    rwa [hc1,Bool.true_and] at this
   clear hb hbw hc1 HA HO
   go_wp2
   clear x0 x1 x2 x3 x4 x5 y0 y1 y2 y3 y4 y5
   go_loopw [6] (fun i wr=>∃ k:Nat,i=.int .i64 k∧k≤il.length∧((List.range il.length).take k).all (eqByAt idxEq il il')=true∧Below w2.heap.size w2 wr) (fun i _=>il.length - (intOf i).toNat)
   case atStart=>exact ⟨0,rfl,Nat.zero_le _,rfl,HX.out⟩
   case round =>
    clear HX
    obtain ⟨k,rfl,hk,hall,hb⟩:=hrel
    have HX:=Lib.hid hb
    have HA:=Lib.hid hall
    have hbw:=HB.out.trans (hb.mono HB.out.size)
    obtain ⟨x0,x1,x2,x3,x4,x5⟩:=sch_cells (HK1.out.below hb)
    obtain ⟨y0,y1,y2,y3,y4,y5⟩:=sch_cells (HK2.out.below hb)
    clear hall
    by_cases hka:k < il.length
    ·have hka':k < il'.length:=by rw [←HLI.out];exact hka
     have g1:=HIL.out.below hbw
     have g2:=HIL'.out.below hbw
     obtain ⟨g,off,cap1,hv,hg,e0,e1⟩:=sl_idx g1.1 hka
     obtain ⟨g',off',cap1',hv',hg',e0',e1'⟩:=sl_idx g2.1 hka'
     cases hv
     cases hv'
     have HX1:=Lib.hid (range_next (eqByAt idxEq il il') il.length k hka HA.out)
     have HY1:=Lib.hid (range_not (eqByAt idxEq il il') il.length k hka)
     rw [eqByAt_eq idxEq il il' k hka hka'] at HX1 HY1
     have sx:=g1.2 il[k] (List.getElem_mem hka)
     have sy:=g2.2 il'[k] (List.getElem_mem hka')
     clear hb hbw g1 g2
     generalize il[k]=x at *
     generalize il'[k]=y at *
     obtain ⟨xv,xl,xu⟩:=x
     obtain ⟨yv,yl,yu⟩:=y
     simp only at e0 e1 e0' e1' sx sy
     have HS:=Lib.hid (refsame wr.drew (fun _=>True) xv yv xl yl (sl_anyw' sx) (sl_anyw' sy))
     have hav:idxEq ⟨xv,xl,xu⟩ ⟨yv,yl,yu⟩=(xu == yu && xl == yl):=rfl
     rw [hav] at HX1 HY1
     clear sx sy hav
     generalize (xl == yl)=eq at *
     cases hu:(xu == yu)
     ·rw [hu,Bool.false_and] at HX1 HY1
      have HF:=Lib.hid (HY1.out rfl)
      have hu2:(xu != yu)=true:=by unfold bne;rw [hu];rfl
      clear HX1 HY1
      go_wp2
      refine wp_region_lit_plan [] [(0,0),(2,0),(6,0),(8,0),(1,1),(3,0),(4,0),(5,1),(7,1),(9,0),(10,0),(11,1),(12,0),(13,0),(14,0),(16,0),(20,0),(22,0),(15,1),(17,0),(18,0),(19,1),(21,1),(23,0),(24,0),(25,1),(26,4),(27,0),(28,0)] (fun _=>False) zyVB zyVB (fun c a d v w h=>zx0I) ?_
      go_wp2_with (first
       | (refine stp ?_))
      go_ret
      exact ⟨by rw [←HO2.out,HF.out];rfl,HB.out.trans (HX.out.drew.mono HB.out.size)⟩
     ·rw [hu,Bool.true_and] at HX1 HY1
      have hu2:(xu != yu)=false:=by unfold bne;rw [hu];rfl
      cases eq
      ·have HF:=Lib.hid (HY1.out rfl)
       clear HX1 HY1
       go_wp2
       refine wp_region_lit_plan [] [(0,0),(2,0),(6,0),(8,0),(1,1),(3,0),(4,0),(5,1),(7,1),(9,0),(10,0),(11,1),(12,0),(13,0),(14,0),(16,0),(20,0),(22,0),(15,1),(17,0),(18,0),(19,1),(21,1),(23,0),(24,0),(25,1),(26,4),(27,0),(28,0)] (fun _=>False) zyVB zyVB (fun c a d v w h=>zx0I) ?_
       go_wp2_with (first
        | (refine stp ?_))
       refine HS.out.mono ?_
       rintro e w3 ⟨rfl,hb3⟩
       have HX3:=Lib.hid (HX.out.drew.trans (hb3.mono HX.out.size))
       clear hb3
       go_wp2_with (first
        | (refine stp ?_))
       go_ret
       exact ⟨by rw [←HO2.out,HF.out];rfl,HB.out.trans (HX3.out.mono HB.out.size)⟩
      ·have HF:=Lib.hid (HX1.out rfl)
       clear HX1 HY1
       go_wp2
       refine wp_region_lit_plan [] [(0,0),(2,0),(6,0),(8,0),(1,1),(3,0),(4,0),(5,1),(7,1),(9,0),(10,0),(11,1),(12,0),(13,0),(14,0),(16,0),(20,0),(22,0),(15,1),(17,0),(18,0),(19,1),(21,1),(23,0),(24,0),(25,1),(26,4),(27,0),(28,0)] (fun _=>False) zyVB zyVB (fun c a d v w h=>zx0I) ?_
       go_wp2_with (first
        | (refine stp ?_))
       refine HS.out.mono ?_
       rintro e w3 ⟨rfl,hb3⟩
       have HX3:=Lib.hid (HX.out.drew.trans (hb3.mono HX.out.size))
       clear hb3
       go_wp2_with (first
        | (refine stp ?_))
       exact ⟨⟨k+1,z3KH,zTbe,HF.out,HX3.out⟩,zQOc⟩
    ·obtain rfl:k=il.length:=by omega
     have hc1:=range_all _ _ HA.out
     have HZ:Hid (out=true):=by show _=_;rw [←HO2.out,hc1]
     clear hb hbw hc1
     go_wp2
     go_ret
     exact ⟨by rw [HZ.out];rfl,HB.out.trans (HX.out.mono HB.out.size)⟩
theorem eqBy_self {α:Type} (f:α→α→Bool) (hf:∀ x,f x x=true) (l:List α):eqBy f l l=true:=by
 rw [eqBy_all rfl,List.all_eq_true]
 intro k hk
 have hk2:k < l.length:=zFJU
 rw [eqByAt_eq f l l k hk2 hk2]
 exact hf _
theorem eqBy_idx {a b:List IdxV} (h1:a.map IdxV.l=b.map IdxV.l) (h2:a.map IdxV.unique=b.map IdxV.unique):eqBy idxEq a b=true:=by
 have hl:a.length=b.length:=by have:=congrArg List.length h1;simpa using this
 rw [eqBy_all hl,List.all_eq_true]
 intro k hk
 have hk1:k < a.length:=zFJU
 have hk2:k < b.length:=zTbe
 rw [eqByAt_eq idxEq a b k hk1 hk2]
 have e1:(a.map IdxV.l)[k]?=(b.map IdxV.l)[k]?:=by rw [h1]
 have e2:(a.map IdxV.unique)[k]?=(b.map IdxV.unique)[k]?:=by rw [h2]
 rw [List.getElem?_map,List.getElem?_map,List.getElem?_eq_getElem hk1,List.getElem?_eq_getElem hk2] at e1 e2
 have e3:=Option.some.inj e1
 have e4:=Option.some.inj e2
 unfold idxEq
 rw [e3,e4]
 simp
theorem sameS_alike {c s:SchV} (h:Alike c s):sameS c s=true:=by
 unfold sameS
 rw [h.name,h.cols,h.limit,h.parts,h.by_,eqBy_self colEq (fun x=>by unfold colEq;simp),eqBy_idx h.idx h.uni]
 simp
end Go.Proofs.YteggkjdlajgenaaGreatDoor
