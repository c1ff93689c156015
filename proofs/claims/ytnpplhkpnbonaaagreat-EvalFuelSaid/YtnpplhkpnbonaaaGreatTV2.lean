/- Contracts of the functions that the statement reaches, one behind the other. No condition beyond each theorem's own. -/
import Derived.Test.YtnpplhkpnbonaaaGreatTV1
set_option linter.unusedSimpArgs false
set_option linter.unusedVariables false
set_option maxRecDepth 100000
set_option maxHeartbeats 4000000
namespace Go.Proofs.YtnpplhkpnbonaaaGreat
open Go.RowKit Go.Afx
theorem all_false {α:Type} (f:α→Bool) (l:List α) (j k:Nat) (hjk:j < k) (h:j < l.length):f l[j]=false→(l.take k).all f=false:=fun hf=>by
 rw [List.all_eq_false]
 refine ⟨l[j],?_,by simp [hf]⟩
 rw [List.mem_iff_getElem]
 exact ⟨j,by rw [List.length_take];omega,by rw [List.getElem_take]⟩
def sameCol (a b:ColV):Bool:=a.name.toList == b.name.toList
def sameIdx (a b:IdxV):Bool:=a.l == b.l
def sameInt (a b:Int):Bool:=a == b
theorem take_eq_next {α:Type} [DecidableEq α] (l l':List α) (k:Nat) (h:k < l.length) (h':k < l'.length) (he:l.take k=l'.take k) (hk:l[k]=l'[k]):l.take (k+1)=l'.take (k+1):=by
 rw [←List.take_append_getElem h,←List.take_append_getElem h',he,hk]
def colOk (c:ColV):Bool:=namedB c.name && (decide (1≤c.kind) && decide (c.kind≤3))
def colsB (l:List ColV):Bool:=l.all colOk && ((decide (1≤l.length) && decide (l.length≤8)) && unlikeB sameCol l)
def placeOk (n:Int) (c:Int):Bool:=decide (0≤c) && decide (c≤n - 1)
def placesB (n:Int) (x:IdxV):Bool:=x.l.all (placeOk n) && (decide (0 < x.l.length) && unlikeB sameInt x.l)
def firstU (l:List IdxV):Bool:=match l with
 | []=>false
 | x::_=>x.unique
def idxB (n:Int) (l:List IdxV):Bool:=l.all (placesB n) && ((decide (1≤l.length) && decide (l.length≤4)) && firstU l && unlikeB sameIdx l)
theorem all_not {α:Type} (f:α→Bool) (l:List α) (k:Nat) (h:k < l.length):f l[k]=false→l.all f=false:=fun hf=>by
 rw [List.all_eq_false]
 exact ⟨l[k],List.getElem_mem h,by simp [hf]⟩
structure SchV where
 name:ByteArray
 colsV:Value
 cols:List ColV
 idxV:Value
 idx:List IdxV
 limit:Int
 parts:Int
 by_:Int
def SchV.cells (s:SchV):List Value:=[.string s.name,s.colsV,s.idxV,.int .i64 s.limit,.int .i64 s.parts,.int .i64 s.by_]
def SchV.agg (s:SchV):Value:=.agg #[.string s.name,s.colsV,s.idxV,.int .i64 s.limit,.int .i64 s.parts,.int .i64 s.by_]
structure SchAt (w:World) (B:Nat→Prop) (s:SchV):Prop where
 cols:Sl w B 2 s.colsV s.cols.length (colCells s.cols)
 idx:IdxAt w B s.idxV s.idx
 names:∀ c∈s.cols,c.name.size≤maxLen
 name:s.name.size≤maxLen
theorem SchAt.below {w w':World} {B:Nat→Prop} {s:SchV} (h:SchAt w B s) (hb:Below w.heap.size w w'):SchAt w' B s:=⟨h.cols.below hb,h.idx.below hb,h.names,h.name⟩
def rightS (s:SchV):Bool :=
 namedB s.name && (colsB s.cols && (idxB s.cols.length s.idx && ((decide (1≤s.limit) && decide (s.limit≤1000)) && ((decide (1≤s.parts) && decide (s.parts≤8)) && (decide (0≤s.by_) && decide (s.by_≤(s.cols.length:Int) - 1))))))
theorem colsB_len {l:List ColV} (h:colsB l=true):1≤l.length∧l.length≤8:=by
 unfold colsB at h
 simp at h
 omega
theorem sch_cells {w:World} {b:Nat} {t:TypeId} {v0 v1 v2 v3 v4 v5:Value} (h:Blk w b t [v0,v1,v2,v3,v4,v5]) :
 w.cell? ⟨b,0,none⟩=some v0∧w.cell? ⟨b,1,none⟩=some v1∧w.cell? ⟨b,2,none⟩=some v2∧w.cell? ⟨b,3,none⟩=some v3∧w.cell? ⟨b,4,none⟩=some v4∧w.cell? ⟨b,5,none⟩=some v5 :=
 ⟨h.cell 0,h.cell 1,h.cell 2,h.cell 3,h.cell 4,h.cell 5⟩
theorem unlikeGo_spec {α:Type} (same:α→α→Bool):∀ (t seen:List α),unlikeGo same seen t=true→(∀ i j (hi:i < t.length),j < i→∀ hj:j < t.length,same t[i] t[j]=false)∧∀ i (hi:i < t.length),∀ b∈seen,same t[i] b=false
 | [],_,_=>⟨fun i j hi=>absurd hi (Nat.not_lt_zero _),fun i hi=>absurd hi (Nat.not_lt_zero _)⟩
 | a::t,seen,h=>by
  unfold unlikeGo at h
  rw [Bool.and_eq_true,List.all_eq_true] at h
  obtain ⟨h1,h2⟩:=unlikeGo_spec same t (seen++[a]) h.2
  refine ⟨fun i j hi hji hj=>?_,fun i hi b hb=>?_⟩
  ·cases i with
   | zero=>omega
   | succ i =>
    cases j with
    | zero=>exact h2 i (by simpa using hi) a (by simp)
    | succ j=>exact h1 i j (by simpa using hi) (by omega) (by simpa using hj)
  ·cases i with
   | zero=>have:=h.1 b hb;simpa using this
   | succ i=>exact h2 i (by simpa using hi) b (List.mem_append_left _ hb)
theorem pigeon:∀ (n:Nat) (l:List Int),(∀ c∈l,0≤c∧c < (n:Int))→(∀ i j (hi:i < l.length) (hj:j < l.length),j < i→l[i]≠l[j])→l.length≤n:=by
 intro n
 induction n with
 | zero =>
  intro l h _
  cases l with
  | nil=>simp
  | cons a t=>have:=h a (by simp);omega
 | succ n ih =>
  intro l h hd
  have hp:l.Nodup:=by
   rw [List.nodup_iff_pairwise_ne]
   rw [List.pairwise_iff_getElem]
   intro i j hi hj hij
   exact fun e=>hd j i hj hi hij e.symm
  have hl:=ih (l.filter (fun c=>c≠(n:Int))) (fun c hc=>by
   rw [List.mem_filter] at hc
   have h1:=h c hc.1
   have h2:c≠(n:Int):=by simpa using hc.2
   omega) (by
   have hq:=List.Pairwise.filter (fun c=>decide (c≠(n:Int))) (List.nodup_iff_pairwise_ne.1 hp)
   rw [List.pairwise_iff_getElem] at hq
   intro i j hi hj hji
   exact fun e=>hq j i hj hi hji e.symm)
  have hcount:l.length≤(l.filter (fun c=>c≠(n:Int))).length+1:=by
   clear ih hl h hd
   induction l with
   | nil=>simp
   | cons a t ih2 =>
    rw [List.nodup_cons] at hp
    by_cases ha:a=(n:Int)
    ·have:t.filter (fun c=>decide (c≠(n:Int)))=t:=by
      rw [List.filter_eq_self]
      intro x hx
      have:x≠a:=fun e=>hp.1 (e▸hx)
      simpa [←ha] using this
     rw [List.filter_cons_of_neg (by simp [ha]),this,List.length_cons]
     omega
    ·rw [List.filter_cons_of_pos (by simp [ha]),List.length_cons,List.length_cons]
     have:=ih2 hp.2
     omega
  omega
theorem places_len (n:Nat) (x:IdxV) (h:placesB n x=true):1≤x.l.length∧x.l.length≤n:=by
 unfold placesB at h
 simp only [Bool.and_eq_true,List.all_eq_true,decide_eq_true_eq] at h
 obtain ⟨h1,h2,h3⟩:=h
 refine ⟨h2,pigeon n x.l (fun c hc=>?_) (fun i j hi hj hji=>?_)⟩
 ·have:=h1 c hc
  unfold placeOk at this
  simp at this
  omega
 ·have:=(unlikeGo_spec sameInt x.l [] h3).1 i j hi hji hj
  unfold sameInt at this
  simpa using this
theorem sameCol_comm (a b:ColV):sameCol a b=sameCol b a:=by
 unfold sameCol
 rw [Bool.eq_iff_iff];simp only [beq_iff_eq];exact ⟨Eq.symm,Eq.symm⟩
theorem sameIdx_comm (a b:IdxV):sameIdx a b=sameIdx b a:=by
 unfold sameIdx
 rw [Bool.eq_iff_iff];simp only [beq_iff_eq];exact ⟨Eq.symm,Eq.symm⟩
theorem sameInt_comm (a b:Int):sameInt a b=sameInt b a:=by
 unfold sameInt
 rw [Bool.eq_iff_iff];simp only [beq_iff_eq];exact ⟨Eq.symm,Eq.symm⟩
def eqAt (l l':List AV) (i:Nat):Bool:=match l[i]?,l'[i]? with
 | some x,some y=>avEq x y
 | _,_=>false
def rowEq (l l':List AV):Bool:=decide (l.length=l'.length) && (List.range l.length).all (eqAt l l')
theorem eqAt_eq (l l':List AV) (k:Nat) (h1:k < l.length) (h2:k < l'.length):eqAt l l' k=avEq l[k] l'[k]:=by
 unfold eqAt
 rw [List.getElem?_eq_getElem h1,List.getElem?_eq_getElem h2]
theorem rowEq_self (l:List AV):rowEq l l=true:=by
 unfold rowEq
 rw [Bool.and_eq_true,List.all_eq_true]
 refine ⟨decide_eq_true rfl,fun k hk=>?_⟩
 have hk2:k < l.length:=by simpa using hk
 rw [eqAt_eq l l k hk2 hk2]
 exact (avEq_iff _ _).2 rfl
theorem range_next (f:Nat→Bool) (n k:Nat) (h:k < n) (ha:((List.range n).take k).all f=true) (hk:f k=true):((List.range n).take (k+1)).all f=true :=
 all_next f (List.range n) k (by simpa using h) ha (by simpa using hk)
theorem range_not (f:Nat→Bool) (n k:Nat) (h:k < n) (hk:f k=false):(List.range n).all f=false :=
 all_not f (List.range n) k (by simpa using h) (by simpa using hk)
theorem range_all (f:Nat→Bool) (n:Nat) (ha:((List.range n).take n).all f=true):(List.range n).all f=true:=by
 rwa [List.take_of_length_le (by simp)] at ha
theorem same_rowG (w:World) (B B':Nat→Prop) (v v':Value) (l l':List AV) (h:Sl w B 3 v l.length (rowCells l)) (h':Sl w B' 3 v' l'.length (rowCells l')) :
 Calls Tryz.prog 12 #[v,v'] w fun e w'=>e=.returned (.bool (rowEq l l'))∧Below w.heap.size w w':=by
 have HE:Hid (rowEq l l'=(decide (l.length=l'.length) && (List.range l.length).all (eqAt l l'))):=rfl
 generalize rowEq l l'=out at *
 by_cases hlen:l'.length=l.length
 ·rw [hlen] at h'
  rw [decide_eq_true hlen.symm,Bool.true_and] at HE
  obtain ⟨p,cap,rfl,hc1,hc2⟩:=h.form
  obtain ⟨p',cap',rfl,hc1',hc2'⟩:=h'.form
  have H:=Lib.hid h
  have H':=Lib.hid h'
  have HL:=Lib.hid hlen
  clear h h' hlen
  go_enter Tryz.func12,Tryz.ntmps12
  go_wp2
  go_loopw [5] (fun i wr=>∃ k:Nat,i=.int .i64 k∧k≤l.length∧((List.range l.length).take k).all (eqAt l l')=true∧Below w.heap.size w wr) (fun i _=>l.length - (intOf i).toNat)
  case atStart=>exact ⟨0,rfl,Nat.zero_le _,rfl,Below.refl _ _⟩
  case round =>
   obtain ⟨k,rfl,hk,ha,hb⟩:=hrel
   have HB:=Lib.hid hb
   have HA:=Lib.hid ha
   clear ha
   by_cases hka:k < l.length
   ·have hka':k < l'.length:=by rw [HL.out];exact hka
    have h1':=H'.out
    rw [←HL.out] at h1'
    obtain ⟨g,off,cap1,hv,hg,e0,e1,e2⟩:=sl_av (H.out.below hb) hka
    obtain ⟨g',off',cap1',hv',hg',e0',e1',e2'⟩:=sl_av (h1'.below hb) hka'
    rw [HL.out] at hv'
    cases hv
    cases hv'
    have HX:=Lib.hid (range_next (eqAt l l') l.length k hka HA.out)
    have HY:=Lib.hid (range_not (eqAt l l') l.length k hka)
    rw [eqAt_eq l l' k hka hka'] at HX HY
    clear hb h1'
    generalize l[k]=x at *
    generalize l'[k]=y at *
    obtain ⟨xk,xn,xs⟩:=x
    obtain ⟨yk,yn,ys⟩:=y
    have hav:avEq ⟨xk,xn,xs⟩ ⟨yk,yn,ys⟩=(xk == yk && xn == yn && xs.toList == ys.toList):=rfl
    rw [hav] at HX HY
    simp only at e0 e1 e2 e0' e1' e2'
    have kn:=fun w:World=>neqV w xk yk xn yn xs ys
    cases ht:(xk == yk && xn == yn && xs.toList == ys.toList)
    ·rw [ht] at HX HY kn
     have HF:=Lib.hid (HY.out rfl)
     clear HX HY ht hav
     go_wp2
     refine wp_region_lit_plan [] [(0,0),(1,0),(2,0),(4,0),(5,0),(6,0),(3,1),(7,1),(8,0)] (fun _=>False) (by kernel_rfl) (by kernel_rfl) (fun c a d v w h=>by cases d<;>exact h) ?_
     go_wp2_with (first
      | (refine stp ?_))
     go_ret
     exact ⟨by rw [HE.out,HF.out];rfl,HB.out.drew⟩
    ·rw [ht] at HX HY kn
     have HF:=Lib.hid (HX.out rfl)
     clear HX HY ht hav
     go_wp2
     refine wp_region_lit_plan [] [(0,0),(1,0),(2,0),(4,0),(5,0),(6,0),(3,1),(7,1),(8,0)] (fun _=>False) (by kernel_rfl) (by kernel_rfl) (fun c a d v w h=>by cases d<;>exact h) ?_
     go_wp2_with (first
      | (refine stp ?_))
     exact ⟨⟨k+1,by go_num,by omega,HF.out,HB.out.drew⟩,by (simp [intOf])<;>omega⟩
   ·obtain rfl:k=l.length:=by omega
    have e5:out=true:=by rw [HE.out];exact range_all _ _ HA.out
    have E5:=Lib.hid e5
    clear hb e5
    go_wp2
    go_ret
    exact ⟨by rw [E5.out];rfl,HB.out⟩
 ·obtain ⟨p,cap,rfl,hc1,hc2⟩:=h.form
  obtain ⟨p',cap',rfl,hc1',hc2'⟩:=h'.form
  rw [decide_eq_false (fun e=>hlen e.symm)] at HE
  have d1:((l.length:Int) == (l'.length:Int))=false:=beq_eq_false_iff_ne.2 (by omega)
  have d2:((l.length:Int) != (l'.length:Int))=true:=bne_iff_ne.2 (by omega)
  clear h h' hlen
  go_enter Tryz.func12,Tryz.ntmps12
  go_wp2
  go_ret
  exact ⟨by rw [HE.out];rfl,Below.refl _ _⟩
theorem sl_anyw' {w:World} {B:Nat→Prop} {sz:Nat} {v:Value} {n:Nat} {cs:List Value} (h:Sl w B sz v n cs):Sl w (fun _=>True) sz v n cs:=h.mono (Nat.le_refl _) (fun _ _ _=>rfl) (fun _ _ _=>trivial)
def eqByAt {α:Type} (f:α→α→Bool) (l l':List α) (i:Nat):Bool:=match l[i]?,l'[i]? with
 | some x,some y=>f x y
 | _,_=>false
def eqBy {α:Type} (f:α→α→Bool) (l l':List α):Bool:=decide (l.length=l'.length) && (List.range l.length).all (eqByAt f l l')
theorem eqByAt_eq {α:Type} (f:α→α→Bool) (l l':List α) (k:Nat) (h1:k < l.length) (h2:k < l'.length):eqByAt f l l' k=f l[k] l'[k]:=by
 unfold eqByAt
 rw [List.getElem?_eq_getElem h1,List.getElem?_eq_getElem h2]
def colEq (a b:ColV):Bool:=a.name.toList == b.name.toList && a.kind == b.kind
def idxEq (a b:IdxV):Bool:=a.unique == b.unique && a.l == b.l
theorem eqC (w:World) (d:Nat) (k k':Int) (s s':ByteArray):(Op.equalIn (d+2) 149 (.agg #[.string s,.int .i64 k]) (.agg #[.string s',.int .i64 k'])).run Tryz.prog w=.ok (s.toList == s'.toList && k == k') w:=by
 have p0:∀ (x y:Value) w,(part 9 #[x,y] 0).run Tryz.prog w=.ok x w:=fun _ _ _=>by kernel_rfl
 have p1:∀ (x y:Value) w,(part 3 #[x,y] 1).run Tryz.prog w=.ok y w:=fun _ _ _=>by kernel_rfl
 rw [Op.equalIn]
 simp [run_underlying Tryz.underlying149,p0,p1,eqI,eqS]
 cases hk:(k == k')<;>cases hs:(s.toList == s'.toList)<;>simp_all
@[go_sem] theorem neqC (w:World) (k k':Int) (s s':ByteArray):(binOp .neq 149 (.agg #[.string s,.int .i64 k]) (.agg #[.string s',.int .i64 k'])).run Tryz.prog w=.ok (.bool (!(s.toList == s'.toList && k == k'))) w:=by
 simp only [binOp]
 simp [Op.equal,Op.maxDepth,eqC w 9998]
theorem elemStr:Elem Tryz.prog 41 9 1 16 (.string ⟨#[]⟩) :=
 ⟨Tryz.underlying41,by kernel_rfl,rfl,by omega,by intro u hu;simp [Value.cells] at hu;subst hu;rfl⟩
def strC (l:List (List UInt8)):List Value:=l.map fun s=>.string (bs s)
theorem strC_append (a b:List (List UInt8)):strC (a++b)=strC a++strC b:=by simp [strC]
theorem one_str (w:World) (s:List UInt8):Sl (w.alloc (.cells #[.string (bs s)] 9)) (fun _=>True) 1 (.slice (some ⟨w.heap.size,0,none⟩) 1 1) 1 (strC [s]):=by
 have:=Own.made w 9 1 (strC [s]) [] 1 1 rfl (by intro u hu;simp [strC] at hu;subst hu;rfl) (Nat.le_refl _) (by simp [maxLen]) (by simp [strC])
 exact this.sl (fun _ _=>trivial)
theorem map_next {α β:Type} (f:α→β) (l:List α) (k:Nat) (h:k < l.length):(l.take (k+1)).map f=(l.take k).map f++[f l[k]]:=by
 rw [←List.take_append_getElem h,List.map_append];rfl
def frontS (s:SchV):Bool :=
 namedB s.name && (decide (1≤s.cols.length) && decide (s.cols.length≤8)) && (decide (1≤s.idx.length) && decide (s.idx.length≤4)) && ((decide (1≤s.limit) && decide (s.limit≤1000)) && ((decide (1≤s.parts) && decide (s.parts≤8)) && (decide (0≤s.by_) && decide (s.by_≤(s.cols.length:Int) - 1)))) && firstU s.idx
theorem rightS_front (s:SchV):rightS s=(frontS s && (s.cols.all colOk && unlikeB sameCol s.cols) && (s.idx.all (placesB s.cols.length) && unlikeB sameIdx s.idx)):=by
 unfold rightS frontS colsB idxB
 generalize namedB s.name=a1
 generalize s.cols.all colOk=a2
 generalize (decide (1≤s.cols.length) && decide (s.cols.length≤8))=a3
 generalize unlikeB sameCol s.cols=a4
 generalize s.idx.all (placesB s.cols.length)=a5
 generalize (decide (1≤s.idx.length) && decide (s.idx.length≤4))=a6
 generalize firstU s.idx=a7
 generalize unlikeB sameIdx s.idx=a8
 generalize ((decide (1≤s.limit) && decide (s.limit≤1000)) && ((decide (1≤s.parts) && decide (s.parts≤8)) && (decide (0≤s.by_) && decide (s.by_≤(s.cols.length:Int) - 1))))=a9
 cases a1<;>cases a2<;>cases a3<;>cases a4<;>cases a5<;>cases a6<;>cases a7<;>cases a8<;>cases a9<;>rfl
theorem strC_length (l:List (List UInt8)):(strC l).length=l.length:=by simp [strC]
theorem named_list (w:World) (B:Nat→Prop) (v:Value) (l:List (List UInt8)) (h:Sl w B 1 v l.length (strC l)) (hl:∀ s∈l,s.length≤1000000) :
 Calls Tryz.prog 102 #[v] w fun e w'=>e=.returned (.bool (l.all namedL))∧Below w.heap.size w w':=by
 obtain ⟨p,cap,rfl,hc1,hc2⟩:=h.form
 have H:=Lib.hid h
 have HL:=Lib.hid hl
 clear h hl
 obtain ⟨out,hout⟩:∃ out,l.all namedL=out:=⟨_,rfl⟩
 rw [hout]
 have HO:=Lib.hid hout
 clear hout
 go_enter Tryz.func102,Tryz.ntmps102
 go_wp2
 go_loopw [7] (fun i wr=>∃ k:Nat,i=.int .i64 k∧k≤l.length∧(l.take k).all namedL=true∧Below w.heap.size w wr) (fun i _=>l.length - (intOf i).toNat)
 case atStart=>exact ⟨0,rfl,Nat.zero_le _,rfl,Below.refl _ _⟩
 case round =>
  obtain ⟨k,rfl,hk,hall,hb⟩:=hrel
  have HB:=Lib.hid hb
  have HA:=Lib.hid hall
  clear hall
  by_cases hka:k < l.length
  ·obtain ⟨g,off,cap1,hv,_,_,hgb,hglt,hc⟩:=(H.out.below hb).place (by omega)
   cases hv
   have e0:wr.cell? ⟨g,off+k,none⟩=some (.string (bs l[k])):=by rw [hc k (by rw [strC_length];exact hka)];simp [strC,hka]
   have HX:=Lib.hid (all_next namedL l k hka HA.out)
   have HY:=Lib.hid (all_not namedL l k hka)
   have hn:=named_any wr (bs l[k]) (by rw [bs_size];have:=HL.out l[k] (List.getElem_mem hka);unfold maxLen;omega)
   unfold namedB at hn
   rw [bs_data] at hn
   have HN:=Lib.hid hn
   clear hb hc hn
   generalize l[k]=x at *
   cases hx:namedL x
   ·rw [hx] at HN
    have HF:=Lib.hid (HY.out hx)
    clear HX HY hx
    go_wp2_with fail
    refine HN.out.mono ?_
    rintro e w3 ⟨rfl,hb3⟩
    have HB3:=Lib.hid (HB.out.trans (hb3.mono HB.out.size))
    clear hb3
    go_wp2
    go_ret
    exact ⟨by rw [←HO.out,HF.out];rfl,HB3.out⟩
   ·rw [hx] at HN
    have HF:=Lib.hid (HX.out hx)
    clear HX HY hx
    go_wp2_with fail
    refine HN.out.mono ?_
    rintro e w3 ⟨rfl,hb3⟩
    have HB3:=Lib.hid (HB.out.trans (hb3.mono HB.out.size))
    clear hb3
    go_wp2
    exact ⟨⟨k+1,by go_num,by omega,HF.out,HB3.out⟩,by (simp [intOf])<;>omega⟩
  ·obtain rfl:k=l.length:=by omega
   have hz:out=true:=by rw [←HO.out,←HA.out,List.take_length]
   have HZ:=Lib.hid hz
   clear hb hz
   go_wp2
   go_ret
   exact ⟨by rw [HZ.out];rfl,HB.out⟩
def firstI {α:Type} (p:α→Bool) (l:List α):Int:=match l.findIdx? p with
 | some i=>(i:Int)
 | none=>-1
theorem firstI_at {α:Type} (p:α→Bool):∀ (l:List α) (k:Nat) (h:k < l.length),(l.take k).all (fun x=>!p x)=true→p l[k]=true→firstI p l=k
 | x::l,0,_,_,h2=>by
  have h3:p x=true:=h2
  unfold firstI
  simp [List.findIdx?_cons,h3]
 | x::l,k+1,h,h1,h2=>by
  rw [List.take_succ_cons,List.all_cons,Bool.and_eq_true] at h1
  have ih:=firstI_at p l k (by simpa using h) h1.2 h2
  have hx:p x=false:=by simpa using h1.1
  unfold firstI at ih ⊢
  rw [List.findIdx?_cons,hx]
  cases hq:l.findIdx? p with
  | none=>rw [hq] at ih;simp at ih
  | some j=>rw [hq] at ih;simp at ih ⊢;omega
theorem firstI_none {α:Type} (p:α→Bool) (l:List α) (h:l.all (fun x=>!p x)=true):firstI p l=-1:=by
 unfold firstI
 have:l.findIdx? p=none:=by
  rw [List.findIdx?_eq_none_iff]
  intro x hx
  rw [List.all_eq_true] at h
  simpa using h x hx
 rw [this]
def nameIs (s:ByteArray) (c:ColV):Bool:=c.name.toList == s.toList
theorem col1_any (w:World) (c:ColV) (s:ByteArray) (b:Nat) (hb:w.cell? ⟨b,0,none⟩=some (.string s)) (hlt:b < w.heap.size) :
 Calls Tryz.prog 90 #[.agg #[.string c.name,.int .i64 c.kind],.pointer (some ⟨b,0,none⟩)] w fun e w'=>e=.returned (.bool (nameIs s c))∧Below w.heap.size w w':=by
 obtain ⟨nm,k⟩:=c
 simp only [nameIs]
 obtain ⟨w1,hw1⟩:∃ w1,w.alloc (.cells #[.string nm,.int .i64 k] 149)=w1:=⟨_,rfl⟩
 have b1:Below w.heap.size w w1:=hw1▸(Below.refl _ _).alloc (Nat.le_refl _) _
 have k1:Blk w1 w.heap.size 149 [.string nm,.int .i64 k]:=by rw [←hw1];exact Blk.new w _ _
 have x0:=k1.cell 0
 simp only [List.getElem?_cons_zero] at x0
 have y0:=(b1.cell hlt).trans hb
 have HB:=Lib.hid b1
 clear b1 k1 hb hlt
 go_enter Tryz.func90,Tryz.ntmps90
 go_wp2
 go_ret
 exact ⟨rfl,HB.out⟩
theorem indexf_col (w:World) (B:Nat→Prop) (v:Value) (l:List ColV) (s:ByteArray) (b:Nat) (h:Sl w B 2 v l.length (colCells l)) (hb:w.cell? ⟨b,0,none⟩=some (.string s)) (hlt:b < w.heap.size) :
 Calls Tryz.prog 89 #[v,.func (.func 90) #[] #[.pointer (some ⟨b,0,none⟩)]] w fun e w'=>e=.returned (.int .i64 (firstI (nameIs s) l))∧Below w.heap.size w w':=by
 obtain ⟨p,cap,rfl,hc1,hc2⟩:=h.form
 have H:=Lib.hid h
 have HC:=Lib.hid (fun W (hw:Below w.heap.size w W) c=>col1_any W c s b ((hw.cell hlt).trans hb) (Nat.lt_of_lt_of_le hlt hw.size))
 clear h hb hlt
 obtain ⟨out,hout⟩:∃ out,firstI (nameIs s) l=out:=⟨_,rfl⟩
 rw [hout]
 have HO:=Lib.hid hout
 clear hout
 go_enter Tryz.func89,Tryz.ntmps89
 go_wp2
 go_loopw [8] (fun i wr=>∃ k:Nat,i=.int .i64 k∧k≤l.length∧(l.take k).all (fun x=>!nameIs s x)=true∧Below w.heap.size w wr) (fun i _=>l.length - (intOf i).toNat)
 case atStart=>exact ⟨0,rfl,Nat.zero_le _,rfl,Below.refl _ _⟩
 case round =>
  obtain ⟨k,rfl,hk,hall,hbw⟩:=hrel
  have HB:=Lib.hid hbw
  have HA:=Lib.hid hall
  clear hall
  by_cases hka:k < l.length
  ·obtain ⟨g,off,cap1,hv,hg,e0,e1⟩:=sl_col (H.out.below hbw) hka
   cases hv
   have HX:=Lib.hid (all_next (fun x=>!nameIs s x) l k hka HA.out)
   have HY:=Lib.hid (firstI_at (nameIs s) l k hka HA.out)
   have HN:=Lib.hid (HC.out wr hbw l[k])
   clear hbw
   generalize l[k]=x at *
   cases hx:nameIs s x
   ·rw [hx] at HN
    have HF:=Lib.hid (HX.out (by rw [hx];rfl))
    clear HX HY hx
    go_wp2_with fail
    refine HN.out.mono ?_
    rintro e w3 ⟨rfl,hb3⟩
    have HB3:=Lib.hid (HB.out.trans (hb3.mono HB.out.size))
    clear hb3
    go_wp2
    exact ⟨⟨k+1,by go_num,by omega,HF.out,HB3.out⟩,by (simp [intOf])<;>omega⟩
   ·rw [hx] at HN
    have HF:=Lib.hid (HY.out hx)
    clear HX HY hx
    go_wp2_with fail
    refine HN.out.mono ?_
    rintro e w3 ⟨rfl,hb3⟩
    have HB3:=Lib.hid (HB.out.trans (hb3.mono HB.out.size))
    clear hb3
    go_wp2
    go_ret
    exact ⟨by rw [←HO.out,HF.out];rfl,HB3.out⟩
  ·obtain rfl:k=l.length:=by omega
   have hz:out=-1:=by rw [←HO.out];exact firstI_none _ _ (by have:=HA.out;rwa [List.take_length] at this)
   have HZ:=Lib.hid hz
   clear hbw hz
   go_wp2
   go_ret
   exact ⟨by rw [HZ.out];rfl,HB.out⟩
theorem col_any (w:World) (B:Nat→Prop) (s:SchV) (nm:ByteArray) (h:SchAt w B s) :
 Calls Tryz.prog 70 #[s.agg,.string nm] w fun e w'=>e=.returned (.int .i64 (firstI (nameIs nm) s.cols))∧Below w.heap.size w w':=by
 obtain ⟨pc,cc,hpc,hcc1,hcc⟩:=h.cols.form
 obtain ⟨pi,ci,hpi,hci1,hci⟩:=h.idx.1.form
 have hga:s.agg=.agg #[.string s.name,.slice pc s.cols.length cc,.slice pi s.idx.length ci,.int .i64 s.limit,.int .i64 s.parts,.int .i64 s.by_]:=by unfold SchV.agg;rw [hpc,hpi]
 rw [hga]
 obtain ⟨w1,hw1⟩:∃ w1,w.alloc (.cells #[.string s.name,.slice pc s.cols.length cc,.slice pi s.idx.length ci,.int .i64 s.limit,.int .i64 s.parts,.int .i64 s.by_] 121)=w1:=⟨_,rfl⟩
 obtain ⟨w2,hw2⟩:∃ w2,w1.alloc (.cells #[.string nm] 9)=w2:=⟨_,rfl⟩
 have b1:Below w.heap.size w w1:=hw1▸(Below.refl _ _).alloc (Nat.le_refl _) _
 have b2:Below w1.heap.size w1 w2:=hw2▸(Below.refl _ _).alloc (Nat.le_refl _) _
 have b12:=b1.trans (b2.mono b1.size)
 have k1:Blk w1 w.heap.size 121 [.string s.name,.slice pc s.cols.length cc,.slice pi s.idx.length ci,.int .i64 s.limit,.int .i64 s.parts,.int .i64 s.by_]:=by rw [←hw1];exact Blk.new w _ _
 have k2:Blk w2 w1.heap.size 9 [.string nm]:=by rw [←hw2];exact Blk.new w1 _ _
 obtain ⟨x0,x1,x2,x3,x4,x5⟩:=sch_cells (k1.below b2)
 have HI:=Lib.hid (indexf_col w2 B (.slice pc s.cols.length cc) s.cols nm w1.heap.size ((hpc▸h.cols).below b12) (k2.cell 0) k2.lt)
 have HB:=Lib.hid b12
 clear b1 b2 b12 k1 k2 hga hpc hpi h
 generalize firstI (nameIs nm) s.cols=out at *
 go_enter Tryz.func70,Tryz.ntmps70
 go_wp2_with fail
 refine HI.out.mono ?_
 rintro e w3 ⟨rfl,hb3⟩
 have HB3:=Lib.hid (HB.out.trans (hb3.mono HB.out.size))
 clear hb3
 go_wp2
 go_ret
 exact ⟨rfl,HB3.out⟩
structure Hd where
 op:Int
 n:Int
 s:ByteArray
 name:ByteArray
 src:ByteArray
inductive EX where
 | leaf (h:Hd)
 | one (h:Hd) (v:Value) (a:EX)
 | two (h:Hd) (v:Value) (a b:EX)
structure KnA where
 name:ByteArray
 val:AV
 cols:List ColV
 rows:List (List AV)
 is:Int
def zeroA:AV:=⟨0,0,⟨#[]⟩⟩
abbrev RA (α:Type):=α × Int × Nat
abbrev Ans:=RA AV
def wrongA (e:Int) (f:Nat):Ans:=(zeroA,e,f)
def intA (n:Int) (f:Nat):Ans:=(⟨1,n,⟨#[]⟩⟩,0,f)
def boolA (b:Bool) (f:Nat):Ans:=(⟨3,if b then 1 else 0,⟨#[]⟩⟩,0,f)
def numA (n e:Int) (f:Nat):Ans:=if e≠0 then wrongA e f else intA n f
def findK (l:List KnA) (nm:ByteArray) (p:Int→Bool):Option KnA:=l.reverse.find? fun k=>(k.name.toList == nm.toList) && p k.is
def colA (k:KnA) (nm:ByteArray) (f:Nat):Ans :=
 if k.is=1∧0≤firstI (nameIs nm) k.cols then (match ((k.rows[0]?).getD [])[(firstI (nameIs nm) k.cols).toNat]? with|some v=>(v,0,f)|none=>wrongA 13 f) else wrongA 13 f
def leafA (h:Hd) (l:List KnA) (f:Nat):Ans :=
 if h.op=1 then intA h.n f else if h.op=2 then (⟨2,0,h.s⟩,0,f) else if h.op=3 then boolA (decide (h.n=1)) f
 else match findK l h.name (fun i=>i == 0 || i == 1) with
  | some k=>if h.op=4 then (if k.is=0 then (k.val,0,f) else wrongA 13 f) else colA k h.s f
  | none=>wrongA 13 f
def sumsA (op:Int) (a b:AV) (f:Nat):Ans :=
 if a.kind≠1 then wrongA 13 f else if op=6 then numA (shortN (a.n+b.n)) (shortE (a.n+b.n)) f else if op=7 then numA (shortN (a.n - b.n)) (shortE (a.n - b.n)) f
 else if op=8 then numA (shortN (a.n*b.n)) (shortE (a.n*b.n)) f else if op=9 then numA (dvN a.n b.n) (dvE a.n b.n) f else numA (mdN a.n b.n) (mdE b.n) f
def cmpA (op:Int) (a b:AV) (f:Nat):Ans :=
 if op=11 then boolA (decide (cmpV a b=0)) f else if op=12 then boolA (decide (cmpV a b≠0)) f else if a.kind=3 then wrongA 13 f
 else if op=13 then boolA (decide (cmpV a b < 0)) f else if op=14 then boolA (decide (cmpV a b≤0)) f else if op=15 then boolA (decide (0≤cmpV a b)) f else boolA (decide (0 < cmpV a b)) f
structure Tally where
 c:Nat
 z:Int
 least:Int
 most:Int
def Tally.put (t:Tally) (n:Int):Tally:=⟨t.c+1,t.z+n,if t.c=0 then n else min n t.least,if t.c=0 then n else max n t.most⟩
def toldA (op:Int) (t:Tally) (f:Nat):Ans :=
 if op=21 then intA t.c f else if op=22 then numA (shortN t.z) (shortE t.z) f else if t.c=0 then wrongA 8 f else if op=23 then intA t.least f else intA t.most f
def stepF (F:Nat→Ans):Nat→Ans:=fun f=>match f with
 | 0=>wrongA 16 0
 | f+1=>F f
def bindA {α:Type} (F:Nat→RA α) (G:α→Nat→Ans):Nat→Ans:=fun f=>if (F f).2.1≠0 then wrongA (F f).2.1 (F f).2.2 else G (F f).1 (F f).2.2
def ofF (F:Nat→Ans) (kind:Int):Nat→Ans:=fun f=>if (F f).2.1=0∧(F f).1.kind≠kind then ((F f).1,13,(F f).2.2) else F f
def cnt1 (F:Nat→Ans):Nat→RA (Int × Bool):=fun f=>if (ofF F 3 f).2.1≠0∨(ofF F 3 f).1.n=0 then ((0,false),(ofF F 3 f).2.1,(ofF F 3 f).2.2) else ((0,true),0,(ofF F 3 f).2.2)
def cnt2 (F G:Nat→Ans):Nat→RA (Int × Bool):=fun f=>if (ofF F 3 f).2.1≠0∨(ofF F 3 f).1.n=0 then ((0,false),(ofF F 3 f).2.1,(ofF F 3 f).2.2)
 else (((ofF G 1 (ofF F 3 f).2.2).1.n,decide ((ofF G 1 (ofF F 3 f).2.2).2.1=0)),(ofF G 1 (ofF F 3 f).2.2).2.1,(ofF G 1 (ofF F 3 f).2.2).2.2)
def foldR (op:Int) (cnt:List AV→Nat→RA (Int × Bool)):List (List AV)→Tally→Nat→Ans
 | [],t=>toldA op t
 | r::rs,t=>stepF (bindA (cnt r) fun x=>foldR op cnt rs (if x.2 then t.put x.1 else t))
def foldF (h:Hd) (l:List KnA) (cnt:List KnA→Nat→RA (Int × Bool)):Nat→Ans:=fun f=>match findK l h.src (fun i=>i == 2) with
 | some k=>foldR h.op (fun r=>cnt (l++[⟨h.name,zeroA,k.cols,[r],1⟩])) k.rows ⟨0,0,0,0⟩ f
 | none=>wrongA 13 f
def oneF (op:Int) (F:Nat→Ans):Nat→Ans:=bindA (ofF F (if op=19 then 3 else 1)) fun x f=>if op=19 then boolA (decide (x.n=0)) f else numA (shortN (-x.n)) (shortE (-x.n)) f
def bothF (op:Int) (F G:Nat→Ans):Nat→Ans:=bindA (ofF F 3) fun x f=>if (decide (x.n=1))=(decide (op=18)) then (x,0,f) else bindA (ofF G 3) (fun y f=>(y,0,f)) f
def twoF (op:Int) (F G:Nat→Ans):Nat→Ans:=bindA F fun a=>bindA G fun b f=>if a.kind≠b.kind then wrongA 13 f else if op≤10 then sumsA op a b f else cmpA op a b f
def evalX:EX→List KnA→Nat→Ans
 | .leaf h,l=>stepF (leafA h l)
 | .one h _ a,l=>stepF (if h.op=19∨h.op=20 then oneF h.op (evalX a l) else foldF h l fun l'=>cnt1 (evalX a l'))
 | .two h _ a b,l=>stepF (if h.op=17∨h.op=18 then bothF h.op (evalX a l) (evalX b l) else if 22≤h.op then foldF h l fun l'=>cnt2 (evalX a l') (evalX b l') else twoF h.op (evalX a l) (evalX b l))
def Fuels {α:Type} (z:α) (F:Nat→RA α):Prop:=∀ f,((F f).2.1=16→(F f).2.2=0∧(F f).1=z)∧((F f).2.1≠16→∀ m,F (f+m)=((F f).1,(F f).2.1,(F f).2.2+m))
theorem Fuels.pure {α:Type} {z:α} {F:Nat→RA α} (x:α) (e:Int) (he:e≠16) (h:∀ f,F f=(x,e,f)):Fuels z F:=fun f=>by
 rw [h]
 exact ⟨fun h1=>absurd h1 he,fun _ m=>by rw [h]⟩
theorem Fuels.step {F:Nat→Ans} (h:Fuels zeroA F):Fuels zeroA (stepF F)
 | 0=>⟨fun _=>⟨rfl,rfl⟩,fun h1=>absurd rfl h1⟩
 | f+1=>by
  refine ⟨(h f).1,fun h1 m=>?_⟩
  rw [show f+1+m=(f+m)+1 by omega]
  exact (h f).2 h1 m
theorem Fuels.bind {α:Type} {z:α} {F:Nat→RA α} {G:α→Nat→Ans} (hF:Fuels z F) (hG:∀ x,Fuels zeroA (G x)):Fuels zeroA (bindA F G):=fun f=>by
 unfold bindA
 by_cases h0:(F f).2.1=0
 ·have h1:=(hF f).2 (by rw [h0];decide)
  rw [if_neg (by rw [h0];simp)]
  refine ⟨(hG _ _).1,fun h2 m=>?_⟩
  rw [h1 m,if_neg (by simp [h0])]
  exact (hG _ _).2 h2 m
 ·rw [if_pos h0]
  refine ⟨fun h1=>⟨((hF f).1 h1).1,rfl⟩,fun h1 m=>?_⟩
  rw [(hF f).2 h1 m,if_pos h0]
  rfl
theorem Fuels.of {F:Nat→Ans} (hF:Fuels zeroA F) (k:Int):Fuels zeroA (ofF F k):=fun f=>by
 unfold ofF
 by_cases h0:(F f).2.1=0∧(F f).1.kind≠k
 ·rw [if_pos h0]
  refine ⟨fun h1=>absurd (show (13:Int)=16 from h1) (by decide),fun _ m=>?_⟩
  rw [(hF f).2 (by rw [h0.1];decide) m,if_pos h0]
 ·rw [if_neg h0]
  refine ⟨(hF f).1,fun h1 m=>?_⟩
  rw [(hF f).2 h1 m,if_neg h0]
theorem Fuels.cnt1 {F:Nat→Ans} (hF:Fuels zeroA F):Fuels (0,false) (cnt1 F):=fun f=>by
 have hO:=(hF.of 3) f
 unfold Go.Proofs.YtnpplhkpnbonaaaGreat.cnt1
 by_cases h0:(ofF F 3 f).2.1≠0∨(ofF F 3 f).1.n=0
 ·rw [if_pos h0]
  refine ⟨fun h1=>⟨(hO.1 h1).1,rfl⟩,fun h1 m=>?_⟩
  rw [hO.2 h1 m,if_pos h0]
 ·rw [if_neg h0]
  refine ⟨fun h1=>absurd (show (0:Int)=16 from h1) (by decide),fun _ m=>?_⟩
  have h1:(ofF F 3 f).2.1=0:=Decidable.byContradiction fun h=>h0 (.inl h)
  rw [hO.2 (by rw [h1];decide) m,if_neg h0]
theorem Fuels.cnt2 {F G:Nat→Ans} (hF:Fuels zeroA F) (hG:Fuels zeroA G):Fuels (0,false) (cnt2 F G):=fun f=>by
 have hO:=(hF.of 3) f
 unfold Go.Proofs.YtnpplhkpnbonaaaGreat.cnt2
 by_cases h0:(ofF F 3 f).2.1≠0∨(ofF F 3 f).1.n=0
 ·rw [if_pos h0]
  refine ⟨fun h1=>⟨(hO.1 h1).1,rfl⟩,fun h1 m=>?_⟩
  rw [hO.2 h1 m,if_pos h0]
 ·rw [if_neg h0]
  have h1:(ofF F 3 f).2.1=0:=Decidable.byContradiction fun h=>h0 (.inl h)
  have hO2:=hO.2 (by rw [h1];decide)
  have hP:=(hG.of 1) (ofF F 3 f).2.2
  refine ⟨fun h2=>?_,fun h2 m=>?_⟩
  ·obtain ⟨h3,h4⟩:=hP.1 h2
   refine ⟨h3,?_⟩
   show ((ofF G 1 (ofF F 3 f).2.2).1.n,decide ((ofF G 1 (ofF F 3 f).2.2).2.1=0))=(0,false)
   rw [h4,show (ofF G 1 (ofF F 3 f).2.2).2.1=16 from h2]
   rfl
  ·rw [hO2 m,if_neg h0]
   simp only
   rw [hP.2 h2 m]
theorem numA_fuel (n e:Int) (he:e≠16):Fuels zeroA (numA n e):=by
 by_cases h:e=0
 ·exact Fuels.pure (⟨1,n,⟨#[]⟩⟩:AV) 0 (by decide) fun f=>by unfold numA;rw [if_neg (by simp [h])];rfl
 ·exact Fuels.pure _ _ he fun f=>by unfold numA;rw [if_pos h];rfl
theorem wrongA_fuel (e:Int) (he:e≠16):Fuels zeroA (wrongA e):=Fuels.pure zeroA e he fun _=>rfl
theorem intA_fuel (n:Int):Fuels zeroA (intA n):=Fuels.pure (⟨1,n,⟨#[]⟩⟩:AV) 0 (by decide) fun _=>rfl
theorem boolA_fuel (b:Bool):Fuels zeroA (boolA b):=Fuels.pure (⟨3,if b then 1 else 0,⟨#[]⟩⟩:AV) 0 (by decide) fun _=>rfl
theorem shortE_16 (z:Int):shortE z≠16:=by unfold shortE;split<;>decide
theorem dvE_16 (a b:Int):dvE a b≠16:=by
 unfold dvE
 split
 ·decide
 ·split
  ·exact shortE_16 _
  ·decide
theorem mdE_16 (b:Int):mdE b≠16:=by unfold mdE;split<;>decide
theorem Fuels.ite {c:Prop} [Decidable c] {F G:Nat→Ans} (hF:Fuels zeroA F) (hG:Fuels zeroA G):Fuels zeroA (fun f=>if c then F f else G f):=by
 by_cases h:c
 ·simp only [if_pos h];exact hF
 ·simp only [if_neg h];exact hG
theorem sumsA_fuel (op:Int) (a b:AV):Fuels zeroA (sumsA op a b) :=
 .ite (wrongA_fuel 13 (by decide)) (.ite (numA_fuel _ _ (shortE_16 _)) (.ite (numA_fuel _ _ (shortE_16 _)) (.ite (numA_fuel _ _ (shortE_16 _)) (.ite (numA_fuel _ _ (dvE_16 _ _)) (numA_fuel _ _ (mdE_16 _))))))
theorem cmpA_fuel (op:Int) (a b:AV):Fuels zeroA (cmpA op a b) :=
 .ite (boolA_fuel _) (.ite (boolA_fuel _) (.ite (wrongA_fuel 13 (by decide)) (.ite (boolA_fuel _) (.ite (boolA_fuel _) (.ite (boolA_fuel _) (boolA_fuel _))))))
theorem toldA_fuel (op:Int) (t:Tally):Fuels zeroA (toldA op t) :=
 .ite (intA_fuel _) (.ite (numA_fuel _ _ (shortE_16 _)) (.ite (wrongA_fuel 8 (by decide)) (.ite (intA_fuel _) (intA_fuel _))))
theorem colA_fuel (k:KnA) (nm:ByteArray):Fuels zeroA (colA k nm):=by
 refine .ite ?_ (wrongA_fuel 13 (by decide))
 cases ((k.rows[0]?).getD [])[(firstI (nameIs nm) k.cols).toNat]? with
 | none=>exact wrongA_fuel 13 (by decide)
 | some v=>exact Fuels.pure v 0 (by decide) fun _=>rfl
theorem leafA_fuel (h:Hd) (l:List KnA):Fuels zeroA (leafA h l):=by
 refine .ite (intA_fuel _) (.ite (Fuels.pure (⟨2,0,h.s⟩:AV) 0 (by decide) fun _=>rfl) (.ite (boolA_fuel _) ?_))
 cases findK l h.name (fun i=>i == 0 || i == 1) with
 | none=>exact wrongA_fuel 13 (by decide)
 | some k=>exact .ite (.ite (Fuels.pure k.val 0 (by decide) fun _=>rfl) (wrongA_fuel 13 (by decide))) (colA_fuel k h.s)
theorem foldR_fuel (op:Int) (cnt:List AV→Nat→RA (Int × Bool)) (hc:∀ r,Fuels (0,false) (cnt r)):∀ (rs:List (List AV)) (t:Tally),Fuels zeroA (foldR op cnt rs t)
 | [],t=>toldA_fuel op t
 | r::rs,t=>Fuels.step (Fuels.bind (hc r) fun x=>foldR_fuel op cnt hc rs _)
theorem foldF_fuel (h:Hd) (l:List KnA) (cnt:List KnA→Nat→RA (Int × Bool)) (hc:∀ l,Fuels (0,false) (cnt l)):Fuels zeroA (foldF h l cnt):=by
 unfold foldF
 cases findK l h.src (fun i=>i == 2) with
 | none=>exact wrongA_fuel 13 (by decide)
 | some k=>exact foldR_fuel _ _ (fun r=>hc _) _ _
theorem ite_fuel {c:Prop} [Decidable c] {F G:Nat→Ans} (hF:Fuels zeroA F) (hG:Fuels zeroA G):Fuels zeroA (if c then F else G):=by
 split<;>assumption
theorem evalX_fuel:∀ (x:EX) (l:List KnA),Fuels zeroA (evalX x l)
 | .leaf h,l=>Fuels.step (leafA_fuel h l)
 | .one h _ a,l=>Fuels.step (ite_fuel
  (Fuels.bind ((evalX_fuel a l).of _) fun x=>.ite (boolA_fuel _) (numA_fuel _ _ (shortE_16 _)))
  (foldF_fuel h l _ fun l'=>(evalX_fuel a l').cnt1))
 | .two h _ a b,l=>Fuels.step (ite_fuel
  (Fuels.bind ((evalX_fuel a l).of 3) fun x=>.ite (Fuels.pure x 0 (by decide) fun _=>rfl) (Fuels.bind ((evalX_fuel b l).of 3) fun y=>Fuels.pure y 0 (by decide) fun _=>rfl))
  (ite_fuel (foldF_fuel h l _ fun l'=>(evalX_fuel a l').cnt2 (evalX_fuel b l'))
   (Fuels.bind (evalX_fuel a l) fun x=>Fuels.bind (evalX_fuel b l) fun y=>.ite (wrongA_fuel 13 (by decide)) (.ite (sumsA_fuel _ _ _) (cmpA_fuel _ _ _)))))
structure WdV where
 kind:Int
 text:ByteArray
 n:Int
 pos:Int
def WdV.cells (x:WdV):List Value:=[.int .i64 x.kind,.string x.text,.int .i64 x.n,.int .i64 x.pos]
def wdC (l:List WdV):List Value:=(l.map WdV.cells).flatten
theorem wdC_len (l:List WdV):(wdC l).length=l.length*4:=by
 induction l with
 | nil=>rfl
 | cons x t ih=>show (x.cells++wdC t).length=_;rw [List.length_append,ih,List.length_cons];show 4+_=_;omega
theorem wdC_at (l:List WdV) (k r:Nat) (hk:k < l.length) (hr:r < 4):(wdC l)[k*4+r]?=(l[k].cells)[r]?:=by
 induction l generalizing k with
 | nil=>simp at hk
 | cons x t ih =>
  show (x.cells++wdC t)[k*4+r]?=_
  cases k with
  | zero=>rw [Nat.zero_mul,Nat.zero_add,List.getElem?_append_left (show r < 4 from hr)];rfl
  | succ k =>
   rw [List.getElem?_append_right (by show 4≤_;omega),show (k+1)*4+r - x.cells.length=k*4+r by show (k+1)*4+r - 4=_;omega]
   exact ih k (by simpa using hk)
theorem wdC_snoc (l:List WdV) (x:WdV):wdC (l++[x])=wdC l++x.cells:=by simp [wdC]
structure PSt where
 i:Nat
 op:Int
 deep:Bool
 bad:Bool
structure PS (w:World) (sb:Nat) (wv:Value) (ws:List WdV) (s:PSt):Prop where
 blk:Blk w sb 59 [wv,.int .i64 (s.i:Int),.int .i64 s.op,.bool s.deep,.bool s.bad]
 sl:Sl w (fun q=>q≠sb) 4 wv ws.length (wdC ws)
 le:s.i≤ws.length
 lim:ws.length≤1000000
 n64:∀ x∈ws,fit64 x.n∧fit64 x.kind∧x.text.size≤maxLen
theorem PS.below {w w':World} {sb:Nat} {wv:Value} {ws:List WdV} {s:PSt} (h:PS w sb wv ws s) (hb:Below w.heap.size w w'):PS w' sb wv ws s:=⟨h.blk.below hb,h.sl.below hb,h.le,h.lim,h.n64⟩
theorem PS.form {w:World} {sb:Nat} {wv:Value} {ws:List WdV} {s:PSt} (h:PS w sb wv ws s):∃ p c,wv=.slice p ws.length c:=by
 obtain ⟨p,c,h1,_⟩:=h.sl.form
 exact ⟨p,c,h1⟩
theorem PS.at {w:World} {sb:Nat} {wv:Value} {ws:List WdV} {s:PSt} (h:PS w sb wv ws s) {k:Nat} (hk:k < ws.length) :
 ∃ g off cap,wv=.slice (some ⟨g,off,none⟩) ws.length cap∧g < w.heap.size∧g≠sb∧w.cell? ⟨g,off+k*4,none⟩=some (.int .i64 ws[k].kind)∧w.cell? ⟨g,off+k*4+1,none⟩=some (.string ws[k].text)∧w.cell? ⟨g,off+k*4+2,none⟩=some (.int .i64 ws[k].n)∧w.cell? ⟨g,off+k*4+3,none⟩=some (.int .i64 ws[k].pos):=by
 obtain ⟨g,off,cap,hv,_,_,hg,hgl,hcs⟩:=h.sl.place (by omega)
 have h0:∀ r,r < 4→w.cell? ⟨g,off+(k*4+r),none⟩=(ws[k].cells)[r]?:=fun r hr=>by rw [hcs _ (by rw [wdC_len];omega),wdC_at ws k r hk hr]
 exact ⟨g,off,cap,hv,hgl,hg,h0 0 (by omega),h0 1 (by omega),h0 2 (by omega),h0 3 (by omega)⟩
theorem says_any (w:World) (x:WdV) (t:ByteArray):Calls Tryz.prog 83 #[.agg #[.int .i64 x.kind,.string x.text,.int .i64 x.n,.int .i64 x.pos],.string t] w fun e w'=>∃ b,e=.returned (.bool b)∧Below w.heap.size w w':=by
 obtain ⟨kd,tx,n,ps⟩:=x
 simp only
 have hb1:=(Below.refl w.heap.size w).alloc (Nat.le_refl _) (.cells #[.int .i64 kd,.string tx,.int .i64 n,.int .i64 ps] 82)
 have hk1:=Blk.new w 82 [.int .i64 kd,.string tx,.int .i64 n,.int .i64 ps]
 have HB1:=Lib.hid hb1
 go_enter Tryz.func83,Tryz.ntmps83
 by_cases h0:kd=0
 ·subst h0
  go_wp2
  go_ret
  exact ⟨_,rfl,HB1.out⟩
 ·by_cases h3:kd=3
  ·subst h3
   go_wp2
   go_ret
   exact ⟨_,rfl,HB1.out⟩
  ·go_wp2
   go_ret
   exact ⟨_,rfl,HB1.out⟩
def IsOut (w:World) (ws:List WdV) (s:PSt) (e:Ending) (w':World):Prop:=∃ b,e=.returned (.bool b)∧(b=true→s.bad=false∧s.i < ws.length)∧Below w.heap.size w w'
theorem is_any (w:World) (sb:Nat) (wv:Value) (ws:List WdV) (s:PSt) (h:PS w sb wv ws s) (t:ByteArray) :
 Calls Tryz.prog 55 #[.pointer (some ⟨sb,0,none⟩),.string t] w (IsOut w ws s):=by
 obtain ⟨pw,cw,hwv⟩:=h.form
 have hbk:=h.blk
 rw [hwv] at hbk
 have c0:w.cell? ⟨sb,0,none⟩=some (.slice pw ws.length cw):=hbk.cell 0
 have c1:w.cell? ⟨sb,1,none⟩=some (.int .i64 (s.i:Int)):=hbk.cell 1
 have c2:w.cell? ⟨sb,2,none⟩=some (.int .i64 s.op):=hbk.cell 2
 have c3:w.cell? ⟨sb,3,none⟩=some (.bool s.deep):=hbk.cell 3
 have c4:w.cell? ⟨sb,4,none⟩=some (.bool s.bad):=hbk.cell 4
 have hfz:∀ i,w.frozen? ⟨sb,i,none⟩=false:=hbk.frozen
 have hlt:=hbk.lt
 have hle:=h.le
 have hlim:=h.lim
 obtain ⟨i,op,deep,bad⟩:=s
 simp only at c1 c2 c3 c4 hle ⊢
 by_cases hi:i < ws.length
 ·obtain ⟨g,off,cap,hv,hgl,hg,e0,e1,e2,e3⟩:=h.at hi
  rw [hwv] at hv
  cases hv
  have HSY:=Lib.hid (fun W=>says_any W ws[i] t)
  generalize ws[i]=x at *
  obtain ⟨xk,xt,xn,xp⟩:=x
  simp only at e0 e1 e2 e3 HSY
  clear h hbk hwv
  go_enter Tryz.func55,Tryz.ntmps55
  cases bad with
  | true =>
   go_wp2
   refine wp_region_lit_plan [] [(0,0),(1,0),(2,0),(3,1),(4,0),(5,0),(6,0),(7,0),(8,0),(10,0),(11,0),(12,0),(9,1),(13,1),(14,0),(15,0),(16,0),(17,0),(18,0),(19,0),(20,0),(22,0),(23,0),(24,0),(28,0),(21,1),(25,1),(26,0),(27,1),(29,4),(30,0),(31,0)] ((fun q=>q=sb∨q=g)) (by kernel_rfl) (by kernel_rfl) (fun c a d v w h=>by cases d<;>exact h) ?_
   go_wp2_with (first|(refine stp ?_))
   go_ret
   exact ⟨false,rfl,by simp,(Below.refl _ _).drew⟩
  | false =>
   go_wp2
   refine wp_region_lit_plan [] [(0,0),(1,0),(2,0),(3,1),(4,0),(5,0),(6,0),(7,0),(8,0),(10,0),(11,0),(12,0),(9,1),(13,1),(14,0),(15,0),(16,0),(17,0),(18,0),(19,0),(20,0),(22,0),(23,0),(24,0),(28,0),(21,1),(25,1),(26,0),(27,1),(29,4),(30,0),(31,0)] ((fun q=>q=sb∨q=g)) (by kernel_rfl) (by kernel_rfl) (fun c a d v w h=>by cases d<;>exact h) ?_
   go_wp2_with (first|(refine stp ?_))
   refine (HSY.out _).mono ?_
   rintro e w2 ⟨b,rfl,hb2⟩
   have HB2:=Lib.hid hb2
   clear hb2
   go_wp2_with (first|(refine stp ?_))
   go_ret
   exact ⟨b,rfl,fun _=>⟨rfl,hi⟩,(Below.refl _ _).drew.trans HB2.out⟩
 ·clear h hbk hwv
  go_enter Tryz.func55,Tryz.ntmps55
  cases bad with
  | true =>
   go_wp2
   refine wp_region_lit_plan [] [(0,0),(1,0),(2,0),(3,1),(4,0),(5,0),(6,0),(7,0),(8,0),(10,0),(11,0),(12,0),(9,1),(13,1),(14,0),(15,0),(16,0),(17,0),(18,0),(19,0),(20,0),(22,0),(23,0),(24,0),(28,0),(21,1),(25,1),(26,0),(27,1),(29,4),(30,0),(31,0)] ((fun q=>q=sb)) (by kernel_rfl) (by kernel_rfl) (fun c a d v w h=>by cases d<;>exact h) ?_
   go_wp2_with (first|(refine stp ?_))
   go_ret
   exact ⟨false,rfl,by simp,(Below.refl _ _).drew⟩
  | false =>
   go_wp2
   refine wp_region_lit_plan [] [(0,0),(1,0),(2,0),(3,1),(4,0),(5,0),(6,0),(7,0),(8,0),(10,0),(11,0),(12,0),(9,1),(13,1),(14,0),(15,0),(16,0),(17,0),(18,0),(19,0),(20,0),(22,0),(23,0),(24,0),(28,0),(21,1),(25,1),(26,0),(27,1),(29,4),(30,0),(31,0)] ((fun q=>q=sb)) (by kernel_rfl) (by kernel_rfl) (fun c a d v w h=>by cases d<;>exact h) ?_
   go_wp2_with (first|(refine stp ?_))
   go_ret
   exact ⟨false,rfl,by simp,(Below.refl _ _).drew⟩
end Go.Proofs.YtnpplhkpnbonaaaGreat
namespace Go.Proofs.YtnpplhkpnbonaaaGreat
open Go.RowKit Go.Afx
section
variable {w w' : World} {sb : Nat} {wv : Value} {ws : List WdV} {s : PSt}
theorem PS.only {k:Nat} {o:Int} {d b:Bool} (h:PS w sb wv ws s) (hb:Blk w' sb 59 [wv,.int .i64 ((s.i+k:Nat):Int),.int .i64 o,.bool d,.bool b]) (ho:Only (fun q=>q=sb) w w') (hk:s.i+k≤ws.length):PS w' sb wv ws ⟨s.i+k,o,d,b⟩ :=
 ⟨hb,h.sl.only ho (fun _ hq he=>hq he),hk,h.lim,h.n64⟩
theorem PS.next (h:PS w sb wv ws s) (hi:s.i < ws.length):PS (w.setCell ⟨sb,1,none⟩ (.int .i64 ((s.i:Int)+1))) sb wv ws ⟨s.i+1,s.op,s.deep,s.bad⟩ :=
 PS.only h (by
  have h1:=h.blk.set 1 (.int .i64 ((s.i:Int)+1))
  rw [show ((s.i+1:Nat):Int)=(s.i:Int)+1 by omega]
  exact h1) ((Only.refl (fun q=>q=sb) w).setCell (fun _=>rfl) _) hi
theorem PS.spoil (h:PS w sb wv ws s):PS (w.setCell ⟨sb,4,none⟩ (.bool true)) sb wv ws ⟨s.i,s.op,s.deep,true⟩ :=
 PS.only (k:=0) h (h.blk.set 4 (.bool true)) ((Only.refl (fun q=>q=sb) w).setCell (fun _=>rfl) _) h.le
theorem PS.sink (h:PS w sb wv ws s):PS (w.setCell ⟨sb,3,none⟩ (.bool true)) sb wv ws ⟨s.i,s.op,true,s.bad⟩ :=
 PS.only (k:=0) h (h.blk.set 3 (.bool true)) ((Only.refl (fun q=>q=sb) w).setCell (fun _=>rfl) _) h.le
theorem PS.opens (h:PS w sb wv ws s) (o:Int):PS (w.setCell ⟨sb,2,none⟩ (.int .i64 o)) sb wv ws ⟨s.i,o,s.deep,s.bad⟩ :=
 PS.only (k:=0) h (h.blk.set 2 (.int .i64 o)) ((Only.refl (fun q=>q=sb) w).setCell (fun _=>rfl) _) h.le
structure StepP (w w':World) (sb:Nat) (wv:Value) (ws:List WdV) (s s':PSt):Prop where
 ps:PS w' sb wv ws s'
 only:Only (fun q=>q=sb) w w'
 up:s.i≤s'.i
 worse:s.bad=true→s'.bad=true
theorem StepP.refl (h:PS w sb wv ws s):StepP w w sb wv ws s s:=⟨h,Only.refl _ _,Nat.le_refl _,id⟩
theorem StepP.bel (h:PS w sb wv ws s) (hb:Below w.heap.size w w'):StepP w w' sb wv ws s s:=⟨h.below hb,Only.of_none hb,Nat.le_refl _,id⟩
theorem StepP.trans {w'':World} {s' s'':PSt} (h:StepP w w' sb wv ws s s') (k:StepP w' w'' sb wv ws s' s''):StepP w w'' sb wv ws s s'':=⟨k.ps,h.only.trans k.only (fun _ _ h=>h),Nat.le_trans h.up k.up,fun hb=>k.worse (h.worse hb)⟩
theorem StepP.next {s':PSt} (h:StepP w w' sb wv ws s s') (hi:s'.i < ws.length):StepP w (w'.setCell ⟨sb,1,none⟩ (.int .i64 ((s'.i:Int)+1))) sb wv ws s ⟨s'.i+1,s'.op,s'.deep,s'.bad⟩ :=
 ⟨h.ps.next hi,h.only.setCell (fun _=>rfl) _,Nat.le_succ_of_le h.up,h.worse⟩
theorem StepP.spoil {s':PSt} (h:StepP w w' sb wv ws s s'):StepP w (w'.setCell ⟨sb,4,none⟩ (.bool true)) sb wv ws s ⟨s'.i,s'.op,s'.deep,true⟩:=⟨h.ps.spoil,h.only.setCell (fun _=>rfl) _,h.up,fun _=>rfl⟩
theorem StepP.sink {s':PSt} (h:StepP w w' sb wv ws s s'):StepP w (w'.setCell ⟨sb,3,none⟩ (.bool true)) sb wv ws s ⟨s'.i,s'.op,true,s'.bad⟩:=⟨h.ps.sink,h.only.setCell (fun _=>rfl) _,h.up,h.worse⟩
theorem StepP.opens {s':PSt} (h:StepP w w' sb wv ws s s') (o:Int):StepP w (w'.setCell ⟨sb,2,none⟩ (.int .i64 o)) sb wv ws s ⟨s'.i,o,s'.deep,s'.bad⟩:=⟨h.ps.opens o,h.only.setCell (fun _=>rfl) _,h.up,h.worse⟩
theorem StepP.drew {s':PSt} (h:StepP w w' sb wv ws s s'):StepP w w'.drew sb wv ws s s':=⟨h.ps.below (Below.refl _ _).drew,h.only.drew,h.up,h.worse⟩
theorem StepP.on {w'':World} {s':PSt} (h:StepP w w' sb wv ws s s') (hb:Below w'.heap.size w' w''):StepP w w'' sb wv ws s s':=h.trans (StepP.bel h.ps hb)
def Mz (ws:List WdV) (s:PSt):Nat:=if s.bad then 0 else ws.length - s.i
theorem Mz.good (hb:s.bad=false):Mz ws s=ws.length - s.i:=by unfold Mz;rw [hb];rfl
theorem StepP.mz {s':PSt} (h:StepP w w' sb wv ws s s'):Mz ws s'≤Mz ws s:=by
 have hu:=h.up
 unfold Mz
 cases hb:s.bad with
 | true=>rw [h.worse hb];simp
 | false =>
  cases s'.bad with
  | true=>simp
  | false=>simp only [Bool.false_eq_true,if_false];omega
def MayOut (w:World) (sb:Nat) (wv:Value) (ws:List WdV) (s:PSt) (e:Ending) (w':World):Prop :=
 ∃ b s',e=.returned (.bool b)∧StepP w w' sb wv ws s s'∧(b=false→s'=s)∧(b=true→s.bad=false∧s.i < ws.length∧s'=⟨s.i+1,s.op,s.deep,s.bad⟩)
end
theorem may_any (w:World) (sb:Nat) (wv:Value) (ws:List WdV) (s:PSt) (h:PS w sb wv ws s) (t:ByteArray) :
 Calls Tryz.prog 33 #[.pointer (some ⟨sb,0,none⟩),.string t] w (MayOut w sb wv ws s):=by
 have HI:=Lib.hid (is_any w sb wv ws s h t)
 have HS:=Lib.hid h
 clear h
 go_enter Tryz.func33,Tryz.ntmps33
 go_wp2_with fail
 refine HI.out.mono ?_
 clear HI
 rintro e w2 ⟨b,rfl,hb,hb2⟩
 have h2:=StepP.bel HS.out hb2
 have H2:=Lib.hid h2
 have HB:=Lib.hid hb
 have hps:=h2.ps
 have hbk:=hps.blk
 have c1:w2.cell? ⟨sb,1,none⟩=some (.int .i64 (s.i:Int)):=hbk.cell 1
 have hfz:∀ i,w2.frozen? ⟨sb,i,none⟩=false:=hbk.frozen
 have hlt:=hbk.lt
 have hle:=hps.le
 have hlim:=hps.lim
 clear h2 hb hb2 hps hbk
 cases b with
 | false =>
  go_wp2
  go_ret
  exact ⟨false,s,rfl,H2.out,fun _=>rfl,by simp⟩
 | true =>
  obtain ⟨hb0,hi⟩:=HB.out rfl
  go_wp2
  go_ret
  exact ⟨true,_,rfl,H2.out.next hi,by simp,fun _=>⟨hb0,hi,rfl⟩⟩
def TakeP (w:World) (sb:Nat) (wv:Value) (ws:List WdV) (s:PSt) (e:Ending) (w':World):Prop:=∃ s',e=.returned (.tuple #[])∧StepP w w' sb wv ws s s'∧Mz ws s'≤Mz ws s - 1
def GoOut (w:World) (sb:Nat) (wv:Value) (ws:List WdV) (s:PSt) (e:Ending) (w':World):Prop:=∃ s',e=.returned (.tuple #[])∧StepP w w' sb wv ws s s'
theorem take_anyP (w:World) (sb:Nat) (wv:Value) (ws:List WdV) (s:PSt) (h:PS w sb wv ws s) (t:ByteArray) :
 Calls Tryz.prog 58 #[.pointer (some ⟨sb,0,none⟩),.string t] w (TakeP w sb wv ws s):=by
 have HI:=Lib.hid (is_any w sb wv ws s h t)
 have HS:=Lib.hid h
 clear h
 go_enter Tryz.func58,Tryz.ntmps58
 go_wp2_with fail
 refine HI.out.mono ?_
 clear HI
 rintro e w2 ⟨b,rfl,hb,hb2⟩
 have h2:=StepP.bel HS.out hb2
 have H2:=Lib.hid h2
 have HB:=Lib.hid hb
 have hps:=h2.ps
 have hbk:=hps.blk
 have c1:w2.cell? ⟨sb,1,none⟩=some (.int .i64 (s.i:Int)):=hbk.cell 1
 have c4:w2.cell? ⟨sb,4,none⟩=some (.bool s.bad):=hbk.cell 4
 have hfz:∀ i,w2.frozen? ⟨sb,i,none⟩=false:=hbk.frozen
 have hlt:=hbk.lt
 have hle:=hps.le
 have hlim:=hps.lim
 clear h2 hb hb2 hps hbk
 cases b with
 | false =>
  go_wp2
  go_end0
  exact ⟨_,rfl,H2.out.spoil,Nat.zero_le _⟩
 | true =>
  obtain ⟨hb0,hi⟩:=HB.out rfl
  go_wp2
  go_end0
  exact ⟨_,rfl,H2.out.next hi,by rw [Mz.good (s:=s) hb0,Mz.good (s:=⟨s.i+1,s.op,s.deep,s.bad⟩) hb0];simp only;omega⟩
theorem enter_any (w:World) (sb:Nat) (wv:Value) (ws:List WdV) (s:PSt) (h:PS w sb wv ws s) :
 Calls Tryz.prog 34 #[.pointer (some ⟨sb,0,none⟩)] w (GoOut w sb wv ws s):=by
 obtain ⟨pw,cw,hwv⟩:=h.form
 have hbk:=h.blk
 rw [hwv] at hbk
 have c0:w.cell? ⟨sb,0,none⟩=some (.slice pw ws.length cw):=hbk.cell 0
 have c1:w.cell? ⟨sb,1,none⟩=some (.int .i64 (s.i:Int)):=hbk.cell 1
 have c2:w.cell? ⟨sb,2,none⟩=some (.int .i64 s.op):=hbk.cell 2
 have c3:w.cell? ⟨sb,3,none⟩=some (.bool s.deep):=hbk.cell 3
 have c4:w.cell? ⟨sb,4,none⟩=some (.bool s.bad):=hbk.cell 4
 have hfz:∀ i,w.frozen? ⟨sb,i,none⟩=false:=hbk.frozen
 have hlt:=hbk.lt
 have hle:=h.le
 have hlim:=h.lim
 have HS:=Lib.hid (StepP.refl h)
 obtain ⟨i,op,deep,bad⟩:=s
 simp only at c1 c2 c3 c4 hle
 obtain ⟨o2,ho2⟩:∃ o2,IntKind.i64.wrap (op+1)=o2:=⟨_,rfl⟩
 clear h hbk hwv
 go_enter Tryz.func34,Tryz.ntmps34
 by_cases ho:60 < o2
 ·cases bad with
  | true =>
   go_wp2
   go_end0
   exact ⟨_,rfl,HS.out.opens _⟩
  | false =>
   go_wp2
   go_end0
   exact ⟨_,rfl,(HS.out.opens _).sink.spoil⟩
 ·go_wp2
  go_end0
  exact ⟨_,rfl,HS.out.opens _⟩
end Go.Proofs.YtnpplhkpnbonaaaGreat
namespace Go.Proofs.YtnpplhkpnbonaaaGreat
open Go.RowKit Go.Afx
structure TxtAt (w:World) (g:Nat) (n:Nat):Prop where
 cells:∀ k,k < n→∃ t,w.cell? ⟨g,k,none⟩=some (.string t)
 lt:g < w.heap.size
def resWords:List Value:=[.string ⟨#[97,110,100]⟩,.string ⟨#[111,114]⟩,.string ⟨#[110,111,116]⟩,.string ⟨#[116,114,117,101]⟩,.string ⟨#[102,97,108,115,101]⟩,.string ⟨#[108,101,116]⟩,.string ⟨#[115,101,116]⟩,.string ⟨#[105,110,115,101,114,116]⟩,.string ⟨#[117,112,100,97,116,101]⟩,.string ⟨#[100,101,108,101,116,101]⟩,.string ⟨#[102,111,114]⟩,.string ⟨#[105,110]⟩,.string ⟨#[119,104,101,114,101]⟩,.string ⟨#[108,105,109,105,116]⟩,.string ⟨#[105,102]⟩,.string ⟨#[101,108,115,101]⟩,.string ⟨#[101,109,105,116]⟩,.string ⟨#[97,98,111,114,116]⟩,.string ⟨#[114,101,112,108,121]⟩,.string ⟨#[99,111,117,110,116]⟩,.string ⟨#[115,117,109]⟩,.string ⟨#[109,105,110]⟩,.string ⟨#[109,97,120]⟩,.string ⟨#[105,110,116]⟩,.string ⟨#[116,101,120,116]⟩,.string ⟨#[98,111,111,108]⟩,.string ⟨#[116,97,98,108,101]⟩,.string ⟨#[115,116,114,101,97,109]⟩,.string ⟨#[119,105,110,100,111,119]⟩,.string ⟨#[115,105,110,107]⟩,.string ⟨#[112,114,111,99]⟩,.string ⟨#[107,101,121]⟩,.string ⟨#[117,110,105,113,117,101]⟩,.string ⟨#[105,110,100,101,120]⟩,.string ⟨#[112,97,114,116,115]⟩,.string ⟨#[98,121]⟩,.string ⟨#[111,110]⟩,.string ⟨#[102,114,111,109]⟩,.string ⟨#[97,116]⟩,.string ⟨#[102,117,101,108]⟩,.string ⟨#[116,117,112,108,101,115]⟩,.string ⟨#[98,97,116,99,104,101,115]⟩,.string ⟨#[115,108,105,100,101]⟩]
theorem resWords_at (w:World):TxtAt (w.alloc (.cells #[.string ⟨#[97,110,100]⟩,.string ⟨#[111,114]⟩,.string ⟨#[110,111,116]⟩,.string ⟨#[116,114,117,101]⟩,.string ⟨#[102,97,108,115,101]⟩,.string ⟨#[108,101,116]⟩,.string ⟨#[115,101,116]⟩,.string ⟨#[105,110,115,101,114,116]⟩,.string ⟨#[117,112,100,97,116,101]⟩,.string ⟨#[100,101,108,101,116,101]⟩,.string ⟨#[102,111,114]⟩,.string ⟨#[105,110]⟩,.string ⟨#[119,104,101,114,101]⟩,.string ⟨#[108,105,109,105,116]⟩,.string ⟨#[105,102]⟩,.string ⟨#[101,108,115,101]⟩,.string ⟨#[101,109,105,116]⟩,.string ⟨#[97,98,111,114,116]⟩,.string ⟨#[114,101,112,108,121]⟩,.string ⟨#[99,111,117,110,116]⟩,.string ⟨#[115,117,109]⟩,.string ⟨#[109,105,110]⟩,.string ⟨#[109,97,120]⟩,.string ⟨#[105,110,116]⟩,.string ⟨#[116,101,120,116]⟩,.string ⟨#[98,111,111,108]⟩,.string ⟨#[116,97,98,108,101]⟩,.string ⟨#[115,116,114,101,97,109]⟩,.string ⟨#[119,105,110,100,111,119]⟩,.string ⟨#[115,105,110,107]⟩,.string ⟨#[112,114,111,99]⟩,.string ⟨#[107,101,121]⟩,.string ⟨#[117,110,105,113,117,101]⟩,.string ⟨#[105,110,100,101,120]⟩,.string ⟨#[112,97,114,116,115]⟩,.string ⟨#[98,121]⟩,.string ⟨#[111,110]⟩,.string ⟨#[102,114,111,109]⟩,.string ⟨#[97,116]⟩,.string ⟨#[102,117,101,108]⟩,.string ⟨#[116,117,112,108,101,115]⟩,.string ⟨#[98,97,116,99,104,101,115]⟩,.string ⟨#[115,108,105,100,101]⟩] 9)) w.heap.size 43:=by
 have hk:Blk (w.alloc (.cells #[.string ⟨#[97,110,100]⟩,.string ⟨#[111,114]⟩,.string ⟨#[110,111,116]⟩,.string ⟨#[116,114,117,101]⟩,.string ⟨#[102,97,108,115,101]⟩,.string ⟨#[108,101,116]⟩,.string ⟨#[115,101,116]⟩,.string ⟨#[105,110,115,101,114,116]⟩,.string ⟨#[117,112,100,97,116,101]⟩,.string ⟨#[100,101,108,101,116,101]⟩,.string ⟨#[102,111,114]⟩,.string ⟨#[105,110]⟩,.string ⟨#[119,104,101,114,101]⟩,.string ⟨#[108,105,109,105,116]⟩,.string ⟨#[105,102]⟩,.string ⟨#[101,108,115,101]⟩,.string ⟨#[101,109,105,116]⟩,.string ⟨#[97,98,111,114,116]⟩,.string ⟨#[114,101,112,108,121]⟩,.string ⟨#[99,111,117,110,116]⟩,.string ⟨#[115,117,109]⟩,.string ⟨#[109,105,110]⟩,.string ⟨#[109,97,120]⟩,.string ⟨#[105,110,116]⟩,.string ⟨#[116,101,120,116]⟩,.string ⟨#[98,111,111,108]⟩,.string ⟨#[116,97,98,108,101]⟩,.string ⟨#[115,116,114,101,97,109]⟩,.string ⟨#[119,105,110,100,111,119]⟩,.string ⟨#[115,105,110,107]⟩,.string ⟨#[112,114,111,99]⟩,.string ⟨#[107,101,121]⟩,.string ⟨#[117,110,105,113,117,101]⟩,.string ⟨#[105,110,100,101,120]⟩,.string ⟨#[112,97,114,116,115]⟩,.string ⟨#[98,121]⟩,.string ⟨#[111,110]⟩,.string ⟨#[102,114,111,109]⟩,.string ⟨#[97,116]⟩,.string ⟨#[102,117,101,108]⟩,.string ⟨#[116,117,112,108,101,115]⟩,.string ⟨#[98,97,116,99,104,101,115]⟩,.string ⟨#[115,108,105,100,101]⟩] 9)) w.heap.size 9 resWords:=Blk.new w _ _
 refine ⟨fun k hk2=>?_,hk.lt⟩
 rw [hk.cell k]
 have h:∀ k,k < 43→∃ t,resWords[k]?=some (.string t):=by
  intro k hk
  have hlen:resWords.length=43:=rfl
  rw [List.getElem?_eq_getElem (by rw [hlen];exact hk)]
  have hall:∀ v∈resWords,∃ t,v=.string t:=by
   intro v hv
   simp only [resWords,List.mem_cons,List.not_mem_nil,or_false] at hv
   rcases hv with rfl|rfl|rfl|rfl|rfl|rfl|rfl|rfl|rfl|rfl|rfl|rfl|rfl|rfl|rfl|rfl|rfl|rfl|rfl|rfl|rfl|rfl|rfl|rfl|rfl|rfl|rfl|rfl|rfl|rfl|rfl|rfl|rfl|rfl|rfl|rfl|rfl|rfl|rfl|rfl|rfl|rfl|rfl<;>exact ⟨_,rfl⟩
  obtain ⟨t,ht⟩:=hall _ (List.getElem_mem (by rw [hlen];exact hk))
  exact ⟨t,by rw [ht]⟩
 exact h k hk2
def SomeBool (w:World) (e:Ending) (w':World):Prop:=∃ b,e=.returned (.bool b)∧Below w.heap.size w w'
theorem reserved_any (w:World) (t:ByteArray):Calls Tryz.prog 61 #[.string t] w (SomeBool w):=by
 obtain ⟨w1,hw1⟩:∃ w1,w.alloc (.cells #[.string ⟨#[97,110,100]⟩,.string ⟨#[111,114]⟩,.string ⟨#[110,111,116]⟩,.string ⟨#[116,114,117,101]⟩,.string ⟨#[102,97,108,115,101]⟩,.string ⟨#[108,101,116]⟩,.string ⟨#[115,101,116]⟩,.string ⟨#[105,110,115,101,114,116]⟩,.string ⟨#[117,112,100,97,116,101]⟩,.string ⟨#[100,101,108,101,116,101]⟩,.string ⟨#[102,111,114]⟩,.string ⟨#[105,110]⟩,.string ⟨#[119,104,101,114,101]⟩,.string ⟨#[108,105,109,105,116]⟩,.string ⟨#[105,102]⟩,.string ⟨#[101,108,115,101]⟩,.string ⟨#[101,109,105,116]⟩,.string ⟨#[97,98,111,114,116]⟩,.string ⟨#[114,101,112,108,121]⟩,.string ⟨#[99,111,117,110,116]⟩,.string ⟨#[115,117,109]⟩,.string ⟨#[109,105,110]⟩,.string ⟨#[109,97,120]⟩,.string ⟨#[105,110,116]⟩,.string ⟨#[116,101,120,116]⟩,.string ⟨#[98,111,111,108]⟩,.string ⟨#[116,97,98,108,101]⟩,.string ⟨#[115,116,114,101,97,109]⟩,.string ⟨#[119,105,110,100,111,119]⟩,.string ⟨#[115,105,110,107]⟩,.string ⟨#[112,114,111,99]⟩,.string ⟨#[107,101,121]⟩,.string ⟨#[117,110,105,113,117,101]⟩,.string ⟨#[105,110,100,101,120]⟩,.string ⟨#[112,97,114,116,115]⟩,.string ⟨#[98,121]⟩,.string ⟨#[111,110]⟩,.string ⟨#[102,114,111,109]⟩,.string ⟨#[97,116]⟩,.string ⟨#[102,117,101,108]⟩,.string ⟨#[116,117,112,108,101,115]⟩,.string ⟨#[98,97,116,99,104,101,115]⟩,.string ⟨#[115,108,105,100,101]⟩] 9)=w1:=⟨_,rfl⟩
 have hb1:Below w.heap.size w w1:=hw1▸(Below.refl _ _).alloc (Nat.le_refl _) _
 have hk1:TxtAt w1 w.heap.size 43:=hw1▸resWords_at w
 have HB1:=Lib.hid hb1
 have HK1:=Lib.hid hk1
 clear hb1 hk1
 go_enter Tryz.func61,Tryz.ntmps61
 go_wp2
 clear hw1
 go_loopw [4] (fun iv wr=>∃ k:Nat,iv=.int .i64 k∧k≤43∧Below w.heap.size w wr∧TxtAt wr w.heap.size 43) (fun iv _=>43 - (intOf iv).toNat)
 case atStart=>exact ⟨0,rfl,Nat.zero_le _,HB1.out,HK1.out⟩
 case round =>
  obtain ⟨k,rfl,hk,hbr,hkr⟩:=hrel
  have HBR:=Lib.hid hbr
  have HKR:=Lib.hid hkr
  by_cases hkn:k < 43
  ·obtain ⟨x,hx⟩:=HKR.out.cells k hkn
   have hlt:=HKR.out.lt
   clear hbr hkr
   by_cases he:(x.toList == t.toList)=true
   ·go_wp2
    go_ret
    exact ⟨_,rfl,HBR.out⟩
   ·have he2:(x.toList == t.toList)=false:=by simpa using he
    clear he
    go_wp2
    go_roundw
    case rel=>exact ⟨k+1,by go_num,by omega,HBR.out,HKR.out⟩
    case measure=>(simp [intOf])<;>omega
  ·clear hbr hkr
   go_wp2
   go_ret
   exact ⟨_,rfl,HBR.out⟩
theorem kind_anyP (w:World) (sb:Nat) (wv:Value) (ws:List WdV) (s:PSt) (h:PS w sb wv ws s) (kd:Int) :
 Calls Tryz.prog 56 #[.pointer (some ⟨sb,0,none⟩),.int .i64 kd] w (IsOut w ws s):=by
 obtain ⟨pw,cw,hwv⟩:=h.form
 have hbk:=h.blk
 rw [hwv] at hbk
 have c0:w.cell? ⟨sb,0,none⟩=some (.slice pw ws.length cw):=hbk.cell 0
 have c1:w.cell? ⟨sb,1,none⟩=some (.int .i64 (s.i:Int)):=hbk.cell 1
 have c2:w.cell? ⟨sb,2,none⟩=some (.int .i64 s.op):=hbk.cell 2
 have c3:w.cell? ⟨sb,3,none⟩=some (.bool s.deep):=hbk.cell 3
 have c4:w.cell? ⟨sb,4,none⟩=some (.bool s.bad):=hbk.cell 4
 have hfz:∀ i,w.frozen? ⟨sb,i,none⟩=false:=hbk.frozen
 have hlt:=hbk.lt
 have hle:=h.le
 have hlim:=h.lim
 obtain ⟨i,op,deep,bad⟩:=s
 simp only at c1 c2 c3 c4 hle ⊢
 by_cases hi:i < ws.length
 ·obtain ⟨g,off,cap,hv,hgl,hg,e0,e1,e2,e3⟩:=h.at hi
  rw [hwv] at hv
  cases hv
  generalize ws[i]=x at *
  obtain ⟨xk,xt,xn,xp⟩:=x
  simp only at e0 e1 e2 e3
  clear h hbk hwv
  go_enter Tryz.func56,Tryz.ntmps56
  cases bad with
  | true =>
   go_wp2
   refine wp_region_lit_plan [] [(0,0),(1,0),(2,0),(3,1),(4,0),(5,0),(6,0),(7,0),(8,0),(10,0),(11,0),(12,0),(9,1),(13,1),(14,0),(15,0),(16,0),(17,0),(18,0),(19,0),(20,0),(22,0),(23,0),(24,0),(29,0),(21,1),(25,1),(26,0),(27,0),(28,1),(30,0),(31,0),(32,0)] ((fun q=>q=sb∨q=g)) (by kernel_rfl) (by kernel_rfl) (fun c a d v w h=>by cases d<;>exact h) ?_
   go_wp2_with (first|(refine stp ?_))
   go_ret
   exact ⟨false,rfl,by simp,(Below.refl _ _).drew⟩
  | false =>
   go_wp2
   refine wp_region_lit_plan [] [(0,0),(1,0),(2,0),(3,1),(4,0),(5,0),(6,0),(7,0),(8,0),(10,0),(11,0),(12,0),(9,1),(13,1),(14,0),(15,0),(16,0),(17,0),(18,0),(19,0),(20,0),(22,0),(23,0),(24,0),(29,0),(21,1),(25,1),(26,0),(27,0),(28,1),(30,0),(31,0),(32,0)] ((fun q=>q=sb∨q=g)) (by kernel_rfl) (by kernel_rfl) (fun c a d v w h=>by cases d<;>exact h) ?_
   go_wp2_with (first|(refine stp ?_))
   go_ret
   exact ⟨_,rfl,fun _=>⟨rfl,hi⟩,(Below.refl _ _).drew⟩
 ·clear h hbk hwv
  go_enter Tryz.func56,Tryz.ntmps56
  cases bad with
  | true =>
   go_wp2
   refine wp_region_lit_plan [] [(0,0),(1,0),(2,0),(3,1),(4,0),(5,0),(6,0),(7,0),(8,0),(10,0),(11,0),(12,0),(9,1),(13,1),(14,0),(15,0),(16,0),(17,0),(18,0),(19,0),(20,0),(22,0),(23,0),(24,0),(29,0),(21,1),(25,1),(26,0),(27,0),(28,1),(30,0),(31,0),(32,0)] ((fun q=>q=sb)) (by kernel_rfl) (by kernel_rfl) (fun c a d v w h=>by cases d<;>exact h) ?_
   go_wp2_with (first|(refine stp ?_))
   go_ret
   exact ⟨false,rfl,by simp,(Below.refl _ _).drew⟩
  | false =>
   go_wp2
   refine wp_region_lit_plan [] [(0,0),(1,0),(2,0),(3,1),(4,0),(5,0),(6,0),(7,0),(8,0),(10,0),(11,0),(12,0),(9,1),(13,1),(14,0),(15,0),(16,0),(17,0),(18,0),(19,0),(20,0),(22,0),(23,0),(24,0),(29,0),(21,1),(25,1),(26,0),(27,0),(28,1),(30,0),(31,0),(32,0)] ((fun q=>q=sb)) (by kernel_rfl) (by kernel_rfl) (fun c a d v w h=>by cases d<;>exact h) ?_
   go_wp2_with (first|(refine stp ?_))
   go_ret
   exact ⟨false,rfl,by simp,(Below.refl _ _).drew⟩
def NumOut (w:World) (sb:Nat) (wv:Value) (ws:List WdV) (s:PSt) (e:Ending) (w':World):Prop:=∃ n s',e=.returned (.int .i64 n)∧fit64 n∧StepP w w' sb wv ws s s'
theorem number_anyP (w:World) (sb:Nat) (wv:Value) (ws:List WdV) (s:PSt) (h:PS w sb wv ws s) :
 Calls Tryz.prog 57 #[.pointer (some ⟨sb,0,none⟩)] w (NumOut w sb wv ws s):=by
 have HI:=Lib.hid (kind_anyP w sb wv ws s h 1)
 have HS:=Lib.hid h
 clear h
 go_enter Tryz.func57,Tryz.ntmps57
 go_wp2_with fail
 refine HI.out.mono ?_
 clear HI
 rintro e w2 ⟨b,rfl,hb,hb2⟩
 have h2:=StepP.bel HS.out hb2
 have H2:=Lib.hid h2
 have HB:=Lib.hid hb
 cases b with
 | false =>
  have hbk:=h2.ps.blk
  have c4:w2.cell? ⟨sb,4,none⟩=some (.bool s.bad):=hbk.cell 4
  have hfz:∀ i,w2.frozen? ⟨sb,i,none⟩=false:=hbk.frozen
  have hlt:=hbk.lt
  clear h2 hb hb2 hbk
  go_wp2
  go_ret
  exact ⟨0,_,rfl,by unfold fit64;omega,H2.out.spoil⟩
 | true =>
  obtain ⟨hb0,hi⟩:=HB.out rfl
  have hbk:=h2.ps.blk
  have c1:w2.cell? ⟨sb,1,none⟩=some (.int .i64 (s.i:Int)):=hbk.cell 1
  have hfz:∀ i,w2.frozen? ⟨sb,i,none⟩=false:=hbk.frozen
  have hlt:=hbk.lt
  have hle:=h2.ps.le
  have hlim:=h2.ps.lim
  obtain ⟨w3,hw3⟩:∃ w3,w2.setCell ⟨sb,1,none⟩ (.int .i64 ((s.i:Int)+1))=w3:=⟨_,rfl⟩
  have h3:=h2.next hi
  rw [hw3] at h3
  obtain ⟨pw,cw,hwv⟩:=h3.ps.form
  have hbk3:=h3.ps.blk
  rw [hwv] at hbk3
  have d0:w3.cell? ⟨sb,0,none⟩=some (.slice pw ws.length cw):=hbk3.cell 0
  have d1:w3.cell? ⟨sb,1,none⟩=some (.int .i64 ((s.i:Int)+1)):=hbk3.cell 1
  obtain ⟨g,off,cap,hv,hgl,hg,e0,e1,e2,e3⟩:=h3.ps.at hi
  rw [hwv] at hv
  cases hv
  have hn:=(h3.ps.n64 _ (List.getElem_mem hi)).1
  generalize ws[s.i]=x at *
  have H3:=Lib.hid h3
  have HNN:=Lib.hid hn
  clear h2 hb hb2 hbk h3 hbk3 hwv hn e0 e1 e3
  go_upto_region 5 with fail
  clear hw3 c1
  refine wp_region_lit_plan [] [(0,0),(1,0),(2,0),(4,0),(5,0),(6,0),(3,1),(7,1),(8,0),(9,0),(10,0),(11,1),(12,0)] ((fun q=>q=sb∨q=g)) (by kernel_rfl) (by kernel_rfl) (fun c a d v w h=>by cases d<;>exact h) ?_
  go_wp2_with (first|(refine stp ?_))
  go_ret
  exact ⟨x.n,_,rfl,HNN.out,H3.out.drew⟩
def NameOut (w:World) (sb:Nat) (wv:Value) (ws:List WdV) (s:PSt) (e:Ending) (w':World):Prop:=∃ t s',e=.returned (.string t)∧t.size≤maxLen∧StepP w w' sb wv ws s s'
theorem name_anyP (w:World) (sb:Nat) (wv:Value) (ws:List WdV) (s:PSt) (h:PS w sb wv ws s) :
 Calls Tryz.prog 59 #[.pointer (some ⟨sb,0,none⟩)] w (NameOut w sb wv ws s):=by
 have hd:=h.below (Below.refl w.heap.size w).drew
 have HI:=Lib.hid (kind_anyP w.drew sb wv ws s hd 3)
 have HS:=Lib.hid h
 by_cases hi:s.i < ws.length
 ·obtain ⟨pw,cw,hwv⟩:=h.form
  have hbk:=h.blk
  rw [hwv] at hbk
  have c0:w.cell? ⟨sb,0,none⟩=some (.slice pw ws.length cw):=hbk.cell 0
  have c1:w.cell? ⟨sb,1,none⟩=some (.int .i64 (s.i:Int)):=hbk.cell 1
  have hlt:=hbk.lt
  have hle:=h.le
  have hlim:=h.lim
  obtain ⟨g,off,cap,hv,hgl,hg,e0,e1,e2,e3⟩:=h.at hi
  rw [hwv] at hv
  cases hv
  have hBQ:∀ q,(q=sb∨q=g)→q < w.drew.heap.size:=fun q hq=>by rcases hq with rfl|rfl<;>assumption
  have htx:=(h.n64 _ (List.getElem_mem hi)).2.2
  have HBQ:=Lib.hid hBQ
  have HTX:=Lib.hid htx
  have HG:=Lib.hid hg
  generalize ws[s.i]=x at *
  obtain ⟨xk,xt,xn,xp⟩:=x
  simp only at e0 e1 e2 e3 HTX
  clear h hd hbk hwv hBQ htx e0 e2 e3
  go_enter Tryz.func59,Tryz.ntmps59
  go_upto_region 1 with fail
  refine wp_region_lit_plan [] [(0,0),(1,4),(2,0),(3,0),(4,0),(5,0),(6,0),(8,0),(9,0),(10,0),(7,1),(11,1),(12,0),(13,0),(14,1),(15,4),(16,0)] ((fun q=>q=sb∨q=g)) (by kernel_rfl) (by kernel_rfl) (fun c a d v w h=>by cases d<;>exact h) ?_
  go_wp2_with (first|(refine stp ?_))
  refine HI.out.mono ?_
  clear HI
  rintro e w2 ⟨b,rfl,hb,hb2⟩
  have hag:Agree (fun q=>q=sb∨q=g) w.drew w2:=agree_bel hb2 HBQ.out
  have hb02:=(Below.refl w.heap.size w).drew.trans hb2
  have h2:=StepP.bel HS.out hb02
  have H2:=Lib.hid h2
  have hbk:=h2.ps.blk
  have d4:w2.cell? ⟨sb,4,none⟩=some (.bool s.bad):=hbk.cell 4
  have d1:w2.cell? ⟨sb,1,none⟩=some (.int .i64 (s.i:Int)):=hbk.cell 1
  have d0:w2.cell? ⟨sb,0,none⟩=some (.slice (some ⟨g,off,none⟩) ws.length cw):=(hb02.cell (p:=⟨sb,0,none⟩) hlt).trans c0
  have x1:w2.cell? ⟨g,off+s.i*4+1,none⟩=some (.string xt):=(hb02.cell (p:=⟨g,off+s.i*4+1,none⟩) hgl).trans e1
  have hfz:∀ i,w2.frozen? ⟨sb,i,none⟩=false:=hbk.frozen
  have hlt2:=hbk.lt
  have hgl2:g < w2.heap.size:=Nat.lt_of_lt_of_le hgl hb02.size
  clear c0 c1 hlt hgl e1 hb hb2 hb02 h2 hbk
  cases b with
  | false =>
   go_wp2_with (first|(refine stp ?_))
   go_wp2
   go_ret
   exact ⟨_,_,rfl,by decide,H2.out.spoil⟩
  | true =>
   have HR:=Lib.hid (reserved_any w2 xt)
   go_wp2_with (first|(refine stp ?_))
   clear hag d0 d1 d4 x1 hfz hlt2 hgl2
   refine HR.out.mono ?_
   clear HR
   rintro e w3 ⟨b,rfl,hb3⟩
   have h3:=H2.out.trans (StepP.bel H2.out.ps hb3)
   have H3:=Lib.hid h3
   have hbk:=h3.ps.blk
   have d4:w3.cell? ⟨sb,4,none⟩=some (.bool s.bad):=hbk.cell 4
   have d1:w3.cell? ⟨sb,1,none⟩=some (.int .i64 (s.i:Int)):=hbk.cell 1
   have hfz:∀ i,w3.frozen? ⟨sb,i,none⟩=false:=hbk.frozen
   have hlt2:=hbk.lt
   clear hb3 hbk
   cases b with
   | true =>
    clear h3
    go_wp2_with (first|(refine stp ?_))
    go_wp2
    go_ret
    exact ⟨_,_,rfl,by decide,H3.out.spoil⟩
   | false =>
    obtain ⟨w4,hw4⟩:∃ w4,w3.setCell ⟨sb,1,none⟩ (.int .i64 ((s.i:Int)+1))=w4:=⟨_,rfl⟩
    have h4:=h3.next hi
    rw [hw4] at h4
    obtain ⟨pw,cw',hwv⟩:=h4.ps.form
    have hbk4:=h4.ps.blk
    rw [hwv] at hbk4
    have f0:w4.cell? ⟨sb,0,none⟩=some (.slice pw ws.length cw'):=hbk4.cell 0
    have f1:w4.cell? ⟨sb,1,none⟩=some (.int .i64 ((s.i:Int)+1)):=hbk4.cell 1
    obtain ⟨g',off',cap',hv,hgl',hg',y0,y1,y2,y3⟩:=h4.ps.at hi
    rw [hwv] at hv
    cases hv
    have hn:=(h4.ps.n64 _ (List.getElem_mem hi)).2.2
    generalize ws[s.i]=x at *
    have H4:=Lib.hid h4
    have HNN:=Lib.hid hn
    clear h3 h4 hbk4 hwv hn y0 y2 y3
    go_upto_region 5 with (first|(refine stp ?_))
    clear hw4 d1 d4
    refine wp_region_lit_plan [] [(0,0),(1,0),(2,0),(4,0),(5,0),(6,0),(3,1),(7,1),(8,0),(9,0),(10,0),(11,1),(12,0)] ((fun q=>q=sb∨q=g')) (by kernel_rfl) (by kernel_rfl) (fun c a d v w h=>by cases d<;>exact h) ?_
    go_wp2_with (first|(refine stp ?_))
    go_ret
    exact ⟨x.text,_,rfl,HNN.out,H4.out.drew⟩
 ·obtain ⟨pw,cw,hwv⟩:=h.form
  have hbk:=h.blk
  rw [hwv] at hbk
  have hlt:=hbk.lt
  have HBQ:=Lib.hid (show ∀ q,(q=sb)→q < w.drew.heap.size from fun q hq=>by subst hq;exact hlt)
  clear h hd hbk hwv
  go_enter Tryz.func59,Tryz.ntmps59
  go_upto_region 1 with fail
  refine wp_region_lit_plan [] [(0,0),(1,4),(2,0),(3,0),(4,0),(5,0),(6,0),(8,0),(9,0),(10,0),(7,1),(11,1),(12,0),(13,0),(14,1),(15,4),(16,0)] ((fun q=>q=sb)) (by kernel_rfl) (by kernel_rfl) (fun c a d v w h=>by cases d<;>exact h) ?_
  go_wp2_with (first|(refine stp ?_))
  refine HI.out.mono ?_
  clear HI
  rintro e w2 ⟨b,rfl,hb,hb2⟩
  cases b with
  | true=>exact absurd (hb rfl).2 hi
  | false =>
   have hag:Agree (fun q=>q=sb) w.drew w2:=agree_bel hb2 HBQ.out
   have h2:=StepP.bel HS.out ((Below.refl w.heap.size w).drew.trans hb2)
   have H2:=Lib.hid h2
   have hbk:=h2.ps.blk
   have d4:w2.cell? ⟨sb,4,none⟩=some (.bool s.bad):=hbk.cell 4
   have hfz:∀ i,w2.frozen? ⟨sb,i,none⟩=false:=hbk.frozen
   have hlt2:=hbk.lt
   clear hlt hb hb2 h2 hbk
   go_wp2_with (first|(refine stp ?_))
   go_wp2
   go_ret
   exact ⟨_,_,rfl,by decide,H2.out.spoil⟩
def bindW:List Value:=[.string ⟨#[43]⟩,.string ⟨#[45]⟩,.string ⟨#[42]⟩,.string ⟨#[47]⟩,.string ⟨#[37]⟩,.string ⟨#[61]⟩,.string ⟨#[33,61]⟩,.string ⟨#[60]⟩,.string ⟨#[60,61]⟩,.string ⟨#[62,61]⟩,.string ⟨#[62]⟩,.string ⟨#[97,110,100]⟩,.string ⟨#[111,114]⟩]
def bindP:List Value:=[.int .i64 4,.int .i64 4,.int .i64 5,.int .i64 5,.int .i64 5,.int .i64 3,.int .i64 3,.int .i64 3,.int .i64 3,.int .i64 3,.int .i64 3,.int .i64 2,.int .i64 1]
structure BindAt (w:World) (g h:Nat):Prop where
 txt:∀ k,k < 13→∃ t,w.cell? ⟨g,k,none⟩=some (.string t)
 num:∀ k,k < 13→∃ p:Int,w.cell? ⟨h,k,none⟩=some (.int .i64 p)∧1≤p∧p≤5
 lg:g < w.heap.size
 lh:h < w.heap.size
theorem BindAt.below {w w':World} {g h:Nat} (k:BindAt w g h) (hb:Below w.heap.size w w'):BindAt w' g h :=
 ⟨fun i hi=>by obtain ⟨t,ht⟩:=k.txt i hi;exact ⟨t,(hb.cell (p:=⟨g,i,none⟩) k.lg).trans ht⟩,fun i hi=>by obtain ⟨p,hp,h2⟩:=k.num i hi;exact ⟨p,(hb.cell (p:=⟨h,i,none⟩) k.lh).trans hp,h2⟩,Nat.lt_of_lt_of_le k.lg hb.size,Nat.lt_of_lt_of_le k.lh hb.size⟩
theorem bind_at (w w1 w2:World) (h1:w.alloc (.cells #[.string ⟨#[43]⟩,.string ⟨#[45]⟩,.string ⟨#[42]⟩,.string ⟨#[47]⟩,.string ⟨#[37]⟩,.string ⟨#[61]⟩,.string ⟨#[33,61]⟩,.string ⟨#[60]⟩,.string ⟨#[60,61]⟩,.string ⟨#[62,61]⟩,.string ⟨#[62]⟩,.string ⟨#[97,110,100]⟩,.string ⟨#[111,114]⟩] 9)=w1) (h2:w1.alloc (.cells #[.int .i64 4,.int .i64 4,.int .i64 5,.int .i64 5,.int .i64 5,.int .i64 3,.int .i64 3,.int .i64 3,.int .i64 3,.int .i64 3,.int .i64 3,.int .i64 2,.int .i64 1] 3)=w2):BindAt w2 w.heap.size w1.heap.size:=by
 have hk1:Blk w1 w.heap.size 9 bindW:=h1▸Blk.new w _ _
 have hk2:Blk w2 w1.heap.size 3 bindP:=h2▸Blk.new w1 _ _
 have hk3:Blk w2 w.heap.size 9 bindW:=hk1.below (h2▸(Below.refl _ _).alloc (Nat.le_refl _) _)
 refine ⟨fun k hk=>?_,fun k hk=>?_,hk3.lt,hk2.lt⟩
 ·rw [hk3.cell k]
  have hlen:bindW.length=13:=rfl
  rw [List.getElem?_eq_getElem (by rw [hlen];exact hk)]
  have hall:∀ v∈bindW,∃ t,v=.string t:=by
   intro v hv
   simp only [bindW,List.mem_cons,List.not_mem_nil,or_false] at hv
   rcases hv with rfl|rfl|rfl|rfl|rfl|rfl|rfl|rfl|rfl|rfl|rfl|rfl|rfl<;>exact ⟨_,rfl⟩
  obtain ⟨t,ht⟩:=hall _ (List.getElem_mem (by rw [hlen];exact hk))
  exact ⟨t,by rw [ht]⟩
 ·rw [hk2.cell k]
  have hlen:bindP.length=13:=rfl
  rw [List.getElem?_eq_getElem (by rw [hlen];exact hk)]
  have hall:∀ v∈bindP,∃ p:Int,v=.int .i64 p∧1≤p∧p≤5:=by
   intro v hv
   simp only [bindP,List.mem_cons,List.not_mem_nil,or_false] at hv
   rcases hv with rfl|rfl|rfl|rfl|rfl|rfl|rfl|rfl|rfl|rfl|rfl|rfl|rfl<;>exact ⟨_,rfl,by decide,by decide⟩
  obtain ⟨p,ht,h2⟩:=hall _ (List.getElem_mem (by rw [hlen];exact hk))
  exact ⟨p,by rw [ht],h2⟩
def BindOut (w:World) (sb:Nat) (wv:Value) (ws:List WdV) (s:PSt) (e:Ending) (w':World):Prop :=
 ∃ o p:Int,e=.returned (.tuple #[.int .i64 o,.int .i64 p])∧Below w.heap.size w w'∧0≤p∧p≤5∧0≤o∧o≤18∧(p≠0→s.bad=false∧s.i < ws.length)
theorem bind_anyP (w:World) (sb:Nat) (wv:Value) (ws:List WdV) (s:PSt) (h:PS w sb wv ws s) :
 Calls Tryz.prog 37 #[.pointer (some ⟨sb,0,none⟩)] w (BindOut w sb wv ws s):=by
 obtain ⟨w1,hw1⟩:∃ w1,w.alloc (.cells #[.string ⟨#[43]⟩,.string ⟨#[45]⟩,.string ⟨#[42]⟩,.string ⟨#[47]⟩,.string ⟨#[37]⟩,.string ⟨#[61]⟩,.string ⟨#[33,61]⟩,.string ⟨#[60]⟩,.string ⟨#[60,61]⟩,.string ⟨#[62,61]⟩,.string ⟨#[62]⟩,.string ⟨#[97,110,100]⟩,.string ⟨#[111,114]⟩] 9)=w1:=⟨_,rfl⟩
 obtain ⟨w2,hw2⟩:∃ w2,w1.alloc (.cells #[.int .i64 4,.int .i64 4,.int .i64 5,.int .i64 5,.int .i64 5,.int .i64 3,.int .i64 3,.int .i64 3,.int .i64 3,.int .i64 3,.int .i64 3,.int .i64 2,.int .i64 1] 3)=w2:=⟨_,rfl⟩
 have hb1:Below w.heap.size w w1:=hw1▸(Below.refl _ _).alloc (Nat.le_refl _) _
 have hb2:Below w1.heap.size w1 w2:=hw2▸(Below.refl _ _).alloc (Nat.le_refl _) _
 have HB:=Lib.hid (hb1.trans (hb2.mono hb1.size))
 have HK:=Lib.hid (bind_at w w1 w2 hw1 hw2)
 have HS:=Lib.hid h
 clear hb1 hb2 h
 go_enter Tryz.func37,Tryz.ntmps37
 go_wp2
 clear hw1 hw2
 go_loopw [6] (fun iv wr=>∃ k:Nat,iv=.int .i64 k∧k≤13∧Below w.heap.size w wr∧BindAt wr w.heap.size w1.heap.size) (fun iv _=>13 - (intOf iv).toNat)
 case atStart=>exact ⟨0,rfl,Nat.zero_le _,HB.out,HK.out⟩
 case round =>
  obtain ⟨k,rfl,hk,hbr,hkr⟩:=hrel
  obtain ⟨wo,rfl⟩:∃ wo:World,wo=wr:=⟨_,rfl⟩
  have HBR:=Lib.hid hbr
  have HKR:=Lib.hid hkr
  by_cases hkn:k < 13
  ·obtain ⟨x,hx⟩:=HKR.out.txt k hkn
   have hlt:=HKR.out.lg
   have HIS:=Lib.hid (is_any wo sb wv ws s (HS.out.below hbr) x)
   clear hbr hkr
   go_wp2_with fail
   clear hx hlt
   refine HIS.out.mono ?_
   clear HIS
   rintro e w3 ⟨b,rfl,hb,hb3⟩
   have hbw:=HBR.out.trans (hb3.mono HBR.out.size)
   have hkw:=HKR.out.below hb3
   have HBW:=Lib.hid hbw
   have HKW:=Lib.hid hkw
   have HBB:=Lib.hid hb
   clear hb hb3 hbw hkw
   cases b with
   | true =>
    have HBT:=Lib.hid (HBB.out rfl)
    clear HBB
    obtain ⟨q,hq,hq1,hq2⟩:=HKW.out.num k hkn
    have hlt:=HKW.out.lh
    go_upto_region 7 with fail
    refine wp_region_lit_plan [] [(0,0),(1,0),(2,0),(3,0),(4,0),(6,0),(5,1),(7,0)] ((fun q=>q=w1.heap.size)) (by kernel_rfl) (by kernel_rfl) (fun c a d v w h=>by cases d<;>exact h) ?_
    go_wp2_with (first|(refine stp ?_))
    go_ret2
    exact ⟨_,q,rfl,HBW.out.trans ((Below.refl _ _).drew.mono HBW.out.size),by omega,hq2,by omega,by omega,fun _=>HBT.out⟩
   | false =>
    go_wp2
    go_roundw
    case rel=>exact ⟨k+1,by go_num,by omega,HBW.out,HKW.out⟩
    case measure=>(simp [intOf])<;>omega
  ·clear hbr hkr
   go_wp2
   go_ret2
   exact ⟨0,0,rfl,HBR.out,by omega,by omega,by omega,by omega,by simp⟩
def EX.hd:EX→Hd
 | .leaf h=>h
 | .one h _ _=>h
 | .two h _ _ _=>h
def EX.av:EX→Value
 | .leaf _=>.slice none 0 0
 | .one _ v _=>v
 | .two _ v _ _=>v
def EX.cells (x:EX):List Value:=[.int .i64 x.hd.op,.int .i64 x.hd.n,.string x.hd.s,.string x.hd.name,.string x.hd.src,x.av]
def EX.agg (x:EX):Value:=.agg #[.int .i64 x.hd.op,.int .i64 x.hd.n,.string x.hd.s,.string x.hd.name,.string x.hd.src,x.av]
def EX.at (w:World) (B:Nat→Prop):EX→Prop
 | .leaf _=>True
 | .one _ v a=>Sl w B 6 v 1 a.cells∧EX.at w B a
 | .two _ v a b=>Sl w B 6 v 2 (a.cells++b.cells)∧EX.at w B a∧EX.at w B b
def Hd.ok (h:Hd):Prop:=fit64 h.op∧fit64 h.n∧h.s.size≤maxLen∧h.name.size≤maxLen∧h.src.size≤maxLen
def EX.ok:EX→Prop
 | .leaf h=>h.ok
 | .one h _ a=>h.ok∧EX.ok a
 | .two h _ a b=>h.ok∧EX.ok a∧EX.ok b
theorem EX.form {w:World} {B:Nat→Prop}:∀ {x:EX},x.at w B→∃ p n c,x.av=.slice p n c
 | .leaf _,_=>⟨none,0,0,rfl⟩
 | .one _ _ _,h=>by obtain ⟨p,c,h1,_⟩:=h.1.form;exact ⟨p,_,c,h1⟩
 | .two _ _ _ _,h=>by obtain ⟨p,c,h1,_⟩:=h.1.form;exact ⟨p,_,c,h1⟩
theorem set_sixE {w:World} {b:Nat} {t:TypeId} {a0 a1 a2 a3 a4 a5:Value} (h:Blk w b t [a0,a1,a2,a3,a4,a5]) (v0 v1 v2 v3 v4 v5:Value) :
 Blk ((((((w.setCell ⟨b,0,none⟩ v0).setCell ⟨b,1,none⟩ v1).setCell ⟨b,2,none⟩ v2).setCell ⟨b,3,none⟩ v3).setCell ⟨b,4,none⟩ v4).setCell ⟨b,5,none⟩ v5) b t [v0,v1,v2,v3,v4,v5] ∧
 Only (fun q=>q=b) w ((((((w.setCell ⟨b,0,none⟩ v0).setCell ⟨b,1,none⟩ v1).setCell ⟨b,2,none⟩ v2).setCell ⟨b,3,none⟩ v3).setCell ⟨b,4,none⟩ v4).setCell ⟨b,5,none⟩ v5):=by
 refine ⟨?_,?_⟩
 ·have h1:=(((((h.set 0 v0).set 1 v1).set 2 v2).set 3 v3).set 4 v4).set 5 v5
  simpa only [List.set_cons_zero,List.set_cons_succ] using h1
 ·have step:∀ {u:World} (i:Nat) (v:Value),Only (fun q=>q=b) w u→Only (fun q=>q=b) w (u.setCell ⟨b,i,none⟩ v):=fun i v h=>h.setCell (p:=⟨b,i,none⟩) (fun _=>rfl) v
  exact step 5 v5 (step 4 v4 (step 3 v3 (step 2 v2 (step 1 v1 (step 0 v0 (Only.refl _ w))))))
theorem six_cells {w:World} {b:Nat} {t:TypeId} {a0 a1 a2 a3 a4 a5:Value} (h:Blk w b t [a0,a1,a2,a3,a4,a5]) :
 w.cell? ⟨b,0,none⟩=some a0∧w.cell? ⟨b,1,none⟩=some a1∧w.cell? ⟨b,2,none⟩=some a2∧w.cell? ⟨b,3,none⟩=some a3∧w.cell? ⟨b,4,none⟩=some a4∧w.cell? ⟨b,5,none⟩=some a5 :=
 ⟨h.cell 0,h.cell 1,h.cell 2,h.cell 3,h.cell 4,h.cell 5⟩
theorem EX.at_only {w w':World} {S B:Nat→Prop} (ho:Only S w w') (hd:∀ k,B k→¬ S k):∀ x:EX,x.at w B→x.at w' B
 | .leaf _,_=>trivial
 | .one _ _ a,h=>⟨h.1.only ho hd,EX.at_only ho hd a h.2⟩
 | .two _ _ a b,h=>⟨h.1.only ho hd,EX.at_only ho hd a h.2.1,EX.at_only ho hd b h.2.2⟩
theorem EX.at_below {w w':World} {B:Nat→Prop} (hb:Below w.heap.size w w'):∀ x:EX,x.at w B→x.at w' B
 | .leaf _,_=>trivial
 | .one _ _ a,h=>⟨h.1.below hb,EX.at_below hb a h.2⟩
 | .two _ _ a b,h=>⟨h.1.below hb,EX.at_below hb a h.2.1,EX.at_below hb b h.2.2⟩
theorem EX.at_reg {w:World} {B B':Nat→Prop} (hB:∀ k,B k→B' k):∀ {x:EX},x.at w B→x.at w B'
 | .leaf _,_=>trivial
 | .one _ _ _,h=>⟨h.1.mono (Nat.le_refl _) (fun _ _ _=>rfl) (fun k hk _=>hB k hk),EX.at_reg hB h.2⟩
 | .two _ _ _ _,h=>⟨h.1.mono (Nat.le_refl _) (fun _ _ _=>rfl) (fun k hk _=>hB k hk),EX.at_reg hB h.2.1,EX.at_reg hB h.2.2⟩
theorem EX.at_cap {w:World} {B:Nat→Prop}:∀ {x:EX},x.at w B→x.at w (fun q=>B q∧q < w.heap.size)
 | .leaf _,_=>trivial
 | .one _ _ _,h=>⟨h.1.mono (Nat.le_refl _) (fun _ _ _=>rfl) (fun k hk hl=>⟨hk,hl⟩),EX.at_cap h.2⟩
 | .two _ _ _ _,h=>⟨h.1.mono (Nat.le_refl _) (fun _ _ _=>rfl) (fun k hk hl=>⟨hk,hl⟩),EX.at_cap h.2.1,EX.at_cap h.2.2⟩
theorem StepP.box {w w' w'':World} {sb b:Nat} {wv:Value} {ws:List WdV} {s s':PSt} (h:StepP w w' sb wv ws s s') (h0:PS w sb wv ws s) (ho:Only (fun q=>q=b) w' w'') (hb:w.heap.size≤b):StepP w w'' sb wv ws s s' :=
 have hs:=h0.blk.lt
 have hw:Only (fun q=>q=sb) w w'':=h.only.trans ho (fun i hi e=>by omega)
 ⟨⟨h.ps.blk.only ho (by omega),h0.sl.only hw (fun k hk e=>hk e),h.ps.le,h.ps.lim,h.ps.n64⟩,hw,h.up,h.worse⟩
theorem EX.at_box {w w':World} {x:EX} {n b:Nat} (h:x.at w (fun q=>n≤q)) (ho:Only (fun q=>q=b) w w') (hb:b < n):x.at w' (fun q=>n≤q):=EX.at_only ho (fun k hk e=>by omega) x h
def TreeOut (w:World) (sb:Nat) (wv:Value) (ws:List WdV) (s:PSt) (e:Ending) (w':World):Prop :=
 ∃ (o n:Int) (sx nx cx:ByteArray) (p:Option Addr) (k c:Nat) (x:EX) (s':PSt),e=.returned (.agg #[.int .i64 o,.int .i64 n,.string sx,.string nx,.string cx,.slice p k c])∧x.hd=⟨o,n,sx,nx,cx⟩∧x.av=.slice p k c ∧
  StepP w w' sb wv ws s s'∧x.at w' (fun q=>w.heap.size≤q)∧x.ok
theorem hd_ok {o n:Int} (h1:0≤o) (h2:o≤100) (h3:0≤n) (h4:n≤100):Hd.ok ⟨o,n,⟨#[]⟩,⟨#[]⟩,⟨#[]⟩⟩:=⟨by unfold fit64;simp only;omega,by unfold fit64;simp only;omega,Nat.zero_le _,Nat.zero_le _,Nat.zero_le _⟩
theorem EX.cells_eq {x:EX} {o n:Int} {sx nx cx:ByteArray} {v:Value} (hh:x.hd=⟨o,n,sx,nx,cx⟩) (hv:x.av=v):x.cells=[.int .i64 o,.int .i64 n,.string sx,.string nx,.string cx,v]:=by
 unfold EX.cells
 rw [hh,hv]
theorem ones_six {o n:Int} {sx nx cx:ByteArray} {p:Option Addr} {k c:Nat}:Ones [.int .i64 o,.int .i64 n,.string sx,.string nx,.string cx,.slice p k c] :=
 .cons rfl (.cons rfl (.cons rfl (.cons rfl (.cons rfl (.cons rfl .nil)))))
theorem EX.one_at {w w':World} {x:EX} {m:Nat} {o n:Int} {sx nx cx:ByteArray} {p:Option Addr} {k c:Nat} (hx:x.at w (fun q=>m≤q)) (hm:m≤w.heap.size) (hh:x.hd=⟨o,n,sx,nx,cx⟩) (hv:x.av=.slice p k c)
 (hw:w.alloc (.cells #[.int .i64 o,.int .i64 n,.string sx,.string nx,.string cx,.slice p k c] 27)=w') (h:Hd):(EX.one h (.slice (some ⟨w.heap.size,0,none⟩) 1 1) x).at w' (fun q=>m≤q):=by
 subst hw
 refine ⟨?_,EX.at_below ((Below.refl _ _).alloc (Nat.le_refl _) _) x hx⟩
 rw [EX.cells_eq hh hv]
 exact (Own.made w 27 6 [.int .i64 o,.int .i64 n,.string sx,.string nx,.string cx,.slice p k c] [] 1 1 rfl ones_six (Nat.le_refl _) (by decide) (Nat.le_refl 6)).sl (fun q hq=>by
  have e:w.heap.size=q:=Option.some.inj hq
  omega)
theorem EX.two_at {w w':World} {x y:EX} {m:Nat} {o n o2 n2:Int} {sx nx cx sy ny cy:ByteArray} {p p2:Option Addr} {k c k2 c2:Nat} (hx:x.at w (fun q=>m≤q)) (hy:y.at w (fun q=>m≤q)) (hm:m≤w.heap.size)
 (hh:x.hd=⟨o,n,sx,nx,cx⟩) (hv:x.av=.slice p k c) (hh2:y.hd=⟨o2,n2,sy,ny,cy⟩) (hv2:y.av=.slice p2 k2 c2)
 (hw:w.alloc (.cells #[.int .i64 o,.int .i64 n,.string sx,.string nx,.string cx,.slice p k c,.int .i64 o2,.int .i64 n2,.string sy,.string ny,.string cy,.slice p2 k2 c2] 27)=w') (h:Hd) :
 (EX.two h (.slice (some ⟨w.heap.size,0,none⟩) 2 2) x y).at w' (fun q=>m≤q):=by
 subst hw
 have hb:Below w.heap.size w _:=(Below.refl w.heap.size w).alloc (Nat.le_refl _) (.cells #[.int .i64 o,.int .i64 n,.string sx,.string nx,.string cx,.slice p k c,.int .i64 o2,.int .i64 n2,.string sy,.string ny,.string cy,.slice p2 k2 c2] 27)
 refine ⟨?_,EX.at_below hb x hx,EX.at_below hb y hy⟩
 rw [EX.cells_eq hh hv,EX.cells_eq hh2 hv2]
 have h0:=Own.made w 27 6 ([.int .i64 o,.int .i64 n,.string sx,.string nx,.string cx,.slice p k c]++[.int .i64 o2,.int .i64 n2,.string sy,.string ny,.string cy,.slice p2 k2 c2]) [] 2 2 rfl (ones_six.append ones_six) (Nat.le_refl _) (by decide) (by simp)
 refine h0.sl (B:=fun q=>m≤q) (fun q hq=>?_)
 have e:w.heap.size=q:=Option.some.inj hq
 omega
theorem leaf_at {w:World} {B:Nat→Prop} (h:Hd):(EX.leaf h).at w B:=trivial
theorem where_any (w:World) (sb:Nat) (wv:Value) (ws:List WdV) (s:PSt) (h:PS w sb wv ws s)
 (HE:∀ W s',PS W sb wv ws s'→Mz ws s' < Mz ws s→Calls Tryz.prog 17 #[.pointer (some ⟨sb,0,none⟩),.int .i64 1] W (TreeOut W sb wv ws s')) :
 Calls Tryz.prog 60 #[.pointer (some ⟨sb,0,none⟩)] w (TreeOut w sb wv ws s):=by
 obtain ⟨w1,hww1⟩:∃ w',w.alloc (.cells #[.int .i64 0,.int .i64 0,.string ⟨#[]⟩,.string ⟨#[]⟩,.string ⟨#[]⟩,.slice none 0 0] 27)=w':=⟨_,rfl⟩
 have hbw1:Below w.heap.size w w1:=hww1▸(Below.refl _ _).alloc (Nat.le_refl _) _
 have hkw1:Blk w1 w.heap.size 27 [.int .i64 0,.int .i64 0,.string ⟨#[]⟩,.string ⟨#[]⟩,.string ⟨#[]⟩,.slice none 0 0]:=hww1▸Blk.new w _ _
 have hs1:=StepP.bel h hbw1
 have hlt:=h.blk.lt
 have HK1:=Lib.hid hkw1
 have HS1:=Lib.hid hs1
 have HP:=Lib.hid h
 have hsz:w.heap.size < w1.heap.size:=hkw1.lt
 have HM:=Lib.hid (may_any w1 sb wv ws s hs1.ps ⟨#[119,104,101,114,101]⟩)
 have HEH:=Lib.hid HE
 clear hbw1 hkw1 hs1 HE h
 go_enter Tryz.func60,Tryz.ntmps60
 go_wp2_with fail
 clear hww1
 refine HM.out.mono ?_
 clear HM
 rintro e w2 ⟨b,s2,rfl,hst,hf,ht⟩
 have hk2:=HK1.out.only hst.only (by omega)
 have HS2:=Lib.hid (HS1.out.trans hst)
 have HK2:=Lib.hid hk2
 have HT:=Lib.hid ht
 have hfz:∀ i,w2.frozen? ⟨w.heap.size,i,none⟩=false:=hk2.frozen
 have hl2:=hk2.lt
 have hsz2:=hst.only.size
 clear hst hf ht HS1 HK1
 cases b with
 | true =>
  obtain ⟨hb0,hi,rfl⟩:=HT.out rfl
  have HX:=Lib.hid (HEH.out w2 _ HS2.out.ps (by rw [Mz.good (s:=s) hb0,Mz.good (s:=⟨s.i+1,s.op,s.deep,s.bad⟩) hb0];simp only;omega))
  clear hk2
  go_wp2_with fail
  refine HX.out.mono ?_
  clear HX
  rintro e w3 ⟨o,n,sx,nx,cx,p,k,c,x,s3,rfl,hh,hv,hst,hx,hok⟩
  have hk3:=HK2.out.only hst.only (by omega)
  have HS3:=Lib.hid (HS2.out.trans hst)
  have HK3:=Lib.hid hk3
  have HX:=Lib.hid hx
  have HOK:=Lib.hid hok
  have HH:=Lib.hid hh
  have HV:=Lib.hid hv
  have hfz:∀ i,w3.frozen? ⟨w.heap.size,i,none⟩=false:=hk3.frozen
  have hl3:=hk3.lt
  obtain ⟨d0,d1,d2,d3,d4,d5⟩:=six_cells hk3
  clear hst hk3 hx hok hh hv
  go_wp2
  obtain ⟨hkE,hoE⟩:=set_sixE HK3.out (.int .i64 o) (.int .i64 n) (.string sx) (.string nx) (.string cx) (.slice p k c)
  generalize ((((((w3.setCell ⟨w.heap.size,0,none⟩ (.int .i64 o)).setCell ⟨w.heap.size,1,none⟩ (.int .i64 n)).setCell ⟨w.heap.size,2,none⟩ (.string sx)).setCell ⟨w.heap.size,3,none⟩ (.string nx)).setCell ⟨w.heap.size,4,none⟩ (.string cx)).setCell ⟨w.heap.size,5,none⟩ (.slice p k c))=wE at *
  obtain ⟨m0,m1,m2,m3,m4,m5⟩:=six_cells hkE
  exact bodyPost_ret (v:=.agg #[.int .i64 o,.int .i64 n,.string sx,.string nx,.string cx,.slice p k c]) (by simp [results,Tryz.results60,go_sem,m0,m1,m2,m3,m4,m5]) rfl (⟨o,n,sx,nx,cx,p,k,c,x,s3,rfl,HH.out,HV.out,HS3.out.box HP.out hoE (Nat.le_refl _),EX.at_reg (fun q hq=>by omega) (EX.at_box HX.out hoE (by omega)),HOK.out⟩)
 | false =>
  obtain ⟨d0,d1,d2,d3,d4,d5⟩:=six_cells hk2
  clear hk2
  go_wp2
  obtain ⟨hkE,hoE⟩:=set_sixE HK2.out (.int .i64 3) (.int .i64 1) (.string ⟨#[]⟩) (.string ⟨#[]⟩) (.string ⟨#[]⟩) (.slice none 0 0)
  generalize ((((((w2.setCell ⟨w.heap.size,0,none⟩ (.int .i64 3)).setCell ⟨w.heap.size,1,none⟩ (.int .i64 1)).setCell ⟨w.heap.size,2,none⟩ (.string ⟨#[]⟩)).setCell ⟨w.heap.size,3,none⟩ (.string ⟨#[]⟩)).setCell ⟨w.heap.size,4,none⟩ (.string ⟨#[]⟩)).setCell ⟨w.heap.size,5,none⟩ (.slice none 0 0))=wE at *
  obtain ⟨m0,m1,m2,m3,m4,m5⟩:=six_cells hkE
  exact bodyPost_ret (v:=.agg #[.int .i64 3,.int .i64 1,.string ⟨#[]⟩,.string ⟨#[]⟩,.string ⟨#[]⟩,.slice none 0 0]) (by simp [results,Tryz.results60,go_sem,m0,m1,m2,m3,m4,m5]) rfl (⟨3,1,⟨#[]⟩,⟨#[]⟩,⟨#[]⟩,none,0,0,.leaf ⟨3,1,⟨#[]⟩,⟨#[]⟩,⟨#[]⟩⟩,s2,rfl,rfl,rfl,HS2.out.box HP.out hoE (Nat.le_refl _),trivial,hd_ok (by decide) (by decide) (by decide) (by decide)⟩)
def Par (sb:Nat) (wv:Value) (ws:List WdV) (n:Nat):Prop:=∀ (W:World) (s:PSt),PS W sb wv ws s →
 (4*Mz ws s < n→Calls Tryz.prog 36 #[.pointer (some ⟨sb,0,none⟩)] W (TreeOut W sb wv ws s)) ∧
 (4*Mz ws s+2 < n→Calls Tryz.prog 35 #[.pointer (some ⟨sb,0,none⟩)] W (TreeOut W sb wv ws s)) ∧
 ∀ least:Int,(4*Mz ws s+(if least≤2 then 3 else 1) < n→Calls Tryz.prog 17 #[.pointer (some ⟨sb,0,none⟩),.int .i64 least] W (TreeOut W sb wv ws s))
theorem Par.mono {sb:Nat} {wv:Value} {ws:List WdV} {n m:Nat} (h:Par sb wv ws n) (hm:m≤n):Par sb wv ws m:=fun W s hp =>
 ⟨fun h1=>(h W s hp).1 (by omega),fun h1=>(h W s hp).2.1 (by omega),fun l h1=>(h W s hp).2.2 l (by omega)⟩
theorem Mz.next {ws:List WdV} {s:PSt} (hb:s.bad=false) (hi:s.i < ws.length):Mz ws ⟨s.i+1,s.op,s.deep,s.bad⟩+1=Mz ws s:=by
 rw [Mz.good (s:=s) hb,Mz.good (s:=⟨s.i+1,s.op,s.deep,s.bad⟩) hb];simp only;omega
theorem not_any (w:World) (sb:Nat) (wv:Value) (ws:List WdV) (s:PSt) (h:PS w sb wv ws s) (HPar:Hid (Par sb wv ws (4*Mz ws s+2))) :
 Calls Tryz.prog 35 #[.pointer (some ⟨sb,0,none⟩)] w (TreeOut w sb wv ws s):=by
 obtain ⟨w1,hww1⟩:∃ w',w.alloc (.cells #[.int .i64 0,.int .i64 0,.string ⟨#[]⟩,.string ⟨#[]⟩,.string ⟨#[]⟩,.slice none 0 0] 27)=w':=⟨_,rfl⟩
 have hbw1:Below w.heap.size w w1:=hww1▸(Below.refl _ _).alloc (Nat.le_refl _) _
 have hkw1:Blk w1 w.heap.size 27 [.int .i64 0,.int .i64 0,.string ⟨#[]⟩,.string ⟨#[]⟩,.string ⟨#[]⟩,.slice none 0 0]:=hww1▸Blk.new w _ _
 have hs1:=StepP.bel h hbw1
 have hlt:=h.blk.lt
 have HK1:=Lib.hid hkw1
 have HS1:=Lib.hid hs1
 have HP:=Lib.hid h
 have hsz:w.heap.size < w1.heap.size:=hkw1.lt
 have HM:=Lib.hid (may_any w1 sb wv ws s hs1.ps ⟨#[110,111,116]⟩)
 clear hbw1 hkw1 hs1 h
 go_enter Tryz.func35,Tryz.ntmps35
 go_wp2_with fail
 clear hww1
 refine HM.out.mono ?_
 clear HM
 rintro e w2 ⟨b,s2,rfl,hst,hf,ht⟩
 have hk2:=HK1.out.only hst.only (by omega)
 have HS2:=Lib.hid (HS1.out.trans hst)
 have HK2:=Lib.hid hk2
 have HT:=Lib.hid ht
 have hfz:∀ i,w2.frozen? ⟨w.heap.size,i,none⟩=false:=hk2.frozen
 have hl2:=hk2.lt
 have hsz2:=hst.only.size
 have hmz2:=(HS1.out.trans hst).mz
 clear hst hf ht HS1 HK1
 cases b with
 | true =>
  obtain ⟨hb0,hi,rfl⟩:=HT.out rfl
  have hmz:=Mz.next hb0 hi
  have HEn:=Lib.hid (enter_any w2 sb wv ws _ HS2.out.ps)
  clear hk2
  go_wp2_with fail
  refine HEn.out.mono ?_
  clear HEn hfz
  rintro e w3 ⟨s3,rfl,hst⟩
  have HK3:=Lib.hid (HK2.out.only hst.only (by omega))
  have HS3:=Lib.hid (HS2.out.trans hst)
  have hmz3:=hst.mz
  have hsz3:=hst.only.size
  have HX:=Lib.hid ((HPar.out w3 s3 hst.ps).2.1 (by omega))
  clear hst HK2 HS2
  go_wp2_with fail
  refine HX.out.mono ?_
  clear HX
  rintro e w4 ⟨o,n,sx,nx,cx,p,k,c,x,s4,rfl,hh,hv,hst,hx,hok⟩
  have HX:=Lib.hid hx
  have HOK:=Lib.hid hok
  have HH:=Lib.hid hh
  have HV:=Lib.hid hv
  have hk4:=HK3.out.only hst.only (by omega)
  have hs4:=HS3.out.trans hst
  have hsz4:=hst.only.size
  clear HK3 HS3 hst hx hok hh hv
  obtain ⟨w5,hww5⟩:∃ w',w4.alloc (.cells #[.int .i64 0,.int .i64 0,.string ⟨#[]⟩,.string ⟨#[]⟩,.string ⟨#[]⟩,.slice none 0 0] 27)=w':=⟨_,rfl⟩
  have hbw5:Below w4.heap.size w4 w5:=hww5▸(Below.refl _ _).alloc (Nat.le_refl _) _
  have hkw5:Blk w5 w4.heap.size 27 [.int .i64 0,.int .i64 0,.string ⟨#[]⟩,.string ⟨#[]⟩,.string ⟨#[]⟩,.slice none 0 0]:=hww5▸Blk.new w4 _ _
  have hl5:=hkw5.lt
  obtain ⟨d0,d1,d2,d3,d4,d5⟩:=six_cells hkw5
  have hfz5:∀ i,w5.frozen? ⟨w4.heap.size,i,none⟩=false:=hkw5.frozen
  obtain ⟨hkS,hoS⟩:=set_sixE hkw5 (.int .i64 o) (.int .i64 n) (.string sx) (.string nx) (.string cx) (.slice p k c)
  obtain ⟨wS,hwS⟩:∃ w',((((((w5.setCell ⟨w4.heap.size,0,none⟩ (.int .i64 o)).setCell ⟨w4.heap.size,1,none⟩ (.int .i64 n)).setCell ⟨w4.heap.size,2,none⟩ (.string sx)).setCell ⟨w4.heap.size,3,none⟩ (.string nx)).setCell ⟨w4.heap.size,4,none⟩ (.string cx)).setCell ⟨w4.heap.size,5,none⟩ (.slice p k c))=w':=⟨_,rfl⟩
  rw [hwS] at hkS hoS
  obtain ⟨e0,e1,e2,e3,e4,e5⟩:=six_cells hkS
  have hsS:=(hs4.on hbw5).box HP.out hoS (by omega)
  have hkS0:=(hk4.below hbw5).only hoS (by omega)
  have hbS:Below w4.heap.size w4 wS:=hbw5.trans (hoS.below hbw5.size (fun i e=>by omega))
  have hxS:=EX.at_below hbS x HX.out
  have c2:wS.cell? ⟨sb,2,none⟩=some (.int .i64 s4.op):=hsS.ps.blk.cell 2
  have hfzs:∀ i,wS.frozen? ⟨sb,i,none⟩=false:=hsS.ps.blk.frozen
  have hlS:=hsS.ps.blk.lt
  obtain ⟨o2,ho2⟩:∃ o2,IntKind.i64.wrap (s4.op - 1)=o2:=⟨_,rfl⟩
  obtain ⟨w7,hw7⟩:∃ w7,wS.setCell ⟨sb,2,none⟩ (.int .i64 o2)=w7:=⟨_,rfl⟩
  have hs7:=hsS.opens o2
  have ho7:Only (fun q=>q=sb) wS w7:=hw7▸(Only.refl (fun q=>q=sb) wS).setCell (fun _=>rfl) _
  rw [hw7] at hs7
  obtain ⟨f0,f1,f2,f3,f4,f5⟩:=six_cells (hkS.only ho7 (by omega))
  have hk7:=hkS0.only ho7 (by omega)
  have hx7:x.at w7 (fun q=>w3.heap.size≤q):=EX.at_only ho7 (fun q hq e=>by omega) x hxS
  obtain ⟨w8,hw8⟩:∃ w8,w7.alloc (.cells #[.int .i64 o,.int .i64 n,.string sx,.string nx,.string cx,.slice p k c] 27)=w8:=⟨_,rfl⟩
  have hb8:Below w7.heap.size w7 w8:=hw8▸(Below.refl _ _).alloc (Nat.le_refl _) _
  have hsz7:=ho7.size
  have hszS:=hbS.size
  have hx8:=EX.one_at hx7 (by omega) HH.out HV.out hw8 ⟨19,0,⟨#[]⟩,⟨#[]⟩,⟨#[]⟩⟩
  have HX8:=Lib.hid hx8
  have HS8:=Lib.hid (hs7.on hb8)
  have hk8:=hk7.below hb8
  have HK8:=Lib.hid hk8
  obtain ⟨g0,g1,g2,g3,g4,g5⟩:=six_cells hk8
  have hfz8:∀ i,w8.frozen? ⟨w.heap.size,i,none⟩=false:=hk8.frozen
  have hl8:=hk8.lt
  clear hk4 hs4 hbw5 hkw5 hkS hoS hsS hkS0 hbS hxS hs7 ho7 hk7 hx7 hb8 hx8 hk8
  go_wp2
  obtain ⟨hkE,hoE⟩:=set_sixE HK8.out (.int .i64 19) (.int .i64 0) (.string ⟨#[]⟩) (.string ⟨#[]⟩) (.string ⟨#[]⟩) (.slice (some ⟨w7.heap.size,0,none⟩) 1 1)
  generalize ((((((w8.setCell ⟨w.heap.size,0,none⟩ (.int .i64 19)).setCell ⟨w.heap.size,1,none⟩ (.int .i64 0)).setCell ⟨w.heap.size,2,none⟩ (.string ⟨#[]⟩)).setCell ⟨w.heap.size,3,none⟩ (.string ⟨#[]⟩)).setCell ⟨w.heap.size,4,none⟩ (.string ⟨#[]⟩)).setCell ⟨w.heap.size,5,none⟩ (.slice (some ⟨w7.heap.size,0,none⟩) 1 1))=wE at *
  obtain ⟨m0,m1,m2,m3,m4,m5⟩:=six_cells hkE
  exact bodyPost_ret (v:=.agg #[.int .i64 19,.int .i64 0,.string ⟨#[]⟩,.string ⟨#[]⟩,.string ⟨#[]⟩,.slice (some ⟨w7.heap.size,0,none⟩) 1 1]) (by simp [results,Tryz.results35,go_sem,m0,m1,m2,m3,m4,m5]) rfl (⟨19,0,⟨#[]⟩,⟨#[]⟩,⟨#[]⟩,some ⟨w7.heap.size,0,none⟩,1,1,.one ⟨19,0,⟨#[]⟩,⟨#[]⟩,⟨#[]⟩⟩ (.slice (some ⟨w7.heap.size,0,none⟩) 1 1) x,_,rfl,rfl,rfl,HS8.out.box HP.out hoE (Nat.le_refl _),EX.at_reg (fun q hq=>by omega) (EX.at_box HX8.out hoE (by omega)),hd_ok (by decide) (by decide) (by decide) (by decide),HOK.out⟩)
 | false =>
  have HX:=Lib.hid ((HPar.out w2 s2 HS2.out.ps).2.2 3 (by simp only [show ¬ ((3:Int)≤2) by decide,if_false];omega))
  clear hk2
  go_wp2_with fail
  refine HX.out.mono ?_
  clear HX
  rintro e w3 ⟨o,n,sx,nx,cx,p,k,c,x,s3,rfl,hh,hv,hst,hx,hok⟩
  have hk3:=HK2.out.only hst.only (by omega)
  have HS3:=Lib.hid (HS2.out.trans hst)
  have HK3:=Lib.hid hk3
  have HX:=Lib.hid hx
  have HOK:=Lib.hid hok
  have HH:=Lib.hid hh
  have HV:=Lib.hid hv
  have hfz:∀ i,w3.frozen? ⟨w.heap.size,i,none⟩=false:=hk3.frozen
  have hl3:=hk3.lt
  obtain ⟨d0,d1,d2,d3,d4,d5⟩:=six_cells hk3
  clear hst hk3 hx hok hh hv
  go_wp2
  obtain ⟨hkE,hoE⟩:=set_sixE HK3.out (.int .i64 o) (.int .i64 n) (.string sx) (.string nx) (.string cx) (.slice p k c)
  generalize ((((((w3.setCell ⟨w.heap.size,0,none⟩ (.int .i64 o)).setCell ⟨w.heap.size,1,none⟩ (.int .i64 n)).setCell ⟨w.heap.size,2,none⟩ (.string sx)).setCell ⟨w.heap.size,3,none⟩ (.string nx)).setCell ⟨w.heap.size,4,none⟩ (.string cx)).setCell ⟨w.heap.size,5,none⟩ (.slice p k c))=wE at *
  obtain ⟨m0,m1,m2,m3,m4,m5⟩:=six_cells hkE
  exact bodyPost_ret (v:=.agg #[.int .i64 o,.int .i64 n,.string sx,.string nx,.string cx,.slice p k c]) (by simp [results,Tryz.results35,go_sem,m0,m1,m2,m3,m4,m5]) rfl (⟨o,n,sx,nx,cx,p,k,c,x,s3,rfl,HH.out,HV.out,HS3.out.box HP.out hoE (Nat.le_refl _),EX.at_reg (fun q hq=>by omega) (EX.at_box HX.out hoE (by omega)),HOK.out⟩)
structure ExL (w wr:World) (sb:Nat) (wv:Value) (ws:List WdV) (s:PSt) (r l m:Nat) (x:EX) (s':PSt):Prop where
 st:StepP w wr sb wv ws s s'
 kr:Blk wr r 27 [.int .i64 0,.int .i64 0,.string ⟨#[]⟩,.string ⟨#[]⟩,.string ⟨#[]⟩,.slice none 0 0]
 kl:Blk wr l 27 x.cells
 xa:x.at wr (fun q=>m≤q)
 ok:x.ok
 sz:m≤wr.heap.size
theorem ExL.below {w wr wr':World} {sb:Nat} {wv:Value} {ws:List WdV} {s s':PSt} {r l m:Nat} {x:EX} (h:ExL w wr sb wv ws s r l m x s') (hb:Below wr.heap.size wr wr'):ExL w wr' sb wv ws s r l m x s' :=
 ⟨h.st.on hb,h.kr.below hb,h.kl.below hb,EX.at_below hb x h.xa,h.ok,Nat.le_trans h.sz hb.size⟩
theorem ExL.call {w wr wr':World} {sb:Nat} {wv:Value} {ws:List WdV} {s s' s'':PSt} {r l m:Nat} {x:EX} (h:ExL w wr sb wv ws s r l m x s') (hst:StepP wr wr' sb wv ws s' s'') (hr:sb < r) (hl:sb < l) (hm:sb < m):ExL w wr' sb wv ws s r l m x s'' :=
 ⟨h.st.trans hst,h.kr.only hst.only (by omega),h.kl.only hst.only (by omega),EX.at_only hst.only (fun q hq e=>by omega) x h.xa,h.ok,Nat.le_trans h.sz hst.only.size⟩
theorem ExL.box {w wr wr':World} {sb b:Nat} {wv:Value} {ws:List WdV} {s s':PSt} {r l m:Nat} {x:EX} (h:ExL w wr sb wv ws s r l m x s') (h0:PS w sb wv ws s) (ho:Only (fun q=>q=b) wr wr') (hw:w.heap.size≤b) (hr:r < b) (hl:l < b) (hx:x.at wr' (fun q=>m≤q)):ExL w wr' sb wv ws s r l m x s' :=
 ⟨h.st.box h0 ho hw,h.kr.only ho (by omega),h.kl.only ho (by omega),hx,h.ok,Nat.le_trans h.sz ho.size⟩
theorem expr_any (w:World) (sb:Nat) (wv:Value) (ws:List WdV) (s:PSt) (h:PS w sb wv ws s) (least:Int) (HPar:Hid (Par sb wv ws (4*Mz ws s+(if least≤2 then 3 else 1)))) :
 Calls Tryz.prog 17 #[.pointer (some ⟨sb,0,none⟩),.int .i64 least] w (TreeOut w sb wv ws s):=by
 obtain ⟨w1,hww1⟩:∃ w',w.alloc (.cells #[.int .i64 0,.int .i64 0,.string ⟨#[]⟩,.string ⟨#[]⟩,.string ⟨#[]⟩,.slice none 0 0] 27)=w':=⟨_,rfl⟩
 have hbw1:Below w.heap.size w w1:=hww1▸(Below.refl _ _).alloc (Nat.le_refl _) _
 have hkw1:Blk w1 w.heap.size 27 [.int .i64 0,.int .i64 0,.string ⟨#[]⟩,.string ⟨#[]⟩,.string ⟨#[]⟩,.slice none 0 0]:=hww1▸Blk.new w _ _
 obtain ⟨w2,hww2⟩:∃ w',w1.alloc (.cells #[.int .i64 0,.int .i64 0,.string ⟨#[]⟩,.string ⟨#[]⟩,.string ⟨#[]⟩,.slice none 0 0] 27)=w':=⟨_,rfl⟩
 have hbw2:Below w1.heap.size w1 w2:=hww2▸(Below.refl _ _).alloc (Nat.le_refl _) _
 have hkw2:Blk w2 w1.heap.size 27 [.int .i64 0,.int .i64 0,.string ⟨#[]⟩,.string ⟨#[]⟩,.string ⟨#[]⟩,.slice none 0 0]:=hww2▸Blk.new w1 _ _
 have hlt:=h.blk.lt
 have hk0:=hkw1.below hbw2
 have hs2:=StepP.bel h (hbw1.trans (hbw2.mono hbw1.size))
 have HK0:=Lib.hid hk0
 have HK1:=Lib.hid hkw2
 have HS2:=Lib.hid hs2
 have HP:=Lib.hid h
 have hsz:w.heap.size < w1.heap.size:=hkw1.lt
 have hsz1:w1.heap.size < w2.heap.size:=hkw2.lt
 have HM:=Lib.hid (may_any w2 sb wv ws s hs2.ps ⟨#[110,111,116]⟩)
 clear hbw1 hkw1 hbw2 hkw2 hk0 hs2 h
 go_enter Tryz.func17,Tryz.ntmps17
 go_upto_region 3 with fail
 clear hww1 hww2
 go_cut [17] (fun t wc=>∃ b s3,t=.bool b∧StepP w wc sb wv ws s s3∧Only (fun q=>q=sb) w2 wc∧(b=true→least≤2∧Mz ws s3 < Mz ws s))
 case first =>
  by_cases hl2:least≤2
  ·go_wp2_with fail
   refine HM.out.mono ?_
   clear HM
   rintro e w3 ⟨b,s3,rfl,hst,hf,ht⟩
   have HS3:=Lib.hid (HS2.out.trans hst)
   have HT:=Lib.hid ht
   have HO:=Lib.hid hst.only
   clear hst hf ht HS2
   go_wp2
   go_meet
   exact ⟨b,s3,rfl,HS3.out,HO.out,fun hb=>by
    obtain ⟨hb0,hi,rfl⟩:=HT.out hb
    have:=Mz.next hb0 hi
    exact ⟨hl2,by omega⟩⟩
  ·go_wp2
   go_meet
   exact ⟨false,s,rfl,HS2.out,Only.refl _ _,by simp⟩
 case rest =>
 obtain ⟨b,s3,rfl,hst,hon,hb⟩:=hcut
 clear HM HS2
 obtain ⟨w3,rfl⟩:∃ w3,w3=wc:=⟨_,rfl⟩
 have HK0:=Lib.hid (HK0.out.only hon (by omega))
 have HK1:=Lib.hid (HK1.out.only hon (by omega))
 have HS3:=Lib.hid hst
 have HB:=Lib.hid hb
 have hsz3:=hon.size
 have hmz3:=hst.mz
 clear hst hb hon
 go_upto_if 17 with fail
 go_cut [6] (fun t wc=>∃ m x s4,t=.int .i64 m∧ExL w wc sb wv ws s w.heap.size w1.heap.size w2.heap.size x s4)
 case first =>
  cases b with
  | true =>
   obtain ⟨hl2,hmz⟩:=HB.out rfl
   have HEn:=Lib.hid (enter_any w3 sb wv ws _ HS3.out.ps)
   rw [if_pos hl2] at HPar
   go_wp2_with fail
   refine HEn.out.mono ?_
   clear HEn
   rintro e wx ⟨sq,rfl,hst⟩
   have HK0:=Lib.hid (HK0.out.only hst.only (by omega))
   have HK1:=Lib.hid (HK1.out.only hst.only (by omega))
   have HS4:=Lib.hid (HS3.out.trans hst)
   have hmz4:=hst.mz
   have hszB:=hst.only.size
   have HC:=Lib.hid ((HPar.out wx sq hst.ps).2.1 (by omega))
   clear hst HS3
   go_wp2_with fail
   refine HC.out.mono ?_
   clear HC
   rintro e w4 ⟨o,n,sx,nx,cx,p,k,c,x,s4,rfl,hh,hv,hst,hx,hok⟩
   have HX:=Lib.hid hx
   have HOK:=Lib.hid hok
   have HH:=Lib.hid hh
   have HV:=Lib.hid hv
   have hs4:=HS4.out.trans hst
   have HK0:=Lib.hid (HK0.out.only hst.only (by omega))
   have HK1:=Lib.hid (HK1.out.only hst.only (by omega))
   clear HS4
   have hsz4:=hst.only.size
   obtain ⟨w5,hww5⟩:∃ w',w4.alloc (.cells #[.int .i64 0,.int .i64 0,.string ⟨#[]⟩,.string ⟨#[]⟩,.string ⟨#[]⟩,.slice none 0 0] 27)=w':=⟨_,rfl⟩
   have hbw5:Below w4.heap.size w4 w5:=hww5▸(Below.refl _ _).alloc (Nat.le_refl _) _
   have hkw5:Blk w5 w4.heap.size 27 [.int .i64 0,.int .i64 0,.string ⟨#[]⟩,.string ⟨#[]⟩,.string ⟨#[]⟩,.slice none 0 0]:=hww5▸Blk.new w4 _ _
   have hl5:=hkw5.lt
   obtain ⟨d0,d1,d2,d3,d4,d5⟩:=six_cells hkw5
   have hfz5:∀ i,w5.frozen? ⟨w4.heap.size,i,none⟩=false:=hkw5.frozen
   obtain ⟨hkS,hoS⟩:=set_sixE hkw5 (.int .i64 o) (.int .i64 n) (.string sx) (.string nx) (.string cx) (.slice p k c)
   obtain ⟨wS,hwS⟩:∃ w',((((((w5.setCell ⟨w4.heap.size,0,none⟩ (.int .i64 o)).setCell ⟨w4.heap.size,1,none⟩ (.int .i64 n)).setCell ⟨w4.heap.size,2,none⟩ (.string sx)).setCell ⟨w4.heap.size,3,none⟩ (.string nx)).setCell ⟨w4.heap.size,4,none⟩ (.string cx)).setCell ⟨w4.heap.size,5,none⟩ (.slice p k c))=w':=⟨_,rfl⟩
   rw [hwS] at hkS hoS
   obtain ⟨e0,e1,e2,e3,e4,e5⟩:=six_cells hkS
   have hsS:=(hs4.on hbw5).box HP.out hoS (by omega)
   have hbS:Below w4.heap.size w4 wS:=hbw5.trans (hoS.below hbw5.size (fun i e=>by omega))
   have hxS:=EX.at_below hbS x HX.out
   have c2:wS.cell? ⟨sb,2,none⟩=some (.int .i64 s4.op):=hsS.ps.blk.cell 2
   have hfzs:∀ i,wS.frozen? ⟨sb,i,none⟩=false:=hsS.ps.blk.frozen
   have hlS:=hsS.ps.blk.lt
   obtain ⟨o2,ho2⟩:∃ o2,IntKind.i64.wrap (s4.op - 1)=o2:=⟨_,rfl⟩
   obtain ⟨w7,hw7⟩:∃ w7,wS.setCell ⟨sb,2,none⟩ (.int .i64 o2)=w7:=⟨_,rfl⟩
   have hs7:=hsS.opens o2
   have ho7:Only (fun q=>q=sb) wS w7:=hw7▸(Only.refl (fun q=>q=sb) wS).setCell (fun _=>rfl) _
   rw [hw7] at hs7
   obtain ⟨f0,f1,f2,f3,f4,f5⟩:=six_cells (hkS.only ho7 (by omega))
   have hx7:x.at w7 (fun q=>wx.heap.size≤q):=EX.at_only ho7 (fun q hq e=>by omega) x hxS
   obtain ⟨w8,hw8⟩:∃ w8,w7.alloc (.cells #[.int .i64 o,.int .i64 n,.string sx,.string nx,.string cx,.slice p k c] 27)=w8:=⟨_,rfl⟩
   have hb8:Below w7.heap.size w7 w8:=hw8▸(Below.refl _ _).alloc (Nat.le_refl _) _
   have hsz7:=ho7.size
   have hszS:=hbS.size
   have hx8:=EX.one_at hx7 (by omega) HH.out HV.out hw8 ⟨19,0,⟨#[]⟩,⟨#[]⟩,⟨#[]⟩⟩
   have hon48:Only (fun q=>q=sb) w4 w8:=((Only.of_none hbS).trans ho7 (fun _ _ e=>e)).trans (Only.of_none hb8) (fun _ _ e=>e)
   have HX8:=Lib.hid hx8
   have HS8:=Lib.hid (hs7.on hb8)
   have hsz8:=hb8.size
   clear hs4 hbw5 hkw5 hkS hoS hsS hbS hxS hs7 ho7 hx7 hb8 hx8 hst hx hok hh hv
   have HK0:=Lib.hid (HK0.out.only hon48 (by omega))
   have hk1:=HK1.out.only hon48 (by omega)
   have HK1:=Lib.hid hk1
   obtain ⟨g0,g1,g2,g3,g4,g5⟩:=six_cells hk1
   have hfz8:∀ i,w8.frozen? ⟨w1.heap.size,i,none⟩=false:=hk1.frozen
   have hl8:=hk1.lt
   clear hon48 hk1
   go_wp2
   go_meet
   obtain ⟨hkE,hoE⟩:=set_sixE HK1.out (.int .i64 19) (.int .i64 0) (.string ⟨#[]⟩) (.string ⟨#[]⟩) (.string ⟨#[]⟩) (.slice (some ⟨w7.heap.size,0,none⟩) 1 1)
   generalize ((((((w8.setCell ⟨w1.heap.size,0,none⟩ (.int .i64 19)).setCell ⟨w1.heap.size,1,none⟩ (.int .i64 0)).setCell ⟨w1.heap.size,2,none⟩ (.string ⟨#[]⟩)).setCell ⟨w1.heap.size,3,none⟩ (.string ⟨#[]⟩)).setCell ⟨w1.heap.size,4,none⟩ (.string ⟨#[]⟩)).setCell ⟨w1.heap.size,5,none⟩ (.slice (some ⟨w7.heap.size,0,none⟩) 1 1))=wE at *
   exact ⟨2,.one ⟨19,0,⟨#[]⟩,⟨#[]⟩,⟨#[]⟩⟩ (.slice (some ⟨w7.heap.size,0,none⟩) 1 1) x,_,rfl,HS8.out.box HP.out hoE (by omega),HK0.out.only hoE (by omega),hkE,EX.at_reg (fun q hq=>by omega) (EX.at_box HX8.out hoE (by omega)),⟨hd_ok (by decide) (by decide) (by decide) (by decide),HOK.out⟩,Nat.le_trans (by omega) hoE.size⟩
  | false =>
   have HC:=Lib.hid ((HPar.out w3 s3 HS3.out.ps).1 (by split<;>omega))
   go_wp2_with fail
   refine HC.out.mono ?_
   clear HC
   rintro e w4 ⟨o,n,sx,nx,cx,p,k,c,x,s4,rfl,hh,hv,hst,hx,hok⟩
   have HX:=Lib.hid hx
   have HOK:=Lib.hid hok
   have HH:=Lib.hid hh
   have HV:=Lib.hid hv
   have HS4:=Lib.hid (HS3.out.trans hst)
   have HK0:=Lib.hid (HK0.out.only hst.only (by omega))
   have hk1:=HK1.out.only hst.only (by omega)
   have HK1:=Lib.hid hk1
   obtain ⟨g0,g1,g2,g3,g4,g5⟩:=six_cells hk1
   have hfz8:∀ i,w4.frozen? ⟨w1.heap.size,i,none⟩=false:=hk1.frozen
   have hl8:=hk1.lt
   have hsz4:=hst.only.size
   clear HS3 hst hx hok hh hv hk1
   go_wp2
   go_meet
   obtain ⟨hkE,hoE⟩:=set_sixE HK1.out (.int .i64 o) (.int .i64 n) (.string sx) (.string nx) (.string cx) (.slice p k c)
   generalize ((((((w4.setCell ⟨w1.heap.size,0,none⟩ (.int .i64 o)).setCell ⟨w1.heap.size,1,none⟩ (.int .i64 n)).setCell ⟨w1.heap.size,2,none⟩ (.string sx)).setCell ⟨w1.heap.size,3,none⟩ (.string nx)).setCell ⟨w1.heap.size,4,none⟩ (.string cx)).setCell ⟨w1.heap.size,5,none⟩ (.slice p k c))=wE at *
   exact ⟨9,x,_,rfl,HS4.out.box HP.out hoE (by omega),HK0.out.only hoE (by omega),by rw [EX.cells_eq HH.out HV.out];exact hkE,EX.at_reg (fun q hq=>by omega) (EX.at_box HX.out hoE (by omega)),HOK.out,Nat.le_trans (by omega) hoE.size⟩
 case rest =>
 obtain ⟨m0,x0,s4,rfl,hxl⟩:=hcut
 have HXL:=Lib.hid hxl
 clear hxl HK0 HK1 HS3 HB hsz3 hmz3
 go_wp2_with fail
 go_loopw [6] (fun mv wr=>∃ (m:Int) (x:EX) (s':PSt),mv=.int .i64 m∧ExL w wr sb wv ws s w.heap.size w1.heap.size w2.heap.size x s') (fun _ wr=>ws.length - (intOf ((wr.cell? ⟨sb,1,none⟩).getD undef)).toNat)
 case atStart=>exact ⟨m0,x0,s4,rfl,HXL.out⟩
 case round =>
  obtain ⟨m,x,s',rfl,hxl⟩:=hrel
  obtain ⟨wo,rfl⟩:∃ wo:World,wo=wr:=⟨_,rfl⟩
  have HBI:=Lib.hid (bind_anyP wo sb wv ws s' hxl.st.ps)
  have hbk:=hxl.st.ps.blk
  have q1:wo.cell? ⟨sb,1,none⟩=some (.int .i64 (s'.i:Int)):=hbk.cell 1
  have q4:wo.cell? ⟨sb,4,none⟩=some (.bool s'.bad):=hbk.cell 4
  have hlq:=hbk.lt
  clear hbk
  obtain ⟨i,op,deep,bad⟩:=s'
  simp only at q1 q4
  cases bad with
  | true =>
   clear HBI q1
   obtain ⟨⟨o,n,sx,nx,cx⟩,hh⟩:∃ hd,x.hd=hd:=⟨_,rfl⟩
   obtain ⟨p,k,c,hv⟩:=EX.form hxl.xa
   have hkl:=hxl.kl
   rw [EX.cells_eq hh hv] at hkl
   have hkr:=hxl.kr
   have HKR:=Lib.hid hkr
   have HXL:=Lib.hid hxl
   have HH:=Lib.hid hh
   have HV:=Lib.hid hv
   have hlr:=hkr.lt
   have hll:=hkl.lt
   obtain ⟨d0,d1,d2,d3,d4,d5⟩:=six_cells hkl
   obtain ⟨e0,e1,e2,e3,e4,e5⟩:=six_cells hkr
   have hfr:∀ i,wo.frozen? ⟨w.heap.size,i,none⟩=false:=hkr.frozen
   clear hxl hkl hkr hh hv
   go_wp2
   obtain ⟨hkE,hoE⟩:=set_sixE HKR.out (.int .i64 o) (.int .i64 n) (.string sx) (.string nx) (.string cx) (.slice p k c)
   generalize ((((((wo.setCell ⟨w.heap.size,0,none⟩ (.int .i64 o)).setCell ⟨w.heap.size,1,none⟩ (.int .i64 n)).setCell ⟨w.heap.size,2,none⟩ (.string sx)).setCell ⟨w.heap.size,3,none⟩ (.string nx)).setCell ⟨w.heap.size,4,none⟩ (.string cx)).setCell ⟨w.heap.size,5,none⟩ (.slice p k c))=wE at *
   obtain ⟨m0,m1,m2,m3,m4,m5⟩:=six_cells hkE
   exact bodyPost_ret (v:=.agg #[.int .i64 o,.int .i64 n,.string sx,.string nx,.string cx,.slice p k c]) (by simp [results,Tryz.results17,go_sem,m0,m1,m2,m3,m4,m5]) rfl (⟨o,n,sx,nx,cx,p,k,c,x,_,rfl,HH.out,HV.out,HXL.out.st.box HP.out hoE (Nat.le_refl _),EX.at_reg (fun q hq=>by omega) (EX.at_box HXL.out.xa hoE (by omega)),HXL.out.ok⟩)
  | false =>
   go_wp2_with fail
   have HQ1:=Lib.hid q1
   clear q1 q4 hlq
   refine HBI.out.mono ?_
   clear HBI
   rintro e wb ⟨bo,bp,rfl,hbb,hp0,hp5,ho0,ho18,hpi⟩
   have hxl:=hxl.below hbb
   clear hbb
   by_cases h0:bp=0
   ·subst h0
    obtain ⟨⟨o,n,sx,nx,cx⟩,hh⟩:∃ hd,x.hd=hd:=⟨_,rfl⟩
    obtain ⟨p,k,c,hv⟩:=EX.form hxl.xa
    have hkl:=hxl.kl
    rw [EX.cells_eq hh hv] at hkl
    have hkr:=hxl.kr
    have HKR:=Lib.hid hkr
    have HXL:=Lib.hid hxl
    have HH:=Lib.hid hh
    have HV:=Lib.hid hv
    have hlr:=hkr.lt
    have hll:=hkl.lt
    obtain ⟨d0,d1,d2,d3,d4,d5⟩:=six_cells hkl
    obtain ⟨e0,e1,e2,e3,e4,e5⟩:=six_cells hkr
    have hfr:∀ i,wb.frozen? ⟨w.heap.size,i,none⟩=false:=hkr.frozen
    clear hxl hkl hkr hh hv
    go_wp2
    obtain ⟨hkE,hoE⟩:=set_sixE HKR.out (.int .i64 o) (.int .i64 n) (.string sx) (.string nx) (.string cx) (.slice p k c)
    generalize ((((((wb.setCell ⟨w.heap.size,0,none⟩ (.int .i64 o)).setCell ⟨w.heap.size,1,none⟩ (.int .i64 n)).setCell ⟨w.heap.size,2,none⟩ (.string sx)).setCell ⟨w.heap.size,3,none⟩ (.string nx)).setCell ⟨w.heap.size,4,none⟩ (.string cx)).setCell ⟨w.heap.size,5,none⟩ (.slice p k c))=wE at *
    obtain ⟨m0,m1,m2,m3,m4,m5⟩:=six_cells hkE
    exact bodyPost_ret (v:=.agg #[.int .i64 o,.int .i64 n,.string sx,.string nx,.string cx,.slice p k c]) (by simp [results,Tryz.results17,go_sem,m0,m1,m2,m3,m4,m5]) rfl (⟨o,n,sx,nx,cx,p,k,c,x,_,rfl,HH.out,HV.out,HXL.out.st.box HP.out hoE (Nat.le_refl _),EX.at_reg (fun q hq=>by omega) (EX.at_box HXL.out.xa hoE (by omega)),HXL.out.ok⟩)
   ·by_cases h1:bp < least
    ·obtain ⟨⟨o,n,sx,nx,cx⟩,hh⟩:∃ hd,x.hd=hd:=⟨_,rfl⟩
     obtain ⟨p,k,c,hv⟩:=EX.form hxl.xa
     have hkl:=hxl.kl
     rw [EX.cells_eq hh hv] at hkl
     have hkr:=hxl.kr
     have HKR:=Lib.hid hkr
     have HXL:=Lib.hid hxl
     have HH:=Lib.hid hh
     have HV:=Lib.hid hv
     have hlr:=hkr.lt
     have hll:=hkl.lt
     obtain ⟨d0,d1,d2,d3,d4,d5⟩:=six_cells hkl
     obtain ⟨e0,e1,e2,e3,e4,e5⟩:=six_cells hkr
     have hfr:∀ i,wb.frozen? ⟨w.heap.size,i,none⟩=false:=hkr.frozen
     clear hxl hkl hkr hh hv
     go_wp2
     obtain ⟨hkE,hoE⟩:=set_sixE HKR.out (.int .i64 o) (.int .i64 n) (.string sx) (.string nx) (.string cx) (.slice p k c)
     generalize ((((((wb.setCell ⟨w.heap.size,0,none⟩ (.int .i64 o)).setCell ⟨w.heap.size,1,none⟩ (.int .i64 n)).setCell ⟨w.heap.size,2,none⟩ (.string sx)).setCell ⟨w.heap.size,3,none⟩ (.string nx)).setCell ⟨w.heap.size,4,none⟩ (.string cx)).setCell ⟨w.heap.size,5,none⟩ (.slice p k c))=wE at *
     obtain ⟨m0,m1,m2,m3,m4,m5⟩:=six_cells hkE
     exact bodyPost_ret (v:=.agg #[.int .i64 o,.int .i64 n,.string sx,.string nx,.string cx,.slice p k c]) (by simp [results,Tryz.results17,go_sem,m0,m1,m2,m3,m4,m5]) rfl (⟨o,n,sx,nx,cx,p,k,c,x,_,rfl,HH.out,HV.out,HXL.out.st.box HP.out hoE (Nat.le_refl _),EX.at_reg (fun q hq=>by omega) (EX.at_box HXL.out.xa hoE (by omega)),HXL.out.ok⟩)
    ·by_cases h2:m < bp
     ·obtain ⟨⟨o,n,sx,nx,cx⟩,hh⟩:∃ hd,x.hd=hd:=⟨_,rfl⟩
      obtain ⟨p,k,c,hv⟩:=EX.form hxl.xa
      have hkl:=hxl.kl
      rw [EX.cells_eq hh hv] at hkl
      have hkr:=hxl.kr
      have HKR:=Lib.hid hkr
      have HXL:=Lib.hid hxl
      have HH:=Lib.hid hh
      have HV:=Lib.hid hv
      have hlr:=hkr.lt
      have hll:=hkl.lt
      obtain ⟨d0,d1,d2,d3,d4,d5⟩:=six_cells hkl
      obtain ⟨e0,e1,e2,e3,e4,e5⟩:=six_cells hkr
      have hfr:∀ i,wb.frozen? ⟨w.heap.size,i,none⟩=false:=hkr.frozen
      clear hxl hkl hkr hh hv
      go_wp2
      obtain ⟨hkE,hoE⟩:=set_sixE HKR.out (.int .i64 o) (.int .i64 n) (.string sx) (.string nx) (.string cx) (.slice p k c)
      generalize ((((((wb.setCell ⟨w.heap.size,0,none⟩ (.int .i64 o)).setCell ⟨w.heap.size,1,none⟩ (.int .i64 n)).setCell ⟨w.heap.size,2,none⟩ (.string sx)).setCell ⟨w.heap.size,3,none⟩ (.string nx)).setCell ⟨w.heap.size,4,none⟩ (.string cx)).setCell ⟨w.heap.size,5,none⟩ (.slice p k c))=wE at *
      obtain ⟨m0,m1,m2,m3,m4,m5⟩:=six_cells hkE
      exact bodyPost_ret (v:=.agg #[.int .i64 o,.int .i64 n,.string sx,.string nx,.string cx,.slice p k c]) (by simp [results,Tryz.results17,go_sem,m0,m1,m2,m3,m4,m5]) rfl (⟨o,n,sx,nx,cx,p,k,c,x,_,rfl,HH.out,HV.out,HXL.out.st.box HP.out hoE (Nat.le_refl _),EX.at_reg (fun q hq=>by omega) (EX.at_box HXL.out.xa hoE (by omega)),HXL.out.ok⟩)
     ·obtain ⟨hbd,hi⟩:=hpi h0
      have hbk:=hxl.st.ps.blk
      have q1:wb.cell? ⟨sb,1,none⟩=some (.int .i64 (i:Int)):=hbk.cell 1
      have hfq:∀ i,wb.frozen? ⟨sb,i,none⟩=false:=hbk.frozen
      have hlq:=hbk.lt
      have hlim:=hxl.st.ps.lim
      simp only at hi
      have hmz:=hxl.st.mz
      have hmn:=Mz.next (ws:=ws) (s:=⟨i,op,deep,false⟩) rfl hi
      obtain ⟨wn,hwn⟩:∃ wn,wb.setCell ⟨sb,1,none⟩ (.int .i64 ((i:Int)+1))=wn:=⟨_,rfl⟩
      have hn:=hxl.st.next hi
      simp only at hn
      have hon:Only (fun q=>q=sb) wb wn:=hwn▸(Only.refl (fun q=>q=sb) wb).setCell (fun _=>rfl) _
      rw [hwn] at hn
      have hszb:=hxl.st.only.size
      have hsz2:=hxl.sz
      have hszn:=hon.size
      have hlr:=hxl.kl.lt
      have hxn:ExL w wn sb wv ws s w.heap.size w1.heap.size w2.heap.size x ⟨i+1,op,deep,false⟩:=⟨hn,hxl.kr.only hon (by omega),hxl.kl.only hon (by omega),EX.at_only hon (fun q hq e=>by omega) x hxl.xa,hxl.ok,Nat.le_trans hxl.sz hon.size⟩
      obtain ⟨wz,hwwz⟩:∃ w',wn.alloc (.cells #[.int .i64 0,.int .i64 0,.string ⟨#[]⟩,.string ⟨#[]⟩,.string ⟨#[]⟩,.slice none 0 0] 27)=w':=⟨_,rfl⟩
      have hbwz:Below wn.heap.size wn wz:=hwwz▸(Below.refl _ _).alloc (Nat.le_refl _) _
      have hkwz:Blk wz wn.heap.size 27 [.int .i64 0,.int .i64 0,.string ⟨#[]⟩,.string ⟨#[]⟩,.string ⟨#[]⟩,.slice none 0 0]:=hwwz▸Blk.new wn _ _
      have hlz:=hkwz.lt
      have hxlz:=hxn.below hbwz
      have HKZ:=Lib.hid hkwz
      have HXC:=Lib.hid (EX.at_below hbwz x (EX.at_cap hxn.xa))
      clear hbk hn hon hxn hkwz hbwz hxl hpi hbd
      by_cases hp2:bp=2
      ·subst hp2
       have HC:=Lib.hid ((HPar.out wz _ hxlz.st.ps).2.1 (by simp only at hmn hmz;split<;>omega))
       go_wp2_with fail
       clear hwwz hwn
       refine HC.out.mono ?_
       clear HC
       rintro e w4 ⟨o2,n2,sy,ny,cy,p2,k2,c2,y,s5,rfl,hh2,hv2,hst,hy,hok2⟩
       have hxl4:=hxlz.call hst (by omega) (by omega) (by omega)
       have hkz4:=HKZ.out.only hst.only (by omega)
       have hsz4:=hst.only.size
       have hlz4:=hkz4.lt
       obtain ⟨z0,z1,z2,z3,z4,z5⟩:=six_cells hkz4
       have hfz4:∀ i,w4.frozen? ⟨wn.heap.size,i,none⟩=false:=hkz4.frozen
       obtain ⟨hkS,hoS⟩:=set_sixE hkz4 (.int .i64 o2) (.int .i64 n2) (.string sy) (.string ny) (.string cy) (.slice p2 k2 c2)
       obtain ⟨wS,hwS⟩:∃ w',((((((w4.setCell ⟨wn.heap.size,0,none⟩ (.int .i64 o2)).setCell ⟨wn.heap.size,1,none⟩ (.int .i64 n2)).setCell ⟨wn.heap.size,2,none⟩ (.string sy)).setCell ⟨wn.heap.size,3,none⟩ (.string ny)).setCell ⟨wn.heap.size,4,none⟩ (.string cy)).setCell ⟨wn.heap.size,5,none⟩ (.slice p2 k2 c2))=w':=⟨_,rfl⟩
       rw [hwS] at hkS hoS
       obtain ⟨y0,y1,y2,y3,y4,y5⟩:=six_cells hkS
       have hszS:=hoS.size
       have hxS4:=EX.at_only hst.only (fun q hq e=>by omega) x HXC.out
       have hxlS:=hxl4.box HP.out hoS (by omega) (by omega) (by omega) (EX.at_reg (fun q hq=>hq.1) (EX.at_only hoS (fun q hq e=>by omega) x hxS4))
       have hyS:=EX.at_box hy hoS (by omega)
       obtain ⟨⟨o,n,sx,nx,cx⟩,hh⟩:∃ hd,x.hd=hd:=⟨_,rfl⟩
       obtain ⟨p,k,c,hv⟩:=EX.form hxlS.xa
       have hkl:=hxlS.kl
       rw [EX.cells_eq hh hv] at hkl
       obtain ⟨x0,x1,x2,x3,x4,x5⟩:=six_cells hkl
       have hllS:=hkl.lt
       have hlzS:=hkS.lt
       obtain ⟨wA,hwA⟩:∃ w',wS.alloc (.cells #[.int .i64 o,.int .i64 n,.string sx,.string nx,.string cx,.slice p k c,.int .i64 o2,.int .i64 n2,.string sy,.string ny,.string cy,.slice p2 k2 c2] 27)=w':=⟨_,rfl⟩
       have hbA:Below wS.heap.size wS wA:=hwA▸(Below.refl _ _).alloc (Nat.le_refl _) _
       have hszA:=hbA.size
       have hxlA:=hxlS.below hbA
       have hT:=EX.two_at hxlS.xa (EX.at_reg (fun q hq=>by omega) hyS) (by omega) hh hv hh2 hv2 hwA ⟨bo,0,⟨#[]⟩,⟨#[]⟩,⟨#[]⟩⟩
       have hklA:=hkl.below hbA
       obtain ⟨a0,a1,a2,a3,a4,a5⟩:=six_cells hklA
       have hfA:∀ i,wA.frozen? ⟨w1.heap.size,i,none⟩=false:=hklA.frozen
       have hllA:=hklA.lt
       have HT:=Lib.hid hT
       have HOK:=Lib.hid (And.intro hxlA.ok hok2)
       have HXA:=Lib.hid hxlA
       have HKA:=Lib.hid hklA
       have HUP:=Lib.hid hst.up
       clear hh2 hv2 hst hy hok2 hxl4 hkz4 hkS hoS hxlS hyS hh hv hkl hbA hxlA hT hklA hxlz hxS4
       go_wp2
       go_roundw
       case rel =>
        obtain ⟨hkE,hoE⟩:=set_sixE HKA.out (.int .i64 bo) (.int .i64 0) (.string ⟨#[]⟩) (.string ⟨#[]⟩) (.string ⟨#[]⟩) (.slice (some ⟨wS.heap.size,0,none⟩) 2 2)
        generalize ((((((wA.setCell ⟨w1.heap.size,0,none⟩ (.int .i64 bo)).setCell ⟨w1.heap.size,1,none⟩ (.int .i64 0)).setCell ⟨w1.heap.size,2,none⟩ (.string ⟨#[]⟩)).setCell ⟨w1.heap.size,3,none⟩ (.string ⟨#[]⟩)).setCell ⟨w1.heap.size,4,none⟩ (.string ⟨#[]⟩)).setCell ⟨w1.heap.size,5,none⟩ (.slice (some ⟨wS.heap.size,0,none⟩) 2 2))=wE at *
        have hxA:=HXA.out
        exact ⟨_,.two ⟨bo,0,⟨#[]⟩,⟨#[]⟩,⟨#[]⟩⟩ (.slice (some ⟨wS.heap.size,0,none⟩) 2 2) x y,s5,rfl,hxA.st.box HP.out hoE (by omega),hxA.kr.only hoE (by omega),hkE,EX.at_box HT.out hoE (by omega),⟨hd_ok ho0 (by omega) (by decide) (by decide),HOK.out⟩,Nat.le_trans (by omega) hoE.size⟩
       case measure =>
        obtain ⟨hkE,hoE⟩:=set_sixE HKA.out (.int .i64 bo) (.int .i64 0) (.string ⟨#[]⟩) (.string ⟨#[]⟩) (.string ⟨#[]⟩) (.slice (some ⟨wS.heap.size,0,none⟩) 2 2)
        generalize ((((((wA.setCell ⟨w1.heap.size,0,none⟩ (.int .i64 bo)).setCell ⟨w1.heap.size,1,none⟩ (.int .i64 0)).setCell ⟨w1.heap.size,2,none⟩ (.string ⟨#[]⟩)).setCell ⟨w1.heap.size,3,none⟩ (.string ⟨#[]⟩)).setCell ⟨w1.heap.size,4,none⟩ (.string ⟨#[]⟩)).setCell ⟨w1.heap.size,5,none⟩ (.slice (some ⟨wS.heap.size,0,none⟩) 2 2))=wE at *
        have hsE:=HXA.out.st.box HP.out hoE (by omega)
        have hcE:wE.cell? ⟨sb,1,none⟩=some (.int .i64 (s5.i:Int)):=hsE.ps.blk.cell 1
        have hu5:i+1≤s5.i:=HUP.out
        have hl5:=hsE.ps.le
        rw [hcE,HQ1.out]
        simp only [Option.getD_some,intOf,Int.toNat_natCast]
        omega
      ·by_cases hp1:bp=1
       ·subst hp1
        have HC:=Lib.hid ((HPar.out wz _ hxlz.st.ps).2.2 2 (by simp only at hmn hmz;split<;>split<;>omega))
        go_wp2_with fail
        clear hwwz hwn
        refine HC.out.mono ?_
        clear HC
        rintro e w4 ⟨o2,n2,sy,ny,cy,p2,k2,c2,y,s5,rfl,hh2,hv2,hst,hy,hok2⟩
        have hxl4:=hxlz.call hst (by omega) (by omega) (by omega)
        have hkz4:=HKZ.out.only hst.only (by omega)
        have hsz4:=hst.only.size
        have hlz4:=hkz4.lt
        obtain ⟨z0,z1,z2,z3,z4,z5⟩:=six_cells hkz4
        have hfz4:∀ i,w4.frozen? ⟨wn.heap.size,i,none⟩=false:=hkz4.frozen
        obtain ⟨hkS,hoS⟩:=set_sixE hkz4 (.int .i64 o2) (.int .i64 n2) (.string sy) (.string ny) (.string cy) (.slice p2 k2 c2)
        obtain ⟨wS,hwS⟩:∃ w',((((((w4.setCell ⟨wn.heap.size,0,none⟩ (.int .i64 o2)).setCell ⟨wn.heap.size,1,none⟩ (.int .i64 n2)).setCell ⟨wn.heap.size,2,none⟩ (.string sy)).setCell ⟨wn.heap.size,3,none⟩ (.string ny)).setCell ⟨wn.heap.size,4,none⟩ (.string cy)).setCell ⟨wn.heap.size,5,none⟩ (.slice p2 k2 c2))=w':=⟨_,rfl⟩
        rw [hwS] at hkS hoS
        obtain ⟨y0,y1,y2,y3,y4,y5⟩:=six_cells hkS
        have hszS:=hoS.size
        have hxS4:=EX.at_only hst.only (fun q hq e=>by omega) x HXC.out
        have hxlS:=hxl4.box HP.out hoS (by omega) (by omega) (by omega) (EX.at_reg (fun q hq=>hq.1) (EX.at_only hoS (fun q hq e=>by omega) x hxS4))
        have hyS:=EX.at_box hy hoS (by omega)
        obtain ⟨⟨o,n,sx,nx,cx⟩,hh⟩:∃ hd,x.hd=hd:=⟨_,rfl⟩
        obtain ⟨p,k,c,hv⟩:=EX.form hxlS.xa
        have hkl:=hxlS.kl
        rw [EX.cells_eq hh hv] at hkl
        obtain ⟨x0,x1,x2,x3,x4,x5⟩:=six_cells hkl
        have hllS:=hkl.lt
        have hlzS:=hkS.lt
        obtain ⟨wA,hwA⟩:∃ w',wS.alloc (.cells #[.int .i64 o,.int .i64 n,.string sx,.string nx,.string cx,.slice p k c,.int .i64 o2,.int .i64 n2,.string sy,.string ny,.string cy,.slice p2 k2 c2] 27)=w':=⟨_,rfl⟩
        have hbA:Below wS.heap.size wS wA:=hwA▸(Below.refl _ _).alloc (Nat.le_refl _) _
        have hszA:=hbA.size
        have hxlA:=hxlS.below hbA
        have hT:=EX.two_at hxlS.xa (EX.at_reg (fun q hq=>by omega) hyS) (by omega) hh hv hh2 hv2 hwA ⟨bo,0,⟨#[]⟩,⟨#[]⟩,⟨#[]⟩⟩
        have hklA:=hkl.below hbA
        obtain ⟨a0,a1,a2,a3,a4,a5⟩:=six_cells hklA
        have hfA:∀ i,wA.frozen? ⟨w1.heap.size,i,none⟩=false:=hklA.frozen
        have hllA:=hklA.lt
        have HT:=Lib.hid hT
        have HOK:=Lib.hid (And.intro hxlA.ok hok2)
        have HXA:=Lib.hid hxlA
        have HKA:=Lib.hid hklA
        have HUP:=Lib.hid hst.up
        clear hh2 hv2 hst hy hok2 hxl4 hkz4 hkS hoS hxlS hyS hh hv hkl hbA hxlA hT hklA hxlz hxS4
        go_wp2
        go_roundw
        case rel =>
         obtain ⟨hkE,hoE⟩:=set_sixE HKA.out (.int .i64 bo) (.int .i64 0) (.string ⟨#[]⟩) (.string ⟨#[]⟩) (.string ⟨#[]⟩) (.slice (some ⟨wS.heap.size,0,none⟩) 2 2)
         generalize ((((((wA.setCell ⟨w1.heap.size,0,none⟩ (.int .i64 bo)).setCell ⟨w1.heap.size,1,none⟩ (.int .i64 0)).setCell ⟨w1.heap.size,2,none⟩ (.string ⟨#[]⟩)).setCell ⟨w1.heap.size,3,none⟩ (.string ⟨#[]⟩)).setCell ⟨w1.heap.size,4,none⟩ (.string ⟨#[]⟩)).setCell ⟨w1.heap.size,5,none⟩ (.slice (some ⟨wS.heap.size,0,none⟩) 2 2))=wE at *
         have hxA:=HXA.out
         exact ⟨_,.two ⟨bo,0,⟨#[]⟩,⟨#[]⟩,⟨#[]⟩⟩ (.slice (some ⟨wS.heap.size,0,none⟩) 2 2) x y,s5,rfl,hxA.st.box HP.out hoE (by omega),hxA.kr.only hoE (by omega),hkE,EX.at_box HT.out hoE (by omega),⟨hd_ok ho0 (by omega) (by decide) (by decide),HOK.out⟩,Nat.le_trans (by omega) hoE.size⟩
        case measure =>
         obtain ⟨hkE,hoE⟩:=set_sixE HKA.out (.int .i64 bo) (.int .i64 0) (.string ⟨#[]⟩) (.string ⟨#[]⟩) (.string ⟨#[]⟩) (.slice (some ⟨wS.heap.size,0,none⟩) 2 2)
         generalize ((((((wA.setCell ⟨w1.heap.size,0,none⟩ (.int .i64 bo)).setCell ⟨w1.heap.size,1,none⟩ (.int .i64 0)).setCell ⟨w1.heap.size,2,none⟩ (.string ⟨#[]⟩)).setCell ⟨w1.heap.size,3,none⟩ (.string ⟨#[]⟩)).setCell ⟨w1.heap.size,4,none⟩ (.string ⟨#[]⟩)).setCell ⟨w1.heap.size,5,none⟩ (.slice (some ⟨wS.heap.size,0,none⟩) 2 2))=wE at *
         have hsE:=HXA.out.st.box HP.out hoE (by omega)
         have hcE:wE.cell? ⟨sb,1,none⟩=some (.int .i64 (s5.i:Int)):=hsE.ps.blk.cell 1
         have hu5:i+1≤s5.i:=HUP.out
         have hl5:=hsE.ps.le
         rw [hcE,HQ1.out]
         simp only [Option.getD_some,intOf,Int.toNat_natCast]
         omega
       ·have HC:=Lib.hid ((HPar.out wz _ hxlz.st.ps).2.2 (bp+1) (by simp only at hmn hmz;split<;>split<;>omega))
        have b0:(bp == 0)=false:=by simp [h0]
        have b1:(bp == 1)=false:=by simp [hp1]
        have b2:(bp == 2)=false:=by simp [hp2]
        have b3:decide (bp < least)=false:=by simp only [decide_eq_false_iff_not];exact h1
        have b4:decide (m < bp)=false:=by simp only [decide_eq_false_iff_not];exact h2
        go_wp2_with fail
        clear hwwz hwn
        refine HC.out.mono ?_
        clear HC
        rintro e w4 ⟨o2,n2,sy,ny,cy,p2,k2,c2,y,s5,rfl,hh2,hv2,hst,hy,hok2⟩
        have hxl4:=hxlz.call hst (by omega) (by omega) (by omega)
        have hkz4:=HKZ.out.only hst.only (by omega)
        have hsz4:=hst.only.size
        have hlz4:=hkz4.lt
        obtain ⟨z0,z1,z2,z3,z4,z5⟩:=six_cells hkz4
        have hfz4:∀ i,w4.frozen? ⟨wn.heap.size,i,none⟩=false:=hkz4.frozen
        obtain ⟨hkS,hoS⟩:=set_sixE hkz4 (.int .i64 o2) (.int .i64 n2) (.string sy) (.string ny) (.string cy) (.slice p2 k2 c2)
        obtain ⟨wS,hwS⟩:∃ w',((((((w4.setCell ⟨wn.heap.size,0,none⟩ (.int .i64 o2)).setCell ⟨wn.heap.size,1,none⟩ (.int .i64 n2)).setCell ⟨wn.heap.size,2,none⟩ (.string sy)).setCell ⟨wn.heap.size,3,none⟩ (.string ny)).setCell ⟨wn.heap.size,4,none⟩ (.string cy)).setCell ⟨wn.heap.size,5,none⟩ (.slice p2 k2 c2))=w':=⟨_,rfl⟩
        rw [hwS] at hkS hoS
        obtain ⟨y0,y1,y2,y3,y4,y5⟩:=six_cells hkS
        have hszS:=hoS.size
        have hxS4:=EX.at_only hst.only (fun q hq e=>by omega) x HXC.out
        have hxlS:=hxl4.box HP.out hoS (by omega) (by omega) (by omega) (EX.at_reg (fun q hq=>hq.1) (EX.at_only hoS (fun q hq e=>by omega) x hxS4))
        have hyS:=EX.at_box hy hoS (by omega)
        obtain ⟨⟨o,n,sx,nx,cx⟩,hh⟩:∃ hd,x.hd=hd:=⟨_,rfl⟩
        obtain ⟨p,k,c,hv⟩:=EX.form hxlS.xa
        have hkl:=hxlS.kl
        rw [EX.cells_eq hh hv] at hkl
        obtain ⟨x0,x1,x2,x3,x4,x5⟩:=six_cells hkl
        have hllS:=hkl.lt
        have hlzS:=hkS.lt
        obtain ⟨wA,hwA⟩:∃ w',wS.alloc (.cells #[.int .i64 o,.int .i64 n,.string sx,.string nx,.string cx,.slice p k c,.int .i64 o2,.int .i64 n2,.string sy,.string ny,.string cy,.slice p2 k2 c2] 27)=w':=⟨_,rfl⟩
        have hbA:Below wS.heap.size wS wA:=hwA▸(Below.refl _ _).alloc (Nat.le_refl _) _
        have hszA:=hbA.size
        have hxlA:=hxlS.below hbA
        have hT:=EX.two_at hxlS.xa (EX.at_reg (fun q hq=>by omega) hyS) (by omega) hh hv hh2 hv2 hwA ⟨bo,0,⟨#[]⟩,⟨#[]⟩,⟨#[]⟩⟩
        have hklA:=hkl.below hbA
        obtain ⟨a0,a1,a2,a3,a4,a5⟩:=six_cells hklA
        have hfA:∀ i,wA.frozen? ⟨w1.heap.size,i,none⟩=false:=hklA.frozen
        have hllA:=hklA.lt
        have HT:=Lib.hid hT
        have HOK:=Lib.hid (And.intro hxlA.ok hok2)
        have HXA:=Lib.hid hxlA
        have HKA:=Lib.hid hklA
        have HUP:=Lib.hid hst.up
        clear hh2 hv2 hst hy hok2 hxl4 hkz4 hkS hoS hxlS hyS hh hv hkl hbA hxlA hT hklA hxlz hxS4
        by_cases hp3:bp=3
        ·subst hp3
         go_wp2
         go_roundw
         case rel =>
          obtain ⟨hkE,hoE⟩:=set_sixE HKA.out (.int .i64 bo) (.int .i64 0) (.string ⟨#[]⟩) (.string ⟨#[]⟩) (.string ⟨#[]⟩) (.slice (some ⟨wS.heap.size,0,none⟩) 2 2)
          generalize ((((((wA.setCell ⟨w1.heap.size,0,none⟩ (.int .i64 bo)).setCell ⟨w1.heap.size,1,none⟩ (.int .i64 0)).setCell ⟨w1.heap.size,2,none⟩ (.string ⟨#[]⟩)).setCell ⟨w1.heap.size,3,none⟩ (.string ⟨#[]⟩)).setCell ⟨w1.heap.size,4,none⟩ (.string ⟨#[]⟩)).setCell ⟨w1.heap.size,5,none⟩ (.slice (some ⟨wS.heap.size,0,none⟩) 2 2))=wE at *
          have hxA:=HXA.out
          exact ⟨_,.two ⟨bo,0,⟨#[]⟩,⟨#[]⟩,⟨#[]⟩⟩ (.slice (some ⟨wS.heap.size,0,none⟩) 2 2) x y,s5,rfl,hxA.st.box HP.out hoE (by omega),hxA.kr.only hoE (by omega),hkE,EX.at_box HT.out hoE (by omega),⟨hd_ok ho0 (by omega) (by decide) (by decide),HOK.out⟩,Nat.le_trans (by omega) hoE.size⟩
         case measure =>
          obtain ⟨hkE,hoE⟩:=set_sixE HKA.out (.int .i64 bo) (.int .i64 0) (.string ⟨#[]⟩) (.string ⟨#[]⟩) (.string ⟨#[]⟩) (.slice (some ⟨wS.heap.size,0,none⟩) 2 2)
          generalize ((((((wA.setCell ⟨w1.heap.size,0,none⟩ (.int .i64 bo)).setCell ⟨w1.heap.size,1,none⟩ (.int .i64 0)).setCell ⟨w1.heap.size,2,none⟩ (.string ⟨#[]⟩)).setCell ⟨w1.heap.size,3,none⟩ (.string ⟨#[]⟩)).setCell ⟨w1.heap.size,4,none⟩ (.string ⟨#[]⟩)).setCell ⟨w1.heap.size,5,none⟩ (.slice (some ⟨wS.heap.size,0,none⟩) 2 2))=wE at *
          have hsE:=HXA.out.st.box HP.out hoE (by omega)
          have hcE:wE.cell? ⟨sb,1,none⟩=some (.int .i64 (s5.i:Int)):=hsE.ps.blk.cell 1
          have hu5:i+1≤s5.i:=HUP.out
          have hl5:=hsE.ps.le
          rw [hcE,HQ1.out]
          simp only [Option.getD_some,intOf,Int.toNat_natCast]
          omega
        ·go_wp2
         go_roundw
         case rel =>
          obtain ⟨hkE,hoE⟩:=set_sixE HKA.out (.int .i64 bo) (.int .i64 0) (.string ⟨#[]⟩) (.string ⟨#[]⟩) (.string ⟨#[]⟩) (.slice (some ⟨wS.heap.size,0,none⟩) 2 2)
          generalize ((((((wA.setCell ⟨w1.heap.size,0,none⟩ (.int .i64 bo)).setCell ⟨w1.heap.size,1,none⟩ (.int .i64 0)).setCell ⟨w1.heap.size,2,none⟩ (.string ⟨#[]⟩)).setCell ⟨w1.heap.size,3,none⟩ (.string ⟨#[]⟩)).setCell ⟨w1.heap.size,4,none⟩ (.string ⟨#[]⟩)).setCell ⟨w1.heap.size,5,none⟩ (.slice (some ⟨wS.heap.size,0,none⟩) 2 2))=wE at *
          have hxA:=HXA.out
          exact ⟨_,.two ⟨bo,0,⟨#[]⟩,⟨#[]⟩,⟨#[]⟩⟩ (.slice (some ⟨wS.heap.size,0,none⟩) 2 2) x y,s5,rfl,hxA.st.box HP.out hoE (by omega),hxA.kr.only hoE (by omega),hkE,EX.at_box HT.out hoE (by omega),⟨hd_ok ho0 (by omega) (by decide) (by decide),HOK.out⟩,Nat.le_trans (by omega) hoE.size⟩
         case measure =>
          obtain ⟨hkE,hoE⟩:=set_sixE HKA.out (.int .i64 bo) (.int .i64 0) (.string ⟨#[]⟩) (.string ⟨#[]⟩) (.string ⟨#[]⟩) (.slice (some ⟨wS.heap.size,0,none⟩) 2 2)
          generalize ((((((wA.setCell ⟨w1.heap.size,0,none⟩ (.int .i64 bo)).setCell ⟨w1.heap.size,1,none⟩ (.int .i64 0)).setCell ⟨w1.heap.size,2,none⟩ (.string ⟨#[]⟩)).setCell ⟨w1.heap.size,3,none⟩ (.string ⟨#[]⟩)).setCell ⟨w1.heap.size,4,none⟩ (.string ⟨#[]⟩)).setCell ⟨w1.heap.size,5,none⟩ (.slice (some ⟨wS.heap.size,0,none⟩) 2 2))=wE at *
          have hsE:=HXA.out.st.box HP.out hoE (by omega)
          have hcE:wE.cell? ⟨sb,1,none⟩=some (.int .i64 (s5.i:Int)):=hsE.ps.blk.cell 1
          have hu5:i+1≤s5.i:=HUP.out
          have hl5:=hsE.ps.le
          rw [hcE,HQ1.out]
          simp only [Option.getD_some,intOf,Int.toNat_natCast]
          omega
structure FoldS (w wr:World) (sb:Nat) (wv:Value) (ws:List WdV) (s:PSt) (r b:Nat) (o:Int) (nm src:ByteArray) (av:Value) (s':PSt):Prop where
 st:StepP w wr sb wv ws s s'
 kr:Blk wr r 27 [.int .i64 0,.int .i64 0,.string ⟨#[]⟩,.string ⟨#[]⟩,.string ⟨#[]⟩,.slice none 0 0]
 ke:Blk wr b 27 [.int .i64 o,.int .i64 0,.string ⟨#[]⟩,.string nm,.string src,av]
 o0:0≤o
 o24:o≤24
theorem FoldS.call {w wr wr':World} {sb:Nat} {wv:Value} {ws:List WdV} {s s' s'':PSt} {r b:Nat} {o:Int} {nm src:ByteArray} {av:Value} (h:FoldS w wr sb wv ws s r b o nm src av s') (hst:StepP wr wr' sb wv ws s' s'') (hr:sb < r) (hb:sb < b):FoldS w wr' sb wv ws s r b o nm src av s'' :=
 ⟨h.st.trans hst,h.kr.only hst.only (by omega),h.ke.only hst.only (by omega),h.o0,h.o24⟩
theorem FoldS.below {w wr wr':World} {sb:Nat} {wv:Value} {ws:List WdV} {s s':PSt} {r b:Nat} {o:Int} {nm src:ByteArray} {av:Value} (h:FoldS w wr sb wv ws s r b o nm src av s') (hbl:Below wr.heap.size wr wr'):FoldS w wr' sb wv ws s r b o nm src av s' :=
 ⟨h.st.on hbl,h.kr.below hbl,h.ke.below hbl,h.o0,h.o24⟩
theorem FoldS.set {w wr wr':World} {sb:Nat} {wv:Value} {ws:List WdV} {s s':PSt} {r b:Nat} {o o2:Int} {nm src nm2 src2:ByteArray} {av av2:Value} (h:FoldS w wr sb wv ws s r b o nm src av s') (h0:PS w sb wv ws s) (ho:Only (fun q=>q=b) wr wr') (hw:w.heap.size≤b) (hr:r < b)
 (hk:Blk wr' b 27 [.int .i64 o2,.int .i64 0,.string ⟨#[]⟩,.string nm2,.string src2,av2]) (h1:0≤o2) (h2:o2≤24):FoldS w wr' sb wv ws s r b o2 nm2 src2 av2 s' :=
 ⟨h.st.box h0 ho hw,h.kr.only ho (by omega),hk,h1,h2⟩
theorem elemEx:Elem Tryz.prog 25 27 6 88 (.agg #[.int .i64 0,.int .i64 0,.string ⟨#[]⟩,.string ⟨#[]⟩,.string ⟨#[]⟩,.slice none 0 0]) :=
 ⟨Tryz.underlying25,by kernel_rfl,rfl,by omega,by intro u hu;exact ones_six u hu⟩
theorem EX.one_own {W:World} {x:EX} {m:Nat} {v:Value} {o n:Int} {sx nx cx:ByteArray} {p:Option Addr} {k c:Nat} (hx:x.at W (fun q=>m≤q)) (ho:Own W 27 6 v 1 [.int .i64 o,.int .i64 n,.string sx,.string nx,.string cx,.slice p k c]) (hb:∀ q,v.ownBlock=some q→m≤q)
 (hh:x.hd=⟨o,n,sx,nx,cx⟩) (hv:x.av=.slice p k c) (h:Hd):(EX.one h v x).at W (fun q=>m≤q):=by
 refine ⟨?_,hx⟩
 rw [EX.cells_eq hh hv]
 exact ho.sl (B:=fun q=>m≤q) hb
theorem EX.two_own {W:World} {x y:EX} {m:Nat} {v:Value} {o n o2 n2:Int} {sx nx cx sy ny cy:ByteArray} {p p2:Option Addr} {k c k2 c2:Nat} (hx:x.at W (fun q=>m≤q)) (hy:y.at W (fun q=>m≤q)) (ho:Own W 27 6 v 2 ([.int .i64 o,.int .i64 n,.string sx,.string nx,.string cx,.slice p k c]++[.int .i64 o2,.int .i64 n2,.string sy,.string ny,.string cy,.slice p2 k2 c2]))
 (hb:∀ q,v.ownBlock=some q→m≤q) (hh:x.hd=⟨o,n,sx,nx,cx⟩) (hv:x.av=.slice p k c) (hh2:y.hd=⟨o2,n2,sy,ny,cy⟩) (hv2:y.av=.slice p2 k2 c2) (h:Hd):(EX.two h v x y).at W (fun q=>m≤q):=by
 refine ⟨?_,hx,hy⟩
 rw [EX.cells_eq hh hv,EX.cells_eq hh2 hv2]
 exact ho.sl (B:=fun q=>m≤q) hb
theorem FoldS.box {w wr wr':World} {sb:Nat} {wv:Value} {ws:List WdV} {s s':PSt} {r b b':Nat} {o:Int} {nm src:ByteArray} {av:Value} (h:FoldS w wr sb wv ws s r b o nm src av s') (h0:PS w sb wv ws s) (ho:Only (fun q=>q=b') wr wr') (hw:w.heap.size≤b') (hr:r≠b') (hb:b≠b'):FoldS w wr' sb wv ws s r b o nm src av s' :=
 ⟨h.st.box h0 ho hw,h.kr.only ho hr,h.ke.only ho hb,h.o0,h.o24⟩
theorem own_form_pos {W:World} {e:TypeId} {sz n:Nat} {v:Value} {cs:List Value} (h:Own W e sz v n cs) (hn:0 < n):∃ g off c,v=.slice (some ⟨g,off,none⟩) n c:=by
 obtain ⟨_,_,h3⟩:=h
 rcases h3 with ⟨_,h4⟩|⟨g,off,cap,cur,h4,_⟩
 ·omega
 ·exact ⟨g,off,cap,h4⟩
structure FoldA (w wA wB:World) (sb:Nat) (wv:Value) (ws:List WdV) (s:PSt) (r b m:Nat) (o:Int) (nm src:ByteArray) (v1:Value) (cs:List Value) (x y:EX) (s':PSt):Prop where
 fs:FoldS w wB sb wv ws s r b o nm src v1 s'
 own:Own wB 27 6 v1 2 cs
 blk:∀ q,v1.ownBlock=some q→m≤q
 xa:x.at wB (fun q=>m≤q)
 ya:y.at wB (fun q=>m≤q)
 sz:b < wB.heap.size
theorem fold_app {w wm wA:World} {sb:Nat} {wv:Value} {ws:List WdV} {s s':PSt} {r b m f0 m2:Nat} {o:Int} {nm src:ByteArray} {av v v1:Value} {cs:List Value} {x y:EX} (hf:FoldS w wm sb wv ws s r b o nm src av s') (h0:PS w sb wv ws s)
 (g1:Own wA 27 6 v1 2 cs) (g2:Only (fun k=>v.ownBlock=some k) wm wA) (g3:v1.ownBlock=v.ownBlock∨v1.ownBlock=some wm.heap.size) (hv:v.ownBlock=some f0)
 (hx:x.at wm (fun q=>m≤q∧q < f0)) (hy:y.at wm (fun q=>m2≤q)) (hm2:f0 < m2) (hmm:m2≤wm.heap.size) (hw:w.heap.size≤r) (hrb:r < b) (hbm:b < m) (hmf:m≤f0) :
 ∃ gA oA cA wB,v1=.slice (some ⟨gA,oA,none⟩) 2 cA∧wA.setCell ⟨b,5,none⟩ (.slice (some ⟨gA,oA,none⟩) 2 cA)=wB∧Blk wA b 27 [.int .i64 o,.int .i64 0,.string ⟨#[]⟩,.string nm,.string src,av]∧FoldA w wA wB sb wv ws s r b m o nm src (.slice (some ⟨gA,oA,none⟩) 2 cA) cs x y s':=by
 obtain ⟨gA,oA,cA,rfl⟩:=own_form_pos g1 (by decide)
 have hA:Only (fun q=>q=f0) wm wA:=g2.mono (fun i _ h=>(Option.some.inj (hv.symm.trans h)).symm)
 have hfA:=hf.box h0 hA (by omega) (by omega) (by omega)
 have hoB:Only (fun q=>q=b) wA (wA.setCell ⟨b,5,none⟩ (.slice (some ⟨gA,oA,none⟩) 2 cA)):=(Only.refl (fun q=>q=b) wA).setCell (fun _=>rfl) _
 have hkB:=hfA.ke.set 5 (.slice (some ⟨gA,oA,none⟩) 2 cA)
 simp only [List.set_cons_zero,List.set_cons_succ] at hkB
 have hgA:∀ q,(Value.slice (some ⟨gA,oA,none⟩) 2 cA).ownBlock=some q→m≤q:=fun q hq=>by
  rcases g3 with g3|g3
  ·have e2:f0=q:=Option.some.inj ((hv.symm.trans g3.symm).trans hq)
   omega
  ·have e2:wm.heap.size=q:=Option.some.inj (g3.symm.trans hq)
   omega
 exact ⟨gA,oA,cA,_,rfl,rfl,hfA.ke,⟨hfA.set h0 hoB (by omega) hrb hkB hfA.o0 hfA.o24,g1.only hoB (fun q hq e=>by have:=hgA q hq;omega),hgA,
  EX.at_reg (fun q hq=>hq.1) (EX.at_only hoB (fun q hq e=>by omega) x (EX.at_only hA (fun q hq e=>by omega) x hx)),
  EX.at_reg (fun q hq=>by omega) (EX.at_only hoB (fun q hq e=>by omega) y (EX.at_only hA (fun q hq e=>by omega) y hy)),hkB.lt⟩⟩
structure Stp (p:Prop):Prop where
 go:p
def foldW:List Value:=[.string ⟨#[99,111,117,110,116]⟩,.string ⟨#[115,117,109]⟩,.string ⟨#[109,105,110]⟩,.string ⟨#[109,97,120]⟩]
theorem foldW_at {k:Nat} (hk:k < 4):∃ t,foldW[k]?=some (.string t):=by
 rcases (show k=0∨k=1∨k=2∨k=3 by omega) with rfl|rfl|rfl|rfl<;>exact ⟨_,rfl⟩
end Go.Proofs.YtnpplhkpnbonaaaGreat
