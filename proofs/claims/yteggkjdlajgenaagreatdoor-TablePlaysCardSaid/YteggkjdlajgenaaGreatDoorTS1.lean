/- Contracts of the functions that the statement reaches, one behind the other. No condition beyond each theorem's own. -/
import Derived.WalkKit
import Derived.Laws.Entries
import Derived.Test.YteggkjdlajgenaaGreatDoorRows
import Derived.Lib.Hide
import Derived.Lib.SliceRun
import Derived.Laws.Cover1
import Derived.Lib.AppendZerosOnto
import Derived.Lib.Overlaps
import Derived.Laws.Externs
import Derived.Deep.DeepCutAuto
import Derived.Deep.CutBlock
import Derived.Handed
import Derived.Shelf.Strings.Builder1
import Derived.Shelf.Strings.Builder2
import Derived.Shelf.Strings.Search1
import Derived.Shelf.Strings.Search2
import Derived.Shelf.Strings.Search3
import Derived.Shelf.Strings.Count
import Derived.Shelf.LaysM
import Derived.Shelf.Strings.Shaped
import Derived.Shelf.Strings.Split
import Derived.Shelf.Strings.Replace
import Derived.Shelf.Unicode.DecodeSlow
import Derived.Test.YteggkjdlajgenaaGreatDoorProg
import Derived.Lib.ReplaceLaws
import Derived.Lib.CountLaws
import Derived.Lib.SplitLaws
import Derived.Lib.IndexLaws
import Derived.Deep.AppendSrc
import Derived.Laws.IdiomStrings
import Derived.Lib.Strings
import Derived.ProofKit
import Derived.ChangeOld
import Derived.Laws.Bits64
import Derived.Shelf.Vars
import Derived.Shelf.Spec.BitsCarry
import Derived.Lib.Mul64
import Derived.Laws.Bits64b
import Derived.IntWalk
import Derived.ChangeArms
set_option linter.unusedSimpArgs false
set_option linter.unusedVariables false
set_option maxRecDepth 100000
set_option maxHeartbeats 4000000
theorem z07k {P:Prop} (h:P:=by simp [feet]):P:=h
theorem z0qj {P:Prop} (h:P:=by intro u hu;simp [rowCells,AV.cells] at hu;rcases hu with rfl|rfl|rfl<;>rfl):P:=h
theorem z1Kr {P:Prop} (h:P:=by simpa [Value.ownBlock] using h3):P:=h
theorem z1O1 {P:Prop} (h:P:=by
 have zz:Below w4.heap.size w4 w5:=hw5▸(Below.refl _ _).alloc (Nat.le_refl _) _
 exact zz):P:=h
theorem z1PZ {P:Prop} (h:P:=by simpa using h.1):P:=h
theorem z1zT {P:Prop} (h:P:=by
 have zz:g.rows[j]=g.L[j].1:=List.getElem_map Prod.fst
 exact zz):P:=h
theorem z2Pg {P:Prop} (h:P:=by rw [List.length_take];omega):P:=h
theorem z2dt {P:Prop} (h:P:=by rw [feet_append];simp [hk]):P:=h
theorem z2tu {P:Prop} (h:P:=by
 have zz:es[pos k es]?=some es[pos k es]:=List.getElem?_eq_getElem hpl
 exact zz):P:=h
theorem z3KH {P:Prop} (h:P:=by go_num):P:=h
theorem z3Mw {P:Prop} (h:P:=by
 have zz:x.agg=.agg #[.int .i64 x.kind,.int .i64 x.n,.string x.s]:=rfl
 exact zz):P:=h
theorem z3cz {P:Prop} (h:P:=by intro u hu;simp [colCells,ColV.cells] at hu;rcases hu with rfl|rfl|rfl|rfl<;>rfl):P:=h
theorem z5c5 {P:Prop} (h:P:=by
 have zz:x.agg=.agg #[.int .i64 x.kind,.int .i64 x.n,.bool x.other,.slice pr nr cr]:=by unfold ActU.agg;rw [hrv]
 exact zz):P:=h
theorem z6Ba {P:Prop} (h:P:=by
 rw [flatten_length _ hlen,List.length_map]
 ):P:=h
theorem z7Rn {P:Prop} (h:P:=by show (1:Nat)≤maxLen;decide):P:=h
theorem z7p4 {P:Prop} (h:P:=by
 have hs:=hown.sl (B:=fun _=>True) (fun _ _=>trivial)
 rcases hs.2.2 with ⟨_,_,_,h0,_⟩|⟨g2,off2,cap2,hv,_,_,_,_,h5⟩
 ·have:cs=[]:=List.eq_nil_of_length_eq_zero (by rw [hown.1,h0,Nat.zero_mul])
  intro j u hu
  simp [this] at hu
 ·cases hv
  exact news_of_sl h5
 ):P:=h
theorem z7xX {P:Prop} (h:P:=by
 have zz:k=w.heap.size∨k=w.heap.size+1:=z1Kr
 exact zz):P:=h
theorem z8Tj {P:Prop} (h:P:=by
 have zz:Below w.heap.size w (w.alloc (.cells #[.int .i64 k,.int .i64 n,.string s] 113)):=(Below.refl _ _).alloc (Nat.le_refl _) _
 exact zz):P:=h
theorem z9se {P:Prop} (h:P:=by have:=HN.out;omega):P:=h
theorem zAOB {P:Prop} (h:P:=by
 rw [flatten_get _ hlen k r hr,List.getElem?_map,List.getElem?_eq_getElem hk]
 rfl
 ):P:=h
theorem zAV0 {P:Prop} (h:P:=by intro u hu;simp [Value.cells] at hu;rcases hu with rfl|rfl|rfl<;>rfl):P:=h
theorem zCtK {P:Prop} (h:P:=by
 rw [List.length_append,hlen,Array.length_toList,size_zeroCells,hzs,←Nat.add_mul]
 congr 1
 omega
 ):P:=h
theorem zCwl {P:Prop} (h:P:=by
 rw [←h2];exact Own.made w1 110 2 _ [] 2 2 rfl z3cz zTbe zdUY (by simp [colCells,ColV.cells])
 ):P:=h
theorem zD7T {P:Prop} (h:P:=by
 go_enter Tryz.func30,Tryz.ntmps30
 go_wp2
 go_ret
 exact ⟨rfl,rfl⟩
 ):P:=h
theorem zDit {P:Prop} (h:P:=by
 have zz:∃ wo:World,wo=wr:=⟨_,rfl⟩
 exact zz):P:=h
theorem zEaK {P:Prop} (h:P:=by simp [feet,Res.blk]):P:=h
theorem zFJU {P:Prop} (h:P:=by simpa using hk):P:=h
theorem zFlm {P:Prop} (h:P:=by
 have zz:w1.heap.size=w.heap.size+1:=by rw [←hw1];simp
 exact zz):P:=h
theorem zIJi {P:Prop} (h:P:=by have:=pos_le k es;omega):P:=h
theorem zInm {P:Prop} (h:P:=by simp only [List.mem_cons,true_or,or_true]):P:=h
theorem zIx0 {P:Prop} (h:P:=by
 have zz:((l.length:Int) != (l'.length:Int))=true:=bne_iff_ne.2 zTbe
 exact zz):P:=h
theorem zJ0c {P:Prop} (h:P:=by have:=hok.len;have:=(rightS_by exUt_right).2.2.2.2.2.2.2.2;omega):P:=h
theorem zJDc {P:Prop} (h:P:=by rw [beq_eq_false_iff_ne];omega):P:=h
theorem zJP2 {P:Prop} (h:P:=by simp [Op.bytesLess] at h):P:=h
theorem zJtu {P:Prop} (h:P:=by simpa using hf.2):P:=h
theorem zKZO {P:Prop} (h:P:=by rw [HE.out];rfl):P:=h
theorem zKzh {P:Prop} (h:P:=by
 have zz:l[k]∈l:=List.getElem_mem hkl
 exact zz):P:=h
theorem zLlr {P:Prop} (h:P:=by
 go_wp2
 refine wp_region_lit_plan [] [(0,0),(1,0),(2,0),(4,0),(5,0),(6,0),(3,1),(7,1),(8,0)] (fun _=>False) zyVB zyVB (fun c a d v w h=>zx0I) ?_
 go_wp2_with (first
  | (refine stp ?_))
 exact ⟨⟨k+1,z3KH,zTbe,HF.out,HB.out.drew⟩,zQOc⟩
 ):P:=h
theorem zM8Z {P:Prop} (h:P:=by simp [results,Tryz.results63,go_sem]):P:=h
theorem zN8V {P:Prop} (h:P:=by simp [ints]):P:=h
theorem zN9L {P:Prop} (h:P:=by
 have zz:cs=[]:=List.eq_nil_of_length_eq_zero z1PZ
 exact zz):P:=h
theorem zOaE {P:Prop} (h:P:=by intro u hu;simp [Value.cells] at hu;subst hu;rfl):P:=h
theorem zP8m {P:Prop} (h:P:=by
 go_ret
 have hb:=zPqv
 refine ⟨v',rfl,zVKw,hb,fun k hk=>?_⟩
 rw [hk] at h3
 have h7:=z7xX
 omega
 ):P:=h
theorem zPXO {P:Prop} (h:P:=by simp):P:=h
theorem zPqv {P:Prop} (h:P:=by
 have zz:Below w.heap.size w w':=(((Below.refl w.heap.size w).alloc (Nat.le_refl _) _).trans (h2.below (B:=w.heap.size) zPXO (fun i hi=>zfDE)))
 exact zz):P:=h
theorem zQOc {P:Prop} (h:P:=by (simp [intOf])<;>omega):P:=h
theorem zQXk {P:Prop} (h:P:=by
 have zz:∃ w5,w4.alloc (.cells #[.slice (some ⟨w2.heap.size,0,none⟩) 1 1,.bool true,.slice (some ⟨w3.heap.size,0,none⟩) 1 1,.bool true] 108)=w5:=⟨_,rfl⟩
 exact zz):P:=h
theorem zRFb {P:Prop} (h:P:=by
 intro c hc
 obtain ⟨a,_,rfl⟩:=List.mem_map.1 hc
 rfl
 ):P:=h
theorem zRqU {P:Prop} (h:P:=by
 rw [←h5];exact Own.made w4 108 2 _ [] 2 2 rfl zTxj zTbe zdUY (by simp [idxCells,IdxV.cells])
 ):P:=h
theorem zS9n {P:Prop} (h:P:=by rw [HF.out];rfl):P:=h
theorem zSWO {P:Prop} (h:P:=by
 have zz:w.cell? ⟨ub,1,none⟩=some (ptrJ J):=hbk.cell 1
 exact zz):P:=h
theorem zT4F {P:Prop} (h:P:=by simpa using h2):P:=h
theorem zTDp {P:Prop} (h:P:=by
 have zz:es.length≤99999:=Nat.le_trans (es_flat_len (.node es _)) hln
 exact zz):P:=h
theorem zTTx {P:Prop} (h:P:=by
 go_ret
 exact ⟨rfl,rfl⟩
 ):P:=h
theorem zTbe {P:Prop} (h:P:=by omega):P:=h
theorem zTxj {P:Prop} (h:P:=by intro u hu;simp [idxCells,IdxV.cells] at hu;rcases hu with rfl|rfl|rfl|rfl<;>rfl):P:=h
theorem zUBQ {P:Prop} (h:P:=by simpa [ints] using hka):P:=h
theorem zUeY {P:Prop} (h:P:=by
 have zz:Below w2.heap.size w2 w3:=hw3▸(Below.refl _ _).alloc (Nat.le_refl _) _
 exact zz):P:=h
theorem zUgE {P:Prop} (h:P:=by
 have zz:∀ w,(convert 9 57 (.string s)).run Tryz.prog w=.ok (.slice (some ⟨w.heap.size,0,none⟩) s.size (cvCap w s 5)) (cvW w s 5):=fun w=>run_cv w _ _ _ s Tryz.underlying9 Tryz.underlying57 Tryz.underlying5
 exact zz):P:=h
theorem zV2H {P:Prop} (h:P:=by rw [List.length_append,hown.1,hx.1,Nat.add_mul]):P:=h
theorem zVKw {P:Prop} (h:P:=by simpa using h1):P:=h
theorem zVQu {P:Prop} (h:P:=by
 go_wp2_with (go_at_call 28;refine (HAW.out _ HB1.out).mono ?_;rintro e wZ ⟨rfl,hbZ⟩)
 go_ret
 exact ⟨rfl,HB1.out.trans (hbZ.mono HB1.out.size)⟩
 ):P:=h
theorem zVxh {P:Prop} (h:P:=by intro u hu;simp [ints] at hu;subst hu;rfl):P:=h
theorem zW5L {P:Prop} (h:P:=by
 have zz:TabE w1 (feet (resU ub g J jv vs fr)) g:=TabOK.below HG.out hb1
 exact zz):P:=h
theorem zWFb {P:Prop} (h:P:=by
 go_wp2
 go_ret
 exact ⟨rfl,rfl⟩
 ):P:=h
theorem zXFw {P:Prop} (h:P:=by simp [hx]):P:=h
theorem zXxX {P:Prop} (h:P:=by
 have zz:Below w1.heap.size w1 w2:=hw2▸(Below.refl _ _).alloc (Nat.le_refl _) _
 exact zz):P:=h
theorem zZJx {P:Prop} (h:P:=by rw [List.length_append];omega):P:=h
theorem zcX3 {P:Prop} (h:P:=by decide):P:=h
theorem zcbp {P:Prop} (h:P:=by rcases hq with rfl|rfl<;>assumption):P:=h
theorem zdUY {P:Prop} (h:P:=by simp [maxLen]):P:=h
theorem zdhv {P:Prop} (h:P:=by rfl):P:=h
theorem zdk4 {P:Prop} (h:P:=by
 have zz:Trk w (feet (RS lv ua ub ga gb (some jb) jv steps fr)) w' (RS lv ua ub ga' gb' (some jb) jv' (steps.take k) fr):=(hT.from hp.symm).perm hp'
 exact zz):P:=h
theorem zdw8 {P:Prop} (h:P:=by
 rcases h.2.2 with ⟨_,_,_,h0,_⟩|⟨_,_,_,h0,_⟩
 ·exact h0
 ·cases h0
 ):P:=h
theorem zedq {P:Prop} (h:P:=by
 have zz:Mx w4:=HM.out.below (hbo.trk.only.below (Nat.le_refl _) (fun q hq=>zks3))
 exact zz):P:=h
theorem zefz {P:Prop} (h:P:=by unfold maxLen;omega):P:=h
theorem zfC3 {P:Prop} (h:P:=by
 go_wp2
 go_ret
 exact ⟨_,rfl,Own.nil _ _ _,Below.refl _ _,zfJ3⟩
 ):P:=h
theorem zfDE {P:Prop} (h:P:=by have:w.heap.size=i:=(by simpa [Value.ownBlock] using hi);omega):P:=h
theorem zfJ3 {P:Prop} (h:P:=by simp [Value.ownBlock]):P:=h
theorem zfMa {P:Prop} (h:P:=by
 have zz:∃ w3,w2.alloc (.cells #[.slice none 0 0] 61)=w3:=⟨_,rfl⟩
 exact zz):P:=h
theorem zfb9 {P:Prop} (h:P:=by unfold resU;simp only [cnt_append,cnt_cons];omega):P:=h
theorem zfoE {P:Prop} (h:P:=by simp [World.setRow]):P:=h
theorem zg6m {P:Prop} (h:P:=by simp [Res.blk]):P:=h
theorem zgN1 {P:Prop} (h:P:=by
 have zz:Sl wo (fun q=>q < w.heap.size) 3 l[k].rv l[k].row.length (rowCells l[k].row):=((HS.out.row _ hmk2).mono (B':=fun q=>q < w.heap.size) (Nat.le_refl _) (fun _ _ _=>rfl) (fun q _ hq=>hq)).below hbw
 exact zz):P:=h
theorem zhtf {P:Prop} (h:P:=by simp at h):P:=h
theorem zj9M {P:Prop} (h:P:=by cases hq;(first|exact s2|exact Nat.le_trans s2 s3|exact Nat.le_trans (Nat.le_trans s2 s3) s4)):P:=h
theorem zk1V {P:Prop} (h:P:=by unfold RS resU;simp only [cnt_append,cnt_cons];omega):P:=h
theorem zk9O {P:Prop} (h:P:=by intro u hu;simp [Value.cells] at hu;rcases hu with rfl|rfl<;>rfl):P:=h
theorem zkS8 {P:Prop} (h:P:=by simp [results,Tryz.results139,go_sem]):P:=h
theorem zks3 {P:Prop} (h:P:=by simp at hq):P:=h
theorem zm6w {P:Prop} (h:P:=by rw [IntKind.wrap_u64];omega):P:=h
theorem zmA9 {P:Prop} (h:P:=by rw [List.length_map];omega):P:=h
theorem znD9 {P:Prop} (h:P:=by simp [Res.own,Value.ownBlock]):P:=h
theorem znEU {P:Prop} (h:P:=by
 have zz:Blk w1 w.heap.size 25 [.string ⟨#[]⟩,.slice none 0 0,.slice none 0 0,.int .i64 0,.int .i64 0,.int .i64 0]:=hw1▸Blk.new w _ _
 exact zz):P:=h
theorem znZX {P:Prop} (h:P:=by
 rw [List.take_append,List.take_of_length_le zTbe]
 have:l.length+1 - l.length=1:=zTbe
 rw [this];rfl
 ):P:=h
theorem zppX {P:Prop} (h:P:=by
 have zz:Below w.heap.size w w1:=hw1▸(Below.refl _ _).alloc (Nat.le_refl _) _
 exact zz):P:=h
theorem zqhx {P:Prop} (h:P:=by
 have zz:((l.length:Int) == (l'.length:Int))=false:=beq_eq_false_iff_ne.2 zTbe
 exact zz):P:=h
theorem zqhz {P:Prop} (h:P:=by rw [hc k (by simpa [ints] using hka)];simp [ints,hka]):P:=h
theorem zr2F {P:Prop} (h:P:=by simp;omega):P:=h
theorem zrPp {P:Prop} (h:P:=by rw [IntKind.wrap_i64];omega):P:=h
theorem zrdc {P:Prop} (h:P:=by
 have zz:∀ x:Nat,ptrV x=.pointer (some ⟨x,0,none⟩):=fun _=>rfl
 exact zz):P:=h
theorem zsFg {P:Prop} (h:P:=by rw [E5.out];rfl):P:=h
theorem zsNA {P:Prop} (h:P:=by
 have zz:Below wr.heap.size wr w1:=hw1▸(Below.refl _ _).alloc (Nat.le_refl _) _
 exact zz):P:=h
theorem zt4P {P:Prop} (h:P:=by simp [Builtin.lenOf]):P:=h
theorem ztQo {P:Prop} (h:P:=by
 have zz:∃ w1,w.alloc (.cells #[.string ⟨#[]⟩,.slice none 0 0,.slice none 0 0,.int .i64 0,.int .i64 0,.int .i64 0] 25)=w1:=⟨_,rfl⟩
 exact zz):P:=h
theorem ztao {P:Prop} (h:P:=by
 rcases hx with rfl|rfl
 ·exact (((o3.sl (B:=fun q=>w1.heap.size≤q) (fun q hq=>zj9M)).below c45).only h6 hN).mono (Nat.le_refl _) (fun _ _ _=>rfl) (fun q hq _=>zTbe)
 ·exact (((o4.sl (B:=fun q=>w1.heap.size≤q) (fun q hq=>zj9M)).below b5).only h6 hN).mono (Nat.le_refl _) (fun _ _ _=>rfl) (fun q hq _=>zTbe)
 ):P:=h
theorem ztz1 {P:Prop} (h:P:=by
 intro c hc
 obtain ⟨a,_,rfl⟩:=List.mem_map.1 hc
 exact hf a
 ):P:=h
theorem zvR2 {P:Prop} (h:P:=by
 have zz:Below w3.heap.size w3 w4:=hw4▸(Below.refl _ _).alloc (Nat.le_refl _) _
 exact zz):P:=h
theorem zwjg {P:Prop} (h:P:=by
 have zz:∃ n,l.length=n:=⟨_,rfl⟩
 exact zz):P:=h
theorem zx0I {P:Prop} (h:P:=by cases d<;>exact h):P:=h
theorem zxCR {P:Prop} (h:P:=by obtain ⟨_,_,_,hG⟩:=id hst;exact hG.trk.only.below (Nat.le_refl _) (fun q hq=>by simp at hq)):P:=h
theorem zyVB {P:Prop} (h:P:=by kernel_rfl):P:=h
theorem zynw {P:Prop} (h:P:=by simpa using h):P:=h
theorem zz3f {P:Prop} (h:P:=by
 have zz:w.cell? ⟨ub,0,none⟩=some (.pointer (some ⟨g.tb,0,none⟩)):=hbk.cell 0
 exact zz):P:=h
theorem zz7W {P:Prop} (h:P:=by
 rw [←List.take_append_getElem h,List.foldl_append];rfl
 ):P:=h
theorem zzOA {P:Prop} (h:P:=by
 have HFIN:=Lib.hid hfin
 clear hL7 hb7 hlen7 htb7 hfin
 go_wp2_with (first|(refine stp ?_))
 go_roundw
 case rel=>exact ⟨k+1,z3KH,zTbe,HFIN.out⟩
 case measure=>(simp [intOf])<;>omega
 ):P:=h
theorem zzcO {P:Prop} (h:P:=by
 have zz:w1.cell? ⟨ub,0,none⟩=some (.pointer (some ⟨g.tb,0,none⟩)):=hbk.cell 0
 exact zz):P:=h
theorem zzxT {P:Prop} (h:P:=by
 have zz:Two w (RSj lv ua ub ga gb (some jb) jv steps fr) ga gb st ta tb ga.S gb.S:=⟨h.a.perm hp,h.b.perm hp,h.ra,h.rb,h.pa,h.pb,rfl,rfl⟩
 exact zz):P:=h
theorem zI2c {P:Prop} (h:P:=by simpa using ho):P:=h
theorem zabi {P:Prop} (h:P:=by rw [hd];exact h):P:=h
theorem zKra {P:Prop} (h:P:=by
 subst hn0
 exact ⟨by cases p<;>simp [Builtin.firstCells,loadCells,loadCellsFrom],zt4P⟩
 ):P:=h
theorem zID9 {P:Prop} (h:P:=by
 have:(n+m)*i.size≤cap*i.size:=Nat.mul_le_mul_right _ hroom
 rw [Nat.add_mul] at this
 simp only [List.size_toArray,hx.1]
 omega
 ):P:=h
theorem zmNO {P:Prop} (h:P:=by
 rcases hx.2.2 with ⟨p,cap,rfl,rfl,_,_⟩|⟨g',off',cap',rfl,_,_,_,_,hcell⟩
 ·simp [Builtin.append_,run_underlying ht,sizeOf,typeInfo,hi,hnc,hxr.1,hxr.2,Addr.add_lit,hst]
 ·simp [Builtin.append_,run_underlying ht,sizeOf,typeInfo,hi,hroom,hxr.1,hxr.2,Addr.add_lit,hst]
 ):P:=h
theorem zLzs {P:Prop} (h:P:=by rw [←h.al,hes,hb];simp):P:=h
theorem zjcy {P:Prop} (h:P:=by
 obtain ⟨_,rfl⟩:=ha
 obtain ⟨_,rfl⟩:=hc
 exact .inl ⟨rfl,rfl,rfl,by simp [flat_leaf]⟩
 ):P:=h
theorem z1zW {P:Prop} (h:P:=by
 have zz:enC (e::l)=.string (kb e.key)::e.val::enC l:=rfl
 exact zz):P:=h
theorem z2Yt {P:Prop} (h:P:=by
 intro l
 induction l with
 | nil=>intro i;simp [enC]
 | cons e l ih =>
  intro i
  cases i with
  | zero=>simp [enC]
  | succ i =>
   have e2:=z1zW
   have e1:(i+1)*2=i*2+1+1:=zTbe
   rw [e1,e2]
   rw [List.take_succ_cons,List.take_succ_cons,List.drop_succ_cons,List.drop_succ_cons,List.take_succ_cons,List.drop_succ_cons,(ih i).1,(ih i).2]
   exact ⟨rfl,rfl⟩
 ):P:=h
theorem zQ0W {P:Prop} (h:P:=by
 rw [if_neg (by rw [klt_irrefl];simp),if_pos rfl]
 obtain ⟨ek,ev⟩:=e
 rw [look_hit];rfl
 ):P:=h
theorem z0Fx {P:Prop} (h:P:=by
 rw [Bool.not_eq_true] at hl
 have h3:=klt_total _ _ hl hk
 have h4:look k r=none:=look_more fun x hx=>klt_trans _ _ _ h3 (h1 x hx)
 rw [h4];rfl
 ):P:=h
namespace Go.Afx
open Go
def Agree (B:Nat→Prop) (w w2:World):Prop:=∀ b o,B b→w2.cell? ⟨b,o,none⟩=w.cell? ⟨b,o,none⟩
theorem Agree.refl (B:Nat→Prop) (w:World):Agree B w w:=fun _ _ _=>rfl
theorem Agree.trans {B:Nat→Prop} {w w2 w3:World} (h:Agree B w w2) (k:Agree B w2 w3):Agree B w w3:=fun b o hb=>(k b o hb).trans (h b o hb)
section
variable {P : Program} {ops : Array Oper} {B : Nat → Prop} {Q : Exit → Act → World → Prop}
def YieldsR (P:Program) (ops:Array Oper) (C:World→Prop) (o:Oper) (v:Value) (a:Act):Prop :=
 (Region.wanted o (yielded ops a.tmps)=true∧∀ w,C w→(execOp a.eval o).run P w=.ok (.value v) w) ∨
 (Region.wanted o (yielded ops a.tmps)=false∧v=undef)
theorem YieldsR.of_same {C:World→Prop} {o:Oper} {v:Value} {a a':Act} (hy:YieldsR P ops C o v a) (he:execOp a'.eval o=execOp a.eval o)
 (hw:Region.wanted o (yielded ops a'.tmps)=Region.wanted o (yielded ops a.tmps)):YieldsR P ops C o v a':=by
 unfold YieldsR at *
 rw [he,hw]
 exact hy
theorem YieldsR.weaken {C C':World→Prop} {o:Oper} {v:Value} {a:Act} (hy:YieldsR P ops C o v a) (h:∀ w,C' w→C w):YieldsR P ops C' o v a:=by
 rcases hy with ⟨h1,h2⟩|h3
 ·exact .inl ⟨h1,fun w hw=>h2 w (h w hw)⟩
 ·exact .inr h3
theorem YieldsR.wpOp {C:World→Prop} {i:Nat} {o:Oper} {v:Value} {a:Act} {w:World} (hC:C w) (hi:ops[i]?=some o) (hy:YieldsR P ops C o v a)
 {K:Act→World→Prop} (h:K (a.put o.dst v) w):wpOp P ops Q i K a w:=by
 unfold Go.wpOp
 simp only [hi]
 rcases hy with ⟨hw,hv⟩|⟨hw,rfl⟩
 ·simp only [hw,if_true,Oper.wp,hv w hC,Oper.upon];exact .inl h
 ·simp only [hw,Bool.false_eq_true,if_false];exact h
def wpPlan (P:Program) (ops:Array Oper) (B:Nat→Prop) (Q:Exit→Act→World→Prop):List (Nat × Nat)→Act→World→Prop
 | [],a,w=>Q .normal a w
 | (i,0)::rest,a,w=>∃ o v,ops[i]?=some o∧Yields P ops o v a∧wpPlan P ops B Q rest (a.put o.dst v) w
 | (i,1)::rest,a,w=>∃ o v,ops[i]?=some o∧YieldsR P ops (·= w) o v a∧wpPlan P ops B Q rest (a.put o.dst v) w
 | (i,2)::rest,a,w=>∃ o v,ops[i]?=some o∧YieldsR P ops (Agree B w) o v a∧wpPlan P ops B Q rest (a.put o.dst v) w
 | (i,3)::rest,a,w=>wpOp P ops Q i (fun a' w'=>Agree B w w'∧wpPlan P ops B Q rest a' w') a w
 | (i,_+4)::rest,a,w=>wpOp P ops Q i (wpPlan P ops B Q rest) a w
theorem wpPlan_cons {i c:Nat} {rest:List (Nat × Nat)} {a:Act} {w:World} (h:wpPlan P ops B Q ((i,c)::rest) a w):wpOp P ops Q i (wpPlan P ops B Q rest) a w:=by
 match c,h with
 | 0,h=>obtain ⟨o,v,hi,hy,hr⟩:=h;exact hy.wpOp hi hr
 | 1,h=>obtain ⟨o,v,hi,hy,hr⟩:=h;exact hy.wpOp (C:=fun w'=>w'=w) rfl hi hr
 | 2,h=>obtain ⟨o,v,hi,hy,hr⟩:=h;exact hy.wpOp (Agree.refl B w) hi hr
 | 3,h=>exact wpOp_mono (fun _ _ h=>h.2) h
 | _+4,h=>exact h
def swapB (ops:Array Oper) (x y:Nat × Nat):Bool :=
 (match ops[x.1]?,ops[y.1]? with|some ox,some oy=>ox.apart ops oy|_,_=>false) && (x.2 == 0 || (x.2 == 1 && decide (y.2≤2)) || (x.2 == 2 && decide (y.2≤3)))
def Yld (P:Program) (ops:Array Oper) (B:Nat→Prop):Nat→World→Oper→Value→Act→Prop
 | 0,_,o,v,a=>Yields P ops o v a
 | 1,w,o,v,a=>YieldsR P ops (·= w) o v a
 | _,w,o,v,a=>YieldsR P ops (Agree B w) o v a
theorem wpPlan_yld {i c:Nat} (hc:c≤2) {rest:List (Nat × Nat)} {a:Act} {w:World} :
 wpPlan P ops B Q ((i,c)::rest) a w↔∃ o v,ops[i]?=some o∧Yld P ops B c w o v a∧wpPlan P ops B Q rest (a.put o.dst v) w:=by
 match c,hc with
 | 0,_=>exact Iff.rfl
 | 1,_=>exact Iff.rfl
 | 2,_=>exact Iff.rfl
theorem wpPlan_three {i:Nat} {rest:List (Nat × Nat)} {a:Act} {w:World} :
 wpPlan P ops B Q ((i,3)::rest) a w↔wpOp P ops Q i (fun a' w'=>Agree B w w'∧wpPlan P ops B Q rest a' w') a w:=Iff.rfl
theorem wpPlan_four {i k:Nat} {rest:List (Nat × Nat)} {a:Act} {w:World} :
 wpPlan P ops B Q ((i,k+4)::rest) a w↔wpOp P ops Q i (wpPlan P ops B Q rest) a w:=Iff.rfl
theorem wpPlan_zero {i:Nat} {rest:List (Nat × Nat)} {a:Act} {w:World} :
 wpPlan P ops B Q ((i,0)::rest) a w↔∃ o v,ops[i]?=some o∧Yields P ops o v a∧wpPlan P ops B Q rest (a.put o.dst v) w:=Iff.rfl
theorem wpPlan_two {i:Nat} {rest:List (Nat × Nat)} {a:Act} {w:World} :
 wpPlan P ops B Q ((i,2)::rest) a w↔∃ o v,ops[i]?=some o∧YieldsR P ops (Agree B w) o v a∧wpPlan P ops B Q rest (a.put o.dst v) w:=Iff.rfl
theorem Yld.of_same {c:Nat} {w:World} {o:Oper} {v:Value} {a a':Act} (hy:Yld P ops B c w o v a) (he:execOp a'.eval o=execOp a.eval o)
 (hw:Region.wanted o (yielded ops a'.tmps)=Region.wanted o (yielded ops a.tmps)):Yld P ops B c w o v a':=by
 match c,hy with
 | 0,hy=>exact Yields.of_same hy he hw
 | 1,hy=>exact YieldsR.of_same hy he hw
 | _+2,hy=>exact YieldsR.of_same hy he hw
theorem wpOp_putR {C:World→Prop} {j:Nat} {oi oj:Oper} {v:Value} (hj:ops[j]?=some oj) (hap:oi.apart ops oj=true)
 (hsi:∀ cs b,oi.op≠.select cs b) (hsj:∀ cs b,oj.op≠.select cs b)
 (hQ:∀ c a w,Q (.panic c) (a.put oi.dst v) w→Q (.panic c) a w) {K:Act→World→Prop} {a:Act} {w:World}
 (hy:YieldsR P ops C oi v a) (h:wpOp P ops Q j K (a.put oi.dst v) w) :
 wpOp P ops Q j (fun a' w'=>YieldsR P ops C oi v a'∧K (a'.put oi.dst v) w') a w:=by
 obtain ⟨h1,h2,h3⟩:=Oper.apart_spec hap
 have keep:∀ (a:Act),YieldsR P ops C oi v a→∀ u,YieldsR P ops C oi v (a.put oj.dst u):=fun a hy u =>
  hy.of_same (execOp_put oi hsi a oj.dst u h3) (wanted_put oi a oj.dst u h3)
 have keepD:∀ d,YieldsR P ops C oi v { a with defers:=d::a.defers }:=fun d=>hy.of_same rfl rfl
 unfold wpOp at *
 simp only [hj] at *
 rw [wanted_put oj a oi.dst v h1] at h
 split
 ·rename_i hw
  simp only [hw,if_true] at h
  rcases h with h|⟨hasks,hlets⟩
  case inr=>exact .inr ⟨by unfold Oper.asks at *;rw [execOp_put oj hsj a oi.dst v h1] at hasks;exact hasks,hlets⟩
  refine .inl ?_
  unfold Oper.wp at *
  rw [execOp_put oj hsj a oi.dst v h1] at h
  generalize (execOp a.eval oj).run P w=r at *
  cases r with
  | ok n w' =>
   cases n<;>simp only [Oper.upon] at h ⊢
   case value u=>exact ⟨keep a hy u,by rw [←Act.put_comm a v u h2];exact h⟩
   case skip=>exact ⟨keep a hy _,by rw [←Act.put_comm a v undef h2];exact h⟩
   case defer d =>
    refine ⟨keep _ (keepD d) _,?_⟩
    rw [←Act.put_comm _ v undef h2,←Act.put_defers]
    exact h
   case enter f args =>
    refine Calls.mono h fun e w'' he=>?_
    cases e with
    | returned u=>exact ⟨keep a hy u,by rw [←Act.put_comm a v u h2];exact he⟩
    | panicked c=>exact hQ _ _ _ he
    | outgrown=>exact he
   case row row args=>exact Rows.mono h fun u w'' he=>⟨keep a hy u,by rw [←Act.put_comm a v u h2];exact he⟩
  | halt x w' =>
   cases x<;>simp only [Oper.upon] at h ⊢
   case panic u=>exact hQ _ _ _ h
 ·rename_i hw
  simp only [hw] at h
  exact ⟨keep a hy _,by rw [←Act.put_comm a v undef h2];exact h⟩
theorem wpPlan_swap (hs:Region.noSelect ops=true) (hQ:∀ c a d v w,Q (.panic c) (Act.put a d v) w→Q (.panic c) a w)
 {x y:Nat × Nat} {rest:List (Nat × Nat)} {a:Act} {w:World} (hb:swapB ops x y=true)
 (h:wpPlan P ops B Q (x::y::rest) a w):wpPlan P ops B Q (y::x::rest) a w:=by
 obtain ⟨i,c⟩:=x
 obtain ⟨j,d⟩:=y
 simp only [swapB,Bool.and_eq_true,Bool.or_eq_true,beq_iff_eq,decide_eq_true_eq] at hb
 obtain ⟨hap,hcl⟩:=hb
 cases hox:ops[i]? with
 | none=>simp [hox] at hap
 | some ox =>
 cases hoy:ops[j]? with
 | none=>simp [hox,hoy] at hap
 | some oy =>
 simp only [hox,hoy] at hap
 obtain ⟨h1,h2,h3⟩:=Oper.apart_spec hap
 have sx:∀ cs b,ox.op≠.select cs b:=fun cs b=>Region.noSelect_spec hs i ox cs b hox
 have sy:∀ cs b,oy.op≠.select cs b:=fun cs b=>Region.noSelect_spec hs j oy cs b hoy
 have hc2:c≤2:=by omega
 obtain ⟨o,v,hi,hy,hr⟩:=(wpPlan_yld hc2).1 h
 have:o=ox:=Option.some.inj (hi.symm.trans hox)
 subst this
 rcases Nat.lt_or_ge d 3 with hd|hd
 ·
  obtain ⟨o',v',hi',hy',hr'⟩:=(wpPlan_yld (by omega:d≤2)).1 hr
  have:o'=oy:=Option.some.inj (hi'.symm.trans hoy)
  subst this
  refine (wpPlan_yld (by omega:d≤2)).2 ⟨o',v',hoy,hy'.of_same (execOp_put o' sy a o.dst v h1).symm (wanted_put o' a o.dst v h1).symm,(wpPlan_yld hc2).2 ⟨o,v,hox,hy.of_same (execOp_put o sx a o'.dst v' h3) (wanted_put o a o'.dst v' h3),?_⟩⟩
  rw [←Act.put_comm a v v' h2]
  exact hr'
 ·have hcase:c=0∨(c=2∧d=3):=by omega
  by_cases hd3:d=3
  ·subst hd3
   have hr1:=wpPlan_three.1 hr
   rcases hcase with rfl|⟨rfl,_⟩
   ·exact wpPlan_three.2 (wpOp_mono (fun a' w' h'=>⟨h'.2.1,wpPlan_zero.2 ⟨o,v,hox,h'.1,h'.2.2⟩⟩) (wpOp_put hoy hap sx sy (fun c a w h=>hQ c a _ _ w h) hy hr1))
   ·exact wpPlan_three.2 (wpOp_mono (fun a' w' h'=>⟨h'.2.1,wpPlan_two.2 ⟨o,v,hox,YieldsR.weaken h'.1 (fun w2 h2=>h'.2.1.trans h2),h'.2.2⟩⟩)
     (wpOp_putR hoy hap sx sy (fun c a w h=>hQ c a _ _ w h) hy hr1))
  ·obtain ⟨k,rfl⟩:∃ k,d=k+4:=⟨d - 4,by omega⟩
   have hc0:c=0:=by omega
   subst hc0
   have hr1:=wpPlan_four.1 hr
   exact wpPlan_four.2 (wpOp_mono (fun a' w' h'=>wpPlan_zero.2 ⟨o,v,hox,h'.1,h'.2⟩) (wpOp_put hoy hap sx sy (fun c a w h=>hQ c a _ _ w h) hy hr1))
theorem wpPlan_tail {x:Nat × Nat} {p q:List (Nat × Nat)} (h:∀ a w,wpPlan P ops B Q p a w→wpPlan P ops B Q q a w) {a:Act} {w:World}
 (hp:wpPlan P ops B Q (x::p) a w):wpPlan P ops B Q (x::q) a w:=by
 obtain ⟨i,c⟩:=x
 match c,hp with
 | 0,hp=>obtain ⟨o,v,hi,hy,hr⟩:=hp;exact ⟨o,v,hi,hy,h _ _ hr⟩
 | 1,hp=>obtain ⟨o,v,hi,hy,hr⟩:=hp;exact ⟨o,v,hi,hy,h _ _ hr⟩
 | 2,hp=>obtain ⟨o,v,hi,hy,hr⟩:=hp;exact ⟨o,v,hi,hy,h _ _ hr⟩
 | 3,hp=>exact wpOp_mono (fun a' w' h'=>⟨h'.1,h _ _ h'.2⟩) hp
 | _+4,hp=>exact wpOp_mono h hp
theorem wpPlan_front (hs:Region.noSelect ops=true) (hQ:∀ c a d v w,Q (.panic c) (Act.put a d v) w→Q (.panic c) a w) {y:Nat × Nat} {rest:List (Nat × Nat)} :
 ∀ (p:List (Nat × Nat)) (a:Act) (w:World),(∀ x∈p,swapB ops x y=true)→wpPlan P ops B Q (p++y::rest) a w→wpPlan P ops B Q (y::(p++rest)) a w
 | [],_,_,_,h=>h
 | x::p,a,w,hb,h =>
  wpPlan_swap hs hQ (hb x (by simp)) (wpPlan_tail (q:=y::(p++rest)) (fun a w h=>wpPlan_front hs hQ p a w (fun z hz=>hb z (by simp [hz])) h) h)
def preds (ops:Array Oper) (j:Nat):List Nat:=match ops[j]? with|some o=>(o.after.toList.filter fun e=>Region.binds .any e).map (·.on)|none=>[]
def ancB (ops:Array Oper) (T:List (List Nat)):Bool :=
 (List.range ops.size).all fun j=>((preds ops j).all fun p=>decide (p < j)) && (T.getD j []).all fun x=>(preds ops j).contains x || (preds ops j).any fun p=>(T.getD p []).contains x
def ancTable (ops:Array Oper):List (List Nat) :=
 (List.range ops.size).foldl (fun T j=>T++[(preds ops j).foldl (fun acc p=>(p::T.getD p []).foldl (fun acc x=>if acc.contains x then acc else x::acc) acc) []]) []
theorem mem_preds {j:Nat} {o:Oper} (ho:ops[j]?=some o) {e:Edge} (he:e∈o.after) (hb:Region.binds .any e=true):e.on∈preds ops j:=by
 simp only [preds,ho,List.mem_map,List.mem_filter]
 exact ⟨e,⟨by simpa using he,hb⟩,rfl⟩
theorem preds_mem {j x:Nat} (h:x∈preds ops j):∃ o,ops[j]?=some o∧∃ e∈o.after,Region.binds .any e=true∧e.on=x:=by
 unfold preds at h
 split at h
 ·rename_i o ho
  obtain ⟨e,he,rfl⟩:=List.mem_map.1 h
  obtain ⟨h1,h2⟩:=List.mem_filter.1 he
  exact ⟨o,ho,e,by simpa using h1,h2,rfl⟩
 ·cases h
theorem ready_preds {listed:Array Bool} {i:Nat} (h:i∈Region.ready .any ops listed):i < ops.size∧listed.getD i true=false∧∀ e∈preds ops i,listed.getD e false=true:=by
 obtain ⟨hun,o,ho,hall⟩:=mem_ready.1 h
 refine ⟨(Array.getElem?_eq_some_iff.1 ho).1,hun,fun e he=>?_⟩
 obtain ⟨o',ho',e',he',hb',rfl⟩:=preds_mem he
 have:o'=o:=Option.some.inj (ho'.symm.trans ho)
 subst this
 exact hall e' he' hb'
def Sched (ops:Array Oper):Nat→Array Bool→List Nat→Prop
 | 0,_,σ=>σ=[]
 | n+1,listed,σ=>(∃ i σ',σ=i::σ'∧i∈Region.ready .any ops listed∧Sched ops n (listed.setIfInBounds i true) σ')∨(σ=[]∧Region.ready .any ops listed=[])
theorem sched_go:∀ (fuel t:Nat) (listed:Array Bool),Sched ops fuel listed (Region.linearise.go .any ops fuel t listed []):=by
 intro fuel
 induction fuel with
 | zero=>intro t listed;simp [Region.linearise.go,Sched]
 | succ fuel ih =>
  intro t listed
  simp only [Region.linearise.go,Sched]
  change (∃ i σ',(match (Region.ready .any ops listed)[t % (Region.ready .any ops listed).length]? with
   | some i=>Region.linearise.go .any ops fuel (t / (Region.ready .any ops listed).length) (listed.setIfInBounds i true) [i]
   | none=>[].reverse)=i::σ'∧_)∨((match (Region.ready .any ops listed)[t % (Region.ready .any ops listed).length]? with
   | some i=>Region.linearise.go .any ops fuel (t / (Region.ready .any ops listed).length) (listed.setIfInBounds i true) [i]
   | none=>[].reverse)=[]∧_)
  cases hi:(Region.ready .any ops listed)[t % (Region.ready .any ops listed).length]? with
  | none =>
   refine .inr ⟨rfl,?_⟩
   cases hr:Region.ready .any ops listed with
   | nil=>rfl
   | cons x xs =>
    rw [hr] at hi
    have hlt:t % (x::xs).length < (x::xs).length:=Nat.mod_lt _ (by simp)
    simp at hi
    simp at hlt
    omega
  | some i =>
   refine .inl ⟨i,_,?_,List.mem_of_getElem? hi,ih (t / (Region.ready .any ops listed).length) (listed.setIfInBounds i true)⟩
   simp only []
   rw [linearise_go_acc,List.reverse_singleton,List.singleton_append]
theorem getD_true_false {listed:Array Bool} {j:Nat} (hj:j < listed.size):listed.getD j true=listed.getD j false:=by
 simp [hj]
structure PlanInv (ops:Array Oper) (listed:Array Bool) (rem:List (Nat × Nat)):Prop where
 size:listed.size=ops.size
 un:∀ j,j < ops.size→(listed.getD j true=false↔∃ c,(j,c)∈rem)
 lt:∀ x∈rem,x.1 < ops.size
 nodup:(rem.map (·.1)).Nodup
 lin:∀ p y q,rem=p++y::q→∀ e∈preds ops y.1,listed.getD e false=true∨∃ c,(e,c)∈p
theorem wpOps_of_plan (hs:Region.noSelect ops=true) (hQ:∀ c a d v w,Q (.panic c) (Act.put a d v) w→Q (.panic c) a w) :
 ∀ (n:Nat) (rem:List (Nat × Nat)) (listed:Array Bool) (σ:List Nat) (a:Act) (w:World),rem.length=n→PlanInv ops listed rem →
  Sched ops n listed σ→rem.Pairwise (fun x y=>swapB ops x y=true∨σ.idxOf x.1 < σ.idxOf y.1) →
  wpPlan P ops B Q rem a w→wpOps P ops Q σ a w:=by
 intro n
 induction n with
 | zero =>
  intro rem listed σ a w hl inv hsch _ h
  have:rem=[]:=List.eq_nil_of_length_eq_zero hl
  subst this
  simp only [Sched] at hsch
  subst hsch
  exact h
 | succ n ih =>
  intro rem listed σ a w hl inv hsch hpair h
  rcases hsch with ⟨i,σ',rfl,hi,hsch⟩|⟨_,h0⟩
  case inr =>
   exfalso
   match rem,hl,inv with
   | x::rest,_,inv =>
    have hx:=inv.lt x (by simp)
    have hin:x.1∈Region.ready .any ops listed:=by
     refine mem_ready.2 ⟨(inv.un x.1 hx).2 ⟨x.2,by simp⟩,ops[x.1],by simp [hx],fun e he hb=>?_⟩
     rcases inv.lin [] x rest rfl e.on (mem_preds (by simp [hx]) he hb) with h1|⟨c,hc⟩
     ·exact h1
     ·cases hc
    rw [h0] at hin
    cases hin
  case inl =>
   obtain ⟨hilt,hun,hpre⟩:=ready_preds hi
   obtain ⟨c,hc⟩:=(inv.un i hilt).1 hun
   obtain ⟨p,q,rfl⟩:=List.append_of_mem hc
   have hnd0:=inv.nodup
   simp only [List.map_append,List.map_cons] at hnd0
   have hnd1:=(List.perm_middle.nodup_iff).1 hnd0
   have hnd:i∉(p++q).map (·.1):=by simpa using (List.nodup_cons.1 hnd1).1
   have hne:∀ x∈p++q,x.1≠i:=fun x hx he=>hnd (List.mem_map.2 ⟨x,hx,he⟩)
   have hsw:∀ x∈p,swapB ops x (i,c)=true:=fun x hx=>by
    rcases (List.pairwise_append.1 hpair).2.2 x hx (i,c) (by simp) with h1|h1
    ·exact h1
    ·simp at h1
   have hfront:=wpPlan_front hs hQ p a w hsw h
   rw [wpOps_cons]
   refine wpOp_mono (fun a' w' h'=>ih (p++q) (listed.setIfInBounds i true) σ' a' w' (by simp at hl ⊢;omega) ?_ hsch ?_ h') (wpPlan_cons hfront)
   ·refine ⟨by simp [inv.size],fun j hj=>?_,fun x hx=>inv.lt x (by simp at hx ⊢;rcases hx with h|h<;>simp [h]),?_,?_⟩
    ·by_cases hji:i=j
     ·subst hji
      refine ⟨fun h1=>?_,fun ⟨c',hc'⟩=>absurd (List.mem_map.2 ⟨_,hc',rfl⟩) hnd⟩
      have:i < listed.size:=by rw [inv.size];exact hj
      simp [this] at h1
     ·rw [getD_set_ne true hji,inv.un j hj]
      constructor
      ·rintro ⟨c',hc'⟩
       refine ⟨c',?_⟩
       simp only [List.mem_append,List.mem_cons] at hc' ⊢
       rcases hc' with h|h|h
       ·exact .inl h
       ·cases h;exact absurd rfl hji
       ·exact .inr h
      ·rintro ⟨c',hc'⟩
       refine ⟨c',?_⟩
       simp only [List.mem_append,List.mem_cons] at hc' ⊢
       rcases hc' with h|h
       ·exact .inl h
       ·exact .inr (.inr h)
    ·simpa using (List.nodup_cons.1 hnd1).2
    ·intro p' y q' heq e he
     have key:listed.getD e false=true∨(∃ c',(e,c')∈p')∨e=i:=by
      rcases List.append_eq_append_iff.1 heq with ⟨asz,h1,h2⟩|⟨asz,h1,h2⟩
      ·have:=inv.lin (p++(i,c)::asz) y q' (by rw [h2];simp) e he
       rcases this with h3|⟨c',h3⟩
       ·exact .inl h3
       ·simp only [List.mem_append,List.mem_cons] at h3
        rcases h3 with h3|h3|h3
        ·exact .inr (.inl ⟨c',by rw [h1];simp [h3]⟩)
        ·cases h3;exact .inr (.inr rfl)
        ·exact .inr (.inl ⟨c',by rw [h1];simp [h3]⟩)
      ·cases asz with
       | nil =>
        simp only [List.append_nil,List.nil_append] at h1 h2
        have:=inv.lin (p++[(i,c)]) y q' (by rw [←h2];simp) e he
        rcases this with h3|⟨c',h3⟩
        ·exact .inl h3
        ·simp only [List.mem_append,List.mem_cons,List.not_mem_nil,or_false] at h3
         rcases h3 with h3|h3
         ·exact .inr (.inl ⟨c',by rw [←h1];exact h3⟩)
         ·cases h3;exact .inr (.inr rfl)
       | cons z asz =>
        simp only [List.cons_append,List.cons.injEq] at h2
        obtain ⟨rfl,h2⟩:=h2
        have:=inv.lin p' y (asz++(i,c)::q) (by rw [h1];simp) e he
        rcases this with h3|h3
        ·exact .inl h3
        ·exact .inr (.inl h3)
     rcases key with h3|h3|h3
     ·exact .inl (getD_set_true h3)
     ·exact .inr h3
     ·subst h3
      refine .inl ?_
      have:e < listed.size:=by rw [inv.size];exact hilt
      simp [this]
   ·have hsub:(p++q).Pairwise (fun x y=>swapB ops x y=true∨(i::σ').idxOf x.1 < (i::σ').idxOf y.1):=hpair.sublist (by simp)
    refine List.Pairwise.imp_of_mem (fun {x y} hx hy h1=>?_) hsub
    rcases h1 with h1|h1
    ·exact .inl h1
    ·have e1:(i == x.1)=false:=by simpa using fun h=>hne x hx h.symm
     have e2:(i == y.1)=false:=by simpa using fun h=>hne y hy h.symm
     rw [List.idxOf_cons,List.idxOf_cons,e1,e2] at h1
     simp only [cond_false] at h1
     exact .inr (by omega)
theorem anc_listed {T:List (List Nat)} (hT:ancB ops T=true) {listed:Array Bool} (hdown:∀ j,j < ops.size→listed.getD j false=true→∀ e∈preds ops j,listed.getD e false=true) :
 ∀ (n j:Nat),j < n→j < ops.size→(∀ e∈preds ops j,listed.getD e false=true)→∀ x∈T.getD j [],listed.getD x false=true
 | 0,_,h,_,_,_,_=>absurd h (Nat.not_lt_zero _)
 | n+1,j,hn,hj,hp,x,hx=>by
  have h1:=List.all_eq_true.1 hT j (List.mem_range.2 hj)
  simp only [Bool.and_eq_true,List.all_eq_true,decide_eq_true_eq,Bool.or_eq_true,List.any_eq_true,List.contains_iff_mem] at h1
  rcases h1.2 x hx with h2|⟨p,hpm,hxp⟩
  ·exact hp x h2
  ·have hlt:=h1.1 p hpm
   exact anc_listed hT hdown n p (by omega) (by omega) (hdown p (by omega) (hp p hpm)) x hxp
theorem sched_facts {T:List (List Nat)} (hT:ancB ops T=true):∀ (n:Nat) (listed:Array Bool) (σ:List Nat),listed.size=ops.size →
 (∀ j,j < ops.size→listed.getD j false=true→∀ e∈preds ops j,listed.getD e false=true)→Sched ops n listed σ →
 σ.Nodup∧(∀ j∈σ,j < ops.size∧listed.getD j true=false)∧(∀ x y,y∈σ→x∈T.getD y []→listed.getD x false=true∨σ.idxOf x < σ.idxOf y)
 | 0,_,σ,_,_,h=>by
  simp only [Sched] at h
  subst h
  exact ⟨List.nodup_nil,by simp,by simp⟩
 | n+1,listed,σ,hsz,hdown,h=>by
  rcases h with ⟨i,σ',rfl,hi,h⟩|⟨rfl,_⟩
  case inr=>exact ⟨List.nodup_nil,by simp,by simp⟩
  obtain ⟨hilt,hun,hpre⟩:=ready_preds hi
  have hdown':∀ j,j < ops.size→(listed.setIfInBounds i true).getD j false=true→∀ e∈preds ops j,(listed.setIfInBounds i true).getD e false=true:=by
   intro j hj hl' e he
   by_cases hji:i=j
   ·subst hji
    exact getD_set_true (hpre e he)
   ·rw [getD_set_ne false hji] at hl'
    exact getD_set_true (hdown j hj hl' e he)
  obtain ⟨h1,h2,h3⟩:=sched_facts hT n (listed.setIfInBounds i true) σ' (by simp [hsz]) hdown' h
  have hni:i∉σ':=fun hm=>by
   have:=(h2 i hm).2
   have hs:i < listed.size:=by omega
   simp [hs] at this
  refine ⟨List.nodup_cons.2 ⟨hni,h1⟩,fun j hj=>?_,fun x y hy hx=>?_⟩
  ·rcases List.mem_cons.1 hj with rfl|hj
   ·exact ⟨hilt,hun⟩
   ·have hji:i≠j:=fun e=>hni (e▸hj)
    have:=h2 j hj
    rw [getD_set_ne true hji] at this
    exact this
  ·rcases List.mem_cons.1 hy with rfl|hy
   ·exact .inl (anc_listed hT hdown (y+1) y (Nat.lt_succ_self _) hilt hpre x hx)
   ·have hyi:i≠y:=fun e=>hni (e▸hy)
    rcases h3 x y hy hx with h4|h4
    ·by_cases hxi:i=x
     ·subst hxi
      refine .inr ?_
      have e2:(i == y)=false:=by simpa using hyi
      rw [List.idxOf_cons,List.idxOf_cons,e2]
      simp
     ·rw [getD_set_ne false hxi] at h4
      exact .inl h4
    ·refine .inr ?_
     have e2:(i == y)=false:=by simpa using hyi
     rw [List.idxOf_cons,List.idxOf_cons,e2]
     simp only [cond_false]
     cases i == x<;>simp<;>omega
def exts (T:List (List Nat)):Nat→List Nat→List (List Nat)
 | 0,_=>[[]]
 | n+1,I=>match I with
  | []=>[[]]
  | _=>(I.filter fun i=>I.all fun x=>x == i || !(T.getD i []).contains x).flatMap fun i=>(exts T n (I.filter fun x=>x != i)).map (i::·)
theorem exts_mem {T:List (List Nat)}:∀ (n:Nat) (I:List Nat) (s:List Nat),I.length≤n→s.Nodup→(∀ x,x∈s↔x∈I)→I.Nodup →
 (∀ x y,x∈s→y∈s→x∈T.getD y []→s.idxOf x < s.idxOf y)→s∈exts T n I
 | 0,I,s,hl,_,hm,_,_=>by
  have:I=[]:=List.eq_nil_of_length_eq_zero (by omega)
  subst this
  have:s=[]:=List.eq_nil_iff_forall_not_mem.2 fun x hx=>by simpa using (hm x).1 hx
  subst this
  simp [exts]
 | n+1,I,s,hl,hnd,hm,hI,hanc=>by
  cases s with
  | nil =>
   have:I=[]:=List.eq_nil_iff_forall_not_mem.2 fun x hx=>by simpa using (hm x).2 hx
   subst this
   simp [exts]
  | cons i s =>
   have hi:i∈I:=(hm i).1 (by simp)
   have hni:=(List.nodup_cons.1 hnd).1
   have hne:I≠[]:=fun h=>by simp [h] at hi
   have hrec:s∈exts T n (I.filter fun x=>x != i):=by
    refine exts_mem n _ s ?_ (List.nodup_cons.1 hnd).2 (fun x=>?_) (hI.filter _) (fun x y hx hy h=>?_)
    ·have:(I.filter fun x=>x != i).length < I.length:=by
      refine List.length_filter_lt_length_iff_exists.2 ⟨i,hi,by simp⟩
     omega
    ·rw [List.mem_filter,←hm x]
     simp only [List.mem_cons,bne_iff_ne]
     constructor
     ·intro h;exact ⟨.inr h,fun e=>hni (e▸h)⟩
     ·rintro ⟨h|h,h2⟩
      ·exact absurd h h2
      ·exact h
    ·have hxi:i≠x:=fun e=>hni (e▸hx)
     have hyi:i≠y:=fun e=>hni (e▸hy)
     have h1:=hanc x y (by simp [hx]) (by simp [hy]) h
     have e1:(i == x)=false:=by simpa using hxi
     have e2:(i == y)=false:=by simpa using hyi
     rw [List.idxOf_cons,List.idxOf_cons,e1,e2] at h1
     simp only [cond_false] at h1
     omega
   match I,hne with
   | z::I,_ =>
    simp only [exts]
    refine List.mem_flatMap.2 ⟨i,List.mem_filter.2 ⟨hi,?_⟩,List.mem_map.2 ⟨s,hrec,rfl⟩⟩
    refine List.all_eq_true.2 fun x hx=>?_
    by_cases hxi:x=i
    ·simp [hxi]
    ·by_cases hc:x∈T.getD i []
     ·exfalso
      have:=hanc x i ((hm x).2 hx) (by simp) hc
      simp [List.idxOf_cons] at this
     ·have hc':(T.getD i []).contains x=false:=by simpa using hc
      rw [hc']
      simp
def planB (ops:Array Oper) (I:List Nat) (plans:List (List (Nat × Nat))):Bool :=
 let T:=ancTable ops
 Region.noSelect ops && ancB ops T && decide I.Nodup && (I.all fun i=>decide (i < ops.size)) &&
 (plans.all fun plan=>decide (plan.length=ops.size) && decide ((plan.map (·.1)).Nodup) && (plan.all fun x=>decide (x.1 < ops.size)) &&
  ((List.range ops.size).all fun j=>plan.any fun x=>x.1 == j) && linB plan [] && pairsB T plan) &&
 (exts T I.length I).all fun e=>plans.any fun plan=>((plan.map (·.1)).filter fun i=>I.contains i) == e
where
 linB:List (Nat × Nat)→List Nat→Bool
  | [],_=>true
  | y::q,seen=>((preds ops y.1).all fun e=>seen.contains e) && linB q (y.1::seen)
 pairsB (T:List (List Nat)):List (Nat × Nat)→Bool
  | []=>true
  | x::q=>(q.all fun y=>(T.getD y.1 []).contains x.1 || swapB ops x y || (I.contains x.1 && I.contains y.1)) && pairsB T q
theorem linB_spec {I:List Nat}:∀ (plan:List (Nat × Nat)) (seen:List Nat),planB.linB ops plan seen=true→∀ p y q,plan=p++y::q→∀ e∈preds ops y.1,e∈seen∨∃ c,(e,c)∈p
 | [],_,_,p,y,q,h,_,_=>by simp at h
 | x::plan,seen,hB,p,y,q,h,e,he=>by
  simp only [planB.linB,Bool.and_eq_true,List.all_eq_true,List.contains_iff_mem] at hB
  cases p with
  | nil =>
   simp only [List.nil_append,List.cons.injEq] at h
   obtain ⟨rfl,rfl⟩:=h
   exact .inl (hB.1 e he)
  | cons z p =>
   simp only [List.cons_append,List.cons.injEq] at h
   obtain ⟨rfl,rfl⟩:=h
   rcases linB_spec (I:=I) _ _ hB.2 p y q rfl e he with h1|⟨c,h1⟩
   ·simp only [List.mem_cons] at h1
    rcases h1 with rfl|h1
    ·exact .inr ⟨x.2,by simp⟩
    ·exact .inl h1
   ·exact .inr ⟨c,by simp [h1]⟩
theorem pairsB_spec {I:List Nat} {T:List (List Nat)}:∀ (plan:List (Nat × Nat)),planB.pairsB ops I T plan=true →
 plan.Pairwise fun x y=>(T.getD y.1 []).contains x.1=true∨swapB ops x y=true∨(x.1∈I∧y.1∈I)
 | [],_=>.nil
 | x::plan,h=>by
  simp only [planB.pairsB,Bool.and_eq_true,List.all_eq_true,Bool.or_eq_true,List.contains_iff_mem] at h
  refine .cons (fun y hy=>?_) (pairsB_spec plan h.2)
  rcases h.1 y hy with (h1|h1)|h1
  ·exact .inl (by simpa using h1)
  ·exact .inr (.inl h1)
  ·exact .inr (.inr h1)
theorem idx_of_pairs:∀ (l:List Nat),l.Nodup→l.Pairwise fun x y=>l.idxOf x < l.idxOf y:=by
 intro l
 induction l with
 | nil=>intro _;exact .nil
 | cons i l ih =>
  intro h
  obtain ⟨hni,hnd⟩:=List.nodup_cons.1 h
  refine .cons (fun y hy=>?_) (List.Pairwise.imp_of_mem (fun {x y} hx hy h1=>?_) (ih hnd))
  ·have:(i == y)=false:=by simpa using fun (e:i=y)=>hni (e▸hy)
   simp [List.idxOf_cons,this]
  ·have e1:(i == x)=false:=by simpa using fun (e:i=x)=>hni (e▸hx)
   have e2:(i == y)=false:=by simpa using fun (e:i=y)=>hni (e▸hy)
   simp only [List.idxOf_cons,e1,e2,cond_false]
   omega
theorem pairwise_filter_idx {l:List Nat} (hnd:l.Nodup) (p:Nat→Bool):(l.filter p).Pairwise fun x y=>l.idxOf x < l.idxOf y :=
 (idx_of_pairs l hnd).sublist List.filter_sublist
theorem wp_region_plans {id:Nat} {a:Act} {w:World} (B:Nat→Prop) (I:List Nat) (plans:List (List (Nat × Nat))) (hm:P.follows .mixedOrders=true) (hB:planB ops I plans=true)
 (hQ:∀ c a d v w,Q (.panic c) (Act.put a d v) w→Q (.panic c) a w)
 (h:∀ plan∈plans,wpPlan P ops B Q plan a w.drew):(Code.region id ops true).wp P Q a w:=by
 simp only [planB,Bool.and_eq_true,decide_eq_true_eq,List.all_eq_true,List.mem_range,List.any_eq_true,beq_iff_eq] at hB
 obtain ⟨⟨⟨⟨⟨hs,hT⟩,hIn⟩,hIlt⟩,hplans⟩,hcov⟩:=hB
 refine wp_region_draw fun t=>?_
 simp only [Region.schedule,hm,Bool.true_or,if_true,Region.linearise]
 have hsch:=sched_go (ops:=ops) ops.size t (Array.replicate ops.size false)
 generalize Region.linearise.go .any ops ops.size t (Array.replicate ops.size false) []=σ at hsch
 have hz:∀ j,(Array.replicate ops.size false).getD j false=false:=fun j=>by
  rcases Nat.lt_or_ge j ops.size with h|h<;>simp [h]
 have hdown:∀ j,j < ops.size→(Array.replicate ops.size false).getD j false=true→∀ e∈preds ops j,(Array.replicate ops.size false).getD e false=true:=fun j _ h=>by rw [hz] at h;cases h
 obtain ⟨hnd,hlt,hanc⟩:=sched_facts hT ops.size _ σ (by simp) hdown hsch
 have hanc':∀ x y,y∈σ→x∈(ancTable ops).getD y []→σ.idxOf x < σ.idxOf y:=fun x y hy hx=>by
  rcases hanc x y hy hx with h1|h1
  ·rw [hz] at h1;cases h1
  ·exact h1
 have inv0:∀ plan∈plans,PlanInv ops (Array.replicate ops.size false) plan:=fun plan hp=>by
  obtain ⟨⟨⟨⟨⟨hlen,hpn⟩,hplt⟩,hmem⟩,hlin⟩,hpairs⟩:=hplans plan hp
  refine ⟨by simp,fun j hj=>⟨fun _=>?_,fun _=>by simp [hj]⟩,hplt,hpn,fun p y q he e hpe=>?_⟩
  ·obtain ⟨y,hy,rfl⟩:=hmem j hj
   exact ⟨y.2,hy⟩
  ·rcases linB_spec (I:=I) plan [] hlin p y q he e hpe with h1|h1
   ·cases h1
   ·exact .inr h1
 by_cases hσ:∀ j,j < ops.size→j∈σ
 ·have hexts:(σ.filter fun i=>I.contains i)∈exts (ancTable ops) I.length I:=by
   refine exts_mem I.length I _ (Nat.le_refl _) (hnd.filter _) (fun x=>?_) hIn (fun x y hx hy hxy=>?_)
   ·simp only [List.mem_filter,List.contains_iff_mem]
    exact ⟨fun h=>h.2,fun h=>⟨hσ x (hIlt x h),h⟩⟩
   ·have hlt2:=hanc' x y (List.mem_filter.1 hy).1 hxy
    have hx':x∈σ.filter fun i=>I.contains i:=hx
    have hnf:(σ.filter fun i=>I.contains i).Nodup:=hnd.filter _
    rcases Nat.lt_trichotomy ((σ.filter fun i=>I.contains i).idxOf x) ((σ.filter fun i=>I.contains i).idxOf y) with h1|h1|h1
    ·exact h1
    ·exfalso
     have:x=y:=by
      have e1:=List.getElem_idxOf (List.idxOf_lt_length_iff.2 hx')
      have e2:=List.getElem_idxOf (List.idxOf_lt_length_iff.2 hy)
      rw [←e1,←e2]
      congr 1
     subst this
     omega
    ·exfalso
     have hp:=pairwise_filter_idx hnd (fun i=>I.contains i)
     have:=List.pairwise_iff_getElem.1 hp _ _ (List.idxOf_lt_length_iff.2 hy) (List.idxOf_lt_length_iff.2 hx') h1
     rw [List.getElem_idxOf,List.getElem_idxOf] at this
     omega
  obtain ⟨plan,hpm,hpe⟩:=hcov _ hexts
  obtain ⟨⟨⟨⟨⟨hlen,hpn⟩,hplt⟩,hmem⟩,hlin⟩,hpairs⟩:=hplans plan hpm
  refine wpOps_of_plan hs hQ ops.size plan _ σ a w.drew hlen (inv0 plan hpm) hsch ?_ (h plan hpm)
  have hp1:=pairsB_spec plan hpairs
  have hp2:plan.Pairwise fun x y=>x.1∈I→y.1∈I→σ.idxOf x.1 < σ.idxOf y.1:=by
   have h1:=pairwise_filter_idx hnd (fun i=>I.contains i)
   rw [←hpe] at h1
   have h2:=List.pairwise_filter.1 h1
   have h3:=List.pairwise_map.1 h2
   exact h3.imp fun {x y} h hx hy=>h (by simpa using hx) (by simpa using hy)
  refine List.Pairwise.imp_of_mem (fun {x y} hx hy h1=>?_) (hp1.and hp2)
  rcases h1.1 with h2|h2|h2
  ·exact .inr (hanc' x.1 y.1 (hσ _ (hplt y hy)) (by simpa using h2))
  ·exact .inl h2
  ·exact .inr (h1.2 h2.1 h2.2)
 ·
  exfalso
  refine hσ fun j hj=>?_
  have full:∀ (n:Nat) (listed:Array Bool) (σ:List Nat),listed.size=ops.size→((List.range ops.size).filter fun j=>!listed.getD j true).length≤n →
   Sched ops n listed σ→∀ j,j < ops.size→listed.getD j true=false→j∈σ:=by
   intro n
   induction n with
   | zero =>
    intro listed σ hsz hle _ j hj hun
    have:(List.range ops.size).filter (fun j=>!listed.getD j true)=[]:=List.eq_nil_of_length_eq_zero (by omega)
    have hmem:j∈(List.range ops.size).filter (fun j=>!listed.getD j true):=List.mem_filter.2 ⟨List.mem_range.2 hj,by simpa using hun⟩
    rw [this] at hmem
    cases hmem
   | succ n ih =>
    intro listed σ hsz hle hsc j hj hun
    rcases hsc with ⟨i,σ',rfl,hi,hsc⟩|⟨rfl,h0⟩
    ·by_cases hji:j=i
     ·simp [hji]
     ·refine List.mem_cons_of_mem _ (ih (listed.setIfInBounds i true) σ' (by simp [hsz]) ?_ hsc j hj (by rw [getD_set_ne true (Ne.symm hji)];exact hun))
      obtain ⟨hilt,hiun,_⟩:=ready_preds hi
      have hlt3:((List.range ops.size).filter fun j=>!(listed.setIfInBounds i true).getD j true).length < ((List.range ops.size).filter fun j=>!listed.getD j true).length:=by
       have e1:(List.range ops.size).filter (fun j=>!(listed.setIfInBounds i true).getD j true)=((List.range ops.size).filter fun j=>!listed.getD j true).filter (fun j=>j != i):=by
        rw [List.filter_filter]
        refine List.filter_congr fun x hx=>?_
        by_cases hxi:i=x
        ·subst hxi
         have hs2:i < listed.size:=by omega
         simp [hs2]
        ·rw [getD_set_ne true hxi]
         simp [Ne.symm hxi]
       rw [e1]
       exact List.length_filter_lt_length_iff_exists.2 ⟨i,List.mem_filter.2 ⟨List.mem_range.2 hilt,by simpa using hiun⟩,by simp⟩
      omega
    ·exfalso
     have hex:∃ k,k < ops.size∧listed.getD k true=false∧∀ k' < k,listed.getD k' true=true:=by
      have:∀ m,m≤ops.size→(∃ k,k < m∧listed.getD k true=false∧∀ k' < k,listed.getD k' true=true)∨∀ k' < m,listed.getD k' true=true:=by
       intro m
       induction m with
       | zero=>intro _;exact .inr fun k' h=>absurd h (Nat.not_lt_zero _)
       | succ m ihm =>
        intro hm
        rcases ihm (by omega) with ⟨k,h1,h2,h3⟩|h1
        ·exact .inl ⟨k,by omega,h2,h3⟩
        ·cases hg:listed.getD m true with
         | false=>exact .inl ⟨m,by omega,hg,h1⟩
         | true =>
          refine .inr fun k' hk'=>?_
          rcases Nat.lt_or_ge k' m with h|h
          ·exact h1 k' h
          ·have:k'=m:=by omega
           subst this
           exact hg
      rcases this ops.size (Nat.le_refl _) with h1|h1
      ·exact h1
      ·rw [h1 j hj] at hun;cases hun
     obtain ⟨k,hk,hkun,hkmin⟩:=hex
     have hin:k∈Region.ready .any ops listed:=by
      refine mem_ready.2 ⟨hkun,ops[k],by simp [hk],fun e he hb=>?_⟩
      have h1:=List.all_eq_true.1 hT k (List.mem_range.2 hk)
      simp only [Bool.and_eq_true,List.all_eq_true,decide_eq_true_eq] at h1
      have hlt4:=h1.1 e.on (mem_preds (by simp [hk]) he hb)
      have:=hkmin e.on hlt4
      rw [getD_true_false (by omega)] at this
      exact this
     rw [h0] at hin
     cases hin
  exact full ops.size _ σ (by simp) (by simpa using List.length_filter_le _ (List.range ops.size)) hsch j hj (by simp [hj])
end
end Go.Afx
namespace Go.Afx
open Go
section
variable {P : Program} {ops : Array Oper} {B : Nat → Prop} {Q : Exit → Act → World → Prop} {i : Nat} {rest : List (Nat × Nat)} {a : Act} {w : World} {o : Oper} {v : Value}
theorem agree_drew (B:Nat→Prop) (w:World):Agree B w w.drew:=fun _ _ _=>rfl
theorem agree_alloc {B:Nat→Prop} {w:World} (o:Obj) (h:∀ k,B k→k < w.heap.size):Agree B w (w.alloc o):=fun b i hb=>by
 have hlt:=h b hb
 have:(w.alloc o).heap[b]?=w.heap[b]?:=by
  show (w.heap.push o)[b]?=_
  rw [Array.getElem?_push,if_neg zTbe]
 simp only [World.cell?,this]
theorem plan_nil (h:Q .normal a w):wpPlan P ops B Q [] a w:=h
theorem plan_pure {l:List Oper} {d:Tmp} (ho:l[i]?=some o) (hd:o.dst=some d) (hw:Region.wanted o (yielded l.toArray a.tmps)=true) (hv:∀ w,(execOp a.eval o).run P w=.ok (.value v) w)
 (h:wpPlan P l.toArray B Q rest { a with tmps:=a.tmps.setIfInBounds d v } w):wpPlan P l.toArray B Q ((i,0)::rest) a w:=⟨o,v,zI2c,.inl ⟨hw,hv⟩,zabi⟩
theorem plan_read {l:List Oper} {d:Tmp} (ho:l[i]?=some o) (hd:o.dst=some d) (hw:Region.wanted o (yielded l.toArray a.tmps)=true) (hv:(execOp a.eval o).run P w=.ok (.value v) w)
 (h:wpPlan P l.toArray B Q rest { a with tmps:=a.tmps.setIfInBounds d v } w):wpPlan P l.toArray B Q ((i,1)::rest) a w:=⟨o,v,zI2c,.inl ⟨hw,fun _ e=>by rw [e];exact hv⟩,zabi⟩
theorem plan_readB {l:List Oper} {d:Tmp} (ho:l[i]?=some o) (hd:o.dst=some d) (hw:Region.wanted o (yielded l.toArray a.tmps)=true) (hv:∀ w2,Agree B w w2→(execOp a.eval o).run P w2=.ok (.value v) w2)
 (h:wpPlan P l.toArray B Q rest { a with tmps:=a.tmps.setIfInBounds d v } w):wpPlan P l.toArray B Q ((i,2)::rest) a w:=⟨o,v,zI2c,.inl ⟨hw,hv⟩,zabi⟩
theorem plan_skip0 {l:List Oper} {d:Tmp} (ho:l[i]?=some o) (hd:o.dst=some d) (hw:Region.wanted o (yielded l.toArray a.tmps)=false)
 (h:wpPlan P l.toArray B Q rest { a with tmps:=a.tmps.setIfInBounds d undef } w):wpPlan P l.toArray B Q ((i,0)::rest) a w:=⟨o,undef,zI2c,.inr ⟨hw,rfl⟩,zabi⟩
theorem plan_skip1 {l:List Oper} {d:Tmp} (ho:l[i]?=some o) (hd:o.dst=some d) (hw:Region.wanted o (yielded l.toArray a.tmps)=false)
 (h:wpPlan P l.toArray B Q rest { a with tmps:=a.tmps.setIfInBounds d undef } w):wpPlan P l.toArray B Q ((i,1)::rest) a w:=⟨o,undef,zI2c,.inr ⟨hw,rfl⟩,zabi⟩
theorem plan_skip2 {l:List Oper} {d:Tmp} (ho:l[i]?=some o) (hd:o.dst=some d) (hw:Region.wanted o (yielded l.toArray a.tmps)=false)
 (h:wpPlan P l.toArray B Q rest { a with tmps:=a.tmps.setIfInBounds d undef } w):wpPlan P l.toArray B Q ((i,2)::rest) a w:=⟨o,undef,zI2c,.inr ⟨hw,rfl⟩,zabi⟩
theorem wpOp_of_list {K:Act→World→Prop} (ho:ops[i]?=some o) (h:wpList P ops (Exit.then K Q) [o] a w):wpOp P ops Q i K a w:=by
 unfold wpOp
 simp only [ho]
 unfold wpList at h
 split
 ·rename_i hw
  rw [if_pos hw] at h
  rcases h with h|⟨h1,h2⟩
  ·refine .inl ?_
   unfold Oper.wp at *
   generalize (execOp a.eval o).run P w=r at *
   cases r with
   | ok n w' =>
    cases n<;>simp only [Oper.upon] at h ⊢<;>first
     | exact h
     | exact Calls.mono h (fun e w'' he=>by cases e<;>exact he)
     | exact Rows.mono h (fun _ _ he=>he)
   | halt x w'=>cases x<;>simp only [Oper.upon] at h ⊢<;>exact h
  ·exact .inr ⟨h1,h2⟩
 ·rename_i hw
  rw [if_neg hw] at h
  exact h
theorem plan_keep {l:List Oper} (ho:l[i]?=some o) (h:wpList P l.toArray (Exit.then (fun a' w'=>Agree B w w'∧wpPlan P l.toArray B Q rest a' w') Q) [o] a w):wpPlan P l.toArray B Q ((i,3)::rest) a w :=
 wpOp_of_list zI2c h
theorem plan_any {l:List Oper} (ho:l[i]?=some o) (h:wpList P l.toArray (Exit.then (wpPlan P l.toArray B Q rest) Q) [o] a w):wpPlan P l.toArray B Q ((i,4)::rest) a w :=
 wpOp_of_list zI2c h
theorem wp_region_lit_plan {id:Nat} {l:List Oper} (I:List Nat) (plan:List (Nat × Nat)) (B:Nat→Prop) (hm:P.follows .mixedOrders=true) (hB:planB l.toArray I [plan]=true)
 (hQ:∀ c a d v w,Q (.panic c) (Act.put a d v) w→Q (.panic c) a w)
 (h:wpPlan P l.toArray B Q plan a w.drew):(Code.region id l.toArray true).wp P Q a w :=
 wp_region_plans B I [plan] hm hB hQ (fun p hp=>by simp at hp;subst hp;exact h)
def allPlans (P:Program) (ops:Array Oper) (B:Nat→Prop) (Q:Exit→Act→World→Prop) (a:Act) (w:World):List (List (Nat × Nat))→Prop
 | []=>True
 | p::ps=>wpPlan P ops B Q p a w∧allPlans P ops B Q a w ps
theorem allPlans_mem:∀ (ps:List (List (Nat × Nat))),allPlans P ops B Q a w ps→∀ p∈ps,wpPlan P ops B Q p a w
 | [],_,_,h=>by cases h
 | q::ps,h,p,hp=>by
  rcases List.mem_cons.1 hp with rfl|hp
  ·exact h.1
  ·exact allPlans_mem ps h.2 p hp
theorem wp_region_lit_plans {id:Nat} {l:List Oper} (I:List Nat) (plans:List (List (Nat × Nat))) (B:Nat→Prop) (hm:P.follows .mixedOrders=true) (hB:planB l.toArray I plans=true)
 (hQ:∀ c a d v w,Q (.panic c) (Act.put a d v) w→Q (.panic c) a w)
 (h:allPlans P l.toArray B Q a w.drew plans):(Code.region id l.toArray true).wp P Q a w :=
 wp_region_plans B I plans hm hB hQ (allPlans_mem plans h)
end
end Go.Afx
namespace Go.Afx
open Go
structure Kept (Q:Prop):Prop where
 out:Q
theorem stp {P Q:Prop} (k:Q) (h:Kept Q→P:=by intro k;(first|(refine plan_pure (v:=_) (by rfl) (by rfl) (by rfl) (by intro _;go_simp;with_reducible rfl) ?_;simp only [List.setIfInBounds_toArray,List.set_cons_zero,List.set_cons_succ];try go_bits)|(refine plan_read (v:=_) (by rfl) (by rfl) (by rfl) (by go_simp;with_reducible rfl) ?_;simp only [List.setIfInBounds_toArray,List.set_cons_zero,List.set_cons_succ];try go_bits)|(refine plan_readB (v:=_) (by rfl) (by rfl) (by rfl) (by intro _ hag;unfold Agree at hag;go_simp;with_reducible rfl) ?_;simp only [List.setIfInBounds_toArray,List.set_cons_zero,List.set_cons_succ];try go_bits)|(refine plan_skip0 (by rfl) (by rfl) (by rfl) ?_;simp only [List.setIfInBounds_toArray,List.set_cons_zero,List.set_cons_succ];try go_bits)|(refine plan_skip1 (by rfl) (by rfl) (by rfl) ?_;simp only [List.setIfInBounds_toArray,List.set_cons_zero,List.set_cons_succ];try go_bits)|(refine plan_skip2 (by rfl) (by rfl) (by rfl) ?_;simp only [List.setIfInBounds_toArray,List.set_cons_zero,List.set_cons_succ];try go_bits)|(refine plan_skip4 (by rfl) (by rfl) (by rfl) ?_;simp only [List.setIfInBounds_toArray,List.set_cons_zero,List.set_cons_succ];try go_bits)|(refine plan_any (by rfl) ?_)|(refine plan_keep (by rfl) ?_)|(refine plan_nil ?_)|(with_reducible refine And.intro (by first|assumption|exact Agree.refl _ _|exact agree_drew _ _|exact agree_alloc _ (by intro k hk;subst hk;first|omega|(simp;omega))) ?_)|(unfold Act.put;simp only [List.setIfInBounds_toArray,List.set_cons_zero,List.set_cons_succ]));exact k.out):P:=h ⟨k⟩
end Go.Afx
namespace Go.Afx
open Go Go.RowKit
structure Only (S:Nat→Prop) (w w':World):Prop where
 os:w'.os=w.os
 tape:w'.tape=w.tape
 output:w'.output=w.output
 size:w.heap.size≤w'.heap.size
 block:∀ k,k < w.heap.size→¬ S k→w'.heap[k]?=w.heap[k]?
theorem Only.refl (S:Nat→Prop) (w:World):Only S w w:=⟨rfl,rfl,rfl,Nat.le_refl _,fun _ _ _=>rfl⟩
theorem Only.trans {S S':Nat→Prop} {a b c:World} (h:Only S a b) (k:Only S' b c) (hs:∀ i,i < a.heap.size→S' i→S i):Only S a c :=
 ⟨k.os.trans h.os,k.tape.trans h.tape,k.output.trans h.output,Nat.le_trans h.size k.size,fun i hi hn =>
  (k.block i (Nat.lt_of_lt_of_le hi h.size) fun h'=>hn (hs i hi h')).trans (h.block i hi hn)⟩
theorem Only.mono {S S':Nat→Prop} {w w':World} (h:Only S w w') (hs:∀ i,i < w.heap.size→S i→S' i):Only S' w w' :=
 ⟨h.os,h.tape,h.output,h.size,fun i hi hn=>h.block i hi fun h'=>hn (hs i hi h')⟩
theorem Only.drew {S:Nat→Prop} {a w:World} (h:Only S a w):Only S a w.drew:=⟨h.os,h.tape,h.output,h.size,h.block⟩
theorem Only.alloc {S:Nat→Prop} {a w:World} (h:Only S a w) (o:Obj):Only S a (w.alloc o) :=
 h.trans (S':=fun _=>False) ⟨rfl,rfl,rfl,zPXO,fun k hk _=>Below.heap_alloc _ _ _ hk⟩ fun _ _ h=>h.elim
theorem Only.setCell {S:Nat→Prop} {a w:World} (h:Only S a w) {p:Addr} (hp:p.block < a.heap.size→S p.block) (u:Value):Only S a (w.setCell p u) :=
 h.trans (S':=fun k=>k=p.block) ⟨rfl,rfl,rfl,by simp [World.setCell],fun k _ hn=>Below.heap_setCell _ _ _ _ hn⟩ fun i hi e=>by subst e;exact hp hi
theorem Only.setRow {S:Nat→Prop} {a w:World} (h:Only S a w) {g:Nat} (hp:g < a.heap.size→S g) (cs:Array Value):Only S a (w.setRow g cs) :=
 h.trans (S':=fun k=>k=g) ⟨rfl,rfl,rfl,zfoE,fun k _ hn=>setRow_other _ _ _ _ hn⟩ fun i hi e=>by subst e;exact hp hi
theorem Only.below {S:Nat→Prop} {w w':World} (h:Only S w w') {B:Nat} (hB:B≤w.heap.size) (hs:∀ i,S i→B≤i):Below B w w' :=
 ⟨h.os,h.tape,h.output,h.size,fun k hk=>h.block k (Nat.lt_of_lt_of_le hk hB) fun h'=>by have:=hs k h';omega⟩
theorem Only.of_below {S:Nat→Prop} {w w':World} {B:Nat} (h:Below B w w') (hs:∀ i,i < w.heap.size→¬ S i→i < B):Only S w w' :=
 ⟨h.os,h.tape,h.output,h.size,fun k hk hn=>h.block k (hs k hk hn)⟩
theorem Only.of_none {S:Nat→Prop} {w w':World} (h:Below w.heap.size w w'):Only S w w':=Only.of_below h fun _ hi _=>hi
theorem Only.cell {S:Nat→Prop} {w w':World} (h:Only S w w') {p:Addr} (hp:p.block < w.heap.size) (hn:¬ S p.block):w'.cell? p=w.cell? p:=World.cell?_of_block (w:=w) (h.block p.block hp hn)
theorem Only.frozen {S:Nat→Prop} {w w':World} (h:Only S w w') {p:Addr} (hp:p.block < w.heap.size) (hn:¬ S p.block):w'.frozen? p=w.frozen? p:=World.frozen?_of_block (w:=w) (h.block p.block hp hn)
theorem lt_of_heap {w:World} {k:Nat} {o:Obj} (h:w.heap[k]?=some o):k < w.heap.size:=(Array.getElem?_eq_some_iff.1 h).1
def Blk (w:World) (b:Nat) (t:TypeId) (cs:List Value):Prop:=w.heap[b]?=some (.cells cs.toArray t (0,0))
section blk
variable {w w' : World} {b : Nat} {t : TypeId} {cs : List Value}
theorem Blk.lt (h:Blk w b t cs):b < w.heap.size:=lt_of_heap h
theorem Blk.cell (h:Blk w b t cs) (i:Nat):w.cell? ⟨b,i,none⟩=cs[i]?:=by
 unfold Blk at h
 simp [World.cell?,h]
theorem Blk.cellE (h:Blk w b t cs) (i:Nat) {v:Value} (hv:cs[i]?=some v):w.cell? ⟨b,i,none⟩=some v:=(h.cell i).trans hv
theorem Blk.frozen (h:Blk w b t cs) (i:Nat):w.frozen? ⟨b,i,none⟩=false:=by
 unfold Blk at h
 simp [World.frozen?,h]
theorem Blk.set (h:Blk w b t cs) (i:Nat) (v:Value):Blk (w.setCell ⟨b,i,none⟩ v) b t (cs.set i v):=by
 have hlt:=h.lt
 unfold Blk at *
 have hv:w.heap[b]=.cells cs.toArray t (0,0):=(Array.getElem?_eq_some_iff.1 h).2
 simp only [World.setCell]
 rw [Array.getElem?_eq_getElem (by simpa using hlt),Array.getElem_modify]
 simp [hv]
theorem Blk.setOther (h:Blk w b t cs) {p:Addr} (hp:b≠p.block) (v:Value):Blk (w.setCell p v) b t cs:=by
 unfold Blk at *
 rw [Below.heap_setCell _ _ _ _ hp]
 exact h
theorem Blk.setRowOther (h:Blk w b t cs) {g:Nat} (hp:b≠g) (c:Array Value):Blk (w.setRow g c) b t cs:=by
 unfold Blk at *
 rw [setRow_other _ _ _ _ hp]
 exact h
theorem Blk.setRow (h:Blk w b t cs) (c:List Value):Blk (w.setRow b c.toArray) b t c:=setRow_heap w b _ _ t _ h
theorem Blk.alloc (h:Blk w b t cs) (o:Obj):Blk (w.alloc o) b t cs:=by
 have hlt:=h.lt
 unfold Blk at *
 rw [heap_alloc_old w o hlt]
 exact h
theorem Blk.drew (h:Blk w b t cs):Blk w.drew b t cs:=h
theorem Blk.new (w:World) (t:TypeId) (cs:List Value):Blk (w.alloc (.cells cs.toArray t)) w.heap.size t cs:=heap_alloc_new w _
theorem Blk.only {S:Nat→Prop} (h:Blk w b t cs) (ho:Only S w w') (hn:¬ S b):Blk w' b t cs:=by
 have hlt:=h.lt
 unfold Blk at *
 rw [ho.block b hlt hn]
 exact h
theorem Blk.below (h:Blk w b t cs) (ho:Below w.heap.size w w'):Blk w' b t cs:=by
 have hlt:=h.lt
 unfold Blk at *
 rw [ho.block b hlt]
 exact h
end blk
def Ones (cs:List Value):Prop:=∀ u∈cs,u.oneCell'=true
theorem Ones.nil:Ones []:=fun _ h=>by cases h
theorem Ones.cons {u:Value} {cs:List Value} (h:u.oneCell'=true) (hc:Ones cs):Ones (u::cs):=fun x hx=>by
 rcases List.mem_cons.1 hx with rfl|hx
 ·exact h
 ·exact hc x hx
theorem Ones.append {a b:List Value} (ha:Ones a) (hb:Ones b):Ones (a++b):=fun x hx=>by
 rcases List.mem_append.1 hx with h|h
 ·exact ha x h
 ·exact hb x h
theorem Ones.sub {a b:List Value} (hb:Ones b) (h:∀ x∈a,x∈b):Ones a:=fun x hx=>hb x (h x hx)
theorem Ones.take {a:List Value} (h:Ones a) (n:Nat):Ones (a.take n):=h.sub fun _ hx=>List.mem_of_mem_take hx
theorem Ones.drop {a:List Value} (h:Ones a) (n:Nat):Ones (a.drop n):=h.sub fun _ hx=>List.mem_of_mem_drop hx
def Sl (w:World) (B:Nat→Prop) (sz:Nat) (v:Value) (n:Nat) (cs:List Value):Prop :=
 cs.length=n*sz∧Ones cs∧((∃ p cap,v=.slice p 0 cap∧n=0∧cap≤maxLen∧(p=none→cap=0)) ∨
  ∃ g off cap,v=.slice (some ⟨g,off,none⟩) n cap∧n≤cap∧cap≤maxLen∧B g∧g < w.heap.size∧∀ j,j < cs.length→w.cell? ⟨g,off+j,none⟩=cs[j]?)
theorem Sl.mono {w w':World} {B B':Nat→Prop} {sz:Nat} {v:Value} {n:Nat} {cs:List Value} (h:Sl w B sz v n cs) (hs:w.heap.size≤w'.heap.size)
 (hb:∀ k,B k→k < w.heap.size→w'.heap[k]?=w.heap[k]?) (hB:∀ k,B k→k < w.heap.size→B' k):Sl w' B' sz v n cs:=by
 obtain ⟨h1,h2,h3⟩:=h
 refine ⟨h1,h2,?_⟩
 rcases h3 with h3|⟨g,off,cap,rfl,a1,a2,a3,a4,a5⟩
 ·exact .inl h3
 ·exact .inr ⟨g,off,cap,rfl,a1,a2,hB g a3 a4,zTbe,fun j hj=>by rw [World.cell?_of_block (w:=w) (hb g a3 a4)];exact a5 j hj⟩
theorem Sl.only {w w':World} {S B:Nat→Prop} {sz:Nat} {v:Value} {n:Nat} {cs:List Value} (h:Sl w B sz v n cs) (ho:Only S w w') (hd:∀ k,B k→¬ S k):Sl w' B sz v n cs :=
 h.mono ho.size (fun k hk hl=>ho.block k hl (hd k hk)) (fun _ h _=>h)
theorem Sl.below {w w':World} {B:Nat→Prop} {sz:Nat} {v:Value} {n:Nat} {cs:List Value} (h:Sl w B sz v n cs) (ho:Below w.heap.size w w'):Sl w' B sz v n cs :=
 h.mono ho.size (fun k _ hl=>ho.block k hl) (fun _ h _=>h)
theorem Sl.drew {w:World} {B:Nat→Prop} {sz:Nat} {v:Value} {n:Nat} {cs:List Value} (h:Sl w B sz v n cs):Sl w.drew B sz v n cs:=h
theorem Sl.alloc {w:World} {B:Nat→Prop} {sz:Nat} {v:Value} {n:Nat} {cs:List Value} (h:Sl w B sz v n cs) (o:Obj):Sl (w.alloc o) B sz v n cs :=
 h.mono zPXO (fun _ _ hl=>heap_alloc_old w o hl) (fun _ h _=>h)
theorem Sl.take {w:World} {B:Nat→Prop} {sz n cap m:Nat} {p:Option Addr} {cs:List Value} (h:Sl w B sz (.slice p n cap) n cs) (hm:m≤n):Sl w B sz (.slice p m cap) m (cs.take (m*sz)):=by
 obtain ⟨h1,h2,h3⟩:=h
 have hmn:m*sz≤n*sz:=Nat.mul_le_mul_right _ hm
 refine ⟨by rw [List.length_take,h1];omega,h2.take _,?_⟩
 rcases h3 with ⟨p',cap',hv,hn,hc,hp⟩|⟨g',off',cap',hv,a1,a2,a3,a4,a5⟩
 ·cases hv
  have:m=0:=zTbe
  subst this
  exact .inl ⟨p,cap,rfl,rfl,hc,hp⟩
 ·cases hv
  refine .inr ⟨g',off',cap,rfl,zTbe,a2,a3,a4,fun j hj=>?_⟩
  rw [List.length_take] at hj
  rw [a5 j zTbe,List.getElem?_take,if_pos zTbe]
theorem Sl.form {w:World} {B:Nat→Prop} {sz:Nat} {v:Value} {n:Nat} {cs:List Value} (h:Sl w B sz v n cs):∃ p cap,v=.slice p n cap∧n≤cap∧cap≤9223372036854775807:=by
 rcases h.2.2 with ⟨p,cap,rfl,rfl,hc,_⟩|⟨g,off,cap,rfl,a1,a2,_⟩
 ·exact ⟨p,cap,rfl,zTbe,by unfold maxLen at hc;omega⟩
 ·exact ⟨_,cap,rfl,a1,by unfold maxLen at a2;omega⟩
theorem Sl.place {w:World} {B:Nat→Prop} {sz:Nat} {v:Value} {n:Nat} {cs:List Value} (h:Sl w B sz v n cs) (hn:0 < n) :
 ∃ g off cap,v=.slice (some ⟨g,off,none⟩) n cap∧n≤cap∧cap≤maxLen∧B g∧g < w.heap.size∧∀ j,j < cs.length→w.cell? ⟨g,off+j,none⟩=cs[j]?:=by
 rcases h.2.2 with ⟨p,cap,rfl,rfl,hc,_⟩|h
 ·omega
 ·exact h
def Own (w:World) (e:TypeId) (sz:Nat) (v:Value) (n:Nat) (cs:List Value):Prop :=
 cs.length=n*sz∧Ones cs∧((v=.slice none 0 0∧n=0) ∨
  ∃ g off cap cur,v=.slice (some ⟨g,off,none⟩) n cap∧Blk w g e cur∧n≤cap∧cap≤maxLen∧off+cap*sz≤cur.length∧(cur.drop off).take (n*sz)=cs)
section own
variable {w w' : World} {e : TypeId} {sz : Nat} {v : Value} {n : Nat} {cs : List Value}
theorem Own.nil (w:World) (e:TypeId) (sz:Nat):Own w e sz (.slice none 0 0) 0 []:=⟨zPXO,Ones.nil,.inl ⟨rfl,rfl⟩⟩
theorem Own.lt (h:Own w e sz v n cs):∀ k,v.ownBlock=some k→k < w.heap.size:=by
 intro k hk
 rcases h.2.2 with ⟨rfl,_⟩|⟨g,off,cap,cur,rfl,hb,_⟩
 ·simp [Value.ownBlock] at hk
 ·simp [Value.ownBlock] at hk
  subst hk
  exact hb.lt
theorem Own.sl (h:Own w e sz v n cs) {B:Nat→Prop} (hB:∀ k,v.ownBlock=some k→B k):Sl w B sz v n cs:=by
 refine ⟨h.1,h.2.1,?_⟩
 rcases h.2.2 with h0|⟨g,off,cap,cur,rfl,hb,h1,h2,h3,h4⟩
 ·exact .inl ⟨none,0,h0.1,h0.2,Nat.zero_le _,fun _=>rfl⟩
 ·refine .inr ⟨g,off,cap,rfl,h1,h2,hB g rfl,hb.lt,fun j hj=>?_⟩
  rw [hb.cell,←h4,List.getElem?_take,List.getElem?_drop,if_pos (by rw [h.1] at hj;exact hj)]
theorem Own.keep (h:Own w e sz v n cs) (hb:∀ k,v.ownBlock=some k→w'.heap[k]?=w.heap[k]?):Own w' e sz v n cs:=by
 refine ⟨h.1,h.2.1,?_⟩
 rcases h.2.2 with h0|⟨g,off,cap,cur,rfl,hbk,rest⟩
 ·exact .inl h0
 ·refine .inr ⟨g,off,cap,cur,rfl,?_,rest⟩
  unfold Blk at *
  rw [hb g rfl]
  exact hbk
theorem Own.only {S:Nat→Prop} (h:Own w e sz v n cs) (ho:Only S w w') (hd:∀ k,v.ownBlock=some k→¬ S k):Own w' e sz v n cs :=
 h.keep fun k hk=>ho.block k (h.lt k hk) (hd k hk)
theorem Own.below (h:Own w e sz v n cs) (ho:Below w.heap.size w w'):Own w' e sz v n cs:=h.keep fun k hk=>ho.block k (h.lt k hk)
theorem Own.drew (h:Own w e sz v n cs):Own w.drew e sz v n cs:=h
theorem Own.alloc (h:Own w e sz v n cs) (o:Obj):Own (w.alloc o) e sz v n cs:=h.keep fun k hk=>heap_alloc_old w o (h.lt k hk)
theorem Own.setOther (h:Own w e sz v n cs) {p:Addr} (hp:v.ownBlock≠some p.block) (u:Value):Own (w.setCell p u) e sz v n cs :=
 h.keep fun k hk=>Below.heap_setCell _ _ _ _ fun he=>hp (by rw [hk,he])
theorem Own.made (w:World) (e:TypeId) (sz:Nat) (cs rest:List Value) (n cap:Nat) (hl:cs.length=n*sz) (h1:Ones cs) (hc:n≤cap) (hm:cap≤maxLen) (hr:cap*sz≤(cs++rest).length) :
 Own (w.alloc (.cells (cs++rest).toArray e)) e sz (.slice (some ⟨w.heap.size,0,none⟩) n cap) n cs :=
 ⟨hl,h1,.inr ⟨w.heap.size,0,cap,cs++rest,rfl,Blk.new w e _,hc,hm,zTbe,by rw [←hl];simp⟩⟩
theorem Own.take {g off cap:Nat} (h:Own w e sz (.slice (some ⟨g,off,none⟩) n cap) n cs) {m:Nat} (hm:m≤n):Own w e sz (.slice (some ⟨g,off,none⟩) m cap) m (cs.take (m*sz)):=by
 have hmn:m*sz≤n*sz:=Nat.mul_le_mul_right _ hm
 refine ⟨by rw [List.length_take,h.1];omega,h.2.1.take _,?_⟩
 rcases h.2.2 with ⟨h0,_⟩|⟨g',off',cap',cur,hv,hb,h1,h2,h3,h4⟩
 ·cases h0
 ·cases hv
  refine .inr ⟨g,off,cap,cur,rfl,hb,zTbe,h2,h3,?_⟩
  rw [←h4,List.take_take]
  congr 1
  omega
end own
structure Elem (P:Program) (t e:TypeId) (sz bytes:Nat) (z:Value):Prop where
 sl:P.underlying t=some (.slice e)
 info:(P.info? e).map (fun i=>(i.zero,i.size,i.bytes))=some (some z,sz,bytes)
 zs:z.cells.size=sz
 pos:0 < sz
 one:Ones z.cells.toList
theorem Elem.parts {P:Program} {t e:TypeId} {sz bytes:Nat} {z:Value} (h:Elem P t e sz bytes z):∃ i,P.info? e=some i∧i.zero=some z∧i.size=sz∧i.bytes=bytes:=info_parts h.info
theorem splice_read (cur news cs:List Value) (off a:Nat) (ho:off≤cur.length) (h:(cur.drop off).take a=cs) (hl:cs.length=a) :
 ((cur.take (off+a)++news++cur.drop (off+a+news.length)).drop off).take (a+news.length)=cs++news:=by
 have e1:cur.take (off+a)=cur.take off++cs:=by rw [List.take_add,h]
 rw [e1,List.append_assoc,List.append_assoc,List.drop_append_of_le_length z2Pg]
 rw [List.drop_eq_nil_of_le z2Pg,List.nil_append,←List.append_assoc,←hl,←List.length_append,List.take_left]
theorem news_of_sl {w:World} {g off:Nat} {news:List Value} (h:∀ j,j < news.length→w.cell? ⟨g,off+j,none⟩=news[j]?):∀ j u,news[j]?=some u→w.cell? ((⟨g,off,none⟩:Addr).add j)=some u:=fun j u hu=>by
 have hj:j < news.length:=(List.getElem?_eq_some_iff.1 hu).1
 rw [Addr.add_lit,h j hj,hu]
section append
variable {P : Program} {t e ty : TypeId} {sz bytes : Nat} {z : Value} {w : World}
theorem run_app (he:Elem P t e sz bytes z) {v:Value} {n:Nat} {cs:List Value} (hown:Own w e sz v n cs) {B:Nat→Prop} {x:Value} {m:Nat} {news:List Value} (hx:Sl w B sz x m news)
 (h63:n+m≤maxLen) (hb:(n+m)*bytes≤140737488355328) :
 ∃ v' w',(Builtin.append_ #[t,t] ty #[v,x]).run P w=.ok v' w'∧Own w' e sz v' (n+m) (cs++news)∧Only (fun k=>v.ownBlock=some k) w w' ∧
  (v'.ownBlock=v.ownBlock∨v'.ownBlock=some w.heap.size)∧w'.heap.size≤w.heap.size+1∧(0 < n+m→v'≠.slice none 0 0)∧(0 < n+m→v'.ownBlock≠none):=by
 obtain ⟨i,hi,hz,hsize,hby⟩:=he.parts
 have ht:=he.sl
 have hzs:=he.zs
 have hsz:=he.pos
 subst hsize
 subst hby
 have hsmall:n+m≤9223372036854775807:=by simp only [maxLen] at h63;omega
 have hlen:(cs++news).length=(n+m)*i.size:=zV2H
 have hones:Ones (cs++news):=hown.2.1.append hx.2.1
 have grown:∀ (old:Nat),old < n+m→∀ S:Nat→Prop,
  Own (w.drew.alloc (.cells (cs.toArray++news.toArray++Builtin.zeroCells z.cells (grownCap w (n+m) old e - (n+m))) e)) e i.size
   (.slice (some ⟨w.heap.size,0,none⟩) (n+m) (grownCap w (n+m) old e)) (n+m) (cs++news) ∧
  Only S w (w.drew.alloc (.cells (cs.toArray++news.toArray++Builtin.zeroCells z.cells (grownCap w (n+m) old e - (n+m))) e)):=by
  intro old ho S
  have hge:=grownCap_ge w (n+m) old e
  have hcm:grownCap w (n+m) old e≤maxLen:=grownCap_le_maxLen w (n+m) old e h63
  have hsz2:(cs++news++(Builtin.zeroCells z.cells (grownCap w (n+m) old e - (n+m))).toList).length=grownCap w (n+m) old e*i.size:=by
   exact zCtK
  have h1:=Own.made w.drew e i.size (cs++news) (Builtin.zeroCells z.cells (grownCap w (n+m) old e - (n+m))).toList (n+m) (grownCap w (n+m) old e) hlen hones hge hcm zTbe
  have e1:(cs++news++(Builtin.zeroCells z.cells (grownCap w (n+m) old e - (n+m))).toList).toArray=cs.toArray++news.toArray++Builtin.zeroCells z.cells (grownCap w (n+m) old e - (n+m)):=zPXO
  rw [e1] at h1
  exact ⟨h1,((Only.refl S w).drew).alloc _⟩
 rcases hown.2.2 with ⟨rfl,rfl⟩|⟨g,off,cap,cur,rfl,hbk,hnc,hcm,hcs,htake⟩
 ·
  have hc0:cs=[]:=List.eq_nil_of_length_eq_zero (by simpa using hown.1)
  subst hc0
  rcases hx.2.2 with ⟨p,cap,rfl,rfl,_,_⟩|⟨g,off,cap,rfl,_,_,_,_,hcell⟩
  ·have hn0:news=[]:=List.eq_nil_of_length_eq_zero (by simpa using hx.1)
   subst hn0
   refine ⟨.slice none 0 0,w,?_,Own.nil w e i.size,Only.refl _ w,.inl rfl,zTbe,zTbe,zTbe⟩
   cases p<;>simp [Builtin.append_,run_underlying ht,sizeOf,typeInfo,hi,Builtin.lenOf,Builtin.firstCells,loadCells,loadCellsFrom]
  ·by_cases hm:m=0
   ·subst hm
    have hn0:news=[]:=List.eq_nil_of_length_eq_zero (by simpa using hx.1)
    subst hn0
    refine ⟨.slice none 0 0,w,?_,Own.nil w e i.size,Only.refl _ w,.inl rfl,zTbe,zTbe,zTbe⟩
    simp [Builtin.append_,run_underlying ht,sizeOf,typeInfo,hi,Builtin.lenOf,Builtin.firstCells,loadCells,loadCellsFrom]
   ·have hr:=run_append_nil (P:=P) w t ty e i z ht hi hz ⟨g,off,none⟩ m cap news hx.1 (news_of_sl hcell) zTbe zTbe (by have:=hb;simp only [Nat.zero_add] at this;omega)
    obtain ⟨g1,g2⟩:=grown 0 zTbe (fun k=>(Value.slice none 0 0).ownBlock=some k)
    simp only [Nat.zero_add,List.nil_append,Array.empty_append] at g1 g2 ⊢
    refine ⟨_,_,hr,g1,g2,.inr rfl,zPXO,zPXO,zfJ3⟩
 ·have hxr:(Builtin.firstCells i.size m x).run P w=.ok news.toArray w∧(Builtin.lenOf x).run P w=.ok m w:=by
   rcases hx.2.2 with ⟨p,cap,rfl,rfl,_,_⟩|⟨g',off',cap',rfl,_,_,_,_,hcell⟩
   ·have hn0:news=[]:=List.eq_nil_of_length_eq_zero (by simpa using hx.1)
    exact zKra
   ·exact ⟨run_firstCells_some w i.size m ⟨g',off',none⟩ m cap' news hx.1 (news_of_sl hcell),zt4P⟩
  by_cases hroom:n+m≤cap
  ·have hfit:(off+n*i.size)+0+news.length≤cur.toArray.size:=by
    exact zID9
   have hst:=run_storeCells_at P g (off+n*i.size) e news 0 cur.toArray w hbk hfit hx.2.1
   simp only [Nat.add_zero] at hst
   have hr:(Builtin.append_ #[t,t] ty #[.slice (some ⟨g,off,none⟩) n cap,x]).run P w=.ok (.slice (some ⟨g,off,none⟩) (n+m) cap) (w.setRow g (cur.take (off+n*i.size)++news++cur.drop (off+n*i.size+news.length)).toArray):=by
    exact zmNO
   refine ⟨_,_,hr,⟨hlen,hones,.inr ⟨g,off,cap,_,rfl,hbk.setRow _,hroom,hcm,?_,?_⟩⟩,(Only.refl _ w).setRow (fun _=>zfJ3) _,.inl rfl,zfoE,zPXO,zfJ3⟩
   ·have:(n+m)*i.size≤cap*i.size:=Nat.mul_le_mul_right _ hroom
    rw [Nat.add_mul] at this
    simp only [List.length_append,List.length_take,List.length_drop,hx.1]
    omega
   ·have h3:(n+m)*i.size≤cap*i.size:=Nat.mul_le_mul_right _ hroom
    rw [Nat.add_mul] at h3
    have h4:=splice_read cur news cs off (n*i.size) zTbe htake hown.1
    rw [Nat.add_mul,←hx.1]
    exact h4
  ·rcases hx.2.2 with ⟨p,cap,rfl,rfl,_,_⟩|⟨g',off',cap',rfl,_,_,_,_,hcell⟩
   ·omega
   ·have holds:∀ j u,cs[j]?=some u→w.cell? ((⟨g,off,none⟩:Addr).add j)=some u:=by
     exact z7p4
    have hr:=run_append_grow (P:=P) w t ty e i z ht hi hz ⟨g,off,none⟩ n cap cs hown.1 holds ⟨g',off',none⟩ m cap' news hx.1 (news_of_sl hcell) zTbe zTbe (growslice_fits zTbe hb)
    obtain ⟨g1,g2⟩:=grown cap zTbe (fun k=>(Value.slice (some ⟨g,off,none⟩) n cap).ownBlock=some k)
    refine ⟨_,_,hr,g1,g2,.inr rfl,zPXO,zPXO,zfJ3⟩
end append
end Go.Afx
namespace Go.Afx
open Go Go.RowKit
section
variable {P : Program} {t e ty : TypeId} {sz bytes : Nat} {z : Value} {w : World}
theorem Blk.congr {b:Nat} {t:TypeId} {cs cs':List Value} (h:Blk w b t cs) (e:cs=cs'):Blk w b t cs':=e▸h
theorem Sl.first {B:Nat→Prop} {x:Value} {m:Nat} {news:List Value} (hx:Sl w B sz x m news) :
 (Builtin.firstCells sz m x).run P w=.ok news.toArray w∧(Builtin.lenOf x).run P w=.ok m w:=by
 rcases hx.2.2 with ⟨p,cap,rfl,rfl,_,_⟩|⟨g',off',cap',rfl,_,_,_,_,hcell⟩
 ·have hn0:news=[]:=List.eq_nil_of_length_eq_zero (by simpa using hx.1)
  exact zKra
 ·exact ⟨run_firstCells_some w sz m ⟨g',off',none⟩ m cap' news hx.1 (news_of_sl hcell),zt4P⟩
theorem run_app_room (he:Elem P t e sz bytes z) {g off n cap:Nat} {cs:List Value} (hown:Own w e sz (.slice (some ⟨g,off,none⟩) n cap) n cs) {B:Nat→Prop} {x:Value} {m:Nat} {news:List Value}
 (hx:Sl w B sz x m news) (hroom:n+m≤cap) :
 ∃ w',(Builtin.append_ #[t,t] ty #[.slice (some ⟨g,off,none⟩) n cap,x]).run P w=.ok (.slice (some ⟨g,off,none⟩) (n+m) cap) w'∧Own w' e sz (.slice (some ⟨g,off,none⟩) (n+m) cap) (n+m) (cs++news) ∧
  Only (fun k=>k=g) w w'∧w'.heap.size=w.heap.size:=by
 obtain ⟨i,hi,hz,hsize,hby⟩:=he.parts
 have ht:=he.sl
 subst hsize
 have hlen:(cs++news).length=(n+m)*i.size:=zV2H
 have hones:Ones (cs++news):=hown.2.1.append hx.2.1
 rcases hown.2.2 with ⟨h0,_⟩|⟨g2,off2,cap2,cur,hv,hbk,hnc,hcm,hcs,htake⟩
 ·cases h0
 cases hv
 have hxr:=hx.first (P:=P)
 have hfit:(off+n*i.size)+0+news.length≤cur.toArray.size:=by
  exact zID9
 have hst:=run_storeCells_at P g (off+n*i.size) e news 0 cur.toArray w hbk hfit hx.2.1
 simp only [Nat.add_zero] at hst
 have hr:(Builtin.append_ #[t,t] ty #[.slice (some ⟨g,off,none⟩) n cap,x]).run P w=.ok (.slice (some ⟨g,off,none⟩) (n+m) cap) (w.setRow g (cur.take (off+n*i.size)++news++cur.drop (off+n*i.size+news.length)).toArray):=by
  exact zmNO
 have h3:(n+m)*i.size≤cap*i.size:=Nat.mul_le_mul_right _ hroom
 rw [Nat.add_mul] at h3
 refine ⟨_,hr,⟨hlen,hones,.inr ⟨g,off,cap,_,rfl,hbk.setRow _,hroom,hcm,?_,?_⟩⟩,Only.setRow (S:=fun k=>k=g) (Only.refl _ w) (fun _=>rfl) _,zfoE⟩
 ·simp only [List.length_append,List.length_take,List.length_drop,hx.1]
  omega
 ·have h4:=splice_read cur news cs off (n*i.size) zTbe htake hown.1
  rw [Nat.add_mul,←hx.1]
  exact h4
theorem ones_zeroCells {z:Array Value} (h:Ones z.toList) (n:Nat):Ones (Builtin.zeroCells z n).toList:=by
 intro u hu
 unfold Builtin.zeroCells at hu
 simp only [Array.toList_map,List.mem_map,Array.toList_range,List.mem_range] at hu
 obtain ⟨j,hj,rfl⟩:=hu
 have hz:0 < z.size:=by rcases Nat.eq_zero_or_pos z.size with h0|h0;·rw [h0] at hj;omega
                        ·exact h0
 have hlt:j % z.size < z.size:=Nat.mod_lt _ hz
 rw [getElem!_pos z _ hlt]
 exact h _ zPXO
theorem Own.store {g off n cap:Nat} {cs:List Value} (h:Own w e sz (.slice (some ⟨g,off,none⟩) n cap) n cs) {j:Nat} (u:Value) (hu:u.oneCell'=true) :
 Own (w.setCell ⟨g,off+j,none⟩ u) e sz (.slice (some ⟨g,off,none⟩) n cap) n (cs.set j u):=by
 refine ⟨by rw [List.length_set];exact h.1,fun x hx=>?_,?_⟩
 ·rcases List.mem_or_eq_of_mem_set hx with h1|rfl
  ·exact h.2.1 x h1
  ·exact hu
 rcases h.2.2 with ⟨h0,_⟩|⟨g',off',cap',cur,hv,hb,h1,h2,h3,h4⟩
 ·cases h0
 ·cases hv
  refine .inr ⟨g,off,cap,cur.set (off+j) u,rfl,hb.set _ _,h1,h2,by rw [List.length_set];exact h3,?_⟩
  rw [←h4,List.drop_set,if_neg zTbe,List.take_set]
  congr 1
  omega
theorem Own.cellAt {g off n cap:Nat} {cs:List Value} (h:Own w e sz (.slice (some ⟨g,off,none⟩) n cap) n cs) {j:Nat} (hj:j < n*sz):w.cell? ⟨g,off+j,none⟩=cs[j]?∧w.frozen? ⟨g,off+j,none⟩=false:=by
 rcases h.2.2 with ⟨h0,_⟩|⟨g',off',cap',cur,hv,hb,h1,h2,h3,h4⟩
 ·cases h0
 ·cases hv
  exact ⟨by rw [hb.cell,←h4,List.getElem?_take,List.getElem?_drop,if_pos hj],hb.frozen _⟩
theorem run_clear_spare (he:Elem P t e sz bytes z) {g off n cap:Nat} {cs:List Value} (hown:Own w e sz (.slice (some ⟨g,off,none⟩) n cap) n cs) {k o2 c2:Nat} (hk:n+k≤cap) (ho:0 < k→o2=off+n*sz) :
 ∃ w',(Builtin.clear_ #[t] ty #[.slice (some ⟨g,o2,none⟩) k c2]).run P w=.ok (.tuple #[]) w'∧Own w' e sz (.slice (some ⟨g,off,none⟩) n cap) n cs∧Only (fun k=>k=g) w w'∧w'.heap.size=w.heap.size:=by
 obtain ⟨i,hi,hz,hsize,hby⟩:=he.parts
 have ht:=he.sl
 subst hsize
 rcases Nat.eq_zero_or_pos k with rfl|hkp
 ·refine ⟨w,?_,hown,Only.refl _ w,rfl⟩
  simp [Builtin.clear_,run_underlying ht]
 have:=ho hkp
 subst this
 rcases hown.2.2 with ⟨h0,_⟩|⟨g2,off2,cap2,cur,hv,hbk,hnc,hcm,hcs,htake⟩
 ·cases h0
 cases hv
 have h3:(n+k)*i.size≤cap*i.size:=Nat.mul_le_mul_right _ hk
 rw [Nat.add_mul] at h3
 have hzl:(Builtin.zeroCells z.cells k).toList.length=k*i.size:=by rw [Array.length_toList,size_zeroCells,he.zs]
 have hst:=run_storeCells_at P g (off+n*i.size) e (Builtin.zeroCells z.cells k).toList 0 cur.toArray w hbk (by simp only [List.size_toArray,hzl];omega) (ones_zeroCells he.one k)
 simp only [Nat.add_zero] at hst
 refine ⟨_,?_,⟨hown.1,hown.2.1,.inr ⟨g,off,cap,_,rfl,hbk.setRow (cur.take (off+n*i.size)++(Builtin.zeroCells z.cells k).toList++cur.drop (off+n*i.size+(Builtin.zeroCells z.cells k).toList.length)),hnc,hcm,?_,?_⟩⟩,Only.setRow (S:=fun k=>k=g) (Only.refl _ w) (fun _=>rfl) _,zfoE⟩
 ·obtain ⟨k',rfl⟩:∃ k',k=k'+1:=⟨k - 1,zTbe⟩
  simp only [Builtin.clear_,List.getElem?_toArray,List.getElem?_cons_zero,Sem.run_bind,run_underlying ht,Result.andThen_ok]
  simp [zeroValue,typeInfo,hi,hz,hst]
 ·simp only [List.length_append,List.length_take,List.length_drop,hzl]
  omega
 ·have h4:=splice_read cur (Builtin.zeroCells z.cells k).toList cs off (n*i.size) zTbe htake hown.1
  have h5:=congrArg (List.take (n*i.size)) h4
  rw [List.take_take,Nat.min_eq_left zTbe,←hown.1,List.take_left,hown.1] at h5
  exact h5
section steps
variable {ops : Array Oper} {rest : List Oper} {o : Oper} {a : Act} {Q : Exit → Act → World → Prop}
theorem wpList_app (hgd:o.guard=none) (s x:Operand) (ho:o.op=.call { callee:=.builtin .append,args:=#[s,x],argTypes:=#[t,t] })
 (he:Elem P t e sz bytes z) {v:Value} {n:Nat} {cs:List Value} (hs:a.eval s=v) (hown:Own w e sz v n cs) {B:Nat→Prop} {xv:Value} {m:Nat} {news:List Value} (hx:a.eval x=xv) (hsl:Sl w B sz xv m news)
 (h63:n+m≤maxLen) (hb:(n+m)*bytes≤140737488355328)
 (h:∀ v' w',Own w' e sz v' (n+m) (cs++news)→Only (fun k=>v.ownBlock=some k) w w'→(v'.ownBlock=v.ownBlock∨v'.ownBlock=some w.heap.size)→w'.heap.size≤w.heap.size+1 →
  (0 < n+m→v'.ownBlock≠none)→wpList P ops Q rest (a.put o.dst v') w'):wpList P ops Q (o::rest) a w:=by
 obtain ⟨v',w',hr,h1,h2,h3,h4,_,h6⟩:=run_app (P:=P) (ty:=o.type) he hown hsl h63 hb
 refine wpList_plain hgd fun K hK=>?_
 unfold Oper.wp execOp
 simp only [ho,resolve,invoke,builtin,Sem.run_bind,Sem.run_pure,Result.andThen_ok,List.map_toArray,List.map_cons,List.map_nil,hs,hx,hr]
 exact hK _ _ (h v' w' h1 h2 h3 h4 h6)
theorem wpList_app_room (hgd:o.guard=none) (s x:Operand) (ho:o.op=.call { callee:=.builtin .append,args:=#[s,x],argTypes:=#[t,t] })
 (he:Elem P t e sz bytes z) {g off n cap:Nat} {cs:List Value} (hs:a.eval s=.slice (some ⟨g,off,none⟩) n cap) (hown:Own w e sz (.slice (some ⟨g,off,none⟩) n cap) n cs) {B:Nat→Prop} {xv:Value} {m:Nat} {news:List Value}
 (hx:a.eval x=xv) (hsl:Sl w B sz xv m news) (hroom:n+m≤cap)
 (h:∀ w',Own w' e sz (.slice (some ⟨g,off,none⟩) (n+m) cap) (n+m) (cs++news)→Only (fun k=>k=g) w w'→w'.heap.size=w.heap.size →
  wpList P ops Q rest (a.put o.dst (.slice (some ⟨g,off,none⟩) (n+m) cap)) w'):wpList P ops Q (o::rest) a w:=by
 obtain ⟨w',hr,h1,h2,h3⟩:=run_app_room (P:=P) (ty:=o.type) he hown hsl hroom
 refine wpList_plain hgd fun K hK=>?_
 unfold Oper.wp execOp
 simp only [ho,resolve,invoke,builtin,Sem.run_bind,Sem.run_pure,Result.andThen_ok,List.map_toArray,List.map_cons,List.map_nil,hs,hx,hr]
 exact hK _ _ (h w' h1 h2 h3)
theorem wpList_clear_spare (hgd:o.guard=none) (x:Operand) (ho:o.op=.call { callee:=.builtin .clear,args:=#[x],argTypes:=#[t] })
 (he:Elem P t e sz bytes z) {g off n cap:Nat} {cs:List Value} (hown:Own w e sz (.slice (some ⟨g,off,none⟩) n cap) n cs) {k o2 c2:Nat} (hx:a.eval x=.slice (some ⟨g,o2,none⟩) k c2) (hk:n+k≤cap) (ho2:0 < k→o2=off+n*sz)
 (h:∀ w',Own w' e sz (.slice (some ⟨g,off,none⟩) n cap) n cs→Only (fun k=>k=g) w w'→w'.heap.size=w.heap.size→wpList P ops Q rest (a.put o.dst (.tuple #[])) w'):wpList P ops Q (o::rest) a w:=by
 obtain ⟨w',hr,h1,h2,h3⟩:=run_clear_spare (P:=P) (ty:=o.type) he hown (c2:=c2) hk ho2
 refine wpList_plain hgd fun K hK=>?_
 unfold Oper.wp execOp
 simp only [ho,resolve,invoke,builtin,Sem.run_bind,Sem.run_pure,Result.andThen_ok,List.map_toArray,List.map_cons,List.map_nil,hx,hr]
 exact hK _ _ (h w' h1 h2 h3)
end steps
end
end Go.Afx
namespace Go.Afx
open Go
abbrev Key:=List UInt8
theorem klt_irrefl:∀ a:Key,Op.bytesLess a a=false
 | []=>rfl
 | c::a=>by simp [Op.bytesLess,klt_irrefl a]
theorem klt_trans:∀ a b c:Key,Op.bytesLess a b=true→Op.bytesLess b c=true→Op.bytesLess a c=true
 | _,[],_,h,_=>zJP2
 | _,_::_,[],_,h=>zJP2
 | [],y::b,z::c,_,_=>rfl
 | x::a,y::b,z::c,h,k=>by
  simp only [Op.bytesLess,Bool.or_eq_true,Bool.and_eq_true,decide_eq_true_eq,beq_iff_eq] at h k ⊢
  rcases h with h|⟨rfl,h⟩
  ·rcases k with k|⟨rfl,k⟩
   ·exact .inl (UInt8.lt_trans h k)
   ·exact .inl h
  ·rcases k with k|⟨rfl,k⟩
   ·exact .inl k
   ·exact .inr ⟨rfl,klt_trans a b c h k⟩
theorem klt_asymm (a b:Key) (h:Op.bytesLess a b=true):Op.bytesLess b a=false:=by
 cases hb:Op.bytesLess b a with
 | false=>rfl
 | true=>have:=klt_trans a b a h hb;rw [klt_irrefl] at this;cases this
theorem klt_total:∀ a b:Key,Op.bytesLess a b=false→a≠b→Op.bytesLess b a=true
 | [],[],_,h=>absurd rfl h
 | [],c::b,h,_=>zJP2
 | c::a,[],_,_=>rfl
 | c::a,d::b,h,k=>by
  simp only [Op.bytesLess,Bool.or_eq_false_iff,decide_eq_false_iff_not] at h
  simp only [Op.bytesLess,Bool.or_eq_true,Bool.and_eq_true,decide_eq_true_eq,beq_iff_eq]
  by_cases h1:c=d
  ·subst h1
   have h2:Op.bytesLess a b=false:=by simpa using h.2
   exact .inr ⟨rfl,klt_total a b h2 (fun e=>k (by rw [e]))⟩
  ·rcases UInt8.lt_or_lt_of_ne h1 with h3|h3
   ·exact absurd h3 h.1
   ·exact .inl h3
theorem klt_ne {a b:Key} (h:Op.bytesLess a b=true):a≠b:=fun e=>by rw [e,klt_irrefl] at h;cases h
structure En where
 key:Key
 val:Value
inductive T where
 | node (es:List En) (ts:List T)
def T.es:T→List En|.node es _=>es
def T.ts:T→List T|.node _ ts=>ts
def pos (k:Key):List En→Nat
 | []=>0
 | e::r=>if Op.bytesLess e.key k then pos k r+1 else 0
def has (k:Key) (l:List En):Bool:=match l[pos k l]? with
 | some e=>e.key == k
 | none=>false
def look (k:Key) (l:List En):Option Value:=(l.find? fun e=>e.key == k).map En.val
def ins (k:Key) (v:Value):List En→List En
 | []=>[⟨k,v⟩]
 | e::r=>if Op.bytesLess e.key k then e::ins k v r else if e.key=k then ⟨k,v⟩::r else ⟨k,v⟩::e::r
def del (k:Key):List En→List En
 | []=>[]
 | e::r=>if Op.bytesLess e.key k then e::del k r else if e.key=k then r else e::r
def Rise (l:List En):Prop:=l.Pairwise fun a b=>Op.bytesLess a.key b.key=true
theorem Rise.left {a b:List En} (h:Rise (a++b)):Rise a:=(List.pairwise_append.1 h).1
theorem Rise.right {a b:List En} (h:Rise (a++b)):Rise b:=(List.pairwise_append.1 h).2.1
theorem Rise.cross {a b:List En} (h:Rise (a++b)):∀ x∈a,∀ y∈b,Op.bytesLess x.key y.key=true:=(List.pairwise_append.1 h).2.2
theorem pos_le (k:Key):∀ l:List En,pos k l≤l.length
 | []=>Nat.le_refl _
 | e::r=>by unfold pos;have:=pos_le k r;split<;>simp;omega
theorem pos_split (k:Key):∀ (l:List En),Rise l→∃ a b,l=a++b∧a.length=pos k l∧(∀ x∈a,Op.bytesLess x.key k=true) ∧
 ((has k l=true∧∃ v r,b=⟨k,v⟩::r∧∀ x∈r,Op.bytesLess k x.key=true)∨(has k l=false∧∀ x∈b,Op.bytesLess k x.key=true))
 | [],_=>⟨[],[],rfl,rfl,zPXO,.inr ⟨rfl,zPXO⟩⟩
 | e::r,h=>by
  have h2:Rise r:=(List.pairwise_cons.1 h).2
  have h1:=(List.pairwise_cons.1 h).1
  by_cases hl:Op.bytesLess e.key k=true
  ·obtain ⟨a,b,h3,h4,h5,h6⟩:=pos_split k r h2
   have hp:pos k (e::r)=pos k r+1:=by rw [pos,if_pos hl]
   have hh:has k (e::r)=has k r:=by unfold has;rw [hp];simp
   refine ⟨e::a,b,by rw [h3];rfl,by rw [hp,←h4];rfl,?_,by rw [hh];exact h6⟩
   intro x hx
   rcases List.mem_cons.1 hx with rfl|hx
   ·exact hl
   ·exact h5 x hx
  ·have hp:pos k (e::r)=0:=by rw [pos,if_neg hl]
   rw [Bool.not_eq_true] at hl
   refine ⟨[],e::r,rfl,by rw [hp];rfl,zPXO,?_⟩
   by_cases hk:e.key=k
   ·refine .inl ⟨by unfold has;rw [hp];simp [hk],e.val,r,by rw [←hk],fun x hx=>by rw [←hk];exact h1 x hx⟩
   ·have hk2:=klt_total _ _ hl hk
    refine .inr ⟨by unfold has;rw [hp];simp [hk],fun x hx=>?_⟩
    rcases List.mem_cons.1 hx with rfl|hx
    ·exact hk2
    ·exact klt_trans _ _ _ hk2 (h1 x hx)
theorem ins_left {k:Key} {v:Value}:∀ {a b:List En},(∀ x∈a,Op.bytesLess x.key k=true)→ins k v (a++b)=a++ins k v b
 | [],_,_=>rfl
 | e::a,b,h=>by rw [List.cons_append,ins,if_pos (h e zPXO),ins_left (fun x hx=>h x zXFw)];rfl
theorem del_left {k:Key}:∀ {a b:List En},(∀ x∈a,Op.bytesLess x.key k=true)→del k (a++b)=a++del k b
 | [],_,_=>rfl
 | e::a,b,h=>by rw [List.cons_append,del,if_pos (h e zPXO),del_left (fun x hx=>h x zXFw)];rfl
theorem ins_above {k:Key} {v:Value} {b:List En} (h:∀ x∈b,Op.bytesLess k x.key=true):ins k v b=⟨k,v⟩::b:=by
 cases b with
 | nil=>rfl
 | cons e r =>
  have h1:=h e zPXO
  rw [ins,if_neg (by rw [klt_asymm _ _ h1];simp),if_neg (fun e'=>klt_ne h1 e'.symm)]
theorem del_above {k:Key} {b:List En} (h:∀ x∈b,Op.bytesLess k x.key=true):del k b=b:=by
 cases b with
 | nil=>rfl
 | cons e r =>
  have h1:=h e zPXO
  rw [del,if_neg (by rw [klt_asymm _ _ h1];simp),if_neg (fun e'=>klt_ne h1 e'.symm)]
theorem ins_right {k:Key} {v:Value}:∀ {a b:List En},(∀ x∈b,Op.bytesLess k x.key=true)→ins k v (a++b)=ins k v a++b
 | [],b,h=>by rw [List.nil_append,ins_above h];rfl
 | e::a,b,h=>by
  rw [List.cons_append,ins,ins]
  split
  ·rw [ins_right h];rfl
  ·split<;>rfl
theorem del_right {k:Key}:∀ {a b:List En},(∀ x∈b,Op.bytesLess k x.key=true)→del k (a++b)=del k a++b
 | [],b,h=>by rw [List.nil_append,del_above h];rfl
 | e::a,b,h=>by
  rw [List.cons_append,del,del]
  split
  ·rw [del_right h];rfl
  ·split<;>rfl
theorem ins_hit {k:Key} {v u:Value} {r:List En}:ins k v (⟨k,u⟩::r)=⟨k,v⟩::r:=by rw [ins,if_neg (by rw [klt_irrefl];simp),if_pos rfl]
theorem del_hit {k:Key} {u:Value} {r:List En}:del k (⟨k,u⟩::r)=r:=by rw [del,if_neg (by rw [klt_irrefl];simp),if_pos rfl]
theorem mem_ins {k:Key} {v:Value}:∀ {l:List En} {x:En},x∈ins k v l→x=⟨k,v⟩∨x∈l
 | [],x,h=>.inl (by simpa [ins] using h)
 | e::r,x,h=>by
  rw [ins] at h
  split at h
  ·rcases List.mem_cons.1 h with rfl|h
   ·exact .inr zPXO
   ·rcases mem_ins h with h|h
    ·exact .inl h
    ·exact .inr (by simp [h])
  ·split at h
   ·rcases List.mem_cons.1 h with h|h
    ·exact .inl h
    ·exact .inr (by simp [h])
   ·rcases List.mem_cons.1 h with h|h
    ·exact .inl h
    ·exact .inr h
theorem mem_del {k:Key}:∀ {l:List En} {x:En},x∈del k l→x∈l
 | [],x,h=>by simp [del] at h
 | e::r,x,h=>by
  rw [del] at h
  split at h
  ·rcases List.mem_cons.1 h with rfl|h
   ·simp
   ·simp [mem_del h]
  ·split at h
   ·simp [h]
   ·exact h
theorem Rise.ins {k:Key} {v:Value}:∀ {l:List En},Rise l→Rise (ins k v l)
 | [],_=>by simp [Afx.ins,Rise]
 | e::r,h=>by
  obtain ⟨h1,h2⟩:=List.pairwise_cons.1 h
  rw [Afx.ins]
  split
  ·rename_i hl
   refine List.pairwise_cons.2 ⟨fun x hx=>?_,Rise.ins h2⟩
   rcases mem_ins hx with rfl|hx
   ·exact hl
   ·exact h1 x hx
  ·rename_i hl
   rw [Bool.not_eq_true] at hl
   split
   ·rename_i hk
    exact List.pairwise_cons.2 ⟨fun x hx=>by rw [←hk];exact h1 x hx,h2⟩
   ·rename_i hk
    have h3:=klt_total _ _ hl hk
    refine List.pairwise_cons.2 ⟨fun x hx=>?_,h⟩
    rcases List.mem_cons.1 hx with rfl|hx
    ·exact h3
    ·exact klt_trans _ _ _ h3 (h1 x hx)
theorem Rise.del {k:Key}:∀ {l:List En},Rise l→Rise (del k l)
 | [],h=>h
 | e::r,h=>by
  obtain ⟨h1,h2⟩:=List.pairwise_cons.1 h
  rw [Afx.del]
  split
  ·exact List.pairwise_cons.2 ⟨fun x hx=>h1 x (mem_del hx),Rise.del h2⟩
  ·split
   ·exact h2
   ·exact h
theorem ins_length (k:Key) (v:Value):∀ l:List En,(ins k v l).length≤l.length+1
 | []=>by simp [ins]
 | e::r=>by
  have:=ins_length k v r
  rw [ins];split
  ·simp;omega
  ·split<;>simp
theorem del_length (k:Key):∀ l:List En,(del k l).length≤l.length
 | []=>by simp [del]
 | e::r=>by
  have:=del_length k r
  rw [del];split
  ·simp;omega
  ·split<;>simp
mutual
def T.flat:T→List En
 | .node es ts=>T.flatL es ts
def T.flatL:List En→List T→List En
 | es,[]=>es
 | [],t::ts=>t.flat++T.flatL [] ts
 | e::es,t::ts=>t.flat++e::T.flatL es ts
end
theorem flat_node (es:List En) (ts:List T):(T.node es ts).flat=T.flatL es ts:=by rw [T.flat]
theorem flatL_nil (es:List En):T.flatL es []=es:=by cases es<;>rfl
theorem flatL_end (t:T) (ts:List T):T.flatL [] (t::ts)=t.flat++T.flatL [] ts:=by rw [T.flatL]
theorem flatL_cons (e:En) (es:List En) (t:T) (ts:List T):T.flatL (e::es) (t::ts)=t.flat++e::T.flatL es ts:=by rw [T.flatL]
def wl:List En→List T→List En
 | e::es,t::ts=>t.flat++e::wl es ts
 | _,_=>[]
def tl:List En→List T→List En
 | [],ts=>T.flatL [] ts
 | e::es,ts=>e::T.flatL es ts
theorem flatL_split:∀ (a:List En) (l:List T) (b:List En) (r:List T),a.length=l.length→T.flatL (a++b) (l++r)=wl a l++T.flatL b r
 | [],[],_,_,_=>rfl
 | e::a,t::l,b,r,h=>by rw [List.cons_append,List.cons_append,flatL_cons,flatL_split a l b r zynw,wl,List.append_assoc];rfl
theorem flatL_tl (b:List En) (c:T) (r:List T):T.flatL b (c::r)=c.flat++tl b r:=by
 cases b with
 | nil=>rw [flatL_end,tl]
 | cons e b=>rw [flatL_cons,tl]
theorem flat_at (a b:List En) (l:List T) (c:T) (r:List T) (h:a.length=l.length):(T.node (a++b) (l++c::r)).flat=wl a l++(c.flat++tl b r):=by
 rw [flat_node,flatL_split a l b (c::r) h,flatL_tl]
theorem tl_nil:tl [] []=[]:=by rw [tl,flatL_nil]
theorem tl_cons (e:En) (b:List En) (c:T) (r:List T):tl (e::b) (c::r)=e::(c.flat++tl b r):=by rw [tl,flatL_tl]
theorem wl_snoc:∀ (a:List En) (l:List T) (e:En) (t:T),a.length=l.length→wl (a++[e]) (l++[t])=wl a l++(t.flat++[e])
 | [],[],e,t,_=>by simp [wl]
 | x::a,y::l,e,t,h=>by
  rw [List.cons_append,List.cons_append,wl,wl_snoc a l e t zynw,wl]
  simp
theorem wl_mem:∀ {a:List En} {l:List T} {e:En},a.length=l.length→e∈a→e∈wl a l
 | x::a,y::l,e,h,he=>by
  rw [wl]
  rcases List.mem_cons.1 he with rfl|he
  ·simp
  ·have:=wl_mem (l:=l) zynw he
   simp [this]
theorem wl_less {k:Key}:∀ {a:List En} {l:List T},a.length=l.length→Rise (wl a l)→(∀ x∈a,Op.bytesLess x.key k=true)→∀ x∈wl a l,Op.bytesLess x.key k=true
 | [],[],_,_,_,x,hx=>by simp [wl] at hx
 | e::a,t::l,h,hr,ha,x,hx=>by
  rw [wl] at hr hx
  have he:=ha e zPXO
  have h2:Rise (wl a l):=by
   have:=hr.right
   exact (List.pairwise_cons.1 this).2
  rcases List.mem_append.1 hx with hx|hx
  ·exact klt_trans _ _ _ (hr.cross x hx e zPXO) he
  ·rcases List.mem_cons.1 hx with rfl|hx
   ·exact he
   ·exact wl_less zynw h2 (fun x hx=>ha x zXFw) x hx
theorem tl_more {k:Key} {b:List En} {r:List T} (h:b.length=r.length) (hr:Rise (tl b r)) (hb:∀ x∈b,Op.bytesLess k x.key=true):∀ x∈tl b r,Op.bytesLess k x.key=true:=by
 cases b with
 | nil =>
  cases r with
  | nil=>intro x hx;simp [tl,flatL_nil] at hx
  | cons t r=>simp at h
 | cons e b =>
  intro x hx
  rw [tl] at hx hr
  have he:=hb e zPXO
  rcases List.mem_cons.1 hx with rfl|hx
  ·exact he
  ·exact klt_trans _ _ _ he ((List.pairwise_cons.1 hr).1 x hx)
def Fat:Nat→Nat→T→Prop
 | m,0,.node es ts=>m≤es.length∧ts=[]
 | m,d+1,.node es ts=>m≤es.length∧ts.length=es.length+1∧∀ c∈ts,Fat 2 d c
theorem Fat.weaken {m m' d:Nat} {t:T} (h:Fat m d t) (hm:m'≤m):Fat m' d t:=by
 cases t with
 | node es ts=>cases d with
  | zero=>exact ⟨by have:=h.1;omega,h.2⟩
  | succ d=>exact ⟨by have:=h.1;omega,h.2⟩
def insAt {α:Type} (i:Nat) (x:α) (l:List α):List α:=l.take i++x::l.drop i
def leftT (c:T):T:=.node (c.es.take 2) (c.ts.take 3)
def rightT (c:T):T:=.node (c.es.drop 3) (c.ts.drop 3)
def midT (c:T):En:=c.es.getD 2 ⟨[],undef⟩
def splitT (i:Nat) (es:List En) (ts:List T) (c:T):T:=.node (insAt i (midT c) es) (ts.take i++leftT c::rightT c::ts.drop (i+1))
def putT (k:Key) (v:Value):Nat→T→T
 | 0,.node es ts=>if has k es then .node (es.set (pos k es) ⟨k,v⟩) ts else .node (insAt (pos k es) ⟨k,v⟩ es) ts
 | d+1,.node es ts=>if has k es then .node (es.set (pos k es) ⟨k,v⟩) ts else
  match ts[pos k es]? with
  | some c=>if 5 < (putT k v d c).es.length then splitT (pos k es) es ts (putT k v d c) else .node es (ts.set (pos k es) (putT k v d c))
  | none=>.node es ts
def putTop (k:Key) (v:Value) (d:Nat) (t:T):Nat × T :=
 if 5 < (putT k v d t).es.length then (d+1,splitT 0 [] [putT k v d t] (putT k v d t)) else (d,putT k v d t)
theorem split_flat (c:T) (h:5 < c.es.length) (hd:c.ts=[]∨c.ts.length=c.es.length+1):(leftT c).flat++midT c::(rightT c).flat=c.flat:=by
 cases c with
 | node es ts =>
  simp only [leftT,rightT,midT,T.es,T.ts] at *
  match es,h with
  | e0::e1::e2::e3::e4::e5::es,_ =>
   rcases hd with rfl|hd
   ·simp [flat_node,flatL_nil]
   ·match ts,hd with
    | t0::t1::t2::t3::ts,_=>simp [flat_node,flatL_cons,flatL_end,flatL_nil]
    | [],hd=>simp at hd
    | [t0],hd=>simp at hd
    | [t0,t1],hd=>simp at hd
    | [t0,t1,t2],hd=>simp at hd
theorem Fat.shape {m d:Nat} {c:T} (h:Fat m d c):(d=0∧c.ts=[])∨(0 < d∧c.ts.length=c.es.length+1):=by
 cases c with
 | node es ts=>cases d with
  | zero=>exact .inl ⟨rfl,h.2⟩
  | succ d=>exact .inr ⟨zTbe,h.2.1⟩
theorem Fat.left {m d:Nat} {c:T} (h:Fat m d c) (hl:5 < c.es.length):Fat 2 d (leftT c)∧Fat 2 d (rightT c):=by
 cases c with
 | node es ts =>
  simp only [leftT,rightT,T.es,T.ts] at *
  cases d with
  | zero =>
   obtain ⟨_,rfl⟩:=h
   exact ⟨⟨zr2F,zPXO⟩,⟨zr2F,zPXO⟩⟩
  | succ d =>
   obtain ⟨_,h2,h3⟩:=h
   exact ⟨⟨zr2F,zr2F,fun x hx=>h3 x (List.mem_of_mem_take hx)⟩,⟨zr2F,zr2F,fun x hx=>h3 x (List.mem_of_mem_drop hx)⟩⟩
theorem take_len {α:Type} {a b:List α} {n:Nat} (h:a.length=n):(a++b).take n=a:=by subst h;simp
theorem drop_len {α:Type} {a b:List α} {n:Nat} (h:a.length=n):(a++b).drop n=b:=by subst h;simp
theorem insAt_len {α:Type} {a b:List α} {n:Nat} {x:α} (h:a.length=n):insAt n x (a++b)=a++x::b:=by unfold insAt;rw [take_len h,drop_len h]
theorem set_len {α:Type} {a b:List α} {n:Nat} {x y:α} (h:a.length=n):(a++x::b).set n y=a++y::b:=by subst h;simp
theorem get_len {α:Type} {a b:List α} {n:Nat} {x:α} (h:a.length=n):(a++x::b)[n]?=some x:=by subst h;simp
theorem drop_len1 {α:Type} {a b:List α} {n:Nat} {x:α} (h:a.length=n):(a++x::b).drop (n+1)=b:=by
 subst h
 have:a++x::b=(a++[x])++b:=zPXO
 rw [this,drop_len zPXO]
theorem part_at {α:Type} (l:List α) (i:Nat) (h:i < l.length):∃ a x b,l=a++x::b∧a.length=i∧l[i]?=some x :=
 ⟨l.take i,l[i],l.drop (i+1),by rw [←List.drop_eq_getElem_cons h,List.take_append_drop],z2Pg,List.getElem?_eq_getElem h⟩
structure Parted (k:Key) (es:List En) (ts:List T) (a b:List En) (l:List T) (c:T) (r:List T):Prop where
 es_:es=a++b
 ts_:ts=l++c::r
 al:a.length=pos k es
 ll:l.length=pos k es
 br:b.length=r.length
theorem parted {k:Key} {es a b:List En} {ts:List T} (he:es=a++b) (ha:a.length=pos k es) (hl:ts.length=es.length+1):∃ l c r,Parted k es ts a b l c r∧ts[pos k es]?=some c:=by
 obtain ⟨l,c,r,h1,h2,h3⟩:=part_at ts (pos k es) zIJi
 refine ⟨l,c,r,⟨he,h1,ha,h2,?_⟩,h3⟩
 have:=congrArg List.length h1
 have:=congrArg List.length he
 simp at *
 omega
theorem put_fat (k:Key) (v:Value):∀ (d m:Nat) (t:T),Rise t.flat→Fat m d t→m≤2→(Fat m d (putT k v d t)∧(putT k v d t).flat=ins k v t.flat):=by
 intro d
 induction d with
 | zero =>
  intro m t hr hf hm
  cases t with
  | node es ts =>
   obtain ⟨h1,rfl⟩:=hf
   rw [flat_node,flatL_nil] at hr
   obtain ⟨a,b,he,ha,hlt,hc⟩:=pos_split k es hr
   rw [putT]
   rcases hc with ⟨hh,u,r,rfl,hgt⟩|⟨hh,hgt⟩
   ·rw [if_pos hh]
    refine ⟨⟨zVKw,rfl⟩,?_⟩
    rw [flat_node,flat_node,flatL_nil,flatL_nil,he,←he,←ha,he,set_len rfl,ins_left hlt,ins_hit]
   ·rw [if_neg (by rw [hh];simp)]
    refine ⟨⟨?_,rfl⟩,?_⟩
    ·rw [←ha,he,insAt_len rfl];rw [he] at h1;simp at h1 ⊢;omega
    ·rw [flat_node,flat_node,flatL_nil,flatL_nil,←ha,he,insAt_len rfl,ins_left hlt,ins_above hgt]
 | succ d ih =>
  intro m t hr hf hm
  cases t with
  | node es ts =>
   obtain ⟨h1,h2,h3⟩:=hf
   have hres:Rise es:=by
    have h5:=hr
    rw [flat_node] at h5
    have:∀ (es:List En) (ts:List T),es.length≤ts.length→List.Sublist es (T.flatL es ts):=by
     intro es
     induction es with
     | nil=>intro ts _;exact List.nil_sublist _
     | cons e es ih =>
      intro ts h
      cases ts with
      | nil=>simp at h
      | cons t ts =>
       rw [flatL_cons]
       exact List.Sublist.trans (List.Sublist.cons_cons e (ih ts zynw)) (List.sublist_append_right _ _)
    exact List.Pairwise.sublist (this es ts zTbe) h5
   obtain ⟨a,b,he,ha,hlt,hc⟩:=pos_split k es hres
   obtain ⟨l,c,r,hp,hg⟩:=parted he ha h2
   obtain ⟨_,rfl,hal,hll,hbr⟩:=hp
   have hlen:a.length=l.length:=zTbe
   have hfl:(T.node es (l++c::r)).flat=wl a l++(c.flat++tl b r):=by rw [he];exact flat_at a b l c r hlen
   rw [hfl] at hr
   rw [putT]
   rcases hc with ⟨hh,u,r',rfl,hgt⟩|⟨hh,hgt⟩
   ·rw [if_pos hh]
    refine ⟨⟨zVKw,zT4F,h3⟩,?_⟩
    have hw:=wl_less hlen hr.left hlt
    cases r with
    | nil=>simp at hbr
    | cons t r =>
     rw [hfl,tl_cons] at *
     have hc2:∀ x∈c.flat,Op.bytesLess x.key k=true:=fun x hx=>hr.right.cross x hx ⟨k,u⟩ zPXO
     have hset:es.set (pos k es) ⟨k,v⟩=a++⟨k,v⟩::r':=by rw [←ha,he,set_len rfl]
     rw [hset,flat_at a _ l c (t::r) hlen,tl_cons,ins_left hw,ins_left hc2,ins_hit]
   ·rw [if_neg (by rw [hh];simp),hg]
    have hcm:c∈l++c::r:=zPXO
    obtain ⟨hf',hfl'⟩:=ih 2 c hr.right.left (h3 c hcm) (Nat.le_refl _)
    have hw:=wl_less hlen hr.left hlt
    have ht:=tl_more hbr hr.right.right hgt
    have hmain:ins k v (T.node es (l++c::r)).flat=wl a l++((putT k v d c).flat++tl b r):=by
     rw [hfl,ins_left hw,ins_right ht,hfl']
    rw [hmain]
    simp only
    generalize putT k v d c=c' at *
    split
    ·rename_i hbig
     have hs:=hf'.shape
     have hsf:=split_flat c' hbig (by rcases hs with ⟨_,h⟩|⟨_,h⟩<;>simp [h])
     obtain ⟨hl2,hr2⟩:=hf'.left hbig
     unfold splitT
     rw [←hll,List.take_left' rfl,drop_len1 rfl,←hlen,he,insAt_len rfl]
     refine ⟨⟨?_,?_,?_⟩,?_⟩
     ·rw [he] at h1;simp at h1 ⊢;omega
     ·simp;omega
     ·intro x hx
      rcases List.mem_append.1 hx with hx|hx
      ·exact h3 x zXFw
      ·rcases List.mem_cons.1 hx with rfl|hx
       ·exact hl2
       ·rcases List.mem_cons.1 hx with rfl|hx
        ·exact hr2
        ·exact h3 x zXFw
     ·rw [flat_at a _ l _ _ hlen,tl_cons,←hsf]
      simp
    ·rw [←hll,set_len rfl]
     refine ⟨⟨h1,zT4F,?_⟩,?_⟩
     ·intro x hx
      rcases List.mem_append.1 hx with hx|hx
      ·exact h3 x zXFw
      ·rcases List.mem_cons.1 hx with rfl|hx
       ·exact hf'
       ·exact h3 x zXFw
     ·rw [he,flat_at a b l c' r hlen]
end Go.Afx
namespace Go.Afx
open Go
theorem find_none_of {l:List En} {p:En→Bool} (h:∀ x∈l,p x=false):l.find? p=none:=by
 rw [List.find?_eq_none]
 intro x hx
 rw [h x hx];simp
theorem look_append (k:Key) (a b:List En):look k (a++b)=(look k a).or (look k b):=by
 unfold look
 rw [List.find?_append]
 cases a.find? fun e=>e.key == k<;>simp
theorem look_less {k:Key} {a:List En} (h:∀ x∈a,Op.bytesLess x.key k=true):look k a=none:=by
 unfold look
 rw [find_none_of fun x hx=>by rw [beq_eq_false_iff_ne];exact klt_ne (h x hx)];rfl
theorem look_more {k:Key} {a:List En} (h:∀ x∈a,Op.bytesLess k x.key=true):look k a=none:=by
 unfold look
 rw [find_none_of fun x hx=>by rw [beq_eq_false_iff_ne];exact fun e=>klt_ne (h x hx) e.symm];rfl
theorem look_hit (k:Key) (v:Value) (r:List En):look k (⟨k,v⟩::r)=some v:=by unfold look;simp
def abv (k:Key) (wi:Bool) (l:List En):Option En:=l.find? fun e=>Op.bytesLess k e.key || (wi && e.key == k)
def blw (k:Key) (wi:Bool) (l:List En):Option En:=(l.filter fun e=>Op.bytesLess e.key k || (wi && e.key == k)).getLast?
theorem abv_append (k:Key) (wi:Bool) (a b:List En):abv k wi (a++b)=(abv k wi a).or (abv k wi b):=by unfold abv;rw [List.find?_append]
theorem abv_less {k:Key} {wi:Bool} {a:List En} (h:∀ x∈a,Op.bytesLess x.key k=true):abv k wi a=none :=
 find_none_of fun x hx=>by
  have h1:=h x hx
  rw [klt_asymm _ _ h1,beq_eq_false_iff_ne.2 (klt_ne h1)];simp
theorem abv_more {k:Key} {wi:Bool} {a:List En} (h:∀ x∈a,Op.bytesLess k x.key=true):abv k wi a=a.head?:=by
 unfold abv
 cases a with
 | nil=>rfl
 | cons x a=>rw [List.find?_cons_of_pos (by rw [h x zPXO];rfl)];rfl
theorem abv_hit (k:Key) (v:Value) (r:List En):abv k true (⟨k,v⟩::r)=some ⟨k,v⟩:=by
 unfold abv
 rw [List.find?_cons_of_pos zPXO]
theorem abv_past (k:Key) (v:Value) (r:List En):abv k false (⟨k,v⟩::r)=abv k false r:=by
 unfold abv
 rw [List.find?_cons_of_neg (by simp [klt_irrefl])]
theorem getLast_append {α:Type} (a b:List α):(a++b).getLast?=b.getLast?.or a.getLast?:=by
 rw [List.getLast?_append]
theorem blw_append (k:Key) (wi:Bool) (a b:List En):blw k wi (a++b)=(blw k wi b).or (blw k wi a):=by unfold blw;rw [List.filter_append,getLast_append]
theorem blw_less {k:Key} {wi:Bool} {a:List En} (h:∀ x∈a,Op.bytesLess x.key k=true):blw k wi a=a.getLast?:=by
 unfold blw
 rw [List.filter_eq_self.2 fun x hx=>by rw [h x hx];rfl]
theorem blw_more {k:Key} {wi:Bool} {a:List En} (h:∀ x∈a,Op.bytesLess k x.key=true):blw k wi a=none:=by
 unfold blw
 have:(a.filter fun e=>Op.bytesLess e.key k || (wi && e.key == k))=[]:=by
  rw [List.filter_eq_nil_iff]
  intro x hx
  have h1:=h x hx
  rw [klt_asymm _ _ h1,beq_eq_false_iff_ne.2 (fun e=>klt_ne h1 e.symm)];simp
 rw [this];rfl
theorem blw_hit {k:Key} (v:Value) {r:List En} (h:∀ x∈r,Op.bytesLess k x.key=true):blw k true (⟨k,v⟩::r)=some ⟨k,v⟩:=by
 have h2:=blw_append k true [⟨k,v⟩] r
 rw [blw_more h] at h2
 have h3:blw k true [⟨k,v⟩]=some ⟨k,v⟩:=by unfold blw;simp
 rw [h3] at h2
 simpa using h2
theorem blw_past {k:Key} (v:Value) {r:List En} (h:∀ x∈r,Op.bytesLess k x.key=true):blw k false (⟨k,v⟩::r)=none:=by
 have h2:=blw_append k false [⟨k,v⟩] r
 rw [blw_more h] at h2
 have h3:blw k false [⟨k,v⟩]=none:=by unfold blw;simp [klt_irrefl]
 rw [h3] at h2
 simpa using h2
theorem es_sublist:∀ (es:List En) (ts:List T),List.Sublist es (T.flatL es ts)
 | es,[]=>by rw [flatL_nil];exact List.Sublist.refl _
 | [],_::_=>List.nil_sublist _
 | e::es,t::ts=>by
  rw [flatL_cons]
  exact List.Sublist.trans (List.Sublist.cons_cons e (es_sublist es ts)) (List.sublist_append_right _ _)
theorem Rise.es {es:List En} {ts:List T} (h:Rise (T.node es ts).flat):Rise es:=by
 rw [flat_node] at h
 exact List.Pairwise.sublist (es_sublist es ts) h
structure Split (k:Key) (es:List En) (ts:List T) (a b:List En) (l:List T) (c:T) (r:List T):Prop where
 es_:es=a++b
 ts_:ts=l++c::r
 al:a.length=pos k es
 ll:l.length=pos k es
 br:b.length=r.length
 fl:(T.node es ts).flat=wl a l++(c.flat++tl b r)
 wlt:∀ x∈wl a l,Op.bytesLess x.key k=true
 alt:∀ x∈a,Op.bytesLess x.key k=true
 hit:(has k es=true∧(∀ x∈c.flat,Op.bytesLess x.key k=true)∧∃ v b' c' r',b=⟨k,v⟩::b'∧r=c'::r'∧tl b r=⟨k,v⟩::(c'.flat++tl b' r')∧∀ x∈c'.flat++tl b' r',Op.bytesLess k x.key=true) ∨
  (has k es=false∧∀ x∈tl b r,Op.bytesLess k x.key=true)
theorem split_page {k:Key} {es:List En} {ts:List T} (hr:Rise (T.node es ts).flat) (hl:ts.length=es.length+1):∃ a b l c r,Split k es ts a b l c r∧ts[pos k es]?=some c:=by
 obtain ⟨a,b,he,ha,hlt,hc⟩:=pos_split k es hr.es
 obtain ⟨l,c,r,hp,hg⟩:=parted he ha hl
 obtain ⟨_,hts,hal,hll,hbr⟩:=hp
 have hlen:a.length=l.length:=zTbe
 have hfl:(T.node es ts).flat=wl a l++(c.flat++tl b r):=by rw [he,hts];exact flat_at a b l c r hlen
 rw [hfl] at hr
 refine ⟨a,b,l,c,r,⟨he,hts,hal,hll,hbr,hfl,wl_less hlen hr.left hlt,hlt,?_⟩,hg⟩
 rcases hc with ⟨hh,v,b',rfl,hgt⟩|⟨hh,hgt⟩
 ·refine .inl ⟨hh,?_,v,b',?_⟩
  ·intro x hx
   have:=hr.right
   exact this.cross x hx ⟨k,v⟩ (by rw [tl];simp)
  ·cases r with
   | nil=>simp at hbr
   | cons c' r' =>
    refine ⟨c',r',rfl,rfl,tl_cons _ _ _ _,fun x hx=>?_⟩
    have h2:=hr.right.right
    rw [tl_cons] at h2
    exact (List.pairwise_cons.1 h2).1 x hx
 ·exact .inr ⟨hh,tl_more hbr hr.right.right hgt⟩
structure Leaf (k:Key) (es a b:List En):Prop where
 es_:es=a++b
 al:a.length=pos k es
 alt:∀ x∈a,Op.bytesLess x.key k=true
 hit:(has k es=true∧∃ v b',b=⟨k,v⟩::b'∧∀ x∈b',Op.bytesLess k x.key=true)∨(has k es=false∧∀ x∈b,Op.bytesLess k x.key=true)
theorem leaf_page {k:Key} {es:List En} (hr:Rise (T.node es []).flat):∃ a b,Leaf k es a b:=by
 obtain ⟨a,b,he,ha,hlt,hc⟩:=pos_split k es hr.es
 refine ⟨a,b,he,ha,hlt,?_⟩
 rcases hc with ⟨hh,v,r,hb,hgt⟩|⟨hh,hgt⟩
 ·exact .inl ⟨hh,v,r,hb,hgt⟩
 ·exact .inr ⟨hh,hgt⟩
theorem flat_leaf (es:List En):(T.node es []).flat=es:=by rw [flat_node,flatL_nil]
theorem Split.look {k:Key} {es:List En} {ts:List T} {a b:List En} {l:List T} {c:T} {r:List T} (h:Split k es ts a b l c r):(has k es=true→∃ e,es[pos k es]?=some e∧e.key=k∧look k (T.node es ts).flat=some e.val)∧(has k es=false→look k (T.node es ts).flat=look k c.flat):=by
 rw [h.fl,look_append,look_less h.wlt,look_append]
 refine ⟨fun hh=>?_,fun hh=>?_⟩
 ·rcases h.hit with ⟨_,hcl,v,b',c',r',hb,hr,htl,_⟩|⟨h2,_⟩
  ·refine ⟨⟨k,v⟩,by rw [←h.al,h.es_,hb];simp,rfl,?_⟩
   rw [look_less hcl,htl,look_hit];rfl
  ·rw [hh] at h2;cases h2
 ·rcases h.hit with ⟨h2,_⟩|⟨_,hm⟩
  ·rw [hh] at h2;cases h2
  ·rw [look_more hm];simp
theorem Leaf.look {k:Key} {es a b:List En} (h:Leaf k es a b):(has k es=true→∃ e,es[pos k es]?=some e∧e.key=k∧look k es=some e.val)∧(has k es=false→look k es=none):=by
 have h1:Afx.look k es=(Afx.look k a).or (Afx.look k b):=by rw [h.es_,look_append]
 rw [h1,look_less h.alt]
 refine ⟨fun hh=>?_,fun hh=>?_⟩
 ·rcases h.hit with ⟨_,v,b',hb,_⟩|⟨h2,_⟩
  ·exact ⟨⟨k,v⟩,by rw [←h.al,h.es_,hb];simp,rfl,by rw [hb,look_hit];rfl⟩
  ·rw [hh] at h2;cases h2
 ·rcases h.hit with ⟨h2,_⟩|⟨_,hm⟩
  ·rw [hh] at h2;cases h2
  ·rw [look_more hm];rfl
theorem Split.abv {k:Key} {wi:Bool} {es:List En} {ts:List T} {a b:List En} {l:List T} {c:T} {r:List T} (h:Split k es ts a b l c r) :
 (has k es=true→wi=true→∃ e,es[pos k es]?=some e∧abv k wi (T.node es ts).flat=some e) ∧
 (has k es=true→wi=false→∃ c',ts[pos k es+1]?=some c'∧abv k wi (T.node es ts).flat=(abv k wi c'.flat).or es[pos k es+1]?) ∧
 (has k es=false→abv k wi (T.node es ts).flat=(abv k wi c.flat).or es[pos k es]?):=by
 rw [h.fl,abv_append,abv_less h.wlt,abv_append]
 have hes:es=a++b:=h.es_
 refine ⟨fun hh hw=>?_,fun hh hw=>?_,fun hh=>?_⟩
 ·rcases h.hit with ⟨_,hcl,v,b',c',r',hb,hr,htl,hm⟩|⟨h2,_⟩
  ·subst hw
   refine ⟨⟨k,v⟩,zLzs,?_⟩
   rw [abv_less hcl,htl,abv_hit];rfl
  ·rw [hh] at h2;cases h2
 ·rcases h.hit with ⟨_,hcl,v,b',c',r',hb,hr,htl,hm⟩|⟨h2,_⟩
  ·subst hw
   refine ⟨c',by rw [←h.ll,h.ts_,hr];simp,?_⟩
   rw [abv_less hcl,htl,abv_past,abv_append]
   have h3:Afx.abv k false (tl b' r')=es[pos k es+1]?:=by
    rw [abv_more (fun x hx=>hm x zXFw),←h.al,hes,hb]
    cases b' with
    | nil =>
     have:r'=[]:=by
      have h5:=h.br
      rw [hb,hr] at h5
      simp only [List.length_cons,List.length_nil] at h5
      exact List.eq_nil_of_length_eq_zero zTbe
     rw [this,tl_nil];simp
    | cons e b'=>rw [tl];simp
   rw [h3];simp
  ·rw [hh] at h2;cases h2
 ·rcases h.hit with ⟨h2,_⟩|⟨_,hm⟩
  ·rw [hh] at h2;cases h2
  ·have h3:Afx.abv k wi (tl b r)=es[pos k es]?:=by
    rw [abv_more hm,←h.al,hes]
    cases b with
    | nil =>
     have:r=[]:=List.eq_nil_of_length_eq_zero (by have h5:=h.br;simpa using h5.symm)
     rw [this,tl_nil];simp
    | cons e b=>rw [tl];simp
   rw [h3];simp
theorem Leaf.abv {k:Key} {wi:Bool} {es a b:List En} (h:Leaf k es a b) :
 (has k es=true→wi=true→∃ e,es[pos k es]?=some e∧abv k wi es=some e)∧(has k es=true→wi=false→abv k wi es=es[pos k es+1]?)∧(has k es=false→abv k wi es=es[pos k es]?):=by
 have h1:Afx.abv k wi es=(Afx.abv k wi a).or (Afx.abv k wi b):=by rw [h.es_,abv_append]
 rw [h1,abv_less h.alt]
 have hes:es=a++b:=h.es_
 refine ⟨fun hh hw=>?_,fun hh hw=>?_,fun hh=>?_⟩
 ·rcases h.hit with ⟨_,v,b',hb,hm⟩|⟨h2,_⟩
  ·subst hw
   exact ⟨⟨k,v⟩,zLzs,by rw [hb,abv_hit];rfl⟩
  ·rw [hh] at h2;cases h2
 ·rcases h.hit with ⟨_,v,b',hb,hm⟩|⟨h2,_⟩
  ·subst hw
   rw [hb,abv_past,abv_more hm,←h.al,hes,hb]
   cases b'<;>simp
  ·rw [hh] at h2;cases h2
 ·rcases h.hit with ⟨h2,_⟩|⟨_,hm⟩
  ·rw [hh] at h2;cases h2
  ·rw [abv_more hm,←h.al,hes]
   cases b<;>simp
theorem wl_last:∀ {a:List En} {l:List T},a.length=l.length→(wl a l).getLast?=a.getLast?
 | [],[],_=>rfl
 | [e],[t],_=>by
  have h1:wl [e] [t]=t.flat++[e]:=by simp [wl]
  rw [h1];simp
 | e::e2::a,t::t2::l,h=>by
  have ih:=wl_last (a:=e2::a) (l:=t2::l) zynw
  rw [wl,getLast_append,List.getLast?_cons,ih]
  have h2:(e2::a).getLast?=some ((e2::a).getLast zPXO):=List.getLast?_eq_some_getLast zPXO
  rw [List.getLast?_cons_cons,h2]
  rfl
theorem Split.blw {k:Key} {wi:Bool} {es:List En} {ts:List T} {a b:List En} {l:List T} {c:T} {r:List T} (h:Split k es ts a b l c r) :
 (has k es=true→wi=true→∃ e,es[pos k es]?=some e∧blw k wi (T.node es ts).flat=some e) ∧
 ((has k es=true→wi=false)→blw k wi (T.node es ts).flat=(blw k wi c.flat).or a.getLast?):=by
 rw [h.fl,blw_append,blw_append,blw_less h.wlt,wl_last (by have:=h.al;have:=h.ll;omega)]
 have hes:es=a++b:=h.es_
 refine ⟨fun hh hw=>?_,fun hh=>?_⟩
 ·rcases h.hit with ⟨_,hcl,v,b',c',r',hb,hr,htl,hm⟩|⟨h2,_⟩
  ·subst hw
   refine ⟨⟨k,v⟩,zLzs,?_⟩
   rw [htl,blw_hit v hm];rfl
  ·rw [hh] at h2;cases h2
 ·rcases h.hit with ⟨h2,hcl,v,b',c',r',hb,hr,htl,hm⟩|⟨_,hm⟩
  ·obtain rfl:=hh h2
   rw [htl,blw_past v hm];simp
  ·rw [blw_more hm];simp
theorem Leaf.blw {k:Key} {wi:Bool} {es a b:List En} (h:Leaf k es a b) :
 (has k es=true→wi=true→∃ e,es[pos k es]?=some e∧blw k wi es=some e)∧((has k es=true→wi=false)→blw k wi es=a.getLast?):=by
 have h1:Afx.blw k wi es=(Afx.blw k wi b).or (Afx.blw k wi a):=by rw [h.es_,blw_append]
 rw [h1,blw_less h.alt]
 have hes:es=a++b:=h.es_
 refine ⟨fun hh hw=>?_,fun hh=>?_⟩
 ·rcases h.hit with ⟨_,v,b',hb,hm⟩|⟨h2,_⟩
  ·subst hw
   exact ⟨⟨k,v⟩,zLzs,by rw [hb,blw_hit v hm];rfl⟩
  ·rw [hh] at h2;cases h2
 ·rcases h.hit with ⟨h2,v,b',hb,hm⟩|⟨_,hm⟩
  ·obtain rfl:=hh h2
   rw [hb,blw_past v hm];rfl
  ·rw [blw_more hm];rfl
theorem last_page (es:List En) (ts:List T) (c:T) (h:es.length=ts.length):(T.node es (ts++[c])).flat.getLast?=c.flat.getLast?.or es.getLast?:=by
 have h1:=flat_at es [] ts c [] h
 rw [List.append_nil] at h1
 rw [h1,tl_nil,List.append_nil,getLast_append,wl_last h]
end Go.Afx
namespace Go.Afx
open Go
theorem flatL_join:∀ (ae:List En) (at_:List T) (x:En) (ce:List En) (ct:List T),at_.length=ae.length+1→T.flatL (ae++x::ce) (at_++ct)=T.flatL ae at_++x::T.flatL ce ct
 | [],[t],x,ce,ct,_=>by
  rw [List.nil_append,List.cons_append,List.nil_append,flatL_cons,flatL_end,flatL_nil,List.append_nil]
 | [],[],_,_,_,h=>zhtf
 | [],_::_::_,_,_,_,h=>zhtf
 | e::ae,[],_,_,_,h=>zhtf
 | e::ae,t::at_,x,ce,ct,h=>by
  rw [List.cons_append,List.cons_append,flatL_cons,flatL_join ae at_ x ce ct zynw,flatL_cons]
  simp
theorem flatL_snoc (ae:List En) (at_:List T) (y:En) (t:T) (h:at_.length=ae.length+1):T.flatL (ae++[y]) (at_++[t])=T.flatL ae at_++y::t.flat:=by
 rw [flatL_join ae at_ y [] [t] h,flatL_end,flatL_nil,List.append_nil]
theorem flat_two (ea eb:List En) (x:En) (l:List T) (a c:T) (r:List T) (h:ea.length=l.length):(T.node (ea++x::eb) (l++a::c::r)).flat=wl ea l++(a.flat++x::(c.flat++tl eb r)):=by
 rw [flat_at ea (x::eb) l a (c::r) h,tl_cons]
theorem flat_same {ea eb:List En} {x y:En} {l r:List T} {a c a' c':T} (h:ea.length=l.length) (hs:a'.flat++y::c'.flat=a.flat++x::c.flat) :
 (T.node (ea++y::eb) (l++a'::c'::r)).flat=(T.node (ea++x::eb) (l++a::c::r)).flat:=by
 rw [flat_two ea eb y l a' c' r h,flat_two ea eb x l a c r h]
 have h1:a'.flat++y::(c'.flat++tl eb r)=(a'.flat++y::c'.flat)++tl eb r:=zPXO
 have h2:a.flat++x::(c.flat++tl eb r)=(a.flat++x::c.flat)++tl eb r:=zPXO
 rw [h1,h2,hs]
theorem flat_one_of {ea eb:List En} {x:En} {l r:List T} {a c t:T} (h:ea.length=l.length) (hs:t.flat=a.flat++x::c.flat) :
 (T.node (ea++eb) (l++t::r)).flat=(T.node (ea++x::eb) (l++a::c::r)).flat:=by
 rw [flat_at ea eb l t r h,flat_two ea eb x l a c r h,hs]
 simp
theorem right_flat {d m:Nat} {ae ce:List En} {y x:En} {at_ ct:List T} (ha:Fat m d (T.node (ae++[y]) at_)) (hc:Fat 0 d (T.node ce ct)) :
 (at_=[]∧ct=[]∧d=0∧(T.node ae []).flat++y::(T.node (x::ce) []).flat=(T.node (ae++[y]) at_).flat++x::(T.node ce ct).flat) ∨
 ∃ at' t,at_=at'++[t]∧0 < d∧at'.length=ae.length+1∧ct.length=ce.length+1∧(T.node ae at').flat++y::(T.node (x::ce) (t::ct)).flat=(T.node (ae++[y]) at_).flat++x::(T.node ce ct).flat:=by
 cases d with
 | zero =>
  exact zjcy
 | succ d =>
  obtain ⟨_,h2,_⟩:=ha
  obtain ⟨_,h3,_⟩:=hc
  have hne:at_≠[]:=by intro e;subst e;simp at h2
  refine .inr ⟨at_.dropLast,at_.getLast hne,(List.dropLast_concat_getLast hne).symm,zTbe,by simp at h2 ⊢;omega,h3,?_⟩
  have e1:at_=at_.dropLast++[at_.getLast hne]:=(List.dropLast_concat_getLast hne).symm
  have h4:(T.node (ae++[y]) at_).flat=T.flatL ae at_.dropLast++y::(at_.getLast hne).flat:=by
   rw [flat_node]
   conv=>lhs;rw [e1]
   exact flatL_snoc ae _ y _ (by simp at h2 ⊢;omega)
  rw [h4,flat_node,flat_node,flat_node,flatL_cons]
  simp
theorem left_flat {d m:Nat} {ae ce:List En} {y x:En} {at_ ct:List T} (ha:Fat 0 d (T.node ae at_)) (hc:Fat m d (T.node (y::ce) ct)) :
 (at_=[]∧ct=[]∧d=0∧(T.node (ae++[x]) []).flat++y::(T.node ce []).flat=(T.node ae at_).flat++x::(T.node (y::ce) ct).flat) ∨
 ∃ t ct',ct=t::ct'∧0 < d∧at_.length=ae.length+1∧ct'.length=ce.length+1∧(T.node (ae++[x]) (at_++[t])).flat++y::(T.node ce ct').flat=(T.node ae at_).flat++x::(T.node (y::ce) ct).flat:=by
 cases d with
 | zero =>
  exact zjcy
 | succ d =>
  obtain ⟨_,h2,_⟩:=ha
  obtain ⟨_,h3,_⟩:=hc
  cases ct with
  | nil=>simp at h3
  | cons t ct' =>
   refine .inr ⟨t,ct',rfl,zTbe,h2,by simpa using h3,?_⟩
   rw [flat_node,flatL_snoc ae at_ x t h2,flat_node,flat_node,flat_node,flatL_cons]
   simp
theorem join_flat {d:Nat} {ae ce:List En} {x:En} {at_ ct:List T} (ha:Fat 0 d (T.node ae at_)) (hc:Fat 0 d (T.node ce ct)) :
 (T.node (ae++x::ce) (at_++ct)).flat=(T.node ae at_).flat++x::(T.node ce ct).flat:=by
 cases d with
 | zero =>
  obtain ⟨_,rfl⟩:=ha
  obtain ⟨_,rfl⟩:=hc
  simp [flat_leaf]
 | succ d =>
  obtain ⟨_,h2,_⟩:=ha
  rw [flat_node,flat_node,flat_node,flatL_join ae at_ x ce ct h2]
theorem join_fat {d:Nat} {ae ce:List En} {x:En} {at_ ct:List T} {m n:Nat} (ha:Fat m d (T.node ae at_)) (hc:Fat n d (T.node ce ct)):Fat (m+n+1) d (T.node (ae++x::ce) (at_++ct)):=by
 cases d with
 | zero =>
  obtain ⟨h1,rfl⟩:=ha
  obtain ⟨h2,rfl⟩:=hc
  exact ⟨zr2F,rfl⟩
 | succ d =>
  obtain ⟨h1,h2,h3⟩:=ha
  obtain ⟨g1,g2,g3⟩:=hc
  exact ⟨zr2F,zr2F,fun t ht=>by
   rcases List.mem_append.1 ht with ht|ht
   ·exact h3 t ht
   ·exact g3 t ht⟩
end Go.Afx
namespace Go.Afx
open Go
theorem Split.del {k:Key} {es:List En} {ts:List T} {a b:List En} {l:List T} {c:T} {r:List T} (h:Split k es ts a b l c r) :
 (has k es=true→∃ v rest,(T.node es ts).flat=wl a l++(c.flat++⟨k,v⟩::rest)∧del k (T.node es ts).flat=wl a l++(c.flat++rest)∧tl b r=⟨k,v⟩::rest) ∧
 (has k es=false→del k (T.node es ts).flat=wl a l++(del k c.flat++tl b r)):=by
 rw [h.fl]
 refine ⟨fun hh=>?_,fun hh=>?_⟩
 ·rcases h.hit with ⟨_,hcl,v,b',c',r',hb,hr,htl,hm⟩|⟨h2,_⟩
  ·refine ⟨v,c'.flat++tl b' r',by rw [htl],?_,htl⟩
   rw [del_left h.wlt,htl,del_left hcl,del_hit]
  ·rw [hh] at h2;cases h2
 ·rcases h.hit with ⟨h2,_⟩|⟨_,hm⟩
  ·rw [hh] at h2;cases h2
  ·rw [del_left h.wlt,del_right hm]
theorem Leaf.del {k:Key} {es a b:List En} (h:Leaf k es a b):(has k es=true→∃ v b',b=⟨k,v⟩::b'∧del k es=a++b')∧(has k es=false→del k es=es):=by
 have hd:Afx.del k es=a++Afx.del k b:=by rw [h.es_,del_left h.alt]
 refine ⟨fun hh=>?_,fun hh=>?_⟩
 ·rcases h.hit with ⟨_,v,b',hb,hm⟩|⟨h2,_⟩
  ·exact ⟨v,b',hb,by rw [hd,hb,del_hit]⟩
  ·rw [hh] at h2;cases h2
 ·rcases h.hit with ⟨h2,_⟩|⟨_,hm⟩
  ·rw [hh] at h2;cases h2
  ·rw [hd,del_above hm,←h.es_]
def keysFrom (fr toz:Key) (l:List En):List Key:=((l.filter fun e=>!Op.bytesLess e.key fr && (toz.isEmpty || Op.bytesLess e.key toz)).map En.key)
theorem keysFrom_less {fr toz:Key} {a b:List En} (h:∀ x∈a,Op.bytesLess x.key fr=true):keysFrom fr toz (a++b)=keysFrom fr toz b:=by
 unfold keysFrom
 rw [List.filter_append,List.filter_eq_nil_iff.2 fun x hx=>by rw [h x hx];simp]
 rfl
def keysUp (toz:Key):List En→List Key
 | []=>[]
 | e::r=>if toz.isEmpty || Op.bytesLess e.key toz then e.key::keysUp toz r else []
theorem keysFrom_up {fr toz:Key}:∀ {l:List En},Rise l→(∀ x∈l,Op.bytesLess x.key fr=false)→keysFrom fr toz l=keysUp toz l
 | [],_,_=>rfl
 | e::r,hr,h=>by
  obtain ⟨h1,h2⟩:=List.pairwise_cons.1 hr
  have ih:=keysFrom_up (fr:=fr) (toz:=toz) h2 (fun x hx=>h x zXFw)
  have he:=h e zPXO
  rw [keysUp]
  by_cases hb:(toz.isEmpty || Op.bytesLess e.key toz)=true
  ·rw [if_pos hb,←ih]
   unfold keysFrom
   rw [List.filter_cons_of_pos (by rw [he,hb];rfl)];rfl
  ·rw [if_neg hb]
   unfold keysFrom
   have hall:∀ x∈e::r,(!Op.bytesLess x.key fr && (toz.isEmpty || Op.bytesLess x.key toz))=false:=by
    intro x hx
    rw [Bool.not_eq_true,Bool.or_eq_false_iff] at hb
    have:Op.bytesLess x.key toz=false:=by
     rcases List.mem_cons.1 hx with rfl|hx
     ·exact hb.2
     ·cases hq:Op.bytesLess x.key toz with
      | false=>rfl
      | true=>have:=klt_trans _ _ _ (h1 x hx) hq;rw [hb.2] at this;cases this
    rw [hb.1,this];simp
   rw [List.filter_eq_nil_iff.2 fun x hx=>by rw [hall x hx];simp];rfl
theorem part_below (k:Key):∀ {l:List En},Rise l→∃ a b,l=a++b∧(∀ x∈a,Op.bytesLess x.key k=true)∧(∀ x∈b,Op.bytesLess x.key k=false)∧abv k true l=b.head?
 | l,hr=>by
  obtain ⟨a,b,he,_,hlt,hc⟩:=pos_split k l hr
  refine ⟨a,b,he,hlt,?_,?_⟩
  ·intro x hx
   rcases hc with ⟨_,v,r,rfl,hgt⟩|⟨_,hgt⟩
   ·rcases List.mem_cons.1 hx with rfl|hx
    ·exact klt_irrefl _
    ·exact klt_asymm _ _ (hgt x hx)
   ·exact klt_asymm _ _ (hgt x hx)
  ·rw [he,abv_append,abv_less hlt]
   rcases hc with ⟨_,v,r,rfl,hgt⟩|⟨_,hgt⟩
   ·rw [abv_hit];rfl
   ·rw [abv_more hgt];rfl
theorem abv_next {a:List En} {e:En} {r:List En} (hr:Rise (a++e::r)):abv e.key false (a++e::r)=r.head?:=by
 have h1:∀ x∈a,Op.bytesLess x.key e.key=true:=fun x hx=>hr.cross x hx e zPXO
 have h2:∀ x∈r,Op.bytesLess e.key x.key=true:=fun x hx=>(List.pairwise_cons.1 hr.right).1 x hx
 obtain ⟨k,v⟩:=e
 rw [abv_append,abv_less h1,abv_past,abv_more h2];rfl
end Go.Afx
namespace Go.Afx
open Go
theorem pos_lt {k:Key} {l:List En} (hr:Rise l) {h:Nat} (hh:h < l.length):Op.bytesLess (l[h]).key k=decide (h < pos k l):=by
 obtain ⟨a,b,he,ha,hlt,hc⟩:=pos_split k l hr
 by_cases hp:h < pos k l
 ·rw [decide_eq_true hp]
  have h1:l[h]=a[h]'(zTbe):=by subst he;exact List.getElem_append_left zTbe
  rw [h1]
  exact hlt _ (List.getElem_mem _)
 ·rw [decide_eq_false hp]
  have hb:h - a.length < b.length:=by subst he;simp at hh;omega
  have h1:l[h]=b[h - a.length]:=by subst he;exact List.getElem_append_right zTbe
  rw [h1]
  have hm:b[h - a.length]∈b:=List.getElem_mem hb
  rcases hc with ⟨_,v,r,rfl,hgt⟩|⟨_,hgt⟩
  ·rcases List.mem_cons.1 hm with h2|h2
   ·rw [h2];exact klt_irrefl k
   ·exact klt_asymm _ _ (hgt _ h2)
  ·exact klt_asymm _ _ (hgt _ hm)
theorem has_at {k:Key} {l:List En}:has k l=true↔∃ h:pos k l < l.length,(l[pos k l]).key=k:=by
 unfold has
 cases hq:l[pos k l]? with
 | none=>rw [List.getElem?_eq_none_iff] at hq;simp;omega
 | some e =>
  obtain ⟨h1,h2⟩:=List.getElem?_eq_some_iff.1 hq
  simp only [beq_iff_eq]
  constructor
  ·intro h;exact ⟨h1,by rw [h2];exact h⟩
  ·rintro ⟨_,h⟩;rw [h2] at h;exact h
def cmpK (a b:Key):Int:=if Op.bytesLess a b then -1 else if Op.bytesLess b a then 1 else 0
theorem cmpK_neg (a b:Key):decide (cmpK a b < 0)=Op.bytesLess a b:=by
 unfold cmpK
 cases h:Op.bytesLess a b
 ·cases k:Op.bytesLess b a<;>rfl
 ·rfl
theorem cmpK_zero (a b:Key):(cmpK a b == 0)=(a == b):=by
 unfold cmpK
 cases h:Op.bytesLess a b
 ·cases k:Op.bytesLess b a
  ·have:a=b:=by
    rcases Classical.em (a=b) with e|e
    ·exact e
    ·have:=klt_total a b h e;rw [k] at this;cases this
   subst this;simp
  ·have:a≠b:=fun e=>by subst e;rw [klt_irrefl] at k;cases k
   rw [beq_eq_false_iff_ne.2 this];rfl
 ·have:a≠b:=klt_ne h
  rw [beq_eq_false_iff_ne.2 this];rfl
theorem set_pos {k:Key} {v:Value} {l:List En} (hr:Rise l) (h:has k l=true):l.set (pos k l) ⟨k,v⟩=ins k v l:=by
 obtain ⟨a,b,he,ha,hlt,hc⟩:=pos_split k l hr
 rcases hc with ⟨_,u,r,rfl,_⟩|⟨h2,_⟩
 ·have h1:ins k v l=a++⟨k,v⟩::r:=by rw [he,ins_left hlt,ins_hit]
  rw [h1,←ha]
  conv=>lhs;rw [he]
  exact set_len rfl
 ·rw [h] at h2;cases h2
theorem ins_pos {k:Key} {v:Value} {l:List En} (hr:Rise l) (h:has k l=false):insAt (pos k l) ⟨k,v⟩ l=ins k v l:=by
 obtain ⟨a,b,he,ha,hlt,hc⟩:=pos_split k l hr
 rcases hc with ⟨h2,_⟩|⟨_,hgt⟩
 ·rw [h] at h2;cases h2
 ·have h1:ins k v l=a++⟨k,v⟩::b:=by rw [he,ins_left hlt,ins_above hgt]
  rw [h1,←ha]
  conv=>lhs;rw [he]
  exact insAt_len rfl
end Go.Afx
namespace Go.Afx
open Go Go.RowKit
structure Res where
 foot:List Nat
 holds:World→Prop
 keep:∀ w w',holds w→(∀ k∈foot,w'.heap[k]?=w.heap[k]?)→holds w'
 lt:∀ w,holds w→∀ k∈foot,k < w.heap.size
def Res.blk (b:Nat) (t:TypeId) (cs:List Value):Res where
 foot:=[b]
 holds w:=Blk w b t cs
 keep w w' h hk:=by unfold Blk at *;rw [hk b zPXO];exact h
 lt w h k hk:=by rw [List.mem_singleton] at hk;subst hk;exact h.lt
def Res.own (e:TypeId) (sz:Nat) (v:Value) (n:Nat) (cs:List Value):Res where
 foot:=v.ownBlock.toList
 holds w:=Own w e sz v n cs
 keep w w' h hk:=h.keep fun k hq=>hk k (by rw [hq];simp)
 lt w h k hk:=h.lt k zFJU
def feet (rs:List Res):List Nat:=rs.flatMap Res.foot
theorem feet_cons (r:Res) (rs:List Res):feet (r::rs)=r.foot++feet rs:=rfl
theorem feet_append (a b:List Res):feet (a++b)=feet a++feet b:=z07k
theorem mem_feet {rs:List Res} {k:Nat}:k∈feet rs↔∃ r∈rs,k∈r.foot:=z07k
structure Sep (w:World) (rs:List Res):Prop where
 all:∀ r∈rs,r.holds w
 nodup:(feet rs).Nodup
theorem Sep.lt {w:World} {rs:List Res} (h:Sep w rs):∀ k∈feet rs,k < w.heap.size:=fun k hk=>by
 obtain ⟨r,hr,hk⟩:=mem_feet.1 hk
 exact r.lt w (h.all r hr) k hk
theorem Sep.perm {w:World} {rs rs':List Res} (h:Sep w rs) (hp:rs.Perm rs'):Sep w rs' :=
 ⟨fun r hr=>h.all r (hp.mem_iff.2 hr),(List.Perm.nodup_iff (hp.flatMap_right _)).1 h.nodup⟩
theorem Sep.left {w:World} {a b:List Res} (h:Sep w (a++b)):Sep w a :=
 ⟨fun r hr=>h.all r (by simp [hr]),by have:=h.nodup;rw [feet_append] at this;exact (List.nodup_append.1 this).1⟩
theorem Sep.right {w:World} {a b:List Res} (h:Sep w (a++b)):Sep w b :=
 ⟨fun r hr=>h.all r (by simp [hr]),by have:=h.nodup;rw [feet_append] at this;exact (List.nodup_append.1 this).2.1⟩
theorem Sep.apart {w:World} {a b:List Res} (h:Sep w (a++b)):∀ k∈feet a,k∉feet b:=fun k hk hk2=>by
 have:=h.nodup
 rw [feet_append] at this
 exact (List.nodup_append.1 this).2.2 k hk k hk2 rfl
theorem Sep.keep {w w':World} {rs:List Res} (h:Sep w rs) (hk:∀ k∈feet rs,w'.heap[k]?=w.heap[k]?):Sep w' rs :=
 ⟨fun r hr=>r.keep w w' (h.all r hr) fun k hk2=>hk k (mem_feet.2 ⟨r,hr,hk2⟩),h.nodup⟩
theorem Sep.below {w w':World} {rs:List Res} (h:Sep w rs) (hb:Below w.heap.size w w'):Sep w' rs:=h.keep fun k hk=>hb.block k (h.lt k hk)
structure Trk (w0:World) (F:List Nat) (w:World) (rs:List Res):Prop where
 sep:Sep w rs
 only:Only (fun k=>k∈F) w0 w
 foot:∀ k∈feet rs,k∈F∨w0.heap.size≤k
theorem Trk.start {w:World} {rs:List Res} (h:Sep w rs):Trk w (feet rs) w rs:=⟨h,Only.refl _ _,fun _ hk=>.inl hk⟩
theorem Trk.perm {w0 w:World} {F:List Nat} {rs rs':List Res} (h:Trk w0 F w rs) (hp:rs.Perm rs'):Trk w0 F w rs' :=
 ⟨h.sep.perm hp,h.only,fun k hk=>h.foot k ((hp.flatMap_right _).mem_iff.2 hk)⟩
theorem Trk.right {w0 w:World} {F:List Nat} {a b:List Res} (h:Trk w0 F w (a++b)):Trk w0 F w b :=
 ⟨h.sep.right,h.only,fun k hk=>h.foot k z2dt⟩
theorem Trk.drop {w0 w:World} {F:List Nat} {r:Res} {b:List Res} (h:Trk w0 F w (r::b)):Trk w0 F w b:=Trk.right (a:=[r]) h
theorem Trk.call {w0 w w':World} {F:List Nat} {rs rs' rest:List Res} (h:Trk w0 F w (rs++rest)) (hc:Trk w (feet rs) w' rs'):Trk w0 F w' (rs'++rest):=by
 have hrest:Sep w' rest:=h.sep.right.keep fun k hk=>hc.only.block k (h.sep.right.lt k hk) (fun hk2=>h.sep.apart k hk2 hk)
 refine ⟨⟨fun r hr=>?_,?_⟩,h.only.trans hc.only (fun i hi hs=>?_),fun k hk=>?_⟩
 ·rcases List.mem_append.1 hr with hr|hr
  ·exact hc.sep.all r hr
  ·exact hrest.all r hr
 ·rw [feet_append,List.nodup_append]
  refine ⟨hc.sep.nodup,hrest.nodup,fun k hk j hj e=>?_⟩
  subst e
  rcases hc.foot k hk with hk2|hk2
  ·exact h.sep.apart k hk2 hj
  ·have:=h.sep.right.lt k hj;omega
 ·rcases h.foot i (by rw [feet_append];simp [hs]) with h2|h2
  ·exact h2
  ·omega
 ·rw [feet_append] at hk
  rcases List.mem_append.1 hk with hk|hk
  ·rcases hc.foot k hk with hk2|hk2
   ·exact h.foot k (by rw [feet_append];simp [hk2])
   ·exact .inr (Nat.le_trans h.only.size hk2)
  ·exact h.foot k z2dt
theorem Trk.below {w0 w w':World} {F:List Nat} {rs:List Res} (h:Trk w0 F w rs) (hb:Below w.heap.size w w'):Trk w0 F w' rs :=
 ⟨h.sep.below hb,h.only.trans (Only.of_none (S:=fun _=>False) hb) (fun _ _ hf=>hf.elim),h.foot⟩
theorem Trk.drew {w0 w:World} {F:List Nat} {rs:List Res} (h:Trk w0 F w rs):Trk w0 F w.drew rs:=h.below (Below.refl _ _).drew
theorem Trk.one {w0 w w':World} {F:List Nat} {r r':Res} {rest:List Res} (h:Trk w0 F w (r::rest)) (hr:r'.holds w') (hn:r'.foot.Nodup) (hf:∀ k∈r'.foot,k∈r.foot∨w.heap.size≤k)
 (ho:Only (fun k=>k∈r.foot) w w'):Trk w0 F w' (r'::rest):=by
 have e:feet [r]=r.foot:=z07k
 have e':feet [r']=r'.foot:=z07k
 refine Trk.call (rs:=[r]) (rs':=[r']) h ⟨⟨fun x hx=>?_,by rw [e'];exact hn⟩,by rw [e];exact ho,by rw [e,e'];exact hf⟩
 rw [List.mem_singleton] at hx
 subst hx
 exact hr
theorem Trk.new {w0 w w':World} {F:List Nat} {r:Res} {rs:List Res} (h:Trk w0 F w rs) (hr:r.holds w') (hn:r.foot.Nodup) (hf:∀ k∈r.foot,w.heap.size≤k) (hb:Below w.heap.size w w'):Trk w0 F w' (r::rs):=by
 refine Trk.call (rs:=[]) (rs':=[r]) (rest:=rs) h ⟨⟨fun x hx=>?_,by simpa [feet] using hn⟩,Only.of_none hb,fun k hk=>.inr (hf k (by simpa [feet] using hk))⟩
 rw [List.mem_singleton] at hx
 subst hx
 exact hr
theorem Trk.blkSet {w0 w:World} {F:List Nat} {b:Nat} {t:TypeId} {cs:List Value} {rest:List Res} (h:Trk w0 F w (Res.blk b t cs::rest)) (i:Nat) (u:Value):Trk w0 F (w.setCell ⟨b,i,none⟩ u) (Res.blk b t (cs.set i u)::rest) :=
 h.one (Blk.set (h.sep.all (Res.blk b t cs) zPXO) i u) zg6m (fun k hk=>.inl hk)
  (Only.setCell (S:=fun k=>k∈(Res.blk b t cs).foot) (Only.refl _ w) (p:=⟨b,i,none⟩) (fun _=>zg6m) u)
theorem ownBlock_nodup (v:Value):v.ownBlock.toList.Nodup:=by cases v.ownBlock<;>simp
theorem Trk.ownTo {w0 w w':World} {F:List Nat} {e:TypeId} {sz n n':Nat} {v v':Value} {cs cs':List Value} {rest:List Res} (h:Trk w0 F w (Res.own e sz v n cs::rest)) (hr:Own w' e sz v' n' cs')
 (ho:Only (fun k=>v.ownBlock=some k) w w') (hv:∀ k,v'.ownBlock=some k→v.ownBlock=some k∨w.heap.size≤k):Trk w0 F w' (Res.own e sz v' n' cs'::rest) :=
 h.one hr (ownBlock_nodup v') (fun k hk=>by
  have h2:v'.ownBlock=some k:=by simpa [Res.own] using hk
  rcases hv k h2 with h3|h3
  ·exact .inl (by simp [Res.own,h3])
  ·exact .inr h3) (ho.mono fun i _ hi=>by simp [Res.own,hi])
theorem Trk.blk {w0 w:World} {F:List Nat} {b:Nat} {t:TypeId} {cs:List Value} {rs:List Res} (h:Trk w0 F w rs) (hm:Res.blk b t cs∈rs):Blk w b t cs:=h.sep.all _ hm
theorem Trk.own {w0 w:World} {F:List Nat} {e:TypeId} {sz n:Nat} {v:Value} {cs:List Value} {rs:List Res} (h:Trk w0 F w rs) (hm:Res.own e sz v n cs∈rs):Own w e sz v n cs:=h.sep.all _ hm
theorem perm_mid {α:Type} (A L C R:List α):(A++(L++(C++R))).Perm (C++(A++(L++R))):=by
 have h1:(A++(L++(C++R)))=(A++L)++(C++R):=zPXO
 have h2:(C++(A++(L++R)))=C++((A++L)++R):=zPXO
 rw [h1,h2,←List.append_assoc,←List.append_assoc]
 exact List.Perm.append_right _ List.perm_append_comm
end Go.Afx
namespace Go.Afx
open Go Go.RowKit
def kb (k:Key):ByteArray:=⟨k.toArray⟩
def enC (es:List En):List Value:=(es.map fun e=>[.string (kb e.key),e.val]).flatten
theorem enC_append (a b:List En):enC (a++b)=enC a++enC b:=by simp [enC]
theorem enC_length (es:List En):(enC es).length=es.length*2:=by
 unfold enC
 induction es with
 | nil=>rfl
 | cons e es ih=>simp only [List.map_cons,List.flatten_cons,List.length_append,ih,List.length_cons,List.length_nil];omega
inductive P where
 | node (b:Nat) (av:Value) (es:List En) (bv:Value) (ks:List P)
def P.blk:P→Nat|.node b _ _ _ _=>b
def P.ks:P→List P|.node _ _ _ _ ks=>ks
def P.es:P→List En|.node _ _ es _ _=>es
def ptrV (b:Nat):Value:=.pointer (some ⟨b,0,none⟩)
def ptrs (ks:List P):List Value:=ks.map fun k=>ptrV k.blk
mutual
def P.t:P→T
 | .node _ _ es _ ks=>.node es (P.tL ks)
def P.tL:List P→List T
 | []=>[]
 | k::ks=>k.t::P.tL ks
end
theorem P.tL_map:∀ ks:List P,P.tL ks=ks.map P.t
 | []=>rfl
 | k::ks=>by rw [P.tL,P.tL_map ks];rfl
theorem P.t_node (b:Nat) (av:Value) (es:List En) (bv:Value) (ks:List P):(P.node b av es bv ks).t=.node es (ks.map P.t):=by rw [P.t,P.tL_map]
mutual
def P.res (pt et qt:TypeId):P→List Res
 | .node b av es bv ks=>Res.blk b pt [av,bv]::Res.own et 2 av es.length (enC es)::Res.own qt 1 bv ks.length (ptrs ks)::P.resL pt et qt ks
def P.resL (pt et qt:TypeId):List P→List Res
 | []=>[]
 | k::ks=>k.res pt et qt++P.resL pt et qt ks
end
section
variable {pt et qt : TypeId}
theorem P.res_node (b:Nat) (av:Value) (es:List En) (bv:Value) (ks:List P):(P.node b av es bv ks).res pt et qt=Res.blk b pt [av,bv]::Res.own et 2 av es.length (enC es)::Res.own qt 1 bv ks.length (ptrs ks)::P.resL pt et qt ks:=by rw [P.res]
theorem P.resL_append:∀ a b:List P,P.resL pt et qt (a++b)=P.resL pt et qt a++P.resL pt et qt b
 | [],_=>rfl
 | k::a,b=>by rw [List.cons_append,P.resL,P.resL_append a b,P.resL,List.append_assoc]
theorem P.resL_cons (k:P) (ks:List P):P.resL pt et qt (k::ks)=k.res pt et qt++P.resL pt et qt ks:=by rw [P.resL]
theorem P.resL_nil:P.resL pt et qt []=[]:=by rw [P.resL]
end
end Go.Afx
namespace Go.Afx
open Go Go.RowKit
@[go_sem] theorem run_store_gen {P:Program} {w:World} {a:Addr} {v:Value} {m:Mode} (hv:v.oneCell'=true):(store a v m).run P w=stored P w a v m:=run_store P w a v m hv
theorem kb_toList (a:Key):(kb a).toList=a:=by
 rw [ByteArray.toList_eq]
 simp [kb]
theorem klt_gt (a k:Key):(!(Op.bytesLess a k || a == k))=Op.bytesLess k a:=by
 cases h:Op.bytesLess a k
 ·by_cases e:a=k
  ·subst e;rw [klt_irrefl];simp
  ·rw [klt_total a k h e,beq_eq_false_iff_ne.2 e];rfl
 ·rw [klt_asymm a k h];rfl
theorem keq_lt (a k:Key):(a == k)=(!Op.bytesLess a k && !Op.bytesLess k a):=by
 cases h:Op.bytesLess a k
 ·by_cases e:a=k
  ·subst e;simp [klt_irrefl]
  ·rw [klt_total a k h e,beq_eq_false_iff_ne.2 e];rfl
 ·rw [beq_eq_false_iff_ne.2 (klt_ne h)];rfl
theorem enC_at:∀ (l:List En) (k:Nat) (hk:k < l.length),(enC l)[k*2]?=some (.string (kb l[k].key))∧(enC l)[k*2+1]?=some l[k].val
 | [],k,h=>absurd h zPXO
 | e::l,0,_=>⟨rfl,rfl⟩
 | e::l,k+1,h=>by
  have ih:=enC_at l k zynw
  have e1:(k+1)*2=k*2+1+1:=zTbe
  have e2:=z1zW
  rw [e1,e2]
  exact ih
theorem sl_en {w:World} {B:Nat→Prop} {v:Value} {l:List En} (h:Sl w B 2 v l.length (enC l)) {k:Nat} (hk:k < l.length) :
 ∃ g off cap,v=.slice (some ⟨g,off,none⟩) l.length cap∧g < w.heap.size∧w.cell? ⟨g,off+k*2,none⟩=some (.string (kb l[k].key))∧w.cell? ⟨g,off+k*2+1,none⟩=some l[k].val:=by
 obtain ⟨g,off,cap,hv,_,_,hgb,hglt,hc⟩:=h.place zTbe
 have he:=enC_at l k hk
 exact ⟨g,off,cap,hv,hglt,by rw [hc _ (by rw [enC_length];omega),he.1],by rw [Nat.add_assoc,hc _ (by rw [enC_length];omega),he.2]⟩
theorem sl_ptr {w:World} {B:Nat→Prop} {v:Value} {l:List P} (h:Sl w B 1 v l.length (ptrs l)) {k:Nat} (hk:k < l.length) :
 ∃ g off cap,v=.slice (some ⟨g,off,none⟩) l.length cap∧g < w.heap.size∧w.cell? ⟨g,off+k,none⟩=some (ptrV l[k].blk):=by
 obtain ⟨g,off,cap,hv,_,_,hgb,hglt,hc⟩:=h.place zTbe
 exact ⟨g,off,cap,hv,hglt,by rw [hc k (by simpa [ptrs] using hk)];simp [ptrs,hk]⟩
theorem pg_cells {w:World} {b:Nat} {t:TypeId} {av bv:Value} (h:Blk w b t [av,bv]):w.cell? ⟨b,0,none⟩=some av∧w.cell? ⟨b,1,none⟩=some bv:=⟨h.cell 0,h.cell 1⟩
theorem enC_ins (l:List En) (i:Nat) (x:En):(enC l).take (i*2)++([.string (kb x.key),x.val]++(enC l).drop (i*2))=enC (insAt i x l):=by
 have h:∀ (l:List En) (i:Nat),(enC l).take (i*2)=enC (l.take i)∧(enC l).drop (i*2)=enC (l.drop i):=by
  exact z2Yt
 rw [(h l i).1,(h l i).2]
 unfold insAt
 have e3:l.take i++x::l.drop i=l.take i++([x]++l.drop i):=rfl
 rw [e3,enC_append,enC_append]
 rfl
theorem insAt_length {α:Type} (i:Nat) (x:α) (l:List α) (h:i≤l.length):(insAt i x l).length=l.length+1:=by unfold insAt;simp;omega
theorem enC_del (l:List En) (i:Nat):(enC l).take (i*2)++(enC l).drop ((i+1)*2)=enC (l.take i++l.drop (i+1)):=by
 have h:∀ (l:List En) (i:Nat),(enC l).take (i*2)=enC (l.take i)∧(enC l).drop (i*2)=enC (l.drop i):=by
  exact z2Yt
 rw [(h l i).1,(h l (i+1)).2,enC_append]
end Go.Afx
namespace Go.Afx
open Go Go.RowKit
open Classical in
noncomputable def cnt (a:Res):List Res→Nat
 | []=>0
 | r::rs=>(if r=a then 1 else 0)+cnt a rs
open Classical in
noncomputable def ind (a r:Res):Nat:=if r=a then 1 else 0
theorem cnt_nil (a:Res):cnt a []=0:=rfl
theorem cnt_cons (a r:Res) (rs:List Res):cnt a (r::rs)=ind a r+cnt a rs:=rfl
theorem cnt_append (a:Res):∀ x y:List Res,cnt a (x++y)=cnt a x+cnt a y
 | [],y=>by rw [List.nil_append,cnt_nil,Nat.zero_add]
 | r::x,y=>by rw [List.cons_append,cnt_cons,cnt_cons,cnt_append a x y,Nat.add_assoc]
theorem cnt_mem {a:Res}:∀ {l:List Res},0 < cnt a l→a∈l
 | [],h=>by rw [cnt_nil] at h;omega
 | r::l,h=>by
  by_cases e:r=a
  ·rw [e];simp
  ·rw [cnt_cons,ind,if_neg e] at h
   exact List.mem_cons_of_mem _ (cnt_mem zTbe)
theorem ind_self (a:Res):ind a a=1:=by rw [ind,if_pos rfl]
theorem perm_of_cnt:∀ {x y:List Res},(∀ a,cnt a x=cnt a y)→x.Perm y
 | [],y,h=>by
  cases y with
  | nil=>exact List.Perm.nil
  | cons r y=>have:=h r;rw [cnt_nil,cnt_cons,ind_self] at this;omega
 | r::x,y,h=>by
  have h1:=h r
  rw [cnt_cons,ind_self] at h1
  obtain ⟨a,b,rfl⟩:=List.append_of_mem (cnt_mem (a:=r) (l:=y) zTbe)
  refine (List.Perm.cons r (perm_of_cnt (y:=a++b) fun q=>?_)).trans List.perm_middle.symm
  have h2:=h q
  rw [cnt_cons,cnt_append,cnt_cons] at h2
  rw [cnt_append]
  omega
theorem Trk.use {w0 w w':World} {F:List Nat} {rs cal cal' rest:List Res} (h:Trk w0 F w rs) (hp:rs.Perm (cal++rest)) (hc:Trk w (feet cal) w' cal'):Trk w0 F w' (cal'++rest):=(h.perm hp).call hc
theorem Trk.sepOf {w0 w:World} {F:List Nat} {rs cal rest:List Res} (h:Trk w0 F w rs) (hp:rs.Perm (cal++rest)):Sep w cal:=(h.perm hp).sep.left
theorem Trk.lift {w0 w:World} {rs cal:List Res} {F:List Nat} (h:Trk w0 F w rs) (hF:F=feet cal):Trk w0 (feet cal) w rs:=hF▸h
theorem Trk.widen {w0 w:World} {F F':List Nat} {rs:List Res} (h:Trk w0 F w rs) (hF:∀ k∈F,k∈F'):Trk w0 F' w rs:=⟨h.sep,h.only.mono fun i _ hi=>hF i hi,fun k hk=>(h.foot k hk).imp (hF k) id⟩
theorem feet_perm {x y:List Res} (h:x.Perm y):∀ k∈feet x,k∈feet y:=fun k hk=>by
 obtain ⟨r,hr,hk⟩:=mem_feet.1 hk
 exact mem_feet.2 ⟨r,h.mem_iff.1 hr,hk⟩
theorem Trk.from {w0 w:World} {x y:List Res} {rs:List Res} (h:Trk w0 (feet x) w rs) (hp:x.Perm y):Trk w0 (feet y) w rs:=h.widen (feet_perm hp)
theorem Trk.split2 {w0 w:World} {F:List Nat} {a b:List Res} (h:Trk w0 F w (a++b)):Trk w0 F w a:=⟨h.sep.left,h.only,fun k hk=>h.foot k z2dt⟩
theorem Trk.of_below {w w':World} {rs:List Res} (h:Sep w rs) (hb:Below w.heap.size w w'):Trk w (feet rs) w' rs:=(Trk.start h).below hb
end Go.Afx
namespace Go.Afx
open Go Go.RowKit
theorem Own.cut {w:World} {e:TypeId} {sz n g off cap:Nat} {cs:List Value} (h:Own w e sz (.slice (some ⟨g,off,none⟩) n cap) n cs) {m c:Nat} (hm:m≤n) (hmc:m≤c) (hc:c≤cap) :
 Own w e sz (.slice (some ⟨g,off,none⟩) m c) m (cs.take (m*sz)):=by
 have h2:=h.take hm
 refine ⟨h2.1,h2.2.1,?_⟩
 rcases h2.2.2 with ⟨h0,_⟩|⟨g',off',cap',cur,hv,hb,h3,h4,h5,h6⟩
 ·cases h0
 ·cases hv
  have:=Nat.mul_le_mul_right sz hc
  exact .inr ⟨g,off,c,cur,rfl,hb,hmc,zTbe,zTbe,h6⟩
theorem enC_td:∀ (l:List En) (i:Nat),(enC l).take (i*2)=enC (l.take i)∧(enC l).drop (i*2)=enC (l.drop i)
 | [],i=>by simp [enC]
 | e::l,0=>by simp [enC]
 | e::l,i+1=>by
  have ih:=enC_td l i
  have e2:=z1zW
  have e1:(i+1)*2=i*2+1+1:=zTbe
  rw [e1,e2]
  rw [List.take_succ_cons,List.take_succ_cons,List.drop_succ_cons,List.drop_succ_cons,List.take_succ_cons,List.drop_succ_cons,ih.1,ih.2]
  exact ⟨rfl,rfl⟩
theorem ptrs_td (l:List P) (i:Nat):(ptrs l).take i=ptrs (l.take i)∧(ptrs l).drop i=ptrs (l.drop i):=by
 unfold ptrs
 rw [List.map_take,List.map_drop]
 exact ⟨rfl,rfl⟩
theorem ptrs_append (a b:List P):ptrs (a++b)=ptrs a++ptrs b:=by simp [ptrs]
theorem ptrs_length (a:List P):(ptrs a).length=a.length:=by simp [ptrs]
theorem ptrs_ins (l:List P) (i:Nat) (x:P):(ptrs l).take i++([ptrV x.blk]++(ptrs l).drop i)=ptrs (insAt i x l):=by
 rw [(ptrs_td l i).1,(ptrs_td l i).2]
 unfold insAt
 have e3:l.take i++x::l.drop i=l.take i++([x]++l.drop i):=rfl
 rw [e3,ptrs_append,ptrs_append]
 rfl
theorem ptrs_del (l:List P) (i:Nat):(ptrs l).take (i*1)++(ptrs l).drop ((i+1)*1)=ptrs (l.take i++l.drop (i+1)):=by
 rw [Nat.mul_one,Nat.mul_one,(ptrs_td l i).1,(ptrs_td l (i+1)).2,ptrs_append]
theorem two_apart {w:World} {r s:Res} (h:Sep w [r,s]):∀ k∈r.foot,k∉s.foot:=fun k hk hk2=>by
 have h1:=Sep.apart (a:=[r]) (b:=[s]) h k (by simp [feet];exact hk)
 exact h1 (by simp [feet];exact hk2)
theorem ptrs_two (l r:List P) (c c' r':P) (h:c'.blk=c.blk):(ptrs (l++c::r)).take (l.length+1)++([ptrV r'.blk]++(ptrs (l++c::r)).drop (l.length+1))=ptrs (l++c'::r'::r):=by
 rw [(ptrs_td _ _).1,(ptrs_td _ _).2]
 have e1:(l++c::r).take (l.length+1)=l++[c]:=by
  exact znZX
 have e2:(l++c::r).drop (l.length+1)=r:=by
  rw [List.drop_append,List.drop_eq_nil_of_le zTbe]
  have:l.length+1 - l.length=1:=zTbe
  rw [this];rfl
 rw [e1,e2]
 simp [ptrs,h]
theorem Trk.swap {w0 w:World} {F:List Nat} {r r':Res} {rest:List Res} (h:Trk w0 F w (r::rest)) (hr:r'.holds w) (hn:r'.foot.Nodup) (hf:∀ k∈r'.foot,k∈r.foot):Trk w0 F w (r'::rest) :=
 h.one hr hn (fun k hk=>.inl (hf k hk)) (Only.refl _ _)
theorem enC_set:∀ (l:List En) (i:Nat) (x:En) (h:i < l.length) (_:x.key=(l[i]).key),enC (l.set i x)=(enC l).set (i*2+1) x.val
 | [],_,_,h,_=>zhtf
 | y::l,0,x,_,hk=>by
  obtain ⟨xk,xv⟩:=x
  obtain ⟨yk,yv⟩:=y
  simp only [List.getElem_cons_zero] at hk
  subst hk
  rfl
 | y::l,i+1,x,h,hk=>by
  have ih:=enC_set l i x zynw zFJU
  have e:(i+1)*2+1=(i*2+1)+1+1:=zTbe
  have e2:enC (y::l)=.string (kb y.key)::y.val::enC l:=rfl
  have e3:enC ((y::l).set (i+1) x)=.string (kb y.key)::y.val::enC (l.set i x):=rfl
  rw [e,e2,e3,ih,List.set_cons_succ,List.set_cons_succ]
theorem P.blk_node (b:Nat) (av:Value) (es:List En) (bv:Value) (ks:List P):(P.node b av es bv ks).blk=b:=rfl
section
variable {pt et qt : TypeId}
def P.own3 (pt et qt:TypeId) (b:Nat) (av:Value) (es:List En) (bv:Value) (ks:List P):List Res:=[Res.blk b pt [av,bv],Res.own et 2 av es.length (enC es),Res.own qt 1 bv ks.length (ptrs ks)]
theorem P.res_own (b:Nat) (av:Value) (es:List En) (bv:Value) (ks:List P):(P.node b av es bv ks).res pt et qt=P.own3 pt et qt b av es bv ks++P.resL pt et qt ks:=P.res_node b av es bv ks
theorem P.eta (p:P):∃ b av es bv ks,p=P.node b av es bv ks:=by cases p;exact ⟨_,_,_,_,_,rfl⟩
theorem P.resL_at (l:List P) (c:P) (r:List P):(P.resL pt et qt (l++c::r)).Perm (c.res pt et qt++(P.resL pt et qt l++P.resL pt et qt r)):=by
 rw [P.resL_append,P.resL_cons]
 exact perm_of_cnt fun a=>by simp only [cnt_append];omega
end
end Go.Afx
namespace Go.Afx
open Go Go.RowKit
structure Good (d:Nat) (t:T):Prop where
 fat:Fat (min 1 d) d t
 rise:Rise t.flat
theorem Good.new:Good 0 (.node [] []):=⟨⟨Nat.zero_le _,rfl⟩,by rw [flat_leaf];exact List.Pairwise.nil⟩
theorem putTop_good {k:Key} {v:Value} {d:Nat} {t:T} (h:Good d t):Good (putTop k v d t).1 (putTop k v d t).2∧(putTop k v d t).2.flat=ins k v t.flat:=by
 obtain ⟨h1,h2⟩:=put_fat k v d (min 1 d) t h.rise h.fat zTbe
 unfold putTop
 split
 ·rename_i h5
  obtain ⟨hl,hr⟩:=h1.left h5
  have hsf:=split_flat (putT k v d t) h5 (by rcases h1.shape with ⟨_,h⟩|⟨_,h⟩<;>simp [h])
  have e:splitT 0 [] [putT k v d t] (putT k v d t)=.node [midT (putT k v d t)] [leftT (putT k v d t),rightT (putT k v d t)]:=rfl
  have hfl:(splitT 0 [] [putT k v d t] (putT k v d t)).flat=ins k v t.flat:=by
   rw [e,←h2,←hsf,flat_node,flatL_cons,flatL_end,flatL_nil,List.append_nil]
  refine ⟨⟨?_,?_⟩,hfl⟩
  ·rw [e]
   refine ⟨zPXO,rfl,?_⟩
   intro c hc
   simp only [List.mem_cons,List.not_mem_nil,or_false] at hc
   rcases hc with rfl|rfl
   ·exact hl
   ·exact hr
  ·show Rise (splitT 0 [] [putT k v d t] (putT k v d t)).flat
   rw [hfl];exact h.rise.ins
 ·exact ⟨⟨h1,by rw [h2];exact h.rise.ins⟩,h2⟩
theorem look_ins_len {k:Key} {v:Value}:∀ {l:List En},Rise l→(ins k v l).length=if (look k l).isSome then l.length else l.length+1
 | [],_=>rfl
 | e::r,h=>by
  obtain ⟨h1,h2⟩:=List.pairwise_cons.1 h
  rw [ins]
  by_cases hk:e.key=k
  ·subst hk
   exact zQ0W
  ·have hne:look k (e::r)=look k r:=by
    unfold look
    rw [List.find?_cons_of_neg zFJU]
   rw [hne]
   split
   ·have ih:=look_ins_len (k:=k) (v:=v) h2
    rw [List.length_cons,ih]
    split<;>rfl
   ·rename_i hl
    exact z0Fx
theorem look_del_len {k:Key}:∀ {l:List En},Rise l→(del k l).length=if (look k l).isSome then l.length - 1 else l.length
 | [],_=>rfl
 | e::r,h=>by
  obtain ⟨h1,h2⟩:=List.pairwise_cons.1 h
  rw [del]
  by_cases hk:e.key=k
  ·subst hk
   exact zQ0W
  ·have hne:look k (e::r)=look k r:=by
    unfold look
    rw [List.find?_cons_of_neg zFJU]
   rw [hne]
   split
   ·have ih:=look_del_len (k:=k) h2
    rw [List.length_cons,ih]
    split
    ·rename_i hs
     have:0 < r.length:=by
      cases r with
      | nil=>simp [look] at hs
      | cons a t=>simp
     simp;omega
    ·rfl
   ·rename_i hl
    exact z0Fx
end Go.Afx
