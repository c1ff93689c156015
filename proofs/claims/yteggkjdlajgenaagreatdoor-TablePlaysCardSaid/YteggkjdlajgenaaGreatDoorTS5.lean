/- Contracts of the functions that the statement reaches, one behind the other. No condition beyond each theorem's own. -/
import Derived.Test.YteggkjdlajgenaaGreatDoorTS1
set_option linter.unusedSimpArgs false
set_option linter.unusedVariables false
set_option maxRecDepth 100000
set_option maxHeartbeats 4000000
theorem z8WR {P:Prop} (h:P:=by simpa using hi):P:=h
theorem zlkB {P:Prop} (h:P:=by
 go_enter Tryz.func191,Tryz.ntmps191
 go_wp2
 go_ret
 refine ⟨rfl,?_⟩
 repeat (with_reducible first|exact Below.refl _ _|apply Below.drew|(refine Below.alloc ?_ znAK _)|(refine Below.setCell ?_ znAK _))
 ):P:=h
theorem znAK {P:Prop} (h:P:=by first|omega|(simp;omega)|simp):P:=h
theorem zefU {P:Prop} (h:P:=by
 clear e2
 go_enter Tryz.func191,Tryz.ntmps191
 go_wp2
 go_ret
 refine ⟨rfl,?_⟩
 repeat (with_reducible first|exact Below.refl _ _|apply Below.drew|(refine Below.alloc ?_ znAK _)|(refine Below.setCell ?_ znAK _))
 ):P:=h
theorem zcrY {P:Prop} (h:P:=by
 go_ret
 refine ⟨rfl,?_⟩
 repeat (with_reducible first|exact Below.refl _ _|apply Below.drew|(refine Below.alloc ?_ znAK _)|(refine Below.setCell ?_ znAK _))
 ):P:=h
theorem zfb0 {P:Prop} (h:P:=by
 rw [←List.take_append_getElem hka,List.all_append,hr]
 simp [hb]
 ):P:=h
theorem zBtm {P:Prop} (h:P:=by
 go_roundw
 case rel=>exact ⟨k+1,z3KH,zTbe,HF.out,HB.out.trans (hb2.mono HB.out.size)⟩
 case measure=>(simp [intOf])<;>omega
 ):P:=h
theorem zpQd {P:Prop} (h:P:=by
 rw [e1]
 clear e1
 cases em
 ·simp only [AV.agg]
  exact z0Tu
 ·simp only [AV.agg]
  exact z0Tu
 ):P:=h
theorem z0Tu {P:Prop} (h:P:=by
 go_enter Tryz.func142,Tryz.ntmps142
 go_wp2
 go_ret
 refine ⟨rfl,?_⟩
 repeat (with_reducible first|exact Below.refl _ _|apply Below.drew|(refine Below.alloc ?_ znAK _)|(refine Below.setCell ?_ znAK _))
 ):P:=h
theorem z14e {P:Prop} (h:P:=by
 clear e1 hem
 simp only [AV.agg]
 go_enter Tryz.func142,Tryz.ntmps142
 go_wp2
 go_ret
 refine ⟨rfl,?_⟩
 repeat (with_reducible first|exact Below.refl _ _|apply Below.drew|(refine Below.alloc ?_ znAK _)|(refine Below.setCell ?_ znAK _))
 ):P:=h
theorem zcEk {P:Prop} (h:P:=by
 rw [e1]
 clear e1 hem
 simp only [AV.agg]
 go_enter Tryz.func142,Tryz.ntmps142
 go_wp2
 go_ret
 refine ⟨rfl,?_⟩
 repeat (with_reducible first|exact Below.refl _ _|apply Below.drew|(refine Below.alloc ?_ znAK _)|(refine Below.setCell ?_ znAK _))
 ):P:=h
theorem zI6W {P:Prop} (h:P:=by
 go_wp2
 go_ret
 exact ⟨rfl,Below.refl _ _⟩
 ):P:=h
theorem zdvx {P:Prop} (h:P:=by
 have zz:Below w.heap.size w wb:=zKhW
 exact zz):P:=h
theorem zKhW {P:Prop} (h:P:=by rw [←hwb];exact (Below.refl _ _).alloc (Nat.le_refl _) _):P:=h
theorem zZuX {P:Prop} (h:P:=by rw [←hwb];exact Blk.new w _ _):P:=h
theorem zSuf {P:Prop} (h:P:=by
 rw [HE.out,←List.append_assoc,HQ.out]
 exact G7.out
 ):P:=h
theorem zGLF {P:Prop} (h:P:=by simp only [List.length_append,List.length_cons,List.length_nil];omega):P:=h
theorem zLdZ {P:Prop} (h:P:=by unfold maxLen;simp only [List.length_append,List.length_cons,List.length_nil];omega):P:=h
theorem zhFB {P:Prop} (h:P:=by
 have:=HRR.out
 unfold rightAll at this
 rw [List.all_eq_true] at this
 exact this _ (List.getElem_mem hka)
 ):P:=h
theorem zVak {P:Prop} (h:P:=by
 have zz:Below wr.heap.size wr (wr.alloc (.cells #[.int .i64 x.kind,.int .i64 x.n,.string x.s] 113)):=(Below.refl _ _).alloc (Nat.le_refl _) _
 exact zz):P:=h
theorem zLa6 {P:Prop} (h:P:=by
 rcases List.mem_cons.1 h3 with h5|h5
 ·rw [h5] at h4;exact hk h4
 ·have h6:=klt_trans _ _ _ hlt (h1 e h5)
  rw [h4,klt_irrefl] at h6
  cases h6
 ):P:=h
theorem zOeE {P:Prop} (h:P:=by
 constructor
 ·rintro (h|h|h)
  ·exact .inr (.inl h)
  ·exact .inl h
  ·exact .inr (.inr h)
 ·rintro (h|h|h)
  ·exact .inr (.inl h)
  ·exact .inl h
  ·exact .inr (.inr h)
 ):P:=h
theorem zsG9 {P:Prop} (h:P:=by
 rw [e1,e2]
 go_enter Tryz.func131,Tryz.ntmps131
 go_wp2_with (go_at_call 130;refine HL.out.mono ?_;rintro e w2 ⟨rfl,rfl⟩)
 go_ret
 exact ⟨rfl,rfl⟩
 ):P:=h
theorem zjtC {P:Prop} (h:P:=by
 go_wp2_with (go_at_call 130;refine HL.out.mono ?_;rintro e w2 ⟨rfl,rfl⟩)
 go_ret
 exact ⟨rfl,rfl⟩
 ):P:=h
theorem z9tc {P:Prop} (h:P:=by
 have zz:∃ l,s.data.toList=l:=⟨_,rfl⟩
 exact zz):P:=h
theorem zamW {P:Prop} (h:P:=by
 go_round
 case rel=>exact ⟨k+1,z3KH,zTbe,HF.out⟩
 case measure=>(simp [intOf])<;>omega
 ):P:=h
theorem z4CO {P:Prop} (h:P:=by rw [E1.out];rfl):P:=h
theorem zgJK {P:Prop} (h:P:=by
 obtain ⟨k,rfl,hk,ht,hb⟩:=hrel
 have HB:=Lib.hid hb
 have HT:=Lib.hid ht
 clear ht
 by_cases hka:k < l.length
 ·have hka':k < l'.length:=by rw [←HLEN.out];exact hka
  have h1':=H'.out
  rw [HLEN.out] at h1'
  obtain ⟨g,off,cap1,hv,hg,e0⟩:=sl_int (H.out.below hb) hka
  obtain ⟨g',off',cap1',hv',hg',e0'⟩:=sl_int (h1'.below hb) hka'
  rw [←HLEN.out] at hv'
  cases hv
  cases hv'
  have HX:=zcCm
  have HY:Hid (l[k]≠l'[k]→(l == l')=false):=fun h=>by
   rw [beq_eq_false_iff_ne]
   intro he
   subst he
   exact h rfl
  clear hb h1'
  generalize l[k]=x at *
  generalize l'[k]=y at *
  by_cases hxy:x=y
  ·have HF:=Lib.hid (HX.out hxy)
   subst hxy
   clear HX HY
   exact zLlr
  ·have HF:=Lib.hid (HY.out hxy)
   have d1:(x == y)=false:=beq_eq_false_iff_ne.2 hxy
   have d2:(x != y)=true:=bne_iff_ne.2 hxy
   clear HX HY hxy
   go_wp2
   refine wp_region_lit_plan [] [(0,0),(1,0),(2,0),(4,0),(5,0),(6,0),(3,1),(7,1),(8,0)] (fun _=>False) zyVB zyVB (fun c a d v w h=>zx0I) ?_
   go_wp2_with (first
    | (refine stp ?_))
   go_ret
   exact ⟨zS9n,HB.out.drew⟩
 ·obtain rfl:k=l.length:=by omega
  have e1:(l == l')=true:=by
   have:=HT.out
   rw [List.take_length,HLEN.out,List.take_length] at this
   rw [this];exact beq_self_eq_true _
  have E1:=Lib.hid e1
  clear e1 hb
  go_wp2
  go_ret
  exact ⟨z4CO,HB.out⟩
 ):P:=h
theorem zcCm {P:Prop} (h:P:=by
 have zz:Hid (l[k]=l'[k]→l.take (k+1)=l'.take (k+1)):=fun h=>take_eq_next l l' k hka hka' HT.out h
 exact zz):P:=h
theorem zZ5M {P:Prop} (h:P:=by
 go_roundw
 case rel=>exact ⟨j+1,z3KH,zTbe,HF.out,HBQ.out.trans ((HA5.out.trans (HB5.out.mono zPXO)).mono HBQ.out.size)⟩
 case measure=>(simp [intOf])<;>omega
 ):P:=h
theorem zmSD {P:Prop} (h:P:=by
 go_ret
 exact ⟨zSw6,HBW.out.trans ((HA5.out.trans (HB5.out.mono zPXO)).mono HBW.out.size)⟩
 ):P:=h
theorem zSw6 {P:Prop} (h:P:=by rw [←HU.out,HFF.out HF.out];rfl):P:=h
theorem zIHq {P:Prop} (h:P:=by
 clear hbw hbq
 go_wp2
 go_roundw
 case rel=>exact ⟨j+1,z3KH,zTbe,zxU7,HBW.out⟩
 case measure=>(simp [intOf])<;>omega
 ):P:=h
theorem zxU7 {P:Prop} (h:P:=by rw [←HU.out,HT.out HALL.out]):P:=h
theorem zbJ1 {P:Prop} (h:P:=by rw [←HU.out,List.drop_length];rfl):P:=h
theorem zVbH {P:Prop} (h:P:=by
 have E1:=Lib.hid e1
 clear e1 hb
 go_wp2
 go_ret
 exact ⟨z4CO,HB.out⟩
 ):P:=h
theorem zVhr {P:Prop} (h:P:=by
 have zz:Below w.heap.size w (w.alloc (.cells #[.string nm,.slice pc cl.length cc,.slice pi il.length ci,.int .i64 lim,.int .i64 prt,.int .i64 by_] 25)):=(Below.refl _ _).alloc (Nat.le_refl _) _
 exact zz):P:=h
theorem z1OE {P:Prop} (h:P:=by
 have zz:Hid (Blk (w.alloc (.cells #[.string nm,.slice pc cl.length cc,.slice pi il.length ci,.int .i64 lim,.int .i64 prt,.int .i64 by_] 25)) w.heap.size 25 [.string nm,.slice pc cl.length cc,.slice pi il.length ci,.int .i64 lim,.int .i64 prt,.int .i64 by_]):=Blk.new w _ _
 exact zz):P:=h
theorem zW1S {P:Prop} (h:P:=by
 go_enter Tryz.func69,Tryz.ntmps69
 go_wp2_with (first
  | (go_at_call 96;refine HN.out.mono ?_;rintro e w2 ⟨rfl,hb2⟩;obtain ⟨x0,x1,x2,x3,x4,x5⟩:=sch_cells (HBK.out.below hb2);have HB2:=Lib.hid hb2;have HC2:=Lib.hid (HC.out w2 hb2);clear hb2 x0 x3 x4 x5)
  | (go_at_call 97;refine HC2.out.mono ?_;rintro e w3 ⟨rfl,hb3⟩;have hb23:=HB2.out.trans (hb3.mono HB2.out.size);obtain ⟨y0,y1,y2,y3,y4,y5⟩:=sch_cells (HBK.out.below hb23);have HB3:=Lib.hid hb23;have HI3:=Lib.hid (HI.out w3 hb23);clear hb3 hb23 y0 y3 y4 y5 x1 x2)
  | (go_at_call 98;refine HI3.out.mono ?_;rintro e w4 ⟨rfl,hb4⟩;have hb34:=HB3.out.trans (hb4.mono HB3.out.size);obtain ⟨z0,z1,z2,z3,z4,z5⟩:=sch_cells (HBK.out.below hb34);have HB4:=Lib.hid hb34;clear hb4 hb34 z0 z2 y1 y2)
  | (go_at_call 99;(with_reducible refine (HL.out _).mono ?_);rintro e w5 ⟨rfl,rfl⟩)
  | (go_at_call 99;(with_reducible refine (HP.out _).mono ?_);rintro e w5 ⟨rfl,rfl⟩)
  | (go_at_call 99;(with_reducible refine (HY.out _).mono ?_);rintro e w5 ⟨rfl,rfl⟩))
 go_ret
 exact ⟨rfl,HALW.out.trans (HB4.out.mono HALW.out.size)⟩
 ):P:=h
theorem zOmz {P:Prop} (h:P:=by
 rw [Bool.eq_iff_iff];simp only [beq_iff_eq];exact ⟨Eq.symm,Eq.symm⟩
 ):P:=h
theorem zNFc {P:Prop} (h:P:=by
 go_wp2_with (go_at_call 52;refine HN.out.mono ?_;clear HN;rintro e w2 ⟨rfl,rfl⟩)
 all_goals (go_ret;exact ⟨rfl,HAL.out⟩)
 ):P:=h
namespace Go.Afx
open Go
variable {H : Type} {enc : TypeId × Value → H}
theorem returnsInHanded_of_laid {a:Assume} {C:Checked} {os:Os} {f:FuncId} {fn:Func} {s:ChangeSpec} {conds:List PathCond} {apart fresh handsOn again:Bool} {X:World→Array Value→Prop}
 (hX:∀ (w w':World) (args:Array Value),w.heap=w'.heap→X w args→X w' args)
 (own:ownKnob C.prog.godebug=none) (started:os.Started) (noInit:C.prog.inits.idxOf? f=none) (hfn:C.prog.funcs[f]?=some fn)
 (witness:∃ (w:World) (tape:Tape) (i:Input),w.os=os∧(w.forCall tape i).Shaped C.prog∧i.vars=[]∧Input.okWide C.prog (w.forCall tape i) .any w.heap.size f i ∧
  ((s.pre enc C.prog fn conds apart (w.forCall tape i).memory i.args∧X (w.forCall tape i).memory i.args)∧sizedMet enc C.prog fn (OpenSpec.ofChange s) apart (w.forCall tape i).memory i.args)∧a.holds C.prog (lone (Frame.enter C.prog f i.args .normal) [] (w.forCall tape i)))
 (contract:∀ (W:World) (base:Nat) (args:Array Value) (ds gs:List (DataW H)) (before:List MemPlace),
  (∀ (j:Nat) t v,fn.params[j]?=some t→args[j]?=some v→Value.okWide C.prog W .any base t v) →
  DataW.Whole enc C.prog fn.params.toList s.vars apart W args.toList ds gs before →
  X W args→W.ShapedOpen C.prog →
  Calls C.prog f args W fun e W'=>∃ v,e=.returned v∧s.post enc C.prog fn apart fresh handsOn again W args v W') :
 ReturnsInHanded a C os f .any (fun w args=>(s.pre enc C.prog fn conds apart w args∧X w args)∧sizedMet enc C.prog fn (OpenSpec.ofChange s) apart w args) (s.post enc C.prog fn apart fresh handsOn again):=by
 refine returnsInHanded_of_calls own started noInit witness ?_
 intro w tape i _ hsh _ hok hpre _
 obtain ⟨_,_,_,fn',hfn',_,_,_,_,hval⟩:=hok
 have e:fn'=fn:=Option.some.inj (hfn'.symm.trans hfn)
 subst e
 obtain ⟨⟨⟨ds,gs,before,hw,_⟩,hx⟩,_⟩:=hpre
 have hw':=DataW.Whole.of_heap (w':=w.forCall tape i) zdhv hw
 refine (contract (w.forCall tape i) w.heap.size i.args ds gs before hval hw' (hX _ _ _ zdhv hx) hsh).mono fun e W' ⟨v,he,hp⟩=>?_
 subst he
 exact ChangeSpec.post_blind hp
end Go.Afx
namespace Go.Proofs
open Go.Shelf
def Tryz.lays155_ren:Go.Shelf.Ren:=⟨fun|155=>192|154=>209|138=>217|165=>218|143=>219|166=>220|197=>221|169=>222|195=>226|218=>227|240=>228|241=>229|219=>230|260=>231|276=>235|277=>236|217=>237|225=>238|224=>239|267=>240|266=>245|314=>246|n=>n,fun|9=>9|3=>3|4=>4|72=>297|0=>0|76=>300|105=>302|21=>21|5=>5|70=>295|20=>20|37=>57|75=>299|127=>308|164=>315|46=>87|119=>318|139=>321|138=>320|146=>326|51=>325|80=>98|n=>n,fun|1=>0|3=>1|4=>2|n=>n⟩
theorem Tryz.lays155:Go.Proofs.Lays.n155 Tryz.prog Tryz.lays155_ren:={
 mixed:=zyVB
 f138:=Tryz.func217.trans (congrArg some zyVB)
 f143:=Tryz.func219.trans (congrArg some zyVB)
 f154:=Tryz.func209.trans (congrArg some zyVB)
 f155:=Tryz.func192.trans (congrArg some zyVB)
 f165:=Tryz.func218.trans (congrArg some zyVB)
 f166:=Tryz.func220.trans (congrArg some zyVB)
 f169:=Tryz.func222.trans (congrArg some zyVB)
 f195:=Tryz.func226.trans (congrArg some zyVB)
 f197:=Tryz.func221.trans (congrArg some zyVB)
 f217:=Tryz.func237.trans (congrArg some zyVB)
 f218:=Tryz.func227.trans (congrArg some zyVB)
 f219:=Tryz.func230.trans (congrArg some zyVB)
 f224:=Tryz.func239.trans (congrArg some zyVB)
 f225:=Tryz.func238.trans (congrArg some zyVB)
 f240:=Tryz.func228.trans (congrArg some zyVB)
 f241:=Tryz.func229.trans (congrArg some zyVB)
 f260:=Tryz.func231.trans (congrArg some zyVB)
 f266:=Tryz.func245.trans (congrArg some zyVB)
 f267:=Tryz.func240.trans (congrArg some zyVB)
 f276:=Tryz.func235.trans (congrArg some zyVB)
 f277:=Tryz.func236.trans (congrArg some zyVB)
 f314:=Tryz.func246.trans (congrArg some zyVB)
 t0:=Tryz.underlying0
 a0:=Tryz.isAgg0
 z0:=Tryz.sizeOf0
 v0:=Tryz.zeroValue0
 t3:=Tryz.underlying3
 a3:=Tryz.isAgg3
 z3:=Tryz.sizeOf3
 v3:=Tryz.zeroValue3
 t4:=Tryz.underlying4
 a4:=Tryz.isAgg4
 z4:=Tryz.sizeOf4
 v4:=Tryz.zeroValue4
 t5:=Tryz.underlying5
 a5:=Tryz.isAgg5
 z5:=Tryz.sizeOf5
 v5:=Tryz.zeroValue5
 t9:=Tryz.underlying9
 a9:=Tryz.isAgg9
 z9:=Tryz.sizeOf9
 v9:=Tryz.zeroValue9
 t20:=Tryz.underlying20
 a20:=Tryz.isAgg20
 z20:=Tryz.sizeOf20
 v20:=Tryz.zeroValue20
 t21:=Tryz.underlying21
 a21:=Tryz.isAgg21
 z21:=Tryz.sizeOf21
 v21:=Tryz.zeroValue21
 t37:=Tryz.underlying57
 a37:=Tryz.isAgg57
 z37:=Tryz.sizeOf57
 v37:=Tryz.zeroValue57
 t46:=Tryz.underlying87
 a46:=Tryz.isAgg87
 z46:=Tryz.sizeOf87
 v46:=Tryz.zeroValue87
 t51:=Tryz.underlying325
 a51:=Tryz.isAgg325
 z51:=Tryz.sizeOf325
 v51:=Tryz.zeroValue325
 t70:=Tryz.underlying295
 a70:=Tryz.isAgg295
 z70:=Tryz.sizeOf295
 v70:=Tryz.zeroValue295
 t72:=Tryz.underlying297
 a72:=Tryz.isAgg297
 z72:=Tryz.sizeOf297
 v72:=Tryz.zeroValue297
 t75:=Tryz.underlying299
 a75:=Tryz.isAgg299
 z75:=Tryz.sizeOf299
 v75:=Tryz.zeroValue299
 t76:=Tryz.underlying300
 a76:=Tryz.isAgg300
 z76:=Tryz.sizeOf300
 v76:=Tryz.zeroValue300
 t105:=Tryz.underlying302
 a105:=Tryz.isAgg302
 z105:=Tryz.sizeOf302
 v105:=Tryz.zeroValue302
 t119:=Tryz.underlying318
 a119:=Tryz.isAgg318
 z119:=Tryz.sizeOf318
 t127:=Tryz.underlying308
 a127:=Tryz.isAgg308
 z127:=Tryz.sizeOf308
 v127:=Tryz.zeroValue308
 t138:=Tryz.underlying320
 a138:=Tryz.isAgg320
 z138:=Tryz.sizeOf320
 v138:=Tryz.zeroValue320
 t139:=Tryz.underlying321
 a139:=Tryz.isAgg321
 z139:=Tryz.sizeOf321
 v139:=Tryz.zeroValue321
 t146:=Tryz.underlying326
 a146:=Tryz.isAgg326
 z146:=Tryz.sizeOf326
 v146:=Tryz.zeroValue326
 t164:=Tryz.underlying315
 a164:=Tryz.isAgg315
 z164:=Tryz.sizeOf315
 v164:=Tryz.zeroValue315
 g1:=zyVB
 g3:=zyVB
 g4:=zyVB }
theorem Tryz.Builder_Extra_155:Builder.Extra Tryz.prog Tryz.lays155_ren:={
 sizeBuilder:=zyVB
 liesBuilder:=zyVB
 t5:=Tryz.underlying5
 a5:=Tryz.isAgg5
 z5:=Tryz.sizeOf5
 v5:=Tryz.zeroValue5
 infoByte:=zyVB
 cellsByte:=zyVB
 sizeByte:=zyVB
 neB5:=zcX3 }
open Go.RowKit Go.Lib in
theorem Tryz.strings_ReplaceAll (s old new:ByteArray) (m:Int) (w:World) (hs:s.size < 4294967281) (hm:w.cell? ⟨0,0,none⟩=some (.int .i64 m)) (h1:1≤old.size) (hlen:s.size+Lib.countB s old*new.size≤140737488355328) :
 Calls Tryz.prog 192 #[.string s,.string old,.string new] w fun e w' =>
  e=.returned (.string ⟨(Lib.replaceAll s.data.toList old.data.toList new.data.toList).toArray⟩)∧Below w.heap.size w w':=Any.strings_ReplaceAll Tryz.lays155 Tryz.Builder_Extra_155 s old new m w hs hm h1 hlen
end Go.Proofs
namespace Go.Afx
open Go Go.Lib
theorem count_cons_skip {old:List UInt8} (ho:old≠[]) (c:UInt8) (t:List UInt8) (h:old.isPrefixOf (c::t)=false) :
 (index t old=-1∧index (c::t) old=-1∧count (c::t) old=0∧count t old=0)∨∃ i:Nat,index t old=i∧index (c::t) old=((i+1:Nat):Int)∧count (c::t) old=count t old:=by
 have hge:=index_ge t old
 have e:index (c::t) old=if index t old == -1 then -1 else index t old+1:=by
  conv=>lhs;unfold index
  rw [h];simp
 by_cases hm:index t old=-1
 ·have e2:index (c::t) old=-1:=by rw [e,hm];rfl
  exact .inl ⟨hm,e2,count_miss e2,count_miss hm⟩
 ·obtain ⟨i,hi⟩:∃ i:Nat,index t old=i:=⟨(index t old).toNat,zTbe⟩
  have e2:index (c::t) old=((i+1:Nat):Int):=by
   rw [e,hi]
   have:((i:Int) == -1)=false:=zJDc
   rw [this];simp
  refine .inr ⟨i,hi,e2,?_⟩
  rw [count_hit ho e2,count_hit ho hi]
  have:i+1+old.length=(i+old.length)+1:=zTbe
  rw [this,List.drop_succ_cons]
def rAll (old new s:List UInt8):List UInt8:=replaceK old new (count s old) s
theorem rAll_eq {old new:List UInt8} (hne:old≠new) (s:List UInt8):replaceAll s old new=rAll old new s:=by
 unfold replaceAll replace rAll replaceNum
 rw [if_neg (by simpa using hne),if_pos zTbe]
theorem rAll_nil {old:List UInt8} (ho:old≠[]) (new:List UInt8):rAll old new []=[]:=by
 unfold rAll
 have h:index [] old=-1:=by
  unfold index
  cases old with
  | nil=>exact absurd rfl ho
  | cons a b=>rfl
 rw [count_miss h];rfl
theorem rAll_skip {old:List UInt8} (ho:old≠[]) (new:List UInt8) (c:UInt8) (t:List UInt8) (h:old.isPrefixOf (c::t)=false):rAll old new (c::t)=c::rAll old new t:=by
 unfold rAll
 rcases count_cons_skip ho c t h with ⟨h1,h2,h3,h4⟩|⟨i,h1,h2,h3⟩
 ·rw [h3,h4];rfl
 ·rw [h3]
  have h5:0 < count t old:=by rw [count_hit ho h1];omega
  obtain ⟨k,hk⟩:∃ k,count t old=k+1:=⟨count t old - 1,zTbe⟩
  rw [hk,replaceK_hit _ _ _ _ _ h2,replaceK_hit _ _ _ _ _ h1]
  have:i+1+old.length=(i+old.length)+1:=zTbe
  rw [this,List.drop_succ_cons,List.take_succ_cons]
  rfl
theorem rAll_hit {old:List UInt8} (ho:old≠[]) (new s:List UInt8) (h:old.isPrefixOf s=true):rAll old new s=new++rAll old new (s.drop old.length):=by
 have h2:index s old=((0:Nat):Int):=by
  cases s with
  | nil=>cases old with
   | nil=>exact absurd rfl ho
   | cons a b=>simp at h
  | cons c t=>unfold index;rw [h];rfl
 have h3:=count_hit ho h2
 unfold rAll
 rw [h3,Nat.add_comm,replaceK_hit _ _ _ _ _ h2]
 simp
def esc (x:UInt8) (y:List UInt8):List UInt8→List UInt8
 | []=>[]
 | c::t=>(if c=x then y else [c])++esc x y t
theorem esc_append (x:UInt8) (y a b:List UInt8):esc x y (a++b)=esc x y a++esc x y b:=by
 induction a with
 | nil=>rfl
 | cons c t ih=>simp [esc,ih]
theorem replaceAll_one (x:UInt8) (y:List UInt8) (hne:[x]≠y) (s:List UInt8):replaceAll s [x] y=esc x y s:=by
 rw [rAll_eq hne]
 induction s with
 | nil=>exact rAll_nil zPXO y
 | cons c t ih =>
  unfold esc
  by_cases h:c=x
  ·subst h
   rw [rAll_hit zPXO y _ (by simp [List.isPrefixOf]),if_pos rfl]
   simp [ih]
  ·rw [rAll_skip zPXO y c t (by simp [List.isPrefixOf];exact fun e=>h e.symm),if_neg h,ih]
   rfl
theorem esc_length (x:UInt8) (a b:UInt8) (s:List UInt8):(esc x [a,b] s).length≤2*s.length∧s.length≤(esc x [a,b] s).length:=by
 induction s with
 | nil=>simp [esc]
 | cons c t ih =>
  unfold esc
  split<;>simp<;>omega
def unpair (x:UInt8):List UInt8→List UInt8
 | []=>[]
 | [c]=>[c]
 | c::d::t=>if c=x∧d=x then x::unpair x t else c::unpair x (d::t)
theorem replaceAll_pair (x:UInt8) (s:List UInt8):replaceAll s [x,x] [x]=unpair x s:=by
 rw [rAll_eq zPXO]
 have ho:[x,x]≠[]:=zPXO
 fun_induction unpair x s with
 | case1=>exact rAll_nil ho [x]
 | case2 c =>
  rw [rAll_skip ho [x] c [] (by simp [List.isPrefixOf]),rAll_nil ho]
 | case3 c d t h ih =>
  obtain ⟨rfl,rfl⟩:=h
  rw [rAll_hit ho _ _ zPXO]
  simp [ih]
 | case4 c d t h ih =>
  rw [rAll_skip ho [x] c (d::t) (by
   rw [Bool.eq_false_iff]
   intro hp
   simp [List.isPrefixOf] at hp
   exact h ⟨hp.1.symm,hp.2.symm⟩),ih]
theorem unpair_length (x:UInt8) (s:List UInt8):(unpair x s).length≤s.length:=by
 fun_induction unpair x s<;>simp_all<;>omega
theorem unpair_esc (x:UInt8) (s:List UInt8):unpair x (esc x [x,x] s)=s:=by
 induction s with
 | nil=>rfl
 | cons c t ih =>
  unfold esc
  by_cases h:c=x
  ·subst h
   rw [if_pos rfl]
   show unpair c (c::c::esc c [c,c] t)=_
   rw [unpair,if_pos ⟨rfl,rfl⟩,ih]
  ·rw [if_neg h]
   show unpair x (c::esc x [x,x] t)=_
   cases he:esc x [x,x] t with
   | nil =>
    rw [he] at ih
    rw [←ih];rfl
   | cons d u =>
    rw [unpair,if_neg (fun hh=>h hh.1),←he,ih]
end Go.Afx
namespace Go.Afx
open Go Go.RowKit
section
variable {P : Program} {t e ty tx : TypeId} {z : Value} {w : World}
theorem byteCells_ones (s:ByteArray):Ones (byteCells s):=by
 intro u hu
 obtain ⟨_,_,rfl⟩:=List.mem_map.1 hu
 rfl
theorem run_app_str (he:Elem P t e 1 1 z) (hu:P.underlying tx=some .string) {v:Value} {n:Nat} {cs:List Value} (hown:Own w e 1 v n cs) (s:ByteArray) (hb:n+s.size≤140737488355328) :
 ∃ v' w',(Builtin.append_ #[t,tx] ty #[v,.string s]).run P w=.ok v' w'∧Own w' e 1 v' (n+s.size) (cs++byteCells s)∧Only (fun k=>v.ownBlock=some k) w w' ∧
  (v'.ownBlock=v.ownBlock∨v'.ownBlock=some w.heap.size)∧w'.heap.size≤w.heap.size+1∧(0 < n+s.size→v'.ownBlock≠none):=by
 obtain ⟨i,hi,hz,hsize,hby⟩:=he.parts
 have ht:=he.sl
 have hzs:=he.zs
 have hlenS:=byteCells_length s
 have hlen:(cs++byteCells s).length=(n+s.size)*1:=by rw [List.length_append,hown.1,hlenS,Nat.add_mul,Nat.mul_one,Nat.mul_one]
 have hones:Ones (cs++byteCells s):=hown.2.1.append (byteCells_ones s)
 have hml:n+s.size≤maxLen:=zefz
 have hsrc:Src P i.size tx (.string s) s.size (byteCells s) w:=by rw [hsize];exact Src.ofString w hu s
 have grown:∀ (old:Nat) (S:Nat→Prop),
  Own (w.drew.alloc (.cells ((cs++byteCells s).toArray++Builtin.zeroCells z.cells (grownCap w (n+s.size) old e - (n+s.size))) e)) e 1
   (.slice (some ⟨w.heap.size,0,none⟩) (n+s.size) (grownCap w (n+s.size) old e)) (n+s.size) (cs++byteCells s) ∧
  Only S w (w.drew.alloc (.cells ((cs++byteCells s).toArray++Builtin.zeroCells z.cells (grownCap w (n+s.size) old e - (n+s.size))) e)):=by
  intro old S
  have hge:=grownCap_ge w (n+s.size) old e
  have hcm:grownCap w (n+s.size) old e≤maxLen:=grownCap_le_maxLen w (n+s.size) old e hml
  have hsz2:(cs++byteCells s++(Builtin.zeroCells z.cells (grownCap w (n+s.size) old e - (n+s.size))).toList).length=grownCap w (n+s.size) old e*1:=by
   rw [List.length_append,hlen,Array.length_toList,size_zeroCells,hzs]
   omega
  have h1:=Own.made w.drew e 1 (cs++byteCells s) (Builtin.zeroCells z.cells (grownCap w (n+s.size) old e - (n+s.size))).toList (n+s.size) (grownCap w (n+s.size) old e) hlen hones hge hcm zTbe
  have e1:(cs++byteCells s++(Builtin.zeroCells z.cells (grownCap w (n+s.size) old e - (n+s.size))).toList).toArray=(cs++byteCells s).toArray++Builtin.zeroCells z.cells (grownCap w (n+s.size) old e - (n+s.size)):=zPXO
  rw [e1] at h1
  exact ⟨h1,((Only.refl S w).drew).alloc _⟩
 rcases hown.2.2 with ⟨rfl,rfl⟩|⟨g,off,cap,cur,rfl,hbk,hnc,hcm,hcs,htake⟩
 ·have hc0:cs=[]:=List.eq_nil_of_length_eq_zero (by simpa using hown.1)
  subst hc0
  by_cases hm:s.size=0
  ·have hn0:byteCells s=[]:=List.eq_nil_of_length_eq_zero (by rw [hlenS];exact hm)
   refine ⟨.slice none 0 0,w,?_,by rw [hm,hn0];exact Own.nil w e 1,Only.refl _ w,.inl rfl,zTbe,zTbe⟩
   have hfc:=firstCells_string (P:=P) s w
   rw [hm] at hfc
   simp [Builtin.append_,run_underlying ht,run_underlying hu,sizeOf,typeInfo,hi,Builtin.lenOf,hm,hsize,hfc]
  ·have hr:=run_append_grow_src (P:=P) w t tx ty e i z ht hi hz none 0 0 [] (by simp [Builtin.firstCells]) (.string s) s.size (byteCells s) hsrc zTbe zTbe (growslice_fits zTbe (by rw [hby];omega))
   obtain ⟨g1,g2⟩:=grown 0 (fun k=>(Value.slice none 0 0).ownBlock=some k)
   simp only [Nat.zero_add,List.nil_append] at g1 g2 hr ⊢
   exact ⟨_,_,hr,g1,g2,.inr rfl,zPXO,zfJ3⟩
 ·by_cases hroom:n+s.size≤cap
  ·have hfit:(off+n*1)+0+(byteCells s).length≤cur.toArray.size:=by
    simp only [List.size_toArray,hlenS]
    omega
   have hst:=run_storeCells_at P g (off+n*1) e (byteCells s) 0 cur.toArray w hbk hfit (byteCells_ones s)
   simp only [Nat.add_zero,Nat.mul_one] at hst
   have hr:(Builtin.append_ #[t,tx] ty #[.slice (some ⟨g,off,none⟩) n cap,.string s]).run P w=.ok (.slice (some ⟨g,off,none⟩) (n+s.size) cap) (w.setRow g (cur.take (off+n)++byteCells s++cur.drop (off+n+(byteCells s).length)).toArray):=by
    simp [Builtin.append_,run_underlying ht,run_underlying hu,sizeOf,typeInfo,hi,Builtin.lenOf,hroom,hsize,firstCells_string (P:=P) s,Addr.add_lit,hst]
   refine ⟨_,_,hr,⟨hlen,hones,.inr ⟨g,off,cap,_,rfl,hbk.setRow _,hroom,hcm,?_,?_⟩⟩,(Only.refl _ w).setRow (fun _=>zfJ3) _,.inl rfl,zfoE,zfJ3⟩
   ·simp only [List.length_append,List.length_take,List.length_drop,hlenS]
    omega
   ·have h4:=splice_read cur (byteCells s) cs off (n*1) zTbe htake hown.1
    rw [hlenS,Nat.mul_one] at h4
    rw [Nat.mul_one,hlenS]
    exact h4
  ·have holds:∀ j u,cs[j]?=some u→w.cell? ((⟨g,off,none⟩:Addr).add j)=some u:=by
    exact z7p4
   have hr:=run_append_grow_src (P:=P) w t tx ty e i z ht hi hz (some ⟨g,off,none⟩) n cap cs (run_firstCells_some w.drew i.size n ⟨g,off,none⟩ n cap cs (by rw [hsize];exact hown.1) (by simpa using holds)) (.string s) s.size (byteCells s) hsrc zTbe zTbe (growslice_fits zTbe (by rw [hby];omega))
   obtain ⟨g1,g2⟩:=grown cap (fun k=>(Value.slice (some ⟨g,off,none⟩) n cap).ownBlock=some k)
   exact ⟨_,_,hr,g1,g2,.inr rfl,zPXO,zfJ3⟩
theorem wpList_app_str {ops:Array Oper} {rest:List Oper} {o:Oper} {a:Act} {Q:Exit→Act→World→Prop} (hgd:o.guard=none) (sv x:Operand) (ho:o.op=.call { callee:=.builtin .append,args:=#[sv,x],argTypes:=#[t,tx] })
 (he:Elem P t e 1 1 z) (hu:P.underlying tx=some .string) {v:Value} {n:Nat} {cs:List Value} (hs:a.eval sv=v) (hown:Own w e 1 v n cs) (s:ByteArray) (hx:a.eval x=.string s) (hb:n+s.size≤140737488355328)
 (h:∀ v' w',Own w' e 1 v' (n+s.size) (cs++byteCells s)→Only (fun k=>v.ownBlock=some k) w w'→(v'.ownBlock=v.ownBlock∨v'.ownBlock=some w.heap.size)→w'.heap.size≤w.heap.size+1 →
  wpList P ops Q rest (a.put o.dst v') w'):wpList P ops Q (o::rest) a w:=by
 obtain ⟨v',w',hr,h1,h2,h3,h4,_⟩:=run_app_str (P:=P) (ty:=o.type) he hu hown s hb
 refine wpList_plain hgd fun K hK=>?_
 unfold Oper.wp execOp
 simp only [ho,resolve,invoke,builtin,Sem.run_bind,Sem.run_pure,Result.andThen_ok,List.map_toArray,List.map_cons,List.map_nil,hs,hx,hr]
 exact hK _ _ (h v' w' h1 h2 h3 h4)
end
end Go.Afx
namespace Go.Afx
open Go Go.RowKit
variable {P : Program}
def cvCap (w:World) (s:ByteArray) (e:TypeId):Nat:=grownCap w s.size 0 e
def cvW (w:World) (s:ByteArray) (e:TypeId):World:=w.drew.alloc (.cells (bytesRow s (grownCap w s.size 0 e)) e ((bytesRow s (grownCap w s.size 0 e)).size,(bytesRow s (grownCap w s.size 0 e)).size+1))
theorem run_cv (w:World) (src dst e:TypeId) (s:ByteArray) (hs:P.underlying src=some .string) (hd:P.underlying dst=some (.slice e)) (he:P.underlying e=some (.int .u8)) :
 (convert src dst (.string s)).run P w=.ok (.slice (some ⟨w.heap.size,0,none⟩) s.size (cvCap w s e)) (cvW w s e) :=
 run_bytes_of_string w src dst e s hs hd he
theorem cvW_below (w:World) (s:ByteArray) (e:TypeId):Below w.heap.size w (cvW w s e) :=
 (Below.drew (Below.refl _ _)).alloc (Nat.le_refl _) _
theorem cvW_size (w:World) (s:ByteArray) (e:TypeId):(cvW w s e).heap.size=w.heap.size+1:=by
 unfold cvW;simp
theorem cvW_cell (w:World) (s:ByteArray) (e:TypeId) (l:List UInt8) (hl:s.data.toList=l) (k:Nat) (hk:k < l.length) :
 (cvW w s e).cell? ⟨w.heap.size,k,none⟩=some (.int .u8 (l[k].toNat:Int)):=by
 subst hl
 have h1:=World.cell?_alloc_mark w.drew (bytesRow s (grownCap w s.size 0 e)) e ((bytesRow s (grownCap w s.size 0 e)).size,(bytesRow s (grownCap w s.size 0 e)).size+1) k
 have h2:(cvW w s e).cell? ⟨w.heap.size,k,none⟩=(bytesRow s (grownCap w s.size 0 e))[k]?:=h1
 rw [h2,bytesRow_at s _ k zFJU]
 simp
theorem size_list (s:ByteArray) (l:List UInt8) (h:s.data.toList=l):s.size=l.length:=by
 rw [←h,Array.length_toList];rfl
theorem toList_list (s:ByteArray) (l:List UInt8) (h:s.data.toList=l):s.toList.isEmpty=l.isEmpty:=by
 rw [ByteArray.toList_eq,h]
theorem get_list (s:ByteArray) (l:List UInt8) (h:s.data.toList=l) (i:Nat) (hi:i < s.size) (hi2:i < l.length):s[i]=l[i]:=by
 subst h
 rw [Array.getElem_toList];rfl
theorem nil_list (s:ByteArray) (h:s.data.toList=[]):s=ByteArray.empty:=by
 obtain ⟨d⟩:=s
 have:d=#[]:=zynw
 subst this;rfl
theorem tail_list (s:ByteArray) (c:UInt8) (t:List UInt8) (h:s.data.toList=c::t):(s.extract 1 s.size).data.toList=t:=by
 have h2:=size_list s _ h
 rw [List.length_cons] at h2
 rw [Lib.extract_data,h,List.drop_succ_cons,List.drop_zero,List.take_of_length_le zTbe]
end Go.Afx
namespace Go.Afx
open Go Go.RowKit
theorem flatten_get {α:Type} {sz:Nat}:∀ (es:List (List α)),(∀ c∈es,c.length=sz)→∀ i r,r < sz→es.flatten[i*sz+r]?=(es[i]?).bind (·[r]?)
 | [],_,i,r,_=>zPXO
 | c::es,h,i,r,hr=>by
  have hc:=h c zPXO
  cases i with
  | zero =>
   simp only [List.flatten_cons,Nat.zero_mul,Nat.zero_add,List.getElem?_cons_zero,Option.bind_some]
   rw [List.getElem?_append_left zTbe]
  | succ i =>
   simp only [List.flatten_cons,List.getElem?_cons_succ]
   rw [List.getElem?_append_right (by rw [hc,Nat.succ_mul];omega)]
   have:(i+1)*sz+r - c.length=i*sz+r:=by rw [hc,Nat.succ_mul];omega
   rw [this]
   exact flatten_get es (fun c hc=>h c (by simp [hc])) i r hr
theorem flatten_length {α:Type} {sz:Nat}:∀ (es:List (List α)),(∀ c∈es,c.length=sz)→es.flatten.length=es.length*sz
 | [],_=>zPXO
 | c::es,h=>by
  have hc:=h c zPXO
  rw [List.flatten_cons,List.length_append,flatten_length es (fun c hc=>h c (by simp [hc])),hc,List.length_cons,Nat.succ_mul]
  omega
theorem choose_list {α β:Type} {f:β→α} {R:β→Prop}:∀ (es:List α),(∀ c∈es,∃ b,c=f b∧R b)→∃ bs:List β,es=bs.map f∧∀ b∈bs,R b
 | [],_=>⟨[],rfl,zPXO⟩
 | c::es,h=>by
  obtain ⟨b,hb,hr⟩:=h c zPXO
  obtain ⟨bs,h1,h2⟩:=choose_list es (fun c hc=>h c (by simp [hc]))
  exact ⟨b::bs,by simp [hb,h1],by simpa using ⟨hr,h2⟩⟩
theorem list1 {α:Type} {l:List α} (h:l.length=1):∃ a0,l=[a0]:=by
 match l,h with
 | [a0],_=>exact ⟨a0,rfl⟩
theorem list2 {α:Type} {l:List α} (h:l.length=2):∃ a0 a1,l=[a0,a1]:=by
 match l,h with
 | [a0,a1],_=>exact ⟨a0,a1,rfl⟩
theorem list3 {α:Type} {l:List α} (h:l.length=3):∃ a0 a1 a2,l=[a0,a1,a2]:=by
 match l,h with
 | [a0,a1,a2],_=>exact ⟨a0,a1,a2,rfl⟩
theorem list4 {α:Type} {l:List α} (h:l.length=4):∃ a0 a1 a2 a3,l=[a0,a1,a2,a3]:=by
 match l,h with
 | [a0,a1,a2,a3],_=>exact ⟨a0,a1,a2,a3,rfl⟩
theorem list5 {α:Type} {l:List α} (h:l.length=5):∃ a0 a1 a2 a3 a4,l=[a0,a1,a2,a3,a4]:=by
 match l,h with
 | [a0,a1,a2,a3,a4],_=>exact ⟨a0,a1,a2,a3,a4,rfl⟩
theorem list6 {α:Type} {l:List α} (h:l.length=6):∃ a0 a1 a2 a3 a4 a5,l=[a0,a1,a2,a3,a4,a5]:=by
 match l,h with
 | [a0,a1,a2,a3,a4,a5],_=>exact ⟨a0,a1,a2,a3,a4,a5,rfl⟩
theorem Addr.add_add (a:Addr) (i j:Nat) (hs:a.spot=none):(a.add i).add j=⟨a.block,a.off+i+j,none⟩:=by
 obtain ⟨b,o,s⟩:=a
 simp only at hs
 subst hs
 rw [Addr.add_lit,Addr.add_lit]
section
variable {H : Type} {enc : TypeId × Value → H} {P : Program} {w : World}
theorem open_sl {t e:TypeId} {sz fuel:Nat} {v:Value} {x:DataW H × List MemPlace} (ht:P.underlying t=some (.slice e)) (hc:P.cellsOf e=sz) (hsz:0 < sz)
 (h:DataW.trod enc P w 0 (fun _=>true) true fuel t [v]=some x) (El:List Value→Prop) (hone:∀ c,El c→Ones c)
 (hel:∀ f c y,c.length=sz→DataW.trod enc P w 0 (fun _=>true) true f e c=some y→El c) :
 ∃ es:List (List Value),(∀ c∈es,c.length=sz∧El c)∧Sl w (fun _=>True) sz v es.length es.flatten:=by
 rcases DataW.trod_slice ht h with ⟨h1,_⟩|⟨a,len,cap,elems,rest,n,rfl,h1,_,_,hl,hm,hlen,hel2,_,_⟩
 ·obtain rfl:v=.slice none 0 0:=by simpa using h1
  exact ⟨[],zPXO,zPXO,Ones.nil,.inl ⟨none,0,rfl,rfl,Nat.zero_le _,fun _=>rfl⟩⟩
 ·obtain rfl:v=.slice (some a) len cap:=by simpa using h1
  have hget:∀ i,i < len→∃ c y,w.cells? 0 (a.add (i*sz)) sz=some c∧DataW.trod enc P w 0 (fun _=>true) true n e c=some y:=fun i hi=>by
   have h2:=hel2 i hi
   rw [hc,List.getElem?_eq_getElem zTbe] at h2
   obtain ⟨c,h3,h4⟩:=Option.bind_eq_some_iff.1 h2
   exact ⟨c,_,h3,h4⟩
  have hes:∀ c∈(List.range len).map (fun i=>(w.cells? 0 (a.add (i*sz)) sz).getD []),c.length=sz∧El c:=by
   intro c hcm
   obtain ⟨i,hi,rfl⟩:=List.mem_map.1 hcm
   obtain ⟨c,y,h3,h4⟩:=hget i z8WR
   rw [h3]
   have h5:=(World.cells?_some h3).2.1
   exact ⟨h5,hel _ _ _ h5 h4⟩
  refine ⟨_,hes,?_⟩
  have hlen2:=flatten_length _ (fun c hcm=>(hes c hcm).1)
  refine ⟨hlen2,fun u hu=>?_,?_⟩
  ·obtain ⟨c,hcm,huc⟩:=List.mem_flatten.1 hu
   exact hone c (hes c hcm).2 u huc
  ·simp only [List.length_map,List.length_range] at hlen2 ⊢
   rcases Nat.eq_zero_or_pos len with h0|hpos
   ·subst h0
    exact .inl ⟨some a,cap,rfl,rfl,hm,zPXO⟩
   ·obtain ⟨c0,y0,h3,_⟩:=hget 0 hpos
    obtain ⟨_,h5,h6⟩:=World.cells?_some h3
    have h7:=h6 0 hsz
    have h8:(w.cell? a).isSome=true:=by
     have:(a.add (0*sz)).add 0=a:=by simp [Addr.add]
     rw [this] at h7
     rw [h7,List.getElem?_eq_getElem zTbe]
     rfl
    have hspot:a.spot=none:=by
     unfold World.cell? at h8
     split at h8
     ·by_cases hs:a.spot.isSome=true
      ·simp [hs] at h8
      ·simpa using hs
     ·simp at h8
    have hblk:a.block < w.heap.size:=by
     obtain ⟨u,hu⟩:=Option.isSome_iff_exists.1 h8
     exact World.block_lt_of_cell? w a hu
    obtain ⟨b,o,s⟩:=a
    simp only at hspot hblk
    subst hspot
    refine .inr ⟨b,o,cap,rfl,hl,hm,trivial,hblk,fun j hj=>?_⟩
    have hj2:j < len*sz:=by rw [←hlen2];exact hj
    have hi:j / sz < len:=Nat.div_lt_of_lt_mul (by rw [Nat.mul_comm];exact hj2)
    have hr:j % sz < sz:=Nat.mod_lt _ hsz
    have hj3:j / sz*sz+j % sz=j:=by rw [Nat.mul_comm];exact Nat.div_add_mod j sz
    obtain ⟨c,y,h9,_⟩:=hget (j / sz) hi
    obtain ⟨_,h10,h11⟩:=World.cells?_some h9
    have h12:=h11 (j % sz) hr
    have h13:=flatten_get _ (fun c hcm=>(hes c hcm).1) (j / sz) (j % sz) hr
    rw [hj3] at h13
    rw [h13,List.getElem?_map,List.getElem?_range hi]
    simp only [Option.map_some,Option.bind_some,h9,Option.getD_some]
    rw [←h12,Addr.add_add _ _ _ rfl]
    simp only [Nat.add_assoc,hj3]
theorem open_ints_sl {t e:TypeId} {k:IntKind} {fuel:Nat} {v:Value} {x:DataW H × List MemPlace} (ht:P.underlying t=some (.slice e)) (he:P.underlying e=some (.int k)) (hc:P.cellsOf e=1)
 (h:DataW.trod enc P w 0 (fun _=>true) true fuel t [v]=some x) :
 ∃ l:List Int,Sl w (fun _=>True) 1 v l.length (l.map (Value.int k))∧∀ n∈l,(Lit.int k n).wf=true:=by
 obtain ⟨es,h1,h2⟩:=open_sl ht hc zTbe h (fun c=>∃ n,c=[Value.int k n]∧(Lit.int k n).wf=true) (fun c ⟨n,hn,_⟩=>by subst hn;exact Ones.nil.cons rfl)
  (fun f c y hl hy=>by
   obtain ⟨n,rfl,_,hw⟩:=DataW.trod_int he hy
   exact ⟨n,rfl,hw⟩)
 obtain ⟨l,rfl,h4⟩:=choose_list (f:=fun n=>[Value.int k n]) es (fun c hcm=>(h1 c hcm).2)
 refine ⟨l,?_,h4⟩
 have e1:(l.map fun n=>[Value.int k n]).flatten=l.map (Value.int k):=by
  clear h2 h1 h4
  induction l with
  | nil=>rfl
  | cons a l ih=>simp [ih]
 rw [e1] at h2
 simpa using h2
theorem open_fields {t:TypeId} {l:List Field} {fuel:Nat} {c:List Value} {x:DataW H × List MemPlace} (ht:P.underlying t=some (.struct l.toArray)) (h:DataW.trod enc P w 0 (fun _=>true) true fuel t c=some x) :
 ∃ n,∀ (i:Nat) (f:Field),l[i]?=some f→∃ y,DataW.trod enc P w 0 (fun _=>true) true n f.type ((c.drop f.offset).take (P.cellsOf f.type))=some y:=by
 obtain ⟨xs,n,_,_,_,hlen,hf⟩:=DataW.trod_struct ht h
 refine ⟨n,fun i f hi=>?_⟩
 have hlt:i < l.length:=(List.getElem?_eq_some_iff.1 hi).1
 have hlen':xs.length=l.length:=by simpa using hlen
 exact ⟨xs[i],by rw [hf i f z8WR,List.getElem?_eq_getElem zTbe]⟩
end
end Go.Afx
namespace Go.Proofs.YteggkjdlajgenaaGreatDoor
open Go.RowKit Go.Afx
def ints (l:List Int):List Value:=l.map (Value.int .i64)
theorem ints_length (l:List Int):(ints l).length=l.length:=zN8V
theorem ints_append (a b:List Int):ints (a++b)=ints a++ints b:=zN8V
theorem ints_take (l:List Int) (n:Nat):(ints l).take n=ints (l.take n):=by simp [ints,List.map_take]
theorem ints_drop (l:List Int) (n:Nat):(ints l).drop n=ints (l.drop n):=by simp [ints,List.map_drop]
theorem ints_ones (l:List Int):Ones (ints l):=by
 intro u hu
 obtain ⟨x,_,rfl⟩:=List.mem_map.1 hu
 rfl
theorem elemU8:Elem Tryz.prog 57 5 1 1 (.int .u8 0) :=
 ⟨Tryz.underlying57,zyVB,rfl,zTbe,zOaE⟩
def by8 (l:List UInt8):List Value:=l.map fun c=>.int .u8 (c.toNat:Int)
theorem by8_length (l:List UInt8):(by8 l).length=l.length:=by simp [by8]
theorem by8_append (a b:List UInt8):by8 (a++b)=by8 a++by8 b:=by simp [by8]
theorem by8_get (l:List UInt8) (k:Nat) (h:k < l.length):(by8 l)[k]?=some (.int .u8 (l[k].toNat:Int)):=by simp [by8,h]
theorem by8_ones (l:List UInt8):Ones (by8 l):=by
 intro u hu
 obtain ⟨x,_,rfl⟩:=List.mem_map.1 hu
 rfl
def bs (l:List UInt8):ByteArray:=⟨l.toArray⟩
theorem bs_append (a b:List UInt8):bs a++bs b=bs (a++b):=by
 apply ByteArray.ext
 simp [bs]
theorem bs_size (l:List UInt8):(bs l).size=l.length:=by
 show l.toArray.size=_
 simp
theorem bs_data (l:List UInt8):(bs l).data.toList=l:=by simp [bs]
theorem bs_nil:bs []=⟨#[]⟩:=rfl
theorem bs_of (s:ByteArray):bs s.data.toList=s:=rfl
theorem cv_byte (w:World) (x:Nat) (hx:x < 256):(convert 57 9 (.slice (some ⟨w.heap.size,0,none⟩) 1 1)).run Tryz.prog (w.alloc (.cells #[.int .u8 (x:Int)] 5))=.ok (.string (bs [UInt8.ofNat x])) (w.alloc (.cells #[.int .u8 (x:Int)] 5)) :=
 run_convert_bytes_back (P:=Tryz.prog) (w.alloc (.cells #[.int .u8 (x:Int)] 5)) 57 9 5 ⟨w.heap.size,0,none⟩ 1 [UInt8.ofNat x] Tryz.underlying57 Tryz.underlying5 Tryz.underlying9 (fun j hj=>by
  obtain rfl:j=0:=by simpa using hj
  have h1:(⟨w.heap.size,0,none⟩:Addr).add 0=⟨w.heap.size,0,none⟩:=Addr.add_lit _ _ _
  rw [h1]
  have h2:=(Blk.new w 5 [.int .u8 (x:Int)]).cell 0
  rw [show (w.alloc (.cells #[.int .u8 (x:Int)] 5))=(w.alloc (.cells [.int .u8 (x:Int)].toArray 5)) from rfl,h2]
  have h3:(UInt8.ofNat x).toNat=x:=by rw [UInt8.toNat_ofNat'];omega
  simp only [List.getElem?_cons_zero,List.getElem_cons_zero,h3])
theorem cv_block (w:World) (l:List UInt8):(convert 57 9 (.slice (some ⟨w.heap.size,0,none⟩) l.length l.length)).run Tryz.prog (w.alloc (.cells (by8 l).toArray 5))=.ok (.string (bs l)) (w.alloc (.cells (by8 l).toArray 5)) :=
 run_convert_bytes_back (P:=Tryz.prog) (w.alloc (.cells (by8 l).toArray 5)) 57 9 5 ⟨w.heap.size,0,none⟩ l.length l Tryz.underlying57 Tryz.underlying5 Tryz.underlying9 (fun j hj=>by
  have h1:(⟨w.heap.size,0,none⟩:Addr).add j=⟨w.heap.size,j,none⟩:=by rw [Addr.add_lit,Nat.zero_add]
  rw [h1,(Blk.new w 5 (by8 l)).cell j]
  exact by8_get l j hj)
theorem sl_string (w:World) (B:Nat→Prop) (v:Value) (l:List UInt8) (h:Sl w B 1 v l.length (by8 l)) :
 (convert 57 9 v).run Tryz.prog w=.ok (.string ⟨l.toArray⟩) w:=by
 rcases h.2.2 with ⟨p,cap,rfl,h0,_,hp⟩|⟨g,off,cap,rfl,_,_,_,_,hc⟩
 ·obtain rfl:l=[]:=List.eq_nil_of_length_eq_zero h0
  cases p with
  | none=>obtain rfl:=hp rfl;kernel_rfl
  | some a=>exact run_convert_bytes_back (P:=Tryz.prog) w 57 9 5 a cap [] Tryz.underlying57 Tryz.underlying5 Tryz.underlying9 (fun j hj=>absurd hj (Nat.not_lt_zero _))
 ·exact run_convert_bytes_back (P:=Tryz.prog) w 57 9 5 ⟨g,off,none⟩ cap l Tryz.underlying57 Tryz.underlying5 Tryz.underlying9 (fun j hj=>by
   rw [Addr.add_lit,hc j (by rw [by8_length];exact hj)]
   exact by8_get l j hj)
theorem one_byte (w:World) (c:UInt8):Sl (w.alloc (.cells #[.int .u8 (c.toNat:Int)] 5)) (fun _=>True) 1 (.slice (some ⟨w.heap.size,0,none⟩) 1 1) 1 (by8 [c]) :=
 (Own.made w 5 1 [.int .u8 (c.toNat:Int)] [] 1 1 rfl (Ones.nil.cons rfl) (Nat.le_refl _) zdUY zPXO).sl (fun _ _=>trivial)
theorem own_form {w:World} {e:TypeId} {sz:Nat} {v:Value} {n:Nat} {cs:List Value} (h:Own w e sz v n cs):∃ p cap,v=.slice p n cap∧n≤cap∧cap≤9223372036854775807 :=
 (h.sl (B:=fun _=>True) (fun _ _=>trivial)).form
def fit64 (n:Int):Prop:=-9223372036854775808≤n∧n≤9223372036854775807
structure AV where
 kind:Int
 n:Int
 s:ByteArray
def AV.cells (v:AV):List Value:=[.int .i64 v.kind,.int .i64 v.n,.string v.s]
def AV.agg (v:AV):Value:=.agg #[.int .i64 v.kind,.int .i64 v.n,.string v.s]
def AV.right (v:AV):Bool:=(v.kind == 1 && v.s.toList.isEmpty) || (v.kind == 2 && v.n == 0 && decide (v.s.size≤200)) || (v.kind == 3 && (v.n == 0 || v.n == 1) && v.s.toList.isEmpty)
theorem wrong_any (w:World) (v:AV):Calls Tryz.prog 191 #[v.agg] w fun e w'=>e=.returned (.bool (!v.right))∧Below w.heap.size w w':=by
 obtain ⟨k,n,s⟩:=v
 simp only [AV.agg,AV.right]
 generalize hem:s.toList.isEmpty=em
 by_cases h1:k=1
 ·subst h1
  have e1:(!((((1:Int) == 1) && em) || (((1:Int) == 2) && n == 0 && decide (s.size≤200)) || (((1:Int) == 3) && (n == 0 || n == 1) && em)))=!em:=by cases em<;>rfl
  rw [e1]
  clear e1
  exact zlkB
 ·have k1:(k == 1)=false:=by rw [beq_eq_false_iff_ne];exact h1
  by_cases h2:k=2
  ·subst h2
   have e1:(!((((2:Int) == 1) && em) || (((2:Int) == 2) && n == 0 && decide (s.size≤200)) || (((2:Int) == 3) && (n == 0 || n == 1) && em)))=!(n == 0 && decide (s.size≤200)):=by cases em<;>simp
   rw [e1]
   clear e1 hem k1 h1
   by_cases hn:n=0
   ·subst hn
    by_cases hs:s.size≤200
    ·have e2:(!(((0:Int) == 0) && decide (s.size≤200)))=false:=by simp [hs]
     rw [e2]
     have hs2:decide ((200:Int) < s.size)=false:=decide_eq_false zTbe
     exact zefU
    ·have e2:(!(((0:Int) == 0) && decide (s.size≤200)))=true:=by simp [hs]
     rw [e2]
     have hs2:decide ((200:Int) < s.size)=true:=decide_eq_true zTbe
     exact zefU
   ·have hn2:(n == 0)=false:=by rw [beq_eq_false_iff_ne];exact hn
    have e2:(!((n == 0) && decide (s.size≤200)))=true:=by rw [hn2];rfl
    rw [e2]
    exact zefU
  ·have k2:(k == 2)=false:=by rw [beq_eq_false_iff_ne];exact h2
   by_cases h3:k=3
   ·subst h3
    have e1:(!((((3:Int) == 1) && em) || (((3:Int) == 2) && n == 0 && decide (s.size≤200)) || (((3:Int) == 3) && (n == 0 || n == 1) && em)))=!((n == 0 || n == 1) && em):=by cases em<;>simp
    rw [e1]
    clear e1 k1 k2 h1 h2
    by_cases hn:n=0∨n=1
    ·have e2:(!((n == 0 || n == 1) && em))=!em:=by rcases hn with rfl|rfl<;>rfl
     rw [e2]
     have hd:n / 2=0:=zTbe
     exact zefU
    ·have e2:(!((n == 0 || n == 1) && em))=true:=by
      have a1:(n == 0)=false:=zJDc
      have a2:(n == 1)=false:=zJDc
      rw [a1,a2];rfl
     rw [e2]
     have hd:¬ n / 2=0:=zTbe
     have hd2:(n / 2 != 0)=true:=by rw [bne_iff_ne];exact hd
     clear e2 hn
     go_enter Tryz.func191,Tryz.ntmps191
     go_wp2
     first|rw [hd2]|skip
     exact zcrY
   ·have k3:(k == 3)=false:=by rw [beq_eq_false_iff_ne];exact h3
    rw [k1,k2,k3]
    simp only [Bool.false_and,Bool.or_false,Bool.not_false]
    clear h1 h2 h3
    exact zlkB
def rowCells (l:List AV):List Value:=(l.map AV.cells).flatten
theorem rowCells_at (l:List AV) (k r:Nat) (hk:k < l.length) (hr:r < 3):(rowCells l)[k*3+r]?=(l[k].cells)[r]?:=by
 have hlen:∀ c∈l.map AV.cells,c.length=3:=by
  exact zRFb
 unfold rowCells
 exact zAOB
theorem rowCells_length (l:List AV):(rowCells l).length=l.length*3:=by
 have hlen:∀ c∈l.map AV.cells,c.length=3:=by
  exact zRFb
 unfold rowCells
 exact z6Ba
theorem sl_av {w:World} {B:Nat→Prop} {v:Value} {l:List AV} (h:Sl w B 3 v l.length (rowCells l)) {k:Nat} (hk:k < l.length) :
 ∃ g off cap,v=.slice (some ⟨g,off,none⟩) l.length cap∧g < w.heap.size∧w.cell? ⟨g,off+k*3,none⟩=some (.int .i64 l[k].kind)∧w.cell? ⟨g,off+k*3+1,none⟩=some (.int .i64 l[k].n)∧w.cell? ⟨g,off+k*3+2,none⟩=some (.string l[k].s):=by
 obtain ⟨g,off,cap,hv,_,_,hgb,hglt,hc⟩:=h.place zTbe
 have get:∀ r,r < 3→w.cell? ⟨g,off+(k*3+r),none⟩=(l[k].cells)[r]?:=fun r hr=>by
  rw [hc _ (by rw [rowCells_length];omega),rowCells_at l k r hk hr]
 exact ⟨g,off,cap,hv,hglt,get 0 zTbe,get 1 zTbe,get 2 zTbe⟩
def rightAll (l:List AV):Bool:=l.all AV.right
theorem index_wrong (w:World) (B:Nat→Prop) (v:Value) (l:List AV) (hl:Sl w B 3 v l.length (rowCells l)) (_:l.length≤1000000) :
 Calls Tryz.prog 208 #[v,.func (.func 191) #[] #[]] w fun e w'=>∃ i:Int,e=.returned (.int .i64 i)∧decide (0≤i)=!(rightAll l)∧Below w.heap.size w w':=by
 obtain ⟨p,cap,rfl,hc1,hc2⟩:=hl.form
 have HL:=Lib.hid hl
 clear hl
 go_enter Tryz.func208,Tryz.ntmps208
 go_wp2
 go_loopw [8] (fun i wr=>∃ k:Nat,i=.int .i64 k∧k≤l.length∧(l.take k).all AV.right=true∧Below w.heap.size w wr) (fun i _=>l.length - (intOf i).toNat)
 case atStart=>exact ⟨0,rfl,Nat.zero_le _,rfl,Below.refl _ _⟩
 case round =>
  obtain ⟨k,rfl,hk,hr,hb⟩:=hrel
  have HR:=Lib.hid hr
  have HB:=Lib.hid hb
  by_cases hka:k < l.length
  ·obtain ⟨g,off,cap',hv,hg,e0,e1,e2⟩:=sl_av (HL.out.below hb) hka
   cases hv
   have HX:Hid (∀ b,l[k].right=b→(l.take (k+1)).all AV.right=b):=fun b hb=>by
    exact zfb0
   have HY:Hid (l[k].right=false→rightAll l=false):=fun h=>by
    unfold rightAll
    rw [List.all_eq_false]
    exact ⟨l[k],List.getElem_mem hka,by simp [h]⟩
   clear hr hb
   generalize l[k]=x at *
   have HW:=Lib.hid (fun w=>wrong_any w x)
   have hag:=z3Mw
   rw [hag] at HW
   clear hag
   cases hx:x.right
   ·rw [hx] at HW
    have HF:=Lib.hid (HY.out hx)
    clear HX HY hx
    go_wp2_with (go_at_call 191;refine (HW.out _).mono ?_;rintro e w2 ⟨rfl,hb2⟩)
    go_ret
    refine ⟨_,rfl,?_,HB.out.trans (hb2.mono HB.out.size)⟩
    rw [HF.out]
    exact decide_eq_true zTbe
   ·rw [hx] at HW
    have HF:=Lib.hid (HX.out true hx)
    clear HX HY hx
    go_wp2_with (go_at_call 191;refine (HW.out _).mono ?_;rintro e w2 ⟨rfl,hb2⟩)
    exact zBtm
  ·obtain rfl:k=l.length:=by omega
   rw [List.take_length] at hr
   go_wp2
   go_ret
   refine ⟨-1,rfl,?_,HB.out⟩
   unfold rightAll
   rw [hr];rfl
theorem right_any (w:World) (B:Nat→Prop) (v:Value) (l:List AV) (hl:Sl w B 3 v l.length (rowCells l)) (hll:l.length≤1000000) :
 Calls Tryz.prog 172 #[v] w fun e w'=>e=.returned (.bool (rightAll l))∧Below w.heap.size w w':=by
 obtain ⟨p,cap,rfl,hc1,hc2⟩:=hl.form
 have HI:=Lib.hid (fun w' (h:Below w.heap.size w w')=>index_wrong w' B (.slice p l.length cap) l (hl.below h) hll)
 clear hl
 have HC:Hid (Calls Tryz.prog 190 #[.slice p l.length cap,.func (.func 191) #[] #[]] w fun e w'=>e=.returned (.bool (!(rightAll l)))∧Below w.heap.size w w'):=by
  generalize rightAll l=b at *
  show Calls _ _ _ _ _
  go_enter Tryz.func190,Tryz.ntmps190
  go_wp2_with (go_at_call 208;refine (HI.out _ (Below.refl _ _)).mono ?_;rintro e w2 ⟨i,rfl,hi,hb2⟩)
  go_ret
  exact ⟨rfl,hb2⟩
 cases hb:rightAll l
 all_goals
  rw [hb] at HC
  clear hb HI
  go_enter Tryz.func172,Tryz.ntmps172
  go_wp2_with (go_at_call 190;refine HC.out.mono ?_;rintro e w2 ⟨rfl,hb2⟩)
  go_ret
  exact ⟨rfl,hb2⟩
theorem refright (w:World) (v:AV):Calls Tryz.prog 142 #[v.agg] w fun e w'=>e=.returned (.bool v.right)∧Below w.heap.size w w':=by
 obtain ⟨k,n,s⟩:=v
 have er:(⟨k,n,s⟩:AV).right=((k == 1 && s.toList.isEmpty) || (k == 2 && n == 0 && decide (s.size≤200)) || (k == 3 && (n == 0 || n == 1) && s.toList.isEmpty)):=rfl
 rw [er]
 clear er
 generalize hem:s.toList.isEmpty=em
 by_cases h1:k=1
 ·subst h1
  have e1:((((1:Int) == 1) && em) || (((1:Int) == 2) && n == 0 && decide (s.size≤200)) || (((1:Int) == 3) && (n == 0 || n == 1) && em))=em:=by cases em<;>rfl
  exact zpQd
 ·have k1:(k == 1)=false:=by rw [beq_eq_false_iff_ne];exact h1
  by_cases h2:k=2
  ·subst h2
   clear k1 h1
   by_cases hn:n=0
   ·subst hn
    by_cases hs:s.size≤200
    ·have e1:((((2:Int) == 1) && em) || (((2:Int) == 2) && ((0:Int) == 0) && decide (s.size≤200)) || (((2:Int) == 3) && (((0:Int) == 0) || ((0:Int) == 1)) && em))=true:=by simp [hs]
     rw [e1]
     have hs2:decide ((s.size:Int)≤200)=true:=decide_eq_true zTbe
     exact z14e
    ·have e1:((((2:Int) == 1) && em) || (((2:Int) == 2) && ((0:Int) == 0) && decide (s.size≤200)) || (((2:Int) == 3) && (((0:Int) == 0) || ((0:Int) == 1)) && em))=false:=by simp [hs]
     rw [e1]
     have hs2:decide ((s.size:Int)≤200)=false:=decide_eq_false zTbe
     exact z14e
   ·have hn2:(n == 0)=false:=by rw [beq_eq_false_iff_ne];exact hn
    have e1:((((2:Int) == 1) && em) || (((2:Int) == 2) && (n == 0) && decide (s.size≤200)) || (((2:Int) == 3) && ((n == 0) || (n == 1)) && em))=false:=by simp [hn]
    exact zcEk
  ·have k2:(k == 2)=false:=by rw [beq_eq_false_iff_ne];exact h2
   by_cases h3:k=3
   ·subst h3
    clear k1 k2 h1 h2
    by_cases hn0:n=0
    ·subst hn0
     have e1:((((3:Int) == 1) && em) || (((3:Int) == 2) && ((0:Int) == 0) && decide (s.size≤200)) || (((3:Int) == 3) && (((0:Int) == 0) || ((0:Int) == 1)) && em))=em:=zPXO
     exact zpQd
    ·have a1:(n == 0)=false:=by rw [beq_eq_false_iff_ne];exact hn0
     by_cases hn1:n=1
     ·subst hn1
      have e1:((((3:Int) == 1) && em) || (((3:Int) == 2) && ((1:Int) == 0) && decide (s.size≤200)) || (((3:Int) == 3) && (((1:Int) == 0) || ((1:Int) == 1)) && em))=em:=zPXO
      exact zpQd
     ·have a2:(n == 1)=false:=by rw [beq_eq_false_iff_ne];exact hn1
      have e1:((((3:Int) == 1) && em) || (((3:Int) == 2) && (n == 0) && decide (s.size≤200)) || (((3:Int) == 3) && ((n == 0) || (n == 1)) && em))=false:=by simp [hn0,hn1]
      exact zcEk
   ·have k3:(k == 3)=false:=by rw [beq_eq_false_iff_ne];exact h3
    rw [k1,k2,k3]
    simp only [Bool.false_and,Bool.or_false]
    clear h1 h2 h3 hem
    simp only [AV.agg]
    exact z0Tu
def greatB (l:List AV):Bool:=decide (30 < l.length) || l.any (fun v=>decide (300 < v.s.size))
theorem great_row (w:World) (B:Nat→Prop) (v:Value) (l:List AV) (hl:Sl w B 3 v l.length (rowCells l)) :
 Calls Tryz.prog 39 #[v] w fun e w'=>e=.returned (.bool (greatB l))∧Below w.heap.size w w':=by
 obtain ⟨p,cap,rfl,hc1,hc2⟩:=hl.form
 have HL:=Lib.hid hl
 clear hl
 by_cases h30:30 < l.length
 ·have e1:greatB l=true:=by unfold greatB;simp [h30]
  rw [e1]
  have d:decide ((30:Int) < l.length)=true:=decide_eq_true zTbe
  clear e1
  go_enter Tryz.func39,Tryz.ntmps39
  exact zI6W
 ·have d:decide ((30:Int) < l.length)=false:=decide_eq_false zTbe
  have hll:l.length≤30:=zTbe
  have HE:Hid (greatB l=l.any (fun v=>decide (300 < v.s.size))):=by show _=_;unfold greatB;simp;omega
  go_enter Tryz.func39,Tryz.ntmps39
  go_wp2
  go_loop [3] (fun i=>∃ k:Nat,i=.int .i64 k∧k≤l.length∧(l.take k).any (fun v=>decide (300 < v.s.size))=false) (fun i=>l.length - (intOf i).toNat)
  case atStart=>exact ⟨0,rfl,Nat.zero_le _,rfl⟩
  case round =>
   obtain ⟨k,rfl,hk,hr⟩:=hrel
   have HR:=Lib.hid hr
   by_cases hka:k < l.length
   ·obtain ⟨g,off,cap',hv,hg,e0,e1,e2⟩:=sl_av HL.out hka
    cases hv
    have HX:Hid (∀ b,decide (300 < l[k].s.size)=b→(l.take (k+1)).any (fun v=>decide (300 < v.s.size))=b):=fun b hb=>by
     rw [←List.take_append_getElem hka,List.any_append,hr]
     simp [←hb]
    have HY:Hid (decide (300 < l[k].s.size)=true→l.any (fun v=>decide (300 < v.s.size))=true):=fun h=>by
     rw [List.any_eq_true]
     exact ⟨l[k],List.getElem_mem hka,h⟩
    clear hr e0 e1
    generalize l[k]=x at *
    by_cases hs:300 < x.s.size
    ·have d2:decide ((300:Int) < x.s.size)=true:=decide_eq_true zTbe
     go_wp2
     go_ret
     exact ⟨by rw [HE.out,HY.out (decide_eq_true hs)];rfl,Below.refl _ _⟩
    ·have d2:decide ((300:Int) < x.s.size)=false:=decide_eq_false zTbe
     go_wp2
     go_round
     case rel=>exact ⟨k+1,z3KH,zTbe,HX.out false (decide_eq_false hs)⟩
     case measure=>(simp [intOf])<;>omega
   ·obtain rfl:k=l.length:=by omega
    rw [List.take_length] at hr
    have HR2:=Lib.hid hr
    clear hr HR
    go_wp2
    go_ret
    exact ⟨by rw [HE.out,HR2.out];rfl,Below.refl _ _⟩
theorem all_row (w:World) (B:Nat→Prop) (v:Value) (l:List AV) (hl:Sl w B 3 v l.length (rowCells l)) :
 Calls Tryz.prog 149 #[v] w fun e w'=>e=.returned (.bool (rightAll l))∧Below w.heap.size w w':=by
 obtain ⟨p,cap,rfl,hc1,hc2⟩:=hl.form
 have HL:=Lib.hid hl
 clear hl
 go_enter Tryz.func149,Tryz.ntmps149
 go_wp2
 go_loopw [3] (fun i wr=>∃ k:Nat,i=.int .i64 k∧k≤l.length∧(l.take k).all AV.right=true∧Below w.heap.size w wr) (fun i _=>l.length - (intOf i).toNat)
 case atStart=>exact ⟨0,rfl,Nat.zero_le _,rfl,Below.refl _ _⟩
 case round =>
  obtain ⟨k,rfl,hk,hr,hb⟩:=hrel
  have HR:=Lib.hid hr
  have HB:=Lib.hid hb
  by_cases hka:k < l.length
  ·obtain ⟨g,off,cap',hv,hg,e0,e1,e2⟩:=sl_av (HL.out.below hb) hka
   cases hv
   have HX:Hid (∀ b,l[k].right=b→(l.take (k+1)).all AV.right=b):=fun b hb=>by
    exact zfb0
   have HY:Hid (l[k].right=false→rightAll l=false):=fun h=>by
    unfold rightAll
    rw [List.all_eq_false]
    exact ⟨l[k],List.getElem_mem hka,by simp [h]⟩
   clear hr hb
   generalize l[k]=x at *
   have HW:=Lib.hid (fun w=>refright w x)
   have hag:=z3Mw
   rw [hag] at HW
   clear hag
   cases hx:x.right
   ·rw [hx] at HW
    have HF:=Lib.hid (HY.out hx)
    clear HX HY hx
    go_wp2_with (go_at_call 142;refine (HW.out _).mono ?_;rintro e w2 ⟨rfl,hb2⟩)
    go_ret
    exact ⟨zS9n,HB.out.trans (hb2.mono HB.out.size)⟩
   ·rw [hx] at HW
    have HF:=Lib.hid (HX.out true hx)
    clear HX HY hx
    go_wp2_with (go_at_call 142;refine (HW.out _).mono ?_;rintro e w2 ⟨rfl,hb2⟩)
    exact zBtm
  ·obtain rfl:k=l.length:=by omega
   rw [List.take_length] at hr
   have HR2:=Lib.hid hr
   clear hr HR
   go_wp2
   go_ret
   exact ⟨by unfold rightAll;rw [HR2.out];rfl,HB.out⟩
def Mx (w:World):Prop:=∃ m,w.cell? ⟨Tryz.lays155_ren.g 1,0,none⟩=some (.int .i64 m)
theorem Mx.below {w w':World} (h:Mx w) (hb:Below w.heap.size w w'):Mx w':=by
 obtain ⟨m,hm⟩:=h
 exact ⟨m,(hb.cell (World.block_lt_of_cell? _ _ hm)).trans hm⟩
theorem Mx.only {S:Nat→Prop} {w w':World} (h:Mx w) (hb:Only S w w') (hn:¬ S (Tryz.lays155_ren.g 1)):Mx w':=by
 obtain ⟨m,hm⟩:=h
 exact ⟨m,(hb.cell (World.block_lt_of_cell? _ _ hm) hn).trans hm⟩
theorem repl_any (w:World) (hm:Mx w) (s old new:ByteArray) (hs:s.size≤1000000) (h1:1≤old.size) (hn:new.size≤2) :
 Calls Tryz.prog 192 #[.string s,.string old,.string new] w fun e w'=>e=.returned (.string (bs (Lib.replaceAll s.data.toList old.data.toList new.data.toList)))∧Below w.heap.size w w':=by
 obtain ⟨m,hm⟩:=hm
 refine Tryz.strings_ReplaceAll s old new m w zTbe hm h1 ?_
 have h2:=Lib.count_le s.data.toList old.data.toList
 have h3:=size_list s _ rfl
 have h4:Lib.countB s old*new.size≤1000001*2:=Nat.mul_le_mul (by show Lib.count _ _≤_;omega) hn
 omega
def be:Nat→Nat→List UInt8
 | 0,_=>[]
 | k+1,u=>be k (u / 256)++[UInt8.ofNat (u % 256)]
theorem be_length (k u:Nat):(be k u).length=k:=by
 induction k generalizing u with
 | zero=>rfl
 | succ k ih=>simp [be,ih]
def up64 (n:Int):Nat:=(n+9223372036854775808).toNat
def keyB (v:AV):List UInt8 :=
 if v.kind=1 then 1::be 8 (up64 v.n) else if v.kind=2 then 2::(esc 0 [0,255] v.s.data.toList++[0,1]) else [3,UInt8.ofNat v.n.toNat]
def keysB (l:List AV):List UInt8:=(l.map keyB).flatten
theorem keyB_length (v:AV) (h:v.right=true):(keyB v).length≤410:=by
 unfold keyB
 split
 ·simp [be_length]
 split
 ·have h1:=(esc_length 0 0 255 v.s.data.toList).1
  have h2:=size_list v.s _ rfl
  unfold AV.right at h
  rename_i h3 h4
  simp [h4] at h
  simp only [List.length_cons,List.length_append,List.length_nil]
  omega
 ·simp
theorem xor_top (x:Nat) (h:x < 18446744073709551616):x ^^^ 9223372036854775808=(x+9223372036854775808) % 18446744073709551616:=by
 have h1:=Nat.xor_div_two_pow (a:=x) (b:=9223372036854775808) (n:=63)
 have h2:=Nat.xor_mod_two_pow (a:=x) (b:=9223372036854775808) (n:=63)
 have e1:(2:Nat) ^ 63=9223372036854775808:=zcX3
 rw [e1] at h1 h2
 have e2:9223372036854775808 / 9223372036854775808=1:=zcX3
 have e3:9223372036854775808 % 9223372036854775808=0:=zcX3
 rw [e2] at h1
 rw [e3,Nat.xor_zero] at h2
 have h3:x / 9223372036854775808=0∨x / 9223372036854775808=1:=zTbe
 rcases h3 with h3|h3
 ·rw [h3] at h1
  have:0 ^^^ 1=1:=zcX3
  omega
 ·rw [h3] at h1
  have:1 ^^^ 1=0:=zcX3
  omega
theorem up64_xor (n:Int) (h:fit64 n):bits .xor .u64 (IntKind.u64.wrap n) 9223372036854775808=(up64 n:Int):=by
 rw [IntKind.wrap_u64]
 unfold fit64 at h
 obtain ⟨x,hx⟩:∃ x:Nat,n % 18446744073709551616=x:=⟨(n % 18446744073709551616).toNat,zTbe⟩
 have h1:=bits_xor_u64_nat x 9223372036854775808 zTbe zTbe
 rw [xor_top x zTbe] at h1
 rw [hx]
 refine h1.trans ?_
 unfold up64
 omega
theorem up64_lt (n:Int) (h:fit64 n):up64 n < 18446744073709551616:=by
 unfold fit64 at h;unfold up64;omega
def Grew (w0:World) (bv:Value) (l:List UInt8) (v:Value) (w:World):Prop :=
 Own w 5 1 v l.length (by8 l)∧Only (fun k=>bv.ownBlock=some k) w0 w∧∀ k,v.ownBlock=some k→bv.ownBlock=some k∨w0.heap.size≤k
theorem Grew.start {w:World} {bv:Value} {l:List UInt8} (h:Own w 5 1 bv l.length (by8 l)):Grew w bv l bv w:=⟨h,Only.refl _ w,fun _ hk=>.inl hk⟩
theorem Grew.push {w0 w w1 w2:World} {bv v v2:Value} {l r:List UInt8} {n m:Nat} {cs:List Value} (h:Grew w0 bv l v w) (hb:Below w.heap.size w w1) (g1:Own w2 5 1 v2 (n+m) cs)
 (g2:Only (fun k=>v.ownBlock=some k) w1 w2) (g3:v2.ownBlock=v.ownBlock∨v2.ownBlock=some w1.heap.size) (hn:n=l.length) (hm:m=r.length) (hc:cs=by8 l++by8 r):Grew w0 bv (l++r) v2 w2:=by
 obtain ⟨h1,h2,h3⟩:=h
 subst hn;subst hm;subst hc
 refine ⟨by rw [List.length_append,by8_append];exact g1,?_,fun k hk=>?_⟩
 ·refine (h2.trans (Only.of_none (S:=fun k=>bv.ownBlock=some k) hb) (fun _ _ hh=>hh)).trans g2 fun i hi hk=>?_
  rcases h3 i hk with h4|h4
  ·exact h4
  ·omega
 ·rcases g3 with h4|h4
  ·rw [h4] at hk;exact h3 k hk
  ·rw [h4] at hk
   have h5:w1.heap.size=k:=zFJU
   have h6:=hb.size
   have h7:=h2.size
   exact .inr zTbe
theorem Grew.of {w0 w:World} {bv v:Value} {l l':List UInt8} (h:Grew w0 bv l v w) (e:l=l'):Grew w0 bv l' v w:=e▸h
theorem sl_byte (w:World) (c:UInt8) (x:Int) (hx:x=(c.toNat:Int)):Sl (w.alloc (.cells #[.int .u8 x] 5)) (fun _=>True) 1 (.slice (some ⟨w.heap.size,0,none⟩) 1 1) 1 (by8 [c]):=by
 subst hx
 exact one_byte w c
theorem byte_of (u k:Nat):((u / k:Nat):Int) % 256=((UInt8.ofNat (u / k % 256)).toNat:Int):=by
 rw [UInt8.toNat_ofNat'];omega
theorem be_step (u j:Nat) (h:j≤7):be (j+1) (u / 256 ^ (8 - (j+1)))=be j (u / 256 ^ (8 - j))++[UInt8.ofNat (u / 256 ^ (7 - j) % 256)]:=by
 have e1:8 - (j+1)=7 - j:=zTbe
 have e2:256 ^ (8 - j)=256 ^ (7 - j)*256:=by rw [←Nat.pow_succ];congr 1;omega
 rw [be,e1,e2,Nat.div_div_eq_div_mul]
theorem byte_at8 (u j K:Nat) (h:256 ^ (7 - j)=K):((u:Int) / (K:Int)) % 256=((UInt8.ofNat (u / 256 ^ (7 - j) % 256)).toNat:Int):=by
 rw [h,UInt8.toNat_ofNat'];omega
theorem byte_last (u:Nat):(u:Int) % 256=((UInt8.ofNat (u / 256 ^ (7 - 7) % 256)).toNat:Int):=by
 have:=byte_at8 u 7 1 rfl
 rwa [show ((1:Nat):Int)=1 from rfl,Int.ediv_one] at this
theorem put_num (w:World) (bv:Value) (l:List UInt8) (n:Int) (s:ByteArray) (hf:fit64 n) (ho:Own w 5 1 bv l.length (by8 l)) (hl:l.length≤100000) :
 Calls Tryz.prog 173 #[bv,.agg #[.int .i64 1,.int .i64 n,.string s]] w fun e w'=>∃ v',e=.returned v'∧Grew w bv (l++1::be 8 (up64 n)) v' w':=by
 obtain ⟨p,cap,rfl,hc1,hc2⟩:=own_form ho
 have hx:=up64_xor n hf
 have hlt:=up64_lt n hf
 generalize up64 n=u at *
 obtain ⟨wb,hwb⟩:∃ wb,w.alloc (.cells #[.int .i64 1,.int .i64 n,.string s] 113)=wb:=⟨_,rfl⟩
 have hbb:=zdvx
 have hs0:=sl_byte wb 1 1 rfl
 have hal:Below w.heap.size w (wb.alloc (.cells #[.int .u8 1] 5)):=hbb.alloc hbb.size _
 have ho1:=ho.below hal
 have hk:Blk wb w.heap.size 113 [.int .i64 1,.int .i64 n,.string s]:=zZuX
 have hno:¬ (Value.slice p l.length cap).ownBlock=some w.heap.size:=fun h=>by have:=ho.lt _ h;omega
 have HK:=Lib.hid (fun (w1:World) (h:Only (fun k=>(Value.slice p l.length cap).ownBlock=some k) (wb.alloc (.cells #[.int .u8 1] 5)) w1)=>(hk.alloc (.cells #[.int .u8 1] 5)).only h hno)
 have t0:wb.cell? ⟨w.heap.size,0,none⟩=some (.int .i64 1):=hk.cell 0
 have HG:=Lib.hid (Grew.start ho)
 have HAL:=Lib.hid hal
 clear hbb hal hk ho hno
 go_enter Tryz.func173,Tryz.ntmps173
 go_wp2_with (first
  | rw [hwb]
  | (at_builtin;refine wpList_app rfl _ _ rfl elemU8 zdhv ho1 zdhv hs0 zefz zTbe ?_;intro v1 w1 g1 g2 g3 g4 g5;clear ho1 hs0
     have HK1:=HK.out w1 g2
     have t0:w1.cell? ⟨w.heap.size,0,none⟩=some (.int .i64 1):=HK1.cell 0
     have t1:w1.cell? ⟨w.heap.size,1,none⟩=some (.int .i64 n):=HK1.cell 1
     have G0:=Lib.hid (HG.out.push HAL.out g1 g2 g3 rfl rfl rfl);clear g1 g2 g3 g4 g5 HK1))
 clear HK HG HAL t0 t1 hlt
 go_loopw [0,6] (fun v i wr=>∃ j:Nat,i=.int .i64 (56 - 8*(j:Int))∧j≤8∧Grew w (.slice p l.length cap) (l++[1]++be j (u / 256 ^ (8 - j))) v wr) (fun _ i _=>(intOf i+8).toNat)
 case atStart=>exact ⟨0,rfl,zTbe,by rw [show be 0 (u / 256 ^ (8 - 0))=[] from rfl,List.append_nil];exact G0.out⟩
 case round =>
  obtain ⟨j,rfl,hj,hg⟩:=hrel
  obtain ⟨q,hq⟩:∃ q,l++[1]++be j (u / 256 ^ (8 - j))=q:=⟨_,rfl⟩
  have hql:q.length=l.length+1+j:=by rw [←hq];simp only [List.length_append,be_length,List.length_cons,List.length_nil]
  rw [hq] at hg
  obtain ⟨pv,cv,rfl,hcv1,hcv2⟩:=own_form hg.1
  have HR:=Lib.hid hg
  have HQ:=Lib.hid hq
  clear hg hq
  have hj9:j=0∨j=1∨j=2∨j=3∨j=4∨j=5∨j=6∨j=7∨j=8:=zTbe
  rcases hj9 with rfl|rfl|rfl|rfl|rfl|rfl|rfl|rfl|rfl
  ·have hs1:=sl_byte wr (UInt8.ofNat (u / 256 ^ (7 - 0) % 256)) ((u:Int) / 72057594037927936 % 256) (byte_at8 u 0 72057594037927936 rfl)
   have hal:Below wr.heap.size wr (wr.alloc (.cells #[.int .u8 ((u:Int) / 72057594037927936 % 256)] 5)):=(Below.refl _ _).alloc (Nat.le_refl _) _
   have HB:=Lib.hid hal
   have ho2:=HR.out.1.below hal
   have HE:=Lib.hid (be_step u 0 zTbe)
   clear hal
   go_wp2_with (at_builtin;refine wpList_app rfl _ _ rfl elemU8 zdhv ho2 zdhv hs1 zefz zTbe ?_;intro v7 w7 g1 g2 g3 g4 g5;clear ho2 hs1;have G7:=Lib.hid (HR.out.push HB.out g1 g2 g3 rfl rfl rfl);clear g1 g2 g3 g4 g5)
   refine ⟨⟨1,z3KH,zTbe,?_⟩,zQOc⟩
   exact zSuf
  ·have hs1:=sl_byte wr (UInt8.ofNat (u / 256 ^ (7 - 1) % 256)) ((u:Int) / 281474976710656 % 256) (byte_at8 u 1 281474976710656 rfl)
   have hal:Below wr.heap.size wr (wr.alloc (.cells #[.int .u8 ((u:Int) / 281474976710656 % 256)] 5)):=(Below.refl _ _).alloc (Nat.le_refl _) _
   have HB:=Lib.hid hal
   have ho2:=HR.out.1.below hal
   have HE:=Lib.hid (be_step u 1 zTbe)
   clear hal
   go_wp2_with (at_builtin;refine wpList_app rfl _ _ rfl elemU8 zdhv ho2 zdhv hs1 zefz zTbe ?_;intro v7 w7 g1 g2 g3 g4 g5;clear ho2 hs1;have G7:=Lib.hid (HR.out.push HB.out g1 g2 g3 rfl rfl rfl);clear g1 g2 g3 g4 g5)
   refine ⟨⟨2,z3KH,zTbe,?_⟩,zQOc⟩
   exact zSuf
  ·have hs1:=sl_byte wr (UInt8.ofNat (u / 256 ^ (7 - 2) % 256)) ((u:Int) / 1099511627776 % 256) (byte_at8 u 2 1099511627776 rfl)
   have hal:Below wr.heap.size wr (wr.alloc (.cells #[.int .u8 ((u:Int) / 1099511627776 % 256)] 5)):=(Below.refl _ _).alloc (Nat.le_refl _) _
   have HB:=Lib.hid hal
   have ho2:=HR.out.1.below hal
   have HE:=Lib.hid (be_step u 2 zTbe)
   clear hal
   go_wp2_with (at_builtin;refine wpList_app rfl _ _ rfl elemU8 zdhv ho2 zdhv hs1 zefz zTbe ?_;intro v7 w7 g1 g2 g3 g4 g5;clear ho2 hs1;have G7:=Lib.hid (HR.out.push HB.out g1 g2 g3 rfl rfl rfl);clear g1 g2 g3 g4 g5)
   refine ⟨⟨3,z3KH,zTbe,?_⟩,zQOc⟩
   exact zSuf
  ·have hs1:=sl_byte wr (UInt8.ofNat (u / 256 ^ (7 - 3) % 256)) ((u:Int) / 4294967296 % 256) (byte_at8 u 3 4294967296 rfl)
   have hal:Below wr.heap.size wr (wr.alloc (.cells #[.int .u8 ((u:Int) / 4294967296 % 256)] 5)):=(Below.refl _ _).alloc (Nat.le_refl _) _
   have HB:=Lib.hid hal
   have ho2:=HR.out.1.below hal
   have HE:=Lib.hid (be_step u 3 zTbe)
   clear hal
   go_wp2_with (at_builtin;refine wpList_app rfl _ _ rfl elemU8 zdhv ho2 zdhv hs1 zefz zTbe ?_;intro v7 w7 g1 g2 g3 g4 g5;clear ho2 hs1;have G7:=Lib.hid (HR.out.push HB.out g1 g2 g3 rfl rfl rfl);clear g1 g2 g3 g4 g5)
   refine ⟨⟨4,z3KH,zTbe,?_⟩,zQOc⟩
   exact zSuf
  ·have hs1:=sl_byte wr (UInt8.ofNat (u / 256 ^ (7 - 4) % 256)) ((u:Int) / 16777216 % 256) (byte_at8 u 4 16777216 rfl)
   have hal:Below wr.heap.size wr (wr.alloc (.cells #[.int .u8 ((u:Int) / 16777216 % 256)] 5)):=(Below.refl _ _).alloc (Nat.le_refl _) _
   have HB:=Lib.hid hal
   have ho2:=HR.out.1.below hal
   have HE:=Lib.hid (be_step u 4 zTbe)
   clear hal
   go_wp2_with (at_builtin;refine wpList_app rfl _ _ rfl elemU8 zdhv ho2 zdhv hs1 zefz zTbe ?_;intro v7 w7 g1 g2 g3 g4 g5;clear ho2 hs1;have G7:=Lib.hid (HR.out.push HB.out g1 g2 g3 rfl rfl rfl);clear g1 g2 g3 g4 g5)
   refine ⟨⟨5,z3KH,zTbe,?_⟩,zQOc⟩
   exact zSuf
  ·have hs1:=sl_byte wr (UInt8.ofNat (u / 256 ^ (7 - 5) % 256)) ((u:Int) / 65536 % 256) (byte_at8 u 5 65536 rfl)
   have hal:Below wr.heap.size wr (wr.alloc (.cells #[.int .u8 ((u:Int) / 65536 % 256)] 5)):=(Below.refl _ _).alloc (Nat.le_refl _) _
   have HB:=Lib.hid hal
   have ho2:=HR.out.1.below hal
   have HE:=Lib.hid (be_step u 5 zTbe)
   clear hal
   go_wp2_with (at_builtin;refine wpList_app rfl _ _ rfl elemU8 zdhv ho2 zdhv hs1 zefz zTbe ?_;intro v7 w7 g1 g2 g3 g4 g5;clear ho2 hs1;have G7:=Lib.hid (HR.out.push HB.out g1 g2 g3 rfl rfl rfl);clear g1 g2 g3 g4 g5)
   refine ⟨⟨6,z3KH,zTbe,?_⟩,zQOc⟩
   exact zSuf
  ·have hs1:=sl_byte wr (UInt8.ofNat (u / 256 ^ (7 - 6) % 256)) ((u:Int) / 256 % 256) (byte_at8 u 6 256 rfl)
   have hal:Below wr.heap.size wr (wr.alloc (.cells #[.int .u8 ((u:Int) / 256 % 256)] 5)):=(Below.refl _ _).alloc (Nat.le_refl _) _
   have HB:=Lib.hid hal
   have ho2:=HR.out.1.below hal
   have HE:=Lib.hid (be_step u 6 zTbe)
   clear hal
   go_wp2_with (at_builtin;refine wpList_app rfl _ _ rfl elemU8 zdhv ho2 zdhv hs1 zefz zTbe ?_;intro v7 w7 g1 g2 g3 g4 g5;clear ho2 hs1;have G7:=Lib.hid (HR.out.push HB.out g1 g2 g3 rfl rfl rfl);clear g1 g2 g3 g4 g5)
   refine ⟨⟨7,z3KH,zTbe,?_⟩,zQOc⟩
   exact zSuf
  ·have hs1:=sl_byte wr (UInt8.ofNat (u / 256 ^ (7 - 7) % 256)) ((u:Int) % 256) (byte_last u)
   have hal:Below wr.heap.size wr (wr.alloc (.cells #[.int .u8 ((u:Int) % 256)] 5)):=(Below.refl _ _).alloc (Nat.le_refl _) _
   have HB:=Lib.hid hal
   have ho2:=HR.out.1.below hal
   have HE:=Lib.hid (be_step u 7 zTbe)
   clear hal
   go_wp2_with (at_builtin;refine wpList_app rfl _ _ rfl elemU8 zdhv ho2 zdhv hs1 zefz zTbe ?_;intro v7 w7 g1 g2 g3 g4 g5;clear ho2 hs1;have G7:=Lib.hid (HR.out.push HB.out g1 g2 g3 rfl rfl rfl);clear g1 g2 g3 g4 g5)
   refine ⟨⟨8,z3KH,zTbe,?_⟩,zQOc⟩
   exact zSuf
  ·go_wp2
   go_ret
   have h7:=HQ.out
   simp only [Nat.sub_self,Nat.pow_zero,Nat.div_one,List.append_assoc,List.singleton_append] at h7
   rw [h7]
   exact ⟨_,rfl,HR.out⟩
theorem byteCells_by8 (s:ByteArray):byteCells s=by8 s.data.toList:=rfl
theorem byteCells_bs (l:List UInt8):byteCells (bs l)=by8 l:=by rw [byteCells_by8,bs_data]
theorem put_text (w:World) (hm:Mx w) (bv:Value) (l:List UInt8) (n:Int) (s:ByteArray) (hs:s.size≤1000) (ho:Own w 5 1 bv l.length (by8 l)) (hbm:¬ bv.ownBlock=some (Tryz.lays155_ren.g 1)) (hl:l.length≤100000) :
 Calls Tryz.prog 173 #[bv,.agg #[.int .i64 2,.int .i64 n,.string s]] w fun e w'=>∃ v',e=.returned v'∧Grew w bv (l++2::(esc 0 [0,255] s.data.toList++[0,1])) v' w':=by
 obtain ⟨p,cap,rfl,hc1,hc2⟩:=own_form ho
 obtain ⟨wb,hwb⟩:∃ wb,w.alloc (.cells #[.int .i64 2,.int .i64 n,.string s] 113)=wb:=⟨_,rfl⟩
 have hbb:=zdvx
 have hs0:=sl_byte wb 2 2 rfl
 have hal:Below w.heap.size w (wb.alloc (.cells #[.int .u8 2] 5)):=hbb.alloc hbb.size _
 have ho1:=ho.below hal
 have hk:Blk wb w.heap.size 113 [.int .i64 2,.int .i64 n,.string s]:=zZuX
 have hno:¬ (Value.slice p l.length cap).ownBlock=some w.heap.size:=fun h=>by have:=ho.lt _ h;omega
 have HK:=Lib.hid (fun (w1:World) (h:Only (fun k=>(Value.slice p l.length cap).ownBlock=some k) (wb.alloc (.cells #[.int .u8 2] 5)) w1)=>(hk.alloc (.cells #[.int .u8 2] 5)).only h hno)
 have t0:wb.cell? ⟨w.heap.size,0,none⟩=some (.int .i64 2):=hk.cell 0
 have HG:=Lib.hid (Grew.start ho)
 have HAL:=Lib.hid hal
 have HM:=Lib.hid (hm.below hal)
 have HBM:=Lib.hid hbm
 have e255:(⟨#[0,255]⟩:ByteArray).data.toList=[0,255]:=rfl
 have e0:(⟨#[0]⟩:ByteArray).data.toList=[0]:=rfl
 have HR:=Lib.hid (fun (w:World) (h:Mx w)=>repl_any w h s ⟨#[0]⟩ ⟨#[0,255]⟩ zTbe zcX3 zcX3)
 rw [e0,e255,replaceAll_one 0 [0,255] zcX3] at HR
 have hel:=(esc_length 0 0 255 s.data.toList).1
 have hsz:=size_list s _ rfl
 generalize esc 0 [0,255] s.data.toList=x at *
 have hx:(bs x).size≤2000:=by rw [bs_size];omega
 have hxl:(bs x).size=x.length:=bs_size x
 have hcx:=Lib.hid (byteCells_bs x)
 clear hbb hal hk ho hno hm hbm e255 e0 hel hsz
 generalize hbx:bs x=sx at *
 clear hbx
 go_enter Tryz.func173,Tryz.ntmps173
 go_wp2_with (first
  | rw [hwb]
  | (at_builtin;refine wpList_app rfl _ _ rfl elemU8 zdhv ho1 zdhv hs0 zefz zTbe ?_;intro v1 w1 g1 g2 g3 g4 g5;clear ho1 hs0
     have HK1:=HK.out w1 g2
     have t0:w1.cell? ⟨w.heap.size,0,none⟩=some (.int .i64 2):=HK1.cell 0
     have t2:w1.cell? ⟨w.heap.size,2,none⟩=some (.string s):=HK1.cell 2
     have HM1:=Lib.hid (HM.out.only g2 HBM.out)
     have G0:=Lib.hid (HG.out.push HAL.out g1 g2 g3 rfl rfl rfl);clear g1 g2 g3 g4 g5 HK1 HK HG HAL)
  | (go_at_call 192;refine (HR.out _ HM1.out).mono ?_;clear HR;rintro e w2 ⟨rfl,hb2⟩;have HB2:=Lib.hid hb2;have ho2:=G0.out.1.below hb2;clear hb2)
  | (at_builtin;refine wpList_app_str rfl _ _ rfl elemU8 Tryz.underlying9 zdhv ho2 sx zdhv zGLF ?_;intro v3 w3 g1 g2 g3 g4;clear ho2
     have G2:=Lib.hid (G0.out.push HB2.out g1 g2 g3 rfl hxl (by rw [hcx.out]));have ho3:=G2.out.1;clear g1 g2 g3 g4)
  | (at_builtin;refine wpList_app_str rfl _ _ rfl elemU8 Tryz.underlying9 zdhv ho3 ⟨#[0,1]⟩ zdhv (by simp only [List.length_append,List.length_cons,List.length_nil,←hxl];show _+2≤_;omega) ?_;intro v4 w4 g1 g2 g3 g4;clear ho3
     have G3:=Lib.hid (G2.out.push (Below.refl _ _) g1 g2 g3 rfl rfl (byteCells_by8 ⟨#[0,1]⟩▸rfl));clear g1 g2 g3 g4))
 go_ret
 exact ⟨_,rfl,G3.out.of zPXO⟩
theorem put_bool (w:World) (bv:Value) (l:List UInt8) (n:Int) (s:ByteArray) (hn:n=0∨n=1) (ho:Own w 5 1 bv l.length (by8 l)) (hl:l.length≤100000) :
 Calls Tryz.prog 173 #[bv,.agg #[.int .i64 3,.int .i64 n,.string s]] w fun e w'=>∃ v',e=.returned v'∧Grew w bv (l++[3,UInt8.ofNat n.toNat]) v' w':=by
 obtain ⟨p,cap,rfl,hc1,hc2⟩:=own_form ho
 obtain ⟨wb,hwb⟩:∃ wb,w.alloc (.cells #[.int .i64 3,.int .i64 n,.string s] 113)=wb:=⟨_,rfl⟩
 have hbb:=zdvx
 have hs0:=sl_byte wb 3 3 rfl
 have hal:Below w.heap.size w (wb.alloc (.cells #[.int .u8 3] 5)):=hbb.alloc hbb.size _
 have ho1:=ho.below hal
 have hk:Blk wb w.heap.size 113 [.int .i64 3,.int .i64 n,.string s]:=zZuX
 have hno:¬ (Value.slice p l.length cap).ownBlock=some w.heap.size:=fun h=>by have:=ho.lt _ h;omega
 have HK:=Lib.hid (fun (w1:World) (h:Only (fun k=>(Value.slice p l.length cap).ownBlock=some k) (wb.alloc (.cells #[.int .u8 3] 5)) w1)=>(hk.alloc (.cells #[.int .u8 3] 5)).only h hno)
 have t0:wb.cell? ⟨w.heap.size,0,none⟩=some (.int .i64 3):=hk.cell 0
 have HG:=Lib.hid (Grew.start ho)
 have HAL:=Lib.hid hal
 have hbyte:n=((UInt8.ofNat n.toNat).toNat:Int):=by rcases hn with rfl|rfl<;>rfl
 have HS2:=Lib.hid (fun w=>sl_byte w (UInt8.ofNat n.toNat) n hbyte)
 have hnr:0≤n∧n≤255:=zTbe
 obtain ⟨hn0,hn1⟩:=hnr
 clear hbb hal hk ho hno hbyte hn
 go_enter Tryz.func173,Tryz.ntmps173
 go_wp2_with (first
  | rw [hwb]
  | (at_builtin;refine wpList_app rfl _ _ rfl elemU8 zdhv ho1 zdhv hs0 zefz zTbe ?_;intro v1 w1 g1 g2 g3 g4 g5;clear ho1 hs0
     have HK1:=HK.out w1 g2
     have t0:w1.cell? ⟨w.heap.size,0,none⟩=some (.int .i64 3):=HK1.cell 0
     have t1:w1.cell? ⟨w.heap.size,1,none⟩=some (.int .i64 n):=HK1.cell 1
     have hs5:=HS2.out w1
     have HB1:Hid (Below w1.heap.size w1 (w1.alloc (.cells #[.int .u8 n] 5))):=(Below.refl _ _).alloc (Nat.le_refl _) _
     have G0:=Lib.hid (HG.out.push HAL.out g1 g2 g3 rfl rfl rfl);have ho2:=G0.out.1.below HB1.out;clear g1 g2 g3 g4 g5 HK1 HK HG HAL)
  | (at_builtin;refine wpList_app rfl _ _ rfl elemU8 zdhv ho2 zdhv hs5 zLdZ zGLF ?_;intro v3 w3 g1 g2 g3 g4 g5;clear ho2 hs5
     have G2:=Lib.hid (G0.out.push HB1.out g1 g2 g3 rfl rfl rfl);clear g1 g2 g3 g4))
 go_ret
 exact ⟨_,rfl,G2.out.of zPXO⟩
theorem put_any (w:World) (hm:Mx w) (bv:Value) (l:List UInt8) (v:AV) (hr:v.right=true) (hf:fit64 v.n) (ho:Own w 5 1 bv l.length (by8 l)) (hbm:¬ bv.ownBlock=some (Tryz.lays155_ren.g 1)) (hl:l.length≤100000) :
 Calls Tryz.prog 173 #[bv,v.agg] w fun e w'=>∃ v',e=.returned v'∧Grew w bv (l++keyB v) v' w':=by
 obtain ⟨k,n,s⟩:=v
 unfold AV.right at hr
 simp only [AV.agg,keyB] at hr hf ⊢
 by_cases h1:k=1
 ·subst h1
  rw [if_pos rfl]
  exact put_num w bv l n s hf ho hl
 rw [if_neg h1]
 by_cases h2:k=2
 ·subst h2
  rw [if_pos rfl]
  simp at hr
  exact put_text w hm bv l n s zTbe ho hbm hl
 rw [if_neg h2]
 simp [h1,h2] at hr
 obtain ⟨⟨rfl,h4⟩,_⟩:=hr
 exact put_bool w bv l n s h4 ho hl
theorem keysB_next (l:List AV) (k:Nat) (h:k < l.length):keysB (l.take (k+1))=keysB (l.take k)++keyB l[k]:=by
 unfold keysB
 rw [←List.take_append_getElem h,List.map_append,List.flatten_append]
 simp only [List.map_cons,List.map_nil,List.flatten_cons,List.flatten_nil,List.append_nil]
theorem keysB_len (l:List AV) (h:rightAll l=true) (k:Nat):(keysB (l.take k)).length≤410*(l.take k).length:=by
 unfold rightAll at h
 rw [List.all_eq_true] at h
 have h2:∀ a∈l.take k,a.right=true:=fun a ha=>h a (List.mem_of_mem_take ha)
 generalize l.take k=m at *
 unfold keysB
 induction m with
 | nil=>simp
 | cons a m ih =>
  have h3:=keyB_length a (h2 a zPXO)
  have h4:=ih (fun b hb=>h2 b (by simp [hb]))
  simp only [List.map_cons,List.flatten_cons,List.length_append,List.length_cons]
  omega
def rowKey (l:List AV):List UInt8:=if rightAll l then keysB l else []
theorem key_any (w:World) (hm:Mx w) (B:Nat→Prop) (v:Value) (l:List AV) (hl:Sl w B 3 v l.length (rowCells l)) (hf:∀ a∈l,fit64 a.n) (hll:l.length≤200) :
 Calls Tryz.prog 155 #[v] w fun e w'=>e=.returned (.string (bs (rowKey l)))∧Below w.heap.size w w':=by
 obtain ⟨p,cap,rfl,hc1,hc2⟩:=hl.form
 have HL:=Lib.hid hl
 have HM:=Lib.hid hm
 have HF:=Lib.hid hf
 have HR:=Lib.hid (right_any w B _ l hl zTbe)
 clear hl hm hf
 cases hr:rightAll l
 ·rw [hr] at HR
  have e1:bs (rowKey l)=⟨#[]⟩:=by unfold rowKey;rw [hr];rfl
  rw [e1]
  clear hr e1
  go_enter Tryz.func155,Tryz.ntmps155
  go_wp2_with (go_at_call 172;refine HR.out.mono ?_;clear HR;rintro e w2 ⟨rfl,hb2⟩)
  go_ret
  exact ⟨rfl,hb2⟩
 ·rw [hr] at HR
  have e1:rowKey l=keysB l:=by unfold rowKey;rw [hr];rfl
  rw [e1]
  have HRR:=Lib.hid hr
  clear hr e1
  go_enter Tryz.func155,Tryz.ntmps155
  go_wp2_with (go_at_call 172;refine HR.out.mono ?_;clear HR;rintro e w2 ⟨rfl,hb2⟩;have HB2:=Lib.hid hb2;clear hb2)
  go_loopw [3,11] (fun v i wr=>∃ k:Nat,i=.int .i64 k∧k≤l.length∧Own wr 5 1 v (keysB (l.take k)).length (by8 (keysB (l.take k)))∧(∀ q,v.ownBlock=some q→w.heap.size≤q)∧Below w.heap.size w wr) (fun _ i _=>l.length - (intOf i).toNat)
  case atStart=>exact ⟨0,rfl,Nat.zero_le _,Own.nil _ _ _,zfJ3,HB2.out⟩
  case round =>
   obtain ⟨k,rfl,hk,hown,hnew,hbr⟩:=hrel
   have hlen:=keysB_len l HRR.out k
   rw [List.length_take] at hlen
   have HN:=Lib.hid (fun h=>keysB_next l k h)
   generalize hq:keysB (l.take k)=q at *
   obtain ⟨pv,cv,rfl,hcv1,hcv2⟩:=own_form hown
   have HOWN:=Lib.hid hown
   have HNEW:=Lib.hid hnew
   have HBR:=Lib.hid hbr
   have HLR:=HL.out.below hbr
   clear hown hnew hbr
   by_cases hka:k < l.length
   ·obtain ⟨g,off,cap',hv,hg,e0,e1,e2⟩:=sl_av HLR hka
    cases hv
    have hrk:l[k].right=true:=by
     exact zhFB
    have hfk:=HF.out _ (List.getElem_mem hka)
    have HN2:=Lib.hid (HN.out hka)
    clear HN HLR
    generalize l[k]=x at *
    have hal:=zVak
    have hmr:=((HM.out.below HBR.out).below hal)
    have HP:=Lib.hid (put_any _ hmr (.slice pv q.length cv) q x hrk hfk (HOWN.out.below hal) (fun h=>by
     have h1:=HNEW.out _ h
     obtain ⟨m,h2⟩:=HM.out
     have h3:Tryz.lays155_ren.g 1 < w.heap.size:=World.block_lt_of_cell? _ _ h2
     omega) zTbe)
    have hag:=z3Mw
    rw [hag] at HP
    have HAL:=Lib.hid hal
    clear hrk hfk hal hmr hag
    go_wp2_with (go_at_call 173;refine HP.out.mono ?_;clear HP;rintro e w3 ⟨v3,rfl,hg3⟩;have HG3:=Lib.hid hg3;clear hg3)
    refine ⟨⟨k+1,z3KH,zTbe,?_,fun z hz=>?_,?_⟩,zQOc⟩
    ·rw [HN2.out];exact HG3.out.1
    ·have h5:=HBR.out.size
     have h6:=HAL.out.size
     rcases HG3.out.2.2 z hz with h|h
     ·exact HNEW.out z h
     ·omega
    ·exact (HBR.out.trans (HAL.out.mono HBR.out.size)).trans (HG3.out.2.1.below (by have:=HBR.out.size;have:=HAL.out.size;omega) (fun z hz=>HNEW.out z hz))
   ·obtain rfl:k=l.length:=by omega
    rw [List.take_length] at hq
    subst hq
    have kc:=sl_string wr (fun _=>True) _ (keysB l) (HOWN.out.sl (fun _ _=>trivial))
    go_wp2
    go_ret
    exact ⟨rfl,HBR.out⟩
theorem mx_of {W:World} (h:W.ShapedOpen Tryz.prog):Mx W :=
 cell_of_shapedOpen_int (g:=Tryz.lays155_ren.g 1) (t:=3) (zero:=#[.int .i64 0]) (k:=.i64) h zcX3 zyVB rfl zyVB zyVB Tryz.underlying3
end Go.Proofs.YteggkjdlajgenaaGreatDoor
namespace Go.Afx
open Go
theorem mem_ins_iff {k:Key} {v:Value}:∀ {l:List En},Rise l→∀ e:En,(e∈ins k v l↔e=⟨k,v⟩∨(e∈l∧e.key≠k))
 | [],_,e=>by simp [ins]
 | x::r,h,e=>by
  obtain ⟨h1,h2⟩:=List.pairwise_cons.1 h
  rw [ins]
  split
  ·rename_i hlt
   rw [List.mem_cons,List.mem_cons,mem_ins_iff h2 e]
   constructor
   ·rintro (rfl|h3|⟨h3,h4⟩)
    ·exact .inr ⟨.inl rfl,klt_ne hlt⟩
    ·exact .inl h3
    ·exact .inr ⟨.inr h3,h4⟩
   ·rintro (h3|⟨h3|h3,h4⟩)
    ·exact .inr (.inl h3)
    ·exact .inl h3
    ·exact .inr (.inr ⟨h3,h4⟩)
  ·split
   ·rename_i _ hk
    rw [List.mem_cons,List.mem_cons]
    constructor
    ·rintro (h3|h3)
     ·exact .inl h3
     ·refine .inr ⟨.inr h3,fun h4=>?_⟩
      have h5:=h1 e h3
      rw [hk,h4,klt_irrefl] at h5
      cases h5
    ·rintro (h3|⟨h3|h3,h4⟩)
     ·exact .inl h3
     ·rw [h3] at h4;exact absurd hk h4
     ·exact .inr h3
   ·rename_i hn hk
    have hlt:=klt_total _ _ (by simpa using hn) hk
    rw [List.mem_cons]
    constructor
    ·rintro (h3|h3)
     ·exact .inl h3
     ·refine .inr ⟨h3,fun h4=>?_⟩
      exact zLa6
    ·rintro (h3|⟨h3,_⟩)
     ·exact .inl h3
     ·exact .inr h3
theorem mem_del_iff {k:Key}:∀ {l:List En},Rise l→∀ e:En,(e∈del k l↔e∈l∧e.key≠k)
 | [],_,e=>by simp [del]
 | x::r,h,e=>by
  obtain ⟨h1,h2⟩:=List.pairwise_cons.1 h
  rw [del]
  split
  ·rename_i hlt
   rw [List.mem_cons,List.mem_cons,mem_del_iff h2 e]
   constructor
   ·rintro (rfl|⟨h3,h4⟩)
    ·exact ⟨.inl rfl,klt_ne hlt⟩
    ·exact ⟨.inr h3,h4⟩
   ·rintro ⟨h3|h3,h4⟩
    ·exact .inl h3
    ·exact .inr ⟨h3,h4⟩
  ·split
   ·rename_i _ hk
    rw [List.mem_cons]
    constructor
    ·intro h3
     refine ⟨.inr h3,fun h4=>?_⟩
     have h5:=h1 e h3
     rw [hk,h4,klt_irrefl] at h5
     cases h5
    ·rintro ⟨h3|h3,h4⟩
     ·rw [h3] at h4;exact absurd hk h4
     ·exact h3
   ·rename_i hn hk
    have hlt:=klt_total _ _ (by simpa using hn) hk
    constructor
    ·intro h3
     refine ⟨h3,fun h4=>?_⟩
     exact zLa6
    ·exact fun h3=>h3.1
theorem rise_eq:∀ (x y:List En),Rise x→Rise y→(∀ e,e∈x↔e∈y)→x=y
 | [],[],_,_,_=>rfl
 | [],e::y,_,_,h=>absurd ((h e).2 zPXO) zPXO
 | e::x,[],_,_,h=>absurd ((h e).1 zPXO) zPXO
 | e::x,f::y,hx,hy,h=>by
  obtain ⟨x1,x2⟩:=List.pairwise_cons.1 hx
  obtain ⟨y1,y2⟩:=List.pairwise_cons.1 hy
  have hef:e=f:=by
   rcases List.mem_cons.1 ((h e).1 zPXO) with h1|h1
   ·exact h1
   ·rcases List.mem_cons.1 ((h f).2 zPXO) with h2|h2
    ·exact h2.symm
    ·have h3:=y1 e h1
     have h4:=x1 f h2
     rw [klt_asymm _ _ h3] at h4
     cases h4
  subst hef
  have hrest:∀ q,q∈x↔q∈y:=fun q=>by
   have hn:∀ z:List En,(∀ a∈z,Op.bytesLess e.key a.key=true)→e∉z:=fun z hz hm=>by
    have:=hz e hm
    rw [klt_irrefl] at this
    cases this
   constructor
   ·intro hq
    rcases List.mem_cons.1 ((h q).1 (by simp [hq])) with h1|h1
    ·rw [h1] at hq;exact absurd hq (hn x x1)
    ·exact h1
   ·intro hq
    rcases List.mem_cons.1 ((h q).2 (by simp [hq])) with h1|h1
    ·rw [h1] at hq;exact absurd hq (hn y y1)
    ·exact h1
  rw [rise_eq x y x2 y2 hrest]
theorem look_mem {k:Key} {l:List En} (h:Rise l) (v:Value):look k l=some v↔⟨k,v⟩∈l:=by
 unfold look
 induction l with
 | nil=>simp
 | cons e r ih =>
  obtain ⟨h1,h2⟩:=List.pairwise_cons.1 h
  rw [List.find?_cons]
  by_cases hk:e.key=k
  ·rw [show (e.key == k)=true from beq_iff_eq.2 hk]
   simp only [Option.map_some,Option.some.injEq,List.mem_cons]
   constructor
   ·intro h3
    obtain ⟨ek,ev⟩:=e
    simp only at hk h3
    rw [hk,h3]
    exact .inl rfl
   ·rintro (h3|h3)
    ·rw [←h3]
    ·have:=h1 _ h3
     simp only at this
     rw [hk,klt_irrefl] at this
     cases this
  ·rw [show (e.key == k)=false from beq_eq_false_iff_ne.2 hk]
   rw [ih h2,List.mem_cons]
   constructor
   ·exact .inr
   ·rintro (h3|h3)
    ·rw [←h3] at hk;exact absurd rfl hk
    ·exact h3
theorem look_none_iff {k:Key} {l:List En} (h:Rise l):look k l=none↔∀ e∈l,e.key≠k:=by
 constructor
 ·intro h1 e he h2
  have h3:=(look_mem (k:=k) h e.val).2 (by obtain ⟨ek,ev⟩:=e;simp only at h2 ⊢;rw [←h2];exact he)
  rw [h1] at h3
  cases h3
 ·intro h1
  cases h2:look k l with
  | none=>rfl
  | some v=>exact absurd rfl (h1 _ ((look_mem h v).1 h2))
section
variable {α : Type} (kf : Nat → α → Key)
def insM (row:α):List α→List α
 | []=>[row]
 | r::t=>if Op.bytesLess (kf 0 row) (kf 0 r) then row::r::t else r::insM row t
def skipM (gone:Int):Nat→List α→List α
 | _,[]=>[]
 | i,r::t=>if (i:Int)=gone then skipM gone (i+1) t else r::skipM gone (i+1) t
def withM (rows:List α) (row:α) (gone:Int) (put:Bool):List α:=if put then insM kf row (skipM gone 0 rows) else skipM gone 0 rows
def findM (key:Key):List α→Nat→Int
 | [],_=>-1
 | r::t,i=>if kf 0 r=key then (i:Int) else findM key t (i+1)
def insBy (i:Nat) (row:α):List α→List α
 | []=>[row]
 | r::t=>if Op.bytesLess (kf i r) (kf i row) then r::insBy i row t else row::r::t
def byM (i:Nat) (rows:List α):List α:=rows.foldl (fun l r=>insBy kf i r l) []
def clashAt (un:Nat→Bool) (n:Nat) (row r:α):Bool:=(List.range n).any fun k=>un k && (kf k row == kf k r)
def clashGo (un:Nat→Bool) (n:Nat) (row:α) (but:Int):Nat→List α→Bool
 | _,[]=>false
 | i,r::t=>(!decide ((i:Int)=but) && clashAt kf un n row r) || clashGo un n row but (i+1) t
def clashM (un:Nat→Bool) (n:Nat) (rows:List α) (row:α) (but:Int):Bool:=clashGo kf un n row but 0 rows
def ents (L:List (α × Value)):List En:=L.map fun p=>⟨kf 0 p.1,p.2⟩
def insP (p:α × Value):List (α × Value)→List (α × Value)
 | []=>[p]
 | q::t=>if Op.bytesLess (kf 0 p.1) (kf 0 q.1) then p::q::t else q::insP p t
theorem insP_fst (p:α × Value):∀ L:List (α × Value),(insP kf p L).map Prod.fst=insM kf p.1 (L.map Prod.fst)
 | []=>rfl
 | q::t=>by
  rw [insP,List.map_cons,insM]
  split
  ·rfl
  ·rw [List.map_cons,insP_fst p t]
theorem mem_insP (p:α × Value):∀ (L:List (α × Value)) (q:α × Value),q∈insP kf p L↔q=p∨q∈L
 | [],q=>by simp [insP]
 | x::t,q=>by
  rw [insP]
  split
  ·simp
  ·rw [List.mem_cons,mem_insP p t,List.mem_cons]
   exact zOeE
theorem insP_len (p:α × Value):∀ L:List (α × Value),(insP kf p L).length=L.length+1
 | []=>rfl
 | x::t=>by
  rw [insP]
  split
  ·rfl
  ·rw [List.length_cons,insP_len p t];rfl
theorem insM_len (row:α):∀ l:List α,(insM kf row l).length=l.length+1
 | []=>rfl
 | x::t=>by
  rw [insM]
  split
  ·rfl
  ·rw [List.length_cons,insM_len row t];rfl
theorem mem_insM (row:α):∀ (l:List α) (q:α),q∈insM kf row l↔q=row∨q∈l
 | [],q=>by simp [insM]
 | x::t,q=>by
  rw [insM]
  split
  ·simp
  ·rw [List.mem_cons,mem_insM row t,List.mem_cons]
   exact zOeE
theorem ins_ents (p:α × Value):∀ L:List (α × Value),(∀ q∈L,kf 0 q.1≠kf 0 p.1)→ins (kf 0 p.1) p.2 (ents kf L)=ents kf (insP kf p L)
 | [],_=>rfl
 | q::t,h=>by
  have hq:=h q zPXO
  show ins (kf 0 p.1) p.2 (⟨kf 0 q.1,q.2⟩::ents kf t)=_
  rw [ins,insP]
  by_cases h1:Op.bytesLess (kf 0 q.1) (kf 0 p.1)=true
  ·rw [if_pos h1,if_neg (by rw [klt_asymm _ _ h1];simp),ins_ents p t (fun x hx=>h x zXFw)]
   rfl
  ·rw [if_neg h1,if_neg hq,if_pos (klt_total _ _ zVKw hq)]
   rfl
theorem skipM_none (l:List α):∀ i:Nat,skipM (-1) i l=l:=by
 induction l with
 | nil=>intro i;rfl
 | cons r t ih=>intro i;rw [skipM,if_neg zTbe,ih]
theorem skipM_past (l:List α) (g:Int):∀ i:Nat,g < (i:Int)→skipM g i l=l:=by
 induction l with
 | nil=>intro i _;rfl
 | cons r t ih=>intro i h;rw [skipM,if_neg zTbe,ih (i+1) zTbe]
theorem skipM_at:∀ (l:List α) (i j:Nat),skipM ((i+j:Nat):Int) j l=l.eraseIdx i
 | [],i,j=>by simp [skipM]
 | r::t,0,j=>by rw [skipM,if_pos zPXO,skipM_past t _ (j+1) zTbe];rfl
 | r::t,i+1,j=>by
  rw [skipM,if_neg zTbe,List.eraseIdx_cons_succ]
  have:=skipM_at t i (j+1)
  rw [show i+(j+1)=i+1+j by omega] at this
  rw [this]
theorem skipM_idx (l:List α) (i:Nat):skipM (i:Int) 0 l=l.eraseIdx i:=by
 have:=skipM_at l i 0
 simpa using this
theorem del_ents:∀ (L:List (α × Value)) (i:Nat) (hi:i < L.length),Rise (ents kf L)→del (kf 0 L[i].1) (ents kf L)=ents kf (L.eraseIdx i)
 | q::t,0,_,_=>by
  show del (kf 0 q.1) (⟨kf 0 q.1,q.2⟩::ents kf t)=_
  rw [del_hit]
  rfl
 | q::t,i+1,hi,h=>by
  have hi2:i < t.length:=z8WR
  have h2:Rise (⟨kf 0 q.1,q.2⟩::ents kf t):=h
  obtain ⟨h3,h4⟩:=List.pairwise_cons.1 h2
  have h5:=h3 ⟨kf 0 t[i].1,t[i].2⟩ (by unfold ents;exact List.mem_map.2 ⟨t[i],List.getElem_mem hi2,rfl⟩)
  show del (kf 0 t[i].1) (⟨kf 0 q.1,q.2⟩::ents kf t)=_
  rw [del,if_pos h5,del_ents t i hi2 h4]
  rfl
theorem erase_map {β:Type} (f:α→β):∀ (L:List α) (i:Nat),(L.eraseIdx i).map f=(L.map f).eraseIdx i
 | [],_=>zPXO
 | q::t,0=>rfl
 | q::t,i+1=>by
  rw [List.eraseIdx_cons_succ,List.map_cons,List.map_cons,List.eraseIdx_cons_succ,erase_map f t i]
theorem findM_spec (key:Key):∀ (l:List α) (j:Nat),(findM kf key l j=-1∧∀ r∈l,kf 0 r≠key)∨∃ i,∃ h:i < l.length,findM kf key l j=((j+i:Nat):Int)∧kf 0 l[i]=key
 | [],_=>.inl ⟨rfl,zPXO⟩
 | r::t,j=>by
  rw [findM]
  by_cases h:kf 0 r=key
  ·rw [if_pos h];exact .inr ⟨0,zPXO,rfl,h⟩
  ·rw [if_neg h]
   rcases findM_spec key t (j+1) with ⟨h1,h2⟩|⟨i,hi,h1,h2⟩
   ·exact .inl ⟨h1,fun x hx=>by
     rcases List.mem_cons.1 hx with rfl|hx
     ·exact h
     ·exact h2 x hx⟩
   ·exact .inr ⟨i+1,z8WR,by rw [h1];congr 1;omega,zT4F⟩
theorem clashGo_iff (un:Nat→Bool) (n:Nat) (row:α) (but:Int):∀ (l:List α) (j:Nat),clashGo kf un n row but j l=true↔∃ i,∃ h:i < l.length,((j+i:Nat):Int)≠but∧clashAt kf un n row l[i]=true
 | [],_=>by simp [clashGo]
 | r::t,j=>by
  rw [clashGo,Bool.or_eq_true,Bool.and_eq_true,clashGo_iff un n row but t (j+1)]
  constructor
  ·rintro (⟨h1,h2⟩|⟨i,hi,h1,h2⟩)
   ·exact ⟨0,zPXO,zVKw,zT4F⟩
   ·exact ⟨i+1,z8WR,by rw [show j+(i+1)=j+1+i by omega];exact h1,zT4F⟩
  ·rintro ⟨i,hi,h1,h2⟩
   cases i with
   | zero=>exact .inl ⟨zVKw,zT4F⟩
   | succ i=>exact .inr ⟨i,z8WR,by rw [show j+1+i=j+(i+1) by omega];exact h1,zT4F⟩
theorem mem_insBy (i:Nat) (row:α):∀ (l:List α) (q:α),q∈insBy kf i row l↔q=row∨q∈l
 | [],q=>by simp [insBy]
 | x::t,q=>by
  rw [insBy]
  split
  ·rw [List.mem_cons,mem_insBy i row t,List.mem_cons]
   exact zOeE
  ·simp
def SortedBy (i:Nat) (l:List α):Prop:=l.Pairwise fun a b=>Op.bytesLess (kf i a) (kf i b)=true
theorem SortedBy.insBy {i:Nat} {row:α}:∀ {l:List α},SortedBy kf i l→(∀ r∈l,kf i r≠kf i row)→SortedBy kf i (insBy kf i row l)
 | [],_,_=>by simp [Afx.insBy,SortedBy]
 | x::t,h,hn=>by
  obtain ⟨h1,h2⟩:=List.pairwise_cons.1 h
  rw [Afx.insBy]
  split
  ·rename_i hlt
   refine List.pairwise_cons.2 ⟨fun y hy=>?_,SortedBy.insBy h2 (fun r hr=>hn r (by simp [hr]))⟩
   rcases (mem_insBy kf i row t y).1 hy with rfl|hy
   ·exact hlt
   ·exact h1 y hy
  ·rename_i hlt
   have hl:Op.bytesLess (kf i row) (kf i x)=true:=klt_total _ _ (by simpa using hlt) (hn x zPXO)
   refine List.pairwise_cons.2 ⟨fun y hy=>?_,h⟩
   rcases List.mem_cons.1 hy with rfl|hy
   ·exact hl
   ·exact klt_trans _ _ _ hl (h1 y hy)
theorem byM_go (i:Nat):∀ (rows l:List α),SortedBy kf i l→(∀ r∈rows,∀ x∈l,kf i x≠kf i r)→rows.Pairwise (fun a b=>kf i a≠kf i b) →
 SortedBy kf i (rows.foldl (fun l r=>Afx.insBy kf i r l) l)∧∀ q,q∈rows.foldl (fun l r=>Afx.insBy kf i r l) l↔q∈rows∨q∈l
 | [],l,h,_,_=>⟨h,fun q=>zPXO⟩
 | r::rows,l,h,hd,hp=>by
  obtain ⟨p1,p2⟩:=List.pairwise_cons.1 hp
  have h1:=h.insBy kf (row:=r) (fun x hx=>hd r zPXO x hx)
  obtain ⟨g1,g2⟩:=byM_go i rows (Afx.insBy kf i r l) h1 (fun y hy x hx=>by
   rcases (mem_insBy kf i r l x).1 hx with rfl|hx
   ·exact p1 y hy
   ·exact hd y (by simp [hy]) x hx) p2
  refine ⟨g1,fun q=>?_⟩
  rw [List.foldl_cons,g2 q,mem_insBy]
  constructor
  ·rintro (h|h|h)
   ·exact .inl (by simp [h])
   ·exact .inl (by simp [h])
   ·exact .inr h
  ·rintro (h|h)
   ·rcases List.mem_cons.1 h with h|h
    ·exact .inr (.inl h)
    ·exact .inl h
   ·exact .inr (.inr h)
theorem byM_spec (i:Nat) (rows:List α) (hp:rows.Pairwise (fun a b=>kf i a≠kf i b)):SortedBy kf i (byM kf i rows)∧∀ q,q∈byM kf i rows↔q∈rows:=by
 obtain ⟨h1,h2⟩:=byM_go kf i rows [] List.Pairwise.nil (fun _ _ x hx=>by simp at hx) hp
 exact ⟨h1,fun q=>by rw [byM,h2 q];simp⟩
def idxEnts (i:Nat) (rows:List α):List En:=(byM kf i rows).map fun r=>⟨kf i r,.string (kb (kf 0 r))⟩
theorem idxEnts_rise (i:Nat) (rows:List α) (hp:rows.Pairwise (fun a b=>kf i a≠kf i b)):Rise (idxEnts kf i rows):=by
 unfold idxEnts Rise
 rw [List.pairwise_map]
 exact (byM_spec kf i rows hp).1
theorem mem_idxEnts (i:Nat) (rows:List α) (hp:rows.Pairwise (fun a b=>kf i a≠kf i b)) (e:En):e∈idxEnts kf i rows↔∃ r∈rows,e=⟨kf i r,.string (kb (kf 0 r))⟩:=by
 unfold idxEnts
 rw [List.mem_map]
 constructor
 ·rintro ⟨r,hr,rfl⟩
  exact ⟨r,((byM_spec kf i rows hp).2 r).1 hr,rfl⟩
 ·rintro ⟨r,hr,rfl⟩
  exact ⟨r,((byM_spec kf i rows hp).2 r).2 hr,rfl⟩
structure TabM (n:Nat) (rows:List α):Prop where
 sort:SortedBy kf 0 rows
 uniq:∀ i,i < n→rows.Pairwise fun a b=>kf i a≠kf i b
theorem TabM.nil (n:Nat):TabM kf n ([]:List α):=⟨List.Pairwise.nil,fun _ _=>List.Pairwise.nil⟩
theorem SortedBy.insM {row:α}:∀ {l:List α},SortedBy kf 0 l→(∀ r∈l,kf 0 r≠kf 0 row)→SortedBy kf 0 (insM kf row l)
 | [],_,_=>by simp [Afx.insM,SortedBy]
 | x::t,h,hn=>by
  obtain ⟨h1,h2⟩:=List.pairwise_cons.1 h
  rw [Afx.insM]
  split
  ·rename_i hlt
   refine List.pairwise_cons.2 ⟨fun y hy=>?_,h⟩
   rcases List.mem_cons.1 hy with rfl|hy
   ·exact hlt
   ·exact klt_trans _ _ _ hlt (h1 y hy)
  ·rename_i hlt
   have hl:Op.bytesLess (kf 0 x) (kf 0 row)=true:=klt_total _ _ (by simpa using hlt) (Ne.symm (hn x zPXO))
   refine List.pairwise_cons.2 ⟨fun y hy=>?_,SortedBy.insM h2 (fun r hr=>hn r (by simp [hr]))⟩
   rcases (mem_insM kf row t y).1 hy with rfl|hy
   ·exact hl
   ·exact h1 y hy
theorem pair_insM {i:Nat} {row:α}:∀ {l:List α},l.Pairwise (fun a b=>kf i a≠kf i b)→(∀ r∈l,kf i r≠kf i row)→(insM kf row l).Pairwise (fun a b=>kf i a≠kf i b)
 | [],_,_=>by simp [Afx.insM]
 | x::t,h,hn=>by
  obtain ⟨h1,h2⟩:=List.pairwise_cons.1 h
  rw [Afx.insM]
  split
  ·refine List.pairwise_cons.2 ⟨fun y hy=>?_,h⟩
   exact Ne.symm (hn y hy)
  ·refine List.pairwise_cons.2 ⟨fun y hy=>?_,pair_insM h2 (fun r hr=>hn r (by simp [hr]))⟩
   rcases (mem_insM kf row t y).1 hy with rfl|hy
   ·exact hn x zPXO
   ·exact h1 y hy
theorem TabM.put {n:Nat} {rows:List α} {row:α} (h:TabM kf n rows) (hn:0 < n) (hd:∀ i,i < n→∀ r∈rows,kf i r≠kf i row):TabM kf n (insM kf row rows) :=
 ⟨h.sort.insM kf (hd 0 hn),fun i hi=>pair_insM kf (h.uniq i hi) (hd i hi)⟩
theorem TabM.erase {n:Nat} {rows:List α} (h:TabM kf n rows) (j:Nat):TabM kf n (rows.eraseIdx j) :=
 ⟨h.sort.sublist (List.eraseIdx_sublist _ _),fun i hi=>(h.uniq i hi).sublist (List.eraseIdx_sublist _ _)⟩
theorem idx_put {n:Nat} {rows:List α} {row:α} (h:TabM kf n rows) (hn:0 < n) (hd:∀ i,i < n→∀ r∈rows,kf i r≠kf i row) {i:Nat} (hi:i < n) :
 idxEnts kf i (insM kf row rows)=ins (kf i row) (.string (kb (kf 0 row))) (idxEnts kf i rows):=by
 have h2:=h.put kf hn hd
 refine rise_eq _ _ (idxEnts_rise kf i _ (h2.uniq i hi)) (idxEnts_rise kf i _ (h.uniq i hi)).ins (fun e=>?_)
 rw [mem_idxEnts kf i _ (h2.uniq i hi),mem_ins_iff (idxEnts_rise kf i _ (h.uniq i hi)),mem_idxEnts kf i _ (h.uniq i hi)]
 constructor
 ·rintro ⟨r,hr,rfl⟩
  rcases (mem_insM kf row rows r).1 hr with rfl|hr
  ·exact .inl rfl
  ·exact .inr ⟨⟨r,hr,rfl⟩,hd i hi r hr⟩
 ·rintro (rfl|⟨⟨r,hr,rfl⟩,_⟩)
  ·exact ⟨row,(mem_insM kf row rows row).2 (.inl rfl),rfl⟩
  ·exact ⟨r,(mem_insM kf row rows r).2 (.inr hr),rfl⟩
theorem mem_erase_ne {i:Nat}:∀ {rows:List α} (_:rows.Pairwise fun a b=>kf i a≠kf i b) {j:Nat} (hj:j < rows.length) (r:α),r∈rows.eraseIdx j↔r∈rows∧kf i r≠kf i rows[j]
 | x::t,h,0,_,r=>by
  obtain ⟨h1,h2⟩:=List.pairwise_cons.1 h
  show r∈t↔r∈x::t∧kf i r≠kf i x
  constructor
  ·exact fun hr=>⟨by simp [hr],Ne.symm (h1 r hr)⟩
  ·rintro ⟨hr,hn⟩
   rcases List.mem_cons.1 hr with rfl|hr
   ·exact absurd rfl hn
   ·exact hr
 | x::t,h,j+1,hj,r=>by
  obtain ⟨h1,h2⟩:=List.pairwise_cons.1 h
  have hj2:j < t.length:=by simpa using hj
  show r∈x::t.eraseIdx j↔r∈x::t∧kf i r≠kf i t[j]
  rw [List.mem_cons,List.mem_cons,mem_erase_ne h2 hj2 r]
  constructor
  ·rintro (rfl|⟨h3,h4⟩)
   ·exact ⟨.inl rfl,h1 _ (List.getElem_mem hj2)⟩
   ·exact ⟨.inr h3,h4⟩
  ·rintro ⟨h3|h3,h4⟩
   ·exact .inl h3
   ·exact .inr ⟨h3,h4⟩
theorem idx_erase {n:Nat} {rows:List α} (h:TabM kf n rows) {i j:Nat} (hi:i < n) (hj:j < rows.length) :
 idxEnts kf i (rows.eraseIdx j)=del (kf i rows[j]) (idxEnts kf i rows):=by
 have h2:=h.erase kf j
 refine rise_eq _ _ (idxEnts_rise kf i _ (h2.uniq i hi)) (idxEnts_rise kf i _ (h.uniq i hi)).del (fun e=>?_)
 rw [mem_idxEnts kf i _ (h2.uniq i hi),mem_del_iff (idxEnts_rise kf i _ (h.uniq i hi)),mem_idxEnts kf i _ (h.uniq i hi)]
 constructor
 ·rintro ⟨r,hr,rfl⟩
  obtain ⟨h3,h4⟩:=(mem_erase_ne kf (h.uniq i hi) hj r).1 hr
  exact ⟨⟨r,h3,rfl⟩,h4⟩
 ·rintro ⟨⟨r,hr,rfl⟩,h4⟩
  exact ⟨r,(mem_erase_ne kf (h.uniq i hi) hj r).2 ⟨hr,h4⟩,rfl⟩
theorem idx_len {n:Nat} {rows:List α} (i:Nat):(idxEnts kf i rows).length=rows.length:=by
 have h1:∀ (rows l:List α),(rows.foldl (fun l r=>Afx.insBy kf i r l) l).length=rows.length+l.length:=by
  intro rows
  induction rows with
  | nil=>intro l;simp
  | cons r t ih =>
   intro l
   have h2:∀ (l:List α),(Afx.insBy kf i r l).length=l.length+1:=by
    intro l
    induction l with
    | nil=>rfl
    | cons x l ih2 =>
     rw [Afx.insBy]
     split
     ·rw [List.length_cons,ih2];rfl
     ·rfl
   rw [List.foldl_cons,ih,h2,List.length_cons]
   omega
 unfold idxEnts byM
 rw [List.length_map,h1 rows []]
 simp
end
end Go.Afx
namespace Go.Proofs.YteggkjdlajgenaaGreatDoor
open Go.RowKit Go.Afx
def strs (l:List Key):List Value:=l.map fun k=>.string (kb k)
theorem strs_append (a b:List Key):strs (a++b)=strs a++strs b:=by simp [strs]
theorem strs_length (a:List Key):(strs a).length=a.length:=by simp [strs]
theorem elemKey:Elem Tryz.prog 130 9 1 16 (.string ⟨#[]⟩) :=
 ⟨Tryz.underlying130,zyVB,rfl,zTbe,zOaE⟩
def letterB (c:UInt8):Bool:=decide (97≤c.toNat) && decide (c.toNat≤122)
def partB (c:UInt8):Bool:=letterB c || (decide (48≤c.toNat) && decide (c.toNat≤57)) || c.toNat == 95
def namedL:List UInt8→Bool
 | []=>false
 | c::t=>decide (t.length≤15) && letterB c && t.all partB
def namedB (s:ByteArray):Bool:=namedL s.data.toList
theorem letter_part (c:UInt8) (h:letterB c=true):partB c=true:=by unfold partB;rw [h];rfl
theorem letter_any (w:World) (c:UInt8):Calls Tryz.prog 130 #[.int .u8 (c.toNat:Int)] w fun e w'=>e=.returned (.bool (letterB c))∧w=w':=by
 have hc:(c.toNat:Int) < 256:=by have:=c.toNat_lt;omega
 have hl:letterB c=(decide ((97:Int)≤(c.toNat:Int)) && decide ((c.toNat:Int)≤122)):=by
  unfold letterB
  congr 1<;>(rw [Bool.eq_iff_iff];simp;omega)
 rw [hl]
 have h0:(0:Int)≤(c.toNat:Int):=zTbe
 generalize (c.toNat:Int)=n at *
 clear hl
 by_cases h1:97≤n
 ·have e1:decide ((97:Int)≤n)=true:=decide_eq_true h1
  rw [e1]
  go_enter Tryz.func130,Tryz.ntmps130
  go_wp2
  go_ret
  exact ⟨rfl,rfl⟩
 ·have e1:decide ((97:Int)≤n)=false:=decide_eq_false h1
  rw [e1]
  go_enter Tryz.func130,Tryz.ntmps130
  go_wp2
  go_ret
  exact ⟨rfl,rfl⟩
theorem part_any (w:World) (c:UInt8):Calls Tryz.prog 131 #[.int .u8 (c.toNat:Int)] w fun e w'=>e=.returned (.bool (partB c))∧w=w':=by
 have HL:=Lib.hid (letter_any w c)
 have hc:(c.toNat:Int) < 256:=by have:=c.toNat_lt;omega
 have hp:partB c=(letterB c || (decide ((48:Int)≤(c.toNat:Int)) && decide ((c.toNat:Int)≤57)) || ((c.toNat:Int) == 95)):=by
  unfold partB
  congr 1
  ·congr 1
   congr 1<;>(rw [Bool.eq_iff_iff];simp;omega)
  ·rw [Bool.eq_iff_iff];simp;omega
 rw [hp]
 have h0:(0:Int)≤(c.toNat:Int):=zTbe
 generalize letterB c=lb at *
 generalize (c.toNat:Int)=n at *
 clear hp
 cases lb
 ·by_cases h1:48≤n
  ·have e1:decide ((48:Int)≤n)=true:=decide_eq_true h1
   by_cases h2:n≤57
   ·have e2:decide (n≤57)=true:=decide_eq_true h2
    exact zsG9
   ·have e2:decide (n≤57)=false:=decide_eq_false h2
    exact zsG9
  ·have e1:decide ((48:Int)≤n)=false:=decide_eq_false h1
   rw [e1]
   go_enter Tryz.func131,Tryz.ntmps131
   exact zjtC
 ·go_enter Tryz.func131,Tryz.ntmps131
  exact zjtC
theorem named_any (w:World) (s:ByteArray) (hs:s.size≤maxLen):Calls Tryz.prog 96 #[.string s] w fun e w'=>e=.returned (.bool (namedB s))∧Below w.heap.size w w':=by
 obtain ⟨l,hl⟩:=z9tc
 have hsz:=size_list s l hl
 have hem:=toList_list s l hl
 have hN:namedB s=namedL l:=by unfold namedB;rw [hl]
 rw [hN]
 have HG:=Lib.hid (get_list s l hl)
 have kc:=zUgE
 unfold maxLen at hs
 cases l with
 | nil =>
  have e1:s.toList.isEmpty=true:=hem
  clear kc hem HG hN hl
  go_enter Tryz.func96,Tryz.ntmps96
  exact zI6W
 | cons c t =>
  have e1:s.toList.isEmpty=false:=hem
  rw [List.length_cons] at hsz
  have hg0:∀ (h:0 < s.size),((s[0]'h).toNat:Int)=(c.toNat:Int):=fun h=>by rw [HG.out 0 h zPXO];rfl
  have h0s:0 < s.size:=zTbe
  have hg1:=hg0 h0s
  have HLT:=Lib.hid (fun w=>letter_any w c)
  by_cases h16:15 < t.length
  ·have e2:decide ((16:Int) < s.size)=true:=decide_eq_true zTbe
   have e3:namedL (c::t)=false:=by show (decide (t.length≤15) && letterB c && t.all partB)=false;rw [decide_eq_false zTbe];rfl
   rw [e3]
   clear kc hem HG hN hl e3
   go_enter Tryz.func96,Tryz.ntmps96
   exact zI6W
  ·have e2:decide ((16:Int) < s.size)=false:=decide_eq_false zTbe
   have e3:namedL (c::t)=(letterB c && t.all partB):=by show (decide (t.length≤15) && letterB c && t.all partB)=_;rw [decide_eq_true zTbe];rfl
   cases hlb:letterB c
   ·have e4:namedL (c::t)=false:=by rw [e3,hlb];rfl
    rw [e4]
    rw [hlb] at HLT
    clear kc hem HG hN hl e3 e4 hlb
    go_enter Tryz.func96,Tryz.ntmps96
    go_wp2_with (go_at_call 130;refine (HLT.out _).mono ?_;rintro e w2 ⟨rfl,rfl⟩)
    go_ret
    exact ⟨rfl,Below.refl _ _⟩
   ·have e4:namedL (c::t)=(c::t).all partB:=by rw [e3,hlb,List.all_cons,letter_part c hlb]
    rw [e4]
    rw [hlb] at HLT
    have HC:Hid (∀ k (h:k < (c::t).length),(cvW w s 5).cell? ⟨w.heap.size,k,none⟩=some (.int .u8 ((c::t)[k].toNat:Int))):=fun k h=>cvW_cell w s _ _ hl k h
    have HB:Hid (Below w.heap.size w (cvW w s 5)):=cvW_below w s _
    have hs2:s.size=(c::t).length:=by rw [List.length_cons];exact hsz
    have hl17:(c::t).length≤16:=by rw [List.length_cons];omega
    clear hem HG hN hl e3 e4 hlb hsz h16
    generalize (c::t)=l at *
    go_enter Tryz.func96,Tryz.ntmps96
    go_wp2_with (go_at_call 130;refine (HLT.out _).mono ?_;rintro e w2 ⟨rfl,rfl⟩)
    clear kc hg0 hg1 e1 e2
    go_loop [21] (fun i=>∃ k:Nat,i=.int .i64 k∧k≤l.length∧(l.take k).all partB=true) (fun i=>l.length - (intOf i).toNat)
    case atStart=>exact ⟨0,rfl,Nat.zero_le _,rfl⟩
    case round =>
     obtain ⟨k,rfl,hk,hr⟩:=hrel
     by_cases hka:k < l.length
     ·have hck:=HC.out k hka
      have HX:Hid (∀ b,partB l[k]=b→(l.take (k+1)).all partB=b):=fun b hb=>by
       exact zfb0
      have HY:Hid (partB l[k]=false→l.all partB=false):=fun h=>by
       rw [List.all_eq_false]
       exact ⟨l[k],List.getElem_mem hka,by simp [h]⟩
      have HP:=Lib.hid (fun w=>part_any w l[k])
      clear hr
      generalize l[k]=x at *
      cases hx:partB x
      ·rw [hx] at HP
       have HF:=Lib.hid (HY.out hx)
       clear hx HX HY
       go_wp2_with (go_at_call 131;refine (HP.out _).mono ?_;rintro e w2 ⟨rfl,rfl⟩)
       go_ret
       exact ⟨zS9n,HB.out⟩
      ·rw [hx] at HP
       have HF:=Lib.hid (HX.out true hx)
       clear hx HX HY
       go_wp2_with (go_at_call 131;refine (HP.out _).mono ?_;rintro e w2 ⟨rfl,rfl⟩)
       exact zamW
     ·obtain rfl:k=l.length:=by omega
      rw [List.take_length] at hr
      have HR:=Lib.hid hr
      clear hr
      go_wp2
      go_ret
      exact ⟨by rw [HR.out];rfl,HB.out⟩
def nameAt (k:Nat) (c:UInt8):Bool:=letterB c || (decide (k≠0) && partB c)
theorem namedL_at (l:List UInt8) (h1:1≤l.length) (h16:l.length≤16) (h:∀ k (hk:k < l.length),nameAt k l[k]=true):namedL l=true:=by
 cases l with
 | nil=>simp at h1
 | cons c t =>
  show (decide (t.length≤15) && letterB c && t.all partB)=true
  have h0:=h 0 zPXO
  simp only [List.length_cons] at h16
  have hl:letterB c=true:=by simpa [nameAt] using h0
  rw [decide_eq_true zTbe,hl,List.all_eq_true.2]
  ·rfl
  ·intro x hx
   obtain ⟨k,hk,rfl⟩:=List.getElem_of_mem hx
   have:=h (k+1) zr2F
   unfold nameAt at this
   rw [List.getElem_cons_succ] at this
   simp at this
   rcases this with h|h
   ·exact letter_part _ h
   ·exact h
theorem namedL_not (l:List UInt8) (k:Nat) (hk:k < l.length) (h:nameAt k l[k]=false):namedL l=false:=by
 cases l with
 | nil=>rfl
 | cons c t =>
  show (decide (t.length≤15) && letterB c && t.all partB)=false
  unfold nameAt at h
  rw [Bool.or_eq_false_iff] at h
  cases k with
  | zero =>
   rw [List.getElem_cons_zero] at h
   rw [h.1];simp
  | succ k =>
   rw [List.getElem_cons_succ] at h
   have:t.all partB=false:=by
    rw [List.all_eq_false]
    exact ⟨t[k]'(zFJU),List.getElem_mem _,by have:=h.2;simp at this;simp [this]⟩
   rw [this];simp
theorem refnamed (w:World) (s:ByteArray) (hs:s.size≤maxLen):Calls Tryz.prog 52 #[.string s] w fun e w'=>e=.returned (.bool (namedB s))∧w=w':=by
 obtain ⟨l,hl⟩:=z9tc
 have hsz:=size_list s l hl
 have hN:namedB s=namedL l:=by unfold namedB;rw [hl]
 rw [hN]
 have HG:=Lib.hid (get_list s l hl)
 unfold maxLen at hs
 clear hN hl
 by_cases h1:s.size < 1
 ·have e1:decide ((s.size:Int) < 1)=true:=decide_eq_true zTbe
  obtain rfl:l=[]:=List.eq_nil_of_length_eq_zero zTbe
  go_enter Tryz.func52,Tryz.ntmps52
  exact zWFb
 have e1:decide ((s.size:Int) < 1)=false:=decide_eq_false zTbe
 by_cases h16:16 < s.size
 ·have e2:decide ((16:Int) < s.size)=true:=decide_eq_true zTbe
  have e3:namedL l=false:=by
   cases l with
   | nil=>rfl
   | cons c t =>
    rw [List.length_cons] at hsz
    show (decide (t.length≤15) && letterB c && t.all partB)=false
    rw [decide_eq_false zTbe];rfl
  rw [e3]
  clear e3
  go_enter Tryz.func52,Tryz.ntmps52
  exact zWFb
 have e2:decide ((16:Int) < s.size)=false:=decide_eq_false zTbe
 have HT:Hid ((∀ k (hk:k < l.length),nameAt k l[k]=true)→namedL l=true):=fun h=>namedL_at l zTbe zTbe h
 have HF:Hid (∀ k (hk:k < l.length),nameAt k l[k]=false→namedL l=false):=fun k hk h=>namedL_not l k hk h
 have hlen:l.length≤16:=zTbe
 have HSZ:=Lib.hid hsz
 clear h1 h16 hsz
 go_enter Tryz.func52,Tryz.ntmps52
 go_wp2
 clear e1 e2
 go_loop [3] (fun i=>∃ k:Nat,i=.int .i64 k∧k≤l.length∧∀ j (hj:j < l.length),j < k→nameAt j l[j]=true) (fun i=>l.length - (intOf i).toNat)
 case atStart=>exact ⟨0,rfl,Nat.zero_le _,fun j _ h=>absurd h (Nat.not_lt_zero _)⟩
 case round =>
  obtain ⟨k,rfl,hk,hr⟩:=hrel
  have HR:=Lib.hid hr
  clear hr
  have hks:(s.size:Int)=l.length:=by rw [HSZ.out]
  by_cases hka:k < l.length
  ·have hki:(k:Int) < s.size:=by omega
   have hks2:k < s.size:=zTbe
   have hg:((s[k]'hks2).toNat:Int)=(l[k].toNat:Int):=by rw [HG.out k hks2 hka]
   have HX:Hid (nameAt k l[k]=true→∀ j (hj:j < l.length),j < k+1→nameAt j l[j]=true):=fun h j hj hjk=>by
    rcases Nat.lt_or_ge j k with h2|h2
    ·exact HR.out j hj h2
    ·obtain rfl:j=k:=by omega
     exact h
   have HY:=Lib.hid (HF.out k hka)
   have hna:nameAt k l[k]=((decide ((97:Int)≤(l[k].toNat:Int)) && decide ((l[k].toNat:Int)≤122)) || (decide ((k:Int)≠0) && ((decide ((48:Int)≤(l[k].toNat:Int)) && decide ((l[k].toNat:Int)≤57)) || ((l[k].toNat:Int) == 95)))):=by
    have hl:letterB l[k]=(decide ((97:Int)≤(l[k].toNat:Int)) && decide ((l[k].toNat:Int)≤122)):=by
     unfold letterB
     congr 1<;>(rw [Bool.eq_iff_iff];simp;omega)
    have hp:(decide (48≤l[k].toNat) && decide (l[k].toNat≤57))=(decide ((48:Int)≤(l[k].toNat:Int)) && decide ((l[k].toNat:Int)≤57)):=by congr 1<;>(rw [Bool.eq_iff_iff];simp;omega)
    have hq:(l[k].toNat == 95)=((l[k].toNat:Int) == 95):=by rw [Bool.eq_iff_iff];simp;omega
    have hz:decide (k≠0)=decide ((k:Int)≠0):=by rw [Bool.eq_iff_iff];simp
    unfold nameAt partB
    rw [hl,hp,hq,hz]
    generalize (decide ((97:Int)≤(l[k].toNat:Int)) && decide ((l[k].toNat:Int)≤122))=a
    generalize decide ((k:Int)≠0)=b
    cases a<;>cases b<;>rfl
   have hc:(l[k].toNat:Int) < 256:=by have:=l[k].toNat_lt;omega
   have hc0:(0:Int)≤(l[k].toNat:Int):=zTbe
   rw [hna] at HX HY
   clear hna
   generalize (l[k].toNat:Int)=c at *
   cases a1:decide ((97:Int)≤c)<;>cases a2:decide (c≤122)<;>cases a3:decide ((48:Int)≤c)<;>cases a4:decide (c≤57)<;>cases a5:(c == 95)<;>(first|(exfalso;simp at a1 a2 a3 a4 a5;omega)|skip)
   all_goals
    rw [a1,a2,a3,a4,a5] at HX HY
    have b5:(c != 95)=!(c == 95):=rfl
    rw [a5] at b5
    simp only [Bool.not_true,Bool.not_false] at b5
    rcases Nat.eq_zero_or_pos k with hk0|hk0
   all_goals
    first
     | subst hk0
     | (have hkb:((k:Int) == 0)=false:=beq_eq_false_iff_ne.2 zTbe;have hkd:decide ((k:Int)≠0)=true:=decide_eq_true zTbe;rw [hkd] at HX HY;clear hkd)
    go_wp2
    first
     | (go_ret;exact ⟨by rw [HY.out zPXO];rfl,rfl⟩)
     | (go_round;
        case rel=>exact ⟨_,z3KH,zTbe,HX.out zPXO⟩
        case measure=>(simp [intOf])<;>omega)
  ·obtain rfl:k=l.length:=by omega
   have e1:=HT.out (fun j hj=>HR.out j hj hj)
   have E1:=Lib.hid e1
   clear e1
   go_wp2
   go_ret
   exact ⟨z4CO,rfl⟩
structure ColV where
 name:ByteArray
 kind:Int
def ColV.cells (c:ColV):List Value:=[.string c.name,.int .i64 c.kind]
def ColV.agg (c:ColV):Value:=.agg #[.string c.name,.int .i64 c.kind]
structure IdxV where
 v:Value
 l:List Int
 unique:Bool
def IdxV.cells (x:IdxV):List Value:=[x.v,.bool x.unique]
def IdxV.agg (x:IdxV):Value:=.agg #[x.v,.bool x.unique]
def colCells (l:List ColV):List Value:=(l.map ColV.cells).flatten
def idxCells (l:List IdxV):List Value:=(l.map IdxV.cells).flatten
def IdxAt (w:World) (B:Nat→Prop) (v:Value) (l:List IdxV):Prop:=Sl w B 2 v l.length (idxCells l)∧∀ x∈l,Sl w B 1 x.v x.l.length (ints x.l)
theorem IdxAt.below {w w':World} {B:Nat→Prop} {v:Value} {l:List IdxV} (h:IdxAt w B v l) (hb:Below w.heap.size w w'):IdxAt w' B v l:=⟨h.1.below hb,fun x hx=>(h.2 x hx).below hb⟩
theorem cells2_at {α:Type} (f:α→List Value) (hf:∀ a,(f a).length=2) (l:List α) (k r:Nat) (hk:k < l.length) (hr:r < 2):((l.map f).flatten)[k*2+r]?=(f l[k])[r]?:=by
 have hlen:∀ c∈l.map f,c.length=2:=by
  exact ztz1
 exact zAOB
theorem cells2_length {α:Type} (f:α→List Value) (hf:∀ a,(f a).length=2) (l:List α):((l.map f).flatten).length=l.length*2:=by
 have hlen:∀ c∈l.map f,c.length=2:=by
  exact ztz1
 exact z6Ba
theorem sl_two {α:Type} {f:α→List Value} (hf:∀ a,(f a).length=2) {w:World} {B:Nat→Prop} {v:Value} {l:List α} (h:Sl w B 2 v l.length ((l.map f).flatten)) {k:Nat} (hk:k < l.length) :
 ∃ g off cap,v=.slice (some ⟨g,off,none⟩) l.length cap∧g < w.heap.size∧w.cell? ⟨g,off+k*2,none⟩=(f l[k])[0]?∧w.cell? ⟨g,off+k*2+1,none⟩=(f l[k])[1]?:=by
 obtain ⟨g,off,cap,hv,_,_,hgb,hglt,hc⟩:=h.place zTbe
 have get:∀ r,r < 2→w.cell? ⟨g,off+(k*2+r),none⟩=(f l[k])[r]?:=fun r hr=>by
  rw [hc _ (by rw [cells2_length f hf];omega),cells2_at f hf l k r hk hr]
 exact ⟨g,off,cap,hv,hglt,get 0 zTbe,get 1 zTbe⟩
theorem sl_col {w:World} {B:Nat→Prop} {v:Value} {l:List ColV} (h:Sl w B 2 v l.length (colCells l)) {k:Nat} (hk:k < l.length) :
 ∃ g off cap,v=.slice (some ⟨g,off,none⟩) l.length cap∧g < w.heap.size∧w.cell? ⟨g,off+k*2,none⟩=some (.string l[k].name)∧w.cell? ⟨g,off+k*2+1,none⟩=some (.int .i64 l[k].kind) :=
 sl_two (f:=ColV.cells) (fun _=>rfl) h hk
theorem sl_idx {w:World} {B:Nat→Prop} {v:Value} {l:List IdxV} (h:Sl w B 2 v l.length (idxCells l)) {k:Nat} (hk:k < l.length) :
 ∃ g off cap,v=.slice (some ⟨g,off,none⟩) l.length cap∧g < w.heap.size∧w.cell? ⟨g,off+k*2,none⟩=some l[k].v∧w.cell? ⟨g,off+k*2+1,none⟩=some (.bool l[k].unique) :=
 sl_two (f:=IdxV.cells) (fun _=>rfl) h hk
theorem sl_int {w:World} {B:Nat→Prop} {v:Value} {l:List Int} (h:Sl w B 1 v l.length (ints l)) {k:Nat} (hk:k < l.length) :
 ∃ g off cap,v=.slice (some ⟨g,off,none⟩) l.length cap∧g < w.heap.size∧w.cell? ⟨g,off+k,none⟩=some (.int .i64 l[k]):=by
 obtain ⟨g,off,cap,hv,_,_,hgb,hglt,hc⟩:=h.place zTbe
 exact ⟨g,off,cap,hv,hglt,by rw [hc k (by simpa [ints] using hk)];simp [ints,hk]⟩
def unlikeGo {α:Type} (same:α→α→Bool):List α→List α→Bool
 | _,[]=>true
 | seen,a::t=>seen.all (fun b=>!same a b) && unlikeGo same (seen++[a]) t
def unlikeB {α:Type} (same:α→α→Bool) (l:List α):Bool:=unlikeGo same [] l
theorem unlike_step {α:Type} (same:α→α→Bool) (l:List α) (k:Nat) (h:k < l.length) :
 ((l.take k).all (fun b=>!same l[k] b)=true→unlikeGo same (l.take (k+1)) (l.drop (k+1))=unlikeGo same (l.take k) (l.drop k)) ∧
 ((l.take k).all (fun b=>!same l[k] b)=false→unlikeGo same (l.take k) (l.drop k)=false):=by
 rw [List.drop_eq_getElem_cons h,←List.take_append_getElem h]
 unfold unlikeGo
 refine ⟨fun ha=>?_,fun ha=>?_⟩
 ·rw [ha,Bool.true_and]
  cases l.drop (k+1)<;>rfl
 ·rw [ha,Bool.false_and]
theorem all_next {α:Type} (f:α→Bool) (l:List α) (j:Nat) (h:j < l.length) (ha:(l.take j).all f=true):f l[j]=true→(l.take (j+1)).all f=true:=fun hf=>by
 rw [←List.take_append_getElem h,List.all_append,ha]
 simp [hf]
theorem all_false {α:Type} (f:α→Bool) (l:List α) (j k:Nat) (hjk:j < k) (h:j < l.length):f l[j]=false→(l.take k).all f=false:=fun hf=>by
 rw [List.all_eq_false]
 refine ⟨l[j],?_,by simp [hf]⟩
 rw [List.mem_iff_getElem]
 exact ⟨j,z2Pg,by rw [List.getElem_take]⟩
def sameCol (a b:ColV):Bool:=a.name.toList == b.name.toList
def sameIdx (a b:IdxV):Bool:=a.l == b.l
def sameInt (a b:Int):Bool:=a == b
theorem within_any (w:World) (n lo hi:Int):Calls Tryz.prog 99 #[.int .i64 n,.int .i64 lo,.int .i64 hi] w fun e w'=>e=.returned (.bool (decide (lo≤n) && decide (n≤hi)))∧w=w':=by
 by_cases h1:lo≤n
 ·have e1:decide (lo≤n)=true:=decide_eq_true h1
  rw [e1]
  go_enter Tryz.func99,Tryz.ntmps99
  go_wp2
  go_ret
  exact ⟨rfl,rfl⟩
 ·have e1:decide (lo≤n)=false:=decide_eq_false h1
  rw [e1]
  go_enter Tryz.func99,Tryz.ntmps99
  go_wp2
  go_ret
  exact ⟨rfl,rfl⟩
theorem col_same (w:World) (a b:ColV):Calls Tryz.prog 133 #[.agg #[.string a.name,.int .i64 a.kind],.agg #[.string b.name,.int .i64 b.kind]] w fun e w'=>e=.returned (.bool (sameCol a b))∧Below w.heap.size w w':=by
 obtain ⟨n,k⟩:=a
 obtain ⟨n',k'⟩:=b
 show Calls _ _ _ _ fun e w'=>e=.returned (.bool (n.toList == n'.toList))∧Below w.heap.size w w'
 go_enter Tryz.func133,Tryz.ntmps133
 go_wp2
 exact zcrY
theorem int_same (w:World) (a b:Int):Calls Tryz.prog 158 #[.int .i64 a,.int .i64 b] w fun e w'=>e=.returned (.bool (sameInt a b))∧Below w.heap.size w w':=by
 show Calls _ _ _ _ fun e w'=>e=.returned (.bool (a == b))∧Below w.heap.size w w'
 go_enter Tryz.func158,Tryz.ntmps158
 exact zI6W
theorem take_eq_next {α:Type} [DecidableEq α] (l l':List α) (k:Nat) (h:k < l.length) (h':k < l'.length) (he:l.take k=l'.take k) (hk:l[k]=l'[k]):l.take (k+1)=l'.take (k+1):=by
 rw [←List.take_append_getElem h,←List.take_append_getElem h',he,hk]
theorem eq_ints (w:World) (B:Nat→Prop) (v v':Value) (l l':List Int) (h:Sl w B 1 v l.length (ints l)) (h':Sl w B 1 v' l'.length (ints l')) :
 Calls Tryz.prog 137 #[v,v'] w fun e w'=>e=.returned (.bool (l == l'))∧Below w.heap.size w w':=by
 obtain ⟨p,cap,rfl,hc1,hc2⟩:=h.form
 obtain ⟨p',cap',rfl,hc1',hc2'⟩:=h'.form
 have H:=Lib.hid h
 have H':=Lib.hid h'
 clear h h'
 by_cases hlen:l.length=l'.length
 ·have HLEN:=Lib.hid hlen
  rw [←hlen] at H' hc1' ⊢
  clear hlen
  go_enter Tryz.func137,Tryz.ntmps137
  go_wp2
  go_loopw [13] (fun i wr=>∃ k:Nat,i=.int .i64 k∧k≤l.length∧l.take k=l'.take k∧Below w.heap.size w wr) (fun i _=>l.length - (intOf i).toNat)
  case atStart=>exact ⟨0,rfl,Nat.zero_le _,rfl,Below.refl _ _⟩
  case round =>
   exact zgJK
 ·have e1:(l == l')=false:=by
   rw [beq_eq_false_iff_ne]
   intro he
   exact hlen (by rw [he])
  rw [e1]
  have d1:=zqhx
  have d2:=zIx0
  clear e1
  go_enter Tryz.func137,Tryz.ntmps137
  exact zI6W
theorem idx_same (w:World) (B:Nat→Prop) (a b:IdxV) (ha:Sl w B 1 a.v a.l.length (ints a.l)) (hb:Sl w B 1 b.v b.l.length (ints b.l)) :
 Calls Tryz.prog 136 #[.agg #[a.v,.bool a.unique],.agg #[b.v,.bool b.unique]] w fun e w'=>e=.returned (.bool (sameIdx a b))∧Below w.heap.size w w':=by
 obtain ⟨v,l,u⟩:=a
 obtain ⟨v',l',u'⟩:=b
 show Calls _ _ _ _ fun e w'=>e=.returned (.bool (l == l'))∧Below w.heap.size w w'
 simp only at ha hb
 have h1:Below w.heap.size w ((w.alloc (.cells #[v,.bool u] 108)).alloc (.cells #[v',.bool u'] 108)):=((Below.refl _ _).alloc (Nat.le_refl _) _).alloc zPXO _
 have HE:=Lib.hid (eq_ints _ B v v' l l' (ha.below h1) (hb.below h1))
 obtain ⟨p,cap,rfl,_,_⟩:=ha.form
 obtain ⟨p',cap',rfl,_,_⟩:=hb.form
 have H1:=Lib.hid h1
 clear ha hb h1
 generalize (l == l')=r at *
 go_enter Tryz.func136,Tryz.ntmps136
 go_wp2_with (go_at_call 137;refine HE.out.mono ?_;rintro e w2 ⟨rfl,hb2⟩)
 go_ret
 exact ⟨rfl,H1.out.trans (hb2.mono H1.out.size)⟩
theorem unlike_col (w:World) (B:Nat→Prop) (v:Value) (l:List ColV) (hl:Sl w B 2 v l.length (colCells l)) :
 Calls Tryz.prog 132 #[v,.func (.func 133) #[] #[]] w fun e w'=>e=.returned (.bool (unlikeB sameCol l))∧Below w.heap.size w w':=by
 obtain ⟨p,cap,rfl,hc1,hc2⟩:=hl.form
 have HL:=Lib.hid hl
 clear hl
 have HU:Hid (unlikeB sameCol l=unlikeB sameCol l):=rfl
 clear HU
 go_enter Tryz.func132,Tryz.ntmps132
 go_wp2
 go_loopw [11] (fun i wr=>∃ k:Nat,i=.int .i64 k∧k≤l.length∧unlikeGo sameCol (l.take k) (l.drop k)=unlikeB sameCol l∧Below w.heap.size w wr) (fun i _=>l.length - (intOf i).toNat)
 case atStart=>exact ⟨0,rfl,Nat.zero_le _,rfl,Below.refl _ _⟩
 case round =>
  obtain ⟨k,rfl,hk,hu,hb⟩:=hrel
  obtain ⟨wo,rfl⟩:=zDit
  have HB:=Lib.hid hb
  have HU:=Lib.hid hu
  clear hu
  by_cases hka:k < l.length
  ·have hstep:=unlike_step sameCol l k hka
   have HT:=Lib.hid hstep.1
   have HFF:=Lib.hid hstep.2
   clear hstep
   obtain ⟨g,off,cap1,hv,hg,e0,e1⟩:=sl_col (HL.out.below hb) hka
   cases hv
   have hki:(k:Int)≤l.length:=zTbe
   have hkc:(k:Int)≤cap:=zTbe
   clear hb
   generalize l[k]=a at *
   have hal:Below wo.heap.size wo (wo.alloc (.cells #[.string a.name,.int .i64 a.kind] 110)):=(Below.refl _ _).alloc (Nat.le_refl _) _
   have HBK:Hid (Blk (wo.alloc (.cells #[.string a.name,.int .i64 a.kind] 110)) wo.heap.size 110 [.string a.name,.int .i64 a.kind]):=Blk.new wo _ _
   have HB2:=Lib.hid (HB.out.trans (hal.mono HB.out.size))
   clear hal
   go_wp2
   generalize hw1:wo.alloc (.cells #[.string a.name,.int .i64 a.kind] 110)=w1 at *
   clear hw1 e0 e1
   go_loopw [20] (fun i wr=>∃ j:Nat,i=.int .i64 j∧j≤k∧(l.take j).all (fun b=>!sameCol a b)=true∧Below w1.heap.size w1 wr) (fun i _=>k - (intOf i).toNat)
   case atStart=>exact ⟨0,rfl,Nat.zero_le _,rfl,Below.refl _ _⟩
   case round =>
    obtain ⟨j,rfl,hj,hall,hbq⟩:=hrel
    have HBQ:=Lib.hid hbq
    have HALL:=Lib.hid hall
    clear hall
    have hbw:=HB2.out.trans (hbq.mono HB2.out.size)
    have HBW:=Lib.hid hbw
    by_cases hjk:j < k
    ·have hjl:j < l.length:=by omega
     have HNX:=Lib.hid (all_next (fun b=>!sameCol a b) l j hjl HALL.out)
     have HNF:=Lib.hid (all_false (fun b=>!sameCol a b) l j k hjk hjl)
     obtain ⟨g2,off2,cap2,hv2,hg2,f0,f1⟩:=sl_col (HL.out.below hbw) hjl
     cases hv2
     have hbk:=HBK.out.below hbq
     have b0:wr.cell? ⟨wo.heap.size,0,none⟩=some (.string a.name):=hbk.cell 0
     have b1:wr.cell? ⟨wo.heap.size,1,none⟩=some (.int .i64 a.kind):=hbk.cell 1
     clear hbw hbq hbk
     generalize l[j]=b at *
     have HS:=Lib.hid (fun w=>col_same w a b)
     cases hs:sameCol a b
     all_goals
      rw [hs] at HS
      have ha5:Below wr.heap.size wr (wr.alloc (.cells #[.string b.name,.int .i64 b.kind] 110)):=(Below.refl _ _).alloc (Nat.le_refl _) _
      have HA5:=Lib.hid ha5
      have hz5:wo.heap.size < wr.heap.size:=by have:=HBQ.out.size;have:=HBK.out.lt;omega
      clear ha5
     ·have HF:=Lib.hid (HNX.out (by rw [hs];rfl))
      clear hs HNX HNF
      go_wp2_with (go_at_call 133;refine (HS.out _).mono ?_;rintro e w5 ⟨rfl,hb5⟩;have HB5:=Lib.hid hb5;clear hb5)
      exact zZ5M
     ·have HF:=Lib.hid (HNF.out (by rw [hs];rfl))
      clear hs HNX HNF
      go_wp2_with (go_at_call 133;refine (HS.out _).mono ?_;rintro e w5 ⟨rfl,hb5⟩;have HB5:=Lib.hid hb5;clear hb5)
      exact zmSD
    ·obtain rfl:j=k:=by omega
     exact zIHq
  ·obtain rfl:k=l.length:=by omega
   have e1:unlikeB sameCol l=true:=zbJ1
   exact zVbH
theorem unlike_idx (w:World) (B:Nat→Prop) (v:Value) (l:List IdxV) (hl:IdxAt w B v l) :
 Calls Tryz.prog 135 #[v,.func (.func 136) #[] #[]] w fun e w'=>e=.returned (.bool (unlikeB sameIdx l))∧Below w.heap.size w w':=by
 obtain ⟨p,cap,rfl,hc1,hc2⟩:=hl.1.form
 have HL:=Lib.hid hl
 clear hl
 have HU:Hid (unlikeB sameIdx l=unlikeB sameIdx l):=rfl
 clear HU
 go_enter Tryz.func135,Tryz.ntmps135
 go_wp2
 go_loopw [11] (fun i wr=>∃ k:Nat,i=.int .i64 k∧k≤l.length∧unlikeGo sameIdx (l.take k) (l.drop k)=unlikeB sameIdx l∧Below w.heap.size w wr) (fun i _=>l.length - (intOf i).toNat)
 case atStart=>exact ⟨0,rfl,Nat.zero_le _,rfl,Below.refl _ _⟩
 case round =>
  obtain ⟨k,rfl,hk,hu,hb⟩:=hrel
  obtain ⟨wo,rfl⟩:=zDit
  have HB:=Lib.hid hb
  have HU:=Lib.hid hu
  clear hu
  by_cases hka:k < l.length
  ·have hstep:=unlike_step sameIdx l k hka
   have HT:=Lib.hid hstep.1
   have HFF:=Lib.hid hstep.2
   clear hstep
   obtain ⟨g,off,cap1,hv,hg,e0,e1⟩:=sl_idx (HL.out.1.below hb) hka
   cases hv
   have hki:(k:Int)≤l.length:=zTbe
   have hkc:(k:Int)≤cap:=zTbe
   clear hb
   have HXS:=Lib.hid (HL.out.2 l[k] (List.getElem_mem hka))
   generalize l[k]=a at *
   obtain ⟨pa,ca,hav,_,_⟩:=HXS.out.form
   rw [hav] at e0
   have HAV:=Lib.hid hav
   clear hav
   have hal:Below wo.heap.size wo (wo.alloc (.cells #[.slice pa a.l.length ca,.bool a.unique] 108)):=(Below.refl _ _).alloc (Nat.le_refl _) _
   have HBK:Hid (Blk (wo.alloc (.cells #[.slice pa a.l.length ca,.bool a.unique] 108)) wo.heap.size 108 [.slice pa a.l.length ca,.bool a.unique]):=Blk.new wo _ _
   have HB2:=Lib.hid (HB.out.trans (hal.mono HB.out.size))
   clear hal
   go_wp2
   generalize hw1:wo.alloc (.cells #[.slice pa a.l.length ca,.bool a.unique] 108)=w1 at *
   clear hw1 e0 e1
   go_loopw [20] (fun i wr=>∃ j:Nat,i=.int .i64 j∧j≤k∧(l.take j).all (fun b=>!sameIdx a b)=true∧Below w1.heap.size w1 wr) (fun i _=>k - (intOf i).toNat)
   case atStart=>exact ⟨0,rfl,Nat.zero_le _,rfl,Below.refl _ _⟩
   case round =>
    obtain ⟨j,rfl,hj,hall,hbq⟩:=hrel
    have HBQ:=Lib.hid hbq
    have HALL:=Lib.hid hall
    clear hall
    have hbw:=HB2.out.trans (hbq.mono HB2.out.size)
    have HBW:=Lib.hid hbw
    by_cases hjk:j < k
    ·have hjl:j < l.length:=by omega
     have HNX:=Lib.hid (all_next (fun b=>!sameIdx a b) l j hjl HALL.out)
     have HNF:=Lib.hid (all_false (fun b=>!sameIdx a b) l j k hjk hjl)
     obtain ⟨g2,off2,cap2,hv2,hg2,f0,f1⟩:=sl_idx (HL.out.1.below hbw) hjl
     cases hv2
     have hbk:=HBK.out.below hbq
     have b0:wr.cell? ⟨wo.heap.size,0,none⟩=some (.slice pa a.l.length ca):=hbk.cell 0
     have b1:wr.cell? ⟨wo.heap.size,1,none⟩=some (.bool a.unique):=hbk.cell 1
     have HYS:=Lib.hid (HL.out.2 l[j] (List.getElem_mem hjl))
     clear hbw hbq hbk
     generalize l[j]=b at *
     obtain ⟨pb,cb,hbv,_,_⟩:=HYS.out.form
     rw [hbv] at f0
     have HBV:=Lib.hid hbv
     clear hbv
     have HS:=Lib.hid (fun w' (h:Below w.heap.size w w')=>idx_same w' B a b (HXS.out.below h) (HYS.out.below h))
     rw [HAV.out,HBV.out] at HS
     cases hs:sameIdx a b
     all_goals
      rw [hs] at HS
      have ha5:Below wr.heap.size wr (wr.alloc (.cells #[.slice pb b.l.length cb,.bool b.unique] 108)):=(Below.refl _ _).alloc (Nat.le_refl _) _
      have HA5:=Lib.hid ha5
      have hz5:wo.heap.size < wr.heap.size:=by have:=HBQ.out.size;have:=HBK.out.lt;omega
      clear ha5
     ·have HF:=Lib.hid (HNX.out (by rw [hs];rfl))
      clear hs HNX HNF
      go_wp2_with (go_at_call 136;refine (HS.out _ ((HBW.out.trans (HA5.out.mono HBW.out.size)))).mono ?_;rintro e w5 ⟨rfl,hb5⟩;have HB5:=Lib.hid hb5;clear hb5)
      exact zZ5M
     ·have HF:=Lib.hid (HNF.out (by rw [hs];rfl))
      clear hs HNX HNF
      go_wp2_with (go_at_call 136;refine (HS.out _ ((HBW.out.trans (HA5.out.mono HBW.out.size)))).mono ?_;rintro e w5 ⟨rfl,hb5⟩;have HB5:=Lib.hid hb5;clear hb5)
      exact zmSD
    ·obtain rfl:j=k:=by omega
     exact zIHq
  ·obtain rfl:k=l.length:=by omega
   have e1:unlikeB sameIdx l=true:=zbJ1
   exact zVbH
theorem unlike_int (w:World) (B:Nat→Prop) (v:Value) (l:List Int) (hl:Sl w B 1 v l.length (ints l)) :
 Calls Tryz.prog 157 #[v,.func (.func 158) #[] #[]] w fun e w'=>e=.returned (.bool (unlikeB sameInt l))∧Below w.heap.size w w':=by
 obtain ⟨p,cap,rfl,hc1,hc2⟩:=hl.form
 have HL:=Lib.hid hl
 clear hl
 go_enter Tryz.func157,Tryz.ntmps157
 go_wp2
 go_loopw [11] (fun i wr=>∃ k:Nat,i=.int .i64 k∧k≤l.length∧unlikeGo sameInt (l.take k) (l.drop k)=unlikeB sameInt l∧Below w.heap.size w wr) (fun i _=>l.length - (intOf i).toNat)
 case atStart=>exact ⟨0,rfl,Nat.zero_le _,rfl,Below.refl _ _⟩
 case round =>
  obtain ⟨k,rfl,hk,hu,hb⟩:=hrel
  obtain ⟨wo,rfl⟩:=zDit
  have HB:=Lib.hid hb
  have HU:=Lib.hid hu
  clear hu
  by_cases hka:k < l.length
  ·have hstep:=unlike_step sameInt l k hka
   have HT:=Lib.hid hstep.1
   have HFF:=Lib.hid hstep.2
   clear hstep
   obtain ⟨g,off,cap1,hv,hg,e0⟩:=sl_int (HL.out.below hb) hka
   cases hv
   have hki:(k:Int)≤l.length:=zTbe
   have hkc:(k:Int)≤cap:=zTbe
   clear hb
   generalize l[k]=a at *
   have HB2:=HB
   go_wp2
   go_loopw [20] (fun i wr=>∃ j:Nat,i=.int .i64 j∧j≤k∧(l.take j).all (fun b=>!sameInt a b)=true∧Below wo.heap.size wo wr) (fun i _=>k - (intOf i).toNat)
   case atStart=>exact ⟨0,rfl,Nat.zero_le _,rfl,Below.refl _ _⟩
   case round =>
    obtain ⟨j,rfl,hj,hall,hbq⟩:=hrel
    have HBQ:=Lib.hid hbq
    have HALL:=Lib.hid hall
    clear hall
    have hbw:=HB2.out.trans (hbq.mono HB2.out.size)
    have HBW:=Lib.hid hbw
    by_cases hjk:j < k
    ·have hjl:j < l.length:=by omega
     have HNX:=Lib.hid (all_next (fun b=>!sameInt a b) l j hjl HALL.out)
     have HNF:=Lib.hid (all_false (fun b=>!sameInt a b) l j k hjk hjl)
     obtain ⟨g2,off2,cap2,hv2,hg2,f0⟩:=sl_int (HL.out.below hbw) hjl
     cases hv2
     clear hbw hbq
     generalize l[j]=b at *
     have HS:=Lib.hid (fun w=>int_same w a b)
     cases hs:sameInt a b
     all_goals
      rw [hs] at HS
     ·have HF:=Lib.hid (HNX.out (by rw [hs];rfl))
      clear hs HNX HNF
      go_wp2_with (go_at_call 158;refine (HS.out _).mono ?_;rintro e w5 ⟨rfl,hb5⟩;have HB5:=Lib.hid hb5;clear hb5)
      go_roundw
      case rel=>exact ⟨j+1,z3KH,zTbe,HF.out,HBQ.out.trans (HB5.out.mono HBQ.out.size)⟩
      case measure=>(simp [intOf])<;>omega
     ·have HF:=Lib.hid (HNF.out (by rw [hs];rfl))
      clear hs HNX HNF
      go_wp2_with (go_at_call 158;refine (HS.out _).mono ?_;rintro e w5 ⟨rfl,hb5⟩;have HB5:=Lib.hid hb5;clear hb5)
      go_ret
      exact ⟨zSw6,HBW.out.trans (HB5.out.mono HBW.out.size)⟩
    ·obtain rfl:j=k:=by omega
     exact zIHq
  ·obtain rfl:k=l.length:=by omega
   have e1:unlikeB sameInt l=true:=zbJ1
   exact zVbH
def colOk (c:ColV):Bool:=namedB c.name && (decide (1≤c.kind) && decide (c.kind≤3))
def colsB (l:List ColV):Bool:=l.all colOk && ((decide (1≤l.length) && decide (l.length≤8)) && unlikeB sameCol l)
def placeOk (n:Int) (c:Int):Bool:=decide (0≤c) && decide (c≤n - 1)
def placesB (n:Int) (x:IdxV):Bool:=x.l.all (placeOk n) && (decide (0 < x.l.length) && unlikeB sameInt x.l)
def firstU (l:List IdxV):Bool:=match l with
 | []=>false
 | x::_=>x.unique
def idxB (n:Int) (l:List IdxV):Bool:=l.all (placesB n) && ((decide (1≤l.length) && decide (l.length≤4)) && firstU l && unlikeB sameIdx l)
theorem all_not {α:Type} (f:α→Bool) (l:List α) (k:Nat) (h:k < l.length):f l[k]=false→l.all f=false:=fun hf=>by
 rw [List.all_eq_false]
 exact ⟨l[k],List.getElem_mem h,by simp [hf]⟩
theorem columns_any (w:World) (B:Nat→Prop) (v:Value) (l:List ColV) (hl:Sl w B 2 v l.length (colCells l)) (hr:∀ c∈l,c.name.size≤maxLen) :
 Calls Tryz.prog 97 #[v] w fun e w'=>e=.returned (.bool (colsB l))∧Below w.heap.size w w':=by
 have HUN:=Lib.hid (fun w' (h:Below w.heap.size w w')=>unlike_col w' B v l (hl.below h))
 obtain ⟨p,cap,rfl,hc1,hc2⟩:=hl.form
 have HL:=Lib.hid hl
 have HR:=Lib.hid hr
 clear hl hr
 go_enter Tryz.func97,Tryz.ntmps97
 go_wp2
 go_loopw [7] (fun i wr=>∃ k:Nat,i=.int .i64 k∧k≤l.length∧(l.take k).all colOk=true∧Below w.heap.size w wr) (fun i _=>l.length - (intOf i).toNat)
 case atStart=>exact ⟨0,rfl,Nat.zero_le _,rfl,Below.refl _ _⟩
 case round =>
  obtain ⟨k,rfl,hk,ha,hb⟩:=hrel
  have HB:=Lib.hid hb
  have HA:=Lib.hid ha
  clear ha
  by_cases hka:k < l.length
  ·obtain ⟨g,off,cap1,hv,hg,e0,e1⟩:=sl_col (HL.out.below hb) hka
   cases hv
   have HX:=Lib.hid (all_next colOk l k hka HA.out)
   have HY:=Lib.hid (all_not colOk l k hka)
   have hrk:=HR.out l[k] (List.getElem_mem hka)
   clear hb
   generalize l[k]=c at *
   obtain ⟨nm,kd⟩:=c
   have hok:colOk ⟨nm,kd⟩=(namedB nm && (decide (1≤kd) && decide (kd≤3))):=rfl
   simp only at e0 e1 hrk
   have hal:Below wr.heap.size wr (wr.alloc (.cells #[.string nm,.int .i64 kd] 110)):=(Below.refl _ _).alloc (Nat.le_refl _) _
   have HBK:Hid (Blk (wr.alloc (.cells #[.string nm,.int .i64 kd] 110)) wr.heap.size 110 [.string nm,.int .i64 kd]):=Blk.new wr _ _
   have HAL:=Lib.hid hal
   have HN:=Lib.hid (named_any (wr.alloc (.cells #[.string nm,.int .i64 kd] 110)) nm hrk)
   have HW:=Lib.hid (fun w=>within_any w kd 1 3)
   generalize namedB nm=nb at *
   clear hal hrk
   cases nb
   ·have HF:=Lib.hid (HY.out (by rw [hok];rfl))
    clear HX HY hok
    go_wp2_with (go_at_call 96;refine HN.out.mono ?_;clear HN;rintro e w3 ⟨rfl,hb3⟩)
    go_ret
    refine ⟨by unfold colsB;rw [HF.out];rfl,?_⟩
    have h1:=HB.out.trans (HAL.out.mono HB.out.size)
    exact h1.trans (hb3.mono h1.size)
   ·cases hwi:(decide (1≤kd) && decide (kd≤3))
    ·rw [hwi] at hok HW
     have HF:=Lib.hid (HY.out (by rw [hok];rfl))
     clear HX HY hok hwi
     go_wp2_with (first
      | (go_at_call 96;refine HN.out.mono ?_;clear HN;rintro e w3 ⟨rfl,hb3⟩;have hbk:=HBK.out.below hb3;have b1:w3.cell? ⟨wr.heap.size,1,none⟩=some (.int .i64 kd):=hbk.cell 1;have HB3:=Lib.hid hb3;clear hb3 hbk)
      | (go_at_call 99;refine (HW.out _).mono ?_;rintro e w4 ⟨rfl,rfl⟩))
     go_ret
     refine ⟨by unfold colsB;rw [HF.out];rfl,?_⟩
     have h1:=HB.out.trans (HAL.out.mono HB.out.size)
     exact h1.trans (HB3.out.mono h1.size)
    ·rw [hwi] at hok HW
     have HF:=Lib.hid (HX.out (by rw [hok];rfl))
     clear HX HY hok hwi
     go_wp2_with (first
      | (go_at_call 96;refine HN.out.mono ?_;clear HN;rintro e w3 ⟨rfl,hb3⟩;have hbk:=HBK.out.below hb3;have b1:w3.cell? ⟨wr.heap.size,1,none⟩=some (.int .i64 kd):=hbk.cell 1;have HB3:=Lib.hid hb3;clear hb3 hbk)
      | (go_at_call 99;refine (HW.out _).mono ?_;rintro e w4 ⟨rfl,rfl⟩))
     go_roundw
     case rel =>
      have h1:=HB.out.trans (HAL.out.mono HB.out.size)
      exact ⟨k+1,z3KH,zTbe,HF.out,h1.trans (HB3.out.mono h1.size)⟩
     case measure=>(simp [intOf])<;>omega
  ·obtain rfl:k=l.length:=by omega
   have e1:colsB l=((decide ((1:Int)≤(l.length:Int)) && decide ((l.length:Int)≤8)) && unlikeB sameCol l):=by
    have:=HA.out
    rw [List.take_length] at this
    unfold colsB
    rw [this,Bool.true_and]
    congr 2<;>(rw [Bool.eq_iff_iff];simp;omega)
   have E1:=Lib.hid e1
   have HW:=Lib.hid (fun w=>within_any w (l.length:Int) 1 8)
   have HU:=Lib.hid (HUN.out wr hb)
   clear e1 hb
   generalize unlikeB sameCol l=u at *
   cases hwi:(decide ((1:Int)≤(l.length:Int)) && decide ((l.length:Int)≤8))
   all_goals
    rw [hwi] at HW E1
    clear hwi
    go_wp2_with (first
     | (go_at_call 99;refine (HW.out _).mono ?_;rintro e w4 ⟨rfl,rfl⟩)
     | (go_at_call 132;refine HU.out.mono ?_;clear HU;rintro e w5 ⟨rfl,hb5⟩))
    go_ret
   ·exact ⟨z4CO,HB.out⟩
   ·exact ⟨z4CO,HB.out.trans (hb5.mono HB.out.size)⟩
theorem places_any (w:World) (B:Nat→Prop) (x:IdxV) (n:Int) (hn:0≤n∧n≤1000000) (hl:Sl w B 1 x.v x.l.length (ints x.l)) :
 Calls Tryz.prog 134 #[.agg #[x.v,.bool x.unique],.int .i64 n] w fun e w'=>e=.returned (.bool (placesB n x))∧Below w.heap.size w w':=by
 obtain ⟨v,l,u⟩:=x
 simp only at hl
 obtain ⟨hn0,hn1⟩:=hn
 obtain ⟨p,cap,rfl,hc1,hc2⟩:=hl.form
 have hal:Below w.heap.size w (w.alloc (.cells #[.slice p l.length cap,.bool u] 108)):=(Below.refl _ _).alloc (Nat.le_refl _) _
 have HL:=Lib.hid (hl.below hal)
 have HUN:=Lib.hid (unlike_int _ B _ l (hl.below hal))
 have HAL:=Lib.hid hal
 have HP:Hid (placesB n ⟨.slice p l.length cap,l,u⟩=(l.all (placeOk n) && (decide (0 < l.length) && unlikeB sameInt l))):=rfl
 generalize placesB n ⟨.slice p l.length cap,l,u⟩=out at *
 have hm1:-1≤n - 1:=zTbe
 have hm2:n - 1≤1000000:=zTbe
 clear hl hal
 go_enter Tryz.func134,Tryz.ntmps134
 go_wp2
 go_loop [10] (fun i=>∃ k:Nat,i=.int .i64 k∧k≤l.length∧(l.take k).all (placeOk n)=true) (fun i=>l.length - (intOf i).toNat)
 case atStart=>exact ⟨0,rfl,Nat.zero_le _,rfl⟩
 case round =>
  obtain ⟨k,rfl,hk,ha⟩:=hrel
  have HA:=Lib.hid ha
  clear ha
  by_cases hka:k < l.length
  ·obtain ⟨g,off,cap1,hv,hg,e0⟩:=sl_int HL.out hka
   cases hv
   have HX:=Lib.hid (all_next (placeOk n) l k hka HA.out)
   have HY:=Lib.hid (all_not (placeOk n) l k hka)
   generalize l[k]=c at *
   have HW:=Lib.hid (fun w=>within_any w c 0 (n - 1))
   have hok:placeOk n c=(decide (0≤c) && decide (c≤n - 1)):=rfl
   cases hwi:(decide (0≤c) && decide (c≤n - 1))
   ·rw [hwi] at hok HW
    have HF:=Lib.hid (HY.out hok)
    clear HX HY hok hwi
    go_wp2_with (go_at_call 99;refine (HW.out _).mono ?_;rintro e w4 ⟨rfl,rfl⟩)
    go_ret
    exact ⟨by rw [HP.out,HF.out];rfl,HAL.out⟩
   ·rw [hwi] at hok HW
    have HF:=Lib.hid (HX.out hok)
    clear HX HY hok hwi
    go_wp2_with (go_at_call 99;refine (HW.out _).mono ?_;rintro e w4 ⟨rfl,rfl⟩)
    exact zamW
  ·obtain rfl:k=l.length:=by omega
   have e1:out=(decide (0 < l.length) && unlikeB sameInt l):=by
    have:=HA.out
    rw [List.take_length] at this
    rw [HP.out,this,Bool.true_and]
   have E1:=Lib.hid e1
   clear e1
   generalize unlikeB sameInt l=un at *
   rcases Nat.eq_zero_or_pos l.length with h0|h0
   ·have d1:decide (0 < l.length)=false:=decide_eq_false zTbe
    rw [d1] at E1
    have hl0:l=[]:=List.eq_nil_of_length_eq_zero h0
    subst hl0
    clear h0
    go_wp2
    go_ret
    exact ⟨z4CO,HAL.out⟩
   ·have d1:decide (0 < l.length)=true:=decide_eq_true h0
    rw [d1] at E1
    have h0i:(0:Int) < (l.length:Int):=zTbe
    go_wp2_with (go_at_call 157;refine HUN.out.mono ?_;clear HUN;rintro e w5 ⟨rfl,hb5⟩)
    go_ret
    exact ⟨z4CO,HAL.out.trans (hb5.mono HAL.out.size)⟩
theorem indexes_any (w:World) (B:Nat→Prop) (v:Value) (l:List IdxV) (n:Int) (hn:0≤n∧n≤1000000) (hl:IdxAt w B v l) :
 Calls Tryz.prog 98 #[v,.int .i64 n] w fun e w'=>e=.returned (.bool (idxB n l))∧Below w.heap.size w w':=by
 have HUN:=Lib.hid (fun w' (h:Below w.heap.size w w')=>unlike_idx w' B v l (hl.below h))
 obtain ⟨p,cap,rfl,hc1,hc2⟩:=hl.1.form
 have HL:=Lib.hid hl
 have HN:=Lib.hid hn
 clear hl hn
 go_enter Tryz.func98,Tryz.ntmps98
 go_wp2
 go_loopw [9] (fun i wr=>∃ k:Nat,i=.int .i64 k∧k≤l.length∧(l.take k).all (placesB n)=true∧Below w.heap.size w wr) (fun i _=>l.length - (intOf i).toNat)
 case atStart=>exact ⟨0,rfl,Nat.zero_le _,rfl,Below.refl _ _⟩
 case round =>
  obtain ⟨k,rfl,hk,ha,hb⟩:=hrel
  have HB:=Lib.hid hb
  have HA:=Lib.hid ha
  clear ha
  by_cases hka:k < l.length
  ·obtain ⟨g,off,cap1,hv,hg,e0,e1⟩:=sl_idx (HL.out.1.below hb) hka
   cases hv
   have HX:=Lib.hid (all_next (placesB n) l k hka HA.out)
   have HY:=Lib.hid (all_not (placesB n) l k hka)
   have hxs:=HL.out.2 l[k] (List.getElem_mem hka)
   generalize l[k]=c at *
   obtain ⟨cv,cl,cu⟩:=c
   simp only at e0 e1 hxs
   obtain ⟨pa,ca,rfl,_,_⟩:=hxs.form
   have hal:Below wr.heap.size wr (wr.alloc (.cells #[.slice pa cl.length ca,.bool cu] 108)):=(Below.refl _ _).alloc (Nat.le_refl _) _
   have HB2:=Lib.hid (HB.out.trans (hal.mono HB.out.size))
   have HP:=Lib.hid (places_any (wr.alloc (.cells #[.slice pa cl.length ca,.bool cu] 108)) B ⟨.slice pa cl.length ca,cl,cu⟩ n HN.out (hxs.below HB2.out))
   simp only at HP
   generalize placesB n ⟨.slice pa cl.length ca,cl,cu⟩=pb at *
   clear hal hb hxs
   cases pb
   ·have HF:=Lib.hid (HY.out rfl)
    clear HX HY
    go_wp2_with (go_at_call 134;refine HP.out.mono ?_;clear HP;rintro e w4 ⟨rfl,hb4⟩)
    go_ret
    exact ⟨by unfold idxB;rw [HF.out];rfl,HB2.out.trans (hb4.mono HB2.out.size)⟩
   ·have HF:=Lib.hid (HX.out rfl)
    clear HX HY
    go_wp2_with (go_at_call 134;refine HP.out.mono ?_;clear HP;rintro e w4 ⟨rfl,hb4⟩)
    go_roundw
    case rel=>exact ⟨k+1,z3KH,zTbe,HF.out,HB2.out.trans (hb4.mono HB2.out.size)⟩
    case measure=>(simp [intOf])<;>omega
  ·obtain rfl:k=l.length:=by omega
   have e1:idxB n l=((decide ((1:Int)≤(l.length:Int)) && decide ((l.length:Int)≤4)) && firstU l && unlikeB sameIdx l):=by
    have:=HA.out
    rw [List.take_length] at this
    unfold idxB
    rw [this,Bool.true_and]
    congr 2
    congr 1<;>(rw [Bool.eq_iff_iff];simp;omega)
   have E1:=Lib.hid e1
   have HW:=Lib.hid (fun w=>within_any w (l.length:Int) 1 4)
   have HU:=Lib.hid (HUN.out wr hb)
   clear e1 hka
   generalize unlikeB sameIdx l=u at *
   cases hwi:(decide ((1:Int)≤(l.length:Int)) && decide ((l.length:Int)≤4))
   ·rw [hwi] at HW E1
    clear hwi hb
    go_wp2_with (first
     | (go_at_call 99;refine (HW.out _).mono ?_;rintro e w4 ⟨rfl,rfl⟩))
    go_ret
    exact ⟨z4CO,HB.out⟩
   ·have hpos:0 < l.length:=by simp at hwi;omega
    have hposi:(0:Int) < (l.length:Int):=zTbe
    obtain ⟨g,off,cap1,hv,hg,e0,e1⟩:=sl_idx (HL.out.1.below hb) hpos
    cases hv
    have hfu:l[0].unique=firstU l:=by
     cases l with
     | nil=>simp at hpos
     | cons a t=>rfl
    have e2:wr.cell? ⟨g,off+1,none⟩=some (.bool l[0].unique):=by rw [Nat.zero_mul,Nat.add_zero] at e1;exact e1
    rw [hfu] at e2
    rw [hwi] at HW E1
    clear hwi hb e0 e1 hfu
    generalize firstU l=fu at *
    cases fu
    ·go_wp2_with (first
      | (go_at_call 99;refine (HW.out _).mono ?_;rintro e w4 ⟨rfl,rfl⟩))
     go_ret
     exact ⟨z4CO,HB.out⟩
    ·go_wp2_with (first
      | (go_at_call 99;refine (HW.out _).mono ?_;rintro e w4 ⟨rfl,rfl⟩)
      | (go_at_call 135;refine HU.out.mono ?_;clear HU;rintro e w5 ⟨rfl,hb5⟩))
     go_ret
     exact ⟨z4CO,HB.out.trans (hb5.mono HB.out.size)⟩
structure SchV where
 name:ByteArray
 colsV:Value
 cols:List ColV
 idxV:Value
 idx:List IdxV
 limit:Int
 parts:Int
 by_:Int
def SchV.cells (s:SchV):List Value:=[.string s.name,s.colsV,s.idxV,.int .i64 s.limit,.int .i64 s.parts,.int .i64 s.by_]
def SchV.agg (s:SchV):Value:=.agg #[.string s.name,s.colsV,s.idxV,.int .i64 s.limit,.int .i64 s.parts,.int .i64 s.by_]
structure SchAt (w:World) (B:Nat→Prop) (s:SchV):Prop where
 cols:Sl w B 2 s.colsV s.cols.length (colCells s.cols)
 idx:IdxAt w B s.idxV s.idx
 names:∀ c∈s.cols,c.name.size≤maxLen
 name:s.name.size≤maxLen
theorem SchAt.below {w w':World} {B:Nat→Prop} {s:SchV} (h:SchAt w B s) (hb:Below w.heap.size w w'):SchAt w' B s:=⟨h.cols.below hb,h.idx.below hb,h.names,h.name⟩
def rightS (s:SchV):Bool :=
 namedB s.name && (colsB s.cols && (idxB s.cols.length s.idx && ((decide (1≤s.limit) && decide (s.limit≤1000)) && ((decide (1≤s.parts) && decide (s.parts≤8)) && (decide (0≤s.by_) && decide (s.by_≤(s.cols.length:Int) - 1))))))
theorem colsB_len {l:List ColV} (h:colsB l=true):1≤l.length∧l.length≤8:=by
 unfold colsB at h
 simp at h
 omega
theorem sch_cells {w:World} {b:Nat} {t:TypeId} {v0 v1 v2 v3 v4 v5:Value} (h:Blk w b t [v0,v1,v2,v3,v4,v5]) :
 w.cell? ⟨b,0,none⟩=some v0∧w.cell? ⟨b,1,none⟩=some v1∧w.cell? ⟨b,2,none⟩=some v2∧w.cell? ⟨b,3,none⟩=some v3∧w.cell? ⟨b,4,none⟩=some v4∧w.cell? ⟨b,5,none⟩=some v5 :=
 ⟨h.cell 0,h.cell 1,h.cell 2,h.cell 3,h.cell 4,h.cell 5⟩
theorem schright_any (w:World) (B:Nat→Prop) (s:SchV) (h:SchAt w B s) :
 Calls Tryz.prog 69 #[s.agg] w fun e w'=>e=.returned (.bool (rightS s))∧Below w.heap.size w w':=by
 obtain ⟨nm,cv,cl,iv,il,lim,prt,by_⟩:=s
 obtain ⟨h1,h2,h3,h4⟩:=h
 simp only at h1 h2 h3 h4
 simp only [SchV.agg,rightS]
 obtain ⟨pc,cc,rfl,_,hcc⟩:=h1.form
 obtain ⟨pi,ci,rfl,_,hci⟩:=h2.1.form
 have hal:=zVhr
 have HBK:=z1OE
 have HN:=Lib.hid (named_any (w.alloc (.cells #[.string nm,.slice pc cl.length cc,.slice pi il.length ci,.int .i64 lim,.int .i64 prt,.int .i64 by_] 25)) nm h4)
 have hcl:=@colsB_len cl
 have HC:=Lib.hid (fun W (hb:Below (w.alloc (.cells #[.string nm,.slice pc cl.length cc,.slice pi il.length ci,.int .i64 lim,.int .i64 prt,.int .i64 by_] 25)).heap.size (w.alloc (.cells #[.string nm,.slice pc cl.length cc,.slice pi il.length ci,.int .i64 lim,.int .i64 prt,.int .i64 by_] 25)) W)=>columns_any W B _ cl ((h1.below hal).below hb) h3)
 have HALW:=Lib.hid hal
 cases hn:namedB nm
 ·rw [hn] at HN
  clear HC hcl hn
  simp only [Bool.false_and]
  go_enter Tryz.func69,Tryz.ntmps69
  go_wp2_with (go_at_call 96;refine HN.out.mono ?_;rintro e w2 ⟨rfl,hb2⟩)
  go_ret
  exact ⟨rfl,HALW.out.trans (hb2.mono HALW.out.size)⟩
 rw [hn] at HN
 simp only [Bool.true_and]
 cases hc:colsB cl
 ·rw [hc] at HC
  clear hcl hn hc
  simp only [Bool.false_and]
  go_enter Tryz.func69,Tryz.ntmps69
  go_wp2_with (first
   | (go_at_call 96;refine HN.out.mono ?_;rintro e w2 ⟨rfl,hb2⟩;obtain ⟨x0,x1,x2,x3,x4,x5⟩:=sch_cells (HBK.out.below hb2);have HB2:=Lib.hid hb2;have HC2:=Lib.hid (HC.out w2 hb2);clear hb2 x0 x3 x4 x5)
   | (go_at_call 97;refine HC2.out.mono ?_;rintro e w3 ⟨rfl,hb3⟩;have HB3:=Lib.hid (HB2.out.trans (hb3.mono HB2.out.size));clear hb3))
  go_ret
  exact ⟨rfl,HALW.out.trans (HB3.out.mono HALW.out.size)⟩
 rw [hc] at HC
 obtain ⟨hcl1,hcl8⟩:=hcl hc
 simp only [Bool.true_and]
 have HI:=Lib.hid (fun W (hb:Below (w.alloc (.cells #[.string nm,.slice pc cl.length cc,.slice pi il.length ci,.int .i64 lim,.int .i64 prt,.int .i64 by_] 25)).heap.size (w.alloc (.cells #[.string nm,.slice pc cl.length cc,.slice pi il.length ci,.int .i64 lim,.int .i64 prt,.int .i64 by_] 25)) W)=>indexes_any W B _ il (cl.length:Int) ⟨zTbe,zTbe⟩ ((h2.below hal).below hb))
 have HL:=Lib.hid (fun W=>within_any W lim 1 1000)
 have HP:=Lib.hid (fun W=>within_any W prt 1 8)
 have HY:=Lib.hid (fun W=>within_any W by_ 0 ((cl.length:Int) - 1))
 have hsub:0≤(cl.length:Int) - 1:=zTbe
 have hcl8i:(cl.length:Int)≤8:=zTbe
 have hcl1i:(1:Int)≤(cl.length:Int):=zTbe
 clear h1 h2 h3 h4 hal hn hc hcl hcc hci
 generalize idxB (cl.length:Int) il=r3 at *
 generalize (decide (1≤lim) && decide (lim≤1000))=r4 at *
 generalize (decide (1≤prt) && decide (prt≤8))=r5 at *
 generalize (decide (0≤by_) && decide (by_≤(cl.length:Int) - 1))=r6 at *
 cases r3
 ·simp only [Bool.false_and]
  exact zW1S
 simp only [Bool.true_and]
 cases r4
 ·simp only [Bool.false_and]
  exact zW1S
 simp only [Bool.true_and]
 cases r5
 ·simp only [Bool.false_and]
  exact zW1S
 simp only [Bool.true_and]
 exact zW1S
theorem unlikeGo_spec {α:Type} (same:α→α→Bool):∀ (t seen:List α),unlikeGo same seen t=true→(∀ i j (hi:i < t.length),j < i→∀ hj:j < t.length,same t[i] t[j]=false)∧∀ i (hi:i < t.length),∀ b∈seen,same t[i] b=false
 | [],_,_=>⟨fun i j hi=>absurd hi (Nat.not_lt_zero _),fun i hi=>absurd hi (Nat.not_lt_zero _)⟩
 | a::t,seen,h=>by
  unfold unlikeGo at h
  rw [Bool.and_eq_true,List.all_eq_true] at h
  obtain ⟨h1,h2⟩:=unlikeGo_spec same t (seen++[a]) h.2
  refine ⟨fun i j hi hji hj=>?_,fun i hi b hb=>?_⟩
  ·cases i with
   | zero=>omega
   | succ i =>
    cases j with
    | zero=>exact h2 i z8WR a zPXO
    | succ j=>exact h1 i j z8WR zTbe (by simpa using hj)
  ·cases i with
   | zero=>have:=h.1 b hb;simpa using this
   | succ i=>exact h2 i z8WR b (List.mem_append_left _ hb)
theorem pigeon:∀ (n:Nat) (l:List Int),(∀ c∈l,0≤c∧c < (n:Int))→(∀ i j (hi:i < l.length) (hj:j < l.length),j < i→l[i]≠l[j])→l.length≤n:=by
 intro n
 induction n with
 | zero =>
  intro l h _
  cases l with
  | nil=>simp
  | cons a t=>have:=h a zPXO;omega
 | succ n ih =>
  intro l h hd
  have hp:l.Nodup:=by
   rw [List.nodup_iff_pairwise_ne]
   rw [List.pairwise_iff_getElem]
   intro i j hi hj hij
   exact fun e=>hd j i hj hi hij e.symm
  have hl:=ih (l.filter (fun c=>c≠(n:Int))) (fun c hc=>by
   rw [List.mem_filter] at hc
   have h1:=h c hc.1
   have h2:c≠(n:Int):=by simpa using hc.2
   omega) (by
   have hq:=List.Pairwise.filter (fun c=>decide (c≠(n:Int))) (List.nodup_iff_pairwise_ne.1 hp)
   rw [List.pairwise_iff_getElem] at hq
   intro i j hi hj hji
   exact fun e=>hq j i hj hi hji e.symm)
  have hcount:l.length≤(l.filter (fun c=>c≠(n:Int))).length+1:=by
   clear ih hl h hd
   induction l with
   | nil=>simp
   | cons a t ih2 =>
    rw [List.nodup_cons] at hp
    by_cases ha:a=(n:Int)
    ·have:t.filter (fun c=>decide (c≠(n:Int)))=t:=by
      rw [List.filter_eq_self]
      intro x hx
      have:x≠a:=fun e=>hp.1 (e▸hx)
      simpa [←ha] using this
     rw [List.filter_cons_of_neg (by simp [ha]),this,List.length_cons]
     omega
    ·rw [List.filter_cons_of_pos (by simp [ha]),List.length_cons,List.length_cons]
     have:=ih2 hp.2
     omega
  omega
theorem places_len (n:Nat) (x:IdxV) (h:placesB n x=true):1≤x.l.length∧x.l.length≤n:=by
 unfold placesB at h
 simp only [Bool.and_eq_true,List.all_eq_true,decide_eq_true_eq] at h
 obtain ⟨h1,h2,h3⟩:=h
 refine ⟨h2,pigeon n x.l (fun c hc=>?_) (fun i j hi hj hji=>?_)⟩
 ·have:=h1 c hc
  unfold placeOk at this
  simp at this
  omega
 ·have:=(unlikeGo_spec sameInt x.l [] h3).1 i j hi hji hj
  unfold sameInt at this
  simpa using this
theorem sameCol_comm (a b:ColV):sameCol a b=sameCol b a:=by
 unfold sameCol
 exact zOmz
theorem sameIdx_comm (a b:IdxV):sameIdx a b=sameIdx b a:=by
 unfold sameIdx
 exact zOmz
theorem sameInt_comm (a b:Int):sameInt a b=sameInt b a:=by
 unfold sameInt
 exact zOmz
theorem refsame (w:World) (B:Nat→Prop) (v v':Value) (l l':List Int) (h:Sl w B 1 v l.length (ints l)) (h':Sl w B 1 v' l'.length (ints l')) :
 Calls Tryz.prog 53 #[v,v'] w fun e w'=>e=.returned (.bool (l == l'))∧Below w.heap.size w w':=by
 obtain ⟨p,cap,rfl,hc1,hc2⟩:=h.form
 obtain ⟨p',cap',rfl,hc1',hc2'⟩:=h'.form
 have H:=Lib.hid h
 have H':=Lib.hid h'
 clear h h'
 by_cases hlen:l.length=l'.length
 ·have HLEN:=Lib.hid hlen
  rw [←hlen] at H' hc1' ⊢
  clear hlen
  go_enter Tryz.func53,Tryz.ntmps53
  go_wp2
  go_loopw [5] (fun i wr=>∃ k:Nat,i=.int .i64 k∧k≤l.length∧l.take k=l'.take k∧Below w.heap.size w wr) (fun i _=>l.length - (intOf i).toNat)
  case atStart=>exact ⟨0,rfl,Nat.zero_le _,rfl,Below.refl _ _⟩
  case round =>
   exact zgJK
 ·have e1:(l == l')=false:=by
   rw [beq_eq_false_iff_ne]
   intro he
   exact hlen (by rw [he])
  rw [e1]
  have d1:=zqhx
  have d2:=zIx0
  clear e1
  go_enter Tryz.func53,Tryz.ntmps53
  exact zI6W
def frontS (s:SchV):Bool :=
 namedB s.name && (decide (1≤s.cols.length) && decide (s.cols.length≤8)) && (decide (1≤s.idx.length) && decide (s.idx.length≤4)) && ((decide (1≤s.limit) && decide (s.limit≤1000)) && ((decide (1≤s.parts) && decide (s.parts≤8)) && (decide (0≤s.by_) && decide (s.by_≤(s.cols.length:Int) - 1)))) && firstU s.idx
theorem rightS_front (s:SchV):rightS s=(frontS s && (s.cols.all colOk && unlikeB sameCol s.cols) && (s.idx.all (placesB s.cols.length) && unlikeB sameIdx s.idx)):=by
 unfold rightS frontS colsB idxB
 generalize namedB s.name=a1
 generalize s.cols.all colOk=a2
 generalize (decide (1≤s.cols.length) && decide (s.cols.length≤8))=a3
 generalize unlikeB sameCol s.cols=a4
 generalize s.idx.all (placesB s.cols.length)=a5
 generalize (decide (1≤s.idx.length) && decide (s.idx.length≤4))=a6
 generalize firstU s.idx=a7
 generalize unlikeB sameIdx s.idx=a8
 generalize ((decide (1≤s.limit) && decide (s.limit≤1000)) && ((decide (1≤s.parts) && decide (s.parts≤8)) && (decide (0≤s.by_) && decide (s.by_≤(s.cols.length:Int) - 1))))=a9
 cases a1<;>cases a2<;>cases a3<;>cases a4<;>cases a5<;>cases a6<;>cases a7<;>cases a8<;>cases a9<;>rfl
def FrontP (nb:Bool) (n ni lim prt by_:Int) (fu:Bool):Prop:=nb=true∧1≤n∧n≤8∧1≤ni∧ni≤4∧1≤lim∧lim≤1000∧1≤prt∧prt≤8∧0≤by_∧by_ < n∧fu=true
theorem frontS_iff (s:SchV):frontS s=true↔FrontP (namedB s.name) s.cols.length s.idx.length s.limit s.parts s.by_ (firstU s.idx):=by
 unfold frontS FrontP
 simp only [Bool.and_eq_true,decide_eq_true_eq]
 constructor
 ·rintro ⟨⟨⟨⟨h1,h2⟩,h3⟩,⟨h4,h5⟩,⟨h6,h7⟩,h8⟩,h9⟩
  exact ⟨h1,zTbe,zTbe,zTbe,zTbe,h4,h5,h6,h7,h8.1,zTbe,h9⟩
 ·rintro ⟨h1,h2,h3,h4,h5,h6,h7,h8,h9,h10,h11,h12⟩
  exact ⟨⟨⟨⟨h1,zTbe,zTbe⟩,zTbe,zTbe⟩,⟨h6,h7⟩,⟨h8,h9⟩,h10,zTbe⟩,h12⟩
theorem refright_front (w:World) (B:Nat→Prop) (s:SchV) (h:SchAt w B s) (hf:frontS s=false) :
 Calls Tryz.prog 12 #[s.agg] w fun e w'=>e=.returned (.bool false)∧Below w.heap.size w w':=by
 have hnf:¬ FrontP (namedB s.name) s.cols.length s.idx.length s.limit s.parts s.by_ (firstU s.idx):=fun hc=>by
  rw [(frontS_iff s).2 hc] at hf;cases hf
 obtain ⟨nm,cv,cl,iv,il,lim,prt,by_⟩:=s
 obtain ⟨h1,h2,h3,h4⟩:=h
 simp only at h1 h2 h3 h4 hnf
 simp only [SchV.agg]
 obtain ⟨pc,cc,rfl,_,hcc⟩:=h1.form
 obtain ⟨pi,ci,rfl,_,hci⟩:=h2.1.form
 have hal:=zVhr
 have HN:=Lib.hid (refnamed (w.alloc (.cells #[.string nm,.slice pc cl.length cc,.slice pi il.length ci,.int .i64 lim,.int .i64 prt,.int .i64 by_] 25)) nm h4)
 have HAL:=Lib.hid hal
 rcases Nat.eq_zero_or_pos il.length with h0|h0
 ·have hi0:(il.length:Int) < 1:=by omega
  clear h1 h2 h3 h4 hal hf hnf hcc hci h0
  generalize namedB nm=nb at *
  cases nb
  all_goals
   go_enter Tryz.func12,Tryz.ntmps12
   exact zNFc
 ·obtain ⟨g,off,cap1,hv,hg,e0,e1⟩:=sl_idx (h2.below hal).1 h0
  cases hv
  have hfu:il[0].unique=firstU il:=by
   cases il with
   | nil=>simp at h0
   | cons a t=>rfl
  have e2:(w.alloc (.cells #[.string nm,.slice pc cl.length cc,.slice (some ⟨g,off,none⟩) il.length ci,.int .i64 lim,.int .i64 prt,.int .i64 by_] 25)).cell? ⟨g,off+1,none⟩=some (.bool il[0].unique):=by rw [Nat.zero_mul,Nat.add_zero] at e1;exact e1
  rw [hfu] at e2
  have h0i:(0:Int) < (il.length:Int):=zTbe
  have HNF:=Lib.hid hnf
  clear h1 h2 h3 h4 hal hf hnf hcc hci e0 e1 hfu
  generalize namedB nm=nb at *
  generalize firstU il=fu at *
  cases nb
  ·go_enter Tryz.func12,Tryz.ntmps12
   go_wp2_with (go_at_call 52;refine HN.out.mono ?_;clear HN;rintro e w2 ⟨rfl,rfl⟩)
   go_ret
   exact ⟨rfl,HAL.out⟩
  ·cases fu
   ·go_enter Tryz.func12,Tryz.ntmps12
    exact zNFc
   ·go_enter Tryz.func12,Tryz.ntmps12
    go_wp2_with (go_at_call 52;refine HN.out.mono ?_;clear HN;rintro e w2 ⟨rfl,rfl⟩)
    all_goals first
     | (go_ret;exact ⟨rfl,HAL.out⟩)
     | (exfalso;exact HNF.out ⟨rfl,zTbe,zTbe,zTbe,zTbe,zTbe,zTbe,zTbe,zTbe,zTbe,zTbe,rfl⟩)
theorem all_snoc {α:Type} {f:α→Bool} {l:List α} {j k:Nat} (h:(l.take j).all f=true) (e:j=k):(l.take k).all f=true:=e▸h
end Go.Proofs.YteggkjdlajgenaaGreatDoor
