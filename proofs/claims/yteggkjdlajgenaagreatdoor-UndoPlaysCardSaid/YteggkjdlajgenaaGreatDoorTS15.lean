/- Contracts of the functions that the statement reaches, one behind the other. No condition beyond each theorem's own. -/
import Derived.Test.YteggkjdlajgenaaGreatDoorTS13
import Derived.Test.YteggkjdlajgenaaGreatDoorTS14
set_option linter.unusedSimpArgs false
set_option linter.unusedVariables false
set_option maxRecDepth 100000
set_option maxHeartbeats 4000000
namespace Go.Proofs.YteggkjdlajgenaaGreatDoor
open Go.RowKit Go.Afx
theorem note_nil (w:World) (p:Option Addr) (n c:Nat):Calls Tryz.prog 29 #[.pointer none,.slice p n c] w fun e w'=>e=.returned (.tuple #[])∧w'=w:=by
 go_enter Tryz.func29,Tryz.ntmps29
 go_wp2
 go_end0
 exact ⟨rfl,rfl⟩
theorem keep_nil (w:World):Calls Tryz.prog 38 #[.pointer none] w fun e w'=>e=.returned (.tuple #[])∧w'=w:=by
 go_enter Tryz.func38,Tryz.ntmps38
 go_wp2
 go_end0
 exact ⟨rfl,rfl⟩
theorem mark_nil (w:World):Calls Tryz.prog 30 #[.pointer none] w fun e w'=>e=.returned (.int .i64 0)∧w'=w:=by
 exact zD7T
theorem tins_nil (w:World) (p:Option Addr) (n c:Nat):Calls Tryz.prog 55 #[.pointer none,.slice p n c] w fun e w'=>e=.returned (.int .i64 1)∧w'=w:=by
 go_enter Tryz.func55,Tryz.ntmps55
 exact zWFb
theorem tupd_nil (w:World) (k:ByteArray) (p:Option Addr) (n c:Nat):Calls Tryz.prog 73 #[.pointer none,.string k,.slice p n c] w fun e w'=>e=.returned (.int .i64 1)∧w'=w:=by
 go_enter Tryz.func73,Tryz.ntmps73
 exact zWFb
theorem tdel_nil (w:World) (k:ByteArray):Calls Tryz.prog 74 #[.pointer none,.string k] w fun e w'=>e=.returned (.int .i64 1)∧w'=w:=by
 go_enter Tryz.func74,Tryz.ntmps74
 exact zWFb
theorem tlen_nil (w:World):Calls Tryz.prog 25 #[.pointer none] w fun e w'=>e=.returned (.int .i64 0)∧w'=w:=by
 go_enter Tryz.func25,Tryz.ntmps25
 exact zWFb
theorem tget_nil (w:World) (k:ByteArray):Calls Tryz.prog 27 #[.pointer none,.string k] w fun e w'=>e=.returned (.tuple #[.slice none 0 0,.bool false])∧w'=w:=by
 go_enter Tryz.func27,Tryz.ntmps27
 go_wp2
 go_ret2
 exact ⟨rfl,rfl⟩
theorem uins_nil (w:World) (p:Option Addr) (n c:Nat):Calls Tryz.prog 43 #[.pointer none,.slice p n c] w fun e w'=>e=.returned (.int .i64 1)∧w'=w:=by
 go_enter Tryz.func43,Tryz.ntmps43
 exact zWFb
theorem uupd_nil (w:World) (k:ByteArray) (p:Option Addr) (n c:Nat):Calls Tryz.prog 44 #[.pointer none,.string k,.slice p n c] w fun e w'=>e=.returned (.int .i64 1)∧w'=w:=by
 go_enter Tryz.func44,Tryz.ntmps44
 exact zWFb
theorem udel_nil (w:World) (k:ByteArray):Calls Tryz.prog 45 #[.pointer none,.string k] w fun e w'=>e=.returned (.int .i64 1)∧w'=w:=by
 go_enter Tryz.func45,Tryz.ntmps45
 exact zWFb
theorem uclr_nil (w:World):Calls Tryz.prog 46 #[.pointer none] w fun e w'=>e=.returned (.int .i64 1)∧w'=w:=by
 go_enter Tryz.func46,Tryz.ntmps46
 exact zWFb
theorem uins_none (w:World) (ub:Nat) (c0:w.cell? ⟨ub,0,none⟩=some (.pointer none)) (p:Option Addr) (n c:Nat):Calls Tryz.prog 43 #[.pointer (some ⟨ub,0,none⟩),.slice p n c] w fun e w'=>e=.returned (.int .i64 1)∧w'=w:=by
 have HI:=Lib.hid (fun W=>tins_nil W p n c)
 go_enter Tryz.func43,Tryz.ntmps43
 go_wp2_with (go_at_call 55;refine (HI.out _).mono ?_;rintro e w2 ⟨rfl,rfl⟩)
 exact zTTx
theorem uupd_none (w:World) (ub:Nat) (c0:w.cell? ⟨ub,0,none⟩=some (.pointer none)) (k:ByteArray) (p:Option Addr) (n c:Nat):Calls Tryz.prog 44 #[.pointer (some ⟨ub,0,none⟩),.string k,.slice p n c] w fun e w'=>e=.returned (.int .i64 1)∧w'=w:=by
 have HI:=Lib.hid (fun W=>tupd_nil W k p n c)
 have HG:=Lib.hid (fun W=>tget_nil W k)
 go_enter Tryz.func44,Tryz.ntmps44
 go_wp2_with (first
  | (go_at_call 73;refine (HI.out _).mono ?_;rintro e w2 ⟨rfl,rfl⟩)
  | (go_at_call 27;refine (HG.out _).mono ?_;rintro e w2 ⟨rfl,rfl⟩))
 exact zTTx
theorem udel_none (w:World) (ub:Nat) (c0:w.cell? ⟨ub,0,none⟩=some (.pointer none)) (k:ByteArray):Calls Tryz.prog 45 #[.pointer (some ⟨ub,0,none⟩),.string k] w fun e w'=>e=.returned (.int .i64 1)∧w'=w:=by
 have HI:=Lib.hid (fun W=>tdel_nil W k)
 have HG:=Lib.hid (fun W=>tget_nil W k)
 go_enter Tryz.func45,Tryz.ntmps45
 go_wp2_with (first
  | (go_at_call 74;refine (HI.out _).mono ?_;rintro e w2 ⟨rfl,rfl⟩)
  | (go_at_call 27;refine (HG.out _).mono ?_;rintro e w2 ⟨rfl,rfl⟩))
 exact zTTx
theorem uclr_none (w:World) (ub:Nat) (c0:w.cell? ⟨ub,0,none⟩=some (.pointer none)):Calls Tryz.prog 46 #[.pointer (some ⟨ub,0,none⟩)] w fun e w'=>e=.returned (.int .i64 1)∧w'=w:=by
 go_enter Tryz.func46,Tryz.ntmps46
 exact zWFb
section
variable {w0 w : World} {lv : Value} {ua ub : Nat} {J : Option Nat} {fr : List Res} {st : List (List AV) × List (List AV)} {steps : List StepU} {ta tb tp : Nat} {m : List (List AV)}
theorem law_rowsP (h:LawP w0 w lv ua ub J fr st steps ta tb tp m):Calls Tryz.prog 22 #[ptrV tp,.slice none 0 0] w fun e w'=>∃ v rws,e=.returned v∧RowsSq w w' v rws∧rws.map RowV.l=m:=by
 obtain ⟨gp,ga,gb,jv,h,hp,hl,hro,rfl⟩:=h
 have hpm:=RS_p lv ua ub ga gb gp J jv steps fr
 have hw:=pl_w (h.trk.sep.perm hpm) (hp.perm hpm)
 have h1:=trows_any w _ gp hw.ok hw.sep (fun _=>True) (.slice none 0 0) [] (Sl.zero w _ 1)
 rw [inP_emp,hro] at h1
 exact h1
theorem law_schA (h:LawSt w0 w lv ua ub J fr st steps ta tb):Calls Tryz.prog 42 #[ptrV ta] w fun e w'=>∃ c,e=.returned c.agg∧Alike c exUt∧SchAt w' (fun _=>True) c∧Below w.heap.size w w':=by
 obtain ⟨ga,gb,jv,h⟩:=h
 have h1:=tschema_any w _ ga h.a h.trk.sep.left
 rw [h.pa] at h1
 refine h1.mono ?_
 rintro e w' ⟨c,rfl,hal,hown,hb'⟩
 exact ⟨c,rfl,hal.then h.sa,hown.at hal (h.a.st.sch.below hb') (fun _ _ _=>trivial),hb'⟩
end
structure NoneAt (w:World) (gl ol ua ta gn on un:Nat):Prop where
 l0:w.cell? ⟨gl,ol,none⟩=some (.pointer (some ⟨ua,0,none⟩))
 lg:gl < w.heap.size
 uc:w.cell? ⟨ua,0,none⟩=some (.pointer (some ⟨ta,0,none⟩))
 lu:ua < w.heap.size
 n0:w.cell? ⟨gn,on,none⟩=some (.pointer (some ⟨un,0,none⟩))
 ln:gn < w.heap.size
 nc:w.cell? ⟨un,0,none⟩=some (.pointer none)
 lc:un < w.heap.size
theorem NoneAt.below {w w':World} {gl ol ua ta gn on un:Nat} (h:NoneAt w gl ol ua ta gn on un) (hb:Below w.heap.size w w'):NoneAt w' gl ol ua ta gn on un :=
 ⟨(hb.cell (p:=⟨gl,ol,none⟩) h.lg).trans h.l0,Nat.lt_of_lt_of_le h.lg hb.size,(hb.cell (p:=⟨ua,0,none⟩) h.lu).trans h.uc,Nat.lt_of_lt_of_le h.lu hb.size,(hb.cell (p:=⟨gn,on,none⟩) h.ln).trans h.n0,Nat.lt_of_lt_of_le h.ln hb.size,(hb.cell (p:=⟨un,0,none⟩) h.lc).trans h.nc,Nat.lt_of_lt_of_le h.lc hb.size⟩
theorem track_none (w:World) (jb:Nat) (B:Nat→Prop) (tv:Value) (ht:Sl w B 1 tv [Value.pointer none].length [Value.pointer none]) :
 Calls Tryz.prog 40 #[.pointer (some ⟨jb,0,none⟩),tv] w fun e w'=>∃ g off cap un,e=.returned (.slice (some ⟨g,off,none⟩) 1 cap)∧w'.cell? ⟨g,off,none⟩=some (.pointer (some ⟨un,0,none⟩))∧g < w'.heap.size∧w'.cell? ⟨un,0,none⟩=some (.pointer none)∧un < w'.heap.size∧Below w.heap.size w w':=by
 refine (track_any w (some jb) B tv [.pointer none] ht zPXO zPXO).mono ?_
 rintro e w' ⟨lv,rfl,us,hus,hT⟩
 obtain ⟨u,rfl⟩:∃ u,us=[u]:=by
  match us,hus with
  | [x],_=>exact ⟨x,rfl⟩
 have e1:(Res.own 80 1 lv [Value.pointer none].length ([u].map ptrV)::resPs (some jb) [u] ([Value.pointer none].take [Value.pointer none].length))=[Res.own 80 1 lv 1 [ptrV u],resP (some jb) u (.pointer none)]:=rfl
 rw [e1] at hT
 have hown:Own w' 80 1 lv 1 [ptrV u]:=hT.sep.all (Res.own 80 1 lv 1 [ptrV u]) zPXO
 have hblk:Blk w' u 84 [.pointer none,ptrJ (some jb)]:=hT.sep.all (resP (some jb) u (.pointer none)) zPXO
 have hsl:Sl w' (fun _=>True) 1 lv 1 [ptrV u]:=hown.sl (fun _ _=>trivial)
 obtain ⟨g,off,cap,rfl,_,_,_,h1,h2⟩:=hsl.place zTbe
 exact ⟨g,off,cap,u,rfl,h2 0 zPXO,h1,hblk.cell 0,hblk.lt,hT.only.below (Nat.le_refl _) (fun q hq=>by simp [feet] at hq)⟩
end Go.Proofs.YteggkjdlajgenaaGreatDoor
