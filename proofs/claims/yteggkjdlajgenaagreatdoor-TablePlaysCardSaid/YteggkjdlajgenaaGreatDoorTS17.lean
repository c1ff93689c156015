/- Contracts of the functions that the statement reaches, one behind the other. No condition beyond each theorem's own. -/
import Derived.Test.YteggkjdlajgenaaGreatDoorTS11
import Derived.Test.YteggkjdlajgenaaGreatDoorTS13
import Derived.Test.YteggkjdlajgenaaGreatDoorTS16
set_option linter.unusedSimpArgs false
set_option linter.unusedVariables false
set_option maxRecDepth 100000
set_option maxHeartbeats 4000000
theorem zjpP {P:Prop} (h:P:=by
 go_wp2_with fail
 refine HI.out.mono ?_
 clear HI
 rintro e w6 ⟨rfl,g6,hst,hr6⟩
 have hkp:=zSC0
 have hmd6:=HMD5.out.to hst.trk.only.size (fun k hk hl=>hst.trk.only.block k hl (fun hm=>HDIS.out k hm hk.1)) (fun _ hk _=>hk)
 have ha6:=HA5.out.to hst.trk.only.size (fun k hk hl=>hst.trk.only.block k hl (fun hm=>HDIS.out k hm hk.1)) (fun _ hk _=>hk)
 obtain ⟨x0,x1,x2,x3,x4,x5,x6⟩:=md_cells (hkp _ _ _ HK0.out (Nat.le_refl _))
 have hka:=hkp _ _ _ HKA.out HZ1.out
 have y3:=hka.cell 3
 have y4:=hka.cell 4
 simp only [List.getElem?_cons_zero,List.getElem?_cons_succ] at y3 y4
 have HST:=Lib.hid hst
 have HR6:=Lib.hid hr6
 have HSC6:=Lib.hid hmd6.sch
 have hk11:=hkp _ _ _ HK11.out HZ4.out
 have HK116:=Lib.hid hk11
 have HMO:=Lib.hid (HM.out w6 hmd6 ha6)
 clear hst hr6 hkp hmd6 ha6 hka hk11 HM
 go_wp2_with fail
 clear x0 x1 x2 x3 x4 x5 x6 y3 y4
 refine HMO.out.mono ?_
 rintro e w7 ⟨lv,rws,rfl,hra,hrm,hb7⟩
 obtain ⟨pl,cl,hlv,_,_⟩:=hra.1.form
 obtain ⟨nl,hnl⟩:=zo6F
 rw [hnl] at hlv
 subst hlv
 rw [HMV.out]
 have hk117:=HK116.out.below hb7
 obtain ⟨z0,z1,z2,z3,z4,z5,z6⟩:=md_cells hk117
 have zf:=zKB9
 have zl:=hk117.lt
 have HK117:=Lib.hid hk117
 have HRA:=Lib.hid hra
 have HRM:=Lib.hid hrm
 have HB7:=Lib.hid hb7
 clear hnl hra hrm hb7 hk117
 go_wp2
 go_meet
 obtain ⟨hk,hon⟩:=set_seven HK117.out (.string S.name) (.slice pc nc cc) (.slice pi ni ci) (.int .i64 S.limit) (.int .i64 S.parts) (.int .i64 S.by_) (.slice pl nl cl)
 generalize (((((((w7.setCell ⟨w4.heap.size,0,none⟩ (.string S.name)).setCell ⟨w4.heap.size,1,none⟩ (.slice pc nc cc)).setCell ⟨w4.heap.size,2,none⟩ (.slice pi ni ci)).setCell ⟨w4.heap.size,3,none⟩ (.int .i64 S.limit)).setCell ⟨w4.heap.size,4,none⟩ (.int .i64 S.parts)).setCell ⟨w4.heap.size,5,none⟩ (.int .i64 S.by_)).setCell ⟨w4.heap.size,6,none⟩ (.slice pl nl cl))=w8 at *
 exact ⟨g6,.slice pl nl cl,rws,rfl,rfl,cutD_mk HB5.out HSEP.out HST.out HR6.out HSC6.out HRA.out HRM.out HB7.out hon zR0f HZ4.out HZ45.out (Nat.ne_of_lt HZ24.out) (Nat.lt_trans HZ24.out HZ45.out) HZ2.out HKZ.out⟩
 ):P:=h
theorem zSC0 {P:Prop} (h:P:=by
 have zz:∀ b t cs,Blk w5 b t cs→w.heap.size≤b→Blk w6 b t cs:=fun b t cs hb hl=>hb.only hst.trk.only (fun hm=>zIFU)
 exact zz):P:=h
theorem zIFU {P:Prop} (h:P:=by have:=HLT.out _ hm;omega):P:=h
theorem zKB9 {P:Prop} (h:P:=by
 have zz:∀ i,w7.frozen? ⟨w4.heap.size,i,none⟩=false:=hk117.frozen
 exact zz):P:=h
theorem zAGp {P:Prop} (h:P:=by
 clear hk0 hk1 hk2 HI0 HI1 HI2 HI3 HM0 HM1 HM2 HM3
 go_wp2_with fail
 refine HI.out.mono ?_
 clear HI
 rintro e w6 ⟨rfl,g6,hst,hr6⟩
 have hkp:=zSC0
 have hmd6:=HMD5.out.to hst.trk.only.size (fun k hk hl=>hst.trk.only.block k hl (fun hm=>HDIS.out k hm hk.1)) (fun _ hk _=>hk)
 have ha6:=HA5.out.to hst.trk.only.size (fun k hk hl=>hst.trk.only.block k hl (fun hm=>HDIS.out k hm hk.1)) (fun _ hk _=>hk)
 obtain ⟨x0,x1,x2,x3,x4,x5,x6⟩:=md_cells (hkp _ _ _ HK0.out (Nat.le_refl _))
 have hka:=hkp _ _ _ HKA.out HZ1.out
 have y3:=hka.cell 3
 have y4:=hka.cell 4
 simp only [List.getElem?_cons_zero,List.getElem?_cons_succ] at y3 y4
 have HST:=Lib.hid hst
 have HR6:=Lib.hid hr6
 have HSC6:=Lib.hid hmd6.sch
 have hk11:=hkp _ _ _ HK11.out HZ4.out
 have HK116:=Lib.hid hk11
 have HMO:=Lib.hid (HM.out w6 hmd6 ha6)
 clear hst hr6 hkp hmd6 ha6 hka hk11 HM
 go_wp2_with fail
 clear x0 x1 x2 x3 x4 x5 x6 y3 y4
 refine HMO.out.mono ?_
 rintro e w7 ⟨lv,rws,rfl,hra,hrm,hb7⟩
 obtain ⟨pl,cl,hlv,_,_⟩:=hra.1.form
 obtain ⟨nl,hnl⟩:=zo6F
 rw [hnl] at hlv
 subst hlv
 rw [HMV.out]
 have hk117:=HK116.out.below hb7
 obtain ⟨z0,z1,z2,z3,z4,z5,z6⟩:=md_cells hk117
 have zf:=zKB9
 have zl:=hk117.lt
 have HK117:=Lib.hid hk117
 have HRA:=Lib.hid hra
 have HRM:=Lib.hid hrm
 have HB7:=Lib.hid hb7
 clear hnl hra hrm hb7 hk117
 go_wp2
 go_meet
 obtain ⟨hk,hon⟩:=set_seven HK117.out (.string S.name) (.slice pc nc cc) (.slice pi ni ci) (.int .i64 S.limit) (.int .i64 S.parts) (.int .i64 S.by_) (.slice pl nl cl)
 generalize (((((((w7.setCell ⟨w4.heap.size,0,none⟩ (.string S.name)).setCell ⟨w4.heap.size,1,none⟩ (.slice pc nc cc)).setCell ⟨w4.heap.size,2,none⟩ (.slice pi ni ci)).setCell ⟨w4.heap.size,3,none⟩ (.int .i64 S.limit)).setCell ⟨w4.heap.size,4,none⟩ (.int .i64 S.parts)).setCell ⟨w4.heap.size,5,none⟩ (.int .i64 S.by_)).setCell ⟨w4.heap.size,6,none⟩ (.slice pl nl cl))=w8 at *
 exact ⟨g6,.slice pl nl cl,rws,rfl,rfl,cutD_mk HB5.out HSEP.out HST.out HR6.out HSC6.out HRA.out HRM.out HB7.out hon zR0f HZ4.out HZ45.out (Nat.ne_of_lt HZ24.out) (Nat.lt_trans HZ24.out HZ45.out) HZ2.out HKZ.out⟩
 ):P:=h
theorem zjPh {P:Prop} (h:P:=by
 have zz:Hid (S.agg=.agg #[.string S.name,.slice pc nc cc,.slice pi ni ci,.int .i64 S.limit,.int .i64 S.parts,.int .i64 S.by_]):=Lib.hid (by simp only [SchV.agg,hcv,hiv])
 exact zz):P:=h
theorem zu9a {P:Prop} (h:P:=by
 have zz:Blk w1 w.heap.size 25 [.string S.name,.slice pc nc cc,.slice pi ni ci,.int .i64 S.limit,.int .i64 S.parts,.int .i64 S.by_]:=hw1▸Blk.new w _ _
 exact zz):P:=h
theorem zDkY {P:Prop} (h:P:=by
 go_wp2_with (go_at_call 13;refine (HAW.out _ HB2.out).mono ?_;rintro e wZ ⟨rfl,hbZ⟩)
 go_ret
 exact ⟨rfl,(HB2.out).trans (hbZ.mono (HB2.out).size)⟩
 ):P:=h
theorem zHZZ {P:Prop} (h:P:=by
 go_wp2_with fail
 refine HF.out.mono ?_
 rintro e w14 ⟨rfl,hb14⟩
 have HB614:=Lib.hid (HB6.out.trans ((HB613.out.trans (hb14.mono HB613.out.size)).mono HB6.out.size))
 clear hb14 y0 y1 y2 y3 y4 y5 y6
 go_wp2
 go_ret
 exact ⟨rfl,HB614.out⟩
 ):P:=h
namespace Go.Proofs.YteggkjdlajgenaaGreatDoor
open Go.RowKit Go.Afx
theorem does_any (w:World) (R:Nat→Prop) (S:SchV) (g:TabG) (rv:Value) (rows:List RowV) (h:Pair w R S g rv rows) (a:ActT) (ha:ActAt w R a) :
 Calls Tryz.prog 56 #[ptrV g.tb,mdV S rv,a.agg] w (DoesOut w R S g rows a):=by
 have hti:TabW w (fun k=>R k∧k < w.heap.size) g:=⟨h.tab.ok.to (Nat.le_refl _) (fun _ _ _=>rfl) (fun _ hk hl=>⟨hk,hl⟩),h.tab.sep,fun k hk hr=>h.tab.dis k hk hr.1⟩
 have HDIS:=Lib.hid h.tab.dis
 have hmt:=h.md.tight
 have hat:ActAt w (fun k=>R k∧k < w.heap.size) a:=ha.to (Nat.le_refl _) (fun _ _ _=>rfl) (fun _ hk hl=>⟨hk,hl⟩)
 have hlen:=h.len.2
 obtain ⟨⟨pa,na,ca,hav⟩,⟨pb,nb,cb,hbv⟩⟩:(∃ p n c,a.rv=.slice p n c)∧∃ p n c,a.sv=.slice p n c:=by
  obtain ⟨p,c,h1,_⟩:=ha.row.form
  obtain ⟨q,d,h2,_⟩:=ha.rows.1.form
  exact ⟨⟨p,_,c,h1⟩,⟨q,_,d,h2⟩⟩
 have hkey:=fun w4 (hb:Below w.heap.size w w4)=>key09_any w4 _ S rv rows (h.md.below hb) hlen a ha.n64.2.1 ⟨⟨pa,na,ca,hav⟩,⟨pb,nb,cb,hbv⟩⟩
 obtain ⟨o,ho⟩:∃ o,doMd S (rows.map RowV.l) a=o:=⟨_,rfl⟩
 have hins:a.kind=0→∀ w5,Below w.heap.size w w5→Calls Tryz.prog 55 #[ptrV g.tb,a.rv] w5 fun e w'=>e=.returned (.int .i64 o.2)∧∃ g',StepT w5 w' (fun k=>R k∧k < w.heap.size) g g'∧g'.rows=o.1:=fun hk w5 hb=>by
  have h1:=tins_md w5 _ g (hti.below hb) _ a.rv a.row (hat.row.below hb) ha.n64.2.2.1 ha.fine.row.1
  rwa [h.like.ins,←h.eq,←doMd_0 hk,ho] at h1
 have hupd:a.kind=1→∀ w5,Below w.heap.size w w5→Calls Tryz.prog 73 #[ptrV g.tb,.string (kb (keyM S (rows.map RowV.l) a)),a.rv] w5 fun e w'=>e=.returned (.int .i64 o.2)∧∃ g',StepT w5 w' (fun k=>R k∧k < w.heap.size) g g'∧g'.rows=o.1:=fun hk w5 hb=>by
  have h1:=tupd_md w5 _ g (hti.below hb) (keyM S (rows.map RowV.l) a) a.rv a.row (hat.row.below hb) ha.n64.2.2.1 ha.fine.row.1
  rwa [h.like.upd,←h.eq,←doMd_1 hk,ho] at h1
 have hdel:a.kind=2→∀ w5,Below w.heap.size w w5→Calls Tryz.prog 74 #[ptrV g.tb,.string (kb (keyM S (rows.map RowV.l) a))] w5 fun e w'=>e=.returned (.int .i64 o.2)∧∃ g',StepT w5 w' (fun k=>R k∧k < w.heap.size) g g'∧g'.rows=o.1:=fun hk w5 hb=>by
  have h1:=tdel_md w5 _ g (hti.below hb) (keyM S (rows.map RowV.l) a)
  rwa [h.like.del,←h.eq,←doMd_2 hk,ho] at h1
 have hloa:a.kind≠0→a.kind≠1→a.kind≠2→∀ w5,Below w.heap.size w w5→Calls Tryz.prog 37 #[ptrV g.tb,a.sv] w5 fun e w'=>e=.returned (.int .i64 o.2)∧∃ g',StepT w5 w' (fun k=>R k∧k < w.heap.size) g g'∧g'.rows=o.1:=fun h0 h1 h2 w5 hb=>by
  have h1:=tload_md w5 _ g (hti.below hb) (fun k=>R k∧k < w.heap.size) (fun k hk hm=>h.tab.dis k hm hk.1) a.sv a.rows (hat.rows.below hb) ha.n64.2.2.2 (fun r hr=>(ha.fine.rows.2 r hr).1)
  rwa [h.like.load,←doMd_3 (m:=rows.map RowV.l) h0 (by assumption) h2,ho] at h1
 have hmi:a.kind=0→∀ w6,MdAt w6 (fun k=>R k∧k < w.heap.size) S rv rows→ActAt w6 (fun k=>R k∧k < w.heap.size) a→Calls Tryz.prog 82 #[mdV S rv,a.rv] w6 (MdOut w6 (fun k=>R k∧k < w.heap.size) S o):=fun hk w6 hm hb=>by
  have h1:=minsert_any w6 _ S rv rows hm hlen ⟨a.rv,a.row⟩ hb.row hb.n64.2.2.1
  simp only at h1
  rwa [←doMd_0 hk,ho] at h1
 have hmu:a.kind=1→∀ w6,MdAt w6 (fun k=>R k∧k < w.heap.size) S rv rows→ActAt w6 (fun k=>R k∧k < w.heap.size) a→Calls Tryz.prog 83 #[mdV S rv,.string (kb (keyM S (rows.map RowV.l) a)),a.rv] w6 (MdOut w6 (fun k=>R k∧k < w.heap.size) S o):=fun hk w6 hm hb=>by
  have h1:=mupdate_any w6 _ S rv rows hm hlen (keyM S (rows.map RowV.l) a) ⟨a.rv,a.row⟩ hb.row hb.n64.2.2.1
  simp only at h1
  rwa [←doMd_1 hk,ho] at h1
 have hmd_:a.kind=2→∀ w6,MdAt w6 (fun k=>R k∧k < w.heap.size) S rv rows→ActAt w6 (fun k=>R k∧k < w.heap.size) a→Calls Tryz.prog 84 #[mdV S rv,.string (kb (keyM S (rows.map RowV.l) a))] w6 (MdOut w6 (fun k=>R k∧k < w.heap.size) S o):=fun hk w6 hm hb=>by
  have h1:=mdelete_any w6 _ S rv rows hm hlen (keyM S (rows.map RowV.l) a)
  rwa [←doMd_2 hk,ho] at h1
 have hml:a.kind≠0→a.kind≠1→a.kind≠2→∀ w6,MdAt w6 (fun k=>R k∧k < w.heap.size) S rv rows→ActAt w6 (fun k=>R k∧k < w.heap.size) a→Calls Tryz.prog 85 #[mdV S rv,a.sv] w6 (MdOut w6 (fun k=>R k∧k < w.heap.size) S o):=fun h0 h1 h2 w6 hm hb=>by
  have h3:=mload_any w6 _ S rv rows hm a.sv a.rows hb.rows hb.fine.rows.1 hb.n64.2.2.2
  rwa [←doMd_3 (m:=rows.map RowV.l) h0 h1 h2,ho] at h3
 have HO:=Lib.hid ho
 have HSEP:=Lib.hid h.tab.sep
 have HLT:Hid (∀ k∈feet g.res,k < w.heap.size):=Lib.hid h.tab.sep.lt
 have HLIKE:=Lib.hid h.like
 have HAT:=Lib.hid hat
 have HMT:=Lib.hid hmt
 have HLE:=Lib.hid (fun (W:World) (g2:TabG) R (h1:TabOK W R g2) (h2:Sep W g2.res)=>tlen_any W R g2 h1 h2)
 have hrgt:=h.md.right
 have HRG:=Lib.hid hrgt
 have HOK:=Lib.hid h.md.ok
 generalize hkk:keyM S (rows.map RowV.l) a=km at *
 clear hkk
 replace h:=h.md
 obtain ⟨⟨pc,nc,cc,hcv⟩,⟨pi,ni,ci,hiv⟩,⟨pr,cr,hrv,hcr1,hcr2⟩,hrf⟩:=h.forms
 have HRF:=Lib.hid hrf
 subst hrv
 have HMV:=zYQU
 have HMC:=zVSb
 simp only [HMV.out,ActT.agg,hav,hbv] at hkey hins hupd hdel hloa hmi hmu hmd_ hml ⊢
 have hal:=z0KE
 have hkm:=Blk.new w 34 [.string S.name,.slice pc nc cc,.slice pi ni ci,.int .i64 S.limit,.int .i64 S.parts,.int .i64 S.by_,.slice pr rows.length cr]
 obtain ⟨w1,hw1⟩:=zC8e
 rw [hw1] at hal
 have hkm:=zJ1I
 have HAL:=Lib.hid hal
 have HKM:=Lib.hid hkm
 obtain ⟨w2,hw2⟩:∃ w2,w1.alloc (.cells #[.int .i64 a.kind,.int .i64 a.n,.string a.key,.slice pa na ca,.slice pb nb cb] 104)=w2:=⟨_,rfl⟩
 have hb12:=zXxX
 have hka:Blk w2 w1.heap.size 104 [.int .i64 a.kind,.int .i64 a.n,.string a.key,.slice pa na ca,.slice pb nb cb]:=hw2▸Blk.new w1 _ _
 obtain ⟨w3,hw3⟩:∃ w3,w2.alloc (.cells #[.string ⟨#[]⟩,.slice none 0 0,.slice none 0 0,.int .i64 0,.int .i64 0,.int .i64 0,.slice none 0 0] 34)=w3:=⟨_,rfl⟩
 have hb23:=zUeY
 have hkz:Blk w3 w2.heap.size 34 [.string ⟨#[]⟩,.slice none 0 0,.slice none 0 0,.int .i64 0,.int .i64 0,.int .i64 0,.slice none 0 0]:=hw3▸Blk.new w2 _ _
 have hb3:Below w.heap.size w w3:=hal.trans ((hb12.trans (hb23.mono hb12.size)).mono hal.size)
 have HB3:=Lib.hid hb3
 have HKY:=Lib.hid (hkey w3 hb3)
 have HK03:=Lib.hid ((hkm.below hb12).below hb23)
 have HKA3:=Lib.hid (hka.below hb23)
 have HKZ3:=Lib.hid hkz
 have HZ1:Hid (w.heap.size≤w1.heap.size):=hal.size
 have HZ2:Hid (w.heap.size≤w2.heap.size):=Nat.le_trans hal.size hb12.size
 obtain ⟨x0,x1,x2,x3,x4,x5,x6⟩:=md_cells HK03.out
 have hka3:=HKA3.out
 have a0:=hka3.cell 0
 have a1:=hka3.cell 1
 have a2:=hka3.cell 2
 have a3:=hka3.cell 3
 have a4:=hka3.cell 4
 simp only [List.getElem?_cons_zero,List.getElem?_cons_succ] at a0 a1 a2 a3 a4
 have HI0:=Lib.hid hins
 have HI1:=Lib.hid hupd
 have HI2:=Lib.hid hdel
 have HI3:=Lib.hid hloa
 have HM0:=Lib.hid hmi
 have HM1:=Lib.hid hmu
 have HM2:=Lib.hid hmd_
 have HM3:=Lib.hid hml
 clear h hti hmt hat hkey ho hins hupd hdel hloa hmi hmu hmd_ hml hrf hcv hiv hal hkm hb12 hka hb23 hkz hb3 hka3 ha hav hbv
 go_enter Tryz.func56,Tryz.ntmps56
 go_wp2_with fail
 clear hw1 hw2 hw3 x0 x1 x2 x3 x4 x5 x6 a0 a1 a2 a3 a4
 refine HKY.out.mono ?_
 rintro e w4 ⟨rfl,hb4⟩
 clear HKY
 have hb04:=HB3.out.trans (hb4.mono HB3.out.size)
 have hk04:=HK03.out.below hb4
 obtain ⟨x0,x1,x2,x3,x4,x5,x6⟩:=md_cells hk04
 obtain ⟨w5,hw5⟩:∃ w5,w4.alloc (.cells #[.string S.name,.slice pc nc cc,.slice pi ni ci,.int .i64 S.limit,.int .i64 S.parts,.int .i64 S.by_,.slice pr rows.length cr] 34)=w5:=⟨_,rfl⟩
 have hb45:=z1O1
 have hk11:Blk w5 w4.heap.size 34 [.string S.name,.slice pc nc cc,.slice pi ni ci,.int .i64 S.limit,.int .i64 S.parts,.int .i64 S.by_,.slice pr rows.length cr]:=hw5▸Blk.new w4 _ _
 have hb5:=hb04.trans (hb45.mono hb04.size)
 have HB5:=Lib.hid hb5
 have HK0:=Lib.hid (hk04.below hb45)
 have HKA:=Lib.hid ((HKA3.out.below hb4).below hb45)
 have HKZ:=Lib.hid ((HKZ3.out.below hb4).below hb45)
 have HK11:=Lib.hid hk11
 have HZ4:Hid (w.heap.size≤w4.heap.size):=hb04.size
 have HZ24:Hid (w2.heap.size < w4.heap.size):=Nat.lt_of_lt_of_le HKZ3.out.lt hb4.size
 have HZ45:Hid (w4.heap.size < w5.heap.size):=hk11.lt
 have HMD5:=Lib.hid (HMT.out.below hb5)
 have HA5:=Lib.hid (HAT.out.below hb5)
 have HW5:=Lib.hid hw5
 clear hb04 hk04 hb45 hk11 hb5 hb4 hw5
 go_upto_region 4 with fail
 rw [HW5.out]
 clear x0 x1 x2 x3 x4 x5 x6
 have a0:=HKA.out.cell 0
 simp only [List.getElem?_cons_zero,List.getElem?_cons_succ] at a0
 go_upto_block 0 with fail
 clear a0
 go_cut [9,10] (fun t9 t10 wc=>∃ g6 lv rws,t9=.int .i64 o.2∧t10=.int .i64 o.2∧CutD w w5 R S g o.1 w4.heap.size w2.heap.size g6 lv rws wc)
 case first =>
  have hka:=HKA.out
  have a0:=hka.cell 0
  have a3:=hka.cell 3
  have a4:=hka.cell 4
  simp only [List.getElem?_cons_zero,List.getElem?_cons_succ] at a0 a3 a4
  clear hka
  by_cases hk0:a.kind=0
  ·skip
   have d0:(a.kind == 0)=true:=beq_iff_eq.2 hk0
   have HI:=Lib.hid (HI0.out hk0 w5 HB5.out)
   have HM:=Lib.hid (HM0.out hk0)
   clear hk0 HI0 HI1 HI2 HI3 HM0 HM1 HM2 HM3
   exact zjpP
  ·have d0:(a.kind == 0)=false:=beq_eq_false_iff_ne.2 hk0
   by_cases hk1:a.kind=1
   ·skip
    have d1:(a.kind == 1)=true:=beq_iff_eq.2 hk1
    have HI:=Lib.hid (HI1.out hk1 w5 HB5.out)
    have HM:=Lib.hid (HM1.out hk1)
    clear hk0 hk1 HI0 HI1 HI2 HI3 HM0 HM1 HM2 HM3
    exact zjpP
   ·have d1:(a.kind == 1)=false:=beq_eq_false_iff_ne.2 hk1
    by_cases hk2:a.kind=2
    ·skip
     have d2:(a.kind == 2)=true:=beq_iff_eq.2 hk2
     have HI:=Lib.hid (HI2.out hk2 w5 HB5.out)
     have HM:=Lib.hid (HM2.out hk2)
     exact zAGp
    ·skip
     have d2:(a.kind == 2)=false:=beq_eq_false_iff_ne.2 hk2
     have HI:=Lib.hid (HI3.out hk0 hk1 hk2 w5 HB5.out)
     have HM:=Lib.hid (HM3.out hk0 hk1 hk2)
     exact zAGp
 case rest =>
  obtain ⟨g6,lv,rws,rfl,rfl,hc⟩:=hcut
  obtain ⟨pl,cl,hlv,_,_⟩:=hc.ra.1.form
  obtain ⟨nl,hnl⟩:=zo6F
  rw [hnl] at hlv
  subst hlv
  have hll:g6.L.length=nl:=by
   have h1:=congrArg List.length (hc.eq.trans hc.rows.symm)
   rw [List.length_map,TabG.rows_len,hnl] at h1
   exact h1.symm
  have htd:TabW wc.drew _ g6:=hc.tab.below (Below.refl _ _).drew
  have hle:=HLE.out wc.drew g6 _ htd.ok htd.sep
  rw [hc.tb,hll] at hle
  have HL:=Lib.hid hle
  have d0:(o.2 == o.2)=true:=beq_self_eq_true _
  have d1:((nl:Int) == (nl:Int))=true:=beq_self_eq_true _
  have hk11:=HMC.out _▸hc.box
  have HK:=Lib.hid hc.res
  have HC:=Lib.hid hc
  obtain ⟨x0,x1,x2,x3,x4,x5,x6⟩:=md_cells hk11
  obtain ⟨z0,z1,z2,z3,z4,z5,z6⟩:=md_cells hc.res
  have zf:∀ i,wc.frozen? ⟨w2.heap.size,i,none⟩=false:=hc.res.frozen
  have zl:=hc.res.lt
  have xl:=hc.box.lt
  have HZC:Hid (w2.heap.size < w5.heap.size):=Nat.lt_trans HZ24.out HZ45.out
  clear hc hle hk11 hll hnl htd
  generalize o.2=code at *
  go_upto_region 16 with fail
  refine wp_region_lit_plan [] [(1,0),(2,0),(3,0),(4,0),(5,0),(7,0),(0,2),(8,2),(9,0),(6,3),(10,0),(11,0),(12,3),(13,0)] (fun q=>q=w4.heap.size) zyVB zyVB (fun c a d v w h=>zx0I) ?_
  go_wp2_with (first
   | (refine stp ?_)
   | (go_at_call 25;refine HL.out.mono ?_;clear HL;rintro e w9 ⟨rfl,rfl⟩))
  obtain ⟨hk,hon⟩:=set_seven HK.out (.string S.name) (.slice pc nc cc) (.slice pi ni ci) (.int .i64 S.limit) (.int .i64 S.parts) (.int .i64 S.by_) (.slice pl nl cl)
  generalize (((((((wc.setCell ⟨w2.heap.size,0,none⟩ (.string S.name)).setCell ⟨w2.heap.size,1,none⟩ (.slice pc nc cc)).setCell ⟨w2.heap.size,2,none⟩ (.slice pi ni ci)).setCell ⟨w2.heap.size,3,none⟩ (.int .i64 S.limit)).setCell ⟨w2.heap.size,4,none⟩ (.int .i64 S.parts)).setCell ⟨w2.heap.size,5,none⟩ (.int .i64 S.by_)).setCell ⟨w2.heap.size,6,none⟩ (.slice pl nl cl))=wY at *
  refine ⟨fun q i hq=>?_,?_⟩
  ·subst hq
   exact hon.cell (p:=⟨w4.heap.size,i,none⟩) xl (fun he=>by have h1:w4.heap.size=w2.heap.size:=he;have:=HZ24.out;omega)
  go_wp2_with (first|(refine stp ?_))
  obtain ⟨wE,hwE⟩:∃ wE,wY.drew=wE:=⟨_,rfl⟩
  replace hk:Blk wE w2.heap.size 34 [.string S.name,.slice pc nc cc,.slice pi ni ci,.int .i64 S.limit,.int .i64 S.parts,.int .i64 S.by_,.slice pl nl cl]:=hwE▸hk.drew
  replace hon:Only (fun q=>q=w2.heap.size) wc wE:=hwE▸hon.drew
  rw [hwE]
  clear hwE
  obtain ⟨m0,m1,m2,m3,m4,m5,m6⟩:=md_cells hk
  refine bodyPost_ret (v:=.tuple #[.agg #[.string S.name,.slice pc nc cc,.slice pi ni ci,.int .i64 S.limit,.int .i64 S.parts,.int .i64 S.by_,.slice pl nl cl],.bool true]) (by simp [results,Tryz.results56,go_sem,m0,m1,m2,m3,m4,m5,m6]) rfl ?_
  have hc:=HC.out
  have hn6:w2.heap.size∉feet g6.res:=fun hm=>by
   rcases hc.new _ hm with h|h
   ·have:=HLT.out _ h;have:=HZ2.out;omega
   ·have:=HZC.out;omega
  have hR6:¬ grow (fun k=>R k∧k < w.heap.size) w5.heap.size (feet g6.res) w2.heap.size:=fun h=>by
   have:=HZC.out
   have:=HZ2.out
   rcases h with ⟨_,_,h⟩|⟨h,_⟩<;>omega
  have ht:=hc.tab.side hon hR6 hn6
  have hz5:=HB5.out.size
  have hfe:∀ q,(R q∧q < w.heap.size)→q∉feet g6.res:=fun q hq hm=>by
   rcases hc.new _ hm with h|h
   ·exact HDIS.out q h hq.1
   ·omega
  have hG:∀ q,grow (fun k=>R k∧k < w.heap.size) w5.heap.size (feet g6.res) q→grow R w.heap.size (feet g6.res) q:=fun q hq=>by
   rcases hq with ⟨_,h1,h2⟩|⟨h1,h2⟩
   ·exact .inl ⟨h2,h1⟩
   ·exact .inr ⟨zTbe,h2⟩
  refine ⟨g6,.slice pl nl cl,rws,by rw [HMV.out],⟨⟨ht.ok.wide hG,ht.sep,fun k hk h=>?_⟩,?_,⟨?_,HRG.out,?_,?_⟩,hc.eq.trans hc.rows.symm⟩,by rw [HO.out];exact hc.eq,Trk.side hc.trk hon HZ2.out hn6,hc.tb⟩
  ·rcases h with ⟨h1,h2⟩|⟨_,h2⟩
   ·exact hfe k ⟨h2,h1⟩ hk
   ·exact h2 hk
  ·rw [hc.sch];exact HLIKE.out
  ·exact (hc.sc.side hon (fun h=>by have:=HZ2.out;omega)).to (Nat.le_refl _) (fun _ _ _=>rfl) (fun q hq _=>.inl ⟨hq.2,hq.1⟩)
  ·refine (hc.ra.side hon (fun h=>by have:=HZ2.out;have:=HZC.out;rcases h with ⟨_,h⟩|⟨h,_⟩<;>omega)).to (Nat.le_refl _) (fun _ _ _=>rfl) (fun q hq _=>?_)
   rcases hq with h|h
   ·exact .inl ⟨h.2,h.1⟩
   ·exact .inr ⟨zTbe,h.2⟩
  ·intro r hr
   have h1:r.l∈g6.rows:=by rw [hc.rows,←hc.eq];exact List.mem_map_of_mem hr
   exact HLIKE.out.rowOK' (hc.sch▸ht.rowsOK r.l h1)
theorem Pair.move {w w':World} {R R':Nat→Prop} {S:SchV} {g:TabG} {v:Value} {rows:List RowV} (h:Pair w R S g v rows) (hs:w.heap.size≤w'.heap.size) (hb:∀ k,(R k∨k∈feet g.res)→k < w.heap.size→w'.heap[k]?=w.heap[k]?)
 (hB:∀ k,R k→k < w.heap.size→R' k) (hd:∀ k∈feet g.res,¬ R' k):Pair w' R' S g v rows :=
 ⟨⟨h.tab.ok.to hs (fun k hk hl=>hb k (.inl hk) hl) hB,h.tab.sep.keep fun k hk=>hb k (.inr hk) (h.tab.sep.lt k hk),hd⟩,h.like,h.md.to hs (fun k hk hl=>hb k (.inl hk) hl) hB,h.eq⟩
def offR (g:TabG) (b9 b5:Nat):Nat→Prop:=fun k=>k∉feet g.res∧k≠b9∧k≠b5
structure PlaySt (w w2:World) (tb b9 b5:Nat) (S:SchV) (m:List (List AV)) (g:TabG) (lv:Value) (rws:List RowV) (wr:World):Prop where
 pair:Pair wr (offR g b9 b5) S g lv rws
 box:Blk wr b9 34 (mdC S lv)
 res:Blk wr b5 34 [.string ⟨#[]⟩,.slice none 0 0,.slice none 0 0,.int .i64 0,.int .i64 0,.int .i64 0,.slice none 0 0]
 eq:rws.map RowV.l=m
 feet:∀ k∈feet g.res,w2.heap.size≤k∧k≠b9
 tb:g.tb=tb
 bel:Below w.heap.size w wr
def PlayOut (w:World) (S:SchV) (l:List ActT) (e:Ending) (w':World):Prop :=
 ∃ g lv rws,e=.returned (.tuple #[ptrV g.tb,mdV S lv,.bool true])∧Pair w' (fun k=>k∉feet g.res) S g lv rws∧rws.map RowV.l=playMd S [] l∧(∀ k∈feet g.res,w.heap.size≤k)∧Below w.heap.size w w'
structure CutP (wr:World) (b9 b5:Nat) (S:SchV) (g:TabG) (o:List (List AV)) (b11:Nat) (g':TabG) (lv:Value) (rws:List RowV) (wc:World):Prop where
 pair:Pair wc (fun k=>(offR g b9 b5 k∧k < wr.heap.size)∨(wr.heap.size≤k∧k∉Afx.feet g'.res∧k≠b11)) S g' lv rws
 box:Blk wc b11 34 (mdC S lv)
 eq:rws.map RowV.l=o
 trk:Trk wr (Afx.feet g.res) wc g'.res
 tb:g'.tb=g.tb
 ge:wr.heap.size≤b11
 off:b11∉Afx.feet g'.res
theorem cutP_first {wr w5 w6:World} {b9 b5:Nat} {S:SchV} {g:TabG} {rows:List RowV} {a:ActT} {lv:Value} {rws:List RowV} {g':TabG} (hd:∀ k∈feet g.res,k < wr.heap.size)
 (hp:Pair w5 (grow (fun k=>offR g b9 b5 k∧k < wr.heap.size) wr.heap.size (feet g'.res)) S g' lv rws) (heq:rws.map RowV.l=(doMd S (rows.map RowV.l) a).1) (htk:Trk wr (feet g.res) w5 g'.res) (htb:g'.tb=g.tb)
 (h6:w5.alloc (.cells (mdC S lv).toArray 34)=w6):CutP wr b9 b5 S g (doMd S (rows.map RowV.l) a).1 w5.heap.size g' lv rws w6:=by
 have hb:Below w5.heap.size w5 w6:=h6▸(Below.refl _ _).alloc (Nat.le_refl _) _
 have hs:=htk.only.size
 have hl:=hp.tab.sep.lt
 refine ⟨hp.move hb.size (fun k _ hl=>hb.block k hl) (fun k hk hlk=>?_) (fun k hk h=>?_),h6▸Blk.new w5 _ _,heq,htk.below hb,htb,hs,fun hm=>by have:=hl _ hm;omega⟩
 ·rcases hk with ⟨_,h⟩|⟨h1,h2⟩
  ·exact .inl h
  ·exact .inr ⟨h1,h2,zTbe⟩
 ·rcases h with ⟨h1,h2⟩|⟨_,h2,_⟩
  ·exact hp.tab.dis k hk (.inl ⟨h2,h1,h2⟩)
  ·exact h2 hk
theorem cutP_second {wr wA w5 w6:World} {b9 b5:Nat} {S:SchV} {g:TabG} {rows:List RowV} {a:ActT} {lv:Value} {rws:List RowV} {g':TabG} (hA:Below wr.heap.size wr wA) (hA1:wr.heap.size < wA.heap.size) (hd:∀ k∈feet g.res,k < wr.heap.size) (hsep:Sep wr g.res)
 (hp:Pair w5 (grow (fun k=>offR g b9 b5 k∧k < wr.heap.size) wA.heap.size (feet g'.res)) S g' lv rws) (heq:rws.map RowV.l=(doMd S (rows.map RowV.l) a).1) (htk:Trk wA (feet g.res) w5 g'.res) (htb:g'.tb=g.tb)
 (ho:Only (fun q=>q=wr.heap.size) w5 w6) (hk6:Blk w6 wr.heap.size 34 (mdC S lv)):CutP wr b9 b5 S g (doMd S (rows.map RowV.l) a).1 wr.heap.size g' lv rws w6:=by
 have hn:wr.heap.size∉feet g'.res:=fun hm=>by
  rcases htk.foot _ hm with h|h
  ·have:=hd _ h;omega
  ·omega
 refine ⟨hp.move ho.size (fun k hk hl=>ho.block k hl (fun he=>?_)) (fun k hk hlk=>?_) (fun k hk h=>?_),hk6,heq,Trk.side (Trk.after (Trk.of_below hsep hA) htk) ho (Nat.le_refl _) hn,htb,Nat.le_refl _,hn⟩
 ·have he:k=wr.heap.size:=he
  rcases hk with h|h
  ·rcases h with ⟨_,_,h⟩|⟨h,_⟩<;>omega
  ·exact hn (he▸h)
 ·rcases hk with ⟨_,h⟩|⟨h1,h2⟩
  ·exact .inl h
  ·exact .inr ⟨zTbe,h2,zTbe⟩
 ·rcases h with ⟨h1,h2⟩|⟨_,h2,_⟩
  ·exact hp.tab.dis k hk (.inl ⟨zTbe,h1,h2⟩)
  ·exact h2 hk
theorem PlaySt.next {w w2 wr wc wE:World} {tb b9 b5 b11:Nat} {S:SchV} {m o:List (List AV)} {g g':TabG} {lv lv':Value} {rws rws':List RowV} (h:PlaySt w w2 tb b9 b5 S m g lv rws wr) (hc:CutP wr b9 b5 S g o b11 g' lv' rws' wc)
 (ho:Only (fun q=>q=b9) wc wE) (hk:Blk wE b9 34 (mdC S lv')) (h2:w2.heap.size≤b9) (h5:b5 < w2.heap.size) (hw:w.heap.size≤w2.heap.size):PlaySt w w2 tb b9 b5 S o g' lv' rws' wE:=by
 have hl9:=h.box.lt
 have hf:∀ k∈Afx.feet g'.res,w2.heap.size≤k∧k≠b9:=fun k hk=>by
  rcases hc.trk.foot k hk with h1|h1
  ·exact h.feet k h1
  ·exact ⟨zTbe,zTbe⟩
 refine ⟨hc.pair.move ho.size (fun k hk hl=>ho.block k hl (fun he=>?_)) (fun k hk hl=>?_) (fun k hk hr=>hr.1 hk),hk,?_,hc.eq,hf,hc.tb.trans h.tb,?_⟩
 ·have he:k=b9:=he
  rcases hk with h1|h1
  ·rcases h1 with ⟨⟨_,h1,_⟩,_⟩|⟨h1,_⟩
   ·exact h1 he
   ·omega
  ·exact (hf k h1).2 he
 ·rcases hk with ⟨⟨h1,h2,h3⟩,h4⟩|⟨h1,h2,h3⟩
  ·exact ⟨fun hm=>(hc.trk.foot k hm).elim h1 (fun h=>zTbe),h2,h3⟩
  ·exact ⟨h2,zTbe,zTbe⟩
 ·exact (h.res.only hc.trk.only (fun hm=>by have:=(h.feet _ hm).1;omega)).only ho zTbe
 ·have h1:=h.bel.trans (hc.trk.only.below h.bel.size (fun q hq=>by have:=(h.feet q hq).1;omega))
  exact h1.trans (ho.below h1.size (fun q hq=>zTbe))
theorem play09_any (w:World) (hm:Mx w) (B B':Nat→Prop) (S:SchV) (hs:SchAt w B S) (hri:rightS S=true) (v:Value) (l:List ActT) (h:ActsAt w B' v l) (hfi:FineT S l) :
 Calls Tryz.prog 14 #[S.agg,v] w (PlayOut w S l):=by
 obtain ⟨p,cap,rfl,hc1,hc2⟩:=h.sl.form
 have HM:=Lib.hid hm
 have HS:=Lib.hid h
 have HSC:=Lib.hid hs
 have HRI:=Lib.hid hri
 have HFI:=Lib.hid hfi
 have hsz:=greatS_no hfi.sch
 have HSZ:=Lib.hid hsz
 have HFO:=Lib.hid h.forms
 obtain ⟨pc,cc,hcv,_,_⟩:=hs.cols.form
 obtain ⟨pi,ci,hiv,_,_⟩:=hs.idx.1.form
 obtain ⟨nc,hnc⟩:∃ nc,S.cols.length=nc:=⟨_,rfl⟩
 obtain ⟨ni,hni⟩:∃ ni,S.idx.length=ni:=⟨_,rfl⟩
 rw [hnc] at hcv
 rw [hni] at hiv
 have HMV:=zYQU
 have HMC:=zVSb
 have HSA:=zjPh
 rw [HSA.out]
 obtain ⟨w1,hw1⟩:=zZts
 have hb1:=zppX
 have hk1:=zu9a
 obtain ⟨w2,hw2⟩:=zX17
 have hb2:=zXxX
 have hk2:=zTgR
 have hb02:=hb1.trans (hb2.mono hb1.size)
 have hk12:=hk1.below hb2
 obtain ⟨x0,x1,x2,x3,x4,x5⟩:=sch_cells hk12
 have HB2:=Lib.hid hb02
 have HK1:=Lib.hid hk12
 have HK2:=Lib.hid hk2
 have hz1:w.heap.size≤w1.heap.size:=hb1.size
 have hz2:w1.heap.size < w2.heap.size:=hk2.lt
 have hnew:=tabnew_any w2 (HM.out.below hb02) B S (hs.below hb02) zTbe zTbe (fun x hx=>by have:=hsz.2.2.2.2 x hx;omega)
 rw [HSA.out] at hnew
 have HN:=Lib.hid hnew
 obtain ⟨n,hnn⟩:=zwjg
 rw [hnn] at hc1 ⊢
 have HNL:=Lib.hid hnn
 clear h hs hm hfi hsz hcv hiv hnc hni hb1 hk1 hb2 hk2 hb02 hk12 hnew hnn hri
 go_enter Tryz.func14,Tryz.ntmps14
 go_wp2_with fail
 clear hw1 hw2 x0 x1 x2 x3 x4 x5
 refine HN.out.mono ?_
 clear HN
 rintro e w3 (⟨h1,_⟩|⟨_,g0,rfl,hal,hgl,htk,htab⟩)
 ·rw [HRI.out] at h1;cases h1
 have hb23:Below w2.heap.size w2 w3:=htk.only.below (Nat.le_refl _) (fun q hq=>zks3)
 obtain ⟨x0,x1,x2,x3,x4,x5⟩:=sch_cells (HK1.out.below hb23)
 obtain ⟨w4,hw4⟩:∃ w4,w3.alloc (.cells #[.string S.name,.slice pc nc cc,.slice pi ni ci,.int .i64 S.limit,.int .i64 S.parts,.int .i64 S.by_,.slice none 0 0] 34)=w4:=⟨_,rfl⟩
 have hb34:=zvR2
 have hk9:Blk w4 w3.heap.size 34 (mdC S (.slice none 0 0)):=by rw [HMC.out,←hw4];exact Blk.new w3 _ _
 have hz3:w2.heap.size≤w3.heap.size:=hb23.size
 have hf0:∀ k∈feet g0.res,w2.heap.size≤k∧k < w3.heap.size:=fun k hk=>⟨(htk.foot k hk).elim (fun h=>zhtf) id,htk.sep.lt k hk⟩
 have hb04:Below w.heap.size w w4:=HB2.out.trans ((hb23.trans (hb34.mono hb23.size)).mono HB2.out.size)
 have hst0:PlaySt w w2 g0.tb w3.heap.size w1.heap.size S [] g0 (.slice none 0 0) [] w4:=by
  refine ⟨⟨⟨htab.to hb34.size (fun k _ hl=>hb34.block k hl) (fun k hk hl=>⟨hk.1,zTbe,?_⟩),htk.sep.below hb34,fun k hk h=>h.1 hk⟩,hal,⟨?_,HRI.out,⟨sl_none _ _ _,fun r hr=>absurd hr zPXO⟩,fun r hr=>absurd hr zPXO⟩,?_⟩,hk9,(HK2.out.below hb23).below hb34,rfl,fun k hk=>⟨(hf0 k hk).1,by have:=(hf0 k hk).2;omega⟩,rfl,hb04⟩
  ·rcases hk.2 with h|h
   ·omega
   ·have:=(HM.out).lt;omega
  ·exact HSC.out.to hb04.size (fun k _ hl=>hb04.block k hl) (fun k _ hl=>⟨fun hm=>by have:=(hf0 k hm).1;omega,zTbe,zTbe⟩)
  ·unfold TabG.rows;rw [hgl];rfl
 have HST0:=Lib.hid hst0
 have HW4:=Lib.hid hw4
 clear hal hgl htk htab hb23 hb34 hk9 hf0 hb04 hst0 hw4
 go_wp2
 rw [HW4.out]
 clear x0 x1 x2 x3 x4 x5
 go_loopw [10] (fun i wr=>∃ (j:Nat) (g:TabG) (lv:Value) (rws:List RowV),i=.int .i64 j∧j≤n∧PlaySt w w2 g0.tb w3.heap.size w1.heap.size S (playMd S [] (l.take j)) g lv rws wr) (fun i _=>n - (intOf i).toNat)
 case atStart=>exact ⟨0,g0,_,[],rfl,Nat.zero_le _,HST0.out⟩
 case round =>
  obtain ⟨j,g,lv,rws,rfl,hj,hst⟩:=hrel
  obtain ⟨pl,cl,hlv,_,_⟩:=hst.pair.md.ra.1.form
  obtain ⟨nl,hnl⟩:=zo6F
  rw [hnl] at hlv
  subst hlv
  have HST:=Lib.hid hst
  obtain ⟨y0,y1,y2,y3,y4,y5,y6⟩:=md_cells (HMC.out _▸hst.box)
  have hly:=hst.box.lt
  by_cases hjn:j < n
  ·have hkl:j < l.length:=by rw [HNL.out];exact hjn
   obtain ⟨ga,off,cap',hv,hga0,c0,c1,c2,c3,c4⟩:=sl_actT HS.out.sl hkl
   have e0:=(hst.bel.cell (p:=⟨ga,_,none⟩) hga0).trans c0
   have e1:=(hst.bel.cell (p:=⟨ga,_,none⟩) hga0).trans c1
   have e2:=(hst.bel.cell (p:=⟨ga,_,none⟩) hga0).trans c2
   have e3:=(hst.bel.cell (p:=⟨ga,_,none⟩) hga0).trans c3
   have e4:=(hst.bel.cell (p:=⟨ga,_,none⟩) hga0).trans c4
   have hga:ga < wr.heap.size:=Nat.lt_of_lt_of_le hga0 hst.bel.size
   clear c0 c1 c2 c3 c4
   rw [HNL.out] at hv
   cases hv
   have hmk:l[j]∈l:=List.getElem_mem hkl
   have hnx:=playMd_succ S [] l hkl
   obtain ⟨⟨pr,nr,cr,hrv⟩,⟨ps,ns,cs,hsv⟩⟩:=HFO.out _ hmk
   have hbel:=hst.bel
   have ha0:ActAt wr (fun k=>offR g w3.heap.size w1.heap.size k∧k < wr.heap.size) l[j]:=by
    have h1:ActAt w B' l[j]:=⟨HS.out.row _ hmk,HS.out.rows _ hmk,HS.out.n64 _ hmk,HFI.out.acts _ hmk⟩
    exact h1.to hbel.size (fun k _ hl=>hbel.block k hl) (fun k _ hl=>⟨⟨fun hm=>by have:=(hst.feet k hm).1;omega,zTbe,zTbe⟩,by have:=hbel.size;omega⟩)
   have hp0:Pair wr (fun k=>offR g w3.heap.size w1.heap.size k∧k < wr.heap.size) S g (.slice pl nl cl) rws:=hst.pair.move (Nat.le_refl _) (fun _ _ _=>rfl) (fun k hk hl=>⟨hk,hl⟩) (fun k hk h=>h.1.1 hk)
   have HDO:Hid (∀ w4,Below wr.heap.size wr w4→Calls Tryz.prog 56 #[ptrV g.tb,mdV S (.slice pl nl cl),l[j].agg] w4 (DoesOut w4 (fun k=>offR g w3.heap.size w1.heap.size k∧k < wr.heap.size) S g rws l[j])):=Lib.hid fun w4 hb=>does_any w4 _ S g _ rws (hp0.below hb) l[j] (ha0.below hb)
   have hEQ:rws.map RowV.l=playMd S [] (l.take j):=hst.eq
   rw [←hEQ] at hnx
   generalize l[j]=a at *
   have HNX:=Lib.hid hnx
   rw [hrv] at e3
   rw [hsv] at e4
   simp only [HMV.out,ActT.agg,hrv,hsv] at HDO
   have HTB:Hid (g.tb=g0.tb):=Lib.hid hst.tb
   rw [hst.tb] at HDO
   have HLT:Hid (∀ k∈feet g.res,k < wr.heap.size):=Lib.hid hst.pair.tab.sep.lt
   have HSEP:=Lib.hid hst.pair.tab.sep
   clear hst hbel ha0 hp0 hmk hnx hrv hsv hnl hEQ
   go_upto_region 6 with fail
   go_cut [11,12] (fun t11 t12 wc=>t12=.bool true∧∃ b11 g' lv' rws',t11=.pointer (some ⟨b11,0,none⟩)∧CutP wr w3.heap.size w1.heap.size S g (doMd S (rws.map RowV.l) a).1 b11 g' lv' rws' wc)
   case first =>
    have d0:wr.drew.cell? ⟨w3.heap.size,0,none⟩=some (.string S.name):=y0
    have d1:wr.drew.cell? ⟨w3.heap.size,1,none⟩=some (.slice pc nc cc):=y1
    have d2:wr.drew.cell? ⟨w3.heap.size,2,none⟩=some (.slice pi ni ci):=y2
    have d3:wr.drew.cell? ⟨w3.heap.size,3,none⟩=some (.int .i64 S.limit):=y3
    have d4:wr.drew.cell? ⟨w3.heap.size,4,none⟩=some (.int .i64 S.parts):=y4
    have d5:wr.drew.cell? ⟨w3.heap.size,5,none⟩=some (.int .i64 S.by_):=y5
    have d6:wr.drew.cell? ⟨w3.heap.size,6,none⟩=some (.slice pl nl cl):=y6
    have f0:wr.drew.cell? ⟨ga,off+j*5,none⟩=some (.int .i64 a.kind):=e0
    have f1:wr.drew.cell? ⟨ga,off+j*5+1,none⟩=some (.int .i64 a.n):=e1
    have f2:wr.drew.cell? ⟨ga,off+j*5+2,none⟩=some (.string a.key):=e2
    have f3:wr.drew.cell? ⟨ga,off+j*5+3,none⟩=some (.slice pr nr cr):=e3
    have f4:wr.drew.cell? ⟨ga,off+j*5+4,none⟩=some (.slice ps ns cs):=e4
    have hd:Below wr.heap.size wr wr.drew:=(Below.refl _ _).drew
    have ha:=zRAR
    have H1:=Lib.hid (HDO.out _ hd)
    have H2:=Lib.hid (HDO.out _ ha)
    have hag0:Agree (fun q=>q=w3.heap.size∨q=ga) wr.drew (wr.alloc (.cells #[.string ⟨#[]⟩,.slice none 0 0,.slice none 0 0,.int .i64 0,.int .i64 0,.int .i64 0,.slice none 0 0] 34)).drew:=agree2_alloc (w:=wr) _ hly hga
    have HA:=Lib.hid ha
    have HZA:=zYYc
    have HKB:=z062
    have H9:Hid (w3.heap.size∉feet g.res):=Lib.hid fun hm=>(HST.out.feet _ hm).2 rfl
    have HGA:Hid (ga∉feet g.res):=Lib.hid fun hm=>by
     have h1:=(HST.out.feet _ hm).1
     omega
    clear hd ha HDO y0 y1 y2 y3 y4 y5 y6 e0 e1 e2 e3 e4
    refine wp_region_lit_plans [6,7,8,9,10,11] [[(0,0),(2,0),(3,0),(4,0),(1,2),(5,2),(6,4),(7,0),(8,0),(9,0),(10,3),(11,4),(12,0)],[(0,0),(2,0),(3,0),(4,0),(1,2),(5,2),(6,4),(7,0),(8,0),(10,3),(9,0),(11,4),(12,0)],[(0,0),(2,0),(3,0),(4,0),(1,2),(5,2),(6,4),(7,0),(8,0),(10,3),(11,4),(9,0),(12,0)],[(0,0),(2,0),(3,0),(4,0),(1,2),(5,2),(6,4),(7,0),(9,0),(8,0),(10,3),(11,4),(12,0)],[(0,0),(2,0),(3,0),(4,0),(1,2),(5,2),(6,4),(7,0),(9,0),(10,3),(8,0),(11,4),(12,0)],[(0,0),(2,0),(3,0),(4,0),(1,2),(5,2),(6,4),(7,0),(10,3),(8,0),(9,0),(11,4),(12,0)],[(0,0),(2,0),(3,0),(4,0),(1,2),(5,2),(6,4),(7,0),(10,3),(8,0),(11,4),(9,0),(12,0)],[(0,0),(2,0),(3,0),(4,0),(1,2),(5,2),(6,4),(7,0),(10,3),(9,0),(8,0),(11,4),(12,0)],[(0,0),(2,0),(3,0),(4,0),(1,2),(5,2),(6,4),(10,3),(7,0),(8,0),(9,0),(11,4),(12,0)],[(0,0),(2,0),(3,0),(4,0),(1,2),(5,2),(6,4),(10,3),(7,0),(8,0),(11,4),(9,0),(12,0)],[(0,0),(2,0),(3,0),(4,0),(1,2),(5,2),(6,4),(10,3),(7,0),(9,0),(8,0),(11,4),(12,0)],[(0,0),(2,0),(3,0),(4,0),(1,2),(5,2),(10,3),(6,4),(7,0),(8,0),(9,0),(11,4),(12,0)],[(0,0),(2,0),(3,0),(4,0),(1,2),(5,2),(10,3),(6,4),(7,0),(8,0),(11,4),(9,0),(12,0)],[(0,0),(2,0),(3,0),(4,0),(1,2),(5,2),(10,3),(6,4),(7,0),(9,0),(8,0),(11,4),(12,0)]] (fun q=>q=w3.heap.size∨q=ga) zyVB zyVB (fun c a d v w h=>zx0I) ?_;refine ⟨?_,?_,?_,?_,?_,?_,?_,?_,?_,?_,?_,?_,?_,?_,trivial⟩
    all_goals
     go_wp2_with (first
      | (refine stp ?_)
      | (go_at_call 56;(with_reducible refine H1.out.mono ?_);rintro e w5 ⟨g',lv',rws',rfl,hp,heq,htk,htb⟩;obtain ⟨p5,c5,hlv5,_,_⟩:=hp.md.ra.1.form;obtain ⟨n5,hn5⟩:∃ n5,rws'.length=n5:=⟨_,rfl⟩;rw [hn5] at hlv5;subst hlv5;rw [HMV.out];have hag5:=agree2_alloc (w:=w5) (.cells #[.string ⟨#[]⟩,.slice none 0 0,.slice none 0 0,.int .i64 0,.int .i64 0,.int .i64 0,.slice none 0 0] 34) (Nat.lt_of_lt_of_le hly htk.only.size) (Nat.lt_of_lt_of_le hga htk.only.size);have HP:=Lib.hid hp;have HEQ:=Lib.hid heq;have HTK:=Lib.hid htk;have HTB5:=Lib.hid htb;clear hp heq htk htb hn5 H2 HKB)
      | (go_at_call 56;(with_reducible refine H2.out.mono ?_);rintro e w5 ⟨g',lv',rws',rfl,hp,heq,htk,htb⟩;obtain ⟨p5,c5,hlv5,_,_⟩:=hp.md.ra.1.form;obtain ⟨n5,hn5⟩:∃ n5,rws'.length=n5:=⟨_,rfl⟩;rw [hn5] at hlv5;subst hlv5;rw [HMV.out];have hkb:=HKB.out.only htk.only (fun hm=>zIFU);have HK5:=Lib.hid hkb;obtain ⟨z0,z1,z2,z3,z4,z5,z6⟩:=md_cells hkb;have zf:∀ i,w5.frozen? ⟨wr.heap.size,i,none⟩=false:=hkb.frozen;have hag5:Agree (fun q=>q=w3.heap.size∨q=ga) _ w5:=(fun q i hq=>htk.only.cell (p:=⟨q,i,none⟩) (Nat.lt_trans zcbp HZA.out) (fun hm=>by rcases hq with rfl|rfl;exact H9.out hm;exact HGA.out hm));have HP:=Lib.hid hp;have HEQ:=Lib.hid heq;have HTK:=Lib.hid htk;have HTB5:=Lib.hid htb;clear hp heq htk htb hn5 hkb H1))
     go_meet
     first
      | (have hk5:=HK5.out
         clear hk5
         obtain ⟨hk,hon⟩:=set_seven HK5.out (.string S.name) (.slice pc nc cc) (.slice pi ni ci) (.int .i64 S.limit) (.int .i64 S.parts) (.int .i64 S.by_) (.slice p5 n5 c5)
         generalize (((((((w5.setCell ⟨wr.heap.size,0,none⟩ (.string S.name)).setCell ⟨wr.heap.size,1,none⟩ (.slice pc nc cc)).setCell ⟨wr.heap.size,2,none⟩ (.slice pi ni ci)).setCell ⟨wr.heap.size,3,none⟩ (.int .i64 S.limit)).setCell ⟨wr.heap.size,4,none⟩ (.int .i64 S.parts)).setCell ⟨wr.heap.size,5,none⟩ (.int .i64 S.by_)).setCell ⟨wr.heap.size,6,none⟩ (.slice p5 n5 c5))=wE at *
         exact ⟨rfl,wr.heap.size,g',.slice p5 n5 c5,rws',rfl,cutP_second HA.out HZA.out HLT.out HSEP.out HP.out HEQ.out HTK.out HTB5.out hon zR0f⟩)
      | skip
     all_goals
      obtain ⟨w6,h6⟩:∃ w6,w5.alloc (.cells #[.string S.name,.slice pc nc cc,.slice pi ni ci,.int .i64 S.limit,.int .i64 S.parts,.int .i64 S.by_,.slice p5 n5 c5] 34)=w6:=⟨_,rfl⟩
      rw [h6]
      exact ⟨rfl,w5.heap.size,g',.slice p5 n5 c5,rws',rfl,cutP_first HLT.out HP.out HEQ.out (Trk.after (Trk.of_below HSEP.out (Below.refl _ _).drew) HTK.out) HTB5.out (by rw [HMC.out];exact h6)⟩
   case rest =>
    obtain ⟨rfl,b11,g',lv',rws',rfl,hc⟩:=hcut
    obtain ⟨p8,c8,hlv8,_,_⟩:=hc.pair.md.ra.1.form
    obtain ⟨n8,hn8⟩:∃ n8,rws'.length=n8:=⟨_,rfl⟩
    rw [hn8] at hlv8
    subst hlv8
    have HC:=Lib.hid hc
    have h9:w3.heap.size∉feet g.res:=fun hm=>(HST.out.feet _ hm).2 rfl
    have hk9:=HMC.out _▸HST.out.box.only hc.trk.only h9
    have HK9:=Lib.hid hk9
    obtain ⟨x0,x1,x2,x3,x4,x5,x6⟩:=md_cells (HMC.out _▸hc.box)
    obtain ⟨z0,z1,z2,z3,z4,z5,z6⟩:=md_cells hk9
    have zf:∀ i,wc.frozen? ⟨w3.heap.size,i,none⟩=false:=hk9.frozen
    have zl:=hk9.lt
    clear hc hk9 h9 y0 y1 y2 y3 y4 y5 y6 e0 e1 e2 e3 e4 hn8
    go_wp2
    obtain ⟨hk,hon⟩:=set_seven HK9.out (.string S.name) (.slice pc nc cc) (.slice pi ni ci) (.int .i64 S.limit) (.int .i64 S.parts) (.int .i64 S.by_) (.slice p8 n8 c8)
    generalize (((((((wc.setCell ⟨w3.heap.size,0,none⟩ (.string S.name)).setCell ⟨w3.heap.size,1,none⟩ (.slice pc nc cc)).setCell ⟨w3.heap.size,2,none⟩ (.slice pi ni ci)).setCell ⟨w3.heap.size,3,none⟩ (.int .i64 S.limit)).setCell ⟨w3.heap.size,4,none⟩ (.int .i64 S.parts)).setCell ⟨w3.heap.size,5,none⟩ (.int .i64 S.by_)).setCell ⟨w3.heap.size,6,none⟩ (.slice p8 n8 c8))=wE at *
    have HK:=Lib.hid hk
    have HON:=Lib.hid hon
    clear hk hon x0 x1 x2 x3 x4 x5 x6 z0 z1 z2 z3 z4 z5 z6 zf zl
    go_roundw
    case rel=>exact ⟨j+1,g',_,rws',z3KH,zTbe,by rw [HNX.out];exact HST.out.next HC.out HON.out (by rw [HMC.out];exact HK.out) hz3 hz2 (Nat.le_trans hz1 (Nat.le_of_lt hz2))⟩
    case measure=>(simp [intOf])<;>omega
  ·obtain rfl:j=n:=by omega
   have hz:=HMC.out _▸hst.box
   have HK5:=Lib.hid hst.res
   obtain ⟨z0,z1,z2,z3,z4,z5,z6⟩:=md_cells hst.res
   have zf:∀ i,wr.frozen? ⟨w1.heap.size,i,none⟩=false:=hst.res.frozen
   have zl:=hst.res.lt
   have htb:=hst.tb
   have HTB:=Lib.hid htb
   clear hst htb hz
   go_upto_region 10 with fail
   refine wp_region_lit_plan [] [(0,0),(2,0),(3,0),(4,0),(1,1),(5,4),(6,0)] (fun q=>q=w3.heap.size) zyVB zyVB (fun c a d v w h=>zx0I) ?_
   go_wp2_with (first|(refine stp ?_))
   have hst:=HST.out
   obtain ⟨hk,hon⟩:=set_seven HK5.out (.string S.name) (.slice pc nc cc) (.slice pi ni ci) (.int .i64 S.limit) (.int .i64 S.parts) (.int .i64 S.by_) (.slice pl nl cl)
   generalize (((((((wr.setCell ⟨w1.heap.size,0,none⟩ (.string S.name)).setCell ⟨w1.heap.size,1,none⟩ (.slice pc nc cc)).setCell ⟨w1.heap.size,2,none⟩ (.slice pi ni ci)).setCell ⟨w1.heap.size,3,none⟩ (.int .i64 S.limit)).setCell ⟨w1.heap.size,4,none⟩ (.int .i64 S.parts)).setCell ⟨w1.heap.size,5,none⟩ (.int .i64 S.by_)).setCell ⟨w1.heap.size,6,none⟩ (.slice pl nl cl))=wY at *
   obtain ⟨wE,hwE⟩:∃ wE,wY.drew=wE:=⟨_,rfl⟩
   replace hk:Blk wE w1.heap.size 34 [.string S.name,.slice pc nc cc,.slice pi ni ci,.int .i64 S.limit,.int .i64 S.parts,.int .i64 S.by_,.slice pl nl cl]:=hwE▸hk.drew
   replace hon:Only (fun q=>q=w1.heap.size) wr wE:=hwE▸hon.drew
   rw [hwE]
   clear hwE
   obtain ⟨m0,m1,m2,m3,m4,m5,m6⟩:=md_cells hk
   refine bodyPost_ret (v:=.tuple #[ptrV g0.tb,.agg #[.string S.name,.slice pc nc cc,.slice pi ni ci,.int .i64 S.limit,.int .i64 S.parts,.int .i64 S.by_,.slice pl nl cl],.bool true]) (by simp [results,Tryz.results14,go_sem,m0,m1,m2,m3,m4,m5,m6]) rfl ?_
   have hn1:∀ k,k∈feet g.res→k≠w1.heap.size:=fun k hk=>by have:=(hst.feet k hk).1;omega
   refine ⟨g,_,rws,by rw [HMV.out,hst.tb],hst.pair.move hon.size (fun k hk hl=>hon.block k hl (fun he=>?_)) (fun k hk _=>hk.1) (fun k hk h=>h hk),?_,fun k hk=>by have:=(hst.feet k hk).1;omega,hst.bel.trans (hon.below hst.bel.size (fun q hq=>zTbe))⟩
   ·have he:k=w1.heap.size:=he
    rcases hk with h|h
    ·exact h.2.2 he
    ·exact hn1 k h he
   ·rw [hst.eq,←HNL.out,List.take_length]
theorem ocActT:Tryz.prog.cellsOf 104=5:=zyVB
theorem ocRowsT:Tryz.prog.cellsOf 32=1:=zyVB
theorem ocRowT:Tryz.prog.cellsOf 37=1:=zyVB
theorem open_actsT {H:Type} {enc:TypeId × Value→H} {w:World} {v:Value} {d:DataW H} {ps:List MemPlace} (h:DataW.Trod enc Tryz.prog w 0 (fun _=>true) true 26 v d ps) (hv:v.cells.toList=[v]) :
 ∃ l:List ActT,ActsAt w (fun _=>True) v l:=by
 obtain ⟨fuel,hf⟩:=h
 rw [hv] at hf
 obtain ⟨es,h1,h2⟩:=open_sl Tryz.underlying26 ocActT zTbe hf
  (fun c=>∃ a:ActT,c=actCT1 a∧(Sl w (fun _=>True) 3 a.rv a.row.length (rowCells a.row)∧RowsAt w (fun _=>True) a.sv a.rows∧fit64 a.kind∧fit64 a.n∧(∀ v∈a.row,fit64 v.n)∧∀ r∈a.rows,∀ v∈r.l,fit64 v.n))
  (fun c ⟨a,hc,hr,hs,_⟩=>by subst hc;exact ((((Ones.nil.cons (sl_one hs.1)).cons (sl_one hr)).cons rfl).cons rfl).cons rfl)
  (fun f c y hl hy=>by
   obtain ⟨n,hfs⟩:=open_fields Tryz.underlying104 hy
   obtain ⟨c0,c1,c2,c3,c4,rfl⟩:=list5 hl
   obtain ⟨y0,h0⟩:=hfs 0 _ rfl
   obtain ⟨y1,h1⟩:=hfs 1 _ rfl
   obtain ⟨y2,h2⟩:=hfs 2 _ rfl
   obtain ⟨y3,h3⟩:=hfs 3 _ rfl
   obtain ⟨y4,h4⟩:=hfs 4 _ rfl
   simp only [ocInt,ocStr,ocRowT,ocRowsT,List.drop_zero,List.drop_succ_cons,List.take_succ_cons,List.take_zero] at h0 h1 h2 h3 h4
   obtain ⟨k,e0,_,w0⟩:=DataW.trod_int Tryz.underlying3 h0
   obtain ⟨m,e1,_,w1⟩:=DataW.trod_int Tryz.underlying3 h1
   obtain ⟨s,e2,_,w2⟩:=DataW.trod_string Tryz.underlying9 h2
   obtain ⟨l,hl3,hr3⟩:=open_row_at h3
   obtain ⟨rows,hl4,hr4⟩:=open_rows_at h4
   simp only [List.cons.injEq,and_true] at e0 e1 e2
   subst e0 e1 e2
   exact ⟨⟨k,m,s,c3,l,c4,rows⟩,rfl,hl3,hl4,wf_fit64 w0,wf_fit64 w1,fun a ha=>(hr3 a ha).2.1,fun r hr a ha=>(hr4 r hr a ha).2.1⟩)
 obtain ⟨acts,rfl,h4⟩:=choose_list es (fun c hc=>(h1 c hc).2)
 rw [List.length_map] at h2
 exact ⟨acts,h2,fun a ha=>(h4 a ha).1,fun a ha=>(h4 a ha).2.1,fun a ha=>(h4 a ha).2.2⟩
theorem open_intsT {H:Type} {enc:TypeId × Value→H} {w:World} {v:Value} {d:DataW H} {ps:List MemPlace} (h:DataW.Trod enc Tryz.prog w 0 (fun _=>true) true 27 v d ps) (hv:v.cells.toList=[v]) :
 ∃ l:List Int,Sl w (fun _=>True) 1 v l.length (ints l):=by
 obtain ⟨fuel,hf⟩:=h
 rw [hv] at hf
 exact open_ints_at hf
theorem Alike.trans {a b c:SchV} (h:Alike a b) (k:Alike b c):Alike a c :=
 ⟨h.name.trans k.name,h.cols.trans k.cols,h.idx.trans k.idx,h.uni.trans k.uni,h.limit.trans k.limit,h.parts.trans k.parts,h.by_.trans k.by_⟩
theorem look_find_iff {g:TabG} (k:Key):(lookL g k).isSome=decide (0≤findM (kfS g.S) k g.rows 0):=by
 rcases lookL_find (g:=g) k with ⟨h1,h2⟩|⟨j,hj,h2,h3⟩
 ·rw [h1,h2];rfl
 ·rw [h2]
  have:(lookL g k).isSome=true:=by
   unfold lookL
   rw [List.find?_isSome]
   have hj':j < g.L.length:=by rw [←TabG.rows_len];exact hj
   refine ⟨g.L[j],List.getElem_mem hj',?_⟩
   have h4:=z1zT
   rw [h4] at h3
   rw [h3];exact beq_self_eq_true _
  rw [this]
  exact (decide_eq_true zTbe).symm
theorem rowOf_none {g:TabG} {k:Key} (h:(lookL g k).isSome=false):rowOf g k=[]:=by
 unfold rowOf
 cases hq:lookL g k with
 | none=>rfl
 | some p=>rw [hq] at h;cases h
theorem tplays_any (w:World) (hm:Mx w) (S:SchV) (hs:SchAt w (fun _=>True) S) (v:Value) (l:List ActT) (h:ActsAt w (fun _=>True) v l) (ask:ByteArray) (hask:ask.size≤maxLen) :
 Calls Tryz.prog 9 #[S.agg,v,.string ask] w fun e w'=>e=.returned (.bool true)∧Below w.heap.size w w':=by
 obtain ⟨p,cap,rfl,hc1,hc2⟩:=h.sl.form
 have hgr:=great09_any
 have HM:=Lib.hid hm
 have HS:=Lib.hid h
 have HSC:=Lib.hid hs
 obtain ⟨pc,cc,hcv,_,_⟩:=hs.cols.form
 obtain ⟨pi,ci,hiv,_,_⟩:=hs.idx.1.form
 obtain ⟨nc,hnc⟩:∃ nc,S.cols.length=nc:=⟨_,rfl⟩
 obtain ⟨ni,hni⟩:∃ ni,S.idx.length=ni:=⟨_,rfl⟩
 rw [hnc] at hcv
 rw [hni] at hiv
 have HNI:=Lib.hid hni
 have HMV:=zYQU
 have HMC:=zVSb
 have HSA:=zjPh
 obtain ⟨n,hnn⟩:=zwjg
 rw [hnn] at hc1
 have HGR:=Lib.hid (fun W (hb:Below w.heap.size w W)=>great09_any W _ _ S (hs.below hb) _ l (h.below hb))
 have HRT:=Lib.hid (fun W (hb:Below w.heap.size w W)=>refright_any W _ S (hs.below hb))
 have HAW:=Lib.hid (fun W (hb:Below w.heap.size w W)=>awake09_any W (hm.below hb))
 have HPL:=Lib.hid (fun W (hb:Below w.heap.size w W) (hr:rightS S=true) (hf:FineT S l)=>play09_any W (hm.below hb) _ _ S (hs.below hb) hr _ l (h.below hb) hf)
 rw [hnn] at HGR HPL
 rw [HSA.out] at HGR HRT HPL ⊢
 rw [hnn]
 have HNL:=Lib.hid hnn
 obtain ⟨w1,hw1⟩:=zZts
 have hb1:=zppX
 have hk1:=zu9a
 have HB1:=Lib.hid hb1
 have HK1:=Lib.hid hk1
 obtain ⟨x0,x1,x2,x3,x4,x5⟩:=sch_cells hk1
 have HG1:=Lib.hid (HGR.out w1 hb1)
 have hz1:w.heap.size < w1.heap.size:=hk1.lt
 clear h hs hm hcv hiv hnc hni hb1 hk1 hnn hgr HGR
 go_enter Tryz.func9,Tryz.ntmps9
 go_wp2_with fail
 clear hw1 x0 x1 x2 x3 x4 x5
 refine HG1.out.mono ?_
 rintro e w2 ⟨gb,rfl,hb2,hgb⟩
 clear HG1
 have HB2:=Lib.hid (HB1.out.trans (hb2.mono HB1.out.size))
 have HK2:=Lib.hid (HK1.out.below hb2)
 have HGB:=Lib.hid hgb
 clear hb2 hgb
 cases gb with
 | true =>
  exact zDkY
 | false =>
  by_cases h1:300 < ask.size
  ·skip
   exact zDkY
  have hfi:=HGB.out rfl
  have HFI:=Lib.hid hfi
  clear hfi
  go_wp2_with fail
  refine (HAW.out _ HB2.out).mono ?_
  rintro e w3 ⟨rfl,hb3⟩
  have HB3:=Lib.hid (HB2.out.trans (hb3.mono HB2.out.size))
  have HK3:=Lib.hid (HK2.out.below hb3)
  obtain ⟨rb,hrb⟩:∃ rb,rightS S=rb:=⟨_,rfl⟩
  have hrt:=HRT.out w3 HB3.out
  rw [hrb] at hrt
  have HRT2:=Lib.hid hrt
  have HRB:=Lib.hid hrb
  obtain ⟨x0,x1,x2,x3,x4,x5⟩:=sch_cells HK3.out
  clear hrt hrb HRT hb3 HAW
  go_wp2_with fail
  clear x0 x1 x2 x3 x4 x5
  refine HRT2.out.mono ?_
  rintro e w4 ⟨rfl,hb4⟩
  clear HRT2
  have HB4:=Lib.hid (HB3.out.trans (hb4.mono HB3.out.size))
  have hk4:=HK3.out.below hb4
  have HK4:=Lib.hid hk4
  obtain ⟨x0,x1,x2,x3,x4,x5⟩:=sch_cells hk4
  clear hb4 hk4
  cases rb with
  | false =>
   obtain ⟨g1,g2,_,_,g5⟩:=greatS_no HFI.out.sch
   have hnw:Calls Tryz.prog 34 #[S.agg] w4 fun e w'=>e=.returned (.tuple #[.pointer none,.int .i64 1])∧Below w4.heap.size w4 w':=by
    refine (tabnew_any w4 (HM.out.below HB4.out) _ S (HSC.out.below HB4.out) zTbe zTbe (fun x hx=>by have:=g5 x hx;omega)).mono ?_
    rintro e w' (⟨_,h1,h2⟩|⟨h1,_⟩)
    ·exact ⟨h1,h2⟩
    ·rw [HRB.out] at h1;cases h1
   rw [HSA.out] at hnw
   have HNW:=Lib.hid hnw
   clear hnw g1 g2 g5
   go_wp2_with fail
   clear x0 x1 x2 x3 x4 x5
   refine HNW.out.mono ?_
   clear HNW
   rintro e w5 ⟨rfl,hb5⟩
   go_wp2
   go_ret
   exact ⟨rfl,HB4.out.trans (hb5.mono HB4.out.size)⟩
  | true =>
   have HPL4:=Lib.hid (HPL.out w4 HB4.out HRB.out HFI.out)
   clear HPL
   go_wp2_with fail
   clear x0 x1 x2 x3 x4 x5
   refine HPL4.out.mono ?_
   clear HPL4
   rintro e w5 ⟨g,lv,rws,rfl,hpr,hrm,hfe,hb5⟩
   obtain ⟨pl,cl,hlv,_,_⟩:=hpr.md.ra.1.form
   obtain ⟨nl,hnl⟩:=zo6F
   rw [hnl] at hlv
   subst hlv
   rw [HMV.out]
   obtain ⟨w6,hw6⟩:∃ w6,w5.alloc (.cells #[.string S.name,.slice pc nc cc,.slice pi ni ci,.int .i64 S.limit,.int .i64 S.parts,.int .i64 S.by_,.slice pl nl cl] 34)=w6:=⟨_,rfl⟩
   have hb56:Below w5.heap.size w5 w6:=hw6▸(Below.refl _ _).alloc (Nat.le_refl _) _
   have hk6:Blk w6 w5.heap.size 34 [.string S.name,.slice pc nc cc,.slice pi ni ci,.int .i64 S.limit,.int .i64 S.parts,.int .i64 S.by_,.slice pl nl cl]:=hw6▸Blk.new w5 _ _
   have hpr6:=hpr.below hb56
   have hb06:Below w.heap.size w w6:=HB4.out.trans ((hb5.trans (hb56.mono hb5.size)).mono HB4.out.size)
   have HB6:=Lib.hid hb06
   have HKM:=Lib.hid hk6
   have HKS:=Lib.hid ((HK4.out.below hb5).below hb56)
   have hlen:=hpr6.len.2
   have hrl:∀ r∈rws,(∀ a∈r.l,fit64 a.n)∧r.l.length≤100:=fun r hr=>by
    have h1:=hpr6.md.ok r hr
    have h2:=h1.len
    have h3:=(rightS_by HRB.out)
    exact ⟨h1.n64,zTbe⟩
   have HS6:Hid (SchAt w6 (fun _=>True) S):=Lib.hid (HSC.out.below hb06)
   have HSA0:Hid (S.agg=.agg #[.string S.name,.slice pc nc cc,.slice pi ni ci,.int .i64 S.limit,.int .i64 S.parts,.int .i64 S.by_]):=HSA
   have HTS:Hid (∀ W,Below w6.heap.size w6 W→Calls Tryz.prog 42 #[ptrV g.tb] W fun e w'=>∃ c:SchV,e=.returned (SchV.agg c)∧(∃ p1 n1 c1,c.colsV=.slice p1 n1 c1)∧(∃ p1 n1 c1,c.idxV=.slice p1 n1 c1)∧(∀ W2,Below w'.heap.size w' W2→Calls Tryz.prog 41 #[c.agg,S.agg] W2 fun e w''=>e=.returned (.bool true)∧Below W2.heap.size W2 w'')∧Below W.heap.size W w'):=Lib.hid fun W hb=>by
    refine (tschema_any W _ g (hpr6.tab.ok.below hb) (hpr6.tab.sep.below hb)).mono ?_
    rintro e w' ⟨c,rfl,hal,hown,hb'⟩
    have hc:SchAt w' (fun _=>True) c:=hown.at hal ((hpr6.tab.ok.below hb).st.sch.below hb') (fun _ _ _=>trivial)
    refine ⟨c,rfl,?_,?_,fun W2 hb2=>?_,hb'⟩
    ·obtain ⟨p,q,h,_⟩:=hc.cols.form;exact ⟨p,_,q,h⟩
    ·obtain ⟨p,q,h,_⟩:=hc.idx.1.form;exact ⟨p,_,q,h⟩
    ·have h1:=refsameS_any W2 _ _ c S (hc.below hb2) (HS6.out.below (hb.trans ((hb'.trans (hb2.mono hb'.size)).mono hb.size)))
     rw [sameS_alike (hal.trans hpr6.like)] at h1
     exact h1
   have HRW:Hid (∀ W,Below w6.heap.size w6 W→Calls Tryz.prog 22 #[ptrV g.tb,.slice none 0 0] W fun e w'=>∃ p n c,e=.returned (.slice p n c)∧(∀ W2,Below w'.heap.size w' W2→Calls Tryz.prog 24 #[.slice p n c,.slice pl nl cl] W2 fun e w''=>e=.returned (.bool true)∧Below W2.heap.size W2 w'')∧Below W.heap.size W w'):=Lib.hid fun W hb=>by
    refine (trows_any W _ g (hpr6.tab.ok.below hb) (hpr6.tab.sep.below hb) (fun _=>True) (.slice none 0 0) [] (Sl.zero W _ 1)).mono ?_
    rintro e w' ⟨v2,rws2,rfl,hsq,hsm⟩
    rw [inP_no] at hsm
    obtain ⟨p,q,h,_,_⟩:=own_formT hsq.1
    subst h
    refine ⟨p,_,q,rfl,fun W2 hb2=>?_,hsq.2.2.1⟩
    rw [←hnl]
    have hra:RowsAt W2 (fun k=>k∉feet g.res) (.slice pl rws.length cl) rws:=by
     have:=hpr6.md.ra.below (hb.trans ((hsq.2.2.1.trans (hb2.mono hsq.2.2.1.size)).mono hb.size))
     rw [←hnl] at this
     exact this
    exact same_rows W2 _ _ _ _ rws2 rws (hsq.at.below hb2) hra (hsm.trans hpr6.eq.symm)
   have HBY:Hid (∀ W,Below w6.heap.size w6 W→Calls Tryz.prog 47 #[ptrV g.tb] W fun e w'=>e=.returned (.string (bs (rowsB rws)))∧Below W.heap.size W w'):=Lib.hid fun W hb=>by
    have h1:=tbytes_any W _ g (hpr6.tab.ok.below hb) (hpr6.tab.sep.below hb)
    rw [←hpr6.eq,←rowsB_2] at h1
    exact h1
   have HDR:Hid (∀ W,Below w6.heap.size w6 W→Calls Tryz.prog 48 #[.slice pl nl cl] W fun e w'=>e=.returned (.string (bs (rowsB rws)))∧Below W.heap.size W w'):=Lib.hid fun W hb =>
    refrows W _ _ rws (hpr6.md.ra.below hb) hrl hlen
   have HKY:Hid (∀ W,Below w6.heap.size w6 W→∀ r∈rws,Calls Tryz.prog 26 #[ptrV g.tb,r.v] W fun e w'=>e=.returned (.tuple #[.string (kb (kfS g.S 0 r.l)),.int .i64 0])∧Below W.heap.size W w'):=Lib.hid fun W hb r hr=>by
    have hg:r.l∈g.rows:=by rw [←hpr6.eq];exact List.mem_map_of_mem hr
    have hok:=hpr6.tab.rowsOK r.l hg
    exact tkey_any W _ g (hpr6.tab.ok.below hb) (hpr6.tab.sep.below hb) _ r.v r.l ((hpr6.md.ra.2 r hr).below hb) hok.n64 (by have:=(sch_small hpr6.tab.ok.st.right).1;have:=hok.len;omega) ((chk_zero hpr6.tab.ok.st.right r.l).1 hok.fit)
   have HGT:Hid (∀ W,Below w6.heap.size w6 W→∀ r∈rws,Calls Tryz.prog 27 #[ptrV g.tb,.string (kb (kfS g.S 0 r.l))] W fun e w'=>∃ p n c,e=.returned (.tuple #[.slice p n c,.bool true])∧(∀ W2,Below w'.heap.size w' W2→Calls Tryz.prog 19 #[.slice p n c,r.v] W2 fun e w''=>e=.returned (.bool true)∧Below W2.heap.size W2 w'')∧Below W.heap.size W w'):=Lib.hid fun W hb r hr=>by
    have hg:r.l∈g.rows:=by rw [←hpr6.eq];exact List.mem_map_of_mem hr
    refine (tget_any W _ g (hpr6.tab.ok.below hb) (hpr6.tab.sep.below hb) (kfS g.S 0 r.l)).mono ?_
    rintro e w' ⟨v',rfl,ho,hb',_⟩
    have h1:=rowOf_key hpr6.tab.ok hg
    have h2:(lookL g (kfS g.S 0 r.l)).isSome=true:=by
     obtain ⟨p,hp,hpr⟩:=List.mem_map.1 hg
     unfold lookL
     rw [List.find?_isSome]
     exact ⟨p,hp,by rw [hpr];exact beq_self_eq_true _⟩
    rw [h1] at ho
    rw [h2]
    obtain ⟨p,q,h,_,_⟩:=own_formT ho
    subst h
    refine ⟨p,_,q,rfl,fun W2 hb2=>?_,hb'⟩
    exact same_row W2 _ _ _ r.v r.l ((ho.sl (B:=fun _=>True) (fun _ _=>trivial)).below hb2) ((hpr6.md.ra.2 r hr).below (hb.trans ((hb'.trans (hb2.mono hb'.size)).mono hb.size)))
   obtain ⟨fi,hfi⟩:∃ fi,findM (kfS S) ask.toList (rws.map RowV.l) 0=fi:=⟨_,rfl⟩
   have HGA:Hid (∀ W,Below w6.heap.size w6 W→Calls Tryz.prog 27 #[ptrV g.tb,.string ask] W fun e w'=>∃ p n c,e=.returned (.tuple #[.slice p n c,.bool (decide (0≤fi))])∧(decide (0≤fi)=false→n=0)∧Below W.heap.size W w'):=Lib.hid fun W hb=>by
    have h1:=tget_any W _ g (hpr6.tab.ok.below hb) (hpr6.tab.sep.below hb) ask.toList
    rw [kb_self] at h1
    refine h1.mono ?_
    rintro e w' ⟨v',rfl,ho,hb',_⟩
    have h2:=look_find_iff (g:=g) ask.toList
    rw [hpr6.like.kf,←hpr6.eq,hfi] at h2
    obtain ⟨p,q,h,_,_⟩:=own_formT ho
    rw [h2]
    refine ⟨p,_,q,by rw [h],fun h3=>?_,hb'⟩
    rw [rowOf_none (h2.trans h3)];rfl
   have HFD:Hid (∀ W,Below w6.heap.size w6 W→Calls Tryz.prog 49 #[.agg #[.string S.name,.slice pc nc cc,.slice pi ni ci,.int .i64 S.limit,.int .i64 S.parts,.int .i64 S.by_,.slice pl nl cl],.string ask] W fun e w'=>e=.returned (.int .i64 fi)∧Below W.heap.size W w'):=Lib.hid fun W hb=>by
    have h1:=mfind_any W _ S _ rws (hpr6.md.below hb) ask.toList
    rw [kb_self,hfi,HMV.out] at h1
    exact h1
   have HRA:=Lib.hid hpr6.md.ra
   have hrf:∀ r∈rws,∃ p n c,r.v=.slice p n c:=fun r hr=>by
    obtain ⟨p,c,h1,_⟩:=(hpr6.md.ra.2 r hr).form
    exact ⟨p,_,c,h1⟩
   have HRF:=Lib.hid hrf
   have HNL:=Lib.hid hnl
   have hnl1:nl≤1000:=zTbe
   obtain ⟨x0,x1,x2,x3,x4,x5⟩:=sch_cells HKS.out
   obtain ⟨y0,y1,y2,y3,y4,y5,y6⟩:=md_cells HKM.out
   have hlt6:=HKM.out.lt
   clear hb5 hb56 hk6 hpr hrm hfe hb06 hpr6 hlen hrl hnl hfi hrf HS6
   generalize bs (rowsB rws)=out at *
   have h6t:=HTS.out _ (Below.refl w6.heap.size w6).drew
   have HT6:=Lib.hid h6t
   clear h6t
   go_upto_region 7 with fail
   clear hw6
   have hBn:∀ q,(q=w.heap.size∨q=w5.heap.size)→q < w6.heap.size:=fun q hq=>by
    rcases hq with rfl|rfl
    ·exact Nat.lt_of_lt_of_le HKS.out.lt (Nat.le_refl _)
    ·exact hlt6
   have HBN:=Lib.hid hBn
   clear hBn
   refine wp_region_lit_plan [] [(0,0),(1,0),(2,0),(3,0),(5,2),(4,3),(6,4),(7,0),(8,0),(9,0),(10,0),(12,0),(13,2),(11,3),(14,4),(15,0),(16,0),(17,0),(18,0),(20,0),(21,2),(19,3),(22,4),(23,0),(24,0)] ((fun q=>q=w.heap.size∨q=w5.heap.size)) zyVB zyVB (fun c a d v w h=>zx0I) ?_
   go_wp2_with (first|(refine stp ?_))
   clear x0 x1 x2 x3 x4 x5 y0 y1 y2 y3 y4 y5 y6
   refine HT6.out.mono ?_
   clear HT6
   rintro e w7 ⟨c,rfl,⟨p1,n1,c1,hcf⟩,⟨p2,n2,c2,hif⟩,hsm,hb7⟩
   have hag7:Agree (fun q=>q=w.heap.size∨q=w5.heap.size) w6.drew w7:=agree_bel hb7 HBN.out
   have hb67:Below w6.heap.size w6 w7:=(Below.refl _ _).drew.trans hb7
   have h7s:=hsm w7 (Below.refl _ _)
   obtain ⟨cn,ccv,ccl,civ,cil,clm,cpt,cby⟩:=c
   simp only [SchV.agg] at hcf hif h7s ⊢
   subst hcf hif
   have e7:=HSA0.out
   simp only [SchV.agg] at e7
   rw [e7] at h7s
   have HS7:=Lib.hid h7s
   have HB67:=Lib.hid hb67
   clear hsm hb7 h7s hb67 e7
   go_wp2_with (first|(refine stp ?_))
   clear hag7
   refine HS7.out.mono ?_
   clear HS7
   rintro e w8 ⟨rfl,hb8⟩
   have hb68:=HB67.out.trans (hb8.mono HB67.out.size)
   have HB68:=Lib.hid hb68
   have HR8:=Lib.hid (HRW.out w8 hb68)
   obtain ⟨y0,y1,y2,y3,y4,y5,y6⟩:=md_cells (HKM.out.below hb68)
   clear hb8 hb68 HB67
   go_wp2_with (first|(refine stp ?_))
   clear y0 y1 y2 y3 y4 y5 y6
   refine HR8.out.mono ?_
   clear HR8
   rintro e w9 ⟨p9,n9,c9,rfl,hsm,hb9⟩
   have hag9:Agree (fun q=>q=w.heap.size∨q=w5.heap.size) w8 w9:=agree_bel hb9 (fun q hq=>Nat.lt_of_lt_of_le (HBN.out q hq) HB68.out.size)
   have HB69:=Lib.hid (HB68.out.trans (hb9.mono HB68.out.size))
   have HS9:=Lib.hid (hsm w9 (Below.refl _ _))
   clear hsm hb9 HB68
   go_wp2_with (first|(refine stp ?_))
   clear hag9
   refine HS9.out.mono ?_
   clear HS9
   rintro e w10 ⟨rfl,hb10⟩
   have hb610:=HB69.out.trans (hb10.mono HB69.out.size)
   have HB610:=Lib.hid hb610
   have HY10:=Lib.hid (HBY.out w10 hb610)
   obtain ⟨y0,y1,y2,y3,y4,y5,y6⟩:=md_cells (HKM.out.below hb610)
   clear hb10 hb610 HB69
   go_wp2_with (first|(refine stp ?_))
   clear y0 y1 y2 y3 y4 y5 y6
   refine HY10.out.mono ?_
   clear HY10
   rintro e w11 ⟨rfl,hb11⟩
   have hag11:Agree (fun q=>q=w.heap.size∨q=w5.heap.size) w10 w11:=agree_bel hb11 (fun q hq=>Nat.lt_of_lt_of_le (HBN.out q hq) HB610.out.size)
   have hb611:=HB610.out.trans (hb11.mono HB610.out.size)
   have HB611:=Lib.hid hb611
   have HD11:=Lib.hid (HDR.out w11 hb611)
   clear hb11 hb611 HB610
   go_wp2_with (first|(refine stp ?_))
   clear hag11
   refine HD11.out.mono ?_
   clear HD11
   rintro e w12 ⟨rfl,hb12⟩
   have HB612:=Lib.hid (HB611.out.trans (hb12.mono HB611.out.size))
   clear hb12 HB611
   go_upto_region 9 with (first|(refine stp ?_))
   go_wp2
   go_loopw [12] (fun i wr=>∃ k:Nat,i=.int .i64 k∧k≤nl∧Below w6.heap.size w6 wr) (fun i _=>nl - (intOf i).toNat)
   case atStart=>exact ⟨0,rfl,Nat.zero_le _,HB612.out⟩
   case round =>
    obtain ⟨k,rfl,hk,hbw⟩:=hrel
    obtain ⟨wo,rfl⟩:=zDit
    have HBW:=Lib.hid hbw
    obtain ⟨y0,y1,y2,y3,y4,y5,y6⟩:=md_cells (HKM.out.below hbw)
    by_cases hkn:k < nl
    ·skip
     have hkr:k < rws.length:=by rw [HNL.out];exact hkn
     obtain ⟨gr,or_,cpr,hvr,ek⟩:=(HRA.out.below hbw).at hkr
     rw [HNL.out] at hvr
     cases hvr
     have hgr:=World.block_lt_of_cell? _ _ ek
     have hmk:rws[k]∈rws:=List.getElem_mem hkr
     obtain ⟨px,nx,cx,hxv⟩:=HRF.out _ hmk
     have hKY:=HKY.out wo hbw rws[k] hmk
     have HGJ:=Lib.hid (fun W hb=>HGT.out W hb rws[k] hmk)
     rw [hxv] at ek hKY HGJ
     have HKJ:=Lib.hid hKY
     have HEK:=Lib.hid ek
     generalize kb (kfS g.S 0 rws[k].l)=k1 at *
     clear hbw hmk hKY hxv hkr
     go_wp2_with fail
     clear ek y0 y1 y2 y3 y4 y5 y6
     refine HKJ.out.mono ?_
     clear HKJ
     rintro e w13 ⟨rfl,hb13⟩
     have hb613:=HBW.out.trans (hb13.mono HBW.out.size)
     have HB13:=Lib.hid hb13
     have HB613:=Lib.hid hb613
     have HG13:=Lib.hid (HGJ.out w13 hb613)
     clear hb13 hb613 HGJ
     go_wp2_with fail
     refine HG13.out.mono ?_
     clear HG13
     rintro e w14 ⟨po,no,co,rfl,hsm,hb14⟩
     have hb1314:=HB13.out.trans (hb14.mono HB13.out.size)
     have ek:=(hb1314.cell (p:=⟨gr,or_+k,none⟩) hgr).trans HEK.out
     have hb614:=HB613.out.trans (hb14.mono HB613.out.size)
     have HB614:=Lib.hid hb614
     have HSM:=Lib.hid (hsm w14 (Below.refl _ _))
     obtain ⟨y0,y1,y2,y3,y4,y5,y6⟩:=md_cells (HKM.out.below hb614)
     clear hsm hb14 hb1314 hb614
     go_wp2_with fail
     refine HSM.out.mono ?_
     rintro e w15 ⟨rfl,hb15⟩
     have HB615:=Lib.hid (HB614.out.trans (hb15.mono HB614.out.size))
     clear hb15
     go_wp2
     go_roundw
     case rel=>exact ⟨k+1,z3KH,zTbe,HB615.out⟩
     case measure=>(simp [intOf])<;>omega
    ·skip
     have hke:k=nl:=zTbe
     have HG:=Lib.hid (HGA.out wo hbw)
     clear hbw
     go_wp2_with fail
     clear y0 y1 y2 y3 y4 y5 y6
     refine HG.out.mono ?_
     clear HG
     rintro e w13 ⟨po,no,co,rfl,hno,hb13⟩
     have hb613:=HBW.out.trans (hb13.mono HBW.out.size)
     have HB613:=Lib.hid hb613
     have HF:=Lib.hid (HFD.out w13 hb613)
     obtain ⟨y0,y1,y2,y3,y4,y5,y6⟩:=md_cells (HKM.out.below hb613)
     have hlm:w5.heap.size < w13.heap.size:=Nat.lt_of_lt_of_le hlt6 hb613.size
     clear hb13 hb613
     obtain ⟨b,hb⟩:∃ b,decide (0≤fi)=b:=⟨_,rfl⟩
     rw [hb] at hno ⊢
     have hfb:(decide (fi ≥ 0))=b:=hb
     have hbb:(b == b)=true:=beq_self_eq_true _
     have HNO:=Lib.hid hno
     clear hno
     cases b with
     | true =>
      exact zHZZ
     | false =>
      obtain rfl:no=0:=HNO.out rfl
      exact zHZZ
theorem tplays_law (v0:Value) (S:SchV) (v:Value) (l:List ActT) (ask:ByteArray) (h1:ask.size≤maxLen) (w:World) (hm:Mx w) (h:v0=S.agg∧SchAt w (fun _=>True) S∧S.read) (ha:ActsAt w (fun _=>True) v l) :
 Calls Tryz.prog 9 #[v0,v,.string ask] w fun e w'=>e=.returned (.bool true)∧Below w.heap.size w w':=by
 obtain ⟨rfl,hs,_⟩:=h
 exact tplays_any w hm S hs v l ha ask h1
end Go.Proofs.YteggkjdlajgenaaGreatDoor
