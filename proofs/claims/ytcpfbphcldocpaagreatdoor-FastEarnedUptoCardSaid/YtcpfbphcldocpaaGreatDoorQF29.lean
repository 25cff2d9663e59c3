/- Parts of the proof, merged by program out of 1 texts (FtL): the first: The fast way's public functions. Conditions: those of each theorem, as typed. -/
import Derived.Test.YtcpfbphcldocpaaGreatDoorQF17
import Derived.Test.YtcpfbphcldocpaaGreatDoorQF28
set_option linter.unusedVariables false
set_option linter.unusedSimpArgs false
set_option linter.unusedSectionVars false
set_option maxRecDepth 100000
set_option maxHeartbeats 4000000
namespace Go.Proofs.YtcpfbphcldocpaaGreatDoor
open Go.Maps Go.RowKit
section
attribute [local irreducible] wpL
structure HisT (w:World) (ov vv:Value) (os:List Ob) (r:Option Au):Prop where
 ho:Sl w w.heap.size 2 ov os.length (os.flatMap Ob.cells)
 hvv:∃a n c,vv=.slice a n c
 hT:∀W,Below w.heap.size w W→Calls Tryz.prog 13 #[.agg #[ov,vv]] W (TabRet W r)
 hD:∀A,r=some A→DvOk os A
 hev:∃t v,w.cell? ⟨6,0,none⟩=some (.iface t v)
 hel:6 < w.heap.size
section
variable {w W:World} {ov vv:Value} {os:List Ob} {r:Option Au} {A:Au} {lev:Int}
theorem FwAt.low {lo lo' hi pW bB:Nat} {lv:Value} {ms:List Mvr} {T:List Bool} (h:FwAt w lo hi pW bB lev ov vv ms lv A T) (hl:lo'≤lo):FwAt w lo' hi pW bB lev ov vv ms lv A T:=by
 refine⟨h.row,⟨⟨Nat.le_trans hl h.pB.1.1,h.pB.1.2⟩,Nat.le_trans hl h.pB.2.1,h.pB.2.2⟩,OwnF.base h.lst hl,h.lstb,h.len,h.tl,fun k m s hm hs=>?_,h.inj,h.nb,h.by_⟩
 have q:=h.mv k m s hm hs
 exact⟨q.row,OwnF.base q.dds hl,q.dvb,q.rd,q.wr,⟨⟨Nat.le_trans hl q.b.1.1,q.b.1.2⟩,⟨Nat.le_trans hl q.b.2.1.1,q.b.2.1.2⟩,Nat.le_trans hl q.b.2.2.1,q.b.2.2.2⟩⟩
theorem DvOk.mv (h:DvOk os A):MvDom A:=fun s hs=>
 ⟨foldU_dom (g:=Dd.got) (X:=readsF [] s.deeds) (M:=[]) (fun _ h=>by cases h) fun x hx=>h.dobj hs (readsF_mem hx).1,
  foldU_dom (g:=Dd.val) (X:=writesF s.deeds) (M:=[]) (fun _ h=>by cases h) fun x hx=>h.dobj hs (writesF_mem hx)⟩
theorem HisT.below (h:HisT w ov vv os r) (hb:Below w.heap.size w W):HisT W ov vv os r:=by
 obtain⟨t,v,hev⟩:=h.hev
 exact⟨(h.ho.below hb).more hb.size,h.hvv,fun X hX=>h.hT X (hb.trans (hX.mono hb.size)),h.hD,⟨t,v,cell_below hb h.hel hev⟩,Nat.lt_of_lt_of_le h.hel hb.size⟩
theorem f_prem (h:HisT w ov vv os r):Calls Tryz.prog 43 #[.agg #[ov,vv]] w (TabRet w (premR os r)):=by
 cases r with
 |none=>exact f_premise_no ov vv os w h.ho h.hvv h.hT
 |some A=>
  obtain⟨t,v,hev⟩:=h.hev
  exact f_premise_some ov vv os A w h.ho h.hvv h.hT (h.hD A rfl) hev h.hel
theorem premR_some (h:premR os r=some A):r=some A∧premA os [] A=true:=by
 cases r with
 |none=>cases h
 |some B=>
  unfold premR at h
  simp only at h
  split at h
  ·rename_i hp
   obtain rfl:=Option.some.inj h
   exact⟨rfl,hp⟩
  ·cases h
theorem f_lookS (h:HisT w ov vv os r) (e:premR os r=some A):Calls Tryz.prog 31 #[.agg #[ov,vv],.int .i64 lev] w (LookRet w lev ov vv A):=by
 obtain⟨ao,co,hov,-⟩:=h.ho.ex
 refine f_look ov vv os A lev w ⟨_,_,_,hov⟩ h.hvv (fun W hW=>?_) (h.hD A (premR_some e).1)
 rw[←e]
 exact f_prem (h.below hW)
theorem f_Premise (h:HisT w ov vv os r):Calls Tryz.prog 16 #[.agg #[ov,vv]] w fun e w'=>(match premR os r with
  |some _=>e=.returned .nilIface
  |none=>∃t x,e=.returned (.iface t x))∧Below w.heap.size w w':=by
 obtain⟨ao,co,hov,-⟩:=h.ho.ex
 obtain⟨av,nv,cv,hvv⟩:=h.hvv
 have b0:Below w.heap.size w (w.alloc (.cells #[ov,vv] 25)):=(Below.refl _ w).alloc (Nat.le_refl _) _
 have PC:=hid (f_prem (h.below b0))
 have B0:=hid b0
 subst hov hvv
 obtain⟨pr,hpr⟩:∃pr,premR os r=pr:=⟨_,rfl⟩
 rw[hpr] at PC ⊢
 clear h b0 hpr
 cases pr with
 |none=>
  go_enter Tryz.func16,Tryz.ntmps16
  go_wp2_with fail
  refine PC.out.mono ?_
  rintro e W1 ⟨⟨t,x,rfl⟩,b1⟩
  have B1:=hid (B0.out.trans (b1.mono B0.out.size))
  clear b1
  go_wp2_with fail
  exact bodyPost_ret (v:=.iface t x) (by simp[results,Tryz.results16,go_sem]) rfl ⟨⟨t,x,rfl⟩,B1.out⟩
 |some A=>
  go_enter Tryz.func16,Tryz.ntmps16
  go_wp2_with fail
  refine PC.out.mono ?_
  rintro e W1 ⟨tv,rfl,ht,b1⟩
  have B1:=hid (B0.out.trans (b1.mono B0.out.size))
  clear b1 ht
  go_wp2_with fail
  exact bodyPost_ret (v:=.nilIface) (by simp[results,Tryz.results16,go_sem]) rfl ⟨rfl,B1.out⟩
theorem f_atS (h:HisT w ov vv os r) (e:premR os r=some A) (hl:lev=1∨lev=2∨lev=3):Calls Tryz.prog 35 #[.agg #[ov,vv],.int .i64 lev] w (LookRet w lev ov vv A):=by
 obtain⟨ao,co,hov,-⟩:=h.ho.ex
 obtain⟨av,nv,cv,hvv⟩:=h.hvv
 have b0:Below w.heap.size w (w.alloc (.cells #[ov,vv] 25)):=(Below.refl _ w).alloc (Nat.le_refl _) _
 have PC:=hid (f_lookS (lev:=lev) (h.below b0) e)
 have B0:=hid b0
 subst hov hvv
 have hl0:(lev < 1)=False:=by simp;omega
 have hl1:(3 < lev)=False:=by simp;omega
 clear h b0 e hl
 go_enter Tryz.func35,Tryz.ntmps35
 go_wp2_with fail
 refine PC.out.mono ?_
 rintro e W1 ⟨pW,bB,ms,lv,rfl,hF,b1⟩
 have B1:=hid (B0.out.trans (b1.mono B0.out.size))
 have HF:=hid hF
 have hz:=B0.out.size
 clear b1 hF
 go_wp2_with fail
 exact bodyPost_ret (v:=.tuple #[.pointer (some ⟨pW,0,none⟩),.nilIface]) (by simp[results,Tryz.results35,go_sem]) rfl ⟨pW,bB,ms,lv,rfl,HF.out.low hz,B1.out⟩
theorem f_GraphS (h:HisT w ov vv os r) (e:premR os r=some A) (hl:lev=1∨lev=2∨lev=3) (hal:A.length≤200):Calls Tryz.prog 11 #[.agg #[ov,vv],.int .i64 lev] w fun e w'=>
  ∃p,e=.returned (.tuple #[.pointer (some ⟨p,0,none⟩),.nilIface])∧GrAt w' w.heap.size w'.heap.size p (graphF lev A (takenF lev A)).1 (graphF lev A (takenF lev A)).2∧Below w.heap.size w w':=by
 obtain⟨ao,co,hov,-⟩:=h.ho.ex
 obtain⟨av,nv,cv,hvv⟩:=h.hvv
 have b0:Below w.heap.size w (w.alloc (.cells #[ov,vv] 25)):=(Below.refl _ w).alloc (Nat.le_refl _) _
 have PC:=hid (f_atS (lev:=lev) (h.below b0) e hl)
 have B0:=hid b0
 have HD:=hid (h.hD A (premR_some e).1)
 subst hov hvv
 clear h b0 e hl
 go_enter Tryz.func11,Tryz.ntmps11
 go_wp2_with fail
 refine PC.out.mono ?_
 rintro e W1 ⟨pW,bB,ms,lv,rfl,hF,b1⟩
 have B1:=hid (B0.out.trans (b1.mono B0.out.size))
 have GC:=hid (f_graph hF ⟨_,_,_,rfl⟩ ⟨_,_,_,rfl⟩ HD.out.mv HD.out.id hal (Nat.le_refl _))
 clear b1 hF
 go_wp2_with fail
 refine GC.out.mono ?_
 rintro e W2 ⟨p,rfl,hG,b2⟩
 have hz:=B1.out.size
 have HG:=hid (hG.lower hz)
 have B2:=hid (B1.out.trans (b2.mono hz))
 clear b2 hG
 go_wp2_with fail
 exact bodyPost_ret (v:=.tuple #[.pointer (some ⟨p,0,none⟩),.nilIface]) (by simp[results,Tryz.results11,go_sem]) rfl ⟨p,rfl,HG.out,B2.out⟩
def JudgeRet (w:World) (lev:Int) (os:List Ob) (A:Au) (e:Ending) (w':World):Prop:=∃a vs vc,e=.returned (.tuple #[ansV a vs vc,.nilIface])∧JudgeIs lev (os.map (·.init)) A a∧AnsAt w' w.heap.size vs vc a∧Below w.heap.size w w'
theorem f_JudgeS (h:HisT w ov vv os r) (e:premR os r=some A) (hl:lev=1∨lev=2∨lev=3) (hal:A.length≤200) (hnd:(A.map (·.id)).Nodup):Calls Tryz.prog 9 #[.agg #[ov,vv],.int .i64 lev] w (JudgeRet w lev os A):=by
 obtain⟨ao,co,hov,-⟩:=h.ho.ex
 obtain⟨av,nv,cv,hvv⟩:=h.hvv
 have HH:=hid h
 have HE:=hid e
 have HD:=hid (h.hD A (premR_some e).1)
 have HND:=hid hnd
 have HLV:=hid hl
 subst hov hvv
 have hl0:(lev < 1)=False:=by simp;omega
 have hl1:(4 < lev)=False:=by simp;omega
 have hl4:(lev !=4)=true:=by simp;omega
 clear h e hl hnd
 go_enter Tryz.func9,Tryz.ntmps9
 go_wp2_with fail
 have hb0:Below w.heap.size w (((w.alloc (.cells #[.slice ao os.length co,.slice av nv cv] 25)).alloc (.cells #[.int .i64 0,.slice none 0 0,.slice none 0 0,.int .i64 0,.int .i64 0,.int .i64 0,.slice none 0 0] 32)).alloc (.cells #[.nilIface] 34)):=(((Below.refl _ w).alloc (Nat.le_refl _) _).alloc (by simp) _).alloc (by simp;omega) _
 have B0:=hid hb0
 have H0:=hid (HH.out.below hb0)
 have R0:=hid (row_old (row_new (w.alloc (.cells #[.slice ao os.length co,.slice av nv cv] 25)) (.cells #[.int .i64 0,.slice none 0 0,.slice none 0 0,.int .i64 0,.int .i64 0,.int .i64 0,.slice none 0 0] 32)) (o:=.cells #[.nilIface] 34))
 have E0:=hid (row_new ((w.alloc (.cells #[.slice ao os.length co,.slice av nv cv] 25)).alloc (.cells #[.int .i64 0,.slice none 0 0,.slice none 0 0,.int .i64 0,.int .i64 0,.int .i64 0,.slice none 0 0] 32)) (.cells #[.nilIface] 34))
 have X0:=hid (row_old (row_old (row_new w (.cells #[.slice ao os.length co,.slice av nv cv] 25)) (o:=.cells #[.int .i64 0,.slice none 0 0,.slice none 0 0,.int .i64 0,.int .i64 0,.int .i64 0,.slice none 0 0] 32)) (o:=.cells #[.nilIface] 34))
 have hz0:((((w.alloc (.cells #[.slice ao os.length co,.slice av nv cv] 25)).alloc (.cells #[.int .i64 0,.slice none 0 0,.slice none 0 0,.int .i64 0,.int .i64 0,.int .i64 0,.slice none 0 0] 32)).alloc (.cells #[.nilIface] 34))).heap.size=w.heap.size+3:=by simp
 generalize (((w.alloc (.cells #[.slice ao os.length co,.slice av nv cv] 25)).alloc (.cells #[.int .i64 0,.slice none 0 0,.slice none 0 0,.int .i64 0,.int .i64 0,.int .i64 0,.slice none 0 0] 32)).alloc (.cells #[.nilIface] 34))=W0 at *
 have R0:=hid (show W0.heap[w.heap.size+1]?=some (.cells #[.int .i64 0,.slice none 0 0,.slice none 0 0,.int .i64 0,.int .i64 0,.int .i64 0,.slice none 0 0] 32 (0,0)) by have:=R0.out;simpa using this)
 have E0:=hid (show W0.heap[w.heap.size+1+1]?=some (.cells #[.nilIface] 34 (0,0)) by have:=E0.out;simpa using this)
 have X0:=hid (show W0.heap[w.heap.size]?=some (.cells #[.slice ao os.length co,.slice av nv cv] 25 (0,0)) by have:=X0.out;simpa using this)
 have HZ0:=hid hz0
 clear hb0 hz0
 have PC:=hid (f_Premise H0.out)
 rw[HE.out] at PC
 refine PC.out.mono ?_
 rintro e W1 ⟨rfl,b1⟩
 have hs1:=b1.size
 have H1:=hid (H0.out.below b1)
 have B1:=hid (B0.out.trans (b1.mono B0.out.size))
 have R1:=hid (row_below R0.out b1 (row_lt R0.out))
 have E1:=hid (row_below E0.out b1 (row_lt E0.out))
 have X1:=hid (row_below X0.out b1 (row_lt X0.out))
 have x0:=row_cell X1.out 0
 have x1:=row_cell X1.out 1
 simp at x0 x1
 have xl:=row_lt X1.out
 have LC:=hid (f_lookS (lev:=lev) H1.out HE.out)
 have hz1:w.heap.size≤W1.heap.size:=B1.out.size
 clear b1
 go_wp2_with fail
 refine LC.out.mono ?_
 rintro e W2 ⟨pW,bB,ms,lv,rfl,hF,b2⟩
 have JC:=hid (f_judge hF (H1.out.below b2).ho ⟨_,_,_,rfl⟩ HD.out HD.out.mv hal HND.out HLV.out (Nat.le_refl _))
 have B2:=hid (B1.out.trans (b2.mono hz1))
 have R2:=hid (row_below R1.out b2 (row_lt R1.out))
 have E2:=hid (row_below E1.out b2 (row_lt E1.out))
 have hz2:w.heap.size≤W2.heap.size:=B2.out.size
 clear b2 hF x0 x1 xl
 go_wp2_with fail
 refine JC.out.mono ?_
 rintro e W4 ⟨a,vs,vc,rfl,hJ,hA,b4⟩
 have HJ:=hid hJ
 obtain⟨aS,cS,e1⟩:=OwnF.sli hA.1
 obtain⟨aC,cC,e2⟩:=OwnF.sli hA.2
 subst e1 e2
 have HA:=hid hA
 have B4:=hid (B2.out.trans (b4.mono hz2))
 have R4:=hid (row_below R2.out b4 (row_lt R2.out))
 have E4:=hid (row_below E2.out b4 (row_lt E2.out))
 have y0:=row_cell R4.out 0
 have y1:=row_cell R4.out 1
 have y2:=row_cell R4.out 2
 have y3:=row_cell R4.out 3
 have y4:=row_cell R4.out 4
 have y5:=row_cell R4.out 5
 have y6:=row_cell R4.out 6
 simp at y0 y1 y2 y3 y4 y5 y6
 have yf:=fun o=>row_free R4.out o
 have yl:=row_lt R4.out
 have z0:=row_cell E4.out 0
 simp at z0
 have zf:=fun o=>row_free E4.out o
 have zl:=row_lt E4.out
 clear hJ hA b4
 unfold ansV
 go_wp2_with fail
 have RF:=row_other (row_set (row_set (row_set (row_set (row_set (row_set (row_set (R4.out) 0 (.int .i64 a.kind)) 1 (.slice aS a.steps.length cS)) 2 (.slice none 0 0)) 3 (.int .i64 a.pre)) 4 (.int .i64 a.tx)) 5 (.int .i64 a.deed)) 6 (.slice aC a.cyc.length cC)) (show w.heap.size+1+1≠w.heap.size+1 by omega) (j:=0) (v:=.nilIface)
 have EF:=row_set (row_other (row_other (row_other (row_other (row_other (row_other (row_other (E4.out) (show w.heap.size+1≠w.heap.size+1+1 by omega) (j:=0) (v:=.int .i64 a.kind)) (show w.heap.size+1≠w.heap.size+1+1 by omega) (j:=1) (v:=.slice aS a.steps.length cS)) (show w.heap.size+1≠w.heap.size+1+1 by omega) (j:=2) (v:=.slice none 0 0)) (show w.heap.size+1≠w.heap.size+1+1 by omega) (j:=3) (v:=.int .i64 a.pre)) (show w.heap.size+1≠w.heap.size+1+1 by omega) (j:=4) (v:=.int .i64 a.tx)) (show w.heap.size+1≠w.heap.size+1+1 by omega) (j:=5) (v:=.int .i64 a.deed)) (show w.heap.size+1≠w.heap.size+1+1 by omega) (j:=6) (v:=.slice aC a.cyc.length cC)) 0 .nilIface
 have c0:=row_cell RF 0
 have c1:=row_cell RF 1
 have c2:=row_cell RF 2
 have c3:=row_cell RF 3
 have c4:=row_cell RF 4
 have c5:=row_cell RF 5
 have c6:=row_cell RF 6
 have d0:=row_cell EF 0
 simp at c0 c1 c2 c3 c4 c5 c6 d0
 have hB9:=hid (((((((((B4.out).setCell (p:=⟨w.heap.size+1,0,none⟩) (by show w.heap.size≤w.heap.size+1;omega) (.int .i64 a.kind)).setCell (p:=⟨w.heap.size+1,1,none⟩) (by show w.heap.size≤w.heap.size+1;omega) (.slice aS a.steps.length cS)).setCell (p:=⟨w.heap.size+1,2,none⟩) (by show w.heap.size≤w.heap.size+1;omega) (.slice none 0 0)).setCell (p:=⟨w.heap.size+1,3,none⟩) (by show w.heap.size≤w.heap.size+1;omega) (.int .i64 a.pre)).setCell (p:=⟨w.heap.size+1,4,none⟩) (by show w.heap.size≤w.heap.size+1;omega) (.int .i64 a.tx)).setCell (p:=⟨w.heap.size+1,5,none⟩) (by show w.heap.size≤w.heap.size+1;omega) (.int .i64 a.deed)).setCell (p:=⟨w.heap.size+1,6,none⟩) (by show w.heap.size≤w.heap.size+1;omega) (.slice aC a.cyc.length cC)).setCell (p:=⟨w.heap.size+1+1,0,none⟩) (by show w.heap.size≤w.heap.size+1+1;omega) .nilIface)
 have n11:=OwnF.neT HA.out.1 R4.out (by decide)
 have n12:=OwnF.neT HA.out.1 E4.out (by decide)
 have n21:=OwnF.neT HA.out.2 R4.out (by decide)
 have n22:=OwnF.neT HA.out.2 E4.out (by decide)
 have HS9:=hid (show OwnF stpC 87 2 ((((((((((((((((W4).setCell ⟨w.heap.size+1,0,none⟩ (.int .i64 a.kind))).setCell ⟨w.heap.size+1,1,none⟩ (.slice aS a.steps.length cS))).setCell ⟨w.heap.size+1,2,none⟩ (.slice none 0 0))).setCell ⟨w.heap.size+1,3,none⟩ (.int .i64 a.pre))).setCell ⟨w.heap.size+1,4,none⟩ (.int .i64 a.tx))).setCell ⟨w.heap.size+1,5,none⟩ (.int .i64 a.deed))).setCell ⟨w.heap.size+1,6,none⟩ (.slice aC a.cyc.length cC))).setCell ⟨w.heap.size+1+1,0,none⟩ .nilIface) w.heap.size (.slice aS a.steps.length cS) a.steps from OwnF.base (OwnF.other (OwnF.other (OwnF.other (OwnF.other (OwnF.other (OwnF.other (OwnF.other (OwnF.other (HA.out.1) n11 _) n11 _) n11 _) n11 _) n11 _) n11 _) n11 _) n12 _) hz2)
 have HC9:=hid (show OwnF intC 3 1 ((((((((((((((((W4).setCell ⟨w.heap.size+1,0,none⟩ (.int .i64 a.kind))).setCell ⟨w.heap.size+1,1,none⟩ (.slice aS a.steps.length cS))).setCell ⟨w.heap.size+1,2,none⟩ (.slice none 0 0))).setCell ⟨w.heap.size+1,3,none⟩ (.int .i64 a.pre))).setCell ⟨w.heap.size+1,4,none⟩ (.int .i64 a.tx))).setCell ⟨w.heap.size+1,5,none⟩ (.int .i64 a.deed))).setCell ⟨w.heap.size+1,6,none⟩ (.slice aC a.cyc.length cC))).setCell ⟨w.heap.size+1+1,0,none⟩ .nilIface) w.heap.size (.slice aC a.cyc.length cC) a.cyc from OwnF.base (OwnF.other (OwnF.other (OwnF.other (OwnF.other (OwnF.other (OwnF.other (OwnF.other (OwnF.other (HA.out.2) n21 _) n21 _) n21 _) n21 _) n21 _) n21 _) n21 _) n22 _) hz2)
 clear n11 n12 n21 n22 RF EF
 refine bodyPost_ret (v:=.tuple #[ansV a (.slice aS a.steps.length cS) (.slice aC a.cyc.length cC),.nilIface]) (by simp[results,Tryz.results9,go_sem,ansV,c0,c1,c2,c3,c4,c5,c6,d0]) rfl ?_
 exact⟨a,_,_,rfl,HJ.out,⟨HS9.out,HC9.out⟩,hB9.out⟩
theorem f_JudgeN (h:HisT w ov vv os r) (e:premR os r=none) (hl:lev=1∨lev=2∨lev=3∨lev=4):Calls Tryz.prog 9 #[.agg #[ov,vv],.int .i64 lev] w fun e w'=>(∃t x,e=.returned (.tuple #[.agg #[.int .i64 0,.slice none 0 0,.slice none 0 0,.int .i64 0,.int .i64 0,.int .i64 0,.slice none 0 0],.iface t x]))∧Below w.heap.size w w':=by
 obtain⟨ao,co,hov,-⟩:=h.ho.ex
 obtain⟨av,nv,cv,hvv⟩:=h.hvv
 have HH:=hid h
 have HE:=hid e
 subst hov hvv
 have hl0:(lev < 1)=False:=by simp;omega
 have hl1:(4 < lev)=False:=by simp;omega
 clear h e hl
 go_enter Tryz.func9,Tryz.ntmps9
 go_wp2_with fail
 have hb0:Below w.heap.size w (((w.alloc (.cells #[.slice ao os.length co,.slice av nv cv] 25)).alloc (.cells #[.int .i64 0,.slice none 0 0,.slice none 0 0,.int .i64 0,.int .i64 0,.int .i64 0,.slice none 0 0] 32)).alloc (.cells #[.nilIface] 34)):=(((Below.refl _ w).alloc (Nat.le_refl _) _).alloc (by simp) _).alloc (by simp;omega) _
 have B0:=hid hb0
 have H0:=hid (HH.out.below hb0)
 have R0:=hid (row_old (row_new (w.alloc (.cells #[.slice ao os.length co,.slice av nv cv] 25)) (.cells #[.int .i64 0,.slice none 0 0,.slice none 0 0,.int .i64 0,.int .i64 0,.int .i64 0,.slice none 0 0] 32)) (o:=.cells #[.nilIface] 34))
 have E0:=hid (row_new ((w.alloc (.cells #[.slice ao os.length co,.slice av nv cv] 25)).alloc (.cells #[.int .i64 0,.slice none 0 0,.slice none 0 0,.int .i64 0,.int .i64 0,.int .i64 0,.slice none 0 0] 32)) (.cells #[.nilIface] 34))
 generalize (((w.alloc (.cells #[.slice ao os.length co,.slice av nv cv] 25)).alloc (.cells #[.int .i64 0,.slice none 0 0,.slice none 0 0,.int .i64 0,.int .i64 0,.int .i64 0,.slice none 0 0] 32)).alloc (.cells #[.nilIface] 34))=W0 at *
 have R0:=hid (show W0.heap[w.heap.size+1]?=some (.cells #[.int .i64 0,.slice none 0 0,.slice none 0 0,.int .i64 0,.int .i64 0,.int .i64 0,.slice none 0 0] 32 (0,0)) by have:=R0.out;simpa using this)
 have E0:=hid (show W0.heap[w.heap.size+1+1]?=some (.cells #[.nilIface] 34 (0,0)) by have:=E0.out;simpa using this)
 clear hb0
 have PC:=hid (f_Premise H0.out)
 rw[HE.out] at PC
 refine PC.out.mono ?_
 rintro e W1 ⟨⟨t,x,rfl⟩,b1⟩
 have B1:=hid (B0.out.trans (b1.mono B0.out.size))
 have R1:=hid (row_below R0.out b1 (row_lt R0.out))
 have E1:=hid (row_below E0.out b1 (row_lt E0.out))
 have y0:=row_cell R1.out 0
 have y1:=row_cell R1.out 1
 have y2:=row_cell R1.out 2
 have y3:=row_cell R1.out 3
 have y4:=row_cell R1.out 4
 have y5:=row_cell R1.out 5
 have y6:=row_cell R1.out 6
 simp at y0 y1 y2 y3 y4 y5 y6
 have yf:=fun o=>row_free R1.out o
 have yl:=row_lt R1.out
 have z0:=row_cell E1.out 0
 simp at z0
 have zf:=fun o=>row_free E1.out o
 have zl:=row_lt E1.out
 clear b1
 go_wp2_with fail
 have RF:=row_other (row_set (row_set (row_set (row_set (row_set (row_set (row_set (R1.out) 0 (.int .i64 0)) 1 (.slice none 0 0)) 2 (.slice none 0 0)) 3 (.int .i64 0)) 4 (.int .i64 0)) 5 (.int .i64 0)) 6 (.slice none 0 0)) (show w.heap.size+1+1≠w.heap.size+1 by omega) (j:=0) (v:=.iface t x)
 have EF:=row_set (row_other (row_other (row_other (row_other (row_other (row_other (row_other (E1.out) (show w.heap.size+1≠w.heap.size+1+1 by omega) (j:=0) (v:=.int .i64 0)) (show w.heap.size+1≠w.heap.size+1+1 by omega) (j:=1) (v:=.slice none 0 0)) (show w.heap.size+1≠w.heap.size+1+1 by omega) (j:=2) (v:=.slice none 0 0)) (show w.heap.size+1≠w.heap.size+1+1 by omega) (j:=3) (v:=.int .i64 0)) (show w.heap.size+1≠w.heap.size+1+1 by omega) (j:=4) (v:=.int .i64 0)) (show w.heap.size+1≠w.heap.size+1+1 by omega) (j:=5) (v:=.int .i64 0)) (show w.heap.size+1≠w.heap.size+1+1 by omega) (j:=6) (v:=.slice none 0 0)) 0 (.iface t x)
 have c0:=row_cell RF 0
 have c1:=row_cell RF 1
 have c2:=row_cell RF 2
 have c3:=row_cell RF 3
 have c4:=row_cell RF 4
 have c5:=row_cell RF 5
 have c6:=row_cell RF 6
 have d0:=row_cell EF 0
 simp at c0 c1 c2 c3 c4 c5 c6 d0
 have hB9:=hid (((((((((B1.out).setCell (p:=⟨w.heap.size+1,0,none⟩) (by show w.heap.size≤w.heap.size+1;omega) (.int .i64 0)).setCell (p:=⟨w.heap.size+1,1,none⟩) (by show w.heap.size≤w.heap.size+1;omega) (.slice none 0 0)).setCell (p:=⟨w.heap.size+1,2,none⟩) (by show w.heap.size≤w.heap.size+1;omega) (.slice none 0 0)).setCell (p:=⟨w.heap.size+1,3,none⟩) (by show w.heap.size≤w.heap.size+1;omega) (.int .i64 0)).setCell (p:=⟨w.heap.size+1,4,none⟩) (by show w.heap.size≤w.heap.size+1;omega) (.int .i64 0)).setCell (p:=⟨w.heap.size+1,5,none⟩) (by show w.heap.size≤w.heap.size+1;omega) (.int .i64 0)).setCell (p:=⟨w.heap.size+1,6,none⟩) (by show w.heap.size≤w.heap.size+1;omega) (.slice none 0 0)).setCell (p:=⟨w.heap.size+1+1,0,none⟩) (by show w.heap.size≤w.heap.size+1+1;omega) (.iface t x))
 clear RF EF
 exact bodyPost_ret (v:=.tuple #[.agg #[.int .i64 0,.slice none 0 0,.slice none 0 0,.int .i64 0,.int .i64 0,.int .i64 0,.slice none 0 0],.iface t x]) (by simp[results,Tryz.results9,go_sem,c0,c1,c2,c3,c4,c5,c6,d0]) rfl ⟨⟨t,x,rfl⟩,hB9.out⟩
def takenIds (A:Au) (T:List Bool) (k:Nat):List Int:=(List.range k).filterMap fun i=>match A[i]? with
 |some s=>if T.getD i false then some s.id else none
 |none=>none
theorem takenIds_snoc {T:List Bool} {k:Nat} {s:St} (h:A[k]?=some s):takenIds A T (k+1)=takenIds A T k++(if T.getD k false then[s.id] else[]):=by
 unfold takenIds
 rw[List.range_succ,List.filterMap_append]
 congr 1
 rw[List.filterMap_cons,h]
 simp only
 cases T.getD k false <;> rfl
theorem takenIds_len {T:List Bool} {k:Nat}:(takenIds A T k).length≤k:=by
 unfold takenIds
 exact Nat.le_trans (List.length_filterMap_le _ _) (by simp)
theorem f_TakenS (h:HisT w ov vv os r) (e:premR os r=some A) (hl:lev=1∨lev=2∨lev=3):Calls Tryz.prog 28 #[.agg #[ov,vv],.int .i64 lev] w fun e w'=>
  ∃v,e=.returned (.tuple #[v,.nilIface])∧OwnI w' w.heap.size v (takenIds A (takenF lev A) A.length)∧Below w.heap.size w w':=by
 obtain⟨ao,co,hov,-⟩:=h.ho.ex
 obtain⟨av,nv,cv,hvv⟩:=h.hvv
 have b0:Below w.heap.size w (w.alloc (.cells #[ov,vv] 25)):=(Below.refl _ w).alloc (Nat.le_refl _) _
 have PC:=hid (f_atS (lev:=lev) (h.below b0) e hl)
 have B0:=hid b0
 have HD:=hid (h.hD A (premR_some e).1)
 subst hov hvv
 clear h b0 e hl
 go_enter Tryz.func28,Tryz.ntmps28
 go_wp2_with fail
 refine PC.out.mono ?_
 rintro e W1 ⟨pW,bB,ms,lv,rfl,hF,b1⟩
 have B1:=hid (B0.out.trans (b1.mono B0.out.size))
 obtain⟨T,hT⟩:∃T,takenF lev A=T:=⟨_,rfl⟩
 rw[hT] at hF
 have HT:=hid hT
 obtain⟨al,cl,hlv0⟩:=OwnF.sli hF.lst
 subst hlv0
 have HML:=hid hF.len
 have hml:ms.length≤400:=by have:=hF.len;have:=HD.out.len;omega
 have F1:=hid hF
 have yq:=row_cell hF.row 3
 simp at yq
 have yql:=row_lt hF.row
 clear b1 hF hT
 go_wp2_with fail
 go_loopw [8,25] (fun v q wr=>∃(k:Nat),k≤ms.length∧q=.int .i64 k∧OwnI wr W1.heap.size v (takenIds A T k)∧Below W1.heap.size W1 wr) (fun _ q _=>ms.length - (intOf q).toNat)
 case atStart=>exact⟨0,by omega,by go_num,OwnF.nil _ _,Below.refl _ _⟩
 case round=>
  obtain⟨k,hk,rfl,hO,hB⟩:=hrel
  have HB:=hid hB
  have HO:=hid hO
  have HF:=hid (F1.out.below hB (Nat.le_refl _) (Nat.le_refl _))
  obtain⟨aS,cS,hvq⟩:=OwnF.sli hO
  subst hvq
  obtain⟨L,hL⟩:∃L,takenIds A T k=L:=⟨_,rfl⟩
  rw[hL] at HO hO ⊢
  have HLL:=hid hL
  have hll:L.length≤400:=by rw[←hL];exact Nat.le_trans takenIds_len (by omega)
  have hwz:=hB.size
  clear hO hB hL yq yql
  by_cases hlt:k < ms.length
  ·obtain ⟨bl,ol,m,hqe,hbl,hmk,hcl⟩:=(OwnF.sl HF.out.lst).atF Mvr.len rfl hlt
   subst hqe
   have c0:wr.cell? ⟨bl,ol+k,none⟩=some (.pointer (some ⟨m.p,0,none⟩)):=by have:=hcl 0 (by decide);simpa[Mvr.cells,ptrV] using this
   obtain⟨m0,s,g1,hsk,hMv⟩:=HF.out.get (k:=k) (by have:=HML.out;omega)
   rw[hmk] at g1
   obtain rfl:=Option.some.inj g1
   have HSK:=hid hsk
   have hr:=hMv.row
   obtain⟨tk,htk⟩:∃tk,T.getD k false=tk:=⟨_,rfl⟩
   have HRK:=hid (takenIds_snoc (T:=T) hsk)
   rw[htk] at hr HRK
   have ym:=row_cell hr
   have ym0:=ym 0
   have ym10:=ym 10
   simp at ym0 ym10
   have yml:=row_lt hr
   clear hmk hsk hMv ym hcl hr htk
   cases tk with
   |false=>
    go_wp2_with fail
    go_roundw
    case rel=>exact⟨k+1,by omega,by go_num,by rw[HRK.out,if_neg (by simp),List.append_nil,HLL.out];exact HO.out,HB.out⟩
    case measure=>simp[intOf];omega
   |true=>
    go_wp2_with (at_builtin;refine wpList_appF rfl _ _ _ rfl _ 8 Tryz.underlying30 infoI rfl HO.out s.id (by first|omega|(simp <;> omega)) (by rfl) (by rfl) (by first|rfl|simp) rfl (in_one _) (by first|omega|(simp only[List.length_append,List.length_cons,List.length_nil,List.length_replicate];omega)) (by first|omega|(simp only[List.length_append,List.length_cons,List.length_nil,List.length_replicate];omega)) ?_;refine Stop.halt ?_)
    refine Stop.go ?_
    intro g8 c8 w8 o8 G8
    have O9:=hid o8
    have B9:=hid (HB.out.trans (G8.below hwz fun j hj=>(OwnF.lt HO.out j hj).1))
    clear o8 G8 c0 ym0 ym10 yml
    go_wp2_with fail
    go_roundw
    case rel=>exact⟨k+1,by omega,by go_num,by rw[HRK.out,if_pos (by simp),HLL.out];exact O9.out,B9.out⟩
    case measure=>simp[intOf];omega
  ·obtain rfl:k=ms.length:=by omega
   have hq:decide ((ms.length:Int) < (ms.length:Int))=false:=by simp
   have hz1:w.heap.size≤W1.heap.size:=B1.out.size
   have BF:=hid (B1.out.trans (HB.out.mono hz1))
   go_wp2_with fail
   refine bodyPost_ret (v:=.tuple #[.slice aS L.length cS,.nilIface]) (by simp[results,Tryz.results28,go_sem]) rfl ⟨_,rfl,?_,BF.out⟩
   rw[HT.out,←HML.out,HLL.out]
   exact OwnF.base HO.out hz1
end
end
