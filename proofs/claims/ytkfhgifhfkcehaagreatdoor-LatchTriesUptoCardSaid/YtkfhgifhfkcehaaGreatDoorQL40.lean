/- Parts of the proof, merged by program out of 3 texts (ToH, ToI, ToJ): the first: The engine latch: Step, Done, History, Cells. Conditions: those of each theorem, as typed. -/
import Derived.Test.YtkfhgifhfkcehaaGreatDoorQL39
import Derived.Test.YtkfhgifhfkcehaaGreatDoorQL19
set_option linter.unusedVariables false
set_option linter.unusedSimpArgs false
set_option linter.unusedSectionVars false
set_option maxRecDepth 100000
set_option maxHeartbeats 4000000
namespace Go.Proofs.YtkfhgifhfkcehaaGreatDoor
open Go.Maps Go.RowKit
section
attribute [local irreducible] wpL
def stepIn (P:Pg) (M:LM) (i:Nat):LM:=match M.W.ths[i]?,M.nx[i]? with
 |some t,some x=>let y:=doStep P M i t x (woR M.ws[i]?) (woS M.ws[i]?);{y.1 with nx:=y.1.nx.set i y.2}
 |_,_=>M
def stepTo (P:Pg) (M:LM) (i:Int):LM:=if wDone P M.W i then M else stepIn P M i.toNat
structure CanStep (P:Pg) (M:LM):Prop where
 evs:M.W.evs.length≤100000
 ces:∀c ∈ M.cs,-999999000≤c.val∧c.val≤999999000
 nxt:∀(i:Nat) (t:Th) (x:Nx),M.W.ths[i]?=some t→M.nx[i]?=some x→match x with
  |.none=>t.begun=true→∃r s,M.ws[i]?=some (some (r,s))
  |.abort=>∃r s,M.ws[i]?=some (some (r,s))∧WoCan P r s
  |.rel l=>l.length≤4∧∀k ∈ l,0≤k∧k < P.cells.length
  |.ans e=>∃(r:MB) (s:MI) (k:Nat),M.ws[i]?=some (some (r,s))∧e.obj=k∧k < P.cells.length∧WoCan P r s∧(-999999000≤e.val∧e.val≤999999000)∧t.begun=true
section
variable {w w':World} {C:LC} {ve:Value} {P:Pg} {M:LM} {us:List (Value×Value)}
theorem LaAt.thsLen (h:LaAt w C ve us P M):M.W.ths.length=P.threads.length:=let ⟨_,h1,_⟩:=h.dr;h1.walk.ths.len
theorem LaPost.next {i:Nat} {M':LM} {e:Ending} (h:LaPost C P M' .nilFunc w e w'):LaNext C P i (M',.none) w e w':=by
 obtain⟨rfl,hb,ve',us',hl⟩:=h
 exact⟨_,ve',us',rfl,hb,hl,rfl⟩
theorem NxAt.below {i:Nat} {v:Value} {x:Nx} (h:NxAt w C i ve v x) (hb:Below w.heap.size w w'):NxAt w' C i ve v x:=
 NxAt.keep h (fun p u hp=>row_below hp hb (row_lt hp)) (fun p u hp=>row_below hp hb (row_lt hp)) (fun p u hp=>row_below hp hb (row_lt hp)) fun p cs hp he=>⟨row_below hp hb (row_lt hp),he⟩
theorem d_step (h:LaAt w C ve us P M) (hc:CanStep P M) (i:Nat) (hi:i < P.threads.length) (hd:wDone P M.W i=false):
  Calls Tryz.prog 36 #[.pointer (some ⟨C.bD,0,none⟩),.int .i64 i] w (LaPost C P (stepIn P M i) (.bool true) w):=by
 obtain⟨t,ht⟩:∃t,M.W.ths[i]?=some t:=⟨_,List.getElem?_eq_getElem (by rw[h.thsLen];exact hi)⟩
 obtain⟨v,x,hv,hx,hn⟩:=h.nxAt hi
 have hst:stepIn P M i={(doStep P M i t x (woR M.ws[i]?) (woS M.ws[i]?)).1 with nx:=(doStep P M i t x (woR M.ws[i]?) (woS M.ws[i]?)).1.nx.set i (doStep P M i t x (woR M.ws[i]?) (woS M.ws[i]?)).2}:=by
  unfold stepIn
  rw[ht,hx]
 rw[hst]
 have hcx:=hc.nxt i t x ht hx
 have hdn:thDone P i t=false:=by rw[←wDone_th ht];exact hd
 cases x with
 |none=>
  obtain rfl:v=.nilFunc:=hn
  exact d_stepGO h i hi hd hv fun w1 p1 p2 hb hg=>la_goOn (h.below hb) i hi ht hc.evs hcx hg
 |abort=>
  obtain⟨p1,p2,rfl,h1⟩:=id hn
  obtain⟨r,s,hws,hcn⟩:=hcx
  have e1:woR M.ws[i]?=r:=by rw[hws];rfl
  have e2:woS M.ws[i]?=s:=by rw[hws];rfl
  rw[e1,e2]
  exact d_stepXX h i hi hd hv (enters_of Tryz.func105 (by kernel_rfl) rfl) fun w1 hb=>(la_abort1 (h.below hb) i hi ht hc.evs hws hcn (h1.below hb)).mono fun e w2 he=>LaPost.next he
 |rel l=>
  cases l with
  |nil=>
   obtain⟨p1,p2,rfl,h1⟩:=id hn
   exact d_stepXX h i hi hd hv (enters_of Tryz.func107 (by kernel_rfl) rfl) fun w1 hb=>(la_rel1 (h.below hb) i hi ht hc.evs (h1.below hb)).mono fun e w2 he=>LaPost.next he
  |cons k l=>
   obtain⟨p1,p2,p3,rfl,h1,h3⟩:=id hn
   exact d_stepXX h i hi hd hv (enters_of Tryz.func108 (by kernel_rfl) rfl) fun w1 hb=>la_rel2 (t:=t) (h.below hb) i hi k l hcx.1 hcx.2 (h1.below hb) (h3.below hb)
 |ans e=>
  obtain⟨p1,p2,p3,rfl,h1,h3,-⟩:=id hn
  obtain⟨r,s,k,hws,hk,hkn,hcn,hev,hbg⟩:=hcx
  have e1:woR M.ws[i]?=r:=by rw[hws];rfl
  have e2:woS M.ws[i]?=s:=by rw[hws];rfl
  rw[e1,e2]
  obtain⟨ek,ex,eh,ej,eo,ey,ev,er⟩:=e
  simp only at hk
  subst hk
  exact d_stepXX h i hi hd hv (enters_of Tryz.func64 (by kernel_rfl) rfl) fun w1 hb=>(la_ans1 (h.below hb) i hi ht hdn hbg hc.evs hws hcn k ek ex eh eo ey ev er hkn hev hc.ces (h1.below hb) (row_below h3 hb (row_lt h3))).mono fun e w2 he=>LaPost.next he
theorem d_stepNo (h:LaAt w C ve us P M) (i:Int) (hd:wDone P M.W i=true):
  Calls Tryz.prog 36 #[.pointer (some ⟨C.bD,0,none⟩),.int .i64 i] w fun e w'=>e=.returned (.bool false)∧w'=w.drew:=by
 have hdr:=h.drRow
 have d2:=row_cell hdr 2
 have lD:=row_lt hdr
 obtain⟨vs,hdr2,-,-⟩:=h.dr
 have hwd:=hid (wk_done hdr2.walk i)
 rw[hd] at hwd
 clear h hdr hdr2
 go_enter Tryz.func36,Tryz.ntmps36
 go_wp2_with fail
 refine(hwd.out).mono ?_
 rintro e w1 ⟨rfl,rfl⟩
 go_wp2
 go_ret
 exact⟨rfl,rfl⟩
theorem la_step (h:LaAt w C ve us P M) (hc:CanStep P M) (i:Int):
  Calls Tryz.prog 10 #[.pointer (some ⟨C.bM,0,none⟩),.int .i64 i] w (LaPost C P (stepTo P M i) (.bool !wDone P M.W i) w):=by
 have hin:Calls Tryz.prog 36 #[.pointer (some ⟨C.bD,0,none⟩),.int .i64 i] w (LaPost C P (stepTo P M i) (.bool !wDone P M.W i) w):=by
  cases hd:wDone P M.W i with
  |true=>
   have:stepTo P M i=M:=by unfold stepTo;rw[hd];rfl
   rw[this]
   refine(d_stepNo h i hd).mono ?_
   rintro e w1 ⟨rfl,rfl⟩
   exact⟨rfl,(Below.refl _ _).drew,ve,us,h.below (Below.refl _ _).drew⟩
  |false=>
   obtain⟨k,rfl,hk⟩:=wDone_in h.thsLen hd
   have:stepTo P M k=stepIn P M k:=by unfold stepTo;rw[hd];rfl
   rw[this]
   exact d_step h hc k hk hd
 have d0:=row_cell h.row 0
 have lM:=row_lt h.row
 have HI:=hid hin
 clear hin h
 generalize stepTo P M i=y at *
 generalize (!wDone P M.W i)=b at *
 go_enter Tryz.func10,Tryz.ntmps10
 go_wp2_with fail
 refine(HI.out).mono ?_
 rintro e w1 ⟨rfl,hb,ve',us',hla⟩
 have HB:=hid hb
 have HL:=hid hla
 clear hb hla d0 HI
 go_wp2
 go_ret
 exact⟨rfl,HB.out,ve',us',HL.out⟩
theorem la_done (h:LaAt w C ve us P M):Calls Tryz.prog 11 #[.pointer (some ⟨C.bM,0,none⟩)] w fun e w'=>e=.returned (.bool (allDone P M.W))∧Below w.heap.size w w':=by
 have d0:=row_cell h.row 0
 have lM:=row_lt h.row
 obtain⟨vs,hdr2,-,-⟩:=h.dr
 have HI:=hid (d_done hdr2)
 clear h hdr2
 generalize allDone P M.W=b at *
 go_enter Tryz.func11,Tryz.ntmps11
 go_wp2_with fail
 refine(HI.out).mono ?_
 rintro e w1 ⟨rfl,hb⟩
 have HB:=hid hb
 clear hb d0 HI
 go_wp2
 go_ret
 exact⟨rfl,HB.out⟩
theorem la_history (h:LaAt w C ve us P M) (hl:M.W.evs.length≤100000):Calls Tryz.prog 12 #[.pointer (some ⟨C.bM,0,none⟩)] w (HistRet (obsOf P) M.W.evs w):=by
 have d0:=row_cell h.row 0
 have lM:=row_lt h.row
 obtain⟨vs,hdr2,-,-⟩:=h.dr
 have b0:Below w.heap.size w (w.alloc (.cells #[.slice none 0 0,.slice none 0 0] 37)):=(Below.refl _ w).alloc (Nat.le_refl _) _
 have r0:=row_new w (.cells #[.slice none 0 0,.slice none 0 0] 37)
 have z0:(w.alloc (.cells #[.slice none 0 0,.slice none 0 0] 37)).heap.size=w.heap.size+1:=by simp
 have HI:=hid (d_history (hdr2.below b0) hl)
 have B0:=hid b0
 have R0:=hid r0
 have Z0:=hid z0
 clear h hdr2 b0 r0 z0
 generalize obsOf P=os at *
 generalize M.W.evs=es at *
 go_enter Tryz.func12,Tryz.ntmps12
 go_wp2_with fail
 refine(HI.out).mono ?_
 clear HI
 generalize w.alloc (.cells #[.slice none 0 0,.slice none 0 0] 37)=X at *
 rintro e w1 ⟨ov,vv,rfl,ho,hv,hb⟩
 obtain⟨ao,co,rfl,-⟩:=ho.form2
 obtain⟨ae,ce,rfl,-⟩:=hv.form2
 have zX:=Z0.out
 have r1:=row_below R0.out hb (by omega)
 have y0:=row_cell r1 0
 have y1:=row_cell r1 1
 have yf:∀j,w1.frozen? ⟨w.heap.size,j,none⟩=false:=fun j=>row_free r1 j
 have l1:=row_lt r1
 have HB:=hid (B0.out.trans (hb.mono (by omega)))
 have HO:=hid (OwnF.base ho (show w.heap.size≤X.heap.size by omega))
 have HV:=hid (OwnF.base hv (show w.heap.size≤X.heap.size by omega))
 have R1:=hid r1
 clear hb ho hv r1 zX d0 B0 R0 Z0
 go_wp2
 have r4:=row2 (u1:=.slice ao os.length co) (u2:=.slice ae es.length ce) R1.out
 have c0:=row_cell r4 0
 have c1:=row_cell r4 1
 simp only[List.getElem?_toArray,List.getElem?_cons_zero,List.getElem?_cons_succ] at c0 c1
 refine bodyPost_ret (v:=.agg #[.slice ao os.length co,.slice ae es.length ce]) (by simp[results,Tryz.results12,go_sem,c0,c1]) rfl ⟨_,_,rfl,?_,?_,?_⟩
 ·exact OwnF.box2 HO.out R1.out (by decide)
 ·exact OwnF.box2 HV.out R1.out (by decide)
 ·exact (HB.out.setCell (p:=⟨w.heap.size,0,none⟩) (Nat.le_refl _) _).setCell (p:=⟨w.heap.size,1,none⟩) (Nat.le_refl _) _
end
end
section
attribute [local irreducible] wpL
section
variable {α:Type} {f:α→List Value} {e:TypeId} {sz B:Nat} {P:Program} {o:Oper} {a:Act} {Q:Exit→Act→World→Prop}
end
theorem infoWk:(Tryz.prog.info? 135).map (fun i=>(i.zero,i.size,i.bytes))=some (some (.agg #[.map none,.map none]),2,16):=by kernel_rfl
theorem infoC:(Tryz.prog.info? 90).map (fun i=>(i.zero,i.size,i.bytes))=some (some (.agg #[.int .i64 0,.int .i64 0]),2,16):=by kernel_rfl
theorem ce_one (c:Ce):∀u ∈ c.cells,u.oneCell'=true:=by intro u hu;simp[Ce.cells] at hu;rcases hu with rfl|rfl <;> rfl
section
variable {w w':World} {ve:Value} {P:Pg}
def Mn (t:TypeId):Prop:=t=90∨t=85
theorem WkAt.kn {B bW gT:Nat} {vc vt:Value} {S:Wst} (h:WkAt w B bW gT vc vt ve P S) (hk:Kd Mn w w'):WkAt w' B bW gT vc vt ve P S:=
 ⟨hk _ _ _ _ h.row (by unfold Mn;decide),h.hB,OwnF.kd h.cells hk (by unfold Mn;decide),h.thr.kd hk (by unfold Mn;decide) (by unfold Mn;decide) (by unfold Mn;decide),OwnF.kd h.ths hk (by unfold Mn;decide),OwnF.kd h.evs hk (by unfold Mn;decide),h.ok,h.tok⟩
theorem DrAt.kn {B bD bW gT gN:Nat} {vc vt pc pt rf:Value} {S:Wst} {nx:List Value} (h:DrAt w B bD bW gT gN vc vt ve pc pt rf P S nx) (hk:Kd Mn w w'):DrAt w' B bD bW gT gN vc vt ve pc pt rf P S nx:=
 ⟨hk _ _ _ _ h.row (by unfold Mn;decide),h.hB,h.walk.kn hk,OwnF.kd h.pcells hk (by unfold Mn;decide),h.pthr.kd hk (by unfold Mn;decide) (by unfold Mn;decide) (by unfold Mn;decide),OwnF.kd h.next hk (by unfold Mn;decide)⟩
def startLM (P:Pg):LM:=⟨⟨List.replicate P.threads.length Th.zero,[]⟩,P.cells.map fun c=>⟨c,0⟩,List.replicate P.threads.length none,List.replicate P.threads.length .none⟩
def NewRet (P:Pg) (ev:Value) (w:World) (e:Ending) (w':World):Prop:=
 (¬ValidIs P∧e=.returned (.tuple #[.pointer none,ev])∨ValidIs P∧∃C us ve,e=.returned (.tuple #[.pointer (some ⟨C.bM,0,none⟩),.nilIface])∧C.B=w.heap.size∧LaAt w' C ve us P (startLM P))∧Below w.heap.size w w'
theorem la_new (vc vt:Value) (P:Pg) (w:World) (h:PgIs w w.heap.size vc vt P) (ev:Value) (hev:w.cell? ⟨2,0,none⟩=some ev) (hne:∃t v,ev=.iface t v) (h10:2 < w.heap.size) (hn:P.threads.length≤1000):
  Calls Tryz.prog 9 #[.agg #[vc,vt]] w (NewRet P ev w):=by
 obtain⟨ac,cc,rfl,mc⟩:=h.cells.ex
 obtain⟨at',ct,rfl,mt⟩:=h.thr.ex
 obtain⟨ty,va,rfl⟩:=hne
 have H:=hid h
 have HE:=hid hev
 clear h hev
 go_enter Tryz.func9,Tryz.ntmps9
 go_wp2_with (at_make;refine wpList_makeN (f:=moC) (e:=135) (sz:=2) (B:=w.heap.size) rfl _ _ _ rfl _ 16 Tryz.underlying81 infoWk rfl rfl (by first|omega|(simp <;> omega)) (by first|omega|(simp <;> omega)) (by first|omega|(simp <;> omega)) (.map none,.map none) rfl rfl (by decide) ?_;refine Stop.halt ?_)
 refine Stop.go ?_
 intro W1 o1 b1 z1
 have b1:Below w.heap.size w W1:=((Below.refl _ w).alloc (Nat.le_refl _) _).trans (b1.mono (by omega))
 have z1:w.heap.size+1 < W1.heap.size:=by omega
 have r1:W1.heap[w.heap.size]?=some (.cells #[.slice ac P.cells.length cc,.slice at' P.threads.length ct] 25 (0,0)):=row_below (row_new w _) ‹Below (w.heap.size+1) _ W1› (by omega)
 have O1:=hid o1
 have B1:=hid b1
 have R1:=hid r1
 have lb1:w.heap.size < W1.heap.size:=by omega
 have y0:=row_cell r1 0
 have y1:=row_cell r1 1
 clear o1 b1 r1
 go_wp2_with fail
 have bX:Below W1.heap.size W1 (W1.alloc (.cells #[.pointer none,.slice none 0 0,.slice (some ⟨w.heap.size+1,0,none⟩) P.threads.length P.threads.length] 85)):=(Below.refl _ W1).alloc (Nat.le_refl _) _
 have rX:=row_new W1 (.cells #[.pointer none,.slice none 0 0,.slice (some ⟨w.heap.size+1,0,none⟩) P.threads.length P.threads.length] 85)
 have zX:(W1.alloc (.cells #[.pointer none,.slice none 0 0,.slice (some ⟨w.heap.size+1,0,none⟩) P.threads.length P.threads.length] 85)).heap.size=W1.heap.size+1:=by simp
 generalize W1.alloc (.cells #[.pointer none,.slice none 0 0,.slice (some ⟨w.heap.size+1,0,none⟩) P.threads.length P.threads.length] 85)=X at *
 have bwX:Below w.heap.size w X:=B1.out.trans (bX.mono (by omega))
 refine(p_dStart _ _ P X ((H.out.below bwX).more (by omega)) (.func 35) #[.pointer (some ⟨W1.heap.size,0,none⟩)] #[] (.iface ty va) (cell_below bwX h10 HE.out) ⟨_,_,rfl⟩ (by omega)).mono ?_
 rintro e V ⟨hv,bV⟩
 have zV:=bV.size
 have BV:=hid (bwX.trans (bV.mono (by omega)))
 have RV:=hid (row_below rX bV (by omega))
 have RP:=hid (row_below (row_below R1.out bX lb1) bV (by omega))
 have OV:=hid (OwnF.below (OwnF.below O1.out bX) bV)
 rcases hv with⟨hno,rfl⟩|⟨hok,bD,bW,gT,gN,vc,vt,pc,pt,rfl,hdr⟩
 case inl=>
  have HN:=hid hno
  clear hno y0 y1 bX rX zX bwX bV
  go_wp2
  go_ret2
  exact⟨.inl ⟨HN.out,rfl⟩,BV.out⟩
 case inr=>
  have HOK:=hid hok
  have HDR:=hid hdr
  have hn4:=hok.nums
  have hXB:X.heap.size≤bD:=hdr.hB
  have hwX:w.heap.size≤X.heap.size:=by omega
  have m0:=row_cell RV.out 0
  have mf:=row_free RV.out 0
  have lm:=row_lt RV.out
  have p0:=row_cell RP.out 0
  have lp:=row_lt RP.out
  clear hok hdr y0 y1 bX rX zX bwX bV
  go_wp2_with fail
  have kY:Kd Mn V (V.setCell ⟨W1.heap.size,0,none⟩ (.pointer (some ⟨bD,0,none⟩))):=Kd.set RV.out (.inr rfl) _
  have rY:=row_set RV.out 0 (.pointer (some ⟨bD,0,none⟩))
  have bY:Below w.heap.size w (V.setCell ⟨W1.heap.size,0,none⟩ (.pointer (some ⟨bD,0,none⟩))):=BV.out.setCell (p:=⟨W1.heap.size,0,none⟩) (by show w.heap.size≤W1.heap.size;omega) _
  have dY:=(HDR.out.base hwX).kn kY
  have oY:=OwnF.kd OV.out kY (by unfold Mn;decide)
  generalize V.setCell ⟨W1.heap.size,0,none⟩ (.pointer (some ⟨bD,0,none⟩))=Y at *
  have RY:=hid (show Y.heap[W1.heap.size]?=some (.cells #[.pointer (some ⟨bD,0,none⟩),.slice none 0 0,.slice (some ⟨w.heap.size+1,0,none⟩) P.threads.length P.threads.length] 85 (0,0)) from rY)
  have BY:=hid bY
  have DY:=hid dY
  have OY:=hid oY
  obtain⟨cs0,hcs0⟩:∃cs0:List Ce,cs0=P.cells.map fun c=>⟨c,0⟩:=⟨_,rfl⟩
  have hcl:cs0.length=P.cells.length:=by rw[hcs0,List.length_map]
  have HCS:=hid hcs0
  have hgW:w.heap.size+1 < W1.heap.size:=by omega
  clear kY rY bY dY oY HDR OV RV BV m0 mf p0 hcs0 R1 RP O1 B1
  go_loopw [32] (fun p wr=>∃(i:Nat) (cv:Value),i≤P.cells.length∧p=.int .i64 i∧Below w.heap.size w wr∧wr.heap[W1.heap.size]?=some (.cells #[.pointer (some ⟨bD,0,none⟩),cv,.slice (some ⟨w.heap.size+1,0,none⟩) P.threads.length P.threads.length] 85 (0,0))∧
   DrAt wr w.heap.size bD bW gT gN vc vt (.slice none 0 0) pc pt (.func (.func 35) #[.pointer (some ⟨W1.heap.size,0,none⟩)] #[]) P ⟨List.replicate P.threads.length Th.zero,[]⟩ (List.replicate P.threads.length .nilFunc)∧
   OwnF moC 135 2 wr w.heap.size (.slice (some ⟨w.heap.size+1,0,none⟩) P.threads.length P.threads.length) (List.replicate P.threads.length (.map none,.map none))∧OwnF Ce.cells 90 2 wr w.heap.size cv (cs0.take i)) (fun p _=>P.cells.length - (intOf p).toNat)
  case atStart=>exact⟨0,.slice none 0 0,by omega,by go_num,BY.out,RY.out,DY.out,OY.out,OwnF.nil _ _⟩
  case round=>
   obtain⟨i,cv,hi,rfl,hB,hr,hD,hO,hC⟩:=hrel
   clear BY RY DY OY
   obtain⟨ao,co,rfl,-⟩:=hC.form2
   have hlo:(cs0.take i).length=i:=by rw[List.length_take];omega
   rw[hlo] at hC hr
   have e1:=row_cell hr 1
   have lr:=row_lt hr
   have zB:=hB.size
   have HB:=hid hB
   have HR:=hid hr
   have HD:=hid hD
   have HO:=hid hO
   have HC:=hid hC
   clear hB hr hD hO hC
   by_cases hlt:i < P.cells.length
   ·obtain ⟨b,off,c,rfl,hb,hc,hcc⟩:=H.out.cells.intAt hlt
    have hcc:=cell_below HB.out hb hcc
    have hbz:b < wr.heap.size:=by omega
    have hoc:cs0[i]?=some ⟨c,0⟩:=by rw[HCS.out,List.getElem?_map,hc];rfl
    have HOC:=hid hoc
    clear hoc hc
    go_wp2_with (at_builtin;refine wpList_appF rfl _ _ _ rfl _ 16 Tryz.underlying83 infoC rfl HC.out ⟨c,0⟩ (by first|omega|(simp <;> omega)) (by rfl) (by rfl) (by first|rfl|simp) rfl (ce_one _) (by first|omega|(simp only[List.length_append,List.length_cons,List.length_nil,List.length_replicate];omega)) (by first|omega|(simp only[List.length_append,List.length_cons,List.length_nil,List.length_replicate];omega)) ?_;refine Stop.halt ?_)
    refine Stop.go ?_
    intro g4 c4 w4 o4 G4
    have kg:=Kd.grw HC.out G4
    have b4:=HB.out.trans (G4.below zB fun q h=>(HC.out.lt q h).1)
    have q2:=kg _ _ _ _ HR.out (by decide)
    have f6:=row_free q2 1
    have l6:=row_lt q2
    have e1:=row_cell q2 1
    have B4:=hid b4
    have Q2:=hid q2
    have D4:=hid (HD.out.kn (kg.mono fun t h=>.inl h))
    have OW4:=hid (OwnF.kd HO.out kg (by decide))
    have O4:=hid o4
    clear b4 q2 kg o4 G4 lr
    go_wp2_with fail
    go_roundw
    case rel=>
     have kS:Kd (fun t=>t=85) w4 (w4.setCell ⟨W1.heap.size,1,none⟩ (.slice (some ⟨g4,0,none⟩) (i+1) c4)):=Kd.set (T:=fun t=>t=85) Q2.out rfl _
     refine⟨i+1,_,by omega,by go_num,B4.out.setCell (p:=⟨W1.heap.size,1,none⟩) (by show w.heap.size≤W1.heap.size;omega) _,row_set Q2.out 1 _,D4.out.kn (kS.mono fun t h=>.inr h),OwnF.kd OW4.out kS (by decide),?_⟩
     rw[take_step HOC.out]
     exact OwnF.kd O4.out kS (by decide)
    case measure=>simp[intOf];omega
   ·obtain rfl:i=P.cells.length:=by omega
    go_wp2
    go_ret2
    refine⟨.inr ⟨HOK.out,⟨w.heap.size,W1.heap.size,bD,bW,gT,gN,w.heap.size+1,vc,vt,pc,pt,.slice ao P.cells.length co,fun _ _=>False⟩,List.replicate P.threads.length (.map none,.map none),.slice none 0 0,rfl,rfl,HR.out,by show w.heap.size≤W1.heap.size;omega,⟨_,HD.out,by simp[startLM],?_⟩,?_,by simp[startLM],⟨HO.out,by simp[startLM],?_,?_⟩,fun _ _ hf=>hf.elim⟩,HB.out⟩
    ·intro j v x hv hx
     have h1:v=.nilFunc:=List.eq_of_mem_replicate (List.mem_of_getElem? hv)
     have h2:x=.none:=List.eq_of_mem_replicate (List.mem_of_getElem? hx)
     rw[h2]
     exact h1
    ·have:=HC.out
     rwa [show cs0.take P.cells.length=P.cells.map (fun c=>⟨c,0⟩) from by rw[←hcl,List.take_length];exact HCS.out] at this
    ·intro j u o hu ho
     have h1:u=(.map none,.map none):=List.eq_of_mem_replicate (List.mem_of_getElem? hu)
     have h2:o=none:=List.eq_of_mem_replicate (List.mem_of_getElem? ho)
     rw[h2]
     exact h1
    ·intro j k u u' hu hu' _ b hb
     have h1:u=(.map none,.map none):=List.eq_of_mem_replicate (List.mem_of_getElem? hu)
     rw[h1] at hb
     rcases hb with hb|hb <;> cases hb
end
end
section
attribute [local irreducible] wpL
def stepsTo (P:Pg) (M:LM) (l:List Int):LM:=l.foldl (stepTo P) M
theorem stepsTo_snoc (P:Pg) (M:LM) (l:List Int) (i:Int):stepsTo P M (l++[i])=stepTo P (stepsTo P M l) i:=by simp[stepsTo]
theorem stepsTo_app (P:Pg) (M:LM) (l l2:List Int):stepsTo P M (l++l2)=stepsTo P (stepsTo P M l) l2:=by simp[stepsTo]
def roundOf (P:Pg) (M:LM):LM:=stepsTo P M (upI P.threads.length)
structure Goes (P:Pg) (Inv:LM→Prop) (mu:LM→Nat):Prop where
 step:∀(M:LM) (i:Int),Inv M→Inv (stepTo P M i)
 can:∀M,Inv M→CanStep P M
 less:∀M,Inv M→allDone P M.W=false→mu (roundOf P M) < mu M
theorem Goes.steps {P:Pg} {Inv:LM→Prop} {mu:LM→Nat} (h:Goes P Inv mu):∀(l:List Int) (M:LM),Inv M→Inv (stepsTo P M l)
 |[],M,hM=>hM
 |i::l,M,hM=>h.steps l _ (h.step M i hM)
def RunOf (P:Pg) (M:LM) (l:List Int) (full:Bool) (M':LM):Prop:=if full=true then ∃l2,M'=stepsTo P M (l++l2)∧allDone P M'.W=true else M'=stepsTo P M l
def RunPost (B:Nat) (P:Pg) (M:LM) (l:List Int) (full:Bool) (w:World) (e:Ending) (w':World):Prop:=
 ∃M' ov vv,e=.returned (.tuple #[.agg #[ov,vv],.nilIface])∧RunOf P M l full M'∧OwnF Ob.cells 96 2 w' B ov (obsOf P)∧OwnF Ev.cells 53 8 w' B vv M'.W.evs∧Below B w w'
section
variable {w w':World} {C:LC} {ve:Value} {P:Pg} {M:LM} {us:List (Value×Value)} {Inv:LM→Prop} {mu:LM→Nat}
theorem la_drive (h:LaAt w C ve us P M) (hG:Goes P Inv mu) (hI:Inv M) (sv:Value) (l:List Int) (hs:Sl w C.B 1 sv l.length (l.map (.int .i64))) (hl:l.length≤300) (full:Bool):
  Calls Tryz.prog 87 #[.iface 28 (.pointer (some ⟨C.bM,0,none⟩)),.int .i64 P.threads.length,sv,.bool full] w (RunPost C.B P M l full w):=by
 obtain⟨sa,sc,rfl,-⟩:=hs.ex
 have hn4:=h.ok.threads.2
 have hBw:=h.size
 have q1:decide ((l.length:Int) > 300)=false:=by simp;omega
 have b0:Below w.heap.size w (w.alloc (.cells #[.slice none 0 0,.slice none 0 0] 37)):=(Below.refl _ w).alloc (Nat.le_refl _) _
 have r0:=row_new w (.cells #[.slice none 0 0,.slice none 0 0] 37)
 have z0:(w.alloc (.cells #[.slice none 0 0,.slice none 0 0] 37)).heap.size=w.heap.size+1:=by simp
 have hX:=(h.below b0).frame (F':=fun k cs=>k=w.heap.size∧cs=#[.slice none 0 0,.slice none 0 0]) (by rintro k cs ⟨rfl,rfl⟩;exact r0)
 have hF:∃C':LC,C.B=C'.B∧C.bM=C'.bM∧C'.F=(fun k cs=>k=w.heap.size∧cs=#[.slice none 0 0,.slice none 0 0])∧LaAt (w.alloc (.cells #[.slice none 0 0,.slice none 0 0] 37)) C' ve us P M:=⟨{C with F:=fun k cs=>k=w.heap.size∧cs=#[.slice none 0 0,.slice none 0 0]},rfl,rfl,rfl,hX⟩
 have HS:=hid hs
 have BX:=hid (b0.mono hBw)
 clear hX h hs b0 r0 z0
 obtain⟨C',eB,eM,eF,hX⟩:=hF
 rw[eB] at HS BX hBw ⊢
 rw[eM]
 have HF:=hid eF
 have HX:=hid hX
 have HG:=hid hG
 have HI:=hid hI
 have hlC:P.threads.length < 1000:=by omega
 clear hG hI eB eM eF hX
 go_enter Tryz.func87,Tryz.ntmps87
 go_wp2_with fail
 have zX:w.heap.size≤(w.alloc (.cells #[.slice none 0 0,.slice none 0 0] 37)).heap.size:=by simp
 generalize w.alloc (.cells #[.slice none 0 0,.slice none 0 0] 37)=X at *
 go_loopw [20] (fun p wr=>∃(i:Nat),i≤l.length∧p=.int .i64 i∧Below C'.B w wr∧w.heap.size≤wr.heap.size∧∃ve us,LaAt wr C' ve us P (stepsTo P M (l.take i))) (fun p _=>l.length - (intOf p).toNat)
 case atStart=>exact⟨0,by omega,by go_num,BX.out,zX,ve,us,HX.out⟩
 case round=>
  obtain⟨i,hi,rfl,hB,hz,ve1,us1,hL⟩:=hrel
  have HB:=hid hB
  have HL:=hid hL
  clear hB hL BX zX HX
  have HIN:=hid (HG.out.steps (l.take i) M HI.out)
  by_cases hlt:i < l.length
  ·obtain ⟨b,off,c,rfl,hb,hc,hcc⟩:=(HS.out.below (w:=w) (w':=wr) HB.out:Sl wr C'.B 1 (.slice sa l.length sc) l.length (l.map (.int .i64))).intAt hlt
   have hbz:b < wr.heap.size:=by have:=HL.out.size;omega
   have HC:=hid hc
   clear hc
   go_wp2_with fail
   refine(la_step HL.out (HG.out.can _ HIN.out) c).mono ?_
   rintro e w1 ⟨rfl,hb1,ve2,us2,hl2⟩
   have HB1:=hid (HB.out.trans hb1)
   have HL1:=hid hl2
   have hz1:=hb1.size
   clear hb1 hl2 hcc
   go_wp2_with fail
   go_roundw
   case rel=>exact⟨i+1,by omega,by go_num,HB1.out,by omega,ve2,us2,by rw[take_step HC.out,stepsTo_snoc];exact HL1.out⟩
   case measure=>simp[intOf];omega
  ·obtain rfl:i=l.length:=by omega
   rw[List.take_length] at HL HIN
   clear HS
   obtain⟨w5,rfl⟩:∃w5,w5=wr:=⟨_,rfl⟩
   go_wp2_with fail
   go_loopg [33] (mu (stepsTo P M l)) (fun k _ wr=>∃l2 ve us,(full=false→l2=[])∧mu (stepsTo P M (l++l2))≤k∧Below C'.B w wr∧w.heap.size≤wr.heap.size∧LaAt wr C' ve us P (stepsTo P M (l++l2)))
   case atStart=>exact⟨[],ve1,us1,fun _=>rfl,by rw[List.append_nil];exact Nat.le_refl _,HB.out,hz,by rw[List.append_nil];exact HL.out⟩
   case round=>
    obtain⟨l2,ve3,us3,hfl,hk,hb,hz3,hl3⟩:=hrel
    clear HB HL HIN
    have HB:=hid hb
    have HL:=hid hl3
    have HK:=hid hk
    have HFL:=hid hfl
    have HIN:=hid (HG.out.steps (l++l2) M HI.out)
    clear hb hl3 hk hfl
    cases full with
    |false=>
     obtain rfl:=HFL.out rfl
     go_wp2_with fail
     refine(la_history HL.out (HG.out.can _ HIN.out).evs).mono ?_
     rintro e w1 ⟨ov,vv,rfl,ho,hv,hb1⟩
     obtain⟨ao,co,rfl,-⟩:=ho.form2
     obtain⟨ae,ce,rfl,-⟩:=hv.form2
     have r0:=HL.out.fr w.heap.size #[.slice none 0 0,.slice none 0 0] (by rw[HF.out];exact⟨rfl,rfl⟩)
     have r1:=row_below r0 hb1 (row_lt r0)
     have y0:=row_cell r1 0
     have y1:=row_cell r1 1
     have yf:∀j,w1.frozen? ⟨w.heap.size,j,none⟩=false:=fun j=>row_free r1 j
     have l1:=row_lt r1
     have hBr:=HL.out.size
     have HB1:=hid (HB.out.trans (hb1.mono hBr))
     have HO:=hid (OwnF.base ho hBr)
     have HV:=hid (OwnF.base hv hBr)
     have R1:=hid r1
     have HRO:=hid (show RunOf P M l false (stepsTo P M (l++[])) from by rw[List.append_nil];rfl)
     clear ho hv hb1 r0 r1 HL HB HIN HG
     obtain⟨eo,heo⟩:∃eo,eo=obsOf P:=⟨_,rfl⟩
     obtain⟨ee,hee⟩:∃ee,ee=(stepsTo P M (l++[])).W.evs:=⟨_,rfl⟩
     rw[←heo] at HO ⊢
     rw[←hee] at HV ⊢
     have HE:=hid (And.intro heo hee)
     clear heo hee
     go_wp2
     have r4:=row2 (u1:=.slice ao eo.length co) (u2:=.slice ae ee.length ce) R1.out
     have c0:=row_cell r4 0
     have c1:=row_cell r4 1
     simp only[List.getElem?_toArray,List.getElem?_cons_zero,List.getElem?_cons_succ] at c0 c1
     refine bodyPost_ret (v:=.tuple #[.agg #[.slice ao eo.length co,.slice ae ee.length ce],.nilIface]) (by simp[results,Tryz.results87,go_sem,c0,c1]) rfl ⟨_,_,_,rfl,HRO.out,?_,?_,?_⟩
     ·rw [←HE.out.1];exact OwnF.box2 HO.out R1.out (by decide)
     ·rw [←HE.out.2];exact OwnF.box2 HV.out R1.out (by decide)
     ·exact (HB1.out.setCell (p:=⟨w.heap.size,0,none⟩) hBw _).setCell (p:=⟨w.heap.size,1,none⟩) hBw _
    |true=>
     go_wp2_with fail
     refine(la_done HL.out).mono ?_
     rintro e w6 ⟨rfl,hb6⟩
     have hBr:=HL.out.size
     have HL6:=hid (HL.out.below hb6)
     have HB6:=hid (HB.out.trans (hb6.mono hBr))
     have hz6:=hb6.size
     clear HL HB hb6
     cases hd:allDone P (stepsTo P M (l++l2)).W with
     |true=>
      have HL:=hid HL6.out
      have HB:=hid HB6.out
      have HD:=hid hd
      clear HL6 HB6 hd
      go_wp2_with fail
      refine(la_history HL.out (HG.out.can _ HIN.out).evs).mono ?_
      rintro e w1 ⟨ov,vv,rfl,ho,hv,hb1⟩
      obtain⟨ao,co,rfl,-⟩:=ho.form2
      obtain⟨ae,ce,rfl,-⟩:=hv.form2
      have r0:=HL.out.fr w.heap.size #[.slice none 0 0,.slice none 0 0] (by rw[HF.out];exact⟨rfl,rfl⟩)
      have r1:=row_below r0 hb1 (row_lt r0)
      have y0:=row_cell r1 0
      have y1:=row_cell r1 1
      have yf:∀j,w1.frozen? ⟨w.heap.size,j,none⟩=false:=fun j=>row_free r1 j
      have l1:=row_lt r1
      have hBr:=HL.out.size
      have HB1:=hid (HB.out.trans (hb1.mono hBr))
      have HO:=hid (OwnF.base ho hBr)
      have HV:=hid (OwnF.base hv hBr)
      have R1:=hid r1
      have HRO:=hid (show RunOf P M l true (stepsTo P M (l++l2)) from⟨l2,rfl,HD.out⟩)
      clear ho hv hb1 r0 r1 HL HB HIN HG
      obtain⟨eo,heo⟩:∃eo,eo=obsOf P:=⟨_,rfl⟩
      obtain⟨ee,hee⟩:∃ee,ee=(stepsTo P M (l++l2)).W.evs:=⟨_,rfl⟩
      rw[←heo] at HO ⊢
      rw[←hee] at HV ⊢
      have HE:=hid (And.intro heo hee)
      clear heo hee
      go_wp2
      have r4:=row2 (u1:=.slice ao eo.length co) (u2:=.slice ae ee.length ce) R1.out
      have c0:=row_cell r4 0
      have c1:=row_cell r4 1
      simp only[List.getElem?_toArray,List.getElem?_cons_zero,List.getElem?_cons_succ] at c0 c1
      refine bodyPost_ret (v:=.tuple #[.agg #[.slice ao eo.length co,.slice ae ee.length ce],.nilIface]) (by simp[results,Tryz.results87,go_sem,c0,c1]) rfl ⟨_,_,_,rfl,HRO.out,?_,?_,?_⟩
      ·rw [←HE.out.1];exact OwnF.box2 HO.out R1.out (by decide)
      ·rw [←HE.out.2];exact OwnF.box2 HV.out R1.out (by decide)
      ·exact (HB1.out.setCell (p:=⟨w.heap.size,0,none⟩) hBw _).setCell (p:=⟨w.heap.size,1,none⟩) hBw _
     |false=>
      have HD:=hid hd
      clear hd
      go_wp2_with fail
      obtain⟨w7,rfl⟩:∃w7,w7=w6:=⟨_,rfl⟩
      go_loopw [35] (fun p wr=>∃(i:Nat),i≤P.threads.length∧p=.int .i64 i∧Below C'.B w wr∧w.heap.size≤wr.heap.size∧∃ve us,LaAt wr C' ve us P (stepsTo P M (l++l2++upI i))) (fun p _=>P.threads.length - (intOf p).toNat)
      case atStart=>exact⟨0,by omega,by go_num,HB6.out,by omega,ve3,us3,by rw[show upI 0=[] from rfl,List.append_nil];exact HL6.out⟩
      case round=>
       obtain⟨i,hi,rfl,hb,hz,ve4,us4,hl4⟩:=hrel
       have HB:=hid hb
       have HL:=hid hl4
       clear hb hl4 HL6 HB6 HIN
       have HIN:=hid (HG.out.steps (l++l2++upI i) M HI.out)
       by_cases hlt:i < P.threads.length
       ·go_wp2_with fail
        refine(la_step HL.out (HG.out.can _ HIN.out) i).mono ?_
        rintro e w1 ⟨rfl,hb1,ve2,us2,hl2⟩
        have HB1:=hid (HB.out.trans hb1)
        have HL1:=hid hl2
        have hz1:=hb1.size
        clear hb1 hl2
        go_wp2_with fail
        go_roundw
        case rel=>exact⟨i+1,by omega,by go_num,HB1.out,by omega,ve2,us2,by rw[upI_succ,←List.append_assoc,stepsTo_snoc];exact HL1.out⟩
        case measure=>simp[intOf];omega
       ·obtain rfl:i=P.threads.length:=by omega
        go_wp2_with fail
        have hless:mu (stepsTo P M (l++(l2++upI P.threads.length))) < mu (stepsTo P M (l++l2)):=by
         have:=HG.out.less _ (HG.out.steps (l++l2) M HI.out) HD.out
         rw[←List.append_assoc,stepsTo_app]
         exact this
        go_roundg (mu (stepsTo P M (l++(l2++upI P.threads.length))))
        case measure=>have:=HK.out;omega
        case rel=>exact⟨l2++upI P.threads.length,ve4,us4,(fun h=>by cases h),Nat.le_refl _,HB.out,hz,by rw[←List.append_assoc];exact HL.out⟩
end
end
