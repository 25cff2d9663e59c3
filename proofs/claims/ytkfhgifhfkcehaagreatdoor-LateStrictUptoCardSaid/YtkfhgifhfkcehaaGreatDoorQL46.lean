/- Parts of the proof, merged by program out of 1 texts (EoG): the first: The engine late: a step. Conditions: those of each theorem, as typed. -/
import Derived.Test.YtkfhgifhfkcehaaGreatDoorQL45
set_option linter.unusedVariables false
set_option linter.unusedSimpArgs false
set_option linter.unusedSectionVars false
set_option maxRecDepth 100000
set_option maxHeartbeats 4000000
namespace Go.Proofs.YtkfhgifhfkcehaaGreatDoor
open Go.Maps Go.RowKit
section
attribute [local irreducible] wpL
section
variable {w w':World} {C:LC} {ve:Value} {P:Pg} {M:LM} {us:List (Value×Value)}
theorem NxAt.form {i:Nat} {v:Value} {x:Nx} (h:NxAt w C i ve v x):v=.nilFunc∨∃f a c,v=.func f a c:=by
 cases x with
 |none=>exact .inl h
 |ends b=>
  cases b
  ·obtain ⟨_,_,rfl,-⟩:=h;exact .inr ⟨_,_,_,rfl⟩
  ·obtain ⟨_,_,rfl,-⟩:=h;exact .inr ⟨_,_,_,rfl⟩
 |look=>obtain⟨_,_,rfl,-⟩:=h;exact .inr ⟨_,_,_,rfl⟩
 |ans e=>obtain⟨_,_,_,rfl,-⟩:=h;exact .inr ⟨_,_,_,rfl⟩
theorem LaAt.drRow (h:LaAt w C ve us P M):w.heap[C.bD]?=some (.cells #[C.pc,C.pt,.pointer (some ⟨C.bW,0,none⟩),.slice (some ⟨C.gN,0,none⟩) P.threads.length P.threads.length,C.rf] 129 (0,0)):=let ⟨_,h1,_⟩:=h.dr;h1.row
theorem LaAt.nxRow (h:LaAt w C ve us P M):∃cs,w.heap[C.gN]?=some (.cells cs 131 (0,0)):=by
 obtain⟨_,h1,_⟩:=h.dr
 exact h1.next.keepObj C.gN rfl
theorem LaAt.nxB (h:LaAt w C ve us P M):C.B≤C.gN:=by
 obtain⟨_,h1,_⟩:=h.dr
 exact(h1.next.lt C.gN rfl).1
theorem LaAt.nxCell (h:LaAt w C ve us P M) {i:Nat} (hi:i < P.threads.length):∃v,w.cell? ⟨C.gN,i,none⟩=some v:=by
 obtain⟨vs,h1,_⟩:=h.dr
 obtain⟨g,u,hg,-,-,hu⟩:=h1.next.at1 h1.next.len hi
 simp only[Option.some.injEq,Addr.mk.injEq,and_true] at hg
 subst hg
 exact⟨u,hu⟩
theorem LaAt.nxAt (h:LaAt w C ve us P M) {i:Nat} (hi:i < P.threads.length):∃v x,w.cell? ⟨C.gN,i,none⟩=some v∧M.nx[i]?=some x∧NxAt w C i ve v x:=by
 obtain⟨vs,h1,h2,h3⟩:=h.dr
 obtain⟨g,u,hg,-,hv,hu⟩:=h1.next.at1 h1.next.len hi
 simp only[Option.some.injEq,Addr.mk.injEq,and_true] at hg
 subst hg
 obtain⟨x,hx⟩:∃x,M.nx[i]?=some x:=⟨_,List.getElem?_eq_getElem (by omega)⟩
 exact⟨u,x,hu,hx,h3 i u x hv hx⟩
def Ms (t:TypeId):Prop:=t=131
theorem DrAt.setNext {B bD bW gT gN:Nat} {vc vt pc pt rf:Value} {S:Wst} {nx:List Value} (h:DrAt w B bD bW gT gN vc vt ve pc pt rf P S nx) (i:Nat) (v:Value):DrAt (w.setCell ⟨gN,i,none⟩ v) B bD bW gT gN vc vt ve pc pt rf P S (nx.set i v):=by
 obtain⟨cs,hr⟩:=h.next.keepObj gN rfl
 have hk:Kd Ms w (w.setCell ⟨gN,i,none⟩ v):=Kd.set (T:=Ms) hr rfl v
 exact⟨hk _ _ _ _ h.row (by unfold Ms;decide),h.hB,⟨hk _ _ _ _ h.walk.row (by unfold Ms;decide),h.walk.hB,OwnF.kd h.walk.cells hk (by unfold Ms;decide),h.walk.thr.kd hk (by unfold Ms;decide) (by unfold Ms;decide) (by unfold Ms;decide),OwnF.kd h.walk.ths hk (by unfold Ms;decide),OwnF.kd h.walk.evs hk (by unfold Ms;decide),h.walk.ok,h.walk.tok⟩,OwnF.kd h.pcells hk (by unfold Ms;decide),h.pthr.kd hk (by unfold Ms;decide) (by unfold Ms;decide) (by unfold Ms;decide),own_set1 h.next v i⟩
theorem LaAt.nxSet (h:LaAt w C ve us P M) {i:Nat} (hi:i < P.threads.length) {v:Value} {x:Nx} (hx:NxAt w C i ve v x):LaAt (w.setCell ⟨C.gN,i,none⟩ v) C ve us P {M with nx:=M.nx.set i x}:=by
 obtain⟨cs,hr⟩:=h.nxRow
 obtain⟨vs,h1,h2,h3⟩:=h.dr
 have hk:Kd Ms w (w.setCell ⟨C.gN,i,none⟩ v):=Kd.set (T:=Ms) hr rfl v
 have kp:∀{j:Nat} {u:Value} {z:Nx},NxAt w C j ve u z→NxAt (w.setCell ⟨C.gN,i,none⟩ v) C j ve u z:=fun hn=>NxAt.keep hn (fun p u hp=>hk _ _ _ _ hp (by unfold Ms;decide)) (fun p u hp=>hk _ _ _ _ hp (by unfold Ms;decide)) fun p cs hp he=>⟨hk _ _ _ _ hp (by unfold Ms;decide),he⟩
 refine⟨hk _ _ _ _ h.row (by unfold Ms;decide),h.hB,⟨vs.set i v,h1.setNext i v,by rw[List.length_set];exact h2,fun j u z hu hz=>?_⟩,OwnF.kd h.cells hk (by unfold Ms;decide),h.clen,h.wks.keep (OwnF.kd h.wks.own hk (by unfold Ms;decide)) (KmAll.set hr v),fun k cs hf=>hk _ _ _ _ (h.fr k cs hf) (by unfold Ms;decide)⟩
 by_cases e:i=j
 ·subst e
  rw[List.getElem?_set_self (by have:=(List.getElem?_eq_some_iff.1 hu).1;simpa using this)] at hu
  rw[List.getElem?_set_self (by have:=(List.getElem?_eq_some_iff.1 hz).1;simpa using this)] at hz
  obtain rfl:=Option.some.inj hu
  obtain rfl:=Option.some.inj hz
  exact kp hx
 ·rw [List.getElem?_set_ne e] at hu hz
  exact kp (h3 j u z hu hz)
def StepMidE1 (C:LC) (P:Pg) (w:World) (i:Nat) (p1 p2:Nat) (y:LM×Nx):Exit→Act→World→Prop:=fun e a' X=>
 ∃(v:Value),e=.normal∧a'={tmps:=#[.pointer (some ⟨C.bD,0,none⟩),.int .i64 i,undef,undef,.bool false,.func (.func 178) #[] #[.pointer (some ⟨p1,0,none⟩),.pointer (some ⟨p2,0,none⟩)],.pointer (some ⟨C.bD,0,none⟩),.pointer (some ⟨C.bD,0,none⟩),.pointer (some ⟨C.bD,2,none⟩),.pointer (some ⟨C.bW,0,none⟩),.int .i64 i,.bool false,.pointer (some ⟨C.bD,0,none⟩),.pointer (some ⟨C.bD,0,none⟩),.pointer (some ⟨C.bD,3,none⟩),.slice (some ⟨C.gN,0,none⟩) P.threads.length P.threads.length,.int .i64 i,.pointer (some ⟨C.gN,i,none⟩),.func (.func 178) #[] #[.pointer (some ⟨p1,0,none⟩),.pointer (some ⟨p2,0,none⟩)],.func (.func 178) #[] #[.pointer (some ⟨p1,0,none⟩),.pointer (some ⟨p2,0,none⟩)],.bool false,undef,undef,undef,.pointer (some ⟨C.bD,0,none⟩),.pointer (some ⟨C.bD,0,none⟩),.pointer (some ⟨C.bD,3,none⟩),.slice (some ⟨C.gN,0,none⟩) P.threads.length P.threads.length,.int .i64 i,.func (.func 178) #[] #[.pointer (some ⟨p1,0,none⟩),.pointer (some ⟨p2,0,none⟩)],v,.pointer (some ⟨C.gN,i,none⟩)],defers:=[]}∧Below C.B w X∧∃ve' us',LaAt X C ve' us' P {y.1 with nx:=y.1.nx.set i y.2}
theorem d_stepE1 (h:LaAt w C ve us P M) (i:Nat) (hi:i < P.threads.length) (hd:wDone P M.W i=false) {p1 p2:Nat} (hv:w.cell? ⟨C.gN,i,none⟩=some (.func (.func 178) #[] #[.pointer (some ⟨p1,0,none⟩),.pointer (some ⟨p2,0,none⟩)])) {y:LM×Nx}
  (hc:∀w',Below w.heap.size w w'→Calls Tryz.prog 178 #[.pointer (some ⟨p1,0,none⟩),.pointer (some ⟨p2,0,none⟩)] w' (LaNext C P i y w')):
  Calls Tryz.prog 36 #[.pointer (some ⟨C.bD,0,none⟩),.int .i64 i] w (LaPost C P {y.1 with nx:=y.1.nx.set i y.2} (.bool true) w):=by
 have hn4:=h.ok.threads.2
 have hdr:=h.drRow
 have d2:=row_cell hdr 2
 have d3:=row_cell hdr 3
 have lD:=row_lt hdr
 obtain⟨csN,rN⟩:=h.nxRow
 have lN:=row_lt rN
 obtain⟨vs,hdr2,-,-⟩:=h.dr
 have hwd:=hid (wk_done hdr2.walk i)
 have H:=hid h
 have HC:=hid (hc w.drew.drew ((Below.refl w.heap.size w).drew.drew))
 have HCA:=hid hc
 have qn:Sem.run Tryz.prog (binOp BinOp.eql 131 (.func (.func 178) #[] #[.pointer (some ⟨p1,0,none⟩),.pointer (some ⟨p2,0,none⟩)]) Value.nilFunc) w.drew=.ok (.bool false) w.drew:=by kernel_rfl
 have BW:=hid (Below.refl C.B w).drew
 rw[hd] at hwd
 clear h hc hdr hdr2 rN
 go_enter Tryz.func36,Tryz.ntmps36
 go_wp2_with fail
 refine(hwd.out).mono ?_
 rintro e w1 ⟨rfl,rfl⟩
 go_wp2_with fail
 refine wp_mono (Q:=StepMidE1 C P w i p1 p2 y) ?_ ?_
 ·
  refine wp_rN (w.heap.size) [0,0,0,1,0,0,2,0,2] (.frk [0,1,2,4,5] (.fin [3,6,7,8]) (.fin [6,3,7,8])) (by kernel_rfl) ?_
  simp only[wpT,selX,guardAt,sD,sE,sF,sG]
  repeat first|(refine wpL_p fun K hK=>?_;go_simp;refine hK _ _ ?_;clear hK K)|refine wpL_nil ?_
  refine⟨?_,?_⟩
  ·
   repeat (apply wpL_s;(intro w2 hw2;have hk1:=hw2.cell;have hk3:=hw2.1;clear hw2;go_simp;with_reducible rfl);simp only[Act.put,sA,sB,sC])
   refine wpL_e (fun K hK=>?_)
   go_simp
   refine(HC.out).mono ?_
   rintro e X1 ⟨v,ve',us',rfl,hb,hla,hx⟩
   refine hK _ _ ?_
   clear hK K
   have hb1:Below C.B w.drew X1:=(Below.refl C.B w.drew).drew.trans hb
   have f2:=hla.nxCell hi
   have f3:=hla.nxRow
   have f4:=row_lt hla.drRow
   have f5:=row_lt f3.choose_spec
   have f6:=row_free f3.choose_spec i
   have f7:X1.cell? ⟨C.bD,3,none⟩=some (.slice (some ⟨C.gN,0,none⟩) P.threads.length P.threads.length):=row_cell hla.drRow 3
   obtain⟨ov,f2⟩:=f2
   have HL1:=hid hla
   have HX1:=hid hx
   have HB1:=hid hb1
   clear hb hla hx f3 hb1
   rcases HX1.out.form with rfl|⟨fa,fb,fc,rfl⟩
   all_goals
    repeat (refine wpL_p fun K hK=>?_;go_simp;refine hK _ _ ?_;clear hK K)
    refine wpL_e (fun K hK=>?_)
    go_simp
    refine hK _ _ ?_
    clear hK K
    repeat refine wpL_nil ?_
    exact⟨_,rfl,rfl,(BW.out.trans HB1.out).setCell (p:=⟨C.gN,i,none⟩) HL1.out.nxB _,ve',us',HL1.out.nxSet hi HX1.out⟩
  ·
   refine wpL_e (fun K hK=>?_)
   go_simp
   refine(HC.out).mono ?_
   rintro e X1 ⟨v,ve',us',rfl,hb,hla,hx⟩
   refine hK _ _ ?_
   clear hK K
   have hb1:Below C.B w.drew X1:=(Below.refl C.B w.drew).drew.trans hb
   have f2:=hla.nxCell hi
   have f3:=hla.nxRow
   have f4:=row_lt hla.drRow
   have f5:=row_lt f3.choose_spec
   have f6:=row_free f3.choose_spec i
   have f7:X1.cell? ⟨C.bD,3,none⟩=some (.slice (some ⟨C.gN,0,none⟩) P.threads.length P.threads.length):=row_cell hla.drRow 3
   obtain⟨ov,f2⟩:=f2
   have HL1:=hid hla
   have HX1:=hid hx
   have HB1:=hid hb1
   clear hb hla hx f3 hb1
   rcases HX1.out.form with rfl|⟨fa,fb,fc,rfl⟩
   all_goals
    repeat first|(refine wpL_p fun K hK=>?_;go_simp;refine hK _ _ ?_;clear hK K)|(apply wpL_s;(intro w2 hw2;have hk1:=hw2.cell;have hk3:=hw2.1;clear hw2;go_simp;with_reducible rfl);simp only[Act.put,sA,sB,sC])
    refine wpL_e (fun K hK=>?_)
    go_simp
    refine hK _ _ ?_
    clear hK K
    repeat refine wpL_nil ?_
    exact⟨_,rfl,rfl,(BW.out.trans HB1.out).setCell (p:=⟨C.gN,i,none⟩) HL1.out.nxB _,ve',us',HL1.out.nxSet hi HX1.out⟩
 ·rintro e a' X ⟨v,rfl,rfl,hb,ve',us',hla⟩
  have HB:=hid hb
  have HL:=hid hla
  clear hb hla HC
  go_wp2
  go_ret
  exact⟨rfl,HB.out,ve',us',HL.out⟩
def StepMidE2 (C:LC) (P:Pg) (w:World) (i:Nat) (p1 p2:Nat) (y:LM×Nx):Exit→Act→World→Prop:=fun e a' X=>
 ∃(v:Value),e=.normal∧a'={tmps:=#[.pointer (some ⟨C.bD,0,none⟩),.int .i64 i,undef,undef,.bool false,.func (.func 229) #[] #[.pointer (some ⟨p1,0,none⟩),.pointer (some ⟨p2,0,none⟩)],.pointer (some ⟨C.bD,0,none⟩),.pointer (some ⟨C.bD,0,none⟩),.pointer (some ⟨C.bD,2,none⟩),.pointer (some ⟨C.bW,0,none⟩),.int .i64 i,.bool false,.pointer (some ⟨C.bD,0,none⟩),.pointer (some ⟨C.bD,0,none⟩),.pointer (some ⟨C.bD,3,none⟩),.slice (some ⟨C.gN,0,none⟩) P.threads.length P.threads.length,.int .i64 i,.pointer (some ⟨C.gN,i,none⟩),.func (.func 229) #[] #[.pointer (some ⟨p1,0,none⟩),.pointer (some ⟨p2,0,none⟩)],.func (.func 229) #[] #[.pointer (some ⟨p1,0,none⟩),.pointer (some ⟨p2,0,none⟩)],.bool false,undef,undef,undef,.pointer (some ⟨C.bD,0,none⟩),.pointer (some ⟨C.bD,0,none⟩),.pointer (some ⟨C.bD,3,none⟩),.slice (some ⟨C.gN,0,none⟩) P.threads.length P.threads.length,.int .i64 i,.func (.func 229) #[] #[.pointer (some ⟨p1,0,none⟩),.pointer (some ⟨p2,0,none⟩)],v,.pointer (some ⟨C.gN,i,none⟩)],defers:=[]}∧Below C.B w X∧∃ve' us',LaAt X C ve' us' P {y.1 with nx:=y.1.nx.set i y.2}
theorem d_stepE2 (h:LaAt w C ve us P M) (i:Nat) (hi:i < P.threads.length) (hd:wDone P M.W i=false) {p1 p2:Nat} (hv:w.cell? ⟨C.gN,i,none⟩=some (.func (.func 229) #[] #[.pointer (some ⟨p1,0,none⟩),.pointer (some ⟨p2,0,none⟩)])) {y:LM×Nx}
  (hc:∀w',Below w.heap.size w w'→Calls Tryz.prog 229 #[.pointer (some ⟨p1,0,none⟩),.pointer (some ⟨p2,0,none⟩)] w' (LaNext C P i y w')):
  Calls Tryz.prog 36 #[.pointer (some ⟨C.bD,0,none⟩),.int .i64 i] w (LaPost C P {y.1 with nx:=y.1.nx.set i y.2} (.bool true) w):=by
 have hn4:=h.ok.threads.2
 have hdr:=h.drRow
 have d2:=row_cell hdr 2
 have d3:=row_cell hdr 3
 have lD:=row_lt hdr
 obtain⟨csN,rN⟩:=h.nxRow
 have lN:=row_lt rN
 obtain⟨vs,hdr2,-,-⟩:=h.dr
 have hwd:=hid (wk_done hdr2.walk i)
 have H:=hid h
 have HC:=hid (hc w.drew.drew ((Below.refl w.heap.size w).drew.drew))
 have HCA:=hid hc
 have qn:Sem.run Tryz.prog (binOp BinOp.eql 131 (.func (.func 229) #[] #[.pointer (some ⟨p1,0,none⟩),.pointer (some ⟨p2,0,none⟩)]) Value.nilFunc) w.drew=.ok (.bool false) w.drew:=by kernel_rfl
 have BW:=hid (Below.refl C.B w).drew
 rw[hd] at hwd
 clear h hc hdr hdr2 rN
 go_enter Tryz.func36,Tryz.ntmps36
 go_wp2_with fail
 refine(hwd.out).mono ?_
 rintro e w1 ⟨rfl,rfl⟩
 go_wp2_with fail
 refine wp_mono (Q:=StepMidE2 C P w i p1 p2 y) ?_ ?_
 ·
  refine wp_rN (w.heap.size) [0,0,0,1,0,0,2,0,2] (.frk [0,1,2,4,5] (.fin [3,6,7,8]) (.fin [6,3,7,8])) (by kernel_rfl) ?_
  simp only[wpT,selX,guardAt,sD,sE,sF,sG]
  repeat first|(refine wpL_p fun K hK=>?_;go_simp;refine hK _ _ ?_;clear hK K)|refine wpL_nil ?_
  refine⟨?_,?_⟩
  ·
   repeat (apply wpL_s;(intro w2 hw2;have hk1:=hw2.cell;have hk3:=hw2.1;clear hw2;go_simp;with_reducible rfl);simp only[Act.put,sA,sB,sC])
   refine wpL_e (fun K hK=>?_)
   go_simp
   refine(HC.out).mono ?_
   rintro e X1 ⟨v,ve',us',rfl,hb,hla,hx⟩
   refine hK _ _ ?_
   clear hK K
   have hb1:Below C.B w.drew X1:=(Below.refl C.B w.drew).drew.trans hb
   have f2:=hla.nxCell hi
   have f3:=hla.nxRow
   have f4:=row_lt hla.drRow
   have f5:=row_lt f3.choose_spec
   have f6:=row_free f3.choose_spec i
   have f7:X1.cell? ⟨C.bD,3,none⟩=some (.slice (some ⟨C.gN,0,none⟩) P.threads.length P.threads.length):=row_cell hla.drRow 3
   obtain⟨ov,f2⟩:=f2
   have HL1:=hid hla
   have HX1:=hid hx
   have HB1:=hid hb1
   clear hb hla hx f3 hb1
   rcases HX1.out.form with rfl|⟨fa,fb,fc,rfl⟩
   all_goals
    repeat (refine wpL_p fun K hK=>?_;go_simp;refine hK _ _ ?_;clear hK K)
    refine wpL_e (fun K hK=>?_)
    go_simp
    refine hK _ _ ?_
    clear hK K
    repeat refine wpL_nil ?_
    exact⟨_,rfl,rfl,(BW.out.trans HB1.out).setCell (p:=⟨C.gN,i,none⟩) HL1.out.nxB _,ve',us',HL1.out.nxSet hi HX1.out⟩
  ·
   refine wpL_e (fun K hK=>?_)
   go_simp
   refine(HC.out).mono ?_
   rintro e X1 ⟨v,ve',us',rfl,hb,hla,hx⟩
   refine hK _ _ ?_
   clear hK K
   have hb1:Below C.B w.drew X1:=(Below.refl C.B w.drew).drew.trans hb
   have f2:=hla.nxCell hi
   have f3:=hla.nxRow
   have f4:=row_lt hla.drRow
   have f5:=row_lt f3.choose_spec
   have f6:=row_free f3.choose_spec i
   have f7:X1.cell? ⟨C.bD,3,none⟩=some (.slice (some ⟨C.gN,0,none⟩) P.threads.length P.threads.length):=row_cell hla.drRow 3
   obtain⟨ov,f2⟩:=f2
   have HL1:=hid hla
   have HX1:=hid hx
   have HB1:=hid hb1
   clear hb hla hx f3 hb1
   rcases HX1.out.form with rfl|⟨fa,fb,fc,rfl⟩
   all_goals
    repeat first|(refine wpL_p fun K hK=>?_;go_simp;refine hK _ _ ?_;clear hK K)|(apply wpL_s;(intro w2 hw2;have hk1:=hw2.cell;have hk3:=hw2.1;clear hw2;go_simp;with_reducible rfl);simp only[Act.put,sA,sB,sC])
    refine wpL_e (fun K hK=>?_)
    go_simp
    refine hK _ _ ?_
    clear hK K
    repeat refine wpL_nil ?_
    exact⟨_,rfl,rfl,(BW.out.trans HB1.out).setCell (p:=⟨C.gN,i,none⟩) HL1.out.nxB _,ve',us',HL1.out.nxSet hi HX1.out⟩
 ·rintro e a' X ⟨v,rfl,rfl,hb,ve',us',hla⟩
  have HB:=hid hb
  have HL:=hid hla
  clear hb hla HC
  go_wp2
  go_ret
  exact⟨rfl,HB.out,ve',us',HL.out⟩
def StepMidLK (C:LC) (P:Pg) (w:World) (i:Nat) (p1 p2:Nat) (y:LM×Nx):Exit→Act→World→Prop:=fun e a' X=>
 ∃(v:Value),e=.normal∧a'={tmps:=#[.pointer (some ⟨C.bD,0,none⟩),.int .i64 i,undef,undef,.bool false,.func (.func 180) #[] #[.pointer (some ⟨p1,0,none⟩),.pointer (some ⟨p2,0,none⟩)],.pointer (some ⟨C.bD,0,none⟩),.pointer (some ⟨C.bD,0,none⟩),.pointer (some ⟨C.bD,2,none⟩),.pointer (some ⟨C.bW,0,none⟩),.int .i64 i,.bool false,.pointer (some ⟨C.bD,0,none⟩),.pointer (some ⟨C.bD,0,none⟩),.pointer (some ⟨C.bD,3,none⟩),.slice (some ⟨C.gN,0,none⟩) P.threads.length P.threads.length,.int .i64 i,.pointer (some ⟨C.gN,i,none⟩),.func (.func 180) #[] #[.pointer (some ⟨p1,0,none⟩),.pointer (some ⟨p2,0,none⟩)],.func (.func 180) #[] #[.pointer (some ⟨p1,0,none⟩),.pointer (some ⟨p2,0,none⟩)],.bool false,undef,undef,undef,.pointer (some ⟨C.bD,0,none⟩),.pointer (some ⟨C.bD,0,none⟩),.pointer (some ⟨C.bD,3,none⟩),.slice (some ⟨C.gN,0,none⟩) P.threads.length P.threads.length,.int .i64 i,.func (.func 180) #[] #[.pointer (some ⟨p1,0,none⟩),.pointer (some ⟨p2,0,none⟩)],v,.pointer (some ⟨C.gN,i,none⟩)],defers:=[]}∧Below C.B w X∧∃ve' us',LaAt X C ve' us' P {y.1 with nx:=y.1.nx.set i y.2}
theorem d_stepLK (h:LaAt w C ve us P M) (i:Nat) (hi:i < P.threads.length) (hd:wDone P M.W i=false) {p1 p2:Nat} (hv:w.cell? ⟨C.gN,i,none⟩=some (.func (.func 180) #[] #[.pointer (some ⟨p1,0,none⟩),.pointer (some ⟨p2,0,none⟩)])) {y:LM×Nx}
  (hc:∀w',Below w.heap.size w w'→Calls Tryz.prog 180 #[.pointer (some ⟨p1,0,none⟩),.pointer (some ⟨p2,0,none⟩)] w' (LaNext C P i y w')):
  Calls Tryz.prog 36 #[.pointer (some ⟨C.bD,0,none⟩),.int .i64 i] w (LaPost C P {y.1 with nx:=y.1.nx.set i y.2} (.bool true) w):=by
 have hn4:=h.ok.threads.2
 have hdr:=h.drRow
 have d2:=row_cell hdr 2
 have d3:=row_cell hdr 3
 have lD:=row_lt hdr
 obtain⟨csN,rN⟩:=h.nxRow
 have lN:=row_lt rN
 obtain⟨vs,hdr2,-,-⟩:=h.dr
 have hwd:=hid (wk_done hdr2.walk i)
 have H:=hid h
 have HC:=hid (hc w.drew.drew ((Below.refl w.heap.size w).drew.drew))
 have HCA:=hid hc
 have qn:Sem.run Tryz.prog (binOp BinOp.eql 131 (.func (.func 180) #[] #[.pointer (some ⟨p1,0,none⟩),.pointer (some ⟨p2,0,none⟩)]) Value.nilFunc) w.drew=.ok (.bool false) w.drew:=by kernel_rfl
 have BW:=hid (Below.refl C.B w).drew
 rw[hd] at hwd
 clear h hc hdr hdr2 rN
 go_enter Tryz.func36,Tryz.ntmps36
 go_wp2_with fail
 refine(hwd.out).mono ?_
 rintro e w1 ⟨rfl,rfl⟩
 go_wp2_with fail
 refine wp_mono (Q:=StepMidLK C P w i p1 p2 y) ?_ ?_
 ·
  refine wp_rN (w.heap.size) [0,0,0,1,0,0,2,0,2] (.frk [0,1,2,4,5] (.fin [3,6,7,8]) (.fin [6,3,7,8])) (by kernel_rfl) ?_
  simp only[wpT,selX,guardAt,sD,sE,sF,sG]
  repeat first|(refine wpL_p fun K hK=>?_;go_simp;refine hK _ _ ?_;clear hK K)|refine wpL_nil ?_
  refine⟨?_,?_⟩
  ·
   repeat (apply wpL_s;(intro w2 hw2;have hk1:=hw2.cell;have hk3:=hw2.1;clear hw2;go_simp;with_reducible rfl);simp only[Act.put,sA,sB,sC])
   refine wpL_e (fun K hK=>?_)
   go_simp
   refine(HC.out).mono ?_
   rintro e X1 ⟨v,ve',us',rfl,hb,hla,hx⟩
   refine hK _ _ ?_
   clear hK K
   have hb1:Below C.B w.drew X1:=(Below.refl C.B w.drew).drew.trans hb
   have f2:=hla.nxCell hi
   have f3:=hla.nxRow
   have f4:=row_lt hla.drRow
   have f5:=row_lt f3.choose_spec
   have f6:=row_free f3.choose_spec i
   have f7:X1.cell? ⟨C.bD,3,none⟩=some (.slice (some ⟨C.gN,0,none⟩) P.threads.length P.threads.length):=row_cell hla.drRow 3
   obtain⟨ov,f2⟩:=f2
   have HL1:=hid hla
   have HX1:=hid hx
   have HB1:=hid hb1
   clear hb hla hx f3 hb1
   rcases HX1.out.form with rfl|⟨fa,fb,fc,rfl⟩
   all_goals
    repeat (refine wpL_p fun K hK=>?_;go_simp;refine hK _ _ ?_;clear hK K)
    refine wpL_e (fun K hK=>?_)
    go_simp
    refine hK _ _ ?_
    clear hK K
    repeat refine wpL_nil ?_
    exact⟨_,rfl,rfl,(BW.out.trans HB1.out).setCell (p:=⟨C.gN,i,none⟩) HL1.out.nxB _,ve',us',HL1.out.nxSet hi HX1.out⟩
  ·
   refine wpL_e (fun K hK=>?_)
   go_simp
   refine(HC.out).mono ?_
   rintro e X1 ⟨v,ve',us',rfl,hb,hla,hx⟩
   refine hK _ _ ?_
   clear hK K
   have hb1:Below C.B w.drew X1:=(Below.refl C.B w.drew).drew.trans hb
   have f2:=hla.nxCell hi
   have f3:=hla.nxRow
   have f4:=row_lt hla.drRow
   have f5:=row_lt f3.choose_spec
   have f6:=row_free f3.choose_spec i
   have f7:X1.cell? ⟨C.bD,3,none⟩=some (.slice (some ⟨C.gN,0,none⟩) P.threads.length P.threads.length):=row_cell hla.drRow 3
   obtain⟨ov,f2⟩:=f2
   have HL1:=hid hla
   have HX1:=hid hx
   have HB1:=hid hb1
   clear hb hla hx f3 hb1
   rcases HX1.out.form with rfl|⟨fa,fb,fc,rfl⟩
   all_goals
    repeat first|(refine wpL_p fun K hK=>?_;go_simp;refine hK _ _ ?_;clear hK K)|(apply wpL_s;(intro w2 hw2;have hk1:=hw2.cell;have hk3:=hw2.1;clear hw2;go_simp;with_reducible rfl);simp only[Act.put,sA,sB,sC])
    refine wpL_e (fun K hK=>?_)
    go_simp
    refine hK _ _ ?_
    clear hK K
    repeat refine wpL_nil ?_
    exact⟨_,rfl,rfl,(BW.out.trans HB1.out).setCell (p:=⟨C.gN,i,none⟩) HL1.out.nxB _,ve',us',HL1.out.nxSet hi HX1.out⟩
 ·rintro e a' X ⟨v,rfl,rfl,hb,ve',us',hla⟩
  have HB:=hid hb
  have HL:=hid hla
  clear hb hla HC
  go_wp2
  go_ret
  exact⟨rfl,HB.out,ve',us',HL.out⟩
def StepMidAN (C:LC) (P:Pg) (w:World) (i:Nat) (p1 p2 p3:Nat) (y:LM×Nx):Exit→Act→World→Prop:=fun e a' X=>
 ∃(v:Value),e=.normal∧a'={tmps:=#[.pointer (some ⟨C.bD,0,none⟩),.int .i64 i,undef,undef,.bool false,.func (.func 182) #[] #[.pointer (some ⟨p1,0,none⟩),.pointer (some ⟨p2,0,none⟩),.pointer (some ⟨p3,0,none⟩)],.pointer (some ⟨C.bD,0,none⟩),.pointer (some ⟨C.bD,0,none⟩),.pointer (some ⟨C.bD,2,none⟩),.pointer (some ⟨C.bW,0,none⟩),.int .i64 i,.bool false,.pointer (some ⟨C.bD,0,none⟩),.pointer (some ⟨C.bD,0,none⟩),.pointer (some ⟨C.bD,3,none⟩),.slice (some ⟨C.gN,0,none⟩) P.threads.length P.threads.length,.int .i64 i,.pointer (some ⟨C.gN,i,none⟩),.func (.func 182) #[] #[.pointer (some ⟨p1,0,none⟩),.pointer (some ⟨p2,0,none⟩),.pointer (some ⟨p3,0,none⟩)],.func (.func 182) #[] #[.pointer (some ⟨p1,0,none⟩),.pointer (some ⟨p2,0,none⟩),.pointer (some ⟨p3,0,none⟩)],.bool false,undef,undef,undef,.pointer (some ⟨C.bD,0,none⟩),.pointer (some ⟨C.bD,0,none⟩),.pointer (some ⟨C.bD,3,none⟩),.slice (some ⟨C.gN,0,none⟩) P.threads.length P.threads.length,.int .i64 i,.func (.func 182) #[] #[.pointer (some ⟨p1,0,none⟩),.pointer (some ⟨p2,0,none⟩),.pointer (some ⟨p3,0,none⟩)],v,.pointer (some ⟨C.gN,i,none⟩)],defers:=[]}∧Below C.B w X∧∃ve' us',LaAt X C ve' us' P {y.1 with nx:=y.1.nx.set i y.2}
theorem d_stepAN (h:LaAt w C ve us P M) (i:Nat) (hi:i < P.threads.length) (hd:wDone P M.W i=false) {p1 p2 p3:Nat} (hv:w.cell? ⟨C.gN,i,none⟩=some (.func (.func 182) #[] #[.pointer (some ⟨p1,0,none⟩),.pointer (some ⟨p2,0,none⟩),.pointer (some ⟨p3,0,none⟩)])) {y:LM×Nx}
  (hc:∀w',Below w.heap.size w w'→Calls Tryz.prog 182 #[.pointer (some ⟨p1,0,none⟩),.pointer (some ⟨p2,0,none⟩),.pointer (some ⟨p3,0,none⟩)] w' (LaNext C P i y w')):
  Calls Tryz.prog 36 #[.pointer (some ⟨C.bD,0,none⟩),.int .i64 i] w (LaPost C P {y.1 with nx:=y.1.nx.set i y.2} (.bool true) w):=by
 have hn4:=h.ok.threads.2
 have hdr:=h.drRow
 have d2:=row_cell hdr 2
 have d3:=row_cell hdr 3
 have lD:=row_lt hdr
 obtain⟨csN,rN⟩:=h.nxRow
 have lN:=row_lt rN
 obtain⟨vs,hdr2,-,-⟩:=h.dr
 have hwd:=hid (wk_done hdr2.walk i)
 have H:=hid h
 have HC:=hid (hc w.drew.drew ((Below.refl w.heap.size w).drew.drew))
 have HCA:=hid hc
 have qn:Sem.run Tryz.prog (binOp BinOp.eql 131 (.func (.func 182) #[] #[.pointer (some ⟨p1,0,none⟩),.pointer (some ⟨p2,0,none⟩),.pointer (some ⟨p3,0,none⟩)]) Value.nilFunc) w.drew=.ok (.bool false) w.drew:=by kernel_rfl
 have BW:=hid (Below.refl C.B w).drew
 rw[hd] at hwd
 clear h hc hdr hdr2 rN
 go_enter Tryz.func36,Tryz.ntmps36
 go_wp2_with fail
 refine(hwd.out).mono ?_
 rintro e w1 ⟨rfl,rfl⟩
 go_wp2_with fail
 refine wp_mono (Q:=StepMidAN C P w i p1 p2 p3 y) ?_ ?_
 ·
  refine wp_rN (w.heap.size) [0,0,0,1,0,0,2,0,2] (.frk [0,1,2,4,5] (.fin [3,6,7,8]) (.fin [6,3,7,8])) (by kernel_rfl) ?_
  simp only[wpT,selX,guardAt,sD,sE,sF,sG]
  repeat first|(refine wpL_p fun K hK=>?_;go_simp;refine hK _ _ ?_;clear hK K)|refine wpL_nil ?_
  refine⟨?_,?_⟩
  ·
   repeat (apply wpL_s;(intro w2 hw2;have hk1:=hw2.cell;have hk3:=hw2.1;clear hw2;go_simp;with_reducible rfl);simp only[Act.put,sA,sB,sC])
   refine wpL_e (fun K hK=>?_)
   go_simp
   refine(HC.out).mono ?_
   rintro e X1 ⟨v,ve',us',rfl,hb,hla,hx⟩
   refine hK _ _ ?_
   clear hK K
   have hb1:Below C.B w.drew X1:=(Below.refl C.B w.drew).drew.trans hb
   have f2:=hla.nxCell hi
   have f3:=hla.nxRow
   have f4:=row_lt hla.drRow
   have f5:=row_lt f3.choose_spec
   have f6:=row_free f3.choose_spec i
   have f7:X1.cell? ⟨C.bD,3,none⟩=some (.slice (some ⟨C.gN,0,none⟩) P.threads.length P.threads.length):=row_cell hla.drRow 3
   obtain⟨ov,f2⟩:=f2
   have HL1:=hid hla
   have HX1:=hid hx
   have HB1:=hid hb1
   clear hb hla hx f3 hb1
   rcases HX1.out.form with rfl|⟨fa,fb,fc,rfl⟩
   all_goals
    repeat (refine wpL_p fun K hK=>?_;go_simp;refine hK _ _ ?_;clear hK K)
    refine wpL_e (fun K hK=>?_)
    go_simp
    refine hK _ _ ?_
    clear hK K
    repeat refine wpL_nil ?_
    exact⟨_,rfl,rfl,(BW.out.trans HB1.out).setCell (p:=⟨C.gN,i,none⟩) HL1.out.nxB _,ve',us',HL1.out.nxSet hi HX1.out⟩
  ·
   refine wpL_e (fun K hK=>?_)
   go_simp
   refine(HC.out).mono ?_
   rintro e X1 ⟨v,ve',us',rfl,hb,hla,hx⟩
   refine hK _ _ ?_
   clear hK K
   have hb1:Below C.B w.drew X1:=(Below.refl C.B w.drew).drew.trans hb
   have f2:=hla.nxCell hi
   have f3:=hla.nxRow
   have f4:=row_lt hla.drRow
   have f5:=row_lt f3.choose_spec
   have f6:=row_free f3.choose_spec i
   have f7:X1.cell? ⟨C.bD,3,none⟩=some (.slice (some ⟨C.gN,0,none⟩) P.threads.length P.threads.length):=row_cell hla.drRow 3
   obtain⟨ov,f2⟩:=f2
   have HL1:=hid hla
   have HX1:=hid hx
   have HB1:=hid hb1
   clear hb hla hx f3 hb1
   rcases HX1.out.form with rfl|⟨fa,fb,fc,rfl⟩
   all_goals
    repeat first|(refine wpL_p fun K hK=>?_;go_simp;refine hK _ _ ?_;clear hK K)|(apply wpL_s;(intro w2 hw2;have hk1:=hw2.cell;have hk3:=hw2.1;clear hw2;go_simp;with_reducible rfl);simp only[Act.put,sA,sB,sC])
    refine wpL_e (fun K hK=>?_)
    go_simp
    refine hK _ _ ?_
    clear hK K
    repeat refine wpL_nil ?_
    exact⟨_,rfl,rfl,(BW.out.trans HB1.out).setCell (p:=⟨C.gN,i,none⟩) HL1.out.nxB _,ve',us',HL1.out.nxSet hi HX1.out⟩
 ·rintro e a' X ⟨v,rfl,rfl,hb,ve',us',hla⟩
  have HB:=hid hb
  have HL:=hid hla
  clear hb hla HC
  go_wp2
  go_ret
  exact⟨rfl,HB.out,ve',us',HL.out⟩
def StepMidGO (C:LC) (P:Pg) (w:World) (i:Nat) (p1 p2:Nat) (y:LM×Nx):Exit→Act→World→Prop:=fun e a' X=>
 ∃(v:Value),e=.normal∧a'={tmps:=#[.pointer (some ⟨C.bD,0,none⟩),.int .i64 i,undef,undef,.bool false,.func (.func 114) #[] #[.pointer (some ⟨p1,0,none⟩),.pointer (some ⟨p2,0,none⟩)],.pointer (some ⟨C.bD,0,none⟩),.pointer (some ⟨C.bD,0,none⟩),.pointer (some ⟨C.bD,2,none⟩),.pointer (some ⟨C.bW,0,none⟩),.int .i64 i,.bool false,.pointer (some ⟨C.bD,0,none⟩),.pointer (some ⟨C.bD,0,none⟩),.pointer (some ⟨C.bD,3,none⟩),.slice (some ⟨C.gN,0,none⟩) P.threads.length P.threads.length,.int .i64 i,.pointer (some ⟨C.gN,i,none⟩),.nilFunc,.nilFunc,.bool true,.pointer (some ⟨C.bD,0,none⟩),.int .i64 i,.func (.func 114) #[] #[.pointer (some ⟨p1,0,none⟩),.pointer (some ⟨p2,0,none⟩)],.pointer (some ⟨C.bD,0,none⟩),.pointer (some ⟨C.bD,0,none⟩),.pointer (some ⟨C.bD,3,none⟩),.slice (some ⟨C.gN,0,none⟩) P.threads.length P.threads.length,.int .i64 i,.func (.func 114) #[] #[.pointer (some ⟨p1,0,none⟩),.pointer (some ⟨p2,0,none⟩)],v,.pointer (some ⟨C.gN,i,none⟩)],defers:=[]}∧Below C.B w X∧∃ve' us',LaAt X C ve' us' P {y.1 with nx:=y.1.nx.set i y.2}
theorem d_goOn (b:Nat) (i:Int) (w:World):Calls Tryz.prog 67 #[.pointer (some ⟨b,0,none⟩),.int .i64 i] w fun e w'=>e=.returned (.func (.func 114) #[] #[.pointer (some ⟨w.heap.size,0,none⟩),.pointer (some ⟨w.heap.size+1,0,none⟩)])∧w'=(w.alloc (.cells #[.pointer (some ⟨b,0,none⟩)] 82)).alloc (.cells #[.int .i64 i] 3):=by
 go_enter Tryz.func67,Tryz.ntmps67
 go_wp2
 go_ret
 exact⟨rfl,rfl⟩
theorem d_stepGO (h:LaAt w C ve us P M) (i:Nat) (hi:i < P.threads.length) (hd:wDone P M.W i=false) (hv:w.cell? ⟨C.gN,i,none⟩=some .nilFunc) {y:LM×Nx}
  (hc:∀w' p1 p2,Below w.heap.size w w'→GoBox C i p1 p2 w'→Calls Tryz.prog 114 #[.pointer (some ⟨p1,0,none⟩),.pointer (some ⟨p2,0,none⟩)] w' (LaNext C P i y w')):
  Calls Tryz.prog 36 #[.pointer (some ⟨C.bD,0,none⟩),.int .i64 i] w (LaPost C P {y.1 with nx:=y.1.nx.set i y.2} (.bool true) w):=by
 have hn4:=h.ok.threads.2
 have hdr:=h.drRow
 have d2:=row_cell hdr 2
 have d3:=row_cell hdr 3
 have lD:=row_lt hdr
 obtain⟨csN,rN⟩:=h.nxRow
 have lN:=row_lt rN
 obtain⟨vs,hdr2,-,-⟩:=h.dr
 have hwd:=hid (wk_done hdr2.walk i)
 have H:=hid h
 have HCA:=hid hc
 have qn:Sem.run Tryz.prog (binOp BinOp.eql 131 .nilFunc Value.nilFunc) w.drew=.ok (.bool true) w.drew:=by kernel_rfl
 rw[hd] at hwd
 clear h hc hdr hdr2 rN
 go_enter Tryz.func36,Tryz.ntmps36
 go_wp2_with fail
 refine(hwd.out).mono ?_
 rintro e w1 ⟨rfl,rfl⟩
 go_wp2_with fail
 refine(d_goOn _ _ _).mono ?_
 rintro e w1 ⟨rfl,hw1⟩
 have bX:Below w.heap.size w w1:=by rw[hw1];exact((Below.refl w.heap.size w).drew.alloc (Nat.le_refl _) _).alloc (by simp) _
 have hgb:GoBox C i w.heap.size (w.heap.size+1) w1:=by
  rw[hw1]
  exact⟨row_old (row_new' (w:=w.drew) rfl),row_new' (by simp)⟩
 obtain⟨p1,hp1⟩:∃p,p=w.heap.size:=⟨_,rfl⟩
 obtain⟨p2,hp2⟩:∃p,p=w.heap.size+1:=⟨_,rfl⟩
 have d3:=cell_below bX lD d3
 have zX:=bX.size
 have hBw:=H.out.size
 have HC:=hid (HCA.out w1.drew _ _ (bX.drew) (show GoBox C i w.heap.size (w.heap.size+1) w1.drew from hgb))
 have BW:=hid (bX.mono hBw)
 have lDX:C.bD < w1.heap.size:=by omega
 have e1:w.drew.heap.size=w.heap.size:=rfl
 rw[e1]
 rw[←hp2,←hp1] at HC ⊢
 have HP:=hid (And.intro hp1 hp2)
 clear hw1 bX hgb qn hp1 hp2 e1 d2
 go_wp2_with fail
 refine wp_mono (Q:=StepMidGO C P w i p1 p2 y) ?_ ?_
 ·
  refine wp_rN (w.heap.size) [0,0,0,1,0,0,2,0,2] (.frk [0,1,2,4,5] (.fin [3,6,7,8]) (.fin [6,3,7,8])) (by kernel_rfl) ?_
  simp only[wpT,selX,guardAt,sD,sE,sF,sG]
  repeat first|(refine wpL_p fun K hK=>?_;go_simp;refine hK _ _ ?_;clear hK K)|refine wpL_nil ?_
  refine⟨?_,?_⟩
  ·
   repeat (apply wpL_s;(intro w2 hw2;have hk1:=hw2.cell;have hk3:=hw2.1;clear hw2;go_simp;with_reducible rfl);simp only[Act.put,sA,sB,sC])
   refine wpL_e (fun K hK=>?_)
   go_simp
   refine(HC.out).mono ?_
   rintro e X1 ⟨v,ve',us',rfl,hb,hla,hx⟩
   refine hK _ _ ?_
   clear hK K
   have hb1:Below C.B w1 X1:=(Below.refl C.B w1).drew.trans hb
   have f2:=hla.nxCell hi
   have f3:=hla.nxRow
   have f4:=row_lt hla.drRow
   have f5:=row_lt f3.choose_spec
   have f6:=row_free f3.choose_spec i
   have f7:X1.cell? ⟨C.bD,3,none⟩=some (.slice (some ⟨C.gN,0,none⟩) P.threads.length P.threads.length):=row_cell hla.drRow 3
   obtain⟨ov,f2⟩:=f2
   have HL1:=hid hla
   have HX1:=hid hx
   have HB1:=hid hb1
   clear hb hla hx f3 hb1
   rcases HX1.out.form with rfl|⟨fa,fb,fc,rfl⟩
   all_goals
    repeat (refine wpL_p fun K hK=>?_;go_simp;refine hK _ _ ?_;clear hK K)
    refine wpL_e (fun K hK=>?_)
    go_simp
    refine hK _ _ ?_
    clear hK K
    repeat refine wpL_nil ?_
    exact⟨_,rfl,rfl,(BW.out.trans HB1.out).setCell (p:=⟨C.gN,i,none⟩) HL1.out.nxB _,ve',us',HL1.out.nxSet hi HX1.out⟩
  ·
   refine wpL_e (fun K hK=>?_)
   go_simp
   refine(HC.out).mono ?_
   rintro e X1 ⟨v,ve',us',rfl,hb,hla,hx⟩
   refine hK _ _ ?_
   clear hK K
   have hb1:Below C.B w1 X1:=(Below.refl C.B w1).drew.trans hb
   have f2:=hla.nxCell hi
   have f3:=hla.nxRow
   have f4:=row_lt hla.drRow
   have f5:=row_lt f3.choose_spec
   have f6:=row_free f3.choose_spec i
   have f7:X1.cell? ⟨C.bD,3,none⟩=some (.slice (some ⟨C.gN,0,none⟩) P.threads.length P.threads.length):=row_cell hla.drRow 3
   obtain⟨ov,f2⟩:=f2
   have HL1:=hid hla
   have HX1:=hid hx
   have HB1:=hid hb1
   clear hb hla hx f3 hb1
   rcases HX1.out.form with rfl|⟨fa,fb,fc,rfl⟩
   all_goals
    repeat first|(refine wpL_p fun K hK=>?_;go_simp;refine hK _ _ ?_;clear hK K)|(apply wpL_s;(intro w2 hw2;have hk1:=hw2.cell;have hk3:=hw2.1;clear hw2;go_simp;with_reducible rfl);simp only[Act.put,sA,sB,sC])
    refine wpL_e (fun K hK=>?_)
    go_simp
    refine hK _ _ ?_
    clear hK K
    repeat refine wpL_nil ?_
    exact⟨_,rfl,rfl,(BW.out.trans HB1.out).setCell (p:=⟨C.gN,i,none⟩) HL1.out.nxB _,ve',us',HL1.out.nxSet hi HX1.out⟩
 ·rintro e a' X ⟨v,rfl,rfl,hb,ve',us',hla⟩
  have HB:=hid hb
  have HL:=hid hla
  clear hb hla HC
  go_wp2
  go_ret
  exact⟨rfl,HB.out,ve',us',HL.out⟩
end
end
