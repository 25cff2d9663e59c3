/- Parts of the proof; the first: The engine clock: what comes behind an event of a thread's own. Conditions: those of each theorem, as typed. -/
import Derived.Test.YtkfhgifhfkcehaaGreatDoorQC29
import Derived.Test.YtkfhgifhfkcehaaGreatDoorQC13
set_option linter.unusedVariables false
set_option linter.unusedSimpArgs false
set_option linter.unusedSectionVars false
set_option maxRecDepth 100000
set_option maxHeartbeats 4000000
namespace Go.Proofs.YtkfhgifhfkcehaaGreatDoor
open Go.Maps Go.RowKit
section
attribute [local irreducible] xL
section
variable {w w':World} {C:LC} {ve:Value} {P:Pg} {M:LM} {us:List WkV}
theorem la_react1 (h:qX w C ve us P M) (i:Nat) (hi:i < P.threads.length) (ex eh ej eo ey ev er:Int):
  Calls Tryz.prog 144 #[.pointer (some ⟨C.bM,0,none⟩),.int .i64 i,yv ⟨1,ex,eh,ej,eo,ey,ev,er⟩] w (yS C P i ({M with ws:=M.ws.set i (some (M.clk,[],[]))},.none) w):=by
 have hn4:=h.ok.threads.2;have bA:Below w.heap.size w (((w.alloc (.cells #[.pointer (some ⟨C.bM,0,none⟩)] 205)).alloc (.cells #[.int .i64 i] 3)).alloc (.cells #[.int .i64 1,.int .i64 ex,.int .i64 eh,.int .i64 ej,.int .i64 eo,.int .i64 ey,.int .i64 ev,.int .i64 er] 53)):=(((Below.refl w.heap.size w).alloc (Nat.le_refl _) _).alloc (by simp) _).alloc (by simp;omega) _;have rA:=qF (o:=.cells #[.int .i64 1,.int .i64 ex,.int .i64 eh,.int .i64 ej,.int .i64 eo,.int .i64 ey,.int .i64 ev,.int .i64 er] 53) (qF (o:=.cells #[.int .i64 i] 3) (qy w (.cells #[.pointer (some ⟨C.bM,0,none⟩)] 205)));have rB:=qF (o:=.cells #[.int .i64 1,.int .i64 ex,.int .i64 eh,.int .i64 ej,.int .i64 eo,.int .i64 ey,.int .i64 ev,.int .i64 er] 53) (qL (w:=w.alloc (.cells #[.pointer (some ⟨C.bM,0,none⟩)] 205)) (o:=.cells #[.int .i64 i] 3) (g:=w.heap.size+1) (by simp));have rC:=qL (w:=(w.alloc (.cells #[.pointer (some ⟨C.bM,0,none⟩)] 205)).alloc (.cells #[.int .i64 i] 3)) (o:=.cells #[.int .i64 1,.int .i64 ex,.int .i64 eh,.int .i64 ej,.int .i64 eo,.int .i64 ey,.int .i64 ev,.int .i64 er] 53) (g:=w.heap.size+1+1) (by simp);have hve:ve.ownBlock≠some (w.heap.size+1+1):=fun e=>by
  obtain⟨vs,h1,-⟩:=h.dr;have:=(h1.walk.evs.lt _ e).2;omega
 have zA:(((w.alloc (.cells #[.pointer (some ⟨C.bM,0,none⟩)] 205)).alloc (.cells #[.int .i64 i] 3)).alloc (.cells #[.int .i64 1,.int .i64 ex,.int .i64 eh,.int .i64 ej,.int .i64 eo,.int .i64 ey,.int .i64 ev,.int .i64 er] 53)).heap.size=w.heap.size+3:=by simp
 have hB:=h.size;have HA:=qj (h.below bA);have BA:=qj (bA.mono hB);have RA:=qj rA;have RB:=qj rB;have RC:=qj rC;have HVE:=qj hve;have ZA:=qj zA;have d2:=qg HA.o.row 2;have d3:=qg HA.o.row 3;have lM:=qh HA.o.row;have xA:=qg rA 0;have xB:=qg rB 0;have xC:=qg rC 0;have lA:=qh rA;have lB:=qh rB;have lC:=qh rC;obtain⟨u,hu,hgW,w0,w1,w2⟩:=HA.o.wkCell hi;obtain⟨csW,rW⟩:=HA.o.wks.own.keepObj C.gW rfl;have RW:=qj rW;clear bA rA rB rC hve h zA rW;have mk1:∀X:World,Sem.run Tryz.prog (Instr.makeMap 132 none) X=.ok (.map (some X.heap.size)) (X.alloc (.map #[] 0)):=fun X=>rfl;have mk2:∀X:World,Sem.run Tryz.prog (Instr.makeMap 133 none) X=.ok (.map (some X.heap.size)) (X.alloc (.map #[] 0)):=fun X=>rfl;go_enter Tryz.func144,Tryz.ntmps144;go_wp2_with fail;generalize ((w.alloc (.cells #[.pointer (some ⟨C.bM,0,none⟩)] 205)).alloc (.cells #[.int .i64 i] 3)).alloc (.cells #[.int .i64 1,.int .i64 ex,.int .i64 eh,.int .i64 ej,.int .i64 eo,.int .i64 ey,.int .i64 ev,.int .i64 er] 53)=W at *;refine qH [1,0,0,1,1,0,0] [0,1,2,3,4,5,6] (by kernel_rfl) ?_;simp only[qP,qD,sD,sE,sF,sG]
 repeat first|(refine qC fun K hK=>?_;go_simp;refine hK _ _ ?_;clear hK K)|(apply qJ;(intro w2 hw2;have hk1:=hw2.cell;have hk3:=hw2.heap;clear hw2;go_simp;with_reducible rfl);simp only[Act.put,sA,sB,sC])|refine qA ?_
 have hlW:C.gW < W.heap.size:=qh RW.o;have ff:∀j,W.frozen? ⟨C.gW,j,none⟩=false:=fun j=>qx RW.o j;go_wp2;have e1:∀(X:World) (o:Obj) (j:Nat) (v:Value),C.gW < X.heap.size->(X.alloc o).setCell ⟨C.gW,j,none⟩ v=(X.setCell ⟨C.gW,j,none⟩ v).alloc o:=fun X o j v h=>World.setCell_alloc_past o C.gW j v h;have hZ:((((W.setCell ⟨C.gW,i*3,none⟩ (.int .i64 M.clk)).setCell ⟨C.gW,i*3+1,none⟩ (.map (some W.heap.size))).setCell ⟨C.gW,i*3+2,none⟩ (.map (some (W.heap.size+1)))).alloc (.map #[] 0)).alloc (.map #[] 0)=
   ((((W.alloc (.map #[] 0)).alloc (.map #[] 0)).setCell ⟨C.gW,i*3,none⟩ (.int .i64 M.clk)).setCell ⟨C.gW,i*3+1,none⟩ (.map (some W.heap.size))).setCell ⟨C.gW,i*3+2,none⟩ (.map (some (W.heap.size+1))):=by
  rw[e1,e1,e1,e1,e1,e1] <;> first|omega|(simp;omega)
 rw[hZ];have bY:Below W.heap.size W ((W.alloc (.map #[] 0)).alloc (.map #[] 0)):=((Below.refl W.heap.size W).alloc (Nat.le_refl _) _).alloc (by simp) _;have rb1:((W.alloc (.map #[] 0)).alloc (.map #[] 0)).heap[W.heap.size]?=some (.map #[] 0):=qF (qy W _);have rb2:((W.alloc (.map #[] 0)).alloc (.map #[] 0)).heap[W.heap.size+1]?=some (.map #[] 0):=qL (by simp);generalize (W.alloc (.map #[] 0)).alloc (.map #[] 0)=Y at *;have rWY:=qp RW.o bY hlW;have hk1:Kd (fun t=>t=321) Y (Y.setCell ⟨C.gW,i*3,none⟩ (.int .i64 M.clk)):=Kd.set (T:=fun t=>t=321) rWY rfl _;have rW1:=qB rWY (i*3) (.int .i64 M.clk);have hk2:=Kd.set (T:=fun t=>t=321) (j:=i*3+1) rW1 rfl (.map (some W.heap.size));have rW2:=qB rW1 (i*3+1) (.map (some W.heap.size));have hk3:=Kd.set (T:=fun t=>t=321) (j:=i*3+2) rW2 rfl (.map (some (W.heap.size+1)));have hk:=(hk1.trans hk2).trans hk3;have hm:=(KmAll.below bY).trans (((KmAll.set rWY (.int .i64 M.clk)).trans (KmAll.set rW1 (.map (some W.heap.size)))).trans (KmAll.set (j:=i*3+2) rW2 (.map (some (W.heap.size+1)))));have hul:=(List.getElem?_eq_some_iff.1 hu).1;have how:=own_setN (own_setN (own_setN (qq.below HA.o.wks.own bY) wkC_len (j:=0) (by decide) (u:=(M.clk,u.2.1,u.2.2)) (a:=.int .i64 M.clk) hu rfl) wkC_len (j:=1) (by decide) (k:=i) (x:=(M.clk,u.2.1,u.2.2)) (u:=(M.clk,.map (some W.heap.size),u.2.2)) (a:=.map (some W.heap.size)) (by rw[List.getElem?_set_self hul]) rfl) wkC_len (j:=2) (by decide) (k:=i) (x:=(M.clk,.map (some W.heap.size),u.2.2)) (u:=(M.clk,.map (some W.heap.size),.map (some (W.heap.size+1)))) (a:=.map (some (W.heap.size+1))) (by rw[List.set_set,List.getElem?_set_self hul]) rfl;simp only[List.set_set,Nat.add_zero] at how;have nW:∀q,W.heap.size<=q->q≠C.gW:=fun q hq=>by omega
 have hr1:=qK (v:=.map (some (W.heap.size+1))) (j:=i*3+2) (qK (v:=.map (some W.heap.size)) (j:=i*3+1) (qK (v:=.int .i64 M.clk) (j:=i*3) rb1 (nW _ (Nat.le_refl _)).symm) (nW _ (Nat.le_refl _)).symm) (nW _ (Nat.le_refl _)).symm;have hr2:=qK (v:=.map (some (W.heap.size+1))) (j:=i*3+2) (qK (v:=.map (some W.heap.size)) (j:=i*3+1) (qK (v:=.int .i64 M.clk) (j:=i*3) rb2 (nW _ (by omega)).symm) (nW _ (by omega)).symm) (nW _ (by omega)).symm;have hB2:C.B<=W.heap.size:=HA.o.size;have hBW:C.B<=C.gW:=(HA.o.wks.own.lt C.gW rfl).1;have hb:=(((BA.o.trans (bY.mono hB2)).setCell (p:=⟨C.gW,i*3,none⟩) hBW (.int .i64 M.clk)).setCell (p:=⟨C.gW,i*3+1,none⟩) hBW (.map (some W.heap.size))).setCell (p:=⟨C.gW,i*3+2,none⟩) hBW (.map (some (W.heap.size+1)));have hL:=(HA.o.below bY).turn (cs':=M.cs) (fun k cs t fz h1 h2=>hk k cs t fz h1 (fun e=>h2 (.inr e))) (qq.kd (HA.o.below bY).cells hk (by decide)) HA.o.clen (HA.o.wks.begin (i:=i) (u:=(M.clk,.map (some W.heap.size),.map (some (W.heap.size+1)))) (o':=some (M.clk,[],[])) hm how (by
  rintro q (e|e) <;> cases e <;> omega) ⟨W.heap.size,W.heap.size+1,rfl,by omega,by omega,by omega,isMB_new hr1,isMI_new hr2,(fun _ h=>by cases h),List.Pairwise.nil,(fun _ h=>by cases h),List.Pairwise.nil⟩)
 go_ret;exact⟨_,ve,_,rfl,hb.drew,hL.below (Below.refl _ _).drew,rfl⟩
theorem la_react (h:qX w C ve us P M) (i:Nat) (hi:i < P.threads.length) (ek ex eh ej eo ey ev er:Int) (he:ek≠1) {tm:Int} {r:MB} {s:MI} (hws:M.ws[i]?=some (some (tm,r,s))):
  Calls Tryz.prog 144 #[.pointer (some ⟨C.bM,0,none⟩),.int .i64 i,yv ⟨ek,ex,eh,ej,eo,ey,ev,er⟩] w (yS C P i (M,yj (woS M.ws[i]?) ⟨ek,ex,eh,ej,eo,ey,ev,er⟩) w):=by
 have hn4:=h.ok.threads.2;have e1:woS M.ws[i]?=s:=by rw[hws];rfl
 rw[e1];clear e1;have bA:Below w.heap.size w (((w.alloc (.cells #[.pointer (some ⟨C.bM,0,none⟩)] 205)).alloc (.cells #[.int .i64 i] 3)).alloc (.cells #[.int .i64 ek,.int .i64 ex,.int .i64 eh,.int .i64 ej,.int .i64 eo,.int .i64 ey,.int .i64 ev,.int .i64 er] 53)):=(((Below.refl w.heap.size w).alloc (Nat.le_refl _) _).alloc (by simp) _).alloc (by simp;omega) _;have rA:=qF (o:=.cells #[.int .i64 ek,.int .i64 ex,.int .i64 eh,.int .i64 ej,.int .i64 eo,.int .i64 ey,.int .i64 ev,.int .i64 er] 53) (qF (o:=.cells #[.int .i64 i] 3) (qy w (.cells #[.pointer (some ⟨C.bM,0,none⟩)] 205)));have rB:=qF (o:=.cells #[.int .i64 ek,.int .i64 ex,.int .i64 eh,.int .i64 ej,.int .i64 eo,.int .i64 ey,.int .i64 ev,.int .i64 er] 53) (qL (w:=w.alloc (.cells #[.pointer (some ⟨C.bM,0,none⟩)] 205)) (o:=.cells #[.int .i64 i] 3) (g:=w.heap.size+1) (by simp));have rC:=qL (w:=(w.alloc (.cells #[.pointer (some ⟨C.bM,0,none⟩)] 205)).alloc (.cells #[.int .i64 i] 3)) (o:=.cells #[.int .i64 ek,.int .i64 ex,.int .i64 eh,.int .i64 ej,.int .i64 eo,.int .i64 ey,.int .i64 ev,.int .i64 er] 53) (g:=w.heap.size+1+1) (by simp);have hve:ve.ownBlock≠some (w.heap.size+1+1):=fun e=>by
  obtain⟨vs,h1,-⟩:=h.dr;have:=(h1.walk.evs.lt _ e).2;omega
 have zA:(((w.alloc (.cells #[.pointer (some ⟨C.bM,0,none⟩)] 205)).alloc (.cells #[.int .i64 i] 3)).alloc (.cells #[.int .i64 ek,.int .i64 ex,.int .i64 eh,.int .i64 ej,.int .i64 eo,.int .i64 ey,.int .i64 ev,.int .i64 er] 53)).heap.size=w.heap.size+3:=by simp
 have hB:=h.size;have HA:=qj (h.below bA);have BA:=qj (bA.mono hB);have RA:=qj rA;have RB:=qj rB;have RC:=qj rC;have HVE:=qj hve;have ZA:=qj zA;have d2:=qg HA.o.row 2;have d3:=qg HA.o.row 3;have lM:=qh HA.o.row;have xA:=qg rA 0;have xB:=qg rB 0;have xC:=qg rC 0;have lA:=qh rA;have lB:=qh rB;have lC:=qh rC;obtain⟨br,bs,hu,hwo,hgW,w0,w1,w2⟩:=HA.o.woAt hi hws;have HQ:=qj hwo;have q1:(ek==1)=false:=by simpa using he
 by_cases h7:ek=7
 ·subst h7
  clear bA rA rB rC hve h zA hu hwo;go_enter Tryz.func144,Tryz.ntmps144;go_wp2_with fail;generalize ((w.alloc (.cells #[.pointer (some ⟨C.bM,0,none⟩)] 205)).alloc (.cells #[.int .i64 i] 3)).alloc (.cells #[.int .i64 7,.int .i64 ex,.int .i64 eh,.int .i64 ej,.int .i64 eo,.int .i64 ey,.int .i64 ev,.int .i64 er] 53)=W at *;refine qH [1,0,0,1,1,0,0] [0,1,2,3,4,5,6] (by kernel_rfl) ?_;simp only[qP,qD,sD,sE,sF,sG]
  repeat first|(refine qC fun K hK=>?_;go_simp;refine hK _ _ ?_;clear hK K)|(apply qJ;(intro w2 hw2;have hk1:=hw2.cell;have hk3:=hw2.heap;clear hw2;go_simp;with_reducible rfl);simp only[Act.put,sA,sB,sC])|refine qA ?_
  go_wp2_with fail;refine(yP (HA.o.below (Below.refl _ W).drew) i).mono ?_;rintro e X1 ⟨p1,p2,rfl,b1,hbx⟩;have b1:Below W.heap.size W X1:=(Below.refl _ W).drew.trans b1;have B1:=qj (BA.o.trans (b1.mono HA.o.size));have L1:=qj (HA.o.below b1);have HX:=qj hbx;clear b1 hbx d2 d3 w0 w1 w2 xA xB xC;go_wp2;go_ret;exact⟨_,ve,us,rfl,B1.o,L1.o,p1,p2,rfl,HX.o⟩
 ·have q7:(ek==7)=false:=by simpa using h7
  by_cases h4:ek=4
  ·subst h4
   have hre:yj s ⟨4,ex,eh,ej,eo,ey,ev,er⟩=if s=[] then .commit else yw (s.map (·.1)):=by simp[yj]
   rw[hre];clear bA rA rB rC hve h hu hwo hre;go_enter Tryz.func144,Tryz.ntmps144;obtain⟨Y0,hY0⟩:∃Y:Nx,Y=if s=[] then .commit else yw (s.map (·.1)):=⟨_,rfl⟩
   rw[←hY0];have HY0:=qj hY0;clear hY0;go_wp2_with fail;generalize ((w.alloc (.cells #[.pointer (some ⟨C.bM,0,none⟩)] 205)).alloc (.cells #[.int .i64 i] 3)).alloc (.cells #[.int .i64 4,.int .i64 ex,.int .i64 eh,.int .i64 ej,.int .i64 eo,.int .i64 ey,.int .i64 ev,.int .i64 er] 53)=W at *;have hBW:C.B<=W.heap.size:=HA.o.size;obtain⟨br',bs',hu,hbr,hbs,hne,hmr,hms,hcr,hsr,hcs,hss⟩:=HQ.o;simp only[Prod.mk.injEq,Value.map.injEq,Option.some.injEq,true_and] at hu;obtain⟨rfl,rfl⟩:=hu;have hs4:=hcs.len hss;have HSS:=qj hss;have HMS:=qj hms;have ln:=fun X:World=>fun hX:IsMI X bs s.length s=>hX.len Tryz.underlying133;have ln1:=fun ty=>hms.drew.len Tryz.underlying133 ty;clear hmr hms hcr hsr hcs hss zA ln;refine qH [1,0,0,1,1,0,0] [0,1,2,3,4,5,6] (by kernel_rfl) ?_;simp only[qP,qD,sD,sE,sF,sG]
   repeat first|(refine qC fun K hK=>?_;go_simp;refine hK _ _ ?_;clear hK K)|(apply qJ;(intro w2 hw2;have hk1:=hw2.cell;have hk3:=hw2.heap;clear hw2;go_simp;with_reducible rfl);simp only[Act.put,sA,sB,sC])|refine qA ?_
   cases hse:s with
   |nil=>
    have HE:=qj hse;have l0:(s.length:Int)=0:=by rw[hse];rfl
    rw[l0] at ln1;clear hse;go_wp2_with fail;refine(la_mkCommit (HA.o.below (Below.refl _ W).drew) i).mono ?_;rintro e X1 ⟨p1,p2,rfl,b1,hbx⟩;have b1:Below W.heap.size W X1:=(Below.refl _ W).drew.trans b1;have B1:=qj (BA.o.trans (b1.mono HA.o.size));have L1:=qj (HA.o.below b1);have HX:=qj hbx;clear b1 hbx d2 d3 w0 w1 w2 xA xB xC ln1;go_wp2;go_ret;refine⟨_,ve,us,rfl,B1.o,L1.o,?_⟩;rw[HY0.o,if_pos HE.o];exact⟨p1,p2,rfl,HX.o⟩
   |cons a z=>
    have HE:=qj hse;have l0:((s.length:Int)==0)=false:=by rw[hse];simp only[List.length_cons];simp;omega
    clear hse;go_wp2_with fail;refine qT (W.heap.size) [1,1,0,0,0,1,3,3,2,0] (.fin [0,1,2,3,4,5,6,7,8,9]) (by kernel_rfl) ?_;simp only[yp,qP,qD,sD,sE,sF,sG]
    repeat first|(refine qC fun K hK=>?_;go_simp;refine hK _ _ ?_;clear hK K)|(apply qJ;(intro w2 hw2;have hk1:=hw2.cell;have hk3:=hw2.1;clear hw2;go_simp;with_reducible rfl);simp only[Act.put,sA,sB,sC])
    refine qI (fun K hK=>?_);go_simp;refine(keysI (some bs) W.drew.drew).mono ?_;rintro e W1 ⟨rfl,rfl⟩;refine hK _ _ (RN.KeepsN.alloc _ _ (Nat.le_refl _)) ?_;clear hK K;refine qI (fun K hK=>?_);go_simp;refine(sortedI (w:=W.drew.drew) (HMS.o.drew.drew) HSS.o (by omega)).mono ?_;rintro e W2 ⟨v,rfl,ho,hb2⟩;have b2:Below W.heap.size W W2:=((Below.refl _ W).drew.drew.alloc (Nat.le_refl _) _).trans (hb2.mono (by show W.heap.size<=W.heap.size+1;omega));refine hK _ _ (RN.KeepsN.of_below (hb2.mono (by show W.heap.size<=W.heap.size+1;omega))) ?_;clear hK K;have L2:=qj (HA.o.below b2);have LS:=qj (LsAt.ofOwn (C:=C) ho (show C.B<=W.heap.size+1 by omega));have B2:=qj (BA.o.trans (b2.mono hBW));clear ho hb2 b2;refine qN (fun K hK=>?_);go_simp;refine(la_lock L2.o i hi v _ LS.o (by rw[List.length_map];exact hs4)).mono ?_;rintro e W3 ⟨v3,ve',us',rfl,hb,hla,hx⟩;refine hK _ _ ?_;clear hK K;have B3:=qj (B2.o.trans hb);have L3:=qj hla;have X3:=qj hx;clear hb hla hx d2 d3 w0 w1 w2 xA xB xC ln1
    repeat first|(refine qC fun K hK=>?_;go_simp;refine hK _ _ ?_;clear hK K)|refine qA ?_
    go_wp2;go_ret;refine⟨v3,ve',us',rfl,B3.o,L3.o,?_⟩;rw[HY0.o,if_neg (by rw[HE.o];simp)];exact X3.o
  ·have q4:(ek==4)=false:=by simpa using h4
   have hre:yj s ⟨ek,ex,eh,ej,eo,ey,ev,er⟩=.ans ⟨ek,ex,eh,ej,eo,ey,ev,er⟩:=by simp[yj,he,h7,h4]
   rw[hre];clear bA rA rB rC hve h zA hu hwo;go_enter Tryz.func144,Tryz.ntmps144;go_wp2_with fail;generalize ((w.alloc (.cells #[.pointer (some ⟨C.bM,0,none⟩)] 205)).alloc (.cells #[.int .i64 i] 3)).alloc (.cells #[.int .i64 ek,.int .i64 ex,.int .i64 eh,.int .i64 ej,.int .i64 eo,.int .i64 ey,.int .i64 ev,.int .i64 er] 53)=W at *;refine qH [1,0,0,1,1,0,0] [0,1,2,3,4,5,6] (by kernel_rfl) ?_;simp only[qP,qD,sD,sE,sF,sG]
   repeat first|(refine qC fun K hK=>?_;go_simp;refine hK _ _ ?_;clear hK K)|(apply qJ;(intro w2 hw2;have hk1:=hw2.cell;have hk3:=hw2.heap;clear hw2;go_simp;with_reducible rfl);simp only[Act.put,sA,sB,sC])|refine qA ?_
   clear d2 d3 w0 w1 w2 xA xB;go_wp2;go_ret;exact⟨_,ve,us,rfl,BA.o.drew,HA.o.below (Below.refl _ W).drew,w.heap.size,w.heap.size+1,w.heap.size+1+1,rfl,⟨RA.o,RB.o,hB,by omega⟩,RC.o,HVE.o,by omega⟩
theorem la_ans1 (h:qX w C ve us P M) (i:Nat) (hi:i < P.threads.length) {t:Th} (ht:M.W.ths[i]?=some t) (hd:qR P i t=false) (hbg:t.begun=true) (hl:M.W.evs.length<=100000) {tm:Int} {r:MB} {s:MI} (hws:M.ws[i]?=some (some (tm,r,s))) (hcn:WoCan P r s)
  (k:Nat) (ek ex eh eo ey ev er:Int) (hk:k < P.cells.length) (hb2:∀c ∈ M.cs,-999999000<=c.val/\c.val<=999999000)
  {p1 p2 p3:Nat} (hx:BxM w C i p1 p2) (h3:w.heap[p3]?=some (.cells #[.int .i64 ek,.int .i64 ex,.int .i64 eh,.int .i64 (k:Nat),.int .i64 eo,.int .i64 ey,.int .i64 ev,.int .i64 er] 53 (0,0))):
  Calls Tryz.prog 195 #[.pointer (some ⟨p1,0,none⟩),.pointer (some ⟨p2,0,none⟩),.pointer (some ⟨p3,0,none⟩)] w (yR C P (ansStep P M i t ⟨ek,ex,eh,(k:Nat),eo,ey,ev,er⟩ tm r s) .nilFunc w):=by
 have d0:=qg hx.1 0;have d1:=qg hx.2.1 0;have l0:=qh hx.1;have l1:=qh hx.2.1;have l2:=qh h3;have f0:=qg h3 0;have f1:=qg h3 1;have f2:=qg h3 2;have f3:=qg h3 3;have f4:=qg h3 4;have f5:=qg h3 5;have f6:=qg h3 6;have f7:=qg h3 7;have hc:=qj (la_answer h i hi ht hd hbg hl hws hcn k ek ex eh eo ey ev er hk hb2);clear h hx h3 hws ht hcn hb2;generalize ansStep P M i t ⟨ek,ex,eh,(k:Nat),eo,ey,ev,er⟩ tm r s=y at *;go_enter Tryz.func195,Tryz.ntmps195;go_wp2_with fail;refine(hc.o).mono ?_;clear hc;rintro e w1 ⟨rfl,hb,ve',us',hla⟩;have HB:=qj hb;have HL:=qj hla;clear hb hla d0 d1 f0 f1 f2 f3 f4 f5 f6 f7;go_wp2;go_ret;exact⟨rfl,HB.o,ve',us',HL.o⟩
end
end
section
attribute [local irreducible] xL
section
variable {w w':World} {C:LC} {ve:Value} {P:Pg} {M:LM} {us:List WkV}
def GoBox (C:LC) (i p1 p2:Nat) (X:World):Prop:=X.heap[p1]?=some (.cells #[.pointer (some ⟨C.bD,0,none⟩)] 82 (0,0))/\X.heap[p2]?=some (.cells #[.int .i64 i] 3 (0,0))
theorem GoBox.below {i p1 p2:Nat} (h:GoBox C i p1 p2 w) (hb:Below w.heap.size w w'):GoBox C i p1 p2 w':=⟨qp h.1 hb (qh h.1),qp h.2 hb (qh h.2)⟩
theorem GoBox.kp {i p1 p2:Nat} (h:GoBox C i p1 p2 w) (hk:Kp Mw ve w w'):GoBox C i p1 p2 w':=⟨hk.rowW h.1 (by decide) (by decide) (by decide),hk.rowW h.2 (by decide) (by decide) (by decide)⟩
def GoMid (C:LC) (P:Pg) (us:List WkV) (w:World) (i p1 p2:Nat) (M':LM) (ek ex eh ej eo ey ev er:Int):Exit->Act->World->Prop:=fun e a' X=>
 ∃b3:Nat,e=.normal/\a'={tmps:=#[.pointer (some ⟨p1,0,none⟩),.pointer (some ⟨p2,0,none⟩),.nilFunc,.pointer (some ⟨b3,0,none⟩),.bool true,.tuple #[yv ⟨ek,ex,eh,ej,eo,ey,ev,er⟩,.bool true],.pointer (some ⟨C.bD,0,none⟩),.pointer (some ⟨C.bD,0,none⟩),.pointer (some ⟨C.bD,2,none⟩),.pointer (some ⟨C.bW,0,none⟩),.int .i64 i,.tuple #[yv ⟨ek,ex,eh,ej,eo,ey,ev,er⟩,.bool true],yv ⟨ek,ex,eh,ej,eo,ey,ev,er⟩,.bool true,undef,undef,undef,undef,undef,undef,undef,undef,undef],defers:=[]}/\X.heap[b3]?=some (.cells #[.int .i64 ek,.int .i64 ex,.int .i64 eh,.int .i64 ej,.int .i64 eo,.int .i64 ey,.int .i64 ev,.int .i64 er] 53 (0,0))/\Below C.B w X/\GoBox C i p1 p2 X/\∃ve',qX X C ve' us P M'
def GoMidZ (C:LC) (P:Pg) (us:List WkV) (w:World) (i p1 p2:Nat) (M':LM):Exit->Act->World->Prop:=fun e a' X=>
 ∃b3:Nat,e=.normal/\a'={tmps:=#[.pointer (some ⟨p1,0,none⟩),.pointer (some ⟨p2,0,none⟩),.nilFunc,.pointer (some ⟨b3,0,none⟩),.bool false,.tuple #[yv ⟨0,0,0,0,0,0,0,0⟩,.bool false],.pointer (some ⟨C.bD,0,none⟩),.pointer (some ⟨C.bD,0,none⟩),.pointer (some ⟨C.bD,2,none⟩),.pointer (some ⟨C.bW,0,none⟩),.int .i64 i,.tuple #[yv ⟨0,0,0,0,0,0,0,0⟩,.bool false],yv ⟨0,0,0,0,0,0,0,0⟩,.bool false,undef,undef,undef,undef,undef,undef,undef,undef,undef],defers:=[]}/\Below C.B w X/\∃ve',qX X C ve' us P M'
theorem nextOf_begun {P:Pg} {i:Nat} {t:Th} {y:Th×Ev} (h:nextOf P i t=some y) (hk:y.2.kind≠1):t.begun=true:=by
 cases hb:t.begun with
 |true=>rfl
 |false=>
  unfold nextOf at h
  split at h
  ·cases h
  ·simp only[hb,if_true] at h
   obtain rfl:=Option.some.inj h;exact absurd (by simp[qE,yB,hb,xG]) hk
theorem la_goOn (h:qX w C ve us P M) (i:Nat) (hi:i < P.threads.length) {t:Th} (ht:M.W.ths[i]?=some t) (hl:M.W.evs.length<=100000) (hw0:t.begun=true->∃tm r s,M.ws[i]?=some (some (tm,r,s))) {p1 p2:Nat} (hp:GoBox C i p1 p2 w):
  Calls Tryz.prog 114 #[.pointer (some ⟨p1,0,none⟩),.pointer (some ⟨p2,0,none⟩)] w (yS C P i (ownStep P M i t (woS M.ws[i]?)) w):=by
 have hn4:=h.ok.threads.2;have d0:=qg hp.1 0;have d1:=qg hp.2 0;have l0:=qh hp.1;have l1:=qh hp.2;have hB:=h.size;obtain⟨vs,hdr,-,-⟩:=h.dr;have e2:w.cell? ⟨C.bD,2,none⟩=some (.pointer (some ⟨C.bW,0,none⟩)):=qg hdr.row 2;have lD:=qh hdr.row;have H:=qj h;have HW:=qj hdr.walk;have HP:=qj hp;have HT:=qj ht;have hcA:=qj (wk_next (hdr.walk.below (Below.refl _ w).drew) hB i hi ht hl);have hcB:=qj (fun o=>wk_next (hdr.walk.below (((Below.refl w.heap.size w).drew).alloc (Nat.le_refl _) o)) (by simp;omega) i hi ht hl);clear h hp hdr ht;have hk4:∀y,nextOf P i t=some y->y.2.kind≠1->∃tm r s,M.ws[i]?=some (some (tm,r,s)):=fun y hy hk=>hw0 (nextOf_begun hy hk);have hown:ownStep P M i t (woS M.ws[i]?)=(match nextOf P i t with|none=>(M,.none)|some y=>({M with W:=M.W.put i y,ws:=if y.2.kind=1 then M.ws.set i (some (M.clk,[],[])) else M.ws},yj (woS M.ws[i]?) y.2)):=rfl;rw[hown];clear hown hw0;generalize nextOf P i t=r at *;cases r with
 |none=>
  clear hk4;go_enter Tryz.func114,Tryz.ntmps114;go_wp2_with fail;refine wp_mono (Q:=GoMidZ C P us w i p1 p2 M) ?_ ?_
  ·
   refine qT (w.heap.size) [1,0,0,1,1,2,0,0,0,3,3,0] (.frk [0,1,2,3,4] (.fin [5,6,7,8,9,10,11]) (.fin [9,5,6,7,8,10,11])) (by kernel_rfl) ?_;simp only[yp,qP,qD,sD,sE,sF,sG]
   repeat first|(refine qC fun K hK=>?_;go_simp;refine hK _ _ ?_;clear hK K)|(apply qJ;(intro w2 hw2;have hk1:=hw2.cell;have hk3:=hw2.1;clear hw2;go_simp;with_reducible rfl);simp only[Act.put,sA,sB,sC])|refine qA ?_
   refine⟨?_,?_⟩
   ·refine qN (fun K hK=>?_)
    go_simp;refine(hcA.o).mono ?_;rintro e X1 ⟨rfl,b1⟩;refine hK _ _ ?_;clear hK K;have b1:Below w.heap.size w X1:=(Below.refl _ w).drew.trans b1;have z1:=b1.size
    repeat (refine qC fun K hK=>?_;go_simp;refine hK _ _ ?_;clear hK K)
    refine qI (fun K hK=>?_);go_simp;refine hK _ _ (RN.KeepsN.alloc _ _ (by first|omega|exact Nat.le_refl _)) ?_;clear hK K;refine qI (fun K hK=>?_);go_simp;refine hK _ _ (RN.KeepsN.refl _ _) ?_;clear hK K
    repeat first|(refine qC fun K hK=>?_;go_simp;refine hK _ _ ?_;clear hK K)|refine qA ?_
    have b3:=b1.alloc z1 (.cells #[.int .i64 0,.int .i64 0,.int .i64 0,.int .i64 0,.int .i64 0,.int .i64 0,.int .i64 0,.int .i64 0] 53);exact⟨X1.heap.size,rfl,rfl,b3.mono hB,ve,H.o.below b3⟩
   ·refine qI (fun K hK=>?_)
    go_simp;refine hK _ _ (RN.KeepsN.alloc _ _ (by first|omega|exact Nat.le_refl _)) ?_;clear hK K;refine qN (fun K hK=>?_);go_simp;refine(hcB.o _).mono ?_;rintro e X1 ⟨rfl,b1⟩;refine hK _ _ ?_;clear hK K;have RZ:=qp (qL (w:=w.drew) (o:=.cells #[.int .i64 0,.int .i64 0,.int .i64 0,.int .i64 0,.int .i64 0,.int .i64 0,.int .i64 0,.int .i64 0] 53) (g:=w.heap.size) rfl) b1 (by simp);have b1:Below w.heap.size w X1:=((Below.refl _ w).drew.alloc (Nat.le_refl _) _).trans (b1.mono (by simp));have z1:=b1.size;have lz:=qh RZ;have yf:∀j,X1.frozen? ⟨w.heap.size,j,none⟩=false:=fun j=>qx RZ j;have yc:=qg RZ;have y0:X1.cell? ⟨w.heap.size,0,none⟩=some (.int .i64 0):=yc 0;have y1:X1.cell? ⟨w.heap.size,1,none⟩=some (.int .i64 0):=yc 1;have y2:X1.cell? ⟨w.heap.size,2,none⟩=some (.int .i64 0):=yc 2;have y3:X1.cell? ⟨w.heap.size,3,none⟩=some (.int .i64 0):=yc 3;have y4:X1.cell? ⟨w.heap.size,4,none⟩=some (.int .i64 0):=yc 4;have y5:X1.cell? ⟨w.heap.size,5,none⟩=some (.int .i64 0):=yc 5;have y6:X1.cell? ⟨w.heap.size,6,none⟩=some (.int .i64 0):=yc 6;have y7:X1.cell? ⟨w.heap.size,7,none⟩=some (.int .i64 0):=yc 7;clear yc
    repeat (refine qC fun K hK=>?_;go_simp;refine hK _ _ ?_;clear hK K)
    refine qI (fun K hK=>?_);go_simp;have WR6:=(((((((((Wr.start RZ).set 0 (.int .i64 0)).set 1 (.int .i64 0)).set 2 (.int .i64 0)).set 3 (.int .i64 0)).set 4 (.int .i64 0)).set 5 (.int .i64 0)).set 6 (.int .i64 0)).set 7 (.int .i64 0))
    generalize ((((((((X1).setCell ⟨w.heap.size,0,none⟩ (.int .i64 0)).setCell ⟨w.heap.size,1,none⟩ (.int .i64 0)).setCell ⟨w.heap.size,2,none⟩ (.int .i64 0)).setCell ⟨w.heap.size,3,none⟩ (.int .i64 0)).setCell ⟨w.heap.size,4,none⟩ (.int .i64 0)).setCell ⟨w.heap.size,5,none⟩ (.int .i64 0)).setCell ⟨w.heap.size,6,none⟩ (.int .i64 0)).setCell ⟨w.heap.size,7,none⟩ (.int .i64 0)=Y at *;refine hK _ _ (RN.KeepsN.of_below (WR6.below (Nat.le_refl _))) ?_;clear hK K
    repeat first|(refine qC fun K hK=>?_;go_simp;refine hK _ _ ?_;clear hK K)|refine qA ?_
    have b3:=b1.trans (WR6.below (Nat.le_refl _));exact⟨w.heap.size,rfl,rfl,b3.mono hB,ve,H.o.below b3⟩
  ·rintro e a' X ⟨b3,rfl,rfl,hb,ve',hla⟩
   have HB:=qj hb;have HL:=qj hla;clear hb hla d0 d1 e2 hcA hcB;go_wp2;go_ret;exact⟨_,ve',us,rfl,HB.o,HL.o,rfl⟩
 |some y=>
  obtain⟨t',ek,ex,eh,ej,eo,ey,ev,er⟩:=y;obtain⟨Y0,hY0⟩:∃Y0:LM×Nx,Y0=({M with W:=M.W.put i (t',⟨ek,ex,eh,ej,eo,ey,ev,er⟩),ws:=if ek=1 then M.ws.set i (some (M.clk,[],[])) else M.ws},yj (woS M.ws[i]?) ⟨ek,ex,eh,ej,eo,ey,ev,er⟩):=⟨_,rfl⟩
  show Calls _ _ _ _ (yS C P i ({M with W:=M.W.put i (t',⟨ek,ex,eh,ej,eo,ey,ev,er⟩),ws:=if ek=1 then M.ws.set i (some (M.clk,[],[])) else M.ws},yj (woS M.ws[i]?) ⟨ek,ex,eh,ej,eo,ey,ev,er⟩) w);rw[←hY0];have hk4:ek≠1->∃tm r s,M.ws[i]?=some (some (tm,r,s)):=hk4 _ rfl;have HK4:=qj hk4;clear hk4;have HY0:=qj hY0;clear hY0;go_enter Tryz.func114,Tryz.ntmps114;go_wp2_with fail;refine wp_mono (Q:=GoMid C P us w i p1 p2 {M with W:=M.W.put i (t',⟨ek,ex,eh,ej,eo,ey,ev,er⟩)} ek ex eh ej eo ey ev er) ?_ ?_
  ·
   refine qT (w.heap.size) [1,0,0,1,1,2,0,0,0,3,3,0] (.frk [0,1,2,3,4] (.fin [5,6,7,8,9,10,11]) (.fin [9,5,6,7,8,10,11])) (by kernel_rfl) ?_;simp only[yp,qP,qD,sD,sE,sF,sG]
   repeat first|(refine qC fun K hK=>?_;go_simp;refine hK _ _ ?_;clear hK K)|(apply qJ;(intro w2 hw2;have hk1:=hw2.cell;have hk3:=hw2.1;clear hw2;go_simp;with_reducible rfl);simp only[Act.put,sA,sB,sC])|refine qA ?_
   refine⟨?_,?_⟩
   ·refine qN (fun K hK=>?_)
    go_simp;refine(hcA.o).mono ?_;rintro e X1 ⟨rfl,ve',hwk,hkp,hb,ho⟩;refine hK _ _ ?_;clear hK K;have hkp:Kp Mw ve w X1:=(Kp.of_below (ev:=ve) (Below.refl w.heap.size w).drew).trans hkp fun _ h=>.inl h;have hL:=H.o.walked hkp hwk ho;have z1:w.heap.size<=X1.heap.size:=hkp.size;have hb:Below C.B w X1:=(Below.refl _ w).drew.trans hb
    repeat (refine qC fun K hK=>?_;go_simp;refine hK _ _ ?_;clear hK K)
    refine qI (fun K hK=>?_);go_simp;refine hK _ _ (RN.KeepsN.alloc _ _ (by first|omega|exact Nat.le_refl _)) ?_;clear hK K;refine qI (fun K hK=>?_);go_simp;refine hK _ _ (KeepsN.both (W:=X1) (RN.KeepsN.alloc _ _ z1) (RN.KeepsN.alloc _ _ z1) (by simp)) ?_;clear hK K
    repeat first|(refine qC fun K hK=>?_;go_simp;refine hK _ _ ?_;clear hK K)|refine qA ?_
    have b3:=(Below.refl X1.heap.size X1).alloc (Nat.le_refl _) (.cells #[.int .i64 ek,.int .i64 ex,.int .i64 eh,.int .i64 ej,.int .i64 eo,.int .i64 ey,.int .i64 ev,.int .i64 er] 53);exact⟨X1.heap.size,rfl,rfl,qy X1 _,hb.alloc (by omega) _,(HP.o.kp hkp).below b3,ve',hL.below b3⟩
   ·refine qI (fun K hK=>?_)
    go_simp;refine hK _ _ (RN.KeepsN.alloc _ _ (by first|omega|exact Nat.le_refl _)) ?_;clear hK K;refine qN (fun K hK=>?_);go_simp;refine(hcB.o _).mono ?_;rintro e X1 ⟨rfl,ve',hwk,hkp,hb,ho⟩;refine hK _ _ ?_;clear hK K;have bz:Below w.heap.size w (w.drew.alloc (.cells #[.int .i64 0,.int .i64 0,.int .i64 0,.int .i64 0,.int .i64 0,.int .i64 0,.int .i64 0,.int .i64 0] 53)):=(Below.refl _ w).drew.alloc (Nat.le_refl _) _;have RZ:X1.heap[w.heap.size]?=some (.cells #[.int .i64 0,.int .i64 0,.int .i64 0,.int .i64 0,.int .i64 0,.int .i64 0,.int .i64 0,.int .i64 0] 53 (0,0)):=hkp.cells _ _ _ _ (qL (w:=w.drew) (o:=.cells #[.int .i64 0,.int .i64 0,.int .i64 0,.int .i64 0,.int .i64 0,.int .i64 0,.int .i64 0,.int .i64 0] 53) (g:=w.heap.size) rfl) (by unfold Mw;decide) (fun _ e=>by have:=(HW.o.evs.lt _ e).2;omega);have hkp:Kp Mw ve w X1:=(Kp.of_below (ev:=ve) bz).trans hkp fun _ h=>.inl h;have ho':∀k,ve'.ownBlock=some k->ve.ownBlock=some k\/w.heap.size < k:=fun k e=>(ho k e).imp id fun h=>by simp at h;omega
    have z1:w.heap.size<=X1.heap.size:=hkp.size;have hb:Below C.B w X1:=(bz.mono hB).trans hb;have lz:=qh RZ;have yf:∀j,X1.frozen? ⟨w.heap.size,j,none⟩=false:=fun j=>qx RZ j;have yc:=qg RZ;have y0:X1.cell? ⟨w.heap.size,0,none⟩=some (.int .i64 0):=yc 0;have y1:X1.cell? ⟨w.heap.size,1,none⟩=some (.int .i64 0):=yc 1;have y2:X1.cell? ⟨w.heap.size,2,none⟩=some (.int .i64 0):=yc 2;have y3:X1.cell? ⟨w.heap.size,3,none⟩=some (.int .i64 0):=yc 3;have y4:X1.cell? ⟨w.heap.size,4,none⟩=some (.int .i64 0):=yc 4;have y5:X1.cell? ⟨w.heap.size,5,none⟩=some (.int .i64 0):=yc 5;have y6:X1.cell? ⟨w.heap.size,6,none⟩=some (.int .i64 0):=yc 6;have y7:X1.cell? ⟨w.heap.size,7,none⟩=some (.int .i64 0):=yc 7;clear yc
    repeat (refine qC fun K hK=>?_;go_simp;refine hK _ _ ?_;clear hK K)
    refine qI (fun K hK=>?_);go_simp;have WR6:=(((((((((Wr.start RZ).set 0 (.int .i64 ek)).set 1 (.int .i64 ex)).set 2 (.int .i64 eh)).set 3 (.int .i64 ej)).set 4 (.int .i64 eo)).set 5 (.int .i64 ey)).set 6 (.int .i64 ev)).set 7 (.int .i64 er))
    generalize ((((((((X1).setCell ⟨w.heap.size,0,none⟩ (.int .i64 ek)).setCell ⟨w.heap.size,1,none⟩ (.int .i64 ex)).setCell ⟨w.heap.size,2,none⟩ (.int .i64 eh)).setCell ⟨w.heap.size,3,none⟩ (.int .i64 ej)).setCell ⟨w.heap.size,4,none⟩ (.int .i64 eo)).setCell ⟨w.heap.size,5,none⟩ (.int .i64 ey)).setCell ⟨w.heap.size,6,none⟩ (.int .i64 ev)).setCell ⟨w.heap.size,7,none⟩ (.int .i64 er)=Y at *;refine hK _ _ (RN.KeepsN.of_below (WR6.below (Nat.le_refl _))) ?_;clear hK K
    repeat first|(refine qC fun K hK=>?_;go_simp;refine hK _ _ ?_;clear hK K)|refine qA ?_
    obtain⟨hw2,hk2⟩:=HW.o.wrR hwk hkp ho' rfl WR6;exact⟨w.heap.size,rfl,rfl,WR6.row,hb.trans (WR6.below hB),HP.o.kp hk2,ve',H.o.walked hk2 hw2 fun k e=>(ho' k e).imp id fun h=>by omega⟩
  ·rintro e a' X ⟨b3,rfl,rfl,r3,hb,hgb,ve',hla⟩
   have HB:=qj hb;have HL:=qj hla;have x0:=qg hgb.1 0;have x1:=qg hgb.2 0;have lx0:=qh hgb.1;have lx1:=qh hgb.2;obtain⟨vs',hdr,-⟩:=hla.dr;have x4:X.cell? ⟨C.bD,4,none⟩=some (.func (.func 144) #[.pointer (some ⟨C.bM,0,none⟩)] #[]):=qg hdr.row 4;have lxD:=qh hdr.row;have R3:=qj r3;have qc:=qg R3.o;have q0:X.cell? ⟨b3,0,none⟩=some (.int .i64 ek):=qc 0;have q1:X.cell? ⟨b3,1,none⟩=some (.int .i64 ex):=qc 1;have q2:X.cell? ⟨b3,2,none⟩=some (.int .i64 eh):=qc 2;have q3:X.cell? ⟨b3,3,none⟩=some (.int .i64 ej):=qc 3;have q4:X.cell? ⟨b3,4,none⟩=some (.int .i64 eo):=qc 4;have q5:X.cell? ⟨b3,5,none⟩=some (.int .i64 ey):=qc 5;have q6:X.cell? ⟨b3,6,none⟩=some (.int .i64 ev):=qc 6;have q7:X.cell? ⟨b3,7,none⟩=some (.int .i64 er):=qc 7;clear qc;have lx3:=qh R3.o;clear hb hgb hla hdr r3 d0 d1 e2 hcA hcB;go_wp2_with fail;have hfin:Calls Tryz.prog 144 #[.pointer (some ⟨C.bM,0,none⟩),.int .i64 i,yv ⟨ek,ex,eh,ej,eo,ey,ev,er⟩] X.drew (yS C P i Y0 X.drew):=by
    by_cases he:ek=1
    ·subst he
     rw[HY0.o];exact la_react1 (HL.o.below (Below.refl _ X).drew) i hi ex eh ej eo ey ev er
    ·rw [HY0.o,if_neg he]
     obtain⟨tm,r,s,hws⟩:=HK4.o he;exact la_react (HL.o.below (Below.refl _ X).drew) i hi ek ex eh ej eo ey ev er he hws
   have HF:=qj hfin;clear hfin;refine qH [1,0,0,1,1,1,2,0] [0,1,2,3,4,5,6,7] (by kernel_rfl) ?_;simp only[qP,qD,sD,sE,sF,sG]
   repeat first|(refine qC fun K hK=>?_;go_simp;refine hK _ _ ?_;clear hK K)|(apply qJ;(intro w2 hw2;have hk1:=hw2.cell;have hk3:=hw2.heap;clear hw2;go_simp;with_reducible rfl);simp only[Act.put,sA,sB,sC])
   refine qN (fun K hK=>?_);go_simp;refine(HF.o).mono ?_;rintro e X1 ⟨v,ve',us',rfl,hb,hla,hx⟩;refine hK _ _ ?_;clear hK K HF;have HB1:=qj (HB.o.trans ((Below.refl C.B X).drew.trans hb));have HL1:=qj hla;have HX1:=qj hx;clear hb hla hx x0 x1 x4 q0 q1 q2 q3 q4 q5 q6 q7
   repeat first|(refine qC fun K hK=>?_;go_simp;refine hK _ _ ?_;clear hK K)|refine qA ?_
   go_wp2;go_ret;exact⟨_,ve',us',rfl,HB1.o,HL1.o,HX1.o⟩
end
end
section
attribute [local irreducible] xL
section
variable {w w':World} {C:LC} {ve:Value} {P:Pg} {M:LM} {us:List WkV}
theorem NxAt.form {i:Nat} {v:Value} {x:Nx} (h:NxAt w C i ve v x):v=.nilFunc\/∃f a c,v=.func f a c:=by
 cases x with
 |none=>exact .inl h
 |abort=>obtain⟨_,_,rfl,-⟩:=h;exact .inr ⟨_,_,_,rfl⟩
 |commit=>obtain⟨_,_,rfl,-⟩:=h;exact .inr ⟨_,_,_,rfl⟩
 |tick=>obtain⟨_,_,rfl,-⟩:=h;exact .inr ⟨_,_,_,rfl⟩
 |lock l=>
  cases l
  ·exact absurd h id
  ·obtain ⟨_,_,_,rfl,-⟩:=h;exact .inr ⟨_,_,_,rfl⟩
 |look n l=>
  cases l
  ·exact absurd h id
  ·obtain ⟨_,_,_,_,rfl,-⟩:=h;exact .inr ⟨_,_,_,rfl⟩
 |write n l=>
  cases l
  ·exact absurd h id
  ·obtain ⟨_,_,_,_,rfl,-⟩:=h;exact .inr ⟨_,_,_,rfl⟩
 |ans e=>obtain⟨_,_,_,rfl,-⟩:=h;exact .inr ⟨_,_,_,rfl⟩
theorem qX.drRow (h:qX w C ve us P M):w.heap[C.bD]?=some (.cells #[C.pc,C.pt,.pointer (some ⟨C.bW,0,none⟩),.slice (some ⟨C.gN,0,none⟩) P.threads.length P.threads.length,C.rf] 129 (0,0)):=let ⟨_,h1,_⟩:=h.dr;h1.row
theorem qX.nxRow (h:qX w C ve us P M):∃cs,w.heap[C.gN]?=some (.cells cs 131 (0,0)):=by
 obtain⟨_,h1,_⟩:=h.dr;exact h1.next.keepObj C.gN rfl
theorem qX.nxB (h:qX w C ve us P M):C.B<=C.gN:=by
 obtain⟨_,h1,_⟩:=h.dr;exact(h1.next.lt C.gN rfl).1
theorem qX.nxCell (h:qX w C ve us P M) {i:Nat} (hi:i < P.threads.length):∃v,w.cell? ⟨C.gN,i,none⟩=some v:=by
 obtain⟨vs,h1,_⟩:=h.dr;obtain⟨g,u,hg,-,-,hu⟩:=h1.next.at1 h1.next.len hi
 simp only[Option.some.injEq,Addr.mk.injEq,and_true] at hg;subst hg;exact⟨u,hu⟩
theorem qX.nxAt (h:qX w C ve us P M) {i:Nat} (hi:i < P.threads.length):∃v x,w.cell? ⟨C.gN,i,none⟩=some v/\M.nx[i]?=some x/\NxAt w C i ve v x:=by
 obtain⟨vs,h1,h2,h3⟩:=h.dr;obtain⟨g,u,hg,-,hv,hu⟩:=h1.next.at1 h1.next.len hi
 simp only[Option.some.injEq,Addr.mk.injEq,and_true] at hg;subst hg;obtain⟨x,hx⟩:∃x,M.nx[i]?=some x:=⟨_,List.getElem?_eq_getElem (by omega)⟩
 exact⟨u,x,hu,hx,h3 i u x hv hx⟩
def Ms (t:TypeId):Prop:=t=131
theorem DrAt.setNext {B bD bW gT gN:Nat} {vc vt pc pt rf:Value} {S:yk} {nx:List Value} (h:DrAt w B bD bW gT gN vc vt ve pc pt rf P S nx) (i:Nat) (v:Value):DrAt (w.setCell ⟨gN,i,none⟩ v) B bD bW gT gN vc vt ve pc pt rf P S (nx.set i v):=by
 obtain⟨cs,hr⟩:=h.next.keepObj gN rfl
 have hk:Kd Ms w (w.setCell ⟨gN,i,none⟩ v):=Kd.set (T:=Ms) hr rfl v;exact⟨hk _ _ _ _ h.row (by unfold Ms;decide),h.hB,⟨hk _ _ _ _ h.walk.row (by unfold Ms;decide),h.walk.hB,qq.kd h.walk.cells hk (by unfold Ms;decide),h.walk.thr.kd hk (by unfold Ms;decide) (by unfold Ms;decide) (by unfold Ms;decide),qq.kd h.walk.ths hk (by unfold Ms;decide),qq.kd h.walk.evs hk (by unfold Ms;decide),h.walk.ok,h.walk.tok⟩,qq.kd h.pcells hk (by unfold Ms;decide),h.pthr.kd hk (by unfold Ms;decide) (by unfold Ms;decide) (by unfold Ms;decide),own_set1 h.next v i⟩
theorem qX.nxSet (h:qX w C ve us P M) {i:Nat} (hi:i < P.threads.length) {v:Value} {x:Nx} (hx:NxAt w C i ve v x):qX (w.setCell ⟨C.gN,i,none⟩ v) C ve us P {M with nx:=M.nx.set i x}:=by
 obtain⟨cs,hr⟩:=h.nxRow;obtain⟨vs,h1,h2,h3⟩:=h.dr;have hk:Kd Ms w (w.setCell ⟨C.gN,i,none⟩ v):=Kd.set (T:=Ms) hr rfl v;have kp:∀{j:Nat} {u:Value} {z:Nx},NxAt w C j ve u z->NxAt (w.setCell ⟨C.gN,i,none⟩ v) C j ve u z:=fun hn=>NxAt.keep hn (fun p u hp=>hk _ _ _ _ hp (by unfold Ms;decide)) (fun p u hp=>hk _ _ _ _ hp (by unfold Ms;decide)) (fun p u hp=>hk _ _ _ _ hp (by unfold Ms;decide)) fun p cs hp he=>⟨hk _ _ _ _ hp (by unfold Ms;decide),he⟩
 refine⟨hk _ _ _ _ h.row (by unfold Ms;decide),h.hB,⟨vs.set i v,h1.setNext i v,by rw[List.length_set];exact h2,fun j u z hu hz=>?_⟩,qq.kd h.cells hk (by unfold Ms;decide),h.clen,h.wks.keep (qq.kd h.wks.own hk (by unfold Ms;decide)) (KmAll.set hr v),fun k cs hf=>hk _ _ _ _ (h.fr k cs hf) (by unfold Ms;decide)⟩;by_cases e:i=j
 ·subst e
  rw[List.getElem?_set_self (by have:=(List.getElem?_eq_some_iff.1 hu).1;simpa using this)] at hu;rw[List.getElem?_set_self (by have:=(List.getElem?_eq_some_iff.1 hz).1;simpa using this)] at hz;obtain rfl:=Option.some.inj hu;obtain rfl:=Option.some.inj hz;exact kp hx
 ·rw [List.getElem?_set_ne e] at hu hz
  exact kp (h3 j u z hu hz)
def StepMidXX (C:LC) (P:Pg) (w:World) (i:Nat) (fid:FuncId) (caps:Array Value) (y:LM×Nx):Exit->Act->World->Prop:=fun e a' X=>
 ∃(v:Value),e=.normal/\a'={tmps:=#[.pointer (some ⟨C.bD,0,none⟩),.int .i64 i,undef,undef,.bool false,.func (.func fid) #[] caps,.pointer (some ⟨C.bD,0,none⟩),.pointer (some ⟨C.bD,0,none⟩),.pointer (some ⟨C.bD,2,none⟩),.pointer (some ⟨C.bW,0,none⟩),.int .i64 i,.bool false,.pointer (some ⟨C.bD,0,none⟩),.pointer (some ⟨C.bD,0,none⟩),.pointer (some ⟨C.bD,3,none⟩),.slice (some ⟨C.gN,0,none⟩) P.threads.length P.threads.length,.int .i64 i,.pointer (some ⟨C.gN,i,none⟩),.func (.func fid) #[] caps,.func (.func fid) #[] caps,.bool false,undef,undef,undef,.pointer (some ⟨C.bD,0,none⟩),.pointer (some ⟨C.bD,0,none⟩),.pointer (some ⟨C.bD,3,none⟩),.slice (some ⟨C.gN,0,none⟩) P.threads.length P.threads.length,.int .i64 i,.func (.func fid) #[] caps,v,.pointer (some ⟨C.gN,i,none⟩)],defers:=[]}/\Below C.B w X/\∃ve' us',qX X C ve' us' P {y.1 with nx:=y.1.nx.set i y.2}
theorem d_stepXX (h:qX w C ve us P M) (i:Nat) (hi:i < P.threads.length) (hd:ye P M.W i=false) {fid:FuncId} {caps:Array Value} (hv:w.cell? ⟨C.gN,i,none⟩=some (.func (.func fid) #[] caps)) {y:LM×Nx} (hent:∀(args:Array Value) (w:World),Sem.run Tryz.prog (callFunc fid args) w=.ok (.enter fid args) w)
  (hc:∀w',Below w.heap.size w w'->Calls Tryz.prog fid caps w' (yS C P i y w')):
  Calls Tryz.prog 36 #[.pointer (some ⟨C.bD,0,none⟩),.int .i64 i] w (yR C P {y.1 with nx:=y.1.nx.set i y.2} (.bool true) w):=by
 have hn4:=h.ok.threads.2;have hdr:=h.drRow;have d2:=qg hdr 2;have d3:=qg hdr 3;have lD:=qh hdr;obtain⟨csN,rN⟩:=h.nxRow;have lN:=qh rN;obtain⟨vs,hdr2,-,-⟩:=h.dr;have hwd:=qj (wk_done hdr2.walk i);have H:=qj h;have HC:=qj (hc w.drew.drew ((Below.refl w.heap.size w).drew.drew));have HCA:=qj hc;have qn:Sem.run Tryz.prog (binOp BinOp.eql 131 (.func (.func fid) #[] caps) Value.nilFunc) w.drew=.ok (.bool false) w.drew:=by kernel_rfl
 have BW:=qj (Below.refl C.B w).drew;rw[hd] at hwd;clear h hc hdr hdr2 rN;go_enter Tryz.func36,Tryz.ntmps36;go_wp2_with fail;refine(hwd.o).mono ?_;rintro e w1 ⟨rfl,rfl⟩;go_wp2_with fail;refine wp_mono (Q:=StepMidXX C P w i fid caps y) ?_ ?_
 ·
  refine qT (w.heap.size) [0,0,0,1,0,0,2,0,2] (.frk [0,1,2,4,5] (.fin [3,6,7,8]) (.fin [6,3,7,8])) (by kernel_rfl) ?_;simp only[yp,qP,qD,sD,sE,sF,sG]
  repeat first|(refine qC fun K hK=>?_;go_simp;refine hK _ _ ?_;clear hK K)|refine qA ?_
  refine⟨?_,?_⟩
  ·
   repeat (apply qJ;(intro w2 hw2;have hk1:=hw2.cell;have hk3:=hw2.1;clear hw2;go_simp;with_reducible rfl);simp only[Act.put,sA,sB,sC])
   refine qN (fun K hK=>?_);go_simp;refine(HC.o).mono ?_;rintro e X1 ⟨v,ve',us',rfl,hb,hla,hx⟩;refine hK _ _ ?_;clear hK K;have hb1:Below C.B w.drew X1:=(Below.refl C.B w.drew).drew.trans hb;have f2:=hla.nxCell hi;have f3:=hla.nxRow;have f4:=qh hla.drRow;have f5:=qh f3.choose_spec;have f6:=qx f3.choose_spec i;have f7:X1.cell? ⟨C.bD,3,none⟩=some (.slice (some ⟨C.gN,0,none⟩) P.threads.length P.threads.length):=qg hla.drRow 3;obtain⟨ov,f2⟩:=f2;have HL1:=qj hla;have HX1:=qj hx;have HB1:=qj hb1;clear hb hla hx f3 hb1;rcases HX1.o.form with rfl|⟨fa,fb,fc,rfl⟩
   all_goals
    repeat (refine qC fun K hK=>?_;go_simp;refine hK _ _ ?_;clear hK K)
    refine qN (fun K hK=>?_);go_simp;refine hK _ _ ?_;clear hK K
    repeat refine qA ?_
    exact⟨_,rfl,rfl,(BW.o.trans HB1.o).setCell (p:=⟨C.gN,i,none⟩) HL1.o.nxB _,ve',us',HL1.o.nxSet hi HX1.o⟩
  ·
   refine qN (fun K hK=>?_);go_simp;refine(HC.o).mono ?_;rintro e X1 ⟨v,ve',us',rfl,hb,hla,hx⟩;refine hK _ _ ?_;clear hK K;have hb1:Below C.B w.drew X1:=(Below.refl C.B w.drew).drew.trans hb;have f2:=hla.nxCell hi;have f3:=hla.nxRow;have f4:=qh hla.drRow;have f5:=qh f3.choose_spec;have f6:=qx f3.choose_spec i;have f7:X1.cell? ⟨C.bD,3,none⟩=some (.slice (some ⟨C.gN,0,none⟩) P.threads.length P.threads.length):=qg hla.drRow 3;obtain⟨ov,f2⟩:=f2;have HL1:=qj hla;have HX1:=qj hx;have HB1:=qj hb1;clear hb hla hx f3 hb1;rcases HX1.o.form with rfl|⟨fa,fb,fc,rfl⟩
   all_goals
    repeat first|(refine qC fun K hK=>?_;go_simp;refine hK _ _ ?_;clear hK K)|(apply qJ;(intro w2 hw2;have hk1:=hw2.cell;have hk3:=hw2.1;clear hw2;go_simp;with_reducible rfl);simp only[Act.put,sA,sB,sC])
    refine qN (fun K hK=>?_);go_simp;refine hK _ _ ?_;clear hK K
    repeat refine qA ?_
    exact⟨_,rfl,rfl,(BW.o.trans HB1.o).setCell (p:=⟨C.gN,i,none⟩) HL1.o.nxB _,ve',us',HL1.o.nxSet hi HX1.o⟩
 ·rintro e a' X ⟨v,rfl,rfl,hb,ve',us',hla⟩
  have HB:=qj hb;have HL:=qj hla;clear hb hla HC;go_wp2;go_ret;exact⟨rfl,HB.o,ve',us',HL.o⟩
def StepMidGO (C:LC) (P:Pg) (w:World) (i:Nat) (p1 p2:Nat) (y:LM×Nx):Exit->Act->World->Prop:=fun e a' X=>
 ∃(v:Value),e=.normal/\a'={tmps:=#[.pointer (some ⟨C.bD,0,none⟩),.int .i64 i,undef,undef,.bool false,.func (.func 114) #[] #[.pointer (some ⟨p1,0,none⟩),.pointer (some ⟨p2,0,none⟩)],.pointer (some ⟨C.bD,0,none⟩),.pointer (some ⟨C.bD,0,none⟩),.pointer (some ⟨C.bD,2,none⟩),.pointer (some ⟨C.bW,0,none⟩),.int .i64 i,.bool false,.pointer (some ⟨C.bD,0,none⟩),.pointer (some ⟨C.bD,0,none⟩),.pointer (some ⟨C.bD,3,none⟩),.slice (some ⟨C.gN,0,none⟩) P.threads.length P.threads.length,.int .i64 i,.pointer (some ⟨C.gN,i,none⟩),.nilFunc,.nilFunc,.bool true,.pointer (some ⟨C.bD,0,none⟩),.int .i64 i,.func (.func 114) #[] #[.pointer (some ⟨p1,0,none⟩),.pointer (some ⟨p2,0,none⟩)],.pointer (some ⟨C.bD,0,none⟩),.pointer (some ⟨C.bD,0,none⟩),.pointer (some ⟨C.bD,3,none⟩),.slice (some ⟨C.gN,0,none⟩) P.threads.length P.threads.length,.int .i64 i,.func (.func 114) #[] #[.pointer (some ⟨p1,0,none⟩),.pointer (some ⟨p2,0,none⟩)],v,.pointer (some ⟨C.gN,i,none⟩)],defers:=[]}/\Below C.B w X/\∃ve' us',qX X C ve' us' P {y.1 with nx:=y.1.nx.set i y.2}
theorem d_goOn (b:Nat) (i:Int) (w:World):Calls Tryz.prog 67 #[.pointer (some ⟨b,0,none⟩),.int .i64 i] w fun e w'=>e=.returned (.func (.func 114) #[] #[.pointer (some ⟨w.heap.size,0,none⟩),.pointer (some ⟨w.heap.size+1,0,none⟩)])/\w'=(w.alloc (.cells #[.pointer (some ⟨b,0,none⟩)] 82)).alloc (.cells #[.int .i64 i] 3):=by
 go_enter Tryz.func67,Tryz.ntmps67;go_wp2;go_ret;exact⟨rfl,rfl⟩
theorem d_stepGO (h:qX w C ve us P M) (i:Nat) (hi:i < P.threads.length) (hd:ye P M.W i=false) (hv:w.cell? ⟨C.gN,i,none⟩=some .nilFunc) {y:LM×Nx}
  (hc:∀w' p1 p2,Below w.heap.size w w'->GoBox C i p1 p2 w'->Calls Tryz.prog 114 #[.pointer (some ⟨p1,0,none⟩),.pointer (some ⟨p2,0,none⟩)] w' (yS C P i y w')):
  Calls Tryz.prog 36 #[.pointer (some ⟨C.bD,0,none⟩),.int .i64 i] w (yR C P {y.1 with nx:=y.1.nx.set i y.2} (.bool true) w):=by
 have hn4:=h.ok.threads.2;have hdr:=h.drRow;have d2:=qg hdr 2;have d3:=qg hdr 3;have lD:=qh hdr;obtain⟨csN,rN⟩:=h.nxRow;have lN:=qh rN;obtain⟨vs,hdr2,-,-⟩:=h.dr;have hwd:=qj (wk_done hdr2.walk i);have H:=qj h;have HCA:=qj hc;have qn:Sem.run Tryz.prog (binOp BinOp.eql 131 .nilFunc Value.nilFunc) w.drew=.ok (.bool true) w.drew:=by kernel_rfl
 rw[hd] at hwd;clear h hc hdr hdr2 rN;go_enter Tryz.func36,Tryz.ntmps36;go_wp2_with fail;refine(hwd.o).mono ?_;rintro e w1 ⟨rfl,rfl⟩;go_wp2_with fail;refine(d_goOn _ _ _).mono ?_;rintro e w1 ⟨rfl,hw1⟩;have bX:Below w.heap.size w w1:=by rw[hw1];exact((Below.refl w.heap.size w).drew.alloc (Nat.le_refl _) _).alloc (by simp) _
 have hgb:GoBox C i w.heap.size (w.heap.size+1) w1:=by
  rw[hw1];exact⟨qF (qL (w:=w.drew) rfl),qL (by simp)⟩
 obtain⟨p1,hp1⟩:∃p,p=w.heap.size:=⟨_,rfl⟩
 obtain⟨p2,hp2⟩:∃p,p=w.heap.size+1:=⟨_,rfl⟩
 have d3:=qu bX lD d3;have zX:=bX.size;have hBw:=H.o.size;have HC:=qj (HCA.o w1.drew _ _ (bX.drew) (show GoBox C i w.heap.size (w.heap.size+1) w1.drew from hgb));have BW:=qj (bX.mono hBw);have lDX:C.bD < w1.heap.size:=by omega
 have e1:w.drew.heap.size=w.heap.size:=rfl;rw[e1];rw[←hp2,←hp1] at HC ⊢;have HP:=qj (And.intro hp1 hp2);clear hw1 bX hgb qn hp1 hp2 e1 d2;go_wp2_with fail;refine wp_mono (Q:=StepMidGO C P w i p1 p2 y) ?_ ?_
 ·
  refine qT (w.heap.size) [0,0,0,1,0,0,2,0,2] (.frk [0,1,2,4,5] (.fin [3,6,7,8]) (.fin [6,3,7,8])) (by kernel_rfl) ?_;simp only[yp,qP,qD,sD,sE,sF,sG]
  repeat first|(refine qC fun K hK=>?_;go_simp;refine hK _ _ ?_;clear hK K)|refine qA ?_
  refine⟨?_,?_⟩
  ·
   repeat (apply qJ;(intro w2 hw2;have hk1:=hw2.cell;have hk3:=hw2.1;clear hw2;go_simp;with_reducible rfl);simp only[Act.put,sA,sB,sC])
   refine qN (fun K hK=>?_);go_simp;refine(HC.o).mono ?_;rintro e X1 ⟨v,ve',us',rfl,hb,hla,hx⟩;refine hK _ _ ?_;clear hK K;have hb1:Below C.B w1 X1:=(Below.refl C.B w1).drew.trans hb;have f2:=hla.nxCell hi;have f3:=hla.nxRow;have f4:=qh hla.drRow;have f5:=qh f3.choose_spec;have f6:=qx f3.choose_spec i;have f7:X1.cell? ⟨C.bD,3,none⟩=some (.slice (some ⟨C.gN,0,none⟩) P.threads.length P.threads.length):=qg hla.drRow 3;obtain⟨ov,f2⟩:=f2;have HL1:=qj hla;have HX1:=qj hx;have HB1:=qj hb1;clear hb hla hx f3 hb1;rcases HX1.o.form with rfl|⟨fa,fb,fc,rfl⟩
   all_goals
    repeat (refine qC fun K hK=>?_;go_simp;refine hK _ _ ?_;clear hK K)
    refine qN (fun K hK=>?_);go_simp;refine hK _ _ ?_;clear hK K
    repeat refine qA ?_
    exact⟨_,rfl,rfl,(BW.o.trans HB1.o).setCell (p:=⟨C.gN,i,none⟩) HL1.o.nxB _,ve',us',HL1.o.nxSet hi HX1.o⟩
  ·
   refine qN (fun K hK=>?_);go_simp;refine(HC.o).mono ?_;rintro e X1 ⟨v,ve',us',rfl,hb,hla,hx⟩;refine hK _ _ ?_;clear hK K;have hb1:Below C.B w1 X1:=(Below.refl C.B w1).drew.trans hb;have f2:=hla.nxCell hi;have f3:=hla.nxRow;have f4:=qh hla.drRow;have f5:=qh f3.choose_spec;have f6:=qx f3.choose_spec i;have f7:X1.cell? ⟨C.bD,3,none⟩=some (.slice (some ⟨C.gN,0,none⟩) P.threads.length P.threads.length):=qg hla.drRow 3;obtain⟨ov,f2⟩:=f2;have HL1:=qj hla;have HX1:=qj hx;have HB1:=qj hb1;clear hb hla hx f3 hb1;rcases HX1.o.form with rfl|⟨fa,fb,fc,rfl⟩
   all_goals
    repeat first|(refine qC fun K hK=>?_;go_simp;refine hK _ _ ?_;clear hK K)|(apply qJ;(intro w2 hw2;have hk1:=hw2.cell;have hk3:=hw2.1;clear hw2;go_simp;with_reducible rfl);simp only[Act.put,sA,sB,sC])
    refine qN (fun K hK=>?_);go_simp;refine hK _ _ ?_;clear hK K
    repeat refine qA ?_
    exact⟨_,rfl,rfl,(BW.o.trans HB1.o).setCell (p:=⟨C.gN,i,none⟩) HL1.o.nxB _,ve',us',HL1.o.nxSet hi HX1.o⟩
 ·rintro e a' X ⟨v,rfl,rfl,hb,ve',us',hla⟩
  have HB:=qj hb;have HL:=qj hla;clear hb hla HC;go_wp2;go_ret;exact⟨rfl,HB.o,ve',us',HL.o⟩
end
end
section
attribute [local irreducible] xL
def stepIn (P:Pg) (M:LM) (i:Nat):LM:=match M.W.ths[i]?,M.nx[i]? with
 |some t,some x=>let y:=doStep P M i t x (woT M.ws[i]?) (woR M.ws[i]?) (woS M.ws[i]?);{y.1 with nx:=y.1.nx.set i y.2}
 |_,_=>M
def yn (P:Pg) (M:LM) (i:Int):LM:=if ye P M.W i then M else stepIn P M i.toNat
structure CanStep (P:Pg) (M:LM):Prop where
 evs:M.W.evs.length<=100000
 ces:∀c ∈ M.cs,-999999000<=c.val/\c.val<=999999000
 clk:0<=M.clk/\M.clk<=1000000
 nxt:∀(i:Nat) (t:Th) (x:Nx),M.W.ths[i]?=some t->M.nx[i]?=some x->match x with
  |.none=>t.begun=true->∃tm r s,M.ws[i]?=some (some (tm,r,s))
  |.abort=>t.begun=true
  |.commit=>True
  |.lock l=>l≠[]/\l.length<=4/\(∀k ∈ l,0<=k/\k < P.cells.length)/\t.begun=true
  |.tick=>∃tm r s,M.ws[i]?=some (some (tm,r,s))
  |.look _ l=>l≠[]/\l.length<=4/\(∀k ∈ l,0<=k/\k < P.cells.length)/\t.begun=true/\∃tm r s,M.ws[i]?=some (some (tm,r,s))
  |.write _ l=>l≠[]/\l.length<=4/\(∀k ∈ l,0<=k/\k < P.cells.length)/\∃tm r s,M.ws[i]?=some (some (tm,r,s))
  |.ans e=>∃(tm:Int) (r:MB) (s:MI) (k:Nat),M.ws[i]?=some (some (tm,r,s))/\e.obj=k/\k < P.cells.length/\WoCan P r s/\t.begun=true
section
variable {w w':World} {C:LC} {ve:Value} {P:Pg} {M:LM} {us:List WkV}
theorem qX.thsLen (h:qX w C ve us P M):M.W.ths.length=P.threads.length:=let ⟨_,h1,_⟩:=h.dr;h1.walk.ths.len
theorem yR.next {i:Nat} {M':LM} {e:Ending} (h:yR C P M' .nilFunc w e w'):yS C P i (M',.none) w e w':=by
 obtain⟨rfl,hb,ve',us',hl⟩:=h;exact⟨_,ve',us',rfl,hb,hl,rfl⟩
theorem d_step (h:qX w C ve us P M) (hc:CanStep P M) (i:Nat) (hi:i < P.threads.length) (hd:ye P M.W i=false):
  Calls Tryz.prog 36 #[.pointer (some ⟨C.bD,0,none⟩),.int .i64 i] w (yR C P (stepIn P M i) (.bool true) w):=by
 obtain⟨t,ht⟩:∃t,M.W.ths[i]?=some t:=⟨_,List.getElem?_eq_getElem (by rw[h.thsLen];exact hi)⟩
 obtain⟨v,x,hv,hx,hn⟩:=h.nxAt hi;have hst:stepIn P M i={(doStep P M i t x (woT M.ws[i]?) (woR M.ws[i]?) (woS M.ws[i]?)).1 with nx:=(doStep P M i t x (woT M.ws[i]?) (woR M.ws[i]?) (woS M.ws[i]?)).1.nx.set i (doStep P M i t x (woT M.ws[i]?) (woR M.ws[i]?) (woS M.ws[i]?)).2}:=by
  unfold stepIn;rw[ht,hx]
 rw[hst];have hcx:=hc.nxt i t x ht hx;have hdn:qR P i t=false:=by rw[←wDone_th ht];exact hd
 cases x with
 |none=>
  obtain rfl:v=.nilFunc:=hn;exact d_stepGO h i hi hd hv fun w1 p1 p2 hb hg=>la_goOn (h.below hb) i hi ht hc.evs hcx hg
 |abort=>
  obtain⟨p1,p2,rfl,h1⟩:=id hn;exact d_stepXX h i hi hd hv (enters_of Tryz.func236 (by kernel_rfl) rfl) fun w1 hb=>(la_abort1 (h.below hb) i hi ht hdn hcx hc.evs (h1.below hb)).mono fun e w2 he=>yR.next he
 |commit=>
  obtain⟨p1,p2,rfl,h1⟩:=id hn;exact d_stepXX h i hi hd hv (enters_of Tryz.func237 (by kernel_rfl) rfl) fun w1 hb=>(la_com1 (h.below hb) i hi ht hc.evs (h1.below hb)).mono fun e w2 he=>yR.next he
 |lock l=>
  obtain⟨hne,hl4,hkl,hbg⟩:=hcx;cases l with
  |nil=>exact absurd rfl hne
  |cons k l=>
   obtain⟨p1,p2,p3,rfl,h1,h3⟩:=id hn;exact d_stepXX h i hi hd hv (enters_of Tryz.func239 (by kernel_rfl) rfl) fun w1 hb=>la_lock1 (h.below hb) i hi ht hdn hbg hc.evs k l hl4 hkl (h1.below hb) (h3.below hb)
 |tick=>
  obtain⟨p1,p2,rfl,h1⟩:=id hn;obtain⟨tm,r,s,hws⟩:=hcx;have e0:woT M.ws[i]?=tm:=by rw[hws];rfl
  have e1:woR M.ws[i]?=r:=by rw[hws];rfl
  have e2:woS M.ws[i]?=s:=by rw[hws];rfl
  rw[e0,e1,e2];exact d_stepXX h i hi hd hv (enters_of Tryz.func251 (by kernel_rfl) rfl) fun w1 hb=>la_tick1 (h.below hb) i hi hws hc.clk (h1.below hb)
 |look now l=>
  obtain⟨hne,hl4,hkl,hbg,tm,r,s,hws⟩:=hcx;have e0:woT M.ws[i]?=tm:=by rw[hws];rfl
  have e1:woR M.ws[i]?=r:=by rw[hws];rfl
  have e2:woS M.ws[i]?=s:=by rw[hws];rfl
  rw[e0,e1,e2];cases l with
  |nil=>exact absurd rfl hne
  |cons k l=>
   obtain⟨p1,p2,p3,p4,rfl,h1,h3,h4⟩:=id hn;exact d_stepXX h i hi hd hv (enters_of Tryz.func258 (by kernel_rfl) rfl) fun w1 hb=>la_look1 (h.below hb) i hi ht hdn hbg hc.evs hws now k l hl4 hkl (h1.below hb) (h3.below hb) (h4.below hb)
 |write now l=>
  obtain⟨hne,hl4,hkl,tm,r,s,hws⟩:=hcx;have e0:woT M.ws[i]?=tm:=by rw[hws];rfl
  have e1:woR M.ws[i]?=r:=by rw[hws];rfl
  have e2:woS M.ws[i]?=s:=by rw[hws];rfl
  rw[e0,e1,e2];cases l with
  |nil=>exact absurd rfl hne
  |cons k l=>
   obtain⟨p1,p2,p3,p4,rfl,h1,h3,h4⟩:=id hn;exact d_stepXX h i hi hd hv (enters_of Tryz.func260 (by kernel_rfl) rfl) fun w1 hb=>la_write1 (h.below hb) i hi hws now k l hl4 hkl (h1.below hb) (h3.below hb) (h4.below hb)
 |ans e=>
  obtain⟨p1,p2,p3,rfl,h1,h3,-⟩:=id hn;obtain⟨tm,r,s,k,hws,hk,hkn,hcn,hbg⟩:=hcx;have e0:woT M.ws[i]?=tm:=by rw[hws];rfl
  have e1:woR M.ws[i]?=r:=by rw[hws];rfl
  have e2:woS M.ws[i]?=s:=by rw[hws];rfl
  rw[e0,e1,e2];obtain⟨ek,ex,eh,ej,eo,ey,ev,er⟩:=e;simp only at hk;subst hk;exact d_stepXX h i hi hd hv (enters_of Tryz.func195 (by kernel_rfl) rfl) fun w1 hb=>(la_ans1 (h.below hb) i hi ht hdn hbg hc.evs hws hcn k ek ex eh eo ey ev er hkn hc.ces (h1.below hb) (qp h3 hb (qh h3))).mono fun e w2 he=>yR.next he
theorem d_stepNo (h:qX w C ve us P M) (i:Int) (hd:ye P M.W i=true):
  Calls Tryz.prog 36 #[.pointer (some ⟨C.bD,0,none⟩),.int .i64 i] w fun e w'=>e=.returned (.bool false)/\w'=w.drew:=by
 have hdr:=h.drRow;have d2:=qg hdr 2;have lD:=qh hdr;obtain⟨vs,hdr2,-,-⟩:=h.dr;have hwd:=qj (wk_done hdr2.walk i);rw[hd] at hwd;clear h hdr hdr2;go_enter Tryz.func36,Tryz.ntmps36;go_wp2_with fail;refine(hwd.o).mono ?_;rintro e w1 ⟨rfl,rfl⟩;go_wp2;go_ret;exact⟨rfl,rfl⟩
theorem la_step (h:qX w C ve us P M) (hc:CanStep P M) (i:Int):
  Calls Tryz.prog 294 #[.pointer (some ⟨C.bM,0,none⟩),.int .i64 i] w (yR C P (yn P M i) (.bool !ye P M.W i) w):=by
 have hin:Calls Tryz.prog 36 #[.pointer (some ⟨C.bD,0,none⟩),.int .i64 i] w (yR C P (yn P M i) (.bool !ye P M.W i) w):=by
  cases hd:ye P M.W i with
  |true=>
   have:yn P M i=M:=by unfold yn;rw[hd];rfl
   rw[this];refine(d_stepNo h i hd).mono ?_;rintro e w1 ⟨rfl,rfl⟩;exact⟨rfl,(Below.refl _ _).drew,ve,us,h.below (Below.refl _ _).drew⟩
  |false=>
   obtain⟨k,rfl,hk⟩:=wDone_in h.thsLen hd;have:yn P M k=stepIn P M k:=by unfold yn;rw[hd];rfl
   rw[this];exact d_step h hc k hk hd
 have d0:=qg h.row 0;have lM:=qh h.row;have HI:=qj hin;clear hin h;generalize yn P M i=y at *;generalize (!ye P M.W i)=b at *;go_enter Tryz.func294,Tryz.ntmps294;go_wp2_with fail;refine(HI.o).mono ?_;rintro e w1 ⟨rfl,hb,ve',us',hla⟩;have HB:=qj hb;have HL:=qj hla;clear hb hla d0 HI;go_wp2;go_ret;exact⟨rfl,HB.o,ve',us',HL.o⟩
theorem la_done (h:qX w C ve us P M):Calls Tryz.prog 292 #[.pointer (some ⟨C.bM,0,none⟩)] w fun e w'=>e=.returned (.bool (zj P M.W))/\Below w.heap.size w w':=by
 have d0:=qg h.row 0;have lM:=qh h.row;obtain⟨vs,hdr2,-,-⟩:=h.dr;have HI:=qj (d_done hdr2);clear h hdr2;generalize zj P M.W=b at *;go_enter Tryz.func292,Tryz.ntmps292;go_wp2_with fail;refine(HI.o).mono ?_;rintro e w1 ⟨rfl,hb⟩;have HB:=qj hb;clear hb d0 HI;go_wp2;go_ret;exact⟨rfl,HB.o⟩
theorem la_history (h:qX w C ve us P M) (hl:M.W.evs.length<=100000):Calls Tryz.prog 293 #[.pointer (some ⟨C.bM,0,none⟩)] w (HistRet (xe P) M.W.evs w):=by
 have d0:=qg h.row 0;have lM:=qh h.row;obtain⟨vs,hdr2,-,-⟩:=h.dr;have b0:Below w.heap.size w (w.alloc (.cells #[.slice none 0 0,.slice none 0 0] 37)):=(Below.refl _ w).alloc (Nat.le_refl _) _;have r0:=qy w (.cells #[.slice none 0 0,.slice none 0 0] 37);have z0:(w.alloc (.cells #[.slice none 0 0,.slice none 0 0] 37)).heap.size=w.heap.size+1:=by simp
 have HI:=qj (d_history (hdr2.below b0) hl);have B0:=qj b0;have R0:=qj r0;have Z0:=qj z0;clear h hdr2 b0 r0 z0;generalize xe P=os at *;generalize M.W.evs=es at *;go_enter Tryz.func293,Tryz.ntmps293;go_wp2_with fail;refine(HI.o).mono ?_;clear HI;generalize w.alloc (.cells #[.slice none 0 0,.slice none 0 0] 37)=X at *;rintro e w1 ⟨ov,vv,rfl,ho,hv,hb⟩;obtain⟨ao,co,rfl,-⟩:=ho.form2;obtain⟨ae,ce,rfl,-⟩:=hv.form2;have zX:=Z0.o;have r1:=qp R0.o hb (by omega);have y0:=qg r1 0;have y1:=qg r1 1;have yf:∀j,w1.frozen? ⟨w.heap.size,j,none⟩=false:=fun j=>qx r1 j;have l1:=qh r1;have HB:=qj (B0.o.trans (hb.mono (by omega)));have HO:=qj (qq.base ho (show w.heap.size<=X.heap.size by omega));have HV:=qj (qq.base hv (show w.heap.size<=X.heap.size by omega));have R1:=qj r1;clear hb ho hv r1 zX d0 B0 R0 Z0;go_wp2;have r4:=row2 (u1:=.slice ao os.length co) (u2:=.slice ae es.length ce) R1.o;have c0:=qg r4 0;have c1:=qg r4 1;simp only[List.getElem?_toArray,List.getElem?_cons_zero,List.getElem?_cons_succ] at c0 c1;refine bodyPost_ret (v:=.agg #[.slice ao os.length co,.slice ae es.length ce]) (by simp[results,Tryz.results293,go_sem,c0,c1]) rfl ⟨_,_,rfl,?_,?_,?_⟩
 ·exact qq.box2 HO.o R1.o (by decide)
 ·exact qq.box2 HV.o R1.o (by decide)
 ·exact (HB.o.setCell (p:=⟨w.heap.size,0,none⟩) (Nat.le_refl _) _).setCell (p:=⟨w.heap.size,1,none⟩) (Nat.le_refl _) _
end
end
