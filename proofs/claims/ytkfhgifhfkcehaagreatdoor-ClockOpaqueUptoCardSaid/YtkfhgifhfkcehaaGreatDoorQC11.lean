/- Parts of the proof; the first: hist.Clone: a history laid anew. Conditions: those of each theorem, as typed. -/
import Derived.Test.YtkfhgifhfkcehaaGreatDoorQC10
import Derived.Test.YtkfhgifhfkcehaaGreatDoorQC03
import Derived.Test.YtkfhgifhfkcehaaGreatDoorQC04
set_option linter.unusedVariables false
set_option linter.unusedSimpArgs false
set_option linter.unusedSectionVars false
set_option maxRecDepth 100000
set_option maxHeartbeats 4000000
namespace Go.Proofs.YtkfhgifhfkcehaaGreatDoor
open Go.Maps Go.RowKit
section
attribute [local irreducible] xL
theorem h_Clone (ov ev:Value) (os:List Ob) (es:List Ev) (w:World) (ho:Sl w w.heap.size 2 ov os.length (os.flatMap Ob.cells)) (he:Sl w w.heap.size 8 ev es.length (es.flatMap Ev.cells)) (hol:os.length<=100000) (hel:es.length<=100000):
  Calls Tryz.prog 188 #[.agg #[ov,ev]] w (HistRet os es w):=by
 obtain⟨ao,co,rfl,mo⟩:=ho.ex;obtain⟨ae,ce,rfl,me⟩:=he.ex;have b0:Below w.heap.size w ((w.alloc (.cells #[.slice ao os.length co,.slice ae es.length ce] 37)).alloc (.cells #[.slice none 0 0,.slice none 0 0] 37)):=((Below.refl _ w).alloc (Nat.le_refl _) _).alloc (by simp) _;have r0:=qF (o:=.cells #[.slice none 0 0,.slice none 0 0] 37) (qy w (.cells #[.slice ao os.length co,.slice ae es.length ce] 37));have r1:=qL (w:=w.alloc (.cells #[.slice ao os.length co,.slice ae es.length ce] 37)) (o:=.cells #[.slice none 0 0,.slice none 0 0] 37) (g:=w.heap.size+1) (by simp);have z0:((w.alloc (.cells #[.slice ao os.length co,.slice ae es.length ce] 37)).alloc (.cells #[.slice none 0 0,.slice none 0 0] 37)).heap.size=w.heap.size+2:=by simp
 have HO:=qj ho;have HE:=qj he;clear ho he;go_enter Tryz.func188,Tryz.ntmps188;go_wp2_with fail;generalize (w.alloc (.cells #[.slice ao os.length co,.slice ae es.length ce] 37)).alloc (.cells #[.slice none 0 0,.slice none 0 0] 37)=W at *;have B0:=qj b0;have R0:=qj r0;have R1:=qj r1;have d0:=qg r0 0;have d1:=qg r0 1;simp at d0 d1;have lw:w.heap.size < W.heap.size:=by omega
 clear b0 r0 r1;refine qT (W.heap.size) [0,1,0,3,0,1,3,0,1,0,3,0,1,3,0,2] (.frk [0,1,2,4,5,7,8,9,11,12] (.frk [3] (.fin [6,10,13,14,15]) (.fin [10,6,13,14,15])) (.fin [10,3,6,13,14,15])) (by kernel_rfl) ?_;simp only[yp,qP,qD,sD,sE,sF,sG]
 repeat first|(refine qC fun K hK=>?_;go_simp;refine hK _ _ ?_;clear hK K)|(apply qJ;(intro w2 hw2;have hk1:=hw2.cell;have hk3:=hw2.1;clear hw2;go_simp;with_reducible rfl);simp only[Act.put,sA,sB,sC])|refine qZ rfl rfl ?_|(refine xX rfl rfl fun K hK=>?_;simp only[Act.put,sA,sB,sC];refine hK _ _ ?_;clear hK K)|refine qA ?_
 have b0:Below W.heap.size W W.drew:=(Below.refl _ W).drew;have s0:=b0.size;refine⟨?_,?_⟩
 ·refine qI (fun K hK=>?_)
  refine yF (f:=Ob.cells) (e:=96) (sz:=2) (B:=W.heap.size) _ _ _ rfl _ 16 Tryz.underlying34 infoO rfl rfl (by first|omega|(simp <;> omega)) (by first|omega|(simp <;> omega)) (by first|omega|(simp <;> omega)) ?_;intro w1 o1A g1 z1;refine hK _ _ (RN.KeepsN.of_below (g1.mono (by have:=b0.size;omega))) ?_;clear hK K;have b1:Below W.heap.size W w1:=b0.trans (g1.mono b0.size);have s1:=b1.size
  repeat first|(refine qC fun K hK=>?_;go_simp;refine hK _ _ ?_;clear hK K)|(apply qJ;(intro w2 hw2;have hk1:=hw2.cell;have hk3:=hw2.1;clear hw2;go_simp;with_reducible rfl);simp only[Act.put,sA,sB,sC])|refine qZ rfl rfl ?_|(refine xX rfl rfl fun K hK=>?_;simp only[Act.put,sA,sB,sC];refine hK _ _ ?_;clear hK K)|refine qA ?_
  refine⟨?_,?_⟩
  ·refine qI (fun K hK=>?_)
   refine yD _ _ _ rfl _ 16 Tryz.underlying34 infoO rfl o1A os rfl ((HO.o.below B0.o).below (b1.mono (by omega))) (by first|omega|(simp <;> omega)) rfl rfl Ob.len ob_one (by first|omega|(simp <;> omega)) (by first|omega|(simp <;> omega)) ?_;intro v2 w2 o2A g2;have g2b:=g2.below b1.size fun k h=>(o1A.lt k h).1;refine hK _ _ (RN.KeepsN.of_below g2b) ?_;clear hK K;obtain⟨a2,c2,rfl,-⟩:=qq.form2 (show qq Ob.cells 96 2 w2 W.heap.size v2 os from o2A);have o2A:qq Ob.cells 96 2 w2 W.heap.size (.slice a2 os.length c2) os:=o2A;have b2:Below W.heap.size W w2:=b1.trans g2b;have s2:=b2.size
   repeat first|(refine qC fun K hK=>?_;go_simp;refine hK _ _ ?_;clear hK K)|(apply qJ;(intro w2 hw2;have hk1:=hw2.cell;have hk3:=hw2.1;clear hw2;go_simp;with_reducible rfl);simp only[Act.put,sA,sB,sC])|refine qZ rfl rfl ?_|(refine xX rfl rfl fun K hK=>?_;simp only[Act.put,sA,sB,sC];refine hK _ _ ?_;clear hK K)|refine qA ?_
   refine qI (fun K hK=>?_);refine yF (f:=Ev.cells) (e:=53) (sz:=8) (B:=W.heap.size) _ _ _ rfl _ 64 Tryz.underlying35 infoE rfl rfl (by first|omega|(simp <;> omega)) (by first|omega|(simp <;> omega)) (by first|omega|(simp <;> omega)) ?_;intro w3 o3B g3 z3;refine hK _ _ (RN.KeepsN.of_below (g3.mono (by have:=b2.size;omega))) ?_;clear hK K;have b3:Below W.heap.size W w3:=b2.trans (g3.mono b2.size);have s3:=b3.size;have o3A:=qq.below o2A g3
   repeat first|(refine qC fun K hK=>?_;go_simp;refine hK _ _ ?_;clear hK K)|(apply qJ;(intro w2 hw2;have hk1:=hw2.cell;have hk3:=hw2.1;clear hw2;go_simp;with_reducible rfl);simp only[Act.put,sA,sB,sC])|refine qZ rfl rfl ?_|(refine xX rfl rfl fun K hK=>?_;simp only[Act.put,sA,sB,sC];refine hK _ _ ?_;clear hK K)|refine qA ?_
   refine qI (fun K hK=>?_);refine yD _ _ _ rfl _ 64 Tryz.underlying35 infoE rfl o3B es rfl ((HE.o.below B0.o).below (b3.mono (by omega))) (by first|omega|(simp <;> omega)) rfl rfl Ev.len ev_one (by first|omega|(simp <;> omega)) (by first|omega|(simp <;> omega)) ?_;intro v4 w4 o4B g4;have g4b:=g4.below b3.size fun k h=>(o3B.lt k h).1;refine hK _ _ (RN.KeepsN.of_below g4b) ?_;clear hK K;obtain⟨a4,c4,rfl,-⟩:=qq.form2 (show qq Ev.cells 53 8 w4 W.heap.size v4 es from o4B);have o4B:qq Ev.cells 53 8 w4 W.heap.size (.slice a4 es.length c4) es:=o4B;have b4:Below W.heap.size W w4:=b3.trans g4b;have s4:=b4.size;have o4A:=qq.grwT o3A o3B (by decide) g4;have OA:=qj o4A;have OB:=qj o4B;have BF:=qj b4;have zF:=b4.size;have RF:=qj (qp R1.o b4 (by omega));have y0:=qg RF.o 0;have y1:=qg RF.o 1;have yf:∀j,w4.frozen? ⟨w.heap.size+1,j,none⟩=false:=fun j=>qx RF.o j;have ly:=qh RF.o;clear g1 g2 g3 g4 b0 b1 b2 b3 b4 d0 d1 o1A o2A o3A o3B o4A o4B
   repeat first|(refine qC fun K hK=>?_;go_simp;refine hK _ _ ?_;clear hK K)|(apply qJ;(intro w2 hw2;have hk1:=hw2.cell;have hk3:=hw2.1;clear hw2;go_simp;with_reducible rfl);simp only[Act.put,sA,sB,sC])|refine qZ rfl rfl ?_|(refine xX rfl rfl fun K hK=>?_;simp only[Act.put,sA,sB,sC];refine hK _ _ ?_;clear hK K)|refine qA ?_
   refine qN (fun K hK=>?_);go_simp;refine hK _ _ ?_;clear hK K
   repeat first|(refine qC fun K hK=>?_;go_simp;refine hK _ _ ?_;clear hK K)|(apply qJ;(intro w2 hw2;have hk1:=hw2.cell;have hk3:=hw2.1;clear hw2;go_simp;with_reducible rfl);simp only[Act.put,sA,sB,sC])|refine qZ rfl rfl ?_|(refine xX rfl rfl fun K hK=>?_;simp only[Act.put,sA,sB,sC];refine hK _ _ ?_;clear hK K)|refine qA ?_
   go_wp2;have r4:=row2 (u1:=.slice a2 os.length c2) (u2:=.slice a4 es.length c4) RF.o;have c0:=qg r4 0;have c1:=qg r4 1;simp only[List.getElem?_toArray,List.getElem?_cons_zero,List.getElem?_cons_succ] at c0 c1;refine bodyPost_ret (v:=.agg #[.slice a2 os.length c2,.slice a4 es.length c4]) (by simp[results,Tryz.results188,go_sem,c0,c1]) rfl ⟨_,_,rfl,?_,?_,?_⟩
   ·exact qq.base (qq.box2 OA.o RF.o (by decide)) (by omega)
   ·exact qq.base (qq.box2 OB.o RF.o (by decide)) (by omega)
   ·exact ((B0.o.trans (BF.o.mono (by omega))).setCell (p:=⟨w.heap.size+1,0,none⟩) (by show w.heap.size<=w.heap.size+1;omega) _).setCell (p:=⟨w.heap.size+1,1,none⟩) (by show w.heap.size<=w.heap.size+1;omega) _
  ·refine qI (fun K hK=>?_)
   refine yF (f:=Ev.cells) (e:=53) (sz:=8) (B:=W.heap.size) _ _ _ rfl _ 64 Tryz.underlying35 infoE rfl rfl (by first|omega|(simp <;> omega)) (by first|omega|(simp <;> omega)) (by first|omega|(simp <;> omega)) ?_;intro w2 o2B g2 z2;refine hK _ _ (RN.KeepsN.of_below (g2.mono (by have:=b1.size;omega))) ?_;clear hK K;have b2:Below W.heap.size W w2:=b1.trans (g2.mono b1.size);have s2:=b2.size;have o2A:=qq.below o1A g2
   repeat first|(refine qC fun K hK=>?_;go_simp;refine hK _ _ ?_;clear hK K)|(apply qJ;(intro w2 hw2;have hk1:=hw2.cell;have hk3:=hw2.1;clear hw2;go_simp;with_reducible rfl);simp only[Act.put,sA,sB,sC])|refine qZ rfl rfl ?_|(refine xX rfl rfl fun K hK=>?_;simp only[Act.put,sA,sB,sC];refine hK _ _ ?_;clear hK K)|refine qA ?_
   refine qI (fun K hK=>?_);refine yD _ _ _ rfl _ 16 Tryz.underlying34 infoO rfl o2A os rfl ((HO.o.below B0.o).below (b2.mono (by omega))) (by first|omega|(simp <;> omega)) rfl rfl Ob.len ob_one (by first|omega|(simp <;> omega)) (by first|omega|(simp <;> omega)) ?_;intro v3 w3 o3A g3;have g3b:=g3.below b2.size fun k h=>(o2A.lt k h).1;refine hK _ _ (RN.KeepsN.of_below g3b) ?_;clear hK K;obtain⟨a3,c3,rfl,-⟩:=qq.form2 (show qq Ob.cells 96 2 w3 W.heap.size v3 os from o3A);have o3A:qq Ob.cells 96 2 w3 W.heap.size (.slice a3 os.length c3) os:=o3A;have b3:Below W.heap.size W w3:=b2.trans g3b;have s3:=b3.size;have o3B:=qq.grwT o2B o2A (by decide) g3
   repeat first|(refine qC fun K hK=>?_;go_simp;refine hK _ _ ?_;clear hK K)|(apply qJ;(intro w2 hw2;have hk1:=hw2.cell;have hk3:=hw2.1;clear hw2;go_simp;with_reducible rfl);simp only[Act.put,sA,sB,sC])|refine qZ rfl rfl ?_|(refine xX rfl rfl fun K hK=>?_;simp only[Act.put,sA,sB,sC];refine hK _ _ ?_;clear hK K)|refine qA ?_
   refine qI (fun K hK=>?_);refine yD _ _ _ rfl _ 64 Tryz.underlying35 infoE rfl o3B es rfl ((HE.o.below B0.o).below (b3.mono (by omega))) (by first|omega|(simp <;> omega)) rfl rfl Ev.len ev_one (by first|omega|(simp <;> omega)) (by first|omega|(simp <;> omega)) ?_;intro v4 w4 o4B g4;have g4b:=g4.below b3.size fun k h=>(o3B.lt k h).1;refine hK _ _ (RN.KeepsN.of_below g4b) ?_;clear hK K;obtain⟨a4,c4,rfl,-⟩:=qq.form2 (show qq Ev.cells 53 8 w4 W.heap.size v4 es from o4B);have o4B:qq Ev.cells 53 8 w4 W.heap.size (.slice a4 es.length c4) es:=o4B;have b4:Below W.heap.size W w4:=b3.trans g4b;have s4:=b4.size;have o4A:=qq.grwT o3A o3B (by decide) g4;have OA:=qj o4A;have OB:=qj o4B;have BF:=qj b4;have zF:=b4.size;have RF:=qj (qp R1.o b4 (by omega));have y0:=qg RF.o 0;have y1:=qg RF.o 1;have yf:∀j,w4.frozen? ⟨w.heap.size+1,j,none⟩=false:=fun j=>qx RF.o j;have ly:=qh RF.o;clear g1 g2 g3 g4 b0 b1 b2 b3 b4 d0 d1 o1A o2A o2B o3A o3B o4A o4B
   repeat first|(refine qC fun K hK=>?_;go_simp;refine hK _ _ ?_;clear hK K)|(apply qJ;(intro w2 hw2;have hk1:=hw2.cell;have hk3:=hw2.1;clear hw2;go_simp;with_reducible rfl);simp only[Act.put,sA,sB,sC])|refine qZ rfl rfl ?_|(refine xX rfl rfl fun K hK=>?_;simp only[Act.put,sA,sB,sC];refine hK _ _ ?_;clear hK K)|refine qA ?_
   refine qN (fun K hK=>?_);go_simp;refine hK _ _ ?_;clear hK K
   repeat first|(refine qC fun K hK=>?_;go_simp;refine hK _ _ ?_;clear hK K)|(apply qJ;(intro w2 hw2;have hk1:=hw2.cell;have hk3:=hw2.1;clear hw2;go_simp;with_reducible rfl);simp only[Act.put,sA,sB,sC])|refine qZ rfl rfl ?_|(refine xX rfl rfl fun K hK=>?_;simp only[Act.put,sA,sB,sC];refine hK _ _ ?_;clear hK K)|refine qA ?_
   go_wp2;have r4:=row2 (u1:=.slice a3 os.length c3) (u2:=.slice a4 es.length c4) RF.o;have c0:=qg r4 0;have c1:=qg r4 1;simp only[List.getElem?_toArray,List.getElem?_cons_zero,List.getElem?_cons_succ] at c0 c1;refine bodyPost_ret (v:=.agg #[.slice a3 os.length c3,.slice a4 es.length c4]) (by simp[results,Tryz.results188,go_sem,c0,c1]) rfl ⟨_,_,rfl,?_,?_,?_⟩
   ·exact qq.base (qq.box2 OA.o RF.o (by decide)) (by omega)
   ·exact qq.base (qq.box2 OB.o RF.o (by decide)) (by omega)
   ·exact ((B0.o.trans (BF.o.mono (by omega))).setCell (p:=⟨w.heap.size+1,0,none⟩) (by show w.heap.size<=w.heap.size+1;omega) _).setCell (p:=⟨w.heap.size+1,1,none⟩) (by show w.heap.size<=w.heap.size+1;omega) _
 ·refine qI (fun K hK=>?_)
  refine yF (f:=Ev.cells) (e:=53) (sz:=8) (B:=W.heap.size) _ _ _ rfl _ 64 Tryz.underlying35 infoE rfl rfl (by first|omega|(simp <;> omega)) (by first|omega|(simp <;> omega)) (by first|omega|(simp <;> omega)) ?_;intro w1 o1B g1 z1;refine hK _ _ (RN.KeepsN.of_below (g1.mono (by have:=b0.size;omega))) ?_;clear hK K;have b1:Below W.heap.size W w1:=b0.trans (g1.mono b0.size);have s1:=b1.size
  repeat first|(refine qC fun K hK=>?_;go_simp;refine hK _ _ ?_;clear hK K)|(apply qJ;(intro w2 hw2;have hk1:=hw2.cell;have hk3:=hw2.1;clear hw2;go_simp;with_reducible rfl);simp only[Act.put,sA,sB,sC])|refine qZ rfl rfl ?_|(refine xX rfl rfl fun K hK=>?_;simp only[Act.put,sA,sB,sC];refine hK _ _ ?_;clear hK K)|refine qA ?_
  refine qI (fun K hK=>?_);refine yF (f:=Ob.cells) (e:=96) (sz:=2) (B:=W.heap.size) _ _ _ rfl _ 16 Tryz.underlying34 infoO rfl rfl (by first|omega|(simp <;> omega)) (by first|omega|(simp <;> omega)) (by first|omega|(simp <;> omega)) ?_;intro w2 o2A g2 z2;refine hK _ _ (RN.KeepsN.of_below (g2.mono (by have:=b1.size;omega))) ?_;clear hK K;have b2:Below W.heap.size W w2:=b1.trans (g2.mono b1.size);have s2:=b2.size;have o2B:=qq.below o1B g2
  repeat first|(refine qC fun K hK=>?_;go_simp;refine hK _ _ ?_;clear hK K)|(apply qJ;(intro w2 hw2;have hk1:=hw2.cell;have hk3:=hw2.1;clear hw2;go_simp;with_reducible rfl);simp only[Act.put,sA,sB,sC])|refine qZ rfl rfl ?_|(refine xX rfl rfl fun K hK=>?_;simp only[Act.put,sA,sB,sC];refine hK _ _ ?_;clear hK K)|refine qA ?_
  refine qI (fun K hK=>?_);refine yD _ _ _ rfl _ 16 Tryz.underlying34 infoO rfl o2A os rfl ((HO.o.below B0.o).below (b2.mono (by omega))) (by first|omega|(simp <;> omega)) rfl rfl Ob.len ob_one (by first|omega|(simp <;> omega)) (by first|omega|(simp <;> omega)) ?_;intro v3 w3 o3A g3;have g3b:=g3.below b2.size fun k h=>(o2A.lt k h).1;refine hK _ _ (RN.KeepsN.of_below g3b) ?_;clear hK K;obtain⟨a3,c3,rfl,-⟩:=qq.form2 (show qq Ob.cells 96 2 w3 W.heap.size v3 os from o3A);have o3A:qq Ob.cells 96 2 w3 W.heap.size (.slice a3 os.length c3) os:=o3A;have b3:Below W.heap.size W w3:=b2.trans g3b;have s3:=b3.size;have o3B:=qq.grwT o2B o2A (by decide) g3
  repeat first|(refine qC fun K hK=>?_;go_simp;refine hK _ _ ?_;clear hK K)|(apply qJ;(intro w2 hw2;have hk1:=hw2.cell;have hk3:=hw2.1;clear hw2;go_simp;with_reducible rfl);simp only[Act.put,sA,sB,sC])|refine qZ rfl rfl ?_|(refine xX rfl rfl fun K hK=>?_;simp only[Act.put,sA,sB,sC];refine hK _ _ ?_;clear hK K)|refine qA ?_
  refine qI (fun K hK=>?_);refine yD _ _ _ rfl _ 64 Tryz.underlying35 infoE rfl o3B es rfl ((HE.o.below B0.o).below (b3.mono (by omega))) (by first|omega|(simp <;> omega)) rfl rfl Ev.len ev_one (by first|omega|(simp <;> omega)) (by first|omega|(simp <;> omega)) ?_;intro v4 w4 o4B g4;have g4b:=g4.below b3.size fun k h=>(o3B.lt k h).1;refine hK _ _ (RN.KeepsN.of_below g4b) ?_;clear hK K;obtain⟨a4,c4,rfl,-⟩:=qq.form2 (show qq Ev.cells 53 8 w4 W.heap.size v4 es from o4B);have o4B:qq Ev.cells 53 8 w4 W.heap.size (.slice a4 es.length c4) es:=o4B;have b4:Below W.heap.size W w4:=b3.trans g4b;have s4:=b4.size;have o4A:=qq.grwT o3A o3B (by decide) g4;have OA:=qj o4A;have OB:=qj o4B;have BF:=qj b4;have zF:=b4.size;have RF:=qj (qp R1.o b4 (by omega));have y0:=qg RF.o 0;have y1:=qg RF.o 1;have yf:∀j,w4.frozen? ⟨w.heap.size+1,j,none⟩=false:=fun j=>qx RF.o j;have ly:=qh RF.o;clear g1 g2 g3 g4 b0 b1 b2 b3 b4 d0 d1 o1B o2A o2B o3A o3B o4A o4B
  repeat first|(refine qC fun K hK=>?_;go_simp;refine hK _ _ ?_;clear hK K)|(apply qJ;(intro w2 hw2;have hk1:=hw2.cell;have hk3:=hw2.1;clear hw2;go_simp;with_reducible rfl);simp only[Act.put,sA,sB,sC])|refine qZ rfl rfl ?_|(refine xX rfl rfl fun K hK=>?_;simp only[Act.put,sA,sB,sC];refine hK _ _ ?_;clear hK K)|refine qA ?_
  refine qN (fun K hK=>?_);go_simp;refine hK _ _ ?_;clear hK K
  repeat first|(refine qC fun K hK=>?_;go_simp;refine hK _ _ ?_;clear hK K)|(apply qJ;(intro w2 hw2;have hk1:=hw2.cell;have hk3:=hw2.1;clear hw2;go_simp;with_reducible rfl);simp only[Act.put,sA,sB,sC])|refine qZ rfl rfl ?_|(refine xX rfl rfl fun K hK=>?_;simp only[Act.put,sA,sB,sC];refine hK _ _ ?_;clear hK K)|refine qA ?_
  go_wp2;have r4:=row2 (u1:=.slice a3 os.length c3) (u2:=.slice a4 es.length c4) RF.o;have c0:=qg r4 0;have c1:=qg r4 1;simp only[List.getElem?_toArray,List.getElem?_cons_zero,List.getElem?_cons_succ] at c0 c1;refine bodyPost_ret (v:=.agg #[.slice a3 os.length c3,.slice a4 es.length c4]) (by simp[results,Tryz.results188,go_sem,c0,c1]) rfl ⟨_,_,rfl,?_,?_,?_⟩
  ·exact qq.base (qq.box2 OA.o RF.o (by decide)) (by omega)
  ·exact qq.base (qq.box2 OB.o RF.o (by decide)) (by omega)
  ·exact ((B0.o.trans (BF.o.mono (by omega))).setCell (p:=⟨w.heap.size+1,0,none⟩) (by show w.heap.size<=w.heap.size+1;omega) _).setCell (p:=⟨w.heap.size+1,1,none⟩) (by show w.heap.size<=w.heap.size+1;omega) _
end
section
attribute [local irreducible] xL
theorem qq.cap {α:Type} {f:α->List Value} {e:TypeId} {sz n c B:Nat} {a:Option Addr} {w:World} {l:List α} (h:qq f e sz w B (.slice a n c) l):l.length<=c:=by
 obtain⟨-,h|⟨g,cap,cur,hv,-,-,hc,-⟩⟩:=h
 ·omega
 ·simp only[Value.slice.injEq] at hv
  omega
theorem Sl.take {α:Type} {f:α->List Value} {w:World} {B sz n c:Nat} {a:Option Addr} {l:List α} (hf:∀x,(f x).length=sz) (h:Sl w B sz (.slice a n c) n (l.flatMap f)) (hl:l.length=n) {m:Nat} (hm:m<=n):Sl w B sz (.slice a m c) m ((l.take m).flatMap f):=by
 obtain⟨a',c',hv,hn,hlen,hc⟩:=h;simp only[Value.slice.injEq,true_and] at hv;obtain⟨rfl,rfl⟩:=hv;refine⟨a,c,rfl,by omega,?_,fun h0=>?_⟩
 ·have:∀l:List α,(l.flatMap f).length=l.length*sz:=by
   intro l
   induction l with
   |nil=>simp
   |cons x l ih=>simp[ih,hf,Nat.add_mul,Nat.add_comm]
  rw[this,List.length_take];congr 1;omega
 ·obtain ⟨b,off,ha,hb,hcc⟩:=hc (by omega)
  refine⟨b,off,ha,hb,fun j u hu=>hcc j u ?_⟩;have hp:(l.take m).flatMap f <+:l.flatMap f:=by
   rw[←List.take_append_drop m l,List.flatMap_append,List.take_append_drop];exact List.prefix_append _ _
  obtain⟨r,hr⟩:=hp;rw[←hr];exact List.getElem?_append_left (List.getElem?_eq_some_iff.1 hu).1▸hu
theorem sizeE (w:World):(sizeOf (Tryz.prog.elem 35)).run Tryz.prog w=.ok 8 w:=by kernel_rfl
theorem h_Prefix (ov:Value) (ae:Option Addr) (ce:Nat) (os:List Ob) (es:List Ev) (n:Nat) (w:World) (ho:Sl w w.heap.size 2 ov os.length (os.flatMap Ob.cells)) (he:Sl w w.heap.size 8 (.slice ae es.length ce) es.length (es.flatMap Ev.cells)) (hcap:es.length<=ce) (hol:os.length<=100000) (hel:es.length<=100000):
  Calls Tryz.prog 190 #[.agg #[ov,.slice ae es.length ce],.int .i64 n] w (HistRet os (es.take n) w):=by
 obtain⟨ao,co,rfl,mo⟩:=ho.ex;obtain⟨m,hm⟩:∃m,m=min n es.length:=⟨_,rfl⟩
 have hmin:∀(ts:Array TypeId) (ty:TypeId) (X:World),(Builtin.min_ ts ty #[.int .i64 (n:Int),.int .i64 (es.length:Int)]).run Tryz.prog X=.ok (.int .i64 (m:Int)) X:=fun ts ty X=>by
  rw[run_min_int2,hm];congr 2;split <;> omega
 have hmax:∀(ts:Array TypeId) (ty:TypeId) (X:World),(Builtin.max_ ts ty #[.int .i64 (0:Int),.int .i64 (m:Int)]).run Tryz.prog X=.ok (.int .i64 (m:Int)) X:=fun ts ty X=>by
  rw[run_max_int2];congr 2;split <;> omega
 have hsl:∀X:World,(Instr.slice 35 (.slice ae es.length ce) none (some (.int .i64 (m:Int))) none).run Tryz.prog X=.ok (.slice ae m ce) X:=fun X=>by
  rw[run_slice_h X _ _ _ _ Tryz.underlying35 _ _ (by omega) (by omega),sizeE];simp only[Result.andThen,sliced,Int.toNat_natCast,Nat.sub_zero];congr 2
  split
  ·rfl
  ·cases ae <;> simp[Addr.add]
 have hst:es.take n=es.take m:=by
  rw[hm];rcases Nat.le_total n es.length with h|h
  ·rw [Nat.min_eq_left h]
  ·rw [Nat.min_eq_right h,List.take_of_length_le h,List.take_length]
 rw[hst];have hml:m<=es.length:=by omega
 have hlt:(es.take m).length=m:=by rw[List.length_take];omega
 have b0:Below w.heap.size w ((w.alloc (.cells #[.slice ao os.length co,.slice ae m ce] 37)).alloc (.cells #[.slice none 0 0,.slice none 0 0] 37)):=((Below.refl _ w).alloc (Nat.le_refl _) _).alloc (by simp) _;have r0:=qF (o:=.cells #[.slice none 0 0,.slice none 0 0] 37) (qy w (.cells #[.slice ao os.length co,.slice ae m ce] 37));have r1:=qL (w:=w.alloc (.cells #[.slice ao os.length co,.slice ae m ce] 37)) (o:=.cells #[.slice none 0 0,.slice none 0 0] 37) (g:=w.heap.size+1) (by simp);have z0:((w.alloc (.cells #[.slice ao os.length co,.slice ae m ce] 37)).alloc (.cells #[.slice none 0 0,.slice none 0 0] 37)).heap.size=w.heap.size+2:=by simp
 have hcl:=qj (h_Clone _ _ os (es.take m) _ ((ho.below b0).more (by omega)) (show Sl _ _ 8 (.slice ae m ce) (es.take m).length _ from by rw[hlt];exact((he.take Ev.len rfl hml).below b0).more (by omega)) hol (by rw[hlt];omega));have HLT:=qj hlt;clear ho he hst hm hlt;generalize es.take m=t at *;go_enter Tryz.func190,Tryz.ntmps190;go_wp2_with fail;have B0:=qj b0;have R1:=qj r1;clear b0 r1 r0;generalize (w.alloc (.cells #[.slice ao os.length co,.slice ae m ce] 37)).alloc (.cells #[.slice none 0 0,.slice none 0 0] 37)=W at *;refine(hcl.o).mono ?_;rintro e V ⟨vo,ve,rfl,oo,oe,bV⟩;obtain⟨a2,c2,rfl,-⟩:=oo.form2;obtain⟨a4,c4,rfl,-⟩:=oe.form2;have OA:=qj oo;have OB:=qj oe;have BF:=qj bV;have zF:=bV.size;have RF:=qj (qp R1.o bV (by omega));have y0:=qg RF.o 0;have y1:=qg RF.o 1;have yf:∀j,V.frozen? ⟨w.heap.size+1,j,none⟩=false:=fun j=>qx RF.o j;have ly:=qh RF.o;clear oo oe bV hcl;go_wp2;have r4:=row2 (u1:=.slice a2 os.length c2) (u2:=.slice a4 t.length c4) RF.o;have c0:=qg r4 0;have c1:=qg r4 1;simp only[List.getElem?_toArray,List.getElem?_cons_zero,List.getElem?_cons_succ] at c0 c1;refine bodyPost_ret (v:=.agg #[.slice a2 os.length c2,.slice a4 t.length c4]) (by simp[results,Tryz.results190,go_sem,c0,c1]) rfl ⟨_,_,rfl,?_,?_,?_⟩
 ·exact qq.base (qq.box2 OA.o RF.o (by decide)) (by omega)
 ·exact qq.base (qq.box2 OB.o RF.o (by decide)) (by omega)
 ·exact ((B0.o.trans (BF.o.mono (by omega))).setCell (p:=⟨w.heap.size+1,0,none⟩) (by show w.heap.size<=w.heap.size+1;omega) _).setCell (p:=⟨w.heap.size+1,1,none⟩) (by show w.heap.size<=w.heap.size+1;omega) _
end
section
attribute [local irreducible] xL
def SC (x:Int):List Value:=[.int .i64 1,.int .i64 x,.slice none 0 0,.slice none 0 0]
theorem SC_len (x:Int):(SC x).length=4:=rfl
abbrev scV (x:Int):Value:=.agg #[.int .i64 1,.int .i64 x,.slice none 0 0,.slice none 0 0]
theorem infoSC:(Tryz.prog.info? 99).map (fun i=>(i.zero,i.size,i.bytes))=some (some (.agg #[.int .i64 0,.int .i64 0,.slice none 0 0,.slice none 0 0]),4,64):=by kernel_rfl
theorem sc_one (x:Int):∀u ∈ SC x,u.oneCell'=true:=by intro u hu;simp[SC] at hu;rcases hu with rfl|rfl|rfl <;> rfl
abbrev OwnS:=qq SC 99 4
abbrev SlS (w:World) (B:Nat) (v:Value) (σ:List Int):Prop:=Sl w B 4 v σ.length (σ.flatMap SC)
abbrev stV (v:Value):Value:=.agg #[v]
theorem qq.objT {α:Type} {f:α->List Value} {e:TypeId} {sz:Nat} {w:World} {B g n c:Nat} {l:List α} (h:qq f e sz w B (.slice (some ⟨g,0,none⟩) n c) l):∃cs,w.heap[g]?=some (.cells cs e (0,0)):=by
 obtain⟨-,h2⟩:=h;rcases h2 with⟨h2,-⟩|⟨g',cap,cur,hv,-,hh,-⟩
 ·cases h2
 ·simp only[Value.slice.injEq,Option.some.injEq,Addr.mk.injEq,and_true] at hv
  obtain⟨rfl,-,-⟩:=hv;exact⟨cur,hh⟩
theorem flat_setS:∀(l:List Int) (k:Nat) (x:Int),k < l.length->(((((l.flatMap SC).set (k*4) (.int .i64 1)).set (k*4+1) (.int .i64 x)).set (k*4+2) (.slice none 0 0)).set (k*4+3) (.slice none 0 0))=(l.set k x).flatMap SC
 |[],k,x,h=>by simp at h
 |y::l,0,x,h=>by simp[SC]
 |y::l,k+1,x,h=>by
  have ih:=flat_setS l k x (by simpa using h);rw[show (k+1)*4=k*4+1+1+1+1 by omega];simp only[SC,List.flatMap_cons,List.cons_append,List.nil_append,List.set_cons_succ,List.cons.injEq,true_and];exact ih
theorem ownS_set {w:World} {B g n c:Nat} {l:List Int} (h:OwnS w B (.slice (some ⟨g,0,none⟩) n c) l) {k:Nat} (hk:k < l.length) (x:Int):
  OwnS ((((w.setCell ⟨g,k*4,none⟩ (.int .i64 1)).setCell ⟨g,k*4+1,none⟩ (.int .i64 x)).setCell ⟨g,k*4+2,none⟩ (.slice none 0 0)).setCell ⟨g,k*4+3,none⟩ (.slice none 0 0)) B (.slice (some ⟨g,0,none⟩) n c) (l.set k x):=by
 have hn:=qq.len h;subst hn;have:=xR (xR (xR (xR h (k*4) (.int .i64 1)) (k*4+1) (.int .i64 x)) (k*4+2) (.slice none 0 0)) (k*4+3) (.slice none 0 0);rw[flat_setS l k x hk] at this;unfold OwnS qq;rw[List.length_set];exact this
def SmallV (σ:List Int):Prop:=∀x ∈ σ,-1000000000<=x/\x<=1000000000
theorem l_All (v:Value) (σ:List Int) (w:World) (h:SlS w w.heap.size v σ) (hl:σ.length<=1000):
  Calls Tryz.prog 75 #[.agg #[v]] w fun e w'=>∃v',e=.returned v'/\OwnS w' w.heap.size v' σ/\Below w.heap.size w w':=by
 obtain⟨a,c,rfl,hm⟩:=h.ex;have b0:Below w.heap.size w (w.alloc (.cells #[.slice a σ.length c] 44)):=(Below.refl _ w).alloc (Nat.le_refl _) _;have r0:=qy w (.cells #[.slice a σ.length c] 44);have h1:=h.below b0;have hz0:w.heap.size < (w.alloc (.cells #[.slice a σ.length c] 44)).heap.size:=by simp
 go_enter Tryz.func75,Tryz.ntmps75;go_wp2;generalize w.alloc (.cells #[.slice a σ.length c] 44)=W at *;have y0:=qg r0 0;simp at y0;have H:=qj h1;have B0:=qj b0;clear h h1 b0 r0;refine qT (W.heap.size) [0,1,0,3,0,1,2,0] (.fin [0,1,2,4,5,3,6,7]) (by kernel_rfl) ?_;simp only[yp,qP,qD,sD,sE,sF,sG]
 repeat first|(refine qC fun K hK=>?_;go_simp;refine hK _ _ ?_;clear hK K)|(apply qJ;(intro w2 hw2;have hk1:=hw2.cell;have hk3:=hw2.1;clear hw2;go_simp;with_reducible rfl);simp only[Act.put,sA,sB,sC])
 refine qI (fun K hK=>?_);refine yF (f:=SC) (e:=99) (sz:=4) (B:=W.heap.size) _ _ _ rfl _ 64 Tryz.underlying42 infoSC rfl rfl (by first|omega|(simp <;> omega)) (by first|omega|(simp <;> omega)) (by first|omega|(simp <;> omega)) ?_;intro w1 o1 b1 z1;refine hK _ _ (RN.KeepsN.of_below b1) ?_;have b1:Below W.heap.size W w1:=(Below.refl _ W).drew.trans b1;have z1:W.heap.size+1<=w1.heap.size:=z1;clear hK K;refine qN (fun K hK=>?_);refine yD _ _ _ rfl _ 64 Tryz.underlying42 infoSC rfl o1 σ rfl (H.o.below (b1.mono (Nat.le_of_lt hz0))) (by first|omega|(simp <;> omega)) rfl rfl SC_len sc_one (by first|omega|(simp <;> omega)) (by first|omega|(simp <;> omega)) ?_;intro v' w2 o2 g2;refine hK _ _ ?_;clear hK K;have b2:=b1.trans (g2.below b1.size fun k h=>(o1.lt k h).1);have O2:=qj ((show OwnS w2 W.heap.size v' σ from o2).base (Nat.le_of_lt hz0));have B2:=qj (B0.o.trans (b2.mono (Nat.le_of_lt hz0)));clear o1 b1 g2 o2 b2
 repeat first|(refine qC fun K hK=>?_;go_simp;refine hK _ _ ?_;clear hK K)|refine qA ?_
 go_wp2;go_ret;exact⟨v',rfl,O2.o,B2.o⟩
theorem l_Of (v:Value) (σ:List Int) (w:World) (h:SlS w w.heap.size v σ) (hl:σ.length<=1000):
  Calls Tryz.prog 83 #[v] w fun e w'=>∃v',e=.returned (.agg #[v'])/\OwnS w' w.heap.size v' σ/\Below w.heap.size w w':=by
 obtain⟨a,c,rfl,hm⟩:=h.ex;have b0:Below w.heap.size w (w.alloc (.cells #[.slice none 0 0] 44)):=(Below.refl _ w).alloc (Nat.le_refl _) _;have r0:=qy w (.cells #[.slice none 0 0] 44);have h1:=h.below b0;have hz0:w.heap.size < (w.alloc (.cells #[.slice none 0 0] 44)).heap.size:=by simp
 go_enter Tryz.func83,Tryz.ntmps83;go_wp2_with (at_make;refine wpList_makeF (f:=SC) (e:=99) (sz:=4) (B:=w.heap.size+1) rfl _ _ _ rfl _ 64 Tryz.underlying42 infoSC rfl rfl (by first|omega|(simp <;> omega)) (by first|omega|(simp <;> omega)) (by first|omega|(simp <;> omega)) ?_;refine xt.halt ?_)
 refine xt.go ?_;generalize w.alloc (.cells #[.slice none 0 0] 44)=W at *;intro w1 o1 b1 z1;have r1:=qp r0 b1 (by omega);have src:=h1.below (b1.mono (by omega));have hzW:w.heap.size+1<=W.heap.size:=by omega
 go_wp2_with (at_builtin;refine wpList_appA rfl _ _ _ rfl _ 64 Tryz.underlying42 infoSC rfl o1 σ rfl src (by first|omega|(simp <;> omega)) rfl rfl SC_len sc_one (by first|omega|(simp <;> omega)) (by first|omega|(simp <;> omega)) ?_;refine xt.halt ?_)
 refine xt.go ?_;intro v' w2 o2 g2;have b2:=b1.trans (g2.below (by omega) fun k h=>(o1.lt k h).1);have r2:=qp r0 b2 (by omega);have o2:OwnS w2 (w.heap.size+1) v' σ:=o2;obtain⟨a',c',rfl,-⟩:=(qq.sl o2).ex;have y0:=qg r2 0;simp at y0;have yf:=qx r2 0;have l2:=qh r2;have o3:=qq.set (j:=0) (u:=.slice a' σ.length c') o2 (show w.heap.size < w.heap.size+1 by omega);have r3:=qB r2 0 (.slice a' σ.length c');have b3:Below w.heap.size w (w2.setCell ⟨w.heap.size,0,none⟩ (.slice a' σ.length c')):=(b0.trans (b2.mono (by omega))).setCell (p:=⟨w.heap.size,0,none⟩) (Nat.le_refl _) _;have R3:=qj r3;clear r0 r1 r2 r3 o1 o2 b1 b2 g2 h h1 src z1;go_wp2;have c0:=qg R3.o 0;simp at c0;refine bodyPost_ret (v:=.agg #[.slice a' σ.length c']) (by simp[results,Tryz.results83,go_sem,c0]) rfl ?_;exact⟨_,rfl,o3.base (by omega),b3⟩
theorem l_At (v:Value) (σ:List Int) (i:Nat) (x:Int) (w:World) (h:SlS w w.heap.size v σ) (hx:σ[i]?=some x):
  Calls Tryz.prog 78 #[.agg #[v],.int .i64 i] w fun e w'=>e=.returned (.tuple #[scV x,.bool true])/\Below w.heap.size w w':=by
 obtain⟨a,c,rfl,hm⟩:=h.ex;have hil:=(List.getElem?_eq_some_iff.1 hx).1;obtain⟨b,off,y,rfl,hb,hy,hc⟩:=h.atF SC_len rfl hil;rw[hx] at hy;obtain rfl:=Option.some.inj hy;have c0:=hc 0 (by decide);have c1:=hc 1 (by decide);have c2:=hc 2 (by decide);have c3:=hc 3 (by decide);simp[SC] at c0 c1 c2 c3;have q1:decide ((i:Int) < 0)=false:=by simp
 have q2:decide ((σ.length:Int)<=(i:Int))=false:=by simp;omega
 clear hc h hx hy;go_enter Tryz.func78,Tryz.ntmps78;go_wp2;refine bodyPost_ret (v:=.tuple #[scV x,.bool true]) (by simp[results,Tryz.results78,go_sem]) rfl ?_;exact⟨rfl,((Below.refl _ w).alloc (Nat.le_refl _) _).alloc (by simp) _⟩
theorem l_With (v:Value) (σ:List Int) (i:Nat) (x:Int) (w:World) (h:SlS w w.heap.size v σ) (hl:σ.length<=1000) (hi:i < σ.length):
  Calls Tryz.prog 47 #[.agg #[v],.int .i64 i,scV x] w fun e w'=>∃v',e=.returned (.agg #[v'])/\OwnS w' w.heap.size v' (σ.set i x)/\Below w.heap.size w w':=by
 obtain⟨a,c,rfl,hm⟩:=h.ex;have q1:decide ((i:Int) < 0)=false:=by simp
 have q2:decide ((σ.length:Int)<=(i:Int))=false:=by simp;omega
 have b0:Below w.heap.size w (((w.alloc (.cells #[.slice a σ.length c] 44)).alloc (.cells #[.int .i64 1,.int .i64 x,.slice none 0 0,.slice none 0 0] 99)).alloc (.cells #[.slice none 0 0] 44)):=(((Below.refl _ w).alloc (Nat.le_refl _) _).alloc (by simp) _).alloc (by simp;omega) _;go_enter Tryz.func47,Tryz.ntmps47;go_wp2_with fail;have r0:=qy ((w.alloc (.cells #[.slice a σ.length c] 44)).alloc (.cells #[.int .i64 1,.int .i64 x,.slice none 0 0,.slice none 0 0] 99)) (.cells #[.slice none 0 0] 44);have r1:=qF (o:=.cells #[.slice none 0 0] 44) (qy (w.alloc (.cells #[.slice a σ.length c] 44)) (.cells #[.int .i64 1,.int .i64 x,.slice none 0 0,.slice none 0 0] 99));simp only[World.size_alloc] at r0 r1;have hz:(((w.alloc (.cells #[.slice a σ.length c] 44)).alloc (.cells #[.int .i64 1,.int .i64 x,.slice none 0 0,.slice none 0 0] 99)).alloc (.cells #[.slice none 0 0] 44)).heap.size=w.heap.size+3:=by simp
 generalize ((w.alloc (.cells #[.slice a σ.length c] 44)).alloc (.cells #[.int .i64 1,.int .i64 x,.slice none 0 0,.slice none 0 0] 99)).alloc (.cells #[.slice none 0 0] 44)=W at *;refine(l_Of _ σ W ((h.below b0).more b0.size) hl).mono ?_;rintro e W1 ⟨v',rfl,o1,b1⟩;obtain⟨g,cap,hv,hg,hgl⟩:=(qq.form o1).resolve_left (fun h=>by rw[h.2] at hi;simp at hi);subst hv;have r0:=qp r0 b1 (by omega);have r1:=qp r1 b1 (by omega);have y:=qg r1;have y0:=y 0;have y1:=y 1;have y2:=y 2;have y3:=y 3;simp at y0 y1 y2 y3;have yr:=qg r0 0;simp at yr;have yf:=qx r0 0;have l0:=qh r0;have l1:=qh r1;have hzz:W.heap.size<=W1.heap.size:=b1.size;obtain⟨cs,hgc⟩:=qq.objT o1;have gf:∀j,W1.frozen? ⟨g,j,none⟩=false:=fun j=>qx hgc j;obtain⟨bq,oq,z,hq,-,-,hz4⟩:=(qq.sl o1).atF SC_len rfl hi;simp only[Option.some.injEq,Addr.mk.injEq,and_true] at hq;obtain⟨rfl,rfl⟩:=hq;have g0:=hz4 0 (by decide);have g1:=hz4 1 (by decide);have g2:=hz4 2 (by decide);have g3:=hz4 3 (by decide);simp[SC] at g0 g1 g2 g3;have gl:=qh hgc;clear hgc hz4;have oF:=qq.set (j:=0) (u:=.slice (some ⟨g,0,none⟩) σ.length cap) (ownS_set o1 hi x) (show w.heap.size+2 < W.heap.size by omega);have bF:=((((b1.setCell (p:=⟨g,i*4,none⟩) hg (.int .i64 1)).setCell (p:=⟨g,i*4+1,none⟩) hg (.int .i64 x)).setCell (p:=⟨g,i*4+2,none⟩) hg (.slice none 0 0)).setCell (p:=⟨g,i*4+3,none⟩) hg (.slice none 0 0))
 have rF:=qB (qK (j:=i*4+3) (v:=.slice none 0 0) (qK (j:=i*4+2) (v:=.slice none 0 0) (qK (j:=i*4+1) (v:=.int .i64 x) (qK (j:=i*4) (v:=.int .i64 1) r0 (show g≠w.heap.size+2 by omega)) (show g≠w.heap.size+2 by omega)) (show g≠w.heap.size+2 by omega)) (show g≠w.heap.size+2 by omega)) 0 (.slice (some ⟨g,0,none⟩) σ.length cap);have BF:=qj ((b0.trans (bF.mono (by omega))).setCell (p:=⟨w.heap.size+2,0,none⟩) (show w.heap.size<=w.heap.size+2 by omega) (.slice (some ⟨g,0,none⟩) σ.length cap));have OF:=qj oF;have RF:=qj rF;clear y r0 r1 b0 b1 h o1 oF bF rF;go_wp2_with fail;have c0:=qg (qF (o:=.cells #[.slice (some ⟨g,0,none⟩) σ.length cap] 44) RF.o) 0;simp at c0;refine bodyPost_ret (v:=.agg #[.slice (some ⟨g,0,none⟩) σ.length cap]) (by simp[results,Tryz.results47,go_sem,c0]) rfl ?_;exact⟨_,rfl,by have:=(qq.alloc OF.o (.cells #[.slice (some ⟨g,0,none⟩) σ.length cap] 44)).base (show w.heap.size<=W.heap.size by omega);simpa using this,BF.o.alloc BF.o.size _⟩
end
section
attribute [local irreducible] xL
structure Fd where
 f:FuncId
 tb:Int
 lo:Int
 hi:Int
def Fd.cells (x:Fd):List Value:=[.func (.func x.f) #[] #[],.int .i64 x.tb,.int .i64 x.lo,.int .i64 x.hi]
abbrev Fd.val (x:Fd):Value:=.agg #[.func (.func x.f) #[] #[],.int .i64 x.tb,.int .i64 x.lo,.int .i64 x.hi]
theorem Fd.len (x:Fd):x.cells.length=4:=rfl
theorem infoFd:(Tryz.prog.info? 233).map (fun i=>(i.zero,i.size,i.bytes))=some (some (.agg #[.nilFunc,.int .i64 0,.int .i64 0,.int .i64 0]),4,32):=by kernel_rfl
def qM:Fd:=⟨221,0,1,1000⟩
theorem e_tx (w:World):Calls Tryz.prog 163 #[] w fun e w'=>e=.returned qM.val/\Below w.heap.size w w':=by
 have hb:=(Below.refl w.heap.size w).alloc (Nat.le_refl _) (.cells #[.nilFunc,.int .i64 0,.int .i64 0,.int .i64 0] 233);go_enter Tryz.func163,Tryz.ntmps163;go_wp2;refine bodyPost_ret (v:=qM.val) (by simp[results,Tryz.results163,go_sem,qM]) rfl ⟨rfl,?_⟩;exact(Below.refl w.heap.size w).alloc (Nat.le_refl _) _
theorem e_tx1 (b:Nat) (w:World):Calls Tryz.prog 221 #[.pointer (some ⟨b,0,none⟩)] w fun e w'=>e=.returned (.pointer (some ⟨b,1,none⟩))/\w'=w:=by
 go_enter Tryz.func221,Tryz.ntmps221;go_wp2;go_ret;exact⟨rfl,rfl⟩
def xz:Fd:=⟨222,0,0,7⟩
theorem e_thread (w:World):Calls Tryz.prog 164 #[] w fun e w'=>e=.returned xz.val/\Below w.heap.size w w':=by
 have hb:=(Below.refl w.heap.size w).alloc (Nat.le_refl _) (.cells #[.nilFunc,.int .i64 0,.int .i64 0,.int .i64 0] 233);go_enter Tryz.func164,Tryz.ntmps164;go_wp2;refine bodyPost_ret (v:=xz.val) (by simp[results,Tryz.results164,go_sem,xz]) rfl ⟨rfl,?_⟩;exact(Below.refl w.heap.size w).alloc (Nat.le_refl _) _
theorem e_thread1 (b:Nat) (w:World):Calls Tryz.prog 222 #[.pointer (some ⟨b,0,none⟩)] w fun e w'=>e=.returned (.pointer (some ⟨b,2,none⟩))/\w'=w:=by
 go_enter Tryz.func222,Tryz.ntmps222;go_wp2;go_ret;exact⟨rfl,rfl⟩
def yd:Fd:=⟨223,0,0,7⟩
theorem e_obj (w:World):Calls Tryz.prog 166 #[] w fun e w'=>e=.returned yd.val/\Below w.heap.size w w':=by
 have hb:=(Below.refl w.heap.size w).alloc (Nat.le_refl _) (.cells #[.nilFunc,.int .i64 0,.int .i64 0,.int .i64 0] 233);go_enter Tryz.func166,Tryz.ntmps166;go_wp2;refine bodyPost_ret (v:=yd.val) (by simp[results,Tryz.results166,go_sem,yd]) rfl ⟨rfl,?_⟩;exact(Below.refl w.heap.size w).alloc (Nat.le_refl _) _
theorem e_obj1 (b:Nat) (w:World):Calls Tryz.prog 223 #[.pointer (some ⟨b,0,none⟩)] w fun e w'=>e=.returned (.pointer (some ⟨b,3,none⟩))/\w'=w:=by
 go_enter Tryz.func223,Tryz.ntmps223;go_wp2;go_ret;exact⟨rfl,rfl⟩
def ya:Fd:=⟨224,3,1,9⟩
theorem e_op (w:World):Calls Tryz.prog 167 #[] w fun e w'=>e=.returned ya.val/\Below w.heap.size w w':=by
 have hb:=(Below.refl w.heap.size w).alloc (Nat.le_refl _) (.cells #[.nilFunc,.int .i64 0,.int .i64 0,.int .i64 0] 233);go_enter Tryz.func167,Tryz.ntmps167;go_wp2;refine bodyPost_ret (v:=ya.val) (by simp[results,Tryz.results167,go_sem,ya]) rfl ⟨rfl,?_⟩;exact(Below.refl w.heap.size w).alloc (Nat.le_refl _) _
theorem e_op1 (b:Nat) (w:World):Calls Tryz.prog 224 #[.pointer (some ⟨b,0,none⟩)] w fun e w'=>e=.returned (.pointer (some ⟨b,4,none⟩))/\w'=w:=by
 go_enter Tryz.func224,Tryz.ntmps224;go_wp2;go_ret;exact⟨rfl,rfl⟩
def fdVa:Fd:=⟨226,0,(-1000000000),1000000000⟩
theorem e_val (w:World):Calls Tryz.prog 169 #[] w fun e w'=>e=.returned fdVa.val/\Below w.heap.size w w':=by
 have hb:=(Below.refl w.heap.size w).alloc (Nat.le_refl _) (.cells #[.nilFunc,.int .i64 0,.int .i64 0,.int .i64 0] 233);go_enter Tryz.func169,Tryz.ntmps169;go_wp2;refine bodyPost_ret (v:=fdVa.val) (by simp[results,Tryz.results169,go_sem,fdVa]) rfl ⟨rfl,?_⟩;exact(Below.refl w.heap.size w).alloc (Nat.le_refl _) _
theorem e_val1 (b:Nat) (w:World):Calls Tryz.prog 226 #[.pointer (some ⟨b,0,none⟩)] w fun e w'=>e=.returned (.pointer (some ⟨b,6,none⟩))/\w'=w:=by
 go_enter Tryz.func226,Tryz.ntmps226;go_wp2;go_ret;exact⟨rfl,rfl⟩
def xq:Fd:=⟨227,4,1,3⟩
theorem e_ret (w:World):Calls Tryz.prog 171 #[] w fun e w'=>e=.returned xq.val/\Below w.heap.size w w':=by
 have hb:=(Below.refl w.heap.size w).alloc (Nat.le_refl _) (.cells #[.nilFunc,.int .i64 0,.int .i64 0,.int .i64 0] 233);go_enter Tryz.func171,Tryz.ntmps171;go_wp2;refine bodyPost_ret (v:=xq.val) (by simp[results,Tryz.results171,go_sem,xq]) rfl ⟨rfl,?_⟩;exact(Below.refl w.heap.size w).alloc (Nat.le_refl _) _
theorem e_ret1 (b:Nat) (w:World):Calls Tryz.prog 227 #[.pointer (some ⟨b,0,none⟩)] w fun e w'=>e=.returned (.pointer (some ⟨b,7,none⟩))/\w'=w:=by
 go_enter Tryz.func227,Tryz.ntmps227;go_wp2;go_ret;exact⟨rfl,rfl⟩
theorem e_list (v:Value) (hv:∃a n c,v=.slice a n c) (w:World):Calls Tryz.prog 161 #[v] w fun e w'=>e=.returned (.func (.func 162) #[] #[.pointer (some ⟨w.heap.size,0,none⟩)])/\w'=w.alloc (.cells #[v] 297):=by
 obtain⟨a,n,c,rfl⟩:=hv;go_enter Tryz.func161,Tryz.ntmps161;go_wp2;go_ret;exact⟨rfl,rfl⟩
theorem e_Of (k:Int) (hk:k=1\/k=2) (w:World):Calls Tryz.prog 74 #[.int .i64 k] w fun e w'=>e=.returned (.int .i64 1)/\w'=w:=by
 rcases hk with rfl|rfl <;>
 ·go_enter Tryz.func74,Tryz.ntmps74
  go_wp2;go_ret;exact⟨rfl,rfl⟩
theorem e_Keyed (k:Int) (hk:k=1\/k=2) (w:World):Calls Tryz.prog 79 #[.int .i64 k] w fun e w'=>e=.returned (.bool false)/\w'=w:=by
 rcases hk with rfl|rfl <;>
 ·go_enter Tryz.func79,Tryz.ntmps79
  go_wp2;go_ret;exact⟨rfl,rfl⟩
theorem e_Valued (k:Int) (hk:k=1\/k=2) (w:World):Calls Tryz.prog 80 #[.int .i64 k] w fun e w'=>e=.returned (.bool (k==2))/\w'=w:=by
 rcases hk with rfl|rfl <;>
 ·go_enter Tryz.func80,Tryz.ntmps80
  go_wp2;go_ret;exact⟨rfl,rfl⟩
end
section
attribute [local irreducible] xL
abbrev fdZ:Value:=.agg #[.nilFunc,.int .i64 0,.int .i64 0,.int .i64 0]
def FdRet (l:List Fd) (i:Nat) (w:World) (e:Ending) (w':World):Prop:=e=.returned (match l[i]? with|some x=>.tuple #[x.val,.bool true]|none=>.tuple #[fdZ,.bool false])/\Below w.heap.size w w'
section
variable {w:World}
theorem e_next (x:Ev) (i:Nat) (hi:i<=100) (b:Nat) (v:Value) (l:List Fd) (h:w.heap[b]?=some (.cells #[v] 297 (0,0))) (hs:Sl w w.heap.size 4 v l.length (l.flatMap Fd.cells)):
  Calls Tryz.prog 162 #[yv x,.int .i64 i,.pointer (some ⟨b,0,none⟩)] w (FdRet l i w):=by
 obtain⟨a,c,rfl,-⟩:=hs.ex;have d0:=qg h 0;have lb:=qh h;have B0:=qj (((Below.refl w.heap.size w).alloc (Nat.le_refl _) (.cells #[.int .i64 x.kind,.int .i64 x.tx,.int .i64 x.thread,.int .i64 x.obj,.int .i64 x.op,.int .i64 x.key,.int .i64 x.val,.int .i64 x.ret] 53)));by_cases hlt:i < l.length
 ·obtain ⟨g,off,y,rfl,hg,hy,hc⟩:=hs.atF Fd.len rfl hlt
  have c0:w.cell? ⟨g,off+i*4,none⟩=some (.func (.func y.f) #[] #[]):=hc 0 (by decide);have c1:w.cell? ⟨g,off+i*4+1,none⟩=some (.int .i64 y.tb):=hc 1 (by decide);have c2:w.cell? ⟨g,off+i*4+2,none⟩=some (.int .i64 y.lo):=hc 2 (by decide);have c3:w.cell? ⟨g,off+i*4+3,none⟩=some (.int .i64 y.hi):=hc 3 (by decide);unfold FdRet;rw[hy];clear hs hc hy h;generalize l.length=n at *;go_enter Tryz.func162,Tryz.ntmps162;go_wp2;refine bodyPost_ret (v:=.tuple #[y.val,.bool true]) (by simp[results,Tryz.results162,go_sem]) rfl ⟨rfl,?_⟩;exact B0.o.alloc (by simp) _
 ·have hn:l[i]?=none:=List.getElem?_eq_none (by omega)
  unfold FdRet;rw[hn];clear hs h;generalize l.length=n at *;go_enter Tryz.func162,Tryz.ntmps162;go_wp2;refine bodyPost_ret (v:=.tuple #[fdZ,.bool false]) (by simp[results,Tryz.results162,go_sem]) rfl ⟨rfl,?_⟩;exact B0.o.alloc (by simp) _
end
theorem e_answer1 {w:World} {b i:Nat} {s:ByteArray} (hi:i < 3) (h:w.heap[b]?=some (.cells #[.int .i64 i] 3 (0,0))) (hs:w.cell? ⟨19,i,none⟩=some (.string s)) (hl:19 < w.heap.size):Calls Tryz.prog 218 #[.pointer (some ⟨b,0,none⟩)] w fun e w'=>e=.returned (.string s)/\w'=w:=by
 have d0:=qg h 0;have lb:=qh h;have q1:decide ((i:Int) < 0)=false:=by simp
 have q2:decide ((3:Int)<=i)=false:=by simp;omega
 have q3:decide ((i:Int)>=3)=false:=by simp;omega
 have q4:decide (3<=i)=false:=by simp;omega
 clear h;go_enter Tryz.func218,Tryz.ntmps218;go_wp2;go_ret;exact⟨rfl,rfl⟩
theorem e_answer2 {w:World} {b i:Nat} {s:ByteArray} (hi:i < 3) (h:w.heap[b]?=some (.cells #[.int .i64 i] 3 (0,0))) (hs:w.cell? ⟨19,i,none⟩=some (.string s)) (hl:19 < w.heap.size):Calls Tryz.prog 214 #[.int .i64 i,.int .i64 3,.func (.func 218) #[] #[.pointer (some ⟨b,0,none⟩)]] w fun e w'=>e=.returned (.tuple #[.string s,.int .i64 3])/\w'=w:=by
 have q1:decide ((i:Int) < 0)=false:=by simp
 have q3:decide ((i:Int)>=3)=false:=by simp;omega
 have HC:=qj (e_answer1 hi h hs hl);clear h hs;go_enter Tryz.func214,Tryz.ntmps214;go_wp2_with fail;refine(HC.o).mono ?_;rintro e w1 ⟨rfl,rfl⟩;go_wp2
 go_ret2
 exact⟨rfl,rfl⟩
theorem e_answer3 {w:World} {i:Nat} {s:ByteArray} (hi:i < 3) (hs:w.cell? ⟨19,i,none⟩=some (.string s)) (hl:19 < w.heap.size):Calls Tryz.prog 160 #[.int .i64 4,.int .i64 i] w fun e w'=>e=.returned (.tuple #[.string s,.int .i64 3])/\Below w.heap.size w w':=by
 have b0:Below w.heap.size w (w.alloc (.cells #[.int .i64 i] 3)):=(Below.refl _ w).alloc (Nat.le_refl _) _;have HC:=qj (e_answer2 hi (qy w (.cells #[.int .i64 i] 3)) (qu b0 hl hs) (by simp;omega));have B0:=qj b0;clear b0 hs;go_enter Tryz.func160,Tryz.ntmps160;go_wp2_with fail;refine(HC.o).mono ?_;rintro e w1 ⟨rfl,rfl⟩;go_wp2
 go_ret2
 exact⟨rfl,B0.o⟩
theorem e_answer {w:World} {i:Nat} {s:ByteArray} (hi:i < 3) (hs:w.cell? ⟨19,i,none⟩=some (.string s)) (hl:19 < w.heap.size):Calls Tryz.prog 119 #[.int .i64 4,.int .i64 ((i:Int)+1)] w fun e w'=>e=.returned (.string s)/\Below w.heap.size w w':=by
 have q1:max ((i:Int)+1) 0=(i:Int)+1:=by omega
 have q2:wrap64 ((i:Int)+1 - 1)=(i:Int):=by rw[IntWalk.wrap64_in _ (by omega)];omega
 have q3:decide ((i:Int)+1 < 0)=false:=by simp <;> omega
 have q4:decide (0 < (i:Int)+1)=true:=by simp <;> omega
 have HC:=qj (e_answer3 hi hs hl);clear hs;go_enter Tryz.func119,Tryz.ntmps119;go_wp2_with fail;refine(HC.o).mono ?_;rintro e w1 ⟨rfl,hb⟩;have HB:=qj hb;clear hb;go_wp2;go_ret;exact⟨rfl,HB.o⟩
theorem e_object1 {w:World} {b i:Nat} {s:ByteArray} (hi:i < 4) (h:w.heap[b]?=some (.cells #[.int .i64 i] 3 (0,0))) (hs:w.cell? ⟨16,i,none⟩=some (.string s)) (hl:16 < w.heap.size):Calls Tryz.prog 215 #[.pointer (some ⟨b,0,none⟩)] w fun e w'=>e=.returned (.string s)/\w'=w:=by
 have d0:=qg h 0;have lb:=qh h;have q1:decide ((i:Int) < 0)=false:=by simp
 have q2:decide ((4:Int)<=i)=false:=by simp;omega
 have q3:decide ((i:Int)>=4)=false:=by simp;omega
 have q4:decide (4<=i)=false:=by simp;omega
 clear h;go_enter Tryz.func215,Tryz.ntmps215;go_wp2;go_ret;exact⟨rfl,rfl⟩
theorem e_object2 {w:World} {b i:Nat} {s:ByteArray} (hi:i < 4) (h:w.heap[b]?=some (.cells #[.int .i64 i] 3 (0,0))) (hs:w.cell? ⟨16,i,none⟩=some (.string s)) (hl:16 < w.heap.size):Calls Tryz.prog 214 #[.int .i64 i,.int .i64 4,.func (.func 215) #[] #[.pointer (some ⟨b,0,none⟩)]] w fun e w'=>e=.returned (.tuple #[.string s,.int .i64 4])/\w'=w:=by
 have q1:decide ((i:Int) < 0)=false:=by simp
 have q3:decide ((i:Int)>=4)=false:=by simp;omega
 have HC:=qj (e_object1 hi h hs hl);clear h hs;go_enter Tryz.func214,Tryz.ntmps214;go_wp2_with fail;refine(HC.o).mono ?_;rintro e w1 ⟨rfl,rfl⟩;go_wp2
 go_ret2
 exact⟨rfl,rfl⟩
theorem e_object3 {w:World} {i:Nat} {s:ByteArray} (hi:i < 4) (hs:w.cell? ⟨16,i,none⟩=some (.string s)) (hl:16 < w.heap.size):Calls Tryz.prog 160 #[.int .i64 1,.int .i64 i] w fun e w'=>e=.returned (.tuple #[.string s,.int .i64 4])/\Below w.heap.size w w':=by
 have b0:Below w.heap.size w (w.alloc (.cells #[.int .i64 i] 3)):=(Below.refl _ w).alloc (Nat.le_refl _) _;have HC:=qj (e_object2 hi (qy w (.cells #[.int .i64 i] 3)) (qu b0 hl hs) (by simp;omega));have B0:=qj b0;clear b0 hs;go_enter Tryz.func160,Tryz.ntmps160;go_wp2_with fail;refine(HC.o).mono ?_;rintro e w1 ⟨rfl,rfl⟩;go_wp2
 go_ret2
 exact⟨rfl,B0.o⟩
theorem e_object {w:World} {i:Nat} {s:ByteArray} (hi:i < 4) (hs:w.cell? ⟨16,i,none⟩=some (.string s)) (hl:16 < w.heap.size):Calls Tryz.prog 119 #[.int .i64 1,.int .i64 ((i:Int)+1)] w fun e w'=>e=.returned (.string s)/\Below w.heap.size w w':=by
 have q1:max ((i:Int)+1) 0=(i:Int)+1:=by omega
 have q2:wrap64 ((i:Int)+1 - 1)=(i:Int):=by rw[IntWalk.wrap64_in _ (by omega)];omega
 have q3:decide ((i:Int)+1 < 0)=false:=by simp <;> omega
 have q4:decide (0 < (i:Int)+1)=true:=by simp <;> omega
 have HC:=qj (e_object3 hi hs hl);clear hs;go_enter Tryz.func119,Tryz.ntmps119;go_wp2_with fail;refine(HC.o).mono ?_;rintro e w1 ⟨rfl,hb⟩;have HB:=qj hb;clear hb;go_wp2;go_ret;exact⟨rfl,HB.o⟩
end
