/- Parts of the proof; the first: hist.Clone: a history laid anew. Conditions: those of each theorem, as typed. -/
import Derived.Test.YtcpfbphcldocpaaGreatDoorQW03
import Derived.RangeFuncNested
import Derived.RangeFuncBound
import Derived.RangeFuncCalls
import Derived.RangeFuncLeaves
import Derived.Shelf.Abstract
import Derived.WalkKit
import Derived.OwnWalkIn
import Derived.TacticsInMore
import Derived.LoopNIn
import Derived.LoopIn
import Derived.Test.YtcpfbphcldocpaaGreatDoorQW09
import Derived.Test.YtcpfbphcldocpaaGreatDoorQW10
import Derived.Test.YtcpfbphcldocpaaGreatDoorQW12
import Derived.Test.YtcpfbphcldocpaaGreatDoorQW01
set_option linter.unusedVariables false
set_option linter.unusedSimpArgs false
set_option linter.unusedSectionVars false
set_option maxRecDepth 100000
set_option maxHeartbeats 4000000
namespace Go.Proofs.YtcpfbphcldocpaaGreatDoor
open Go.Maps Go.RowKit
section
attribute [local irreducible] xE
theorem Mm (ov ev:Value) (os:List Ob) (es:List Ev) (w:World) (ho:Sl w w.heap.size 2 ov os.length (os.flatMap Ob.cells)) (he:Sl w w.heap.size 8 ev es.length (es.flatMap Ev.cells)) (hol:os.length<=100000) (hel:es.length<=100000):
  Calls Tryz.prog 34 #[.agg #[ov,ev]] w (WF os es w):=by
 obtain⟨ao,co,rfl,mo⟩:=ho.ex;obtain⟨ae,ce,rfl,me⟩:=he.ex;have b0:Below w.heap.size w ((w.alloc (.cells #[.slice ao os.length co,.slice ae es.length ce] 25)).alloc (.cells #[.slice none 0 0,.slice none 0 0] 25)):=((Below.refl _ w).alloc (Nat.le_refl _) _).alloc (by simp) _;have r0:=qD (o:=.cells #[.slice none 0 0,.slice none 0 0] 25) (qy w (.cells #[.slice ao os.length co,.slice ae es.length ce] 25));have r1:=qV (w:=w.alloc (.cells #[.slice ao os.length co,.slice ae es.length ce] 25)) (o:=.cells #[.slice none 0 0,.slice none 0 0] 25) (g:=w.heap.size+1) (by simp);have z0:((w.alloc (.cells #[.slice ao os.length co,.slice ae es.length ce] 25)).alloc (.cells #[.slice none 0 0,.slice none 0 0] 25)).heap.size=w.heap.size+2:=by simp
 have HO:=qh ho;have HE:=qh he;clear ho he;go_enter Tryz.func34,Tryz.ntmps34;go_wp2_with fail;generalize (w.alloc (.cells #[.slice ao os.length co,.slice ae es.length ce] 25)).alloc (.cells #[.slice none 0 0,.slice none 0 0] 25)=W at *;have B0:=qh b0;have R0:=qh r0;have R1:=qh r1;have d0:=qa r0 0;have d1:=qa r0 1;simp at d0 d1;have lw:w.heap.size < W.heap.size:=by omega
 clear b0 r0 r1;refine qI (W.heap.size) [0,1,0,3,0,1,3,0,1,0,3,0,1,3,0,2] (.frk [0,1,2,4,5,7,8,9,11,12] (.frk [3] (.fin [6,10,13,14,15]) (.fin [10,6,13,14,15])) (.fin [10,3,6,13,14,15])) (by kernel_rfl) ?_;simp only[xi,qP,qA,sD,sE,sF,sG]
 repeat first|(refine qz fun K hK=>?_;go_simp;refine hK _ _ ?_;clear hK K)|(apply qC;(intro w2 hw2;have hk1:=hw2.cell;have hk3:=hw2.1;clear hw2;go_simp;with_reducible rfl);simp only[Act.put,sA,sB,sC])|refine qH rfl rfl ?_|(refine qQ rfl rfl fun K hK=>?_;simp only[Act.put,sA,sB,sC];refine hK _ _ ?_;clear hK K)|refine qu ?_
 have b0:Below W.heap.size W W.drew:=(Below.refl _ W).drew;have s0:=b0.size;refine⟨?_,?_⟩
 ·refine qG (fun K hK=>?_)
  refine jN (f:=Ob.cells) (e:=62) (sz:=2) (B:=W.heap.size) _ _ _ rfl _ 16 Tryz.underlying22 Vg rfl rfl (by first|omega|(simp <;> omega)) (by first|omega|(simp <;> omega)) (by first|omega|(simp <;> omega)) ?_;intro w1 o1A g1 z1;refine hK _ _ (RN.KeepsN.of_below (g1.mono (by have:=b0.size;omega))) ?_;clear hK K;have b1:Below W.heap.size W w1:=b0.trans (g1.mono b0.size);have s1:=b1.size
  repeat first|(refine qz fun K hK=>?_;go_simp;refine hK _ _ ?_;clear hK K)|(apply qC;(intro w2 hw2;have hk1:=hw2.cell;have hk3:=hw2.1;clear hw2;go_simp;with_reducible rfl);simp only[Act.put,sA,sB,sC])|refine qH rfl rfl ?_|(refine qQ rfl rfl fun K hK=>?_;simp only[Act.put,sA,sB,sC];refine hK _ _ ?_;clear hK K)|refine qu ?_
  refine⟨?_,?_⟩
  ·refine qG (fun K hK=>?_)
   refine jH _ _ _ rfl _ 16 Tryz.underlying22 Vg rfl o1A os rfl ((HO.o.below B0.o).below (b1.mono (by omega))) (by first|omega|(simp <;> omega)) rfl rfl Ob.len VS (by first|omega|(simp <;> omega)) (by first|omega|(simp <;> omega)) ?_;intro v2 w2 o2A g2;have g2b:=g2.below b1.size fun k h=>(o1A.lt k h).1;refine hK _ _ (RN.KeepsN.of_below g2b) ?_;clear hK K;obtain⟨a2,c2,rfl,-⟩:=qj.form2 (show qj Ob.cells 62 2 w2 W.heap.size v2 os from o2A);have o2A:qj Ob.cells 62 2 w2 W.heap.size (.slice a2 os.length c2) os:=o2A;have b2:Below W.heap.size W w2:=b1.trans g2b;have s2:=b2.size
   repeat first|(refine qz fun K hK=>?_;go_simp;refine hK _ _ ?_;clear hK K)|(apply qC;(intro w2 hw2;have hk1:=hw2.cell;have hk3:=hw2.1;clear hw2;go_simp;with_reducible rfl);simp only[Act.put,sA,sB,sC])|refine qH rfl rfl ?_|(refine qQ rfl rfl fun K hK=>?_;simp only[Act.put,sA,sB,sC];refine hK _ _ ?_;clear hK K)|refine qu ?_
   refine qG (fun K hK=>?_);refine jN (f:=Ev.cells) (e:=69) (sz:=8) (B:=W.heap.size) _ _ _ rfl _ 64 Tryz.underlying23 ud rfl rfl (by first|omega|(simp <;> omega)) (by first|omega|(simp <;> omega)) (by first|omega|(simp <;> omega)) ?_;intro w3 o3B g3 z3;refine hK _ _ (RN.KeepsN.of_below (g3.mono (by have:=b2.size;omega))) ?_;clear hK K;have b3:Below W.heap.size W w3:=b2.trans (g3.mono b2.size);have s3:=b3.size;have o3A:=qj.below o2A g3
   repeat first|(refine qz fun K hK=>?_;go_simp;refine hK _ _ ?_;clear hK K)|(apply qC;(intro w2 hw2;have hk1:=hw2.cell;have hk3:=hw2.1;clear hw2;go_simp;with_reducible rfl);simp only[Act.put,sA,sB,sC])|refine qH rfl rfl ?_|(refine qQ rfl rfl fun K hK=>?_;simp only[Act.put,sA,sB,sC];refine hK _ _ ?_;clear hK K)|refine qu ?_
   refine qG (fun K hK=>?_);refine jH _ _ _ rfl _ 64 Tryz.underlying23 ud rfl o3B es rfl ((HE.o.below B0.o).below (b3.mono (by omega))) (by first|omega|(simp <;> omega)) rfl rfl Ev.len ua (by first|omega|(simp <;> omega)) (by first|omega|(simp <;> omega)) ?_;intro v4 w4 o4B g4;have g4b:=g4.below b3.size fun k h=>(o3B.lt k h).1;refine hK _ _ (RN.KeepsN.of_below g4b) ?_;clear hK K;obtain⟨a4,c4,rfl,-⟩:=qj.form2 (show qj Ev.cells 69 8 w4 W.heap.size v4 es from o4B);have o4B:qj Ev.cells 69 8 w4 W.heap.size (.slice a4 es.length c4) es:=o4B;have b4:Below W.heap.size W w4:=b3.trans g4b;have s4:=b4.size;have o4A:=qj.grwT o3A o3B (by decide) g4;have OA:=qh o4A;have OB:=qh o4B;have BF:=qh b4;have zF:=b4.size;have RF:=qh (qp R1.o b4 (by omega));have y0:=qa RF.o 0;have y1:=qa RF.o 1;have yf:∀j,w4.frozen? ⟨w.heap.size+1,j,none⟩=false:=fun j=>qB RF.o j;have ly:=qd RF.o;clear g1 g2 g3 g4 b0 b1 b2 b3 b4 d0 d1 o1A o2A o3A o3B o4A o4B
   repeat first|(refine qz fun K hK=>?_;go_simp;refine hK _ _ ?_;clear hK K)|(apply qC;(intro w2 hw2;have hk1:=hw2.cell;have hk3:=hw2.1;clear hw2;go_simp;with_reducible rfl);simp only[Act.put,sA,sB,sC])|refine qH rfl rfl ?_|(refine qQ rfl rfl fun K hK=>?_;simp only[Act.put,sA,sB,sC];refine hK _ _ ?_;clear hK K)|refine qu ?_
   refine qM (fun K hK=>?_);go_simp;refine hK _ _ ?_;clear hK K
   repeat first|(refine qz fun K hK=>?_;go_simp;refine hK _ _ ?_;clear hK K)|(apply qC;(intro w2 hw2;have hk1:=hw2.cell;have hk3:=hw2.1;clear hw2;go_simp;with_reducible rfl);simp only[Act.put,sA,sB,sC])|refine qH rfl rfl ?_|(refine qQ rfl rfl fun K hK=>?_;simp only[Act.put,sA,sB,sC];refine hK _ _ ?_;clear hK K)|refine qu ?_
   go_wp2;have r4:=qdP (u1:=.slice a2 os.length c2) (u2:=.slice a4 es.length c4) RF.o;have c0:=qa r4 0;have c1:=qa r4 1;simp only[List.getElem?_toArray,List.getElem?_cons_zero,List.getElem?_cons_succ] at c0 c1;refine bodyPost_ret (v:=.agg #[.slice a2 os.length c2,.slice a4 es.length c4]) (by simp[results,Tryz.results34,go_sem,c0,c1]) rfl ⟨_,_,rfl,?_,?_,?_⟩
   ·exact qj.base (qj.box2 OA.o RF.o (by decide)) (by omega)
   ·exact qj.base (qj.box2 OB.o RF.o (by decide)) (by omega)
   ·exact ((B0.o.trans (BF.o.mono (by omega))).setCell (p:=⟨w.heap.size+1,0,none⟩) (by show w.heap.size<=w.heap.size+1;omega) _).setCell (p:=⟨w.heap.size+1,1,none⟩) (by show w.heap.size<=w.heap.size+1;omega) _
  ·refine qG (fun K hK=>?_)
   refine jN (f:=Ev.cells) (e:=69) (sz:=8) (B:=W.heap.size) _ _ _ rfl _ 64 Tryz.underlying23 ud rfl rfl (by first|omega|(simp <;> omega)) (by first|omega|(simp <;> omega)) (by first|omega|(simp <;> omega)) ?_;intro w2 o2B g2 z2;refine hK _ _ (RN.KeepsN.of_below (g2.mono (by have:=b1.size;omega))) ?_;clear hK K;have b2:Below W.heap.size W w2:=b1.trans (g2.mono b1.size);have s2:=b2.size;have o2A:=qj.below o1A g2
   repeat first|(refine qz fun K hK=>?_;go_simp;refine hK _ _ ?_;clear hK K)|(apply qC;(intro w2 hw2;have hk1:=hw2.cell;have hk3:=hw2.1;clear hw2;go_simp;with_reducible rfl);simp only[Act.put,sA,sB,sC])|refine qH rfl rfl ?_|(refine qQ rfl rfl fun K hK=>?_;simp only[Act.put,sA,sB,sC];refine hK _ _ ?_;clear hK K)|refine qu ?_
   refine qG (fun K hK=>?_);refine jH _ _ _ rfl _ 16 Tryz.underlying22 Vg rfl o2A os rfl ((HO.o.below B0.o).below (b2.mono (by omega))) (by first|omega|(simp <;> omega)) rfl rfl Ob.len VS (by first|omega|(simp <;> omega)) (by first|omega|(simp <;> omega)) ?_;intro v3 w3 o3A g3;have g3b:=g3.below b2.size fun k h=>(o2A.lt k h).1;refine hK _ _ (RN.KeepsN.of_below g3b) ?_;clear hK K;obtain⟨a3,c3,rfl,-⟩:=qj.form2 (show qj Ob.cells 62 2 w3 W.heap.size v3 os from o3A);have o3A:qj Ob.cells 62 2 w3 W.heap.size (.slice a3 os.length c3) os:=o3A;have b3:Below W.heap.size W w3:=b2.trans g3b;have s3:=b3.size;have o3B:=qj.grwT o2B o2A (by decide) g3
   repeat first|(refine qz fun K hK=>?_;go_simp;refine hK _ _ ?_;clear hK K)|(apply qC;(intro w2 hw2;have hk1:=hw2.cell;have hk3:=hw2.1;clear hw2;go_simp;with_reducible rfl);simp only[Act.put,sA,sB,sC])|refine qH rfl rfl ?_|(refine qQ rfl rfl fun K hK=>?_;simp only[Act.put,sA,sB,sC];refine hK _ _ ?_;clear hK K)|refine qu ?_
   refine qG (fun K hK=>?_);refine jH _ _ _ rfl _ 64 Tryz.underlying23 ud rfl o3B es rfl ((HE.o.below B0.o).below (b3.mono (by omega))) (by first|omega|(simp <;> omega)) rfl rfl Ev.len ua (by first|omega|(simp <;> omega)) (by first|omega|(simp <;> omega)) ?_;intro v4 w4 o4B g4;have g4b:=g4.below b3.size fun k h=>(o3B.lt k h).1;refine hK _ _ (RN.KeepsN.of_below g4b) ?_;clear hK K;obtain⟨a4,c4,rfl,-⟩:=qj.form2 (show qj Ev.cells 69 8 w4 W.heap.size v4 es from o4B);have o4B:qj Ev.cells 69 8 w4 W.heap.size (.slice a4 es.length c4) es:=o4B;have b4:Below W.heap.size W w4:=b3.trans g4b;have s4:=b4.size;have o4A:=qj.grwT o3A o3B (by decide) g4;have OA:=qh o4A;have OB:=qh o4B;have BF:=qh b4;have zF:=b4.size;have RF:=qh (qp R1.o b4 (by omega));have y0:=qa RF.o 0;have y1:=qa RF.o 1;have yf:∀j,w4.frozen? ⟨w.heap.size+1,j,none⟩=false:=fun j=>qB RF.o j;have ly:=qd RF.o;clear g1 g2 g3 g4 b0 b1 b2 b3 b4 d0 d1 o1A o2A o2B o3A o3B o4A o4B
   repeat first|(refine qz fun K hK=>?_;go_simp;refine hK _ _ ?_;clear hK K)|(apply qC;(intro w2 hw2;have hk1:=hw2.cell;have hk3:=hw2.1;clear hw2;go_simp;with_reducible rfl);simp only[Act.put,sA,sB,sC])|refine qH rfl rfl ?_|(refine qQ rfl rfl fun K hK=>?_;simp only[Act.put,sA,sB,sC];refine hK _ _ ?_;clear hK K)|refine qu ?_
   refine qM (fun K hK=>?_);go_simp;refine hK _ _ ?_;clear hK K
   repeat first|(refine qz fun K hK=>?_;go_simp;refine hK _ _ ?_;clear hK K)|(apply qC;(intro w2 hw2;have hk1:=hw2.cell;have hk3:=hw2.1;clear hw2;go_simp;with_reducible rfl);simp only[Act.put,sA,sB,sC])|refine qH rfl rfl ?_|(refine qQ rfl rfl fun K hK=>?_;simp only[Act.put,sA,sB,sC];refine hK _ _ ?_;clear hK K)|refine qu ?_
   go_wp2;have r4:=qdP (u1:=.slice a3 os.length c3) (u2:=.slice a4 es.length c4) RF.o;have c0:=qa r4 0;have c1:=qa r4 1;simp only[List.getElem?_toArray,List.getElem?_cons_zero,List.getElem?_cons_succ] at c0 c1;refine bodyPost_ret (v:=.agg #[.slice a3 os.length c3,.slice a4 es.length c4]) (by simp[results,Tryz.results34,go_sem,c0,c1]) rfl ⟨_,_,rfl,?_,?_,?_⟩
   ·exact qj.base (qj.box2 OA.o RF.o (by decide)) (by omega)
   ·exact qj.base (qj.box2 OB.o RF.o (by decide)) (by omega)
   ·exact ((B0.o.trans (BF.o.mono (by omega))).setCell (p:=⟨w.heap.size+1,0,none⟩) (by show w.heap.size<=w.heap.size+1;omega) _).setCell (p:=⟨w.heap.size+1,1,none⟩) (by show w.heap.size<=w.heap.size+1;omega) _
 ·refine qG (fun K hK=>?_)
  refine jN (f:=Ev.cells) (e:=69) (sz:=8) (B:=W.heap.size) _ _ _ rfl _ 64 Tryz.underlying23 ud rfl rfl (by first|omega|(simp <;> omega)) (by first|omega|(simp <;> omega)) (by first|omega|(simp <;> omega)) ?_;intro w1 o1B g1 z1;refine hK _ _ (RN.KeepsN.of_below (g1.mono (by have:=b0.size;omega))) ?_;clear hK K;have b1:Below W.heap.size W w1:=b0.trans (g1.mono b0.size);have s1:=b1.size
  repeat first|(refine qz fun K hK=>?_;go_simp;refine hK _ _ ?_;clear hK K)|(apply qC;(intro w2 hw2;have hk1:=hw2.cell;have hk3:=hw2.1;clear hw2;go_simp;with_reducible rfl);simp only[Act.put,sA,sB,sC])|refine qH rfl rfl ?_|(refine qQ rfl rfl fun K hK=>?_;simp only[Act.put,sA,sB,sC];refine hK _ _ ?_;clear hK K)|refine qu ?_
  refine qG (fun K hK=>?_);refine jN (f:=Ob.cells) (e:=62) (sz:=2) (B:=W.heap.size) _ _ _ rfl _ 16 Tryz.underlying22 Vg rfl rfl (by first|omega|(simp <;> omega)) (by first|omega|(simp <;> omega)) (by first|omega|(simp <;> omega)) ?_;intro w2 o2A g2 z2;refine hK _ _ (RN.KeepsN.of_below (g2.mono (by have:=b1.size;omega))) ?_;clear hK K;have b2:Below W.heap.size W w2:=b1.trans (g2.mono b1.size);have s2:=b2.size;have o2B:=qj.below o1B g2
  repeat first|(refine qz fun K hK=>?_;go_simp;refine hK _ _ ?_;clear hK K)|(apply qC;(intro w2 hw2;have hk1:=hw2.cell;have hk3:=hw2.1;clear hw2;go_simp;with_reducible rfl);simp only[Act.put,sA,sB,sC])|refine qH rfl rfl ?_|(refine qQ rfl rfl fun K hK=>?_;simp only[Act.put,sA,sB,sC];refine hK _ _ ?_;clear hK K)|refine qu ?_
  refine qG (fun K hK=>?_);refine jH _ _ _ rfl _ 16 Tryz.underlying22 Vg rfl o2A os rfl ((HO.o.below B0.o).below (b2.mono (by omega))) (by first|omega|(simp <;> omega)) rfl rfl Ob.len VS (by first|omega|(simp <;> omega)) (by first|omega|(simp <;> omega)) ?_;intro v3 w3 o3A g3;have g3b:=g3.below b2.size fun k h=>(o2A.lt k h).1;refine hK _ _ (RN.KeepsN.of_below g3b) ?_;clear hK K;obtain⟨a3,c3,rfl,-⟩:=qj.form2 (show qj Ob.cells 62 2 w3 W.heap.size v3 os from o3A);have o3A:qj Ob.cells 62 2 w3 W.heap.size (.slice a3 os.length c3) os:=o3A;have b3:Below W.heap.size W w3:=b2.trans g3b;have s3:=b3.size;have o3B:=qj.grwT o2B o2A (by decide) g3
  repeat first|(refine qz fun K hK=>?_;go_simp;refine hK _ _ ?_;clear hK K)|(apply qC;(intro w2 hw2;have hk1:=hw2.cell;have hk3:=hw2.1;clear hw2;go_simp;with_reducible rfl);simp only[Act.put,sA,sB,sC])|refine qH rfl rfl ?_|(refine qQ rfl rfl fun K hK=>?_;simp only[Act.put,sA,sB,sC];refine hK _ _ ?_;clear hK K)|refine qu ?_
  refine qG (fun K hK=>?_);refine jH _ _ _ rfl _ 64 Tryz.underlying23 ud rfl o3B es rfl ((HE.o.below B0.o).below (b3.mono (by omega))) (by first|omega|(simp <;> omega)) rfl rfl Ev.len ua (by first|omega|(simp <;> omega)) (by first|omega|(simp <;> omega)) ?_;intro v4 w4 o4B g4;have g4b:=g4.below b3.size fun k h=>(o3B.lt k h).1;refine hK _ _ (RN.KeepsN.of_below g4b) ?_;clear hK K;obtain⟨a4,c4,rfl,-⟩:=qj.form2 (show qj Ev.cells 69 8 w4 W.heap.size v4 es from o4B);have o4B:qj Ev.cells 69 8 w4 W.heap.size (.slice a4 es.length c4) es:=o4B;have b4:Below W.heap.size W w4:=b3.trans g4b;have s4:=b4.size;have o4A:=qj.grwT o3A o3B (by decide) g4;have OA:=qh o4A;have OB:=qh o4B;have BF:=qh b4;have zF:=b4.size;have RF:=qh (qp R1.o b4 (by omega));have y0:=qa RF.o 0;have y1:=qa RF.o 1;have yf:∀j,w4.frozen? ⟨w.heap.size+1,j,none⟩=false:=fun j=>qB RF.o j;have ly:=qd RF.o;clear g1 g2 g3 g4 b0 b1 b2 b3 b4 d0 d1 o1B o2A o2B o3A o3B o4A o4B
  repeat first|(refine qz fun K hK=>?_;go_simp;refine hK _ _ ?_;clear hK K)|(apply qC;(intro w2 hw2;have hk1:=hw2.cell;have hk3:=hw2.1;clear hw2;go_simp;with_reducible rfl);simp only[Act.put,sA,sB,sC])|refine qH rfl rfl ?_|(refine qQ rfl rfl fun K hK=>?_;simp only[Act.put,sA,sB,sC];refine hK _ _ ?_;clear hK K)|refine qu ?_
  refine qM (fun K hK=>?_);go_simp;refine hK _ _ ?_;clear hK K
  repeat first|(refine qz fun K hK=>?_;go_simp;refine hK _ _ ?_;clear hK K)|(apply qC;(intro w2 hw2;have hk1:=hw2.cell;have hk3:=hw2.1;clear hw2;go_simp;with_reducible rfl);simp only[Act.put,sA,sB,sC])|refine qH rfl rfl ?_|(refine qQ rfl rfl fun K hK=>?_;simp only[Act.put,sA,sB,sC];refine hK _ _ ?_;clear hK K)|refine qu ?_
  go_wp2;have r4:=qdP (u1:=.slice a3 os.length c3) (u2:=.slice a4 es.length c4) RF.o;have c0:=qa r4 0;have c1:=qa r4 1;simp only[List.getElem?_toArray,List.getElem?_cons_zero,List.getElem?_cons_succ] at c0 c1;refine bodyPost_ret (v:=.agg #[.slice a3 os.length c3,.slice a4 es.length c4]) (by simp[results,Tryz.results34,go_sem,c0,c1]) rfl ⟨_,_,rfl,?_,?_,?_⟩
  ·exact qj.base (qj.box2 OA.o RF.o (by decide)) (by omega)
  ·exact qj.base (qj.box2 OB.o RF.o (by decide)) (by omega)
  ·exact ((B0.o.trans (BF.o.mono (by omega))).setCell (p:=⟨w.heap.size+1,0,none⟩) (by show w.heap.size<=w.heap.size+1;omega) _).setCell (p:=⟨w.heap.size+1,1,none⟩) (by show w.heap.size<=w.heap.size+1;omega) _
end
section
attribute [local irreducible] xE
theorem qj.cap {α:Type} {f:α->List Value} {e:TypeId} {sz n c B:Nat} {a:Option Addr} {w:World} {l:List α} (h:qj f e sz w B (.slice a n c) l):l.length<=c:=by
 obtain⟨-,h|⟨g,cap,cur,hv,-,-,hc,-⟩⟩:=h
 ·omega
 ·simp only[Value.slice.injEq] at hv
  omega
theorem Sl.take {α:Type} {f:α->List Value} {w:World} {B sz n c:Nat} {a:Option Addr} {l:List α} (hf:∀x,(f x).length=sz) (h:Sl w B sz (.slice a n c) n (l.flatMap f)) (hl:l.length=n) {m:Nat} (hm:m<=n):Sl w B sz (.slice a m c) m ((l.take m).flatMap f):=by
 obtain⟨a',c',hv,hn,hlen,hc⟩:=h;simp only[Value.slice.injEq,true_and] at hv;obtain⟨rfl,rfl⟩:=hv;refine⟨a,c,rfl,by omega,?_,fun h0=>?_⟩
 ·have:∀l:List α,(l.flatMap f).length=l.length*sz:=by
   intro l
   induction l with
   |nil=>simp
   |cons x l ih=>simp[ih,hf,Nat.add_mul,Nat.add_comm]
  rw[this,List.length_take];congr 1;omega
 ·obtain ⟨b,off,ha,hb,hcc⟩:=hc (by omega)
  refine⟨b,off,ha,hb,fun j u hu=>hcc j u ?_⟩;have hp:(l.take m).flatMap f <+:l.flatMap f:=by
   rw[←List.take_append_drop m l,List.flatMap_append,List.take_append_drop];exact List.prefix_append _ _
  obtain⟨r,hr⟩:=hp;rw[←hr];exact List.getElem?_append_left (List.getElem?_eq_some_iff.1 hu).1▸hu
theorem qgG (w:World):(sizeOf (Tryz.prog.elem 23)).run Tryz.prog w=.ok 8 w:=by kernel_rfl
theorem qaw (ov:Value) (ae:Option Addr) (ce:Nat) (os:List Ob) (es:List Ev) (n:Int) (w:World) (ho:Sl w w.heap.size 2 ov os.length (os.flatMap Ob.cells)) (he:Sl w w.heap.size 8 (.slice ae es.length ce) es.length (es.flatMap Ev.cells)) (hcap:es.length<=ce) (hol:os.length<=100000) (hel:es.length<=100000):
  Calls Tryz.prog 10 #[.agg #[ov,.slice ae es.length ce],.int .i64 n] w (WF os (es.take n.toNat) w):=by
 obtain⟨ao,co,rfl,mo⟩:=ho.ex;obtain⟨m,hm⟩:∃m,m=min n.toNat es.length:=⟨_,rfl⟩
 obtain⟨mi,hmi⟩:∃mi:Int,mi=min n es.length:=⟨_,rfl⟩
 have hmin:∀(ts:Array TypeId) (ty:TypeId) (X:World),(Builtin.min_ ts ty #[.int .i64 n,.int .i64 (es.length:Int)]).run Tryz.prog X=.ok (.int .i64 mi) X:=fun ts ty X=>by
  rw[run_min_int2,hmi];congr 2;split <;> omega
 have hmax:∀(ts:Array TypeId) (ty:TypeId) (X:World),(Builtin.max_ ts ty #[.int .i64 (0:Int),.int .i64 mi]).run Tryz.prog X=.ok (.int .i64 (m:Int)) X:=fun ts ty X=>by
  rw[run_max_int2];congr 2;split <;> omega
 have hsl:∀X:World,(Instr.slice 23 (.slice ae es.length ce) none (some (.int .i64 (m:Int))) none).run Tryz.prog X=.ok (.slice ae m ce) X:=fun X=>by
  rw[run_slice_h X _ _ _ _ Tryz.underlying23 _ _ (by omega) (by omega),qgG];simp only[Result.andThen,sliced,Int.toNat_natCast,Nat.sub_zero];congr 2
  split
  ·rfl
  ·cases ae <;> simp[Addr.add]
 have hst:es.take n.toNat=es.take m:=by
  rw[hm];rcases Nat.le_total n.toNat es.length with h|h
  ·rw [Nat.min_eq_left h]
  ·rw [Nat.min_eq_right h,List.take_of_length_le h,List.take_length]
 rw[hst];have hml:m<=es.length:=by omega
 have hlt:(es.take m).length=m:=by rw[List.length_take];omega
 have b0:Below w.heap.size w ((w.alloc (.cells #[.slice ao os.length co,.slice ae m ce] 25)).alloc (.cells #[.slice none 0 0,.slice none 0 0] 25)):=((Below.refl _ w).alloc (Nat.le_refl _) _).alloc (by simp) _;have r0:=qD (o:=.cells #[.slice none 0 0,.slice none 0 0] 25) (qy w (.cells #[.slice ao os.length co,.slice ae m ce] 25));have r1:=qV (w:=w.alloc (.cells #[.slice ao os.length co,.slice ae m ce] 25)) (o:=.cells #[.slice none 0 0,.slice none 0 0] 25) (g:=w.heap.size+1) (by simp);have z0:((w.alloc (.cells #[.slice ao os.length co,.slice ae m ce] 25)).alloc (.cells #[.slice none 0 0,.slice none 0 0] 25)).heap.size=w.heap.size+2:=by simp
 have hcl:=qh (Mm _ _ os (es.take m) _ ((ho.below b0).more (by omega)) (show Sl _ _ 8 (.slice ae m ce) (es.take m).length _ from by rw[hlt];exact((he.take Ev.len rfl hml).below b0).more (by omega)) hol (by rw[hlt];omega));have HLT:=qh hlt;clear ho he hst hm hlt hmi;generalize es.take m=t at *;go_enter Tryz.func10,Tryz.ntmps10;go_wp2_with fail;have B0:=qh b0;have R1:=qh r1;clear b0 r1 r0;generalize (w.alloc (.cells #[.slice ao os.length co,.slice ae m ce] 25)).alloc (.cells #[.slice none 0 0,.slice none 0 0] 25)=W at *;refine(hcl.o).mono ?_;rintro e V ⟨vo,ve,rfl,oo,oe,bV⟩;obtain⟨a2,c2,rfl,-⟩:=oo.form2;obtain⟨a4,c4,rfl,-⟩:=oe.form2;have OA:=qh oo;have OB:=qh oe;have BF:=qh bV;have zF:=bV.size;have RF:=qh (qp R1.o bV (by omega));have y0:=qa RF.o 0;have y1:=qa RF.o 1;have yf:∀j,V.frozen? ⟨w.heap.size+1,j,none⟩=false:=fun j=>qB RF.o j;have ly:=qd RF.o;clear oo oe bV hcl;go_wp2;have r4:=qdP (u1:=.slice a2 os.length c2) (u2:=.slice a4 t.length c4) RF.o;have c0:=qa r4 0;have c1:=qa r4 1;simp only[List.getElem?_toArray,List.getElem?_cons_zero,List.getElem?_cons_succ] at c0 c1;refine bodyPost_ret (v:=.agg #[.slice a2 os.length c2,.slice a4 t.length c4]) (by simp[results,Tryz.results10,go_sem,c0,c1]) rfl ⟨_,_,rfl,?_,?_,?_⟩
 ·exact qj.base (qj.box2 OA.o RF.o (by decide)) (by omega)
 ·exact qj.base (qj.box2 OB.o RF.o (by decide)) (by omega)
 ·exact ((B0.o.trans (BF.o.mono (by omega))).setCell (p:=⟨w.heap.size+1,0,none⟩) (by show w.heap.size<=w.heap.size+1;omega) _).setCell (p:=⟨w.heap.size+1,1,none⟩) (by show w.heap.size<=w.heap.size+1;omega) _
theorem qco (ov:Value) (ae:Option Addr) (ce:Nat) (os:List Ob) (es:List Ev) (n:Nat) (w:World) (ho:Sl w w.heap.size 2 ov os.length (os.flatMap Ob.cells)) (he:Sl w w.heap.size 8 (.slice ae es.length ce) es.length (es.flatMap Ev.cells)) (hcap:es.length<=ce) (hol:os.length<=100000) (hel:es.length<=100000):
  Calls Tryz.prog 10 #[.agg #[ov,.slice ae es.length ce],.int .i64 n] w (WF os (es.take n) w):=qaw ov ae ce os es n w ho he hcap hol hel
end
def qbS (D:Nat):Deferred:={target:=.collected D,args:=#[]}
theorem ur {B:Nat} (W:World) (l:Nat) (o:Obj) (hl:B<=l) (h:l < W.heap.size):Below B W (W.putObj l o):=
 (Below.refl B W).grown (grownBy_putObj' W l o) (by omega) (fun k e=>by cases e;omega)
def qfl (base:Nat) (Ds:List Nat) (w:World):Prop:=Ds.Nodup/\∀D ∈ Ds,base<=D/\w.heap[D]?=some (.deferred (some []))
theorem Ye {F:Fence} {n:Nat} {P:Program} {fn:Func} {tmps:Array Value} {R:Ending->World->Prop} {base:Nat}:∀(Ds:List Nat) (w:World),qfl base Ds w->
  (∀w',Below base w w'->LeavesIn F n P fn tmps R [] .returning w')->LeavesInM F n P fn tmps R (Ds.map qbS) .returning w
 |[],w,_,h=>h w (Below.refl _ _)
 |D::Ds,w,hM,h=>by
  obtain⟨hn,hM⟩:=hM;rw[List.nodup_cons] at hn;obtain⟨hb,hd⟩:=hM D (by simp);have hlt:D < w.heap.size:=(Array.getElem?_eq_some_iff.1 hd).1;refine⟨by simp,.inl ⟨D,_,rfl,run_takeDeferred hd,Ye Ds _ ⟨hn.2,fun E hE=>⟨(hM E (by simp[hE])).1,?_⟩⟩ (fun w' hb'=>h w' ((ur w D _ hb hlt).trans hb'))⟩⟩;have hne:E≠D:=fun e=>hn.1 (e▸hE);exact(World.putObj_heap_other (by omega)).trans (hM E (by simp[hE])).2
structure xK (M:Obj->Prop) (L:Nat->Prop) (lo hb:Nat) (A B:World):Prop where
 base:Below 0 A B
 block:∀k O,L k\/lo<=k->k < hb->A.heap[k]?=some O->¬M O->B.heap[k]?=some O
theorem xK.size {M:Obj->Prop} {L:Nat->Prop} {lo hb:Nat} {A B:World} (h:xK M L lo hb A B):A.heap.size<=B.heap.size:=h.base.size
theorem xK.trans {M:Obj->Prop} {L:Nat->Prop} {lo hb:Nat} {A B C:World} (h:xK M L lo hb A B) (k:xK M L lo hb B C):xK M L lo hb A C:=⟨h.base.trans k.base,fun j O h1 h2 h3 h4=>k.block j O h1 h2 (h.block j O h1 h2 h3 h4) h4⟩
theorem xK.below {M:Obj->Prop} {L:Nat->Prop} {lo hb N:Nat} {A B:World} (h:Below N A B) (hN:hb<=N):xK M L lo hb A B:=⟨h.mono (Nat.zero_le _),fun k O _ hk hO _=>(h.block k (by omega)).trans hO⟩
theorem xK.set {M:Obj->Prop} {L:Nat->Prop} {lo hb g j:Nat} {A:World} (v:Value) (hg:g < lo/\¬L g\/hb<=g):xK M L lo hb A (A.setCell ⟨g,j,none⟩ v):=⟨(Below.refl 0 A).setCell (p:=⟨g,j,none⟩) (Nat.zero_le _) v,fun k O h1 h2 hO _=>(Below.heap_setCell _ _ _ _ (by
 show k≠g;rintro rfl;rcases hg with⟨h3,h4⟩|h3
 ·exact h1.elim h4 (by omega)
 ·omega)).trans hO⟩
theorem LeavesIn.fin {F:Fence} {n:Nat} {P:Program} {fn:Func} {tmps:Array Value} {R:Ending->World->Prop} {w:World} {v:Value} (h:(results fn tmps).run P w=.ok v w) (hR:R (.returned v) w):LeavesIn F n P fn tmps R [] .returning w:=⟨v,h,hR⟩
theorem Yf {F:Fence} {n:Nat} {P:Program} {fn:Func} {tmps:Array Value} {R:Ending->World->Prop} {D:Nat} {w:World} (hd:w.heap[D]?=some (.deferred (some [])))
  (h:∀w',Below D w w'->(∀k,k≠D->w'.heap[k]?=w.heap[k]?)->LeavesIn F n P fn tmps R [] .returning w'):LeavesInM F n P fn tmps R [qbS D] .returning w:=
 ⟨by simp,.inl ⟨D,_,rfl,run_takeDeferred hd,h _ (ur w D _ (Nat.le_refl _) (Array.getElem?_eq_some_iff.1 hd).1) fun k hk=>World.putObj_heap_other hk⟩⟩
def qdt (P:Program) (M:Obj->Prop) (L:Nat->Prop) (Qs:(Nat->Prop)->Prop) (G:Array Value->Prop) (gf:Nat) (cs:Array Value) (m:Nat) (Pre Gd:World->Prop) (H:(Nat->Prop)->Nat->World->Nat->Array Value->Prop) (N:Nat):Prop:=
 ∀(l:Nat) (J Jx:(Nat->Prop)->Nat->World->Prop) (W:World),Pre W->(∀q i A,Qs q->J q i A->Gd A)->(∀q i A B,Qs q->J q i A->W.heap.size<=A.heap.size->Below W.heap.size A B->(∀k,k < A.heap.size->¬q k->B.heap[k]?=A.heap[k]?)->J q i B)->
  (∀q i A B,Qs q->Jx q i A->W.heap.size<=A.heap.size->Below W.heap.size A B->(∀k,k < A.heap.size->¬q k->B.heap[k]?=A.heap[k]?)->Jx q i B)->
  (∀(q:Nat->Prop) (i:Nat) (W1:World) (hb:Nat) (args:Array Value),i < N->Qs q->J q i W1->(∀k,q k->W.heap.size<=k/\k < hb)->W.heap.size<=hb->hb<=W1.heap.size->H q i W1 hb args->
   YieldAt Fence.wide m P l args W1 fun e W'=>(e=.returned (.bool true)/\(J q (i+1) W'/\xK M L W.heap.size hb W1 W')/\G args)\/(e=.returned (.bool false)/\Jx q (i+1) W'/\xK M L W.heap.size hb W1 W'))->
  (∀q,Qs q->(∀k,q k->W.heap.size<=k)->J q 0 W)->
  CallsIn Fence.wide (m+1) P gf (#[.func (.yield l) #[] #[]]++cs) W fun e W'=>(∃v,e=.returned v)/\∃q,Qs q/\(J q N W'\/∃i,0 < i/\i<=N/\Jx q i W')
def Lb (n0:Nat) (E:Nat->Prop):Nat->Prop:=fun k=>k < n0/\¬E k
def qfu (g:Prop) (M:Obj->Prop) (L:Nat->Prop) (lo hb:Nat) (I:Nat->World->Prop) (Ix:Code->Nat->World->Prop) (i:Nat) (W:World):Exit->Act->World->Prop
 |.normal,_,W'=>(I i W'/\xK M L lo hb W W')/\g
 |.ret,_,W'=>Ix .ret i W'/\xK M L lo hb W W'
 |.exit id,_,W'=>Ix (.exit id) i W'/\xK M L lo hb W W'
 |.goto t,_,W'=>Ix (.goto t) i W'/\xK M L lo hb W W'
 |.panic _,_,_=>False
 |.outgrown,_,_=>False
theorem vZ {P:Program} {M:Obj->Prop} {L:Nat->Prop} {Qs:(Nat->Prop)->Prop} {G:Array Value->Prop} {m gf N:Nat} {cs:Array Value} {Pre Gd:World->Prop} {H:(Nat->Prop)->Nat->World->Nat->Array Value->Prop} {g:Operand} {ps:Array Tmp} {assign body:Code} {Q:Exit->Act->World->Prop} {a:Act} {w:World}
  (hg:a.eval g=.func (.func gf) #[] cs) (eg:∀args w,(callFunc gf args).run P w=.ok (.enter gf args) w) (hL:∀k,L k->k < w.heap.size) (hit:qdt P M L Qs G gf cs m Pre Gd H N) (hps:∀q i W hb args,H q i W hb args->args.size=ps.size)
  (I:(Nat->Prop)->Nat->World->Prop) (Ix:(Nat->Prop)->Code->Nat->World->Prop) (hI:∀q i A B,Qs q->I q i A->w.heap.size<=A.heap.size->Below w.heap.size A B->(∀k,k < A.heap.size->k≠w.heap.size+1->¬q k->B.heap[k]?=A.heap[k]?)->I q i B) (hIx:∀q c i A B,Qs q->Ix q c i A->w.heap.size<=A.heap.size->Below w.heap.size A B->(∀k,k < A.heap.size->k≠w.heap.size+1->¬q k->B.heap[k]?=A.heap[k]?)->Ix q c i B)
  (hGd:∀q i A,Qs q->I q i A->Gd A) (h0:∀q,Qs q->(∀k,q k->w.heap.size+2<=k)->I q 0 w) (hpre:∀W,Below w.heap.size w W->Pre W) (hM1:∀r,¬M (.loop r)) (hM2:∀d,¬M (.deferred d))
  (hround:∀(q:Nat->Prop) (i:Nat) (W1:World) (hb:Nat) (args:Array Value),i < N->Qs q->I q i W1->(∀k,q k->w.heap.size+2<=k/\k < hb)->w.heap.size+2<=hb->hb<=W1.heap.size->H q i W1 hb args->
   assign.wpIn (Fence.wide.inRound (w.heap.size+1)) m P (Exit.then (fun a₁ w₁=>Below W1.heap.size W1 w₁/\∀w₂,w₂.heap.size=w₁.heap.size->(∀k,k≠w.heap.size+1->w₂.heap[k]?=w₁.heap[k]?)->Below w.heap.size w₁ w₂->
    body.wpIn (Fence.wide.inRound (w.heap.size+1)) m P (qfu (G args) M L w.heap.size hb (I q) (Ix q) (i+1) w₂) a₁ w₂) (fun _ _ _=>False))
    {tmps:=(ps.zip args).foldl (fun t (p,v)=>t.setIfInBounds p v) a.tmps,defers:=[]} W1)
  (hdone:∀(q:Nat->Prop) (W:World),Qs q->I q N W->w.heap.size+2<=W.heap.size->W.heap[w.heap.size]?=some (.deferred (some []))->Q .normal {a with defers:=qbS w.heap.size::a.defers} W)
  (hstop:∀(q:Nat->Prop) (c:Code) (i:Nat) (W:World),0 < i->i<=N->Qs q->Ix q c i W->w.heap.size+2<=W.heap.size->W.heap[w.heap.size]?=some (.deferred (some []))->c.wpIn Fence.wide (m+2) P Q {a with defers:=qbS w.heap.size::a.defers} W):
  (Code.rangeFunc g ps assign body).wpIn Fence.wide (m+2) P Q a w:=by
 refine wpIn_rangeFunc ?_;intro fn hfn;obtain⟨rc,hrc⟩:∃rc:LoopState->Option Code->Loop,rc=fun st pe=>{state:=st,pending:=pe,fn,tmps:=a.tmps,params:=ps,assign,body,defers:=w.heap.size}:=⟨_,rfl⟩
 obtain⟨W0,hW0⟩:∃W0,(w.alloc (.deferred (some []))).alloc (.loop (rc .ready none))=W0:=⟨_,rfl⟩
 have s0:W0.heap.size=w.heap.size+2:=by rw[←hW0];simp
 have l0:W0.heap[w.heap.size+1]?=some (.loop (rc .ready none)):=by
  rw[←hW0];have:=World.alloc_heap_new (w.alloc (.deferred (some []))) (.loop (rc .ready none));rwa [World.size_alloc] at this
 have d0:W0.heap[w.heap.size]?=some (.deferred (some [])):=by
  rw[←hW0];exact(Below.heap_alloc _ _ _ (by simp)).trans (World.alloc_heap_new w _)
 have b0:Below w.heap.size w W0:=by rw[←hW0];exact((Below.refl _ w).alloc (Nat.le_refl _) _).alloc (by simp) _
 refine⟨w.heap.size+1,[qbS w.heap.size],W0,{target:=.fn (.func gf) cs,args:=#[.func (.yield (w.heap.size+1)) #[] #[]]},W0,gf,#[.func (.yield (w.heap.size+1)) #[] #[]]++cs,W0,?_,?_,?_,?_,fun _=>by omega,?_⟩
 ·rw [←hW0,hrc];exact run_enterLoop_outer _ _ _ _ _
 ·simp only[resolve,hg]
  simp[go_sem]
 ·exact fun _ _=>trivial
 ·simp [invoke,go_sem,eg]
 ·have hK:∀{A B:World},Below A.heap.size A B->w.heap.size+2<=A.heap.size->∀{k:Nat} {o:Obj},k < w.heap.size+2->A.heap[k]?=some o->B.heap[k]?=some o:=
   fun hb hs k o hk h=>(hb.block k (by omega)).trans h
  refine CallsIn.mono (hit (w.heap.size+1)
   (fun q i W=>I q i W/\w.heap.size+2<=W.heap.size/\W.heap[w.heap.size+1]?=some (.loop (rc .ready none))/\W.heap[w.heap.size]?=some (.deferred (some [])))
   (fun q i W=>∃c,Ix q c i W/\w.heap.size+2<=W.heap.size/\W.heap[w.heap.size+1]?=some (.loop (rc .done (some c)))/\W.heap[w.heap.size]?=some (.deferred (some [])))
   W0 (hpre _ b0) (fun q i A hQ h=>hGd q i A hQ h.1) ?_ ?_ ?_ (fun q hQ hq=>⟨hI _ _ _ _ hQ (h0 q hQ fun k hk=>s0▸hq k hk) (Nat.le_refl _) b0 (fun k hk _ _=>b0.block k hk),by omega,l0,d0⟩)) ?_
  ·rintro q i A B hQ ⟨h1,h2,h3,h4⟩ hs hb he
   exact⟨hI _ _ _ _ hQ h1 (by omega) (hb.mono (by omega)) (fun k hk _ hT=>he k hk hT),by have:=hb.size;omega,(hb.block _ (by omega)).trans h3,(hb.block _ (by omega)).trans h4⟩
  ·rintro q i A B hQ ⟨c,h1,h2,h3,h4⟩ hs hb he
   exact⟨c,hIx _ _ _ _ _ hQ h1 (by omega) (hb.mono (by omega)) (fun k hk _ hT=>he k hk hT),by have:=hb.size;omega,(hb.block _ (by omega)).trans h3,(hb.block _ (by omega)).trans h4⟩
  ·rintro q i W1 hb args hi hQ ⟨h1,h2,h3,h4⟩ hq hlo hhi hH
   have hlt:w.heap.size+1 < W1.heap.size:=by omega
   have hy:=run_yield (P:=P) (args:=args) h3 (by rw[hrc];exact hps _ _ _ _ _ hH);rw[hrc] at hy;refine⟨fn,_,assign,body,hy,roundIn_of_wpIn hfn ?_⟩;refine wpIn_mono (hround q i W1 hb args hi hQ h1 (fun k hk=>s0▸hq k hk) (by omega) hhi hH) ?_;intro e a1 w1 he;cases e with
   |normal=>
    obtain⟨hb1,hbody⟩:=he;have sz1:=hb1.size;have r1:w1.heap[w.heap.size+1]?=some (.loop (rc .ready none)):=hK hb1 h2 (by omega) h3;have r2:w1.heap[w.heap.size]?=some (.deferred (some [])):=hK hb1 h2 (by omega) h4;refine⟨_,run_beginRound r1 (by rw[hrc]),?_⟩;obtain⟨w2,hw2⟩:∃w2,w1.putObj (w.heap.size+1) (.loop {rc .ready none with state:=.busy})=w2:=⟨_,rfl⟩
    have q1:w2.heap[w.heap.size+1]?=some (.loop {rc .ready none with state:=.busy}):=by rw[←hw2];exact World.putObj_heap_same (by omega)
    have q2:∀k,k≠w.heap.size+1->w2.heap[k]?=w1.heap[k]?:=fun k hk=>by rw[←hw2];exact World.putObj_heap_other hk
    have q3:w2.heap.size=w1.heap.size:=by rw[←hw2];simp[World.putObj]
    have q4:Below w.heap.size w1 w2:=by rw[←hw2];exact ur w1 _ _ (by omega) (by omega)
    have q5:=(q2 w.heap.size (by omega)).trans r2;rw[hw2];refine wpIn_mono (hbody w2 q3 q2 q4) ?_;have fin:∀(jump:Option Code) (W3:World),xK M L w.heap.size hb w2 W3->
      (Instr.endRound (w.heap.size+1) jump).run P W3=.ok (.bool jump.isNone) (W3.putObj (w.heap.size+1) (.loop (rc (if jump.isNone then .ready else .done) jump)))/\
      w.heap.size+2<=W3.heap.size/\Below w.heap.size W3 (W3.putObj (w.heap.size+1) (.loop (rc (if jump.isNone then .ready else .done) jump)))/\
      (W3.putObj (w.heap.size+1) (.loop (rc (if jump.isNone then .ready else .done) jump))).heap[w.heap.size+1]?=some (.loop (rc (if jump.isNone then .ready else .done) jump))/\
      (W3.putObj (w.heap.size+1) (.loop (rc (if jump.isNone then .ready else .done) jump))).heap[w.heap.size]?=some (.deferred (some [])):=fun jump W3 hk3=>by
     have t1:W3.heap[w.heap.size+1]?=some (.loop {rc .ready none with state:=.busy}):=hk3.block _ _ (.inr (by omega)) (by omega) q1 (hM1 _);have t2:W3.heap[w.heap.size]?=some (.deferred (some [])):=hk3.block _ _ (.inr (by omega)) (by omega) q5 (hM2 _);have t3:=hk3.size;have t4:=run_endRound (P:=P) jump t1;rw[hrc] at t4 ⊢;exact⟨t4,by omega,ur W3 _ _ (by omega) (by omega),World.putObj_heap_same (by omega),(World.putObj_heap_other (by omega)).trans t2⟩
    have keep:∀(W3:World) (o:Obj),xK M L w.heap.size hb w2 W3->Below w.heap.size W3 (W3.putObj (w.heap.size+1) o)->
      xK M L W0.heap.size hb W1 (W3.putObj (w.heap.size+1) o):=fun W3 o hk hs=>by
     refine⟨(((hb1.mono (Nat.zero_le _)).trans (q4.mono (Nat.zero_le _))).trans hk.base).trans (hs.mono (Nat.zero_le _)),fun k O hk1 hk2 hO hMO=>?_⟩;rw[s0] at hk1;have hk0:k≠w.heap.size+1:=hk1.elim (fun h=>by have:=hL k h;omega) (fun h=>by omega);exact(World.putObj_heap_other hk0).trans (hk.block k O (hk1.imp id fun h=>by omega) hk2 ((q2 k hk0).trans ((hb1.block k (by omega)).trans hO)) hMO)
    rintro e a3 W3 hp;cases e with
    |normal=>
     obtain⟨⟨hi3,hk3⟩,hg3⟩:=hp;obtain⟨hr,f1,f2,f3,f4⟩:=fin none W3 hk3;exact⟨_,_,hr,.inl ⟨rfl,⟨⟨hI _ _ _ _ hQ hi3 (by omega) f2 (fun k _ hk _=>World.putObj_heap_other hk),by simp[World.putObj];omega,f3,f4⟩,keep W3 _ hk3 f2⟩,hg3⟩⟩
    |ret=>
     obtain⟨hi3,hk3⟩:=hp;obtain⟨hr,f1,f2,f3,f4⟩:=fin (some .ret) W3 hk3;exact⟨_,_,hr,.inr ⟨rfl,⟨_,hIx _ _ _ _ _ hQ hi3 (by omega) f2 (fun k _ hk _=>World.putObj_heap_other hk),by simp[World.putObj];omega,f3,f4⟩,keep W3 _ hk3 f2⟩⟩
    |exit id=>
     obtain⟨hi3,hk3⟩:=hp;obtain⟨hr,f1,f2,f3,f4⟩:=fin (some (.exit id)) W3 hk3;exact⟨_,_,hr,.inr ⟨rfl,⟨_,hIx _ _ _ _ _ hQ hi3 (by omega) f2 (fun k _ hk _=>World.putObj_heap_other hk),by simp[World.putObj];omega,f3,f4⟩,keep W3 _ hk3 f2⟩⟩
    |goto t=>
     obtain⟨hi3,hk3⟩:=hp;obtain⟨hr,f1,f2,f3,f4⟩:=fin (some (.goto t)) W3 hk3;exact⟨_,_,hr,.inr ⟨rfl,⟨_,hIx _ _ _ _ _ hQ hi3 (by omega) f2 (fun k _ hk _=>World.putObj_heap_other hk),by simp[World.putObj];omega,f3,f4⟩,keep W3 _ hk3 f2⟩⟩
    |panic ch=>exact hp.elim
    |outgrown=>exact hp.elim
   |ret=>exact he.elim
   |exit id=>exact he.elim
   |goto t=>exact he.elim
   |panic ch=>exact he.elim
   |outgrown=>exact he.elim
  ·rintro e W2 ⟨⟨v,rfl⟩,q,hQ,(⟨h1,h2,h3,h4⟩|⟨i,hi0,hi1,c,h1,h2,h3,h4⟩)⟩
   ·exact ⟨none,_,by have:=run_endLoop (P:=P) h3 (by rw[hrc];simp);rw[hrc] at this;exact this,
     hdone q _ hQ (hI _ _ _ _ hQ h1 (by omega) (ur W2 _ _ (by omega) (by omega)) (fun k _ hk _=>World.putObj_heap_other hk)) (by simp[World.putObj];omega) ((World.putObj_heap_other (by omega)).trans h4)⟩
   ·exact ⟨some c,_,by have:=run_endLoop (P:=P) h3 (by rw[hrc];simp);rw[hrc] at this;exact this,
     hstop q c i _ hi0 hi1 hQ (hIx _ _ _ _ _ hQ h1 (by omega) (ur W2 _ _ (by omega) (by omega)) (fun k _ hk _=>World.putObj_heap_other hk)) (by simp[World.putObj];omega) ((World.putObj_heap_other (by omega)).trans h4)⟩
section
attribute [local irreducible] xE
def qdv (w:World) (p B:Nat) (os:List Ob) (es:List Ev):Prop:=∃ov vv,w.heap[p]?=some (.cells #[ov,vv] 25 (0,0))/\qj Ob.cells 62 2 w B ov os/\qj Ev.cells 69 8 w B vv es
theorem NB (ov vv:Value) (os:List Ob) (es:List Ev) (w:World) (ho:Sl w w.heap.size 2 ov os.length (os.flatMap Ob.cells)) (he:Sl w w.heap.size 8 vv es.length (es.flatMap Ev.cells)) (hol:os.length<=100000) (hel:es.length<=100000):
  Calls Tryz.prog 33 #[.agg #[ov,vv]] w fun e w'=>e=.returned (.func (.func 69) #[] #[.pointer (some ⟨w.heap.size,0,none⟩)])/\qdv w' w.heap.size w.heap.size os es/\Below w.heap.size w w':=by
 obtain⟨ao,co,rfl,mo⟩:=ho.ex;obtain⟨ae,ce,rfl,me⟩:=he.ex;have b0:Below w.heap.size w (w.alloc (.cells #[.slice ao os.length co,.slice ae es.length ce] 25)):=(Below.refl _ w).alloc (Nat.le_refl _) _;have r0:=qy w (.cells #[.slice ao os.length co,.slice ae es.length ce] 25);have CL:=qh (Mm (.slice ao os.length co) (.slice ae es.length ce) os es _ ((ho.below b0).more b0.size) ((he.below b0).more b0.size) hol hel);have B0:=qh b0;have R0:=qh r0;clear ho he b0 r0;go_enter Tryz.func33,Tryz.ntmps33;go_wp2_with fail;generalize w.alloc (.cells #[.slice ao os.length co,.slice ae es.length ce] 25)=W at *;refine CL.o.mono ?_;rintro e W1 ⟨ov',vv',rfl,o1,v1,b1⟩;have r1:=qp R0.o b1 (qd R0.o);have l1:=qd r1;have yf:=qB r1;have yf0:=yf 0;have yf1:=yf 1;have y:=qa r1;have y0:=y 0;have y1:=y 1;simp at y0 y1;obtain⟨a1,c1,rfl⟩:=qj.slv o1;obtain⟨a2,c2,rfl⟩:=qj.slv v1;have R2:=qh (qq (qq r1 0 (.slice a1 os.length c1)) 1 (.slice a2 es.length c2));have B2:=qh (((B0.o.trans (b1.mono B0.o.size)).setCell (p:=⟨w.heap.size,0,none⟩) (Nat.le_refl _) (.slice a1 os.length c1)).setCell (p:=⟨w.heap.size,1,none⟩) (Nat.le_refl _) (.slice a2 es.length c2));have O2:=qh (qj.other (j:=1) (qj.other (j:=0) o1 (qj.neT o1 r1 (by decide)) (.slice a1 os.length c1)) (qj.neT o1 r1 (by decide)) (.slice a2 es.length c2));have V2:=qh (qj.other (j:=1) (qj.other (j:=0) v1 (qj.neT v1 r1 (by decide)) (.slice a1 os.length c1)) (qj.neT v1 r1 (by decide)) (.slice a2 es.length c2));have hz:=B0.o.size;clear r1 o1 v1 b1 y yf;go_wp2;go_ret;refine⟨rfl,⟨_,_,by simpa using R2.o,O2.o.base (by omega),V2.o.base (by omega)⟩,B2.o⟩
def qfm (os:List Ob) (es:List Ev) (_:Nat->Prop) (i:Nat) (w:World) (hb:Nat) (args:Array Value):Prop:=∃ov vv,args=#[.int .i64 i,.agg #[ov,vv]]/\qj Ob.cells 62 2 w hb ov os/\qj Ev.cells 69 8 w hb vv (es.take i)
def Rb (O:Obj):Prop:=∃cs fz,O=.cells cs 28 fz
section
variable {M:Obj->Prop} {n lo hb:Nat} {E:Nat->Prop} {w A B w':World}
theorem xK.moreM (h:xK M (Lb n E) n n w A) (k:xK M (Lb n E) lo hb A B) (hn:n<=hb):xK M (Lb n E) n n w B:=
 ⟨h.base.trans k.base,fun j O h1 h2 h3 h4=>k.block j O (.inl (h1.resolve_right (by omega))) (by omega) (h.block j O h1 h2 h3 h4) h4⟩
theorem xK.rowM {p:Nat} {O:Obj} (hk:xK M (Lb n E) n n w w') (hn:n=w.heap.size) (h:w.heap[p]?=some O) (hp:¬E p) (hM:¬M O):w'.heap[p]?=some O:=
 hk.block p O (.inl ⟨hn▸(Array.getElem?_eq_some_iff.1 h).1,hp⟩) (hn▸(Array.getElem?_eq_some_iff.1 h).1) h hM
theorem qj.keepE {α:Type} {f:α->List Value} {e:TypeId} {sz B:Nat} {v:Value} {l:List α} (h:qj f e sz w B v l) (hk:xK M (Lb n E) n n w w') (hn:n=w.heap.size) (hE:∀k,E k->k < B) (hM:∀cs fz,¬M (.cells cs e fz)):qj f e sz w' B v l:=by
 subst hn;obtain⟨h1,h2⟩:=h;refine⟨h1,?_⟩;rcases h2 with h2|⟨g,cap,cur,rfl,hg,hh,r⟩
 ·exact .inl h2
 ·have hl:=(Array.getElem?_eq_some_iff.1 hh).1
  exact .inr ⟨g,cap,cur,rfl,hg,hk.block g _ (.inl ⟨hl,fun e=>by have:=hE g e;omega⟩) hl hh (hM _ _),r⟩
end
theorem YG {cs:Array Value} {t:TypeId} {fz:Nat×Nat} (h:t≠28):¬Rb (.cells cs t fz):=fun⟨_,_,e⟩=>h (by cases e;rfl)
theorem qgp (m:Nat) (w0:World) (E:Nat->Prop) (pH B:Nat) (os:List Ob) (es:List Ev) (hol:os.length<=100000) (hel:es.length<=100000) (hH:qdv w0 pH B os es) (hB:B<=pH) (hE:∀k,E k->k < B):
  qdt Tryz.prog Rb (Lb w0.heap.size E) (fun q=>q=fun _=>False) (fun _=>True) 69 #[.pointer (some ⟨pH,0,none⟩)] m (fun W=>Below w0.heap.size w0 W) (fun _=>True) (qfm os es) (es.length+1):=by
 intro l J Jx W hP _ hJ _ hY h0;obtain⟨ov,vv,hr,ho,hv⟩:=hH;obtain⟨a1,c1,rfl⟩:=qj.slv ho;obtain⟨a2,c2,rfl⟩:=qj.slv hv;have nE:¬E pH:=fun h=>by have:=hE pH h;omega
 have F0:xK Rb (Lb w0.heap.size E) w0.heap.size w0.heap.size w0 W:=xK.below hP (Nat.le_refl _);have hcap:=qj.cap hv;have hm:m+1 - 1=m:=rfl;refine callsIn_of_wp Tryz.func69 rfl trivial ?_ rfl;simp only[Tryz.ntmps69,List.size_toArray,List.length_cons,List.length_nil,Nat.reduceAdd,Nat.reduceSub,Array.replicate_succ,Array.replicate_zero,List.push_toArray,List.append_toArray,List.nil_append,List.cons_append];have HY:=qh hY;have HJ:=qh hJ;have HF:=qh F0;have HJ0:=qh (h0 (fun _=>False) rfl fun k e=>by cases e);have HR:=qh hr;have HO:=qh ho;have HV:=qh hv;clear hY hJ h0 F0 hr ho hv hP;gi_wp2_with fail
 gi_loopw [3] (fun p wr=>∃(i:Nat),i<=es.length+1/\p=.int .i64 i/\J (fun _=>False) i wr/\xK Rb (Lb w0.heap.size E) w0.heap.size w0.heap.size w0 wr/\W.heap.size<=wr.heap.size)
  (fun p _=>es.length+1 - (intOf p).toNat)
 case atStart=>exact⟨0,by omega,by go_num,HJ0.o,HF.o,Nat.le_refl _⟩
 case round=>
  obtain⟨i,hi,rfl,hJi,hF,hs⟩:=hrel;have r:=hF.rowM rfl HR.o nE (YG (by decide));have y:=qa r;have y0:=y 0;have y1:=y 1;simp at y0 y1;have yl:=qd r;have HF1:=qh hF;have HJi:=qh hJi;clear y r hF hJi HJ0;by_cases hlt:i<=es.length
  ·have PC:=qh (qco (.slice a1 os.length c1) a2 c2 os es i wr (qj.sl (qj.keepE HO.o HF1.o rfl hE fun _ _=>YG (by decide))) (qj.sl (qj.keepE HV.o HF1.o rfl hE fun _ _=>YG (by decide))) hcap hol hel)
   gi_wp2_with fail;refine⟨trivial,(callsIn_wide.2 PC.o).mono ?_⟩;rintro e w1 ⟨ov,vv,rfl,o1,v1,b1⟩;obtain⟨a3,c3,rfl⟩:=qj.slv o1;obtain⟨a4,c4,rfl⟩:=qj.slv v1;have hti:(es.take i).length=i:=by rw[List.length_take];omega
   rw[hti] at v1 ⊢;clear hti;obtain⟨fn,tmps,assign,body,hy,hR⟩:=HY.o (fun _=>False) i w1 wr.heap.size #[.int .i64 i,.agg #[.slice a3 os.length c3,.slice a4 i c4]] (by omega) rfl (HJ.o (fun _=>False) i _ _ rfl HJi.o hs (b1.mono hs) fun k hk _=>b1.block k hk) (fun k e=>by cases e) hs b1.size ⟨_,_,rfl,o1,v1⟩;have HB:=qh b1;have hz1:=b1.size;clear o1 v1 b1 PC;gi_wp2_with fail;refine hR.mono ?_;rintro e W3 (⟨rfl,⟨hJ3,hk3⟩,-⟩|⟨rfl,hJx3,-⟩)
   ·have hs3:=hk3.size
    have hw0:=HF.o.size;have F3:=qh ((HF1.o.moreM (xK.below (lo:=w0.heap.size) HB.o (Nat.le_trans hw0 hs)) (Nat.le_refl _)).moreM hk3 (Nat.le_trans hw0 hs));have J3:=qh hJ3;clear hJ3 hk3;gi_wp2_with fail;go_roundw
    case rel=>exact⟨i+1,by omega,by go_num,J3.o,F3.o,by omega⟩
    case measure=>simp[intOf];omega
   ·gi_wp2_with fail
    refine bodyPost_ret (results_none rfl _ _ _) rfl ?_;exact⟨⟨_,rfl⟩,(fun _=>False),rfl,.inr ⟨i+1,by omega,by omega,hJx3⟩⟩
  ·obtain rfl:i=es.length+1:=by omega
   have hq:decide (((es.length+1:Nat):Int)<=(es.length:Int))=false:=by simp;omega
   gi_wp2_with fail;go_end0;exact⟨⟨_,rfl⟩,(fun _=>False),rfl,.inl HJi.o⟩
end
section
attribute [local irreducible] xE
theorem qbN {v:Value} {l:List xz} {B:Nat} (w:World) (h:qj xz.cells 133 1 w B v l) (hl:l.length<=400) {g:Nat} {lb:Array Value} {p:xz->Bool} (eg:∀args w,(callFunc g args).run Tryz.prog w=.ok (.enter g args) w)
  (hp:Zs Tryz.prog g lb (fun m:xz=>xD m.p) p (· ∈ l) w v.ownBlock):
  Calls Tryz.prog 86 #[v,.func (.func g) #[] lb] w fun e w'=>e=.returned (.int .i64 (Wh p l))/\Below w.heap.size w w':=by
 obtain⟨av,cv,rfl⟩:=qj.sli h;have HH:=qh h;have HP:=qh hp;clear h hp;go_enter Tryz.func86,Tryz.ntmps86;go_wp2_with fail;obtain⟨W,rfl⟩:∃W,W=w:=⟨_,rfl⟩
 go_loopw [8] (fun q wr=>∃(k:Nat),k<=l.length/\q=.int .i64 k/\(∀x ∈ l.take k,p x=false)/\Below W.heap.size W wr) (fun q _=>l.length - (intOf q).toNat)
 case atStart=>exact⟨0,by omega,by go_num,by simp,Below.refl _ _⟩
 case round=>
  obtain⟨k,hk,rfl,hn,hb⟩:=hrel;have HN:=qh hn;have HB:=qh hb;have hsz:=hb.size;clear hn hb;by_cases hlt:k < l.length
  ·obtain ⟨b,off,d,rfl,hb,hdk,hc⟩:=(qj.sl HH.o).atF xz.len rfl hlt
   have HDK:=qh hdk;have hcl:=qh (HP.o wr d (List.mem_of_getElem? hdk) (grownBy.below (grownBy.refl _ _) HB.o));obtain⟨mp,mr,mw,mdv⟩:=d;have c0:wr.cell? ⟨b,off+k,none⟩=some (xD mp):=by have:=qx HB.o hb (hc 0 (by decide));simpa using this
   unfold xD at c0;have hbw:b < wr.heap.size:=by omega
   clear hc hdk;obtain⟨r,hr⟩:∃r,p ⟨mp,mr,mw,mdv⟩=r:=⟨_,rfl⟩
   rw[hr] at hcl;have HR:=qh hr;clear hr;go_wp2_with fail;refine(hcl.o).mono ?_;rintro e w1 ⟨rfl,b1⟩;have HB1:=qh (HB.o.trans (b1.mono hsz));clear b1 hcl;cases r with
   |true=>
    go_wp2_with fail;refine bodyPost_ret (v:=.int .i64 k) (by simp[results,Tryz.results86,go_sem]) rfl ?_;exact⟨by rw[qcl HDK.o HR.o HN.o],HB1.o⟩
   |false=>
    go_wp2_with fail;go_roundw
    case rel=>
     refine⟨k+1,by omega,by go_num,fun x hx=>?_,HB1.o⟩;rw[List.take_add_one,HDK.o,Option.toList_some] at hx;rcases List.mem_append.1 hx with hx|hx
     ·exact HN.o x hx
     ·rw [List.mem_singleton.1 hx];exact HR.o
    case measure=>simp[intOf];omega
  ·obtain rfl:k=l.length:=by omega
   have hq:decide ((l.length:Int) < (l.length:Int))=false:=by simp
   go_wp2_with fail;refine bodyPost_ret (v:=.int .i64 (-1)) (by simp[results,Tryz.results86,go_sem]) rfl ?_;refine⟨by rw[Nm fun x hx=>HN.o x (by rw[List.take_length];exact hx)],HB.o⟩
theorem Me (w:World):(sizeOf (Tryz.prog.elem 131)).run Tryz.prog w=.ok 1 w:=by kernel_rfl
theorem qdY:∃z:Value,(∀w,(zeroValue 133).run Tryz.prog w=.ok z w)/\z.cells.size=1/\∀u ∈ z.cells.toList,u.oneCell'=true:=⟨(.pointer none),fun w=>by kernel_rfl,rfl,by intro u hu;simp[Value.cells] at hu;subst hu;rfl⟩
theorem qfJ {w:World} {B g n c i:Nat} {l:List xz} (h:qj xz.cells 133 1 w B (.slice (some ⟨g,0,none⟩) n c) l) (hi:i < n) (mp mr mw:Nat) (mdv:Value):
  qj xz.cells 133 1 (w.setCell ⟨g,i,none⟩ (.pointer (some ⟨mp,0,none⟩))) B (.slice (some ⟨g,0,none⟩) n c) (l.set i ⟨mp,mr,mw,mdv⟩):=by
 have hn:=qj.len h;obtain⟨d,hd⟩:∃d,l[i]?=some d:=⟨_,List.getElem?_eq_getElem (by omega)⟩
 have h1:=jg h xz.len (u:=(⟨mp,mr,mw,mdv⟩:xz)) (x:=d) (a:=.pointer (some ⟨mp,0,none⟩)) (j:=0) (by decide) hd rfl;simpa using h1
theorem YD {v:Value} {l:List xz} {B:Nat} (w:World) (h:qj xz.cells 133 1 w B v l) (hl:l.length<=400) {g0:Nat} {lb:Array Value} {p:xz->Bool} (eg:∀args w,(callFunc g0 args).run Tryz.prog w=.ok (.enter g0 args) w)
  (hp:Zs Tryz.prog g0 lb (fun m:xz=>xD m.p) p (· ∈ l) w v.ownBlock):
  Calls Tryz.prog 50 #[v,.func (.func g0) #[] lb] w fun e w'=>∃v',e=.returned v'/\qj xz.cells 133 1 w' B v' (l.filter fun x=>!p x)/\Yt w w' v v':=by
 obtain⟨av,cv,rfl⟩:=qj.sli h;have hix:=qbN w h hl eg hp;rcases Vi (p:=p) (l:=l) with⟨e1,e2⟩|⟨k,d,e1,hkl,hkd,hpd,e2⟩
 ·rw [e1] at hix
  have HX:=qh hix;have HH:=qh h;have HE:=qh e2;clear hix h hp e1 e2;go_enter Tryz.func50,Tryz.ntmps50;go_wp2_with fail;refine(HX.o).mono ?_;rintro e w1 ⟨rfl,b1⟩;have O1:=qh (qj.below HH.o b1);have G1:=qh (show Yt w w1 (.slice av l.length cv) (.slice av l.length cv) from⟨grownBy.below (grownBy.refl w _) b1,fun _ h=>.inl h⟩);clear b1 HX;go_wp2_with fail;go_ret;exact⟨_,rfl,by rw[HE.o];exact O1.o,G1.o⟩
 ·obtain ⟨g,hgv⟩:∃g,av=some ⟨g,0,none⟩:=by
   rcases qj.form h with⟨-,h2⟩|⟨g,cap,h1,-⟩
   ·rw [h2] at hkl;simp at hkl
   ·exact ⟨g,by simp only[Value.slice.injEq] at h1;exact h1.1⟩
  subst hgv;rw[e1] at hix;have hgB:=qj.lt h g rfl;have hcap:=qj.capD h;have HX:=qh hix;have HH:=qh h;have HE:=qh e2;have HP:=qh hp;clear hix h hp e1 e2;have qk:((k:Int)==-1)=false:=beq_eq_false_iff_ne.2 (by omega);go_enter Tryz.func50,Tryz.ntmps50;go_wp2_with fail;refine(HX.o).mono ?_;rintro e w1 ⟨rfl,b1⟩;have O1:=qh (qj.below HH.o b1);have G1:=qh (grownBy.below (grownBy.refl w (some g)) b1);clear b1 HX;go_wp2_with fail
  go_loopw [5,6] (fun q r wr=>∃(i j:Nat) (dk:List xz),i < j/\j<=l.length/\q=.int .i64 i/\r=.int .i64 j/\dk.length=l.length/\dk.take i=(l.take j).filter (fun x=>!p x)/\dk.drop j=l.drop j/\qj xz.cells 133 1 wr B (.slice (some ⟨g,0,none⟩) l.length cv) dk/\w.grownBy wr (some g)) (fun _ r _=>l.length - (intOf r).toNat)
  case atStart=>exact⟨k,k+1,l,by omega,by omega,rfl,by first|rfl|go_num,rfl,HE.o.symm,rfl,O1.o,G1.o⟩
  case round=>
   obtain⟨i,j,dk,hij,hj,rfl,rfl,hdl,htk,hdr,ho,hg⟩:=hrel;have hsz:=hg.size;have HTK:=qh htk;have HDR:=qh hdr;have HO:=qh ho;have HG:=qh hg;have HDL:=qh hdl;clear htk hdr ho hg hdl O1 G1;by_cases hlt:j < l.length
   ·have hdl2:qj xz.cells 133 1 wr B (.slice (some ⟨g,0,none⟩) dk.length cv) dk:=by rw[HDL.o];exact HO.o
    obtain⟨b,off,d,hqe,hb,hdk,hc⟩:=(qj.sl hdl2).atF xz.len rfl (show j < dk.length by rw[HDL.o];exact hlt);simp only[Option.some.injEq,Addr.mk.injEq,and_true] at hqe;obtain⟨rfl,rfl⟩:=hqe;have hlj:l[j]?=some d:=by rw[←KN HDR.o];exact hdk
    have HLJ:=qh hlj;have HMm:=qh (List.mem_of_getElem? hlj);obtain⟨mp,mr,mw,mdv⟩:=d;have c0:wr.cell? ⟨g,j,none⟩=some (.pointer (some ⟨mp,0,none⟩)):=by have:=hc 0 (by decide);simpa[xz.cells,xD] using this
    obtain⟨r,hr⟩:∃r,p ⟨mp,mr,mw,mdv⟩=r:=⟨_,rfl⟩
    have HR:=qh hr;have b3:Below wr.heap.size wr wr:=Below.refl _ _;have hcl:=HP.o wr ⟨mp,mr,mw,mdv⟩ HMm.o (grownBy.below HG.o b3);rw[hr] at hcl;have HCL:=qh hcl;have O3:=qh (qj.below HO.o b3);have G3:=qh (grownBy.below HG.o b3);have hsz3:=b3.size
    skip
    clear hcl hr hlj hdk hc hdl2 b3;go_wp2_with fail;refine(HCL.o).mono ?_;rintro e W4 ⟨rfl,b4⟩;have O4:=qh (qj.below O3.o b4);have G4:=qh (grownBy.below G3.o b4);have hsz4:=b4.size
    skip
    clear b4 HCL;cases r with
    |true=>
     go_wp2_with fail;go_roundw
     case rel=>
      refine⟨i,j+1,dk,by omega,by omega,rfl,by go_num,HDL.o,by rw[KE HLJ.o HR.o];exact HTK.o,?_,O4.o,G4.o⟩;have:=congrArg (List.drop 1) HDR.o;simpa[List.drop_drop] using this
     case measure=>simp[intOf];omega
    |false=>
     have hdl4:qj xz.cells 133 1 W4 B (.slice (some ⟨g,0,none⟩) dk.length cv) dk:=by rw[HDL.o];exact O4.o
     obtain⟨b',off',d',hqe,hb',hdk',hx⟩:=(qj.sl hdl4).atF xz.len rfl (show i < dk.length by rw[HDL.o];omega);simp only[Option.some.injEq,Addr.mk.injEq,and_true] at hqe;obtain⟨rfl,rfl⟩:=hqe;have x0:=hx 0 (by decide);simp[xz.cells,xD] at x0;obtain⟨csG,hcsG⟩:=qj.objD O4.o;have hgl:=qd hcsG;have zf:=fun o=>qB hcsG o;have OS:=qh (qfJ O4.o (show i < l.length by omega) mp mr mw mdv);clear hx hdk' hdl4 hcsG;go_wp2_with fail;go_roundw
     case rel=>
      refine⟨i+1,j+1,dk.set i ⟨mp,mr,mw,mdv⟩,by omega,by omega,by go_num,by go_num,by rw[List.length_set];exact HDL.o,?_,?_,OS.o,grownBy.set (G4.o)⟩
      ·rw [WT (by rw[HDL.o];omega),Mp HLJ.o HR.o,HTK.o]
      ·rw [WU (by omega)]
       have:=congrArg (List.drop 1) HDR.o;simpa[List.drop_drop] using this
     case measure=>simp[intOf];omega
   ·obtain rfl:j=l.length:=by omega
    have hq:decide ((l.length:Int) < (l.length:Int))=false:=by simp
    have HT:=qh (show dk.take i=l.filter fun x=>!p x by rw[HTK.o,List.take_length]);have OT:=qh (qj.takeF HO.o xz.len (show i<=l.length by omega));obtain⟨csG,hcsG⟩:=qj.objD HO.o;have hgl:=qd hcsG;obtain⟨z,hz1,hz2,hz3⟩:=qdY;have HF:=qh (fun o=>qB hcsG o);have HC:=qh (qj.cellsAt HO.o HDL.o xz.len);obtain⟨vs,hclr⟩:=XT wr 131 133 z 1 Tryz.underlying131 hz1 hz2 hz3 g (i*1) (l.length - i) (cv - i) (by omega) (fun t ht=>HC.o (i*1+t) (by have:(l.length - i)*1=l.length*1 - i*1:=Nat.sub_mul .. ;omega)) (fun t ht=>HF.o _);have hslA:∀X:World,(Instr.slice 131 (.slice (some ⟨g,0,none⟩) l.length cv) (some (.int .i64 (i:Int))) none none).run Tryz.prog X=.ok (.slice (some ⟨g,i*1,none⟩) (l.length - i) (cv - i)) X:=fun X=>by
     rw[run_slice_l X _ _ _ _ Tryz.underlying131 _ _ (by omega) (by omega),Me];simp only[Result.andThen,sliced,Int.toNat_natCast];congr 2;rw[if_neg (by omega)]
     first|(simp[Addr.add];done)|(simp[Addr.add];intro h;omega)
    have hslB:∀X:World,(Instr.slice 131 (.slice (some ⟨g,0,none⟩) l.length cv) none (some (.int .i64 (i:Int))) none).run Tryz.prog X=.ok (.slice (some ⟨g,0,none⟩) i cv) X:=fun X=>by
     rw[run_slice_h X _ _ _ _ Tryz.underlying131 _ _ (by omega) (by omega),Me];simp only[Result.andThen,sliced,Int.toNat_natCast,Nat.sub_zero];congr 2
     split
     ·rfl
     ·simp [Addr.add]
    have OB:=qh (qj.behind xz.len vs (i*1) OT.o (Nat.le_refl _));have GB:=qh (grownBy.sets vs (i*1) HG.o);have hclr:=hclr;simp only[Nat.mul_one] at hclr;have OB:=qh (by have:=OB.o;simpa only[Nat.mul_one] using this);have GB:=qh (by have:=GB.o;simpa only[Nat.mul_one] using this);clear hcsG hz1 hz3;go_wp2_with fail;go_ret;refine⟨_,rfl,by rw[←HT.o];have:=OB.o;exact this,⟨GB.o,fun k hk=>.inl hk⟩⟩
end
def UB (w:World) (ov vv:Value) (A:Au):Prop:=∀W,Below w.heap.size w W->Calls Tryz.prog 13 #[.agg #[ov,vv]] W fun e w'=>∃v,e=.returned (.tuple #[v,.nilIface])/\ue w' W.heap.size v A/\Below W.heap.size W w'
structure WX (w:World):Prop where
 wd:xu w
 er:Ul w
theorem WX.below {w w':World} (h:WX w) (hb:Below w.heap.size w w'):WX w':=⟨h.wd.below hb,h.er.below hb⟩
theorem qcm {os:List Ob} (h:Ra os):yz os []=true:=by
 unfold yz;simp only[Bool.and_eq_true,decide_eq_true_eq,List.all_eq_true];refine⟨⟨⟨h.1,by simp⟩,fun o ho=>?_⟩,fun e he=>by cases he⟩;obtain⟨h1,h2,h3⟩:=h.2 o ho;unfold Xt;rw[h1];simp[h2,h3,qcn]
theorem UB.below {w W:World} {ov vv:Value} {A:Au} (h:UB w ov vv A) (hb:Below w.heap.size w W):UB W ov vv A:=fun X hX=>h X (hb.trans (hX.mono hb.size))
section
attribute [local irreducible] xE
section
variable {w:World} {ov vv:Value} {os:List Ob} {es:List Ev} {A:Au} {lev:Int} {t1:TypeId} {v1:Value}
theorem qgq (ho:Sl w w.heap.size 2 ov os.length (os.flatMap Ob.cells)) (he:Sl w w.heap.size 8 vv es.length (es.flatMap Ev.cells)) (hTb:UB w ov vv A) (hA:12 < A.length) (hg:0 < w.heap.size) (hc:w.cell? ⟨0,0,none⟩=some (.iface t1 v1)):
  Calls Tryz.prog 93 #[.agg #[ov,vv],.int .i64 lev] w fun e w'=>e=.returned (.tuple #[.pointer none,.iface t1 v1])/\Below w.heap.size w w':=by
 obtain⟨ao,co,rfl,mo⟩:=ho.ex;obtain⟨ae,ce,rfl,me⟩:=he.ex;have b0:Below w.heap.size w (w.alloc (.cells #[.slice ao os.length co,.slice ae es.length ce] 25)):=(Below.refl _ w).alloc (Nat.le_refl _) _;have TC:=qh (hTb _ b0);have B0:=qh b0;have HC:=qh hc;clear ho he hTb b0 hc;go_enter Tryz.func93,Tryz.ntmps93;go_wp2_with fail;generalize w.alloc (.cells #[.slice ao os.length co,.slice ae es.length ce] 25)=W at *;refine TC.o.mono ?_;rintro e W1 ⟨tv,rfl,T1,b1⟩;obtain⟨rs,o1,hrl,hrc⟩:=T1;obtain⟨at1,ct1,rfl,-⟩:=(qj.sl o1).ex;have B1:=qh (B0.o.trans (b1.mono B0.o.size));have q12:decide (12 < (rs.length:Int))=true:=by simp;omega
 have hcc:=qx B1.o hg HC.o;have hgl:0 < W1.heap.size:=by have:=B1.o.size;omega
 clear o1 hrc b1 TC;go_wp2_with fail;refine jM [1,0,0] [0,1,2] (by kernel_rfl) ?_;simp only[qP,qA,sD,sE,sF,sG]
 repeat first|(refine qz fun K hK=>?_;go_simp;refine hK _ _ ?_;clear hK K)|(apply qC;(intro w2 hw2;have hk1:=hw2.cell;have hk3:=hw2.heap;clear hw2;go_simp;with_reducible rfl);simp only[Act.put,sA,sB,sC])|refine qH rfl rfl ?_|(refine qQ rfl rfl fun K hK=>?_;simp only[Act.put,sA,sB,sC];refine hK _ _ ?_;clear hK K)|refine qu ?_
 go_wp2_with fail;refine bodyPost_ret (v:=.tuple #[.pointer none,.iface t1 v1]) (by simp[results,Tryz.results93,go_sem]) rfl ⟨rfl,?_⟩
 first|exact B1.o|exact B1.o.drew
theorem qfr (most:Nat) (hmo:1<=most/\most<=65536) (hl:lev=1\/lev=2\/lev=3) (ho:Sl w w.heap.size 2 ov os.length (os.flatMap Ob.cells)) (he:Sl w w.heap.size 8 vv es.length (es.flatMap Ev.cells)) (hTb:UB w ov vv A) (hA:12 < A.length) (hg:0 < w.heap.size) (hc:w.cell? ⟨0,0,none⟩=some (.iface t1 v1)):
  Calls Tryz.prog 58 #[.chan none,.agg #[ov,vv],.int .i64 lev,.int .i64 most] w fun e w'=>e=.returned (.tuple #[.agg #[.bool false,.slice none 0 0,.int .i64 0],.iface t1 v1])/\Below w.heap.size w w':=by
 obtain⟨ao,co,rfl,mo⟩:=ho.ex;obtain⟨ae,ce,rfl,me⟩:=he.ex;obtain⟨hm1,hm2⟩:=hmo;have q1:decide (lev < 1)=false:=by simp;omega
 have q2:decide (lev > 3)=false:=by simp;omega
 have q2':decide (3 < lev)=false:=by simp;omega
 have q3:decide ((most:Int) < 1)=false:=by simp;omega
 have q4:decide ((most:Int) > 65536)=false:=by simp;omega
 have q4':decide (65536 < (most:Int))=false:=by simp;omega
 have b0:Below w.heap.size w ((w.alloc (.cells #[.slice ao os.length co,.slice ae es.length ce] 25)).alloc (.cells #[.bool false,.slice none 0 0,.int .i64 0] 71)):=((Below.refl _ w).alloc (Nat.le_refl _) _).alloc (by simp) _;have r8:=qy (w.alloc (.cells #[.slice ao os.length co,.slice ae es.length ce] 25)) (.cells #[.bool false,.slice none 0 0,.int .i64 0] 71);simp only[World.size_alloc] at r8;have BC:=qh (qgq (lev:=lev) ((ho.below b0).more b0.size) ((he.below b0).more b0.size) (hTb.below b0) hA (by have:=b0.size;omega) (qx b0 hg hc));have B0:=qh b0;have R8:=qh r8;clear ho he hTb b0 r8 hc;go_enter Tryz.func58,Tryz.ntmps58;go_wp2_with fail;generalize (w.alloc (.cells #[.slice ao os.length co,.slice ae es.length ce] 25)).alloc (.cells #[.bool false,.slice none 0 0,.int .i64 0] 71)=W at *;refine BC.o.mono ?_;rintro e W1 ⟨rfl,b1⟩;have R1:=qp R8.o b1 (qd R8.o);have B1:=qh (B0.o.trans (b1.mono B0.o.size));have y:=qa R1;have y0:=y 0;have y1:=y 1;have y2:=y 2;simp at y0 y1 y2;have yf:=fun j=>qB R1 j;have yl:=qd R1;have rT:=qq (qq (qq R1 0 (.bool false)) 1 (.slice none 0 0)) 2 (.int .i64 0);have cc:=qa rT;have cc0:=cc 0;have cc1:=cc 1;have cc2:=cc 2;simp at cc0 cc1 cc2;clear y cc rT R1 BC b1;go_wp2_with fail;refine bodyPost_ret (v:=.tuple #[.agg #[.bool false,.slice none 0 0,.int .i64 0],.iface t1 v1]) (by simp[results,Tryz.results58,go_sem,cc0,cc1,cc2]) rfl ⟨rfl,?_⟩;exact((B1.o.setCell (p:=⟨w.heap.size+1,0,none⟩) (Nat.le_succ _) _).setCell (p:=⟨w.heap.size+1,1,none⟩) (Nat.le_succ _) _).setCell (p:=⟨w.heap.size+1,2,none⟩) (Nat.le_succ _) _
theorem MX (most:Nat) (hmo:1<=most/\most<=65536) (hl:lev=1\/lev=2\/lev=3) (ho:Sl w w.heap.size 2 ov os.length (os.flatMap Ob.cells)) (he:Sl w w.heap.size 8 vv es.length (es.flatMap Ev.cells)) (hTb:UB w ov vv A) (hA:12 < A.length) (hg:0 < w.heap.size) (hc:w.cell? ⟨0,0,none⟩=some (.iface t1 v1)):
  Calls Tryz.prog 22 #[.agg #[ov,vv],.int .i64 lev,.int .i64 most] w fun e w'=>e=.returned (.tuple #[.agg #[.bool false,.slice none 0 0,.int .i64 0],.iface t1 v1])/\Below w.heap.size w w':=by
 obtain⟨ao,co,rfl,mo⟩:=ho.ex;obtain⟨ae,ce,rfl,me⟩:=he.ex;have b0:Below w.heap.size w ((w.alloc (.cells #[.slice ao os.length co,.slice ae es.length ce] 25)).alloc (.cells #[.bool false,.slice none 0 0,.int .i64 0] 71)):=((Below.refl _ w).alloc (Nat.le_refl _) _).alloc (by simp) _;have r8:=qy (w.alloc (.cells #[.slice ao os.length co,.slice ae es.length ce] 25)) (.cells #[.bool false,.slice none 0 0,.int .i64 0] 71);simp only[World.size_alloc] at r8;have SC:=qh (qfr (lev:=lev) most hmo hl ((ho.below b0).more b0.size) ((he.below b0).more b0.size) (hTb.below b0) hA (by have:=b0.size;omega) (qx b0 hg hc));have B0:=qh b0;have R8:=qh r8;clear ho he hTb b0 r8 hc hl;go_enter Tryz.func22,Tryz.ntmps22;go_wp2_with fail;generalize (w.alloc (.cells #[.slice ao os.length co,.slice ae es.length ce] 25)).alloc (.cells #[.bool false,.slice none 0 0,.int .i64 0] 71)=W at *;refine SC.o.mono ?_;rintro e W1 ⟨rfl,b1⟩;have R1:=qp R8.o b1 (qd R8.o);have B1:=qh (B0.o.trans (b1.mono B0.o.size));have y:=qa R1;have y0:=y 0;have y1:=y 1;have y2:=y 2;simp at y0 y1 y2;have yf:=fun j=>qB R1 j;have yl:=qd R1;have rT:=qq (qq (qq R1 0 (.bool false)) 1 (.slice none 0 0)) 2 (.int .i64 0);have cc:=qa rT;have cc0:=cc 0;have cc1:=cc 1;have cc2:=cc 2;simp at cc0 cc1 cc2;clear y cc rT R1 SC b1;go_wp2_with fail;refine bodyPost_ret (v:=.tuple #[.agg #[.bool false,.slice none 0 0,.int .i64 0],.iface t1 v1]) (by simp[results,Tryz.results22,go_sem,cc0,cc1,cc2]) rfl ⟨rfl,?_⟩;exact((B1.o.setCell (p:=⟨w.heap.size+1,0,none⟩) (Nat.le_succ _) _).setCell (p:=⟨w.heap.size+1,1,none⟩) (Nat.le_succ _) _).setCell (p:=⟨w.heap.size+1,2,none⟩) (Nat.le_succ _) _
end
end
section
attribute [local irreducible] xE
def SC (x:Int):List Value:=[.int .i64 1,.int .i64 x,.slice none 0 0,.slice none 0 0]
theorem YU (x:Int):(SC x).length=4:=rfl
abbrev Um (x:Int):Value:=.agg #[.int .i64 1,.int .i64 x,.slice none 0 0,.slice none 0 0]
theorem YK:(Tryz.prog.info? 119).map (fun i=>(i.zero,i.size,i.bytes))=some (some (.agg #[.int .i64 0,.int .i64 0,.slice none 0 0,.slice none 0 0]),4,64):=by kernel_rfl
theorem VK (x:Int):∀u ∈ SC x,u.oneCell'=true:=by intro u hu;simp[SC] at hu;rcases hu with rfl|rfl|rfl <;> rfl
abbrev js:=qj SC 119 4
abbrev SlS (w:World) (B:Nat) (v:Value) (σ:List Int):Prop:=Sl w B 4 v σ.length (σ.flatMap SC)
abbrev NP (v:Value):Value:=.agg #[v]
theorem qj.objT {α:Type} {f:α->List Value} {e:TypeId} {sz:Nat} {w:World} {B g n c:Nat} {l:List α} (h:qj f e sz w B (.slice (some ⟨g,0,none⟩) n c) l):∃cs,w.heap[g]?=some (.cells cs e (0,0)):=by
 obtain⟨-,h2⟩:=h;rcases h2 with⟨h2,-⟩|⟨g',cap,cur,hv,-,hh,-⟩
 ·cases h2
 ·simp only[Value.slice.injEq,Option.some.injEq,Addr.mk.injEq,and_true] at hv
  obtain⟨rfl,-,-⟩:=hv;exact⟨cur,hh⟩
theorem Vl:∀(l:List Int) (k:Nat) (x:Int),k < l.length->(((((l.flatMap SC).set (k*4) (.int .i64 1)).set (k*4+1) (.int .i64 x)).set (k*4+2) (.slice none 0 0)).set (k*4+3) (.slice none 0 0))=(l.set k x).flatMap SC
 |[],k,x,h=>by simp at h
 |y::l,0,x,h=>by simp[SC]
 |y::l,k+1,x,h=>by
  have ih:=Vl l k x (by simpa using h);rw[show (k+1)*4=k*4+1+1+1+1 by omega];simp only[SC,List.flatMap_cons,List.cons_append,List.nil_append,List.set_cons_succ,List.cons.injEq,true_and];exact ih
theorem qbF {w:World} {B g n c:Nat} {l:List Int} (h:js w B (.slice (some ⟨g,0,none⟩) n c) l) {k:Nat} (hk:k < l.length) (x:Int):
  js ((((w.setCell ⟨g,k*4,none⟩ (.int .i64 1)).setCell ⟨g,k*4+1,none⟩ (.int .i64 x)).setCell ⟨g,k*4+2,none⟩ (.slice none 0 0)).setCell ⟨g,k*4+3,none⟩ (.slice none 0 0)) B (.slice (some ⟨g,0,none⟩) n c) (l.set k x):=by
 have hn:=qj.len h;subst hn;have:=yC (yC (yC (yC h (k*4) (.int .i64 1)) (k*4+1) (.int .i64 x)) (k*4+2) (.slice none 0 0)) (k*4+3) (.slice none 0 0);rw[Vl l k x hk] at this;unfold js qj;rw[List.length_set];exact this
def qdp (σ:List Int):Prop:=∀x ∈ σ,-1000000000<=x/\x<=1000000000
theorem qcd (v:Value) (σ:List Int) (w:World) (h:SlS w w.heap.size v σ) (hl:σ.length<=1000):
  Calls Tryz.prog 83 #[.agg #[v]] w fun e w'=>∃v',e=.returned v'/\js w' w.heap.size v' σ/\Below w.heap.size w w':=by
 obtain⟨a,c,rfl,hm⟩:=h.ex;have b0:Below w.heap.size w (w.alloc (.cells #[.slice a σ.length c] 55)):=(Below.refl _ w).alloc (Nat.le_refl _) _;have r0:=qy w (.cells #[.slice a σ.length c] 55);have h1:=h.below b0;have hz0:w.heap.size < (w.alloc (.cells #[.slice a σ.length c] 55)).heap.size:=by simp
 go_enter Tryz.func83,Tryz.ntmps83;go_wp2;generalize w.alloc (.cells #[.slice a σ.length c] 55)=W at *;have y0:=qa r0 0;simp at y0;have H:=qh h1;have B0:=qh b0;clear h h1 b0 r0;refine qI (W.heap.size) [0,1,0,3,0,1,2,0] (.fin [0,1,2,4,5,3,6,7]) (by kernel_rfl) ?_;simp only[xi,qP,qA,sD,sE,sF,sG]
 repeat first|(refine qz fun K hK=>?_;go_simp;refine hK _ _ ?_;clear hK K)|(apply qC;(intro w2 hw2;have hk1:=hw2.cell;have hk3:=hw2.1;clear hw2;go_simp;with_reducible rfl);simp only[Act.put,sA,sB,sC])
 refine qG (fun K hK=>?_);refine jN (f:=SC) (e:=119) (sz:=4) (B:=W.heap.size) _ _ _ rfl _ 64 Tryz.underlying53 YK rfl rfl (by first|omega|(simp <;> omega)) (by first|omega|(simp <;> omega)) (by first|omega|(simp <;> omega)) ?_;intro w1 o1 b1 z1;refine hK _ _ (RN.KeepsN.of_below b1) ?_;have b1:Below W.heap.size W w1:=(Below.refl _ W).drew.trans b1;have z1:W.heap.size+1<=w1.heap.size:=z1;clear hK K;refine qM (fun K hK=>?_);refine jH _ _ _ rfl _ 64 Tryz.underlying53 YK rfl o1 σ rfl (H.o.below (b1.mono (Nat.le_of_lt hz0))) (by first|omega|(simp <;> omega)) rfl rfl YU VK (by first|omega|(simp <;> omega)) (by first|omega|(simp <;> omega)) ?_;intro v' w2 o2 g2;refine hK _ _ ?_;clear hK K;have b2:=b1.trans (g2.below b1.size fun k h=>(o1.lt k h).1);have O2:=qh ((show js w2 W.heap.size v' σ from o2).base (Nat.le_of_lt hz0));have B2:=qh (B0.o.trans (b2.mono (Nat.le_of_lt hz0)));clear o1 b1 g2 o2 b2
 repeat first|(refine qz fun K hK=>?_;go_simp;refine hK _ _ ?_;clear hK K)|refine qu ?_
 go_wp2;go_ret;exact⟨v',rfl,O2.o,B2.o⟩
theorem l_Of (v:Value) (σ:List Int) (w:World) (h:SlS w w.heap.size v σ) (hl:σ.length<=1000):
  Calls Tryz.prog 92 #[v] w fun e w'=>∃v',e=.returned (.agg #[v'])/\js w' w.heap.size v' σ/\Below w.heap.size w w':=by
 obtain⟨a,c,rfl,hm⟩:=h.ex;have b0:Below w.heap.size w (w.alloc (.cells #[.slice none 0 0] 55)):=(Below.refl _ w).alloc (Nat.le_refl _) _;have r0:=qy w (.cells #[.slice none 0 0] 55);have h1:=h.below b0;have hz0:w.heap.size < (w.alloc (.cells #[.slice none 0 0] 55)).heap.size:=by simp
 go_enter Tryz.func92,Tryz.ntmps92;go_wp2_with (at_make;refine vx (f:=SC) (e:=119) (sz:=4) (B:=w.heap.size+1) rfl _ _ _ rfl _ 64 Tryz.underlying53 YK rfl rfl (by first|omega|(simp <;> omega)) (by first|omega|(simp <;> omega)) (by first|omega|(simp <;> omega)) ?_;refine qK.halt ?_)
 refine qK.go ?_;generalize w.alloc (.cells #[.slice none 0 0] 55)=W at *;intro w1 o1 b1 z1;have r1:=qp r0 b1 (by omega);have src:=h1.below (b1.mono (by omega));have hzW:w.heap.size+1<=W.heap.size:=by omega
 go_wp2_with (at_builtin;refine xU rfl _ _ _ rfl _ 64 Tryz.underlying53 YK rfl o1 σ rfl src (by first|omega|(simp <;> omega)) rfl rfl YU VK (by first|omega|(simp <;> omega)) (by first|omega|(simp <;> omega)) ?_;refine qK.halt ?_)
 refine qK.go ?_;intro v' w2 o2 g2;have b2:=b1.trans (g2.below (by omega) fun k h=>(o1.lt k h).1);have r2:=qp r0 b2 (by omega);have o2:js w2 (w.heap.size+1) v' σ:=o2;obtain⟨a',c',rfl,-⟩:=(qj.sl o2).ex;have y0:=qa r2 0;simp at y0;have yf:=qB r2 0;have l2:=qd r2;have o3:=qj.set (j:=0) (u:=.slice a' σ.length c') o2 (show w.heap.size < w.heap.size+1 by omega);have r3:=qq r2 0 (.slice a' σ.length c');have b3:Below w.heap.size w (w2.setCell ⟨w.heap.size,0,none⟩ (.slice a' σ.length c')):=(b0.trans (b2.mono (by omega))).setCell (p:=⟨w.heap.size,0,none⟩) (Nat.le_refl _) _;have R3:=qh r3;clear r0 r1 r2 r3 o1 o2 b1 b2 g2 h h1 src z1;go_wp2;have c0:=qa R3.o 0;simp at c0;refine bodyPost_ret (v:=.agg #[.slice a' σ.length c']) (by simp[results,Tryz.results92,go_sem,c0]) rfl ?_;exact⟨_,rfl,o3.base (by omega),b3⟩
theorem l_At (v:Value) (σ:List Int) (i:Nat) (x:Int) (w:World) (h:SlS w w.heap.size v σ) (hx:σ[i]?=some x):
  Calls Tryz.prog 87 #[.agg #[v],.int .i64 i] w fun e w'=>e=.returned (.tuple #[Um x,.bool true])/\Below w.heap.size w w':=by
 obtain⟨a,c,rfl,hm⟩:=h.ex;have hil:=(List.getElem?_eq_some_iff.1 hx).1;obtain⟨b,off,y,rfl,hb,hy,hc⟩:=h.atF YU rfl hil;rw[hx] at hy;obtain rfl:=Option.some.inj hy;have c0:=hc 0 (by decide);have c1:=hc 1 (by decide);have c2:=hc 2 (by decide);have c3:=hc 3 (by decide);simp[SC] at c0 c1 c2 c3;have q1:decide ((i:Int) < 0)=false:=by simp
 have q2:decide ((σ.length:Int)<=(i:Int))=false:=by simp;omega
 clear hc h hx hy;go_enter Tryz.func87,Tryz.ntmps87;go_wp2;refine bodyPost_ret (v:=.tuple #[Um x,.bool true]) (by simp[results,Tryz.results87,go_sem]) rfl ?_;exact⟨rfl,((Below.refl _ w).alloc (Nat.le_refl _) _).alloc (by simp) _⟩
theorem qfN (v:Value) (σ:List Int) (i:Nat) (x:Int) (w:World) (h:SlS w w.heap.size v σ) (hl:σ.length<=1000) (hi:i < σ.length):
  Calls Tryz.prog 57 #[.agg #[v],.int .i64 i,Um x] w fun e w'=>∃v',e=.returned (.agg #[v'])/\js w' w.heap.size v' (σ.set i x)/\Below w.heap.size w w':=by
 obtain⟨a,c,rfl,hm⟩:=h.ex;have q1:decide ((i:Int) < 0)=false:=by simp
 have q2:decide ((σ.length:Int)<=(i:Int))=false:=by simp;omega
 have b0:Below w.heap.size w (((w.alloc (.cells #[.slice a σ.length c] 55)).alloc (.cells #[.int .i64 1,.int .i64 x,.slice none 0 0,.slice none 0 0] 119)).alloc (.cells #[.slice none 0 0] 55)):=(((Below.refl _ w).alloc (Nat.le_refl _) _).alloc (by simp) _).alloc (by simp;omega) _;go_enter Tryz.func57,Tryz.ntmps57;go_wp2_with fail;have r0:=qy ((w.alloc (.cells #[.slice a σ.length c] 55)).alloc (.cells #[.int .i64 1,.int .i64 x,.slice none 0 0,.slice none 0 0] 119)) (.cells #[.slice none 0 0] 55);have r1:=qD (o:=.cells #[.slice none 0 0] 55) (qy (w.alloc (.cells #[.slice a σ.length c] 55)) (.cells #[.int .i64 1,.int .i64 x,.slice none 0 0,.slice none 0 0] 119));simp only[World.size_alloc] at r0 r1;have hz:(((w.alloc (.cells #[.slice a σ.length c] 55)).alloc (.cells #[.int .i64 1,.int .i64 x,.slice none 0 0,.slice none 0 0] 119)).alloc (.cells #[.slice none 0 0] 55)).heap.size=w.heap.size+3:=by simp
 generalize ((w.alloc (.cells #[.slice a σ.length c] 55)).alloc (.cells #[.int .i64 1,.int .i64 x,.slice none 0 0,.slice none 0 0] 119)).alloc (.cells #[.slice none 0 0] 55)=W at *;refine(l_Of _ σ W ((h.below b0).more b0.size) hl).mono ?_;rintro e W1 ⟨v',rfl,o1,b1⟩;obtain⟨g,cap,hv,hg,hgl⟩:=(qj.form o1).resolve_left (fun h=>by rw[h.2] at hi;simp at hi);subst hv;have r0:=qp r0 b1 (by omega);have r1:=qp r1 b1 (by omega);have y:=qa r1;have y0:=y 0;have y1:=y 1;have y2:=y 2;have y3:=y 3;simp at y0 y1 y2 y3;have yr:=qa r0 0;simp at yr;have yf:=qB r0 0;have l0:=qd r0;have l1:=qd r1;have hzz:W.heap.size<=W1.heap.size:=b1.size;obtain⟨cs,hgc⟩:=qj.objT o1;have gf:∀j,W1.frozen? ⟨g,j,none⟩=false:=fun j=>qB hgc j;obtain⟨bq,oq,z,hq,-,-,hz4⟩:=(qj.sl o1).atF YU rfl hi;simp only[Option.some.injEq,Addr.mk.injEq,and_true] at hq;obtain⟨rfl,rfl⟩:=hq;have g0:=hz4 0 (by decide);have g1:=hz4 1 (by decide);have g2:=hz4 2 (by decide);have g3:=hz4 3 (by decide);simp[SC] at g0 g1 g2 g3;have gl:=qd hgc;clear hgc hz4;have oF:=qj.set (j:=0) (u:=.slice (some ⟨g,0,none⟩) σ.length cap) (qbF o1 hi x) (show w.heap.size+2 < W.heap.size by omega);have bF:=((((b1.setCell (p:=⟨g,i*4,none⟩) hg (.int .i64 1)).setCell (p:=⟨g,i*4+1,none⟩) hg (.int .i64 x)).setCell (p:=⟨g,i*4+2,none⟩) hg (.slice none 0 0)).setCell (p:=⟨g,i*4+3,none⟩) hg (.slice none 0 0))
 have rF:=qq (qJ (j:=i*4+3) (v:=.slice none 0 0) (qJ (j:=i*4+2) (v:=.slice none 0 0) (qJ (j:=i*4+1) (v:=.int .i64 x) (qJ (j:=i*4) (v:=.int .i64 1) r0 (show g≠w.heap.size+2 by omega)) (show g≠w.heap.size+2 by omega)) (show g≠w.heap.size+2 by omega)) (show g≠w.heap.size+2 by omega)) 0 (.slice (some ⟨g,0,none⟩) σ.length cap);have BF:=qh ((b0.trans (bF.mono (by omega))).setCell (p:=⟨w.heap.size+2,0,none⟩) (show w.heap.size<=w.heap.size+2 by omega) (.slice (some ⟨g,0,none⟩) σ.length cap));have OF:=qh oF;have RF:=qh rF;clear y r0 r1 b0 b1 h o1 oF bF rF;go_wp2_with fail;have c0:=qa (qD (o:=.cells #[.slice (some ⟨g,0,none⟩) σ.length cap] 55) RF.o) 0;simp at c0;refine bodyPost_ret (v:=.agg #[.slice (some ⟨g,0,none⟩) σ.length cap]) (by simp[results,Tryz.results57,go_sem,c0]) rfl ?_;exact⟨_,rfl,by have:=(qj.alloc OF.o (.cells #[.slice (some ⟨g,0,none⟩) σ.length cap] 55)).base (show w.heap.size<=W.heap.size by omega);simpa using this,BF.o.alloc BF.o.size _⟩
end
