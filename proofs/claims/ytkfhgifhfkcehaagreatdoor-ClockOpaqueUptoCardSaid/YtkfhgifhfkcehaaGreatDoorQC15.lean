/- Parts of the proof; the first: The store of registers: what it answers, how it is made. Conditions: those of each theorem, as typed. -/
import Derived.Test.YtkfhgifhfkcehaaGreatDoorQC14
import Derived.Test.YtkfhgifhfkcehaaGreatDoorQC12
import Derived.DeepKeys4
import Derived.Test.YtkfhgifhfkcehaaGreatDoorQC13
import Derived.Lib.ItoaNum
import Derived.Lib.Join
import Derived.Test.YtkfhgifhfkcehaaGreatDoorChecked
set_option linter.unusedVariables false
set_option linter.unusedSimpArgs false
set_option linter.unusedSectionVars false
set_option maxRecDepth 100000
set_option maxHeartbeats 4000000
namespace Go.Proofs.YtkfhgifhfkcehaaGreatDoor
open Go.Lib Go.MapKept Go.Maps Go.RowKit
section
attribute [local irreducible] xL
theorem qq.ofRow {α:Type} {f:α->List Value} {e:TypeId} {sz B g n:Nat} {w:World} {l:List α} (h:w.heap[g]?=some (.cells (l.flatMap f).toArray e (0,0))) (hB:B<=g) (hn:l.length=n) (hl:(l.flatMap f).length=n*sz) (hm:n<=maxLen):qq f e sz w B (.slice (some ⟨g,0,none⟩) n n) l:=by
 subst hn;exact⟨hl,.inr ⟨g,_,_,rfl,hB,h,Nat.le_refl _,hm,by simpa using hl,show List.take (l.length*sz) (l.flatMap f)=l.flatMap f from List.take_of_length_le (Nat.le_of_eq hl)⟩⟩
theorem st_At (v:Value) (σ:List Int) (i:Nat) (x:Int) (w:World) (h:SlS w w.heap.size v σ) (hx:σ[i]?=some x):
  Calls Tryz.prog 45 #[stV v,.int .i64 i] w fun e w'=>e=.returned (.tuple #[scV x,.bool true])/\Below w.heap.size w w':=by
 obtain⟨a,c,rfl,hm⟩:=h.ex;have b0:Below w.heap.size w ((w.alloc (.cells #[.slice a σ.length c] 46)).alloc (.cells #[.int .i64 0,.int .i64 0,.slice none 0 0,.slice none 0 0] 99)):=((Below.refl _ w).alloc (Nat.le_refl _) _).alloc (by simp) _;have r1:=qy (w.alloc (.cells #[.slice a σ.length c] 46)) (.cells #[.int .i64 0,.int .i64 0,.slice none 0 0,.slice none 0 0] 99);have hz:((w.alloc (.cells #[.slice a σ.length c] 46)).alloc (.cells #[.int .i64 0,.int .i64 0,.slice none 0 0,.slice none 0 0] 99)).heap.size=w.heap.size+2:=by simp
 simp only[World.size_alloc] at r1;go_enter Tryz.func45,Tryz.ntmps45;go_wp2_with fail;generalize (w.alloc (.cells #[.slice a σ.length c] 46)).alloc (.cells #[.int .i64 0,.int .i64 0,.slice none 0 0,.slice none 0 0] 99)=W at *;refine(l_At _ σ i x W ((h.below b0).more b0.size) hx).mono ?_;rintro e W1 ⟨rfl,b1⟩;have r1:=qp r1 b1 (by omega);have z:=qg r1;have z0:=z 0;have z1:=z 1;have z2:=z 2;have z3:=z 3;simp at z0 z1 z2 z3;have zf:=fun j=>qx r1 j;have zl:=qh r1;have RZ:=qj r1;have BZ:=qj (b0.trans (b1.mono (by omega)));clear z r1 b1 b0 h;go_wp2_with fail;have hf:=qg (qB (qB (qB (qB RZ.o 0 (.int .i64 1)) 1 (.int .i64 x)) 2 (.slice none 0 0)) 3 (.slice none 0 0));have c0:=hf 0;have c1:=hf 1;have c2:=hf 2;have c3:=hf 3;simp at c0 c1 c2 c3;refine bodyPost_ret (v:=.tuple #[scV x,.bool true]) (by simp[results,Tryz.results45,go_sem,c0,c1,c2,c3]) rfl ⟨rfl,?_⟩;exact(((BZ.o.setCell (p:=⟨w.heap.size+1,0,none⟩) (Nat.le_succ _) _).setCell (p:=⟨w.heap.size+1,1,none⟩) (Nat.le_succ _) _).setCell (p:=⟨w.heap.size+1,2,none⟩) (Nat.le_succ _) _).setCell (p:=⟨w.heap.size+1,3,none⟩) (Nat.le_succ _) _
theorem st_Do (v:Value) (σ:List Int) (i:Nat) (x op val:Int) (w:World) (h:SlS w w.heap.size v σ) (hl:σ.length<=1000) (hx:σ[i]?=some x) (hop:op=1/\val=0\/op=2/\-1000000000<=val/\val<=1000000000):
  Calls Tryz.prog 18 #[stV v,.int .i64 i,.int .i64 op,.int .i64 0,.int .i64 val] w fun e w'=>∃v',e=.returned (.tuple #[stV v',.int .i64 (doR x op val).2.1,.int .i64 (doR x op val).2.2,.nilIface])/\OwnS w' w.heap.size v' (σ.set i (doR x op val).1)/\Below w.heap.size w w':=by
 obtain⟨a,c,rfl,hm⟩:=h.ex;have hDo:=fun X=>sp_Do x op val hop X;have hil:=(List.getElem?_eq_some_iff.1 hx).1;generalize doR x op val=D at *;obtain⟨D1,D2,D3⟩:=D;have b0:Below w.heap.size w ((w.alloc (.cells #[.slice a σ.length c] 46)).alloc (.cells #[.slice none 0 0] 46)):=((Below.refl _ w).alloc (Nat.le_refl _) _).alloc (by simp) _;have r0:=qF (o:=.cells #[.slice none 0 0] 46) (qy w (.cells #[.slice a σ.length c] 46));have r1:=qy (w.alloc (.cells #[.slice a σ.length c] 46)) (.cells #[.slice none 0 0] 46);have hz:((w.alloc (.cells #[.slice a σ.length c] 46)).alloc (.cells #[.slice none 0 0] 46)).heap.size=w.heap.size+2:=by simp
 simp only[World.size_alloc] at r1;go_enter Tryz.func18,Tryz.ntmps18;go_wp2_with fail;generalize (w.alloc (.cells #[.slice a σ.length c] 46)).alloc (.cells #[.slice none 0 0] 46)=W at *;refine(st_At _ σ i x W ((h.below b0).more b0.size) hx).mono ?_;rintro e W1 ⟨rfl,b1⟩;have hz1:=b1.size;have b1:Below W.heap.size W (W1.alloc (.cells #[.int .i64 1,.int .i64 x,.slice none 0 0,.slice none 0 0] 99)):=b1.alloc hz1 _;have R0:=qj r0;have R1:=qj r1;have B0:=qj b0;have B1:=qj b1;clear r0 r1 b0 b1;go_wp2_with fail;refine(hDo _).mono ?_;rintro e W2 ⟨rfl,b2⟩;have b2:Below W.heap.size W W2:=B1.o.trans (b2.mono (B1.o.size));have hz2:=b2.size;have y0:=qg (qp R0.o b2 (by omega)) 0;simp at y0;have b3:Below W.heap.size W (W2.alloc (.cells #[.int .i64 1,.int .i64 D1,.slice none 0 0,.slice none 0 0] 99)):=b2.alloc hz2 _;have yl:w.heap.size < W2.heap.size:=by omega
 have B3:=qj b3;clear b2 b3;go_wp2_with fail;refine(l_With _ σ i D1 _ (((h.below B0.o).more B0.o.size).below B3.o |>.more B3.o.size) hl hil).mono ?_;rintro e W3 ⟨v',rfl,o3,b3⟩;obtain⟨a',c',rfl,-⟩:=(qq.sl o3).ex;have b3:Below W.heap.size W W3:=B3.o.trans (b3.mono B3.o.size);have hz3:=b3.size;have r1:=qp R1.o b3 (by omega);have z0:=qg r1 0;simp at z0;have zf:=qx r1 0;have zl:=qh r1;have o4:=qq.set (j:=0) (u:=.slice a' σ.length c') (g:=w.heap.size+1) (qq.base o3 (show W.heap.size<=_ from B3.o.size)) (by omega);have R3:=qj (qB r1 0 (.slice a' σ.length c'));have B4:=qj ((B0.o.trans (b3.mono (by omega))).setCell (p:=⟨w.heap.size+1,0,none⟩) (show w.heap.size<=w.heap.size+1 by omega) (.slice a' σ.length c'));simp only[List.length_set] at o4 R3 B4;clear r1 o3 b3;go_wp2_with fail;have c0:=qg R3.o 0;simp at c0;refine bodyPost_ret (v:=.tuple #[stV (.slice a' σ.length c'),.int .i64 D2,.int .i64 D3,.nilIface]) (by simp[results,Tryz.results18,go_sem,c0]) rfl ?_;exact⟨_,rfl,qq.base o4 (by omega),B4.o⟩
end
section
attribute [local irreducible] xL
theorem l_And (v:Value) (σ:List Int) (x:Int) (w:World) (h:SlS w w.heap.size v σ) (hl:σ.length<=1000):
  Calls Tryz.prog 43 #[.agg #[v],scV x] w fun e w'=>∃v',e=.returned (.agg #[v'])/\OwnS w' w.heap.size v' (σ++[x])/\Below w.heap.size w w':=by
 obtain⟨a,c,rfl,hm⟩:=h.ex;have b0:Below w.heap.size w (((w.alloc (.cells #[.slice a σ.length c] 44)).alloc (.cells #[.int .i64 1,.int .i64 x,.slice none 0 0,.slice none 0 0] 99)).alloc (.cells #[.slice none 0 0] 44)):=(((Below.refl _ w).alloc (Nat.le_refl _) _).alloc (by simp) _).alloc (by simp;omega) _;go_enter Tryz.func43,Tryz.ntmps43;go_wp2_with fail;have r2:(((w.alloc (.cells #[.slice a σ.length c] 44)).alloc (.cells #[.int .i64 1,.int .i64 x,.slice none 0 0,.slice none 0 0] 99)).alloc (.cells #[.slice none 0 0] 44)).heap[w.heap.size]?=some (.cells #[.slice a σ.length c] 44 (0,0)):=qF (qF (qy w _));have r1:(((w.alloc (.cells #[.slice a σ.length c] 44)).alloc (.cells #[.int .i64 1,.int .i64 x,.slice none 0 0,.slice none 0 0] 99)).alloc (.cells #[.slice none 0 0] 44)).heap[w.heap.size+1]?=some (.cells #[.int .i64 1,.int .i64 x,.slice none 0 0,.slice none 0 0] 99 (0,0)):=qF (qL (by simp));have r0:(((w.alloc (.cells #[.slice a σ.length c] 44)).alloc (.cells #[.int .i64 1,.int .i64 x,.slice none 0 0,.slice none 0 0] 99)).alloc (.cells #[.slice none 0 0] 44)).heap[w.heap.size+1+1]?=some (.cells #[.slice none 0 0] 44 (0,0)):=qL (by simp);have hz:=qj (show(((w.alloc (.cells #[.slice a σ.length c] 44)).alloc (.cells #[.int .i64 1,.int .i64 x,.slice none 0 0,.slice none 0 0] 99)).alloc (.cells #[.slice none 0 0] 44)).heap.size=w.heap.size+3 by simp);generalize ((w.alloc (.cells #[.slice a σ.length c] 44)).alloc (.cells #[.int .i64 1,.int .i64 x,.slice none 0 0,.slice none 0 0] 99)).alloc (.cells #[.slice none 0 0] 44)=W at *;have hs:=(h.below b0).more b0.size;have AC:=qj (l_All _ σ W.drew hs hl);have HS:=qj hs;have B0:=qj b0;have R0:=qj r0;have u0:=qg r2 0;have y:=qg r1;have y0:=y 0;have y1:=y 1;have y2:=y 2;have y3:=y 3;simp at u0 y0 y1 y2 y3;have ul:=qh r2;have yl:=qh r1;clear y r0 r1 r2 b0 hs h;refine qT (W.heap.size) [1,3,1,3,2,0,2] (.frk [0,2] (.fin [1,3,4,5,6]) (.fin [3,1,4,5,6])) (by kernel_rfl) ?_;simp only[yp,qP,qD,sD,sE,sF,sG]
 repeat first|(apply qJ;(intro w2 hw2;have hk1:=hw2.cell;have hk3:=hw2.1;clear hw2;go_simp;with_reducible rfl);simp only[Act.put,sA,sB,sC])|refine qA ?_
 refine⟨?_,?_⟩
 ·refine qI (fun K hK=>?_)
  go_simp;refine AC.o.mono ?_;rintro e w1 ⟨v',rfl,o1,b1⟩;obtain⟨a1,c1,rfl,-⟩:=(qq.sl o1).ex;refine hK _ _ (RN.KeepsN.of_below b1) ?_;clear hK K;refine qI (fun K hK=>?_);go_simp;refine hK _ _ (RN.KeepsN.alloc w1 _ b1.size) ?_;clear hK K;have hz1:W.heap.size<=w1.heap.size:=b1.size;refine qN (fun K hK=>?_);refine wp_appF _ _ _ rfl _ 64 Tryz.underlying42 infoSC rfl o1 x hz1 (by rfl) (by rfl) (by first|rfl|simp) rfl (sc_one _) (by first|omega|(simp only[List.length_append,List.length_cons,List.length_nil,List.length_replicate];omega)) (by first|omega|(simp only[List.length_append,List.length_cons,List.length_nil,List.length_replicate];omega)) ?_;intro g1 c1 w2 o2 G2;refine hK _ _ ?_;clear hK K;have b2:Below W.heap.size W w2:=((Below.refl _ W).drew.trans b1).trans (G2.below hz1 fun j hj=>(qq.lt o1 j hj).1);have r2:=qp R0.o b2 (qh R0.o);have y:=qg r2 0;simp at y;have yf:=qx r2 0;have yl2:=qh r2;have hB2:=qj ((B0.o.trans (b2.mono B0.o.size)).setCell (p:=⟨w.heap.size+1+1,0,none⟩) (by show w.heap.size<=w.heap.size+1+1;omega) (.slice (some ⟨g1,0,none⟩) (σ.length+1) c1));have oF:=qj (qq.set (j:=0) (u:=.slice (some ⟨g1,0,none⟩) (σ.length+1) c1) o2 (show w.heap.size+1+1 < W.heap.size by have:=hz.o;omega));have rF:=qj (qB r2 0 (.slice (some ⟨g1,0,none⟩) (σ.length+1) c1));clear r2 b2 b1 o1 G2 o2 AC
  repeat (refine qC fun K hK=>?_;go_simp;refine hK _ _ ?_;clear hK K)
  refine qN (fun K hK=>?_);go_simp;refine hK _ _ ?_;clear hK K
  repeat refine qA ?_
  go_wp2_with fail;have c0:=qg rF.o 0;simp at c0;refine bodyPost_ret (v:=.agg #[.slice (some ⟨g1,0,none⟩) (σ.length+1) c1]) (by simp[results,Tryz.results43,go_sem,c0]) rfl ?_;refine⟨_,rfl,?_,hB2.o⟩;have:=qq.base oF.o (show w.heap.size<=W.heap.size from B0.o.size);simpa using this
 ·refine qI (fun K hK=>?_)
  go_simp;refine hK _ _ (RN.KeepsN.alloc W.drew _ (Nat.le_refl _)) ?_;clear hK K;have ba:Below W.heap.size W (W.drew.alloc (.cells #[.int .i64 1,.int .i64 x,.slice none 0 0,.slice none 0 0] 99)):=(Below.refl _ W).drew.alloc (Nat.le_refl _) _;have ra:=qy W.drew (.cells #[.int .i64 1,.int .i64 x,.slice none 0 0,.slice none 0 0] 99);have AC2:=qj (l_All _ σ (W.drew.alloc (.cells #[.int .i64 1,.int .i64 x,.slice none 0 0,.slice none 0 0] 99)) ((HS.o.below ba).more ba.size) hl);have hza:=ba.size;refine qI (fun K hK=>?_);go_simp;refine AC2.o.mono ?_;rintro e w1 ⟨v',rfl,o1,b1⟩;obtain⟨a1,c1,rfl,-⟩:=(qq.sl o1).ex;refine hK _ _ (RN.KeepsN.of_below (b1.mono hza)) ?_;clear hK K;have hz1:W.heap.size<=w1.heap.size:=Nat.le_trans hza b1.size;have src:SlS w1 w1.heap.size (.slice (some ⟨W.heap.size,0,none⟩) 1 1) [x]:=qq.sl (qq.ofRow (B:=0) (l:=[x]) (qp ra b1 (qh ra)) (Nat.zero_le _) rfl rfl (by decide));have o1':=qq.base o1 hza;refine qN (fun K hK=>?_);refine yD _ _ _ rfl _ 64 Tryz.underlying42 infoSC rfl o1' [x] rfl src (by first|omega|(simp <;> omega)) rfl rfl SC_len sc_one (by first|omega|(simp <;> omega)) (by first|omega|(simp <;> omega)) ?_;intro v2 w2 o2 G2;refine hK _ _ ?_;clear hK K;obtain⟨a2,c2,hv2,-⟩:=(qq.sl o2).ex;rw[show (σ++[x]).length=σ.length+1 by simp] at hv2;subst hv2;have b2:Below W.heap.size W w2:=(ba.trans (b1.mono hza)).trans (G2.below hz1 fun j hj=>(qq.lt o1' j hj).1);have r2:=qp R0.o b2 (qh R0.o);have y:=qg r2 0;simp at y;have yf:=qx r2 0;have yl2:=qh r2;have hB2:=qj ((B0.o.trans (b2.mono B0.o.size)).setCell (p:=⟨w.heap.size+1+1,0,none⟩) (by show w.heap.size<=w.heap.size+1+1;omega) (.slice a2 (σ.length+1) c2));have oF:=qj (qq.set (j:=0) (u:=.slice a2 (σ.length+1) c2) o2 (show w.heap.size+1+1 < W.heap.size by have:=hz.o;omega));have rF:=qj (qB r2 0 (.slice a2 (σ.length+1) c2));clear r2 b2 b1 o1 o1' G2 o2 AC AC2 ra src
  repeat (refine qC fun K hK=>?_;go_simp;refine hK _ _ ?_;clear hK K)
  refine qN (fun K hK=>?_);go_simp;refine hK _ _ ?_;clear hK K
  repeat refine qA ?_
  go_wp2_with fail;have c0:=qg rF.o 0;simp at c0;refine bodyPost_ret (v:=.agg #[.slice a2 (σ.length+1) c2]) (by simp[results,Tryz.results43,go_sem,c0]) rfl ?_;refine⟨_,rfl,?_,hB2.o⟩;have:=qq.base oF.o (show w.heap.size<=W.heap.size from B0.o.size);simpa using this
theorem sp_New (x:Int) (h1:-1000000000<=x) (h2:x<=1000000000) (w:World) (hW:xa w):
  Calls Tryz.prog 42 #[.agg #[.int .i64 1,.int .i64 x]] w fun e w'=>e=.returned (.tuple #[scV x,.nilIface])/\Below w.heap.size w w':=by
 have b0:Below w.heap.size w ((w.alloc (.cells #[.int .i64 1,.int .i64 x] 96)).alloc (.cells #[.int .i64 0,.int .i64 0,.slice none 0 0,.slice none 0 0] 99)):=((Below.refl _ w).alloc (Nat.le_refl _) _).alloc (by simp) _;have r0:((w.alloc (.cells #[.int .i64 1,.int .i64 x] 96)).alloc (.cells #[.int .i64 0,.int .i64 0,.slice none 0 0,.slice none 0 0] 99)).heap[w.heap.size]?=some (.cells #[.int .i64 1,.int .i64 x] 96 (0,0)):=qF (qy w _);have r1:((w.alloc (.cells #[.int .i64 1,.int .i64 x] 96)).alloc (.cells #[.int .i64 0,.int .i64 0,.slice none 0 0,.slice none 0 0] 99)).heap[w.heap.size+1]?=some (.cells #[.int .i64 0,.int .i64 0,.slice none 0 0,.slice none 0 0] 99 (0,0)):=qL (by simp);have hz:=qj (show((w.alloc (.cells #[.int .i64 1,.int .i64 x] 96)).alloc (.cells #[.int .i64 0,.int .i64 0,.slice none 0 0,.slice none 0 0] 99)).heap.size=w.heap.size+2 by simp);go_enter Tryz.func42,Tryz.ntmps42;go_wp2_with fail;generalize (w.alloc (.cells #[.int .i64 1,.int .i64 x] 96)).alloc (.cells #[.int .i64 0,.int .i64 0,.slice none 0 0,.slice none 0 0] 99)=W at *;refine(e_ValidObject x h1 h2 W (hW.below b0)).mono ?_;rintro e W1 ⟨rfl,b1⟩;have r0:=qp r0 b1 (qh r0);have r1:=qp r1 b1 (qh r1);have B1:=qj (b0.trans (b1.mono b0.size));have y:=qg r0;have y0:=y 0;have y1:=y 1;have z:=qg r1;have z0:=z 0;have z1:=z 1;have z2:=z 2;have z3:=z 3;simp at y0 y1 z0 z1 z2 z3;have yl:=qh r0;have zl:=qh r1;have zf:=fun j=>qx r1 j;have R1:=qj r1;clear y z r0 r1 b0 b1;go_wp2_with fail;have rF:=qB (qB (qB (qB R1.o 0 (.int .i64 1)) 1 (.int .i64 x)) 2 (.slice none 0 0)) 3 (.slice none 0 0);have c:=qg rF;have c0:=c 0;have c1:=c 1;have c2:=c 2;have c3:=c 3;simp at c0 c1 c2 c3;refine bodyPost_ret (v:=.tuple #[scV x,.nilIface]) (by simp[results,Tryz.results42,go_sem,c0,c1,c2,c3,scV]) rfl ?_;exact⟨rfl,(((B1.o.setCell (p:=⟨w.heap.size+1,0,none⟩) (Nat.le_succ _) _).setCell (p:=⟨w.heap.size+1,1,none⟩) (Nat.le_succ _) _).setCell (p:=⟨w.heap.size+1,2,none⟩) (Nat.le_succ _) _).setCell (p:=⟨w.heap.size+1,3,none⟩) (Nat.le_succ _) _⟩
theorem s_New (v:Value) (os:List Ob) (w:World) (h:Sl w w.heap.size 2 v os.length (os.flatMap Ob.cells)) (hr:RegOk os) (hW:xa w):
  Calls Tryz.prog 14 #[v] w fun e w'=>∃v',e=.returned (.tuple #[.agg #[v'],.nilIface])/\OwnS w' w.heap.size v' (os.map (·.init))/\Below w.heap.size w w':=by
 obtain⟨a,c,rfl,hm⟩:=h.ex;obtain⟨hr8,hro⟩:=hr;have b0:Below w.heap.size w (w.alloc (.cells #[.slice none 0 0] 46)):=(Below.refl _ w).alloc (Nat.le_refl _) _;have r0:=qy w (.cells #[.slice none 0 0] 46);have hv:=qj (h_Valid (.slice a os.length c) (.slice none 0 0) os [] _ ((h.below b0).more b0.size) ⟨none,0,rfl,by simp,by simp,fun h=>by simp at h⟩ ⟨hr8,hro⟩ (by simp) (fun e he=>(nomatch he)) (hW.below b0));have hz0:(w.alloc (.cells #[.slice none 0 0] 46)).heap.size=w.heap.size+1:=by simp
 have H:=qj h;have HW:=qj hW;have HRO:=qj hro;clear h hW hro;go_enter Tryz.func14,Tryz.ntmps14;go_wp2_with fail;generalize w.alloc (.cells #[.slice none 0 0] 46)=W at *;refine(hv.o).mono ?_;rintro e W1 ⟨rfl,b1⟩;have B1:=qj (b0.trans (b1.mono b0.size));have R1:=qj (qp r0 b1 (qh r0));have hz1:w.heap.size+1<=W1.heap.size:=by have:=b1.size;omega
 clear r0 b0 b1 hz0 hv;go_wp2_with fail;have RL:=qj (qy W1 (.cells #[.slice none 0 0] 44));have R2:=qj (qF (o:=.cells #[.slice none 0 0] 44) R1.o);have B2:=qj (B1.o.alloc B1.o.size (.cells #[.slice none 0 0] 44));have hz2:=qj (show(W1.alloc (.cells #[.slice none 0 0] 44)).heap.size=W1.heap.size+1 by simp);generalize W1.alloc (.cells #[.slice none 0 0] 44)=W2 at *;generalize W1.heap.size=bl at *
 go_loopw [19] (fun p wr=>∃(k:Nat) (u:Value),k<=os.length/\p=.int .i64 k/\wr.heap[w.heap.size]?=some (.cells #[.slice none 0 0] 46 (0,0))/\wr.heap[bl]?=some (.cells #[u] 44 (0,0))/\OwnS wr w.heap.size u ((os.take k).map (·.init))/\Below w.heap.size w wr) (fun p _=>os.length - (intOf p).toNat)
 case atStart=>exact⟨0,_,by omega,by go_num,R2.o,RL.o,qq.nil _ _,B2.o⟩
 case round=>
  obtain⟨k,u,hk,rfl,q0,ql,qo,qb⟩:=hrel;clear R2 RL B2 R1 B1 hz2 W1 W2;have hsz:=qb.size;obtain⟨L,hL⟩:∃L,(os.take k).map (·.init)=L:=⟨_,rfl⟩
  rw[hL] at qo;have hLk:=qj (show L.length=k by rw[←hL];simp;omega);have hLm:L.length<=8:=by have:=hLk.o;omega
  have HL:=qj hL;clear hL;obtain⟨au,cu,rfl,-⟩:=(qq.sl qo).ex;have y0:=qg ql 0;simp at y0;have yl:=qh ql;have Q0:=qj q0;have QL:=qj ql;have QO:=qj qo;have QB:=qj qb;clear q0 ql qo qb;by_cases hlt:k < os.length
  ·have src:=(H.o.below QB.o).more hsz
   obtain⟨b,off,o,rfl,hb,hox,hc⟩:=src.atF Ob.len rfl hlt;obtain⟨ok,o1,o2⟩:=HRO.o o (List.mem_of_getElem? hox);obtain⟨okd,x⟩:=o;simp only at ok o1 o2;subst ok;have c0:wr.cell? ⟨b,off+k*2,none⟩=some (.int .i64 1):=hc 0 (by decide);have c1:wr.cell? ⟨b,off+k*2+1,none⟩=some (.int .i64 x):=hc 1 (by decide);have HX:=qj (show(os.take (k+1)).map (·.init)=L++[x] by rw[List.take_add_one,List.map_append,hox,HL.o];rfl);clear hc src hox;have b3:Below wr.heap.size wr (wr.alloc (.cells #[.int .i64 1,.int .i64 x] 96)):=(Below.refl _ wr).alloc (Nat.le_refl _) _;have r3:=qy wr (.cells #[.int .i64 1,.int .i64 x] 96);go_wp2_with fail;generalize wr.alloc (.cells #[.int .i64 1,.int .i64 x] 96)=W3 at *;refine(sp_New x o1 o2 W3 (HW.o.below (QB.o.trans (b3.mono hsz)))).mono ?_;rintro e W4 ⟨rfl,b4⟩;have b34:=b3.trans (b4.mono b3.size);have b5:Below wr.heap.size wr (W4.alloc (.cells #[.int .i64 1,.int .i64 x,.slice none 0 0,.slice none 0 0] 99)):=b34.alloc b34.size _;have r5:=qy W4 (.cells #[.int .i64 1,.int .i64 x,.slice none 0 0,.slice none 0 0] 99);have hz4:=b34.size;have rb:=qp QL.o b5 yl;have d0:=qg rb 0;have e:=qg r5;have e0:=e 0;have e1:=e 1;have e2:=e 2;have e3:=e 3;have QO5:=qq.below QO.o b5;have zl5:=qh r5;have zb5:=qh rb;clear e r3 b3 b4 b34 r5 rb c0 c1 y0;go_wp2_with fail;generalize W4.alloc (.cells #[.int .i64 1,.int .i64 x,.slice none 0 0,.slice none 0 0] 99)=W5 at *;have hz5:=b5.size;refine(l_And _ _ x W5 (qq.sl QO5) (by omega)).mono ?_;rintro e W6 ⟨v',rfl,o6,b6⟩;obtain⟨a6,c6,hv6,-⟩:=(qq.sl o6).ex;rw[show (L++[x]).length=L.length+1 by simp] at hv6;subst hv6;have b56:=b5.trans (b6.mono hz5);have rl6:=qp QL.o b56 yl;have r06:=qp Q0.o b56 (qh Q0.o);have B6:=qj (QB.o.trans (b56.mono hsz));have yl6:=qh rl6;have d6:=qg rl6 0;simp at d6;have f6:=qx rl6 0;have oF:=qj (qq.set (j:=0) (g:=bl) (u:=.slice a6 (L.length+1) c6) o6 (show bl < W5.heap.size by omega));have rlF:=qj (qB rl6 0 (.slice a6 (L.length+1) c6));have r0F:=qj (qK (j:=0) (v:=.slice a6 (L.length+1) c6) r06 (show bl≠w.heap.size by omega));have bF:=qj (B6.o.setCell (p:=⟨bl,0,none⟩) (by show w.heap.size<=bl;omega) (.slice a6 (L.length+1) c6));have oF:=qj (qq.base oF.o (show w.heap.size<=W5.heap.size by omega));clear QO5 b5 b6 b56 rl6 r06;go_wp2_with fail;refine⟨⟨k+1,_,by omega,by go_num,r0F.o,by simpa using rlF.o,?_,bF.o⟩,by simp[intOf];omega⟩;rw[HX.o];exact oF.o
  ·obtain rfl:k=os.length:=by omega
   have hq:decide ((os.length:Int) < (os.length:Int))=false:=by simp
   have x0:=qg Q0.o 0;simp at x0;have xl:=qh Q0.o;have xf:=qx Q0.o 0;have rF:=qB Q0.o 0 (.slice au L.length cu);have hne:bl≠w.heap.size:=fun e=>by have:=Q0.o;rw[←e,QL.o] at this;simp at this
   have oo:=QO.o;have hLe:=qj (show L=os.map (·.init) by rw[←HL.o,List.take_length]);have oF:=qq.other (j:=0) oo (qq.neT oo Q0.o (by decide)) (.slice au L.length cu);have bF:=qj (QB.o.setCell (p:=⟨w.heap.size,0,none⟩) (Nat.le_refl _) (.slice au L.length cu));have oF:=qj oF;have c0:=qg rF 0;simp at c0;clear oo rF;go_wp2_with fail;refine bodyPost_ret (v:=.tuple #[.agg #[.slice au L.length cu],.nilIface]) (by simp[results,Tryz.results14,go_sem,c0]) rfl ?_;exact⟨_,rfl,hLe.o▸oF.o,bF.o⟩
end
structure KeyV {β:Type} (P:Program) (K:TypeId) (κ:β->Value):Prop where
 inj:∀{x y:β},κ x=κ y->x=y
 keyed:Keyed P K
 ok:∀x,∃l,keyOf P K (κ x)=some l
section
variable {β:Type} {κ:β->Value} {P:Program} {K t e:TypeId} {w w':World} {b:Nat} {M:β->Option Value}
def TellsV (κ:β->Value) (es:Array MapEntry) (M:β->Option Value):Prop:=∀k v,M k=some v↔∃x ∈ es.toList,x.key=κ k/\x.val=v
def yL (κ:β->Value) (w:World) (b:Nat) (M:β->Option Value):Prop:=
 ∃(es:Array MapEntry) (c:Nat),w.heap[b]?=some (.map es c)/\(∀x ∈ es.toList,∃k:β,x.key=κ k)/\Stamped es c/\TellsV κ es M
open Classical in
noncomputable def rupV (M:β->Option Value) (a:β) (v:Option Value):β->Option Value:=fun k=>if k=a then v else M k
theorem rupV_same {a:β} {v:Option Value}:rupV M a v a=v:=by simp[rupV]
theorem rupV_ne {a k:β} {v:Option Value} (h:k≠a):rupV M a v k=M k:=by simp[rupV,h]
theorem yL.lt (h:yL κ w b M):b < w.heap.size:=by
 obtain⟨es,c,hb,-⟩:=h;exact(Array.getElem?_eq_some_iff.1 hb).1
theorem yL.isMap (h:yL κ w b M):∃es c,w.heap[b]?=some (.map es c):=let ⟨es,c,hb,_⟩:=h;⟨es,c,hb⟩
theorem yL.obj (h:yL κ w b M) (hw:w'.heap[b]?=w.heap[b]?):yL κ w' b M:=by
 obtain⟨es,c,hb,h⟩:=h;exact⟨es,c,hw.trans hb,h⟩
theorem yL.below {B:Nat} (h:yL κ w b M) (hb:Below B w w') (hlt:b < B):yL κ w' b M:=h.obj (hb.block b hlt)
theorem yL.drew (h:yL κ w b M):yL κ w.drew b M:=h
theorem yL.set (h:yL κ w b M) {g j:Nat} {v:Value} (hg:b≠g):yL κ (w.setCell ⟨g,j,none⟩ v) b M:=h.obj (RowKit.Below.heap_setCell _ _ _ _ hg)
theorem yL.made (h:w.heap[b]?=some (.map #[] 0)):yL κ w b (fun _=>none):=⟨#[],0,h,by simp,stamped_empty 0,by intro k v;simp⟩
theorem yL.find (T:KeyV P K κ) {es:Array MapEntry} (h2:∀x ∈ es.toList,∃k:β,x.key=κ k) (h4:TellsV κ es M) (w:World) (a:β):
  ((Instr.findKey K (κ a) es.toList).run P w=.ok none w/\(∀x ∈ es.toList,x.key≠κ a)/\M a=none)\/∃j x,(Instr.findKey K (κ a) es.toList).run P w=.ok (some (j,x.val)) w/\es.toList[j]?=some x/\x.key=κ a/\M a=some x.val:=by
 obtain⟨la,ha⟩:=T.ok a;rcases T.keyed.find w ha es.toList (fun x hx=>by
  obtain⟨k,hk⟩:=h2 x hx;rw[hk];exact T.ok k) with⟨h1,hn⟩|⟨j,x,h1,hj,hx⟩
 ·refine .inl ⟨h1,hn,?_⟩
  cases hM:M a with
  |none=>rfl
  |some v=>
   obtain⟨x,hx,hk,-⟩:=(h4 a v).1 hM;exact absurd hk (hn x hx)
 ·exact .inr ⟨j,x,h1,hj,hx,(h4 a x.val).2 ⟨x,List.mem_of_getElem? hj,hx,rfl⟩⟩
theorem yL.look (T:KeyV P K κ) (h:yL κ w b M) (ht:P.underlying t=some (.map K e)) {zv:Value} (hz:(zeroValue e).run P w=.ok zv w) (a:β) {r:Option Value} (hr:M a=r):
  (Instr.lookup t (.map (some b)) (κ a) false).run P w=.ok (r.getD zv) w/\(Instr.lookup t (.map (some b)) (κ a) true).run P w=.ok (.tuple #[r.getD zv,.bool r.isSome]) w:=by
 obtain⟨es,c,hb,h2,h3,h4⟩:=h;obtain⟨la,ha⟩:=T.ok a;rcases yL.find T h2 h4 w a with⟨h1,-,hM⟩|⟨j,x,h1,-,-,hM⟩ <;>
 ·rw [hM] at hr
  subst hr;constructor <;> simp[Instr.lookup,run_underlying ht,MapKept.run_getObj_map hb,T.keyed.check w _ ha,h1,hz,Result.andThen]
theorem keysV_push {es:Array MapEntry} {a:β} {v:Value} {c:Nat} (h2:∀x ∈ es.toList,∃k:β,x.key=κ k):∀x ∈ (es.push ⟨κ a,v,c⟩).toList,∃k:β,x.key=κ k:=by
 intro y hy;simp only[Array.toList_push,List.mem_append,List.mem_singleton] at hy;rcases hy with hy|rfl
 ·exact h2 y hy
 ·exact ⟨a,rfl⟩
theorem TellsV.push (T:KeyV P K κ) {es:Array MapEntry} (h4:TellsV κ es M) {a:β} {v:Value} {c:Nat} (hn:∀x ∈ es.toList,x.key≠κ a):TellsV κ (es.push ⟨κ a,v,c⟩) (rupV M a (some v)):=by
 intro k u;simp only[Array.toList_push,List.mem_append,List.mem_singleton];by_cases hk:k=a
 ·subst hk
  rw[rupV_same];constructor
  ·intro hu
   cases hu;exact⟨_,.inr rfl,rfl,rfl⟩
  ·rintro ⟨y,hy|rfl,h5,h6⟩
   ·exact absurd h5 (hn y hy)
   ·simpa using h6
 ·rw [rupV_ne hk,h4]
  constructor
  ·rintro ⟨y,hy,h5⟩
   exact⟨y,.inl hy,h5⟩
  ·rintro ⟨y,hy|rfl,h5,h6⟩
   ·exact ⟨y,hy,h5,h6⟩
   ·exact absurd (T.inj h5).symm hk
theorem keysV_modify {es:Array MapEntry} {c:Nat} (hs:Stamped es c) (h2:∀x ∈ es.toList,∃k:β,x.key=κ k) {j:Nat} {x:MapEntry} (hj:es[j]?=some x) {f:MapEntry->MapEntry} {a:β} (hf:(f x).key=κ a):∀y ∈ (es.modify j f).toList,∃k:β,y.key=κ k:=by
 intro y hy;rcases(xT hs hj f y).1 hy with rfl|⟨hy,-⟩
 ·exact ⟨a,hf⟩
 ·exact h2 y hy
theorem TellsV.modify (T:KeyV P K κ) {es:Array MapEntry} {c:Nat} (hs:Stamped es c) (h4:TellsV κ es M) {j:Nat} {x:MapEntry} (hj:es[j]?=some x) {f:MapEntry->MapEntry} {a:β} (hx:x.key=κ a) (hf:(f x).key=κ a):TellsV κ (es.modify j f) (rupV M a (some (f x).val)):=by
 intro k u;by_cases hk:k=a
 ·subst hk
  rw[rupV_same];constructor
  ·intro hu
   cases hu;exact⟨_,(xT hs hj f _).2 (.inl rfl),hf,rfl⟩
  ·rintro ⟨y,hy,h5,h6⟩
   rcases(xT hs hj f y).1 hy with rfl|⟨-,hne⟩
   ·rw [h6]
   ·exact absurd (h5.trans hx.symm) hne
 ·rw [rupV_ne hk,h4]
  constructor
  ·rintro ⟨y,hy,h5,h6⟩
   exact⟨y,(xT hs hj f y).2 (.inr ⟨hy,by rw[h5,hx];exact fun e=>hk (T.inj e)⟩),h5,h6⟩
  ·rintro ⟨y,hy,h5,h6⟩
   rcases(xT hs hj f y).1 hy with rfl|⟨hy,-⟩
   ·rw [hf] at h5
    exact absurd (T.inj h5).symm hk
   ·exact ⟨y,hy,h5,h6⟩
theorem yL.store (T:KeyV P K κ) (h:yL κ w b M) (ht:P.underlying t=some (.map K e)) (a:β) (v:Value):
  ∃w',(Instr.mapUpdate t (.map (some b)) (κ a) v).run P w=.ok () w'/\yL κ w' b (rupV M a (some v))/\w.mapTurned w' b:=by
 obtain⟨es,c,hb,h2,h3,h4⟩:=h;obtain⟨la,ha⟩:=T.ok a;rcases yL.find T h2 h4 w a with⟨h1,hn,hM⟩|⟨j,x,h1,hj,hx,hM⟩
 ·refine ⟨ChangeMaps.setBlock w b (.map (es.push ⟨κ a,v,c⟩) (c+1)),?_,⟨_,_,ChangeMaps.heap_setBlock_same hb _,keysV_push h2,stamped_push h3 hn,h4.push T hn⟩,⟨_,_,_,_,hb,rfl⟩⟩
  simp[Instr.mapUpdate,run_underlying ht,MapKept.run_getObj_map hb,T.keyed.check w _ ha,h1,MapKept.run_setObj_map _ hb,Result.andThen,ChangeMaps.setBlock]
 ·have hj':es[j]?=some x:=by simpa using hj
  refine⟨ChangeMaps.setBlock w b (.map (es.modify j fun y=>{y with key:=κ a,val:=v}) c),?_,⟨_,_,ChangeMaps.heap_setBlock_same hb _,keysV_modify h3 h2 hj' (a:=a) rfl,stamped_mod h3 hj' (fun _=>rfl) hx.symm,TellsV.modify (f:=fun y=>{y with key:=κ a,val:=v}) T h3 h4 hj' hx rfl⟩,⟨_,_,_,_,hb,rfl⟩⟩;simp[Instr.mapUpdate,run_underlying ht,MapKept.run_getObj_map hb,T.keyed.check w _ ha,h1,hj',hx,T.keyed.stays w ha,MapKept.run_setObj_map _ hb,Result.andThen,ChangeMaps.setBlock]
end
def doD (σ:List Int) (d:Dd):Option (List Int):=
 if d.ret=0 then some σ
 else if d.op=2 then(if d.ret=1/\d.got=0 then some (σ.set d.obj.toNat d.val) else none)
 else(if d.ret=3/\σ[d.obj.toNat]?=some d.got then some σ else none)
def rep:List Int->List Dd->Option (List Int)
 |σ,[]=>some σ
 |σ,d::l=>match doD σ d with
  |some τ=>rep τ l
  |none=>none
theorem rep_app {l m:List Dd}:∀{σ:List Int},rep σ (l++m)=match rep σ l with
  |some τ=>rep τ m
  |none=>none:=by
 induction l with
 |nil=>intro σ;rfl
 |cons d l ih=>
  intro σ;simp only[List.cons_append,rep];cases doD σ d with
  |none=>rfl
  |some τ=>exact ih
theorem rep_snoc {l:List Dd} {d:Dd} {σ τ:List Int} (h:rep σ l=some τ):rep σ (l++[d])=doD τ d:=by
 rw[rep_app,h];simp only[rep];cases doD τ d <;> rfl
theorem rep_call {l:List Dd} {d:Dd} {σ:List Int} (h:d.ret=0):rep σ (l++[d])=rep σ l:=by
 rw[rep_app];cases rep σ l with
 |none=>rfl
 |some τ=>simp[rep,doD,h]
theorem doD_len {σ τ:List Int} {d:Dd} (h:doD σ d=some τ):τ.length=σ.length:=by
 unfold doD at h
 split at h
 ·cases h;rfl
 ·split at h
  ·split at h
   ·cases h;simp
   ·cases h
  ·split at h
   ·cases h;rfl
   ·cases h
theorem rep_len:∀{l:List Dd} {σ τ:List Int},rep σ l=some τ->τ.length=σ.length
 |[],σ,τ,h=>by cases h;rfl
 |d::l,σ,τ,h=>by
  simp only[rep] at h;cases hd:doD σ d with
  |none=>rw[hd] at h;cases h
  |some ρ=>rw[hd] at h;rw[rep_len h,doD_len hd]
theorem doD_val {σ τ:List Int} {d:Dd} (hd:-1000000000<=d.val/\d.val<=1000000000) (hs:∀x ∈ σ,-1000000000<=x/\x<=1000000000) (h:doD σ d=some τ):∀x ∈ τ,-1000000000<=x/\x<=1000000000:=by
 unfold doD at h
 split at h
 ·cases h;exact hs
 ·split at h
  ·split at h
   ·cases h
    intro x hx;rcases List.mem_or_eq_of_mem_set hx with hx|rfl
    ·exact hs x hx
    ·exact hd
   ·cases h
  ·split at h
   ·cases h;exact hs
   ·cases h
theorem rep_val:∀{l:List Dd} {σ τ:List Int},(∀d ∈ l,-1000000000<=d.val/\d.val<=1000000000)->(∀x ∈ σ,-1000000000<=x/\x<=1000000000)->rep σ l=some τ->∀x ∈ τ,-1000000000<=x/\x<=1000000000
 |[],σ,τ,_,hs,h=>by cases h;exact hs
 |d::l,σ,τ,hd,hs,h=>by
  simp only[rep] at h;cases he:doD σ d with
  |none=>rw[he] at h;cases h
  |some ρ=>
   rw[he] at h;exact rep_val (fun e hx=>hd e (List.mem_cons_of_mem _ hx)) (doD_val (hd d (List.mem_cons_self ..)) hs he) h
def stepO (dl:Int->List Dd) (fin:Bool) (σ:List Int) (p:Int×Bool):Option (List Int):=
 if p.2=false/\fin=false then some σ
 else match rep σ (dl p.1) with
  |some τ=>some (if p.2=true then τ else σ)
  |none=>none
def playO (dl:Int->List Dd) (fin:Bool):List Int->List (Int×Bool)->Option (List Int)
 |σ,[]=>some σ
 |σ,p::l=>match stepO dl fin σ p with
  |some τ=>playO dl fin τ l
  |none=>none
section
variable {dl dl':Int->List Dd} {fin:Bool}
theorem playO_filter {f:Int×Bool->Bool}:∀{l:List (Int×Bool)} {σ τ:List Int},(∀q ∈ l,f q=false->q.2=false)->playO dl fin σ l=some τ->playO dl fin σ (l.filter f)=some τ
 |[],_,_,_,h=>h
 |p::l,σ,τ,hf,h=>by
  simp only[playO] at h;cases hs:stepO dl fin σ p with
  |none=>rw[hs] at h;cases h
  |some ρ=>
   rw[hs] at h;have ih:=playO_filter (f:=f) (fun q hq=>hf q (List.mem_cons_of_mem _ hq)) h;cases hp:f p with
   |true=>
    rw[List.filter_cons_of_pos hp];simp only[playO,hs];exact ih
   |false=>
    rw[List.filter_cons_of_neg (by simp[hp])];have h2:=hf p (List.mem_cons_self ..) hp;have:ρ=σ:=by
     unfold stepO at hs;rw[h2] at hs
     split at hs
     ·cases hs;rfl
     ·cases hr:rep σ (dl p.1) with
      |none=>rw[hr] at hs;cases hs
      |some x=>rw[hr] at hs;simp at hs;exact hs.symm
    rw[←this];exact ih
end
structure Gm where
 lev:Int
 txs:List St
 masks:List Nat
abbrev Nd:=Nat×List Int
structure Tn where
 id:Int
 com:Bool
 dest:Nd
def Gm.may (g:Gm) (p i:Nat):Bool:=!p.testBit i&&(g.masks.getD i 0&&&p==g.masks.getD i 0)
def Gm.turns1 (g:Gm) (n:Nd) (i:Nat) (t:St):List Tn:=
 if g.may n.1 i then
  (if (t.status=3\/t.status=2) then match rep n.2 t.deeds with
   |some τ=>[⟨t.id,true,(n.1|||2 ^ i,τ)⟩]
   |none=>[]
  else[])++
  (if t.status≠3/\(g.lev≠3\/(rep n.2 t.deeds).isSome=true) then[⟨t.id,false,(n.1|||2 ^ i,n.2)⟩] else[])
 else[]
def Gm.turnsK (g:Gm) (n:Nd) (k:Nat):List Tn:=(List.range k).flatMap fun i=>match g.txs[i]? with
 |some t=>g.turns1 n i t
 |none=>[]
def Gm.turns (g:Gm) (n:Nd):List Tn:=g.turnsK n g.txs.length
def Gm.all (g:Gm):Nat:=2 ^ g.txs.length - 1
inductive Gm.Ends (g:Gm):Nd->Prop
 |all {n:Nd} (h:n.1=g.all):Gm.Ends g n
 |step {n:Nd} {t:Tn} (ht:t ∈ g.turns n) (h:Gm.Ends g t.dest):Gm.Ends g n
def Gm.rank (g:Gm) (n:Nd):Nat:=(List.range g.txs.length).countP fun i=>n.1.testBit i
structure NdOk (g:Gm) (m:Nat) (n:Nd):Prop where
 bits:n.1 < 2 ^ g.txs.length
 len:n.2.length=m
 val:∀x ∈ n.2,-1000000000<=x/\x<=1000000000
section
variable {g:Gm} {n n':Nd} {t:Tn}
theorem turnsK_succ {k:Nat} {s:St} (h:g.txs[k]?=some s):g.turnsK n (k+1)=g.turnsK n k++g.turns1 n k s:=by
 unfold Gm.turnsK;rw[List.range_succ,List.flatMap_append];simp[h]
theorem turns_mem:t ∈ g.turns n↔∃(i:Nat) (s:St),g.txs[i]?=some s/\t ∈ g.turns1 n i s:=by
 unfold Gm.turns Gm.turnsK;simp only[List.mem_flatMap,List.mem_range];constructor
 ·rintro ⟨i,hi,h⟩
  rw[List.getElem?_eq_getElem hi] at h;exact⟨i,_,List.getElem?_eq_getElem hi,h⟩
 ·rintro ⟨i,s,hs,h⟩
  refine⟨i,(List.getElem?_eq_some_iff.1 hs).1,?_⟩;rw[hs];exact h
theorem turns1_mem {i:Nat} {s:St} (h:t ∈ g.turns1 n i s):g.may n.1 i=true/\t.dest.1=n.1|||2 ^ i/\(t.dest.2=n.2\/rep n.2 s.deeds=some t.dest.2):=by
 unfold Gm.turns1 at h
 split at h
 ·rename_i hm
  refine⟨hm,?_⟩;rcases List.mem_append.1 h with h|h
  ·split at h
   ·split at h
    ·rename_i τ hr
     simp only[List.mem_singleton] at h;subst h;exact⟨rfl,.inr hr⟩
    ·cases h
   ·cases h
  ·split at h
   ·simp only[List.mem_singleton] at h
    subst h;exact⟨rfl,.inl rfl⟩
   ·cases h
 ·cases h
theorem countP_bit {p q i:Nat} (hp:p.testBit i=false) (hq:∀j,q.testBit j=(p.testBit j||decide (i=j))):∀N,(List.range N).countP (fun j=>q.testBit j)=(List.range N).countP (fun j=>p.testBit j)+if i < N then 1 else 0
 |0=>by simp
 |N+1=>by
  rw[List.range_succ,List.countP_append,List.countP_append,countP_bit hp hq N];simp only[List.countP_singleton,hq];by_cases h1:i < N
  ·have h2:i≠N:=by omega
   simp[h1,h2,show i < N+1 by omega];omega
  ·by_cases h2:i=N
   ·subst h2;simp[hp]
   ·simp [h1,h2,show ¬i < N+1 by omega]
theorem turn_rank (h:t ∈ g.turns n):g.rank t.dest=g.rank n+1:=by
 obtain⟨i,s,hs,h⟩:=turns_mem.1 h;obtain⟨h1,h2,-⟩:=turns1_mem h;have hi:=(List.getElem?_eq_some_iff.1 hs).1;unfold Gm.may at h1;simp only[Bool.and_eq_true,Bool.not_eq_true'] at h1;unfold Gm.rank;rw[countP_bit (i:=i) h1.1 (q:=t.dest.1) (fun j=>by rw[h2,Nat.testBit_or,Nat.testBit_two_pow]) _,if_pos hi]
theorem turn_ok {m:Nat} (hn:NdOk g m n) (hd:∀s ∈ g.txs,∀d ∈ s.deeds,-1000000000<=d.val/\d.val<=1000000000) (h:t ∈ g.turns n):NdOk g m t.dest:=by
 obtain⟨i,s,hs,h⟩:=turns_mem.1 h;obtain⟨h1,h2,h3⟩:=turns1_mem h;have hi:=(List.getElem?_eq_some_iff.1 hs).1;refine⟨?_,?_,?_⟩
 ·rw [h2]
  exact Nat.or_lt_two_pow hn.bits (Nat.pow_lt_pow_right (by omega) hi)
 ·rcases h3 with h3|h3
  ·rw [h3];exact hn.len
  ·rw [rep_len h3];exact hn.len
 ·rcases h3 with h3|h3
  ·rw [h3];exact hn.val
  ·exact rep_val (fun d hd'=>hd s (List.mem_of_getElem? hs) d hd') hn.val h3
structure Bfs (g:Gm) (m:Nat) (n0:Nd) (ord:List Nd) (q:Nat):Prop where
 hd:ord[0]?=some n0
 qle:q<=ord.length
 nd:ord.Nodup
 ok:∀n ∈ ord,NdOk g m n
 srt:ord.Pairwise fun a b=>g.rank a<=g.rank b
 cl:∀(j:Nat) (n:Nd),j < q->ord[j]?=some n->∀t ∈ g.turns n,t.dest ∈ ord
 near:∀c,ord[q]?=some c->∀n ∈ ord,g.rank n<=g.rank c+1
structure Bmd (g:Gm) (m:Nat) (n0:Nd) (ord:List Nd) (q k:Nat) (c:Nd):Prop where
 hd:ord[0]?=some n0
 cur:ord[q]?=some c
 nd:ord.Nodup
 ok:∀n ∈ ord,NdOk g m n
 srt:ord.Pairwise fun a b=>g.rank a<=g.rank b
 cl:∀(j:Nat) (n:Nd),j < q->ord[j]?=some n->∀t ∈ g.turns n,t.dest ∈ ord
 near:∀n ∈ ord,g.rank n<=g.rank c+1
 here:∀(j:Nat) (t:Tn),j < k->(g.turns c)[j]?=some t->t.dest ∈ ord
variable {m q k:Nat} {n0 c:Nd} {ord:List Nd}
theorem Bfs.start (h:NdOk g m n0):Bfs g m n0 [n0] 0:=by
 refine⟨rfl,by simp,by simp,by simpa using h,by simp,fun j n hj=>by omega,fun c hc n hn=>?_⟩;simp only[List.getElem?_cons_zero,Option.some.injEq] at hc;simp only[List.mem_singleton] at hn;subst hc hn;omega
theorem Bfs.take (h:Bfs g m n0 ord q) (hc:ord[q]?=some c):Bmd g m n0 ord q 0 c:=⟨h.hd,hc,h.nd,h.ok,h.srt,h.cl,h.near c hc,fun j t hj=>by omega⟩
theorem Bmd.old (h:Bmd g m n0 ord q k c) {t:Tn} (ht:(g.turns c)[k]?=some t) (ho:t.dest ∈ ord):Bmd g m n0 ord q (k+1) c:=by
 refine⟨h.hd,h.cur,h.nd,h.ok,h.srt,h.cl,h.near,fun j u hj hu=>?_⟩;by_cases e:j=k
 ·subst e
  rw[ht] at hu;obtain rfl:=Option.some.inj hu;exact ho
 ·exact h.here j u (by omega) hu
theorem Bmd.put (h:Bmd g m n0 ord q k c) (hd:∀s ∈ g.txs,∀d ∈ s.deeds,-1000000000<=d.val/\d.val<=1000000000) {t:Tn} (ht:(g.turns c)[k]?=some t) (ho:t.dest ∉ ord):Bmd g m n0 (ord++[t.dest]) q (k+1) c:=by
 have hr:=turn_rank (List.mem_of_getElem? ht);have hok:=turn_ok (h.ok c (List.mem_of_getElem? h.cur)) hd (List.mem_of_getElem? ht);have hql:=(List.getElem?_eq_some_iff.1 h.cur).1;refine⟨?_,?_,?_,fun n hn=>?_,?_,fun j n hj hn u hu=>?_,fun n hn=>?_,fun j u hj hu=>?_⟩
 ·rw [List.getElem?_append_left (by omega)];exact h.hd
 ·rw [List.getElem?_append_left hql];exact h.cur
 ·refine List.nodup_append.2 ⟨h.nd,by simp,fun a ha b hb=>?_⟩
  simp only[List.mem_singleton] at hb;rintro rfl;subst hb;exact ho ha
 ·rcases List.mem_append.1 hn with hn|hn
  ·exact h.ok n hn
  ·simp only[List.mem_singleton] at hn;subst hn;exact hok
 ·refine List.pairwise_append.2 ⟨h.srt,by simp,fun a ha b hb=>?_⟩
  simp only[List.mem_singleton] at hb;subst hb;have:=h.near a ha;omega
 ·rw [List.getElem?_append_left (by omega)] at hn
  exact List.mem_append_left _ (h.cl j n hj hn u hu)
 ·rcases List.mem_append.1 hn with hn|hn
  ·exact h.near n hn
  ·simp only[List.mem_singleton] at hn;subst hn;omega
 ·by_cases e:j=k
  ·subst e
   rw[ht] at hu;obtain rfl:=Option.some.inj hu;simp
  ·exact List.mem_append_left _ (h.here j u (by omega) hu)
theorem Bmd.done (h:Bmd g m n0 ord q k c) (hk:(g.turns c).length<=k):Bfs g m n0 ord (q+1):=by
 have hql:=(List.getElem?_eq_some_iff.1 h.cur).1;refine⟨h.hd,by omega,h.nd,h.ok,h.srt,fun j n hj hn t ht=>?_,fun d hd n hn=>?_⟩
 ·by_cases e:j=q
  ·subst e
   rw[h.cur] at hn;obtain rfl:=Option.some.inj hn;obtain⟨i,hi⟩:=List.mem_iff_getElem?.1 ht;exact h.here i t (by have:=(List.getElem?_eq_some_iff.1 hi).1;omega) hi
  ·exact h.cl j n (by omega) hn t ht
 ·have h1:=h.near n hn
  have h2:g.rank c<=g.rank d:=by
   have hl2:=(List.getElem?_eq_some_iff.1 hd).1;have e1:c=ord[q]:=(Option.some.inj ((List.getElem?_eq_getElem hql).symm.trans h.cur)).symm;have e2:d=ord[q+1]:=(Option.some.inj ((List.getElem?_eq_getElem hl2).symm.trans hd)).symm;rw[e1,e2];exact List.pairwise_iff_getElem.1 h.srt q (q+1) hql hl2 (by omega)
  omega
theorem Bfs.later (h:Bfs g m n0 ord ord.length) {i:Nat} (hi:ord[i]?=some n) (ht:t ∈ g.turns n):∃j,i < j/\ord[j]?=some t.dest:=by
 have hil:=(List.getElem?_eq_some_iff.1 hi).1;obtain⟨j,hj⟩:=List.mem_iff_getElem?.1 (h.cl i n hil hi t ht);refine⟨j,?_,hj⟩;have hjl:=(List.getElem?_eq_some_iff.1 hj).1;rcases Nat.lt_trichotomy i j with h1|h1|h1
 ·exact h1
 ·exfalso
  subst h1;rw[hi] at hj;have:=turn_rank ht;rw[←Option.some.inj hj] at this;omega
 ·exfalso
  have e1:n=ord[i]:=(Option.some.inj ((List.getElem?_eq_getElem hil).symm.trans hi)).symm;have e2:t.dest=ord[j]:=(Option.some.inj ((List.getElem?_eq_getElem hjl).symm.trans hj)).symm;have:=List.pairwise_iff_getElem.1 h.srt j i hjl hil h1;rw[←e1,←e2,turn_rank ht] at this;omega
theorem Bfs.size (h:Bfs g m n0 ord q) {i:Nat} (hi:ord[i]?=some n):NdOk g m n:=h.ok n (List.mem_of_getElem? hi)
theorem ends_iff:g.Ends n↔n.1=g.all\/∃t ∈ g.turns n,g.Ends t.dest:=by
 constructor
 ·intro h
  cases h with
  |all h=>exact .inl h
  |step ht h=>exact .inr ⟨_,ht,h⟩
 ·rintro (h|⟨t,ht,h⟩)
  ·exact .all h
  ·exact .step ht h
theorem rank_le:g.rank n<=g.txs.length:=by
 unfold Gm.rank;have:=List.countP_le_length (p:=fun i=>n.1.testBit i) (l:=List.range g.txs.length);simpa using this
theorem ends_suf (dl:Int->List Dd) (hdl:∀s ∈ g.txs,dl s.id=s.deeds) (hlev:g.lev=3\/g.lev≠3):
  ∀(suf:List (Int×Bool)) (p:Nat) (σ τ:List Int),p < 2 ^ g.txs.length->(∀(i:Nat) (s:St),g.txs[i]?=some s->(p.testBit i=true↔s.id ∉ suf.map (·.1)))->(suf.map (·.1)).Nodup->
   (∀x ∈ suf,∃(i:Nat) (s:St),g.txs[i]?=some s/\s.id=x.1/\(x.2=true->s.status=3\/s.status=2)/\(x.2=false->s.status≠3))->
   (∀(a b:List (Int×Bool)) (x:Int×Bool) (i:Nat) (s:St),suf=a++x::b->g.txs[i]?=some s->s.id=x.1->∀j,(g.masks.getD i 0).testBit j=true->∃u,g.txs[j]?=some u/\u.id ∉ (x::b).map (·.1))->
   playO dl (decide (g.lev=3)) σ suf=some τ->(∀(i j:Nat) (s u:St),g.txs[i]?=some s->g.txs[j]?=some u->s.id=u.id->i=j)->g.Ends (p,σ)
 |[],p,σ,τ,hp,hb,_,_,_,_,_=>by
  refine .all ?_;unfold Gm.all;apply Nat.eq_of_testBit_eq;intro i;show p.testBit i=_;rw[Nat.testBit_two_pow_sub_one];by_cases hi:i < g.txs.length
  ·rw [decide_eq_true hi]
   exact(hb i _ (List.getElem?_eq_getElem hi)).2 (by simp)
  ·rw [decide_eq_false hi]
   exact Nat.testBit_lt_two_pow (Nat.lt_of_lt_of_le hp (Nat.pow_le_pow_right (by omega) (by omega)))
 |x::suf,p,σ,τ,hp,hb,hn,hx,hm,hpl,hu=>by
  obtain⟨i,s,hs,qj,hc1,hc2⟩:=hx x (List.mem_cons_self ..);have hi:=(List.getElem?_eq_some_iff.1 hs).1;rw[List.map_cons,List.nodup_cons] at hn;have hbi:p.testBit i=false:=by
   cases h:p.testBit i with
   |false=>rfl
   |true=>exact absurd (by rw[qj];exact List.mem_cons_self ..) ((hb i s hs).1 h)
  have hmask:g.masks.getD i 0&&&p=g.masks.getD i 0:=by
   apply Nat.eq_of_testBit_eq;intro j;rw[Nat.testBit_and];cases h:(g.masks.getD i 0).testBit j with
   |false=>rfl
   |true=>
    obtain⟨u,hu1,hu2⟩:=hm [] suf x i s rfl hs qj j h;rw[(hb j u hu1).2 hu2];rfl
  have hmay:g.may p i=true:=by
   unfold Gm.may;rw[hbi,hmask];simp
  have next:∀ρ,playO dl (decide (g.lev=3)) ρ suf=some τ->g.Ends (p|||2 ^ i,ρ):=fun ρ hρ=>by
   refine ends_suf dl hdl hlev suf (p|||2 ^ i) ρ τ (Nat.or_lt_two_pow hp (Nat.pow_lt_pow_right (by omega) hi)) (fun j u hj=>?_) hn.2 (fun y hy=>hx y (List.mem_cons_of_mem _ hy)) (fun a b y k u e=>hm (x::a) b y k u (by rw[e];rfl)) hρ hu;rw[Nat.testBit_or,Nat.testBit_two_pow];by_cases e:i=j
   ·subst e
    rw[hs] at hj;obtain rfl:=Option.some.inj hj;simp only[decide_true,Bool.or_true,true_iff];rw[qj];exact hn.1
   ·simp only[e,decide_false,Bool.or_false]
    rw[hb j u hj];have:u.id≠x.1:=fun h=>e (hu i j s u hs hj (qj.trans h.symm));simp only[List.map_cons,List.mem_cons,this,false_or]
  simp only[playO] at hpl;cases hst:stepO dl (decide (g.lev=3)) σ x with
  |none=>rw[hst] at hpl;cases hpl
  |some ρ=>
   rw[hst] at hpl;simp only at hpl;have hE:=next ρ hpl
   have hdx:dl x.1=s.deeds:=by rw[←qj];exact hdl s (List.mem_of_getElem? hs)
   unfold stepO at hst;rw[hdx] at hst;cases hxc:x.2 with
   |true=>
    rw[hxc] at hst;rw[if_neg (by simp)] at hst;cases hr:rep σ s.deeds with
    |none=>rw[hr] at hst;cases hst
    |some y=>
     rw[hr] at hst;simp only[if_true,Option.some.injEq] at hst;subst hst;refine .step (t:=⟨s.id,true,(p|||2 ^ i,y)⟩) (turns_mem.2 ⟨i,s,hs,?_⟩) hE;unfold Gm.turns1;rw[if_pos hmay,if_pos (hc1 hxc),hr];exact List.mem_append_left _ (by simp)
   |false=>
    rw[hxc] at hst;have hne:=hc2 hxc;have key:(g.lev≠3\/(rep σ s.deeds).isSome=true)/\ρ=σ:=by
     by_cases h3:g.lev=3
     ·rw [if_neg (by simp[h3])] at hst
      cases hr:rep σ s.deeds with
      |none=>rw[hr] at hst;cases hst
      |some y=>
       rw[hr] at hst;simp at hst;exact⟨.inr rfl,hst.symm⟩
     ·rw [if_pos (by simp[h3])] at hst
      cases hst;exact⟨.inl h3,rfl⟩
    obtain⟨k1,rfl⟩:=key;refine .step (t:=⟨s.id,false,(p|||2 ^ i,ρ)⟩) (turns_mem.2 ⟨i,s,hs,?_⟩) hE;unfold Gm.turns1;rw[if_pos hmay];exact List.mem_append_right _ (by rw[if_pos ⟨hne,k1⟩];simp)
end
def numOf (l:List UInt8):Nat:=l.foldl (fun a c=>10*a+(c.toNat - 48)) 0
theorem numOf_snoc (l:List UInt8) (c:UInt8):numOf (l++[c])=10*numOf l+(c.toNat - 48):=by simp[numOf,List.foldl_append]
theorem dig_toNat {d:Nat} (h:d < 10):(UInt8.ofNat (48+d)).toNat=48+d:=by
 rw[UInt8.toNat_ofNat'];omega
theorem numOf_dec (u:Nat):numOf (decDigits u)=u:=by
 induction u using Nat.strongRecOn with
 |_ u ih=>
  by_cases h:u < 10
  ·rw [decDigits,dif_pos h]
   simp only[numOf,List.foldl_cons,List.foldl_nil,dig_toNat h];omega
  ·rw [decDigits,dif_neg h,numOf_snoc,ih (u / 10) (by omega),dig_toNat (Nat.mod_lt _ (by omega))]
   omega
theorem dec_digit (u:Nat):∀c ∈ decDigits u,48<=c.toNat/\c.toNat<=57:=by
 induction u using Nat.strongRecOn with
 |_ u ih=>
  intro c hc;by_cases h:u < 10
  ·rw [decDigits,dif_pos h] at hc
   obtain rfl:=List.mem_singleton.1 hc;rw[dig_toNat h];omega
  ·rw [decDigits,dif_neg h] at hc
   rcases List.mem_append.1 hc with hc|hc
   ·exact ih (u / 10) (by omega) c hc
   ·obtain rfl:=List.mem_singleton.1 hc
    rw[dig_toNat (Nat.mod_lt _ (by omega))];omega
theorem dec_inj {a b:Nat} (h:decDigits a=decDigits b):a=b:=by rw[←numOf_dec a,h,numOf_dec]
theorem itoa_inj {a b:Int} (h:itoa a=itoa b):a=b:=by
 unfold itoa at h
 split at h
 ·split at h
  ·have:=dec_inj (List.cons.inj h).2
   omega
  ·exfalso
   have h1:(45:UInt8) ∈ decDigits b.toNat:=by rw[←h];exact List.mem_cons_self ..
   have:=(dec_digit _ _ h1).1;have e:(45:UInt8).toNat=45:=rfl;omega
 ·split at h
  ·exfalso
   have h1:(45:UInt8) ∈ decDigits a.toNat:=by rw[h];exact List.mem_cons_self ..
   have:=(dec_digit _ _ h1).1;have e:(45:UInt8).toNat=45:=rfl;omega
  ·have:=dec_inj h
   omega
theorem itoa_plain (x:Int):∀c ∈ itoa x,c≠59:=by
 intro c hc e;subst e;have e:(59:UInt8).toNat=59:=rfl;unfold itoa at hc
 split at hc
 ·rcases List.mem_cons.1 hc with h|h
  ·exact absurd h (by decide)
  ·have:=(dec_digit _ _ h).2;omega
 ·have:=(dec_digit _ _ hc).2;omega
def regT (x:Int):List UInt8:=[114,101,103,105,115,116,101,114,32]++itoa x
def keyT (σ:List Int):List UInt8:=join (σ.map regT) [59,32]
theorem regT_plain (x:Int):∀c ∈ regT x,c≠59:=by
 intro c hc;unfold regT at hc;rcases List.mem_append.1 hc with h|h
 ·simp at h
  rcases h with rfl|rfl|rfl|rfl|rfl|rfl|rfl|rfl|rfl <;> decide
 ·exact itoa_plain x c h
theorem regT_inj {x y:Int} (h:regT x=regT y):x=y:=itoa_inj (List.append_cancel_left h)
theorem join_cons2 (a b:List UInt8) (l:List (List UInt8)) (s:List UInt8):join (a::b::l) s=a++(s++join (b::l) s):=by
 unfold join;rw[List.intercalate_cons_cons];simp
theorem split_at {a b:List UInt8} (ha:∀c ∈ a,c≠59) (hb:∀c ∈ b,c≠59) {r t:List UInt8} (h:a++59::r=b++59::t):a=b/\r=t:=by
 induction a generalizing b with
 |nil=>
  cases b with
  |nil=>simpa using h
  |cons y b=>
   simp at h;exact absurd h.1.symm (hb y (List.mem_cons_self ..))
 |cons x a ih=>
  cases b with
  |nil=>
   simp at h;exact absurd h.1 (ha x (List.mem_cons_self ..))
  |cons y b=>
   simp only[List.cons_append,List.cons.injEq] at h;obtain⟨rfl,h2⟩:=h;obtain⟨rfl,h3⟩:=ih (fun c hc=>ha c (List.mem_cons_of_mem _ hc)) (fun c hc=>hb c (List.mem_cons_of_mem _ hc)) h2;exact⟨rfl,h3⟩
theorem keyT_inj:∀{σ τ:List Int},σ.length=τ.length->keyT σ=keyT τ->σ=τ
 |[],[],_,_=>rfl
 |[],_::_,h,_=>by simp at h
 |_::_,[],h,_=>by simp at h
 |[x],[y],_,h=>by
  have:regT x=regT y:=by simpa[keyT,join] using h
  rw[regT_inj this]
 |[_],_::_::_,h,_=>by simp at h
 |_::_::_,[_],h,_=>by simp at h
 |x::x2::σ,y::y2::τ,hl,h=>by
  have e:∀(z z2:Int) (ρ:List Int),keyT (z::z2::ρ)=regT z++59::([32]++keyT (z2::ρ)):=fun z z2 ρ=>by
   show join (regT z::regT z2::ρ.map regT) _=_;rw[join_cons2];rfl
  rw[e,e] at h;obtain⟨h1,h2⟩:=split_at (regT_plain x) (regT_plain y) h;rw[regT_inj h1,keyT_inj (σ:=x2::σ) (τ:=y2::τ) (by simpa using hl) (List.append_cancel_left h2)]
theorem itoa_len {x:Int} (h0:-1000000000<=x) (h1:x<=1000000000):(itoa x).length<=12:=by
 have key:∀u:Nat,u<=1000000000->(decDigits u).length<=10:=fun u hu=>by
  rw[decDigits_length];by_cases h:u=0
  ·subst h;rw[nDigits_small (by omega)];omega
  ·have hp:=nDigits_pos u
   rcases Nat.lt_or_ge 10 (nDigits u) with hlt|hge
   ·exfalso
    have:10 ^ (nDigits u - 1)<=u:=by
     have key2:∀v:Nat,v≠0->10 ^ (nDigits v - 1)<=v:=fun v=>by
      induction v using Nat.strongRecOn with
      |_ v ih=>
       intro hv;by_cases h:v < 10
       ·rw [nDigits_small h];simp;omega
       ·rw [nDigits_big h]
        have:=ih (v / 10) (by omega) (by omega);have h3:=nDigits_pos (v / 10);rw[show nDigits (v / 10)+1 - 1=(nDigits (v / 10) - 1)+1 by omega,Nat.pow_succ];omega
     exact key2 u h
    have h2:10 ^ 10<=10 ^ (nDigits u - 1):=Nat.pow_le_pow_right (by omega) (by omega);omega
   ·exact hge
 unfold itoa
 split
 ·have:=key x.natAbs (by omega)
  simp only[List.length_cons];omega
 ·have:=key x.toNat (by omega)
  omega
def NdK (m:Nat):Type:={n:Nd // n.1 < 4096/\n.2.length=m/\m<=8/\∀x ∈ n.2,-1000000000<=x/\x<=1000000000}
def keyB (σ:List Int):ByteArray:=⟨(keyT σ).toArray⟩
theorem keyB_inj {σ τ:List Int} (hl:σ.length=τ.length) (h:keyB σ=keyB τ):σ=τ:=by
 refine keyT_inj hl ?_;have:=congrArg (fun b:ByteArray=>b.data.toList) h;simpa[keyB] using this
theorem join_len {n:Nat}:∀(l:List (List UInt8)),(∀x ∈ l,x.length<=n)->(Lib.join l [59,32]).length<=l.length*(n+2)
 |[],_=>by simp[Lib.join]
 |[x],h=>by
  have:=h x (by simp);simp[Lib.join];omega
 |x::y::l,h=>by
  rw[join_cons2];have h1:=h x (by simp);have h2:=join_len (y::l) fun z hz=>h z (List.mem_cons_of_mem _ hz);simp only[List.length_append,List.length_cons,List.length_nil,Nat.add_mul] at *;omega
theorem keyT_len {σ:List Int} (hv:∀x ∈ σ,-1000000000<=x/\x<=1000000000):(keyT σ).length<=σ.length*23:=by
 have:=join_len (n:=21) (σ.map regT) fun x hx=>by
  obtain⟨y,hy,rfl⟩:=List.mem_map.1 hx;have:=itoa_len (hv y hy).1 (hv y hy).2;simp only[regT,List.length_append,List.length_cons,List.length_nil];omega
 simpa[keyT] using this
def kapV {m:Nat} (n:NdK m):Value:=.agg #[.int .i64 (n.1.1:Nat),.string (keyB n.1.2)]
theorem laid_out:laidOutB Tryz.prog=true:=by kernel_rfl
theorem pair_keyed:Keyed Tryz.prog 176:=Keyed.of_law (deep_law_laid laid_out (m:=3) (by omega) (by decide+kernel) (by kernel_rfl) (by kernel_rfl))
theorem types_size:∃m,Tryz.prog.types.size=m+1+1:=⟨Tryz.prog.types.size - 2,by kernel_rfl⟩
theorem kap_ok {m:Nat} (n:NdK m):∃l,keyOf Tryz.prog 176 (kapV n)=some l:=by
 obtain⟨⟨p,σ⟩,hp,hl,hm,hv⟩:=n;have hsz:(keyB σ).size<=maxLen:=by
  have:=keyT_len hv;simp only at hl this;show(keyT σ).toArray.size<=_;simp only[List.size_toArray];unfold maxLen;omega
 have hw:(Lit.int .i64 (p:Int)).wf=true:=by
  have hp:p < 4096:=hp;unfold Lit.wf;simp[IntKind.min,IntKind.max,IntKind.bits,IntKind.signed];omega
 obtain⟨k,hk⟩:=types_size;have h1:Tryz.prog.keyType 176=true:=by kernel_rfl
 have h2:(kapV ⟨(p,σ),hp,hl,hm,hv⟩:Value).formed Tryz.prog 176=true:=by kernel_rfl
 have h3:Tryz.prog.cellsOf 176=2:=by kernel_rfl
 have h4:Tryz.prog.cellsOf 3=1:=by kernel_rfl
 have h5:Tryz.prog.cellsOf 9=1:=by kernel_rfl
 unfold keyOf;rw[Tryz.underlying176];simp only;rw[if_pos (by rw[h1,h2];rfl),hk];simp[Program.keyLits,Tryz.underlying176,Tryz.underlying3,Tryz.underlying9,h3,h4,h5,kapV,Value.cells,hw,hsz]
theorem kap_inj {m:Nat} {x y:NdK m} (h:kapV x=kapV y):x=y:=by
 obtain⟨⟨p,σ⟩,hx⟩:=x;obtain⟨⟨q,τ⟩,hy⟩:=y;simp only[kapV,Value.agg.injEq,Array.mk.injEq,List.cons.injEq,Value.int.injEq,Value.string.injEq,true_and,and_true] at h;obtain⟨h1,h2⟩:=h;have e1:p=q:=by omega
 have e2:σ=τ:=keyB_inj (by rw[hx.2.1,hy.2.1]) h2;subst e1 e2;rfl
theorem kap (m:Nat):KeyV Tryz.prog 176 (kapV (m:=m)):=⟨kap_inj,pair_keyed,kap_ok⟩
