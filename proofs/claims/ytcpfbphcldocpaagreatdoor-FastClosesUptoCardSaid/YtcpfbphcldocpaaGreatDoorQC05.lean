/- Parts of the proof; the first: Events: the fields of a call, of a return. Conditions: those of each theorem, as typed. -/
import Derived.Test.YtcpfbphcldocpaaGreatDoorQC04
import Derived.Test.YtcpfbphcldocpaaGreatDoorQC03
set_option linter.unusedVariables false
set_option linter.unusedSimpArgs false
set_option linter.unusedSectionVars false
set_option maxRecDepth 100000
set_option maxHeartbeats 4000000
namespace Go.Proofs.YtcpfbphcldocpaaGreatDoor
open Go.Maps Go.RowKit
section
attribute [local irreducible] xL
theorem ZJ (x:Fd):∀u ∈ x.cells,u.oneCell'=true:=by intro u hu;simp[Fd.cells] at hu;rcases hu with rfl|rfl|rfl|rfl <;> rfl
def Ji (w:World) (b:Nat):Prop:=w.heap[b]?=some (.cells #[.func (.func 179) #[] #[]] 305 (0,0))
def uv (r:Int):List Fd:=if r=3 then[qB,qO,jV] else[qB,qO]
section
variable {w:World}
theorem e_retA (x:Ev) (hop:x.ret=1) (i:Nat) (hi:i<=100) (b:Nat) (h:Ji w b):
  Calls Tryz.prog 188 #[Ql x,.int .i64 i,.pointer (some ⟨b,0,none⟩)] w (zE (uv x.ret) i w):=by
 obtain⟨xk,xx,xh,xj,xo,xy,xv,xr⟩:=x;simp only at hop;subst hop;have q13:((1:Int)==3)=false:=rfl;have h0:=qa h 0;have lb:=qe h;have HL:=qd h;clear h;go_enter Tryz.func188,Tryz.ntmps188;go_wp2_with fail;have bA:Below w.heap.size w ((w.alloc (.cells #[.int .i64 xk,.int .i64 xx,.int .i64 xh,.int .i64 xj,.int .i64 xo,.int .i64 xy,.int .i64 xv,.int .i64 1] 69)).alloc (.cells #[.nilFunc,.int .i64 0,.int .i64 0,.int .i64 0] 260)):=((Below.refl w.heap.size w).alloc (Nat.le_refl _) _).alloc (by simp) _;have rA:=qy (o:=.cells #[.nilFunc,.int .i64 0,.int .i64 0,.int .i64 0] 260) (qs w (.cells #[.int .i64 xk,.int .i64 xx,.int .i64 xh,.int .i64 xj,.int .i64 xo,.int .i64 xy,.int .i64 xv,.int .i64 1] 69));have rB:=qX (w:=w.alloc (.cells #[.int .i64 xk,.int .i64 xx,.int .i64 xh,.int .i64 xj,.int .i64 xo,.int .i64 xy,.int .i64 xv,.int .i64 1] 69)) (o:=.cells #[.nilFunc,.int .i64 0,.int .i64 0,.int .i64 0] 260) (g:=w.heap.size+1) (by simp);have zA:((w.alloc (.cells #[.int .i64 xk,.int .i64 xx,.int .i64 xh,.int .i64 xj,.int .i64 xo,.int .i64 xy,.int .i64 xv,.int .i64 1] 69)).alloc (.cells #[.nilFunc,.int .i64 0,.int .i64 0,.int .i64 0] 260)).heap.size=w.heap.size+2:=by simp
 generalize (w.alloc (.cells #[.int .i64 xk,.int .i64 xx,.int .i64 xh,.int .i64 xj,.int .i64 xo,.int .i64 xy,.int .i64 xv,.int .i64 1] 69)).alloc (.cells #[.nilFunc,.int .i64 0,.int .i64 0,.int .i64 0] 260)=X at *;refine(KQ X).mono ?_;rintro e X1 ⟨rfl,b1⟩;have z1:=b1.size;have b1:=bA.trans (b1.mono (by omega));have rA:=qh rA ‹Below X.heap.size X X1› (by omega);have rB:=qh rB ‹Below X.heap.size X X1› (by omega);go_wp2_with fail;refine(e_ret X1).mono ?_;rintro e X3 ⟨rfl,b3⟩;have z3:=b3.size;have rA:=qh rA b3 (by omega);have rB:=qh rB b3 (by omega);have b3:=b1.trans (b3.mono (by omega));have x4:=qa rA 7;have lA:=qe rA;have lB:=qe rB;have RA:=qd rA;have RB:=qd rB;have B3:=qd b3;clear b1 b3 bA rA rB;go_wp2_with fail;have o4:qj Fd.cells 260 4 (X3.alloc (.cells #[.func (.func qB.f) #[] #[],.int .i64 qB.tb,.int .i64 qB.lo,.int .i64 qB.hi,.func (.func qO.f) #[] #[],.int .i64 qO.tb,.int .i64 qO.lo,.int .i64 qO.hi] 260)) w.heap.size (.slice (some ⟨X3.heap.size,0,none⟩) 2 2) [qB,qO]:=qj.lit (f:=Fd.cells) X3 w.heap.size (by omega) [qB,qO] Fd.len (by decide);have b4:Below w.heap.size w (X3.alloc (.cells #[.func (.func qB.f) #[] #[],.int .i64 qB.tb,.int .i64 qB.lo,.int .i64 qB.hi,.func (.func qO.f) #[] #[],.int .i64 qO.tb,.int .i64 qO.lo,.int .i64 qO.hi] 260)):=B3.o.alloc (by omega) _;have rA:=qy (o:=.cells #[.func (.func qB.f) #[] #[],.int .i64 qB.tb,.int .i64 qB.lo,.int .i64 qB.hi,.func (.func qO.f) #[] #[],.int .i64 qO.tb,.int .i64 qO.lo,.int .i64 qO.hi] 260) RA.o;have rB:=qy (o:=.cells #[.func (.func qB.f) #[] #[],.int .i64 qB.tb,.int .i64 qB.lo,.int .i64 qB.hi,.func (.func qO.f) #[] #[],.int .i64 qO.tb,.int .i64 qO.lo,.int .i64 qO.hi] 260) RB.o;have z4:(X3.alloc (.cells #[.func (.func qB.f) #[] #[],.int .i64 qB.tb,.int .i64 qB.lo,.int .i64 qB.hi,.func (.func qO.f) #[] #[],.int .i64 qO.tb,.int .i64 qO.lo,.int .i64 qO.hi] 260)).heap.size=X3.heap.size+1:=by simp
 generalize X3.alloc (.cells #[.func (.func qB.f) #[] #[],.int .i64 qB.tb,.int .i64 qB.lo,.int .i64 qB.hi,.func (.func qO.f) #[] #[],.int .i64 qO.tb,.int .i64 qO.lo,.int .i64 qO.hi] 260)=X4 at *;obtain⟨X5,rfl⟩:∃X5,X5=X4:=⟨_,rfl⟩
 have x4:=qa rA 7;have lA:=qe rA;have lB:=qe rB;have RA4:=qd rA;have RB4:=qd rB;have B4:=qd b4;have O4:=qd o4;have Z4:=qd z4;have z4':X3.heap.size+1<=X5.heap.size:=by omega
 have hX3:w.heap.size+2<=X3.heap.size:=by omega
 have hw5:w.heap.size+3<=X5.heap.size:=by omega
 clear b4 rA rB o4 B3 RA RB z4 zA;obtain⟨X6,rfl⟩:∃X6,X6=X5:=⟨_,rfl⟩
 ·have q13:((1:Int)==3)=false:=rfl
  obtain⟨Y,rfl⟩:∃Y,Y=X6:=⟨_,rfl⟩
  have BY:=qd B4.o;have RAY:=qd RA4.o;have RBY:=qd RB4.o;have OY:=qd O4.o;clear B4 RA4 RB4 O4 x4 lA lB;have hfd:uv 1=[qB,qO]:=rfl;rw[hfd];unfold zE;generalize hr:([qB,qO]:List Fd)[i]?=r;have HR:=qd hr;clear hr;have y0:Y.cell? ⟨b,0,none⟩=some (.func (.func 179) #[] #[]):=qa (qh HL.o BY.o lb) 0;have zY:=BY.o.size;have lby:b < Y.heap.size:=by omega
  have yy:=qa RAY.o;have yy0:=yy 0;have yy1:=yy 1;have yy2:=yy 2;have yy3:=yy 3;have yy4:=yy 4;have yy5:=yy 5;have yy6:=yy 6;have yy7:=yy 7;clear yy;have ly:=qe RAY.o;have lz:=qe RBY.o;refine qD (Y.heap.size) [1,0,3,1,0,3,0,0,2,0] (.fin [0,1,3,4,2,5,6,7,8,9]) (by kernel_rfl) ?_;simp only[xC,qJ,qu,sD,sE,sF,sG]
  repeat first|(refine qq fun K hK=>?_;go_simp;refine hK _ _ ?_;clear hK K)|(apply qx;(intro w2 hw2;have hk1:=hw2.cell;have hk3:=hw2.1;clear hw2;go_simp;with_reducible rfl);simp only[Act.put,sA,sB,sC])
  refine qC (fun K hK=>?_);go_simp;refine(ju _ ⟨_,_,_,rfl⟩ _).mono ?_;rintro e Z ⟨rfl,hZ⟩;have bZ:Below Y.heap.size Y Z:=by rw[hZ];exact(Below.refl _ Y).drew.alloc (Nat.le_refl _) _
  have rZ:Z.heap[Y.heap.size]?=some (.cells #[.slice (some ⟨X3.heap.size,0,none⟩) 2 2] 304 (0,0)):=by rw[hZ];exact qX (w:=Y.drew) rfl
  refine hK _ _ (RN.KeepsN.of_below (by rw[hZ];exact(Below.refl _ Y.drew).alloc (Nat.le_refl _) _)) ?_;clear hK K hZ;have zZ:=bZ.size;refine qC (fun K hK=>?_);go_simp;refine(vY ⟨xk,xx,xh,xj,xo,xy,xv,1⟩ i hi _ _ ([qB,qO]) rZ ((qj.below OY.o bZ).sl)).mono ?_;rintro e V ⟨rfl,bV⟩;rw[HR.o];cases r with
  |none=>
   refine hK _ _ (RN.KeepsN.of_below (bV.mono zZ)) ?_;clear hK K;have bW:Below Y.heap.size Y V:=bZ.trans (bV.mono zZ);have rV:=qh RBY.o bW lz;have v0:=qa rV 0;have v1:=qa rV 1;have v2:=qa rV 2;have v3:=qa rV 3;have vf:∀j,V.frozen? ⟨w.heap.size+1,j,none⟩=false:=fun j=>qt rV j;have lV:=qe rV;have BV:=qd (BY.o.trans (bW.mono (by omega)));have RV:=qd rV;clear bW rV rZ bZ bV y0 yy0 yy1 yy2 yy3 yy4 yy5 yy6 yy7
   repeat (refine qq fun K hK=>?_;go_simp;refine hK _ _ ?_;clear hK K)
   refine qF (fun K hK=>?_);go_simp;refine hK _ _ ?_;clear hK K
   repeat first|(refine qq fun K hK=>?_;go_simp;refine hK _ _ ?_;clear hK K)|refine qm ?_
   have rF:=qn (qn (qn (qn RV.o 0 .nilFunc) 1 (.int .i64 0)) 2 (.int .i64 0)) 3 (.int .i64 0);have f0:=qa rF 0;have f1:=qa rF 1;have f2:=qa rF 2;have f3:=qa rF 3;have bF:=(((BV.o.setCell (p:=⟨w.heap.size+1,0,none⟩) (by show w.heap.size<=w.heap.size+1;omega) .nilFunc).setCell (p:=⟨w.heap.size+1,1,none⟩) (by show w.heap.size<=w.heap.size+1;omega) (.int .i64 0)).setCell (p:=⟨w.heap.size+1,2,none⟩) (by show w.heap.size<=w.heap.size+1;omega) (.int .i64 0)).setCell (p:=⟨w.heap.size+1,3,none⟩) (by show w.heap.size<=w.heap.size+1;omega) (.int .i64 0);generalize (((V.setCell ⟨w.heap.size+1,0,none⟩ .nilFunc).setCell ⟨w.heap.size+1,1,none⟩ (.int .i64 0)).setCell ⟨w.heap.size+1,2,none⟩ (.int .i64 0)).setCell ⟨w.heap.size+1,3,none⟩ (.int .i64 0)=U at *;simp at f0 f1 f2 f3;have BF:=qd bF;clear bF rF v0 v1 v2 v3 vf;go_wp2;refine bodyPost_ret (v:=.tuple #[fdZ,.bool false]) (by simp[results,Tryz.results188,go_sem,f0,f1,f2,f3]) rfl ⟨by first|rfl|(rw[show uv 1=[qB,qO] from rfl,HR.o]),BF.o⟩
  |some y=>
   refine hK _ _ (RN.KeepsN.of_below (bV.mono zZ)) ?_;clear hK K;have bW:Below Y.heap.size Y V:=bZ.trans (bV.mono zZ);have rV:=qh RBY.o bW lz;have v0:=qa rV 0;have v1:=qa rV 1;have v2:=qa rV 2;have v3:=qa rV 3;have vf:∀j,V.frozen? ⟨w.heap.size+1,j,none⟩=false:=fun j=>qt rV j;have lV:=qe rV;have BV:=qd (BY.o.trans (bW.mono (by omega)));have RV:=qd rV;clear bW rV rZ bZ bV y0 yy0 yy1 yy2 yy3 yy4 yy5 yy6 yy7
   repeat (refine qq fun K hK=>?_;go_simp;refine hK _ _ ?_;clear hK K)
   refine qF (fun K hK=>?_);go_simp;refine hK _ _ ?_;clear hK K
   repeat first|(refine qq fun K hK=>?_;go_simp;refine hK _ _ ?_;clear hK K)|refine qm ?_
   have rF:=qn (qn (qn (qn RV.o 0 (.func (.func y.f) #[] #[])) 1 (.int .i64 y.tb)) 2 (.int .i64 y.lo)) 3 (.int .i64 y.hi);have f0:=qa rF 0;have f1:=qa rF 1;have f2:=qa rF 2;have f3:=qa rF 3;have bF:=(((BV.o.setCell (p:=⟨w.heap.size+1,0,none⟩) (by show w.heap.size<=w.heap.size+1;omega) (.func (.func y.f) #[] #[])).setCell (p:=⟨w.heap.size+1,1,none⟩) (by show w.heap.size<=w.heap.size+1;omega) (.int .i64 y.tb)).setCell (p:=⟨w.heap.size+1,2,none⟩) (by show w.heap.size<=w.heap.size+1;omega) (.int .i64 y.lo)).setCell (p:=⟨w.heap.size+1,3,none⟩) (by show w.heap.size<=w.heap.size+1;omega) (.int .i64 y.hi);generalize (((V.setCell ⟨w.heap.size+1,0,none⟩ (.func (.func y.f) #[] #[])).setCell ⟨w.heap.size+1,1,none⟩ (.int .i64 y.tb)).setCell ⟨w.heap.size+1,2,none⟩ (.int .i64 y.lo)).setCell ⟨w.heap.size+1,3,none⟩ (.int .i64 y.hi)=U at *;simp at f0 f1 f2 f3;have BF:=qd bF;clear bF rF v0 v1 v2 v3 vf;go_wp2;refine bodyPost_ret (v:=.tuple #[y.val,.bool true]) (by simp[results,Tryz.results188,go_sem,f0,f1,f2,f3]) rfl ⟨by first|rfl|(rw[show uv 1=[qB,qO] from rfl,HR.o]),BF.o⟩
theorem e_retB (x:Ev) (hop:x.ret=3) (i:Nat) (hi:i<=100) (b:Nat) (h:Ji w b):
  Calls Tryz.prog 188 #[Ql x,.int .i64 i,.pointer (some ⟨b,0,none⟩)] w (zE (uv x.ret) i w):=by
 obtain⟨xk,xx,xh,xj,xo,xy,xv,xr⟩:=x;simp only at hop;subst hop;have q13:((3:Int)==3)=true:=rfl;have h0:=qa h 0;have lb:=qe h;have HL:=qd h;clear h;go_enter Tryz.func188,Tryz.ntmps188;go_wp2_with fail;have bA:Below w.heap.size w ((w.alloc (.cells #[.int .i64 xk,.int .i64 xx,.int .i64 xh,.int .i64 xj,.int .i64 xo,.int .i64 xy,.int .i64 xv,.int .i64 3] 69)).alloc (.cells #[.nilFunc,.int .i64 0,.int .i64 0,.int .i64 0] 260)):=((Below.refl w.heap.size w).alloc (Nat.le_refl _) _).alloc (by simp) _;have rA:=qy (o:=.cells #[.nilFunc,.int .i64 0,.int .i64 0,.int .i64 0] 260) (qs w (.cells #[.int .i64 xk,.int .i64 xx,.int .i64 xh,.int .i64 xj,.int .i64 xo,.int .i64 xy,.int .i64 xv,.int .i64 3] 69));have rB:=qX (w:=w.alloc (.cells #[.int .i64 xk,.int .i64 xx,.int .i64 xh,.int .i64 xj,.int .i64 xo,.int .i64 xy,.int .i64 xv,.int .i64 3] 69)) (o:=.cells #[.nilFunc,.int .i64 0,.int .i64 0,.int .i64 0] 260) (g:=w.heap.size+1) (by simp);have zA:((w.alloc (.cells #[.int .i64 xk,.int .i64 xx,.int .i64 xh,.int .i64 xj,.int .i64 xo,.int .i64 xy,.int .i64 xv,.int .i64 3] 69)).alloc (.cells #[.nilFunc,.int .i64 0,.int .i64 0,.int .i64 0] 260)).heap.size=w.heap.size+2:=by simp
 generalize (w.alloc (.cells #[.int .i64 xk,.int .i64 xx,.int .i64 xh,.int .i64 xj,.int .i64 xo,.int .i64 xy,.int .i64 xv,.int .i64 3] 69)).alloc (.cells #[.nilFunc,.int .i64 0,.int .i64 0,.int .i64 0] 260)=X at *;refine(KQ X).mono ?_;rintro e X1 ⟨rfl,b1⟩;have z1:=b1.size;have b1:=bA.trans (b1.mono (by omega));have rA:=qh rA ‹Below X.heap.size X X1› (by omega);have rB:=qh rB ‹Below X.heap.size X X1› (by omega);go_wp2_with fail;refine(e_ret X1).mono ?_;rintro e X3 ⟨rfl,b3⟩;have z3:=b3.size;have rA:=qh rA b3 (by omega);have rB:=qh rB b3 (by omega);have b3:=b1.trans (b3.mono (by omega));have x4:=qa rA 7;have lA:=qe rA;have lB:=qe rB;have RA:=qd rA;have RB:=qd rB;have B3:=qd b3;clear b1 b3 bA rA rB;go_wp2_with fail;have o4:qj Fd.cells 260 4 (X3.alloc (.cells #[.func (.func qB.f) #[] #[],.int .i64 qB.tb,.int .i64 qB.lo,.int .i64 qB.hi,.func (.func qO.f) #[] #[],.int .i64 qO.tb,.int .i64 qO.lo,.int .i64 qO.hi] 260)) w.heap.size (.slice (some ⟨X3.heap.size,0,none⟩) 2 2) [qB,qO]:=qj.lit (f:=Fd.cells) X3 w.heap.size (by omega) [qB,qO] Fd.len (by decide);have b4:Below w.heap.size w (X3.alloc (.cells #[.func (.func qB.f) #[] #[],.int .i64 qB.tb,.int .i64 qB.lo,.int .i64 qB.hi,.func (.func qO.f) #[] #[],.int .i64 qO.tb,.int .i64 qO.lo,.int .i64 qO.hi] 260)):=B3.o.alloc (by omega) _;have rA:=qy (o:=.cells #[.func (.func qB.f) #[] #[],.int .i64 qB.tb,.int .i64 qB.lo,.int .i64 qB.hi,.func (.func qO.f) #[] #[],.int .i64 qO.tb,.int .i64 qO.lo,.int .i64 qO.hi] 260) RA.o;have rB:=qy (o:=.cells #[.func (.func qB.f) #[] #[],.int .i64 qB.tb,.int .i64 qB.lo,.int .i64 qB.hi,.func (.func qO.f) #[] #[],.int .i64 qO.tb,.int .i64 qO.lo,.int .i64 qO.hi] 260) RB.o;have z4:(X3.alloc (.cells #[.func (.func qB.f) #[] #[],.int .i64 qB.tb,.int .i64 qB.lo,.int .i64 qB.hi,.func (.func qO.f) #[] #[],.int .i64 qO.tb,.int .i64 qO.lo,.int .i64 qO.hi] 260)).heap.size=X3.heap.size+1:=by simp
 generalize X3.alloc (.cells #[.func (.func qB.f) #[] #[],.int .i64 qB.tb,.int .i64 qB.lo,.int .i64 qB.hi,.func (.func qO.f) #[] #[],.int .i64 qO.tb,.int .i64 qO.lo,.int .i64 qO.hi] 260)=X4 at *;obtain⟨X5,rfl⟩:∃X5,X5=X4:=⟨_,rfl⟩
 have x4:=qa rA 7;have lA:=qe rA;have lB:=qe rB;have RA4:=qd rA;have RB4:=qd rB;have B4:=qd b4;have O4:=qd o4;have Z4:=qd z4;have z4':X3.heap.size+1<=X5.heap.size:=by omega
 have hX3:w.heap.size+2<=X3.heap.size:=by omega
 have hw5:w.heap.size+3<=X5.heap.size:=by omega
 clear b4 rA rB o4 B3 RA RB z4 zA;obtain⟨X6,rfl⟩:∃X6,X6=X5:=⟨_,rfl⟩
 ·have q13:((3:Int)==3)=true:=rfl
  refine(e_val X6).mono ?_;rintro e X7 ⟨rfl,b7⟩;have z7:=b7.size;have B7:=qd (B4.o.trans (b7.mono (by omega)));have RA7:=qd (qh RA4.o b7 lA);have RB7:=qd (qh RB4.o b7 lB);have O7:=qd (qj.below O4.o b7);clear b7 x4;go_wp2_with (at_builtin;refine qM rfl _ _ _ rfl _ 32 Tryz.underlying304 Zz rfl O7.o jV (by first|omega|(simp <;> omega)) (by rfl) (by rfl) (by first|rfl|simp) rfl (ZJ _) (by first|omega|(simp only[List.length_append,List.length_cons,List.length_nil,List.length_replicate];omega)) (by first|omega|(simp only[List.length_append,List.length_cons,List.length_nil,List.length_replicate];omega)) ?_;refine qH.halt ?_)
  refine qH.go ?_;intro g8 c8 Y o8 G8;have b8:=B7.o.trans (G8.below (by omega) fun q h=>(O7.o.lt q h).1);have BY:=qd b8;have RAY:=qd (qS RA7.o G8 (qj.neT O7.o RA7.o (by decide)));have RBY:=qd (qS RB7.o G8 (by simp only[Value.ownBlock,ne_eq,Option.some.injEq];omega));have OY:=qd o8;have hzY:w.heap.size+3<=Y.heap.size:=by have:=G8.size;omega
  clear B4 RA4 RB4 O4 lA lB b8 B7 RA7 RB7 O7 o8 G8;go_wp2_with fail;have hfd:uv 3=[qB,qO,jV]:=rfl;rw[hfd];unfold zE;generalize hr:([qB,qO,jV]:List Fd)[i]?=r;have HR:=qd hr;clear hr;have y0:Y.cell? ⟨b,0,none⟩=some (.func (.func 179) #[] #[]):=qa (qh HL.o BY.o lb) 0;have zY:=BY.o.size;have lby:b < Y.heap.size:=by omega
  have yy:=qa RAY.o;have yy0:=yy 0;have yy1:=yy 1;have yy2:=yy 2;have yy3:=yy 3;have yy4:=yy 4;have yy5:=yy 5;have yy6:=yy 6;have yy7:=yy 7;clear yy;have ly:=qe RAY.o;have lz:=qe RBY.o;refine qD (Y.heap.size) [1,0,3,1,0,3,0,0,2,0] (.fin [0,1,3,4,2,5,6,7,8,9]) (by kernel_rfl) ?_;simp only[xC,qJ,qu,sD,sE,sF,sG]
  repeat first|(refine qq fun K hK=>?_;go_simp;refine hK _ _ ?_;clear hK K)|(apply qx;(intro w2 hw2;have hk1:=hw2.cell;have hk3:=hw2.1;clear hw2;go_simp;with_reducible rfl);simp only[Act.put,sA,sB,sC])
  refine qC (fun K hK=>?_);go_simp;refine(ju _ ⟨_,_,_,rfl⟩ _).mono ?_;rintro e Z ⟨rfl,hZ⟩;have bZ:Below Y.heap.size Y Z:=by rw[hZ];exact(Below.refl _ Y).drew.alloc (Nat.le_refl _) _
  have rZ:Z.heap[Y.heap.size]?=some (.cells #[.slice (some ⟨g8,0,none⟩) 3 c8] 304 (0,0)):=by rw[hZ];exact qX (w:=Y.drew) rfl
  refine hK _ _ (RN.KeepsN.of_below (by rw[hZ];exact(Below.refl _ Y.drew).alloc (Nat.le_refl _) _)) ?_;clear hK K hZ;have zZ:=bZ.size;refine qC (fun K hK=>?_);go_simp;refine(vY ⟨xk,xx,xh,xj,xo,xy,xv,3⟩ i hi _ _ ([qB,qO,jV]) rZ ((qj.below OY.o bZ).sl)).mono ?_;rintro e V ⟨rfl,bV⟩;rw[HR.o];cases r with
  |none=>
   refine hK _ _ (RN.KeepsN.of_below (bV.mono zZ)) ?_;clear hK K;have bW:Below Y.heap.size Y V:=bZ.trans (bV.mono zZ);have rV:=qh RBY.o bW lz;have v0:=qa rV 0;have v1:=qa rV 1;have v2:=qa rV 2;have v3:=qa rV 3;have vf:∀j,V.frozen? ⟨w.heap.size+1,j,none⟩=false:=fun j=>qt rV j;have lV:=qe rV;have BV:=qd (BY.o.trans (bW.mono (by omega)));have RV:=qd rV;clear bW rV rZ bZ bV y0 yy0 yy1 yy2 yy3 yy4 yy5 yy6 yy7
   repeat (refine qq fun K hK=>?_;go_simp;refine hK _ _ ?_;clear hK K)
   refine qF (fun K hK=>?_);go_simp;refine hK _ _ ?_;clear hK K
   repeat first|(refine qq fun K hK=>?_;go_simp;refine hK _ _ ?_;clear hK K)|refine qm ?_
   have rF:=qn (qn (qn (qn RV.o 0 .nilFunc) 1 (.int .i64 0)) 2 (.int .i64 0)) 3 (.int .i64 0);have f0:=qa rF 0;have f1:=qa rF 1;have f2:=qa rF 2;have f3:=qa rF 3;have bF:=(((BV.o.setCell (p:=⟨w.heap.size+1,0,none⟩) (by show w.heap.size<=w.heap.size+1;omega) .nilFunc).setCell (p:=⟨w.heap.size+1,1,none⟩) (by show w.heap.size<=w.heap.size+1;omega) (.int .i64 0)).setCell (p:=⟨w.heap.size+1,2,none⟩) (by show w.heap.size<=w.heap.size+1;omega) (.int .i64 0)).setCell (p:=⟨w.heap.size+1,3,none⟩) (by show w.heap.size<=w.heap.size+1;omega) (.int .i64 0);generalize (((V.setCell ⟨w.heap.size+1,0,none⟩ .nilFunc).setCell ⟨w.heap.size+1,1,none⟩ (.int .i64 0)).setCell ⟨w.heap.size+1,2,none⟩ (.int .i64 0)).setCell ⟨w.heap.size+1,3,none⟩ (.int .i64 0)=U at *;simp at f0 f1 f2 f3;have BF:=qd bF;clear bF rF v0 v1 v2 v3 vf;go_wp2;refine bodyPost_ret (v:=.tuple #[fdZ,.bool false]) (by simp[results,Tryz.results188,go_sem,f0,f1,f2,f3]) rfl ⟨by first|rfl|(rw[show uv 3=[qB,qO,jV] from rfl,HR.o]),BF.o⟩
  |some y=>
   refine hK _ _ (RN.KeepsN.of_below (bV.mono zZ)) ?_;clear hK K;have bW:Below Y.heap.size Y V:=bZ.trans (bV.mono zZ);have rV:=qh RBY.o bW lz;have v0:=qa rV 0;have v1:=qa rV 1;have v2:=qa rV 2;have v3:=qa rV 3;have vf:∀j,V.frozen? ⟨w.heap.size+1,j,none⟩=false:=fun j=>qt rV j;have lV:=qe rV;have BV:=qd (BY.o.trans (bW.mono (by omega)));have RV:=qd rV;clear bW rV rZ bZ bV y0 yy0 yy1 yy2 yy3 yy4 yy5 yy6 yy7
   repeat (refine qq fun K hK=>?_;go_simp;refine hK _ _ ?_;clear hK K)
   refine qF (fun K hK=>?_);go_simp;refine hK _ _ ?_;clear hK K
   repeat first|(refine qq fun K hK=>?_;go_simp;refine hK _ _ ?_;clear hK K)|refine qm ?_
   have rF:=qn (qn (qn (qn RV.o 0 (.func (.func y.f) #[] #[])) 1 (.int .i64 y.tb)) 2 (.int .i64 y.lo)) 3 (.int .i64 y.hi);have f0:=qa rF 0;have f1:=qa rF 1;have f2:=qa rF 2;have f3:=qa rF 3;have bF:=(((BV.o.setCell (p:=⟨w.heap.size+1,0,none⟩) (by show w.heap.size<=w.heap.size+1;omega) (.func (.func y.f) #[] #[])).setCell (p:=⟨w.heap.size+1,1,none⟩) (by show w.heap.size<=w.heap.size+1;omega) (.int .i64 y.tb)).setCell (p:=⟨w.heap.size+1,2,none⟩) (by show w.heap.size<=w.heap.size+1;omega) (.int .i64 y.lo)).setCell (p:=⟨w.heap.size+1,3,none⟩) (by show w.heap.size<=w.heap.size+1;omega) (.int .i64 y.hi);generalize (((V.setCell ⟨w.heap.size+1,0,none⟩ (.func (.func y.f) #[] #[])).setCell ⟨w.heap.size+1,1,none⟩ (.int .i64 y.tb)).setCell ⟨w.heap.size+1,2,none⟩ (.int .i64 y.lo)).setCell ⟨w.heap.size+1,3,none⟩ (.int .i64 y.hi)=U at *;simp at f0 f1 f2 f3;have BF:=qd bF;clear bF rF v0 v1 v2 v3 vf;go_wp2;refine bodyPost_ret (v:=.tuple #[y.val,.bool true]) (by simp[results,Tryz.results188,go_sem,f0,f1,f2,f3]) rfl ⟨by first|rfl|(rw[show uv 3=[qB,qO,jV] from rfl,HR.o]),BF.o⟩
theorem e_retn (x:Ev) (hop:x.ret=1\/x.ret=3) (i:Nat) (hi:i<=100) (b:Nat) (h:Ji w b):
  Calls Tryz.prog 188 #[Ql x,.int .i64 i,.pointer (some ⟨b,0,none⟩)] w (zE (uv x.ret) i w):=by
 rcases hop with hop|hop
 ·exact e_retA x hop i hi b h
 ·exact e_retB x hop i hi b h
end
end
section
attribute [local irreducible] xL
theorem xa {w w':World} {b g:Nat} {cs:Array Value} {t:TypeId} {fz:Nat×Nat} (h:w.mapTurned w' b) (hg:w.heap[g]?=some (.cells cs t fz)):w'.heap[g]?=w.heap[g]?:=qA h (by
 rintro rfl;obtain⟨es,c,es',c',hb,-⟩:=h;rw[hb] at hg;cases hg)
def XB (k:Int):List Fd:=if k=1 then[qB,xm] else[qB]
def JG (w:World) (B:Nat) (v:Value) (l:List Fd):Prop:=∃(bl:Nat) (sv:Value),v=.func (.func 180) #[] #[.pointer (some ⟨bl,0,none⟩)]/\w.heap[bl]?=some (.cells #[sv] 304 (0,0))/\qj Fd.cells 260 4 w B sv l
theorem JG.below {w w':World} {B:Nat} {v:Value} {l:List Fd} (h:JG w B v l) (hb:Below w.heap.size w w'):JG w' B v l:=let ⟨bl,sv,h1,h2,h3⟩:=h;⟨bl,sv,h1,qh h2 hb (qe h2),qj.below h3 hb⟩
theorem JG.turned {w w':World} {B b:Nat} {v:Value} {l:List Fd} (h:JG w B v l) (ht:w.mapTurned w' b):JG w' B v l:=let ⟨bl,sv,h1,h2,h3⟩:=h;⟨bl,sv,h1,(xa ht h2).trans h2,qj.kd h3 (Kd.turned (T:=fun _=>False) ht) fun h=>h⟩
def FldMid (w W:World):Exit->Act->World->Prop:=fun e a' X=>∃bm bl gs:Nat,e=.normal/\a'={tmps:=#[.map none,.pointer (some ⟨w.heap.size,0,none⟩),.map (some bm),undef,undef,.map (some bm),.func (.func 179) #[] #[],qB.val,xm.val,.slice (some ⟨gs,0,none⟩) 2 2,.func (.func 180) #[] #[.pointer (some ⟨bl,0,none⟩)],.map (some bm),undef,undef,undef,undef,undef,undef,undef,undef,undef,undef,undef,undef,undef,undef,undef,undef,undef,undef],defers:=[]}/\qL X bm (UN (fun _=>none) 1 (some (.func (.func 180) #[] #[.pointer (some ⟨bl,0,none⟩)])))/\X.heap[bl]?=some (.cells #[.slice (some ⟨gs,0,none⟩) 2 2] 304 (0,0))/\qj Fd.cells 260 4 X W.heap.size (.slice (some ⟨gs,0,none⟩) 2 2) [qB,xm]/\Below W.heap.size W X/\W.heap.size<=bm
end
section
attribute [local irreducible] xL
def Qz:List Fd:=[qB,xm,xW,yu,jV,qO]
def Wg (f:Fd):Nat:=if f.f=214 then 1 else if f.f=215 then 2 else if f.f=216 then 3 else if f.f=217 then 4 else if f.f=219 then 6 else 7
theorem fd_of {f:Fd} (h:f ∈ Qz) (b:Nat) (w:World):Calls Tryz.prog f.f #[.pointer (some ⟨b,0,none⟩)] w fun e w'=>e=.returned (.pointer (some ⟨b,Wg f,none⟩))/\w'=w:=by
 simp only[Qz,List.mem_cons,List.not_mem_nil,or_false] at h;rcases h with rfl|rfl|rfl|rfl|rfl|rfl
 ·exact e_tx1 b w
 ·exact NX b w
 ·exact e_obj1 b w
 ·exact e_op1 b w
 ·exact e_val1 b w
 ·exact e_ret1 b w
theorem cf_of {f:Fd} (h:f ∈ Qz) (args:Array Value) (X:World):Sem.run Tryz.prog (callFunc f.f args) X=.ok (.enter f.f args) X:=by
 simp only[Qz,List.mem_cons,List.not_mem_nil,or_false] at h;rcases h with rfl|rfl|rfl|rfl|rfl|rfl <;> kernel_rfl
theorem off_lt {f:Fd} (h:f ∈ Qz):1<=Wg f/\Wg f < 8:=by
 simp only[Qz,List.mem_cons,List.not_mem_nil,or_false] at h;rcases h with rfl|rfl|rfl|rfl|rfl|rfl <;> decide
theorem UK (cs:List Value) (j:Nat) (v:Value):cs.toArray.setIfInBounds j v=(cs.set j v).toArray:=by simp
def jH (x:Ev):List Value:=[.int .i64 0,.int .i64 x.tx,.int .i64 x.thread,.int .i64 x.obj,.int .i64 x.op,.int .i64 x.key,.int .i64 x.val,.int .i64 x.ret]
theorem Na (s:ByteArray):∀(n i:Nat) (r:List UInt8),s.size - i=n->ByteArray.toList.loop s i r=r.reverse++s.data.toList.drop i
 |0,i,r,h=>by
  unfold ByteArray.toList.loop;have h1:s.size=s.data.size:=rfl;rw[if_neg (by omega),List.drop_eq_nil_of_le (by simp;omega)];simp
 |n+1,i,r,h=>by
  unfold ByteArray.toList.loop;have h1:s.size=s.data.size:=rfl;rw[if_pos (by omega),Na s n (i+1) _ (by omega)];have hi:i < s.data.toList.length:=by simp;omega
  rw[List.drop_eq_getElem_cons hi];have:s.get! i=s.data.toList[i]:=by
   show s.data[i]! =_;rw[getElem!_pos s.data i (by simpa using hi)];simp
  simp[this]
theorem zr (s:ByteArray):s.toList=s.data.toList:=by
 unfold ByteArray.toList;rw[Na s _ 0 [] rfl];simp
theorem XK (w:World):(zeroValue 255).run Tryz.prog w=.ok .nilFunc w:=by kernel_rfl
end
section
attribute [local irreducible] xL
def jL (k:Int):Int:=if k=1\/k=2 then 1 else if k=3\/k=4 then 2 else if k=5\/k=6 then 3 else if k=7\/k=8\/k=9 then 4 else 0
def uy (k:Int):Bool:=k==7||k==8||k==9
def yV (k:Int):Bool:=k==2||k==3||k==5||k==7
def vy (op ret:Int):Bool:=if yV op then ret==1 else if op=1\/op=4 then ret==3 else if op=6\/op=8\/op=9 then ret==2||ret==3 else false
theorem NR (k:Int) (w:World):Calls Tryz.prog 82 #[.int .i64 k] w fun e w'=>e=.returned (.int .i64 (jL k))/\w'=w:=by
 go_enter Tryz.func82,Tryz.ntmps82;go_wp2
 all_goals
  refine bodyPost_ret (v:=.int .i64 (jL k)) ?_ rfl ⟨rfl,rfl⟩
  simp_all [results,Tryz.results82,go_sem,jL]
theorem g_Keyed (k:Int) (w:World):Calls Tryz.prog 88 #[.int .i64 k] w fun e w'=>e=.returned (.bool (uy k))/\w'=w:=by
 unfold uy;go_enter Tryz.func88,Tryz.ntmps88;cases h1:(k==7) <;> cases h2:(k==8) <;> cases h3:(k==9) <;>
 ·go_wp2
  go_ret;exact⟨by simp,rfl⟩
theorem Wy (k:Int) (w:World):Calls Tryz.prog 89 #[.int .i64 k] w fun e w'=>e=.returned (.bool (yV k))/\w'=w:=by
 unfold yV;go_enter Tryz.func89,Tryz.ntmps89;cases h1:(k==2) <;> cases h2:(k==3) <;> cases h3:(k==5) <;> cases h4:(k==7) <;>
 ·go_wp2
  go_ret;exact⟨by simp,rfl⟩
theorem g_Fits (k r:Int) (w:World):Calls Tryz.prog 174 #[.int .i64 k,.int .i64 r] w fun e w'=>e=.returned (.bool (vy k r))/\w'=w:=by
 unfold vy;have hV:=qd (Wy k w);go_enter Tryz.func174,Tryz.ntmps174;go_wp2_with fail;refine hV.o.mono ?_;rintro e w1 ⟨rfl,rfl⟩;cases hv:yV k with
 |true=>
  go_wp2;go_ret;exact⟨by simp,rfl⟩
 |false=>
  by_cases h1:k=1
  ·subst h1
   go_wp2;go_ret;exact⟨by simp,rfl⟩
  by_cases h4:k=4
  ·subst h4
   go_wp2;go_ret;exact⟨by simp,rfl⟩
  have q1:(k==1)=false:=by simpa using h1
  have q4:(k==4)=false:=by simpa using h4
  by_cases h6:k=6\/k=8\/k=9
  ·rcases h6 with rfl|rfl|rfl <;>
   ·by_cases h2:r=2
    ·subst h2
     go_wp2;go_ret;exact⟨by simp,rfl⟩
    ·have q2:(r==2)=false:=by simpa using h2
     go_wp2;go_ret;exact⟨by simp[h2],rfl⟩
  ·have q6:(k==6)=false:=by simpa using fun h=>h6 (.inl h)
   have q8:(k==8)=false:=by simpa using fun h=>h6 (.inr (.inl h))
   have q9:(k==9)=false:=by simpa using fun h=>h6 (.inr (.inr h))
   go_wp2
   all_goals
    go_ret;exact⟨by simp[h1,h4,h6],rfl⟩
end
section
attribute [local irreducible] xL
structure xg (w:World):Prop where
 big:21 < w.heap.size
 answer0:w.cell? ⟨21,0,none⟩=some (.string ⟨#[111,107]⟩)
 answer1:w.cell? ⟨21,1,none⟩=some (.string ⟨#[110,111,110,101]⟩)
 answer2:w.cell? ⟨21,2,none⟩=some (.string ⟨#[118,97,108]⟩)
 object0:w.cell? ⟨18,0,none⟩=some (.string ⟨#[114,101,103,105,115,116,101,114]⟩)
 object1:w.cell? ⟨18,1,none⟩=some (.string ⟨#[99,111,117,110,116,101,114]⟩)
 object2:w.cell? ⟨18,2,none⟩=some (.string ⟨#[113,117,101,117,101]⟩)
 object3:w.cell? ⟨18,3,none⟩=some (.string ⟨#[109,97,112]⟩)
theorem xg.below {w w':World} (h:xg w) (hb:Below w.heap.size w w'):xg w':=
 have h1:=h.big
 ⟨by have:=hb.size;omega,qp hb (by omega) h.answer0,qp hb (by omega) h.answer1,qp hb (by omega) h.answer2,qp hb (by omega) h.object0,qp hb (by omega) h.object1,qp hb (by omega) h.object2,qp hb (by omega) h.object3⟩
theorem Rn {w:World} {i m:Int} (h:i < 0\/m<=i) {f b:Nat}:Calls Tryz.prog 207 #[.int .i64 i,.int .i64 m,.func (.func f) #[] #[.pointer (some ⟨b,0,none⟩)]] w fun e w'=>e=.returned (.tuple #[.string ⟨#[]⟩,.int .i64 m])/\w'=w:=by
 by_cases h0:i < 0
 ·have q1:decide (i < 0)=true:=by simpa using h0
  go_enter Tryz.func207,Tryz.ntmps207;go_wp2
  go_ret2
  exact⟨rfl,rfl⟩
 ·have hm:m<=i:=by omega
  have q1:decide (i < 0)=false:=by simpa using h0
  have q2:decide (i>=m)=true:=by simpa using hm
  have q3:decide (m<=i)=true:=by simpa using hm
  go_enter Tryz.func207,Tryz.ntmps207;go_wp2
  go_ret2
  exact⟨rfl,rfl⟩
def XG (r:Int):ByteArray:=if r=1 then⟨#[111,107]⟩ else if r=2 then⟨#[110,111,110,101]⟩ else if r=3 then⟨#[118,97,108]⟩ else⟨#[]⟩
theorem QD (r:Int):(XG r).toList.isEmpty=!(decide (1<=r/\r<=3)):=by
 unfold XG;by_cases h0:r=1
 ·subst h0;simp[zr]
 rw[if_neg h0];by_cases h1:r=2
 ·subst h1;simp[zr]
 rw[if_neg h1];by_cases h2:r=3
 ·subst h2;simp[zr]
 rw[if_neg h2];rw[zr];simp;omega
theorem Vi {w:World} {i:Int} (h:i < 0\/3<=i):Calls Tryz.prog 178 #[.int .i64 4,.int .i64 i] w fun e w'=>e=.returned (.tuple #[.string ⟨#[]⟩,.int .i64 3])/\Below w.heap.size w w':=by
 have b0:Below w.heap.size w (w.alloc (.cells #[.int .i64 i] 3)):=(Below.refl _ w).alloc (Nat.le_refl _) _;have HC:=qd (fun b=>Rn (w:=w.alloc (.cells #[.int .i64 i] 3)) (m:=3) h (f:=211) (b:=b));have B0:=qd b0;clear b0;go_enter Tryz.func178,Tryz.ntmps178;go_wp2_with fail;refine(HC.o _).mono ?_;rintro e w1 ⟨rfl,rfl⟩;go_wp2
 go_ret2
 exact⟨rfl,B0.o⟩
theorem Wx {w:World} (hW:xg w) (r:Int) (hr:dI r):Calls Tryz.prog 130 #[.int .i64 4,.int .i64 r] w fun e w'=>e=.returned (.string (XG r))/\Below w.heap.size w w':=by
 have hr2:-9223372036854775808<=r/\r<=9223372036854775807:=by simpa[dI,Lit.wf,IntKind.min,IntKind.max,IntKind.signed,IntKind.bits] using hr
 by_cases hin:1<=r/\r<=3
 ·have hc:r=1\/r=2\/r=3:=by omega
  rcases hc with rfl|rfl|rfl
  ·exact ZR (i:=0) (by omega) hW.answer0 (by have:=hW.big;omega)
  ·exact ZR (i:=1) (by omega) hW.answer1 (by have:=hW.big;omega)
  ·exact ZR (i:=2) (by omega) hW.answer2 (by have:=hW.big;omega)
 ·have hS:XG r=⟨#[]⟩:=by
   unfold XG;rw[if_neg (by omega),if_neg (by omega),if_neg (by omega)]
  rw[hS];obtain⟨j,hj⟩:∃j,j=max r 0 - 1:=⟨_,rfl⟩
  have q2:wrap64 (max r 0 - 1)=j:=by rw[IntWalk.wrap64_in _ (by omega),hj]
  have hmx:∀(ts:Array TypeId) (ty:TypeId) (X:World),(Builtin.max_ ts ty #[.int .i64 r,.int .i64 (0:Int)]).run Tryz.prog X=.ok (.int .i64 (max r 0)) X:=fun ts ty X=>by
   rw[run_max_int2];congr 2;split <;> omega
  have HC:=qd (Vi (w:=w) (i:=j) (by omega));clear hj hin;generalize hmr:max r 0=mr at *;clear hmr;go_enter Tryz.func130,Tryz.ntmps130;go_wp2_with fail;refine(HC.o).mono ?_;rintro e w1 ⟨rfl,hb⟩;have HB:=qd hb;clear hb;go_wp2;go_ret;exact⟨rfl,HB.o⟩
def Xp (r:Int):ByteArray:=if r=1 then⟨#[114,101,103,105,115,116,101,114]⟩ else if r=2 then⟨#[99,111,117,110,116,101,114]⟩ else if r=3 then⟨#[113,117,101,117,101]⟩ else if r=4 then⟨#[109,97,112]⟩ else⟨#[]⟩
theorem Ju (r:Int):(Xp r).toList.isEmpty=!(decide (1<=r/\r<=4)):=by
 unfold Xp;by_cases h0:r=1
 ·subst h0;simp[zr]
 rw[if_neg h0];by_cases h1:r=2
 ·subst h1;simp[zr]
 rw[if_neg h1];by_cases h2:r=3
 ·subst h2;simp[zr]
 rw[if_neg h2];by_cases h3:r=4
 ·subst h3;simp[zr]
 rw[if_neg h3];rw[zr];simp;omega
theorem Vh {w:World} {i:Int} (h:i < 0\/4<=i):Calls Tryz.prog 178 #[.int .i64 1,.int .i64 i] w fun e w'=>e=.returned (.tuple #[.string ⟨#[]⟩,.int .i64 4])/\Below w.heap.size w w':=by
 have b0:Below w.heap.size w (w.alloc (.cells #[.int .i64 i] 3)):=(Below.refl _ w).alloc (Nat.le_refl _) _;have HC:=qd (fun b=>Rn (w:=w.alloc (.cells #[.int .i64 i] 3)) (m:=4) h (f:=208) (b:=b));have B0:=qd b0;clear b0;go_enter Tryz.func178,Tryz.ntmps178;go_wp2_with fail;refine(HC.o _).mono ?_;rintro e w1 ⟨rfl,rfl⟩;go_wp2
 go_ret2
 exact⟨rfl,B0.o⟩
theorem g_object {w:World} (hW:xg w) (r:Int) (hr:dI r):Calls Tryz.prog 130 #[.int .i64 1,.int .i64 r] w fun e w'=>e=.returned (.string (Xp r))/\Below w.heap.size w w':=by
 have hr2:-9223372036854775808<=r/\r<=9223372036854775807:=by simpa[dI,Lit.wf,IntKind.min,IntKind.max,IntKind.signed,IntKind.bits] using hr
 by_cases hin:1<=r/\r<=4
 ·have hc:r=1\/r=2\/r=3\/r=4:=by omega
  rcases hc with rfl|rfl|rfl|rfl
  ·exact XE (i:=0) (by omega) hW.object0 (by have:=hW.big;omega)
  ·exact XE (i:=1) (by omega) hW.object1 (by have:=hW.big;omega)
  ·exact XE (i:=2) (by omega) hW.object2 (by have:=hW.big;omega)
  ·exact XE (i:=3) (by omega) hW.object3 (by have:=hW.big;omega)
 ·have hS:Xp r=⟨#[]⟩:=by
   unfold Xp;rw[if_neg (by omega),if_neg (by omega),if_neg (by omega),if_neg (by omega)]
  rw[hS];obtain⟨j,hj⟩:∃j,j=max r 0 - 1:=⟨_,rfl⟩
  have q2:wrap64 (max r 0 - 1)=j:=by rw[IntWalk.wrap64_in _ (by omega),hj]
  have hmx:∀(ts:Array TypeId) (ty:TypeId) (X:World),(Builtin.max_ ts ty #[.int .i64 r,.int .i64 (0:Int)]).run Tryz.prog X=.ok (.int .i64 (max r 0)) X:=fun ts ty X=>by
   rw[run_max_int2];congr 2;split <;> omega
  have HC:=qd (Vh (w:=w) (i:=j) (by omega));clear hj hin;generalize hmr:max r 0=mr at *;clear hmr;go_enter Tryz.func130,Tryz.ntmps130;go_wp2_with fail;refine(HC.o).mono ?_;rintro e w1 ⟨rfl,hb⟩;have HB:=qd hb;clear hb;go_wp2;go_ret;exact⟨rfl,HB.o⟩
end
