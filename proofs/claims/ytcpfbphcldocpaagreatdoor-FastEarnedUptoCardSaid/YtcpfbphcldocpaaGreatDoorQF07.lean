/- Parts of the proof, merged by program out of 6 texts (EvC, Raw, EvE, EvF, EvG, EvH): the first: Events: the fields of a call, of a return. Conditions: those of each theorem, as typed. -/
import Derived.Test.YtcpfbphcldocpaaGreatDoorQF06
import Derived.Test.YtcpfbphcldocpaaGreatDoorQF05
import Derived.Laws.EntriesVeiled
set_option linter.unusedVariables false
set_option linter.unusedSimpArgs false
set_option linter.unusedSectionVars false
set_option maxRecDepth 100000
set_option maxHeartbeats 4000000
namespace Go.Proofs.YtcpfbphcldocpaaGreatDoor
open Go.MapKept Go.Maps Go.RowKit
section
attribute [local irreducible] wpL
theorem fd_one (x:Fd):∀u ∈ x.cells,u.oneCell'=true:=by intro u hu;simp[Fd.cells] at hu;rcases hu with rfl|rfl|rfl|rfl <;> rfl
def LstAt (w:World) (b:Nat):Prop:=w.heap[b]?=some (.cells #[.func (.func 179) #[] #[]] 305 (0,0))
def retFds (r:Int):List Fd:=if r=3 then[fdTx,fdRe,fdVa] else[fdTx,fdRe]
section
variable {w:World}
theorem e_retA (x:Ev) (hop:x.ret=1) (i:Nat) (hi:i≤100) (b:Nat) (h:LstAt w b):
  Calls Tryz.prog 188 #[evV x,.int .i64 i,.pointer (some ⟨b,0,none⟩)] w (FdRet (retFds x.ret) i w):=by
 obtain⟨xk,xx,xh,xj,xo,xy,xv,xr⟩:=x
 simp only at hop
 subst hop
 have q13:((1:Int)==3)=false:=rfl
 have h0:=row_cell h 0
 have lb:=row_lt h
 have HL:=hid h
 clear h
 go_enter Tryz.func188,Tryz.ntmps188
 go_wp2_with fail
 have bA:Below w.heap.size w ((w.alloc (.cells #[.int .i64 xk,.int .i64 xx,.int .i64 xh,.int .i64 xj,.int .i64 xo,.int .i64 xy,.int .i64 xv,.int .i64 1] 69)).alloc (.cells #[.nilFunc,.int .i64 0,.int .i64 0,.int .i64 0] 260)):=((Below.refl w.heap.size w).alloc (Nat.le_refl _) _).alloc (by simp) _
 have rA:=row_old (o:=.cells #[.nilFunc,.int .i64 0,.int .i64 0,.int .i64 0] 260) (row_new w (.cells #[.int .i64 xk,.int .i64 xx,.int .i64 xh,.int .i64 xj,.int .i64 xo,.int .i64 xy,.int .i64 xv,.int .i64 1] 69))
 have rB:=row_new' (w:=w.alloc (.cells #[.int .i64 xk,.int .i64 xx,.int .i64 xh,.int .i64 xj,.int .i64 xo,.int .i64 xy,.int .i64 xv,.int .i64 1] 69)) (o:=.cells #[.nilFunc,.int .i64 0,.int .i64 0,.int .i64 0] 260) (g:=w.heap.size+1) (by simp)
 have zA:((w.alloc (.cells #[.int .i64 xk,.int .i64 xx,.int .i64 xh,.int .i64 xj,.int .i64 xo,.int .i64 xy,.int .i64 xv,.int .i64 1] 69)).alloc (.cells #[.nilFunc,.int .i64 0,.int .i64 0,.int .i64 0] 260)).heap.size=w.heap.size+2:=by simp
 generalize (w.alloc (.cells #[.int .i64 xk,.int .i64 xx,.int .i64 xh,.int .i64 xj,.int .i64 xo,.int .i64 xy,.int .i64 xv,.int .i64 1] 69)).alloc (.cells #[.nilFunc,.int .i64 0,.int .i64 0,.int .i64 0] 260)=X at *
 refine(e_tx X).mono ?_
 rintro e X1 ⟨rfl,b1⟩
 have z1:=b1.size
 have b1:=bA.trans (b1.mono (by omega))
 have rA:=row_below rA ‹Below X.heap.size X X1› (by omega)
 have rB:=row_below rB ‹Below X.heap.size X X1› (by omega)
 go_wp2_with fail
 refine(e_ret X1).mono ?_
 rintro e X3 ⟨rfl,b3⟩
 have z3:=b3.size
 have rA:=row_below rA b3 (by omega)
 have rB:=row_below rB b3 (by omega)
 have b3:=b1.trans (b3.mono (by omega))
 have x4:=row_cell rA 7
 have lA:=row_lt rA
 have lB:=row_lt rB
 have RA:=hid rA
 have RB:=hid rB
 have B3:=hid b3
 clear b1 b3 bA rA rB
 go_wp2_with fail
 have o4:OwnF Fd.cells 260 4 (X3.alloc (.cells #[.func (.func fdTx.f) #[] #[],.int .i64 fdTx.tb,.int .i64 fdTx.lo,.int .i64 fdTx.hi,.func (.func fdRe.f) #[] #[],.int .i64 fdRe.tb,.int .i64 fdRe.lo,.int .i64 fdRe.hi] 260)) w.heap.size (.slice (some ⟨X3.heap.size,0,none⟩) 2 2) [fdTx,fdRe]:=OwnF.lit (f:=Fd.cells) X3 w.heap.size (by omega) [fdTx,fdRe] Fd.len (by decide)
 have b4:Below w.heap.size w (X3.alloc (.cells #[.func (.func fdTx.f) #[] #[],.int .i64 fdTx.tb,.int .i64 fdTx.lo,.int .i64 fdTx.hi,.func (.func fdRe.f) #[] #[],.int .i64 fdRe.tb,.int .i64 fdRe.lo,.int .i64 fdRe.hi] 260)):=B3.out.alloc (by omega) _
 have rA:=row_old (o:=.cells #[.func (.func fdTx.f) #[] #[],.int .i64 fdTx.tb,.int .i64 fdTx.lo,.int .i64 fdTx.hi,.func (.func fdRe.f) #[] #[],.int .i64 fdRe.tb,.int .i64 fdRe.lo,.int .i64 fdRe.hi] 260) RA.out
 have rB:=row_old (o:=.cells #[.func (.func fdTx.f) #[] #[],.int .i64 fdTx.tb,.int .i64 fdTx.lo,.int .i64 fdTx.hi,.func (.func fdRe.f) #[] #[],.int .i64 fdRe.tb,.int .i64 fdRe.lo,.int .i64 fdRe.hi] 260) RB.out
 have z4:(X3.alloc (.cells #[.func (.func fdTx.f) #[] #[],.int .i64 fdTx.tb,.int .i64 fdTx.lo,.int .i64 fdTx.hi,.func (.func fdRe.f) #[] #[],.int .i64 fdRe.tb,.int .i64 fdRe.lo,.int .i64 fdRe.hi] 260)).heap.size=X3.heap.size+1:=by simp
 generalize X3.alloc (.cells #[.func (.func fdTx.f) #[] #[],.int .i64 fdTx.tb,.int .i64 fdTx.lo,.int .i64 fdTx.hi,.func (.func fdRe.f) #[] #[],.int .i64 fdRe.tb,.int .i64 fdRe.lo,.int .i64 fdRe.hi] 260)=X4 at *
 obtain⟨X5,rfl⟩:∃X5,X5=X4:=⟨_,rfl⟩
 have x4:=row_cell rA 7
 have lA:=row_lt rA
 have lB:=row_lt rB
 have RA4:=hid rA
 have RB4:=hid rB
 have B4:=hid b4
 have O4:=hid o4
 have Z4:=hid z4
 have z4':X3.heap.size+1≤X5.heap.size:=by omega
 have hX3:w.heap.size+2≤X3.heap.size:=by omega
 have hw5:w.heap.size+3≤X5.heap.size:=by omega
 clear b4 rA rB o4 B3 RA RB z4 zA
 obtain⟨X6,rfl⟩:∃X6,X6=X5:=⟨_,rfl⟩
 ·have q13:((1:Int)==3)=false:=rfl
  obtain⟨Y,rfl⟩:∃Y,Y=X6:=⟨_,rfl⟩
  have BY:=hid B4.out
  have RAY:=hid RA4.out
  have RBY:=hid RB4.out
  have OY:=hid O4.out
  clear B4 RA4 RB4 O4 x4 lA lB
  have hfd:retFds 1=[fdTx,fdRe]:=rfl
  rw[hfd]
  unfold FdRet
  generalize hr:([fdTx,fdRe]:List Fd)[i]?=r
  have HR:=hid hr
  clear hr
  have y0:Y.cell? ⟨b,0,none⟩=some (.func (.func 179) #[] #[]):=row_cell (row_below HL.out BY.out lb) 0
  have zY:=BY.out.size
  have lby:b < Y.heap.size:=by omega
  have yy:=row_cell RAY.out
  have yy0:=yy 0
  have yy1:=yy 1
  have yy2:=yy 2
  have yy3:=yy 3
  have yy4:=yy 4
  have yy5:=yy 5
  have yy6:=yy 6
  have yy7:=yy 7
  clear yy
  have ly:=row_lt RAY.out
  have lz:=row_lt RBY.out
  refine wp_rN (Y.heap.size) [1,0,3,1,0,3,0,0,2,0] (.fin [0,1,3,4,2,5,6,7,8,9]) (by kernel_rfl) ?_
  simp only[wpT,selX,guardAt,sD,sE,sF,sG]
  repeat first|(refine wpL_p fun K hK=>?_;go_simp;refine hK _ _ ?_;clear hK K)|(apply wpL_s;(intro w2 hw2;have hk1:=hw2.cell;have hk3:=hw2.1;clear hw2;go_simp;with_reducible rfl);simp only[Act.put,sA,sB,sC])
  refine wpL_k (fun K hK=>?_)
  go_simp
  refine(e_list _ ⟨_,_,_,rfl⟩ _).mono ?_
  rintro e Z ⟨rfl,hZ⟩
  have bZ:Below Y.heap.size Y Z:=by rw[hZ];exact(Below.refl _ Y).drew.alloc (Nat.le_refl _) _
  have rZ:Z.heap[Y.heap.size]?=some (.cells #[.slice (some ⟨X3.heap.size,0,none⟩) 2 2] 304 (0,0)):=by rw[hZ];exact row_new' (w:=Y.drew) rfl
  refine hK _ _ (RN.KeepsN.of_below (by rw[hZ];exact(Below.refl _ Y.drew).alloc (Nat.le_refl _) _)) ?_
  clear hK K hZ
  have zZ:=bZ.size
  refine wpL_k (fun K hK=>?_)
  go_simp
  refine(e_next ⟨xk,xx,xh,xj,xo,xy,xv,1⟩ i hi _ _ ([fdTx,fdRe]) rZ ((OwnF.below OY.out bZ).sl)).mono ?_
  rintro e V ⟨rfl,bV⟩
  rw[HR.out]
  cases r with
  |none=>
   refine hK _ _ (RN.KeepsN.of_below (bV.mono zZ)) ?_
   clear hK K
   have bW:Below Y.heap.size Y V:=bZ.trans (bV.mono zZ)
   have rV:=row_below RBY.out bW lz
   have v0:=row_cell rV 0
   have v1:=row_cell rV 1
   have v2:=row_cell rV 2
   have v3:=row_cell rV 3
   have vf:∀j,V.frozen? ⟨w.heap.size+1,j,none⟩=false:=fun j=>row_free rV j
   have lV:=row_lt rV
   have BV:=hid (BY.out.trans (bW.mono (by omega)))
   have RV:=hid rV
   clear bW rV rZ bZ bV y0 yy0 yy1 yy2 yy3 yy4 yy5 yy6 yy7
   repeat (refine wpL_p fun K hK=>?_;go_simp;refine hK _ _ ?_;clear hK K)
   refine wpL_e (fun K hK=>?_)
   go_simp
   refine hK _ _ ?_
   clear hK K
   repeat first|(refine wpL_p fun K hK=>?_;go_simp;refine hK _ _ ?_;clear hK K)|refine wpL_nil ?_
   have rF:=row_set (row_set (row_set (row_set RV.out 0 .nilFunc) 1 (.int .i64 0)) 2 (.int .i64 0)) 3 (.int .i64 0)
   have f0:=row_cell rF 0
   have f1:=row_cell rF 1
   have f2:=row_cell rF 2
   have f3:=row_cell rF 3
   have bF:=(((BV.out.setCell (p:=⟨w.heap.size+1,0,none⟩) (by show w.heap.size≤w.heap.size+1;omega) .nilFunc).setCell (p:=⟨w.heap.size+1,1,none⟩) (by show w.heap.size≤w.heap.size+1;omega) (.int .i64 0)).setCell (p:=⟨w.heap.size+1,2,none⟩) (by show w.heap.size≤w.heap.size+1;omega) (.int .i64 0)).setCell (p:=⟨w.heap.size+1,3,none⟩) (by show w.heap.size≤w.heap.size+1;omega) (.int .i64 0)
   generalize (((V.setCell ⟨w.heap.size+1,0,none⟩ .nilFunc).setCell ⟨w.heap.size+1,1,none⟩ (.int .i64 0)).setCell ⟨w.heap.size+1,2,none⟩ (.int .i64 0)).setCell ⟨w.heap.size+1,3,none⟩ (.int .i64 0)=U at *
   simp at f0 f1 f2 f3
   have BF:=hid bF
   clear bF rF v0 v1 v2 v3 vf
   go_wp2
   refine bodyPost_ret (v:=.tuple #[fdZ,.bool false]) (by simp[results,Tryz.results188,go_sem,f0,f1,f2,f3]) rfl ⟨by first|rfl|(rw[show retFds 1=[fdTx,fdRe] from rfl,HR.out]),BF.out⟩
  |some y=>
   refine hK _ _ (RN.KeepsN.of_below (bV.mono zZ)) ?_
   clear hK K
   have bW:Below Y.heap.size Y V:=bZ.trans (bV.mono zZ)
   have rV:=row_below RBY.out bW lz
   have v0:=row_cell rV 0
   have v1:=row_cell rV 1
   have v2:=row_cell rV 2
   have v3:=row_cell rV 3
   have vf:∀j,V.frozen? ⟨w.heap.size+1,j,none⟩=false:=fun j=>row_free rV j
   have lV:=row_lt rV
   have BV:=hid (BY.out.trans (bW.mono (by omega)))
   have RV:=hid rV
   clear bW rV rZ bZ bV y0 yy0 yy1 yy2 yy3 yy4 yy5 yy6 yy7
   repeat (refine wpL_p fun K hK=>?_;go_simp;refine hK _ _ ?_;clear hK K)
   refine wpL_e (fun K hK=>?_)
   go_simp
   refine hK _ _ ?_
   clear hK K
   repeat first|(refine wpL_p fun K hK=>?_;go_simp;refine hK _ _ ?_;clear hK K)|refine wpL_nil ?_
   have rF:=row_set (row_set (row_set (row_set RV.out 0 (.func (.func y.f) #[] #[])) 1 (.int .i64 y.tb)) 2 (.int .i64 y.lo)) 3 (.int .i64 y.hi)
   have f0:=row_cell rF 0
   have f1:=row_cell rF 1
   have f2:=row_cell rF 2
   have f3:=row_cell rF 3
   have bF:=(((BV.out.setCell (p:=⟨w.heap.size+1,0,none⟩) (by show w.heap.size≤w.heap.size+1;omega) (.func (.func y.f) #[] #[])).setCell (p:=⟨w.heap.size+1,1,none⟩) (by show w.heap.size≤w.heap.size+1;omega) (.int .i64 y.tb)).setCell (p:=⟨w.heap.size+1,2,none⟩) (by show w.heap.size≤w.heap.size+1;omega) (.int .i64 y.lo)).setCell (p:=⟨w.heap.size+1,3,none⟩) (by show w.heap.size≤w.heap.size+1;omega) (.int .i64 y.hi)
   generalize (((V.setCell ⟨w.heap.size+1,0,none⟩ (.func (.func y.f) #[] #[])).setCell ⟨w.heap.size+1,1,none⟩ (.int .i64 y.tb)).setCell ⟨w.heap.size+1,2,none⟩ (.int .i64 y.lo)).setCell ⟨w.heap.size+1,3,none⟩ (.int .i64 y.hi)=U at *
   simp at f0 f1 f2 f3
   have BF:=hid bF
   clear bF rF v0 v1 v2 v3 vf
   go_wp2
   refine bodyPost_ret (v:=.tuple #[y.val,.bool true]) (by simp[results,Tryz.results188,go_sem,f0,f1,f2,f3]) rfl ⟨by first|rfl|(rw[show retFds 1=[fdTx,fdRe] from rfl,HR.out]),BF.out⟩
theorem e_retB (x:Ev) (hop:x.ret=3) (i:Nat) (hi:i≤100) (b:Nat) (h:LstAt w b):
  Calls Tryz.prog 188 #[evV x,.int .i64 i,.pointer (some ⟨b,0,none⟩)] w (FdRet (retFds x.ret) i w):=by
 obtain⟨xk,xx,xh,xj,xo,xy,xv,xr⟩:=x
 simp only at hop
 subst hop
 have q13:((3:Int)==3)=true:=rfl
 have h0:=row_cell h 0
 have lb:=row_lt h
 have HL:=hid h
 clear h
 go_enter Tryz.func188,Tryz.ntmps188
 go_wp2_with fail
 have bA:Below w.heap.size w ((w.alloc (.cells #[.int .i64 xk,.int .i64 xx,.int .i64 xh,.int .i64 xj,.int .i64 xo,.int .i64 xy,.int .i64 xv,.int .i64 3] 69)).alloc (.cells #[.nilFunc,.int .i64 0,.int .i64 0,.int .i64 0] 260)):=((Below.refl w.heap.size w).alloc (Nat.le_refl _) _).alloc (by simp) _
 have rA:=row_old (o:=.cells #[.nilFunc,.int .i64 0,.int .i64 0,.int .i64 0] 260) (row_new w (.cells #[.int .i64 xk,.int .i64 xx,.int .i64 xh,.int .i64 xj,.int .i64 xo,.int .i64 xy,.int .i64 xv,.int .i64 3] 69))
 have rB:=row_new' (w:=w.alloc (.cells #[.int .i64 xk,.int .i64 xx,.int .i64 xh,.int .i64 xj,.int .i64 xo,.int .i64 xy,.int .i64 xv,.int .i64 3] 69)) (o:=.cells #[.nilFunc,.int .i64 0,.int .i64 0,.int .i64 0] 260) (g:=w.heap.size+1) (by simp)
 have zA:((w.alloc (.cells #[.int .i64 xk,.int .i64 xx,.int .i64 xh,.int .i64 xj,.int .i64 xo,.int .i64 xy,.int .i64 xv,.int .i64 3] 69)).alloc (.cells #[.nilFunc,.int .i64 0,.int .i64 0,.int .i64 0] 260)).heap.size=w.heap.size+2:=by simp
 generalize (w.alloc (.cells #[.int .i64 xk,.int .i64 xx,.int .i64 xh,.int .i64 xj,.int .i64 xo,.int .i64 xy,.int .i64 xv,.int .i64 3] 69)).alloc (.cells #[.nilFunc,.int .i64 0,.int .i64 0,.int .i64 0] 260)=X at *
 refine(e_tx X).mono ?_
 rintro e X1 ⟨rfl,b1⟩
 have z1:=b1.size
 have b1:=bA.trans (b1.mono (by omega))
 have rA:=row_below rA ‹Below X.heap.size X X1› (by omega)
 have rB:=row_below rB ‹Below X.heap.size X X1› (by omega)
 go_wp2_with fail
 refine(e_ret X1).mono ?_
 rintro e X3 ⟨rfl,b3⟩
 have z3:=b3.size
 have rA:=row_below rA b3 (by omega)
 have rB:=row_below rB b3 (by omega)
 have b3:=b1.trans (b3.mono (by omega))
 have x4:=row_cell rA 7
 have lA:=row_lt rA
 have lB:=row_lt rB
 have RA:=hid rA
 have RB:=hid rB
 have B3:=hid b3
 clear b1 b3 bA rA rB
 go_wp2_with fail
 have o4:OwnF Fd.cells 260 4 (X3.alloc (.cells #[.func (.func fdTx.f) #[] #[],.int .i64 fdTx.tb,.int .i64 fdTx.lo,.int .i64 fdTx.hi,.func (.func fdRe.f) #[] #[],.int .i64 fdRe.tb,.int .i64 fdRe.lo,.int .i64 fdRe.hi] 260)) w.heap.size (.slice (some ⟨X3.heap.size,0,none⟩) 2 2) [fdTx,fdRe]:=OwnF.lit (f:=Fd.cells) X3 w.heap.size (by omega) [fdTx,fdRe] Fd.len (by decide)
 have b4:Below w.heap.size w (X3.alloc (.cells #[.func (.func fdTx.f) #[] #[],.int .i64 fdTx.tb,.int .i64 fdTx.lo,.int .i64 fdTx.hi,.func (.func fdRe.f) #[] #[],.int .i64 fdRe.tb,.int .i64 fdRe.lo,.int .i64 fdRe.hi] 260)):=B3.out.alloc (by omega) _
 have rA:=row_old (o:=.cells #[.func (.func fdTx.f) #[] #[],.int .i64 fdTx.tb,.int .i64 fdTx.lo,.int .i64 fdTx.hi,.func (.func fdRe.f) #[] #[],.int .i64 fdRe.tb,.int .i64 fdRe.lo,.int .i64 fdRe.hi] 260) RA.out
 have rB:=row_old (o:=.cells #[.func (.func fdTx.f) #[] #[],.int .i64 fdTx.tb,.int .i64 fdTx.lo,.int .i64 fdTx.hi,.func (.func fdRe.f) #[] #[],.int .i64 fdRe.tb,.int .i64 fdRe.lo,.int .i64 fdRe.hi] 260) RB.out
 have z4:(X3.alloc (.cells #[.func (.func fdTx.f) #[] #[],.int .i64 fdTx.tb,.int .i64 fdTx.lo,.int .i64 fdTx.hi,.func (.func fdRe.f) #[] #[],.int .i64 fdRe.tb,.int .i64 fdRe.lo,.int .i64 fdRe.hi] 260)).heap.size=X3.heap.size+1:=by simp
 generalize X3.alloc (.cells #[.func (.func fdTx.f) #[] #[],.int .i64 fdTx.tb,.int .i64 fdTx.lo,.int .i64 fdTx.hi,.func (.func fdRe.f) #[] #[],.int .i64 fdRe.tb,.int .i64 fdRe.lo,.int .i64 fdRe.hi] 260)=X4 at *
 obtain⟨X5,rfl⟩:∃X5,X5=X4:=⟨_,rfl⟩
 have x4:=row_cell rA 7
 have lA:=row_lt rA
 have lB:=row_lt rB
 have RA4:=hid rA
 have RB4:=hid rB
 have B4:=hid b4
 have O4:=hid o4
 have Z4:=hid z4
 have z4':X3.heap.size+1≤X5.heap.size:=by omega
 have hX3:w.heap.size+2≤X3.heap.size:=by omega
 have hw5:w.heap.size+3≤X5.heap.size:=by omega
 clear b4 rA rB o4 B3 RA RB z4 zA
 obtain⟨X6,rfl⟩:∃X6,X6=X5:=⟨_,rfl⟩
 ·have q13:((3:Int)==3)=true:=rfl
  refine(e_val X6).mono ?_
  rintro e X7 ⟨rfl,b7⟩
  have z7:=b7.size
  have B7:=hid (B4.out.trans (b7.mono (by omega)))
  have RA7:=hid (row_below RA4.out b7 lA)
  have RB7:=hid (row_below RB4.out b7 lB)
  have O7:=hid (OwnF.below O4.out b7)
  clear b7 x4
  go_wp2_with (at_builtin;refine wpList_appF rfl _ _ _ rfl _ 32 Tryz.underlying304 infoFd rfl O7.out fdVa (by first|omega|(simp <;> omega)) (by rfl) (by rfl) (by first|rfl|simp) rfl (fd_one _) (by first|omega|(simp only[List.length_append,List.length_cons,List.length_nil,List.length_replicate];omega)) (by first|omega|(simp only[List.length_append,List.length_cons,List.length_nil,List.length_replicate];omega)) ?_;refine Stop.halt ?_)
  refine Stop.go ?_
  intro g8 c8 Y o8 G8
  have b8:=B7.out.trans (G8.below (by omega) fun q h=>(O7.out.lt q h).1)
  have BY:=hid b8
  have RAY:=hid (row_grw RA7.out G8 (OwnF.neT O7.out RA7.out (by decide)))
  have RBY:=hid (row_grw RB7.out G8 (by simp only[Value.ownBlock,ne_eq,Option.some.injEq];omega))
  have OY:=hid o8
  have hzY:w.heap.size+3≤Y.heap.size:=by have:=G8.size;omega
  clear B4 RA4 RB4 O4 lA lB b8 B7 RA7 RB7 O7 o8 G8
  go_wp2_with fail
  have hfd:retFds 3=[fdTx,fdRe,fdVa]:=rfl
  rw[hfd]
  unfold FdRet
  generalize hr:([fdTx,fdRe,fdVa]:List Fd)[i]?=r
  have HR:=hid hr
  clear hr
  have y0:Y.cell? ⟨b,0,none⟩=some (.func (.func 179) #[] #[]):=row_cell (row_below HL.out BY.out lb) 0
  have zY:=BY.out.size
  have lby:b < Y.heap.size:=by omega
  have yy:=row_cell RAY.out
  have yy0:=yy 0
  have yy1:=yy 1
  have yy2:=yy 2
  have yy3:=yy 3
  have yy4:=yy 4
  have yy5:=yy 5
  have yy6:=yy 6
  have yy7:=yy 7
  clear yy
  have ly:=row_lt RAY.out
  have lz:=row_lt RBY.out
  refine wp_rN (Y.heap.size) [1,0,3,1,0,3,0,0,2,0] (.fin [0,1,3,4,2,5,6,7,8,9]) (by kernel_rfl) ?_
  simp only[wpT,selX,guardAt,sD,sE,sF,sG]
  repeat first|(refine wpL_p fun K hK=>?_;go_simp;refine hK _ _ ?_;clear hK K)|(apply wpL_s;(intro w2 hw2;have hk1:=hw2.cell;have hk3:=hw2.1;clear hw2;go_simp;with_reducible rfl);simp only[Act.put,sA,sB,sC])
  refine wpL_k (fun K hK=>?_)
  go_simp
  refine(e_list _ ⟨_,_,_,rfl⟩ _).mono ?_
  rintro e Z ⟨rfl,hZ⟩
  have bZ:Below Y.heap.size Y Z:=by rw[hZ];exact(Below.refl _ Y).drew.alloc (Nat.le_refl _) _
  have rZ:Z.heap[Y.heap.size]?=some (.cells #[.slice (some ⟨g8,0,none⟩) 3 c8] 304 (0,0)):=by rw[hZ];exact row_new' (w:=Y.drew) rfl
  refine hK _ _ (RN.KeepsN.of_below (by rw[hZ];exact(Below.refl _ Y.drew).alloc (Nat.le_refl _) _)) ?_
  clear hK K hZ
  have zZ:=bZ.size
  refine wpL_k (fun K hK=>?_)
  go_simp
  refine(e_next ⟨xk,xx,xh,xj,xo,xy,xv,3⟩ i hi _ _ ([fdTx,fdRe,fdVa]) rZ ((OwnF.below OY.out bZ).sl)).mono ?_
  rintro e V ⟨rfl,bV⟩
  rw[HR.out]
  cases r with
  |none=>
   refine hK _ _ (RN.KeepsN.of_below (bV.mono zZ)) ?_
   clear hK K
   have bW:Below Y.heap.size Y V:=bZ.trans (bV.mono zZ)
   have rV:=row_below RBY.out bW lz
   have v0:=row_cell rV 0
   have v1:=row_cell rV 1
   have v2:=row_cell rV 2
   have v3:=row_cell rV 3
   have vf:∀j,V.frozen? ⟨w.heap.size+1,j,none⟩=false:=fun j=>row_free rV j
   have lV:=row_lt rV
   have BV:=hid (BY.out.trans (bW.mono (by omega)))
   have RV:=hid rV
   clear bW rV rZ bZ bV y0 yy0 yy1 yy2 yy3 yy4 yy5 yy6 yy7
   repeat (refine wpL_p fun K hK=>?_;go_simp;refine hK _ _ ?_;clear hK K)
   refine wpL_e (fun K hK=>?_)
   go_simp
   refine hK _ _ ?_
   clear hK K
   repeat first|(refine wpL_p fun K hK=>?_;go_simp;refine hK _ _ ?_;clear hK K)|refine wpL_nil ?_
   have rF:=row_set (row_set (row_set (row_set RV.out 0 .nilFunc) 1 (.int .i64 0)) 2 (.int .i64 0)) 3 (.int .i64 0)
   have f0:=row_cell rF 0
   have f1:=row_cell rF 1
   have f2:=row_cell rF 2
   have f3:=row_cell rF 3
   have bF:=(((BV.out.setCell (p:=⟨w.heap.size+1,0,none⟩) (by show w.heap.size≤w.heap.size+1;omega) .nilFunc).setCell (p:=⟨w.heap.size+1,1,none⟩) (by show w.heap.size≤w.heap.size+1;omega) (.int .i64 0)).setCell (p:=⟨w.heap.size+1,2,none⟩) (by show w.heap.size≤w.heap.size+1;omega) (.int .i64 0)).setCell (p:=⟨w.heap.size+1,3,none⟩) (by show w.heap.size≤w.heap.size+1;omega) (.int .i64 0)
   generalize (((V.setCell ⟨w.heap.size+1,0,none⟩ .nilFunc).setCell ⟨w.heap.size+1,1,none⟩ (.int .i64 0)).setCell ⟨w.heap.size+1,2,none⟩ (.int .i64 0)).setCell ⟨w.heap.size+1,3,none⟩ (.int .i64 0)=U at *
   simp at f0 f1 f2 f3
   have BF:=hid bF
   clear bF rF v0 v1 v2 v3 vf
   go_wp2
   refine bodyPost_ret (v:=.tuple #[fdZ,.bool false]) (by simp[results,Tryz.results188,go_sem,f0,f1,f2,f3]) rfl ⟨by first|rfl|(rw[show retFds 3=[fdTx,fdRe,fdVa] from rfl,HR.out]),BF.out⟩
  |some y=>
   refine hK _ _ (RN.KeepsN.of_below (bV.mono zZ)) ?_
   clear hK K
   have bW:Below Y.heap.size Y V:=bZ.trans (bV.mono zZ)
   have rV:=row_below RBY.out bW lz
   have v0:=row_cell rV 0
   have v1:=row_cell rV 1
   have v2:=row_cell rV 2
   have v3:=row_cell rV 3
   have vf:∀j,V.frozen? ⟨w.heap.size+1,j,none⟩=false:=fun j=>row_free rV j
   have lV:=row_lt rV
   have BV:=hid (BY.out.trans (bW.mono (by omega)))
   have RV:=hid rV
   clear bW rV rZ bZ bV y0 yy0 yy1 yy2 yy3 yy4 yy5 yy6 yy7
   repeat (refine wpL_p fun K hK=>?_;go_simp;refine hK _ _ ?_;clear hK K)
   refine wpL_e (fun K hK=>?_)
   go_simp
   refine hK _ _ ?_
   clear hK K
   repeat first|(refine wpL_p fun K hK=>?_;go_simp;refine hK _ _ ?_;clear hK K)|refine wpL_nil ?_
   have rF:=row_set (row_set (row_set (row_set RV.out 0 (.func (.func y.f) #[] #[])) 1 (.int .i64 y.tb)) 2 (.int .i64 y.lo)) 3 (.int .i64 y.hi)
   have f0:=row_cell rF 0
   have f1:=row_cell rF 1
   have f2:=row_cell rF 2
   have f3:=row_cell rF 3
   have bF:=(((BV.out.setCell (p:=⟨w.heap.size+1,0,none⟩) (by show w.heap.size≤w.heap.size+1;omega) (.func (.func y.f) #[] #[])).setCell (p:=⟨w.heap.size+1,1,none⟩) (by show w.heap.size≤w.heap.size+1;omega) (.int .i64 y.tb)).setCell (p:=⟨w.heap.size+1,2,none⟩) (by show w.heap.size≤w.heap.size+1;omega) (.int .i64 y.lo)).setCell (p:=⟨w.heap.size+1,3,none⟩) (by show w.heap.size≤w.heap.size+1;omega) (.int .i64 y.hi)
   generalize (((V.setCell ⟨w.heap.size+1,0,none⟩ (.func (.func y.f) #[] #[])).setCell ⟨w.heap.size+1,1,none⟩ (.int .i64 y.tb)).setCell ⟨w.heap.size+1,2,none⟩ (.int .i64 y.lo)).setCell ⟨w.heap.size+1,3,none⟩ (.int .i64 y.hi)=U at *
   simp at f0 f1 f2 f3
   have BF:=hid bF
   clear bF rF v0 v1 v2 v3 vf
   go_wp2
   refine bodyPost_ret (v:=.tuple #[y.val,.bool true]) (by simp[results,Tryz.results188,go_sem,f0,f1,f2,f3]) rfl ⟨by first|rfl|(rw[show retFds 3=[fdTx,fdRe,fdVa] from rfl,HR.out]),BF.out⟩
theorem e_retn (x:Ev) (hop:x.ret=1∨x.ret=3) (i:Nat) (hi:i≤100) (b:Nat) (h:LstAt w b):
  Calls Tryz.prog 188 #[evV x,.int .i64 i,.pointer (some ⟨b,0,none⟩)] w (FdRet (retFds x.ret) i w):=by
 rcases hop with hop|hop
 ·exact e_retA x hop i hi b h
 ·exact e_retB x hop i hi b h
end
end
def Tells (es:Array MapEntry) (M:Int→Option Value):Prop:=∀k v,M k=some v↔∃x ∈ es.toList,x.key=.int .i64 k∧x.val=v
def RawM (w:World) (b:Nat) (M:Int→Option Value):Prop:=
 ∃(es:Array MapEntry) (c:Nat),w.heap[b]?=some (.map es c)∧(∀x ∈ es.toList,∃k:Int,x.key=.int .i64 k)∧Stamped es c∧Tells es M
def RawAt (w:World) (b:Nat) (M:Int→Option Value) (a n:Int):Prop:=
 ∃(es:Array MapEntry) (c:Nat),w.heap[b]?=some (.map es c)∧(∀x ∈ es.toList,∃k:Int,x.key=.int .i64 k)∧Stamped es c∧Tells es M∧∃x ∈ es.toList,x.key=.int .i64 a∧(x.born:Int)=n
def rup (M:Int→Option Value) (a:Int) (v:Option Value):Int→Option Value:=fun k=>if k=a then v else M k
theorem rup_same {M:Int→Option Value} {a:Int} {v:Option Value}:rup M a v a=v:=by simp[rup]
theorem rup_ne {M:Int→Option Value} {a k:Int} {v:Option Value} (h:k≠a):rup M a v k=M k:=by simp[rup,h]
section
variable {P:Program} {K t e:TypeId} {w w':World} {b:Nat} {M:Int→Option Value}
theorem RawM.lt (h:RawM w b M):b < w.heap.size:=by
 obtain⟨es,c,hb,-⟩:=h
 exact(Array.getElem?_eq_some_iff.1 hb).1
theorem RawM.isMap (h:RawM w b M):∃es c,w.heap[b]?=some (.map es c):=let ⟨es,c,hb,_⟩:=h;⟨es,c,hb⟩
theorem RawM.obj (h:RawM w b M) (hw:w'.heap[b]?=w.heap[b]?):RawM w' b M:=by
 obtain⟨es,c,hb,h⟩:=h
 exact⟨es,c,hw.trans hb,h⟩
theorem RawM.below {B:Nat} (h:RawM w b M) (hb:Below B w w') (hlt:b < B):RawM w' b M:=h.obj (hb.block b hlt)
theorem RawM.drew (h:RawM w b M):RawM w.drew b M:=h
theorem RawM.set (h:RawM w b M) {g j:Nat} {v:Value} (hg:b≠g):RawM (w.setCell ⟨g,j,none⟩ v) b M:=h.obj (RowKit.Below.heap_setCell _ _ _ _ hg)
theorem RawM.made (h:w.heap[b]?=some (.map #[] 0)):RawM w b (fun _=>none):=⟨#[],0,h,by simp,stamped_empty 0,by intro k v;simp⟩
theorem RawM.fun {N:Int→Option Value} (h:RawM w b M) (hN:∀k,N k=M k):RawM w b N:=by
 obtain⟨es,c,h1,h2,h3,h4⟩:=h
 exact⟨es,c,h1,h2,h3,fun k v=>by rw[hN];exact h4 k v⟩
theorem RawM.find {es:Array MapEntry} (h2:∀x ∈ es.toList,∃k:Int,x.key=.int .i64 k) (h4:Tells es M) (a:Int):
  (Instr.findNow (.int .i64) (.int .i64 a) es.toList 0=some none∧(∀x ∈ es.toList,x.key≠.int .i64 a)∧M a=none)∨∃j x,Instr.findNow (.int .i64) (.int .i64 a) es.toList 0=some (some (j,x.val))∧es.toList[j]?=some x∧x.key=.int .i64 a∧M a=some x.val:=by
 have hks:∀x ∈ es.toList,IsKey (.int .i64) x.key:=fun x hx=>by
  obtain⟨k,hk⟩:=h2 x hx
  rw[hk]
  exact rfl
 rcases findNow_spec (k:=.int .i64 a) (d:=.int .i64) rfl es.toList 0 hks with⟨h1,hn⟩|⟨j,x,h1,hj,hx⟩
 ·refine .inl ⟨h1,hn,?_⟩
  cases hM:M a with
  |none=>rfl
  |some v=>
   obtain⟨x,hx,hk,-⟩:=(h4 a v).1 hM
   exact absurd hk (hn x hx)
 ·exact .inr ⟨j,x,by simpa using h1,hj,hx,(h4 a x.val).2 ⟨x,List.mem_of_getElem? hj,hx,rfl⟩⟩
theorem RawM.look (h:RawM w b M) (hK:P.underlying K=some (.int .i64)) (ht:P.underlying t=some (.map K e)) {zv:Value} (hz:(zeroValue e).run P w=.ok zv w) (a:Int) {r:Option Value} (hr:M a=r):
  (Instr.lookup t (.map (some b)) (.int .i64 a) false).run P w=.ok (r.getD zv) w∧(Instr.lookup t (.map (some b)) (.int .i64 a) true).run P w=.ok (.tuple #[r.getD zv,.bool r.isSome]) w:=by
 obtain⟨es,c,hb,h2,h3,h4⟩:=h
 rcases RawM.find h2 h4 a with⟨h1,-,hM⟩|⟨j,x,h1,-,-,hM⟩ <;>
 ·rw [hM] at hr
  subst hr
  constructor <;> simp[Instr.lookup,run_underlying ht,MapKept.run_getObj_map hb,MapKept.run_checkKey hK (k:=.int .i64 a) rfl,MapKept.run_findKey hK h1,hz,Result.andThen]
theorem keys_push {es:Array MapEntry} {a:Int} {v:Value} {c:Nat} (h2:∀x ∈ es.toList,∃k:Int,x.key=.int .i64 k):∀x ∈ (es.push ⟨.int .i64 a,v,c⟩).toList,∃k:Int,x.key=.int .i64 k:=by
 intro y hy
 simp only[Array.toList_push,List.mem_append,List.mem_singleton] at hy
 rcases hy with hy|rfl
 ·exact h2 y hy
 ·exact ⟨a,rfl⟩
theorem Tells.push {es:Array MapEntry} (h4:Tells es M) {a:Int} {v:Value} {c:Nat} (hn:∀x ∈ es.toList,x.key≠.int .i64 a):Tells (es.push ⟨.int .i64 a,v,c⟩) (rup M a (some v)):=by
 intro k u
 simp only[Array.toList_push,List.mem_append,List.mem_singleton]
 by_cases hk:k=a
 ·subst hk
  rw[rup_same]
  constructor
  ·intro hu
   cases hu
   exact⟨_,.inr rfl,rfl,rfl⟩
  ·rintro ⟨y,hy|rfl,h5,h6⟩
   ·exact absurd h5 (hn y hy)
   ·simpa using h6
 ·rw [rup_ne hk,h4]
  constructor
  ·rintro ⟨y,hy,h5⟩
   exact⟨y,.inl hy,h5⟩
  ·rintro ⟨y,hy|rfl,h5,h6⟩
   ·exact ⟨y,hy,h5,h6⟩
   ·simp only[Value.int.injEq,true_and] at h5
    exact absurd h5.symm hk
theorem mem_modify {es:Array MapEntry} {c:Nat} (hs:Stamped es c) {j:Nat} {x:MapEntry} (hj:es[j]?=some x) (f:MapEntry→MapEntry) (y:MapEntry):
  y ∈ (es.modify j f).toList↔y=f x∨(y ∈ es.toList∧y.key≠x.key):=by
 have h3:=hs.2.2
 rw[List.mem_iff_getElem?]
 constructor
 ·rintro ⟨i,hi⟩
  simp only[Array.getElem?_toList,Array.getElem?_modify] at hi
  split at hi
  ·rename_i he
   subst he
   rw[hj] at hi
   simp only[Option.map_some,Option.some.injEq] at hi
   exact .inl hi.symm
  ·rename_i he
   refine .inr ⟨List.mem_iff_getElem?.2 ⟨i,by simpa using hi⟩,fun hk=>he ?_⟩
   have hil:j < (es.toList.map (·.key)).length:=by
    have:=(Array.getElem?_eq_some_iff.1 hj).1
    simpa using this
   refine(List.getElem?_inj hil h3).1 ?_
   simp[hi,hj,hk]
 ·rintro (rfl|⟨hy,hne⟩)
  ·exact ⟨j,by simp[Array.getElem?_modify,hj]⟩
  ·obtain ⟨i,hi⟩:=List.mem_iff_getElem?.1 hy
   refine⟨i,?_⟩
   simp only[Array.getElem?_toList,Array.getElem?_modify]
   rw[if_neg (by
    rintro rfl
    rw[Array.getElem?_toList,hj] at hi
    cases hi
    exact hne rfl)]
   simpa using hi
theorem keys_modify {es:Array MapEntry} {c:Nat} (hs:Stamped es c) (h2:∀x ∈ es.toList,∃k:Int,x.key=.int .i64 k) {j:Nat} {x:MapEntry} (hj:es[j]?=some x) {f:MapEntry→MapEntry} {a:Int} (hf:(f x).key=.int .i64 a):∀y ∈ (es.modify j f).toList,∃k:Int,y.key=.int .i64 k:=by
 intro y hy
 rcases(mem_modify hs hj f y).1 hy with rfl|⟨hy,-⟩
 ·exact ⟨a,hf⟩
 ·exact h2 y hy
theorem Tells.modify {es:Array MapEntry} {c:Nat} (hs:Stamped es c) (h4:Tells es M) {j:Nat} {x:MapEntry} (hj:es[j]?=some x) {f:MapEntry→MapEntry} {a:Int} (hx:x.key=.int .i64 a) (hf:(f x).key=.int .i64 a):Tells (es.modify j f) (rup M a (some (f x).val)):=by
 intro k u
 by_cases hk:k=a
 ·subst hk
  rw[rup_same]
  constructor
  ·intro hu
   cases hu
   exact⟨_,(mem_modify hs hj f _).2 (.inl rfl),hf,rfl⟩
  ·rintro ⟨y,hy,h5,h6⟩
   rcases(mem_modify hs hj f y).1 hy with rfl|⟨-,hne⟩
   ·rw [h6]
   ·exact absurd (h5.trans hx.symm) hne
 ·rw [rup_ne hk,h4]
  constructor
  ·rintro ⟨y,hy,h5,h6⟩
   exact⟨y,(mem_modify hs hj f y).2 (.inr ⟨hy,by rw[h5,hx];simpa using hk⟩),h5,h6⟩
  ·rintro ⟨y,hy,h5,h6⟩
   rcases(mem_modify hs hj f y).1 hy with rfl|⟨hy,-⟩
   ·rw [hf] at h5
    simp only[Value.int.injEq,true_and] at h5
    exact absurd h5.symm hk
   ·exact ⟨y,hy,h5,h6⟩
theorem stamped_mod {es:Array MapEntry} {c:Nat} (hs:Stamped es c) {j:Nat} {x:MapEntry} (hj:es[j]?=some x) {f:MapEntry→MapEntry} (hb:∀y,(f y).born=y.born) (hk:(f x).key=x.key):Stamped (es.modify j f) c:=
 stamped_modify hs j f (fun y _=>hb y) fun y _ hy=>by rw[hj] at hy;cases hy;exact hk
theorem RawM.store (h:RawM w b M) (hK:P.underlying K=some (.int .i64)) (ht:P.underlying t=some (.map K e)) (a:Int) (v:Value):
  ∃w',(Instr.mapUpdate t (.map (some b)) (.int .i64 a) v).run P w=.ok () w'∧RawM w' b (rup M a (some v))∧w.mapTurned w' b:=by
 obtain⟨es,c,hb,h2,h3,h4⟩:=h
 rcases RawM.find h2 h4 a with⟨h1,hn,hM⟩|⟨j,x,h1,hj,hx,hM⟩
 ·refine ⟨ChangeMaps.setBlock w b (.map (es.push ⟨.int .i64 a,v,c⟩) (c+1)),?_,⟨_,_,ChangeMaps.heap_setBlock_same hb _,keys_push h2,stamped_push h3 hn,h4.push hn⟩,⟨_,_,_,_,hb,rfl⟩⟩
  simp[Instr.mapUpdate,run_underlying ht,MapKept.run_getObj_map hb,MapKept.run_checkKey hK (k:=.int .i64 a) rfl,MapKept.run_findKey hK h1,MapKept.run_setObj_map _ hb,Result.andThen,ChangeMaps.setBlock]
 ·have hj':es[j]?=some x:=by simpa using hj
  refine⟨ChangeMaps.setBlock w b (.map (es.modify j fun y=>{y with key:=.int .i64 a,val:=v}) c),?_,⟨_,_,ChangeMaps.heap_setBlock_same hb _,keys_modify h3 h2 hj' (a:=a) rfl,stamped_mod h3 hj' (fun _=>rfl) hx.symm,Tells.modify (f:=fun y=>{y with key:=.int .i64 a,val:=v}) h3 h4 hj' hx rfl⟩,⟨_,_,_,_,hb,rfl⟩⟩
  simp[Instr.mapUpdate,run_underlying ht,MapKept.run_getObj_map hb,MapKept.run_checkKey hK (k:=.int .i64 a) rfl,MapKept.run_findKey hK h1,hj',hx,MapKept.run_keyThatStays (d:=.int .i64) (k:=.int .i64 a) rfl,MapKept.run_setObj_map _ hb,Result.andThen,ChangeMaps.setBlock]
theorem RawM.drop (h:RawM w b M) (hK:P.underlying K=some (.int .i64)) (ht:P.underlying t=some (.map K e)) (a:Int) (ty:TypeId):
  ∃w',(Builtin.delete_ #[t,K] ty #[.map (some b),.int .i64 a]).run P w=.ok (.tuple #[]) w'∧RawM w' b (rup M a none)∧w.mapTurned w' b:=by
 obtain⟨es,c,hb,h2,h3,h4⟩:=h
 rcases RawM.find h2 h4 a with⟨h1,hn,hM⟩|⟨j,x,h1,hj,hx,hM⟩
 ·refine ⟨ChangeMaps.setBlock w b (.map es c),?_,⟨_,_,ChangeMaps.heap_setBlock_same hb _,h2,h3,?_⟩,⟨_,_,_,_,hb,rfl⟩⟩
  ·simp [Builtin.delete_,run_underlying ht,MapKept.run_getObj_map hb,MapKept.run_checkKey hK (k:=.int .i64 a) rfl,MapKept.run_findKey hK h1,MapKept.run_setObj_map _ hb,Result.andThen,ChangeMaps.setBlock]
  ·intro k u
   by_cases hk:k=a
   ·subst hk
    rw[rup_same]
    constructor
    ·intro hu;cases hu
    ·rintro ⟨y,hy,h5,-⟩
     exact absurd h5 (hn y hy)
   ·rw [rup_ne hk];exact h4 k u
 ·have hjl:j < es.size:=by
   have:=(List.getElem?_eq_some_iff.1 hj).1
   simpa using this
  have he:(es.eraseIdxIfInBounds j).toList=es.toList.eraseIdx j:=by
   unfold Array.eraseIdxIfInBounds
   rw[dif_pos hjl]
   simp
  have hsub:List.Sublist (es.toList.eraseIdx j) es.toList:=List.eraseIdx_sublist _ _
  refine⟨ChangeMaps.setBlock w b (.map (es.eraseIdxIfInBounds j) c),?_,⟨_,_,ChangeMaps.heap_setBlock_same hb _,?_,stamped_erase h3 j,?_⟩,⟨_,_,_,_,hb,rfl⟩⟩
  ·simp [Builtin.delete_,run_underlying ht,MapKept.run_getObj_map hb,MapKept.run_checkKey hK (k:=.int .i64 a) rfl,MapKept.run_findKey hK h1,MapKept.run_setObj_map _ hb,Result.andThen,ChangeMaps.setBlock]
  ·intro y hy
   rw[he] at hy
   exact h2 y (hsub.subset hy)
  ·have hmem:∀y,y ∈ es.toList.eraseIdx j↔y ∈ es.toList∧y.key≠.int .i64 a:=by
    intro y
    have hn:=h3.2.2
    rw[List.mem_eraseIdx_iff_getElem?]
    constructor
    ·rintro ⟨i,hi,hy⟩
     refine⟨List.mem_of_getElem? hy,fun hk=>hi ?_⟩
     have hil:j < (es.toList.map (·.key)).length:=by simpa using hjl
     refine((List.getElem?_inj hil hn).1 ?_).symm
     rw[List.getElem?_map,List.getElem?_map,hy,hj]
     simp[hk,hx]
    ·rintro ⟨hy,hne⟩
     obtain⟨i,hi⟩:=List.mem_iff_getElem?.1 hy
     refine⟨i,?_,hi⟩
     rintro rfl
     rw[hj] at hi
     cases hi
     exact hne hx
   intro k u
   rw[he]
   by_cases hk:k=a
   ·subst hk
    rw[rup_same]
    constructor
    ·intro hu;cases hu
    ·rintro ⟨y,hy,h5,-⟩
     exact absurd h5 ((hmem y).1 hy).2
   ·rw [rup_ne hk,h4]
    constructor
    ·rintro ⟨y,hy,h5,h6⟩
     exact⟨y,(hmem y).2 ⟨hy,by rw[h5];simpa using hk⟩,h5,h6⟩
    ·rintro ⟨y,hy,h5,h6⟩
     exact⟨y,((hmem y).1 hy).1,h5,h6⟩
theorem RawM.entry (h:RawM w b M) (hK:P.underlying K=some (.int .i64)) (ht:P.underlying t=some (.map K e)) {zv:Value} (hz:(zeroValue e).run P w=.ok zv w) (a:Int):
  ∃(w':World) (v:Value) (n:Int) (M':Int→Option Value),(Instr.mapEntry t (.map (some b)) (.int .i64 a)).run P w=.ok (.tuple #[v,.int .i64 n]) w'∧RawAt w' b M' a n∧(∀k,k≠a→M' k=M k)∧w.mapTurned w' b:=by
 obtain⟨es,c,hb,h2,h3,h4⟩:=h
 rcases RawM.find h2 h4 a with⟨h1,hn,hM⟩|⟨j,x,h1,hj,hx,hM⟩
 ·refine ⟨ChangeMaps.setBlock w b (.map (es.push ⟨.int .i64 a,zv,c⟩) (c+1)),zv,c,_,?_,⟨_,_,ChangeMaps.heap_setBlock_same hb _,keys_push h2,stamped_push h3 hn,h4.push hn,⟨.int .i64 a,zv,c⟩,by simp,rfl,rfl⟩,fun k hk=>rup_ne hk,⟨_,_,_,_,hb,rfl⟩⟩
  simp[Instr.mapEntry,run_underlying ht,MapKept.run_getObj_map hb,MapKept.run_checkKey hK (k:=.int .i64 a) rfl,MapKept.run_findKey hK h1,hz,MapKept.run_setObj_map _ hb,Result.andThen,ChangeMaps.setBlock,goInt]
 ·have hj':es[j]?=some x:=by simpa using hj
  refine⟨ChangeMaps.setBlock w b (.map (es.modify j fun y=>{y with key:=.int .i64 a}) c),x.val,x.born,_,?_,⟨_,_,ChangeMaps.heap_setBlock_same hb _,keys_modify h3 h2 hj' (a:=a) rfl,stamped_mod h3 hj' (fun _=>rfl) hx.symm,Tells.modify (f:=fun y=>{y with key:=.int .i64 a}) h3 h4 hj' hx rfl,_,(mem_modify h3 hj' _ _).2 (.inl rfl),rfl,rfl⟩,fun k hk=>rup_ne hk,⟨_,_,_,_,hb,rfl⟩⟩
  simp[Instr.mapEntry,run_underlying ht,MapKept.run_getObj_map hb,MapKept.run_checkKey hK (k:=.int .i64 a) rfl,MapKept.run_findKey hK h1,hj',hx,MapKept.run_keyThatStays (d:=.int .i64) (k:=.int .i64 a) rfl,MapKept.run_setObj_map _ hb,Result.andThen,ChangeMaps.setBlock,goInt]
theorem RawAt.stored {a n:Int} (h:RawAt w b M a n) (v:Value):
  ∃w',(Instr.entryStore t (.map (some b)) (.int .i64 n) v).run P w=.ok () w'∧RawM w' b (rup M a (some v))∧w.mapTurned w' b:=by
 obtain⟨es,c,hb,h2,h3,h4,x,hx,hk,hn⟩:=h
 subst hn
 obtain⟨j,hj⟩:=List.mem_iff_getElem?.1 hx
 have hj':es[j]?=some x:=by simpa using hj
 have hjl:=(Array.getElem?_eq_some_iff.1 hj').1
 have hf:es.findIdx? (fun y=>(y.born:Int)==x.born)=some j:=by
  rw[Array.findIdx?_eq_some_iff_getElem]
  obtain⟨hl,hv⟩:=Array.getElem?_eq_some_iff.1 hj'
  refine⟨hl,by simp[hv],fun i hi=>?_⟩
  simp only[Bool.not_eq_true,beq_eq_false_iff_ne,ne_eq]
  intro he
  have hil:i < (es.toList.map (·.born)).length:=by simp;omega
  have hii:es[i]?=some es[i]:=Array.getElem?_eq_getElem (by omega)
  have:=(List.getElem?_inj hil h3.2.1 (j:=j)).1 (by simp[hii,hj'];omega)
  omega
 refine⟨ChangeMaps.setBlock w b (.map (es.modify j fun y=>{y with val:=v}) c),?_,⟨_,_,ChangeMaps.heap_setBlock_same hb _,keys_modify h3 h2 hj' (a:=a) hk,stamped_mod h3 hj' (fun _=>rfl) rfl,Tells.modify (f:=fun y=>{y with val:=v}) h3 h4 hj' hk hk⟩,⟨_,_,_,_,hb,rfl⟩⟩
 simp[Instr.entryStore,MapKept.run_getObj_map hb,asInt,asIntOf,hf,MapKept.run_setObj_map _ hb,Result.andThen,ChangeMaps.setBlock]
theorem RawM.wp_store (h:RawM w b M) (hK:P.underlying K=some (.int .i64)) (ht:P.underlying t=some (.map K e)) {a:Int} {v:Value}
  {o:Oper} {act:Act} {Q:Exit→Act→World→Prop} {K':Act→World→Prop} {m x y:Operand} (hop:o.op=Op.mapUpdate t m x y∨o.op=Op.insert t m x y) (hm:act.eval m=.map (some b)) (hx:act.eval x=.int .i64 a) (hy:act.eval y=v)
  (hQ:∀w',RawM w' b (rup M a (some v))→w.mapTurned w' b→K' (act.put o.dst undef) w'):o.wp P act w K' Q:=by
 obtain⟨w',hrun,h1,h2⟩:=h.store hK ht a v
 rcases hop with hop|hop <;>
 ·unfold Oper.wp
  simp only[execOp,hop,hm,hx,hy,Sem.run_bind,hrun,Result.andThen_ok,Sem.run_pure]
  exact hQ w' h1 h2
theorem RawM.wpList_store (h:RawM w b M) (hK:P.underlying K=some (.int .i64)) (ht:P.underlying t=some (.map K e)) {a:Int} {v:Value}
  {ops:Array Oper} {rest:List Oper} {o:Oper} {act:Act} {Q:Exit→Act→World→Prop} {m x y:Operand} (hg:o.guard=none) (hop:o.op=Op.mapUpdate t m x y∨o.op=Op.insert t m x y) (hm:act.eval m=.map (some b)) (hx:act.eval x=.int .i64 a) (hy:act.eval y=v)
  (hQ:∀w',RawM w' b (rup M a (some v))→w.mapTurned w' b→wpList P ops Q rest (act.put o.dst undef) w'):wpList P ops Q (o::rest) act w:=
 wpList_plain hg fun _ hK'=>h.wp_store hK ht hop hm hx hy fun w' h1 h2=>hK' _ _ (hQ w' h1 h2)
theorem RawM.wp_drop (h:RawM w b M) (hK:P.underlying K=some (.int .i64)) (ht:P.underlying t=some (.map K e)) {a:Int}
  {o:Oper} {act:Act} {Q:Exit→Act→World→Prop} {K':Act→World→Prop} {m x:Operand} (hop:o.op=Op.call {callee:=Callee.builtin Builtin.delete,args:=#[m,x],argTypes:=#[t,K]}) (hm:act.eval m=.map (some b)) (hx:act.eval x=.int .i64 a)
  (hQ:∀w',RawM w' b (rup M a none)→w.mapTurned w' b→K' (act.put o.dst (.tuple #[])) w'):o.wp P act w K' Q:=by
 obtain⟨w',hrun,r1,r2⟩:=h.drop hK ht a o.type
 unfold Oper.wp
 simp[execOp,hop,resolve,invoke,builtin,hm,hx,hrun,Result.andThen]
 exact hQ w' r1 r2
theorem RawM.wp_entry (h:RawM w b M) (hK:P.underlying K=some (.int .i64)) (ht:P.underlying t=some (.map K e)) {zv:Value} (hz:(zeroValue e).run P w=.ok zv w) {a:Int}
  {o:Oper} {act:Act} {Q:Exit→Act→World→Prop} {K':Act→World→Prop} {m x:Operand} (hop:o.op=Op.mapEntry t m x) (hm:act.eval m=.map (some b)) (hx:act.eval x=.int .i64 a)
  (hQ:∀(w':World) (v:Value) (n:Int) (M':Int→Option Value),RawAt w' b M' a n→(∀k,k≠a→M' k=M k)→w.mapTurned w' b→K' (act.put o.dst (.tuple #[v,.int .i64 n])) w'):o.wp P act w K' Q:=by
 obtain⟨w',v,n,M',hrun,h1,h2,h3⟩:=h.entry hK ht hz a
 unfold Oper.wp
 simp only[execOp,hop,hm,hx,Sem.run_bind,hrun,Result.andThen_ok,Sem.run_pure]
 exact hQ w' v n M' h1 h2 h3
theorem RawAt.wp_stored {a n:Int} (h:RawAt w b M a n) {v:Value}
  {o:Oper} {act:Act} {Q:Exit→Act→World→Prop} {K':Act→World→Prop} {m s y:Operand} (hop:o.op=Op.entryStore t m s y) (hm:act.eval m=.map (some b)) (hx:act.eval s=.int .i64 n) (hy:act.eval y=v)
  (hQ:∀w',RawM w' b (rup M a (some v))→w.mapTurned w' b→K' (act.put o.dst undef) w'):o.wp P act w K' Q:=by
 obtain⟨w',hrun,h1,h2⟩:=h.stored (P:=P) (t:=t) v
 unfold Oper.wp
 simp only[execOp,hop,hm,hx,hy,Sem.run_bind,hrun,Result.andThen_ok,Sem.run_pure]
 exact hQ w' h1 h2
end
section
attribute [local irreducible] wpL
theorem turned_cells {w w':World} {b g:Nat} {cs:Array Value} {t:TypeId} {fz:Nat×Nat} (h:w.mapTurned w' b) (hg:w.heap[g]?=some (.cells cs t fz)):w'.heap[g]?=w.heap[g]?:=turned_other h (by
 rintro rfl
 obtain⟨es,c,es',c',hb,-⟩:=h
 rw[hb] at hg
 cases hg)
def fdsOf (k:Int):List Fd:=if k=1 then[fdTx,fdTh] else[fdTx]
def ClAt (w:World) (B:Nat) (v:Value) (l:List Fd):Prop:=∃(bl:Nat) (sv:Value),v=.func (.func 180) #[] #[.pointer (some ⟨bl,0,none⟩)]∧w.heap[bl]?=some (.cells #[sv] 304 (0,0))∧OwnF Fd.cells 260 4 w B sv l
theorem ClAt.below {w w':World} {B:Nat} {v:Value} {l:List Fd} (h:ClAt w B v l) (hb:Below w.heap.size w w'):ClAt w' B v l:=let ⟨bl,sv,h1,h2,h3⟩:=h;⟨bl,sv,h1,row_below h2 hb (row_lt h2),OwnF.below h3 hb⟩
theorem ClAt.turned {w w':World} {B b:Nat} {v:Value} {l:List Fd} (h:ClAt w B v l) (ht:w.mapTurned w' b):ClAt w' B v l:=let ⟨bl,sv,h1,h2,h3⟩:=h;⟨bl,sv,h1,(turned_cells ht h2).trans h2,OwnF.kd h3 (Kd.turned (T:=fun _=>False) ht) fun h=>h⟩
def FldMid (w W:World):Exit→Act→World→Prop:=fun e a' X=>∃bm bl gs:Nat,e=.normal∧a'={tmps:=#[.map none,.pointer (some ⟨w.heap.size,0,none⟩),.map (some bm),undef,undef,.map (some bm),.func (.func 179) #[] #[],fdTx.val,fdTh.val,.slice (some ⟨gs,0,none⟩) 2 2,.func (.func 180) #[] #[.pointer (some ⟨bl,0,none⟩)],.map (some bm),undef,undef,undef,undef,undef,undef,undef,undef,undef,undef,undef,undef,undef,undef,undef,undef,undef,undef],defers:=[]}∧RawM X bm (rup (fun _=>none) 1 (some (.func (.func 180) #[] #[.pointer (some ⟨bl,0,none⟩)])))∧X.heap[bl]?=some (.cells #[.slice (some ⟨gs,0,none⟩) 2 2] 304 (0,0))∧OwnF Fd.cells 260 4 X W.heap.size (.slice (some ⟨gs,0,none⟩) 2 2) [fdTx,fdTh]∧Below W.heap.size W X∧W.heap.size≤bm
end
section
attribute [local irreducible] wpL
def fdAll:List Fd:=[fdTx,fdTh,fdOb,fdOp,fdVa,fdRe]
def offOf (f:Fd):Nat:=if f.f=214 then 1 else if f.f=215 then 2 else if f.f=216 then 3 else if f.f=217 then 4 else if f.f=219 then 6 else 7
theorem fd_of {f:Fd} (h:f ∈ fdAll) (b:Nat) (w:World):Calls Tryz.prog f.f #[.pointer (some ⟨b,0,none⟩)] w fun e w'=>e=.returned (.pointer (some ⟨b,offOf f,none⟩))∧w'=w:=by
 simp only[fdAll,List.mem_cons,List.not_mem_nil,or_false] at h
 rcases h with rfl|rfl|rfl|rfl|rfl|rfl
 ·exact e_tx1 b w
 ·exact e_thread1 b w
 ·exact e_obj1 b w
 ·exact e_op1 b w
 ·exact e_val1 b w
 ·exact e_ret1 b w
theorem cf_of {f:Fd} (h:f ∈ fdAll) (args:Array Value) (X:World):Sem.run Tryz.prog (callFunc f.f args) X=.ok (.enter f.f args) X:=by
 simp only[fdAll,List.mem_cons,List.not_mem_nil,or_false] at h
 rcases h with rfl|rfl|rfl|rfl|rfl|rfl <;> kernel_rfl
theorem off_lt {f:Fd} (h:f ∈ fdAll):1≤offOf f∧offOf f < 8:=by
 simp only[fdAll,List.mem_cons,List.not_mem_nil,or_false] at h
 rcases h with rfl|rfl|rfl|rfl|rfl|rfl <;> decide
theorem set_row (cs:List Value) (j:Nat) (v:Value):cs.toArray.setIfInBounds j v=(cs.set j v).toArray:=by simp
def evCs (x:Ev):List Value:=[.int .i64 0,.int .i64 x.tx,.int .i64 x.thread,.int .i64 x.obj,.int .i64 x.op,.int .i64 x.key,.int .i64 x.val,.int .i64 x.ret]
theorem ba_loop (s:ByteArray):∀(n i:Nat) (r:List UInt8),s.size - i=n→ByteArray.toList.loop s i r=r.reverse++s.data.toList.drop i
 |0,i,r,h=>by
  unfold ByteArray.toList.loop
  have h1:s.size=s.data.size:=rfl
  rw[if_neg (by omega),List.drop_eq_nil_of_le (by simp;omega)]
  simp
 |n+1,i,r,h=>by
  unfold ByteArray.toList.loop
  have h1:s.size=s.data.size:=rfl
  rw[if_pos (by omega),ba_loop s n (i+1) _ (by omega)]
  have hi:i < s.data.toList.length:=by simp;omega
  rw[List.drop_eq_getElem_cons hi]
  have:s.get! i=s.data.toList[i]:=by
   show s.data[i]! =_
   rw[getElem!_pos s.data i (by simpa using hi)]
   simp
  simp[this]
theorem ba_toList (s:ByteArray):s.toList=s.data.toList:=by
 unfold ByteArray.toList
 rw[ba_loop s _ 0 [] rfl]
 simp
theorem zeroFn (w:World):(zeroValue 255).run Tryz.prog w=.ok .nilFunc w:=by kernel_rfl
end
