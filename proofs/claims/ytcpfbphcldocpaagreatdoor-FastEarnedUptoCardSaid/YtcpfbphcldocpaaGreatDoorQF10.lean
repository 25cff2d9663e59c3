/- Parts of the proof, merged by program out of 1 texts (GnC): the first: Events of all kinds of objects: the fields of a call, of a return. Conditions: those of each theorem, as typed. -/
import Derived.Test.YtcpfbphcldocpaaGreatDoorQF09
set_option linter.unusedVariables false
set_option linter.unusedSimpArgs false
set_option linter.unusedSectionVars false
set_option maxRecDepth 100000
set_option maxHeartbeats 4000000
namespace Go.Proofs.YtcpfbphcldocpaaGreatDoor
open Go.RowKit
section
attribute [local irreducible] wpL
def fdKe:Fd:=⟨218,0,0,1000⟩
theorem e_key (w:World):Calls Tryz.prog 186 #[] w fun e w'=>e=.returned fdKe.val∧Below w.heap.size w w':=by
 have hb:=(Below.refl w.heap.size w).alloc (Nat.le_refl _) (.cells #[.nilFunc,.int .i64 0,.int .i64 0,.int .i64 0] 260)
 go_enter Tryz.func186,Tryz.ntmps186
 go_wp2
 refine bodyPost_ret (v:=fdKe.val) (by simp[results,Tryz.results186,go_sem,fdKe]) rfl ⟨rfl,?_⟩
 exact(Below.refl w.heap.size w).alloc (Nat.le_refl _) _
theorem e_key1 (b:Nat) (w:World):Calls Tryz.prog 218 #[.pointer (some ⟨b,0,none⟩)] w fun e w'=>e=.returned (.pointer (some ⟨b,5,none⟩))∧w'=w:=by
 go_enter Tryz.func218,Tryz.ntmps218
 go_wp2
 go_ret
 exact⟨rfl,rfl⟩
def callG (op:Int):List Fd:=[fdTx,fdOb,fdOp]++(if keyedB op then[fdKe] else[])++(if valuedB op then[fdVa] else[])
def retG (r:Int):List Fd:=if r==3 then[fdTx,fdRe,fdVa] else[fdTx,fdRe]
section
variable {w:World}
theorem g_call (x:Ev) (i:Nat) (hi:i≤100) (b:Nat) (h:LstAt w b):
  Calls Tryz.prog 183 #[evV x,.int .i64 i,.pointer (some ⟨b,0,none⟩)] w (FdRet (callG x.op) i w):=by
 obtain⟨xk,xx,xh,xj,xo,xy,xv,xr⟩:=x
 show Calls _ _ _ w (FdRet (callG xo) i w)
 have h0:=row_cell h 0
 have lb:=row_lt h
 have HL:=hid h
 clear h
 go_enter Tryz.func183,Tryz.ntmps183
 go_wp2_with fail
 have bA:Below w.heap.size w ((w.alloc (.cells #[.int .i64 xk,.int .i64 xx,.int .i64 xh,.int .i64 xj,.int .i64 xo,.int .i64 xy,.int .i64 xv,.int .i64 xr] 69)).alloc (.cells #[.nilFunc,.int .i64 0,.int .i64 0,.int .i64 0] 260)):=((Below.refl w.heap.size w).alloc (Nat.le_refl _) _).alloc (by simp) _
 have rA:=row_old (o:=.cells #[.nilFunc,.int .i64 0,.int .i64 0,.int .i64 0] 260) (row_new w (.cells #[.int .i64 xk,.int .i64 xx,.int .i64 xh,.int .i64 xj,.int .i64 xo,.int .i64 xy,.int .i64 xv,.int .i64 xr] 69))
 have rB:=row_new' (w:=w.alloc (.cells #[.int .i64 xk,.int .i64 xx,.int .i64 xh,.int .i64 xj,.int .i64 xo,.int .i64 xy,.int .i64 xv,.int .i64 xr] 69)) (o:=.cells #[.nilFunc,.int .i64 0,.int .i64 0,.int .i64 0] 260) (g:=w.heap.size+1) (by simp)
 have zA:((w.alloc (.cells #[.int .i64 xk,.int .i64 xx,.int .i64 xh,.int .i64 xj,.int .i64 xo,.int .i64 xy,.int .i64 xv,.int .i64 xr] 69)).alloc (.cells #[.nilFunc,.int .i64 0,.int .i64 0,.int .i64 0] 260)).heap.size=w.heap.size+2:=by simp
 generalize (w.alloc (.cells #[.int .i64 xk,.int .i64 xx,.int .i64 xh,.int .i64 xj,.int .i64 xo,.int .i64 xy,.int .i64 xv,.int .i64 xr] 69)).alloc (.cells #[.nilFunc,.int .i64 0,.int .i64 0,.int .i64 0] 260)=X at *
 refine(e_tx X).mono ?_
 rintro e X1 ⟨rfl,b1⟩
 have z1:=b1.size
 have b1:=bA.trans (b1.mono (by omega))
 have rA:=row_below rA ‹Below X.heap.size X X1› (by omega)
 have rB:=row_below rB ‹Below X.heap.size X X1› (by omega)
 go_wp2_with fail
 refine(e_obj X1).mono ?_
 rintro e X2 ⟨rfl,b2⟩
 have z2:=b2.size
 have rA:=row_below rA b2 (by omega)
 have rB:=row_below rB b2 (by omega)
 have b2:=b1.trans (b2.mono (by omega))
 go_wp2_with fail
 refine(e_op X2).mono ?_
 rintro e X3 ⟨rfl,b3⟩
 have z3:=b3.size
 have rA:=row_below rA b3 (by omega)
 have rB:=row_below rB b3 (by omega)
 have b3:=b2.trans (b3.mono (by omega))
 have x4:=row_cell rA 4
 have lA:=row_lt rA
 have lB:=row_lt rB
 have RA:=hid rA
 have RB:=hid rB
 have B3:=hid b3
 clear b1 b2 b3 bA rA rB
 go_wp2_with fail
 have o4:OwnF Fd.cells 260 4 (X3.alloc (.cells #[.func (.func fdTx.f) #[] #[],.int .i64 fdTx.tb,.int .i64 fdTx.lo,.int .i64 fdTx.hi,.func (.func fdOb.f) #[] #[],.int .i64 fdOb.tb,.int .i64 fdOb.lo,.int .i64 fdOb.hi,.func (.func fdOp.f) #[] #[],.int .i64 fdOp.tb,.int .i64 fdOp.lo,.int .i64 fdOp.hi] 260)) (w.heap.size+2) (.slice (some ⟨X3.heap.size,0,none⟩) 3 3) [fdTx,fdOb,fdOp]:=OwnF.lit (f:=Fd.cells) X3 (w.heap.size+2) (by omega) [fdTx,fdOb,fdOp] Fd.len (by decide)
 have b4:Below w.heap.size w (X3.alloc (.cells #[.func (.func fdTx.f) #[] #[],.int .i64 fdTx.tb,.int .i64 fdTx.lo,.int .i64 fdTx.hi,.func (.func fdOb.f) #[] #[],.int .i64 fdOb.tb,.int .i64 fdOb.lo,.int .i64 fdOb.hi,.func (.func fdOp.f) #[] #[],.int .i64 fdOp.tb,.int .i64 fdOp.lo,.int .i64 fdOp.hi] 260)):=B3.out.alloc (by omega) _
 have rA:=row_old (o:=.cells #[.func (.func fdTx.f) #[] #[],.int .i64 fdTx.tb,.int .i64 fdTx.lo,.int .i64 fdTx.hi,.func (.func fdOb.f) #[] #[],.int .i64 fdOb.tb,.int .i64 fdOb.lo,.int .i64 fdOb.hi,.func (.func fdOp.f) #[] #[],.int .i64 fdOp.tb,.int .i64 fdOp.lo,.int .i64 fdOp.hi] 260) RA.out
 have rB:=row_old (o:=.cells #[.func (.func fdTx.f) #[] #[],.int .i64 fdTx.tb,.int .i64 fdTx.lo,.int .i64 fdTx.hi,.func (.func fdOb.f) #[] #[],.int .i64 fdOb.tb,.int .i64 fdOb.lo,.int .i64 fdOb.hi,.func (.func fdOp.f) #[] #[],.int .i64 fdOp.tb,.int .i64 fdOp.lo,.int .i64 fdOp.hi] 260) RB.out
 have z4:(X3.alloc (.cells #[.func (.func fdTx.f) #[] #[],.int .i64 fdTx.tb,.int .i64 fdTx.lo,.int .i64 fdTx.hi,.func (.func fdOb.f) #[] #[],.int .i64 fdOb.tb,.int .i64 fdOb.lo,.int .i64 fdOb.hi,.func (.func fdOp.f) #[] #[],.int .i64 fdOp.tb,.int .i64 fdOp.lo,.int .i64 fdOp.hi] 260)).heap.size=X3.heap.size+1:=by simp
 generalize X3.alloc (.cells #[.func (.func fdTx.f) #[] #[],.int .i64 fdTx.tb,.int .i64 fdTx.lo,.int .i64 fdTx.hi,.func (.func fdOb.f) #[] #[],.int .i64 fdOb.tb,.int .i64 fdOb.lo,.int .i64 fdOb.hi,.func (.func fdOp.f) #[] #[],.int .i64 fdOp.tb,.int .i64 fdOp.lo,.int .i64 fdOp.hi] 260)=X4 at *
 have KC:=g_Keyed xo X4
 have VC:=fun X=>g_Valued xo X
 have X3l:w.heap.size+2≤X3.heap.size:=by omega
 cases hk:keyedB xo <;> cases hv:valuedB xo <;> rw[hk] at KC <;> simp only[hv] at VC
 ·refine KC.mono ?_
  rintro e X5 ⟨rfl,rfl⟩
  have x4:=row_cell rA 4
  have lA:=row_lt rA
  have lB:=row_lt rB
  have RAC:=hid rA
  have RBC:=hid rB
  have BC:=hid b4
  have OC:=hid o4
  have Z4:=hid z4
  have hw5:w.heap.size+3≤X5.heap.size:=by omega
  clear b4 rA rB o4 B3 RA RB z4 zA KC
  go_wp2_with fail
  refine(VC X5).mono ?_
  rintro e X5v ⟨rfl,hX6⟩
  subst hX6
  go_wp2_with fail
  obtain⟨Y,rfl⟩:∃Y,Y=X5v:=⟨_,rfl⟩
  clear VC
  have BY:=hid BC.out
  have RAY:=hid RAC.out
  have RBY:=hid RBC.out
  have OY:=hid OC.out
  clear BC RAC RBC OC x4 lA lB
  have hfd:callG xo=[fdTx,fdOb,fdOp]:=by simp[callG,hk,hv]
  rw[hfd]
  unfold FdRet
  generalize hr:([fdTx,fdOb,fdOp]:List Fd)[i]?=r
  have HR:=hid hr
  clear hr
  have y0:Y.cell? ⟨b,0,none⟩=some (.func (.func 179) #[] #[]):=row_cell (row_below HL.out BY.out lb) 0
  have zY:=BY.out.size
  have lby:b < Y.heap.size:=by omega
  have yy:=row_cell RAY.out
  have yy0:=yy 0
  have yy1:=yy 1
  have yy2:=yy 2
  have yy3:=yy 3
  have yy4:=yy 4
  have yy5:=yy 5
  have yy6:=yy 6
  have yy7:=yy 7
  clear yy
  have ly:=row_lt RAY.out
  have lz:=row_lt RBY.out
  refine wp_rN (Y.heap.size) [1,0,3,1,0,3,0,0,2,0] (.fin [0,1,3,4,2,5,6,7,8,9]) (by kernel_rfl) ?_
  simp only[wpT,selX,guardAt,sD,sE,sF,sG]
  repeat first|(refine wpL_p fun K hK=>?_;go_simp;refine hK _ _ ?_;clear hK K)|(apply wpL_s;(intro w2 hw2;have hk1:=hw2.cell;have hk3:=hw2.1;clear hw2;go_simp;with_reducible rfl);simp only[Act.put,sA,sB,sC])
  refine wpL_k (fun K hK=>?_)
  go_simp
  refine(e_list _ ⟨_,_,_,rfl⟩ _).mono ?_
  rintro e Z ⟨rfl,hZ⟩
  have bZ:Below Y.heap.size Y Z:=by rw[hZ];exact(Below.refl _ Y).drew.alloc (Nat.le_refl _) _
  have rZ:Z.heap[Y.heap.size]?=some (.cells #[.slice (some ⟨X3.heap.size,0,none⟩) 3 3] 304 (0,0)):=by rw[hZ];exact row_new' (w:=Y.drew) rfl
  refine hK _ _ (RN.KeepsN.of_below (by rw[hZ];exact(Below.refl _ Y.drew).alloc (Nat.le_refl _) _)) ?_
  clear hK K hZ
  have zZ:=bZ.size
  refine wpL_k (fun K hK=>?_)
  go_simp
  refine(e_next ⟨xk,xx,xh,xj,xo,xy,xv,xr⟩ i hi _ _ ([fdTx,fdOb,fdOp]) rZ ((OwnF.below OY.out bZ).sl)).mono ?_
  rintro e V ⟨rfl,bV⟩
  rw[HR.out]
  cases r with
  |none=>
   refine hK _ _ (RN.KeepsN.of_below (bV.mono zZ)) ?_
   clear hK K
   have bW:Below Y.heap.size Y V:=bZ.trans (bV.mono zZ)
   have rV:=row_below RBY.out bW lz
   have v0:=row_cell rV 0
   have v1:=row_cell rV 1
   have v2:=row_cell rV 2
   have v3:=row_cell rV 3
   have vf:∀j,V.frozen? ⟨w.heap.size+1,j,none⟩=false:=fun j=>row_free rV j
   have lV:=row_lt rV
   have BV:=hid (BY.out.trans (bW.mono (by omega)))
   have RV:=hid rV
   clear bW rV rZ bZ bV y0 yy0 yy1 yy2 yy3 yy4 yy5 yy6 yy7
   repeat (refine wpL_p fun K hK=>?_;go_simp;refine hK _ _ ?_;clear hK K)
   refine wpL_e (fun K hK=>?_)
   go_simp
   refine hK _ _ ?_
   clear hK K
   repeat first|(refine wpL_p fun K hK=>?_;go_simp;refine hK _ _ ?_;clear hK K)|refine wpL_nil ?_
   have rF:=row_set (row_set (row_set (row_set RV.out 0 .nilFunc) 1 (.int .i64 0)) 2 (.int .i64 0)) 3 (.int .i64 0)
   have f0:=row_cell rF 0
   have f1:=row_cell rF 1
   have f2:=row_cell rF 2
   have f3:=row_cell rF 3
   have bF:=(((BV.out.setCell (p:=⟨w.heap.size+1,0,none⟩) (by show w.heap.size≤w.heap.size+1;omega) .nilFunc).setCell (p:=⟨w.heap.size+1,1,none⟩) (by show w.heap.size≤w.heap.size+1;omega) (.int .i64 0)).setCell (p:=⟨w.heap.size+1,2,none⟩) (by show w.heap.size≤w.heap.size+1;omega) (.int .i64 0)).setCell (p:=⟨w.heap.size+1,3,none⟩) (by show w.heap.size≤w.heap.size+1;omega) (.int .i64 0)
   generalize (((V.setCell ⟨w.heap.size+1,0,none⟩ .nilFunc).setCell ⟨w.heap.size+1,1,none⟩ (.int .i64 0)).setCell ⟨w.heap.size+1,2,none⟩ (.int .i64 0)).setCell ⟨w.heap.size+1,3,none⟩ (.int .i64 0)=U at *
   simp at f0 f1 f2 f3
   have BF:=hid bF
   clear bF rF v0 v1 v2 v3 vf
   go_wp2
   refine bodyPost_ret (v:=.tuple #[fdZ,.bool false]) (by simp[results,Tryz.results183,go_sem,f0,f1,f2,f3]) rfl ⟨by first|rfl|(rw[hfd,HR.out]),BF.out⟩
  |some y=>
   refine hK _ _ (RN.KeepsN.of_below (bV.mono zZ)) ?_
   clear hK K
   have bW:Below Y.heap.size Y V:=bZ.trans (bV.mono zZ)
   have rV:=row_below RBY.out bW lz
   have v0:=row_cell rV 0
   have v1:=row_cell rV 1
   have v2:=row_cell rV 2
   have v3:=row_cell rV 3
   have vf:∀j,V.frozen? ⟨w.heap.size+1,j,none⟩=false:=fun j=>row_free rV j
   have lV:=row_lt rV
   have BV:=hid (BY.out.trans (bW.mono (by omega)))
   have RV:=hid rV
   clear bW rV rZ bZ bV y0 yy0 yy1 yy2 yy3 yy4 yy5 yy6 yy7
   repeat (refine wpL_p fun K hK=>?_;go_simp;refine hK _ _ ?_;clear hK K)
   refine wpL_e (fun K hK=>?_)
   go_simp
   refine hK _ _ ?_
   clear hK K
   repeat first|(refine wpL_p fun K hK=>?_;go_simp;refine hK _ _ ?_;clear hK K)|refine wpL_nil ?_
   have rF:=row_set (row_set (row_set (row_set RV.out 0 (.func (.func y.f) #[] #[])) 1 (.int .i64 y.tb)) 2 (.int .i64 y.lo)) 3 (.int .i64 y.hi)
   have f0:=row_cell rF 0
   have f1:=row_cell rF 1
   have f2:=row_cell rF 2
   have f3:=row_cell rF 3
   have bF:=(((BV.out.setCell (p:=⟨w.heap.size+1,0,none⟩) (by show w.heap.size≤w.heap.size+1;omega) (.func (.func y.f) #[] #[])).setCell (p:=⟨w.heap.size+1,1,none⟩) (by show w.heap.size≤w.heap.size+1;omega) (.int .i64 y.tb)).setCell (p:=⟨w.heap.size+1,2,none⟩) (by show w.heap.size≤w.heap.size+1;omega) (.int .i64 y.lo)).setCell (p:=⟨w.heap.size+1,3,none⟩) (by show w.heap.size≤w.heap.size+1;omega) (.int .i64 y.hi)
   generalize (((V.setCell ⟨w.heap.size+1,0,none⟩ (.func (.func y.f) #[] #[])).setCell ⟨w.heap.size+1,1,none⟩ (.int .i64 y.tb)).setCell ⟨w.heap.size+1,2,none⟩ (.int .i64 y.lo)).setCell ⟨w.heap.size+1,3,none⟩ (.int .i64 y.hi)=U at *
   simp at f0 f1 f2 f3
   have BF:=hid bF
   clear bF rF v0 v1 v2 v3 vf
   go_wp2
   refine bodyPost_ret (v:=.tuple #[y.val,.bool true]) (by simp[results,Tryz.results183,go_sem,f0,f1,f2,f3]) rfl ⟨by first|rfl|(rw[hfd,HR.out]),BF.out⟩
 ·refine KC.mono ?_
  rintro e X5 ⟨rfl,rfl⟩
  have x4:=row_cell rA 4
  have lA:=row_lt rA
  have lB:=row_lt rB
  have RAC:=hid rA
  have RBC:=hid rB
  have BC:=hid b4
  have OC:=hid o4
  have Z4:=hid z4
  have hw5:w.heap.size+3≤X5.heap.size:=by omega
  clear b4 rA rB o4 B3 RA RB z4 zA KC
  go_wp2_with fail
  refine(VC X5).mono ?_
  rintro e X5v ⟨rfl,hX6⟩
  subst hX6
  go_wp2_with fail
  refine(e_val X5v).mono ?_
  rintro e X5v' ⟨rfl,b7⟩
  have z7:=b7.size
  have B7:=hid (BC.out.trans (b7.mono (by omega)))
  have RA7:=hid (row_below RAC.out b7 lA)
  have RB7:=hid (row_below RBC.out b7 lB)
  have O7:=hid (OwnF.below OC.out b7)
  clear b7 x4
  go_wp2_with (at_builtin;refine wpList_appF rfl _ _ _ rfl _ 32 Tryz.underlying304 infoFd rfl O7.out fdVa (by first|omega|(simp <;> omega)) (by rfl) (by rfl) (by first|rfl|simp) rfl (fd_one _) (by first|omega|(simp only[List.length_append,List.length_cons,List.length_nil,List.length_replicate];omega)) (by first|omega|(simp only[List.length_append,List.length_cons,List.length_nil,List.length_replicate];omega)) ?_;refine Stop.halt ?_)
  refine Stop.go ?_
  intro g8 c8 Y2 o8 G8
  have b8:=B7.out.trans (G8.below (by omega) fun q h=>by have:=(O7.out.lt q h).1;omega)
  have BC:=hid b8
  have RAC:=hid (row_grw RA7.out G8 (OwnF.neT O7.out RA7.out (by decide)))
  have RBC:=hid (row_grw RB7.out G8 (fun e=>by have:=(O7.out.lt _ e).1;omega))
  have OC:=hid o8
  have hzY:w.heap.size+3≤Y2.heap.size:=by have:=G8.size;omega
  clear b8 B7 RA7 RB7 O7 o8 G8
  have x4:=row_cell RAC.out 4
  have lA:=row_lt RAC.out
  have lB:=row_lt RBC.out
  go_wp2_with fail
  obtain⟨Y,rfl⟩:∃Y,Y=Y2:=⟨_,rfl⟩
  clear VC
  have BY:=hid BC.out
  have RAY:=hid RAC.out
  have RBY:=hid RBC.out
  have OY:=hid OC.out
  clear BC RAC RBC OC x4 lA lB
  have hfd:callG xo=[fdTx,fdOb,fdOp,fdVa]:=by simp[callG,hk,hv]
  rw[hfd]
  unfold FdRet
  generalize hr:([fdTx,fdOb,fdOp,fdVa]:List Fd)[i]?=r
  have HR:=hid hr
  clear hr
  have y0:Y.cell? ⟨b,0,none⟩=some (.func (.func 179) #[] #[]):=row_cell (row_below HL.out BY.out lb) 0
  have zY:=BY.out.size
  have lby:b < Y.heap.size:=by omega
  have yy:=row_cell RAY.out
  have yy0:=yy 0
  have yy1:=yy 1
  have yy2:=yy 2
  have yy3:=yy 3
  have yy4:=yy 4
  have yy5:=yy 5
  have yy6:=yy 6
  have yy7:=yy 7
  clear yy
  have ly:=row_lt RAY.out
  have lz:=row_lt RBY.out
  refine wp_rN (Y.heap.size) [1,0,3,1,0,3,0,0,2,0] (.fin [0,1,3,4,2,5,6,7,8,9]) (by kernel_rfl) ?_
  simp only[wpT,selX,guardAt,sD,sE,sF,sG]
  repeat first|(refine wpL_p fun K hK=>?_;go_simp;refine hK _ _ ?_;clear hK K)|(apply wpL_s;(intro w2 hw2;have hk1:=hw2.cell;have hk3:=hw2.1;clear hw2;go_simp;with_reducible rfl);simp only[Act.put,sA,sB,sC])
  refine wpL_k (fun K hK=>?_)
  go_simp
  refine(e_list _ ⟨_,_,_,rfl⟩ _).mono ?_
  rintro e Z ⟨rfl,hZ⟩
  have bZ:Below Y.heap.size Y Z:=by rw[hZ];exact(Below.refl _ Y).drew.alloc (Nat.le_refl _) _
  have rZ:Z.heap[Y.heap.size]?=some (.cells #[.slice (some ⟨g8,0,none⟩) 4 c8] 304 (0,0)):=by rw[hZ];exact row_new' (w:=Y.drew) rfl
  refine hK _ _ (RN.KeepsN.of_below (by rw[hZ];exact(Below.refl _ Y.drew).alloc (Nat.le_refl _) _)) ?_
  clear hK K hZ
  have zZ:=bZ.size
  refine wpL_k (fun K hK=>?_)
  go_simp
  refine(e_next ⟨xk,xx,xh,xj,xo,xy,xv,xr⟩ i hi _ _ ([fdTx,fdOb,fdOp,fdVa]) rZ ((OwnF.below OY.out bZ).sl)).mono ?_
  rintro e V ⟨rfl,bV⟩
  rw[HR.out]
  cases r with
  |none=>
   refine hK _ _ (RN.KeepsN.of_below (bV.mono zZ)) ?_
   clear hK K
   have bW:Below Y.heap.size Y V:=bZ.trans (bV.mono zZ)
   have rV:=row_below RBY.out bW lz
   have v0:=row_cell rV 0
   have v1:=row_cell rV 1
   have v2:=row_cell rV 2
   have v3:=row_cell rV 3
   have vf:∀j,V.frozen? ⟨w.heap.size+1,j,none⟩=false:=fun j=>row_free rV j
   have lV:=row_lt rV
   have BV:=hid (BY.out.trans (bW.mono (by omega)))
   have RV:=hid rV
   clear bW rV rZ bZ bV y0 yy0 yy1 yy2 yy3 yy4 yy5 yy6 yy7
   repeat (refine wpL_p fun K hK=>?_;go_simp;refine hK _ _ ?_;clear hK K)
   refine wpL_e (fun K hK=>?_)
   go_simp
   refine hK _ _ ?_
   clear hK K
   repeat first|(refine wpL_p fun K hK=>?_;go_simp;refine hK _ _ ?_;clear hK K)|refine wpL_nil ?_
   have rF:=row_set (row_set (row_set (row_set RV.out 0 .nilFunc) 1 (.int .i64 0)) 2 (.int .i64 0)) 3 (.int .i64 0)
   have f0:=row_cell rF 0
   have f1:=row_cell rF 1
   have f2:=row_cell rF 2
   have f3:=row_cell rF 3
   have bF:=(((BV.out.setCell (p:=⟨w.heap.size+1,0,none⟩) (by show w.heap.size≤w.heap.size+1;omega) .nilFunc).setCell (p:=⟨w.heap.size+1,1,none⟩) (by show w.heap.size≤w.heap.size+1;omega) (.int .i64 0)).setCell (p:=⟨w.heap.size+1,2,none⟩) (by show w.heap.size≤w.heap.size+1;omega) (.int .i64 0)).setCell (p:=⟨w.heap.size+1,3,none⟩) (by show w.heap.size≤w.heap.size+1;omega) (.int .i64 0)
   generalize (((V.setCell ⟨w.heap.size+1,0,none⟩ .nilFunc).setCell ⟨w.heap.size+1,1,none⟩ (.int .i64 0)).setCell ⟨w.heap.size+1,2,none⟩ (.int .i64 0)).setCell ⟨w.heap.size+1,3,none⟩ (.int .i64 0)=U at *
   simp at f0 f1 f2 f3
   have BF:=hid bF
   clear bF rF v0 v1 v2 v3 vf
   go_wp2
   refine bodyPost_ret (v:=.tuple #[fdZ,.bool false]) (by simp[results,Tryz.results183,go_sem,f0,f1,f2,f3]) rfl ⟨by first|rfl|(rw[hfd,HR.out]),BF.out⟩
  |some y=>
   refine hK _ _ (RN.KeepsN.of_below (bV.mono zZ)) ?_
   clear hK K
   have bW:Below Y.heap.size Y V:=bZ.trans (bV.mono zZ)
   have rV:=row_below RBY.out bW lz
   have v0:=row_cell rV 0
   have v1:=row_cell rV 1
   have v2:=row_cell rV 2
   have v3:=row_cell rV 3
   have vf:∀j,V.frozen? ⟨w.heap.size+1,j,none⟩=false:=fun j=>row_free rV j
   have lV:=row_lt rV
   have BV:=hid (BY.out.trans (bW.mono (by omega)))
   have RV:=hid rV
   clear bW rV rZ bZ bV y0 yy0 yy1 yy2 yy3 yy4 yy5 yy6 yy7
   repeat (refine wpL_p fun K hK=>?_;go_simp;refine hK _ _ ?_;clear hK K)
   refine wpL_e (fun K hK=>?_)
   go_simp
   refine hK _ _ ?_
   clear hK K
   repeat first|(refine wpL_p fun K hK=>?_;go_simp;refine hK _ _ ?_;clear hK K)|refine wpL_nil ?_
   have rF:=row_set (row_set (row_set (row_set RV.out 0 (.func (.func y.f) #[] #[])) 1 (.int .i64 y.tb)) 2 (.int .i64 y.lo)) 3 (.int .i64 y.hi)
   have f0:=row_cell rF 0
   have f1:=row_cell rF 1
   have f2:=row_cell rF 2
   have f3:=row_cell rF 3
   have bF:=(((BV.out.setCell (p:=⟨w.heap.size+1,0,none⟩) (by show w.heap.size≤w.heap.size+1;omega) (.func (.func y.f) #[] #[])).setCell (p:=⟨w.heap.size+1,1,none⟩) (by show w.heap.size≤w.heap.size+1;omega) (.int .i64 y.tb)).setCell (p:=⟨w.heap.size+1,2,none⟩) (by show w.heap.size≤w.heap.size+1;omega) (.int .i64 y.lo)).setCell (p:=⟨w.heap.size+1,3,none⟩) (by show w.heap.size≤w.heap.size+1;omega) (.int .i64 y.hi)
   generalize (((V.setCell ⟨w.heap.size+1,0,none⟩ (.func (.func y.f) #[] #[])).setCell ⟨w.heap.size+1,1,none⟩ (.int .i64 y.tb)).setCell ⟨w.heap.size+1,2,none⟩ (.int .i64 y.lo)).setCell ⟨w.heap.size+1,3,none⟩ (.int .i64 y.hi)=U at *
   simp at f0 f1 f2 f3
   have BF:=hid bF
   clear bF rF v0 v1 v2 v3 vf
   go_wp2
   refine bodyPost_ret (v:=.tuple #[y.val,.bool true]) (by simp[results,Tryz.results183,go_sem,f0,f1,f2,f3]) rfl ⟨by first|rfl|(rw[hfd,HR.out]),BF.out⟩
 ·refine KC.mono ?_
  rintro e X5 ⟨rfl,rfl⟩
  have x4:=row_cell rA 4
  have lA:=row_lt rA
  have lB:=row_lt rB
  have RAC:=hid rA
  have RBC:=hid rB
  have BC:=hid b4
  have OC:=hid o4
  have Z4:=hid z4
  have hw5:w.heap.size+3≤X5.heap.size:=by omega
  clear b4 rA rB o4 B3 RA RB z4 zA KC
  go_wp2_with fail
  refine(e_key X5).mono ?_
  rintro e X5' ⟨rfl,b7⟩
  have z7:=b7.size
  have B7:=hid (BC.out.trans (b7.mono (by omega)))
  have RA7:=hid (row_below RAC.out b7 lA)
  have RB7:=hid (row_below RBC.out b7 lB)
  have O7:=hid (OwnF.below OC.out b7)
  clear b7 x4
  go_wp2_with (at_builtin;refine wpList_appF rfl _ _ _ rfl _ 32 Tryz.underlying304 infoFd rfl O7.out fdKe (by first|omega|(simp <;> omega)) (by rfl) (by rfl) (by first|rfl|simp) rfl (fd_one _) (by first|omega|(simp only[List.length_append,List.length_cons,List.length_nil,List.length_replicate];omega)) (by first|omega|(simp only[List.length_append,List.length_cons,List.length_nil,List.length_replicate];omega)) ?_;refine Stop.halt ?_)
  refine Stop.go ?_
  intro g8 c8 Y1 o8 G8
  have b8:=B7.out.trans (G8.below (by omega) fun q h=>by have:=(O7.out.lt q h).1;omega)
  have BC:=hid b8
  have RAC:=hid (row_grw RA7.out G8 (OwnF.neT O7.out RA7.out (by decide)))
  have RBC:=hid (row_grw RB7.out G8 (fun e=>by have:=(O7.out.lt _ e).1;omega))
  have OC:=hid o8
  have hzY:w.heap.size+3≤Y1.heap.size:=by have:=G8.size;omega
  clear b8 B7 RA7 RB7 O7 o8 G8
  have x4:=row_cell RAC.out 4
  have lA:=row_lt RAC.out
  have lB:=row_lt RBC.out
  go_wp2_with fail
  refine(VC Y1).mono ?_
  rintro e Y1v ⟨rfl,hX6⟩
  subst hX6
  go_wp2_with fail
  obtain⟨Y,rfl⟩:∃Y,Y=Y1v:=⟨_,rfl⟩
  clear VC
  have BY:=hid BC.out
  have RAY:=hid RAC.out
  have RBY:=hid RBC.out
  have OY:=hid OC.out
  clear BC RAC RBC OC x4 lA lB
  have hfd:callG xo=[fdTx,fdOb,fdOp,fdKe]:=by simp[callG,hk,hv]
  rw[hfd]
  unfold FdRet
  generalize hr:([fdTx,fdOb,fdOp,fdKe]:List Fd)[i]?=r
  have HR:=hid hr
  clear hr
  have y0:Y.cell? ⟨b,0,none⟩=some (.func (.func 179) #[] #[]):=row_cell (row_below HL.out BY.out lb) 0
  have zY:=BY.out.size
  have lby:b < Y.heap.size:=by omega
  have yy:=row_cell RAY.out
  have yy0:=yy 0
  have yy1:=yy 1
  have yy2:=yy 2
  have yy3:=yy 3
  have yy4:=yy 4
  have yy5:=yy 5
  have yy6:=yy 6
  have yy7:=yy 7
  clear yy
  have ly:=row_lt RAY.out
  have lz:=row_lt RBY.out
  refine wp_rN (Y.heap.size) [1,0,3,1,0,3,0,0,2,0] (.fin [0,1,3,4,2,5,6,7,8,9]) (by kernel_rfl) ?_
  simp only[wpT,selX,guardAt,sD,sE,sF,sG]
  repeat first|(refine wpL_p fun K hK=>?_;go_simp;refine hK _ _ ?_;clear hK K)|(apply wpL_s;(intro w2 hw2;have hk1:=hw2.cell;have hk3:=hw2.1;clear hw2;go_simp;with_reducible rfl);simp only[Act.put,sA,sB,sC])
  refine wpL_k (fun K hK=>?_)
  go_simp
  refine(e_list _ ⟨_,_,_,rfl⟩ _).mono ?_
  rintro e Z ⟨rfl,hZ⟩
  have bZ:Below Y.heap.size Y Z:=by rw[hZ];exact(Below.refl _ Y).drew.alloc (Nat.le_refl _) _
  have rZ:Z.heap[Y.heap.size]?=some (.cells #[.slice (some ⟨g8,0,none⟩) 4 c8] 304 (0,0)):=by rw[hZ];exact row_new' (w:=Y.drew) rfl
  refine hK _ _ (RN.KeepsN.of_below (by rw[hZ];exact(Below.refl _ Y.drew).alloc (Nat.le_refl _) _)) ?_
  clear hK K hZ
  have zZ:=bZ.size
  refine wpL_k (fun K hK=>?_)
  go_simp
  refine(e_next ⟨xk,xx,xh,xj,xo,xy,xv,xr⟩ i hi _ _ ([fdTx,fdOb,fdOp,fdKe]) rZ ((OwnF.below OY.out bZ).sl)).mono ?_
  rintro e V ⟨rfl,bV⟩
  rw[HR.out]
  cases r with
  |none=>
   refine hK _ _ (RN.KeepsN.of_below (bV.mono zZ)) ?_
   clear hK K
   have bW:Below Y.heap.size Y V:=bZ.trans (bV.mono zZ)
   have rV:=row_below RBY.out bW lz
   have v0:=row_cell rV 0
   have v1:=row_cell rV 1
   have v2:=row_cell rV 2
   have v3:=row_cell rV 3
   have vf:∀j,V.frozen? ⟨w.heap.size+1,j,none⟩=false:=fun j=>row_free rV j
   have lV:=row_lt rV
   have BV:=hid (BY.out.trans (bW.mono (by omega)))
   have RV:=hid rV
   clear bW rV rZ bZ bV y0 yy0 yy1 yy2 yy3 yy4 yy5 yy6 yy7
   repeat (refine wpL_p fun K hK=>?_;go_simp;refine hK _ _ ?_;clear hK K)
   refine wpL_e (fun K hK=>?_)
   go_simp
   refine hK _ _ ?_
   clear hK K
   repeat first|(refine wpL_p fun K hK=>?_;go_simp;refine hK _ _ ?_;clear hK K)|refine wpL_nil ?_
   have rF:=row_set (row_set (row_set (row_set RV.out 0 .nilFunc) 1 (.int .i64 0)) 2 (.int .i64 0)) 3 (.int .i64 0)
   have f0:=row_cell rF 0
   have f1:=row_cell rF 1
   have f2:=row_cell rF 2
   have f3:=row_cell rF 3
   have bF:=(((BV.out.setCell (p:=⟨w.heap.size+1,0,none⟩) (by show w.heap.size≤w.heap.size+1;omega) .nilFunc).setCell (p:=⟨w.heap.size+1,1,none⟩) (by show w.heap.size≤w.heap.size+1;omega) (.int .i64 0)).setCell (p:=⟨w.heap.size+1,2,none⟩) (by show w.heap.size≤w.heap.size+1;omega) (.int .i64 0)).setCell (p:=⟨w.heap.size+1,3,none⟩) (by show w.heap.size≤w.heap.size+1;omega) (.int .i64 0)
   generalize (((V.setCell ⟨w.heap.size+1,0,none⟩ .nilFunc).setCell ⟨w.heap.size+1,1,none⟩ (.int .i64 0)).setCell ⟨w.heap.size+1,2,none⟩ (.int .i64 0)).setCell ⟨w.heap.size+1,3,none⟩ (.int .i64 0)=U at *
   simp at f0 f1 f2 f3
   have BF:=hid bF
   clear bF rF v0 v1 v2 v3 vf
   go_wp2
   refine bodyPost_ret (v:=.tuple #[fdZ,.bool false]) (by simp[results,Tryz.results183,go_sem,f0,f1,f2,f3]) rfl ⟨by first|rfl|(rw[hfd,HR.out]),BF.out⟩
  |some y=>
   refine hK _ _ (RN.KeepsN.of_below (bV.mono zZ)) ?_
   clear hK K
   have bW:Below Y.heap.size Y V:=bZ.trans (bV.mono zZ)
   have rV:=row_below RBY.out bW lz
   have v0:=row_cell rV 0
   have v1:=row_cell rV 1
   have v2:=row_cell rV 2
   have v3:=row_cell rV 3
   have vf:∀j,V.frozen? ⟨w.heap.size+1,j,none⟩=false:=fun j=>row_free rV j
   have lV:=row_lt rV
   have BV:=hid (BY.out.trans (bW.mono (by omega)))
   have RV:=hid rV
   clear bW rV rZ bZ bV y0 yy0 yy1 yy2 yy3 yy4 yy5 yy6 yy7
   repeat (refine wpL_p fun K hK=>?_;go_simp;refine hK _ _ ?_;clear hK K)
   refine wpL_e (fun K hK=>?_)
   go_simp
   refine hK _ _ ?_
   clear hK K
   repeat first|(refine wpL_p fun K hK=>?_;go_simp;refine hK _ _ ?_;clear hK K)|refine wpL_nil ?_
   have rF:=row_set (row_set (row_set (row_set RV.out 0 (.func (.func y.f) #[] #[])) 1 (.int .i64 y.tb)) 2 (.int .i64 y.lo)) 3 (.int .i64 y.hi)
   have f0:=row_cell rF 0
   have f1:=row_cell rF 1
   have f2:=row_cell rF 2
   have f3:=row_cell rF 3
   have bF:=(((BV.out.setCell (p:=⟨w.heap.size+1,0,none⟩) (by show w.heap.size≤w.heap.size+1;omega) (.func (.func y.f) #[] #[])).setCell (p:=⟨w.heap.size+1,1,none⟩) (by show w.heap.size≤w.heap.size+1;omega) (.int .i64 y.tb)).setCell (p:=⟨w.heap.size+1,2,none⟩) (by show w.heap.size≤w.heap.size+1;omega) (.int .i64 y.lo)).setCell (p:=⟨w.heap.size+1,3,none⟩) (by show w.heap.size≤w.heap.size+1;omega) (.int .i64 y.hi)
   generalize (((V.setCell ⟨w.heap.size+1,0,none⟩ (.func (.func y.f) #[] #[])).setCell ⟨w.heap.size+1,1,none⟩ (.int .i64 y.tb)).setCell ⟨w.heap.size+1,2,none⟩ (.int .i64 y.lo)).setCell ⟨w.heap.size+1,3,none⟩ (.int .i64 y.hi)=U at *
   simp at f0 f1 f2 f3
   have BF:=hid bF
   clear bF rF v0 v1 v2 v3 vf
   go_wp2
   refine bodyPost_ret (v:=.tuple #[y.val,.bool true]) (by simp[results,Tryz.results183,go_sem,f0,f1,f2,f3]) rfl ⟨by first|rfl|(rw[hfd,HR.out]),BF.out⟩
 ·refine KC.mono ?_
  rintro e X5 ⟨rfl,rfl⟩
  have x4:=row_cell rA 4
  have lA:=row_lt rA
  have lB:=row_lt rB
  have RAC:=hid rA
  have RBC:=hid rB
  have BC:=hid b4
  have OC:=hid o4
  have Z4:=hid z4
  have hw5:w.heap.size+3≤X5.heap.size:=by omega
  clear b4 rA rB o4 B3 RA RB z4 zA KC
  go_wp2_with fail
  refine(e_key X5).mono ?_
  rintro e X5' ⟨rfl,b7⟩
  have z7:=b7.size
  have B7:=hid (BC.out.trans (b7.mono (by omega)))
  have RA7:=hid (row_below RAC.out b7 lA)
  have RB7:=hid (row_below RBC.out b7 lB)
  have O7:=hid (OwnF.below OC.out b7)
  clear b7 x4
  go_wp2_with (at_builtin;refine wpList_appF rfl _ _ _ rfl _ 32 Tryz.underlying304 infoFd rfl O7.out fdKe (by first|omega|(simp <;> omega)) (by rfl) (by rfl) (by first|rfl|simp) rfl (fd_one _) (by first|omega|(simp only[List.length_append,List.length_cons,List.length_nil,List.length_replicate];omega)) (by first|omega|(simp only[List.length_append,List.length_cons,List.length_nil,List.length_replicate];omega)) ?_;refine Stop.halt ?_)
  refine Stop.go ?_
  intro g8 c8 Y1 o8 G8
  have b8:=B7.out.trans (G8.below (by omega) fun q h=>by have:=(O7.out.lt q h).1;omega)
  have BC:=hid b8
  have RAC:=hid (row_grw RA7.out G8 (OwnF.neT O7.out RA7.out (by decide)))
  have RBC:=hid (row_grw RB7.out G8 (fun e=>by have:=(O7.out.lt _ e).1;omega))
  have OC:=hid o8
  have hzY:w.heap.size+3≤Y1.heap.size:=by have:=G8.size;omega
  clear b8 B7 RA7 RB7 O7 o8 G8
  have x4:=row_cell RAC.out 4
  have lA:=row_lt RAC.out
  have lB:=row_lt RBC.out
  go_wp2_with fail
  refine(VC Y1).mono ?_
  rintro e Y1v ⟨rfl,hX6⟩
  subst hX6
  go_wp2_with fail
  refine(e_val Y1v).mono ?_
  rintro e Y1v' ⟨rfl,b7⟩
  have z7:=b7.size
  have B7:=hid (BC.out.trans (b7.mono (by omega)))
  have RA7:=hid (row_below RAC.out b7 lA)
  have RB7:=hid (row_below RBC.out b7 lB)
  have O7:=hid (OwnF.below OC.out b7)
  clear b7 x4
  go_wp2_with (at_builtin;refine wpList_appF rfl _ _ _ rfl _ 32 Tryz.underlying304 infoFd rfl O7.out fdVa (by first|omega|(simp <;> omega)) (by rfl) (by rfl) (by first|rfl|simp) rfl (fd_one _) (by first|omega|(simp only[List.length_append,List.length_cons,List.length_nil,List.length_replicate];omega)) (by first|omega|(simp only[List.length_append,List.length_cons,List.length_nil,List.length_replicate];omega)) ?_;refine Stop.halt ?_)
  refine Stop.go ?_
  intro g8 c8 Y2 o8 G8
  have b8:=B7.out.trans (G8.below (by omega) fun q h=>by have:=(O7.out.lt q h).1;omega)
  have BC:=hid b8
  have RAC:=hid (row_grw RA7.out G8 (OwnF.neT O7.out RA7.out (by decide)))
  have RBC:=hid (row_grw RB7.out G8 (fun e=>by have:=(O7.out.lt _ e).1;omega))
  have OC:=hid o8
  have hzY:w.heap.size+3≤Y2.heap.size:=by have:=G8.size;omega
  clear b8 B7 RA7 RB7 O7 o8 G8
  have x4:=row_cell RAC.out 4
  have lA:=row_lt RAC.out
  have lB:=row_lt RBC.out
  go_wp2_with fail
  obtain⟨Y,rfl⟩:∃Y,Y=Y2:=⟨_,rfl⟩
  clear VC
  have BY:=hid BC.out
  have RAY:=hid RAC.out
  have RBY:=hid RBC.out
  have OY:=hid OC.out
  clear BC RAC RBC OC x4 lA lB
  have hfd:callG xo=[fdTx,fdOb,fdOp,fdKe,fdVa]:=by simp[callG,hk,hv]
  rw[hfd]
  unfold FdRet
  generalize hr:([fdTx,fdOb,fdOp,fdKe,fdVa]:List Fd)[i]?=r
  have HR:=hid hr
  clear hr
  have y0:Y.cell? ⟨b,0,none⟩=some (.func (.func 179) #[] #[]):=row_cell (row_below HL.out BY.out lb) 0
  have zY:=BY.out.size
  have lby:b < Y.heap.size:=by omega
  have yy:=row_cell RAY.out
  have yy0:=yy 0
  have yy1:=yy 1
  have yy2:=yy 2
  have yy3:=yy 3
  have yy4:=yy 4
  have yy5:=yy 5
  have yy6:=yy 6
  have yy7:=yy 7
  clear yy
  have ly:=row_lt RAY.out
  have lz:=row_lt RBY.out
  refine wp_rN (Y.heap.size) [1,0,3,1,0,3,0,0,2,0] (.fin [0,1,3,4,2,5,6,7,8,9]) (by kernel_rfl) ?_
  simp only[wpT,selX,guardAt,sD,sE,sF,sG]
  repeat first|(refine wpL_p fun K hK=>?_;go_simp;refine hK _ _ ?_;clear hK K)|(apply wpL_s;(intro w2 hw2;have hk1:=hw2.cell;have hk3:=hw2.1;clear hw2;go_simp;with_reducible rfl);simp only[Act.put,sA,sB,sC])
  refine wpL_k (fun K hK=>?_)
  go_simp
  refine(e_list _ ⟨_,_,_,rfl⟩ _).mono ?_
  rintro e Z ⟨rfl,hZ⟩
  have bZ:Below Y.heap.size Y Z:=by rw[hZ];exact(Below.refl _ Y).drew.alloc (Nat.le_refl _) _
  have rZ:Z.heap[Y.heap.size]?=some (.cells #[.slice (some ⟨g8,0,none⟩) 5 c8] 304 (0,0)):=by rw[hZ];exact row_new' (w:=Y.drew) rfl
  refine hK _ _ (RN.KeepsN.of_below (by rw[hZ];exact(Below.refl _ Y.drew).alloc (Nat.le_refl _) _)) ?_
  clear hK K hZ
  have zZ:=bZ.size
  refine wpL_k (fun K hK=>?_)
  go_simp
  refine(e_next ⟨xk,xx,xh,xj,xo,xy,xv,xr⟩ i hi _ _ ([fdTx,fdOb,fdOp,fdKe,fdVa]) rZ ((OwnF.below OY.out bZ).sl)).mono ?_
  rintro e V ⟨rfl,bV⟩
  rw[HR.out]
  cases r with
  |none=>
   refine hK _ _ (RN.KeepsN.of_below (bV.mono zZ)) ?_
   clear hK K
   have bW:Below Y.heap.size Y V:=bZ.trans (bV.mono zZ)
   have rV:=row_below RBY.out bW lz
   have v0:=row_cell rV 0
   have v1:=row_cell rV 1
   have v2:=row_cell rV 2
   have v3:=row_cell rV 3
   have vf:∀j,V.frozen? ⟨w.heap.size+1,j,none⟩=false:=fun j=>row_free rV j
   have lV:=row_lt rV
   have BV:=hid (BY.out.trans (bW.mono (by omega)))
   have RV:=hid rV
   clear bW rV rZ bZ bV y0 yy0 yy1 yy2 yy3 yy4 yy5 yy6 yy7
   repeat (refine wpL_p fun K hK=>?_;go_simp;refine hK _ _ ?_;clear hK K)
   refine wpL_e (fun K hK=>?_)
   go_simp
   refine hK _ _ ?_
   clear hK K
   repeat first|(refine wpL_p fun K hK=>?_;go_simp;refine hK _ _ ?_;clear hK K)|refine wpL_nil ?_
   have rF:=row_set (row_set (row_set (row_set RV.out 0 .nilFunc) 1 (.int .i64 0)) 2 (.int .i64 0)) 3 (.int .i64 0)
   have f0:=row_cell rF 0
   have f1:=row_cell rF 1
   have f2:=row_cell rF 2
   have f3:=row_cell rF 3
   have bF:=(((BV.out.setCell (p:=⟨w.heap.size+1,0,none⟩) (by show w.heap.size≤w.heap.size+1;omega) .nilFunc).setCell (p:=⟨w.heap.size+1,1,none⟩) (by show w.heap.size≤w.heap.size+1;omega) (.int .i64 0)).setCell (p:=⟨w.heap.size+1,2,none⟩) (by show w.heap.size≤w.heap.size+1;omega) (.int .i64 0)).setCell (p:=⟨w.heap.size+1,3,none⟩) (by show w.heap.size≤w.heap.size+1;omega) (.int .i64 0)
   generalize (((V.setCell ⟨w.heap.size+1,0,none⟩ .nilFunc).setCell ⟨w.heap.size+1,1,none⟩ (.int .i64 0)).setCell ⟨w.heap.size+1,2,none⟩ (.int .i64 0)).setCell ⟨w.heap.size+1,3,none⟩ (.int .i64 0)=U at *
   simp at f0 f1 f2 f3
   have BF:=hid bF
   clear bF rF v0 v1 v2 v3 vf
   go_wp2
   refine bodyPost_ret (v:=.tuple #[fdZ,.bool false]) (by simp[results,Tryz.results183,go_sem,f0,f1,f2,f3]) rfl ⟨by first|rfl|(rw[hfd,HR.out]),BF.out⟩
  |some y=>
   refine hK _ _ (RN.KeepsN.of_below (bV.mono zZ)) ?_
   clear hK K
   have bW:Below Y.heap.size Y V:=bZ.trans (bV.mono zZ)
   have rV:=row_below RBY.out bW lz
   have v0:=row_cell rV 0
   have v1:=row_cell rV 1
   have v2:=row_cell rV 2
   have v3:=row_cell rV 3
   have vf:∀j,V.frozen? ⟨w.heap.size+1,j,none⟩=false:=fun j=>row_free rV j
   have lV:=row_lt rV
   have BV:=hid (BY.out.trans (bW.mono (by omega)))
   have RV:=hid rV
   clear bW rV rZ bZ bV y0 yy0 yy1 yy2 yy3 yy4 yy5 yy6 yy7
   repeat (refine wpL_p fun K hK=>?_;go_simp;refine hK _ _ ?_;clear hK K)
   refine wpL_e (fun K hK=>?_)
   go_simp
   refine hK _ _ ?_
   clear hK K
   repeat first|(refine wpL_p fun K hK=>?_;go_simp;refine hK _ _ ?_;clear hK K)|refine wpL_nil ?_
   have rF:=row_set (row_set (row_set (row_set RV.out 0 (.func (.func y.f) #[] #[])) 1 (.int .i64 y.tb)) 2 (.int .i64 y.lo)) 3 (.int .i64 y.hi)
   have f0:=row_cell rF 0
   have f1:=row_cell rF 1
   have f2:=row_cell rF 2
   have f3:=row_cell rF 3
   have bF:=(((BV.out.setCell (p:=⟨w.heap.size+1,0,none⟩) (by show w.heap.size≤w.heap.size+1;omega) (.func (.func y.f) #[] #[])).setCell (p:=⟨w.heap.size+1,1,none⟩) (by show w.heap.size≤w.heap.size+1;omega) (.int .i64 y.tb)).setCell (p:=⟨w.heap.size+1,2,none⟩) (by show w.heap.size≤w.heap.size+1;omega) (.int .i64 y.lo)).setCell (p:=⟨w.heap.size+1,3,none⟩) (by show w.heap.size≤w.heap.size+1;omega) (.int .i64 y.hi)
   generalize (((V.setCell ⟨w.heap.size+1,0,none⟩ (.func (.func y.f) #[] #[])).setCell ⟨w.heap.size+1,1,none⟩ (.int .i64 y.tb)).setCell ⟨w.heap.size+1,2,none⟩ (.int .i64 y.lo)).setCell ⟨w.heap.size+1,3,none⟩ (.int .i64 y.hi)=U at *
   simp at f0 f1 f2 f3
   have BF:=hid bF
   clear bF rF v0 v1 v2 v3 vf
   go_wp2
   refine bodyPost_ret (v:=.tuple #[y.val,.bool true]) (by simp[results,Tryz.results183,go_sem,f0,f1,f2,f3]) rfl ⟨by first|rfl|(rw[hfd,HR.out]),BF.out⟩
theorem g_retA (x:Ev) (hop:x.ret≠3) (i:Nat) (hi:i≤100) (b:Nat) (h:LstAt w b):
  Calls Tryz.prog 188 #[evV x,.int .i64 i,.pointer (some ⟨b,0,none⟩)] w (FdRet (retG x.ret) i w):=by
 obtain⟨xk,xx,xh,xj,xo,xy,xv,xr⟩:=x
 simp only at hop
 show Calls _ _ _ w (FdRet (retG xr) i w)
 have q13:(xr==3)=false:=by simpa using hop
 have h0:=row_cell h 0
 have lb:=row_lt h
 have HL:=hid h
 clear h
 go_enter Tryz.func188,Tryz.ntmps188
 go_wp2_with fail
 have bA:Below w.heap.size w ((w.alloc (.cells #[.int .i64 xk,.int .i64 xx,.int .i64 xh,.int .i64 xj,.int .i64 xo,.int .i64 xy,.int .i64 xv,.int .i64 xr] 69)).alloc (.cells #[.nilFunc,.int .i64 0,.int .i64 0,.int .i64 0] 260)):=((Below.refl w.heap.size w).alloc (Nat.le_refl _) _).alloc (by simp) _
 have rA:=row_old (o:=.cells #[.nilFunc,.int .i64 0,.int .i64 0,.int .i64 0] 260) (row_new w (.cells #[.int .i64 xk,.int .i64 xx,.int .i64 xh,.int .i64 xj,.int .i64 xo,.int .i64 xy,.int .i64 xv,.int .i64 xr] 69))
 have rB:=row_new' (w:=w.alloc (.cells #[.int .i64 xk,.int .i64 xx,.int .i64 xh,.int .i64 xj,.int .i64 xo,.int .i64 xy,.int .i64 xv,.int .i64 xr] 69)) (o:=.cells #[.nilFunc,.int .i64 0,.int .i64 0,.int .i64 0] 260) (g:=w.heap.size+1) (by simp)
 have zA:((w.alloc (.cells #[.int .i64 xk,.int .i64 xx,.int .i64 xh,.int .i64 xj,.int .i64 xo,.int .i64 xy,.int .i64 xv,.int .i64 xr] 69)).alloc (.cells #[.nilFunc,.int .i64 0,.int .i64 0,.int .i64 0] 260)).heap.size=w.heap.size+2:=by simp
 generalize (w.alloc (.cells #[.int .i64 xk,.int .i64 xx,.int .i64 xh,.int .i64 xj,.int .i64 xo,.int .i64 xy,.int .i64 xv,.int .i64 xr] 69)).alloc (.cells #[.nilFunc,.int .i64 0,.int .i64 0,.int .i64 0] 260)=X at *
 refine(e_tx X).mono ?_
 rintro e X1 ⟨rfl,b1⟩
 have z1:=b1.size
 have b1:=bA.trans (b1.mono (by omega))
 have rA:=row_below rA ‹Below X.heap.size X X1› (by omega)
 have rB:=row_below rB ‹Below X.heap.size X X1› (by omega)
 go_wp2_with fail
 refine(e_ret X1).mono ?_
 rintro e X3 ⟨rfl,b3⟩
 have z3:=b3.size
 have rA:=row_below rA b3 (by omega)
 have rB:=row_below rB b3 (by omega)
 have b3:=b1.trans (b3.mono (by omega))
 have x4:=row_cell rA 7
 have lA:=row_lt rA
 have lB:=row_lt rB
 have RA:=hid rA
 have RB:=hid rB
 have B3:=hid b3
 clear b1 b3 bA rA rB
 go_wp2_with fail
 have o4:OwnF Fd.cells 260 4 (X3.alloc (.cells #[.func (.func fdTx.f) #[] #[],.int .i64 fdTx.tb,.int .i64 fdTx.lo,.int .i64 fdTx.hi,.func (.func fdRe.f) #[] #[],.int .i64 fdRe.tb,.int .i64 fdRe.lo,.int .i64 fdRe.hi] 260)) w.heap.size (.slice (some ⟨X3.heap.size,0,none⟩) 2 2) [fdTx,fdRe]:=OwnF.lit (f:=Fd.cells) X3 w.heap.size (by omega) [fdTx,fdRe] Fd.len (by decide)
 have b4:Below w.heap.size w (X3.alloc (.cells #[.func (.func fdTx.f) #[] #[],.int .i64 fdTx.tb,.int .i64 fdTx.lo,.int .i64 fdTx.hi,.func (.func fdRe.f) #[] #[],.int .i64 fdRe.tb,.int .i64 fdRe.lo,.int .i64 fdRe.hi] 260)):=B3.out.alloc (by omega) _
 have rA:=row_old (o:=.cells #[.func (.func fdTx.f) #[] #[],.int .i64 fdTx.tb,.int .i64 fdTx.lo,.int .i64 fdTx.hi,.func (.func fdRe.f) #[] #[],.int .i64 fdRe.tb,.int .i64 fdRe.lo,.int .i64 fdRe.hi] 260) RA.out
 have rB:=row_old (o:=.cells #[.func (.func fdTx.f) #[] #[],.int .i64 fdTx.tb,.int .i64 fdTx.lo,.int .i64 fdTx.hi,.func (.func fdRe.f) #[] #[],.int .i64 fdRe.tb,.int .i64 fdRe.lo,.int .i64 fdRe.hi] 260) RB.out
 have z4:(X3.alloc (.cells #[.func (.func fdTx.f) #[] #[],.int .i64 fdTx.tb,.int .i64 fdTx.lo,.int .i64 fdTx.hi,.func (.func fdRe.f) #[] #[],.int .i64 fdRe.tb,.int .i64 fdRe.lo,.int .i64 fdRe.hi] 260)).heap.size=X3.heap.size+1:=by simp
 generalize X3.alloc (.cells #[.func (.func fdTx.f) #[] #[],.int .i64 fdTx.tb,.int .i64 fdTx.lo,.int .i64 fdTx.hi,.func (.func fdRe.f) #[] #[],.int .i64 fdRe.tb,.int .i64 fdRe.lo,.int .i64 fdRe.hi] 260)=X4 at *
 obtain⟨X5,rfl⟩:∃X5,X5=X4:=⟨_,rfl⟩
 have x4:=row_cell rA 7
 have lA:=row_lt rA
 have lB:=row_lt rB
 have RA4:=hid rA
 have RB4:=hid rB
 have B4:=hid b4
 have O4:=hid o4
 have Z4:=hid z4
 have z4':X3.heap.size+1≤X5.heap.size:=by omega
 have hX3:w.heap.size+2≤X3.heap.size:=by omega
 have hw5:w.heap.size+3≤X5.heap.size:=by omega
 clear b4 rA rB o4 B3 RA RB z4 zA
 obtain⟨X6,rfl⟩:∃X6,X6=X5:=⟨_,rfl⟩
 ·have q13:(xr==3)=false:=by simpa using hop
  obtain⟨Y,rfl⟩:∃Y,Y=X6:=⟨_,rfl⟩
  have BY:=hid B4.out
  have RAY:=hid RA4.out
  have RBY:=hid RB4.out
  have OY:=hid O4.out
  clear B4 RA4 RB4 O4 x4 lA lB
  have hfd:retG xr=[fdTx,fdRe]:=by simp[retG,q13]
  rw[hfd]
  unfold FdRet
  generalize hr:([fdTx,fdRe]:List Fd)[i]?=r
  have HR:=hid hr
  clear hr
  have y0:Y.cell? ⟨b,0,none⟩=some (.func (.func 179) #[] #[]):=row_cell (row_below HL.out BY.out lb) 0
  have zY:=BY.out.size
  have lby:b < Y.heap.size:=by omega
  have yy:=row_cell RAY.out
  have yy0:=yy 0
  have yy1:=yy 1
  have yy2:=yy 2
  have yy3:=yy 3
  have yy4:=yy 4
  have yy5:=yy 5
  have yy6:=yy 6
  have yy7:=yy 7
  clear yy
  have ly:=row_lt RAY.out
  have lz:=row_lt RBY.out
  refine wp_rN (Y.heap.size) [1,0,3,1,0,3,0,0,2,0] (.fin [0,1,3,4,2,5,6,7,8,9]) (by kernel_rfl) ?_
  simp only[wpT,selX,guardAt,sD,sE,sF,sG]
  repeat first|(refine wpL_p fun K hK=>?_;go_simp;refine hK _ _ ?_;clear hK K)|(apply wpL_s;(intro w2 hw2;have hk1:=hw2.cell;have hk3:=hw2.1;clear hw2;go_simp;with_reducible rfl);simp only[Act.put,sA,sB,sC])
  refine wpL_k (fun K hK=>?_)
  go_simp
  refine(e_list _ ⟨_,_,_,rfl⟩ _).mono ?_
  rintro e Z ⟨rfl,hZ⟩
  have bZ:Below Y.heap.size Y Z:=by rw[hZ];exact(Below.refl _ Y).drew.alloc (Nat.le_refl _) _
  have rZ:Z.heap[Y.heap.size]?=some (.cells #[.slice (some ⟨X3.heap.size,0,none⟩) 2 2] 304 (0,0)):=by rw[hZ];exact row_new' (w:=Y.drew) rfl
  refine hK _ _ (RN.KeepsN.of_below (by rw[hZ];exact(Below.refl _ Y.drew).alloc (Nat.le_refl _) _)) ?_
  clear hK K hZ
  have zZ:=bZ.size
  refine wpL_k (fun K hK=>?_)
  go_simp
  refine(e_next ⟨xk,xx,xh,xj,xo,xy,xv,xr⟩ i hi _ _ ([fdTx,fdRe]) rZ ((OwnF.below OY.out bZ).sl)).mono ?_
  rintro e V ⟨rfl,bV⟩
  rw[HR.out]
  cases r with
  |none=>
   refine hK _ _ (RN.KeepsN.of_below (bV.mono zZ)) ?_
   clear hK K
   have bW:Below Y.heap.size Y V:=bZ.trans (bV.mono zZ)
   have rV:=row_below RBY.out bW lz
   have v0:=row_cell rV 0
   have v1:=row_cell rV 1
   have v2:=row_cell rV 2
   have v3:=row_cell rV 3
   have vf:∀j,V.frozen? ⟨w.heap.size+1,j,none⟩=false:=fun j=>row_free rV j
   have lV:=row_lt rV
   have BV:=hid (BY.out.trans (bW.mono (by omega)))
   have RV:=hid rV
   clear bW rV rZ bZ bV y0 yy0 yy1 yy2 yy3 yy4 yy5 yy6 yy7
   repeat (refine wpL_p fun K hK=>?_;go_simp;refine hK _ _ ?_;clear hK K)
   refine wpL_e (fun K hK=>?_)
   go_simp
   refine hK _ _ ?_
   clear hK K
   repeat first|(refine wpL_p fun K hK=>?_;go_simp;refine hK _ _ ?_;clear hK K)|refine wpL_nil ?_
   have rF:=row_set (row_set (row_set (row_set RV.out 0 .nilFunc) 1 (.int .i64 0)) 2 (.int .i64 0)) 3 (.int .i64 0)
   have f0:=row_cell rF 0
   have f1:=row_cell rF 1
   have f2:=row_cell rF 2
   have f3:=row_cell rF 3
   have bF:=(((BV.out.setCell (p:=⟨w.heap.size+1,0,none⟩) (by show w.heap.size≤w.heap.size+1;omega) .nilFunc).setCell (p:=⟨w.heap.size+1,1,none⟩) (by show w.heap.size≤w.heap.size+1;omega) (.int .i64 0)).setCell (p:=⟨w.heap.size+1,2,none⟩) (by show w.heap.size≤w.heap.size+1;omega) (.int .i64 0)).setCell (p:=⟨w.heap.size+1,3,none⟩) (by show w.heap.size≤w.heap.size+1;omega) (.int .i64 0)
   generalize (((V.setCell ⟨w.heap.size+1,0,none⟩ .nilFunc).setCell ⟨w.heap.size+1,1,none⟩ (.int .i64 0)).setCell ⟨w.heap.size+1,2,none⟩ (.int .i64 0)).setCell ⟨w.heap.size+1,3,none⟩ (.int .i64 0)=U at *
   simp at f0 f1 f2 f3
   have BF:=hid bF
   clear bF rF v0 v1 v2 v3 vf
   go_wp2
   refine bodyPost_ret (v:=.tuple #[fdZ,.bool false]) (by simp[results,Tryz.results188,go_sem,f0,f1,f2,f3]) rfl ⟨by first|rfl|(rw[hfd,HR.out]),BF.out⟩
  |some y=>
   refine hK _ _ (RN.KeepsN.of_below (bV.mono zZ)) ?_
   clear hK K
   have bW:Below Y.heap.size Y V:=bZ.trans (bV.mono zZ)
   have rV:=row_below RBY.out bW lz
   have v0:=row_cell rV 0
   have v1:=row_cell rV 1
   have v2:=row_cell rV 2
   have v3:=row_cell rV 3
   have vf:∀j,V.frozen? ⟨w.heap.size+1,j,none⟩=false:=fun j=>row_free rV j
   have lV:=row_lt rV
   have BV:=hid (BY.out.trans (bW.mono (by omega)))
   have RV:=hid rV
   clear bW rV rZ bZ bV y0 yy0 yy1 yy2 yy3 yy4 yy5 yy6 yy7
   repeat (refine wpL_p fun K hK=>?_;go_simp;refine hK _ _ ?_;clear hK K)
   refine wpL_e (fun K hK=>?_)
   go_simp
   refine hK _ _ ?_
   clear hK K
   repeat first|(refine wpL_p fun K hK=>?_;go_simp;refine hK _ _ ?_;clear hK K)|refine wpL_nil ?_
   have rF:=row_set (row_set (row_set (row_set RV.out 0 (.func (.func y.f) #[] #[])) 1 (.int .i64 y.tb)) 2 (.int .i64 y.lo)) 3 (.int .i64 y.hi)
   have f0:=row_cell rF 0
   have f1:=row_cell rF 1
   have f2:=row_cell rF 2
   have f3:=row_cell rF 3
   have bF:=(((BV.out.setCell (p:=⟨w.heap.size+1,0,none⟩) (by show w.heap.size≤w.heap.size+1;omega) (.func (.func y.f) #[] #[])).setCell (p:=⟨w.heap.size+1,1,none⟩) (by show w.heap.size≤w.heap.size+1;omega) (.int .i64 y.tb)).setCell (p:=⟨w.heap.size+1,2,none⟩) (by show w.heap.size≤w.heap.size+1;omega) (.int .i64 y.lo)).setCell (p:=⟨w.heap.size+1,3,none⟩) (by show w.heap.size≤w.heap.size+1;omega) (.int .i64 y.hi)
   generalize (((V.setCell ⟨w.heap.size+1,0,none⟩ (.func (.func y.f) #[] #[])).setCell ⟨w.heap.size+1,1,none⟩ (.int .i64 y.tb)).setCell ⟨w.heap.size+1,2,none⟩ (.int .i64 y.lo)).setCell ⟨w.heap.size+1,3,none⟩ (.int .i64 y.hi)=U at *
   simp at f0 f1 f2 f3
   have BF:=hid bF
   clear bF rF v0 v1 v2 v3 vf
   go_wp2
   refine bodyPost_ret (v:=.tuple #[y.val,.bool true]) (by simp[results,Tryz.results188,go_sem,f0,f1,f2,f3]) rfl ⟨by first|rfl|(rw[hfd,HR.out]),BF.out⟩
theorem g_retn (x:Ev) (i:Nat) (hi:i≤100) (b:Nat) (h:LstAt w b):
  Calls Tryz.prog 188 #[evV x,.int .i64 i,.pointer (some ⟨b,0,none⟩)] w (FdRet (retG x.ret) i w):=by
 by_cases h3:x.ret=3
 ·have:=e_retn x (.inr h3) i hi b h
  rwa [show retFds x.ret=retG x.ret by rw[h3];rfl] at this
 ·exact g_retA x h3 i hi b h
end
end
