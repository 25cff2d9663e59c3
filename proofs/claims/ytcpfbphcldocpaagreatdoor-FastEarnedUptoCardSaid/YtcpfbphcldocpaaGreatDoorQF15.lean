/- Parts of the proof, merged by program out of 1 texts (GsE): the first: The automaton of well-formed histories of all kinds of objects takes a move, or refuses it. Conditions: those of each theorem, as typed. -/
import Derived.Test.YtcpfbphcldocpaaGreatDoorQF14
set_option linter.unusedVariables false
set_option linter.unusedSimpArgs false
set_option linter.unusedSectionVars false
set_option maxRecDepth 100000
set_option maxHeartbeats 4000000
namespace Go.Proofs.YtcpfbphcldocpaaGreatDoor
open Go.Maps Go.RowKit
section
attribute [local irreducible] wpL
theorem g_moveE (xk xx xh xj xo xy xv xr:Int) {B bA n:Nat} {os:List Ob} {A:Au} {k:Nat} {s s':St} (w:World) (hval:validB ⟨xk,xx,xh,xj,xo,xy,xv,xr⟩=true) (hdr:dI xr) (hk:xk≠2) (hk2:2≤xk) (hk8:xk < 8) (hs:A[k]?=some s) (hi:s.id=xx) (hfr:s.stand ∈ fromOf xk) (hdl:s.stand=2→s.deeds≠[]) (hU:BusyU A) (hm:moveG n ⟨xk,xx,xh,xj,xo,xy,xv,xr⟩ s=some s') (hn:n < 400) (hA:A.length≤1000) (hl:s.deeds.length≤1000) (h:AuAt w B bA os n A) (hW:WordsG w) (hG:ErrsF w):
  Calls Tryz.prog 78 #[.pointer (some ⟨bA,0,none⟩),evV ⟨xk,xx,xh,xj,xo,xy,xv,xr⟩] w (FeedRet w B bA os n (A.set k s')):=by
 obtain⟨bY,bZ,ov,tv,bs,h⟩:=h
 have r0:=h.row
 have l0:=row_lt r0
 have y:=row_cell r0
 have y1:=y 1
 simp at y1
 have b0:Below w.heap.size w (w.alloc (.cells #[.int .i64 xk,.int .i64 xx,.int .i64 xh,.int .i64 xj,.int .i64 xo,.int .i64 xy,.int .i64 xv,.int .i64 xr] 69)):=(Below.refl _ w).alloc (Nat.le_refl _) _
 have re:=row_new w (.cells #[.int .i64 xk,.int .i64 xx,.int .i64 xh,.int .i64 xj,.int .i64 xo,.int .i64 xy,.int .i64 xv,.int .i64 xr] 69)
 obtain⟨hgc,tc,xc,hec⟩:=(hG.g.below b0).code
 obtain⟨hge,te,xe,hee⟩:=(hG.g.below b0).event
 have hv:=g_Valid ⟨xk,xx,xh,xj,xo,xy,xv,xr⟩ hdr _ (hW.below b0) _ _ hgc hec hge hee
 rw[hval] at hv
 simp only[if_true] at hv
 have hv:=hid hv
 have HG:=hid hG
 clear hgc hec hge hee hG hval
 have q1:((n:Int)==400)=false:=by simp;omega
 obtain⟨hid',hth',hst5⟩:=moveG_keeps hm
 have qk1:(xk==1)=false:=by simp;omega
 have HM:=hid hm
 have HFR:=hid hfr
 have HS:=hid hs
 have H:=hid h
 have HB0:=hid b0
 have RE:=hid re
 have hAB:=h.hB
 have hBw:B≤w.heap.size:=by omega
 have qk2:(xk==2)=false:=by simpa using hk
 have HDL:=hid hdl
 have HU:=hid hU
 clear y r0 h hs hm b0 re hfr hdl hU
 go_enter Tryz.func78,Tryz.ntmps78
 go_wp2_with fail
 obtain⟨W,hWW⟩:∃W,W=w.alloc (.cells #[.int .i64 xk,.int .i64 xx,.int .i64 xh,.int .i64 xj,.int .i64 xo,.int .i64 xy,.int .i64 xv,.int .i64 xr] 69):=⟨_,rfl⟩
 rw[←hWW] at hv HB0 RE ⊢
 clear hWW
 refine(hv.out).mono ?_
 rintro e W1 ⟨rfl,b1⟩
 have H1:=hid ((H.out.below HB0.out).below b1)
 have B1:=hid (HB0.out.trans (b1.mono HB0.out.size))
 have re1:=row_below RE.out b1 (row_lt RE.out)
 have le:=row_lt re1
 have ra1:=H1.out.row
 have la:=row_lt ra1
 have hea:w.heap.size≠bA:=by omega
 have hz1:=B1.out.size
 have hbew:w.heap.size < W1.heap.size:=le
 have y:=row_cell re1
 have e0:=y 0
 have e1:=y 1
 have e3:=y 3
 have e4:=y 4
 have e5:=y 5
 have e6:=y 6
 have e7:=y 7
 have e2:=y 2
 simp at e0 e1 e2 e3 e4 e5 e6 e7
 have z:=row_cell ra1
 have a0:=z 0
 have a1:=z 1
 have a3:=z 3
 simp at a0 a1 a3
 obtain⟨bp,hbp,hst⟩:=H1.out.get HS.out
 obtain⟨p,dv⟩:=bp
 obtain⟨MY,hmY,f1,f2⟩:=H1.out.by_.2
 have hMp:MY xx=some (ptrV p):=by rw[←hi];exact f1 k _ s hbp HS.out
 have lY:=hmY.lt
 have RE1:=hid re1
 have RA1:=hid ra1
 have HST:=hid hst
 have HBP:=hid hbp
 have F:=hid (And.intro hmY hMp)
 clear y z re1 ra1 hst hbp hmY hMp f1 f2 b1 hv
 go_wp2_with fail
 have lk1:=(F.out.1.drew.look Tryz.underlying3 Tryz.underlying174 (zeroPs W1.drew) xx F.out.2).2
 simp only[Option.getD_some,Option.isSome_some] at lk1
 unfold ptrV at lk1
 refine wp_rN (W1.heap.size) [0,0,0,1,0,1,2,0,0,0,0,0] (.fin [0,1,2,3,4,5,6,7,8,9,10,11]) (by kernel_rfl) ?_
 simp only[wpT,selX,guardAt,sD,sE,sF,sG]
 repeat first|(refine wpL_p fun K hK=>?_;go_simp;refine hK _ _ ?_;clear hK K)|(apply wpL_s;(intro w2 hw2;have hk1:=hw2.cell;have hk3:=hw2.1;clear hw2;go_simp;with_reducible rfl);simp only[Act.put,sA,sB,sC])
 refine wpL_e (fun K hK=>?_)
 go_simp
 refine hK _ _ ?_
 clear hK K lk1
 repeat first|(refine wpL_p fun K hK=>?_;go_simp;refine hK _ _ ?_;clear hK K)|refine wpL_nil ?_
 go_wp2_with fail
 have bV:Below W1.heap.size W1 W1.drew:=(Below.refl _ W1).drew
 have zV:W1.drew.heap.size=W1.heap.size:=rfl
 generalize W1.drew=V at *
 have HV:=hid (H1.out.below bV)
 have BV:=hid (B1.out.trans (bV.mono hz1))
 have re2:=row_below RE1.out bV le
 have le2:=row_lt re2
 have ra2:=HV.out.row
 have la2:=row_lt ra2
 have rp2:=(HV.out.sts _ _ _ HBP.out HS.out).row
 have lp2:=row_lt rp2
 clear e0 e1 e2 e3 e4 e5 e6 e7 a0 a1 a3 F
 have y:=row_cell re2
 have e0:=y 0
 simp at e0
 have RE2:=hid re2
 have BV1:=hid bV
 simp only at lp2
 have hVW:W1.heap.size≤V.heap.size:=by omega
 clear y re2 ra2 rp2 bV zV
 refine wp_mid (fun a a' X=>∃(bm bq g:Nat) (F:FuncId) (caps:Array Value),a'={tmps:=((((a.tmps.setIfInBounds 122 (.map (some bm))).setIfInBounds 123 (.pointer (some ⟨w.heap.size,0,none⟩))).setIfInBounds 124 (.int .i64 xk)).setIfInBounds 125 (.agg #[.slice (some ⟨g,0,none⟩) (fromOf xk).length (fromOf xk).length,.func (.func F) #[] caps])).setIfInBounds 8 (.pointer (some ⟨bq,0,none⟩)),defers:=a.defers}∧
  X.heap[bq]?=some (.cells #[.slice (some ⟨g,0,none⟩) (fromOf xk).length (fromOf xk).length,.func (.func F) #[] caps] 250 (0,0))∧X.heap[g]?=some (.cells ((fromOf xk).map (.int .i64)).toArray 3 (0,0))∧DoIs X V.heap.size xk F caps∧Below V.heap.size V X∧V.heap.size≤g∧V.heap.size≤bq) ?_ ?_
 ·
  refine wp_rN (V.heap.size) [3,0,1,2,3,2] (.frk [1,2] (.frk [0] (.fin [3,4,5]) (.fin [4,3,5])) (.fin [4,0,3,5])) (by kernel_rfl) ?_
  simp only[wpT,selX,guardAt,sD,sE,sF,sG]
  repeat first|(refine wpL_p fun K hK=>?_;go_simp;refine hK _ _ ?_;clear hK K)|(apply wpL_s;(intro w2 hw2;have hk1:=hw2.cell;have hk3:=hw2.1;clear hw2;go_simp;with_reducible rfl);simp only[Act.put,sA,sB,sC])|refine wpL_nil ?_
  refine⟨?_,?_⟩
  ·
   refine wpL_k (fun K hK=>?_)
   go_simp
   refine(s_moves _).mono ?_
   rintro e X ⟨bm,M,rfl,hM,hv,bX⟩
   refine hK _ _ (RN.KeepsN.of_below (bX.mono (Nat.le_refl _))) ?_
   clear hK K
   have bX1:Below V.heap.size V X:=(Below.refl _ V).drew.trans (bX.mono (Nat.le_refl _))
   obtain⟨v,hMk,g,F,caps,rfl,hg,hgB,hD⟩:=hv xk hk2 hk8
   have hgB:V.heap.size≤g:=hgB
   have hD:DoIs X V.heap.size xk F caps:=hD
   have hlg:=row_lt hg
   have hMd:=hM
   clear bX hv
   repeat refine wpL_nil ?_
   refine⟨?_,?_⟩
   ·
    have lk:=(hM.look Tryz.underlying3 Tryz.underlying251 (zeroMove _) xk hMk).1
    simp only[Option.getD_some] at lk
    refine wpL_e (fun K hK=>?_)
    go_simp
    refine hK _ _ ?_
    clear hK K lk
    refine wpL_k (fun K hK=>?_)
    go_simp
    refine hK _ _ (RN.KeepsN.alloc _ _ bX1.size) ?_
    clear hK K
    have hM:=hM.below ((Below.refl X.heap.size X).alloc (Nat.le_refl _) (.cells #[.slice none 0 0,.nilFunc] 250)) hM.lt
    refine wpL_e (fun K hK=>?_)
    go_simp
    refine hK _ _ ?_
    clear hK K
    repeat refine wpL_nil ?_
    exact⟨rfl,bm,_,g,F,caps,rfl,row_new X _,row_old hg,hD.row (fun _ _ _ _ h=>row_old h),bX1.alloc bX1.size _,hgB,bX1.size⟩
   ·
    refine wpL_k (fun K hK=>?_)
    go_simp
    refine hK _ _ (RN.KeepsN.alloc _ _ bX1.size) ?_
    clear hK K
    have hM:=hM.below ((Below.refl X.heap.size X).alloc (Nat.le_refl _) (.cells #[.slice none 0 0,.nilFunc] 250)) hM.lt
    have lk:=(hM.look Tryz.underlying3 Tryz.underlying251 (zeroMove _) xk hMk).1
    simp only[Option.getD_some] at lk
    refine wpL_e (fun K hK=>?_)
    go_simp
    refine hK _ _ ?_
    clear hK K lk
    refine wpL_e (fun K hK=>?_)
    go_simp
    refine hK _ _ ?_
    clear hK K
    repeat refine wpL_nil ?_
    exact⟨rfl,bm,_,g,F,caps,rfl,row_new X _,row_old hg,hD.row (fun _ _ _ _ h=>row_old h),bX1.alloc bX1.size _,hgB,bX1.size⟩
  ·
   refine wpL_k (fun K hK=>?_)
   go_simp
   refine hK _ _ (RN.KeepsN.alloc _ _ (Nat.le_refl _)) ?_
   clear hK K
   have bA2:Below V.heap.size V (V.alloc (.cells #[.slice none 0 0,.nilFunc] 250)).drew:=((Below.refl _ V).alloc (Nat.le_refl _) _).drew
   have zA2:=bA2.size
   have rq:(V.alloc (.cells #[.slice none 0 0,.nilFunc] 250)).drew.heap[V.heap.size]?=some (.cells #[.slice none 0 0,.nilFunc] 250 (0,0)):=row_new V _
   generalize (V.alloc (.cells #[.slice none 0 0,.nilFunc] 250)).drew=V2 at *
   refine wpL_k (fun K hK=>?_)
   go_simp
   refine(s_moves _).mono ?_
   rintro e X ⟨bm,M,rfl,hM,hv,bX⟩
   refine hK _ _ (RN.KeepsN.of_below (bX.mono zA2)) ?_
   clear hK K
   have bX1:Below V.heap.size V X:=bA2.trans (bX.mono zA2)
   obtain⟨v,hMk,g,F,caps,rfl,hg,hgB,hD⟩:=hv xk hk2 hk8
   have hgq:V.heap.size≠g:=by have:=row_lt rq;omega
   have hqV:=row_lt rq
   have rq:=row_below rq bX (row_lt rq)
   have hgB:V.heap.size≤g:=Nat.le_trans zA2 hgB
   have q0:=row_cell rq 0
   have q1:=row_cell rq 1
   simp at q0 q1
   have qf:∀j,X.frozen? ⟨V.heap.size,j,none⟩=false:=fun j=>row_free rq j
   have lq:=row_lt rq
   have hlg:=row_lt hg
   have hMd:=hM
   clear bX hv
   have lk:=(hM.look Tryz.underlying3 Tryz.underlying251 (zeroMove _) xk hMk).1
   simp only[Option.getD_some] at lk
   refine wpL_e (fun K hK=>?_)
   go_simp
   refine hK _ _ ?_
   clear hK K lk
   refine wpL_e (fun K hK=>?_)
   go_simp
   refine hK _ _ ?_
   clear hK K
   repeat refine wpL_nil ?_
   exact⟨rfl,bm,_,g,F,caps,rfl,row_set (row_set rq 0 _) 1 _,row_other (row_other hg hgq) hgq,((hD.set hqV).set hqV).base zA2,(bX1.setCell (p:=⟨V.heap.size,0,none⟩) (Nat.le_refl _) _).setCell (p:=⟨V.heap.size,1,none⟩) (Nat.le_refl _) _,hgB,Nat.le_refl _⟩
 ·rintro a' X ⟨bm,bq,g,F,caps,rfl,hq,hg,hD,bX,hgV,hqV⟩
  have HXA:=hid (HV.out.below bX)
  have zX:=bX.size
  have BX:=hid (BV.out.trans (bX.mono (by omega)))
  have q0:=row_cell hq 0
  have q1':=row_cell hq 1
  simp only[List.getElem?_toArray,List.getElem?_cons_zero,List.getElem?_cons_succ] at q0 q1'
  have lq:=row_lt hq
  have hstX:=HXA.out.sts _ _ _ HBP.out HS.out
  have rp:=hstX.row
  have lp:=row_lt rp
  simp only at lp
  have py:=row_cell rp
  have p7:=py 7
  simp[stCs] at p7
  have rex:=row_below RE2.out bX le2
  have lex:=row_lt rex
  have y:=row_cell rex
  have e0:=y 0
  have e1:=y 1
  have e2:=y 2
  have e3:=y 3
  have e4:=y 4
  have e5:=y 5
  have e6:=y 6
  have e7:=y 7
  simp at e0 e1 e2 e3 e4 e5 e6 e7
  have rax:=HXA.out.row
  have lax:=row_lt rax
  have z:=row_cell rax
  have a1:=z 1
  simp at a1
  have hct:=hid (s_Contains _ (fromOf xk) s.stand X.drew (from_sl (w:=X.drew) hg) HFR.out)
  have hcf:=hD.cf
  have hpV:p < V.heap.size:=lp2
  have hdo:=do_callG (W:=X.drew.drew) (n:=n) xk xx xh xj xo xy xv xr (hstX.chg (S:=fun _=>False) (Chg.refl X).drew.drew fun _ _ h=>h) (hD.row fun _ _ _ _ h=>h) hpV (by omega) (by omega) HFR.out HDL.out hl ((HG.out.answer.below BX.out).below (Below.refl _ _).drew.drew)
  rw[HM.out] at hdo
  have hdo:Calls _ _ _ _ (MvRet _ _ _ _):=hdo
  have hdo:=hid hdo
  obtain⟨fl,hfl⟩:∃fl,fl=(fromOf xk).length:=⟨_,rfl⟩
  have HSX:=hid hstX
  have RPX:=hid rp
  rw[←hfl] at q0 hct ⊢
  clear hfl y z py rp rex rax hq hg hD bX hstX
  go_wp2_with fail
  refine wp_rN (X.heap.size) [0,1,0,0,0,1,3,0] (.fin [0,1,2,3,4,5,6,7]) (by kernel_rfl) ?_
  simp only[wpT,selX,guardAt,sD,sE,sF,sG]
  repeat first|(refine wpL_p fun K hK=>?_;go_simp;refine hK _ _ ?_;clear hK K)|(apply wpL_s;(intro w2 hw2;have hk1:=hw2.cell;have hk3:=hw2.1;clear hw2;go_simp;with_reducible rfl);simp only[Act.put,sA,sB,sC])
  refine wpL_k (fun K hK=>?_)
  go_simp
  refine(hct.out).mono ?_
  rintro e W5 ⟨he,hw5⟩
  subst he
  refine hK _ _ (by rw[hw5];exact RN.KeepsN.of_below (Below.refl _ _)) ?_
  clear hK K hct
  rw[hw5]
  clear hw5 W5
  repeat first|(refine wpL_p fun K hK=>?_;go_simp;refine hK _ _ ?_;clear hK K)|refine wpL_nil ?_
  go_wp2_with fail
  refine wp_rN (X.heap.size) [0,1,0,1,0,0,0,1,2,0] (.fin [0,1,2,3,4,5,6,7,8,9]) (by kernel_rfl) ?_
  simp only[wpT,selX,guardAt,sD,sE,sF,sG]
  repeat first|(refine wpL_p fun K hK=>?_;go_simp;refine hK _ _ ?_;clear hK K)|(apply wpL_s;(intro w2 hw2;have hk1:=hw2.cell;have hk3:=hw2.1;clear hw2;go_simp;with_reducible rfl);simp only[Act.put,sA,sB,sC])
  refine wpL_e (fun K hK=>?_)
  go_simp
  refine(hdo.out).mono ?_
  rintro e Y ⟨rfl,dv',hstY,hcY,hown⟩
  refine hK _ _ ?_
  clear hK K hdo
  have hcX:Chg (stS (p,dv)) X Y:=((Chg.refl X).drew.drew).trans hcY fun _ _ h=>h
  have HYA:=hid (HXA.out.moved HBP.out HS.out hcX hstY hid' hth' hown)
  have ray:=HYA.out.row
  have lay:=row_lt ray
  have rpy:=hstY.row
  have lpy:=row_lt rpy
  simp only at lpy
  have y:=row_cell rpy
  have p7:=y 7
  have p1:=y 1
  simp[stCs] at p7 p1
  have z:=row_cell ray
  have a1:=z 1
  have a4:=z 4
  simp at a1 a4
  have yf:∀j,Y.frozen? ⟨bA,j,none⟩=false:=fun j=>row_free ray j
  obtain⟨MZ,hmZ,f5⟩:=HYA.out.bz.2
  have gZ:=HYA.out.bz.1
  have nZ:bZ≠bA:=fun e=>by
   obtain⟨es,c,hh⟩:=hmZ.isMap
   rw[e,ray] at hh;cases hh
  have zY:X.heap.size≤Y.heap.size:=hcX.size
  have BY:=hid ((BX.out.mono hBw).trans (hcX.below (fun j hj=>HSX.out.ge hj) (by omega)))
  have RAY:=hid ray
  have HMZ:=hid hmZ
  have F5:=hid f5
  have hs5:s'.thread=s.thread:=hth'
  have lZ:=hmZ.lt
  have hAY:bA < Y.heap.size:=lay
  clear y z ray rpy hcY hown hmZ f5 hcX q0 q1' e0 e1 e2 e3 e4 e5 e6 e7
  by_cases h5:s'.stand=5
  ·have q5':(s'.stand==5)=true:=by simpa using h5
   rw[h5] at p7
   repeat first|(refine wpL_p fun K hK=>?_;go_simp;refine hK _ _ ?_;clear hK K)|refine wpL_nil ?_
   go_wp2_with fail
   refine wp_rN (Y.heap.size) [0,0,0,1,0,0,0,0,1,2] (.fin [0,1,2,3,4,5,6,7,8,9]) (by kernel_rfl) ?_
   simp only[wpT,selX,guardAt,sD,sE,sF,sG]
   repeat first|(refine wpL_p fun K hK=>?_;go_simp;refine hK _ _ ?_;clear hK K)|(apply wpL_s;(intro w2 hw2;have hk1:=hw2.cell;have hk3:=hw2.1;clear hw2;go_simp;with_reducible rfl);simp only[Act.put,sA,sB,sC])
   refine wpL_e (fun K hK=>?_)
   refine HMZ.out.drew.wp_drop Tryz.underlying3 Tryz.underlying174 rfl rfl rfl ?_
   intro Q hmQ tQ
   refine hK _ _ ?_
   clear hK K
   have rq:=row_map tQ (row_drew RAY.out)
   have zq:=row_cell rq
   clear a1 a4 yf
   have a1:=zq 1
   simp at a1
   have yf:∀j,Q.frozen? ⟨bA,j,none⟩=false:=fun j=>row_free rq j
   have lq':=row_lt rq
   have HMQ:=hid hmQ
   have TQ:=hid tQ
   have RQ:=hid rq
   clear zq rq hmQ tQ
   repeat refine wpL_nil ?_
   go_wp2
   go_ret
   refine⟨rfl,⟨bY,bZ,_,_,_,HYA.out.turn (n':=n+1) (Z':=fun x=>isBusy x (A.set k s')) (((Chg.refl (S:=fun j=>j=bA∨j=bZ) Y).drew.trans (Chg.turned (S:=fun j=>j=bA∨j=bZ) TQ.out (.inr rfl)) fun _ _ h=>h).set (.inl rfl)) (row_set RQ.out 1 _) (HMQ.out.set nZ) ⟨fun x hx=>?_,fun x hx=>?_⟩⟩,?_⟩
   ·by_cases e:x=s.thread
    ·subst e;exact rup_same
    ·rw [rup_ne e]
     exact F5.out.1 x fun hb=>hx ((busy_end HU.out HS.out hst5 hth' h5).2 ⟨hb,e⟩)
   ·obtain ⟨hb,hne⟩:=(busy_end HU.out HS.out hst5 hth' h5).1 hx
    rw[rup_ne hne]
    exact F5.out.2 x hb
   ·exact ((BY.out.drew).trans (Below.turned TQ.out gZ)).setCell (p:=⟨bA,1,none⟩) hAB _
  ·have q5':(s'.stand==5)=false:=by simpa using h5
   repeat first|(refine wpL_p fun K hK=>?_;go_simp;refine hK _ _ ?_;clear hK K)|refine wpL_nil ?_
   go_wp2
   go_ret
   refine⟨rfl,⟨bY,bZ,_,_,_,HYA.out.turn (n':=n+1) (Z':=fun x=>isBusy x (A.set k s')) ((Chg.refl (S:=fun j=>j=bA∨j=bZ) Y).set (.inl rfl)) (row_set RAY.out 1 _) (HMZ.out.set nZ) ⟨fun x hx=>F5.out.1 x fun hb=>hx ((busy_set_iff HS.out hth' hst5 h5).1 hb),fun x hx=>F5.out.2 x ((busy_set_iff HS.out hth' hst5 h5).2 hx)⟩⟩,?_⟩
   exact BY.out.setCell (p:=⟨bA,1,none⟩) hAB _
theorem g_fitsE (xk xx xh xj xo xy xv xr:Int) {B bA n:Nat} {os:List Ob} {A:Au} {k:Nat} {s:St} (w:World) (hval:validB ⟨xk,xx,xh,xj,xo,xy,xv,xr⟩=true) (hdr:dI xr) (hk:xk≠2) (hk2:2≤xk) (hk8:xk < 8) (hs:A[k]?=some s) (hi:s.id=xx) (hfr:s.stand ∈ fromOf xk) (hdl:s.stand=2→s.deeds≠[]) (hm:moveG n ⟨xk,xx,xh,xj,xo,xy,xv,xr⟩ s=none) (hn:n < 400) (hA:A.length≤1000) (hl:s.deeds.length≤1000) (h:AuAt w B bA os n A) (hW:WordsG w) (hG:ErrsF w):
  Calls Tryz.prog 78 #[.pointer (some ⟨bA,0,none⟩),evV ⟨xk,xx,xh,xj,xo,xy,xv,xr⟩] w (IsErr B w):=by
 obtain⟨bY,bZ,ov,tv,bs,h⟩:=h
 have r0:=h.row
 have l0:=row_lt r0
 have y:=row_cell r0
 have y1:=y 1
 simp at y1
 have b0:Below w.heap.size w (w.alloc (.cells #[.int .i64 xk,.int .i64 xx,.int .i64 xh,.int .i64 xj,.int .i64 xo,.int .i64 xy,.int .i64 xv,.int .i64 xr] 69)):=(Below.refl _ w).alloc (Nat.le_refl _) _
 have re:=row_new w (.cells #[.int .i64 xk,.int .i64 xx,.int .i64 xh,.int .i64 xj,.int .i64 xo,.int .i64 xy,.int .i64 xv,.int .i64 xr] 69)
 obtain⟨hgc,tc,xc,hec⟩:=(hG.g.below b0).code
 obtain⟨hge,te,xe,hee⟩:=(hG.g.below b0).event
 have hv:=g_Valid ⟨xk,xx,xh,xj,xo,xy,xv,xr⟩ hdr _ (hW.below b0) _ _ hgc hec hge hee
 rw[hval] at hv
 simp only[if_true] at hv
 have hv:=hid hv
 have HG:=hid hG
 clear hgc hec hge hee hG hval
 have q1:((n:Int)==400)=false:=by simp;omega
 have qk1:(xk==1)=false:=by simp;omega
 have HM:=hid hm
 have HFR:=hid hfr
 have HS:=hid hs
 have H:=hid h
 have HB0:=hid b0
 have RE:=hid re
 have hAB:=h.hB
 have hBw:B≤w.heap.size:=by omega
 have qk2:(xk==2)=false:=by simpa using hk
 have HDL:=hid hdl
 clear y r0 h hs hm b0 re hfr hdl
 go_enter Tryz.func78,Tryz.ntmps78
 go_wp2_with fail
 obtain⟨W,hWW⟩:∃W,W=w.alloc (.cells #[.int .i64 xk,.int .i64 xx,.int .i64 xh,.int .i64 xj,.int .i64 xo,.int .i64 xy,.int .i64 xv,.int .i64 xr] 69):=⟨_,rfl⟩
 rw[←hWW] at hv HB0 RE ⊢
 clear hWW
 refine(hv.out).mono ?_
 rintro e W1 ⟨rfl,b1⟩
 have H1:=hid ((H.out.below HB0.out).below b1)
 have B1:=hid (HB0.out.trans (b1.mono HB0.out.size))
 have re1:=row_below RE.out b1 (row_lt RE.out)
 have le:=row_lt re1
 have ra1:=H1.out.row
 have la:=row_lt ra1
 have hea:w.heap.size≠bA:=by omega
 have hz1:=B1.out.size
 have hbew:w.heap.size < W1.heap.size:=le
 have y:=row_cell re1
 have e0:=y 0
 have e1:=y 1
 have e3:=y 3
 have e4:=y 4
 have e5:=y 5
 have e6:=y 6
 have e7:=y 7
 have e2:=y 2
 simp at e0 e1 e2 e3 e4 e5 e6 e7
 have z:=row_cell ra1
 have a0:=z 0
 have a1:=z 1
 have a3:=z 3
 simp at a0 a1 a3
 obtain⟨bp,hbp,hst⟩:=H1.out.get HS.out
 obtain⟨p,dv⟩:=bp
 obtain⟨MY,hmY,f1,f2⟩:=H1.out.by_.2
 have hMp:MY xx=some (ptrV p):=by rw[←hi];exact f1 k _ s hbp HS.out
 have lY:=hmY.lt
 have RE1:=hid re1
 have RA1:=hid ra1
 have HST:=hid hst
 have HBP:=hid hbp
 have F:=hid (And.intro hmY hMp)
 clear y z re1 ra1 hst hbp hmY hMp f1 f2 b1 hv
 go_wp2_with fail
 have lk1:=(F.out.1.drew.look Tryz.underlying3 Tryz.underlying174 (zeroPs W1.drew) xx F.out.2).2
 simp only[Option.getD_some,Option.isSome_some] at lk1
 unfold ptrV at lk1
 refine wp_rN (W1.heap.size) [0,0,0,1,0,1,2,0,0,0,0,0] (.fin [0,1,2,3,4,5,6,7,8,9,10,11]) (by kernel_rfl) ?_
 simp only[wpT,selX,guardAt,sD,sE,sF,sG]
 repeat first|(refine wpL_p fun K hK=>?_;go_simp;refine hK _ _ ?_;clear hK K)|(apply wpL_s;(intro w2 hw2;have hk1:=hw2.cell;have hk3:=hw2.1;clear hw2;go_simp;with_reducible rfl);simp only[Act.put,sA,sB,sC])
 refine wpL_e (fun K hK=>?_)
 go_simp
 refine hK _ _ ?_
 clear hK K lk1
 repeat first|(refine wpL_p fun K hK=>?_;go_simp;refine hK _ _ ?_;clear hK K)|refine wpL_nil ?_
 go_wp2_with fail
 have bV:Below W1.heap.size W1 W1.drew:=(Below.refl _ W1).drew
 have zV:W1.drew.heap.size=W1.heap.size:=rfl
 generalize W1.drew=V at *
 have HV:=hid (H1.out.below bV)
 have BV:=hid (B1.out.trans (bV.mono hz1))
 have re2:=row_below RE1.out bV le
 have le2:=row_lt re2
 have ra2:=HV.out.row
 have la2:=row_lt ra2
 have rp2:=(HV.out.sts _ _ _ HBP.out HS.out).row
 have lp2:=row_lt rp2
 clear e0 e1 e2 e3 e4 e5 e6 e7 a0 a1 a3 F
 have y:=row_cell re2
 have e0:=y 0
 simp at e0
 have RE2:=hid re2
 have BV1:=hid bV
 simp only at lp2
 have hVW:W1.heap.size≤V.heap.size:=by omega
 clear y re2 ra2 rp2 bV zV
 refine wp_mid (fun a a' X=>∃(bm bq g:Nat) (F:FuncId) (caps:Array Value),a'={tmps:=((((a.tmps.setIfInBounds 122 (.map (some bm))).setIfInBounds 123 (.pointer (some ⟨w.heap.size,0,none⟩))).setIfInBounds 124 (.int .i64 xk)).setIfInBounds 125 (.agg #[.slice (some ⟨g,0,none⟩) (fromOf xk).length (fromOf xk).length,.func (.func F) #[] caps])).setIfInBounds 8 (.pointer (some ⟨bq,0,none⟩)),defers:=a.defers}∧
  X.heap[bq]?=some (.cells #[.slice (some ⟨g,0,none⟩) (fromOf xk).length (fromOf xk).length,.func (.func F) #[] caps] 250 (0,0))∧X.heap[g]?=some (.cells ((fromOf xk).map (.int .i64)).toArray 3 (0,0))∧DoIs X V.heap.size xk F caps∧Below V.heap.size V X∧V.heap.size≤g∧V.heap.size≤bq) ?_ ?_
 ·
  refine wp_rN (V.heap.size) [3,0,1,2,3,2] (.frk [1,2] (.frk [0] (.fin [3,4,5]) (.fin [4,3,5])) (.fin [4,0,3,5])) (by kernel_rfl) ?_
  simp only[wpT,selX,guardAt,sD,sE,sF,sG]
  repeat first|(refine wpL_p fun K hK=>?_;go_simp;refine hK _ _ ?_;clear hK K)|(apply wpL_s;(intro w2 hw2;have hk1:=hw2.cell;have hk3:=hw2.1;clear hw2;go_simp;with_reducible rfl);simp only[Act.put,sA,sB,sC])|refine wpL_nil ?_
  refine⟨?_,?_⟩
  ·
   refine wpL_k (fun K hK=>?_)
   go_simp
   refine(s_moves _).mono ?_
   rintro e X ⟨bm,M,rfl,hM,hv,bX⟩
   refine hK _ _ (RN.KeepsN.of_below (bX.mono (Nat.le_refl _))) ?_
   clear hK K
   have bX1:Below V.heap.size V X:=(Below.refl _ V).drew.trans (bX.mono (Nat.le_refl _))
   obtain⟨v,hMk,g,F,caps,rfl,hg,hgB,hD⟩:=hv xk hk2 hk8
   have hgB:V.heap.size≤g:=hgB
   have hD:DoIs X V.heap.size xk F caps:=hD
   have hlg:=row_lt hg
   have hMd:=hM
   clear bX hv
   repeat refine wpL_nil ?_
   refine⟨?_,?_⟩
   ·
    have lk:=(hM.look Tryz.underlying3 Tryz.underlying251 (zeroMove _) xk hMk).1
    simp only[Option.getD_some] at lk
    refine wpL_e (fun K hK=>?_)
    go_simp
    refine hK _ _ ?_
    clear hK K lk
    refine wpL_k (fun K hK=>?_)
    go_simp
    refine hK _ _ (RN.KeepsN.alloc _ _ bX1.size) ?_
    clear hK K
    have hM:=hM.below ((Below.refl X.heap.size X).alloc (Nat.le_refl _) (.cells #[.slice none 0 0,.nilFunc] 250)) hM.lt
    refine wpL_e (fun K hK=>?_)
    go_simp
    refine hK _ _ ?_
    clear hK K
    repeat refine wpL_nil ?_
    exact⟨rfl,bm,_,g,F,caps,rfl,row_new X _,row_old hg,hD.row (fun _ _ _ _ h=>row_old h),bX1.alloc bX1.size _,hgB,bX1.size⟩
   ·
    refine wpL_k (fun K hK=>?_)
    go_simp
    refine hK _ _ (RN.KeepsN.alloc _ _ bX1.size) ?_
    clear hK K
    have hM:=hM.below ((Below.refl X.heap.size X).alloc (Nat.le_refl _) (.cells #[.slice none 0 0,.nilFunc] 250)) hM.lt
    have lk:=(hM.look Tryz.underlying3 Tryz.underlying251 (zeroMove _) xk hMk).1
    simp only[Option.getD_some] at lk
    refine wpL_e (fun K hK=>?_)
    go_simp
    refine hK _ _ ?_
    clear hK K lk
    refine wpL_e (fun K hK=>?_)
    go_simp
    refine hK _ _ ?_
    clear hK K
    repeat refine wpL_nil ?_
    exact⟨rfl,bm,_,g,F,caps,rfl,row_new X _,row_old hg,hD.row (fun _ _ _ _ h=>row_old h),bX1.alloc bX1.size _,hgB,bX1.size⟩
  ·
   refine wpL_k (fun K hK=>?_)
   go_simp
   refine hK _ _ (RN.KeepsN.alloc _ _ (Nat.le_refl _)) ?_
   clear hK K
   have bA2:Below V.heap.size V (V.alloc (.cells #[.slice none 0 0,.nilFunc] 250)).drew:=((Below.refl _ V).alloc (Nat.le_refl _) _).drew
   have zA2:=bA2.size
   have rq:(V.alloc (.cells #[.slice none 0 0,.nilFunc] 250)).drew.heap[V.heap.size]?=some (.cells #[.slice none 0 0,.nilFunc] 250 (0,0)):=row_new V _
   generalize (V.alloc (.cells #[.slice none 0 0,.nilFunc] 250)).drew=V2 at *
   refine wpL_k (fun K hK=>?_)
   go_simp
   refine(s_moves _).mono ?_
   rintro e X ⟨bm,M,rfl,hM,hv,bX⟩
   refine hK _ _ (RN.KeepsN.of_below (bX.mono zA2)) ?_
   clear hK K
   have bX1:Below V.heap.size V X:=bA2.trans (bX.mono zA2)
   obtain⟨v,hMk,g,F,caps,rfl,hg,hgB,hD⟩:=hv xk hk2 hk8
   have hgq:V.heap.size≠g:=by have:=row_lt rq;omega
   have hqV:=row_lt rq
   have rq:=row_below rq bX (row_lt rq)
   have hgB:V.heap.size≤g:=Nat.le_trans zA2 hgB
   have q0:=row_cell rq 0
   have q1:=row_cell rq 1
   simp at q0 q1
   have qf:∀j,X.frozen? ⟨V.heap.size,j,none⟩=false:=fun j=>row_free rq j
   have lq:=row_lt rq
   have hlg:=row_lt hg
   have hMd:=hM
   clear bX hv
   have lk:=(hM.look Tryz.underlying3 Tryz.underlying251 (zeroMove _) xk hMk).1
   simp only[Option.getD_some] at lk
   refine wpL_e (fun K hK=>?_)
   go_simp
   refine hK _ _ ?_
   clear hK K lk
   refine wpL_e (fun K hK=>?_)
   go_simp
   refine hK _ _ ?_
   clear hK K
   repeat refine wpL_nil ?_
   exact⟨rfl,bm,_,g,F,caps,rfl,row_set (row_set rq 0 _) 1 _,row_other (row_other hg hgq) hgq,((hD.set hqV).set hqV).base zA2,(bX1.setCell (p:=⟨V.heap.size,0,none⟩) (Nat.le_refl _) _).setCell (p:=⟨V.heap.size,1,none⟩) (Nat.le_refl _) _,hgB,Nat.le_refl _⟩
 ·rintro a' X ⟨bm,bq,g,F,caps,rfl,hq,hg,hD,bX,hgV,hqV⟩
  have HXA:=hid (HV.out.below bX)
  have zX:=bX.size
  have BX:=hid (BV.out.trans (bX.mono (by omega)))
  have q0:=row_cell hq 0
  have q1':=row_cell hq 1
  simp only[List.getElem?_toArray,List.getElem?_cons_zero,List.getElem?_cons_succ] at q0 q1'
  have lq:=row_lt hq
  have hstX:=HXA.out.sts _ _ _ HBP.out HS.out
  have rp:=hstX.row
  have lp:=row_lt rp
  simp only at lp
  have py:=row_cell rp
  have p7:=py 7
  simp[stCs] at p7
  have rex:=row_below RE2.out bX le2
  have lex:=row_lt rex
  have y:=row_cell rex
  have e0:=y 0
  have e1:=y 1
  have e2:=y 2
  have e3:=y 3
  have e4:=y 4
  have e5:=y 5
  have e6:=y 6
  have e7:=y 7
  simp at e0 e1 e2 e3 e4 e5 e6 e7
  have rax:=HXA.out.row
  have lax:=row_lt rax
  have z:=row_cell rax
  have a1:=z 1
  simp at a1
  have hct:=hid (s_Contains _ (fromOf xk) s.stand X.drew (from_sl (w:=X.drew) hg) HFR.out)
  have hcf:=hD.cf
  have hpV:p < V.heap.size:=lp2
  have hdo:=do_callG (W:=X.drew.drew) (n:=n) xk xx xh xj xo xy xv xr (hstX.chg (S:=fun _=>False) (Chg.refl X).drew.drew fun _ _ h=>h) (hD.row fun _ _ _ _ h=>h) hpV (by omega) (by omega) HFR.out HDL.out hl ((HG.out.answer.below BX.out).below (Below.refl _ _).drew.drew)
  rw[HM.out] at hdo
  have hdo:Calls _ _ _ _ (IsErr _ _):=hdo
  have hdo:=hid hdo
  obtain⟨fl,hfl⟩:∃fl,fl=(fromOf xk).length:=⟨_,rfl⟩
  have HSX:=hid hstX
  have RPX:=hid rp
  rw[←hfl] at q0 hct ⊢
  clear hfl y z py rp rex rax hq hg hD bX hstX
  go_wp2_with fail
  refine wp_rN (X.heap.size) [0,1,0,0,0,1,3,0] (.fin [0,1,2,3,4,5,6,7]) (by kernel_rfl) ?_
  simp only[wpT,selX,guardAt,sD,sE,sF,sG]
  repeat first|(refine wpL_p fun K hK=>?_;go_simp;refine hK _ _ ?_;clear hK K)|(apply wpL_s;(intro w2 hw2;have hk1:=hw2.cell;have hk3:=hw2.1;clear hw2;go_simp;with_reducible rfl);simp only[Act.put,sA,sB,sC])
  refine wpL_k (fun K hK=>?_)
  go_simp
  refine(hct.out).mono ?_
  rintro e W5 ⟨he,hw5⟩
  subst he
  refine hK _ _ (by rw[hw5];exact RN.KeepsN.of_below (Below.refl _ _)) ?_
  clear hK K hct
  rw[hw5]
  clear hw5 W5
  repeat first|(refine wpL_p fun K hK=>?_;go_simp;refine hK _ _ ?_;clear hK K)|refine wpL_nil ?_
  go_wp2_with fail
  refine wp_rN (X.heap.size) [0,1,0,1,0,0,0,1,2,0] (.fin [0,1,2,3,4,5,6,7,8,9]) (by kernel_rfl) ?_
  simp only[wpT,selX,guardAt,sD,sE,sF,sG]
  repeat first|(refine wpL_p fun K hK=>?_;go_simp;refine hK _ _ ?_;clear hK K)|(apply wpL_s;(intro w2 hw2;have hk1:=hw2.cell;have hk3:=hw2.1;clear hw2;go_simp;with_reducible rfl);simp only[Act.put,sA,sB,sC])
  refine wpL_e (fun K hK=>?_)
  go_simp
  refine(hdo.out).mono ?_
  rintro e Y ⟨⟨tw,xw,rfl⟩,hY⟩
  refine hK _ _ ?_
  clear hK K hdo
  repeat first|(refine wpL_p fun K hK=>?_;go_simp;refine hK _ _ ?_;clear hK K)|refine wpL_nil ?_
  go_wp2_with fail
  refine bodyPost_ret (v:=.iface tw xw) (by simp[results,Tryz.results78,go_sem]) rfl ⟨⟨_,_,rfl⟩,?_⟩
  exact(BX.out.mono hBw).trans (((Below.refl _ X).drew.drew.trans hY).mono (by show B≤X.heap.size;omega))
theorem g_orderE (xk xx xh xj xo xy xv xr:Int) {B bA n:Nat} {os:List Ob} {A:Au} {k:Nat} {s:St} (w:World) (hval:validB ⟨xk,xx,xh,xj,xo,xy,xv,xr⟩=true) (hdr:dI xr) (hk:xk≠2) (hk2:2≤xk) (hk8:xk < 8) (hs:A[k]?=some s) (hi:s.id=xx) (hfr:s.stand ∉ fromOf xk) (hn:n < 400) (hA:A.length≤1000) (hl:s.deeds.length≤1000) (h:AuAt w B bA os n A) (hW:WordsG w) (hG:ErrsF w):
  Calls Tryz.prog 78 #[.pointer (some ⟨bA,0,none⟩),evV ⟨xk,xx,xh,xj,xo,xy,xv,xr⟩] w (IsErr B w):=by
 obtain⟨bY,bZ,ov,tv,bs,h⟩:=h
 have r0:=h.row
 have l0:=row_lt r0
 have y:=row_cell r0
 have y1:=y 1
 simp at y1
 have b0:Below w.heap.size w (w.alloc (.cells #[.int .i64 xk,.int .i64 xx,.int .i64 xh,.int .i64 xj,.int .i64 xo,.int .i64 xy,.int .i64 xv,.int .i64 xr] 69)):=(Below.refl _ w).alloc (Nat.le_refl _) _
 have re:=row_new w (.cells #[.int .i64 xk,.int .i64 xx,.int .i64 xh,.int .i64 xj,.int .i64 xo,.int .i64 xy,.int .i64 xv,.int .i64 xr] 69)
 obtain⟨hgc,tc,xc,hec⟩:=(hG.g.below b0).code
 obtain⟨hge,te,xe,hee⟩:=(hG.g.below b0).event
 have hv:=g_Valid ⟨xk,xx,xh,xj,xo,xy,xv,xr⟩ hdr _ (hW.below b0) _ _ hgc hec hge hee
 rw[hval] at hv
 simp only[if_true] at hv
 have hv:=hid hv
 have HG:=hid hG
 clear hgc hec hge hee hG hval
 have q1:((n:Int)==400)=false:=by simp;omega
 have qk1:(xk==1)=false:=by simp;omega
 have HFR:=hid hfr
 have HS:=hid hs
 have H:=hid h
 have HB0:=hid b0
 have RE:=hid re
 have hAB:=h.hB
 have hBw:B≤w.heap.size:=by omega
 have qk2:(xk==2)=false:=by simpa using hk
 clear y r0 h hs b0 re hfr
 go_enter Tryz.func78,Tryz.ntmps78
 go_wp2_with fail
 obtain⟨W,hWW⟩:∃W,W=w.alloc (.cells #[.int .i64 xk,.int .i64 xx,.int .i64 xh,.int .i64 xj,.int .i64 xo,.int .i64 xy,.int .i64 xv,.int .i64 xr] 69):=⟨_,rfl⟩
 rw[←hWW] at hv HB0 RE ⊢
 clear hWW
 refine(hv.out).mono ?_
 rintro e W1 ⟨rfl,b1⟩
 have H1:=hid ((H.out.below HB0.out).below b1)
 have B1:=hid (HB0.out.trans (b1.mono HB0.out.size))
 have re1:=row_below RE.out b1 (row_lt RE.out)
 have le:=row_lt re1
 have ra1:=H1.out.row
 have la:=row_lt ra1
 have hea:w.heap.size≠bA:=by omega
 have hz1:=B1.out.size
 have hbew:w.heap.size < W1.heap.size:=le
 have y:=row_cell re1
 have e0:=y 0
 have e1:=y 1
 have e3:=y 3
 have e4:=y 4
 have e5:=y 5
 have e6:=y 6
 have e7:=y 7
 have e2:=y 2
 simp at e0 e1 e2 e3 e4 e5 e6 e7
 have z:=row_cell ra1
 have a0:=z 0
 have a1:=z 1
 have a3:=z 3
 simp at a0 a1 a3
 obtain⟨bp,hbp,hst⟩:=H1.out.get HS.out
 obtain⟨p,dv⟩:=bp
 obtain⟨MY,hmY,f1,f2⟩:=H1.out.by_.2
 have hMp:MY xx=some (ptrV p):=by rw[←hi];exact f1 k _ s hbp HS.out
 have lY:=hmY.lt
 have RE1:=hid re1
 have RA1:=hid ra1
 have HST:=hid hst
 have HBP:=hid hbp
 have F:=hid (And.intro hmY hMp)
 clear y z re1 ra1 hst hbp hmY hMp f1 f2 b1 hv
 go_wp2_with fail
 have lk1:=(F.out.1.drew.look Tryz.underlying3 Tryz.underlying174 (zeroPs W1.drew) xx F.out.2).2
 simp only[Option.getD_some,Option.isSome_some] at lk1
 unfold ptrV at lk1
 refine wp_rN (W1.heap.size) [0,0,0,1,0,1,2,0,0,0,0,0] (.fin [0,1,2,3,4,5,6,7,8,9,10,11]) (by kernel_rfl) ?_
 simp only[wpT,selX,guardAt,sD,sE,sF,sG]
 repeat first|(refine wpL_p fun K hK=>?_;go_simp;refine hK _ _ ?_;clear hK K)|(apply wpL_s;(intro w2 hw2;have hk1:=hw2.cell;have hk3:=hw2.1;clear hw2;go_simp;with_reducible rfl);simp only[Act.put,sA,sB,sC])
 refine wpL_e (fun K hK=>?_)
 go_simp
 refine hK _ _ ?_
 clear hK K lk1
 repeat first|(refine wpL_p fun K hK=>?_;go_simp;refine hK _ _ ?_;clear hK K)|refine wpL_nil ?_
 go_wp2_with fail
 have bV:Below W1.heap.size W1 W1.drew:=(Below.refl _ W1).drew
 have zV:W1.drew.heap.size=W1.heap.size:=rfl
 generalize W1.drew=V at *
 have HV:=hid (H1.out.below bV)
 have BV:=hid (B1.out.trans (bV.mono hz1))
 have re2:=row_below RE1.out bV le
 have le2:=row_lt re2
 have ra2:=HV.out.row
 have la2:=row_lt ra2
 have rp2:=(HV.out.sts _ _ _ HBP.out HS.out).row
 have lp2:=row_lt rp2
 clear e0 e1 e2 e3 e4 e5 e6 e7 a0 a1 a3 F
 have y:=row_cell re2
 have e0:=y 0
 simp at e0
 have RE2:=hid re2
 have BV1:=hid bV
 simp only at lp2
 have hVW:W1.heap.size≤V.heap.size:=by omega
 clear y re2 ra2 rp2 bV zV
 refine wp_mid (fun a a' X=>∃(bm bq g:Nat) (F:FuncId) (caps:Array Value),a'={tmps:=((((a.tmps.setIfInBounds 122 (.map (some bm))).setIfInBounds 123 (.pointer (some ⟨w.heap.size,0,none⟩))).setIfInBounds 124 (.int .i64 xk)).setIfInBounds 125 (.agg #[.slice (some ⟨g,0,none⟩) (fromOf xk).length (fromOf xk).length,.func (.func F) #[] caps])).setIfInBounds 8 (.pointer (some ⟨bq,0,none⟩)),defers:=a.defers}∧
  X.heap[bq]?=some (.cells #[.slice (some ⟨g,0,none⟩) (fromOf xk).length (fromOf xk).length,.func (.func F) #[] caps] 250 (0,0))∧X.heap[g]?=some (.cells ((fromOf xk).map (.int .i64)).toArray 3 (0,0))∧DoIs X V.heap.size xk F caps∧Below V.heap.size V X∧V.heap.size≤g∧V.heap.size≤bq) ?_ ?_
 ·
  refine wp_rN (V.heap.size) [3,0,1,2,3,2] (.frk [1,2] (.frk [0] (.fin [3,4,5]) (.fin [4,3,5])) (.fin [4,0,3,5])) (by kernel_rfl) ?_
  simp only[wpT,selX,guardAt,sD,sE,sF,sG]
  repeat first|(refine wpL_p fun K hK=>?_;go_simp;refine hK _ _ ?_;clear hK K)|(apply wpL_s;(intro w2 hw2;have hk1:=hw2.cell;have hk3:=hw2.1;clear hw2;go_simp;with_reducible rfl);simp only[Act.put,sA,sB,sC])|refine wpL_nil ?_
  refine⟨?_,?_⟩
  ·
   refine wpL_k (fun K hK=>?_)
   go_simp
   refine(s_moves _).mono ?_
   rintro e X ⟨bm,M,rfl,hM,hv,bX⟩
   refine hK _ _ (RN.KeepsN.of_below (bX.mono (Nat.le_refl _))) ?_
   clear hK K
   have bX1:Below V.heap.size V X:=(Below.refl _ V).drew.trans (bX.mono (Nat.le_refl _))
   obtain⟨v,hMk,g,F,caps,rfl,hg,hgB,hD⟩:=hv xk hk2 hk8
   have hgB:V.heap.size≤g:=hgB
   have hD:DoIs X V.heap.size xk F caps:=hD
   have hlg:=row_lt hg
   have hMd:=hM
   clear bX hv
   repeat refine wpL_nil ?_
   refine⟨?_,?_⟩
   ·
    have lk:=(hM.look Tryz.underlying3 Tryz.underlying251 (zeroMove _) xk hMk).1
    simp only[Option.getD_some] at lk
    refine wpL_e (fun K hK=>?_)
    go_simp
    refine hK _ _ ?_
    clear hK K lk
    refine wpL_k (fun K hK=>?_)
    go_simp
    refine hK _ _ (RN.KeepsN.alloc _ _ bX1.size) ?_
    clear hK K
    have hM:=hM.below ((Below.refl X.heap.size X).alloc (Nat.le_refl _) (.cells #[.slice none 0 0,.nilFunc] 250)) hM.lt
    refine wpL_e (fun K hK=>?_)
    go_simp
    refine hK _ _ ?_
    clear hK K
    repeat refine wpL_nil ?_
    exact⟨rfl,bm,_,g,F,caps,rfl,row_new X _,row_old hg,hD.row (fun _ _ _ _ h=>row_old h),bX1.alloc bX1.size _,hgB,bX1.size⟩
   ·
    refine wpL_k (fun K hK=>?_)
    go_simp
    refine hK _ _ (RN.KeepsN.alloc _ _ bX1.size) ?_
    clear hK K
    have hM:=hM.below ((Below.refl X.heap.size X).alloc (Nat.le_refl _) (.cells #[.slice none 0 0,.nilFunc] 250)) hM.lt
    have lk:=(hM.look Tryz.underlying3 Tryz.underlying251 (zeroMove _) xk hMk).1
    simp only[Option.getD_some] at lk
    refine wpL_e (fun K hK=>?_)
    go_simp
    refine hK _ _ ?_
    clear hK K lk
    refine wpL_e (fun K hK=>?_)
    go_simp
    refine hK _ _ ?_
    clear hK K
    repeat refine wpL_nil ?_
    exact⟨rfl,bm,_,g,F,caps,rfl,row_new X _,row_old hg,hD.row (fun _ _ _ _ h=>row_old h),bX1.alloc bX1.size _,hgB,bX1.size⟩
  ·
   refine wpL_k (fun K hK=>?_)
   go_simp
   refine hK _ _ (RN.KeepsN.alloc _ _ (Nat.le_refl _)) ?_
   clear hK K
   have bA2:Below V.heap.size V (V.alloc (.cells #[.slice none 0 0,.nilFunc] 250)).drew:=((Below.refl _ V).alloc (Nat.le_refl _) _).drew
   have zA2:=bA2.size
   have rq:(V.alloc (.cells #[.slice none 0 0,.nilFunc] 250)).drew.heap[V.heap.size]?=some (.cells #[.slice none 0 0,.nilFunc] 250 (0,0)):=row_new V _
   generalize (V.alloc (.cells #[.slice none 0 0,.nilFunc] 250)).drew=V2 at *
   refine wpL_k (fun K hK=>?_)
   go_simp
   refine(s_moves _).mono ?_
   rintro e X ⟨bm,M,rfl,hM,hv,bX⟩
   refine hK _ _ (RN.KeepsN.of_below (bX.mono zA2)) ?_
   clear hK K
   have bX1:Below V.heap.size V X:=bA2.trans (bX.mono zA2)
   obtain⟨v,hMk,g,F,caps,rfl,hg,hgB,hD⟩:=hv xk hk2 hk8
   have hgq:V.heap.size≠g:=by have:=row_lt rq;omega
   have hqV:=row_lt rq
   have rq:=row_below rq bX (row_lt rq)
   have hgB:V.heap.size≤g:=Nat.le_trans zA2 hgB
   have q0:=row_cell rq 0
   have q1:=row_cell rq 1
   simp at q0 q1
   have qf:∀j,X.frozen? ⟨V.heap.size,j,none⟩=false:=fun j=>row_free rq j
   have lq:=row_lt rq
   have hlg:=row_lt hg
   have hMd:=hM
   clear bX hv
   have lk:=(hM.look Tryz.underlying3 Tryz.underlying251 (zeroMove _) xk hMk).1
   simp only[Option.getD_some] at lk
   refine wpL_e (fun K hK=>?_)
   go_simp
   refine hK _ _ ?_
   clear hK K lk
   refine wpL_e (fun K hK=>?_)
   go_simp
   refine hK _ _ ?_
   clear hK K
   repeat refine wpL_nil ?_
   exact⟨rfl,bm,_,g,F,caps,rfl,row_set (row_set rq 0 _) 1 _,row_other (row_other hg hgq) hgq,((hD.set hqV).set hqV).base zA2,(bX1.setCell (p:=⟨V.heap.size,0,none⟩) (Nat.le_refl _) _).setCell (p:=⟨V.heap.size,1,none⟩) (Nat.le_refl _) _,hgB,Nat.le_refl _⟩
 ·rintro a' X ⟨bm,bq,g,F,caps,rfl,hq,hg,hD,bX,hgV,hqV⟩
  have HXA:=hid (HV.out.below bX)
  have zX:=bX.size
  have BX:=hid (BV.out.trans (bX.mono (by omega)))
  have q0:=row_cell hq 0
  have q1':=row_cell hq 1
  simp only[List.getElem?_toArray,List.getElem?_cons_zero,List.getElem?_cons_succ] at q0 q1'
  have lq:=row_lt hq
  have hstX:=HXA.out.sts _ _ _ HBP.out HS.out
  have rp:=hstX.row
  have lp:=row_lt rp
  simp only at lp
  have py:=row_cell rp
  have p7:=py 7
  simp[stCs] at p7
  have rex:=row_below RE2.out bX le2
  have lex:=row_lt rex
  have y:=row_cell rex
  have e0:=y 0
  have e1:=y 1
  have e2:=y 2
  have e3:=y 3
  have e4:=y 4
  have e5:=y 5
  have e6:=y 6
  have e7:=y 7
  simp at e0 e1 e2 e3 e4 e5 e6 e7
  have rax:=HXA.out.row
  have lax:=row_lt rax
  have z:=row_cell rax
  have a1:=z 1
  simp at a1
  have hct:=hid (s_ContainsNo _ (fromOf xk) s.stand X.drew (from_sl (w:=X.drew) hg) (by have:=from_len xk;omega) HFR.out)
  have hcf:=hD.cf
  have hpV:p < V.heap.size:=lp2
  obtain⟨fl,hfl⟩:∃fl,fl=(fromOf xk).length:=⟨_,rfl⟩
  have HSX:=hid hstX
  have RPX:=hid rp
  rw[←hfl] at q0 hct ⊢
  clear hfl y z py rp rex rax hq hg hD bX hstX
  go_wp2_with fail
  refine wp_rN (X.heap.size) [0,1,0,0,0,1,3,0] (.fin [0,1,2,3,4,5,6,7]) (by kernel_rfl) ?_
  simp only[wpT,selX,guardAt,sD,sE,sF,sG]
  repeat first|(refine wpL_p fun K hK=>?_;go_simp;refine hK _ _ ?_;clear hK K)|(apply wpL_s;(intro w2 hw2;have hk1:=hw2.cell;have hk3:=hw2.1;clear hw2;go_simp;with_reducible rfl);simp only[Act.put,sA,sB,sC])
  refine wpL_k (fun K hK=>?_)
  go_simp
  refine(hct.out).mono ?_
  rintro e W5 ⟨he,hw5⟩
  subst he
  refine hK _ _ (by rw[hw5];exact RN.KeepsN.of_below (Below.refl _ _)) ?_
  clear hK K hct
  rw[hw5]
  clear hw5 W5
  repeat first|(refine wpL_p fun K hK=>?_;go_simp;refine hK _ _ ?_;clear hK K)|refine wpL_nil ?_
  obtain⟨hg3,tw,xw,he3⟩:=(HG.out.order.below BX.out).below (Below.refl _ X).drew
  go_wp2_with fail
  refine bodyPost_ret (v:=.iface tw xw) (by simp[results,Tryz.results78,go_sem]) rfl ⟨⟨_,_,rfl⟩,?_⟩
  exact(BX.out.mono hBw).trans ((Below.refl _ X).drew.mono (by omega))
theorem g_txE (xk xx xh xj xo xy xv xr:Int) {B bA n:Nat} {os:List Ob} {A:Au} (w:World) (hval:validB ⟨xk,xx,xh,xj,xo,xy,xv,xr⟩=true) (hdr:dI xr) (hk:xk≠2) (hk2:2≤xk) (hk8:xk < 8) (hi:¬hasId xx A) (hn:n < 400) (hA:A.length≤1000) (h:AuAt w B bA os n A) (hW:WordsG w) (hG:ErrsF w):
  Calls Tryz.prog 78 #[.pointer (some ⟨bA,0,none⟩),evV ⟨xk,xx,xh,xj,xo,xy,xv,xr⟩] w (IsErr B w):=by
 obtain⟨bY,bZ,ov,tv,bs,h⟩:=h
 have r0:=h.row
 have l0:=row_lt r0
 have y:=row_cell r0
 have y1:=y 1
 simp at y1
 have b0:Below w.heap.size w (w.alloc (.cells #[.int .i64 xk,.int .i64 xx,.int .i64 xh,.int .i64 xj,.int .i64 xo,.int .i64 xy,.int .i64 xv,.int .i64 xr] 69)):=(Below.refl _ w).alloc (Nat.le_refl _) _
 have re:=row_new w (.cells #[.int .i64 xk,.int .i64 xx,.int .i64 xh,.int .i64 xj,.int .i64 xo,.int .i64 xy,.int .i64 xv,.int .i64 xr] 69)
 obtain⟨hgc,tc,xc,hec⟩:=(hG.g.below b0).code
 obtain⟨hge,te,xe,hee⟩:=(hG.g.below b0).event
 have hv:=g_Valid ⟨xk,xx,xh,xj,xo,xy,xv,xr⟩ hdr _ (hW.below b0) _ _ hgc hec hge hee
 rw[hval] at hv
 simp only[if_true] at hv
 have hv:=hid hv
 have HG:=hid hG
 clear hgc hec hge hee hG hval
 have q1:((n:Int)==400)=false:=by simp;omega
 have qk1:(xk==1)=false:=by simp;omega
 have HI:=hid hi
 have H:=hid h
 have HB0:=hid b0
 have RE:=hid re
 have hAB:=h.hB
 have hBw:B≤w.heap.size:=by omega
 have qk2:(xk==2)=false:=by simpa using hk
 clear y r0 h b0 re hi
 go_enter Tryz.func78,Tryz.ntmps78
 go_wp2_with fail
 obtain⟨W,hWW⟩:∃W,W=w.alloc (.cells #[.int .i64 xk,.int .i64 xx,.int .i64 xh,.int .i64 xj,.int .i64 xo,.int .i64 xy,.int .i64 xv,.int .i64 xr] 69):=⟨_,rfl⟩
 rw[←hWW] at hv HB0 RE ⊢
 clear hWW
 refine(hv.out).mono ?_
 rintro e W1 ⟨rfl,b1⟩
 have H1:=hid ((H.out.below HB0.out).below b1)
 have B1:=hid (HB0.out.trans (b1.mono HB0.out.size))
 have re1:=row_below RE.out b1 (row_lt RE.out)
 have le:=row_lt re1
 have ra1:=H1.out.row
 have la:=row_lt ra1
 have hea:w.heap.size≠bA:=by omega
 have hz1:=B1.out.size
 have hbew:w.heap.size < W1.heap.size:=le
 have y:=row_cell re1
 have e0:=y 0
 have e1:=y 1
 have e3:=y 3
 have e4:=y 4
 have e5:=y 5
 have e6:=y 6
 have e7:=y 7
 have e2:=y 2
 simp at e0 e1 e2 e3 e4 e5 e6 e7
 have z:=row_cell ra1
 have a0:=z 0
 have a1:=z 1
 have a3:=z 3
 simp at a0 a1 a3
 obtain⟨MY,hmY,f1,f2⟩:=H1.out.by_.2
 have hMp:=f2 xx HI.out
 have lY:=hmY.lt
 have RE1:=hid re1
 have RA1:=hid ra1
 have F:=hid (And.intro hmY hMp)
 clear y z re1 ra1 hmY hMp f1 f2 b1 hv
 go_wp2_with fail
 have lk1:=(F.out.1.drew.look Tryz.underlying3 Tryz.underlying174 (zeroPs W1.drew) xx F.out.2).2
 simp only[Option.getD_none,Option.isSome_none] at lk1
 refine wp_rN (W1.heap.size) [0,0,0,1,0,1,2,0,0,0,0,0] (.fin [0,1,2,3,4,5,6,7,8,9,10,11]) (by kernel_rfl) ?_
 simp only[wpT,selX,guardAt,sD,sE,sF,sG]
 repeat first|(refine wpL_p fun K hK=>?_;go_simp;refine hK _ _ ?_;clear hK K)|(apply wpL_s;(intro w2 hw2;have hk1:=hw2.cell;have hk3:=hw2.1;clear hw2;go_simp;with_reducible rfl);simp only[Act.put,sA,sB,sC])
 refine wpL_e (fun K hK=>?_)
 go_simp
 refine hK _ _ ?_
 clear hK K lk1
 repeat first|(refine wpL_p fun K hK=>?_;go_simp;refine hK _ _ ?_;clear hK K)|refine wpL_nil ?_
 obtain⟨hg3,tw,xw,he3⟩:=(HG.out.tx.below B1.out).below (Below.refl _ W1).drew
 go_wp2_with fail
 refine bodyPost_ret (v:=.iface tw xw) (by simp[results,Tryz.results78,go_sem]) rfl ⟨⟨_,_,rfl⟩,?_⟩
 exact(B1.out.mono hBw).trans ((Below.refl _ W1).drew.mono (by omega))
theorem g_moveC (xk xx xh xj xo xy xv xr:Int) {B bA n:Nat} {os:List Ob} {A:Au} {k:Nat} {s s':St} (w:World) (hval:validB ⟨xk,xx,xh,xj,xo,xy,xv,xr⟩=true) (hdr:dI xr) (hoc:∃(c:Nat) (o:Ob),xj=c∧os[c]?=some o∧ofOp xo=o.kind) (hk:xk=2) (hk2:2≤xk) (hk8:xk < 8) (hs:A[k]?=some s) (hi:s.id=xx) (hfr:s.stand ∈ fromOf xk) (hdl:s.stand=2→s.deeds≠[]) (hU:BusyU A) (hm:moveG n ⟨xk,xx,xh,xj,xo,xy,xv,xr⟩ s=some s') (hn:n < 400) (hA:A.length≤1000) (hl:s.deeds.length≤1000) (h:AuAt w B bA os n A) (hW:WordsG w) (hG:ErrsF w):
  Calls Tryz.prog 78 #[.pointer (some ⟨bA,0,none⟩),evV ⟨xk,xx,xh,xj,xo,xy,xv,xr⟩] w (FeedRet w B bA os n (A.set k s')):=by
 obtain⟨bY,bZ,ov,tv,bs,h⟩:=h
 have r0:=h.row
 have l0:=row_lt r0
 have y:=row_cell r0
 have y1:=y 1
 simp at y1
 have b0:Below w.heap.size w (w.alloc (.cells #[.int .i64 xk,.int .i64 xx,.int .i64 xh,.int .i64 xj,.int .i64 xo,.int .i64 xy,.int .i64 xv,.int .i64 xr] 69)):=(Below.refl _ w).alloc (Nat.le_refl _) _
 have re:=row_new w (.cells #[.int .i64 xk,.int .i64 xx,.int .i64 xh,.int .i64 xj,.int .i64 xo,.int .i64 xy,.int .i64 xv,.int .i64 xr] 69)
 obtain⟨hgc,tc,xc,hec⟩:=(hG.g.below b0).code
 obtain⟨hge,te,xe,hee⟩:=(hG.g.below b0).event
 have hv:=g_Valid ⟨xk,xx,xh,xj,xo,xy,xv,xr⟩ hdr _ (hW.below b0) _ _ hgc hec hge hee
 rw[hval] at hv
 simp only[if_true] at hv
 have hv:=hid hv
 have HG:=hid hG
 clear hgc hec hge hee hG hval
 have q1:((n:Int)==400)=false:=by simp;omega
 obtain⟨hid',hth',hst5⟩:=moveG_keeps hm
 have qk1:(xk==1)=false:=by simp;omega
 have HM:=hid hm
 have HFR:=hid hfr
 have HS:=hid hs
 have H:=hid h
 have HB0:=hid b0
 have RE:=hid re
 have hAB:=h.hB
 have hBw:B≤w.heap.size:=by omega
 subst hk
 have HDL:=hid hdl
 have HU:=hid hU
 clear y r0 h hs hm b0 re hfr hdl hU
 go_enter Tryz.func78,Tryz.ntmps78
 go_wp2_with fail
 obtain⟨W,hWW⟩:∃W,W=w.alloc (.cells #[.int .i64 2,.int .i64 xx,.int .i64 xh,.int .i64 xj,.int .i64 xo,.int .i64 xy,.int .i64 xv,.int .i64 xr] 69):=⟨_,rfl⟩
 rw[←hWW] at hv HB0 RE ⊢
 clear hWW
 refine(hv.out).mono ?_
 rintro e W1 ⟨rfl,b1⟩
 have H1:=hid ((H.out.below HB0.out).below b1)
 have B1:=hid (HB0.out.trans (b1.mono HB0.out.size))
 have re1:=row_below RE.out b1 (row_lt RE.out)
 have le:=row_lt re1
 have ra1:=H1.out.row
 have la:=row_lt ra1
 have hea:w.heap.size≠bA:=by omega
 have hz1:=B1.out.size
 have hbew:w.heap.size < W1.heap.size:=le
 have y:=row_cell re1
 have e0:=y 0
 have e1:=y 1
 have e3:=y 3
 have e4:=y 4
 have e5:=y 5
 have e6:=y 6
 have e7:=y 7
 have e2:=y 2
 simp at e0 e1 e2 e3 e4 e5 e6 e7
 have z:=row_cell ra1
 have a0:=z 0
 have a1:=z 1
 have a3:=z 3
 simp at a0 a1 a3
 obtain⟨bp,hbp,hst⟩:=H1.out.get HS.out
 obtain⟨p,dv⟩:=bp
 obtain⟨MY,hmY,f1,f2⟩:=H1.out.by_.2
 have hMp:MY xx=some (ptrV p):=by rw[←hi];exact f1 k _ s hbp HS.out
 have lY:=hmY.lt
 obtain⟨ao,co,rfl,-⟩:∃a c,ov=.slice a os.length c∧True:=by
  rcases OwnF.form H1.out.obs with⟨h1,h2⟩|⟨g,cap,h1,-⟩
  ·exact ⟨_,_,by rw[h1,h2];rfl,trivial⟩
  ·exact ⟨_,_,h1,trivial⟩
 obtain⟨c,o1,rfl,ho1,ho2⟩:=hoc
 have hcl:=(List.getElem?_eq_some_iff.1 ho1).1
 obtain⟨b',off',o,hat',hb',hx',hc'⟩:=(OwnF.sl H1.out.obs).atF Ob.len rfl hcl
 have k0:W1.cell? ⟨b',off'+c*2+0,none⟩=some (.int .i64 o.kind):=hc' 0 (by decide)
 have hk1:ofOp xo=o.kind:=by
  rw[hx'] at ho1
  obtain rfl:=Option.some.inj ho1
  exact ho2
 clear ho1 ho2
 obtain⟨ok,on⟩:=o
 simp only at hk1
 subst hk1
 simp at k0
 have q5:decide (os.length≤c)=false:=by simp;omega
 subst hat'
 clear hx' hc'
 have RE1:=hid re1
 have RA1:=hid ra1
 have HST:=hid hst
 have HBP:=hid hbp
 have F:=hid (And.intro hmY hMp)
 clear y z re1 ra1 hst hbp hmY hMp f1 f2 b1 hv
 go_wp2_with fail
 refine wp_rN (W1.heap.size) [0,1,0,0,0,1,0,0] (.fin [0,1,2,3,4,5,6,7]) (by kernel_rfl) ?_
 simp only[wpT,selX,guardAt,sD,sE,sF,sG]
 repeat first|(refine wpL_p fun K hK=>?_;go_simp;refine hK _ _ ?_;clear hK K)|(apply wpL_s;(intro w2 hw2;have hk1:=hw2.cell;have hk3:=hw2.1;clear hw2;go_simp;with_reducible rfl);simp only[Act.put,sA,sB,sC])|refine wpL_nil ?_
 go_wp2_with fail
 refine wp_rN (W1.heap.size) [0,1,3,0,0,0,1,0,1,0,0,1,0] (.fin [0,1,3,4,5,6,7,8,9,10,11,2,12]) (by kernel_rfl) ?_
 simp only[wpT,selX,guardAt,sD,sE,sF,sG]
 repeat first|(refine wpL_p fun K hK=>?_;go_simp;refine hK _ _ ?_;clear hK K)|(apply wpL_s;(intro w2 hw2;have hk1:=hw2.cell;have hk3:=hw2.1;clear hw2;go_simp;with_reducible rfl);simp only[Act.put,sA,sB,sC])
 refine wpL_k (fun K hK=>?_)
 go_simp
 refine(g_Of xo _).mono ?_
 rintro e W5 ⟨he,hw5⟩
 subst he
 refine hK _ _ (by rw[hw5];exact RN.KeepsN.of_below (Below.refl _ _)) ?_
 clear hK K
 rw[hw5]
 clear hw5 W5
 repeat first|(refine wpL_p fun K hK=>?_;go_simp;refine hK _ _ ?_;clear hK K)|refine wpL_nil ?_
 go_wp2_with fail
 have lk1:=(F.out.1.drew.drew.drew.look Tryz.underlying3 Tryz.underlying174 (zeroPs W1.drew.drew.drew) xx F.out.2).2
 simp only[Option.getD_some,Option.isSome_some] at lk1
 unfold ptrV at lk1
 refine wp_rN (W1.heap.size) [0,0,0,1,0,1,2,0,0,0,0,0] (.fin [0,1,2,3,4,5,6,7,8,9,10,11]) (by kernel_rfl) ?_
 simp only[wpT,selX,guardAt,sD,sE,sF,sG]
 repeat first|(refine wpL_p fun K hK=>?_;go_simp;refine hK _ _ ?_;clear hK K)|(apply wpL_s;(intro w2 hw2;have hk1:=hw2.cell;have hk3:=hw2.1;clear hw2;go_simp;with_reducible rfl);simp only[Act.put,sA,sB,sC])
 refine wpL_e (fun K hK=>?_)
 go_simp
 refine hK _ _ ?_
 clear hK K lk1
 repeat first|(refine wpL_p fun K hK=>?_;go_simp;refine hK _ _ ?_;clear hK K)|refine wpL_nil ?_
 go_wp2_with fail
 have bV:Below W1.heap.size W1 W1.drew.drew.drew:=(Below.refl _ W1).drew.drew.drew
 have zV:W1.drew.drew.drew.heap.size=W1.heap.size:=rfl
 generalize W1.drew.drew.drew=V at *
 have HV:=hid (H1.out.below bV)
 have BV:=hid (B1.out.trans (bV.mono hz1))
 have re2:=row_below RE1.out bV le
 have le2:=row_lt re2
 have ra2:=HV.out.row
 have la2:=row_lt ra2
 have rp2:=(HV.out.sts _ _ _ HBP.out HS.out).row
 have lp2:=row_lt rp2
 clear e0 e1 e2 e3 e4 e5 e6 e7 a0 a1 a3 F k0 hb'
 have y:=row_cell re2
 have e0:=y 0
 simp at e0
 have RE2:=hid re2
 have BV1:=hid bV
 simp only at lp2
 have hVW:W1.heap.size≤V.heap.size:=by omega
 clear y re2 ra2 rp2 bV zV
 refine wp_mid (fun a a' X=>∃(bm bq g:Nat) (F:FuncId) (caps:Array Value),a'={tmps:=((((a.tmps.setIfInBounds 122 (.map (some bm))).setIfInBounds 123 (.pointer (some ⟨w.heap.size,0,none⟩))).setIfInBounds 124 (.int .i64 2)).setIfInBounds 125 (.agg #[.slice (some ⟨g,0,none⟩) (fromOf 2).length (fromOf 2).length,.func (.func F) #[] caps])).setIfInBounds 8 (.pointer (some ⟨bq,0,none⟩)),defers:=a.defers}∧
  X.heap[bq]?=some (.cells #[.slice (some ⟨g,0,none⟩) (fromOf 2).length (fromOf 2).length,.func (.func F) #[] caps] 250 (0,0))∧X.heap[g]?=some (.cells ((fromOf 2).map (.int .i64)).toArray 3 (0,0))∧DoIs X V.heap.size 2 F caps∧Below V.heap.size V X∧V.heap.size≤g∧V.heap.size≤bq) ?_ ?_
 ·
  refine wp_rN (V.heap.size) [3,0,1,2,3,2] (.frk [1,2] (.frk [0] (.fin [3,4,5]) (.fin [4,3,5])) (.fin [4,0,3,5])) (by kernel_rfl) ?_
  simp only[wpT,selX,guardAt,sD,sE,sF,sG]
  repeat first|(refine wpL_p fun K hK=>?_;go_simp;refine hK _ _ ?_;clear hK K)|(apply wpL_s;(intro w2 hw2;have hk1:=hw2.cell;have hk3:=hw2.1;clear hw2;go_simp;with_reducible rfl);simp only[Act.put,sA,sB,sC])|refine wpL_nil ?_
  refine⟨?_,?_⟩
  ·
   refine wpL_k (fun K hK=>?_)
   go_simp
   refine(s_moves _).mono ?_
   rintro e X ⟨bm,M,rfl,hM,hv,bX⟩
   refine hK _ _ (RN.KeepsN.of_below (bX.mono (Nat.le_refl _))) ?_
   clear hK K
   have bX1:Below V.heap.size V X:=(Below.refl _ V).drew.trans (bX.mono (Nat.le_refl _))
   obtain⟨v,hMk,g,F,caps,rfl,hg,hgB,hD⟩:=hv 2 (by decide) (by decide)
   have hgB:V.heap.size≤g:=hgB
   have hD:DoIs X V.heap.size 2 F caps:=hD
   have hlg:=row_lt hg
   have hMd:=hM
   clear bX hv
   repeat refine wpL_nil ?_
   refine⟨?_,?_⟩
   ·
    have lk:=(hM.look Tryz.underlying3 Tryz.underlying251 (zeroMove _) 2 hMk).1
    simp only[Option.getD_some] at lk
    refine wpL_e (fun K hK=>?_)
    go_simp
    refine hK _ _ ?_
    clear hK K lk
    refine wpL_k (fun K hK=>?_)
    go_simp
    refine hK _ _ (RN.KeepsN.alloc _ _ bX1.size) ?_
    clear hK K
    have hM:=hM.below ((Below.refl X.heap.size X).alloc (Nat.le_refl _) (.cells #[.slice none 0 0,.nilFunc] 250)) hM.lt
    refine wpL_e (fun K hK=>?_)
    go_simp
    refine hK _ _ ?_
    clear hK K
    repeat refine wpL_nil ?_
    exact⟨rfl,bm,_,g,F,caps,rfl,row_new X _,row_old hg,hD.row (fun _ _ _ _ h=>row_old h),bX1.alloc bX1.size _,hgB,bX1.size⟩
   ·
    refine wpL_k (fun K hK=>?_)
    go_simp
    refine hK _ _ (RN.KeepsN.alloc _ _ bX1.size) ?_
    clear hK K
    have hM:=hM.below ((Below.refl X.heap.size X).alloc (Nat.le_refl _) (.cells #[.slice none 0 0,.nilFunc] 250)) hM.lt
    have lk:=(hM.look Tryz.underlying3 Tryz.underlying251 (zeroMove _) 2 hMk).1
    simp only[Option.getD_some] at lk
    refine wpL_e (fun K hK=>?_)
    go_simp
    refine hK _ _ ?_
    clear hK K lk
    refine wpL_e (fun K hK=>?_)
    go_simp
    refine hK _ _ ?_
    clear hK K
    repeat refine wpL_nil ?_
    exact⟨rfl,bm,_,g,F,caps,rfl,row_new X _,row_old hg,hD.row (fun _ _ _ _ h=>row_old h),bX1.alloc bX1.size _,hgB,bX1.size⟩
  ·
   refine wpL_k (fun K hK=>?_)
   go_simp
   refine hK _ _ (RN.KeepsN.alloc _ _ (Nat.le_refl _)) ?_
   clear hK K
   have bA2:Below V.heap.size V (V.alloc (.cells #[.slice none 0 0,.nilFunc] 250)).drew:=((Below.refl _ V).alloc (Nat.le_refl _) _).drew
   have zA2:=bA2.size
   have rq:(V.alloc (.cells #[.slice none 0 0,.nilFunc] 250)).drew.heap[V.heap.size]?=some (.cells #[.slice none 0 0,.nilFunc] 250 (0,0)):=row_new V _
   generalize (V.alloc (.cells #[.slice none 0 0,.nilFunc] 250)).drew=V2 at *
   refine wpL_k (fun K hK=>?_)
   go_simp
   refine(s_moves _).mono ?_
   rintro e X ⟨bm,M,rfl,hM,hv,bX⟩
   refine hK _ _ (RN.KeepsN.of_below (bX.mono zA2)) ?_
   clear hK K
   have bX1:Below V.heap.size V X:=bA2.trans (bX.mono zA2)
   obtain⟨v,hMk,g,F,caps,rfl,hg,hgB,hD⟩:=hv 2 (by decide) (by decide)
   have hgq:V.heap.size≠g:=by have:=row_lt rq;omega
   have hqV:=row_lt rq
   have rq:=row_below rq bX (row_lt rq)
   have hgB:V.heap.size≤g:=Nat.le_trans zA2 hgB
   have q0:=row_cell rq 0
   have q1:=row_cell rq 1
   simp at q0 q1
   have qf:∀j,X.frozen? ⟨V.heap.size,j,none⟩=false:=fun j=>row_free rq j
   have lq:=row_lt rq
   have hlg:=row_lt hg
   have hMd:=hM
   clear bX hv
   have lk:=(hM.look Tryz.underlying3 Tryz.underlying251 (zeroMove _) 2 hMk).1
   simp only[Option.getD_some] at lk
   refine wpL_e (fun K hK=>?_)
   go_simp
   refine hK _ _ ?_
   clear hK K lk
   refine wpL_e (fun K hK=>?_)
   go_simp
   refine hK _ _ ?_
   clear hK K
   repeat refine wpL_nil ?_
   exact⟨rfl,bm,_,g,F,caps,rfl,row_set (row_set rq 0 _) 1 _,row_other (row_other hg hgq) hgq,((hD.set hqV).set hqV).base zA2,(bX1.setCell (p:=⟨V.heap.size,0,none⟩) (Nat.le_refl _) _).setCell (p:=⟨V.heap.size,1,none⟩) (Nat.le_refl _) _,hgB,Nat.le_refl _⟩
 ·rintro a' X ⟨bm,bq,g,F,caps,rfl,hq,hg,hD,bX,hgV,hqV⟩
  have HXA:=hid (HV.out.below bX)
  have zX:=bX.size
  have BX:=hid (BV.out.trans (bX.mono (by omega)))
  have q0:=row_cell hq 0
  have q1':=row_cell hq 1
  simp only[List.getElem?_toArray,List.getElem?_cons_zero,List.getElem?_cons_succ] at q0 q1'
  have lq:=row_lt hq
  have hstX:=HXA.out.sts _ _ _ HBP.out HS.out
  have rp:=hstX.row
  have lp:=row_lt rp
  simp only at lp
  have py:=row_cell rp
  have p7:=py 7
  simp[stCs] at p7
  have rex:=row_below RE2.out bX le2
  have lex:=row_lt rex
  have y:=row_cell rex
  have e0:=y 0
  have e1:=y 1
  have e2:=y 2
  have e3:=y 3
  have e4:=y 4
  have e5:=y 5
  have e6:=y 6
  have e7:=y 7
  simp at e0 e1 e2 e3 e4 e5 e6 e7
  have rax:=HXA.out.row
  have lax:=row_lt rax
  have z:=row_cell rax
  have a1:=z 1
  simp at a1
  have hct:=hid (s_Contains _ (fromOf 2) s.stand X.drew (from_sl (w:=X.drew) hg) HFR.out)
  have hcf:=hD.cf
  have hpV:p < V.heap.size:=lp2
  have hdo:=do_callG (W:=X.drew.drew) (n:=n) 2 xx xh c xo xy xv xr (hstX.chg (S:=fun _=>False) (Chg.refl X).drew.drew fun _ _ h=>h) (hD.row fun _ _ _ _ h=>h) hpV (by omega) (by omega) HFR.out HDL.out hl ((HG.out.answer.below BX.out).below (Below.refl _ _).drew.drew)
  rw[HM.out] at hdo
  have hdo:Calls _ _ _ _ (MvRet _ _ _ _):=hdo
  have hdo:=hid hdo
  obtain⟨fl,hfl⟩:∃fl,fl=(fromOf 2).length:=⟨_,rfl⟩
  have HSX:=hid hstX
  have RPX:=hid rp
  rw[←hfl] at q0 hct ⊢
  clear hfl y z py rp rex rax hq hg hD bX hstX
  go_wp2_with fail
  refine wp_rN (X.heap.size) [0,1,0,0,0,1,3,0] (.fin [0,1,2,3,4,5,6,7]) (by kernel_rfl) ?_
  simp only[wpT,selX,guardAt,sD,sE,sF,sG]
  repeat first|(refine wpL_p fun K hK=>?_;go_simp;refine hK _ _ ?_;clear hK K)|(apply wpL_s;(intro w2 hw2;have hk1:=hw2.cell;have hk3:=hw2.1;clear hw2;go_simp;with_reducible rfl);simp only[Act.put,sA,sB,sC])
  refine wpL_k (fun K hK=>?_)
  go_simp
  refine(hct.out).mono ?_
  rintro e W5 ⟨he,hw5⟩
  subst he
  refine hK _ _ (by rw[hw5];exact RN.KeepsN.of_below (Below.refl _ _)) ?_
  clear hK K hct
  rw[hw5]
  clear hw5 W5
  repeat first|(refine wpL_p fun K hK=>?_;go_simp;refine hK _ _ ?_;clear hK K)|refine wpL_nil ?_
  go_wp2_with fail
  refine wp_rN (X.heap.size) [0,1,0,1,0,0,0,1,2,0] (.fin [0,1,2,3,4,5,6,7,8,9]) (by kernel_rfl) ?_
  simp only[wpT,selX,guardAt,sD,sE,sF,sG]
  repeat first|(refine wpL_p fun K hK=>?_;go_simp;refine hK _ _ ?_;clear hK K)|(apply wpL_s;(intro w2 hw2;have hk1:=hw2.cell;have hk3:=hw2.1;clear hw2;go_simp;with_reducible rfl);simp only[Act.put,sA,sB,sC])
  refine wpL_e (fun K hK=>?_)
  go_simp
  refine(hdo.out).mono ?_
  rintro e Y ⟨rfl,dv',hstY,hcY,hown⟩
  refine hK _ _ ?_
  clear hK K hdo
  have hcX:Chg (stS (p,dv)) X Y:=((Chg.refl X).drew.drew).trans hcY fun _ _ h=>h
  have HYA:=hid (HXA.out.moved HBP.out HS.out hcX hstY hid' hth' hown)
  have ray:=HYA.out.row
  have lay:=row_lt ray
  have rpy:=hstY.row
  have lpy:=row_lt rpy
  simp only at lpy
  have y:=row_cell rpy
  have p7:=y 7
  have p1:=y 1
  simp[stCs] at p7 p1
  have z:=row_cell ray
  have a1:=z 1
  have a4:=z 4
  simp at a1 a4
  have yf:∀j,Y.frozen? ⟨bA,j,none⟩=false:=fun j=>row_free ray j
  obtain⟨MZ,hmZ,f5⟩:=HYA.out.bz.2
  have gZ:=HYA.out.bz.1
  have nZ:bZ≠bA:=fun e=>by
   obtain⟨es,c,hh⟩:=hmZ.isMap
   rw[e,ray] at hh;cases hh
  have zY:X.heap.size≤Y.heap.size:=hcX.size
  have BY:=hid ((BX.out.mono hBw).trans (hcX.below (fun j hj=>HSX.out.ge hj) (by omega)))
  have RAY:=hid ray
  have HMZ:=hid hmZ
  have F5:=hid f5
  have hs5:s'.thread=s.thread:=hth'
  have lZ:=hmZ.lt
  have hAY:bA < Y.heap.size:=lay
  clear y z ray rpy hcY hown hmZ f5 hcX q0 q1' e0 e1 e2 e3 e4 e5 e6 e7
  by_cases h5:s'.stand=5
  ·have q5':(s'.stand==5)=true:=by simpa using h5
   rw[h5] at p7
   repeat first|(refine wpL_p fun K hK=>?_;go_simp;refine hK _ _ ?_;clear hK K)|refine wpL_nil ?_
   go_wp2_with fail
   refine wp_rN (Y.heap.size) [0,0,0,1,0,0,0,0,1,2] (.fin [0,1,2,3,4,5,6,7,8,9]) (by kernel_rfl) ?_
   simp only[wpT,selX,guardAt,sD,sE,sF,sG]
   repeat first|(refine wpL_p fun K hK=>?_;go_simp;refine hK _ _ ?_;clear hK K)|(apply wpL_s;(intro w2 hw2;have hk1:=hw2.cell;have hk3:=hw2.1;clear hw2;go_simp;with_reducible rfl);simp only[Act.put,sA,sB,sC])
   refine wpL_e (fun K hK=>?_)
   refine HMZ.out.drew.wp_drop Tryz.underlying3 Tryz.underlying174 rfl rfl rfl ?_
   intro Q hmQ tQ
   refine hK _ _ ?_
   clear hK K
   have rq:=row_map tQ (row_drew RAY.out)
   have zq:=row_cell rq
   clear a1 a4 yf
   have a1:=zq 1
   simp at a1
   have yf:∀j,Q.frozen? ⟨bA,j,none⟩=false:=fun j=>row_free rq j
   have lq':=row_lt rq
   have HMQ:=hid hmQ
   have TQ:=hid tQ
   have RQ:=hid rq
   clear zq rq hmQ tQ
   repeat refine wpL_nil ?_
   go_wp2
   go_ret
   refine⟨rfl,⟨bY,bZ,_,_,_,HYA.out.turn (n':=n+1) (Z':=fun x=>isBusy x (A.set k s')) (((Chg.refl (S:=fun j=>j=bA∨j=bZ) Y).drew.trans (Chg.turned (S:=fun j=>j=bA∨j=bZ) TQ.out (.inr rfl)) fun _ _ h=>h).set (.inl rfl)) (row_set RQ.out 1 _) (HMQ.out.set nZ) ⟨fun x hx=>?_,fun x hx=>?_⟩⟩,?_⟩
   ·by_cases e:x=s.thread
    ·subst e;exact rup_same
    ·rw [rup_ne e]
     exact F5.out.1 x fun hb=>hx ((busy_end HU.out HS.out hst5 hth' h5).2 ⟨hb,e⟩)
   ·obtain ⟨hb,hne⟩:=(busy_end HU.out HS.out hst5 hth' h5).1 hx
    rw[rup_ne hne]
    exact F5.out.2 x hb
   ·exact ((BY.out.drew).trans (Below.turned TQ.out gZ)).setCell (p:=⟨bA,1,none⟩) hAB _
  ·have q5':(s'.stand==5)=false:=by simpa using h5
   repeat first|(refine wpL_p fun K hK=>?_;go_simp;refine hK _ _ ?_;clear hK K)|refine wpL_nil ?_
   go_wp2
   go_ret
   refine⟨rfl,⟨bY,bZ,_,_,_,HYA.out.turn (n':=n+1) (Z':=fun x=>isBusy x (A.set k s')) ((Chg.refl (S:=fun j=>j=bA∨j=bZ) Y).set (.inl rfl)) (row_set RAY.out 1 _) (HMZ.out.set nZ) ⟨fun x hx=>F5.out.1 x fun hb=>hx ((busy_set_iff HS.out hth' hst5 h5).1 hb),fun x hx=>F5.out.2 x ((busy_set_iff HS.out hth' hst5 h5).2 hx)⟩⟩,?_⟩
   exact BY.out.setCell (p:=⟨bA,1,none⟩) hAB _
theorem g_orderC (xk xx xh xj xo xy xv xr:Int) {B bA n:Nat} {os:List Ob} {A:Au} {k:Nat} {s:St} (w:World) (hval:validB ⟨xk,xx,xh,xj,xo,xy,xv,xr⟩=true) (hdr:dI xr) (hoc:∃(c:Nat) (o:Ob),xj=c∧os[c]?=some o∧ofOp xo=o.kind) (hk:xk=2) (hk2:2≤xk) (hk8:xk < 8) (hs:A[k]?=some s) (hi:s.id=xx) (hfr:s.stand ∉ fromOf xk) (hn:n < 400) (hA:A.length≤1000) (hl:s.deeds.length≤1000) (h:AuAt w B bA os n A) (hW:WordsG w) (hG:ErrsF w):
  Calls Tryz.prog 78 #[.pointer (some ⟨bA,0,none⟩),evV ⟨xk,xx,xh,xj,xo,xy,xv,xr⟩] w (IsErr B w):=by
 obtain⟨bY,bZ,ov,tv,bs,h⟩:=h
 have r0:=h.row
 have l0:=row_lt r0
 have y:=row_cell r0
 have y1:=y 1
 simp at y1
 have b0:Below w.heap.size w (w.alloc (.cells #[.int .i64 xk,.int .i64 xx,.int .i64 xh,.int .i64 xj,.int .i64 xo,.int .i64 xy,.int .i64 xv,.int .i64 xr] 69)):=(Below.refl _ w).alloc (Nat.le_refl _) _
 have re:=row_new w (.cells #[.int .i64 xk,.int .i64 xx,.int .i64 xh,.int .i64 xj,.int .i64 xo,.int .i64 xy,.int .i64 xv,.int .i64 xr] 69)
 obtain⟨hgc,tc,xc,hec⟩:=(hG.g.below b0).code
 obtain⟨hge,te,xe,hee⟩:=(hG.g.below b0).event
 have hv:=g_Valid ⟨xk,xx,xh,xj,xo,xy,xv,xr⟩ hdr _ (hW.below b0) _ _ hgc hec hge hee
 rw[hval] at hv
 simp only[if_true] at hv
 have hv:=hid hv
 have HG:=hid hG
 clear hgc hec hge hee hG hval
 have q1:((n:Int)==400)=false:=by simp;omega
 have qk1:(xk==1)=false:=by simp;omega
 have HFR:=hid hfr
 have HS:=hid hs
 have H:=hid h
 have HB0:=hid b0
 have RE:=hid re
 have hAB:=h.hB
 have hBw:B≤w.heap.size:=by omega
 subst hk
 clear y r0 h hs b0 re hfr
 go_enter Tryz.func78,Tryz.ntmps78
 go_wp2_with fail
 obtain⟨W,hWW⟩:∃W,W=w.alloc (.cells #[.int .i64 2,.int .i64 xx,.int .i64 xh,.int .i64 xj,.int .i64 xo,.int .i64 xy,.int .i64 xv,.int .i64 xr] 69):=⟨_,rfl⟩
 rw[←hWW] at hv HB0 RE ⊢
 clear hWW
 refine(hv.out).mono ?_
 rintro e W1 ⟨rfl,b1⟩
 have H1:=hid ((H.out.below HB0.out).below b1)
 have B1:=hid (HB0.out.trans (b1.mono HB0.out.size))
 have re1:=row_below RE.out b1 (row_lt RE.out)
 have le:=row_lt re1
 have ra1:=H1.out.row
 have la:=row_lt ra1
 have hea:w.heap.size≠bA:=by omega
 have hz1:=B1.out.size
 have hbew:w.heap.size < W1.heap.size:=le
 have y:=row_cell re1
 have e0:=y 0
 have e1:=y 1
 have e3:=y 3
 have e4:=y 4
 have e5:=y 5
 have e6:=y 6
 have e7:=y 7
 have e2:=y 2
 simp at e0 e1 e2 e3 e4 e5 e6 e7
 have z:=row_cell ra1
 have a0:=z 0
 have a1:=z 1
 have a3:=z 3
 simp at a0 a1 a3
 obtain⟨bp,hbp,hst⟩:=H1.out.get HS.out
 obtain⟨p,dv⟩:=bp
 obtain⟨MY,hmY,f1,f2⟩:=H1.out.by_.2
 have hMp:MY xx=some (ptrV p):=by rw[←hi];exact f1 k _ s hbp HS.out
 have lY:=hmY.lt
 obtain⟨ao,co,rfl,-⟩:∃a c,ov=.slice a os.length c∧True:=by
  rcases OwnF.form H1.out.obs with⟨h1,h2⟩|⟨g,cap,h1,-⟩
  ·exact ⟨_,_,by rw[h1,h2];rfl,trivial⟩
  ·exact ⟨_,_,h1,trivial⟩
 obtain⟨c,o1,rfl,ho1,ho2⟩:=hoc
 have hcl:=(List.getElem?_eq_some_iff.1 ho1).1
 obtain⟨b',off',o,hat',hb',hx',hc'⟩:=(OwnF.sl H1.out.obs).atF Ob.len rfl hcl
 have k0:W1.cell? ⟨b',off'+c*2+0,none⟩=some (.int .i64 o.kind):=hc' 0 (by decide)
 have hk1:ofOp xo=o.kind:=by
  rw[hx'] at ho1
  obtain rfl:=Option.some.inj ho1
  exact ho2
 clear ho1 ho2
 obtain⟨ok,on⟩:=o
 simp only at hk1
 subst hk1
 simp at k0
 have q5:decide (os.length≤c)=false:=by simp;omega
 subst hat'
 clear hx' hc'
 have RE1:=hid re1
 have RA1:=hid ra1
 have HST:=hid hst
 have HBP:=hid hbp
 have F:=hid (And.intro hmY hMp)
 clear y z re1 ra1 hst hbp hmY hMp f1 f2 b1 hv
 go_wp2_with fail
 refine wp_rN (W1.heap.size) [0,1,0,0,0,1,0,0] (.fin [0,1,2,3,4,5,6,7]) (by kernel_rfl) ?_
 simp only[wpT,selX,guardAt,sD,sE,sF,sG]
 repeat first|(refine wpL_p fun K hK=>?_;go_simp;refine hK _ _ ?_;clear hK K)|(apply wpL_s;(intro w2 hw2;have hk1:=hw2.cell;have hk3:=hw2.1;clear hw2;go_simp;with_reducible rfl);simp only[Act.put,sA,sB,sC])|refine wpL_nil ?_
 go_wp2_with fail
 refine wp_rN (W1.heap.size) [0,1,3,0,0,0,1,0,1,0,0,1,0] (.fin [0,1,3,4,5,6,7,8,9,10,11,2,12]) (by kernel_rfl) ?_
 simp only[wpT,selX,guardAt,sD,sE,sF,sG]
 repeat first|(refine wpL_p fun K hK=>?_;go_simp;refine hK _ _ ?_;clear hK K)|(apply wpL_s;(intro w2 hw2;have hk1:=hw2.cell;have hk3:=hw2.1;clear hw2;go_simp;with_reducible rfl);simp only[Act.put,sA,sB,sC])
 refine wpL_k (fun K hK=>?_)
 go_simp
 refine(g_Of xo _).mono ?_
 rintro e W5 ⟨he,hw5⟩
 subst he
 refine hK _ _ (by rw[hw5];exact RN.KeepsN.of_below (Below.refl _ _)) ?_
 clear hK K
 rw[hw5]
 clear hw5 W5
 repeat first|(refine wpL_p fun K hK=>?_;go_simp;refine hK _ _ ?_;clear hK K)|refine wpL_nil ?_
 go_wp2_with fail
 have lk1:=(F.out.1.drew.drew.drew.look Tryz.underlying3 Tryz.underlying174 (zeroPs W1.drew.drew.drew) xx F.out.2).2
 simp only[Option.getD_some,Option.isSome_some] at lk1
 unfold ptrV at lk1
 refine wp_rN (W1.heap.size) [0,0,0,1,0,1,2,0,0,0,0,0] (.fin [0,1,2,3,4,5,6,7,8,9,10,11]) (by kernel_rfl) ?_
 simp only[wpT,selX,guardAt,sD,sE,sF,sG]
 repeat first|(refine wpL_p fun K hK=>?_;go_simp;refine hK _ _ ?_;clear hK K)|(apply wpL_s;(intro w2 hw2;have hk1:=hw2.cell;have hk3:=hw2.1;clear hw2;go_simp;with_reducible rfl);simp only[Act.put,sA,sB,sC])
 refine wpL_e (fun K hK=>?_)
 go_simp
 refine hK _ _ ?_
 clear hK K lk1
 repeat first|(refine wpL_p fun K hK=>?_;go_simp;refine hK _ _ ?_;clear hK K)|refine wpL_nil ?_
 go_wp2_with fail
 have bV:Below W1.heap.size W1 W1.drew.drew.drew:=(Below.refl _ W1).drew.drew.drew
 have zV:W1.drew.drew.drew.heap.size=W1.heap.size:=rfl
 generalize W1.drew.drew.drew=V at *
 have HV:=hid (H1.out.below bV)
 have BV:=hid (B1.out.trans (bV.mono hz1))
 have re2:=row_below RE1.out bV le
 have le2:=row_lt re2
 have ra2:=HV.out.row
 have la2:=row_lt ra2
 have rp2:=(HV.out.sts _ _ _ HBP.out HS.out).row
 have lp2:=row_lt rp2
 clear e0 e1 e2 e3 e4 e5 e6 e7 a0 a1 a3 F k0 hb'
 have y:=row_cell re2
 have e0:=y 0
 simp at e0
 have RE2:=hid re2
 have BV1:=hid bV
 simp only at lp2
 have hVW:W1.heap.size≤V.heap.size:=by omega
 clear y re2 ra2 rp2 bV zV
 refine wp_mid (fun a a' X=>∃(bm bq g:Nat) (F:FuncId) (caps:Array Value),a'={tmps:=((((a.tmps.setIfInBounds 122 (.map (some bm))).setIfInBounds 123 (.pointer (some ⟨w.heap.size,0,none⟩))).setIfInBounds 124 (.int .i64 2)).setIfInBounds 125 (.agg #[.slice (some ⟨g,0,none⟩) (fromOf 2).length (fromOf 2).length,.func (.func F) #[] caps])).setIfInBounds 8 (.pointer (some ⟨bq,0,none⟩)),defers:=a.defers}∧
  X.heap[bq]?=some (.cells #[.slice (some ⟨g,0,none⟩) (fromOf 2).length (fromOf 2).length,.func (.func F) #[] caps] 250 (0,0))∧X.heap[g]?=some (.cells ((fromOf 2).map (.int .i64)).toArray 3 (0,0))∧DoIs X V.heap.size 2 F caps∧Below V.heap.size V X∧V.heap.size≤g∧V.heap.size≤bq) ?_ ?_
 ·
  refine wp_rN (V.heap.size) [3,0,1,2,3,2] (.frk [1,2] (.frk [0] (.fin [3,4,5]) (.fin [4,3,5])) (.fin [4,0,3,5])) (by kernel_rfl) ?_
  simp only[wpT,selX,guardAt,sD,sE,sF,sG]
  repeat first|(refine wpL_p fun K hK=>?_;go_simp;refine hK _ _ ?_;clear hK K)|(apply wpL_s;(intro w2 hw2;have hk1:=hw2.cell;have hk3:=hw2.1;clear hw2;go_simp;with_reducible rfl);simp only[Act.put,sA,sB,sC])|refine wpL_nil ?_
  refine⟨?_,?_⟩
  ·
   refine wpL_k (fun K hK=>?_)
   go_simp
   refine(s_moves _).mono ?_
   rintro e X ⟨bm,M,rfl,hM,hv,bX⟩
   refine hK _ _ (RN.KeepsN.of_below (bX.mono (Nat.le_refl _))) ?_
   clear hK K
   have bX1:Below V.heap.size V X:=(Below.refl _ V).drew.trans (bX.mono (Nat.le_refl _))
   obtain⟨v,hMk,g,F,caps,rfl,hg,hgB,hD⟩:=hv 2 (by decide) (by decide)
   have hgB:V.heap.size≤g:=hgB
   have hD:DoIs X V.heap.size 2 F caps:=hD
   have hlg:=row_lt hg
   have hMd:=hM
   clear bX hv
   repeat refine wpL_nil ?_
   refine⟨?_,?_⟩
   ·
    have lk:=(hM.look Tryz.underlying3 Tryz.underlying251 (zeroMove _) 2 hMk).1
    simp only[Option.getD_some] at lk
    refine wpL_e (fun K hK=>?_)
    go_simp
    refine hK _ _ ?_
    clear hK K lk
    refine wpL_k (fun K hK=>?_)
    go_simp
    refine hK _ _ (RN.KeepsN.alloc _ _ bX1.size) ?_
    clear hK K
    have hM:=hM.below ((Below.refl X.heap.size X).alloc (Nat.le_refl _) (.cells #[.slice none 0 0,.nilFunc] 250)) hM.lt
    refine wpL_e (fun K hK=>?_)
    go_simp
    refine hK _ _ ?_
    clear hK K
    repeat refine wpL_nil ?_
    exact⟨rfl,bm,_,g,F,caps,rfl,row_new X _,row_old hg,hD.row (fun _ _ _ _ h=>row_old h),bX1.alloc bX1.size _,hgB,bX1.size⟩
   ·
    refine wpL_k (fun K hK=>?_)
    go_simp
    refine hK _ _ (RN.KeepsN.alloc _ _ bX1.size) ?_
    clear hK K
    have hM:=hM.below ((Below.refl X.heap.size X).alloc (Nat.le_refl _) (.cells #[.slice none 0 0,.nilFunc] 250)) hM.lt
    have lk:=(hM.look Tryz.underlying3 Tryz.underlying251 (zeroMove _) 2 hMk).1
    simp only[Option.getD_some] at lk
    refine wpL_e (fun K hK=>?_)
    go_simp
    refine hK _ _ ?_
    clear hK K lk
    refine wpL_e (fun K hK=>?_)
    go_simp
    refine hK _ _ ?_
    clear hK K
    repeat refine wpL_nil ?_
    exact⟨rfl,bm,_,g,F,caps,rfl,row_new X _,row_old hg,hD.row (fun _ _ _ _ h=>row_old h),bX1.alloc bX1.size _,hgB,bX1.size⟩
  ·
   refine wpL_k (fun K hK=>?_)
   go_simp
   refine hK _ _ (RN.KeepsN.alloc _ _ (Nat.le_refl _)) ?_
   clear hK K
   have bA2:Below V.heap.size V (V.alloc (.cells #[.slice none 0 0,.nilFunc] 250)).drew:=((Below.refl _ V).alloc (Nat.le_refl _) _).drew
   have zA2:=bA2.size
   have rq:(V.alloc (.cells #[.slice none 0 0,.nilFunc] 250)).drew.heap[V.heap.size]?=some (.cells #[.slice none 0 0,.nilFunc] 250 (0,0)):=row_new V _
   generalize (V.alloc (.cells #[.slice none 0 0,.nilFunc] 250)).drew=V2 at *
   refine wpL_k (fun K hK=>?_)
   go_simp
   refine(s_moves _).mono ?_
   rintro e X ⟨bm,M,rfl,hM,hv,bX⟩
   refine hK _ _ (RN.KeepsN.of_below (bX.mono zA2)) ?_
   clear hK K
   have bX1:Below V.heap.size V X:=bA2.trans (bX.mono zA2)
   obtain⟨v,hMk,g,F,caps,rfl,hg,hgB,hD⟩:=hv 2 (by decide) (by decide)
   have hgq:V.heap.size≠g:=by have:=row_lt rq;omega
   have hqV:=row_lt rq
   have rq:=row_below rq bX (row_lt rq)
   have hgB:V.heap.size≤g:=Nat.le_trans zA2 hgB
   have q0:=row_cell rq 0
   have q1:=row_cell rq 1
   simp at q0 q1
   have qf:∀j,X.frozen? ⟨V.heap.size,j,none⟩=false:=fun j=>row_free rq j
   have lq:=row_lt rq
   have hlg:=row_lt hg
   have hMd:=hM
   clear bX hv
   have lk:=(hM.look Tryz.underlying3 Tryz.underlying251 (zeroMove _) 2 hMk).1
   simp only[Option.getD_some] at lk
   refine wpL_e (fun K hK=>?_)
   go_simp
   refine hK _ _ ?_
   clear hK K lk
   refine wpL_e (fun K hK=>?_)
   go_simp
   refine hK _ _ ?_
   clear hK K
   repeat refine wpL_nil ?_
   exact⟨rfl,bm,_,g,F,caps,rfl,row_set (row_set rq 0 _) 1 _,row_other (row_other hg hgq) hgq,((hD.set hqV).set hqV).base zA2,(bX1.setCell (p:=⟨V.heap.size,0,none⟩) (Nat.le_refl _) _).setCell (p:=⟨V.heap.size,1,none⟩) (Nat.le_refl _) _,hgB,Nat.le_refl _⟩
 ·rintro a' X ⟨bm,bq,g,F,caps,rfl,hq,hg,hD,bX,hgV,hqV⟩
  have HXA:=hid (HV.out.below bX)
  have zX:=bX.size
  have BX:=hid (BV.out.trans (bX.mono (by omega)))
  have q0:=row_cell hq 0
  have q1':=row_cell hq 1
  simp only[List.getElem?_toArray,List.getElem?_cons_zero,List.getElem?_cons_succ] at q0 q1'
  have lq:=row_lt hq
  have hstX:=HXA.out.sts _ _ _ HBP.out HS.out
  have rp:=hstX.row
  have lp:=row_lt rp
  simp only at lp
  have py:=row_cell rp
  have p7:=py 7
  simp[stCs] at p7
  have rex:=row_below RE2.out bX le2
  have lex:=row_lt rex
  have y:=row_cell rex
  have e0:=y 0
  have e1:=y 1
  have e2:=y 2
  have e3:=y 3
  have e4:=y 4
  have e5:=y 5
  have e6:=y 6
  have e7:=y 7
  simp at e0 e1 e2 e3 e4 e5 e6 e7
  have rax:=HXA.out.row
  have lax:=row_lt rax
  have z:=row_cell rax
  have a1:=z 1
  simp at a1
  have hct:=hid (s_ContainsNo _ (fromOf 2) s.stand X.drew (from_sl (w:=X.drew) hg) (by have:=from_len 2;omega) HFR.out)
  have hcf:=hD.cf
  have hpV:p < V.heap.size:=lp2
  obtain⟨fl,hfl⟩:∃fl,fl=(fromOf 2).length:=⟨_,rfl⟩
  have HSX:=hid hstX
  have RPX:=hid rp
  rw[←hfl] at q0 hct ⊢
  clear hfl y z py rp rex rax hq hg hD bX hstX
  go_wp2_with fail
  refine wp_rN (X.heap.size) [0,1,0,0,0,1,3,0] (.fin [0,1,2,3,4,5,6,7]) (by kernel_rfl) ?_
  simp only[wpT,selX,guardAt,sD,sE,sF,sG]
  repeat first|(refine wpL_p fun K hK=>?_;go_simp;refine hK _ _ ?_;clear hK K)|(apply wpL_s;(intro w2 hw2;have hk1:=hw2.cell;have hk3:=hw2.1;clear hw2;go_simp;with_reducible rfl);simp only[Act.put,sA,sB,sC])
  refine wpL_k (fun K hK=>?_)
  go_simp
  refine(hct.out).mono ?_
  rintro e W5 ⟨he,hw5⟩
  subst he
  refine hK _ _ (by rw[hw5];exact RN.KeepsN.of_below (Below.refl _ _)) ?_
  clear hK K hct
  rw[hw5]
  clear hw5 W5
  repeat first|(refine wpL_p fun K hK=>?_;go_simp;refine hK _ _ ?_;clear hK K)|refine wpL_nil ?_
  obtain⟨hg3,tw,xw,he3⟩:=(HG.out.order.below BX.out).below (Below.refl _ X).drew
  go_wp2_with fail
  refine bodyPost_ret (v:=.iface tw xw) (by simp[results,Tryz.results78,go_sem]) rfl ⟨⟨_,_,rfl⟩,?_⟩
  exact(BX.out.mono hBw).trans ((Below.refl _ X).drew.mono (by omega))
theorem g_txC (xk xx xh xj xo xy xv xr:Int) {B bA n:Nat} {os:List Ob} {A:Au} (w:World) (hval:validB ⟨xk,xx,xh,xj,xo,xy,xv,xr⟩=true) (hdr:dI xr) (hoc:∃(c:Nat) (o:Ob),xj=c∧os[c]?=some o∧ofOp xo=o.kind) (hk:xk=2) (hk2:2≤xk) (hk8:xk < 8) (hi:¬hasId xx A) (hn:n < 400) (hA:A.length≤1000) (h:AuAt w B bA os n A) (hW:WordsG w) (hG:ErrsF w):
  Calls Tryz.prog 78 #[.pointer (some ⟨bA,0,none⟩),evV ⟨xk,xx,xh,xj,xo,xy,xv,xr⟩] w (IsErr B w):=by
 obtain⟨bY,bZ,ov,tv,bs,h⟩:=h
 have r0:=h.row
 have l0:=row_lt r0
 have y:=row_cell r0
 have y1:=y 1
 simp at y1
 have b0:Below w.heap.size w (w.alloc (.cells #[.int .i64 xk,.int .i64 xx,.int .i64 xh,.int .i64 xj,.int .i64 xo,.int .i64 xy,.int .i64 xv,.int .i64 xr] 69)):=(Below.refl _ w).alloc (Nat.le_refl _) _
 have re:=row_new w (.cells #[.int .i64 xk,.int .i64 xx,.int .i64 xh,.int .i64 xj,.int .i64 xo,.int .i64 xy,.int .i64 xv,.int .i64 xr] 69)
 obtain⟨hgc,tc,xc,hec⟩:=(hG.g.below b0).code
 obtain⟨hge,te,xe,hee⟩:=(hG.g.below b0).event
 have hv:=g_Valid ⟨xk,xx,xh,xj,xo,xy,xv,xr⟩ hdr _ (hW.below b0) _ _ hgc hec hge hee
 rw[hval] at hv
 simp only[if_true] at hv
 have hv:=hid hv
 have HG:=hid hG
 clear hgc hec hge hee hG hval
 have q1:((n:Int)==400)=false:=by simp;omega
 have qk1:(xk==1)=false:=by simp;omega
 have HI:=hid hi
 have H:=hid h
 have HB0:=hid b0
 have RE:=hid re
 have hAB:=h.hB
 have hBw:B≤w.heap.size:=by omega
 subst hk
 clear y r0 h b0 re hi
 go_enter Tryz.func78,Tryz.ntmps78
 go_wp2_with fail
 obtain⟨W,hWW⟩:∃W,W=w.alloc (.cells #[.int .i64 2,.int .i64 xx,.int .i64 xh,.int .i64 xj,.int .i64 xo,.int .i64 xy,.int .i64 xv,.int .i64 xr] 69):=⟨_,rfl⟩
 rw[←hWW] at hv HB0 RE ⊢
 clear hWW
 refine(hv.out).mono ?_
 rintro e W1 ⟨rfl,b1⟩
 have H1:=hid ((H.out.below HB0.out).below b1)
 have B1:=hid (HB0.out.trans (b1.mono HB0.out.size))
 have re1:=row_below RE.out b1 (row_lt RE.out)
 have le:=row_lt re1
 have ra1:=H1.out.row
 have la:=row_lt ra1
 have hea:w.heap.size≠bA:=by omega
 have hz1:=B1.out.size
 have hbew:w.heap.size < W1.heap.size:=le
 have y:=row_cell re1
 have e0:=y 0
 have e1:=y 1
 have e3:=y 3
 have e4:=y 4
 have e5:=y 5
 have e6:=y 6
 have e7:=y 7
 have e2:=y 2
 simp at e0 e1 e2 e3 e4 e5 e6 e7
 have z:=row_cell ra1
 have a0:=z 0
 have a1:=z 1
 have a3:=z 3
 simp at a0 a1 a3
 obtain⟨MY,hmY,f1,f2⟩:=H1.out.by_.2
 have hMp:=f2 xx HI.out
 have lY:=hmY.lt
 obtain⟨ao,co,rfl,-⟩:∃a c,ov=.slice a os.length c∧True:=by
  rcases OwnF.form H1.out.obs with⟨h1,h2⟩|⟨g,cap,h1,-⟩
  ·exact ⟨_,_,by rw[h1,h2];rfl,trivial⟩
  ·exact ⟨_,_,h1,trivial⟩
 obtain⟨c,o1,rfl,ho1,ho2⟩:=hoc
 have hcl:=(List.getElem?_eq_some_iff.1 ho1).1
 obtain⟨b',off',o,hat',hb',hx',hc'⟩:=(OwnF.sl H1.out.obs).atF Ob.len rfl hcl
 have k0:W1.cell? ⟨b',off'+c*2+0,none⟩=some (.int .i64 o.kind):=hc' 0 (by decide)
 have hk1:ofOp xo=o.kind:=by
  rw[hx'] at ho1
  obtain rfl:=Option.some.inj ho1
  exact ho2
 clear ho1 ho2
 obtain⟨ok,on⟩:=o
 simp only at hk1
 subst hk1
 simp at k0
 have q5:decide (os.length≤c)=false:=by simp;omega
 subst hat'
 clear hx' hc'
 have RE1:=hid re1
 have RA1:=hid ra1
 have F:=hid (And.intro hmY hMp)
 clear y z re1 ra1 hmY hMp f1 f2 b1 hv
 go_wp2_with fail
 refine wp_rN (W1.heap.size) [0,1,0,0,0,1,0,0] (.fin [0,1,2,3,4,5,6,7]) (by kernel_rfl) ?_
 simp only[wpT,selX,guardAt,sD,sE,sF,sG]
 repeat first|(refine wpL_p fun K hK=>?_;go_simp;refine hK _ _ ?_;clear hK K)|(apply wpL_s;(intro w2 hw2;have hk1:=hw2.cell;have hk3:=hw2.1;clear hw2;go_simp;with_reducible rfl);simp only[Act.put,sA,sB,sC])|refine wpL_nil ?_
 go_wp2_with fail
 refine wp_rN (W1.heap.size) [0,1,3,0,0,0,1,0,1,0,0,1,0] (.fin [0,1,3,4,5,6,7,8,9,10,11,2,12]) (by kernel_rfl) ?_
 simp only[wpT,selX,guardAt,sD,sE,sF,sG]
 repeat first|(refine wpL_p fun K hK=>?_;go_simp;refine hK _ _ ?_;clear hK K)|(apply wpL_s;(intro w2 hw2;have hk1:=hw2.cell;have hk3:=hw2.1;clear hw2;go_simp;with_reducible rfl);simp only[Act.put,sA,sB,sC])
 refine wpL_k (fun K hK=>?_)
 go_simp
 refine(g_Of xo _).mono ?_
 rintro e W5 ⟨he,hw5⟩
 subst he
 refine hK _ _ (by rw[hw5];exact RN.KeepsN.of_below (Below.refl _ _)) ?_
 clear hK K
 rw[hw5]
 clear hw5 W5
 repeat first|(refine wpL_p fun K hK=>?_;go_simp;refine hK _ _ ?_;clear hK K)|refine wpL_nil ?_
 go_wp2_with fail
 have lk1:=(F.out.1.drew.drew.drew.look Tryz.underlying3 Tryz.underlying174 (zeroPs W1.drew.drew.drew) xx F.out.2).2
 simp only[Option.getD_none,Option.isSome_none] at lk1
 refine wp_rN (W1.heap.size) [0,0,0,1,0,1,2,0,0,0,0,0] (.fin [0,1,2,3,4,5,6,7,8,9,10,11]) (by kernel_rfl) ?_
 simp only[wpT,selX,guardAt,sD,sE,sF,sG]
 repeat first|(refine wpL_p fun K hK=>?_;go_simp;refine hK _ _ ?_;clear hK K)|(apply wpL_s;(intro w2 hw2;have hk1:=hw2.cell;have hk3:=hw2.1;clear hw2;go_simp;with_reducible rfl);simp only[Act.put,sA,sB,sC])
 refine wpL_e (fun K hK=>?_)
 go_simp
 refine hK _ _ ?_
 clear hK K lk1
 repeat first|(refine wpL_p fun K hK=>?_;go_simp;refine hK _ _ ?_;clear hK K)|refine wpL_nil ?_
 obtain⟨hg3,tw,xw,he3⟩:=(HG.out.tx.below B1.out).below (Below.refl _ W1).drew.drew.drew
 go_wp2_with fail
 refine bodyPost_ret (v:=.iface tw xw) (by simp[results,Tryz.results78,go_sem]) rfl ⟨⟨_,_,rfl⟩,?_⟩
 exact(B1.out.mono hBw).trans ((Below.refl _ W1).drew.drew.drew.mono (by omega))
end
