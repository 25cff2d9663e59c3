/- Parts of the proof; the first: The automaton of well-formed histories of all kinds of objects takes a move, or refuses it. Conditions: those of each theorem, as typed. -/
import Derived.Test.YtcpfbphcldocpaaGreatDoorQW07
set_option linter.unusedVariables false
set_option linter.unusedSimpArgs false
set_option linter.unusedSectionVars false
set_option maxRecDepth 100000
set_option maxHeartbeats 4000000
namespace Go.Proofs.YtcpfbphcldocpaaGreatDoor
open Go.Maps Go.RowKit
section
attribute [local irreducible] xE
theorem qej (xk xx xh xj xo xy xv xr:Int) {B bA n:Nat} {os:List Ob} {A:Au} {k:Nat} {s s':St} (w:World) (hval:xP ⟨xk,xx,xh,xj,xo,xy,xv,xr⟩=true) (hdr:dI xr) (hk:xk≠2) (hk2:2<=xk) (hk8:xk < 8) (hs:A[k]?=some s) (hi:s.id=xx) (hfr:s.stand ∈ qR xk) (hdl:s.stand=2->s.deeds≠[]) (hU:ML A) (hm:xN n ⟨xk,xx,xh,xj,xo,xy,xv,xr⟩ s=some s') (hn:n < 400) (hA:A.length<=1000) (hl:s.deeds.length<=1000) (h:uH w B bA os n A) (hW:xu w) (hG:jy w):
  Calls Tryz.prog 78 #[.pointer (some ⟨bA,0,none⟩),Xc ⟨xk,xx,xh,xj,xo,xy,xv,xr⟩] w (ZO w B bA os n (A.set k s')):=by
 obtain⟨bY,bZ,ov,tv,bs,h⟩:=h;have r0:=h.row;have l0:=qd r0;have y:=qa r0;have y1:=y 1;simp at y1;have b0:Below w.heap.size w (w.alloc (.cells #[.int .i64 xk,.int .i64 xx,.int .i64 xh,.int .i64 xj,.int .i64 xo,.int .i64 xy,.int .i64 xv,.int .i64 xr] 69)):=(Below.refl _ w).alloc (Nat.le_refl _) _;have re:=qy w (.cells #[.int .i64 xk,.int .i64 xx,.int .i64 xh,.int .i64 xj,.int .i64 xo,.int .i64 xy,.int .i64 xv,.int .i64 xr] 69);obtain⟨hgc,tc,xc,hec⟩:=(hG.g.below b0).code;obtain⟨hge,te,xe,hee⟩:=(hG.g.below b0).event;have hv:=ji ⟨xk,xx,xh,xj,xo,xy,xv,xr⟩ hdr _ (hW.below b0) _ _ hgc hec hge hee;rw[hval] at hv;simp only[if_true] at hv;have hv:=qh hv;have HG:=qh hG;clear hgc hec hge hee hG hval;have q1:((n:Int)==400)=false:=by simp;omega
 obtain⟨hid',hth',hst5⟩:=Qr hm;have qk1:(xk==1)=false:=by simp;omega
 have HM:=qh hm;have HFR:=qh hfr;have HS:=qh hs;have H:=qh h;have HB0:=qh b0;have RE:=qh re;have hAB:=h.hB;have hBw:B<=w.heap.size:=by omega
 have qk2:(xk==2)=false:=by simpa using hk
 have HDL:=qh hdl;have HU:=qh hU;clear y r0 h hs hm b0 re hfr hdl hU;go_enter Tryz.func78,Tryz.ntmps78;go_wp2_with fail;obtain⟨W,hWW⟩:∃W,W=w.alloc (.cells #[.int .i64 xk,.int .i64 xx,.int .i64 xh,.int .i64 xj,.int .i64 xo,.int .i64 xy,.int .i64 xv,.int .i64 xr] 69):=⟨_,rfl⟩
 rw[←hWW] at hv HB0 RE ⊢;clear hWW;refine(hv.o).mono ?_;rintro e W1 ⟨rfl,b1⟩;have H1:=qh ((H.o.below HB0.o).below b1);have B1:=qh (HB0.o.trans (b1.mono HB0.o.size));have re1:=qp RE.o b1 (qd RE.o);have le:=qd re1;have ra1:=H1.o.row;have la:=qd ra1;have hea:w.heap.size≠bA:=by omega
 have hz1:=B1.o.size;have hbew:w.heap.size < W1.heap.size:=le;have y:=qa re1;have e0:=y 0;have e1:=y 1;have e3:=y 3;have e4:=y 4;have e5:=y 5;have e6:=y 6;have e7:=y 7;have e2:=y 2;simp at e0 e1 e2 e3 e4 e5 e6 e7;have z:=qa ra1;have a0:=z 0;have a1:=z 1;have a3:=z 3;simp at a0 a1 a3;obtain⟨bp,hbp,hst⟩:=H1.o.get HS.o;obtain⟨p,dv⟩:=bp;obtain⟨MY,hmY,f1,f2⟩:=H1.o.by_.2;have hMp:MY xx=some (xD p):=by rw[←hi];exact f1 k _ s hbp HS.o
 have lY:=hmY.lt;have RE1:=qh re1;have RA1:=qh ra1;have HST:=qh hst;have HBP:=qh hbp;have F:=qh (And.intro hmY hMp);clear y z re1 ra1 hst hbp hmY hMp f1 f2 b1 hv;go_wp2_with fail;have lk1:=(F.o.1.drew.look Tryz.underlying3 Tryz.underlying174 (jb W1.drew) xx F.o.2).2;simp only[Option.getD_some,Option.isSome_some] at lk1;unfold xD at lk1;refine qI (W1.heap.size) [0,0,0,1,0,1,2,0,0,0,0,0] (.fin [0,1,2,3,4,5,6,7,8,9,10,11]) (by kernel_rfl) ?_;simp only[xi,qP,qA,sD,sE,sF,sG]
 repeat first|(refine qz fun K hK=>?_;go_simp;refine hK _ _ ?_;clear hK K)|(apply qC;(intro w2 hw2;have hk1:=hw2.cell;have hk3:=hw2.1;clear hw2;go_simp;with_reducible rfl);simp only[Act.put,sA,sB,sC])
 refine qM (fun K hK=>?_);go_simp;refine hK _ _ ?_;clear hK K lk1
 repeat first|(refine qz fun K hK=>?_;go_simp;refine hK _ _ ?_;clear hK K)|refine qu ?_
 go_wp2_with fail;have bV:Below W1.heap.size W1 W1.drew:=(Below.refl _ W1).drew;have zV:W1.drew.heap.size=W1.heap.size:=rfl;generalize W1.drew=V at *;have HV:=qh (H1.o.below bV);have BV:=qh (B1.o.trans (bV.mono hz1));have re2:=qp RE1.o bV le;have le2:=qd re2;have ra2:=HV.o.row;have la2:=qd ra2;have rp2:=(HV.o.sts _ _ _ HBP.o HS.o).row;have lp2:=qd rp2;clear e0 e1 e2 e3 e4 e5 e6 e7 a0 a1 a3 F;have y:=qa re2;have e0:=y 0;simp at e0;have RE2:=qh re2;have BV1:=qh bV;simp only at lp2;have hVW:W1.heap.size<=V.heap.size:=by omega
 clear y re2 ra2 rp2 bV zV;refine ZS (fun a a' X=>∃(bm bq g:Nat) (F:FuncId) (caps:Array Value),a'={tmps:=((((a.tmps.setIfInBounds 122 (.map (some bm))).setIfInBounds 123 (.pointer (some ⟨w.heap.size,0,none⟩))).setIfInBounds 124 (.int .i64 xk)).setIfInBounds 125 (.agg #[.slice (some ⟨g,0,none⟩) (qR xk).length (qR xk).length,.func (.func F) #[] caps])).setIfInBounds 8 (.pointer (some ⟨bq,0,none⟩)),defers:=a.defers}/\
  X.heap[bq]?=some (.cells #[.slice (some ⟨g,0,none⟩) (qR xk).length (qR xk).length,.func (.func F) #[] caps] 250 (0,0))/\X.heap[g]?=some (.cells ((qR xk).map (.int .i64)).toArray 3 (0,0))/\uD X V.heap.size xk F caps/\Below V.heap.size V X/\V.heap.size<=g/\V.heap.size<=bq) ?_ ?_
 ·
  refine qI (V.heap.size) [3,0,1,2,3,2] (.frk [1,2] (.frk [0] (.fin [3,4,5]) (.fin [4,3,5])) (.fin [4,0,3,5])) (by kernel_rfl) ?_;simp only[xi,qP,qA,sD,sE,sF,sG]
  repeat first|(refine qz fun K hK=>?_;go_simp;refine hK _ _ ?_;clear hK K)|(apply qC;(intro w2 hw2;have hk1:=hw2.cell;have hk3:=hw2.1;clear hw2;go_simp;with_reducible rfl);simp only[Act.put,sA,sB,sC])|refine qu ?_
  refine⟨?_,?_⟩
  ·
   refine qG (fun K hK=>?_);go_simp;refine(jI _).mono ?_;rintro e X ⟨bm,M,rfl,hM,hv,bX⟩;refine hK _ _ (RN.KeepsN.of_below (bX.mono (Nat.le_refl _))) ?_;clear hK K;have bX1:Below V.heap.size V X:=(Below.refl _ V).drew.trans (bX.mono (Nat.le_refl _));obtain⟨v,hMk,g,F,caps,rfl,hg,hgB,hD⟩:=hv xk hk2 hk8;have hgB:V.heap.size<=g:=hgB;have hD:uD X V.heap.size xk F caps:=hD;have hlg:=qd hg;have hMd:=hM;clear bX hv
   repeat refine qu ?_
   refine⟨?_,?_⟩
   ·
    have lk:=(hM.look Tryz.underlying3 Tryz.underlying251 (xW _) xk hMk).1;simp only[Option.getD_some] at lk;refine qM (fun K hK=>?_);go_simp;refine hK _ _ ?_;clear hK K lk;refine qG (fun K hK=>?_);go_simp;refine hK _ _ (RN.KeepsN.alloc _ _ bX1.size) ?_;clear hK K;have hM:=hM.below ((Below.refl X.heap.size X).alloc (Nat.le_refl _) (.cells #[.slice none 0 0,.nilFunc] 250)) hM.lt;refine qM (fun K hK=>?_);go_simp;refine hK _ _ ?_;clear hK K
    repeat refine qu ?_
    exact⟨rfl,bm,_,g,F,caps,rfl,qy X _,qD hg,hD.row (fun _ _ _ _ h=>qD h),bX1.alloc bX1.size _,hgB,bX1.size⟩
   ·
    refine qG (fun K hK=>?_);go_simp;refine hK _ _ (RN.KeepsN.alloc _ _ bX1.size) ?_;clear hK K;have hM:=hM.below ((Below.refl X.heap.size X).alloc (Nat.le_refl _) (.cells #[.slice none 0 0,.nilFunc] 250)) hM.lt;have lk:=(hM.look Tryz.underlying3 Tryz.underlying251 (xW _) xk hMk).1;simp only[Option.getD_some] at lk;refine qM (fun K hK=>?_);go_simp;refine hK _ _ ?_;clear hK K lk;refine qM (fun K hK=>?_);go_simp;refine hK _ _ ?_;clear hK K
    repeat refine qu ?_
    exact⟨rfl,bm,_,g,F,caps,rfl,qy X _,qD hg,hD.row (fun _ _ _ _ h=>qD h),bX1.alloc bX1.size _,hgB,bX1.size⟩
  ·
   refine qG (fun K hK=>?_);go_simp;refine hK _ _ (RN.KeepsN.alloc _ _ (Nat.le_refl _)) ?_;clear hK K;have bA2:Below V.heap.size V (V.alloc (.cells #[.slice none 0 0,.nilFunc] 250)).drew:=((Below.refl _ V).alloc (Nat.le_refl _) _).drew;have zA2:=bA2.size;have rq:(V.alloc (.cells #[.slice none 0 0,.nilFunc] 250)).drew.heap[V.heap.size]?=some (.cells #[.slice none 0 0,.nilFunc] 250 (0,0)):=qy V _;generalize (V.alloc (.cells #[.slice none 0 0,.nilFunc] 250)).drew=V2 at *;refine qG (fun K hK=>?_);go_simp;refine(jI _).mono ?_;rintro e X ⟨bm,M,rfl,hM,hv,bX⟩;refine hK _ _ (RN.KeepsN.of_below (bX.mono zA2)) ?_;clear hK K;have bX1:Below V.heap.size V X:=bA2.trans (bX.mono zA2);obtain⟨v,hMk,g,F,caps,rfl,hg,hgB,hD⟩:=hv xk hk2 hk8;have hgq:V.heap.size≠g:=by have:=qd rq;omega
   have hqV:=qd rq;have rq:=qp rq bX (qd rq);have hgB:V.heap.size<=g:=Nat.le_trans zA2 hgB;have q0:=qa rq 0;have q1:=qa rq 1;simp at q0 q1;have qf:∀j,X.frozen? ⟨V.heap.size,j,none⟩=false:=fun j=>qB rq j;have lq:=qd rq;have hlg:=qd hg;have hMd:=hM;clear bX hv;have lk:=(hM.look Tryz.underlying3 Tryz.underlying251 (xW _) xk hMk).1;simp only[Option.getD_some] at lk;refine qM (fun K hK=>?_);go_simp;refine hK _ _ ?_;clear hK K lk;refine qM (fun K hK=>?_);go_simp;refine hK _ _ ?_;clear hK K
   repeat refine qu ?_
   exact⟨rfl,bm,_,g,F,caps,rfl,qq (qq rq 0 _) 1 _,qJ (qJ hg hgq) hgq,((hD.set hqV).set hqV).base zA2,(bX1.setCell (p:=⟨V.heap.size,0,none⟩) (Nat.le_refl _) _).setCell (p:=⟨V.heap.size,1,none⟩) (Nat.le_refl _) _,hgB,Nat.le_refl _⟩
 ·rintro a' X ⟨bm,bq,g,F,caps,rfl,hq,hg,hD,bX,hgV,hqV⟩
  have HXA:=qh (HV.o.below bX);have zX:=bX.size;have BX:=qh (BV.o.trans (bX.mono (by omega)));have q0:=qa hq 0;have q1':=qa hq 1;simp only[List.getElem?_toArray,List.getElem?_cons_zero,List.getElem?_cons_succ] at q0 q1';have lq:=qd hq;have hstX:=HXA.o.sts _ _ _ HBP.o HS.o;have rp:=hstX.row;have lp:=qd rp;simp only at lp;have py:=qa rp;have p7:=py 7;simp[uX] at p7;have rex:=qp RE2.o bX le2;have lex:=qd rex;have y:=qa rex;have e0:=y 0;have e1:=y 1;have e2:=y 2;have e3:=y 3;have e4:=y 4;have e5:=y 5;have e6:=y 6;have e7:=y 7;simp at e0 e1 e2 e3 e4 e5 e6 e7;have rax:=HXA.o.row;have lax:=qd rax;have z:=qa rax;have a1:=z 1;simp at a1;have hct:=qh (Xv _ (qR xk) s.stand X.drew (Yl (w:=X.drew) hg) HFR.o);have hcf:=hD.cf;have hpV:p < V.heap.size:=lp2;have hdo:=JT (W:=X.drew.drew) (n:=n) xk xx xh xj xo xy xv xr (hstX.chg (S:=fun _=>False) (zo.refl X).drew.drew fun _ _ h=>h) (hD.row fun _ _ _ _ h=>h) hpV (by omega) (by omega) HFR.o HDL.o hl ((HG.o.answer.below BX.o).below (Below.refl _ _).drew.drew);rw[HM.o] at hdo;have hdo:Calls _ _ _ _ (Zt _ _ _ _):=hdo;have hdo:=qh hdo;obtain⟨fl,hfl⟩:∃fl,fl=(qR xk).length:=⟨_,rfl⟩
  have HSX:=qh hstX;have RPX:=qh rp;rw[←hfl] at q0 hct ⊢;clear hfl y z py rp rex rax hq hg hD bX hstX;go_wp2_with fail;refine qI (X.heap.size) [0,1,0,0,0,1,3,0] (.fin [0,1,2,3,4,5,6,7]) (by kernel_rfl) ?_;simp only[xi,qP,qA,sD,sE,sF,sG]
  repeat first|(refine qz fun K hK=>?_;go_simp;refine hK _ _ ?_;clear hK K)|(apply qC;(intro w2 hw2;have hk1:=hw2.cell;have hk3:=hw2.1;clear hw2;go_simp;with_reducible rfl);simp only[Act.put,sA,sB,sC])
  refine qG (fun K hK=>?_);go_simp;refine(hct.o).mono ?_;rintro e W5 ⟨he,hw5⟩;subst he;refine hK _ _ (by rw[hw5];exact RN.KeepsN.of_below (Below.refl _ _)) ?_;clear hK K hct;rw[hw5];clear hw5 W5
  repeat first|(refine qz fun K hK=>?_;go_simp;refine hK _ _ ?_;clear hK K)|refine qu ?_
  go_wp2_with fail;refine qI (X.heap.size) [0,1,0,1,0,0,0,1,2,0] (.fin [0,1,2,3,4,5,6,7,8,9]) (by kernel_rfl) ?_;simp only[xi,qP,qA,sD,sE,sF,sG]
  repeat first|(refine qz fun K hK=>?_;go_simp;refine hK _ _ ?_;clear hK K)|(apply qC;(intro w2 hw2;have hk1:=hw2.cell;have hk3:=hw2.1;clear hw2;go_simp;with_reducible rfl);simp only[Act.put,sA,sB,sC])
  refine qM (fun K hK=>?_);go_simp;refine(hdo.o).mono ?_;rintro e Y ⟨rfl,dv',hstY,hcY,hown⟩;refine hK _ _ ?_;clear hK K hdo;have hcX:zo (Rn (p,dv)) X Y:=((zo.refl X).drew.drew).trans hcY fun _ _ h=>h;have HYA:=qh (HXA.o.moved HBP.o HS.o hcX hstY hid' hth' hown);have ray:=HYA.o.row;have lay:=qd ray;have rpy:=hstY.row;have lpy:=qd rpy;simp only at lpy;have y:=qa rpy;have p7:=y 7;have p1:=y 1;simp[uX] at p7 p1;have z:=qa ray;have a1:=z 1;have a4:=z 4;simp at a1 a4;have yf:∀j,Y.frozen? ⟨bA,j,none⟩=false:=fun j=>qB ray j;obtain⟨MZ,hmZ,f5⟩:=HYA.o.bz.2;have gZ:=HYA.o.bz.1;have nZ:bZ≠bA:=fun e=>by
   obtain⟨es,c,hh⟩:=hmZ.isMap;rw[e,ray] at hh;cases hh
  have zY:X.heap.size<=Y.heap.size:=hcX.size;have BY:=qh ((BX.o.mono hBw).trans (hcX.below (fun j hj=>HSX.o.ge hj) (by omega)));have RAY:=qh ray;have HMZ:=qh hmZ;have F5:=qh f5;have hs5:s'.thread=s.thread:=hth';have lZ:=hmZ.lt;have hAY:bA < Y.heap.size:=lay;clear y z ray rpy hcY hown hmZ f5 hcX q0 q1' e0 e1 e2 e3 e4 e5 e6 e7;by_cases h5:s'.stand=5
  ·have q5':(s'.stand==5)=true:=by simpa using h5
   rw[h5] at p7
   repeat first|(refine qz fun K hK=>?_;go_simp;refine hK _ _ ?_;clear hK K)|refine qu ?_
   go_wp2_with fail;refine qI (Y.heap.size) [0,0,0,1,0,0,0,0,1,2] (.fin [0,1,2,3,4,5,6,7,8,9]) (by kernel_rfl) ?_;simp only[xi,qP,qA,sD,sE,sF,sG]
   repeat first|(refine qz fun K hK=>?_;go_simp;refine hK _ _ ?_;clear hK K)|(apply qC;(intro w2 hw2;have hk1:=hw2.cell;have hk3:=hw2.1;clear hw2;go_simp;with_reducible rfl);simp only[Act.put,sA,sB,sC])
   refine qM (fun K hK=>?_);refine HMZ.o.drew.wp_drop Tryz.underlying3 Tryz.underlying174 rfl rfl rfl ?_;intro Q hmQ tQ;refine hK _ _ ?_;clear hK K;have rq:=jJ tQ (jf RAY.o);have zq:=qa rq;clear a1 a4 yf;have a1:=zq 1;simp at a1;have yf:∀j,Q.frozen? ⟨bA,j,none⟩=false:=fun j=>qB rq j;have lq':=qd rq;have HMQ:=qh hmQ;have TQ:=qh tQ;have RQ:=qh rq;clear zq rq hmQ tQ
   repeat refine qu ?_
   go_wp2;go_ret;refine⟨rfl,⟨bY,bZ,_,_,_,HYA.o.turn (n':=n+1) (Z':=fun x=>yI x (A.set k s')) (((zo.refl (S:=fun j=>j=bA\/j=bZ) Y).drew.trans (zo.turned (S:=fun j=>j=bA\/j=bZ) TQ.o (.inr rfl)) fun _ _ h=>h).set (.inl rfl)) (qq RQ.o 1 _) (HMQ.o.set nZ) ⟨fun x hx=>?_,fun x hx=>?_⟩⟩,?_⟩
   ·by_cases e:x=s.thread
    ·subst e;exact xC
    ·rw [qZ e]
     exact F5.o.1 x fun hb=>hx ((Yq HU.o HS.o hst5 hth' h5).2 ⟨hb,e⟩)
   ·obtain ⟨hb,hne⟩:=(Yq HU.o HS.o hst5 hth' h5).1 hx
    rw[qZ hne];exact F5.o.2 x hb
   ·exact ((BY.o.drew).trans (Below.turned TQ.o gZ)).setCell (p:=⟨bA,1,none⟩) hAB _
  ·have q5':(s'.stand==5)=false:=by simpa using h5
   repeat first|(refine qz fun K hK=>?_;go_simp;refine hK _ _ ?_;clear hK K)|refine qu ?_
   go_wp2;go_ret;refine⟨rfl,⟨bY,bZ,_,_,_,HYA.o.turn (n':=n+1) (Z':=fun x=>yI x (A.set k s')) ((zo.refl (S:=fun j=>j=bA\/j=bZ) Y).set (.inl rfl)) (qq RAY.o 1 _) (HMZ.o.set nZ) ⟨fun x hx=>F5.o.1 x fun hb=>hx ((uo HS.o hth' hst5 h5).1 hb),fun x hx=>F5.o.2 x ((uo HS.o hth' hst5 h5).2 hx)⟩⟩,?_⟩;exact BY.o.setCell (p:=⟨bA,1,none⟩) hAB _
theorem qen (xk xx xh xj xo xy xv xr:Int) {B bA n:Nat} {os:List Ob} {A:Au} {k:Nat} {s:St} (w:World) (hval:xP ⟨xk,xx,xh,xj,xo,xy,xv,xr⟩=true) (hdr:dI xr) (hk:xk≠2) (hk2:2<=xk) (hk8:xk < 8) (hs:A[k]?=some s) (hi:s.id=xx) (hfr:s.stand ∈ qR xk) (hdl:s.stand=2->s.deeds≠[]) (hm:xN n ⟨xk,xx,xh,xj,xo,xy,xv,xr⟩ s=none) (hn:n < 400) (hA:A.length<=1000) (hl:s.deeds.length<=1000) (h:uH w B bA os n A) (hW:xu w) (hG:jy w):
  Calls Tryz.prog 78 #[.pointer (some ⟨bA,0,none⟩),Xc ⟨xk,xx,xh,xj,xo,xy,xv,xr⟩] w (QP B w):=by
 obtain⟨bY,bZ,ov,tv,bs,h⟩:=h;have r0:=h.row;have l0:=qd r0;have y:=qa r0;have y1:=y 1;simp at y1;have b0:Below w.heap.size w (w.alloc (.cells #[.int .i64 xk,.int .i64 xx,.int .i64 xh,.int .i64 xj,.int .i64 xo,.int .i64 xy,.int .i64 xv,.int .i64 xr] 69)):=(Below.refl _ w).alloc (Nat.le_refl _) _;have re:=qy w (.cells #[.int .i64 xk,.int .i64 xx,.int .i64 xh,.int .i64 xj,.int .i64 xo,.int .i64 xy,.int .i64 xv,.int .i64 xr] 69);obtain⟨hgc,tc,xc,hec⟩:=(hG.g.below b0).code;obtain⟨hge,te,xe,hee⟩:=(hG.g.below b0).event;have hv:=ji ⟨xk,xx,xh,xj,xo,xy,xv,xr⟩ hdr _ (hW.below b0) _ _ hgc hec hge hee;rw[hval] at hv;simp only[if_true] at hv;have hv:=qh hv;have HG:=qh hG;clear hgc hec hge hee hG hval;have q1:((n:Int)==400)=false:=by simp;omega
 have qk1:(xk==1)=false:=by simp;omega
 have HM:=qh hm;have HFR:=qh hfr;have HS:=qh hs;have H:=qh h;have HB0:=qh b0;have RE:=qh re;have hAB:=h.hB;have hBw:B<=w.heap.size:=by omega
 have qk2:(xk==2)=false:=by simpa using hk
 have HDL:=qh hdl;clear y r0 h hs hm b0 re hfr hdl;go_enter Tryz.func78,Tryz.ntmps78;go_wp2_with fail;obtain⟨W,hWW⟩:∃W,W=w.alloc (.cells #[.int .i64 xk,.int .i64 xx,.int .i64 xh,.int .i64 xj,.int .i64 xo,.int .i64 xy,.int .i64 xv,.int .i64 xr] 69):=⟨_,rfl⟩
 rw[←hWW] at hv HB0 RE ⊢;clear hWW;refine(hv.o).mono ?_;rintro e W1 ⟨rfl,b1⟩;have H1:=qh ((H.o.below HB0.o).below b1);have B1:=qh (HB0.o.trans (b1.mono HB0.o.size));have re1:=qp RE.o b1 (qd RE.o);have le:=qd re1;have ra1:=H1.o.row;have la:=qd ra1;have hea:w.heap.size≠bA:=by omega
 have hz1:=B1.o.size;have hbew:w.heap.size < W1.heap.size:=le;have y:=qa re1;have e0:=y 0;have e1:=y 1;have e3:=y 3;have e4:=y 4;have e5:=y 5;have e6:=y 6;have e7:=y 7;have e2:=y 2;simp at e0 e1 e2 e3 e4 e5 e6 e7;have z:=qa ra1;have a0:=z 0;have a1:=z 1;have a3:=z 3;simp at a0 a1 a3;obtain⟨bp,hbp,hst⟩:=H1.o.get HS.o;obtain⟨p,dv⟩:=bp;obtain⟨MY,hmY,f1,f2⟩:=H1.o.by_.2;have hMp:MY xx=some (xD p):=by rw[←hi];exact f1 k _ s hbp HS.o
 have lY:=hmY.lt;have RE1:=qh re1;have RA1:=qh ra1;have HST:=qh hst;have HBP:=qh hbp;have F:=qh (And.intro hmY hMp);clear y z re1 ra1 hst hbp hmY hMp f1 f2 b1 hv;go_wp2_with fail;have lk1:=(F.o.1.drew.look Tryz.underlying3 Tryz.underlying174 (jb W1.drew) xx F.o.2).2;simp only[Option.getD_some,Option.isSome_some] at lk1;unfold xD at lk1;refine qI (W1.heap.size) [0,0,0,1,0,1,2,0,0,0,0,0] (.fin [0,1,2,3,4,5,6,7,8,9,10,11]) (by kernel_rfl) ?_;simp only[xi,qP,qA,sD,sE,sF,sG]
 repeat first|(refine qz fun K hK=>?_;go_simp;refine hK _ _ ?_;clear hK K)|(apply qC;(intro w2 hw2;have hk1:=hw2.cell;have hk3:=hw2.1;clear hw2;go_simp;with_reducible rfl);simp only[Act.put,sA,sB,sC])
 refine qM (fun K hK=>?_);go_simp;refine hK _ _ ?_;clear hK K lk1
 repeat first|(refine qz fun K hK=>?_;go_simp;refine hK _ _ ?_;clear hK K)|refine qu ?_
 go_wp2_with fail;have bV:Below W1.heap.size W1 W1.drew:=(Below.refl _ W1).drew;have zV:W1.drew.heap.size=W1.heap.size:=rfl;generalize W1.drew=V at *;have HV:=qh (H1.o.below bV);have BV:=qh (B1.o.trans (bV.mono hz1));have re2:=qp RE1.o bV le;have le2:=qd re2;have ra2:=HV.o.row;have la2:=qd ra2;have rp2:=(HV.o.sts _ _ _ HBP.o HS.o).row;have lp2:=qd rp2;clear e0 e1 e2 e3 e4 e5 e6 e7 a0 a1 a3 F;have y:=qa re2;have e0:=y 0;simp at e0;have RE2:=qh re2;have BV1:=qh bV;simp only at lp2;have hVW:W1.heap.size<=V.heap.size:=by omega
 clear y re2 ra2 rp2 bV zV;refine ZS (fun a a' X=>∃(bm bq g:Nat) (F:FuncId) (caps:Array Value),a'={tmps:=((((a.tmps.setIfInBounds 122 (.map (some bm))).setIfInBounds 123 (.pointer (some ⟨w.heap.size,0,none⟩))).setIfInBounds 124 (.int .i64 xk)).setIfInBounds 125 (.agg #[.slice (some ⟨g,0,none⟩) (qR xk).length (qR xk).length,.func (.func F) #[] caps])).setIfInBounds 8 (.pointer (some ⟨bq,0,none⟩)),defers:=a.defers}/\
  X.heap[bq]?=some (.cells #[.slice (some ⟨g,0,none⟩) (qR xk).length (qR xk).length,.func (.func F) #[] caps] 250 (0,0))/\X.heap[g]?=some (.cells ((qR xk).map (.int .i64)).toArray 3 (0,0))/\uD X V.heap.size xk F caps/\Below V.heap.size V X/\V.heap.size<=g/\V.heap.size<=bq) ?_ ?_
 ·
  refine qI (V.heap.size) [3,0,1,2,3,2] (.frk [1,2] (.frk [0] (.fin [3,4,5]) (.fin [4,3,5])) (.fin [4,0,3,5])) (by kernel_rfl) ?_;simp only[xi,qP,qA,sD,sE,sF,sG]
  repeat first|(refine qz fun K hK=>?_;go_simp;refine hK _ _ ?_;clear hK K)|(apply qC;(intro w2 hw2;have hk1:=hw2.cell;have hk3:=hw2.1;clear hw2;go_simp;with_reducible rfl);simp only[Act.put,sA,sB,sC])|refine qu ?_
  refine⟨?_,?_⟩
  ·
   refine qG (fun K hK=>?_);go_simp;refine(jI _).mono ?_;rintro e X ⟨bm,M,rfl,hM,hv,bX⟩;refine hK _ _ (RN.KeepsN.of_below (bX.mono (Nat.le_refl _))) ?_;clear hK K;have bX1:Below V.heap.size V X:=(Below.refl _ V).drew.trans (bX.mono (Nat.le_refl _));obtain⟨v,hMk,g,F,caps,rfl,hg,hgB,hD⟩:=hv xk hk2 hk8;have hgB:V.heap.size<=g:=hgB;have hD:uD X V.heap.size xk F caps:=hD;have hlg:=qd hg;have hMd:=hM;clear bX hv
   repeat refine qu ?_
   refine⟨?_,?_⟩
   ·
    have lk:=(hM.look Tryz.underlying3 Tryz.underlying251 (xW _) xk hMk).1;simp only[Option.getD_some] at lk;refine qM (fun K hK=>?_);go_simp;refine hK _ _ ?_;clear hK K lk;refine qG (fun K hK=>?_);go_simp;refine hK _ _ (RN.KeepsN.alloc _ _ bX1.size) ?_;clear hK K;have hM:=hM.below ((Below.refl X.heap.size X).alloc (Nat.le_refl _) (.cells #[.slice none 0 0,.nilFunc] 250)) hM.lt;refine qM (fun K hK=>?_);go_simp;refine hK _ _ ?_;clear hK K
    repeat refine qu ?_
    exact⟨rfl,bm,_,g,F,caps,rfl,qy X _,qD hg,hD.row (fun _ _ _ _ h=>qD h),bX1.alloc bX1.size _,hgB,bX1.size⟩
   ·
    refine qG (fun K hK=>?_);go_simp;refine hK _ _ (RN.KeepsN.alloc _ _ bX1.size) ?_;clear hK K;have hM:=hM.below ((Below.refl X.heap.size X).alloc (Nat.le_refl _) (.cells #[.slice none 0 0,.nilFunc] 250)) hM.lt;have lk:=(hM.look Tryz.underlying3 Tryz.underlying251 (xW _) xk hMk).1;simp only[Option.getD_some] at lk;refine qM (fun K hK=>?_);go_simp;refine hK _ _ ?_;clear hK K lk;refine qM (fun K hK=>?_);go_simp;refine hK _ _ ?_;clear hK K
    repeat refine qu ?_
    exact⟨rfl,bm,_,g,F,caps,rfl,qy X _,qD hg,hD.row (fun _ _ _ _ h=>qD h),bX1.alloc bX1.size _,hgB,bX1.size⟩
  ·
   refine qG (fun K hK=>?_);go_simp;refine hK _ _ (RN.KeepsN.alloc _ _ (Nat.le_refl _)) ?_;clear hK K;have bA2:Below V.heap.size V (V.alloc (.cells #[.slice none 0 0,.nilFunc] 250)).drew:=((Below.refl _ V).alloc (Nat.le_refl _) _).drew;have zA2:=bA2.size;have rq:(V.alloc (.cells #[.slice none 0 0,.nilFunc] 250)).drew.heap[V.heap.size]?=some (.cells #[.slice none 0 0,.nilFunc] 250 (0,0)):=qy V _;generalize (V.alloc (.cells #[.slice none 0 0,.nilFunc] 250)).drew=V2 at *;refine qG (fun K hK=>?_);go_simp;refine(jI _).mono ?_;rintro e X ⟨bm,M,rfl,hM,hv,bX⟩;refine hK _ _ (RN.KeepsN.of_below (bX.mono zA2)) ?_;clear hK K;have bX1:Below V.heap.size V X:=bA2.trans (bX.mono zA2);obtain⟨v,hMk,g,F,caps,rfl,hg,hgB,hD⟩:=hv xk hk2 hk8;have hgq:V.heap.size≠g:=by have:=qd rq;omega
   have hqV:=qd rq;have rq:=qp rq bX (qd rq);have hgB:V.heap.size<=g:=Nat.le_trans zA2 hgB;have q0:=qa rq 0;have q1:=qa rq 1;simp at q0 q1;have qf:∀j,X.frozen? ⟨V.heap.size,j,none⟩=false:=fun j=>qB rq j;have lq:=qd rq;have hlg:=qd hg;have hMd:=hM;clear bX hv;have lk:=(hM.look Tryz.underlying3 Tryz.underlying251 (xW _) xk hMk).1;simp only[Option.getD_some] at lk;refine qM (fun K hK=>?_);go_simp;refine hK _ _ ?_;clear hK K lk;refine qM (fun K hK=>?_);go_simp;refine hK _ _ ?_;clear hK K
   repeat refine qu ?_
   exact⟨rfl,bm,_,g,F,caps,rfl,qq (qq rq 0 _) 1 _,qJ (qJ hg hgq) hgq,((hD.set hqV).set hqV).base zA2,(bX1.setCell (p:=⟨V.heap.size,0,none⟩) (Nat.le_refl _) _).setCell (p:=⟨V.heap.size,1,none⟩) (Nat.le_refl _) _,hgB,Nat.le_refl _⟩
 ·rintro a' X ⟨bm,bq,g,F,caps,rfl,hq,hg,hD,bX,hgV,hqV⟩
  have HXA:=qh (HV.o.below bX);have zX:=bX.size;have BX:=qh (BV.o.trans (bX.mono (by omega)));have q0:=qa hq 0;have q1':=qa hq 1;simp only[List.getElem?_toArray,List.getElem?_cons_zero,List.getElem?_cons_succ] at q0 q1';have lq:=qd hq;have hstX:=HXA.o.sts _ _ _ HBP.o HS.o;have rp:=hstX.row;have lp:=qd rp;simp only at lp;have py:=qa rp;have p7:=py 7;simp[uX] at p7;have rex:=qp RE2.o bX le2;have lex:=qd rex;have y:=qa rex;have e0:=y 0;have e1:=y 1;have e2:=y 2;have e3:=y 3;have e4:=y 4;have e5:=y 5;have e6:=y 6;have e7:=y 7;simp at e0 e1 e2 e3 e4 e5 e6 e7;have rax:=HXA.o.row;have lax:=qd rax;have z:=qa rax;have a1:=z 1;simp at a1;have hct:=qh (Xv _ (qR xk) s.stand X.drew (Yl (w:=X.drew) hg) HFR.o);have hcf:=hD.cf;have hpV:p < V.heap.size:=lp2;have hdo:=JT (W:=X.drew.drew) (n:=n) xk xx xh xj xo xy xv xr (hstX.chg (S:=fun _=>False) (zo.refl X).drew.drew fun _ _ h=>h) (hD.row fun _ _ _ _ h=>h) hpV (by omega) (by omega) HFR.o HDL.o hl ((HG.o.answer.below BX.o).below (Below.refl _ _).drew.drew);rw[HM.o] at hdo;have hdo:Calls _ _ _ _ (QP _ _):=hdo;have hdo:=qh hdo;obtain⟨fl,hfl⟩:∃fl,fl=(qR xk).length:=⟨_,rfl⟩
  have HSX:=qh hstX;have RPX:=qh rp;rw[←hfl] at q0 hct ⊢;clear hfl y z py rp rex rax hq hg hD bX hstX;go_wp2_with fail;refine qI (X.heap.size) [0,1,0,0,0,1,3,0] (.fin [0,1,2,3,4,5,6,7]) (by kernel_rfl) ?_;simp only[xi,qP,qA,sD,sE,sF,sG]
  repeat first|(refine qz fun K hK=>?_;go_simp;refine hK _ _ ?_;clear hK K)|(apply qC;(intro w2 hw2;have hk1:=hw2.cell;have hk3:=hw2.1;clear hw2;go_simp;with_reducible rfl);simp only[Act.put,sA,sB,sC])
  refine qG (fun K hK=>?_);go_simp;refine(hct.o).mono ?_;rintro e W5 ⟨he,hw5⟩;subst he;refine hK _ _ (by rw[hw5];exact RN.KeepsN.of_below (Below.refl _ _)) ?_;clear hK K hct;rw[hw5];clear hw5 W5
  repeat first|(refine qz fun K hK=>?_;go_simp;refine hK _ _ ?_;clear hK K)|refine qu ?_
  go_wp2_with fail;refine qI (X.heap.size) [0,1,0,1,0,0,0,1,2,0] (.fin [0,1,2,3,4,5,6,7,8,9]) (by kernel_rfl) ?_;simp only[xi,qP,qA,sD,sE,sF,sG]
  repeat first|(refine qz fun K hK=>?_;go_simp;refine hK _ _ ?_;clear hK K)|(apply qC;(intro w2 hw2;have hk1:=hw2.cell;have hk3:=hw2.1;clear hw2;go_simp;with_reducible rfl);simp only[Act.put,sA,sB,sC])
  refine qM (fun K hK=>?_);go_simp;refine(hdo.o).mono ?_;rintro e Y ⟨⟨tw,xw,rfl⟩,hY⟩;refine hK _ _ ?_;clear hK K hdo
  repeat first|(refine qz fun K hK=>?_;go_simp;refine hK _ _ ?_;clear hK K)|refine qu ?_
  go_wp2_with fail;refine bodyPost_ret (v:=.iface tw xw) (by simp[results,Tryz.results78,go_sem]) rfl ⟨⟨_,_,rfl⟩,?_⟩;exact(BX.o.mono hBw).trans (((Below.refl _ X).drew.drew.trans hY).mono (by show B<=X.heap.size;omega))
theorem qcr (xk xx xh xj xo xy xv xr:Int) {B bA n:Nat} {os:List Ob} {A:Au} {k:Nat} {s:St} (w:World) (hval:xP ⟨xk,xx,xh,xj,xo,xy,xv,xr⟩=true) (hdr:dI xr) (hk:xk≠2) (hk2:2<=xk) (hk8:xk < 8) (hs:A[k]?=some s) (hi:s.id=xx) (hfr:s.stand ∉ qR xk) (hn:n < 400) (hA:A.length<=1000) (hl:s.deeds.length<=1000) (h:uH w B bA os n A) (hW:xu w) (hG:jy w):
  Calls Tryz.prog 78 #[.pointer (some ⟨bA,0,none⟩),Xc ⟨xk,xx,xh,xj,xo,xy,xv,xr⟩] w (QP B w):=by
 obtain⟨bY,bZ,ov,tv,bs,h⟩:=h;have r0:=h.row;have l0:=qd r0;have y:=qa r0;have y1:=y 1;simp at y1;have b0:Below w.heap.size w (w.alloc (.cells #[.int .i64 xk,.int .i64 xx,.int .i64 xh,.int .i64 xj,.int .i64 xo,.int .i64 xy,.int .i64 xv,.int .i64 xr] 69)):=(Below.refl _ w).alloc (Nat.le_refl _) _;have re:=qy w (.cells #[.int .i64 xk,.int .i64 xx,.int .i64 xh,.int .i64 xj,.int .i64 xo,.int .i64 xy,.int .i64 xv,.int .i64 xr] 69);obtain⟨hgc,tc,xc,hec⟩:=(hG.g.below b0).code;obtain⟨hge,te,xe,hee⟩:=(hG.g.below b0).event;have hv:=ji ⟨xk,xx,xh,xj,xo,xy,xv,xr⟩ hdr _ (hW.below b0) _ _ hgc hec hge hee;rw[hval] at hv;simp only[if_true] at hv;have hv:=qh hv;have HG:=qh hG;clear hgc hec hge hee hG hval;have q1:((n:Int)==400)=false:=by simp;omega
 have qk1:(xk==1)=false:=by simp;omega
 have HFR:=qh hfr;have HS:=qh hs;have H:=qh h;have HB0:=qh b0;have RE:=qh re;have hAB:=h.hB;have hBw:B<=w.heap.size:=by omega
 have qk2:(xk==2)=false:=by simpa using hk
 clear y r0 h hs b0 re hfr;go_enter Tryz.func78,Tryz.ntmps78;go_wp2_with fail;obtain⟨W,hWW⟩:∃W,W=w.alloc (.cells #[.int .i64 xk,.int .i64 xx,.int .i64 xh,.int .i64 xj,.int .i64 xo,.int .i64 xy,.int .i64 xv,.int .i64 xr] 69):=⟨_,rfl⟩
 rw[←hWW] at hv HB0 RE ⊢;clear hWW;refine(hv.o).mono ?_;rintro e W1 ⟨rfl,b1⟩;have H1:=qh ((H.o.below HB0.o).below b1);have B1:=qh (HB0.o.trans (b1.mono HB0.o.size));have re1:=qp RE.o b1 (qd RE.o);have le:=qd re1;have ra1:=H1.o.row;have la:=qd ra1;have hea:w.heap.size≠bA:=by omega
 have hz1:=B1.o.size;have hbew:w.heap.size < W1.heap.size:=le;have y:=qa re1;have e0:=y 0;have e1:=y 1;have e3:=y 3;have e4:=y 4;have e5:=y 5;have e6:=y 6;have e7:=y 7;have e2:=y 2;simp at e0 e1 e2 e3 e4 e5 e6 e7;have z:=qa ra1;have a0:=z 0;have a1:=z 1;have a3:=z 3;simp at a0 a1 a3;obtain⟨bp,hbp,hst⟩:=H1.o.get HS.o;obtain⟨p,dv⟩:=bp;obtain⟨MY,hmY,f1,f2⟩:=H1.o.by_.2;have hMp:MY xx=some (xD p):=by rw[←hi];exact f1 k _ s hbp HS.o
 have lY:=hmY.lt;have RE1:=qh re1;have RA1:=qh ra1;have HST:=qh hst;have HBP:=qh hbp;have F:=qh (And.intro hmY hMp);clear y z re1 ra1 hst hbp hmY hMp f1 f2 b1 hv;go_wp2_with fail;have lk1:=(F.o.1.drew.look Tryz.underlying3 Tryz.underlying174 (jb W1.drew) xx F.o.2).2;simp only[Option.getD_some,Option.isSome_some] at lk1;unfold xD at lk1;refine qI (W1.heap.size) [0,0,0,1,0,1,2,0,0,0,0,0] (.fin [0,1,2,3,4,5,6,7,8,9,10,11]) (by kernel_rfl) ?_;simp only[xi,qP,qA,sD,sE,sF,sG]
 repeat first|(refine qz fun K hK=>?_;go_simp;refine hK _ _ ?_;clear hK K)|(apply qC;(intro w2 hw2;have hk1:=hw2.cell;have hk3:=hw2.1;clear hw2;go_simp;with_reducible rfl);simp only[Act.put,sA,sB,sC])
 refine qM (fun K hK=>?_);go_simp;refine hK _ _ ?_;clear hK K lk1
 repeat first|(refine qz fun K hK=>?_;go_simp;refine hK _ _ ?_;clear hK K)|refine qu ?_
 go_wp2_with fail;have bV:Below W1.heap.size W1 W1.drew:=(Below.refl _ W1).drew;have zV:W1.drew.heap.size=W1.heap.size:=rfl;generalize W1.drew=V at *;have HV:=qh (H1.o.below bV);have BV:=qh (B1.o.trans (bV.mono hz1));have re2:=qp RE1.o bV le;have le2:=qd re2;have ra2:=HV.o.row;have la2:=qd ra2;have rp2:=(HV.o.sts _ _ _ HBP.o HS.o).row;have lp2:=qd rp2;clear e0 e1 e2 e3 e4 e5 e6 e7 a0 a1 a3 F;have y:=qa re2;have e0:=y 0;simp at e0;have RE2:=qh re2;have BV1:=qh bV;simp only at lp2;have hVW:W1.heap.size<=V.heap.size:=by omega
 clear y re2 ra2 rp2 bV zV;refine ZS (fun a a' X=>∃(bm bq g:Nat) (F:FuncId) (caps:Array Value),a'={tmps:=((((a.tmps.setIfInBounds 122 (.map (some bm))).setIfInBounds 123 (.pointer (some ⟨w.heap.size,0,none⟩))).setIfInBounds 124 (.int .i64 xk)).setIfInBounds 125 (.agg #[.slice (some ⟨g,0,none⟩) (qR xk).length (qR xk).length,.func (.func F) #[] caps])).setIfInBounds 8 (.pointer (some ⟨bq,0,none⟩)),defers:=a.defers}/\
  X.heap[bq]?=some (.cells #[.slice (some ⟨g,0,none⟩) (qR xk).length (qR xk).length,.func (.func F) #[] caps] 250 (0,0))/\X.heap[g]?=some (.cells ((qR xk).map (.int .i64)).toArray 3 (0,0))/\uD X V.heap.size xk F caps/\Below V.heap.size V X/\V.heap.size<=g/\V.heap.size<=bq) ?_ ?_
 ·
  refine qI (V.heap.size) [3,0,1,2,3,2] (.frk [1,2] (.frk [0] (.fin [3,4,5]) (.fin [4,3,5])) (.fin [4,0,3,5])) (by kernel_rfl) ?_;simp only[xi,qP,qA,sD,sE,sF,sG]
  repeat first|(refine qz fun K hK=>?_;go_simp;refine hK _ _ ?_;clear hK K)|(apply qC;(intro w2 hw2;have hk1:=hw2.cell;have hk3:=hw2.1;clear hw2;go_simp;with_reducible rfl);simp only[Act.put,sA,sB,sC])|refine qu ?_
  refine⟨?_,?_⟩
  ·
   refine qG (fun K hK=>?_);go_simp;refine(jI _).mono ?_;rintro e X ⟨bm,M,rfl,hM,hv,bX⟩;refine hK _ _ (RN.KeepsN.of_below (bX.mono (Nat.le_refl _))) ?_;clear hK K;have bX1:Below V.heap.size V X:=(Below.refl _ V).drew.trans (bX.mono (Nat.le_refl _));obtain⟨v,hMk,g,F,caps,rfl,hg,hgB,hD⟩:=hv xk hk2 hk8;have hgB:V.heap.size<=g:=hgB;have hD:uD X V.heap.size xk F caps:=hD;have hlg:=qd hg;have hMd:=hM;clear bX hv
   repeat refine qu ?_
   refine⟨?_,?_⟩
   ·
    have lk:=(hM.look Tryz.underlying3 Tryz.underlying251 (xW _) xk hMk).1;simp only[Option.getD_some] at lk;refine qM (fun K hK=>?_);go_simp;refine hK _ _ ?_;clear hK K lk;refine qG (fun K hK=>?_);go_simp;refine hK _ _ (RN.KeepsN.alloc _ _ bX1.size) ?_;clear hK K;have hM:=hM.below ((Below.refl X.heap.size X).alloc (Nat.le_refl _) (.cells #[.slice none 0 0,.nilFunc] 250)) hM.lt;refine qM (fun K hK=>?_);go_simp;refine hK _ _ ?_;clear hK K
    repeat refine qu ?_
    exact⟨rfl,bm,_,g,F,caps,rfl,qy X _,qD hg,hD.row (fun _ _ _ _ h=>qD h),bX1.alloc bX1.size _,hgB,bX1.size⟩
   ·
    refine qG (fun K hK=>?_);go_simp;refine hK _ _ (RN.KeepsN.alloc _ _ bX1.size) ?_;clear hK K;have hM:=hM.below ((Below.refl X.heap.size X).alloc (Nat.le_refl _) (.cells #[.slice none 0 0,.nilFunc] 250)) hM.lt;have lk:=(hM.look Tryz.underlying3 Tryz.underlying251 (xW _) xk hMk).1;simp only[Option.getD_some] at lk;refine qM (fun K hK=>?_);go_simp;refine hK _ _ ?_;clear hK K lk;refine qM (fun K hK=>?_);go_simp;refine hK _ _ ?_;clear hK K
    repeat refine qu ?_
    exact⟨rfl,bm,_,g,F,caps,rfl,qy X _,qD hg,hD.row (fun _ _ _ _ h=>qD h),bX1.alloc bX1.size _,hgB,bX1.size⟩
  ·
   refine qG (fun K hK=>?_);go_simp;refine hK _ _ (RN.KeepsN.alloc _ _ (Nat.le_refl _)) ?_;clear hK K;have bA2:Below V.heap.size V (V.alloc (.cells #[.slice none 0 0,.nilFunc] 250)).drew:=((Below.refl _ V).alloc (Nat.le_refl _) _).drew;have zA2:=bA2.size;have rq:(V.alloc (.cells #[.slice none 0 0,.nilFunc] 250)).drew.heap[V.heap.size]?=some (.cells #[.slice none 0 0,.nilFunc] 250 (0,0)):=qy V _;generalize (V.alloc (.cells #[.slice none 0 0,.nilFunc] 250)).drew=V2 at *;refine qG (fun K hK=>?_);go_simp;refine(jI _).mono ?_;rintro e X ⟨bm,M,rfl,hM,hv,bX⟩;refine hK _ _ (RN.KeepsN.of_below (bX.mono zA2)) ?_;clear hK K;have bX1:Below V.heap.size V X:=bA2.trans (bX.mono zA2);obtain⟨v,hMk,g,F,caps,rfl,hg,hgB,hD⟩:=hv xk hk2 hk8;have hgq:V.heap.size≠g:=by have:=qd rq;omega
   have hqV:=qd rq;have rq:=qp rq bX (qd rq);have hgB:V.heap.size<=g:=Nat.le_trans zA2 hgB;have q0:=qa rq 0;have q1:=qa rq 1;simp at q0 q1;have qf:∀j,X.frozen? ⟨V.heap.size,j,none⟩=false:=fun j=>qB rq j;have lq:=qd rq;have hlg:=qd hg;have hMd:=hM;clear bX hv;have lk:=(hM.look Tryz.underlying3 Tryz.underlying251 (xW _) xk hMk).1;simp only[Option.getD_some] at lk;refine qM (fun K hK=>?_);go_simp;refine hK _ _ ?_;clear hK K lk;refine qM (fun K hK=>?_);go_simp;refine hK _ _ ?_;clear hK K
   repeat refine qu ?_
   exact⟨rfl,bm,_,g,F,caps,rfl,qq (qq rq 0 _) 1 _,qJ (qJ hg hgq) hgq,((hD.set hqV).set hqV).base zA2,(bX1.setCell (p:=⟨V.heap.size,0,none⟩) (Nat.le_refl _) _).setCell (p:=⟨V.heap.size,1,none⟩) (Nat.le_refl _) _,hgB,Nat.le_refl _⟩
 ·rintro a' X ⟨bm,bq,g,F,caps,rfl,hq,hg,hD,bX,hgV,hqV⟩
  have HXA:=qh (HV.o.below bX);have zX:=bX.size;have BX:=qh (BV.o.trans (bX.mono (by omega)));have q0:=qa hq 0;have q1':=qa hq 1;simp only[List.getElem?_toArray,List.getElem?_cons_zero,List.getElem?_cons_succ] at q0 q1';have lq:=qd hq;have hstX:=HXA.o.sts _ _ _ HBP.o HS.o;have rp:=hstX.row;have lp:=qd rp;simp only at lp;have py:=qa rp;have p7:=py 7;simp[uX] at p7;have rex:=qp RE2.o bX le2;have lex:=qd rex;have y:=qa rex;have e0:=y 0;have e1:=y 1;have e2:=y 2;have e3:=y 3;have e4:=y 4;have e5:=y 5;have e6:=y 6;have e7:=y 7;simp at e0 e1 e2 e3 e4 e5 e6 e7;have rax:=HXA.o.row;have lax:=qd rax;have z:=qa rax;have a1:=z 1;simp at a1;have hct:=qh (XR _ (qR xk) s.stand X.drew (Yl (w:=X.drew) hg) (by have:=JI xk;omega) HFR.o);have hcf:=hD.cf;have hpV:p < V.heap.size:=lp2;obtain⟨fl,hfl⟩:∃fl,fl=(qR xk).length:=⟨_,rfl⟩
  have HSX:=qh hstX;have RPX:=qh rp;rw[←hfl] at q0 hct ⊢;clear hfl y z py rp rex rax hq hg hD bX hstX;go_wp2_with fail;refine qI (X.heap.size) [0,1,0,0,0,1,3,0] (.fin [0,1,2,3,4,5,6,7]) (by kernel_rfl) ?_;simp only[xi,qP,qA,sD,sE,sF,sG]
  repeat first|(refine qz fun K hK=>?_;go_simp;refine hK _ _ ?_;clear hK K)|(apply qC;(intro w2 hw2;have hk1:=hw2.cell;have hk3:=hw2.1;clear hw2;go_simp;with_reducible rfl);simp only[Act.put,sA,sB,sC])
  refine qG (fun K hK=>?_);go_simp;refine(hct.o).mono ?_;rintro e W5 ⟨he,hw5⟩;subst he;refine hK _ _ (by rw[hw5];exact RN.KeepsN.of_below (Below.refl _ _)) ?_;clear hK K hct;rw[hw5];clear hw5 W5
  repeat first|(refine qz fun K hK=>?_;go_simp;refine hK _ _ ?_;clear hK K)|refine qu ?_
  obtain⟨hg3,tw,xw,he3⟩:=(HG.o.order.below BX.o).below (Below.refl _ X).drew;go_wp2_with fail;refine bodyPost_ret (v:=.iface tw xw) (by simp[results,Tryz.results78,go_sem]) rfl ⟨⟨_,_,rfl⟩,?_⟩;exact(BX.o.mono hBw).trans ((Below.refl _ X).drew.mono (by omega))
theorem qgW (xk xx xh xj xo xy xv xr:Int) {B bA n:Nat} {os:List Ob} {A:Au} (w:World) (hval:xP ⟨xk,xx,xh,xj,xo,xy,xv,xr⟩=true) (hdr:dI xr) (hk:xk≠2) (hk2:2<=xk) (hk8:xk < 8) (hi:¬uw xx A) (hn:n < 400) (hA:A.length<=1000) (h:uH w B bA os n A) (hW:xu w) (hG:jy w):
  Calls Tryz.prog 78 #[.pointer (some ⟨bA,0,none⟩),Xc ⟨xk,xx,xh,xj,xo,xy,xv,xr⟩] w (QP B w):=by
 obtain⟨bY,bZ,ov,tv,bs,h⟩:=h;have r0:=h.row;have l0:=qd r0;have y:=qa r0;have y1:=y 1;simp at y1;have b0:Below w.heap.size w (w.alloc (.cells #[.int .i64 xk,.int .i64 xx,.int .i64 xh,.int .i64 xj,.int .i64 xo,.int .i64 xy,.int .i64 xv,.int .i64 xr] 69)):=(Below.refl _ w).alloc (Nat.le_refl _) _;have re:=qy w (.cells #[.int .i64 xk,.int .i64 xx,.int .i64 xh,.int .i64 xj,.int .i64 xo,.int .i64 xy,.int .i64 xv,.int .i64 xr] 69);obtain⟨hgc,tc,xc,hec⟩:=(hG.g.below b0).code;obtain⟨hge,te,xe,hee⟩:=(hG.g.below b0).event;have hv:=ji ⟨xk,xx,xh,xj,xo,xy,xv,xr⟩ hdr _ (hW.below b0) _ _ hgc hec hge hee;rw[hval] at hv;simp only[if_true] at hv;have hv:=qh hv;have HG:=qh hG;clear hgc hec hge hee hG hval;have q1:((n:Int)==400)=false:=by simp;omega
 have qk1:(xk==1)=false:=by simp;omega
 have HI:=qh hi;have H:=qh h;have HB0:=qh b0;have RE:=qh re;have hAB:=h.hB;have hBw:B<=w.heap.size:=by omega
 have qk2:(xk==2)=false:=by simpa using hk
 clear y r0 h b0 re hi;go_enter Tryz.func78,Tryz.ntmps78;go_wp2_with fail;obtain⟨W,hWW⟩:∃W,W=w.alloc (.cells #[.int .i64 xk,.int .i64 xx,.int .i64 xh,.int .i64 xj,.int .i64 xo,.int .i64 xy,.int .i64 xv,.int .i64 xr] 69):=⟨_,rfl⟩
 rw[←hWW] at hv HB0 RE ⊢;clear hWW;refine(hv.o).mono ?_;rintro e W1 ⟨rfl,b1⟩;have H1:=qh ((H.o.below HB0.o).below b1);have B1:=qh (HB0.o.trans (b1.mono HB0.o.size));have re1:=qp RE.o b1 (qd RE.o);have le:=qd re1;have ra1:=H1.o.row;have la:=qd ra1;have hea:w.heap.size≠bA:=by omega
 have hz1:=B1.o.size;have hbew:w.heap.size < W1.heap.size:=le;have y:=qa re1;have e0:=y 0;have e1:=y 1;have e3:=y 3;have e4:=y 4;have e5:=y 5;have e6:=y 6;have e7:=y 7;have e2:=y 2;simp at e0 e1 e2 e3 e4 e5 e6 e7;have z:=qa ra1;have a0:=z 0;have a1:=z 1;have a3:=z 3;simp at a0 a1 a3;obtain⟨MY,hmY,f1,f2⟩:=H1.o.by_.2;have hMp:=f2 xx HI.o;have lY:=hmY.lt;have RE1:=qh re1;have RA1:=qh ra1;have F:=qh (And.intro hmY hMp);clear y z re1 ra1 hmY hMp f1 f2 b1 hv;go_wp2_with fail;have lk1:=(F.o.1.drew.look Tryz.underlying3 Tryz.underlying174 (jb W1.drew) xx F.o.2).2;simp only[Option.getD_none,Option.isSome_none] at lk1;refine qI (W1.heap.size) [0,0,0,1,0,1,2,0,0,0,0,0] (.fin [0,1,2,3,4,5,6,7,8,9,10,11]) (by kernel_rfl) ?_;simp only[xi,qP,qA,sD,sE,sF,sG]
 repeat first|(refine qz fun K hK=>?_;go_simp;refine hK _ _ ?_;clear hK K)|(apply qC;(intro w2 hw2;have hk1:=hw2.cell;have hk3:=hw2.1;clear hw2;go_simp;with_reducible rfl);simp only[Act.put,sA,sB,sC])
 refine qM (fun K hK=>?_);go_simp;refine hK _ _ ?_;clear hK K lk1
 repeat first|(refine qz fun K hK=>?_;go_simp;refine hK _ _ ?_;clear hK K)|refine qu ?_
 obtain⟨hg3,tw,xw,he3⟩:=(HG.o.tx.below B1.o).below (Below.refl _ W1).drew;go_wp2_with fail;refine bodyPost_ret (v:=.iface tw xw) (by simp[results,Tryz.results78,go_sem]) rfl ⟨⟨_,_,rfl⟩,?_⟩;exact(B1.o.mono hBw).trans ((Below.refl _ W1).drew.mono (by omega))
theorem qek (xk xx xh xj xo xy xv xr:Int) {B bA n:Nat} {os:List Ob} {A:Au} {k:Nat} {s s':St} (w:World) (hval:xP ⟨xk,xx,xh,xj,xo,xy,xv,xr⟩=true) (hdr:dI xr) (hoc:∃(c:Nat) (o:Ob),xj=c/\os[c]?=some o/\jT xo=o.kind) (hk:xk=2) (hk2:2<=xk) (hk8:xk < 8) (hs:A[k]?=some s) (hi:s.id=xx) (hfr:s.stand ∈ qR xk) (hdl:s.stand=2->s.deeds≠[]) (hU:ML A) (hm:xN n ⟨xk,xx,xh,xj,xo,xy,xv,xr⟩ s=some s') (hn:n < 400) (hA:A.length<=1000) (hl:s.deeds.length<=1000) (h:uH w B bA os n A) (hW:xu w) (hG:jy w):
  Calls Tryz.prog 78 #[.pointer (some ⟨bA,0,none⟩),Xc ⟨xk,xx,xh,xj,xo,xy,xv,xr⟩] w (ZO w B bA os n (A.set k s')):=by
 obtain⟨bY,bZ,ov,tv,bs,h⟩:=h;have r0:=h.row;have l0:=qd r0;have y:=qa r0;have y1:=y 1;simp at y1;have b0:Below w.heap.size w (w.alloc (.cells #[.int .i64 xk,.int .i64 xx,.int .i64 xh,.int .i64 xj,.int .i64 xo,.int .i64 xy,.int .i64 xv,.int .i64 xr] 69)):=(Below.refl _ w).alloc (Nat.le_refl _) _;have re:=qy w (.cells #[.int .i64 xk,.int .i64 xx,.int .i64 xh,.int .i64 xj,.int .i64 xo,.int .i64 xy,.int .i64 xv,.int .i64 xr] 69);obtain⟨hgc,tc,xc,hec⟩:=(hG.g.below b0).code;obtain⟨hge,te,xe,hee⟩:=(hG.g.below b0).event;have hv:=ji ⟨xk,xx,xh,xj,xo,xy,xv,xr⟩ hdr _ (hW.below b0) _ _ hgc hec hge hee;rw[hval] at hv;simp only[if_true] at hv;have hv:=qh hv;have HG:=qh hG;clear hgc hec hge hee hG hval;have q1:((n:Int)==400)=false:=by simp;omega
 obtain⟨hid',hth',hst5⟩:=Qr hm;have qk1:(xk==1)=false:=by simp;omega
 have HM:=qh hm;have HFR:=qh hfr;have HS:=qh hs;have H:=qh h;have HB0:=qh b0;have RE:=qh re;have hAB:=h.hB;have hBw:B<=w.heap.size:=by omega
 subst hk;have HDL:=qh hdl;have HU:=qh hU;clear y r0 h hs hm b0 re hfr hdl hU;go_enter Tryz.func78,Tryz.ntmps78;go_wp2_with fail;obtain⟨W,hWW⟩:∃W,W=w.alloc (.cells #[.int .i64 2,.int .i64 xx,.int .i64 xh,.int .i64 xj,.int .i64 xo,.int .i64 xy,.int .i64 xv,.int .i64 xr] 69):=⟨_,rfl⟩
 rw[←hWW] at hv HB0 RE ⊢;clear hWW;refine(hv.o).mono ?_;rintro e W1 ⟨rfl,b1⟩;have H1:=qh ((H.o.below HB0.o).below b1);have B1:=qh (HB0.o.trans (b1.mono HB0.o.size));have re1:=qp RE.o b1 (qd RE.o);have le:=qd re1;have ra1:=H1.o.row;have la:=qd ra1;have hea:w.heap.size≠bA:=by omega
 have hz1:=B1.o.size;have hbew:w.heap.size < W1.heap.size:=le;have y:=qa re1;have e0:=y 0;have e1:=y 1;have e3:=y 3;have e4:=y 4;have e5:=y 5;have e6:=y 6;have e7:=y 7;have e2:=y 2;simp at e0 e1 e2 e3 e4 e5 e6 e7;have z:=qa ra1;have a0:=z 0;have a1:=z 1;have a3:=z 3;simp at a0 a1 a3;obtain⟨bp,hbp,hst⟩:=H1.o.get HS.o;obtain⟨p,dv⟩:=bp;obtain⟨MY,hmY,f1,f2⟩:=H1.o.by_.2;have hMp:MY xx=some (xD p):=by rw[←hi];exact f1 k _ s hbp HS.o
 have lY:=hmY.lt;obtain⟨ao,co,rfl,-⟩:∃a c,ov=.slice a os.length c/\True:=by
  rcases qj.form H1.o.obs with⟨h1,h2⟩|⟨g,cap,h1,-⟩
  ·exact ⟨_,_,by rw[h1,h2];rfl,trivial⟩
  ·exact ⟨_,_,h1,trivial⟩
 obtain⟨c,o1,rfl,ho1,ho2⟩:=hoc;have hcl:=(List.getElem?_eq_some_iff.1 ho1).1;obtain⟨b',off',o,hat',hb',hx',hc'⟩:=(qj.sl H1.o.obs).atF Ob.len rfl hcl;have k0:W1.cell? ⟨b',off'+c*2+0,none⟩=some (.int .i64 o.kind):=hc' 0 (by decide);have hk1:jT xo=o.kind:=by
  rw[hx'] at ho1;obtain rfl:=Option.some.inj ho1;exact ho2
 clear ho1 ho2;obtain⟨ok,on⟩:=o;simp only at hk1;subst hk1;simp at k0;have q5:decide (os.length<=c)=false:=by simp;omega
 subst hat';clear hx' hc';have RE1:=qh re1;have RA1:=qh ra1;have HST:=qh hst;have HBP:=qh hbp;have F:=qh (And.intro hmY hMp);clear y z re1 ra1 hst hbp hmY hMp f1 f2 b1 hv;go_wp2_with fail;refine qI (W1.heap.size) [0,1,0,0,0,1,0,0] (.fin [0,1,2,3,4,5,6,7]) (by kernel_rfl) ?_;simp only[xi,qP,qA,sD,sE,sF,sG]
 repeat first|(refine qz fun K hK=>?_;go_simp;refine hK _ _ ?_;clear hK K)|(apply qC;(intro w2 hw2;have hk1:=hw2.cell;have hk3:=hw2.1;clear hw2;go_simp;with_reducible rfl);simp only[Act.put,sA,sB,sC])|refine qu ?_
 go_wp2_with fail;refine qI (W1.heap.size) [0,1,3,0,0,0,1,0,1,0,0,1,0] (.fin [0,1,3,4,5,6,7,8,9,10,11,2,12]) (by kernel_rfl) ?_;simp only[xi,qP,qA,sD,sE,sF,sG]
 repeat first|(refine qz fun K hK=>?_;go_simp;refine hK _ _ ?_;clear hK K)|(apply qC;(intro w2 hw2;have hk1:=hw2.cell;have hk3:=hw2.1;clear hw2;go_simp;with_reducible rfl);simp only[Act.put,sA,sB,sC])
 refine qG (fun K hK=>?_);go_simp;refine(qay xo _).mono ?_;rintro e W5 ⟨he,hw5⟩;subst he;refine hK _ _ (by rw[hw5];exact RN.KeepsN.of_below (Below.refl _ _)) ?_;clear hK K;rw[hw5];clear hw5 W5
 repeat first|(refine qz fun K hK=>?_;go_simp;refine hK _ _ ?_;clear hK K)|refine qu ?_
 go_wp2_with fail;have lk1:=(F.o.1.drew.drew.drew.look Tryz.underlying3 Tryz.underlying174 (jb W1.drew.drew.drew) xx F.o.2).2;simp only[Option.getD_some,Option.isSome_some] at lk1;unfold xD at lk1;refine qI (W1.heap.size) [0,0,0,1,0,1,2,0,0,0,0,0] (.fin [0,1,2,3,4,5,6,7,8,9,10,11]) (by kernel_rfl) ?_;simp only[xi,qP,qA,sD,sE,sF,sG]
 repeat first|(refine qz fun K hK=>?_;go_simp;refine hK _ _ ?_;clear hK K)|(apply qC;(intro w2 hw2;have hk1:=hw2.cell;have hk3:=hw2.1;clear hw2;go_simp;with_reducible rfl);simp only[Act.put,sA,sB,sC])
 refine qM (fun K hK=>?_);go_simp;refine hK _ _ ?_;clear hK K lk1
 repeat first|(refine qz fun K hK=>?_;go_simp;refine hK _ _ ?_;clear hK K)|refine qu ?_
 go_wp2_with fail;have bV:Below W1.heap.size W1 W1.drew.drew.drew:=(Below.refl _ W1).drew.drew.drew;have zV:W1.drew.drew.drew.heap.size=W1.heap.size:=rfl;generalize W1.drew.drew.drew=V at *;have HV:=qh (H1.o.below bV);have BV:=qh (B1.o.trans (bV.mono hz1));have re2:=qp RE1.o bV le;have le2:=qd re2;have ra2:=HV.o.row;have la2:=qd ra2;have rp2:=(HV.o.sts _ _ _ HBP.o HS.o).row;have lp2:=qd rp2;clear e0 e1 e2 e3 e4 e5 e6 e7 a0 a1 a3 F k0 hb';have y:=qa re2;have e0:=y 0;simp at e0;have RE2:=qh re2;have BV1:=qh bV;simp only at lp2;have hVW:W1.heap.size<=V.heap.size:=by omega
 clear y re2 ra2 rp2 bV zV;refine ZS (fun a a' X=>∃(bm bq g:Nat) (F:FuncId) (caps:Array Value),a'={tmps:=((((a.tmps.setIfInBounds 122 (.map (some bm))).setIfInBounds 123 (.pointer (some ⟨w.heap.size,0,none⟩))).setIfInBounds 124 (.int .i64 2)).setIfInBounds 125 (.agg #[.slice (some ⟨g,0,none⟩) (qR 2).length (qR 2).length,.func (.func F) #[] caps])).setIfInBounds 8 (.pointer (some ⟨bq,0,none⟩)),defers:=a.defers}/\
  X.heap[bq]?=some (.cells #[.slice (some ⟨g,0,none⟩) (qR 2).length (qR 2).length,.func (.func F) #[] caps] 250 (0,0))/\X.heap[g]?=some (.cells ((qR 2).map (.int .i64)).toArray 3 (0,0))/\uD X V.heap.size 2 F caps/\Below V.heap.size V X/\V.heap.size<=g/\V.heap.size<=bq) ?_ ?_
 ·
  refine qI (V.heap.size) [3,0,1,2,3,2] (.frk [1,2] (.frk [0] (.fin [3,4,5]) (.fin [4,3,5])) (.fin [4,0,3,5])) (by kernel_rfl) ?_;simp only[xi,qP,qA,sD,sE,sF,sG]
  repeat first|(refine qz fun K hK=>?_;go_simp;refine hK _ _ ?_;clear hK K)|(apply qC;(intro w2 hw2;have hk1:=hw2.cell;have hk3:=hw2.1;clear hw2;go_simp;with_reducible rfl);simp only[Act.put,sA,sB,sC])|refine qu ?_
  refine⟨?_,?_⟩
  ·
   refine qG (fun K hK=>?_);go_simp;refine(jI _).mono ?_;rintro e X ⟨bm,M,rfl,hM,hv,bX⟩;refine hK _ _ (RN.KeepsN.of_below (bX.mono (Nat.le_refl _))) ?_;clear hK K;have bX1:Below V.heap.size V X:=(Below.refl _ V).drew.trans (bX.mono (Nat.le_refl _));obtain⟨v,hMk,g,F,caps,rfl,hg,hgB,hD⟩:=hv 2 (by decide) (by decide);have hgB:V.heap.size<=g:=hgB;have hD:uD X V.heap.size 2 F caps:=hD;have hlg:=qd hg;have hMd:=hM;clear bX hv
   repeat refine qu ?_
   refine⟨?_,?_⟩
   ·
    have lk:=(hM.look Tryz.underlying3 Tryz.underlying251 (xW _) 2 hMk).1;simp only[Option.getD_some] at lk;refine qM (fun K hK=>?_);go_simp;refine hK _ _ ?_;clear hK K lk;refine qG (fun K hK=>?_);go_simp;refine hK _ _ (RN.KeepsN.alloc _ _ bX1.size) ?_;clear hK K;have hM:=hM.below ((Below.refl X.heap.size X).alloc (Nat.le_refl _) (.cells #[.slice none 0 0,.nilFunc] 250)) hM.lt;refine qM (fun K hK=>?_);go_simp;refine hK _ _ ?_;clear hK K
    repeat refine qu ?_
    exact⟨rfl,bm,_,g,F,caps,rfl,qy X _,qD hg,hD.row (fun _ _ _ _ h=>qD h),bX1.alloc bX1.size _,hgB,bX1.size⟩
   ·
    refine qG (fun K hK=>?_);go_simp;refine hK _ _ (RN.KeepsN.alloc _ _ bX1.size) ?_;clear hK K;have hM:=hM.below ((Below.refl X.heap.size X).alloc (Nat.le_refl _) (.cells #[.slice none 0 0,.nilFunc] 250)) hM.lt;have lk:=(hM.look Tryz.underlying3 Tryz.underlying251 (xW _) 2 hMk).1;simp only[Option.getD_some] at lk;refine qM (fun K hK=>?_);go_simp;refine hK _ _ ?_;clear hK K lk;refine qM (fun K hK=>?_);go_simp;refine hK _ _ ?_;clear hK K
    repeat refine qu ?_
    exact⟨rfl,bm,_,g,F,caps,rfl,qy X _,qD hg,hD.row (fun _ _ _ _ h=>qD h),bX1.alloc bX1.size _,hgB,bX1.size⟩
  ·
   refine qG (fun K hK=>?_);go_simp;refine hK _ _ (RN.KeepsN.alloc _ _ (Nat.le_refl _)) ?_;clear hK K;have bA2:Below V.heap.size V (V.alloc (.cells #[.slice none 0 0,.nilFunc] 250)).drew:=((Below.refl _ V).alloc (Nat.le_refl _) _).drew;have zA2:=bA2.size;have rq:(V.alloc (.cells #[.slice none 0 0,.nilFunc] 250)).drew.heap[V.heap.size]?=some (.cells #[.slice none 0 0,.nilFunc] 250 (0,0)):=qy V _;generalize (V.alloc (.cells #[.slice none 0 0,.nilFunc] 250)).drew=V2 at *;refine qG (fun K hK=>?_);go_simp;refine(jI _).mono ?_;rintro e X ⟨bm,M,rfl,hM,hv,bX⟩;refine hK _ _ (RN.KeepsN.of_below (bX.mono zA2)) ?_;clear hK K;have bX1:Below V.heap.size V X:=bA2.trans (bX.mono zA2);obtain⟨v,hMk,g,F,caps,rfl,hg,hgB,hD⟩:=hv 2 (by decide) (by decide);have hgq:V.heap.size≠g:=by have:=qd rq;omega
   have hqV:=qd rq;have rq:=qp rq bX (qd rq);have hgB:V.heap.size<=g:=Nat.le_trans zA2 hgB;have q0:=qa rq 0;have q1:=qa rq 1;simp at q0 q1;have qf:∀j,X.frozen? ⟨V.heap.size,j,none⟩=false:=fun j=>qB rq j;have lq:=qd rq;have hlg:=qd hg;have hMd:=hM;clear bX hv;have lk:=(hM.look Tryz.underlying3 Tryz.underlying251 (xW _) 2 hMk).1;simp only[Option.getD_some] at lk;refine qM (fun K hK=>?_);go_simp;refine hK _ _ ?_;clear hK K lk;refine qM (fun K hK=>?_);go_simp;refine hK _ _ ?_;clear hK K
   repeat refine qu ?_
   exact⟨rfl,bm,_,g,F,caps,rfl,qq (qq rq 0 _) 1 _,qJ (qJ hg hgq) hgq,((hD.set hqV).set hqV).base zA2,(bX1.setCell (p:=⟨V.heap.size,0,none⟩) (Nat.le_refl _) _).setCell (p:=⟨V.heap.size,1,none⟩) (Nat.le_refl _) _,hgB,Nat.le_refl _⟩
 ·rintro a' X ⟨bm,bq,g,F,caps,rfl,hq,hg,hD,bX,hgV,hqV⟩
  have HXA:=qh (HV.o.below bX);have zX:=bX.size;have BX:=qh (BV.o.trans (bX.mono (by omega)));have q0:=qa hq 0;have q1':=qa hq 1;simp only[List.getElem?_toArray,List.getElem?_cons_zero,List.getElem?_cons_succ] at q0 q1';have lq:=qd hq;have hstX:=HXA.o.sts _ _ _ HBP.o HS.o;have rp:=hstX.row;have lp:=qd rp;simp only at lp;have py:=qa rp;have p7:=py 7;simp[uX] at p7;have rex:=qp RE2.o bX le2;have lex:=qd rex;have y:=qa rex;have e0:=y 0;have e1:=y 1;have e2:=y 2;have e3:=y 3;have e4:=y 4;have e5:=y 5;have e6:=y 6;have e7:=y 7;simp at e0 e1 e2 e3 e4 e5 e6 e7;have rax:=HXA.o.row;have lax:=qd rax;have z:=qa rax;have a1:=z 1;simp at a1;have hct:=qh (Xv _ (qR 2) s.stand X.drew (Yl (w:=X.drew) hg) HFR.o);have hcf:=hD.cf;have hpV:p < V.heap.size:=lp2;have hdo:=JT (W:=X.drew.drew) (n:=n) 2 xx xh c xo xy xv xr (hstX.chg (S:=fun _=>False) (zo.refl X).drew.drew fun _ _ h=>h) (hD.row fun _ _ _ _ h=>h) hpV (by omega) (by omega) HFR.o HDL.o hl ((HG.o.answer.below BX.o).below (Below.refl _ _).drew.drew);rw[HM.o] at hdo;have hdo:Calls _ _ _ _ (Zt _ _ _ _):=hdo;have hdo:=qh hdo;obtain⟨fl,hfl⟩:∃fl,fl=(qR 2).length:=⟨_,rfl⟩
  have HSX:=qh hstX;have RPX:=qh rp;rw[←hfl] at q0 hct ⊢;clear hfl y z py rp rex rax hq hg hD bX hstX;go_wp2_with fail;refine qI (X.heap.size) [0,1,0,0,0,1,3,0] (.fin [0,1,2,3,4,5,6,7]) (by kernel_rfl) ?_;simp only[xi,qP,qA,sD,sE,sF,sG]
  repeat first|(refine qz fun K hK=>?_;go_simp;refine hK _ _ ?_;clear hK K)|(apply qC;(intro w2 hw2;have hk1:=hw2.cell;have hk3:=hw2.1;clear hw2;go_simp;with_reducible rfl);simp only[Act.put,sA,sB,sC])
  refine qG (fun K hK=>?_);go_simp;refine(hct.o).mono ?_;rintro e W5 ⟨he,hw5⟩;subst he;refine hK _ _ (by rw[hw5];exact RN.KeepsN.of_below (Below.refl _ _)) ?_;clear hK K hct;rw[hw5];clear hw5 W5
  repeat first|(refine qz fun K hK=>?_;go_simp;refine hK _ _ ?_;clear hK K)|refine qu ?_
  go_wp2_with fail;refine qI (X.heap.size) [0,1,0,1,0,0,0,1,2,0] (.fin [0,1,2,3,4,5,6,7,8,9]) (by kernel_rfl) ?_;simp only[xi,qP,qA,sD,sE,sF,sG]
  repeat first|(refine qz fun K hK=>?_;go_simp;refine hK _ _ ?_;clear hK K)|(apply qC;(intro w2 hw2;have hk1:=hw2.cell;have hk3:=hw2.1;clear hw2;go_simp;with_reducible rfl);simp only[Act.put,sA,sB,sC])
  refine qM (fun K hK=>?_);go_simp;refine(hdo.o).mono ?_;rintro e Y ⟨rfl,dv',hstY,hcY,hown⟩;refine hK _ _ ?_;clear hK K hdo;have hcX:zo (Rn (p,dv)) X Y:=((zo.refl X).drew.drew).trans hcY fun _ _ h=>h;have HYA:=qh (HXA.o.moved HBP.o HS.o hcX hstY hid' hth' hown);have ray:=HYA.o.row;have lay:=qd ray;have rpy:=hstY.row;have lpy:=qd rpy;simp only at lpy;have y:=qa rpy;have p7:=y 7;have p1:=y 1;simp[uX] at p7 p1;have z:=qa ray;have a1:=z 1;have a4:=z 4;simp at a1 a4;have yf:∀j,Y.frozen? ⟨bA,j,none⟩=false:=fun j=>qB ray j;obtain⟨MZ,hmZ,f5⟩:=HYA.o.bz.2;have gZ:=HYA.o.bz.1;have nZ:bZ≠bA:=fun e=>by
   obtain⟨es,c,hh⟩:=hmZ.isMap;rw[e,ray] at hh;cases hh
  have zY:X.heap.size<=Y.heap.size:=hcX.size;have BY:=qh ((BX.o.mono hBw).trans (hcX.below (fun j hj=>HSX.o.ge hj) (by omega)));have RAY:=qh ray;have HMZ:=qh hmZ;have F5:=qh f5;have hs5:s'.thread=s.thread:=hth';have lZ:=hmZ.lt;have hAY:bA < Y.heap.size:=lay;clear y z ray rpy hcY hown hmZ f5 hcX q0 q1' e0 e1 e2 e3 e4 e5 e6 e7;by_cases h5:s'.stand=5
  ·have q5':(s'.stand==5)=true:=by simpa using h5
   rw[h5] at p7
   repeat first|(refine qz fun K hK=>?_;go_simp;refine hK _ _ ?_;clear hK K)|refine qu ?_
   go_wp2_with fail;refine qI (Y.heap.size) [0,0,0,1,0,0,0,0,1,2] (.fin [0,1,2,3,4,5,6,7,8,9]) (by kernel_rfl) ?_;simp only[xi,qP,qA,sD,sE,sF,sG]
   repeat first|(refine qz fun K hK=>?_;go_simp;refine hK _ _ ?_;clear hK K)|(apply qC;(intro w2 hw2;have hk1:=hw2.cell;have hk3:=hw2.1;clear hw2;go_simp;with_reducible rfl);simp only[Act.put,sA,sB,sC])
   refine qM (fun K hK=>?_);refine HMZ.o.drew.wp_drop Tryz.underlying3 Tryz.underlying174 rfl rfl rfl ?_;intro Q hmQ tQ;refine hK _ _ ?_;clear hK K;have rq:=jJ tQ (jf RAY.o);have zq:=qa rq;clear a1 a4 yf;have a1:=zq 1;simp at a1;have yf:∀j,Q.frozen? ⟨bA,j,none⟩=false:=fun j=>qB rq j;have lq':=qd rq;have HMQ:=qh hmQ;have TQ:=qh tQ;have RQ:=qh rq;clear zq rq hmQ tQ
   repeat refine qu ?_
   go_wp2;go_ret;refine⟨rfl,⟨bY,bZ,_,_,_,HYA.o.turn (n':=n+1) (Z':=fun x=>yI x (A.set k s')) (((zo.refl (S:=fun j=>j=bA\/j=bZ) Y).drew.trans (zo.turned (S:=fun j=>j=bA\/j=bZ) TQ.o (.inr rfl)) fun _ _ h=>h).set (.inl rfl)) (qq RQ.o 1 _) (HMQ.o.set nZ) ⟨fun x hx=>?_,fun x hx=>?_⟩⟩,?_⟩
   ·by_cases e:x=s.thread
    ·subst e;exact xC
    ·rw [qZ e]
     exact F5.o.1 x fun hb=>hx ((Yq HU.o HS.o hst5 hth' h5).2 ⟨hb,e⟩)
   ·obtain ⟨hb,hne⟩:=(Yq HU.o HS.o hst5 hth' h5).1 hx
    rw[qZ hne];exact F5.o.2 x hb
   ·exact ((BY.o.drew).trans (Below.turned TQ.o gZ)).setCell (p:=⟨bA,1,none⟩) hAB _
  ·have q5':(s'.stand==5)=false:=by simpa using h5
   repeat first|(refine qz fun K hK=>?_;go_simp;refine hK _ _ ?_;clear hK K)|refine qu ?_
   go_wp2;go_ret;refine⟨rfl,⟨bY,bZ,_,_,_,HYA.o.turn (n':=n+1) (Z':=fun x=>yI x (A.set k s')) ((zo.refl (S:=fun j=>j=bA\/j=bZ) Y).set (.inl rfl)) (qq RAY.o 1 _) (HMZ.o.set nZ) ⟨fun x hx=>F5.o.1 x fun hb=>hx ((uo HS.o hth' hst5 h5).1 hb),fun x hx=>F5.o.2 x ((uo HS.o hth' hst5 h5).2 hx)⟩⟩,?_⟩;exact BY.o.setCell (p:=⟨bA,1,none⟩) hAB _
theorem qcs (xk xx xh xj xo xy xv xr:Int) {B bA n:Nat} {os:List Ob} {A:Au} {k:Nat} {s:St} (w:World) (hval:xP ⟨xk,xx,xh,xj,xo,xy,xv,xr⟩=true) (hdr:dI xr) (hoc:∃(c:Nat) (o:Ob),xj=c/\os[c]?=some o/\jT xo=o.kind) (hk:xk=2) (hk2:2<=xk) (hk8:xk < 8) (hs:A[k]?=some s) (hi:s.id=xx) (hfr:s.stand ∉ qR xk) (hn:n < 400) (hA:A.length<=1000) (hl:s.deeds.length<=1000) (h:uH w B bA os n A) (hW:xu w) (hG:jy w):
  Calls Tryz.prog 78 #[.pointer (some ⟨bA,0,none⟩),Xc ⟨xk,xx,xh,xj,xo,xy,xv,xr⟩] w (QP B w):=by
 obtain⟨bY,bZ,ov,tv,bs,h⟩:=h;have r0:=h.row;have l0:=qd r0;have y:=qa r0;have y1:=y 1;simp at y1;have b0:Below w.heap.size w (w.alloc (.cells #[.int .i64 xk,.int .i64 xx,.int .i64 xh,.int .i64 xj,.int .i64 xo,.int .i64 xy,.int .i64 xv,.int .i64 xr] 69)):=(Below.refl _ w).alloc (Nat.le_refl _) _;have re:=qy w (.cells #[.int .i64 xk,.int .i64 xx,.int .i64 xh,.int .i64 xj,.int .i64 xo,.int .i64 xy,.int .i64 xv,.int .i64 xr] 69);obtain⟨hgc,tc,xc,hec⟩:=(hG.g.below b0).code;obtain⟨hge,te,xe,hee⟩:=(hG.g.below b0).event;have hv:=ji ⟨xk,xx,xh,xj,xo,xy,xv,xr⟩ hdr _ (hW.below b0) _ _ hgc hec hge hee;rw[hval] at hv;simp only[if_true] at hv;have hv:=qh hv;have HG:=qh hG;clear hgc hec hge hee hG hval;have q1:((n:Int)==400)=false:=by simp;omega
 have qk1:(xk==1)=false:=by simp;omega
 have HFR:=qh hfr;have HS:=qh hs;have H:=qh h;have HB0:=qh b0;have RE:=qh re;have hAB:=h.hB;have hBw:B<=w.heap.size:=by omega
 subst hk;clear y r0 h hs b0 re hfr;go_enter Tryz.func78,Tryz.ntmps78;go_wp2_with fail;obtain⟨W,hWW⟩:∃W,W=w.alloc (.cells #[.int .i64 2,.int .i64 xx,.int .i64 xh,.int .i64 xj,.int .i64 xo,.int .i64 xy,.int .i64 xv,.int .i64 xr] 69):=⟨_,rfl⟩
 rw[←hWW] at hv HB0 RE ⊢;clear hWW;refine(hv.o).mono ?_;rintro e W1 ⟨rfl,b1⟩;have H1:=qh ((H.o.below HB0.o).below b1);have B1:=qh (HB0.o.trans (b1.mono HB0.o.size));have re1:=qp RE.o b1 (qd RE.o);have le:=qd re1;have ra1:=H1.o.row;have la:=qd ra1;have hea:w.heap.size≠bA:=by omega
 have hz1:=B1.o.size;have hbew:w.heap.size < W1.heap.size:=le;have y:=qa re1;have e0:=y 0;have e1:=y 1;have e3:=y 3;have e4:=y 4;have e5:=y 5;have e6:=y 6;have e7:=y 7;have e2:=y 2;simp at e0 e1 e2 e3 e4 e5 e6 e7;have z:=qa ra1;have a0:=z 0;have a1:=z 1;have a3:=z 3;simp at a0 a1 a3;obtain⟨bp,hbp,hst⟩:=H1.o.get HS.o;obtain⟨p,dv⟩:=bp;obtain⟨MY,hmY,f1,f2⟩:=H1.o.by_.2;have hMp:MY xx=some (xD p):=by rw[←hi];exact f1 k _ s hbp HS.o
 have lY:=hmY.lt;obtain⟨ao,co,rfl,-⟩:∃a c,ov=.slice a os.length c/\True:=by
  rcases qj.form H1.o.obs with⟨h1,h2⟩|⟨g,cap,h1,-⟩
  ·exact ⟨_,_,by rw[h1,h2];rfl,trivial⟩
  ·exact ⟨_,_,h1,trivial⟩
 obtain⟨c,o1,rfl,ho1,ho2⟩:=hoc;have hcl:=(List.getElem?_eq_some_iff.1 ho1).1;obtain⟨b',off',o,hat',hb',hx',hc'⟩:=(qj.sl H1.o.obs).atF Ob.len rfl hcl;have k0:W1.cell? ⟨b',off'+c*2+0,none⟩=some (.int .i64 o.kind):=hc' 0 (by decide);have hk1:jT xo=o.kind:=by
  rw[hx'] at ho1;obtain rfl:=Option.some.inj ho1;exact ho2
 clear ho1 ho2;obtain⟨ok,on⟩:=o;simp only at hk1;subst hk1;simp at k0;have q5:decide (os.length<=c)=false:=by simp;omega
 subst hat';clear hx' hc';have RE1:=qh re1;have RA1:=qh ra1;have HST:=qh hst;have HBP:=qh hbp;have F:=qh (And.intro hmY hMp);clear y z re1 ra1 hst hbp hmY hMp f1 f2 b1 hv;go_wp2_with fail;refine qI (W1.heap.size) [0,1,0,0,0,1,0,0] (.fin [0,1,2,3,4,5,6,7]) (by kernel_rfl) ?_;simp only[xi,qP,qA,sD,sE,sF,sG]
 repeat first|(refine qz fun K hK=>?_;go_simp;refine hK _ _ ?_;clear hK K)|(apply qC;(intro w2 hw2;have hk1:=hw2.cell;have hk3:=hw2.1;clear hw2;go_simp;with_reducible rfl);simp only[Act.put,sA,sB,sC])|refine qu ?_
 go_wp2_with fail;refine qI (W1.heap.size) [0,1,3,0,0,0,1,0,1,0,0,1,0] (.fin [0,1,3,4,5,6,7,8,9,10,11,2,12]) (by kernel_rfl) ?_;simp only[xi,qP,qA,sD,sE,sF,sG]
 repeat first|(refine qz fun K hK=>?_;go_simp;refine hK _ _ ?_;clear hK K)|(apply qC;(intro w2 hw2;have hk1:=hw2.cell;have hk3:=hw2.1;clear hw2;go_simp;with_reducible rfl);simp only[Act.put,sA,sB,sC])
 refine qG (fun K hK=>?_);go_simp;refine(qay xo _).mono ?_;rintro e W5 ⟨he,hw5⟩;subst he;refine hK _ _ (by rw[hw5];exact RN.KeepsN.of_below (Below.refl _ _)) ?_;clear hK K;rw[hw5];clear hw5 W5
 repeat first|(refine qz fun K hK=>?_;go_simp;refine hK _ _ ?_;clear hK K)|refine qu ?_
 go_wp2_with fail;have lk1:=(F.o.1.drew.drew.drew.look Tryz.underlying3 Tryz.underlying174 (jb W1.drew.drew.drew) xx F.o.2).2;simp only[Option.getD_some,Option.isSome_some] at lk1;unfold xD at lk1;refine qI (W1.heap.size) [0,0,0,1,0,1,2,0,0,0,0,0] (.fin [0,1,2,3,4,5,6,7,8,9,10,11]) (by kernel_rfl) ?_;simp only[xi,qP,qA,sD,sE,sF,sG]
 repeat first|(refine qz fun K hK=>?_;go_simp;refine hK _ _ ?_;clear hK K)|(apply qC;(intro w2 hw2;have hk1:=hw2.cell;have hk3:=hw2.1;clear hw2;go_simp;with_reducible rfl);simp only[Act.put,sA,sB,sC])
 refine qM (fun K hK=>?_);go_simp;refine hK _ _ ?_;clear hK K lk1
 repeat first|(refine qz fun K hK=>?_;go_simp;refine hK _ _ ?_;clear hK K)|refine qu ?_
 go_wp2_with fail;have bV:Below W1.heap.size W1 W1.drew.drew.drew:=(Below.refl _ W1).drew.drew.drew;have zV:W1.drew.drew.drew.heap.size=W1.heap.size:=rfl;generalize W1.drew.drew.drew=V at *;have HV:=qh (H1.o.below bV);have BV:=qh (B1.o.trans (bV.mono hz1));have re2:=qp RE1.o bV le;have le2:=qd re2;have ra2:=HV.o.row;have la2:=qd ra2;have rp2:=(HV.o.sts _ _ _ HBP.o HS.o).row;have lp2:=qd rp2;clear e0 e1 e2 e3 e4 e5 e6 e7 a0 a1 a3 F k0 hb';have y:=qa re2;have e0:=y 0;simp at e0;have RE2:=qh re2;have BV1:=qh bV;simp only at lp2;have hVW:W1.heap.size<=V.heap.size:=by omega
 clear y re2 ra2 rp2 bV zV;refine ZS (fun a a' X=>∃(bm bq g:Nat) (F:FuncId) (caps:Array Value),a'={tmps:=((((a.tmps.setIfInBounds 122 (.map (some bm))).setIfInBounds 123 (.pointer (some ⟨w.heap.size,0,none⟩))).setIfInBounds 124 (.int .i64 2)).setIfInBounds 125 (.agg #[.slice (some ⟨g,0,none⟩) (qR 2).length (qR 2).length,.func (.func F) #[] caps])).setIfInBounds 8 (.pointer (some ⟨bq,0,none⟩)),defers:=a.defers}/\
  X.heap[bq]?=some (.cells #[.slice (some ⟨g,0,none⟩) (qR 2).length (qR 2).length,.func (.func F) #[] caps] 250 (0,0))/\X.heap[g]?=some (.cells ((qR 2).map (.int .i64)).toArray 3 (0,0))/\uD X V.heap.size 2 F caps/\Below V.heap.size V X/\V.heap.size<=g/\V.heap.size<=bq) ?_ ?_
 ·
  refine qI (V.heap.size) [3,0,1,2,3,2] (.frk [1,2] (.frk [0] (.fin [3,4,5]) (.fin [4,3,5])) (.fin [4,0,3,5])) (by kernel_rfl) ?_;simp only[xi,qP,qA,sD,sE,sF,sG]
  repeat first|(refine qz fun K hK=>?_;go_simp;refine hK _ _ ?_;clear hK K)|(apply qC;(intro w2 hw2;have hk1:=hw2.cell;have hk3:=hw2.1;clear hw2;go_simp;with_reducible rfl);simp only[Act.put,sA,sB,sC])|refine qu ?_
  refine⟨?_,?_⟩
  ·
   refine qG (fun K hK=>?_);go_simp;refine(jI _).mono ?_;rintro e X ⟨bm,M,rfl,hM,hv,bX⟩;refine hK _ _ (RN.KeepsN.of_below (bX.mono (Nat.le_refl _))) ?_;clear hK K;have bX1:Below V.heap.size V X:=(Below.refl _ V).drew.trans (bX.mono (Nat.le_refl _));obtain⟨v,hMk,g,F,caps,rfl,hg,hgB,hD⟩:=hv 2 (by decide) (by decide);have hgB:V.heap.size<=g:=hgB;have hD:uD X V.heap.size 2 F caps:=hD;have hlg:=qd hg;have hMd:=hM;clear bX hv
   repeat refine qu ?_
   refine⟨?_,?_⟩
   ·
    have lk:=(hM.look Tryz.underlying3 Tryz.underlying251 (xW _) 2 hMk).1;simp only[Option.getD_some] at lk;refine qM (fun K hK=>?_);go_simp;refine hK _ _ ?_;clear hK K lk;refine qG (fun K hK=>?_);go_simp;refine hK _ _ (RN.KeepsN.alloc _ _ bX1.size) ?_;clear hK K;have hM:=hM.below ((Below.refl X.heap.size X).alloc (Nat.le_refl _) (.cells #[.slice none 0 0,.nilFunc] 250)) hM.lt;refine qM (fun K hK=>?_);go_simp;refine hK _ _ ?_;clear hK K
    repeat refine qu ?_
    exact⟨rfl,bm,_,g,F,caps,rfl,qy X _,qD hg,hD.row (fun _ _ _ _ h=>qD h),bX1.alloc bX1.size _,hgB,bX1.size⟩
   ·
    refine qG (fun K hK=>?_);go_simp;refine hK _ _ (RN.KeepsN.alloc _ _ bX1.size) ?_;clear hK K;have hM:=hM.below ((Below.refl X.heap.size X).alloc (Nat.le_refl _) (.cells #[.slice none 0 0,.nilFunc] 250)) hM.lt;have lk:=(hM.look Tryz.underlying3 Tryz.underlying251 (xW _) 2 hMk).1;simp only[Option.getD_some] at lk;refine qM (fun K hK=>?_);go_simp;refine hK _ _ ?_;clear hK K lk;refine qM (fun K hK=>?_);go_simp;refine hK _ _ ?_;clear hK K
    repeat refine qu ?_
    exact⟨rfl,bm,_,g,F,caps,rfl,qy X _,qD hg,hD.row (fun _ _ _ _ h=>qD h),bX1.alloc bX1.size _,hgB,bX1.size⟩
  ·
   refine qG (fun K hK=>?_);go_simp;refine hK _ _ (RN.KeepsN.alloc _ _ (Nat.le_refl _)) ?_;clear hK K;have bA2:Below V.heap.size V (V.alloc (.cells #[.slice none 0 0,.nilFunc] 250)).drew:=((Below.refl _ V).alloc (Nat.le_refl _) _).drew;have zA2:=bA2.size;have rq:(V.alloc (.cells #[.slice none 0 0,.nilFunc] 250)).drew.heap[V.heap.size]?=some (.cells #[.slice none 0 0,.nilFunc] 250 (0,0)):=qy V _;generalize (V.alloc (.cells #[.slice none 0 0,.nilFunc] 250)).drew=V2 at *;refine qG (fun K hK=>?_);go_simp;refine(jI _).mono ?_;rintro e X ⟨bm,M,rfl,hM,hv,bX⟩;refine hK _ _ (RN.KeepsN.of_below (bX.mono zA2)) ?_;clear hK K;have bX1:Below V.heap.size V X:=bA2.trans (bX.mono zA2);obtain⟨v,hMk,g,F,caps,rfl,hg,hgB,hD⟩:=hv 2 (by decide) (by decide);have hgq:V.heap.size≠g:=by have:=qd rq;omega
   have hqV:=qd rq;have rq:=qp rq bX (qd rq);have hgB:V.heap.size<=g:=Nat.le_trans zA2 hgB;have q0:=qa rq 0;have q1:=qa rq 1;simp at q0 q1;have qf:∀j,X.frozen? ⟨V.heap.size,j,none⟩=false:=fun j=>qB rq j;have lq:=qd rq;have hlg:=qd hg;have hMd:=hM;clear bX hv;have lk:=(hM.look Tryz.underlying3 Tryz.underlying251 (xW _) 2 hMk).1;simp only[Option.getD_some] at lk;refine qM (fun K hK=>?_);go_simp;refine hK _ _ ?_;clear hK K lk;refine qM (fun K hK=>?_);go_simp;refine hK _ _ ?_;clear hK K
   repeat refine qu ?_
   exact⟨rfl,bm,_,g,F,caps,rfl,qq (qq rq 0 _) 1 _,qJ (qJ hg hgq) hgq,((hD.set hqV).set hqV).base zA2,(bX1.setCell (p:=⟨V.heap.size,0,none⟩) (Nat.le_refl _) _).setCell (p:=⟨V.heap.size,1,none⟩) (Nat.le_refl _) _,hgB,Nat.le_refl _⟩
 ·rintro a' X ⟨bm,bq,g,F,caps,rfl,hq,hg,hD,bX,hgV,hqV⟩
  have HXA:=qh (HV.o.below bX);have zX:=bX.size;have BX:=qh (BV.o.trans (bX.mono (by omega)));have q0:=qa hq 0;have q1':=qa hq 1;simp only[List.getElem?_toArray,List.getElem?_cons_zero,List.getElem?_cons_succ] at q0 q1';have lq:=qd hq;have hstX:=HXA.o.sts _ _ _ HBP.o HS.o;have rp:=hstX.row;have lp:=qd rp;simp only at lp;have py:=qa rp;have p7:=py 7;simp[uX] at p7;have rex:=qp RE2.o bX le2;have lex:=qd rex;have y:=qa rex;have e0:=y 0;have e1:=y 1;have e2:=y 2;have e3:=y 3;have e4:=y 4;have e5:=y 5;have e6:=y 6;have e7:=y 7;simp at e0 e1 e2 e3 e4 e5 e6 e7;have rax:=HXA.o.row;have lax:=qd rax;have z:=qa rax;have a1:=z 1;simp at a1;have hct:=qh (XR _ (qR 2) s.stand X.drew (Yl (w:=X.drew) hg) (by have:=JI 2;omega) HFR.o);have hcf:=hD.cf;have hpV:p < V.heap.size:=lp2;obtain⟨fl,hfl⟩:∃fl,fl=(qR 2).length:=⟨_,rfl⟩
  have HSX:=qh hstX;have RPX:=qh rp;rw[←hfl] at q0 hct ⊢;clear hfl y z py rp rex rax hq hg hD bX hstX;go_wp2_with fail;refine qI (X.heap.size) [0,1,0,0,0,1,3,0] (.fin [0,1,2,3,4,5,6,7]) (by kernel_rfl) ?_;simp only[xi,qP,qA,sD,sE,sF,sG]
  repeat first|(refine qz fun K hK=>?_;go_simp;refine hK _ _ ?_;clear hK K)|(apply qC;(intro w2 hw2;have hk1:=hw2.cell;have hk3:=hw2.1;clear hw2;go_simp;with_reducible rfl);simp only[Act.put,sA,sB,sC])
  refine qG (fun K hK=>?_);go_simp;refine(hct.o).mono ?_;rintro e W5 ⟨he,hw5⟩;subst he;refine hK _ _ (by rw[hw5];exact RN.KeepsN.of_below (Below.refl _ _)) ?_;clear hK K hct;rw[hw5];clear hw5 W5
  repeat first|(refine qz fun K hK=>?_;go_simp;refine hK _ _ ?_;clear hK K)|refine qu ?_
  obtain⟨hg3,tw,xw,he3⟩:=(HG.o.order.below BX.o).below (Below.refl _ X).drew;go_wp2_with fail;refine bodyPost_ret (v:=.iface tw xw) (by simp[results,Tryz.results78,go_sem]) rfl ⟨⟨_,_,rfl⟩,?_⟩;exact(BX.o.mono hBw).trans ((Below.refl _ X).drew.mono (by omega))
theorem qgX (xk xx xh xj xo xy xv xr:Int) {B bA n:Nat} {os:List Ob} {A:Au} (w:World) (hval:xP ⟨xk,xx,xh,xj,xo,xy,xv,xr⟩=true) (hdr:dI xr) (hoc:∃(c:Nat) (o:Ob),xj=c/\os[c]?=some o/\jT xo=o.kind) (hk:xk=2) (hk2:2<=xk) (hk8:xk < 8) (hi:¬uw xx A) (hn:n < 400) (hA:A.length<=1000) (h:uH w B bA os n A) (hW:xu w) (hG:jy w):
  Calls Tryz.prog 78 #[.pointer (some ⟨bA,0,none⟩),Xc ⟨xk,xx,xh,xj,xo,xy,xv,xr⟩] w (QP B w):=by
 obtain⟨bY,bZ,ov,tv,bs,h⟩:=h;have r0:=h.row;have l0:=qd r0;have y:=qa r0;have y1:=y 1;simp at y1;have b0:Below w.heap.size w (w.alloc (.cells #[.int .i64 xk,.int .i64 xx,.int .i64 xh,.int .i64 xj,.int .i64 xo,.int .i64 xy,.int .i64 xv,.int .i64 xr] 69)):=(Below.refl _ w).alloc (Nat.le_refl _) _;have re:=qy w (.cells #[.int .i64 xk,.int .i64 xx,.int .i64 xh,.int .i64 xj,.int .i64 xo,.int .i64 xy,.int .i64 xv,.int .i64 xr] 69);obtain⟨hgc,tc,xc,hec⟩:=(hG.g.below b0).code;obtain⟨hge,te,xe,hee⟩:=(hG.g.below b0).event;have hv:=ji ⟨xk,xx,xh,xj,xo,xy,xv,xr⟩ hdr _ (hW.below b0) _ _ hgc hec hge hee;rw[hval] at hv;simp only[if_true] at hv;have hv:=qh hv;have HG:=qh hG;clear hgc hec hge hee hG hval;have q1:((n:Int)==400)=false:=by simp;omega
 have qk1:(xk==1)=false:=by simp;omega
 have HI:=qh hi;have H:=qh h;have HB0:=qh b0;have RE:=qh re;have hAB:=h.hB;have hBw:B<=w.heap.size:=by omega
 subst hk;clear y r0 h b0 re hi;go_enter Tryz.func78,Tryz.ntmps78;go_wp2_with fail;obtain⟨W,hWW⟩:∃W,W=w.alloc (.cells #[.int .i64 2,.int .i64 xx,.int .i64 xh,.int .i64 xj,.int .i64 xo,.int .i64 xy,.int .i64 xv,.int .i64 xr] 69):=⟨_,rfl⟩
 rw[←hWW] at hv HB0 RE ⊢;clear hWW;refine(hv.o).mono ?_;rintro e W1 ⟨rfl,b1⟩;have H1:=qh ((H.o.below HB0.o).below b1);have B1:=qh (HB0.o.trans (b1.mono HB0.o.size));have re1:=qp RE.o b1 (qd RE.o);have le:=qd re1;have ra1:=H1.o.row;have la:=qd ra1;have hea:w.heap.size≠bA:=by omega
 have hz1:=B1.o.size;have hbew:w.heap.size < W1.heap.size:=le;have y:=qa re1;have e0:=y 0;have e1:=y 1;have e3:=y 3;have e4:=y 4;have e5:=y 5;have e6:=y 6;have e7:=y 7;have e2:=y 2;simp at e0 e1 e2 e3 e4 e5 e6 e7;have z:=qa ra1;have a0:=z 0;have a1:=z 1;have a3:=z 3;simp at a0 a1 a3;obtain⟨MY,hmY,f1,f2⟩:=H1.o.by_.2;have hMp:=f2 xx HI.o;have lY:=hmY.lt;obtain⟨ao,co,rfl,-⟩:∃a c,ov=.slice a os.length c/\True:=by
  rcases qj.form H1.o.obs with⟨h1,h2⟩|⟨g,cap,h1,-⟩
  ·exact ⟨_,_,by rw[h1,h2];rfl,trivial⟩
  ·exact ⟨_,_,h1,trivial⟩
 obtain⟨c,o1,rfl,ho1,ho2⟩:=hoc;have hcl:=(List.getElem?_eq_some_iff.1 ho1).1;obtain⟨b',off',o,hat',hb',hx',hc'⟩:=(qj.sl H1.o.obs).atF Ob.len rfl hcl;have k0:W1.cell? ⟨b',off'+c*2+0,none⟩=some (.int .i64 o.kind):=hc' 0 (by decide);have hk1:jT xo=o.kind:=by
  rw[hx'] at ho1;obtain rfl:=Option.some.inj ho1;exact ho2
 clear ho1 ho2;obtain⟨ok,on⟩:=o;simp only at hk1;subst hk1;simp at k0;have q5:decide (os.length<=c)=false:=by simp;omega
 subst hat';clear hx' hc';have RE1:=qh re1;have RA1:=qh ra1;have F:=qh (And.intro hmY hMp);clear y z re1 ra1 hmY hMp f1 f2 b1 hv;go_wp2_with fail;refine qI (W1.heap.size) [0,1,0,0,0,1,0,0] (.fin [0,1,2,3,4,5,6,7]) (by kernel_rfl) ?_;simp only[xi,qP,qA,sD,sE,sF,sG]
 repeat first|(refine qz fun K hK=>?_;go_simp;refine hK _ _ ?_;clear hK K)|(apply qC;(intro w2 hw2;have hk1:=hw2.cell;have hk3:=hw2.1;clear hw2;go_simp;with_reducible rfl);simp only[Act.put,sA,sB,sC])|refine qu ?_
 go_wp2_with fail;refine qI (W1.heap.size) [0,1,3,0,0,0,1,0,1,0,0,1,0] (.fin [0,1,3,4,5,6,7,8,9,10,11,2,12]) (by kernel_rfl) ?_;simp only[xi,qP,qA,sD,sE,sF,sG]
 repeat first|(refine qz fun K hK=>?_;go_simp;refine hK _ _ ?_;clear hK K)|(apply qC;(intro w2 hw2;have hk1:=hw2.cell;have hk3:=hw2.1;clear hw2;go_simp;with_reducible rfl);simp only[Act.put,sA,sB,sC])
 refine qG (fun K hK=>?_);go_simp;refine(qay xo _).mono ?_;rintro e W5 ⟨he,hw5⟩;subst he;refine hK _ _ (by rw[hw5];exact RN.KeepsN.of_below (Below.refl _ _)) ?_;clear hK K;rw[hw5];clear hw5 W5
 repeat first|(refine qz fun K hK=>?_;go_simp;refine hK _ _ ?_;clear hK K)|refine qu ?_
 go_wp2_with fail;have lk1:=(F.o.1.drew.drew.drew.look Tryz.underlying3 Tryz.underlying174 (jb W1.drew.drew.drew) xx F.o.2).2;simp only[Option.getD_none,Option.isSome_none] at lk1;refine qI (W1.heap.size) [0,0,0,1,0,1,2,0,0,0,0,0] (.fin [0,1,2,3,4,5,6,7,8,9,10,11]) (by kernel_rfl) ?_;simp only[xi,qP,qA,sD,sE,sF,sG]
 repeat first|(refine qz fun K hK=>?_;go_simp;refine hK _ _ ?_;clear hK K)|(apply qC;(intro w2 hw2;have hk1:=hw2.cell;have hk3:=hw2.1;clear hw2;go_simp;with_reducible rfl);simp only[Act.put,sA,sB,sC])
 refine qM (fun K hK=>?_);go_simp;refine hK _ _ ?_;clear hK K lk1
 repeat first|(refine qz fun K hK=>?_;go_simp;refine hK _ _ ?_;clear hK K)|refine qu ?_
 obtain⟨hg3,tw,xw,he3⟩:=(HG.o.tx.below B1.o).below (Below.refl _ W1).drew.drew.drew;go_wp2_with fail;refine bodyPost_ret (v:=.iface tw xw) (by simp[results,Tryz.results78,go_sem]) rfl ⟨⟨_,_,rfl⟩,?_⟩;exact(B1.o.mono hBw).trans ((Below.refl _ W1).drew.drew.drew.mono (by omega))
end
structure KZ (A:Au):Prop where
 busy:ML A
 wait:∀s ∈ A,s.stand=2->s.deeds≠[]
theorem KZ.nil:KZ []:=⟨fun j k s t h=>by simp at h,fun s h=>by simp at h⟩
theorem zR {A A':Au} {n:Nat} {e:Ev} (h:jP A n e=some A'):(e.kind=1/\¬uw e.tx A/\¬yI e.thread A/\A'=A++[Qq e n])\/∃(k:Nat) (s s':St),e.kind≠1/\A[k]?=some s/\s.id=e.tx/\xN n e s=some s'/\A'=A.set k s':=by
 unfold jP at h
 split at h
 ·rename_i hk
  split at h
  ·cases h
  ·rename_i hn
   simp only[Bool.or_eq_true,not_or] at hn;exact .inl ⟨hk,fun q=>hn.1 (Yj.2 q),fun q=>hn.2 (Xf.2 q),(Option.some.inj h).symm⟩
 ·rename_i hk
  split at h
  ·cases h
  ·rename_i k hf
   obtain⟨hkl,hp,-⟩:=List.findIdx?_eq_some_iff_getElem.1 hf;rw[List.getElem?_eq_getElem hkl] at h;simp only at h;cases hm:xN n e A[k] with
   |none=>rw[hm] at h;cases h
   |some s'=>
    rw[hm] at h;exact .inr ⟨k,A[k],s',hk,List.getElem?_eq_getElem hkl,by simpa using hp,hm,(Option.some.inj h).symm⟩
theorem KZ.step {A A':Au} {n:Nat} {e:Ev} (hI:KZ A) (h:jP A n e=some A'):KZ A':=by
 rcases zR h with⟨hk,h1,h2,rfl⟩|⟨k,s,s',hk,hs,hi,hm,rfl⟩
 ·constructor
  ·intro j k s t hs ht hth h5 h6
   have key:∀(j:Nat) (s:St),(A++[Qq e n])[j]?=some s->A[j]?=some s\/(j=A.length/\s=Qq e n):=fun j s hs=>by
    rcases Nat.lt_or_ge j A.length with hj|hj
    ·rw [List.getElem?_append_left hj] at hs;exact .inl hs
    ·have hl:=(List.getElem?_eq_some_iff.1 hs).1
     simp only[List.length_append,List.length_cons,List.length_nil] at hl;obtain rfl:j=A.length:=by omega
     simp only[List.getElem?_concat_length,Option.some.injEq] at hs;exact .inr ⟨rfl,hs.symm⟩
   rcases key j s hs with hs|⟨rfl,rfl⟩ <;> rcases key k t ht with ht|⟨rfl,rfl⟩
   ·exact hI.busy j k s t hs ht hth h5 h6
   ·exact absurd ⟨s,List.mem_of_getElem? hs,hth,h5⟩ h2
   ·exact absurd ⟨t,List.mem_of_getElem? ht,hth.symm,h6⟩ h2
   ·rfl
  ·intro s hs h2
   rcases List.mem_append.1 hs with hs|hs
   ·exact hI.wait s hs h2
   ·rw [List.mem_singleton.1 hs] at h2
    exact absurd h2 (by show ¬((1:Int)=2);decide)
 ·obtain ⟨-,hth,h5⟩:=Qr hm
  constructor
  ·intro i j x y hx hy hxy hx5 hy5
   rcases zM hx with⟨rfl,rfl⟩|⟨hne,hx'⟩ <;> rcases zM hy with⟨rfl,rfl⟩|⟨hne2,hy'⟩
   ·rfl
   ·exact hI.busy _ _ _ _ hs hy' (by rw[←hth,hxy]) h5 hy5
   ·exact hI.busy _ _ _ _ hx' hs (by rw[←hth,hxy]) hx5 h5
   ·exact hI.busy i j x y hx' hy' hxy hx5 hy5
  ·intro t ht h2
   obtain⟨j,hj⟩:=List.mem_iff_getElem?.1 ht;rcases zM hj with⟨rfl,rfl⟩|⟨-,hj⟩
   ·rcases yM hm with⟨-,-,rfl⟩|⟨-,-,d,hd,-,rfl⟩|⟨-,-,rfl⟩|⟨-,-,rfl⟩|⟨-,-,rfl⟩|⟨-,-,rfl⟩
    ·simp [QG]
    ·unfold jw at h2;rw[hd] at h2;exact absurd h2 (by show ¬((1:Int)=2);decide)
    ·exact absurd h2 (by show ¬((3:Int)=2);decide)
    ·exact absurd h2 (by show ¬((5:Int)=2);decide)
    ·exact absurd h2 (by show ¬((5:Int)=2);decide)
    ·exact absurd h2 (by show ¬((4:Int)=2);decide)
   ·exact hI.wait t (List.mem_of_getElem? hj) h2
theorem Zb {A A':Au} {n m:Nat} {x:Ev} (hf:jP A n x=some A') (h:A.length<=m/\∀s ∈ A,s.deeds.length<=m):A'.length<=m+1/\∀s ∈ A',s.deeds.length<=m+1:=by
 obtain⟨h1,h2⟩:=h;rcases zR hf with⟨hk,-,-,rfl⟩|⟨k,s,s',hk,hs,hi,hm,rfl⟩
 ·refine ⟨by simp;exact h1,fun s hs=>?_⟩
  simp only[List.mem_append,List.mem_singleton] at hs;rcases hs with hs|rfl
  ·have:=h2 s hs;omega
  ·simp [Qq]
 ·refine ⟨by simp;omega,fun t ht=>?_⟩
  obtain⟨j,hj⟩:=List.mem_iff_getElem?.1 ht;have hs2:=h2 s (List.mem_of_getElem? hs);rcases zM hj with⟨rfl,rfl⟩|⟨-,hj⟩
  ·rcases yM hm with⟨-,-,rfl⟩|⟨-,-,d,hd,-,rfl⟩|⟨-,-,rfl⟩|⟨-,-,rfl⟩|⟨-,-,rfl⟩|⟨-,-,rfl⟩
   ·simp [QG];exact hs2
   ·unfold jw;rw[hd];simp;omega
   ·simp [Rk];omega
   ·simp [Zz];omega
   ·simp [Zz];omega
   ·simp [NA];omega
  ·have:=h2 t (List.mem_of_getElem? hj);omega
theorem Rg {x:Ev} (h:xP x=true):1<=x.kind/\x.kind < 8:=by
 unfold xP uM at h
 split at h
 ·cases h
 ·rename_i L hL
  split at hL
  ·omega
  ·split at hL
   ·omega
   ·split at hL
    ·omega
    ·cases hL
theorem qfZ {B bA n:Nat} {os:List Ob} {A:Au} (x:Ev) (w:World) (hx:Un os x=true) (hdr:dI x.ret) (hn:n < 400) (hA:A.length<=1000) (hl:∀s ∈ A,s.deeds.length<=1000) (hI:KZ A) (h:uH w B bA os n A) (hW:xu w) (hG:jy w):
  Calls Tryz.prog 78 #[.pointer (some ⟨bA,0,none⟩),Xc x] w (qdx w B bA os n (jP A n x)):=by
 obtain⟨xk,xx,xh,xj,xo,xy,xv,xr⟩:=x;have hval:xP ⟨xk,xx,xh,xj,xo,xy,xv,xr⟩=true:=by unfold Un at hx;simp only[Bool.and_eq_true] at hx;exact hx.1
 obtain⟨hk1,hk8⟩:=Rg hval;simp only at hk1 hk8 hdr;unfold jP;simp only;by_cases hk:xk=1
 ·rw [if_pos hk]
  by_cases hi:uw xx A
  ·rw [if_pos (by rw[Yj.2 hi];rfl)]
   exact qcw xk xx xh xj xo xy xv xr w hval hdr hk hi hn hA h hW hG
  ·by_cases hb:yI xh A
   ·rw [if_pos (by rw[Xf.2 hb];simp)]
    exact qcv xk xx xh xj xo xy xv xr w hval hdr hk hi hb hn hA h hW hG
   ·rw [if_neg (by simp only[Bool.or_eq_true,not_or];exact⟨fun q=>hi (Yj.1 q),fun q=>hb (Xf.1 q)⟩)]
    exact qcu xk xx xh xj xo xy xv xr w hval hdr hk hi hb hn hA h hW hG
 ·rw [if_neg hk]
  have hk2:2<=xk:=by omega
  have hoc:xk=2->∃(c:Nat) (o:Ob),xj=c/\os[c]?=some o/\jT xo=o.kind:=fun e=>by
   subst e;obtain⟨h0,h7⟩:=UI hval rfl;simp only at h0 h7;unfold Un at hx;simp only[Bool.and_eq_true] at hx;have hx:=hx.2;cases ho:os[xj.toNat]? with
   |none=>rw[ho] at hx;simp at hx
   |some o=>
    rw[ho] at hx;exact⟨xj.toNat,o,by omega,ho,by simpa using hx⟩
  cases hf:A.findIdx? (fun s=>s.id==xx) with
  |none=>
   have hi:¬uw xx A:=by
    rintro⟨s,hs,e⟩;have:=List.findIdx?_eq_none_iff.1 hf s hs;simp[e] at this
   simp only;by_cases h2:xk=2
   ·exact qgX xk xx xh xj xo xy xv xr w hval hdr (hoc h2) h2 hk2 hk8 hi hn hA h hW hG
   ·exact qgW xk xx xh xj xo xy xv xr w hval hdr h2 hk2 hk8 hi hn hA h hW hG
  |some k=>
   obtain⟨hkl,hp,-⟩:=List.findIdx?_eq_some_iff_getElem.1 hf;have hs:=List.getElem?_eq_getElem hkl;have hi:A[k].id=xx:=by simpa using hp
   have hsl:=hl A[k] (List.getElem_mem hkl);have hdl:=hI.wait A[k] (List.getElem_mem hkl);simp only;rw[hs];generalize A[k]=s at *;simp only;by_cases hfr:s.stand ∈ qR xk
   ·cases hm:xN n ⟨xk,xx,xh,xj,xo,xy,xv,xr⟩ s with
    |some s'=>
     by_cases h2:xk=2
     ·exact qek xk xx xh xj xo xy xv xr w hval hdr (hoc h2) h2 hk2 hk8 hs hi hfr hdl hI.busy hm hn hA hsl h hW hG
     ·exact qej xk xx xh xj xo xy xv xr w hval hdr h2 hk2 hk8 hs hi hfr hdl hI.busy hm hn hA hsl h hW hG
    |none=>
     have h3:xk=3:=(RO (x:=⟨xk,xx,xh,xj,xo,xy,xv,xr⟩) hk2 hk8 hfr hm).1;exact qen xk xx xh xj xo xy xv xr w hval hdr (by rw[h3];decide) hk2 hk8 hs hi hfr hdl hm hn hA hsl h hW hG
   ·have hm:xN n ⟨xk,xx,xh,xj,xo,xy,xv,xr⟩ s=none:=RS (x:=⟨xk,xx,xh,xj,xo,xy,xv,xr⟩) hk2 hk8 hfr
    rw[hm];by_cases h2:xk=2
    ·exact qcs xk xx xh xj xo xy xv xr w hval hdr (hoc h2) h2 hk2 hk8 hs hi hfr hn hA hsl h hW hG
    ·exact qcr xk xx xh xj xo xy xv xr w hval hdr h2 hk2 hk8 hs hi hfr hn hA hsl h hW hG
