/- Parts of the proof; the first: The automaton of well-formed histories of all kinds of objects: a return, a move. Conditions: those of each theorem, as typed. -/
import Derived.Test.YtcpfbphcldocpaaGreatDoorQC09
set_option linter.unusedVariables false
set_option linter.unusedSimpArgs false
set_option linter.unusedSectionVars false
set_option maxRecDepth 100000
set_option maxHeartbeats 4000000
namespace Go.Proofs.YtcpfbphcldocpaaGreatDoor
open Go.Maps Go.RowKit
section
attribute [local irreducible] xL
def Qb (B:Nat) (w:World) (e:Ending) (w':World):Prop:=(∃t x,e=.returned (.iface t x))/\Below B w w'
def MvRetG (w:World) (B:Nat) (p:Nat×Value) (r:Option St) (e:Ending) (w':World):Prop:=match r with
 |some s'=>Yy w B p s' e w'
 |none=>Qb w.heap.size w e w'
section
variable {w:World} {B p:Nat} {dv:Value} {s:St}
theorem g_ret (xk xx xh xj xo xy xv xr:Int) (n:Nat) (d:Dd) (h:jf w B (p,dv) s) (hd:s.deeds.getLast?=some d) (hE:jh w 16) (hl:s.deeds.length<=1000):
  Calls Tryz.prog 173 #[.pointer (some ⟨p,0,none⟩),Ql ⟨xk,xx,xh,xj,xo,xy,xv,xr⟩,.int .i64 n] w (MvRetG w B (p,dv) (if vy d.op xr=true then some (yW xr xv n s) else none)):=by
 obtain⟨r,hr⟩:∃r,r=(if vy d.op xr=true then some (yW xr xv n s) else none):=⟨_,rfl⟩
 rw[←hr];have HR:=qd hr;clear hr;have l0:=qe h.row;have hB:B<=p:=h.hB;have H:=qd h;have r0:=h.row;have hne0:s.deeds≠[]:=by rintro e;rw[e] at hd;cases hd
 obtain⟨g,cap,rfl,hgB,hgl⟩:∃g cap,dv=.slice (some ⟨g,0,none⟩) s.deeds.length cap/\B<=g/\g < w.heap.size:=by
  rcases qj.form h.dds with⟨-,h2⟩|⟨g,cap,h1,h2,h3⟩
  ·exact absurd h2 hne0
  ·exact ⟨g,cap,h1,h2,h3⟩
 have hdn:yW xr xv n s={s with stand:=1,deeds:=s.deeds.dropLast++[us d xr xv n]}:=by unfold yW;rw[hd]
 obtain⟨m,hm⟩:∃m,s.deeds.length=m+1:=⟨s.deeds.length - 1,by have:=List.length_pos_iff.2 hne0;omega⟩
 have hdm:s.deeds[m]?=some d:=by rw[List.getLast?_eq_getElem?,hm] at hd;simpa using hd
 have hls:∀x:Dd,s.deeds.set m x=s.deeds.dropLast++[x]:=fun x=>by
  have h1:=Vp hd;have h2:s.deeds.dropLast.length=m:=by rw[List.length_dropLast,hm];rfl
  conv=>lhs;rw[h1]
  rw[List.set_append_right _ _ (by omega),h2,Nat.sub_self];rfl
 obtain⟨q,hq⟩:∃q,s.deeds.length=q:=⟨_,rfl⟩
 rw[hq] at h r0 H ⊢;have q1:((q:Int) - 1)=(m:Int):=by omega
 have q2:m < q:=by omega
 have qw:IntKind.i64.wrap (m:Int)=(m:Int):=IntWalk.i64_in _ (by omega);have hgp:g≠p:=by
  rintro rfl;obtain⟨cs,fz,hh⟩:=qj.typ h.dds (g:=g) rfl;rw[r0] at hh;simp[uH] at hh
 have y:=qa r0;have y6:=y 6;have y7:=y 7;simp[uH] at y6 y7;have DD:=h.dds;simp only at DD;have SS:=qj.sl DD;rw[hq] at SS;obtain⟨b',off',x',hat',hb',hx',hc'⟩:=SS.atF Dd.len hq (k:=m) (by omega);simp only[Option.some.injEq,Addr.mk.injEq] at hat';obtain⟨rfl,rfl,-⟩:=hat';rw[hdm] at hx';obtain rfl:=Option.some.inj hx';have c1:=hc' 1 (by decide);have c4:=hc' 4 (by decide);have c5:=hc' 5 (by decide);have c7:=hc' 7 (by decide);simp[Dd.cells] at c1 c4 c5 c7;have bW:Below w.heap.size w (w.alloc (.cells #[.int .i64 xk,.int .i64 xx,.int .i64 xh,.int .i64 xj,.int .i64 xo,.int .i64 xy,.int .i64 xv,.int .i64 xr] 69)):=(Below.refl _ w).alloc (Nat.le_refl _) _;have re:=qs w (.cells #[.int .i64 xk,.int .i64 xx,.int .i64 xh,.int .i64 xj,.int .i64 xo,.int .i64 xy,.int .i64 xv,.int .i64 xr] 69);have hzW:(w.alloc (.cells #[.int .i64 xk,.int .i64 xx,.int .i64 xh,.int .i64 xj,.int .i64 xo,.int .i64 xy,.int .i64 xv,.int .i64 xr] 69)).heap.size=w.heap.size+1:=by simp
 have HM:=qd hm;have HDM:=qd hdm;have HLS:=qd hls;have HDN:=qd hdn;clear y h hc' hb' hm hdm hx' hd hdn hls H hne0;go_enter Tryz.func173,Tryz.ntmps173;go_wp2_with fail;generalize w.alloc (.cells #[.int .i64 xk,.int .i64 xx,.int .i64 xh,.int .i64 xj,.int .i64 xo,.int .i64 xy,.int .i64 xv,.int .i64 xr] 69)=W at *;have y6:=qp bW l0 y6;have y7:=qp bW l0 y7;have c1:=qp bW hgl c1;have c4:=qp bW hgl c4;have c5:=qp bW hgl c5;have c7:=qp bW hgl c7;have r1:=qh r0 bW l0;have D1:=qj.below DD bW;have yf:∀j,W.frozen? ⟨p,j,none⟩=false:=fun j=>qt r1 j;have gf:∀j,W.frozen? ⟨g,j,none⟩=false:=fun j=>qj.free D1 j;have lp:p < W.heap.size:=by omega
 have lg:g < W.heap.size:=by omega
 have le:w.heap.size < W.heap.size:=by omega
 have hpe:p≠w.heap.size:=by omega
 have hge:g≠w.heap.size:=by omega
 have hpg:p≠g:=fun e=>hgp e.symm;have e6:=qa re 6;have e7:=qa re 7;simp at e6 e7;have R1:=qd r1;have DD1:=qd D1;have BW:=qd bW;have HE:=qd hE;clear hE;clear r0 r1 D1 DD bW re;refine qD (W.heap.size) [0,0,0,0,1,0,0,0,0,1,0,0,0,0] (.fin [0,1,2,3,4,5,6,7,8,9,10,11,12,13]) (by kernel_rfl) ?_;simp only[xC,qJ,qu,sD,sE,sF,sG]
 repeat first|(refine qq fun K hK=>?_;go_simp;refine hK _ _ ?_;clear hK K)|(apply qx;(intro w2 hw2;have hk1:=hw2.cell;have hk3:=hw2.1;clear hw2;go_simp;with_reducible rfl);simp only[Act.put,sA,sB,sC])|refine qm ?_
 go_wp2_with fail;refine qD (W.heap.size) [0,0,0,1,0,1,3,0] (.fin [0,1,2,3,4,5,6,7]) (by kernel_rfl) ?_;simp only[xC,qJ,qu,sD,sE,sF,sG]
 repeat first|(refine qq fun K hK=>?_;go_simp;refine hK _ _ ?_;clear hK K)|(apply qx;(intro w2 hw2;have hk1:=hw2.cell;have hk3:=hw2.1;clear hw2;go_simp;with_reducible rfl);simp only[Act.put,sA,sB,sC])
 refine qC (fun K hK=>?_);go_simp;refine(g_Fits d.op xr _).mono ?_;rintro e W2 ⟨rfl,hw⟩;refine hK _ _ (by rw[hw];exact RN.KeepsN.of_below (Below.refl _ _)) ?_;clear hK K;rw[hw];clear hw W2;cases hff:vy d.op xr with
 |false=>
  have hE3:=HE.o.below BW.o;obtain⟨hg3,te,xe,he3⟩:=hE3
  repeat first|(refine qq fun K hK=>?_;go_simp;refine hK _ _ ?_;clear hK K)|refine qm ?_
  go_wp2_with fail;refine bodyPost_ret (v:=.iface te xe) (by simp[results,Tryz.results173,go_sem]) rfl ?_;have hr:=HR.o;rw[hff,if_neg (by decide)] at hr;subst hr;show Qb _ _ _ _;exact⟨⟨_,_,rfl⟩,BW.o.drew.drew⟩
 |true=>
  repeat first|(refine qq fun K hK=>?_;go_simp;refine hK _ _ ?_;clear hK K)|refine qm ?_
  go_wp2_with fail;refine My (fun k=>k=w.heap.size) [0,0,0,0,0,1,0,1,0,0,0,3,0,0,3,0,0,3,0,0,3] (.fin [0,1,2,3,4,5,6,7,8,9,10,11,12,13,14,15,16,17,18,19,20]) (by kernel_rfl) ?_;simp only[xC,qJ,qu,sD,sE,sF,sG]
  repeat first|(refine qq fun K hK=>?_;go_simp;refine hK _ _ ?_;clear hK K)|(apply qx;(intro w2 hw2;have hk1:=hw2.cell;(try simp only at hk1);have hk3:=hw2.1;clear hw2;go_simp;with_reducible rfl);simp only[Act.put,sA,sB,sC])
  refine qC (fun K hK=>?_);go_simp;refine hK _ _ (RK.KeepsN.set _ _ _ hpe) ?_;clear hK K
  repeat (refine qq fun K hK=>?_;go_simp;refine hK _ _ ?_;clear hK K)
  refine qC (fun K hK=>?_);go_simp;refine hK _ _ (RK.KeepsN.set _ _ _ hge) ?_;clear hK K
  repeat (refine qq fun K hK=>?_;go_simp;refine hK _ _ ?_;clear hK K)
  refine qC (fun K hK=>?_);go_simp;refine hK _ _ (RK.KeepsN.set _ _ _ hge) ?_;clear hK K
  repeat (refine qq fun K hK=>?_;go_simp;refine hK _ _ ?_;clear hK K)
  refine qC (fun K hK=>?_);go_simp;refine hK _ _ (RK.KeepsN.set _ _ _ hge) ?_;clear hK K
  repeat refine qm ?_
  go_wp2;go_ret;have hml:m < s.deeds.length:=by rw[HM.o];omega
  have d0:XH (W.setCell ⟨p,7,none⟩ (.int .i64 1)) B (.slice (some ⟨g,0,none⟩) q cap) s.deeds:=qj.other DD1.o (fun h=>hgp (by simpa[Value.ownBlock] using h)) _;have d1:=qj.setAt d0 Dd.len HDM.o (j:=4) (u:=.int .i64 xr) (x':={d with ret:=xr}) (by decide) rfl;have d2:=qj.setAt d1 Dd.len (List.getElem?_set_self hml) (j:=5) (u:=.int .i64 xv) (x':={d with ret:=xr,got:=xv}) (by decide) rfl;have d3:=qj.setAt d2 Dd.len (List.getElem?_set_self (by simpa using hml)) (j:=7) (u:=.int .i64 n) (x':=us d xr xv n) (by decide) rfl;rw[List.set_set,List.set_set,HLS.o] at d3;have hr:=HR.o;rw[hff,if_pos rfl] at hr;subst hr;show Yy _ _ _ _ _ _;refine⟨rfl,_,?_,?_,fun k hk=>.inl hk⟩
  ·rw [HDN.o]
   exact⟨qI (qI (qI (qn R1.o 7 (.int .i64 1)) hgp) hgp) hgp,hB,d3⟩
  ·have hc:=zj.of_below (S:=Kc (p,.slice (some ⟨g,0,none⟩) q cap)) BW.o
   exact((((hc.set (.inl rfl)).set (.inr rfl)).set (.inr rfl)).set (.inr rfl)).drew.drew.drew
end
theorem ZT {W:World} {B B0 p n:Nat} {dv:Value} {s:St} {F:FuncId} {caps:Array Value} (xk xx xh xj xo xy xv xr:Int) (hst:jf W B (p,dv) s) (hd:uj W B0 xk F caps) (hp:p < B0) (hk2:2<=xk) (hk8:xk < 8) (hfr:s.stand ∈ qK xk) (hdl:s.stand=2->s.deeds≠[]) (hl:s.deeds.length<=1000) (hE:jh W 16):
  Calls Tryz.prog F (#[.pointer (some ⟨p,0,none⟩),Ql ⟨xk,xx,xh,xj,xo,xy,xv,xr⟩,.int .i64 n]++caps) W (MvRetG W B (p,dv) (xB n ⟨xk,xx,xh,xj,xo,xy,xv,xr⟩ s)):=by
 have hk:xk=2\/xk=3\/xk=4\/xk=5\/xk=6\/xk=7:=by omega
 rcases hk with rfl|rfl|rfl|rfl|rfl|rfl <;> simp[qK] at hfr <;> rcases hd with⟨e1,rfl,rfl⟩|⟨e1,rfl,rfl⟩|⟨e1,rfl,rfl⟩|⟨e1,rfl,rfl⟩|⟨rfl,c,st,e1,rfl,hc,hcB⟩ <;> first|(exfalso;omega)|skip
 ·have:xB n ⟨2,xx,xh,xj,xo,xy,xv,xr⟩ s=some (uB ⟨2,xx,xh,xj,xo,xy,xv,xr⟩ n s):=by simp[xB,hfr]
  rw[this];exact mv_call 2 xx xh xj xo xy xv xr n hst hl
 ·obtain ⟨d,hd⟩:∃d,s.deeds.getLast?=some d:=⟨_,List.getLast?_eq_some_getLast (hdl hfr)⟩
  have:xB n ⟨3,xx,xh,xj,xo,xy,xv,xr⟩ s=if vy d.op xr=true then some (yW xr xv n s) else none:=by simp[xB,hfr,hd]
  rw[this];exact g_ret 3 xx xh xj xo xy xv xr n d hst hd hE hl
 ·have:xB n ⟨4,xx,xh,xj,xo,xy,xv,xr⟩ s=some (UH n s):=by simp[xB,hfr]
  rw[this];exact mv_try 4 xx xh xj xo xy xv xr n hst
 ·have:xB n ⟨5,xx,xh,xj,xo,xy,xv,xr⟩ s=some (Qr 3 n s):=by simp[xB,hfr]
  rw[this];obtain rfl:st=3:=by omega
  exact mv_end 5 xx xh xj xo xy xv xr n c 3 hc (by omega) hst
 ·have:xB n ⟨6,xx,xh,xj,xo,xy,xv,xr⟩ s=some (Qr 4 n s):=by simp[xB,hfr]
  rw[this];obtain rfl:st=4:=by omega
  exact mv_end 6 xx xh xj xo xy xv xr n c 4 hc (by omega) hst
 ·have:xB n ⟨7,xx,xh,xj,xo,xy,xv,xr⟩ s=some (Vr s):=by simp[xB,hfr]
  rw[this];exact mv_can 7 xx xh xj xo xy xv xr n hst
end
section
attribute [local irreducible] xL
def YR (w:World) (B bA:Nat) (os:List Ob) (n:Nat) (A':Au) (e:Ending) (w':World):Prop:=e=.returned .nilIface/\un w' B bA os (n+1) A'/\Below B w w'
theorem jA {N:Nat->Prop} {w w':World} {b:Nat} (h:w.mapTurned w' b) (hb:¬N b):RK.KeepsN N w w':=⟨by rw[qP h];exact Nat.le_refl _,fun k hk=>qA h (by rintro rfl;exact hb hk)⟩
def FeedPost (w:World) (B bA:Nat) (os:List Ob) (n:Nat) (r:Option Au) (e:Ending) (w':World):Prop:=match r with
 |some A'=>YR w B bA os n A' e w'
 |none=>Qb B w e w'
structure jn (w:World):Prop where
 g:Jl w
 twice:jh w 12
 thread:jh w 13
 tx:jh w 11
 order:jh w 14
 answer:jh w 16
theorem jn.below {w w':World} (h:jn w) (hb:Below w.heap.size w w'):jn w':=⟨h.g.below hb,h.twice.below hb,h.thread.below hb,h.tx.below hb,h.order.below hb,h.answer.below hb⟩
theorem g_begin3 (xk xx xh xj xo xy xv xr:Int) {B bA n:Nat} {os:List Ob} {A:Au} (w:World) (hval:xM ⟨xk,xx,xh,xj,xo,xy,xv,xr⟩=true) (hdr:dI xr) (hk:xk=1) (hi:¬ut xx A) (hb:¬yJ xh A) (hn:n < 400) (hA:A.length<=1000) (h:un w B bA os n A) (hW:xg w) (hG:jn w):
  Calls Tryz.prog 78 #[.pointer (some ⟨bA,0,none⟩),Ql ⟨xk,xx,xh,xj,xo,xy,xv,xr⟩] w (YR w B bA os n (A++[zM ⟨xk,xx,xh,xj,xo,xy,xv,xr⟩ n])):=by
 obtain⟨bY,bZ,ov,tv,bs,h⟩:=h;have r0:=h.row;have l0:=qe r0;have y:=qa r0;have y1:=y 1;simp at y1;have b0:Below w.heap.size w (w.alloc (.cells #[.int .i64 xk,.int .i64 xx,.int .i64 xh,.int .i64 xj,.int .i64 xo,.int .i64 xy,.int .i64 xv,.int .i64 xr] 69)):=(Below.refl _ w).alloc (Nat.le_refl _) _;have re:=qs w (.cells #[.int .i64 xk,.int .i64 xx,.int .i64 xh,.int .i64 xj,.int .i64 xo,.int .i64 xy,.int .i64 xv,.int .i64 xr] 69);obtain⟨hgc,tc,xc,hec⟩:=(hG.g.below b0).code;obtain⟨hge,te,xe,hee⟩:=(hG.g.below b0).event;have hv:=zW ⟨xk,xx,xh,xj,xo,xy,xv,xr⟩ hdr _ (hW.below b0) _ _ hgc hec hge hee;rw[hval] at hv;simp only[if_true] at hv;have hv:=qd hv;have HG:=qd hG;clear hgc hec hge hee hG hval;have q1:((n:Int)==400)=false:=by simp;omega
 have HI:=qd hi;have HBs:=qd hb;have H:=qd h;have HB0:=qd b0;have RE:=qd re;have hAB:=h.hB;have hBw:B<=w.heap.size:=by omega
 subst hk;clear y r0 h hi hb hW b0 re;go_enter Tryz.func78,Tryz.ntmps78;go_wp2_with fail;obtain⟨W,hWW⟩:∃W,W=w.alloc (.cells #[.int .i64 1,.int .i64 xx,.int .i64 xh,.int .i64 xj,.int .i64 xo,.int .i64 xy,.int .i64 xv,.int .i64 xr] 69):=⟨_,rfl⟩
 rw[←hWW] at hv HB0 RE ⊢;clear hWW;refine(hv.o).mono ?_;rintro e W1 ⟨rfl,b1⟩;have H1:=qd ((H.o.below HB0.o).below b1);have B1:=qd (HB0.o.trans (b1.mono HB0.o.size));have re1:=qh RE.o b1 (qe RE.o);have le:=qe re1;have ra1:=H1.o.row;have la:=qe ra1;have hea:w.heap.size≠bA:=by omega
 have hz1:=B1.o.size;have hbew:w.heap.size < W1.heap.size:=le;have y:=qa re1;have e0:=y 0;have e1:=y 1;have e2:=y 2;simp at e0 e1 e2;have z:=qa ra1;have a1:=z 1;have a2:=z 2;have a3:=z 3;have a4:=z 4;simp at a1 a2 a3 a4;have yf:∀j,W1.frozen? ⟨bA,j,none⟩=false:=fun j=>qt ra1 j;obtain⟨MY,hmY,f1,f2⟩:=H1.o.by_.2;obtain⟨MZ,hmZ,f5⟩:=H1.o.bz.2;have lY:=hmY.lt;have lZ:=hmZ.lt;have lk1:=(hmY.drew.look Tryz.underlying3 Tryz.underlying174 (zP W1.drew) xx (f2 xx HI.o)).2;have lk2:=(hmZ.drew.drew.look Tryz.underlying3 Tryz.underlying174 (zP W1.drew.drew) xh (f5.1 xh HBs.o)).1;simp only[Option.getD_none,Option.isSome_none] at lk1 lk2;have RE1:=qd re1;have RA1:=qd ra1;have F:=qd (And.intro hmY (And.intro f1 (And.intro f2 (And.intro hmZ f5))));clear y z re1 ra1 hmY f1 f2 hmZ f5 b1 hv;go_wp2_with fail;refine qD (W1.heap.size) [0,0,0,1,0,1,2,0,0,0,0,0] (.fin [0,1,2,3,4,5,6,7,8,9,10,11]) (by kernel_rfl) ?_;simp only[xC,qJ,qu,sD,sE,sF,sG]
 repeat first|(refine qq fun K hK=>?_;go_simp;refine hK _ _ ?_;clear hK K)|(apply qx;(intro w2 hw2;have hk1:=hw2.cell;have hk3:=hw2.1;clear hw2;go_simp;with_reducible rfl);simp only[Act.put,sA,sB,sC])
 refine qF (fun K hK=>?_);go_simp;refine hK _ _ ?_;clear hK K lk1
 repeat first|(refine qq fun K hK=>?_;go_simp;refine hK _ _ ?_;clear hK K)|refine qm ?_
 go_wp2_with fail;refine qD (W1.heap.size) [0,0,0,1,0,1,2,0,0] (.fin [0,1,2,3,4,5,6,7,8]) (by kernel_rfl) ?_;simp only[xC,qJ,qu,sD,sE,sF,sG]
 repeat first|(refine qq fun K hK=>?_;go_simp;refine hK _ _ ?_;clear hK K)|(apply qx;(intro w2 hw2;have hk1:=hw2.cell;have hk3:=hw2.1;clear hw2;go_simp;with_reducible rfl);simp only[Act.put,sA,sB,sC])
 refine qF (fun K hK=>?_);go_simp;refine hK _ _ ?_;clear hK K lk2
 repeat first|(refine qq fun K hK=>?_;go_simp;refine hK _ _ ?_;clear hK K)|refine qm ?_
 go_wp2_with fail;refine qD (W1.heap.size) [0,1,0,1,0,0,0,1,0,0,3,0] (.fin [0,1,2,3,4,5,6,7,8,9,10,11]) (by kernel_rfl) ?_;simp only[xC,qJ,qu,sD,sE,sF,sG]
 repeat first|(refine qq fun K hK=>?_;go_simp;refine hK _ _ ?_;clear hK K)|(apply qx;(intro w2 hw2;have hk1:=hw2.cell;have hk3:=hw2.1;clear hw2;go_simp;with_reducible rfl);simp only[Act.put,sA,sB,sC])
 refine qC (fun K hK=>?_);go_simp;refine hK _ _ (RN.KeepsN.alloc _ _ (Nat.le_refl _)) ?_;clear hK K
 repeat first|(refine qq fun K hK=>?_;go_simp;refine hK _ _ ?_;clear hK K)|refine qm ?_
 have bV:Below W1.heap.size W1 (W1.alloc (.cells #[.int .i64 xx,.int .i64 xh,.int .i64 1,.int .i64 n,.int .i64 (-1),.int .i64 (-1),.slice none 0 0,.int .i64 1] 179)).drew.drew.drew:=((Below.refl _ W1).alloc (Nat.le_refl _) _).drew.drew.drew;have rp:(W1.alloc (.cells #[.int .i64 xx,.int .i64 xh,.int .i64 1,.int .i64 n,.int .i64 (-1),.int .i64 (-1),.slice none 0 0,.int .i64 1] 179)).drew.drew.drew.heap[W1.heap.size]?=some (.cells #[.int .i64 xx,.int .i64 xh,.int .i64 1,.int .i64 n,.int .i64 (-1),.int .i64 (-1),.slice none 0 0,.int .i64 1] 179 (0,0)):=qs W1 _;have zV:W1.heap.size < (W1.alloc (.cells #[.int .i64 xx,.int .i64 xh,.int .i64 1,.int .i64 n,.int .i64 (-1),.int .i64 (-1),.slice none 0 0,.int .i64 1] 179)).drew.drew.drew.heap.size:=qe rp;generalize (W1.alloc (.cells #[.int .i64 xx,.int .i64 xh,.int .i64 1,.int .i64 n,.int .i64 (-1),.int .i64 (-1),.slice none 0 0,.int .i64 1] 179)).drew.drew.drew=V at *;have HV:=qd (H1.o.below bV);have BV:=qd (B1.o.trans (bV.mono hz1));have BV1:=qd bV;have rv:=qh RA1.o bV la;have ev:=qh RE1.o bV le;have lv:=qe rv;have z:=qa rv;clear a1 a2 a3 a4 e0 e1 e2 yf;have a1:=z 1;have a2:=z 2;have a3:=z 3;have a4:=z 4;simp at a1 a2 a3 a4;have hBV:B<=V.heap.size:=by omega
 have hlen:(bs.map fun p=>xE p.1).length<=1000:=by rw[List.length_map,HV.o.len];exact hA
 have RV:=qd rv;have EV:=qd ev;have RP:=qd rp;clear z rv ev rp bV F lY lZ;go_wp2_with (at_builtin;refine qM rfl _ _ _ rfl _ 8 Tryz.underlying173 infoPs rfl HV.o.txs (xE W1.heap.size) hBV (by rfl) (by rfl) (by first|rfl|simp) rfl (ptr_one _) (by first|omega|(simp only[List.length_append,List.length_cons,List.length_nil,List.length_replicate];omega)) (by first|omega|(simp only[List.length_append,List.length_cons,List.length_nil,List.length_replicate];omega)) ?_;refine qH.halt ?_)
 refine qH.go ?_;intro g cap X ho hg;have c1:=zj.grw (S:=fun k=>tv.ownBlock=some k) hg (fun _ h=>h);have rx:=qS RV.o hg (qj.neT HV.o.txs RV.o (by decide));have ex:=qS EV.o hg (qj.neT HV.o.txs EV.o (by decide));have px:=qS RP.o hg (qj.neT HV.o.txs RP.o (by decide));have notM:∀b,(∃es c,V.heap[b]?=some (.map es c))->¬tv.ownBlock=some b:=fun b hb hk=>by
  obtain⟨cs,fz,hh⟩:=qj.typ HV.o.txs hk;obtain⟨es,c,hb⟩:=hb;rw[hb] at hh;cases hh
 obtain⟨MY,hmY,f1,f2⟩:=HV.o.by_.2;obtain⟨MZ,hmZ,f5⟩:=HV.o.bz.2;have xY:=hmY.chg c1 (notM _ hmY.isMap);have xZ:=hmZ.chg c1 (notM _ hmZ.isMap);have lx:=qe rx;have zx:V.heap.size<=X.heap.size:=hg.size;clear a1 a2 a3 a4;have z:=qa rx;have a2:=z 2;simp at a2;have yf:∀j,X.frozen? ⟨bA,j,none⟩=false:=fun j=>qt rx j;have HX:=qd (And.intro ho (And.intro hg (And.intro c1 (And.intro rx (And.intro ex (And.intro px (And.intro xY xZ)))))));have FF:=qd (And.intro f1 (And.intro f2 f5));clear z ho hg c1 rx ex px xY xZ notM hmY hmZ f1 f2 f5;go_wp2_with fail;obtain⟨ho,hg,c1,rx,ex,px,xY,xZ⟩:=HX.o
 try simp only[List.length_map] at ho hg
 have hbe:bA≠w.heap.size:=fun e=>hea e.symm;have hpa:W1.heap.size≠bA:=by omega
 have r1:=qn rx 2 (.slice (some ⟨g,0,none⟩) (bs.length+1) cap);have v1:=qI (g':=bA) (j:=2) (v:=.slice (some ⟨g,0,none⟩) (bs.length+1) cap) ex hbe;have p1:=qI (g':=bA) (j:=2) (v:=.slice (some ⟨g,0,none⟩) (bs.length+1) cap) px (Ne.symm hpa);have nY:bY≠bA:=fun e=>by
  obtain⟨es,c,hh⟩:=xY.isMap;rw[e,rx] at hh;cases hh
 have nZ:bZ≠bA:=fun e=>by
  obtain⟨es,c,hh⟩:=xZ.isMap;rw[e,rx] at hh;cases hh
 have nYe:bY≠w.heap.size:=fun e=>by
  obtain⟨es,c,hh⟩:=xY.isMap;rw[e,ex] at hh;cases hh
 have nZe:bZ≠w.heap.size:=fun e=>by
  obtain⟨es,c,hh⟩:=xZ.isMap;rw[e,ex] at hh;cases hh
 have Y1:=xY.set (g:=bA) (j:=2) (v:=.slice (some ⟨g,0,none⟩) (bs.length+1) cap) nY;have Z1:=xZ.set (g:=bA) (j:=2) (v:=.slice (some ⟨g,0,none⟩) (bs.length+1) cap) nZ;have hgne:(Value.slice (some ⟨g,0,none⟩) (bs.length+1) cap).ownBlock≠some bA:=qj.neT ho rx (by decide);have T1:=qj.other (j:=2) ho hgne (.slice (some ⟨g,0,none⟩) (bs.length+1) cap);have zX:(X.setCell ⟨bA,2,none⟩ (.slice (some ⟨g,0,none⟩) (bs.length+1) cap)).heap.size=X.heap.size:=by simp
 have c2:zj (fun k=>k=bA\/tv.ownBlock=some k\/k=bY\/k=bZ) V (X.setCell ⟨bA,2,none⟩ (.slice (some ⟨g,0,none⟩) (bs.length+1) cap)):=(c1.mono fun j hj=>.inr (.inl hj)).set (.inl rfl);generalize X.setCell ⟨bA,2,none⟩ (.slice (some ⟨g,0,none⟩) (bs.length+1) cap)=Y at *;clear a2 yf;have z:=qa r1;have a1:=z 1;have a3:=z 3;have a4:=z 4;simp at a1 a3 a4;have y:=qa v1;have e1:=y 1;have e2:=y 2;simp at e1 e2;have HY:=qd (And.intro r1 (And.intro v1 (And.intro p1 (And.intro Y1 (And.intro Z1 (And.intro T1 c2))))));have lxY:V.heap.size<=Y.heap.size:=by omega
 clear z y r1 v1 p1 Y1 Z1 T1 c2 ho hg c1 rx ex px xY xZ zX;refine My (fun k=>k=bA\/k=w.heap.size) [0,0,0,1,0,1,0,0,0,1,0,1,0,0,3,0,3,3,0,3] (.fin [0,1,2,3,4,5,6,7,8,9,10,11,12,13,14,15,16,17,18,19]) (by kernel_rfl) ?_;simp only[xC,qJ,qu,sD,sE,sF,sG]
 repeat first|(refine qq fun K hK=>?_;go_simp;refine hK _ _ ?_;clear hK K)|(apply qx;(intro w2 hw2;have hk1:=hw2.cell;(try simp only at hk1);have hk3:=hw2.1;clear hw2;go_simp;with_reducible rfl);simp only[Act.put,sA,sB,sC])
 have nNY:¬(bY=bA\/bY=w.heap.size):=fun h=>h.elim nY nYe;have nNZ:¬(bZ=bA\/bZ=w.heap.size):=fun h=>h.elim nZ nZe;have hyz:=H1.o.ne;refine qC (fun K hK=>?_);refine HY.o.2.2.2.1.drew.wp_entry Tryz.underlying3 Tryz.underlying174 (zP _) (a:=xx) rfl rfl rfl ?_;intro X1 v1 n1 M1 ha1 hn1 t1;refine hK _ _ (jA t1 nNY) ?_;clear hK K
 repeat (refine qq fun K hK=>?_;go_simp;refine hK _ _ ?_;clear hK K)
 refine qC (fun K hK=>?_);refine ha1.wp_stored rfl rfl rfl rfl ?_;intro X2 hm2 t2;refine hK _ _ (jA t2 nNY) ?_;clear hK K;have zz2:qL X2 bZ MZ:=((HY.o.2.2.2.2.1.drew).obj (qA t1 (Ne.symm hyz))).obj (qA t2 (Ne.symm hyz));refine qC (fun K hK=>?_);refine zz2.wp_entry Tryz.underlying3 Tryz.underlying174 (zP _) (a:=xh) rfl rfl rfl ?_;intro X3 v3 n3 M3 ha3 hn3 t3;refine hK _ _ (jA t3 nNZ) ?_;clear hK K
 repeat (refine qq fun K hK=>?_;go_simp;refine hK _ _ ?_;clear hK K)
 refine qC (fun K hK=>?_);refine ha3.wp_stored rfl rfl rfl rfl ?_;intro X4 hm4 t4;refine hK _ _ (jA t4 nNZ) ?_;clear hK K;have yy4:=(hm2.obj (qA t3 hyz)).obj (qA t4 hyz);obtain⟨r1,v1,p1,Y1,Z1,T1,c2⟩:=HY.o;have r4:=jy t4 (jy t3 (jy t2 (jy t1 (zS r1))));have p4:=jy t4 (jy t3 (jy t2 (jy t1 (zS p1))));have c4:=(((c2.drew.trans (zj.turned (S:=fun k=>k=bY) t1 rfl) fun j _ hj=>.inr (.inr (.inl hj))).trans (zj.turned (S:=fun k=>k=bY) t2 rfl) fun j _ hj=>.inr (.inr (.inl hj))).trans (zj.turned (S:=fun k=>k=bZ) t3 rfl) fun j _ hj=>.inr (.inr (.inr hj))).trans (zj.turned (S:=fun k=>k=bZ) t4 rfl) fun j _ hj=>.inr (.inr (.inr hj));have tt:∀{P Q:World} {b:Nat},P.mapTurned Q b->qj XL 177 1 P B (.slice (some ⟨g,0,none⟩) (bs.length+1) cap) (bs.map (fun p=>xE p.1)++[xE W1.heap.size])->qj XL 177 1 Q B (.slice (some ⟨g,0,none⟩) (bs.length+1) cap) (bs.map (fun p=>xE p.1)++[xE W1.heap.size]):=fun {P Q b} ht ho=>qj.chg ho (zj.turned (S:=fun k=>k=b) ht rfl) fun k hk e=>by
  obtain⟨cs,fz,hh⟩:=qj.typ ho hk;obtain⟨es,c,es',c',hb,-⟩:=ht;rw[e,hb] at hh;cases hh
 have T4:=tt t4 (tt t3 (tt t2 (tt t1 (qj.drew T1))));have l4:=qe r4;clear a1 a3 a4 e1 e2;have z:=qa r4;have a1:=z 1;simp at a1;have yf:∀j,X4.frozen? ⟨bA,j,none⟩=false:=fun j=>qt r4 j;have H4:=qd (And.intro r4 (And.intro p4 (And.intro c4 (And.intro T4 (And.intro yy4 hm4)))));have HN:=qd (And.intro hn1 hn3);clear z r4 p4 c4 T4 yy4 hm4 tt r1 v1 p1 Y1 Z1 T1 c2 t1 t2 t3 t4 ha1 ha3 hm2 zz2 hn1 hn3 nNY nNZ HY
 repeat refine qm ?_
 go_wp2;go_ret;obtain⟨r4,p4,c4,T4,yy4,hm4⟩:=H4.o;obtain⟨f1,f2,f5⟩:=FF.o;have r5:=qn r4 1 (.int .i64 ((n:Int)+1));have cc:zj (fun k=>k=bA\/tv.ownBlock=some k\/k=bY\/k=bZ) W1 (X4.setCell ⟨bA,1,none⟩ (.int .i64 ((n:Int)+1))):=((zj.of_below BV1.o).trans c4 fun j _ hj=>hj).set (.inl rfl);have key:=H1.o.begun cc (n':=n+1) (p:=W1.heap.size) (tv':=.slice (some ⟨g,0,none⟩) (bs.length+1) cap) (s:=zM ⟨1,xx,xh,xj,xo,xy,xv,xr⟩ n) r5 (by rw[List.map_append];exact qj.other T4 hgne _)
  ⟨qI p4 (Ne.symm hpa),by show B<=W1.heap.size;omega,qj.nil _ _⟩ (Nat.le_refl _) (yy4.set nY) f1 f2 (fun k hk=>(qV hk).trans (HN.o.1 k hk)) xD HI.o (hm4.set nZ) f5 (fun k hk=>(qV hk).trans (HN.o.2 k hk)) xD rfl
 refine⟨rfl,⟨bY,bZ,ov,_,_,key.zmono fun x=>JA (by simp[zM])⟩,?_⟩;have gY:=H1.o.by_.1;have gZ:=H1.o.bz.1;have gT:∀k,tv.ownBlock=some k->B<=k:=fun k hk=>(qj.lt H1.o.txs k hk).1;exact(B1.o.mono hBw).trans (cc.below (fun j hj=>by
  rcases hj with rfl|hj|rfl|rfl
  ·exact hAB
  ·exact gT j hj
  ·exact gY
  ·exact gZ) (by omega))
theorem g_begin1 (xk xx xh xj xo xy xv xr:Int) {B bA n:Nat} {os:List Ob} {A:Au} (w:World) (hval:xM ⟨xk,xx,xh,xj,xo,xy,xv,xr⟩=true) (hdr:dI xr) (hk:xk=1) (hi:ut xx A) (hn:n < 400) (hA:A.length<=1000) (h:un w B bA os n A) (hW:xg w) (hG:jn w):
  Calls Tryz.prog 78 #[.pointer (some ⟨bA,0,none⟩),Ql ⟨xk,xx,xh,xj,xo,xy,xv,xr⟩] w (Qb B w):=by
 obtain⟨bY,bZ,ov,tv,bs,h⟩:=h;have r0:=h.row;have l0:=qe r0;have y:=qa r0;have y1:=y 1;simp at y1;have b0:Below w.heap.size w (w.alloc (.cells #[.int .i64 xk,.int .i64 xx,.int .i64 xh,.int .i64 xj,.int .i64 xo,.int .i64 xy,.int .i64 xv,.int .i64 xr] 69)):=(Below.refl _ w).alloc (Nat.le_refl _) _;have re:=qs w (.cells #[.int .i64 xk,.int .i64 xx,.int .i64 xh,.int .i64 xj,.int .i64 xo,.int .i64 xy,.int .i64 xv,.int .i64 xr] 69);obtain⟨hgc,tc,xc,hec⟩:=(hG.g.below b0).code;obtain⟨hge,te,xe,hee⟩:=(hG.g.below b0).event;have hv:=zW ⟨xk,xx,xh,xj,xo,xy,xv,xr⟩ hdr _ (hW.below b0) _ _ hgc hec hge hee;rw[hval] at hv;simp only[if_true] at hv;have hv:=qd hv;have HG:=qd hG;clear hgc hec hge hee hG hval;have q1:((n:Int)==400)=false:=by simp;omega
 have HI:=qd hi;have H:=qd h;have HB0:=qd b0;have RE:=qd re;have hAB:=h.hB;have hBw:B<=w.heap.size:=by omega
 subst hk;clear y r0 h hi hW b0 re;go_enter Tryz.func78,Tryz.ntmps78;go_wp2_with fail;obtain⟨W,hWW⟩:∃W,W=w.alloc (.cells #[.int .i64 1,.int .i64 xx,.int .i64 xh,.int .i64 xj,.int .i64 xo,.int .i64 xy,.int .i64 xv,.int .i64 xr] 69):=⟨_,rfl⟩
 rw[←hWW] at hv HB0 RE ⊢;clear hWW;refine(hv.o).mono ?_;rintro e W1 ⟨rfl,b1⟩;have H1:=qd ((H.o.below HB0.o).below b1);have B1:=qd (HB0.o.trans (b1.mono HB0.o.size));have re1:=qh RE.o b1 (qe RE.o);have le:=qe re1;have ra1:=H1.o.row;have la:=qe ra1;have hea:w.heap.size≠bA:=by omega
 have hz1:=B1.o.size;have hbew:w.heap.size < W1.heap.size:=le;have y:=qa re1;have e0:=y 0;have e1:=y 1;have e2:=y 2;simp at e0 e1 e2;have z:=qa ra1;have a1:=z 1;have a2:=z 2;have a3:=z 3;have a4:=z 4;simp at a1 a2 a3 a4;have yf:∀j,W1.frozen? ⟨bA,j,none⟩=false:=fun j=>qt ra1 j;obtain⟨MY,hmY,f1,f2⟩:=H1.o.by_.2;obtain⟨MZ,hmZ,f5⟩:=H1.o.bz.2;have lY:=hmY.lt;have lZ:=hmZ.lt;obtain⟨s,hs,hsi⟩:=HI.o;obtain⟨k,hk⟩:=List.mem_iff_getElem?.1 hs;obtain⟨bp,hbp,-⟩:=H1.o.get hk;have hMp:MY xx=some (xE bp.1):=by rw[←hsi];exact f1 k bp s hbp hk
 have lk1:=(hmY.drew.look Tryz.underlying3 Tryz.underlying174 (zP W1.drew) xx hMp).2;simp only[Option.getD_some,Option.isSome_some] at lk1;unfold xE at lk1;have RE1:=qd re1;have RA1:=qd ra1;clear y z re1 ra1 f1 f2 hmZ f5 b1 hv;go_wp2_with fail;refine qD (W1.heap.size) [0,0,0,1,0,1,2,0,0,0,0,0] (.fin [0,1,2,3,4,5,6,7,8,9,10,11]) (by kernel_rfl) ?_;simp only[xC,qJ,qu,sD,sE,sF,sG]
 repeat first|(refine qq fun K hK=>?_;go_simp;refine hK _ _ ?_;clear hK K)|(apply qx;(intro w2 hw2;have hk1:=hw2.cell;have hk3:=hw2.1;clear hw2;go_simp;with_reducible rfl);simp only[Act.put,sA,sB,sC])
 refine qF (fun K hK=>?_);go_simp;refine hK _ _ ?_;clear hK K lk1
 repeat first|(refine qq fun K hK=>?_;go_simp;refine hK _ _ ?_;clear hK K)|refine qm ?_
 obtain⟨hg3,tw,xw,he3⟩:=HG.o.twice.below B1.o.drew;go_wp2_with fail;refine bodyPost_ret (v:=.iface tw xw) (by simp[results,Tryz.results78,go_sem]) rfl ⟨⟨_,_,rfl⟩,?_⟩;exact B1.o.drew.mono hBw
theorem g_begin2 (xk xx xh xj xo xy xv xr:Int) {B bA n:Nat} {os:List Ob} {A:Au} (w:World) (hval:xM ⟨xk,xx,xh,xj,xo,xy,xv,xr⟩=true) (hdr:dI xr) (hk:xk=1) (hi:¬ut xx A) (hb:yJ xh A) (hn:n < 400) (hA:A.length<=1000) (h:un w B bA os n A) (hW:xg w) (hG:jn w):
  Calls Tryz.prog 78 #[.pointer (some ⟨bA,0,none⟩),Ql ⟨xk,xx,xh,xj,xo,xy,xv,xr⟩] w (Qb B w):=by
 obtain⟨bY,bZ,ov,tv,bs,h⟩:=h;have r0:=h.row;have l0:=qe r0;have y:=qa r0;have y1:=y 1;simp at y1;have b0:Below w.heap.size w (w.alloc (.cells #[.int .i64 xk,.int .i64 xx,.int .i64 xh,.int .i64 xj,.int .i64 xo,.int .i64 xy,.int .i64 xv,.int .i64 xr] 69)):=(Below.refl _ w).alloc (Nat.le_refl _) _;have re:=qs w (.cells #[.int .i64 xk,.int .i64 xx,.int .i64 xh,.int .i64 xj,.int .i64 xo,.int .i64 xy,.int .i64 xv,.int .i64 xr] 69);obtain⟨hgc,tc,xc,hec⟩:=(hG.g.below b0).code;obtain⟨hge,te,xe,hee⟩:=(hG.g.below b0).event;have hv:=zW ⟨xk,xx,xh,xj,xo,xy,xv,xr⟩ hdr _ (hW.below b0) _ _ hgc hec hge hee;rw[hval] at hv;simp only[if_true] at hv;have hv:=qd hv;have HG:=qd hG;clear hgc hec hge hee hG hval;have q1:((n:Int)==400)=false:=by simp;omega
 have HI:=qd hi;have HBs:=qd hb;have H:=qd h;have HB0:=qd b0;have RE:=qd re;have hAB:=h.hB;have hBw:B<=w.heap.size:=by omega
 subst hk;clear y r0 h hi hb hW b0 re;go_enter Tryz.func78,Tryz.ntmps78;go_wp2_with fail;obtain⟨W,hWW⟩:∃W,W=w.alloc (.cells #[.int .i64 1,.int .i64 xx,.int .i64 xh,.int .i64 xj,.int .i64 xo,.int .i64 xy,.int .i64 xv,.int .i64 xr] 69):=⟨_,rfl⟩
 rw[←hWW] at hv HB0 RE ⊢;clear hWW;refine(hv.o).mono ?_;rintro e W1 ⟨rfl,b1⟩;have H1:=qd ((H.o.below HB0.o).below b1);have B1:=qd (HB0.o.trans (b1.mono HB0.o.size));have re1:=qh RE.o b1 (qe RE.o);have le:=qe re1;have ra1:=H1.o.row;have la:=qe ra1;have hea:w.heap.size≠bA:=by omega
 have hz1:=B1.o.size;have hbew:w.heap.size < W1.heap.size:=le;have y:=qa re1;have e0:=y 0;have e1:=y 1;have e2:=y 2;simp at e0 e1 e2;have z:=qa ra1;have a1:=z 1;have a2:=z 2;have a3:=z 3;have a4:=z 4;simp at a1 a2 a3 a4;have yf:∀j,W1.frozen? ⟨bA,j,none⟩=false:=fun j=>qt ra1 j;obtain⟨MY,hmY,f1,f2⟩:=H1.o.by_.2;obtain⟨MZ,hmZ,f5⟩:=H1.o.bz.2;have lY:=hmY.lt;have lZ:=hmZ.lt;have lk1:=(hmY.drew.look Tryz.underlying3 Tryz.underlying174 (zP W1.drew) xx (f2 xx HI.o)).2;obtain⟨gz,hgz⟩:=f5.2 xh HBs.o;have lk2:=(hmZ.drew.drew.look Tryz.underlying3 Tryz.underlying174 (zP W1.drew.drew) xh hgz).1;simp only[Option.getD_none,Option.isSome_none] at lk1;simp only[Option.getD_some] at lk2;unfold xE at lk2;have RE1:=qd re1;have RA1:=qd ra1;have F:=qd (And.intro hmY (And.intro f1 (And.intro f2 (And.intro hmZ f5))));clear y z re1 ra1 hmY f1 f2 hmZ f5 b1 hv;go_wp2_with fail;refine qD (W1.heap.size) [0,0,0,1,0,1,2,0,0,0,0,0] (.fin [0,1,2,3,4,5,6,7,8,9,10,11]) (by kernel_rfl) ?_;simp only[xC,qJ,qu,sD,sE,sF,sG]
 repeat first|(refine qq fun K hK=>?_;go_simp;refine hK _ _ ?_;clear hK K)|(apply qx;(intro w2 hw2;have hk1:=hw2.cell;have hk3:=hw2.1;clear hw2;go_simp;with_reducible rfl);simp only[Act.put,sA,sB,sC])
 refine qF (fun K hK=>?_);go_simp;refine hK _ _ ?_;clear hK K lk1
 repeat first|(refine qq fun K hK=>?_;go_simp;refine hK _ _ ?_;clear hK K)|refine qm ?_
 go_wp2_with fail;refine qD (W1.heap.size) [0,0,0,1,0,1,2,0,0] (.fin [0,1,2,3,4,5,6,7,8]) (by kernel_rfl) ?_;simp only[xC,qJ,qu,sD,sE,sF,sG]
 repeat first|(refine qq fun K hK=>?_;go_simp;refine hK _ _ ?_;clear hK K)|(apply qx;(intro w2 hw2;have hk1:=hw2.cell;have hk3:=hw2.1;clear hw2;go_simp;with_reducible rfl);simp only[Act.put,sA,sB,sC])
 refine qF (fun K hK=>?_);go_simp;refine hK _ _ ?_;clear hK K lk2
 repeat first|(refine qq fun K hK=>?_;go_simp;refine hK _ _ ?_;clear hK K)|refine qm ?_
 obtain⟨hg3,tw,xw,he3⟩:=HG.o.thread.below B1.o.drew.drew;go_wp2_with fail;refine bodyPost_ret (v:=.iface tw xw) (by simp[results,Tryz.results78,go_sem]) rfl ⟨⟨_,_,rfl⟩,?_⟩;exact B1.o.drew.drew.mono hBw
end
theorem YV {P:Program} {c:Code} {Q:Exit->Act->World->Prop} {a:Act} {w:World} (R:Act->Act->World->Prop) (h1:c.wp P (fun e a' X=>e=.normal/\R a a' X) a w) (h2:∀a' X,R a a' X->Q .normal a' X):c.wp P Q a w:=
 wp_mono h1 (by rintro e a' X ⟨rfl,h⟩;exact h2 a' X h)
theorem xS (w:World):(zeroValue 250).run Tryz.prog w=.ok (.agg #[.slice none 0 0,.nilFunc]) w:=by kernel_rfl
theorem uj.cf {w:World} {B0:Nat} {k:Int} {F:FuncId} {caps:Array Value} (h:uj w B0 k F caps) (args:Array Value) (X:World):Sem.run Tryz.prog (callFunc F args) X=.ok (.enter F args) X:=by
 rcases h with⟨-,rfl,-⟩|⟨-,rfl,-⟩|⟨-,rfl,-⟩|⟨-,rfl,-⟩|⟨rfl,-⟩ <;> kernel_rfl
theorem uj.base {w:World} {B0 B1:Nat} {k:Int} {F:FuncId} {caps:Array Value} (h:uj w B0 k F caps) (hB:B1<=B0):uj w B1 k F caps:=by
 rcases h with h|h|h|h|⟨h1,c,st,h2,h3,h4,h5⟩
 ·exact .inl h
 ·exact .inr (.inl h)
 ·exact .inr (.inr (.inl h))
 ·exact .inr (.inr (.inr (.inl h)))
 ·exact .inr (.inr (.inr (.inr ⟨h1,c,st,h2,h3,h4,by omega⟩)))
theorem uj.set {w:World} {B0 b j:Nat} {u:Value} {k:Int} {F:FuncId} {caps:Array Value} (h:uj w B0 k F caps) (hb:b < B0):uj (w.setCell ⟨b,j,none⟩ u) B0 k F caps:=by
 rcases h with h|h|h|h|⟨h1,c,st,h2,h3,h4,h5⟩
 ·exact .inl h
 ·exact .inr (.inl h)
 ·exact .inr (.inr (.inl h))
 ·exact .inr (.inr (.inr (.inl h)))
 ·exact .inr (.inr (.inr (.inr ⟨h1,c,st,h2,h3,qI h4 (by omega),h5⟩)))
theorem WK {A:Au} {k:Nat} {s s':St} {x:Int} (hs:A[k]?=some s) (hth:s'.thread=s.thread) (h5:s'.stand≠5\/x≠s.thread) (h:yJ x A):yJ x (A.set k s'):=by
 obtain⟨t,ht,hx,hst⟩:=h;obtain⟨j,hj⟩:=List.mem_iff_getElem?.1 ht;by_cases e:k=j
 ·subst e
  rw[hs] at hj;obtain rfl:=Option.some.inj hj;refine⟨s',vd hs,by rw[hth,hx],?_⟩;rcases h5 with h5|h5
  ·exact h5
  ·exact absurd hx.symm h5
 ·exact ⟨t,List.mem_iff_getElem?.2 ⟨j,by rw[List.getElem?_set_ne e];exact hj⟩,hx,hst⟩
theorem ZD (k:Int):(qK k).length<=4:=by
 unfold qK
 repeat' split
 all_goals decide
theorem Xy {w:World} {g:Nat} {k:Int} (h:w.heap[g]?=some (.cells ((qK k).map (.int .i64)).toArray 3 (0,0))):Sl w w.heap.size 1 (.slice (some ⟨g,0,none⟩) (qK k).length (qK k).length) (qK k).length ((qK k).map (.int .i64)):=
 ⟨_,_,rfl,by have:=ZD k;omega,by simp,fun _=>⟨g,0,rfl,qe h,fun j u hu=>by rw[Nat.zero_add,qa h];simpa using hu⟩⟩
theorem jW {A:Au} {k:Nat} {s s':St} {x:Int} (hs:A[k]?=some s) (hth:s'.thread=s.thread) (h5:s.stand≠5) (h5':s'.stand≠5):yJ x A↔yJ x (A.set k s'):=by
 refine⟨WK hs hth (.inl h5'),?_⟩;rintro⟨t,ht,hx,hst⟩;obtain⟨j,hj⟩:=List.mem_iff_getElem?.1 ht;rcases yQ hj with⟨rfl,rfl⟩|⟨hne,hj⟩
 ·exact ⟨s,List.mem_of_getElem? hs,by rw[←hth,hx],h5⟩
 ·exact ⟨t,List.mem_of_getElem? hj,hx,hst⟩
def Nc (A:Au):Prop:=∀(j k:Nat) (s t:St),A[j]?=some s->A[k]?=some t->s.thread=t.thread->s.stand≠5->t.stand≠5->j=k
theorem XF {A:Au} {k:Nat} {s s':St} {x:Int} (hU:Nc A) (hs:A[k]?=some s) (h5:s.stand≠5) (hth:s'.thread=s.thread) (h5':s'.stand=5):yJ x (A.set k s')↔yJ x A/\x≠s.thread:=by
 constructor
 ·rintro ⟨t,ht,hx,hst⟩
  obtain⟨j,hj⟩:=List.mem_iff_getElem?.1 ht;rcases yQ hj with⟨rfl,rfl⟩|⟨hne,hj⟩
  ·exact absurd h5' hst
  ·refine ⟨⟨t,List.mem_of_getElem? hj,hx,hst⟩,fun e=>hne ?_⟩
   exact hU k j s t hs hj (by rw[hx,e]) h5 hst
 ·rintro ⟨h,hne⟩
  exact WK hs hth (.inr hne) h
theorem Np (v:Value) (l:List Int) (x:Int) (w:World) (h:Sl w w.heap.size 1 v l.length (l.map (.int .i64))) (hl:l.length<=100) (hn:x ∉ l):
  Calls Tryz.prog 177 #[v,.int .i64 x] w fun e w'=>e=.returned (.int .i64 (-1))/\w'=w:=by
 obtain⟨a,c,rfl,hm⟩:=h.ex;have H:=qd h;have HN:=qd hn;clear h hn;go_enter Tryz.func177,Tryz.ntmps177;go_wp2_with fail;obtain⟨W,rfl⟩:∃W,W=w:=⟨_,rfl⟩
 go_loopw [8] (fun p wr=>∃i:Nat,i<=l.length/\p=.int .i64 i/\wr=W) (fun p _=>l.length - (intOf p).toNat)
 case atStart=>exact⟨0,by omega,by go_num,rfl⟩
 case round=>
  obtain⟨i,hi,rfl,rfl⟩:=hrel;by_cases hil:i < l.length
  ·obtain ⟨b,off,u,hat,hb,hx,hc⟩:=H.o.at1 hil
   subst hat;have hx2:∃y,l[i]?=some y/\u=.int .i64 y:=by
    rw[List.getElem?_map] at hx;cases hy:l[i]? with
    |none=>rw[hy] at hx;cases hx
    |some y=>rw[hy] at hx;exact⟨y,rfl,by simpa using hx.symm⟩
   obtain⟨y,hy,rfl⟩:=hx2;clear hx;have e1:(x==y)=false:=by
    have:x≠y:=fun e=>HN.o (by rw[e];exact List.mem_of_getElem? hy);simpa using this
   clear hy;go_wp2_with fail;go_roundw
   case rel=>exact⟨i+1,by omega,by go_num,trivial⟩
   case measure=>simp[intOf];omega
  ·obtain rfl:i=l.length:=by omega
   go_wp2;go_ret;exact⟨rfl,rfl⟩
theorem Xe (v:Value) (l:List Int) (x:Int) (w:World) (h:Sl w w.heap.size 1 v l.length (l.map (.int .i64))) (hl:l.length<=100) (hn:x ∉ l):
  Calls Tryz.prog 129 #[v,.int .i64 x] w fun e w'=>e=.returned (.bool false)/\w'=w:=by
 have hi:=qd (Np _ l x w h hl hn);obtain⟨a,c,rfl,hm⟩:=h.ex;clear h hn;go_enter Tryz.func129,Tryz.ntmps129;go_wp2_with fail;refine hi.o.mono ?_;rintro e w1 ⟨rfl,rfl⟩;go_wp2;go_ret;exact⟨rfl,rfl⟩
