/- Parts of the proof; the first: The walk through a program, in memory: a thread's state written; ends. Conditions: those of each theorem, as typed. -/
import Derived.Test.YtkfhgifhfkcehaaGreatDoorQC02
set_option linter.unusedVariables false
set_option linter.unusedSimpArgs false
set_option linter.unusedSectionVars false
set_option maxRecDepth 100000
set_option maxHeartbeats 4000000
namespace Go.Proofs.YtkfhgifhfkcehaaGreatDoor
open Go.RowKit
section
attribute [local irreducible] xL
theorem xR {w:World} {B sz n g cap:Nat} {e:TypeId} {xs:List Value} (h:w.ownsRow B e sz (.slice (some ⟨g,0,none⟩) n cap) n xs) (j:Nat) (u:Value):
  (w.setCell ⟨g,j,none⟩ u).ownsRow B e sz (.slice (some ⟨g,0,none⟩) n cap) n (xs.set j u):=by
 obtain⟨h1,h2⟩:=h;refine⟨by simpa using h1,?_⟩;rcases h2 with⟨h2,-⟩|⟨g',cap',cur,hv,hg,hh,hnc,hcm,hs,ht⟩
 ·cases h2
 ·simp only[Value.slice.injEq,Option.some.injEq,Addr.mk.injEq,and_true,true_and] at hv
  obtain⟨rfl,rfl⟩:=hv;refine .inr ⟨g,cap,cur.setIfInBounds j u,rfl,hg,qB hh j u,hnc,hcm,by simpa using hs,?_⟩;rw[←ht,Array.toList_setIfInBounds,List.take_set]
def Th.put (t:Th):Nat->Th->Th
 |0,u=>{t with tx:=u.tx}
 |1,u=>{t with act:=u.act}
 |2,u=>{t with begun:=u.begun}
 |3,u=>{t with adding:=u.adding}
 |4,u=>{t with read:=u.read}
 |_,u=>{t with waits:=u.waits}
theorem th_set:∀(l:List Th) (i j:Nat) (t u:Th),l[i]?=some t->j < 6->∀v,u.cells[j]?=some v->(l.flatMap Th.cells).set (i*6+j) v=(l.set i (t.put j u)).flatMap Th.cells
 |[],i,j,t,u,h,_,_,_=>by simp at h
 |x::l,0,j,t,u,h,hj,v,hv=>by
  simp only[List.getElem?_cons_zero,Option.some.injEq] at h;subst h
  match j,hj with
  |0,_=>simp[Th.cells] at hv;subst hv;simp[Th.put,Th.cells]
  |1,_=>simp[Th.cells] at hv;subst hv;simp[Th.put,Th.cells]
  |2,_=>simp[Th.cells] at hv;subst hv;simp[Th.put,Th.cells]
  |3,_=>simp[Th.cells] at hv;subst hv;simp[Th.put,Th.cells]
  |4,_=>simp[Th.cells] at hv;subst hv;simp[Th.put,Th.cells]
  |5,_=>simp[Th.cells] at hv;subst hv;simp[Th.put,Th.cells]
 |x::l,i+1,j,t,u,h,hj,v,hv=>by
  have ih:=th_set l i j t u (by simpa using h) hj v hv;rw[show (i+1)*6+j=i*6+j+6 by omega];simp only[List.flatMap_cons,List.set_cons_succ,Th.cells,List.cons_append,List.nil_append];rw[ih]
section
variable {w:World} {B gT n c:Nat} {l:List Th}
theorem xE (h:qq Th.cells 283 6 w B (.slice (some ⟨gT,0,none⟩) n c) l) {i j:Nat} {t u:Th} (ht:l[i]?=some t) (hj:j < 6) {v:Value} (hv:u.cells[j]?=some v):
  qq Th.cells 283 6 (w.setCell ⟨gT,i*6+j,none⟩ v) B (.slice (some ⟨gT,0,none⟩) n c) (l.set i (t.put j u)):=by
 have hn:=h.len;subst hn;have:=xR h (i*6+j) v;rw[th_set l i j t u ht hj v hv] at this;unfold qq;rw[List.length_set];exact this
theorem ths_all (h:qq Th.cells 283 6 w B (.slice (some ⟨gT,0,none⟩) n c) l) {i:Nat} {t:Th} (ht:l[i]?=some t) (u:Th):
  qq Th.cells 283 6 ((((((w.setCell ⟨gT,i*6,none⟩ (.int .i64 u.tx)).setCell ⟨gT,i*6+1,none⟩ (.int .i64 u.act)).setCell ⟨gT,i*6+2,none⟩ (.bool u.begun)).setCell ⟨gT,i*6+3,none⟩ (.bool u.adding)).setCell ⟨gT,i*6+4,none⟩ (.int .i64 u.read)).setCell ⟨gT,i*6+5,none⟩ (.int .i64 u.waits)) B (.slice (some ⟨gT,0,none⟩) n c) (l.set i u):=by
 have hi:=(List.getElem?_eq_some_iff.1 ht).1;have g:∀(l:List Th) (x:Th),i < l.length->(l.set i x)[i]?=some x:=fun l x h=>List.getElem?_set_self h;have h0:=xE (j:=0) h (u:=u) ht (by decide) (by rfl);have h1:=xE (j:=1) h0 (u:=u) (g _ _ hi) (by decide) (by rfl);have h2:=xE (j:=2) h1 (u:=u) (g _ _ (by simpa using hi)) (by decide) (by rfl);have h3:=xE (j:=3) h2 (u:=u) (g _ _ (by simpa using hi)) (by decide) (by rfl);have h4:=xE (j:=4) h3 (u:=u) (g _ _ (by simpa using hi)) (by decide) (by rfl);have h5:=xE (j:=5) h4 (u:=u) (g _ _ (by simpa using hi)) (by decide) (by rfl);simp only[List.set_set] at h5;exact h5
end
theorem ThOk.zero {P:Pg} {i k:Nat} (hk:k<=(P.txs i).length):ThOk P i {Th.zero with tx:=k}:=⟨hk,Nat.zero_le _,.inl rfl,by simp[Th.zero]⟩
theorem qW.ths_put {w w':World} {B bW gT:Nat} {vc vt ve:Value} {P:Pg} {S:yk} (h:qW w B bW gT vc vt ve P S) {i:Nat} (hi:i < P.threads.length) {u:Th} (hu:ThOk P i u) (hk:Kp Mw ve w w') (hr:w'.heap[bW]?=w.heap[bW]?)
  (ht:qq Th.cells 283 6 w' B (.slice (some ⟨gT,0,none⟩) P.threads.length P.threads.length) (S.ths.set i u)) (he:qq Ev.cells 53 8 w' B ve S.evs):qW w' B bW gT vc vt ve P ⟨S.ths.set i u,S.evs⟩:=by
 refine h.turn hk (hr.trans h.row) ht he fun j x hj=>?_;by_cases e:i=j
 ·subst e
  rw[List.getElem?_set_self (by rw[h.ths.len];exact hi)] at hj;rw[←Option.some.inj hj];exact hu
 ·rw [List.getElem?_set_ne e] at hj
  exact h.tok j x hj
theorem Kp.wrT {M:TypeId->Prop} {ev:Value} {w w':World} {g:Nat} {cs cs':Array Value} {t:TypeId} {fz:Nat×Nat} (hg:w.heap[g]?=some (.cells cs t fz)) (ht:M t) (hw:Wr g cs' t w w'):Kp M ev w w':=
 ⟨hw.below (Nat.zero_le _),fun k c ty f hk hm _=>(hw.other k (by
  rintro rfl;rw[hg] at hk;simp only[Option.some.injEq,Obj.cells.injEq] at hk;exact hm (hk.2.1▸ht))).trans hk,fun k es c hk=>(hw.other k (by
  rintro rfl;rw[hg] at hk;cases hk)).trans hk⟩
section
variable {w:World} {B bW gT:Nat} {vc vt ve:Value} {P:Pg} {S:yk}
theorem wk_ends (h:qW w B bW gT vc vt ve P S) (hBw:B<=w.heap.size) (i:Nat) (hi:i < P.threads.length) {t:Th} (ht:S.ths[i]?=some t) (hd:qR P i t=false) (k:Int) (hl:S.evs.length<=100000):
  Calls Tryz.prog 197 #[.pointer (some ⟨bW,0,none⟩),.int .i64 i,.int .i64 k] w fun x w'=>
  x=.returned (.tuple #[yv (qE (xG k) (qG i t.tx)),.bool true])/\∃ve',qW w' B bW gT vc vt ve' P ⟨S.ths.set i {Th.zero with tx:=t.tx+1},S.evs++[qE (xG k) (qG i t.tx)]⟩/\Kp Mw ve w w'/\Below B w w'/\∀k,ve'.ownBlock=some k->ve.ownBlock=some k\/w.heap.size<=k:=by
 obtain⟨t',ht',htk,hgl,-⟩:=h.at hi;rw[ht] at ht';obtain rfl:=Option.some.inj ht';have htx:=zb h.ok hi htk hd;have ht3:=Pg.tx3 h.ok hi;have hm:P.threads.length<=4:=h.ok.threads.2;have H:=qj h;have HT:=qj ht;have hB':=qj hBw;clear h ht ht';have ba:Below w.heap.size w (w.alloc (.cells #[.int .i64 0,.int .i64 0,.int .i64 0,.int .i64 0,.int .i64 0,.int .i64 0,.int .i64 0,.int .i64 0] 53)):=(Below.refl _ _).alloc (Nat.le_refl _) _;have RZ:=qj (qy w (.cells #[.int .i64 0,.int .i64 0,.int .i64 0,.int .i64 0,.int .i64 0,.int .i64 0,.int .i64 0,.int .i64 0] 53));go_enter Tryz.func197,Tryz.ntmps197;go_wp2_with fail;obtain⟨W,hW⟩:∃W,W=w.alloc (.cells #[.int .i64 0,.int .i64 0,.int .i64 0,.int .i64 0,.int .i64 0,.int .i64 0,.int .i64 0,.int .i64 0] 53):=⟨_,rfl⟩
 have zW:W.heap.size=w.heap.size+1:=by rw[hW];simp
 rw[←hW] at ba RZ ⊢;have BA:=qj ba;have HW:=qj (H.o.below ba);clear ba hW;refine(xP HW.o (by omega) i hi HT.o (by omega) (xG k) hl).mono ?_;rintro x w1 ⟨rfl,ve1,h1,kp1,b1,ow1⟩;have rq:w1.heap[w.heap.size]?=some (.cells #[.int .i64 0,.int .i64 0,.int .i64 0,.int .i64 0,.int .i64 0,.int .i64 0,.int .i64 0,.int .i64 0] 53 (0,0)):=by
  refine kp1.cells _ _ _ _ RZ.o (fun hM=>?_) fun _ e=>?_
  ·rcases hM with h|h <;> exact absurd h (by decide)
  ·have:=(H.o.evs.lt _ e).2;omega
 have RQ:=qj rq;have H1:=qj h1;have KP1:=qj kp1;have B1:=qj b1;have OW1:=qj ow1;have z1:w.heap.size+1<=w1.heap.size:=by have:=kp1.size;omega
 generalize hE:qE (xG k) (qG i t.tx)=E at *;obtain⟨k1,k2,k3,k4,k5,k6,k7,k8⟩:=E;clear h1 kp1 b1 ow1 rq;go_wp2_with fail;have bX:Below w1.heap.size w1 (w1.alloc (.cells #[.int .i64 k1,.int .i64 k2,.int .i64 k3,.int .i64 k4,.int .i64 k5,.int .i64 k6,.int .i64 k7,.int .i64 k8] 53)):=(Below.refl _ _).alloc (Nat.le_refl _) _;have RX:=qy w1 (.cells #[.int .i64 k1,.int .i64 k2,.int .i64 k3,.int .i64 k4,.int .i64 k5,.int .i64 k6,.int .i64 k7,.int .i64 k8] 53);obtain⟨X,hX⟩:∃X,X=w1.alloc (.cells #[.int .i64 k1,.int .i64 k2,.int .i64 k3,.int .i64 k4,.int .i64 k5,.int .i64 k6,.int .i64 k7,.int .i64 k8] 53):=⟨_,rfl⟩
 have zX:X.heap.size=w1.heap.size+1:=by rw[hX];simp
 rw[←hX] at bX RX ⊢;have zX':w1.heap.size+1<=X.heap.size:=Nat.le_of_eq zX.symm;have BX:=qj bX;have RX:=qj RX;have HX:=qj (H1.o.below bX);have RQX:=qj (qp RQ.o bX (by omega));have rX:=qg HX.o.row;have d2:X.cell? ⟨bW,2,none⟩=some (.slice (some ⟨gT,0,none⟩) P.threads.length P.threads.length):=rX 2;obtain⟨csT,rT⟩:=qq.keepObj HX.o.ths gT rfl;have zT:=qh rT;have fT:∀j,X.frozen? ⟨gT,j,none⟩=false:=fun j=>qx rT j;obtain⟨t2,ht2,-,-,hc⟩:=HX.o.at hi;rw[HT.o] at ht2;obtain rfl:=Option.some.inj ht2;have c0:X.cell? ⟨gT,i*6,none⟩=some (.int .i64 t.tx):=hc 0 (by decide);have c1:X.cell? ⟨gT,i*6+1,none⟩=some (.int .i64 t.act):=hc 1 (by decide);have c2:X.cell? ⟨gT,i*6+2,none⟩=some (.bool t.begun):=hc 2 (by decide);have c3:X.cell? ⟨gT,i*6+3,none⟩=some (.bool t.adding):=hc 3 (by decide);have c4:X.cell? ⟨gT,i*6+4,none⟩=some (.int .i64 t.read):=hc 4 (by decide);have c5:X.cell? ⟨gT,i*6+5,none⟩=some (.int .i64 t.waits):=hc 5 (by decide);have RT:=qj rT;clear bX hX rX rT hc HW RZ zX htk;refine qH [0,0,0,1,0,0,0,0,1,0,0,0,1,0,0,0,2] [0,1,2,3,4,5,6,7,8,9,10,11,12,13,14,15,16] (by kernel_rfl) ?_;simp only[qP,qD,sD,sE,sF,sG]
 repeat first|(refine qC fun K hK=>?_;go_simp;refine hK _ _ ?_;clear hK K)|(apply qJ;(intro w2 hw2;have hk1:=hw2.cell;have hk3:=hw2.heap;clear hw2;go_simp;with_reducible rfl);simp only[Act.put,sA,sB,sC])
 refine qN (fun K hK=>?_);clear d2;go_simp;refine hK _ _ ?_;clear hK K
 repeat refine qA ?_
 have hwr:IntKind.i64.wrap ((t.tx:Int)+1)=(t.tx:Int)+1:=IntWalk.i64_in _ (by omega);rw[hwr];have WR5:=((((((Wr.start RT.o).set (i*6) (.int .i64 ((t.tx:Int)+1))).set (i*6+1) (.int .i64 0)).set (i*6+2) (.bool false)).set (i*6+3) (.bool false)).set (i*6+4) (.int .i64 0)).set (i*6+5) (.int .i64 0);have T5:qq Th.cells 283 6 (((((((X).setCell ⟨gT,i*6,none⟩ (.int .i64 ((t.tx:Int)+1))).setCell ⟨gT,i*6+1,none⟩ (.int .i64 0)).setCell ⟨gT,i*6+2,none⟩ (.bool false)).setCell ⟨gT,i*6+3,none⟩ (.bool false)).setCell ⟨gT,i*6+4,none⟩ (.int .i64 0)).setCell ⟨gT,i*6+5,none⟩ (.int .i64 0)) B (.slice (some ⟨gT,0,none⟩) P.threads.length P.threads.length) (S.ths.set i {Th.zero with tx:=t.tx+1}):=ths_all (w:=X) HX.o.ths HT.o {Th.zero with tx:=t.tx+1};generalize hW5:((((((X).setCell ⟨gT,i*6,none⟩ (.int .i64 ((t.tx:Int)+1))).setCell ⟨gT,i*6+1,none⟩ (.int .i64 0)).setCell ⟨gT,i*6+2,none⟩ (.bool false)).setCell ⟨gT,i*6+3,none⟩ (.bool false)).setCell ⟨gT,i*6+4,none⟩ (.int .i64 0)).setCell ⟨gT,i*6+5,none⟩ (.int .i64 0)=W5 at *;clear hW5 hwr;have RQ5:=(WR5.other w.heap.size (by omega)).trans RQX.o;have RX5:=(WR5.other w1.heap.size (by omega)).trans RX.o;have bD:Below W5.heap.size W5 W5.drew:=(Below.refl _ _).drew;have RQ5:W5.drew.heap[w.heap.size]?=_:=RQ5;have RX5:W5.drew.heap[w1.heap.size]?=_:=RX5;have BD:=qj bD;have zD:W5.drew.heap.size=W5.heap.size:=rfl;obtain⟨W8,hW8⟩:∃W8,W8=W5.drew:=⟨_,rfl⟩
 rw[←hW8] at RQ5 RX5 BD zD ⊢;clear bD hW8;have RQ5':=qj RQ5;have WR5:=qj WR5;have T5:=qj T5;have e0:=qg RX5;have q0:W8.cell? ⟨w1.heap.size,0,none⟩=some (.int .i64 k1):=e0 0;have q1:W8.cell? ⟨w1.heap.size,1,none⟩=some (.int .i64 k2):=e0 1;have q2:W8.cell? ⟨w1.heap.size,2,none⟩=some (.int .i64 k3):=e0 2;have q3:W8.cell? ⟨w1.heap.size,3,none⟩=some (.int .i64 k4):=e0 3;have q4:W8.cell? ⟨w1.heap.size,4,none⟩=some (.int .i64 k5):=e0 4;have q5:W8.cell? ⟨w1.heap.size,5,none⟩=some (.int .i64 k6):=e0 5;have q6:W8.cell? ⟨w1.heap.size,6,none⟩=some (.int .i64 k7):=e0 6;have q7:W8.cell? ⟨w1.heap.size,7,none⟩=some (.int .i64 k8):=e0 7;have zf:∀j,W8.frozen? ⟨w.heap.size,j,none⟩=false:=fun j=>qx RQ5 j;have zc:=qg RQ5;have y0:W8.cell? ⟨w.heap.size,0,none⟩=some (.int .i64 0):=zc 0;have y1:W8.cell? ⟨w.heap.size,1,none⟩=some (.int .i64 0):=zc 1;have y2:W8.cell? ⟨w.heap.size,2,none⟩=some (.int .i64 0):=zc 2;have y3:W8.cell? ⟨w.heap.size,3,none⟩=some (.int .i64 0):=zc 3;have y4:W8.cell? ⟨w.heap.size,4,none⟩=some (.int .i64 0):=zc 4;have y5:W8.cell? ⟨w.heap.size,5,none⟩=some (.int .i64 0):=zc 5;have y6:W8.cell? ⟨w.heap.size,6,none⟩=some (.int .i64 0):=zc 6;have y7:W8.cell? ⟨w.heap.size,7,none⟩=some (.int .i64 0):=zc 7;have z5:w1.heap.size+1<=W8.heap.size:=by have:=WR5.o.size;omega
 clear e0 zc RX5 RQ5 c0 c1 c2 c3 c4 c5 fT zD;go_wp2;have RQ5:=RQ5'.o;have WR6:=((((((((Wr.start RQ5).set 0 (.int .i64 k1)).set 1 (.int .i64 k2)).set 2 (.int .i64 k3)).set 3 (.int .i64 k4)).set 4 (.int .i64 k5)).set 5 (.int .i64 k6)).set 6 (.int .i64 k7)).set 7 (.int .i64 k8);generalize ((((((((W8).setCell ⟨w.heap.size,0,none⟩ (.int .i64 k1)).setCell ⟨w.heap.size,1,none⟩ (.int .i64 k2)).setCell ⟨w.heap.size,2,none⟩ (.int .i64 k3)).setCell ⟨w.heap.size,3,none⟩ (.int .i64 k4)).setCell ⟨w.heap.size,4,none⟩ (.int .i64 k5)).setCell ⟨w.heap.size,5,none⟩ (.int .i64 k6)).setCell ⟨w.heap.size,6,none⟩ (.int .i64 k7)).setCell ⟨w.heap.size,7,none⟩ (.int .i64 k8)=W6 at *;have KT:Kp Mw ve w W6:=Kp.wr (((((Kp.of_below BA.o).trans KP1.o fun _ h=>.inl h).trans (Kp.of_below BX.o) fun _ h=>.inl h).trans (Kp.wrT (ev:=ve) RT.o (.inr rfl) WR5.o) fun _ h=>.inl h).trans (Kp.of_below BD.o) fun _ h=>.inl h) WR6 (Nat.le_refl _);have cc:=qg WR6.row;have cc0:=cc 0;have cc1:=cc 1;have cc2:=cc 2;have cc3:=cc 3;have cc4:=cc 4;have cc5:=cc 5;have cc6:=cc 6;have cc7:=cc 7;simp at cc0 cc1 cc2 cc3 cc4 cc5 cc6 cc7;refine bodyPost_ret (v:=.tuple #[yv ⟨k1,k2,k3,k4,k5,k6,k7,k8⟩,.bool true]) (by simp[results,Tryz.results197,go_sem,cc0,cc1,cc2,cc3,cc4,cc5,cc6,cc7]) rfl ⟨by first|rfl|rw[hE],ve1,?_,?_,?_,?_⟩
 ·have hbw:=qh H.o.row
  have neR:bW≠gT:=by
   rintro rfl;have h1:=HX.o.row;rw[RT.o] at h1;simp only[Option.some.injEq,Obj.cells.injEq] at h1;exact absurd h1.2.1 (by decide)
  refine H.o.turn KT ((WR6.other bW (by omega)).trans ((qp (HX.o.row |> (WR5.o.other bW neR).trans) BD.o (by have:=WR5.o.size;have:=qh HX.o.row;omega)))) (qq.wr (qq.below T5.o BD.o) WR6 fun e=>?_) ?_ fun j x hj=>?_
  ·simp only[Value.ownBlock,Option.some.injEq] at e
   omega
  ·try rw[hE]
   refine qq.wr (qq.below (qq.wr HX.o.evs WR5.o (qq.neT HX.o.evs RT.o (by decide))) BD.o) WR6 fun e=>?_;rcases OW1.o _ e with h|h
   ·have:=(H.o.evs.lt _ h).2;omega
   ·omega
  ·by_cases e:i=j
   ·subst e
    rw[List.getElem?_set_self (by rw[H.o.ths.len];exact hi)] at hj;rw[←Option.some.inj hj];exact ThOk.zero htx
   ·rw [List.getElem?_set_ne e] at hj
    exact H.o.tok j x hj
 ·exact KT
 ·refine ((((BA.o.mono hB'.o).trans B1.o).trans (BX.o.mono (by have:=B1.o.size;omega))).trans ((WR5.o.below ?_).trans (BD.o.mono ?_))).trans (WR6.below hB'.o)
  ·exact (H.o.ths.lt gT rfl).1
  ·have:=B1.o.size
   have:=WR5.o.size;have:=hB'.o;omega
 ·intro j hj
  rcases OW1.o j hj with h|h
  ·exact .inl h
  ·exact .inr (by omega)
end
end
section
attribute [local irreducible] xL
section
variable {w:World} {B bW gT:Nat} {vc vt ve:Value} {P:Pg} {S:yk}
theorem qW.wrR {w1 w2:World} {ve1:Value} {S':yk} {g:Nat} {cs:Array Value} (h:qW w B bW gT vc vt ve P S) (h1:qW w1 B bW gT vc vt ve1 P S') (hk:Kp Mw ve w w1) (ho:∀k,ve1.ownBlock=some k->ve.ownBlock=some k\/w.heap.size < k) (hg:g=w.heap.size) (hw:Wr g cs 53 w1 w2):qW w2 B bW gT vc vt ve1 P S'/\Kp Mw ve w w2:=by
 subst hg;have KT:Kp Mw ve w w2:=Kp.wr hk hw (Nat.le_refl _);have hb:=qh h.row;have hgT:=(h.ths.lt gT rfl).2;refine⟨h.turn KT ((hw.other bW (by omega)).trans h1.row) (qq.wr h1.ths hw fun e=>?_) (qq.wr h1.evs hw fun e=>?_) h1.tok,KT⟩
 ·simp only[Value.ownBlock,Option.some.injEq] at e
  omega
 ·rcases ho _ e with h3|h3
  ·have:=(h.evs.lt _ h3).2;omega
  ·omega
theorem wk_answer_abort (h:qW w B bW gT vc vt ve P S) (hBw:B<=w.heap.size) (i:Nat) (hi:i < P.threads.length) {t:Th} (ht:S.ths[i]?=some t) (hd:qR P i t=false) (hw:t.waits≠0) (val:Int) (hl:S.evs.length<=100000):
  Calls Tryz.prog 145 #[.pointer (some ⟨bW,0,none⟩),.int .i64 i,.int .i64 val,.bool true] w fun x w'=>
  x=.returned (.tuple #[yv (qE (xG 6) (qG i t.tx)),.bool true])/\∃ve',qW w' B bW gT vc vt ve' P ⟨S.ths.set i {Th.zero with tx:=t.tx+1},S.evs++[qE (xG 6) (qG i t.tx)]⟩/\Kp Mw ve w w'/\Below B w w'/\∀k,ve'.ownBlock=some k->ve.ownBlock=some k\/w.heap.size<=k:=by
 have H:=qj h;have HT:=qj ht;have hB':=qj hBw;have hgT:=(h.ths.lt gT rfl).2;clear h ht;have ba:Below w.heap.size w (w.alloc (.cells #[.int .i64 0,.int .i64 0,.int .i64 0,.int .i64 0,.int .i64 0,.int .i64 0,.int .i64 0,.int .i64 0] 53)):=(Below.refl _ _).alloc (Nat.le_refl _) _;have RZ:=qj (qy w (.cells #[.int .i64 0,.int .i64 0,.int .i64 0,.int .i64 0,.int .i64 0,.int .i64 0,.int .i64 0,.int .i64 0] 53));go_enter Tryz.func145,Tryz.ntmps145;go_wp2_with fail;obtain⟨W0,hW⟩:∃W,W=w.alloc (.cells #[.int .i64 0,.int .i64 0,.int .i64 0,.int .i64 0,.int .i64 0,.int .i64 0,.int .i64 0,.int .i64 0] 53):=⟨_,rfl⟩
 have zW0:W0.heap.size=w.heap.size+1:=by rw[hW];simp
 rw[←hW] at ba RZ ⊢;have BA0:=qj ba;have HW0:=qj (H.o.below ba);clear ba hW;refine(xD HW0.o i hi HT.o).mono ?_;rintro x w1 ⟨rfl,rfl⟩;rw[hd];have bd:Below W0.heap.size W0 W0.drew:=(Below.refl _ _).drew;have RZ:W0.drew.heap[w.heap.size]?=_:=RZ.o;have zW:W0.drew.heap.size=w.heap.size+1:=zW0;obtain⟨W,hW⟩:∃W,W=W0.drew:=⟨_,rfl⟩
 rw[←hW] at bd RZ zW ⊢;have BA:=qj (BA0.o.trans (bd.mono (by omega)));have HW:=qj (HW0.o.below bd);have RZ:=qj RZ;clear bd hW HW0 BA0 zW0;obtain⟨t2,ht2,-,-,hc⟩:=HW.o.at hi;rw[HT.o] at ht2;obtain rfl:=Option.some.inj ht2;have c5:W.cell? ⟨gT,i*6+5,none⟩=some (.int .i64 t.waits):=hc 5 (by decide);have hw0:(t.waits==0)=false:=by simpa using hw
 clear hc ht2;go_wp2_with fail;refine(wk_ends HW.o (by omega) i hi HT.o hd 6 hl).mono ?_;rintro x w1 ⟨rfl,ve1,h1,kp1,b1,ow1⟩;have RQ:Hid (w1.heap[w.heap.size]?=some (.cells #[.int .i64 0,.int .i64 0,.int .i64 0,.int .i64 0,.int .i64 0,.int .i64 0,.int .i64 0,.int .i64 0] 53 (0,0))):=qj (by
  refine kp1.cells _ _ _ _ RZ.o (fun hM=>?_) fun _ e=>?_
  ·rcases hM with h|h <;> exact absurd h (by decide)
  ·have:=(H.o.evs.lt _ e).2;omega)
 have H1:=qj h1;have KP1:=qj kp1;have B1:=qj b1;have OW1:=qj ow1;have z1:w.heap.size+1<=w1.heap.size:=by have:=kp1.size;omega
 generalize hE:qE (xG 6) (qG i t.tx)=E at *;obtain⟨k1,k2,k3,k4,k5,k6,k7,k8⟩:=E;have zf:∀j,w1.frozen? ⟨w.heap.size,j,none⟩=false:=fun j=>qx RQ.o j;have zc:=qg RQ.o;have y0:w1.cell? ⟨w.heap.size,0,none⟩=some (.int .i64 0):=zc 0;have y1:w1.cell? ⟨w.heap.size,1,none⟩=some (.int .i64 0):=zc 1;have y2:w1.cell? ⟨w.heap.size,2,none⟩=some (.int .i64 0):=zc 2;have y3:w1.cell? ⟨w.heap.size,3,none⟩=some (.int .i64 0):=zc 3;have y4:w1.cell? ⟨w.heap.size,4,none⟩=some (.int .i64 0):=zc 4;have y5:w1.cell? ⟨w.heap.size,5,none⟩=some (.int .i64 0):=zc 5;have y6:w1.cell? ⟨w.heap.size,6,none⟩=some (.int .i64 0):=zc 6;have y7:w1.cell? ⟨w.heap.size,7,none⟩=some (.int .i64 0):=zc 7;clear h1 kp1 b1 ow1 zc c5 RZ;go_wp2;have WR6:=((((((((Wr.start RQ.o).set 0 (.int .i64 k1)).set 1 (.int .i64 k2)).set 2 (.int .i64 k3)).set 3 (.int .i64 k4)).set 4 (.int .i64 k5)).set 5 (.int .i64 k6)).set 6 (.int .i64 k7)).set 7 (.int .i64 k8);generalize ((((((((w1).setCell ⟨w.heap.size,0,none⟩ (.int .i64 k1)).setCell ⟨w.heap.size,1,none⟩ (.int .i64 k2)).setCell ⟨w.heap.size,2,none⟩ (.int .i64 k3)).setCell ⟨w.heap.size,3,none⟩ (.int .i64 k4)).setCell ⟨w.heap.size,4,none⟩ (.int .i64 k5)).setCell ⟨w.heap.size,5,none⟩ (.int .i64 k6)).setCell ⟨w.heap.size,6,none⟩ (.int .i64 k7)).setCell ⟨w.heap.size,7,none⟩ (.int .i64 k8)=W6 at *;obtain⟨hf1,hf2⟩:=qW.wrR H.o H1.o ((Kp.of_below BA.o).trans KP1.o fun _ h=>.inl h) (fun k hk=>(OW1.o k hk).imp id fun h=>by omega) rfl WR6;have cc:=qg WR6.row;have cc0:=cc 0;have cc1:=cc 1;have cc2:=cc 2;have cc3:=cc 3;have cc4:=cc 4;have cc5:=cc 5;have cc6:=cc 6;have cc7:=cc 7;simp at cc0 cc1 cc2 cc3 cc4 cc5 cc6 cc7;refine bodyPost_ret (v:=.tuple #[yv ⟨k1,k2,k3,k4,k5,k6,k7,k8⟩,.bool true]) (by simp[results,Tryz.results145,go_sem,cc0,cc1,cc2,cc3,cc4,cc5,cc6,cc7]) rfl ⟨by first|rfl|rw[hE],ve1,by first|exact hf1|(rw[hE];exact hf1),hf2,?_,fun k hk=>(OW1.o k hk).imp id fun h=>by omega⟩;exact((BA.o.mono hB'.o).trans B1.o).trans (WR6.below hB'.o)
theorem wk_answer_try (h:qW w B bW gT vc vt ve P S) (hBw:B<=w.heap.size) (i:Nat) (hi:i < P.threads.length) {t:Th} (ht:S.ths[i]?=some t) (hd:qR P i t=false) (hw:t.waits=4) (val:Int) (hl:S.evs.length<=100000):
  Calls Tryz.prog 145 #[.pointer (some ⟨bW,0,none⟩),.int .i64 i,.int .i64 val,.bool false] w fun x w'=>
  x=.returned (.tuple #[yv (qE (xG 5) (qG i t.tx)),.bool true])/\∃ve',qW w' B bW gT vc vt ve' P ⟨S.ths.set i {Th.zero with tx:=t.tx+1},S.evs++[qE (xG 5) (qG i t.tx)]⟩/\Kp Mw ve w w'/\Below B w w'/\∀k,ve'.ownBlock=some k->ve.ownBlock=some k\/w.heap.size<=k:=by
 have H:=qj h;have HT:=qj ht;have hB':=qj hBw;have hgT:=(h.ths.lt gT rfl).2;clear h ht;have ba:Below w.heap.size w (w.alloc (.cells #[.int .i64 0,.int .i64 0,.int .i64 0,.int .i64 0,.int .i64 0,.int .i64 0,.int .i64 0,.int .i64 0] 53)):=(Below.refl _ _).alloc (Nat.le_refl _) _;have RZ:=qj (qy w (.cells #[.int .i64 0,.int .i64 0,.int .i64 0,.int .i64 0,.int .i64 0,.int .i64 0,.int .i64 0,.int .i64 0] 53));go_enter Tryz.func145,Tryz.ntmps145;go_wp2_with fail;obtain⟨W0,hW⟩:∃W,W=w.alloc (.cells #[.int .i64 0,.int .i64 0,.int .i64 0,.int .i64 0,.int .i64 0,.int .i64 0,.int .i64 0,.int .i64 0] 53):=⟨_,rfl⟩
 have zW0:W0.heap.size=w.heap.size+1:=by rw[hW];simp
 rw[←hW] at ba RZ ⊢;have BA0:=qj ba;have HW0:=qj (H.o.below ba);clear ba hW;refine(xD HW0.o i hi HT.o).mono ?_;rintro x w1 ⟨rfl,rfl⟩;rw[hd];have bd:Below W0.heap.size W0 W0.drew:=(Below.refl _ _).drew;have RZ:W0.drew.heap[w.heap.size]?=_:=RZ.o;have zW:W0.drew.heap.size=w.heap.size+1:=zW0;obtain⟨W,hW⟩:∃W,W=W0.drew:=⟨_,rfl⟩
 rw[←hW] at bd RZ zW ⊢;have BA:=qj (BA0.o.trans (bd.mono (by omega)));have HW:=qj (HW0.o.below bd);have RZ:=qj RZ;clear bd hW HW0 BA0 zW0;obtain⟨t2,ht2,-,-,hc⟩:=HW.o.at hi;rw[HT.o] at ht2;obtain rfl:=Option.some.inj ht2;have c5:W.cell? ⟨gT,i*6+5,none⟩=some (.int .i64 t.waits):=hc 5 (by decide);rw[hw] at c5;clear hc ht2;go_wp2_with fail;refine(wk_ends HW.o (by omega) i hi HT.o hd 5 hl).mono ?_;rintro x w1 ⟨rfl,ve1,h1,kp1,b1,ow1⟩;have RQ:Hid (w1.heap[w.heap.size]?=some (.cells #[.int .i64 0,.int .i64 0,.int .i64 0,.int .i64 0,.int .i64 0,.int .i64 0,.int .i64 0,.int .i64 0] 53 (0,0))):=qj (by
  refine kp1.cells _ _ _ _ RZ.o (fun hM=>?_) fun _ e=>?_
  ·rcases hM with h|h <;> exact absurd h (by decide)
  ·have:=(H.o.evs.lt _ e).2;omega)
 have H1:=qj h1;have KP1:=qj kp1;have B1:=qj b1;have OW1:=qj ow1;have z1:w.heap.size+1<=w1.heap.size:=by have:=kp1.size;omega
 generalize hE:qE (xG 5) (qG i t.tx)=E at *;obtain⟨k1,k2,k3,k4,k5,k6,k7,k8⟩:=E;have zf:∀j,w1.frozen? ⟨w.heap.size,j,none⟩=false:=fun j=>qx RQ.o j;have zc:=qg RQ.o;have y0:w1.cell? ⟨w.heap.size,0,none⟩=some (.int .i64 0):=zc 0;have y1:w1.cell? ⟨w.heap.size,1,none⟩=some (.int .i64 0):=zc 1;have y2:w1.cell? ⟨w.heap.size,2,none⟩=some (.int .i64 0):=zc 2;have y3:w1.cell? ⟨w.heap.size,3,none⟩=some (.int .i64 0):=zc 3;have y4:w1.cell? ⟨w.heap.size,4,none⟩=some (.int .i64 0):=zc 4;have y5:w1.cell? ⟨w.heap.size,5,none⟩=some (.int .i64 0):=zc 5;have y6:w1.cell? ⟨w.heap.size,6,none⟩=some (.int .i64 0):=zc 6;have y7:w1.cell? ⟨w.heap.size,7,none⟩=some (.int .i64 0):=zc 7;clear h1 kp1 b1 ow1 zc c5 RZ;go_wp2;have WR6:=((((((((Wr.start RQ.o).set 0 (.int .i64 k1)).set 1 (.int .i64 k2)).set 2 (.int .i64 k3)).set 3 (.int .i64 k4)).set 4 (.int .i64 k5)).set 5 (.int .i64 k6)).set 6 (.int .i64 k7)).set 7 (.int .i64 k8);generalize ((((((((w1).setCell ⟨w.heap.size,0,none⟩ (.int .i64 k1)).setCell ⟨w.heap.size,1,none⟩ (.int .i64 k2)).setCell ⟨w.heap.size,2,none⟩ (.int .i64 k3)).setCell ⟨w.heap.size,3,none⟩ (.int .i64 k4)).setCell ⟨w.heap.size,4,none⟩ (.int .i64 k5)).setCell ⟨w.heap.size,5,none⟩ (.int .i64 k6)).setCell ⟨w.heap.size,6,none⟩ (.int .i64 k7)).setCell ⟨w.heap.size,7,none⟩ (.int .i64 k8)=W6 at *;obtain⟨hf1,hf2⟩:=qW.wrR H.o H1.o ((Kp.of_below BA.o).trans KP1.o fun _ h=>.inl h) (fun k hk=>(OW1.o k hk).imp id fun h=>by omega) rfl WR6;have cc:=qg WR6.row;have cc0:=cc 0;have cc1:=cc 1;have cc2:=cc 2;have cc3:=cc 3;have cc4:=cc 4;have cc5:=cc 5;have cc6:=cc 6;have cc7:=cc 7;simp at cc0 cc1 cc2 cc3 cc4 cc5 cc6 cc7;refine bodyPost_ret (v:=.tuple #[yv ⟨k1,k2,k3,k4,k5,k6,k7,k8⟩,.bool true]) (by simp[results,Tryz.results145,go_sem,cc0,cc1,cc2,cc3,cc4,cc5,cc6,cc7]) rfl ⟨by first|rfl|rw[hE],ve1,by first|exact hf1|(rw[hE];exact hf1),hf2,?_,fun k hk=>(OW1.o k hk).imp id fun h=>by omega⟩;exact((BA.o.mono hB'.o).trans B1.o).trans (WR6.below hB'.o)
end
end
section
attribute [local irreducible] xL
section
variable {w:World} {B bW gT:Nat} {vc vt ve:Value} {P:Pg} {S:yk}
theorem wk_answer_done (h:qW w B bW gT vc vt ve P S) (i:Nat) (hi:i < P.threads.length) {t:Th} (ht:S.ths[i]?=some t) (hd:qR P i t=true) (val:Int) (abort:Bool):
  Calls Tryz.prog 145 #[.pointer (some ⟨bW,0,none⟩),.int .i64 i,.int .i64 val,.bool abort] w fun x w'=>
  x=.returned (.tuple #[yv ⟨0,0,0,0,0,0,0,0⟩,.bool false])/\Below w.heap.size w w':=by
 have H:=qj h;have HT:=qj ht;clear h ht;have ba:Below w.heap.size w (w.alloc (.cells #[.int .i64 0,.int .i64 0,.int .i64 0,.int .i64 0,.int .i64 0,.int .i64 0,.int .i64 0,.int .i64 0] 53)):=(Below.refl _ _).alloc (Nat.le_refl _) _;have RZ:=qj (qy w (.cells #[.int .i64 0,.int .i64 0,.int .i64 0,.int .i64 0,.int .i64 0,.int .i64 0,.int .i64 0,.int .i64 0] 53));go_enter Tryz.func145,Tryz.ntmps145;go_wp2_with fail;obtain⟨W0,hW⟩:∃W,W=w.alloc (.cells #[.int .i64 0,.int .i64 0,.int .i64 0,.int .i64 0,.int .i64 0,.int .i64 0,.int .i64 0,.int .i64 0] 53):=⟨_,rfl⟩
 have zW0:W0.heap.size=w.heap.size+1:=by rw[hW];simp
 rw[←hW] at ba RZ ⊢;have BA0:=qj ba;have HW0:=qj (H.o.below ba);clear ba hW;refine(xD HW0.o i hi HT.o).mono ?_;rintro x w1 ⟨rfl,rfl⟩;rw[hd];have bd:Below W0.heap.size W0 W0.drew:=(Below.refl _ _).drew;have RZ:W0.drew.heap[w.heap.size]?=_:=RZ.o;have zW:W0.drew.heap.size=w.heap.size+1:=zW0;obtain⟨W,hW⟩:∃W,W=W0.drew:=⟨_,rfl⟩
 rw[←hW] at bd RZ zW ⊢;have BA:=qj (BA0.o.trans (bd.mono (by omega)));have HW:=qj (HW0.o.below bd);clear bd hW HW0 BA0 zW0;have zf:∀j,W.frozen? ⟨w.heap.size,j,none⟩=false:=fun j=>qx RZ j;have zc:=qg RZ;have RZ:=qj RZ;have y0:W.cell? ⟨w.heap.size,0,none⟩=some (.int .i64 0):=zc 0;have y1:W.cell? ⟨w.heap.size,1,none⟩=some (.int .i64 0):=zc 1;have y2:W.cell? ⟨w.heap.size,2,none⟩=some (.int .i64 0):=zc 2;have y3:W.cell? ⟨w.heap.size,3,none⟩=some (.int .i64 0):=zc 3;have y4:W.cell? ⟨w.heap.size,4,none⟩=some (.int .i64 0):=zc 4;have y5:W.cell? ⟨w.heap.size,5,none⟩=some (.int .i64 0):=zc 5;have y6:W.cell? ⟨w.heap.size,6,none⟩=some (.int .i64 0):=zc 6;have y7:W.cell? ⟨w.heap.size,7,none⟩=some (.int .i64 0):=zc 7;clear zc;go_wp2
 all_goals have WR6:=((((((((Wr.start RZ.o).set 0 (.int .i64 0)).set 1 (.int .i64 0)).set 2 (.int .i64 0)).set 3 (.int .i64 0)).set 4 (.int .i64 0)).set 5 (.int .i64 0)).set 6 (.int .i64 0)).set 7 (.int .i64 0)
 all_goals generalize ((((((((W).setCell ⟨w.heap.size,0,none⟩ (.int .i64 0)).setCell ⟨w.heap.size,1,none⟩ (.int .i64 0)).setCell ⟨w.heap.size,2,none⟩ (.int .i64 0)).setCell ⟨w.heap.size,3,none⟩ (.int .i64 0)).setCell ⟨w.heap.size,4,none⟩ (.int .i64 0)).setCell ⟨w.heap.size,5,none⟩ (.int .i64 0)).setCell ⟨w.heap.size,6,none⟩ (.int .i64 0)).setCell ⟨w.heap.size,7,none⟩ (.int .i64 0)=W6 at *
 all_goals have cc:=qg WR6.row
 all_goals have cc0:=cc 0
 all_goals have cc1:=cc 1
 all_goals have cc2:=cc 2
 all_goals have cc3:=cc 3
 all_goals have cc4:=cc 4
 all_goals have cc5:=cc 5
 all_goals have cc6:=cc 6
 all_goals have cc7:=cc 7
 all_goals simp at cc0 cc1 cc2 cc3 cc4 cc5 cc6 cc7
 all_goals refine bodyPost_ret (v:=.tuple #[yv ⟨0,0,0,0,0,0,0,0⟩,.bool false]) (by simp[results,Tryz.results145,go_sem,cc0,cc1,cc2,cc3,cc4,cc5,cc6,cc7]) rfl ⟨rfl,BA.o.trans (WR6.below (Nat.le_refl _))⟩
theorem wk_answer_still (h:qW w B bW gT vc vt ve P S) (i:Nat) (hi:i < P.threads.length) {t:Th} (ht:S.ths[i]?=some t) (hd:qR P i t=false) (hw:t.waits=0) (val:Int) (abort:Bool):
  Calls Tryz.prog 145 #[.pointer (some ⟨bW,0,none⟩),.int .i64 i,.int .i64 val,.bool abort] w fun x w'=>
  x=.returned (.tuple #[yv ⟨0,0,0,0,0,0,0,0⟩,.bool false])/\Below w.heap.size w w':=by
 have H:=qj h;have HT:=qj ht;clear h ht;have ba:Below w.heap.size w (w.alloc (.cells #[.int .i64 0,.int .i64 0,.int .i64 0,.int .i64 0,.int .i64 0,.int .i64 0,.int .i64 0,.int .i64 0] 53)):=(Below.refl _ _).alloc (Nat.le_refl _) _;have RZ:=qj (qy w (.cells #[.int .i64 0,.int .i64 0,.int .i64 0,.int .i64 0,.int .i64 0,.int .i64 0,.int .i64 0,.int .i64 0] 53));go_enter Tryz.func145,Tryz.ntmps145;go_wp2_with fail;obtain⟨W0,hW⟩:∃W,W=w.alloc (.cells #[.int .i64 0,.int .i64 0,.int .i64 0,.int .i64 0,.int .i64 0,.int .i64 0,.int .i64 0,.int .i64 0] 53):=⟨_,rfl⟩
 have zW0:W0.heap.size=w.heap.size+1:=by rw[hW];simp
 rw[←hW] at ba RZ ⊢;have BA0:=qj ba;have HW0:=qj (H.o.below ba);clear ba hW;refine(xD HW0.o i hi HT.o).mono ?_;rintro x w1 ⟨rfl,rfl⟩;rw[hd];have bd:Below W0.heap.size W0 W0.drew:=(Below.refl _ _).drew;have RZ:W0.drew.heap[w.heap.size]?=_:=RZ.o;have zW:W0.drew.heap.size=w.heap.size+1:=zW0;obtain⟨W,hW⟩:∃W,W=W0.drew:=⟨_,rfl⟩
 rw[←hW] at bd RZ zW ⊢;have BA:=qj (BA0.o.trans (bd.mono (by omega)));have HW:=qj (HW0.o.below bd);clear bd hW HW0 BA0 zW0;have zf:∀j,W.frozen? ⟨w.heap.size,j,none⟩=false:=fun j=>qx RZ j;have zc:=qg RZ;have RZ:=qj RZ;have y0:W.cell? ⟨w.heap.size,0,none⟩=some (.int .i64 0):=zc 0;have y1:W.cell? ⟨w.heap.size,1,none⟩=some (.int .i64 0):=zc 1;have y2:W.cell? ⟨w.heap.size,2,none⟩=some (.int .i64 0):=zc 2;have y3:W.cell? ⟨w.heap.size,3,none⟩=some (.int .i64 0):=zc 3;have y4:W.cell? ⟨w.heap.size,4,none⟩=some (.int .i64 0):=zc 4;have y5:W.cell? ⟨w.heap.size,5,none⟩=some (.int .i64 0):=zc 5;have y6:W.cell? ⟨w.heap.size,6,none⟩=some (.int .i64 0):=zc 6;have y7:W.cell? ⟨w.heap.size,7,none⟩=some (.int .i64 0):=zc 7;obtain⟨t2,ht2,-,-,hc⟩:=HW.o.at hi;rw[HT.o] at ht2;obtain rfl:=Option.some.inj ht2;have c5:W.cell? ⟨gT,i*6+5,none⟩=some (.int .i64 t.waits):=hc 5 (by decide);rw[hw] at c5;clear hc ht2 zc;go_wp2
 all_goals have WR6:=((((((((Wr.start RZ.o).set 0 (.int .i64 0)).set 1 (.int .i64 0)).set 2 (.int .i64 0)).set 3 (.int .i64 0)).set 4 (.int .i64 0)).set 5 (.int .i64 0)).set 6 (.int .i64 0)).set 7 (.int .i64 0)
 all_goals generalize ((((((((W).setCell ⟨w.heap.size,0,none⟩ (.int .i64 0)).setCell ⟨w.heap.size,1,none⟩ (.int .i64 0)).setCell ⟨w.heap.size,2,none⟩ (.int .i64 0)).setCell ⟨w.heap.size,3,none⟩ (.int .i64 0)).setCell ⟨w.heap.size,4,none⟩ (.int .i64 0)).setCell ⟨w.heap.size,5,none⟩ (.int .i64 0)).setCell ⟨w.heap.size,6,none⟩ (.int .i64 0)).setCell ⟨w.heap.size,7,none⟩ (.int .i64 0)=W6 at *
 all_goals have cc:=qg WR6.row
 all_goals have cc0:=cc 0
 all_goals have cc1:=cc 1
 all_goals have cc2:=cc 2
 all_goals have cc3:=cc 3
 all_goals have cc4:=cc 4
 all_goals have cc5:=cc 5
 all_goals have cc6:=cc 6
 all_goals have cc7:=cc 7
 all_goals simp at cc0 cc1 cc2 cc3 cc4 cc5 cc6 cc7
 all_goals refine bodyPost_ret (v:=.tuple #[yv ⟨0,0,0,0,0,0,0,0⟩,.bool false]) (by simp[results,Tryz.results145,go_sem,cc0,cc1,cc2,cc3,cc4,cc5,cc6,cc7]) rfl ⟨rfl,BA.o.trans (WR6.below (Nat.le_refl _))⟩
theorem wk_answer_cancel (h:qW w B bW gT vc vt ve P S) (i:Nat) (hi:i < P.threads.length) {t:Th} (ht:S.ths[i]?=some t) (hd:qR P i t=false) (hw:t.waits=7) (val:Int):
  Calls Tryz.prog 145 #[.pointer (some ⟨bW,0,none⟩),.int .i64 i,.int .i64 val,.bool false] w fun x w'=>
  x=.returned (.tuple #[yv ⟨0,0,0,0,0,0,0,0⟩,.bool false])/\Below w.heap.size w w':=by
 have H:=qj h;have HT:=qj ht;clear h ht;have ba:Below w.heap.size w (w.alloc (.cells #[.int .i64 0,.int .i64 0,.int .i64 0,.int .i64 0,.int .i64 0,.int .i64 0,.int .i64 0,.int .i64 0] 53)):=(Below.refl _ _).alloc (Nat.le_refl _) _;have RZ:=qj (qy w (.cells #[.int .i64 0,.int .i64 0,.int .i64 0,.int .i64 0,.int .i64 0,.int .i64 0,.int .i64 0,.int .i64 0] 53));go_enter Tryz.func145,Tryz.ntmps145;go_wp2_with fail;obtain⟨W0,hW⟩:∃W,W=w.alloc (.cells #[.int .i64 0,.int .i64 0,.int .i64 0,.int .i64 0,.int .i64 0,.int .i64 0,.int .i64 0,.int .i64 0] 53):=⟨_,rfl⟩
 have zW0:W0.heap.size=w.heap.size+1:=by rw[hW];simp
 rw[←hW] at ba RZ ⊢;have BA0:=qj ba;have HW0:=qj (H.o.below ba);clear ba hW;refine(xD HW0.o i hi HT.o).mono ?_;rintro x w1 ⟨rfl,rfl⟩;rw[hd];have bd:Below W0.heap.size W0 W0.drew:=(Below.refl _ _).drew;have RZ:W0.drew.heap[w.heap.size]?=_:=RZ.o;have zW:W0.drew.heap.size=w.heap.size+1:=zW0;obtain⟨W,hW⟩:∃W,W=W0.drew:=⟨_,rfl⟩
 rw[←hW] at bd RZ zW ⊢;have BA:=qj (BA0.o.trans (bd.mono (by omega)));have HW:=qj (HW0.o.below bd);clear bd hW HW0 BA0 zW0;have zf:∀j,W.frozen? ⟨w.heap.size,j,none⟩=false:=fun j=>qx RZ j;have zc:=qg RZ;have RZ:=qj RZ;have y0:W.cell? ⟨w.heap.size,0,none⟩=some (.int .i64 0):=zc 0;have y1:W.cell? ⟨w.heap.size,1,none⟩=some (.int .i64 0):=zc 1;have y2:W.cell? ⟨w.heap.size,2,none⟩=some (.int .i64 0):=zc 2;have y3:W.cell? ⟨w.heap.size,3,none⟩=some (.int .i64 0):=zc 3;have y4:W.cell? ⟨w.heap.size,4,none⟩=some (.int .i64 0):=zc 4;have y5:W.cell? ⟨w.heap.size,5,none⟩=some (.int .i64 0):=zc 5;have y6:W.cell? ⟨w.heap.size,6,none⟩=some (.int .i64 0):=zc 6;have y7:W.cell? ⟨w.heap.size,7,none⟩=some (.int .i64 0):=zc 7;obtain⟨t2,ht2,-,-,hc⟩:=HW.o.at hi;rw[HT.o] at ht2;obtain rfl:=Option.some.inj ht2;have c5:W.cell? ⟨gT,i*6+5,none⟩=some (.int .i64 t.waits):=hc 5 (by decide);rw[hw] at c5;clear hc ht2 zc;go_wp2
 all_goals have WR6:=((((((((Wr.start RZ.o).set 0 (.int .i64 0)).set 1 (.int .i64 0)).set 2 (.int .i64 0)).set 3 (.int .i64 0)).set 4 (.int .i64 0)).set 5 (.int .i64 0)).set 6 (.int .i64 0)).set 7 (.int .i64 0)
 all_goals generalize ((((((((W).setCell ⟨w.heap.size,0,none⟩ (.int .i64 0)).setCell ⟨w.heap.size,1,none⟩ (.int .i64 0)).setCell ⟨w.heap.size,2,none⟩ (.int .i64 0)).setCell ⟨w.heap.size,3,none⟩ (.int .i64 0)).setCell ⟨w.heap.size,4,none⟩ (.int .i64 0)).setCell ⟨w.heap.size,5,none⟩ (.int .i64 0)).setCell ⟨w.heap.size,6,none⟩ (.int .i64 0)).setCell ⟨w.heap.size,7,none⟩ (.int .i64 0)=W6 at *
 all_goals have cc:=qg WR6.row
 all_goals have cc0:=cc 0
 all_goals have cc1:=cc 1
 all_goals have cc2:=cc 2
 all_goals have cc3:=cc 3
 all_goals have cc4:=cc 4
 all_goals have cc5:=cc 5
 all_goals have cc6:=cc 6
 all_goals have cc7:=cc 7
 all_goals simp at cc0 cc1 cc2 cc3 cc4 cc5 cc6 cc7
 all_goals refine bodyPost_ret (v:=.tuple #[yv ⟨0,0,0,0,0,0,0,0⟩,.bool false]) (by simp[results,Tryz.results145,go_sem,cc0,cc1,cc2,cc3,cc4,cc5,cc6,cc7]) rfl ⟨rfl,BA.o.trans (WR6.below (Nat.le_refl _))⟩
end
end
section
attribute [local irreducible] xL
theorem qq.atK {α:Type} {f:α->List Value} {e:TypeId} {sz:Nat} (hsz:∀x,(f x).length=sz) {w:World} {B n c:Nat} {a:Option Addr} {l:List α} (h:qq f e sz w B (.slice a n c) l) (hn:l.length=n) {k:Nat} (hk:k < n):∃g x,a=some ⟨g,0,none⟩/\g < w.heap.size/\l[k]?=some x/\∀j,j < sz->w.cell? ⟨g,k*sz+j,none⟩=(f x)[j]?:=by
 subst hn;have hs:Sl w w.heap.size sz (.slice a l.length c) l.length (l.flatMap f):=h.sl;obtain⟨b,off,x,hb,hlt,hx,hc⟩:=Sl.atF hsz hs rfl hk;rcases h.form with⟨-,rfl⟩|⟨g,cap',e,hB,hg⟩
 ·simp at hk
 ·simp only[Value.slice.injEq,Option.some.injEq] at e
  obtain⟨rfl,-,rfl⟩:=e;simp only[Option.some.injEq,Addr.mk.injEq,and_true] at hb;obtain⟨rfl,rfl⟩:=hb;exact⟨g,x,rfl,hg,hx,fun j hj=>by have:=hc j hj;rwa [Nat.zero_add] at this⟩
section
variable {w:World} {B bW gT:Nat} {vc vt ve:Value} {P:Pg} {S:yk}
theorem qW.acts (h:qW w B bW gT vc vt ve P S) {i:Nat} (hi:i < P.threads.length) {k j:Nat} (hk:k < (P.txs i).length) {a:Ac} (ha:(P.acts i k)[j]?=some a):
  ∃gt ct gx cx ga ca,vt=.slice (some ⟨gt,0,none⟩) P.threads.length ct/\w.cell? ⟨gt,i,none⟩=some (.slice (some ⟨gx,0,none⟩) (P.txs i).length cx)/\
   w.cell? ⟨gx,k,none⟩=some (.slice (some ⟨ga,0,none⟩) (P.acts i k).length ca)/\j < (P.acts i k).length/\(P.acts i k).length<=6/\
   w.cell? ⟨ga,j*3,none⟩=some (.int .i64 a.kind)/\w.cell? ⟨ga,j*3+1,none⟩=some (.int .i64 a.cell)/\w.cell? ⟨ga,j*3+2,none⟩=some (.int .i64 a.val)/\gt < w.heap.size/\gx < w.heap.size/\ga < w.heap.size:=by
 obtain⟨gt,ct,u,c,rfl,hgt,hct,hx⟩:=h.txs hi;obtain⟨vs,h1,h2,h3⟩:=hx;obtain⟨gx,ux,rfl,hgx,hux,hcx⟩:=h1.at1 h2 hk;obtain⟨x,hx⟩:∃x,(P.txs i)[k]?=some x:=⟨_,List.getElem?_eq_getElem hk⟩
 have hax:P.acts i k=x:=by unfold Pg.acts;rw[List.getD_eq_getElem?_getD,hx];rfl
 have h4:=h3 k ux x hux hx;rw[hax] at ha ⊢;have hj:=(List.getElem?_eq_some_iff.1 ha).1;obtain⟨b,ca,rfl,-⟩:=qq.form2 h4;obtain⟨ga,a',rfl,hga,ha',hc⟩:=qq.atK Ac.len h4 rfl hj;rw[ha] at ha';obtain rfl:=Option.some.inj ha';have hl6:x.length<=6:=by
  obtain⟨y,hy⟩:∃y,P.threads[i]?=some y:=⟨_,List.getElem?_eq_getElem hi⟩
  rw[Pg.txs_at hy] at hx;exact(h.ok.acts y (List.mem_of_getElem? hy) x (List.mem_of_getElem? hx)).2
 exact⟨gt,ct,gx,c,ga,ca,rfl,hct,hcx,hj,hl6,hc 0 (by decide),hc 1 (by decide),hc 2 (by decide),hgt,hgx,hga⟩
end
end
