/- Parts of the proof; the first: The automaton of well-formed histories in memory: where it lies, what keeps it. Conditions: those of each theorem, as typed. -/
import Derived.Test.YtcpfbphcldocpaaGreatDoorQW06
import Derived.Test.YtcpfbphcldocpaaGreatDoorQW01
import Derived.Test.YtcpfbphcldocpaaGreatDoorQW04
set_option linter.unusedVariables false
set_option linter.unusedSimpArgs false
set_option linter.unusedSectionVars false
set_option maxRecDepth 100000
set_option maxHeartbeats 4000000
namespace Go.Proofs.YtcpfbphcldocpaaGreatDoor
open Go.Maps Go.RowKit
section
attribute [local irreducible] xE
structure zo (S:Nat->Prop) (w w':World):Prop where
 os:w'.os=w.os
 tape:w'.tape=w.tape
 output:w'.output=w.output
 size:w.heap.size<=w'.heap.size
 keep:∀k,k < w.heap.size->¬S k->w'.heap[k]?=w.heap[k]?
section
variable {S T:Nat->Prop} {w w' w1:World}
theorem zo.refl (w:World):zo S w w:=⟨rfl,rfl,rfl,Nat.le_refl _,fun _ _ _=>rfl⟩
theorem zo.trans (h:zo S w w1) (k:zo T w1 w') (hT:∀j,j < w.heap.size->T j->S j):zo S w w':=
 ⟨k.os.trans h.os,k.tape.trans h.tape,k.output.trans h.output,Nat.le_trans h.size k.size,fun j hj hs=>(k.keep j (Nat.lt_of_lt_of_le hj h.size) fun ht=>hs (hT j hj ht)).trans (h.keep j hj hs)⟩
theorem zo.mono (h:zo S w w') (hS:∀j,S j->T j):zo T w w':=⟨h.os,h.tape,h.output,h.size,fun j hj ht=>h.keep j hj fun hs=>ht (hS j hs)⟩
theorem zo.of_below (h:Below w.heap.size w w'):zo S w w':=⟨h.os,h.tape,h.output,h.size,fun j hj _=>h.block j hj⟩
theorem zo.below {B:Nat} (h:zo S w w') (hS:∀j,S j->B<=j) (hB:B<=w.heap.size):Below B w w':=⟨h.os,h.tape,h.output,h.size,fun j hj=>h.keep j (by omega) fun hs=>by have:=hS j hs;omega⟩
theorem zo.set (h:zo S w w') {g j:Nat} {v:Value} (hg:S g):zo S w (w'.setCell ⟨g,j,none⟩ v):=
 ⟨h.os,h.tape,h.output,by have:=h.size;rw[show (w'.setCell ⟨g,j,none⟩ v).heap.size=w'.heap.size from by simp];exact this,fun k hk hs=>(Go.RowKit.Below.heap_setCell _ _ _ _ (by rintro rfl;exact hs hg)).trans (h.keep k hk hs)⟩
theorem zo.alloc (h:zo S w w') (o:Obj):zo S w (w'.alloc o):=⟨h.os,h.tape,h.output,by have:=h.size;simp;omega,fun k hk hs=>(heap_alloc_old w' o (by have:=h.size;omega)).trans (h.keep k hk hs)⟩
theorem zo.drew (h:zo S w w'):zo S w w'.drew:=⟨h.os,h.tape,h.output,h.size,h.keep⟩
theorem zo.turned {b:Nat} (h:w.mapTurned w' b) (hb:S b):zo S w w':=by
 obtain⟨es,c,es',c',hh,rfl⟩:=h;exact⟨rfl,rfl,rfl,by simp[ChangeMaps.setBlock],fun k hk hs=>Go.ChangeMaps.heap_setBlock_other hh _ (by rintro rfl;exact hs hb)⟩
theorem zo.grw {v v':Value} (h:Yt w w' v v') (hv:∀k,v.ownBlock=some k->S k):zo S w w':=
 ⟨h.grown.os,h.grown.tape,h.grown.output,h.grown.size,fun k hk hs=>h.grown.block k hk fun e=>hs (hv k e.symm)⟩
theorem zo.row {g:Nat} {x:Obj} (h:zo S w w') (hg:w.heap[g]?=some x) (hs:¬S g):w'.heap[g]?=some x:=(h.keep g (qd hg) hs).trans hg
theorem qj.typ {α:Type} {f:α->List Value} {e:TypeId} {sz B:Nat} {v:Value} {l:List α} (h:qj f e sz w B v l) {g:Nat} (hg:v.ownBlock=some g):∃cs fz,w.heap[g]?=some (.cells cs e fz):=by
 obtain⟨-,h2⟩:=h;rcases h2 with⟨rfl,-⟩|⟨g',cap,cur,rfl,-,hh,-⟩
 ·cases hg
 ·simp only[Value.ownBlock,Option.some.injEq] at hg
  subst hg;exact⟨_,_,hh⟩
theorem qj.chg {α:Type} {f:α->List Value} {e:TypeId} {sz B:Nat} {v:Value} {l:List α} (h:qj f e sz w B v l) (hc:zo S w w') (hs:∀g,v.ownBlock=some g->¬S g):qj f e sz w' B v l:=by
 obtain⟨h1,h2⟩:=h;refine⟨h1,?_⟩;rcases h2 with h2|⟨g,cap,cur,rfl,hg,hh,r⟩
 ·exact .inl h2
 ·exact .inr ⟨g,cap,cur,rfl,hg,hc.row hh (hs g rfl),r⟩
theorem qS.chg {b:Nat} {M:Int->Option Value} (h:qS w b M) (hc:zo S w w') (hs:¬S b):qS w' b M:=h.obj (hc.keep b h.lt hs)
end
def uX (s:St) (dv:Value):List Value:=[.int .i64 s.id,.int .i64 s.thread,.int .i64 s.status,.int .i64 s.beg,.int .i64 s.fin,.int .i64 s.tri,dv,.int .i64 s.stand]
abbrev XG (w:World) (B:Nat) (v:Value) (l:List Dd):Prop:=qj Dd.cells 112 8 w B v l
structure jo (w:World) (B:Nat) (p:Nat×Value) (s:St):Prop where
 row:w.heap[p.1]?=some (.cells (uX s p.2).toArray 179 (0,0))
 hB:B<=p.1
 dds:XG w B p.2 s.deeds
def Rn (p:Nat×Value):Nat->Prop:=fun k=>k=p.1\/p.2.ownBlock=some k
def xD (g:Nat):Value:=.pointer (some ⟨g,0,none⟩)
def qgy (M:Int->Option Value) (Z:Int->Prop):Prop:=(∀x,¬Z x->M x=none)/\∀x,Z x->∃g,M x=some (xD g)
structure uE (w:World) (B bA bY bZ:Nat) (ov tv:Value) (os:List Ob) (n:Nat) (A:Au) (Z:Int->Prop) (bs:List (Nat×Value)):Prop where
 row:w.heap[bA]?=some (.cells #[ov,.int .i64 n,tv,.map (some bY),.map (some bZ)] 176 (0,0))
 hB:B<=bA
 obs:qj Ob.cells 62 2 w B ov os
 txs:qj Yw 177 1 w B tv (bs.map fun p=>xD p.1)
 len:bs.length=A.length
 sts:∀(k:Nat) (p:Nat×Value) (s:St),bs[k]?=some p->A[k]?=some s->jo w B p s
 nod:(bs.map (·.1)).Nodup
 dis:∀(j k:Nat) (p q:Nat×Value),bs[j]?=some p->bs[k]?=some q->j≠k->∀g,p.2.ownBlock=some g->q.2.ownBlock≠some g
 by_:B<=bY/\∃M,qS w bY M/\(∀(k:Nat) (p:Nat×Value) (s:St),bs[k]?=some p->A[k]?=some s->M s.id=some (xD p.1))/\∀x,¬uw x A->M x=none
 bz:B<=bZ/\∃M,qS w bZ M/\qgy M Z
 ne:bY≠bZ
def uH (w:World) (B bA:Nat) (os:List Ob) (n:Nat) (A:Au):Prop:=∃bY bZ ov tv bs,uE w B bA bY bZ ov tv os n A (fun x=>yI x A) bs
section
variable {w w':World} {B bA bY bZ n:Nat} {ov tv:Value} {os:List Ob} {A:Au} {Z:Int->Prop} {bs:List (Nat×Value)}
theorem jo.typ {p:Nat×Value} {s:St} (h:jo w B p s) {k:Nat} (hk:Rn p k):∃cs t fz,w.heap[k]?=some (.cells cs t fz)/\(t=179\/t=112):=by
 rcases hk with rfl|hk
 ·exact ⟨_,_,_,h.row,.inl rfl⟩
 ·obtain ⟨cs,fz,hh⟩:=qj.typ h.dds hk
  exact⟨_,_,_,hh,.inr rfl⟩
theorem jo.ge {p:Nat×Value} {s:St} (h:jo w B p s) {k:Nat} (hk:Rn p k):B<=k:=by
 rcases hk with rfl|hk
 ·exact h.hB
 ·exact (qj.lt h.dds k hk).1
theorem jo.notCells {p:Nat×Value} {s:St} (h:jo w B p s) {g:Nat} {cs:Array Value} {t:TypeId} {fz:Nat×Nat} (hg:w.heap[g]?=some (.cells cs t fz)) (h1:t≠179) (h2:t≠112):¬Rn p g:=fun hk=>by
 obtain⟨cs',t',fz',hh,ht⟩:=h.typ hk;rw[hg] at hh;simp only[Option.some.injEq,Obj.cells.injEq] at hh;rcases ht with ht|ht
 ·exact h1 (hh.2.1.trans ht)
 ·exact h2 (hh.2.1.trans ht)
theorem jo.notMap {p:Nat×Value} {s:St} (h:jo w B p s) {g:Nat} (hg:∃es c,w.heap[g]?=some (.map es c)):¬Rn p g:=fun hk=>by
 obtain⟨cs',t',fz',hh,-⟩:=h.typ hk;obtain⟨es,c,hg⟩:=hg;rw[hg] at hh;cases hh
theorem uE.get (h:uE w B bA bY bZ ov tv os n A Z bs) {k:Nat} {s:St} (hs:A[k]?=some s):∃p,bs[k]?=some p/\jo w B p s:=by
 have hk:=(List.getElem?_eq_some_iff.1 hs).1;obtain⟨p,hp⟩:∃p,bs[k]?=some p:=⟨_,List.getElem?_eq_getElem (by rw[h.len];exact hk)⟩
 exact⟨p,hp,h.sts k p s hp hs⟩
theorem uE.apart (h:uE w B bA bY bZ ov tv os n A Z bs) {j k:Nat} {p q:Nat×Value} {s t:St} (hp:bs[j]?=some p) (hq:bs[k]?=some q) (hs:A[j]?=some s) (ht:A[k]?=some t) (hne:j≠k) {g:Nat} (hg:Rn p g):¬Rn q g:=by
 have hj:=(List.getElem?_eq_some_iff.1 hp).1;rcases hg with rfl|hg
 ·rintro (hk|hk)
  ·have:=(List.getElem?_inj (i:=j) (j:=k) (by simpa using hj) h.nod).1 (by simp[hp,hq,hk])
   exact hne this
  ·obtain ⟨cs,fz,hh⟩:=qj.typ (h.sts k q t hq ht).dds hk
   rw[(h.sts j p s hp hs).row] at hh;simp at hh
 ·rintro (hk|hk)
  ·obtain ⟨cs,fz,hh⟩:=qj.typ (h.sts j p s hp hs).dds hg
   rw[hk,(h.sts k q t hq ht).row] at hh;simp at hh
  ·exact h.dis j k p q hp hq hne g hg hk
theorem jo.chg {S:Nat->Prop} {p:Nat×Value} {s:St} (h:jo w B p s) (hc:zo S w w') (hs:∀g,Rn p g->¬S g):jo w' B p s:=⟨hc.row h.row (hs _ (.inl rfl)),h.hB,qj.chg h.dds hc fun g hg=>hs g (.inr hg)⟩
theorem uE.chg {S:Nat->Prop} (h:uE w B bA bY bZ ov tv os n A Z bs) (hc:zo S w w') (hS:∀k,k < w.heap.size->¬S k):uE w' B bA bY bZ ov tv os n A Z bs:=by
 have hw:∀k x,w.heap[k]?=some x->¬S k:=fun k x hx=>hS k (qd hx);refine⟨hc.row h.row (hw _ _ h.row),h.hB,qj.chg h.obs hc fun g hg=>hS g (qj.lt h.obs g hg).2,qj.chg h.txs hc fun g hg=>hS g (qj.lt h.txs g hg).2,h.len,fun k p s hp hs=>(h.sts k p s hp hs).chg hc fun g hg=>?_,h.nod,h.dis,⟨h.by_.1,?_⟩,⟨h.bz.1,?_⟩,h.ne⟩
 ·obtain ⟨cs,t,fz,hh,-⟩:=(h.sts k p s hp hs).typ hg
  exact hw _ _ hh
 ·obtain ⟨M,h1,h2⟩:=h.by_.2
  exact⟨M,h1.chg hc (hS _ h1.lt),h2⟩
 ·obtain ⟨M,h1,h2⟩:=h.bz.2
  exact⟨M,h1.chg hc (hS _ h1.lt),h2⟩
theorem uE.below (h:uE w B bA bY bZ ov tv os n A Z bs) (hb:Below w.heap.size w w'):uE w' B bA bY bZ ov tv os n A Z bs:=h.chg (S:=fun _=>False) (zo.of_below hb) (fun _ _ h=>h)
theorem uE.moved (h:uE w B bA bY bZ ov tv os n A Z bs) {k:Nat} {p:Nat×Value} {s s':St} (hp:bs[k]?=some p) (hs:A[k]?=some s) (hc:zo (Rn p) w w') {dv:Value} (hst:jo w' B (p.1,dv) s') (qh:s'.id=s.id) (hth:s'.thread=s.thread)
  (hdv:∀g,dv.ownBlock=some g->p.2.ownBlock=some g\/w.heap.size<=g):uE w' B bA bY bZ ov tv os n (A.set k s') Z (bs.set k (p.1,dv)):=by
 have hsp:=h.sts k p s hp hs;have hmap:(bs.set k (p.1,dv)).map (fun p=>xD p.1)=bs.map fun p=>xD p.1:=by
  apply List.ext_getElem?;intro j;by_cases e:k=j
  ·subst e
   rw[List.getElem?_map,List.getElem?_map,List.getElem?_set_self (List.getElem?_eq_some_iff.1 hp).1,hp];rfl
  ·rw [List.getElem?_map,List.getElem?_map,List.getElem?_set_ne e]
 have hmap1:(bs.set k (p.1,dv)).map (·.1)=bs.map (·.1):=by
  apply List.ext_getElem?;intro j;by_cases e:k=j
  ·subst e
   rw[List.getElem?_map,List.getElem?_map,List.getElem?_set_self (List.getElem?_eq_some_iff.1 hp).1,hp];rfl
  ·rw [List.getElem?_map,List.getElem?_map,List.getElem?_set_ne e]
 have fresh:∀(j:Nat) (q:Nat×Value) (t:St),bs[j]?=some q->A[j]?=some t->∀g,q.2.ownBlock=some g->g < w.heap.size:=fun j q t hq ht g hg=>(qj.lt (h.sts j q t hq ht).dds g hg).2;have getA:∀(j:Nat) (q:Nat×Value),bs[j]?=some q->∃t,A[j]?=some t:=fun j q hq=>⟨_,List.getElem?_eq_getElem (by rw[←h.len];exact(List.getElem?_eq_some_iff.1 hq).1)⟩
 refine⟨hc.row h.row (hsp.notCells h.row (by decide) (by decide)),h.hB,qj.chg h.obs hc fun g hg=>?_,?_,by simpa using h.len,fun j q t hq ht=>?_,by rw[hmap1];exact h.nod,fun i j q r hq hr hne g hg=>?_,⟨h.by_.1,?_⟩,⟨h.bz.1,?_⟩,h.ne⟩
 ·obtain ⟨cs,fz,hh⟩:=qj.typ h.obs hg
  exact hsp.notCells hh (by decide) (by decide)
 ·rw [hmap]
  refine qj.chg h.txs hc fun g hg=>?_;obtain⟨cs,fz,hh⟩:=qj.typ h.txs hg;exact hsp.notCells hh (by decide) (by decide)
 ·rcases zM hq with⟨rfl,rfl⟩|⟨hne,hq⟩
  ·rcases zM ht with⟨-,rfl⟩|⟨hne,-⟩
   ·exact hst
   ·exact absurd rfl hne
  ·rw [List.getElem?_set_ne hne] at ht
   exact(h.sts j q t hq ht).chg hc fun g hg=>h.apart hq hp ht hs (Ne.symm hne) hg
 ·rcases zM hq with⟨rfl,rfl⟩|⟨hne1,hq⟩
  ·rw [List.getElem?_set_ne hne] at hr
   obtain⟨t,ht⟩:=getA j r hr;rcases hdv g hg with h1|h1
   ·exact h.dis k j p r hp hr hne g h1
   ·intro h2
    have:=fresh j r t hr ht g h2;omega
  ·rcases zM hr with⟨rfl,rfl⟩|⟨hne2,hr⟩
   ·intro h2
    obtain⟨t,ht⟩:=getA i q hq;rcases hdv g h2 with h1|h1
    ·exact h.dis i k q p hq hp hne g hg h1
    ·have:=fresh i q t hq ht g hg
     omega
   ·exact h.dis i j q r hq hr hne g hg
 ·obtain ⟨M,h1,h2,h3⟩:=h.by_.2
  refine⟨M,h1.chg hc (hsp.notMap h1.isMap),fun j q t hq ht=>?_,fun x hx=>h3 x fun hh=>hx ?_⟩
  ·rcases zM hq with⟨rfl,rfl⟩|⟨hne,hq⟩
   ·rcases zM ht with⟨-,rfl⟩|⟨hne,-⟩
    ·rw [qh];exact h2 k p s hp hs
    ·exact absurd rfl hne
   ·rw [List.getElem?_set_ne hne] at ht
    exact h2 j q t hq ht
  ·obtain ⟨t,ht,hti⟩:=hh
   obtain⟨j,hj⟩:=List.mem_iff_getElem?.1 ht;by_cases e:k=j
   ·subst e
    rw[hs] at hj;obtain rfl:=Option.some.inj hj;exact⟨s',vF hs,qh.trans hti⟩
   ·exact ⟨t,List.mem_iff_getElem?.2 ⟨j,by rw[List.getElem?_set_ne e];exact hj⟩,hti⟩
 ·obtain ⟨M,h1,h2⟩:=h.bz.2
  exact⟨M,h1.chg hc (hsp.notMap h1.isMap),h2⟩
theorem uE.zmono {Z':Int->Prop} (h:uE w B bA bY bZ ov tv os n A Z bs) (hz:∀x,Z x↔Z' x):uE w B bA bY bZ ov tv os n A Z' bs:=
 ⟨h.row,h.hB,h.obs,h.txs,h.len,h.sts,h.nod,h.dis,h.by_,⟨h.bz.1,let ⟨M,h1,h2⟩:=h.bz.2;⟨M,h1,fun x hx=>h2.1 x fun e=>hx ((hz x).1 e),fun x hx=>h2.2 x ((hz x).2 hx)⟩⟩,h.ne⟩
end
end
section
attribute [local irreducible] xE
def Zt (w:World) (B:Nat) (p:Nat×Value) (s':St) (e:Ending) (w':World):Prop:=e=.returned .nilIface/\∃dv,jo w' B (p.1,dv) s'/\zo (Rn p) w w'/\∀g,dv.ownBlock=some g->p.2.ownBlock=some g\/w.heap.size<=g
theorem jo.own {w w':World} {B p:Nat} {dv:Value} {s s':St} (h:jo w B (p,dv) s) (hc:zo (fun k=>k=p) w w') (hr:w'.heap[p]?=some (.cells (uX s' dv).toArray 179 (0,0))) (hd:s'.deeds=s.deeds):∃dv',jo w' B (p,dv') s'/\zo (Rn (p,dv)) w w'/\∀g,dv'.ownBlock=some g->dv.ownBlock=some g\/w.heap.size<=g:=by
 refine⟨dv,⟨hr,h.hB,?_⟩,hc.mono fun j hj=>.inl hj,fun g hg=>.inl hg⟩;rw[hd];refine qj.chg h.dds hc fun g hg hk=>?_;obtain⟨cs,fz,hh⟩:=qj.typ h.dds hg;rw[hk,h.row] at hh;simp at hh
section
variable {w:World} {B p:Nat} {dv:Value} {s:St}
theorem qfK (xk xx xh xj xo xy xv xr:Int) (n:Nat) (h:jo w B (p,dv) s):
  Calls Tryz.prog 176 #[.pointer (some ⟨p,0,none⟩),Xc ⟨xk,xx,xh,xj,xo,xy,xv,xr⟩,.int .i64 n] w (Zt w B (p,dv) (NA s)):=by
 have l0:=qd h.row;have H:=qh h;have r0:=h.row;have y:=qa r0;have y0:=y 0;have y1:=y 1;have y2:=y 2;have y3:=y 3;have y4:=y 4;have y5:=y 5;have y6:=y 6;have y7:=y 7;simp[uX] at y0 y1 y2 y3 y4 y5 y6 y7;have yf:∀j,w.frozen? ⟨p,j,none⟩=false:=fun j=>qB r0 j;have R0:=qh r0;clear y h r0;go_enter Tryz.func176,Tryz.ntmps176;go_wp2;go_ret;have r1:=qq R0.o 7 (.int .i64 4);have rz:=qD (o:=.cells #[.int .i64 xk,.int .i64 xx,.int .i64 xh,.int .i64 xj,.int .i64 xo,.int .i64 xy,.int .i64 xv,.int .i64 xr] 69) r1;exact⟨rfl,H.o.own (s':=(NA s)) (((zo.refl (S:=fun k=>k=p) w).set (g:=p) (j:=7) rfl (v:=.int .i64 4)).alloc _) rz rfl⟩
theorem qfI (xk xx xh xj xo xy xv xr:Int) (n:Nat) (h:jo w B (p,dv) s):
  Calls Tryz.prog 175 #[.pointer (some ⟨p,0,none⟩),Xc ⟨xk,xx,xh,xj,xo,xy,xv,xr⟩,.int .i64 n] w (Zt w B (p,dv) (Rk n s)):=by
 have l0:=qd h.row;have H:=qh h;have r0:=h.row;have y:=qa r0;have y0:=y 0;have y1:=y 1;have y2:=y 2;have y3:=y 3;have y4:=y 4;have y5:=y 5;have y6:=y 6;have y7:=y 7;simp[uX] at y0 y1 y2 y3 y4 y5 y6 y7;have yf:∀j,w.frozen? ⟨p,j,none⟩=false:=fun j=>qB r0 j;have R0:=qh r0;clear y h r0;go_enter Tryz.func175,Tryz.ntmps175;go_wp2;go_ret;have r1:=qq R0.o 7 (.int .i64 3);have r2:=qq r1 5 (.int .i64 n);have r3:=qq r2 2 (.int .i64 2);have rz:=qD (o:=.cells #[.int .i64 xk,.int .i64 xx,.int .i64 xh,.int .i64 xj,.int .i64 xo,.int .i64 xy,.int .i64 xv,.int .i64 xr] 69) r3;exact⟨rfl,H.o.own (s':=(Rk n s)) (((((zo.refl (S:=fun k=>k=p) w).set (g:=p) (j:=7) rfl (v:=.int .i64 3)).set (g:=p) (j:=5) rfl (v:=.int .i64 n)).set (g:=p) (j:=2) rfl (v:=.int .i64 2)).alloc _) rz rfl⟩
theorem qbM (xk xx xh xj xo xy xv xr:Int) (n:Nat) (c:Nat) (st:Int) (hc:w.heap[c]?=some (.cells #[.int .i64 st] 3 (0,0))) (hcp:c≠p) (h:jo w B (p,dv) s):
  Calls Tryz.prog 171 #[.pointer (some ⟨p,0,none⟩),Xc ⟨xk,xx,xh,xj,xo,xy,xv,xr⟩,.int .i64 n,.pointer (some ⟨c,0,none⟩)] w (Zt w B (p,dv) (Zz st n s)):=by
 have l0:=qd h.row;have H:=qh h;have r0:=h.row;have y:=qa r0;have y0:=y 0;have y1:=y 1;have y2:=y 2;have y3:=y 3;have y4:=y 4;have y5:=y 5;have y6:=y 6;have y7:=y 7;simp[uX] at y0 y1 y2 y3 y4 y5 y6 y7;have yf:∀j,w.frozen? ⟨p,j,none⟩=false:=fun j=>qB r0 j;have R0:=qh r0;clear y h r0;have hc0:=qa hc 0;have lc:=qd hc;simp at hc0;clear hc;go_enter Tryz.func171,Tryz.ntmps171;go_wp2_with fail;obtain⟨W,hW⟩:∃W,W=w.alloc (.cells #[.int .i64 xk,.int .i64 xx,.int .i64 xh,.int .i64 xj,.int .i64 xo,.int .i64 xy,.int .i64 xv,.int .i64 xr] 69):=⟨_,rfl⟩
 have bW:Below w.heap.size w W:=by rw[hW];exact(Below.refl _ w).alloc (Nat.le_refl _) _
 rw[←hW];have r1:=qp R0.o bW l0;clear y0 y1 y2 y3 y4 y5 y6 y7 yf;have y:=qa r1;have y0:=y 0;have y1:=y 1;have y2:=y 2;have y3:=y 3;have y4:=y 4;have y5:=y 5;have y6:=y 6;have y7:=y 7;simp[uX] at y0 y1 y2 y3 y4 y5 y6 y7;have yf:∀j,W.frozen? ⟨p,j,none⟩=false:=fun j=>qB r1 j;have l1:=qd r1;have lcW:w.heap.size<=W.heap.size:=bW.size;have hc0:=qx bW lc hc0;have lc1:c < W.heap.size:=by omega
 have R1:=qh r1;have BW:=qh bW;clear y r1 bW hW;refine qaZ (fun k=>k=c) [0,0,0,0,1,0,0,3,0,0,0,3,0,0,0,3] (.fin [0,1,2,3,4,5,6,7,8,9,10,11,12,13,14,15]) (by kernel_rfl) ?_;simp only[xi,qP,qA,sD,sE,sF,sG]
 repeat first|(refine qz fun K hK=>?_;go_simp;refine hK _ _ ?_;clear hK K)|(apply qC;(intro w2 hw2;have hk1:=hw2.cell;(try simp only at hk1);have hk3:=hw2.1;clear hw2;go_simp;with_reducible rfl);simp only[Act.put,sA,sB,sC])
 refine qG (fun K hK=>?_);go_simp;refine hK _ _ (RK.KeepsN.set _ _ _ (fun h=>hcp h.symm)) ?_;clear hK K
 repeat (refine qz fun K hK=>?_;go_simp;refine hK _ _ ?_;clear hK K)
 refine qG (fun K hK=>?_);go_simp;refine hK _ _ (RK.KeepsN.set _ _ _ (fun h=>hcp h.symm)) ?_;clear hK K
 repeat (refine qz fun K hK=>?_;go_simp;refine hK _ _ ?_;clear hK K)
 refine qG (fun K hK=>?_);go_simp;refine hK _ _ (RK.KeepsN.set _ _ _ (fun h=>hcp h.symm)) ?_;clear hK K
 repeat refine qu ?_
 go_wp2;go_ret;have r2:=qq (jf R1.o) 7 (.int .i64 5);have r3:=qq r2 4 (.int .i64 n);have r4:=qq r3 2 (.int .i64 st);have hcg:zo (fun k=>k=p) w W.drew:=(zo.of_below BW.o).drew;exact⟨rfl,H.o.own (s':=Zz st n s) (((hcg.set (g:=p) (j:=7) rfl (v:=.int .i64 5)).set (g:=p) (j:=4) rfl (v:=.int .i64 n)).set (g:=p) (j:=2) rfl (v:=.int .i64 st)) r4 rfl⟩
end
end
section
attribute [local irreducible] xE
theorem qdM (v:Value) (l:List Int) (x:Int) (j:Nat) (w:World) (h:Sl w w.heap.size 1 v l.length (l.map (.int .i64))) (hj:l[j]?=some x) (hn:∀i:Nat,i < j->l[i]?≠some x):
  Calls Tryz.prog 177 #[v,.int .i64 x] w fun e w'=>e=.returned (.int .i64 j)/\w'=w:=by
 obtain⟨a,c,rfl,hm⟩:=h.ex;have hl:=(List.getElem?_eq_some_iff.1 hj).1;have H:=qh h;have HJ:=qh hj;have HN:=qh hn;clear h hj hn;go_enter Tryz.func177,Tryz.ntmps177;go_wp2_with fail;obtain⟨W,rfl⟩:∃W,W=w:=⟨_,rfl⟩
 go_loopw [8] (fun p wr=>∃i:Nat,i<=j/\p=.int .i64 i/\wr=W) (fun p _=>j - (intOf p).toNat)
 case atStart=>exact⟨0,by omega,by go_num,rfl⟩
 case round=>
  obtain⟨i,hi,rfl,rfl⟩:=hrel;have hil:i < l.length:=by omega
  obtain⟨b,off,u,hat,hb,hx,hc⟩:=H.o.at1 hil;subst hat;have hx2:∃y,l[i]?=some y/\u=.int .i64 y:=by
   rw[List.getElem?_map] at hx;cases hy:l[i]? with
   |none=>rw[hy] at hx;cases hx
   |some y=>rw[hy] at hx;exact⟨y,rfl,by simpa using hx.symm⟩
  obtain⟨y,hy,rfl⟩:=hx2;clear hx;by_cases hij:i=j
  ·subst hij
   have e1:y=x:=by rw[HJ.o] at hy;exact(Option.some.inj hy).symm
   subst e1;clear hy;go_wp2;go_ret;exact⟨rfl,rfl⟩
  ·have e1:(x==y)=false:=by
    have:=HN.o i (by omega);rw[hy] at this;simp only[ne_eq,Option.some.injEq] at this;simp;omega
   clear hy;go_wp2_with fail;go_roundw
   case rel=>exact⟨i+1,by omega,by go_num,trivial⟩
   case measure=>simp[intOf];omega
theorem qcD (l:List Int) (x:Int) (h:x ∈ l):∃j:Nat,l[j]?=some x/\∀i:Nat,i < j->l[i]?≠some x:=by
 induction l with
 |nil=>cases h
 |cons y l ih=>
  by_cases e:y=x
  ·subst e
   exact⟨0,rfl,fun i hi=>by omega⟩
  ·have:x ∈ l:=by
    rcases List.mem_cons.1 h with h|h
    ·exact absurd h.symm e
    ·exact h
   obtain⟨j,h1,h2⟩:=ih this;refine⟨j+1,by simpa using h1,fun i hi=>?_⟩;cases i with
   |zero=>simpa using e
   |succ i=>simpa using h2 i (by omega)
theorem Xv (v:Value) (l:List Int) (x:Int) (w:World) (h:Sl w w.heap.size 1 v l.length (l.map (.int .i64))) (hx:x ∈ l):
  Calls Tryz.prog 129 #[v,.int .i64 x] w fun e w'=>e=.returned (.bool true)/\w'=w:=by
 obtain⟨a,c,rfl,hm⟩:=h.ex;obtain⟨j,h1,h2⟩:=qcD l x hx;have hl:=(List.getElem?_eq_some_iff.1 h1).1;have hi:=qh (qdM _ l x j w h h1 h2);clear h h1 h2 hx;have q:decide ((j:Int)>=0)=true:=by simp
 have q2:decide (0<=(j:Int))=true:=by simp
 go_enter Tryz.func129,Tryz.ntmps129;go_wp2_with fail;refine hi.o.mono ?_;rintro e w1 ⟨rfl,rfl⟩;go_wp2;go_ret;exact⟨rfl,rfl⟩
end
section
attribute [local irreducible] xE
theorem JF:(Tryz.prog.info? 112).map (fun i=>(i.zero,i.size,i.bytes))=some (some (.agg #[.int .i64 0,.int .i64 0,.int .i64 0,.int .i64 0,.int .i64 0,.int .i64 0,.int .i64 0,.int .i64 0]),8,64):=by kernel_rfl
theorem Wt (x:Dd):∀u ∈ x.cells,u.oneCell'=true:=by intro u hu;simp[Dd.cells] at hu;rcases hu with rfl|rfl|rfl|rfl|rfl|rfl|rfl|rfl <;> rfl
theorem Wu {l:List Dd} {d:Dd} (h:l.getLast?=some d):l=l.dropLast++[d]:=by
 obtain⟨ys,h1⟩:=List.getLast?_eq_some_iff.1 h;rw[h1];simp
theorem Kz {α:Type} {f:α->List Value} {sz:Nat} (hf:∀x,(f x).length=sz):∀(l:List α) (k j:Nat) (x x':α) (u:Value),l[k]?=some x->j < sz->f x'=(f x).set j u->(l.set k x').flatMap f=(l.flatMap f).set (k*sz+j) u
 |[],k,j,x,x',u,h,_,_=>by simp at h
 |y::l,0,j,x,x',u,h,hj,he=>by
  simp only[List.getElem?_cons_zero,Option.some.injEq] at h;subst h;simp only[List.set_cons_zero,List.flatMap_cons,Nat.zero_mul,Nat.zero_add,he];rw[List.set_append_left _ _ (by rw[hf];exact hj)]
 |y::l,k+1,j,x,x',u,h,hj,he=>by
  simp only[List.getElem?_cons_succ] at h;simp only[List.set_cons_succ,List.flatMap_cons];rw[Kz hf l k j x x' u h hj he,List.set_append_right _ _ (by rw[hf,Nat.add_mul];omega),hf];congr 2;rw[Nat.add_mul];omega
theorem qj.setAt {α:Type} {f:α->List Value} {e:TypeId} {sz B g n cap:Nat} {l:List α} {w:World} (h:qj f e sz w B (.slice (some ⟨g,0,none⟩) n cap) l) (hf:∀x,(f x).length=sz) {k j:Nat} {x x':α} {u:Value} (hk:l[k]?=some x) (hj:j < sz) (he:f x'=(f x).set j u):
  qj f e sz (w.setCell ⟨g,k*sz+j,none⟩ u) B (.slice (some ⟨g,0,none⟩) n cap) (l.set k x'):=by
 obtain⟨h1,h2⟩:=h;have hkl:=(List.getElem?_eq_some_iff.1 hk).1;have hfl:=Kz hf l k j x x' u hk hj he;refine⟨by rw[hfl,List.length_set,List.length_set];exact h1,?_⟩;rcases h2 with⟨h2,h3⟩|⟨g',cap',cur,hv,hg,hh,hnc,hcm,hs,ht⟩
 ·cases h2
 ·simp only[Value.slice.injEq,Option.some.injEq,Addr.mk.injEq] at hv
  obtain⟨⟨rfl,-,-⟩,hn,rfl⟩:=hv;refine .inr ⟨g,cap,cur.setIfInBounds (k*sz+j) u,by rw[List.length_set,hn],hg,qq hh _ _,by rw[List.length_set];exact hnc,hcm,by simpa using hs,?_⟩;rw[hfl,List.length_set,Array.toList_setIfInBounds,List.take_set,ht]
theorem qj.free {α:Type} {f:α->List Value} {e:TypeId} {sz B g n cap:Nat} {l:List α} {w:World} (h:qj f e sz w B (.slice (some ⟨g,0,none⟩) n cap) l) (j:Nat):w.frozen? ⟨g,j,none⟩=false:=by
 obtain⟨cs,hcs⟩:=qj.keepObj h g rfl;exact qB hcs j
section
variable {w:World} {B p:Nat} {dv:Value} {s:St}
theorem qdZ (xk xx xh xj xo xy xv xr:Int) (n:Nat) (h:jo w B (p,dv) s) (hl:s.deeds.length<=1000):
  Calls Tryz.prog 172 #[.pointer (some ⟨p,0,none⟩),Xc ⟨xk,xx,xh,xj,xo,xy,xv,xr⟩,.int .i64 n] w (Zt w B (p,dv) (QG ⟨xk,xx,xh,xj,xo,xy,xv,xr⟩ n s)):=by
 have l0:=qd h.row;have H:=qh h;have r0:=h.row;obtain⟨da,dn,dc,rfl⟩:∃a n c,dv=.slice a n c:=by
  rcases qj.form h.dds with⟨rfl,-⟩|⟨g,cap,rfl,-⟩
  ·exact ⟨_,_,_,rfl⟩
  ·exact ⟨_,_,_,rfl⟩
 have y:=qa r0;have y6:=y 6;have y7:=y 7;simp[uX] at y6 y7;have yf:∀j,w.frozen? ⟨p,j,none⟩=false:=fun j=>qB r0 j;have R0:=qh r0;clear y h r0;go_enter Tryz.func172,Tryz.ntmps172;go_wp2_with fail;have r1:=qD (o:=.cells #[.int .i64 xk,.int .i64 xx,.int .i64 xh,.int .i64 xj,.int .i64 xo,.int .i64 xy,.int .i64 xv,.int .i64 xr] 69) (qq R0.o 7 (.int .i64 2));have re:=qV (w:=w.setCell ⟨p,7,none⟩ (.int .i64 2)) (o:=.cells #[.int .i64 xk,.int .i64 xx,.int .i64 xh,.int .i64 xj,.int .i64 xo,.int .i64 xy,.int .i64 xv,.int .i64 xr] 69) (g:=w.heap.size) (by simp);have c1:zo (fun k=>k=p) w ((w.setCell ⟨p,7,none⟩ (.int .i64 2)).alloc (.cells #[.int .i64 xk,.int .i64 xx,.int .i64 xh,.int .i64 xj,.int .i64 xo,.int .i64 xy,.int .i64 xv,.int .i64 xr] 69)):=((zo.refl (S:=fun k=>k=p) w).set rfl).alloc _;have hz1:((w.setCell ⟨p,7,none⟩ (.int .i64 2)).alloc (.cells #[.int .i64 xk,.int .i64 xx,.int .i64 xh,.int .i64 xj,.int .i64 xo,.int .i64 xy,.int .i64 xv,.int .i64 xr] 69)).heap.size=w.heap.size+1:=by simp
 generalize (w.setCell ⟨p,7,none⟩ (.int .i64 2)).alloc (.cells #[.int .i64 xk,.int .i64 xx,.int .i64 xh,.int .i64 xj,.int .i64 xo,.int .i64 xy,.int .i64 xv,.int .i64 xr] 69)=W at *;have hd:XG W B (.slice da dn dc) s.deeds:=qj.chg H.o.dds c1 fun g hg hk=>by
  obtain⟨cs,fz,hh⟩:=qj.typ H.o.dds hg;rw[hk,R0.o] at hh;simp at hh
 clear y6 y7 yf;have y6:=qa r1 6;simp[uX] at y6;have yf:∀j,W.frozen? ⟨p,j,none⟩=false:=fun j=>qB r1 j;have e0:=qa re 3;have e1:=qa re 4;have e2:=qa re 5;have e3:=qa re 6;simp at e0 e1 e2 e3;have lp:p < W.heap.size:=by omega
 have le:w.heap.size < W.heap.size:=by omega
 have HD:=qh hd;have R1:=qh r1;have C1:=qh c1;clear re r1 c1 hd hz1;have hB:B<=p:=H.o.hB;refine qI (W.heap.size) [0,0,0,0,0,1,0,1,0,1,0,1,0,1,0,0,3,2,0,0,0,2] (.fin [0,1,2,3,4,5,6,7,8,9,10,11,12,13,14,15,16,17,18,19,20,21]) (by kernel_rfl) ?_;simp only[xi,qP,qA,sD,sE,sF,sG]
 repeat first|(refine qz fun K hK=>?_;go_simp;refine hK _ _ ?_;clear hK K)|(apply qC;(intro w2 hw2;have hk1:=hw2.cell;have hk3:=hw2.1;clear hw2;go_simp;with_reducible rfl);simp only[Act.put,sA,sB,sC])
 refine qG (fun K hK=>?_);go_simp;refine hK _ _ (RN.KeepsN.alloc _ _ (Nat.le_refl _)) ?_;clear hK K;refine qM (fun K hK=>?_);have hBW:B<=W.drew.heap.size:=by
  show B<=W.heap.size;omega
 refine ui _ _ _ rfl _ 64 Tryz.underlying47 JF rfl HD.o.drew (Kh ⟨xk,xx,xh,xj,xo,xy,xv,xr⟩ n) hBW (by rfl) (by rfl) (by first|rfl|simp) rfl (Wt _) (by first|omega|(simp only[List.length_append,List.length_cons,List.length_nil,List.length_replicate];omega)) (by first|omega|(simp only[List.length_append,List.length_cons,List.length_nil,List.length_replicate];omega)) ?_;intro g cap w' ho hg;refine hK _ _ ?_;clear hK K;have hne:(Value.slice da dn dc).ownBlock≠some p:=fun hk=>by
  obtain⟨cs,fz,hh⟩:=qj.typ HD.o hk;rw[R1.o] at hh;simp[uX] at hh
 have hne2:(Value.slice (some ⟨g,0,none⟩) (s.deeds.length+1) cap).ownBlock≠some p:=fun hk=>by
  rcases hg.own _ hk with h1|h1
  ·exact hne h1
  ·have h1:W.heap.size<=p:=h1
   omega
 have r2:=qL (jf R1.o) hg hne;have z2:W.heap.size<=w'.heap.size:=hg.size;have l2:p < w'.heap.size:=by omega
 clear y6 yf;have y6:=qa r2 6;simp[uX] at y6;have yf:∀j,w'.frozen? ⟨p,j,none⟩=false:=fun j=>qB r2 j;have R2:=qh r2;have HO:=qh ho;have HG:=qh hg;clear r2 ho hg
 repeat (refine qz fun K hK=>?_;go_simp;refine hK _ _ ?_;clear hK K)
 refine qM (fun K hK=>?_);go_simp;refine hK _ _ ?_;clear hK K
 repeat refine qu ?_
 go_wp2;go_ret;refine⟨rfl,_,⟨qq R2.o 6 _,hB,qj.other HO.o hne2 _⟩,?_,fun k hk=>?_⟩
 ·refine zo.set ?_ (.inl rfl)
  exact zo.trans ((C1.o.mono (T:=Rn (p,.slice da dn dc)) fun j hj=>.inl hj).drew) (zo.grw (S:=Rn (p,.slice da dn dc)) HG.o fun k hk=>.inr hk) fun j _ hj=>hj
 ·rcases HG.o.own _ hk with h1|h1
  ·exact .inl h1
  ·exact .inr (by have h1:W.heap.size<=k:=h1;omega)
end
end
section
attribute [local irreducible] xE
def qR (k:Int):List Int:=if k=3 then[2] else if k=5 then[3] else if k=6 then[1,2,3,4] else[1]
def uD (w:World) (B0:Nat) (k:Int) (F:FuncId) (caps:Array Value):Prop:=
 (k=2/\F=172/\caps=#[])\/(k=3/\F=173/\caps=#[])\/(k=4/\F=175/\caps=#[])\/(k=7/\F=176/\caps=#[])\/
 (F=171/\∃c st,(k=5/\st=3\/k=6/\st=4)/\caps=#[.pointer (some ⟨c,0,none⟩)]/\w.heap[c]?=some (.cells #[.int .i64 st] 3 (0,0))/\B0<=c)
def ZG (w:World) (B0:Nat) (k:Int) (v:Value):Prop:=∃g F caps,v=.agg #[.slice (some ⟨g,0,none⟩) (qR k).length (qR k).length,.func (.func F) #[] caps]/\w.heap[g]?=some (.cells ((qR k).map (.int .i64)).toArray 3 (0,0))/\B0<=g/\uD w B0 k F caps
def qgu (w:World) (e:Ending) (w':World):Prop:=∃bm M,e=.returned (.map (some bm))/\qS w' bm M/\(∀k:Int,2<=k->k < 8->∃v,M k=some v/\ZG w' w.heap.size k v)/\Below w.heap.size w w'
theorem uD.row {w w':World} {B0:Nat} {k:Int} {F:FuncId} {caps:Array Value} (h:uD w B0 k F caps) (hr:∀(g:Nat) (cs:Array Value) (t:TypeId) (fz:Nat×Nat),w.heap[g]?=some (.cells cs t fz)->w'.heap[g]?=some (.cells cs t fz)):uD w' B0 k F caps:=by
 rcases h with h|h|h|h|⟨h1,c,st,h2,h3,h4,h5⟩
 ·exact .inl h
 ·exact .inr (.inl h)
 ·exact .inr (.inr (.inl h))
 ·exact .inr (.inr (.inr (.inl h)))
 ·exact .inr (.inr (.inr (.inr ⟨h1,c,st,h2,h3,hr _ _ _ _ h4,h5⟩)))
theorem ZG.row {w w':World} {B0:Nat} {k:Int} {v:Value} (h:ZG w B0 k v) (hr:∀(g:Nat) (cs:Array Value) (t:TypeId) (fz:Nat×Nat),w.heap[g]?=some (.cells cs t fz)->w'.heap[g]?=some (.cells cs t fz)):ZG w' B0 k v:=
 let ⟨g,F,caps,h1,h2,h3,h4⟩:=h;⟨g,F,caps,h1,hr _ _ _ _ h2,h3,h4.row hr⟩
theorem Mf (st:Int) (w:World):Calls Tryz.prog 170 #[.int .i64 st] w fun e w'=>e=.returned (.func (.func 171) #[] #[.pointer (some ⟨w.heap.size,0,none⟩)])/\w'=w.alloc (.cells #[.int .i64 st] 3):=by
 go_enter Tryz.func170,Tryz.ntmps170;go_wp2;go_ret;exact⟨rfl,rfl⟩
structure Uh (w:World) (bm:Nat) (K:Int->Prop) (X:World):Prop where
 raw:∃M,qS X bm M/\∀k,K k->∃v,M k=some v/\ZG X w.heap.size k v
 below:Below w.heap.size w X
 hb:w.heap.size<=bm
theorem Uh.alloc {w X:World} {bm:Nat} {K:Int->Prop} (h:Uh w bm K X) (o:Obj):Uh w bm K (X.alloc o):=by
 obtain⟨⟨M,h1,h2⟩,h3,h4⟩:=h;have b:Below X.heap.size X (X.alloc o):=(Below.refl _ X).alloc (Nat.le_refl _) _;exact⟨⟨M,h1.below b h1.lt,fun k hk=>let ⟨v,h5,h6⟩:=h2 k hk;⟨v,h5,h6.row fun g cs t fz hg=>qD hg⟩⟩,h3.trans (b.mono h3.size),h4⟩
theorem Uh.ins {w X:World} {bm:Nat} {K:Int->Prop} {k:Int} {v:Value} (h:Uh w bm K X) (hv:ZG X w.heap.size k v):
  ∃Y,Sem.run Tryz.prog (Instr.mapUpdate 251 (.map (some bm)) (.int .i64 k) v) X=.ok () Y/\Uh w bm (fun j=>K j\/j=k) Y:=by
 obtain⟨⟨M,h1,h2⟩,h3,h4⟩:=h;obtain⟨Y,hr,hm,ht⟩:=h1.store Tryz.underlying3 Tryz.underlying251 k v;have hrow:∀(g:Nat) (cs:Array Value) (t:TypeId) (fz:Nat×Nat),X.heap[g]?=some (.cells cs t fz)->Y.heap[g]?=some (.cells cs t fz):=fun g cs t fz hg=>(qY ht hg).trans hg;refine⟨Y,hr,⟨_,hm,fun j hj=>?_⟩,h3.trans (Below.turned ht h4),h4⟩;by_cases e:j=k
 ·subst e
  exact⟨v,xC,hv.row hrow⟩
 ·obtain ⟨u,h5,h6⟩:=h2 j (hj.resolve_right e)
  exact⟨u,by rw[qZ e];exact h5,h6.row hrow⟩
theorem jI (w:World):Calls Tryz.prog 128 #[] w (qgu w):=by
 have hmk:∀X:World,Sem.run Tryz.prog (Instr.makeMap 251 none) X=.ok (.map (some X.heap.size)) (X.alloc (.map #[] 0)):=fun X=>by kernel_rfl
 have b0:Below w.heap.size w (w.alloc (.map #[] 0)):=(Below.refl _ w).alloc (Nat.le_refl _) _;have h0:Uh w w.heap.size (fun _=>False) (w.alloc (.map #[] 0)):=⟨⟨_,qS.made (qy w _),fun k hk=>hk.elim⟩,b0,Nat.le_refl _⟩
 have z0:(w.alloc (.map #[] 0)).heap.size=w.heap.size+1:=by simp
 have a1:=h0.alloc (.cells #[.int .i64 1] 3);have o1:ZG ((w.alloc (.map #[] 0)).alloc (.cells #[.int .i64 1] 3)) w.heap.size 2 (.agg #[.slice (some ⟨w.heap.size+1,0,none⟩) 1 1,.func (.func 172) #[] #[]]):=⟨w.heap.size+1,_,_,rfl,qV z0.symm,by omega,.inl ⟨rfl,rfl,rfl⟩⟩
 obtain⟨X1,r1,h1⟩:=a1.ins o1;clear a1 o1 h0 b0;have a2:=h1.alloc (.cells #[.int .i64 2] 3);have o2:ZG (X1.alloc (.cells #[.int .i64 2] 3)) w.heap.size 3 (.agg #[.slice (some ⟨X1.heap.size,0,none⟩) 1 1,.func (.func 173) #[] #[]]):=⟨X1.heap.size,_,_,rfl,qy _ _,h1.below.size,.inr (.inl ⟨rfl,rfl,rfl⟩)⟩
 obtain⟨X2,r2,h2⟩:=a2.ins o2;clear a2 o2 h1;have a3:=h2.alloc (.cells #[.int .i64 1] 3);have o3:ZG (X2.alloc (.cells #[.int .i64 1] 3)) w.heap.size 4 (.agg #[.slice (some ⟨X2.heap.size,0,none⟩) 1 1,.func (.func 175) #[] #[]]):=⟨X2.heap.size,_,_,rfl,qy _ _,h2.below.size,.inr (.inr (.inl ⟨rfl,rfl,rfl⟩))⟩
 obtain⟨X3,r3,h3⟩:=a3.ins o3;clear a3 o3 h2;have a4:=h3.alloc (.cells #[.int .i64 1] 3);have o4:ZG (X3.alloc (.cells #[.int .i64 1] 3)) w.heap.size 7 (.agg #[.slice (some ⟨X3.heap.size,0,none⟩) 1 1,.func (.func 176) #[] #[]]):=⟨X3.heap.size,_,_,rfl,qy _ _,h3.below.size,.inr (.inr (.inr (.inl ⟨rfl,rfl,rfl⟩)))⟩
 obtain⟨X4,r4,h4⟩:=a4.ins o4;clear a4 o4 h3;have a5:=(h4.alloc (.cells #[.int .i64 3] 3)).alloc (.cells #[.int .i64 3] 3);have zz5:(X4.alloc (.cells #[.int .i64 3] 3)).heap.size=X4.heap.size+1:=by simp
 have o5:ZG ((X4.alloc (.cells #[.int .i64 3] 3)).alloc (.cells #[.int .i64 3] 3)) w.heap.size 5 (.agg #[.slice (some ⟨X4.heap.size,0,none⟩) 1 1,.func (.func 171) #[] #[.pointer (some ⟨X4.heap.size+1,0,none⟩)]]):=
  ⟨X4.heap.size,_,_,rfl,qD (qy _ _),h4.below.size,.inr (.inr (.inr (.inr ⟨rfl,X4.heap.size+1,3,.inl ⟨rfl,rfl⟩,rfl,qV zz5.symm,by have:=h4.below.size;omega⟩)))⟩
 obtain⟨X5,r5,h5⟩:=a5.ins o5;clear a5 o5 h4 zz5;have a6:=(h5.alloc (.cells #[.int .i64 1,.int .i64 2,.int .i64 3,.int .i64 4] 3)).alloc (.cells #[.int .i64 4] 3);have zz6:(X5.alloc (.cells #[.int .i64 1,.int .i64 2,.int .i64 3,.int .i64 4] 3)).heap.size=X5.heap.size+1:=by simp
 have o6:ZG ((X5.alloc (.cells #[.int .i64 1,.int .i64 2,.int .i64 3,.int .i64 4] 3)).alloc (.cells #[.int .i64 4] 3)) w.heap.size 6 (.agg #[.slice (some ⟨X5.heap.size,0,none⟩) 4 4,.func (.func 171) #[] #[.pointer (some ⟨X5.heap.size+1,0,none⟩)]]):=
  ⟨X5.heap.size,_,_,rfl,qD (qy _ _),h5.below.size,.inr (.inr (.inr (.inr ⟨rfl,X5.heap.size+1,4,.inr ⟨rfl,rfl⟩,rfl,qV zz6.symm,by have:=h5.below.size;omega⟩)))⟩
 obtain⟨X6,r6,h6⟩:=a6.ins o6;clear a6 o6 h5 zz6;go_enter Tryz.func128,Tryz.ntmps128;go_wp2_with fail;refine(Mf 3 _).mono ?_;rintro e W ⟨rfl,rfl⟩;go_wp2_with fail;refine(Mf 4 _).mono ?_;rintro e W ⟨rfl,rfl⟩;go_wp2_with fail;go_ret;obtain⟨⟨M,h1,h2⟩,h3,h4⟩:=h6;refine⟨_,M,rfl,h1,fun k hk1 hk2=>h2 k ?_,h3⟩;omega
end
theorem qdT (g:Nat):∀u ∈ Yw (xD g),u.oneCell'=true:=by intro u hu;simp[Yw] at hu;subst hu;rfl
theorem qfP:(Tryz.prog.info? 177).map (fun i=>(i.zero,i.size,i.bytes))=some (some (.pointer none),1,8):=by kernel_rfl
theorem jb (w:World):(zeroValue 177).run Tryz.prog w=.ok (.pointer none) w:=by kernel_rfl
theorem jJ {w w':World} {b:Nat} {g:Nat} {cs:Array Value} {t:TypeId} {fz:Nat×Nat} (h:w.mapTurned w' b) (hg:w.heap[g]?=some (.cells cs t fz)):w'.heap[g]?=some (.cells cs t fz):=(qY h hg).trans hg
section
variable {w w':World} {B bA bY bZ n:Nat} {ov tv:Value} {os:List Ob} {A:Au} {Z:Int->Prop} {bs:List (Nat×Value)}
theorem uE.turn (h:uE w B bA bY bZ ov tv os n A Z bs) (hc:zo (fun k=>k=bA\/k=bZ) w w') {n':Nat} {Z':Int->Prop} (hr:w'.heap[bA]?=some (.cells #[ov,.int .i64 n',tv,.map (some bY),.map (some bZ)] 176 (0,0)))
  {M:Int->Option Value} (hm:qS w' bZ M) (hz:qgy M Z'):uE w' B bA bY bZ ov tv os n' A Z' bs:=by
 obtain⟨MZ,hmz,-⟩:=h.bz.2;have notA:∀g cs t fz,w.heap[g]?=some (.cells cs t fz)->t≠176->¬(g=bA\/g=bZ):=fun g cs t fz hg ht=>by
  rintro(rfl|rfl)
  ·rw [h.row] at hg
   simp only[Option.some.injEq,Obj.cells.injEq] at hg;exact ht hg.2.1.symm
  ·obtain ⟨es,c,hh⟩:=hmz.isMap
   rw[hg] at hh;cases hh
 refine⟨hr,h.hB,qj.chg h.obs hc fun g hg=>?_,qj.chg h.txs hc fun g hg=>?_,h.len,fun k p s hp hs=>(h.sts k p s hp hs).chg hc fun g hg=>?_,h.nod,h.dis,⟨h.by_.1,?_⟩,⟨h.bz.1,M,hm,hz⟩,h.ne⟩
 ·obtain ⟨cs,fz,hh⟩:=qj.typ h.obs hg
  exact notA g cs _ fz hh (by decide)
 ·obtain ⟨cs,fz,hh⟩:=qj.typ h.txs hg
  exact notA g cs _ fz hh (by decide)
 ·obtain ⟨cs,t,fz,hh,ht⟩:=(h.sts k p s hp hs).typ hg
  refine notA g cs _ fz hh ?_;rcases ht with rfl|rfl <;> decide
 ·obtain ⟨M1,h1,h2⟩:=h.by_.2
  refine⟨M1,h1.chg hc ?_,h2⟩;rintro(e|e)
  ·obtain ⟨es,c,hh⟩:=h1.isMap
   rw[e,h.row] at hh;cases hh
  ·exact h.ne e
theorem uE.begun (h:uE w B bA bY bZ ov tv os n A Z bs) (hc:zo (fun k=>k=bA\/tv.ownBlock=some k\/k=bY\/k=bZ) w w') {n' p:Nat} {tv':Value} {s:St}
  (hr:w'.heap[bA]?=some (.cells #[ov,.int .i64 n',tv',.map (some bY),.map (some bZ)] 176 (0,0)))
  (ht:qj Yw 177 1 w' B tv' ((bs++[(p,Value.slice none 0 0)]).map fun q=>xD q.1)) (hs:jo w' B (p,.slice none 0 0) s) (hp:w.heap.size<=p)
  {MY MY' MZ MZ':Int->Option Value} (hY:qS w' bY MY') (f1:∀(k:Nat) (p:Nat×Value) (s:St),bs[k]?=some p->A[k]?=some s->MY s.id=some (xD p.1)) (f2:∀x,¬uw x A->MY x=none) (f3:∀k,k≠s.id->MY' k=MY k) (f4:MY' s.id=some (xD p)) (hno:¬uw s.id A)
  (hZ:qS w' bZ MZ') (f5:qgy MZ Z) (f6:∀k,k≠s.thread->MZ' k=MZ k) (f7:MZ' s.thread=some (xD p)) (hsd:s.deeds=[]):
  uE w' B bA bY bZ ov tv' os n' (A++[s]) (fun x=>Z x\/x=s.thread) (bs++[(p,.slice none 0 0)]):=by
 obtain⟨M0,hm0,-⟩:=h.bz.2;obtain⟨M1,hm1,-⟩:=h.by_.2;have notA:∀g cs t fz,w.heap[g]?=some (.cells cs t fz)->t≠176->t≠177->¬(g=bA\/tv.ownBlock=some g\/g=bY\/g=bZ):=fun g cs t fz hg ht ht2=>by
  rintro(rfl|hk|rfl|rfl)
  ·rw [h.row] at hg
   simp only[Option.some.injEq,Obj.cells.injEq] at hg;exact ht hg.2.1.symm
  ·obtain ⟨cs',fz',hh⟩:=qj.typ h.txs hk
   rw[hg] at hh;simp only[Option.some.injEq,Obj.cells.injEq] at hh;exact ht2 hh.2.1
  ·obtain ⟨es,c,hh⟩:=hm1.isMap
   rw[hg] at hh;cases hh
  ·obtain ⟨es,c,hh⟩:=hm0.isMap
   rw[hg] at hh;cases hh
 have old:∀k (q:Nat×Value),bs[k]?=some q->∃t,A[k]?=some t/\jo w B q t:=fun k q hq=>by
  have hk:=(List.getElem?_eq_some_iff.1 hq).1;obtain⟨t,ht⟩:∃t,A[k]?=some t:=⟨_,List.getElem?_eq_getElem (by rw[←h.len];exact hk)⟩
  exact⟨t,ht,h.sts k q t hq ht⟩
 have split:∀k (q:Nat×Value),(bs++[(p,Value.slice none 0 0)])[k]?=some q->bs[k]?=some q\/(k=bs.length/\q=(p,.slice none 0 0)):=fun k q hq=>by
  rcases Nat.lt_or_ge k bs.length with hk|hk
  ·rw [List.getElem?_append_left hk] at hq;exact .inl hq
  ·have hl:=(List.getElem?_eq_some_iff.1 hq).1
   simp only[List.length_append,List.length_cons,List.length_nil] at hl;obtain rfl:k=bs.length:=by omega
   simp only[List.getElem?_concat_length,Option.some.injEq] at hq;exact .inr ⟨rfl,hq.symm⟩
 have splitA:∀k (t:St),(A++[s])[k]?=some t->A[k]?=some t\/(k=bs.length/\t=s):=fun k t hq=>by
  rcases Nat.lt_or_ge k A.length with hk|hk
  ·rw [List.getElem?_append_left hk] at hq;exact .inl hq
  ·have hl:=(List.getElem?_eq_some_iff.1 hq).1
   simp only[List.length_append,List.length_cons,List.length_nil] at hl;have:=h.len;obtain rfl:k=A.length:=by omega
   simp only[List.getElem?_concat_length,Option.some.injEq] at hq;exact .inr ⟨by omega,hq.symm⟩
 have both:∀k (q:Nat×Value) (t:St),(bs++[(p,Value.slice none 0 0)])[k]?=some q->(A++[s])[k]?=some t->(bs[k]?=some q/\A[k]?=some t)\/(q=(p,.slice none 0 0)/\t=s):=fun k q t hq ht=>by
  rcases split k q hq with h1|⟨h1,h2⟩
  ·rcases splitA k t ht with h3|⟨h3,h4⟩
   ·exact .inl ⟨h1,h3⟩
   ·have:=(List.getElem?_eq_some_iff.1 h1).1;omega
  ·rcases splitA k t ht with h3|⟨h3,h4⟩
   ·have:=(List.getElem?_eq_some_iff.1 h3).1
    have:=h.len;omega
   ·exact .inr ⟨h2,h4⟩
 refine⟨hr,h.hB,qj.chg h.obs hc fun g hg=>?_,ht,by simp[h.len],fun k q t hq ht=>?_,?_,fun j k q r hq hr hne g hg=>?_,⟨h.by_.1,MY',hY,fun k q t hq ht=>?_,fun x hx=>?_⟩,⟨h.bz.1,MZ',hZ,fun x hx=>?_,fun x hx=>?_⟩,h.ne⟩
 ·obtain ⟨cs,fz,hh⟩:=qj.typ h.obs hg
  exact notA g cs _ fz hh (by decide) (by decide)
 ·rcases both k q t hq ht with⟨h1,h2⟩|⟨rfl,rfl⟩
  ·refine (h.sts k q t h1 h2).chg hc fun g hg=>?_
   obtain⟨cs,t',fz,hh,ht'⟩:=(h.sts k q t h1 h2).typ hg;rcases ht' with rfl|rfl
   ·exact notA g cs _ fz hh (by decide) (by decide)
   ·exact notA g cs _ fz hh (by decide) (by decide)
  ·exact hs
 ·rw [List.map_append]
  refine List.nodup_append.2 ⟨h.nod,by simp,?_⟩;intro a ha b hb;simp only[List.map_cons,List.map_nil,List.mem_singleton] at hb;subst hb;obtain⟨q,hq,rfl⟩:=List.mem_map.1 ha;obtain⟨k,hk⟩:=List.mem_iff_getElem?.1 hq;obtain⟨t,-,hst⟩:=old k q hk;have:=qd hst.row;exact fun e=>by omega
 ·rcases split j q hq with h1|⟨-,rfl⟩
  ·rcases split k r hr with h2|⟨-,rfl⟩
   ·exact h.dis j k q r h1 h2 hne g hg
   ·simp [Value.ownBlock]
  ·simp [Value.ownBlock] at hg
 ·rcases both k q t hq ht with⟨h1,h2⟩|⟨rfl,rfl⟩
  ·rw [f3 t.id ?_]
   ·exact f1 k q t h1 h2
   ·intro e
    exact hno ⟨t,List.mem_of_getElem? h2,e⟩
  ·exact f4
 ·rw [f3 x ?_]
  ·exact f2 x fun⟨t,ht,e⟩=>hx ⟨t,by simp[ht],e⟩
  ·rintro rfl
   exact hx ⟨s,by simp,rfl⟩
 ·rw [f6 x fun e=>hx (.inr e)]
  exact f5.1 x fun e=>hx (.inl e)
 ·by_cases e:x=s.thread
  ·rw [e];exact⟨p,f7⟩
  ·rw [f6 x e]
   rcases hx with hx|hx
   ·exact f5.2 x hx
   ·exact absurd hx e
theorem UA {s:St} {x:Int} (hs:s.stand≠5):(yI x A\/x=s.thread)↔yI x (A++[s]):=by
 constructor
 ·rintro (⟨t,ht,h⟩|rfl)
  ·exact ⟨t,by simp[ht],h⟩
  ·exact ⟨s,by simp,rfl,hs⟩
 ·rintro ⟨t,ht,h,h5⟩
  rcases List.mem_append.1 ht with ht|ht
  ·exact .inl ⟨t,ht,h,h5⟩
  ·rw [List.mem_singleton.1 ht] at h;exact .inr h.symm
end
def xN (n:Nat) (e:Ev) (s:St):Option St:=
 if e.kind=2 then(if s.stand=1 then some (QG e n s) else none)
 else if e.kind=3 then(if s.stand=2 then match s.deeds.getLast? with
  |some d=>if Qc d.op e.ret=true then some (jw e.ret e.val n s) else none
  |none=>none
  else none)
 else if e.kind=4 then(if s.stand=1 then some (Rk n s) else none)
 else if e.kind=5 then(if s.stand=3 then some (Zz 3 n s) else none)
 else if e.kind=6 then(if s.stand=1\/s.stand=2\/s.stand=3\/s.stand=4 then some (Zz 4 n s) else none)
 else if e.kind=7 then(if s.stand=1 then some (NA s) else none)
 else none
def qfR (x:Int) (A:Au):Bool:=A.any fun s=>s.id==x
def qdl (x:Int) (A:Au):Bool:=A.any fun s=>s.thread==x&&s.stand !=5
theorem Yj {x:Int} {A:Au}:qfR x A=true↔uw x A:=by simp[qfR,uw]
theorem Xf {x:Int} {A:Au}:qdl x A=true↔yI x A:=by simp[qdl,yI]
def jP (A:Au) (n:Nat) (e:Ev):Option Au:=
 if e.kind=1 then(if qfR e.tx A||qdl e.thread A then none else some (A++[Qq e n]))
 else match A.findIdx? (fun s=>s.id==e.tx) with
  |none=>none
  |some k=>match A[k]? with
   |some s=>(xN n e s).map fun s'=>A.set k s'
   |none=>none
def zr (A:Au) (n:Nat):List Ev->Option Au
 |[]=>some A
 |e::l=>(jP A n e).bind fun A'=>zr A' (n+1) l
def xg (os:List Ob) (es:List Ev):Option Au:=if yz os es then zr [] 0 es else none
theorem vd {e:Ev}:∀{l:List Ev} {A:Au} {n:Nat},zr A n (l++[e])=(zr A n l).bind fun A'=>jP A' (n+l.length) e
 |[],A,n=>by
  simp only[List.nil_append,zr,Option.bind_some,List.length_nil,Nat.add_zero];cases jP A n e <;> rfl
 |x::l,A,n=>by
  simp only[List.cons_append,zr];cases h:jP A n x with
  |none=>rfl
  |some A'=>
   simp only[Option.bind_some];rw[vd];simp only[List.length_cons];congr 1;funext A'';congr 1;omega
theorem yM {n:Nat} {x:Ev} {s s':St} (hm:xN n x s=some s'):
  x.kind=2/\s.stand=1/\s'=QG x n s\/(x.kind=3/\s.stand=2/\∃d,s.deeds.getLast?=some d/\Qc d.op x.ret=true/\s'=jw x.ret x.val n s)\/x.kind=4/\s.stand=1/\s'=Rk n s\/x.kind=5/\s.stand=3/\s'=Zz 3 n s\/
   x.kind=6/\(s.stand=1\/s.stand=2\/s.stand=3\/s.stand=4)/\s'=Zz 4 n s\/x.kind=7/\s.stand=1/\s'=NA s:=by
 unfold xN at hm
 split at hm
 ·rename_i hk
  split at hm
  ·rename_i h1;exact .inl ⟨hk,h1,(Option.some.inj hm).symm⟩
  ·cases hm
 ·split at hm
  ·rename_i hk
   split at hm
   ·rename_i h1
    cases hd:s.deeds.getLast? with
    |none=>rw[hd] at hm;cases hm
    |some d=>
     rw[hd] at hm;simp only at hm
     split at hm
     ·rename_i h2
      exact .inr (.inl ⟨hk,h1,d,rfl,h2,(Option.some.inj hm).symm⟩)
     ·cases hm
   ·cases hm
  ·split at hm
   ·rename_i hk
    split at hm
    ·rename_i h1;exact .inr (.inr (.inl ⟨hk,h1,(Option.some.inj hm).symm⟩))
    ·cases hm
   ·split at hm
    ·rename_i hk
     split at hm
     ·rename_i h1;exact .inr (.inr (.inr (.inl ⟨hk,h1,(Option.some.inj hm).symm⟩)))
     ·cases hm
    ·split at hm
     ·rename_i hk
      split at hm
      ·rename_i h1;exact .inr (.inr (.inr (.inr (.inl ⟨hk,h1,(Option.some.inj hm).symm⟩))))
      ·cases hm
     ·split at hm
      ·rename_i hk
       split at hm
       ·rename_i h1;exact .inr (.inr (.inr (.inr (.inr ⟨hk,h1,(Option.some.inj hm).symm⟩))))
       ·cases hm
      ·cases hm
theorem Qr {n:Nat} {x:Ev} {s s':St} (hm:xN n x s=some s'):s'.id=s.id/\s'.thread=s.thread/\s.stand≠5:=by
 rcases yM hm with⟨h1,h2,rfl⟩|⟨h1,h2,d,hd,-,rfl⟩|⟨h1,h2,rfl⟩|⟨h1,h2,rfl⟩|⟨h1,h2,rfl⟩|⟨h1,h2,rfl⟩
 ·exact ⟨rfl,rfl,by omega⟩
 ·unfold jw;rw[hd];exact⟨rfl,rfl,by omega⟩
 ·exact ⟨rfl,rfl,by omega⟩
 ·exact ⟨rfl,rfl,by omega⟩
 ·exact ⟨rfl,rfl,by omega⟩
 ·exact ⟨rfl,rfl,by omega⟩
theorem RS {n:Nat} {x:Ev} {s:St} (hk2:2<=x.kind) (hk8:x.kind < 8) (h:s.stand ∉ qR x.kind):xN n x s=none:=by
 cases hm:xN n x s with
 |none=>rfl
 |some s'=>
  exfalso;apply h;rcases yM hm with⟨h1,h2,-⟩|⟨h1,h2,-⟩|⟨h1,h2,-⟩|⟨h1,h2,-⟩|⟨h1,h2,-⟩|⟨h1,h2,-⟩ <;> rw[h1] <;> first|(rw[h2];decide)|(rcases h2 with h2|h2|h2|h2 <;> rw[h2] <;> decide)
theorem RO {n:Nat} {x:Ev} {s:St} (hk2:2<=x.kind) (hk8:x.kind < 8) (h:s.stand ∈ qR x.kind) (hm:xN n x s=none):x.kind=3/\s.stand=2/\∀d,s.deeds.getLast?=some d->Qc d.op x.ret=false:=by
 have hk:x.kind=2\/x.kind=3\/x.kind=4\/x.kind=5\/x.kind=6\/x.kind=7:=by omega
 unfold xN at hm;rcases hk with e|e|e|e|e|e <;> rw[e] at h hm <;> simp[qR] at h <;> simp[h] at hm
 refine⟨e,h,fun d hd=>?_⟩;rw[hd] at hm;simpa using hm
section
attribute [local irreducible] xE
def QP (B:Nat) (w:World) (e:Ending) (w':World):Prop:=(∃t x,e=.returned (.iface t x))/\Below B w w'
def qdr (w:World) (B:Nat) (p:Nat×Value) (r:Option St) (e:Ending) (w':World):Prop:=match r with
 |some s'=>Zt w B p s' e w'
 |none=>QP w.heap.size w e w'
section
variable {w:World} {B p:Nat} {dv:Value} {s:St}
theorem qgY (xk xx xh xj xo xy xv xr:Int) (n:Nat) (d:Dd) (h:jo w B (p,dv) s) (hd:s.deeds.getLast?=some d) (hE:jz w 16) (hl:s.deeds.length<=1000):
  Calls Tryz.prog 173 #[.pointer (some ⟨p,0,none⟩),Xc ⟨xk,xx,xh,xj,xo,xy,xv,xr⟩,.int .i64 n] w (qdr w B (p,dv) (if Qc d.op xr=true then some (jw xr xv n s) else none)):=by
 obtain⟨r,hr⟩:∃r,r=(if Qc d.op xr=true then some (jw xr xv n s) else none):=⟨_,rfl⟩
 rw[←hr];have HR:=qh hr;clear hr;have l0:=qd h.row;have hB:B<=p:=h.hB;have H:=qh h;have r0:=h.row;have hne0:s.deeds≠[]:=by rintro e;rw[e] at hd;cases hd
 obtain⟨g,cap,rfl,hgB,hgl⟩:∃g cap,dv=.slice (some ⟨g,0,none⟩) s.deeds.length cap/\B<=g/\g < w.heap.size:=by
  rcases qj.form h.dds with⟨-,h2⟩|⟨g,cap,h1,h2,h3⟩
  ·exact absurd h2 hne0
  ·exact ⟨g,cap,h1,h2,h3⟩
 have hdn:jw xr xv n s={s with stand:=1,deeds:=s.deeds.dropLast++[Zc d xr xv n]}:=by unfold jw;rw[hd]
 obtain⟨m,hm⟩:∃m,s.deeds.length=m+1:=⟨s.deeds.length - 1,by have:=List.length_pos_iff.2 hne0;omega⟩
 have hdm:s.deeds[m]?=some d:=by rw[List.getLast?_eq_getElem?,hm] at hd;simpa using hd
 have hls:∀x:Dd,s.deeds.set m x=s.deeds.dropLast++[x]:=fun x=>by
  have h1:=Wu hd;have h2:s.deeds.dropLast.length=m:=by rw[List.length_dropLast,hm];rfl
  conv=>lhs;rw[h1]
  rw[List.set_append_right _ _ (by omega),h2,Nat.sub_self];rfl
 obtain⟨q,hq⟩:∃q,s.deeds.length=q:=⟨_,rfl⟩
 rw[hq] at h r0 H ⊢;have q1:((q:Int) - 1)=(m:Int):=by omega
 have q2:m < q:=by omega
 have qw:IntKind.i64.wrap (m:Int)=(m:Int):=IntWalk.i64_in _ (by omega);have hgp:g≠p:=by
  rintro rfl;obtain⟨cs,fz,hh⟩:=qj.typ h.dds (g:=g) rfl;rw[r0] at hh;simp[uX] at hh
 have y:=qa r0;have y6:=y 6;have y7:=y 7;simp[uX] at y6 y7;have DD:=h.dds;simp only at DD;have SS:=qj.sl DD;rw[hq] at SS;obtain⟨b',off',x',hat',hb',hx',hc'⟩:=SS.atF Dd.len hq (k:=m) (by omega);simp only[Option.some.injEq,Addr.mk.injEq] at hat';obtain⟨rfl,rfl,-⟩:=hat';rw[hdm] at hx';obtain rfl:=Option.some.inj hx';have c1:=hc' 1 (by decide);have c4:=hc' 4 (by decide);have c5:=hc' 5 (by decide);have c7:=hc' 7 (by decide);simp[Dd.cells] at c1 c4 c5 c7;have bW:Below w.heap.size w (w.alloc (.cells #[.int .i64 xk,.int .i64 xx,.int .i64 xh,.int .i64 xj,.int .i64 xo,.int .i64 xy,.int .i64 xv,.int .i64 xr] 69)):=(Below.refl _ w).alloc (Nat.le_refl _) _;have re:=qy w (.cells #[.int .i64 xk,.int .i64 xx,.int .i64 xh,.int .i64 xj,.int .i64 xo,.int .i64 xy,.int .i64 xv,.int .i64 xr] 69);have hzW:(w.alloc (.cells #[.int .i64 xk,.int .i64 xx,.int .i64 xh,.int .i64 xj,.int .i64 xo,.int .i64 xy,.int .i64 xv,.int .i64 xr] 69)).heap.size=w.heap.size+1:=by simp
 have HM:=qh hm;have HDM:=qh hdm;have HLS:=qh hls;have HDN:=qh hdn;clear y h hc' hb' hm hdm hx' hd hdn hls H hne0;go_enter Tryz.func173,Tryz.ntmps173;go_wp2_with fail;generalize w.alloc (.cells #[.int .i64 xk,.int .i64 xx,.int .i64 xh,.int .i64 xj,.int .i64 xo,.int .i64 xy,.int .i64 xv,.int .i64 xr] 69)=W at *;have y6:=qx bW l0 y6;have y7:=qx bW l0 y7;have c1:=qx bW hgl c1;have c4:=qx bW hgl c4;have c5:=qx bW hgl c5;have c7:=qx bW hgl c7;have r1:=qp r0 bW l0;have D1:=qj.below DD bW;have yf:∀j,W.frozen? ⟨p,j,none⟩=false:=fun j=>qB r1 j;have gf:∀j,W.frozen? ⟨g,j,none⟩=false:=fun j=>qj.free D1 j;have lp:p < W.heap.size:=by omega
 have lg:g < W.heap.size:=by omega
 have le:w.heap.size < W.heap.size:=by omega
 have hpe:p≠w.heap.size:=by omega
 have hge:g≠w.heap.size:=by omega
 have hpg:p≠g:=fun e=>hgp e.symm;have e6:=qa re 6;have e7:=qa re 7;simp at e6 e7;have R1:=qh r1;have DD1:=qh D1;have BW:=qh bW;have HE:=qh hE;clear hE;clear r0 r1 D1 DD bW re;refine qI (W.heap.size) [0,0,0,0,1,0,0,0,0,1,0,0,0,0] (.fin [0,1,2,3,4,5,6,7,8,9,10,11,12,13]) (by kernel_rfl) ?_;simp only[xi,qP,qA,sD,sE,sF,sG]
 repeat first|(refine qz fun K hK=>?_;go_simp;refine hK _ _ ?_;clear hK K)|(apply qC;(intro w2 hw2;have hk1:=hw2.cell;have hk3:=hw2.1;clear hw2;go_simp;with_reducible rfl);simp only[Act.put,sA,sB,sC])|refine qu ?_
 go_wp2_with fail;refine qI (W.heap.size) [0,0,0,1,0,1,3,0] (.fin [0,1,2,3,4,5,6,7]) (by kernel_rfl) ?_;simp only[xi,qP,qA,sD,sE,sF,sG]
 repeat first|(refine qz fun K hK=>?_;go_simp;refine hK _ _ ?_;clear hK K)|(apply qC;(intro w2 hw2;have hk1:=hw2.cell;have hk3:=hw2.1;clear hw2;go_simp;with_reducible rfl);simp only[Act.put,sA,sB,sC])
 refine qG (fun K hK=>?_);go_simp;refine(qfY d.op xr _).mono ?_;rintro e W2 ⟨rfl,hw⟩;refine hK _ _ (by rw[hw];exact RN.KeepsN.of_below (Below.refl _ _)) ?_;clear hK K;rw[hw];clear hw W2;cases hff:Qc d.op xr with
 |false=>
  have hE3:=HE.o.below BW.o;obtain⟨hg3,te,xe,he3⟩:=hE3
  repeat first|(refine qz fun K hK=>?_;go_simp;refine hK _ _ ?_;clear hK K)|refine qu ?_
  go_wp2_with fail;refine bodyPost_ret (v:=.iface te xe) (by simp[results,Tryz.results173,go_sem]) rfl ?_;have hr:=HR.o;rw[hff,if_neg (by decide)] at hr;subst hr;show QP _ _ _ _;exact⟨⟨_,_,rfl⟩,BW.o.drew.drew⟩
 |true=>
  repeat first|(refine qz fun K hK=>?_;go_simp;refine hK _ _ ?_;clear hK K)|refine qu ?_
  go_wp2_with fail;refine qaZ (fun k=>k=w.heap.size) [0,0,0,0,0,1,0,1,0,0,0,3,0,0,3,0,0,3,0,0,3] (.fin [0,1,2,3,4,5,6,7,8,9,10,11,12,13,14,15,16,17,18,19,20]) (by kernel_rfl) ?_;simp only[xi,qP,qA,sD,sE,sF,sG]
  repeat first|(refine qz fun K hK=>?_;go_simp;refine hK _ _ ?_;clear hK K)|(apply qC;(intro w2 hw2;have hk1:=hw2.cell;(try simp only at hk1);have hk3:=hw2.1;clear hw2;go_simp;with_reducible rfl);simp only[Act.put,sA,sB,sC])
  refine qG (fun K hK=>?_);go_simp;refine hK _ _ (RK.KeepsN.set _ _ _ hpe) ?_;clear hK K
  repeat (refine qz fun K hK=>?_;go_simp;refine hK _ _ ?_;clear hK K)
  refine qG (fun K hK=>?_);go_simp;refine hK _ _ (RK.KeepsN.set _ _ _ hge) ?_;clear hK K
  repeat (refine qz fun K hK=>?_;go_simp;refine hK _ _ ?_;clear hK K)
  refine qG (fun K hK=>?_);go_simp;refine hK _ _ (RK.KeepsN.set _ _ _ hge) ?_;clear hK K
  repeat (refine qz fun K hK=>?_;go_simp;refine hK _ _ ?_;clear hK K)
  refine qG (fun K hK=>?_);go_simp;refine hK _ _ (RK.KeepsN.set _ _ _ hge) ?_;clear hK K
  repeat refine qu ?_
  go_wp2;go_ret;have hml:m < s.deeds.length:=by rw[HM.o];omega
  have d0:XG (W.setCell ⟨p,7,none⟩ (.int .i64 1)) B (.slice (some ⟨g,0,none⟩) q cap) s.deeds:=qj.other DD1.o (fun h=>hgp (by simpa[Value.ownBlock] using h)) _;have d1:=qj.setAt d0 Dd.len HDM.o (j:=4) (u:=.int .i64 xr) (x':={d with ret:=xr}) (by decide) rfl;have d2:=qj.setAt d1 Dd.len (List.getElem?_set_self hml) (j:=5) (u:=.int .i64 xv) (x':={d with ret:=xr,got:=xv}) (by decide) rfl;have d3:=qj.setAt d2 Dd.len (List.getElem?_set_self (by simpa using hml)) (j:=7) (u:=.int .i64 n) (x':=Zc d xr xv n) (by decide) rfl;rw[List.set_set,List.set_set,HLS.o] at d3;have hr:=HR.o;rw[hff,if_pos rfl] at hr;subst hr;show Zt _ _ _ _ _ _;refine⟨rfl,_,?_,?_,fun k hk=>.inl hk⟩
  ·rw [HDN.o]
   exact⟨qJ (qJ (qJ (qq R1.o 7 (.int .i64 1)) hgp) hgp) hgp,hB,d3⟩
  ·have hc:=zo.of_below (S:=Rn (p,.slice (some ⟨g,0,none⟩) q cap)) BW.o
   exact((((hc.set (.inl rfl)).set (.inr rfl)).set (.inr rfl)).set (.inr rfl)).drew.drew.drew
end
theorem JT {W:World} {B B0 p n:Nat} {dv:Value} {s:St} {F:FuncId} {caps:Array Value} (xk xx xh xj xo xy xv xr:Int) (hst:jo W B (p,dv) s) (hd:uD W B0 xk F caps) (hp:p < B0) (hk2:2<=xk) (hk8:xk < 8) (hfr:s.stand ∈ qR xk) (hdl:s.stand=2->s.deeds≠[]) (hl:s.deeds.length<=1000) (hE:jz W 16):
  Calls Tryz.prog F (#[.pointer (some ⟨p,0,none⟩),Xc ⟨xk,xx,xh,xj,xo,xy,xv,xr⟩,.int .i64 n]++caps) W (qdr W B (p,dv) (xN n ⟨xk,xx,xh,xj,xo,xy,xv,xr⟩ s)):=by
 have hk:xk=2\/xk=3\/xk=4\/xk=5\/xk=6\/xk=7:=by omega
 rcases hk with rfl|rfl|rfl|rfl|rfl|rfl <;> simp[qR] at hfr <;> rcases hd with⟨e1,rfl,rfl⟩|⟨e1,rfl,rfl⟩|⟨e1,rfl,rfl⟩|⟨e1,rfl,rfl⟩|⟨rfl,c,st,e1,rfl,hc,hcB⟩ <;> first|(exfalso;omega)|skip
 ·have:xN n ⟨2,xx,xh,xj,xo,xy,xv,xr⟩ s=some (QG ⟨2,xx,xh,xj,xo,xy,xv,xr⟩ n s):=by simp[xN,hfr]
  rw[this];exact qdZ 2 xx xh xj xo xy xv xr n hst hl
 ·obtain ⟨d,hd⟩:∃d,s.deeds.getLast?=some d:=⟨_,List.getLast?_eq_some_getLast (hdl hfr)⟩
  have:xN n ⟨3,xx,xh,xj,xo,xy,xv,xr⟩ s=if Qc d.op xr=true then some (jw xr xv n s) else none:=by simp[xN,hfr,hd]
  rw[this];exact qgY 3 xx xh xj xo xy xv xr n d hst hd hE hl
 ·have:xN n ⟨4,xx,xh,xj,xo,xy,xv,xr⟩ s=some (Rk n s):=by simp[xN,hfr]
  rw[this];exact qfI 4 xx xh xj xo xy xv xr n hst
 ·have:xN n ⟨5,xx,xh,xj,xo,xy,xv,xr⟩ s=some (Zz 3 n s):=by simp[xN,hfr]
  rw[this];obtain rfl:st=3:=by omega
  exact qbM 5 xx xh xj xo xy xv xr n c 3 hc (by omega) hst
 ·have:xN n ⟨6,xx,xh,xj,xo,xy,xv,xr⟩ s=some (Zz 4 n s):=by simp[xN,hfr]
  rw[this];obtain rfl:st=4:=by omega
  exact qbM 6 xx xh xj xo xy xv xr n c 4 hc (by omega) hst
 ·have:xN n ⟨7,xx,xh,xj,xo,xy,xv,xr⟩ s=some (NA s):=by simp[xN,hfr]
  rw[this];exact qfK 7 xx xh xj xo xy xv xr n hst
end
section
attribute [local irreducible] xE
def ZO (w:World) (B bA:Nat) (os:List Ob) (n:Nat) (A':Au) (e:Ending) (w':World):Prop:=e=.returned .nilIface/\uH w' B bA os (n+1) A'/\Below B w w'
theorem jL {N:Nat->Prop} {w w':World} {b:Nat} (h:w.mapTurned w' b) (hb:¬N b):RK.KeepsN N w w':=⟨by rw[qU h];exact Nat.le_refl _,fun k hk=>qE h (by rintro rfl;exact hb hk)⟩
def qdx (w:World) (B bA:Nat) (os:List Ob) (n:Nat) (r:Option Au) (e:Ending) (w':World):Prop:=match r with
 |some A'=>ZO w B bA os n A' e w'
 |none=>QP B w e w'
structure jy (w:World):Prop where
 g:Ul w
 twice:jz w 12
 thread:jz w 13
 tx:jz w 11
 order:jz w 14
 answer:jz w 16
theorem jy.below {w w':World} (h:jy w) (hb:Below w.heap.size w w'):jy w':=⟨h.g.below hb,h.twice.below hb,h.thread.below hb,h.tx.below hb,h.order.below hb,h.answer.below hb⟩
theorem qcu (xk xx xh xj xo xy xv xr:Int) {B bA n:Nat} {os:List Ob} {A:Au} (w:World) (hval:xP ⟨xk,xx,xh,xj,xo,xy,xv,xr⟩=true) (hdr:dI xr) (hk:xk=1) (hi:¬uw xx A) (hb:¬yI xh A) (hn:n < 400) (hA:A.length<=1000) (h:uH w B bA os n A) (hW:xu w) (hG:jy w):
  Calls Tryz.prog 78 #[.pointer (some ⟨bA,0,none⟩),Xc ⟨xk,xx,xh,xj,xo,xy,xv,xr⟩] w (ZO w B bA os n (A++[Qq ⟨xk,xx,xh,xj,xo,xy,xv,xr⟩ n])):=by
 obtain⟨bY,bZ,ov,tv,bs,h⟩:=h;have r0:=h.row;have l0:=qd r0;have y:=qa r0;have y1:=y 1;simp at y1;have b0:Below w.heap.size w (w.alloc (.cells #[.int .i64 xk,.int .i64 xx,.int .i64 xh,.int .i64 xj,.int .i64 xo,.int .i64 xy,.int .i64 xv,.int .i64 xr] 69)):=(Below.refl _ w).alloc (Nat.le_refl _) _;have re:=qy w (.cells #[.int .i64 xk,.int .i64 xx,.int .i64 xh,.int .i64 xj,.int .i64 xo,.int .i64 xy,.int .i64 xv,.int .i64 xr] 69);obtain⟨hgc,tc,xc,hec⟩:=(hG.g.below b0).code;obtain⟨hge,te,xe,hee⟩:=(hG.g.below b0).event;have hv:=ji ⟨xk,xx,xh,xj,xo,xy,xv,xr⟩ hdr _ (hW.below b0) _ _ hgc hec hge hee;rw[hval] at hv;simp only[if_true] at hv;have hv:=qh hv;have HG:=qh hG;clear hgc hec hge hee hG hval;have q1:((n:Int)==400)=false:=by simp;omega
 have HI:=qh hi;have HBs:=qh hb;have H:=qh h;have HB0:=qh b0;have RE:=qh re;have hAB:=h.hB;have hBw:B<=w.heap.size:=by omega
 subst hk;clear y r0 h hi hb hW b0 re;go_enter Tryz.func78,Tryz.ntmps78;go_wp2_with fail;obtain⟨W,hWW⟩:∃W,W=w.alloc (.cells #[.int .i64 1,.int .i64 xx,.int .i64 xh,.int .i64 xj,.int .i64 xo,.int .i64 xy,.int .i64 xv,.int .i64 xr] 69):=⟨_,rfl⟩
 rw[←hWW] at hv HB0 RE ⊢;clear hWW;refine(hv.o).mono ?_;rintro e W1 ⟨rfl,b1⟩;have H1:=qh ((H.o.below HB0.o).below b1);have B1:=qh (HB0.o.trans (b1.mono HB0.o.size));have re1:=qp RE.o b1 (qd RE.o);have le:=qd re1;have ra1:=H1.o.row;have la:=qd ra1;have hea:w.heap.size≠bA:=by omega
 have hz1:=B1.o.size;have hbew:w.heap.size < W1.heap.size:=le;have y:=qa re1;have e0:=y 0;have e1:=y 1;have e2:=y 2;simp at e0 e1 e2;have z:=qa ra1;have a1:=z 1;have a2:=z 2;have a3:=z 3;have a4:=z 4;simp at a1 a2 a3 a4;have yf:∀j,W1.frozen? ⟨bA,j,none⟩=false:=fun j=>qB ra1 j;obtain⟨MY,hmY,f1,f2⟩:=H1.o.by_.2;obtain⟨MZ,hmZ,f5⟩:=H1.o.bz.2;have lY:=hmY.lt;have lZ:=hmZ.lt;have lk1:=(hmY.drew.look Tryz.underlying3 Tryz.underlying174 (jb W1.drew) xx (f2 xx HI.o)).2;have lk2:=(hmZ.drew.drew.look Tryz.underlying3 Tryz.underlying174 (jb W1.drew.drew) xh (f5.1 xh HBs.o)).1;simp only[Option.getD_none,Option.isSome_none] at lk1 lk2;have RE1:=qh re1;have RA1:=qh ra1;have F:=qh (And.intro hmY (And.intro f1 (And.intro f2 (And.intro hmZ f5))));clear y z re1 ra1 hmY f1 f2 hmZ f5 b1 hv;go_wp2_with fail;refine qI (W1.heap.size) [0,0,0,1,0,1,2,0,0,0,0,0] (.fin [0,1,2,3,4,5,6,7,8,9,10,11]) (by kernel_rfl) ?_;simp only[xi,qP,qA,sD,sE,sF,sG]
 repeat first|(refine qz fun K hK=>?_;go_simp;refine hK _ _ ?_;clear hK K)|(apply qC;(intro w2 hw2;have hk1:=hw2.cell;have hk3:=hw2.1;clear hw2;go_simp;with_reducible rfl);simp only[Act.put,sA,sB,sC])
 refine qM (fun K hK=>?_);go_simp;refine hK _ _ ?_;clear hK K lk1
 repeat first|(refine qz fun K hK=>?_;go_simp;refine hK _ _ ?_;clear hK K)|refine qu ?_
 go_wp2_with fail;refine qI (W1.heap.size) [0,0,0,1,0,1,2,0,0] (.fin [0,1,2,3,4,5,6,7,8]) (by kernel_rfl) ?_;simp only[xi,qP,qA,sD,sE,sF,sG]
 repeat first|(refine qz fun K hK=>?_;go_simp;refine hK _ _ ?_;clear hK K)|(apply qC;(intro w2 hw2;have hk1:=hw2.cell;have hk3:=hw2.1;clear hw2;go_simp;with_reducible rfl);simp only[Act.put,sA,sB,sC])
 refine qM (fun K hK=>?_);go_simp;refine hK _ _ ?_;clear hK K lk2
 repeat first|(refine qz fun K hK=>?_;go_simp;refine hK _ _ ?_;clear hK K)|refine qu ?_
 go_wp2_with fail;refine qI (W1.heap.size) [0,1,0,1,0,0,0,1,0,0,3,0] (.fin [0,1,2,3,4,5,6,7,8,9,10,11]) (by kernel_rfl) ?_;simp only[xi,qP,qA,sD,sE,sF,sG]
 repeat first|(refine qz fun K hK=>?_;go_simp;refine hK _ _ ?_;clear hK K)|(apply qC;(intro w2 hw2;have hk1:=hw2.cell;have hk3:=hw2.1;clear hw2;go_simp;with_reducible rfl);simp only[Act.put,sA,sB,sC])
 refine qG (fun K hK=>?_);go_simp;refine hK _ _ (RN.KeepsN.alloc _ _ (Nat.le_refl _)) ?_;clear hK K
 repeat first|(refine qz fun K hK=>?_;go_simp;refine hK _ _ ?_;clear hK K)|refine qu ?_
 have bV:Below W1.heap.size W1 (W1.alloc (.cells #[.int .i64 xx,.int .i64 xh,.int .i64 1,.int .i64 n,.int .i64 (-1),.int .i64 (-1),.slice none 0 0,.int .i64 1] 179)).drew.drew.drew:=((Below.refl _ W1).alloc (Nat.le_refl _) _).drew.drew.drew;have rp:(W1.alloc (.cells #[.int .i64 xx,.int .i64 xh,.int .i64 1,.int .i64 n,.int .i64 (-1),.int .i64 (-1),.slice none 0 0,.int .i64 1] 179)).drew.drew.drew.heap[W1.heap.size]?=some (.cells #[.int .i64 xx,.int .i64 xh,.int .i64 1,.int .i64 n,.int .i64 (-1),.int .i64 (-1),.slice none 0 0,.int .i64 1] 179 (0,0)):=qy W1 _;have zV:W1.heap.size < (W1.alloc (.cells #[.int .i64 xx,.int .i64 xh,.int .i64 1,.int .i64 n,.int .i64 (-1),.int .i64 (-1),.slice none 0 0,.int .i64 1] 179)).drew.drew.drew.heap.size:=qd rp;generalize (W1.alloc (.cells #[.int .i64 xx,.int .i64 xh,.int .i64 1,.int .i64 n,.int .i64 (-1),.int .i64 (-1),.slice none 0 0,.int .i64 1] 179)).drew.drew.drew=V at *;have HV:=qh (H1.o.below bV);have BV:=qh (B1.o.trans (bV.mono hz1));have BV1:=qh bV;have rv:=qp RA1.o bV la;have ev:=qp RE1.o bV le;have lv:=qd rv;have z:=qa rv;clear a1 a2 a3 a4 e0 e1 e2 yf;have a1:=z 1;have a2:=z 2;have a3:=z 3;have a4:=z 4;simp at a1 a2 a3 a4;have hBV:B<=V.heap.size:=by omega
 have hlen:(bs.map fun p=>xD p.1).length<=1000:=by rw[List.length_map,HV.o.len];exact hA
 have RV:=qh rv;have EV:=qh ev;have RP:=qh rp;clear z rv ev rp bV F lY lZ;go_wp2_with (at_builtin;refine qN rfl _ _ _ rfl _ 8 Tryz.underlying173 qfP rfl HV.o.txs (xD W1.heap.size) hBV (by rfl) (by rfl) (by first|rfl|simp) rfl (qdT _) (by first|omega|(simp only[List.length_append,List.length_cons,List.length_nil,List.length_replicate];omega)) (by first|omega|(simp only[List.length_append,List.length_cons,List.length_nil,List.length_replicate];omega)) ?_;refine qK.halt ?_)
 refine qK.go ?_;intro g cap X ho hg;have c1:=zo.grw (S:=fun k=>tv.ownBlock=some k) hg (fun _ h=>h);have rx:=qL RV.o hg (qj.neT HV.o.txs RV.o (by decide));have ex:=qL EV.o hg (qj.neT HV.o.txs EV.o (by decide));have px:=qL RP.o hg (qj.neT HV.o.txs RP.o (by decide));have notM:∀b,(∃es c,V.heap[b]?=some (.map es c))->¬tv.ownBlock=some b:=fun b hb hk=>by
  obtain⟨cs,fz,hh⟩:=qj.typ HV.o.txs hk;obtain⟨es,c,hb⟩:=hb;rw[hb] at hh;cases hh
 obtain⟨MY,hmY,f1,f2⟩:=HV.o.by_.2;obtain⟨MZ,hmZ,f5⟩:=HV.o.bz.2;have xY:=hmY.chg c1 (notM _ hmY.isMap);have xZ:=hmZ.chg c1 (notM _ hmZ.isMap);have lx:=qd rx;have zx:V.heap.size<=X.heap.size:=hg.size;clear a1 a2 a3 a4;have z:=qa rx;have a2:=z 2;simp at a2;have yf:∀j,X.frozen? ⟨bA,j,none⟩=false:=fun j=>qB rx j;have HX:=qh (And.intro ho (And.intro hg (And.intro c1 (And.intro rx (And.intro ex (And.intro px (And.intro xY xZ)))))));have FF:=qh (And.intro f1 (And.intro f2 f5));clear z ho hg c1 rx ex px xY xZ notM hmY hmZ f1 f2 f5;go_wp2_with fail;obtain⟨ho,hg,c1,rx,ex,px,xY,xZ⟩:=HX.o
 try simp only[List.length_map] at ho hg
 have hbe:bA≠w.heap.size:=fun e=>hea e.symm;have hpa:W1.heap.size≠bA:=by omega
 have r1:=qq rx 2 (.slice (some ⟨g,0,none⟩) (bs.length+1) cap);have v1:=qJ (g':=bA) (j:=2) (v:=.slice (some ⟨g,0,none⟩) (bs.length+1) cap) ex hbe;have p1:=qJ (g':=bA) (j:=2) (v:=.slice (some ⟨g,0,none⟩) (bs.length+1) cap) px (Ne.symm hpa);have nY:bY≠bA:=fun e=>by
  obtain⟨es,c,hh⟩:=xY.isMap;rw[e,rx] at hh;cases hh
 have nZ:bZ≠bA:=fun e=>by
  obtain⟨es,c,hh⟩:=xZ.isMap;rw[e,rx] at hh;cases hh
 have nYe:bY≠w.heap.size:=fun e=>by
  obtain⟨es,c,hh⟩:=xY.isMap;rw[e,ex] at hh;cases hh
 have nZe:bZ≠w.heap.size:=fun e=>by
  obtain⟨es,c,hh⟩:=xZ.isMap;rw[e,ex] at hh;cases hh
 have Y1:=xY.set (g:=bA) (j:=2) (v:=.slice (some ⟨g,0,none⟩) (bs.length+1) cap) nY;have Z1:=xZ.set (g:=bA) (j:=2) (v:=.slice (some ⟨g,0,none⟩) (bs.length+1) cap) nZ;have hgne:(Value.slice (some ⟨g,0,none⟩) (bs.length+1) cap).ownBlock≠some bA:=qj.neT ho rx (by decide);have T1:=qj.other (j:=2) ho hgne (.slice (some ⟨g,0,none⟩) (bs.length+1) cap);have zX:(X.setCell ⟨bA,2,none⟩ (.slice (some ⟨g,0,none⟩) (bs.length+1) cap)).heap.size=X.heap.size:=by simp
 have c2:zo (fun k=>k=bA\/tv.ownBlock=some k\/k=bY\/k=bZ) V (X.setCell ⟨bA,2,none⟩ (.slice (some ⟨g,0,none⟩) (bs.length+1) cap)):=(c1.mono fun j hj=>.inr (.inl hj)).set (.inl rfl);generalize X.setCell ⟨bA,2,none⟩ (.slice (some ⟨g,0,none⟩) (bs.length+1) cap)=Y at *;clear a2 yf;have z:=qa r1;have a1:=z 1;have a3:=z 3;have a4:=z 4;simp at a1 a3 a4;have y:=qa v1;have e1:=y 1;have e2:=y 2;simp at e1 e2;have HY:=qh (And.intro r1 (And.intro v1 (And.intro p1 (And.intro Y1 (And.intro Z1 (And.intro T1 c2))))));have lxY:V.heap.size<=Y.heap.size:=by omega
 clear z y r1 v1 p1 Y1 Z1 T1 c2 ho hg c1 rx ex px xY xZ zX;refine qaZ (fun k=>k=bA\/k=w.heap.size) [0,0,0,1,0,1,0,0,0,1,0,1,0,0,3,0,3,3,0,3] (.fin [0,1,2,3,4,5,6,7,8,9,10,11,12,13,14,15,16,17,18,19]) (by kernel_rfl) ?_;simp only[xi,qP,qA,sD,sE,sF,sG]
 repeat first|(refine qz fun K hK=>?_;go_simp;refine hK _ _ ?_;clear hK K)|(apply qC;(intro w2 hw2;have hk1:=hw2.cell;(try simp only at hk1);have hk3:=hw2.1;clear hw2;go_simp;with_reducible rfl);simp only[Act.put,sA,sB,sC])
 have nNY:¬(bY=bA\/bY=w.heap.size):=fun h=>h.elim nY nYe;have nNZ:¬(bZ=bA\/bZ=w.heap.size):=fun h=>h.elim nZ nZe;have hyz:=H1.o.ne;refine qG (fun K hK=>?_);refine HY.o.2.2.2.1.drew.wp_entry Tryz.underlying3 Tryz.underlying174 (jb _) (a:=xx) rfl rfl rfl ?_;intro X1 v1 n1 M1 ha1 hn1 t1;refine hK _ _ (jL t1 nNY) ?_;clear hK K
 repeat (refine qz fun K hK=>?_;go_simp;refine hK _ _ ?_;clear hK K)
 refine qG (fun K hK=>?_);refine ha1.wp_stored rfl rfl rfl rfl ?_;intro X2 hm2 t2;refine hK _ _ (jL t2 nNY) ?_;clear hK K;have zz2:qS X2 bZ MZ:=((HY.o.2.2.2.2.1.drew).obj (qE t1 (Ne.symm hyz))).obj (qE t2 (Ne.symm hyz));refine qG (fun K hK=>?_);refine zz2.wp_entry Tryz.underlying3 Tryz.underlying174 (jb _) (a:=xh) rfl rfl rfl ?_;intro X3 v3 n3 M3 ha3 hn3 t3;refine hK _ _ (jL t3 nNZ) ?_;clear hK K
 repeat (refine qz fun K hK=>?_;go_simp;refine hK _ _ ?_;clear hK K)
 refine qG (fun K hK=>?_);refine ha3.wp_stored rfl rfl rfl rfl ?_;intro X4 hm4 t4;refine hK _ _ (jL t4 nNZ) ?_;clear hK K;have yy4:=(hm2.obj (qE t3 hyz)).obj (qE t4 hyz);obtain⟨r1,v1,p1,Y1,Z1,T1,c2⟩:=HY.o;have r4:=jJ t4 (jJ t3 (jJ t2 (jJ t1 (jf r1))));have p4:=jJ t4 (jJ t3 (jJ t2 (jJ t1 (jf p1))));have c4:=(((c2.drew.trans (zo.turned (S:=fun k=>k=bY) t1 rfl) fun j _ hj=>.inr (.inr (.inl hj))).trans (zo.turned (S:=fun k=>k=bY) t2 rfl) fun j _ hj=>.inr (.inr (.inl hj))).trans (zo.turned (S:=fun k=>k=bZ) t3 rfl) fun j _ hj=>.inr (.inr (.inr hj))).trans (zo.turned (S:=fun k=>k=bZ) t4 rfl) fun j _ hj=>.inr (.inr (.inr hj));have tt:∀{P Q:World} {b:Nat},P.mapTurned Q b->qj Yw 177 1 P B (.slice (some ⟨g,0,none⟩) (bs.length+1) cap) (bs.map (fun p=>xD p.1)++[xD W1.heap.size])->qj Yw 177 1 Q B (.slice (some ⟨g,0,none⟩) (bs.length+1) cap) (bs.map (fun p=>xD p.1)++[xD W1.heap.size]):=fun {P Q b} ht ho=>qj.chg ho (zo.turned (S:=fun k=>k=b) ht rfl) fun k hk e=>by
  obtain⟨cs,fz,hh⟩:=qj.typ ho hk;obtain⟨es,c,es',c',hb,-⟩:=ht;rw[e,hb] at hh;cases hh
 have T4:=tt t4 (tt t3 (tt t2 (tt t1 (qj.drew T1))));have l4:=qd r4;clear a1 a3 a4 e1 e2;have z:=qa r4;have a1:=z 1;simp at a1;have yf:∀j,X4.frozen? ⟨bA,j,none⟩=false:=fun j=>qB r4 j;have H4:=qh (And.intro r4 (And.intro p4 (And.intro c4 (And.intro T4 (And.intro yy4 hm4)))));have HN:=qh (And.intro hn1 hn3);clear z r4 p4 c4 T4 yy4 hm4 tt r1 v1 p1 Y1 Z1 T1 c2 t1 t2 t3 t4 ha1 ha3 hm2 zz2 hn1 hn3 nNY nNZ HY
 repeat refine qu ?_
 go_wp2;go_ret;obtain⟨r4,p4,c4,T4,yy4,hm4⟩:=H4.o;obtain⟨f1,f2,f5⟩:=FF.o;have r5:=qq r4 1 (.int .i64 ((n:Int)+1));have cc:zo (fun k=>k=bA\/tv.ownBlock=some k\/k=bY\/k=bZ) W1 (X4.setCell ⟨bA,1,none⟩ (.int .i64 ((n:Int)+1))):=((zo.of_below BV1.o).trans c4 fun j _ hj=>hj).set (.inl rfl);have key:=H1.o.begun cc (n':=n+1) (p:=W1.heap.size) (tv':=.slice (some ⟨g,0,none⟩) (bs.length+1) cap) (s:=Qq ⟨1,xx,xh,xj,xo,xy,xv,xr⟩ n) r5 (by rw[List.map_append];exact qj.other T4 hgne _)
  ⟨qJ p4 (Ne.symm hpa),by show B<=W1.heap.size;omega,qj.nil _ _⟩ (Nat.le_refl _) (yy4.set nY) f1 f2 (fun k hk=>(qZ hk).trans (HN.o.1 k hk)) xC HI.o (hm4.set nZ) f5 (fun k hk=>(qZ hk).trans (HN.o.2 k hk)) xC rfl
 refine⟨rfl,⟨bY,bZ,ov,_,_,key.zmono fun x=>UA (by simp[Qq])⟩,?_⟩;have gY:=H1.o.by_.1;have gZ:=H1.o.bz.1;have gT:∀k,tv.ownBlock=some k->B<=k:=fun k hk=>(qj.lt H1.o.txs k hk).1;exact(B1.o.mono hBw).trans (cc.below (fun j hj=>by
  rcases hj with rfl|hj|rfl|rfl
  ·exact hAB
  ·exact gT j hj
  ·exact gY
  ·exact gZ) (by omega))
theorem qcw (xk xx xh xj xo xy xv xr:Int) {B bA n:Nat} {os:List Ob} {A:Au} (w:World) (hval:xP ⟨xk,xx,xh,xj,xo,xy,xv,xr⟩=true) (hdr:dI xr) (hk:xk=1) (hi:uw xx A) (hn:n < 400) (hA:A.length<=1000) (h:uH w B bA os n A) (hW:xu w) (hG:jy w):
  Calls Tryz.prog 78 #[.pointer (some ⟨bA,0,none⟩),Xc ⟨xk,xx,xh,xj,xo,xy,xv,xr⟩] w (QP B w):=by
 obtain⟨bY,bZ,ov,tv,bs,h⟩:=h;have r0:=h.row;have l0:=qd r0;have y:=qa r0;have y1:=y 1;simp at y1;have b0:Below w.heap.size w (w.alloc (.cells #[.int .i64 xk,.int .i64 xx,.int .i64 xh,.int .i64 xj,.int .i64 xo,.int .i64 xy,.int .i64 xv,.int .i64 xr] 69)):=(Below.refl _ w).alloc (Nat.le_refl _) _;have re:=qy w (.cells #[.int .i64 xk,.int .i64 xx,.int .i64 xh,.int .i64 xj,.int .i64 xo,.int .i64 xy,.int .i64 xv,.int .i64 xr] 69);obtain⟨hgc,tc,xc,hec⟩:=(hG.g.below b0).code;obtain⟨hge,te,xe,hee⟩:=(hG.g.below b0).event;have hv:=ji ⟨xk,xx,xh,xj,xo,xy,xv,xr⟩ hdr _ (hW.below b0) _ _ hgc hec hge hee;rw[hval] at hv;simp only[if_true] at hv;have hv:=qh hv;have HG:=qh hG;clear hgc hec hge hee hG hval;have q1:((n:Int)==400)=false:=by simp;omega
 have HI:=qh hi;have H:=qh h;have HB0:=qh b0;have RE:=qh re;have hAB:=h.hB;have hBw:B<=w.heap.size:=by omega
 subst hk;clear y r0 h hi hW b0 re;go_enter Tryz.func78,Tryz.ntmps78;go_wp2_with fail;obtain⟨W,hWW⟩:∃W,W=w.alloc (.cells #[.int .i64 1,.int .i64 xx,.int .i64 xh,.int .i64 xj,.int .i64 xo,.int .i64 xy,.int .i64 xv,.int .i64 xr] 69):=⟨_,rfl⟩
 rw[←hWW] at hv HB0 RE ⊢;clear hWW;refine(hv.o).mono ?_;rintro e W1 ⟨rfl,b1⟩;have H1:=qh ((H.o.below HB0.o).below b1);have B1:=qh (HB0.o.trans (b1.mono HB0.o.size));have re1:=qp RE.o b1 (qd RE.o);have le:=qd re1;have ra1:=H1.o.row;have la:=qd ra1;have hea:w.heap.size≠bA:=by omega
 have hz1:=B1.o.size;have hbew:w.heap.size < W1.heap.size:=le;have y:=qa re1;have e0:=y 0;have e1:=y 1;have e2:=y 2;simp at e0 e1 e2;have z:=qa ra1;have a1:=z 1;have a2:=z 2;have a3:=z 3;have a4:=z 4;simp at a1 a2 a3 a4;have yf:∀j,W1.frozen? ⟨bA,j,none⟩=false:=fun j=>qB ra1 j;obtain⟨MY,hmY,f1,f2⟩:=H1.o.by_.2;obtain⟨MZ,hmZ,f5⟩:=H1.o.bz.2;have lY:=hmY.lt;have lZ:=hmZ.lt;obtain⟨s,hs,hsi⟩:=HI.o;obtain⟨k,hk⟩:=List.mem_iff_getElem?.1 hs;obtain⟨bp,hbp,-⟩:=H1.o.get hk;have hMp:MY xx=some (xD bp.1):=by rw[←hsi];exact f1 k bp s hbp hk
 have lk1:=(hmY.drew.look Tryz.underlying3 Tryz.underlying174 (jb W1.drew) xx hMp).2;simp only[Option.getD_some,Option.isSome_some] at lk1;unfold xD at lk1;have RE1:=qh re1;have RA1:=qh ra1;clear y z re1 ra1 f1 f2 hmZ f5 b1 hv;go_wp2_with fail;refine qI (W1.heap.size) [0,0,0,1,0,1,2,0,0,0,0,0] (.fin [0,1,2,3,4,5,6,7,8,9,10,11]) (by kernel_rfl) ?_;simp only[xi,qP,qA,sD,sE,sF,sG]
 repeat first|(refine qz fun K hK=>?_;go_simp;refine hK _ _ ?_;clear hK K)|(apply qC;(intro w2 hw2;have hk1:=hw2.cell;have hk3:=hw2.1;clear hw2;go_simp;with_reducible rfl);simp only[Act.put,sA,sB,sC])
 refine qM (fun K hK=>?_);go_simp;refine hK _ _ ?_;clear hK K lk1
 repeat first|(refine qz fun K hK=>?_;go_simp;refine hK _ _ ?_;clear hK K)|refine qu ?_
 obtain⟨hg3,tw,xw,he3⟩:=HG.o.twice.below B1.o.drew;go_wp2_with fail;refine bodyPost_ret (v:=.iface tw xw) (by simp[results,Tryz.results78,go_sem]) rfl ⟨⟨_,_,rfl⟩,?_⟩;exact B1.o.drew.mono hBw
theorem qcv (xk xx xh xj xo xy xv xr:Int) {B bA n:Nat} {os:List Ob} {A:Au} (w:World) (hval:xP ⟨xk,xx,xh,xj,xo,xy,xv,xr⟩=true) (hdr:dI xr) (hk:xk=1) (hi:¬uw xx A) (hb:yI xh A) (hn:n < 400) (hA:A.length<=1000) (h:uH w B bA os n A) (hW:xu w) (hG:jy w):
  Calls Tryz.prog 78 #[.pointer (some ⟨bA,0,none⟩),Xc ⟨xk,xx,xh,xj,xo,xy,xv,xr⟩] w (QP B w):=by
 obtain⟨bY,bZ,ov,tv,bs,h⟩:=h;have r0:=h.row;have l0:=qd r0;have y:=qa r0;have y1:=y 1;simp at y1;have b0:Below w.heap.size w (w.alloc (.cells #[.int .i64 xk,.int .i64 xx,.int .i64 xh,.int .i64 xj,.int .i64 xo,.int .i64 xy,.int .i64 xv,.int .i64 xr] 69)):=(Below.refl _ w).alloc (Nat.le_refl _) _;have re:=qy w (.cells #[.int .i64 xk,.int .i64 xx,.int .i64 xh,.int .i64 xj,.int .i64 xo,.int .i64 xy,.int .i64 xv,.int .i64 xr] 69);obtain⟨hgc,tc,xc,hec⟩:=(hG.g.below b0).code;obtain⟨hge,te,xe,hee⟩:=(hG.g.below b0).event;have hv:=ji ⟨xk,xx,xh,xj,xo,xy,xv,xr⟩ hdr _ (hW.below b0) _ _ hgc hec hge hee;rw[hval] at hv;simp only[if_true] at hv;have hv:=qh hv;have HG:=qh hG;clear hgc hec hge hee hG hval;have q1:((n:Int)==400)=false:=by simp;omega
 have HI:=qh hi;have HBs:=qh hb;have H:=qh h;have HB0:=qh b0;have RE:=qh re;have hAB:=h.hB;have hBw:B<=w.heap.size:=by omega
 subst hk;clear y r0 h hi hb hW b0 re;go_enter Tryz.func78,Tryz.ntmps78;go_wp2_with fail;obtain⟨W,hWW⟩:∃W,W=w.alloc (.cells #[.int .i64 1,.int .i64 xx,.int .i64 xh,.int .i64 xj,.int .i64 xo,.int .i64 xy,.int .i64 xv,.int .i64 xr] 69):=⟨_,rfl⟩
 rw[←hWW] at hv HB0 RE ⊢;clear hWW;refine(hv.o).mono ?_;rintro e W1 ⟨rfl,b1⟩;have H1:=qh ((H.o.below HB0.o).below b1);have B1:=qh (HB0.o.trans (b1.mono HB0.o.size));have re1:=qp RE.o b1 (qd RE.o);have le:=qd re1;have ra1:=H1.o.row;have la:=qd ra1;have hea:w.heap.size≠bA:=by omega
 have hz1:=B1.o.size;have hbew:w.heap.size < W1.heap.size:=le;have y:=qa re1;have e0:=y 0;have e1:=y 1;have e2:=y 2;simp at e0 e1 e2;have z:=qa ra1;have a1:=z 1;have a2:=z 2;have a3:=z 3;have a4:=z 4;simp at a1 a2 a3 a4;have yf:∀j,W1.frozen? ⟨bA,j,none⟩=false:=fun j=>qB ra1 j;obtain⟨MY,hmY,f1,f2⟩:=H1.o.by_.2;obtain⟨MZ,hmZ,f5⟩:=H1.o.bz.2;have lY:=hmY.lt;have lZ:=hmZ.lt;have lk1:=(hmY.drew.look Tryz.underlying3 Tryz.underlying174 (jb W1.drew) xx (f2 xx HI.o)).2;obtain⟨gz,hgz⟩:=f5.2 xh HBs.o;have lk2:=(hmZ.drew.drew.look Tryz.underlying3 Tryz.underlying174 (jb W1.drew.drew) xh hgz).1;simp only[Option.getD_none,Option.isSome_none] at lk1;simp only[Option.getD_some] at lk2;unfold xD at lk2;have RE1:=qh re1;have RA1:=qh ra1;have F:=qh (And.intro hmY (And.intro f1 (And.intro f2 (And.intro hmZ f5))));clear y z re1 ra1 hmY f1 f2 hmZ f5 b1 hv;go_wp2_with fail;refine qI (W1.heap.size) [0,0,0,1,0,1,2,0,0,0,0,0] (.fin [0,1,2,3,4,5,6,7,8,9,10,11]) (by kernel_rfl) ?_;simp only[xi,qP,qA,sD,sE,sF,sG]
 repeat first|(refine qz fun K hK=>?_;go_simp;refine hK _ _ ?_;clear hK K)|(apply qC;(intro w2 hw2;have hk1:=hw2.cell;have hk3:=hw2.1;clear hw2;go_simp;with_reducible rfl);simp only[Act.put,sA,sB,sC])
 refine qM (fun K hK=>?_);go_simp;refine hK _ _ ?_;clear hK K lk1
 repeat first|(refine qz fun K hK=>?_;go_simp;refine hK _ _ ?_;clear hK K)|refine qu ?_
 go_wp2_with fail;refine qI (W1.heap.size) [0,0,0,1,0,1,2,0,0] (.fin [0,1,2,3,4,5,6,7,8]) (by kernel_rfl) ?_;simp only[xi,qP,qA,sD,sE,sF,sG]
 repeat first|(refine qz fun K hK=>?_;go_simp;refine hK _ _ ?_;clear hK K)|(apply qC;(intro w2 hw2;have hk1:=hw2.cell;have hk3:=hw2.1;clear hw2;go_simp;with_reducible rfl);simp only[Act.put,sA,sB,sC])
 refine qM (fun K hK=>?_);go_simp;refine hK _ _ ?_;clear hK K lk2
 repeat first|(refine qz fun K hK=>?_;go_simp;refine hK _ _ ?_;clear hK K)|refine qu ?_
 obtain⟨hg3,tw,xw,he3⟩:=HG.o.thread.below B1.o.drew.drew;go_wp2_with fail;refine bodyPost_ret (v:=.iface tw xw) (by simp[results,Tryz.results78,go_sem]) rfl ⟨⟨_,_,rfl⟩,?_⟩;exact B1.o.drew.drew.mono hBw
end
theorem ZS {P:Program} {c:Code} {Q:Exit->Act->World->Prop} {a:Act} {w:World} (R:Act->Act->World->Prop) (h1:c.wp P (fun e a' X=>e=.normal/\R a a' X) a w) (h2:∀a' X,R a a' X->Q .normal a' X):c.wp P Q a w:=
 wp_mono h1 (by rintro e a' X ⟨rfl,h⟩;exact h2 a' X h)
theorem xW (w:World):(zeroValue 250).run Tryz.prog w=.ok (.agg #[.slice none 0 0,.nilFunc]) w:=by kernel_rfl
theorem uD.cf {w:World} {B0:Nat} {k:Int} {F:FuncId} {caps:Array Value} (h:uD w B0 k F caps) (args:Array Value) (X:World):Sem.run Tryz.prog (callFunc F args) X=.ok (.enter F args) X:=by
 rcases h with⟨-,rfl,-⟩|⟨-,rfl,-⟩|⟨-,rfl,-⟩|⟨-,rfl,-⟩|⟨rfl,-⟩ <;> kernel_rfl
theorem uD.base {w:World} {B0 B1:Nat} {k:Int} {F:FuncId} {caps:Array Value} (h:uD w B0 k F caps) (hB:B1<=B0):uD w B1 k F caps:=by
 rcases h with h|h|h|h|⟨h1,c,st,h2,h3,h4,h5⟩
 ·exact .inl h
 ·exact .inr (.inl h)
 ·exact .inr (.inr (.inl h))
 ·exact .inr (.inr (.inr (.inl h)))
 ·exact .inr (.inr (.inr (.inr ⟨h1,c,st,h2,h3,h4,by omega⟩)))
theorem uD.set {w:World} {B0 b j:Nat} {u:Value} {k:Int} {F:FuncId} {caps:Array Value} (h:uD w B0 k F caps) (hb:b < B0):uD (w.setCell ⟨b,j,none⟩ u) B0 k F caps:=by
 rcases h with h|h|h|h|⟨h1,c,st,h2,h3,h4,h5⟩
 ·exact .inl h
 ·exact .inr (.inl h)
 ·exact .inr (.inr (.inl h))
 ·exact .inr (.inr (.inr (.inl h)))
 ·exact .inr (.inr (.inr (.inr ⟨h1,c,st,h2,h3,qJ h4 (by omega),h5⟩)))
theorem KU {A:Au} {k:Nat} {s s':St} {x:Int} (hs:A[k]?=some s) (hth:s'.thread=s.thread) (h5:s'.stand≠5\/x≠s.thread) (h:yI x A):yI x (A.set k s'):=by
 obtain⟨t,ht,hx,hst⟩:=h;obtain⟨j,hj⟩:=List.mem_iff_getElem?.1 ht;by_cases e:k=j
 ·subst e
  rw[hs] at hj;obtain rfl:=Option.some.inj hj;refine⟨s',vF hs,by rw[hth,hx],?_⟩;rcases h5 with h5|h5
  ·exact h5
  ·exact absurd hx.symm h5
 ·exact ⟨t,List.mem_iff_getElem?.2 ⟨j,by rw[List.getElem?_set_ne e];exact hj⟩,hx,hst⟩
theorem JI (k:Int):(qR k).length<=4:=by
 unfold qR
 repeat' split
 all_goals decide
theorem Yl {w:World} {g:Nat} {k:Int} (h:w.heap[g]?=some (.cells ((qR k).map (.int .i64)).toArray 3 (0,0))):Sl w w.heap.size 1 (.slice (some ⟨g,0,none⟩) (qR k).length (qR k).length) (qR k).length ((qR k).map (.int .i64)):=
 ⟨_,_,rfl,by have:=JI k;omega,by simp,fun _=>⟨g,0,rfl,qd h,fun j u hu=>by rw[Nat.zero_add,qa h];simpa using hu⟩⟩
theorem uo {A:Au} {k:Nat} {s s':St} {x:Int} (hs:A[k]?=some s) (hth:s'.thread=s.thread) (h5:s.stand≠5) (h5':s'.stand≠5):yI x A↔yI x (A.set k s'):=by
 refine⟨KU hs hth (.inl h5'),?_⟩;rintro⟨t,ht,hx,hst⟩;obtain⟨j,hj⟩:=List.mem_iff_getElem?.1 ht;rcases zM hj with⟨rfl,rfl⟩|⟨hne,hj⟩
 ·exact ⟨s,List.mem_of_getElem? hs,by rw[←hth,hx],h5⟩
 ·exact ⟨t,List.mem_of_getElem? hj,hx,hst⟩
def ML (A:Au):Prop:=∀(j k:Nat) (s t:St),A[j]?=some s->A[k]?=some t->s.thread=t.thread->s.stand≠5->t.stand≠5->j=k
theorem Yq {A:Au} {k:Nat} {s s':St} {x:Int} (hU:ML A) (hs:A[k]?=some s) (h5:s.stand≠5) (hth:s'.thread=s.thread) (h5':s'.stand=5):yI x (A.set k s')↔yI x A/\x≠s.thread:=by
 constructor
 ·rintro ⟨t,ht,hx,hst⟩
  obtain⟨j,hj⟩:=List.mem_iff_getElem?.1 ht;rcases zM hj with⟨rfl,rfl⟩|⟨hne,hj⟩
  ·exact absurd h5' hst
  ·refine ⟨⟨t,List.mem_of_getElem? hj,hx,hst⟩,fun e=>hne ?_⟩
   exact hU k j s t hs hj (by rw[hx,e]) h5 hst
 ·rintro ⟨h,hne⟩
  exact KU hs hth (.inr hne) h
theorem qaa (v:Value) (l:List Int) (x:Int) (w:World) (h:Sl w w.heap.size 1 v l.length (l.map (.int .i64))) (hl:l.length<=100) (hn:x ∉ l):
  Calls Tryz.prog 177 #[v,.int .i64 x] w fun e w'=>e=.returned (.int .i64 (-1))/\w'=w:=by
 obtain⟨a,c,rfl,hm⟩:=h.ex;have H:=qh h;have HN:=qh hn;clear h hn;go_enter Tryz.func177,Tryz.ntmps177;go_wp2_with fail;obtain⟨W,rfl⟩:∃W,W=w:=⟨_,rfl⟩
 go_loopw [8] (fun p wr=>∃i:Nat,i<=l.length/\p=.int .i64 i/\wr=W) (fun p _=>l.length - (intOf p).toNat)
 case atStart=>exact⟨0,by omega,by go_num,rfl⟩
 case round=>
  obtain⟨i,hi,rfl,rfl⟩:=hrel;by_cases hil:i < l.length
  ·obtain ⟨b,off,u,hat,hb,hx,hc⟩:=H.o.at1 hil
   subst hat;have hx2:∃y,l[i]?=some y/\u=.int .i64 y:=by
    rw[List.getElem?_map] at hx;cases hy:l[i]? with
    |none=>rw[hy] at hx;cases hx
    |some y=>rw[hy] at hx;exact⟨y,rfl,by simpa using hx.symm⟩
   obtain⟨y,hy,rfl⟩:=hx2;clear hx;have e1:(x==y)=false:=by
    have:x≠y:=fun e=>HN.o (by rw[e];exact List.mem_of_getElem? hy);simpa using this
   clear hy;go_wp2_with fail;go_roundw
   case rel=>exact⟨i+1,by omega,by go_num,trivial⟩
   case measure=>simp[intOf];omega
  ·obtain rfl:i=l.length:=by omega
   go_wp2;go_ret;exact⟨rfl,rfl⟩
theorem XR (v:Value) (l:List Int) (x:Int) (w:World) (h:Sl w w.heap.size 1 v l.length (l.map (.int .i64))) (hl:l.length<=100) (hn:x ∉ l):
  Calls Tryz.prog 129 #[v,.int .i64 x] w fun e w'=>e=.returned (.bool false)/\w'=w:=by
 have hi:=qh (qaa _ l x w h hl hn);obtain⟨a,c,rfl,hm⟩:=h.ex;clear h hn;go_enter Tryz.func129,Tryz.ntmps129;go_wp2_with fail;refine hi.o.mono ?_;rintro e w1 ⟨rfl,rfl⟩;go_wp2;go_ret;exact⟨rfl,rfl⟩
