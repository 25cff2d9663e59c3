/- Parts of the proof; the first: The automaton of well-formed histories in memory: where it lies, what keeps it. Conditions: those of each theorem, as typed. -/
import Derived.Test.YtkfhgifhfkcehaaGreatDoorQC14
import Derived.Test.YtkfhgifhfkcehaaGreatDoorQC01
import Derived.Test.YtkfhgifhfkcehaaGreatDoorQC11
set_option linter.unusedVariables false
set_option linter.unusedSimpArgs false
set_option linter.unusedSectionVars false
set_option maxRecDepth 100000
set_option maxHeartbeats 4000000
namespace Go.Proofs.YtkfhgifhfkcehaaGreatDoor
open Go.Maps Go.RowKit
section
attribute [local irreducible] xL
structure yH (S:Nat->Prop) (w w':World):Prop where
 os:w'.os=w.os
 tape:w'.tape=w.tape
 output:w'.output=w.output
 size:w.heap.size<=w'.heap.size
 keep:∀k,k < w.heap.size->¬S k->w'.heap[k]?=w.heap[k]?
section
variable {S T:Nat->Prop} {w w' w1:World}
theorem yH.refl (w:World):yH S w w:=⟨rfl,rfl,rfl,Nat.le_refl _,fun _ _ _=>rfl⟩
theorem yH.trans (h:yH S w w1) (k:yH T w1 w') (hT:∀j,j < w.heap.size->T j->S j):yH S w w':=
 ⟨k.os.trans h.os,k.tape.trans h.tape,k.output.trans h.output,Nat.le_trans h.size k.size,fun j hj hs=>(k.keep j (Nat.lt_of_lt_of_le hj h.size) fun ht=>hs (hT j hj ht)).trans (h.keep j hj hs)⟩
theorem yH.mono (h:yH S w w') (hS:∀j,S j->T j):yH T w w':=⟨h.os,h.tape,h.output,h.size,fun j hj ht=>h.keep j hj fun hs=>ht (hS j hs)⟩
theorem yH.of_below (h:Below w.heap.size w w'):yH S w w':=⟨h.os,h.tape,h.output,h.size,fun j hj _=>h.block j hj⟩
theorem yH.below {B:Nat} (h:yH S w w') (hS:∀j,S j->B<=j) (hB:B<=w.heap.size):Below B w w':=⟨h.os,h.tape,h.output,h.size,fun j hj=>h.keep j (by omega) fun hs=>by have:=hS j hs;omega⟩
theorem yH.set (h:yH S w w') {g j:Nat} {v:Value} (hg:S g):yH S w (w'.setCell ⟨g,j,none⟩ v):=
 ⟨h.os,h.tape,h.output,by have:=h.size;rw[show (w'.setCell ⟨g,j,none⟩ v).heap.size=w'.heap.size from by simp];exact this,fun k hk hs=>(Go.RowKit.Below.heap_setCell _ _ _ _ (by rintro rfl;exact hs hg)).trans (h.keep k hk hs)⟩
theorem yH.alloc (h:yH S w w') (o:Obj):yH S w (w'.alloc o):=⟨h.os,h.tape,h.output,by have:=h.size;simp;omega,fun k hk hs=>(heap_alloc_old w' o (by have:=h.size;omega)).trans (h.keep k hk hs)⟩
theorem yH.drew (h:yH S w w'):yH S w w'.drew:=⟨h.os,h.tape,h.output,h.size,h.keep⟩
theorem yH.turned {b:Nat} (h:w.mapTurned w' b) (hb:S b):yH S w w':=by
 obtain⟨es,c,es',c',hh,rfl⟩:=h;exact⟨rfl,rfl,rfl,by simp[ChangeMaps.setBlock],fun k hk hs=>Go.ChangeMaps.heap_setBlock_other hh _ (by rintro rfl;exact hs hb)⟩
theorem yH.grw {v v':Value} (h:Grw w w' v v') (hv:∀k,v.ownBlock=some k->S k):yH S w w':=
 ⟨h.grown.os,h.grown.tape,h.grown.output,h.grown.size,fun k hk hs=>h.grown.block k hk fun e=>hs (hv k e.symm)⟩
theorem yH.row {g:Nat} {x:Obj} (h:yH S w w') (hg:w.heap[g]?=some x) (hs:¬S g):w'.heap[g]?=some x:=(h.keep g (qh hg) hs).trans hg
theorem qq.typ {α:Type} {f:α->List Value} {e:TypeId} {sz B:Nat} {v:Value} {l:List α} (h:qq f e sz w B v l) {g:Nat} (hg:v.ownBlock=some g):∃cs fz,w.heap[g]?=some (.cells cs e fz):=by
 obtain⟨-,h2⟩:=h;rcases h2 with⟨rfl,-⟩|⟨g',cap,cur,rfl,-,hh,-⟩
 ·cases hg
 ·simp only[Value.ownBlock,Option.some.injEq] at hg
  subst hg;exact⟨_,_,hh⟩
theorem qq.chg {α:Type} {f:α->List Value} {e:TypeId} {sz B:Nat} {v:Value} {l:List α} (h:qq f e sz w B v l) (hc:yH S w w') (hs:∀g,v.ownBlock=some g->¬S g):qq f e sz w' B v l:=by
 obtain⟨h1,h2⟩:=h;refine⟨h1,?_⟩;rcases h2 with h2|⟨g,cap,cur,rfl,hg,hh,r⟩
 ·exact .inl h2
 ·exact .inr ⟨g,cap,cur,rfl,hg,hc.row hh (hs g rfl),r⟩
theorem xp.chg {b:Nat} {M:Int->Option Value} (h:xp w b M) (hc:yH S w w') (hs:¬S b):xp w' b M:=h.obj (hc.keep b h.lt hs)
end
def stCs (s:St) (dv:Value):List Value:=[.int .i64 s.id,.int .i64 s.thread,.int .i64 s.status,.int .i64 s.beg,.int .i64 s.fin,.int .i64 s.tri,dv,.int .i64 s.stand]
abbrev OwnD (w:World) (B:Nat) (v:Value) (l:List Dd):Prop:=qq Dd.cells 291 8 w B v l
structure zm (w:World) (B:Nat) (p:Nat×Value) (s:St):Prop where
 row:w.heap[p.1]?=some (.cells (stCs s p.2).toArray 151 (0,0))
 hB:B<=p.1
 dds:OwnD w B p.2 s.deeds
def stS (p:Nat×Value):Nat->Prop:=fun k=>k=p.1\/p.2.ownBlock=some k
def ptrV (g:Nat):Value:=.pointer (some ⟨g,0,none⟩)
structure AuIn (w:World) (B bA bY bZ:Nat) (ov tv:Value) (os:List Ob) (n:Nat) (A:Au) (Z:Int->Prop) (bs:List (Nat×Value)):Prop where
 row:w.heap[bA]?=some (.cells #[ov,.int .i64 n,tv,.map (some bY),.map (some bZ)] 148 (0,0))
 hB:B<=bA
 obs:qq Ob.cells 96 2 w B ov os
 txs:qq yz 149 1 w B tv (bs.map fun p=>ptrV p.1)
 len:bs.length=A.length
 sts:∀(k:Nat) (p:Nat×Value) (s:St),bs[k]?=some p->A[k]?=some s->zm w B p s
 nod:(bs.map (·.1)).Nodup
 dis:∀(j k:Nat) (p q:Nat×Value),bs[j]?=some p->bs[k]?=some q->j≠k->∀g,p.2.ownBlock=some g->q.2.ownBlock≠some g
 by_:B<=bY/\∃M,xp w bY M/\(∀(k:Nat) (p:Nat×Value) (s:St),bs[k]?=some p->A[k]?=some s->M s.id=some (ptrV p.1))/\∀x,¬hasId x A->M x=none
 bz:B<=bZ/\∃M,xp w bZ M/\∀x,¬Z x->M x=none
 ne:bY≠bZ
def AuAt (w:World) (B bA:Nat) (os:List Ob) (n:Nat) (A:Au):Prop:=∃bY bZ ov tv bs,AuIn w B bA bY bZ ov tv os n A (fun x=>isBusy x A) bs
section
variable {w w':World} {B bA bY bZ n:Nat} {ov tv:Value} {os:List Ob} {A:Au} {Z:Int->Prop} {bs:List (Nat×Value)}
theorem zm.typ {p:Nat×Value} {s:St} (h:zm w B p s) {k:Nat} (hk:stS p k):∃cs t fz,w.heap[k]?=some (.cells cs t fz)/\(t=151\/t=291):=by
 rcases hk with rfl|hk
 ·exact ⟨_,_,_,h.row,.inl rfl⟩
 ·obtain ⟨cs,fz,hh⟩:=qq.typ h.dds hk
  exact⟨_,_,_,hh,.inr rfl⟩
theorem zm.ge {p:Nat×Value} {s:St} (h:zm w B p s) {k:Nat} (hk:stS p k):B<=k:=by
 rcases hk with rfl|hk
 ·exact h.hB
 ·exact (qq.lt h.dds k hk).1
theorem zm.notCells {p:Nat×Value} {s:St} (h:zm w B p s) {g:Nat} {cs:Array Value} {t:TypeId} {fz:Nat×Nat} (hg:w.heap[g]?=some (.cells cs t fz)) (h1:t≠151) (h2:t≠291):¬stS p g:=fun hk=>by
 obtain⟨cs',t',fz',hh,ht⟩:=h.typ hk;rw[hg] at hh;simp only[Option.some.injEq,Obj.cells.injEq] at hh;rcases ht with ht|ht
 ·exact h1 (hh.2.1.trans ht)
 ·exact h2 (hh.2.1.trans ht)
theorem zm.notMap {p:Nat×Value} {s:St} (h:zm w B p s) {g:Nat} (hg:∃es c,w.heap[g]?=some (.map es c)):¬stS p g:=fun hk=>by
 obtain⟨cs',t',fz',hh,-⟩:=h.typ hk;obtain⟨es,c,hg⟩:=hg;rw[hg] at hh;cases hh
theorem AuIn.get (h:AuIn w B bA bY bZ ov tv os n A Z bs) {k:Nat} {s:St} (hs:A[k]?=some s):∃p,bs[k]?=some p/\zm w B p s:=by
 have hk:=(List.getElem?_eq_some_iff.1 hs).1;obtain⟨p,hp⟩:∃p,bs[k]?=some p:=⟨_,List.getElem?_eq_getElem (by rw[h.len];exact hk)⟩
 exact⟨p,hp,h.sts k p s hp hs⟩
theorem AuIn.apart (h:AuIn w B bA bY bZ ov tv os n A Z bs) {j k:Nat} {p q:Nat×Value} {s t:St} (hp:bs[j]?=some p) (hq:bs[k]?=some q) (hs:A[j]?=some s) (ht:A[k]?=some t) (hne:j≠k) {g:Nat} (hg:stS p g):¬stS q g:=by
 have hj:=(List.getElem?_eq_some_iff.1 hp).1;rcases hg with rfl|hg
 ·rintro (hk|hk)
  ·have:=(List.getElem?_inj (i:=j) (j:=k) (by simpa using hj) h.nod).1 (by simp[hp,hq,hk])
   exact hne this
  ·obtain ⟨cs,fz,hh⟩:=qq.typ (h.sts k q t hq ht).dds hk
   rw[(h.sts j p s hp hs).row] at hh;simp at hh
 ·rintro (hk|hk)
  ·obtain ⟨cs,fz,hh⟩:=qq.typ (h.sts j p s hp hs).dds hg
   rw[hk,(h.sts k q t hq ht).row] at hh;simp at hh
  ·exact h.dis j k p q hp hq hne g hg hk
theorem zm.chg {S:Nat->Prop} {p:Nat×Value} {s:St} (h:zm w B p s) (hc:yH S w w') (hs:∀g,stS p g->¬S g):zm w' B p s:=⟨hc.row h.row (hs _ (.inl rfl)),h.hB,qq.chg h.dds hc fun g hg=>hs g (.inr hg)⟩
theorem AuIn.chg {S:Nat->Prop} (h:AuIn w B bA bY bZ ov tv os n A Z bs) (hc:yH S w w') (hS:∀k,k < w.heap.size->¬S k):AuIn w' B bA bY bZ ov tv os n A Z bs:=by
 have hw:∀k x,w.heap[k]?=some x->¬S k:=fun k x hx=>hS k (qh hx);refine⟨hc.row h.row (hw _ _ h.row),h.hB,qq.chg h.obs hc fun g hg=>hS g (qq.lt h.obs g hg).2,qq.chg h.txs hc fun g hg=>hS g (qq.lt h.txs g hg).2,h.len,fun k p s hp hs=>(h.sts k p s hp hs).chg hc fun g hg=>?_,h.nod,h.dis,⟨h.by_.1,?_⟩,⟨h.bz.1,?_⟩,h.ne⟩
 ·obtain ⟨cs,t,fz,hh,-⟩:=(h.sts k p s hp hs).typ hg
  exact hw _ _ hh
 ·obtain ⟨M,h1,h2⟩:=h.by_.2
  exact⟨M,h1.chg hc (hS _ h1.lt),h2⟩
 ·obtain ⟨M,h1,h2⟩:=h.bz.2
  exact⟨M,h1.chg hc (hS _ h1.lt),h2⟩
theorem AuIn.below (h:AuIn w B bA bY bZ ov tv os n A Z bs) (hb:Below w.heap.size w w'):AuIn w' B bA bY bZ ov tv os n A Z bs:=h.chg (S:=fun _=>False) (yH.of_below hb) (fun _ _ h=>h)
theorem AuIn.moved (h:AuIn w B bA bY bZ ov tv os n A Z bs) {k:Nat} {p:Nat×Value} {s s':St} (hp:bs[k]?=some p) (hs:A[k]?=some s) (hc:yH (stS p) w w') {dv:Value} (hst:zm w' B (p.1,dv) s') (qj:s'.id=s.id) (hth:s'.thread=s.thread)
  (hdv:∀g,dv.ownBlock=some g->p.2.ownBlock=some g\/w.heap.size<=g):AuIn w' B bA bY bZ ov tv os n (A.set k s') Z (bs.set k (p.1,dv)):=by
 have hsp:=h.sts k p s hp hs;have hmap:(bs.set k (p.1,dv)).map (fun p=>ptrV p.1)=bs.map fun p=>ptrV p.1:=by
  apply List.ext_getElem?;intro j;by_cases e:k=j
  ·subst e
   rw[List.getElem?_map,List.getElem?_map,List.getElem?_set_self (List.getElem?_eq_some_iff.1 hp).1,hp];rfl
  ·rw [List.getElem?_map,List.getElem?_map,List.getElem?_set_ne e]
 have hmap1:(bs.set k (p.1,dv)).map (·.1)=bs.map (·.1):=by
  apply List.ext_getElem?;intro j;by_cases e:k=j
  ·subst e
   rw[List.getElem?_map,List.getElem?_map,List.getElem?_set_self (List.getElem?_eq_some_iff.1 hp).1,hp];rfl
  ·rw [List.getElem?_map,List.getElem?_map,List.getElem?_set_ne e]
 have fresh:∀(j:Nat) (q:Nat×Value) (t:St),bs[j]?=some q->A[j]?=some t->∀g,q.2.ownBlock=some g->g < w.heap.size:=fun j q t hq ht g hg=>(qq.lt (h.sts j q t hq ht).dds g hg).2;have getA:∀(j:Nat) (q:Nat×Value),bs[j]?=some q->∃t,A[j]?=some t:=fun j q hq=>⟨_,List.getElem?_eq_getElem (by rw[←h.len];exact(List.getElem?_eq_some_iff.1 hq).1)⟩
 refine⟨hc.row h.row (hsp.notCells h.row (by decide) (by decide)),h.hB,qq.chg h.obs hc fun g hg=>?_,?_,by simpa using h.len,fun j q t hq ht=>?_,by rw[hmap1];exact h.nod,fun i j q r hq hr hne g hg=>?_,⟨h.by_.1,?_⟩,⟨h.bz.1,?_⟩,h.ne⟩
 ·obtain ⟨cs,fz,hh⟩:=qq.typ h.obs hg
  exact hsp.notCells hh (by decide) (by decide)
 ·rw [hmap]
  refine qq.chg h.txs hc fun g hg=>?_;obtain⟨cs,fz,hh⟩:=qq.typ h.txs hg;exact hsp.notCells hh (by decide) (by decide)
 ·rcases xd hq with⟨rfl,rfl⟩|⟨hne,hq⟩
  ·rcases xd ht with⟨-,rfl⟩|⟨hne,-⟩
   ·exact hst
   ·exact absurd rfl hne
  ·rw [List.getElem?_set_ne hne] at ht
   exact(h.sts j q t hq ht).chg hc fun g hg=>h.apart hq hp ht hs (Ne.symm hne) hg
 ·rcases xd hq with⟨rfl,rfl⟩|⟨hne1,hq⟩
  ·rw [List.getElem?_set_ne hne] at hr
   obtain⟨t,ht⟩:=getA j r hr;rcases hdv g hg with h1|h1
   ·exact h.dis k j p r hp hr hne g h1
   ·intro h2
    have:=fresh j r t hr ht g h2;omega
  ·rcases xd hr with⟨rfl,rfl⟩|⟨hne2,hr⟩
   ·intro h2
    obtain⟨t,ht⟩:=getA i q hq;rcases hdv g h2 with h1|h1
    ·exact h.dis i k q p hq hp hne g hg h1
    ·have:=fresh i q t hq ht g hg
     omega
   ·exact h.dis i j q r hq hr hne g hg
 ·obtain ⟨M,h1,h2,h3⟩:=h.by_.2
  refine⟨M,h1.chg hc (hsp.notMap h1.isMap),fun j q t hq ht=>?_,fun x hx=>h3 x fun hh=>hx ?_⟩
  ·rcases xd hq with⟨rfl,rfl⟩|⟨hne,hq⟩
   ·rcases xd ht with⟨-,rfl⟩|⟨hne,-⟩
    ·rw [qj];exact h2 k p s hp hs
    ·exact absurd rfl hne
   ·rw [List.getElem?_set_ne hne] at ht
    exact h2 j q t hq ht
  ·obtain ⟨t,ht,hti⟩:=hh
   obtain⟨j,hj⟩:=List.mem_iff_getElem?.1 ht;by_cases e:k=j
   ·subst e
    rw[hs] at hj;obtain rfl:=Option.some.inj hj;exact⟨s',zg hs,qj.trans hti⟩
   ·exact ⟨t,List.mem_iff_getElem?.2 ⟨j,by rw[List.getElem?_set_ne e];exact hj⟩,hti⟩
 ·obtain ⟨M,h1,h2⟩:=h.bz.2
  exact⟨M,h1.chg hc (hsp.notMap h1.isMap),h2⟩
theorem AuIn.zmono {Z':Int->Prop} (h:AuIn w B bA bY bZ ov tv os n A Z bs) (hz:∀x,Z x->Z' x):AuIn w B bA bY bZ ov tv os n A Z' bs:=
 ⟨h.row,h.hB,h.obs,h.txs,h.len,h.sts,h.nod,h.dis,h.by_,⟨h.bz.1,let ⟨M,h1,h2⟩:=h.bz.2;⟨M,h1,fun x hx=>h2 x fun e=>hx (hz x e)⟩⟩,h.ne⟩
end
end
section
attribute [local irreducible] xL
def MvRet (w:World) (B:Nat) (p:Nat×Value) (s':St) (e:Ending) (w':World):Prop:=e=.returned .nilIface/\∃dv,zm w' B (p.1,dv) s'/\yH (stS p) w w'/\∀g,dv.ownBlock=some g->p.2.ownBlock=some g\/w.heap.size<=g
theorem zm.own {w w':World} {B p:Nat} {dv:Value} {s s':St} (h:zm w B (p,dv) s) (hc:yH (fun k=>k=p) w w') (hr:w'.heap[p]?=some (.cells (stCs s' dv).toArray 151 (0,0))) (hd:s'.deeds=s.deeds):∃dv',zm w' B (p,dv') s'/\yH (stS (p,dv)) w w'/\∀g,dv'.ownBlock=some g->dv.ownBlock=some g\/w.heap.size<=g:=by
 refine⟨dv,⟨hr,h.hB,?_⟩,hc.mono fun j hj=>.inl hj,fun g hg=>.inl hg⟩;rw[hd];refine qq.chg h.dds hc fun g hg hk=>?_;obtain⟨cs,fz,hh⟩:=qq.typ h.dds hg;rw[hk,h.row] at hh;simp at hh
section
variable {w:World} {B p:Nat} {dv:Value} {s:St}
theorem mv_can (xk xx xh xj xo xy xv xr:Int) (n:Nat) (h:zm w B (p,dv) s):
  Calls Tryz.prog 158 #[.pointer (some ⟨p,0,none⟩),yv ⟨xk,xx,xh,xj,xo,xy,xv,xr⟩,.int .i64 n] w (MvRet w B (p,dv) (canS s)):=by
 have l0:=qh h.row;have H:=qj h;have r0:=h.row;have y:=qg r0;have y0:=y 0;have y1:=y 1;have y2:=y 2;have y3:=y 3;have y4:=y 4;have y5:=y 5;have y6:=y 6;have y7:=y 7;simp[stCs] at y0 y1 y2 y3 y4 y5 y6 y7;have yf:∀j,w.frozen? ⟨p,j,none⟩=false:=fun j=>qx r0 j;have R0:=qj r0;clear y h r0;go_enter Tryz.func158,Tryz.ntmps158;go_wp2;go_ret;have r1:=qB R0.o 7 (.int .i64 4);have rz:=qF (o:=.cells #[.int .i64 xk,.int .i64 xx,.int .i64 xh,.int .i64 xj,.int .i64 xo,.int .i64 xy,.int .i64 xv,.int .i64 xr] 53) r1;exact⟨rfl,H.o.own (s':=(canS s)) (((yH.refl (S:=fun k=>k=p) w).set (g:=p) (j:=7) rfl (v:=.int .i64 4)).alloc _) rz rfl⟩
theorem mv_try (xk xx xh xj xo xy xv xr:Int) (n:Nat) (h:zm w B (p,dv) s):
  Calls Tryz.prog 157 #[.pointer (some ⟨p,0,none⟩),yv ⟨xk,xx,xh,xj,xo,xy,xv,xr⟩,.int .i64 n] w (MvRet w B (p,dv) (tryS n s)):=by
 have l0:=qh h.row;have H:=qj h;have r0:=h.row;have y:=qg r0;have y0:=y 0;have y1:=y 1;have y2:=y 2;have y3:=y 3;have y4:=y 4;have y5:=y 5;have y6:=y 6;have y7:=y 7;simp[stCs] at y0 y1 y2 y3 y4 y5 y6 y7;have yf:∀j,w.frozen? ⟨p,j,none⟩=false:=fun j=>qx r0 j;have R0:=qj r0;clear y h r0;go_enter Tryz.func157,Tryz.ntmps157;go_wp2;go_ret;have r1:=qB R0.o 7 (.int .i64 3);have r2:=qB r1 5 (.int .i64 n);have r3:=qB r2 2 (.int .i64 2);have rz:=qF (o:=.cells #[.int .i64 xk,.int .i64 xx,.int .i64 xh,.int .i64 xj,.int .i64 xo,.int .i64 xy,.int .i64 xv,.int .i64 xr] 53) r3;exact⟨rfl,H.o.own (s':=(tryS n s)) (((((yH.refl (S:=fun k=>k=p) w).set (g:=p) (j:=7) rfl (v:=.int .i64 3)).set (g:=p) (j:=5) rfl (v:=.int .i64 n)).set (g:=p) (j:=2) rfl (v:=.int .i64 2)).alloc _) rz rfl⟩
theorem mv_end (xk xx xh xj xo xy xv xr:Int) (n:Nat) (c:Nat) (st:Int) (hc:w.heap[c]?=some (.cells #[.int .i64 st] 3 (0,0))) (hcp:c≠p) (h:zm w B (p,dv) s):
  Calls Tryz.prog 153 #[.pointer (some ⟨p,0,none⟩),yv ⟨xk,xx,xh,xj,xo,xy,xv,xr⟩,.int .i64 n,.pointer (some ⟨c,0,none⟩)] w (MvRet w B (p,dv) (endS st n s)):=by
 have l0:=qh h.row;have H:=qj h;have r0:=h.row;have y:=qg r0;have y0:=y 0;have y1:=y 1;have y2:=y 2;have y3:=y 3;have y4:=y 4;have y5:=y 5;have y6:=y 6;have y7:=y 7;simp[stCs] at y0 y1 y2 y3 y4 y5 y6 y7;have yf:∀j,w.frozen? ⟨p,j,none⟩=false:=fun j=>qx r0 j;have R0:=qj r0;clear y h r0;have hc0:=qg hc 0;have lc:=qh hc;simp at hc0;clear hc;go_enter Tryz.func153,Tryz.ntmps153;go_wp2_with fail;obtain⟨W,hW⟩:∃W,W=w.alloc (.cells #[.int .i64 xk,.int .i64 xx,.int .i64 xh,.int .i64 xj,.int .i64 xo,.int .i64 xy,.int .i64 xv,.int .i64 xr] 53):=⟨_,rfl⟩
 have bW:Below w.heap.size w W:=by rw[hW];exact(Below.refl _ w).alloc (Nat.le_refl _) _
 rw[←hW];have r1:=qp R0.o bW l0;clear y0 y1 y2 y3 y4 y5 y6 y7 yf;have y:=qg r1;have y0:=y 0;have y1:=y 1;have y2:=y 2;have y3:=y 3;have y4:=y 4;have y5:=y 5;have y6:=y 6;have y7:=y 7;simp[stCs] at y0 y1 y2 y3 y4 y5 y6 y7;have yf:∀j,W.frozen? ⟨p,j,none⟩=false:=fun j=>qx r1 j;have l1:=qh r1;have lcW:w.heap.size<=W.heap.size:=bW.size;have hc0:=qu bW lc hc0;have lc1:c < W.heap.size:=by omega
 have R1:=qj r1;have BW:=qj bW;clear y r1 bW hW;refine wp_rK (fun k=>k=c) [0,0,0,0,1,0,0,3,0,0,0,3,0,0,0,3] (.fin [0,1,2,3,4,5,6,7,8,9,10,11,12,13,14,15]) (by kernel_rfl) ?_;simp only[yp,qP,qD,sD,sE,sF,sG]
 repeat first|(refine qC fun K hK=>?_;go_simp;refine hK _ _ ?_;clear hK K)|(apply qJ;(intro w2 hw2;have hk1:=hw2.cell;(try simp only at hk1);have hk3:=hw2.1;clear hw2;go_simp;with_reducible rfl);simp only[Act.put,sA,sB,sC])
 refine qI (fun K hK=>?_);go_simp;refine hK _ _ (RK.KeepsN.set _ _ _ (fun h=>hcp h.symm)) ?_;clear hK K
 repeat (refine qC fun K hK=>?_;go_simp;refine hK _ _ ?_;clear hK K)
 refine qI (fun K hK=>?_);go_simp;refine hK _ _ (RK.KeepsN.set _ _ _ (fun h=>hcp h.symm)) ?_;clear hK K
 repeat (refine qC fun K hK=>?_;go_simp;refine hK _ _ ?_;clear hK K)
 refine qI (fun K hK=>?_);go_simp;refine hK _ _ (RK.KeepsN.set _ _ _ (fun h=>hcp h.symm)) ?_;clear hK K
 repeat refine qA ?_
 go_wp2;go_ret;have r2:=qB (row_drew R1.o) 7 (.int .i64 5);have r3:=qB r2 4 (.int .i64 n);have r4:=qB r3 2 (.int .i64 st);have hcg:yH (fun k=>k=p) w W.drew:=(yH.of_below BW.o).drew;exact⟨rfl,H.o.own (s':=endS st n s) (((hcg.set (g:=p) (j:=7) rfl (v:=.int .i64 5)).set (g:=p) (j:=4) rfl (v:=.int .i64 n)).set (g:=p) (j:=2) rfl (v:=.int .i64 st)) r4 rfl⟩
end
end
section
attribute [local irreducible] xL
theorem e_Fits (k r:Int) (hk:k=1/\r=3\/k=2/\r=1) (w:World):Calls Tryz.prog 156 #[.int .i64 k,.int .i64 r] w fun e w'=>e=.returned (.bool true)/\w'=w:=by
 rcases hk with⟨rfl,rfl⟩|⟨rfl,rfl⟩
 ·go_enter Tryz.func156,Tryz.ntmps156
  go_wp2_with fail;refine(e_Valued 1 (.inl rfl) _).mono ?_;rintro e w1 ⟨rfl,rfl⟩;go_wp2;go_ret;exact⟨rfl,rfl⟩
 ·go_enter Tryz.func156,Tryz.ntmps156
  go_wp2_with fail;refine(e_Valued 2 (.inr rfl) _).mono ?_;rintro e w1 ⟨rfl,rfl⟩;go_wp2;go_ret;exact⟨rfl,rfl⟩
theorem s_Index (v:Value) (l:List Int) (x:Int) (j:Nat) (w:World) (h:Sl w w.heap.size 1 v l.length (l.map (.int .i64))) (hj:l[j]?=some x) (hn:∀i:Nat,i < j->l[i]?≠some x):
  Calls Tryz.prog 159 #[v,.int .i64 x] w fun e w'=>e=.returned (.int .i64 j)/\w'=w:=by
 obtain⟨a,c,rfl,hm⟩:=h.ex;have hl:=(List.getElem?_eq_some_iff.1 hj).1;have H:=qj h;have HJ:=qj hj;have HN:=qj hn;clear h hj hn;go_enter Tryz.func159,Tryz.ntmps159;go_wp2_with fail;obtain⟨W,rfl⟩:∃W,W=w:=⟨_,rfl⟩
 go_loopw [8] (fun p wr=>∃i:Nat,i<=j/\p=.int .i64 i/\wr=W) (fun p _=>j - (intOf p).toNat)
 case atStart=>exact⟨0,by omega,by go_num,rfl⟩
 case round=>
  obtain⟨i,hi,rfl,rfl⟩:=hrel;have hil:i < l.length:=by omega
  obtain⟨b,off,u,hat,hb,hx,hc⟩:=H.o.at1 hil;subst hat;have hx2:∃y,l[i]?=some y/\u=.int .i64 y:=by
   rw[List.getElem?_map] at hx;cases hy:l[i]? with
   |none=>rw[hy] at hx;cases hx
   |some y=>rw[hy] at hx;exact⟨y,rfl,by simpa using hx.symm⟩
  obtain⟨y,hy,rfl⟩:=hx2;clear hx;by_cases hij:i=j
  ·subst hij
   have e1:y=x:=by rw[HJ.o] at hy;exact(Option.some.inj hy).symm
   subst e1;clear hy;go_wp2;go_ret;exact⟨rfl,rfl⟩
  ·have e1:(x==y)=false:=by
    have:=HN.o i (by omega);rw[hy] at this;simp only[ne_eq,Option.some.injEq] at this;simp;omega
   clear hy;go_wp2_with fail;go_roundw
   case rel=>exact⟨i+1,by omega,by go_num,trivial⟩
   case measure=>simp[intOf];omega
theorem first_at (l:List Int) (x:Int) (h:x ∈ l):∃j:Nat,l[j]?=some x/\∀i:Nat,i < j->l[i]?≠some x:=by
 induction l with
 |nil=>cases h
 |cons y l ih=>
  by_cases e:y=x
  ·subst e
   exact⟨0,rfl,fun i hi=>by omega⟩
  ·have:x ∈ l:=by
    rcases List.mem_cons.1 h with h|h
    ·exact absurd h.symm e
    ·exact h
   obtain⟨j,h1,h2⟩:=ih this;refine⟨j+1,by simpa using h1,fun i hi=>?_⟩;cases i with
   |zero=>simpa using e
   |succ i=>simpa using h2 i (by omega)
theorem s_Contains (v:Value) (l:List Int) (x:Int) (w:World) (h:Sl w w.heap.size 1 v l.length (l.map (.int .i64))) (hx:x ∈ l):
  Calls Tryz.prog 118 #[v,.int .i64 x] w fun e w'=>e=.returned (.bool true)/\w'=w:=by
 obtain⟨a,c,rfl,hm⟩:=h.ex;obtain⟨j,h1,h2⟩:=first_at l x hx;have hl:=(List.getElem?_eq_some_iff.1 h1).1;have hi:=qj (s_Index _ l x j w h h1 h2);clear h h1 h2 hx;have q:decide ((j:Int)>=0)=true:=by simp
 have q2:decide (0<=(j:Int))=true:=by simp
 go_enter Tryz.func118,Tryz.ntmps118;go_wp2_with fail;refine hi.o.mono ?_;rintro e w1 ⟨rfl,rfl⟩;go_wp2;go_ret;exact⟨rfl,rfl⟩
end
section
attribute [local irreducible] xL
theorem infoDd:(Tryz.prog.info? 291).map (fun i=>(i.zero,i.size,i.bytes))=some (some (.agg #[.int .i64 0,.int .i64 0,.int .i64 0,.int .i64 0,.int .i64 0,.int .i64 0,.int .i64 0,.int .i64 0]),8,64):=by kernel_rfl
theorem dd_one (x:Dd):∀u ∈ x.cells,u.oneCell'=true:=by intro u hu;simp[Dd.cells] at hu;rcases hu with rfl|rfl|rfl|rfl|rfl|rfl|rfl|rfl <;> rfl
theorem dd_last {l:List Dd} {d:Dd} (h:l.getLast?=some d):l=l.dropLast++[d]:=by
 obtain⟨ys,h1⟩:=List.getLast?_eq_some_iff.1 h;rw[h1];simp
theorem flat_set {α:Type} {f:α->List Value} {sz:Nat} (hf:∀x,(f x).length=sz):∀(l:List α) (k j:Nat) (x x':α) (u:Value),l[k]?=some x->j < sz->f x'=(f x).set j u->(l.set k x').flatMap f=(l.flatMap f).set (k*sz+j) u
 |[],k,j,x,x',u,h,_,_=>by simp at h
 |y::l,0,j,x,x',u,h,hj,he=>by
  simp only[List.getElem?_cons_zero,Option.some.injEq] at h;subst h;simp only[List.set_cons_zero,List.flatMap_cons,Nat.zero_mul,Nat.zero_add,he];rw[List.set_append_left _ _ (by rw[hf];exact hj)]
 |y::l,k+1,j,x,x',u,h,hj,he=>by
  simp only[List.getElem?_cons_succ] at h;simp only[List.set_cons_succ,List.flatMap_cons];rw[flat_set hf l k j x x' u h hj he,List.set_append_right _ _ (by rw[hf,Nat.add_mul];omega),hf];congr 2;rw[Nat.add_mul];omega
theorem qq.setAt {α:Type} {f:α->List Value} {e:TypeId} {sz B g n cap:Nat} {l:List α} {w:World} (h:qq f e sz w B (.slice (some ⟨g,0,none⟩) n cap) l) (hf:∀x,(f x).length=sz) {k j:Nat} {x x':α} {u:Value} (hk:l[k]?=some x) (hj:j < sz) (he:f x'=(f x).set j u):
  qq f e sz (w.setCell ⟨g,k*sz+j,none⟩ u) B (.slice (some ⟨g,0,none⟩) n cap) (l.set k x'):=by
 obtain⟨h1,h2⟩:=h;have hkl:=(List.getElem?_eq_some_iff.1 hk).1;have hfl:=flat_set hf l k j x x' u hk hj he;refine⟨by rw[hfl,List.length_set,List.length_set];exact h1,?_⟩;rcases h2 with⟨h2,h3⟩|⟨g',cap',cur,hv,hg,hh,hnc,hcm,hs,ht⟩
 ·cases h2
 ·simp only[Value.slice.injEq,Option.some.injEq,Addr.mk.injEq] at hv
  obtain⟨⟨rfl,-,-⟩,hn,rfl⟩:=hv;refine .inr ⟨g,cap,cur.setIfInBounds (k*sz+j) u,by rw[List.length_set,hn],hg,qB hh _ _,by rw[List.length_set];exact hnc,hcm,by simpa using hs,?_⟩;rw[hfl,List.length_set,Array.toList_setIfInBounds,List.take_set,ht]
theorem qq.free {α:Type} {f:α->List Value} {e:TypeId} {sz B g n cap:Nat} {l:List α} {w:World} (h:qq f e sz w B (.slice (some ⟨g,0,none⟩) n cap) l) (j:Nat):w.frozen? ⟨g,j,none⟩=false:=by
 obtain⟨cs,hcs⟩:=qq.keepObj h g rfl;exact qx hcs j
section
variable {w:World} {B p:Nat} {dv:Value} {s:St}
theorem mv_call (xk xx xh xj xo xy xv xr:Int) (n:Nat) (h:zm w B (p,dv) s) (hl:s.deeds.length<=1000):
  Calls Tryz.prog 154 #[.pointer (some ⟨p,0,none⟩),yv ⟨xk,xx,xh,xj,xo,xy,xv,xr⟩,.int .i64 n] w (MvRet w B (p,dv) (callSt ⟨xk,xx,xh,xj,xo,xy,xv,xr⟩ n s)):=by
 have l0:=qh h.row;have H:=qj h;have r0:=h.row;obtain⟨da,dn,dc,rfl⟩:∃a n c,dv=.slice a n c:=by
  rcases qq.form h.dds with⟨rfl,-⟩|⟨g,cap,rfl,-⟩
  ·exact ⟨_,_,_,rfl⟩
  ·exact ⟨_,_,_,rfl⟩
 have y:=qg r0;have y6:=y 6;have y7:=y 7;simp[stCs] at y6 y7;have yf:∀j,w.frozen? ⟨p,j,none⟩=false:=fun j=>qx r0 j;have R0:=qj r0;clear y h r0;go_enter Tryz.func154,Tryz.ntmps154;go_wp2_with fail;have r1:=qF (o:=.cells #[.int .i64 xk,.int .i64 xx,.int .i64 xh,.int .i64 xj,.int .i64 xo,.int .i64 xy,.int .i64 xv,.int .i64 xr] 53) (qB R0.o 7 (.int .i64 2));have re:=qL (w:=w.setCell ⟨p,7,none⟩ (.int .i64 2)) (o:=.cells #[.int .i64 xk,.int .i64 xx,.int .i64 xh,.int .i64 xj,.int .i64 xo,.int .i64 xy,.int .i64 xv,.int .i64 xr] 53) (g:=w.heap.size) (by simp);have c1:yH (fun k=>k=p) w ((w.setCell ⟨p,7,none⟩ (.int .i64 2)).alloc (.cells #[.int .i64 xk,.int .i64 xx,.int .i64 xh,.int .i64 xj,.int .i64 xo,.int .i64 xy,.int .i64 xv,.int .i64 xr] 53)):=((yH.refl (S:=fun k=>k=p) w).set rfl).alloc _;have hz1:((w.setCell ⟨p,7,none⟩ (.int .i64 2)).alloc (.cells #[.int .i64 xk,.int .i64 xx,.int .i64 xh,.int .i64 xj,.int .i64 xo,.int .i64 xy,.int .i64 xv,.int .i64 xr] 53)).heap.size=w.heap.size+1:=by simp
 generalize (w.setCell ⟨p,7,none⟩ (.int .i64 2)).alloc (.cells #[.int .i64 xk,.int .i64 xx,.int .i64 xh,.int .i64 xj,.int .i64 xo,.int .i64 xy,.int .i64 xv,.int .i64 xr] 53)=W at *;have hd:OwnD W B (.slice da dn dc) s.deeds:=qq.chg H.o.dds c1 fun g hg hk=>by
  obtain⟨cs,fz,hh⟩:=qq.typ H.o.dds hg;rw[hk,R0.o] at hh;simp at hh
 clear y6 y7 yf;have y6:=qg r1 6;simp[stCs] at y6;have yf:∀j,W.frozen? ⟨p,j,none⟩=false:=fun j=>qx r1 j;have e0:=qg re 3;have e1:=qg re 4;have e2:=qg re 5;have e3:=qg re 6;simp at e0 e1 e2 e3;have lp:p < W.heap.size:=by omega
 have le:w.heap.size < W.heap.size:=by omega
 have HD:=qj hd;have R1:=qj r1;have C1:=qj c1;clear re r1 c1 hd hz1;have hB:B<=p:=H.o.hB;refine qT (W.heap.size) [0,0,0,0,0,1,0,1,0,1,0,1,0,1,0,0,3,2,0,0,0,2] (.fin [0,1,2,3,4,5,6,7,8,9,10,11,12,13,14,15,16,17,18,19,20,21]) (by kernel_rfl) ?_;simp only[yp,qP,qD,sD,sE,sF,sG]
 repeat first|(refine qC fun K hK=>?_;go_simp;refine hK _ _ ?_;clear hK K)|(apply qJ;(intro w2 hw2;have hk1:=hw2.cell;have hk3:=hw2.1;clear hw2;go_simp;with_reducible rfl);simp only[Act.put,sA,sB,sC])
 refine qI (fun K hK=>?_);go_simp;refine hK _ _ (RN.KeepsN.alloc _ _ (Nat.le_refl _)) ?_;clear hK K;refine qN (fun K hK=>?_);have hBW:B<=W.drew.heap.size:=by
  show B<=W.heap.size;omega
 refine wp_appF _ _ _ rfl _ 64 Tryz.underlying54 infoDd rfl HD.o.drew (newDd ⟨xk,xx,xh,xj,xo,xy,xv,xr⟩ n) hBW (by rfl) (by rfl) (by first|rfl|simp) rfl (dd_one _) (by first|omega|(simp only[List.length_append,List.length_cons,List.length_nil,List.length_replicate];omega)) (by first|omega|(simp only[List.length_append,List.length_cons,List.length_nil,List.length_replicate];omega)) ?_;intro g cap w' ho hg;refine hK _ _ ?_;clear hK K;have hne:(Value.slice da dn dc).ownBlock≠some p:=fun hk=>by
  obtain⟨cs,fz,hh⟩:=qq.typ HD.o hk;rw[R1.o] at hh;simp[stCs] at hh
 have hne2:(Value.slice (some ⟨g,0,none⟩) (s.deeds.length+1) cap).ownBlock≠some p:=fun hk=>by
  rcases hg.own _ hk with h1|h1
  ·exact hne h1
  ·have h1:W.heap.size<=p:=h1
   omega
 have r2:=qQ (row_drew R1.o) hg hne;have z2:W.heap.size<=w'.heap.size:=hg.size;have l2:p < w'.heap.size:=by omega
 clear y6 yf;have y6:=qg r2 6;simp[stCs] at y6;have yf:∀j,w'.frozen? ⟨p,j,none⟩=false:=fun j=>qx r2 j;have R2:=qj r2;have HO:=qj ho;have HG:=qj hg;clear r2 ho hg
 repeat (refine qC fun K hK=>?_;go_simp;refine hK _ _ ?_;clear hK K)
 refine qN (fun K hK=>?_);go_simp;refine hK _ _ ?_;clear hK K
 repeat refine qA ?_
 go_wp2;go_ret;refine⟨rfl,_,⟨qB R2.o 6 _,hB,qq.other HO.o hne2 _⟩,?_,fun k hk=>?_⟩
 ·refine yH.set ?_ (.inl rfl)
  exact yH.trans ((C1.o.mono (T:=stS (p,.slice da dn dc)) fun j hj=>.inl hj).drew) (yH.grw (S:=stS (p,.slice da dn dc)) HG.o fun k hk=>.inr hk) fun j _ hj=>hj
 ·rcases HG.o.own _ hk with h1|h1
  ·exact .inl h1
  ·exact .inr (by have h1:W.heap.size<=k:=h1;omega)
theorem mv_ret (xk xx xh xj xo xy xv xr:Int) (n:Nat) (d:Dd) (h:zm w B (p,dv) s) (hd:s.deeds.getLast?=some d) (hf:fitsR d.op xr) (hl:s.deeds.length<=1000):
  Calls Tryz.prog 155 #[.pointer (some ⟨p,0,none⟩),yv ⟨xk,xx,xh,xj,xo,xy,xv,xr⟩,.int .i64 n] w (MvRet w B (p,dv) (yU xr xv n s)):=by
 have l0:=qh h.row;have hB:B<=p:=h.hB;have H:=qj h;have r0:=h.row;have hne0:s.deeds≠[]:=by rintro e;rw[e] at hd;cases hd
 obtain⟨g,cap,rfl,hgB,hgl⟩:∃g cap,dv=.slice (some ⟨g,0,none⟩) s.deeds.length cap/\B<=g/\g < w.heap.size:=by
  rcases qq.form h.dds with⟨-,h2⟩|⟨g,cap,h1,h2,h3⟩
  ·exact absurd h2 hne0
  ·exact ⟨g,cap,h1,h2,h3⟩
 have hdn:yU xr xv n s={s with stand:=1,deeds:=s.deeds.dropLast++[retDd d xr xv n]}:=by unfold yU;rw[hd]
 obtain⟨m,hm⟩:∃m,s.deeds.length=m+1:=⟨s.deeds.length - 1,by have:=List.length_pos_iff.2 hne0;omega⟩
 have hdm:s.deeds[m]?=some d:=by rw[List.getLast?_eq_getElem?,hm] at hd;simpa using hd
 have hls:∀x:Dd,s.deeds.set m x=s.deeds.dropLast++[x]:=fun x=>by
  have h1:=dd_last hd;have h2:s.deeds.dropLast.length=m:=by rw[List.length_dropLast,hm];rfl
  conv=>lhs;rw[h1]
  rw[List.set_append_right _ _ (by omega),h2,Nat.sub_self];rfl
 obtain⟨q,hq⟩:∃q,s.deeds.length=q:=⟨_,rfl⟩
 rw[hq] at h r0 H ⊢;have q1:((q:Int) - 1)=(m:Int):=by omega
 have q2:m < q:=by omega
 have qw:IntKind.i64.wrap (m:Int)=(m:Int):=IntWalk.i64_in _ (by omega);have hgp:g≠p:=by
  rintro rfl;obtain⟨cs,fz,hh⟩:=qq.typ h.dds (g:=g) rfl;rw[r0] at hh;simp[stCs] at hh
 have y:=qg r0;have y6:=y 6;have y7:=y 7;simp[stCs] at y6 y7;have DD:=h.dds;simp only at DD;have SS:=qq.sl DD;rw[hq] at SS;obtain⟨b',off',x',hat',hb',hx',hc'⟩:=SS.atF Dd.len hq (k:=m) (by omega);simp only[Option.some.injEq,Addr.mk.injEq] at hat';obtain⟨rfl,rfl,-⟩:=hat';rw[hdm] at hx';obtain rfl:=Option.some.inj hx';have c1:=hc' 1 (by decide);have c4:=hc' 4 (by decide);have c5:=hc' 5 (by decide);have c7:=hc' 7 (by decide);simp[Dd.cells] at c1 c4 c5 c7;have bW:Below w.heap.size w (w.alloc (.cells #[.int .i64 xk,.int .i64 xx,.int .i64 xh,.int .i64 xj,.int .i64 xo,.int .i64 xy,.int .i64 xv,.int .i64 xr] 53)):=(Below.refl _ w).alloc (Nat.le_refl _) _;have re:=qy w (.cells #[.int .i64 xk,.int .i64 xx,.int .i64 xh,.int .i64 xj,.int .i64 xo,.int .i64 xy,.int .i64 xv,.int .i64 xr] 53);have hzW:(w.alloc (.cells #[.int .i64 xk,.int .i64 xx,.int .i64 xh,.int .i64 xj,.int .i64 xo,.int .i64 xy,.int .i64 xv,.int .i64 xr] 53)).heap.size=w.heap.size+1:=by simp
 have HM:=qj hm;have HDM:=qj hdm;have HLS:=qj hls;have HDN:=qj hdn;clear y h hc' hb' hm hdm hx' hd hdn hls H hne0;go_enter Tryz.func155,Tryz.ntmps155;go_wp2_with fail;generalize w.alloc (.cells #[.int .i64 xk,.int .i64 xx,.int .i64 xh,.int .i64 xj,.int .i64 xo,.int .i64 xy,.int .i64 xv,.int .i64 xr] 53)=W at *;have y6:=qu bW l0 y6;have y7:=qu bW l0 y7;have c1:=qu bW hgl c1;have c4:=qu bW hgl c4;have c5:=qu bW hgl c5;have c7:=qu bW hgl c7;have r1:=qp r0 bW l0;have D1:=qq.below DD bW;have yf:∀j,W.frozen? ⟨p,j,none⟩=false:=fun j=>qx r1 j;have gf:∀j,W.frozen? ⟨g,j,none⟩=false:=fun j=>qq.free D1 j;have lp:p < W.heap.size:=by omega
 have lg:g < W.heap.size:=by omega
 have le:w.heap.size < W.heap.size:=by omega
 have hpe:p≠w.heap.size:=by omega
 have hge:g≠w.heap.size:=by omega
 have hpg:p≠g:=fun e=>hgp e.symm;have e6:=qg re 6;have e7:=qg re 7;simp at e6 e7;have R1:=qj r1;have DD1:=qj D1;have BW:=qj bW;clear r0 r1 D1 DD bW re;refine qT (W.heap.size) [0,0,0,0,1,0,0,0,0,1,0,0,0,0] (.fin [0,1,2,3,4,5,6,7,8,9,10,11,12,13]) (by kernel_rfl) ?_;simp only[yp,qP,qD,sD,sE,sF,sG]
 repeat first|(refine qC fun K hK=>?_;go_simp;refine hK _ _ ?_;clear hK K)|(apply qJ;(intro w2 hw2;have hk1:=hw2.cell;have hk3:=hw2.1;clear hw2;go_simp;with_reducible rfl);simp only[Act.put,sA,sB,sC])|refine qA ?_
 go_wp2_with fail;refine qT (W.heap.size) [0,0,0,1,0,1,3,0] (.fin [0,1,2,3,4,5,6,7]) (by kernel_rfl) ?_;simp only[yp,qP,qD,sD,sE,sF,sG]
 repeat first|(refine qC fun K hK=>?_;go_simp;refine hK _ _ ?_;clear hK K)|(apply qJ;(intro w2 hw2;have hk1:=hw2.cell;have hk3:=hw2.1;clear hw2;go_simp;with_reducible rfl);simp only[Act.put,sA,sB,sC])
 refine qI (fun K hK=>?_);go_simp;refine(e_Fits d.op xr hf.symm _).mono ?_;rintro e W2 ⟨rfl,hw⟩;refine hK _ _ (by rw[hw];exact RN.KeepsN.of_below (Below.refl _ _)) ?_;clear hK K;rw[hw];clear hw W2
 repeat first|(refine qC fun K hK=>?_;go_simp;refine hK _ _ ?_;clear hK K)|refine qA ?_
 go_wp2_with fail;refine wp_rK (fun k=>k=w.heap.size) [0,0,0,0,0,1,0,1,0,0,0,3,0,0,3,0,0,3,0,0,3] (.fin [0,1,2,3,4,5,6,7,8,9,10,11,12,13,14,15,16,17,18,19,20]) (by kernel_rfl) ?_;simp only[yp,qP,qD,sD,sE,sF,sG]
 repeat first|(refine qC fun K hK=>?_;go_simp;refine hK _ _ ?_;clear hK K)|(apply qJ;(intro w2 hw2;have hk1:=hw2.cell;(try simp only at hk1);have hk3:=hw2.1;clear hw2;go_simp;with_reducible rfl);simp only[Act.put,sA,sB,sC])
 refine qI (fun K hK=>?_);go_simp;refine hK _ _ (RK.KeepsN.set _ _ _ hpe) ?_;clear hK K
 repeat (refine qC fun K hK=>?_;go_simp;refine hK _ _ ?_;clear hK K)
 refine qI (fun K hK=>?_);go_simp;refine hK _ _ (RK.KeepsN.set _ _ _ hge) ?_;clear hK K
 repeat (refine qC fun K hK=>?_;go_simp;refine hK _ _ ?_;clear hK K)
 refine qI (fun K hK=>?_);go_simp;refine hK _ _ (RK.KeepsN.set _ _ _ hge) ?_;clear hK K
 repeat (refine qC fun K hK=>?_;go_simp;refine hK _ _ ?_;clear hK K)
 refine qI (fun K hK=>?_);go_simp;refine hK _ _ (RK.KeepsN.set _ _ _ hge) ?_;clear hK K
 repeat refine qA ?_
 go_wp2;go_ret;have hml:m < s.deeds.length:=by rw[HM.o];omega
 have d0:OwnD (W.setCell ⟨p,7,none⟩ (.int .i64 1)) B (.slice (some ⟨g,0,none⟩) q cap) s.deeds:=qq.other DD1.o (fun h=>hgp (by simpa[Value.ownBlock] using h)) _;have d1:=qq.setAt d0 Dd.len HDM.o (j:=4) (u:=.int .i64 xr) (x':={d with ret:=xr}) (by decide) rfl;have d2:=qq.setAt d1 Dd.len (List.getElem?_set_self hml) (j:=5) (u:=.int .i64 xv) (x':={d with ret:=xr,got:=xv}) (by decide) rfl;have d3:=qq.setAt d2 Dd.len (List.getElem?_set_self (by simpa using hml)) (j:=7) (u:=.int .i64 n) (x':=retDd d xr xv n) (by decide) rfl;rw[List.set_set,List.set_set,HLS.o] at d3;refine⟨rfl,_,?_,?_,fun k hk=>.inl hk⟩
 ·rw [HDN.o]
  exact⟨qK (qK (qK (qB R1.o 7 (.int .i64 1)) hgp) hgp) hgp,hB,d3⟩
 ·have hc:=yH.of_below (S:=stS (p,.slice (some ⟨g,0,none⟩) q cap)) BW.o
  exact((((hc.set (.inl rfl)).set (.inr rfl)).set (.inr rfl)).set (.inr rfl)).drew.drew.drew
end
end
section
attribute [local irreducible] xL
def xQ (k:Int):List Int:=if k=3 then[2] else if k=5 then[3] else if k=6 then[1,2,3,4] else[1]
def DoIs (w:World) (B0:Nat) (k:Int) (F:FuncId) (caps:Array Value):Prop:=
 (k=2/\F=154/\caps=#[])\/(k=3/\F=155/\caps=#[])\/(k=4/\F=157/\caps=#[])\/(k=7/\F=158/\caps=#[])\/
 (F=153/\∃c st,(k=5/\st=3\/k=6/\st=4)/\caps=#[.pointer (some ⟨c,0,none⟩)]/\w.heap[c]?=some (.cells #[.int .i64 st] 3 (0,0))/\B0<=c)
def MvOk (w:World) (B0:Nat) (k:Int) (v:Value):Prop:=∃g F caps,v=.agg #[.slice (some ⟨g,0,none⟩) (xQ k).length (xQ k).length,.func (.func F) #[] caps]/\w.heap[g]?=some (.cells ((xQ k).map (.int .i64)).toArray 3 (0,0))/\B0<=g/\DoIs w B0 k F caps
def MvsRet (w:World) (e:Ending) (w':World):Prop:=∃bm M,e=.returned (.map (some bm))/\xp w' bm M/\(∀k:Int,2<=k->k < 8->∃v,M k=some v/\MvOk w' w.heap.size k v)/\Below w.heap.size w w'
theorem DoIs.row {w w':World} {B0:Nat} {k:Int} {F:FuncId} {caps:Array Value} (h:DoIs w B0 k F caps) (hr:∀(g:Nat) (cs:Array Value) (t:TypeId) (fz:Nat×Nat),w.heap[g]?=some (.cells cs t fz)->w'.heap[g]?=some (.cells cs t fz)):DoIs w' B0 k F caps:=by
 rcases h with h|h|h|h|⟨h1,c,st,h2,h3,h4,h5⟩
 ·exact .inl h
 ·exact .inr (.inl h)
 ·exact .inr (.inr (.inl h))
 ·exact .inr (.inr (.inr (.inl h)))
 ·exact .inr (.inr (.inr (.inr ⟨h1,c,st,h2,h3,hr _ _ _ _ h4,h5⟩)))
theorem MvOk.row {w w':World} {B0:Nat} {k:Int} {v:Value} (h:MvOk w B0 k v) (hr:∀(g:Nat) (cs:Array Value) (t:TypeId) (fz:Nat×Nat),w.heap[g]?=some (.cells cs t fz)->w'.heap[g]?=some (.cells cs t fz)):MvOk w' B0 k v:=
 let ⟨g,F,caps,h1,h2,h3,h4⟩:=h;⟨g,F,caps,h1,hr _ _ _ _ h2,h3,h4.row hr⟩
theorem mv_clos (st:Int) (w:World):Calls Tryz.prog 152 #[.int .i64 st] w fun e w'=>e=.returned (.func (.func 153) #[] #[.pointer (some ⟨w.heap.size,0,none⟩)])/\w'=w.alloc (.cells #[.int .i64 st] 3):=by
 go_enter Tryz.func152,Tryz.ntmps152;go_wp2;go_ret;exact⟨rfl,rfl⟩
structure MvInv (w:World) (bm:Nat) (K:Int->Prop) (X:World):Prop where
 raw:∃M,xp X bm M/\∀k,K k->∃v,M k=some v/\MvOk X w.heap.size k v
 below:Below w.heap.size w X
 hb:w.heap.size<=bm
theorem MvInv.alloc {w X:World} {bm:Nat} {K:Int->Prop} (h:MvInv w bm K X) (o:Obj):MvInv w bm K (X.alloc o):=by
 obtain⟨⟨M,h1,h2⟩,h3,h4⟩:=h;have b:Below X.heap.size X (X.alloc o):=(Below.refl _ X).alloc (Nat.le_refl _) _;exact⟨⟨M,h1.below b h1.lt,fun k hk=>let ⟨v,h5,h6⟩:=h2 k hk;⟨v,h5,h6.row fun g cs t fz hg=>qF hg⟩⟩,h3.trans (b.mono h3.size),h4⟩
theorem MvInv.ins {w X:World} {bm:Nat} {K:Int->Prop} {k:Int} {v:Value} (h:MvInv w bm K X) (hv:MvOk X w.heap.size k v):
  ∃Y,Sem.run Tryz.prog (Instr.mapUpdate 224 (.map (some bm)) (.int .i64 k) v) X=.ok () Y/\MvInv w bm (fun j=>K j\/j=k) Y:=by
 obtain⟨⟨M,h1,h2⟩,h3,h4⟩:=h;obtain⟨Y,hr,hm,ht⟩:=h1.store Tryz.underlying3 Tryz.underlying224 k v;have hrow:∀(g:Nat) (cs:Array Value) (t:TypeId) (fz:Nat×Nat),X.heap[g]?=some (.cells cs t fz)->Y.heap[g]?=some (.cells cs t fz):=fun g cs t fz hg=>(xb ht hg).trans hg;refine⟨Y,hr,⟨_,hm,fun j hj=>?_⟩,h3.trans (Below.turned ht h4),h4⟩;by_cases e:j=k
 ·subst e
  exact⟨v,yi,hv.row hrow⟩
 ·obtain ⟨u,h5,h6⟩:=h2 j (hj.resolve_right e)
  exact⟨u,by rw[xI e];exact h5,h6.row hrow⟩
theorem s_moves (w:World):Calls Tryz.prog 117 #[] w (MvsRet w):=by
 have hmk:∀X:World,Sem.run Tryz.prog (Instr.makeMap 224 none) X=.ok (.map (some X.heap.size)) (X.alloc (.map #[] 0)):=fun X=>by kernel_rfl
 have b0:Below w.heap.size w (w.alloc (.map #[] 0)):=(Below.refl _ w).alloc (Nat.le_refl _) _;have h0:MvInv w w.heap.size (fun _=>False) (w.alloc (.map #[] 0)):=⟨⟨_,xp.made (qy w _),fun k hk=>hk.elim⟩,b0,Nat.le_refl _⟩
 have z0:(w.alloc (.map #[] 0)).heap.size=w.heap.size+1:=by simp
 have a1:=h0.alloc (.cells #[.int .i64 1] 3);have o1:MvOk ((w.alloc (.map #[] 0)).alloc (.cells #[.int .i64 1] 3)) w.heap.size 2 (.agg #[.slice (some ⟨w.heap.size+1,0,none⟩) 1 1,.func (.func 154) #[] #[]]):=⟨w.heap.size+1,_,_,rfl,qL z0.symm,by omega,.inl ⟨rfl,rfl,rfl⟩⟩
 obtain⟨X1,r1,h1⟩:=a1.ins o1;clear a1 o1 h0 b0;have a2:=h1.alloc (.cells #[.int .i64 2] 3);have o2:MvOk (X1.alloc (.cells #[.int .i64 2] 3)) w.heap.size 3 (.agg #[.slice (some ⟨X1.heap.size,0,none⟩) 1 1,.func (.func 155) #[] #[]]):=⟨X1.heap.size,_,_,rfl,qy _ _,h1.below.size,.inr (.inl ⟨rfl,rfl,rfl⟩)⟩
 obtain⟨X2,r2,h2⟩:=a2.ins o2;clear a2 o2 h1;have a3:=h2.alloc (.cells #[.int .i64 1] 3);have o3:MvOk (X2.alloc (.cells #[.int .i64 1] 3)) w.heap.size 4 (.agg #[.slice (some ⟨X2.heap.size,0,none⟩) 1 1,.func (.func 157) #[] #[]]):=⟨X2.heap.size,_,_,rfl,qy _ _,h2.below.size,.inr (.inr (.inl ⟨rfl,rfl,rfl⟩))⟩
 obtain⟨X3,r3,h3⟩:=a3.ins o3;clear a3 o3 h2;have a4:=h3.alloc (.cells #[.int .i64 1] 3);have o4:MvOk (X3.alloc (.cells #[.int .i64 1] 3)) w.heap.size 7 (.agg #[.slice (some ⟨X3.heap.size,0,none⟩) 1 1,.func (.func 158) #[] #[]]):=⟨X3.heap.size,_,_,rfl,qy _ _,h3.below.size,.inr (.inr (.inr (.inl ⟨rfl,rfl,rfl⟩)))⟩
 obtain⟨X4,r4,h4⟩:=a4.ins o4;clear a4 o4 h3;have a5:=(h4.alloc (.cells #[.int .i64 3] 3)).alloc (.cells #[.int .i64 3] 3);have zz5:(X4.alloc (.cells #[.int .i64 3] 3)).heap.size=X4.heap.size+1:=by simp
 have o5:MvOk ((X4.alloc (.cells #[.int .i64 3] 3)).alloc (.cells #[.int .i64 3] 3)) w.heap.size 5 (.agg #[.slice (some ⟨X4.heap.size,0,none⟩) 1 1,.func (.func 153) #[] #[.pointer (some ⟨X4.heap.size+1,0,none⟩)]]):=
  ⟨X4.heap.size,_,_,rfl,qF (qy _ _),h4.below.size,.inr (.inr (.inr (.inr ⟨rfl,X4.heap.size+1,3,.inl ⟨rfl,rfl⟩,rfl,qL zz5.symm,by have:=h4.below.size;omega⟩)))⟩
 obtain⟨X5,r5,h5⟩:=a5.ins o5;clear a5 o5 h4 zz5;have a6:=(h5.alloc (.cells #[.int .i64 1,.int .i64 2,.int .i64 3,.int .i64 4] 3)).alloc (.cells #[.int .i64 4] 3);have zz6:(X5.alloc (.cells #[.int .i64 1,.int .i64 2,.int .i64 3,.int .i64 4] 3)).heap.size=X5.heap.size+1:=by simp
 have o6:MvOk ((X5.alloc (.cells #[.int .i64 1,.int .i64 2,.int .i64 3,.int .i64 4] 3)).alloc (.cells #[.int .i64 4] 3)) w.heap.size 6 (.agg #[.slice (some ⟨X5.heap.size,0,none⟩) 4 4,.func (.func 153) #[] #[.pointer (some ⟨X5.heap.size+1,0,none⟩)]]):=
  ⟨X5.heap.size,_,_,rfl,qF (qy _ _),h5.below.size,.inr (.inr (.inr (.inr ⟨rfl,X5.heap.size+1,4,.inr ⟨rfl,rfl⟩,rfl,qL zz6.symm,by have:=h5.below.size;omega⟩)))⟩
 obtain⟨X6,r6,h6⟩:=a6.ins o6;clear a6 o6 h5 zz6;go_enter Tryz.func117,Tryz.ntmps117;go_wp2_with fail;refine(mv_clos 3 _).mono ?_;rintro e W ⟨rfl,rfl⟩;go_wp2_with fail;refine(mv_clos 4 _).mono ?_;rintro e W ⟨rfl,rfl⟩;go_wp2_with fail;go_ret;obtain⟨⟨M,h1,h2⟩,h3,h4⟩:=h6;refine⟨_,M,rfl,h1,fun k hk1 hk2=>h2 k ?_,h3⟩;omega
end
theorem ptr_one (g:Nat):∀u ∈ yz (ptrV g),u.oneCell'=true:=by intro u hu;simp[yz] at hu;subst hu;rfl
theorem infoPs:(Tryz.prog.info? 149).map (fun i=>(i.zero,i.size,i.bytes))=some (some (.pointer none),1,8):=by kernel_rfl
theorem zeroPs (w:World):(zeroValue 149).run Tryz.prog w=.ok (.pointer none) w:=by kernel_rfl
theorem row_map {w w':World} {b:Nat} {g:Nat} {cs:Array Value} {t:TypeId} {fz:Nat×Nat} (h:w.mapTurned w' b) (hg:w.heap[g]?=some (.cells cs t fz)):w'.heap[g]?=some (.cells cs t fz):=(xb h hg).trans hg
section
variable {w w':World} {B bA bY bZ n:Nat} {ov tv:Value} {os:List Ob} {A:Au} {Z:Int->Prop} {bs:List (Nat×Value)}
theorem AuIn.turn (h:AuIn w B bA bY bZ ov tv os n A Z bs) (hc:yH (fun k=>k=bA\/k=bZ) w w') {n':Nat} {Z':Int->Prop} (hr:w'.heap[bA]?=some (.cells #[ov,.int .i64 n',tv,.map (some bY),.map (some bZ)] 148 (0,0)))
  {M:Int->Option Value} (hm:xp w' bZ M) (hz:∀x,¬Z' x->M x=none):AuIn w' B bA bY bZ ov tv os n' A Z' bs:=by
 obtain⟨MZ,hmz,-⟩:=h.bz.2;have notA:∀g cs t fz,w.heap[g]?=some (.cells cs t fz)->t≠148->¬(g=bA\/g=bZ):=fun g cs t fz hg ht=>by
  rintro(rfl|rfl)
  ·rw [h.row] at hg
   simp only[Option.some.injEq,Obj.cells.injEq] at hg;exact ht hg.2.1.symm
  ·obtain ⟨es,c,hh⟩:=hmz.isMap
   rw[hg] at hh;cases hh
 refine⟨hr,h.hB,qq.chg h.obs hc fun g hg=>?_,qq.chg h.txs hc fun g hg=>?_,h.len,fun k p s hp hs=>(h.sts k p s hp hs).chg hc fun g hg=>?_,h.nod,h.dis,⟨h.by_.1,?_⟩,⟨h.bz.1,M,hm,hz⟩,h.ne⟩
 ·obtain ⟨cs,fz,hh⟩:=qq.typ h.obs hg
  exact notA g cs _ fz hh (by decide)
 ·obtain ⟨cs,fz,hh⟩:=qq.typ h.txs hg
  exact notA g cs _ fz hh (by decide)
 ·obtain ⟨cs,t,fz,hh,ht⟩:=(h.sts k p s hp hs).typ hg
  refine notA g cs _ fz hh ?_;rcases ht with rfl|rfl <;> decide
 ·obtain ⟨M1,h1,h2⟩:=h.by_.2
  refine⟨M1,h1.chg hc ?_,h2⟩;rintro(e|e)
  ·obtain ⟨es,c,hh⟩:=h1.isMap
   rw[e,h.row] at hh;cases hh
  ·exact h.ne e
theorem AuIn.begun (h:AuIn w B bA bY bZ ov tv os n A Z bs) (hc:yH (fun k=>k=bA\/tv.ownBlock=some k\/k=bY\/k=bZ) w w') {n' p:Nat} {tv':Value} {s:St}
  (hr:w'.heap[bA]?=some (.cells #[ov,.int .i64 n',tv',.map (some bY),.map (some bZ)] 148 (0,0)))
  (ht:qq yz 149 1 w' B tv' ((bs++[(p,Value.slice none 0 0)]).map fun q=>ptrV q.1)) (hs:zm w' B (p,.slice none 0 0) s) (hp:w.heap.size<=p)
  {MY MY' MZ MZ':Int->Option Value} (hY:xp w' bY MY') (f1:∀(k:Nat) (p:Nat×Value) (s:St),bs[k]?=some p->A[k]?=some s->MY s.id=some (ptrV p.1)) (f2:∀x,¬hasId x A->MY x=none) (f3:∀k,k≠s.id->MY' k=MY k) (f4:MY' s.id=some (ptrV p)) (hno:¬hasId s.id A)
  (hZ:xp w' bZ MZ') (f5:∀x,¬Z x->MZ x=none) (f6:∀k,k≠s.thread->MZ' k=MZ k) (hsd:s.deeds=[]):
  AuIn w' B bA bY bZ ov tv' os n' (A++[s]) (fun x=>Z x\/x=s.thread) (bs++[(p,.slice none 0 0)]):=by
 obtain⟨M0,hm0,-⟩:=h.bz.2;obtain⟨M1,hm1,-⟩:=h.by_.2;have notA:∀g cs t fz,w.heap[g]?=some (.cells cs t fz)->t≠148->t≠149->¬(g=bA\/tv.ownBlock=some g\/g=bY\/g=bZ):=fun g cs t fz hg ht ht2=>by
  rintro(rfl|hk|rfl|rfl)
  ·rw [h.row] at hg
   simp only[Option.some.injEq,Obj.cells.injEq] at hg;exact ht hg.2.1.symm
  ·obtain ⟨cs',fz',hh⟩:=qq.typ h.txs hk
   rw[hg] at hh;simp only[Option.some.injEq,Obj.cells.injEq] at hh;exact ht2 hh.2.1
  ·obtain ⟨es,c,hh⟩:=hm1.isMap
   rw[hg] at hh;cases hh
  ·obtain ⟨es,c,hh⟩:=hm0.isMap
   rw[hg] at hh;cases hh
 have old:∀k (q:Nat×Value),bs[k]?=some q->∃t,A[k]?=some t/\zm w B q t:=fun k q hq=>by
  have hk:=(List.getElem?_eq_some_iff.1 hq).1;obtain⟨t,ht⟩:∃t,A[k]?=some t:=⟨_,List.getElem?_eq_getElem (by rw[←h.len];exact hk)⟩
  exact⟨t,ht,h.sts k q t hq ht⟩
 have split:∀k (q:Nat×Value),(bs++[(p,Value.slice none 0 0)])[k]?=some q->bs[k]?=some q\/(k=bs.length/\q=(p,.slice none 0 0)):=fun k q hq=>by
  rcases Nat.lt_or_ge k bs.length with hk|hk
  ·rw [List.getElem?_append_left hk] at hq;exact .inl hq
  ·have hl:=(List.getElem?_eq_some_iff.1 hq).1
   simp only[List.length_append,List.length_cons,List.length_nil] at hl;obtain rfl:k=bs.length:=by omega
   simp only[List.getElem?_concat_length,Option.some.injEq] at hq;exact .inr ⟨rfl,hq.symm⟩
 have splitA:∀k (t:St),(A++[s])[k]?=some t->A[k]?=some t\/(k=bs.length/\t=s):=fun k t hq=>by
  rcases Nat.lt_or_ge k A.length with hk|hk
  ·rw [List.getElem?_append_left hk] at hq;exact .inl hq
  ·have hl:=(List.getElem?_eq_some_iff.1 hq).1
   simp only[List.length_append,List.length_cons,List.length_nil] at hl;have:=h.len;obtain rfl:k=A.length:=by omega
   simp only[List.getElem?_concat_length,Option.some.injEq] at hq;exact .inr ⟨by omega,hq.symm⟩
 have both:∀k (q:Nat×Value) (t:St),(bs++[(p,Value.slice none 0 0)])[k]?=some q->(A++[s])[k]?=some t->(bs[k]?=some q/\A[k]?=some t)\/(q=(p,.slice none 0 0)/\t=s):=fun k q t hq ht=>by
  rcases split k q hq with h1|⟨h1,h2⟩
  ·rcases splitA k t ht with h3|⟨h3,h4⟩
   ·exact .inl ⟨h1,h3⟩
   ·have:=(List.getElem?_eq_some_iff.1 h1).1;omega
  ·rcases splitA k t ht with h3|⟨h3,h4⟩
   ·have:=(List.getElem?_eq_some_iff.1 h3).1
    have:=h.len;omega
   ·exact .inr ⟨h2,h4⟩
 refine⟨hr,h.hB,qq.chg h.obs hc fun g hg=>?_,ht,by simp[h.len],fun k q t hq ht=>?_,?_,fun j k q r hq hr hne g hg=>?_,⟨h.by_.1,MY',hY,fun k q t hq ht=>?_,fun x hx=>?_⟩,⟨h.bz.1,MZ',hZ,fun x hx=>?_⟩,h.ne⟩
 ·obtain ⟨cs,fz,hh⟩:=qq.typ h.obs hg
  exact notA g cs _ fz hh (by decide) (by decide)
 ·rcases both k q t hq ht with⟨h1,h2⟩|⟨rfl,rfl⟩
  ·refine (h.sts k q t h1 h2).chg hc fun g hg=>?_
   obtain⟨cs,t',fz,hh,ht'⟩:=(h.sts k q t h1 h2).typ hg;rcases ht' with rfl|rfl
   ·exact notA g cs _ fz hh (by decide) (by decide)
   ·exact notA g cs _ fz hh (by decide) (by decide)
  ·exact hs
 ·rw [List.map_append]
  refine List.nodup_append.2 ⟨h.nod,by simp,?_⟩;intro a ha b hb;simp only[List.map_cons,List.map_nil,List.mem_singleton] at hb;subst hb;obtain⟨q,hq,rfl⟩:=List.mem_map.1 ha;obtain⟨k,hk⟩:=List.mem_iff_getElem?.1 hq;obtain⟨t,-,hst⟩:=old k q hk;have:=qh hst.row;exact fun e=>by omega
 ·rcases split j q hq with h1|⟨-,rfl⟩
  ·rcases split k r hr with h2|⟨-,rfl⟩
   ·exact h.dis j k q r h1 h2 hne g hg
   ·simp [Value.ownBlock]
  ·simp [Value.ownBlock] at hg
 ·rcases both k q t hq ht with⟨h1,h2⟩|⟨rfl,rfl⟩
  ·rw [f3 t.id ?_]
   ·exact f1 k q t h1 h2
   ·intro e
    exact hno ⟨t,List.mem_of_getElem? h2,e⟩
  ·exact f4
 ·rw [f3 x ?_]
  ·exact f2 x fun⟨t,ht,e⟩=>hx ⟨t,by simp[ht],e⟩
  ·rintro rfl
   exact hx ⟨s,by simp,rfl⟩
 ·rw [f6 x fun e=>hx (.inr e)]
  exact f5 x fun e=>hx (.inl e)
theorem isBusy_snoc {s:St} {x:Int} (h:isBusy x A\/x=s.thread) (hs:s.stand≠5):isBusy x (A++[s]):=by
 rcases h with⟨t,ht,h⟩|rfl
 ·exact ⟨t,by simp[ht],h⟩
 ·exact ⟨s,by simp,rfl,hs⟩
end
