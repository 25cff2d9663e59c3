/- Parts of the proof, merged by program out of 5 texts (ShM, ShN, ShL, ShP, FtC): the first: The automaton of well-formed histories in memory: where it lies, what keeps it. Conditions: those of each theorem, as typed. -/
import Derived.Test.YtcpfbphcldocpaaGreatDoorQF07
import Derived.Test.YtcpfbphcldocpaaGreatDoorQF01
import Derived.Test.YtcpfbphcldocpaaGreatDoorQF06
set_option linter.unusedVariables false
set_option linter.unusedSimpArgs false
set_option linter.unusedSectionVars false
set_option maxRecDepth 100000
set_option maxHeartbeats 4000000
namespace Go.Proofs.YtcpfbphcldocpaaGreatDoor
open Go.Maps Go.RowKit
section
attribute [local irreducible] wpL
structure Chg (S:Nat→Prop) (w w':World):Prop where
 os:w'.os=w.os
 tape:w'.tape=w.tape
 output:w'.output=w.output
 size:w.heap.size≤w'.heap.size
 keep:∀k,k < w.heap.size→¬S k→w'.heap[k]?=w.heap[k]?
section
variable {S T:Nat→Prop} {w w' w1:World}
theorem Chg.refl (w:World):Chg S w w:=⟨rfl,rfl,rfl,Nat.le_refl _,fun _ _ _=>rfl⟩
theorem Chg.trans (h:Chg S w w1) (k:Chg T w1 w') (hT:∀j,j < w.heap.size→T j→S j):Chg S w w':=
 ⟨k.os.trans h.os,k.tape.trans h.tape,k.output.trans h.output,Nat.le_trans h.size k.size,fun j hj hs=>(k.keep j (Nat.lt_of_lt_of_le hj h.size) fun ht=>hs (hT j hj ht)).trans (h.keep j hj hs)⟩
theorem Chg.mono (h:Chg S w w') (hS:∀j,S j→T j):Chg T w w':=⟨h.os,h.tape,h.output,h.size,fun j hj ht=>h.keep j hj fun hs=>ht (hS j hs)⟩
theorem Chg.of_below (h:Below w.heap.size w w'):Chg S w w':=⟨h.os,h.tape,h.output,h.size,fun j hj _=>h.block j hj⟩
theorem Chg.below {B:Nat} (h:Chg S w w') (hS:∀j,S j→B≤j) (hB:B≤w.heap.size):Below B w w':=⟨h.os,h.tape,h.output,h.size,fun j hj=>h.keep j (by omega) fun hs=>by have:=hS j hs;omega⟩
theorem Chg.set (h:Chg S w w') {g j:Nat} {v:Value} (hg:S g):Chg S w (w'.setCell ⟨g,j,none⟩ v):=
 ⟨h.os,h.tape,h.output,by have:=h.size;rw[show (w'.setCell ⟨g,j,none⟩ v).heap.size=w'.heap.size from by simp];exact this,fun k hk hs=>(Go.RowKit.Below.heap_setCell _ _ _ _ (by rintro rfl;exact hs hg)).trans (h.keep k hk hs)⟩
theorem Chg.alloc (h:Chg S w w') (o:Obj):Chg S w (w'.alloc o):=⟨h.os,h.tape,h.output,by have:=h.size;simp;omega,fun k hk hs=>(heap_alloc_old w' o (by have:=h.size;omega)).trans (h.keep k hk hs)⟩
theorem Chg.drew (h:Chg S w w'):Chg S w w'.drew:=⟨h.os,h.tape,h.output,h.size,h.keep⟩
theorem Chg.turned {b:Nat} (h:w.mapTurned w' b) (hb:S b):Chg S w w':=by
 obtain⟨es,c,es',c',hh,rfl⟩:=h
 exact⟨rfl,rfl,rfl,by simp[ChangeMaps.setBlock],fun k hk hs=>Go.ChangeMaps.heap_setBlock_other hh _ (by rintro rfl;exact hs hb)⟩
theorem Chg.grw {v v':Value} (h:Grw w w' v v') (hv:∀k,v.ownBlock=some k→S k):Chg S w w':=
 ⟨h.grown.os,h.grown.tape,h.grown.output,h.grown.size,fun k hk hs=>h.grown.block k hk fun e=>hs (hv k e.symm)⟩
theorem Chg.row {g:Nat} {x:Obj} (h:Chg S w w') (hg:w.heap[g]?=some x) (hs:¬S g):w'.heap[g]?=some x:=(h.keep g (row_lt hg) hs).trans hg
theorem OwnF.typ {α:Type} {f:α→List Value} {e:TypeId} {sz B:Nat} {v:Value} {l:List α} (h:OwnF f e sz w B v l) {g:Nat} (hg:v.ownBlock=some g):∃cs fz,w.heap[g]?=some (.cells cs e fz):=by
 obtain⟨-,h2⟩:=h
 rcases h2 with⟨rfl,-⟩|⟨g',cap,cur,rfl,-,hh,-⟩
 ·cases hg
 ·simp only[Value.ownBlock,Option.some.injEq] at hg
  subst hg
  exact⟨_,_,hh⟩
theorem OwnF.chg {α:Type} {f:α→List Value} {e:TypeId} {sz B:Nat} {v:Value} {l:List α} (h:OwnF f e sz w B v l) (hc:Chg S w w') (hs:∀g,v.ownBlock=some g→¬S g):OwnF f e sz w' B v l:=by
 obtain⟨h1,h2⟩:=h
 refine⟨h1,?_⟩
 rcases h2 with h2|⟨g,cap,cur,rfl,hg,hh,r⟩
 ·exact .inl h2
 ·exact .inr ⟨g,cap,cur,rfl,hg,hc.row hh (hs g rfl),r⟩
theorem RawM.chg {b:Nat} {M:Int→Option Value} (h:RawM w b M) (hc:Chg S w w') (hs:¬S b):RawM w' b M:=h.obj (hc.keep b h.lt hs)
end
def stCs (s:St) (dv:Value):List Value:=[.int .i64 s.id,.int .i64 s.thread,.int .i64 s.status,.int .i64 s.beg,.int .i64 s.fin,.int .i64 s.tri,dv,.int .i64 s.stand]
abbrev OwnD (w:World) (B:Nat) (v:Value) (l:List Dd):Prop:=OwnF Dd.cells 112 8 w B v l
structure StAt (w:World) (B:Nat) (p:Nat×Value) (s:St):Prop where
 row:w.heap[p.1]?=some (.cells (stCs s p.2).toArray 179 (0,0))
 hB:B≤p.1
 dds:OwnD w B p.2 s.deeds
def stS (p:Nat×Value):Nat→Prop:=fun k=>k=p.1∨p.2.ownBlock=some k
def ptrV (g:Nat):Value:=.pointer (some ⟨g,0,none⟩)
def BzIs (M:Int→Option Value) (Z:Int→Prop):Prop:=(∀x,¬Z x→M x=none)∧∀x,Z x→∃g,M x=some (ptrV g)
structure AuIn (w:World) (B bA bY bZ:Nat) (ov tv:Value) (os:List Ob) (n:Nat) (A:Au) (Z:Int→Prop) (bs:List (Nat×Value)):Prop where
 row:w.heap[bA]?=some (.cells #[ov,.int .i64 n,tv,.map (some bY),.map (some bZ)] 176 (0,0))
 hB:B≤bA
 obs:OwnF Ob.cells 62 2 w B ov os
 txs:OwnF valC 177 1 w B tv (bs.map fun p=>ptrV p.1)
 len:bs.length=A.length
 sts:∀(k:Nat) (p:Nat×Value) (s:St),bs[k]?=some p→A[k]?=some s→StAt w B p s
 nod:(bs.map (·.1)).Nodup
 dis:∀(j k:Nat) (p q:Nat×Value),bs[j]?=some p→bs[k]?=some q→j≠k→∀g,p.2.ownBlock=some g→q.2.ownBlock≠some g
 by_:B≤bY∧∃M,RawM w bY M∧(∀(k:Nat) (p:Nat×Value) (s:St),bs[k]?=some p→A[k]?=some s→M s.id=some (ptrV p.1))∧∀x,¬hasId x A→M x=none
 bz:B≤bZ∧∃M,RawM w bZ M∧BzIs M Z
 ne:bY≠bZ
def AuAt (w:World) (B bA:Nat) (os:List Ob) (n:Nat) (A:Au):Prop:=∃bY bZ ov tv bs,AuIn w B bA bY bZ ov tv os n A (fun x=>isBusy x A) bs
section
variable {w w':World} {B bA bY bZ n:Nat} {ov tv:Value} {os:List Ob} {A:Au} {Z:Int→Prop} {bs:List (Nat×Value)}
theorem StAt.typ {p:Nat×Value} {s:St} (h:StAt w B p s) {k:Nat} (hk:stS p k):∃cs t fz,w.heap[k]?=some (.cells cs t fz)∧(t=179∨t=112):=by
 rcases hk with rfl|hk
 ·exact ⟨_,_,_,h.row,.inl rfl⟩
 ·obtain ⟨cs,fz,hh⟩:=OwnF.typ h.dds hk
  exact⟨_,_,_,hh,.inr rfl⟩
theorem StAt.ge {p:Nat×Value} {s:St} (h:StAt w B p s) {k:Nat} (hk:stS p k):B≤k:=by
 rcases hk with rfl|hk
 ·exact h.hB
 ·exact (OwnF.lt h.dds k hk).1
theorem StAt.notCells {p:Nat×Value} {s:St} (h:StAt w B p s) {g:Nat} {cs:Array Value} {t:TypeId} {fz:Nat×Nat} (hg:w.heap[g]?=some (.cells cs t fz)) (h1:t≠179) (h2:t≠112):¬stS p g:=fun hk=>by
 obtain⟨cs',t',fz',hh,ht⟩:=h.typ hk
 rw[hg] at hh
 simp only[Option.some.injEq,Obj.cells.injEq] at hh
 rcases ht with ht|ht
 ·exact h1 (hh.2.1.trans ht)
 ·exact h2 (hh.2.1.trans ht)
theorem StAt.notMap {p:Nat×Value} {s:St} (h:StAt w B p s) {g:Nat} (hg:∃es c,w.heap[g]?=some (.map es c)):¬stS p g:=fun hk=>by
 obtain⟨cs',t',fz',hh,-⟩:=h.typ hk
 obtain⟨es,c,hg⟩:=hg
 rw[hg] at hh
 cases hh
theorem AuIn.get (h:AuIn w B bA bY bZ ov tv os n A Z bs) {k:Nat} {s:St} (hs:A[k]?=some s):∃p,bs[k]?=some p∧StAt w B p s:=by
 have hk:=(List.getElem?_eq_some_iff.1 hs).1
 obtain⟨p,hp⟩:∃p,bs[k]?=some p:=⟨_,List.getElem?_eq_getElem (by rw[h.len];exact hk)⟩
 exact⟨p,hp,h.sts k p s hp hs⟩
theorem AuIn.apart (h:AuIn w B bA bY bZ ov tv os n A Z bs) {j k:Nat} {p q:Nat×Value} {s t:St} (hp:bs[j]?=some p) (hq:bs[k]?=some q) (hs:A[j]?=some s) (ht:A[k]?=some t) (hne:j≠k) {g:Nat} (hg:stS p g):¬stS q g:=by
 have hj:=(List.getElem?_eq_some_iff.1 hp).1
 rcases hg with rfl|hg
 ·rintro (hk|hk)
  ·have:=(List.getElem?_inj (i:=j) (j:=k) (by simpa using hj) h.nod).1 (by simp[hp,hq,hk])
   exact hne this
  ·obtain ⟨cs,fz,hh⟩:=OwnF.typ (h.sts k q t hq ht).dds hk
   rw[(h.sts j p s hp hs).row] at hh
   simp at hh
 ·rintro (hk|hk)
  ·obtain ⟨cs,fz,hh⟩:=OwnF.typ (h.sts j p s hp hs).dds hg
   rw[hk,(h.sts k q t hq ht).row] at hh
   simp at hh
  ·exact h.dis j k p q hp hq hne g hg hk
theorem StAt.chg {S:Nat→Prop} {p:Nat×Value} {s:St} (h:StAt w B p s) (hc:Chg S w w') (hs:∀g,stS p g→¬S g):StAt w' B p s:=⟨hc.row h.row (hs _ (.inl rfl)),h.hB,OwnF.chg h.dds hc fun g hg=>hs g (.inr hg)⟩
theorem AuIn.chg {S:Nat→Prop} (h:AuIn w B bA bY bZ ov tv os n A Z bs) (hc:Chg S w w') (hS:∀k,k < w.heap.size→¬S k):AuIn w' B bA bY bZ ov tv os n A Z bs:=by
 have hw:∀k x,w.heap[k]?=some x→¬S k:=fun k x hx=>hS k (row_lt hx)
 refine⟨hc.row h.row (hw _ _ h.row),h.hB,OwnF.chg h.obs hc fun g hg=>hS g (OwnF.lt h.obs g hg).2,OwnF.chg h.txs hc fun g hg=>hS g (OwnF.lt h.txs g hg).2,h.len,fun k p s hp hs=>(h.sts k p s hp hs).chg hc fun g hg=>?_,h.nod,h.dis,⟨h.by_.1,?_⟩,⟨h.bz.1,?_⟩,h.ne⟩
 ·obtain ⟨cs,t,fz,hh,-⟩:=(h.sts k p s hp hs).typ hg
  exact hw _ _ hh
 ·obtain ⟨M,h1,h2⟩:=h.by_.2
  exact⟨M,h1.chg hc (hS _ h1.lt),h2⟩
 ·obtain ⟨M,h1,h2⟩:=h.bz.2
  exact⟨M,h1.chg hc (hS _ h1.lt),h2⟩
theorem AuIn.below (h:AuIn w B bA bY bZ ov tv os n A Z bs) (hb:Below w.heap.size w w'):AuIn w' B bA bY bZ ov tv os n A Z bs:=h.chg (S:=fun _=>False) (Chg.of_below hb) (fun _ _ h=>h)
theorem AuIn.moved (h:AuIn w B bA bY bZ ov tv os n A Z bs) {k:Nat} {p:Nat×Value} {s s':St} (hp:bs[k]?=some p) (hs:A[k]?=some s) (hc:Chg (stS p) w w') {dv:Value} (hst:StAt w' B (p.1,dv) s') (hid:s'.id=s.id) (hth:s'.thread=s.thread)
  (hdv:∀g,dv.ownBlock=some g→p.2.ownBlock=some g∨w.heap.size≤g):AuIn w' B bA bY bZ ov tv os n (A.set k s') Z (bs.set k (p.1,dv)):=by
 have hsp:=h.sts k p s hp hs
 have hmap:(bs.set k (p.1,dv)).map (fun p=>ptrV p.1)=bs.map fun p=>ptrV p.1:=by
  apply List.ext_getElem?
  intro j
  by_cases e:k=j
  ·subst e
   rw[List.getElem?_map,List.getElem?_map,List.getElem?_set_self (List.getElem?_eq_some_iff.1 hp).1,hp];rfl
  ·rw [List.getElem?_map,List.getElem?_map,List.getElem?_set_ne e]
 have hmap1:(bs.set k (p.1,dv)).map (·.1)=bs.map (·.1):=by
  apply List.ext_getElem?
  intro j
  by_cases e:k=j
  ·subst e
   rw[List.getElem?_map,List.getElem?_map,List.getElem?_set_self (List.getElem?_eq_some_iff.1 hp).1,hp];rfl
  ·rw [List.getElem?_map,List.getElem?_map,List.getElem?_set_ne e]
 have fresh:∀(j:Nat) (q:Nat×Value) (t:St),bs[j]?=some q→A[j]?=some t→∀g,q.2.ownBlock=some g→g < w.heap.size:=fun j q t hq ht g hg=>(OwnF.lt (h.sts j q t hq ht).dds g hg).2
 have getA:∀(j:Nat) (q:Nat×Value),bs[j]?=some q→∃t,A[j]?=some t:=fun j q hq=>⟨_,List.getElem?_eq_getElem (by rw[←h.len];exact(List.getElem?_eq_some_iff.1 hq).1)⟩
 refine⟨hc.row h.row (hsp.notCells h.row (by decide) (by decide)),h.hB,OwnF.chg h.obs hc fun g hg=>?_,?_,by simpa using h.len,fun j q t hq ht=>?_,by rw[hmap1];exact h.nod,fun i j q r hq hr hne g hg=>?_,⟨h.by_.1,?_⟩,⟨h.bz.1,?_⟩,h.ne⟩
 ·obtain ⟨cs,fz,hh⟩:=OwnF.typ h.obs hg
  exact hsp.notCells hh (by decide) (by decide)
 ·rw [hmap]
  refine OwnF.chg h.txs hc fun g hg=>?_
  obtain⟨cs,fz,hh⟩:=OwnF.typ h.txs hg
  exact hsp.notCells hh (by decide) (by decide)
 ·rcases get_set hq with⟨rfl,rfl⟩|⟨hne,hq⟩
  ·rcases get_set ht with⟨-,rfl⟩|⟨hne,-⟩
   ·exact hst
   ·exact absurd rfl hne
  ·rw [List.getElem?_set_ne hne] at ht
   exact(h.sts j q t hq ht).chg hc fun g hg=>h.apart hq hp ht hs (Ne.symm hne) hg
 ·rcases get_set hq with⟨rfl,rfl⟩|⟨hne1,hq⟩
  ·rw [List.getElem?_set_ne hne] at hr
   obtain⟨t,ht⟩:=getA j r hr
   rcases hdv g hg with h1|h1
   ·exact h.dis k j p r hp hr hne g h1
   ·intro h2
    have:=fresh j r t hr ht g h2
    omega
  ·rcases get_set hr with⟨rfl,rfl⟩|⟨hne2,hr⟩
   ·intro h2
    obtain⟨t,ht⟩:=getA i q hq
    rcases hdv g h2 with h1|h1
    ·exact h.dis i k q p hq hp hne g hg h1
    ·have:=fresh i q t hq ht g hg
     omega
   ·exact h.dis i j q r hq hr hne g hg
 ·obtain ⟨M,h1,h2,h3⟩:=h.by_.2
  refine⟨M,h1.chg hc (hsp.notMap h1.isMap),fun j q t hq ht=>?_,fun x hx=>h3 x fun hh=>hx ?_⟩
  ·rcases get_set hq with⟨rfl,rfl⟩|⟨hne,hq⟩
   ·rcases get_set ht with⟨-,rfl⟩|⟨hne,-⟩
    ·rw [hid];exact h2 k p s hp hs
    ·exact absurd rfl hne
   ·rw [List.getElem?_set_ne hne] at ht
    exact h2 j q t hq ht
  ·obtain ⟨t,ht,hti⟩:=hh
   obtain⟨j,hj⟩:=List.mem_iff_getElem?.1 ht
   by_cases e:k=j
   ·subst e
    rw[hs] at hj
    obtain rfl:=Option.some.inj hj
    exact⟨s',mem_set_self hs,hid.trans hti⟩
   ·exact ⟨t,List.mem_iff_getElem?.2 ⟨j,by rw[List.getElem?_set_ne e];exact hj⟩,hti⟩
 ·obtain ⟨M,h1,h2⟩:=h.bz.2
  exact⟨M,h1.chg hc (hsp.notMap h1.isMap),h2⟩
theorem AuIn.zmono {Z':Int→Prop} (h:AuIn w B bA bY bZ ov tv os n A Z bs) (hz:∀x,Z x↔Z' x):AuIn w B bA bY bZ ov tv os n A Z' bs:=
 ⟨h.row,h.hB,h.obs,h.txs,h.len,h.sts,h.nod,h.dis,h.by_,⟨h.bz.1,let ⟨M,h1,h2⟩:=h.bz.2;⟨M,h1,fun x hx=>h2.1 x fun e=>hx ((hz x).1 e),fun x hx=>h2.2 x ((hz x).2 hx)⟩⟩,h.ne⟩
end
end
section
attribute [local irreducible] wpL
def MvRet (w:World) (B:Nat) (p:Nat×Value) (s':St) (e:Ending) (w':World):Prop:=e=.returned .nilIface∧∃dv,StAt w' B (p.1,dv) s'∧Chg (stS p) w w'∧∀g,dv.ownBlock=some g→p.2.ownBlock=some g∨w.heap.size≤g
theorem StAt.own {w w':World} {B p:Nat} {dv:Value} {s s':St} (h:StAt w B (p,dv) s) (hc:Chg (fun k=>k=p) w w') (hr:w'.heap[p]?=some (.cells (stCs s' dv).toArray 179 (0,0))) (hd:s'.deeds=s.deeds):∃dv',StAt w' B (p,dv') s'∧Chg (stS (p,dv)) w w'∧∀g,dv'.ownBlock=some g→dv.ownBlock=some g∨w.heap.size≤g:=by
 refine⟨dv,⟨hr,h.hB,?_⟩,hc.mono fun j hj=>.inl hj,fun g hg=>.inl hg⟩
 rw[hd]
 refine OwnF.chg h.dds hc fun g hg hk=>?_
 obtain⟨cs,fz,hh⟩:=OwnF.typ h.dds hg
 rw[hk,h.row] at hh
 simp at hh
section
variable {w:World} {B p:Nat} {dv:Value} {s:St}
theorem mv_can (xk xx xh xj xo xy xv xr:Int) (n:Nat) (h:StAt w B (p,dv) s):
  Calls Tryz.prog 176 #[.pointer (some ⟨p,0,none⟩),evV ⟨xk,xx,xh,xj,xo,xy,xv,xr⟩,.int .i64 n] w (MvRet w B (p,dv) (canS s)):=by
 have l0:=row_lt h.row
 have H:=hid h
 have r0:=h.row
 have y:=row_cell r0
 have y0:=y 0
 have y1:=y 1
 have y2:=y 2
 have y3:=y 3
 have y4:=y 4
 have y5:=y 5
 have y6:=y 6
 have y7:=y 7
 simp[stCs] at y0 y1 y2 y3 y4 y5 y6 y7
 have yf:∀j,w.frozen? ⟨p,j,none⟩=false:=fun j=>row_free r0 j
 have R0:=hid r0
 clear y h r0
 go_enter Tryz.func176,Tryz.ntmps176
 go_wp2
 go_ret
 have r1:=row_set R0.out 7 (.int .i64 4)
 have rz:=row_old (o:=.cells #[.int .i64 xk,.int .i64 xx,.int .i64 xh,.int .i64 xj,.int .i64 xo,.int .i64 xy,.int .i64 xv,.int .i64 xr] 69) r1
 exact⟨rfl,H.out.own (s':=(canS s)) (((Chg.refl (S:=fun k=>k=p) w).set (g:=p) (j:=7) rfl (v:=.int .i64 4)).alloc _) rz rfl⟩
theorem mv_try (xk xx xh xj xo xy xv xr:Int) (n:Nat) (h:StAt w B (p,dv) s):
  Calls Tryz.prog 175 #[.pointer (some ⟨p,0,none⟩),evV ⟨xk,xx,xh,xj,xo,xy,xv,xr⟩,.int .i64 n] w (MvRet w B (p,dv) (tryS n s)):=by
 have l0:=row_lt h.row
 have H:=hid h
 have r0:=h.row
 have y:=row_cell r0
 have y0:=y 0
 have y1:=y 1
 have y2:=y 2
 have y3:=y 3
 have y4:=y 4
 have y5:=y 5
 have y6:=y 6
 have y7:=y 7
 simp[stCs] at y0 y1 y2 y3 y4 y5 y6 y7
 have yf:∀j,w.frozen? ⟨p,j,none⟩=false:=fun j=>row_free r0 j
 have R0:=hid r0
 clear y h r0
 go_enter Tryz.func175,Tryz.ntmps175
 go_wp2
 go_ret
 have r1:=row_set R0.out 7 (.int .i64 3)
 have r2:=row_set r1 5 (.int .i64 n)
 have r3:=row_set r2 2 (.int .i64 2)
 have rz:=row_old (o:=.cells #[.int .i64 xk,.int .i64 xx,.int .i64 xh,.int .i64 xj,.int .i64 xo,.int .i64 xy,.int .i64 xv,.int .i64 xr] 69) r3
 exact⟨rfl,H.out.own (s':=(tryS n s)) (((((Chg.refl (S:=fun k=>k=p) w).set (g:=p) (j:=7) rfl (v:=.int .i64 3)).set (g:=p) (j:=5) rfl (v:=.int .i64 n)).set (g:=p) (j:=2) rfl (v:=.int .i64 2)).alloc _) rz rfl⟩
theorem mv_end (xk xx xh xj xo xy xv xr:Int) (n:Nat) (c:Nat) (st:Int) (hc:w.heap[c]?=some (.cells #[.int .i64 st] 3 (0,0))) (hcp:c≠p) (h:StAt w B (p,dv) s):
  Calls Tryz.prog 171 #[.pointer (some ⟨p,0,none⟩),evV ⟨xk,xx,xh,xj,xo,xy,xv,xr⟩,.int .i64 n,.pointer (some ⟨c,0,none⟩)] w (MvRet w B (p,dv) (endS st n s)):=by
 have l0:=row_lt h.row
 have H:=hid h
 have r0:=h.row
 have y:=row_cell r0
 have y0:=y 0
 have y1:=y 1
 have y2:=y 2
 have y3:=y 3
 have y4:=y 4
 have y5:=y 5
 have y6:=y 6
 have y7:=y 7
 simp[stCs] at y0 y1 y2 y3 y4 y5 y6 y7
 have yf:∀j,w.frozen? ⟨p,j,none⟩=false:=fun j=>row_free r0 j
 have R0:=hid r0
 clear y h r0
 have hc0:=row_cell hc 0
 have lc:=row_lt hc
 simp at hc0
 clear hc
 go_enter Tryz.func171,Tryz.ntmps171
 go_wp2_with fail
 obtain⟨W,hW⟩:∃W,W=w.alloc (.cells #[.int .i64 xk,.int .i64 xx,.int .i64 xh,.int .i64 xj,.int .i64 xo,.int .i64 xy,.int .i64 xv,.int .i64 xr] 69):=⟨_,rfl⟩
 have bW:Below w.heap.size w W:=by rw[hW];exact(Below.refl _ w).alloc (Nat.le_refl _) _
 rw[←hW]
 have r1:=row_below R0.out bW l0
 clear y0 y1 y2 y3 y4 y5 y6 y7 yf
 have y:=row_cell r1
 have y0:=y 0
 have y1:=y 1
 have y2:=y 2
 have y3:=y 3
 have y4:=y 4
 have y5:=y 5
 have y6:=y 6
 have y7:=y 7
 simp[stCs] at y0 y1 y2 y3 y4 y5 y6 y7
 have yf:∀j,W.frozen? ⟨p,j,none⟩=false:=fun j=>row_free r1 j
 have l1:=row_lt r1
 have lcW:w.heap.size≤W.heap.size:=bW.size
 have hc0:=cell_below bW lc hc0
 have lc1:c < W.heap.size:=by omega
 have R1:=hid r1
 have BW:=hid bW
 clear y r1 bW hW
 refine wp_rK (fun k=>k=c) [0,0,0,0,1,0,0,3,0,0,0,3,0,0,0,3] (.fin [0,1,2,3,4,5,6,7,8,9,10,11,12,13,14,15]) (by kernel_rfl) ?_
 simp only[wpT,selX,guardAt,sD,sE,sF,sG]
 repeat first|(refine wpL_p fun K hK=>?_;go_simp;refine hK _ _ ?_;clear hK K)|(apply wpL_s;(intro w2 hw2;have hk1:=hw2.cell;(try simp only at hk1);have hk3:=hw2.1;clear hw2;go_simp;with_reducible rfl);simp only[Act.put,sA,sB,sC])
 refine wpL_k (fun K hK=>?_)
 go_simp
 refine hK _ _ (RK.KeepsN.set _ _ _ (fun h=>hcp h.symm)) ?_
 clear hK K
 repeat (refine wpL_p fun K hK=>?_;go_simp;refine hK _ _ ?_;clear hK K)
 refine wpL_k (fun K hK=>?_)
 go_simp
 refine hK _ _ (RK.KeepsN.set _ _ _ (fun h=>hcp h.symm)) ?_
 clear hK K
 repeat (refine wpL_p fun K hK=>?_;go_simp;refine hK _ _ ?_;clear hK K)
 refine wpL_k (fun K hK=>?_)
 go_simp
 refine hK _ _ (RK.KeepsN.set _ _ _ (fun h=>hcp h.symm)) ?_
 clear hK K
 repeat refine wpL_nil ?_
 go_wp2
 go_ret
 have r2:=row_set (row_drew R1.out) 7 (.int .i64 5)
 have r3:=row_set r2 4 (.int .i64 n)
 have r4:=row_set r3 2 (.int .i64 st)
 have hcg:Chg (fun k=>k=p) w W.drew:=(Chg.of_below BW.out).drew
 exact⟨rfl,H.out.own (s':=endS st n s) (((hcg.set (g:=p) (j:=7) rfl (v:=.int .i64 5)).set (g:=p) (j:=4) rfl (v:=.int .i64 n)).set (g:=p) (j:=2) rfl (v:=.int .i64 st)) r4 rfl⟩
end
end
section
attribute [local irreducible] wpL
theorem s_Index (v:Value) (l:List Int) (x:Int) (j:Nat) (w:World) (h:Sl w w.heap.size 1 v l.length (l.map (.int .i64))) (hj:l[j]?=some x) (hn:∀i:Nat,i < j→l[i]?≠some x):
  Calls Tryz.prog 177 #[v,.int .i64 x] w fun e w'=>e=.returned (.int .i64 j)∧w'=w:=by
 obtain⟨a,c,rfl,hm⟩:=h.ex
 have hl:=(List.getElem?_eq_some_iff.1 hj).1
 have H:=hid h
 have HJ:=hid hj
 have HN:=hid hn
 clear h hj hn
 go_enter Tryz.func177,Tryz.ntmps177
 go_wp2_with fail
 obtain⟨W,rfl⟩:∃W,W=w:=⟨_,rfl⟩
 go_loopw [8] (fun p wr=>∃i:Nat,i≤j∧p=.int .i64 i∧wr=W) (fun p _=>j - (intOf p).toNat)
 case atStart=>exact⟨0,by omega,by go_num,rfl⟩
 case round=>
  obtain⟨i,hi,rfl,rfl⟩:=hrel
  have hil:i < l.length:=by omega
  obtain⟨b,off,u,hat,hb,hx,hc⟩:=H.out.at1 hil
  subst hat
  have hx2:∃y,l[i]?=some y∧u=.int .i64 y:=by
   rw[List.getElem?_map] at hx
   cases hy:l[i]? with
   |none=>rw[hy] at hx;cases hx
   |some y=>rw[hy] at hx;exact⟨y,rfl,by simpa using hx.symm⟩
  obtain⟨y,hy,rfl⟩:=hx2
  clear hx
  by_cases hij:i=j
  ·subst hij
   have e1:y=x:=by rw[HJ.out] at hy;exact(Option.some.inj hy).symm
   subst e1
   clear hy
   go_wp2
   go_ret
   exact⟨rfl,rfl⟩
  ·have e1:(x==y)=false:=by
    have:=HN.out i (by omega)
    rw[hy] at this
    simp only[ne_eq,Option.some.injEq] at this
    simp;omega
   clear hy
   go_wp2_with fail
   go_roundw
   case rel=>exact⟨i+1,by omega,by go_num,trivial⟩
   case measure=>simp[intOf];omega
theorem first_at (l:List Int) (x:Int) (h:x ∈ l):∃j:Nat,l[j]?=some x∧∀i:Nat,i < j→l[i]?≠some x:=by
 induction l with
 |nil=>cases h
 |cons y l ih=>
  by_cases e:y=x
  ·subst e
   exact⟨0,rfl,fun i hi=>by omega⟩
  ·have:x ∈ l:=by
    rcases List.mem_cons.1 h with h|h
    ·exact absurd h.symm e
    ·exact h
   obtain⟨j,h1,h2⟩:=ih this
   refine⟨j+1,by simpa using h1,fun i hi=>?_⟩
   cases i with
   |zero=>simpa using e
   |succ i=>simpa using h2 i (by omega)
theorem s_Contains (v:Value) (l:List Int) (x:Int) (w:World) (h:Sl w w.heap.size 1 v l.length (l.map (.int .i64))) (hx:x ∈ l):
  Calls Tryz.prog 129 #[v,.int .i64 x] w fun e w'=>e=.returned (.bool true)∧w'=w:=by
 obtain⟨a,c,rfl,hm⟩:=h.ex
 obtain⟨j,h1,h2⟩:=first_at l x hx
 have hl:=(List.getElem?_eq_some_iff.1 h1).1
 have hi:=hid (s_Index _ l x j w h h1 h2)
 clear h h1 h2 hx
 have q:decide ((j:Int)≥0)=true:=by simp
 have q2:decide (0≤(j:Int))=true:=by simp
 go_enter Tryz.func129,Tryz.ntmps129
 go_wp2_with fail
 refine hi.out.mono ?_
 rintro e w1 ⟨rfl,rfl⟩
 go_wp2
 go_ret
 exact⟨rfl,rfl⟩
end
section
attribute [local irreducible] wpL
theorem infoDd:(Tryz.prog.info? 112).map (fun i=>(i.zero,i.size,i.bytes))=some (some (.agg #[.int .i64 0,.int .i64 0,.int .i64 0,.int .i64 0,.int .i64 0,.int .i64 0,.int .i64 0,.int .i64 0]),8,64):=by kernel_rfl
theorem dd_one (x:Dd):∀u ∈ x.cells,u.oneCell'=true:=by intro u hu;simp[Dd.cells] at hu;rcases hu with rfl|rfl|rfl|rfl|rfl|rfl|rfl|rfl <;> rfl
theorem dd_last {l:List Dd} {d:Dd} (h:l.getLast?=some d):l=l.dropLast++[d]:=by
 obtain⟨ys,h1⟩:=List.getLast?_eq_some_iff.1 h
 rw[h1];simp
theorem flat_set {α:Type} {f:α→List Value} {sz:Nat} (hf:∀x,(f x).length=sz):∀(l:List α) (k j:Nat) (x x':α) (u:Value),l[k]?=some x→j < sz→f x'=(f x).set j u→(l.set k x').flatMap f=(l.flatMap f).set (k*sz+j) u
 |[],k,j,x,x',u,h,_,_=>by simp at h
 |y::l,0,j,x,x',u,h,hj,he=>by
  simp only[List.getElem?_cons_zero,Option.some.injEq] at h
  subst h
  simp only[List.set_cons_zero,List.flatMap_cons,Nat.zero_mul,Nat.zero_add,he]
  rw[List.set_append_left _ _ (by rw[hf];exact hj)]
 |y::l,k+1,j,x,x',u,h,hj,he=>by
  simp only[List.getElem?_cons_succ] at h
  simp only[List.set_cons_succ,List.flatMap_cons]
  rw[flat_set hf l k j x x' u h hj he,List.set_append_right _ _ (by rw[hf,Nat.add_mul];omega),hf]
  congr 2
  rw[Nat.add_mul];omega
theorem OwnF.setAt {α:Type} {f:α→List Value} {e:TypeId} {sz B g n cap:Nat} {l:List α} {w:World} (h:OwnF f e sz w B (.slice (some ⟨g,0,none⟩) n cap) l) (hf:∀x,(f x).length=sz) {k j:Nat} {x x':α} {u:Value} (hk:l[k]?=some x) (hj:j < sz) (he:f x'=(f x).set j u):
  OwnF f e sz (w.setCell ⟨g,k*sz+j,none⟩ u) B (.slice (some ⟨g,0,none⟩) n cap) (l.set k x'):=by
 obtain⟨h1,h2⟩:=h
 have hkl:=(List.getElem?_eq_some_iff.1 hk).1
 have hfl:=flat_set hf l k j x x' u hk hj he
 refine⟨by rw[hfl,List.length_set,List.length_set];exact h1,?_⟩
 rcases h2 with⟨h2,h3⟩|⟨g',cap',cur,hv,hg,hh,hnc,hcm,hs,ht⟩
 ·cases h2
 ·simp only[Value.slice.injEq,Option.some.injEq,Addr.mk.injEq] at hv
  obtain⟨⟨rfl,-,-⟩,hn,rfl⟩:=hv
  refine .inr ⟨g,cap,cur.setIfInBounds (k*sz+j) u,by rw[List.length_set,hn],hg,row_set hh _ _,by rw[List.length_set];exact hnc,hcm,by simpa using hs,?_⟩
  rw[hfl,List.length_set,Array.toList_setIfInBounds,List.take_set,ht]
theorem OwnF.free {α:Type} {f:α→List Value} {e:TypeId} {sz B g n cap:Nat} {l:List α} {w:World} (h:OwnF f e sz w B (.slice (some ⟨g,0,none⟩) n cap) l) (j:Nat):w.frozen? ⟨g,j,none⟩=false:=by
 obtain⟨cs,hcs⟩:=OwnF.keepObj h g rfl
 exact row_free hcs j
section
variable {w:World} {B p:Nat} {dv:Value} {s:St}
theorem mv_call (xk xx xh xj xo xy xv xr:Int) (n:Nat) (h:StAt w B (p,dv) s) (hl:s.deeds.length≤1000):
  Calls Tryz.prog 172 #[.pointer (some ⟨p,0,none⟩),evV ⟨xk,xx,xh,xj,xo,xy,xv,xr⟩,.int .i64 n] w (MvRet w B (p,dv) (callSt ⟨xk,xx,xh,xj,xo,xy,xv,xr⟩ n s)):=by
 have l0:=row_lt h.row
 have H:=hid h
 have r0:=h.row
 obtain⟨da,dn,dc,rfl⟩:∃a n c,dv=.slice a n c:=by
  rcases OwnF.form h.dds with⟨rfl,-⟩|⟨g,cap,rfl,-⟩
  ·exact ⟨_,_,_,rfl⟩
  ·exact ⟨_,_,_,rfl⟩
 have y:=row_cell r0
 have y6:=y 6
 have y7:=y 7
 simp[stCs] at y6 y7
 have yf:∀j,w.frozen? ⟨p,j,none⟩=false:=fun j=>row_free r0 j
 have R0:=hid r0
 clear y h r0
 go_enter Tryz.func172,Tryz.ntmps172
 go_wp2_with fail
 have r1:=row_old (o:=.cells #[.int .i64 xk,.int .i64 xx,.int .i64 xh,.int .i64 xj,.int .i64 xo,.int .i64 xy,.int .i64 xv,.int .i64 xr] 69) (row_set R0.out 7 (.int .i64 2))
 have re:=row_new' (w:=w.setCell ⟨p,7,none⟩ (.int .i64 2)) (o:=.cells #[.int .i64 xk,.int .i64 xx,.int .i64 xh,.int .i64 xj,.int .i64 xo,.int .i64 xy,.int .i64 xv,.int .i64 xr] 69) (g:=w.heap.size) (by simp)
 have c1:Chg (fun k=>k=p) w ((w.setCell ⟨p,7,none⟩ (.int .i64 2)).alloc (.cells #[.int .i64 xk,.int .i64 xx,.int .i64 xh,.int .i64 xj,.int .i64 xo,.int .i64 xy,.int .i64 xv,.int .i64 xr] 69)):=((Chg.refl (S:=fun k=>k=p) w).set rfl).alloc _
 have hz1:((w.setCell ⟨p,7,none⟩ (.int .i64 2)).alloc (.cells #[.int .i64 xk,.int .i64 xx,.int .i64 xh,.int .i64 xj,.int .i64 xo,.int .i64 xy,.int .i64 xv,.int .i64 xr] 69)).heap.size=w.heap.size+1:=by simp
 generalize (w.setCell ⟨p,7,none⟩ (.int .i64 2)).alloc (.cells #[.int .i64 xk,.int .i64 xx,.int .i64 xh,.int .i64 xj,.int .i64 xo,.int .i64 xy,.int .i64 xv,.int .i64 xr] 69)=W at *
 have hd:OwnD W B (.slice da dn dc) s.deeds:=OwnF.chg H.out.dds c1 fun g hg hk=>by
  obtain⟨cs,fz,hh⟩:=OwnF.typ H.out.dds hg
  rw[hk,R0.out] at hh
  simp at hh
 clear y6 y7 yf
 have y6:=row_cell r1 6
 simp[stCs] at y6
 have yf:∀j,W.frozen? ⟨p,j,none⟩=false:=fun j=>row_free r1 j
 have e0:=row_cell re 3
 have e1:=row_cell re 4
 have e2:=row_cell re 5
 have e3:=row_cell re 6
 simp at e0 e1 e2 e3
 have lp:p < W.heap.size:=by omega
 have le:w.heap.size < W.heap.size:=by omega
 have HD:=hid hd
 have R1:=hid r1
 have C1:=hid c1
 clear re r1 c1 hd hz1
 have hB:B≤p:=H.out.hB
 refine wp_rN (W.heap.size) [0,0,0,0,0,1,0,1,0,1,0,1,0,1,0,0,3,2,0,0,0,2] (.fin [0,1,2,3,4,5,6,7,8,9,10,11,12,13,14,15,16,17,18,19,20,21]) (by kernel_rfl) ?_
 simp only[wpT,selX,guardAt,sD,sE,sF,sG]
 repeat first|(refine wpL_p fun K hK=>?_;go_simp;refine hK _ _ ?_;clear hK K)|(apply wpL_s;(intro w2 hw2;have hk1:=hw2.cell;have hk3:=hw2.1;clear hw2;go_simp;with_reducible rfl);simp only[Act.put,sA,sB,sC])
 refine wpL_k (fun K hK=>?_)
 go_simp
 refine hK _ _ (RN.KeepsN.alloc _ _ (Nat.le_refl _)) ?_
 clear hK K
 refine wpL_e (fun K hK=>?_)
 have hBW:B≤W.drew.heap.size:=by
  show B≤W.heap.size
  omega
 refine wp_appF _ _ _ rfl _ 64 Tryz.underlying47 infoDd rfl HD.out.drew (newDd ⟨xk,xx,xh,xj,xo,xy,xv,xr⟩ n) hBW (by rfl) (by rfl) (by first|rfl|simp) rfl (dd_one _) (by first|omega|(simp only[List.length_append,List.length_cons,List.length_nil,List.length_replicate];omega)) (by first|omega|(simp only[List.length_append,List.length_cons,List.length_nil,List.length_replicate];omega)) ?_
 intro g cap w' ho hg
 refine hK _ _ ?_
 clear hK K
 have hne:(Value.slice da dn dc).ownBlock≠some p:=fun hk=>by
  obtain⟨cs,fz,hh⟩:=OwnF.typ HD.out hk
  rw[R1.out] at hh
  simp[stCs] at hh
 have hne2:(Value.slice (some ⟨g,0,none⟩) (s.deeds.length+1) cap).ownBlock≠some p:=fun hk=>by
  rcases hg.own _ hk with h1|h1
  ·exact hne h1
  ·have h1:W.heap.size≤p:=h1
   omega
 have r2:=row_grw (row_drew R1.out) hg hne
 have z2:W.heap.size≤w'.heap.size:=hg.size
 have l2:p < w'.heap.size:=by omega
 clear y6 yf
 have y6:=row_cell r2 6
 simp[stCs] at y6
 have yf:∀j,w'.frozen? ⟨p,j,none⟩=false:=fun j=>row_free r2 j
 have R2:=hid r2
 have HO:=hid ho
 have HG:=hid hg
 clear r2 ho hg
 repeat (refine wpL_p fun K hK=>?_;go_simp;refine hK _ _ ?_;clear hK K)
 refine wpL_e (fun K hK=>?_)
 go_simp
 refine hK _ _ ?_
 clear hK K
 repeat refine wpL_nil ?_
 go_wp2
 go_ret
 refine⟨rfl,_,⟨row_set R2.out 6 _,hB,OwnF.other HO.out hne2 _⟩,?_,fun k hk=>?_⟩
 ·refine Chg.set ?_ (.inl rfl)
  exact Chg.trans ((C1.out.mono (T:=stS (p,.slice da dn dc)) fun j hj=>.inl hj).drew) (Chg.grw (S:=stS (p,.slice da dn dc)) HG.out fun k hk=>.inr hk) fun j _ hj=>hj
 ·rcases HG.out.own _ hk with h1|h1
  ·exact .inl h1
  ·exact .inr (by have h1:W.heap.size≤k:=h1;omega)
end
end
section
attribute [local irreducible] wpL
def IntCnt (w:World) (b:Nat) (met:List Int) (n:Nat):Prop:=∃M,RawM w b M∧∀k:Int,∃c:Nat,c≤n∧(M k).getD (.int .i64 0)=.int .i64 c∧(c=0↔k ∉ met)
section
variable {w w':World} {b n:Nat} {met:List Int}
theorem IntCnt.obj (h:IntCnt w b met n) (hw:w'.heap[b]?=w.heap[b]?):IntCnt w' b met n:=let ⟨M,h1,h2⟩:=h;⟨M,h1.obj hw,h2⟩
theorem IntCnt.lt (h:IntCnt w b met n):b < w.heap.size:=let ⟨M,h1,h2⟩:=h;h1.lt
theorem IntCnt.made (h:w.heap[b]?=some (.map #[] 0)):IntCnt w b [] 0:=⟨_,RawM.made h,fun c=>⟨0,Nat.le_refl _,rfl,by simp⟩⟩
theorem IntCnt.mono {n':Nat} (h:IntCnt w b met n) (hn:n≤n'):IntCnt w b met n':=let ⟨M,h1,h2⟩:=h;⟨M,h1,fun k=>let ⟨c,a,r⟩:=h2 k;⟨c,by omega,r⟩⟩
theorem zeroI6 (w:World):(zeroValue 3).run Tryz.prog w=.ok (.int .i64 0) w:=by kernel_rfl
theorem IntCnt.put {M:Int→Option Value} {a:Int} {c:Nat} (h:RawM w' b (rup M a (some (.int .i64 ((c:Int)+1))))) (h2:∀k:Int,∃c:Nat,c≤n∧(M k).getD (.int .i64 0)=.int .i64 c∧(c=0↔k ∉ met)) (hc:c≤n):IntCnt w' b (a::met) (n+1):=by
 refine⟨_,h,fun k=>?_⟩
 by_cases e:k=a
 ·subst e;rw[rup_same];exact⟨c+1,by omega,by simp,by simp⟩
 ·rw [rup_ne e]
  obtain⟨c',h1,h2,h3⟩:=h2 k
  exact⟨c',by omega,h2,by rw[h3];simp[e]⟩
end
theorem OwnF.sli {α:Type} {f:α→List Value} {e:TypeId} {sz B:Nat} {w:World} {v:Value} {l:List α} (h:OwnF f e sz w B v l):∃a c,v=.slice a l.length c:=by
 rcases OwnF.form h with⟨h1,h2⟩|⟨g,cap,h1,-⟩
 ·exact ⟨_,_,by rw[h1,h2];rfl⟩
 ·exact ⟨_,_,h1⟩
theorem OwnF.neM {α:Type} {f:α→List Value} {e:TypeId} {sz B b:Nat} {w:World} {v:Value} {l:List α} (h:OwnF f e sz w B v l) (hm:∃es c,w.heap[b]?=some (.map es c)):v.ownBlock≠some b:=fun e=>by
 obtain⟨es,c,hm⟩:=hm
 obtain⟨c2,hc2⟩:=h.keepObj b e
 rw[hm] at hc2
 cases hc2
theorem readsF_len:∀(l:List Dd) (met:List Int),(readsF met l).length≤l.length
 |[],_=>Nat.le_refl _
 |d::l,met=>by
  rw[readsF,List.length_append,List.length_cons]
  have:=readsF_len l (if isRead d||decide (d.op=2) then d.obj::met else met)
  generalize (readsF (if isRead d||decide (d.op=2) then d.obj::met else met) l)=r at *
  split
  ·rw [List.length_singleton];omega
  ·rw [List.length_nil];omega
theorem p_Reads (i th st be fi tr:Int) (dv:Value) (l:List Dd) (w:World) (hd:Sl w w.heap.size 8 dv l.length (l.flatMap Dd.cells)) (hl:l.length≤400):
  Calls Tryz.prog 42 #[.agg #[.int .i64 i,.int .i64 th,.int .i64 st,.int .i64 be,.int .i64 fi,.int .i64 tr,dv]] w fun e w'=>∃v,e=.returned v∧OwnD w' w.heap.size v (readsF [] l)∧Below w.heap.size w w':=by
 obtain⟨ad,cd,rfl,md⟩:=hd.ex
 have hmm:=@run_makeMap Tryz.prog
 have HD:=hid hd
 clear hd md
 go_enter Tryz.func42,Tryz.ntmps42
 go_wp2_with fail
 have B0:=hid (show Below w.heap.size w ((w.alloc (.cells #[.int .i64 i,.int .i64 th,.int .i64 st,.int .i64 be,.int .i64 fi,.int .i64 tr,.slice ad l.length cd] 49)).alloc (.map #[] 0)) from((Below.refl _ w).alloc (Nat.le_refl _) _).alloc (by simp) _)
 have C0:=hid (show IntCnt ((w.alloc (.cells #[.int .i64 i,.int .i64 th,.int .i64 st,.int .i64 be,.int .i64 fi,.int .i64 tr,.slice ad l.length cd] 49)).alloc (.map #[] 0)) (w.heap.size+1) [] 0 from IntCnt.made (by have:=heap_alloc_new (w.alloc (.cells #[.int .i64 i,.int .i64 th,.int .i64 st,.int .i64 be,.int .i64 fi,.int .i64 tr,.slice ad l.length cd] 49)) (.map #[] 0);simpa using this))
 generalize ((w.alloc (.cells #[.int .i64 i,.int .i64 th,.int .i64 st,.int .i64 be,.int .i64 fi,.int .i64 tr,.slice ad l.length cd] 49)).alloc (.map #[] 0))=W at *
 go_loopw [4,12] (fun q p wr=>∃(k:Nat),k≤l.length∧p=.int .i64 k∧OwnD wr w.heap.size q (readsF [] (l.take k))∧IntCnt wr (w.heap.size+1) (metF [] (l.take k)) k∧Below w.heap.size w wr) (fun _ p _=>l.length - (intOf p).toNat)
 case atStart=>exact⟨0,by omega,by go_num,OwnF.nil _ _,C0.out,B0.out⟩
 case round=>
  obtain⟨k,hk,rfl,qo,qc,qb⟩:=hrel
  clear B0 C0 W
  have hsz:=qb.size
  have hcl:=qc.lt
  obtain⟨X,hX⟩:∃X,readsF [] (l.take k)=X:=⟨_,rfl⟩
  rw[hX] at qo
  obtain⟨aq,cq,rfl⟩:=OwnF.sli qo
  have HXX:=hid hX
  have QO:=hid qo
  have QC:=hid qc
  have QB:=hid qb
  clear qo qc qb hX
  by_cases hlt:k < l.length
  ·obtain ⟨b,off,d,rfl,hb,hdk,hc⟩:=HD.out.atF Dd.len rfl hlt
   have HR:=hid (show readsF [] (l.take (k+1))=readsF [] (l.take k)++(if isRead d&&!(metF [] (l.take k)).contains d.obj then[d] else[]) by
    rw[List.take_add_one,hdk,Option.toList_some,readsF_app]
    simp[readsF])
   have HM:=hid (show metF [] (l.take (k+1))=(if isRead d||decide (d.op=2) then d.obj::metF [] (l.take k) else metF [] (l.take k)) by
    rw[List.take_add_one,hdk,Option.toList_some]
    unfold metF
    rw[List.foldl_append]
    rfl)
   obtain⟨ob,op,ke,va,re,go,at_,ba⟩:=d
   have c0:wr.cell? ⟨b,off+k*8,none⟩=some (.int .i64 ob):=cell_below QB.out hb (hc 0 (by decide))
   have c1:wr.cell? ⟨b,off+k*8+1,none⟩=some (.int .i64 op):=cell_below QB.out hb (hc 1 (by decide))
   have c2:wr.cell? ⟨b,off+k*8+2,none⟩=some (.int .i64 ke):=cell_below QB.out hb (hc 2 (by decide))
   have c3:wr.cell? ⟨b,off+k*8+3,none⟩=some (.int .i64 va):=cell_below QB.out hb (hc 3 (by decide))
   have c4:wr.cell? ⟨b,off+k*8+4,none⟩=some (.int .i64 re):=cell_below QB.out hb (hc 4 (by decide))
   have c5:wr.cell? ⟨b,off+k*8+5,none⟩=some (.int .i64 go):=cell_below QB.out hb (hc 5 (by decide))
   have c6:wr.cell? ⟨b,off+k*8+6,none⟩=some (.int .i64 at_):=cell_below QB.out hb (hc 6 (by decide))
   have c7:wr.cell? ⟨b,off+k*8+7,none⟩=some (.int .i64 ba):=cell_below QB.out hb (hc 7 (by decide))
   have hbw:b < wr.heap.size:=by omega
   obtain⟨Y,hY⟩:∃Y,metF [] (l.take k)=Y:=⟨_,rfl⟩
   rw[HXX.out] at HR
   rw[hY] at QC HM HR
   have hXl:X.length≤400:=by
    rw[←HXX.out]
    exact Nat.le_trans (readsF_len _ _) (by rw[List.length_take];omega)
   clear hc hdk hY
   by_cases e1:op=1
   ·subst e1
    by_cases e4:re=3
    ·subst e4
     have b3:Below wr.heap.size wr (wr.alloc (.cells #[.int .i64 ob,.int .i64 1,.int .i64 ke,.int .i64 va,.int .i64 3,.int .i64 go,.int .i64 at_,.int .i64 ba] 112)):=(Below.refl _ wr).alloc (Nat.le_refl _) _
     have r3:=row_new wr (.cells #[.int .i64 ob,.int .i64 1,.int .i64 ke,.int .i64 va,.int .i64 3,.int .i64 go,.int .i64 at_,.int .i64 ba] 112)
     have QO3:=hid (OwnF.below QO.out b3)
     have QC3:=hid (QC.out.obj (b3.block _ hcl))
     have B3:=hid (QB.out.trans (b3.mono hsz))
     have hz3:(wr.alloc (.cells #[.int .i64 ob,.int .i64 1,.int .i64 ke,.int .i64 va,.int .i64 3,.int .i64 go,.int .i64 at_,.int .i64 ba] 112)).heap.size=wr.heap.size+1:=by simp
     have HZ3:=hid (show w.heap.size≤(wr.alloc (.cells #[.int .i64 ob,.int .i64 1,.int .i64 ke,.int .i64 va,.int .i64 3,.int .i64 go,.int .i64 at_,.int .i64 ba] 112)).heap.size by omega)
     have hne3:(Value.slice aq X.length cq).ownBlock≠some wr.heap.size:=fun e=>absurd (OwnF.lt QO.out _ e).2 (Nat.lt_irrefl _)
     have y:=row_cell r3
     have y0:=y 0
     have y1:=y 1
     have y2:=y 2
     have y3:=y 3
     have y4:=y 4
     have y5:=y 5
     have y6:=y 6
     have y7:=y 7
     simp at y0 y1 y2 y3 y4 y5 y6 y7
     have yl:=row_lt r3
     clear y
     obtain⟨M,hM,hM2⟩:=QC3.out
     obtain⟨c,hcn,hg,hc0⟩:=hM2 ob
     have lk:=(hM.look Tryz.underlying3 Tryz.underlying138 (zeroI6 _) ob rfl).1
     rw[hg] at lk
     have hc4:c≤400:=by omega
     have HM2:=hid hM2
     clear hM2 hg
     have R3:=hid r3
     clear r3 b3
     by_cases hm:c=0
     ·subst hm
      have hnm:=hid (hc0.1 rfl)
      rw[show ((0:Nat):Int)=0 from rfl] at lk
      clear hc0
      go_wp2_with (at_builtin;refine wpList_appF rfl _ _ _ rfl _ 64 Tryz.underlying47 infoDd rfl QO3.out (⟨ob,1,ke,va,3,go,at_,ba⟩:Dd) HZ3.out (by rfl) (by rfl) (by first|rfl|simp) rfl (dd_one _) (by first|omega|(simp only[List.length_append,List.length_cons,List.length_nil,List.length_replicate];omega)) (by first|omega|(simp only[List.length_append,List.length_cons,List.length_nil,List.length_replicate];omega)) ?_;refine Stop.halt ?_)
      refine Stop.go ?_
      generalize wr.alloc (.cells #[.int .i64 ob,.int .i64 1,.int .i64 ke,.int .i64 va,.int .i64 3,.int .i64 go,.int .i64 at_,.int .i64 ba] 112)=W3 at *
      intro g5 c5 w5 o5 G5
      have r5:w5.heap[wr.heap.size]?=some _:=row_grw R3.out G5 hne3
      have hM5:=hM.obj (G5.grown.block (w.heap.size+1) hM.lt fun e=>OwnF.neM QO3.out hM.isMap e.symm)
      have lk5:=(hM5.look Tryz.underlying3 Tryz.underlying138 (zeroI6 w5) ob rfl).1
      have hg5:(M ob).getD (.int .i64 0)=.int .i64 0:=by
       obtain⟨c',h1,h2,h3⟩:=HM2.out ob
       rw[h2,h3.2 hnm.out];rfl
      rw[hg5] at lk5
      have O5:=hid o5
      have z5:=G5.size
      have B5:=hid (B3.out.trans (G5.below (B:=w.heap.size) (by omega) fun j hj=>(OwnF.lt QO3.out j hj).1))
      clear lk hcn y0 y1 y2 y3 y4 y5 y6 y7 yl o5 G5 hg5 hM
      have y:=row_cell r5
      have y0:=y 0
      have y1:=y 1
      have y2:=y 2
      have y3:=y 3
      have y4:=y 4
      have y5:=y 5
      have y6:=y 6
      have y7:=y 7
      simp at y0 y1 y2 y3 y4 y5 y6 y7
      have yl:=row_lt r5
      clear y
      clear r5
      go_wp2_with (at_mapUpdate;refine Stop.halt ?_)
      refine Stop.go ?_
      refine hM5.wpList_store Tryz.underlying3 Tryz.underlying138 (a:=ob) (v:=.int .i64 1) rfl (.inl rfl) (by rfl) (by rfl) (by rfl) ?_
      intro w6 hM6 t6
      have C6:=hid (IntCnt.put (c:=0) hM6 HM2.out (Nat.zero_le _))
      have O6:=hid (OwnF.kd (T:=fun _=>False) O5.out (Kd.turned t6) fun h=>h)
      have B6:=hid (B5.out.trans (Below.turned t6 (by omega)))
      clear t6 hM6
      go_wp2_with fail
      go_roundw
      case rel=>
       refine⟨k+1,by omega,by go_num,?_,?_,B6.out⟩
       ·have e:=HR.out
        rw[if_pos (by simp[isRead,hnm.out])] at e
        rw[e]
        exact O6.out
       ·have e:=HM.out
        rw[if_pos (by simp[isRead])] at e
        rw[e]
        exact C6.out
      case measure=>simp[intOf];omega
     ·have hnm:=hid (Classical.not_not.1 fun h=>hm (hc0.2 h))
      have q0:((c:Int)==0)=false:=by simp;omega
      clear hc0 hm
      go_wp2_with (at_mapUpdate;refine Stop.halt ?_)
      generalize wr.alloc (.cells #[.int .i64 ob,.int .i64 1,.int .i64 ke,.int .i64 va,.int .i64 3,.int .i64 go,.int .i64 at_,.int .i64 ba] 112)=W3 at *
      refine Stop.go ?_
      refine hM.wpList_store Tryz.underlying3 Tryz.underlying138 (a:=ob) (v:=.int .i64 ((c:Int)+1)) rfl (.inl rfl) (by rfl) (by rfl) (by rfl) ?_
      intro w6 hM6 t6
      have C6:=hid (IntCnt.put hM6 HM2.out hcn)
      have O6:=hid (OwnF.kd (T:=fun _=>False) QO3.out (Kd.turned t6) fun h=>h)
      have B6:=hid (B3.out.trans (Below.turned t6 (by omega)))
      clear t6 hM6
      go_wp2_with fail
      go_roundw
      case rel=>
       refine⟨k+1,by omega,by go_num,?_,?_,B6.out⟩
       ·have e:=HR.out
        rw[if_neg (by simp[isRead,hnm.out]),List.append_nil] at e
        rw[e]
        exact O6.out
       ·have e:=HM.out
        rw[if_pos (by simp[isRead])] at e
        rw[e]
        exact C6.out
      case measure=>simp[intOf];omega
    ·have q4:(re==3)=false:=by simpa using e4
     have b3:Below wr.heap.size wr (wr.alloc (.cells #[.int .i64 ob,.int .i64 1,.int .i64 ke,.int .i64 va,.int .i64 re,.int .i64 go,.int .i64 at_,.int .i64 ba] 112)):=(Below.refl _ wr).alloc (Nat.le_refl _) _
     have r3:=row_new wr (.cells #[.int .i64 ob,.int .i64 1,.int .i64 ke,.int .i64 va,.int .i64 re,.int .i64 go,.int .i64 at_,.int .i64 ba] 112)
     have QO3:=hid (OwnF.below QO.out b3)
     have QC3:=hid (QC.out.obj (b3.block _ hcl))
     have B3:=hid (QB.out.trans (b3.mono hsz))
     have hz3:(wr.alloc (.cells #[.int .i64 ob,.int .i64 1,.int .i64 ke,.int .i64 va,.int .i64 re,.int .i64 go,.int .i64 at_,.int .i64 ba] 112)).heap.size=wr.heap.size+1:=by simp
     have HZ3:=hid (show w.heap.size≤(wr.alloc (.cells #[.int .i64 ob,.int .i64 1,.int .i64 ke,.int .i64 va,.int .i64 re,.int .i64 go,.int .i64 at_,.int .i64 ba] 112)).heap.size by omega)
     have hne3:(Value.slice aq X.length cq).ownBlock≠some wr.heap.size:=fun e=>absurd (OwnF.lt QO.out _ e).2 (Nat.lt_irrefl _)
     have y:=row_cell r3
     have y0:=y 0
     have y1:=y 1
     have y2:=y 2
     have y3:=y 3
     have y4:=y 4
     have y5:=y 5
     have y6:=y 6
     have y7:=y 7
     simp at y0 y1 y2 y3 y4 y5 y6 y7
     have yl:=row_lt r3
     clear y
     clear r3 b3
     go_wp2_with fail
     generalize wr.alloc (.cells #[.int .i64 ob,.int .i64 1,.int .i64 ke,.int .i64 va,.int .i64 re,.int .i64 go,.int .i64 at_,.int .i64 ba] 112)=W3 at *
     go_roundw
     case rel=>
      refine⟨k+1,by omega,by go_num,?_,?_,B3.out⟩
      ·have e:=HR.out
       rw[if_neg (by simp[isRead,e4]),List.append_nil] at e
       rw[e]
       exact QO3.out
      ·have e:=HM.out
       rw[if_neg (by simp[isRead,e4])] at e
       rw[e]
       exact QC3.out.mono (by omega)
     case measure=>simp[intOf];omega
   ·have q1:(op==1)=false:=by simpa using e1
    by_cases e2:op=2
    ·subst e2
     have b3:Below wr.heap.size wr (wr.alloc (.cells #[.int .i64 ob,.int .i64 2,.int .i64 ke,.int .i64 va,.int .i64 re,.int .i64 go,.int .i64 at_,.int .i64 ba] 112)):=(Below.refl _ wr).alloc (Nat.le_refl _) _
     have r3:=row_new wr (.cells #[.int .i64 ob,.int .i64 2,.int .i64 ke,.int .i64 va,.int .i64 re,.int .i64 go,.int .i64 at_,.int .i64 ba] 112)
     have QO3:=hid (OwnF.below QO.out b3)
     have QC3:=hid (QC.out.obj (b3.block _ hcl))
     have B3:=hid (QB.out.trans (b3.mono hsz))
     have hz3:(wr.alloc (.cells #[.int .i64 ob,.int .i64 2,.int .i64 ke,.int .i64 va,.int .i64 re,.int .i64 go,.int .i64 at_,.int .i64 ba] 112)).heap.size=wr.heap.size+1:=by simp
     have HZ3:=hid (show w.heap.size≤(wr.alloc (.cells #[.int .i64 ob,.int .i64 2,.int .i64 ke,.int .i64 va,.int .i64 re,.int .i64 go,.int .i64 at_,.int .i64 ba] 112)).heap.size by omega)
     have hne3:(Value.slice aq X.length cq).ownBlock≠some wr.heap.size:=fun e=>absurd (OwnF.lt QO.out _ e).2 (Nat.lt_irrefl _)
     have y:=row_cell r3
     have y0:=y 0
     have y1:=y 1
     have y2:=y 2
     have y3:=y 3
     have y4:=y 4
     have y5:=y 5
     have y6:=y 6
     have y7:=y 7
     simp at y0 y1 y2 y3 y4 y5 y6 y7
     have yl:=row_lt r3
     clear y
     obtain⟨M,hM,hM2⟩:=QC3.out
     obtain⟨c,hcn,hg,hc0⟩:=hM2 ob
     have lk:=(hM.look Tryz.underlying3 Tryz.underlying138 (zeroI6 _) ob rfl).1
     rw[hg] at lk
     have hc4:c≤400:=by omega
     have HM2:=hid hM2
     clear hM2 hg
     clear r3 b3 hc0
     go_wp2_with (at_mapUpdate;refine Stop.halt ?_)
     generalize wr.alloc (.cells #[.int .i64 ob,.int .i64 2,.int .i64 ke,.int .i64 va,.int .i64 re,.int .i64 go,.int .i64 at_,.int .i64 ba] 112)=W3 at *
     refine Stop.go ?_
     refine hM.wpList_store Tryz.underlying3 Tryz.underlying138 (a:=ob) (v:=.int .i64 ((c:Int)+1)) rfl (.inl rfl) (by rfl) (by rfl) (by rfl) ?_
     intro w6 hM6 t6
     have C6:=hid (IntCnt.put hM6 HM2.out hcn)
     have O6:=hid (OwnF.kd (T:=fun _=>False) QO3.out (Kd.turned t6) fun h=>h)
     have B6:=hid (B3.out.trans (Below.turned t6 (by omega)))
     clear t6 hM6
     go_wp2_with fail
     go_roundw
     case rel=>
      refine⟨k+1,by omega,by go_num,?_,?_,B6.out⟩
      ·have e:=HR.out
       rw[if_neg (by simp[isRead]),List.append_nil] at e
       rw[e]
       exact O6.out
      ·have e:=HM.out
       rw[if_pos (by simp[isRead])] at e
       rw[e]
       exact C6.out
     case measure=>simp[intOf];omega
    ·have q2:(op==2)=false:=by simpa using e2
     have b3:Below wr.heap.size wr (wr.alloc (.cells #[.int .i64 ob,.int .i64 op,.int .i64 ke,.int .i64 va,.int .i64 re,.int .i64 go,.int .i64 at_,.int .i64 ba] 112)):=(Below.refl _ wr).alloc (Nat.le_refl _) _
     have r3:=row_new wr (.cells #[.int .i64 ob,.int .i64 op,.int .i64 ke,.int .i64 va,.int .i64 re,.int .i64 go,.int .i64 at_,.int .i64 ba] 112)
     have QO3:=hid (OwnF.below QO.out b3)
     have QC3:=hid (QC.out.obj (b3.block _ hcl))
     have B3:=hid (QB.out.trans (b3.mono hsz))
     have hz3:(wr.alloc (.cells #[.int .i64 ob,.int .i64 op,.int .i64 ke,.int .i64 va,.int .i64 re,.int .i64 go,.int .i64 at_,.int .i64 ba] 112)).heap.size=wr.heap.size+1:=by simp
     have HZ3:=hid (show w.heap.size≤(wr.alloc (.cells #[.int .i64 ob,.int .i64 op,.int .i64 ke,.int .i64 va,.int .i64 re,.int .i64 go,.int .i64 at_,.int .i64 ba] 112)).heap.size by omega)
     have hne3:(Value.slice aq X.length cq).ownBlock≠some wr.heap.size:=fun e=>absurd (OwnF.lt QO.out _ e).2 (Nat.lt_irrefl _)
     have y:=row_cell r3
     have y0:=y 0
     have y1:=y 1
     have y2:=y 2
     have y3:=y 3
     have y4:=y 4
     have y5:=y 5
     have y6:=y 6
     have y7:=y 7
     simp at y0 y1 y2 y3 y4 y5 y6 y7
     have yl:=row_lt r3
     clear y
     clear r3 b3
     go_wp2_with fail
     generalize wr.alloc (.cells #[.int .i64 ob,.int .i64 op,.int .i64 ke,.int .i64 va,.int .i64 re,.int .i64 go,.int .i64 at_,.int .i64 ba] 112)=W3 at *
     go_roundw
     case rel=>
      refine⟨k+1,by omega,by go_num,?_,?_,B3.out⟩
      ·have e:=HR.out
       rw[if_neg (by simp[isRead,e1]),List.append_nil] at e
       rw[e]
       exact QO3.out
      ·have e:=HM.out
       rw[if_neg (by simp[isRead,e1,e2])] at e
       rw[e]
       exact QC3.out.mono (by omega)
     case measure=>simp[intOf];omega
  ·obtain rfl:k=l.length:=by omega
   have e:=HXX.out
   rw[List.take_length] at e
   have hq:decide ((l.length:Int) < (l.length:Int))=false:=by simp
   have HE:=hid e
   clear e
   go_wp2
   go_ret
   exact⟨_,rfl,by rw[HE.out];exact QO.out,QB.out⟩
end
