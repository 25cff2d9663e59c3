/- Parts of the proof; the first: A history under the premise in memory: its movers, who writes a version, who is taken. Conditions: those of each theorem, as typed. -/
import Derived.Test.YtcpfbphcldocpaaGreatDoorQC12
import Derived.Test.YtcpfbphcldocpaaGreatDoorQC13
set_option linter.unusedVariables false
set_option linter.unusedSimpArgs false
set_option linter.unusedSectionVars false
set_option maxRecDepth 100000
set_option maxHeartbeats 4000000
namespace Go.Proofs.YtcpfbphcldocpaaGreatDoor
open Go.Maps Go.RowKit
section
attribute [local irreducible] xL
structure xz where
 p:Nat
 r:Nat
 wm:Nat
 dv:Value
def xz.cells (m:xz):List Value:=[xE m.p]
theorem xz.len (m:xz):m.cells.length=1:=rfl
theorem Vc:(Tryz.prog.info? 133).map (fun i=>(i.zero,i.size,i.bytes))=some (some (.pointer none),1,8):=by kernel_rfl
theorem UT (m:xz):∀u ∈ m.cells,u.oneCell'=true:=by intro u hu;simp[xz.cells] at hu;subst hu;rfl
abbrev Rr (s:St) (m:xz) (lk tk:Bool):Obj:=.cells #[.int .i64 s.id,.int .i64 s.thread,.int .i64 s.status,.int .i64 s.beg,.int .i64 s.fin,.int .i64 s.tri,m.dv,.map (some m.r),.map (some m.wm),.bool lk,.bool tk] 140 (0,0)
structure JB (w:World) (lo hi:Nat) (m:xz) (s:St) (lk tk:Bool):Prop where
 row:w.heap[m.p]?=some (Rr s m lk tk)
 dds:XH w lo m.dv s.deeds
 dvb:∀k,m.dv.ownBlock=some k->k < hi
 rd:vH w m.r (yG s).length (yG s)
 wr:vH w m.wm (zb s).length (zb s)
 b:(lo<=m.p/\m.p < hi)/\(lo<=m.r/\m.r < hi)/\lo<=m.wm/\m.wm < hi
def Jz (A:Au) (ms:List xz) (c:Ck):Option Value:=(WV A c.1.1 c.1.2).bind fun j=>ms[j]?.map fun m=>xE m.p
structure xN (w:World) (lo hi pW bB:Nat) (lev:Int) (ov vv:Value) (ms:List xz) (lv:Value) (A:Au) (T:List Bool):Prop where
 row:w.heap[pW]?=some (.cells #[ov,vv,.int .i64 lev,lv,.map (some bB)] 137 (0,0))
 pB:(lo<=pW/\pW < hi)/\lo<=bB/\bB < hi
 lst:qj xz.cells 133 1 w lo lv ms
 lstb:∀k,lv.ownBlock=some k->k < hi
 len:ms.length=A.length
 tl:T.length=A.length
 mv:∀(k:Nat) (m:xz) (s:St),ms[k]?=some m->A[k]?=some s->JB w lo hi m s (qZ lev T k) (T.getD k false)
 inj:∀(j k:Nat) (m m':xz),ms[j]?=some m->ms[k]?=some m'->m.p=m'.p->j=k
 nb:∀m ∈ ms,m.r≠bB/\m.wm≠bB
 by_:yM YG w bB (Jz A ms)
section
variable {w w':World} {lo hi pW bB:Nat} {lev:Int} {ov vv lv:Value} {ms:List xz} {A:Au} {T:List Bool}
theorem qj.sameB {α:Type} {f:α->List Value} {e:TypeId} {sz B:Nat} {v:Value} {l:List α} (h:qj f e sz w B v l) (hk:∀k,v.ownBlock=some k->w'.heap[k]?=w.heap[k]?):qj f e sz w' B v l:=by
 obtain⟨h1,h2⟩:=h;refine⟨h1,?_⟩;rcases h2 with h2|⟨g,cap,cur,rfl,hg,hh,r⟩
 ·exact .inl h2
 ·exact .inr ⟨g,cap,cur,rfl,hg,(hk g rfl).trans hh,r⟩
theorem JB.keep {m:xz} {s:St} {lk tk:Bool} {hi':Nat} (h:JB w lo hi m s lk tk) (hh:hi<=hi') (h1:w'.heap[m.p]?=w.heap[m.p]?) (h2:∀k,m.dv.ownBlock=some k->w'.heap[k]?=w.heap[k]?) (h3:w'.heap[m.r]?=w.heap[m.r]?) (h4:w'.heap[m.wm]?=w.heap[m.wm]?):JB w' lo hi' m s lk tk:=
 ⟨h1.trans h.row,h.dds.sameB h2,fun k hk=>Nat.lt_of_lt_of_le (h.dvb k hk) hh,h.rd.obj h3,h.wr.obj h4,by have:=h.b;omega⟩
theorem xN.keep {hi':Nat} (h:xN w lo hi pW bB lev ov vv ms lv A T) (hh:hi<=hi') (hk:∀k,lo<=k->k < hi->w'.heap[k]?=w.heap[k]?):xN w' lo hi' pW bB lev ov vv ms lv A T where
 row:=(hk pW h.pB.1.1 h.pB.1.2).trans h.row
 pB:=by have:=h.pB;omega
 lst:=h.lst.sameB fun k e=>hk k (qj.lt h.lst k e).1 (h.lstb k e)
 lstb k e:=Nat.lt_of_lt_of_le (h.lstb k e) hh
 len:=h.len
 tl:=h.tl
 mv k m s hm hs:=by
  have q:=h.mv k m s hm hs;have b:=q.b;exact q.keep hh (hk _ b.1.1 b.1.2) (fun k e=>hk k (qj.lt q.dds k e).1 (q.dvb k e)) (hk _ b.2.1.1 b.2.1.2) (hk _ b.2.2.1 b.2.2.2)
 inj:=h.inj
 nb:=h.nb
 by_:=h.by_.obj (hk bB h.pB.2.1 h.pB.2.2)
theorem xN.below {K hi':Nat} (h:xN w lo hi pW bB lev ov vv ms lv A T) (hb:Below K w w') (hK:hi<=K) (hh:hi<=hi'):xN w' lo hi' pW bB lev ov vv ms lv A T:=h.keep hh fun k _ hk=>hb.block k (by omega)
theorem xN.get (h:xN w lo hi pW bB lev ov vv ms lv A T) {k:Nat} (hk:k < A.length):∃m s,ms[k]?=some m/\A[k]?=some s/\JB w lo hi m s (qZ lev T k) (T.getD k false):=by
 have hk':k < ms.length:=by have:=h.len;omega
 have h1:ms[k]?=some ms[k]:=List.getElem?_eq_getElem hk';have h2:A[k]?=some A[k]:=List.getElem?_eq_getElem hk;exact⟨_,_,h1,h2,h.mv k _ _ h1 h2⟩
theorem WJ {q1 q2:Nat} {c1 c2:Array Value} {t1 t2:TypeId} {f1 f2:Nat×Nat} (h1:w.heap[q1]?=some (.cells c1 t1 f1)) (h2:w.heap[q2]?=some (.cells c2 t2 f2)) (ht:t1≠t2):q1≠q2:=by
 rintro rfl;rw[h1] at h2;simp only[Option.some.injEq,Obj.cells.injEq] at h2;exact ht h2.2.1
theorem zh {q1 q2:Nat} {c1:Array Value} {t1:TypeId} {f1:Nat×Nat} (h1:w.heap[q1]?=some (.cells c1 t1 f1)) (h2:∃es c,w.heap[q2]?=some (.map es c)):q1≠q2:=by
 rintro rfl;obtain⟨es,c,h2⟩:=h2;rw[h1] at h2;cases h2
theorem vH.isMap {b n:Nat} {M:MI} (h:vH w b n M):∃es c,w.heap[b]?=some (.map es c):=by
 obtain⟨es,c,hb,-⟩:=h;exact⟨es,c,hb⟩
theorem NG {T:List Bool} {x:Bool} {k:Nat} (hk:k < T.length):qZ lev (T++[x]) k=qZ lev T k/\(T++[x]).getD k false=T.getD k false:=by
 have e:(T++[x]).getD k false=T.getD k false:=by rw[List.getD_eq_getElem?_getD,List.getD_eq_getElem?_getD,List.getElem?_append_left hk]
 unfold qZ;rw[e];exact⟨rfl,rfl⟩
theorem Kw {T:List Bool} {x:Bool}:qZ lev (T++[x]) T.length=(x||decide (lev=3))/\(T++[x]).getD T.length false=x:=by
 have e:(T++[x]).getD T.length false=x:=by rw[List.getD_eq_getElem?_getD];simp
 unfold qZ;rw[e];exact⟨rfl,rfl⟩
theorem xN.snoc {hi':Nat} {lv':Value} {m:xz} {s:St} {x:Bool} (h:xN w lo hi pW bB lev ov vv ms lv A T) (hh:hi<=hi')
  (hk:∀k,lo<=k->k < hi->k≠pW->k≠bB->lv.ownBlock≠some k->w'.heap[k]?=w.heap[k]?)
  (hr:w'.heap[pW]?=some (.cells #[ov,vv,.int .i64 lev,lv',.map (some bB)] 137 (0,0))) (hl:qj xz.cells 133 1 w' lo lv' (ms++[m])) (hlb:∀k,lv'.ownBlock=some k->k < hi')
  (hm:JB w' lo hi' m s (x||decide (lev=3)) x) (hf:hi<=m.p/\hi<=m.r/\hi<=m.wm) (hb:yM YG w' bB (Jz (A++[s]) (ms++[m]))):
  xN w' lo hi' pW bB lev ov vv (ms++[m]) lv' (A++[s]) (T++[x]):=by
 have hlen:=h.len;have htl:=h.tl;have hpB:=h.pB;refine⟨hr,by omega,hl,hlb,by simp[hlen],by simp[htl],fun k m' s' hm' hs'=>?_,fun j k m1 m2 h1 h2 e=>?_,fun m' hm'=>?_,hb⟩
 ·rcases Nat.lt_trichotomy k A.length with hlt|rfl|hgt
  ·rw [List.getElem?_append_left (by omega)] at hm' hs'
   have q:=h.mv k m' s' hm' hs';have b:=q.b;obtain⟨e1,e2⟩:=NG (lev:=lev) (x:=x) (show k < T.length by omega);rw[e1,e2];refine q.keep hh (hk _ b.1.1 b.1.2 (WJ q.row h.row (by decide)) (zh q.row h.by_.isMap) fun e=>?_) (fun k e=>hk k (qj.lt q.dds k e).1 (q.dvb k e) ?_ ?_ fun e2=>?_) (hk _ b.2.1.1 b.2.1.2 ?_ (h.nb m' (List.mem_of_getElem? hm')).1 ?_) (hk _ b.2.2.1 b.2.2.2 ?_ (h.nb m' (List.mem_of_getElem? hm')).2 ?_)
   ·exact qj.neT h.lst q.row (by decide) e
   ·rintro rfl
    exact qj.neT q.dds h.row (by decide) e
   ·rintro rfl
    exact qj.neM q.dds h.by_.isMap e
   ·obtain ⟨c1,hc1⟩:=q.dds.keepObj k e
    exact qj.neT h.lst hc1 (by decide) e2
   ·exact fun e=>zh h.row q.rd.isMap e.symm
   ·exact qj.neM h.lst q.rd.isMap
   ·exact fun e=>zh h.row q.wr.isMap e.symm
   ·exact qj.neM h.lst q.wr.isMap
  ·rw [List.getElem?_append_right (by omega)] at hm' hs'
   simp[hlen] at hm' hs';subst hm' hs';obtain⟨e1,e2⟩:=Kw (lev:=lev) (T:=T) (x:=x);rw[htl] at e1 e2;rw[e1,e2];exact hm
  ·rw [List.getElem?_eq_none (by simp;omega)] at hs'
   cases hs'
 ·have hlt:∀(j:Nat) (m1:xz),(ms++[m])[j]?=some m1->j < ms.length/\ms[j]?=some m1/\m1.p < hi\/j=ms.length/\m1=m:=by
   intro j m1 h1;rcases Nat.lt_or_ge j ms.length with hj|hj
   ·rw [List.getElem?_append_left hj] at h1
    obtain⟨m2,s2,g1,g2,g3⟩:=h.get (k:=j) (by omega);rw[h1] at g1;obtain rfl:=Option.some.inj g1;exact .inl ⟨hj,h1,g3.b.1.2⟩
   ·have:=(List.getElem?_eq_some_iff.1 h1).1
    simp at this;obtain rfl:j=ms.length:=by omega
    simp at h1;exact .inr ⟨rfl,h1.symm⟩
  rcases hlt j m1 h1 with⟨q1,q2,q3⟩|⟨q1,q2⟩ <;> rcases hlt k m2 h2 with⟨r1,r2,r3⟩|⟨r1,r2⟩
  ·exact h.inj j k m1 m2 q2 r2 e
  ·subst r2;omega
  ·subst q2;omega
  ·omega
 ·rcases List.mem_append.1 hm' with hm'|hm'
  ·exact h.nb m' hm'
  ·rw [List.mem_singleton.1 hm'];omega
theorem xN.flag {j:Nat} {m:xz} (h:xN w lo hi pW bB lev ov vv ms lv A T) (hj:ms[j]?=some m):
  xN ((w.setCell ⟨m.p,10,none⟩ (.bool true)).setCell ⟨m.p,9,none⟩ (.bool true)) lo hi pW bB lev ov vv ms lv A (T.set j true):=by
 have hjl:=(List.getElem?_eq_some_iff.1 hj).1;have hlen:=h.len;have htl:=h.tl;obtain⟨m0,s0,g1,g2,g3⟩:=h.get (k:=j) (by omega);rw[hj] at g1;obtain rfl:=Option.some.inj g1;have old:∀k,k≠m.p->((w.setCell ⟨m.p,10,none⟩ (.bool true)).setCell ⟨m.p,9,none⟩ (.bool true)).heap[k]?=w.heap[k]?:=fun k hk=>by
  rw[RowKit.Below.heap_setCell _ _ _ _ hk,RowKit.Below.heap_setCell _ _ _ _ hk]
 refine⟨(old pW (WJ h.row g3.row (by decide))).trans h.row,h.pB,h.lst.sameB fun k e=>old k (by rintro rfl;exact qj.neT h.lst g3.row (by decide) e),h.lstb,hlen,by rw[List.length_set];exact htl,fun k m' s' hm' hs'=>?_,h.inj,h.nb,h.by_.obj (old bB fun e=>zh g3.row h.by_.isMap e.symm)⟩;have q:=h.mv k m' s' hm' hs';by_cases e:k=j
 ·subst e
  rw[hj] at hm';obtain rfl:=Option.some.inj hm';have eT:(T.set k true).getD k false=true:=by rw[Xx (by omega)];simp
  have eL:qZ lev (T.set k true) k=true:=by unfold qZ;rw[eT];rfl
  rw[eL,eT];refine⟨?_,q.dds.sameB fun k' e=>old k' (by rintro rfl;exact qj.neT q.dds g3.row (by decide) e),q.dvb,q.rd.obj (old _ fun e=>zh g3.row q.rd.isMap e.symm),q.wr.obj (old _ fun e=>zh g3.row q.wr.isMap e.symm),q.b⟩;have:=qn (qn q.row 10 (.bool true)) 9 (.bool true);simpa using this
 ·have eT:(T.set j true).getD k false=T.getD k false:=by rw[Xx (by omega)];simp[e]
  have eL:qZ lev (T.set j true) k=qZ lev T k:=by unfold qZ;rw[eT]
  rw[eL,eT];have hne:m'.p≠m.p:=fun e2=>e (h.inj k j m' m hm' hj e2);exact q.keep (Nat.le_refl _) (old _ hne) (fun k' e=>old k' (by rintro rfl;exact qj.neT q.dds g3.row (by decide) e)) (old _ fun e=>zh g3.row q.rd.isMap e.symm) (old _ fun e=>zh g3.row q.wr.isMap e.symm)
end
theorem byF_snoc (A:Au) (s:St) (o v:Int):WV (A++[s]) o v=if Jv s=true/\fnd o (zb s)=some v then some A.length else WV A o v:=by
 unfold WV;rw[List.length_append,List.length_singleton,List.range_succ,List.foldl_append];have e:(List.range A.length).foldl (Mr (A++[s]) o v) none=(List.range A.length).foldl (Mr A o v) none:=by
  have:∀(l:List Nat) (r:Option Nat),(∀i ∈ l,i < A.length)->l.foldl (Mr (A++[s]) o v) r=l.foldl (Mr A o v) r:=fun l=>by
   induction l with
   |nil=>intro r _;rfl
   |cons i l ih=>
    intro r hl;rw[List.foldl_cons,List.foldl_cons,ih _ fun x hx=>hl x (List.mem_cons_of_mem _ hx)];congr 1;unfold Mr;rw[List.getElem?_append_left (hl i (List.mem_cons_self ..))]
  exact this _ _ fun i hi=>List.mem_range.1 hi
 rw[e];simp only[List.foldl_cons,List.foldl_nil,Mr];rw[List.getElem?_append_right (Nat.le_refl _)];simp
theorem vX (A:Au) (s:St):zJ (A++[s])=zJ A++[decide (s.status=3)]:=by unfold zJ;rw[List.map_append];rfl
theorem ZZ (A:Au) (ms:List xz) (s:St) (m:xz) (hl:ms.length=A.length) (c:Ck):Jz (A++[s]) (ms++[m]) c=if Jv s=true/\fnd c.1.1 (zb s)=some c.1.2 then some (xE m.p) else Jz A ms c:=by
 unfold Jz;rw[byF_snoc]
 split
 ·rw [Option.bind_some,←hl,List.getElem?_append_right (Nat.le_refl _)]
  simp
 ·cases h:WV A c.1.1 c.1.2 with
  |none=>rfl
  |some j=>
   rw[Option.bind_some,Option.bind_some,List.getElem?_append_left (by rw[hl];exact Vs h)]
end
