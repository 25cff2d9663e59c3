/- Parts of the proof; the first: The walk through a program, in memory: Answer to a read. Conditions: those of each theorem, as typed. -/
import Derived.Test.YtcpfbphcldocpaaGreatDoorQC02
import Derived.Laws.EntriesVeiled
import Derived.Maps.OwnSet
import Derived.Maps.RangeWalk
set_option linter.unusedVariables false
set_option linter.unusedSimpArgs false
set_option linter.unusedSectionVars false
set_option maxRecDepth 100000
set_option maxHeartbeats 4000000
namespace Go.Proofs.YtcpfbphcldocpaaGreatDoor
open Go.Maps Go.RowKit
section
attribute [local irreducible] xL
theorem Ul:(Tryz.prog.info? 62).map (fun i=>(i.zero,i.size,i.bytes))=some (some (.agg #[.int .i64 0,.int .i64 0]),2,16):=by kernel_rfl
theorem US (e:Ob):∀u ∈ e.cells,u.oneCell'=true:=by intro u hu;simp[Ob.cells] at hu;rcases hu with rfl|rfl <;> rfl
def XJ (os:List Ob) (es:List Ev) (w:World) (e:Ending) (w':World):Prop:=
 ∃ov vv,e=.returned (.agg #[ov,vv])/\qj Ob.cells 62 2 w' w.heap.size ov os/\qj Ev.cells 69 8 w' w.heap.size vv es/\Below w.heap.size w w'
end
abbrev DU:=DataW Unit
abbrev Ms:=Value->Option (DU×List MemPlace)
section
variable {ε:Type}
def za (M:List (Int×ε)):Prop:=M.Pairwise fun x y=>x.1 < y.1
def upd (a:Int) (v:ε):List (Int×ε)->List (Int×ε)
 |[]=>[(a,v)]
 |(x,u)::r=>if x=a then(a,v)::r else if a < x then(a,v)::(x,u)::r else(x,u)::upd a v r
def fnd (a:Int):List (Int×ε)->Option ε
 |[]=>none
 |(x,u)::r=>if x=a then some u else fnd a r
theorem Wr {a:Int} {v:ε} {z:Int}:∀{M:List (Int×ε)},(∃u,(z,u) ∈ upd a v M)↔z=a\/∃u,(z,u) ∈ M
 |[]=>by simp[upd]
 |(x,u)::r=>by
  have ih:=Wr (a:=a) (v:=v) (z:=z) (M:=r);unfold upd
  split
  ·rename_i h
   subst h;simp only[List.mem_cons,Prod.mk.injEq];constructor
   ·rintro ⟨y,⟨h,_⟩|h⟩
    ·exact .inl h
    ·exact .inr ⟨y,.inr h⟩
   ·rintro (h|⟨y,⟨h,_⟩|h⟩)
    ·exact ⟨v,.inl ⟨h,rfl⟩⟩
    ·exact ⟨v,.inl ⟨h,rfl⟩⟩
    ·exact ⟨y,.inr h⟩
  ·split
   ·simp only[List.mem_cons,Prod.mk.injEq]
    constructor
    ·rintro ⟨y,⟨h,_⟩|h⟩
     ·exact .inl h
     ·exact .inr ⟨y,h⟩
    ·rintro (h|⟨y,h⟩)
     ·exact ⟨v,.inl ⟨h,rfl⟩⟩
     ·exact ⟨y,.inr h⟩
   ·simp only[List.mem_cons,Prod.mk.injEq]
    constructor
    ·rintro ⟨y,⟨h,h'⟩|h⟩
     ·exact .inr ⟨y,.inl ⟨h,h'⟩⟩
     ·rcases ih.1 ⟨y,h⟩ with h|⟨y',h⟩
      ·exact .inl h
      ·exact .inr ⟨y',.inr h⟩
    ·rintro (h|⟨y,⟨h,h'⟩|h⟩)
     ·obtain ⟨y,h⟩:=ih.2 (.inl h);exact⟨y,.inr h⟩
     ·exact ⟨y,.inl ⟨h,h'⟩⟩
     ·obtain ⟨y,h⟩:=ih.2 (.inr ⟨y,h⟩);exact⟨y,.inr h⟩
theorem yX {a:Int} {v:ε} {p:Int×ε}:∀{M:List (Int×ε)},za M->(p ∈ upd a v M↔p=(a,v)\/(p ∈ M/\p.1≠a))
 |[],_=>by simp[upd]
 |(x,u)::r,h=>by
  obtain⟨h1,h2⟩:=List.pairwise_cons.1 h;have ih:=yX (a:=a) (v:=v) (p:=p) h2;unfold upd
  split
  ·rename_i hx
   subst hx;simp only[List.mem_cons];constructor
   ·rintro (h|h)
    ·exact .inl h
    ·exact .inr ⟨.inr h,by have:=h1 p h;simp only at this;omega⟩
   ·rintro (h|⟨h|h,hne⟩)
    ·exact .inl h
    ·exact absurd (by rw[h]) hne
    ·exact .inr h
  ·rename_i hx
   split
   ·rename_i hlt
    simp only[List.mem_cons];constructor
    ·rintro (h|h|h)
     ·exact .inl h
     ·exact .inr ⟨.inl h,by rw[h];exact hx⟩
     ·exact .inr ⟨.inr h,by have:=h1 p h;simp only at this;omega⟩
    ·rintro (h|⟨h,_⟩)
     ·exact .inl h
     ·exact .inr h
   ·simp only[List.mem_cons,ih]
    constructor
    ·rintro (h|h|⟨h,hne⟩)
     ·exact .inr ⟨.inl h,by rw[h];exact hx⟩
     ·exact .inl h
     ·exact .inr ⟨.inr h,hne⟩
    ·rintro (h|⟨h|h,hne⟩)
     ·exact .inr (.inl h)
     ·exact .inl h
     ·exact .inr (.inr ⟨h,hne⟩)
theorem zG {a:Int} {v:ε}:∀{M:List (Int×ε)},za M->za (upd a v M)
 |[],_=>by simp[upd,za]
 |(x,u)::r,h=>by
  obtain⟨h1,h2⟩:=List.pairwise_cons.1 h;unfold upd
  split
  ·rename_i hx
   subst hx;exact List.pairwise_cons.2 ⟨h1,h2⟩
  ·rename_i hx
   split
   ·rename_i hlt
    refine List.pairwise_cons.2 ⟨fun z hz=>?_,h⟩;rcases List.mem_cons.1 hz with rfl|hz
    ·exact hlt
    ·have:=h1 z hz;simp only at this ⊢;omega
   ·refine List.pairwise_cons.2 ⟨fun z hz=>?_,zG h2⟩
    rcases(yX h2).1 hz with rfl|⟨hz,_⟩
    ·simp only;omega
    ·exact h1 z hz
theorem fnd_some {a:Int} {u:ε}:∀{M:List (Int×ε)},za M->(fnd a M=some u↔(a,u) ∈ M)
 |[],_=>by simp[fnd]
 |(x,y)::r,h=>by
  obtain⟨h1,h2⟩:=List.pairwise_cons.1 h;unfold fnd
  split
  ·rename_i hx
   subst hx;simp only[Option.some.injEq,List.mem_cons,Prod.mk.injEq,true_and];constructor
   ·exact fun h=>.inl h.symm
   ·rintro (h|h)
    ·exact h.symm
    ·have:=h1 _ h;simp only at this;omega
  ·rename_i hx
   rw[fnd_some h2];simp only[List.mem_cons,Prod.mk.injEq];constructor
   ·exact .inr
   ·rintro (⟨h,_⟩|h)
    ·exact absurd h.symm hx
    ·exact h
theorem fnd_none {a:Int}:∀{M:List (Int×ε)},fnd a M=none↔∀u,(a,u) ∉ M
 |[]=>by simp[fnd]
 |(x,y)::r=>by
  unfold fnd
  split
  ·rename_i hx
   subst hx;simp only[reduceCtorEq,false_iff];exact fun h=>h y (by simp)
  ·rename_i hx
   rw[fnd_none];constructor
   ·intro h u hm
    rcases List.mem_cons.1 hm with e|e
    ·simp only[Prod.mk.injEq] at e;exact hx e.1.symm
    ·exact h u e
   ·exact fun h u hm=>h u (by simp[hm])
theorem ja {a:Int} {v:ε} {M:List (Int×ε)} (h:za M):fnd a (upd a v M)=some v:=(fnd_some (zG h)).2 ((yX h).2 (.inl rfl))
theorem jz {a c:Int} {v:ε} {M:List (Int×ε)} (h:za M) (hc:c≠a):fnd c (upd a v M)=fnd c M:=by
 cases e:fnd c M with
 |some u=>exact(fnd_some (zG h)).2 ((yX h).2 (.inr ⟨(fnd_some h).1 e,hc⟩))
 |none=>
  rw[fnd_none] at e ⊢;intro u hm;rcases(yX h).1 hm with e'|⟨hm,_⟩
  ·simp only[Prod.mk.injEq] at e';exact hc e'.1
  ·exact e u hm
end
structure vG (P:Program) (K:TypeId) (kv:Int->Value) (kl:Int->Lit) (dom:Int->Prop):Prop where
 keyed:Keyed P K
 of:∀x,dom x->keyOf P K (kv x)=some (kl x)
 before:∀x y,dom x->dom y->((kl x).before (kl y)=true↔x < y)
 inj:∀x y,dom x->dom y->kl x=kl y->x=y
section
variable {P:Program} {K:TypeId} {kv:Int->Value} {kl:Int->Lit} {dom:Int->Prop} {ε:Type}
theorem vG.key (T:vG P K kv kl dom) {x:Int} (hx:dom x):WideAt.IsKeyLit (kl x):=T.keyed.key (T.of x hx)
theorem vG.self (T:vG P K kv kl dom) {x:Int} (hx:dom x):(kl x).sameKey (kl x)=true:=WideAt.sameKey_self (T.key hx)
theorem vG.same (T:vG P K kv kl dom) {x y:Int} (hx:dom x) (hy:dom y):(kl x).sameKey (kl y)=(x==y):=by
 by_cases h:x=y
 ·subst h;rw[T.self hx];simp
 ·rw [sameKey_ne fun e=>h (T.inj x y hx hy e)];simp[h]
def yE (dom:Int->Prop) (M:List (Int×ε)):Prop:=∀p ∈ M,dom p.1
theorem yE.upd {a:Int} {v:ε} {M:List (Int×ε)} (h:yE dom M) (ha:dom a):yE dom (upd a v M):=fun p hp=>by
 rcases Wr.1 ⟨p.2,hp⟩ with h'|⟨u,h'⟩
 ·rw [h'];exact ha
 ·exact h (p.1,u) h'
def vg (kl:Int->Lit) (ed:ε->DU) (M:List (Int×ε)):DU:=.map (M.map fun p=>(kl p.1,ed p.2))
variable {ed:ε->DU} {M:List (Int×ε)}
theorem zO:Maps.size (vg kl ed M)=M.length:=by simp[vg,Maps.size]
theorem XU (T:vG P K kv kl dom) {a:Int} (ha:dom a):∀{M:List (Int×ε)},yE dom M->(M.map fun p=>(kl p.1,ed p.2)).find? (fun p=>p.1.sameKey (kl a))=(fnd a M).map fun u=>(kl a,ed u)
 |[],_=>rfl
 |(x,u)::r,h=>by
  have hx:dom x:=h (x,u) (by simp);have ih:=XU T ha (M:=r) fun p hp=>h p (by simp[hp]);simp only[List.map_cons,List.find?_cons,T.same hx ha,fnd];by_cases e:x=a
  ·subst e;simp
  ·have:(x==a)=false:=by simpa using e
   rw[this,if_neg e];exact ih
theorem UW (T:vG P K kv kl dom) {a:Int} (ha:dom a) (h:yE dom M) (z:DU):(vg kl ed M).atKey (kl a) z=match fnd a M with|some u=>ed u|none=>z:=by
 unfold vg DataW.atKey;simp only;rw[XU T ha h];cases fnd a M <;> rfl
theorem Wn (T:vG P K kv kl dom) {a:Int} (ha:dom a) (h:yE dom M):Maps.has (vg kl ed M) (kl a)=(fnd a M).isSome:=by
 have h1:=XU (ed:=ed) T ha h;unfold vg Maps.has;simp only;rw[show ((M.map fun p=>(kl p.1,ed p.2)).any fun p=>p.1.sameKey (kl a))=((M.map fun p=>(kl p.1,ed p.2)).find? fun p=>p.1.sameKey (kl a)).isSome from(List.isSome_find? ..).symm,h1];cases fnd a M <;> rfl
theorem mapD_put (T:vG P K kv kl dom) {a:Int} (ha:dom a) (v:ε) (h:yE dom M) (hs:za M):(vg kl ed M).put (kl a) (ed v)=vg kl ed (upd a v M):=by
 unfold vg DataW.put;simp only[DataW.map.injEq]
 induction M with
 |nil=>rfl
 |cons q r ih=>
  obtain⟨x,u⟩:=q;have hx:dom x:=h (x,u) (by simp);have hr:yE dom r:=fun p hp=>h p (by simp[hp]);obtain⟨h1,h2⟩:=List.pairwise_cons.1 hs;have keep:a<=x->(r.map fun p=>(kl p.1,ed p.2)).filter (fun p=>!p.1.sameKey (kl a))=r.map fun p=>(kl p.1,ed p.2):=fun hle=>by
   refine List.filter_eq_self.2 fun p hp=>?_;obtain⟨y,hy,rfl⟩:=List.mem_map.1 hp;have:=h1 y hy;simp only at this ⊢;rw[T.same (hr y hy) ha];have:(y.1==a)=false:=by rw[beq_eq_false_iff_ne];omega
   rw[this];rfl
  unfold upd;by_cases e:x=a
  ·subst e
   simp only[List.map_cons,List.filter_cons,T.self hx,Bool.not_true,Bool.false_eq_true,if_false,if_true];rw[keep (Int.le_refl _)];cases r with
   |nil=>rfl
   |cons y r=>
    have hy:dom y.1:=hr y (by simp);have hlt:(kl x).before (kl y.1)=true:=(T.before x y.1 hx hy).2 (h1 y (by simp));simp only[List.map_cons,DataW.insert,hlt,if_true]
  ·have e1:(kl x).sameKey (kl a)=false:=by rw[T.same hx ha];simpa using e
   simp only[List.map_cons,List.filter_cons,e1,Bool.not_false,if_true,if_neg e];by_cases hlt:a < x
   ·rw [keep (Int.le_of_lt hlt),if_pos hlt]
    simp only[DataW.insert,(T.before a x ha hx).2 hlt,if_true,List.map_cons]
   ·rw [if_neg hlt]
    have hb:¬(kl a).before (kl x)=true:=fun hb=>hlt ((T.before a x ha hx).1 hb);simp only[DataW.insert,if_neg hb,List.map_cons];rw[ih hr h2]
structure YA (R:Ms) (ev:ε->Value) (ed:ε->DU) (zv:Value) (zd:DU):Prop where
 of:∀x,∃ps,R (ev x)=some (ed x,ps)
 zero:∃ps,R zv=some (zd,ps)
 inv:∀v x ps,R v=some (ed x,ps)->v=ev x
 invz:∀v ps,R v=some (zd,ps)->v=zv
def qG (P:Program) (K:TypeId) (R:Ms) (kl:Int->Lit) (ed:ε->DU) (w:World) (b n:Nat) (M:List (Int×ε)):Prop:=w.ownsMap P K R b n (vg kl ed M)
variable {R:Ms} {ev:ε->Value} {zv:Value} {zd:DU} {w w':World} {b n:Nat}
theorem qG.lt (h:qG P K R kl ed w b n M):b < w.heap.size:=World.ownsMap.lt h
theorem qG.below {B:Nat} (h:qG P K R kl ed w b n M) (hb:Below B w w') (hlt:b < B):qG P K R kl ed w' b n M:=by
 obtain⟨es,clock,h1,h2⟩:=h;exact⟨es,clock,(hb.block b hlt).trans h1,h2⟩
theorem qG.obj (h:qG P K R kl ed w b n M) (hw:w'.heap[b]?=w.heap[b]?):qG P K R kl ed w' b n M:=by
 obtain⟨es,clock,h1,h2⟩:=h;exact⟨es,clock,hw.trans h1,h2⟩
theorem qG.alloc (h:qG P K R kl ed w b n M) (o:Obj):qG P K R kl ed (w.alloc o) b n M:=World.ownsMap.alloc h o
theorem qG.drew (h:qG P K R kl ed w b n M):qG P K R kl ed w.drew b n M:=h
theorem qG.made (w:World):qG P K R kl ed (w.alloc (.map #[] 0)) w.heap.size 0 []:=World.ownsMap_made w P K R
theorem qG.length_le (h:qG P K R kl ed w b n M):M.length<=n:=by have:=World.ownsMap.size_le h;rwa [zO] at this
theorem qG.look (T:vG P K kv kl dom) (E:YA R ev ed zv zd) (h:qG P K R kl ed w b n M) (hM:yE dom M) {t e:TypeId} (ht:P.underlying t=some (.map K e)) (hz:(zeroValue e).run P w=.ok zv w) {a:Int} (ha:dom a):
  (Instr.lookup t (.map (some b)) (kv a) false).run P w=.ok (match fnd a M with|some u=>ev u|none=>zv) w:=by
 obtain⟨zp,hzd⟩:=E.zero;obtain⟨v,ps,hrun,hv⟩:=World.ownsMap.lookup h T.keyed ht hz hzd (T.of a ha);rw[UW T ha hM] at hv;rw[hrun];cases hf:fnd a M with
 |some u=>rw[hf] at hv;rw[E.inv v u ps hv]
 |none=>rw[hf] at hv;rw[E.invz v ps hv]
theorem qG.lookOk (T:vG P K kv kl dom) (E:YA R ev ed zv zd) (h:qG P K R kl ed w b n M) (hM:yE dom M) {t e:TypeId} (ht:P.underlying t=some (.map K e)) (hz:(zeroValue e).run P w=.ok zv w) {a:Int} (ha:dom a):
  (Instr.lookup t (.map (some b)) (kv a) true).run P w=.ok (.tuple #[match fnd a M with|some u=>ev u|none=>zv,.bool (fnd a M).isSome]) w:=by
 obtain⟨zp,hzd⟩:=E.zero;obtain⟨v,ps,hrun,hv⟩:=World.ownsMap.look_ok h T.keyed ht hz hzd (T.of a ha);rw[UW T ha hM] at hv;rw[hrun,Wn T ha hM];cases hf:fnd a M with
 |some u=>rw[hf] at hv;rw[E.inv v u ps hv]
 |none=>rw[hf] at hv;rw[E.invz v ps hv]
theorem qG.len (h:qG P K R kl ed w b n M) {t e:TypeId} (ht:P.underlying t=some (.map K e)) (ty:TypeId):(Builtin.len_ #[t] ty #[.map (some b)]).run P w=.ok (.int .i64 M.length) w:=by
 have:=World.ownsMap.len h ht ty
 rwa [zO] at this
theorem qG.wp_store (T:vG P K kv kl dom) (E:YA R ev ed zv zd) (h:qG P K R kl ed w b n M) (hM:yE dom M) (hs:za M) {t e:TypeId} (ht:P.underlying t=some (.map K e)) (hn:n < maxLen) {a:Int} (ha:dom a) {v:ε}
  {o:Oper} {act:Act} {Q:Exit->Act->World->Prop} {K':Act->World->Prop} {m x y:Operand} (hop:o.op=Op.mapUpdate t m x y) (hm:act.eval m=.map (some b)) (hx:act.eval x=kv a) (hy:act.eval y=ev v)
  (hK:∀w',qG P K R kl ed w' b (n+1) (upd a v M)->w.mapTurned w' b->K' (act.put o.dst undef) w'):o.wp P act w K' Q:=by
 obtain⟨ps,hv⟩:=E.of v;obtain⟨w',hrun,h1,h2⟩:=World.ownsMap.store h T.keyed ht hn (T.of a ha) hv;rw[mapD_put T ha v hM hs] at h1;unfold Oper.wp;simp only[execOp,hop,hm,hx,hy,Sem.run_bind,hrun,Result.andThen_ok,Sem.run_pure];exact hK w' h1 h2
theorem qG.wpList_store (T:vG P K kv kl dom) (E:YA R ev ed zv zd) (h:qG P K R kl ed w b n M) (hM:yE dom M) (hs:za M) {t e:TypeId} (ht:P.underlying t=some (.map K e)) (hn:n < maxLen) {a:Int} (ha:dom a) {v:ε}
  {ops:Array Oper} {rest:List Oper} {o:Oper} {act:Act} {Q:Exit->Act->World->Prop} {m x y:Operand} (hg:o.guard=none) (hop:o.op=Op.mapUpdate t m x y) (hm:act.eval m=.map (some b)) (hx:act.eval x=kv a) (hy:act.eval y=ev v)
  (hK:∀w',qG P K R kl ed w' b (n+1) (upd a v M)->w.mapTurned w' b->wpList P ops Q rest (act.put o.dst undef) w'):wpList P ops Q (o::rest) act w:=
 wpList_plain hg fun _ hK'=>h.wp_store T E hM hs ht hn ha hop hm hx hy fun w' h1 h2=>hK' _ _ (hK w' h1 h2)
def uS (P:Program) (K:TypeId) (R:Ms) (kl:Int->Lit) (ed:ε->DU) (w:World) (b r n:Nat) (M:List (Int×ε)) (S:Int->Bool) (cnt:Nat):Prop:=
 ∃left,w.ranges P K R b r n (vg kl ed M) left cnt/\∀p ∈ M,left (kl p.1)=S p.1
theorem uS.owns {r cnt:Nat} {S:Int->Bool} (h:uS P K R kl ed w b r n M S cnt):qG P K R kl ed w b n M:=let ⟨_,h,_⟩:=h;h.owns
theorem uS.lt {r cnt:Nat} {S:Int->Bool} (h:uS P K R kl ed w b r n M S cnt):r < w.heap.size:=let ⟨_,h,_⟩:=h;h.lt
theorem uS.obj {r cnt:Nat} {S:Int->Bool} (h:uS P K R kl ed w b r n M S cnt) (h1:w'.heap[b]?=w.heap[b]?) (h2:w'.heap[r]?=w.heap[r]?):uS P K R kl ed w' b r n M S cnt:=by
 obtain⟨left,⟨es,clock,since,seen,c0,hb,F,hs,hD,hr,rest⟩,hl⟩:=h;exact⟨left,⟨es,clock,since,seen,c0,h1.trans hb,F,hs,hD,h2.trans hr,rest⟩,hl⟩
theorem uS.below {r cnt B:Nat} {S:Int->Bool} (h:uS P K R kl ed w b r n M S cnt) (hb:Below B w w') (h1:b < B) (h2:r < B):uS P K R kl ed w' b r n M S cnt:=h.obj (hb.block b h1) (hb.block r h2)
theorem uS.iter {r cnt:Nat} {S:Int->Bool} (h:uS P K R kl ed w b r n M S cnt):∃since seen c0,w.heap[r]?=some (.mapIter (some b) since seen c0):=by
 obtain⟨left,⟨es,clock,since,seen,c0,hb,F,hs,hD,hr,rest⟩,hl⟩:=h;exact⟨since,seen,c0,hr⟩
theorem uS.key {r cnt:Nat} {l:Lit} {left:Lit->Bool} (hr:w.ranges P K R b r n (vg kl ed M) left cnt) (hl:left l=true):∃p ∈ M,kl p.1=l:=by
 obtain⟨es,clock,since,seen,c0,hb,F,hs,hD,hr,h1,h2,h3,h4,h5⟩:=hr;obtain⟨x,hx,rfl⟩:=h4 l hl;have hm:WideElems.rg P K R x ∈ (es.toList.map (WideElems.rg P K R)).foldr DataW.insert []:=mem_sorted.2 (List.mem_map.2 ⟨x,hx,rfl⟩);have e:M.map (fun p=>(kl p.1,ed p.2))=(es.toList.map (WideElems.rg P K R)).foldr DataW.insert []:=by
  have:=hD;unfold vg at this;simpa using this
 rw[←e] at hm;obtain⟨p,hp,hq⟩:=List.mem_map.1 hm;exact⟨p,hp,by rw[←hq]⟩
theorem qG.wpList_range (T:vG P K kv kl dom) (h:qG P K R kl ed w b n M) (hM:yE dom M) (hs:za M) {t e:TypeId} (ht:P.underlying t=some (.map K e))
  {ops:Array Oper} {rest:List Oper} {o:Oper} {act:Act} {Q:Exit->Act->World->Prop} {m:Operand} (hg:o.guard=none) (hop:o.op=Op.range t m) (hm:act.eval m=.map (some b))
  (hK:∀w',uS P K R kl ed w' b w.heap.size n M (fun _=>true) M.length->w.grownBy w' none->w'.heap.size=w.heap.size+1->wpList P ops Q rest (act.put o.dst (.pointer (some ⟨w.heap.size,0,none⟩))) w'):wpList P ops Q (o::rest) act w:=
 wpList_range_own w hg m t hop K e T.keyed ht R b n _ hm h fun w' h1 h2 h3=>hK w' ⟨_,by rw[zO] at h1;exact h1,fun p hp=>by
  rw[Wn T (hM p hp) hM,(fnd_some hs).2 (show(p.1,p.2) ∈ M from hp)];rfl⟩ h2 h3
theorem uS.wpList_next (T:vG P K kv kl dom) (E:YA R ev ed zv zd) {r cnt:Nat} {S:Int->Bool} (h:uS P K R kl ed w b r n M S cnt) (hM:yE dom M) (hs:za M)
  {ops:Array Oper} {rest:List Oper} {o:Oper} {act:Act} {Q:Exit->Act->World->Prop} {it:Operand} (hg:o.guard=none) (hop:o.op=Op.next it false) (hit:act.eval it=.pointer (some ⟨r,0,none⟩))
  (hDone:(∀p ∈ M,S p.1=false)->wpList P ops Q rest (act.put o.dst (.tuple #[.bool false])) w)
  (hMore:∀(x:Int) (u:ε) (w':World) (cnt':Nat),(x,u) ∈ M->S x=true->uS P K R kl ed w' b r n M (fun z=>S z&&!(z==x)) cnt'->cnt' < cnt->w.grownBy w' (some r)->w'.heap.size=w.heap.size->
   (Instr.entry (.pointer (some ⟨r,0,none⟩))).run P w'=.ok (.tuple #[kv x,ev u]) w'->wpList P ops Q rest (act.put o.dst (.tuple #[.bool true,kv x,ev u])) w'):wpList P ops Q (o::rest) act w:=by
 refine wpList_plain hg fun K' hK'=>?_;obtain⟨left,hr,hl⟩:=h;unfold Oper.wp;rcases hr.next T.keyed o.type with⟨h1,h2,hrun⟩|⟨key,v,l,y,w',cnt',hkey,hlk,hv,hat,hrun,hrg,hlt,hgr,hsz,hen⟩
 ·simp only[execOp,hop,hit,Sem.run_bind,hrun,Result.andThen_ok]
  exact hK' _ _ (hDone fun p hp=>by rw[←hl p hp];exact h2 _)
 ·obtain ⟨⟨x,u⟩,hp,rfl⟩:=uS.key hr hlk
  obtain rfl:key=kv x:=T.keyed.inj hkey (T.of x (hM _ hp));have hv2:v=ev u:=by
   have:=hat zd;rw[UW T (hM _ hp) hM,(fnd_some hs).2 hp] at this;obtain⟨yd,ps⟩:=y;simp only at this;rw[←this] at hv;exact E.inv v u ps hv
  subst hv2;simp only[execOp,hop,hit,Sem.run_bind,hrun,Result.andThen_ok];refine hK' _ _ (hMore x u w' cnt' hp (by rw[←hl _ hp];exact hlk) ⟨_,hrg,fun p hp'=>?_⟩ hlt hgr hsz hen);rw[hl p hp',T.same (hM p hp') (hM _ hp)]
end
def Nb:Ms
 |.bool x=>some (.lit (.bool x),[])
 |_=>none
def Ra:Ms
 |.map (some r)=>some (.lit (.int .i64 r),[])
 |.map none=>some (.nil,[])
 |_=>none
def Mm:Ms
 |.int .i64 n=>some (.lit (.int .i64 n),[])
 |_=>none
theorem Yd:YA Nb (fun _:Unit=>.bool true) (fun _=>.lit (.bool true)) (.bool false) (.lit (.bool false)) where
 of _:=⟨[],rfl⟩
 zero:=⟨[],rfl⟩
 inv v _ ps h:=by cases v <;> simp_all [Nb]
 invz v ps h:=by cases v <;> simp_all [Nb]
theorem jb:YA Ra (fun r:Nat=>.map (some r)) (fun r=>.lit (.int .i64 r)) (.map none) .nil where
 of _:=⟨[],rfl⟩
 zero:=⟨[],rfl⟩
 inv v x ps h:=by
  unfold Ra at h
  split at h <;> simp_all
  omega
 invz v ps h:=by
  unfold Ra at h
  split at h <;> simp_all
theorem yK:YA Mm (fun n:Int=>.int .i64 n) (fun n=>.lit (.int .i64 n)) (.int .i64 0) (.lit (.int .i64 0)) where
 of _:=⟨[],rfl⟩
 zero:=⟨[],rfl⟩
 inv v x ps h:=by
  unfold Mm at h
  split at h <;> simp_all
 invz v ps h:=by
  unfold Mm at h
  split at h <;> simp_all
def dI (x:Int):Prop:=(Lit.int .i64 x).wf=true
theorem keyT_int {P:Program} {K:TypeId} (hk:P.underlying K=some (.int .i64)):vG P K (.int .i64) (.int .i64) dI where
 keyed:=int_keyed hk
 of x hx:=keyOf_int_mk hk hx
 before x y _ _:=by simp[Lit.before]
 inj x y _ _ h:=by simpa using h
section
attribute [local irreducible] xL
abbrev MI:=List (Int×Int)
abbrev vH (w:World) (b n:Nat) (M:MI):Prop:=qG Tryz.prog 3 Mm (Lit.int .i64) (fun n:Int=>.lit (.int .i64 n)) w b n M
def Kd (M:TypeId->Prop) (w w':World):Prop:=∀(k:Nat) (cs:Array Value) (t:TypeId) (fz:Nat×Nat),w.heap[k]?=some (.cells cs t fz)->¬M t->w'.heap[k]?=some (.cells cs t fz)
theorem qA {w w':World} {b i:Nat} (h:w.mapTurned w' b) (hi:i≠b):w'.heap[i]?=w.heap[i]?:=by
 obtain⟨es,c,es',c',hb,rfl⟩:=h;exact Go.ChangeMaps.heap_setBlock_other hb _ hi
theorem qP {w w':World} {b:Nat} (h:w.mapTurned w' b):w'.heap.size=w.heap.size:=by
 obtain⟨es,c,es',c',hb,rfl⟩:=h;simp[ChangeMaps.setBlock]
theorem Below.turned {w w':World} {b B:Nat} (h:w.mapTurned w' b) (hB:B<=b):Below B w w':=by
 obtain⟨es,c,es',c',hb,rfl⟩:=h;exact⟨rfl,rfl,rfl,by simp[ChangeMaps.setBlock],fun i hi=>Go.ChangeMaps.heap_setBlock_other hb _ (by omega)⟩
section
variable {w w' w1:World} {T T':TypeId->Prop}
theorem Kd.turned {b:Nat} (h:w.mapTurned w' b):Kd T w w':=fun k cs t fz hk _=>(qA h (by
 rintro rfl;obtain⟨es,c,es',c',hb,-⟩:=h;rw[hb] at hk;cases hk)).trans hk
theorem qj.kd {α:Type} {f:α->List Value} {e:TypeId} {sz B:Nat} {v:Value} {l:List α} (h:qj f e sz w B v l) (hk:Kd T w w') (he:¬T e):qj f e sz w' B v l:=by
 obtain⟨h1,h2⟩:=h;refine⟨h1,?_⟩;rcases h2 with h2|⟨g,cap,cur,rfl,hg,hh,r⟩
 ·exact .inl h2
 ·exact .inr ⟨g,cap,cur,rfl,hg,hk g cur e _ hh he,r⟩
end
theorem Us {α:Type} {f:α->List Value} {n:Nat} (hf:∀x,(f x).length=n) {u c:α} {a:Value} {j:Nat} (hj:j < n) (hu:f u=(f c).set j a):∀(l:List α) (k:Nat),l[k]?=some c->(l.flatMap f).set (k*n+j) a=(l.set k u).flatMap f
 |[],k,h=>by simp at h
 |x::l,0,h=>by
  obtain rfl:x=c:=by simpa using h
  simp only[List.flatMap_cons,List.set_cons_zero,Nat.zero_mul,Nat.zero_add,hu];rw[List.set_append_left _ _ (by rw[hf];exact hj)]
 |x::l,k+1,h=>by
  have ih:=Us hf hj hu l k (by simpa using h);simp only[List.flatMap_cons,List.set_cons_succ];have e:(k+1)*n=k*n+n:=Nat.succ_mul k n;rw[List.set_append_right _ _ (by rw[hf,e];omega),hf,show(k+1)*n+j - n=k*n+j by rw[e];omega,ih]
theorem zU {α:Type} {f:α->List Value} {e:TypeId} {w:World} {B g n m c:Nat} {l:List α} (h:qj f e n w B (.slice (some ⟨g,0,none⟩) m c) l) (hf:∀x,(f x).length=n) {u x:α} {a:Value} {j:Nat} (hj:j < n) {k:Nat} (hk:l[k]?=some x) (hu:f u=(f x).set j a):
  qj f e n (w.setCell ⟨g,k*n+j,none⟩ a) B (.slice (some ⟨g,0,none⟩) m c) (l.set k u):=by
 have hn:=h.len;subst hn;have:=zL h (k*n+j) a;rw[Us hf hj hu l k hk] at this;unfold qj;rw[List.length_set];exact this
theorem Mu (w:World):(zeroValue 3).run Tryz.prog w=.ok (.int .i64 0) w:=by kernel_rfl
abbrev zm:vG Tryz.prog 3 (.int .i64) (.int .i64) dI:=keyT_int Tryz.underlying3
theorem Xt {w:World} {f n:Nat} {F:MI} (h:vH w f n F) (hd:yE dI F) {a:Int} (ha:dI a) {r:Option Int} (hf:fnd a F=r):(Instr.lookup 138 (.map (some f)) (.int .i64 a) true).run Tryz.prog w=.ok (.tuple #[.int .i64 (r.getD 0),.bool r.isSome]) w:=by
 have:=h.lookOk zm yK hd Tryz.underlying138 (Mu w) ha;rw[this,hf];cases r <;> rfl
theorem qG.tight {P:Program} {K:TypeId} {R:Ms} {kl:Int->Lit} {ε:Type} {ed:ε->DU} {w:World} {b n:Nat} {M:List (Int×ε)} (h:qG P K R kl ed w b n M):qG P K R kl ed w b M.length M:=by
 obtain⟨es,c,hb,F,hs,hD⟩:=h;refine⟨es,c,hb,F,?_,hD⟩;have:=congrArg Maps.size hD;rw[zO] at this;simp only[Maps.size,length_sorted,List.length_map,Array.length_toList] at this;omega
abbrev RngI (w:World) (b r:Nat) (M:MI) (S:Int->Bool) (cnt:Nat):Prop:=uS Tryz.prog 3 Mm (Lit.int .i64) (fun n:Int=>.lit (.int .i64 n)) w b r M.length M S cnt
theorem zK {B r:Nat} {w w1 w2:World} (h:Below B w w1) (hg:w1.grownBy w2 (some r)) (hB:B<=w1.heap.size) (hr:B<=r):Below B w w2:=
 h.grown hg hB fun k e=>by cases e;exact hr
theorem yz {B:Nat} {w w1 w2:World} (h:Below B w w1) (hg:w1.grownBy w2 none) (hB:B<=w1.heap.size):Below B w w2:=
 h.grown hg hB fun k e=>by cases e
end
theorem yQ {α:Type} {l:List α} {i j:Nat} {x y:α} (h:(l.set i x)[j]?=some y):(i=j/\y=x)\/(i≠j/\l[j]?=some y):=by
 by_cases e:i=j
 ·subst e
  have hl:i < l.length:=by have:=(List.getElem?_eq_some_iff.1 h).1;simpa using this
  rw[List.getElem?_set_self hl] at h;exact .inl ⟨rfl,(Option.some.inj h).symm⟩
 ·rw [List.getElem?_set_ne e] at h
  exact .inr ⟨e,h⟩
structure Dd where
 obj:Int
 op:Int
 key:Int
 val:Int
 ret:Int
 got:Int
 at_:Int
 back:Int
def Dd.cells (d:Dd):List Value:=[.int .i64 d.obj,.int .i64 d.op,.int .i64 d.key,.int .i64 d.val,.int .i64 d.ret,.int .i64 d.got,.int .i64 d.at_,.int .i64 d.back]
theorem Dd.len (d:Dd):d.cells.length=8:=rfl
structure St where
 id:Int
 thread:Int
 status:Int
 beg:Int
 fin:Int
 tri:Int
 deeds:List Dd
 stand:Int
def Ub (e:Ev) (n:Nat):Dd:=⟨e.obj,e.op,e.key,e.val,0,0,n,-1⟩
def zM (e:Ev) (n:Nat):St:=⟨e.tx,e.thread,1,n,-1,-1,[],1⟩
def Uu (op ret:Int):Prop:=op=2/\ret=1\/op=1/\ret=3
instance (op ret:Int):Decidable (Uu op ret):=by unfold Uu;infer_instance
def js (n:Nat) (e:Ev) (s:St):Option St:=
 if e.kind=2 then(if s.stand=1 then some {s with stand:=2,deeds:=s.deeds++[Ub e n]} else none)
 else if e.kind=3 then(if s.stand=2 then match s.deeds.getLast? with
  |some d=>if Uu d.op e.ret then some {s with stand:=1,deeds:=s.deeds.dropLast++[{d with ret:=e.ret,got:=e.val,back:=n}]} else none
  |none=>none
  else none)
 else if e.kind=4 then(if s.stand=1 then some {s with stand:=3,tri:=n,status:=2} else none)
 else if e.kind=5 then(if s.stand=3 then some {s with stand:=5,fin:=n,status:=3} else none)
 else if e.kind=6 then(if s.stand=1\/s.stand=2\/s.stand=3\/s.stand=4 then some {s with stand:=5,fin:=n,status:=4} else none)
 else if e.kind=7 then(if s.stand=1 then some {s with stand:=4} else none)
 else none
abbrev Au:=List St
def ut (x:Int) (A:Au):Prop:=∃s ∈ A,s.id=x
def yJ (x:Int) (A:Au):Prop:=∃s ∈ A,s.thread=x/\s.stand≠5
inductive Feed (A:Au) (n:Nat) (e:Ev):Au->Prop
 |begin (hk:e.kind=1) (hi:¬ut e.tx A) (hb:¬yJ e.thread A):Feed A n e (A++[zM e n])
 |move (k:Nat) (s s':St) (hk:e.kind≠1) (hs:A[k]?=some s) (hi:s.id=e.tx) (hm:js n e s=some s'):Feed A n e (A.set k s')
inductive Fed:List Ev->Au->Prop
 |nil:Fed [] []
 |snoc {l:List Ev} {A A':Au} {e:Ev} (h:Fed l A) (hf:Feed A l.length e A'):Fed (l++[e]) A'
section
variable {A:Au}
theorem KH (h:(A.map (·.id)).Nodup) {s s':St} (hs:s ∈ A) (hs':s' ∈ A) (he:s.id=s'.id):s=s':=by
 obtain⟨j,hj⟩:=List.mem_iff_getElem?.1 hs;obtain⟨k,hk⟩:=List.mem_iff_getElem?.1 hs';have hl:j < (A.map (·.id)).length:=by have:=(List.getElem?_eq_some_iff.1 hj).1;simpa using this
 have:=(List.getElem?_inj hl h (j:=k)).1 (by simp[hj,hk,he]);subst this;rw[hj] at hk;exact Option.some.inj hk
theorem vd {A:Au} {k:Nat} {s s':St} (hs:A[k]?=some s):s' ∈ A.set k s':=List.mem_iff_getElem?.2 ⟨k,List.getElem?_set_self (List.getElem?_eq_some_iff.1 hs).1⟩
theorem Rw {A:Au} {k:Nat} {s s':St} (hs:A[k]?=some s) (he:s'.id=s.id):(A.set k s').map (·.id)=A.map (·.id):=by
 apply List.ext_getElem?;intro j;rw[List.getElem?_map,List.getElem?_map];by_cases e:k=j
 ·subst e
  rw[List.getElem?_set_self (List.getElem?_eq_some_iff.1 hs).1,hs];simp[he]
 ·rw [List.getElem?_set_ne e]
def us (d:Dd) (ret got:Int) (n:Nat):Dd:={d with ret:=ret,got:=got,back:=n}
def yW (ret got:Int) (n:Nat) (s:St):St:=match s.deeds.getLast? with
 |some d=>{s with stand:=1,deeds:=s.deeds.dropLast++[us d ret got n]}
 |none=>s
def uB (e:Ev) (n:Nat) (s:St):St:={s with stand:=2,deeds:=s.deeds++[Ub e n]}
def UH (n:Nat) (s:St):St:={s with stand:=3,tri:=n,status:=2}
def Vr (s:St):St:={s with stand:=4}
def Qr (status:Int) (n:Nat) (s:St):St:={s with stand:=5,fin:=n,status:=status}
end
def KR (σ:List Int) (d:Dd):Option (List Int):=
 if d.ret=0 then some σ
 else if d.op=2 then(if d.ret=1/\d.got=0 then some (σ.set d.obj.toNat d.val) else none)
 else(if d.ret=3/\σ[d.obj.toNat]?=some d.got then some σ else none)
def Yo:List Int->List Dd->Option (List Int)
 |σ,[]=>some σ
 |σ,d::l=>match KR σ d with
  |some τ=>Yo τ l
  |none=>none
theorem Rh {l m:List Dd}:∀{σ:List Int},Yo σ (l++m)=match Yo σ l with
  |some τ=>Yo τ m
  |none=>none:=by
 induction l with
 |nil=>intro σ;rfl
 |cons d l ih=>
  intro σ;simp only[List.cons_append,Yo];cases KR σ d with
  |none=>rfl
  |some τ=>exact ih
theorem VU {l:List Dd} {d:Dd} {σ τ:List Int} (h:Yo σ l=some τ):Yo σ (l++[d])=KR τ d:=by
 rw[Rh,h];simp only[Yo];cases KR τ d <;> rfl
theorem doD_len {σ τ:List Int} {d:Dd} (h:KR σ d=some τ):τ.length=σ.length:=by
 unfold KR at h
 split at h
 ·cases h;rfl
 ·split at h
  ·split at h
   ·cases h;simp
   ·cases h
  ·split at h
   ·cases h;rfl
   ·cases h
theorem UP:∀{l:List Dd} {σ τ:List Int},Yo σ l=some τ->τ.length=σ.length
 |[],σ,τ,h=>by cases h;rfl
 |d::l,σ,τ,h=>by
  simp only[Yo] at h;cases hd:KR σ d with
  |none=>rw[hd] at h;cases h
  |some ρ=>rw[hd] at h;rw[UP h,doD_len hd]
def yH (dl:Int->List Dd) (fin:Bool) (σ:List Int) (p:Int×Bool):Option (List Int):=
 if p.2=false/\fin=false then some σ
 else match Yo σ (dl p.1) with
  |some τ=>some (if p.2=true then τ else σ)
  |none=>none
def zT (dl:Int->List Dd) (fin:Bool):List Int->List (Int×Bool)->Option (List Int)
 |σ,[]=>some σ
 |σ,p::l=>match yH dl fin σ p with
  |some τ=>zT dl fin τ l
  |none=>none
section
variable {dl dl':Int->List Dd} {fin:Bool}
theorem Ny {l m:List (Int×Bool)}:∀{σ:List Int},zT dl fin σ (l++m)=match zT dl fin σ l with
  |some τ=>zT dl fin τ m
  |none=>none:=by
 induction l with
 |nil=>intro σ;rfl
 |cons d l ih=>
  intro σ;simp only[List.cons_append,zT];cases yH dl fin σ d with
  |none=>rfl
  |some τ=>exact ih
theorem JO {σ τ:List Int} {p:Int×Bool} (h:yH dl fin σ p=some τ):τ.length=σ.length:=by
 unfold yH at h
 split at h
 ·cases h;rfl
 ·cases hr:Yo σ (dl p.1) with
  |none=>rw[hr] at h;cases h
  |some x=>
   rw[hr] at h;simp only[Option.some.injEq] at h;rw[←h]
   split
   ·exact UP hr
   ·rfl
end
