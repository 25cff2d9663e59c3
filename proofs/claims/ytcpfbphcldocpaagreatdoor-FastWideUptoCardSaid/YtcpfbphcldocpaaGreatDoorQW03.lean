/- Parts of the proof; the first: The walk through a program begun. Conditions: those of each theorem, as typed. -/
import Derived.Test.YtcpfbphcldocpaaGreatDoorQW01
import Derived.Test.YtcpfbphcldocpaaGreatDoorQW02
import Derived.Maps.OwnSet
import Derived.Maps.RangeWalk
import Derived.Laws.EntriesVeiled
import Derived.DeepKeys4
import Derived.Test.YtcpfbphcldocpaaGreatDoorChecked
set_option linter.unusedVariables false
set_option linter.unusedSimpArgs false
set_option linter.unusedSectionVars false
set_option maxRecDepth 100000
set_option maxHeartbeats 4000000
namespace Go.Proofs.YtcpfbphcldocpaaGreatDoor
open Go.MapKept Go.Maps Go.RowKit
section
attribute [local irreducible] xE
theorem qao {α:Type} (f:α->List Value) (sz n:Nat) (x:α) (zc:Array Value) (hz:zc.size=sz) (h0:0 < sz) (hf:f x=zc.toList):(madeCells zc (n*sz)).toList=(List.replicate n x).flatMap f:=by
 have hlen:((List.replicate n x).flatMap f).length=n*sz:=by
  induction n with
  |zero=>simp
  |succ n ih=>rw[List.replicate_succ,List.flatMap_cons,List.length_append,ih,hf];simp[hz,Nat.add_mul];omega
 have hml:(madeCells zc (n*sz)).toList.length=n*sz:=by rw[Array.length_toList,size_madeCells]
 apply List.ext_getElem?;intro i;by_cases hi:i < n*sz
 ·have hd:i / sz < n:=Nat.div_lt_of_lt_mul (by rw[Nat.mul_comm];exact hi)
  have hm:i % sz < sz:=Nat.mod_lt _ h0;have he:i=i / sz*sz+i % sz:=by rw[Nat.mul_comm];exact(Nat.div_add_mod i sz).symm
  have key:∀(n k j:Nat),k < n->j < sz->((List.replicate n x).flatMap f)[k*sz+j]?=(f x)[j]?:=by
   intro n
   induction n with
   |zero=>intro k j hk;omega
   |succ n ih=>
    intro k j hk hj;rw[List.replicate_succ,List.flatMap_cons];have hfl:(f x).length=sz:=by rw[hf];simpa using hz
    cases k with
    |zero=>rw[Nat.zero_mul,Nat.zero_add,List.getElem?_append_left (by omega)]
    |succ k=>
     rw[List.getElem?_append_right (by rw[hfl,Nat.add_mul];omega),hfl,show(k+1)*sz+j - sz=k*sz+j by rw[Nat.add_mul];omega];exact ih k j (by omega) hj
  rw[he,key n _ _ hd hm,←he,hf];simp only[madeCells,Array.getElem?_toList];rw[Array.getElem?_map];simp[hi,hz,hm]
 ·rw [List.getElem?_eq_none (by omega),List.getElem?_eq_none (by omega)]
section
variable {α:Type} {f:α->List Value} {e:TypeId} {sz B:Nat} {P:Program} {o:Oper} {a:Act} {K:Act->World->Prop} {Q:Exit->Act->World->Prop}
theorem qba (s c:Operand) (t:TypeId) (ho:o.op=.makeSlice t s c) (z:Value) (bytes:Nat) (ht:P.underlying t=some (.slice e)) (hinfo:(P.info? e).map (fun i=>(i.zero,i.size,i.bytes))=some (some z,sz,bytes))
  {w:World} {n:Nat} (hs:a.eval s=.int .i64 n) (hc:a.eval c=.int .i64 n) (hn:n<=9223372036854775807) (hby:bytes*n<=140737488355328) (hB:B<=w.heap.size) (x:α) (hx:f x=z.cells.toList) (hz:z.cells.size=sz) (h0:0 < sz)
  (hK:∀w',qj f e sz w' B (.slice (some ⟨w.heap.size,0,none⟩) n n) (List.replicate n x)->Below w.heap.size w w'->w.heap.size+1<=w'.heap.size->K (a.put o.dst (.slice (some ⟨w.heap.size,0,none⟩) n n)) w'):
  o.wp P a w K Q:=by
 obtain⟨i0,hi,hz0,hz1,hz2⟩:=info_parts hinfo;obtain⟨w',hr,h1,h2⟩:=run_make_full (P:=P) w B t e i0 z sz ht hi hz0 hz1 .i64 .i64 n (by rw[hz2];omega) (by unfold maxLen;omega) hB;rw[qao f sz n x _ hz h0 hx] at h1;unfold Oper.wp execOp;simp[ho,hs,hc,hr,Result.andThen];refine hK w' (by unfold qj;rw[List.length_replicate];exact h1) ((Below.refl w.heap.size w).grown h2 (Nat.le_refl _) (fun _ h=>by cases h)) ?_;obtain⟨-,h3⟩:=h1;rcases h3 with⟨h3,-⟩|⟨g,cap,cur,hv,-,hh,-⟩
 ·cases h3
 ·simp only[Value.slice.injEq,Option.some.injEq,Addr.mk.injEq,and_true] at hv
  obtain⟨rfl,-⟩:=hv;exact qd hh
end
end
section
attribute [local irreducible] xE
theorem Vg:(Tryz.prog.info? 62).map (fun i=>(i.zero,i.size,i.bytes))=some (some (.agg #[.int .i64 0,.int .i64 0]),2,16):=by kernel_rfl
theorem VS (e:Ob):∀u ∈ e.cells,u.oneCell'=true:=by intro u hu;simp[Ob.cells] at hu;rcases hu with rfl|rfl <;> rfl
def WF (os:List Ob) (es:List Ev) (w:World) (e:Ending) (w':World):Prop:=
 ∃ov vv,e=.returned (.agg #[ov,vv])/\qj Ob.cells 62 2 w' w.heap.size ov os/\qj Ev.cells 69 8 w' w.heap.size vv es/\Below w.heap.size w w'
end
abbrev DU:=DataW Unit
abbrev RdU:=Value->Option (DU×List MemPlace)
section
variable {ε:Type}
def zm (M:List (Int×ε)):Prop:=M.Pairwise fun x y=>x.1 < y.1
def upd (a:Int) (v:ε):List (Int×ε)->List (Int×ε)
 |[]=>[(a,v)]
 |(x,u)::r=>if x=a then(a,v)::r else if a < x then(a,v)::(x,u)::r else(x,u)::upd a v r
def fnd (a:Int):List (Int×ε)->Option ε
 |[]=>none
 |(x,u)::r=>if x=a then some u else fnd a r
theorem Kq {a:Int} {v:ε} {z:Int}:∀{M:List (Int×ε)},(∃u,(z,u) ∈ upd a v M)↔z=a\/∃u,(z,u) ∈ M
 |[]=>by simp[upd]
 |(x,u)::r=>by
  have ih:=Kq (a:=a) (v:=v) (z:=z) (M:=r);unfold upd
  split
  ·rename_i h
   subst h;simp only[List.mem_cons,Prod.mk.injEq];constructor
   ·rintro ⟨y,⟨h,_⟩|h⟩
    ·exact .inl h
    ·exact .inr ⟨y,.inr h⟩
   ·rintro (h|⟨y,⟨h,_⟩|h⟩)
    ·exact ⟨v,.inl ⟨h,rfl⟩⟩
    ·exact ⟨v,.inl ⟨h,rfl⟩⟩
    ·exact ⟨y,.inr h⟩
  ·split
   ·simp only[List.mem_cons,Prod.mk.injEq]
    constructor
    ·rintro ⟨y,⟨h,_⟩|h⟩
     ·exact .inl h
     ·exact .inr ⟨y,h⟩
    ·rintro (h|⟨y,h⟩)
     ·exact ⟨v,.inl ⟨h,rfl⟩⟩
     ·exact ⟨y,.inr h⟩
   ·simp only[List.mem_cons,Prod.mk.injEq]
    constructor
    ·rintro ⟨y,⟨h,h'⟩|h⟩
     ·exact .inr ⟨y,.inl ⟨h,h'⟩⟩
     ·rcases ih.1 ⟨y,h⟩ with h|⟨y',h⟩
      ·exact .inl h
      ·exact .inr ⟨y',.inr h⟩
    ·rintro (h|⟨y,⟨h,h'⟩|h⟩)
     ·obtain ⟨y,h⟩:=ih.2 (.inl h);exact⟨y,.inr h⟩
     ·exact ⟨y,.inl ⟨h,h'⟩⟩
     ·obtain ⟨y,h⟩:=ih.2 (.inr ⟨y,h⟩);exact⟨y,.inr h⟩
theorem za {a:Int} {v:ε} {p:Int×ε}:∀{M:List (Int×ε)},zm M->(p ∈ upd a v M↔p=(a,v)\/(p ∈ M/\p.1≠a))
 |[],_=>by simp[upd]
 |(x,u)::r,h=>by
  obtain⟨h1,h2⟩:=List.pairwise_cons.1 h;have ih:=za (a:=a) (v:=v) (p:=p) h2;unfold upd
  split
  ·rename_i hx
   subst hx;simp only[List.mem_cons];constructor
   ·rintro (h|h)
    ·exact .inl h
    ·exact .inr ⟨.inr h,by have:=h1 p h;simp only at this;omega⟩
   ·rintro (h|⟨h|h,hne⟩)
    ·exact .inl h
    ·exact absurd (by rw[h]) hne
    ·exact .inr h
  ·rename_i hx
   split
   ·rename_i hlt
    simp only[List.mem_cons];constructor
    ·rintro (h|h|h)
     ·exact .inl h
     ·exact .inr ⟨.inl h,by rw[h];exact hx⟩
     ·exact .inr ⟨.inr h,by have:=h1 p h;simp only at this;omega⟩
    ·rintro (h|⟨h,_⟩)
     ·exact .inl h
     ·exact .inr h
   ·simp only[List.mem_cons,ih]
    constructor
    ·rintro (h|h|⟨h,hne⟩)
     ·exact .inr ⟨.inl h,by rw[h];exact hx⟩
     ·exact .inl h
     ·exact .inr ⟨.inr h,hne⟩
    ·rintro (h|⟨h|h,hne⟩)
     ·exact .inr (.inl h)
     ·exact .inl h
     ·exact .inr (.inr ⟨h,hne⟩)
theorem je {a:Int} {v:ε}:∀{M:List (Int×ε)},zm M->zm (upd a v M)
 |[],_=>by simp[upd,zm]
 |(x,u)::r,h=>by
  obtain⟨h1,h2⟩:=List.pairwise_cons.1 h;unfold upd
  split
  ·rename_i hx
   subst hx;exact List.pairwise_cons.2 ⟨h1,h2⟩
  ·rename_i hx
   split
   ·rename_i hlt
    refine List.pairwise_cons.2 ⟨fun z hz=>?_,h⟩;rcases List.mem_cons.1 hz with rfl|hz
    ·exact hlt
    ·have:=h1 z hz;simp only at this ⊢;omega
   ·refine List.pairwise_cons.2 ⟨fun z hz=>?_,je h2⟩
    rcases(za h2).1 hz with rfl|⟨hz,_⟩
    ·simp only;omega
    ·exact h1 z hz
theorem fnd_some {a:Int} {u:ε}:∀{M:List (Int×ε)},zm M->(fnd a M=some u↔(a,u) ∈ M)
 |[],_=>by simp[fnd]
 |(x,y)::r,h=>by
  obtain⟨h1,h2⟩:=List.pairwise_cons.1 h;unfold fnd
  split
  ·rename_i hx
   subst hx;simp only[Option.some.injEq,List.mem_cons,Prod.mk.injEq,true_and];constructor
   ·exact fun h=>.inl h.symm
   ·rintro (h|h)
    ·exact h.symm
    ·have:=h1 _ h;simp only at this;omega
  ·rename_i hx
   rw[fnd_some h2];simp only[List.mem_cons,Prod.mk.injEq];constructor
   ·exact .inr
   ·rintro (⟨h,_⟩|h)
    ·exact absurd h.symm hx
    ·exact h
theorem fnd_none {a:Int}:∀{M:List (Int×ε)},fnd a M=none↔∀u,(a,u) ∉ M
 |[]=>by simp[fnd]
 |(x,y)::r=>by
  unfold fnd
  split
  ·rename_i hx
   subst hx;simp only[reduceCtorEq,false_iff];exact fun h=>h y (by simp)
  ·rename_i hx
   rw[fnd_none];constructor
   ·intro h u hm
    rcases List.mem_cons.1 hm with e|e
    ·simp only[Prod.mk.injEq] at e;exact hx e.1.symm
    ·exact h u e
   ·exact fun h u hm=>h u (by simp[hm])
theorem un {a:Int} {v:ε} {M:List (Int×ε)} (h:zm M):fnd a (upd a v M)=some v:=(fnd_some (je h)).2 ((za h).2 (.inl rfl))
theorem uS {a c:Int} {v:ε} {M:List (Int×ε)} (h:zm M) (hc:c≠a):fnd c (upd a v M)=fnd c M:=by
 cases e:fnd c M with
 |some u=>exact(fnd_some (je h)).2 ((za h).2 (.inr ⟨(fnd_some h).1 e,hc⟩))
 |none=>
  rw[fnd_none] at e ⊢;intro u hm;rcases(za h).1 hm with e'|⟨hm,_⟩
  ·simp only[Prod.mk.injEq] at e';exact hc e'.1
  ·exact e u hm
end
structure Qi (P:Program) (K:TypeId) (kv:Int->Value) (kl:Int->Lit) (dom:Int->Prop):Prop where
 keyed:Keyed P K
 of:∀x,dom x->keyOf P K (kv x)=some (kl x)
 before:∀x y,dom x->dom y->((kl x).before (kl y)=true↔x < y)
 inj:∀x y,dom x->dom y->kl x=kl y->x=y
section
variable {P:Program} {K:TypeId} {kv:Int->Value} {kl:Int->Lit} {dom:Int->Prop} {ε:Type}
theorem Qi.key (T:Qi P K kv kl dom) {x:Int} (hx:dom x):WideAt.IsKeyLit (kl x):=T.keyed.key (T.of x hx)
theorem Qi.self (T:Qi P K kv kl dom) {x:Int} (hx:dom x):(kl x).sameKey (kl x)=true:=WideAt.sameKey_self (T.key hx)
theorem Qi.same (T:Qi P K kv kl dom) {x y:Int} (hx:dom x) (hy:dom y):(kl x).sameKey (kl y)=(x==y):=by
 by_cases h:x=y
 ·subst h;rw[T.self hx];simp
 ·rw [sameKey_ne fun e=>h (T.inj x y hx hy e)];simp[h]
def yJ (dom:Int->Prop) (M:List (Int×ε)):Prop:=∀p ∈ M,dom p.1
theorem yJ.upd {a:Int} {v:ε} {M:List (Int×ε)} (h:yJ dom M) (ha:dom a):yJ dom (upd a v M):=fun p hp=>by
 rcases Kq.1 ⟨p.2,hp⟩ with h'|⟨u,h'⟩
 ·rw [h'];exact ha
 ·exact h (p.1,u) h'
def vG (kl:Int->Lit) (ed:ε->DU) (M:List (Int×ε)):DU:=.map (M.map fun p=>(kl p.1,ed p.2))
variable {ed:ε->DU} {M:List (Int×ε)}
theorem zT:Maps.size (vG kl ed M)=M.length:=by simp[vG,Maps.size]
theorem YF (T:Qi P K kv kl dom) {a:Int} (ha:dom a):∀{M:List (Int×ε)},yJ dom M->(M.map fun p=>(kl p.1,ed p.2)).find? (fun p=>p.1.sameKey (kl a))=(fnd a M).map fun u=>(kl a,ed u)
 |[],_=>rfl
 |(x,u)::r,h=>by
  have hx:dom x:=h (x,u) (by simp);have ih:=YF T ha (M:=r) fun p hp=>h p (by simp[hp]);simp only[List.map_cons,List.find?_cons,T.same hx ha,fnd];by_cases e:x=a
  ·subst e;simp
  ·have:(x==a)=false:=by simpa using e
   rw[this,if_neg e];exact ih
theorem VW (T:Qi P K kv kl dom) {a:Int} (ha:dom a) (h:yJ dom M) (z:DU):(vG kl ed M).atKey (kl a) z=match fnd a M with|some u=>ed u|none=>z:=by
 unfold vG DataW.atKey;simp only;rw[YF T ha h];cases fnd a M <;> rfl
theorem Km (T:Qi P K kv kl dom) {a:Int} (ha:dom a) (h:yJ dom M):Maps.has (vG kl ed M) (kl a)=(fnd a M).isSome:=by
 have h1:=YF (ed:=ed) T ha h;unfold vG Maps.has;simp only;rw[show ((M.map fun p=>(kl p.1,ed p.2)).any fun p=>p.1.sameKey (kl a))=((M.map fun p=>(kl p.1,ed p.2)).find? fun p=>p.1.sameKey (kl a)).isSome from(List.isSome_find? ..).symm,h1];cases fnd a M <;> rfl
theorem qbT (T:Qi P K kv kl dom) {a:Int} (ha:dom a) (v:ε) (h:yJ dom M) (hs:zm M):(vG kl ed M).put (kl a) (ed v)=vG kl ed (upd a v M):=by
 unfold vG DataW.put;simp only[DataW.map.injEq]
 induction M with
 |nil=>rfl
 |cons q r ih=>
  obtain⟨x,u⟩:=q;have hx:dom x:=h (x,u) (by simp);have hr:yJ dom r:=fun p hp=>h p (by simp[hp]);obtain⟨h1,h2⟩:=List.pairwise_cons.1 hs;have keep:a<=x->(r.map fun p=>(kl p.1,ed p.2)).filter (fun p=>!p.1.sameKey (kl a))=r.map fun p=>(kl p.1,ed p.2):=fun hle=>by
   refine List.filter_eq_self.2 fun p hp=>?_;obtain⟨y,hy,rfl⟩:=List.mem_map.1 hp;have:=h1 y hy;simp only at this ⊢;rw[T.same (hr y hy) ha];have:(y.1==a)=false:=by rw[beq_eq_false_iff_ne];omega
   rw[this];rfl
  unfold upd;by_cases e:x=a
  ·subst e
   simp only[List.map_cons,List.filter_cons,T.self hx,Bool.not_true,Bool.false_eq_true,if_false,if_true];rw[keep (Int.le_refl _)];cases r with
   |nil=>rfl
   |cons y r=>
    have hy:dom y.1:=hr y (by simp);have hlt:(kl x).before (kl y.1)=true:=(T.before x y.1 hx hy).2 (h1 y (by simp));simp only[List.map_cons,DataW.insert,hlt,if_true]
  ·have e1:(kl x).sameKey (kl a)=false:=by rw[T.same hx ha];simpa using e
   simp only[List.map_cons,List.filter_cons,e1,Bool.not_false,if_true,if_neg e];by_cases hlt:a < x
   ·rw [keep (Int.le_of_lt hlt),if_pos hlt]
    simp only[DataW.insert,(T.before a x ha hx).2 hlt,if_true,List.map_cons]
   ·rw [if_neg hlt]
    have hb:¬(kl a).before (kl x)=true:=fun hb=>hlt ((T.before a x ha hx).1 hb);simp only[DataW.insert,if_neg hb,List.map_cons];rw[ih hr h2]
structure Zu (R:RdU) (ev:ε->Value) (ed:ε->DU) (zv:Value) (zd:DU):Prop where
 of:∀x,∃ps,R (ev x)=some (ed x,ps)
 zero:∃ps,R zv=some (zd,ps)
 inv:∀v x ps,R v=some (ed x,ps)->v=ev x
 invz:∀v ps,R v=some (zd,ps)->v=zv
def qO (P:Program) (K:TypeId) (R:RdU) (kl:Int->Lit) (ed:ε->DU) (w:World) (b n:Nat) (M:List (Int×ε)):Prop:=w.ownsMap P K R b n (vG kl ed M)
variable {R:RdU} {ev:ε->Value} {zv:Value} {zd:DU} {w w':World} {b n:Nat}
theorem qO.lt (h:qO P K R kl ed w b n M):b < w.heap.size:=World.ownsMap.lt h
theorem qO.below {B:Nat} (h:qO P K R kl ed w b n M) (hb:Below B w w') (hlt:b < B):qO P K R kl ed w' b n M:=by
 obtain⟨es,clock,h1,h2⟩:=h;exact⟨es,clock,(hb.block b hlt).trans h1,h2⟩
theorem qO.obj (h:qO P K R kl ed w b n M) (hw:w'.heap[b]?=w.heap[b]?):qO P K R kl ed w' b n M:=by
 obtain⟨es,clock,h1,h2⟩:=h;exact⟨es,clock,hw.trans h1,h2⟩
theorem qO.alloc (h:qO P K R kl ed w b n M) (o:Obj):qO P K R kl ed (w.alloc o) b n M:=World.ownsMap.alloc h o
theorem qO.drew (h:qO P K R kl ed w b n M):qO P K R kl ed w.drew b n M:=h
theorem qO.made (w:World):qO P K R kl ed (w.alloc (.map #[] 0)) w.heap.size 0 []:=World.ownsMap_made w P K R
theorem qO.length_le (h:qO P K R kl ed w b n M):M.length<=n:=by have:=World.ownsMap.size_le h;rwa [zT] at this
theorem qO.look (T:Qi P K kv kl dom) (E:Zu R ev ed zv zd) (h:qO P K R kl ed w b n M) (hM:yJ dom M) {t e:TypeId} (ht:P.underlying t=some (.map K e)) (hz:(zeroValue e).run P w=.ok zv w) {a:Int} (ha:dom a):
  (Instr.lookup t (.map (some b)) (kv a) false).run P w=.ok (match fnd a M with|some u=>ev u|none=>zv) w:=by
 obtain⟨zp,hzd⟩:=E.zero;obtain⟨v,ps,hrun,hv⟩:=World.ownsMap.lookup h T.keyed ht hz hzd (T.of a ha);rw[VW T ha hM] at hv;rw[hrun];cases hf:fnd a M with
 |some u=>rw[hf] at hv;rw[E.inv v u ps hv]
 |none=>rw[hf] at hv;rw[E.invz v ps hv]
theorem qO.lookOk (T:Qi P K kv kl dom) (E:Zu R ev ed zv zd) (h:qO P K R kl ed w b n M) (hM:yJ dom M) {t e:TypeId} (ht:P.underlying t=some (.map K e)) (hz:(zeroValue e).run P w=.ok zv w) {a:Int} (ha:dom a):
  (Instr.lookup t (.map (some b)) (kv a) true).run P w=.ok (.tuple #[match fnd a M with|some u=>ev u|none=>zv,.bool (fnd a M).isSome]) w:=by
 obtain⟨zp,hzd⟩:=E.zero;obtain⟨v,ps,hrun,hv⟩:=World.ownsMap.look_ok h T.keyed ht hz hzd (T.of a ha);rw[VW T ha hM] at hv;rw[hrun,Km T ha hM];cases hf:fnd a M with
 |some u=>rw[hf] at hv;rw[E.inv v u ps hv]
 |none=>rw[hf] at hv;rw[E.invz v ps hv]
theorem qO.len (h:qO P K R kl ed w b n M) {t e:TypeId} (ht:P.underlying t=some (.map K e)) (ty:TypeId):(Builtin.len_ #[t] ty #[.map (some b)]).run P w=.ok (.int .i64 M.length) w:=by
 have:=World.ownsMap.len h ht ty
 rwa [zT] at this
theorem qO.wp_store (T:Qi P K kv kl dom) (E:Zu R ev ed zv zd) (h:qO P K R kl ed w b n M) (hM:yJ dom M) (hs:zm M) {t e:TypeId} (ht:P.underlying t=some (.map K e)) (hn:n < maxLen) {a:Int} (ha:dom a) {v:ε}
  {o:Oper} {act:Act} {Q:Exit->Act->World->Prop} {K':Act->World->Prop} {m x y:Operand} (hop:o.op=Op.mapUpdate t m x y) (hm:act.eval m=.map (some b)) (hx:act.eval x=kv a) (hy:act.eval y=ev v)
  (hK:∀w',qO P K R kl ed w' b (n+1) (upd a v M)->w.mapTurned w' b->K' (act.put o.dst undef) w'):o.wp P act w K' Q:=by
 obtain⟨ps,hv⟩:=E.of v;obtain⟨w',hrun,h1,h2⟩:=World.ownsMap.store h T.keyed ht hn (T.of a ha) hv;rw[qbT T ha v hM hs] at h1;unfold Oper.wp;simp only[execOp,hop,hm,hx,hy,Sem.run_bind,hrun,Result.andThen_ok,Sem.run_pure];exact hK w' h1 h2
theorem qO.wpList_store (T:Qi P K kv kl dom) (E:Zu R ev ed zv zd) (h:qO P K R kl ed w b n M) (hM:yJ dom M) (hs:zm M) {t e:TypeId} (ht:P.underlying t=some (.map K e)) (hn:n < maxLen) {a:Int} (ha:dom a) {v:ε}
  {ops:Array Oper} {rest:List Oper} {o:Oper} {act:Act} {Q:Exit->Act->World->Prop} {m x y:Operand} (hg:o.guard=none) (hop:o.op=Op.mapUpdate t m x y) (hm:act.eval m=.map (some b)) (hx:act.eval x=kv a) (hy:act.eval y=ev v)
  (hK:∀w',qO P K R kl ed w' b (n+1) (upd a v M)->w.mapTurned w' b->wpList P ops Q rest (act.put o.dst undef) w'):wpList P ops Q (o::rest) act w:=
 wpList_plain hg fun _ hK'=>h.wp_store T E hM hs ht hn ha hop hm hx hy fun w' h1 h2=>hK' _ _ (hK w' h1 h2)
def vr (P:Program) (K:TypeId) (R:RdU) (kl:Int->Lit) (ed:ε->DU) (w:World) (b r n:Nat) (M:List (Int×ε)) (S:Int->Bool) (cnt:Nat):Prop:=
 ∃left,w.ranges P K R b r n (vG kl ed M) left cnt/\∀p ∈ M,left (kl p.1)=S p.1
theorem vr.owns {r cnt:Nat} {S:Int->Bool} (h:vr P K R kl ed w b r n M S cnt):qO P K R kl ed w b n M:=let ⟨_,h,_⟩:=h;h.owns
theorem vr.lt {r cnt:Nat} {S:Int->Bool} (h:vr P K R kl ed w b r n M S cnt):r < w.heap.size:=let ⟨_,h,_⟩:=h;h.lt
theorem vr.obj {r cnt:Nat} {S:Int->Bool} (h:vr P K R kl ed w b r n M S cnt) (h1:w'.heap[b]?=w.heap[b]?) (h2:w'.heap[r]?=w.heap[r]?):vr P K R kl ed w' b r n M S cnt:=by
 obtain⟨left,⟨es,clock,since,seen,c0,hb,F,hs,hD,hr,rest⟩,hl⟩:=h;exact⟨left,⟨es,clock,since,seen,c0,h1.trans hb,F,hs,hD,h2.trans hr,rest⟩,hl⟩
theorem vr.below {r cnt B:Nat} {S:Int->Bool} (h:vr P K R kl ed w b r n M S cnt) (hb:Below B w w') (h1:b < B) (h2:r < B):vr P K R kl ed w' b r n M S cnt:=h.obj (hb.block b h1) (hb.block r h2)
theorem vr.iter {r cnt:Nat} {S:Int->Bool} (h:vr P K R kl ed w b r n M S cnt):∃since seen c0,w.heap[r]?=some (.mapIter (some b) since seen c0):=by
 obtain⟨left,⟨es,clock,since,seen,c0,hb,F,hs,hD,hr,rest⟩,hl⟩:=h;exact⟨since,seen,c0,hr⟩
theorem vr.key {r cnt:Nat} {l:Lit} {left:Lit->Bool} (hr:w.ranges P K R b r n (vG kl ed M) left cnt) (hl:left l=true):∃p ∈ M,kl p.1=l:=by
 obtain⟨es,clock,since,seen,c0,hb,F,hs,hD,hr,h1,h2,h3,h4,h5⟩:=hr;obtain⟨x,hx,rfl⟩:=h4 l hl;have hm:WideElems.rg P K R x ∈ (es.toList.map (WideElems.rg P K R)).foldr DataW.insert []:=mem_sorted.2 (List.mem_map.2 ⟨x,hx,rfl⟩);have e:M.map (fun p=>(kl p.1,ed p.2))=(es.toList.map (WideElems.rg P K R)).foldr DataW.insert []:=by
  have:=hD;unfold vG at this;simpa using this
 rw[←e] at hm;obtain⟨p,hp,hq⟩:=List.mem_map.1 hm;exact⟨p,hp,by rw[←hq]⟩
theorem qO.wpList_range (T:Qi P K kv kl dom) (h:qO P K R kl ed w b n M) (hM:yJ dom M) (hs:zm M) {t e:TypeId} (ht:P.underlying t=some (.map K e))
  {ops:Array Oper} {rest:List Oper} {o:Oper} {act:Act} {Q:Exit->Act->World->Prop} {m:Operand} (hg:o.guard=none) (hop:o.op=Op.range t m) (hm:act.eval m=.map (some b))
  (hK:∀w',vr P K R kl ed w' b w.heap.size n M (fun _=>true) M.length->w.grownBy w' none->w'.heap.size=w.heap.size+1->wpList P ops Q rest (act.put o.dst (.pointer (some ⟨w.heap.size,0,none⟩))) w'):wpList P ops Q (o::rest) act w:=
 wpList_range_own w hg m t hop K e T.keyed ht R b n _ hm h fun w' h1 h2 h3=>hK w' ⟨_,by rw[zT] at h1;exact h1,fun p hp=>by
  rw[Km T (hM p hp) hM,(fnd_some hs).2 (show(p.1,p.2) ∈ M from hp)];rfl⟩ h2 h3
theorem vr.wpList_next (T:Qi P K kv kl dom) (E:Zu R ev ed zv zd) {r cnt:Nat} {S:Int->Bool} (h:vr P K R kl ed w b r n M S cnt) (hM:yJ dom M) (hs:zm M)
  {ops:Array Oper} {rest:List Oper} {o:Oper} {act:Act} {Q:Exit->Act->World->Prop} {it:Operand} (hg:o.guard=none) (hop:o.op=Op.next it false) (hit:act.eval it=.pointer (some ⟨r,0,none⟩))
  (hDone:(∀p ∈ M,S p.1=false)->wpList P ops Q rest (act.put o.dst (.tuple #[.bool false])) w)
  (hMore:∀(x:Int) (u:ε) (w':World) (cnt':Nat),(x,u) ∈ M->S x=true->vr P K R kl ed w' b r n M (fun z=>S z&&!(z==x)) cnt'->cnt' < cnt->w.grownBy w' (some r)->w'.heap.size=w.heap.size->
   (Instr.entry (.pointer (some ⟨r,0,none⟩))).run P w'=.ok (.tuple #[kv x,ev u]) w'->wpList P ops Q rest (act.put o.dst (.tuple #[.bool true,kv x,ev u])) w'):wpList P ops Q (o::rest) act w:=by
 refine wpList_plain hg fun K' hK'=>?_;obtain⟨left,hr,hl⟩:=h;unfold Oper.wp;rcases hr.next T.keyed o.type with⟨h1,h2,hrun⟩|⟨key,v,l,y,w',cnt',hkey,hlk,hv,hat,hrun,hrg,hlt,hgr,hsz,hen⟩
 ·simp only[execOp,hop,hit,Sem.run_bind,hrun,Result.andThen_ok]
  exact hK' _ _ (hDone fun p hp=>by rw[←hl p hp];exact h2 _)
 ·obtain ⟨⟨x,u⟩,hp,rfl⟩:=vr.key hr hlk
  obtain rfl:key=kv x:=T.keyed.inj hkey (T.of x (hM _ hp));have hv2:v=ev u:=by
   have:=hat zd;rw[VW T (hM _ hp) hM,(fnd_some hs).2 hp] at this;obtain⟨yd,ps⟩:=y;simp only at this;rw[←this] at hv;exact E.inv v u ps hv
  subst hv2;simp only[execOp,hop,hit,Sem.run_bind,hrun,Result.andThen_ok];refine hK' _ _ (hMore x u w' cnt' hp (by rw[←hl _ hp];exact hlk) ⟨_,hrg,fun p hp'=>?_⟩ hlt hgr hsz hen);rw[hl p hp',T.same (hM p hp') (hM _ hp)]
end
def MH:RdU
 |.bool x=>some (.lit (.bool x),[])
 |_=>none
def NI:RdU
 |.map (some r)=>some (.lit (.int .i64 r),[])
 |.map none=>some (.nil,[])
 |_=>none
def qaR:RdU
 |.int .i64 n=>some (.lit (.int .i64 n),[])
 |_=>none
theorem YO:Zu MH (fun _:Unit=>.bool true) (fun _=>.lit (.bool true)) (.bool false) (.lit (.bool false)) where
 of _:=⟨[],rfl⟩
 zero:=⟨[],rfl⟩
 inv v _ ps h:=by cases v <;> simp_all [MH]
 invz v ps h:=by cases v <;> simp_all [MH]
theorem jj:Zu NI (fun r:Nat=>.map (some r)) (fun r=>.lit (.int .i64 r)) (.map none) .nil where
 of _:=⟨[],rfl⟩
 zero:=⟨[],rfl⟩
 inv v x ps h:=by
  unfold NI at h
  split at h <;> simp_all
  omega
 invz v ps h:=by
  unfold NI at h
  split at h <;> simp_all
theorem yK:Zu qaR (fun n:Int=>.int .i64 n) (fun n=>.lit (.int .i64 n)) (.int .i64 0) (.lit (.int .i64 0)) where
 of _:=⟨[],rfl⟩
 zero:=⟨[],rfl⟩
 inv v x ps h:=by
  unfold qaR at h
  split at h <;> simp_all
 invz v ps h:=by
  unfold qaR at h
  split at h <;> simp_all
def dI (x:Int):Prop:=(Lit.int .i64 x).wf=true
theorem qcf {P:Program} {K:TypeId} (hk:P.underlying K=some (.int .i64)):Qi P K (.int .i64) (.int .i64) dI where
 keyed:=int_keyed hk
 of x hx:=keyOf_int_mk hk hx
 before x y _ _:=by simp[Lit.before]
 inj x y _ _ h:=by simpa using h
section
attribute [local irreducible] xE
abbrev MI:=List (Int×Int)
abbrev Qj (w:World) (b n:Nat) (M:MI):Prop:=qO Tryz.prog 3 qaR (Lit.int .i64) (fun n:Int=>.lit (.int .i64 n)) w b n M
def Kd (M:TypeId->Prop) (w w':World):Prop:=∀(k:Nat) (cs:Array Value) (t:TypeId) (fz:Nat×Nat),w.heap[k]?=some (.cells cs t fz)->¬M t->w'.heap[k]?=some (.cells cs t fz)
theorem qE {w w':World} {b i:Nat} (h:w.mapTurned w' b) (hi:i≠b):w'.heap[i]?=w.heap[i]?:=by
 obtain⟨es,c,es',c',hb,rfl⟩:=h;exact Go.ChangeMaps.heap_setBlock_other hb _ hi
theorem qU {w w':World} {b:Nat} (h:w.mapTurned w' b):w'.heap.size=w.heap.size:=by
 obtain⟨es,c,es',c',hb,rfl⟩:=h;simp[ChangeMaps.setBlock]
theorem Below.turned {w w':World} {b B:Nat} (h:w.mapTurned w' b) (hB:B<=b):Below B w w':=by
 obtain⟨es,c,es',c',hb,rfl⟩:=h;exact⟨rfl,rfl,rfl,by simp[ChangeMaps.setBlock],fun i hi=>Go.ChangeMaps.heap_setBlock_other hb _ (by omega)⟩
section
variable {w w' w1:World} {T T':TypeId->Prop}
theorem Kd.trans (h:Kd T w w1) (k:Kd T w1 w'):Kd T w w':=fun b cs t fz hb ht=>k b cs t fz (h b cs t fz hb ht) ht
theorem Kd.below (h:Below w.heap.size w w'):Kd T w w':=fun _ _ _ _ hb _=>qp hb h (qd hb)
theorem Kd.set {g j:Nat} {cs:Array Value} {t:TypeId} {fz:Nat×Nat} (hg:w.heap[g]?=some (.cells cs t fz)) (ht:T t) (v:Value):Kd T w (w.setCell ⟨g,j,none⟩ v):=fun b cs' t' fz' hb hT=>qJ hb (by
 rintro rfl;rw[hg] at hb;simp only[Option.some.injEq,Obj.cells.injEq] at hb;exact hT (hb.2.1▸ht))
theorem Kd.turned {b:Nat} (h:w.mapTurned w' b):Kd T w w':=fun k cs t fz hk _=>(qE h (by
 rintro rfl;obtain⟨es,c,es',c',hb,-⟩:=h;rw[hb] at hk;cases hk)).trans hk
theorem qj.kd {α:Type} {f:α->List Value} {e:TypeId} {sz B:Nat} {v:Value} {l:List α} (h:qj f e sz w B v l) (hk:Kd T w w') (he:¬T e):qj f e sz w' B v l:=by
 obtain⟨h1,h2⟩:=h;refine⟨h1,?_⟩;rcases h2 with h2|⟨g,cap,cur,rfl,hg,hh,r⟩
 ·exact .inl h2
 ·exact .inr ⟨g,cap,cur,rfl,hg,hk g cur e _ hh he,r⟩
theorem Kd.mono {T T':TypeId->Prop} (h:Kd T w w') (hT:∀t,T t->T' t):Kd T' w w':=fun k cs t fz hk ht=>h k cs t fz hk fun e=>ht (hT t e)
theorem Kd.grw {β:Type} {f1:β->List Value} {e1:TypeId} {sz1 B1:Nat} {v1 v2:Value} {l1:List β} (h1:qj f1 e1 sz1 w B1 v1 l1) (hb:Yt w w' v1 v2):Kd (fun t=>t=e1) w w':=fun k cs t fz hk ht=>qL hk hb (qj.neT h1 hk ht)
end
theorem Vn {α:Type} {f:α->List Value} (hf:∀x,(f x).length=2) {u:α} {a b:Value} (hu:f u=[a,b]):∀(l:List α) (k:Nat),((l.flatMap f).set (k*2) a).set (k*2+1) b=(l.set k u).flatMap f
 |[],k=>by simp
 |x::l,0=>by
  have h:=hf x
  match hx:f x,h with
  |[p,q],_=>simp[hx,hu]
 |x::l,k+1=>by
  have ih:=Vn hf hu l k;have h:=hf x
  match hx:f x,h with
  |[p,q],_=>
   rw[show (k+1)*2=k*2+1+1 by omega];simp[hx,ih]
theorem Vm {α:Type} {f:α->List Value} {n:Nat} (hf:∀x,(f x).length=n) {u c:α} {a:Value} {j:Nat} (hj:j < n) (hu:f u=(f c).set j a):∀(l:List α) (k:Nat),l[k]?=some c->(l.flatMap f).set (k*n+j) a=(l.set k u).flatMap f
 |[],k,h=>by simp at h
 |x::l,0,h=>by
  obtain rfl:x=c:=by simpa using h
  simp only[List.flatMap_cons,List.set_cons_zero,Nat.zero_mul,Nat.zero_add,hu];rw[List.set_append_left _ _ (by rw[hf];exact hj)]
 |x::l,k+1,h=>by
  have ih:=Vm hf hj hu l k (by simpa using h);simp only[List.flatMap_cons,List.set_cons_succ];have e:(k+1)*n=k*n+n:=Nat.succ_mul k n;rw[List.set_append_right _ _ (by rw[hf,e];omega),hf,show(k+1)*n+j - n=k*n+j by rw[e];omega,ih]
theorem jg {α:Type} {f:α->List Value} {e:TypeId} {w:World} {B g n m c:Nat} {l:List α} (h:qj f e n w B (.slice (some ⟨g,0,none⟩) m c) l) (hf:∀x,(f x).length=n) {u x:α} {a:Value} {j:Nat} (hj:j < n) {k:Nat} (hk:l[k]?=some x) (hu:f u=(f x).set j a):
  qj f e n (w.setCell ⟨g,k*n+j,none⟩ a) B (.slice (some ⟨g,0,none⟩) m c) (l.set k u):=by
 have hn:=h.len;subst hn;have:=yC h (k*n+j) a;rw[Vm hf hj hu l k hk] at this;unfold qj;rw[List.length_set];exact this
theorem qaW (w:World):(zeroValue 3).run Tryz.prog w=.ok (.int .i64 0) w:=by kernel_rfl
abbrev zy:Qi Tryz.prog 3 (.int .i64) (.int .i64) dI:=qcf Tryz.underlying3
theorem Yd {w:World} {f n:Nat} {F:MI} (h:Qj w f n F) (hd:yJ dI F) {a:Int} (ha:dI a) {r:Option Int} (hf:fnd a F=r):(Instr.lookup 138 (.map (some f)) (.int .i64 a) true).run Tryz.prog w=.ok (.tuple #[.int .i64 (r.getD 0),.bool r.isSome]) w:=by
 have:=h.lookOk zy yK hd Tryz.underlying138 (qaW w) ha;rw[this,hf];cases r <;> rfl
theorem qcW {x:Int} (h0:0<=x) (h1:x < 4):dI x:=by
 unfold dI Lit.wf;simp[IntKind.min,IntKind.max,IntKind.bits,IntKind.signed];omega
theorem qO.tight {P:Program} {K:TypeId} {R:RdU} {kl:Int->Lit} {ε:Type} {ed:ε->DU} {w:World} {b n:Nat} {M:List (Int×ε)} (h:qO P K R kl ed w b n M):qO P K R kl ed w b M.length M:=by
 obtain⟨es,c,hb,F,hs,hD⟩:=h;refine⟨es,c,hb,F,?_,hD⟩;have:=congrArg Maps.size hD;rw[zT] at this;simp only[Maps.size,length_sorted,List.length_map,Array.length_toList] at this;omega
abbrev qeW (w:World) (b r:Nat) (M:MI) (S:Int->Bool) (cnt:Nat):Prop:=vr Tryz.prog 3 qaR (Lit.int .i64) (fun n:Int=>.lit (.int .i64 n)) w b r M.length M S cnt
theorem zO {B r:Nat} {w w1 w2:World} (h:Below B w w1) (hg:w1.grownBy w2 (some r)) (hB:B<=w1.heap.size) (hr:B<=r):Below B w w2:=
 h.grown hg hB fun k e=>by cases e;exact hr
theorem yD {B:Nat} {w w1 w2:World} (h:Below B w w1) (hg:w1.grownBy w2 none) (hB:B<=w1.heap.size):Below B w w2:=
 h.grown hg hB fun k e=>by cases e
section
variable {α:Type} {f:α->List Value} {e:TypeId} {sz B:Nat} {P:Program} {o:Oper} {a:Act} {Q:Exit->Act->World->Prop}
theorem VB {ops:Array Oper} {rest:List Oper} (hgd:o.guard=none) (s c:Operand) (t:TypeId) (ho:o.op=.makeSlice t s c) (z:Value) (bytes:Nat) (ht:P.underlying t=some (.slice e)) (hinfo:(P.info? e).map (fun i=>(i.zero,i.size,i.bytes))=some (some z,sz,bytes))
  {w:World} {n:Nat} (hs:a.eval s=.int .i64 n) (hc:a.eval c=.int .i64 n) (hn:n<=9223372036854775807) (hby:bytes*n<=140737488355328) (hB:B<=w.heap.size) (x:α) (hx:f x=z.cells.toList) (hz:z.cells.size=sz) (h0:0 < sz)
  (hK:∀w',qj f e sz w' B (.slice (some ⟨w.heap.size,0,none⟩) n n) (List.replicate n x)->Below w.heap.size w w'->w.heap.size+1<=w'.heap.size->wpList P ops Q rest (a.put o.dst (.slice (some ⟨w.heap.size,0,none⟩) n n)) w'):
  wpList P ops Q (o::rest) a w:=
 wpList_plain hgd fun _ hK'=>qba s c t ho z bytes ht hinfo hs hc hn hby hB x hx hz h0 fun w' h1 h2 h3=>hK' _ _ (hK w' h1 h2 h3)
end
end
theorem zM {α:Type} {l:List α} {i j:Nat} {x y:α} (h:(l.set i x)[j]?=some y):(i=j/\y=x)\/(i≠j/\l[j]?=some y):=by
 by_cases e:i=j
 ·subst e
  have hl:i < l.length:=by have:=(List.getElem?_eq_some_iff.1 h).1;simpa using this
  rw[List.getElem?_set_self hl] at h;exact .inl ⟨rfl,(Option.some.inj h).symm⟩
 ·rw [List.getElem?_set_ne e] at h
  exact .inr ⟨e,h⟩
structure Dd where
 obj:Int
 op:Int
 key:Int
 val:Int
 ret:Int
 got:Int
 at_:Int
 back:Int
def Dd.cells (d:Dd):List Value:=[.int .i64 d.obj,.int .i64 d.op,.int .i64 d.key,.int .i64 d.val,.int .i64 d.ret,.int .i64 d.got,.int .i64 d.at_,.int .i64 d.back]
theorem Dd.len (d:Dd):d.cells.length=8:=rfl
structure St where
 id:Int
 thread:Int
 status:Int
 beg:Int
 fin:Int
 tri:Int
 deeds:List Dd
 stand:Int
def Kh (e:Ev) (n:Nat):Dd:=⟨e.obj,e.op,e.key,e.val,0,0,n,-1⟩
def Qq (e:Ev) (n:Nat):St:=⟨e.tx,e.thread,1,n,-1,-1,[],1⟩
def Vp (op ret:Int):Prop:=op=2/\ret=1\/op=1/\ret=3
instance (op ret:Int):Decidable (Vp op ret):=by unfold Vp;infer_instance
def jC (n:Nat) (e:Ev) (s:St):Option St:=
 if e.kind=2 then(if s.stand=1 then some {s with stand:=2,deeds:=s.deeds++[Kh e n]} else none)
 else if e.kind=3 then(if s.stand=2 then match s.deeds.getLast? with
  |some d=>if Vp d.op e.ret then some {s with stand:=1,deeds:=s.deeds.dropLast++[{d with ret:=e.ret,got:=e.val,back:=n}]} else none
  |none=>none
  else none)
 else if e.kind=4 then(if s.stand=1 then some {s with stand:=3,tri:=n,status:=2} else none)
 else if e.kind=5 then(if s.stand=3 then some {s with stand:=5,fin:=n,status:=3} else none)
 else if e.kind=6 then(if s.stand=1\/s.stand=2\/s.stand=3\/s.stand=4 then some {s with stand:=5,fin:=n,status:=4} else none)
 else if e.kind=7 then(if s.stand=1 then some {s with stand:=4} else none)
 else none
abbrev Au:=List St
def uw (x:Int) (A:Au):Prop:=∃s ∈ A,s.id=x
def yI (x:Int) (A:Au):Prop:=∃s ∈ A,s.thread=x/\s.stand≠5
inductive qdy (A:Au) (n:Nat) (e:Ev):Au->Prop
 |begin (hk:e.kind=1) (hi:¬uw e.tx A) (hb:¬yI e.thread A):qdy A n e (A++[Qq e n])
 |move (k:Nat) (s s':St) (hk:e.kind≠1) (hs:A[k]?=some s) (hi:s.id=e.tx) (hm:jC n e s=some s'):qdy A n e (A.set k s')
inductive Rc:List Ev->Au->Prop
 |nil:Rc [] []
 |snoc {l:List Ev} {A A':Au} {e:Ev} (h:Rc l A) (hf:qdy A l.length e A'):Rc (l++[e]) A'
structure qfa (m:Nat) (e:Ev):Prop where
 tx:1<=e.tx/\e.tx<=1000
 form:(∃i:Int,0<=i/\i<=7/\e=⟨1,e.tx,i,0,0,0,0,0⟩)\/(∃c:Nat,c < m/\c<=7/\e=⟨2,e.tx,0,c,1,0,0,0⟩)\/(∃(c:Nat) (v:Int),c < m/\c<=7/\-1000000000<=v/\v<=1000000000/\e=⟨2,e.tx,0,c,2,0,v,0⟩)\/
  e=⟨3,e.tx,0,0,0,0,0,1⟩\/(∃v:Int,-1000000000<=v/\v<=1000000000/\e=⟨3,e.tx,0,0,0,0,v,3⟩)\/(∃k:Int,(k=4\/k=5\/k=6\/k=7)/\e=⟨k,e.tx,0,0,0,0,0,0⟩)
section
variable {A:Au}
theorem vF {A:Au} {k:Nat} {s s':St} (hs:A[k]?=some s):s' ∈ A.set k s':=List.mem_iff_getElem?.2 ⟨k,List.getElem?_set_self (List.getElem?_eq_some_iff.1 hs).1⟩
theorem qee {A:Au} {k:Nat} {s s':St} (hs:A[k]?=some s) (he:s'.id=s.id):(A.set k s').map (·.id)=A.map (·.id):=by
 apply List.ext_getElem?;intro j;rw[List.getElem?_map,List.getElem?_map];by_cases e:k=j
 ·subst e
  rw[List.getElem?_set_self (List.getElem?_eq_some_iff.1 hs).1,hs];simp[he]
 ·rw [List.getElem?_set_ne e]
def Zc (d:Dd) (ret got:Int) (n:Nat):Dd:={d with ret:=ret,got:=got,back:=n}
def jw (ret got:Int) (n:Nat) (s:St):St:=match s.deeds.getLast? with
 |some d=>{s with stand:=1,deeds:=s.deeds.dropLast++[Zc d ret got n]}
 |none=>s
def QG (e:Ev) (n:Nat) (s:St):St:={s with stand:=2,deeds:=s.deeds++[Kh e n]}
def Rk (n:Nat) (s:St):St:={s with stand:=3,tri:=n,status:=2}
def NA (s:St):St:={s with stand:=4}
def Zz (status:Int) (n:Nat) (s:St):St:={s with stand:=5,fin:=n,status:=status}
end
def Mx (σ:List Int) (d:Dd):Option (List Int):=
 if d.ret=0 then some σ
 else if d.op=2 then(if d.ret=1/\d.got=0 then some (σ.set d.obj.toNat d.val) else none)
 else(if d.ret=3/\σ[d.obj.toNat]?=some d.got then some σ else none)
def Jh:List Int->List Dd->Option (List Int)
 |σ,[]=>some σ
 |σ,d::l=>match Mx σ d with
  |some τ=>Jh τ l
  |none=>none
theorem NV {l m:List Dd}:∀{σ:List Int},Jh σ (l++m)=match Jh σ l with
  |some τ=>Jh τ m
  |none=>none:=by
 induction l with
 |nil=>intro σ;rfl
 |cons d l ih=>
  intro σ;simp only[List.cons_append,Jh];cases Mx σ d with
  |none=>rfl
  |some τ=>exact ih
theorem qbw {l:List Dd} {d:Dd} {σ τ:List Int} (h:Jh σ l=some τ):Jh σ (l++[d])=Mx τ d:=by
 rw[NV,h];simp only[Jh];cases Mx τ d <;> rfl
theorem qeE {σ τ:List Int} {d:Dd} (h:Mx σ d=some τ):τ.length=σ.length:=by
 unfold Mx at h
 split at h
 ·cases h;rfl
 ·split at h
  ·split at h
   ·cases h;simp
   ·cases h
  ·split at h
   ·cases h;rfl
   ·cases h
theorem VO:∀{l:List Dd} {σ τ:List Int},Jh σ l=some τ->τ.length=σ.length
 |[],σ,τ,h=>by cases h;rfl
 |d::l,σ,τ,h=>by
  simp only[Jh] at h;cases hd:Mx σ d with
  |none=>rw[hd] at h;cases h
  |some ρ=>rw[hd] at h;rw[VO h,qeE hd]
theorem qeD {σ τ:List Int} {d:Dd} (hd:-1000000000<=d.val/\d.val<=1000000000) (hs:∀x ∈ σ,-1000000000<=x/\x<=1000000000) (h:Mx σ d=some τ):∀x ∈ τ,-1000000000<=x/\x<=1000000000:=by
 unfold Mx at h
 split at h
 ·cases h;exact hs
 ·split at h
  ·split at h
   ·cases h
    intro x hx;rcases List.mem_or_eq_of_mem_set hx with hx|rfl
    ·exact hs x hx
    ·exact hd
   ·cases h
  ·split at h
   ·cases h;exact hs
   ·cases h
theorem NU:∀{l:List Dd} {σ τ:List Int},(∀d ∈ l,-1000000000<=d.val/\d.val<=1000000000)->(∀x ∈ σ,-1000000000<=x/\x<=1000000000)->Jh σ l=some τ->∀x ∈ τ,-1000000000<=x/\x<=1000000000
 |[],σ,τ,_,hs,h=>by cases h;exact hs
 |d::l,σ,τ,hd,hs,h=>by
  simp only[Jh] at h;cases he:Mx σ d with
  |none=>rw[he] at h;cases h
  |some ρ=>
   rw[he] at h;exact NU (fun e hx=>hd e (List.mem_cons_of_mem _ hx)) (qeD (hd d (List.mem_cons_self ..)) hs he) h
theorem VV {n:Nat} {e:Ev} {s s':St} (h:jC n e s=some s'):s'.id=s.id/\s'.beg=s.beg/\s'.thread=s.thread/\(s'.fin=s.fin\/s'.fin=n):=by
 unfold jC at h
 split at h
 ·split at h
  ·cases h;exact⟨rfl,rfl,rfl,.inl rfl⟩
  ·cases h
 ·split at h
  ·split at h
   ·split at h
    ·split at h
     ·cases h;exact⟨rfl,rfl,rfl,.inl rfl⟩
     ·cases h
    ·cases h
   ·cases h
  ·split at h
   ·split at h
    ·cases h;exact⟨rfl,rfl,rfl,.inl rfl⟩
    ·cases h
   ·split at h
    ·split at h
     ·cases h;exact⟨rfl,rfl,rfl,.inr rfl⟩
     ·cases h
    ·split at h
     ·split at h
      ·cases h;exact⟨rfl,rfl,rfl,.inr rfl⟩
      ·cases h
     ·split at h
      ·split at h
       ·cases h;exact⟨rfl,rfl,rfl,.inl rfl⟩
       ·cases h
      ·cases h
theorem Wo:∀{l:List Ev} {A:Au},Rc l A->(A.map (·.id)).Nodup:=by
 intro l A h
 induction h with
 |nil=>simp
 |@snoc l A A' e h hf ih=>
  cases hf with
  |begin hk hi hb=>
   rw[List.map_append];refine List.nodup_append.2 ⟨ih,by simp,fun a ha b hb'=>?_⟩;rintro rfl;obtain⟨s,hs,he⟩:=List.mem_map.1 ha;obtain rfl:a=e.tx:=by simpa[Qq] using hb'
   exact hi ⟨s,hs,he⟩
  |move k s s' hk hs hi hm=>
   rw[qee hs (VV hm).1];exact ih
structure Gm where
 lev:Int
 txs:List St
 masks:List Nat
abbrev Nd:=Nat×List Int
structure Tn where
 id:Int
 com:Bool
 dest:Nd
def Gm.may (g:Gm) (p i:Nat):Bool:=!p.testBit i&&(g.masks.getD i 0&&&p==g.masks.getD i 0)
def Gm.turns1 (g:Gm) (n:Nd) (i:Nat) (t:St):List Tn:=
 if g.may n.1 i then
  (if (t.status=3\/t.status=2) then match Jh n.2 t.deeds with
   |some τ=>[⟨t.id,true,(n.1|||2 ^ i,τ)⟩]
   |none=>[]
  else[])++
  (if t.status≠3/\(g.lev≠3\/(Jh n.2 t.deeds).isSome=true) then[⟨t.id,false,(n.1|||2 ^ i,n.2)⟩] else[])
 else[]
def Gm.turnsK (g:Gm) (n:Nd) (k:Nat):List Tn:=(List.range k).flatMap fun i=>match g.txs[i]? with
 |some t=>g.turns1 n i t
 |none=>[]
def Gm.turns (g:Gm) (n:Nd):List Tn:=g.turnsK n g.txs.length
def Gm.all (g:Gm):Nat:=2 ^ g.txs.length - 1
inductive Gm.Ends (g:Gm):Nd->Prop
 |all {n:Nd} (h:n.1=g.all):Gm.Ends g n
 |step {n:Nd} {t:Tn} (ht:t ∈ g.turns n) (h:Gm.Ends g t.dest):Gm.Ends g n
def Gm.rank (g:Gm) (n:Nd):Nat:=(List.range g.txs.length).countP fun i=>n.1.testBit i
structure QI (g:Gm) (m:Nat) (n:Nd):Prop where
 bits:n.1 < 2 ^ g.txs.length
 len:n.2.length=m
 val:∀x ∈ n.2,-1000000000<=x/\x<=1000000000
section
variable {g:Gm} {n n':Nd} {t:Tn}
theorem WK {k:Nat} {s:St} (h:g.txs[k]?=some s):g.turnsK n (k+1)=g.turnsK n k++g.turns1 n k s:=by
 unfold Gm.turnsK;rw[List.range_succ,List.flatMap_append];simp[h]
theorem UM:t ∈ g.turns n↔∃(i:Nat) (s:St),g.txs[i]?=some s/\t ∈ g.turns1 n i s:=by
 unfold Gm.turns Gm.turnsK;simp only[List.mem_flatMap,List.mem_range];constructor
 ·rintro ⟨i,hi,h⟩
  rw[List.getElem?_eq_getElem hi] at h;exact⟨i,_,List.getElem?_eq_getElem hi,h⟩
 ·rintro ⟨i,s,hs,h⟩
  refine⟨i,(List.getElem?_eq_some_iff.1 hs).1,?_⟩;rw[hs];exact h
theorem ZV {i:Nat} {s:St} (h:t ∈ g.turns1 n i s):g.may n.1 i=true/\t.dest.1=n.1|||2 ^ i/\(t.dest.2=n.2\/Jh n.2 s.deeds=some t.dest.2):=by
 unfold Gm.turns1 at h
 split at h
 ·rename_i hm
  refine⟨hm,?_⟩;rcases List.mem_append.1 h with h|h
  ·split at h
   ·split at h
    ·rename_i τ hr
     simp only[List.mem_singleton] at h;subst h;exact⟨rfl,.inr hr⟩
    ·cases h
   ·cases h
  ·split at h
   ·simp only[List.mem_singleton] at h
    subst h;exact⟨rfl,.inl rfl⟩
   ·cases h
 ·cases h
theorem JX {p q i:Nat} (hp:p.testBit i=false) (hq:∀j,q.testBit j=(p.testBit j||decide (i=j))):∀N,(List.range N).countP (fun j=>q.testBit j)=(List.range N).countP (fun j=>p.testBit j)+if i < N then 1 else 0
 |0=>by simp
 |N+1=>by
  rw[List.range_succ,List.countP_append,List.countP_append,JX hp hq N];simp only[List.countP_singleton,hq];by_cases h1:i < N
  ·have h2:i≠N:=by omega
   simp[h1,h2,show i < N+1 by omega];omega
  ·by_cases h2:i=N
   ·subst h2;simp[hp]
   ·simp [h1,h2,show ¬i < N+1 by omega]
theorem QW (h:t ∈ g.turns n):g.rank t.dest=g.rank n+1:=by
 obtain⟨i,s,hs,h⟩:=UM.1 h;obtain⟨h1,h2,-⟩:=ZV h;have hi:=(List.getElem?_eq_some_iff.1 hs).1;unfold Gm.may at h1;simp only[Bool.and_eq_true,Bool.not_eq_true'] at h1;unfold Gm.rank;rw[JX (i:=i) h1.1 (q:=t.dest.1) (fun j=>by rw[h2,Nat.testBit_or,Nat.testBit_two_pow]) _,if_pos hi]
theorem ZI {m:Nat} (hn:QI g m n) (hd:∀s ∈ g.txs,∀d ∈ s.deeds,-1000000000<=d.val/\d.val<=1000000000) (h:t ∈ g.turns n):QI g m t.dest:=by
 obtain⟨i,s,hs,h⟩:=UM.1 h;obtain⟨h1,h2,h3⟩:=ZV h;have hi:=(List.getElem?_eq_some_iff.1 hs).1;refine⟨?_,?_,?_⟩
 ·rw [h2]
  exact Nat.or_lt_two_pow hn.bits (Nat.pow_lt_pow_right (by omega) hi)
 ·rcases h3 with h3|h3
  ·rw [h3];exact hn.len
  ·rw [VO h3];exact hn.len
 ·rcases h3 with h3|h3
  ·rw [h3];exact hn.val
  ·exact NU (fun d hd'=>hd s (List.mem_of_getElem? hs) d hd') hn.val h3
structure MM (g:Gm) (m:Nat) (n0:Nd) (ord:List Nd) (q:Nat):Prop where
 hd:ord[0]?=some n0
 qle:q<=ord.length
 nd:ord.Nodup
 ok:∀n ∈ ord,QI g m n
 srt:ord.Pairwise fun a b=>g.rank a<=g.rank b
 cl:∀(j:Nat) (n:Nd),j < q->ord[j]?=some n->∀t ∈ g.turns n,t.dest ∈ ord
 near:∀c,ord[q]?=some c->∀n ∈ ord,g.rank n<=g.rank c+1
structure Bmd (g:Gm) (m:Nat) (n0:Nd) (ord:List Nd) (q k:Nat) (c:Nd):Prop where
 hd:ord[0]?=some n0
 cur:ord[q]?=some c
 nd:ord.Nodup
 ok:∀n ∈ ord,QI g m n
 srt:ord.Pairwise fun a b=>g.rank a<=g.rank b
 cl:∀(j:Nat) (n:Nd),j < q->ord[j]?=some n->∀t ∈ g.turns n,t.dest ∈ ord
 near:∀n ∈ ord,g.rank n<=g.rank c+1
 here:∀(j:Nat) (t:Tn),j < k->(g.turns c)[j]?=some t->t.dest ∈ ord
variable {m q k:Nat} {n0 c:Nd} {ord:List Nd}
theorem MM.start (h:QI g m n0):MM g m n0 [n0] 0:=by
 refine⟨rfl,by simp,by simp,by simpa using h,by simp,fun j n hj=>by omega,fun c hc n hn=>?_⟩;simp only[List.getElem?_cons_zero,Option.some.injEq] at hc;simp only[List.mem_singleton] at hn;subst hc hn;omega
theorem MM.take (h:MM g m n0 ord q) (hc:ord[q]?=some c):Bmd g m n0 ord q 0 c:=⟨h.hd,hc,h.nd,h.ok,h.srt,h.cl,h.near c hc,fun j t hj=>by omega⟩
theorem Bmd.old (h:Bmd g m n0 ord q k c) {t:Tn} (ht:(g.turns c)[k]?=some t) (ho:t.dest ∈ ord):Bmd g m n0 ord q (k+1) c:=by
 refine⟨h.hd,h.cur,h.nd,h.ok,h.srt,h.cl,h.near,fun j u hj hu=>?_⟩;by_cases e:j=k
 ·subst e
  rw[ht] at hu;obtain rfl:=Option.some.inj hu;exact ho
 ·exact h.here j u (by omega) hu
theorem Bmd.put (h:Bmd g m n0 ord q k c) (hd:∀s ∈ g.txs,∀d ∈ s.deeds,-1000000000<=d.val/\d.val<=1000000000) {t:Tn} (ht:(g.turns c)[k]?=some t) (ho:t.dest ∉ ord):Bmd g m n0 (ord++[t.dest]) q (k+1) c:=by
 have hr:=QW (List.mem_of_getElem? ht);have hok:=ZI (h.ok c (List.mem_of_getElem? h.cur)) hd (List.mem_of_getElem? ht);have hql:=(List.getElem?_eq_some_iff.1 h.cur).1;refine⟨?_,?_,?_,fun n hn=>?_,?_,fun j n hj hn u hu=>?_,fun n hn=>?_,fun j u hj hu=>?_⟩
 ·rw [List.getElem?_append_left (by omega)];exact h.hd
 ·rw [List.getElem?_append_left hql];exact h.cur
 ·refine List.nodup_append.2 ⟨h.nd,by simp,fun a ha b hb=>?_⟩
  simp only[List.mem_singleton] at hb;rintro rfl;subst hb;exact ho ha
 ·rcases List.mem_append.1 hn with hn|hn
  ·exact h.ok n hn
  ·simp only[List.mem_singleton] at hn;subst hn;exact hok
 ·refine List.pairwise_append.2 ⟨h.srt,by simp,fun a ha b hb=>?_⟩
  simp only[List.mem_singleton] at hb;subst hb;have:=h.near a ha;omega
 ·rw [List.getElem?_append_left (by omega)] at hn
  exact List.mem_append_left _ (h.cl j n hj hn u hu)
 ·rcases List.mem_append.1 hn with hn|hn
  ·exact h.near n hn
  ·simp only[List.mem_singleton] at hn;subst hn;omega
 ·by_cases e:j=k
  ·subst e
   rw[ht] at hu;obtain rfl:=Option.some.inj hu;simp
  ·exact List.mem_append_left _ (h.here j u (by omega) hu)
theorem Bmd.done (h:Bmd g m n0 ord q k c) (hk:(g.turns c).length<=k):MM g m n0 ord (q+1):=by
 have hql:=(List.getElem?_eq_some_iff.1 h.cur).1;refine⟨h.hd,by omega,h.nd,h.ok,h.srt,fun j n hj hn t ht=>?_,fun d hd n hn=>?_⟩
 ·by_cases e:j=q
  ·subst e
   rw[h.cur] at hn;obtain rfl:=Option.some.inj hn;obtain⟨i,hi⟩:=List.mem_iff_getElem?.1 ht;exact h.here i t (by have:=(List.getElem?_eq_some_iff.1 hi).1;omega) hi
  ·exact h.cl j n (by omega) hn t ht
 ·have h1:=h.near n hn
  have h2:g.rank c<=g.rank d:=by
   have hl2:=(List.getElem?_eq_some_iff.1 hd).1;have e1:c=ord[q]:=(Option.some.inj ((List.getElem?_eq_getElem hql).symm.trans h.cur)).symm;have e2:d=ord[q+1]:=(Option.some.inj ((List.getElem?_eq_getElem hl2).symm.trans hd)).symm;rw[e1,e2];exact List.pairwise_iff_getElem.1 h.srt q (q+1) hql hl2 (by omega)
  omega
theorem MM.later (h:MM g m n0 ord ord.length) {i:Nat} (hi:ord[i]?=some n) (ht:t ∈ g.turns n):∃j,i < j/\ord[j]?=some t.dest:=by
 have hil:=(List.getElem?_eq_some_iff.1 hi).1;obtain⟨j,hj⟩:=List.mem_iff_getElem?.1 (h.cl i n hil hi t ht);refine⟨j,?_,hj⟩;have hjl:=(List.getElem?_eq_some_iff.1 hj).1;rcases Nat.lt_trichotomy i j with h1|h1|h1
 ·exact h1
 ·exfalso
  subst h1;rw[hi] at hj;have:=QW ht;rw[←Option.some.inj hj] at this;omega
 ·exfalso
  have e1:n=ord[i]:=(Option.some.inj ((List.getElem?_eq_getElem hil).symm.trans hi)).symm;have e2:t.dest=ord[j]:=(Option.some.inj ((List.getElem?_eq_getElem hjl).symm.trans hj)).symm;have:=List.pairwise_iff_getElem.1 h.srt j i hjl hil h1;rw[←e1,←e2,QW ht] at this;omega
theorem MM.size (h:MM g m n0 ord q) {i:Nat} (hi:ord[i]?=some n):QI g m n:=h.ok n (List.mem_of_getElem? hi)
theorem KM:g.Ends n↔n.1=g.all\/∃t ∈ g.turns n,g.Ends t.dest:=by
 constructor
 ·intro h
  cases h with
  |all h=>exact .inl h
  |step ht h=>exact .inr ⟨_,ht,h⟩
 ·rintro (h|⟨t,ht,h⟩)
  ·exact .all h
  ·exact .step ht h
theorem qdQ:g.rank n<=g.txs.length:=by
 unfold Gm.rank;have:=List.countP_le_length (p:=fun i=>n.1.testBit i) (l:=List.range g.txs.length);simpa using this
end
def jh (f:Nat->Bool):Nat->Nat
 |0=>0
 |n+1=>jh f n|||(if f n then 2 ^ n else 0)
theorem Js (f:Nat->Bool):∀n,jh f n < 2 ^ n
 |0=>by simp[jh]
 |n+1=>by
  have:=Js f n;simp only[jh];refine Nat.or_lt_two_pow (by rw[Nat.pow_succ];omega) ?_
  split
  ·rw [Nat.pow_succ];have:=Nat.two_pow_pos n;omega
  ·exact Nat.two_pow_pos _
def YS (lev:Int) (s:St):Bool:=if lev=1\/lev=2 then decide (s.status=3\/s.status=2) else decide (lev=3)
def rly (a b:St):Bool:=decide (0<=a.fin)&&decide (a.fin < b.beg)
def qgO (lev:Int) (l:List St) (b:St) (i:Nat):Bool:=match l[i]? with
 |some a=>decide (lev≠1)&&rly a b
 |none=>false
def Kj (lev:Int) (l:List St) (b:St):Nat:=jh (qgO lev l b) l.length
def Wj (lev:Int) (A:Au):Gm:=⟨lev,A.filter (YS lev),(A.filter (YS lev)).map (Kj lev (A.filter (YS lev)))⟩
def yO (d:Dd):Bool:=decide (d.op=1/\d.ret=3)
def xQ:List Int->List Dd->List Dd
 |_,[]=>[]
 |met,d::l=>(if yO d&&!met.contains d.obj then[d] else[])++xQ (if yO d||decide (d.op=2) then d.obj::met else met) l
def xO (l:List Dd):List Dd:=l.foldl (fun out d=>if d.op=2/\d.ret=1 then out.filter (fun o=>o.obj !=d.obj)++[d] else out) []
abbrev Mi:=List (Int×Int)
def zg (s:St):Mi:=(xQ [] s.deeds).foldl (fun m d=>upd d.obj d.got m) []
def ja (s:St):Mi:=(xO s.deeds).foldl (fun m d=>upd d.obj d.val m) []
def Jr (s:St):Bool:=decide (s.status=3\/s.status=2)
def by1 (A:Au) (o v:Int) (r:Option Nat) (i:Nat):Option Nat:=match A[i]? with
 |some s=>if Jr s&&(fnd o (ja s)==some v) then some i else r
 |none=>r
def Re (A:Au) (o v:Int):Option Nat:=(List.range A.length).foldl (by1 A o v) none
def Zi (A:Au) (i:Nat) (T:List Bool) (p:Int×Int):List Bool:=match Re A p.1 p.2 with
 |some j=>if j=i then T else T.set j true
 |none=>T
def Yc (A:Au) (i:Nat) (m:Mi) (T:List Bool):List Bool:=m.foldl (Zi A i) T
def Zf (lev:Int) (A:Au) (T:List Bool) (i:Nat):List Bool:=match A[i]? with
 |some s=>if T.getD i false||decide (lev=3) then Yc A i (zg s) T else T
 |none=>T
def XX (lev:Int) (A:Au) (T:List Bool):List Bool:=(List.range A.length).foldl (Zf lev A) T
def yY (A:Au):List Bool:=A.map fun s=>decide (s.status=3)
def Yo (lev:Int) (A:Au):Nat->List Bool->List Bool
 |0,T=>T
 |n+1,T=>Yo lev A n (XX lev A T)
def xd (lev:Int) (A:Au):List Bool:=Yo lev A (A.length+1) (yY A)
def xH (lev:Int) (T:List Bool) (i:Nat):Bool:=T.getD i false||decide (lev=3)
def yx (inits:List Int) (A:Au) (T:List Bool) (i:Nat) (rd:Mi):Nat->Mi->List Dd->Option Nat
 |_,_,[]=>none
 |k,own,d::l=>
  if d.op=2 then yx inits A T i rd (k+1) (upd d.obj d.val own) l
  else if d.ret=0 then yx inits A T i rd (k+1) own l
  else match fnd d.obj own with
   |some v=>if d.got=v then yx inits A T i rd (k+1) own l else some k
   |none=>if d.got=(fnd d.obj rd).getD 0/\(d.got=inits.getD d.obj.toNat 0\/(match Re A d.obj d.got with
     |some j=>decide (j≠i)&&T.getD j false
     |none=>false)=true) then yx inits A T i rd (k+1) own l else some k
def jS (lev:Int) (a b:St):Bool:=decide (lev≠1)&&rly a b
def uK (l m:Mi) (f:Int->Bool):Bool:=l.any fun p=>(fnd p.1 m==some p.2)&&f p.1
def Je (ta:Bool) (a b:St):Bool:=ta&&uK (ja a) (zg b) fun _=>true
def Yy (ta tb:Bool) (a b:St):Bool:=ta&&tb&&uK (ja a) (zg b) fun o=>(fnd o (ja b)).isSome
def vg (tb:Bool) (a b:St):Bool:=tb&&uK (zg a) (zg b) fun o=>(fnd o (ja b)).isSome
section
variable {lev:Int} {A:Au}
def YT (T:List Bool):Nat:=T.count true
theorem qda {T:List Bool} {j:Nat} (hj:j < T.length) (h:T.getD j false=false):YT (T.set j true)=YT T+1:=by
 unfold YT;rw[List.count_set hj];have e:T[j]=false:=by rw[List.getD_eq_getElem?_getD,List.getElem?_eq_getElem hj] at h;simpa using h
 simp[e]
theorem Wv (T:List Bool):YT T<=T.length:=List.count_le_length
theorem Yk {T:List Bool} {j k:Nat} (hj:j < T.length):(T.set j true).getD k false=(T.getD k false||decide (k=j)):=by
 rw[List.getD_eq_getElem?_getD,List.getD_eq_getElem?_getD,List.getElem?_set];by_cases h:j=k
 ·subst h;simp[hj]
 ·simp [h,show ¬k=j from fun e=>h e.symm]
theorem qdk {o v:Int} {n:Nat}:∀{l:List Nat} {r:Option Nat} {j:Nat},(∀i ∈ l,i < n)->(∀j,r=some j->j < n)->l.foldl (by1 A o v) r=some j->j < n
 |[],r,j,_,hr,h=>hr j h
 |i::l,r,j,hl,hr,h=>by
  refine qdk (l:=l) (fun x hx=>hl x (List.mem_cons_of_mem _ hx)) (fun k hk=>?_) h;unfold by1 at hk
  split at hk
  ·split at hk
   ·exact Option.some.inj hk▸hl i (List.mem_cons_self ..)
   ·exact hr k hk
  ·exact hr k hk
theorem Ww {o v:Int} {j:Nat} (h:Re A o v=some j):j < A.length:=qdk (r:=none) (fun i hi=>List.mem_range.1 hi) (fun j h=>by cases h) h
def Qe (A:Au) (i j:Nat) (p:Int×Int):Prop:=Re A p.1 p.2=some j/\j≠i
theorem Vc {i:Nat} {T:List Bool} {p:Int×Int}:(Zi A i T p).length=T.length:=by
 unfold Zi
 split
 ·split <;> simp
 ·rfl
theorem Va {i:Nat}:∀{m:Mi} {T:List Bool},(Yc A i m T).length=T.length
 |[],T=>rfl
 |p::m,T=>by
  unfold Yc;rw[List.foldl_cons];exact(Va (m:=m)).trans Vc
theorem qan {i j:Nat} {T:List Bool} {p:Int×Int} (hT:T.length=A.length):(Zi A i T p).getD j false=true↔T.getD j false=true\/Qe A i j p:=by
 unfold Zi Qe;cases h:Re A p.1 p.2 with
 |none=>simp
 |some k=>
  have hk:=Ww h;simp only
  split
  ·rename_i e
   subst e;constructor
   ·exact .inl
   ·rintro (h|⟨h1,h2⟩)
    ·exact h
    ·exact absurd (Option.some.inj h1).symm h2
  ·rename_i e
   rw[Yk (by omega)];simp only[Bool.or_eq_true,decide_eq_true_eq,Option.some.injEq];constructor
   ·rintro (h|rfl)
    ·exact .inl h
    ·exact .inr ⟨rfl,e⟩
   ·rintro (h|⟨rfl,-⟩)
    ·exact .inl h
    ·exact .inr rfl
theorem Vb {i j:Nat}:∀{m:Mi} {T:List Bool},T.length=A.length->((Yc A i m T).getD j false=true↔T.getD j false=true\/∃p ∈ m,Qe A i j p)
 |[],T,_=>by simp[Yc]
 |p::m,T,hT=>by
  have:=Vb (i:=i) (j:=j) (m:=m) (T:=Zi A i T p) (by rw[Vc,hT]);unfold Yc at this ⊢;rw[List.foldl_cons,this,qan hT];simp only[List.mem_cons,exists_eq_or_imp];constructor
  ·rintro ((h|h)|h)
   ·exact .inl h
   ·exact .inr (.inl h)
   ·exact .inr (.inr h)
  ·rintro (h|h|h)
   ·exact .inl (.inl h)
   ·exact .inl (.inr h)
   ·exact .inr h
theorem qaz {T T':List Bool} (hl:T.length=T'.length) (h:∀j,T.getD j false=true↔T'.getD j false=true):T=T':=by
 refine List.ext_getElem hl fun j h1 h2=>?_;have:=h j;rw[List.getD_eq_getElem?_getD,List.getD_eq_getElem?_getD,List.getElem?_eq_getElem h1,List.getElem?_eq_getElem h2] at this;simp only[Option.getD_some] at this;cases e1:T[j] <;> cases e2:T'[j] <;> simp_all
theorem qak {T:List Bool} {i:Nat}:(Zf lev A T i).length=T.length:=by
 unfold Zf
 split
 ·split
  ·exact Va
  ·rfl
 ·rfl
theorem Xa:∀(k:Nat) (T:List Bool),Yo lev A (k+1) T=XX lev A (Yo lev A k T)
 |0,T=>rfl
 |k+1,T=>by rw[Yo,Xa k];rfl
theorem Vo {T:List Bool} (h:XX lev A T=T):∀k,Yo lev A k T=T
 |0=>rfl
 |k+1=>by rw[Yo,h,Vo h k]
theorem KD (T:List Bool):∀(j k:Nat),Yo lev A (k+j) T=Yo lev A j (Yo lev A k T)
 |0,k=>rfl
 |j+1,k=>by rw[←Nat.add_assoc,Xa,Xa,KD T j k]
theorem qbf {T:List Bool} {k:Nat} (h:XX lev A T=T) (hk:k<=A.length+1) (hT:Yo lev A k (yY A)=T):xd lev A=T:=by
 unfold xd;obtain⟨j,hj⟩:=Nat.le.dest hk;rw[←hj,KD,hT,Vo h]
theorem Np:(yY A).length=A.length:=by simp[yY]
end
def xX (os:List Ob):List Int->List (Int×Int)->List Dd->Option (List (Int×Int))
 |_,wr,[]=>some wr
 |rd,wr,d::l=>match os[d.obj.toNat]? with
  |none=>none
  |some o=>if o.kind=1 then
    if d.op=1 then xX os (if d.ret=3 then d.obj::rd else rd) wr l
    else if d.obj ∈ rd/\(d.obj,d.val) ∉ wr/\o.init≠d.val then xX os rd ((d.obj,d.val)::wr) l
    else none
   else none
def xA (os:List Ob):List (Int×Int)->Au->Bool
 |_,[]=>true
 |wr,s::A=>match xX os [] wr s.deeds with
  |some wr'=>xA os wr' A
  |none=>false
def Qf (es:Array MapEntry) (M:Int->Option Value):Prop:=∀k v,M k=some v↔∃x ∈ es.toList,x.key=.int .i64 k/\x.val=v
def qS (w:World) (b:Nat) (M:Int->Option Value):Prop:=
 ∃(es:Array MapEntry) (c:Nat),w.heap[b]?=some (.map es c)/\(∀x ∈ es.toList,∃k:Int,x.key=.int .i64 k)/\Stamped es c/\Qf es M
def Vy (w:World) (b:Nat) (M:Int->Option Value) (a n:Int):Prop:=
 ∃(es:Array MapEntry) (c:Nat),w.heap[b]?=some (.map es c)/\(∀x ∈ es.toList,∃k:Int,x.key=.int .i64 k)/\Stamped es c/\Qf es M/\∃x ∈ es.toList,x.key=.int .i64 a/\(x.born:Int)=n
def VM (M:Int->Option Value) (a:Int) (v:Option Value):Int->Option Value:=fun k=>if k=a then v else M k
theorem xC {M:Int->Option Value} {a:Int} {v:Option Value}:VM M a v a=v:=by simp[VM]
theorem qZ {M:Int->Option Value} {a k:Int} {v:Option Value} (h:k≠a):VM M a v k=M k:=by simp[VM,h]
section
variable {P:Program} {K t e:TypeId} {w w':World} {b:Nat} {M:Int->Option Value}
theorem qS.lt (h:qS w b M):b < w.heap.size:=by
 obtain⟨es,c,hb,-⟩:=h;exact(Array.getElem?_eq_some_iff.1 hb).1
theorem qS.isMap (h:qS w b M):∃es c,w.heap[b]?=some (.map es c):=let ⟨es,c,hb,_⟩:=h;⟨es,c,hb⟩
theorem qS.obj (h:qS w b M) (hw:w'.heap[b]?=w.heap[b]?):qS w' b M:=by
 obtain⟨es,c,hb,h⟩:=h;exact⟨es,c,hw.trans hb,h⟩
theorem qS.below {B:Nat} (h:qS w b M) (hb:Below B w w') (hlt:b < B):qS w' b M:=h.obj (hb.block b hlt)
theorem qS.drew (h:qS w b M):qS w.drew b M:=h
theorem qS.set (h:qS w b M) {g j:Nat} {v:Value} (hg:b≠g):qS (w.setCell ⟨g,j,none⟩ v) b M:=h.obj (RowKit.Below.heap_setCell _ _ _ _ hg)
theorem qS.made (h:w.heap[b]?=some (.map #[] 0)):qS w b (fun _=>none):=⟨#[],0,h,by simp,stamped_empty 0,by intro k v;simp⟩
theorem qS.fun {N:Int->Option Value} (h:qS w b M) (hN:∀k,N k=M k):qS w b N:=by
 obtain⟨es,c,h1,h2,h3,h4⟩:=h;exact⟨es,c,h1,h2,h3,fun k v=>by rw[hN];exact h4 k v⟩
theorem qS.find {es:Array MapEntry} (h2:∀x ∈ es.toList,∃k:Int,x.key=.int .i64 k) (h4:Qf es M) (a:Int):
  (Instr.findNow (.int .i64) (.int .i64 a) es.toList 0=some none/\(∀x ∈ es.toList,x.key≠.int .i64 a)/\M a=none)\/∃j x,Instr.findNow (.int .i64) (.int .i64 a) es.toList 0=some (some (j,x.val))/\es.toList[j]?=some x/\x.key=.int .i64 a/\M a=some x.val:=by
 have hks:∀x ∈ es.toList,IsKey (.int .i64) x.key:=fun x hx=>by
  obtain⟨k,hk⟩:=h2 x hx;rw[hk];exact rfl
 rcases findNow_spec (k:=.int .i64 a) (d:=.int .i64) rfl es.toList 0 hks with⟨h1,hn⟩|⟨j,x,h1,hj,hx⟩
 ·refine .inl ⟨h1,hn,?_⟩
  cases hM:M a with
  |none=>rfl
  |some v=>
   obtain⟨x,hx,hk,-⟩:=(h4 a v).1 hM;exact absurd hk (hn x hx)
 ·exact .inr ⟨j,x,by simpa using h1,hj,hx,(h4 a x.val).2 ⟨x,List.mem_of_getElem? hj,hx,rfl⟩⟩
theorem qS.look (h:qS w b M) (hK:P.underlying K=some (.int .i64)) (ht:P.underlying t=some (.map K e)) {zv:Value} (hz:(zeroValue e).run P w=.ok zv w) (a:Int) {r:Option Value} (hr:M a=r):
  (Instr.lookup t (.map (some b)) (.int .i64 a) false).run P w=.ok (r.getD zv) w/\(Instr.lookup t (.map (some b)) (.int .i64 a) true).run P w=.ok (.tuple #[r.getD zv,.bool r.isSome]) w:=by
 obtain⟨es,c,hb,h2,h3,h4⟩:=h;rcases qS.find h2 h4 a with⟨h1,-,hM⟩|⟨j,x,h1,-,-,hM⟩ <;>
 ·rw [hM] at hr
  subst hr;constructor <;> simp[Instr.lookup,run_underlying ht,MapKept.run_getObj_map hb,MapKept.run_checkKey hK (k:=.int .i64 a) rfl,MapKept.run_findKey hK h1,hz,Result.andThen]
theorem Vf {es:Array MapEntry} {a:Int} {v:Value} {c:Nat} (h2:∀x ∈ es.toList,∃k:Int,x.key=.int .i64 k):∀x ∈ (es.push ⟨.int .i64 a,v,c⟩).toList,∃k:Int,x.key=.int .i64 k:=by
 intro y hy;simp only[Array.toList_push,List.mem_append,List.mem_singleton] at hy;rcases hy with hy|rfl
 ·exact h2 y hy
 ·exact ⟨a,rfl⟩
theorem Qf.push {es:Array MapEntry} (h4:Qf es M) {a:Int} {v:Value} {c:Nat} (hn:∀x ∈ es.toList,x.key≠.int .i64 a):Qf (es.push ⟨.int .i64 a,v,c⟩) (VM M a (some v)):=by
 intro k u;simp only[Array.toList_push,List.mem_append,List.mem_singleton];by_cases hk:k=a
 ·subst hk
  rw[xC];constructor
  ·intro hu
   cases hu;exact⟨_,.inr rfl,rfl,rfl⟩
  ·rintro ⟨y,hy|rfl,h5,h6⟩
   ·exact absurd h5 (hn y hy)
   ·simpa using h6
 ·rw [qZ hk,h4]
  constructor
  ·rintro ⟨y,hy,h5⟩
   exact⟨y,.inl hy,h5⟩
  ·rintro ⟨y,hy|rfl,h5,h6⟩
   ·exact ⟨y,hy,h5,h6⟩
   ·simp only[Value.int.injEq,true_and] at h5
    exact absurd h5.symm hk
theorem ye {es:Array MapEntry} {c:Nat} (hs:Stamped es c) {j:Nat} {x:MapEntry} (hj:es[j]?=some x) (f:MapEntry->MapEntry) (y:MapEntry):
  y ∈ (es.modify j f).toList↔y=f x\/(y ∈ es.toList/\y.key≠x.key):=by
 have h3:=hs.2.2;rw[List.mem_iff_getElem?];constructor
 ·rintro ⟨i,hi⟩
  simp only[Array.getElem?_toList,Array.getElem?_modify] at hi
  split at hi
  ·rename_i he
   subst he;rw[hj] at hi;simp only[Option.map_some,Option.some.injEq] at hi;exact .inl hi.symm
  ·rename_i he
   refine .inr ⟨List.mem_iff_getElem?.2 ⟨i,by simpa using hi⟩,fun hk=>he ?_⟩;have hil:j < (es.toList.map (·.key)).length:=by
    have:=(Array.getElem?_eq_some_iff.1 hj).1;simpa using this
   refine(List.getElem?_inj hil h3).1 ?_;simp[hi,hj,hk]
 ·rintro (rfl|⟨hy,hne⟩)
  ·exact ⟨j,by simp[Array.getElem?_modify,hj]⟩
  ·obtain ⟨i,hi⟩:=List.mem_iff_getElem?.1 hy
   refine⟨i,?_⟩;simp only[Array.getElem?_toList,Array.getElem?_modify];rw[if_neg (by
    rintro rfl;rw[Array.getElem?_toList,hj] at hi;cases hi;exact hne rfl)]
   simpa using hi
theorem Qv {es:Array MapEntry} {c:Nat} (hs:Stamped es c) (h2:∀x ∈ es.toList,∃k:Int,x.key=.int .i64 k) {j:Nat} {x:MapEntry} (hj:es[j]?=some x) {f:MapEntry->MapEntry} {a:Int} (hf:(f x).key=.int .i64 a):∀y ∈ (es.modify j f).toList,∃k:Int,y.key=.int .i64 k:=by
 intro y hy;rcases(ye hs hj f y).1 hy with rfl|⟨hy,-⟩
 ·exact ⟨a,hf⟩
 ·exact h2 y hy
theorem Qf.modify {es:Array MapEntry} {c:Nat} (hs:Stamped es c) (h4:Qf es M) {j:Nat} {x:MapEntry} (hj:es[j]?=some x) {f:MapEntry->MapEntry} {a:Int} (hx:x.key=.int .i64 a) (hf:(f x).key=.int .i64 a):Qf (es.modify j f) (VM M a (some (f x).val)):=by
 intro k u;by_cases hk:k=a
 ·subst hk
  rw[xC];constructor
  ·intro hu
   cases hu;exact⟨_,(ye hs hj f _).2 (.inl rfl),hf,rfl⟩
  ·rintro ⟨y,hy,h5,h6⟩
   rcases(ye hs hj f y).1 hy with rfl|⟨-,hne⟩
   ·rw [h6]
   ·exact absurd (h5.trans hx.symm) hne
 ·rw [qZ hk,h4]
  constructor
  ·rintro ⟨y,hy,h5,h6⟩
   exact⟨y,(ye hs hj f y).2 (.inr ⟨hy,by rw[h5,hx];simpa using hk⟩),h5,h6⟩
  ·rintro ⟨y,hy,h5,h6⟩
   rcases(ye hs hj f y).1 hy with rfl|⟨hy,-⟩
   ·rw [hf] at h5
    simp only[Value.int.injEq,true_and] at h5;exact absurd h5.symm hk
   ·exact ⟨y,hy,h5,h6⟩
theorem uJ {es:Array MapEntry} {c:Nat} (hs:Stamped es c) {j:Nat} {x:MapEntry} (hj:es[j]?=some x) {f:MapEntry->MapEntry} (hb:∀y,(f y).born=y.born) (hk:(f x).key=x.key):Stamped (es.modify j f) c:=
 stamped_modify hs j f (fun y _=>hb y) fun y _ hy=>by rw[hj] at hy;cases hy;exact hk
theorem qS.store (h:qS w b M) (hK:P.underlying K=some (.int .i64)) (ht:P.underlying t=some (.map K e)) (a:Int) (v:Value):
  ∃w',(Instr.mapUpdate t (.map (some b)) (.int .i64 a) v).run P w=.ok () w'/\qS w' b (VM M a (some v))/\w.mapTurned w' b:=by
 obtain⟨es,c,hb,h2,h3,h4⟩:=h;rcases qS.find h2 h4 a with⟨h1,hn,hM⟩|⟨j,x,h1,hj,hx,hM⟩
 ·refine ⟨ChangeMaps.setBlock w b (.map (es.push ⟨.int .i64 a,v,c⟩) (c+1)),?_,⟨_,_,ChangeMaps.heap_setBlock_same hb _,Vf h2,stamped_push h3 hn,h4.push hn⟩,⟨_,_,_,_,hb,rfl⟩⟩
  simp[Instr.mapUpdate,run_underlying ht,MapKept.run_getObj_map hb,MapKept.run_checkKey hK (k:=.int .i64 a) rfl,MapKept.run_findKey hK h1,MapKept.run_setObj_map _ hb,Result.andThen,ChangeMaps.setBlock]
 ·have hj':es[j]?=some x:=by simpa using hj
  refine⟨ChangeMaps.setBlock w b (.map (es.modify j fun y=>{y with key:=.int .i64 a,val:=v}) c),?_,⟨_,_,ChangeMaps.heap_setBlock_same hb _,Qv h3 h2 hj' (a:=a) rfl,uJ h3 hj' (fun _=>rfl) hx.symm,Qf.modify (f:=fun y=>{y with key:=.int .i64 a,val:=v}) h3 h4 hj' hx rfl⟩,⟨_,_,_,_,hb,rfl⟩⟩;simp[Instr.mapUpdate,run_underlying ht,MapKept.run_getObj_map hb,MapKept.run_checkKey hK (k:=.int .i64 a) rfl,MapKept.run_findKey hK h1,hj',hx,MapKept.run_keyThatStays (d:=.int .i64) (k:=.int .i64 a) rfl,MapKept.run_setObj_map _ hb,Result.andThen,ChangeMaps.setBlock]
theorem qS.drop (h:qS w b M) (hK:P.underlying K=some (.int .i64)) (ht:P.underlying t=some (.map K e)) (a:Int) (ty:TypeId):
  ∃w',(Builtin.delete_ #[t,K] ty #[.map (some b),.int .i64 a]).run P w=.ok (.tuple #[]) w'/\qS w' b (VM M a none)/\w.mapTurned w' b:=by
 obtain⟨es,c,hb,h2,h3,h4⟩:=h;rcases qS.find h2 h4 a with⟨h1,hn,hM⟩|⟨j,x,h1,hj,hx,hM⟩
 ·refine ⟨ChangeMaps.setBlock w b (.map es c),?_,⟨_,_,ChangeMaps.heap_setBlock_same hb _,h2,h3,?_⟩,⟨_,_,_,_,hb,rfl⟩⟩
  ·simp [Builtin.delete_,run_underlying ht,MapKept.run_getObj_map hb,MapKept.run_checkKey hK (k:=.int .i64 a) rfl,MapKept.run_findKey hK h1,MapKept.run_setObj_map _ hb,Result.andThen,ChangeMaps.setBlock]
  ·intro k u
   by_cases hk:k=a
   ·subst hk
    rw[xC];constructor
    ·intro hu;cases hu
    ·rintro ⟨y,hy,h5,-⟩
     exact absurd h5 (hn y hy)
   ·rw [qZ hk];exact h4 k u
 ·have hjl:j < es.size:=by
   have:=(List.getElem?_eq_some_iff.1 hj).1;simpa using this
  have he:(es.eraseIdxIfInBounds j).toList=es.toList.eraseIdx j:=by
   unfold Array.eraseIdxIfInBounds;rw[dif_pos hjl];simp
  have hsub:List.Sublist (es.toList.eraseIdx j) es.toList:=List.eraseIdx_sublist _ _;refine⟨ChangeMaps.setBlock w b (.map (es.eraseIdxIfInBounds j) c),?_,⟨_,_,ChangeMaps.heap_setBlock_same hb _,?_,stamped_erase h3 j,?_⟩,⟨_,_,_,_,hb,rfl⟩⟩
  ·simp [Builtin.delete_,run_underlying ht,MapKept.run_getObj_map hb,MapKept.run_checkKey hK (k:=.int .i64 a) rfl,MapKept.run_findKey hK h1,MapKept.run_setObj_map _ hb,Result.andThen,ChangeMaps.setBlock]
  ·intro y hy
   rw[he] at hy;exact h2 y (hsub.subset hy)
  ·have hmem:∀y,y ∈ es.toList.eraseIdx j↔y ∈ es.toList/\y.key≠.int .i64 a:=by
    intro y;have hn:=h3.2.2;rw[List.mem_eraseIdx_iff_getElem?];constructor
    ·rintro ⟨i,hi,hy⟩
     refine⟨List.mem_of_getElem? hy,fun hk=>hi ?_⟩;have hil:j < (es.toList.map (·.key)).length:=by simpa using hjl
     refine((List.getElem?_inj hil hn).1 ?_).symm;rw[List.getElem?_map,List.getElem?_map,hy,hj];simp[hk,hx]
    ·rintro ⟨hy,hne⟩
     obtain⟨i,hi⟩:=List.mem_iff_getElem?.1 hy;refine⟨i,?_,hi⟩;rintro rfl;rw[hj] at hi;cases hi;exact hne hx
   intro k u;rw[he];by_cases hk:k=a
   ·subst hk
    rw[xC];constructor
    ·intro hu;cases hu
    ·rintro ⟨y,hy,h5,-⟩
     exact absurd h5 ((hmem y).1 hy).2
   ·rw [qZ hk,h4]
    constructor
    ·rintro ⟨y,hy,h5,h6⟩
     exact⟨y,(hmem y).2 ⟨hy,by rw[h5];simpa using hk⟩,h5,h6⟩
    ·rintro ⟨y,hy,h5,h6⟩
     exact⟨y,((hmem y).1 hy).1,h5,h6⟩
theorem qS.entry (h:qS w b M) (hK:P.underlying K=some (.int .i64)) (ht:P.underlying t=some (.map K e)) {zv:Value} (hz:(zeroValue e).run P w=.ok zv w) (a:Int):
  ∃(w':World) (v:Value) (n:Int) (M':Int->Option Value),(Instr.mapEntry t (.map (some b)) (.int .i64 a)).run P w=.ok (.tuple #[v,.int .i64 n]) w'/\Vy w' b M' a n/\(∀k,k≠a->M' k=M k)/\w.mapTurned w' b:=by
 obtain⟨es,c,hb,h2,h3,h4⟩:=h;rcases qS.find h2 h4 a with⟨h1,hn,hM⟩|⟨j,x,h1,hj,hx,hM⟩
 ·refine ⟨ChangeMaps.setBlock w b (.map (es.push ⟨.int .i64 a,zv,c⟩) (c+1)),zv,c,_,?_,⟨_,_,ChangeMaps.heap_setBlock_same hb _,Vf h2,stamped_push h3 hn,h4.push hn,⟨.int .i64 a,zv,c⟩,by simp,rfl,rfl⟩,fun k hk=>qZ hk,⟨_,_,_,_,hb,rfl⟩⟩
  simp[Instr.mapEntry,run_underlying ht,MapKept.run_getObj_map hb,MapKept.run_checkKey hK (k:=.int .i64 a) rfl,MapKept.run_findKey hK h1,hz,MapKept.run_setObj_map _ hb,Result.andThen,ChangeMaps.setBlock,goInt]
 ·have hj':es[j]?=some x:=by simpa using hj
  refine⟨ChangeMaps.setBlock w b (.map (es.modify j fun y=>{y with key:=.int .i64 a}) c),x.val,x.born,_,?_,⟨_,_,ChangeMaps.heap_setBlock_same hb _,Qv h3 h2 hj' (a:=a) rfl,uJ h3 hj' (fun _=>rfl) hx.symm,Qf.modify (f:=fun y=>{y with key:=.int .i64 a}) h3 h4 hj' hx rfl,_,(ye h3 hj' _ _).2 (.inl rfl),rfl,rfl⟩,fun k hk=>qZ hk,⟨_,_,_,_,hb,rfl⟩⟩;simp[Instr.mapEntry,run_underlying ht,MapKept.run_getObj_map hb,MapKept.run_checkKey hK (k:=.int .i64 a) rfl,MapKept.run_findKey hK h1,hj',hx,MapKept.run_keyThatStays (d:=.int .i64) (k:=.int .i64 a) rfl,MapKept.run_setObj_map _ hb,Result.andThen,ChangeMaps.setBlock,goInt]
theorem Vy.stored {a n:Int} (h:Vy w b M a n) (v:Value):
  ∃w',(Instr.entryStore t (.map (some b)) (.int .i64 n) v).run P w=.ok () w'/\qS w' b (VM M a (some v))/\w.mapTurned w' b:=by
 obtain⟨es,c,hb,h2,h3,h4,x,hx,hk,hn⟩:=h;subst hn;obtain⟨j,hj⟩:=List.mem_iff_getElem?.1 hx;have hj':es[j]?=some x:=by simpa using hj
 have hjl:=(Array.getElem?_eq_some_iff.1 hj').1;have hf:es.findIdx? (fun y=>(y.born:Int)==x.born)=some j:=by
  rw[Array.findIdx?_eq_some_iff_getElem];obtain⟨hl,hv⟩:=Array.getElem?_eq_some_iff.1 hj';refine⟨hl,by simp[hv],fun i hi=>?_⟩;simp only[Bool.not_eq_true,beq_eq_false_iff_ne,ne_eq];intro he;have hil:i < (es.toList.map (·.born)).length:=by simp;omega
  have hii:es[i]?=some es[i]:=Array.getElem?_eq_getElem (by omega);have:=(List.getElem?_inj hil h3.2.1 (j:=j)).1 (by simp[hii,hj'];omega);omega
 refine⟨ChangeMaps.setBlock w b (.map (es.modify j fun y=>{y with val:=v}) c),?_,⟨_,_,ChangeMaps.heap_setBlock_same hb _,Qv h3 h2 hj' (a:=a) hk,uJ h3 hj' (fun _=>rfl) rfl,Qf.modify (f:=fun y=>{y with val:=v}) h3 h4 hj' hk hk⟩,⟨_,_,_,_,hb,rfl⟩⟩;simp[Instr.entryStore,MapKept.run_getObj_map hb,asInt,asIntOf,hf,MapKept.run_setObj_map _ hb,Result.andThen,ChangeMaps.setBlock]
theorem qS.wp_store (h:qS w b M) (hK:P.underlying K=some (.int .i64)) (ht:P.underlying t=some (.map K e)) {a:Int} {v:Value}
  {o:Oper} {act:Act} {Q:Exit->Act->World->Prop} {K':Act->World->Prop} {m x y:Operand} (hop:o.op=Op.mapUpdate t m x y\/o.op=Op.insert t m x y) (hm:act.eval m=.map (some b)) (hx:act.eval x=.int .i64 a) (hy:act.eval y=v)
  (hQ:∀w',qS w' b (VM M a (some v))->w.mapTurned w' b->K' (act.put o.dst undef) w'):o.wp P act w K' Q:=by
 obtain⟨w',hrun,h1,h2⟩:=h.store hK ht a v;rcases hop with hop|hop <;>
 ·unfold Oper.wp
  simp only[execOp,hop,hm,hx,hy,Sem.run_bind,hrun,Result.andThen_ok,Sem.run_pure];exact hQ w' h1 h2
theorem qS.wpList_store (h:qS w b M) (hK:P.underlying K=some (.int .i64)) (ht:P.underlying t=some (.map K e)) {a:Int} {v:Value}
  {ops:Array Oper} {rest:List Oper} {o:Oper} {act:Act} {Q:Exit->Act->World->Prop} {m x y:Operand} (hg:o.guard=none) (hop:o.op=Op.mapUpdate t m x y\/o.op=Op.insert t m x y) (hm:act.eval m=.map (some b)) (hx:act.eval x=.int .i64 a) (hy:act.eval y=v)
  (hQ:∀w',qS w' b (VM M a (some v))->w.mapTurned w' b->wpList P ops Q rest (act.put o.dst undef) w'):wpList P ops Q (o::rest) act w:=
 wpList_plain hg fun _ hK'=>h.wp_store hK ht hop hm hx hy fun w' h1 h2=>hK' _ _ (hQ w' h1 h2)
theorem qS.wp_drop (h:qS w b M) (hK:P.underlying K=some (.int .i64)) (ht:P.underlying t=some (.map K e)) {a:Int}
  {o:Oper} {act:Act} {Q:Exit->Act->World->Prop} {K':Act->World->Prop} {m x:Operand} (hop:o.op=Op.call {callee:=Callee.builtin Builtin.delete,args:=#[m,x],argTypes:=#[t,K]}) (hm:act.eval m=.map (some b)) (hx:act.eval x=.int .i64 a)
  (hQ:∀w',qS w' b (VM M a none)->w.mapTurned w' b->K' (act.put o.dst (.tuple #[])) w'):o.wp P act w K' Q:=by
 obtain⟨w',hrun,r1,r2⟩:=h.drop hK ht a o.type;unfold Oper.wp;simp[execOp,hop,resolve,invoke,builtin,hm,hx,hrun,Result.andThen];exact hQ w' r1 r2
theorem qS.wp_entry (h:qS w b M) (hK:P.underlying K=some (.int .i64)) (ht:P.underlying t=some (.map K e)) {zv:Value} (hz:(zeroValue e).run P w=.ok zv w) {a:Int}
  {o:Oper} {act:Act} {Q:Exit->Act->World->Prop} {K':Act->World->Prop} {m x:Operand} (hop:o.op=Op.mapEntry t m x) (hm:act.eval m=.map (some b)) (hx:act.eval x=.int .i64 a)
  (hQ:∀(w':World) (v:Value) (n:Int) (M':Int->Option Value),Vy w' b M' a n->(∀k,k≠a->M' k=M k)->w.mapTurned w' b->K' (act.put o.dst (.tuple #[v,.int .i64 n])) w'):o.wp P act w K' Q:=by
 obtain⟨w',v,n,M',hrun,h1,h2,h3⟩:=h.entry hK ht hz a;unfold Oper.wp;simp only[execOp,hop,hm,hx,Sem.run_bind,hrun,Result.andThen_ok,Sem.run_pure];exact hQ w' v n M' h1 h2 h3
theorem Vy.wp_stored {a n:Int} (h:Vy w b M a n) {v:Value}
  {o:Oper} {act:Act} {Q:Exit->Act->World->Prop} {K':Act->World->Prop} {m s y:Operand} (hop:o.op=Op.entryStore t m s y) (hm:act.eval m=.map (some b)) (hx:act.eval s=.int .i64 n) (hy:act.eval y=v)
  (hQ:∀w',qS w' b (VM M a (some v))->w.mapTurned w' b->K' (act.put o.dst undef) w'):o.wp P act w K' Q:=by
 obtain⟨w',hrun,h1,h2⟩:=h.stored (P:=P) (t:=t) v;unfold Oper.wp;simp only[execOp,hop,hm,hx,hy,Sem.run_bind,hrun,Result.andThen_ok,Sem.run_pure];exact hQ w' h1 h2
end
structure WE {β:Type} (P:Program) (K:TypeId) (κ:β->Value):Prop where
 inj:∀{x y:β},κ x=κ y->x=y
 keyed:Keyed P K
 ok:∀x,∃l,keyOf P K (κ x)=some l
section
variable {β:Type} {κ:β->Value} {P:Program} {K t e:TypeId} {w w':World} {b:Nat} {M:β->Option Value}
def vX (κ:β->Value) (es:Array MapEntry) (M:β->Option Value):Prop:=∀k v,M k=some v↔∃x ∈ es.toList,x.key=κ k/\x.val=v
def xI (κ:β->Value) (w:World) (b:Nat) (M:β->Option Value):Prop:=
 ∃(es:Array MapEntry) (c:Nat),w.heap[b]?=some (.map es c)/\(∀x ∈ es.toList,∃k:β,x.key=κ k)/\Stamped es c/\vX κ es M
open Classical in
noncomputable def Jd (M:β->Option Value) (a:β) (v:Option Value):β->Option Value:=fun k=>if k=a then v else M k
theorem zS {a:β} {v:Option Value}:Jd M a v a=v:=by simp[Jd]
theorem uL {a k:β} {v:Option Value} (h:k≠a):Jd M a v k=M k:=by simp[Jd,h]
theorem xI.lt (h:xI κ w b M):b < w.heap.size:=by
 obtain⟨es,c,hb,-⟩:=h;exact(Array.getElem?_eq_some_iff.1 hb).1
theorem xI.isMap (h:xI κ w b M):∃es c,w.heap[b]?=some (.map es c):=let ⟨es,c,hb,_⟩:=h;⟨es,c,hb⟩
theorem xI.obj (h:xI κ w b M) (hw:w'.heap[b]?=w.heap[b]?):xI κ w' b M:=by
 obtain⟨es,c,hb,h⟩:=h;exact⟨es,c,hw.trans hb,h⟩
theorem xI.below {B:Nat} (h:xI κ w b M) (hb:Below B w w') (hlt:b < B):xI κ w' b M:=h.obj (hb.block b hlt)
theorem xI.drew (h:xI κ w b M):xI κ w.drew b M:=h
theorem xI.set (h:xI κ w b M) {g j:Nat} {v:Value} (hg:b≠g):xI κ (w.setCell ⟨g,j,none⟩ v) b M:=h.obj (RowKit.Below.heap_setCell _ _ _ _ hg)
theorem xI.made (h:w.heap[b]?=some (.map #[] 0)):xI κ w b (fun _=>none):=⟨#[],0,h,by simp,stamped_empty 0,by intro k v;simp⟩
theorem xI.fun {N:β->Option Value} (h:xI κ w b M) (hN:∀k,N k=M k):xI κ w b N:=by
 obtain⟨es,c,h1,h2,h3,h4⟩:=h;exact⟨es,c,h1,h2,h3,fun k v=>by rw[hN];exact h4 k v⟩
theorem xI.find (T:WE P K κ) {es:Array MapEntry} (h2:∀x ∈ es.toList,∃k:β,x.key=κ k) (h4:vX κ es M) (w:World) (a:β):
  ((Instr.findKey K (κ a) es.toList).run P w=.ok none w/\(∀x ∈ es.toList,x.key≠κ a)/\M a=none)\/∃j x,(Instr.findKey K (κ a) es.toList).run P w=.ok (some (j,x.val)) w/\es.toList[j]?=some x/\x.key=κ a/\M a=some x.val:=by
 obtain⟨la,ha⟩:=T.ok a;rcases T.keyed.find w ha es.toList (fun x hx=>by
  obtain⟨k,hk⟩:=h2 x hx;rw[hk];exact T.ok k) with⟨h1,hn⟩|⟨j,x,h1,hj,hx⟩
 ·refine .inl ⟨h1,hn,?_⟩
  cases hM:M a with
  |none=>rfl
  |some v=>
   obtain⟨x,hx,hk,-⟩:=(h4 a v).1 hM;exact absurd hk (hn x hx)
 ·exact .inr ⟨j,x,h1,hj,hx,(h4 a x.val).2 ⟨x,List.mem_of_getElem? hj,hx,rfl⟩⟩
theorem xI.look (T:WE P K κ) (h:xI κ w b M) (ht:P.underlying t=some (.map K e)) {zv:Value} (hz:(zeroValue e).run P w=.ok zv w) (a:β) {r:Option Value} (hr:M a=r):
  (Instr.lookup t (.map (some b)) (κ a) false).run P w=.ok (r.getD zv) w/\(Instr.lookup t (.map (some b)) (κ a) true).run P w=.ok (.tuple #[r.getD zv,.bool r.isSome]) w:=by
 obtain⟨es,c,hb,h2,h3,h4⟩:=h;obtain⟨la,ha⟩:=T.ok a;rcases xI.find T h2 h4 w a with⟨h1,-,hM⟩|⟨j,x,h1,-,-,hM⟩ <;>
 ·rw [hM] at hr
  subst hr;constructor <;> simp[Instr.lookup,run_underlying ht,MapKept.run_getObj_map hb,T.keyed.check w _ ha,h1,hz,Result.andThen]
theorem Nh {es:Array MapEntry} {a:β} {v:Value} {c:Nat} (h2:∀x ∈ es.toList,∃k:β,x.key=κ k):∀x ∈ (es.push ⟨κ a,v,c⟩).toList,∃k:β,x.key=κ k:=by
 intro y hy;simp only[Array.toList_push,List.mem_append,List.mem_singleton] at hy;rcases hy with hy|rfl
 ·exact h2 y hy
 ·exact ⟨a,rfl⟩
theorem vX.push (T:WE P K κ) {es:Array MapEntry} (h4:vX κ es M) {a:β} {v:Value} {c:Nat} (hn:∀x ∈ es.toList,x.key≠κ a):vX κ (es.push ⟨κ a,v,c⟩) (Jd M a (some v)):=by
 intro k u;simp only[Array.toList_push,List.mem_append,List.mem_singleton];by_cases hk:k=a
 ·subst hk
  rw[zS];constructor
  ·intro hu
   cases hu;exact⟨_,.inr rfl,rfl,rfl⟩
  ·rintro ⟨y,hy|rfl,h5,h6⟩
   ·exact absurd h5 (hn y hy)
   ·simpa using h6
 ·rw [uL hk,h4]
  constructor
  ·rintro ⟨y,hy,h5⟩
   exact⟨y,.inl hy,h5⟩
  ·rintro ⟨y,hy|rfl,h5,h6⟩
   ·exact ⟨y,hy,h5,h6⟩
   ·exact absurd (T.inj h5).symm hk
theorem VZ {es:Array MapEntry} {c:Nat} (hs:Stamped es c) (h2:∀x ∈ es.toList,∃k:β,x.key=κ k) {j:Nat} {x:MapEntry} (hj:es[j]?=some x) {f:MapEntry->MapEntry} {a:β} (hf:(f x).key=κ a):∀y ∈ (es.modify j f).toList,∃k:β,y.key=κ k:=by
 intro y hy;rcases(ye hs hj f y).1 hy with rfl|⟨hy,-⟩
 ·exact ⟨a,hf⟩
 ·exact h2 y hy
theorem vX.modify (T:WE P K κ) {es:Array MapEntry} {c:Nat} (hs:Stamped es c) (h4:vX κ es M) {j:Nat} {x:MapEntry} (hj:es[j]?=some x) {f:MapEntry->MapEntry} {a:β} (hx:x.key=κ a) (hf:(f x).key=κ a):vX κ (es.modify j f) (Jd M a (some (f x).val)):=by
 intro k u;by_cases hk:k=a
 ·subst hk
  rw[zS];constructor
  ·intro hu
   cases hu;exact⟨_,(ye hs hj f _).2 (.inl rfl),hf,rfl⟩
  ·rintro ⟨y,hy,h5,h6⟩
   rcases(ye hs hj f y).1 hy with rfl|⟨-,hne⟩
   ·rw [h6]
   ·exact absurd (h5.trans hx.symm) hne
 ·rw [uL hk,h4]
  constructor
  ·rintro ⟨y,hy,h5,h6⟩
   exact⟨y,(ye hs hj f y).2 (.inr ⟨hy,by rw[h5,hx];exact fun e=>hk (T.inj e)⟩),h5,h6⟩
  ·rintro ⟨y,hy,h5,h6⟩
   rcases(ye hs hj f y).1 hy with rfl|⟨hy,-⟩
   ·rw [hf] at h5
    exact absurd (T.inj h5).symm hk
   ·exact ⟨y,hy,h5,h6⟩
theorem xI.store (T:WE P K κ) (h:xI κ w b M) (ht:P.underlying t=some (.map K e)) (a:β) (v:Value):
  ∃w',(Instr.mapUpdate t (.map (some b)) (κ a) v).run P w=.ok () w'/\xI κ w' b (Jd M a (some v))/\w.mapTurned w' b:=by
 obtain⟨es,c,hb,h2,h3,h4⟩:=h;obtain⟨la,ha⟩:=T.ok a;rcases xI.find T h2 h4 w a with⟨h1,hn,hM⟩|⟨j,x,h1,hj,hx,hM⟩
 ·refine ⟨ChangeMaps.setBlock w b (.map (es.push ⟨κ a,v,c⟩) (c+1)),?_,⟨_,_,ChangeMaps.heap_setBlock_same hb _,Nh h2,stamped_push h3 hn,h4.push T hn⟩,⟨_,_,_,_,hb,rfl⟩⟩
  simp[Instr.mapUpdate,run_underlying ht,MapKept.run_getObj_map hb,T.keyed.check w _ ha,h1,MapKept.run_setObj_map _ hb,Result.andThen,ChangeMaps.setBlock]
 ·have hj':es[j]?=some x:=by simpa using hj
  refine⟨ChangeMaps.setBlock w b (.map (es.modify j fun y=>{y with key:=κ a,val:=v}) c),?_,⟨_,_,ChangeMaps.heap_setBlock_same hb _,VZ h3 h2 hj' (a:=a) rfl,uJ h3 hj' (fun _=>rfl) hx.symm,vX.modify (f:=fun y=>{y with key:=κ a,val:=v}) T h3 h4 hj' hx rfl⟩,⟨_,_,_,_,hb,rfl⟩⟩;simp[Instr.mapUpdate,run_underlying ht,MapKept.run_getObj_map hb,T.keyed.check w _ ha,h1,hj',hx,T.keyed.stays w ha,MapKept.run_setObj_map _ hb,Result.andThen,ChangeMaps.setBlock]
theorem xI.wp_store (T:WE P K κ) (h:xI κ w b M) (ht:P.underlying t=some (.map K e)) {a:β} {v:Value}
  {o:Oper} {act:Act} {Q:Exit->Act->World->Prop} {K':Act->World->Prop} {m x y:Operand} (hop:o.op=Op.mapUpdate t m x y) (hm:act.eval m=.map (some b)) (hx:act.eval x=κ a) (hy:act.eval y=v)
  (hQ:∀w',xI κ w' b (Jd M a (some v))->w.mapTurned w' b->K' (act.put o.dst undef) w'):o.wp P act w K' Q:=by
 obtain⟨w',hrun,h1,h2⟩:=h.store T ht a v;unfold Oper.wp;simp only[execOp,hop,hm,hx,hy,Sem.run_bind,hrun,Result.andThen_ok,Sem.run_pure];exact hQ w' h1 h2
theorem xI.wpList_store (T:WE P K κ) (h:xI κ w b M) (ht:P.underlying t=some (.map K e)) {a:β} {v:Value}
  {ops:Array Oper} {rest:List Oper} {o:Oper} {act:Act} {Q:Exit->Act->World->Prop} {m x y:Operand} (hg:o.guard=none) (hop:o.op=Op.mapUpdate t m x y) (hm:act.eval m=.map (some b)) (hx:act.eval x=κ a) (hy:act.eval y=v)
  (hQ:∀w',xI κ w' b (Jd M a (some v))->w.mapTurned w' b->wpList P ops Q rest (act.put o.dst undef) w'):wpList P ops Q (o::rest) act w:=
 wpList_plain hg fun _ hK'=>h.wp_store T ht hop hm hx hy fun w' h1 h2=>hK' _ _ (hQ w' h1 h2)
end
def Ck:Type:={c:Int×Int // dI c.1/\dI c.2}
def ZB (o v:Int) (h:dI o/\dI v):Ck:=⟨(o,v),h⟩
theorem jF (o v:Int) (h:dI o/\dI v):(ZB o v h).1=(o,v):=rfl
def ZA (c:Ck):Value:=.agg #[.int .i64 c.1.1,.int .i64 c.1.2]
theorem qar:laidOutB Tryz.prog=true:=by kernel_rfl
theorem Nz:Keyed Tryz.prog 157:=Keyed.of_law (deep_law_laid qar (m:=3) (by omega) (by decide+kernel) (by kernel_rfl) (by kernel_rfl))
theorem WJ:∃m,Tryz.prog.types.size=m+1+1:=⟨Tryz.prog.types.size - 2,by kernel_rfl⟩
theorem qhj (c:Ck):∃l,keyOf Tryz.prog 157 (ZA c)=some l:=by
 obtain⟨⟨o,v⟩,ho,hv⟩:=c;have ho:(Lit.int .i64 o).wf=true:=ho;have hv:(Lit.int .i64 v).wf=true:=hv;obtain⟨k,hk⟩:=WJ;have h1:Tryz.prog.keyType 157=true:=by kernel_rfl
 have h2:(ZA ⟨(o,v),ho,hv⟩:Value).formed Tryz.prog 157=true:=by kernel_rfl
 have h3:Tryz.prog.cellsOf 157=2:=by kernel_rfl
 have h4:Tryz.prog.cellsOf 3=1:=by kernel_rfl
 unfold keyOf;rw[Tryz.underlying157];simp only;rw[if_pos (by rw[h1,h2];rfl),hk];simp[Program.keyLits,Tryz.underlying157,Tryz.underlying3,h3,h4,ZA,Value.cells,ho,hv]
theorem qgn {x y:Ck} (h:ZA x=ZA y):x=y:=by
 obtain⟨⟨o,v⟩,hx⟩:=x;obtain⟨⟨p,u⟩,hy⟩:=y;simp only[ZA,Value.agg.injEq,Array.mk.injEq,List.cons.injEq,Value.int.injEq,true_and,and_true] at h;obtain⟨rfl,rfl⟩:=h;rfl
theorem ck:WE Tryz.prog 157 ZA:=⟨qgn,Nz,qhj⟩
theorem ZR (w:World):(zeroValue 4).run Tryz.prog w=.ok (.bool false) w:=by kernel_rfl
def jY (w:World) (b:Nat) (l:List (Int×Int)):Prop:=∃M,xI ZA w b M/\∀c:Ck,(M c).getD (.bool false)=.bool (decide (c.1 ∈ l))
def zn (w:World) (b:Nat) (l:List Int):Prop:=∃M,qS w b M/\∀k:Int,(M k).getD (.bool false)=.bool (decide (k ∈ l))
section
variable {w w':World} {b:Nat} {l:List (Int×Int)} {rd:List Int}
theorem jY.obj (h:jY w b l) (hw:w'.heap[b]?=w.heap[b]?):jY w' b l:=let ⟨M,h1,h2⟩:=h;⟨M,h1.obj hw,h2⟩
theorem jY.lt (h:jY w b l):b < w.heap.size:=let ⟨M,h1,h2⟩:=h;h1.lt
theorem jY.made (h:w.heap[b]?=some (.map #[] 0)):jY w b []:=⟨_,xI.made h,fun c=>by simp⟩
theorem jY.look (h:jY w b l) (c:Ck):(Instr.lookup 180 (.map (some b)) (ZA c) false).run Tryz.prog w=.ok (.bool (decide (c.1 ∈ l))) w:=by
 obtain⟨M,h1,h2⟩:=h;have:=(h1.look ck Tryz.underlying180 (ZR w) c rfl).1;rw[h2] at this;exact this
theorem jY.put {M:Ck->Option Value} {c:Ck} (h:xI ZA w' b (Jd M c (some (.bool true)))) (h2:∀c:Ck,(M c).getD (.bool false)=.bool (decide (c.1 ∈ l))):jY w' b (c.1::l):=by
 refine⟨_,h,fun k=>?_⟩;by_cases e:k=c
 ·subst e;rw[zS];simp
 ·rw [uL e,h2]
  have:k.1≠c.1:=fun h=>e (Subtype.ext h);simp[this]
theorem zn.obj (h:zn w b rd) (hw:w'.heap[b]?=w.heap[b]?):zn w' b rd:=let ⟨M,h1,h2⟩:=h;⟨M,h1.obj hw,h2⟩
theorem zn.lt (h:zn w b rd):b < w.heap.size:=let ⟨M,h1,h2⟩:=h;h1.lt
theorem zn.made (h:w.heap[b]?=some (.map #[] 0)):zn w b []:=⟨_,qS.made h,fun c=>by simp⟩
theorem zn.look (h:zn w b rd) (a:Int):(Instr.lookup 102 (.map (some b)) (.int .i64 a) false).run Tryz.prog w=.ok (.bool (decide (a ∈ rd))) w:=by
 obtain⟨M,h1,h2⟩:=h;have:=(h1.look Tryz.underlying3 Tryz.underlying102 (ZR w) a rfl).1;rw[h2] at this;exact this
theorem zn.put {M:Int->Option Value} {a:Int} {x:Bool} {rd':List Int} (h:qS w' b (VM M a (some (.bool x)))) (h2:∀k:Int,(M k).getD (.bool false)=.bool (decide (k ∈ rd))) (hx:x=decide (a ∈ rd')) (hr:∀k,k≠a->(k ∈ rd'↔k ∈ rd)):zn w' b rd':=by
 refine⟨_,h,fun k=>?_⟩;by_cases e:k=a
 ·subst e;rw[xC,hx];rfl
 ·rw [qZ e,h2]
  simp[hr k e]
end
