/- Parts of the proof, merged by program out of 2 texts (MapK, StA): the first: Maps in memory whose keys stand for whole numbers, told as lists that rise by them: what is read, what a store makes of it, how a range goes over it. Conditions: those of each theorem, as typed. -/
import Derived.Maps.OwnSet
import Derived.Maps.RangeWalk
import Derived.Test.YtkfhgifhfkcehaaGreatDoorQL04
set_option linter.unusedVariables false
set_option linter.unusedSimpArgs false
set_option linter.unusedSectionVars false
set_option maxRecDepth 100000
set_option maxHeartbeats 4000000
namespace Go.Proofs.YtkfhgifhfkcehaaGreatDoor
open Go.Maps Go.RowKit
abbrev DU:=DataW Unit
abbrev RdU:=Value→Option (DU×List MemPlace)
section
variable {ε:Type}
def KSrt (M:List (Int×ε)):Prop:=M.Pairwise fun x y=>x.1 < y.1
def upd (a:Int) (v:ε):List (Int×ε)→List (Int×ε)
 |[]=>[(a,v)]
 |(x,u)::r=>if x=a then(a,v)::r else if a < x then(a,v)::(x,u)::r else(x,u)::upd a v r
def fnd (a:Int):List (Int×ε)→Option ε
 |[]=>none
 |(x,u)::r=>if x=a then some u else fnd a r
theorem keys_upd {a:Int} {v:ε} {z:Int}:∀{M:List (Int×ε)},(∃u,(z,u) ∈ upd a v M)↔z=a∨∃u,(z,u) ∈ M
 |[]=>by simp[upd]
 |(x,u)::r=>by
  have ih:=keys_upd (a:=a) (v:=v) (z:=z) (M:=r)
  unfold upd
  split
  ·rename_i h
   subst h
   simp only[List.mem_cons,Prod.mk.injEq]
   constructor
   ·rintro ⟨y,⟨h,_⟩|h⟩
    ·exact .inl h
    ·exact .inr ⟨y,.inr h⟩
   ·rintro (h|⟨y,⟨h,_⟩|h⟩)
    ·exact ⟨v,.inl ⟨h,rfl⟩⟩
    ·exact ⟨v,.inl ⟨h,rfl⟩⟩
    ·exact ⟨y,.inr h⟩
  ·split
   ·simp only[List.mem_cons,Prod.mk.injEq]
    constructor
    ·rintro ⟨y,⟨h,_⟩|h⟩
     ·exact .inl h
     ·exact .inr ⟨y,h⟩
    ·rintro (h|⟨y,h⟩)
     ·exact ⟨v,.inl ⟨h,rfl⟩⟩
     ·exact ⟨y,.inr h⟩
   ·simp only[List.mem_cons,Prod.mk.injEq]
    constructor
    ·rintro ⟨y,⟨h,h'⟩|h⟩
     ·exact .inr ⟨y,.inl ⟨h,h'⟩⟩
     ·rcases ih.1 ⟨y,h⟩ with h|⟨y',h⟩
      ·exact .inl h
      ·exact .inr ⟨y',.inr h⟩
    ·rintro (h|⟨y,⟨h,h'⟩|h⟩)
     ·obtain ⟨y,h⟩:=ih.2 (.inl h);exact⟨y,.inr h⟩
     ·exact ⟨y,.inl ⟨h,h'⟩⟩
     ·obtain ⟨y,h⟩:=ih.2 (.inr ⟨y,h⟩);exact⟨y,.inr h⟩
theorem mem_upd {a:Int} {v:ε} {p:Int×ε}:∀{M:List (Int×ε)},KSrt M→(p ∈ upd a v M↔p=(a,v)∨(p ∈ M∧p.1≠a))
 |[],_=>by simp[upd]
 |(x,u)::r,h=>by
  obtain⟨h1,h2⟩:=List.pairwise_cons.1 h
  have ih:=mem_upd (a:=a) (v:=v) (p:=p) h2
  unfold upd
  split
  ·rename_i hx
   subst hx
   simp only[List.mem_cons]
   constructor
   ·rintro (h|h)
    ·exact .inl h
    ·exact .inr ⟨.inr h,by have:=h1 p h;simp only at this;omega⟩
   ·rintro (h|⟨h|h,hne⟩)
    ·exact .inl h
    ·exact absurd (by rw[h]) hne
    ·exact .inr h
  ·rename_i hx
   split
   ·rename_i hlt
    simp only[List.mem_cons]
    constructor
    ·rintro (h|h|h)
     ·exact .inl h
     ·exact .inr ⟨.inl h,by rw[h];exact hx⟩
     ·exact .inr ⟨.inr h,by have:=h1 p h;simp only at this;omega⟩
    ·rintro (h|⟨h,_⟩)
     ·exact .inl h
     ·exact .inr h
   ·simp only[List.mem_cons,ih]
    constructor
    ·rintro (h|h|⟨h,hne⟩)
     ·exact .inr ⟨.inl h,by rw[h];exact hx⟩
     ·exact .inl h
     ·exact .inr ⟨.inr h,hne⟩
    ·rintro (h|⟨h|h,hne⟩)
     ·exact .inr (.inl h)
     ·exact .inl h
     ·exact .inr (.inr ⟨h,hne⟩)
theorem srt_upd {a:Int} {v:ε}:∀{M:List (Int×ε)},KSrt M→KSrt (upd a v M)
 |[],_=>by simp[upd,KSrt]
 |(x,u)::r,h=>by
  obtain⟨h1,h2⟩:=List.pairwise_cons.1 h
  unfold upd
  split
  ·rename_i hx
   subst hx
   exact List.pairwise_cons.2 ⟨h1,h2⟩
  ·rename_i hx
   split
   ·rename_i hlt
    refine List.pairwise_cons.2 ⟨fun z hz=>?_,h⟩
    rcases List.mem_cons.1 hz with rfl|hz
    ·exact hlt
    ·have:=h1 z hz;simp only at this ⊢;omega
   ·refine List.pairwise_cons.2 ⟨fun z hz=>?_,srt_upd h2⟩
    rcases(mem_upd h2).1 hz with rfl|⟨hz,_⟩
    ·simp only;omega
    ·exact h1 z hz
theorem fnd_some {a:Int} {u:ε}:∀{M:List (Int×ε)},KSrt M→(fnd a M=some u↔(a,u) ∈ M)
 |[],_=>by simp[fnd]
 |(x,y)::r,h=>by
  obtain⟨h1,h2⟩:=List.pairwise_cons.1 h
  unfold fnd
  split
  ·rename_i hx
   subst hx
   simp only[Option.some.injEq,List.mem_cons,Prod.mk.injEq,true_and]
   constructor
   ·exact fun h=>.inl h.symm
   ·rintro (h|h)
    ·exact h.symm
    ·have:=h1 _ h;simp only at this;omega
  ·rename_i hx
   rw[fnd_some h2]
   simp only[List.mem_cons,Prod.mk.injEq]
   constructor
   ·exact .inr
   ·rintro (⟨h,_⟩|h)
    ·exact absurd h.symm hx
    ·exact h
theorem fnd_none {a:Int}:∀{M:List (Int×ε)},fnd a M=none↔∀u,(a,u) ∉ M
 |[]=>by simp[fnd]
 |(x,y)::r=>by
  unfold fnd
  split
  ·rename_i hx
   subst hx
   simp only[reduceCtorEq,false_iff]
   exact fun h=>h y (by simp)
  ·rename_i hx
   rw[fnd_none]
   constructor
   ·intro h u hm
    rcases List.mem_cons.1 hm with e|e
    ·simp only[Prod.mk.injEq] at e;exact hx e.1.symm
    ·exact h u e
   ·exact fun h u hm=>h u (by simp[hm])
theorem fnd_upd_same {a:Int} {v:ε} {M:List (Int×ε)} (h:KSrt M):fnd a (upd a v M)=some v:=(fnd_some (srt_upd h)).2 ((mem_upd h).2 (.inl rfl))
theorem fnd_upd_other {a c:Int} {v:ε} {M:List (Int×ε)} (h:KSrt M) (hc:c≠a):fnd c (upd a v M)=fnd c M:=by
 cases e:fnd c M with
 |some u=>exact(fnd_some (srt_upd h)).2 ((mem_upd h).2 (.inr ⟨(fnd_some h).1 e,hc⟩))
 |none=>
  rw[fnd_none] at e ⊢
  intro u hm
  rcases(mem_upd h).1 hm with e'|⟨hm,_⟩
  ·simp only[Prod.mk.injEq] at e';exact hc e'.1
  ·exact e u hm
end
structure KeyT (P:Program) (K:TypeId) (kv:Int→Value) (kl:Int→Lit) (dom:Int→Prop):Prop where
 keyed:Keyed P K
 of:∀x,dom x→keyOf P K (kv x)=some (kl x)
 before:∀x y,dom x→dom y→((kl x).before (kl y)=true↔x < y)
 inj:∀x y,dom x→dom y→kl x=kl y→x=y
section
variable {P:Program} {K:TypeId} {kv:Int→Value} {kl:Int→Lit} {dom:Int→Prop} {ε:Type}
theorem KeyT.key (T:KeyT P K kv kl dom) {x:Int} (hx:dom x):WideAt.IsKeyLit (kl x):=T.keyed.key (T.of x hx)
theorem KeyT.self (T:KeyT P K kv kl dom) {x:Int} (hx:dom x):(kl x).sameKey (kl x)=true:=WideAt.sameKey_self (T.key hx)
theorem KeyT.same (T:KeyT P K kv kl dom) {x y:Int} (hx:dom x) (hy:dom y):(kl x).sameKey (kl y)=(x==y):=by
 by_cases h:x=y
 ·subst h;rw[T.self hx];simp
 ·rw [sameKey_ne fun e=>h (T.inj x y hx hy e)];simp[h]
def KDom (dom:Int→Prop) (M:List (Int×ε)):Prop:=∀p ∈ M,dom p.1
theorem KDom.upd {a:Int} {v:ε} {M:List (Int×ε)} (h:KDom dom M) (ha:dom a):KDom dom (upd a v M):=fun p hp=>by
 rcases keys_upd.1 ⟨p.2,hp⟩ with h'|⟨u,h'⟩
 ·rw [h'];exact ha
 ·exact h (p.1,u) h'
def mapD (kl:Int→Lit) (ed:ε→DU) (M:List (Int×ε)):DU:=.map (M.map fun p=>(kl p.1,ed p.2))
variable {ed:ε→DU} {M:List (Int×ε)}
theorem mapD_size:Maps.size (mapD kl ed M)=M.length:=by simp[mapD,Maps.size]
theorem mapD_find (T:KeyT P K kv kl dom) {a:Int} (ha:dom a):∀{M:List (Int×ε)},KDom dom M→(M.map fun p=>(kl p.1,ed p.2)).find? (fun p=>p.1.sameKey (kl a))=(fnd a M).map fun u=>(kl a,ed u)
 |[],_=>rfl
 |(x,u)::r,h=>by
  have hx:dom x:=h (x,u) (by simp)
  have ih:=mapD_find T ha (M:=r) fun p hp=>h p (by simp[hp])
  simp only[List.map_cons,List.find?_cons,T.same hx ha,fnd]
  by_cases e:x=a
  ·subst e;simp
  ·have:(x==a)=false:=by simpa using e
   rw[this,if_neg e]
   exact ih
theorem mapD_at (T:KeyT P K kv kl dom) {a:Int} (ha:dom a) (h:KDom dom M) (z:DU):(mapD kl ed M).atKey (kl a) z=match fnd a M with|some u=>ed u|none=>z:=by
 unfold mapD DataW.atKey
 simp only
 rw[mapD_find T ha h]
 cases fnd a M <;> rfl
theorem mapD_has (T:KeyT P K kv kl dom) {a:Int} (ha:dom a) (h:KDom dom M):Maps.has (mapD kl ed M) (kl a)=(fnd a M).isSome:=by
 have h1:=mapD_find (ed:=ed) T ha h
 unfold mapD Maps.has
 simp only
 rw[show ((M.map fun p=>(kl p.1,ed p.2)).any fun p=>p.1.sameKey (kl a))=((M.map fun p=>(kl p.1,ed p.2)).find? fun p=>p.1.sameKey (kl a)).isSome from(List.isSome_find? ..).symm,h1]
 cases fnd a M <;> rfl
theorem mapD_put (T:KeyT P K kv kl dom) {a:Int} (ha:dom a) (v:ε) (h:KDom dom M) (hs:KSrt M):(mapD kl ed M).put (kl a) (ed v)=mapD kl ed (upd a v M):=by
 unfold mapD DataW.put
 simp only[DataW.map.injEq]
 induction M with
 |nil=>rfl
 |cons q r ih=>
  obtain⟨x,u⟩:=q
  have hx:dom x:=h (x,u) (by simp)
  have hr:KDom dom r:=fun p hp=>h p (by simp[hp])
  obtain⟨h1,h2⟩:=List.pairwise_cons.1 hs
  have keep:a≤x→(r.map fun p=>(kl p.1,ed p.2)).filter (fun p=>!p.1.sameKey (kl a))=r.map fun p=>(kl p.1,ed p.2):=fun hle=>by
   refine List.filter_eq_self.2 fun p hp=>?_
   obtain⟨y,hy,rfl⟩:=List.mem_map.1 hp
   have:=h1 y hy
   simp only at this ⊢
   rw[T.same (hr y hy) ha]
   have:(y.1==a)=false:=by rw[beq_eq_false_iff_ne];omega
   rw[this]
   rfl
  unfold upd
  by_cases e:x=a
  ·subst e
   simp only[List.map_cons,List.filter_cons,T.self hx,Bool.not_true,Bool.false_eq_true,if_false,if_true]
   rw[keep (Int.le_refl _)]
   cases r with
   |nil=>rfl
   |cons y r=>
    have hy:dom y.1:=hr y (by simp)
    have hlt:(kl x).before (kl y.1)=true:=(T.before x y.1 hx hy).2 (h1 y (by simp))
    simp only[List.map_cons,DataW.insert,hlt,if_true]
  ·have e1:(kl x).sameKey (kl a)=false:=by rw[T.same hx ha];simpa using e
   simp only[List.map_cons,List.filter_cons,e1,Bool.not_false,if_true,if_neg e]
   by_cases hlt:a < x
   ·rw [keep (Int.le_of_lt hlt),if_pos hlt]
    simp only[DataW.insert,(T.before a x ha hx).2 hlt,if_true,List.map_cons]
   ·rw [if_neg hlt]
    have hb:¬(kl a).before (kl x)=true:=fun hb=>hlt ((T.before a x ha hx).1 hb)
    simp only[DataW.insert,if_neg hb,List.map_cons]
    rw[ih hr h2]
structure ElemT (R:RdU) (ev:ε→Value) (ed:ε→DU) (zv:Value) (zd:DU):Prop where
 of:∀x,∃ps,R (ev x)=some (ed x,ps)
 zero:∃ps,R zv=some (zd,ps)
 inv:∀v x ps,R v=some (ed x,ps)→v=ev x
 invz:∀v ps,R v=some (zd,ps)→v=zv
def IsMapK (P:Program) (K:TypeId) (R:RdU) (kl:Int→Lit) (ed:ε→DU) (w:World) (b n:Nat) (M:List (Int×ε)):Prop:=w.ownsMap P K R b n (mapD kl ed M)
variable {R:RdU} {ev:ε→Value} {zv:Value} {zd:DU} {w w':World} {b n:Nat}
theorem IsMapK.lt (h:IsMapK P K R kl ed w b n M):b < w.heap.size:=World.ownsMap.lt h
theorem IsMapK.below {B:Nat} (h:IsMapK P K R kl ed w b n M) (hb:Below B w w') (hlt:b < B):IsMapK P K R kl ed w' b n M:=by
 obtain⟨es,clock,h1,h2⟩:=h
 exact⟨es,clock,(hb.block b hlt).trans h1,h2⟩
theorem IsMapK.obj (h:IsMapK P K R kl ed w b n M) (hw:w'.heap[b]?=w.heap[b]?):IsMapK P K R kl ed w' b n M:=by
 obtain⟨es,clock,h1,h2⟩:=h
 exact⟨es,clock,hw.trans h1,h2⟩
theorem IsMapK.alloc (h:IsMapK P K R kl ed w b n M) (o:Obj):IsMapK P K R kl ed (w.alloc o) b n M:=World.ownsMap.alloc h o
theorem IsMapK.drew (h:IsMapK P K R kl ed w b n M):IsMapK P K R kl ed w.drew b n M:=h
theorem IsMapK.set (h:IsMapK P K R kl ed w b n M) {g j:Nat} {v:Value} (hg:b≠g):IsMapK P K R kl ed (w.setCell ⟨g,j,none⟩ v) b n M:=World.ownsMap.setCell h (a:=⟨g,j,none⟩) hg v
theorem IsMapK.mono {n':Nat} (h:IsMapK P K R kl ed w b n M) (hn:n≤n'):IsMapK P K R kl ed w b n' M:=World.ownsMap.mono h hn
theorem IsMapK.made (w:World):IsMapK P K R kl ed (w.alloc (.map #[] 0)) w.heap.size 0 []:=World.ownsMap_made w P K R
theorem IsMapK.length_le (h:IsMapK P K R kl ed w b n M):M.length≤n:=by have:=World.ownsMap.size_le h;rwa [mapD_size] at this
theorem IsMapK.look (T:KeyT P K kv kl dom) (E:ElemT R ev ed zv zd) (h:IsMapK P K R kl ed w b n M) (hM:KDom dom M) {t e:TypeId} (ht:P.underlying t=some (.map K e)) (hz:(zeroValue e).run P w=.ok zv w) {a:Int} (ha:dom a):
  (Instr.lookup t (.map (some b)) (kv a) false).run P w=.ok (match fnd a M with|some u=>ev u|none=>zv) w:=by
 obtain⟨zp,hzd⟩:=E.zero
 obtain⟨v,ps,hrun,hv⟩:=World.ownsMap.lookup h T.keyed ht hz hzd (T.of a ha)
 rw[mapD_at T ha hM] at hv
 rw[hrun]
 cases hf:fnd a M with
 |some u=>rw[hf] at hv;rw[E.inv v u ps hv]
 |none=>rw[hf] at hv;rw[E.invz v ps hv]
theorem IsMapK.lookOk (T:KeyT P K kv kl dom) (E:ElemT R ev ed zv zd) (h:IsMapK P K R kl ed w b n M) (hM:KDom dom M) {t e:TypeId} (ht:P.underlying t=some (.map K e)) (hz:(zeroValue e).run P w=.ok zv w) {a:Int} (ha:dom a):
  (Instr.lookup t (.map (some b)) (kv a) true).run P w=.ok (.tuple #[match fnd a M with|some u=>ev u|none=>zv,.bool (fnd a M).isSome]) w:=by
 obtain⟨zp,hzd⟩:=E.zero
 obtain⟨v,ps,hrun,hv⟩:=World.ownsMap.look_ok h T.keyed ht hz hzd (T.of a ha)
 rw[mapD_at T ha hM] at hv
 rw[hrun,mapD_has T ha hM]
 cases hf:fnd a M with
 |some u=>rw[hf] at hv;rw[E.inv v u ps hv]
 |none=>rw[hf] at hv;rw[E.invz v ps hv]
theorem IsMapK.len (h:IsMapK P K R kl ed w b n M) {t e:TypeId} (ht:P.underlying t=some (.map K e)) (ty:TypeId):(Builtin.len_ #[t] ty #[.map (some b)]).run P w=.ok (.int .i64 M.length) w:=by
 have:=World.ownsMap.len h ht ty
 rwa [mapD_size] at this
theorem IsMapK.wp_store (T:KeyT P K kv kl dom) (E:ElemT R ev ed zv zd) (h:IsMapK P K R kl ed w b n M) (hM:KDom dom M) (hs:KSrt M) {t e:TypeId} (ht:P.underlying t=some (.map K e)) (hn:n < maxLen) {a:Int} (ha:dom a) {v:ε}
  {o:Oper} {act:Act} {Q:Exit→Act→World→Prop} {K':Act→World→Prop} {m x y:Operand} (hop:o.op=Op.mapUpdate t m x y) (hm:act.eval m=.map (some b)) (hx:act.eval x=kv a) (hy:act.eval y=ev v)
  (hK:∀w',IsMapK P K R kl ed w' b (n+1) (upd a v M)→w.mapTurned w' b→K' (act.put o.dst undef) w'):o.wp P act w K' Q:=by
 obtain⟨ps,hv⟩:=E.of v
 obtain⟨w',hrun,h1,h2⟩:=World.ownsMap.store h T.keyed ht hn (T.of a ha) hv
 rw[mapD_put T ha v hM hs] at h1
 unfold Oper.wp
 simp only[execOp,hop,hm,hx,hy,Sem.run_bind,hrun,Result.andThen_ok,Sem.run_pure]
 exact hK w' h1 h2
theorem IsMapK.wpList_store (T:KeyT P K kv kl dom) (E:ElemT R ev ed zv zd) (h:IsMapK P K R kl ed w b n M) (hM:KDom dom M) (hs:KSrt M) {t e:TypeId} (ht:P.underlying t=some (.map K e)) (hn:n < maxLen) {a:Int} (ha:dom a) {v:ε}
  {ops:Array Oper} {rest:List Oper} {o:Oper} {act:Act} {Q:Exit→Act→World→Prop} {m x y:Operand} (hg:o.guard=none) (hop:o.op=Op.mapUpdate t m x y) (hm:act.eval m=.map (some b)) (hx:act.eval x=kv a) (hy:act.eval y=ev v)
  (hK:∀w',IsMapK P K R kl ed w' b (n+1) (upd a v M)→w.mapTurned w' b→wpList P ops Q rest (act.put o.dst undef) w'):wpList P ops Q (o::rest) act w:=
 wpList_plain hg fun _ hK'=>h.wp_store T E hM hs ht hn ha hop hm hx hy fun w' h1 h2=>hK' _ _ (hK w' h1 h2)
def Rng (P:Program) (K:TypeId) (R:RdU) (kl:Int→Lit) (ed:ε→DU) (w:World) (b r n:Nat) (M:List (Int×ε)) (S:Int→Bool) (cnt:Nat):Prop:=
 ∃left,w.ranges P K R b r n (mapD kl ed M) left cnt∧∀p ∈ M,left (kl p.1)=S p.1
theorem Rng.owns {r cnt:Nat} {S:Int→Bool} (h:Rng P K R kl ed w b r n M S cnt):IsMapK P K R kl ed w b n M:=let ⟨_,h,_⟩:=h;h.owns
theorem Rng.lt {r cnt:Nat} {S:Int→Bool} (h:Rng P K R kl ed w b r n M S cnt):r < w.heap.size:=let ⟨_,h,_⟩:=h;h.lt
theorem Rng.ne {r cnt:Nat} {S:Int→Bool} (h:Rng P K R kl ed w b r n M S cnt):r≠b:=let ⟨_,h,_⟩:=h;h.ne
theorem Rng.obj {r cnt:Nat} {S:Int→Bool} (h:Rng P K R kl ed w b r n M S cnt) (h1:w'.heap[b]?=w.heap[b]?) (h2:w'.heap[r]?=w.heap[r]?):Rng P K R kl ed w' b r n M S cnt:=by
 obtain⟨left,⟨es,clock,since,seen,c0,hb,F,hs,hD,hr,rest⟩,hl⟩:=h
 exact⟨left,⟨es,clock,since,seen,c0,h1.trans hb,F,hs,hD,h2.trans hr,rest⟩,hl⟩
theorem Rng.below {r cnt B:Nat} {S:Int→Bool} (h:Rng P K R kl ed w b r n M S cnt) (hb:Below B w w') (h1:b < B) (h2:r < B):Rng P K R kl ed w' b r n M S cnt:=h.obj (hb.block b h1) (hb.block r h2)
theorem Rng.alloc {r cnt:Nat} {S:Int→Bool} (h:Rng P K R kl ed w b r n M S cnt) (o:Obj):Rng P K R kl ed (w.alloc o) b r n M S cnt:=let ⟨left,h1,h2⟩:=h;⟨left,h1.alloc o,h2⟩
theorem Rng.iter {r cnt:Nat} {S:Int→Bool} (h:Rng P K R kl ed w b r n M S cnt):∃since seen c0,w.heap[r]?=some (.mapIter (some b) since seen c0):=by
 obtain⟨left,⟨es,clock,since,seen,c0,hb,F,hs,hD,hr,rest⟩,hl⟩:=h
 exact⟨since,seen,c0,hr⟩
theorem Rng.key {r cnt:Nat} {l:Lit} {left:Lit→Bool} (hr:w.ranges P K R b r n (mapD kl ed M) left cnt) (hl:left l=true):∃p ∈ M,kl p.1=l:=by
 obtain⟨es,clock,since,seen,c0,hb,F,hs,hD,hr,h1,h2,h3,h4,h5⟩:=hr
 obtain⟨x,hx,rfl⟩:=h4 l hl
 have hm:WideElems.rg P K R x ∈ (es.toList.map (WideElems.rg P K R)).foldr DataW.insert []:=mem_sorted.2 (List.mem_map.2 ⟨x,hx,rfl⟩)
 have e:M.map (fun p=>(kl p.1,ed p.2))=(es.toList.map (WideElems.rg P K R)).foldr DataW.insert []:=by
  have:=hD
  unfold mapD at this
  simpa using this
 rw[←e] at hm
 obtain⟨p,hp,hq⟩:=List.mem_map.1 hm
 exact⟨p,hp,by rw[←hq]⟩
theorem IsMapK.wpList_range (T:KeyT P K kv kl dom) (h:IsMapK P K R kl ed w b n M) (hM:KDom dom M) (hs:KSrt M) {t e:TypeId} (ht:P.underlying t=some (.map K e))
  {ops:Array Oper} {rest:List Oper} {o:Oper} {act:Act} {Q:Exit→Act→World→Prop} {m:Operand} (hg:o.guard=none) (hop:o.op=Op.range t m) (hm:act.eval m=.map (some b))
  (hK:∀w',Rng P K R kl ed w' b w.heap.size n M (fun _=>true) M.length→w.grownBy w' none→w'.heap.size=w.heap.size+1→wpList P ops Q rest (act.put o.dst (.pointer (some ⟨w.heap.size,0,none⟩))) w'):wpList P ops Q (o::rest) act w:=
 wpList_range_own w hg m t hop K e T.keyed ht R b n _ hm h fun w' h1 h2 h3=>hK w' ⟨_,by rw[mapD_size] at h1;exact h1,fun p hp=>by
  rw[mapD_has T (hM p hp) hM,(fnd_some hs).2 (show(p.1,p.2) ∈ M from hp)];rfl⟩ h2 h3
theorem Rng.wpList_next (T:KeyT P K kv kl dom) (E:ElemT R ev ed zv zd) {r cnt:Nat} {S:Int→Bool} (h:Rng P K R kl ed w b r n M S cnt) (hM:KDom dom M) (hs:KSrt M)
  {ops:Array Oper} {rest:List Oper} {o:Oper} {act:Act} {Q:Exit→Act→World→Prop} {it:Operand} (hg:o.guard=none) (hop:o.op=Op.next it false) (hit:act.eval it=.pointer (some ⟨r,0,none⟩))
  (hDone:(∀p ∈ M,S p.1=false)→wpList P ops Q rest (act.put o.dst (.tuple #[.bool false])) w)
  (hMore:∀(x:Int) (u:ε) (w':World) (cnt':Nat),(x,u) ∈ M→S x=true→Rng P K R kl ed w' b r n M (fun z=>S z&&!(z==x)) cnt'→cnt' < cnt→w.grownBy w' (some r)→w'.heap.size=w.heap.size→
   (Instr.entry (.pointer (some ⟨r,0,none⟩))).run P w'=.ok (.tuple #[kv x,ev u]) w'→wpList P ops Q rest (act.put o.dst (.tuple #[.bool true,kv x,ev u])) w'):wpList P ops Q (o::rest) act w:=by
 refine wpList_plain hg fun K' hK'=>?_
 obtain⟨left,hr,hl⟩:=h
 unfold Oper.wp
 rcases hr.next T.keyed o.type with⟨h1,h2,hrun⟩|⟨key,v,l,y,w',cnt',hkey,hlk,hv,hat,hrun,hrg,hlt,hgr,hsz,hen⟩
 ·simp only[execOp,hop,hit,Sem.run_bind,hrun,Result.andThen_ok]
  exact hK' _ _ (hDone fun p hp=>by rw[←hl p hp];exact h2 _)
 ·obtain ⟨⟨x,u⟩,hp,rfl⟩:=Rng.key hr hlk
  obtain rfl:key=kv x:=T.keyed.inj hkey (T.of x (hM _ hp))
  have hv2:v=ev u:=by
   have:=hat zd
   rw[mapD_at T (hM _ hp) hM,(fnd_some hs).2 hp] at this
   obtain⟨yd,ps⟩:=y
   simp only at this
   rw[←this] at hv
   exact E.inv v u ps hv
  subst hv2
  simp only[execOp,hop,hit,Sem.run_bind,hrun,Result.andThen_ok]
  refine hK' _ _ (hMore x u w' cnt' hp (by rw[←hl _ hp];exact hlk) ⟨_,hrg,fun p hp'=>?_⟩ hlt hgr hsz hen)
  rw[hl p hp',T.same (hM p hp') (hM _ hp)]
end
def Rbool:RdU
 |.bool x=>some (.lit (.bool x),[])
 |_=>none
def Rint:RdU
 |.int .i64 n=>some (.lit (.int .i64 n),[])
 |_=>none
theorem elem_bool:ElemT Rbool (fun _:Unit=>.bool true) (fun _=>.lit (.bool true)) (.bool false) (.lit (.bool false)) where
 of _:=⟨[],rfl⟩
 zero:=⟨[],rfl⟩
 inv v _ ps h:=by cases v <;> simp_all [Rbool]
 invz v ps h:=by cases v <;> simp_all [Rbool]
theorem elem_int:ElemT Rint (fun n:Int=>.int .i64 n) (fun n=>.lit (.int .i64 n)) (.int .i64 0) (.lit (.int .i64 0)) where
 of _:=⟨[],rfl⟩
 zero:=⟨[],rfl⟩
 inv v x ps h:=by
  unfold Rint at h
  split at h <;> simp_all
 invz v ps h:=by
  unfold Rint at h
  split at h <;> simp_all
def dI (x:Int):Prop:=(Lit.int .i64 x).wf=true
theorem keyT_int {P:Program} {K:TypeId} (hk:P.underlying K=some (.int .i64)):KeyT P K (.int .i64) (.int .i64) dI where
 keyed:=int_keyed hk
 of x hx:=keyOf_int_mk hk hx
 before x y _ _:=by simp[Lit.before]
 inj x y _ _ h:=by simpa using h
section
attribute [local irreducible] wpL
def SC (x:Int):List Value:=[.int .i64 1,.int .i64 x,.slice none 0 0,.slice none 0 0]
theorem SC_len (x:Int):(SC x).length=4:=rfl
abbrev scV (x:Int):Value:=.agg #[.int .i64 1,.int .i64 x,.slice none 0 0,.slice none 0 0]
theorem infoSC:(Tryz.prog.info? 99).map (fun i=>(i.zero,i.size,i.bytes))=some (some (.agg #[.int .i64 0,.int .i64 0,.slice none 0 0,.slice none 0 0]),4,64):=by kernel_rfl
theorem sc_one (x:Int):∀u ∈ SC x,u.oneCell'=true:=by intro u hu;simp[SC] at hu;rcases hu with rfl|rfl|rfl <;> rfl
abbrev OwnS:=OwnF SC 99 4
abbrev SlS (w:World) (B:Nat) (v:Value) (σ:List Int):Prop:=Sl w B 4 v σ.length (σ.flatMap SC)
abbrev stV (v:Value):Value:=.agg #[v]
theorem OwnF.objT {α:Type} {f:α→List Value} {e:TypeId} {sz:Nat} {w:World} {B g n c:Nat} {l:List α} (h:OwnF f e sz w B (.slice (some ⟨g,0,none⟩) n c) l):∃cs,w.heap[g]?=some (.cells cs e (0,0)):=by
 obtain⟨-,h2⟩:=h
 rcases h2 with⟨h2,-⟩|⟨g',cap,cur,hv,-,hh,-⟩
 ·cases h2
 ·simp only[Value.slice.injEq,Option.some.injEq,Addr.mk.injEq,and_true] at hv
  obtain⟨rfl,-,-⟩:=hv
  exact⟨cur,hh⟩
theorem flat_setS:∀(l:List Int) (k:Nat) (x:Int),k < l.length→(((((l.flatMap SC).set (k*4) (.int .i64 1)).set (k*4+1) (.int .i64 x)).set (k*4+2) (.slice none 0 0)).set (k*4+3) (.slice none 0 0))=(l.set k x).flatMap SC
 |[],k,x,h=>by simp at h
 |y::l,0,x,h=>by simp[SC]
 |y::l,k+1,x,h=>by
  have ih:=flat_setS l k x (by simpa using h)
  rw[show (k+1)*4=k*4+1+1+1+1 by omega]
  simp only[SC,List.flatMap_cons,List.cons_append,List.nil_append,List.set_cons_succ,List.cons.injEq,true_and]
  exact ih
theorem ownS_set {w:World} {B g n c:Nat} {l:List Int} (h:OwnS w B (.slice (some ⟨g,0,none⟩) n c) l) {k:Nat} (hk:k < l.length) (x:Int):
  OwnS ((((w.setCell ⟨g,k*4,none⟩ (.int .i64 1)).setCell ⟨g,k*4+1,none⟩ (.int .i64 x)).setCell ⟨g,k*4+2,none⟩ (.slice none 0 0)).setCell ⟨g,k*4+3,none⟩ (.slice none 0 0)) B (.slice (some ⟨g,0,none⟩) n c) (l.set k x):=by
 have hn:=OwnF.len h
 subst hn
 have:=ownsRow_set (ownsRow_set (ownsRow_set (ownsRow_set h (k*4) (.int .i64 1)) (k*4+1) (.int .i64 x)) (k*4+2) (.slice none 0 0)) (k*4+3) (.slice none 0 0)
 rw[flat_setS l k x hk] at this
 unfold OwnS OwnF
 rw[List.length_set]
 exact this
theorem l_All (v:Value) (σ:List Int) (w:World) (h:SlS w w.heap.size v σ) (hl:σ.length≤1000):
  Calls Tryz.prog 75 #[.agg #[v]] w fun e w'=>∃v',e=.returned v'∧OwnS w' w.heap.size v' σ∧Below w.heap.size w w':=by
 obtain⟨a,c,rfl,hm⟩:=h.ex
 have b0:Below w.heap.size w (w.alloc (.cells #[.slice a σ.length c] 44)):=(Below.refl _ w).alloc (Nat.le_refl _) _
 have r0:=row_new w (.cells #[.slice a σ.length c] 44)
 have h1:=h.below b0
 have hz0:w.heap.size < (w.alloc (.cells #[.slice a σ.length c] 44)).heap.size:=by simp
 go_enter Tryz.func75,Tryz.ntmps75
 go_wp2
 generalize w.alloc (.cells #[.slice a σ.length c] 44)=W at *
 have y0:=row_cell r0 0
 simp at y0
 have H:=hid h1
 have B0:=hid b0
 clear h h1 b0 r0
 refine wp_rN (W.heap.size) [0,1,0,3,0,1,2,0] (.fin [0,1,2,4,5,3,6,7]) (by kernel_rfl) ?_
 simp only[wpT,selX,guardAt,sD,sE,sF,sG]
 repeat first|(refine wpL_p fun K hK=>?_;go_simp;refine hK _ _ ?_;clear hK K)|(apply wpL_s;(intro w2 hw2;have hk1:=hw2.cell;have hk3:=hw2.1;clear hw2;go_simp;with_reducible rfl);simp only[Act.put,sA,sB,sC])
 refine wpL_k (fun K hK=>?_)
 refine wp_makeF (f:=SC) (e:=99) (sz:=4) (B:=W.heap.size) _ _ _ rfl _ 64 Tryz.underlying42 infoSC rfl rfl (by first|omega|(simp <;> omega)) (by first|omega|(simp <;> omega)) (by first|omega|(simp <;> omega)) ?_
 intro w1 o1 b1 z1
 refine hK _ _ (RN.KeepsN.of_below b1) ?_
 have b1:Below W.heap.size W w1:=(Below.refl _ W).drew.trans b1
 have z1:W.heap.size+1≤w1.heap.size:=z1
 clear hK K
 refine wpL_e (fun K hK=>?_)
 refine wp_appA _ _ _ rfl _ 64 Tryz.underlying42 infoSC rfl o1 σ rfl (H.out.below (b1.mono (Nat.le_of_lt hz0))) (by first|omega|(simp <;> omega)) rfl rfl SC_len sc_one (by first|omega|(simp <;> omega)) (by first|omega|(simp <;> omega)) ?_
 intro v' w2 o2 g2
 refine hK _ _ ?_
 clear hK K
 have b2:=b1.trans (g2.below b1.size fun k h=>(o1.lt k h).1)
 have O2:=hid ((show OwnS w2 W.heap.size v' σ from o2).base (Nat.le_of_lt hz0))
 have B2:=hid (B0.out.trans (b2.mono (Nat.le_of_lt hz0)))
 clear o1 b1 g2 o2 b2
 repeat first|(refine wpL_p fun K hK=>?_;go_simp;refine hK _ _ ?_;clear hK K)|refine wpL_nil ?_
 go_wp2
 go_ret
 exact⟨v',rfl,O2.out,B2.out⟩
theorem l_Of (v:Value) (σ:List Int) (w:World) (h:SlS w w.heap.size v σ) (hl:σ.length≤1000):
  Calls Tryz.prog 83 #[v] w fun e w'=>∃v',e=.returned (.agg #[v'])∧OwnS w' w.heap.size v' σ∧Below w.heap.size w w':=by
 obtain⟨a,c,rfl,hm⟩:=h.ex
 have b0:Below w.heap.size w (w.alloc (.cells #[.slice none 0 0] 44)):=(Below.refl _ w).alloc (Nat.le_refl _) _
 have r0:=row_new w (.cells #[.slice none 0 0] 44)
 have h1:=h.below b0
 have hz0:w.heap.size < (w.alloc (.cells #[.slice none 0 0] 44)).heap.size:=by simp
 go_enter Tryz.func83,Tryz.ntmps83
 go_wp2_with (at_make;refine wpList_makeF (f:=SC) (e:=99) (sz:=4) (B:=w.heap.size+1) rfl _ _ _ rfl _ 64 Tryz.underlying42 infoSC rfl rfl (by first|omega|(simp <;> omega)) (by first|omega|(simp <;> omega)) (by first|omega|(simp <;> omega)) ?_;refine Stop.halt ?_)
 refine Stop.go ?_
 generalize w.alloc (.cells #[.slice none 0 0] 44)=W at *
 intro w1 o1 b1 z1
 have r1:=row_below r0 b1 (by omega)
 have src:=h1.below (b1.mono (by omega))
 have hzW:w.heap.size+1≤W.heap.size:=by omega
 go_wp2_with (at_builtin;refine wpList_appA rfl _ _ _ rfl _ 64 Tryz.underlying42 infoSC rfl o1 σ rfl src (by first|omega|(simp <;> omega)) rfl rfl SC_len sc_one (by first|omega|(simp <;> omega)) (by first|omega|(simp <;> omega)) ?_;refine Stop.halt ?_)
 refine Stop.go ?_
 intro v' w2 o2 g2
 have b2:=b1.trans (g2.below (by omega) fun k h=>(o1.lt k h).1)
 have r2:=row_below r0 b2 (by omega)
 have o2:OwnS w2 (w.heap.size+1) v' σ:=o2
 obtain⟨a',c',rfl,-⟩:=(OwnF.sl o2).ex
 have y0:=row_cell r2 0
 simp at y0
 have yf:=row_free r2 0
 have l2:=row_lt r2
 have o3:=OwnF.set (j:=0) (u:=.slice a' σ.length c') o2 (show w.heap.size < w.heap.size+1 by omega)
 have r3:=row_set r2 0 (.slice a' σ.length c')
 have b3:Below w.heap.size w (w2.setCell ⟨w.heap.size,0,none⟩ (.slice a' σ.length c')):=(b0.trans (b2.mono (by omega))).setCell (p:=⟨w.heap.size,0,none⟩) (Nat.le_refl _) _
 have R3:=hid r3
 clear r0 r1 r2 r3 o1 o2 b1 b2 g2 h h1 src z1
 go_wp2
 have c0:=row_cell R3.out 0
 simp at c0
 refine bodyPost_ret (v:=.agg #[.slice a' σ.length c']) (by simp[results,Tryz.results83,go_sem,c0]) rfl ?_
 exact⟨_,rfl,o3.base (by omega),b3⟩
theorem l_At (v:Value) (σ:List Int) (i:Nat) (x:Int) (w:World) (h:SlS w w.heap.size v σ) (hx:σ[i]?=some x):
  Calls Tryz.prog 78 #[.agg #[v],.int .i64 i] w fun e w'=>e=.returned (.tuple #[scV x,.bool true])∧Below w.heap.size w w':=by
 obtain⟨a,c,rfl,hm⟩:=h.ex
 have hil:=(List.getElem?_eq_some_iff.1 hx).1
 obtain⟨b,off,y,rfl,hb,hy,hc⟩:=h.atF SC_len rfl hil
 rw[hx] at hy
 obtain rfl:=Option.some.inj hy
 have c0:=hc 0 (by decide)
 have c1:=hc 1 (by decide)
 have c2:=hc 2 (by decide)
 have c3:=hc 3 (by decide)
 simp[SC] at c0 c1 c2 c3
 have q1:decide ((i:Int) < 0)=false:=by simp
 have q2:decide ((σ.length:Int)≤(i:Int))=false:=by simp;omega
 clear hc h hx hy
 go_enter Tryz.func78,Tryz.ntmps78
 go_wp2
 refine bodyPost_ret (v:=.tuple #[scV x,.bool true]) (by simp[results,Tryz.results78,go_sem]) rfl ?_
 exact⟨rfl,((Below.refl _ w).alloc (Nat.le_refl _) _).alloc (by simp) _⟩
theorem l_With (v:Value) (σ:List Int) (i:Nat) (x:Int) (w:World) (h:SlS w w.heap.size v σ) (hl:σ.length≤1000) (hi:i < σ.length):
  Calls Tryz.prog 47 #[.agg #[v],.int .i64 i,scV x] w fun e w'=>∃v',e=.returned (.agg #[v'])∧OwnS w' w.heap.size v' (σ.set i x)∧Below w.heap.size w w':=by
 obtain⟨a,c,rfl,hm⟩:=h.ex
 have q1:decide ((i:Int) < 0)=false:=by simp
 have q2:decide ((σ.length:Int)≤(i:Int))=false:=by simp;omega
 have b0:Below w.heap.size w (((w.alloc (.cells #[.slice a σ.length c] 44)).alloc (.cells #[.int .i64 1,.int .i64 x,.slice none 0 0,.slice none 0 0] 99)).alloc (.cells #[.slice none 0 0] 44)):=(((Below.refl _ w).alloc (Nat.le_refl _) _).alloc (by simp) _).alloc (by simp;omega) _
 go_enter Tryz.func47,Tryz.ntmps47
 go_wp2_with fail
 have r0:=row_new ((w.alloc (.cells #[.slice a σ.length c] 44)).alloc (.cells #[.int .i64 1,.int .i64 x,.slice none 0 0,.slice none 0 0] 99)) (.cells #[.slice none 0 0] 44)
 have r1:=row_old (o:=.cells #[.slice none 0 0] 44) (row_new (w.alloc (.cells #[.slice a σ.length c] 44)) (.cells #[.int .i64 1,.int .i64 x,.slice none 0 0,.slice none 0 0] 99))
 simp only[World.size_alloc] at r0 r1
 have hz:(((w.alloc (.cells #[.slice a σ.length c] 44)).alloc (.cells #[.int .i64 1,.int .i64 x,.slice none 0 0,.slice none 0 0] 99)).alloc (.cells #[.slice none 0 0] 44)).heap.size=w.heap.size+3:=by simp
 generalize ((w.alloc (.cells #[.slice a σ.length c] 44)).alloc (.cells #[.int .i64 1,.int .i64 x,.slice none 0 0,.slice none 0 0] 99)).alloc (.cells #[.slice none 0 0] 44)=W at *
 refine(l_Of _ σ W ((h.below b0).more b0.size) hl).mono ?_
 rintro e W1 ⟨v',rfl,o1,b1⟩
 obtain⟨g,cap,hv,hg,hgl⟩:=(OwnF.form o1).resolve_left (fun h=>by rw[h.2] at hi;simp at hi)
 subst hv
 have r0:=row_below r0 b1 (by omega)
 have r1:=row_below r1 b1 (by omega)
 have y:=row_cell r1
 have y0:=y 0
 have y1:=y 1
 have y2:=y 2
 have y3:=y 3
 simp at y0 y1 y2 y3
 have yr:=row_cell r0 0
 simp at yr
 have yf:=row_free r0 0
 have l0:=row_lt r0
 have l1:=row_lt r1
 have hzz:W.heap.size≤W1.heap.size:=b1.size
 obtain⟨cs,hgc⟩:=OwnF.objT o1
 have gf:∀j,W1.frozen? ⟨g,j,none⟩=false:=fun j=>row_free hgc j
 obtain⟨bq,oq,z,hq,-,-,hz4⟩:=(OwnF.sl o1).atF SC_len rfl hi
 simp only[Option.some.injEq,Addr.mk.injEq,and_true] at hq
 obtain⟨rfl,rfl⟩:=hq
 have g0:=hz4 0 (by decide)
 have g1:=hz4 1 (by decide)
 have g2:=hz4 2 (by decide)
 have g3:=hz4 3 (by decide)
 simp[SC] at g0 g1 g2 g3
 have gl:=row_lt hgc
 clear hgc hz4
 have oF:=OwnF.set (j:=0) (u:=.slice (some ⟨g,0,none⟩) σ.length cap) (ownS_set o1 hi x) (show w.heap.size+2 < W.heap.size by omega)
 have bF:=((((b1.setCell (p:=⟨g,i*4,none⟩) hg (.int .i64 1)).setCell (p:=⟨g,i*4+1,none⟩) hg (.int .i64 x)).setCell (p:=⟨g,i*4+2,none⟩) hg (.slice none 0 0)).setCell (p:=⟨g,i*4+3,none⟩) hg (.slice none 0 0))
 have rF:=row_set (row_other (j:=i*4+3) (v:=.slice none 0 0) (row_other (j:=i*4+2) (v:=.slice none 0 0) (row_other (j:=i*4+1) (v:=.int .i64 x) (row_other (j:=i*4) (v:=.int .i64 1) r0 (show g≠w.heap.size+2 by omega)) (show g≠w.heap.size+2 by omega)) (show g≠w.heap.size+2 by omega)) (show g≠w.heap.size+2 by omega)) 0 (.slice (some ⟨g,0,none⟩) σ.length cap)
 have BF:=hid ((b0.trans (bF.mono (by omega))).setCell (p:=⟨w.heap.size+2,0,none⟩) (show w.heap.size≤w.heap.size+2 by omega) (.slice (some ⟨g,0,none⟩) σ.length cap))
 have OF:=hid oF
 have RF:=hid rF
 clear y r0 r1 b0 b1 h o1 oF bF rF
 go_wp2_with fail
 have c0:=row_cell (row_old (o:=.cells #[.slice (some ⟨g,0,none⟩) σ.length cap] 44) RF.out) 0
 simp at c0
 refine bodyPost_ret (v:=.agg #[.slice (some ⟨g,0,none⟩) σ.length cap]) (by simp[results,Tryz.results47,go_sem,c0]) rfl ?_
 exact⟨_,rfl,by have:=(OwnF.alloc OF.out (.cells #[.slice (some ⟨g,0,none⟩) σ.length cap] 44)).base (show w.heap.size≤W.heap.size by omega);simpa using this,BF.out.alloc BF.out.size _⟩
end
