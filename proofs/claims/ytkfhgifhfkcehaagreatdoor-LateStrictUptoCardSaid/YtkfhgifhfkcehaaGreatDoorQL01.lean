/- Parts of the proof, merged by program out of 1 texts (MapK): the first: Maps in memory whose keys stand for whole numbers, told as lists that rise by them: what is read, what a store makes of it, how a range goes over it. Conditions: those of each theorem, as typed. -/
import Derived.Maps.OwnSet
import Derived.Maps.RangeWalk
set_option linter.unusedVariables false
set_option linter.unusedSimpArgs false
set_option linter.unusedSectionVars false
set_option maxRecDepth 100000
set_option maxHeartbeats 4000000
namespace Go.Proofs.YtkfhgifhfkcehaaGreatDoor
open Go.Maps Go.RowKit
abbrev DU:=DataW Unit
abbrev RdU:=Value→Option (DU×List MemPlace)
section
variable {ε:Type}
def KSrt (M:List (Int×ε)):Prop:=M.Pairwise fun x y=>x.1 < y.1
def upd (a:Int) (v:ε):List (Int×ε)→List (Int×ε)
 |[]=>[(a,v)]
 |(x,u)::r=>if x=a then(a,v)::r else if a < x then(a,v)::(x,u)::r else(x,u)::upd a v r
def fnd (a:Int):List (Int×ε)→Option ε
 |[]=>none
 |(x,u)::r=>if x=a then some u else fnd a r
theorem keys_upd {a:Int} {v:ε} {z:Int}:∀{M:List (Int×ε)},(∃u,(z,u) ∈ upd a v M)↔z=a∨∃u,(z,u) ∈ M
 |[]=>by simp[upd]
 |(x,u)::r=>by
  have ih:=keys_upd (a:=a) (v:=v) (z:=z) (M:=r)
  unfold upd
  split
  ·rename_i h
   subst h
   simp only[List.mem_cons,Prod.mk.injEq]
   constructor
   ·rintro ⟨y,⟨h,_⟩|h⟩
    ·exact .inl h
    ·exact .inr ⟨y,.inr h⟩
   ·rintro (h|⟨y,⟨h,_⟩|h⟩)
    ·exact ⟨v,.inl ⟨h,rfl⟩⟩
    ·exact ⟨v,.inl ⟨h,rfl⟩⟩
    ·exact ⟨y,.inr h⟩
  ·split
   ·simp only[List.mem_cons,Prod.mk.injEq]
    constructor
    ·rintro ⟨y,⟨h,_⟩|h⟩
     ·exact .inl h
     ·exact .inr ⟨y,h⟩
    ·rintro (h|⟨y,h⟩)
     ·exact ⟨v,.inl ⟨h,rfl⟩⟩
     ·exact ⟨y,.inr h⟩
   ·simp only[List.mem_cons,Prod.mk.injEq]
    constructor
    ·rintro ⟨y,⟨h,h'⟩|h⟩
     ·exact .inr ⟨y,.inl ⟨h,h'⟩⟩
     ·rcases ih.1 ⟨y,h⟩ with h|⟨y',h⟩
      ·exact .inl h
      ·exact .inr ⟨y',.inr h⟩
    ·rintro (h|⟨y,⟨h,h'⟩|h⟩)
     ·obtain ⟨y,h⟩:=ih.2 (.inl h);exact⟨y,.inr h⟩
     ·exact ⟨y,.inl ⟨h,h'⟩⟩
     ·obtain ⟨y,h⟩:=ih.2 (.inr ⟨y,h⟩);exact⟨y,.inr h⟩
theorem mem_upd {a:Int} {v:ε} {p:Int×ε}:∀{M:List (Int×ε)},KSrt M→(p ∈ upd a v M↔p=(a,v)∨(p ∈ M∧p.1≠a))
 |[],_=>by simp[upd]
 |(x,u)::r,h=>by
  obtain⟨h1,h2⟩:=List.pairwise_cons.1 h
  have ih:=mem_upd (a:=a) (v:=v) (p:=p) h2
  unfold upd
  split
  ·rename_i hx
   subst hx
   simp only[List.mem_cons]
   constructor
   ·rintro (h|h)
    ·exact .inl h
    ·exact .inr ⟨.inr h,by have:=h1 p h;simp only at this;omega⟩
   ·rintro (h|⟨h|h,hne⟩)
    ·exact .inl h
    ·exact absurd (by rw[h]) hne
    ·exact .inr h
  ·rename_i hx
   split
   ·rename_i hlt
    simp only[List.mem_cons]
    constructor
    ·rintro (h|h|h)
     ·exact .inl h
     ·exact .inr ⟨.inl h,by rw[h];exact hx⟩
     ·exact .inr ⟨.inr h,by have:=h1 p h;simp only at this;omega⟩
    ·rintro (h|⟨h,_⟩)
     ·exact .inl h
     ·exact .inr h
   ·simp only[List.mem_cons,ih]
    constructor
    ·rintro (h|h|⟨h,hne⟩)
     ·exact .inr ⟨.inl h,by rw[h];exact hx⟩
     ·exact .inl h
     ·exact .inr ⟨.inr h,hne⟩
    ·rintro (h|⟨h|h,hne⟩)
     ·exact .inr (.inl h)
     ·exact .inl h
     ·exact .inr (.inr ⟨h,hne⟩)
theorem srt_upd {a:Int} {v:ε}:∀{M:List (Int×ε)},KSrt M→KSrt (upd a v M)
 |[],_=>by simp[upd,KSrt]
 |(x,u)::r,h=>by
  obtain⟨h1,h2⟩:=List.pairwise_cons.1 h
  unfold upd
  split
  ·rename_i hx
   subst hx
   exact List.pairwise_cons.2 ⟨h1,h2⟩
  ·rename_i hx
   split
   ·rename_i hlt
    refine List.pairwise_cons.2 ⟨fun z hz=>?_,h⟩
    rcases List.mem_cons.1 hz with rfl|hz
    ·exact hlt
    ·have:=h1 z hz;simp only at this ⊢;omega
   ·refine List.pairwise_cons.2 ⟨fun z hz=>?_,srt_upd h2⟩
    rcases(mem_upd h2).1 hz with rfl|⟨hz,_⟩
    ·simp only;omega
    ·exact h1 z hz
theorem fnd_some {a:Int} {u:ε}:∀{M:List (Int×ε)},KSrt M→(fnd a M=some u↔(a,u) ∈ M)
 |[],_=>by simp[fnd]
 |(x,y)::r,h=>by
  obtain⟨h1,h2⟩:=List.pairwise_cons.1 h
  unfold fnd
  split
  ·rename_i hx
   subst hx
   simp only[Option.some.injEq,List.mem_cons,Prod.mk.injEq,true_and]
   constructor
   ·exact fun h=>.inl h.symm
   ·rintro (h|h)
    ·exact h.symm
    ·have:=h1 _ h;simp only at this;omega
  ·rename_i hx
   rw[fnd_some h2]
   simp only[List.mem_cons,Prod.mk.injEq]
   constructor
   ·exact .inr
   ·rintro (⟨h,_⟩|h)
    ·exact absurd h.symm hx
    ·exact h
theorem fnd_none {a:Int}:∀{M:List (Int×ε)},fnd a M=none↔∀u,(a,u) ∉ M
 |[]=>by simp[fnd]
 |(x,y)::r=>by
  unfold fnd
  split
  ·rename_i hx
   subst hx
   simp only[reduceCtorEq,false_iff]
   exact fun h=>h y (by simp)
  ·rename_i hx
   rw[fnd_none]
   constructor
   ·intro h u hm
    rcases List.mem_cons.1 hm with e|e
    ·simp only[Prod.mk.injEq] at e;exact hx e.1.symm
    ·exact h u e
   ·exact fun h u hm=>h u (by simp[hm])
theorem fnd_upd_same {a:Int} {v:ε} {M:List (Int×ε)} (h:KSrt M):fnd a (upd a v M)=some v:=(fnd_some (srt_upd h)).2 ((mem_upd h).2 (.inl rfl))
theorem fnd_upd_other {a c:Int} {v:ε} {M:List (Int×ε)} (h:KSrt M) (hc:c≠a):fnd c (upd a v M)=fnd c M:=by
 cases e:fnd c M with
 |some u=>exact(fnd_some (srt_upd h)).2 ((mem_upd h).2 (.inr ⟨(fnd_some h).1 e,hc⟩))
 |none=>
  rw[fnd_none] at e ⊢
  intro u hm
  rcases(mem_upd h).1 hm with e'|⟨hm,_⟩
  ·simp only[Prod.mk.injEq] at e';exact hc e'.1
  ·exact e u hm
theorem length_upd_le {a:Int} {v:ε}:∀{M:List (Int×ε)},(upd a v M).length≤M.length+1
 |[]=>by simp[upd]
 |(x,u)::r=>by
  have:=length_upd_le (a:=a) (v:=v) (M:=r)
  unfold upd
  split
  ·simp
  ·split <;> simp <;> omega
end
structure KeyT (P:Program) (K:TypeId) (kv:Int→Value) (kl:Int→Lit) (dom:Int→Prop):Prop where
 keyed:Keyed P K
 of:∀x,dom x→keyOf P K (kv x)=some (kl x)
 before:∀x y,dom x→dom y→((kl x).before (kl y)=true↔x < y)
 inj:∀x y,dom x→dom y→kl x=kl y→x=y
section
variable {P:Program} {K:TypeId} {kv:Int→Value} {kl:Int→Lit} {dom:Int→Prop} {ε:Type}
theorem KeyT.key (T:KeyT P K kv kl dom) {x:Int} (hx:dom x):WideAt.IsKeyLit (kl x):=T.keyed.key (T.of x hx)
theorem KeyT.self (T:KeyT P K kv kl dom) {x:Int} (hx:dom x):(kl x).sameKey (kl x)=true:=WideAt.sameKey_self (T.key hx)
theorem KeyT.same (T:KeyT P K kv kl dom) {x y:Int} (hx:dom x) (hy:dom y):(kl x).sameKey (kl y)=(x==y):=by
 by_cases h:x=y
 ·subst h;rw[T.self hx];simp
 ·rw [sameKey_ne fun e=>h (T.inj x y hx hy e)];simp[h]
def KDom (dom:Int→Prop) (M:List (Int×ε)):Prop:=∀p ∈ M,dom p.1
theorem KDom.upd {a:Int} {v:ε} {M:List (Int×ε)} (h:KDom dom M) (ha:dom a):KDom dom (upd a v M):=fun p hp=>by
 rcases keys_upd.1 ⟨p.2,hp⟩ with h'|⟨u,h'⟩
 ·rw [h'];exact ha
 ·exact h (p.1,u) h'
def mapD (kl:Int→Lit) (ed:ε→DU) (M:List (Int×ε)):DU:=.map (M.map fun p=>(kl p.1,ed p.2))
variable {ed:ε→DU} {M:List (Int×ε)}
theorem mapD_size:Maps.size (mapD kl ed M)=M.length:=by simp[mapD,Maps.size]
theorem mapD_find (T:KeyT P K kv kl dom) {a:Int} (ha:dom a):∀{M:List (Int×ε)},KDom dom M→(M.map fun p=>(kl p.1,ed p.2)).find? (fun p=>p.1.sameKey (kl a))=(fnd a M).map fun u=>(kl a,ed u)
 |[],_=>rfl
 |(x,u)::r,h=>by
  have hx:dom x:=h (x,u) (by simp)
  have ih:=mapD_find T ha (M:=r) fun p hp=>h p (by simp[hp])
  simp only[List.map_cons,List.find?_cons,T.same hx ha,fnd]
  by_cases e:x=a
  ·subst e;simp
  ·have:(x==a)=false:=by simpa using e
   rw[this,if_neg e]
   exact ih
theorem mapD_at (T:KeyT P K kv kl dom) {a:Int} (ha:dom a) (h:KDom dom M) (z:DU):(mapD kl ed M).atKey (kl a) z=match fnd a M with|some u=>ed u|none=>z:=by
 unfold mapD DataW.atKey
 simp only
 rw[mapD_find T ha h]
 cases fnd a M <;> rfl
theorem mapD_has (T:KeyT P K kv kl dom) {a:Int} (ha:dom a) (h:KDom dom M):Maps.has (mapD kl ed M) (kl a)=(fnd a M).isSome:=by
 have h1:=mapD_find (ed:=ed) T ha h
 unfold mapD Maps.has
 simp only
 rw[show ((M.map fun p=>(kl p.1,ed p.2)).any fun p=>p.1.sameKey (kl a))=((M.map fun p=>(kl p.1,ed p.2)).find? fun p=>p.1.sameKey (kl a)).isSome from(List.isSome_find? ..).symm,h1]
 cases fnd a M <;> rfl
theorem mapD_put (T:KeyT P K kv kl dom) {a:Int} (ha:dom a) (v:ε) (h:KDom dom M) (hs:KSrt M):(mapD kl ed M).put (kl a) (ed v)=mapD kl ed (upd a v M):=by
 unfold mapD DataW.put
 simp only[DataW.map.injEq]
 induction M with
 |nil=>rfl
 |cons q r ih=>
  obtain⟨x,u⟩:=q
  have hx:dom x:=h (x,u) (by simp)
  have hr:KDom dom r:=fun p hp=>h p (by simp[hp])
  obtain⟨h1,h2⟩:=List.pairwise_cons.1 hs
  have keep:a≤x→(r.map fun p=>(kl p.1,ed p.2)).filter (fun p=>!p.1.sameKey (kl a))=r.map fun p=>(kl p.1,ed p.2):=fun hle=>by
   refine List.filter_eq_self.2 fun p hp=>?_
   obtain⟨y,hy,rfl⟩:=List.mem_map.1 hp
   have:=h1 y hy
   simp only at this ⊢
   rw[T.same (hr y hy) ha]
   have:(y.1==a)=false:=by rw[beq_eq_false_iff_ne];omega
   rw[this]
   rfl
  unfold upd
  by_cases e:x=a
  ·subst e
   simp only[List.map_cons,List.filter_cons,T.self hx,Bool.not_true,Bool.false_eq_true,if_false,if_true]
   rw[keep (Int.le_refl _)]
   cases r with
   |nil=>rfl
   |cons y r=>
    have hy:dom y.1:=hr y (by simp)
    have hlt:(kl x).before (kl y.1)=true:=(T.before x y.1 hx hy).2 (h1 y (by simp))
    simp only[List.map_cons,DataW.insert,hlt,if_true]
  ·have e1:(kl x).sameKey (kl a)=false:=by rw[T.same hx ha];simpa using e
   simp only[List.map_cons,List.filter_cons,e1,Bool.not_false,if_true,if_neg e]
   by_cases hlt:a < x
   ·rw [keep (Int.le_of_lt hlt),if_pos hlt]
    simp only[DataW.insert,(T.before a x ha hx).2 hlt,if_true,List.map_cons]
   ·rw [if_neg hlt]
    have hb:¬(kl a).before (kl x)=true:=fun hb=>hlt ((T.before a x ha hx).1 hb)
    simp only[DataW.insert,if_neg hb,List.map_cons]
    rw[ih hr h2]
structure ElemT (R:RdU) (ev:ε→Value) (ed:ε→DU) (zv:Value) (zd:DU):Prop where
 of:∀x,∃ps,R (ev x)=some (ed x,ps)
 zero:∃ps,R zv=some (zd,ps)
 inv:∀v x ps,R v=some (ed x,ps)→v=ev x
 invz:∀v ps,R v=some (zd,ps)→v=zv
def IsMapK (P:Program) (K:TypeId) (R:RdU) (kl:Int→Lit) (ed:ε→DU) (w:World) (b n:Nat) (M:List (Int×ε)):Prop:=w.ownsMap P K R b n (mapD kl ed M)
variable {R:RdU} {ev:ε→Value} {zv:Value} {zd:DU} {w w':World} {b n:Nat}
theorem IsMapK.lt (h:IsMapK P K R kl ed w b n M):b < w.heap.size:=World.ownsMap.lt h
theorem IsMapK.below {B:Nat} (h:IsMapK P K R kl ed w b n M) (hb:Below B w w') (hlt:b < B):IsMapK P K R kl ed w' b n M:=by
 obtain⟨es,clock,h1,h2⟩:=h
 exact⟨es,clock,(hb.block b hlt).trans h1,h2⟩
theorem IsMapK.obj (h:IsMapK P K R kl ed w b n M) (hw:w'.heap[b]?=w.heap[b]?):IsMapK P K R kl ed w' b n M:=by
 obtain⟨es,clock,h1,h2⟩:=h
 exact⟨es,clock,hw.trans h1,h2⟩
theorem IsMapK.alloc (h:IsMapK P K R kl ed w b n M) (o:Obj):IsMapK P K R kl ed (w.alloc o) b n M:=World.ownsMap.alloc h o
theorem IsMapK.drew (h:IsMapK P K R kl ed w b n M):IsMapK P K R kl ed w.drew b n M:=h
theorem IsMapK.set (h:IsMapK P K R kl ed w b n M) {g j:Nat} {v:Value} (hg:b≠g):IsMapK P K R kl ed (w.setCell ⟨g,j,none⟩ v) b n M:=World.ownsMap.setCell h (a:=⟨g,j,none⟩) hg v
theorem IsMapK.mono {n':Nat} (h:IsMapK P K R kl ed w b n M) (hn:n≤n'):IsMapK P K R kl ed w b n' M:=World.ownsMap.mono h hn
theorem IsMapK.made (w:World):IsMapK P K R kl ed (w.alloc (.map #[] 0)) w.heap.size 0 []:=World.ownsMap_made w P K R
theorem IsMapK.length_le (h:IsMapK P K R kl ed w b n M):M.length≤n:=by have:=World.ownsMap.size_le h;rwa [mapD_size] at this
theorem IsMapK.look (T:KeyT P K kv kl dom) (E:ElemT R ev ed zv zd) (h:IsMapK P K R kl ed w b n M) (hM:KDom dom M) {t e:TypeId} (ht:P.underlying t=some (.map K e)) (hz:(zeroValue e).run P w=.ok zv w) {a:Int} (ha:dom a):
  (Instr.lookup t (.map (some b)) (kv a) false).run P w=.ok (match fnd a M with|some u=>ev u|none=>zv) w:=by
 obtain⟨zp,hzd⟩:=E.zero
 obtain⟨v,ps,hrun,hv⟩:=World.ownsMap.lookup h T.keyed ht hz hzd (T.of a ha)
 rw[mapD_at T ha hM] at hv
 rw[hrun]
 cases hf:fnd a M with
 |some u=>rw[hf] at hv;rw[E.inv v u ps hv]
 |none=>rw[hf] at hv;rw[E.invz v ps hv]
theorem IsMapK.lookOk (T:KeyT P K kv kl dom) (E:ElemT R ev ed zv zd) (h:IsMapK P K R kl ed w b n M) (hM:KDom dom M) {t e:TypeId} (ht:P.underlying t=some (.map K e)) (hz:(zeroValue e).run P w=.ok zv w) {a:Int} (ha:dom a):
  (Instr.lookup t (.map (some b)) (kv a) true).run P w=.ok (.tuple #[match fnd a M with|some u=>ev u|none=>zv,.bool (fnd a M).isSome]) w:=by
 obtain⟨zp,hzd⟩:=E.zero
 obtain⟨v,ps,hrun,hv⟩:=World.ownsMap.look_ok h T.keyed ht hz hzd (T.of a ha)
 rw[mapD_at T ha hM] at hv
 rw[hrun,mapD_has T ha hM]
 cases hf:fnd a M with
 |some u=>rw[hf] at hv;rw[E.inv v u ps hv]
 |none=>rw[hf] at hv;rw[E.invz v ps hv]
theorem IsMapK.len (h:IsMapK P K R kl ed w b n M) {t e:TypeId} (ht:P.underlying t=some (.map K e)) (ty:TypeId):(Builtin.len_ #[t] ty #[.map (some b)]).run P w=.ok (.int .i64 M.length) w:=by
 have:=World.ownsMap.len h ht ty
 rwa [mapD_size] at this
theorem IsMapK.wp_store (T:KeyT P K kv kl dom) (E:ElemT R ev ed zv zd) (h:IsMapK P K R kl ed w b n M) (hM:KDom dom M) (hs:KSrt M) {t e:TypeId} (ht:P.underlying t=some (.map K e)) (hn:n < maxLen) {a:Int} (ha:dom a) {v:ε}
  {o:Oper} {act:Act} {Q:Exit→Act→World→Prop} {K':Act→World→Prop} {m x y:Operand} (hop:o.op=Op.mapUpdate t m x y) (hm:act.eval m=.map (some b)) (hx:act.eval x=kv a) (hy:act.eval y=ev v)
  (hK:∀w',IsMapK P K R kl ed w' b (n+1) (upd a v M)→w.mapTurned w' b→K' (act.put o.dst undef) w'):o.wp P act w K' Q:=by
 obtain⟨ps,hv⟩:=E.of v
 obtain⟨w',hrun,h1,h2⟩:=World.ownsMap.store h T.keyed ht hn (T.of a ha) hv
 rw[mapD_put T ha v hM hs] at h1
 unfold Oper.wp
 simp only[execOp,hop,hm,hx,hy,Sem.run_bind,hrun,Result.andThen_ok,Sem.run_pure]
 exact hK w' h1 h2
theorem IsMapK.wpList_store (T:KeyT P K kv kl dom) (E:ElemT R ev ed zv zd) (h:IsMapK P K R kl ed w b n M) (hM:KDom dom M) (hs:KSrt M) {t e:TypeId} (ht:P.underlying t=some (.map K e)) (hn:n < maxLen) {a:Int} (ha:dom a) {v:ε}
  {ops:Array Oper} {rest:List Oper} {o:Oper} {act:Act} {Q:Exit→Act→World→Prop} {m x y:Operand} (hg:o.guard=none) (hop:o.op=Op.mapUpdate t m x y) (hm:act.eval m=.map (some b)) (hx:act.eval x=kv a) (hy:act.eval y=ev v)
  (hK:∀w',IsMapK P K R kl ed w' b (n+1) (upd a v M)→w.mapTurned w' b→wpList P ops Q rest (act.put o.dst undef) w'):wpList P ops Q (o::rest) act w:=
 wpList_plain hg fun _ hK'=>h.wp_store T E hM hs ht hn ha hop hm hx hy fun w' h1 h2=>hK' _ _ (hK w' h1 h2)
def Rng (P:Program) (K:TypeId) (R:RdU) (kl:Int→Lit) (ed:ε→DU) (w:World) (b r n:Nat) (M:List (Int×ε)) (S:Int→Bool) (cnt:Nat):Prop:=
 ∃left,w.ranges P K R b r n (mapD kl ed M) left cnt∧∀p ∈ M,left (kl p.1)=S p.1
theorem Rng.left_eq {r cnt:Nat} {S:Int→Bool} (h:Rng P K R kl ed w b r n M S cnt):w.rangeLeft b r=cnt:=let ⟨_,h,_⟩:=h;h.left_eq
theorem Rng.owns {r cnt:Nat} {S:Int→Bool} (h:Rng P K R kl ed w b r n M S cnt):IsMapK P K R kl ed w b n M:=let ⟨_,h,_⟩:=h;h.owns
theorem Rng.lt {r cnt:Nat} {S:Int→Bool} (h:Rng P K R kl ed w b r n M S cnt):r < w.heap.size:=let ⟨_,h,_⟩:=h;h.lt
theorem Rng.ne {r cnt:Nat} {S:Int→Bool} (h:Rng P K R kl ed w b r n M S cnt):r≠b:=let ⟨_,h,_⟩:=h;h.ne
theorem Rng.obj {r cnt:Nat} {S:Int→Bool} (h:Rng P K R kl ed w b r n M S cnt) (h1:w'.heap[b]?=w.heap[b]?) (h2:w'.heap[r]?=w.heap[r]?):Rng P K R kl ed w' b r n M S cnt:=by
 obtain⟨left,⟨es,clock,since,seen,c0,hb,F,hs,hD,hr,rest⟩,hl⟩:=h
 exact⟨left,⟨es,clock,since,seen,c0,h1.trans hb,F,hs,hD,h2.trans hr,rest⟩,hl⟩
theorem Rng.below {r cnt B:Nat} {S:Int→Bool} (h:Rng P K R kl ed w b r n M S cnt) (hb:Below B w w') (h1:b < B) (h2:r < B):Rng P K R kl ed w' b r n M S cnt:=h.obj (hb.block b h1) (hb.block r h2)
theorem Rng.alloc {r cnt:Nat} {S:Int→Bool} (h:Rng P K R kl ed w b r n M S cnt) (o:Obj):Rng P K R kl ed (w.alloc o) b r n M S cnt:=let ⟨left,h1,h2⟩:=h;⟨left,h1.alloc o,h2⟩
theorem Rng.iter {r cnt:Nat} {S:Int→Bool} (h:Rng P K R kl ed w b r n M S cnt):∃since seen c0,w.heap[r]?=some (.mapIter (some b) since seen c0):=by
 obtain⟨left,⟨es,clock,since,seen,c0,hb,F,hs,hD,hr,rest⟩,hl⟩:=h
 exact⟨since,seen,c0,hr⟩
theorem Rng.key {r cnt:Nat} {l:Lit} {left:Lit→Bool} (hr:w.ranges P K R b r n (mapD kl ed M) left cnt) (hl:left l=true):∃p ∈ M,kl p.1=l:=by
 obtain⟨es,clock,since,seen,c0,hb,F,hs,hD,hr,h1,h2,h3,h4,h5⟩:=hr
 obtain⟨x,hx,rfl⟩:=h4 l hl
 have hm:WideElems.rg P K R x ∈ (es.toList.map (WideElems.rg P K R)).foldr DataW.insert []:=mem_sorted.2 (List.mem_map.2 ⟨x,hx,rfl⟩)
 have e:M.map (fun p=>(kl p.1,ed p.2))=(es.toList.map (WideElems.rg P K R)).foldr DataW.insert []:=by
  have:=hD
  unfold mapD at this
  simpa using this
 rw[←e] at hm
 obtain⟨p,hp,hq⟩:=List.mem_map.1 hm
 exact⟨p,hp,by rw[←hq]⟩
theorem IsMapK.wpList_range (T:KeyT P K kv kl dom) (h:IsMapK P K R kl ed w b n M) (hM:KDom dom M) (hs:KSrt M) {t e:TypeId} (ht:P.underlying t=some (.map K e))
  {ops:Array Oper} {rest:List Oper} {o:Oper} {act:Act} {Q:Exit→Act→World→Prop} {m:Operand} (hg:o.guard=none) (hop:o.op=Op.range t m) (hm:act.eval m=.map (some b))
  (hK:∀w',Rng P K R kl ed w' b w.heap.size n M (fun _=>true) M.length→w.grownBy w' none→w'.heap.size=w.heap.size+1→wpList P ops Q rest (act.put o.dst (.pointer (some ⟨w.heap.size,0,none⟩))) w'):wpList P ops Q (o::rest) act w:=
 wpList_range_own w hg m t hop K e T.keyed ht R b n _ hm h fun w' h1 h2 h3=>hK w' ⟨_,by rw[mapD_size] at h1;exact h1,fun p hp=>by
  rw[mapD_has T (hM p hp) hM,(fnd_some hs).2 (show(p.1,p.2) ∈ M from hp)];rfl⟩ h2 h3
theorem Rng.wpList_next (T:KeyT P K kv kl dom) (E:ElemT R ev ed zv zd) {r cnt:Nat} {S:Int→Bool} (h:Rng P K R kl ed w b r n M S cnt) (hM:KDom dom M) (hs:KSrt M)
  {ops:Array Oper} {rest:List Oper} {o:Oper} {act:Act} {Q:Exit→Act→World→Prop} {it:Operand} (hg:o.guard=none) (hop:o.op=Op.next it false) (hit:act.eval it=.pointer (some ⟨r,0,none⟩))
  (hDone:(∀p ∈ M,S p.1=false)→wpList P ops Q rest (act.put o.dst (.tuple #[.bool false])) w)
  (hMore:∀(x:Int) (u:ε) (w':World) (cnt':Nat),(x,u) ∈ M→S x=true→Rng P K R kl ed w' b r n M (fun z=>S z&&!(z==x)) cnt'→cnt' < cnt→w.grownBy w' (some r)→w'.heap.size=w.heap.size→
   (Instr.entry (.pointer (some ⟨r,0,none⟩))).run P w'=.ok (.tuple #[kv x,ev u]) w'→wpList P ops Q rest (act.put o.dst (.tuple #[.bool true,kv x,ev u])) w'):wpList P ops Q (o::rest) act w:=by
 refine wpList_plain hg fun K' hK'=>?_
 obtain⟨left,hr,hl⟩:=h
 unfold Oper.wp
 rcases hr.next T.keyed o.type with⟨h1,h2,hrun⟩|⟨key,v,l,y,w',cnt',hkey,hlk,hv,hat,hrun,hrg,hlt,hgr,hsz,hen⟩
 ·simp only[execOp,hop,hit,Sem.run_bind,hrun,Result.andThen_ok]
  exact hK' _ _ (hDone fun p hp=>by rw[←hl p hp];exact h2 _)
 ·obtain ⟨⟨x,u⟩,hp,rfl⟩:=Rng.key hr hlk
  obtain rfl:key=kv x:=T.keyed.inj hkey (T.of x (hM _ hp))
  have hv2:v=ev u:=by
   have:=hat zd
   rw[mapD_at T (hM _ hp) hM,(fnd_some hs).2 hp] at this
   obtain⟨yd,ps⟩:=y
   simp only at this
   rw[←this] at hv
   exact E.inv v u ps hv
  subst hv2
  simp only[execOp,hop,hit,Sem.run_bind,hrun,Result.andThen_ok]
  refine hK' _ _ (hMore x u w' cnt' hp (by rw[←hl _ hp];exact hlk) ⟨_,hrg,fun p hp'=>?_⟩ hlt hgr hsz hen)
  rw[hl p hp',T.same (hM p hp') (hM _ hp)]
end
def Rbool:RdU
 |.bool x=>some (.lit (.bool x),[])
 |_=>none
def Rmap:RdU
 |.map (some r)=>some (.lit (.int .i64 r),[])
 |.map none=>some (.nil,[])
 |_=>none
def Rint:RdU
 |.int .i64 n=>some (.lit (.int .i64 n),[])
 |_=>none
theorem elem_bool:ElemT Rbool (fun _:Unit=>.bool true) (fun _=>.lit (.bool true)) (.bool false) (.lit (.bool false)) where
 of _:=⟨[],rfl⟩
 zero:=⟨[],rfl⟩
 inv v _ ps h:=by cases v <;> simp_all [Rbool]
 invz v ps h:=by cases v <;> simp_all [Rbool]
theorem elem_map:ElemT Rmap (fun r:Nat=>.map (some r)) (fun r=>.lit (.int .i64 r)) (.map none) .nil where
 of _:=⟨[],rfl⟩
 zero:=⟨[],rfl⟩
 inv v x ps h:=by
  unfold Rmap at h
  split at h <;> simp_all
  omega
 invz v ps h:=by
  unfold Rmap at h
  split at h <;> simp_all
theorem elem_int:ElemT Rint (fun n:Int=>.int .i64 n) (fun n=>.lit (.int .i64 n)) (.int .i64 0) (.lit (.int .i64 0)) where
 of _:=⟨[],rfl⟩
 zero:=⟨[],rfl⟩
 inv v x ps h:=by
  unfold Rint at h
  split at h <;> simp_all
 invz v ps h:=by
  unfold Rint at h
  split at h <;> simp_all
def dI (x:Int):Prop:=(Lit.int .i64 x).wf=true
theorem keyT_int {P:Program} {K:TypeId} (hk:P.underlying K=some (.int .i64)):KeyT P K (.int .i64) (.int .i64) dI where
 keyed:=int_keyed hk
 of x hx:=keyOf_int_mk hk hx
 before x y _ _:=by simp[Lit.before]
 inj x y _ _ h:=by simpa using h
