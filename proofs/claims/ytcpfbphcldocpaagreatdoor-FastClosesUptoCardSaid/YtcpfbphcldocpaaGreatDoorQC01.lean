/- Parts of the proof; the first: A region that draws its order of evaluation, walked along a tree of orders that is written out: a theorem on the calculus alone. Conditions: those of each theorem, as typed. -/
import Derived.Orders
import Derived.WalkKit
import Derived.ProofKit
import Derived.Deep.Draws
import Derived.Test.YtcpfbphcldocpaaGreatDoorChecked
import Derived.Outline
import Derived.OneCell
set_option linter.unusedVariables false
set_option linter.unusedSimpArgs false
set_option linter.unusedSectionVars false
set_option maxRecDepth 100000
set_option maxHeartbeats 4000000
namespace Go.Proofs.YtcpfbphcldocpaaGreatDoor
open Go.RowKit
theorem sA {α:Type _} (l:List α) (i:Nat) (a:α):l.toArray.setIfInBounds i a=(l.set i a).toArray:=List.setIfInBounds_toArray ..
theorem sB {α:Type _} {x a:α} {l:List α}:(a::l).set 0 x=x::l:=List.set_cons_zero
theorem sC {α:Type _} {x a:α} {l:List α} {n:Nat}:(a::l).set (n+1) x=a::l.set n x:=List.set_cons_succ
theorem sD {α:Type _} {a:α} {l:List α}:(a::l)[0]?=some a:=List.getElem?_cons_zero
theorem sE {α:Type _} {a:α} {l:List α} {n:Nat}:(a::l)[n+1]?=l[n]?:=List.getElem?_cons_succ
theorem sF {α:Type _} {x d:α} {l:List α}:(x::l).getD 0 d=x:=List.getD_cons_zero
theorem sG {α:Type _} {x d:α} {l:List α} {n:Nat}:(x::l).getD (n+1) d=l.getD n d:=List.getD_cons_succ
def WR (Q:Exit->Act->World->Prop):Exit->Act->World->Prop:=fun e a w=>match e with
 |.normal=>Q .normal a w
 |_=>False
def jg (w w':World):Prop:=w.heap.size<=w'.heap.size/\∀k,k < w.heap.size->w'.heap[k]?=w.heap[k]?
theorem jg.refl (w:World):jg w w:=⟨Nat.le_refl _,fun _ _=>rfl⟩
theorem jg.trans {a b c:World} (h:jg a b) (k:jg b c):jg a c:=
 ⟨Nat.le_trans h.1 k.1,fun i hi=>(k.2 i (Nat.lt_of_lt_of_le hi h.1)).trans (h.2 i hi)⟩
theorem jg.heap {w w':World} (h:jg w w') (k:Nat) (hk:(w.heap[k]?).isSome=true):w'.heap[k]?=w.heap[k]?:=by
 refine h.2 k ?_;rcases Nat.lt_or_ge k w.heap.size with h'|h'
 ·exact h'
 ·simp [Array.getElem?_eq_none h'] at hk
theorem jg.cell {w w':World} (h:jg w w') (a:Addr) (hk:(w.cell? a).isSome=true):w'.cell? a=w.cell? a:=by
 have h2:=h.heap a.block (by
  unfold World.cell? at hk
  split at hk
  ·rename_i heq;rw[heq];rfl
  ·cases hk)
 unfold World.cell?;rw[h2]
theorem jg.alloc (w:World) (o:Obj):jg w (w.alloc o):=⟨by simp,fun k hk=>by
 show(w.heap.push o)[k]?=_;rw[Array.getElem?_push,if_neg (by omega)]⟩
class WQ (R:World->World->Prop):Prop where
 refl:∀w,R w w
 trans:∀{a b c},R a b->R b c->R a c
instance:WQ jg:=⟨jg.refl,jg.trans⟩
namespace RN
def KeepsN (N:Nat) (w w':World):Prop:=w.heap.size<=w'.heap.size/\∀k,k < N->w'.heap[k]?=w.heap[k]?
theorem KeepsN.refl (N:Nat) (w:World):KeepsN N w w:=⟨Nat.le_refl _,fun _ _=>rfl⟩
theorem KeepsN.trans {N:Nat} {a b c:World} (h:KeepsN N a b) (k:KeepsN N b c):KeepsN N a c:=⟨Nat.le_trans h.1 k.1,fun i hi=>(k.2 i hi).trans (h.2 i hi)⟩
theorem KeepsN.cell {N:Nat} {w w':World} (h:KeepsN N w w') (b off:Nat) (hb:b < N):w'.cell? ⟨b,off,none⟩=w.cell? ⟨b,off,none⟩:=by
 simp only[World.cell?,h.2 b hb]
theorem KeepsN.alloc {N:Nat} (w:World) (o:Obj) (hN:N<=w.heap.size):KeepsN N w (w.alloc o):=⟨by simp,fun k hk=>by
 show(w.heap.push o)[k]?=_;rw[Array.getElem?_push,if_neg (by omega)]⟩
theorem KeepsN.of_below {N:Nat} {w w':World} (h:Below N w w'):KeepsN N w w':=⟨h.size,h.block⟩
theorem KeepsN.set {N:Nat} (w:World) (a:Addr) (v:Value) (h:N<=a.block):KeepsN N w (w.setCell a v):=⟨by simp,fun k hk=>Below.heap_setCell _ _ _ _ (by omega)⟩
instance (N:Nat):WQ (KeepsN N):=⟨KeepsN.refl N,KeepsN.trans⟩
end RN
namespace RK
def KeepsN (N:Nat->Prop) (w w':World):Prop:=w.heap.size<=w'.heap.size/\∀k,N k->w'.heap[k]?=w.heap[k]?
theorem KeepsN.refl (N:Nat->Prop) (w:World):KeepsN N w w:=⟨Nat.le_refl _,fun _ _=>rfl⟩
theorem KeepsN.trans {N:Nat->Prop} {a b c:World} (h:KeepsN N a b) (k:KeepsN N b c):KeepsN N a c:=⟨Nat.le_trans h.1 k.1,fun i hi=>(k.2 i hi).trans (h.2 i hi)⟩
theorem KeepsN.cell {N:Nat->Prop} {w w':World} (h:KeepsN N w w') (b off:Nat) (hb:N b):w'.cell? ⟨b,off,none⟩=w.cell? ⟨b,off,none⟩:=by
 simp only[World.cell?,h.2 b hb]
theorem KeepsN.set {N:Nat->Prop} (w:World) (a:Addr) (v:Value) (h:¬N a.block):KeepsN N w (w.setCell a v):=⟨by simp,fun k hk=>Below.heap_setCell _ _ _ _ (by rintro rfl;exact h hk)⟩
instance (N:Nat->Prop):WQ (KeepsN N):=⟨KeepsN.refl N,KeepsN.trans⟩
end RK
section
variable {R:World->World->Prop} [WQ R] {P:Program} {ops:Array Oper} {Q Q':Exit->Act->World->Prop} {md:Region.Mode} {kd:Nat->Nat} {C:World->Prop}
theorem jr:¬LetsOut (WR Q):=fun⟨_,_,h⟩=>h
theorem YK {o:Oper} {a:Act} {w:World} {K K':Act->World->Prop} (h:∀a w,K a w->K' a w)
  (hh:o.wp P a w K (WR Q')):o.wp P a w K' Q:=by
 unfold Oper.wp at *;generalize (execOp a.eval o).run P w=r at *;cases r with
 |ok n w'=>
  cases n <;> simp only[Oper.upon] at hh ⊢ <;>
   first
    |exact h _ _ hh
    |exact Calls.mono hh (fun e w'' he=>by cases e <;> first|exact h _ _ he|exact(he:False).elim|exact(jr he).elim)
    |exact Rows.mono hh (fun _ _ he=>h _ _ he)
 |halt x w'=>cases x <;> simp only[Oper.upon] at hh ⊢ <;> exact(hh:False).elim
def jk (R:World->World->Prop) (P:Program) (ops:Array Oper) (kd:Nat->Nat) (Q:Exit->Act->World->Prop) (i:Nat) (K:Act->World->Prop) (a:Act) (w:World):Prop:=
 match ops[i]? with
 |none=>K a w
 |some o=>
  if Region.wanted o (yielded ops a.tmps) then
   (kd i=0->∃v,(∀w',(execOp a.eval o).run P w'=.ok (.value v) w')/\K (a.put o.dst v) w)/\
   (kd i=1->∃v,(∀w',R w w'->(execOp a.eval o).run P w'=.ok (.value v) w')/\K (a.put o.dst v) w)/\
   (kd i=2->o.wp P a w K (WR Q))/\
   (3<=kd i->o.wp P a w (fun a' w'=>R w w'/\K a' w') (WR Q))
  else K (a.put o.dst undef) w
omit [WQ R] in
theorem uT {i:Nat} {a:Act} {w:World} {K K':Act->World->Prop} (h:∀a w,K a w->K' a w) (hh:jk R P ops kd Q' i K a w):jk R P ops kd Q i K' a w:=by
 unfold jk at *;cases ho:ops[i]? with
 |none=>simp only[ho] at hh ⊢;exact h _ _ hh
 |some o=>
  simp only[ho] at hh ⊢
  split
  ·rename_i hw
   simp only[hw,if_true] at hh;exact⟨fun hk=>let ⟨v,h1,h2⟩:=hh.1 hk;⟨v,h1,h _ _ h2⟩,fun hk=>let ⟨v,h1,h2⟩:=hh.2.1 hk;⟨v,h1,h _ _ h2⟩,fun hk=>YK h (hh.2.2.1 hk),fun hk=>YK (fun a w h'=>⟨h'.1,h a w h'.2⟩) (hh.2.2.2 hk)⟩
  ·rename_i hw;simp only[hw] at hh;exact h _ _ hh
theorem Jn {i:Nat} {a:Act} {w:World} {K K':Act->World->Prop} (h:∀a w,K a w->K' a w)
  (hh:jk R P ops kd Q i K a w):wpOp P ops Q i K' a w:=by
 unfold jk at hh;unfold wpOp
 split
 ·exact h _ _ (by simpa[ * ] using hh)
 ·rename_i o ho
  simp only[ho] at hh
  split
  ·rename_i hw
   simp only[hw,if_true] at hh;refine .inl ?_;rcases Nat.lt_or_ge (kd i) 2 with hk|hk
   ·rcases Nat.lt_or_ge (kd i) 1 with hk'|hk'
    ·obtain ⟨v,h1,h2⟩:=hh.1 (by omega)
     simp only[Oper.wp,h1 w,Oper.upon];exact h _ _ h2
    ·obtain ⟨v,h1,h2⟩:=hh.2.1 (by omega)
     simp only[Oper.wp,h1 w (WQ.refl w),Oper.upon];exact h _ _ h2
   ·rcases Nat.lt_or_ge (kd i) 3 with hk'|hk'
    ·exact YK h (hh.2.2.1 (by omega))
    ·exact YK (fun a w h'=>h a w h'.2) (hh.2.2.2 hk')
  ·rename_i hw;simp only[hw] at hh;exact h _ _ hh
def uV (R:World->World->Prop) (P:Program) (md:Region.Mode) (ops:Array Oper) (kd:Nat->Nat) (Q:Exit->Act->World->Prop):Nat->Array Bool->Act->World->Prop
 |0,listed,a,w=>Region.ready md ops listed=[]/\Q .normal a w
 |fuel+1,listed,a,w=>
  (Region.ready md ops listed=[]->Q .normal a w)/\
  ∀i ∈ Region.ready md ops listed,jk R P ops kd Q i (uV R P md ops kd Q fuel (listed.setIfInBounds i true)) a w
theorem YW:∀(fuel:Nat) (listed:Array Bool) (a:Act) (w:World),uV R P md ops kd Q fuel listed a w->wpAny P md ops Q fuel listed a w
 |0,_,_,_,h=>h
 |fuel+1,_,_,_,h=>⟨h.1,fun i hi=>Jn (fun a w=>YW fuel _ a w) (h.2 i hi)⟩
def je (P:Program) (ops:Array Oper) (C:World->Prop) (o:Oper) (v:Value) (a:Act):Prop:=
 (Region.wanted o (yielded ops a.tmps)=true/\∀w,C w->(execOp a.eval o).run P w=.ok (.value v) w)\/
 (Region.wanted o (yielded ops a.tmps)=false/\v=undef)
theorem je.of_same {o:Oper} {v:Value} {a a':Act} (hy:je P ops C o v a) (he:execOp a'.eval o=execOp a.eval o)
  (hw:Region.wanted o (yielded ops a'.tmps)=Region.wanted o (yielded ops a.tmps)):je P ops C o v a':=by
 unfold je at *;rw[he,hw];exact hy
omit [WQ R] in
theorem Nh {j:Nat} {oi oj:Oper} {v:Value} (hj:ops[j]?=some oj) (hap:oi.apart ops oj=true)
  (hsi:∀cs b,oi.op≠.select cs b) (hsj:∀cs b,oj.op≠.select cs b) (hCk:∀w w',C w->R w w'->C w') (hE:kd j≠2\/∀w,C w)
  {K:Act->World->Prop} {a:Act} {w:World} (hC:C w)
  (hy:je P ops C oi v a) (h:jk R P ops kd Q j K (a.put oi.dst v) w):
  jk R P ops kd Q j (fun a' w'=>C w'/\je P ops C oi v a'/\K (a'.put oi.dst v) w') a w:=by
 obtain⟨h1,h2,h3⟩:=Oper.apart_spec hap;have keep:∀(a:Act),je P ops C oi v a->∀u,je P ops C oi v (a.put oj.dst u):=fun a hy u=>
  hy.of_same (execOp_put oi hsi a oj.dst u h3) (wanted_put oi a oj.dst u h3)
 have keepD:∀d,je P ops C oi v {a with defers:=d::a.defers}:=fun d=>hy.of_same rfl rfl;unfold jk at *;simp only[hj] at *;rw[wanted_put oj a oi.dst v h1,execOp_put oj hsj a oi.dst v h1] at h
 split
 ·rename_i hw
  simp only[hw,if_true] at h;refine⟨fun hk=>?_,fun hk=>?_,fun hk=>?_,fun hk=>?_⟩
  ·obtain ⟨u,h4,h5⟩:=h.1 hk
   exact⟨u,h4,hC,keep a hy u,by rw[←Act.put_comm a v u h2];exact h5⟩
  ·obtain ⟨u,h4,h5⟩:=h.2.1 hk
   exact⟨u,h4,hC,keep a hy u,by rw[←Act.put_comm a v u h2];exact h5⟩
  ·have hall:∀w,C w:=hE.resolve_left (fun h=>h hk)
   replace h:=h.2.2.1 hk;unfold Oper.wp at *;rw[execOp_put oj hsj a oi.dst v h1] at h;generalize (execOp a.eval oj).run P w=r at *;cases r with
   |ok n w'=>
    cases n <;> simp only[Oper.upon] at h ⊢
    case value u=>exact⟨hall _,keep a hy u,by rw[←Act.put_comm a v u h2];exact h⟩
    case skip=>exact⟨hall _,keep a hy _,by rw[←Act.put_comm a v undef h2];exact h⟩
    case defer d=>
     refine⟨hall _,keep _ (keepD d) _,?_⟩;rw[←Act.put_comm _ v undef h2,←Act.put_defers];exact h
    case enter f args=>
     refine Calls.mono h fun e w'' he=>?_;cases e with
     |returned u=>exact⟨hall _,keep a hy u,by rw[←Act.put_comm a v u h2];exact he⟩
     |panicked c=>exact(he:False).elim
     |outgrown=>exact(jr he).elim
    case row row args=>exact Rows.mono h fun u w'' he=>⟨hall _,keep a hy u,by rw[←Act.put_comm a v u h2];exact he⟩
   |halt x w'=>
    cases x <;> simp only[Oper.upon] at h ⊢
    case panic u=>exact(h:False).elim
  ·replace h:=h.2.2.2 hk
   unfold Oper.wp at *;rw[execOp_put oj hsj a oi.dst v h1] at h;generalize (execOp a.eval oj).run P w=r at *;cases r with
   |ok n w'=>
    cases n <;> simp only[Oper.upon] at h ⊢
    case value u=>exact⟨h.1,hCk _ _ hC h.1,keep a hy u,by rw[←Act.put_comm a v u h2];exact h.2⟩
    case skip=>exact⟨h.1,hCk _ _ hC h.1,keep a hy _,by rw[←Act.put_comm a v undef h2];exact h.2⟩
    case defer d=>
     refine⟨h.1,hCk _ _ hC h.1,keep _ (keepD d) _,?_⟩;rw[←Act.put_comm _ v undef h2,←Act.put_defers];exact h.2
    case enter f args=>
     refine Calls.mono h fun e w'' he=>?_;cases e with
     |returned u=>exact⟨he.1,hCk _ _ hC he.1,keep a hy u,by rw[←Act.put_comm a v u h2];exact he.2⟩
     |panicked c=>exact(he:False).elim
     |outgrown=>exact(jr he).elim
    case row row args=>exact Rows.mono h fun u w'' he=>⟨he.1,hCk _ _ hC he.1,keep a hy u,by rw[←Act.put_comm a v u h2];exact he.2⟩
   |halt x w'=>
    cases x <;> simp only[Oper.upon] at h ⊢
    case panic u=>exact(h:False).elim
 ·rename_i hw
  simp only[hw] at h;exact⟨hC,keep a hy _,by rw[←Act.put_comm a v undef h2];exact h⟩
def jC (md:Region.Mode) (ops:Array Oper):Nat->Nat->Nat->Bool
 |0,_,_=>false
 |n+1,j,i=>match ops[j]? with
  |none=>false
  |some oj=>oj.after.any fun e=>Region.binds md e&&(e.on==i||jC md ops n e.on i)
theorem XA {ops:Array Oper} {acc:Array Nat} {j:Nat} {oj:Oper} (hoj:ops[j]?=some oj) (hacc:∀k i,(acc.getD k 0).testBit i=true->∃n,jC .any ops n k i=true):
  ∀(es:List Edge) (s:Nat),(∀e ∈ es,e ∈ oj.after)->(∀i,s.testBit i=true->∃n,jC .any ops n j i=true)->
   ∀i,(es.foldl (fun s e=>if Region.binds .any e then s|||2 ^ e.on|||acc.getD e.on 0 else s) s).testBit i=true->∃n,jC .any ops n j i=true
 |[],s,_,hs,i,h=>hs i h
 |e::es,s,hes,hs,i,h=>by
  rw[List.foldl_cons] at h;refine XA hoj hacc es _ (fun e' he'=>hes e' (List.mem_cons_of_mem _ he')) ?_ i h;intro i hi
  split at hi
  ·rename_i hb
   simp only[Nat.testBit_or,Bool.or_eq_true,Nat.testBit_two_pow,decide_eq_true_eq] at hi;have he:=hes e (List.mem_cons_self);rcases hi with(hi|hi)|hi
   ·exact hs i hi
   ·refine ⟨1,?_⟩
    simp only[jC,hoj];exact Array.any_eq_true'.2 ⟨e,he,by simp[hb,hi]⟩
   ·obtain ⟨n,hn⟩:=hacc _ _ hi
    refine⟨n+1,?_⟩;rw[jC];simp only[hoj];exact Array.any_eq_true'.2 ⟨e,he,by simp[hb,hn]⟩
  ·exact hs i hi
theorem Yv {ops:Array Oper}:∀(l:List Oper) (acc:Array Nat),(∀k,l[k]?=ops[acc.size+k]?)->(∀k i,(acc.getD k 0).testBit i=true->∃n,jC .any ops n k i=true)->
  ∀k i,((l.foldl (fun acc o=>acc.push (o.after.foldl (fun s e=>if Region.binds .any e then s|||2 ^ e.on|||acc.getD e.on 0 else s) 0)) acc).getD k 0).testBit i=true->∃n,jC .any ops n k i=true
 |[],_,_,hacc,k,i,h=>hacc k i h
 |o::l,acc,hl,hacc,k,i,h=>by
  rw[List.foldl_cons] at h;refine Yv l _ (fun k=>?_) ?_ k i h
  ·have:=hl (k+1)
   simp only[List.getElem?_cons_succ] at this;rw[this,Array.size_push];congr 1;omega
  ·intro k i hk
   have hoj:ops[acc.size]?=some o:=by have:=hl 0;simpa using this.symm
   by_cases hlt:k < acc.size
   ·refine hacc k i ?_
    have:(acc.push (o.after.foldl (fun s e=>if Region.binds .any e then s|||2 ^ e.on|||acc.getD e.on 0 else s) 0)).getD k 0=acc.getD k 0:=by
     simp[Array.getD_eq_getD_getElem?,Array.getElem?_push,Nat.ne_of_lt hlt]
    rwa [this] at hk
   ·by_cases heq:k=acc.size
    ·subst heq
     have:(acc.push (o.after.foldl (fun s e=>if Region.binds .any e then s|||2 ^ e.on|||acc.getD e.on 0 else s) 0)).getD acc.size 0=o.after.foldl (fun s e=>if Region.binds .any e then s|||2 ^ e.on|||acc.getD e.on 0 else s) 0:=by
      simp[Array.getD_eq_getD_getElem?]
     rw[this,←Array.foldl_toList] at hk;exact XA hoj hacc o.after.toList 0 (fun e he=>by simpa using he) (fun i hi=>by simp at hi) i hk
    ·have:(acc.push (o.after.foldl (fun s e=>if Region.binds .any e then s|||2 ^ e.on|||acc.getD e.on 0 else s) 0)).getD k 0=0:=by
      simp[Array.getD_eq_getD_getElem?,Array.getElem?_push,heq,Array.getElem?_eq_none (show acc.size<=k by omega)]
     rw[this] at hk;simp at hk
theorem jX {ops:Array Oper} {j i:Nat} (h:((Region.before ops).getD j 0).testBit i=true):∃n,jC .any ops n j i=true:=by
 unfold Region.before at h;rw[←Array.foldl_toList] at h;exact Yv ops.toList #[] (by simp) (fun k i hk=>by simp at hk) j i h
def uD (md:Region.Mode) (ops:Array Oper) (listed:Array Bool):Prop:=
 ∀j oj,ops[j]?=some oj->listed.getD j false=true->∀e ∈ oj.after,Region.binds md e=true->listed.getD e.on false=true
theorem YB {listed:Array Bool} {i:Nat} (hcl:uD md ops listed) (hi:listed.getD i false=false):
  ∀(n j:Nat),jC md ops n j i=true->listed.getD j false=false/\j ∉ Region.ready md ops listed:=by
 intro n
 induction n with
 |zero=>intro j h;simp[jC] at h
 |succ n ih=>
  intro j h;simp only[jC] at h
  split at h
  ·cases h
  ·rename_i oj hoj
   obtain⟨e,he,hb⟩:=Array.any_eq_true'.1 h;simp only[Bool.and_eq_true,Bool.or_eq_true,beq_iff_eq] at hb;obtain⟨hb,hon⟩:=hb;have hun:listed.getD e.on false=false:=by
    rcases hon with hon|hon
    ·rw [hon];exact hi
    ·exact (ih e.on hon).1
   refine⟨?_,fun hr=>?_⟩
   ·cases hl:listed.getD j false with
    |false=>rfl
    |true=>have:=hcl j oj hoj hl e he hb;rw[hun] at this;cases this
   ·obtain ⟨_,o,ho,hall⟩:=mem_ready.1 hr
    rw[hoj] at ho;cases ho;have:=hall e he hb;rw[hun] at this;cases this
theorem uD.put {listed:Array Bool} (hcl:uD md ops listed) {j:Nat} (hj:j ∈ Region.ready md ops listed):uD md ops (listed.setIfInBounds j true):=by
 intro k ok hok hl e he hb;by_cases hjk:j=k
 ·subst hjk
  obtain⟨_,o,ho,hall⟩:=mem_ready.1 hj;rw[hok] at ho;cases ho;exact getD_set_true (hall e he hb)
 ·rw [getD_set_ne false hjk] at hl
  exact getD_set_true (hcl k ok hok hl e he hb)
theorem QU {listed:Array Bool} {i:Nat} (h:listed.getD i true=false):listed.getD i false=false:=by
 rcases Nat.lt_or_ge i listed.size with h'|h'
 ·simp [h'] at h ⊢;exact h
 ·simp [Array.getElem?_eq_none h'] at h
omit [WQ R] in
theorem jT {i:Nat} {oi:Oper} {v:Value} (hi:ops[i]?=some oi) (hsel:∀(j:Nat) (o:Oper) cs b,ops[j]?=some o->o.op≠.select cs b) (hki:kd i<=1)
  (hCk:∀w w',C w->R w w'->C w')
  (hput:∀(a:Act) (w:World) K,C w->je P ops C oi v a->K (a.put oi.dst v) w->jk R P ops kd Q i K a w):
  ∀(fuel:Nat) (listed:Array Bool) (a:Act) (w:World),uD md ops listed->C w->
   (∀j oj,ops[j]?=some oj->j≠i->listed.getD j true=false->¬(∃n,jC md ops n j i=true)->oi.apart ops oj=true/\(kd j≠2\/∀w,C w))->
   i ∈ Region.ready md ops listed->je P ops C oi v a->
   uV R P md ops kd Q fuel (listed.setIfInBounds i true) (a.put oi.dst v) w->uV R P md ops kd Q (fuel+1) listed a w:=by
 intro fuel
 induction fuel with
 |zero=>
  intro listed a w _ hC _ hr hy H;refine⟨fun h=>(by rw[h] at hr;cases hr),fun j hj=>?_⟩;by_cases hji:j=i
  ·subst hji;exact hput a w _ hC hy H
  ·have:=ready_mono hj hji
   rw[H.1] at this;cases this
 |succ fuel ih=>
  intro listed a w hcl hC hfree hr hy H;refine⟨fun h=>(by rw[h] at hr;cases hr),fun j hj=>?_⟩;by_cases hji:j=i
  ·subst hji;exact hput a w _ hC hy H
  ·have h1:=H.2 j (ready_mono hj hji)
   obtain⟨hjun,oj,hoj,hall⟩:=mem_ready.1 hj;have hiun:=QU (mem_ready.1 hr).1;have hnw:¬(∃n,jC md ops n j i=true):=fun⟨n,hw⟩=>absurd hj (YB hcl hiun n j hw).2;obtain⟨hap,hE⟩:=hfree j oj hoj hji hjun hnw;have h2:=Nh hoj hap (fun cs b=>hsel i oi cs b hi) (fun cs b=>hsel j oj cs b hoj) hCk hE hC hy h1;have hfree':∀k ok,ops[k]?=some ok->k≠i->(listed.setIfInBounds j true).getD k true=false->¬(∃n,jC md ops n k i=true)->oi.apart ops ok=true/\(kd k≠2\/∀w,C w):=fun k ok hk hki hun hno=>by
    refine hfree k ok hk hki ?_ hno;by_cases hjk:j=k
    ·subst hjk;exact hjun
    ·rw [getD_set_ne true hjk] at hun;exact hun
   refine uT (fun a' w' h3=>ih (listed.setIfInBounds j true) a' w' (hcl.put hj) h3.1 hfree' (ready_mono hr (Ne.symm hji)) h3.2.1 ?_) h2;rw[Array.setIfInBounds_comm _ _ hji];exact h3.2.2
def wpX (R:World->World->Prop) (P:Program) (ops:Array Oper) (kd:Nat->Nat) (Q:Exit->Act->World->Prop):List Nat->Act->World->Prop
 |[],a,w=>Q .normal a w
 |i::l,a,w=>jk R P ops kd Q i (wpX R P ops kd Q l) a w
theorem WI (n:Nat):uD md ops (Array.replicate n false):=by
 intro j oj _ hl;rcases Nat.lt_or_ge j n with h|h
 ·simp [h] at hl
 ·simp [Array.getElem?_eq_none (show(Array.replicate n false).size<=j by simpa using h)] at hl
def yg (g:Option (Option Tmp×Bool)) (tmps:Array Value):Bool:=
 match g with
 |none=>true
 |some (t,want)=>(match t.bind (tmps[·]?) with
  |some (.bool b)=>some b
  |_=>none)==some want
def qu (l:List Oper) (o:Oper):Option (Option Tmp×Bool):=
 match o.guard with
 |none=>none
 |some (j,want)=>some ((l[j]?).bind (·.dst),want)
theorem Vy (l:List Oper) (o:Oper) (tmps:Array Value):yg (qu l o) tmps=Region.wanted o (yielded l.toArray tmps):=by
 unfold yg qu Region.wanted yielded;cases o.guard with
 |none=>rfl
 |some g=>
  simp only[List.getElem?_toArray];generalize ((l[g.1]?).bind (·.dst)).bind (tmps[·]?)=x;rcases x with _|v
  ·rfl
  ·cases v <;> rfl
def wpK (R:World->World->Prop) (P:Program) (Q:Exit->Act->World->Prop) (k:Nat) (g:Option (Option Tmp×Bool)) (o:Oper) (K:Act->World->Prop) (a:Act) (w:World):Prop:=
 if yg g a.tmps then
  (k=0->∃v,(∀w',(execOp a.eval o).run P w'=.ok (.value v) w')/\K (a.put o.dst v) w)/\
  (k=1->∃v,(∀w',R w w'->(execOp a.eval o).run P w'=.ok (.value v) w')/\K (a.put o.dst v) w)/\
  (k=2->o.wp P a w K (WR Q))/\
  (3<=k->o.wp P a w (fun a' w'=>R w w'/\K a' w') (WR Q))
 else K (a.put o.dst undef) w
structure XOp where
 kind:Nat
 guard:Option (Option Tmp×Bool)
 oper:Oper
def xL (R:World->World->Prop) (P:Program) (Q:Exit->Act->World->Prop):List XOp->Act->World->Prop
 |[],a,w=>Q .normal a w
 |x::l,a,w=>wpK R P Q x.kind x.guard x.oper (xL R P Q l) a w
def qJ (ks:List Nat) (l:List Oper):List Nat->List XOp
 |[]=>[]
 |i::σ=>match l[i]? with
  |some o=>⟨ks.getD i 2,qu l o,o⟩::qJ ks l σ
  |none=>qJ ks l σ
omit [WQ R] in
theorem yC {ks:List Nat} {l:List Oper}:∀(σ:List Nat) (a:Act) (w:World),xL R P Q (qJ ks l σ) a w->wpX R P l.toArray (fun i=>ks.getD i 2) Q σ a w
 |[],_,_,h=>h
 |i::σ,a,w,h=>by
  simp only[wpX];unfold jk;simp only[List.getElem?_toArray];simp only[qJ] at h;cases ho:l[i]? with
  |none=>simp only[ho] at h;exact yC σ a w h
  |some o=>
   simp only[ho,xL,wpK,Vy] at h;simp only
   split
   ·rename_i hw
    simp only[hw,if_true] at h;exact⟨fun hk=>let ⟨v,h1,h2⟩:=h.1 hk;⟨v,h1,yC σ _ _ h2⟩,fun hk=>let ⟨v,h1,h2⟩:=h.2.1 hk;⟨v,h1,yC σ _ _ h2⟩,
     fun hk=>Oper.wp_mono (fun a w h'=>yC σ a w h') (h.2.2.1 hk),fun hk=>Oper.wp_mono (fun a w h'=>⟨h'.1,yC σ a w h'.2⟩) (h.2.2.2 hk)⟩
   ·rename_i hw
    simp only[hw] at h;exact yC σ _ _ h
def QW (md:Region.Mode) (ops:Array Oper) (bf:Array Nat) (kd:Nat->Nat):List Nat->Array Bool->Bool
 |[],_=>true
 |i::l,listed=>
  (if kd i<=1 then(Region.ready md ops listed).contains i&&(match ops[i]? with
    |none=>false
    |some oi=>(List.range ops.size).all fun j=>j==i||listed.getD j true||(match ops[j]? with
     |none=>true
     |some oj=>(bf.getD j 0).testBit i||(oi.apart ops oj&&(kd i==0||kd j !=2))))
   else Region.ready md ops listed==[i])&&QW md ops bf kd l (listed.setIfInBounds i true)
def after (l:List Nat) (listed:Array Bool):Array Bool:=l.foldl (fun s i=>s.setIfInBounds i true) listed
theorem yS {bf:Array Nat} (hbf:∀j i,(bf.getD j 0).testBit i=true->∃n,jC md ops n j i=true) (hs:Region.noSelect ops=true) (n:Nat):∀(l:List Nat) (listed:Array Bool) (a:Act) (w:World),uD md ops listed->
  QW md ops bf kd l listed=true->(uD md ops (after l listed)->∀a w,Q' .normal a w->uV R P md ops kd Q n (after l listed) a w)->wpX R P ops kd Q' l a w->uV R P md ops kd Q (l.length+n) listed a w
 |[],listed,a,w,hcl,_,hE,h=>by rw[show ([]:List Nat).length+n=n from Nat.zero_add n];exact hE hcl a w h
 |i::l,listed,a,w,hcl,hB,hE,h=>by
  rw[show (i::l).length+n=(l.length+n)+1 by simp only[List.length_cons];omega];simp only[QW,Bool.and_eq_true] at hB;obtain⟨hB,hB'⟩:=hB;have hsel:=Region.noSelect_spec hs;by_cases hk:kd i<=1
  ·rw [if_pos hk] at hB
   simp only[Bool.and_eq_true] at hB;obtain⟨hr,hf⟩:=hB;have hr:i ∈ Region.ready md ops listed:=by simpa using hr
   split at hf
   ·cases hf
   ·rename_i oi hoi
    have hfree:∀j oj,ops[j]?=some oj->j≠i->listed.getD j true=false->¬(∃n,jC md ops n j i=true)->oi.apart ops oj=true/\(kd i=0\/kd j≠2):=by
     intro j oj hoj hji hun hnw;simp only[List.all_eq_true,List.mem_range] at hf;have h1:=hf j (Array.getElem?_eq_some_iff.1 hoj).1;have hnb:¬(bf.getD j 0).testBit i=true:=fun h=>hnw (hbf j i h);simp only[hoj,Bool.or_eq_true,beq_iff_eq,hji,false_or,hun,hnb,Bool.false_eq_true,Bool.and_eq_true,bne_iff_ne,ne_eq] at h1;exact h1
    have hcl':=hcl.put hr;have ht:=fun(a':Act) (w':World)=>yS hbf hs n l (listed.setIfInBounds i true) a' w' hcl' hB' hE;simp only[wpX] at h;unfold jk at h;simp only[hoi] at h;by_cases hw:Region.wanted oi (yielded ops a.tmps)=true
    ·simp only[hw,if_true] at h
     rcases Nat.lt_or_ge (kd i) 1 with hk0|hk1
     ·have hk0:kd i=0:=by omega
      obtain⟨v,h1,h2⟩:=h.1 hk0;refine jT (C:=fun _=>True) hoi hsel hk (fun _ _ h _=>h) ?_ (l.length+n) listed a w hcl trivial (fun j oj a1 a2 a3 a4=>⟨(hfree j oj a1 a2 a3 a4).1,.inr fun _=>trivial⟩) hr (.inl ⟨hw,fun w' _=>h1 w'⟩) (ht _ _ h2);intro a w K _ hy hK;unfold jk;simp only[hoi];rcases hy with⟨hw,hv⟩|⟨hw,rfl⟩
      ·simp only[hw,if_true]
       exact⟨fun _=>⟨v,fun w'=>hv w' trivial,hK⟩,fun hk=>by omega,fun hk=>by omega,fun hk=>by omega⟩
      ·simp only[hw,Bool.false_eq_true,if_false];exact hK
     ·have hk1:kd i=1:=by omega
      obtain⟨v,h1,h2⟩:=h.2.1 hk1;refine jT (C:=fun w'=>R w w') hoi hsel hk (fun _ _ h h'=>WQ.trans h h') ?_ (l.length+n) listed a w hcl (WQ.refl w) (fun j oj a1 a2 a3 a4=>⟨(hfree j oj a1 a2 a3 a4).1,.inl ((hfree j oj a1 a2 a3 a4).2.resolve_left (by omega))⟩) hr (.inl ⟨hw,fun w' hw'=>h1 w' hw'⟩) (ht _ _ h2);intro a' w' K hC hy hK;unfold jk;simp only[hoi];rcases hy with⟨hw,hv⟩|⟨hw,rfl⟩
      ·simp only[hw,if_true]
       exact⟨fun hk=>by omega,fun _=>⟨v,fun w2 hk2=>hv w2 (WQ.trans hC hk2),hK⟩,fun hk=>by omega,fun hk=>by omega⟩
      ·simp only[hw,Bool.false_eq_true,if_false];exact hK
    ·simp only[hw] at h
     have hw':Region.wanted oi (yielded ops a.tmps)=false:=by simpa using hw
     by_cases hk0:kd i=0
     ·refine jT (C:=fun _=>True) hoi hsel hk (fun _ _ h _=>h) ?_ (l.length+n) listed a w hcl trivial (fun j oj a1 a2 a3 a4=>⟨(hfree j oj a1 a2 a3 a4).1,.inr fun _=>trivial⟩) hr (.inr ⟨hw',rfl⟩) (ht _ _ h)
      intro a w K _ hy hK;unfold jk;simp only[hoi];rcases hy with⟨hw,hv⟩|⟨hw,hv⟩
      ·simp only[hw,if_true]
       exact⟨fun _=>⟨_,fun w'=>hv w' trivial,hK⟩,fun hk=>by omega,fun hk=>by omega,fun hk=>by omega⟩
      ·simp only[hw,Bool.false_eq_true,if_false];exact hK
     ·refine jT (C:=fun w'=>R w w') hoi hsel hk (fun _ _ h h'=>WQ.trans h h') ?_ (l.length+n) listed a w hcl (WQ.refl w) (fun j oj a1 a2 a3 a4=>⟨(hfree j oj a1 a2 a3 a4).1,.inl ((hfree j oj a1 a2 a3 a4).2.resolve_left hk0)⟩) hr (.inr ⟨hw',rfl⟩) (ht _ _ h)
      intro a' w' K hC hy hK;unfold jk;simp only[hoi];rcases hy with⟨hw,hv⟩|⟨hw,hv⟩
      ·simp only[hw,if_true]
       exact⟨fun hk=>by omega,fun _=>⟨_,fun w2 hk2=>hv w2 (WQ.trans hC hk2),hK⟩,fun hk=>by omega,fun hk=>by omega⟩
      ·simp only[hw,Bool.false_eq_true,if_false];exact hK
  ·rw [if_neg hk] at hB
   have hr:Region.ready md ops listed=[i]:=by simpa using hB
   refine⟨fun h0=>(by rw[hr] at h0;cases h0),fun j hj=>?_⟩;rw[hr] at hj;obtain rfl:j=i:=by simpa using hj
   exact uT (fun a' w' h'=>yS hbf hs n l _ a' w' (hcl.put (by rw[hr];simp)) hB' hE h') h
end
inductive Tr where
 |fin (σ:List Nat)
 |frk (σ:List Nat) (a b:Tr)
def Tr.len:Tr->Nat
 |.fin σ=>σ.length
 |.frk σ a _=>σ.length+a.len
def Tr.head:Tr->Nat
 |.fin σ=>σ.headD 0
 |.frk σ _ _=>σ.headD 0
def Tr.one:Tr->Bool
 |.fin σ=>!σ.isEmpty
 |.frk σ _ _=>!σ.isEmpty
def uA (l:List Oper) (ks:List Nat):Tr->Array Bool->Bool
 |.fin σ,s=>QW .any l.toArray (Region.before l.toArray) (fun i=>ks.getD i 2) σ s&&(Region.ready .any l.toArray (after σ s)).isEmpty
 |.frk σ a b,s=>QW .any l.toArray (Region.before l.toArray) (fun i=>ks.getD i 2) σ s&&(Region.ready .any l.toArray (after σ s)==[a.head,b.head])&&a.one&&b.one&&(a.len==b.len)&&
   checkU l ks a (after σ s)&&checkU l ks b (after σ s)
where
 checkU (l:List Oper) (ks:List Nat):Tr->Array Bool->Bool
 |.fin σ,s=>QW .any l.toArray (Region.before l.toArray) (fun i=>ks.getD i 2) σ.tail (s.setIfInBounds (σ.headD 0) true)&&(Region.ready .any l.toArray (after σ s)).isEmpty
 |.frk σ a b,s=>QW .any l.toArray (Region.before l.toArray) (fun i=>ks.getD i 2) σ.tail (s.setIfInBounds (σ.headD 0) true)&&(Region.ready .any l.toArray (after σ s)==[a.head,b.head])&&a.one&&b.one&&(a.len==b.len)&&
   checkU l ks a (after σ s)&&checkU l ks b (after σ s)
def End (Q:Exit->Act->World->Prop) (p:Act->World->Prop):Exit->Act->World->Prop
 |.normal,a,w=>p a w
 |e,a,w=>Q e a w
def xC (R:World->World->Prop) (P:Program) (Q:Exit->Act->World->Prop) (l:List Oper) (ks:List Nat):Tr->Act->World->Prop
 |.fin σ,a,w=>xL R P Q (qJ ks l σ) a w
 |.frk σ x y,a,w=>xL R P (End Q fun a w=>xC R P Q l ks x a w/\xC R P Q l ks y a w) (qJ ks l σ) a w
section
variable {R:World->World->Prop} [WQ R] {P:Program} {Q:Exit->Act->World->Prop} {l:List Oper} {ks:List Nat}
theorem Je (i:Nat) (σ:List Nat) (s:Array Bool):after (i::σ) s=after σ (s.setIfInBounds i true):=rfl
theorem Rc (hs:Region.noSelect l.toArray=true):∀(t:Tr) (s:Array Bool) (a:Act) (w:World),uD .any l.toArray s->t.one=true->t.head ∈ Region.ready .any l.toArray s->uA.checkU l ks t s=true->xC R P Q l ks t a w->
  ∃n,n+1=t.len/\jk R P l.toArray (fun i=>ks.getD i 2) Q t.head (uV R P .any l.toArray (fun i=>ks.getD i 2) Q n (s.setIfInBounds t.head true)) a w
 |.fin [],_,_,_,_,h,_,_,_=>by simp[Tr.one] at h
 |.fin (i::σ),s,a,w,hcl,_,hr,hc,h=>by
  simp only[uA.checkU,List.tail_cons,List.headD_cons,Bool.and_eq_true,List.isEmpty_iff] at hc;have h':=yC (i::σ) a w h;simp only[wpX] at h';refine⟨σ.length,rfl,uT (fun a' w' hk=>?_) h'⟩;exact yS (Q':=Q) (fun _ _=>jX) hs 0 σ _ a' w' (hcl.put hr) hc.1 (fun _ a w hq=>⟨by have:=hc.2;rwa [Je] at this,hq⟩) hk
 |.frk [] _ _,_,_,_,_,h,_,_,_=>by simp[Tr.one] at h
 |.frk (i::σ) x y,s,a,w,hcl,_,hr,hc,h=>by
  simp only[uA.checkU,List.tail_cons,List.headD_cons,Bool.and_eq_true,beq_iff_eq] at hc;obtain⟨⟨⟨⟨⟨⟨c1,c2⟩,c3⟩,c4⟩,c5⟩,c6⟩,c7⟩:=hc;rw[Je] at c2 c6 c7;have h':=yC (i::σ) a w h;simp only[wpX] at h';obtain⟨m,hm⟩:∃m,m+1=x.len:=by
   cases x with
   |fin τ=>cases τ with
    |nil=>simp[Tr.one] at c3
    |cons j τ=>exact⟨τ.length,rfl⟩
   |frk τ u v=>cases τ with
    |nil=>simp[Tr.one] at c3
    |cons j τ=>exact⟨τ.length+u.len,by simp only[Tr.len,List.length_cons];omega⟩
  refine⟨σ.length+(m+1),by simp only[Tr.len,List.length_cons];omega,uT (fun a' w' hk=>?_) h'⟩;show uV R P .any l.toArray (fun i=>ks.getD i 2) Q (σ.length+(m+1)) (s.setIfInBounds i true) a' w';refine yS (fun _ _=>jX) hs (m+1) σ _ a' w' (hcl.put hr) c1 (fun hcl2 a w hq=>?_) hk;obtain⟨q1,q2⟩:=hq;refine⟨fun h0=>(by rw[c2] at h0;cases h0),fun j hj=>?_⟩;have hj0:=hj;rw[c2] at hj;simp only[List.mem_cons,List.not_mem_nil,or_false] at hj;rcases hj with rfl|rfl
  ·obtain ⟨n,hn,r⟩:=Rc hs x _ a w hcl2 c3 hj0 c6 q1
   obtain rfl:n=m:=by omega
   exact r
  ·obtain ⟨n,hn,r⟩:=Rc hs y _ a w hcl2 c4 hj0 c7 q2
   obtain rfl:n=m:=by omega
   exact r
theorem wpT_any (hs:Region.noSelect l.toArray=true):∀(t:Tr) (s:Array Bool) (a:Act) (w:World),uD .any l.toArray s->uA l ks t s=true->xC R P Q l ks t a w->uV R P .any l.toArray (fun i=>ks.getD i 2) Q t.len s a w
 |.fin σ,s,a,w,hcl,hc,h=>by
  simp only[uA,Bool.and_eq_true,List.isEmpty_iff] at hc;exact yS (Q':=Q) (fun _ _=>jX) hs 0 σ s a w hcl hc.1 (fun _ a w hq=>⟨hc.2,hq⟩) (yC σ a w h)
 |.frk σ x y,s,a,w,hcl,hc,h=>by
  simp only[uA,Bool.and_eq_true,beq_iff_eq] at hc;obtain⟨⟨⟨⟨⟨⟨c1,c2⟩,c3⟩,c4⟩,c5⟩,c6⟩,c7⟩:=hc;refine yS (fun _ _=>jX) hs x.len σ s a w hcl c1 (fun hcl2 a w hq=>?_) (yC σ a w h);obtain⟨q1,q2⟩:=hq;obtain⟨m,hm⟩:∃m,m+1=x.len:=by
   cases x with
   |fin τ=>cases τ with
    |nil=>simp[Tr.one] at c3
    |cons j τ=>exact⟨τ.length,rfl⟩
   |frk τ u v=>cases τ with
    |nil=>simp[Tr.one] at c3
    |cons j τ=>exact⟨τ.length+u.len,by simp only[Tr.len,List.length_cons];omega⟩
  rw[←hm];refine⟨fun h0=>(by rw[c2] at h0;cases h0),fun j hj=>?_⟩;have hj0:=hj;rw[c2] at hj;simp only[List.mem_cons,List.not_mem_nil,or_false] at hj;rcases hj with rfl|rfl
  ·obtain ⟨n,hn,r⟩:=Rc hs x _ a w hcl2 c3 hj0 c6 q1
   obtain rfl:n=m:=by omega
   exact r
  ·obtain ⟨n,hn,r⟩:=Rc hs y _ a w hcl2 c4 hj0 c7 q2
   obtain rfl:n=m:=by omega
   exact r
theorem vJ {id:Nat} {a:Act} {w:World} (R:World->World->Prop) [WQ R] (ks:List Nat) (t:Tr) (hB:(P.follows .mixedOrders&&Region.noSelect l.toArray&&Nat.beq t.len l.length&&uA l ks t (Array.replicate l.length false))=true) (h:xC R P Q l ks t a w.drew):(Code.region id l.toArray true).wp P Q a w:=by
 simp only[Bool.and_eq_true] at hB;obtain⟨⟨⟨hm,hs⟩,hn⟩,hB⟩:=hB;replace hn:=Nat.eq_of_beq_eq_true hn;refine wp_region_any hm (YW (R:=R) (kd:=fun i=>ks.getD i 2) _ _ _ _ ?_);have:=wpT_any hs t (Array.replicate l.length false) a _ (WI _) hB h;rw[hn] at this;simpa using this
theorem up {id:Nat} {a:Act} {w:World} (ks σ:List Nat) (hB:(P.follows .mixedOrders&&Region.noSelect l.toArray&&Nat.beq σ.length l.length&&uA l ks (.fin σ) (Array.replicate l.length false))=true)
  (h:xL jg P Q (qJ ks l σ) a w.drew):(Code.region id l.toArray true).wp P Q a w:=vJ jg ks (.fin σ) hB h
theorem qD {id:Nat} {a:Act} {w:World} (N:Nat) (ks:List Nat) (t:Tr) (hB:(P.follows .mixedOrders&&Region.noSelect l.toArray&&Nat.beq t.len l.length&&uA l ks t (Array.replicate l.length false))=true)
  (h:xC (RN.KeepsN N) P Q l ks t a w.drew):(Code.region id l.toArray true).wp P Q a w:=vJ _ ks t hB h
theorem My {id:Nat} {a:Act} {w:World} (N:Nat->Prop) (ks:List Nat) (t:Tr) (hB:(P.follows .mixedOrders&&Region.noSelect l.toArray&&Nat.beq t.len l.length&&uA l ks t (Array.replicate l.length false))=true)
  (h:xC (RK.KeepsN N) P Q l ks t a w.drew):(Code.region id l.toArray true).wp P Q a w:=vJ _ ks t hB h
end
section
variable {R:World->World->Prop} {P:Program} {Q:Exit->Act->World->Prop} {l:List XOp} {o:Oper} {a:Act} {w:World}
theorem qm (h:Q .normal a w):xL R P Q [] a w:=h
theorem qq (h:∀K:Act->World->Prop,(∀a w,xL R P Q l a w->K a w)->∃v,(∀w',(execOp a.eval o).run P w'=.ok (.value v) w')/\K (a.put o.dst v) w):
  xL R P Q (⟨0,none,o⟩::l) a w:=by
 simp only[xL,wpK,yg,if_true];exact⟨fun _=>h _ (fun _ _ h=>h),fun hk=>by omega,fun hk=>by omega,fun hk=>by omega⟩
theorem xO (h:∀K:Act->World->Prop,(∀a w,xL R P Q l a w->K a w)->∃v,(∀w',R w w'->(execOp a.eval o).run P w'=.ok (.value v) w')/\K (a.put o.dst v) w):
  xL R P Q (⟨1,none,o⟩::l) a w:=by
 simp only[xL,wpK,yg,if_true];exact⟨fun hk=>by omega,fun _=>h _ (fun _ _ h=>h),fun hk=>by omega,fun hk=>by omega⟩
theorem qx {v:Value} (h1:∀w',R w w'->(execOp a.eval o).run P w'=.ok (.value v) w') (h2:xL R P Q l (a.put o.dst v) w):xL R P Q (⟨1,none,o⟩::l) a w:=xO fun _ hK=>⟨v,h1,hK _ _ h2⟩
theorem qF (h:∀K:Act->World->Prop,(∀a w,xL R P Q l a w->K a w)->o.wp P a w K (WR Q)):
  xL R P Q (⟨2,none,o⟩::l) a w:=by
 simp only[xL,wpK,yg,if_true];exact⟨fun hk=>by omega,fun hk=>by omega,fun _=>h _ (fun _ _ h=>h),fun hk=>by omega⟩
theorem qC (h:∀K:Act->World->Prop,(∀a w',R w w'->xL R P Q l a w'->K a w')->o.wp P a w K (WR Q)):
  xL R P Q (⟨3,none,o⟩::l) a w:=by
 simp only[xL,wpK,yg,if_true];exact⟨fun hk=>by omega,fun hk=>by omega,fun hk=>by omega,fun _=>h _ (fun _ _ h h'=>⟨h,h'⟩)⟩
theorem qE {k t:Nat} {want b:Bool} (hy:a.tmps[t]?=some (.bool b)) (hb:(b==want)=false)
  (h:∀K:Act->World->Prop,(∀a w,xL R P Q l a w->K a w)->K (a.put o.dst undef) w):xL R P Q (⟨k,some (some t,want),o⟩::l) a w:=by
 have hw:yg (some (some t,want)) a.tmps=false:=by simp only[yg,Option.bind_some,hy];simpa using hb
 simp only[xL,wpK,hw,Bool.false_eq_true,if_false];exact h _ (fun _ _ h=>h)
theorem qz {k t:Nat} {want b:Bool} (hy:a.tmps[t]?=some (.bool b)) (hb:(b==want)=true)
  (h:xL R P Q (⟨k,none,o⟩::l) a w):xL R P Q (⟨k,some (some t,want),o⟩::l) a w:=by
 have hw:yg (some (some t,want)) a.tmps=true:=by simp only[yg,Option.bind_some,hy];simpa using hb
 simp only[xL,wpK,hw,if_true];simp only[xL,wpK,yg,if_true] at h;exact h
theorem qQ {k t:Nat} {want:Bool} (hy:a.tmps[t]?=some undef)
  (h:∀K:Act->World->Prop,(∀a w,xL R P Q l a w->K a w)->K (a.put o.dst undef) w):xL R P Q (⟨k,some (some t,want),o⟩::l) a w:=by
 have hw:yg (some (some t,want)) a.tmps=false:=by simp[yg,hy,undef]
 simp only[xL,wpK,hw,Bool.false_eq_true,if_false];exact h _ (fun _ _ h=>h)
end
theorem _root_.Go.RowKit.Hid.o {p:Prop} (h:Hid p):p:=h
theorem qd {p:Prop} (h:p):Hid p:=h
def qH (p:Prop):Prop:=p
theorem qH.halt {p:Prop} (h:qH p):p:=h
theorem qH.go {p:Prop} (h:p):qH p:=h
def Sl (w:World) (B sz:Nat) (v:Value) (n:Nat) (xs:List Value):Prop:=
 ∃a cap,v=.slice a n cap/\n<=9223372036854775807/\xs.length=n*sz/\(0 < n->∃b off,a=some ⟨b,off,none⟩/\b < B/\∀j u,xs[j]?=some u->w.cell? ⟨b,off+j,none⟩=some u)
section
variable {w w':World} {B B' sz n:Nat} {v:Value} {xs:List Value}
theorem Sl.ex (h:Sl w B sz v n xs):∃a cap,v=.slice a n cap/\n<=9223372036854775807:=let ⟨a,cap,hv,hn,_⟩:=h;⟨a,cap,hv,hn⟩
theorem Sl.keep (h:Sl w B sz v n xs) (hk:∀b off,b < B->w'.cell? ⟨b,off,none⟩=w.cell? ⟨b,off,none⟩):Sl w' B sz v n xs:=by
 obtain⟨a,cap,hv,hn,hl,h⟩:=h;exact⟨a,cap,hv,hn,hl,fun h0=>let ⟨b,off,ha,hb,hc⟩:=h h0;⟨b,off,ha,hb,fun j u hu=>(hk b _ hb).trans (hc j u hu)⟩⟩
theorem Sl.more (h:Sl w B sz v n xs) (hB:B<=B'):Sl w B' sz v n xs:=by
 obtain⟨a,cap,hv,hn,hl,h⟩:=h;exact⟨a,cap,hv,hn,hl,fun h0=>let ⟨b,off,ha,hb,hc⟩:=h h0;⟨b,off,ha,by omega,hc⟩⟩
theorem Sl.below (h:Sl w B sz v n xs) (hb:Below B w w'):Sl w' B sz v n xs:=h.keep fun b off hlt=>hb.cell (p:=⟨b,off,none⟩) hlt
theorem Sl.alloc (h:Sl w B sz v n xs) (hB:B<=w.heap.size) (o:Obj):Sl (w.alloc o) B sz v n xs:=
 h.keep fun b off hlt=>World.cell?_alloc_lt w o ⟨b,off,none⟩ (by show b < _;omega)
theorem Sl.of_own {e:TypeId} {base:Nat} (h:w.ownsRow base e sz v n xs):Sl w w.heap.size sz v n xs:=by
 obtain⟨hl,h⟩:=h;rcases h with⟨rfl,rfl⟩|⟨g,cap,cur,rfl,hg,hh,hnc,hcm,hs,ht⟩
 ·exact ⟨none,0,rfl,by omega,hl,fun h=>absurd h (by omega)⟩
 ·refine ⟨some ⟨g,0,none⟩,cap,rfl,by unfold maxLen at hcm;omega,hl,fun _=>⟨g,0,rfl,(Array.getElem?_eq_some_iff.1 hh).1,fun j u hu=>?_⟩⟩
  have hj:j < n*sz:=by have:=(List.getElem?_eq_some_iff.1 hu).1;omega
  rw[←ht,List.getElem?_take,if_pos hj] at hu;simp only[World.cell?,hh,Option.isSome_none,Bool.false_eq_true,if_false,Nat.zero_add];simpa using hu
end
theorem Sl.at1 {w:World} {B n cap:Nat} {a:Option Addr} {xs:List Value} (h:Sl w B 1 (.slice a n cap) n xs) {k:Nat} (hk:k < n):
  ∃b off u,a=some ⟨b,off,none⟩/\b < B/\xs[k]?=some u/\w.cell? ⟨b,off+k,none⟩=some u:=by
 obtain⟨a',cap',hv,hm,hl,h⟩:=h;simp only[Value.slice.injEq] at hv;obtain⟨rfl,-,rfl⟩:=hv;obtain⟨b,off,rfl,hb,hc⟩:=h (by omega);have hkl:k < xs.length:=by omega
 exact⟨b,off,xs[k],rfl,hb,List.getElem?_eq_getElem hkl,hc k _ (List.getElem?_eq_getElem hkl)⟩
theorem ZH {α:Type} (f:α->List Value) (sz:Nat) (hf:∀x,(f x).length=sz):∀(l:List α) (k j:Nat) (x:α),l[k]?=some x->j < sz->(l.flatMap f)[k*sz+j]?=(f x)[j]?
 |[],k,j,x,h,_=>by simp at h
 |y::l,0,j,x,h,hj=>by
  simp only[List.getElem?_cons_zero,Option.some.injEq] at h;subst h;simp only[List.flatMap_cons,Nat.zero_mul,Nat.zero_add];rw[List.getElem?_append_left (by rw[hf];exact hj)]
 |y::l,k+1,j,x,h,hj=>by
  simp only[List.getElem?_cons_succ] at h;simp only[List.flatMap_cons];rw[List.getElem?_append_right (by rw[hf,Nat.add_mul];omega),hf,show(k+1)*sz+j - sz=k*sz+j from by rw[Nat.add_mul];omega];exact ZH f sz hf l k j x h hj
theorem jG {α:Type} (f:α->List Value) (sz:Nat) (hf:∀x,(f x).length=sz) (l:List α):(l.flatMap f).length=l.length*sz:=by
 induction l with
 |nil=>simp
 |cons x l ih=>simp only[List.flatMap_cons,List.length_append,ih,hf,List.length_cons,Nat.add_mul];omega
theorem Sl.atF {α:Type} {w:World} {B sz n cap:Nat} {a:Option Addr} {f:α->List Value} {l:List α} (hf:∀x,(f x).length=sz) (h:Sl w B sz (.slice a n cap) n (l.flatMap f)) (hln:l.length=n) {k:Nat} (hk:k < n):
  ∃b off x,a=some ⟨b,off,none⟩/\b < B/\l[k]?=some x/\∀j,j < sz->w.cell? ⟨b,off+k*sz+j,none⟩=(f x)[j]?:=by
 obtain⟨a',cap',hv,hm,hl,h⟩:=h;simp only[Value.slice.injEq] at hv;obtain⟨rfl,-,rfl⟩:=hv;obtain⟨b,off,rfl,hb,hc⟩:=h (by omega);have hkl:k < l.length:=by omega
 refine⟨b,off,l[k],rfl,hb,List.getElem?_eq_getElem hkl,fun j hj=>?_⟩;have h1:=ZH f sz hf l k j _ (List.getElem?_eq_getElem hkl) hj;have h2:j < (f l[k]).length:=by rw[hf];exact hj
 rw[List.getElem?_eq_getElem h2] at h1 ⊢;rw[Nat.add_assoc];exact hc _ _ h1
theorem cell_new (w:World) (cs:Array Value) (t:TypeId) (fz:Nat×Nat) (j:Nat):(w.alloc (.cells cs t fz)).cell? ⟨w.heap.size,j,none⟩=cs[j]?:=by
 have h:(w.alloc (.cells cs t fz)).heap[w.heap.size]?=some (.cells cs t fz):=heap_alloc_new w _;simp only[World.cell?,h,Option.isSome_none,Bool.false_eq_true,if_false]
theorem qp {B:Nat} {w w':World} {b off:Nat} {v:Value} (hb:Below B w w') (h:b < B) (hv:w.cell? ⟨b,off,none⟩=some v):w'.cell? ⟨b,off,none⟩=some v:=
 (hb.cell (p:=⟨b,off,none⟩) h).trans hv
theorem vN (v1 v2:Value) (xs:List Int) (n:Nat) (w:World) (h1:Sl w w.heap.size 1 v1 n (xs.map (.int .i64))) (h2:Sl w w.heap.size 1 v2 n (xs.map (.int .i64))):
  Calls Tryz.prog 30 #[v1,v2] w fun e w'=>e=.returned (.bool true)/\Below w.heap.size w w':=by
 obtain⟨a1,c1,rfl,m1⟩:=h1.ex;obtain⟨a2,c2,rfl,m2⟩:=h2.ex;have H1:=qd h1;have H2:=qd h2;clear h1 h2;have hb:((n:Int) !=(n:Int))=false:=by simp
 go_enter Tryz.func30,Tryz.ntmps30;go_wp2
 go_loopw [5] (fun i wr=>∃k:Nat,k<=n/\i=.int .i64 k/\Below w.heap.size w wr) (fun i _=>n - (intOf i).toNat)
 case atStart=>exact⟨0,by omega,rfl,Below.refl _ _⟩
 case round=>
  obtain⟨k,hk,rfl,hB⟩:=hrel;by_cases hlt:k < n
  ·obtain ⟨b1,o1,x,rfl,-,gx,hc1⟩:=(H1.o.below hB).at1 hlt
   obtain⟨b2,o2,y,rfl,-,gy,hc2⟩:=(H2.o.below hB).at1 hlt;obtain rfl:x=y:=by rw[gx] at gy;exact Option.some.inj gy
   obtain⟨z,hz⟩:∃z:Int,x=.int .i64 z:=by
    obtain⟨z,-,hz⟩:=List.mem_map.1 (List.mem_of_getElem? gx);exact⟨z,hz.symm⟩
   subst hz;clear gx gy;have HB:=qd hB;clear hB;go_wp2;refine up [0,0,0,1,0,0,0,1,0,0] [0,1,2,3,4,5,6,7,8,9] (by kernel_rfl) ?_;simp only[qJ,qu,sD,sE,sF,sG]
   repeat first|(refine qq fun K hK=>?_;go_simp;refine hK _ _ ?_;clear hK K)|(apply qx;(intro w2 hw2;have hk1:=hw2.cell;have hk3:=hw2.heap;clear hw2;go_simp;with_reducible rfl);simp only[Act.put,sA,sB,sC])|refine qz rfl rfl ?_|(refine qE rfl rfl fun K hK=>?_;simp only[Act.put,sA,sB,sC];refine hK _ _ ?_;clear hK K)|refine qm ?_
   go_wp2;go_roundw
   case rel=>exact⟨k+1,by omega,by go_num,HB.o.drew⟩
   case measure=>simp[intOf];omega
  ·go_wp2
   go_ret;exact⟨rfl,hB⟩
structure Ob where
 kind:Int
 init:Int
structure Ev where
 kind:Int
 tx:Int
 thread:Int
 obj:Int
 op:Int
 key:Int
 val:Int
 ret:Int
def Ob.cells (x:Ob):List Value:=[.int .i64 x.kind,.int .i64 x.init]
def Ev.cells (x:Ev):List Value:=[.int .i64 x.kind,.int .i64 x.tx,.int .i64 x.thread,.int .i64 x.obj,.int .i64 x.op,.int .i64 x.key,.int .i64 x.val,.int .i64 x.ret]
theorem Ob.len (x:Ob):x.cells.length=2:=rfl
theorem Ev.len (x:Ev):x.cells.length=8:=rfl
theorem QA (w:World) (l:List Value) (t:TypeId):∀(j:Nat) (u:Value),l[j]?=some u->(w.alloc (.cells l.toArray t)).cell? ((⟨w.heap.size,0,none⟩:Addr).add j)=some u:=by
 intro j u hu;have hadd:((⟨w.heap.size,0,none⟩:Addr).add j)=⟨w.heap.size,j,none⟩:=by unfold Addr.add;split <;> simp_all
 rw[hadd,cell_new];simpa using hu
theorem Ua {w:World} {base n m old:Nat} {e:TypeId} {i:TypeInfo} {z:Value} {xs news:List Value} (hl:(xs++news).length=(n+m)*i.size) (hzs:z.cells.size=i.size)
  (h63:n+m<=maxLen) (hbase:base<=w.heap.size) (row:Option Nat):
  (w.drew.alloc (.cells (xs.toArray++news.toArray++Builtin.zeroCells z.cells (grownCap w (n+m) old e - (n+m))) e)).ownsRow base e i.size
    (.slice (some ⟨w.heap.size,0,none⟩) (n+m) (grownCap w (n+m) old e)) (n+m) (xs++news)/\
   w.grownBy (w.drew.alloc (.cells (xs.toArray++news.toArray++Builtin.zeroCells z.cells (grownCap w (n+m) old e - (n+m))) e)) row:=by
 have hge:=grownCap_ge w (n+m) old e;have hcm:grownCap w (n+m) old e<=maxLen:=grownCap_le_maxLen w (n+m) old e h63;have hl2:xs.length+news.length=(n+m)*i.size:=by rw[←List.length_append];exact hl
 refine⟨⟨hl,.inr ⟨w.heap.size,_,_,rfl,hbase,heap_alloc_new w.drew _,hge,hcm,?_,?_⟩⟩,⟨rfl,rfl,rfl,by simp,fun k hk _=>Below.heap_alloc w.drew _ k hk⟩⟩
 ·simp only[Array.size_append,List.size_toArray,size_zeroCells,hzs]
  rw[hl2,←Nat.add_mul];congr 1;omega
 ·simp only[Array.toList_append,List.append_assoc]
  rw[←List.append_assoc,←hl];exact List.take_left
theorem vP {P:Program} (w:World) (base:Nat) (t ty e:TypeId) (i:TypeInfo) (z:Value) (size bytes:Nat) (ht:P.underlying t=some (.slice e)) (hi:P.info? e=some i) (hz:i.zero=some z)
  (hsize:i.size=size) (hby:i.bytes=bytes) (hzs:z.cells.size=size) (v:Value) (n:Nat) (xs:List Value) (hown:w.ownsRow base e size v n xs)
  (a:Addr) (m c:Nat) (hm:0 < m) (news:List Value) (hl:news.length=m*size) (hnews:∀j u,news[j]?=some u->w.cell? (a.add j)=some u) (h1:∀u ∈ news,u.oneCell'=true)
  (h63:n+m<=maxLen) (hbytes:(n+m)*bytes<=140737488355328) (hbase:base<=w.heap.size):
  ∃g cap w',(Builtin.append_ #[t,t] ty #[v,.slice (some a) m c]).run P w=.ok (.slice (some ⟨g,0,none⟩) (n+m) cap) w'/\w'.ownsRow base e size (.slice (some ⟨g,0,none⟩) (n+m) cap) (n+m) (xs++news)/\w.grownBy w' v.ownBlock/\
   (g=w.heap.size\/v.ownBlock=some g):=by
 subst hsize;subst hby;have hsmall:n+m<=9223372036854775807:=by simp only[maxLen] at h63;omega
 have hlen:(xs++news).length=(n+m)*i.size:=by rw[List.length_append,hown.1,hl,Nat.add_mul]
 rcases hown.2 with⟨rfl,rfl⟩|⟨g,cap,cur,rfl,hbg,hg,hnc,hcm,hcs,htake⟩
 ·have hx:xs=[]:=List.eq_nil_of_length_eq_zero (by simpa using hown.1)
  subst hx;have hr:=run_append_nil (P:=P) w t ty e i z ht hi hz a m c news hl hnews hm (by omega) (by have hb:=hbytes;simp only[Nat.zero_add] at hb;omega);have hgr:=Ua (old:=0) (e:=e) (z:=z) hlen hzs h63 hbase (Value.ownBlock (.slice none 0 0));simp only[Nat.zero_add,List.nil_append,Array.empty_append] at hgr ⊢;exact⟨_,_,_,hr,hgr.1,hgr.2,.inl rfl⟩
 ·by_cases hroom:n+m<=cap
  ·have hfit:n*i.size+news.length<=cur.size:=by rw[hl,hcs,←Nat.add_mul];exact Nat.mul_le_mul_right _ hroom
   have hr:=run_append_room (P:=P) w t ty e i ht hi g n cap cur hg a m c news hl hnews h1 hroom hfit;refine⟨g,cap,_,hr,⟨hlen,.inr ⟨g,cap,_,rfl,hbg,setRow_heap w g cur _ e _ hg,hroom,hcm,?_,?_⟩⟩,⟨rfl,rfl,rfl,by simp,fun k _ hk=>setRow_other w g k _ (fun e=>hk (by simp[Value.ownBlock,e]))⟩,.inr rfl⟩
   ·simp only[List.size_toArray,List.length_append,List.length_take,List.length_drop,Array.length_toList]
    omega
   ·rw [htake,←hlen]
    exact List.take_left
  ·have holds:∀j u,xs[j]?=some u->w.cell? ((⟨g,0,none⟩:Addr).add j)=some u:=hown.cells (g:=g) rfl
   have hr:=run_append_grow (P:=P) w t ty e i z ht hi hz ⟨g,0,none⟩ n cap xs hown.1 holds a m c news hl hnews (by omega) (by omega) (growslice_fits (by omega) hbytes);have hgr:=Ua (old:=cap) (e:=e) (z:=z) hlen hzs h63 hbase (Value.ownBlock (.slice (some ⟨g,0,none⟩) n cap));exact⟨_,_,_,hr,hgr.1,hgr.2,.inl rfl⟩
structure Yz (w w':World) (v v':Value):Prop where
 grown:w.grownBy w' v.ownBlock
 own:∀k,v'.ownBlock=some k->v.ownBlock=some k\/w.heap.size<=k
theorem Yz.refl (w:World) (v:Value):Yz w w v v:=⟨⟨rfl,rfl,rfl,Nat.le_refl _,fun _ _ _=>rfl⟩,fun _ h=>.inl h⟩
theorem Yz.below {w w':World} {v v':Value} {B:Nat} (h:Yz w w' v v') (hB:B<=w.heap.size) (hv:∀k,v.ownBlock=some k->B<=k):Below B w w':=
 (Below.refl B w).grown h.grown hB hv
theorem Yz.size {w w':World} {v v':Value} (h:Yz w w' v v'):w.heap.size<=w'.heap.size:=h.grown.size
theorem WX {P:Program} {o:Oper} {a:Act} {K:Act->World->Prop} {Q:Exit->Act->World->Prop} (s x:Operand) (t:TypeId)
  (ho:o.op=.call {callee:=.builtin .append,args:=#[s,x],argTypes:=#[t,t]})
  (e:TypeId) (z:Value) (size bytes:Nat) (ht:P.underlying t=some (.slice e)) (hinfo:(P.info? e).map (fun i=>(i.zero,i.size,i.bytes))=some (some z,size,bytes))
  (hzs:z.cells.size=size) {base n m:Nat} {v:Value} {xs news:List Value} {w0:World} (hs:a.eval s=v) (hown:w0.ownsRow base e size v n xs) (hbase:base<=w0.heap.size) (hm:0 < m)
  {g0:Nat} (hx:a.eval x=.slice (some ⟨g0,0,none⟩) m m) (hg0:g0=w0.heap.size) (hl:news.length=m*size) (h1:∀u ∈ news,u.oneCell'=true) (hn:n+m<=9223372036854775807) (hby:(n+m)*bytes<=140737488355328)
  (hK:∀g cap w',w'.ownsRow base e size (.slice (some ⟨g,0,none⟩) (n+m) cap) (n+m) (xs++news)->Yz w0 w' v (.slice (some ⟨g,0,none⟩) (n+m) cap)->K (a.put o.dst (.slice (some ⟨g,0,none⟩) (n+m) cap)) w'):
  o.wp P a (w0.alloc (.cells news.toArray e)) K Q:=by
 subst hg0;obtain⟨i0,hi,hz0,hz1,hz2⟩:=info_parts hinfo;obtain⟨g,cap,w',hr,hown',hgrow,hg⟩:=vP (P:=P) (w0.alloc (.cells news.toArray e)) base t o.type e i0 z size bytes ht hi hz0 hz1 hz2 hzs v n xs (hown.alloc _) _ m m hm news hl
  (QA w0 news e) h1 (by unfold maxLen;omega) hby (by simp;omega)
 unfold Oper.wp execOp;simp only[ho,resolve,invoke,builtin,Sem.run_bind,Sem.run_pure,Result.andThen_ok,List.map_toArray,List.map_cons,List.map_nil,hs,hx,hr];refine hK g cap w' hown' ⟨?_,?_⟩
 ·exact ⟨hgrow.os,hgrow.tape,hgrow.output,Nat.le_trans (by simp) hgrow.size,fun k hk hne=>(hgrow.block k (by simp;omega) hne).trans (Below.heap_alloc w0 _ k hk)⟩
 ·intro k hk
  simp only[Value.ownBlock,Option.some.injEq] at hk;subst hk;rcases hg with hg|hg
  ·right;rw[hg];simp
  ·exact .inl hg
def qj {α:Type} (f:α->List Value) (e:TypeId) (sz:Nat) (w:World) (B:Nat) (v:Value) (l:List α):Prop:=w.ownsRow B e sz v l.length (l.flatMap f)
section
variable {α:Type} {f:α->List Value} {e:TypeId} {sz:Nat} {w w':World} {B:Nat} {v:Value} {l:List α}
theorem qj.sl (h:qj f e sz w B v l):Sl w w.heap.size sz v l.length (l.flatMap f):=Sl.of_own h
theorem qj.nil (w:World) (B:Nat):qj f e sz w B (.slice none 0 0) []:=World.ownsRow_nil w B e sz
theorem qj.lt (h:qj f e sz w B v l):∀k,v.ownBlock=some k->B<=k/\k < w.heap.size:=World.ownsRow.lt h
theorem qj.kept (h:qj f e sz w B v l) {row:Option Nat} (hg:w.grownBy w' row) (hne:v.ownBlock=none\/v.ownBlock≠row):qj f e sz w' B v l:=World.ownsRow.kept h hg hne
theorem qj.below (h:qj f e sz w B v l) (hb:Below w.heap.size w w'):qj f e sz w' B v l:=
 World.ownsRow.kept h (row:=none) ⟨hb.os,hb.tape,hb.output,hb.size,fun k hk _=>hb.block k hk⟩ (by cases v.ownBlock <;> simp)
theorem qj.drew (h:qj f e sz w B v l):qj f e sz w.drew B v l:=h
theorem qj.alloc (h:qj f e sz w B v l) (o:Obj):qj f e sz (w.alloc o) B v l:=World.ownsRow.alloc h o
theorem qj.base {B':Nat} (h:qj f e sz w B v l) (hB:B'<=B):qj f e sz w B' v l:=by
 obtain⟨h1,h2⟩:=h;refine⟨h1,?_⟩;rcases h2 with h2|⟨g,cap,cur,hv,hg,r⟩
 ·exact .inl h2
 ·exact .inr ⟨g,cap,cur,hv,by omega,r⟩
theorem qj.form (h:qj f e sz w B v l):(v=.slice none 0 0/\l=[])\/∃g cap,v=.slice (some ⟨g,0,none⟩) l.length cap/\B<=g/\g < w.heap.size:=by
 obtain⟨h1,h2⟩:=h;rcases h2 with⟨h2,h3⟩|⟨g,cap,cur,hv,hg,hh,r⟩
 ·exact .inl ⟨h2,List.eq_nil_of_length_eq_zero h3⟩
 ·exact .inr ⟨g,cap,hv,hg,(Array.getElem?_eq_some_iff.1 hh).1⟩
theorem QY {P:Program} {o:Oper} {a:Act} {K:Act->World->Prop} {Q:Exit->Act->World->Prop} (s x:Operand) (t:TypeId)
  (ho:o.op=.call {callee:=.builtin .append,args:=#[s,x],argTypes:=#[t,t]})
  (z:Value) (bytes:Nat) (ht:P.underlying t=some (.slice e)) (hinfo:(P.info? e).map (fun i=>(i.zero,i.size,i.bytes))=some (some z,sz,bytes))
  (hzs:z.cells.size=sz) {w0:World} (hown:qj f e sz w0 B v l) (y:α) (hbase:B<=w0.heap.size) (hs:a.eval s=v)
  {g0:Nat} (hx:a.eval x=.slice (some ⟨g0,0,none⟩) 1 1) (hg0:g0=w0.heap.size) (hl:(f y).length=sz) (h1:∀u ∈ f y,u.oneCell'=true) (hn:l.length+1<=9223372036854775807) (hby:(l.length+1)*bytes<=140737488355328)
  (hK:∀g cap w',qj f e sz w' B (.slice (some ⟨g,0,none⟩) (l.length+1) cap) (l++[y])->Yz w0 w' v (.slice (some ⟨g,0,none⟩) (l.length+1) cap)->K (a.put o.dst (.slice (some ⟨g,0,none⟩) (l.length+1) cap)) w'):
  o.wp P a (w0.alloc (.cells (f y).toArray e)) K Q:=
 WX s x t ho e z sz bytes ht hinfo hzs hs hown hbase (by omega) hx hg0 (by simpa using hl) h1 hn hby fun g cap w' h2 h3=>hK g cap w' (by simpa[qj,List.flatMap_append] using h2) h3
theorem qM {P:Program} {ops:Array Oper} {rest:List Oper} {o:Oper} {a:Act} {Q:Exit->Act->World->Prop} (hgd:o.guard=none) (s x:Operand) (t:TypeId)
  (ho:o.op=.call {callee:=.builtin .append,args:=#[s,x],argTypes:=#[t,t]})
  (z:Value) (bytes:Nat) (ht:P.underlying t=some (.slice e)) (hinfo:(P.info? e).map (fun i=>(i.zero,i.size,i.bytes))=some (some z,sz,bytes))
  (hzs:z.cells.size=sz) {w0:World} (hown:qj f e sz w0 B v l) (y:α) (hbase:B<=w0.heap.size) (hs:a.eval s=v)
  {g0:Nat} (hx:a.eval x=.slice (some ⟨g0,0,none⟩) 1 1) (hg0:g0=w0.heap.size) (hl:(f y).length=sz) (h1:∀u ∈ f y,u.oneCell'=true) (hn:l.length+1<=9223372036854775807) (hby:(l.length+1)*bytes<=140737488355328)
  (hK:∀g cap w',qj f e sz w' B (.slice (some ⟨g,0,none⟩) (l.length+1) cap) (l++[y])->Yz w0 w' v (.slice (some ⟨g,0,none⟩) (l.length+1) cap)->wpList P ops Q rest (a.put o.dst (.slice (some ⟨g,0,none⟩) (l.length+1) cap)) w'):
  wpList P ops Q (o::rest) a (w0.alloc (.cells (f y).toArray e)):=
 wpList_plain hgd fun _ hK'=>QY s x t ho z bytes ht hinfo hzs hown y hbase hs hx hg0 hl h1 hn hby fun g cap w' h2 h3=>hK' _ _ (hK g cap w' h2 h3)
theorem qj.lit (w:World) (B:Nat) (hB:B<=w.heap.size) (l:List α) (hl:∀y,(f y).length=sz) (hn:l.length<=9223372036854775807):
  qj f e sz (w.alloc (.cells (l.flatMap f).toArray e)) B (.slice (some ⟨w.heap.size,0,none⟩) l.length l.length) l:=by
 refine⟨jG f sz hl l,.inr ⟨w.heap.size,l.length,_,rfl,hB,heap_alloc_new w _,Nat.le_refl _,by unfold maxLen;omega,by simp[jG f sz hl l],?_⟩⟩;rw[←jG f sz hl l];exact List.take_length
end
theorem qa {w:World} {g:Nat} {cs:Array Value} {t:TypeId} {fz:Nat×Nat} (h:w.heap[g]?=some (.cells cs t fz)) (j:Nat):w.cell? ⟨g,j,none⟩=cs[j]?:=by
 simp only[World.cell?,h,Option.isSome_none,Bool.false_eq_true,if_false]
theorem qt {w:World} {g:Nat} {cs:Array Value} {t:TypeId} (h:w.heap[g]?=some (.cells cs t (0,0))) (j:Nat):w.frozen? ⟨g,j,none⟩=false:=by
 simp[World.frozen?,h]
theorem qn {w:World} {g:Nat} {cs:Array Value} {t:TypeId} {fz:Nat×Nat} (h:w.heap[g]?=some (.cells cs t fz)) (j:Nat) (v:Value):(w.setCell ⟨g,j,none⟩ v).heap[g]?=some (.cells (cs.setIfInBounds j v) t fz):=by
 simp[World.setCell,Array.getElem?_modify,h]
theorem qs (w:World) (o:Obj):(w.alloc o).heap[w.heap.size]?=some o:=heap_alloc_new w o
theorem qy {w:World} {o:Obj} {g:Nat} {x:Obj} (h:w.heap[g]?=some x):(w.alloc o).heap[g]?=some x:=
 (Below.heap_alloc w o g (Array.getElem?_eq_some_iff.1 h).1).trans h
theorem qe {w:World} {g:Nat} {x:Obj} (h:w.heap[g]?=some x):g < w.heap.size:=(Array.getElem?_eq_some_iff.1 h).1
theorem qh {w w':World} {B g:Nat} {x:Obj} (h:w.heap[g]?=some x) (hb:Below B w w') (hg:g < B):w'.heap[g]?=some x:=(hb.block g hg).trans h
theorem qS {w w':World} {v v':Value} {g:Nat} {x:Obj} (h:w.heap[g]?=some x) (hb:Yz w w' v v') (hg:v.ownBlock≠some g):w'.heap[g]?=some x:=
 (hb.grown.block g (qe h) (fun e=>hg e.symm)).trans h
theorem zS {w:World} {g:Nat} {x:Obj} (h:w.heap[g]?=some x):w.drew.heap[g]?=some x:=h
theorem qI {w:World} {g g' j:Nat} {x:Obj} {v:Value} (h:w.heap[g]?=some x) (hne:g'≠g):(w.setCell ⟨g',j,none⟩ v).heap[g]?=some x:=
 (Below.heap_setCell w ⟨g',j,none⟩ v g (fun e=>hne e.symm)).trans h
section
variable {α:Type} {f:α->List Value} {e:TypeId} {sz:Nat} {w w':World} {B:Nat} {v:Value} {l:List α}
theorem qj.set (h:qj f e sz w B v l) {g j:Nat} {u:Value} (hg:g < B):qj f e sz (w.setCell ⟨g,j,none⟩ u) B v l:=ownsRow_setCell_below h (a:=⟨g,j,none⟩) hg u
theorem qj.grw {v1 v2:Value} (h:qj f e sz w B v l) (hb:Yz w w' v1 v2) (hne:∀k,v.ownBlock=some k->v1.ownBlock≠some k):qj f e sz w' B v l:=by
 refine h.kept hb.grown ?_;cases hv:v.ownBlock with
 |none=>exact .inl rfl
 |some k=>exact .inr (fun e=>hne k hv e.symm)
end
theorem ZS (w:World) (o:Obj):(w.alloc o).drew=w.drew.alloc o:=rfl
theorem qX {w:World} {o:Obj} {g:Nat} (hg:g=w.heap.size):(w.alloc o).heap[g]?=some o:=by rw[hg];exact qs w o
theorem wp_appS {α:Type} {f:α->List Value} {e:TypeId} {sz B N:Nat} {v u:Value} {l:List α} {P:Program} {o:Oper} {a:Act} {K:Act->World->Prop} {Q:Exit->Act->World->Prop} (s x:Operand) (t:TypeId)
  (ho:o.op=.call {callee:=.builtin .append,args:=#[s,x],argTypes:=#[t,t]})
  (z:Value) (bytes:Nat) (ht:P.underlying t=some (.slice e)) (hinfo:(P.info? e).map (fun i=>(i.zero,i.size,i.bytes))=some (some z,sz,bytes))
  (hzs:z.cells.size=sz) {w:World} (hown:qj f e sz w B v l) (ys:List α) {m:Nat} (hm:ys.length=m) (hm0:0 < m) (hsrc:Sl w N sz u m (ys.flatMap f)) (hbase:B<=w.heap.size) (hs:a.eval s=v)
  (hx:a.eval x=u) (hl:∀y,(f y).length=sz) (h1:∀y,∀u ∈ f y,u.oneCell'=true) (hn:l.length+m<=9223372036854775807) (hby:(l.length+m)*bytes<=140737488355328)
  (hK:∀g cap w',qj f e sz w' B (.slice (some ⟨g,0,none⟩) (l.length+m) cap) (l++ys)->Yz w w' v (.slice (some ⟨g,0,none⟩) (l.length+m) cap)->K (a.put o.dst (.slice (some ⟨g,0,none⟩) (l.length+m) cap)) w'):
  o.wp P a w K Q:=by
 obtain⟨i0,hi,hz0,hz1,hz2⟩:=info_parts hinfo;obtain⟨ad,c,rfl,hml,hsl,hc⟩:=hsrc;obtain⟨b,off,rfl,hb,hc⟩:=hc hm0;obtain⟨g,cap,w',hr,hown',hgrow,hg⟩:=vP (P:=P) w B t o.type e i0 z sz bytes ht hi hz0 hz1 hz2 hzs v l.length (l.flatMap f) hown ⟨b,off,none⟩ m c hm0 (ys.flatMap f) hsl
  (fun j u hu=>by
   have hadd:((⟨b,off,none⟩:Addr).add j)=⟨b,off+j,none⟩:=by unfold Addr.add;split <;> simp_all
   rw[hadd];exact hc j u hu) (fun u hu=>by obtain⟨y,_,hy⟩:=List.mem_flatMap.1 hu;exact h1 y u hy) (by unfold maxLen;omega) hby hbase
 unfold Oper.wp execOp;simp only[ho,resolve,invoke,builtin,Sem.run_bind,Sem.run_pure,Result.andThen_ok,List.map_toArray,List.map_cons,List.map_nil,hs,hx,hr];refine hK g cap w' ?_ ⟨hgrow,?_⟩
 ·unfold qj
  rw[List.flatMap_append,List.length_append,hm];exact hown'
 ·intro k hk
  simp only[Value.ownBlock,Option.some.injEq] at hk;subst hk;rcases hg with hg|hg
  ·right;omega
  ·exact .inl hg
section
attribute [local irreducible] xL
def jF (x:Int):List Value:=[.int .i64 x]
abbrev yF:=qj jF 3 1
theorem vV (l:List Int):l.flatMap jF=l.map (.int .i64):=by induction l with|nil=>rfl|cons x l ih=>simp[jF,ih]
def XL (v:Value):List Value:=[v]
theorem flat_val (l:List Value):l.flatMap XL=l:=by induction l with|nil=>rfl|cons x l ih=>simp[XL,ih]
theorem qj.at1 {e:TypeId} {w:World} {B n c:Nat} {a:Option Addr} {vs:List Value} (h:qj XL e 1 w B (.slice a n c) vs) (hn:vs.length=n) {k:Nat} (hk:k < n):∃g u,a=some ⟨g,0,none⟩/\g < w.heap.size/\vs[k]?=some u/\w.cell? ⟨g,k,none⟩=some u:=by
 have hs:Sl w w.heap.size 1 (.slice a n c) n (vs.flatMap XL):=by rw[←hn] at h ⊢;exact h.sl
 rcases h.form with⟨-,rfl⟩|⟨g,cap',e,hB,hg⟩
 ·simp at hn;omega
 ·simp only[Value.slice.injEq,Option.some.injEq] at e
  obtain⟨rfl,-,rfl⟩:=e;obtain⟨b,off,u,hb,-,hu,hc⟩:=hs.at1 hk;simp only[Option.some.injEq,Addr.mk.injEq,and_true] at hb;obtain⟨rfl,rfl⟩:=hb;rw[flat_val] at hu;exact⟨g,u,rfl,hg,hu,by simpa using hc⟩
theorem qj.len {α:Type} {f:α->List Value} {e:TypeId} {sz B n c:Nat} {a:Option Addr} {w:World} {l:List α} (h:qj f e sz w B (.slice a n c) l):l.length=n:=by
 rcases h.form with⟨h1,h2⟩|⟨g,cap,h1,-⟩
 ·simp only[Value.slice.injEq] at h1
  rw[h2,h1.2.1];rfl
 ·simp only[Value.slice.injEq] at h1
  exact h1.2.1.symm
theorem qj.form2 {α:Type} {f:α->List Value} {e:TypeId} {sz B:Nat} {v:Value} {w:World} {l:List α} (h:qj f e sz w B v l):∃a c,v=.slice a l.length c/\l.length<=9223372036854775807:=h.sl.ex
end
section
attribute [local irreducible] xL
theorem qj.keepObj {α:Type} {f:α->List Value} {e:TypeId} {sz:Nat} {w:World} {B:Nat} {v:Value} {l:List α} (h:qj f e sz w B v l):∀k,v.ownBlock=some k->∃cs,w.heap[k]?=some (.cells cs e (0,0)):=by
 intro k hk;obtain⟨-,h2⟩:=h;rcases h2 with⟨rfl,-⟩|⟨g,cap,cur,rfl,-,hh,-⟩
 ·cases hk
 ·simp only[Value.ownBlock,Option.some.injEq] at hk
  subst hk;exact⟨cur,hh⟩
theorem qj.other {α:Type} {f:α->List Value} {e:TypeId} {sz B g j:Nat} {v:Value} {l:List α} {w:World} (h:qj f e sz w B v l) (hg:v.ownBlock≠some g) (u:Value):qj f e sz (w.setCell ⟨g,j,none⟩ u) B v l:=
 ownsRow_setCell_other (a:=⟨g,j,none⟩) h hg u
theorem qj.neT {α:Type} {f:α->List Value} {e:TypeId} {sz B g:Nat} {v:Value} {l:List α} {w:World} {cs:Array Value} {t:TypeId} {fz:Nat×Nat} (h:qj f e sz w B v l) (hg:w.heap[g]?=some (.cells cs t fz)) (he:t≠e):v.ownBlock≠some g:=fun hk=>by
 obtain⟨c2,h2⟩:=h.keepObj g hk;rw[hg] at h2;simp only[Option.some.injEq,Obj.cells.injEq] at h2;exact he h2.2.1
theorem ud:(Tryz.prog.info? 69).map (fun i=>(i.zero,i.size,i.bytes))=some (some (.agg #[.int .i64 0,.int .i64 0,.int .i64 0,.int .i64 0,.int .i64 0,.int .i64 0,.int .i64 0,.int .i64 0]),8,64):=by kernel_rfl
theorem ug (x:Ev):∀u ∈ x.cells,u.oneCell'=true:=by intro u hu;simp[Ev.cells] at hu;rcases hu with rfl|rfl|rfl|rfl|rfl|rfl|rfl|rfl <;> rfl
abbrev Ql (e:Ev):Value:=.agg #[.int .i64 e.kind,.int .i64 e.tx,.int .i64 e.thread,.int .i64 e.obj,.int .i64 e.op,.int .i64 e.key,.int .i64 e.val,.int .i64 e.ret]
end
