/- Parts of the proof; the first: A region that draws its order of evaluation, walked along a tree of orders that is written out: a theorem on the calculus alone. Conditions: those of each theorem, as typed. -/
import Derived.Orders
import Derived.WalkKit
import Derived.ProofKit
import Derived.Deep.Draws
import Derived.Test.YtkfhgifhfkcehaaGreatDoorChecked
import Derived.Outline
set_option linter.unusedVariables false
set_option linter.unusedSimpArgs false
set_option linter.unusedSectionVars false
set_option maxRecDepth 100000
set_option maxHeartbeats 4000000
namespace Go.Proofs.YtkfhgifhfkcehaaGreatDoor
open Go.RowKit
theorem sA {α:Type _} (l:List α) (i:Nat) (a:α):l.toArray.setIfInBounds i a=(l.set i a).toArray:=List.setIfInBounds_toArray ..
theorem sB {α:Type _} {x a:α} {l:List α}:(a::l).set 0 x=x::l:=List.set_cons_zero
theorem sC {α:Type _} {x a:α} {l:List α} {n:Nat}:(a::l).set (n+1) x=a::l.set n x:=List.set_cons_succ
theorem sD {α:Type _} {a:α} {l:List α}:(a::l)[0]?=some a:=List.getElem?_cons_zero
theorem sE {α:Type _} {a:α} {l:List α} {n:Nat}:(a::l)[n+1]?=l[n]?:=List.getElem?_cons_succ
theorem sF {α:Type _} {x d:α} {l:List α}:(x::l).getD 0 d=x:=List.getD_cons_zero
theorem sG {α:Type _} {x d:α} {l:List α} {n:Nat}:(x::l).getD (n+1) d=l.getD n d:=List.getD_cons_succ
def Only (Q:Exit->Act->World->Prop):Exit->Act->World->Prop:=fun e a w=>match e with
 |.normal=>Q .normal a w
 |_=>False
def xU (w w':World):Prop:=w.heap.size<=w'.heap.size/\∀k,k < w.heap.size->w'.heap[k]?=w.heap[k]?
theorem xU.refl (w:World):xU w w:=⟨Nat.le_refl _,fun _ _=>rfl⟩
theorem xU.trans {a b c:World} (h:xU a b) (k:xU b c):xU a c:=
 ⟨Nat.le_trans h.1 k.1,fun i hi=>(k.2 i (Nat.lt_of_lt_of_le hi h.1)).trans (h.2 i hi)⟩
theorem xU.heap {w w':World} (h:xU w w') (k:Nat) (hk:(w.heap[k]?).isSome=true):w'.heap[k]?=w.heap[k]?:=by
 refine h.2 k ?_;rcases Nat.lt_or_ge k w.heap.size with h'|h'
 ·exact h'
 ·simp [Array.getElem?_eq_none h'] at hk
theorem xU.cell {w w':World} (h:xU w w') (a:Addr) (hk:(w.cell? a).isSome=true):w'.cell? a=w.cell? a:=by
 have h2:=h.heap a.block (by
  unfold World.cell? at hk
  split at hk
  ·rename_i heq;rw[heq];rfl
  ·cases hk)
 unfold World.cell?;rw[h2]
theorem xU.alloc (w:World) (o:Obj):xU w (w.alloc o):=⟨by simp,fun k hk=>by
 show(w.heap.push o)[k]?=_;rw[Array.getElem?_push,if_neg (by omega)]⟩
theorem xU.of_below {w w':World} (h:Below w.heap.size w w'):xU w w':=⟨h.size,h.block⟩
class Rgl (R:World->World->Prop):Prop where
 refl:∀w,R w w
 trans:∀{a b c},R a b->R b c->R a c
instance:Rgl xU:=⟨xU.refl,xU.trans⟩
namespace RN
def KeepsN (N:Nat) (w w':World):Prop:=w.heap.size<=w'.heap.size/\∀k,k < N->w'.heap[k]?=w.heap[k]?
theorem KeepsN.refl (N:Nat) (w:World):KeepsN N w w:=⟨Nat.le_refl _,fun _ _=>rfl⟩
theorem KeepsN.trans {N:Nat} {a b c:World} (h:KeepsN N a b) (k:KeepsN N b c):KeepsN N a c:=⟨Nat.le_trans h.1 k.1,fun i hi=>(k.2 i hi).trans (h.2 i hi)⟩
theorem KeepsN.cell {N:Nat} {w w':World} (h:KeepsN N w w') (b off:Nat) (hb:b < N):w'.cell? ⟨b,off,none⟩=w.cell? ⟨b,off,none⟩:=by
 simp only[World.cell?,h.2 b hb]
theorem KeepsN.alloc {N:Nat} (w:World) (o:Obj) (hN:N<=w.heap.size):KeepsN N w (w.alloc o):=⟨by simp,fun k hk=>by
 show(w.heap.push o)[k]?=_;rw[Array.getElem?_push,if_neg (by omega)]⟩
theorem KeepsN.of_below {N:Nat} {w w':World} (h:Below N w w'):KeepsN N w w':=⟨h.size,h.block⟩
theorem KeepsN.set {N:Nat} (w:World) (a:Addr) (v:Value) (h:N<=a.block):KeepsN N w (w.setCell a v):=⟨by simp,fun k hk=>Below.heap_setCell _ _ _ _ (by omega)⟩
instance (N:Nat):Rgl (KeepsN N):=⟨KeepsN.refl N,KeepsN.trans⟩
end RN
namespace RK
def KeepsN (N:Nat->Prop) (w w':World):Prop:=w.heap.size<=w'.heap.size/\∀k,N k->w'.heap[k]?=w.heap[k]?
theorem KeepsN.refl (N:Nat->Prop) (w:World):KeepsN N w w:=⟨Nat.le_refl _,fun _ _=>rfl⟩
theorem KeepsN.trans {N:Nat->Prop} {a b c:World} (h:KeepsN N a b) (k:KeepsN N b c):KeepsN N a c:=⟨Nat.le_trans h.1 k.1,fun i hi=>(k.2 i hi).trans (h.2 i hi)⟩
theorem KeepsN.cell {N:Nat->Prop} {w w':World} (h:KeepsN N w w') (b off:Nat) (hb:N b):w'.cell? ⟨b,off,none⟩=w.cell? ⟨b,off,none⟩:=by
 simp only[World.cell?,h.2 b hb]
theorem KeepsN.set {N:Nat->Prop} (w:World) (a:Addr) (v:Value) (h:¬N a.block):KeepsN N w (w.setCell a v):=⟨by simp,fun k hk=>Below.heap_setCell _ _ _ _ (by rintro rfl;exact h hk)⟩
instance (N:Nat->Prop):Rgl (KeepsN N):=⟨KeepsN.refl N,KeepsN.trans⟩
end RK
section
variable {R:World->World->Prop} [Rgl R] {P:Program} {ops:Array Oper} {Q Q':Exit->Act->World->Prop} {md:Region.Mode} {kd:Nat->Nat} {C:World->Prop}
theorem yJ:¬LetsOut (Only Q):=fun⟨_,_,h⟩=>h
theorem wp_only {o:Oper} {a:Act} {w:World} {K K':Act->World->Prop} (h:∀a w,K a w->K' a w)
  (hh:o.wp P a w K (Only Q')):o.wp P a w K' Q:=by
 unfold Oper.wp at *;generalize (execOp a.eval o).run P w=r at *;cases r with
 |ok n w'=>
  cases n <;> simp only[Oper.upon] at hh ⊢ <;>
   first
    |exact h _ _ hh
    |exact Calls.mono hh (fun e w'' he=>by cases e <;> first|exact h _ _ he|exact(he:False).elim|exact(yJ he).elim)
    |exact Rows.mono hh (fun _ _ he=>h _ _ he)
 |halt x w'=>cases x <;> simp only[Oper.upon] at hh ⊢ <;> exact(hh:False).elim
def yT (R:World->World->Prop) (P:Program) (ops:Array Oper) (kd:Nat->Nat) (Q:Exit->Act->World->Prop) (i:Nat) (K:Act->World->Prop) (a:Act) (w:World):Prop:=
 match ops[i]? with
 |none=>K a w
 |some o=>
  if Region.wanted o (yielded ops a.tmps) then
   (kd i=0->∃v,(∀w',(execOp a.eval o).run P w'=.ok (.value v) w')/\K (a.put o.dst v) w)/\
   (kd i=1->∃v,(∀w',R w w'->(execOp a.eval o).run P w'=.ok (.value v) w')/\K (a.put o.dst v) w)/\
   (kd i=2->o.wp P a w K (Only Q))/\
   (3<=kd i->o.wp P a w (fun a' w'=>R w w'/\K a' w') (Only Q))
  else K (a.put o.dst undef) w
omit [Rgl R] in
theorem wpOpX_mono {i:Nat} {a:Act} {w:World} {K K':Act->World->Prop} (h:∀a w,K a w->K' a w) (hh:yT R P ops kd Q' i K a w):yT R P ops kd Q i K' a w:=by
 unfold yT at *;cases ho:ops[i]? with
 |none=>simp only[ho] at hh ⊢;exact h _ _ hh
 |some o=>
  simp only[ho] at hh ⊢
  split
  ·rename_i hw
   simp only[hw,if_true] at hh;exact⟨fun hk=>let ⟨v,h1,h2⟩:=hh.1 hk;⟨v,h1,h _ _ h2⟩,fun hk=>let ⟨v,h1,h2⟩:=hh.2.1 hk;⟨v,h1,h _ _ h2⟩,fun hk=>wp_only h (hh.2.2.1 hk),fun hk=>wp_only (fun a w h'=>⟨h'.1,h a w h'.2⟩) (hh.2.2.2 hk)⟩
  ·rename_i hw;simp only[hw] at hh;exact h _ _ hh
theorem wpOp_of_wpOpX {i:Nat} {a:Act} {w:World} {K K':Act->World->Prop} (h:∀a w,K a w->K' a w)
  (hh:yT R P ops kd Q i K a w):wpOp P ops Q i K' a w:=by
 unfold yT at hh;unfold wpOp
 split
 ·exact h _ _ (by simpa[*] using hh)
 ·rename_i o ho
  simp only[ho] at hh
  split
  ·rename_i hw
   simp only[hw,if_true] at hh;refine .inl ?_;rcases Nat.lt_or_ge (kd i) 2 with hk|hk
   ·rcases Nat.lt_or_ge (kd i) 1 with hk'|hk'
    ·obtain ⟨v,h1,h2⟩:=hh.1 (by omega)
     simp only[Oper.wp,h1 w,Oper.upon];exact h _ _ h2
    ·obtain ⟨v,h1,h2⟩:=hh.2.1 (by omega)
     simp only[Oper.wp,h1 w (Rgl.refl w),Oper.upon];exact h _ _ h2
   ·rcases Nat.lt_or_ge (kd i) 3 with hk'|hk'
    ·exact wp_only h (hh.2.2.1 (by omega))
    ·exact wp_only (fun a w h'=>h a w h'.2) (hh.2.2.2 hk')
  ·rename_i hw;simp only[hw] at hh;exact h _ _ hh
def wpAnyX (R:World->World->Prop) (P:Program) (md:Region.Mode) (ops:Array Oper) (kd:Nat->Nat) (Q:Exit->Act->World->Prop):Nat->Array Bool->Act->World->Prop
 |0,listed,a,w=>Region.ready md ops listed=[]/\Q .normal a w
 |fuel+1,listed,a,w=>
  (Region.ready md ops listed=[]->Q .normal a w)/\
  ∀i ∈ Region.ready md ops listed,yT R P ops kd Q i (wpAnyX R P md ops kd Q fuel (listed.setIfInBounds i true)) a w
theorem wpAny_of_X:∀(fuel:Nat) (listed:Array Bool) (a:Act) (w:World),wpAnyX R P md ops kd Q fuel listed a w->wpAny P md ops Q fuel listed a w
 |0,_,_,_,h=>h
 |fuel+1,_,_,_,h=>⟨h.1,fun i hi=>wpOp_of_wpOpX (fun a w=>wpAny_of_X fuel _ a w) (h.2 i hi)⟩
def zk (P:Program) (ops:Array Oper) (C:World->Prop) (o:Oper) (v:Value) (a:Act):Prop:=
 (Region.wanted o (yielded ops a.tmps)=true/\∀w,C w->(execOp a.eval o).run P w=.ok (.value v) w)\/
 (Region.wanted o (yielded ops a.tmps)=false/\v=undef)
theorem zk.of_same {o:Oper} {v:Value} {a a':Act} (hy:zk P ops C o v a) (he:execOp a'.eval o=execOp a.eval o)
  (hw:Region.wanted o (yielded ops a'.tmps)=Region.wanted o (yielded ops a.tmps)):zk P ops C o v a':=by
 unfold zk at *;rw[he,hw];exact hy
omit [Rgl R] in
theorem wpOpX_put {j:Nat} {oi oj:Oper} {v:Value} (hj:ops[j]?=some oj) (hap:oi.apart ops oj=true)
  (hsi:∀cs b,oi.op≠.select cs b) (hsj:∀cs b,oj.op≠.select cs b) (hCk:∀w w',C w->R w w'->C w') (hE:kd j≠2\/∀w,C w)
  {K:Act->World->Prop} {a:Act} {w:World} (hC:C w)
  (hy:zk P ops C oi v a) (h:yT R P ops kd Q j K (a.put oi.dst v) w):
  yT R P ops kd Q j (fun a' w'=>C w'/\zk P ops C oi v a'/\K (a'.put oi.dst v) w') a w:=by
 obtain⟨h1,h2,h3⟩:=Oper.apart_spec hap;have keep:∀(a:Act),zk P ops C oi v a->∀u,zk P ops C oi v (a.put oj.dst u):=fun a hy u=>
  hy.of_same (execOp_put oi hsi a oj.dst u h3) (wanted_put oi a oj.dst u h3)
 have keepD:∀d,zk P ops C oi v {a with defers:=d::a.defers}:=fun d=>hy.of_same rfl rfl;unfold yT at *;simp only[hj] at *;rw[wanted_put oj a oi.dst v h1,execOp_put oj hsj a oi.dst v h1] at h
 split
 ·rename_i hw
  simp only[hw,if_true] at h;refine⟨fun hk=>?_,fun hk=>?_,fun hk=>?_,fun hk=>?_⟩
  ·obtain ⟨u,h4,h5⟩:=h.1 hk
   exact⟨u,h4,hC,keep a hy u,by rw[←Act.put_comm a v u h2];exact h5⟩
  ·obtain ⟨u,h4,h5⟩:=h.2.1 hk
   exact⟨u,h4,hC,keep a hy u,by rw[←Act.put_comm a v u h2];exact h5⟩
  ·have hall:∀w,C w:=hE.resolve_left (fun h=>h hk)
   replace h:=h.2.2.1 hk;unfold Oper.wp at *;rw[execOp_put oj hsj a oi.dst v h1] at h;generalize (execOp a.eval oj).run P w=r at *;cases r with
   |ok n w'=>
    cases n <;> simp only[Oper.upon] at h ⊢
    case value u=>exact⟨hall _,keep a hy u,by rw[←Act.put_comm a v u h2];exact h⟩
    case skip=>exact⟨hall _,keep a hy _,by rw[←Act.put_comm a v undef h2];exact h⟩
    case defer d=>
     refine⟨hall _,keep _ (keepD d) _,?_⟩;rw[←Act.put_comm _ v undef h2,←Act.put_defers];exact h
    case enter f args=>
     refine Calls.mono h fun e w'' he=>?_;cases e with
     |returned u=>exact⟨hall _,keep a hy u,by rw[←Act.put_comm a v u h2];exact he⟩
     |panicked c=>exact(he:False).elim
     |outgrown=>exact(yJ he).elim
    case row row args=>exact Rows.mono h fun u w'' he=>⟨hall _,keep a hy u,by rw[←Act.put_comm a v u h2];exact he⟩
   |halt x w'=>
    cases x <;> simp only[Oper.upon] at h ⊢
    case panic u=>exact(h:False).elim
  ·replace h:=h.2.2.2 hk
   unfold Oper.wp at *;rw[execOp_put oj hsj a oi.dst v h1] at h;generalize (execOp a.eval oj).run P w=r at *;cases r with
   |ok n w'=>
    cases n <;> simp only[Oper.upon] at h ⊢
    case value u=>exact⟨h.1,hCk _ _ hC h.1,keep a hy u,by rw[←Act.put_comm a v u h2];exact h.2⟩
    case skip=>exact⟨h.1,hCk _ _ hC h.1,keep a hy _,by rw[←Act.put_comm a v undef h2];exact h.2⟩
    case defer d=>
     refine⟨h.1,hCk _ _ hC h.1,keep _ (keepD d) _,?_⟩;rw[←Act.put_comm _ v undef h2,←Act.put_defers];exact h.2
    case enter f args=>
     refine Calls.mono h fun e w'' he=>?_;cases e with
     |returned u=>exact⟨he.1,hCk _ _ hC he.1,keep a hy u,by rw[←Act.put_comm a v u h2];exact he.2⟩
     |panicked c=>exact(he:False).elim
     |outgrown=>exact(yJ he).elim
    case row row args=>exact Rows.mono h fun u w'' he=>⟨he.1,hCk _ _ hC he.1,keep a hy u,by rw[←Act.put_comm a v u h2];exact he.2⟩
   |halt x w'=>
    cases x <;> simp only[Oper.upon] at h ⊢
    case panic u=>exact(h:False).elim
 ·rename_i hw
  simp only[hw] at h;exact⟨hC,keep a hy _,by rw[←Act.put_comm a v undef h2];exact h⟩
def waits (md:Region.Mode) (ops:Array Oper):Nat->Nat->Nat->Bool
 |0,_,_=>false
 |n+1,j,i=>match ops[j]? with
  |none=>false
  |some oj=>oj.after.any fun e=>Region.binds md e&&(e.on==i||waits md ops n e.on i)
theorem foldl_before {ops:Array Oper} {acc:Array Nat} {j:Nat} {oj:Oper} (hoj:ops[j]?=some oj) (hacc:∀k i,(acc.getD k 0).testBit i=true->∃n,waits .any ops n k i=true):
  ∀(es:List Edge) (s:Nat),(∀e ∈ es,e ∈ oj.after)->(∀i,s.testBit i=true->∃n,waits .any ops n j i=true)->
   ∀i,(es.foldl (fun s e=>if Region.binds .any e then s|||2 ^ e.on|||acc.getD e.on 0 else s) s).testBit i=true->∃n,waits .any ops n j i=true
 |[],s,_,hs,i,h=>hs i h
 |e::es,s,hes,hs,i,h=>by
  rw[List.foldl_cons] at h;refine foldl_before hoj hacc es _ (fun e' he'=>hes e' (List.mem_cons_of_mem _ he')) ?_ i h;intro i hi
  split at hi
  ·rename_i hb
   simp only[Nat.testBit_or,Bool.or_eq_true,Nat.testBit_two_pow,decide_eq_true_eq] at hi;have he:=hes e (List.mem_cons_self);rcases hi with(hi|hi)|hi
   ·exact hs i hi
   ·refine ⟨1,?_⟩
    simp only[waits,hoj];exact Array.any_eq_true'.2 ⟨e,he,by simp[hb,hi]⟩
   ·obtain ⟨n,hn⟩:=hacc _ _ hi
    refine⟨n+1,?_⟩;rw[waits];simp only[hoj];exact Array.any_eq_true'.2 ⟨e,he,by simp[hb,hn]⟩
  ·exact hs i hi
theorem before_list {ops:Array Oper}:∀(l:List Oper) (acc:Array Nat),(∀k,l[k]?=ops[acc.size+k]?)->(∀k i,(acc.getD k 0).testBit i=true->∃n,waits .any ops n k i=true)->
  ∀k i,((l.foldl (fun acc o=>acc.push (o.after.foldl (fun s e=>if Region.binds .any e then s|||2 ^ e.on|||acc.getD e.on 0 else s) 0)) acc).getD k 0).testBit i=true->∃n,waits .any ops n k i=true
 |[],_,_,hacc,k,i,h=>hacc k i h
 |o::l,acc,hl,hacc,k,i,h=>by
  rw[List.foldl_cons] at h;refine before_list l _ (fun k=>?_) ?_ k i h
  ·have:=hl (k+1)
   simp only[List.getElem?_cons_succ] at this;rw[this,Array.size_push];congr 1;omega
  ·intro k i hk
   have hoj:ops[acc.size]?=some o:=by have:=hl 0;simpa using this.symm
   by_cases hlt:k < acc.size
   ·refine hacc k i ?_
    have:(acc.push (o.after.foldl (fun s e=>if Region.binds .any e then s|||2 ^ e.on|||acc.getD e.on 0 else s) 0)).getD k 0=acc.getD k 0:=by
     simp[Array.getD_eq_getD_getElem?,Array.getElem?_push,Nat.ne_of_lt hlt]
    rwa [this] at hk
   ·by_cases heq:k=acc.size
    ·subst heq
     have:(acc.push (o.after.foldl (fun s e=>if Region.binds .any e then s|||2 ^ e.on|||acc.getD e.on 0 else s) 0)).getD acc.size 0=o.after.foldl (fun s e=>if Region.binds .any e then s|||2 ^ e.on|||acc.getD e.on 0 else s) 0:=by
      simp[Array.getD_eq_getD_getElem?]
     rw[this,←Array.foldl_toList] at hk;exact foldl_before hoj hacc o.after.toList 0 (fun e he=>by simpa using he) (fun i hi=>by simp at hi) i hk
    ·have:(acc.push (o.after.foldl (fun s e=>if Region.binds .any e then s|||2 ^ e.on|||acc.getD e.on 0 else s) 0)).getD k 0=0:=by
      simp[Array.getD_eq_getD_getElem?,Array.getElem?_push,heq,Array.getElem?_eq_none (show acc.size<=k by omega)]
     rw[this] at hk;simp at hk
theorem before_waits {ops:Array Oper} {j i:Nat} (h:((Region.before ops).getD j 0).testBit i=true):∃n,waits .any ops n j i=true:=by
 unfold Region.before at h;rw[←Array.foldl_toList] at h;exact before_list ops.toList #[] (by simp) (fun k i hk=>by simp at hk) j i h
def Closed (md:Region.Mode) (ops:Array Oper) (listed:Array Bool):Prop:=
 ∀j oj,ops[j]?=some oj->listed.getD j false=true->∀e ∈ oj.after,Region.binds md e=true->listed.getD e.on false=true
theorem waits_not_ready {listed:Array Bool} {i:Nat} (hcl:Closed md ops listed) (hi:listed.getD i false=false):
  ∀(n j:Nat),waits md ops n j i=true->listed.getD j false=false/\j ∉ Region.ready md ops listed:=by
 intro n
 induction n with
 |zero=>intro j h;simp[waits] at h
 |succ n ih=>
  intro j h;simp only[waits] at h
  split at h
  ·cases h
  ·rename_i oj hoj
   obtain⟨e,he,hb⟩:=Array.any_eq_true'.1 h;simp only[Bool.and_eq_true,Bool.or_eq_true,beq_iff_eq] at hb;obtain⟨hb,hon⟩:=hb;have hun:listed.getD e.on false=false:=by
    rcases hon with hon|hon
    ·rw [hon];exact hi
    ·exact (ih e.on hon).1
   refine⟨?_,fun hr=>?_⟩
   ·cases hl:listed.getD j false with
    |false=>rfl
    |true=>have:=hcl j oj hoj hl e he hb;rw[hun] at this;cases this
   ·obtain ⟨_,o,ho,hall⟩:=mem_ready.1 hr
    rw[hoj] at ho;cases ho;have:=hall e he hb;rw[hun] at this;cases this
theorem Closed.put {listed:Array Bool} (hcl:Closed md ops listed) {j:Nat} (hj:j ∈ Region.ready md ops listed):Closed md ops (listed.setIfInBounds j true):=by
 intro k ok hok hl e he hb;by_cases hjk:j=k
 ·subst hjk
  obtain⟨_,o,ho,hall⟩:=mem_ready.1 hj;rw[hok] at ho;cases ho;exact getD_set_true (hall e he hb)
 ·rw [getD_set_ne false hjk] at hl
  exact getD_set_true (hcl k ok hok hl e he hb)
theorem getD_false_of_true {listed:Array Bool} {i:Nat} (h:listed.getD i true=false):listed.getD i false=false:=by
 rcases Nat.lt_or_ge i listed.size with h'|h'
 ·simp [h'] at h ⊢;exact h
 ·simp [Array.getElem?_eq_none h'] at h
omit [Rgl R] in
theorem wpAnyX_first {i:Nat} {oi:Oper} {v:Value} (hi:ops[i]?=some oi) (hsel:∀(j:Nat) (o:Oper) cs b,ops[j]?=some o->o.op≠.select cs b) (hki:kd i<=1)
  (hCk:∀w w',C w->R w w'->C w')
  (hput:∀(a:Act) (w:World) K,C w->zk P ops C oi v a->K (a.put oi.dst v) w->yT R P ops kd Q i K a w):
  ∀(fuel:Nat) (listed:Array Bool) (a:Act) (w:World),Closed md ops listed->C w->
   (∀j oj,ops[j]?=some oj->j≠i->listed.getD j true=false->¬(∃n,waits md ops n j i=true)->oi.apart ops oj=true/\(kd j≠2\/∀w,C w))->
   i ∈ Region.ready md ops listed->zk P ops C oi v a->
   wpAnyX R P md ops kd Q fuel (listed.setIfInBounds i true) (a.put oi.dst v) w->wpAnyX R P md ops kd Q (fuel+1) listed a w:=by
 intro fuel
 induction fuel with
 |zero=>
  intro listed a w _ hC _ hr hy H;refine⟨fun h=>(by rw[h] at hr;cases hr),fun j hj=>?_⟩;by_cases hji:j=i
  ·subst hji;exact hput a w _ hC hy H
  ·have:=ready_mono hj hji
   rw[H.1] at this;cases this
 |succ fuel ih=>
  intro listed a w hcl hC hfree hr hy H;refine⟨fun h=>(by rw[h] at hr;cases hr),fun j hj=>?_⟩;by_cases hji:j=i
  ·subst hji;exact hput a w _ hC hy H
  ·have h1:=H.2 j (ready_mono hj hji)
   obtain⟨hjun,oj,hoj,hall⟩:=mem_ready.1 hj;have hiun:=getD_false_of_true (mem_ready.1 hr).1;have hnw:¬(∃n,waits md ops n j i=true):=fun⟨n,hw⟩=>absurd hj (waits_not_ready hcl hiun n j hw).2;obtain⟨hap,hE⟩:=hfree j oj hoj hji hjun hnw;have h2:=wpOpX_put hoj hap (fun cs b=>hsel i oi cs b hi) (fun cs b=>hsel j oj cs b hoj) hCk hE hC hy h1;have hfree':∀k ok,ops[k]?=some ok->k≠i->(listed.setIfInBounds j true).getD k true=false->¬(∃n,waits md ops n k i=true)->oi.apart ops ok=true/\(kd k≠2\/∀w,C w):=fun k ok hk hki hun hno=>by
    refine hfree k ok hk hki ?_ hno;by_cases hjk:j=k
    ·subst hjk;exact hjun
    ·rw [getD_set_ne true hjk] at hun;exact hun
   refine wpOpX_mono (fun a' w' h3=>ih (listed.setIfInBounds j true) a' w' (hcl.put hj) h3.1 hfree' (ready_mono hr (Ne.symm hji)) h3.2.1 ?_) h2;rw[Array.setIfInBounds_comm _ _ hji];exact h3.2.2
def wpX (R:World->World->Prop) (P:Program) (ops:Array Oper) (kd:Nat->Nat) (Q:Exit->Act->World->Prop):List Nat->Act->World->Prop
 |[],a,w=>Q .normal a w
 |i::l,a,w=>yT R P ops kd Q i (wpX R P ops kd Q l) a w
theorem closed_none (n:Nat):Closed md ops (Array.replicate n false):=by
 intro j oj _ hl;rcases Nat.lt_or_ge j n with h|h
 ·simp [h] at hl
 ·simp [Array.getElem?_eq_none (show(Array.replicate n false).size<=j by simpa using h)] at hl
def yx (g:Option (Option Tmp×Bool)) (tmps:Array Value):Bool:=
 match g with
 |none=>true
 |some (t,want)=>(match t.bind (tmps[·]?) with
  |some (.bool b)=>some b
  |_=>none)==some want
def qD (l:List Oper) (o:Oper):Option (Option Tmp×Bool):=
 match o.guard with
 |none=>none
 |some (j,want)=>some ((l[j]?).bind (·.dst),want)
theorem wantedAt_eq (l:List Oper) (o:Oper) (tmps:Array Value):yx (qD l o) tmps=Region.wanted o (yielded l.toArray tmps):=by
 unfold yx qD Region.wanted yielded;cases o.guard with
 |none=>rfl
 |some g=>
  simp only[List.getElem?_toArray];generalize ((l[g.1]?).bind (·.dst)).bind (tmps[·]?)=x;rcases x with _|v
  ·rfl
  ·cases v <;> rfl
def wpK (R:World->World->Prop) (P:Program) (Q:Exit->Act->World->Prop) (k:Nat) (g:Option (Option Tmp×Bool)) (o:Oper) (K:Act->World->Prop) (a:Act) (w:World):Prop:=
 if yx g a.tmps then
  (k=0->∃v,(∀w',(execOp a.eval o).run P w'=.ok (.value v) w')/\K (a.put o.dst v) w)/\
  (k=1->∃v,(∀w',R w w'->(execOp a.eval o).run P w'=.ok (.value v) w')/\K (a.put o.dst v) w)/\
  (k=2->o.wp P a w K (Only Q))/\
  (3<=k->o.wp P a w (fun a' w'=>R w w'/\K a' w') (Only Q))
 else K (a.put o.dst undef) w
structure XOp where
 kind:Nat
 guard:Option (Option Tmp×Bool)
 oper:Oper
def xL (R:World->World->Prop) (P:Program) (Q:Exit->Act->World->Prop):List XOp->Act->World->Prop
 |[],a,w=>Q .normal a w
 |x::l,a,w=>wpK R P Q x.kind x.guard x.oper (xL R P Q l) a w
def qP (ks:List Nat) (l:List Oper):List Nat->List XOp
 |[]=>[]
 |i::σ=>match l[i]? with
  |some o=>⟨ks.getD i 2,qD l o,o⟩::qP ks l σ
  |none=>qP ks l σ
omit [Rgl R] in
theorem ym {ks:List Nat} {l:List Oper}:∀(σ:List Nat) (a:Act) (w:World),xL R P Q (qP ks l σ) a w->wpX R P l.toArray (fun i=>ks.getD i 2) Q σ a w
 |[],_,_,h=>h
 |i::σ,a,w,h=>by
  simp only[wpX];unfold yT;simp only[List.getElem?_toArray];simp only[qP] at h;cases ho:l[i]? with
  |none=>simp only[ho] at h;exact ym σ a w h
  |some o=>
   simp only[ho,xL,wpK,wantedAt_eq] at h;simp only
   split
   ·rename_i hw
    simp only[hw,if_true] at h;exact⟨fun hk=>let ⟨v,h1,h2⟩:=h.1 hk;⟨v,h1,ym σ _ _ h2⟩,fun hk=>let ⟨v,h1,h2⟩:=h.2.1 hk;⟨v,h1,ym σ _ _ h2⟩,
     fun hk=>Oper.wp_mono (fun a w h'=>ym σ a w h') (h.2.2.1 hk),fun hk=>Oper.wp_mono (fun a w h'=>⟨h'.1,ym σ a w h'.2⟩) (h.2.2.2 hk)⟩
   ·rename_i hw
    simp only[hw] at h;exact ym σ _ _ h
def checkP (md:Region.Mode) (ops:Array Oper) (bf:Array Nat) (kd:Nat->Nat):List Nat->Array Bool->Bool
 |[],_=>true
 |i::l,listed=>
  (if kd i<=1 then(Region.ready md ops listed).contains i&&(match ops[i]? with
    |none=>false
    |some oi=>(List.range ops.size).all fun j=>j==i||listed.getD j true||(match ops[j]? with
     |none=>true
     |some oj=>(bf.getD j 0).testBit i||(oi.apart ops oj&&(kd i==0||kd j !=2))))
   else Region.ready md ops listed==[i])&&checkP md ops bf kd l (listed.setIfInBounds i true)
def after (l:List Nat) (listed:Array Bool):Array Bool:=l.foldl (fun s i=>s.setIfInBounds i true) listed
theorem yC {bf:Array Nat} (hbf:∀j i,(bf.getD j 0).testBit i=true->∃n,waits md ops n j i=true) (hs:Region.noSelect ops=true) (n:Nat):∀(l:List Nat) (listed:Array Bool) (a:Act) (w:World),Closed md ops listed->
  checkP md ops bf kd l listed=true->(Closed md ops (after l listed)->∀a w,Q' .normal a w->wpAnyX R P md ops kd Q n (after l listed) a w)->wpX R P ops kd Q' l a w->wpAnyX R P md ops kd Q (l.length+n) listed a w
 |[],listed,a,w,hcl,_,hE,h=>by rw[show ([]:List Nat).length+n=n from Nat.zero_add n];exact hE hcl a w h
 |i::l,listed,a,w,hcl,hB,hE,h=>by
  rw[show (i::l).length+n=(l.length+n)+1 by simp only[List.length_cons];omega];simp only[checkP,Bool.and_eq_true] at hB;obtain⟨hB,hB'⟩:=hB;have hsel:=Region.noSelect_spec hs;by_cases hk:kd i<=1
  ·rw [if_pos hk] at hB
   simp only[Bool.and_eq_true] at hB;obtain⟨hr,hf⟩:=hB;have hr:i ∈ Region.ready md ops listed:=by simpa using hr
   split at hf
   ·cases hf
   ·rename_i oi hoi
    have hfree:∀j oj,ops[j]?=some oj->j≠i->listed.getD j true=false->¬(∃n,waits md ops n j i=true)->oi.apart ops oj=true/\(kd i=0\/kd j≠2):=by
     intro j oj hoj hji hun hnw;simp only[List.all_eq_true,List.mem_range] at hf;have h1:=hf j (Array.getElem?_eq_some_iff.1 hoj).1;have hnb:¬(bf.getD j 0).testBit i=true:=fun h=>hnw (hbf j i h);simp only[hoj,Bool.or_eq_true,beq_iff_eq,hji,false_or,hun,hnb,Bool.false_eq_true,Bool.and_eq_true,bne_iff_ne,ne_eq] at h1;exact h1
    have hcl':=hcl.put hr;have ht:=fun(a':Act) (w':World)=>yC hbf hs n l (listed.setIfInBounds i true) a' w' hcl' hB' hE;simp only[wpX] at h;unfold yT at h;simp only[hoi] at h;by_cases hw:Region.wanted oi (yielded ops a.tmps)=true
    ·simp only[hw,if_true] at h
     rcases Nat.lt_or_ge (kd i) 1 with hk0|hk1
     ·have hk0:kd i=0:=by omega
      obtain⟨v,h1,h2⟩:=h.1 hk0;refine wpAnyX_first (C:=fun _=>True) hoi hsel hk (fun _ _ h _=>h) ?_ (l.length+n) listed a w hcl trivial (fun j oj a1 a2 a3 a4=>⟨(hfree j oj a1 a2 a3 a4).1,.inr fun _=>trivial⟩) hr (.inl ⟨hw,fun w' _=>h1 w'⟩) (ht _ _ h2);intro a w K _ hy hK;unfold yT;simp only[hoi];rcases hy with⟨hw,hv⟩|⟨hw,rfl⟩
      ·simp only[hw,if_true]
       exact⟨fun _=>⟨v,fun w'=>hv w' trivial,hK⟩,fun hk=>by omega,fun hk=>by omega,fun hk=>by omega⟩
      ·simp only[hw,Bool.false_eq_true,if_false];exact hK
     ·have hk1:kd i=1:=by omega
      obtain⟨v,h1,h2⟩:=h.2.1 hk1;refine wpAnyX_first (C:=fun w'=>R w w') hoi hsel hk (fun _ _ h h'=>Rgl.trans h h') ?_ (l.length+n) listed a w hcl (Rgl.refl w) (fun j oj a1 a2 a3 a4=>⟨(hfree j oj a1 a2 a3 a4).1,.inl ((hfree j oj a1 a2 a3 a4).2.resolve_left (by omega))⟩) hr (.inl ⟨hw,fun w' hw'=>h1 w' hw'⟩) (ht _ _ h2);intro a' w' K hC hy hK;unfold yT;simp only[hoi];rcases hy with⟨hw,hv⟩|⟨hw,rfl⟩
      ·simp only[hw,if_true]
       exact⟨fun hk=>by omega,fun _=>⟨v,fun w2 hk2=>hv w2 (Rgl.trans hC hk2),hK⟩,fun hk=>by omega,fun hk=>by omega⟩
      ·simp only[hw,Bool.false_eq_true,if_false];exact hK
    ·simp only[hw] at h
     have hw':Region.wanted oi (yielded ops a.tmps)=false:=by simpa using hw
     by_cases hk0:kd i=0
     ·refine wpAnyX_first (C:=fun _=>True) hoi hsel hk (fun _ _ h _=>h) ?_ (l.length+n) listed a w hcl trivial (fun j oj a1 a2 a3 a4=>⟨(hfree j oj a1 a2 a3 a4).1,.inr fun _=>trivial⟩) hr (.inr ⟨hw',rfl⟩) (ht _ _ h)
      intro a w K _ hy hK;unfold yT;simp only[hoi];rcases hy with⟨hw,hv⟩|⟨hw,hv⟩
      ·simp only[hw,if_true]
       exact⟨fun _=>⟨_,fun w'=>hv w' trivial,hK⟩,fun hk=>by omega,fun hk=>by omega,fun hk=>by omega⟩
      ·simp only[hw,Bool.false_eq_true,if_false];exact hK
     ·refine wpAnyX_first (C:=fun w'=>R w w') hoi hsel hk (fun _ _ h h'=>Rgl.trans h h') ?_ (l.length+n) listed a w hcl (Rgl.refl w) (fun j oj a1 a2 a3 a4=>⟨(hfree j oj a1 a2 a3 a4).1,.inl ((hfree j oj a1 a2 a3 a4).2.resolve_left hk0)⟩) hr (.inr ⟨hw',rfl⟩) (ht _ _ h)
      intro a' w' K hC hy hK;unfold yT;simp only[hoi];rcases hy with⟨hw,hv⟩|⟨hw,hv⟩
      ·simp only[hw,if_true]
       exact⟨fun hk=>by omega,fun _=>⟨_,fun w2 hk2=>hv w2 (Rgl.trans hC hk2),hK⟩,fun hk=>by omega,fun hk=>by omega⟩
      ·simp only[hw,Bool.false_eq_true,if_false];exact hK
  ·rw [if_neg hk] at hB
   have hr:Region.ready md ops listed=[i]:=by simpa using hB
   refine⟨fun h0=>(by rw[hr] at h0;cases h0),fun j hj=>?_⟩;rw[hr] at hj;obtain rfl:j=i:=by simpa using hj
   exact wpOpX_mono (fun a' w' h'=>yC hbf hs n l _ a' w' (hcl.put (by rw[hr];simp)) hB' hE h') h
end
inductive Tr where
 |fin (σ:List Nat)
 |frk (σ:List Nat) (a b:Tr)
def Tr.len:Tr->Nat
 |.fin σ=>σ.length
 |.frk σ a _=>σ.length+a.len
def Tr.head:Tr->Nat
 |.fin σ=>σ.headD 0
 |.frk σ _ _=>σ.headD 0
def Tr.one:Tr->Bool
 |.fin σ=>!σ.isEmpty
 |.frk σ _ _=>!σ.isEmpty
def checkT (l:List Oper) (ks:List Nat):Tr->Array Bool->Bool
 |.fin σ,s=>checkP .any l.toArray (Region.before l.toArray) (fun i=>ks.getD i 2) σ s&&(Region.ready .any l.toArray (after σ s)).isEmpty
 |.frk σ a b,s=>checkP .any l.toArray (Region.before l.toArray) (fun i=>ks.getD i 2) σ s&&(Region.ready .any l.toArray (after σ s)==[a.head,b.head])&&a.one&&b.one&&(a.len==b.len)&&
   checkU l ks a (after σ s)&&checkU l ks b (after σ s)
where
 checkU (l:List Oper) (ks:List Nat):Tr->Array Bool->Bool
 |.fin σ,s=>checkP .any l.toArray (Region.before l.toArray) (fun i=>ks.getD i 2) σ.tail (s.setIfInBounds (σ.headD 0) true)&&(Region.ready .any l.toArray (after σ s)).isEmpty
 |.frk σ a b,s=>checkP .any l.toArray (Region.before l.toArray) (fun i=>ks.getD i 2) σ.tail (s.setIfInBounds (σ.headD 0) true)&&(Region.ready .any l.toArray (after σ s)==[a.head,b.head])&&a.one&&b.one&&(a.len==b.len)&&
   checkU l ks a (after σ s)&&checkU l ks b (after σ s)
def End (Q:Exit->Act->World->Prop) (p:Act->World->Prop):Exit->Act->World->Prop
 |.normal,a,w=>p a w
 |e,a,w=>Q e a w
def yp (R:World->World->Prop) (P:Program) (Q:Exit->Act->World->Prop) (l:List Oper) (ks:List Nat):Tr->Act->World->Prop
 |.fin σ,a,w=>xL R P Q (qP ks l σ) a w
 |.frk σ x y,a,w=>xL R P (End Q fun a w=>yp R P Q l ks x a w/\yp R P Q l ks y a w) (qP ks l σ) a w
section
variable {R:World->World->Prop} [Rgl R] {P:Program} {Q:Exit->Act->World->Prop} {l:List Oper} {ks:List Nat}
theorem after_cons (i:Nat) (σ:List Nat) (s:Array Bool):after (i::σ) s=after σ (s.setIfInBounds i true):=rfl
theorem wpT_u (hs:Region.noSelect l.toArray=true):∀(t:Tr) (s:Array Bool) (a:Act) (w:World),Closed .any l.toArray s->t.one=true->t.head ∈ Region.ready .any l.toArray s->checkT.checkU l ks t s=true->yp R P Q l ks t a w->
  ∃n,n+1=t.len/\yT R P l.toArray (fun i=>ks.getD i 2) Q t.head (wpAnyX R P .any l.toArray (fun i=>ks.getD i 2) Q n (s.setIfInBounds t.head true)) a w
 |.fin [],_,_,_,_,h,_,_,_=>by simp[Tr.one] at h
 |.fin (i::σ),s,a,w,hcl,_,hr,hc,h=>by
  simp only[checkT.checkU,List.tail_cons,List.headD_cons,Bool.and_eq_true,List.isEmpty_iff] at hc;have h':=ym (i::σ) a w h;simp only[wpX] at h';refine⟨σ.length,rfl,wpOpX_mono (fun a' w' hk=>?_) h'⟩;exact yC (Q':=Q) (fun _ _=>before_waits) hs 0 σ _ a' w' (hcl.put hr) hc.1 (fun _ a w hq=>⟨by have:=hc.2;rwa [after_cons] at this,hq⟩) hk
 |.frk [] _ _,_,_,_,_,h,_,_,_=>by simp[Tr.one] at h
 |.frk (i::σ) x y,s,a,w,hcl,_,hr,hc,h=>by
  simp only[checkT.checkU,List.tail_cons,List.headD_cons,Bool.and_eq_true,beq_iff_eq] at hc;obtain⟨⟨⟨⟨⟨⟨c1,c2⟩,c3⟩,c4⟩,c5⟩,c6⟩,c7⟩:=hc;rw[after_cons] at c2 c6 c7;have h':=ym (i::σ) a w h;simp only[wpX] at h';obtain⟨m,hm⟩:∃m,m+1=x.len:=by
   cases x with
   |fin τ=>cases τ with
    |nil=>simp[Tr.one] at c3
    |cons j τ=>exact⟨τ.length,rfl⟩
   |frk τ u v=>cases τ with
    |nil=>simp[Tr.one] at c3
    |cons j τ=>exact⟨τ.length+u.len,by simp only[Tr.len,List.length_cons];omega⟩
  refine⟨σ.length+(m+1),by simp only[Tr.len,List.length_cons];omega,wpOpX_mono (fun a' w' hk=>?_) h'⟩;show wpAnyX R P .any l.toArray (fun i=>ks.getD i 2) Q (σ.length+(m+1)) (s.setIfInBounds i true) a' w';refine yC (fun _ _=>before_waits) hs (m+1) σ _ a' w' (hcl.put hr) c1 (fun hcl2 a w hq=>?_) hk;obtain⟨q1,q2⟩:=hq;refine⟨fun h0=>(by rw[c2] at h0;cases h0),fun j hj=>?_⟩;have hj0:=hj;rw[c2] at hj;simp only[List.mem_cons,List.not_mem_nil,or_false] at hj;rcases hj with rfl|rfl
  ·obtain ⟨n,hn,r⟩:=wpT_u hs x _ a w hcl2 c3 hj0 c6 q1
   obtain rfl:n=m:=by omega
   exact r
  ·obtain ⟨n,hn,r⟩:=wpT_u hs y _ a w hcl2 c4 hj0 c7 q2
   obtain rfl:n=m:=by omega
   exact r
theorem wpT_any (hs:Region.noSelect l.toArray=true):∀(t:Tr) (s:Array Bool) (a:Act) (w:World),Closed .any l.toArray s->checkT l ks t s=true->yp R P Q l ks t a w->wpAnyX R P .any l.toArray (fun i=>ks.getD i 2) Q t.len s a w
 |.fin σ,s,a,w,hcl,hc,h=>by
  simp only[checkT,Bool.and_eq_true,List.isEmpty_iff] at hc;exact yC (Q':=Q) (fun _ _=>before_waits) hs 0 σ s a w hcl hc.1 (fun _ a w hq=>⟨hc.2,hq⟩) (ym σ a w h)
 |.frk σ x y,s,a,w,hcl,hc,h=>by
  simp only[checkT,Bool.and_eq_true,beq_iff_eq] at hc;obtain⟨⟨⟨⟨⟨⟨c1,c2⟩,c3⟩,c4⟩,c5⟩,c6⟩,c7⟩:=hc;refine yC (fun _ _=>before_waits) hs x.len σ s a w hcl c1 (fun hcl2 a w hq=>?_) (ym σ a w h);obtain⟨q1,q2⟩:=hq;obtain⟨m,hm⟩:∃m,m+1=x.len:=by
   cases x with
   |fin τ=>cases τ with
    |nil=>simp[Tr.one] at c3
    |cons j τ=>exact⟨τ.length,rfl⟩
   |frk τ u v=>cases τ with
    |nil=>simp[Tr.one] at c3
    |cons j τ=>exact⟨τ.length+u.len,by simp only[Tr.len,List.length_cons];omega⟩
  rw[←hm];refine⟨fun h0=>(by rw[c2] at h0;cases h0),fun j hj=>?_⟩;have hj0:=hj;rw[c2] at hj;simp only[List.mem_cons,List.not_mem_nil,or_false] at hj;rcases hj with rfl|rfl
  ·obtain ⟨n,hn,r⟩:=wpT_u hs x _ a w hcl2 c3 hj0 c6 q1
   obtain rfl:n=m:=by omega
   exact r
  ·obtain ⟨n,hn,r⟩:=wpT_u hs y _ a w hcl2 c4 hj0 c7 q2
   obtain rfl:n=m:=by omega
   exact r
theorem wp_region_t {id:Nat} {a:Act} {w:World} (R:World->World->Prop) [Rgl R] (ks:List Nat) (t:Tr) (hB:(P.follows .mixedOrders&&Region.noSelect l.toArray&&Nat.beq t.len l.length&&checkT l ks t (Array.replicate l.length false))=true) (h:yp R P Q l ks t a w.drew):(Code.region id l.toArray true).wp P Q a w:=by
 simp only[Bool.and_eq_true] at hB;obtain⟨⟨⟨hm,hs⟩,hn⟩,hB⟩:=hB;replace hn:=Nat.eq_of_beq_eq_true hn;refine wp_region_any hm (wpAny_of_X (R:=R) (kd:=fun i=>ks.getD i 2) _ _ _ _ ?_);have:=wpT_any hs t (Array.replicate l.length false) a _ (closed_none _) hB h;rw[hn] at this;simpa using this
theorem qH {id:Nat} {a:Act} {w:World} (ks σ:List Nat) (hB:(P.follows .mixedOrders&&Region.noSelect l.toArray&&Nat.beq σ.length l.length&&checkT l ks (.fin σ) (Array.replicate l.length false))=true)
  (h:xL xU P Q (qP ks l σ) a w.drew):(Code.region id l.toArray true).wp P Q a w:=wp_region_t xU ks (.fin σ) hB h
theorem qT {id:Nat} {a:Act} {w:World} (N:Nat) (ks:List Nat) (t:Tr) (hB:(P.follows .mixedOrders&&Region.noSelect l.toArray&&Nat.beq t.len l.length&&checkT l ks t (Array.replicate l.length false))=true)
  (h:yp (RN.KeepsN N) P Q l ks t a w.drew):(Code.region id l.toArray true).wp P Q a w:=wp_region_t _ ks t hB h
theorem wp_rK {id:Nat} {a:Act} {w:World} (N:Nat->Prop) (ks:List Nat) (t:Tr) (hB:(P.follows .mixedOrders&&Region.noSelect l.toArray&&Nat.beq t.len l.length&&checkT l ks t (Array.replicate l.length false))=true)
  (h:yp (RK.KeepsN N) P Q l ks t a w.drew):(Code.region id l.toArray true).wp P Q a w:=wp_region_t _ ks t hB h
end
section
variable {R:World->World->Prop} {P:Program} {Q:Exit->Act->World->Prop} {l:List XOp} {o:Oper} {a:Act} {w:World}
theorem qA (h:Q .normal a w):xL R P Q [] a w:=h
theorem qC (h:∀K:Act->World->Prop,(∀a w,xL R P Q l a w->K a w)->∃v,(∀w',(execOp a.eval o).run P w'=.ok (.value v) w')/\K (a.put o.dst v) w):
  xL R P Q (⟨0,none,o⟩::l) a w:=by
 simp only[xL,wpK,yx,if_true];exact⟨fun _=>h _ (fun _ _ h=>h),fun hk=>by omega,fun hk=>by omega,fun hk=>by omega⟩
theorem wpL_r (h:∀K:Act->World->Prop,(∀a w,xL R P Q l a w->K a w)->∃v,(∀w',R w w'->(execOp a.eval o).run P w'=.ok (.value v) w')/\K (a.put o.dst v) w):
  xL R P Q (⟨1,none,o⟩::l) a w:=by
 simp only[xL,wpK,yx,if_true];exact⟨fun hk=>by omega,fun _=>h _ (fun _ _ h=>h),fun hk=>by omega,fun hk=>by omega⟩
theorem qJ {v:Value} (h1:∀w',R w w'->(execOp a.eval o).run P w'=.ok (.value v) w') (h2:xL R P Q l (a.put o.dst v) w):xL R P Q (⟨1,none,o⟩::l) a w:=wpL_r fun _ hK=>⟨v,h1,hK _ _ h2⟩
theorem qN (h:∀K:Act->World->Prop,(∀a w,xL R P Q l a w->K a w)->o.wp P a w K (Only Q)):
  xL R P Q (⟨2,none,o⟩::l) a w:=by
 simp only[xL,wpK,yx,if_true];exact⟨fun hk=>by omega,fun hk=>by omega,fun _=>h _ (fun _ _ h=>h),fun hk=>by omega⟩
theorem qI (h:∀K:Act->World->Prop,(∀a w',R w w'->xL R P Q l a w'->K a w')->o.wp P a w K (Only Q)):
  xL R P Q (⟨3,none,o⟩::l) a w:=by
 simp only[xL,wpK,yx,if_true];exact⟨fun hk=>by omega,fun hk=>by omega,fun hk=>by omega,fun _=>h _ (fun _ _ h h'=>⟨h,h'⟩)⟩
theorem xX {k t:Nat} {want b:Bool} (hy:a.tmps[t]?=some (.bool b)) (hb:(b==want)=false)
  (h:∀K:Act->World->Prop,(∀a w,xL R P Q l a w->K a w)->K (a.put o.dst undef) w):xL R P Q (⟨k,some (some t,want),o⟩::l) a w:=by
 have hw:yx (some (some t,want)) a.tmps=false:=by simp only[yx,Option.bind_some,hy];simpa using hb
 simp only[xL,wpK,hw,Bool.false_eq_true,if_false];exact h _ (fun _ _ h=>h)
theorem qZ {k t:Nat} {want b:Bool} (hy:a.tmps[t]?=some (.bool b)) (hb:(b==want)=true)
  (h:xL R P Q (⟨k,none,o⟩::l) a w):xL R P Q (⟨k,some (some t,want),o⟩::l) a w:=by
 have hw:yx (some (some t,want)) a.tmps=true:=by simp only[yx,Option.bind_some,hy];simpa using hb
 simp only[xL,wpK,hw,if_true];simp only[xL,wpK,yx,if_true] at h;exact h
end
theorem _root_.Go.RowKit.Hid.o {p:Prop} (h:Hid p):p:=h
theorem qj {p:Prop} (h:p):Hid p:=h
def xt (p:Prop):Prop:=p
theorem xt.halt {p:Prop} (h:xt p):p:=h
theorem xt.go {p:Prop} (h:p):xt p:=h
def Sl (w:World) (B sz:Nat) (v:Value) (n:Nat) (xs:List Value):Prop:=
 ∃a cap,v=.slice a n cap/\n<=9223372036854775807/\xs.length=n*sz/\(0 < n->∃b off,a=some ⟨b,off,none⟩/\b < B/\∀j u,xs[j]?=some u->w.cell? ⟨b,off+j,none⟩=some u)
section
variable {w w':World} {B B' sz n:Nat} {v:Value} {xs:List Value}
theorem Sl.ex (h:Sl w B sz v n xs):∃a cap,v=.slice a n cap/\n<=9223372036854775807:=let ⟨a,cap,hv,hn,_⟩:=h;⟨a,cap,hv,hn⟩
theorem Sl.keep (h:Sl w B sz v n xs) (hk:∀b off,b < B->w'.cell? ⟨b,off,none⟩=w.cell? ⟨b,off,none⟩):Sl w' B sz v n xs:=by
 obtain⟨a,cap,hv,hn,hl,h⟩:=h;exact⟨a,cap,hv,hn,hl,fun h0=>let ⟨b,off,ha,hb,hc⟩:=h h0;⟨b,off,ha,hb,fun j u hu=>(hk b _ hb).trans (hc j u hu)⟩⟩
theorem Sl.more (h:Sl w B sz v n xs) (hB:B<=B'):Sl w B' sz v n xs:=by
 obtain⟨a,cap,hv,hn,hl,h⟩:=h;exact⟨a,cap,hv,hn,hl,fun h0=>let ⟨b,off,ha,hb,hc⟩:=h h0;⟨b,off,ha,by omega,hc⟩⟩
theorem Sl.below (h:Sl w B sz v n xs) (hb:Below B w w'):Sl w' B sz v n xs:=h.keep fun b off hlt=>hb.cell (p:=⟨b,off,none⟩) hlt
theorem Sl.alloc (h:Sl w B sz v n xs) (hB:B<=w.heap.size) (o:Obj):Sl (w.alloc o) B sz v n xs:=
 h.keep fun b off hlt=>World.cell?_alloc_lt w o ⟨b,off,none⟩ (by show b < _;omega)
theorem Sl.of_own {e:TypeId} {base:Nat} (h:w.ownsRow base e sz v n xs):Sl w w.heap.size sz v n xs:=by
 obtain⟨hl,h⟩:=h;rcases h with⟨rfl,rfl⟩|⟨g,cap,cur,rfl,hg,hh,hnc,hcm,hs,ht⟩
 ·exact ⟨none,0,rfl,by omega,hl,fun h=>absurd h (by omega)⟩
 ·refine ⟨some ⟨g,0,none⟩,cap,rfl,by unfold maxLen at hcm;omega,hl,fun _=>⟨g,0,rfl,(Array.getElem?_eq_some_iff.1 hh).1,fun j u hu=>?_⟩⟩
  have hj:j < n*sz:=by have:=(List.getElem?_eq_some_iff.1 hu).1;omega
  rw[←ht,List.getElem?_take,if_pos hj] at hu;simp only[World.cell?,hh,Option.isSome_none,Bool.false_eq_true,if_false,Nat.zero_add];simpa using hu
end
theorem Sl.at1 {w:World} {B n cap:Nat} {a:Option Addr} {xs:List Value} (h:Sl w B 1 (.slice a n cap) n xs) {k:Nat} (hk:k < n):
  ∃b off u,a=some ⟨b,off,none⟩/\b < B/\xs[k]?=some u/\w.cell? ⟨b,off+k,none⟩=some u:=by
 obtain⟨a',cap',hv,hm,hl,h⟩:=h;simp only[Value.slice.injEq] at hv;obtain⟨rfl,-,rfl⟩:=hv;obtain⟨b,off,rfl,hb,hc⟩:=h (by omega);have hkl:k < xs.length:=by omega
 exact⟨b,off,xs[k],rfl,hb,List.getElem?_eq_getElem hkl,hc k _ (List.getElem?_eq_getElem hkl)⟩
theorem flat_get {α:Type} (f:α->List Value) (sz:Nat) (hf:∀x,(f x).length=sz):∀(l:List α) (k j:Nat) (x:α),l[k]?=some x->j < sz->(l.flatMap f)[k*sz+j]?=(f x)[j]?
 |[],k,j,x,h,_=>by simp at h
 |y::l,0,j,x,h,hj=>by
  simp only[List.getElem?_cons_zero,Option.some.injEq] at h;subst h;simp only[List.flatMap_cons,Nat.zero_mul,Nat.zero_add];rw[List.getElem?_append_left (by rw[hf];exact hj)]
 |y::l,k+1,j,x,h,hj=>by
  simp only[List.getElem?_cons_succ] at h;simp only[List.flatMap_cons];rw[List.getElem?_append_right (by rw[hf,Nat.add_mul];omega),hf,show(k+1)*sz+j - sz=k*sz+j from by rw[Nat.add_mul];omega];exact flat_get f sz hf l k j x h hj
theorem flat_length {α:Type} (f:α->List Value) (sz:Nat) (hf:∀x,(f x).length=sz) (l:List α):(l.flatMap f).length=l.length*sz:=by
 induction l with
 |nil=>simp
 |cons x l ih=>simp only[List.flatMap_cons,List.length_append,ih,hf,List.length_cons,Nat.add_mul];omega
theorem Sl.atF {α:Type} {w:World} {B sz n cap:Nat} {a:Option Addr} {f:α->List Value} {l:List α} (hf:∀x,(f x).length=sz) (h:Sl w B sz (.slice a n cap) n (l.flatMap f)) (hln:l.length=n) {k:Nat} (hk:k < n):
  ∃b off x,a=some ⟨b,off,none⟩/\b < B/\l[k]?=some x/\∀j,j < sz->w.cell? ⟨b,off+k*sz+j,none⟩=(f x)[j]?:=by
 obtain⟨a',cap',hv,hm,hl,h⟩:=h;simp only[Value.slice.injEq] at hv;obtain⟨rfl,-,rfl⟩:=hv;obtain⟨b,off,rfl,hb,hc⟩:=h (by omega);have hkl:k < l.length:=by omega
 refine⟨b,off,l[k],rfl,hb,List.getElem?_eq_getElem hkl,fun j hj=>?_⟩;have h1:=flat_get f sz hf l k j _ (List.getElem?_eq_getElem hkl) hj;have h2:j < (f l[k]).length:=by rw[hf];exact hj
 rw[List.getElem?_eq_getElem h2] at h1 ⊢;rw[Nat.add_assoc];exact hc _ _ h1
theorem cell_new (w:World) (cs:Array Value) (t:TypeId) (fz:Nat×Nat) (j:Nat):(w.alloc (.cells cs t fz)).cell? ⟨w.heap.size,j,none⟩=cs[j]?:=by
 have h:(w.alloc (.cells cs t fz)).heap[w.heap.size]?=some (.cells cs t fz):=heap_alloc_new w _;simp only[World.cell?,h,Option.isSome_none,Bool.false_eq_true,if_false]
theorem qu {B:Nat} {w w':World} {b off:Nat} {v:Value} (hb:Below B w w') (h:b < B) (hv:w.cell? ⟨b,off,none⟩=some v):w'.cell? ⟨b,off,none⟩=some v:=
 (hb.cell (p:=⟨b,off,none⟩) h).trans hv
def IsL {α:Type} (R:World->Nat->Value->α->Prop) (w:World) (B:Nat) (v:Value) (l:List α):Prop:=
 ∃vs:List Value,Sl w B 1 v l.length vs/\∀(k:Nat) (u:Value) (x:α),vs[k]?=some u->l[k]?=some x->R w B u x
section
variable {α:Type} {R:World->Nat->Value->α->Prop} {w w':World} {B B':Nat} {v:Value} {l:List α}
theorem IsL.below (hR:∀u x,R w B u x->R w' B u x) (h:IsL R w B v l) (hb:Below B w w'):IsL R w' B v l:=
 let ⟨vs,h1,h2⟩:=h;⟨vs,h1.below hb,fun k u x hu hx=>hR u x (h2 k u x hu hx)⟩
theorem IsL.more (hR:∀u x,R w B u x->R w B' u x) (h:IsL R w B v l) (hB:B<=B'):IsL R w B' v l:=
 let ⟨vs,h1,h2⟩:=h;⟨vs,h1.more hB,fun k u x hu hx=>hR u x (h2 k u x hu hx)⟩
theorem IsL.ex (h:IsL R w B v l):∃a cap,v=.slice a l.length cap/\l.length<=9223372036854775807:=let ⟨_,h1,_⟩:=h;h1.ex
theorem IsL.at (h:IsL R w B v l) {a:Option Addr} {n cap:Nat} (hv:v=.slice a n cap) {k:Nat} (hk:k < n):
  ∃b off u x,a=some ⟨b,off,none⟩/\b < B/\l[k]?=some x/\w.cell? ⟨b,off+k,none⟩=some u/\R w B u x:=by
 obtain⟨vs,h1,h2⟩:=h;have hn:l.length=n:=by
  obtain⟨a',cap',e,_⟩:=h1.ex;rw[hv] at e;simp only[Value.slice.injEq] at e;exact e.2.1.symm
 rw[hn,hv] at h1;obtain⟨b,off,u,rfl,hb,hu,hc⟩:=h1.at1 hk;have hx:l[k]?=some l[k]:=List.getElem?_eq_getElem (by omega);exact⟨b,off,u,_,rfl,hb,hx,hc,h2 k u _ hu hx⟩
end
structure Ob where
 kind:Int
 init:Int
structure Ev where
 kind:Int
 tx:Int
 thread:Int
 obj:Int
 op:Int
 key:Int
 val:Int
 ret:Int
structure Ac where
 kind:Int
 cell:Int
 val:Int
def Ob.cells (x:Ob):List Value:=[.int .i64 x.kind,.int .i64 x.init]
def Ev.cells (x:Ev):List Value:=[.int .i64 x.kind,.int .i64 x.tx,.int .i64 x.thread,.int .i64 x.obj,.int .i64 x.op,.int .i64 x.key,.int .i64 x.val,.int .i64 x.ret]
def Ac.cells (x:Ac):List Value:=[.int .i64 x.kind,.int .i64 x.cell,.int .i64 x.val]
theorem Ob.len (x:Ob):x.cells.length=2:=rfl
theorem Ev.len (x:Ev):x.cells.length=8:=rfl
theorem Ac.len (x:Ac):x.cells.length=3:=rfl
def IsActs (w:World) (B:Nat) (v:Value) (l:List Ac):Prop:=Sl w B 3 v l.length (l.flatMap Ac.cells)
def IsTxs (w:World) (B:Nat) (v:Value) (l:List (List Ac)):Prop:=IsL IsActs w B v l
def IsThr (w:World) (B:Nat) (v:Value) (l:List (List (List Ac))):Prop:=IsL IsTxs w B v l
theorem IsTxs.below {w w':World} {B:Nat} {v:Value} {l:List (List Ac)} (h:IsTxs w B v l) (hb:Below B w w'):IsTxs w' B v l:=IsL.below (fun _ _ h=>h.below hb) h hb
theorem IsThr.below {w w':World} {B:Nat} {v:Value} {l:List (List (List Ac))} (h:IsThr w B v l) (hb:Below B w w'):IsThr w' B v l:=IsL.below (fun _ _ h=>h.below hb) h hb
theorem IsTxs.more {w:World} {B B':Nat} {v:Value} {l:List (List Ac)} (h:IsTxs w B v l) (hb:B<=B'):IsTxs w B' v l:=IsL.more (fun _ _ h=>h.more hb) h hb
theorem IsThr.more {w:World} {B B':Nat} {v:Value} {l:List (List (List Ac))} (h:IsThr w B v l) (hb:B<=B'):IsThr w B' v l:=IsL.more (fun _ _ h=>h.more hb) h hb
structure Pg where
 cells:List Int
 threads:List (List (List Ac))
structure Th where
 tx:Nat
 act:Nat
 begun:Bool
 adding:Bool
 read:Int
 waits:Int
def Th.zero:Th:=⟨0,0,false,false,0,0⟩
def Th.cells (t:Th):List Value:=[.int .i64 t.tx,.int .i64 t.act,.bool t.begun,.bool t.adding,.int .i64 t.read,.int .i64 t.waits]
theorem Th.len (t:Th):t.cells.length=6:=rfl
structure yk where
 ths:List Th
 evs:List Ev
def qG (i k:Nat):Int:=3*i+k+1
def xG (kind:Int):Ev:=⟨kind,0,0,0,0,0,0,0⟩
def Pg.txs (p:Pg) (i:Nat):List (List Ac):=p.threads.getD i []
def Pg.acts (p:Pg) (i k:Nat):List Ac:=(p.txs i).getD k []
def qR (p:Pg) (i:Nat) (t:Th):Bool:=t.tx==(p.txs i).length
def qY (t:Th) (a:Ac):Ev:=
 if a.kind=2 then⟨2,0,0,a.cell,2,0,a.val,0⟩
 else if a.kind=3/\t.adding=true then⟨2,0,0,a.cell,2,0,a.val+t.read,0⟩
 else⟨2,0,0,a.cell,1,0,0,0⟩
def yB (p:Pg) (i:Nat) (t:Th):Ev:=
 if t.begun=false then {xG 1 with thread:=i}
 else match (p.acts i t.tx)[t.act]? with
  |none=>xG 4
  |some a=>if a.kind=4 then xG 7 else qY t a
def qE (e:Ev) (x:Int):Ev:={e with tx:=x}
def nextOf (p:Pg) (i:Nat) (t:Th):Option (Th×Ev):=
 if qR p i t=true\/t.waits≠0 then none
 else
  let e:=qE (yB p i t) (qG i t.tx)
  if t.begun=false then some ({t with begun:=true},e) else some ({t with waits:=e.kind},e)
def xN (n:Int):Bool:=decide (-1000000000<=n)&&decide (n<=1000000000)
def yV (p:Pg) (i:Nat) (t:Th) (val:Int) (abort:Bool):Option (Th×Ev):=
 if qR p i t=true\/t.waits=0 then none
 else if abort=true then some ({Th.zero with tx:=t.tx+1},qE (xG 6) (qG i t.tx))
 else if t.waits=4 then some ({Th.zero with tx:=t.tx+1},qE (xG 5) (qG i t.tx))
 else if t.waits=7 then none
 else match (p.acts i t.tx)[t.act]? with
  |none=>none
  |some a=>
   if a.kind=1\/(a.kind=3/\t.adding=false) then
    if xN val=false\/(a.kind=3/\xN (val+a.val)=false) then none
    else if a.kind=3 then some ({t with waits:=0,adding:=true,read:=val},qE {xG 3 with ret:=3,val:=val} (qG i t.tx))
    else some ({t with waits:=0,act:=t.act+1},qE {xG 3 with ret:=3,val:=val} (qG i t.tx))
   else some ({t with waits:=0,adding:=false,act:=t.act+1},qE {xG 3 with ret:=1} (qG i t.tx))
def yk.put (s:yk) (i:Nat) (x:Th×Ev):yk:=⟨s.ths.set i x.1,s.evs++[x.2]⟩
structure PgOk (p:Pg):Prop where
 cells:1<=p.cells.length/\p.cells.length<=4
 cell:∀c ∈ p.cells,-1000000<=c/\c<=1000000
 threads:1<=p.threads.length/\p.threads.length<=4
 txs:∀t ∈ p.threads,t.length<=3
 acts:∀t ∈ p.threads,∀l ∈ t,1<=l.length/\l.length<=6
 act:∀t ∈ p.threads,∀l ∈ t,∀(k:Nat) (a:Ac),l[k]?=some a->(a.kind=4/\k+1=l.length/\a.cell=0/\a.val=0)\/((a.kind=1/\a.val=0\/a.kind=2\/a.kind=3)/\0<=a.cell/\a.cell < p.cells.length/\-1000<=a.val/\a.val<=1000)
structure ThOk (p:Pg) (i:Nat) (t:Th):Prop where
 tx:t.tx<=(p.txs i).length
 act:t.act<=(p.acts i t.tx).length
 waits:t.waits=0\/t.begun=true/\((t.waits=2/\∃a,(p.acts i t.tx)[t.act]?=some a/\a.kind≠4)\/(t.waits=4/\t.act=(p.acts i t.tx).length)\/(t.waits=7/\∃a,(p.acts i t.tx)[t.act]?=some a/\a.kind=4))
 read:-1000000000<=t.read/\t.read<=1000000000
