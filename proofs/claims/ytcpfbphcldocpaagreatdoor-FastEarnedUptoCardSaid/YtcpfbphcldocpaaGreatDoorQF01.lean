/- Parts of the proof, merged by program out of 4 texts (Reg, Lib, Sam, EmA): the first: A region that draws its order of evaluation, walked along a tree of orders that is written out: a theorem on the calculus alone. Conditions: those of each theorem, as typed. -/
import Derived.Orders
import Derived.WalkKit
import Derived.ProofKit
import Derived.Deep.Draws
import Derived.Test.YtcpfbphcldocpaaGreatDoorChecked
import Derived.Outline
set_option linter.unusedVariables false
set_option linter.unusedSimpArgs false
set_option linter.unusedSectionVars false
set_option maxRecDepth 100000
set_option maxHeartbeats 4000000
namespace Go.Proofs.YtcpfbphcldocpaaGreatDoor
open Go.RowKit
theorem sA {α:Type _} (l:List α) (i:Nat) (a:α):l.toArray.setIfInBounds i a=(l.set i a).toArray:=List.setIfInBounds_toArray ..
theorem sB {α:Type _} {x a:α} {l:List α}:(a::l).set 0 x=x::l:=List.set_cons_zero
theorem sC {α:Type _} {x a:α} {l:List α} {n:Nat}:(a::l).set (n+1) x=a::l.set n x:=List.set_cons_succ
theorem sD {α:Type _} {a:α} {l:List α}:(a::l)[0]?=some a:=List.getElem?_cons_zero
theorem sE {α:Type _} {a:α} {l:List α} {n:Nat}:(a::l)[n+1]?=l[n]?:=List.getElem?_cons_succ
theorem sF {α:Type _} {x d:α} {l:List α}:(x::l).getD 0 d=x:=List.getD_cons_zero
theorem sG {α:Type _} {x d:α} {l:List α} {n:Nat}:(x::l).getD (n+1) d=l.getD n d:=List.getD_cons_succ
def Only (Q:Exit→Act→World→Prop):Exit→Act→World→Prop:=fun e a w=>match e with
 |.normal=>Q .normal a w
 |_=>False
def Keeps (w w':World):Prop:=w.heap.size≤w'.heap.size∧∀k,k < w.heap.size→w'.heap[k]?=w.heap[k]?
theorem Keeps.refl (w:World):Keeps w w:=⟨Nat.le_refl _,fun _ _=>rfl⟩
theorem Keeps.trans {a b c:World} (h:Keeps a b) (k:Keeps b c):Keeps a c:=
 ⟨Nat.le_trans h.1 k.1,fun i hi=>(k.2 i (Nat.lt_of_lt_of_le hi h.1)).trans (h.2 i hi)⟩
theorem Keeps.heap {w w':World} (h:Keeps w w') (k:Nat) (hk:(w.heap[k]?).isSome=true):w'.heap[k]?=w.heap[k]?:=by
 refine h.2 k ?_
 rcases Nat.lt_or_ge k w.heap.size with h'|h'
 ·exact h'
 ·simp [Array.getElem?_eq_none h'] at hk
theorem Keeps.cell {w w':World} (h:Keeps w w') (a:Addr) (hk:(w.cell? a).isSome=true):w'.cell? a=w.cell? a:=by
 have h2:=h.heap a.block (by
  unfold World.cell? at hk
  split at hk
  ·rename_i heq;rw[heq];rfl
  ·cases hk)
 unfold World.cell?
 rw[h2]
theorem Keeps.alloc (w:World) (o:Obj):Keeps w (w.alloc o):=⟨by simp,fun k hk=>by
 show(w.heap.push o)[k]?=_
 rw[Array.getElem?_push,if_neg (by omega)]⟩
class Rgl (R:World→World→Prop):Prop where
 refl:∀w,R w w
 trans:∀{a b c},R a b→R b c→R a c
instance:Rgl Keeps:=⟨Keeps.refl,Keeps.trans⟩
namespace RN
def KeepsN (N:Nat) (w w':World):Prop:=w.heap.size≤w'.heap.size∧∀k,k < N→w'.heap[k]?=w.heap[k]?
theorem KeepsN.refl (N:Nat) (w:World):KeepsN N w w:=⟨Nat.le_refl _,fun _ _=>rfl⟩
theorem KeepsN.trans {N:Nat} {a b c:World} (h:KeepsN N a b) (k:KeepsN N b c):KeepsN N a c:=⟨Nat.le_trans h.1 k.1,fun i hi=>(k.2 i hi).trans (h.2 i hi)⟩
theorem KeepsN.cell {N:Nat} {w w':World} (h:KeepsN N w w') (b off:Nat) (hb:b < N):w'.cell? ⟨b,off,none⟩=w.cell? ⟨b,off,none⟩:=by
 simp only[World.cell?,h.2 b hb]
theorem KeepsN.alloc {N:Nat} (w:World) (o:Obj) (hN:N≤w.heap.size):KeepsN N w (w.alloc o):=⟨by simp,fun k hk=>by
 show(w.heap.push o)[k]?=_
 rw[Array.getElem?_push,if_neg (by omega)]⟩
theorem KeepsN.of_below {N:Nat} {w w':World} (h:Below N w w'):KeepsN N w w':=⟨h.size,h.block⟩
instance (N:Nat):Rgl (KeepsN N):=⟨KeepsN.refl N,KeepsN.trans⟩
end RN
namespace RK
def KeepsN (N:Nat→Prop) (w w':World):Prop:=w.heap.size≤w'.heap.size∧∀k,N k→w'.heap[k]?=w.heap[k]?
theorem KeepsN.refl (N:Nat→Prop) (w:World):KeepsN N w w:=⟨Nat.le_refl _,fun _ _=>rfl⟩
theorem KeepsN.trans {N:Nat→Prop} {a b c:World} (h:KeepsN N a b) (k:KeepsN N b c):KeepsN N a c:=⟨Nat.le_trans h.1 k.1,fun i hi=>(k.2 i hi).trans (h.2 i hi)⟩
theorem KeepsN.cell {N:Nat→Prop} {w w':World} (h:KeepsN N w w') (b off:Nat) (hb:N b):w'.cell? ⟨b,off,none⟩=w.cell? ⟨b,off,none⟩:=by
 simp only[World.cell?,h.2 b hb]
theorem KeepsN.set {N:Nat→Prop} (w:World) (a:Addr) (v:Value) (h:¬N a.block):KeepsN N w (w.setCell a v):=⟨by simp,fun k hk=>Below.heap_setCell _ _ _ _ (by rintro rfl;exact h hk)⟩
instance (N:Nat→Prop):Rgl (KeepsN N):=⟨KeepsN.refl N,KeepsN.trans⟩
end RK
section
variable {R:World→World→Prop} [Rgl R] {P:Program} {ops:Array Oper} {Q Q':Exit→Act→World→Prop} {md:Region.Mode} {kd:Nat→Nat} {C:World→Prop}
theorem not_letsOut_only:¬LetsOut (Only Q):=fun⟨_,_,h⟩=>h
theorem wp_only {o:Oper} {a:Act} {w:World} {K K':Act→World→Prop} (h:∀a w,K a w→K' a w)
  (hh:o.wp P a w K (Only Q')):o.wp P a w K' Q:=by
 unfold Oper.wp at *
 generalize (execOp a.eval o).run P w=r at *
 cases r with
 |ok n w'=>
  cases n <;> simp only[Oper.upon] at hh ⊢ <;>
   first
    |exact h _ _ hh
    |exact Calls.mono hh (fun e w'' he=>by cases e <;> first|exact h _ _ he|exact(he:False).elim|exact(not_letsOut_only he).elim)
    |exact Rows.mono hh (fun _ _ he=>h _ _ he)
 |halt x w'=>cases x <;> simp only[Oper.upon] at hh ⊢ <;> exact(hh:False).elim
def wpOpX (R:World→World→Prop) (P:Program) (ops:Array Oper) (kd:Nat→Nat) (Q:Exit→Act→World→Prop) (i:Nat) (K:Act→World→Prop) (a:Act) (w:World):Prop:=
 match ops[i]? with
 |none=>K a w
 |some o=>
  if Region.wanted o (yielded ops a.tmps) then
   (kd i=0→∃v,(∀w',(execOp a.eval o).run P w'=.ok (.value v) w')∧K (a.put o.dst v) w)∧
   (kd i=1→∃v,(∀w',R w w'→(execOp a.eval o).run P w'=.ok (.value v) w')∧K (a.put o.dst v) w)∧
   (kd i=2→o.wp P a w K (Only Q))∧
   (3≤kd i→o.wp P a w (fun a' w'=>R w w'∧K a' w') (Only Q))
  else K (a.put o.dst undef) w
omit [Rgl R] in
theorem wpOpX_mono {i:Nat} {a:Act} {w:World} {K K':Act→World→Prop} (h:∀a w,K a w→K' a w) (hh:wpOpX R P ops kd Q' i K a w):wpOpX R P ops kd Q i K' a w:=by
 unfold wpOpX at *
 cases ho:ops[i]? with
 |none=>simp only[ho] at hh ⊢;exact h _ _ hh
 |some o=>
  simp only[ho] at hh ⊢
  split
  ·rename_i hw
   simp only[hw,if_true] at hh
   exact⟨fun hk=>let ⟨v,h1,h2⟩:=hh.1 hk;⟨v,h1,h _ _ h2⟩,fun hk=>let ⟨v,h1,h2⟩:=hh.2.1 hk;⟨v,h1,h _ _ h2⟩,fun hk=>wp_only h (hh.2.2.1 hk),fun hk=>wp_only (fun a w h'=>⟨h'.1,h a w h'.2⟩) (hh.2.2.2 hk)⟩
  ·rename_i hw;simp only[hw] at hh;exact h _ _ hh
theorem wpOp_of_wpOpX {i:Nat} {a:Act} {w:World} {K K':Act→World→Prop} (h:∀a w,K a w→K' a w)
  (hh:wpOpX R P ops kd Q i K a w):wpOp P ops Q i K' a w:=by
 unfold wpOpX at hh
 unfold wpOp
 split
 ·exact h _ _ (by simpa[ * ] using hh)
 ·rename_i o ho
  simp only[ho] at hh
  split
  ·rename_i hw
   simp only[hw,if_true] at hh
   refine .inl ?_
   rcases Nat.lt_or_ge (kd i) 2 with hk|hk
   ·rcases Nat.lt_or_ge (kd i) 1 with hk'|hk'
    ·obtain ⟨v,h1,h2⟩:=hh.1 (by omega)
     simp only[Oper.wp,h1 w,Oper.upon]
     exact h _ _ h2
    ·obtain ⟨v,h1,h2⟩:=hh.2.1 (by omega)
     simp only[Oper.wp,h1 w (Rgl.refl w),Oper.upon]
     exact h _ _ h2
   ·rcases Nat.lt_or_ge (kd i) 3 with hk'|hk'
    ·exact wp_only h (hh.2.2.1 (by omega))
    ·exact wp_only (fun a w h'=>h a w h'.2) (hh.2.2.2 hk')
  ·rename_i hw;simp only[hw] at hh;exact h _ _ hh
def wpAnyX (R:World→World→Prop) (P:Program) (md:Region.Mode) (ops:Array Oper) (kd:Nat→Nat) (Q:Exit→Act→World→Prop):Nat→Array Bool→Act→World→Prop
 |0,listed,a,w=>Region.ready md ops listed=[]∧Q .normal a w
 |fuel+1,listed,a,w=>
  (Region.ready md ops listed=[]→Q .normal a w)∧
  ∀i ∈ Region.ready md ops listed,wpOpX R P ops kd Q i (wpAnyX R P md ops kd Q fuel (listed.setIfInBounds i true)) a w
theorem wpAny_of_X:∀(fuel:Nat) (listed:Array Bool) (a:Act) (w:World),wpAnyX R P md ops kd Q fuel listed a w→wpAny P md ops Q fuel listed a w
 |0,_,_,_,h=>h
 |fuel+1,_,_,_,h=>⟨h.1,fun i hi=>wpOp_of_wpOpX (fun a w=>wpAny_of_X fuel _ a w) (h.2 i hi)⟩
def YieldsX (P:Program) (ops:Array Oper) (C:World→Prop) (o:Oper) (v:Value) (a:Act):Prop:=
 (Region.wanted o (yielded ops a.tmps)=true∧∀w,C w→(execOp a.eval o).run P w=.ok (.value v) w)∨
 (Region.wanted o (yielded ops a.tmps)=false∧v=undef)
theorem YieldsX.of_same {o:Oper} {v:Value} {a a':Act} (hy:YieldsX P ops C o v a) (he:execOp a'.eval o=execOp a.eval o)
  (hw:Region.wanted o (yielded ops a'.tmps)=Region.wanted o (yielded ops a.tmps)):YieldsX P ops C o v a':=by
 unfold YieldsX at *
 rw[he,hw]
 exact hy
omit [Rgl R] in
theorem wpOpX_put {j:Nat} {oi oj:Oper} {v:Value} (hj:ops[j]?=some oj) (hap:oi.apart ops oj=true)
  (hsi:∀cs b,oi.op≠.select cs b) (hsj:∀cs b,oj.op≠.select cs b) (hCk:∀w w',C w→R w w'→C w') (hE:kd j≠2∨∀w,C w)
  {K:Act→World→Prop} {a:Act} {w:World} (hC:C w)
  (hy:YieldsX P ops C oi v a) (h:wpOpX R P ops kd Q j K (a.put oi.dst v) w):
  wpOpX R P ops kd Q j (fun a' w'=>C w'∧YieldsX P ops C oi v a'∧K (a'.put oi.dst v) w') a w:=by
 obtain⟨h1,h2,h3⟩:=Oper.apart_spec hap
 have keep:∀(a:Act),YieldsX P ops C oi v a→∀u,YieldsX P ops C oi v (a.put oj.dst u):=fun a hy u=>
  hy.of_same (execOp_put oi hsi a oj.dst u h3) (wanted_put oi a oj.dst u h3)
 have keepD:∀d,YieldsX P ops C oi v {a with defers:=d::a.defers}:=fun d=>hy.of_same rfl rfl
 unfold wpOpX at *
 simp only[hj] at *
 rw[wanted_put oj a oi.dst v h1,execOp_put oj hsj a oi.dst v h1] at h
 split
 ·rename_i hw
  simp only[hw,if_true] at h
  refine⟨fun hk=>?_,fun hk=>?_,fun hk=>?_,fun hk=>?_⟩
  ·obtain ⟨u,h4,h5⟩:=h.1 hk
   exact⟨u,h4,hC,keep a hy u,by rw[←Act.put_comm a v u h2];exact h5⟩
  ·obtain ⟨u,h4,h5⟩:=h.2.1 hk
   exact⟨u,h4,hC,keep a hy u,by rw[←Act.put_comm a v u h2];exact h5⟩
  ·have hall:∀w,C w:=hE.resolve_left (fun h=>h hk)
   replace h:=h.2.2.1 hk
   unfold Oper.wp at *
   rw[execOp_put oj hsj a oi.dst v h1] at h
   generalize (execOp a.eval oj).run P w=r at *
   cases r with
   |ok n w'=>
    cases n <;> simp only[Oper.upon] at h ⊢
    case value u=>exact⟨hall _,keep a hy u,by rw[←Act.put_comm a v u h2];exact h⟩
    case skip=>exact⟨hall _,keep a hy _,by rw[←Act.put_comm a v undef h2];exact h⟩
    case defer d=>
     refine⟨hall _,keep _ (keepD d) _,?_⟩
     rw[←Act.put_comm _ v undef h2,←Act.put_defers]
     exact h
    case enter f args=>
     refine Calls.mono h fun e w'' he=>?_
     cases e with
     |returned u=>exact⟨hall _,keep a hy u,by rw[←Act.put_comm a v u h2];exact he⟩
     |panicked c=>exact(he:False).elim
     |outgrown=>exact(not_letsOut_only he).elim
    case row row args=>exact Rows.mono h fun u w'' he=>⟨hall _,keep a hy u,by rw[←Act.put_comm a v u h2];exact he⟩
   |halt x w'=>
    cases x <;> simp only[Oper.upon] at h ⊢
    case panic u=>exact(h:False).elim
  ·replace h:=h.2.2.2 hk
   unfold Oper.wp at *
   rw[execOp_put oj hsj a oi.dst v h1] at h
   generalize (execOp a.eval oj).run P w=r at *
   cases r with
   |ok n w'=>
    cases n <;> simp only[Oper.upon] at h ⊢
    case value u=>exact⟨h.1,hCk _ _ hC h.1,keep a hy u,by rw[←Act.put_comm a v u h2];exact h.2⟩
    case skip=>exact⟨h.1,hCk _ _ hC h.1,keep a hy _,by rw[←Act.put_comm a v undef h2];exact h.2⟩
    case defer d=>
     refine⟨h.1,hCk _ _ hC h.1,keep _ (keepD d) _,?_⟩
     rw[←Act.put_comm _ v undef h2,←Act.put_defers]
     exact h.2
    case enter f args=>
     refine Calls.mono h fun e w'' he=>?_
     cases e with
     |returned u=>exact⟨he.1,hCk _ _ hC he.1,keep a hy u,by rw[←Act.put_comm a v u h2];exact he.2⟩
     |panicked c=>exact(he:False).elim
     |outgrown=>exact(not_letsOut_only he).elim
    case row row args=>exact Rows.mono h fun u w'' he=>⟨he.1,hCk _ _ hC he.1,keep a hy u,by rw[←Act.put_comm a v u h2];exact he.2⟩
   |halt x w'=>
    cases x <;> simp only[Oper.upon] at h ⊢
    case panic u=>exact(h:False).elim
 ·rename_i hw
  simp only[hw] at h
  exact⟨hC,keep a hy _,by rw[←Act.put_comm a v undef h2];exact h⟩
def waits (md:Region.Mode) (ops:Array Oper):Nat→Nat→Nat→Bool
 |0,_,_=>false
 |n+1,j,i=>match ops[j]? with
  |none=>false
  |some oj=>oj.after.any fun e=>Region.binds md e&&(e.on==i||waits md ops n e.on i)
theorem foldl_before {ops:Array Oper} {acc:Array Nat} {j:Nat} {oj:Oper} (hoj:ops[j]?=some oj) (hacc:∀k i,(acc.getD k 0).testBit i=true→∃n,waits .any ops n k i=true):
  ∀(es:List Edge) (s:Nat),(∀e ∈ es,e ∈ oj.after)→(∀i,s.testBit i=true→∃n,waits .any ops n j i=true)→
   ∀i,(es.foldl (fun s e=>if Region.binds .any e then s|||2 ^ e.on|||acc.getD e.on 0 else s) s).testBit i=true→∃n,waits .any ops n j i=true
 |[],s,_,hs,i,h=>hs i h
 |e::es,s,hes,hs,i,h=>by
  rw[List.foldl_cons] at h
  refine foldl_before hoj hacc es _ (fun e' he'=>hes e' (List.mem_cons_of_mem _ he')) ?_ i h
  intro i hi
  split at hi
  ·rename_i hb
   simp only[Nat.testBit_or,Bool.or_eq_true,Nat.testBit_two_pow,decide_eq_true_eq] at hi
   have he:=hes e (List.mem_cons_self)
   rcases hi with(hi|hi)|hi
   ·exact hs i hi
   ·refine ⟨1,?_⟩
    simp only[waits,hoj]
    exact Array.any_eq_true'.2 ⟨e,he,by simp[hb,hi]⟩
   ·obtain ⟨n,hn⟩:=hacc _ _ hi
    refine⟨n+1,?_⟩
    rw[waits]
    simp only[hoj]
    exact Array.any_eq_true'.2 ⟨e,he,by simp[hb,hn]⟩
  ·exact hs i hi
theorem before_list {ops:Array Oper}:∀(l:List Oper) (acc:Array Nat),(∀k,l[k]?=ops[acc.size+k]?)→(∀k i,(acc.getD k 0).testBit i=true→∃n,waits .any ops n k i=true)→
  ∀k i,((l.foldl (fun acc o=>acc.push (o.after.foldl (fun s e=>if Region.binds .any e then s|||2 ^ e.on|||acc.getD e.on 0 else s) 0)) acc).getD k 0).testBit i=true→∃n,waits .any ops n k i=true
 |[],_,_,hacc,k,i,h=>hacc k i h
 |o::l,acc,hl,hacc,k,i,h=>by
  rw[List.foldl_cons] at h
  refine before_list l _ (fun k=>?_) ?_ k i h
  ·have:=hl (k+1)
   simp only[List.getElem?_cons_succ] at this
   rw[this,Array.size_push]
   congr 1
   omega
  ·intro k i hk
   have hoj:ops[acc.size]?=some o:=by have:=hl 0;simpa using this.symm
   by_cases hlt:k < acc.size
   ·refine hacc k i ?_
    have:(acc.push (o.after.foldl (fun s e=>if Region.binds .any e then s|||2 ^ e.on|||acc.getD e.on 0 else s) 0)).getD k 0=acc.getD k 0:=by
     simp[Array.getD_eq_getD_getElem?,Array.getElem?_push,Nat.ne_of_lt hlt]
    rwa [this] at hk
   ·by_cases heq:k=acc.size
    ·subst heq
     have:(acc.push (o.after.foldl (fun s e=>if Region.binds .any e then s|||2 ^ e.on|||acc.getD e.on 0 else s) 0)).getD acc.size 0=o.after.foldl (fun s e=>if Region.binds .any e then s|||2 ^ e.on|||acc.getD e.on 0 else s) 0:=by
      simp[Array.getD_eq_getD_getElem?]
     rw[this,←Array.foldl_toList] at hk
     exact foldl_before hoj hacc o.after.toList 0 (fun e he=>by simpa using he) (fun i hi=>by simp at hi) i hk
    ·have:(acc.push (o.after.foldl (fun s e=>if Region.binds .any e then s|||2 ^ e.on|||acc.getD e.on 0 else s) 0)).getD k 0=0:=by
      simp[Array.getD_eq_getD_getElem?,Array.getElem?_push,heq,Array.getElem?_eq_none (show acc.size≤k by omega)]
     rw[this] at hk
     simp at hk
theorem before_waits {ops:Array Oper} {j i:Nat} (h:((Region.before ops).getD j 0).testBit i=true):∃n,waits .any ops n j i=true:=by
 unfold Region.before at h
 rw[←Array.foldl_toList] at h
 exact before_list ops.toList #[] (by simp) (fun k i hk=>by simp at hk) j i h
def Closed (md:Region.Mode) (ops:Array Oper) (listed:Array Bool):Prop:=
 ∀j oj,ops[j]?=some oj→listed.getD j false=true→∀e ∈ oj.after,Region.binds md e=true→listed.getD e.on false=true
theorem waits_not_ready {listed:Array Bool} {i:Nat} (hcl:Closed md ops listed) (hi:listed.getD i false=false):
  ∀(n j:Nat),waits md ops n j i=true→listed.getD j false=false∧j ∉ Region.ready md ops listed:=by
 intro n
 induction n with
 |zero=>intro j h;simp[waits] at h
 |succ n ih=>
  intro j h
  simp only[waits] at h
  split at h
  ·cases h
  ·rename_i oj hoj
   obtain⟨e,he,hb⟩:=Array.any_eq_true'.1 h
   simp only[Bool.and_eq_true,Bool.or_eq_true,beq_iff_eq] at hb
   obtain⟨hb,hon⟩:=hb
   have hun:listed.getD e.on false=false:=by
    rcases hon with hon|hon
    ·rw [hon];exact hi
    ·exact (ih e.on hon).1
   refine⟨?_,fun hr=>?_⟩
   ·cases hl:listed.getD j false with
    |false=>rfl
    |true=>have:=hcl j oj hoj hl e he hb;rw[hun] at this;cases this
   ·obtain ⟨_,o,ho,hall⟩:=mem_ready.1 hr
    rw[hoj] at ho
    cases ho
    have:=hall e he hb
    rw[hun] at this
    cases this
theorem Closed.put {listed:Array Bool} (hcl:Closed md ops listed) {j:Nat} (hj:j ∈ Region.ready md ops listed):Closed md ops (listed.setIfInBounds j true):=by
 intro k ok hok hl e he hb
 by_cases hjk:j=k
 ·subst hjk
  obtain⟨_,o,ho,hall⟩:=mem_ready.1 hj
  rw[hok] at ho
  cases ho
  exact getD_set_true (hall e he hb)
 ·rw [getD_set_ne false hjk] at hl
  exact getD_set_true (hcl k ok hok hl e he hb)
theorem getD_false_of_true {listed:Array Bool} {i:Nat} (h:listed.getD i true=false):listed.getD i false=false:=by
 rcases Nat.lt_or_ge i listed.size with h'|h'
 ·simp [h'] at h ⊢;exact h
 ·simp [Array.getElem?_eq_none h'] at h
omit [Rgl R] in
theorem wpAnyX_first {i:Nat} {oi:Oper} {v:Value} (hi:ops[i]?=some oi) (hsel:∀(j:Nat) (o:Oper) cs b,ops[j]?=some o→o.op≠.select cs b) (hki:kd i≤1)
  (hCk:∀w w',C w→R w w'→C w')
  (hput:∀(a:Act) (w:World) K,C w→YieldsX P ops C oi v a→K (a.put oi.dst v) w→wpOpX R P ops kd Q i K a w):
  ∀(fuel:Nat) (listed:Array Bool) (a:Act) (w:World),Closed md ops listed→C w→
   (∀j oj,ops[j]?=some oj→j≠i→listed.getD j true=false→¬(∃n,waits md ops n j i=true)→oi.apart ops oj=true∧(kd j≠2∨∀w,C w))→
   i ∈ Region.ready md ops listed→YieldsX P ops C oi v a→
   wpAnyX R P md ops kd Q fuel (listed.setIfInBounds i true) (a.put oi.dst v) w→wpAnyX R P md ops kd Q (fuel+1) listed a w:=by
 intro fuel
 induction fuel with
 |zero=>
  intro listed a w _ hC _ hr hy H
  refine⟨fun h=>(by rw[h] at hr;cases hr),fun j hj=>?_⟩
  by_cases hji:j=i
  ·subst hji;exact hput a w _ hC hy H
  ·have:=ready_mono hj hji
   rw[H.1] at this
   cases this
 |succ fuel ih=>
  intro listed a w hcl hC hfree hr hy H
  refine⟨fun h=>(by rw[h] at hr;cases hr),fun j hj=>?_⟩
  by_cases hji:j=i
  ·subst hji;exact hput a w _ hC hy H
  ·have h1:=H.2 j (ready_mono hj hji)
   obtain⟨hjun,oj,hoj,hall⟩:=mem_ready.1 hj
   have hiun:=getD_false_of_true (mem_ready.1 hr).1
   have hnw:¬(∃n,waits md ops n j i=true):=fun⟨n,hw⟩=>absurd hj (waits_not_ready hcl hiun n j hw).2
   obtain⟨hap,hE⟩:=hfree j oj hoj hji hjun hnw
   have h2:=wpOpX_put hoj hap (fun cs b=>hsel i oi cs b hi) (fun cs b=>hsel j oj cs b hoj) hCk hE hC hy h1
   have hfree':∀k ok,ops[k]?=some ok→k≠i→(listed.setIfInBounds j true).getD k true=false→¬(∃n,waits md ops n k i=true)→oi.apart ops ok=true∧(kd k≠2∨∀w,C w):=fun k ok hk hki hun hno=>by
    refine hfree k ok hk hki ?_ hno
    by_cases hjk:j=k
    ·subst hjk;exact hjun
    ·rw [getD_set_ne true hjk] at hun;exact hun
   refine wpOpX_mono (fun a' w' h3=>ih (listed.setIfInBounds j true) a' w' (hcl.put hj) h3.1 hfree' (ready_mono hr (Ne.symm hji)) h3.2.1 ?_) h2
   rw[Array.setIfInBounds_comm _ _ hji]
   exact h3.2.2
def wpX (R:World→World→Prop) (P:Program) (ops:Array Oper) (kd:Nat→Nat) (Q:Exit→Act→World→Prop):List Nat→Act→World→Prop
 |[],a,w=>Q .normal a w
 |i::l,a,w=>wpOpX R P ops kd Q i (wpX R P ops kd Q l) a w
theorem closed_none (n:Nat):Closed md ops (Array.replicate n false):=by
 intro j oj _ hl
 rcases Nat.lt_or_ge j n with h|h
 ·simp [h] at hl
 ·simp [Array.getElem?_eq_none (show(Array.replicate n false).size≤j by simpa using h)] at hl
def wantedAt (g:Option (Option Tmp×Bool)) (tmps:Array Value):Bool:=
 match g with
 |none=>true
 |some (t,want)=>(match t.bind (tmps[·]?) with
  |some (.bool b)=>some b
  |_=>none)==some want
def guardAt (l:List Oper) (o:Oper):Option (Option Tmp×Bool):=
 match o.guard with
 |none=>none
 |some (j,want)=>some ((l[j]?).bind (·.dst),want)
theorem wantedAt_eq (l:List Oper) (o:Oper) (tmps:Array Value):wantedAt (guardAt l o) tmps=Region.wanted o (yielded l.toArray tmps):=by
 unfold wantedAt guardAt Region.wanted yielded
 cases o.guard with
 |none=>rfl
 |some g=>
  simp only[List.getElem?_toArray]
  generalize ((l[g.1]?).bind (·.dst)).bind (tmps[·]?)=x
  rcases x with _|v
  ·rfl
  ·cases v <;> rfl
def wpK (R:World→World→Prop) (P:Program) (Q:Exit→Act→World→Prop) (k:Nat) (g:Option (Option Tmp×Bool)) (o:Oper) (K:Act→World→Prop) (a:Act) (w:World):Prop:=
 if wantedAt g a.tmps then
  (k=0→∃v,(∀w',(execOp a.eval o).run P w'=.ok (.value v) w')∧K (a.put o.dst v) w)∧
  (k=1→∃v,(∀w',R w w'→(execOp a.eval o).run P w'=.ok (.value v) w')∧K (a.put o.dst v) w)∧
  (k=2→o.wp P a w K (Only Q))∧
  (3≤k→o.wp P a w (fun a' w'=>R w w'∧K a' w') (Only Q))
 else K (a.put o.dst undef) w
structure XOp where
 kind:Nat
 guard:Option (Option Tmp×Bool)
 oper:Oper
def wpL (R:World→World→Prop) (P:Program) (Q:Exit→Act→World→Prop):List XOp→Act→World→Prop
 |[],a,w=>Q .normal a w
 |x::l,a,w=>wpK R P Q x.kind x.guard x.oper (wpL R P Q l) a w
def selX (ks:List Nat) (l:List Oper):List Nat→List XOp
 |[]=>[]
 |i::σ=>match l[i]? with
  |some o=>⟨ks.getD i 2,guardAt l o,o⟩::selX ks l σ
  |none=>selX ks l σ
omit [Rgl R] in
theorem wpX_of_wpL {ks:List Nat} {l:List Oper}:∀(σ:List Nat) (a:Act) (w:World),wpL R P Q (selX ks l σ) a w→wpX R P l.toArray (fun i=>ks.getD i 2) Q σ a w
 |[],_,_,h=>h
 |i::σ,a,w,h=>by
  simp only[wpX]
  unfold wpOpX
  simp only[List.getElem?_toArray]
  simp only[selX] at h
  cases ho:l[i]? with
  |none=>simp only[ho] at h;exact wpX_of_wpL σ a w h
  |some o=>
   simp only[ho,wpL,wpK,wantedAt_eq] at h
   simp only
   split
   ·rename_i hw
    simp only[hw,if_true] at h
    exact⟨fun hk=>let ⟨v,h1,h2⟩:=h.1 hk;⟨v,h1,wpX_of_wpL σ _ _ h2⟩,fun hk=>let ⟨v,h1,h2⟩:=h.2.1 hk;⟨v,h1,wpX_of_wpL σ _ _ h2⟩,
     fun hk=>Oper.wp_mono (fun a w h'=>wpX_of_wpL σ a w h') (h.2.2.1 hk),fun hk=>Oper.wp_mono (fun a w h'=>⟨h'.1,wpX_of_wpL σ a w h'.2⟩) (h.2.2.2 hk)⟩
   ·rename_i hw
    simp only[hw] at h
    exact wpX_of_wpL σ _ _ h
def checkP (md:Region.Mode) (ops:Array Oper) (bf:Array Nat) (kd:Nat→Nat):List Nat→Array Bool→Bool
 |[],_=>true
 |i::l,listed=>
  (if kd i≤1 then(Region.ready md ops listed).contains i&&(match ops[i]? with
    |none=>false
    |some oi=>(List.range ops.size).all fun j=>j==i||listed.getD j true||(match ops[j]? with
     |none=>true
     |some oj=>(bf.getD j 0).testBit i||(oi.apart ops oj&&(kd i==0||kd j !=2))))
   else Region.ready md ops listed==[i])&&checkP md ops bf kd l (listed.setIfInBounds i true)
def after (l:List Nat) (listed:Array Bool):Array Bool:=l.foldl (fun s i=>s.setIfInBounds i true) listed
theorem wpAnyX_of_pre {bf:Array Nat} (hbf:∀j i,(bf.getD j 0).testBit i=true→∃n,waits md ops n j i=true) (hs:Region.noSelect ops=true) (n:Nat):∀(l:List Nat) (listed:Array Bool) (a:Act) (w:World),Closed md ops listed→
  checkP md ops bf kd l listed=true→(Closed md ops (after l listed)→∀a w,Q' .normal a w→wpAnyX R P md ops kd Q n (after l listed) a w)→wpX R P ops kd Q' l a w→wpAnyX R P md ops kd Q (l.length+n) listed a w
 |[],listed,a,w,hcl,_,hE,h=>by rw[show ([]:List Nat).length+n=n from Nat.zero_add n];exact hE hcl a w h
 |i::l,listed,a,w,hcl,hB,hE,h=>by
  rw[show (i::l).length+n=(l.length+n)+1 by simp only[List.length_cons];omega]
  simp only[checkP,Bool.and_eq_true] at hB
  obtain⟨hB,hB'⟩:=hB
  have hsel:=Region.noSelect_spec hs
  by_cases hk:kd i≤1
  ·rw [if_pos hk] at hB
   simp only[Bool.and_eq_true] at hB
   obtain⟨hr,hf⟩:=hB
   have hr:i ∈ Region.ready md ops listed:=by simpa using hr
   split at hf
   ·cases hf
   ·rename_i oi hoi
    have hfree:∀j oj,ops[j]?=some oj→j≠i→listed.getD j true=false→¬(∃n,waits md ops n j i=true)→oi.apart ops oj=true∧(kd i=0∨kd j≠2):=by
     intro j oj hoj hji hun hnw
     simp only[List.all_eq_true,List.mem_range] at hf
     have h1:=hf j (Array.getElem?_eq_some_iff.1 hoj).1
     have hnb:¬(bf.getD j 0).testBit i=true:=fun h=>hnw (hbf j i h)
     simp only[hoj,Bool.or_eq_true,beq_iff_eq,hji,false_or,hun,hnb,Bool.false_eq_true,Bool.and_eq_true,bne_iff_ne,ne_eq] at h1
     exact h1
    have hcl':=hcl.put hr
    have ht:=fun(a':Act) (w':World)=>wpAnyX_of_pre hbf hs n l (listed.setIfInBounds i true) a' w' hcl' hB' hE
    simp only[wpX] at h
    unfold wpOpX at h
    simp only[hoi] at h
    by_cases hw:Region.wanted oi (yielded ops a.tmps)=true
    ·simp only[hw,if_true] at h
     rcases Nat.lt_or_ge (kd i) 1 with hk0|hk1
     ·have hk0:kd i=0:=by omega
      obtain⟨v,h1,h2⟩:=h.1 hk0
      refine wpAnyX_first (C:=fun _=>True) hoi hsel hk (fun _ _ h _=>h) ?_ (l.length+n) listed a w hcl trivial (fun j oj a1 a2 a3 a4=>⟨(hfree j oj a1 a2 a3 a4).1,.inr fun _=>trivial⟩) hr (.inl ⟨hw,fun w' _=>h1 w'⟩) (ht _ _ h2)
      intro a w K _ hy hK
      unfold wpOpX
      simp only[hoi]
      rcases hy with⟨hw,hv⟩|⟨hw,rfl⟩
      ·simp only[hw,if_true]
       exact⟨fun _=>⟨v,fun w'=>hv w' trivial,hK⟩,fun hk=>by omega,fun hk=>by omega,fun hk=>by omega⟩
      ·simp only[hw,Bool.false_eq_true,if_false];exact hK
     ·have hk1:kd i=1:=by omega
      obtain⟨v,h1,h2⟩:=h.2.1 hk1
      refine wpAnyX_first (C:=fun w'=>R w w') hoi hsel hk (fun _ _ h h'=>Rgl.trans h h') ?_ (l.length+n) listed a w hcl (Rgl.refl w) (fun j oj a1 a2 a3 a4=>⟨(hfree j oj a1 a2 a3 a4).1,.inl ((hfree j oj a1 a2 a3 a4).2.resolve_left (by omega))⟩) hr (.inl ⟨hw,fun w' hw'=>h1 w' hw'⟩) (ht _ _ h2)
      intro a' w' K hC hy hK
      unfold wpOpX
      simp only[hoi]
      rcases hy with⟨hw,hv⟩|⟨hw,rfl⟩
      ·simp only[hw,if_true]
       exact⟨fun hk=>by omega,fun _=>⟨v,fun w2 hk2=>hv w2 (Rgl.trans hC hk2),hK⟩,fun hk=>by omega,fun hk=>by omega⟩
      ·simp only[hw,Bool.false_eq_true,if_false];exact hK
    ·simp only[hw] at h
     have hw':Region.wanted oi (yielded ops a.tmps)=false:=by simpa using hw
     by_cases hk0:kd i=0
     ·refine wpAnyX_first (C:=fun _=>True) hoi hsel hk (fun _ _ h _=>h) ?_ (l.length+n) listed a w hcl trivial (fun j oj a1 a2 a3 a4=>⟨(hfree j oj a1 a2 a3 a4).1,.inr fun _=>trivial⟩) hr (.inr ⟨hw',rfl⟩) (ht _ _ h)
      intro a w K _ hy hK
      unfold wpOpX
      simp only[hoi]
      rcases hy with⟨hw,hv⟩|⟨hw,hv⟩
      ·simp only[hw,if_true]
       exact⟨fun _=>⟨_,fun w'=>hv w' trivial,hK⟩,fun hk=>by omega,fun hk=>by omega,fun hk=>by omega⟩
      ·simp only[hw,Bool.false_eq_true,if_false];exact hK
     ·refine wpAnyX_first (C:=fun w'=>R w w') hoi hsel hk (fun _ _ h h'=>Rgl.trans h h') ?_ (l.length+n) listed a w hcl (Rgl.refl w) (fun j oj a1 a2 a3 a4=>⟨(hfree j oj a1 a2 a3 a4).1,.inl ((hfree j oj a1 a2 a3 a4).2.resolve_left hk0)⟩) hr (.inr ⟨hw',rfl⟩) (ht _ _ h)
      intro a' w' K hC hy hK
      unfold wpOpX
      simp only[hoi]
      rcases hy with⟨hw,hv⟩|⟨hw,hv⟩
      ·simp only[hw,if_true]
       exact⟨fun hk=>by omega,fun _=>⟨_,fun w2 hk2=>hv w2 (Rgl.trans hC hk2),hK⟩,fun hk=>by omega,fun hk=>by omega⟩
      ·simp only[hw,Bool.false_eq_true,if_false];exact hK
  ·rw [if_neg hk] at hB
   have hr:Region.ready md ops listed=[i]:=by simpa using hB
   refine⟨fun h0=>(by rw[hr] at h0;cases h0),fun j hj=>?_⟩
   rw[hr] at hj
   obtain rfl:j=i:=by simpa using hj
   exact wpOpX_mono (fun a' w' h'=>wpAnyX_of_pre hbf hs n l _ a' w' (hcl.put (by rw[hr];simp)) hB' hE h') h
end
inductive Tr where
 |fin (σ:List Nat)
 |frk (σ:List Nat) (a b:Tr)
def Tr.len:Tr→Nat
 |.fin σ=>σ.length
 |.frk σ a _=>σ.length+a.len
def Tr.head:Tr→Nat
 |.fin σ=>σ.headD 0
 |.frk σ _ _=>σ.headD 0
def Tr.one:Tr→Bool
 |.fin σ=>!σ.isEmpty
 |.frk σ _ _=>!σ.isEmpty
def checkT (l:List Oper) (ks:List Nat):Tr→Array Bool→Bool
 |.fin σ,s=>checkP .any l.toArray (Region.before l.toArray) (fun i=>ks.getD i 2) σ s&&(Region.ready .any l.toArray (after σ s)).isEmpty
 |.frk σ a b,s=>checkP .any l.toArray (Region.before l.toArray) (fun i=>ks.getD i 2) σ s&&(Region.ready .any l.toArray (after σ s)==[a.head,b.head])&&a.one&&b.one&&(a.len==b.len)&&
   checkU l ks a (after σ s)&&checkU l ks b (after σ s)
where
 checkU (l:List Oper) (ks:List Nat):Tr→Array Bool→Bool
 |.fin σ,s=>checkP .any l.toArray (Region.before l.toArray) (fun i=>ks.getD i 2) σ.tail (s.setIfInBounds (σ.headD 0) true)&&(Region.ready .any l.toArray (after σ s)).isEmpty
 |.frk σ a b,s=>checkP .any l.toArray (Region.before l.toArray) (fun i=>ks.getD i 2) σ.tail (s.setIfInBounds (σ.headD 0) true)&&(Region.ready .any l.toArray (after σ s)==[a.head,b.head])&&a.one&&b.one&&(a.len==b.len)&&
   checkU l ks a (after σ s)&&checkU l ks b (after σ s)
def End (Q:Exit→Act→World→Prop) (p:Act→World→Prop):Exit→Act→World→Prop
 |.normal,a,w=>p a w
 |e,a,w=>Q e a w
def wpT (R:World→World→Prop) (P:Program) (Q:Exit→Act→World→Prop) (l:List Oper) (ks:List Nat):Tr→Act→World→Prop
 |.fin σ,a,w=>wpL R P Q (selX ks l σ) a w
 |.frk σ x y,a,w=>wpL R P (End Q fun a w=>wpT R P Q l ks x a w∧wpT R P Q l ks y a w) (selX ks l σ) a w
section
variable {R:World→World→Prop} [Rgl R] {P:Program} {Q:Exit→Act→World→Prop} {l:List Oper} {ks:List Nat}
theorem after_cons (i:Nat) (σ:List Nat) (s:Array Bool):after (i::σ) s=after σ (s.setIfInBounds i true):=rfl
theorem wpT_u (hs:Region.noSelect l.toArray=true):∀(t:Tr) (s:Array Bool) (a:Act) (w:World),Closed .any l.toArray s→t.one=true→t.head ∈ Region.ready .any l.toArray s→checkT.checkU l ks t s=true→wpT R P Q l ks t a w→
  ∃n,n+1=t.len∧wpOpX R P l.toArray (fun i=>ks.getD i 2) Q t.head (wpAnyX R P .any l.toArray (fun i=>ks.getD i 2) Q n (s.setIfInBounds t.head true)) a w
 |.fin [],_,_,_,_,h,_,_,_=>by simp[Tr.one] at h
 |.fin (i::σ),s,a,w,hcl,_,hr,hc,h=>by
  simp only[checkT.checkU,List.tail_cons,List.headD_cons,Bool.and_eq_true,List.isEmpty_iff] at hc
  have h':=wpX_of_wpL (i::σ) a w h
  simp only[wpX] at h'
  refine⟨σ.length,rfl,wpOpX_mono (fun a' w' hk=>?_) h'⟩
  exact wpAnyX_of_pre (Q':=Q) (fun _ _=>before_waits) hs 0 σ _ a' w' (hcl.put hr) hc.1 (fun _ a w hq=>⟨by have:=hc.2;rwa [after_cons] at this,hq⟩) hk
 |.frk [] _ _,_,_,_,_,h,_,_,_=>by simp[Tr.one] at h
 |.frk (i::σ) x y,s,a,w,hcl,_,hr,hc,h=>by
  simp only[checkT.checkU,List.tail_cons,List.headD_cons,Bool.and_eq_true,beq_iff_eq] at hc
  obtain⟨⟨⟨⟨⟨⟨c1,c2⟩,c3⟩,c4⟩,c5⟩,c6⟩,c7⟩:=hc
  rw[after_cons] at c2 c6 c7
  have h':=wpX_of_wpL (i::σ) a w h
  simp only[wpX] at h'
  obtain⟨m,hm⟩:∃m,m+1=x.len:=by
   cases x with
   |fin τ=>cases τ with
    |nil=>simp[Tr.one] at c3
    |cons j τ=>exact⟨τ.length,rfl⟩
   |frk τ u v=>cases τ with
    |nil=>simp[Tr.one] at c3
    |cons j τ=>exact⟨τ.length+u.len,by simp only[Tr.len,List.length_cons];omega⟩
  refine⟨σ.length+(m+1),by simp only[Tr.len,List.length_cons];omega,wpOpX_mono (fun a' w' hk=>?_) h'⟩
  show wpAnyX R P .any l.toArray (fun i=>ks.getD i 2) Q (σ.length+(m+1)) (s.setIfInBounds i true) a' w'
  refine wpAnyX_of_pre (fun _ _=>before_waits) hs (m+1) σ _ a' w' (hcl.put hr) c1 (fun hcl2 a w hq=>?_) hk
  obtain⟨q1,q2⟩:=hq
  refine⟨fun h0=>(by rw[c2] at h0;cases h0),fun j hj=>?_⟩
  have hj0:=hj
  rw[c2] at hj
  simp only[List.mem_cons,List.not_mem_nil,or_false] at hj
  rcases hj with rfl|rfl
  ·obtain ⟨n,hn,r⟩:=wpT_u hs x _ a w hcl2 c3 hj0 c6 q1
   obtain rfl:n=m:=by omega
   exact r
  ·obtain ⟨n,hn,r⟩:=wpT_u hs y _ a w hcl2 c4 hj0 c7 q2
   obtain rfl:n=m:=by omega
   exact r
theorem wpT_any (hs:Region.noSelect l.toArray=true):∀(t:Tr) (s:Array Bool) (a:Act) (w:World),Closed .any l.toArray s→checkT l ks t s=true→wpT R P Q l ks t a w→wpAnyX R P .any l.toArray (fun i=>ks.getD i 2) Q t.len s a w
 |.fin σ,s,a,w,hcl,hc,h=>by
  simp only[checkT,Bool.and_eq_true,List.isEmpty_iff] at hc
  exact wpAnyX_of_pre (Q':=Q) (fun _ _=>before_waits) hs 0 σ s a w hcl hc.1 (fun _ a w hq=>⟨hc.2,hq⟩) (wpX_of_wpL σ a w h)
 |.frk σ x y,s,a,w,hcl,hc,h=>by
  simp only[checkT,Bool.and_eq_true,beq_iff_eq] at hc
  obtain⟨⟨⟨⟨⟨⟨c1,c2⟩,c3⟩,c4⟩,c5⟩,c6⟩,c7⟩:=hc
  refine wpAnyX_of_pre (fun _ _=>before_waits) hs x.len σ s a w hcl c1 (fun hcl2 a w hq=>?_) (wpX_of_wpL σ a w h)
  obtain⟨q1,q2⟩:=hq
  obtain⟨m,hm⟩:∃m,m+1=x.len:=by
   cases x with
   |fin τ=>cases τ with
    |nil=>simp[Tr.one] at c3
    |cons j τ=>exact⟨τ.length,rfl⟩
   |frk τ u v=>cases τ with
    |nil=>simp[Tr.one] at c3
    |cons j τ=>exact⟨τ.length+u.len,by simp only[Tr.len,List.length_cons];omega⟩
  rw[←hm]
  refine⟨fun h0=>(by rw[c2] at h0;cases h0),fun j hj=>?_⟩
  have hj0:=hj
  rw[c2] at hj
  simp only[List.mem_cons,List.not_mem_nil,or_false] at hj
  rcases hj with rfl|rfl
  ·obtain ⟨n,hn,r⟩:=wpT_u hs x _ a w hcl2 c3 hj0 c6 q1
   obtain rfl:n=m:=by omega
   exact r
  ·obtain ⟨n,hn,r⟩:=wpT_u hs y _ a w hcl2 c4 hj0 c7 q2
   obtain rfl:n=m:=by omega
   exact r
theorem wp_region_t {id:Nat} {a:Act} {w:World} (R:World→World→Prop) [Rgl R] (ks:List Nat) (t:Tr) (hB:(P.follows .mixedOrders&&Region.noSelect l.toArray&&Nat.beq t.len l.length&&checkT l ks t (Array.replicate l.length false))=true) (h:wpT R P Q l ks t a w.drew):(Code.region id l.toArray true).wp P Q a w:=by
 simp only[Bool.and_eq_true] at hB
 obtain⟨⟨⟨hm,hs⟩,hn⟩,hB⟩:=hB
 replace hn:=Nat.eq_of_beq_eq_true hn
 refine wp_region_any hm (wpAny_of_X (R:=R) (kd:=fun i=>ks.getD i 2) _ _ _ _ ?_)
 have:=wpT_any hs t (Array.replicate l.length false) a _ (closed_none _) hB h
 rw[hn] at this
 simpa using this
theorem wp_region_x {id:Nat} {a:Act} {w:World} (ks σ:List Nat) (hB:(P.follows .mixedOrders&&Region.noSelect l.toArray&&Nat.beq σ.length l.length&&checkT l ks (.fin σ) (Array.replicate l.length false))=true)
  (h:wpL Keeps P Q (selX ks l σ) a w.drew):(Code.region id l.toArray true).wp P Q a w:=wp_region_t Keeps ks (.fin σ) hB h
theorem wp_rN {id:Nat} {a:Act} {w:World} (N:Nat) (ks:List Nat) (t:Tr) (hB:(P.follows .mixedOrders&&Region.noSelect l.toArray&&Nat.beq t.len l.length&&checkT l ks t (Array.replicate l.length false))=true)
  (h:wpT (RN.KeepsN N) P Q l ks t a w.drew):(Code.region id l.toArray true).wp P Q a w:=wp_region_t _ ks t hB h
theorem wp_rK {id:Nat} {a:Act} {w:World} (N:Nat→Prop) (ks:List Nat) (t:Tr) (hB:(P.follows .mixedOrders&&Region.noSelect l.toArray&&Nat.beq t.len l.length&&checkT l ks t (Array.replicate l.length false))=true)
  (h:wpT (RK.KeepsN N) P Q l ks t a w.drew):(Code.region id l.toArray true).wp P Q a w:=wp_region_t _ ks t hB h
end
section
variable {R:World→World→Prop} {P:Program} {Q:Exit→Act→World→Prop} {l:List XOp} {o:Oper} {a:Act} {w:World}
theorem wpL_nil (h:Q .normal a w):wpL R P Q [] a w:=h
theorem wpL_p (h:∀K:Act→World→Prop,(∀a w,wpL R P Q l a w→K a w)→∃v,(∀w',(execOp a.eval o).run P w'=.ok (.value v) w')∧K (a.put o.dst v) w):
  wpL R P Q (⟨0,none,o⟩::l) a w:=by
 simp only[wpL,wpK,wantedAt,if_true]
 exact⟨fun _=>h _ (fun _ _ h=>h),fun hk=>by omega,fun hk=>by omega,fun hk=>by omega⟩
theorem wpL_r (h:∀K:Act→World→Prop,(∀a w,wpL R P Q l a w→K a w)→∃v,(∀w',R w w'→(execOp a.eval o).run P w'=.ok (.value v) w')∧K (a.put o.dst v) w):
  wpL R P Q (⟨1,none,o⟩::l) a w:=by
 simp only[wpL,wpK,wantedAt,if_true]
 exact⟨fun hk=>by omega,fun _=>h _ (fun _ _ h=>h),fun hk=>by omega,fun hk=>by omega⟩
theorem wpL_s {v:Value} (h1:∀w',R w w'→(execOp a.eval o).run P w'=.ok (.value v) w') (h2:wpL R P Q l (a.put o.dst v) w):wpL R P Q (⟨1,none,o⟩::l) a w:=wpL_r fun _ hK=>⟨v,h1,hK _ _ h2⟩
theorem wpL_e (h:∀K:Act→World→Prop,(∀a w,wpL R P Q l a w→K a w)→o.wp P a w K (Only Q)):
  wpL R P Q (⟨2,none,o⟩::l) a w:=by
 simp only[wpL,wpK,wantedAt,if_true]
 exact⟨fun hk=>by omega,fun hk=>by omega,fun _=>h _ (fun _ _ h=>h),fun hk=>by omega⟩
theorem wpL_k (h:∀K:Act→World→Prop,(∀a w',R w w'→wpL R P Q l a w'→K a w')→o.wp P a w K (Only Q)):
  wpL R P Q (⟨3,none,o⟩::l) a w:=by
 simp only[wpL,wpK,wantedAt,if_true]
 exact⟨fun hk=>by omega,fun hk=>by omega,fun hk=>by omega,fun _=>h _ (fun _ _ h h'=>⟨h,h'⟩)⟩
theorem wpL_no {k t:Nat} {want b:Bool} (hy:a.tmps[t]?=some (.bool b)) (hb:(b==want)=false)
  (h:∀K:Act→World→Prop,(∀a w,wpL R P Q l a w→K a w)→K (a.put o.dst undef) w):wpL R P Q (⟨k,some (some t,want),o⟩::l) a w:=by
 have hw:wantedAt (some (some t,want)) a.tmps=false:=by simp only[wantedAt,Option.bind_some,hy];simpa using hb
 simp only[wpL,wpK,hw,Bool.false_eq_true,if_false]
 exact h _ (fun _ _ h=>h)
theorem wpL_yes {k t:Nat} {want b:Bool} (hy:a.tmps[t]?=some (.bool b)) (hb:(b==want)=true)
  (h:wpL R P Q (⟨k,none,o⟩::l) a w):wpL R P Q (⟨k,some (some t,want),o⟩::l) a w:=by
 have hw:wantedAt (some (some t,want)) a.tmps=true:=by simp only[wantedAt,Option.bind_some,hy];simpa using hb
 simp only[wpL,wpK,hw,if_true]
 simp only[wpL,wpK,wantedAt,if_true] at h
 exact h
theorem wpL_un {k t:Nat} {want:Bool} (hy:a.tmps[t]?=some undef)
  (h:∀K:Act→World→Prop,(∀a w,wpL R P Q l a w→K a w)→K (a.put o.dst undef) w):wpL R P Q (⟨k,some (some t,want),o⟩::l) a w:=by
 have hw:wantedAt (some (some t,want)) a.tmps=false:=by simp[wantedAt,hy,undef]
 simp only[wpL,wpK,hw,Bool.false_eq_true,if_false]
 exact h _ (fun _ _ h=>h)
end
theorem hid {p:Prop} (h:p):Hid p:=h
def Stop (p:Prop):Prop:=p
theorem Stop.halt {p:Prop} (h:Stop p):p:=h
theorem Stop.go {p:Prop} (h:p):Stop p:=h
def Sl (w:World) (B sz:Nat) (v:Value) (n:Nat) (xs:List Value):Prop:=
 ∃a cap,v=.slice a n cap∧n≤9223372036854775807∧xs.length=n*sz∧(0 < n→∃b off,a=some ⟨b,off,none⟩∧b < B∧∀j u,xs[j]?=some u→w.cell? ⟨b,off+j,none⟩=some u)
section
variable {w w':World} {B B' sz n:Nat} {v:Value} {xs:List Value}
theorem Sl.ex (h:Sl w B sz v n xs):∃a cap,v=.slice a n cap∧n≤9223372036854775807:=let ⟨a,cap,hv,hn,_⟩:=h;⟨a,cap,hv,hn⟩
theorem Sl.keep (h:Sl w B sz v n xs) (hk:∀b off,b < B→w'.cell? ⟨b,off,none⟩=w.cell? ⟨b,off,none⟩):Sl w' B sz v n xs:=by
 obtain⟨a,cap,hv,hn,hl,h⟩:=h
 exact⟨a,cap,hv,hn,hl,fun h0=>let ⟨b,off,ha,hb,hc⟩:=h h0;⟨b,off,ha,hb,fun j u hu=>(hk b _ hb).trans (hc j u hu)⟩⟩
theorem Sl.more (h:Sl w B sz v n xs) (hB:B≤B'):Sl w B' sz v n xs:=by
 obtain⟨a,cap,hv,hn,hl,h⟩:=h
 exact⟨a,cap,hv,hn,hl,fun h0=>let ⟨b,off,ha,hb,hc⟩:=h h0;⟨b,off,ha,by omega,hc⟩⟩
theorem Sl.below (h:Sl w B sz v n xs) (hb:Below B w w'):Sl w' B sz v n xs:=h.keep fun b off hlt=>hb.cell (p:=⟨b,off,none⟩) hlt
theorem Sl.drew (h:Sl w B sz v n xs):Sl w.drew B sz v n xs:=h
theorem Sl.alloc (h:Sl w B sz v n xs) (hB:B≤w.heap.size) (o:Obj):Sl (w.alloc o) B sz v n xs:=
 h.keep fun b off hlt=>World.cell?_alloc_lt w o ⟨b,off,none⟩ (by show b < _;omega)
theorem Sl.of_own {e:TypeId} {base:Nat} (h:w.ownsRow base e sz v n xs):Sl w w.heap.size sz v n xs:=by
 obtain⟨hl,h⟩:=h
 rcases h with⟨rfl,rfl⟩|⟨g,cap,cur,rfl,hg,hh,hnc,hcm,hs,ht⟩
 ·exact ⟨none,0,rfl,by omega,hl,fun h=>absurd h (by omega)⟩
 ·refine ⟨some ⟨g,0,none⟩,cap,rfl,by unfold maxLen at hcm;omega,hl,fun _=>⟨g,0,rfl,(Array.getElem?_eq_some_iff.1 hh).1,fun j u hu=>?_⟩⟩
  have hj:j < n*sz:=by have:=(List.getElem?_eq_some_iff.1 hu).1;omega
  rw[←ht,List.getElem?_take,if_pos hj] at hu
  simp only[World.cell?,hh,Option.isSome_none,Bool.false_eq_true,if_false,Nat.zero_add]
  simpa using hu
end
theorem Sl.at1 {w:World} {B n cap:Nat} {a:Option Addr} {xs:List Value} (h:Sl w B 1 (.slice a n cap) n xs) {k:Nat} (hk:k < n):
  ∃b off u,a=some ⟨b,off,none⟩∧b < B∧xs[k]?=some u∧w.cell? ⟨b,off+k,none⟩=some u:=by
 obtain⟨a',cap',hv,hm,hl,h⟩:=h
 simp only[Value.slice.injEq] at hv
 obtain⟨rfl,-,rfl⟩:=hv
 obtain⟨b,off,rfl,hb,hc⟩:=h (by omega)
 have hkl:k < xs.length:=by omega
 exact⟨b,off,xs[k],rfl,hb,List.getElem?_eq_getElem hkl,hc k _ (List.getElem?_eq_getElem hkl)⟩
theorem flat_get {α:Type} (f:α→List Value) (sz:Nat) (hf:∀x,(f x).length=sz):∀(l:List α) (k j:Nat) (x:α),l[k]?=some x→j < sz→(l.flatMap f)[k*sz+j]?=(f x)[j]?
 |[],k,j,x,h,_=>by simp at h
 |y::l,0,j,x,h,hj=>by
  simp only[List.getElem?_cons_zero,Option.some.injEq] at h
  subst h
  simp only[List.flatMap_cons,Nat.zero_mul,Nat.zero_add]
  rw[List.getElem?_append_left (by rw[hf];exact hj)]
 |y::l,k+1,j,x,h,hj=>by
  simp only[List.getElem?_cons_succ] at h
  simp only[List.flatMap_cons]
  rw[List.getElem?_append_right (by rw[hf,Nat.add_mul];omega),hf,show(k+1)*sz+j - sz=k*sz+j from by rw[Nat.add_mul];omega]
  exact flat_get f sz hf l k j x h hj
theorem flat_length {α:Type} (f:α→List Value) (sz:Nat) (hf:∀x,(f x).length=sz) (l:List α):(l.flatMap f).length=l.length*sz:=by
 induction l with
 |nil=>simp
 |cons x l ih=>simp only[List.flatMap_cons,List.length_append,ih,hf,List.length_cons,Nat.add_mul];omega
theorem Sl.atF {α:Type} {w:World} {B sz n cap:Nat} {a:Option Addr} {f:α→List Value} {l:List α} (hf:∀x,(f x).length=sz) (h:Sl w B sz (.slice a n cap) n (l.flatMap f)) (hln:l.length=n) {k:Nat} (hk:k < n):
  ∃b off x,a=some ⟨b,off,none⟩∧b < B∧l[k]?=some x∧∀j,j < sz→w.cell? ⟨b,off+k*sz+j,none⟩=(f x)[j]?:=by
 obtain⟨a',cap',hv,hm,hl,h⟩:=h
 simp only[Value.slice.injEq] at hv
 obtain⟨rfl,-,rfl⟩:=hv
 obtain⟨b,off,rfl,hb,hc⟩:=h (by omega)
 have hkl:k < l.length:=by omega
 refine⟨b,off,l[k],rfl,hb,List.getElem?_eq_getElem hkl,fun j hj=>?_⟩
 have h1:=flat_get f sz hf l k j _ (List.getElem?_eq_getElem hkl) hj
 have h2:j < (f l[k]).length:=by rw[hf];exact hj
 rw[List.getElem?_eq_getElem h2] at h1 ⊢
 rw[Nat.add_assoc]
 exact hc _ _ h1
theorem cell_new (w:World) (cs:Array Value) (t:TypeId) (fz:Nat×Nat) (j:Nat):(w.alloc (.cells cs t fz)).cell? ⟨w.heap.size,j,none⟩=cs[j]?:=by
 have h:(w.alloc (.cells cs t fz)).heap[w.heap.size]?=some (.cells cs t fz):=heap_alloc_new w _
 simp only[World.cell?,h,Option.isSome_none,Bool.false_eq_true,if_false]
theorem cell_below {B:Nat} {w w':World} {b off:Nat} {v:Value} (hb:Below B w w') (h:b < B) (hv:w.cell? ⟨b,off,none⟩=some v):w'.cell? ⟨b,off,none⟩=some v:=
 (hb.cell (p:=⟨b,off,none⟩) h).trans hv
theorem sameInts_eq (v1 v2:Value) (xs:List Int) (n:Nat) (w:World) (h1:Sl w w.heap.size 1 v1 n (xs.map (.int .i64))) (h2:Sl w w.heap.size 1 v2 n (xs.map (.int .i64))):
  Calls Tryz.prog 30 #[v1,v2] w fun e w'=>e=.returned (.bool true)∧Below w.heap.size w w':=by
 obtain⟨a1,c1,rfl,m1⟩:=h1.ex
 obtain⟨a2,c2,rfl,m2⟩:=h2.ex
 have H1:=hid h1
 have H2:=hid h2
 clear h1 h2
 have hb:((n:Int) !=(n:Int))=false:=by simp
 go_enter Tryz.func30,Tryz.ntmps30
 go_wp2
 go_loopw [5] (fun i wr=>∃k:Nat,k≤n∧i=.int .i64 k∧Below w.heap.size w wr) (fun i _=>n - (intOf i).toNat)
 case atStart=>exact⟨0,by omega,rfl,Below.refl _ _⟩
 case round=>
  obtain⟨k,hk,rfl,hB⟩:=hrel
  by_cases hlt:k < n
  ·obtain ⟨b1,o1,x,rfl,-,gx,hc1⟩:=(H1.out.below hB).at1 hlt
   obtain⟨b2,o2,y,rfl,-,gy,hc2⟩:=(H2.out.below hB).at1 hlt
   obtain rfl:x=y:=by rw[gx] at gy;exact Option.some.inj gy
   obtain⟨z,hz⟩:∃z:Int,x=.int .i64 z:=by
    obtain⟨z,-,hz⟩:=List.mem_map.1 (List.mem_of_getElem? gx)
    exact⟨z,hz.symm⟩
   subst hz
   clear gx gy
   have HB:=hid hB
   clear hB
   go_wp2
   refine wp_region_x [0,0,0,1,0,0,0,1,0,0] [0,1,2,3,4,5,6,7,8,9] (by kernel_rfl) ?_
   simp only[selX,guardAt,sD,sE,sF,sG]
   repeat first|(refine wpL_p fun K hK=>?_;go_simp;refine hK _ _ ?_;clear hK K)|(apply wpL_s;(intro w2 hw2;have hk1:=hw2.cell;have hk3:=hw2.heap;clear hw2;go_simp;with_reducible rfl);simp only[Act.put,sA,sB,sC])|refine wpL_yes rfl rfl ?_|(refine wpL_no rfl rfl fun K hK=>?_;simp only[Act.put,sA,sB,sC];refine hK _ _ ?_;clear hK K)|refine wpL_nil ?_
   go_wp2
   go_roundw
   case rel=>exact⟨k+1,by omega,by go_num,HB.out.drew⟩
   case measure=>simp[intOf];omega
  ·go_wp2
   go_ret
   exact⟨rfl,hB⟩
structure Ob where
 kind:Int
 init:Int
structure Ev where
 kind:Int
 tx:Int
 thread:Int
 obj:Int
 op:Int
 key:Int
 val:Int
 ret:Int
def Ob.cells (x:Ob):List Value:=[.int .i64 x.kind,.int .i64 x.init]
def Ev.cells (x:Ev):List Value:=[.int .i64 x.kind,.int .i64 x.tx,.int .i64 x.thread,.int .i64 x.obj,.int .i64 x.op,.int .i64 x.key,.int .i64 x.val,.int .i64 x.ret]
theorem Ob.len (x:Ob):x.cells.length=2:=rfl
theorem Ev.len (x:Ev):x.cells.length=8:=rfl
