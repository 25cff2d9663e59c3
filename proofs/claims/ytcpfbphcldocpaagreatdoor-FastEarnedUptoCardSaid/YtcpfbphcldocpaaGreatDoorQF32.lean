/- Parts of the proof, merged by program out of 7 texts (GsJ, Range, RanC, FpC, Glo, OpP, OpH): the first: A table whose deeds are reads and writes of registers is one of the automaton of registers. Conditions: those of each theorem, as typed. -/
import Derived.Test.YtcpfbphcldocpaaGreatDoorQF21
import Derived.RangeFuncNested
import Derived.RangeFuncBound
import Derived.RangeFuncCalls
import Derived.RangeFuncLeaves
import Derived.Shelf.Abstract
import Derived.WalkKit
import Derived.OwnWalkIn
import Derived.TacticsInMore
import Derived.LoopNIn
import Derived.LoopIn
import Derived.Test.YtcpfbphcldocpaaGreatDoorQF22
import Derived.Test.YtcpfbphcldocpaaGreatDoorQF16
import Derived.Test.YtcpfbphcldocpaaGreatDoorQF02
import Derived.ProofKit
import Derived.ChangeSame
import Derived.ChangeSlices
import Derived.WideKeyArgs
import Derived.Deep.Slices
import Derived.Deep.SlicePairs
import Derived.Deep.Fields
import Derived.Test.YtcpfbphcldocpaaGreatDoorQF01
import Derived.Test.YtcpfbphcldocpaaGreatDoorQF05
set_option linter.unusedVariables false
set_option linter.unusedSimpArgs false
set_option linter.unusedSectionVars false
set_option maxRecDepth 100000
set_option maxHeartbeats 4000000
namespace Go.Proofs.YtcpfbphcldocpaaGreatDoor
open Go.ChangeAt Go.ChangeShapes Go.Deep Go.Maps Go.RowKit Go.WideShapes
def RegD (A:Au):Prop:=∀s ∈ A,∀d ∈ s.deeds,d.op=1∨d.op=2
theorem deeds_back {n:Nat} {e:Ev} {s s':St} (hm:moveG n e s=some s') (h:∀d ∈ s'.deeds,d.op=1∨d.op=2):∀d ∈ s.deeds,d.op=1∨d.op=2:=by
 rcases moveG_cases hm with⟨-,-,rfl⟩|⟨-,-,d,hd,-,rfl⟩|⟨-,-,rfl⟩|⟨-,-,rfl⟩|⟨-,-,rfl⟩|⟨-,-,rfl⟩
 ·exact fun d hd=>h d (by simp[callSt,hd])
 ·have e1:retSt e.ret e.val n s={s with stand:=1,deeds:=s.deeds.dropLast++[retDd d e.ret e.val n]}:=by unfold retSt;rw[hd]
  rw[e1] at h
  have hl:=dd_last hd
  intro x hx
  rw[hl] at hx
  rcases List.mem_append.1 hx with hx|hx
  ·exact h x (by simp[hx])
  ·rw [List.mem_singleton.1 hx]
   exact h (retDd d e.ret e.val n) (by simp)
 ·exact h
 ·exact h
 ·exact h
 ·exact h
theorem RegD.back {A A':Au} {n:Nat} {e:Ev} (hs:stepG A n e=some A') (h:RegD A'):RegD A:=by
 rcases stepG_cases hs with⟨-,-,-,rfl⟩|⟨k,s,s',-,hk,-,hm,rfl⟩
 ·exact fun s hs=>h s (by simp[hs])
 ·intro t ht
  obtain⟨j,hj⟩:=List.mem_iff_getElem?.1 ht
  by_cases e:k=j
  ·subst e
   rw[hk] at hj
   obtain rfl:=Option.some.inj hj
   exact deeds_back hm (h s' (mem_set_self hk))
  ·exact h t (List.mem_iff_getElem?.2 ⟨j,by rw[List.getElem?_set_ne e];exact hj⟩)
theorem move_reg {n:Nat} {e:Ev} {s s':St} (hm:moveG n e s=some s') (h:∀d ∈ s.deeds,d.op=1∨d.op=2):moveSt n e s=some s':=by
 rcases moveG_cases hm with⟨h1,h2,rfl⟩|⟨h1,h2,d,hd,hf,rfl⟩|⟨h1,h2,rfl⟩|⟨h1,h2,rfl⟩|⟨h1,h2,rfl⟩|⟨h1,h2,rfl⟩
 ·simp [moveSt,h1,h2,callSt]
 ·have hop:=h d (List.mem_of_getLast? hd)
  have hr:fitsR d.op e.ret:=by
   rcases hop with e1|e1 <;> rw[e1] at hf ⊢ <;> simp[fitsB,valuedB] at hf <;> simp[fitsR,hf]
  unfold moveSt
  rw[if_neg (by omega),if_pos h1,if_pos h2,hd]
  simp only
  rw[if_pos hr]
  unfold retSt
  rw[hd]
  rfl
 ·simp [moveSt,h1,h2,tryS]
 ·simp [moveSt,h1,h2,endS]
 ·simp [moveSt,h1,h2,endS]
 ·simp [moveSt,h1,h2,canS]
theorem fed_of_run:∀(m:Nat) {es:List Ev} {A:Au},es.length=m→runG [] 0 es=some A→RegD A→Fed es A
 |0,es,A,hm,h,_=>by
  obtain rfl:=List.length_eq_zero_iff.1 hm
  simp only[runG,Option.some.injEq] at h
  subst h
  exact .nil
 |m+1,es,A,hm,h,hr=>by
  have hne:es≠[]:=by rintro rfl;simp at hm
  obtain⟨l,e,rfl⟩:∃l e,es=l++[e]:=⟨es.dropLast,es.getLast hne,(List.dropLast_concat_getLast hne).symm⟩
  rw[runG_snoc] at h
  cases h0:runG [] 0 l with
  |none=>rw[h0] at h;cases h
  |some A0=>
   rw[h0] at h
   simp only[Option.bind_some,Nat.zero_add] at h
   have hr0:=hr.back h
   have hf:=fed_of_run m (by simpa using hm) h0 hr0
   refine .snoc hf ?_
   rcases stepG_cases h with⟨hk,h1,h2,rfl⟩|⟨k,s,s',hk,hs,hi,hmv,rfl⟩
   ·exact .begin hk h1 h2
   ·exact .move k s s' hk hs hi (move_reg hmv (hr0 s (List.mem_of_getElem? hs)))
theorem fed_table {os:List Ob} {es:List Ev} {A:Au} (h:tableG os es=some A) (hr:RegD A):Fed es A:=by
 unfold tableG at h
 split at h
 ·exact fed_of_run _ rfl h hr
 ·cases h
def mark (D:Nat):Deferred:={target:=.collected D,args:=#[]}
theorem below_put {B:Nat} (W:World) (l:Nat) (o:Obj) (hl:B≤l) (h:l < W.heap.size):Below B W (W.putObj l o):=
 (Below.refl B W).grown (grownBy_putObj' W l o) (by omega) (fun k e=>by cases e;omega)
structure KeepM (M:Obj→Prop) (L:Nat→Prop) (lo hb:Nat) (A B:World):Prop where
 base:Below 0 A B
 block:∀k O,L k∨lo≤k→k < hb→A.heap[k]?=some O→¬M O→B.heap[k]?=some O
theorem KeepM.size {M:Obj→Prop} {L:Nat→Prop} {lo hb:Nat} {A B:World} (h:KeepM M L lo hb A B):A.heap.size≤B.heap.size:=h.base.size
theorem KeepM.below {M:Obj→Prop} {L:Nat→Prop} {lo hb N:Nat} {A B:World} (h:Below N A B) (hN:hb≤N):KeepM M L lo hb A B:=⟨h.mono (Nat.zero_le _),fun k O _ hk hO _=>(h.block k (by omega)).trans hO⟩
theorem LeavesIn.fin {F:Fence} {n:Nat} {P:Program} {fn:Func} {tmps:Array Value} {R:Ending→World→Prop} {w:World} {v:Value} (h:(results fn tmps).run P w=.ok v w) (hR:R (.returned v) w):LeavesIn F n P fn tmps R [] .returning w:=⟨v,h,hR⟩
theorem leaves_mark1 {F:Fence} {n:Nat} {P:Program} {fn:Func} {tmps:Array Value} {R:Ending→World→Prop} {D:Nat} {w:World} (hd:w.heap[D]?=some (.deferred (some [])))
  (h:∀w',Below D w w'→(∀k,k≠D→w'.heap[k]?=w.heap[k]?)→LeavesIn F n P fn tmps R [] .returning w'):LeavesInM F n P fn tmps R [mark D] .returning w:=
 ⟨by simp,.inl ⟨D,_,rfl,run_takeDeferred hd,h _ (below_put w D _ (Nat.le_refl _) (Array.getElem?_eq_some_iff.1 hd).1) fun k hk=>World.putObj_heap_other hk⟩⟩
def IterC (P:Program) (M:Obj→Prop) (L:Nat→Prop) (Qs:(Nat→Prop)→Prop) (G:Array Value→Prop) (gf:Nat) (cs:Array Value) (m:Nat) (Pre Gd:World→Prop) (H:(Nat→Prop)→Nat→World→Nat→Array Value→Prop) (N:Nat):Prop:=
 ∀(l:Nat) (J Jx:(Nat→Prop)→Nat→World→Prop) (W:World),Pre W→(∀q i A,Qs q→J q i A→Gd A)→(∀q i A B,Qs q→J q i A→W.heap.size≤A.heap.size→Below W.heap.size A B→(∀k,k < A.heap.size→¬q k→B.heap[k]?=A.heap[k]?)→J q i B)→
  (∀q i A B,Qs q→Jx q i A→W.heap.size≤A.heap.size→Below W.heap.size A B→(∀k,k < A.heap.size→¬q k→B.heap[k]?=A.heap[k]?)→Jx q i B)→
  (∀(q:Nat→Prop) (i:Nat) (W1:World) (hb:Nat) (args:Array Value),i < N→Qs q→J q i W1→(∀k,q k→W.heap.size≤k∧k < hb)→W.heap.size≤hb→hb≤W1.heap.size→H q i W1 hb args→
   YieldAt Fence.wide m P l args W1 fun e W'=>(e=.returned (.bool true)∧(J q (i+1) W'∧KeepM M L W.heap.size hb W1 W')∧G args)∨(e=.returned (.bool false)∧Jx q (i+1) W'∧KeepM M L W.heap.size hb W1 W'))→
  (∀q,Qs q→(∀k,q k→W.heap.size≤k)→J q 0 W)→
  CallsIn Fence.wide (m+1) P gf (#[.func (.yield l) #[] #[]]++cs) W fun e W'=>(∃v,e=.returned v)∧∃q,Qs q∧(J q N W'∨∃i,0 < i∧i≤N∧Jx q i W')
def Lb (n0:Nat) (E:Nat→Prop):Nat→Prop:=fun k=>k < n0∧¬E k
def roundM (g:Prop) (M:Obj→Prop) (L:Nat→Prop) (lo hb:Nat) (I:Nat→World→Prop) (Ix:Code→Nat→World→Prop) (i:Nat) (W:World):Exit→Act→World→Prop
 |.normal,_,W'=>(I i W'∧KeepM M L lo hb W W')∧g
 |.ret,_,W'=>Ix .ret i W'∧KeepM M L lo hb W W'
 |.exit id,_,W'=>Ix (.exit id) i W'∧KeepM M L lo hb W W'
 |.goto t,_,W'=>Ix (.goto t) i W'∧KeepM M L lo hb W W'
 |.panic _,_,_=>False
 |.outgrown,_,_=>False
theorem wpIn_range_ownC {P:Program} {M:Obj→Prop} {L:Nat→Prop} {Qs:(Nat→Prop)→Prop} {G:Array Value→Prop} {m gf N:Nat} {cs:Array Value} {Pre Gd:World→Prop} {H:(Nat→Prop)→Nat→World→Nat→Array Value→Prop} {g:Operand} {ps:Array Tmp} {assign body:Code} {Q:Exit→Act→World→Prop} {a:Act} {w:World}
  (hg:a.eval g=.func (.func gf) #[] cs) (eg:∀args w,(callFunc gf args).run P w=.ok (.enter gf args) w) (hL:∀k,L k→k < w.heap.size) (hit:IterC P M L Qs G gf cs m Pre Gd H N) (hps:∀q i W hb args,H q i W hb args→args.size=ps.size)
  (I:(Nat→Prop)→Nat→World→Prop) (Ix:(Nat→Prop)→Code→Nat→World→Prop) (hI:∀q i A B,Qs q→I q i A→w.heap.size≤A.heap.size→Below w.heap.size A B→(∀k,k < A.heap.size→k≠w.heap.size+1→¬q k→B.heap[k]?=A.heap[k]?)→I q i B) (hIx:∀q c i A B,Qs q→Ix q c i A→w.heap.size≤A.heap.size→Below w.heap.size A B→(∀k,k < A.heap.size→k≠w.heap.size+1→¬q k→B.heap[k]?=A.heap[k]?)→Ix q c i B)
  (hGd:∀q i A,Qs q→I q i A→Gd A) (h0:∀q,Qs q→(∀k,q k→w.heap.size+2≤k)→I q 0 w) (hpre:∀W,Below w.heap.size w W→Pre W) (hM1:∀r,¬M (.loop r)) (hM2:∀d,¬M (.deferred d))
  (hround:∀(q:Nat→Prop) (i:Nat) (W1:World) (hb:Nat) (args:Array Value),i < N→Qs q→I q i W1→(∀k,q k→w.heap.size+2≤k∧k < hb)→w.heap.size+2≤hb→hb≤W1.heap.size→H q i W1 hb args→
   assign.wpIn (Fence.wide.inRound (w.heap.size+1)) m P (Exit.then (fun a₁ w₁=>Below W1.heap.size W1 w₁∧∀w₂,w₂.heap.size=w₁.heap.size→(∀k,k≠w.heap.size+1→w₂.heap[k]?=w₁.heap[k]?)→Below w.heap.size w₁ w₂→
    body.wpIn (Fence.wide.inRound (w.heap.size+1)) m P (roundM (G args) M L w.heap.size hb (I q) (Ix q) (i+1) w₂) a₁ w₂) (fun _ _ _=>False))
    {tmps:=(ps.zip args).foldl (fun t (p,v)=>t.setIfInBounds p v) a.tmps,defers:=[]} W1)
  (hdone:∀(q:Nat→Prop) (W:World),Qs q→I q N W→w.heap.size+2≤W.heap.size→W.heap[w.heap.size]?=some (.deferred (some []))→Q .normal {a with defers:=mark w.heap.size::a.defers} W)
  (hstop:∀(q:Nat→Prop) (c:Code) (i:Nat) (W:World),0 < i→i≤N→Qs q→Ix q c i W→w.heap.size+2≤W.heap.size→W.heap[w.heap.size]?=some (.deferred (some []))→c.wpIn Fence.wide (m+2) P Q {a with defers:=mark w.heap.size::a.defers} W):
  (Code.rangeFunc g ps assign body).wpIn Fence.wide (m+2) P Q a w:=by
 refine wpIn_rangeFunc ?_
 intro fn hfn
 obtain⟨rc,hrc⟩:∃rc:LoopState→Option Code→Loop,rc=fun st pe=>{state:=st,pending:=pe,fn,tmps:=a.tmps,params:=ps,assign,body,defers:=w.heap.size}:=⟨_,rfl⟩
 obtain⟨W0,hW0⟩:∃W0,(w.alloc (.deferred (some []))).alloc (.loop (rc .ready none))=W0:=⟨_,rfl⟩
 have s0:W0.heap.size=w.heap.size+2:=by rw[←hW0];simp
 have l0:W0.heap[w.heap.size+1]?=some (.loop (rc .ready none)):=by
  rw[←hW0];have:=World.alloc_heap_new (w.alloc (.deferred (some []))) (.loop (rc .ready none));rwa [World.size_alloc] at this
 have d0:W0.heap[w.heap.size]?=some (.deferred (some [])):=by
  rw[←hW0];exact(Below.heap_alloc _ _ _ (by simp)).trans (World.alloc_heap_new w _)
 have b0:Below w.heap.size w W0:=by rw[←hW0];exact((Below.refl _ w).alloc (Nat.le_refl _) _).alloc (by simp) _
 refine⟨w.heap.size+1,[mark w.heap.size],W0,{target:=.fn (.func gf) cs,args:=#[.func (.yield (w.heap.size+1)) #[] #[]]},W0,gf,#[.func (.yield (w.heap.size+1)) #[] #[]]++cs,W0,?_,?_,?_,?_,fun _=>by omega,?_⟩
 ·rw [←hW0,hrc];exact run_enterLoop_outer _ _ _ _ _
 ·simp only[resolve,hg]
  simp[go_sem]
 ·exact fun _ _=>trivial
 ·simp [invoke,go_sem,eg]
 ·have hK:∀{A B:World},Below A.heap.size A B→w.heap.size+2≤A.heap.size→∀{k:Nat} {o:Obj},k < w.heap.size+2→A.heap[k]?=some o→B.heap[k]?=some o:=
   fun hb hs k o hk h=>(hb.block k (by omega)).trans h
  refine CallsIn.mono (hit (w.heap.size+1)
   (fun q i W=>I q i W∧w.heap.size+2≤W.heap.size∧W.heap[w.heap.size+1]?=some (.loop (rc .ready none))∧W.heap[w.heap.size]?=some (.deferred (some [])))
   (fun q i W=>∃c,Ix q c i W∧w.heap.size+2≤W.heap.size∧W.heap[w.heap.size+1]?=some (.loop (rc .done (some c)))∧W.heap[w.heap.size]?=some (.deferred (some [])))
   W0 (hpre _ b0) (fun q i A hQ h=>hGd q i A hQ h.1) ?_ ?_ ?_ (fun q hQ hq=>⟨hI _ _ _ _ hQ (h0 q hQ fun k hk=>s0▸hq k hk) (Nat.le_refl _) b0 (fun k hk _ _=>b0.block k hk),by omega,l0,d0⟩)) ?_
  ·rintro q i A B hQ ⟨h1,h2,h3,h4⟩ hs hb he
   exact⟨hI _ _ _ _ hQ h1 (by omega) (hb.mono (by omega)) (fun k hk _ hT=>he k hk hT),by have:=hb.size;omega,(hb.block _ (by omega)).trans h3,(hb.block _ (by omega)).trans h4⟩
  ·rintro q i A B hQ ⟨c,h1,h2,h3,h4⟩ hs hb he
   exact⟨c,hIx _ _ _ _ _ hQ h1 (by omega) (hb.mono (by omega)) (fun k hk _ hT=>he k hk hT),by have:=hb.size;omega,(hb.block _ (by omega)).trans h3,(hb.block _ (by omega)).trans h4⟩
  ·rintro q i W1 hb args hi hQ ⟨h1,h2,h3,h4⟩ hq hlo hhi hH
   have hlt:w.heap.size+1 < W1.heap.size:=by omega
   have hy:=run_yield (P:=P) (args:=args) h3 (by rw[hrc];exact hps _ _ _ _ _ hH)
   rw[hrc] at hy
   refine⟨fn,_,assign,body,hy,roundIn_of_wpIn hfn ?_⟩
   refine wpIn_mono (hround q i W1 hb args hi hQ h1 (fun k hk=>s0▸hq k hk) (by omega) hhi hH) ?_
   intro e a1 w1 he
   cases e with
   |normal=>
    obtain⟨hb1,hbody⟩:=he
    have sz1:=hb1.size
    have r1:w1.heap[w.heap.size+1]?=some (.loop (rc .ready none)):=hK hb1 h2 (by omega) h3
    have r2:w1.heap[w.heap.size]?=some (.deferred (some [])):=hK hb1 h2 (by omega) h4
    refine⟨_,run_beginRound r1 (by rw[hrc]),?_⟩
    obtain⟨w2,hw2⟩:∃w2,w1.putObj (w.heap.size+1) (.loop {rc .ready none with state:=.busy})=w2:=⟨_,rfl⟩
    have q1:w2.heap[w.heap.size+1]?=some (.loop {rc .ready none with state:=.busy}):=by rw[←hw2];exact World.putObj_heap_same (by omega)
    have q2:∀k,k≠w.heap.size+1→w2.heap[k]?=w1.heap[k]?:=fun k hk=>by rw[←hw2];exact World.putObj_heap_other hk
    have q3:w2.heap.size=w1.heap.size:=by rw[←hw2];simp[World.putObj]
    have q4:Below w.heap.size w1 w2:=by rw[←hw2];exact below_put w1 _ _ (by omega) (by omega)
    have q5:=(q2 w.heap.size (by omega)).trans r2
    rw[hw2]
    refine wpIn_mono (hbody w2 q3 q2 q4) ?_
    have fin:∀(jump:Option Code) (W3:World),KeepM M L w.heap.size hb w2 W3→
      (Instr.endRound (w.heap.size+1) jump).run P W3=.ok (.bool jump.isNone) (W3.putObj (w.heap.size+1) (.loop (rc (if jump.isNone then .ready else .done) jump)))∧
      w.heap.size+2≤W3.heap.size∧Below w.heap.size W3 (W3.putObj (w.heap.size+1) (.loop (rc (if jump.isNone then .ready else .done) jump)))∧
      (W3.putObj (w.heap.size+1) (.loop (rc (if jump.isNone then .ready else .done) jump))).heap[w.heap.size+1]?=some (.loop (rc (if jump.isNone then .ready else .done) jump))∧
      (W3.putObj (w.heap.size+1) (.loop (rc (if jump.isNone then .ready else .done) jump))).heap[w.heap.size]?=some (.deferred (some [])):=fun jump W3 hk3=>by
     have t1:W3.heap[w.heap.size+1]?=some (.loop {rc .ready none with state:=.busy}):=hk3.block _ _ (.inr (by omega)) (by omega) q1 (hM1 _)
     have t2:W3.heap[w.heap.size]?=some (.deferred (some [])):=hk3.block _ _ (.inr (by omega)) (by omega) q5 (hM2 _)
     have t3:=hk3.size
     have t4:=run_endRound (P:=P) jump t1
     rw[hrc] at t4 ⊢
     exact⟨t4,by omega,below_put W3 _ _ (by omega) (by omega),World.putObj_heap_same (by omega),(World.putObj_heap_other (by omega)).trans t2⟩
    have keep:∀(W3:World) (o:Obj),KeepM M L w.heap.size hb w2 W3→Below w.heap.size W3 (W3.putObj (w.heap.size+1) o)→
      KeepM M L W0.heap.size hb W1 (W3.putObj (w.heap.size+1) o):=fun W3 o hk hs=>by
     refine⟨(((hb1.mono (Nat.zero_le _)).trans (q4.mono (Nat.zero_le _))).trans hk.base).trans (hs.mono (Nat.zero_le _)),fun k O hk1 hk2 hO hMO=>?_⟩
     rw[s0] at hk1
     have hk0:k≠w.heap.size+1:=hk1.elim (fun h=>by have:=hL k h;omega) (fun h=>by omega)
     exact(World.putObj_heap_other hk0).trans (hk.block k O (hk1.imp id fun h=>by omega) hk2 ((q2 k hk0).trans ((hb1.block k (by omega)).trans hO)) hMO)
    rintro e a3 W3 hp
    cases e with
    |normal=>
     obtain⟨⟨hi3,hk3⟩,hg3⟩:=hp
     obtain⟨hr,f1,f2,f3,f4⟩:=fin none W3 hk3
     exact⟨_,_,hr,.inl ⟨rfl,⟨⟨hI _ _ _ _ hQ hi3 (by omega) f2 (fun k _ hk _=>World.putObj_heap_other hk),by simp[World.putObj];omega,f3,f4⟩,keep W3 _ hk3 f2⟩,hg3⟩⟩
    |ret=>
     obtain⟨hi3,hk3⟩:=hp
     obtain⟨hr,f1,f2,f3,f4⟩:=fin (some .ret) W3 hk3
     exact⟨_,_,hr,.inr ⟨rfl,⟨_,hIx _ _ _ _ _ hQ hi3 (by omega) f2 (fun k _ hk _=>World.putObj_heap_other hk),by simp[World.putObj];omega,f3,f4⟩,keep W3 _ hk3 f2⟩⟩
    |exit id=>
     obtain⟨hi3,hk3⟩:=hp
     obtain⟨hr,f1,f2,f3,f4⟩:=fin (some (.exit id)) W3 hk3
     exact⟨_,_,hr,.inr ⟨rfl,⟨_,hIx _ _ _ _ _ hQ hi3 (by omega) f2 (fun k _ hk _=>World.putObj_heap_other hk),by simp[World.putObj];omega,f3,f4⟩,keep W3 _ hk3 f2⟩⟩
    |goto t=>
     obtain⟨hi3,hk3⟩:=hp
     obtain⟨hr,f1,f2,f3,f4⟩:=fin (some (.goto t)) W3 hk3
     exact⟨_,_,hr,.inr ⟨rfl,⟨_,hIx _ _ _ _ _ hQ hi3 (by omega) f2 (fun k _ hk _=>World.putObj_heap_other hk),by simp[World.putObj];omega,f3,f4⟩,keep W3 _ hk3 f2⟩⟩
    |panic ch=>exact hp.elim
    |outgrown=>exact hp.elim
   |ret=>exact he.elim
   |exit id=>exact he.elim
   |goto t=>exact he.elim
   |panic ch=>exact he.elim
   |outgrown=>exact he.elim
  ·rintro e W2 ⟨⟨v,rfl⟩,q,hQ,(⟨h1,h2,h3,h4⟩|⟨i,hi0,hi1,c,h1,h2,h3,h4⟩)⟩
   ·exact ⟨none,_,by have:=run_endLoop (P:=P) h3 (by rw[hrc];simp);rw[hrc] at this;exact this,
     hdone q _ hQ (hI _ _ _ _ hQ h1 (by omega) (below_put W2 _ _ (by omega) (by omega)) (fun k _ hk _=>World.putObj_heap_other hk)) (by simp[World.putObj];omega) ((World.putObj_heap_other (by omega)).trans h4)⟩
   ·exact ⟨some c,_,by have:=run_endLoop (P:=P) h3 (by rw[hrc];simp);rw[hrc] at this;exact this,
     hstop q c i _ hi0 hi1 hQ (hIx _ _ _ _ _ hQ h1 (by omega) (below_put W2 _ _ (by omega) (by omega)) (fun k _ hk _=>World.putObj_heap_other hk)) (by simp[World.putObj];omega) ((World.putObj_heap_other (by omega)).trans h4)⟩
section
attribute [local irreducible] wpL
def HistAt (w:World) (p B:Nat) (os:List Ob) (es:List Ev):Prop:=∃ov vv,w.heap[p]?=some (.cells #[ov,vv] 25 (0,0))∧OwnF Ob.cells 62 2 w B ov os∧OwnF Ev.cells 69 8 w B vv es
theorem c_Prefixes (ov vv:Value) (os:List Ob) (es:List Ev) (w:World) (ho:Sl w w.heap.size 2 ov os.length (os.flatMap Ob.cells)) (he:Sl w w.heap.size 8 vv es.length (es.flatMap Ev.cells)) (hol:os.length≤100000) (hel:es.length≤100000):
  Calls Tryz.prog 33 #[.agg #[ov,vv]] w fun e w'=>e=.returned (.func (.func 69) #[] #[.pointer (some ⟨w.heap.size,0,none⟩)])∧HistAt w' w.heap.size w.heap.size os es∧Below w.heap.size w w':=by
 obtain⟨ao,co,rfl,mo⟩:=ho.ex
 obtain⟨ae,ce,rfl,me⟩:=he.ex
 have b0:Below w.heap.size w (w.alloc (.cells #[.slice ao os.length co,.slice ae es.length ce] 25)):=(Below.refl _ w).alloc (Nat.le_refl _) _
 have r0:=row_new w (.cells #[.slice ao os.length co,.slice ae es.length ce] 25)
 have CL:=hid (h_Clone (.slice ao os.length co) (.slice ae es.length ce) os es _ ((ho.below b0).more b0.size) ((he.below b0).more b0.size) hol hel)
 have B0:=hid b0
 have R0:=hid r0
 clear ho he b0 r0
 go_enter Tryz.func33,Tryz.ntmps33
 go_wp2_with fail
 generalize w.alloc (.cells #[.slice ao os.length co,.slice ae es.length ce] 25)=W at *
 refine CL.out.mono ?_
 rintro e W1 ⟨ov',vv',rfl,o1,v1,b1⟩
 have r1:=row_below R0.out b1 (row_lt R0.out)
 have l1:=row_lt r1
 have yf:=row_free r1
 have yf0:=yf 0
 have yf1:=yf 1
 have y:=row_cell r1
 have y0:=y 0
 have y1:=y 1
 simp at y0 y1
 obtain⟨a1,c1,rfl⟩:=OwnF.slv o1
 obtain⟨a2,c2,rfl⟩:=OwnF.slv v1
 have R2:=hid (row_set (row_set r1 0 (.slice a1 os.length c1)) 1 (.slice a2 es.length c2))
 have B2:=hid (((B0.out.trans (b1.mono B0.out.size)).setCell (p:=⟨w.heap.size,0,none⟩) (Nat.le_refl _) (.slice a1 os.length c1)).setCell (p:=⟨w.heap.size,1,none⟩) (Nat.le_refl _) (.slice a2 es.length c2))
 have O2:=hid (OwnF.other (j:=1) (OwnF.other (j:=0) o1 (OwnF.neT o1 r1 (by decide)) (.slice a1 os.length c1)) (OwnF.neT o1 r1 (by decide)) (.slice a2 es.length c2))
 have V2:=hid (OwnF.other (j:=1) (OwnF.other (j:=0) v1 (OwnF.neT v1 r1 (by decide)) (.slice a1 os.length c1)) (OwnF.neT v1 r1 (by decide)) (.slice a2 es.length c2))
 have hz:=B0.out.size
 clear r1 o1 v1 b1 y yf
 go_wp2
 go_ret
 refine⟨rfl,⟨_,_,by simpa using R2.out,O2.out.base (by omega),V2.out.base (by omega)⟩,B2.out⟩
def HandX (os:List Ob) (es:List Ev) (_:Nat→Prop) (i:Nat) (w:World) (hb:Nat) (args:Array Value):Prop:=∃ov vv,args=#[.int .i64 i,.agg #[ov,vv]]∧OwnF Ob.cells 62 2 w hb ov os∧OwnF Ev.cells 69 8 w hb vv (es.take i)
def MStep (O:Obj):Prop:=∃cs fz,O=.cells cs 28 fz
section
variable {M:Obj→Prop} {n lo hb:Nat} {E:Nat→Prop} {w A B w':World}
theorem KeepM.moreM (h:KeepM M (Lb n E) n n w A) (k:KeepM M (Lb n E) lo hb A B) (hn:n≤hb):KeepM M (Lb n E) n n w B:=
 ⟨h.base.trans k.base,fun j O h1 h2 h3 h4=>k.block j O (.inl (h1.resolve_right (by omega))) (by omega) (h.block j O h1 h2 h3 h4) h4⟩
theorem KeepM.rowM {p:Nat} {O:Obj} (hk:KeepM M (Lb n E) n n w w') (hn:n=w.heap.size) (h:w.heap[p]?=some O) (hp:¬E p) (hM:¬M O):w'.heap[p]?=some O:=
 hk.block p O (.inl ⟨hn▸(Array.getElem?_eq_some_iff.1 h).1,hp⟩) (hn▸(Array.getElem?_eq_some_iff.1 h).1) h hM
theorem OwnF.keepE {α:Type} {f:α→List Value} {e:TypeId} {sz B:Nat} {v:Value} {l:List α} (h:OwnF f e sz w B v l) (hk:KeepM M (Lb n E) n n w w') (hn:n=w.heap.size) (hE:∀k,E k→k < B) (hM:∀cs fz,¬M (.cells cs e fz)):OwnF f e sz w' B v l:=by
 subst hn
 obtain⟨h1,h2⟩:=h
 refine⟨h1,?_⟩
 rcases h2 with h2|⟨g,cap,cur,rfl,hg,hh,r⟩
 ·exact .inl h2
 ·have hl:=(Array.getElem?_eq_some_iff.1 hh).1
  exact .inr ⟨g,cap,cur,rfl,hg,hk.block g _ (.inl ⟨hl,fun e=>by have:=hE g e;omega⟩) hl hh (hM _ _),r⟩
end
theorem mStep_not {cs:Array Value} {t:TypeId} {fz:Nat×Nat} (h:t≠28):¬MStep (.cells cs t fz):=fun⟨_,_,e⟩=>h (by cases e;rfl)
theorem c_iter (m:Nat) (w0:World) (E:Nat→Prop) (pH B:Nat) (os:List Ob) (es:List Ev) (hol:os.length≤100000) (hel:es.length≤100000) (hH:HistAt w0 pH B os es) (hB:B≤pH) (hE:∀k,E k→k < B):
  IterC Tryz.prog MStep (Lb w0.heap.size E) (fun q=>q=fun _=>False) (fun _=>True) 69 #[.pointer (some ⟨pH,0,none⟩)] m (fun W=>Below w0.heap.size w0 W) (fun _=>True) (HandX os es) (es.length+1):=by
 intro l J Jx W hP _ hJ _ hY h0
 obtain⟨ov,vv,hr,ho,hv⟩:=hH
 obtain⟨a1,c1,rfl⟩:=OwnF.slv ho
 obtain⟨a2,c2,rfl⟩:=OwnF.slv hv
 have nE:¬E pH:=fun h=>by have:=hE pH h;omega
 have F0:KeepM MStep (Lb w0.heap.size E) w0.heap.size w0.heap.size w0 W:=KeepM.below hP (Nat.le_refl _)
 have hcap:=OwnF.cap hv
 have hm:m+1 - 1=m:=rfl
 refine callsIn_of_wp Tryz.func69 rfl trivial ?_ rfl
 simp only[Tryz.ntmps69,List.size_toArray,List.length_cons,List.length_nil,Nat.reduceAdd,Nat.reduceSub,Array.replicate_succ,Array.replicate_zero,List.push_toArray,List.append_toArray,List.nil_append,List.cons_append]
 have HY:=hid hY
 have HJ:=hid hJ
 have HF:=hid F0
 have HJ0:=hid (h0 (fun _=>False) rfl fun k e=>by cases e)
 have HR:=hid hr
 have HO:=hid ho
 have HV:=hid hv
 clear hY hJ h0 F0 hr ho hv hP
 gi_wp2_with fail
 gi_loopw [3] (fun p wr=>∃(i:Nat),i≤es.length+1∧p=.int .i64 i∧J (fun _=>False) i wr∧KeepM MStep (Lb w0.heap.size E) w0.heap.size w0.heap.size w0 wr∧W.heap.size≤wr.heap.size)
  (fun p _=>es.length+1 - (intOf p).toNat)
 case atStart=>exact⟨0,by omega,by go_num,HJ0.out,HF.out,Nat.le_refl _⟩
 case round=>
  obtain⟨i,hi,rfl,hJi,hF,hs⟩:=hrel
  have r:=hF.rowM rfl HR.out nE (mStep_not (by decide))
  have y:=row_cell r
  have y0:=y 0
  have y1:=y 1
  simp at y0 y1
  have yl:=row_lt r
  have HF1:=hid hF
  have HJi:=hid hJi
  clear y r hF hJi HJ0
  by_cases hlt:i≤es.length
  ·have PC:=hid (h_Prefix (.slice a1 os.length c1) a2 c2 os es i wr (OwnF.sl (OwnF.keepE HO.out HF1.out rfl hE fun _ _=>mStep_not (by decide))) (OwnF.sl (OwnF.keepE HV.out HF1.out rfl hE fun _ _=>mStep_not (by decide))) hcap hol hel)
   gi_wp2_with fail
   refine⟨trivial,(callsIn_wide.2 PC.out).mono ?_⟩
   rintro e w1 ⟨ov,vv,rfl,o1,v1,b1⟩
   obtain⟨a3,c3,rfl⟩:=OwnF.slv o1
   obtain⟨a4,c4,rfl⟩:=OwnF.slv v1
   have hti:(es.take i).length=i:=by rw[List.length_take];omega
   rw[hti] at v1 ⊢
   clear hti
   obtain⟨fn,tmps,assign,body,hy,hR⟩:=HY.out (fun _=>False) i w1 wr.heap.size #[.int .i64 i,.agg #[.slice a3 os.length c3,.slice a4 i c4]] (by omega) rfl (HJ.out (fun _=>False) i _ _ rfl HJi.out hs (b1.mono hs) fun k hk _=>b1.block k hk) (fun k e=>by cases e) hs b1.size ⟨_,_,rfl,o1,v1⟩
   have HB:=hid b1
   have hz1:=b1.size
   clear o1 v1 b1 PC
   gi_wp2_with fail
   refine hR.mono ?_
   rintro e W3 (⟨rfl,⟨hJ3,hk3⟩,-⟩|⟨rfl,hJx3,-⟩)
   ·have hs3:=hk3.size
    have hw0:=HF.out.size
    have F3:=hid ((HF1.out.moreM (KeepM.below (lo:=w0.heap.size) HB.out (Nat.le_trans hw0 hs)) (Nat.le_refl _)).moreM hk3 (Nat.le_trans hw0 hs))
    have J3:=hid hJ3
    clear hJ3 hk3
    gi_wp2_with fail
    go_roundw
    case rel=>exact⟨i+1,by omega,by go_num,J3.out,F3.out,by omega⟩
    case measure=>simp[intOf];omega
   ·gi_wp2_with fail
    refine bodyPost_ret (results_none rfl _ _ _) rfl ?_
    exact⟨⟨_,rfl⟩,(fun _=>False),rfl,.inr ⟨i+1,by omega,by omega,hJx3⟩⟩
  ·obtain rfl:i=es.length+1:=by omega
   have hq:decide (((es.length+1:Nat):Int)≤(es.length:Int))=false:=by simp;omega
   gi_wp2_with fail
   go_end0
   exact⟨⟨_,rfl⟩,(fun _=>False),rfl,.inl HJi.out⟩
end

section
variable {H:Type} {enc:TypeId×Value→H} {P:Program} {W:World}
theorem cell_live {a:Addr} {u:Value} (h:W.cell? a=some u):a.block < W.heap.size∧a.spot=none:=by
 unfold World.cell? at h
 split at h
 ·rename_i hb
  refine⟨(Array.getElem?_eq_some_iff.1 hb).1,?_⟩
  split at h
  ·cases h
  ·rename_i hs;cases hh:a.spot <;> simp_all
 ·cases h
theorem addr_flat {a:Addr} (h:a.spot=none) (j:Nat):a.add j=⟨a.block,a.off+j,none⟩:=by
 obtain⟨b,o,s⟩:=a
 simp only at h
 subst h
 unfold Addr.add
 split <;> simp_all
theorem Sl.of_each {α:Type} {f:α→List Value} {sz n cap:Nat} (hf:∀x,(f x).length=sz) (h0:0 < sz) {a:Addr} {l:List α} (hl:l.length=n) (hn:n≤9223372036854775807)
  (h:∀i x,l[i]?=some x→∀j,j < sz→W.cell? (a.add (i*sz+j))=(f x)[j]?):Sl W W.heap.size sz (.slice (some a) n cap) n (l.flatMap f):=by
 refine⟨_,_,rfl,hn,by rw[flat_length f sz hf,hl],fun hp=>?_⟩
 have hcell:∀i x,l[i]?=some x→∀j,(hj:j < sz)→W.cell? (a.add (i*sz+j))=some ((f x)[j]'(by rw[hf];exact hj)):=fun i x hi j hj=>by
  rw[h i x hi j hj];exact List.getElem?_eq_getElem _
 obtain⟨hb,hs⟩:=cell_live (hcell 0 (l[0]'(by omega)) (List.getElem?_eq_getElem _) 0 h0)
 have hs':a.spot=none:=by
  rw[Nat.zero_mul,Nat.zero_add] at hs
  simpa[Addr.add] using hs
 have hb':a.block < W.heap.size:=by
  rw[Nat.zero_mul,Nat.zero_add] at hb
  simpa[Addr.add] using hb
 refine⟨a.block,a.off,?_,hb',fun j u hu=>?_⟩
 ·rw [show (⟨a.block,a.off,none⟩:Addr)=a by obtain⟨b,o,s⟩:=a;simp only at hs';rw[hs']]
 ·have hj:j < (l.flatMap f).length:=(List.getElem?_eq_some_iff.1 hu).1
  rw[flat_length f sz hf] at hj
  have e:j=j / sz*sz+j % sz:=by rw[Nat.mul_comm];exact(Nat.div_add_mod j sz).symm
  have hq:j / sz < l.length:=Nat.div_lt_of_lt_mul (by rw[Nat.mul_comm];exact hj)
  have hr:j % sz < sz:=Nat.mod_lt _ h0
  rw[e,flat_get f sz hf l (j / sz) (j % sz) _ (List.getElem?_eq_getElem hq) hr] at hu
  rw[←addr_flat hs',e,h (j / sz) _ (List.getElem?_eq_getElem hq) (j % sz) hr]
  exact hu
theorem trodAll_kept (hl:laidOutB P=true) {W W':World} {sp:Nat→Bool}:∀{ts:List TypeId} {vs:List Value} {ds:List (DataW H)} {ps:List MemPlace},(ts.all fun t=>P.readableRec t&&decide (t < P.types.size))=true→
  DataW.TrodAll enc P W 0 (fun _=>true) true ts vs ds ps→(∀p ∈ ps,W.sameAt W' p)→(∀p ∈ ps,sp p.block=true)→DataW.TrodAll enc P W' 0 sp true ts vs ds ps
 |[],[],[],_,_,h,_,_=>h
 |t::_,_::_,_::_,_,hT,⟨p,q,h1,h2,e⟩,hs,hsp=>by
  simp only[List.all_cons,Bool.and_eq_true,decide_eq_true_eq] at hT
  exact⟨p,q,WideElems.Trod_stays hl hT.1.1 hT.1.2 h1 (fun x hx=>hs x (by rw[e];exact List.mem_append_left _ hx)) (fun x hx=>hsp x (by rw[e];exact List.mem_append_left _ hx)),
   trodAll_kept hl hT.2 h2 (fun x hx=>hs x (by rw[e];exact List.mem_append_right _ hx)) (fun x hx=>hsp x (by rw[e];exact List.mem_append_right _ hx)),e⟩
theorem post_args {f:Func} {s:ChangeSpec} {apart fresh handsOn again:Bool} {W W':World} {args:Array Value} {v:Value} {ds gs:List (DataW H)} {before:List MemPlace}
  (hW:DataW.Whole enc P f.params.toList s.vars apart W args.toList ds gs before)
  (hA:DataW.TrodAll enc P W 0 (fun _=>true) true f.params.toList args.toList ds before)
  (hl:laidOutB P=true) (hT:(f.params.toList.all fun t=>P.readableRec t&&decide (t < P.types.size))=true) (hv:s.vars=[])
  (hres:∀(b:Nat) (sp:Nat→Bool) (hd:Bool),DataW.TrodAll enc P W' b sp hd f.resultTypes.toList (v.resultList f.resultTypes.size) (s.fn H (ds++gs)).results [])
  (hargs:(s.fn H (ds++gs)).args=ds) (hvars:(s.fn H (ds++gs)).vars=[])
  (hb:Below W.heap.size W W')
  (hok:∀(j:Nat) (t:TypeId) (r:Value),f.resultTypes[j]?=some t→(v.resultList f.resultTypes.size)[j]?=some r→Value.okWide P W' .any 0 t r):
  s.post enc P f apart fresh handsOn again W args v W':=by
 have hlt:∀p ∈ before,p.block < W.heap.size:=fun p hp=>hW.lt p hp
 have key:∀sp:Nat→Bool,(∀p ∈ before,sp p.block=true)→DataW.TrodAll enc P W' 0 sp true f.params.toList args.toList (s.fn H (ds++gs)).args before:=fun sp hsp=>by
  rw[hargs]
  exact trodAll_kept hl hT hA (fun p hp=>hb.same (hlt p hp)) hsp
 have hvs:∀sp:Nat→Bool,DataW.TrodVars enc P W' sp s.vars (s.fn H (ds++gs)).vars []:=fun sp=>by rw[hv,hvars];rfl
 have hold:∀p ∈ before,(fun b=>decide (b < W.heap.size)) p.block=true:=fun p hp=>by simpa using hlt p hp
 refine⟨ds,gs,before,[],before,[],hW,hres _ _ _,key _ hold,hvs _,World.keptBut_mono (fun p hp=>⟨hp,.inr (.inl hp)⟩) (hb.frame (· ∈ before)),fun _=>?_⟩
 obtain⟨_,_,_,_,_,hz,hn⟩:=hW
 refine⟨hok,_,_,([]++before)++[],⟨[]++before,[],trodAll_append (key _ (fun _ _=>rfl)) (hres _ _ _),hvs _,rfl,?_,?_⟩,?_⟩
 ·intro b off hp
  have hin:MemPlace.cell b off ∈ before:=by simpa using hp
  rw[hb.frozen (hlt _ hin)]
  exact hz b off hin
 ·intro ha
  simpa using hn ha
 ·intro p hp _
  simpa using hp
end
section
variable {H:Type} {enc:TypeId×Value→H} {W:World}
theorem obs_open {fuel:Nat} {u:Value} {y:DataW H×List MemPlace} (h:DataW.trod enc Tryz.prog W 0 (fun _=>true) true fuel 22 [u]=some y):∃(l:List Ob) (a:Option Addr) (c:Nat),u=.slice a l.length c∧l.length≤c∧Sl W W.heap.size 2 u l.length (l.flatMap Ob.cells)∧∀x ∈ l,dI x.kind∧dI x.init:=by
 rcases open_slice Tryz.underlying22 h with⟨hc,-⟩|⟨a,len,cap,m,k,D,Pl,hc,-,hl,hm,hmm,-,hall⟩
 ·simp only[List.cons.injEq,and_true] at hc
  subst hc
  exact⟨[],none,0,rfl,Nat.le_refl _,⟨none,0,rfl,by simp,by simp,fun h=>by simp at h⟩,fun x hx=>by cases hx⟩
 ·simp only[List.cons.injEq,and_true] at hc
  subst hc
  have hlm:len≤m:=by rw[hmm];split <;> omega
  have ce:Tryz.prog.cellsOf 62=2:=by kernel_rfl
  have ci:Tryz.prog.cellsOf 3=1:=by kernel_rfl
  have each:∀i,i < len→∃x:Ob,(∀j,j < 2→W.cell? (a.add (i*2+j))=(Ob.cells x)[j]?)∧dI x.kind∧dI x.init:=fun i hi=>by
   obtain⟨cs',h1,h2⟩:=hall i (by omega)
   rw[ce] at h1
   obtain⟨_,hlen,hcell⟩:=World.cells?_some h1
   obtain⟨xs,k',hk,hxy,_,hxl,hf⟩:=DataW.trod_struct Tryz.underlying62 h2
   match xs,hxl,cs',hlen with
   |[y0,y1],_,[v0,v1],_=>
    have g0:=hf 0 _ rfl
    have g1:=hf 1 _ rfl
    simp[ci] at g0 g1
    have e0:=hcell 0 (by omega)
    have e1:=hcell 1 (by omega)
    rw[add_add] at e0 e1
    obtain⟨x0,q0,-,w0⟩:=DataW.trod_int Tryz.underlying3 g0
    obtain⟨x1,q1,-,w1⟩:=DataW.trod_int Tryz.underlying3 g1
    simp only[List.cons.injEq,and_true] at q0 q1
    subst q0 q1
    refine⟨⟨x0,x1⟩,fun j hj=>?_,w0,w1⟩
    match j,hj with
    |0,_=>simpa[Ob.cells] using e0
    |1,_=>simpa[Ob.cells] using e1
  have hin:Inhabited Ob:=⟨⟨0,0⟩⟩
  obtain⟨q,hq⟩:=choose_lt each
  have hll:((List.range len).map q).length=len:=by simp
  refine⟨(List.range len).map q,some a,cap,by rw[hll],by rw[hll];exact hl,?_,?_⟩
  ·rw [hll]
   refine Sl.of_each Ob.len (by omega) (by simp) (by unfold maxLen at hm;omega) fun i x hi j hj=>?_
   have hi':i < len:=by have:=(List.getElem?_eq_some_iff.1 hi).1;simpa using this
   rw[List.getElem?_map,List.getElem?_range hi'] at hi
   simp only[Option.map_some,Option.some.injEq] at hi
   subst hi
   exact(hq i hi').1 j hj
  ·intro x hx
   obtain⟨i,hi,rfl⟩:=List.mem_map.1 hx
   exact(hq i (List.mem_range.1 hi)).2
theorem evs_open {fuel:Nat} {u:Value} {y:DataW H×List MemPlace} (h:DataW.trod enc Tryz.prog W 0 (fun _=>true) true fuel 23 [u]=some y):∃(l:List Ev) (a:Option Addr) (c:Nat),u=.slice a l.length c∧l.length≤c∧Sl W W.heap.size 8 u l.length (l.flatMap Ev.cells)∧∀x ∈ l,dI x.kind∧dI x.tx∧dI x.thread∧dI x.obj∧dI x.op∧dI x.key∧dI x.val∧dI x.ret:=by
 rcases open_slice Tryz.underlying23 h with⟨hc,-⟩|⟨a,len,cap,m,k,D,Pl,hc,-,hl,hm,hmm,-,hall⟩
 ·simp only[List.cons.injEq,and_true] at hc
  subst hc
  exact⟨[],none,0,rfl,Nat.le_refl _,⟨none,0,rfl,by simp,by simp,fun h=>by simp at h⟩,fun x hx=>by cases hx⟩
 ·simp only[List.cons.injEq,and_true] at hc
  subst hc
  have hlm:len≤m:=by rw[hmm];split <;> omega
  have ce:Tryz.prog.cellsOf 69=8:=by kernel_rfl
  have ci:Tryz.prog.cellsOf 3=1:=by kernel_rfl
  have each:∀i,i < len→∃x:Ev,(∀j,j < 8→W.cell? (a.add (i*8+j))=(Ev.cells x)[j]?)∧dI x.kind∧dI x.tx∧dI x.thread∧dI x.obj∧dI x.op∧dI x.key∧dI x.val∧dI x.ret:=fun i hi=>by
   obtain⟨cs',h1,h2⟩:=hall i (by omega)
   rw[ce] at h1
   obtain⟨_,hlen,hcell⟩:=World.cells?_some h1
   obtain⟨xs,k',hk,hxy,_,hxl,hf⟩:=DataW.trod_struct Tryz.underlying69 h2
   match xs,hxl,cs',hlen with
   |[y0,y1,y2,y3,y4,y5,y6,y7],_,[v0,v1,v2,v3,v4,v5,v6,v7],_=>
    have g0:=hf 0 _ rfl
    have g1:=hf 1 _ rfl
    have g2:=hf 2 _ rfl
    have g3:=hf 3 _ rfl
    have g4:=hf 4 _ rfl
    have g5:=hf 5 _ rfl
    have g6:=hf 6 _ rfl
    have g7:=hf 7 _ rfl
    simp[ci] at g0 g1 g2 g3 g4 g5 g6 g7
    have e0:=hcell 0 (by omega)
    have e1:=hcell 1 (by omega)
    have e2:=hcell 2 (by omega)
    have e3:=hcell 3 (by omega)
    have e4:=hcell 4 (by omega)
    have e5:=hcell 5 (by omega)
    have e6:=hcell 6 (by omega)
    have e7:=hcell 7 (by omega)
    rw[add_add] at e0 e1 e2 e3 e4 e5 e6 e7
    obtain⟨x0,q0,-,w0⟩:=DataW.trod_int Tryz.underlying3 g0
    obtain⟨x1,q1,-,w1⟩:=DataW.trod_int Tryz.underlying3 g1
    obtain⟨x2,q2,-,w2⟩:=DataW.trod_int Tryz.underlying3 g2
    obtain⟨x3,q3,-,w3⟩:=DataW.trod_int Tryz.underlying3 g3
    obtain⟨x4,q4,-,w4⟩:=DataW.trod_int Tryz.underlying3 g4
    obtain⟨x5,q5,-,w5⟩:=DataW.trod_int Tryz.underlying3 g5
    obtain⟨x6,q6,-,w6⟩:=DataW.trod_int Tryz.underlying3 g6
    obtain⟨x7,q7,-,w7⟩:=DataW.trod_int Tryz.underlying3 g7
    simp only[List.cons.injEq,and_true] at q0 q1 q2 q3 q4 q5 q6 q7
    subst q0 q1 q2 q3 q4 q5 q6 q7
    refine⟨⟨x0,x1,x2,x3,x4,x5,x6,x7⟩,fun j hj=>?_,w0,w1,w2,w3,w4,w5,w6,w7⟩
    match j,hj with
    |0,_=>simpa[Ev.cells] using e0
    |1,_=>simpa[Ev.cells] using e1
    |2,_=>simpa[Ev.cells] using e2
    |3,_=>simpa[Ev.cells] using e3
    |4,_=>simpa[Ev.cells] using e4
    |5,_=>simpa[Ev.cells] using e5
    |6,_=>simpa[Ev.cells] using e6
    |7,_=>simpa[Ev.cells] using e7
  have hin:Inhabited Ev:=⟨⟨0,0,0,0,0,0,0,0⟩⟩
  obtain⟨q,hq⟩:=choose_lt each
  have hll:((List.range len).map q).length=len:=by simp
  refine⟨(List.range len).map q,some a,cap,by rw[hll],by rw[hll];exact hl,?_,?_⟩
  ·rw [hll]
   refine Sl.of_each Ev.len (by omega) (by simp) (by unfold maxLen at hm;omega) fun i x hi j hj=>?_
   have hi':i < len:=by have:=(List.getElem?_eq_some_iff.1 hi).1;simpa using this
   rw[List.getElem?_map,List.getElem?_range hi'] at hi
   simp only[Option.map_some,Option.some.injEq] at hi
   subst hi
   exact(hq i hi').1 j hj
  ·intro x hx
   obtain⟨i,hi,rfl⟩:=List.mem_map.1 hx
   exact(hq i (List.mem_range.1 hi)).2
theorem hist_open {r:Reach} {b0:Nat} {v:Value} {d:DataW H} {p:List MemPlace} (hv:Value.okWide Tryz.prog W r b0 25 v) (h:DataW.Trod enc Tryz.prog W 0 (fun _=>true) true 25 v d p):
  ∃(ov:Value) (ae:Option Addr) (ce:Nat) (os:List Ob) (es:List Ev),v=.agg #[ov,.slice ae es.length ce]∧es.length≤ce∧Sl W W.heap.size 2 ov os.length (os.flatMap Ob.cells)∧Sl W W.heap.size 8 (.slice ae es.length ce) es.length (es.flatMap Ev.cells)∧(∀o ∈ os,dI o.kind)∧∀e ∈ es,dI e.ret:=by
 obtain⟨cs,rfl,hs⟩:=okWide_struct Tryz.underlying25 hv
 obtain⟨fuel,hf⟩:=h
 have c2:Tryz.prog.cellsOf 25=2:=by kernel_rfl
 have ci:Tryz.prog.cellsOf 22=1:=by kernel_rfl
 have ct:Tryz.prog.cellsOf 23=1:=by kernel_rfl
 rw[c2] at hs
 obtain⟨xs,k',hk,hxy,_,hxl,hfs⟩:=DataW.trod_struct Tryz.underlying25 hf
 match cs,hs,xs,hxl with
 |⟨[u0,u1]⟩,_,[y0,y1],_=>
  have g0:=hfs 0 _ rfl
  have g1:=hfs 1 _ rfl
  simp[Value.cells,ci,ct] at g0 g1
  obtain⟨os,ao,co,rfl,-,h1,h2⟩:=obs_open g0
  obtain⟨es,ae,ce,rfl,h3,h4,h5⟩:=evs_open g1
  exact⟨_,ae,ce,os,es,rfl,h3,h1,h4,fun o ho=>(h2 o ho).1,fun e he=>(h5 e he).2.2.2.2.2.2.2⟩
end
