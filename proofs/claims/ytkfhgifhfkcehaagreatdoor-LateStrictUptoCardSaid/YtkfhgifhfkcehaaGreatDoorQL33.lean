/- Parts of the proof, merged by program out of 2 texts (RanC, RegI): the first: A range over a function that captures: see XRange. Conditions: those of each theorem, as typed. -/
import Derived.Test.YtkfhgifhfkcehaaGreatDoorQL32
import Derived.Test.YtkfhgifhfkcehaaGreatDoorQL03
import Derived.OrdersIn
import Derived.TacticsIn
import Derived.RangeFuncCalls
import Derived.RangeFuncIn
set_option linter.unusedVariables false
set_option linter.unusedSimpArgs false
set_option linter.unusedSectionVars false
set_option maxRecDepth 100000
set_option maxHeartbeats 4000000
namespace Go.Proofs.YtkfhgifhfkcehaaGreatDoor
open Go.RowKit
structure KeepM (M:Obj→Prop) (L:Nat→Prop) (lo hb:Nat) (A B:World):Prop where
 size:A.heap.size≤B.heap.size
 block:∀k O,L k∨lo≤k→k < hb→A.heap[k]?=some O→¬M O→B.heap[k]?=some O
theorem KeepM.trans {M:Obj→Prop} {L:Nat→Prop} {lo hb:Nat} {A B C:World} (h:KeepM M L lo hb A B) (k:KeepM M L lo hb B C):KeepM M L lo hb A C:=⟨Nat.le_trans h.size k.size,fun j O h1 h2 h3 h4=>k.block j O h1 h2 (h.block j O h1 h2 h3 h4) h4⟩
theorem KeepM.below {M:Obj→Prop} {L:Nat→Prop} {lo hb N:Nat} {A B:World} (h:Below N A B) (hN:hb≤N):KeepM M L lo hb A B:=⟨h.size,fun k O _ hk hO _=>(h.block k (by omega)).trans hO⟩
theorem KeepM.set {M:Obj→Prop} {L:Nat→Prop} {lo hb g j:Nat} {A:World} (v:Value) (hg:g < lo∧¬L g∨hb≤g):KeepM M L lo hb A (A.setCell ⟨g,j,none⟩ v):=⟨by simp,fun k O h1 h2 hO _=>(Below.heap_setCell _ _ _ _ (by
 show k≠g
 rintro rfl
 rcases hg with⟨h3,h4⟩|h3
 ·exact h1.elim h4 (by omega)
 ·omega)).trans hO⟩
def IterC (P:Program) (M:Obj→Prop) (L:Nat→Prop) (gf:Nat) (cs:Array Value) (m:Nat) (Pre:World→Prop) (H:Nat→World→Nat→Array Value→Prop) (N:Nat):Prop:=
 ∀(l:Nat) (J Jx:Nat→World→Prop) (W:World),Pre W→(∀i A B,J i A→W.heap.size≤A.heap.size→Below A.heap.size A B→J i B)→
  (∀(i:Nat) (W1:World) (hb:Nat) (args:Array Value),i < N→J i W1→W.heap.size≤hb→hb≤W1.heap.size→H i W1 hb args→
   YieldAt Fence.wide m P l args W1 fun e W'=>(e=.returned (.bool true)∧J (i+1) W'∧KeepM M L W.heap.size hb W1 W')∨(e=.returned (.bool false)∧Jx (i+1) W'))→
  J 0 W→
  CallsIn Fence.wide (m+1) P gf (#[.func (.yield l) #[] #[]]++cs) W fun e W'=>(∃v,e=.returned v)∧(J N W'∨∃i,0 < i∧i≤N∧Jx i W')
def roundM (M:Obj→Prop) (L:Nat→Prop) (lo hb:Nat) (I:Nat→World→Prop) (Ix:Code→Nat→World→Prop) (i:Nat) (W:World):Exit→Act→World→Prop
 |.normal,_,W'=>I i W'∧KeepM M L lo hb W W'
 |.ret,_,W'=>Ix .ret i W'∧KeepM M L lo hb W W'
 |.exit id,_,W'=>Ix (.exit id) i W'∧KeepM M L lo hb W W'
 |.goto t,_,W'=>Ix (.goto t) i W'∧KeepM M L lo hb W W'
 |.panic _,_,_=>False
 |.outgrown,_,_=>False
theorem wpIn_range_ownC {P:Program} {M:Obj→Prop} {L:Nat→Prop} {m gf N:Nat} {cs:Array Value} {Pre:World→Prop} {H:Nat→World→Nat→Array Value→Prop} {g:Operand} {ps:Array Tmp} {assign body:Code} {Q:Exit→Act→World→Prop} {a:Act} {w:World}
  (hg:a.eval g=.func (.func gf) #[] cs) (eg:∀args w,(callFunc gf args).run P w=.ok (.enter gf args) w) (hL:∀k,L k→k < w.heap.size) (hit:IterC P M L gf cs m Pre H N) (hps:∀i W hb args,H i W hb args→args.size=ps.size)
  (I:Nat→World→Prop) (Ix:Code→Nat→World→Prop) (hI:∀i A B,I i A→w.heap.size≤A.heap.size→Below w.heap.size A B→(∀k,k < A.heap.size→k≠w.heap.size+1→B.heap[k]?=A.heap[k]?)→I i B) (hIx:∀c i A B,Ix c i A→w.heap.size≤A.heap.size→Below w.heap.size A B→(∀k,k < A.heap.size→k≠w.heap.size+1→B.heap[k]?=A.heap[k]?)→Ix c i B)
  (h0:I 0 w) (hpre:∀W,Below w.heap.size w W→Pre W) (hM1:∀r,¬M (.loop r)) (hM2:∀d,¬M (.deferred d))
  (hround:∀(i:Nat) (W1:World) (hb:Nat) (args:Array Value),i < N→I i W1→w.heap.size+2≤hb→hb≤W1.heap.size→H i W1 hb args→
   assign.wpIn (Fence.wide.inRound (w.heap.size+1)) m P (Exit.then (fun a₁ w₁=>Below W1.heap.size W1 w₁∧∀w₂,w₂.heap.size=w₁.heap.size→(∀k,k≠w.heap.size+1→w₂.heap[k]?=w₁.heap[k]?)→Below w.heap.size w₁ w₂→
    body.wpIn (Fence.wide.inRound (w.heap.size+1)) m P (roundM M L w.heap.size hb I Ix (i+1) w₂) a₁ w₂) (fun _ _ _=>False))
    {tmps:=(ps.zip args).foldl (fun t (p,v)=>t.setIfInBounds p v) a.tmps,defers:=[]} W1)
  (hdone:∀(W:World),I N W→w.heap.size+2≤W.heap.size→W.heap[w.heap.size]?=some (.deferred (some []))→Q .normal {a with defers:=mark w.heap.size::a.defers} W)
  (hstop:∀(c:Code) (i:Nat) (W:World),0 < i→i≤N→Ix c i W→w.heap.size+2≤W.heap.size→W.heap[w.heap.size]?=some (.deferred (some []))→c.wpIn Fence.wide (m+2) P Q {a with defers:=mark w.heap.size::a.defers} W):
  (Code.rangeFunc g ps assign body).wpIn Fence.wide (m+2) P Q a w:=by
 refine wpIn_rangeFunc ?_
 intro fn hfn
 obtain⟨rc,hrc⟩:∃rc:LoopState→Option Code→Loop,rc=fun st pe=>{state:=st,pending:=pe,fn,tmps:=a.tmps,params:=ps,assign,body,defers:=w.heap.size}:=⟨_,rfl⟩
 obtain⟨W0,hW0⟩:∃W0,(w.alloc (.deferred (some []))).alloc (.loop (rc .ready none))=W0:=⟨_,rfl⟩
 have s0:W0.heap.size=w.heap.size+2:=by rw[←hW0];simp
 have l0:W0.heap[w.heap.size+1]?=some (.loop (rc .ready none)):=by
  rw[←hW0];have:=World.alloc_heap_new (w.alloc (.deferred (some []))) (.loop (rc .ready none));rwa [World.size_alloc] at this
 have d0:W0.heap[w.heap.size]?=some (.deferred (some [])):=by
  rw[←hW0];exact(Below.heap_alloc _ _ _ (by simp)).trans (World.alloc_heap_new w _)
 have b0:Below w.heap.size w W0:=by rw[←hW0];exact((Below.refl _ w).alloc (Nat.le_refl _) _).alloc (by simp) _
 refine⟨w.heap.size+1,[mark w.heap.size],W0,{target:=.fn (.func gf) cs,args:=#[.func (.yield (w.heap.size+1)) #[] #[]]},W0,gf,#[.func (.yield (w.heap.size+1)) #[] #[]]++cs,W0,?_,?_,?_,?_,fun _=>by omega,?_⟩
 ·rw [←hW0,hrc];exact run_enterLoop_outer _ _ _ _ _
 ·simp only[resolve,hg]
  simp[go_sem]
 ·exact fun _ _=>trivial
 ·simp [invoke,go_sem,eg]
 ·have hK:∀{A B:World},Below A.heap.size A B→w.heap.size+2≤A.heap.size→∀{k:Nat} {o:Obj},k < w.heap.size+2→A.heap[k]?=some o→B.heap[k]?=some o:=
   fun hb hs k o hk h=>(hb.block k (by omega)).trans h
  refine CallsIn.mono (hit (w.heap.size+1)
   (fun i W=>I i W∧w.heap.size+2≤W.heap.size∧W.heap[w.heap.size+1]?=some (.loop (rc .ready none))∧W.heap[w.heap.size]?=some (.deferred (some [])))
   (fun i W=>∃c,Ix c i W∧w.heap.size+2≤W.heap.size∧W.heap[w.heap.size+1]?=some (.loop (rc .done (some c)))∧W.heap[w.heap.size]?=some (.deferred (some [])))
   W0 (hpre _ b0) ?_ ?_ ⟨hI _ _ _ h0 (Nat.le_refl _) b0 (fun k hk _=>b0.block k hk),by omega,l0,d0⟩) ?_
  ·rintro i A B ⟨h1,h2,h3,h4⟩ hs hb
   exact⟨hI _ _ _ h1 (by omega) (hb.mono (by omega)) (fun k hk _=>hb.block k hk),by have:=hb.size;omega,hK hb h2 (by omega) h3,hK hb h2 (by omega) h4⟩
  ·rintro i W1 hb args hi ⟨h1,h2,h3,h4⟩ hlo hhi hH
   have hlt:w.heap.size+1 < W1.heap.size:=by omega
   have hy:=run_yield (P:=P) (args:=args) h3 (by rw[hrc];exact hps _ _ _ _ hH)
   rw[hrc] at hy
   refine⟨fn,_,assign,body,hy,roundIn_of_wpIn hfn ?_⟩
   refine wpIn_mono (hround i W1 hb args hi h1 (by omega) hhi hH) ?_
   intro e a1 w1 he
   cases e with
   |normal=>
    obtain⟨hb1,hbody⟩:=he
    have sz1:=hb1.size
    have r1:w1.heap[w.heap.size+1]?=some (.loop (rc .ready none)):=hK hb1 h2 (by omega) h3
    have r2:w1.heap[w.heap.size]?=some (.deferred (some [])):=hK hb1 h2 (by omega) h4
    refine⟨_,run_beginRound r1 (by rw[hrc]),?_⟩
    obtain⟨w2,hw2⟩:∃w2,w1.putObj (w.heap.size+1) (.loop {rc .ready none with state:=.busy})=w2:=⟨_,rfl⟩
    have q1:w2.heap[w.heap.size+1]?=some (.loop {rc .ready none with state:=.busy}):=by rw[←hw2];exact World.putObj_heap_same (by omega)
    have q2:∀k,k≠w.heap.size+1→w2.heap[k]?=w1.heap[k]?:=fun k hk=>by rw[←hw2];exact World.putObj_heap_other hk
    have q3:w2.heap.size=w1.heap.size:=by rw[←hw2];simp[World.putObj]
    have q4:Below w.heap.size w1 w2:=by rw[←hw2];exact below_put w1 _ _ (by omega) (by omega)
    have q5:=(q2 w.heap.size (by omega)).trans r2
    rw[hw2]
    refine wpIn_mono (hbody w2 q3 q2 q4) ?_
    have fin:∀(jump:Option Code) (W3:World),KeepM M L w.heap.size hb w2 W3→
      (Instr.endRound (w.heap.size+1) jump).run P W3=.ok (.bool jump.isNone) (W3.putObj (w.heap.size+1) (.loop (rc (if jump.isNone then .ready else .done) jump)))∧
      w.heap.size+2≤W3.heap.size∧Below w.heap.size W3 (W3.putObj (w.heap.size+1) (.loop (rc (if jump.isNone then .ready else .done) jump)))∧
      (W3.putObj (w.heap.size+1) (.loop (rc (if jump.isNone then .ready else .done) jump))).heap[w.heap.size+1]?=some (.loop (rc (if jump.isNone then .ready else .done) jump))∧
      (W3.putObj (w.heap.size+1) (.loop (rc (if jump.isNone then .ready else .done) jump))).heap[w.heap.size]?=some (.deferred (some [])):=fun jump W3 hk3=>by
     have t1:W3.heap[w.heap.size+1]?=some (.loop {rc .ready none with state:=.busy}):=hk3.block _ _ (.inr (by omega)) (by omega) q1 (hM1 _)
     have t2:W3.heap[w.heap.size]?=some (.deferred (some [])):=hk3.block _ _ (.inr (by omega)) (by omega) q5 (hM2 _)
     have t3:=hk3.size
     have t4:=run_endRound (P:=P) jump t1
     rw[hrc] at t4 ⊢
     exact⟨t4,by omega,below_put W3 _ _ (by omega) (by omega),World.putObj_heap_same (by omega),(World.putObj_heap_other (by omega)).trans t2⟩
    have keep:∀(W3:World) (o:Obj),KeepM M L w.heap.size hb w2 W3→(W3.putObj (w.heap.size+1) (.loop (rc .ready none))).heap.size=W3.heap.size→
      KeepM M L W0.heap.size hb W1 (W3.putObj (w.heap.size+1) (.loop (rc .ready none))):=fun W3 o hk hs=>by
     refine⟨by rw[hs];have:=hk.size;omega,fun k O hk1 hk2 hO hMO=>?_⟩
     rw[s0] at hk1
     have hk0:k≠w.heap.size+1:=hk1.elim (fun h=>by have:=hL k h;omega) (fun h=>by omega)
     exact(World.putObj_heap_other hk0).trans (hk.block k O (hk1.imp id fun h=>by omega) hk2 ((q2 k hk0).trans ((hb1.block k (by omega)).trans hO)) hMO)
    rintro e a3 W3 hp
    cases e with
    |normal=>
     obtain⟨hi3,hk3⟩:=hp
     obtain⟨hr,f1,f2,f3,f4⟩:=fin none W3 hk3
     exact⟨_,_,hr,.inl ⟨rfl,⟨hI _ _ _ hi3 (by omega) f2 (fun k _ hk=>World.putObj_heap_other hk),by simp[World.putObj];omega,f3,f4⟩,keep W3 (.deferred none) hk3 (by simp[World.putObj])⟩⟩
    |ret=>
     obtain⟨hi3,hk3⟩:=hp
     obtain⟨hr,f1,f2,f3,f4⟩:=fin (some .ret) W3 hk3
     exact⟨_,_,hr,.inr ⟨rfl,_,hIx _ _ _ _ hi3 (by omega) f2 (fun k _ hk=>World.putObj_heap_other hk),by simp[World.putObj];omega,f3,f4⟩⟩
    |exit id=>
     obtain⟨hi3,hk3⟩:=hp
     obtain⟨hr,f1,f2,f3,f4⟩:=fin (some (.exit id)) W3 hk3
     exact⟨_,_,hr,.inr ⟨rfl,_,hIx _ _ _ _ hi3 (by omega) f2 (fun k _ hk=>World.putObj_heap_other hk),by simp[World.putObj];omega,f3,f4⟩⟩
    |goto t=>
     obtain⟨hi3,hk3⟩:=hp
     obtain⟨hr,f1,f2,f3,f4⟩:=fin (some (.goto t)) W3 hk3
     exact⟨_,_,hr,.inr ⟨rfl,_,hIx _ _ _ _ hi3 (by omega) f2 (fun k _ hk=>World.putObj_heap_other hk),by simp[World.putObj];omega,f3,f4⟩⟩
    |panic ch=>exact hp.elim
    |outgrown=>exact hp.elim
   |ret=>exact he.elim
   |exit id=>exact he.elim
   |goto t=>exact he.elim
   |panic ch=>exact he.elim
   |outgrown=>exact he.elim
  ·rintro e W2 ⟨⟨v,rfl⟩,(⟨h1,h2,h3,h4⟩|⟨i,hi0,hi1,c,h1,h2,h3,h4⟩)⟩
   ·exact ⟨none,_,by have:=run_endLoop (P:=P) h3 (by rw[hrc];simp);rw[hrc] at this;exact this,
     hdone _ (hI _ _ _ h1 (by omega) (below_put W2 _ _ (by omega) (by omega)) (fun k _ hk=>World.putObj_heap_other hk)) (by simp[World.putObj];omega) ((World.putObj_heap_other (by omega)).trans h4)⟩
   ·exact ⟨some c,_,by have:=run_endLoop (P:=P) h3 (by rw[hrc];simp);rw[hrc] at this;exact this,
     hstop c i _ hi0 hi1 (hIx _ _ _ _ h1 (by omega) (below_put W2 _ _ (by omega) (by omega)) (fun k _ hk=>World.putObj_heap_other hk)) (by simp[World.putObj];omega) ((World.putObj_heap_other (by omega)).trans h4)⟩
namespace RN
section
variable {R:World→World→Prop} [Rgl R] {n:Nat} {P:Program} {Q:Exit→Act→World→Prop} {md:Region.Mode} {kd:Nat→Nat} {ops:Array Oper}
theorem wp_onlyIn {o:Oper} {a:Act} {w:World} {K K':Act→World→Prop} (hd:∀c,o.op≠.defer c) (h:∀a w,K a w→K' a w) (l:Nat)
  (hh:o.wp P a w K (Only Q)):o.wpIn (Fence.wide.inRound l) n P a w K' Q:=by
 refine⟨fun _ _=>trivial,?_⟩
 have e:Oper.semAt (Fence.wide.inRound l).round a.eval o=execOp a.eval o:=Oper.semAt_some l a.eval o hd
 rw[e]
 unfold Oper.wp at hh
 generalize (execOp a.eval o).run P w=r at *
 cases r with
 |ok x w'=>
  cases x <;> simp only[Oper.upon,Oper.uponIn] at hh ⊢ <;>
   first
    |exact h _ _ hh
    |exact⟨fun hx=>(Bool.false_ne_true hx).elim,CallsIn.inRound l (callsIn_wide.2 (Calls.mono hh (fun e w'' he=>by cases e <;> first|exact h _ _ he|exact(he:False).elim|exact(not_letsOut_only he).elim)))⟩
    |exact⟨fun hx=>(Bool.false_ne_true hx).elim,fun c cs _=>let ⟨v,w',r,s⟩:=hh c cs;⟨v,w',h _ _ r,stepsIn_wide.2 s⟩⟩
    |exact hh.elim
 |halt x w'=>cases x <;> simp only[Oper.upon,Oper.uponIn] at hh ⊢ <;> exact(hh:False).elim
theorem wpOpIn_of_wpOpX {i l:Nat} {a:Act} {w:World} {K K':Act→World→Prop} (hd:∀o ∈ ops.toList,∀c,o.op≠.defer c) (h:∀a w,K a w→K' a w)
  (hh:wpOpX R P ops kd Q i K a w):wpOpIn (Fence.wide.inRound l) n P ops Q i K' a w:=by
 unfold wpOpX at hh
 unfold wpOpIn
 cases ho:ops[i]? with
 |none=>simp only[ho] at hh ⊢;exact h _ _ hh
 |some o=>
  have hdo:=hd o (by rw[←Array.getElem?_toList] at ho;exact List.mem_of_getElem? ho)
  have e:∀a:Act,Oper.semAt (Fence.wide.inRound l).round a.eval o=execOp a.eval o:=fun a=>Oper.semAt_some l a.eval o hdo
  simp only[ho] at hh ⊢
  split
  ·rename_i hw
   simp only[hw,if_true] at hh
   rcases Nat.lt_or_ge (kd i) 2 with hk|hk
   ·rcases Nat.lt_or_ge (kd i) 1 with hk'|hk'
    ·obtain ⟨v,h1,h2⟩:=hh.1 (by omega)
     refine⟨fun _ _=>trivial,?_⟩
     rw[e,h1 w]
     exact h _ _ h2
    ·obtain ⟨v,h1,h2⟩:=hh.2.1 (by omega)
     refine⟨fun _ _=>trivial,?_⟩
     rw[e,h1 w (Rgl.refl w)]
     exact h _ _ h2
   ·rcases Nat.lt_or_ge (kd i) 3 with hk'|hk'
    ·exact wp_onlyIn hdo h l (hh.2.2.1 (by omega))
    ·exact wp_onlyIn hdo (fun a w h'=>h a w h'.2) l (hh.2.2.2 hk')
  ·rename_i hw
   simp only[hw] at hh
   exact⟨fun _ _=>trivial,h _ _ hh⟩
theorem wpAnyIn_of_X (l:Nat) (hd:∀o ∈ ops.toList,∀c,o.op≠.defer c):∀(fuel:Nat) (listed:Array Bool) (a:Act) (w:World),wpAnyX R P md ops kd Q fuel listed a w→wpAnyIn (Fence.wide.inRound l) n P md ops Q fuel listed a w
 |0,_,_,_,h=>h
 |fuel+1,_,_,_,h=>⟨h.1,fun i hi=>wpOpIn_of_wpOpX hd (fun a w=>wpAnyIn_of_X l hd fuel _ a w) (h.2 i hi)⟩
end
def noDefer (l:List Oper):Bool:=l.all fun o=>match o.op with|.defer _=>false|_=>true
theorem noDefer_ne {l:List Oper} (h:noDefer l=true):∀o ∈ l.toArray.toList,∀c,o.op≠.defer c:=by
 intro o ho c e
 have:=List.all_eq_true.1 h o (by simpa using ho)
 rw[e] at this
 cases this
theorem wpIn_region_t {n:Nat} {P:Program} {Q:Exit→Act→World→Prop} {l:List Oper} {id rd:Nat} {a:Act} {w:World} (M:Nat) (ks:List Nat) (t:Tr)
  (hB:(P.follows .mixedOrders&&Region.noSelect l.toArray&&Nat.beq t.len l.length&&checkT l ks t (Array.replicate l.length false)&&noDefer l)=true) (h:wpT (KeepsN M) P Q l ks t a w.drew):(Code.region id l.toArray true).wpIn (Fence.wide.inRound rd) n P Q a w:=by
 simp only[Bool.and_eq_true] at hB
 obtain⟨⟨⟨⟨hm,hs⟩,hn⟩,hB⟩,hd⟩:=hB
 refine wpIn_region_any hm (wpAnyIn_of_X (R:=KeepsN M) (kd:=fun i=>ks.getD i 2) rd (noDefer_ne hd) _ _ _ _ ?_)
 have:=wpT_any hs t (Array.replicate l.length false) a _ (closed_none _) hB h
 rw[Nat.eq_of_beq_eq_true hn] at this
 simpa using this
end RN
