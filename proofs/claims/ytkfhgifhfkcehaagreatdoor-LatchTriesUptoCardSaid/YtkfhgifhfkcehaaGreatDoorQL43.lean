/- Parts of the proof, merged by program out of 1 texts (TmP): the first: The engine latch as plain lists: two threads that name no cell in common. Conditions: those of each theorem, as typed. -/
import Derived.Test.YtkfhgifhfkcehaaGreatDoorQL42
set_option linter.unusedVariables false
set_option linter.unusedSimpArgs false
set_option linter.unusedSectionVars false
set_option maxRecDepth 100000
set_option maxHeartbeats 4000000
namespace Go.Proofs.YtkfhgifhfkcehaaGreatDoor
open Go.Maps Go.RowKit
theorem next_same {P P1:Pg} {i:Nat} (h:P.txs i=P1.txs i) (t:Th):nextOf P i t=nextOf P1 i t:=by
 unfold nextOf ownEv thDone Pg.acts;rw[h]
theorem ans_same {P P1:Pg} {i:Nat} (h:P.txs i=P1.txs i) (t:Th) (v:Int) (b:Bool):ansOf P i t v b=ansOf P1 i t v b:=by
 unfold ansOf thDone Pg.acts;rw[h]
theorem next_tx {P:Pg} {i:Nat} {t:Th} {y:Th×Ev} (h:nextOf P i t=some y):y.2.tx=idOf i t.tx:=by
 unfold nextOf at h
 split at h
 ·cases h
 ·simp only at h
  split at h <;> (simp only[Option.some.injEq] at h;subst h;rfl)
theorem ans_tx {P:Pg} {i:Nat} {t:Th} {v:Int} {b:Bool} {y:Th×Ev} (h:ansOf P i t v b=some y):y.2.tx=idOf i t.tx:=by
 unfold ansOf at h
 repeat' (split at h)
 all_goals first|(cases h;done)|(simp only[Option.some.injEq] at h;subst h;rfl)
theorem offCs_get (r:MB) (s:MI) (cs:List Ce) (k:Nat):(offCs r s cs)[k]?=cs[k]?.map fun c=>(match fnd (k:Int) r with
  |some _=>⟨(match fnd (k:Int) s with|some v=>v|none=>c.val),0⟩
  |none=>⟨(match fnd (k:Int) s with|some v=>v|none=>c.val),c.own⟩:Ce):=by
 unfold offCs
 rw[goS_get,bkS_get]
 cases cs[k]? with
 |none=>rfl
 |some c=>
  simp only[Option.map_some]
  cases fnd (k:Int) r <;> cases fnd (k:Int) s <;> rfl
abbrev Whose:=Nat→Int→Bool
def AInv (own:Whose) (P:Pg):Prop:=∀(i k j:Nat) (a:Ac),(P.acts i k)[j]?=some a→a.kind≠4→own i a.cell=true
structure KInv (own:Whose) (M:LM):Prop where
 ws:∀(i:Nat) (r:MB) (s:MI),M.ws[i]?=some (some (r,s))→(∀p ∈ r,own i p.1=true)∧(∀p ∈ s,own i p.1=true)
 rl:∀(i:Nat) (l:List Int),M.nx[i]?=some (.rel l)→∀k ∈ l,own i k=true
section
variable {P P1:Pg} {M M' N:LM} {own:Whose} {t:Nat}
theorem mem_upd_key {ε:Type} {a:Int} {v:ε} {r:List (Int×ε)} (hr:KSrt r) {p:Int×ε} (h:p ∈ upd a v r):p.1=a∨p ∈ r:=by
 rcases(mem_upd hr).1 h with h|h
 ·left;rw[h]
 ·right;exact h.1
theorem stp_frame (hA:AInv own P) (hK:KInv own M) (h:LInv P M) {i:Nat} (hi:i < P.threads.length) {th:Th} (ht:M.W.ths[i]?=some th) (hd:thDone P i th=false) (hs:Stp P M i th M'):
  (∀j:Nat,own i j=false→M'.cs[j]?=M.cs[j]?)∧(∀j:Nat,i≠j→M'.W.ths[j]?=M.W.ths[j]?∧M'.ws[j]?=M.ws[j]?∧M'.nx[j]?=M.nx[j]?)∧KInv own M'∧∃es,M'.W.evs=M.W.evs++es∧∀e ∈ es,e.tx=idOf i th.tx:=by
 have hput:∀(y:Th×Ev) (j:Nat),i≠j→(M.W.put i y).ths[j]?=M.W.ths[j]?:=fun y j hj=>List.getElem?_set_ne hj
 have hoff:∀r s,M.ws[i]?=some (some (r,s))→∀j:Nat,own i j=false→(offCs r s M.cs)[j]?=M.cs[j]?:=fun r s hw j hj=>by
  obtain⟨h1,h2⟩:=hK.ws i r s hw
  have e1:fnd (j:Int) r=none:=fnd_none.2 fun u hu=>by have:=h1 _ hu;simp only at this;rw[hj] at this;cases this
  have e2:fnd (j:Int) s=none:=fnd_none.2 fun u hu=>by have:=h2 _ hu;simp only at this;rw[hj] at this;cases this
  rw[offCs_get,e1,e2]
  cases M.cs[j]? <;> rfl
 have hset:∀(c:Int) (x:Ce),0≤c→own i c=true→∀j:Nat,own i j=false→(M.cs.set c.toNat x)[j]?=M.cs[j]?:=fun c x h0 hc j hj=>by
  refine List.getElem?_set_ne fun e=>?_
  have:(j:Int)=c:=by omega
  rw[this,hc] at hj;cases hj
 have knx:∀(x:Nx),(∀l,x≠.rel l)→∀(j:Nat) (l:List Int),(M.nx.set i x)[j]?=some (.rel l)→∀k ∈ l,own j k=true:=fun x hx j l hl=>by
  rcases get_set hl with⟨-,e⟩|⟨-,h⟩
  ·exact absurd e.symm (hx l)
  ·exact hK.rl j l h
 have kws:∀(o:Wo),(∀r s,o=some (r,s)→(∀p ∈ r,own i p.1=true)∧(∀p ∈ s,own i p.1=true))→∀(j:Nat) (r:MB) (s:MI),(M.ws.set i o)[j]?=some (some (r,s))→(∀p ∈ r,own j p.1=true)∧(∀p ∈ s,own j p.1=true):=fun o ho j r s hl=>by
  rcases get_set hl with⟨rfl,e⟩|⟨-,h⟩
  ·exact ho r s e.symm
  ·exact hK.ws j r s h
 cases hs with
 |begin hw hb hx=>exact⟨fun j _=>rfl,fun j hj=>⟨hput _ j hj,List.getElem?_set_ne hj,List.getElem?_set_ne hj⟩,⟨kws _ (by rintro r s ⟨⟩;exact⟨fun p hp=>(nomatch hp),fun p hp=>(nomatch hp)⟩),knx _ (fun l e=>by cases e)⟩,[_],rfl,by intro e he;rw[List.mem_singleton.1 he];rfl⟩
 |call a hw hb hx ha hk=>exact⟨fun j _=>rfl,fun j hj=>⟨hput _ j hj,rfl,List.getElem?_set_ne hj⟩,⟨hK.ws,knx _ (fun l e=>by cases e)⟩,[_],rfl,by intro e he;rw[List.mem_singleton.1 he];rfl⟩
 |cancel a hw hb hx ha hk=>exact⟨fun j _=>rfl,fun j hj=>⟨hput _ j hj,rfl,List.getElem?_set_ne hj⟩,⟨hK.ws,knx _ (fun l e=>by cases e)⟩,[_],rfl,by intro e he;rw[List.mem_singleton.1 he];rfl⟩
 |try_ r s hw hb hx ha hs=>
  refine⟨fun j _=>rfl,fun j hj=>⟨hput _ j hj,rfl,List.getElem?_set_ne hj⟩,⟨hK.ws,fun j l hl k hk=>?_⟩,[_],rfl,by intro e he;rw[List.mem_singleton.1 he];rfl⟩
  rcases get_set hl with⟨rfl,e⟩|⟨-,h⟩
  ·simp only[Nx.rel.injEq] at e
   subst e
   obtain⟨p,hp,rfl⟩:=List.mem_map.1 hk
   exact(hK.ws _ r s hs).1 p hp
  ·exact hK.rl j l h k hk
 |wrote a r s hw hb hx ha hk hs htk=>
  have hk4:a.kind≠4:=by rcases hk with h|⟨h,-⟩ <;> omega
  have hc:=hA i th.tx th.act a ha hk4
  obtain⟨-,h0,h1,-⟩:=h.kinds hi hd (h.th i th ht).1 ha hk4
  obtain⟨q1,q2⟩:=hK.ws i r s hs
  have hwo:=h.wo i r s hs
  refine⟨hset _ _ h0 hc,fun j hj=>⟨hput _ j hj,List.getElem?_set_ne hj,List.getElem?_set_ne hj⟩,⟨kws _ ?_,knx _ (fun l e=>by cases e)⟩,[_],rfl,by intro e he;rw[List.mem_singleton.1 he];rfl⟩
  intro r' s' e
  simp only[Option.some.injEq,Prod.mk.injEq] at e
  obtain⟨rfl,rfl⟩:=e
  refine⟨fun p hp=>?_,fun p hp=>?_⟩
  ·rcases mem_upd_key hwo.rsrt hp with e|h
   ·rw [e];exact hc
   ·exact q1 p h
  ·split at hp
   ·exact q2 p hp
   ·rcases mem_upd_key hwo.ssrt hp with e|h
    ·rw [e];exact hc
    ·exact q2 p h
 |read a r s hw hb hx ha hk hs htk=>
  have hk4:a.kind≠4:=by rcases hk with h|⟨h,-⟩ <;> omega
  have hc:=hA i th.tx th.act a ha hk4
  obtain⟨-,h0,h1,-⟩:=h.kinds hi hd (h.th i th ht).1 ha hk4
  obtain⟨q1,q2⟩:=hK.ws i r s hs
  have hwo:=h.wo i r s hs
  refine⟨hset _ _ h0 hc,fun j hj=>⟨hput _ j hj,List.getElem?_set_ne hj,List.getElem?_set_ne hj⟩,⟨kws _ ?_,knx _ (fun l e=>by cases e)⟩,[_],rfl,by intro e he;rw[List.mem_singleton.1 he];rfl⟩
  intro r' s' e
  simp only[Option.some.injEq,Prod.mk.injEq] at e
  obtain⟨rfl,rfl⟩:=e
  refine⟨fun p hp=>?_,q2⟩
  rcases mem_upd_key hwo.rsrt hp with e|h
  ·rw [e];exact hc
  ·exact q1 p h
 |refused a r s hw hb hx ha hk hs htk=>exact⟨hoff r s hs,fun j hj=>⟨hput _ j hj,rfl,List.getElem?_set_ne hj⟩,⟨hK.ws,knx _ (fun l e=>by cases e)⟩,[_],rfl,by intro e he;rw[List.mem_singleton.1 he];rfl⟩
 |abort r s hw hb hx hs=>exact⟨hoff r s hs,fun j hj=>⟨hput _ j hj,rfl,List.getElem?_set_ne hj⟩,⟨hK.ws,knx _ (fun l e=>by cases e)⟩,[_],rfl,by intro e he;rw[List.mem_singleton.1 he];rfl⟩
 |let_ k l hw hb hx=>
  have hkl:=hK.rl i _ hx
  obtain⟨o,ho⟩:∃o,M.ws[i]?=some o:=⟨_,List.getElem?_eq_getElem (by rw[h.wsl];exact hi)⟩
  obtain⟨⟨-,-,hin⟩,-⟩:=h.nx i th _ o ht hx ho
  refine⟨hset k _ (hin k (List.mem_cons_self ..)).1 (hkl k (List.mem_cons_self ..)),fun j hj=>⟨rfl,rfl,List.getElem?_set_ne hj⟩,⟨hK.ws,fun j l' hl' k' hk'=>?_⟩,[],by simp,fun e he=>by cases he⟩
  rcases get_set hl' with⟨rfl,e⟩|⟨-,h⟩
  ·simp only[Nx.rel.injEq] at e
   subst e
   exact hkl k' (List.mem_cons_of_mem _ hk')
  ·exact hK.rl j l' h k' hk'
 |commit hw hb hx=>exact⟨fun j _=>rfl,fun j hj=>⟨hput _ j hj,rfl,List.getElem?_set_ne hj⟩,⟨hK.ws,knx _ (fun l e=>by cases e)⟩,[_],rfl,by intro e he;rw[List.mem_singleton.1 he];rfl⟩
def isT (t:Nat) (e:Ev):Bool:=(e.tx - 1) / 3==(t:Int)
theorem isT_id {i k:Nat} {e:Ev} (h:e.tx=idOf i k) (hk:k < 3) (t:Nat):isT t e=(i==t):=by
 unfold isT
 rw[h,show(idOf i k - 1) / 3=(i:Int) by unfold idOf;omega]
 rw[Bool.eq_iff_iff,beq_iff_eq,beq_iff_eq]
 omega
structure Sim (own:Whose) (t:Nat) (M N:LM):Prop where
 th:M.W.ths[t]?=N.W.ths[t]?
 ws:M.ws[t]?=N.ws[t]?
 nx:M.nx[t]?=N.nx[t]?
 cs:∀k:Nat,own t k=true→M.cs[k]?=N.cs[k]?
 ev:M.W.evs.filter (isT t)=N.W.evs
theorem set_eq {α:Type} {a b:List α} {t:Nat} (h:a[t]?=b[t]?) (x:α):(a.set t x)[t]?=(b.set t x)[t]?:=by
 rw[List.getElem?_set,List.getElem?_set]
 simp only[if_true]
 have:(t < a.length)↔(t < b.length):=by
  constructor
  ·intro h1;rw[List.getElem?_eq_getElem h1] at h;exact(List.getElem?_eq_some_iff.1 h.symm).1
  ·intro h1;rw[List.getElem?_eq_getElem h1] at h;exact(List.getElem?_eq_some_iff.1 h).1
 simp only[this]
theorem set_cs {own:Whose} {a b:List Ce} {t:Nat} (h:∀k:Nat,own t k=true→a[k]?=b[k]?) {c:Nat} (hc:own t c=true) (x:Ce):∀k:Nat,own t k=true→(a.set c x)[k]?=(b.set c x)[k]?:=fun k hk=>by
 by_cases e:c=k
 ·subst e;exact set_eq (h _ hk) x
 ·rw [List.getElem?_set_ne e,List.getElem?_set_ne e];exact h k hk
theorem Sim.mk' (h:Sim own t M N) (o:Option (Th×Ev)) (ho:∀y,o=some y→isT t y.2=true) {cM cN:List Ce} {wM wN:List Wo} {nM nN:List Nx} (hc:∀k:Nat,own t k=true→cM[k]?=cN[k]?) (hw:wM[t]?=wN[t]?) (hn:nM[t]?=nN[t]?):Sim own t ⟨M.W.putO t o,cM,wM,nM⟩ ⟨N.W.putO t o,cN,wN,nN⟩:=by
 cases o with
 |none=>exact⟨h.th,hw,hn,hc,h.ev⟩
 |some y=>
  refine⟨set_eq h.th y.1,hw,hn,hc,?_⟩
  show(M.W.evs++[y.2]).filter (isT t)=N.W.evs++[y.2]
  rw[List.filter_append,h.ev,List.filter_cons,ho y rfl]
  rfl
theorem ceAt_eq {a b:List Ce} {k:Int} (h:a[k.toNat]?=b[k.toNat]?):ceAt a k=ceAt b k:=by unfold ceAt;rw[h]
theorem sim_other (h:Sim own t M N) {i:Nat} (hne:i≠t) (hap:∀k,own t k=true→own i k=false) (h1:∀j:Nat,own i j=false→M'.cs[j]?=M.cs[j]?) (h2:∀j:Nat,i≠j→M'.W.ths[j]?=M.W.ths[j]?∧M'.ws[j]?=M.ws[j]?∧M'.nx[j]?=M.nx[j]?) {es:List Ev} (h3:M'.W.evs=M.W.evs++es) {k:Nat} (hk:k < 3) (h4:∀e ∈ es,e.tx=idOf i k):Sim own t M' N:=by
 obtain⟨a,b,c⟩:=h2 t hne
 refine⟨a.trans h.th,b.trans h.ws,c.trans h.nx,fun k hk=>(h1 k (hap k hk)).trans (h.cs k hk),?_⟩
 rw[h3,List.filter_append,h.ev,List.filter_eq_nil_iff.2 (fun e he=>by rw[isT_id (h4 e he) hk];simp[hne]),List.append_nil]
theorem sim_same (hS:Sim own t M N) (hP:P.txs t=P1.txs t) (hA:AInv own P) (hK:KInv own M) (h:LInv P M) (ht:t < P.threads.length) {th:Th} (hth:M.W.ths[t]?=some th) (hd:thDone P t th=false) (h3:th.tx < 3):Sim own t (stepIn P M t) (stepIn P1 N t):=by
 obtain⟨x,hx⟩:∃x,M.nx[t]?=some x:=⟨_,List.getElem?_eq_getElem (by rw[h.nxl];exact ht)⟩
 obtain⟨o,ho⟩:∃o,M.ws[t]?=some o:=⟨_,List.getElem?_eq_getElem (by rw[h.wsl];exact ht)⟩
 obtain⟨hnx,-⟩:=h.nx t th x o hth hx ho
 have hxN:=hS.nx.symm.trans hx
 have htN:=hS.th.symm.trans hth
 have hn:=fun(x:Nx)=>set_eq hS.nx x
 have hnt:∀y,nextOf P1 t th=some y→isT t y.2=true:=fun y hy=>by rw[isT_id (next_tx hy) h3];simp
 have hat:∀v b y,ansOf P1 t th v b=some y→isT t y.2=true:=fun v b y hy=>by rw[isT_id (ans_tx hy) h3];simp
 have hoff:∀r s (k:Nat),own t k=true→(offCs r s M.cs)[k]?=(offCs r s N.cs)[k]?:=fun r s k hk=>by rw[offCs_get,offCs_get,hS.cs k hk]
 unfold stepIn
 rw[hth,hx,hxN,htN]
 simp only
 rw[←hS.ws]
 cases x with
 |none=>
  simp only[doStep,ownStep,next_same hP]
  cases hy:nextOf P1 t th with
  |none=>exact hS.mk' none (fun y e=>by cases e) hS.cs hS.ws (hn _)
  |some y=>
   refine hS.mk' (some y) (fun y' e=>by rw[←Option.some.inj e];exact hnt y hy) hS.cs ?_ (hn _)
   show(if y.2.kind=1 then M.ws.set t (some ([],[])) else M.ws)[t]?=(if y.2.kind=1 then N.ws.set t (some ([],[])) else N.ws)[t]?
   split
   ·exact set_eq hS.ws _
   ·exact hS.ws
 |abort=>
  simp only[doStep,abortStep,ans_same hP]
  exact hS.mk' _ (hat _ _) (hoff _ _) hS.ws (hn _)
 |rel l=>
  obtain⟨-,-,hin⟩:=hnx
  cases l with
  |nil=>
   simp only[doStep,relStep,ans_same hP]
   exact hS.mk' _ (hat _ _) hS.cs hS.ws (hn _)
  |cons k l=>
   have hk:=(hin k (List.mem_cons_self ..)).1
   have hok:=hK.rl t _ hx k (List.mem_cons_self ..)
   have hok':own t (k.toNat:Int)=true:=by rw[Int.toNat_of_nonneg hk];exact hok
   simp only[doStep,relStep]
   rw[ceAt_eq (hS.cs k.toNat hok')]
   exact hS.mk' none (fun y e=>by cases e) (set_cs hS.cs hok' _) hS.ws (hn _)
 |ans e=>
  obtain⟨-,a,ha,hk4,rfl⟩:=hnx
  obtain⟨-,h0,-⟩:=h.kinds ht hd (h.th t th hth).1 ha hk4
  have hoc:=hA t th.tx th.act a ha hk4
  have hob:(withTx (askOf th a) (idOf t th.tx)).obj=a.cell:=by unfold withTx askOf;split <;> (try split) <;> rfl
  have hoc':own t (a.cell.toNat:Int)=true:=by rw[Int.toNat_of_nonneg h0];exact hoc
  have hce:=ceAt_eq (hS.cs a.cell.toNat hoc')
  simp only[doStep,ansStep,hob,hce]
  split
  ·simp only[abortStep,ans_same hP]
   exact hS.mk' _ (hat _ _) (hoff _ _) hS.ws (hn _)
  ·split
   ·simp only[ans_same hP]
    exact hS.mk' _ (hat _ _) (set_cs hS.cs hoc' _) (set_eq hS.ws _) (hn _)
   ·simp only[ans_same hP]
    exact hS.mk' _ (hat _ _) (set_cs hS.cs hoc' _) (set_eq hS.ws _) (hn _)
theorem steps_lin:∀(l:List Int) {M:LM},LInv P M→LInv P (stepsTo P M l)
 |[],_,h=>h
 |i::l,_,h=>steps_lin l (step_inv h i).1
theorem stepTo_idle {i:Int} (h:wDone P M.W i=true):stepTo P M i=M:=by unfold stepTo;rw[h];rfl
theorem steps_idle {i:Int} (h:wDone P M.W i=true):∀n:Nat,stepsTo P M (List.replicate n i)=M
 |0=>rfl
 |n+1=>by
  show stepsTo P (stepTo P M i) (List.replicate n i)=M
  rw[stepTo_idle h];exact steps_idle h n
theorem empty_done (h:LInv P M) {j:Nat} (hj:P.txs j=[]):wDone P M.W j=true:=by
 cases ht:M.W.ths[j]? with
 |none=>unfold wDone;rw[if_neg (by omega)];simp only[Int.toNat_natCast,ht]
 |some th=>
  rw[wDone_th ht]
  have:=(h.th j th ht).1.tx
  unfold thDone
  rw[hj] at this ⊢
  simp at this ⊢
  exact this
theorem steps_alone (hok:PgOk P) {t:Nat} (he:∀j:Nat,j≠t→P.txs j=[]) (l:List Int):∃n,stepsTo P (startLM P) l=stepsTo P (startLM P) (List.replicate n (t:Int)):=by
 have key:∀(l:List Int) (m:Nat),∃n,stepsTo P (stepsTo P (startLM P) (List.replicate m (t:Int))) l=stepsTo P (startLM P) (List.replicate n (t:Int)):=by
  intro l
  induction l with
  |nil=>intro m;exact⟨m,rfl⟩
  |cons i l ih=>
   intro m
   have hL:=steps_lin (List.replicate m (t:Int)) (start_inv hok)
   show ∃n,stepsTo P (stepTo P (stepsTo P (startLM P) (List.replicate m (t:Int))) i) l=_
   by_cases hi:i=t
   ·subst hi
    rw[←stepsTo_snoc,←List.replicate_succ']
    exact ih (m+1)
   ·rw [stepTo_idle]
    ·exact ih m
    ·by_cases h0:i < 0
     ·unfold wDone;rw[if_pos h0]
     ·have e:i=(i.toNat:Int):=by omega
      rw[e]
      exact empty_done hL (he _ (by omega))
 exact key l 0
theorem sim_start (hP:P.cells=P1.cells) (h1:t < P.threads.length) (h2:t < P1.threads.length):Sim own t (startLM P) (startLM P1):=by
 refine⟨?_,?_,?_,fun k _=>by simp[startLM,hP],rfl⟩ <;> simp[startLM,List.getElem?_replicate,h1,h2]
theorem kinv_start:KInv own (startLM P):=by
 refine⟨fun i r s h=>?_,fun i l h=>?_⟩
 ·simp only[startLM,List.getElem?_replicate] at h
  split at h <;> cases h
 ·simp only[startLM,List.getElem?_replicate] at h
  split at h <;> cases h
theorem sim_steps (hok:PgOk P) (hP:P.cells=P1.cells) (hT:P.txs t=P1.txs t) (h1:t < P.threads.length) (h2:t < P1.threads.length) (hA:AInv own P) (hap:∀i,i≠t→i < P.threads.length→∀k,own t k=true→own i k=false) (l:List Int):
  ∃n,Sim own t (stepsTo P (startLM P) l) (stepsTo P1 (startLM P1) (List.replicate n (t:Int))):=by
 have key:∀(l:List Int) (M:LM),LInv P M→KInv own M→∀m,Sim own t M (stepsTo P1 (startLM P1) (List.replicate m (t:Int)))→∃n,Sim own t (stepsTo P M l) (stepsTo P1 (startLM P1) (List.replicate n (t:Int))):=by
  intro l
  induction l with
  |nil=>intro M _ _ m h;exact⟨m,h⟩
  |cons i l ih=>
   intro M hL hK m hS
   show ∃n,Sim own t (stepsTo P (stepTo P M i) l) _
   cases hd:wDone P M.W i with
   |true=>rw[stepTo_idle hd];exact ih M hL hK m hS
   |false=>
    obtain⟨k,rfl,hk⟩:=wDone_in hL.thl hd
    obtain⟨th,hth⟩:∃th,M.W.ths[k]?=some th:=⟨_,List.getElem?_eq_getElem (by rw[hL.thl];exact hk)⟩
    have hdn:thDone P k th=false:=by rw[←wDone_th hth];exact hd
    have hs:=stp_of hL hk hth hd
    have e:stepTo P M k=stepIn P M k:=by unfold stepTo;rw[hd];rfl
    have hL':=(step_inv hL (k:Int)).1
    have h3:th.tx < 3:=by have:=tx_lt hok hk (hL.th k th hth).1 hdn;have:=Pg.tx3 hok hk;omega
    obtain⟨f1,f2,f3,es,f4,f5⟩:=stp_frame hA hK hL hk hth hdn hs
    rw[e] at hL' ⊢
    by_cases hkt:k=t
    ·subst hkt
     refine ih _ hL' f3 (m+1) ?_
     have hN:wDone P1 (stepsTo P1 (startLM P1) (List.replicate m (k:Int))).W k=false:=by
      rw[wDone_th (hS.th.symm.trans hth)]
      unfold thDone at hdn ⊢
      rw[←hT];exact hdn
     rw[List.replicate_succ',stepsTo_snoc]
     have e2:stepTo P1 (stepsTo P1 (startLM P1) (List.replicate m (k:Int))) k=stepIn P1 (stepsTo P1 (startLM P1) (List.replicate m (k:Int))) k:=by unfold stepTo;rw[hN];rfl
     rw[e2]
     exact sim_same hS hT hA hK hL hk hth hdn h3
    ·exact ih _ hL' f3 m (sim_other hS hkt (hap k hkt hk) f1 f2 f4 h3 f5)
 exact key l _ (start_inv hok) kinv_start 0 (sim_start hP h1 h2)
theorem apart (hok:PgOk P) (hok1:PgOk P1) (hP:P.cells=P1.cells) (hT:P.txs t=P1.txs t) (h1:t < P.threads.length) (h2:t < P1.threads.length) (hA:AInv own P) (hap:∀i,i≠t→i < P.threads.length→∀k,own t k=true→own i k=false) (he:∀j:Nat,j≠t→P1.txs j=[])
  {l l1:List Int} (hr:RunOf P (startLM P) l true M) (hr1:RunOf P1 (startLM P1) l1 true N):M.W.evs.filter (isT t)=N.W.evs:=by
 unfold RunOf at hr hr1
 rw[if_pos rfl] at hr hr1
 obtain⟨l2,rfl,hd⟩:=hr
 obtain⟨l3,rfl,hd1⟩:=hr1
 obtain⟨n,hS⟩:=sim_steps hok hP hT h1 h2 hA hap (l++l2)
 obtain⟨n1,hn1⟩:=steps_alone hok1 he (l1++l3)
 rw[hn1] at hd1 ⊢
 rw[hS.ev]
 have hLM:=steps_lin (l++l2) (start_inv hok)
 obtain⟨th,hth⟩:∃th,(stepsTo P (startLM P) (l++l2)).W.ths[t]?=some th:=⟨_,List.getElem?_eq_getElem (by rw[hLM.thl];exact h1)⟩
 have w1:wDone P1 (stepsTo P1 (startLM P1) (List.replicate n (t:Int))).W t=true:=by
  have h9:wDone P (stepsTo P (startLM P) (l++l2)).W t=true:=List.all_eq_true.1 hd t (List.mem_range.2 h1)
  rw[wDone_th hth] at h9
  rw[wDone_th (hS.th.symm.trans hth)]
  unfold thDone at h9 ⊢
  rw[←hT];exact h9
 have w2:wDone P1 (stepsTo P1 (startLM P1) (List.replicate n1 (t:Int))).W t=true:=List.all_eq_true.1 hd1 t (List.mem_range.2 h2)
 rcases Nat.le_total n n1 with hle|hle
 ·obtain ⟨d,rfl⟩:=Nat.exists_eq_add_of_le hle
  rw[←List.replicate_append_replicate,stepsTo_app,steps_idle w1]
 ·obtain ⟨d,rfl⟩:=Nat.exists_eq_add_of_le hle
  rw[←List.replicate_append_replicate,stepsTo_app,steps_idle w2]
end
