/- Parts of the proof, merged by program out of 5 texts (TrB, LtA, LayS, KeyA, Glo): the first: The engine latch as plain lists: how many rounds it takes; what stands behind all its steps. Conditions: those of each theorem, as typed. -/
import Derived.Test.YtkfhgifhfkcehaaGreatDoorQL44
import Derived.Test.YtkfhgifhfkcehaaGreatDoorQL37
import Derived.Test.YtkfhgifhfkcehaaGreatDoorQL25
import Derived.Test.YtkfhgifhfkcehaaGreatDoorQL42
import Derived.Test.YtkfhgifhfkcehaaGreatDoorQL41
import Derived.Test.YtkfhgifhfkcehaaGreatDoorQL32
import Derived.Test.YtkfhgifhfkcehaaGreatDoorQL33
import Derived.Shelf.Strings.OnBuilder
import Derived.Shelf.Strconv.Itoa3
import Derived.Shelf.LaysM
import Derived.Test.YtkfhgifhfkcehaaGreatDoorProg
import Derived.Test.YtkfhgifhfkcehaaGreatDoorQL31
import Derived.Test.YtkfhgifhfkcehaaGreatDoorQL21
import Derived.Lib.AppendIntMem
import Derived.Test.YtkfhgifhfkcehaaGreatDoorQL27
import Derived.Test.YtkfhgifhfkcehaaGreatDoorQL28
set_option linter.unusedVariables false
set_option linter.unusedSimpArgs false
set_option linter.unusedSectionVars false
set_option maxRecDepth 100000
set_option maxHeartbeats 4000000
namespace Go.Proofs.YtkfhgifhfkcehaaGreatDoor
open Go.Maps Go.RowKit Go.Shelf
structure LT (P:Pg) (M:LM) (A:Au) (ord:List (Int×Bool)) (σ:List Int):Prop where
 la:Lall P M A
 tr:TrI P M A ord σ
section
variable {P:Pg} {M M':LM} {A:Au} {ord:List (Int×Bool)} {σ:List Int}
theorem ceAt_start (cells:List Int) (k:Nat):(ceAt (cells.map fun c=>(⟨c,0⟩:Ce)) (k:Int)).own=0∧∀x,cells[k]?=some x→(ceAt (cells.map fun c=>(⟨c,0⟩:Ce)) (k:Int)).val=x:=by
 unfold ceAt
 simp only[Int.toNat_natCast,List.getElem?_map]
 cases cells[k]? with
 |none=>exact⟨rfl,fun x h=>by cases h⟩
 |some c=>exact⟨rfl,fun x h=>by cases h;rfl⟩
theorem LT.start (h:PgOk P):LT P (startLM P) [] [] P.cells:=by
 have hz:∀(i:Nat) (t:Th),(startLM P).W.ths[i]?=some t→t=Th.zero:=fun i t ht=>List.eq_of_mem_replicate (List.mem_of_getElem? ht)
 refine⟨Lall.start h,⟨⟨.refl _,List.Pairwise.nil,by simp⟩,by simp,rfl,rfl,by simp,fun k hk=>.inl (ceAt_start P.cells k).1,fun i t l ht hb=>?_,fun k hk _=>?_,fun i t r s ht hb=>?_⟩⟩
 ·rw [hz i t ht] at hb;cases hb
 ·rw [List.getElem?_eq_getElem hk]
  exact congrArg some ((ceAt_start P.cells k).2 _ (List.getElem?_eq_getElem hk)).symm
 ·rw [hz i t ht] at hb;cases hb
theorem stp_evs {i:Nat} {t:Th} (hs:Stp P M i t M'):M'.W.evs=M.W.evs∨∃e,M'.W.evs=M.W.evs++[e]:=by
 cases hs <;> first|exact .inr ⟨_,rfl⟩|exact .inl rfl
theorem LT.step (h:LT P M A ord σ) (i:Int):∃A' ord' σ',LT P (stepTo P M i) A' ord' σ'∧((stepTo P M i).W.evs=M.W.evs∨∃e,(stepTo P M i).W.evs=M.W.evs++[e]):=by
 unfold stepTo
 cases hd:wDone P M.W i with
 |true=>exact⟨A,ord,σ,h,.inl rfl⟩
 |false=>
  obtain⟨k,rfl,hk⟩:=wDone_in h.la.li.thl hd
  obtain⟨t,ht⟩:∃t,M.W.ths[k]?=some t:=⟨_,List.getElem?_eq_getElem (by rw[h.la.li.thl];exact hk)⟩
  have hdn:thDone P k t=false:=by rw[←wDone_th ht];exact hd
  have hs:=stp_of h.la.li hk ht hd
  have hw:=stp_wk h.la.li ht hs
  obtain⟨A',ord',σ',h1,h2⟩:=tr_step h.tr h.la.li h.la.ji hk ht hdn hs
  exact⟨A',ord',σ',⟨⟨(stp_inv h.la.li hk ht hdn hs).1,bstep h.la.li.ok h.la.bi hk ht hdn (h.la.li.th k t ht).1 hw,h1⟩,h2⟩,stp_evs hs⟩
def Past (P:Pg) (M:LM):Prop:=∀n,n≤M.W.evs.length→∃M' A ord σ,LT P M' A ord σ∧M'.W.evs=M.W.evs.take n
theorem Past.start (h:PgOk P):Past P (startLM P):=fun n hn=>⟨_,_,_,_,LT.start h,by
 have:(startLM P).W.evs=[]:=rfl
 rw[this];simp⟩
theorem Past.step (hp:Past P M) (h:LT P M A ord σ) (i:Int):Past P (stepTo P M i):=by
 obtain⟨A',ord',σ',h1,h2⟩:=h.step i
 intro n hn
 rcases h2 with e|⟨x,e⟩
 ·rw [e] at hn ⊢;exact hp n hn
 ·by_cases hl:n≤M.W.evs.length
  ·obtain ⟨M2,A2,o2,s2,h3,h4⟩:=hp n hl
   exact⟨M2,A2,o2,s2,h3,by rw[e,List.take_append_of_le_length hl];exact h4⟩
  ·refine ⟨_,_,_,_,h1,?_⟩
   rw[List.take_of_length_le]
   rw[e] at hn ⊢
   simp at hn ⊢;omega
theorem LT.steps (h:LT P M A ord σ) (hp:Past P M):∀l:List Int,(∃A' ord' σ',LT P (stepsTo P M l) A' ord' σ')∧Past P (stepsTo P M l):=by
 intro l
 induction l generalizing M A ord σ with
 |nil=>exact⟨⟨_,_,_,h⟩,hp⟩
 |cons i l ih=>
  obtain⟨A',ord',σ',h1,-⟩:=h.step i
  exact ih h1 (hp.step h i)
theorem LT.ends (h:LT P M A ord σ):(gmOf 3 A).Ends (0,P.cells):=by
 have hX:=fed_txs h.la.ji.fed h.la.ji.evs
 refine ends_gm (.inr (.inr rfl)) h.la.ji.ids h.tr.od (fun s hs c hc=>⟨fun e=>?_,fun e=>?_⟩) (fun s hs=>by have:=fed_times h.la.ji.fed s hs;omega) (by simpa using h.tr.play)
 ·have h0:=(h.tr.com s hs c hc).1 e
  rcases(hX s hs).status.2 h0 with h1|⟨h1,h2⟩
  ·exact .inr h1.2
  ·exact .inl (h.tr.abt s hs h1 h0)
 ·have h0:¬0≤s.tri:=fun h0=>by have:=(h.tr.com s hs c hc).2 h0;rw[e] at this;cases this
  rcases(hX s hs).status.1 (by omega) with h1|h1 <;> omega
theorem fed_has {es:List Ev} {A:Au} (h:Fed es A):∀e ∈ es,hasId e.tx A:=by
 induction h with
 |nil=>intro e he;cases he
 |@snoc l A A' x h hf ih=>
  intro e he
  have key:(∀y,hasId y A→hasId y A')∧hasId x.tx A':=by
   cases hf with
   |begin hk hi hb=>exact⟨fun y ⟨s,hs,hy⟩=>⟨s,by simp[hs],hy⟩,⟨newSt x l.length,by simp,rfl⟩⟩
   |move k s s' hk hs hi hm=>
    have hid:=(move_keeps hm).1
    refine⟨fun y ⟨t,ht,hy⟩=>?_,⟨s',mem_set_self hs,by rw[hid,hi]⟩⟩
    obtain⟨j,hj⟩:=List.mem_iff_getElem?.1 ht
    by_cases e:k=j
    ·subst e
     rw[hs] at hj
     obtain rfl:=Option.some.inj hj
     exact⟨s',mem_set_self hs,by rw[hid,hy]⟩
    ·exact ⟨t,List.mem_iff_getElem?.2 ⟨j,by rw[List.getElem?_set_ne e];exact hj⟩,hy⟩
  simp only[List.mem_append,List.mem_singleton] at he
  rcases he with he|rfl
  ·exact key.1 _ (ih e he)
  ·exact key.2
theorem place_of {A:Au} {x:Int} (hn:(A.map (·.id)).Nodup) (h:hasId x A):∃(k:Nat) (s:St),A[k]?=some s∧s.id=x∧∀(j:Nat) (t:St),j < k→A[j]?=some t→t.id≠x:=by
 obtain⟨s,hs,hx⟩:=h
 obtain⟨k,hk⟩:=List.mem_iff_getElem?.1 hs
 refine⟨k,s,hk,hx,fun j t hj ht e=>?_⟩
 have hl:j < (A.map (·.id)).length:=by have:=(List.getElem?_eq_some_iff.1 ht).1;simpa using this
 have:=(List.getElem?_inj hl hn (j:=k)).1 (by simp[ht,hk,e,hx])
 omega
def ph (t:Th) (x:Nx):Nat:=(148 - gTh t)+6*(4 - t.tx)+(if t.waits=4 then stage x else 6)
theorem stp_ph (h:LInv P M) {i:Nat} (hi:i < P.threads.length) {t:Th} (ht:M.W.ths[i]?=some t) (hd:thDone P i t=false) (hs:Stp P M i t M') {x:Nx} (hx0:M.nx[i]?=some x):∃t' x',M'.W.ths[i]?=some t'∧M'.nx[i]?=some x'∧ph t' x' < ph t x:=by
 obtain⟨htk,htr⟩:=h.th i t ht
 obtain⟨o,ho⟩:∃o,M.ws[i]?=some o:=⟨_,List.getElem?_eq_getElem (by rw[h.wsl];exact hi)⟩
 obtain⟨hnx,hob⟩:=h.nx i t x o ht hx0 ho
 have htx:=tx_lt h.ok hi htk hd
 have ht3:=Pg.tx3 h.ok hi
 have ha6:=acts_le h.ok hi t.tx
 have hact:=htk.act
 have hit:=(List.getElem?_eq_some_iff.1 ht).1
 have hin:=(List.getElem?_eq_some_iff.1 hx0).1
 have ths:∀u:Th,(M.W.ths.set i u)[i]?=some u:=fun u=>List.getElem?_set_self hit
 have nxs:∀u:Nx,(M.nx.set i u)[i]?=some u:=fun u=>List.getElem?_set_self hin
 cases hs with
 |begin hw hb hx=>
  rw[hx] at hx0;obtain rfl:=Option.some.inj hx0
  exact⟨_,_,ths _,nxs _,by simp[ph,gTh,stage,hw,hb];split <;> omega⟩
 |call a hw hb hx ha hk=>
  rw[hx] at hx0;obtain rfl:=Option.some.inj hx0
  exact⟨_,_,ths _,nxs _,by simp[ph,gTh,stage,hw,hb];split <;> omega⟩
 |cancel a hw hb hx ha hk=>
  rw[hx] at hx0;obtain rfl:=Option.some.inj hx0
  exact⟨_,_,ths _,nxs _,by simp[ph,gTh,stage,hw,hb];split <;> omega⟩
 |try_ r s hw hb hx ha hs=>
  rw[hx] at hx0;obtain rfl:=Option.some.inj hx0
  have hwr:=h.wo i r s hs
  have hcl:P.cells.length≤4:=h.ok.cells.2
  have hrl:r.length≤4:=by
   have:=ksrt_len r 0 4 hwr.rsrt fun p hp=>⟨(hwr.rin p hp).1,by have:=(hwr.rin p hp).2;omega⟩
   omega
  exact⟨_,_,ths _,nxs _,by simp[ph,gTh,stage,hw,hb];split <;> omega⟩
 |wrote a r s hw hb hx ha hk hs htn=>
  rw[hx] at hx0;obtain rfl:=Option.some.inj hx0
  have hal:=(List.getElem?_eq_some_iff.1 ha).1
  exact⟨_,_,ths _,nxs _,by simp[ph,gTh,stage,hw,hb,wrTh];split <;> omega⟩
 |read a r s hw hb hx ha hk hs htn=>
  rw[hx] at hx0;obtain rfl:=Option.some.inj hx0
  have hal:=(List.getElem?_eq_some_iff.1 ha).1
  refine⟨_,_,ths _,nxs _,?_⟩
  unfold rdTh
  rcases hk with h1|⟨h1,h2⟩
  ·rw [if_neg (by omega)]
   simp[ph,gTh,stage,hw,hb];split <;> omega
  ·rw [if_pos h1]
   simp[ph,gTh,stage,hw,hb,h2];omega
 |refused a r s hw hb hx ha hk hs htn=>
  have hw0:t.waits≠0:=by omega
  exact⟨_,_,ths _,nxs _,by simp[ph,gTh,stage,hw,hb,endTh,Th.zero];split <;> omega⟩
 |abort r s hw hb hx hs=>
  have hw0:t.waits≠0:=by omega
  exact⟨_,_,ths _,nxs _,by simp[ph,gTh,stage,hw,hb,endTh,Th.zero];split <;> omega⟩
 |let_ k l hw hb hx=>
  rw[hx] at hx0;obtain rfl:=Option.some.inj hx0
  exact⟨_,_,ht,nxs _,by simp[ph,stage,hw]⟩
 |commit hw hb hx=>
  rw[hx] at hx0;obtain rfl:=Option.some.inj hx0
  exact⟨_,_,ths _,nxs _,by simp[ph,gTh,stage,hw,hb,endTh,Th.zero];split <;> omega⟩
theorem stp_nx {i j:Nat} {t:Th} (hs:Stp P M i t M') (hne:i≠j):M'.nx[j]?=M.nx[j]?:=by
 cases hs <;> exact List.getElem?_set_ne hne
def Rnd (P:Pg) (M:LM) (r n:Nat):Prop:=∀(j:Nat) (u:Th) (x:Nx),M.W.ths[j]?=some u→M.nx[j]?=some x→thDone P j u=true∨ph u x+r+(if j < n then 1 else 0)≤178
theorem Rnd.start:Rnd P (startLM P) 0 0:=fun j u x hu hx=>.inr (by
 have e1:u=Th.zero:=List.eq_of_mem_replicate (List.mem_of_getElem? hu)
 have e2:x=.none:=List.eq_of_mem_replicate (List.mem_of_getElem? hx)
 rw[e1,e2,if_neg (by omega)];decide)
theorem Rnd.step {r n:Nat} (h:LInv P M) (hR:Rnd P M r n) (hn:n < P.threads.length):Rnd P (stepTo P M n) r (n+1):=by
 obtain⟨t,ht⟩:∃t,M.W.ths[n]?=some t:=⟨_,List.getElem?_eq_getElem (by rw[h.thl];exact hn)⟩
 unfold stepTo
 cases hd:wDone P M.W (n:Int) with
 |true=>
  intro j u x hu hx
  have hu:M.W.ths[j]?=some u:=hu
  have hx:M.nx[j]?=some x:=hx
  rcases Nat.lt_trichotomy j n with hj|rfl|hj
  ·rcases hR j u x hu hx with h1|h1
   ·exact .inl h1
   ·rw [if_pos hj] at h1;rw[if_pos (by omega)];exact .inr h1
  ·exact .inl (by rw[←wDone_th hu];exact hd)
  ·rcases hR j u x hu hx with h1|h1
   ·exact .inl h1
   ·rw [if_neg (by omega)] at h1 ⊢;exact .inr h1
 |false=>
  have hdn:thDone P n t=false:=by rw[←wDone_th ht];exact hd
  have hs:=stp_of h hn ht hd
  show Rnd P (stepIn P M (n:Int).toNat) r (n+1)
  rw[Int.toNat_natCast]
  intro j u x hu hx
  by_cases e:n=j
  ·subst e
   obtain⟨y,hy⟩:∃y,M.nx[n]?=some y:=⟨_,List.getElem?_eq_getElem (by rw[h.nxl];exact hn)⟩
   obtain⟨t',x',h1,h2,h3⟩:=stp_ph h hn ht hdn hs hy
   rw[h1] at hu;rw[h2] at hx
   obtain rfl:=Option.some.inj hu
   obtain rfl:=Option.some.inj hx
   rcases hR n t y ht hy with h4|h4
   ·rw [hdn] at h4;cases h4
   ·rw [if_neg (by omega)] at h4;rw[if_pos (by omega)];exact .inr (by omega)
  ·rw [stp_other hs e] at hu
   rw[stp_nx hs e] at hx
   rcases hR j u x hu hx with h1|h1
   ·exact .inl h1
   ·refine .inr ?_
    split at h1 <;> split <;> omega
theorem Rnd.keep {r n:Nat} (h:LInv P M) (hR:Rnd P M r n) (i:Int):Rnd P (stepTo P M i) r n:=by
 unfold stepTo
 cases hd:wDone P M.W i with
 |true=>exact hR
 |false=>
  obtain⟨k,rfl,hk⟩:=wDone_in h.thl hd
  obtain⟨t,ht⟩:∃t,M.W.ths[k]?=some t:=⟨_,List.getElem?_eq_getElem (by rw[h.thl];exact hk)⟩
  have hdn:thDone P k t=false:=by rw[←wDone_th ht];exact hd
  have hs:=stp_of h hk ht hd
  show Rnd P (stepIn P M (k:Int).toNat) r n
  rw[Int.toNat_natCast]
  intro j u x hu hx
  by_cases e:k=j
  ·subst e
   obtain⟨y,hy⟩:∃y,M.nx[k]?=some y:=⟨_,List.getElem?_eq_getElem (by rw[h.nxl];exact hk)⟩
   obtain⟨t',x',h1,h2,h3⟩:=stp_ph h hk ht hdn hs hy
   rw[h1] at hu;rw[h2] at hx
   obtain rfl:=Option.some.inj hu
   obtain rfl:=Option.some.inj hx
   rcases hR k t y ht hy with h4|h4
   ·rw [hdn] at h4;cases h4
   ·exact .inr (by omega)
  ·rw [stp_other hs e] at hu
   rw[stp_nx hs e] at hx
   exact hR j u x hu hx
theorem Rnd.next {r:Nat} (h:LInv P M) (hR:Rnd P M r P.threads.length):Rnd P M (r+1) 0:=fun j u x hu hx=>by
 have hj:=(List.getElem?_eq_some_iff.1 hu).1
 rw[h.thl] at hj
 rcases hR j u x hu hx with h1|h1
 ·exact .inl h1
 ·rw [if_pos hj] at h1;rw[if_neg (by omega)];exact .inr (by omega)
theorem Rnd.le {r:Nat} (h:LInv P M) (hR:Rnd P M r 0) (hd:allDone P M.W=false):r≤178:=by
 unfold allDone at hd
 rw[List.all_eq_false] at hd
 obtain⟨j,hj,hn⟩:=hd
 have hj:=List.mem_range.1 hj
 obtain⟨u,hu⟩:∃u,M.W.ths[j]?=some u:=⟨_,List.getElem?_eq_getElem (by rw[h.thl];exact hj)⟩
 obtain⟨x,hx⟩:∃x,M.nx[j]?=some x:=⟨_,List.getElem?_eq_getElem (by rw[h.nxl];exact hj)⟩
 rcases hR j u x hu hx with h1|h1
 ·rw [wDone_th hu] at hn;exact absurd h1 hn
 ·rw [if_neg (by omega)] at h1;omega
def tries (l:List Ev):List (Int×Bool):=(l.filter (fun e=>e.kind==4)).map fun e=>(e.tx,true)
theorem LT.order (h:LT P M A ord σ):ord.filter (·.2)=tries M.W.evs:=by
 have h1:=h.tr.tries
 have h2:∀l:List (Int×Bool),l.filter (·.2)=((l.filter (·.2)).map (·.1)).map fun x=>(x,true):=by
  intro l
  induction l with
  |nil=>rfl
  |cons p l ih=>
   obtain⟨x,b⟩:=p
   cases b with
   |false=>simpa using ih
   |true=>simpa using ih
 rw[h2,h1,List.map_map];rfl
theorem LT.played (h:LT P M A ord σ):playO (deedsOf A) true P.cells (tries M.W.evs)=some σ:=by
 rw[←h.order]
 exact playO_filter (fun q _ hq=>hq) h.tr.play
theorem LT.tried (h:LT P M A ord σ) (hd:allDone P M.W=true) {e:Ev} (he:e ∈ M.W.evs) (hk:e.kind=4):∃s ∈ A,s.id=e.tx∧s.status=3:=by
 have h1:(e.tx,true) ∈ ord.filter (·.2):=by
  rw[h.order]
  exact List.mem_map.2 ⟨e,List.mem_filter.2 ⟨he,by simp[hk]⟩,rfl⟩
 have h2:=(List.mem_filter.1 h1).1
 obtain⟨s,hs,hi⟩:=h.tr.od.mem h2
 have h3:=(h.tr.com s hs true (by rw[hi];exact h2)).1 rfl
 exact⟨s,hs,hi,h.tr.abt s hs (h.la.ended hd s hs).1 h3⟩
theorem LT.cells (h:LT P M A ord σ) (hd:allDone P M.W=true) {k:Nat} (hk:k < P.cells.length):σ[k]?=some (ceAt M.cs k).val:=by
 refine h.tr.free k hk ?_
 rcases h.tr.own k hk with h1|⟨i,t,ht,hb,-⟩
 ·exact .inl h1
 ·exfalso
  have hi:i < P.threads.length:=by rw[←h.la.li.thl];exact(List.getElem?_eq_some_iff.1 ht).1
  have h2:=List.all_eq_true.1 hd i (List.mem_range.2 hi)
  rw[wDone_th ht] at h2
  have h3:t.tx=(P.txs i).length:=by simpa[thDone] using h2
  have:=h.la.bi i t ht hb
  omega
end
section
attribute [local irreducible] wpL
theorem lt_table {P:Pg} {M:LM} {A:Au} (hv:ValidIs P) (h:Lall P M A):M.W.evs.length≤400∧(∀e ∈ M.W.evs,EvOk (obsOf P).length e)∧Fed M.W.evs A∧RegOk (obsOf P)∧obsOf P≠[]∧(∀s ∈ A,∀d ∈ s.deeds,DdR P.cells.length d):=by
 have hc:=hv.ok.cells
 refine⟨h.evs,fun e he=>?_,h.ji.fed,⟨by simp[obsOf];omega,fun o ho=>?_⟩,fun e=>?_,fun s hs d hd=>?_⟩
 ·have:=h.ji.evs e he
  simpa[obsOf] using this
 ·obtain ⟨c,hc,rfl⟩:=List.mem_map.1 ho
  have:=hv.ok.cell c hc
  exact⟨rfl,by show -1000000000≤c;omega,by show c≤1000000000;omega⟩
 ·have:(obsOf P).length=0:=by rw[e];rfl
  simp[obsOf] at this
  rw[this] at hc;simp at hc
 ·have h1:=(fed_txs h.ji.fed h.ji.evs s hs).deeds d hd
  exact⟨h1.obj,h1.op,h1.key⟩
theorem lt_ev {P:Pg} {M:LM} {A:Au} {ord:List (Int×Bool)} {σ:List Int} (h:LT P M A ord σ) (hd:allDone P M.W=true) {e:Ev} (he:e ∈ M.W.evs):∃(k:Nat) (s:St),A[k]?=some s∧s.id=e.tx∧(∀(j:Nat) (t:St),j < k→A[j]?=some t→t.id≠e.tx)∧(e.kind=4→s.status=3):=by
 obtain⟨k,s,hk,hi,hf⟩:=place_of h.la.ji.ids (fed_has h.la.ji.fed e he)
 refine⟨k,s,hk,hi,hf,fun h4=>?_⟩
 obtain⟨s',hs',hi',h3⟩:=h.tried hd he h4
 obtain⟨j,hj⟩:=List.mem_iff_getElem?.1 hs'
 have hl:j < (A.map (·.id)).length:=by have:=(List.getElem?_eq_some_iff.1 hj).1;simpa using this
 have:=(List.getElem?_inj hl h.la.ji.ids (j:=k)).1 (by simp[hj,hk,hi,hi'])
 subst this
 rw[hk] at hj
 obtain rfl:=Option.some.inj hj
 exact h3
theorem tries_step {E:List Ev} {i:Nat} {e:Ev} (h:E[i]?=some e):tries (E.take (i+1))=tries (E.take i)++(if e.kind=4 then[(e.tx,true)] else[]):=by
 rw[List.take_add_one,h]
 unfold tries
 by_cases hk:e.kind=4 <;> simp[hk]
theorem tries_len (E:List Ev):(tries E).length≤E.length:=by
 unfold tries
 rw[List.length_map]
 exact List.length_filter_le _ _
theorem lt_hA {P:Pg} {M:LM} {A:Au} {ord:List (Int×Bool)} {σ:List Int} (h:LT P M A ord σ):∀p ∈ tries M.W.evs,∃(k:Nat) (s:St),A[k]?=some s∧s.id=p.1∧∀(j:Nat) (t:St),j < k→A[j]?=some t→t.id≠p.1:=by
 intro p hp
 obtain⟨e,he,rfl⟩:=List.mem_map.1 hp
 exact place_of h.la.ji.ids (fed_has h.la.ji.fed e (List.mem_filter.1 he).1)
theorem law_latchTries (vc vt:Value) (P:Pg) (sv:Value) (l:List Int) (w:World) (hG:GlobT w) (h:PgIs w w.heap.size vc vt P) (hs:Sl w w.heap.size 1 sv l.length (l.map (.int .i64))):
  Calls Tryz.prog 3 #[.agg #[vc,vt],sv] w fun e w'=>e=.returned (.bool true)∧Below w.heap.size w w':=by
 obtain⟨ac,cc,rfl,mc⟩:=h.cells.ex
 obtain⟨at',ct,rfl,mt⟩:=h.thr.ex
 obtain⟨sa,sc,rfl,ms⟩:=hs.ex
 have b0:Below w.heap.size w (w.alloc (.cells #[.slice ac P.cells.length cc,.slice at' P.threads.length ct] 25)):=(Below.refl _ w).alloc (Nat.le_refl _) _
 have r0:=row_new w (.cells #[.slice ac P.cells.length cc,.slice at' P.threads.length ct] 25)
 have hf:=hid (l_first20 _ (hG.below b0).prog)
 have H:=hid h
 have HS:=hid hs
 have HG:=hid hG
 have B0:=hid b0
 have R0:=hid r0
 have l0:=row_lt r0
 clear h hs hG b0 r0
 go_enter Tryz.func3,Tryz.ntmps3
 go_wp2_with fail
 generalize w.alloc (.cells #[.slice ac P.cells.length cc,.slice at' P.threads.length ct] 25)=W at *
 refine(hf.out).mono ?_
 rintro e W1 ⟨rfl,b1⟩
 have r1:=row_below R0.out b1 l0
 have l1:=row_lt r1
 have y0:=row_cell r1 0
 have y1:=row_cell r1 1
 simp at y0 y1
 have B1:=hid (B0.out.trans (b1.mono B0.out.size))
 have hz1:=B1.out.size
 have hsm:=hid (l_small20 _ _ P W1 ((H.out.below B1.out).more hz1))
 have R1:=hid r1
 clear r1 b1 hf
 go_wp2_with fail
 refine(hsm.out).mono ?_
 rintro e W2 ⟨b,rfl,hb20,b2⟩
 have r2:=row_below R1.out b2 l1
 have l2:=row_lt r2
 clear y0 y1
 have y0:=row_cell r2 0
 have y1:=row_cell r2 1
 simp at y0 y1
 have B2:=hid (B1.out.trans (b2.mono hz1))
 have hz2:=B2.out.size
 have R2:=hid r2
 clear r2 b2 hsm
 cases b with
 |false=>
  go_wp2
  go_ret
  exact⟨rfl,B2.out⟩
 |true=>
 have h20:=hb20 rfl
 clear hb20
 by_cases hl:l.length≤300
 case neg=>
  have q:decide (300 < l.length)=true:=by simp;omega
  have q2:decide ((300:Int) < (l.length:Int))=true:=by simp;omega
  go_wp2
  go_ret
  exact⟨rfl,B2.out⟩
 case pos=>
 have q:decide (300 < l.length)=false:=by simp;omega
 have q2:decide ((300:Int) < (l.length:Int))=false:=by simp;omega
 have hG2:=HG.out.below B2.out
 obtain⟨⟨g1,tt,tv,g2⟩,g3,g4⟩:=hG2
 have hF:=hid (la_new _ _ P W2 ((H.out.below B2.out).more hz2) (.iface tt tv) g2 ⟨_,_,rfl⟩ g1 (by omega))
 have GW:=hid g3
 have GA:=hid g4
 clear g2 g3 g4
 go_wp2_with fail
 refine(hF.out).mono ?_
 rintro e W3 ⟨hv,b3⟩
 have B3:=hid (B2.out.trans (b3.mono hz2))
 rcases hv with⟨-,rfl⟩|⟨hval,C,us,ve,rfl,hCB,hla⟩
 ·clear hF b3
  go_wp2
  go_ret
  exact⟨rfl,B3.out⟩
 have R3:=hid (row_below R2.out b3 l2)
 have Y1:=hid (show W3.cell? ⟨w.heap.size,1,none⟩=some (.slice at' P.threads.length ct) from by have:=row_cell R3.out 1;simpa using this)
 have hz3:=b3.size
 have hlt3:w.heap.size < W3.heap.size:=by omega
 have HB3:=hid b3
 have HV:=hid hval
 have HL:=hid hla
 have h4:=hval.ok.threads
 have HS3:=hid (HS.out.below B3.out)
 rw[←hCB] at l2
 clear hF b3 y0 y1 hla hval
 go_wp2_with fail
 go_loopw [8] (fun p wr=>∃(i:Nat) (A:Au) (ord:List (Int×Bool)) (σ:List Int) (ve:Value) (us:List (Value×Value)),i≤l.length∧p=.int .i64 i∧LT P (stepsTo P (startLM P) (l.take i)) A ord σ∧Rnd P (stepsTo P (startLM P) (l.take i)) 0 0∧Below C.B W3 wr∧LaAt wr C ve us P (stepsTo P (startLM P) (l.take i))) (fun p _=>l.length - (intOf p).toNat)
 case atStart=>exact⟨0,[],[],P.cells,_,_,by omega,by go_num,LT.start HV.out.ok,Rnd.start,Below.refl _ _,HL.out⟩
 case round=>
  obtain⟨i,A,ord,σ,ve1,us1,hi,rfl,hO,hR,hB,hL⟩:=hrel
  have hBw:Below w.heap.size W3 wr:=hB.mono (by omega)
  have HO:=hid hO
  have HR:=hid hR
  have HB:=hid hB
  have HL1:=hid hL
  have lw:w.heap.size < wr.heap.size:=by have:=hL.size;omega
  clear hO hB hL hR
  by_cases hlt:i < l.length
  ·obtain ⟨b,off,c,hsa,hb,hc,hcc⟩:=(HS3.out.below hBw).intAt hlt
   have hbz:b < wr.heap.size:=by have:=hBw.size;omega
   have HC:=hid hc
   subst hsa
   clear hc hBw
   go_wp2_with fail
   refine(la_step HL1.out HO.out.la.li.can c).mono ?_
   rintro e w1 ⟨rfl,hb1,ve2,us2,hl2⟩
   obtain⟨A',ord',σ',h1,-⟩:=HO.out.step c
   have HB1:=hid (HB.out.trans hb1)
   have HL2:=hid hl2
   have H1:=hid h1
   clear hb1 hl2 hcc h1
   go_wp2_with fail
   go_roundw
   case rel=>exact⟨i+1,A',ord',σ',ve2,us2,by omega,by go_num,by rw[take_step HC.out,stepsTo_snoc];exact H1.out,by rw[take_step HC.out,stepsTo_snoc];exact HR.out.keep HO.out.la.li c,HB1.out,by rw[take_step HC.out,stepsTo_snoc];exact HL2.out⟩
   case measure=>simp[intOf];omega
  ·obtain rfl:i=l.length:=by omega
   clear hBw
   go_wp2_with fail
   obtain⟨W4,rfl⟩:∃X,X=wr:=⟨_,rfl⟩
   go_loopw [9] (fun p wr=>∃(r:Nat) (M:LM) (A:Au) (ord:List (Int×Bool)) (σ:List Int) (ve:Value) (us:List (Value×Value)),r≤179∧p=.int .i64 r∧LT P M A ord σ∧Rnd P M r 0∧Below C.B W3 wr∧LaAt wr C ve us P M) (fun p _=>600 - (intOf p).toNat)
   case atStart=>exact⟨0,_,A,ord,σ,_,_,by omega,by go_num,HO.out,HR.out,HB.out,HL1.out⟩
   case round=>
    clear HO HR HB HL1
    obtain⟨r,M,A,ord,σ,ve2,us2,hr,rfl,hO,hR,hB,hL⟩:=hrel
    have HO:=hid hO
    have HR:=hid hR
    have HB:=hid hB
    have HL1:=hid hL
    have q6:decide ((r:Int) < 600)=true:=by simp;omega
    have lw2:w.heap.size < wr.heap.size:=by have:=hL.size;omega
    clear hO hB hL hR
    go_wp2_with fail
    refine(la_done HL1.out).mono ?_
    rintro e w5 ⟨rfl,b5⟩
    have HB5:=hid (HB.out.trans (b5.mono HL1.out.size))
    have HL5:=hid (HL1.out.below b5)
    have l5:w.heap.size < w5.heap.size:=by have:=b5.size;omega
    clear b5
    cases hd:allDone P M.W with
    |false=>
     have hr8:=HR.out.le HO.out.la.li hd
     clear hd
     go_wp2_with fail
     obtain⟨W5,rfl⟩:∃X,X=w5:=⟨_,rfl⟩
     go_loopw [10] (fun p wr=>∃(t:Nat) (M:LM) (A:Au) (ord:List (Int×Bool)) (σ:List Int) (ve:Value) (us:List (Value×Value)),t≤P.threads.length∧p=.int .i64 t∧LT P M A ord σ∧Rnd P M r t∧Below C.B W3 wr∧LaAt wr C ve us P M) (fun p _=>P.threads.length - (intOf p).toNat)
     case atStart=>exact⟨0,M,A,ord,σ,_,_,by omega,by go_num,HO.out,HR.out,HB5.out,HL5.out⟩
     case round=>
      clear HO HR HB5 HL5
      obtain⟨t,M,A,ord,σ,ve3,us3,ht,rfl,hO,hR,hB,hL⟩:=hrel
      have HO:=hid hO
      have HR:=hid hR
      have HB6:=hid hB
      have HL6:=hid hL
      have y1:=cell_below hB l2 Y1.out
      have lw6:w.heap.size < wr.heap.size:=by have:=hL.size;omega
      clear hO hB hL hR
      by_cases hlt2:t < P.threads.length
      ·go_wp2_with fail
       refine(la_step HL6.out HO.out.la.li.can t).mono ?_
       rintro e w1 ⟨rfl,hb1,ve4,us4,hl4⟩
       obtain⟨A',ord',σ',h1,-⟩:=HO.out.step t
       have HB7:=hid (HB6.out.trans hb1)
       have HL7:=hid hl4
       have H1:=hid h1
       clear hb1 hl4 h1 y1
       go_wp2_with fail
       go_roundw
       case rel=>exact⟨t+1,_,A',ord',σ',ve4,us4,by omega,by go_num,H1.out,HR.out.step HO.out.la.li hlt2,HB7.out,HL7.out⟩
       case measure=>simp[intOf];omega
      ·obtain rfl:t=P.threads.length:=by omega
       go_wp2_with fail
       go_roundw
       case rel=>exact⟨r+1,M,A,ord,σ,ve3,us3,by omega,by go_num,HO.out,HR.out.next HO.out.la.li,HB6.out,HL6.out⟩
       case measure=>simp[intOf];omega
    |true=>
     obtain⟨hel,hes,hfd,hreg,hne,hdd⟩:=lt_table HV.out HO.out.la
     have HT5:=hid (And.intro hel (And.intro hes (And.intro hfd (And.intro hreg (And.intro hne hdd)))))
     have HD:=hid hd
     clear hel hes hfd hreg hne hdd hd
     go_wp2_with fail
     refine(la_history HL5.out HO.out.la.li.can.evs).mono ?_
     rintro e V ⟨ov,vv,rfl,ho,hv,bV⟩
     have hBr:=HL5.out.size
     obtain⟨E,hE⟩:∃E,E=M.W.evs:=⟨_,rfl⟩
     rw[←hE] at hv
     obtain⟨oa,oc,rfl⟩:=OwnF.slv ho
     obtain⟨ea,ec,rfl⟩:=OwnF.slv hv
     have bh:Below V.heap.size V (V.alloc (.cells #[.slice oa (obsOf P).length oc,.slice ea E.length ec] 37)):=(Below.refl _ V).alloc (Nat.le_refl _) _
     have rh:=hid (row_new V (.cells #[.slice oa (obsOf P).length oc,.slice ea E.length ec] 37))
     have BV:=hid (HB5.out.trans ((bV.trans (bh.mono bV.size)).mono hBr))
     have HLV:=hid (HL5.out.below (bV.trans (bh.mono bV.size)))
     have OV:=hid (OwnF.below ho bh)
     have EV:=hid (OwnF.below hv bh)
     have hE':=hid hE
     clear ho hv bV bh hE
     go_wp2_with fail
     generalize V.alloc (.cells #[.slice oa (obsOf P).length oc,.slice ea E.length ec] 37)=V1 at *
     have l1:=row_lt rh.out
     have hw1:W2.heap.size≤V1.heap.size:=by have:=BV.out.size;omega
     have B21:=hid (HB3.out.trans (show Below W2.heap.size W3 V1 from by rw[←hCB];exact BV.out))
     refine(sh_Table _ _ (obsOf P) E A V1 (OwnF.sl OV.out) (OwnF.sl EV.out) HT5.out.2.2.2.2.1 HT5.out.2.2.2.1 (by rw[hE'.out];exact HT5.out.1) (by rw[hE'.out];exact HT5.out.2.1) (GW.out.below B21.out) (by rw[hE'.out];exact HT5.out.2.2.1)).mono ?_
     rintro e V2 ⟨tv,rfl,hT,b2'⟩
     obtain⟨tcs,tcc,tcl⟩:∃a c,tv=.slice a A.length c:=by
      obtain⟨rs,h1,h2,-⟩:=hT
      obtain⟨a,c,e⟩:=OwnF.slv h1
      exact⟨a,c,by rw[e,h2]⟩
     subst tcl
     have B2V:=hid b2'
     have HTV:=hid hT
     have rh2:=hid (row_below rh.out b2' l1)
     have y8:=row_cell rh2.out 0
     have y9:=row_cell rh2.out 1
     simp at y8 y9
     have l2':=row_lt rh2.out
     have B22:=hid (B21.out.trans (b2'.mono hw1))
     clear hT b2'
     go_wp2_with fail
     refine(s_New _ (obsOf P) V2 (OwnF.sl (OwnF.below OV.out B2V.out)) HT5.out.2.2.2.1 (GW.out.below B22.out)).mono ?_
     rintro e V3 ⟨v',rfl,oS,b3'⟩
     obtain⟨aS,cS,rfl⟩:=OwnF.slv oS
     have hinit:(obsOf P).map (·.init)=P.cells:=by simp[obsOf,Function.comp_def]
     rw[hinit] at oS ⊢
     have hcl:((obsOf P).map (·.init)).length=P.cells.length:=by rw[hinit]
     have b4:Below V3.heap.size V3 (V3.alloc (.cells #[.slice aS P.cells.length cS] 46)):=(Below.refl _ V3).alloc (Nat.le_refl _) _
     have r4:=hid (row_new V3 (.cells #[.slice aS P.cells.length cS] 46))
     have hw2:=B22.out.size
     have B42:=hid ((B22.out.trans (b3'.mono hw2)).trans (b4.mono (Nat.le_trans hw2 b3'.size)))
     have HL4:=hid (((HLV.out.below B2V.out).below b3').below b4)
     have E4:=hid (OwnF.below (OwnF.below (OwnF.below EV.out B2V.out) b3') b4)
     have rh4:=hid (row_below (row_below rh2.out b3' l2') b4 (by have:=b3'.size;omega))
     have T4:=hid ((HTV.out.below b3').below b4)
     have S4:=hid (OwnF.base (OwnF.below oS b4) (Nat.zero_le _))
     have GA4:=hid (GA.out.below B42.out)
     have hz4:W2.heap.size≤V3.heap.size:=Nat.le_trans hw2 b3'.size
     have lh3:V.heap.size < V3.heap.size:=by have:=b3'.size;omega
     clear b3' b4 oS hinit hcl y8 y9
     go_wp2_with fail
     obtain⟨V4,hV4⟩:∃X,X=V3.alloc (.cells #[.slice aS P.cells.length cS] 46):=⟨_,rfl⟩
     rw[←hV4] at B42 HL4 E4 rh4 T4 S4 GA4 r4 ⊢
     clear hV4
     have lz4:V.heap.size < V4.heap.size:=row_lt rh4.out
     have hE4:E.length≤400:=by rw[hE'.out];exact HT5.out.1
     clear HR HB5 HL5 rh rh2 OV EV HLV BV B21 B22 B2V HTV l1 hw1 hw2 l2'
     go_loopw [16,17] (fun v p wr=>∃i:Nat,i≤E.length∧p=.int .i64 i∧OwnF stpC 58 2 wr V4.heap.size v (tries (E.take i))∧Below V4.heap.size V4 wr) (fun _ p _=>E.length - (intOf p).toNat)
     case atStart=>exact⟨0,by omega,by go_num,OwnF.nil _ _,Below.refl _ _⟩
     case round=>
      obtain⟨i,hi,rfl,hO4,hB⟩:=hrel
      obtain⟨ao,co,rfl⟩:=OwnF.slv hO4
      have lz:V.heap.size < wr.heap.size:=by have:=hB.size;omega
      have y9:=row_cell (row_below rh4.out hB lz4) 1
      simp at y9
      have hzB:=hB.size
      have HB4:=hid hB
      have HO4:=hid hO4
      clear hB hO4
      by_cases hlt:i < E.length
      ·obtain ⟨b,off,e,hq,hb,hx,hc⟩:=(OwnF.sl (OwnF.below E4.out HB4.out)).atF Ev.len rfl hlt
       subst hq
       have c0:wr.cell? ⟨b,off+i*8,none⟩=some (.int .i64 e.kind):=hc 0 (by decide)
       have c1:wr.cell? ⟨b,off+i*8+1,none⟩=some (.int .i64 e.tx):=hc 1 (by decide)
       obtain⟨k,s,hk,hid',hfst,hst⟩:=lt_ev HO.out HD.out (e:=e) (by rw[←hE'.out];exact List.mem_of_getElem? hx)
       have FC:=hid (sh_Find _ A e.tx _ wr (T4.out.below HB4.out) hk hid' hfst)
       have HX:=hid hx
       have HK:=hid hk
       have HST:=hid hst
       have HID:=hid hid'
       have HC:=hid hc
       clear hx hk hst hid' hfst hc
       go_wp2_with fail
       refine FC.out.mono ?_
       rintro e' w1 ⟨rfl,b1⟩
       have c0:=cell_below b1 hb c0
       have c1:=cell_below b1 hb c1
       have y9:=row_cell (row_below (row_below rh4.out HB4.out lz4) b1 lz) 1
       simp at y9
       have lz1:V.heap.size < w1.heap.size:=by have:=b1.size;omega
       have hb1:b < w1.heap.size:=by have:=b1.size;omega
       have O5:=hid (OwnF.below HO4.out b1)
       have B5:=hid (HB4.out.trans (b1.mono hzB))
       have hz5:=B5.out.size
       clear b1 FC HB4 HO4
       by_cases hk4:e.kind=4
       ·have h3:=HST.out hk4
        obtain⟨rs,hv,hvl,hvc⟩:=T4.out.below B5.out
        have hkA:k < A.length:=(List.getElem?_eq_some_iff.1 HK.out).1
        have hsl:=OwnF.sl hv
        rw[hvl] at hsl
        obtain⟨b2,off2,r,hq2,hb2,hr,hc2⟩:=hsl.atF TxR.len hvl hkA
        obtain⟨⟨rid,-,rst,-⟩,-⟩:=hvc k r s hr HK.out
        have d0:w1.cell? ⟨b2,off2+k*7,none⟩=some (.int .i64 r.id):=hc2 0 (by decide)
        have d2:w1.cell? ⟨b2,off2+k*7+2,none⟩=some (.int .i64 r.status):=hc2 2 (by decide)
        rw[rid,HID.out] at d0
        rw[rst,h3] at d2
        have hbig:A.length≤9223372036854775807:=by obtain⟨_,_,_,hb⟩:=OwnF.form2 hv;omega
        rw[hk4] at c0
        have htr:=tries_step HX.out
        rw[if_pos hk4] at htr
        have HTR:=hid htr
        have HTL:=hid (show(tries (E.take i)).length≤400 by have:=tries_len (E.take i);have:=HT5.out.1;rw[←hE'.out] at this;rw[List.length_take] at *;omega)
        obtain⟨n4,hn4⟩:∃n4,n4=(tries (E.take i)).length:=⟨_,rfl⟩
        subst hq2
        clear hv hvl hvc hr hc2 rid rst h3 htr hk4 hsl
        have hl4:=HTL.out
        go_wp2_with (at_builtin;refine wpList_appF rfl _ _ _ rfl _ 16 Tryz.underlying49 infoStep rfl O5.out (e.tx,true) (by first|omega|(simp <;> omega)) (by rfl) (by rfl) (by first|rfl|simp) rfl (step_one _) (by first|omega|(simp only[List.length_append,List.length_cons,List.length_nil,List.length_replicate];omega)) (by first|omega|(simp only[List.length_append,List.length_cons,List.length_nil,List.length_replicate];omega)) ?_;refine Stop.halt ?_)
        refine Stop.go ?_
        intro g5 c5 wA oA GA5
        have BA:=hid (B5.out.trans (GA5.below hz5 fun q h=>(OwnF.lt O5.out q h).1))
        have OA:=hid oA
        have lzA:V.heap.size < wA.heap.size:=by have:=BA.out.size;omega
        clear oA GA5 c0 c1 y9 d0 d2
        go_wp2_with fail
        go_roundw
        case rel=>exact⟨i+1,by omega,by go_num,by rw[HTR.out];exact(by simpa using OA.out),BA.out⟩
        case measure=>simp[intOf];omega
       ·have q:decide (e.kind=4)=false:=by simpa using hk4
        have htr:=tries_step HX.out
        rw[if_neg hk4,List.append_nil] at htr
        have HTR:=hid htr
        clear htr
        go_wp2_with fail
        go_roundw
        case rel=>exact⟨i+1,by omega,by go_num,by rw[HTR.out];exact O5.out,B5.out⟩
        case measure=>simp[intOf];omega
      ·obtain rfl:i=E.length:=by omega
       have y14:=row_cell (row_below r4.out HB4.out (row_lt r4.out)) 0
       simp at y14
       have lz14:V3.heap.size < wr.heap.size:=by have:=row_lt r4.out;have:=HB4.out.size;omega
       go_wp2_with fail
       rw[List.take_length] at HO4
       have ORD:=hid (pl_Order _ _ _ P.cells σ A (tries E) true wr (OwnF.below S4.out HB4.out) (by have:=HV.out.ok.cells;omega) (by have:=tries_len E;have:=HT5.out.1;rw[←hE'.out] at this;omega) (OwnF.base HO4.out (Nat.zero_le _)) (T4.out.below HB4.out) (GA4.out.below HB4.out) (by rw[hE'.out];exact lt_hA HO.out) HT5.out.2.2.2.2.2 (by rw[hE'.out];exact HO.out.played))
       rw[List.take_length]
       refine ORD.out.mono ?_
       rintro e w6 ⟨v',rfl,oR,b6⟩
       obtain⟨aR,cR,rfl⟩:=OwnF.slv oR
       have b7:Below w6.heap.size w6 (w6.alloc (.cells #[.slice aR σ.length cR] 46)):=(Below.refl _ _).alloc (Nat.le_refl _) _
       have B7:=hid ((HB4.out.trans (b6.mono hzB)).trans (b7.mono (Nat.le_trans hzB b6.size)))
       have O7:=hid (OwnF.below oR b7)
       have R7:=hid (row_new w6 (.cells #[.slice aR σ.length cR] 46))
       have DN:=hid (la_done (HL4.out.below B7.out))
       clear b6 b7 oR ORD y9 y14 HO4
       go_wp2_with fail
       refine DN.out.mono ?_
       rintro e w7 ⟨rfl,b8⟩
       have hD:=HD.out
       rw[hD]
       have B8:=hid (B7.out.trans (b8.mono B7.out.size))
       have O8:=hid (OwnF.below O7.out b8)
       have R8:=hid (row_below R7.out b8 (row_lt R7.out))
       have CV:=hid (la_CellsV (HL4.out.below B8.out))
       clear b8 hD DN R7 O7
       go_wp2_with fail
       refine CV.out.mono ?_
       rintro e w8 ⟨v2,rfl,o9,b9⟩
       obtain⟨aL,cL,rfl⟩:=OwnF.slv o9
       have b10:Below w7.heap.size w7 w8:=b9
       have hz8:w7.heap.size≤w8.heap.size:=b10.size
       have B9:=hid (B8.out.trans (b10.mono B8.out.size))
       have O10:=hid (OwnF.below O8.out b10)
       have R10:=hid (row_below R8.out b10 (row_lt R8.out))
       have L9:=hid o9
       have hcs:=HO.out.la.li.csl
       have l10:=row_lt R10.out
       have HCS:=hid hcs
       have hml:(M.cs.map (·.val)).length=M.cs.length:=by simp
       clear b9 b10 o9 hcs
       rw[hml] at L9 ⊢
       clear hml
       go_wp2_with fail
       have hcs9:M.cs.length≤1000:=by rw[HCS.out];have:=HV.out.ok.cells;omega
       go_loopw [23] (fun p wr=>∃c:Nat,c≤M.cs.length∧p=.int .i64 c∧Below w8.heap.size w8 wr) (fun p _=>M.cs.length - (intOf p).toNat)
       case atStart=>exact⟨0,by omega,by go_num,Below.refl _ _⟩
       case round=>
        obtain⟨c,hc,rfl,hB⟩:=hrel
        have lz9:w6.heap.size < wr.heap.size:=by have:=hB.size;omega
        have y20:=row_cell (row_below R10.out hB l10) 0
        simp at y20
        have HB:=hid hB
        clear hB
        by_cases hlt9:c < M.cs.length
        ·obtain ⟨cx,hcx⟩:∃cx,(ceAt M.cs (c:Int)).val=cx:=⟨_,rfl⟩
         have hσ:=HO.out.cells HD.out (k:=c) (by rw[←HCS.out];exact hlt9)
         rw[hcx] at hσ
         have hl9:(M.cs.map (·.val))[c]?=some cx:=by
          rw[←hcx,List.getElem?_map,List.getElem?_eq_getElem hlt9,ceAt_of (List.getElem?_eq_getElem hlt9)];rfl
         have DO:=hid (st_Do (.slice aR σ.length cR) σ c cx 1 0 wr (OwnF.sl (OwnF.below O10.out HB.out)) (by rw[HO.out.tr.slen];have:=HV.out.ok.cells;omega) hσ (.inl ⟨rfl,rfl⟩))
         have HL9:=hid hl9
         clear hσ hl9 hcx
         go_wp2_with fail
         refine DO.out.mono ?_
         rintro e wx ⟨v3,rfl,o11,b11⟩
         obtain⟨a3,c3,rfl⟩:=OwnF.slv o11
         rw[List.length_set]
         have b12:Below wr.heap.size wr (wx.alloc (.cells #[.slice a3 σ.length c3] 46)):=b11.alloc b11.size _
         have B12:=hid (HB.out.trans (b12.mono HB.out.size))
         have hsL:=OwnF.sl (OwnF.below (OwnF.below L9.out HB.out) b12)
         have hml:(M.cs.map (·.val)).length=M.cs.length:=by simp
         rw[hml] at hsL
         obtain⟨bL,offL,xl,hqL,hbL,hxL,hcL⟩:=hsL.atF intC_len hml hlt9
         clear hsL hml
         rw[HL9.out] at hxL
         obtain rfl:=Option.some.inj hxL
         have cL0:(wx.alloc (.cells #[.slice a3 σ.length c3] 46)).cell? ⟨bL,offL+c,none⟩=some (.int .i64 cx):=by have:=hcL 0 (by decide);simpa[intC] using this
         have hd1:(doR cx 1 0).2.1=3:=rfl
         have hd2:(doR cx 1 0).2.2=cx:=rfl
         rw[hd1,hd2]
         have qn:decide (cx=cx)=true:=by simp
         clear hcL hxL b11 b12 o11 hd1 hd2 DO
         subst hqL
         go_wp2_with fail
         go_roundw
         case rel=>exact⟨c+1,by omega,by go_num,B12.out⟩
         case measure=>simp[intOf];omega
        ·obtain rfl:c=M.cs.length:=by omega
         go_wp2_with fail
         go_ret
         exact⟨rfl,B2.out.trans (((B42.out.trans (B9.out.mono B42.out.size)).trans (HB.out.mono (by have:=B42.out.size;have:=B9.out.size;omega))).mono hz2)⟩
end
section
attribute [local irreducible] wpL
def PowAt (w:World):Prop:=Lib.TabIs Tryz.prog w "internal/strconv.uint64pow10" .u64 Lib.pow10Tab
theorem PowAt.below {w w':World} (h:PowAt w) (hb:Below w.heap.size w w'):PowAt w':=by
 have hg:Tryz.prog.globalNamed "internal/strconv.uint64pow10" =some 23:=by kernel_rfl
 unfold PowAt Lib.TabIs World.var? at h ⊢
 rw[hg] at h ⊢
 simp only[Option.bind_some] at h ⊢
 have hlt:23 < w.heap.size:=by
  rcases Nat.lt_or_ge 23 w.heap.size with h'|h'
  ·exact h'
  ·rw [Array.getElem?_eq_none h'] at h;cases h
 rw[hb.block _ hlt]
 exact h
end
structure Glob (w:World):Prop where
 big:25 < w.heap.size
 prog:∃t v,w.cell? ⟨2,0,none⟩=some (.iface t v)
 words:WordsAt w
 pow:PowAt w
 ans:ErrAt 15 w
 bud:∃b:Addr,w.cell? ⟨0,0,none⟩=some (.iface 375 (.pointer (some b)))
theorem Glob.below {w w':World} (h:Glob w) (hb:Below w.heap.size w w'):Glob w':=by
 obtain⟨h1,⟨t,v,h2⟩,h3,h4,h5,⟨b,h6⟩⟩:=h
 exact⟨by have:=hb.size;omega,⟨t,v,cell_below hb (by omega) h2⟩,h3.below hb,h4.below hb,h5.below hb,⟨b,cell_below hb (by omega) h6⟩⟩
