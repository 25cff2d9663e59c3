/- Parts of the proof, merged by program out of 1 texts (LmC): the first: The engine late as plain lists: what holds goes on holding; all ends. Conditions: those of each theorem, as typed. -/
import Derived.Test.YtkfhgifhfkcehaaGreatDoorQL48
set_option linter.unusedVariables false
set_option linter.unusedSimpArgs false
set_option linter.unusedSectionVars false
set_option maxRecDepth 100000
set_option maxHeartbeats 4000000
namespace Go.Proofs.YtkfhgifhfkcehaaGreatDoor
open Go.Maps Go.RowKit
section
variable {P:Pg} {M M':LM}
theorem wrS_mem {s:MI} {cs:List Ce} {c':Ce} (h:c' ∈ wrS s (fun _=>false) cs) (hs:KSrt s):∃(k:Nat) (c:Ce),cs[k]?=some c∧(c'=c∨∃v,((k:Int),v) ∈ s∧c'=⟨v,c.ver+1⟩):=by
 obtain⟨k,hk,e⟩:=List.mem_iff_getElem.1 h
 have h1:(wrS s (fun _=>false) cs)[k]?=some c':=by rw[←e];exact List.getElem?_eq_getElem hk
 rw[wrS_get] at h1
 cases hc:cs[k]? with
 |none=>rw[hc] at h1;cases h1
 |some c=>
  rw[hc] at h1
  refine⟨k,c,hc,?_⟩
  cases hf:fnd (k:Int) s with
  |none=>rw[hf] at h1;simp at h1;exact .inl h1.symm
  |some v=>rw[hf] at h1;simp at h1;exact .inr ⟨v,(fnd_some hs).1 hf,h1.symm⟩
theorem stp_inv (h:LInv P M) {i:Nat} (hi:i < P.threads.length) {t:Th} (ht:M.W.ths[i]?=some t) (hd:thDone P i t=false) (hs:Stp P M i t M'):LInv P M'∧mu M' < mu M:=by
 obtain⟨htk,htr⟩:=h.th i t ht
 obtain⟨x,hx0⟩:∃x,M.nx[i]?=some x:=⟨_,List.getElem?_eq_getElem (by rw[h.nxl];exact hi)⟩
 obtain⟨o,ho⟩:∃o,M.ws[i]?=some o:=⟨_,List.getElem?_eq_getElem (by rw[h.wsl];exact hi)⟩
 obtain⟨hnx,hob⟩:=h.nx i t x o ht hx0 ho
 have htx:=tx_lt h.ok hi htk hd
 have ht3:=Pg.tx3 h.ok hi
 have ha6:=acts_le h.ok hi t.tx
 have hact:=htk.act
 have hwo:∀k',M.W.evs.length≤k'→∀r s,o=some (r,s)→WoOk P k' r s:=fun k' hk' r s e=>(h.wo i r s (by rw[ho,e])).more hk'
 have hT:tot P≤2380:=by unfold tot;have:=h.ok.threads.2;omega
 have hev:=h.ev
 have hce:∀(es:List Ev),∀c' ∈ M.cs,inB (M.W.evs++es).length c'.val∧0≤c'.ver∧∃c ∈ M.cs,c'.ver≤c.ver+1:=fun es c hc=>⟨((h.ce c hc).1).more (by simp),(h.ce c hc).2.1,c,hc,by omega⟩
 have hle:∀e:Ev,M.W.evs.length≤(M.W.evs++[e]).length:=fun e=>by simp
 have same:M.ws=M.ws.set i o:=(set_same ho).symm
 cases hs with
 |begin hw hb hx=>
  have hx0':=hx0
  rw[hx] at hx0'
  obtain rfl:=Option.some.inj hx0'
  clear hx0'
  refine h.turn (t':={t with begun:=true}) (x':=.none) (o':=some ([],[])) (cs':=M.cs) (es:=[_]) ht hx0 ho ⟨htk.tx,htk.act,.inl hw,htk.read⟩ (htr.more (hle _)) hw (fun _=>by simp) (fun r s e=>?_) rfl (hce _) ?_ (by simp)
  ·simp only[Option.some.injEq,Prod.mk.injEq] at e
   obtain⟨rfl,rfl⟩:=e
   exact⟨List.Pairwise.nil,List.Pairwise.nil,by simp,by simp,by simp⟩
  ·simp [mTh,gTh,stage,hw,hb];split <;> omega
 |call a hw hb hx ha hk=>
  have hx0':=hx0
  rw[hx] at hx0'
  obtain rfl:=Option.some.inj hx0'
  clear hx0'
  rw[same]
  refine h.turn (t':={t with waits:=2}) (x':=.ans _) (o':=o) (cs':=M.cs) (es:=[_]) ht hx0 ho ⟨htk.tx,htk.act,.inr ⟨hb,.inl ⟨rfl,a,ha,hk⟩⟩,htk.read⟩ (htr.more (hle _)) ⟨rfl,a,ha,hk,rfl⟩ hob (hwo _ (hle _)) rfl (hce _) ?_ (by simp)
  simp[mTh,gTh,stage,hw,hb];split <;> omega
 |cancel a hw hb hx ha hk=>
  have hx0':=hx0
  rw[hx] at hx0'
  obtain rfl:=Option.some.inj hx0'
  clear hx0'
  rw[same]
  refine h.turn (t':={t with waits:=7}) (x':=.ends true) (o':=o) (cs':=M.cs) (es:=[_]) ht hx0 ho ⟨htk.tx,htk.act,.inr ⟨hb,.inr (.inr ⟨rfl,a,ha,hk⟩)⟩,htk.read⟩ (htr.more (hle _)) rfl hob (hwo _ (hle _)) rfl (hce _) ?_ (by simp)
  simp[mTh,gTh,stage,hw,hb];split <;> omega
 |try_ hw hb hx ha=>
  have hx0':=hx0
  rw[hx] at hx0'
  obtain rfl:=Option.some.inj hx0'
  clear hx0'
  rw[same]
  have hal:t.act=(P.acts i t.tx).length:=by have:=List.getElem?_eq_none_iff.1 ha;omega
  refine h.turn (t':={t with waits:=4}) (x':=.look) (o':=o) (cs':=M.cs) (es:=[_]) ht hx0 ho ⟨htk.tx,htk.act,.inr ⟨hb,.inr (.inl ⟨rfl,hal⟩)⟩,htk.read⟩ (htr.more (hle _)) rfl hob (hwo _ (hle _)) rfl (hce _) ?_ (by simp)
  simp[mTh,gTh,stage,hw,hb];split <;> omega
 |wrote a r s hw hb hx ha hk hs=>
  have hx0':=hx0
  rw[hx] at hx0'
  obtain rfl:=Option.some.inj hx0'
  clear hx0'
  have hal:=(List.getElem?_eq_some_iff.1 ha).1
  have hk4:a.kind≠4:=by rcases hk with h1|⟨h1,-⟩ <;> omega
  obtain⟨-,hc0,hc1,hv0,hv1⟩:=h.kinds hi hd htk ha hk4
  have hwr:=h.wo i r s hs
  refine h.turn (t':=wrTh t) (x':=.none) (o':=some (r,upd a.cell (wrVal t a) s)) (cs':=M.cs) (es:=[_]) ht hx0 ho ⟨htk.tx,by show t.act+1≤(P.acts i t.tx).length;omega,.inl rfl,htk.read⟩ (htr.more (hle _)) rfl (fun _=>by simp) (fun r' s' e=>?_) rfl (hce _) ?_ (by simp)
  ·simp only[Option.some.injEq,Prod.mk.injEq] at e
   obtain⟨rfl,rfl⟩:=e
   refine⟨hwr.rsrt,srt_upd hwr.ssrt,hwr.rin,fun p hp=>?_,fun p hp=>?_⟩
   ·rcases (mem_upd hwr.ssrt).1 hp with rfl|⟨hp,-⟩
    ·exact ⟨hc0,hc1⟩
    ·exact hwr.sin p hp
   ·rcases (mem_upd hwr.ssrt).1 hp with rfl|⟨hp,-⟩
    ·simp only[List.length_append,List.length_cons,List.length_nil]
     unfold inB VB at htr ⊢
     unfold wrVal
     split <;> omega
    ·exact (hwr.val p hp).more (hle _)
  ·simp [mTh,gTh,stage,hw,hb,wrTh];split <;> omega
 |kept a r s v hw hb hx ha hk hs hf=>
  have hx0':=hx0
  rw[hx] at hx0'
  obtain rfl:=Option.some.inj hx0'
  clear hx0'
  have hal:=(List.getElem?_eq_some_iff.1 ha).1
  have hwr:=h.wo i r s hs
  have hv:=hwr.val (a.cell,v) ((fnd_some hwr.ssrt).1 hf)
  rw[same]
  refine h.turn (t':=rdTh t a v) (x':=.none) (o':=o) (cs':=M.cs) (es:=[_]) ht hx0 ho ?_ ?_ ?_ (fun _=>hob hb) (hwo _ (hle _)) rfl (hce _) ?_ (by simp)
  ·unfold rdTh
   unfold inB VB at hv
   split
   ·exact ⟨htk.tx,htk.act,.inl rfl,by simp only at hv;show -1000000000≤v∧v≤1000000000;omega⟩
   ·exact ⟨htk.tx,by show t.act+1≤(P.acts i t.tx).length;omega,.inl rfl,htk.read⟩
  ·unfold rdTh
   split
   ·exact hv.more (hle _)
   ·exact htr.more (hle _)
  ·show (rdTh t a v).waits=0
   unfold rdTh
   split <;> rfl
  ·unfold rdTh
   rcases hk with h1|⟨h1,h2⟩
   ·rw [if_neg (by omega)]
    simp[mTh,gTh,stage,hw,hb];split <;> omega
   ·rw [if_pos h1]
    simp[mTh,gTh,stage,hw,hb,h2];omega
 |read a r s r' hw hb hx ha hk hs hf hr=>
  have hx0':=hx0
  rw[hx] at hx0'
  obtain rfl:=Option.some.inj hx0'
  clear hx0'
  have hal:=(List.getElem?_eq_some_iff.1 ha).1
  have hk4:a.kind≠4:=by rcases hk with h1|⟨h1,-⟩ <;> omega
  obtain⟨-,hc0,hc1,hv0,hv1⟩:=h.kinds hi hd htk ha hk4
  have hwr:=h.wo i r s hs
  have hv:inB M.W.evs.length (valAt M.cs a.cell):=by
   unfold valAt
   cases hc:M.cs[a.cell.toNat]? with
   |none=>simp[inB,VB];omega
   |some c=>exact(h.ce c (List.mem_of_getElem? hc)).1
  refine h.turn (t':=rdTh t a (valAt M.cs a.cell)) (x':=.none) (o':=some (r',s)) (cs':=M.cs) (es:=[_]) ht hx0 ho ?_ ?_ ?_ (fun _=>by simp) (fun r2 s2 e=>?_) rfl (hce _) ?_ (by simp)
  ·unfold rdTh
   unfold inB VB at hv
   split
   ·exact ⟨htk.tx,htk.act,.inl rfl,by show -1000000000≤valAt M.cs a.cell∧valAt M.cs a.cell≤1000000000;omega⟩
   ·exact ⟨htk.tx,by show t.act+1≤(P.acts i t.tx).length;omega,.inl rfl,htk.read⟩
  ·unfold rdTh
   split
   ·exact hv.more (hle _)
   ·exact htr.more (hle _)
  ·show (rdTh t a (valAt M.cs a.cell)).waits=0
   unfold rdTh
   split <;> rfl
  ·simp only[Option.some.injEq,Prod.mk.injEq] at e
   obtain⟨rfl,rfl⟩:=e
   rw[hr]
   split
   ·exact hwr.more (hle _)
   ·refine ⟨srt_upd hwr.rsrt,hwr.ssrt,fun p hp=>?_,hwr.sin,fun p hp=>(hwr.val p hp).more (hle _)⟩
    rcases(mem_upd hwr.rsrt).1 hp with rfl|⟨hp,-⟩
    ·exact ⟨hc0,hc1⟩
    ·exact hwr.rin p hp
  ·unfold rdTh
   rcases hk with h1|⟨h1,h2⟩
   ·rw [if_neg (by omega)]
    simp[mTh,gTh,stage,hw,hb];split <;> omega
   ·rw [if_pos h1]
    simp[mTh,gTh,stage,hw,hb,h2];omega
 |abort hw hb hne=>
  have hw0:t.waits≠0:=by omega
  rw[same]
  refine h.turn (t':=endTh t) (x':=.none) (o':=o) (cs':=M.cs) (es:=[_]) ht hx0 ho ⟨by show t.tx+1≤_;omega,Nat.zero_le _,.inl rfl,by simp[endTh,Th.zero]⟩ (by simp[inB,VB,endTh,Th.zero];omega) rfl (fun e=>by simp[endTh,Th.zero] at e) (hwo _ (hle _)) rfl (hce _) ?_ (by simp)
  have hst:stage .none≤stage x:=Nat.zero_le _
  simp only[stage] at hst
  simp[mTh,gTh,stage,hw0,hb,endTh,Th.zero];split <;> omega
 |looked r s hw hb hx hs hst=>
  have hx0':=hx0
  rw[hx] at hx0'
  obtain rfl:=Option.some.inj hx0'
  clear hx0'
  have hwr:=h.wo i r s hs
  have h1:=h.turn (t':=t) (x':=.ends false) (o':=o) (cs':=wrS s (fun _=>false) M.cs) (es:=[]) ht hx0 ho htk (htr.more (by simp)) hw hob (hwo _ (by simp)) (wrS_len _ _ _) (fun c' hc'=>?_) (by simp[mTh,stage]) (by simp)
  ·rw [List.append_nil,set_same ht,set_same ho] at h1
   exact h1
  ·obtain ⟨k,c,hc,rfl|⟨v,hv,rfl⟩⟩:=wrS_mem hc' hwr.ssrt
   ·exact hce [] _ (List.mem_of_getElem? hc)
   ·have:=(h.ce c (List.mem_of_getElem? hc)).2.1
    exact⟨(hwr.val _ hv).more (by simp),by show 0≤c.ver+1;omega,c,List.mem_of_getElem? hc,by show c.ver+1≤_;omega⟩
 |commit hw hb hx=>
  have hx0':=hx0
  rw[hx] at hx0'
  obtain rfl:=Option.some.inj hx0'
  clear hx0'
  rw[same]
  refine h.turn (t':=endTh t) (x':=.none) (o':=o) (cs':=M.cs) (es:=[_]) ht hx0 ho ⟨by show t.tx+1≤_;omega,Nat.zero_le _,.inl rfl,by simp[endTh,Th.zero]⟩ (by simp[inB,VB,endTh,Th.zero];omega) rfl (fun e=>by simp[endTh,Th.zero] at e) (hwo _ (hle _)) rfl (hce _) ?_ (by simp)
  simp[mTh,gTh,stage,hw,hb,endTh,Th.zero];split <;> omega
theorem stp_other {i j:Nat} {t:Th} (hs:Stp P M i t M') (hne:i≠j):M'.W.ths[j]?=M.W.ths[j]?:=by
 cases hs <;> first|rfl|exact List.getElem?_set_ne hne
theorem LInv.can (h:LInv P M):CanStep P M:=by
 have hT:tot P≤2380:=by unfold tot;have:=h.ok.threads.2;omega
 have hev:=h.ev
 refine⟨by omega,fun c hc=>?_,fun i x hx=>?_⟩
 ·obtain ⟨h1,h2,h3⟩:=h.ce c hc
  unfold inB VB at h1
  omega
 ·obtain ⟨t,ht⟩:∃t,M.W.ths[i]?=some t:=⟨_,List.getElem?_eq_getElem (by have:=(List.getElem?_eq_some_iff.1 hx).1;rw[h.nxl] at this;rw[h.thl];exact this)⟩
  obtain⟨o,ho⟩:∃o,M.ws[i]?=some o:=⟨_,List.getElem?_eq_getElem (by have:=(List.getElem?_eq_some_iff.1 hx).1;rw[h.nxl] at this;rw[h.wsl];exact this)⟩
  obtain⟨hn,hb⟩:=h.nx i t x o ht hx ho
  have htk:=(h.th i t ht).1
  have hi:i < P.threads.length:=by have:=(List.getElem?_eq_some_iff.1 hx).1;rwa [h.nxl] at this
  cases x with
  |none=>trivial
  |ends b=>trivial
  |look=>
   have hb:=hb (htk.begun (by have:t.waits=4:=hn;omega))
   cases o with
   |none=>exact absurd rfl hb
   |some p=>exact⟨p.1,p.2,ho,fun q hq=>((h.wo i _ _ ho).rin q hq).2,fun q hq=>((h.wo i _ _ ho).sin q hq).2⟩
  |ans e=>
   obtain⟨hw,a,ha,hk4,rfl⟩:=hn
   have hb:=hb (htk.begun (by omega))
   have hd:thDone P i t=false:=by
    cases hd:thDone P i t with
    |false=>rfl
    |true=>
     unfold thDone at hd
     have h1:t.tx=(P.txs i).length:=by simpa using hd
     have h2:P.acts i t.tx=[]:=by unfold Pg.acts;rw[h1,List.getD_eq_getElem?_getD,List.getElem?_eq_none (Nat.le_refl _)];rfl
     rw[h2] at ha
     simp at ha
   obtain⟨-,hc0,hc1,-⟩:=h.kinds hi hd htk ha hk4
   have hobj:(withTx (askOf t a) (idOf i t.tx)).obj=a.cell:=by
    show(askOf t a).obj=a.cell
    unfold askOf;split <;> (first|rfl|(split <;> rfl))
   cases o with
   |none=>exact absurd rfl hb
   |some p=>
    refine⟨p.1,p.2,a.cell.toNat,ho,by rw[hobj];omega,by omega,fun v hv=>?_⟩
    have:=(h.wo i _ _ ho).val _ ((fnd_some (h.wo i _ _ ho).ssrt).1 hv)
    unfold inB VB at this
    simp only at this
    omega
theorem step_inv (h:LInv P M) (i:Int):LInv P (stepTo P M i)∧mu (stepTo P M i)≤mu M∧(wDone P M.W i=false→mu (stepTo P M i) < mu M):=by
 unfold stepTo
 cases hd:wDone P M.W i with
 |true=>exact⟨h,Nat.le_refl _,fun h=>by cases h⟩
 |false=>
  obtain⟨k,rfl,hk⟩:=wDone_in h.thl hd
  obtain⟨t,ht⟩:∃t,M.W.ths[k]?=some t:=⟨_,List.getElem?_eq_getElem (by rw[h.thl];exact hk)⟩
  have h1:=stp_inv h hk ht (by rw[←wDone_th ht];exact hd) (stp_of h hk ht hd)
  exact⟨h1.1,Nat.le_of_lt h1.2,fun _=>h1.2⟩
theorem step_other (h:LInv P M) {i j:Nat} (hne:i≠j):(stepTo P M i).W.ths[j]?=M.W.ths[j]?:=by
 unfold stepTo
 cases hd:wDone P M.W i with
 |true=>rfl
 |false=>
  obtain⟨k,hk',hk⟩:=wDone_in h.thl hd
  obtain rfl:i=k:=by omega
  obtain⟨t,ht⟩:∃t,M.W.ths[i]?=some t:=⟨_,List.getElem?_eq_getElem (by rw[h.thl];exact hk)⟩
  exact stp_other (stp_of h hk ht hd) hne
theorem round_less (h:LInv P M) {j:Nat} (hj:wDone P M.W j=false):∀n,LInv P (stepsTo P M (upI n))∧mu (stepsTo P M (upI n))≤mu M∧(j < n→mu (stepsTo P M (upI n)) < mu M)∧(n≤j→(stepsTo P M (upI n)).W.ths[j]?=M.W.ths[j]?)
 |0=>⟨h,Nat.le_refl _,fun h=>absurd h (by omega),fun _=>rfl⟩
 |n+1=>by
  obtain⟨h1,h2,h3,h4⟩:=round_less h hj n
  rw[upI_succ,stepsTo_snoc]
  obtain⟨k1,k2,k3⟩:=step_inv h1 n
  refine⟨k1,by omega,fun hlt=>?_,fun hle=>?_⟩
  ·rcases Nat.lt_or_eq_of_le (Nat.lt_succ_iff.1 hlt) with hh|rfl
   ·have:=h3 hh;omega
   ·have h5:=h4 (Nat.le_refl _)
    have:wDone P (stepsTo P M (upI j)).W j=false:=by
     rw[←hj]
     unfold wDone
     simp only[Int.toNat_natCast,h5]
    have:=k3 this
    omega
  ·rw [step_other h1 (by omega)]
   exact h4 (by omega)
theorem start_inv (h:PgOk P):LInv P (startLM P):=by
 have hm:=mus_zero P.threads.length
 refine⟨h,by simp[startLM],by simp[startLM],by simp[startLM],by simp[startLM],fun i t ht=>?_,fun i t x o ht hx ho=>?_,fun i r s hr=>?_,fun c hc=>?_,?_⟩
 ·have:t=Th.zero:=List.eq_of_mem_replicate (List.mem_of_getElem? ht)
  rw[this]
  exact⟨ThOk.zero (Nat.zero_le _),by simp[inB,VB,Th.zero,startLM]⟩
 ·have e1:t=Th.zero:=List.eq_of_mem_replicate (List.mem_of_getElem? ht)
  have e2:x=.none:=List.eq_of_mem_replicate (List.mem_of_getElem? hx)
  rw[e1,e2]
  exact⟨rfl,fun h=>by cases h⟩
 ·have e1:some (r,s)=none:=List.eq_of_mem_replicate (List.mem_of_getElem? hr)
  cases e1
 ·obtain ⟨v,hv,rfl⟩:=List.mem_map.1 hc
  have:=h.cell v hv
  refine⟨by simp[inB,VB,startLM];omega,Int.le_refl _,?_⟩
  unfold mu tot
  show(0:Int)+((mus (List.replicate P.threads.length Th.zero) (List.replicate P.threads.length .none):Nat):Int)≤_
  omega
 ·unfold mu tot
  show 0+mus (List.replicate P.threads.length Th.zero) (List.replicate P.threads.length .none)≤_
  omega
theorem going (P:Pg):Going P:=fun hok=>⟨LInv P,mu,⟨fun M i hM=>(step_inv hM i).1,fun M hM=>hM.can,fun M hM hd=>by
 unfold allDone at hd
 rw[List.all_eq_false] at hd
 obtain⟨j,hj,hn⟩:=hd
 exact(round_less hM (by simpa using hn) P.threads.length).2.2.1 (List.mem_range.1 hj)⟩,start_inv hok⟩
end
