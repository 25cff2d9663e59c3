/- Parts of the proof; the first: The engine latch as plain lists: what holds goes on holding; all ends. Conditions: those of each theorem, as typed. -/
import Derived.Test.YtkfhgifhfkcehaaGreatDoorQO29
import Derived.Test.YtkfhgifhfkcehaaGreatDoorQO27
import Derived.Test.YtkfhgifhfkcehaaGreatDoorQO26
set_option linter.unusedVariables false
set_option linter.unusedSimpArgs false
set_option linter.unusedSectionVars false
set_option maxRecDepth 100000
set_option maxHeartbeats 4000000
namespace Go.Proofs.YtkfhgifhfkcehaaGreatDoor
open Go.Maps Go.RowKit
section
variable {P:Pg} {M M':LM}
theorem offCs_mem {r:MB} {s:MI} {cs:List Ce} {c':Ce} (h:c' ∈ offCs r s cs) (hs:KSrt s):∃(k:Nat) (c:Ce),cs[k]?=some c/\(c'.val=c.val\/((k:Int),c'.val) ∈ s):=by
 obtain⟨k,hk,e⟩:=List.mem_iff_getElem.1 h;have h1:(offCs r s cs)[k]?=some c':=by rw[←e];exact List.getElem?_eq_getElem hk
 unfold offCs at h1;rw[goS_get,bkS_get] at h1;cases hc:cs[k]? with
 |none=>rw[hc] at h1;cases h1
 |some c=>
  rw[hc] at h1;refine⟨k,c,hc,?_⟩;cases hf:yz (k:Int) s with
  |none=>
   rw[hf] at h1;cases hg:yz (k:Int) r with
   |none=>rw[hg] at h1;simp at h1;exact .inl (by rw[←h1])
   |some v=>rw[hg] at h1;simp at h1;exact .inl (by rw[←h1])
  |some v=>
   rw[hf] at h1;have hm:=(xQ hs).1 hf;cases hg:yz (k:Int) r with
   |none=>rw[hg] at h1;simp at h1;exact .inr (by rw[←h1];exact hm)
   |some _=>rw[hg] at h1;simp at h1;exact .inr (by rw[←h1];exact hm)
theorem stp_inv (h:LInv P M) {i:Nat} (hi:i < P.threads.length) {t:Th} (ht:M.W.ths[i]?=some t) (hd:qP P i t=false) (hs:Stp P M i t M'):LInv P M'/\mu M' < mu M:=by
 obtain⟨htk,htr⟩:=h.th i t ht;obtain⟨x,hx0⟩:∃x,M.nx[i]?=some x:=⟨_,List.getElem?_eq_getElem (by rw[h.nxl];exact hi)⟩
 obtain⟨o,ho⟩:∃o,M.ws[i]?=some o:=⟨_,List.getElem?_eq_getElem (by rw[h.wsl];exact hi)⟩
 obtain⟨hnx,hob⟩:=h.nx i t x o ht hx0 ho;have htx:=yX h.ok hi htk hd;have ht3:=Pg.tx3 h.ok hi;have ha6:=acts_le h.ok hi t.tx;have hact:=htk.act;have hwo:∀k',M.W.evs.length<=k'->∀r s,o=some (r,s)->WoOk P k' r s:=fun k' hk' r s e=>(h.wo i r s (by rw[ho,e])).more hk';have hT:tot P<=4748:=by unfold tot;have:=h.ok.threads.2;omega
 have hev:=h.ev;have hce:∀(es:List Ev),∀c' ∈ M.cs,inB (M.W.evs++es).length c'.val:=fun es c hc=>(h.ce c hc).more (by simp);have hset:∀(es:List Ev) (k:Nat) (v o':Int),inB (M.W.evs++es).length v->∀c' ∈ M.cs.set k ⟨v,o'⟩,inB (M.W.evs++es).length c'.val:=fun es k v o' hv c' hc=>by
  rcases List.mem_or_eq_of_mem_set hc with hc|rfl
  ·exact hce es c' hc
  ·exact hv
 have hoff:∀(es:List Ev) (r:MB) (s:MI),M.ws[i]?=some (some (r,s))->∀c' ∈ offCs r s M.cs,inB (M.W.evs++es).length c'.val:=fun es r s hs c' hc=>by
  have hwr:=h.wo i r s hs;obtain⟨k,c,hk,e|hm⟩:=offCs_mem hc hwr.ssrt
  ·rw [e];exact hce es c (List.mem_of_getElem? hk)
  ·exact (hwr.val _ hm).more (by simp)
 have hle:∀e:Ev,M.W.evs.length<=(M.W.evs++[e]).length:=fun e=>by simp
 have same:M.ws=M.ws.set i o:=(set_same ho).symm;cases hs with
 |begin hw hb hx=>
  have hx0':=hx0;rw[hx] at hx0';obtain rfl:=Option.some.inj hx0';clear hx0';refine h.turn (t':={t with begun:=true}) (x':=.none) (o':=some ([],[])) (cs':=M.cs) (es:=[_]) ht hx0 ho ⟨htk.tx,htk.act,.inl hw,htk.read⟩ (htr.more (hle _)) hw (fun _=>by simp) (fun r s e=>?_) rfl (hce _) ?_ (by simp)
  ·simp only[Option.some.injEq,Prod.mk.injEq] at e
   obtain⟨rfl,rfl⟩:=e;exact⟨List.Pairwise.nil,List.Pairwise.nil,by simp,by simp,by simp⟩
  ·simp [mTh,gTh,stage,hw,hb];split <;> omega
 |call a hw hb hx ha hk=>
  have hx0':=hx0;rw[hx] at hx0';obtain rfl:=Option.some.inj hx0';clear hx0';rw[same];refine h.turn (t':={t with waits:=2}) (x':=.ans _) (o':=o) (cs':=M.cs) (es:=[_]) ht hx0 ho ⟨htk.tx,htk.act,.inr ⟨hb,.inl ⟨rfl,a,ha,hk⟩⟩,htk.read⟩ (htr.more (hle _)) ⟨rfl,a,ha,hk,rfl⟩ hob (hwo _ (hle _)) rfl (hce _) ?_ (by simp);simp[mTh,gTh,stage,hw,hb];split <;> omega
 |cancel a hw hb hx ha hk=>
  have hx0':=hx0;rw[hx] at hx0';obtain rfl:=Option.some.inj hx0';clear hx0';rw[same];refine h.turn (t':={t with waits:=7}) (x':=.abort) (o':=o) (cs':=M.cs) (es:=[_]) ht hx0 ho ⟨htk.tx,htk.act,.inr ⟨hb,.inr (.inr ⟨rfl,a,ha,hk⟩)⟩,htk.read⟩ (htr.more (hle _)) rfl hob (hwo _ (hle _)) rfl (hce _) ?_ (by simp);simp[mTh,gTh,stage,hw,hb];split <;> omega
 |try_ r s hw hb hx ha hs=>
  have hx0':=hx0;rw[hx] at hx0';obtain rfl:=Option.some.inj hx0';clear hx0';rw[same];have hwr:=h.wo i r s hs;have hal:t.act=(P.acts i t.tx).length:=by have:=List.getElem?_eq_none_iff.1 ha;omega
  have hcl:P.cells.length<=4:=h.ok.cells.2;have hrl:r.length<=4:=by
   have:=ksrt_len r 0 4 hwr.rsrt fun p hp=>⟨(hwr.rin p hp).1,by have:=(hwr.rin p hp).2;omega⟩
   omega
  refine h.turn (t':={t with waits:=4}) (x':=.rel (r.map (·.1))) (o':=o) (cs':=M.cs) (es:=[_]) ht hx0 ho ⟨htk.tx,htk.act,.inr ⟨hb,.inr (.inl ⟨rfl,hal⟩)⟩,htk.read⟩ (htr.more (hle _)) ⟨rfl,by rw[List.length_map];exact hrl,fun k hk=>?_⟩ hob (hwo _ (hle _)) rfl (hce _) ?_ (by simp)
  ·obtain ⟨p,hp,rfl⟩:=List.mem_map.1 hk
   exact hwr.rin p hp
  ·simp [mTh,gTh,stage,hw,hb];split <;> omega
 |wrote a r s hw hb hx ha hk hs htn=>
  have hx0':=hx0;rw[hx] at hx0';obtain rfl:=Option.some.inj hx0';clear hx0';have hal:=(List.getElem?_eq_some_iff.1 ha).1;have hk4:a.kind≠4:=by rcases hk with h1|⟨h1,-⟩ <;> omega
  obtain⟨-,hc0,hc1,hv0,hv1⟩:=h.kinds hi hd htk ha hk4;have hwr:=h.wo i r s hs;have hcv:=h.ceVal a.cell;refine h.turn (t':=wrTh t) (x':=.none) (o':=some (upd a.cell () r,if (yz a.cell s).isSome then s else upd a.cell (ceAt M.cs a.cell).val s)) (cs':=M.cs.set a.cell.toNat ⟨wrVal t a,qE i t.tx⟩) (es:=[_]) ht hx0 ho ⟨htk.tx,by show t.act+1<=(P.acts i t.tx).length;omega,.inl rfl,htk.read⟩ (htr.more (hle _)) rfl (fun _=>by simp) (fun r' s' e=>?_) (by simp) (hset _ _ _ _ ?_) ?_ (by simp)
  ·simp only[Option.some.injEq,Prod.mk.injEq] at e
   obtain⟨rfl,rfl⟩:=e;refine⟨yQ hwr.rsrt,?_,fun p hp=>?_,fun p hp=>?_,fun p hp=>?_⟩
   ·split
    ·exact hwr.ssrt
    ·exact yQ hwr.ssrt
   ·rcases (mem_upd hwr.rsrt).1 hp with rfl|⟨hp,-⟩
    ·exact ⟨hc0,hc1⟩
    ·exact hwr.rin p hp
   ·split at hp
    ·exact hwr.sin p hp
    ·rcases (mem_upd hwr.ssrt).1 hp with rfl|⟨hp,-⟩
     ·exact ⟨hc0,hc1⟩
     ·exact hwr.sin p hp
   ·split at hp
    ·exact (hwr.val p hp).more (hle _)
    ·rcases (mem_upd hwr.ssrt).1 hp with rfl|⟨hp,-⟩
     ·exact hcv.more (hle _)
     ·exact (hwr.val p hp).more (hle _)
  ·simp only[List.length_append,List.length_cons,List.length_nil]
   unfold inB VB at htr ⊢;unfold wrVal
   split <;> omega
  ·simp [mTh,gTh,stage,hw,hb,wrTh];split <;> omega
 |read a r s hw hb hx ha hk hs htn=>
  have hx0':=hx0;rw[hx] at hx0';obtain rfl:=Option.some.inj hx0';clear hx0';have hal:=(List.getElem?_eq_some_iff.1 ha).1;have hk4:a.kind≠4:=by rcases hk with h1|⟨h1,-⟩ <;> omega
  obtain⟨-,hc0,hc1,hv0,hv1⟩:=h.kinds hi hd htk ha hk4;have hwr:=h.wo i r s hs;have hv:=h.ceVal a.cell;refine h.turn (t':=rdTh t a (ceAt M.cs a.cell).val) (x':=.none) (o':=some (upd a.cell () r,s)) (cs':=M.cs.set a.cell.toNat ⟨(ceAt M.cs a.cell).val,qE i t.tx⟩) (es:=[_]) ht hx0 ho ?_ ?_ ?_ (fun _=>by simp) (fun r2 s2 e=>?_) (by simp) (hset _ _ _ _ (hv.more (hle _))) ?_ (by simp)
  ·unfold rdTh
   unfold inB VB at hv
   split
   ·exact ⟨htk.tx,htk.act,.inl rfl,by show -1000000000<=(ceAt M.cs a.cell).val/\(ceAt M.cs a.cell).val<=1000000000;omega⟩
   ·exact ⟨htk.tx,by show t.act+1<=(P.acts i t.tx).length;omega,.inl rfl,htk.read⟩
  ·unfold rdTh
   split
   ·exact hv.more (hle _)
   ·exact htr.more (hle _)
  ·show (rdTh t a (ceAt M.cs a.cell).val).waits=0
   unfold rdTh
   split <;> rfl
  ·simp only[Option.some.injEq,Prod.mk.injEq] at e
   obtain⟨rfl,rfl⟩:=e;refine⟨yQ hwr.rsrt,hwr.ssrt,fun p hp=>?_,hwr.sin,fun p hp=>(hwr.val p hp).more (hle _)⟩;rcases(mem_upd hwr.rsrt).1 hp with rfl|⟨hp,-⟩
   ·exact ⟨hc0,hc1⟩
   ·exact hwr.rin p hp
  ·unfold rdTh
   rcases hk with h1|⟨h1,h2⟩
   ·rw [if_neg (by omega)]
    simp[mTh,gTh,stage,hw,hb];split <;> omega
   ·rw [if_pos h1]
    simp[mTh,gTh,stage,hw,hb,h2];omega
 |refused a r s hw hb hx ha hk hs htn=>
  have hw0:t.waits≠0:=by omega
  rw[same];refine h.turn (t':=xM t) (x':=.none) (o':=o) (cs':=offCs r s M.cs) (es:=[_]) ht hx0 ho ⟨by show t.tx+1<=_;omega,Nat.zero_le _,.inl rfl,by simp[xM,Th.zero]⟩ (by simp[inB,VB,xM,Th.zero];omega) rfl (fun e=>by simp[xM,Th.zero] at e) (hwo _ (hle _)) (offCs_len _ _ _) (hoff _ r s hs) ?_ (by simp);simp[mTh,gTh,stage,hw0,hb,xM,Th.zero];split <;> omega
 |abort r s hw hb hx hs=>
  have hw0:t.waits≠0:=by omega
  rw[same];refine h.turn (t':=xM t) (x':=.none) (o':=o) (cs':=offCs r s M.cs) (es:=[_]) ht hx0 ho ⟨by show t.tx+1<=_;omega,Nat.zero_le _,.inl rfl,by simp[xM,Th.zero]⟩ (by simp[inB,VB,xM,Th.zero];omega) rfl (fun e=>by simp[xM,Th.zero] at e) (hwo _ (hle _)) (offCs_len _ _ _) (hoff _ r s hs) ?_ (by simp);simp[mTh,gTh,stage,hw0,hb,xM,Th.zero];split <;> omega
 |let_ k l hw hb hx=>
  have hx0':=hx0;rw[hx] at hx0';obtain rfl:=Option.some.inj hx0';clear hx0';obtain⟨h0,hl,hk⟩:t.waits=4/\(k::l).length<=4/\∀z ∈ k::l,0<=z/\z < P.cells.length:=hnx;have h1:=h.turn (t':=t) (x':=.rel l) (o':=o) (cs':=M.cs.set k.toNat ⟨(ceAt M.cs k).val,0⟩) (es:=[]) ht hx0 ho htk (htr.more (by simp)) ⟨hw,by simp only[List.length_cons] at hl;omega,fun z hz=>hk z (List.mem_cons_of_mem _ hz)⟩ hob (hwo _ (by simp)) (by simp) (hset [] _ _ _ ((h.ceVal k).more (by simp))) (by simp[mTh,stage]) (by simp);rw[List.append_nil,set_same ht,set_same ho] at h1;exact h1
 |commit hw hb hx=>
  have hx0':=hx0;rw[hx] at hx0';obtain rfl:=Option.some.inj hx0';clear hx0';rw[same];refine h.turn (t':=xM t) (x':=.none) (o':=o) (cs':=M.cs) (es:=[_]) ht hx0 ho ⟨by show t.tx+1<=_;omega,Nat.zero_le _,.inl rfl,by simp[xM,Th.zero]⟩ (by simp[inB,VB,xM,Th.zero];omega) rfl (fun e=>by simp[xM,Th.zero] at e) (hwo _ (hle _)) rfl (hce _) ?_ (by simp);simp[mTh,gTh,stage,hw,hb,xM,Th.zero];split <;> omega
theorem stp_other {i j:Nat} {t:Th} (hs:Stp P M i t M') (hne:i≠j):M'.W.ths[j]?=M.W.ths[j]?:=by
 cases hs <;> first|rfl|exact List.getElem?_set_ne hne
theorem LInv.can (h:LInv P M):CanStep P M:=by
 have hT:tot P<=4748:=by unfold tot;have:=h.ok.threads.2;omega
 have hev:=h.ev;refine⟨by omega,fun c hc=>?_,fun i t x ht hx=>?_⟩
 ·have h1:=h.ce c hc
  unfold inB VB at h1;omega
 ·obtain ⟨o,ho⟩:∃o,M.ws[i]?=some o:=⟨_,List.getElem?_eq_getElem (by have:=(List.getElem?_eq_some_iff.1 hx).1;rw[h.nxl] at this;rw[h.wsl];exact this)⟩
  obtain⟨hn,hb⟩:=h.nx i t x o ht hx ho;have htk:=(h.th i t ht).1;have hi:i < P.threads.length:=by have:=(List.getElem?_eq_some_iff.1 hx).1;rwa [h.nxl] at this
  have wok:∀r s,M.ws[i]?=some (some (r,s))->WoCan P r s:=fun r s hs=>by
   have hwr:=h.wo i r s hs;refine⟨fun q hq=>(hwr.rin q hq).2,fun q hq=>⟨(hwr.sin q hq).2,?_⟩⟩;have:=hwr.val q hq;unfold inB VB at this;omega
  cases x with
  |none=>
   intro hbg;cases o with
   |none=>exact absurd rfl (hb hbg)
   |some p=>exact⟨p.1,p.2,ho⟩
  |abort=>
   have hb:=hb (htk.begun (by have:t.waits=7:=hn;omega));cases o with
   |none=>exact absurd rfl hb
   |some p=>exact⟨p.1,p.2,ho,wok _ _ ho⟩
  |rel l=>exact⟨hn.2.1,hn.2.2⟩
  |ans e=>
   obtain⟨hw,a,ha,hk4,rfl⟩:=hn;have hb:=hb (htk.begun (by omega));have hd:qP P i t=false:=by
    cases hd:qP P i t with
    |false=>rfl
    |true=>
     unfold qP at hd;have h1:t.tx=(P.txs i).length:=by simpa using hd
     have h2:P.acts i t.tx=[]:=by unfold Pg.acts;rw[h1,List.getD_eq_getElem?_getD,List.getElem?_eq_none (Nat.le_refl _)];rfl
     rw[h2] at ha;simp at ha
   obtain⟨-,hc0,hc1,hv0,hv1⟩:=h.kinds hi hd htk ha hk4;have htr:=(h.th i t ht).2;have hobj:(qC (qU t a) (qE i t.tx)).obj=a.cell:=by
    show(qU t a).obj=a.cell;unfold qU;split <;> (first|rfl|(split <;> rfl))
   cases o with
   |none=>exact absurd rfl hb
   |some p=>
    refine⟨p.1,p.2,a.cell.toNat,ho,by rw[hobj];omega,by omega,wok _ _ ho,?_,htk.begun (by omega)⟩;show -999999000<=(qU t a).val/\(qU t a).val<=999999000;unfold inB VB at htr;unfold qU
    split
    ·simp only;omega
    ·split
     ·simp only;omega
     ·simp
theorem step_inv (h:LInv P M) (i:Int):LInv P (yk P M i)/\mu (yk P M i)<=mu M/\(xW P M.W i=false->mu (yk P M i) < mu M):=by
 unfold yk;cases hd:xW P M.W i with
 |true=>exact⟨h,Nat.le_refl _,fun h=>by cases h⟩
 |false=>
  obtain⟨k,rfl,hk⟩:=wDone_in h.thl hd;obtain⟨t,ht⟩:∃t,M.W.ths[k]?=some t:=⟨_,List.getElem?_eq_getElem (by rw[h.thl];exact hk)⟩
  have h1:=stp_inv h hk ht (by rw[←wDone_th ht];exact hd) (stp_of h hk ht hd);exact⟨h1.1,Nat.le_of_lt h1.2,fun _=>h1.2⟩
theorem step_other (h:LInv P M) {i j:Nat} (hne:i≠j):(yk P M i).W.ths[j]?=M.W.ths[j]?:=by
 unfold yk;cases hd:xW P M.W i with
 |true=>rfl
 |false=>
  obtain⟨k,hk',hk⟩:=wDone_in h.thl hd;obtain rfl:i=k:=by omega
  obtain⟨t,ht⟩:∃t,M.W.ths[i]?=some t:=⟨_,List.getElem?_eq_getElem (by rw[h.thl];exact hk)⟩
  exact stp_other (stp_of h hk ht hd) hne
theorem round_less (h:LInv P M) {j:Nat} (hj:xW P M.W j=false):∀n,LInv P (qR P M (upI n))/\mu (qR P M (upI n))<=mu M/\(j < n->mu (qR P M (upI n)) < mu M)/\(n<=j->(qR P M (upI n)).W.ths[j]?=M.W.ths[j]?)
 |0=>⟨h,Nat.le_refl _,fun h=>absurd h (by omega),fun _=>rfl⟩
 |n+1=>by
  obtain⟨h1,h2,h3,h4⟩:=round_less h hj n;rw[upI_succ,stepsTo_snoc];obtain⟨k1,k2,k3⟩:=step_inv h1 n;refine⟨k1,by omega,fun hlt=>?_,fun hle=>?_⟩
  ·rcases Nat.lt_or_eq_of_le (Nat.lt_succ_iff.1 hlt) with hh|rfl
   ·have:=h3 hh;omega
   ·have h5:=h4 (Nat.le_refl _)
    have:xW P (qR P M (upI j)).W j=false:=by
     rw[←hj];unfold xW;simp only[Int.toNat_natCast,h5]
    have:=k3 this;omega
  ·rw [step_other h1 (by omega)]
   exact h4 (by omega)
theorem start_inv (h:PgOk P):LInv P (xm P):=by
 have hm:=mus_zero P.threads.length;refine⟨h,by simp[xm],by simp[xm],by simp[xm],by simp[xm],fun i t ht=>?_,fun i t x o ht hx ho=>?_,fun i r s hr=>?_,fun c hc=>?_,?_⟩
 ·have:t=Th.zero:=List.eq_of_mem_replicate (List.mem_of_getElem? ht)
  rw[this];exact⟨ThOk.zero (Nat.zero_le _),by simp[inB,VB,Th.zero,xm]⟩
 ·have e1:t=Th.zero:=List.eq_of_mem_replicate (List.mem_of_getElem? ht)
  have e2:x=.none:=List.eq_of_mem_replicate (List.mem_of_getElem? hx);rw[e1,e2];exact⟨rfl,fun h=>by cases h⟩
 ·have e1:some (r,s)=none:=List.eq_of_mem_replicate (List.mem_of_getElem? hr)
  cases e1
 ·obtain ⟨v,hv,rfl⟩:=List.mem_map.1 hc
  have:=h.cell v hv;simp[inB,VB,xm];omega
 ·unfold mu tot
  show 0+mus (List.replicate P.threads.length Th.zero) (List.replicate P.threads.length .none)<=_;omega
theorem going (P:Pg):Going P:=fun hok=>⟨LInv P,mu,⟨fun M i hM=>(step_inv hM i).1,fun M hM=>hM.can,fun M hM hd=>by
 unfold za at hd;rw[List.all_eq_false] at hd;obtain⟨j,hj,hn⟩:=hd;exact(round_less hM (by simpa using hn) P.threads.length).2.2.1 (List.mem_range.1 hj)⟩,start_inv hok⟩
end
section
variable {P:Pg} {M M':LM} {A:Au}
theorem LInv.readB (h:LInv P M) {i:Nat} {t:Th} (ht:M.W.ths[i]?=some t):-900000000<=t.read/\t.read<=900000000:=by
 have hT:tot P<=4748:=by unfold tot;have:=h.ok.threads.2;omega
 have hev:=h.ev;have:=(h.th i t ht).2;unfold inB VB at this;omega
theorem LInv.ceB (h:LInv P M) (k:Int):-900000000<=(ceAt M.cs k).val/\(ceAt M.cs k).val<=900000000:=by
 have hT:tot P<=4748:=by unfold tot;have:=h.ok.threads.2;omega
 have hev:=h.ev;have:=h.ceVal k;unfold inB VB at this;omega
theorem stp_wk (h:LInv P M) {i:Nat} {t:Th} (ht:M.W.ths[i]?=some t) (hs:Stp P M i t M'):Wk1 P M.W i t M'.W:=by
 cases hs with
 |begin hw hb hx=>exact .begin hw hb
 |call a hw hb hx ha hk=>exact .call a hw hb ha hk
 |cancel a hw hb hx ha hk=>exact .cancel a hw hb ha hk
 |try_ r s hw hb hx ha hs=>exact .try_ hw hb ha
 |wrote a r s hw hb hx ha hk hs htn=>exact .wrote a hw hb ha hk
 |read a r s hw hb hx ha hk hs htn=>exact .read a _ hw hb ha hk (by have:=h.ceB a.cell;omega)
 |refused a r s hw hb hx ha hk hs htn=>exact .abort (.inl hw) hb
 |abort r s hw hb hx hs=>exact .abort (.inr (.inr hw)) hb
 |let_ k l hw hb hx=>exact .same
 |commit hw hb hx=>exact .commit hw hb
structure Lall (P:Pg) (M:LM) (A:Au):Prop where
 li:LInv P M
 bi:BInv P M.W
 ji:yW P M.W A
theorem Lall.start (h:PgOk P):Lall P (xm P) []:=⟨start_inv h,bzero P,jzero P⟩
theorem Lall.evs (h:Lall P M A):M.W.evs.length<=400:=jevs h.ji h.li.ok h.li.thl fun i t ht=>(h.li.th i t ht).1
end
section
attribute [local irreducible] xF
theorem ex20_valid:xS yE:=by
 refine⟨by decide,fun k c hc=>?_,fun i t ht=>?_,fun i t ht k l hl=>?_,fun i t ht k l hl j a ha=>?_⟩
 ·rcases k with _|_|k <;> simp[yE] at hc <;> omega
 ·rcases i with _|_|i <;> simp[yE] at ht <;> subst ht <;> decide
 ·rcases i with _|_|i <;> simp[yE] at ht <;> subst ht <;> (rcases k with _|k <;> simp at hl;subst hl;decide)
 ·rcases i with _|_|i <;> simp[yE] at ht <;> subst ht <;> (rcases k with _|k <;> simp at hl;subst hl;rcases j with _|_|j <;> simp at ha <;> subst ha <;> decide)
theorem ex20_1:(qR yE (xm yE) [0,0,0,1,1,1]).W.evs.length=6:=by decide
theorem ex20_2:(qR yE (xm yE) [0,0,0,1,1,1]).W.evs[5]?.map (fun e=>(e.kind,e.tx))=some (6,4):=by decide
theorem ex20_3:(qR yE (xm yE) [1,1,1,0,0,0]).W.evs.length=6:=by decide
theorem ex20_4:(qR yE (xm yE) [1,1,1,0,0,0]).W.evs[5]?.map (·.tx)=some 1:=by decide
def ExRun (w:World) (E:List Ev) (e:Ending) (w':World):Prop:=∃ov vv,e=.returned (.tuple #[.agg #[ov,vv],.nilIface])/\(∃a n c,ov=.slice a n c)/\qp Ev.cells 53 8 w' w.heap.size vv E/\Below w.heap.size w w'
theorem ex20_run (w:World) (hG:GlobP w) (vc vt:Value) (h:PgIs w w.heap.size vc vt yE) (sv:Value) (l:List Int) (hs:Sl w w.heap.size 1 sv l.length (l.map (.int .i64))) (hl:l.length<=300) (E:List Ev) (hE:(qR yE (xm yE) l).W.evs=E):
  Calls Tryz.prog 26 #[.agg #[vc,vt],sv] w (ExRun w E):=by
 obtain⟨h1,t,v,h2⟩:=hG;refine(la_Run vc vt yE w h (.iface t v) h2 ⟨_,_,rfl⟩ (by omega) (by decide) sv l hs hl (going _)).mono ?_;rintro e w' ⟨hv,hb⟩;rcases hv with⟨hno,-⟩|⟨-,M',ov,vv,rfl,hro,ho,hv⟩
 ·exact absurd ex20_valid hno
 ·have:M'=qR yE (xm yE) l:=by simpa[RunOf] using hro
  subst this;rw[hE] at hv;obtain⟨a,c,e1⟩:=qp.slv ho;exact⟨ov,vv,rfl,⟨_,_,_,e1⟩,hv,hb⟩
theorem l_first20 (w:World) (hG:GlobP w):Calls Tryz.prog 7 #[] w fun e w'=>e=.returned (.bool true)/\Below w.heap.size w w':=by
 have HG:=qh hG;have e1:=ex20_1;have e2:=ex20_2;have e3:=ex20_3;have e4:=ex20_4;obtain⟨E1,hE1⟩:∃E,(qR yE (xm yE) [0,0,0,1,1,1]).W.evs=E:=⟨_,rfl⟩
 obtain⟨E2,hE2⟩:∃E,(qR yE (xm yE) [1,1,1,0,0,0]).W.evs=E:=⟨_,rfl⟩
 rw[hE1] at e1 e2;rw[hE2] at e3 e4;have X1:=qh (And.intro hE1 (And.intro e1 e2));have X2:=qh (And.intro hE2 (And.intro e3 e4));clear hG e1 e2 e3 e4 hE1 hE2;go_enter Tryz.func7,Tryz.ntmps7;go_wp2_with fail;refine(l_ex20 _).mono ?_;rintro e W1 ⟨vc,vt,rfl,hp,b1⟩;obtain⟨ac,cc,rfl,-⟩:=hp.cells.ex;obtain⟨at',ct,rfl,-⟩:=hp.thr.ex;have ba:Below W1.heap.size W1 (W1.alloc (.cells #[.int .i64 0,.int .i64 0,.int .i64 0,.int .i64 1,.int .i64 1,.int .i64 1] 3)):=(Below.refl _ W1).alloc (Nat.le_refl _) _;have rs:=qu W1 (.cells #[.int .i64 0,.int .i64 0,.int .i64 0,.int .i64 1,.int .i64 1,.int .i64 1] 3);have hr:=qh (ex20_run _ ((HG.o.below b1).below ba) _ _ ((hp.below ba).more ba.size) (.slice (some ⟨W1.heap.size,0,none⟩) 6 6) [0,0,0,1,1,1] (sl_row rs (by decide) rfl) (by decide) E1 X1.o.1);have B1:=qh (b1.trans (ba.mono b1.size));clear hp b1 ba rs;go_wp2_with fail;refine(hr.o).mono ?_;rintro e W2 ⟨ov,vv,rfl,⟨oa,on,oc,rfl⟩,hv,b2⟩;obtain⟨ae,ce,rfl⟩:=qp.slv hv;obtain⟨-,e1,e2⟩:=X1.o;have HV:=qh hv;have B2:=qh (B1.o.trans (b2.mono B1.o.size));have HG2:=qh (HG.o.below (B1.o.trans (b2.mono B1.o.size)));have r2:=qu W2 (.cells #[.slice oa on oc,.slice ae E1.length ce] 37);have b3:Below W2.heap.size W2 (W2.alloc (.cells #[.slice oa on oc,.slice ae E1.length ce] 37)):=(Below.refl _ W2).alloc (Nat.le_refl _) _;have X1':=qh (And.intro e1 e2);have R2:=qh r2;have B3:=qh b3;clear hv b2 hr e1 e2 r2 b3;go_wp2_with fail;generalize W2.alloc (.cells #[.slice oa on oc,.slice ae E1.length ce] 37)=W3 at *;refine(l_ex20 _).mono ?_;rintro e W4 ⟨vc2,vt2,rfl,hp,b4⟩;obtain⟨ac2,cc2,rfl,-⟩:=hp.cells.ex;obtain⟨at2,ct2,rfl,-⟩:=hp.thr.ex;have ba:Below W4.heap.size W4 (W4.alloc (.cells #[.int .i64 1,.int .i64 1,.int .i64 1,.int .i64 0,.int .i64 0,.int .i64 0] 3)):=(Below.refl _ W4).alloc (Nat.le_refl _) _;have rs:=qu W4 (.cells #[.int .i64 1,.int .i64 1,.int .i64 1,.int .i64 0,.int .i64 0,.int .i64 0] 3);have hr:=qh (ex20_run _ (((HG2.o.below B3.o).below b4).below ba) _ _ ((hp.below ba).more ba.size) (.slice (some ⟨W4.heap.size,0,none⟩) 6 6) [1,1,1,0,0,0] (sl_row rs (by decide) rfl) (by decide) E2 X2.o.1);have B4:=qh (B3.o.trans ((b4.trans (ba.mono b4.size)).mono B3.o.size));have B34:=qh (b4.trans (ba.mono b4.size));clear hp b4 ba rs;go_wp2_with fail;refine(hr.o).mono ?_;rintro e W5 ⟨ov2,vv2,rfl,⟨oa2,on2,oc2,rfl⟩,hv,b5⟩;obtain⟨ae2,ce2,rfl⟩:=qp.slv hv;obtain⟨-,e3,e4⟩:=X2.o;obtain⟨e1,e2⟩:=X1'.o;have b25:=B4.o.trans (b5.mono B4.o.size);have b35:Below W3.heap.size W3 W5:=by
  refine Below.trans ?_ (b5.mono ?_)
  ·exact B34.o
  ·exact B34.o.size
 have r5:=qj R2.o b35 (qg R2.o);have hv1:=qp.below HV.o b25;obtain⟨g1,k1,hg1,-⟩:∃g k,ae=some ⟨g,0,none⟩/\ce=k:=by
  rcases qp.form hv1 with⟨h,h2⟩|⟨g,k,h,-⟩
  ·rw [h2] at e1;cases e1
  ·simp only[Value.slice.injEq] at h;exact⟨g,k,h.1,h.2.2⟩
 obtain⟨g2,k2,hg2,-⟩:∃g k,ae2=some ⟨g,0,none⟩/\ce2=k:=by
  rcases qp.form hv with⟨h,h2⟩|⟨g,k,h,-⟩
  ·rw [h2] at e3;cases e3
  ·simp only[Value.slice.injEq] at h;exact⟨g,k,h.1,h.2.2⟩
 subst hg1 hg2;obtain⟨b',o',x,h1,-,hx,hc⟩:=(qp.sl hv1).atF Ev.len rfl (k:=5) (by omega);simp only[Option.some.injEq,Addr.mk.injEq] at h1;obtain⟨rfl,rfl,-⟩:=h1;rw[hx] at e2;have c1:W5.cell? ⟨g1,40,none⟩=some (.int .i64 6):=by
  have:=hc 0 (by decide);simp only[Option.map_some,Option.some.injEq,Prod.mk.injEq] at e2;simpa[Ev.cells,e2] using this
 have c3:W5.cell? ⟨g1,41,none⟩=some (.int .i64 4):=by
  have:=hc 1 (by decide);simp only[Option.map_some,Option.some.injEq,Prod.mk.injEq] at e2;simpa[Ev.cells,e2] using this
 obtain⟨b',o',x',h1,-,hx',hc'⟩:=(qp.sl hv).atF Ev.len rfl (k:=5) (by omega);simp only[Option.some.injEq,Addr.mk.injEq] at h1;obtain⟨rfl,rfl,-⟩:=h1;rw[hx'] at e4;have c2:W5.cell? ⟨g2,41,none⟩=some (.int .i64 1):=by
  have:=hc' 1 (by decide);simp only[Option.map_some,Option.some.injEq] at e4;simpa[Ev.cells,e4] using this
 have l1:=(qp.lt hv1 g1 rfl).2;have l2:=(qp.lt hv g2 rfl).2;have l5:=qg r5;rw[e1] at r5;have y0:=qd r5 0;have y1:=qd r5 1;simp at y0 y1;rw[e3];have HB:=qh ((B2.o).trans (b25.mono B2.o.size));clear hx hc hx' hc' e2 e4 hv hv1 b25 b35 r5 hr b5 B34;rw[e1];go_wp2;go_ret;exact⟨rfl,HB.o.alloc HB.o.size _⟩
end
theorem offCs_get (r:MB) (s:MI) (cs:List Ce) (k:Nat):(offCs r s cs)[k]?=cs[k]?.map fun c=>(match yz (k:Int) r with
  |some _=>⟨(match yz (k:Int) s with|some v=>v|none=>c.val),0⟩
  |none=>⟨(match yz (k:Int) s with|some v=>v|none=>c.val),c.own⟩:Ce):=by
 unfold offCs;rw[goS_get,bkS_get];cases cs[k]? with
 |none=>rfl
 |some c=>
  simp only[Option.map_some];cases yz (k:Int) r <;> cases yz (k:Int) s <;> rfl
