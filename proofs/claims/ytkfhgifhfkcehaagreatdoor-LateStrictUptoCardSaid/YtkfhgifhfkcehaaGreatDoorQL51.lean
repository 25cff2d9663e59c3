/- Parts of the proof, merged by program out of 2 texts (LmF, TrL): the first: The engine late as plain lists: what has happened stays ahead; how many transactions there are. Conditions: those of each theorem, as typed. -/
import Derived.Test.YtkfhgifhfkcehaaGreatDoorQL50
import Derived.Test.YtkfhgifhfkcehaaGreatDoorQL34
set_option linter.unusedVariables false
set_option linter.unusedSimpArgs false
set_option linter.unusedSectionVars false
set_option maxRecDepth 100000
set_option maxHeartbeats 4000000
namespace Go.Proofs.YtkfhgifhfkcehaaGreatDoor
open Go.Maps Go.RowKit
section
variable {P:Pg} {M M':LM} {A:Au}
theorem evs_step (h:LInv P M) (i:Int):∃x,(stepTo P M i).W.evs=M.W.evs++x:=by
 unfold stepTo
 cases hd:wDone P M.W i with
 |true=>exact⟨[],by simp⟩
 |false=>
  obtain⟨k,rfl,hk⟩:=wDone_in h.thl hd
  obtain⟨t,ht⟩:∃t,M.W.ths[k]?=some t:=⟨_,List.getElem?_eq_getElem (by rw[h.thl];exact hk)⟩
  have hs:=stp_of h hk ht hd
  simp only[Bool.false_eq_true,if_false,Int.toNat_natCast]
  generalize stepIn P M k=M' at hs
  cases hs with
  |looked r s hw hb hx hs0 hst=>exact⟨[],by simp⟩
  |_=>exact⟨_,rfl⟩
theorem evs_steps:∀(l:List Int) {M:LM},LInv P M→∃x,(stepsTo P M l).W.evs=M.W.evs++x
 |[],_,_=>⟨[],by simp[stepsTo]⟩
 |i::l,M,h=>by
  obtain⟨x,hx⟩:=evs_step h i
  obtain⟨y,hy⟩:=evs_steps l (step_inv h i).1
  refine⟨x++y,?_⟩
  show(stepsTo P (stepTo P M i) l).W.evs=_
  rw[hy,hx,List.append_assoc]
theorem steps_inv:∀(l:List Int) {M:LM},LInv P M→LInv P (stepsTo P M l)
 |[],_,h=>h
 |i::l,_,h=>steps_inv l (step_inv h i).1
theorem evs_prefix (h:PgOk P) (l l2:List Int):∃x,(stepsTo P (startLM P) (l++l2)).W.evs=(stepsTo P (startLM P) l).W.evs++x:=by
 rw[stepsTo_app]
 exact evs_steps l2 (steps_inv l (start_inv h))
theorem evs_take (h:PgOk P) (l l2:List Int):(stepsTo P (startLM P) (l++l2)).W.evs.take (stepsTo P (startLM P) l).W.evs.length=(stepsTo P (startLM P) l).W.evs:=by
 obtain⟨x,hx⟩:=evs_prefix h l l2
 rw[hx,List.take_left]
theorem Lall.count (h:Lall P M A) (hd:allDone P M.W=true):A.length=cntTxs P:=by
 rw[←allIds_len,←List.length_map (f:=fun s:St=>s.id)]
 refine((List.perm_ext_iff_of_nodup h.ji.ids (allIds_nodup h.li.ok)).2 fun x=>?_).length_eq
 have hdone:∀(i:Nat) (t:Th),M.W.ths[i]?=some t→i < P.threads.length∧t.tx=(P.txs i).length:=fun i t ht=>by
  have hi:i < P.threads.length:=by rw[←h.li.thl];exact(List.getElem?_eq_some_iff.1 ht).1
  have h2:=List.all_eq_true.1 hd i (List.mem_range.2 hi)
  rw[wDone_th ht] at h2
  exact⟨hi,by simpa[thDone] using h2⟩
 rw[mem_allIds]
 constructor
 ·intro hx
  obtain⟨s,hs,rfl⟩:=List.mem_map.1 hx
  obtain⟨i,t,k,ht,hid,hth,hc⟩:=h.ji.all s hs
  obtain⟨hi,htx⟩:=hdone i t ht
  refine⟨i,k,hi,?_,hid⟩
  rcases hc with⟨hk,-⟩|⟨-,hb,-⟩
  ·omega
  ·have:=h.bi i t ht hb
   omega
 ·rintro ⟨i,k,hi,hk,rfl⟩
  obtain⟨t,ht⟩:∃t,M.W.ths[i]?=some t:=⟨_,List.getElem?_eq_getElem (by rw[h.li.thl];exact hi)⟩
  obtain⟨-,htx⟩:=hdone i t ht
  obtain⟨s,hs,hid⟩:=h.ji.old i t ht k (by omega)
  exact List.mem_map.2 ⟨s,hs,hid⟩
end
theorem lw_lwD (l:List Dd) (c:Int):lwD l c=lw l c:=rfl
def valsOf (cs:List Ce):List Int:=cs.map (·.val)
structure TrL (P:Pg) (M:LM) (A:Au) (ord:List (Int×Bool)):Prop where
 od:OrdOk A M.W.evs.length ord
 com:ComOk A ord
 link:∀(i:Nat) (t:Th),M.W.ths[i]?=some t→t.begun=true→∀c,(idOf i t.tx,c) ∈ ord→(c=true↔M.nx[i]?=some (.ends false))
 play:playO (deedsOf A) false P.cells ord=some (valsOf M.cs)
section
variable {P:Pg} {M M':LM} {A:Au} {ord:List (Int×Bool)}
theorem TrL.start (P:Pg):TrL P (startLM P) [] []:=by
 refine⟨OrdOk.zero,fun s hs=>(nomatch hs),fun i t ht hb=>?_,?_⟩
 ·have:t=Th.zero:=List.eq_of_mem_replicate (List.mem_of_getElem? ht)
  rw[this] at hb;cases hb
 ·simp only[playO,valsOf,startLM,List.map_map]
  congr 1
  exact(List.map_id' P.cells).symm
theorem TrL.stays (h:TrL P M A ord) (hJ:JInv P M.W A) {i k:Nat} {t t':Th} {s s':St} {e:Ev} (ht:M.W.ths[i]?=some t) (hb:t.begun=true) (hs:A[k]?=some s) (hid:s.id=idOf i t.tx)
  (hk:s'.id=s.id∧s'.beg=s.beg∧s'.thread=s.thread∧(s'.fin=s.fin∨s'.fin=M.W.evs.length)) (hst:∀c,(s.id,c) ∈ ord→(c=true→s'.status=3∨s'.status=2)∧(c=false→s'.status≠3))
  (hdd:M.nx[i]?=some (.ends false)→s'.deeds=s.deeds) (hcs:M'.cs=M.cs) (hW:M'.W=M.W.put i (t',e)) (hnx:∀j,j≠i→M'.nx[j]?=M.nx[j]?)
  (hlink:t'.begun=true→t'.tx=t.tx∧(M'.nx[i]?=some (.ends false)↔M.nx[i]?=some (.ends false))):TrL P M' (A.set k s') ord:=by
 have hsA:=List.mem_of_getElem? hs
 have htx3:=(hJ.bt i t ht).2 hb
 have hil:=(List.getElem?_eq_some_iff.1 ht).1
 refine⟨?_,fun x hx c hc=>?_,fun j u hu hub c hc=>?_,?_⟩
 ·have:=h.od.stays hJ.ids hs hk.1 hk.2.1 hk.2.2.2
  rw[hW]
  simpa[Wst.put] using this
 ·rcases mem_set hs hx hJ.ids with rfl|⟨hx,-⟩
  ·rw [hk.1] at hc
   exact hst c hc
  ·exact h.com x hx c hc
 ·have hu':(M.W.ths.set i t')[j]?=some u:=by rw[hW] at hu;exact hu
  rcases get_set hu' with⟨rfl,rfl⟩|⟨hne,hu'⟩
  ·obtain ⟨h1,h2⟩:=hlink hub
   rw[h1] at hc
   rw[h.link i t ht hb c hc,h2]
  ·rw [h.link j u hu' hub c hc,hnx j (Ne.symm hne)]
 ·rw [hcs,←h.play]
  refine(playO_congrF fun p hp hpt=>?_).symm
  rw[deedsOf_set hJ.ids hs hk.1]
  split
  ·rename_i he
   have hl:=(h.link i t ht hb p.2 (by rw[←hid,←he];exact hp)).1 hpt
   rw[he,deedsOf_id hJ.ids hsA,hdd hl]
  ·rfl
theorem late_fits (hL:LInv P M) (hJ:JInv P M.W A) (hD:DInv M A) {i:Nat} (hi:i < P.threads.length) {t:Th} {s:St} {r sw:MI} (ht:M.W.ths[i]?=some t) (hb:t.begun=true) (hw:t.waits=4) (hx:M.nx[i]?=some .look) (hs:s ∈ A) (hid:s.id=idOf i t.tx) (hs0:M.ws[i]?=some (some (r,sw))) (hst:stands r M.cs=true):
  rep (valsOf M.cs) s.deeds=some (valsOf (wrS sw (fun _=>false) M.cs)):=by
 obtain⟨k,s1,hk,h1,h2,h3⟩:=hJ.cur i t ht hb
 have:=ids_unique hJ.ids hs (List.mem_of_getElem? hk) (hid.trans h1.symm)
 subst this
 have h33:s.stand=3:=by rw[h3];simp[standOf,hw]
 have hdn:done s=s.deeds:=by unfold done;rw[if_neg (by omega)]
 obtain⟨d1,d2,d3,d4,d5⟩:=hD.cur i t s r sw ht hb hs hid hs0
 rw[hdn] at d1 d2 d3 d4
 have hv:=d4 (by rw[hx];simp)
 have hrs:=(hL.wo i r sw hs0).rsrt
 have hT:=fed_txs hJ.fed hJ.evs s hs
 have hF:=(fed_full hJ.fed s hs).1 (.inr (.inl h33))
 have hn:(valsOf M.cs).length=P.cells.length:=by unfold valsOf;rw[List.length_map,hL.csl]
 have g1:∀d ∈ s.deeds,(0≤d.obj∧d.obj < (P.cells.length:Nat))∧(d.op=1∧d.ret=3∨d.op=2∧d.ret=1∧d.got=0):=fun d hd=>by
  have hd1:=hT.deeds d hd
  refine⟨hd1.obj,?_⟩
  have h7:=hF d hd
  rcases hd1.ret with h8|h8
  ·exact absurd h8 h7
  ·rcases h8 with⟨h8,h9⟩|⟨h8,h9⟩
   ·exact .inr ⟨h8,h9,hd1.got0 (by omega)⟩
   ·exact .inl ⟨h8,h9⟩
 have g2:∀(j:Nat) (d:Dd),s.deeds[j]?=some d→d.op=1→lwD (s.deeds.take j) d.obj=none→(valsOf M.cs)[d.obj.toNat]?=some d.got:=fun j d hj ho hn'=>by
  obtain⟨v0,h7,h8,h9⟩:=hv j d hj ho hn'
  have h10:=List.all_eq_true.1 hst (d.obj,v0) ((fnd_some hrs).1 h7)
  have h11:=h9 (by simpa using h10)
  have hob:=(hT.deeds d (List.mem_of_getElem? hj)).obj
  have:=List.getElem?_eq_getElem (show d.obj.toNat < M.cs.length by rw[hL.csl];omega)
  unfold valsOf
  rw[List.getElem?_map,this,h11]
  unfold valAt
  rw[this];rfl
 obtain⟨τ,h4,h5,h6⟩:=rep_lw (n:=P.cells.length) (σ:=valsOf M.cs) (l:=s.deeds) hn g1 (fun j d hj ho v hv'=>d2 j d hj ho v hv') g2 s.deeds.length (Nat.le_refl _)
 rw[List.take_length] at h4 h6
 rw[h4]
 congr 1
 apply List.ext_getElem?
 intro c
 by_cases hc:c < P.cells.length
 ·rw [h6 c hc]
  unfold valsOf
  rw[List.getElem?_map,List.getElem?_map,wrS_get,lw_lwD,d1]
  have:=List.getElem?_eq_getElem (show c < M.cs.length by rw[hL.csl];exact hc)
  rw[this]
  cases fnd (c:Int) sw <;> simp
 ·rw [List.getElem?_eq_none (by omega),List.getElem?_eq_none (by unfold valsOf wrS;rw[List.length_map,List.length_mapIdx,hL.csl];omega)]
theorem latetr_step (hL:LInv P M) (hJ:JInv P M.W A) (hD:DInv M A) (h:TrL P M A ord) {i:Nat} (hi:i < P.threads.length) {t:Th} (ht:M.W.ths[i]?=some t) (hd:thDone P i t=false) (hs:Stp P M i t M'):
  ∃A' ord',JInv P M'.W A'∧TrL P M' A' ord':=by
 obtain⟨htk,htr⟩:=hL.th i t ht
 have hi4:i < 4:=by have:=hL.ok.threads.2;omega
 have htx:=tx_lt hL.ok hi htk hd
 have ht3:=Pg.tx3 hL.ok hi
 have ha6:=acts_le hL.ok hi t.tx
 have hcl:P.cells.length≤4:=hL.ok.cells.2
 have hT0:tot P≤2380:=by unfold tot;have:=hL.ok.threads.2;omega
 have hev:=hL.ev
 have hnxl:i < M.nx.length:=by rw[hL.nxl];exact hi
 have nset:∀(j:Nat) (x:Nx),j≠i→(M.nx.set i x)[j]?=M.nx[j]?:=fun j x hne=>List.getElem?_set_ne (Ne.symm hne)
 have self:∀x:Nx,(M.nx.set i x)[i]?=some x:=fun x=>List.getElem?_set_self hnxl
 have hnone:M.nx[i]?=some .none→¬M.nx[i]?=some (.ends false):=fun h=>by rw[h];simp
 have cf:∀{s:St},s ∈ A→s.id=idOf i t.tx→t.begun=true→M.nx[i]?≠some (.ends false)→∀{st:Int},st≠3→∀c,(s.id,c) ∈ ord→(c=true→st=3∨st=2)∧(c=false→st≠3):=fun {s} hsA hid hb hne {st} hst c hc=>by
  refine⟨fun e=>absurd ((h.link i t ht hb c (by rw[←hid];exact hc)).1 e) hne,fun _=>hst⟩
 cases hs with
 |begin hw hb hx=>
  obtain⟨hF,hj'⟩:=hJ.begun ht hb (by omega) (by omega) hw
  have hno:¬hasId (idOf i t.tx) A:=hJ.fresh ht hb (by omega)
  refine⟨_,ord++[(idOf i t.tx,false)],hj',?_,fun s hs c hc=>?_,fun j u hu hub c hc=>?_,?_⟩
  ·have:=h.od.begun (s:=newSt (withTx {ev0 1 with thread:=i} (idOf i t.tx)) M.W.evs.length) rfl rfl hno
   simpa[Wst.put,newSt,withTx] using this
  ·have hmem:∀x ∈ A,x.id≠idOf i t.tx:=fun x hx e=>hno ⟨x,hx,e⟩
   rcases List.mem_append.1 hs with hs|hs
   ·rcases List.mem_append.1 hc with hc|hc
    ·exact h.com s hs c hc
    ·simp only[List.mem_singleton,Prod.mk.injEq] at hc
     exact absurd hc.1 (hmem s hs)
   ·obtain rfl:=List.mem_singleton.1 hs
    have hcf:c=false:=by
     rcases List.mem_append.1 hc with hc|hc
     ·obtain ⟨x,hx,he⟩:=h.od.mem hc
      exact absurd he (hmem x hx)
     ·simp only[List.mem_singleton,Prod.mk.injEq] at hc
      exact hc.2
    refine⟨fun e=>absurd (hcf.symm.trans e) (by decide),fun _=>?_⟩
    show(1:Int)≠3
    decide
  ·have hu':(M.W.ths.set i {t with begun:=true})[j]?=some u:=hu
   rcases get_set hu' with⟨rfl,rfl⟩|⟨hne,hu'⟩
   ·have hcf:c=false:=by
     rcases List.mem_append.1 hc with hc|hc
     ·obtain ⟨x,hx,he⟩:=h.od.mem hc
      exact absurd ⟨x,hx,he⟩ hno
     ·simp only[List.mem_singleton,Prod.mk.injEq] at hc
      exact hc.2
    show c=true↔(M.nx.set i .none)[i]?=_
    rw[self,hcf];simp
   ·have hub3:=(hJ.bt j u hu').2 hub
    have hcm:(idOf j u.tx,c) ∈ ord:=by
     rcases List.mem_append.1 hc with hc|hc
     ·exact hc
     ·simp only[List.mem_singleton,Prod.mk.injEq] at hc
      have h33:t.tx < 3:=by omega
      exact absurd (idOf_inj h33 hub3 hc.1.symm).1 hne
    show c=true↔(M.nx.set i .none)[j]?=_
    rw[nset j _ (Ne.symm hne)]
    exact h.link j u hu' hub c hcm
  ·rw [playO_snoc (τ:=valsOf M.cs)]
   ·simp [stepO]
   ·rw [←h.play]
    refine(playO_congrF fun p hp _=>?_).symm
    rw[deedsOf_app _ hno]
    split
    ·rename_i he
     obtain⟨x,hx,hxe⟩:=h.od.mem hp
     exact absurd ⟨x,hx,hxe.trans he⟩ hno
    ·rfl
 |call a hw hb hx ha hk=>
  obtain⟨-,hc0,hc1,hv0,hv1⟩:=hL.kinds hi hd htk ha hk
  obtain⟨k,s,hs,hid,hth,hst,hj'⟩:=hJ.called ht hb hw ha hk (by omega) ⟨hc0,hc1,by omega⟩ (fun _=>by unfold inB VB at htr;unfold wrVal;split <;> omega)
  have hsA:=List.mem_of_getElem? hs
  have h1:s.stand=1:=by rw[hst];simp[standOf,hw]
  have hs1:s.status=1:=(fed_full hJ.fed s hsA).2.2.1 (.inl h1)
  exact⟨_,ord,hj',h.stays hJ ht hb hs hid ⟨rfl,rfl,rfl,.inl rfl⟩ (cf hsA hid hb (hnone hx) (by show s.status≠3;omega)) (fun e=>absurd e (hnone hx)) rfl rfl (fun j hne=>nset j _ hne) fun _=>⟨rfl,by rw[self,hx];simp⟩⟩
 |cancel a hw hb hx ha hk=>
  obtain⟨k,s,hs,hid,hth,hst,hj'⟩:=hJ.cancelled ht hb hw (by omega)
  have hsA:=List.mem_of_getElem? hs
  have h1:s.stand=1:=by rw[hst];simp[standOf,hw]
  have hs1:s.status=1:=(fed_full hJ.fed s hsA).2.2.1 (.inl h1)
  exact⟨_,ord,hj',h.stays hJ ht hb hs hid ⟨rfl,rfl,rfl,.inl rfl⟩ (cf hsA hid hb (hnone hx) (by show s.status≠3;omega)) (fun e=>absurd e (hnone hx)) rfl rfl (fun j hne=>nset j _ hne) fun _=>⟨rfl,by rw[self,hx];simp⟩⟩
 |try_ hw hb hx ha=>
  obtain⟨k,s,hs,hid,hth,hst,hj'⟩:=hJ.tried ht hb hw (by omega)
  have hsA:=List.mem_of_getElem? hs
  exact⟨_,ord,hj',h.stays hJ ht hb hs hid ⟨rfl,rfl,rfl,.inl rfl⟩ (cf hsA hid hb (hnone hx) (by show(2:Int)≠3;omega)) (fun e=>absurd e (hnone hx)) rfl rfl (fun j hne=>nset j _ hne) fun _=>⟨rfl,by rw[self,hx];simp⟩⟩
 |wrote a r s0 hw hb hx ha hk hs0=>
  obtain⟨k,s,hs,hid,hth,hst,hj'⟩:=hJ.answered (ret:=1) (got:=0) ht hb hw (by omega) ha (.inl ⟨hk,rfl,rfl,rfl⟩) (by omega)
  have hsA:=List.mem_of_getElem? hs
  have h2:s.stand=2:=by rw[hst];simp[standOf,hw]
  have hs1:s.status=1:=((fed_full hJ.fed s hsA).2.1 h2).1
  have hne:M.nx[i]?≠some (.ends false):=by rw[hx];simp
  obtain⟨d,hdl⟩:=hJ.dd s hsA h2
  have er:retSt 1 0 M.W.evs.length s={s with stand:=1,deeds:=s.deeds.dropLast++[retDd d 1 0 M.W.evs.length]}:=by unfold retSt;rw[hdl]
  refine⟨_,ord,hj',h.stays (t':=wrTh t) hJ ht hb hs hid (by rw[er];exact⟨rfl,rfl,rfl,.inl rfl⟩) (cf hsA hid hb hne (by rw[er];show s.status≠3;omega)) (fun e=>absurd e hne) rfl rfl (fun j hne=>nset j _ hne) fun _=>⟨rfl,by rw[self,hx];simp⟩⟩
 |kept a r s0 v hw hb hx ha hk hs0 hf=>
  have hvb:-1000000000≤v∧v≤1000000000:=by
   have hwo:=hL.wo i r s0 hs0
   have hvv:=hwo.val (a.cell,v) ((fnd_some hwo.ssrt).1 hf)
   unfold inB VB at hvv
   simp only at hvv
   omega
  obtain⟨k,s,hs,hid,hth,hst,hj'⟩:=hJ.answered (ret:=3) (got:=v) ht hb hw (by omega) ha (.inr ⟨hk,rfl,rfl⟩) hvb
  have hsA:=List.mem_of_getElem? hs
  have h2:s.stand=2:=by rw[hst];simp[standOf,hw]
  have hs1:s.status=1:=((fed_full hJ.fed s hsA).2.1 h2).1
  have hne:M.nx[i]?≠some (.ends false):=by rw[hx];simp
  obtain⟨d,hdl⟩:=hJ.dd s hsA h2
  have er:retSt 3 v M.W.evs.length s={s with stand:=1,deeds:=s.deeds.dropLast++[retDd d 3 v M.W.evs.length]}:=by unfold retSt;rw[hdl]
  have t1:(rdTh t a v).tx=t.tx:=by unfold rdTh;split <;> rfl
  refine⟨_,ord,hj',h.stays (t':=rdTh t a v) hJ ht hb hs hid (by rw[er];exact⟨rfl,rfl,rfl,.inl rfl⟩) (cf hsA hid hb hne (by rw[er];show s.status≠3;omega)) (fun e=>absurd e hne) rfl rfl (fun j hne=>nset j _ hne) fun _=>⟨t1,by rw[self,hx];simp⟩⟩
 |read a r s0 r1 hw hb hx ha hk hs0 hf hr1=>
  obtain⟨-,hc0,hc1,hv0,hv1⟩:=hL.kinds hi hd htk ha (by rcases hk with h|⟨h,-⟩ <;> omega)
  obtain⟨v,hv⟩:∃v,v=valAt M.cs a.cell:=⟨_,rfl⟩
  have hvb:-1000000000≤v∧v≤1000000000:=by
   have hx:=List.getElem?_eq_getElem (show a.cell.toNat < M.cs.length by rw[hL.csl];omega)
   have:=(hL.ce _ (List.mem_of_getElem? hx)).1
   rw[hv]
   unfold valAt
   rw[hx]
   unfold inB VB at this
   simp only
   omega
  rw[←hv]
  obtain⟨k,s,hs,hid,hth,hst,hj'⟩:=hJ.answered (ret:=3) (got:=v) ht hb hw (by omega) ha (.inr ⟨hk,rfl,rfl⟩) hvb
  have hsA:=List.mem_of_getElem? hs
  have h2:s.stand=2:=by rw[hst];simp[standOf,hw]
  have hs1:s.status=1:=((fed_full hJ.fed s hsA).2.1 h2).1
  have hne:M.nx[i]?≠some (.ends false):=by rw[hx];simp
  obtain⟨d,hdl⟩:=hJ.dd s hsA h2
  have er:retSt 3 v M.W.evs.length s={s with stand:=1,deeds:=s.deeds.dropLast++[retDd d 3 v M.W.evs.length]}:=by unfold retSt;rw[hdl]
  have t1:(rdTh t a v).tx=t.tx:=by unfold rdTh;split <;> rfl
  refine⟨_,ord,hj',h.stays (t':=rdTh t a v) hJ ht hb hs hid (by rw[er];exact⟨rfl,rfl,rfl,.inl rfl⟩) (cf hsA hid hb hne (by rw[er];show s.status≠3;omega)) (fun e=>absurd e hne) rfl rfl (fun j hne=>nset j _ hne) fun _=>⟨t1,by rw[self,hx];simp⟩⟩
 |abort hw hb hne=>
  obtain⟨k,s,hs,hid,hth,hst,hj'⟩:=hJ.ended (kind:=6) (status:=4) ht hb (by omega) ha6 htk.act (fun h=>by omega) (.inr ⟨rfl,rfl,by omega⟩)
  have hsA:=List.mem_of_getElem? hs
  exact⟨_,ord,hj',h.stays (t':=endTh t) hJ ht hb hs hid ⟨rfl,rfl,rfl,.inr rfl⟩ (cf hsA hid hb hne (by show(4:Int)≠3;omega)) (fun e=>absurd e hne) rfl rfl (fun j hne=>nset j _ hne) fun e=>by cases e⟩
 |looked r s0 hw hb hx hs0 hst=>
  obtain⟨k,s,hs,hid,hth,hsts⟩:=hJ.cur i t ht hb
  have hsA:=List.mem_of_getElem? hs
  have h3:s.stand=3:=by rw[hsts];simp[standOf,hw]
  have hfin:s.fin < 0:=by
   have:=(fed_txs hJ.fed hJ.evs s hsA).fin (by omega)
   omega
  have hst2:=(fed_full hJ.fed s hsA).2.2.2.1 h3
  have hnd:=h.od.nodup hJ.ids
  refine⟨A,toEnd s.id true ord,hJ,h.od.put hJ.ids hsA hfin true,fun x hx' c hc=>?_,fun j u hu hub c hc=>?_,?_⟩
  ·rcases mem_toEnd.1 hc with e|⟨hc,hne⟩
   ·simp only[Prod.mk.injEq] at e
    have:=ids_unique hJ.ids hx' hsA e.1
    subst this
    exact⟨fun _=>.inr hst2,fun e2=>by rw[e.2] at e2;cases e2⟩
   ·exact h.com x hx' c hc
  ·by_cases hji:j=i
   ·subst hji
    have hu':M.W.ths[j]?=some u:=hu
    rw[ht] at hu'
    obtain rfl:=Option.some.inj hu'
    show c=true↔(M.nx.set j (.ends false))[j]?=_
    rw[self]
    rcases mem_toEnd.1 hc with e|⟨hc,hne⟩
    ·simp only[Prod.mk.injEq] at e
     simp[e.2]
    ·exact absurd hid.symm hne
   ·have hu':M.W.ths[j]?=some u:=hu
    have hub3:=(hJ.bt j u hu').2 hub
    have h33:t.tx < 3:=by omega
    show c=true↔(M.nx.set i (.ends false))[j]?=_
    rw[nset j _ hji]
    rcases mem_toEnd.1 hc with e|⟨hc,hne⟩
    ·simp only[Prod.mk.injEq] at e
     exact absurd (idOf_inj hub3 h33 (e.1.trans hid)).1 hji
    ·exact h.link j u hu' hub c hc
  ·rw [toEnd_play h.play (fun b hb'=>?_) (fun y _ ρ=>rfl)]
   ·have hf:=late_fits hL hJ hD hi ht hb hw hx hsA hid hs0 hst
    unfold stepO
    rw[if_neg (by simp),deedsOf_id hJ.ids hsA,hf]
    simp
   ·cases hbb:b with
    |false=>rfl
    |true=>
     have:=(h.link i t ht hb b (by rw[←hid];exact hb')).1 hbb
     rw[hx] at this
     simp at this
 |commit hw hb hx=>
  obtain⟨k,s,hs,hid,hth,hst,hj'⟩:=hJ.ended (kind:=5) (status:=3) ht hb (by omega) ha6 htk.act (fun h=>by omega) (.inl ⟨rfl,rfl,hw⟩)
  have hsA:=List.mem_of_getElem? hs
  refine⟨_,ord,hj',h.stays (t':=endTh t) hJ ht hb hs hid ⟨rfl,rfl,rfl,.inr rfl⟩ (fun c hc=>⟨fun _=>.inl rfl,fun e=>?_⟩) (fun e=>rfl) rfl rfl (fun j hne=>nset j _ hne) fun e=>by cases e⟩
  have:=(h.link i t ht hb c (by rw[←hid];exact hc)).2 hx
  rw[this] at e;cases e
structure Lall2 (P:Pg) (M:LM) (A:Au) (ord:List (Int×Bool)):Prop where
 all:Lall P M A
 tr:TrL P M A ord
theorem Lall2.step (h:Lall2 P M A ord) (i:Int):∃A' ord',Lall2 P (stepTo P M i) A' ord':=by
 unfold stepTo
 cases hd:wDone P M.W i with
 |true=>exact⟨A,ord,h⟩
 |false=>
  obtain⟨k,rfl,hk⟩:=wDone_in h.all.li.thl hd
  obtain⟨t,ht⟩:∃t,M.W.ths[k]?=some t:=⟨_,List.getElem?_eq_getElem (by rw[h.all.li.thl];exact hk)⟩
  have hdn:thDone P k t=false:=by rw[←wDone_th ht];exact hd
  have hs:=stp_of h.all.li hk ht hd
  obtain⟨A',h1,h2,h3⟩:=late_step h.all.li h.all.ji h.all.ti h.all.di hk ht hdn hs
  obtain⟨A2,ord',h4,h5⟩:=latetr_step h.all.li h.all.ji h.all.di h.tr hk ht hdn hs
  have e:=fed_one h1.fed h4.fed
  subst e
  exact⟨A',ord',⟨(stp_inv h.all.li hk ht hdn hs).1,bstep h.all.li h.all.bi ht hdn hs,h1,h2,h3⟩,h5⟩
theorem Lall2.steps:∀(l:List Int) {M:LM} {A:Au} {ord:List (Int×Bool)},Lall2 P M A ord→∃A' ord',Lall2 P (stepsTo P M l) A' ord'
 |[],_,A,ord,h=>⟨A,ord,h⟩
 |i::l,_,_,_,h=>let ⟨_,_,h1⟩:=h.step i;Lall2.steps l h1
theorem late_run2 (h:PgOk P) {l:List Int} {full:Bool} (hr:RunOf P (startLM P) l full M):∃A ord,Lall2 P M A ord:=by
 have hst:Lall2 P (startLM P) [] []:=⟨Lall.start h,TrL.start P⟩
 unfold RunOf at hr
 split at hr
 ·obtain ⟨l2,rfl,-⟩:=hr
  exact hst.steps _
 ·rw [hr];exact hst.steps _
theorem Lall2.ends (h:Lall2 P M A ord):(gmOf 2 A).Ends (0,P.cells):=
 ends_gm (.inr (.inl rfl)) h.all.ji.ids h.tr.od h.tr.com (fun s hs=>by have:=fed_times h.all.ji.fed s hs;omega) (by simpa using h.tr.play)
end
