/- Parts of the proof, merged by program out of 4 texts (LmE, LmF, LaN, TrL): the first: The engine late as plain lists: what holds behind any steps, and when all is done. Conditions: those of each theorem, as typed. -/
import Derived.Test.YtkfhgifhfkcehaaGreatDoorQL49
import Derived.Test.YtkfhgifhfkcehaaGreatDoorQL41
import Derived.Test.YtkfhgifhfkcehaaGreatDoorQL40
import Derived.Test.YtkfhgifhfkcehaaGreatDoorQL34
set_option linter.unusedVariables false
set_option linter.unusedSimpArgs false
set_option linter.unusedSectionVars false
set_option maxRecDepth 100000
set_option maxHeartbeats 4000000
namespace Go.Proofs.YtkfhgifhfkcehaaGreatDoor
open Go.Maps Go.RowKit
section
variable {P:Pg} {M M':LM} {A:Au}
theorem jstart (P:Pg):JInv P (startLM P).W []:=by
 have hz:∀(i:Nat) (t:Th),(startLM P).W.ths[i]?=some t→t=Th.zero:=fun i t ht=>List.eq_of_mem_replicate (List.mem_of_getElem? ht)
 refine⟨.nil,fun e he=>(nomatch he),Nat.zero_le _,fun i t ht k hk=>?_,fun i t ht hb=>?_,fun s hs=>(nomatch hs),List.nodup_nil,fun i t ht=>?_,fun i t ht=>?_,fun s hs=>(nomatch hs),fun i t s d a ht hs=>(nomatch hs)⟩
 ·rw [hz i t ht] at hk;cases hk
 ·rw [hz i t ht] at hb;cases hb
 ·rw [hz i t ht];exact⟨.inl rfl,fun _=>⟨rfl,rfl⟩,fun h=>by cases h⟩
 ·rw [hz i t ht];exact⟨Nat.zero_le _,fun h=>by cases h⟩
theorem tstart (P:Pg):TInv (startLM P) []:=⟨fun s hs=>(nomatch hs),fun s hs=>(nomatch hs),fun s hs=>(nomatch hs),fun j e he=>by simp[startLM] at he,fun s hs=>(nomatch hs)⟩
theorem dstart (P:Pg):DInv (startLM P) []:=⟨fun i t s r sw ht hb hs=>(nomatch hs),fun s hs=>(nomatch hs)⟩
def BInv (P:Pg) (M:LM):Prop:=∀(i:Nat) (t:Th),M.W.ths[i]?=some t→t.begun=true→t.tx < (P.txs i).length
theorem bstart (P:Pg):BInv P (startLM P):=fun i t ht hb=>by
 have:t=Th.zero:=List.eq_of_mem_replicate (List.mem_of_getElem? ht)
 rw[this] at hb;cases hb
theorem bstep (hL:LInv P M) (hB:BInv P M) {i:Nat} {t:Th} (ht:M.W.ths[i]?=some t) (hd:thDone P i t=false) (hs:Stp P M i t M'):BInv P M':=by
 obtain⟨htk,-⟩:=hL.th i t ht
 have hlt:t.tx < (P.txs i).length:=by
  have h1:=htk.tx
  have h2:¬t.tx=(P.txs i).length:=by simpa[thDone] using hd
  omega
 have e1:∀u:Th,(endTh u).begun=false:=fun _=>rfl
 cases hs with
 |begin hw hb hx=>exact bput hB fun _=>hlt
 |call a hw hb hx ha hk=>exact bput hB fun _=>hlt
 |cancel a hw hb hx ha hk=>exact bput hB fun _=>hlt
 |try_ hw hb hx ha=>exact bput hB fun _=>hlt
 |wrote a r s hw hb hx ha hk hs0=>exact bput hB fun _=>hlt
 |kept a r s v hw hb hx ha hk hs0 hf=>exact bput hB fun _=>by unfold rdTh;split <;> exact hlt
 |read a r s r' hw hb hx ha hk hs0 hf hr=>exact bput hB fun _=>by unfold rdTh;split <;> exact hlt
 |abort hw hb hne=>exact bput hB fun h=>by rw[e1] at h;cases h
 |looked r s hw hb hx hs0 hst=>exact hB
 |commit hw hb hx=>exact bput hB fun h=>by rw[e1] at h;cases h
structure Lall (P:Pg) (M:LM) (A:Au):Prop where
 li:LInv P M
 bi:BInv P M
 ji:JInv P M.W A
 ti:TInv M A
 di:DInv M A
theorem Lall.step (h:Lall P M A) (i:Int):∃A',Lall P (stepTo P M i) A':=by
 unfold stepTo
 cases hd:wDone P M.W i with
 |true=>exact⟨A,h⟩
 |false=>
  obtain⟨k,rfl,hk⟩:=wDone_in h.li.thl hd
  obtain⟨t,ht⟩:∃t,M.W.ths[k]?=some t:=⟨_,List.getElem?_eq_getElem (by rw[h.li.thl];exact hk)⟩
  have hdn:thDone P k t=false:=by rw[←wDone_th ht];exact hd
  have hs:=stp_of h.li hk ht hd
  obtain⟨A',h1,h2,h3⟩:=late_step h.li h.ji h.ti h.di hk ht hdn hs
  exact⟨A',(stp_inv h.li hk ht hdn hs).1,bstep h.li h.bi ht hdn hs,h1,h2,h3⟩
theorem Lall.steps:∀(l:List Int) {M:LM} {A:Au},Lall P M A→∃A',Lall P (stepsTo P M l) A'
 |[],_,A,h=>⟨A,h⟩
 |i::l,_,_,h=>let ⟨_,h1⟩:=h.step i;Lall.steps l h1
theorem Lall.start (h:PgOk P):Lall P (startLM P) []:=⟨start_inv h,bstart P,jstart P,tstart P,dstart P⟩
theorem late_run (h:PgOk P) {l:List Int} {full:Bool} (hr:RunOf P (startLM P) l full M):∃A,Lall P M A:=by
 unfold RunOf at hr
 split at hr
 ·obtain ⟨l2,rfl,-⟩:=hr
  exact(Lall.start h).steps _
 ·rw [hr];exact(Lall.start h).steps _
theorem Lall.evs (h:Lall P M A):M.W.evs.length≤400:=by
 have h1:=h.ji.cnt
 have h2:∀t ∈ M.W.ths,hTh t≤99:=fun t ht=>by
  obtain⟨i,hi⟩:=List.mem_iff_getElem?.1 ht
  have h3:=(h.ji.bt i t hi)
  obtain⟨htk,-⟩:=h.li.th i t hi
  have h4:=htk.act
  have h5:(P.acts i t.tx).length≤6:=acts_le h.li.ok (by rw[←h.li.thl];exact(List.getElem?_eq_some_iff.1 hi).1) _
  have h6:=(h.ji.wt i t hi).2.1
  unfold hTh
  cases hb:t.begun with
  |false=>
   obtain⟨h7,h8⟩:=h6 hb
   rw[h7,h8]
   simp
   split <;> omega
  |true=>
   have:=h3.2 hb
   simp
   split <;> split <;> omega
 have h3:∀(l:List Th),(∀t ∈ l,hTh t≤99)→sumTh l≤99*l.length:=fun l=>by
  induction l with
  |nil=>intro _;simp[sumTh]
  |cons x l ih=>
   intro hl
   have:=ih fun t ht=>hl t (List.mem_cons_of_mem _ ht)
   have:=hl x (List.mem_cons_self ..)
   simp only[sumTh,List.map_cons,List.sum_cons,List.length_cons] at *
   omega
 have:=h3 _ h2
 rw[h.li.thl] at this
 have:=h.li.ok.threads.2
 omega
theorem Lall.ended (h:Lall P M A) (hd:allDone P M.W=true):∀s ∈ A,s.stand=5∧0≤s.fin:=by
 intro s hs
 obtain⟨i,t,k,ht,hid,hth,hc⟩:=h.ji.all s hs
 rcases hc with⟨-,h1,h2⟩|⟨-,hb,-⟩
 ·exact ⟨h1,h2⟩
 ·have:=h.bi i t ht hb
  have hi:i < P.threads.length:=by rw[←h.li.thl];exact(List.getElem?_eq_some_iff.1 ht).1
  have h2:=List.all_eq_true.1 hd i (List.mem_range.2 hi)
  rw[wDone_th ht] at h2
  have h3:t.tx=(P.txs i).length:=by simpa[thDone] using h2
  omega
theorem Lall.reads (h:Lall P M A):∀s ∈ A,s.status=3→RdsOne s.deeds:=fun s hs h3=>by
 obtain⟨-,h1,h2⟩:=h.di.com s hs h3
 exact rdsOne h1 h2 (h.ti.ops s hs)
theorem Lall.tries (h:Lall P M A) (hd:allDone P M.W=true):(∀s ∈ A,∀d ∈ s.deeds,0≤d.back)∧∀(j:Nat) (e:Ev),M.W.evs[j]?=some e→e.kind=6→(∃s ∈ A,s.id=e.tx∧0≤s.tri)∨∃(l:Nat) (e':Ev),l < j∧M.W.evs[l]?=some e'∧e'.kind=7∧e'.tx=e.tx:=by
 refine⟨fun s hs d hd2=>(h.ti.back s hs).1 ?_ d hd2,h.ti.abt⟩
 have:=(h.ended hd s hs).1
 omega
end
section
variable {P:Pg} {M M':LM} {A:Au}
theorem evs_step (h:LInv P M) (i:Int):∃x,(stepTo P M i).W.evs=M.W.evs++x:=by
 unfold stepTo
 cases hd:wDone P M.W i with
 |true=>exact⟨[],by simp⟩
 |false=>
  obtain⟨k,rfl,hk⟩:=wDone_in h.thl hd
  obtain⟨t,ht⟩:∃t,M.W.ths[k]?=some t:=⟨_,List.getElem?_eq_getElem (by rw[h.thl];exact hk)⟩
  have hs:=stp_of h hk ht hd
  simp only[Bool.false_eq_true,if_false,Int.toNat_natCast]
  generalize stepIn P M k=M' at hs
  cases hs with
  |looked r s hw hb hx hs0 hst=>exact⟨[],by simp⟩
  |_=>exact⟨_,rfl⟩
theorem evs_steps:∀(l:List Int) {M:LM},LInv P M→∃x,(stepsTo P M l).W.evs=M.W.evs++x
 |[],_,_=>⟨[],by simp[stepsTo]⟩
 |i::l,M,h=>by
  obtain⟨x,hx⟩:=evs_step h i
  obtain⟨y,hy⟩:=evs_steps l (step_inv h i).1
  refine⟨x++y,?_⟩
  show(stepsTo P (stepTo P M i) l).W.evs=_
  rw[hy,hx,List.append_assoc]
theorem steps_inv:∀(l:List Int) {M:LM},LInv P M→LInv P (stepsTo P M l)
 |[],_,h=>h
 |i::l,_,h=>steps_inv l (step_inv h i).1
theorem evs_prefix (h:PgOk P) (l l2:List Int):∃x,(stepsTo P (startLM P) (l++l2)).W.evs=(stepsTo P (startLM P) l).W.evs++x:=by
 rw[stepsTo_app]
 exact evs_steps l2 (steps_inv l (start_inv h))
theorem evs_take (h:PgOk P) (l l2:List Int):(stepsTo P (startLM P) (l++l2)).W.evs.take (stepsTo P (startLM P) l).W.evs.length=(stepsTo P (startLM P) l).W.evs:=by
 obtain⟨x,hx⟩:=evs_prefix h l l2
 rw[hx,List.take_left]
theorem Lall.count (h:Lall P M A) (hd:allDone P M.W=true):A.length=cntTxs P:=by
 rw[←allIds_len,←List.length_map (f:=fun s:St=>s.id)]
 refine((List.perm_ext_iff_of_nodup h.ji.ids (allIds_nodup h.li.ok)).2 fun x=>?_).length_eq
 have hdone:∀(i:Nat) (t:Th),M.W.ths[i]?=some t→i < P.threads.length∧t.tx=(P.txs i).length:=fun i t ht=>by
  have hi:i < P.threads.length:=by rw[←h.li.thl];exact(List.getElem?_eq_some_iff.1 ht).1
  have h2:=List.all_eq_true.1 hd i (List.mem_range.2 hi)
  rw[wDone_th ht] at h2
  exact⟨hi,by simpa[thDone] using h2⟩
 rw[mem_allIds]
 constructor
 ·intro hx
  obtain⟨s,hs,rfl⟩:=List.mem_map.1 hx
  obtain⟨i,t,k,ht,hid,hth,hc⟩:=h.ji.all s hs
  obtain⟨hi,htx⟩:=hdone i t ht
  refine⟨i,k,hi,?_,hid⟩
  rcases hc with⟨hk,-⟩|⟨-,hb,-⟩
  ·omega
  ·have:=h.bi i t ht hb
   omega
 ·rintro ⟨i,k,hi,hk,rfl⟩
  obtain⟨t,ht⟩:∃t,M.W.ths[i]?=some t:=⟨_,List.getElem?_eq_getElem (by rw[h.li.thl];exact hi)⟩
  obtain⟨-,htx⟩:=hdone i t ht
  obtain⟨s,hs,hid⟩:=h.ji.old i t ht k (by omega)
  exact List.mem_map.2 ⟨s,hs,hid⟩
end
section
attribute [local irreducible] wpL
theorem ex21_valid:ValidIs exP21:=by
 refine⟨by decide,fun k c hc=>?_,fun i t ht=>?_,fun i t ht k l hl=>?_,fun i t ht k l hl j a ha=>?_⟩
 ·rcases k with _|_|k <;> simp[exP21] at hc <;> omega
 ·rcases i with _|_|i <;> simp[exP21] at ht <;> subst ht <;> decide
 ·rcases i with _|_|i <;> simp[exP21] at ht <;> subst ht <;> (rcases k with _|k <;> simp at hl;subst hl;decide)
 ·rcases i with _|_|i <;> simp[exP21] at ht <;> subst ht <;> (rcases k with _|k <;> simp at hl;subst hl;rcases j with _|_|j <;> simp at ha <;> subst ha <;> decide)
theorem ex21_1:(stepsTo exP21 (startLM exP21) [1,1,1,0,0,0,0,0,0,0,0,1,1]).W.evs.length=12:=by decide
theorem ex21_2:(stepsTo exP21 (startLM exP21) [1,1,1,0,0,0,0,0,0,0,0,1,1]).W.evs[11]?.map (·.val)=some 1:=by decide
theorem ex21_3:(stepsTo exP21 (startLM exP21) [1,1,1,0,0,0,0,0,0,0,0,1,1,1,1]).W.evs.length=14:=by decide
theorem ex21_4:(stepsTo exP21 (startLM exP21) [1,1,1,0,0,0,0,0,0,0,0,1,1,1,1]).W.evs[13]?.map (·.kind)=some 6:=by decide
def ExRun (w:World) (E:List Ev) (e:Ending) (w':World):Prop:=∃ov vv,e=.returned (.tuple #[.agg #[ov,vv],.nilIface])∧(∃a n c,ov=.slice a n c)∧OwnF Ev.cells 53 8 w' w.heap.size vv E∧Below w.heap.size w w'
theorem ex21_run (w:World) (hG:Glob w) (vc vt:Value) (h:PgIs w w.heap.size vc vt exP21) (sv:Value) (l:List Int) (hs:Sl w w.heap.size 1 sv l.length (l.map (.int .i64))) (hl:l.length≤300) (E:List Ev) (hE:(stepsTo exP21 (startLM exP21) l).W.evs=E):
  Calls Tryz.prog 21 #[.agg #[vc,vt],sv] w (ExRun w E):=by
 obtain⟨h1,⟨t,v,h2⟩,h3⟩:=hG
 refine(la_Run vc vt exP21 w h (.iface t v) h2 ⟨_,_,rfl⟩ (by omega) (by decide) sv l hs hl (going _)).mono ?_
 rintro e w' ⟨hv,hb⟩
 rcases hv with⟨hno,-⟩|⟨-,M',ov,vv,rfl,hro,ho,hv⟩
 ·exact absurd ex21_valid hno
 ·have:M'=stepsTo exP21 (startLM exP21) l:=by simpa[RunOf] using hro
  subst this
  rw[hE] at hv
  obtain⟨a,c,e1⟩:=OwnF.slv ho
  exact⟨ov,vv,rfl,⟨_,_,_,e1⟩,hv,hb⟩
theorem l_first21 (w:World) (hG:Glob w):Calls Tryz.prog 19 #[] w fun e w'=>e=.returned (.bool true)∧Below w.heap.size w w':=by
 have HG:=hid hG
 have e1:=ex21_1
 have e2:=ex21_2
 have e3:=ex21_3
 have e4:=ex21_4
 obtain⟨E1,hE1⟩:∃E,(stepsTo exP21 (startLM exP21) [1,1,1,0,0,0,0,0,0,0,0,1,1]).W.evs=E:=⟨_,rfl⟩
 obtain⟨E2,hE2⟩:∃E,(stepsTo exP21 (startLM exP21) [1,1,1,0,0,0,0,0,0,0,0,1,1,1,1]).W.evs=E:=⟨_,rfl⟩
 rw[hE1] at e1 e2
 rw[hE2] at e3 e4
 have X1:=hid (And.intro hE1 (And.intro e1 e2))
 have X2:=hid (And.intro hE2 (And.intro e3 e4))
 clear hG e1 e2 e3 e4 hE1 hE2
 go_enter Tryz.func19,Tryz.ntmps19
 go_wp2_with fail
 refine(l_ex21 _).mono ?_
 rintro e W1 ⟨vc,vt,rfl,hp,b1⟩
 obtain⟨ac,cc,rfl,-⟩:=hp.cells.ex
 obtain⟨at',ct,rfl,-⟩:=hp.thr.ex
 have ba:Below W1.heap.size W1 (W1.alloc (.cells #[.int .i64 1,.int .i64 1,.int .i64 1,.int .i64 0,.int .i64 0,.int .i64 0,.int .i64 0,.int .i64 0,.int .i64 0,.int .i64 0,.int .i64 0,.int .i64 1,.int .i64 1] 3)):=(Below.refl _ W1).alloc (Nat.le_refl _) _
 have rs:=row_new W1 (.cells #[.int .i64 1,.int .i64 1,.int .i64 1,.int .i64 0,.int .i64 0,.int .i64 0,.int .i64 0,.int .i64 0,.int .i64 0,.int .i64 0,.int .i64 0,.int .i64 1,.int .i64 1] 3)
 have hr:=hid (ex21_run _ ((HG.out.below b1).below ba) _ _ ((hp.below ba).more ba.size) (.slice (some ⟨W1.heap.size,0,none⟩) 13 13) [1,1,1,0,0,0,0,0,0,0,0,1,1] (sl_row rs (by decide) rfl) (by decide) E1 X1.out.1)
 have B1:=hid (b1.trans (ba.mono b1.size))
 clear hp b1 ba rs
 go_wp2_with fail
 refine(hr.out).mono ?_
 rintro e W2 ⟨ov,vv,rfl,⟨oa,on,oc,rfl⟩,hv,b2⟩
 obtain⟨ae,ce,rfl⟩:=OwnF.slv hv
 obtain⟨-,e1,e2⟩:=X1.out
 have HV:=hid hv
 have B2:=hid (B1.out.trans (b2.mono B1.out.size))
 have HG2:=hid (HG.out.below (B1.out.trans (b2.mono B1.out.size)))
 have r2:=row_new W2 (.cells #[.slice oa on oc,.slice ae E1.length ce] 37)
 have b3:Below W2.heap.size W2 (W2.alloc (.cells #[.slice oa on oc,.slice ae E1.length ce] 37)):=(Below.refl _ W2).alloc (Nat.le_refl _) _
 have X1':=hid (And.intro e1 e2)
 have R2:=hid r2
 have B3:=hid b3
 clear hv b2 hr e1 e2 r2 b3
 go_wp2_with fail
 generalize W2.alloc (.cells #[.slice oa on oc,.slice ae E1.length ce] 37)=W3 at *
 refine(l_ex21 _).mono ?_
 rintro e W4 ⟨vc2,vt2,rfl,hp,b4⟩
 obtain⟨ac2,cc2,rfl,-⟩:=hp.cells.ex
 obtain⟨at2,ct2,rfl,-⟩:=hp.thr.ex
 have ba:Below W4.heap.size W4 (W4.alloc (.cells #[.int .i64 1,.int .i64 1,.int .i64 1,.int .i64 0,.int .i64 0,.int .i64 0,.int .i64 0,.int .i64 0,.int .i64 0,.int .i64 0,.int .i64 0,.int .i64 1,.int .i64 1,.int .i64 1,.int .i64 1] 3)):=(Below.refl _ W4).alloc (Nat.le_refl _) _
 have rs:=row_new W4 (.cells #[.int .i64 1,.int .i64 1,.int .i64 1,.int .i64 0,.int .i64 0,.int .i64 0,.int .i64 0,.int .i64 0,.int .i64 0,.int .i64 0,.int .i64 0,.int .i64 1,.int .i64 1,.int .i64 1,.int .i64 1] 3)
 have hr:=hid (ex21_run _ (((HG2.out.below B3.out).below b4).below ba) _ _ ((hp.below ba).more ba.size) (.slice (some ⟨W4.heap.size,0,none⟩) 15 15) [1,1,1,0,0,0,0,0,0,0,0,1,1,1,1] (sl_row rs (by decide) rfl) (by decide) E2 X2.out.1)
 have B4:=hid (B3.out.trans ((b4.trans (ba.mono b4.size)).mono B3.out.size))
 have B34:=hid (b4.trans (ba.mono b4.size))
 clear hp b4 ba rs
 go_wp2_with fail
 refine(hr.out).mono ?_
 rintro e W5 ⟨ov2,vv2,rfl,⟨oa2,on2,oc2,rfl⟩,hv,b5⟩
 obtain⟨ae2,ce2,rfl⟩:=OwnF.slv hv
 obtain⟨-,e3,e4⟩:=X2.out
 obtain⟨e1,e2⟩:=X1'.out
 have b25:=B4.out.trans (b5.mono B4.out.size)
 have b35:Below W3.heap.size W3 W5:=by
  refine Below.trans ?_ (b5.mono ?_)
  ·exact B34.out
  ·exact B34.out.size
 have r5:=row_below R2.out b35 (row_lt R2.out)
 have hv1:=OwnF.below HV.out b25
 obtain⟨g1,k1,hg1,-⟩:∃g k,ae=some ⟨g,0,none⟩∧ce=k:=by
  rcases OwnF.form hv1 with⟨h,h2⟩|⟨g,k,h,-⟩
  ·rw [h2] at e1;cases e1
  ·simp only[Value.slice.injEq] at h;exact⟨g,k,h.1,h.2.2⟩
 obtain⟨g2,k2,hg2,-⟩:∃g k,ae2=some ⟨g,0,none⟩∧ce2=k:=by
  rcases OwnF.form hv with⟨h,h2⟩|⟨g,k,h,-⟩
  ·rw [h2] at e3;cases e3
  ·simp only[Value.slice.injEq] at h;exact⟨g,k,h.1,h.2.2⟩
 subst hg1 hg2
 obtain⟨b',o',x,h1,-,hx,hc⟩:=(OwnF.sl hv1).atF Ev.len rfl (k:=11) (by omega)
 simp only[Option.some.injEq,Addr.mk.injEq] at h1
 obtain⟨rfl,rfl,-⟩:=h1
 rw[hx] at e2
 have c1:W5.cell? ⟨g1,94,none⟩=some (.int .i64 1):=by
  have:=hc 6 (by decide)
  simp only[Option.map_some,Option.some.injEq] at e2
  simpa[Ev.cells,e2] using this
 obtain⟨b',o',x',h1,-,hx',hc'⟩:=(OwnF.sl hv).atF Ev.len rfl (k:=13) (by omega)
 simp only[Option.some.injEq,Addr.mk.injEq] at h1
 obtain⟨rfl,rfl,-⟩:=h1
 rw[hx'] at e4
 have c2:W5.cell? ⟨g2,104,none⟩=some (.int .i64 6):=by
  have:=hc' 0 (by decide)
  simp only[Option.map_some,Option.some.injEq] at e4
  simpa[Ev.cells,e4] using this
 have l1:=(OwnF.lt hv1 g1 rfl).2
 have l2:=(OwnF.lt hv g2 rfl).2
 have l5:=row_lt r5
 rw[e1] at r5
 have y0:=row_cell r5 0
 have y1:=row_cell r5 1
 simp at y0 y1
 rw[e3]
 have HB:=hid ((B2.out).trans (b25.mono B2.out.size))
 clear hx hc hx' hc' e2 e4 hv hv1 b25 b35 r5 hr b5 B34
 rw[e1]
 go_wp2
 go_ret
 exact⟨rfl,HB.out.alloc HB.out.size _⟩
end
theorem lw_lwD (l:List Dd) (c:Int):lwD l c=lw l c:=rfl
def valsOf (cs:List Ce):List Int:=cs.map (·.val)
structure TrL (P:Pg) (M:LM) (A:Au) (ord:List (Int×Bool)):Prop where
 od:OrdOk A M.W.evs.length ord
 com:ComOk A ord
 link:∀(i:Nat) (t:Th),M.W.ths[i]?=some t→t.begun=true→∀c,(idOf i t.tx,c) ∈ ord→(c=true↔M.nx[i]?=some (.ends false))
 play:playO (deedsOf A) false P.cells ord=some (valsOf M.cs)
section
variable {P:Pg} {M M':LM} {A:Au} {ord:List (Int×Bool)}
theorem TrL.start (P:Pg):TrL P (startLM P) [] []:=by
 refine⟨OrdOk.zero,fun s hs=>(nomatch hs),fun i t ht hb=>?_,?_⟩
 ·have:t=Th.zero:=List.eq_of_mem_replicate (List.mem_of_getElem? ht)
  rw[this] at hb;cases hb
 ·simp only[playO,valsOf,startLM,List.map_map]
  congr 1
  exact(List.map_id' P.cells).symm
theorem TrL.stays (h:TrL P M A ord) (hJ:JInv P M.W A) {i k:Nat} {t t':Th} {s s':St} {e:Ev} (ht:M.W.ths[i]?=some t) (hb:t.begun=true) (hs:A[k]?=some s) (hid:s.id=idOf i t.tx)
  (hk:s'.id=s.id∧s'.beg=s.beg∧s'.thread=s.thread∧(s'.fin=s.fin∨s'.fin=M.W.evs.length)) (hst:∀c,(s.id,c) ∈ ord→(c=true→s'.status=3∨s'.status=2)∧(c=false→s'.status≠3))
  (hdd:M.nx[i]?=some (.ends false)→s'.deeds=s.deeds) (hcs:M'.cs=M.cs) (hW:M'.W=M.W.put i (t',e)) (hnx:∀j,j≠i→M'.nx[j]?=M.nx[j]?)
  (hlink:t'.begun=true→t'.tx=t.tx∧(M'.nx[i]?=some (.ends false)↔M.nx[i]?=some (.ends false))):TrL P M' (A.set k s') ord:=by
 have hsA:=List.mem_of_getElem? hs
 have htx3:=(hJ.bt i t ht).2 hb
 have hil:=(List.getElem?_eq_some_iff.1 ht).1
 refine⟨?_,fun x hx c hc=>?_,fun j u hu hub c hc=>?_,?_⟩
 ·have:=h.od.stays hJ.ids hs hk.1 hk.2.1 hk.2.2.2
  rw[hW]
  simpa[Wst.put] using this
 ·rcases mem_set hs hx hJ.ids with rfl|⟨hx,-⟩
  ·rw [hk.1] at hc
   exact hst c hc
  ·exact h.com x hx c hc
 ·have hu':(M.W.ths.set i t')[j]?=some u:=by rw[hW] at hu;exact hu
  rcases get_set hu' with⟨rfl,rfl⟩|⟨hne,hu'⟩
  ·obtain ⟨h1,h2⟩:=hlink hub
   rw[h1] at hc
   rw[h.link i t ht hb c hc,h2]
  ·rw [h.link j u hu' hub c hc,hnx j (Ne.symm hne)]
 ·rw [hcs,←h.play]
  refine(playO_congrF fun p hp hpt=>?_).symm
  rw[deedsOf_set hJ.ids hs hk.1]
  split
  ·rename_i he
   have hl:=(h.link i t ht hb p.2 (by rw[←hid,←he];exact hp)).1 hpt
   rw[he,deedsOf_id hJ.ids hsA,hdd hl]
  ·rfl
theorem late_fits (hL:LInv P M) (hJ:JInv P M.W A) (hD:DInv M A) {i:Nat} (hi:i < P.threads.length) {t:Th} {s:St} {r sw:MI} (ht:M.W.ths[i]?=some t) (hb:t.begun=true) (hw:t.waits=4) (hx:M.nx[i]?=some .look) (hs:s ∈ A) (hid:s.id=idOf i t.tx) (hs0:M.ws[i]?=some (some (r,sw))) (hst:stands r M.cs=true):
  rep (valsOf M.cs) s.deeds=some (valsOf (wrS sw (fun _=>false) M.cs)):=by
 obtain⟨k,s1,hk,h1,h2,h3⟩:=hJ.cur i t ht hb
 have:=ids_unique hJ.ids hs (List.mem_of_getElem? hk) (hid.trans h1.symm)
 subst this
 have h33:s.stand=3:=by rw[h3];simp[standOf,hw]
 have hdn:done s=s.deeds:=by unfold done;rw[if_neg (by omega)]
 obtain⟨d1,d2,d3,d4,d5⟩:=hD.cur i t s r sw ht hb hs hid hs0
 rw[hdn] at d1 d2 d3 d4
 have hv:=d4 (by rw[hx];simp)
 have hrs:=(hL.wo i r sw hs0).rsrt
 have hT:=fed_txs hJ.fed hJ.evs s hs
 have hF:=(fed_full hJ.fed s hs).1 (.inr (.inl h33))
 have hn:(valsOf M.cs).length=P.cells.length:=by unfold valsOf;rw[List.length_map,hL.csl]
 have g1:∀d ∈ s.deeds,(0≤d.obj∧d.obj < (P.cells.length:Nat))∧(d.op=1∧d.ret=3∨d.op=2∧d.ret=1∧d.got=0):=fun d hd=>by
  have hd1:=hT.deeds d hd
  refine⟨hd1.obj,?_⟩
  have h7:=hF d hd
  rcases hd1.ret with h8|h8
  ·exact absurd h8 h7
  ·rcases h8 with⟨h8,h9⟩|⟨h8,h9⟩
   ·exact .inr ⟨h8,h9,hd1.got0 (by omega)⟩
   ·exact .inl ⟨h8,h9⟩
 have g2:∀(j:Nat) (d:Dd),s.deeds[j]?=some d→d.op=1→lwD (s.deeds.take j) d.obj=none→(valsOf M.cs)[d.obj.toNat]?=some d.got:=fun j d hj ho hn'=>by
  obtain⟨v0,h7,h8,h9⟩:=hv j d hj ho hn'
  have h10:=List.all_eq_true.1 hst (d.obj,v0) ((fnd_some hrs).1 h7)
  have h11:=h9 (by simpa using h10)
  have hob:=(hT.deeds d (List.mem_of_getElem? hj)).obj
  have:=List.getElem?_eq_getElem (show d.obj.toNat < M.cs.length by rw[hL.csl];omega)
  unfold valsOf
  rw[List.getElem?_map,this,h11]
  unfold valAt
  rw[this];rfl
 obtain⟨τ,h4,h5,h6⟩:=rep_lw (n:=P.cells.length) (σ:=valsOf M.cs) (l:=s.deeds) hn g1 (fun j d hj ho v hv'=>d2 j d hj ho v hv') g2 s.deeds.length (Nat.le_refl _)
 rw[List.take_length] at h4 h6
 rw[h4]
 congr 1
 apply List.ext_getElem?
 intro c
 by_cases hc:c < P.cells.length
 ·rw [h6 c hc]
  unfold valsOf
  rw[List.getElem?_map,List.getElem?_map,wrS_get,lw_lwD,d1]
  have:=List.getElem?_eq_getElem (show c < M.cs.length by rw[hL.csl];exact hc)
  rw[this]
  cases fnd (c:Int) sw <;> simp
 ·rw [List.getElem?_eq_none (by omega),List.getElem?_eq_none (by unfold valsOf wrS;rw[List.length_map,List.length_mapIdx,hL.csl];omega)]
theorem latetr_step (hL:LInv P M) (hJ:JInv P M.W A) (hD:DInv M A) (h:TrL P M A ord) {i:Nat} (hi:i < P.threads.length) {t:Th} (ht:M.W.ths[i]?=some t) (hd:thDone P i t=false) (hs:Stp P M i t M'):
  ∃A' ord',JInv P M'.W A'∧TrL P M' A' ord':=by
 obtain⟨htk,htr⟩:=hL.th i t ht
 have hi4:i < 4:=by have:=hL.ok.threads.2;omega
 have htx:=tx_lt hL.ok hi htk hd
 have ht3:=Pg.tx3 hL.ok hi
 have ha6:=acts_le hL.ok hi t.tx
 have hcl:P.cells.length≤4:=hL.ok.cells.2
 have hT0:tot P≤2380:=by unfold tot;have:=hL.ok.threads.2;omega
 have hev:=hL.ev
 have hnxl:i < M.nx.length:=by rw[hL.nxl];exact hi
 have nset:∀(j:Nat) (x:Nx),j≠i→(M.nx.set i x)[j]?=M.nx[j]?:=fun j x hne=>List.getElem?_set_ne (Ne.symm hne)
 have self:∀x:Nx,(M.nx.set i x)[i]?=some x:=fun x=>List.getElem?_set_self hnxl
 have hnone:M.nx[i]?=some .none→¬M.nx[i]?=some (.ends false):=fun h=>by rw[h];simp
 have cf:∀{s:St},s ∈ A→s.id=idOf i t.tx→t.begun=true→M.nx[i]?≠some (.ends false)→∀{st:Int},st≠3→∀c,(s.id,c) ∈ ord→(c=true→st=3∨st=2)∧(c=false→st≠3):=fun {s} hsA hid hb hne {st} hst c hc=>by
  refine⟨fun e=>absurd ((h.link i t ht hb c (by rw[←hid];exact hc)).1 e) hne,fun _=>hst⟩
 cases hs with
 |begin hw hb hx=>
  obtain⟨hF,hj'⟩:=hJ.begun ht hb (by omega) (by omega) hw
  have hno:¬hasId (idOf i t.tx) A:=hJ.fresh ht hb (by omega)
  refine⟨_,ord++[(idOf i t.tx,false)],hj',?_,fun s hs c hc=>?_,fun j u hu hub c hc=>?_,?_⟩
  ·have:=h.od.begun (s:=newSt (withTx {ev0 1 with thread:=i} (idOf i t.tx)) M.W.evs.length) rfl rfl hno
   simpa[Wst.put,newSt,withTx] using this
  ·have hmem:∀x ∈ A,x.id≠idOf i t.tx:=fun x hx e=>hno ⟨x,hx,e⟩
   rcases List.mem_append.1 hs with hs|hs
   ·rcases List.mem_append.1 hc with hc|hc
    ·exact h.com s hs c hc
    ·simp only[List.mem_singleton,Prod.mk.injEq] at hc
     exact absurd hc.1 (hmem s hs)
   ·obtain rfl:=List.mem_singleton.1 hs
    have hcf:c=false:=by
     rcases List.mem_append.1 hc with hc|hc
     ·obtain ⟨x,hx,he⟩:=h.od.mem hc
      exact absurd he (hmem x hx)
     ·simp only[List.mem_singleton,Prod.mk.injEq] at hc
      exact hc.2
    refine⟨fun e=>absurd (hcf.symm.trans e) (by decide),fun _=>?_⟩
    show(1:Int)≠3
    decide
  ·have hu':(M.W.ths.set i {t with begun:=true})[j]?=some u:=hu
   rcases get_set hu' with⟨rfl,rfl⟩|⟨hne,hu'⟩
   ·have hcf:c=false:=by
     rcases List.mem_append.1 hc with hc|hc
     ·obtain ⟨x,hx,he⟩:=h.od.mem hc
      exact absurd ⟨x,hx,he⟩ hno
     ·simp only[List.mem_singleton,Prod.mk.injEq] at hc
      exact hc.2
    show c=true↔(M.nx.set i .none)[i]?=_
    rw[self,hcf];simp
   ·have hub3:=(hJ.bt j u hu').2 hub
    have hcm:(idOf j u.tx,c) ∈ ord:=by
     rcases List.mem_append.1 hc with hc|hc
     ·exact hc
     ·simp only[List.mem_singleton,Prod.mk.injEq] at hc
      have h33:t.tx < 3:=by omega
      exact absurd (idOf_inj h33 hub3 hc.1.symm).1 hne
    show c=true↔(M.nx.set i .none)[j]?=_
    rw[nset j _ (Ne.symm hne)]
    exact h.link j u hu' hub c hcm
  ·rw [playO_snoc (τ:=valsOf M.cs)]
   ·simp [stepO]
   ·rw [←h.play]
    refine(playO_congrF fun p hp _=>?_).symm
    rw[deedsOf_app _ hno]
    split
    ·rename_i he
     obtain⟨x,hx,hxe⟩:=h.od.mem hp
     exact absurd ⟨x,hx,hxe.trans he⟩ hno
    ·rfl
 |call a hw hb hx ha hk=>
  obtain⟨-,hc0,hc1,hv0,hv1⟩:=hL.kinds hi hd htk ha hk
  obtain⟨k,s,hs,hid,hth,hst,hj'⟩:=hJ.called ht hb hw ha hk (by omega) ⟨hc0,hc1,by omega⟩ (fun _=>by unfold inB VB at htr;unfold wrVal;split <;> omega)
  have hsA:=List.mem_of_getElem? hs
  have h1:s.stand=1:=by rw[hst];simp[standOf,hw]
  have hs1:s.status=1:=(fed_full hJ.fed s hsA).2.2.1 (.inl h1)
  exact⟨_,ord,hj',h.stays hJ ht hb hs hid ⟨rfl,rfl,rfl,.inl rfl⟩ (cf hsA hid hb (hnone hx) (by show s.status≠3;omega)) (fun e=>absurd e (hnone hx)) rfl rfl (fun j hne=>nset j _ hne) fun _=>⟨rfl,by rw[self,hx];simp⟩⟩
 |cancel a hw hb hx ha hk=>
  obtain⟨k,s,hs,hid,hth,hst,hj'⟩:=hJ.cancelled ht hb hw (by omega)
  have hsA:=List.mem_of_getElem? hs
  have h1:s.stand=1:=by rw[hst];simp[standOf,hw]
  have hs1:s.status=1:=(fed_full hJ.fed s hsA).2.2.1 (.inl h1)
  exact⟨_,ord,hj',h.stays hJ ht hb hs hid ⟨rfl,rfl,rfl,.inl rfl⟩ (cf hsA hid hb (hnone hx) (by show s.status≠3;omega)) (fun e=>absurd e (hnone hx)) rfl rfl (fun j hne=>nset j _ hne) fun _=>⟨rfl,by rw[self,hx];simp⟩⟩
 |try_ hw hb hx ha=>
  obtain⟨k,s,hs,hid,hth,hst,hj'⟩:=hJ.tried ht hb hw (by omega)
  have hsA:=List.mem_of_getElem? hs
  exact⟨_,ord,hj',h.stays hJ ht hb hs hid ⟨rfl,rfl,rfl,.inl rfl⟩ (cf hsA hid hb (hnone hx) (by show(2:Int)≠3;omega)) (fun e=>absurd e (hnone hx)) rfl rfl (fun j hne=>nset j _ hne) fun _=>⟨rfl,by rw[self,hx];simp⟩⟩
 |wrote a r s0 hw hb hx ha hk hs0=>
  obtain⟨k,s,hs,hid,hth,hst,hj'⟩:=hJ.answered (ret:=1) (got:=0) ht hb hw (by omega) ha (.inl ⟨hk,rfl,rfl,rfl⟩) (by omega)
  have hsA:=List.mem_of_getElem? hs
  have h2:s.stand=2:=by rw[hst];simp[standOf,hw]
  have hs1:s.status=1:=((fed_full hJ.fed s hsA).2.1 h2).1
  have hne:M.nx[i]?≠some (.ends false):=by rw[hx];simp
  obtain⟨d,hdl⟩:=hJ.dd s hsA h2
  have er:retSt 1 0 M.W.evs.length s={s with stand:=1,deeds:=s.deeds.dropLast++[retDd d 1 0 M.W.evs.length]}:=by unfold retSt;rw[hdl]
  refine⟨_,ord,hj',h.stays (t':=wrTh t) hJ ht hb hs hid (by rw[er];exact⟨rfl,rfl,rfl,.inl rfl⟩) (cf hsA hid hb hne (by rw[er];show s.status≠3;omega)) (fun e=>absurd e hne) rfl rfl (fun j hne=>nset j _ hne) fun _=>⟨rfl,by rw[self,hx];simp⟩⟩
 |kept a r s0 v hw hb hx ha hk hs0 hf=>
  have hvb:-1000000000≤v∧v≤1000000000:=by
   have hwo:=hL.wo i r s0 hs0
   have hvv:=hwo.val (a.cell,v) ((fnd_some hwo.ssrt).1 hf)
   unfold inB VB at hvv
   simp only at hvv
   omega
  obtain⟨k,s,hs,hid,hth,hst,hj'⟩:=hJ.answered (ret:=3) (got:=v) ht hb hw (by omega) ha (.inr ⟨hk,rfl,rfl⟩) hvb
  have hsA:=List.mem_of_getElem? hs
  have h2:s.stand=2:=by rw[hst];simp[standOf,hw]
  have hs1:s.status=1:=((fed_full hJ.fed s hsA).2.1 h2).1
  have hne:M.nx[i]?≠some (.ends false):=by rw[hx];simp
  obtain⟨d,hdl⟩:=hJ.dd s hsA h2
  have er:retSt 3 v M.W.evs.length s={s with stand:=1,deeds:=s.deeds.dropLast++[retDd d 3 v M.W.evs.length]}:=by unfold retSt;rw[hdl]
  have t1:(rdTh t a v).tx=t.tx:=by unfold rdTh;split <;> rfl
  refine⟨_,ord,hj',h.stays (t':=rdTh t a v) hJ ht hb hs hid (by rw[er];exact⟨rfl,rfl,rfl,.inl rfl⟩) (cf hsA hid hb hne (by rw[er];show s.status≠3;omega)) (fun e=>absurd e hne) rfl rfl (fun j hne=>nset j _ hne) fun _=>⟨t1,by rw[self,hx];simp⟩⟩
 |read a r s0 r1 hw hb hx ha hk hs0 hf hr1=>
  obtain⟨-,hc0,hc1,hv0,hv1⟩:=hL.kinds hi hd htk ha (by rcases hk with h|⟨h,-⟩ <;> omega)
  obtain⟨v,hv⟩:∃v,v=valAt M.cs a.cell:=⟨_,rfl⟩
  have hvb:-1000000000≤v∧v≤1000000000:=by
   have hx:=List.getElem?_eq_getElem (show a.cell.toNat < M.cs.length by rw[hL.csl];omega)
   have:=(hL.ce _ (List.mem_of_getElem? hx)).1
   rw[hv]
   unfold valAt
   rw[hx]
   unfold inB VB at this
   simp only
   omega
  rw[←hv]
  obtain⟨k,s,hs,hid,hth,hst,hj'⟩:=hJ.answered (ret:=3) (got:=v) ht hb hw (by omega) ha (.inr ⟨hk,rfl,rfl⟩) hvb
  have hsA:=List.mem_of_getElem? hs
  have h2:s.stand=2:=by rw[hst];simp[standOf,hw]
  have hs1:s.status=1:=((fed_full hJ.fed s hsA).2.1 h2).1
  have hne:M.nx[i]?≠some (.ends false):=by rw[hx];simp
  obtain⟨d,hdl⟩:=hJ.dd s hsA h2
  have er:retSt 3 v M.W.evs.length s={s with stand:=1,deeds:=s.deeds.dropLast++[retDd d 3 v M.W.evs.length]}:=by unfold retSt;rw[hdl]
  have t1:(rdTh t a v).tx=t.tx:=by unfold rdTh;split <;> rfl
  refine⟨_,ord,hj',h.stays (t':=rdTh t a v) hJ ht hb hs hid (by rw[er];exact⟨rfl,rfl,rfl,.inl rfl⟩) (cf hsA hid hb hne (by rw[er];show s.status≠3;omega)) (fun e=>absurd e hne) rfl rfl (fun j hne=>nset j _ hne) fun _=>⟨t1,by rw[self,hx];simp⟩⟩
 |abort hw hb hne=>
  obtain⟨k,s,hs,hid,hth,hst,hj'⟩:=hJ.ended (kind:=6) (status:=4) ht hb (by omega) ha6 htk.act (fun h=>by omega) (.inr ⟨rfl,rfl,by omega⟩)
  have hsA:=List.mem_of_getElem? hs
  exact⟨_,ord,hj',h.stays (t':=endTh t) hJ ht hb hs hid ⟨rfl,rfl,rfl,.inr rfl⟩ (cf hsA hid hb hne (by show(4:Int)≠3;omega)) (fun e=>absurd e hne) rfl rfl (fun j hne=>nset j _ hne) fun e=>by cases e⟩
 |looked r s0 hw hb hx hs0 hst=>
  obtain⟨k,s,hs,hid,hth,hsts⟩:=hJ.cur i t ht hb
  have hsA:=List.mem_of_getElem? hs
  have h3:s.stand=3:=by rw[hsts];simp[standOf,hw]
  have hfin:s.fin < 0:=by
   have:=(fed_txs hJ.fed hJ.evs s hsA).fin (by omega)
   omega
  have hst2:=(fed_full hJ.fed s hsA).2.2.2.1 h3
  have hnd:=h.od.nodup hJ.ids
  refine⟨A,toEnd s.id true ord,hJ,h.od.put hJ.ids hsA hfin true,fun x hx' c hc=>?_,fun j u hu hub c hc=>?_,?_⟩
  ·rcases mem_toEnd.1 hc with e|⟨hc,hne⟩
   ·simp only[Prod.mk.injEq] at e
    have:=ids_unique hJ.ids hx' hsA e.1
    subst this
    exact⟨fun _=>.inr hst2,fun e2=>by rw[e.2] at e2;cases e2⟩
   ·exact h.com x hx' c hc
  ·by_cases hji:j=i
   ·subst hji
    have hu':M.W.ths[j]?=some u:=hu
    rw[ht] at hu'
    obtain rfl:=Option.some.inj hu'
    show c=true↔(M.nx.set j (.ends false))[j]?=_
    rw[self]
    rcases mem_toEnd.1 hc with e|⟨hc,hne⟩
    ·simp only[Prod.mk.injEq] at e
     simp[e.2]
    ·exact absurd hid.symm hne
   ·have hu':M.W.ths[j]?=some u:=hu
    have hub3:=(hJ.bt j u hu').2 hub
    have h33:t.tx < 3:=by omega
    show c=true↔(M.nx.set i (.ends false))[j]?=_
    rw[nset j _ hji]
    rcases mem_toEnd.1 hc with e|⟨hc,hne⟩
    ·simp only[Prod.mk.injEq] at e
     exact absurd (idOf_inj hub3 h33 (e.1.trans hid)).1 hji
    ·exact h.link j u hu' hub c hc
  ·rw [toEnd_play h.play (fun b hb'=>?_) (fun y _ ρ=>rfl)]
   ·have hf:=late_fits hL hJ hD hi ht hb hw hx hsA hid hs0 hst
    unfold stepO
    rw[if_neg (by simp),deedsOf_id hJ.ids hsA,hf]
    simp
   ·cases hbb:b with
    |false=>rfl
    |true=>
     have:=(h.link i t ht hb b (by rw[←hid];exact hb')).1 hbb
     rw[hx] at this
     simp at this
 |commit hw hb hx=>
  obtain⟨k,s,hs,hid,hth,hst,hj'⟩:=hJ.ended (kind:=5) (status:=3) ht hb (by omega) ha6 htk.act (fun h=>by omega) (.inl ⟨rfl,rfl,hw⟩)
  have hsA:=List.mem_of_getElem? hs
  refine⟨_,ord,hj',h.stays (t':=endTh t) hJ ht hb hs hid ⟨rfl,rfl,rfl,.inr rfl⟩ (fun c hc=>⟨fun _=>.inl rfl,fun e=>?_⟩) (fun e=>rfl) rfl rfl (fun j hne=>nset j _ hne) fun e=>by cases e⟩
  have:=(h.link i t ht hb c (by rw[←hid];exact hc)).2 hx
  rw[this] at e;cases e
structure Lall2 (P:Pg) (M:LM) (A:Au) (ord:List (Int×Bool)):Prop where
 all:Lall P M A
 tr:TrL P M A ord
theorem Lall2.step (h:Lall2 P M A ord) (i:Int):∃A' ord',Lall2 P (stepTo P M i) A' ord':=by
 unfold stepTo
 cases hd:wDone P M.W i with
 |true=>exact⟨A,ord,h⟩
 |false=>
  obtain⟨k,rfl,hk⟩:=wDone_in h.all.li.thl hd
  obtain⟨t,ht⟩:∃t,M.W.ths[k]?=some t:=⟨_,List.getElem?_eq_getElem (by rw[h.all.li.thl];exact hk)⟩
  have hdn:thDone P k t=false:=by rw[←wDone_th ht];exact hd
  have hs:=stp_of h.all.li hk ht hd
  obtain⟨A',h1,h2,h3⟩:=late_step h.all.li h.all.ji h.all.ti h.all.di hk ht hdn hs
  obtain⟨A2,ord',h4,h5⟩:=latetr_step h.all.li h.all.ji h.all.di h.tr hk ht hdn hs
  have e:=fed_one h1.fed h4.fed
  subst e
  exact⟨A',ord',⟨(stp_inv h.all.li hk ht hdn hs).1,bstep h.all.li h.all.bi ht hdn hs,h1,h2,h3⟩,h5⟩
theorem Lall2.steps:∀(l:List Int) {M:LM} {A:Au} {ord:List (Int×Bool)},Lall2 P M A ord→∃A' ord',Lall2 P (stepsTo P M l) A' ord'
 |[],_,A,ord,h=>⟨A,ord,h⟩
 |i::l,_,_,_,h=>let ⟨_,_,h1⟩:=h.step i;Lall2.steps l h1
theorem late_run2 (h:PgOk P) {l:List Int} {full:Bool} (hr:RunOf P (startLM P) l full M):∃A ord,Lall2 P M A ord:=by
 have hst:Lall2 P (startLM P) [] []:=⟨Lall.start h,TrL.start P⟩
 unfold RunOf at hr
 split at hr
 ·obtain ⟨l2,rfl,-⟩:=hr
  exact hst.steps _
 ·rw [hr];exact hst.steps _
theorem Lall2.ends (h:Lall2 P M A ord):(gmOf 2 A).Ends (0,P.cells):=
 ends_gm (.inr (.inl rfl)) h.all.ji.ids h.tr.od h.tr.com (fun s hs=>by have:=fed_times h.all.ji.fed s hs;omega) (by simpa using h.tr.play)
end
