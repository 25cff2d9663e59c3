/- Parts of the proof, merged by program out of 2 texts (LmD, LmE): the first: The engine late as plain lists: what its histories say, transaction by transaction. Conditions: those of each theorem, as typed. -/
import Derived.Test.YtkfhgifhfkcehaaGreatDoorQL49
import Derived.Test.YtkfhgifhfkcehaaGreatDoorQL29
set_option linter.unusedVariables false
set_option linter.unusedSimpArgs false
set_option linter.unusedSectionVars false
set_option maxRecDepth 100000
set_option maxHeartbeats 4000000
namespace Go.Proofs.YtkfhgifhfkcehaaGreatDoor
open Go.Maps Go.RowKit
def lw (l:List Dd) (c:Int):Option Int:=l.foldl (fun o d=>if d.op=2∧d.obj=c then some d.val else o) none
theorem lw_snoc (l:List Dd) (d:Dd) (c:Int):lw (l++[d]) c=if d.op=2∧d.obj=c then some d.val else lw l c:=by simp[lw,List.foldl_append]
def Rdd (l:List Dd):Prop:=∀(j:Nat) (d:Dd),l[j]?=some d→d.op=1→∀v,lw (l.take j) d.obj=some v→d.got=v
def One (l:List Dd):Prop:=∀(j j':Nat) (d d':Dd),l[j]?=some d→l[j']?=some d'→d.op=1→d'.op=1→d.obj=d'.obj→lw (l.take j) d.obj=none→lw (l.take j') d'.obj=none→d.got=d'.got
def Vrd (cs:List Ce) (r:MI) (l:List Dd):Prop:=∀(j:Nat) (d:Dd),l[j]?=some d→d.op=1→lw (l.take j) d.obj=none→∃v0,fnd d.obj r=some v0∧v0≤verAt cs d.obj∧(verAt cs d.obj=v0→d.got=valAt cs d.obj)
theorem Rdd.snoc {l:List Dd} {d:Dd} (h:Rdd l) (hd:d.op=1→∀v,lw l d.obj=some v→d.got=v):Rdd (l++[d]):=by
 intro j x hj ho v hv
 by_cases hlt:j < l.length
 ·rw [List.getElem?_append_left hlt] at hj
  rw[List.take_append_of_le_length (by omega)] at hv
  exact h j x hj ho v hv
 ·have hl:=(List.getElem?_eq_some_iff.1 hj).1
  simp only[List.length_append,List.length_cons,List.length_nil] at hl
  obtain rfl:j=l.length:=by omega
  simp only[List.getElem?_concat_length,Option.some.injEq] at hj
  subst hj
  rw[List.take_left] at hv
  exact hd ho v hv
theorem Vrd.snoc {cs:List Ce} {r r':MI} {l:List Dd} {d:Dd} (h:Vrd cs r l) (hr:∀c v,fnd c r=some v→fnd c r'=some v) (hd:d.op=1→lw l d.obj=none→∃v0,fnd d.obj r'=some v0∧v0≤verAt cs d.obj∧(verAt cs d.obj=v0→d.got=valAt cs d.obj)):Vrd cs r' (l++[d]):=by
 intro j x hj ho hv
 by_cases hlt:j < l.length
 ·rw [List.getElem?_append_left hlt] at hj
  rw[List.take_append_of_le_length (by omega)] at hv
  obtain⟨v0,h1,h2⟩:=h j x hj ho hv
  exact⟨v0,hr _ _ h1,h2⟩
 ·have hl:=(List.getElem?_eq_some_iff.1 hj).1
  simp only[List.length_append,List.length_cons,List.length_nil] at hl
  obtain rfl:j=l.length:=by omega
  simp only[List.getElem?_concat_length,Option.some.injEq] at hj
  subst hj
  rw[List.take_left] at hv
  exact hd ho hv
theorem Vrd.one {cs:List Ce} {r:MI} {l:List Dd} (h:Vrd cs r l) (hs:KSrt r) (hst:stands r cs=true):One l:=by
 intro j j' d d' hj hj' ho ho' he hn hn'
 have key:∀(j:Nat) (d:Dd),l[j]?=some d→d.op=1→lw (l.take j) d.obj=none→d.got=valAt cs d.obj:=fun j d hj ho hn=>by
  obtain⟨v0,h1,h2,h3⟩:=h j d hj ho hn
  refine h3 ?_
  have:=List.all_eq_true.1 hst (d.obj,v0) ((fnd_some hs).1 h1)
  simpa using this
 rw[key j d hj ho hn,key j' d' hj' ho' hn',he]
def RdsOne (l:List Dd):Prop:=∀(k j:Nat) (d d':Dd),k < j→l[k]?=some d→l[j]?=some d'→d.op=1→d'.obj=d.obj→(∀(m:Nat) (x:Dd),k < m→m≤j→l[m]?=some x→¬(x.obj=d.obj∧x.op=2))→d'.got=d.got
theorem lw_between {l:List Dd} {c:Int} {k:Nat}:∀(n:Nat),(∀(m:Nat) (x:Dd),k≤m→m < k+n→l[m]?=some x→¬(x.obj=c∧x.op=2))→lw (l.take (k+n)) c=lw (l.take k) c
 |0,_=>rfl
 |n+1,h=>by
  rw[←lw_between n fun m x h1 h2=>h m x h1 (by omega)]
  cases hx:l[k+n]? with
  |none=>
   have:=List.getElem?_eq_none_iff.1 hx
   rw[List.take_of_length_le (by omega),List.take_of_length_le (by omega)]
  |some x=>
   have hlt:=(List.getElem?_eq_some_iff.1 hx).1
   rw[show k+(n+1)=k+n+1 by omega,List.take_add_one,hx]
   simp only[Option.toList_some]
   rw[lw_snoc,if_neg]
   rintro⟨h1,h2⟩
   exact h (k+n) x (by omega) (by omega) hx ⟨h2,h1⟩
theorem rdsOne {l:List Dd} (h1:Rdd l) (h2:One l) (ho:∀d ∈ l,d.op=1∨d.op=2):RdsOne l:=by
 intro k j d d' hkj hk hj hop hobj hno
 have hop':d'.op=1:=by
  rcases ho d' (List.mem_of_getElem? hj) with h|h
  ·exact h
  ·exact absurd ⟨hobj,h⟩ (hno j d' hkj (Nat.le_refl _) hj)
 have e:lw (l.take j) d.obj=lw (l.take k) d.obj:=by
  have:=lw_between (l:=l) (c:=d.obj) (k:=k) (j - k) fun m x hm1 hm2 hx=>by
   by_cases e:m=k
   ·subst e
    rw[hk] at hx
    obtain rfl:=Option.some.inj hx
    rintro⟨-,h⟩
    omega
   ·exact hno m x (by omega) (by omega) hx
  rwa [show k+(j - k)=j by omega] at this
 cases hl:lw (l.take k) d.obj with
 |some v=>rw[h1 k d hk hop v hl,h1 j d' hj hop' v (by rw[hobj,e,hl])]
 |none=>exact(h2 k j d d' hk hj hop hop' hobj.symm hl (by rw[hobj,e,hl])).symm
theorem wrS_at (s:MI) (cs:List Ce) (c:Int):(verAt (wrS s (fun _=>false) cs) c=verAt cs c∧valAt (wrS s (fun _=>false) cs) c=valAt cs c)∨verAt (wrS s (fun _=>false) cs) c=verAt cs c+1:=by
 unfold verAt valAt
 rw[wrS_get]
 cases hc:cs[c.toNat]? with
 |none=>exact .inl ⟨rfl,rfl⟩
 |some x=>
  simp only[Option.map_some]
  cases fnd (c.toNat:Int) s with
  |none=>exact .inl ⟨rfl,rfl⟩
  |some v=>exact .inr (by simp)
theorem Vrd.wrote {cs:List Ce} {s r:MI} {l:List Dd} (h:Vrd cs r l):Vrd (wrS s (fun _=>false) cs) r l:=by
 intro j d hj ho hn
 obtain⟨v0,h1,h2,h3⟩:=h j d hj ho hn
 rcases wrS_at s cs d.obj with⟨h4,h5⟩|h4
 ·exact ⟨v0,h1,by omega,fun e=>by rw[h5];exact h3 (by omega)⟩
 ·exact ⟨v0,h1,by omega,fun e=>by omega⟩
def done (s:St):List Dd:=if s.stand=2 then s.deeds.dropLast else s.deeds
structure TInv (M:LM) (A:Au):Prop where
 back:∀s ∈ A,(s.stand≠2→∀d ∈ s.deeds,0≤d.back)∧∀d ∈ s.deeds.dropLast,0≤d.back
 try3:∀s ∈ A,s.stand=3→0≤s.tri
 can4:∀s ∈ A,s.stand=4→∃(l:Nat) (e:Ev),M.W.evs[l]?=some e∧e.kind=7∧e.tx=s.id
 abt:∀(j:Nat) (e:Ev),M.W.evs[j]?=some e→e.kind=6→(∃s ∈ A,s.id=e.tx∧0≤s.tri)∨∃(l:Nat) (e':Ev),l < j∧M.W.evs[l]?=some e'∧e'.kind=7∧e'.tx=e.tx
 ops:∀s ∈ A,∀d ∈ s.deeds,d.op=1∨d.op=2
structure DOne (M:LM) (i:Nat) (s:St) (r sw:MI):Prop where
 lws:∀c,lw (done s) c=fnd c sw
 rdd:Rdd (done s)
 one:M.nx[i]?=some (.ends false)→One (done s)
 vrd:M.nx[i]?≠some (.ends false)→Vrd M.cs r (done s)
 rv:∀p ∈ r,p.2≤verAt M.cs p.1
structure DInv (M:LM) (A:Au):Prop where
 cur:∀(i:Nat) (t:Th) (s:St) (r sw:MI),M.W.ths[i]?=some t→t.begun=true→s ∈ A→s.id=idOf i t.tx→M.ws[i]?=some (some (r,sw))→DOne M i s r sw
 com:∀s ∈ A,s.status=3→s.stand=5∧Rdd s.deeds∧One s.deeds
section
variable {P:Pg} {M M':LM} {A:Au}
theorem back_snoc {l:List Dd} {d:Dd} (h:∀x ∈ l,0≤x.back) (hd:0≤d.back):∀x ∈ l++[d],0≤x.back:=by
 intro x hx
 simp only[List.mem_append,List.mem_singleton] at hx
 rcases hx with hx|rfl
 ·exact h x hx
 ·exact hd
theorem last_snoc {l:List Dd} {d:Dd} (h:l.getLast?=some d):l=l.dropLast++[d]:=by
 obtain⟨ys,rfl⟩:=List.getLast?_eq_some_iff.1 h
 simp
theorem TInv.set (h:TInv M A) (hn:(A.map (·.id)).Nodup) {k:Nat} {s s':St} {e:Ev} (hs:A[k]?=some s) (hid:s'.id=s.id) (htri:0≤s.tri→0≤s'.tri) (he:M'.W.evs=M.W.evs++[e])
  (h1:(s'.stand≠2→∀d ∈ s'.deeds,0≤d.back)∧∀d ∈ s'.deeds.dropLast,0≤d.back) (h2:s'.stand=3→0≤s'.tri) (h3:s'.stand=4→e.kind=7∧e.tx=s.id) (h4:e.kind=6→e.tx=s.id∧(0≤s'.tri∨s.stand=4)) (h5:∀d ∈ s'.deeds,d.op=1∨d.op=2):TInv M' (A.set k s'):=by
 have hsA:=List.mem_of_getElem? hs
 have old:∀(l:Nat) (x:Ev),M.W.evs[l]?=some x→M'.W.evs[l]?=some x:=fun l x hx=>by rw[he,List.getElem?_append_left (List.getElem?_eq_some_iff.1 hx).1];exact hx
 refine⟨fun x hx=>?_,fun x hx=>?_,fun x hx hst=>?_,fun j x hj hk=>?_,fun x hx=>?_⟩
 ·rcases mem_set hs hx hn with rfl|⟨hx,-⟩
  ·exact h1
  ·exact h.back x hx
 ·rcases mem_set hs hx hn with rfl|⟨hx,-⟩
  ·exact h2
  ·exact h.try3 x hx
 ·rcases mem_set hs hx hn with rfl|⟨hx,-⟩
  ·exact ⟨M.W.evs.length,e,by rw[he];simp,(h3 hst).1,by rw[hid];exact(h3 hst).2⟩
  ·obtain ⟨l,y,h6,h7⟩:=h.can4 x hx hst
   exact⟨l,y,old l y h6,h7⟩
 ·rw [he] at hj
  by_cases hlt:j < M.W.evs.length
  ·rw [List.getElem?_append_left hlt] at hj
   rcases h.abt j x hj hk with⟨y,hy,hyi,hyt⟩|⟨l,y,h6,h7,h8⟩
   ·refine .inl ?_
    by_cases hys:y.id=s.id
    ·have:=ids_unique hn hy hsA hys
     subst this
     exact⟨s',mem_set_self hs,hid.trans hyi,htri hyt⟩
    ·exact ⟨y,set_mem hs hy hys,hyi,hyt⟩
   ·exact .inr ⟨l,y,h6,old l y h7,h8⟩
  ·have hl:=(List.getElem?_eq_some_iff.1 hj).1
   simp only[List.length_append,List.length_cons,List.length_nil] at hl
   obtain rfl:j=M.W.evs.length:=by omega
   simp only[List.getElem?_concat_length,Option.some.injEq] at hj
   subst hj
   obtain⟨h6,h7⟩:=h4 hk
   rcases h7 with h7|h7
   ·exact .inl ⟨s',mem_set_self hs,hid.trans h6.symm,h7⟩
   ·obtain ⟨l,y,h8,h9,h10⟩:=h.can4 s hsA h7
    exact .inr ⟨l,y,(List.getElem?_eq_some_iff.1 h8).1,old l y h8,h9,by rw[h10,h6]⟩
 ·rcases mem_set hs hx hn with rfl|⟨hx,-⟩
  ·exact h5
  ·exact h.ops x hx
theorem DInv.set (h:DInv M A) (hj:JInv P M.W A) {i:Nat} {t t':Th} {k:Nat} {s s':St} (ht:M.W.ths[i]?=some t) (hb:t.begun=true) (hs:A[k]?=some s) (hi:s.id=idOf i t.tx) (hid:s'.id=s.id)
  (h1:M'.W.ths=M.W.ths.set i t') (h2:∀j,j≠i→M'.ws[j]?=M.ws[j]?) (h3:∀j,j≠i→M'.nx[j]?=M.nx[j]?) (h4:M'.cs=M.cs)
  (hcur:t'.begun=true→t'.tx=t.tx∧∀r sw,M'.ws[i]?=some (some (r,sw))→DOne M' i s' r sw) (hcom:s'.status=3→s'.stand=5∧Rdd s'.deeds∧One s'.deeds):DInv M' (A.set k s'):=by
 have hsA:=List.mem_of_getElem? hs
 have htx3:=(hj.bt i t ht).2 hb
 refine⟨fun j u x r sw hu hub hx hxi hw=>?_,fun x hx=>?_⟩
 ·rw [h1] at hu
  rcases get_set hu with⟨rfl,rfl⟩|⟨hne,hu⟩
  ·obtain ⟨h5,h6⟩:=hcur hub
   rcases mem_set hs hx hj.ids with rfl|⟨hx,hxn⟩
   ·exact h6 r sw hw
   ·exact absurd (by rw[hxi,hi,h5]) hxn
  ·rcases mem_set hs hx hj.ids with rfl|⟨hx,hxn⟩
   ·exfalso
    have:=(hj.bt j u hu).2 hub
    exact hne (idOf_inj htx3 this (by rw[←hi,←hid,hxi])).1
   ·rw [h2 j (Ne.symm hne)] at hw
    obtain⟨d1,d2,d3,d4,d5⟩:=h.cur j u x r sw hu hub hx hxi hw
    refine⟨d1,d2,?_,?_,?_⟩
    ·rw [h3 j (Ne.symm hne)];exact d3
    ·rw [h3 j (Ne.symm hne),h4];exact d4
    ·rw [h4];exact d5
 ·rcases mem_set hs hx hj.ids with rfl|⟨hx,-⟩
  ·exact hcom
  ·exact h.com x hx
theorem last_done {s:St} {d:Dd} (h2:s.stand=2) (hd:s.deeds.getLast?=some d):s.deeds=done s++[d]:=by
 unfold done
 rw[if_pos h2]
 exact last_snoc hd
theorem done_call (e:Ev) (n:Nat) (s:St) (h:s.stand=1):done (callSt e n s)=done s:=by
 unfold done callSt
 simp[h]
theorem done_ret {s:St} {d:Dd} (h2:s.stand=2) (hd:s.deeds.getLast?=some d) (ret got:Int) (n:Nat):retSt ret got n s={s with stand:=1,deeds:=done s++[retDd d ret got n]}∧done (retSt ret got n s)=done s++[retDd d ret got n]:=by
 have e:retSt ret got n s={s with stand:=1,deeds:=done s++[retDd d ret got n]}:=by
  unfold retSt done
  rw[hd,if_pos h2]
 refine⟨e,?_⟩
 rw[e]
 rfl
theorem DOne.same {i:Nat} {s s':St} {r sw:MI} (h:DOne M i s r sw) (h1:done s'=done s) (h2:M'.nx[i]?≠some (.ends false)) (h3:M.nx[i]?≠some (.ends false)) (h4:M'.cs=M.cs):DOne M' i s' r sw:=
 ⟨by rw[h1];exact h.lws,by rw[h1];exact h.rdd,fun e=>absurd e h2,fun _=>by rw[h1,h4];exact h.vrd h3,by rw[h4];exact h.rv⟩
theorem late_step (hL:LInv P M) (hJ:JInv P M.W A) (hT:TInv M A) (hD:DInv M A) {i:Nat} (hi:i < P.threads.length) {t:Th} (ht:M.W.ths[i]?=some t) (hd:thDone P i t=false) (hs:Stp P M i t M'):
  ∃A',JInv P M'.W A'∧TInv M' A'∧DInv M' A':=by
 obtain⟨htk,htr⟩:=hL.th i t ht
 have hi4:i < 4:=by have:=hL.ok.threads.2;omega
 have htx:=tx_lt hL.ok hi htk hd
 have ht3:=Pg.tx3 hL.ok hi
 have ha6:=acts_le hL.ok hi t.tx
 have hcl:P.cells.length≤4:=hL.ok.cells.2
 have hT0:tot P≤2380:=by unfold tot;have:=hL.ok.threads.2;omega
 have hev:=hL.ev
 have hws:∀r sw,M.ws[i]?=some (some (r,sw))→KSrt r∧KSrt sw:=fun r sw h=>⟨(hL.wo i r sw h).rsrt,(hL.wo i r sw h).ssrt⟩
 have hnxl:i < M.nx.length:=by rw[hL.nxl];exact hi
 have hwsl:i < M.ws.length:=by rw[hL.wsl];exact hi
 have nset:∀(j:Nat) (x:Nx),j≠i→(M.nx.set i x)[j]?=M.nx[j]?:=fun j x hne=>List.getElem?_set_ne (Ne.symm hne)
 have wset:∀(j:Nat) (x:Wo),j≠i→(M.ws.set i x)[j]?=M.ws[j]?:=fun j x hne=>List.getElem?_set_ne (Ne.symm hne)
 cases hs with
 |begin hw hb hx=>
  obtain⟨-,hj'⟩:=hJ.begun ht hb (by omega) (by omega) hw
  refine⟨_,hj',⟨fun s hs=>?_,fun s hs=>?_,fun s hs h4=>?_,fun j e he hk=>?_,fun s hs=>?_⟩,⟨fun j u s r sw hu hub hs hsi hw'=>?_,fun s hs=>?_⟩⟩
  ·simp only[List.mem_append,List.mem_singleton] at hs
   rcases hs with hs|rfl
   ·exact hT.back s hs
   ·simp [newSt]
  ·simp only[List.mem_append,List.mem_singleton] at hs
   rcases hs with hs|rfl
   ·exact hT.try3 s hs
   ·simp [newSt]
  ·simp only[List.mem_append,List.mem_singleton] at hs
   rcases hs with hs|rfl
   ·obtain ⟨l,e,h5,h6⟩:=hT.can4 s hs h4
    exact⟨l,e,by simp only[Wst.put];rw[List.getElem?_append_left (List.getElem?_eq_some_iff.1 h5).1];exact h5,h6⟩
   ·simp [newSt] at h4
  ·simp only[Wst.put] at he ⊢
   by_cases hlt:j < M.W.evs.length
   ·rw [List.getElem?_append_left hlt] at he
    rcases hT.abt j e he hk with⟨s,h5,h6⟩|⟨l,e',h5,h6,h7⟩
    ·exact .inl ⟨s,by simp[h5],h6⟩
    ·exact .inr ⟨l,e',h5,by rw[List.getElem?_append_left (List.getElem?_eq_some_iff.1 h6).1];exact h6,h7⟩
   ·have hl:=(List.getElem?_eq_some_iff.1 he).1
    simp only[List.length_append,List.length_cons,List.length_nil] at hl
    obtain rfl:j=M.W.evs.length:=by omega
    simp only[List.getElem?_concat_length,Option.some.injEq] at he
    subst he
    simp[withTx,ev0] at hk
  ·simp only[List.mem_append,List.mem_singleton] at hs
   rcases hs with hs|rfl
   ·exact hT.ops s hs
   ·simp [newSt]
  ·simp only[Wst.put] at hu
   simp only[List.mem_append,List.mem_singleton] at hs
   rcases get_set hu with⟨rfl,rfl⟩|⟨hne,hu⟩
   ·rw [List.getElem?_set_self hwsl] at hw'
    simp only[Option.some.injEq,Prod.mk.injEq] at hw'
    obtain⟨rfl,rfl⟩:=hw'
    rcases hs with hs|rfl
    ·exfalso
     obtain⟨j,v,l,hv,hl,-,hc⟩:=hJ.all s hs
     have hl3:l < 3:=by
      have:=hJ.bt j v hv
      rcases hc with⟨h1,-⟩|⟨h1,h2,-⟩
      ·omega
      ·have:=this.2 h2;omega
     have h33:t.tx < 3:=by omega
     obtain⟨rfl,rfl⟩:=idOf_inj h33 hl3 (hsi.symm.trans hl)
     rw[ht] at hv
     obtain rfl:=Option.some.inj hv
     rcases hc with⟨h1,-⟩|⟨-,h2,-⟩
     ·omega
     ·rw [hb] at h2;cases h2
    ·refine ⟨fun c=>by simp[done,newSt,lw,fnd],fun j d hj=>by simp[done,newSt] at hj,fun _ j j' d d' hj=>by simp[done,newSt] at hj,fun _ j d hj=>by simp[done,newSt] at hj,by simp⟩
   ·rw [wset j _ (Ne.symm hne)] at hw'
    rcases hs with hs|rfl
    ·obtain ⟨d1,d2,d3,d4,d5⟩:=hD.cur j u s r sw hu hub hs hsi hw'
     refine⟨d1,d2,?_,?_,d5⟩
     ·show (M.nx.set i .none)[j]?=_→_
      rw[nset j _ (Ne.symm hne)];exact d3
     ·show (M.nx.set i .none)[j]?≠_→_
      rw[nset j _ (Ne.symm hne)];exact d4
    ·exfalso
     have:=(hJ.bt j u hu).2 hub
     have h33:t.tx < 3:=by omega
     exact hne (idOf_inj h33 this hsi).1
  ·simp only[List.mem_append,List.mem_singleton] at hs
   rcases hs with hs|rfl
   ·exact hD.com s hs
   ·simp [newSt]
 |call a hw hb hx ha hk=>
  obtain⟨-,hc0,hc1,hv0,hv1⟩:=hL.kinds hi hd htk ha hk
  obtain⟨k,s,hs,hid,hth,hst,hj'⟩:=hJ.called ht hb hw ha hk (by omega) ⟨hc0,hc1,by omega⟩ (fun _=>by unfold inB VB at htr;unfold wrVal;split <;> omega)
  have h1:s.stand=1:=by rw[hst];simp[standOf,hw]
  have hsA:=List.mem_of_getElem? hs
  refine⟨_,hj',hT.set (s':=callSt _ _ s) hJ.ids hs rfl (fun h=>h) rfl ⟨fun h=>by simp[callSt] at h,fun d hd2=>?_⟩ (fun h=>by simp[callSt] at h) (fun h=>by simp[callSt] at h) (fun h=>?_) (fun d hd2=>?_),hD.set (s':=callSt _ _ s) (t':={t with waits:=2}) hJ ht hb hs hid rfl rfl (fun j hne=>rfl) (fun j hne=>nset j _ hne) rfl (fun _=>⟨rfl,fun r sw hw'=>?_⟩) (fun h=>?_)⟩
  ·simp only[callSt,List.dropLast_concat] at hd2
   exact(hT.back s hsA).1 (by omega) d hd2
  ·have:(withTx (askOf t a) (idOf i t.tx)).kind=2:=by simp only[withTx];unfold askOf;split <;> (first|rfl|(split <;> rfl))
   exact absurd (this.symm.trans h) (by decide)
  ·simp only[callSt,List.mem_append,List.mem_singleton] at hd2
   rcases hd2 with hd2|rfl
   ·exact hT.ops s hsA d hd2
   ·simp only[newDd,withTx]
    unfold askOf
    split
    ·exact .inr rfl
    ·split
     ·exact .inr rfl
     ·exact .inl rfl
  ·refine (hD.cur i t s r sw ht hb hsA hid hw').same (done_call _ _ s h1) ?_ (by rw[hx];simp) rfl
   rw[List.getElem?_set_self hnxl]
   simp
  ·have:=(hD.com s hsA h).1;omega
 |cancel a hw hb hx ha hk=>
  obtain⟨k,s,hs,hid,hth,hst,hj'⟩:=hJ.cancelled ht hb hw (by omega)
  have h1:s.stand=1:=by rw[hst];simp[standOf,hw]
  have hsA:=List.mem_of_getElem? hs
  refine⟨_,hj',hT.set (s':=canS s) hJ.ids hs rfl (fun h=>h) rfl ⟨fun _=>(hT.back s hsA).1 (by omega),(hT.back s hsA).2⟩ (fun h=>by simp[canS] at h) (fun h=>⟨rfl,hid.symm⟩) (fun h=>by simp[withTx,ev0] at h) (hT.ops s hsA),hD.set (s':=canS s) (t':={t with waits:=7}) hJ ht hb hs hid rfl rfl (fun j hne=>rfl) (fun j hne=>nset j _ hne) rfl (fun _=>⟨rfl,fun r sw hw'=>?_⟩) (fun h=>?_)⟩
  ·refine (hD.cur i t s r sw ht hb hsA hid hw').same (by simp[done,canS,h1]) ?_ (by rw[hx];simp) rfl
   rw[List.getElem?_set_self hnxl]
   simp
  ·have:=(hD.com s hsA h).1;omega
 |try_ hw hb hx ha=>
  obtain⟨k,s,hs,hid,hth,hst,hj'⟩:=hJ.tried ht hb hw (by omega)
  have h1:s.stand=1:=by rw[hst];simp[standOf,hw]
  have hsA:=List.mem_of_getElem? hs
  refine⟨_,hj',hT.set (s':=tryS _ s) hJ.ids hs rfl (fun h=>by simp[tryS]) rfl ⟨fun _=>(hT.back s hsA).1 (by omega),(hT.back s hsA).2⟩ (fun h=>by simp[tryS]) (fun h=>by simp[tryS] at h) (fun h=>by simp[withTx,ev0] at h) (hT.ops s hsA),hD.set (s':=tryS _ s) (t':={t with waits:=4}) hJ ht hb hs hid rfl rfl (fun j hne=>rfl) (fun j hne=>nset j _ hne) rfl (fun _=>⟨rfl,fun r sw hw'=>?_⟩) (fun h=>by simp[tryS] at h)⟩
  refine(hD.cur i t s r sw ht hb hsA hid hw').same (by simp[done,tryS,h1]) ?_ (by rw[hx];simp) rfl
  rw[List.getElem?_set_self hnxl]
  simp
 |wrote a r s0 hw hb hx ha hk hs0=>
  obtain⟨k,s,hs,hid,hth,hst,hj'⟩:=hJ.answered (ret:=1) (got:=0) ht hb hw (by omega) ha (.inl ⟨hk,rfl,rfl,rfl⟩) (by omega)
  have h2:s.stand=2:=by rw[hst];simp[standOf,hw]
  have hsA:=List.mem_of_getElem? hs
  obtain⟨d,hdl⟩:=hJ.dd s hsA h2
  obtain⟨hp1,-,hp3⟩:=hJ.pend i t s d a ht hsA hid hw ha hdl
  obtain⟨er,ed⟩:=done_ret h2 hdl 1 0 M.W.evs.length
  have hst1:(retSt 1 0 M.W.evs.length s).stand=1:=by rw[er]
  have hde:(retSt 1 0 M.W.evs.length s).deeds=done s++[retDd d 1 0 M.W.evs.length]:=by rw[er]
  have hbk:∀x ∈ done s,0≤x.back:=by unfold done;rw[if_pos h2];exact(hT.back s hsA).2
  have hdo:=hD.cur i t s r s0 ht hb hsA hid hs0
  refine⟨_,hj',hT.set (s':=retSt 1 0 _ s) hJ.ids hs (by rw[er]) (by rw[er];exact fun h=>h) rfl ⟨fun _=>by rw[hde];exact back_snoc hbk (by simp[retDd]),fun x hx2=>?_⟩ (fun h=>by omega) (fun h=>by omega) (fun h=>by simp[withTx,ev0] at h) (fun x hx2=>?_),hD.set (s':=retSt 1 0 _ s) (t':=wrTh t) hJ ht hb hs hid (by rw[er]) rfl (fun j hne=>wset j _ hne) (fun j hne=>nset j _ hne) rfl (fun _=>⟨rfl,fun r' sw' hw'=>?_⟩) (fun h=>?_)⟩
  ·rw [hde,List.dropLast_concat] at hx2
   exact hbk x hx2
  ·rw [hde] at hx2
   have hd1:=hT.ops s hsA
   rw[last_done h2 hdl] at hd1
   simp only[List.mem_append,List.mem_singleton] at hx2 hd1
   rcases hx2 with hx2|rfl
   ·exact hd1 x (.inl hx2)
   ·exact hd1 d (.inr rfl)
  ·have hw'':(M.ws.set i (some (r,upd a.cell (wrVal t a) s0)))[i]?=some (some (r',sw')):=hw'
   rw[List.getElem?_set_self hwsl] at hw''
   simp only[Option.some.injEq,Prod.mk.injEq] at hw''
   obtain⟨rfl,rfl⟩:=hw''
   have hsrt:=(hws r s0 hs0).2
   refine⟨fun c=>?_,?_,fun e=>?_,fun _=>?_,hdo.rv⟩
   ·rw [ed,lw_snoc]
    show(if d.op=2∧d.obj=c then some d.val else lw (done s) c)=_
    rw[(hp1 hk).2,hp3]
    by_cases hc:c=a.cell
    ·subst hc
     rw[if_pos ⟨(hp1 hk).1,rfl⟩,fnd_upd_same hsrt]
    ·rw [if_neg (fun h=>hc h.2.symm),fnd_upd_other hsrt hc]
     exact hdo.lws c
   ·rw [ed]
    refine hdo.rdd.snoc fun ho=>?_
    have:d.op=1:=ho
    have:=(hp1 hk).1
    omega
   ·rw [List.getElem?_set_self hnxl] at e
    simp at e
   ·rw [ed]
    refine(hdo.vrd (by rw[hx];simp)).snoc (fun _ _ h=>h) fun ho=>?_
    have:d.op=1:=ho
    have:=(hp1 hk).1
    omega
  ·rw [er] at h
   have:=(hD.com s hsA h).1;omega
 |kept a r s0 v hw hb hx ha hk hs0 hf=>
  have hwo:=hL.wo i r s0 hs0
  have hv:=hwo.val (a.cell,v) ((fnd_some hwo.ssrt).1 hf)
  obtain⟨k,s,hs,hid,hth,hst,hj'⟩:=hJ.answered (ret:=3) (got:=v) ht hb hw (by omega) ha (.inr ⟨hk,rfl,rfl⟩) (by unfold inB VB at hv;simp only at hv;omega)
  have h2:s.stand=2:=by rw[hst];simp[standOf,hw]
  have hsA:=List.mem_of_getElem? hs
  obtain⟨d,hdl⟩:=hJ.dd s hsA h2
  obtain⟨-,hp2,hp3⟩:=hJ.pend i t s d a ht hsA hid hw ha hdl
  obtain⟨er,ed⟩:=done_ret h2 hdl 3 v M.W.evs.length
  have hst1:(retSt 3 v M.W.evs.length s).stand=1:=by rw[er]
  have hde:(retSt 3 v M.W.evs.length s).deeds=done s++[retDd d 3 v M.W.evs.length]:=by rw[er]
  have hbk:∀x ∈ done s,0≤x.back:=by unfold done;rw[if_pos h2];exact(hT.back s hsA).2
  have hdo:=hD.cur i t s r s0 ht hb hsA hid hs0
  have t1:(rdTh t a v).tx=t.tx:=by unfold rdTh;split <;> rfl
  refine⟨_,hj',hT.set (s':=retSt 3 v _ s) hJ.ids hs (by rw[er]) (by rw[er];exact fun h=>h) rfl ⟨fun _=>by rw[hde];exact back_snoc hbk (by simp[retDd]),fun x hx2=>?_⟩ (fun h=>by omega) (fun h=>by omega) (fun h=>by simp[withTx,ev0] at h) (fun x hx2=>?_),hD.set (s':=retSt 3 v _ s) (t':=rdTh t a v) hJ ht hb hs hid (by rw[er]) rfl (fun j hne=>rfl) (fun j hne=>nset j _ hne) rfl (fun _=>⟨t1,fun r' sw' hw'=>?_⟩) (fun h=>?_)⟩
  ·rw [hde,List.dropLast_concat] at hx2
   exact hbk x hx2
  ·rw [hde] at hx2
   have hd1:=hT.ops s hsA
   rw[last_done h2 hdl] at hd1
   simp only[List.mem_append,List.mem_singleton] at hx2 hd1
   rcases hx2 with hx2|rfl
   ·exact hd1 x (.inl hx2)
   ·exact hd1 d (.inr rfl)
  ·have hw'':M.ws[i]?=some (some (r',sw')):=hw'
   rw[hs0] at hw''
   simp only[Option.some.injEq,Prod.mk.injEq] at hw''
   obtain⟨rfl,rfl⟩:=hw''
   have hl:lw (done s) d.obj=some v:=by rw[hp3,hdo.lws,hf]
   refine⟨fun c=>?_,?_,fun e=>?_,fun _=>?_,hdo.rv⟩
   ·rw [ed,lw_snoc,if_neg]
    ·exact hdo.lws c
    ·rintro ⟨h5,-⟩
     have:d.op=2:=h5
     have:=hp2 hk
     omega
   ·rw [ed]
    refine hdo.rdd.snoc fun _ u hu=>?_
    have:lw (done s) d.obj=some u:=hu
    rw[hl] at this
    exact Option.some.inj this
   ·rw [List.getElem?_set_self hnxl] at e
    simp at e
   ·rw [ed]
    refine(hdo.vrd (by rw[hx];simp)).snoc (fun _ _ h=>h) fun _ hn=>?_
    have:lw (done s) d.obj=none:=hn
    rw[hl] at this
    cases this
  ·rw [er] at h
   have:=(hD.com s hsA h).1;omega
 |read a r s0 r1 hw hb hx ha hk hs0 hf hr1=>
  have hk4:a.kind≠4:=by rcases hk with h1|⟨h1,-⟩ <;> omega
  have hvv:inB M.W.evs.length (valAt M.cs a.cell):=by
   unfold valAt
   cases hc:M.cs[a.cell.toNat]? with
   |none=>simp[inB,VB];omega
   |some c=>exact(hL.ce c (List.mem_of_getElem? hc)).1
  obtain⟨v,hv⟩:∃v,v=valAt M.cs a.cell:=⟨_,rfl⟩
  rw[←hv] at hvv ⊢
  obtain⟨k,s,hs,hid,hth,hst,hj'⟩:=hJ.answered (ret:=3) (got:=v) ht hb hw (by omega) ha (.inr ⟨hk,rfl,rfl⟩) (by unfold inB VB at hvv;omega)
  have h2:s.stand=2:=by rw[hst];simp[standOf,hw]
  have hsA:=List.mem_of_getElem? hs
  obtain⟨d,hdl⟩:=hJ.dd s hsA h2
  obtain⟨-,hp2,hp3⟩:=hJ.pend i t s d a ht hsA hid hw ha hdl
  obtain⟨er,ed⟩:=done_ret h2 hdl 3 v M.W.evs.length
  have hst1:(retSt 3 v M.W.evs.length s).stand=1:=by rw[er]
  have hde:(retSt 3 v M.W.evs.length s).deeds=done s++[retDd d 3 v M.W.evs.length]:=by rw[er]
  have hbk:∀x ∈ done s,0≤x.back:=by unfold done;rw[if_pos h2];exact(hT.back s hsA).2
  have hdo:=hD.cur i t s r s0 ht hb hsA hid hs0
  have t1:(rdTh t a v).tx=t.tx:=by unfold rdTh;split <;> rfl
  refine⟨_,hj',hT.set (s':=retSt 3 v _ s) hJ.ids hs (by rw[er]) (by rw[er];exact fun h=>h) rfl ⟨fun _=>by rw[hde];exact back_snoc hbk (by simp[retDd]),fun x hx2=>?_⟩ (fun h=>by omega) (fun h=>by omega) (fun h=>by simp[withTx,ev0] at h) (fun x hx2=>?_),hD.set (s':=retSt 3 v _ s) (t':=rdTh t a v) hJ ht hb hs hid (by rw[er]) rfl (fun j hne=>wset j _ hne) (fun j hne=>nset j _ hne) rfl (fun _=>⟨t1,fun r' sw' hw'=>?_⟩) (fun h=>?_)⟩
  ·rw [hde,List.dropLast_concat] at hx2
   exact hbk x hx2
  ·rw [hde] at hx2
   have hd1:=hT.ops s hsA
   rw[last_done h2 hdl] at hd1
   simp only[List.mem_append,List.mem_singleton] at hx2 hd1
   rcases hx2 with hx2|rfl
   ·exact hd1 x (.inl hx2)
   ·exact hd1 d (.inr rfl)
  ·have hw'':(M.ws.set i (some (r1,s0)))[i]?=some (some (r',sw')):=hw'
   rw[List.getElem?_set_self hwsl] at hw''
   simp only[Option.some.injEq,Prod.mk.injEq] at hw''
   obtain⟨rfl,rfl⟩:=hw''
   have hsrt:=(hws r s0 hs0).1
   have hl:lw (done s) d.obj=none:=by rw[hp3,hdo.lws,hf]
   have hmore:∀c u,fnd c r=some u→fnd c r1=some u:=fun c u hc=>by
    rw[hr1]
    split
    ·exact hc
    ·rename_i hno
     rw[fnd_upd_other hsrt]
     ·exact hc
     ·rintro rfl
      rw[hc] at hno
      exact hno rfl
   refine⟨fun c=>?_,?_,fun e=>?_,fun _=>?_,fun p hp=>?_⟩
   ·rw [ed,lw_snoc,if_neg]
    ·exact hdo.lws c
    ·rintro ⟨h5,-⟩
     have:d.op=2:=h5
     have:=hp2 hk
     omega
   ·rw [ed]
    refine hdo.rdd.snoc fun _ u hu=>?_
    have:lw (done s) d.obj=some u:=hu
    rw[hl] at this
    cases this
   ·rw [List.getElem?_set_self hnxl] at e
    simp at e
   ·rw [ed]
    refine(hdo.vrd (by rw[hx];simp)).snoc hmore fun _ _=>?_
    show ∃v0,fnd d.obj r1=some v0∧v0≤verAt M.cs d.obj∧(verAt M.cs d.obj=v0→v=valAt M.cs d.obj)
    rw[hp3]
    cases hfr:fnd a.cell r with
    |some u=>exact⟨u,hmore _ _ hfr,hdo.rv _ ((fnd_some hsrt).1 hfr),fun _=>hv⟩
    |none=>
     refine⟨verAt M.cs a.cell,?_,Int.le_refl _,fun _=>hv⟩
     rw[hr1,hfr]
     simp only[Option.isSome_none,Bool.false_eq_true,if_false]
     exact fnd_upd_same hsrt
   ·rw [hr1] at hp
    split at hp
    ·exact hdo.rv p hp
    ·rcases (mem_upd hsrt).1 hp with rfl|⟨hp,-⟩
     ·exact Int.le_refl _
     ·exact hdo.rv p hp
  ·rw [er] at h
   have:=(hD.com s hsA h).1;omega
 |abort hw hb hne=>
  obtain⟨k,s,hs,hid,hth,hst,hj'⟩:=hJ.ended (kind:=6) (status:=4) ht hb (by omega) ha6 htk.act (fun h=>by omega) (.inr ⟨rfl,rfl,by omega⟩)
  have hsA:=List.mem_of_getElem? hs
  have h34:s.stand=3∨s.stand=4:=by rw[hst];rcases hw with hw|hw <;> simp[standOf,hw]
  refine⟨_,hj',hT.set (s':=endS 4 _ s) hJ.ids hs rfl (fun h=>h) rfl ⟨fun _=>(hT.back s hsA).1 (by omega),(hT.back s hsA).2⟩ (fun h=>by simp[endS] at h) (fun h=>by simp[endS] at h) (fun _=>⟨hid.symm,?_⟩) (hT.ops s hsA),hD.set (s':=endS 4 _ s) (t':=endTh t) hJ ht hb hs hid rfl rfl (fun j hne=>rfl) (fun j hne=>nset j _ hne) rfl (fun h=>by cases h) (fun h=>by simp[endS] at h)⟩
  rcases h34 with h|h
  ·exact .inl (hT.try3 s hsA h)
  ·exact .inr h
 |looked r s0 hw hb hx hs0 hst=>
  refine⟨A,hJ,⟨hT.back,hT.try3,hT.can4,hT.abt,hT.ops⟩,⟨fun j u s r' sw' hu hub hs hsi hw'=>?_,hD.com⟩⟩
  obtain⟨d1,d2,d3,d4,d5⟩:=hD.cur j u s r' sw' hu hub hs hsi hw'
  have hrv:∀p ∈ r',p.2≤verAt (wrS s0 (fun _=>false) M.cs) p.1:=fun p hp=>by
   have:=d5 p hp
   rcases wrS_at s0 M.cs p.1 with⟨h,-⟩|h <;> omega
  by_cases hji:j=i
  ·subst hji
   have hw'':M.ws[j]?=some (some (r',sw')):=hw'
   rw[hs0] at hw''
   simp only[Option.some.injEq,Prod.mk.injEq] at hw''
   obtain⟨rfl,rfl⟩:=hw''
   refine⟨d1,d2,fun _=>(d4 (by rw[hx];simp)).one (hws r s0 hs0).1 hst,fun h=>?_,hrv⟩
   exact absurd (List.getElem?_set_self hnxl) h
  ·refine ⟨d1,d2,?_,?_,hrv⟩
   ·show (M.nx.set i (.ends false))[j]?=_→_
    rw[nset j _ hji];exact d3
   ·show (M.nx.set i (.ends false))[j]?≠_→_
    rw[nset j _ hji];exact fun h=>(d4 h).wrote
 |commit hw hb hx=>
  obtain⟨k,s,hs,hid,hth,hst,hj'⟩:=hJ.ended (kind:=5) (status:=3) ht hb (by omega) ha6 htk.act (fun h=>by omega) (.inl ⟨rfl,rfl,hw⟩)
  have hsA:=List.mem_of_getElem? hs
  have h3:s.stand=3:=by rw[hst];simp[standOf,hw]
  refine⟨_,hj',hT.set (s':=endS 3 _ s) hJ.ids hs rfl (fun h=>h) rfl ⟨fun _=>(hT.back s hsA).1 (by omega),(hT.back s hsA).2⟩ (fun h=>by simp[endS] at h) (fun h=>by simp[endS] at h) (fun h=>by simp[withTx,ev0] at h) (hT.ops s hsA),hD.set (s':=endS 3 _ s) (t':=endTh t) hJ ht hb hs hid rfl rfl (fun j hne=>rfl) (fun j hne=>nset j _ hne) rfl (fun h=>by cases h) (fun h=>?_)⟩
  obtain⟨o,ho⟩:∃o,M.ws[i]?=some o:=⟨_,List.getElem?_eq_getElem hwsl⟩
  have hob:=(hL.nx i t (.ends false) o ht hx ho).2 hb
  cases o with
  |none=>exact absurd rfl hob
  |some p=>
   obtain⟨r,sw⟩:=p
   have hdo:=hD.cur i t s r sw ht hb hsA hid ho
   have e:done s=s.deeds:=by unfold done;rw[if_neg (by omega)]
   refine⟨rfl,?_,?_⟩
   ·show Rdd s.deeds
    rw[←e];exact hdo.rdd
   ·have:=hdo.one hx
    rw[e] at this
    exact this
end
section
variable {P:Pg} {M M':LM} {A:Au}
theorem jstart (P:Pg):JInv P (startLM P).W []:=by
 have hz:∀(i:Nat) (t:Th),(startLM P).W.ths[i]?=some t→t=Th.zero:=fun i t ht=>List.eq_of_mem_replicate (List.mem_of_getElem? ht)
 refine⟨.nil,fun e he=>(nomatch he),Nat.zero_le _,fun i t ht k hk=>?_,fun i t ht hb=>?_,fun s hs=>(nomatch hs),List.nodup_nil,fun i t ht=>?_,fun i t ht=>?_,fun s hs=>(nomatch hs),fun i t s d a ht hs=>(nomatch hs)⟩
 ·rw [hz i t ht] at hk;cases hk
 ·rw [hz i t ht] at hb;cases hb
 ·rw [hz i t ht];exact⟨.inl rfl,fun _=>⟨rfl,rfl⟩,fun h=>by cases h⟩
 ·rw [hz i t ht];exact⟨Nat.zero_le _,fun h=>by cases h⟩
theorem tstart (P:Pg):TInv (startLM P) []:=⟨fun s hs=>(nomatch hs),fun s hs=>(nomatch hs),fun s hs=>(nomatch hs),fun j e he=>by simp[startLM] at he,fun s hs=>(nomatch hs)⟩
theorem dstart (P:Pg):DInv (startLM P) []:=⟨fun i t s r sw ht hb hs=>(nomatch hs),fun s hs=>(nomatch hs)⟩
def BInv (P:Pg) (M:LM):Prop:=∀(i:Nat) (t:Th),M.W.ths[i]?=some t→t.begun=true→t.tx < (P.txs i).length
theorem bstart (P:Pg):BInv P (startLM P):=fun i t ht hb=>by
 have:t=Th.zero:=List.eq_of_mem_replicate (List.mem_of_getElem? ht)
 rw[this] at hb;cases hb
theorem bstep (hL:LInv P M) (hB:BInv P M) {i:Nat} {t:Th} (ht:M.W.ths[i]?=some t) (hd:thDone P i t=false) (hs:Stp P M i t M'):BInv P M':=by
 obtain⟨htk,-⟩:=hL.th i t ht
 have hlt:t.tx < (P.txs i).length:=by
  have h1:=htk.tx
  have h2:¬t.tx=(P.txs i).length:=by simpa[thDone] using hd
  omega
 have e1:∀u:Th,(endTh u).begun=false:=fun _=>rfl
 cases hs with
 |begin hw hb hx=>exact bput hB fun _=>hlt
 |call a hw hb hx ha hk=>exact bput hB fun _=>hlt
 |cancel a hw hb hx ha hk=>exact bput hB fun _=>hlt
 |try_ hw hb hx ha=>exact bput hB fun _=>hlt
 |wrote a r s hw hb hx ha hk hs0=>exact bput hB fun _=>hlt
 |kept a r s v hw hb hx ha hk hs0 hf=>exact bput hB fun _=>by unfold rdTh;split <;> exact hlt
 |read a r s r' hw hb hx ha hk hs0 hf hr=>exact bput hB fun _=>by unfold rdTh;split <;> exact hlt
 |abort hw hb hne=>exact bput hB fun h=>by rw[e1] at h;cases h
 |looked r s hw hb hx hs0 hst=>exact hB
 |commit hw hb hx=>exact bput hB fun h=>by rw[e1] at h;cases h
structure Lall (P:Pg) (M:LM) (A:Au):Prop where
 li:LInv P M
 bi:BInv P M
 ji:JInv P M.W A
 ti:TInv M A
 di:DInv M A
theorem Lall.step (h:Lall P M A) (i:Int):∃A',Lall P (stepTo P M i) A':=by
 unfold stepTo
 cases hd:wDone P M.W i with
 |true=>exact⟨A,h⟩
 |false=>
  obtain⟨k,rfl,hk⟩:=wDone_in h.li.thl hd
  obtain⟨t,ht⟩:∃t,M.W.ths[k]?=some t:=⟨_,List.getElem?_eq_getElem (by rw[h.li.thl];exact hk)⟩
  have hdn:thDone P k t=false:=by rw[←wDone_th ht];exact hd
  have hs:=stp_of h.li hk ht hd
  obtain⟨A',h1,h2,h3⟩:=late_step h.li h.ji h.ti h.di hk ht hdn hs
  exact⟨A',(stp_inv h.li hk ht hdn hs).1,bstep h.li h.bi ht hdn hs,h1,h2,h3⟩
theorem Lall.steps:∀(l:List Int) {M:LM} {A:Au},Lall P M A→∃A',Lall P (stepsTo P M l) A'
 |[],_,A,h=>⟨A,h⟩
 |i::l,_,_,h=>let ⟨_,h1⟩:=h.step i;Lall.steps l h1
theorem Lall.start (h:PgOk P):Lall P (startLM P) []:=⟨start_inv h,bstart P,jstart P,tstart P,dstart P⟩
theorem late_run (h:PgOk P) {l:List Int} {full:Bool} (hr:RunOf P (startLM P) l full M):∃A,Lall P M A:=by
 unfold RunOf at hr
 split at hr
 ·obtain ⟨l2,rfl,-⟩:=hr
  exact(Lall.start h).steps _
 ·rw [hr];exact(Lall.start h).steps _
theorem Lall.evs (h:Lall P M A):M.W.evs.length≤400:=by
 have h1:=h.ji.cnt
 have h2:∀t ∈ M.W.ths,hTh t≤99:=fun t ht=>by
  obtain⟨i,hi⟩:=List.mem_iff_getElem?.1 ht
  have h3:=(h.ji.bt i t hi)
  obtain⟨htk,-⟩:=h.li.th i t hi
  have h4:=htk.act
  have h5:(P.acts i t.tx).length≤6:=acts_le h.li.ok (by rw[←h.li.thl];exact(List.getElem?_eq_some_iff.1 hi).1) _
  have h6:=(h.ji.wt i t hi).2.1
  unfold hTh
  cases hb:t.begun with
  |false=>
   obtain⟨h7,h8⟩:=h6 hb
   rw[h7,h8]
   simp
   split <;> omega
  |true=>
   have:=h3.2 hb
   simp
   split <;> split <;> omega
 have h3:∀(l:List Th),(∀t ∈ l,hTh t≤99)→sumTh l≤99*l.length:=fun l=>by
  induction l with
  |nil=>intro _;simp[sumTh]
  |cons x l ih=>
   intro hl
   have:=ih fun t ht=>hl t (List.mem_cons_of_mem _ ht)
   have:=hl x (List.mem_cons_self ..)
   simp only[sumTh,List.map_cons,List.sum_cons,List.length_cons] at *
   omega
 have:=h3 _ h2
 rw[h.li.thl] at this
 have:=h.li.ok.threads.2
 omega
theorem Lall.ended (h:Lall P M A) (hd:allDone P M.W=true):∀s ∈ A,s.stand=5∧0≤s.fin:=by
 intro s hs
 obtain⟨i,t,k,ht,hid,hth,hc⟩:=h.ji.all s hs
 rcases hc with⟨-,h1,h2⟩|⟨-,hb,-⟩
 ·exact ⟨h1,h2⟩
 ·have:=h.bi i t ht hb
  have hi:i < P.threads.length:=by rw[←h.li.thl];exact(List.getElem?_eq_some_iff.1 ht).1
  have h2:=List.all_eq_true.1 hd i (List.mem_range.2 hi)
  rw[wDone_th ht] at h2
  have h3:t.tx=(P.txs i).length:=by simpa[thDone] using h2
  omega
theorem Lall.reads (h:Lall P M A):∀s ∈ A,s.status=3→RdsOne s.deeds:=fun s hs h3=>by
 obtain⟨-,h1,h2⟩:=h.di.com s hs h3
 exact rdsOne h1 h2 (h.ti.ops s hs)
theorem Lall.tries (h:Lall P M A) (hd:allDone P M.W=true):(∀s ∈ A,∀d ∈ s.deeds,0≤d.back)∧∀(j:Nat) (e:Ev),M.W.evs[j]?=some e→e.kind=6→(∃s ∈ A,s.id=e.tx∧0≤s.tri)∨∃(l:Nat) (e':Ev),l < j∧M.W.evs[l]?=some e'∧e'.kind=7∧e'.tx=e.tx:=by
 refine⟨fun s hs d hd2=>(h.ti.back s hs).1 ?_ d hd2,h.ti.abt⟩
 have:=(h.ended hd s hs).1
 omega
end
