/- Parts of the proof; the first: The engine clock as plain lists: what explains what has happened, behind any steps. Conditions: those of each theorem, as typed. -/
import Derived.Test.YtkfhgifhfkcehaaGreatDoorQC32
import Derived.Test.YtkfhgifhfkcehaaGreatDoorQC27
import Derived.Test.YtkfhgifhfkcehaaGreatDoorQC21
import Derived.Test.YtkfhgifhfkcehaaGreatDoorQC25
import Derived.LaidEql
import Derived.Test.YtkfhgifhfkcehaaGreatDoorQC18
set_option linter.unusedVariables false
set_option linter.unusedSimpArgs false
set_option linter.unusedSectionVars false
set_option maxRecDepth 100000
set_option maxHeartbeats 4000000
namespace Go.Proofs.YtkfhgifhfkcehaaGreatDoor
open Go.Maps Go.RowKit
theorem rkey {r:MB} (hs:KSrt r) {k:Int} (h:(yZ k r).isSome=true):k ∈ r.map (·.1):=by
 obtain⟨v,hv⟩:=Option.isSome_iff_exists.1 h;exact List.mem_map.2 ⟨(k,v),(yu hs).1 hv,rfl⟩
theorem held_lock {s:MI} {z:Int} {l:List Int}:held s z (yw l)↔(yZ z s).isSome=true/\z ∉ l:=by
 cases l with
 |nil=>simp[yw,held]
 |cons k l=>exact Iff.rfl
section
variable {P:Pg} {M M':LM} {A A':Au} {g g':Gh} {clk clk':Nat}
theorem CoI.said (h:CoI P M A g clk) (hbt:∀(j:Nat) (u:Th),M.W.ths[j]?=some u->u.begun=true->u.tx < 3) {i:Nat} {t t':Th} {x x':Nx} {tm:Int} {r:MB} {s:MI} {e:Ev} (hv:Vw M i t x tm r s)
  (hgi:GInv P.cells A' g clk) (hx:∀now l,x≠.write now l) (hx':∀a l,x'≠.look a l) (hb:t'.begun=true) (htt:t'.tx=t.tx) (hi:Wv P.cells.length M.cs g clk (qG i t.tx) tm r s x'):
  CoI P ⟨M.W.put i (t',e),M.cs,M.ws,M.nx.set i x',M.clk⟩ A' g clk:=by
 have h1:=h.turn hbt (t':=t') (x':=x') (o':=some (tm,r,s)) (cs':=M.cs) (es:=[e]) (A':=A') (g':=g) (clk':=clk) hv.th (hbt i t hv.th hv.b) ⟨(List.getElem?_eq_some_iff.1 hv.nx).1,(List.getElem?_eq_some_iff.1 hv.ws).1⟩ hgi (Nat.le_refl _) (fun z _=>⟨rfl,rfl,rfl,rfl⟩) rfl ⟨h.nwl _,h.tml _⟩ (.inr ⟨rfl,rfl⟩) (fun k _ _=>.inr ⟨rfl,rfl,rfl⟩)
  (fun k hk=>.inl rfl) (fun _=>htt) (fun e=>by rw[hb] at e;cases e) (fun k hk=>.inr (.inl ⟨rfl,rfl,fun now l e=>by
   have:=hv.nx.symm.trans e;simp only[Option.some.injEq] at this;exact absurd this (hx now l)⟩))
  (fun tm' r' s' _ e=>by
   simp only[Option.some.injEq,Prod.mk.injEq] at e;obtain⟨rfl,rfl,rfl⟩:=e;exact hi) (fun a l tm' r' s' _ e e2=>absurd e2 (hx' a l))
 rw[xS hv.ws,←h.ck] at h1;exact h1
theorem CoI.gone (h:CoI P M A g clk) (hbt:∀(j:Nat) (u:Th),M.W.ths[j]?=some u->u.begun=true->u.tx < 3) {i:Nat} {t:Th} {x:Nx} {cs':List Ce} {tm:Int} {r:MB} {s:MI} {e:Ev} (hv:Vw M i t x tm r s)
  (hgi:GInv P.cells A' g clk) (hx:∀now l,x≠.write now l) (hc:∀k:Nat,k < P.cells.length->ceAt cs' k=⟨(ceAt M.cs k).val,(ceAt M.cs k).ver,if (ceAt M.cs k).own=qG i t.tx then 0 else(ceAt M.cs k).own⟩):
  CoI P ⟨M.W.put i (xw t,e),cs',M.ws,M.nx.set i .none,M.clk⟩ A' g clk:=by
 have h1:=h.turn hbt (t':=xw t) (x':=.none) (o':=some (tm,r,s)) (cs':=cs') (es:=[e]) (A':=A') (g':=g) (clk':=clk) hv.th (hbt i t hv.th hv.b) ⟨(List.getElem?_eq_some_iff.1 hv.nx).1,(List.getElem?_eq_some_iff.1 hv.ws).1⟩ hgi (Nat.le_refl _) (fun z _=>⟨rfl,rfl,rfl,rfl⟩) rfl ⟨h.nwl _,h.tml _⟩ (.inr ⟨rfl,rfl⟩) (fun k _ _=>.inr ⟨rfl,rfl,rfl⟩)
  (fun k hk=>by
   rw[hc k hk];by_cases e:(ceAt M.cs k).own=qG i t.tx
   ·exact .inr ⟨.inr e,.inl (if_pos e)⟩
   ·exact .inl (if_neg e)) (fun e=>by cases e) (fun _ k hk=>by
   rw[hc k hk];show(if _ then(0:Int) else _)≠_
   split
   ·exact (id_pos i t.tx).symm
   ·assumption) (fun k hk=>.inr (.inl ⟨by rw[hc k hk],by rw[hc k hk],fun now l e=>by
   have:=hv.nx.symm.trans e;simp only[Option.some.injEq] at this;exact absurd this (hx now l)⟩))
  (fun tm' r' s' e=>by cases e) (fun a l tm' r' s' e=>by cases e)
 rw[xS hv.ws,←h.ck] at h1;exact h1
theorem CoI.cell (h:CoI P M A g clk) {k:Nat} (hk:k < P.cells.length) (hno:∀(i:Nat) (t:Th) (now:Int) (l:List Int) (tm:Int) (r:MB) (s:MI),Vw M i t (.write now l) tm r s->(ceAt M.cs k).own≠qG i t.tx):
  ∀c:Nat,(ceAt M.cs k).ver<=c->(g.mem c)[k]?=some (ceAt M.cs k).val:=by
 rcases h.ce k hk with⟨j,u,now,l,tm,r,s,hv,hkl⟩|h0
 ·exact absurd (((h.wv j u _ tm r s hv).hd k hk).2 hkl) (hno j u now l tm r s hv)
 ·exact h0
theorem co_step (h:CoI P M A g clk) (hL:LInv P M) (hJ:JInv P M.W A) {i:Nat} (hi:i < P.threads.length) {t:Th} (ht:M.W.ths[i]?=some t) (hd:qR P i t=false) (hs:Stp P M i t M'):∃A' g' clk',JInv P M'.W A'/\CoI P M' A' g' clk':=by
 have hok:=hL.ok;have hX:=fed_txs hJ.fed hJ.evs;have hF:=fed_full hJ.fed;have hT:=fed_times hJ.fed;have hi4:i < 4:=by have:=hok.threads.2;omega
 have htk:=(hL.th i t ht).1;have htx:=zb hok hi htk hd;have htx3:t.tx < 3:=by have:=Pg.tx3 hok hi;omega
 have ha6:=acts_le hok hi t.tx;have hpos:qG i t.tx≠0:=id_pos i t.tx;have hnl:i < M.nx.length/\i < M.ws.length:=⟨by rw[hL.nxl];exact hi,by rw[hL.wsl];exact hi⟩
 have hbt:∀(j:Nat) (u:Th),M.W.ths[j]?=some u->u.begun=true->u.tx < 3:=fun j u hu hb=>(hJ.bt j u hu).2 hb;have hcl4:P.cells.length<=4:=hok.cells.2;obtain⟨x0,hx0⟩:∃x,M.nx[i]?=some x:=⟨_,List.getElem?_eq_getElem hnl.1⟩
 obtain⟨o,ho⟩:∃o,M.ws[i]?=some o:=⟨_,List.getElem?_eq_getElem hnl.2⟩
 obtain⟨hnx,hob⟩:=hL.nx i t x0 o ht hx0 ho;have hws:t.begun=true->∃tm r s,M.ws[i]?=some (some (tm,r,s)):=fun hb=>by
  cases o with
  |none=>exact absurd rfl (hob hb)
  |some p=>exact⟨p.1,p.2.1,p.2.2,ho⟩
 have eqx:∀{y:Nx},M.nx[i]?=some y->x0=y:=fun {y} h=>by rw[hx0] at h;exact Option.some.inj h
 have gone4:∀{x:Nx} {tm:Int} {r:MB} {s:MI},Vw M i t x tm r s->(t.waits=2\/t.waits=4\/t.waits=7)->(∀now l,x≠.write now l)->g.nw (qG i t.tx)=0->
   ∃A' g' clk',JInv P (M.W.put i (xw t,qE (xG 6) (qG i t.tx))) A'/\CoI P ⟨M.W.put i (xw t,qE (xG 6) (qG i t.tx)),ze (qG i t.tx) M.cs,M.ws,M.nx.set i .none,M.clk⟩ A' g' clk':=fun {x tm r s} hv hw hx h0=>by
  obtain⟨k0,y,hy,qj,hth,hst,hj'⟩:=hJ.ended (kind:=6) (status:=4) ht hv.b (by omega) ha6 htk.act (fun h=>by
   rcases htk.waits with h1|⟨-,⟨-,a,ha,-⟩|⟨h1,-⟩|⟨h1,-⟩⟩
   ·omega
   ·exact (List.getElem?_eq_some_iff.1 ha).1
   ·omega
   ·omega) (.inr ⟨rfl,rfl,hw⟩)
  have hyA:=List.mem_of_getElem? hy;have hgi:=h.gi.turn0 (s':=endS 4 M.W.evs.length y) hJ.ids hy rfl rfl (h.gi.rep y hyA) (fun h1=>absurd (by rw[qj];exact h0) h1) (fun h3=>by exfalso;have h3:(4:Int)=3:=h3;omega) (.inr fun u hu=>(hT u hu).2.1);exact⟨_,g,clk,hj',h.gone hbt hv hgi hx fun k hk=>ceAt_off (by rw[hL.csl];exact hk)⟩
 cases hs with
 |begin hw hb hx=>
  have hno:=hJ.fresh ht hb htx3;have hj':=(hJ.begun ht hb htx3 (by omega) hw).2;have hown:∀k:Nat,k < P.cells.length->(ceAt M.cs k).own≠qG i t.tx:=fun k hk e=>by
   rcases h.ow k hk with h1|⟨j,u,hu,hub,h1⟩
   ·exact hpos (e.symm.trans h1)
   ·obtain ⟨rfl,-⟩:=idOf_inj (hbt j u hu hub) htx3 (h1.symm.trans e)
    rw[ht] at hu;obtain rfl:=Option.some.inj hu;rw[hb] at hub;cases hub
  have hgi:=h.gi.begun (s:=yE (qE {xG 1 with thread:=i} (qG i t.tx)) M.W.evs.length) hno rfl rfl rfl fun u hu=>(hT u hu).2.1;have hsi:(yE (qE {xG 1 with thread:=(i:Int)} (qG i t.tx)) M.W.evs.length).id=qG i t.tx:=rfl;rw[hsi] at hgi;have h1:=h.turn hbt (t':={t with begun:=true}) (x':=.none) (o':=some (M.clk,[],[])) (cs':=M.cs) (es:=[qE {xG 1 with thread:=i} (qG i t.tx)]) ht htx3 hnl hgi (Nat.le_refl _) (fun z hz=>⟨qO hz,qO hz,qO hz,qO hz⟩) rfl ⟨by simp only[qS];exact Nat.zero_le _,by simp only[qS];exact Nat.le_refl _⟩ (.inl qS) (fun k _ _=>.inl (by simp only[qS])) (fun k hk=>.inl rfl) (fun _=>rfl) (fun e=>by cases e) (fun k hk=>.inr (.inl ⟨rfl,rfl,fun now l e=>by rw[hx] at e;cases e⟩)) (fun tm' r' s' _ e=>by
   simp only[Option.some.injEq,Prod.mk.injEq] at e;obtain⟨rfl,rfl,rfl⟩:=e;exact⟨by simp only[qS];exact h.ck,fun k=>by simp only[qS];rfl,fun k=>by simp only[qS];rfl,fun k hk=>⟨fun e=>absurd e (hown k hk),fun e=>e.elim⟩,qS⟩) (fun a l tm' r' s' _ _ e=>by cases e)
  rw[←h.ck] at h1;exact⟨_,_,clk,hj',h1⟩
 |call a hw hb hx ha hk=>
  obtain⟨tm,r,s,hr⟩:=hws hb;have hv:Vw M i t .none tm r s:=⟨ht,hb,hx,hr⟩
  obtain⟨k1,k2,k3,k4,k5⟩:=h.wv i t _ tm r s hv;obtain⟨hkk,hc0,hc1,hv0,hv1⟩:=acts_kinds hok hi hd htk ha hk;have htr:=hL.readB ht;obtain⟨k0,y,hy,qj,hth,hst,hj'⟩:=hJ.called ht hb hw ha hk (by omega) ⟨hc0,hc1,by omega⟩ (fun _=>by unfold wrVal;split <;> omega);have hyA:=List.mem_of_getElem? hy;have hgi:=h.gi.turn0 (s':=callSt (qE (qY t a) (qG i t.tx)) M.W.evs.length y) hJ.ids hy rfl rfl ((h.gi.rep y hyA).call rfl) (fun h1=>absurd (by rw[qj];exact k5) h1) (h.gi.ro y hyA) (.inl rfl);exact⟨_,g,clk,hj',h.said (t':={t with waits:=2}) hbt hv hgi (fun _ _ e=>by cases e) (fun _ _ e=>by cases e) hb rfl ⟨k1,k2,k3,k4,k5⟩⟩
 |cancel a hw hb hx ha hk=>
  obtain⟨tm,r,s,hr⟩:=hws hb;have hv:Vw M i t .none tm r s:=⟨ht,hb,hx,hr⟩
  obtain⟨k1,k2,k3,k4,k5⟩:=h.wv i t _ tm r s hv;obtain⟨k0,y,hy,qj,hth,hst,hj'⟩:=hJ.cancelled ht hb hw (by omega);have hyA:=List.mem_of_getElem? hy;have hgi:=h.gi.turn0 (s':=canS y) hJ.ids hy rfl rfl (h.gi.rep y hyA) (fun h1=>absurd (by rw[qj];exact k5) h1) (h.gi.ro y hyA) (.inl rfl);exact⟨_,g,clk,hj',h.said (t':={t with waits:=7}) hbt hv hgi (fun _ _ e=>by cases e) (fun _ _ e=>by cases e) hb rfl ⟨k1,k2,k3,k4,k5⟩⟩
 |try_ tm r s hw hb hx ha hr=>
  have hv:Vw M i t .none tm r s:=⟨ht,hb,hx,hr⟩
  obtain⟨k1,k2,k3,k4,k5⟩:=h.wv i t _ tm r s hv;have hsrt:=(hL.wo i tm r s hr).ssrt;obtain⟨k0,y,hy,qj,hth,hst,hj'⟩:=hJ.tried ht hb hw (by omega);have hyA:=List.mem_of_getElem? hy;have hgi:=h.gi.turn0 (s':=tryS M.W.evs.length y) hJ.ids hy rfl rfl (h.gi.rep y hyA) (fun h1=>absurd (by rw[qj];exact k5) h1) (fun h3=>by exfalso;have h3:(2:Int)=3:=h3;omega) (.inl rfl);refine⟨_,g,clk,hj',h.said (t':={t with waits:=4}) hbt hv hgi (fun _ _ e=>by cases e) (fun a l e=>?_) hb rfl ⟨k1,k2,k3,fun k hk=>?_,?_⟩⟩
  ·split at e
   ·cases e
   ·revert e;unfold yw;split <;> (intro e;cases e)
  ·rw [k4 k hk]
   split
   ·exact Iff.rfl
   ·rw [held_lock]
    exact⟨fun e=>e.elim,fun e=>e.2 ((fnd_key hsrt).1 e.1)⟩
  ·split
   ·rename_i e;exact .inr e
   ·have hsub:∀k ∈ s.map (·.1),(yZ k s).isSome=true:=fun k hk=>(fnd_key hsrt).2 hk
    have hnd:=keys_nd hsrt;revert hsub hnd;cases s.map (·.1) with
    |nil=>intro _ _;exact k5
    |cons k l=>intro hsub hnd;exact⟨k5,hnd,hsub⟩
 |wrote a tm r s hw hb hx ha hk hr=>
  have hv:Vw M i t _ tm r s:=⟨ht,hb,hx,hr⟩
  obtain⟨k1,k2,k3,k4,k5⟩:=h.wv i t _ tm r s hv;have hk4:a.kind≠4:=by rcases hk with h1|⟨h1,-⟩ <;> omega
  obtain⟨hkk,hc0,hc1,hv0,hv1⟩:=acts_kinds hok hi hd htk ha hk4;have hsrt:=(hL.wo i tm r s hr).ssrt;obtain⟨k0,y,hy,qj,hth,hst,hj'⟩:=hJ.answered (ret:=1) (got:=0) ht hb hw (by omega) ha (.inl ⟨hk,rfl,rfl,rfl⟩) (by omega);have hyA:=List.mem_of_getElem? hy;have hst2:y.stand=2:=by rw[hst];simp[xg,hw]
  obtain⟨d,hdl,hd0⟩:=(hX y hyA).last hst2;obtain⟨p1,p2,p3⟩:=hJ.pend i t y d a ht hyA qj hw ha hdl;obtain⟨p1,p4⟩:=p1 hk;obtain⟨c,hc⟩:∃c:Nat,a.cell=c:=⟨a.cell.toNat,by omega⟩
  have hsplit:=dd_snoc hdl;have hret:yU 1 0 M.W.evs.length y={y with stand:=1,deeds:=y.deeds.dropLast++[retDd d 1 0 M.W.evs.length]}:=by unfold yU;rw[hdl]
  have hrep:=h.gi.rep y hyA;rw[hsplit] at hrep;have hgi:=h.gi.turn (s':=yU 1 0 M.W.evs.length y) (rd:=g.rd y.id) (wr:=upC (g.wr y.id) c (wrVal t a)) hJ.ids hy (by rw[hret]) (by rw[hret]) (by
   rw[hret];exact(hrep.uncall hd0).wrote (d:=retDd d 1 0 M.W.evs.length) (by omega) (by show d.obj=_;rw[p3,hc]) p1 rfl rfl p4) (fun h0=>h.gi.old y hyA h0) (fun h1=>absurd (by rw[qj];exact k5) h1) (fun h1=>absurd (by rw[qj];exact k5) h1) (fun h3=>by
   exfalso;rw[hret] at h3;have h3:y.status=3:=h3;have:=((hF y hyA).2.1 hst2).1;omega) (.inl (by rw[hret]))
  rw[upG_id,qj] at hgi;have h1:=h.turn hbt (t':=wrTh t) (x':=.none) (o':=some (tm,r,upd a.cell (wrVal t a) s)) (cs':=M.cs) (es:=[qE {xG 3 with ret:=1} (qG i t.tx)]) ht htx3 hnl hgi (Nat.le_refl _) (fun z hz=>⟨rfl,rfl,qO hz,rfl⟩) rfl ⟨h.nwl _,h.tml _⟩ (.inl k5) (fun k _ _=>.inr ⟨rfl,rfl,rfl⟩) (fun k hk=>.inl rfl) (fun _=>rfl) (fun e=>by exfalso;have e:t.begun=false:=e;rw[hb] at e;cases e) (fun k hk=>.inr (.inl ⟨rfl,rfl,fun now l e=>by rw[hx] at e;cases e⟩)) (fun tm' r' s' _ e=>by
   simp only[Option.some.injEq,Prod.mk.injEq] at e;obtain⟨rfl,rfl,rfl⟩:=e;refine⟨k1,k2,fun k=>?_,k4,k5⟩;show upG g.wr (qG i t.tx) (upC (g.wr (qG i t.tx)) c (wrVal t a)) (qG i t.tx) k=_;rw[qS];unfold upC;by_cases e:k=c
   ·rw [if_pos e,e,hc,fnd_upd_same hsrt]
   ·rw [if_neg e,k3,fnd_upd_other hsrt (by omega)]) (fun a l tm' r' s' _ _ e=>by cases e)
  rw[←h.ck] at h1;exact⟨_,_,clk,hj',h1⟩
 |kept a tm r s v hw hb hx ha hk hr hf=>
  have hv:Vw M i t _ tm r s:=⟨ht,hb,hx,hr⟩
  obtain⟨k1,k2,k3,k4,k5⟩:=h.wv i t _ tm r s hv;have hk4:a.kind≠4:=by rcases hk with h1|⟨h1,-⟩ <;> omega
  obtain⟨hkk,hc0,hc1,hv0,hv1⟩:=acts_kinds hok hi hd htk ha hk4;have hwr:=hL.wo i tm r s hr;have hT2:tot P<=9484:=by unfold tot;have:=hok.threads.2;omega
  have hev:=hL.ev;have hvb:=hwr.val (a.cell,v) ((yu hwr.ssrt).1 hf);obtain⟨k0,y,hy,qj,hth,hst,hj'⟩:=hJ.answered (ret:=3) (got:=v) ht hb hw (by omega) ha (.inr ⟨hk,rfl,rfl⟩) (by unfold inB VB at hvb;simp only at hvb;omega);have hyA:=List.mem_of_getElem? hy;have hst2:y.stand=2:=by rw[hst];simp[xg,hw]
  obtain⟨d,hdl,hd0⟩:=(hX y hyA).last hst2;obtain⟨p1,p2,p3⟩:=hJ.pend i t y d a ht hyA qj hw ha hdl;obtain⟨c,hc⟩:∃c:Nat,a.cell=c:=⟨a.cell.toNat,by omega⟩
  have hsplit:=dd_snoc hdl;have hret:yU 3 v M.W.evs.length y={y with stand:=1,deeds:=y.deeds.dropLast++[retDd d 3 v M.W.evs.length]}:=by unfold yU;rw[hdl]
  have hrep:=h.gi.rep y hyA;rw[hsplit] at hrep;have hgi:=h.gi.turn0 (s':=yU 3 v M.W.evs.length y) hJ.ids hy (by rw[hret]) (by rw[hret]) (by
   rw[hret];exact(hrep.uncall hd0).kept (d:=retDd d 3 v M.W.evs.length) (v:=v) (c:=c) (by omega) (by show d.obj=_;rw[p3,hc]) (p2 hk) rfl rfl (by rw[qj,k3,←hc];exact hf)) (fun h1=>absurd (by rw[qj];exact k5) h1) (fun h3=>by
   exfalso;rw[hret] at h3;have h3:y.status=3:=h3;have:=((hF y hyA).2.1 hst2).1;omega) (.inl (by rw[hret]))
  exact⟨_,g,clk,hj',h.said (t':=rdTh t a v) hbt hv hgi (fun _ _ e=>by cases e) (fun _ _ e=>by cases e) (by unfold rdTh;split <;> exact hb) (by unfold rdTh;split <;> rfl) ⟨k1,k2,k3,k4,k5⟩⟩
 |read a tm r s hw hb hx ha hk hr hf htn=>
  have hv:Vw M i t _ tm r s:=⟨ht,hb,hx,hr⟩
  obtain⟨k1,k2,k3,k4,k5⟩:=h.wv i t _ tm r s hv;have hk4:a.kind≠4:=by rcases hk with h1|⟨h1,-⟩ <;> omega
  obtain⟨hkk,hc0,hc1,hv0,hv1⟩:=acts_kinds hok hi hd htk ha hk4;have hrsrt:=(hL.wo i tm r s hr).rsrt;have hceB:=hL.ceB a.cell;obtain⟨k0,y,hy,qj,hth,hst,hj'⟩:=hJ.answered (ret:=3) (got:=(ceAt M.cs a.cell).val) ht hb hw (by omega) ha (.inr ⟨hk,rfl,rfl⟩) (by omega);have hyA:=List.mem_of_getElem? hy;have hst2:y.stand=2:=by rw[hst];simp[xg,hw]
  obtain⟨d,hdl,hd0⟩:=(hX y hyA).last hst2;obtain⟨p1,p2,p3⟩:=hJ.pend i t y d a ht hyA qj hw ha hdl;obtain⟨c,hc⟩:∃c:Nat,a.cell=c:=⟨a.cell.toNat,by omega⟩
  rw[hc] at htn hj' hf;have hcn:c < P.cells.length:=by omega
  unfold stale at htn;simp only[Bool.or_eq_false_iff,Bool.not_eq_false',beq_iff_eq,decide_eq_false_iff_not] at htn;obtain⟨hown0,hver⟩:=htn;have hcell:=h.cell hcn fun j u now l tm' r' s' _ e=>id_pos j u.tx (e.symm.trans hown0);have hval:=hcell (g.tm (qG i t.tx)) (by omega);have hsplit:=dd_snoc hdl;have hret:yU 3 (ceAt M.cs c).val M.W.evs.length y={y with stand:=1,deeds:=y.deeds.dropLast++[retDd d 3 (ceAt M.cs c).val M.W.evs.length]}:=by unfold yU;rw[hdl]
  have hrep:=h.gi.rep y hyA;rw[hsplit] at hrep;have hold:=h.gi.old y hyA (by rw[qj];exact k5);rw[qj] at hold;have hgi:=h.gi.turn (s':=yU 3 (ceAt M.cs c).val M.W.evs.length y) (rd:=upC (g.rd y.id) c (ceAt M.cs c).val) (wr:=g.wr y.id) hJ.ids hy (by rw[hret]) (by rw[hret]) (by
   rw[hret];exact(hrep.uncall hd0).read (d:=retDd d 3 (ceAt M.cs c).val M.W.evs.length) hcn (by show d.obj=_;rw[p3,hc]) (p2 hk) rfl rfl (by rw[qj,k3];exact hf) (fun u hu=>by
    rw[qj] at hu;have:=hold c u hcn hu;rw[hval] at this;exact(Option.some.inj this).symm)) (fun h0 k v hk hkv=>by
   rw[qj] at hkv ⊢;unfold upC at hkv
   split at hkv
   ·rename_i e;subst e
    rw[hval];exact hkv
   ·exact hold k v hk hkv) (fun h1=>absurd (by rw[qj];exact k5) h1) (fun h1=>absurd (by rw[qj];exact k5) h1) (fun h3=>by
   exfalso;rw[hret] at h3;have h3:y.status=3:=h3;have:=((hF y hyA).2.1 hst2).1;omega) (.inl (by rw[hret]))
  rw[qj,upG_id g.wr] at hgi;have h1:=h.turn hbt (t':=rdTh t a (ceAt M.cs a.cell).val) (x':=.none) (o':=some (tm,upd a.cell () r,s)) (cs':=M.cs) (es:=[qE {xG 3 with ret:=3,val:=(ceAt M.cs a.cell).val} (qG i t.tx)]) ht htx3 hnl hgi (Nat.le_refl _) (fun z hz=>⟨rfl,qO hz,rfl,rfl⟩) rfl ⟨h.nwl _,h.tml _⟩ (.inr ⟨rfl,rfl⟩) (fun k hk ho=>by
   by_cases e:k=c
   ·subst e;exact absurd hown0 ho
   ·refine .inr ⟨?_,rfl,rfl⟩
    show upG g.rd (qG i t.tx) (upC (g.rd (qG i t.tx)) c (ceAt M.cs c).val) (qG i t.tx) k=_;rw[qS];exact if_neg e) (fun k hk=>.inl rfl) (fun _=>by unfold rdTh;split <;> rfl) (fun e=>by exfalso;revert e;unfold rdTh;split <;> simp[hb]) (fun k hk=>.inr (.inl ⟨rfl,rfl,fun now l e=>by rw[hx] at e;cases e⟩)) (fun tm' r' s' _ e=>by
   simp only[Option.some.injEq,Prod.mk.injEq] at e;obtain⟨rfl,rfl,rfl⟩:=e;refine⟨k1,fun k=>?_,k3,k4,k5⟩;show(upG g.rd (qG i t.tx) (upC (g.rd (qG i t.tx)) c (ceAt M.cs c).val) (qG i t.tx) k).isSome=_;rw[qS];unfold upC;by_cases e:k=c
   ·rw [if_pos e,e,hc,fnd_upd_same hrsrt];rfl
   ·rw [if_neg e,k2,fnd_upd_other hrsrt (by omega)]) (fun a l tm' r' s' _ _ e=>by cases e)
  rw[←h.ck] at h1;rw[hc] at h1 ⊢;exact⟨_,_,clk,hj',h1⟩
 |refused a tm r s hw hb hx ha hk hr hf htn=>
  have hv:Vw M i t _ tm r s:=⟨ht,hb,hx,hr⟩
  exact gone4 hv (.inl hw) (fun _ _ e=>by cases e) (h.wv i t _ tm r s hv).ph
 |abort hw hb hx=>
  obtain⟨tm,r,s,hr⟩:=hws hb;have hv:Vw M i t _ tm r s:=⟨ht,hb,hx,hr⟩
  exact gone4 hv (.inr (.inr hw)) (fun _ _ e=>by cases e) (h.wv i t _ tm r s hv).ph
 |lock_ k l hw hb hx ho2=>
  obtain⟨tm,r,s,hr⟩:=hws hb;have hv:Vw M i t _ tm r s:=⟨ht,hb,hx,hr⟩
  obtain⟨k1,k2,k3,k4,k5,k6,k7⟩:=h.wv i t _ tm r s hv;obtain rfl:=eqx hx;obtain⟨-,-,-,hrng⟩:t.waits=4/\LsOk P (k::l):=hnx;obtain⟨hk0,hk1⟩:=hrng k (List.mem_cons_self ..);obtain⟨c,rfl⟩:∃c:Nat,k=c:=⟨k.toNat,by omega⟩
  rw[Int.toNat_natCast];have hcn:c < P.cells.length:=by omega
  have hcs:∀z:Nat,ceAt (M.cs.set c ⟨(ceAt M.cs c).val,(ceAt M.cs c).ver,qG i t.tx⟩) (z:Int)=if z=c then⟨(ceAt M.cs c).val,(ceAt M.cs c).ver,qG i t.tx⟩ else ceAt M.cs (z:Int):=fun z=>ceAt_set (by rw[hL.csl];exact hcn)
  have hnd:=List.nodup_cons.1 k6;refine⟨A,g,clk,hJ,?_⟩;have h1:=h.quiet hbt (x':=yw l) (cs':=M.cs.set c ⟨(ceAt M.cs c).val,(ceAt M.cs c).ver,qG i t.tx⟩) (clk':=clk) hv (Nat.le_refl _) (fun z hz=>by
   rw[hcs]
   split
   ·rename_i e;subst e;exact .inr ⟨.inl ho2,.inr rfl⟩
   ·exact .inl rfl) (fun z hz=>.inr (.inl ⟨by rw[hcs];split;(· rename_i e;subst e;rfl);rfl,by rw[hcs];split;(· rename_i e;subst e;rfl);rfl,fun now l e=>by cases e⟩)) ⟨k1,k2,k3,fun z hz=>by
   rw[hcs,held_lock];by_cases e:z=c
   ·subst e;rw[if_pos rfl];exact⟨fun _=>⟨k7 _ (List.mem_cons_self ..),hnd.1⟩,fun _=>rfl⟩
   ·rw [if_neg e,k4 z hz]
    have ne:¬(z:Int)=(c:Int):=by omega
    simp[held,ne],by
   cases l with
   |nil=>exact k5
   |cons b l=>exact⟨k5,hnd.2,fun z hz=>k7 z (List.mem_cons_of_mem _ hz)⟩⟩ (fun a l' e=>by cases l <;> cases e)
  rw[←h.ck] at h1;exact h1
 |lockNo k l hw hb hx ho2=>
  obtain⟨tm,r,s,hr⟩:=hws hb;have hv:Vw M i t _ tm r s:=⟨ht,hb,hx,hr⟩
  exact gone4 hv (.inr (.inl hw)) (fun _ _ e=>by cases e) (h.wv i t _ tm r s hv).ph.1
 |tick tm r s hw hb hx hr=>
  have hv:Vw M i t _ tm r s:=⟨ht,hb,hx,hr⟩
  obtain⟨k1,k2,k3,k4,k5⟩:=h.wv i t _ tm r s hv;have hwo:=hL.wo i tm r s hr;have k5:g.nw (qG i t.tx)=0:=k5;have hck:M.clk+1=((clk+1:Nat):Int):=by rw[h.ck];omega
  have h1:=h.quiet hbt (x':=.look ((clk+1:Nat):Int) (r.map (·.1))) (cs':=M.cs) (clk':=clk+1) hv (Nat.le_succ _) (fun z hz=>.inl rfl) (fun z hz=>.inr (.inl ⟨rfl,rfl,fun now l e=>by cases e⟩)) ⟨k1,k2,k3,k4,k5,clk+1,rfl,Nat.le_refl _,⟨by have:=h.tml (qG i t.tx);omega,fun z e=>by have:=h.nwl z;omega,fun k v hk hkv hkl=>by
   exfalso;exact hkl (rkey hwo.rsrt (by rw[←k2 k,hkv];rfl)),fun k hk _ z _ _ hz=>by have:=h.tml z;omega,fun k hk _ z hz=>by have:=h.nwl z;omega⟩⟩ (fun a l e j u b l' tm' r' s' hne hw2=>by
   cases e;obtain⟨-,nb,rfl,hb2,-⟩:=(h.wv j u _ tm' r' s' hw2).ph;exact⟨⟨by omega,fun k hk h1 h2=>absurd (rkey hwo.rsrt h1) h2⟩,by omega,fun k hk _ _ _=>by omega⟩)
  obtain⟨k0,y,hy,qj,hth,hst⟩:=hJ.cur i t ht hb;have hyA:=List.mem_of_getElem? hy;have hst3:y.stand=3:=by rw[hst];simp[xg,hw]
  obtain⟨g',h2⟩:=h1.looked (i:=i) (t:=t) (now:=((clk+1:Nat):Int)) (tm:=tm) (l:=r.map (·.1)) (r:=r) (s:=s) hbt hJ.ids ⟨ht,hb,List.getElem?_set_self hnl.1,hr⟩ hwo.ssrt hyA qj (.inl ((hX y hyA).st3.1 hst3)) (by have:=(hX y hyA).fin (by omega);omega);simp only[List.set_set] at h2;rw[hck];exact⟨A,g',clk+1,hJ,h2⟩
 |look_ now k l tm r s hw hb hx hr htn=>
  have hv:Vw M i t _ tm r s:=⟨ht,hb,hx,hr⟩
  obtain⟨k1,k2,k3,k4,k5,nw,rfl,k6,k7⟩:=h.wv i t _ tm r s hv;have hwo:=hL.wo i tm r s hr;obtain rfl:=eqx hx;obtain⟨-,-,-,hrng⟩:t.waits=4/\LsOk P (k::l):=hnx;obtain⟨hk0,hk1⟩:=hrng k (List.mem_cons_self ..);obtain⟨c,rfl⟩:∃c:Nat,k=c:=⟨k.toNat,by omega⟩
  have hcn:c < P.cells.length:=by omega
  unfold taken at htn;simp only[Bool.or_eq_false_iff,decide_eq_false_iff_not] at htn;obtain⟨hown,hver⟩:=htn;have hown:(ceAt M.cs c).own=0\/(ceAt M.cs c).own=qG i t.tx:=by
   rcases Classical.em ((ceAt M.cs c).own=0) with e|e
   ·exact .inl e
   ·refine .inr ?_
    simpa[e] using hown
  have ownj:∀(j:Nat) (u:Th),M.W.ths[j]?=some u->u.begun=true->(ceAt M.cs c).own=qG j u.tx->j=i:=fun j u hu hub e=>by
   rcases hown with e1|e1
   ·exact absurd (e.symm.trans e1) (id_pos j u.tx)
   ·exact (idOf_inj (hbt j u hu hub) htx3 (e.symm.trans e1)).1
  have hcell:=h.cell hcn fun j u now' l' tm' r' s' hw2 e=>by
   obtain rfl:=ownj j u hw2.th hw2.b e;have:=(hv.one hw2).2.1;cases this
  obtain⟨k0,y,hy,qj,hth,hst⟩:=hJ.cur i t ht hb;have hyA:=List.mem_of_getElem? hy;have hst3:y.stand=3:=by rw[hst];simp[xg,hw]
  have hold:=h.gi.old y hyA (by rw[qj];exact k5);rw[qj] at hold;have h1:=h.quiet hbt (x':=.look (nw:Int) l) (cs':=M.cs) (clk':=clk) hv (Nat.le_refl _) (fun z hz=>.inl rfl) (fun z hz=>.inr (.inl ⟨rfl,rfl,fun now l e=>by cases e⟩)) ⟨k1,k2,k3,k4,k5,nw,rfl,k6,⟨k7.tm,k7.ne,fun z v hz hzv hzl c1 h1 h2=>by
   by_cases e:z=c
   ·subst e
    have e1:=hold z v hcn hzv;rw[hcell _ (by omega)] at e1;rw[hcell c1 (by omega)];exact e1
   ·exact k7.rd z v hz hzv (by simp only[List.mem_cons,not_or];exact⟨by omega,hzl⟩) c1 h1 h2,k7.a,k7.b⟩⟩ (fun a l2 e j u b l' tm' r' s' hne hw2=>by
   cases e;have p1:=h.pr i j t u nw b (c::l) l' tm tm' r r' s s' hne hv hw2;have p2:=h.pr j i u t b nw l' (c::l) tm' tm r' r s' s (fun e=>hne e.symm) hw2 hv;refine⟨⟨p1.1,fun z hz h1 h2 h3=>?_⟩,p2⟩;by_cases e:z=c
   ·subst e
    exact absurd (ownj j u hw2.th hw2.b (((h.wv j u _ tm' r' s' hw2).hd z hz).2 h3)).symm hne
   ·exact p1.2 z hz h1 (by simp only[List.mem_cons,not_or];exact⟨by omega,h2⟩) h3)
  obtain⟨g',h2⟩:=h1.looked (i:=i) (t:=t) (now:=(nw:Int)) (tm:=tm) (l:=l) (r:=r) (s:=s) hbt hJ.ids ⟨ht,hb,List.getElem?_set_self hnl.1,hr⟩ hwo.ssrt hyA qj (.inl ((hX y hyA).st3.1 hst3)) (by have:=(hX y hyA).fin (by omega);omega);simp only[List.set_set] at h2;rw[←h.ck] at h2;exact⟨A,g',clk,hJ,h2⟩
 |lookNo now k l tm r s hw hb hx hr htn=>
  have hv:Vw M i t _ tm r s:=⟨ht,hb,hx,hr⟩
  exact gone4 hv (.inr (.inl hw)) (fun _ _ e=>by cases e) (h.wv i t _ tm r s hv).ph.1
 |write_ now k l tm r s hw hb hx hr=>
  have hv:Vw M i t _ tm r s:=⟨ht,hb,hx,hr⟩
  obtain⟨k1,k2,k3,k4,k5,k6,k7,k8⟩:=h.wv i t _ tm r s hv;obtain rfl:=eqx hx;obtain⟨-,-,-,hrng⟩:t.waits=4/\LsOk P (k::l):=hnx;obtain⟨hk0,hk1⟩:=hrng k (List.mem_cons_self ..);obtain⟨c,rfl⟩:∃c:Nat,k=c:=⟨k.toNat,by omega⟩
  rw[Int.toNat_natCast];have hcn:c < P.cells.length:=by omega
  obtain⟨v,hv1,hv2⟩:=k8 c hcn (List.mem_cons_self ..);rw[hv1];have hcs:∀z:Nat,ceAt (M.cs.set c ⟨(some v).getD 0,now,0⟩) (z:Int)=if z=c then⟨(some v).getD 0,now,0⟩ else ceAt M.cs (z:Int):=fun z=>ceAt_set (by rw[hL.csl];exact hcn)
  have hnd:=List.nodup_cons.1 k7;have h1:=h.quiet hbt (x':=.write now l) (cs':=M.cs.set c ⟨(some v).getD 0,now,0⟩) (clk':=clk) hv (Nat.le_refl _) (fun z hz=>by
   rw[hcs]
   split
   ·rename_i e;subst e;exact .inr ⟨.inr ((k4 z hz).2 (List.mem_cons_self ..)),.inl rfl⟩
   ·exact .inl rfl) (fun z hz=>by
   rw[hcs];by_cases e:z=c
   ·subst e
    rw[if_pos rfl];exact .inl fun c1 h1=>hv2 c1 (by have h1:now<=c1:=h1;omega)
   ·rw [if_neg e]
    by_cases hzl:(z:Int) ∈ l
    ·exact .inr (.inr ⟨now,l,rfl,hzl⟩)
    ·refine .inr (.inl ⟨rfl,rfl,fun now' l' e2=>?_⟩)
     cases e2;simp only[List.mem_cons,not_or];exact⟨by omega,hzl⟩) ⟨k1,k2,k3,fun z hz=>by
   rw[hcs];by_cases e:z=c
   ·subst e;rw[if_pos rfl];exact⟨fun e=>absurd e.symm hpos,fun e=>absurd e hnd.1⟩
   ·rw [if_neg e,k4 z hz]
    have ne:¬(z:Int)=(c:Int):=by omega
    simp[held,ne],k5,k6,hnd.2,fun z hz hzl=>k8 z hz (List.mem_cons_of_mem _ hzl)⟩ (fun a l' e=>by cases e)
  have h2:=h1.wrote (i:=i) (t:=t) (now:=now) (tm:=tm) (l:=l) (r:=r) (s:=s) hbt ⟨ht,hb,List.getElem?_set_self hnl.1,hr⟩;simp only[List.set_set] at h2;rw[←h.ck] at h2;exact⟨A,g,clk,hJ,h2⟩
 |commit hw hb hx=>
  obtain⟨tm,r,s,hr⟩:=hws hb;have hv:Vw M i t _ tm r s:=⟨ht,hb,hx,hr⟩
  obtain⟨k1,k2,k3,k4,k5⟩:=h.wv i t _ tm r s hv;obtain⟨k0,y,hy,qj,hth,hst,hj'⟩:=hJ.ended (kind:=5) (status:=3) ht hb (by omega) ha6 htk.act (fun h=>by omega) (.inl ⟨rfl,rfl,hw⟩);have hyA:=List.mem_of_getElem? hy;have hgi:=h.gi.turn0 (s':=endS 3 M.W.evs.length y) hJ.ids hy rfl rfl (h.gi.rep y hyA) (fun _=>.inr rfl) (fun _ h0 k=>by
   rw[qj] at h0 ⊢;rw[k3];rcases k5 with k5|k5
   ·exact absurd h0 k5
   ·rw [k5];rfl) (.inr fun u hu=>(hT u hu).2.1)
  refine⟨_,g,clk,hj',h.gone hbt hv hgi (fun _ _ e=>by cases e) fun k hk=>?_⟩;have:(ceAt M.cs k).own≠qG i t.tx:=fun e=>(k4 k hk).1 e;rw[if_neg this]
structure LT (P:Pg) (M:LM) (A:Au) (g:Gh) (clk:Nat):Prop where
 la:Lall P M A
 co:CoI P M A g clk
theorem ceAt_start (cells:List Int) (k:Nat):(ceAt (cells.map fun c=>(⟨c,0,0⟩:Ce)) (k:Int)).own=0/\∀x,cells[k]?=some x->(ceAt (cells.map fun c=>(⟨c,0,0⟩:Ce)) (k:Int)).val=x:=by
 unfold ceAt;simp only[Int.toNat_natCast,List.getElem?_map];cases cells[k]? with
 |none=>exact⟨rfl,fun x h=>by cases h⟩
 |some c=>exact⟨rfl,fun x h=>by cases h;rfl⟩
theorem LT.start (h:PgOk P):LT P (xm P) [] ⟨fun _ _=>none,fun _ _=>none,fun _=>0,fun _=>0,fun _=>P.cells⟩ 0:=by
 have hz:∀(i:Nat) (t:Th),(xm P).W.ths[i]?=some t->t=Th.zero:=fun i t ht=>List.eq_of_mem_replicate (List.mem_of_getElem? ht);have nov:∀{i:Nat} {t:Th} {x:Nx} {tm:Int} {r:MB} {s:MI},¬Vw (xm P) i t x tm r s:=fun {i t x tm r s} hv=>by
  have:=hv.b;rw[hz i t hv.th] at this;cases this
 refine⟨Lall.start h,⟨⟨by simp,by simp,by simp,by simp,by simp,by simp,by simp,by simp,rfl,by simp,by simp,by simp⟩,rfl,fun _=>Nat.le_refl _,fun _=>Nat.le_refl _,fun i t x tm r s hv=>absurd hv nov,fun i j t u a b l l' tm tm' r r' s s' _ hv=>absurd hv nov,fun k hk=>.inl (ceAt_start P.cells k).1,fun k hk=>.inr fun c _=>?_⟩⟩;show P.cells[k]?=some (ceAt (xm P).cs k).val;rw[List.getElem?_eq_getElem hk];exact congrArg some ((ceAt_start P.cells k).2 _ (List.getElem?_eq_getElem hk)).symm
theorem stp_evs {i:Nat} {t:Th} (hs:Stp P M i t M'):M'.W.evs=M.W.evs\/∃e,M'.W.evs=M.W.evs++[e]:=by
 cases hs <;> first|exact .inr ⟨_,rfl⟩|exact .inl rfl
theorem LT.step (h:LT P M A g clk) (i:Int):∃A' g' clk',LT P (yn P M i) A' g' clk'/\((yn P M i).W.evs=M.W.evs\/∃e,(yn P M i).W.evs=M.W.evs++[e]):=by
 unfold yn;cases hd:ye P M.W i with
 |true=>exact⟨A,g,clk,h,.inl rfl⟩
 |false=>
  obtain⟨k,rfl,hk⟩:=wDone_in h.la.li.thl hd;obtain⟨t,ht⟩:∃t,M.W.ths[k]?=some t:=⟨_,List.getElem?_eq_getElem (by rw[h.la.li.thl];exact hk)⟩
  have hdn:qR P k t=false:=by rw[←wDone_th ht];exact hd
  have hs:=stp_of h.la.li hk ht hd;have hw:=stp_wk h.la.li ht hs;obtain⟨A',g',clk',h1,h2⟩:=co_step h.co h.la.li h.la.ji hk ht hdn hs;exact⟨A',g',clk',⟨⟨(stp_inv h.la.li hk ht hdn hs).1,bstep h.la.li.ok h.la.bi hk ht hdn (h.la.li.th k t ht).1 hw,h1⟩,h2⟩,stp_evs hs⟩
def Past (P:Pg) (M:LM):Prop:=∀n,n<=M.W.evs.length->∃M' A g clk,LT P M' A g clk/\M'.W.evs=M.W.evs.take n
theorem Past.start (h:PgOk P):Past P (xm P):=fun n hn=>⟨_,_,_,_,LT.start h,by
 have:(xm P).W.evs=[]:=rfl;rw[this];simp⟩
theorem Past.step (hp:Past P M) (h:LT P M A g clk) (i:Int):Past P (yn P M i):=by
 obtain⟨A',g',clk',h1,h2⟩:=h.step i;intro n hn;rcases h2 with e|⟨x,e⟩
 ·rw [e] at hn ⊢;exact hp n hn
 ·by_cases hl:n<=M.W.evs.length
  ·obtain ⟨M2,A2,o2,s2,h3,h4⟩:=hp n hl
   exact⟨M2,A2,o2,s2,h3,by rw[e,List.take_append_of_le_length hl];exact h4⟩
  ·refine ⟨_,_,_,_,h1,?_⟩
   rw[List.take_of_length_le];rw[e] at hn ⊢;simp at hn ⊢;omega
theorem LT.steps (h:LT P M A g clk) (hp:Past P M):∀l:List Int,(∃A' g' clk',LT P (qV P M l) A' g' clk')/\Past P (qV P M l):=by
 intro l
 induction l generalizing M A g clk with
 |nil=>exact⟨⟨_,_,_,h⟩,hp⟩
 |cons i l ih=>
  obtain⟨A',g',clk',h1,-⟩:=h.step i;exact ih h1 (hp.step h i)
theorem lt_run (h:PgOk P) {l:List Int} {full:Bool} (hr:RunOf P (xm P) l full M):(∃A g clk,LT P M A g clk)/\Past P M:=by
 unfold RunOf at hr
 split at hr
 ·obtain ⟨l2,rfl,-⟩:=hr
  exact(LT.start h).steps (Past.start h) _
 ·rw [hr];exact(LT.start h).steps (Past.start h) _
theorem LT.ends (h:LT P M A g clk):(gmOf 3 A).Ends (0,P.cells):=
 h.co.gi.ends h.la.ji.ids (N:=M.W.evs.length) (fun s hs=>by have:=fed_times h.la.ji.fed s hs;omega) fun s hs=>by omega
end
structure GlobS (w:World):Prop where
 t:GlobT w
 pow:PowAt w
 big:0 < w.heap.size
 bud:∃b:Addr,w.cell? ⟨0,0,none⟩=some (.iface 375 (.pointer (some b)))
theorem GlobS.below {w w':World} (h:GlobS w) (hb:Below w.heap.size w w'):GlobS w':=let ⟨h1,h2,h3,b,h4⟩:=h;⟨h1.below hb,h2.below hb,by have:=hb.size;omega,b,qu hb h3 h4⟩
section
attribute [local irreducible] xL
theorem lo_table {P:Pg} {M:LM} {A:Au} (hv:xV P) (h:Lall P M A):M.W.evs.length<=400/\(∀e ∈ M.W.evs,EvOk (xe P).length e)/\Fed M.W.evs A/\RegOk (xe P)/\xe P≠[]/\A.length<=12/\(∀s ∈ A,∀d ∈ s.deeds,DdR (xe P).length d):=by
 have hc:=hv.ok.cells;refine⟨h.evs,fun e he=>?_,h.ji.fed,⟨by simp[xe];omega,fun o ho=>?_⟩,fun e=>?_,?_,fun s hs d hd=>?_⟩
 ·have:=h.ji.evs e he
  simpa[xe] using this
 ·obtain ⟨c,hc,rfl⟩:=List.mem_map.1 ho
  have:=hv.ok.cell c hc;exact⟨rfl,by show -1000000000<=c;omega,by show c<=1000000000;omega⟩
 ·have:(xe P).length=0:=by rw[e];rfl
  simp[xe] at this;rw[this] at hc;simp at hc
 ·have hn:=h.ji.ids
  have h4:M.W.ths.length<=4:=by have:=h.li.thl;have:=hv.nums;omega
  have hsub:A.map (·.id) ⊆ (List.range 12).map (fun n:Nat=>(n:Int)+1):=by
   intro x hx;obtain⟨s,hs,rfl⟩:=List.mem_map.1 hx;obtain⟨i,t,k,ht,qj,-,hk⟩:=h.ji.all s hs;have hi:=(List.getElem?_eq_some_iff.1 ht).1;have hb:=h.ji.bt i t ht;have hk3:k < 3:=by
    rcases hk with⟨h1,-⟩|⟨h1,h2,-⟩
    ·omega
    ·have:=hb.2 h2;omega
   refine List.mem_map.2 ⟨3*i+k,List.mem_range.2 (by omega),?_⟩;rw[qj];unfold qG;omega
  have:=List.Nodup.length_le_of_subset hn hsub;simpa using this
 ·have h1:=(fed_txs h.ji.fed h.ji.evs s hs).deeds d hd
  simpa[xe] using(⟨h1.obj,h1.op,h1.key⟩:DdR P.cells.length d)
theorem opaque_run {P:Pg} {l:List Int} {full:Bool} {M:LM} (hv:xV P) (hr:RunOf P (xm P) l full M):∃A,Fed M.W.evs A/\M.W.evs.length<=400/\(∀e ∈ M.W.evs,EvOk (xe P).length e)/\RegOk (xe P)/\xe P≠[]/\A.length<=12/\PartOk (xe P) M.W.evs:=by
 obtain⟨⟨A,g,clk,h⟩,hp⟩:=lt_run hv.ok hr;obtain⟨h1,h2,h3,h4,h5,h6,h7⟩:=lo_table hv h.la;refine⟨A,h3,h1,h2,h4,h5,h6,fun n hn=>?_⟩;obtain⟨M',A',g,clk,h',he⟩:=hp n hn;obtain⟨k1,k2,k3,k4,k5,k6,k7⟩:=lo_table hv h'.la;refine⟨A',by rw[←he];exact k3,k6,k7,?_⟩;have:=h'.ends;simpa[xe,Function.comp_def] using this
theorem sh_Check (ov vv:Value) (os:List Ob) (es:List Ev) (A:Au) (w:World) (ho:Sl w w.heap.size 2 ov os.length (os.flatMap Ob.cells)) (he:Sl w w.heap.size 8 vv es.length (es.flatMap Ev.cells)) (hne:os≠[]) (hr:RegOk os) (hel:es.length<=400) (hes:∀e ∈ es,EvOk os.length e) (hW:xa w) (hF:Fed es A):
  Calls Tryz.prog 25 #[.agg #[ov,vv]] w fun e w'=>e=.returned .nilIface/\Below w.heap.size w w':=by
 obtain⟨ao,co,rfl,mo⟩:=ho.ex;obtain⟨ae,ce,rfl,me⟩:=he.ex;have b0:Below w.heap.size w (w.alloc (.cells #[.slice ao os.length co,.slice ae es.length ce] 37)):=(Below.refl _ w).alloc (Nat.le_refl _) _;have r0:=qy w (.cells #[.slice ao os.length co,.slice ae es.length ce] 37);have TC:=qj (sh_taken (.slice ao os.length co) (.slice ae es.length ce) os es A _ ((ho.below b0).more b0.size) ((he.below b0).more b0.size) hne hr hel hes (hW.below b0) hF);clear ho he hne hel hes hW hF hr;go_enter Tryz.func25,Tryz.ntmps25;go_wp2_with fail;generalize w.alloc (.cells #[.slice ao os.length co,.slice ae es.length ce] 37)=W at *;refine TC.o.mono ?_;rintro e W1 ⟨bA,rfl,-,b1⟩;go_wp2_with fail;go_ret;exact⟨rfl,b0.trans (b1.mono b0.size)⟩
theorem eqE (b:Addr) (X:World):Sem.run Tryz.prog (binOp BinOp.eql 30 (.iface 375 (.pointer (some b))) (.iface 375 (.pointer (some b)))) X=.ok (.bool true) X:=by
 have h1:(Tryz.prog.info? 375).map (·.comparable)=some true:=by kernel_rfl
 have h2:(Tryz.prog.info? 389).isSome=true:=by kernel_rfl
 obtain⟨i,hi,hc⟩:=Option.map_eq_some_iff.1 h1;obtain⟨j,hj⟩:=Option.isSome_iff_exists.1 h2;exact run_eql_iface_ptr_same X b Tryz.underlying30 Tryz.underlying375 hi hc hj
theorem eqN (b:Addr) (X:World):Sem.run Tryz.prog (binOp BinOp.eql 30 .nilIface (.iface 375 (.pointer (some b)))) X=.ok (.bool false) X:=
 run_eql_iface_nil_left X _ _ Tryz.underlying30
theorem law_clockOpaque (vc vt:Value) (P:Pg) (sv:Value) (l:List Int) (bf:Bool) (w:World) (hG:GlobS w) (h:PgIs w w.heap.size vc vt P) (hs:Sl w w.heap.size 1 sv l.length (l.map (.int .i64))):
  Calls Tryz.prog 6 #[.agg #[vc,vt],sv,.bool bf] w fun e w'=>e=.returned (.bool true)/\Below w.heap.size w w':=by
 obtain⟨ac,cc,rfl,mc⟩:=h.cells.ex;obtain⟨at',ct,rfl,mt⟩:=h.thr.ex;obtain⟨sa,sc,rfl,ms⟩:=hs.ex;have b0:Below w.heap.size w (w.alloc (.cells #[.slice ac P.cells.length cc,.slice at' P.threads.length ct] 25)):=(Below.refl _ w).alloc (Nat.le_refl _) _;have r0:=qy w (.cells #[.slice ac P.cells.length cc,.slice at' P.threads.length ct] 25);have hf:=qj (l_first19 _ (hG.below b0).t.prog);have H:=qj h;have HS:=qj hs;have HG:=qj hG;have B0:=qj b0;have R0:=qj r0;have l0:=qh r0;clear h hs hG b0 r0;go_enter Tryz.func6,Tryz.ntmps6;go_wp2_with fail;generalize w.alloc (.cells #[.slice ac P.cells.length cc,.slice at' P.threads.length ct] 25)=W at *;refine(hf.o).mono ?_;rintro e W1 ⟨rfl,b1⟩;have r1:=qp R0.o b1 l0;have l1:=qh r1;have y0:=qg r1 0;have y1:=qg r1 1;simp at y0 y1;have B1:=qj (B0.o.trans (b1.mono B0.o.size));have hz1:=B1.o.size;have hsm:=qj (l_small19 _ _ P W1 ((H.o.below B1.o).more hz1));have R1:=qj r1;clear r1 b1 hf;go_wp2_with fail;refine(hsm.o).mono ?_;rintro e W2 ⟨b,rfl,hb20,b2⟩;have r2:=qp R1.o b2 l1;have l2:=qh r2;clear y0 y1;have y0:=qg r2 0;have y1:=qg r2 1;simp at y0 y1;have B2:=qj (B1.o.trans (b2.mono hz1));have hz2:=B2.o.size;have R2:=qj r2;clear r2 b2 hsm;cases b with
 |false=>
  go_wp2;go_ret;exact⟨rfl,B2.o⟩
 |true=>
 have h20:=hb20 rfl;clear hb20;by_cases hl:l.length<=300
 case neg=>
  have q:decide (300 < l.length)=true:=by simp;omega
  have q2:decide ((300:Int) < (l.length:Int))=true:=by simp;omega
  go_wp2;go_ret;exact⟨rfl,B2.o⟩
 case pos=>
 have q:decide (300 < l.length)=false:=by simp;omega
 have q2:decide ((300:Int) < (l.length:Int))=false:=by simp;omega
 have hG2:=HG.o.below B2.o;obtain⟨g1,tt,tv,g2⟩:=hG2.t.prog;have hR:=qj (la_Run _ _ P W2 ((H.o.below B2.o).more hz2) (.iface tt tv) g2 ⟨_,_,rfl⟩ (by omega) (by omega) _ l ((HS.o.below B2.o).more hz2) hl (going P));have G2:=qj g2;clear g2;go_wp2_with fail;refine(hR.o).mono ?_;rintro e W3 ⟨hv,b3⟩;have B3:=qj (B2.o.trans (b3.mono hz2));have G3:=qj (HG.o.below B3.o);have hz3:=B3.o.size;have R3:=qj (qp R2.o b3 (qh R2.o));have hb23:W2.heap.size<=W3.heap.size:=b3.size;rcases hv with⟨hnv,rfl⟩|⟨hval,M,ov,vv,rfl,hro,ho,hv⟩
 ·have b4:Below W3.heap.size W3 (W3.alloc (.cells #[.slice none 0 0,.slice none 0 0] 37)):=(Below.refl _ W3).alloc (Nat.le_refl _) _
  have RH4:=qj (qy W3 (.cells #[.slice none 0 0,.slice none 0 0] 37));have B4:=qj (B3.o.trans (b4.mono hz3));have b24:=qj (b3.trans (b4.mono b3.size));have R4:=qj (qp R3.o b4 (qh R3.o));clear y0 y1;have y0:=qg R4.o 0;have y1:=qg R4.o 1;have yl:=qh R4.o;clear b3 b4 hR;cases bf with
  |false=>
   go_wp2_with fail;generalize W3.alloc (.cells #[.slice none 0 0,.slice none 0 0] 37)=W4 at *;simp at y0 y1;have VC:=qj (p_Valid _ _ P W4 ((H.o.below B4.o).more B4.o.size) (.iface tt tv) (qu b24.o (by omega) G2.o) (by have:=b24.o.size;omega));go_wp2_with fail;refine VC.o.mono ?_;rintro e W9 ⟨hvv,b9⟩;obtain rfl:e=.returned (.iface tt tv):=by
    rcases hvv with⟨h1,-⟩|⟨-,h2⟩
    ·exact absurd h1 hnv
    ·exact h2
   go_wp2_with fail;go_ret;exact⟨rfl,B4.o.trans (b9.mono B4.o.size)⟩
  |true=>
   go_wp2_with fail;generalize W3.alloc (.cells #[.slice none 0 0,.slice none 0 0] 37)=W4 at *;simp at y0 y1;have hFF:=qj (la_Full _ _ P W4 ((H.o.below B4.o).more B4.o.size) (.iface tt tv) (qu b24.o (by omega) G2.o) ⟨_,_,rfl⟩ (by have:=b24.o.size;omega) (by omega) _ l ((HS.o.below B4.o).more B4.o.size) hl (going P));go_wp2_with fail;refine(hFF.o).mono ?_;rintro e W5 ⟨hv5,b5⟩;have b25:=qj (b24.o.trans (b5.mono b24.o.size));have B5:=qj (B4.o.trans (b5.mono B4.o.size));have rh5:=qp RH4.o b5 (qh RH4.o);have R5:=qj (qp R4.o b5 (qh R4.o));have x0:=qg rh5 0;have x1:=qg rh5 1;simp at x0 x1;have xl:=qh rh5;have xf:=fun j=>qx rh5 j;have hbh:w.heap.size<=W3.heap.size:=hz3;rcases hv5 with⟨-,rfl⟩|⟨hval,-⟩
   case inr=>exact absurd hval hnv
   case inl=>
    have rhF:=qj (qB (qB rh5 0 (.slice none 0 0)) 1 (.slice none 0 0));have nep:W3.heap.size≠w.heap.size:=by have:=qh R3.o;omega
    have RF:=qj (qK (j:=1) (v:=.slice none 0 0) (qK (j:=0) (v:=.slice none 0 0) R5.o nep) nep);have y0:=qg RF.o 0;have y1:=qg RF.o 1;simp at y0 y1;have yl:=qh RF.o;have BF:=qj ((B5.o.setCell (p:=⟨W3.heap.size,0,none⟩) hbh (.slice none 0 0)).setCell (p:=⟨W3.heap.size,1,none⟩) hbh (.slice none 0 0));have hb3:W2.heap.size<=W3.heap.size:=hb23;have b2F:=qj ((b25.o.setCell (p:=⟨W3.heap.size,0,none⟩) hb3 (.slice none 0 0)).setCell (p:=⟨W3.heap.size,1,none⟩) hb3 (.slice none 0 0));clear rh5 b5 hFF;go_wp2_with fail;generalize (W5.setCell ⟨W3.heap.size,0,none⟩ (.slice none 0 0)).setCell ⟨W3.heap.size,1,none⟩ (.slice none 0 0)=W6 at *;have VC:=qj (p_Valid _ _ P W6 ((H.o.below BF.o).more BF.o.size) (.iface tt tv) (qu b2F.o (by omega) G2.o) (by have:=b2F.o.size;omega));go_wp2_with fail;refine VC.o.mono ?_;rintro e W9 ⟨hvv,b9⟩;obtain rfl:e=.returned (.iface tt tv):=by
     rcases hvv with⟨h1,-⟩|⟨-,h2⟩
     ·exact absurd h1 hnv
     ·exact h2
    go_wp2_with fail;go_ret;exact⟨rfl,BF.o.trans (b9.mono BF.o.size)⟩
 ·obtain ⟨oa,oc,rfl⟩:=qq.slv ho
  obtain⟨ea,ec,rfl⟩:=qq.slv hv;have b4:Below W3.heap.size W3 (W3.alloc (.cells #[.slice oa (xe P).length oc,.slice ea M.W.evs.length ec] 37)):=(Below.refl _ W3).alloc (Nat.le_refl _) _;have RH4:=qj (qy W3 (.cells #[.slice oa (xe P).length oc,.slice ea M.W.evs.length ec] 37));have B4:=qj (B3.o.trans (b4.mono hz3));have b24:=qj (b3.trans (b4.mono b3.size));have R4:=qj (qp R3.o b4 (qh R3.o));have HOX:=qj (qq.below ho b4);have HEX:=qj (qq.below hv b4);clear y0 y1;have y0:=qg R4.o 0;have y1:=qg R4.o 1;have yl:=qh R4.o;clear b3 b4 hR ho hv;cases bf with
  |false=>
   have RHX:=qj RH4.o;clear RH4;obtain⟨A,hfd,hel,hes,hreg,hne,hA12,hpart⟩:=opaque_run hval hro;have GX:=HG.o.below B4.o;obtain⟨bb,hbb⟩:=GX.bud;have SC:=qj (l_Judge 3000 ⟨by omega,by omega⟩ _ _ (xe P) M.W.evs A (W3.alloc (.cells #[.slice oa (xe P).length oc,.slice ea M.W.evs.length ec] 37)) HOX.o.sl HEX.o.sl hne hreg hel hes GX.t.words hfd hA12 GX.pow GX.t.ans ⟨by have:=GX.big;omega,hbb⟩ hpart);have CCx:=qj (fun(X:World) (hX:Below (W3.alloc (.cells #[.slice oa (xe P).length oc,.slice ea M.W.evs.length ec] 37)).heap.size (W3.alloc (.cells #[.slice oa (xe P).length oc,.slice ea M.W.evs.length ec] 37)) X)=>sh_Check _ _ (xe P) M.W.evs A X (qq.below HOX.o hX).sl (qq.below HEX.o hX).sl hne hreg hel hes (GX.t.words.below hX) hfd);have HBB:=qj hbb;have BGX:=qj GX.big;clear GX hbb hfd hel hes hreg hne hA12 hpart HOX HEX hro;generalize (xe P).length=on at *;generalize M.W.evs.length=en at *;have yh:=qg RHX.o;have yh0:=yh 0;have yh1:=yh 1;have yhl:=qh RHX.o;have RH2:=qj RHX.o;clear yh RHX;go_wp2_with fail;generalize W3.alloc (.cells #[.slice oa on oc,.slice ea en ec] 37)=W4 at *;simp at yh0 yh1;go_wp2_with fail;refine SC.o.mono ?_;rintro e W8 ⟨yy,ay,ny,cy,py,ky,er,rfl,hres,b8⟩;have b9:Below W8.heap.size W8 (W8.alloc (.cells #[.bool yy,.slice none 0 0,.slice ay ny cy,.int .i64 py,.int .i64 ky] 75)):=(Below.refl _ W8).alloc (Nat.le_refl _) _;have r9:=qj (qy W8 (.cells #[.bool yy,.slice none 0 0,.slice ay ny cy,.int .i64 py,.int .i64 ky] 75));have b89:=qj (b8.trans (b9.mono b8.size));have CK:=qj (CCx.o _ b89.o);have rh9:=qp RH2.o b89.o (qh RH2.o);have z0:=qg rh9 0;have z1:=qg rh9 1;simp at z0 z1;have zl:=qh rh9;have hbb9:=qu b89.o (by have:=BGX.o;omega) HBB.o;clear yh0 yh1 b8 b9 rh9;rcases hres with⟨rfl,rfl⟩|rfl
   ·go_wp2_with fail
    generalize W8.alloc (.cells #[.bool true,.slice none 0 0,.slice ay ny cy,.int .i64 py,.int .i64 ky] 75)=W9 at *;refine CK.o.mono ?_;rintro e W10 ⟨rfl,b10⟩;have r10:=qp r9.o b10 (qh r9.o);have u0:=qg r10 0;simp at u0;have ul:=qh r10;have hbb10:=qu b10 (by have:=BGX.o;have:=b89.o.size;omega) hbb9;have gl10:0 < W10.heap.size:=by have:=BGX.o;have:=b89.o.size;have:=b10.size;omega
    clear r10;have heq:=eqN bb W10;go_wp2_with fail;go_ret;exact⟨rfl,(B4.o.trans (b89.o.mono B4.o.size)).trans (b10.mono (Nat.le_trans B4.o.size b89.o.size))⟩
   ·go_wp2_with fail
    generalize W8.alloc (.cells #[.bool yy,.slice none 0 0,.slice ay ny cy,.int .i64 py,.int .i64 ky] 75)=W9 at *;refine CK.o.mono ?_;rintro e W10 ⟨rfl,b10⟩;have hbb10:=qu b10 (by have:=BGX.o;have:=b89.o.size;omega) hbb9;have gl10:0 < W10.heap.size:=by have:=BGX.o;have:=b89.o.size;have:=b10.size;omega
    have heq:=eqE bb W10;go_wp2_with fail;go_ret;exact⟨rfl,(B4.o.trans (b89.o.mono B4.o.size)).trans (b10.mono (Nat.le_trans B4.o.size b89.o.size))⟩
  |true=>
   clear HOX HEX hro;generalize (xe P).length=on0 at *;generalize M.W.evs.length=en0 at *;go_wp2_with fail;have hlt34:W3.heap.size < (W3.alloc (.cells #[.slice oa on0 oc,.slice ea en0 ec] 37)).heap.size:=by simp
   generalize W3.alloc (.cells #[.slice oa on0 oc,.slice ea en0 ec] 37)=W4 at *;simp at y0 y1;have hFF:=qj (la_Full _ _ P W4 ((H.o.below B4.o).more B4.o.size) (.iface tt tv) (qu b24.o (by omega) G2.o) ⟨_,_,rfl⟩ (by have:=b24.o.size;omega) (by omega) _ l ((HS.o.below B4.o).more B4.o.size) hl (going P));go_wp2_with fail;refine(hFF.o).mono ?_;rintro e W5 ⟨hv5,b5⟩;have b25:=qj (b24.o.trans (b5.mono b24.o.size));have B5:=qj (B4.o.trans (b5.mono B4.o.size));have rh5:=qp RH4.o b5 (qh RH4.o);have R5:=qj (qp R4.o b5 (qh R4.o));have x0:=qg rh5 0;have x1:=qg rh5 1;simp at x0 x1;have xl:=qh rh5;have xf:=fun j=>qx rh5 j;have hbh:w.heap.size<=W3.heap.size:=hz3;rcases hv5 with⟨hno,-⟩|⟨-,M5,ov5,vv5,rfl,hro5,ho5,hv5'⟩
   case inl=>exact absurd hval hno
   case inr=>
    obtain⟨oa5,oc5,rfl⟩:=qq.slv ho5;obtain⟨ea5,ec5,rfl⟩:=qq.slv hv5';have rhF:=qj (qB (qB rh5 0 (.slice oa5 (xe P).length oc5)) 1 (.slice ea5 M5.W.evs.length ec5));have HOX:=qj (qq.set (j:=1) (u:=.slice ea5 M5.W.evs.length ec5) (qq.set (j:=0) (u:=.slice oa5 (xe P).length oc5) ho5 hlt34) hlt34);have HEX:=qj (qq.set (j:=1) (u:=.slice ea5 M5.W.evs.length ec5) (qq.set (j:=0) (u:=.slice oa5 (xe P).length oc5) hv5' hlt34) hlt34);have BF:=qj ((B5.o.setCell (p:=⟨W3.heap.size,0,none⟩) hbh (.slice oa5 (xe P).length oc5)).setCell (p:=⟨W3.heap.size,1,none⟩) hbh (.slice ea5 M5.W.evs.length ec5));have RHX:=qj rhF.o;clear rhF rh5 b5 hFF ho5 hv5' RH4 R4 R5;obtain⟨A,hfd,hel,hes,hreg,hne,hA12,hpart⟩:=opaque_run hval hro5;have GX:=HG.o.below BF.o;obtain⟨bb,hbb⟩:=GX.bud;have SC:=qj (l_Judge 3000 ⟨by omega,by omega⟩ _ _ (xe P) M5.W.evs A ((W5.setCell ⟨W3.heap.size,0,none⟩ (.slice oa5 (xe P).length oc5)).setCell ⟨W3.heap.size,1,none⟩ (.slice ea5 M5.W.evs.length ec5)) HOX.o.sl HEX.o.sl hne hreg hel hes GX.t.words hfd hA12 GX.pow GX.t.ans ⟨by have:=GX.big;omega,hbb⟩ hpart);have CCx:=qj (fun(X:World) (hX:Below ((W5.setCell ⟨W3.heap.size,0,none⟩ (.slice oa5 (xe P).length oc5)).setCell ⟨W3.heap.size,1,none⟩ (.slice ea5 M5.W.evs.length ec5)).heap.size ((W5.setCell ⟨W3.heap.size,0,none⟩ (.slice oa5 (xe P).length oc5)).setCell ⟨W3.heap.size,1,none⟩ (.slice ea5 M5.W.evs.length ec5)) X)=>sh_Check _ _ (xe P) M5.W.evs A X (qq.below HOX.o hX).sl (qq.below HEX.o hX).sl hne hreg hel hes (GX.t.words.below hX) hfd);have HBB:=qj hbb;have BGX:=qj GX.big;clear GX hbb hfd hel hes hreg hne hA12 hpart HOX HEX hro5;generalize (xe P).length=on at *;generalize M5.W.evs.length=en at *;have yh:=qg RHX.o;have yh0:=yh 0;have yh1:=yh 1;have yhl:=qh RHX.o;have RH2:=qj RHX.o;clear yh RHX;go_wp2_with fail;generalize (W5.setCell ⟨W3.heap.size,0,none⟩ (.slice oa5 on oc5)).setCell ⟨W3.heap.size,1,none⟩ (.slice ea5 en ec5)=W6 at *;simp at yh0 yh1;go_wp2_with fail;refine SC.o.mono ?_;rintro e W8 ⟨yy,ay,ny,cy,py,ky,er,rfl,hres,b8⟩;have b9:Below W8.heap.size W8 (W8.alloc (.cells #[.bool yy,.slice none 0 0,.slice ay ny cy,.int .i64 py,.int .i64 ky] 75)):=(Below.refl _ W8).alloc (Nat.le_refl _) _;have r9:=qj (qy W8 (.cells #[.bool yy,.slice none 0 0,.slice ay ny cy,.int .i64 py,.int .i64 ky] 75));have b89:=qj (b8.trans (b9.mono b8.size));have CK:=qj (CCx.o _ b89.o);have rh9:=qp RH2.o b89.o (qh RH2.o);have z0:=qg rh9 0;have z1:=qg rh9 1;simp at z0 z1;have zl:=qh rh9;have hbb9:=qu b89.o (by have:=BGX.o;omega) HBB.o;clear yh0 yh1 b8 b9 rh9;rcases hres with⟨rfl,rfl⟩|rfl
    ·go_wp2_with fail
     generalize W8.alloc (.cells #[.bool true,.slice none 0 0,.slice ay ny cy,.int .i64 py,.int .i64 ky] 75)=W9 at *;refine CK.o.mono ?_;rintro e W10 ⟨rfl,b10⟩;have r10:=qp r9.o b10 (qh r9.o);have u0:=qg r10 0;simp at u0;have ul:=qh r10;have hbb10:=qu b10 (by have:=BGX.o;have:=b89.o.size;omega) hbb9;have gl10:0 < W10.heap.size:=by have:=BGX.o;have:=b89.o.size;have:=b10.size;omega
     clear r10;have heq:=eqN bb W10;go_wp2_with fail;go_ret;exact⟨rfl,(BF.o.trans (b89.o.mono BF.o.size)).trans (b10.mono (Nat.le_trans BF.o.size b89.o.size))⟩
    ·go_wp2_with fail
     generalize W8.alloc (.cells #[.bool yy,.slice none 0 0,.slice ay ny cy,.int .i64 py,.int .i64 ky] 75)=W9 at *;refine CK.o.mono ?_;rintro e W10 ⟨rfl,b10⟩;have hbb10:=qu b10 (by have:=BGX.o;have:=b89.o.size;omega) hbb9;have gl10:0 < W10.heap.size:=by have:=BGX.o;have:=b89.o.size;have:=b10.size;omega
     have heq:=eqE bb W10;go_wp2_with fail;go_ret;exact⟨rfl,(BF.o.trans (b89.o.mono BF.o.size)).trans (b10.mono (Nat.le_trans BF.o.size b89.o.size))⟩
end
