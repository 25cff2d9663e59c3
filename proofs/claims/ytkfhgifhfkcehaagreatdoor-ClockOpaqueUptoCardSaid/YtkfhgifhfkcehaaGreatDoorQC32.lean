/- Parts of the proof; the first: The engine clock as plain lists: what holds goes on holding; all ends. Conditions: those of each theorem, as typed. -/
import Derived.Test.YtkfhgifhfkcehaaGreatDoorQC31
import Derived.Test.YtkfhgifhfkcehaaGreatDoorQC26
import Derived.Test.YtkfhgifhfkcehaaGreatDoorQC27
set_option linter.unusedVariables false
set_option linter.unusedSimpArgs false
set_option linter.unusedSectionVars false
set_option maxRecDepth 100000
set_option maxHeartbeats 4000000
namespace Go.Proofs.YtkfhgifhfkcehaaGreatDoor
open Go.Maps Go.RowKit
section
variable {P:Pg} {M M':LM}
theorem offCs_mem {id:Int} {cs:List Ce} {c':Ce} (h:c' ∈ ze id cs):∃c ∈ cs,c'.val=c.val:=by
 obtain⟨k,hk,e⟩:=List.mem_iff_getElem.1 h;have h1:(ze id cs)[k]?=some c':=by rw[←e];exact List.getElem?_eq_getElem hk
 unfold ze at h1;rw[offN_get] at h1;cases hc:cs[k]? with
 |none=>rw[hc] at h1;cases h1
 |some c=>
  rw[hc] at h1;refine⟨c,List.mem_of_getElem? hc,?_⟩;simp only[Option.map_some,Option.some.injEq] at h1;rw[←h1]
  split <;> rfl
theorem stp_inv (h:LInv P M) {i:Nat} (hi:i < P.threads.length) {t:Th} (ht:M.W.ths[i]?=some t) (hd:qR P i t=false) (hs:Stp P M i t M'):LInv P M'/\mu M' < mu M:=by
 obtain⟨htk,htr⟩:=h.th i t ht;obtain⟨x,hx0⟩:∃x,M.nx[i]?=some x:=⟨_,List.getElem?_eq_getElem (by rw[h.nxl];exact hi)⟩
 obtain⟨o,ho⟩:∃o,M.ws[i]?=some o:=⟨_,List.getElem?_eq_getElem (by rw[h.wsl];exact hi)⟩
 obtain⟨hnx,hob⟩:=h.nx i t x o ht hx0 ho;have htx:=zb h.ok hi htk hd;have ht3:=Pg.tx3 h.ok hi;have ha6:=acts_le h.ok hi t.tx;have hact:=htk.act;have hwo:∀k',M.W.evs.length<=k'->∀tm r s,o=some (tm,r,s)->WoOk P k' r s:=fun k' hk' tm r s e=>(h.wo i tm r s (by rw[ho,e])).more hk';have hT:tot P<=9484:=by unfold tot;have:=h.ok.threads.2;omega
 have hev:=h.ev;have hce:∀(es:List Ev),∀c' ∈ M.cs,inB (M.W.evs++es).length c'.val:=fun es c hc=>(h.ce c hc).more (by simp);have hset:∀(es:List Ev) (k:Nat) (v a' o':Int),inB (M.W.evs++es).length v->∀c' ∈ M.cs.set k ⟨v,a',o'⟩,inB (M.W.evs++es).length c'.val:=fun es k v a' o' hv c' hc=>by
  rcases List.mem_or_eq_of_mem_set hc with hc|rfl
  ·exact hce es c' hc
  ·exact hv
 have hoff:∀(es:List Ev),∀c' ∈ ze (qG i t.tx) M.cs,inB (M.W.evs++es).length c'.val:=fun es c' hc=>by
  obtain⟨c,hk,e⟩:=offCs_mem hc;rw[e];exact hce es c hk
 have hck:0<=M.clk/\M.clk<=M.clk+1:=⟨h.clk.1,by omega⟩
 have hle:∀e:Ev,M.W.evs.length<=(M.W.evs++[e]).length:=fun e=>by simp
 have same:M.ws=M.ws.set i o:=(xS ho).symm;cases hs with
 |begin hw hb hx=>
  have hx0':=hx0;rw[hx] at hx0';obtain rfl:=Option.some.inj hx0';clear hx0';refine h.turn (t':={t with begun:=true}) (x':=.none) (o':=some (M.clk,[],[])) (cs':=M.cs) (es:=[_]) ht hx0 ho ⟨htk.tx,htk.act,.inl hw,htk.read⟩ (htr.more (hle _)) hw (fun _=>by simp) (fun tm r s e=>?_) rfl (hce _) ?_ (by simp) hck
  ·simp only[Option.some.injEq,Prod.mk.injEq] at e
   obtain⟨rfl,rfl,rfl⟩:=e;exact⟨List.Pairwise.nil,List.Pairwise.nil,by simp,by simp,by simp⟩
  ·simp [mTh,gTh,yq,hw,hb];split <;> omega
 |call a hw hb hx ha hk=>
  have hx0':=hx0;rw[hx] at hx0';obtain rfl:=Option.some.inj hx0';clear hx0';rw[same];refine h.turn (t':={t with waits:=2}) (x':=.ans _) (o':=o) (cs':=M.cs) (es:=[_]) ht hx0 ho ⟨htk.tx,htk.act,.inr ⟨hb,.inl ⟨rfl,a,ha,hk⟩⟩,htk.read⟩ (htr.more (hle _)) ⟨rfl,a,ha,hk,rfl⟩ hob (hwo _ (hle _)) rfl (hce _) ?_ (by simp) hck;simp[mTh,gTh,yq,hw,hb];split <;> omega
 |cancel a hw hb hx ha hk=>
  have hx0':=hx0;rw[hx] at hx0';obtain rfl:=Option.some.inj hx0';clear hx0';rw[same];refine h.turn (t':={t with waits:=7}) (x':=.abort) (o':=o) (cs':=M.cs) (es:=[_]) ht hx0 ho ⟨htk.tx,htk.act,.inr ⟨hb,.inr (.inr ⟨rfl,a,ha,hk⟩)⟩,htk.read⟩ (htr.more (hle _)) rfl hob (hwo _ (hle _)) rfl (hce _) ?_ (by simp) hck;simp[mTh,gTh,yq,hw,hb];split <;> omega
 |try_ tm r s hw hb hx ha hs=>
  have hx0':=hx0;rw[hx] at hx0';obtain rfl:=Option.some.inj hx0';clear hx0';rw[same];have hwr:=h.wo i tm r s hs;have hcl:P.cells.length<=4:=h.ok.cells.2;have hrl:r.length<=4:=by
   have:=ksrt_len r 0 4 hwr.rsrt fun p hp=>⟨(hwr.rin p hp).1,by have:=(hwr.rin p hp).2;omega⟩
   omega
  have hsl:s.length<=4:=by
   have:=ksrt_len s 0 4 hwr.ssrt fun p hp=>⟨(hwr.sin p hp).1,by have:=(hwr.sin p hp).2;omega⟩
   omega
  have hal:t.act=(P.acts i t.tx).length:=by have:=List.getElem?_eq_none_iff.1 ha;omega
  have hxk:NxOk P i {t with waits:=4} o (if s=[] then .commit else yw (s.map (·.1))):=by
   split
   ·exact rfl
   ·refine nxok_lock rfl (by rw[List.length_map];exact hsl) (fun k hk=>?_)
    obtain⟨p,hp,rfl⟩:=List.mem_map.1 hk;exact hwr.sin p hp
  have hxs:yq (if s=[] then .commit else yw (s.map (·.1)))<=14:=by
   split
   ·simp [yq]
   ·have:=stage_lock (s.map (·.1));rw[List.length_map] at this;omega
  generalize (if s=[] then Nx.commit else yw (s.map (·.1)))=x9 at *;refine h.turn (t':={t with waits:=4}) (x':=x9) (o':=o) (cs':=M.cs) (es:=[_]) ht hx0 ho ⟨htk.tx,htk.act,.inr ⟨hb,.inr (.inl ⟨rfl,hal⟩)⟩,htk.read⟩ (htr.more (hle _)) hxk hob (hwo _ (hle _)) rfl (hce _) ?_ (by simp) hck;have hs0:yq .none=0:=rfl;simp[mTh,gTh,hw,hb,hs0];split <;> omega
 |wrote a tm r s hw hb hx ha hk hs=>
  have hx0':=hx0;rw[hx] at hx0';obtain rfl:=Option.some.inj hx0';clear hx0';have hal:=(List.getElem?_eq_some_iff.1 ha).1;have hk4:a.kind≠4:=by rcases hk with h1|⟨h1,-⟩ <;> omega
  obtain⟨-,hc0,hc1,hv0,hv1⟩:=h.kinds hi hd htk ha hk4;have hwr:=h.wo i tm r s hs;refine h.turn (t':=wrTh t) (x':=.none) (o':=some (tm,r,upd a.cell (wrVal t a) s)) (cs':=M.cs) (es:=[_]) ht hx0 ho ⟨htk.tx,by show t.act+1<=(P.acts i t.tx).length;omega,.inl rfl,htk.read⟩ (htr.more (hle _)) rfl (fun _=>by simp) (fun tm' r' s' e=>?_) rfl (hce _) ?_ (by simp) hck
  ·simp only[Option.some.injEq,Prod.mk.injEq] at e
   obtain⟨rfl,rfl,rfl⟩:=e;refine⟨hwr.rsrt,srt_upd hwr.ssrt,hwr.rin,fun p hp=>?_,fun p hp=>?_⟩
   ·rcases (mem_upd hwr.ssrt).1 hp with rfl|⟨hp,-⟩
    ·exact ⟨hc0,hc1⟩
    ·exact hwr.sin p hp
   ·rcases (mem_upd hwr.ssrt).1 hp with rfl|⟨hp,-⟩
    ·simp only[List.length_append,List.length_cons,List.length_nil]
     unfold inB VB at htr ⊢;unfold wrVal
     split <;> omega
    ·exact (hwr.val p hp).more (hle _)
  ·simp [mTh,gTh,yq,hw,hb,wrTh];split <;> omega
 |kept a tm r s v hw hb hx ha hk hs hf=>
  have hx0':=hx0;rw[hx] at hx0';obtain rfl:=Option.some.inj hx0';clear hx0';have hal:=(List.getElem?_eq_some_iff.1 ha).1;have hwr:=h.wo i tm r s hs;have hv:=hwr.val (a.cell,v) ((yu hwr.ssrt).1 hf);rw[same];refine h.turn (t':=rdTh t a v) (x':=.none) (o':=o) (cs':=M.cs) (es:=[_]) ht hx0 ho ?_ ?_ ?_ (fun _=>hob hb) (hwo _ (hle _)) rfl (hce _) ?_ (by simp) hck
  ·unfold rdTh
   unfold inB VB at hv
   split
   ·exact ⟨htk.tx,htk.act,.inl rfl,by simp only at hv;show -1000000000<=v/\v<=1000000000;omega⟩
   ·exact ⟨htk.tx,by show t.act+1<=(P.acts i t.tx).length;omega,.inl rfl,htk.read⟩
  ·unfold rdTh
   split
   ·exact hv.more (hle _)
   ·exact htr.more (hle _)
  ·show (rdTh t a v).waits=0
   unfold rdTh
   split <;> rfl
  ·unfold rdTh
   rcases hk with h1|⟨h1,h2⟩
   ·rw [if_neg (by omega)]
    simp[mTh,gTh,yq,hw,hb];split <;> omega
   ·rw [if_pos h1]
    simp[mTh,gTh,yq,hw,hb,h2];omega
 |read a tm r s hw hb hx ha hk hs hf htn=>
  have hx0':=hx0;rw[hx] at hx0';obtain rfl:=Option.some.inj hx0';clear hx0';have hal:=(List.getElem?_eq_some_iff.1 ha).1;have hk4:a.kind≠4:=by rcases hk with h1|⟨h1,-⟩ <;> omega
  obtain⟨-,hc0,hc1,hv0,hv1⟩:=h.kinds hi hd htk ha hk4;have hwr:=h.wo i tm r s hs;have hv:=h.ceVal a.cell;refine h.turn (t':=rdTh t a (ceAt M.cs a.cell).val) (x':=.none) (o':=some (tm,upd a.cell () r,s)) (cs':=M.cs) (es:=[_]) ht hx0 ho ?_ ?_ ?_ (fun _=>by simp) (fun tm2 r2 s2 e=>?_) rfl (hce _) ?_ (by simp) hck
  ·unfold rdTh
   unfold inB VB at hv
   split
   ·exact ⟨htk.tx,htk.act,.inl rfl,by show -1000000000<=(ceAt M.cs a.cell).val/\(ceAt M.cs a.cell).val<=1000000000;omega⟩
   ·exact ⟨htk.tx,by show t.act+1<=(P.acts i t.tx).length;omega,.inl rfl,htk.read⟩
  ·unfold rdTh
   split
   ·exact hv.more (hle _)
   ·exact htr.more (hle _)
  ·show (rdTh t a (ceAt M.cs a.cell).val).waits=0
   unfold rdTh
   split <;> rfl
  ·simp only[Option.some.injEq,Prod.mk.injEq] at e
   obtain⟨rfl,rfl,rfl⟩:=e;refine⟨srt_upd hwr.rsrt,hwr.ssrt,fun p hp=>?_,hwr.sin,fun p hp=>(hwr.val p hp).more (hle _)⟩;rcases(mem_upd hwr.rsrt).1 hp with rfl|⟨hp,-⟩
   ·exact ⟨hc0,hc1⟩
   ·exact hwr.rin p hp
  ·unfold rdTh
   rcases hk with h1|⟨h1,h2⟩
   ·rw [if_neg (by omega)]
    simp[mTh,gTh,yq,hw,hb];split <;> omega
   ·rw [if_pos h1]
    simp[mTh,gTh,yq,hw,hb,h2];omega
 |refused a tm r s hw hb hx ha hk hs hf htn=>
  have hw0:t.waits≠0:=by omega
  rw[same];refine h.turn (t':=xw t) (x':=.none) (o':=o) (cs':=ze (qG i t.tx) M.cs) (es:=[_]) ht hx0 ho ⟨by show t.tx+1<=_;omega,Nat.zero_le _,.inl rfl,by simp[xw,Th.zero]⟩ (by simp[inB,VB,xw,Th.zero];omega) rfl (fun e=>by simp[xw,Th.zero] at e) (hwo _ (hle _)) (offCs_len _ _) (hoff _) ?_ (by simp) hck;simp[mTh,gTh,yq,hw0,hb,xw,Th.zero];split <;> omega
 |abort hw hb hx=>
  have hw0:t.waits≠0:=by omega
  rw[same];refine h.turn (t':=xw t) (x':=.none) (o':=o) (cs':=ze (qG i t.tx) M.cs) (es:=[_]) ht hx0 ho ⟨by show t.tx+1<=_;omega,Nat.zero_le _,.inl rfl,by simp[xw,Th.zero]⟩ (by simp[inB,VB,xw,Th.zero];omega) rfl (fun e=>by simp[xw,Th.zero] at e) (hwo _ (hle _)) (offCs_len _ _) (hoff _) ?_ (by simp) hck;simp[mTh,gTh,yq,hw0,hb,xw,Th.zero];split <;> omega
 |lockNo k l hw hb hx hon=>
  have hw0:t.waits≠0:=by omega
  rw[same];refine h.turn (t':=xw t) (x':=.none) (o':=o) (cs':=ze (qG i t.tx) M.cs) (es:=[_]) ht hx0 ho ⟨by show t.tx+1<=_;omega,Nat.zero_le _,.inl rfl,by simp[xw,Th.zero]⟩ (by simp[inB,VB,xw,Th.zero];omega) rfl (fun e=>by simp[xw,Th.zero] at e) (hwo _ (hle _)) (offCs_len _ _) (hoff _) ?_ (by simp) hck;simp[mTh,gTh,yq,hw0,hb,xw,Th.zero];split <;> omega
 |lookNo now k l tm r s hw hb hx hs htn=>
  have hw0:t.waits≠0:=by omega
  rw[same];refine h.turn (t':=xw t) (x':=.none) (o':=o) (cs':=ze (qG i t.tx) M.cs) (es:=[_]) ht hx0 ho ⟨by show t.tx+1<=_;omega,Nat.zero_le _,.inl rfl,by simp[xw,Th.zero]⟩ (by simp[inB,VB,xw,Th.zero];omega) rfl (fun e=>by simp[xw,Th.zero] at e) (hwo _ (hle _)) (offCs_len _ _) (hoff _) ?_ (by simp) hck;simp[mTh,gTh,yq,hw0,hb,xw,Th.zero];split <;> omega
 |lock_ k l hw hb hx hon=>
  have hx0':=hx0;rw[hx] at hx0';obtain rfl:=Option.some.inj hx0';clear hx0';obtain⟨h0,-,hl,hk⟩:t.waits=4/\LsOk P (k::l):=hnx;have hl3:l.length<=4:=by simp only[List.length_cons] at hl;omega
  have hk3:∀z ∈ l,0<=z/\z < P.cells.length:=fun z hz=>hk z (List.mem_cons_of_mem _ hz);have h1:=h.turn (t':=t) (x':=yw l) (o':=o) (cs':=M.cs.set k.toNat ⟨(ceAt M.cs k).val,(ceAt M.cs k).ver,qG i t.tx⟩) (es:=[]) ht hx0 ho htk (htr.more (by simp)) (nxok_lock hw hl3 hk3) hob (hwo _ (by simp)) (by simp) (hset [] _ _ _ _ ((h.ceVal k).more (by simp))) (by have h9:=stage_lock l;simp only[mTh,yq,List.length_cons] at h9 ⊢;omega) (by simp) hck;rw[List.append_nil,xS ht,xS ho] at h1;exact h1
 |tick tm r s hw hb hx hs=>
  have hx0':=hx0;rw[hx] at hx0';obtain rfl:=Option.some.inj hx0';clear hx0';have hwr:=h.wo i tm r s hs;have hcl:P.cells.length<=4:=h.ok.cells.2;have hrl:r.length<=4:=by
   have:=ksrt_len r 0 4 hwr.rsrt fun p hp=>⟨(hwr.rin p hp).1,by have:=(hwr.rin p hp).2;omega⟩
   omega
  have hsl:s.length<=4:=by
   have:=ksrt_len s 0 4 hwr.ssrt fun p hp=>⟨(hwr.sin p hp).1,by have:=(hwr.sin p hp).2;omega⟩
   omega
  have h1:=h.turn (t':=t) (x':=zh (M.clk+1) s (r.map (·.1))) (o':=o) (cs':=M.cs) (es:=[]) ht hx0 ho htk (htr.more (by simp)) (nxok_look hw (by rw[List.length_map];exact hrl) (fun k hk=>by obtain⟨p,hp,rfl⟩:=List.mem_map.1 hk;exact hwr.rin p hp) hsl hwr.sin) hob (hwo _ (by simp)) rfl (hce []) (by have h9:=stage_look (now:=M.clk+1) hsl (r.map (·.1));simp only[mTh,yq,List.length_map] at h9 ⊢;omega) (by simp) ⟨by have:=hck.1;omega,Int.le_refl _⟩;rw[List.append_nil,xS ht,xS ho] at h1;exact h1
 |look_ now k l tm r s hw hb hx hs htn=>
  have hx0':=hx0;rw[hx] at hx0';obtain rfl:=Option.some.inj hx0';clear hx0';obtain⟨h0,-,hl,hk⟩:t.waits=4/\LsOk P (k::l):=hnx;have hl3:l.length<=4:=by simp only[List.length_cons] at hl;omega
  have hk3:∀z ∈ l,0<=z/\z < P.cells.length:=fun z hz=>hk z (List.mem_cons_of_mem _ hz);have hwr:=h.wo i tm r s hs;have hcl:P.cells.length<=4:=h.ok.cells.2;have hrl:r.length<=4:=by
   have:=ksrt_len r 0 4 hwr.rsrt fun p hp=>⟨(hwr.rin p hp).1,by have:=(hwr.rin p hp).2;omega⟩
   omega
  have hsl:s.length<=4:=by
   have:=ksrt_len s 0 4 hwr.ssrt fun p hp=>⟨(hwr.sin p hp).1,by have:=(hwr.sin p hp).2;omega⟩
   omega
  have h1:=h.turn (t':=t) (x':=zh now s l) (o':=o) (cs':=M.cs) (es:=[]) ht hx0 ho htk (htr.more (by simp)) (nxok_look hw hl3 hk3 hsl hwr.sin) hob (hwo _ (by simp)) rfl (hce []) (by have h9:=stage_look (now:=now) hsl l;simp only[mTh,yq,List.length_cons] at h9 ⊢;omega) (by simp) hck;rw[List.append_nil,xS ht,xS ho] at h1;exact h1
 |write_ now k l tm r s hw hb hx hs=>
  have hx0':=hx0;rw[hx] at hx0';obtain rfl:=Option.some.inj hx0';clear hx0';obtain⟨h0,-,hl,hk⟩:t.waits=4/\LsOk P (k::l):=hnx;have hl3:l.length<=4:=by simp only[List.length_cons] at hl;omega
  have hk3:∀z ∈ l,0<=z/\z < P.cells.length:=fun z hz=>hk z (List.mem_cons_of_mem _ hz);have hwr:=h.wo i tm r s hs;have hvb:inB (M.W.evs++[]).length ((yZ k s).getD 0):=by
   cases hf:yZ k s with
   |none=>simp[inB,VB];omega
   |some v=>exact(hwr.val (k,v) ((yu hwr.ssrt).1 hf)).more (by simp)
  have h1:=h.turn (t':=t) (x':=za now l) (o':=o) (cs':=M.cs.set k.toNat ⟨(yZ k s).getD 0,now,0⟩) (es:=[]) ht hx0 ho htk (htr.more (by simp)) (nxok_write hw hl3 hk3) hob (hwo _ (by simp)) (by simp) (hset [] _ _ _ _ hvb) (by have h9:=stage_write now l;simp only[mTh,yq,List.length_cons] at h9 ⊢;omega) (by simp) hck;rw[List.append_nil,xS ht,xS ho] at h1;exact h1
 |commit hw hb hx=>
  have hx0':=hx0;rw[hx] at hx0';obtain rfl:=Option.some.inj hx0';clear hx0';rw[same];refine h.turn (t':=xw t) (x':=.none) (o':=o) (cs':=M.cs) (es:=[_]) ht hx0 ho ⟨by show t.tx+1<=_;omega,Nat.zero_le _,.inl rfl,by simp[xw,Th.zero]⟩ (by simp[inB,VB,xw,Th.zero];omega) rfl (fun e=>by simp[xw,Th.zero] at e) (hwo _ (hle _)) rfl (hce _) ?_ (by simp) hck;simp[mTh,gTh,yq,hw,hb,xw,Th.zero];split <;> omega
theorem stp_other {i j:Nat} {t:Th} (hs:Stp P M i t M') (hne:i≠j):M'.W.ths[j]?=M.W.ths[j]?:=by
 cases hs <;> first|rfl|exact List.getElem?_set_ne hne
theorem LInv.can (h:LInv P M):CanStep P M:=by
 have hT:tot P<=9484:=by unfold tot;have:=h.ok.threads.2;omega
 have hev:=h.ev;refine⟨by omega,fun c hc=>?_,by have:=h.clk;omega,fun i t x ht hx=>?_⟩
 ·have h1:=h.ce c hc
  unfold inB VB at h1;omega
 ·obtain ⟨o,ho⟩:∃o,M.ws[i]?=some o:=⟨_,List.getElem?_eq_getElem (by have:=(List.getElem?_eq_some_iff.1 hx).1;rw[h.nxl] at this;rw[h.wsl];exact this)⟩
  obtain⟨hn,hb⟩:=h.nx i t x o ht hx ho;have htk:=(h.th i t ht).1;have hi:i < P.threads.length:=by have:=(List.getElem?_eq_some_iff.1 hx).1;rwa [h.nxl] at this
  have wok:∀tm r s,M.ws[i]?=some (some (tm,r,s))->WoCan P r s:=fun tm r s hs=>by
   have hwr:=h.wo i tm r s hs;refine⟨fun q hq=>(hwr.rin q hq).2,fun q hq=>⟨(hwr.sin q hq).2,?_⟩⟩;have:=hwr.val q hq;unfold inB VB at this;omega
  have hws:t.begun=true->∃tm r s,M.ws[i]?=some (some (tm,r,s)):=fun hbg=>by
   cases o with
   |none=>exact absurd rfl (hb hbg)
   |some p=>exact⟨p.1,p.2.1,p.2.2,ho⟩
  cases x with
  |none=>exact hws
  |abort=>exact htk.begun (by have:t.waits=7:=hn;omega)
  |commit=>trivial
  |lock l=>
   obtain⟨hw,h1,h2,h3⟩:t.waits=4/\LsOk P l:=hn;exact⟨h1,h2,h3,htk.begun (by omega)⟩
  |tick=>exact hws (htk.begun (by have:t.waits=4:=hn;omega))
  |look n l=>
   obtain⟨hw,h1,h2,h3⟩:t.waits=4/\LsOk P l:=hn;exact⟨h1,h2,h3,htk.begun (by omega),hws (htk.begun (by omega))⟩
  |write n l=>
   obtain⟨hw,h1,h2,h3⟩:t.waits=4/\LsOk P l:=hn;exact⟨h1,h2,h3,hws (htk.begun (by omega))⟩
  |ans e=>
   obtain⟨hw,a,ha,hk4,rfl⟩:=hn;have hbg:=htk.begun (by omega);have hd:qR P i t=false:=by
    cases hd:qR P i t with
    |false=>rfl
    |true=>
     unfold qR at hd;have h1:t.tx=(P.txs i).length:=by simpa using hd
     have h2:P.acts i t.tx=[]:=by unfold Pg.acts;rw[h1,List.getD_eq_getElem?_getD,List.getElem?_eq_none (Nat.le_refl _)];rfl
     rw[h2] at ha;simp at ha
   obtain⟨-,hc0,hc1,hv0,hv1⟩:=h.kinds hi hd htk ha hk4;have hobj:(qE (qY t a) (qG i t.tx)).obj=a.cell:=by
    show(qY t a).obj=a.cell;unfold qY;split <;> (first|rfl|(split <;> rfl))
   obtain⟨tm,r,s,hs⟩:=hws hbg;exact⟨tm,r,s,a.cell.toNat,hs,by rw[hobj];omega,by omega,wok _ _ _ hs,hbg⟩
theorem step_inv (h:LInv P M) (i:Int):LInv P (yn P M i)/\mu (yn P M i)<=mu M/\(ye P M.W i=false->mu (yn P M i) < mu M):=by
 unfold yn;cases hd:ye P M.W i with
 |true=>exact⟨h,Nat.le_refl _,fun h=>by cases h⟩
 |false=>
  obtain⟨k,rfl,hk⟩:=wDone_in h.thl hd;obtain⟨t,ht⟩:∃t,M.W.ths[k]?=some t:=⟨_,List.getElem?_eq_getElem (by rw[h.thl];exact hk)⟩
  have h1:=stp_inv h hk ht (by rw[←wDone_th ht];exact hd) (stp_of h hk ht hd);exact⟨h1.1,Nat.le_of_lt h1.2,fun _=>h1.2⟩
theorem step_other (h:LInv P M) {i j:Nat} (hne:i≠j):(yn P M i).W.ths[j]?=M.W.ths[j]?:=by
 unfold yn;cases hd:ye P M.W i with
 |true=>rfl
 |false=>
  obtain⟨k,hk',hk⟩:=wDone_in h.thl hd;obtain rfl:i=k:=by omega
  obtain⟨t,ht⟩:∃t,M.W.ths[i]?=some t:=⟨_,List.getElem?_eq_getElem (by rw[h.thl];exact hk)⟩
  exact stp_other (stp_of h hk ht hd) hne
theorem round_less (h:LInv P M) {j:Nat} (hj:ye P M.W j=false):∀n,LInv P (qV P M (upI n))/\mu (qV P M (upI n))<=mu M/\(j < n->mu (qV P M (upI n)) < mu M)/\(n<=j->(qV P M (upI n)).W.ths[j]?=M.W.ths[j]?)
 |0=>⟨h,Nat.le_refl _,fun h=>absurd h (by omega),fun _=>rfl⟩
 |n+1=>by
  obtain⟨h1,h2,h3,h4⟩:=round_less h hj n;rw[upI_succ,stepsTo_snoc];obtain⟨k1,k2,k3⟩:=step_inv h1 n;refine⟨k1,by omega,fun hlt=>?_,fun hle=>?_⟩
  ·rcases Nat.lt_or_eq_of_le (Nat.lt_succ_iff.1 hlt) with hh|rfl
   ·have:=h3 hh;omega
   ·have h5:=h4 (Nat.le_refl _)
    have:ye P (qV P M (upI j)).W j=false:=by
     rw[←hj];unfold ye;simp only[Int.toNat_natCast,h5]
    have:=k3 this;omega
  ·rw [step_other h1 (by omega)]
   exact h4 (by omega)
theorem start_inv (h:PgOk P):LInv P (xm P):=by
 have hm:=mus_zero P.threads.length;refine⟨h,by simp[xm],by simp[xm],by simp[xm],by simp[xm],fun i t ht=>?_,fun i t x o ht hx ho=>?_,fun i tm r s hr=>?_,fun c hc=>?_,?_,?_⟩
 ·have:t=Th.zero:=List.eq_of_mem_replicate (List.mem_of_getElem? ht)
  rw[this];exact⟨ThOk.zero (Nat.zero_le _),by simp[inB,VB,Th.zero,xm]⟩
 ·have e1:t=Th.zero:=List.eq_of_mem_replicate (List.mem_of_getElem? ht)
  have e2:x=.none:=List.eq_of_mem_replicate (List.mem_of_getElem? hx);rw[e1,e2];exact⟨rfl,fun h=>by cases h⟩
 ·have e1:some (tm,r,s)=none:=List.eq_of_mem_replicate (List.mem_of_getElem? hr)
  cases e1
 ·obtain ⟨v,hv,rfl⟩:=List.mem_map.1 hc
  have:=h.cell v hv;simp[inB,VB,xm];omega
 ·unfold mu tot
  show 0+mus (List.replicate P.threads.length Th.zero) (List.replicate P.threads.length .none)<=_;omega
 ·unfold mu tot
  show(0:Int)<=0/\(0:Int)+((mus (List.replicate P.threads.length Th.zero) (List.replicate P.threads.length .none):Nat):Int)<=_;omega
theorem going (P:Pg):Going P:=fun hok=>⟨LInv P,mu,⟨fun M i hM=>(step_inv hM i).1,fun M hM=>hM.can,fun M hM hd=>by
 unfold zj at hd;rw[List.all_eq_false] at hd;obtain⟨j,hj,hn⟩:=hd;exact(round_less hM (by simpa using hn) P.threads.length).2.2.1 (List.mem_range.1 hj)⟩,start_inv hok⟩
end
section
variable {P:Pg} {M M':LM} {A:Au}
theorem LInv.readB (h:LInv P M) {i:Nat} {t:Th} (ht:M.W.ths[i]?=some t):-900000000<=t.read/\t.read<=900000000:=by
 have hT:tot P<=9484:=by unfold tot;have:=h.ok.threads.2;omega
 have hev:=h.ev;have:=(h.th i t ht).2;unfold inB VB at this;omega
theorem LInv.ceB (h:LInv P M) (k:Int):-900000000<=(ceAt M.cs k).val/\(ceAt M.cs k).val<=900000000:=by
 have hT:tot P<=9484:=by unfold tot;have:=h.ok.threads.2;omega
 have hev:=h.ev;have:=h.ceVal k;unfold inB VB at this;omega
theorem stp_wk (h:LInv P M) {i:Nat} {t:Th} (ht:M.W.ths[i]?=some t) (hs:Stp P M i t M'):Wk1 P M.W i t M'.W:=by
 cases hs with
 |begin hw hb hx=>exact .begin hw hb
 |call a hw hb hx ha hk=>exact .call a hw hb ha hk
 |cancel a hw hb hx ha hk=>exact .cancel a hw hb ha hk
 |try_ tm r s hw hb hx ha hs=>exact .try_ hw hb ha
 |wrote a tm r s hw hb hx ha hk hs=>exact .wrote a hw hb ha hk
 |kept a tm r s v hw hb hx ha hk hs hf=>
  have hT:tot P<=9484:=by unfold tot;have:=h.ok.threads.2;omega
  have hev:=h.ev;have hwr:=h.wo i tm r s hs;have hv:=hwr.val (a.cell,v) ((yu hwr.ssrt).1 hf);exact .read a v hw hb ha hk (by unfold inB VB at hv;simp only at hv;omega)
 |read a tm r s hw hb hx ha hk hs hf htn=>exact .read a _ hw hb ha hk (by have:=h.ceB a.cell;omega)
 |refused a tm r s hw hb hx ha hk hs hf htn=>exact .abort (.inl hw) hb
 |abort hw hb hx=>exact .abort (.inr (.inr hw)) hb
 |lock_ k l hw hb hx ho=>exact .same
 |lockNo k l hw hb hx ho=>exact .abort (.inr (.inl hw)) hb
 |tick tm r s hw hb hx hs=>exact .same
 |look_ now k l tm r s hw hb hx hs htn=>exact .same
 |lookNo now k l tm r s hw hb hx hs htn=>exact .abort (.inr (.inl hw)) hb
 |write_ now k l tm r s hw hb hx hs=>exact .same
 |commit hw hb hx=>exact .commit hw hb
structure Lall (P:Pg) (M:LM) (A:Au):Prop where
 li:LInv P M
 bi:BInv P M.W
 ji:JInv P M.W A
theorem Lall.start (h:PgOk P):Lall P (xm P) []:=⟨start_inv h,bzero P,jzero P⟩
theorem Lall.evs (h:Lall P M A):M.W.evs.length<=400:=jevs h.ji h.li.ok h.li.thl fun i t ht=>(h.li.th i t ht).1
end
section
attribute [local irreducible] xL
theorem ex19_valid:xV yN:=by
 refine⟨by decide,fun k c hc=>?_,fun i t ht=>?_,fun i t ht k l hl=>?_,fun i t ht k l hl j a ha=>?_⟩
 ·rcases k with _|_|k <;> simp[yN] at hc <;> omega
 ·rcases i with _|_|i <;> simp[yN] at ht <;> subst ht <;> decide
 ·rcases i with _|_|i <;> simp[yN] at ht <;> subst ht <;> (rcases k with _|k <;> simp at hl;subst hl;decide)
 ·rcases i with _|_|i <;> simp[yN] at ht <;> subst ht <;> (rcases k with _|k <;> simp at hl;subst hl;rcases j with _|_|j <;> simp at ha <;> subst ha <;> decide)
theorem ex19_1:(qV yN (xm yN) [0,0,0,0,0,0,0,1,1,1]).W.evs.length=10:=by decide
theorem ex19_3:(qV yN (xm yN) [1,1,1,0,0,0,0,0,0,0,0,0,0,0,0,1,1]).W.evs.length=15:=by decide
theorem ex19_4:(qV yN (xm yN) [1,1,1,0,0,0,0,0,0,0,0,0,0,0,0,1,1]).W.evs[14]?.map (fun e=>(e.kind,e.tx))=some (6,4):=by decide
def ExRun (w:World) (E:List Ev) (e:Ending) (w':World):Prop:=∃ov vv,e=.returned (.tuple #[.agg #[ov,vv],.nilIface])/\(∃a n c,ov=.slice a n c)/\qq Ev.cells 53 8 w' w.heap.size vv E/\Below w.heap.size w w'
theorem ex19_run (w:World) (hG:GlobP w) (vc vt:Value) (h:PgIs w w.heap.size vc vt yN) (sv:Value) (l:List Int) (hs:Sl w w.heap.size 1 sv l.length (l.map (.int .i64))) (hl:l.length<=300) (E:List Ev) (hE:(qV yN (xm yN) l).W.evs=E):
  Calls Tryz.prog 31 #[.agg #[vc,vt],sv] w (ExRun w E):=by
 obtain⟨h1,t,v,h2⟩:=hG;refine(la_Run vc vt yN w h (.iface t v) h2 ⟨_,_,rfl⟩ (by omega) (by decide) sv l hs hl (going _)).mono ?_;rintro e w' ⟨hv,hb⟩;rcases hv with⟨hno,-⟩|⟨-,M',ov,vv,rfl,hro,ho,hv⟩
 ·exact absurd ex19_valid hno
 ·have:M'=qV yN (xm yN) l:=by simpa[RunOf] using hro
  subst this;rw[hE] at hv;obtain⟨a,c,e1⟩:=qq.slv ho;exact⟨ov,vv,rfl,⟨_,_,_,e1⟩,hv,hb⟩
theorem l_first19 (w:World) (hG:GlobP w):Calls Tryz.prog 29 #[] w fun e w'=>e=.returned (.bool true)/\Below w.heap.size w w':=by
 have HG:=qj hG;have e1:=ex19_1;have e3:=ex19_3;have e4:=ex19_4;obtain⟨E1,hE1⟩:∃E,(qV yN (xm yN) [0,0,0,0,0,0,0,1,1,1]).W.evs=E:=⟨_,rfl⟩
 obtain⟨E2,hE2⟩:∃E,(qV yN (xm yN) [1,1,1,0,0,0,0,0,0,0,0,0,0,0,0,1,1]).W.evs=E:=⟨_,rfl⟩
 rw[hE1] at e1;rw[hE2] at e3 e4;have X1:=qj (And.intro hE1 e1);have X2:=qj (And.intro hE2 (And.intro e3 e4));clear hG e1 e3 e4 hE1 hE2;go_enter Tryz.func29,Tryz.ntmps29;go_wp2_with fail;refine(l_ex19 _).mono ?_;rintro e W1 ⟨vc,vt,rfl,hp,b1⟩;obtain⟨ac,cc,rfl,-⟩:=hp.cells.ex;obtain⟨at',ct,rfl,-⟩:=hp.thr.ex;have ba:Below W1.heap.size W1 (W1.alloc (.cells #[.int .i64 0,.int .i64 0,.int .i64 0,.int .i64 0,.int .i64 0,.int .i64 0,.int .i64 0,.int .i64 1,.int .i64 1,.int .i64 1] 3)):=(Below.refl _ W1).alloc (Nat.le_refl _) _;have rs:=qy W1 (.cells #[.int .i64 0,.int .i64 0,.int .i64 0,.int .i64 0,.int .i64 0,.int .i64 0,.int .i64 0,.int .i64 1,.int .i64 1,.int .i64 1] 3);have hr:=qj (ex19_run _ ((HG.o.below b1).below ba) _ _ ((hp.below ba).more ba.size) (.slice (some ⟨W1.heap.size,0,none⟩) 10 10) [0,0,0,0,0,0,0,1,1,1] (sl_row rs (by decide) rfl) (by decide) E1 X1.o.1);have B1:=qj (b1.trans (ba.mono b1.size));clear hp b1 ba rs;go_wp2_with fail;refine(hr.o).mono ?_;rintro e W2 ⟨ov,vv,rfl,⟨oa,on,oc,rfl⟩,hv,b2⟩;obtain⟨ae,ce,rfl⟩:=qq.slv hv;obtain⟨-,e1⟩:=X1.o;have HV:=qj hv;have B2:=qj (B1.o.trans (b2.mono B1.o.size));have HG2:=qj (HG.o.below (B1.o.trans (b2.mono B1.o.size)));have r2:=qy W2 (.cells #[.slice oa on oc,.slice ae E1.length ce] 37);have b3:Below W2.heap.size W2 (W2.alloc (.cells #[.slice oa on oc,.slice ae E1.length ce] 37)):=(Below.refl _ W2).alloc (Nat.le_refl _) _;have X1':=qj e1;have R2:=qj r2;have B3:=qj b3;clear hv b2 hr e1 r2 b3;go_wp2_with fail;generalize W2.alloc (.cells #[.slice oa on oc,.slice ae E1.length ce] 37)=W3 at *;refine(l_ex19 _).mono ?_;rintro e W4 ⟨vc2,vt2,rfl,hp,b4⟩;obtain⟨ac2,cc2,rfl,-⟩:=hp.cells.ex;obtain⟨at2,ct2,rfl,-⟩:=hp.thr.ex;have ba:Below W4.heap.size W4 (W4.alloc (.cells #[.int .i64 1,.int .i64 1,.int .i64 1,.int .i64 0,.int .i64 0,.int .i64 0,.int .i64 0,.int .i64 0,.int .i64 0,.int .i64 0,.int .i64 0,.int .i64 0,.int .i64 0,.int .i64 0,.int .i64 0,.int .i64 1,.int .i64 1] 3)):=(Below.refl _ W4).alloc (Nat.le_refl _) _;have rs:=qy W4 (.cells #[.int .i64 1,.int .i64 1,.int .i64 1,.int .i64 0,.int .i64 0,.int .i64 0,.int .i64 0,.int .i64 0,.int .i64 0,.int .i64 0,.int .i64 0,.int .i64 0,.int .i64 0,.int .i64 0,.int .i64 0,.int .i64 1,.int .i64 1] 3);have hr:=qj (ex19_run _ (((HG2.o.below B3.o).below b4).below ba) _ _ ((hp.below ba).more ba.size) (.slice (some ⟨W4.heap.size,0,none⟩) 17 17) [1,1,1,0,0,0,0,0,0,0,0,0,0,0,0,1,1] (sl_row rs (by decide) rfl) (by decide) E2 X2.o.1);have B4:=qj (B3.o.trans ((b4.trans (ba.mono b4.size)).mono B3.o.size));have B34:=qj (b4.trans (ba.mono b4.size));clear hp b4 ba rs;go_wp2_with fail;refine(hr.o).mono ?_;rintro e W5 ⟨ov2,vv2,rfl,⟨oa2,on2,oc2,rfl⟩,hv,b5⟩;obtain⟨ae2,ce2,rfl⟩:=qq.slv hv;obtain⟨-,e3,e4⟩:=X2.o;have e1:=X1'.o;have b25:=B4.o.trans (b5.mono B4.o.size);have b35:Below W3.heap.size W3 W5:=by
  refine Below.trans ?_ (b5.mono ?_)
  ·exact B34.o
  ·exact B34.o.size
 have r5:=qp R2.o b35 (qh R2.o);have hv1:=qq.below HV.o b25;obtain⟨g1,k1,hg1,-⟩:∃g k,ae=some ⟨g,0,none⟩/\ce=k:=by
  rcases qq.form hv1 with⟨h,h2⟩|⟨g,k,h,-⟩
  ·rw [h2] at e1;cases e1
  ·simp only[Value.slice.injEq] at h;exact⟨g,k,h.1,h.2.2⟩
 obtain⟨g2,k2,hg2,-⟩:∃g k,ae2=some ⟨g,0,none⟩/\ce2=k:=by
  rcases qq.form hv with⟨h,h2⟩|⟨g,k,h,-⟩
  ·rw [h2] at e3;cases e3
  ·simp only[Value.slice.injEq] at h;exact⟨g,k,h.1,h.2.2⟩
 subst hg1 hg2;obtain⟨b',o',x',h1,-,hx',hc'⟩:=(qq.sl hv).atF Ev.len rfl (k:=14) (by omega);simp only[Option.some.injEq,Addr.mk.injEq] at h1;obtain⟨rfl,rfl,-⟩:=h1;rw[hx'] at e4;have c2:W5.cell? ⟨g2,112,none⟩=some (.int .i64 6):=by
  have:=hc' 0 (by decide);simp only[Option.map_some,Option.some.injEq,Prod.mk.injEq] at e4;simpa[Ev.cells,e4] using this
 have c3:W5.cell? ⟨g2,113,none⟩=some (.int .i64 4):=by
  have:=hc' 1 (by decide);simp only[Option.map_some,Option.some.injEq,Prod.mk.injEq] at e4;simpa[Ev.cells,e4] using this
 have l1:=(qq.lt hv1 g1 rfl).2;have l2:=(qq.lt hv g2 rfl).2;have l5:=qh r5;rw[e1] at r5;have y0:=qg r5 0;have y1:=qg r5 1;simp at y0 y1;rw[e3];have HB:=qj ((B2.o).trans (b25.mono B2.o.size));clear hx' hc' e4 hv hv1 b25 b35 r5 hr b5 B34;rw[e1];go_wp2;go_ret;exact⟨rfl,HB.o.alloc HB.o.size _⟩
end
def held (s:MI) (k:Int):Nx->Prop
 |.lock l=>(yZ k s).isSome=true/\k ∉ l
 |.tick=>(yZ k s).isSome=true
 |.look _ _=>(yZ k s).isSome=true
 |.write _ l=>k ∈ l
 |_=>False
structure Vw (M:LM) (i:Nat) (t:Th) (x:Nx) (tm:Int) (r:MB) (s:MI):Prop where
 th:M.W.ths[i]?=some t
 b:t.begun=true
 nx:M.nx[i]?=some x
 ws:M.ws[i]?=some (some (tm,r,s))
structure Lkd (n:Nat) (g:Gh) (y:Int) (s:MI) (nw:Nat) (l:List Int):Prop where
 tm:g.tm y < nw
 ne:∀z,g.nw z≠nw
 rd:∀(k:Nat) (v:Int),k < n->g.rd y k=some v->(k:Int) ∉ l->∀c,g.tm y<=c->c < nw->(g.mem c)[k]?=some v
 a:∀k:Nat,k < n->(yZ (k:Int) s).isSome=true->∀z,z≠y->g.nw z=0->nw<=g.tm z->g.rd z k=none
 b:∀k:Nat,k < n->(yZ (k:Int) s).isSome=true->∀z,nw < g.nw z->g.rd z k=none/\g.wr z k=none
def Ph (n:Nat) (g:Gh) (clk:Nat) (y:Int) (s:MI):Nx->Prop
 |.lock l=>g.nw y=0/\l.Nodup/\∀k ∈ l,(yZ k s).isSome=true
 |.look now l=>g.nw y=0/\∃nw:Nat,now=nw/\nw<=clk/\Lkd n g y s nw l
 |.write now l=>now=g.nw y/\g.nw y≠0/\l.Nodup/\∀k:Nat,k < n->(k:Int) ∈ l->∃v,yZ (k:Int) s=some v/\∀c,g.nw y<=c->(g.mem c)[k]?=some v
 |.commit=>g.nw y≠0\/s=[]
 |_=>g.nw y=0
structure Wv (n:Nat) (cs:List Ce) (g:Gh) (clk:Nat) (y tm:Int) (r:MB) (s:MI) (x:Nx):Prop where
 tm:tm=g.tm y
 rd:∀k:Nat,(g.rd y k).isSome=(yZ (k:Int) r).isSome
 wr:∀k:Nat,g.wr y k=yZ (k:Int) s
 hd:∀k:Nat,k < n->((ceAt cs k).own=y↔held s k x)
 ph:Ph n g clk y s x
def Pr (n:Nat) (a b:Int) (r:MB) (l:List Int) (s:MI):Prop:=a≠b/\∀k:Nat,k < n->(yZ (k:Int) r).isSome=true->(k:Int) ∉ l->(yZ (k:Int) s).isSome=true->a < b
structure CoI (P:Pg) (M:LM) (A:Au) (g:Gh) (clk:Nat):Prop where
 gi:GInv P.cells A g clk
 ck:M.clk=clk
 nwl:∀y,g.nw y<=clk
 tml:∀y,g.tm y<=clk
 wv:∀(i:Nat) (t:Th) (x:Nx) (tm:Int) (r:MB) (s:MI),Vw M i t x tm r s->Wv P.cells.length M.cs g clk (qG i t.tx) tm r s x
 pr:∀(i j:Nat) (t u:Th) (a b:Int) (l l':List Int) (tm tm':Int) (r r':MB) (s s':MI),i≠j->Vw M i t (.look a l) tm r s->Vw M j u (.look b l') tm' r' s'->Pr P.cells.length a b r l s'
 ow:∀k,k < P.cells.length->(ceAt M.cs k).own=0\/∃(i:Nat) (t:Th),M.W.ths[i]?=some t/\t.begun=true/\(ceAt M.cs k).own=qG i t.tx
 ce:∀k,k < P.cells.length->(∃(i:Nat) (t:Th) (now:Int) (l:List Int) (tm:Int) (r:MB) (s:MI),Vw M i t (.write now l) tm r s/\(k:Int) ∈ l)\/∀c:Nat,(ceAt M.cs k).ver<=c->(g.mem c)[k]?=some (ceAt M.cs k).val
section
variable {P:Pg} {M:LM} {A A':Au} {g g':Gh} {clk clk':Nat}
theorem upG_id {α:Type} (f:Int->α) (x:Int):upG f x (f x)=f:=funext fun y=>by
 unfold upG
 split
 ·rename_i e;rw[e]
 ·rfl
theorem GInv.turn0 {cells:List Int} (h:GInv cells A g clk) (hn:(A.map (·.id)).Nodup) {k:Nat} {s s':St} (hs:A[k]?=some s) (qj:s'.id=s.id) (hbeg:s'.beg=s.beg) (hr:RepC cells.length (g.rd s.id) (g.wr s.id) s'.deeds)
  (hst:g.nw s.id≠0->s'.status=2\/s'.status=3) (hro:s'.status=3->g.nw s.id=0->∀k,g.wr s.id k=none)
  (hfin:s'.fin=s.fin\/∀u ∈ A,u.beg < s'.fin):GInv cells (A.set k s') g clk:=by
 have:=h.turn hn hs qj hbeg hr (fun h0=>h.old s (List.mem_of_getElem? hs) h0) (fun _=>⟨rfl,rfl⟩) hst hro hfin;rw[upG_id,upG_id] at this;exact this
theorem id_pos (i k:Nat):qG i k≠0:=by unfold qG;omega
theorem CoI.turn (h:CoI P M A g clk) (hbt:∀(j:Nat) (u:Th),M.W.ths[j]?=some u->u.begun=true->u.tx < 3) {i:Nat} {t t':Th} {x':Nx} {o':Wo} {cs':List Ce} {es:List Ev} (ht:M.W.ths[i]?=some t) (htx:t.tx < 3) (hnl:i < M.nx.length/\i < M.ws.length)
  (hgi:GInv P.cells A' g' clk') (hck:clk<=clk') (hoth:∀z,z≠qG i t.tx->g'.tm z=g.tm z/\g'.rd z=g.rd z/\g'.wr z=g.wr z/\g'.nw z=g.nw z) (hmem:g'.mem=g.mem) (hy:g'.nw (qG i t.tx)<=clk'/\g'.tm (qG i t.tx)<=clk')
  (hnw:g'.nw (qG i t.tx)=0\/g'.nw (qG i t.tx)=g.nw (qG i t.tx)/\g'.wr (qG i t.tx)=g.wr (qG i t.tx))
  (hrd:∀k:Nat,k < P.cells.length->(ceAt M.cs k).own≠0->g'.rd (qG i t.tx) k=none\/g'.rd (qG i t.tx) k=g.rd (qG i t.tx) k/\g'.tm (qG i t.tx)=g.tm (qG i t.tx)/\g'.nw (qG i t.tx)=g.nw (qG i t.tx))
  (hcs:∀k:Nat,k < P.cells.length->(ceAt cs' k).own=(ceAt M.cs k).own\/((ceAt M.cs k).own=0\/(ceAt M.cs k).own=qG i t.tx)/\((ceAt cs' k).own=0\/(ceAt cs' k).own=qG i t.tx/\t'.begun=true))
  (htt:t'.begun=true->t'.tx=t.tx) (hoff:t'.begun=false->∀k:Nat,k < P.cells.length->(ceAt cs' k).own≠qG i t.tx)
  (hce:∀k:Nat,k < P.cells.length->(∀c:Nat,(ceAt cs' k).ver<=c->(g.mem c)[k]?=some (ceAt cs' k).val)\/((ceAt cs' k).val=(ceAt M.cs k).val/\(ceAt cs' k).ver=(ceAt M.cs k).ver/\∀(now:Int) (l:List Int),M.nx[i]?=some (.write now l)->(k:Int) ∉ l)\/∃(now:Int) (l:List Int) (tm:Int) (r:MB) (s:MI),x'=.write now l/\(k:Int) ∈ l/\t'.begun=true/\o'=some (tm,r,s))
  (hi:∀tm r s,t'.begun=true->o'=some (tm,r,s)->Wv P.cells.length cs' g' clk' (qG i t.tx) tm r s x')
  (hp:∀a l tm r s,t'.begun=true->o'=some (tm,r,s)->x'=.look a l->∀(j:Nat) (u:Th) (b:Int) (l':List Int) (tm':Int) (r':MB) (s':MI),i≠j->Vw M j u (.look b l') tm' r' s'->Pr P.cells.length a b r l s'/\Pr P.cells.length b a r' l' s):
  CoI P ⟨⟨M.W.ths.set i t',M.W.evs++es⟩,cs',M.ws.set i o',M.nx.set i x',clk'⟩ A' g' clk':=by
 have hil:=(List.getElem?_eq_some_iff.1 ht).1;have other:∀(j:Nat) (u:Th),i≠j->M.W.ths[j]?=some u->u.begun=true->qG j u.tx≠qG i t.tx:=fun j u hne hu hb e=>hne (idOf_inj (hbt j u hu hb) htx e).1.symm;have vw:∀{j:Nat} {u:Th} {x:Nx} {tm:Int} {r:MB} {s:MI},Vw ⟨⟨M.W.ths.set i t',M.W.evs++es⟩,cs',M.ws.set i o',M.nx.set i x',clk'⟩ j u x tm r s->(i=j/\u=t'/\x=x'/\o'=some (tm,r,s))\/(i≠j/\Vw M j u x tm r s):=fun {j u x tm r s} hv=>by
  obtain⟨h1,h2,h3,h4⟩:=hv;simp only at h1 h3 h4;rcases xd h1 with⟨e,rfl⟩|⟨hne,h1⟩
  ·subst e
   rcases xd h3 with⟨-,rfl⟩|⟨hne,-⟩
   ·rcases xd h4 with⟨-,h4⟩|⟨hne,-⟩
    ·exact .inl ⟨rfl,rfl,rfl,h4.symm⟩
    ·exact absurd rfl hne
   ·exact absurd rfl hne
  ·rw [List.getElem?_set_ne hne] at h3 h4
   exact .inr ⟨hne,h1,h2,h3,h4⟩
 have wvj:∀{j:Nat} {u:Th} {x:Nx} {tm:Int} {r:MB} {s:MI},i≠j->Vw M j u x tm r s->Vw ⟨⟨M.W.ths.set i t',M.W.evs++es⟩,cs',M.ws.set i o',M.nx.set i x',clk'⟩ j u x tm r s:=fun {j u x tm r s} hne hv=>
  ⟨by show(M.W.ths.set i t')[j]?=_;rw[List.getElem?_set_ne hne];exact hv.th,hv.b,by show(M.nx.set i x')[j]?=_;rw[List.getElem?_set_ne hne];exact hv.nx,by show(M.ws.set i o')[j]?=_;rw[List.getElem?_set_ne hne];exact hv.ws⟩
 refine⟨hgi,rfl,fun z=>?_,fun z=>?_,fun j u x tm r s hv=>?_,fun j1 j2 u1 u2 a b l l' tm tm' r r' s s' hne h1 h2=>?_,fun k hk=>?_,fun k hk=>?_⟩
 ·by_cases e:z=qG i t.tx
  ·rw [e];exact hy.1
  ·rw [(hoth z e).2.2.2];exact Nat.le_trans (h.nwl z) hck
 ·by_cases e:z=qG i t.tx
  ·rw [e];exact hy.2
  ·rw [(hoth z e).1];exact Nat.le_trans (h.tml z) hck
 ·rcases vw hv with⟨rfl,rfl,rfl,ho⟩|⟨hne,hv⟩
  ·rw [htt hv.b];exact hi tm r s hv.b ho
  ·obtain ⟨k1,k2,k3,k4,k5⟩:=h.wv j u x tm r s hv
   have qj:=other j u hne hv.th hv.b;obtain⟨o1,o2,o3,o4⟩:=hoth _ qj;refine⟨by rw[o1];exact k1,by rw[o2];exact k2,by rw[o3];exact k3,fun k hk=>?_,?_⟩
   ·rw [←k4 k hk]
    rcases hcs k hk with e|⟨e1,e2⟩
    ·show (ceAt cs' k).own=_↔_
     rw[e]
    ·show (ceAt cs' k).own=_↔_
     constructor
     ·intro e
      exfalso;rcases e2 with e2|⟨e2,-⟩
      ·exact id_pos j u.tx (e.symm.trans e2)
      ·exact qj (e.symm.trans e2)
     ·intro e
      exfalso;rcases e1 with e1|e1
      ·exact id_pos j u.tx (e.symm.trans e1)
      ·exact qj (e.symm.trans e1)
   ·cases x with
    |none=>show g'.nw _=0;rw[o4];exact k5
    |abort=>show g'.nw _=0;rw[o4];exact k5
    |ans e=>show g'.nw _=0;rw[o4];exact k5
    |tick=>show g'.nw _=0;rw[o4];exact k5
    |commit=>show g'.nw _≠0\/_;rw[o4];exact k5
    |lock l=>show g'.nw _=0/\_;rw[o4];exact k5
    |write now l=>show now=g'.nw _/\_;rw[o4,hmem];exact k5
    |look now l=>
     obtain⟨m1,nw,m2,m3,m4⟩:=k5;have held0:∀k:Nat,k < P.cells.length->(yZ (k:Int) s).isSome=true->(ceAt M.cs k).own≠0:=fun k hk hs e=>by
      have:=(k4 k hk).2 hs;exact id_pos j u.tx (this.symm.trans e)
     refine⟨by rw[o4];exact m1,nw,m2,Nat.le_trans m3 hck,⟨by rw[o1];exact m4.tm,fun z=>?_,by rw[o2,o1,hmem];exact m4.rd,fun k hk hs z hz hz0 hz1=>?_,fun k hk hs z hz=>?_⟩⟩
     ·by_cases e:z=qG i t.tx
      ·rw [e]
       rcases hnw with h0|⟨h0,-⟩
       ·rw [h0];have:=m4.tm;omega
       ·rw [h0];exact m4.ne _
      ·rw [(hoth z e).2.2.2];exact m4.ne z
     ·by_cases e:z=qG i t.tx
      ·subst e
       rcases hrd k hk (held0 k hk hs) with h0|⟨h0,h1,h2⟩
       ·exact h0
       ·rw [h0];exact m4.a k hk hs _ hz (by rw[←h2];exact hz0) (by rw[←h1];exact hz1)
      ·obtain ⟨q1,q2,q3,q4⟩:=hoth z e
       rw[q2];exact m4.a k hk hs z hz (by rw[←q4];exact hz0) (by rw[←q1];exact hz1)
     ·by_cases e:z=qG i t.tx
      ·subst e
       rcases hnw with h0|⟨h0,h1⟩
       ·rw [h0] at hz;omega
       ·rw [h0] at hz
        obtain⟨q1,q2⟩:=m4.b k hk hs _ hz;refine⟨?_,by rw[h1];exact q2⟩;rcases hrd k hk (held0 k hk hs) with h0|⟨h0,-⟩
        ·exact h0
        ·rw [h0];exact q1
      ·obtain ⟨q1,q2,q3,q4⟩:=hoth z e
       rw[q4] at hz;rw[q2,q3];exact m4.b k hk hs z hz
 ·rcases vw h1 with⟨rfl,rfl,e1,ho⟩|⟨hn1,h1'⟩
  ·rcases vw h2 with⟨rfl,-⟩|⟨hn2,h2'⟩
   ·exact absurd rfl hne
   ·exact (hp a l tm r s h1.b ho e1.symm j2 u2 b l' tm' r' s' hne h2').1
  ·rcases vw h2 with⟨rfl,rfl,e2,ho⟩|⟨hn2,h2'⟩
   ·exact (hp b l' tm' r' s' h2.b ho e2.symm j1 u1 a l tm r s hn1 h1').2
   ·exact h.pr j1 j2 u1 u2 a b l l' tm tm' r r' s s' hne h1' h2'
 ·show (ceAt cs' k).own=0\/_
  have key:∀o:Int,o=(ceAt cs' k).own->o=(ceAt M.cs k).own->(ceAt cs' k).own=0\/∃(i':Nat) (t'':Th),(M.W.ths.set i t')[i']?=some t''/\t''.begun=true/\(ceAt cs' k).own=qG i' t''.tx:=fun o e1 e2=>by
   rcases h.ow k hk with h0|⟨j,u,hu,hub,h0⟩
   ·exact .inl (by rw[←e1,e2];exact h0)
   ·by_cases e:i=j
    ·subst e
     rw[ht] at hu;obtain rfl:=Option.some.inj hu;have ho:(ceAt cs' k).own=qG i t.tx:=by rw[←e1,e2];exact h0
     cases hb:t'.begun with
     |false=>exact absurd ho (hoff hb k hk)
     |true=>exact .inr ⟨i,t',List.getElem?_set_self hil,hb,by rw[htt hb];exact ho⟩
    ·exact .inr ⟨j,u,by rw[List.getElem?_set_ne e];exact hu,hub,by rw[←e1,e2];exact h0⟩
  rcases hcs k hk with e|⟨-,e|⟨e,hb⟩⟩
  ·exact key _ rfl e
  ·exact .inl e
  ·exact .inr ⟨i,t',List.getElem?_set_self hil,hb,by rw[htt hb];exact e⟩
 ·show _\/∀c:Nat,(ceAt cs' k).ver<=c->(g'.mem c)[k]?=some (ceAt cs' k).val
  rw[hmem];rcases hce k hk with h0|⟨e1,e2,e3⟩|⟨now,l,tm,r,s,e1,e2,e3,e4⟩
  ·exact .inr h0
  ·rcases h.ce k hk with⟨j,u,now,l,tm,r,s,hv,hkl⟩|h0
   ·by_cases e:i=j
    ·subst e;exact absurd hkl (e3 now l hv.nx)
    ·exact .inl ⟨j,u,now,l,tm,r,s,wvj e hv,hkl⟩
   ·exact .inr (by rw[e1,e2];exact h0)
  ·exact .inl ⟨i,t',now,l,tm,r,s,⟨List.getElem?_set_self hil,e3,by show(M.nx.set i x')[i]?=_;rw[List.getElem?_set_self hnl.1,e1],by show(M.ws.set i o')[i]?=_;rw[List.getElem?_set_self hnl.2,e4]⟩,e2⟩
end
theorem fnd_key {s:MI} (hs:KSrt s) {k:Int}:(yZ k s).isSome=true↔k ∈ s.map (·.1):=by
 constructor
 ·intro h
  obtain⟨v,hv⟩:=Option.isSome_iff_exists.1 h;exact List.mem_map.2 ⟨(k,v),(yu hs).1 hv,rfl⟩
 ·intro h
  obtain⟨⟨k',v⟩,hp,rfl⟩:=List.mem_map.1 h;rw[(yu hs).2 hp];rfl
theorem keys_nd {s:MI} (hs:KSrt s):(s.map (·.1)).Nodup:=by
 unfold List.Nodup;rw[List.pairwise_map];exact hs.imp fun {a b} h e=>by omega
theorem ceAt_set {cs:List Ce} {c k:Nat} {x:Ce} (hc:c < cs.length):ceAt (cs.set c x) (k:Int)=if k=c then x else ceAt cs (k:Int):=by
 unfold ceAt;simp only[Int.toNat_natCast];by_cases e:k=c
 ·subst e;rw[if_pos rfl,List.getElem?_set_self hc]
 ·rw [if_neg e,List.getElem?_set_ne (fun h=>e h.symm)]
theorem ceAt_off {cs:List Ce} {id:Int} {k:Nat} (hk:k < cs.length):ceAt (ze id cs) (k:Int)=⟨(ceAt cs k).val,(ceAt cs k).ver,if (ceAt cs k).own=id then 0 else(ceAt cs k).own⟩:=by
 unfold ceAt ze offN;simp only[Int.toNat_natCast,List.getElem?_mapIdx];rw[List.getElem?_eq_getElem hk];simp only[Option.map_some,hk,true_and]
 split <;> rfl
section
variable {P:Pg} {M:LM} {A A':Au} {g g':Gh} {clk clk':Nat}
theorem Vw.one {i:Nat} {t t':Th} {x x':Nx} {tm tm':Int} {r r':MB} {s s':MI} (h:Vw M i t x tm r s) (h':Vw M i t' x' tm' r' s'):t=t'/\x=x'/\tm=tm'/\r=r'/\s=s':=by
 have h1:=h.th.symm.trans h'.th;have h2:=h.nx.symm.trans h'.nx;have h3:=h.ws.symm.trans h'.ws;simp at h1 h2 h3;exact⟨h1,h2,h3.1,h3.2.1,h3.2.2⟩
theorem CoI.quiet (h:CoI P M A g clk) (hbt:∀(j:Nat) (u:Th),M.W.ths[j]?=some u->u.begun=true->u.tx < 3) {i:Nat} {t:Th} {x x':Nx} {cs':List Ce} {tm:Int} {r:MB} {s:MI} (hv:Vw M i t x tm r s) (hck:clk<=clk')
  (hcs:∀k:Nat,k < P.cells.length->(ceAt cs' k).own=(ceAt M.cs k).own\/((ceAt M.cs k).own=0\/(ceAt M.cs k).own=qG i t.tx)/\((ceAt cs' k).own=0\/(ceAt cs' k).own=qG i t.tx))
  (hce:∀k:Nat,k < P.cells.length->(∀c:Nat,(ceAt cs' k).ver<=c->(g.mem c)[k]?=some (ceAt cs' k).val)\/((ceAt cs' k).val=(ceAt M.cs k).val/\(ceAt cs' k).ver=(ceAt M.cs k).ver/\∀(now:Int) (l:List Int),x=.write now l->(k:Int) ∉ l)\/∃(now:Int) (l:List Int),x'=.write now l/\(k:Int) ∈ l)
  (hi:Wv P.cells.length cs' g clk' (qG i t.tx) tm r s x')
  (hp:∀a l,x'=.look a l->∀(j:Nat) (u:Th) (b:Int) (l':List Int) (tm':Int) (r':MB) (s':MI),i≠j->Vw M j u (.look b l') tm' r' s'->Pr P.cells.length a b r l s'/\Pr P.cells.length b a r' l' s):
  CoI P ⟨M.W,cs',M.ws,M.nx.set i x',clk'⟩ A g clk':=by
 have h1:=h.turn hbt (t':=t) (x':=x') (o':=some (tm,r,s)) (cs':=cs') (es:=[]) (A':=A) (g':=g) (clk':=clk') hv.th (hbt i t hv.th hv.b) ⟨(List.getElem?_eq_some_iff.1 hv.nx).1,(List.getElem?_eq_some_iff.1 hv.ws).1⟩ (h.gi.tick hck) hck (fun z _=>⟨rfl,rfl,rfl,rfl⟩) rfl ⟨Nat.le_trans (h.nwl _) hck,Nat.le_trans (h.tml _) hck⟩ (.inr ⟨rfl,rfl⟩) (fun k _ _=>.inr ⟨rfl,rfl,rfl⟩)
  (fun k hk=>(hcs k hk).imp id fun h=>⟨h.1,h.2.imp id fun h=>⟨h,hv.b⟩⟩) (fun _=>rfl) (fun e=>by rw[hv.b] at e;cases e) (fun k hk=>(hce k hk).imp id (Or.imp (fun h=>⟨h.1,h.2.1,fun now l e=>h.2.2 now l (by have:=hv.nx.symm.trans e;simpa using this)⟩) fun⟨now,l,h1,h2⟩=>⟨now,l,tm,r,s,h1,h2,hv.b,rfl⟩))
  (fun tm' r' s' _ e=>by
   simp only[Option.some.injEq,Prod.mk.injEq] at e;obtain⟨rfl,rfl,rfl⟩:=e;exact hi) (fun a l tm' r' s' _ e e2=>by
   simp only[Option.some.injEq,Prod.mk.injEq] at e;obtain⟨rfl,rfl,rfl⟩:=e;exact hp a l e2)
 rw[List.append_nil,xS hv.th,xS hv.ws] at h1;exact h1
theorem CoI.valid (h:CoI P M A g clk) (hbt:∀(j:Nat) (u:Th),M.W.ths[j]?=some u->u.begun=true->u.tx < 3) (hn:(A.map (·.id)).Nodup) {i:Nat} {t:Th} {now tm:Int} {r:MB} {s:MI} (hv:Vw M i t (.look now []) tm r s) (hs:KSrt s)
  {x:St} (hxA:x ∈ A) (qj:x.id=qG i t.tx) (hst:x.status=2\/x.status=3) (hf:x.fin < 0):∃g',CoI P {M with nx:=M.nx.set i (.write now (s.map (·.1)))} A g' clk:=by
 obtain⟨k1,k2,k3,k4,k5⟩:=h.wv i t _ tm r s hv;obtain⟨m0,nw,rfl,mle,m⟩:=k5;have hil:=(List.getElem?_eq_some_iff.1 hv.th).1;have hnl:=(List.getElem?_eq_some_iff.1 hv.nx).1;have other:∀(j:Nat) (u:Th),i≠j->M.W.ths[j]?=some u->u.begun=true->qG j u.tx≠qG i t.tx:=fun j u hne hu hb e=>hne (idOf_inj (hbt j u hu hb) (hbt i t hv.th hv.b) e).1.symm;have hgi:=h.gi.valid hn hxA (by rw[qj];exact m0) (now:=nw) (by rw[qj];exact m.tm) mle (fun u _=>m.ne u.id) hst hf
  (fun k v hk hv=>by rw[qj] at hv;exact m.rd k v hk hv (by simp) (nw - 1) (by have:=m.tm;omega) (by have:=m.tm;omega))
  (fun u _ hu h0 h1 k hk hw=>by rw[qj,k3] at hw;exact m.a k hk hw u.id (by rw[←qj];exact hu) h0 h1)
  (fun u _ h1 k hk hw=>by rw[qj,k3] at hw;exact m.b k hk hw u.id h1)
 rw[qj] at hgi;obtain⟨y,hy⟩:∃y,y=qG i t.tx:=⟨_,rfl⟩
 have memN:∀(c:Nat) (k:Nat),k < P.cells.length->yZ (k:Int) s=none->(if nw<=c then ovr (g.wr (qG i t.tx)) (g.mem c) else g.mem c)[k]?=(g.mem c)[k]?:=fun c k hk hf=>by
  split
  ·exact ovr_at (by rw[k3];exact hf)
  ·rfl
 have vw:∀{j:Nat} {u:Th} {z:Nx} {tm':Int} {r':MB} {s':MI},Vw {M with nx:=M.nx.set i (.write (nw:Int) (s.map (·.1)))} j u z tm' r' s'->(i=j/\u=t/\z=.write nw (s.map (·.1))/\tm'=tm/\r'=r/\s'=s)\/(i≠j/\Vw M j u z tm' r' s'):=fun {j u z tm' r' s'} hw=>by
  obtain⟨h1,h2,h3,h4⟩:=hw;simp only at h1 h3 h4;rcases xd h3 with⟨e,rfl⟩|⟨hne,h3⟩
  ·subst e
   have e1:=h1.symm.trans hv.th;have e2:=h4.symm.trans hv.ws;simp at e1 e2;exact .inl ⟨rfl,e1,rfl,e2.1,e2.2.1,e2.2.2⟩
  ·exact .inr ⟨hne,h1,h2,h3,h4⟩
 have wvj:∀{j:Nat} {u:Th} {z:Nx} {tm':Int} {r':MB} {s':MI},i≠j->Vw M j u z tm' r' s'->Vw {M with nx:=M.nx.set i (.write (nw:Int) (s.map (·.1)))} j u z tm' r' s':=fun {j u z tm' r' s'} hne hw=>
  ⟨hw.th,hw.b,by show(M.nx.set i _)[j]?=_;rw[List.getElem?_set_ne hne];exact hw.nx,hw.ws⟩
 have apart:∀(j:Nat) (u:Th) (z:Nx) (tm':Int) (r':MB) (s':MI),i≠j->Vw M j u z tm' r' s'->∀k:Nat,k < P.cells.length->held s' k z->yZ (k:Int) s=none:=fun j u z tm' r' s' hne hw k hk hh=>by
  cases hf:yZ (k:Int) s with
  |none=>rfl
  |some v=>
   have e1:=(k4 k hk).2 (show(yZ (k:Int) s).isSome=true by rw[hf];rfl);have e2:=((h.wv j u z tm' r' s' hw).hd k hk).2 hh;exact absurd (e2.symm.trans e1) (other j u hne hw.th hw.b)
 refine⟨_,hgi,h.ck,fun z=>?_,h.tml,fun j u z tm' r' s' hw=>?_,fun j1 j2 u1 u2 a b l l' tm1 tm2 r1 r2 s1 s2 hne h1 h2=>?_,h.ow,fun k hk=>?_⟩
 ·show upG g.nw (qG i t.tx) nw z<=clk
  unfold upG
  split
  ·exact mle
  ·exact h.nwl z
 ·rcases vw hw with⟨rfl,rfl,rfl,rfl,rfl,rfl⟩|⟨hne,hw⟩
  ·refine ⟨k1,k2,k3,fun k hk=>(k4 k hk).trans (fnd_key hs),?_⟩
   refine⟨by simp only[qS],by simp only[qS];have:=m.tm;omega,keys_nd hs,fun k hk hkl=>?_⟩;obtain⟨v,hvv⟩:=Option.isSome_iff_exists.1 ((fnd_key hs).2 hkl);refine⟨v,hvv,fun c hc=>?_⟩;simp only[qS] at hc;show(if nw<=c then ovr (g.wr (qG i u.tx)) (g.mem c) else g.mem c)[k]?=some v;rw[if_pos hc,ovr_get,k3,hvv,List.getElem?_eq_getElem (by rw[h.gi.len c];exact hk)];rfl
  ·obtain ⟨w1,w2,w3,w4,w5⟩:=h.wv j u z tm' r' s' hw
   have hid2:=other j u hne hw.th hw.b;have hap:=apart j u z tm' r' s' hne hw;refine⟨w1,w2,w3,w4,?_⟩;cases z with
   |none=>show upG _ _ _ _=0;rw[qO hid2];exact w5
   |abort=>show upG _ _ _ _=0;rw[qO hid2];exact w5
   |ans e=>show upG _ _ _ _=0;rw[qO hid2];exact w5
   |tick=>show upG _ _ _ _=0;rw[qO hid2];exact w5
   |commit=>show upG _ _ _ _≠0\/_;rw[qO hid2];exact w5
   |lock l=>show upG _ _ _ _=0/\_;rw[qO hid2];exact w5
   |write b l=>
    obtain⟨q1,q2,q3,q4⟩:=w5;refine⟨by show b=((upG _ _ _ _:Nat):Int);rw[qO hid2];exact q1,by show upG _ _ _ _≠0;rw[qO hid2];exact q2,q3,fun k hk hkl=>?_⟩;obtain⟨v,hv1,hv2⟩:=q4 k hk hkl;refine⟨v,hv1,fun c hc=>?_⟩;simp only[qO hid2] at hc;show(if nw<=c then ovr (g.wr (qG i t.tx)) (g.mem c) else g.mem c)[k]?=some v;rw[memN c k hk (hap k hk hkl)];exact hv2 c hc
   |look b l=>
    obtain⟨q0,nb,rfl,q2,q3⟩:=w5;have hpr:=h.pr j i u t nb nw l [] tm' tm r' r s' s (fun e=>hne e.symm) hw hv;have hpr2:=h.pr i j t u nw nb [] l tm tm' r r' s s' hne hv hw;refine⟨by show upG _ _ _ _=0;rw[qO hid2];exact q0,nb,rfl,q2,⟨q3.tm,fun z=>?_,fun k v hk hkv hkl c hc1 hc2=>?_,fun k hk hks z hz h0 h1=>?_,fun k hk hks z hz=>?_⟩⟩
    ·show upG g.nw (qG i t.tx) nw z≠nb
     unfold upG
     split
     ·intro e;exact hpr.1 (by rw[e])
     ·exact q3.ne z
    ·show (if nw<=c then ovr (g.wr (qG i t.tx)) (g.mem c) else g.mem c)[k]?=some v
     have hold:=q3.rd k v hk hkv hkl c hc1 hc2;cases hf:yZ (k:Int) s with
     |none=>rw[memN c k hk hf];exact hold
     |some v2=>
      have:=hpr.2 k hk (by rw[←w2 k,hkv];rfl) hkl (by rw[hf];rfl);rw[if_neg (by omega)];exact hold
    ·have h0:upG g.nw (qG i t.tx) nw z=0:=h0
     by_cases e:z=qG i t.tx
     ·rw [e,qS] at h0;have:=m.tm;omega
     ·rw [qO e] at h0;exact q3.a k hk hks z hz h0 h1
    ·have hz:nb < upG g.nw (qG i t.tx) nw z:=hz
     by_cases e:z=qG i t.tx
     ·rw [e,qS] at hz
      subst e;show g.rd _ k=none/\g.wr _ k=none;have hf:=hap k hk hks;refine⟨?_,by rw[k3];exact hf⟩;cases hr:g.rd (qG i t.tx) k with
      |none=>rfl
      |some v=>have:=hpr2.2 k hk (by rw[←k2 k,hr];rfl) (by simp) hks;omega
     ·rw [qO e] at hz;exact q3.b k hk hks z hz
 ·rcases vw h1 with⟨-,-,e,-⟩|⟨hn1,h1⟩
  ·cases e
  ·rcases vw h2 with⟨-,-,e,-⟩|⟨hn2,h2⟩
   ·cases e
   ·exact h.pr j1 j2 u1 u2 a b l l' tm1 tm2 r1 r2 s1 s2 hne h1 h2
 ·show _\/∀c:Nat,(ceAt M.cs k).ver<=c->(if nw<=c then ovr (g.wr (qG i t.tx)) (g.mem c) else g.mem c)[k]?=some (ceAt M.cs k).val
  rcases h.ce k hk with⟨j,u,b,l,tm',r',s',hw,hkl⟩|h0
  ·by_cases e:i=j
   ·subst e
    have:=(hv.one hw).2.1;cases this
   ·exact .inl ⟨j,u,b,l,tm',r',s',wvj e hw,hkl⟩
  ·cases hf:yZ (k:Int) s with
   |none=>exact .inr fun c hc=>by rw[memN c k hk hf];exact h0 c hc
   |some v=>exact .inl ⟨i,t,nw,_,tm,r,s,⟨hv.th,hv.b,List.getElem?_set_self hnl,hv.ws⟩,(fnd_key hs).1 (by rw[hf];rfl)⟩
theorem CoI.wrote (h:CoI P M A g clk) (hbt:∀(j:Nat) (u:Th),M.W.ths[j]?=some u->u.begun=true->u.tx < 3) {i:Nat} {t:Th} {now tm:Int} {l:List Int} {r:MB} {s:MI} (hv:Vw M i t (.write now l) tm r s):
  CoI P {M with nx:=M.nx.set i (za now l)} A g clk:=by
 cases l with
 |cons k l=>rw[show M.nx.set i (za now (k::l))=M.nx from xS hv.nx];exact h
 |nil=>
  obtain⟨k1,k2,k3,k4,k5⟩:=h.wv i t _ tm r s hv;have:=h.quiet hbt (x':=.commit) (cs':=M.cs) (clk':=clk) hv (Nat.le_refl _) (fun k _=>.inl rfl) (fun k _=>.inr (.inl ⟨rfl,rfl,fun now' l' e=>by cases e;simp⟩)) ⟨k1,k2,k3,fun k hk=>by rw[k4 k hk];simp[held],.inl k5.2.1⟩ (fun a l e=>by cases e);obtain⟨W,cs,ws,nx,ck⟩:=M;have hck:ck=clk:=h.ck;rw[←hck] at this;exact this
theorem CoI.looked (h:CoI P M A g clk) (hbt:∀(j:Nat) (u:Th),M.W.ths[j]?=some u->u.begun=true->u.tx < 3) (hn:(A.map (·.id)).Nodup) {i:Nat} {t:Th} {now tm:Int} {l:List Int} {r:MB} {s:MI} (hv:Vw M i t (.look now l) tm r s) (hs:KSrt s)
  {x:St} (hxA:x ∈ A) (qj:x.id=qG i t.tx) (hst:x.status=2\/x.status=3) (hf:x.fin < 0):∃g',CoI P {M with nx:=M.nx.set i (zh now s l)} A g' clk:=by
 cases l with
 |cons k l=>rw[show M.nx.set i (zh now s (k::l))=M.nx from xS hv.nx];exact⟨g,h⟩
 |nil=>
  obtain⟨g',h1⟩:=h.valid hbt hn hv hs hxA qj hst hf;have h2:=h1.wrote (i:=i) (t:=t) (now:=now) (l:=s.map (·.1)) (tm:=tm) (r:=r) (s:=s) hbt ⟨hv.th,hv.b,List.getElem?_set_self (List.getElem?_eq_some_iff.1 hv.nx).1,hv.ws⟩;simp only[List.set_set] at h2;exact⟨g',h2⟩
end
