/- Parts of the proof; the first: The engine latch as plain lists: an order of all transactions that explains what has happened, behind any steps. Conditions: those of each theorem, as typed. -/
import Derived.Test.YtkfhgifhfkcehaaGreatDoorQO30
import Derived.Test.YtkfhgifhfkcehaaGreatDoorQO19
import Derived.Test.YtkfhgifhfkcehaaGreatDoorQO20
import Derived.Test.YtkfhgifhfkcehaaGreatDoorQO17
import Derived.Test.YtkfhgifhfkcehaaGreatDoorQO27
import Derived.Test.YtkfhgifhfkcehaaGreatDoorQO21
set_option linter.unusedVariables false
set_option linter.unusedSimpArgs false
set_option linter.unusedSectionVars false
set_option maxRecDepth 100000
set_option maxHeartbeats 4000000
namespace Go.Proofs.YtkfhgifhfkcehaaGreatDoor
open Go.Maps Go.RowKit
def bOf (s:MI) (cs:List Ce) (k:Nat):Int:=(yz (k:Int) s).getD (ceAt cs k).val
def aOf (cs:List Ce) (k:Nat):Int:=(ceAt cs k).val
def inR (r:MB) (k:Nat):Prop:=(yz (k:Int) r).isSome=true
structure yH (n:Nat) (own:Nat->Prop) (b a:Nat->Int) (l:List Dd):Prop where
 all:∀ρ:List Int,ρ.length=n->(∀k,k < n->own k->ρ[k]?=some (b k))->∃τ,rep ρ l=some τ/\∀k,k < n->(own k->τ[k]?=some (a k))/\(¬own k->τ[k]?=ρ[k]?)
theorem yH.congr {n:Nat} {own own':Nat->Prop} {b a b' a':Nat->Int} {l:List Dd} (h:yH n own b a l) (ho:∀k,k < n->(own k->own' k)) (hb:∀k,k < n->own k->b' k=b k) (ha:∀k,k < n->own k->a' k=a k)
  (hn:∀k,k < n->own' k->¬own k->a' k=b' k):yH n own' b' a' l:=by
 refine⟨fun ρ hl hr=>?_⟩;obtain⟨τ,h1,h2⟩:=h.all ρ hl fun k hk hk'=>by rw[hr k hk (ho k hk hk'),hb k hk hk']
 refine⟨τ,h1,fun k hk=>⟨fun hk'=>?_,fun hk'=>(h2 k hk).2 fun h=>hk' (ho k hk h)⟩⟩;by_cases hko:own k
 ·rw [(h2 k hk).1 hko,ha k hk hko]
 ·rw [(h2 k hk).2 hko,hr k hk hk',hn k hk hk' hko]
theorem yH.call {n:Nat} {own:Nat->Prop} {b a:Nat->Int} {l:List Dd} {d:Dd} (h:yH n own b a l) (hd:d.ret=0):yH n own b a (l++[d]):=⟨fun ρ hl hr=>by rw[rep_call hd];exact h.all ρ hl hr⟩
theorem yH.uncall {n:Nat} {own:Nat->Prop} {b a:Nat->Int} {l:List Dd} {d:Dd} (h:yH n own b a (l++[d])) (hd:d.ret=0):yH n own b a l:=⟨fun ρ hl hr=>by rw[←rep_call hd];exact h.all ρ hl hr⟩
theorem yH.read {n:Nat} {own:Nat->Prop} {b a:Nat->Int} {l:List Dd} {d:Dd} (h:yH n own b a l) {c:Nat} (hc:c < n) (ho:own c) (h1:d.obj=c) (h2:d.op=1) (h3:d.ret=3) (h4:d.got=a c):yH n own b a (l++[d]):=by
 refine⟨fun ρ hl hr=>?_⟩;obtain⟨τ,e1,e2⟩:=h.all ρ hl hr;refine⟨τ,?_,e2⟩;rw[rep_snoc e1];have hg:τ[d.obj.toNat]?=some d.got:=by rw[h1,Int.toNat_natCast,(e2 c hc).1 ho,h4]
 unfold doD;rw[if_neg (by omega),if_neg (by omega),if_pos ⟨h3,hg⟩]
theorem yH.wrote {n:Nat} {own:Nat->Prop} {b a a':Nat->Int} {l:List Dd} {d:Dd} (h:yH n own b a l) {c:Nat} (hc:c < n) (ho:own c) (h1:d.obj=c) (h2:d.op=2) (h3:d.ret=1) (h4:d.got=0) (ha:a' c=d.val) (ha':∀k,k≠c->own k->a' k=a k):yH n own b a' (l++[d]):=by
 refine⟨fun ρ hl hr=>?_⟩;obtain⟨τ,e1,e2⟩:=h.all ρ hl hr;have hlen:=rep_len e1;refine⟨τ.set c d.val,?_,fun k hk=>?_⟩
 ·rw [rep_snoc e1]
  unfold doD;rw[if_neg (by omega),if_pos h2,if_pos ⟨h3,h4⟩,h1,Int.toNat_natCast]
 ·by_cases e:c=k
  ·subst e
   rw[List.getElem?_set_self (by omega)];exact⟨fun _=>by rw[ha],fun h=>absurd ho h⟩
  ·rw [List.getElem?_set_ne e]
   exact⟨fun h=>by rw[(e2 k hk).1 h,ha' k (fun h=>e h.symm) h],(e2 k hk).2⟩
theorem yH.nil {n:Nat} {b a:Nat->Int}:yH n (fun _=>False) b a []:=⟨fun ρ _ _=>⟨ρ,rfl,fun k _=>⟨False.elim,fun _=>rfl⟩⟩⟩
structure TrI (P:Pg) (M:LM) (A:Au) (ord:List (Int×Bool)) (σ:List Int):Prop where
 od:OrdOk A M.W.evs.length ord
 com:∀s ∈ A,∀c,(s.id,c) ∈ ord->(c=true↔0<=s.tri)
 play:ye (xR A) true P.cells ord=some σ
 tries:(ord.filter (·.2)).map (·.1)=(M.W.evs.filter (fun e=>e.kind==4)).map (·.tx)
 abt:∀s ∈ A,s.stand=5->0<=s.tri->s.status=3
 own:∀k,k < P.cells.length->(ceAt M.cs k).own=0\/∃(i:Nat) (t:Th),M.W.ths[i]?=some t/\t.begun=true/\(ceAt M.cs k).own=qE i t.tx
 rl:∀(i:Nat) (t:Th) (l:List Int),M.W.ths[i]?=some t->t.begun=true->M.nx[i]?=some (.rel l)->l.Nodup/\∀k:Nat,k < P.cells.length->((ceAt M.cs k).own=qE i t.tx↔(k:Int) ∈ l)
 free:∀k,k < P.cells.length->((ceAt M.cs k).own=0\/∃(i:Nat) (t:Th),M.W.ths[i]?=some t/\t.begun=true/\t.waits=4/\(ceAt M.cs k).own=qE i t.tx)->σ[k]?=some (aOf M.cs k)
 wk:∀(i:Nat) (t:Th) (r:MB) (s:MI),M.W.ths[i]?=some t->t.begun=true->t.waits≠4->M.ws[i]?=some (some (r,s))->∃st ∈ A,st.id=qE i t.tx/\yH P.cells.length (inR r) (bOf s M.cs) (aOf M.cs) st.deeds/\
  (∀k,k < P.cells.length->(inR r k↔(ceAt M.cs k).own=qE i t.tx))/\(∀k,k < P.cells.length->inR r k->σ[k]?=some (bOf s M.cs k))/\(∀k:Nat,(yz (k:Int) s).isSome=true->inR r k)
section
variable {P:Pg} {M M':LM} {A A':Au} {ord ord':List (Int×Bool)} {σ σ':List Int}
theorem yP {cs:List Ce} {c k:Nat} {x:Ce} (hc:c < cs.length):ceAt (cs.set c x) (k:Int)=if k=c then x else ceAt cs (k:Int):=by
 unfold ceAt;simp only[Int.toNat_natCast];by_cases e:k=c
 ·subst e;rw[if_pos rfl,List.getElem?_set_self hc]
 ·rw [if_neg e,List.getElem?_set_ne (fun h=>e h.symm)]
theorem ceAt_off {cs:List Ce} {r:MB} {s:MI} {k:Nat} (hk:k < cs.length):ceAt (offCs r s cs) (k:Int)=⟨bOf s cs k,if (yz (k:Int) r).isSome=true then 0 else(ceAt cs k).own⟩:=by
 unfold ceAt bOf;simp only[Int.toNat_natCast,offCs_get];obtain⟨c,hc⟩:∃c,cs[k]?=some c:=⟨_,List.getElem?_eq_getElem hk⟩
 simp only[ceAt,Int.toNat_natCast,hc,Option.map_some];cases yz (k:Int) r <;> cases yz (k:Int) s <;> rfl
theorem TrI.turn (h:TrI P M A ord σ) (hJ:yW P M.W A) (hcl:M.cs.length=P.cells.length) {i:Nat} {t t':Th} {es:List Ev} {cs':List Ce} {ws':List Wo} {nx':List Nx} (ht:M.W.ths[i]?=some t) (htx:t.tx < 3)
  (hws:∀j,j≠i->ws'[j]?=M.ws[j]?) (hnx:∀j,j≠i->nx'[j]?=M.nx[j]?)
  (hord:OrdOk A' (M.W.evs++es).length ord') (hcom:∀s ∈ A',∀c,(s.id,c) ∈ ord'->(c=true↔0<=s.tri)) (hplay:ye (xR A') true P.cells ord'=some σ')
  (htries:(ord'.filter (·.2)).map (·.1)=((M.W.evs++es).filter (fun e=>e.kind==4)).map (·.tx)) (habt:∀s ∈ A',s.stand=5->0<=s.tri->s.status=3)
  (hst:∀s ∈ A,s.id≠qE i t.tx->s ∈ A')
  (hun:∀k,k < P.cells.length->(ceAt M.cs k).own≠qE i t.tx->(ceAt cs' k).own≠qE i t.tx->ceAt cs' k=ceAt M.cs k/\σ'[k]?=σ[k]?)
  (hto:∀k,k < P.cells.length->((ceAt M.cs k).own=qE i t.tx\/(ceAt cs' k).own=qE i t.tx)->((ceAt M.cs k).own=0\/(ceAt M.cs k).own=qE i t.tx)/\((ceAt cs' k).own=0\/((ceAt cs' k).own=qE i t.tx/\t'.begun=true/\t'.tx=t.tx))/\((ceAt cs' k).own=0\/t'.waits=4->σ'[k]?=some (aOf cs' k)))
  (htx':t'.begun=true->t'.tx=t.tx) (hrl:∀l,t'.begun=true->nx'[i]?=some (.rel l)->l.Nodup/\∀k:Nat,k < P.cells.length->((ceAt cs' k).own=qE i t'.tx↔(k:Int) ∈ l))
  (hwk:∀r s,t'.begun=true->t'.waits≠4->ws'[i]?=some (some (r,s))->∃st ∈ A',st.id=qE i t'.tx/\yH P.cells.length (inR r) (bOf s cs') (aOf cs') st.deeds/\
   (∀k,k < P.cells.length->(inR r k↔(ceAt cs' k).own=qE i t'.tx))/\(∀k,k < P.cells.length->inR r k->σ'[k]?=some (bOf s cs' k))/\(∀k:Nat,(yz (k:Int) s).isSome=true->inR r k)):
  TrI P ⟨⟨M.W.ths.set i t',M.W.evs++es⟩,cs',ws',nx'⟩ A' ord' σ':=by
 have hil:=(List.getElem?_eq_some_iff.1 ht).1;have other:∀(j:Nat) (u:Th),j≠i->M.W.ths[j]?=some u->u.begun=true->qE j u.tx≠qE i t.tx:=fun j u hne hu hb e=>hne (idOf_inj ((hJ.bt j u hu).2 hb) htx e).1;have pos:∀(j k:Nat),qE j k≠0:=fun j k=>by unfold qE;omega
 refine⟨hord,hcom,hplay,htries,habt,fun k hk=>?_,fun j u l hu hb hl=>?_,fun k hk ho=>?_,fun j u r s hu hb hw hr=>?_⟩
 ·by_cases hT:(ceAt M.cs k).own=qE i t.tx\/(ceAt cs' k).own=qE i t.tx
  ·rcases (hto k hk hT).2.1 with h1|⟨h1,h2,h3⟩
   ·exact .inl h1
   ·exact .inr ⟨i,t',List.getElem?_set_self hil,h2,by rw[h3];exact h1⟩
  ·obtain ⟨e,-⟩:=hun k hk (fun e=>hT (.inl e)) (fun e=>hT (.inr e))
   show(ceAt cs' k).own=0\/_;rw[e];rcases h.own k hk with h1|⟨j,u,hu,hb,h1⟩
   ·exact .inl h1
   ·have hji:i≠j:=by
     rintro rfl;rw[ht] at hu;obtain rfl:=Option.some.inj hu;exact hT (.inl h1)
    exact .inr ⟨j,u,by show(M.W.ths.set i t')[j]?=_;rw[List.getElem?_set_ne hji];exact hu,hb,h1⟩
 ·rcases xa hu with⟨rfl,rfl⟩|⟨hne,hu⟩
  ·exact hrl l hb hl
  ·have hl':M.nx[j]?=some (.rel l):=by rw[←hnx j fun e=>hne e.symm];exact hl
   have hne2:=other j u (fun e=>hne e.symm) hu hb;obtain⟨hnd,hl2⟩:=h.rl j u l hu hb hl';refine⟨hnd,fun k hk=>?_⟩;rw[←hl2 k hk];by_cases hT:(ceAt M.cs k).own=qE i t.tx\/(ceAt cs' k).own=qE i t.tx
   ·obtain ⟨h1,h2,-⟩:=hto k hk hT
    constructor
    ·intro ho
     have ho':(ceAt cs' k).own=qE j u.tx:=ho;exfalso;rcases h2 with h2|⟨h2,-⟩
     ·exact pos j u.tx (by omega)
     ·exact hne2 (by rw[←ho',h2])
    ·intro ho
     exfalso;rcases h1 with h1|h1
     ·exact pos j u.tx (by omega)
     ·exact hne2 (by rw[←ho,h1])
   ·obtain ⟨e,-⟩:=hun k hk (fun e=>hT (.inl e)) (fun e=>hT (.inr e))
    show(ceAt cs' k).own=_↔_;rw[e]
 ·by_cases hT:(ceAt M.cs k).own=qE i t.tx\/(ceAt cs' k).own=qE i t.tx
  ·obtain ⟨h1,h2,h3⟩:=hto k hk hT
   refine h3 ?_;rcases ho with ho|⟨j,u,hu,hb,hw,ho⟩
   ·exact .inl ho
   ·rcases xa hu with⟨rfl,rfl⟩|⟨hne,hu⟩
    ·exact .inr hw
    ·exfalso
     have ho':(ceAt cs' k).own=qE j u.tx:=ho;rcases h2 with h2|⟨h2,-⟩
     ·exact pos j u.tx (by omega)
     ·exact other j u (fun e=>hne e.symm) hu hb (by rw[←ho',h2])
  ·obtain ⟨e,e2⟩:=hun k hk (fun e=>hT (.inl e)) (fun e=>hT (.inr e))
   show σ'[k]?=some (ceAt cs' k).val;rw[e,e2];refine h.free k hk ?_;rcases ho with ho|⟨j,u,hu,hb,hw,ho⟩
   ·exact .inl (by rw[←e];exact ho)
   ·have ho':(ceAt cs' k).own=qE j u.tx:=ho
    rcases xa hu with⟨rfl,rfl⟩|⟨hne,hu⟩
    ·exact absurd (.inr (by rw[ho',htx' hb])) hT
    ·exact .inr ⟨j,u,hu,hb,hw,by rw[←e];exact ho'⟩
 ·rcases xa hu with⟨rfl,rfl⟩|⟨hne,hu⟩
  ·exact hwk r s hb hw hr
  ·have hr':M.ws[j]?=some (some (r,s)):=by rw[←hws j fun e=>hne e.symm];exact hr
   obtain⟨st,h1,h2,h3,h4,h5,h6⟩:=h.wk j u r s hu hb hw hr';have hne2:=other j u (fun e=>hne e.symm) hu hb;have keep:∀k,k < P.cells.length->((ceAt M.cs k).own=qE j u.tx\/(ceAt cs' k).own=qE j u.tx)->ceAt cs' k=ceAt M.cs k/\σ'[k]?=σ[k]?:=fun k hk ho=>by
    have hT:¬((ceAt M.cs k).own=qE i t.tx\/(ceAt cs' k).own=qE i t.tx):=by
     intro hT;obtain⟨k1,k2,-⟩:=hto k hk hT;rcases ho with ho|ho
     ·rcases k1 with k1|k1
      ·exact pos j u.tx (by omega)
      ·exact hne2 (by rw[←ho,k1])
     ·rcases k2 with k2|⟨k2,-⟩
      ·exact pos j u.tx (by omega)
      ·exact hne2 (by rw[←ho,k2])
    exact hun k hk (fun e=>hT (.inl e)) (fun e=>hT (.inr e))
   have kR:∀k,k < P.cells.length->inR r k->ceAt cs' k=ceAt M.cs k/\σ'[k]?=σ[k]?:=fun k hk hr=>keep k hk (.inl ((h4 k hk).1 hr));refine⟨st,hst st h1 (by rw[h2];exact hne2),h2,h3.congr (fun k _ h=>h) (fun k hk hr=>?_) (fun k hk hr=>?_) (fun k _ h1 h2=>absurd h1 h2),fun k hk=>⟨fun hr=>?_,fun ho=>?_⟩,fun k hk hr=>?_,h6⟩
   ·unfold bOf;rw[(kR k hk hr).1]
   ·unfold aOf;rw[(kR k hk hr).1]
   ·show (ceAt cs' k).own=_
    rw[(kR k hk hr).1];exact(h4 k hk).1 hr
   ·have ho':(ceAt cs' k).own=qE j u.tx:=ho
    refine(h4 k hk).2 ?_;rw[←(keep k hk (.inr ho')).1];exact ho'
   ·rw [(kR k hk hr).2,h5 k hk hr]
    unfold bOf;rw[(kR k hk hr).1]
theorem toEnd_tries {x:Int} {c:Bool} {l:List (Int×Bool)} (hn:∀b,(x,b) ∈ l->b=false):(toEnd x c l).filter (·.2)=l.filter (·.2)++(if c=true then[(x,c)] else[]):=by
 unfold toEnd;rw[List.filter_append,List.filter_filter];congr 1
 ·refine List.filter_congr fun p hp=>?_
  cases h2:p.2 with
  |false=>simp
  |true=>
   have:p.1≠x:=fun e=>by
    have:=hn p.2 (by rw[←e];exact hp);rw[h2] at this;cases this
   simp[this]
 ·cases c <;> simp
theorem TrI.notyet (h:TrI P M A ord σ) (hX:∀s ∈ A,TxOk P.cells.length s) {s:St} (hs:s ∈ A) (h3:s.stand≠3) (h5:s.stand≠5):s.tri < 0/\(∀b,(s.id,b) ∈ ord->b=false)/\s.fin=-1:=by
 have htri:s.tri < 0:=by
  by_cases ht:s.tri < 0
  ·exact ht
  ·rcases (hX s hs).status.2 (by omega) with h|h <;> omega
 refine⟨htri,fun b hb=>?_,(hX s hs).fin h5⟩;have:=h.com s hs b hb;cases b with
 |false=>rfl
 |true=>have:=this.1 rfl;omega
theorem TrI.cur (h:TrI P M A ord σ) (hJ:yW P M.W A) {i:Nat} {t:Th} {r:MB} {s:MI} {k:Nat} {x:St} (ht:M.W.ths[i]?=some t) (hb:t.begun=true) (hw:t.waits≠4) (hr:M.ws[i]?=some (some (r,s))) (hx:A[k]?=some x) (qh:x.id=qE i t.tx):
  yH P.cells.length (inR r) (bOf s M.cs) (aOf M.cs) x.deeds/\(∀k,k < P.cells.length->(inR r k↔(ceAt M.cs k).own=qE i t.tx))/\(∀k,k < P.cells.length->inR r k->σ[k]?=some (bOf s M.cs k))/\(∀k:Nat,(yz (k:Int) s).isSome=true->inR r k):=by
 obtain⟨st,h1,h2,h3⟩:=h.wk i t r s ht hb hw hr;rw[←ids_unique hJ.ids h1 (List.mem_of_getElem? hx) (by rw[h2,qh])];exact h3
theorem set_play (hn:(A.map (·.id)).Nodup) {k:Nat} {s s':St} (hs:A[k]?=some s) (he:s'.id=s.id) (hd:∀ρ,rep ρ s'.deeds=rep ρ s.deeds) {fin:Bool} {ρ:List Int}:ye (xR (A.set k s')) fin ρ ord=ye (xR A) fin ρ ord:=by
 refine playO_congr fun p _ ρ=>?_;rw[deedsOf_set hn hs he]
 split
 ·rename_i e
  rw[e,deedsOf_id hn (List.mem_of_getElem? hs),hd]
 ·rfl
theorem TrI.slen (h:TrI P M A ord σ):σ.length=P.cells.length:=playO_len h.play
theorem TrI.answered (h:TrI P M A ord σ) (hL:LInv P M) (hJ:yW P M.W A) (hX:∀s ∈ A,TxOk P.cells.length s) {i:Nat} {t t':Th} {a:Ac} {r:MB} {s s2:MI} {v ret got:Int} {e:Ev} (ht:M.W.ths[i]?=some t) (htx:t.tx < 3) (hb:t.begun=true) (hw:t.waits=2) (ha:(P.acts i t.tx)[t.act]?=some a)
  (hc0:0<=a.cell) (hc1:a.cell < P.cells.length) (hr:M.ws[i]?=some (some (r,s))) (htn:taken i t (ceAt M.cs a.cell)=false) (htb:t'.begun=true) (htt:t'.tx=t.tx) (htw:t'.waits=0) (hek:e.kind=3)
  (hmv:Mv P (M.W.put i (t',e)) A i t (retSt ret got M.W.evs.length))
  (hb':∀k:Nat,inR r k->bOf s2 (M.cs.set a.cell.toNat ⟨v,qE i t.tx⟩) k=bOf s M.cs k) (hbc:¬inR r a.cell.toNat->bOf s2 (M.cs.set a.cell.toNat ⟨v,qE i t.tx⟩) a.cell.toNat=(ceAt M.cs a.cell).val)
  (hrep:∀(d:Dd) (l:List Dd) (own:Nat->Prop) (b:Nat->Int),PendOk t a d->own a.cell.toNat->yH P.cells.length own b (aOf M.cs) l->yH P.cells.length own b (aOf (M.cs.set a.cell.toNat ⟨v,qE i t.tx⟩)) (l++[retDd d ret got M.W.evs.length]))
  (hs2:∀k:Nat,(yz (k:Int) s2).isSome=true->k=a.cell.toNat\/(yz (k:Int) s).isSome=true):
  ∃A' ord',yW P (M.W.put i (t',e)) A'/\TrI P ⟨M.W.put i (t',e),M.cs.set a.cell.toNat ⟨v,qE i t.tx⟩,M.ws.set i (some (upd a.cell () r,s2)),M.nx.set i .none⟩ A' ord' σ:=by
 obtain⟨k0,x,hx,qh,hth,hst,hj'⟩:=hmv;have hxA:=List.mem_of_getElem? hx;have hst2:x.stand=2:=by rw[hst];simp[xd,hw]
 obtain⟨d,hd,hd0⟩:=(hX x hxA).last hst2;have hpend:=hJ.pend i t x d a ht hxA qh hw ha hd;have hdl:=dd_snoc hd;obtain⟨c,hc⟩:∃c:Nat,a.cell=c:=⟨a.cell.toNat,by omega⟩
 have hcl:c < P.cells.length:=by omega
 have hclM:c < M.cs.length:=by rw[hL.csl];exact hcl
 have hct:a.cell.toNat=c:=by omega
 rw[hct] at hb' hbc hrep hs2 ⊢;rw[hc] at htn hbc;have hws:=hL.wo i r s hr;obtain⟨hrp,hown,hσ,hsr⟩:=h.cur hJ ht hb (by omega) hr hx qh;obtain⟨htri,hnc,hfin⟩:=h.notyet hX hxA (by omega) (by omega);have hown0:(ceAt M.cs c).own=0\/(ceAt M.cs c).own=qE i t.tx:=by
  unfold taken at htn;simp at htn;rcases Classical.em ((ceAt M.cs c).own=0) with h0|h0
  ·exact .inl h0
  ·exact .inr (htn h0)
 have hret:retSt ret got M.W.evs.length x={x with stand:=1,deeds:=x.deeds.dropLast++[retDd d ret got M.W.evs.length]}:=by unfold retSt;rw[hd]
 rw[hret] at hj';obtain⟨x',hx'⟩:∃x':St,x'={x with stand:=1,deeds:=x.deeds.dropLast++[retDd d ret got M.W.evs.length]}:=⟨_,rfl⟩
 rw[←hx'] at hj';have id':x'.id=x.id:=by rw[hx']
 have beg':x'.beg=x.beg:=by rw[hx']
 have fin':x'.fin=x.fin:=by rw[hx']
 have tri':x'.tri=x.tri:=by rw[hx']
 have stand':x'.stand=1:=by rw[hx']
 have deeds':x'.deeds=x.deeds.dropLast++[retDd d ret got M.W.evs.length]:=by rw[hx']
 clear hx';have hcs:∀k:Nat,ceAt (M.cs.set c ⟨v,qE i t.tx⟩) (k:Int)=if k=c then⟨v,qE i t.tx⟩ else ceAt M.cs (k:Int):=fun k=>yP hclM
 have hIr:∀k:Nat,inR (upd a.cell () r) k↔k=c\/inR r k:=fun k=>by
  unfold inR;by_cases e:k=c
  ·subst e;rw[hc,fnd_upd_same hws.rsrt];simp
  ·rw [fnd_upd_other hws.rsrt (by omega)];simp[e]
 have hpos:qE i t.tx≠0:=by unfold qE;omega
 have hfree:¬inR r c->σ[c]?=some (aOf M.cs c):=fun hn=>h.free c hcl (by
  rcases hown0 with h0|h0
  ·exact .inl h0
  ·exact absurd ((hown c hcl).2 h0) hn)
 rw[hdl] at hrp;have hrp2:=hrep d _ _ _ hpend ((hIr c).2 (.inl rfl)) ((hrp.uncall hd0).congr (own':=inR (upd a.cell () r)) (b':=bOf s2 (M.cs.set c ⟨v,qE i t.tx⟩)) (a':=aOf M.cs) (fun k _ hk=>(hIr k).2 (.inr hk)) (fun k _ hk=>hb' k hk) (fun k _ _=>rfl) (fun k hk h1 h2=>by
  rcases(hIr k).1 h1 with rfl|h1
  ·rw [hbc h2];rfl
  ·exact absurd h1 h2))
 have hσN:∀k,k < P.cells.length->inR (upd a.cell () r) k->σ[k]?=some (bOf s2 (M.cs.set c ⟨v,qE i t.tx⟩) k):=fun k hk hk'=>by
  rcases Classical.em (inR r k) with hk2|hk2
  ·rw [hb' k hk2];exact hσ k hk hk2
  ·rcases (hIr k).1 hk' with rfl|h1
   ·rw [hbc hk2,hfree hk2];rfl
   ·exact absurd h1 hk2
 obtain⟨τ,hτ,-⟩:=hrp2.all σ h.slen hσN;refine⟨_,toEnd x.id false ord,hj',?_⟩;refine h.turn (es:=[e]) hJ hL.csl ht htx (fun j hj=>List.getElem?_set_ne hj.symm) (fun j hj=>List.getElem?_set_ne hj.symm) ?_ ?_ ?_ ?_ ?_ ?_ ?_ ?_ (fun _=>htt) ?_ ?_
 ·rw [List.length_append]
  exact h.od.ends hJ.ids hx id' beg' (by omega) fin' false
 ·intro y hy q hq
  rcases mem_toEnd.1 hq with hq|⟨hq,hne⟩
  ·simp only[Prod.mk.injEq] at hq
   obtain⟨hq1,rfl⟩:=hq;rcases xC hx hy hJ.ids with rfl|⟨-,hne⟩
   ·constructor
    ·intro h;cases h
    ·intro h;omega
   ·exact absurd hq1 hne
  ·rcases xC hx hy hJ.ids with rfl|⟨hy,-⟩
   ·exact absurd id' hne
   ·exact h.com y hy q hq
 ·rw [toEnd_play h.play hnc fun y hy ρ=>by rw[deedsOf_set hJ.ids hx id',if_neg hy]]
  unfold yY;rw[if_neg (by simp),deedsOf_set hJ.ids hx id',if_pos rfl,deeds',hτ];rfl
 ·rw [toEnd_tries hnc,List.filter_append]
  simp[hek,h.tries]
 ·intro y hy h5 h0
  rcases xC hx hy hJ.ids with rfl|⟨hy,-⟩
  ·omega
  ·exact h.abt y hy h5 h0
 ·intro y hy hne
  exact set_mem hx hy (by rw[qh];exact hne)
 ·intro k hk h1 h2
  rw[hcs] at h2 ⊢
  split at h2
  ·exact absurd rfl h2
  ·rename_i e;rw[if_neg e];exact⟨rfl,rfl⟩
 ·intro k hk hT
  rw[hcs] at hT ⊢;by_cases e:k=c
  ·subst e
   rw[if_pos rfl];exact⟨hown0,.inr ⟨rfl,htb,htt⟩,fun h=>h.elim (fun h=>absurd h hpos) (fun h=>absurd h (by rw[htw];decide))⟩
  ·rw [if_neg e] at hT ⊢
   have hT:(ceAt M.cs k).own=qE i t.tx:=by rcases hT with h|h <;> exact h
   exact⟨.inr hT,.inr ⟨hT,htb,htt⟩,fun h=>h.elim (fun h=>absurd (hT.symm.trans h) hpos) (fun h=>absurd h (by rw[htw];decide))⟩
 ·intro l _ hl
  rw[List.getElem?_set_self (by rw[hL.nxl];have:=(List.getElem?_eq_some_iff.1 ht).1;rw[hL.thl] at this;exact this)] at hl;cases hl
 ·intro r' s' _ _ hr'
  rw[List.getElem?_set_self (by rw[hL.wsl];have:=(List.getElem?_eq_some_iff.1 ht).1;rw[hL.thl] at this;exact this)] at hr';simp only[Option.some.injEq,Prod.mk.injEq] at hr';obtain⟨rfl,rfl⟩:=hr';rw[htt];refine⟨x',yi hx,id'.trans qh,deeds'▸?_,fun k hk=>?_,fun k hk hk'=>?_,fun k hk=>?_⟩
  ·exact hrp2
  ·rw [hIr,hcs]
   by_cases e:k=c
   ·subst e;simp
   ·rw [if_neg e,←hown k hk];simp[e]
  ·exact hσN k hk hk'
  ·rw [hIr]
   rcases hs2 k hk with e|h1
   ·exact .inl e
   ·exact .inr (hsr k h1)
theorem TrI.ended (h:TrI P M A ord σ) (hL:LInv P M) (hJ:yW P M.W A) (hX:∀s ∈ A,TxOk P.cells.length s) {i:Nat} {t:Th} {r:MB} {s:MI} {e:Ev} (ht:M.W.ths[i]?=some t) (htx:t.tx < 3) (hb:t.begun=true) (hw:t.waits=2\/t.waits=7) (hr:M.ws[i]?=some (some (r,s))) (hek:e.kind=6)
  (hmv:Mv P (M.W.put i (xM t,e)) A i t (endS 4 M.W.evs.length)):
  ∃A' ord',yW P (M.W.put i (xM t,e)) A'/\TrI P ⟨M.W.put i (xM t,e),offCs r s M.cs,M.ws,M.nx.set i .none⟩ A' ord' σ:=by
 obtain⟨k0,x,hx,qh,hth,hst,hj'⟩:=hmv;have hxA:=List.mem_of_getElem? hx;have hst2:x.stand=2\/x.stand=4:=by rw[hst];rcases hw with hw|hw <;> simp[xd,hw]
 obtain⟨hrp,hown,hσ,hsr⟩:=h.cur hJ ht hb (by omega) hr hx qh;obtain⟨htri,hnc,hfin⟩:=h.notyet hX hxA (by omega) (by omega);have hcs:∀k:Nat,k < P.cells.length->ceAt (offCs r s M.cs) (k:Int)=⟨bOf s M.cs k,if (yz (k:Int) r).isSome=true then 0 else(ceAt M.cs k).own⟩:=fun k hk=>ceAt_off (by rw[hL.csl];exact hk);have hpos:qE i t.tx≠0:=by unfold qE;omega
 refine⟨_,ord,hj',?_⟩;refine h.turn (es:=[e]) hJ hL.csl ht htx (fun j hj=>rfl) (fun j hj=>List.getElem?_set_ne hj.symm) ?_ ?_ ?_ ?_ ?_ ?_ ?_ ?_ (fun h=>by cases h) (fun l h=>by cases h) (fun r s h=>by cases h)
 ·rw [List.length_append]
  exact h.od.stays hJ.ids hx rfl rfl (.inr rfl)
 ·intro y hy q hq
  rcases xC hx hy hJ.ids with rfl|⟨hy,-⟩
  ·exact h.com x hxA q hq
  ·exact h.com y hy q hq
 ·rw [set_play (s':=endS 4 M.W.evs.length x) hJ.ids hx rfl fun ρ=>rfl];exact h.play
 ·rw [List.filter_append]
  simp[hek,h.tries]
 ·intro y hy h5 h0
  rcases xC hx hy hJ.ids with rfl|⟨hy,-⟩
  ·have:0<=x.tri:=h0;omega
  ·exact h.abt y hy h5 h0
 ·intro y hy hne
  exact set_mem hx hy (by rw[qh];exact hne)
 ·intro k hk h1 h2
  have hn:¬inR r k:=fun h=>h1 ((hown k hk).1 h);have hns:yz (k:Int) s=none:=by
   cases hf:yz (k:Int) s with
   |none=>rfl
   |some u=>exact absurd (hsr k (by rw[hf];rfl)) hn
  have hnr:(yz (k:Int) r).isSome=false:=by simpa[inR] using hn
  refine⟨?_,rfl⟩;rw[hcs k hk,hnr];unfold bOf;rw[hns];rfl
 ·intro k hk hT
  rw[hcs k hk] at hT ⊢;have hR:inR r k:=by
   rcases Classical.em (inR r k) with h1|h1
   ·exact h1
   ·exfalso
    have hnr:(yz (k:Int) r).isSome=false:=by simpa[inR] using h1
    rw[hnr] at hT;have hT:(ceAt M.cs k).own=qE i t.tx:=by rcases hT with h|h <;> exact h
    exact h1 ((hown k hk).2 hT)
  have hR2:(yz (k:Int) r).isSome=true:=hR;rw[hR2];refine⟨.inr ((hown k hk).1 hR),.inl rfl,fun _=>?_⟩;rw[hσ k hk hR];unfold aOf;rw[hcs k hk]
theorem tr_step (h:TrI P M A ord σ) (hL:LInv P M) (hJ:yW P M.W A) {i:Nat} (hi:i < P.threads.length) {t:Th} (ht:M.W.ths[i]?=some t) (hd:qP P i t=false) (hs:Stp P M i t M'):∃A' ord' σ',yW P M'.W A'/\TrI P M' A' ord' σ':=by
 have hok:=hL.ok;have hX:=fed_txs hJ.fed hJ.evs;have hi4:i < 4:=by have:=hok.threads.2;omega
 have htk:=(hL.th i t ht).1;have htx:=yX hok hi htk hd;have htx3:t.tx < 3:=by have:=Pg.tx3 hok hi;omega
 have ha6:=acts_le hok hi t.tx;have hpos:qE i t.tx≠0:=by unfold qE;omega
 have nxi:∀x:Nx,(M.nx.set i x)[i]?=some x:=fun x=>List.getElem?_set_self (by rw[hL.nxl];exact hi);have wsi:∀x:Wo,(M.ws.set i x)[i]?=some x:=fun x=>List.getElem?_set_self (by rw[hL.wsl];exact hi);cases hs with
 |begin hw hb hx=>
  have hno:=hJ.fresh ht hb htx3;have hj':=(hJ.begun ht hb htx3 (by omega) hw).2;have hown:∀k,k < P.cells.length->(ceAt M.cs k).own≠qE i t.tx:=fun k hk e=>by
   rcases h.own k hk with h1|⟨j,u,hu,hub,h1⟩
   ·exact hpos (e.symm.trans h1)
   ·obtain ⟨rfl,-⟩:=idOf_inj ((hJ.bt j u hu).2 hub) htx3 (h1.symm.trans e)
    rw[ht] at hu;obtain rfl:=Option.some.inj hu;rw[hb] at hub;cases hub
  refine⟨_,ord++[(qE i t.tx,false)],σ,hj',?_⟩;refine h.turn (t':={t with begun:=true}) (es:=[_]) hJ hL.csl ht htx3 (fun j hj=>List.getElem?_set_ne hj.symm) (fun j hj=>List.getElem?_set_ne hj.symm) ?_ ?_ ?_ ?_ ?_ (fun y hy _=>List.mem_append_left _ hy) (fun k hk _ _=>⟨rfl,rfl⟩) (fun k hk hT=>absurd (by rcases hT with h|h <;> exact h) (hown k hk)) (fun _=>rfl) ?_ ?_
  ·rw [List.length_append]
   exact h.od.begun rfl rfl hno
  ·intro y hy q hq
   rcases List.mem_append.1 hy with hy|hy
   ·rcases List.mem_append.1 hq with hq|hq
    ·exact h.com y hy q hq
    ·simp only[List.mem_singleton,Prod.mk.injEq] at hq
     exact absurd ⟨y,hy,hq.1⟩ hno
   ·obtain rfl:=List.mem_singleton.1 hy
    rcases List.mem_append.1 hq with hq|hq
    ·obtain ⟨z,hz,hzi⟩:=h.od.mem hq
     exact absurd ⟨z,hz,hzi⟩ hno
    ·simp only[List.mem_singleton,Prod.mk.injEq] at hq
     rw[hq.2];simp[yD]
  ·have e1:ye (xR (A++[yD (qC {xD 1 with thread:=i} (qE i t.tx)) M.W.evs.length])) true P.cells ord=some σ:=by
    rw[playO_congr (dl':=xR A) fun p hp ρ=>?_]
    ·exact h.play
    ·obtain ⟨z,hz,hzi⟩:=h.od.mem hp
     rw[deedsOf_app _ hno,if_neg];intro e;exact hno ⟨z,hz,hzi.trans e⟩
   rw[playO_snoc e1];unfold yY;rw[if_neg (by simp),deedsOf_app _ hno];have e9:((if (qE i t.tx,false).fst=(yD (qC {xD 1 with thread:=i} (qE i t.tx)) M.W.evs.length).id then(yD (qC {xD 1 with thread:=i} (qE i t.tx)) M.W.evs.length).deeds else xR A (qE i t.tx,false).fst):List Dd)=[]:=if_pos rfl;rw[e9];rfl
  ·rw [List.filter_append,List.filter_append]
   simp[h.tries,qC,xD]
  ·intro y hy h5 h0
   rcases List.mem_append.1 hy with hy|hy
   ·exact h.abt y hy h5 h0
   ·obtain rfl:=List.mem_singleton.1 hy
    simp[yD] at h5
  ·intro l _ hl
   rw[nxi] at hl;cases hl
  ·intro r s _ _ hr
   rw[wsi] at hr;simp only[Option.some.injEq,Prod.mk.injEq] at hr;obtain⟨rfl,rfl⟩:=hr;refine⟨_,List.mem_append_right _ (List.mem_singleton_self _),rfl,(yH.nil (b:=fun _=>0) (a:=fun _=>0)).congr (fun k _ h=>h.elim) (fun k _ h=>h.elim) (fun k _ h=>h.elim) (fun k _ h=>by simp[inR,yz] at h),fun k hk=>⟨fun h=>by simp[inR,yz] at h,fun e=>absurd e (hown k hk)⟩,fun k hk h=>by simp[inR,yz] at h,fun k h=>by simp[yz] at h⟩
 |call a hw hb hx ha hk=>
  obtain⟨hkk,hc0,hc1,hv0,hv1⟩:=acts_kinds hok hi hd htk ha hk;have htr:=hL.readB ht;have hcl:P.cells.length<=4:=hok.cells.2;obtain⟨k0,x,hx0,qh,hth,hst,hj'⟩:=hJ.called ht hb hw ha hk (by omega) ⟨hc0,hc1,by omega⟩ (fun _=>by unfold wrVal;split <;> omega);have hxA:=List.mem_of_getElem? hx0;have hst1:x.stand=1:=by rw[hst];simp[xd,hw]
  have hek:(qC (qU t a) (qE i t.tx)).kind=2:=by simp only[qC];unfold qU;split <;> (first|rfl|(split <;> rfl))
  refine⟨_,ord,σ,hj',?_⟩;refine h.turn (t':={t with waits:=2}) (es:=[_]) hJ hL.csl ht htx3 (fun j hj=>rfl) (fun j hj=>List.getElem?_set_ne hj.symm) ?_ ?_ ?_ ?_ ?_ ?_ (fun k hk _ _=>⟨rfl,rfl⟩) ?_ (fun _=>rfl) ?_ ?_
  ·rw [List.length_append]
   exact h.od.stays hJ.ids hx0 rfl rfl (.inl rfl)
  ·intro y hy q hq
   rcases xC hx0 hy hJ.ids with rfl|⟨hy,-⟩
   ·exact h.com x hxA q hq
   ·exact h.com y hy q hq
  ·rw [set_play (s':=callSt (qC (qU t a) (qE i t.tx)) M.W.evs.length x) hJ.ids hx0 rfl fun ρ=>rep_call rfl];exact h.play
  ·rw [List.filter_append]
   simp[hek,h.tries]
  ·intro y hy h5 h0
   rcases xC hx0 hy hJ.ids with rfl|⟨hy,-⟩
   ·simp [callSt] at h5
   ·exact h.abt y hy h5 h0
  ·intro y hy hne
   exact set_mem hx0 hy (by rw[qh];exact hne)
  ·intro k hk hT
   have hT:(ceAt M.cs k).own=qE i t.tx:=by rcases hT with h|h <;> exact h
   exact⟨.inr hT,.inr ⟨hT,hb,rfl⟩,fun h=>by
    rcases h with h|h
    ·exact absurd (hT.symm.trans h) hpos
    ·simp at h⟩
  ·intro l _ hl
   rw[nxi] at hl;cases hl
  ·intro r s _ _ hr
   obtain⟨h1,h2,h3,h4⟩:=h.cur hJ ht hb (by omega) hr hx0 qh;exact⟨_,yi hx0,qh,h1.call rfl,h2,h3,h4⟩
 |cancel a hw hb hx ha hk=>
  obtain⟨k0,x,hx0,qh,hth,hst,hj'⟩:=hJ.cancelled ht hb hw (by omega);have hxA:=List.mem_of_getElem? hx0;refine⟨_,ord,σ,hj',?_⟩;refine h.turn (t':={t with waits:=7}) (es:=[_]) hJ hL.csl ht htx3 (fun j hj=>rfl) (fun j hj=>List.getElem?_set_ne hj.symm) ?_ ?_ ?_ ?_ ?_ ?_ (fun k hk _ _=>⟨rfl,rfl⟩) ?_ (fun _=>rfl) ?_ ?_
  ·rw [List.length_append]
   exact h.od.stays hJ.ids hx0 rfl rfl (.inl rfl)
  ·intro y hy q hq
   rcases xC hx0 hy hJ.ids with rfl|⟨hy,-⟩
   ·exact h.com x hxA q hq
   ·exact h.com y hy q hq
  ·rw [set_play (s':=canS x) hJ.ids hx0 rfl fun ρ=>rfl];exact h.play
  ·rw [List.filter_append]
   simp[h.tries,qC,xD]
  ·intro y hy h5 h0
   rcases xC hx0 hy hJ.ids with rfl|⟨hy,-⟩
   ·simp [canS] at h5
   ·exact h.abt y hy h5 h0
  ·intro y hy hne
   exact set_mem hx0 hy (by rw[qh];exact hne)
  ·intro k hk hT
   have hT:(ceAt M.cs k).own=qE i t.tx:=by rcases hT with h|h <;> exact h
   exact⟨.inr hT,.inr ⟨hT,hb,rfl⟩,fun h=>by
    rcases h with h|h
    ·exact absurd (hT.symm.trans h) hpos
    ·simp at h⟩
  ·intro l _ hl
   rw[nxi] at hl;cases hl
  ·intro r s _ _ hr
   obtain⟨h1,h2,h3,h4⟩:=h.cur hJ ht hb (by omega) hr hx0 qh;exact⟨_,yi hx0,qh,h1,h2,h3,h4⟩
 |try_ r s hw hb hx ha hr=>
  obtain⟨k0,x,hx0,qh,hth,hst,hj'⟩:=hJ.tried ht hb hw (by omega);have hxA:=List.mem_of_getElem? hx0;have hst1:x.stand=1:=by rw[hst];simp[xd,hw]
  obtain⟨hrp,hown,hσ,hsr⟩:=h.cur hJ ht hb (by omega) hr hx0 qh;obtain⟨htri,hnc,hfin⟩:=h.notyet hX hxA (by omega) (by omega);obtain⟨τ,hτ,hτ2⟩:=hrp.all σ h.slen hσ;have hsrt:=(hL.wo i r s hr).rsrt;refine⟨_,toEnd x.id true ord,τ,hj',?_⟩;refine h.turn (t':={t with waits:=4}) (es:=[_]) hJ hL.csl ht htx3 (fun j hj=>rfl) (fun j hj=>List.getElem?_set_ne hj.symm) ?_ ?_ ?_ ?_ ?_ ?_ ?_ ?_ (fun _=>rfl) ?_ ?_
  ·rw [List.length_append]
   exact h.od.ends (s':=tryS M.W.evs.length x) hJ.ids hx0 rfl rfl (by show x.fin < 0;omega) rfl true
  ·intro y hy q hq
   rcases mem_toEnd.1 hq with hq|⟨hq,hne⟩
   ·simp only[Prod.mk.injEq] at hq
    obtain⟨hq1,rfl⟩:=hq;rcases xC hx0 hy hJ.ids with rfl|⟨-,hne⟩
    ·simp [tryS]
    ·exact absurd hq1 hne
   ·rcases xC hx0 hy hJ.ids with rfl|⟨hy,-⟩
    ·exact absurd rfl hne
    ·exact h.com y hy q hq
  ·rw [toEnd_play h.play hnc fun y hy ρ=>by rw[deedsOf_set (s':=tryS M.W.evs.length x) hJ.ids hx0 rfl,if_neg hy]]
   unfold yY;rw[if_neg (by simp),deedsOf_set (s':=tryS M.W.evs.length x) hJ.ids hx0 rfl,if_pos rfl];show(match rep σ x.deeds with|some τ=>_|none=>_)=_;rw[hτ];rfl
  ·rw [toEnd_tries hnc,List.filter_append,List.map_append,List.map_append,h.tries,qh]
   rfl
  ·intro y hy h5 h0
   rcases xC hx0 hy hJ.ids with rfl|⟨hy,-⟩
   ·simp [tryS] at h5
   ·exact h.abt y hy h5 h0
  ·intro y hy hne
   exact set_mem hx0 hy (by rw[qh];exact hne)
  ·intro k hk h1 h2
   exact⟨rfl,(hτ2 k hk).2 fun hR=>h1 ((hown k hk).1 hR)⟩
  ·intro k hk hT
   have hT:(ceAt M.cs k).own=qE i t.tx:=by rcases hT with h|h <;> exact h
   exact⟨.inr hT,.inr ⟨hT,hb,rfl⟩,fun h=>(hτ2 k hk).1 ((hown k hk).2 hT)⟩
  ·intro l _ hl
   rw[nxi] at hl;simp only[Option.some.injEq,Nx.rel.injEq] at hl;subst hl;refine⟨?_,fun k hk=>?_⟩
   ·have:r.Pairwise (fun p q=>p.1 < q.1):=hsrt
    refine List.pairwise_map.2 (this.imp fun h=>by omega)
   ·show (ceAt M.cs k).own=qE i t.tx↔_
    rw[←hown k hk];unfold inR;constructor
    ·intro hR
     obtain⟨u,hu⟩:=Option.isSome_iff_exists.1 hR;exact List.mem_map.2 ⟨_,(xQ hsrt).1 hu,rfl⟩
    ·intro hR
     obtain⟨p,hp,he⟩:=List.mem_map.1 hR;rw[(xQ hsrt).2 (show((k:Int),p.2) ∈ r by rw[←he];exact hp)];rfl
  ·intro r s _ hw4 _
   exact absurd rfl hw4
 |wrote a r s hw hb hx ha hk hr htn=>
  have hk4:a.kind≠4:=by rcases hk with h1|⟨h1,-⟩ <;> omega
  obtain⟨hkk,hc0,hc1,hv0,hv1⟩:=acts_kinds hok hi hd htk ha hk4;have hcM:a.cell.toNat < M.cs.length:=by rw[hL.csl];omega
  have hct:((a.cell.toNat:Nat):Int)=a.cell:=by omega
  have hwo:=hL.wo i r s hr;obtain⟨k0,x,hx0,qh,-,-,-⟩:=hJ.answered (ret:=1) (got:=0) ht hb hw (by omega) ha (.inl ⟨hk,rfl,rfl,rfl⟩) (by omega);obtain⟨-,-,-,hsr⟩:=h.cur hJ ht hb (by omega) hr hx0 qh;have hfs:∀k:Nat,yz (k:Int) (if (yz a.cell s).isSome then s else upd a.cell (ceAt M.cs a.cell).val s)=if k=a.cell.toNat then some ((yz a.cell s).getD (ceAt M.cs a.cell).val) else yz (k:Int) s:=fun k=>by
   by_cases e:k=a.cell.toNat
   ·rw [if_pos e,show(k:Int)=a.cell by omega]
    split
    ·rename_i hi
     obtain⟨u,hu⟩:=Option.isSome_iff_exists.1 hi;rw[hu];rfl
    ·rename_i hi
     rw[fnd_upd_same hwo.ssrt];cases hf:yz a.cell s with
     |none=>rfl
     |some u=>rw[hf] at hi;exact absurd rfl hi
   ·rw [if_neg e]
    split
    ·rfl
    ·rw [fnd_upd_other hwo.ssrt (by omega)]
  obtain⟨A',ord',h1,h2⟩:=h.answered hL hJ hX (t':=wrTh t) (v:=wrVal t a) (s2:=if (yz a.cell s).isSome then s else upd a.cell (ceAt M.cs a.cell).val s) ht htx3 hb hw ha hc0 hc1 hr htn hb rfl rfl (by rfl) (hJ.answered (ret:=1) (got:=0) ht hb hw (by omega) ha (.inl ⟨hk,rfl,rfl,rfl⟩) (by omega))
   (fun k hk=>by
    unfold bOf;rw[hfs,yP hcM];by_cases e:k=a.cell.toNat
    ·rw [if_pos e,if_pos e,show(k:Int)=a.cell by omega];rfl
    ·rw [if_neg e,if_neg e])
   (fun hn=>by
    unfold bOf;rw[hfs,if_pos rfl];have:yz a.cell s=none:=by
     cases hf:yz a.cell s with
     |none=>rfl
     |some u=>exact absurd (hsr a.cell.toNat (by rw[hct,hf];rfl)) hn
    rw[this];rfl)
   (fun d l own b hp ho hrp=>by
    obtain⟨hp1,hp2,hp3⟩:=hp;obtain⟨hp1,hp1'⟩:=hp1 hk;refine hrp.wrote (c:=a.cell.toNat) (by omega) ho (by show d.obj=_;omega) hp1 rfl rfl ?_ fun k hk _=>?_
    ·unfold aOf;rw[yP hcM,if_pos rfl];exact hp1'.symm
    ·unfold aOf;rw[yP hcM,if_neg hk])
   (fun k hk=>by
    rw[hfs] at hk;by_cases e:k=a.cell.toNat
    ·exact .inl e
    ·rw [if_neg e] at hk;exact .inr hk)
  exact⟨A',ord',σ,h1,h2⟩
 |read a r s hw hb hx ha hk hr htn=>
  have hk4:a.kind≠4:=by rcases hk with h1|⟨h1,-⟩ <;> omega
  obtain⟨hkk,hc0,hc1,hv0,hv1⟩:=acts_kinds hok hi hd htk ha hk4;have hcM:a.cell.toNat < M.cs.length:=by rw[hL.csl];omega
  have hct:((a.cell.toNat:Nat):Int)=a.cell:=by omega
  have hcb:=hL.ceB a.cell;have hmv:=hJ.answered (ret:=3) (got:=(ceAt M.cs a.cell).val) ht hb hw (by omega) ha (.inr ⟨hk,rfl,rfl⟩) (by omega);obtain⟨k0,x,hx0,qh,-,-,-⟩:=id hmv;obtain⟨-,-,-,hsr⟩:=h.cur hJ ht hb (by omega) hr hx0 qh;have hce:∀k:Nat,(ceAt (M.cs.set a.cell.toNat ⟨(ceAt M.cs a.cell).val,qE i t.tx⟩) (k:Int)).val=(ceAt M.cs k).val:=fun k=>by
   rw[yP hcM]
   split
   ·rename_i e;rw[show (k:Int)=a.cell by omega]
   ·rfl
  have hrt:(rdTh t a (ceAt M.cs a.cell).val).begun=true/\(rdTh t a (ceAt M.cs a.cell).val).tx=t.tx/\(rdTh t a (ceAt M.cs a.cell).val).waits=0:=by
   unfold rdTh;split <;> exact⟨hb,rfl,rfl⟩
  obtain⟨A',ord',h1,h2⟩:=h.answered hL hJ hX (s2:=s) (v:=(ceAt M.cs a.cell).val) ht htx3 hb hw ha hc0 hc1 hr htn hrt.1 hrt.2.1 hrt.2.2 (by rfl) hmv
   (fun k hk=>by unfold bOf;rw[hce])
   (fun hn=>by
    unfold bOf;have:yz a.cell s=none:=by
     cases hf:yz a.cell s with
     |none=>rfl
     |some u=>exact absurd (hsr a.cell.toNat (by rw[hct,hf];rfl)) hn
    rw[hce,hct,this];rfl)
   (fun d l own b hp ho hrp=>by
    obtain⟨hp1,hp2,hp3⟩:=hp;refine(hrp.read (c:=a.cell.toNat) (d:=retDd d 3 (ceAt M.cs a.cell).val M.W.evs.length) (by omega) ho (by show d.obj=_;omega) (hp2 hk) rfl (by unfold aOf;rw[hct];rfl)).congr (fun k _ h=>h) (fun k _ _=>rfl) (fun k _ _=>?_) (fun k _ h1 h2=>absurd h1 h2);unfold aOf;rw[hce])
   (fun k hk=>.inr hk)
  exact⟨A',ord',σ,h1,h2⟩
 |refused a r s hw hb hx ha hk hr htn=>
  obtain⟨A',ord',h1,h2⟩:=h.ended hL hJ hX ht htx3 hb (.inl hw) hr (by rfl) (hJ.ended (kind:=6) (status:=4) ht hb (by omega) ha6 htk.act (fun _=>(List.getElem?_eq_some_iff.1 ha).1) (.inr ⟨rfl,rfl,.inl hw⟩));exact⟨A',ord',σ,h1,h2⟩
 |abort r s hw hb hx hr=>
  obtain⟨A',ord',h1,h2⟩:=h.ended hL hJ hX ht htx3 hb (.inr hw) hr (by rfl) (hJ.ended (kind:=6) (status:=4) ht hb (by omega) ha6 htk.act (fun h=>by omega) (.inr ⟨rfl,rfl,.inr (.inr hw)⟩));exact⟨A',ord',σ,h1,h2⟩
 |let_ k l hw hb hx=>
  obtain⟨o,ho⟩:∃o,M.ws[i]?=some o:=⟨_,List.getElem?_eq_getElem (by rw[hL.wsl];exact hi)⟩
  obtain⟨-,-,hkin⟩:t.waits=4/\(k::l).length<=4/\∀z ∈ k::l,0<=z/\z < P.cells.length:=(hL.nx i t _ o ht hx ho).1;obtain⟨hk0,hk1⟩:=hkin k (List.mem_cons_self ..);obtain⟨hnd,hrl⟩:=h.rl i t _ ht hb hx;have hnd:=List.nodup_cons.1 hnd;have hcM:k.toNat < M.cs.length:=by rw[hL.csl];omega
  have hkt:((k.toNat:Nat):Int)=k:=by omega
  have hok:(ceAt M.cs k).own=qE i t.tx:=by
   have:=(hrl k.toNat (by omega)).2 (by rw[hkt];exact List.mem_cons_self ..)
   rwa [hkt] at this
  refine⟨A,ord,σ,hJ,?_⟩;have key:=h.turn (A':=A) (ord':=ord) (σ':=σ) (t':=t) (es:=[]) (cs':=M.cs.set k.toNat ⟨(ceAt M.cs k).val,0⟩) (ws':=M.ws) (nx':=M.nx.set i (.rel l)) hJ hL.csl ht htx3 (fun j hj=>rfl) (fun j hj=>List.getElem?_set_ne hj.symm) (by rw[List.append_nil];exact h.od) h.com h.play (by rw[List.append_nil];exact h.tries) h.abt (fun y hy _=>hy) ?_ ?_ (fun _=>rfl) ?_ (fun r s _ h4=>absurd hw h4)
  ·rw [List.append_nil,set_same ht] at key
   exact key
  ·intro q hq h1 h2
   rw[yP hcM];by_cases e:q=k.toNat
   ·exfalso
    subst e;rw[hkt] at h1;exact h1 hok
   ·rw [if_neg e];exact⟨rfl,rfl⟩
  ·intro q hq hT
   rw[yP hcM] at hT ⊢;by_cases e:q=k.toNat
   ·rw [if_pos e] at hT ⊢
    have e2:(q:Int)=k:=by omega
    refine⟨.inr (by rw[e2];exact hok),.inl rfl,fun _=>?_⟩;rw[h.free q hq (.inr ⟨i,t,ht,hb,hw,by rw[e2];exact hok⟩)];unfold aOf;rw[yP hcM,if_pos e,e2]
   ·rw [if_neg e] at hT ⊢
    have hT:(ceAt M.cs q).own=qE i t.tx:=by rcases hT with h|h <;> exact h
    refine⟨.inr hT,.inr ⟨hT,hb,rfl⟩,fun _=>?_⟩;rw[h.free q hq (.inr ⟨i,t,ht,hb,hw,hT⟩)];unfold aOf;rw[yP hcM,if_neg e]
  ·intro l' _ hl
   rw[nxi] at hl;simp only[Option.some.injEq,Nx.rel.injEq] at hl;subst hl;refine⟨hnd.2,fun q hq=>?_⟩;rw[yP hcM];by_cases e:q=k.toNat
   ·rw [if_pos e,show(q:Int)=k by omega]
    exact⟨fun h=>absurd h.symm hpos,fun h=>absurd h hnd.1⟩
   ·rw [if_neg e,hrl q hq,List.mem_cons]
    constructor
    ·rintro (h|h)
     ·omega
     ·exact h
    ·exact fun h=>.inr h
 |commit hw hb hx=>
  obtain⟨k0,x,hx0,qh,hth,hst,hj'⟩:=hJ.ended (kind:=5) (status:=3) ht hb (by omega) ha6 htk.act (fun h=>by omega) (.inl ⟨rfl,rfl,hw⟩);have hxA:=List.mem_of_getElem? hx0;obtain⟨-,hrl⟩:=h.rl i t _ ht hb hx;have hown:∀k,k < P.cells.length->(ceAt M.cs k).own≠qE i t.tx:=fun k hk e=>by
   have:=(hrl k hk).1 e;cases this
  refine⟨_,ord,σ,hj',?_⟩;refine h.turn (t':=xM t) (es:=[_]) hJ hL.csl ht htx3 (fun j hj=>rfl) (fun j hj=>List.getElem?_set_ne hj.symm) ?_ ?_ ?_ ?_ ?_ ?_ (fun k hk _ _=>⟨rfl,rfl⟩) (fun k hk hT=>absurd (by rcases hT with h|h <;> exact h) (hown k hk)) (fun h=>by cases h) (fun l h=>by cases h) (fun r s h=>by cases h)
  ·rw [List.length_append]
   exact h.od.stays hJ.ids hx0 rfl rfl (.inr rfl)
  ·intro y hy q hq
   rcases xC hx0 hy hJ.ids with rfl|⟨hy,-⟩
   ·exact h.com x hxA q hq
   ·exact h.com y hy q hq
  ·rw [set_play (s':=endS 3 M.W.evs.length x) hJ.ids hx0 rfl fun ρ=>rfl];exact h.play
  ·rw [List.filter_append]
   simp[h.tries,qC,xD]
  ·intro y hy h5 h0
   rcases xC hx0 hy hJ.ids with rfl|⟨hy,-⟩
   ·rfl
   ·exact h.abt y hy h5 h0
  ·intro y hy hne
   exact set_mem hx0 hy (by rw[qh];exact hne)
end
structure LT (P:Pg) (M:LM) (A:Au) (ord:List (Int×Bool)) (σ:List Int):Prop where
 la:Lall P M A
 tr:TrI P M A ord σ
section
variable {P:Pg} {M M':LM} {A:Au} {ord:List (Int×Bool)} {σ:List Int}
theorem ceAt_start (cells:List Int) (k:Nat):(ceAt (cells.map fun c=>(⟨c,0⟩:Ce)) (k:Int)).own=0/\∀x,cells[k]?=some x->(ceAt (cells.map fun c=>(⟨c,0⟩:Ce)) (k:Int)).val=x:=by
 unfold ceAt;simp only[Int.toNat_natCast,List.getElem?_map];cases cells[k]? with
 |none=>exact⟨rfl,fun x h=>by cases h⟩
 |some c=>exact⟨rfl,fun x h=>by cases h;rfl⟩
theorem LT.start (h:PgOk P):LT P (xm P) [] [] P.cells:=by
 have hz:∀(i:Nat) (t:Th),(xm P).W.ths[i]?=some t->t=Th.zero:=fun i t ht=>List.eq_of_mem_replicate (List.mem_of_getElem? ht);refine⟨Lall.start h,⟨⟨.refl _,List.Pairwise.nil,by simp⟩,by simp,rfl,rfl,by simp,fun k hk=>.inl (ceAt_start P.cells k).1,fun i t l ht hb=>?_,fun k hk _=>?_,fun i t r s ht hb=>?_⟩⟩
 ·rw [hz i t ht] at hb;cases hb
 ·rw [List.getElem?_eq_getElem hk]
  exact congrArg some ((ceAt_start P.cells k).2 _ (List.getElem?_eq_getElem hk)).symm
 ·rw [hz i t ht] at hb;cases hb
theorem stp_evs {i:Nat} {t:Th} (hs:Stp P M i t M'):M'.W.evs=M.W.evs\/∃e,M'.W.evs=M.W.evs++[e]:=by
 cases hs <;> first|exact .inr ⟨_,rfl⟩|exact .inl rfl
theorem LT.step (h:LT P M A ord σ) (i:Int):∃A' ord' σ',LT P (yk P M i) A' ord' σ'/\((yk P M i).W.evs=M.W.evs\/∃e,(yk P M i).W.evs=M.W.evs++[e]):=by
 unfold yk;cases hd:xW P M.W i with
 |true=>exact⟨A,ord,σ,h,.inl rfl⟩
 |false=>
  obtain⟨k,rfl,hk⟩:=wDone_in h.la.li.thl hd;obtain⟨t,ht⟩:∃t,M.W.ths[k]?=some t:=⟨_,List.getElem?_eq_getElem (by rw[h.la.li.thl];exact hk)⟩
  have hdn:qP P k t=false:=by rw[←wDone_th ht];exact hd
  have hs:=stp_of h.la.li hk ht hd;have hw:=stp_wk h.la.li ht hs;obtain⟨A',ord',σ',h1,h2⟩:=tr_step h.tr h.la.li h.la.ji hk ht hdn hs;exact⟨A',ord',σ',⟨⟨(stp_inv h.la.li hk ht hdn hs).1,bstep h.la.li.ok h.la.bi hk ht hdn (h.la.li.th k t ht).1 hw,h1⟩,h2⟩,stp_evs hs⟩
def Past (P:Pg) (M:LM):Prop:=∀n,n<=M.W.evs.length->∃M' A ord σ,LT P M' A ord σ/\M'.W.evs=M.W.evs.take n
theorem Past.start (h:PgOk P):Past P (xm P):=fun n hn=>⟨_,_,_,_,LT.start h,by
 have:(xm P).W.evs=[]:=rfl;rw[this];simp⟩
theorem Past.step (hp:Past P M) (h:LT P M A ord σ) (i:Int):Past P (yk P M i):=by
 obtain⟨A',ord',σ',h1,h2⟩:=h.step i;intro n hn;rcases h2 with e|⟨x,e⟩
 ·rw [e] at hn ⊢;exact hp n hn
 ·by_cases hl:n<=M.W.evs.length
  ·obtain ⟨M2,A2,o2,s2,h3,h4⟩:=hp n hl
   exact⟨M2,A2,o2,s2,h3,by rw[e,List.take_append_of_le_length hl];exact h4⟩
  ·refine ⟨_,_,_,_,h1,?_⟩
   rw[List.take_of_length_le];rw[e] at hn ⊢;simp at hn ⊢;omega
theorem LT.steps (h:LT P M A ord σ) (hp:Past P M):∀l:List Int,(∃A' ord' σ',LT P (qR P M l) A' ord' σ')/\Past P (qR P M l):=by
 intro l
 induction l generalizing M A ord σ with
 |nil=>exact⟨⟨_,_,_,h⟩,hp⟩
 |cons i l ih=>
  obtain⟨A',ord',σ',h1,-⟩:=h.step i;exact ih h1 (hp.step h i)
theorem lt_run (h:PgOk P) {l:List Int} {full:Bool} (hr:RunOf P (xm P) l full M):(∃A ord σ,LT P M A ord σ)/\Past P M:=by
 unfold RunOf at hr
 split at hr
 ·obtain ⟨l2,rfl,-⟩:=hr
  exact(LT.start h).steps (Past.start h) _
 ·rw [hr];exact(LT.start h).steps (Past.start h) _
theorem LT.ends (h:LT P M A ord σ):(gmOf 3 A).Ends (0,P.cells):=by
 have hX:=fed_txs h.la.ji.fed h.la.ji.evs;refine ends_gm (.inr (.inr rfl)) h.la.ji.ids h.tr.od (fun s hs c hc=>⟨fun e=>?_,fun e=>?_⟩) (fun s hs=>by have:=fed_times h.la.ji.fed s hs;omega) (by simpa using h.tr.play)
 ·have h0:=(h.tr.com s hs c hc).1 e
  rcases(hX s hs).status.2 h0 with h1|⟨h1,h2⟩
  ·exact .inr h1.2
  ·exact .inl (h.tr.abt s hs h1 h0)
 ·have h0:¬0<=s.tri:=fun h0=>by have:=(h.tr.com s hs c hc).2 h0;rw[e] at this;cases this
  rcases(hX s hs).status.1 (by omega) with h1|h1 <;> omega
end
structure GlobS (w:World):Prop where
 t:GlobT w
 pow:PowAt w
 big:0 < w.heap.size
 bud:∃b:Addr,w.cell? ⟨0,0,none⟩=some (.iface 375 (.pointer (some b)))
theorem GlobS.below {w w':World} (h:GlobS w) (hb:Below w.heap.size w w'):GlobS w':=let ⟨h1,h2,h3,b,h4⟩:=h;⟨h1.below hb,h2.below hb,by have:=hb.size;omega,b,qx hb h3 h4⟩
