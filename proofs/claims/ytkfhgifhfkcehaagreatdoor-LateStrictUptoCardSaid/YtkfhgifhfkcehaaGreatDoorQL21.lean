/- Parts of the proof, merged by program out of 4 texts (OrB, SeP, SeK, SeM): the first: Deeds done again; orders of transactions, played on registers: plain lists. Conditions: those of each theorem, as typed. -/
import Derived.Test.YtkfhgifhfkcehaaGreatDoorQL20
import Derived.Lib.ItoaNum
import Derived.Lib.Join
import Derived.Test.YtkfhgifhfkcehaaGreatDoorQL02
import Derived.Test.YtkfhgifhfkcehaaGreatDoorChecked
set_option linter.unusedVariables false
set_option linter.unusedSimpArgs false
set_option linter.unusedSectionVars false
set_option maxRecDepth 100000
set_option maxHeartbeats 4000000
namespace Go.Proofs.YtkfhgifhfkcehaaGreatDoor
open Go.Lib Go.MapKept Go.Maps Go.RowKit
def doD (σ:List Int) (d:Dd):Option (List Int):=
 if d.ret=0 then some σ
 else if d.op=2 then(if d.ret=1∧d.got=0 then some (σ.set d.obj.toNat d.val) else none)
 else(if d.ret=3∧σ[d.obj.toNat]?=some d.got then some σ else none)
def rep:List Int→List Dd→Option (List Int)
 |σ,[]=>some σ
 |σ,d::l=>match doD σ d with
  |some τ=>rep τ l
  |none=>none
theorem rep_app {l m:List Dd}:∀{σ:List Int},rep σ (l++m)=match rep σ l with
  |some τ=>rep τ m
  |none=>none:=by
 induction l with
 |nil=>intro σ;rfl
 |cons d l ih=>
  intro σ
  simp only[List.cons_append,rep]
  cases doD σ d with
  |none=>rfl
  |some τ=>exact ih
theorem rep_snoc {l:List Dd} {d:Dd} {σ τ:List Int} (h:rep σ l=some τ):rep σ (l++[d])=doD τ d:=by
 rw[rep_app,h]
 simp only[rep]
 cases doD τ d <;> rfl
theorem rep_call {l:List Dd} {d:Dd} {σ:List Int} (h:d.ret=0):rep σ (l++[d])=rep σ l:=by
 rw[rep_app]
 cases rep σ l with
 |none=>rfl
 |some τ=>simp[rep,doD,h]
theorem doD_len {σ τ:List Int} {d:Dd} (h:doD σ d=some τ):τ.length=σ.length:=by
 unfold doD at h
 split at h
 ·cases h;rfl
 ·split at h
  ·split at h
   ·cases h;simp
   ·cases h
  ·split at h
   ·cases h;rfl
   ·cases h
theorem rep_len:∀{l:List Dd} {σ τ:List Int},rep σ l=some τ→τ.length=σ.length
 |[],σ,τ,h=>by cases h;rfl
 |d::l,σ,τ,h=>by
  simp only[rep] at h
  cases hd:doD σ d with
  |none=>rw[hd] at h;cases h
  |some ρ=>rw[hd] at h;rw[rep_len h,doD_len hd]
theorem doD_val {σ τ:List Int} {d:Dd} (hd:-1000000000≤d.val∧d.val≤1000000000) (hs:∀x ∈ σ,-1000000000≤x∧x≤1000000000) (h:doD σ d=some τ):∀x ∈ τ,-1000000000≤x∧x≤1000000000:=by
 unfold doD at h
 split at h
 ·cases h;exact hs
 ·split at h
  ·split at h
   ·cases h
    intro x hx
    rcases List.mem_or_eq_of_mem_set hx with hx|rfl
    ·exact hs x hx
    ·exact hd
   ·cases h
  ·split at h
   ·cases h;exact hs
   ·cases h
theorem rep_val:∀{l:List Dd} {σ τ:List Int},(∀d ∈ l,-1000000000≤d.val∧d.val≤1000000000)→(∀x ∈ σ,-1000000000≤x∧x≤1000000000)→rep σ l=some τ→∀x ∈ τ,-1000000000≤x∧x≤1000000000
 |[],σ,τ,_,hs,h=>by cases h;exact hs
 |d::l,σ,τ,hd,hs,h=>by
  simp only[rep] at h
  cases he:doD σ d with
  |none=>rw[he] at h;cases h
  |some ρ=>
   rw[he] at h
   exact rep_val (fun e hx=>hd e (List.mem_cons_of_mem _ hx)) (doD_val (hd d (List.mem_cons_self ..)) hs he) h
def stepO (dl:Int→List Dd) (fin:Bool) (σ:List Int) (p:Int×Bool):Option (List Int):=
 if p.2=false∧fin=false then some σ
 else match rep σ (dl p.1) with
  |some τ=>some (if p.2=true then τ else σ)
  |none=>none
def playO (dl:Int→List Dd) (fin:Bool):List Int→List (Int×Bool)→Option (List Int)
 |σ,[]=>some σ
 |σ,p::l=>match stepO dl fin σ p with
  |some τ=>playO dl fin τ l
  |none=>none
section
variable {dl dl':Int→List Dd} {fin:Bool}
theorem playO_app {l m:List (Int×Bool)}:∀{σ:List Int},playO dl fin σ (l++m)=match playO dl fin σ l with
  |some τ=>playO dl fin τ m
  |none=>none:=by
 induction l with
 |nil=>intro σ;rfl
 |cons d l ih=>
  intro σ
  simp only[List.cons_append,playO]
  cases stepO dl fin σ d with
  |none=>rfl
  |some τ=>exact ih
theorem playO_snoc {l:List (Int×Bool)} {p:Int×Bool} {σ τ:List Int} (h:playO dl fin σ l=some τ):playO dl fin σ (l++[p])=stepO dl fin τ p:=by
 rw[playO_app,h]
 simp only[playO]
 cases stepO dl fin τ p <;> rfl
theorem playO_congr:∀{l:List (Int×Bool)} {σ:List Int},(∀p ∈ l,∀ρ,rep ρ (dl p.1)=rep ρ (dl' p.1))→playO dl fin σ l=playO dl' fin σ l
 |[],_,_=>rfl
 |p::l,σ,h=>by
  have e:stepO dl fin σ p=stepO dl' fin σ p:=by unfold stepO;rw[h p (List.mem_cons_self ..) σ]
  simp only[playO,e]
  cases stepO dl' fin σ p with
  |none=>rfl
  |some τ=>exact playO_congr fun q hq=>h q (List.mem_cons_of_mem _ hq)
theorem playO_filter {f:Int×Bool→Bool}:∀{l:List (Int×Bool)} {σ τ:List Int},(∀q ∈ l,f q=false→q.2=false)→playO dl fin σ l=some τ→playO dl fin σ (l.filter f)=some τ
 |[],_,_,_,h=>h
 |p::l,σ,τ,hf,h=>by
  simp only[playO] at h
  cases hs:stepO dl fin σ p with
  |none=>rw[hs] at h;cases h
  |some ρ=>
   rw[hs] at h
   have ih:=playO_filter (f:=f) (fun q hq=>hf q (List.mem_cons_of_mem _ hq)) h
   cases hp:f p with
   |true=>
    rw[List.filter_cons_of_pos hp]
    simp only[playO,hs]
    exact ih
   |false=>
    rw[List.filter_cons_of_neg (by simp[hp])]
    have h2:=hf p (List.mem_cons_self ..) hp
    have:ρ=σ:=by
     unfold stepO at hs
     rw[h2] at hs
     split at hs
     ·cases hs;rfl
     ·cases hr:rep σ (dl p.1) with
      |none=>rw[hr] at hs;cases hs
      |some x=>rw[hr] at hs;simp at hs;exact hs.symm
    rw[←this]
    exact ih
theorem stepO_len {σ τ:List Int} {p:Int×Bool} (h:stepO dl fin σ p=some τ):τ.length=σ.length:=by
 unfold stepO at h
 split at h
 ·cases h;rfl
 ·cases hr:rep σ (dl p.1) with
  |none=>rw[hr] at h;cases h
  |some x=>
   rw[hr] at h
   simp only[Option.some.injEq] at h
   rw[←h]
   split
   ·exact rep_len hr
   ·rfl
theorem playO_len:∀{l:List (Int×Bool)} {σ τ:List Int},playO dl fin σ l=some τ→τ.length=σ.length
 |[],σ,τ,h=>by cases h;rfl
 |p::l,σ,τ,h=>by
  simp only[playO] at h
  cases hd:stepO dl fin σ p with
  |none=>rw[hd] at h;cases h
  |some ρ=>rw[hd] at h;rw[playO_len h,stepO_len hd]
def toEnd (x:Int) (c:Bool) (l:List (Int×Bool)):List (Int×Bool):=l.filter (fun p=>!(p.1==x))++[(x,c)]
theorem mem_toEnd {x:Int} {c:Bool} {l:List (Int×Bool)} {p:Int×Bool}:p ∈ toEnd x c l↔p=(x,c)∨(p ∈ l∧p.1≠x):=by
 unfold toEnd
 simp only[List.mem_append,List.mem_filter,List.mem_singleton,Bool.not_eq_true',beq_eq_false_iff_ne]
 exact Or.comm
theorem toEnd_play {x:Int} {c:Bool} {l:List (Int×Bool)} {σ τ:List Int} (h:playO dl fin σ l=some τ) (hn:∀b,(x,b) ∈ l→b=false) (hs:∀y,y≠x→∀ρ,rep ρ (dl' y)=rep ρ (dl y)):playO dl' fin σ (toEnd x c l)=stepO dl' fin τ (x,c):=by
 unfold toEnd
 refine playO_snoc ?_
 rw[playO_congr (dl':=dl) fun p hp ρ=>?_]
 ·refine playO_filter (fun q hq hf=>?_) h
  have h1:q.1=x:=by simpa using hf
  exact hn q.2 (by rw[←h1];exact hq)
 ·have:=(List.mem_filter.1 hp).2
  exact hs p.1 (by simpa using this) ρ
theorem perm_toEnd {x:Int} {c b:Bool} {l:List (Int×Bool)} (hx:(x,b) ∈ l) (hn:(l.map (·.1)).Nodup):((toEnd x c l).map (·.1)).Perm (l.map (·.1)):=by
 induction l with
 |nil=>cases hx
 |cons p l ih=>
  simp only[List.map_cons,List.nodup_cons] at hn
  unfold toEnd
  by_cases hp:p.1=x
  ·rw [List.filter_cons_of_neg (by simp[hp])]
   have:l.filter (fun q=>!(q.1==x))=l:=by
    rw[List.filter_eq_self]
    intro q hq
    have:q.1≠x:=fun e=>hn.1 (by rw[hp,←e];exact List.mem_map_of_mem hq)
    simpa using this
   rw[this,List.map_append,List.map_cons,List.map_cons,hp]
   exact List.perm_append_comm
  ·rw [List.filter_cons_of_pos (by simpa using hp)]
   simp only[List.cons_append,List.map_cons]
   refine List.Perm.cons _ (ih ?_ hn.2)
   rcases List.mem_cons.1 hx with h|h
   ·exact absurd (by rw[←h]) hp
   ·exact h
end
structure Gm where
 lev:Int
 txs:List St
 masks:List Nat
abbrev Nd:=Nat×List Int
structure Tn where
 id:Int
 com:Bool
 to:Nd
def Gm.may (g:Gm) (p i:Nat):Bool:=!p.testBit i&&(g.masks.getD i 0&&&p==g.masks.getD i 0)
def Gm.turns1 (g:Gm) (n:Nd) (i:Nat) (t:St):List Tn:=
 if g.may n.1 i then
  (if (t.status=3∨t.status=2) then match rep n.2 t.deeds with
   |some τ=>[⟨t.id,true,(n.1|||2 ^ i,τ)⟩]
   |none=>[]
  else[])++
  (if t.status≠3∧(g.lev≠3∨(rep n.2 t.deeds).isSome=true) then[⟨t.id,false,(n.1|||2 ^ i,n.2)⟩] else[])
 else[]
def Gm.turnsK (g:Gm) (n:Nd) (k:Nat):List Tn:=(List.range k).flatMap fun i=>match g.txs[i]? with
 |some t=>g.turns1 n i t
 |none=>[]
def Gm.turns (g:Gm) (n:Nd):List Tn:=g.turnsK n g.txs.length
def Gm.all (g:Gm):Nat:=2 ^ g.txs.length - 1
inductive Gm.Ends (g:Gm):Nd→Prop
 |all {n:Nd} (h:n.1=g.all):Gm.Ends g n
 |step {n:Nd} {t:Tn} (ht:t ∈ g.turns n) (h:Gm.Ends g t.to):Gm.Ends g n
def Gm.rank (g:Gm) (n:Nd):Nat:=(List.range g.txs.length).countP fun i=>n.1.testBit i
structure NdOk (g:Gm) (m:Nat) (n:Nd):Prop where
 bits:n.1 < 2 ^ g.txs.length
 len:n.2.length=m
 val:∀x ∈ n.2,-1000000000≤x∧x≤1000000000
section
variable {g:Gm} {n n':Nd} {t:Tn}
theorem turnsK_succ {k:Nat} {s:St} (h:g.txs[k]?=some s):g.turnsK n (k+1)=g.turnsK n k++g.turns1 n k s:=by
 unfold Gm.turnsK
 rw[List.range_succ,List.flatMap_append]
 simp[h]
theorem turnsK_zero:g.turnsK n 0=[]:=rfl
theorem turns_mem:t ∈ g.turns n↔∃(i:Nat) (s:St),g.txs[i]?=some s∧t ∈ g.turns1 n i s:=by
 unfold Gm.turns Gm.turnsK
 simp only[List.mem_flatMap,List.mem_range]
 constructor
 ·rintro ⟨i,hi,h⟩
  rw[List.getElem?_eq_getElem hi] at h
  exact⟨i,_,List.getElem?_eq_getElem hi,h⟩
 ·rintro ⟨i,s,hs,h⟩
  refine⟨i,(List.getElem?_eq_some_iff.1 hs).1,?_⟩
  rw[hs];exact h
theorem turns1_mem {i:Nat} {s:St} (h:t ∈ g.turns1 n i s):g.may n.1 i=true∧t.to.1=n.1|||2 ^ i∧(t.to.2=n.2∨rep n.2 s.deeds=some t.to.2):=by
 unfold Gm.turns1 at h
 split at h
 ·rename_i hm
  refine⟨hm,?_⟩
  rcases List.mem_append.1 h with h|h
  ·split at h
   ·split at h
    ·rename_i τ hr
     simp only[List.mem_singleton] at h
     subst h
     exact⟨rfl,.inr hr⟩
    ·cases h
   ·cases h
  ·split at h
   ·simp only[List.mem_singleton] at h
    subst h
    exact⟨rfl,.inl rfl⟩
   ·cases h
 ·cases h
theorem countP_bit {p q i:Nat} (hp:p.testBit i=false) (hq:∀j,q.testBit j=(p.testBit j||decide (i=j))):∀N,(List.range N).countP (fun j=>q.testBit j)=(List.range N).countP (fun j=>p.testBit j)+if i < N then 1 else 0
 |0=>by simp
 |N+1=>by
  rw[List.range_succ,List.countP_append,List.countP_append,countP_bit hp hq N]
  simp only[List.countP_singleton,hq]
  by_cases h1:i < N
  ·have h2:i≠N:=by omega
   simp[h1,h2,show i < N+1 by omega];omega
  ·by_cases h2:i=N
   ·subst h2;simp[hp]
   ·simp [h1,h2,show ¬i < N+1 by omega]
theorem turn_rank (h:t ∈ g.turns n):g.rank t.to=g.rank n+1:=by
 obtain⟨i,s,hs,h⟩:=turns_mem.1 h
 obtain⟨h1,h2,-⟩:=turns1_mem h
 have hi:=(List.getElem?_eq_some_iff.1 hs).1
 unfold Gm.may at h1
 simp only[Bool.and_eq_true,Bool.not_eq_true'] at h1
 unfold Gm.rank
 rw[countP_bit (i:=i) h1.1 (q:=t.to.1) (fun j=>by rw[h2,Nat.testBit_or,Nat.testBit_two_pow]) _,if_pos hi]
theorem turn_ok {m:Nat} (hn:NdOk g m n) (hd:∀s ∈ g.txs,∀d ∈ s.deeds,-1000000000≤d.val∧d.val≤1000000000) (h:t ∈ g.turns n):NdOk g m t.to:=by
 obtain⟨i,s,hs,h⟩:=turns_mem.1 h
 obtain⟨h1,h2,h3⟩:=turns1_mem h
 have hi:=(List.getElem?_eq_some_iff.1 hs).1
 refine⟨?_,?_,?_⟩
 ·rw [h2]
  exact Nat.or_lt_two_pow hn.bits (Nat.pow_lt_pow_right (by omega) hi)
 ·rcases h3 with h3|h3
  ·rw [h3];exact hn.len
  ·rw [rep_len h3];exact hn.len
 ·rcases h3 with h3|h3
  ·rw [h3];exact hn.val
  ·exact rep_val (fun d hd'=>hd s (List.mem_of_getElem? hs) d hd') hn.val h3
structure Bfs (g:Gm) (m:Nat) (n0:Nd) (ord:List Nd) (q:Nat):Prop where
 hd:ord[0]?=some n0
 qle:q≤ord.length
 nd:ord.Nodup
 ok:∀n ∈ ord,NdOk g m n
 srt:ord.Pairwise fun a b=>g.rank a≤g.rank b
 cl:∀(j:Nat) (n:Nd),j < q→ord[j]?=some n→∀t ∈ g.turns n,t.to ∈ ord
 near:∀c,ord[q]?=some c→∀n ∈ ord,g.rank n≤g.rank c+1
structure Bmd (g:Gm) (m:Nat) (n0:Nd) (ord:List Nd) (q k:Nat) (c:Nd):Prop where
 hd:ord[0]?=some n0
 cur:ord[q]?=some c
 nd:ord.Nodup
 ok:∀n ∈ ord,NdOk g m n
 srt:ord.Pairwise fun a b=>g.rank a≤g.rank b
 cl:∀(j:Nat) (n:Nd),j < q→ord[j]?=some n→∀t ∈ g.turns n,t.to ∈ ord
 near:∀n ∈ ord,g.rank n≤g.rank c+1
 here:∀(j:Nat) (t:Tn),j < k→(g.turns c)[j]?=some t→t.to ∈ ord
variable {m q k:Nat} {n0 c:Nd} {ord:List Nd}
theorem Bfs.start (h:NdOk g m n0):Bfs g m n0 [n0] 0:=by
 refine⟨rfl,by simp,by simp,by simpa using h,by simp,fun j n hj=>by omega,fun c hc n hn=>?_⟩
 simp only[List.getElem?_cons_zero,Option.some.injEq] at hc
 simp only[List.mem_singleton] at hn
 subst hc hn
 omega
theorem Bfs.take (h:Bfs g m n0 ord q) (hc:ord[q]?=some c):Bmd g m n0 ord q 0 c:=⟨h.hd,hc,h.nd,h.ok,h.srt,h.cl,h.near c hc,fun j t hj=>by omega⟩
theorem Bmd.old (h:Bmd g m n0 ord q k c) {t:Tn} (ht:(g.turns c)[k]?=some t) (ho:t.to ∈ ord):Bmd g m n0 ord q (k+1) c:=by
 refine⟨h.hd,h.cur,h.nd,h.ok,h.srt,h.cl,h.near,fun j u hj hu=>?_⟩
 by_cases e:j=k
 ·subst e
  rw[ht] at hu
  obtain rfl:=Option.some.inj hu
  exact ho
 ·exact h.here j u (by omega) hu
theorem Bmd.put (h:Bmd g m n0 ord q k c) (hd:∀s ∈ g.txs,∀d ∈ s.deeds,-1000000000≤d.val∧d.val≤1000000000) {t:Tn} (ht:(g.turns c)[k]?=some t) (ho:t.to ∉ ord):Bmd g m n0 (ord++[t.to]) q (k+1) c:=by
 have hr:=turn_rank (List.mem_of_getElem? ht)
 have hok:=turn_ok (h.ok c (List.mem_of_getElem? h.cur)) hd (List.mem_of_getElem? ht)
 have hql:=(List.getElem?_eq_some_iff.1 h.cur).1
 refine⟨?_,?_,?_,fun n hn=>?_,?_,fun j n hj hn u hu=>?_,fun n hn=>?_,fun j u hj hu=>?_⟩
 ·rw [List.getElem?_append_left (by omega)];exact h.hd
 ·rw [List.getElem?_append_left hql];exact h.cur
 ·refine List.nodup_append.2 ⟨h.nd,by simp,fun a ha b hb=>?_⟩
  simp only[List.mem_singleton] at hb
  rintro rfl
  subst hb
  exact ho ha
 ·rcases List.mem_append.1 hn with hn|hn
  ·exact h.ok n hn
  ·simp only[List.mem_singleton] at hn;subst hn;exact hok
 ·refine List.pairwise_append.2 ⟨h.srt,by simp,fun a ha b hb=>?_⟩
  simp only[List.mem_singleton] at hb
  subst hb
  have:=h.near a ha
  omega
 ·rw [List.getElem?_append_left (by omega)] at hn
  exact List.mem_append_left _ (h.cl j n hj hn u hu)
 ·rcases List.mem_append.1 hn with hn|hn
  ·exact h.near n hn
  ·simp only[List.mem_singleton] at hn;subst hn;omega
 ·by_cases e:j=k
  ·subst e
   rw[ht] at hu
   obtain rfl:=Option.some.inj hu
   simp
  ·exact List.mem_append_left _ (h.here j u (by omega) hu)
theorem Bmd.done (h:Bmd g m n0 ord q k c) (hk:(g.turns c).length≤k):Bfs g m n0 ord (q+1):=by
 have hql:=(List.getElem?_eq_some_iff.1 h.cur).1
 refine⟨h.hd,by omega,h.nd,h.ok,h.srt,fun j n hj hn t ht=>?_,fun d hd n hn=>?_⟩
 ·by_cases e:j=q
  ·subst e
   rw[h.cur] at hn
   obtain rfl:=Option.some.inj hn
   obtain⟨i,hi⟩:=List.mem_iff_getElem?.1 ht
   exact h.here i t (by have:=(List.getElem?_eq_some_iff.1 hi).1;omega) hi
  ·exact h.cl j n (by omega) hn t ht
 ·have h1:=h.near n hn
  have h2:g.rank c≤g.rank d:=by
   have hl2:=(List.getElem?_eq_some_iff.1 hd).1
   have e1:c=ord[q]:=(Option.some.inj ((List.getElem?_eq_getElem hql).symm.trans h.cur)).symm
   have e2:d=ord[q+1]:=(Option.some.inj ((List.getElem?_eq_getElem hl2).symm.trans hd)).symm
   rw[e1,e2]
   exact List.pairwise_iff_getElem.1 h.srt q (q+1) hql hl2 (by omega)
  omega
theorem Bfs.later (h:Bfs g m n0 ord ord.length) {i:Nat} (hi:ord[i]?=some n) (ht:t ∈ g.turns n):∃j,i < j∧ord[j]?=some t.to:=by
 have hil:=(List.getElem?_eq_some_iff.1 hi).1
 obtain⟨j,hj⟩:=List.mem_iff_getElem?.1 (h.cl i n hil hi t ht)
 refine⟨j,?_,hj⟩
 have hjl:=(List.getElem?_eq_some_iff.1 hj).1
 rcases Nat.lt_trichotomy i j with h1|h1|h1
 ·exact h1
 ·exfalso
  subst h1
  rw[hi] at hj
  have:=turn_rank ht
  rw[←Option.some.inj hj] at this
  omega
 ·exfalso
  have e1:n=ord[i]:=(Option.some.inj ((List.getElem?_eq_getElem hil).symm.trans hi)).symm
  have e2:t.to=ord[j]:=(Option.some.inj ((List.getElem?_eq_getElem hjl).symm.trans hj)).symm
  have:=List.pairwise_iff_getElem.1 h.srt j i hjl hil h1
  rw[←e1,←e2,turn_rank ht] at this
  omega
theorem Bfs.size (h:Bfs g m n0 ord q) {i:Nat} (hi:ord[i]?=some n):NdOk g m n:=h.ok n (List.mem_of_getElem? hi)
theorem ends_iff:g.Ends n↔n.1=g.all∨∃t ∈ g.turns n,g.Ends t.to:=by
 constructor
 ·intro h
  cases h with
  |all h=>exact .inl h
  |step ht h=>exact .inr ⟨_,ht,h⟩
 ·rintro (h|⟨t,ht,h⟩)
  ·exact .all h
  ·exact .step ht h
theorem rank_le:g.rank n≤g.txs.length:=by
 unfold Gm.rank
 have:=List.countP_le_length (p:=fun i=>n.1.testBit i) (l:=List.range g.txs.length)
 simpa using this
theorem ends_suf (dl:Int→List Dd) (hdl:∀s ∈ g.txs,dl s.id=s.deeds) (hlev:g.lev=3∨g.lev≠3):
  ∀(suf:List (Int×Bool)) (p:Nat) (σ τ:List Int),p < 2 ^ g.txs.length→(∀(i:Nat) (s:St),g.txs[i]?=some s→(p.testBit i=true↔s.id ∉ suf.map (·.1)))→(suf.map (·.1)).Nodup→
   (∀x ∈ suf,∃(i:Nat) (s:St),g.txs[i]?=some s∧s.id=x.1∧(x.2=true→s.status=3∨s.status=2)∧(x.2=false→s.status≠3))→
   (∀(a b:List (Int×Bool)) (x:Int×Bool) (i:Nat) (s:St),suf=a++x::b→g.txs[i]?=some s→s.id=x.1→∀j,(g.masks.getD i 0).testBit j=true→∃u,g.txs[j]?=some u∧u.id ∉ (x::b).map (·.1))→
   playO dl (decide (g.lev=3)) σ suf=some τ→(∀(i j:Nat) (s u:St),g.txs[i]?=some s→g.txs[j]?=some u→s.id=u.id→i=j)→g.Ends (p,σ)
 |[],p,σ,τ,hp,hb,_,_,_,_,_=>by
  refine .all ?_
  unfold Gm.all
  apply Nat.eq_of_testBit_eq
  intro i
  show p.testBit i=_
  rw[Nat.testBit_two_pow_sub_one]
  by_cases hi:i < g.txs.length
  ·rw [decide_eq_true hi]
   exact(hb i _ (List.getElem?_eq_getElem hi)).2 (by simp)
  ·rw [decide_eq_false hi]
   exact Nat.testBit_lt_two_pow (Nat.lt_of_lt_of_le hp (Nat.pow_le_pow_right (by omega) (by omega)))
 |x::suf,p,σ,τ,hp,hb,hn,hx,hm,hpl,hu=>by
  obtain⟨i,s,hs,hid,hc1,hc2⟩:=hx x (List.mem_cons_self ..)
  have hi:=(List.getElem?_eq_some_iff.1 hs).1
  rw[List.map_cons,List.nodup_cons] at hn
  have hbi:p.testBit i=false:=by
   cases h:p.testBit i with
   |false=>rfl
   |true=>exact absurd (by rw[hid];exact List.mem_cons_self ..) ((hb i s hs).1 h)
  have hmask:g.masks.getD i 0&&&p=g.masks.getD i 0:=by
   apply Nat.eq_of_testBit_eq
   intro j
   rw[Nat.testBit_and]
   cases h:(g.masks.getD i 0).testBit j with
   |false=>rfl
   |true=>
    obtain⟨u,hu1,hu2⟩:=hm [] suf x i s rfl hs hid j h
    rw[(hb j u hu1).2 hu2];rfl
  have hmay:g.may p i=true:=by
   unfold Gm.may
   rw[hbi,hmask];simp
  have next:∀ρ,playO dl (decide (g.lev=3)) ρ suf=some τ→g.Ends (p|||2 ^ i,ρ):=fun ρ hρ=>by
   refine ends_suf dl hdl hlev suf (p|||2 ^ i) ρ τ (Nat.or_lt_two_pow hp (Nat.pow_lt_pow_right (by omega) hi)) (fun j u hj=>?_) hn.2 (fun y hy=>hx y (List.mem_cons_of_mem _ hy)) (fun a b y k u e=>hm (x::a) b y k u (by rw[e];rfl)) hρ hu
   rw[Nat.testBit_or,Nat.testBit_two_pow]
   by_cases e:i=j
   ·subst e
    rw[hs] at hj
    obtain rfl:=Option.some.inj hj
    simp only[decide_true,Bool.or_true,true_iff]
    rw[hid];exact hn.1
   ·simp only[e,decide_false,Bool.or_false]
    rw[hb j u hj]
    have:u.id≠x.1:=fun h=>e (hu i j s u hs hj (hid.trans h.symm))
    simp only[List.map_cons,List.mem_cons,this,false_or]
  simp only[playO] at hpl
  cases hst:stepO dl (decide (g.lev=3)) σ x with
  |none=>rw[hst] at hpl;cases hpl
  |some ρ=>
   rw[hst] at hpl
   simp only at hpl
   have hE:=next ρ hpl
   have hdx:dl x.1=s.deeds:=by rw[←hid];exact hdl s (List.mem_of_getElem? hs)
   unfold stepO at hst
   rw[hdx] at hst
   cases hxc:x.2 with
   |true=>
    rw[hxc] at hst
    rw[if_neg (by simp)] at hst
    cases hr:rep σ s.deeds with
    |none=>rw[hr] at hst;cases hst
    |some y=>
     rw[hr] at hst
     simp only[if_true,Option.some.injEq] at hst
     subst hst
     refine .step (t:=⟨s.id,true,(p|||2 ^ i,y)⟩) (turns_mem.2 ⟨i,s,hs,?_⟩) hE
     unfold Gm.turns1
     rw[if_pos hmay,if_pos (hc1 hxc),hr]
     exact List.mem_append_left _ (by simp)
   |false=>
    rw[hxc] at hst
    have hne:=hc2 hxc
    have key:(g.lev≠3∨(rep σ s.deeds).isSome=true)∧ρ=σ:=by
     by_cases h3:g.lev=3
     ·rw [if_neg (by simp[h3])] at hst
      cases hr:rep σ s.deeds with
      |none=>rw[hr] at hst;cases hst
      |some y=>
       rw[hr] at hst
       simp at hst
       exact⟨.inr rfl,hst.symm⟩
     ·rw [if_pos (by simp[h3])] at hst
      cases hst
      exact⟨.inl h3,rfl⟩
    obtain⟨k1,rfl⟩:=key
    refine .step (t:=⟨s.id,false,(p|||2 ^ i,ρ)⟩) (turns_mem.2 ⟨i,s,hs,?_⟩) hE
    unfold Gm.turns1
    rw[if_pos hmay]
    exact List.mem_append_right _ (by rw[if_pos ⟨hne,k1⟩];simp)
end
def numOf (l:List UInt8):Nat:=l.foldl (fun a c=>10*a+(c.toNat - 48)) 0
theorem numOf_snoc (l:List UInt8) (c:UInt8):numOf (l++[c])=10*numOf l+(c.toNat - 48):=by simp[numOf,List.foldl_append]
theorem dig_toNat {d:Nat} (h:d < 10):(UInt8.ofNat (48+d)).toNat=48+d:=by
 rw[UInt8.toNat_ofNat']
 omega
theorem numOf_dec (u:Nat):numOf (decDigits u)=u:=by
 induction u using Nat.strongRecOn with
 |_ u ih=>
  by_cases h:u < 10
  ·rw [decDigits,dif_pos h]
   simp only[numOf,List.foldl_cons,List.foldl_nil,dig_toNat h]
   omega
  ·rw [decDigits,dif_neg h,numOf_snoc,ih (u / 10) (by omega),dig_toNat (Nat.mod_lt _ (by omega))]
   omega
theorem dec_digit (u:Nat):∀c ∈ decDigits u,48≤c.toNat∧c.toNat≤57:=by
 induction u using Nat.strongRecOn with
 |_ u ih=>
  intro c hc
  by_cases h:u < 10
  ·rw [decDigits,dif_pos h] at hc
   obtain rfl:=List.mem_singleton.1 hc
   rw[dig_toNat h];omega
  ·rw [decDigits,dif_neg h] at hc
   rcases List.mem_append.1 hc with hc|hc
   ·exact ih (u / 10) (by omega) c hc
   ·obtain rfl:=List.mem_singleton.1 hc
    rw[dig_toNat (Nat.mod_lt _ (by omega))];omega
theorem dec_ne (u:Nat):decDigits u≠[]:=by
 rw[decDigits]
 split
 ·simp
 ·simp
theorem dec_inj {a b:Nat} (h:decDigits a=decDigits b):a=b:=by rw[←numOf_dec a,h,numOf_dec]
theorem itoa_inj {a b:Int} (h:itoa a=itoa b):a=b:=by
 unfold itoa at h
 split at h
 ·split at h
  ·have:=dec_inj (List.cons.inj h).2
   omega
  ·exfalso
   have h1:(45:UInt8) ∈ decDigits b.toNat:=by rw[←h];exact List.mem_cons_self ..
   have:=(dec_digit _ _ h1).1
   have e:(45:UInt8).toNat=45:=rfl
   omega
 ·split at h
  ·exfalso
   have h1:(45:UInt8) ∈ decDigits a.toNat:=by rw[h];exact List.mem_cons_self ..
   have:=(dec_digit _ _ h1).1
   have e:(45:UInt8).toNat=45:=rfl
   omega
  ·have:=dec_inj h
   omega
theorem itoa_plain (x:Int):∀c ∈ itoa x,c≠59:=by
 intro c hc e
 subst e
 have e:(59:UInt8).toNat=59:=rfl
 unfold itoa at hc
 split at hc
 ·rcases List.mem_cons.1 hc with h|h
  ·exact absurd h (by decide)
  ·have:=(dec_digit _ _ h).2;omega
 ·have:=(dec_digit _ _ hc).2;omega
def regT (x:Int):List UInt8:=[114,101,103,105,115,116,101,114,32]++itoa x
def keyT (σ:List Int):List UInt8:=join (σ.map regT) [59,32]
theorem regT_plain (x:Int):∀c ∈ regT x,c≠59:=by
 intro c hc
 unfold regT at hc
 rcases List.mem_append.1 hc with h|h
 ·simp at h
  rcases h with rfl|rfl|rfl|rfl|rfl|rfl|rfl|rfl|rfl <;> decide
 ·exact itoa_plain x c h
theorem regT_inj {x y:Int} (h:regT x=regT y):x=y:=itoa_inj (List.append_cancel_left h)
theorem join_cons2 (a b:List UInt8) (l:List (List UInt8)) (s:List UInt8):join (a::b::l) s=a++(s++join (b::l) s):=by
 unfold join
 rw[List.intercalate_cons_cons]
 simp
theorem split_at {a b:List UInt8} (ha:∀c ∈ a,c≠59) (hb:∀c ∈ b,c≠59) {r t:List UInt8} (h:a++59::r=b++59::t):a=b∧r=t:=by
 induction a generalizing b with
 |nil=>
  cases b with
  |nil=>simpa using h
  |cons y b=>
   simp at h
   exact absurd h.1.symm (hb y (List.mem_cons_self ..))
 |cons x a ih=>
  cases b with
  |nil=>
   simp at h
   exact absurd h.1 (ha x (List.mem_cons_self ..))
  |cons y b=>
   simp only[List.cons_append,List.cons.injEq] at h
   obtain⟨rfl,h2⟩:=h
   obtain⟨rfl,h3⟩:=ih (fun c hc=>ha c (List.mem_cons_of_mem _ hc)) (fun c hc=>hb c (List.mem_cons_of_mem _ hc)) h2
   exact⟨rfl,h3⟩
theorem keyT_inj:∀{σ τ:List Int},σ.length=τ.length→keyT σ=keyT τ→σ=τ
 |[],[],_,_=>rfl
 |[],_::_,h,_=>by simp at h
 |_::_,[],h,_=>by simp at h
 |[x],[y],_,h=>by
  have:regT x=regT y:=by simpa[keyT,join] using h
  rw[regT_inj this]
 |[_],_::_::_,h,_=>by simp at h
 |_::_::_,[_],h,_=>by simp at h
 |x::x2::σ,y::y2::τ,hl,h=>by
  have e:∀(z z2:Int) (ρ:List Int),keyT (z::z2::ρ)=regT z++59::([32]++keyT (z2::ρ)):=fun z z2 ρ=>by
   show join (regT z::regT z2::ρ.map regT) _=_
   rw[join_cons2];rfl
  rw[e,e] at h
  obtain⟨h1,h2⟩:=split_at (regT_plain x) (regT_plain y) h
  rw[regT_inj h1,keyT_inj (σ:=x2::σ) (τ:=y2::τ) (by simpa using hl) (List.append_cancel_left h2)]
theorem itoa_len {x:Int} (h0:-1000000000≤x) (h1:x≤1000000000):(itoa x).length≤12:=by
 have key:∀u:Nat,u≤1000000000→(decDigits u).length≤10:=fun u hu=>by
  rw[decDigits_length]
  by_cases h:u=0
  ·subst h;rw[nDigits_small (by omega)];omega
  ·have hp:=nDigits_pos u
   rcases Nat.lt_or_ge 10 (nDigits u) with hlt|hge
   ·exfalso
    have:10 ^ (nDigits u - 1)≤u:=by
     have key2:∀v:Nat,v≠0→10 ^ (nDigits v - 1)≤v:=fun v=>by
      induction v using Nat.strongRecOn with
      |_ v ih=>
       intro hv
       by_cases h:v < 10
       ·rw [nDigits_small h];simp;omega
       ·rw [nDigits_big h]
        have:=ih (v / 10) (by omega) (by omega)
        have h3:=nDigits_pos (v / 10)
        rw[show nDigits (v / 10)+1 - 1=(nDigits (v / 10) - 1)+1 by omega,Nat.pow_succ]
        omega
     exact key2 u h
    have h2:10 ^ 10≤10 ^ (nDigits u - 1):=Nat.pow_le_pow_right (by omega) (by omega)
    omega
   ·exact hge
 unfold itoa
 split
 ·have:=key x.natAbs (by omega)
  simp only[List.length_cons];omega
 ·have:=key x.toNat (by omega)
  omega
def NdK (m:Nat):Type:={n:Nd // n.1 < 4096∧n.2.length=m∧m≤8∧∀x ∈ n.2,-1000000000≤x∧x≤1000000000}
def keyB (σ:List Int):ByteArray:=⟨(keyT σ).toArray⟩
theorem keyB_inj {σ τ:List Int} (hl:σ.length=τ.length) (h:keyB σ=keyB τ):σ=τ:=by
 refine keyT_inj hl ?_
 have:=congrArg (fun b:ByteArray=>b.data.toList) h
 simpa[keyB] using this
theorem join_len {n:Nat}:∀(l:List (List UInt8)),(∀x ∈ l,x.length≤n)→(Lib.join l [59,32]).length≤l.length*(n+2)
 |[],_=>by simp[Lib.join]
 |[x],h=>by
  have:=h x (by simp)
  simp[Lib.join];omega
 |x::y::l,h=>by
  rw[join_cons2]
  have h1:=h x (by simp)
  have h2:=join_len (y::l) fun z hz=>h z (List.mem_cons_of_mem _ hz)
  simp only[List.length_append,List.length_cons,List.length_nil,Nat.add_mul] at *
  omega
theorem keyT_len {σ:List Int} (hv:∀x ∈ σ,-1000000000≤x∧x≤1000000000):(keyT σ).length≤σ.length*23:=by
 have:=join_len (n:=21) (σ.map regT) fun x hx=>by
  obtain⟨y,hy,rfl⟩:=List.mem_map.1 hx
  have:=itoa_len (hv y hy).1 (hv y hy).2
  simp only[regT,List.length_append,List.length_cons,List.length_nil]
  omega
 simpa[keyT] using this
def kapV {m:Nat} (n:NdK m):Value:=.agg #[.int .i64 (n.1.1:Nat),.string (keyB n.1.2)]
theorem laid_out:laidOutB Tryz.prog=true:=by kernel_rfl
theorem pair_keyed:Keyed Tryz.prog 176:=Keyed.of_law (deep_law_laid laid_out (m:=3) (by omega) (by decide+kernel) (by kernel_rfl) (by kernel_rfl))
theorem types_size:∃m,Tryz.prog.types.size=m+1+1:=⟨Tryz.prog.types.size - 2,by kernel_rfl⟩
theorem kap_ok {m:Nat} (n:NdK m):∃l,keyOf Tryz.prog 176 (kapV n)=some l:=by
 obtain⟨⟨p,σ⟩,hp,hl,hm,hv⟩:=n
 have hsz:(keyB σ).size≤maxLen:=by
  have:=keyT_len hv
  simp only at hl this
  show(keyT σ).toArray.size≤_
  simp only[List.size_toArray]
  unfold maxLen
  omega
 have hw:(Lit.int .i64 (p:Int)).wf=true:=by
  have hp:p < 4096:=hp
  unfold Lit.wf
  simp[IntKind.min,IntKind.max,IntKind.bits,IntKind.signed]
  omega
 obtain⟨k,hk⟩:=types_size
 have h1:Tryz.prog.keyType 176=true:=by kernel_rfl
 have h2:(kapV ⟨(p,σ),hp,hl,hm,hv⟩:Value).formed Tryz.prog 176=true:=by kernel_rfl
 have h3:Tryz.prog.cellsOf 176=2:=by kernel_rfl
 have h4:Tryz.prog.cellsOf 3=1:=by kernel_rfl
 have h5:Tryz.prog.cellsOf 9=1:=by kernel_rfl
 unfold keyOf
 rw[Tryz.underlying176]
 simp only
 rw[if_pos (by rw[h1,h2];rfl),hk]
 simp[Program.keyLits,Tryz.underlying176,Tryz.underlying3,Tryz.underlying9,h3,h4,h5,kapV,Value.cells,hw,hsz]
theorem kap_inj {m:Nat} {x y:NdK m} (h:kapV x=kapV y):x=y:=by
 obtain⟨⟨p,σ⟩,hx⟩:=x
 obtain⟨⟨q,τ⟩,hy⟩:=y
 simp only[kapV,Value.agg.injEq,Array.mk.injEq,List.cons.injEq,Value.int.injEq,Value.string.injEq,true_and,and_true] at h
 obtain⟨h1,h2⟩:=h
 have e1:p=q:=by omega
 have e2:σ=τ:=keyB_inj (by rw[hx.2.1,hy.2.1]) h2
 subst e1 e2
 rfl
theorem kap (m:Nat):KeyV Tryz.prog 176 (kapV (m:=m)):=⟨kap_inj,pair_keyed,kap_ok⟩
