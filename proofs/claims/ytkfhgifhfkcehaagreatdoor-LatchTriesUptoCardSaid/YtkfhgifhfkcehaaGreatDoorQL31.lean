/- Parts of the proof, merged by program out of 5 texts (SeP, SeK, SeM, SeA, SeB): the first: The search among orders of transactions, as plain lists. Conditions: those of each theorem, as typed. -/
import Derived.Test.YtkfhgifhfkcehaaGreatDoorQL23
import Derived.Lib.ItoaNum
import Derived.Lib.Join
import Derived.Test.YtkfhgifhfkcehaaGreatDoorQL30
import Derived.Test.YtkfhgifhfkcehaaGreatDoorChecked
import Derived.Test.YtkfhgifhfkcehaaGreatDoorQL28
set_option linter.unusedVariables false
set_option linter.unusedSimpArgs false
set_option linter.unusedSectionVars false
set_option maxRecDepth 100000
set_option maxHeartbeats 4000000
namespace Go.Proofs.YtkfhgifhfkcehaaGreatDoor
open Go.Lib Go.MapKept Go.Maps Go.RowKit
structure Gm where
 lev:Int
 txs:List St
 masks:List Nat
abbrev Nd:=Nat×List Int
structure Tn where
 id:Int
 com:Bool
 dest:Nd
def Gm.may (g:Gm) (p i:Nat):Bool:=!p.testBit i&&(g.masks.getD i 0&&&p==g.masks.getD i 0)
def Gm.turns1 (g:Gm) (n:Nd) (i:Nat) (t:St):List Tn:=
 if g.may n.1 i then
  (if (t.status=3∨t.status=2) then match rep n.2 t.deeds with
   |some τ=>[⟨t.id,true,(n.1|||2 ^ i,τ)⟩]
   |none=>[]
  else[])++
  (if t.status≠3∧(g.lev≠3∨(rep n.2 t.deeds).isSome=true) then[⟨t.id,false,(n.1|||2 ^ i,n.2)⟩] else[])
 else[]
def Gm.turnsK (g:Gm) (n:Nd) (k:Nat):List Tn:=(List.range k).flatMap fun i=>match g.txs[i]? with
 |some t=>g.turns1 n i t
 |none=>[]
def Gm.turns (g:Gm) (n:Nd):List Tn:=g.turnsK n g.txs.length
def Gm.all (g:Gm):Nat:=2 ^ g.txs.length - 1
inductive Gm.Ends (g:Gm):Nd→Prop
 |all {n:Nd} (h:n.1=g.all):Gm.Ends g n
 |step {n:Nd} {t:Tn} (ht:t ∈ g.turns n) (h:Gm.Ends g t.dest):Gm.Ends g n
def Gm.rank (g:Gm) (n:Nd):Nat:=(List.range g.txs.length).countP fun i=>n.1.testBit i
structure NdOk (g:Gm) (m:Nat) (n:Nd):Prop where
 bits:n.1 < 2 ^ g.txs.length
 len:n.2.length=m
 val:∀x ∈ n.2,-1000000000≤x∧x≤1000000000
section
variable {g:Gm} {n n':Nd} {t:Tn}
theorem turns_mem:t ∈ g.turns n↔∃(i:Nat) (s:St),g.txs[i]?=some s∧t ∈ g.turns1 n i s:=by
 unfold Gm.turns Gm.turnsK
 simp only[List.mem_flatMap,List.mem_range]
 constructor
 ·rintro ⟨i,hi,h⟩
  rw[List.getElem?_eq_getElem hi] at h
  exact⟨i,_,List.getElem?_eq_getElem hi,h⟩
 ·rintro ⟨i,s,hs,h⟩
  refine⟨i,(List.getElem?_eq_some_iff.1 hs).1,?_⟩
  rw[hs];exact h
theorem turns1_mem {i:Nat} {s:St} (h:t ∈ g.turns1 n i s):g.may n.1 i=true∧t.dest.1=n.1|||2 ^ i∧(t.dest.2=n.2∨rep n.2 s.deeds=some t.dest.2):=by
 unfold Gm.turns1 at h
 split at h
 ·rename_i hm
  refine⟨hm,?_⟩
  rcases List.mem_append.1 h with h|h
  ·split at h
   ·split at h
    ·rename_i τ hr
     simp only[List.mem_singleton] at h
     subst h
     exact⟨rfl,.inr hr⟩
    ·cases h
   ·cases h
  ·split at h
   ·simp only[List.mem_singleton] at h
    subst h
    exact⟨rfl,.inl rfl⟩
   ·cases h
 ·cases h
theorem countP_bit {p q i:Nat} (hp:p.testBit i=false) (hq:∀j,q.testBit j=(p.testBit j||decide (i=j))):∀N,(List.range N).countP (fun j=>q.testBit j)=(List.range N).countP (fun j=>p.testBit j)+if i < N then 1 else 0
 |0=>by simp
 |N+1=>by
  rw[List.range_succ,List.countP_append,List.countP_append,countP_bit hp hq N]
  simp only[List.countP_singleton,hq]
  by_cases h1:i < N
  ·have h2:i≠N:=by omega
   simp[h1,h2,show i < N+1 by omega];omega
  ·by_cases h2:i=N
   ·subst h2;simp[hp]
   ·simp [h1,h2,show ¬i < N+1 by omega]
theorem turn_rank (h:t ∈ g.turns n):g.rank t.dest=g.rank n+1:=by
 obtain⟨i,s,hs,h⟩:=turns_mem.1 h
 obtain⟨h1,h2,-⟩:=turns1_mem h
 have hi:=(List.getElem?_eq_some_iff.1 hs).1
 unfold Gm.may at h1
 simp only[Bool.and_eq_true,Bool.not_eq_true'] at h1
 unfold Gm.rank
 rw[countP_bit (i:=i) h1.1 (q:=t.dest.1) (fun j=>by rw[h2,Nat.testBit_or,Nat.testBit_two_pow]) _,if_pos hi]
theorem turn_ok {m:Nat} (hn:NdOk g m n) (hd:∀s ∈ g.txs,∀d ∈ s.deeds,-1000000000≤d.val∧d.val≤1000000000) (h:t ∈ g.turns n):NdOk g m t.dest:=by
 obtain⟨i,s,hs,h⟩:=turns_mem.1 h
 obtain⟨h1,h2,h3⟩:=turns1_mem h
 have hi:=(List.getElem?_eq_some_iff.1 hs).1
 refine⟨?_,?_,?_⟩
 ·rw [h2]
  exact Nat.or_lt_two_pow hn.bits (Nat.pow_lt_pow_right (by omega) hi)
 ·rcases h3 with h3|h3
  ·rw [h3];exact hn.len
  ·rw [rep_len h3];exact hn.len
 ·rcases h3 with h3|h3
  ·rw [h3];exact hn.val
  ·exact rep_val (fun d hd'=>hd s (List.mem_of_getElem? hs) d hd') hn.val h3
structure Bfs (g:Gm) (m:Nat) (n0:Nd) (ord:List Nd) (q:Nat):Prop where
 hd:ord[0]?=some n0
 qle:q≤ord.length
 nd:ord.Nodup
 ok:∀n ∈ ord,NdOk g m n
 srt:ord.Pairwise fun a b=>g.rank a≤g.rank b
 cl:∀(j:Nat) (n:Nd),j < q→ord[j]?=some n→∀t ∈ g.turns n,t.dest ∈ ord
 near:∀c,ord[q]?=some c→∀n ∈ ord,g.rank n≤g.rank c+1
structure Bmd (g:Gm) (m:Nat) (n0:Nd) (ord:List Nd) (q k:Nat) (c:Nd):Prop where
 hd:ord[0]?=some n0
 cur:ord[q]?=some c
 nd:ord.Nodup
 ok:∀n ∈ ord,NdOk g m n
 srt:ord.Pairwise fun a b=>g.rank a≤g.rank b
 cl:∀(j:Nat) (n:Nd),j < q→ord[j]?=some n→∀t ∈ g.turns n,t.dest ∈ ord
 near:∀n ∈ ord,g.rank n≤g.rank c+1
 here:∀(j:Nat) (t:Tn),j < k→(g.turns c)[j]?=some t→t.dest ∈ ord
variable {m q k:Nat} {n0 c:Nd} {ord:List Nd}
theorem Bfs.start (h:NdOk g m n0):Bfs g m n0 [n0] 0:=by
 refine⟨rfl,by simp,by simp,by simpa using h,by simp,fun j n hj=>by omega,fun c hc n hn=>?_⟩
 simp only[List.getElem?_cons_zero,Option.some.injEq] at hc
 simp only[List.mem_singleton] at hn
 subst hc hn
 omega
theorem Bfs.take (h:Bfs g m n0 ord q) (hc:ord[q]?=some c):Bmd g m n0 ord q 0 c:=⟨h.hd,hc,h.nd,h.ok,h.srt,h.cl,h.near c hc,fun j t hj=>by omega⟩
theorem Bmd.old (h:Bmd g m n0 ord q k c) {t:Tn} (ht:(g.turns c)[k]?=some t) (ho:t.dest ∈ ord):Bmd g m n0 ord q (k+1) c:=by
 refine⟨h.hd,h.cur,h.nd,h.ok,h.srt,h.cl,h.near,fun j u hj hu=>?_⟩
 by_cases e:j=k
 ·subst e
  rw[ht] at hu
  obtain rfl:=Option.some.inj hu
  exact ho
 ·exact h.here j u (by omega) hu
theorem Bmd.put (h:Bmd g m n0 ord q k c) (hd:∀s ∈ g.txs,∀d ∈ s.deeds,-1000000000≤d.val∧d.val≤1000000000) {t:Tn} (ht:(g.turns c)[k]?=some t) (ho:t.dest ∉ ord):Bmd g m n0 (ord++[t.dest]) q (k+1) c:=by
 have hr:=turn_rank (List.mem_of_getElem? ht)
 have hok:=turn_ok (h.ok c (List.mem_of_getElem? h.cur)) hd (List.mem_of_getElem? ht)
 have hql:=(List.getElem?_eq_some_iff.1 h.cur).1
 refine⟨?_,?_,?_,fun n hn=>?_,?_,fun j n hj hn u hu=>?_,fun n hn=>?_,fun j u hj hu=>?_⟩
 ·rw [List.getElem?_append_left (by omega)];exact h.hd
 ·rw [List.getElem?_append_left hql];exact h.cur
 ·refine List.nodup_append.2 ⟨h.nd,by simp,fun a ha b hb=>?_⟩
  simp only[List.mem_singleton] at hb
  rintro rfl
  subst hb
  exact ho ha
 ·rcases List.mem_append.1 hn with hn|hn
  ·exact h.ok n hn
  ·simp only[List.mem_singleton] at hn;subst hn;exact hok
 ·refine List.pairwise_append.2 ⟨h.srt,by simp,fun a ha b hb=>?_⟩
  simp only[List.mem_singleton] at hb
  subst hb
  have:=h.near a ha
  omega
 ·rw [List.getElem?_append_left (by omega)] at hn
  exact List.mem_append_left _ (h.cl j n hj hn u hu)
 ·rcases List.mem_append.1 hn with hn|hn
  ·exact h.near n hn
  ·simp only[List.mem_singleton] at hn;subst hn;omega
 ·by_cases e:j=k
  ·subst e
   rw[ht] at hu
   obtain rfl:=Option.some.inj hu
   simp
  ·exact List.mem_append_left _ (h.here j u (by omega) hu)
theorem Bmd.done (h:Bmd g m n0 ord q k c) (hk:(g.turns c).length≤k):Bfs g m n0 ord (q+1):=by
 have hql:=(List.getElem?_eq_some_iff.1 h.cur).1
 refine⟨h.hd,by omega,h.nd,h.ok,h.srt,fun j n hj hn t ht=>?_,fun d hd n hn=>?_⟩
 ·by_cases e:j=q
  ·subst e
   rw[h.cur] at hn
   obtain rfl:=Option.some.inj hn
   obtain⟨i,hi⟩:=List.mem_iff_getElem?.1 ht
   exact h.here i t (by have:=(List.getElem?_eq_some_iff.1 hi).1;omega) hi
  ·exact h.cl j n (by omega) hn t ht
 ·have h1:=h.near n hn
  have h2:g.rank c≤g.rank d:=by
   have hl2:=(List.getElem?_eq_some_iff.1 hd).1
   have e1:c=ord[q]:=(Option.some.inj ((List.getElem?_eq_getElem hql).symm.trans h.cur)).symm
   have e2:d=ord[q+1]:=(Option.some.inj ((List.getElem?_eq_getElem hl2).symm.trans hd)).symm
   rw[e1,e2]
   exact List.pairwise_iff_getElem.1 h.srt q (q+1) hql hl2 (by omega)
  omega
theorem Bfs.later (h:Bfs g m n0 ord ord.length) {i:Nat} (hi:ord[i]?=some n) (ht:t ∈ g.turns n):∃j,i < j∧ord[j]?=some t.dest:=by
 have hil:=(List.getElem?_eq_some_iff.1 hi).1
 obtain⟨j,hj⟩:=List.mem_iff_getElem?.1 (h.cl i n hil hi t ht)
 refine⟨j,?_,hj⟩
 have hjl:=(List.getElem?_eq_some_iff.1 hj).1
 rcases Nat.lt_trichotomy i j with h1|h1|h1
 ·exact h1
 ·exfalso
  subst h1
  rw[hi] at hj
  have:=turn_rank ht
  rw[←Option.some.inj hj] at this
  omega
 ·exfalso
  have e1:n=ord[i]:=(Option.some.inj ((List.getElem?_eq_getElem hil).symm.trans hi)).symm
  have e2:t.dest=ord[j]:=(Option.some.inj ((List.getElem?_eq_getElem hjl).symm.trans hj)).symm
  have:=List.pairwise_iff_getElem.1 h.srt j i hjl hil h1
  rw[←e1,←e2,turn_rank ht] at this
  omega
theorem Bfs.size (h:Bfs g m n0 ord q) {i:Nat} (hi:ord[i]?=some n):NdOk g m n:=h.ok n (List.mem_of_getElem? hi)
theorem ends_suf (dl:Int→List Dd) (hdl:∀s ∈ g.txs,dl s.id=s.deeds) (hlev:g.lev=3∨g.lev≠3):
  ∀(suf:List (Int×Bool)) (p:Nat) (σ τ:List Int),p < 2 ^ g.txs.length→(∀(i:Nat) (s:St),g.txs[i]?=some s→(p.testBit i=true↔s.id ∉ suf.map (·.1)))→(suf.map (·.1)).Nodup→
   (∀x ∈ suf,∃(i:Nat) (s:St),g.txs[i]?=some s∧s.id=x.1∧(x.2=true→s.status=3∨s.status=2)∧(x.2=false→s.status≠3))→
   (∀(a b:List (Int×Bool)) (x:Int×Bool) (i:Nat) (s:St),suf=a++x::b→g.txs[i]?=some s→s.id=x.1→∀j,(g.masks.getD i 0).testBit j=true→∃u,g.txs[j]?=some u∧u.id ∉ (x::b).map (·.1))→
   playO dl (decide (g.lev=3)) σ suf=some τ→(∀(i j:Nat) (s u:St),g.txs[i]?=some s→g.txs[j]?=some u→s.id=u.id→i=j)→g.Ends (p,σ)
 |[],p,σ,τ,hp,hb,_,_,_,_,_=>by
  refine .all ?_
  unfold Gm.all
  apply Nat.eq_of_testBit_eq
  intro i
  show p.testBit i=_
  rw[Nat.testBit_two_pow_sub_one]
  by_cases hi:i < g.txs.length
  ·rw [decide_eq_true hi]
   exact(hb i _ (List.getElem?_eq_getElem hi)).2 (by simp)
  ·rw [decide_eq_false hi]
   exact Nat.testBit_lt_two_pow (Nat.lt_of_lt_of_le hp (Nat.pow_le_pow_right (by omega) (by omega)))
 |x::suf,p,σ,τ,hp,hb,hn,hx,hm,hpl,hu=>by
  obtain⟨i,s,hs,hid,hc1,hc2⟩:=hx x (List.mem_cons_self ..)
  have hi:=(List.getElem?_eq_some_iff.1 hs).1
  rw[List.map_cons,List.nodup_cons] at hn
  have hbi:p.testBit i=false:=by
   cases h:p.testBit i with
   |false=>rfl
   |true=>exact absurd (by rw[hid];exact List.mem_cons_self ..) ((hb i s hs).1 h)
  have hmask:g.masks.getD i 0&&&p=g.masks.getD i 0:=by
   apply Nat.eq_of_testBit_eq
   intro j
   rw[Nat.testBit_and]
   cases h:(g.masks.getD i 0).testBit j with
   |false=>rfl
   |true=>
    obtain⟨u,hu1,hu2⟩:=hm [] suf x i s rfl hs hid j h
    rw[(hb j u hu1).2 hu2];rfl
  have hmay:g.may p i=true:=by
   unfold Gm.may
   rw[hbi,hmask];simp
  have next:∀ρ,playO dl (decide (g.lev=3)) ρ suf=some τ→g.Ends (p|||2 ^ i,ρ):=fun ρ hρ=>by
   refine ends_suf dl hdl hlev suf (p|||2 ^ i) ρ τ (Nat.or_lt_two_pow hp (Nat.pow_lt_pow_right (by omega) hi)) (fun j u hj=>?_) hn.2 (fun y hy=>hx y (List.mem_cons_of_mem _ hy)) (fun a b y k u e=>hm (x::a) b y k u (by rw[e];rfl)) hρ hu
   rw[Nat.testBit_or,Nat.testBit_two_pow]
   by_cases e:i=j
   ·subst e
    rw[hs] at hj
    obtain rfl:=Option.some.inj hj
    simp only[decide_true,Bool.or_true,true_iff]
    rw[hid];exact hn.1
   ·simp only[e,decide_false,Bool.or_false]
    rw[hb j u hj]
    have:u.id≠x.1:=fun h=>e (hu i j s u hs hj (hid.trans h.symm))
    simp only[List.map_cons,List.mem_cons,this,false_or]
  simp only[playO] at hpl
  cases hst:stepO dl (decide (g.lev=3)) σ x with
  |none=>rw[hst] at hpl;cases hpl
  |some ρ=>
   rw[hst] at hpl
   simp only at hpl
   have hE:=next ρ hpl
   have hdx:dl x.1=s.deeds:=by rw[←hid];exact hdl s (List.mem_of_getElem? hs)
   unfold stepO at hst
   rw[hdx] at hst
   cases hxc:x.2 with
   |true=>
    rw[hxc] at hst
    rw[if_neg (by simp)] at hst
    cases hr:rep σ s.deeds with
    |none=>rw[hr] at hst;cases hst
    |some y=>
     rw[hr] at hst
     simp only[if_true,Option.some.injEq] at hst
     subst hst
     refine .step (t:=⟨s.id,true,(p|||2 ^ i,y)⟩) (turns_mem.2 ⟨i,s,hs,?_⟩) hE
     unfold Gm.turns1
     rw[if_pos hmay,if_pos (hc1 hxc),hr]
     exact List.mem_append_left _ (by simp)
   |false=>
    rw[hxc] at hst
    have hne:=hc2 hxc
    have key:(g.lev≠3∨(rep σ s.deeds).isSome=true)∧ρ=σ:=by
     by_cases h3:g.lev=3
     ·rw [if_neg (by simp[h3])] at hst
      cases hr:rep σ s.deeds with
      |none=>rw[hr] at hst;cases hst
      |some y=>
       rw[hr] at hst
       simp at hst
       exact⟨.inr rfl,hst.symm⟩
     ·rw [if_pos (by simp[h3])] at hst
      cases hst
      exact⟨.inl h3,rfl⟩
    obtain⟨k1,rfl⟩:=key
    refine .step (t:=⟨s.id,false,(p|||2 ^ i,ρ)⟩) (turns_mem.2 ⟨i,s,hs,?_⟩) hE
    unfold Gm.turns1
    rw[if_pos hmay]
    exact List.mem_append_right _ (by rw[if_pos ⟨hne,k1⟩];simp)
end
def regT (x:Int):List UInt8:=[114,101,103,105,115,116,101,114,32]++itoa x
def keyT (σ:List Int):List UInt8:=join (σ.map regT) [59,32]
def NdK (m:Nat):Type:={n:Nd // n.1 < 4096∧n.2.length=m∧m≤8∧∀x ∈ n.2,-1000000000≤x∧x≤1000000000}
def keyB (σ:List Int):ByteArray:=⟨(keyT σ).toArray⟩
def kapV {m:Nat} (n:NdK m):Value:=.agg #[.int .i64 (n.1.1:Nat),.string (keyB n.1.2)]
section
attribute [local irreducible] wpL
def paC {m:Nat} (n:NdK m):List Value:=[.int .i64 (n.1.1:Nat),.string (keyB n.1.2)]
structure NR where
 p:Nat
 sv:Value
def NR.cells (r:NR):List Value:=[.int .i64 (r.p:Nat),r.sv]
theorem NR.len (r:NR):r.cells.length=2:=rfl
abbrev NR.val (r:NR):Value:=.agg #[.int .i64 (r.p:Nat),r.sv]
def NodeIs (w:World) (r:NR) (n:Nd):Prop:=r.p=n.1∧OwnS w 0 r.sv n.2
theorem NodeIs.below {w w':World} {r:NR} {n:Nd} (h:NodeIs w r n) (hb:Below w.heap.size w w'):NodeIs w' r n:=⟨h.1,OwnF.below h.2 hb⟩
theorem NodeIs.kd {w w':World} {r:NR} {n:Nd} {T:TypeId→Prop} (h:NodeIs w r n) (hk:Kd T w w') (ht:¬T 99):NodeIs w' r n:=⟨h.1,OwnF.kd h.2 hk ht⟩
theorem NodeIs.slv {w:World} {r:NR} {n:Nd} (h:NodeIs w r n):∃a c,r.sv=.slice a n.2.length c:=let ⟨a,c,e,_⟩:=(OwnF.sl h.2).ex;⟨a,c,e⟩
structure SetAt (m:Nat) (w:World) (B bS bm:Nat) (most:Nat) (cv:Value) (L:List (NdK m)):Prop where
 row:w.heap[bS]?=some (.cells #[.int .i64 (most:Nat),.map (some bm),cv] 262 (0,0))
 map:∃M:NdK m→Option Value,RawV kapV w bm M∧(∀k,(M k).isSome=true↔k ∈ L)∧∀k u,M k=some u→∃n:Int,u=.int .i64 n
 came:OwnF paC 176 2 w B cv L
 hB:B≤bS∧B≤bm
section
variable {m B bS bm most:Nat} {cv:Value} {L:List (NdK m)} {w w':World}
theorem SetAt.below (h:SetAt m w B bS bm most cv L) (hb:Below w.heap.size w w'):SetAt m w' B bS bm most cv L:=by
 obtain⟨h1,⟨M,h2,h3⟩,h4,h5⟩:=h
 exact⟨row_below h1 hb (row_lt h1),⟨M,h2.below hb h2.lt,h3⟩,OwnF.below h4 hb,h5⟩
end
end
section
attribute [local irreducible] wpL
structure Fr (S:Nat→Prop) (w w':World):Prop where
 base:Below 0 w w'
 blk:∀k,k < w.heap.size→¬S k→w'.heap[k]?=w.heap[k]?
section
variable {S S':Nat→Prop} {w w1 w':World}
theorem Fr.refl (w:World):Fr S w w:=⟨Below.refl _ _,fun _ _ _=>rfl⟩
theorem Fr.trans (h:Fr S w w1) (k:Fr S' w1 w') (hS:∀b,b < w.heap.size→S' b→S b):Fr S w w':=
 ⟨h.base.trans k.base,fun b hb hn=>(k.blk b (Nat.lt_of_lt_of_le hb h.base.size) fun e=>hn (hS b hb e)).trans (h.blk b hb hn)⟩
theorem Fr.below (h:Below w.heap.size w w'):Fr S w w':=⟨h.mono (Nat.zero_le _),fun k hk _=>h.block k hk⟩
theorem Fr.grw {v v':Value} (h:Grw w w' v v'):Fr (fun k=>v.ownBlock=some k) w w':=
 ⟨⟨h.grown.os,h.grown.tape,h.grown.output,h.grown.size,fun _ hk=>absurd hk (Nat.not_lt_zero _)⟩,fun k hk hn=>h.grown.block k hk fun e=>hn e.symm⟩
theorem Fr.drew (h:Fr S w w'):Fr S w w'.drew:=⟨h.base.drew,h.blk⟩
theorem Fr.mono (h:Fr S w w') (hS:∀k,k < w.heap.size→S k→S' k):Fr S' w w':=⟨h.base,fun k hk hn=>h.blk k hk fun e=>hn (hS k hk e)⟩
theorem Fr.row {g:Nat} {O:Obj} (h:Fr S w w') (hr:w.heap[g]?=some O) (hg:¬S g):w'.heap[g]?=some O:=(h.blk g (Array.getElem?_eq_some_iff.1 hr).1 hg).trans hr
theorem Fr.kd {T:TypeId→Prop} (h:Fr S w w') (hS:∀k cs t fz,S k→w.heap[k]?=some (.cells cs t fz)→T t):Kd T w w':=fun k cs t fz hk ht=>h.row hk fun e=>ht (hS k cs t fz e hk)
theorem OwnF.fr {α:Type} {f:α→List Value} {e:TypeId} {sz B:Nat} {v:Value} {l:List α} (h:OwnF f e sz w B v l) (hk:Fr S w w') (hn:∀k,v.ownBlock=some k→¬S k):OwnF f e sz w' B v l:=by
 obtain⟨h1,h2⟩:=h
 refine⟨h1,?_⟩
 rcases h2 with h2|⟨g,cap,cur,rfl,hg,hh,r⟩
 ·exact .inl h2
 ·exact .inr ⟨g,cap,cur,rfl,hg,hk.row hh (hn g rfl),r⟩
end
structure QueueAt (w:World) (B bQ:Nat) (qv:Value) (rows:List NR) (n:Nat):Prop where
 row:w.heap[bQ]?=some (.cells #[qv,.int .i64 n] 179 (0,0))
 own:OwnF NR.cells 181 2 w B qv rows
 le:n≤rows.length
 hB:B≤bQ
def QS (bQ:Nat) (qv:Value) (k:Nat):Prop:=k=bQ∨qv.ownBlock=some k
theorem QueueAt.fr {S:Nat→Prop} {w w':World} {B bQ n:Nat} {qv:Value} {rows:List NR} (h:QueueAt w B bQ qv rows n) (hk:Fr S w w') (hn:∀k,QS bQ qv k→¬S k):QueueAt w' B bQ qv rows n:=
 ⟨hk.row h.row (hn _ (.inl rfl)),OwnF.fr h.own hk fun k e=>hn k (.inr e),h.le,h.hB⟩
end
