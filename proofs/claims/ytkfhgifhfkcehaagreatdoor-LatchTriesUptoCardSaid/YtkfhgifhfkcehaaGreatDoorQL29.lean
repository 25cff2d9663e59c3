/- Parts of the proof, merged by program out of 1 texts (OrA): the first: Orders of transactions, played on registers: plain lists. Conditions: those of each theorem, as typed. -/
import Derived.Test.YtkfhgifhfkcehaaGreatDoorQL26
import Derived.Test.YtkfhgifhfkcehaaGreatDoorQL23
set_option linter.unusedVariables false
set_option linter.unusedSimpArgs false
set_option linter.unusedSectionVars false
set_option maxRecDepth 100000
set_option maxHeartbeats 4000000
namespace Go.Proofs.YtkfhgifhfkcehaaGreatDoor
def Rl (A:Au) (p q:Int×Bool):Prop:=∀a ∈ A,∀b ∈ A,a.id=p.1→b.id=q.1→¬(0≤b.fin∧b.fin < a.beg)
def deedsOf (A:Au) (x:Int):List Dd:=match A.find? (fun s=>s.id==x) with
 |some s=>s.deeds
 |none=>[]
section
variable {A:Au} {n:Nat}
theorem find_id (hn:(A.map (·.id)).Nodup) {s:St} (hs:s ∈ A):A.find? (fun u=>u.id==s.id)=some s:=by
 cases hf:A.find? (fun u=>u.id==s.id) with
 |none=>
  have:=List.find?_eq_none.1 hf s hs
  simp at this
 |some u=>
  have h1:=List.find?_some hf
  have h2:=List.mem_of_find?_eq_some hf
  rw[ids_unique hn h2 hs (by simpa using h1)]
theorem deedsOf_id (hn:(A.map (·.id)).Nodup) {s:St} (hs:s ∈ A):deedsOf A s.id=s.deeds:=by unfold deedsOf;rw[find_id hn hs]
theorem deedsOf_set (hn:(A.map (·.id)).Nodup) {k:Nat} {s s':St} (hs:A[k]?=some s) (he:s'.id=s.id) (x:Int):deedsOf (A.set k s') x=if x=s.id then s'.deeds else deedsOf A x:=by
 have hn':((A.set k s').map (·.id)).Nodup:=by rw[ids_set hs he];exact hn
 split
 ·rename_i e
  rw[e,←he,deedsOf_id hn' (mem_set_self hs)]
 ·rename_i e
  cases hf:A.find? (fun u=>u.id==x) with
  |some u=>
   have h1:u.id=x:=by simpa using List.find?_some hf
   have h2:=List.mem_of_find?_eq_some hf
   have h3:u ∈ A.set k s':=set_mem hs h2 (by rw[h1];exact e)
   rw[←h1,deedsOf_id hn' h3,deedsOf_id hn h2]
  |none=>
   have h1:(A.set k s').find? (fun u=>u.id==x)=none:=by
    rw[List.find?_eq_none]
    intro u hu
    rcases mem_set hs hu hn with rfl|⟨hu,-⟩
    ·rw [he];simpa using fun h=>e h.symm
    ·exact List.find?_eq_none.1 hf u hu
   unfold deedsOf
   rw[hf,h1]
theorem deedsOf_app {s:St} (x:Int) (h:¬hasId s.id A):deedsOf (A++[s]) x=if x=s.id then s.deeds else deedsOf A x:=by
 unfold deedsOf
 rw[List.find?_append]
 cases hf:A.find? (fun u=>u.id==x) with
 |some u=>
  have h1:u.id=x:=by simpa using List.find?_some hf
  have h2:=List.mem_of_find?_eq_some hf
  rw[if_neg (by rintro rfl;exact h ⟨u,h2,h1⟩)]
  rfl
 |none=>
  by_cases e:x=s.id
  ·rw [if_pos e,e];simp
  ·rw [if_neg e]
   have:(s.id==x)=false:=by simpa using fun h=>e h.symm
   simp[this]
structure OrdOk (A:Au) (n:Nat) (ord:List (Int×Bool)):Prop where
 perm:(ord.map (·.1)).Perm (A.map (·.id))
 rt:ord.Pairwise (Rl A)
 tm:∀s ∈ A,s.beg < n∧s.fin < n
variable {ord:List (Int×Bool)}
theorem OrdOk.nodup (h:OrdOk A n ord) (hn:(A.map (·.id)).Nodup):(ord.map (·.1)).Nodup:=h.perm.nodup_iff.2 hn
theorem OrdOk.has (h:OrdOk A n ord) {s:St} (hs:s ∈ A):∃c,(s.id,c) ∈ ord:=by
 have:=h.perm.mem_iff.2 (List.mem_map_of_mem (f:=fun s:St=>s.id) hs)
 obtain⟨p,hp,he⟩:=List.mem_map.1 this
 exact⟨p.2,by rw[←he];exact hp⟩
theorem OrdOk.mem (h:OrdOk A n ord) {p:Int×Bool} (hp:p ∈ ord):∃s ∈ A,s.id=p.1:=by
 have:=h.perm.mem_iff.1 (List.mem_map_of_mem (f:=fun q:Int×Bool=>q.1) hp)
 exact List.mem_map.1 this
theorem OrdOk.begun (h:OrdOk A n ord) {s:St} (hb:s.beg=n) (hf:s.fin=-1) (hno:¬hasId s.id A):OrdOk (A++[s]) (n+1) (ord++[(s.id,false)]):=by
 refine⟨?_,?_,fun x hx=>?_⟩
 ·rw [List.map_append,List.map_append]
  exact h.perm.append (List.Perm.refl _)
 ·refine List.pairwise_append.2 ⟨?_,by simp,fun p hp q hq=>?_⟩
  ·refine h.rt.imp_of_mem fun {p q} hp hq hr a ha b hb' ea eb=>?_
   have one:∀(z:St) (y:Int×Bool),y ∈ ord→z ∈ A++[s]→z.id=y.1→z ∈ A:=fun z y hy hz hzy=>by
    rcases List.mem_append.1 hz with hz|hz
    ·exact hz
    ·exfalso
     obtain rfl:z=s:=by simpa using hz
     obtain⟨u,hu,hui⟩:=h.mem hy
     exact hno ⟨u,hu,hui.trans hzy.symm⟩
   exact hr a (one a p hp ha ea) b (one b q hq hb' eb) ea eb
  ·intro a ha b hb' ea eb
   obtain rfl:q=(s.id,false):=by simpa using hq
   rcases List.mem_append.1 hb' with hb'|hb'
   ·exact absurd ⟨b,hb',eb⟩ hno
   ·obtain rfl:b=s:=by simpa using hb'
    omega
 ·rcases List.mem_append.1 hx with hx|hx
  ·have:=h.tm x hx;omega
  ·obtain rfl:x=s:=by simpa using hx
   omega
theorem Rl.set (hn:(A.map (·.id)).Nodup) (htm:∀s ∈ A,s.beg < n∧s.fin < n) {k:Nat} {s s':St} (hs:A[k]?=some s) (he:s'.id=s.id) (hb:s'.beg=s.beg) (hf:s'.fin=s.fin∨s'.fin=n) {p q:Int×Bool} (h:Rl A p q):Rl (A.set k s') p q:=by
 intro a ha b hb' ea eb
 have hsA:=List.mem_of_getElem? hs
 have hbeg:∃a0 ∈ A,a0.id=a.id∧a0.beg=a.beg:=by
  rcases mem_set hs ha hn with rfl|⟨ha,-⟩
  ·exact ⟨s,hsA,he.symm,hb.symm⟩
  ·exact ⟨a,ha,rfl,rfl⟩
 obtain⟨a0,ha0,e1,e2⟩:=hbeg
 have hlt:=(htm a0 ha0).1
 rcases mem_set hs hb' hn with rfl|⟨hb',-⟩
 ·rcases hf with hf|hf
  ·have:=h a0 ha0 s hsA (e1.trans ea) (he.symm.trans eb)
   rw[hf,←e2];exact this
  ·rw [hf,←e2];omega
 ·have:=h a0 ha0 b hb' (e1.trans ea) eb
  rw[←e2];exact this
theorem OrdOk.stays (h:OrdOk A n ord) (hn:(A.map (·.id)).Nodup) {k:Nat} {s s':St} (hs:A[k]?=some s) (he:s'.id=s.id) (hb:s'.beg=s.beg) (hf:s'.fin=s.fin∨s'.fin=n):OrdOk (A.set k s') (n+1) ord:=by
 refine⟨by rw[ids_set hs he];exact h.perm,h.rt.imp fun hr=>hr.set hn h.tm hs he hb hf,fun x hx=>?_⟩
 rcases mem_set hs hx hn with rfl|⟨hx,-⟩
 ·have:=h.tm s (List.mem_of_getElem? hs)
  omega
 ·have:=h.tm x hx;omega
theorem OrdOk.ends (h:OrdOk A n ord) (hn:(A.map (·.id)).Nodup) {k:Nat} {s s':St} (hs:A[k]?=some s) (he:s'.id=s.id) (hb:s'.beg=s.beg) (hf:s'.fin < 0) (hf0:s'.fin=s.fin) (c:Bool):OrdOk (A.set k s') (n+1) (toEnd s.id c ord):=by
 have h1:=h.stays hn hs he hb (.inl hf0)
 obtain⟨b,hbm⟩:=h.has (List.mem_of_getElem? hs)
 refine⟨(perm_toEnd hbm (h.nodup hn)).trans h1.perm,?_,h1.tm⟩
 unfold toEnd
 refine List.pairwise_append.2 ⟨h1.rt.sublist List.filter_sublist,by simp,fun p hp q hq=>?_⟩
 obtain rfl:q=(s.id,c):=by simpa using hq
 intro a ha b hb' ea eb
 rcases mem_set hs hb' hn with rfl|⟨hb',hne⟩
 ·omega
 ·exact absurd eb hne
theorem OrdOk.zero:OrdOk [] 0 []:=⟨.refl _,.nil,fun s hs=>(nomatch hs)⟩
end
theorem dd_snoc {l:List Dd} {d:Dd} (h:l.getLast?=some d):l=l.dropLast++[d]:=by
 obtain⟨ys,rfl⟩:=List.getLast?_eq_some_iff.1 h
 simp
theorem JInv.fresh {P:Pg} {S:Wst} {A:Au} (h:JInv P S A) {i:Nat} {t:Th} (ht:S.ths[i]?=some t) (hb:t.begun=false) (h3:t.tx < 3):¬hasId (idOf i t.tx) A:=by
 have lt3:∀(j:Nat) (u:Th) (l:Nat),S.ths[j]?=some u→(l < u.tx∨l=u.tx∧u.begun=true)→l < 3:=fun j u l hu hl=>by
  have:=h.bt j u hu
  rcases hl with h1|⟨h1,h2⟩
  ·omega
  ·have:=this.2 h2;omega
 rintro⟨s,hs,he⟩
 obtain⟨j,u,l,hu,hl,-,hc⟩:=h.all s hs
 have hl3:=lt3 j u l hu (hc.imp (fun h=>h.1) fun h=>⟨h.1,h.2.1⟩)
 obtain⟨rfl,rfl⟩:=idOf_inj h3 hl3 (he.symm.trans hl)
 rw[ht] at hu
 obtain rfl:=Option.some.inj hu
 rcases hc with⟨h1,-⟩|⟨-,h2,-⟩
 ·omega
 ·rw [hb] at h2;cases h2
structure DdOk (m:Nat) (d:Dd):Prop where
 obj:0≤d.obj∧d.obj < m
 op:d.op=1∧d.val=0∨d.op=2∧-1000000000≤d.val∧d.val≤1000000000
 key:d.key=0
 ret:d.ret=0∨fitsR d.op d.ret
 got:-1000000000≤d.got∧d.got≤1000000000
 got0:d.ret≠3→d.got=0
structure TxOk (m:Nat) (s:St):Prop where
 deeds:∀d ∈ s.deeds,DdOk m d
 last:s.stand=2→∃d,s.deeds.getLast?=some d∧d.ret=0
 status:(s.tri < 0→s.status=1∨s.status=4)∧(0≤s.tri→s.stand=3∧s.status=2∨s.stand=5∧(s.status=3∨s.status=4))
 stand:s.stand=1∨s.stand=2∨s.stand=3∨s.stand=4∨s.stand=5
 fin:s.stand≠5→s.fin=-1
 st3:s.stand=3↔s.status=2
theorem fed_txs {m:Nat}:∀{l:List Ev} {A:Au},Fed l A→(∀e ∈ l,EvOk m e)→∀s ∈ A,TxOk m s:=by
 intro l A h
 induction h with
 |nil=>intro _ s hs;cases hs
 |@snoc l A A' e h hf ih=>
  intro he
  have ih:=ih fun x hx=>he x (List.mem_append_left _ hx)
  have hev:=(he e (by simp)).form
  cases hf with
  |begin hk hi hb=>
   intro s hs
   rcases List.mem_append.1 hs with hs|hs
   ·exact ih s hs
   ·obtain rfl:s=newSt e l.length:=by simpa using hs
    exact⟨fun d hd=>(nomatch hd),fun h=>by simp[newSt] at h,⟨fun _=>.inl rfl,fun h=>by simp[newSt] at h⟩,.inl rfl,fun _=>rfl,by simp[newSt]⟩
  |move k s s' hk hs hi hm=>
   intro x hx
   obtain⟨j,hj⟩:=List.mem_iff_getElem?.1 hx
   rcases get_set hj with⟨-,rfl⟩|⟨-,hj⟩
   ·have hS:=ih s (List.mem_of_getElem? hs)
    obtain⟨h1,h2,⟨h3,h3'⟩,h4,h5,h6⟩:=hS
    rcases hev with⟨i,-,-,he⟩|⟨c,hc,-,he⟩|⟨c,v,hc,-,hv,hv',he⟩|he|⟨v,hv,hv',he⟩|⟨q,hq,he⟩
    ·rw [he] at hk;simp at hk
    ·have k1:e.kind=2:=by rw[he]
     have k2:e.obj=c:=by rw[he]
     have k3:e.op=1:=by rw[he]
     have k4:e.key=0:=by rw[he]
     have k5:e.val=0:=by rw[he]
     unfold moveSt at hm
     rw[if_pos k1] at hm
     by_cases hst:s.stand=1
     ·rw [if_pos hst] at hm
      cases hm
      refine⟨fun d hd=>?_,fun _=>⟨newDd e l.length,by simp,rfl⟩,⟨h3,fun h=>?_⟩,.inr (.inl rfl),fun _=>h5 (by omega),?_⟩
      ·simp only[List.mem_append,List.mem_singleton] at hd
       rcases hd with hd|rfl
       ·exact h1 d hd
       ·refine ⟨?_,?_,k4,.inl rfl,⟨by show(-1000000000:Int)≤0;omega,by show(0:Int)≤1000000000;omega⟩,fun _=>rfl⟩
        ·show 0≤e.obj∧e.obj < m
         omega
        ·show e.op=1∧e.val=0∨e.op=2∧-1000000000≤e.val∧e.val≤1000000000
         omega
      ·rcases h3' h with h|h <;> omega
      ·show (2:Int)=3↔s.status=2
       constructor
       ·intro h;omega
       ·intro h;have:=h6.2 h;omega
     ·rw [if_neg hst] at hm;cases hm
    ·have k1:e.kind=2:=by rw[he]
     have k2:e.obj=c:=by rw[he]
     have k3:e.op=2:=by rw[he]
     have k4:e.key=0:=by rw[he]
     have k5:e.val=v:=by rw[he]
     unfold moveSt at hm
     rw[if_pos k1] at hm
     by_cases hst:s.stand=1
     ·rw [if_pos hst] at hm
      cases hm
      refine⟨fun d hd=>?_,fun _=>⟨newDd e l.length,by simp,rfl⟩,⟨h3,fun h=>?_⟩,.inr (.inl rfl),fun _=>h5 (by omega),?_⟩
      ·simp only[List.mem_append,List.mem_singleton] at hd
       rcases hd with hd|rfl
       ·exact h1 d hd
       ·refine ⟨?_,?_,k4,.inl rfl,⟨by show(-1000000000:Int)≤0;omega,by show(0:Int)≤1000000000;omega⟩,fun _=>rfl⟩
        ·show 0≤e.obj∧e.obj < m
         omega
        ·show e.op=1∧e.val=0∨e.op=2∧-1000000000≤e.val∧e.val≤1000000000
         omega
      ·rcases h3' h with h|h <;> omega
      ·show (2:Int)=3↔s.status=2
       constructor
       ·intro h;omega
       ·intro h;have:=h6.2 h;omega
     ·rw [if_neg hst] at hm;cases hm
    ·have k1:e.kind=3:=by rw[he]
     have k2:e.ret=1:=by rw[he]
     have k3:e.val=0:=by rw[he]
     unfold moveSt at hm
     rw[if_neg (by omega),if_pos k1] at hm
     by_cases hst:s.stand=2
     ·rw [if_pos hst] at hm
      obtain⟨d,hd,hd0⟩:=h2 hst
      rw[hd] at hm
      simp only at hm
      by_cases hf:fitsR d.op e.ret
      ·rw [if_pos hf] at hm
       cases hm
       have hdO:=h1 d (List.mem_of_getLast? hd)
       refine⟨fun y hy=>?_,fun h=>by simp at h,⟨h3,fun h=>?_⟩,.inl rfl,fun _=>h5 (by omega),?_⟩
       ·simp only[List.mem_append,List.mem_singleton] at hy
        rcases hy with hy|rfl
        ·exact h1 y ((List.dropLast_sublist _).subset hy)
        ·refine ⟨hdO.obj,hdO.op,hdO.key,.inr hf,?_,fun hr=>?_⟩
         ·show -1000000000≤e.val∧e.val≤1000000000
          omega
         ·have hr:e.ret≠3:=hr
          show e.val=0
          omega
       ·rcases h3' h with h|h <;> omega
       ·show (1:Int)=3↔s.status=2
        constructor
        ·intro h;omega
        ·intro h;have:=h6.2 h;omega
      ·rw [if_neg hf] at hm;cases hm
     ·rw [if_neg hst] at hm;cases hm
    ·have k1:e.kind=3:=by rw[he]
     have k2:e.ret=3:=by rw[he]
     have k3:e.val=v:=by rw[he]
     unfold moveSt at hm
     rw[if_neg (by omega),if_pos k1] at hm
     by_cases hst:s.stand=2
     ·rw [if_pos hst] at hm
      obtain⟨d,hd,hd0⟩:=h2 hst
      rw[hd] at hm
      simp only at hm
      by_cases hf:fitsR d.op e.ret
      ·rw [if_pos hf] at hm
       cases hm
       have hdO:=h1 d (List.mem_of_getLast? hd)
       refine⟨fun y hy=>?_,fun h=>by simp at h,⟨h3,fun h=>?_⟩,.inl rfl,fun _=>h5 (by omega),?_⟩
       ·simp only[List.mem_append,List.mem_singleton] at hy
        rcases hy with hy|rfl
        ·exact h1 y ((List.dropLast_sublist _).subset hy)
        ·refine ⟨hdO.obj,hdO.op,hdO.key,.inr hf,?_,fun hr=>?_⟩
         ·show -1000000000≤e.val∧e.val≤1000000000
          omega
         ·have hr:e.ret≠3:=hr
          show e.val=0
          omega
       ·rcases h3' h with h|h <;> omega
       ·show (1:Int)=3↔s.status=2
        constructor
        ·intro h;omega
        ·intro h;have:=h6.2 h;omega
      ·rw [if_neg hf] at hm;cases hm
     ·rw [if_neg hst] at hm;cases hm
    ·have k1:e.kind=q:=by rw[he]
     unfold moveSt at hm
     rcases hq with rfl|rfl|rfl|rfl
     ·rw [if_neg (by omega),if_neg (by omega),if_pos k1] at hm
      by_cases hst:s.stand=1
      ·rw [if_pos hst] at hm
       cases hm
       exact⟨h1,fun h=>by simp at h,⟨fun h=>absurd h (by show ¬((l.length:Int) < 0);omega),fun _=>.inl ⟨rfl,rfl⟩⟩,.inr (.inr (.inl rfl)),fun _=>h5 (by omega),⟨fun _=>rfl,fun _=>rfl⟩⟩
      ·rw [if_neg hst] at hm;cases hm
     ·rw [if_neg (by omega),if_neg (by omega),if_neg (by omega),if_pos k1] at hm
      by_cases hst:s.stand=3
      ·rw [if_pos hst] at hm
       cases hm
       refine⟨h1,fun h=>by simp at h,⟨fun h=>?_,fun _=>.inr ⟨rfl,.inl rfl⟩⟩,.inr (.inr (.inr (.inr rfl))),fun h=>absurd rfl h,?_⟩
       ·have:=h6.1 hst
        rcases h3 h with h|h <;> omega
       ·show (5:Int)=3↔(3:Int)=2
        omega
      ·rw [if_neg hst] at hm;cases hm
     ·rw [if_neg (by omega),if_neg (by omega),if_neg (by omega),if_neg (by omega),if_pos k1] at hm
      by_cases hst:s.stand=1∨s.stand=2∨s.stand=3∨s.stand=4
      ·rw [if_pos hst] at hm
       cases hm
       refine⟨h1,fun h=>by simp at h,⟨fun h=>.inr rfl,fun _=>.inr ⟨rfl,.inr rfl⟩⟩,.inr (.inr (.inr (.inr rfl))),fun h=>absurd rfl h,?_⟩
       show(5:Int)=3↔(4:Int)=2
       omega
      ·rw [if_neg hst] at hm;cases hm
     ·rw [if_neg (by omega),if_neg (by omega),if_neg (by omega),if_neg (by omega),if_neg (by omega),if_pos k1] at hm
      by_cases hst:s.stand=1
      ·rw [if_pos hst] at hm
       cases hm
       refine⟨h1,fun h=>by simp at h,⟨h3,fun h=>?_⟩,.inr (.inr (.inr (.inl rfl))),fun _=>h5 (by omega),?_⟩
       ·rcases h3' h with h|h <;> omega
       ·show (4:Int)=3↔s.status=2
        constructor
        ·intro h;omega
        ·intro h;have:=h6.2 h;omega
      ·rw [if_neg hst] at hm;cases hm
   ·exact ih x (List.mem_of_getElem? hj)
theorem moveSt_keeps {n:Nat} {e:Ev} {s s':St} (h:moveSt n e s=some s'):s'.id=s.id∧s'.beg=s.beg∧s'.thread=s.thread∧(s'.fin=s.fin∨s'.fin=n):=by
 unfold moveSt at h
 split at h
 ·split at h
  ·cases h;exact⟨rfl,rfl,rfl,.inl rfl⟩
  ·cases h
 ·split at h
  ·split at h
   ·split at h
    ·split at h
     ·cases h;exact⟨rfl,rfl,rfl,.inl rfl⟩
     ·cases h
    ·cases h
   ·cases h
  ·split at h
   ·split at h
    ·cases h;exact⟨rfl,rfl,rfl,.inl rfl⟩
    ·cases h
   ·split at h
    ·split at h
     ·cases h;exact⟨rfl,rfl,rfl,.inr rfl⟩
     ·cases h
    ·split at h
     ·split at h
      ·cases h;exact⟨rfl,rfl,rfl,.inr rfl⟩
      ·cases h
     ·split at h
      ·split at h
       ·cases h;exact⟨rfl,rfl,rfl,.inl rfl⟩
       ·cases h
      ·cases h
theorem fed_times:∀{l:List Ev} {A:Au},Fed l A→∀s ∈ A,0≤s.beg∧s.beg < l.length∧(s.fin=-1∨s.beg < s.fin∧s.fin < l.length):=by
 intro l A h
 induction h with
 |nil=>intro s hs;cases hs
 |@snoc l A A' e h hf ih=>
  have hl:(l++[e]).length=l.length+1:=by simp
  rw[hl]
  cases hf with
  |begin hk hi hb=>
   intro s hs
   rcases List.mem_append.1 hs with hs|hs
   ·have:=ih s hs;omega
   ·obtain rfl:s=newSt e l.length:=by simpa using hs
    exact⟨by show(0:Int)≤(l.length:Int);omega,by show(l.length:Int) < _;omega,.inl rfl⟩
  |move k s s' hk hs hi hm=>
   intro x hx
   obtain⟨j,hj⟩:=List.mem_iff_getElem?.1 hx
   rcases get_set hj with⟨-,rfl⟩|⟨-,hj⟩
   ·have:=ih s (List.mem_of_getElem? hs)
    obtain⟨-,h2,-,h3⟩:=moveSt_keeps hm
    omega
   ·have:=ih x (List.mem_of_getElem? hj);omega
theorem OrdOk.put {A:Au} {n:Nat} {ord:List (Int×Bool)} (h:OrdOk A n ord) (hn:(A.map (·.id)).Nodup) {s:St} (hs:s ∈ A) (hf:s.fin < 0) (c:Bool):OrdOk A n (toEnd s.id c ord):=by
 obtain⟨b,hbm⟩:=h.has hs
 refine⟨(perm_toEnd hbm (h.nodup hn)).trans h.perm,?_,h.tm⟩
 unfold toEnd
 refine List.pairwise_append.2 ⟨h.rt.sublist List.filter_sublist,by simp,fun p hp q hq=>?_⟩
 obtain rfl:q=(s.id,c):=by simpa using hq
 intro a ha b hb' ea eb
 have:=ids_unique hn hb' hs eb
 subst this
 omega
