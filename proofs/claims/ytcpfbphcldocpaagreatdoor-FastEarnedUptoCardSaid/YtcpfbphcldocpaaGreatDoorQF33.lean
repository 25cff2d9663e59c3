/- Parts of the proof, merged by program out of 3 texts (FtQ, FtP, FsG): the first: What is known of the deeds of a well-formed history's table; the premise of its prefixes. Conditions: those of each theorem, as typed. -/
import Derived.Test.YtcpfbphcldocpaaGreatDoorQF32
import Derived.Test.YtcpfbphcldocpaaGreatDoorQF17
import Derived.Test.YtcpfbphcldocpaaGreatDoorQF31
import Derived.Test.YtcpfbphcldocpaaGreatDoorQF29
import Derived.OwnWalkIn
import Derived.Test.YtcpfbphcldocpaaGreatDoorQF27
set_option linter.unusedVariables false
set_option linter.unusedSimpArgs false
set_option linter.unusedSectionVars false
set_option maxRecDepth 100000
set_option maxHeartbeats 4000000
namespace Go.Proofs.YtcpfbphcldocpaaGreatDoor
open Go.Maps Go.RowKit
theorem dI_val9 {x:Int} (h:-1000000000≤x∧x≤1000000000):dI x:=by
 unfold dI Lit.wf
 simp[IntKind.min,IntKind.max,IntKind.bits,IntKind.signed]
 omega
structure DdG (os:List Ob) (d:Dd):Prop where
 obj:0≤d.obj
 kind:∃o,os[d.obj.toNat]?=some o∧ofOp d.op=o.kind
 val:-1000000000≤d.val∧d.val≤1000000000
 got:-1000000000≤d.got∧d.got≤1000000000
 ret:d.ret=0∨fitsB d.op d.ret=true
structure StG (os:List Ob) (s:St):Prop where
 id:1≤s.id∧s.id≤1000
 dd:∀d ∈ s.deeds,DdG os d
section
variable {os:List Ob} {es:List Ev} {A A':Au} {x e:Ev} {n:Nat}
theorem DdG.lt {d:Dd} (h:DdG os d):d.obj < os.length:=by
 obtain⟨o,ho,-⟩:=h.kind
 have h1:=(List.getElem?_eq_some_iff.1 ho).1
 have:=h.obj
 omega
theorem bd_of {L:List Fd} {f:Fd} (h:L.all (inBd x)=true) (hf:f ∈ L):f.lo≤fldAt x (offG f)∧fldAt x (offG f)≤f.hi:=by
 have:=List.all_eq_true.1 h f hf
 unfold inBd at this
 simpa using this
theorem off_tx:offG fdTx=1:=by decide+kernel
theorem off_ob:offG fdOb=3:=by decide+kernel
theorem off_va:offG fdVa=6:=by decide+kernel
theorem val_bd {L:List Fd} (ha:L.all (inBd x)=true) (hz:zeroB x L=true) (h:fdVa ∈ L∨6 ∉ L.map offG):-1000000000≤x.val∧x.val≤1000000000:=by
 rcases h with h|h
 ·have:=bd_of ha h
  rw[off_va] at this
  exact this
 ·have:=zeroB_iff.1 hz 6 (by omega)
  unfold leftAt at this
  rw[if_neg (by simp only[not_or];exact⟨by omega,h⟩)] at this
  have e:x.val=0:=this
  omega
theorem evB_all (h:evB os x=true):(1≤x.tx∧x.tx≤1000)∧(-1000000000≤x.val∧x.val≤1000000000)∧(x.kind=2→0≤x.obj∧∃o,os[x.obj.toNat]?=some o∧ofOp x.op=o.kind):=by
 unfold evB at h
 simp only[Bool.and_eq_true,Bool.or_eq_true] at h
 obtain⟨hv,hk⟩:=h
 unfold validB at hv
 cases hL:listG x with
 |none=>rw[hL] at hv;cases hv
 |some L=>
  rw[hL] at hv
  simp only[Bool.and_eq_true] at hv
  obtain⟨ha,hz⟩:=hv
  unfold listG at hL
  have tx:fdTx ∈ L→1≤x.tx∧x.tx≤1000:=fun h=>by
   have:=bd_of ha h
   rw[off_tx] at this
   exact this
  split at hL
  ·rename_i h2
   split at hL
   ·cases hL
   ·cases hL
    refine⟨tx (by simp[callG]),val_bd ha hz ?_,fun _=>⟨?_,?_⟩⟩
    ·unfold callG
     cases valuedB x.op
     ·right
      cases keyedB x.op <;> decide+kernel
     ·left;simp
    ·have:=bd_of ha (f:=fdOb) (by simp[callG])
     rw[off_ob] at this
     exact this.1
    ·rcases hk with hk|hk
     ·simp [h2] at hk
     ·cases ho:os[x.obj.toNat]? with
      |none=>rw[ho] at hk;cases hk
      |some o=>
       rw[ho] at hk
       exact⟨o,rfl,by simpa using hk⟩
  ·rename_i h2
   split at hL
   ·split at hL
    ·cases hL
     refine⟨tx (by unfold retG;split <;> simp),val_bd ha hz ?_,fun h=>absurd h h2⟩
     unfold retG
     split
     ·left;simp
     ·right;decide+kernel
    ·cases hL
   ·split at hL
    ·cases hL
     refine⟨tx (by unfold fdsOf;split <;> simp),val_bd ha hz ?_,fun h=>absurd h h2⟩
     right
     unfold fdsOf
     split <;> decide+kernel
    ·cases hL
theorem StG.move {s s':St} (h:StG os s) (hx:evB os x=true) (hm:moveG n x s=some s'):StG os s':=by
 obtain⟨h1,h2,h3⟩:=evB_all hx
 rcases moveG_cases hm with⟨hk,-,rfl⟩|⟨-,-,d,hd,hf,rfl⟩|⟨-,-,rfl⟩|⟨-,-,rfl⟩|⟨-,-,rfl⟩|⟨-,-,rfl⟩
 ·refine ⟨h.id,fun d hd=>?_⟩
  rcases List.mem_append.1 hd with hd|hd
  ·exact h.dd d hd
  ·obtain rfl:=List.mem_singleton.1 hd
   obtain⟨h4,h5⟩:=h3 hk
   exact⟨h4,h5,h2,by simp[newDd],.inl rfl⟩
 ·have e1:retSt x.ret x.val n s={s with stand:=1,deeds:=s.deeds.dropLast++[retDd d x.ret x.val n]}:=by unfold retSt;rw[hd]
  rw[e1]
  refine⟨h.id,fun q hq=>?_⟩
  rcases List.mem_append.1 hq with hq|hq
  ·exact h.dd q (List.dropLast_subset _ hq)
  ·obtain rfl:=List.mem_singleton.1 hq
   have:=h.dd d (List.mem_of_getLast? hd)
   exact⟨this.obj,this.kind,this.val,h2,.inr hf⟩
 ·exact ⟨h.id,h.dd⟩
 ·exact ⟨h.id,h.dd⟩
 ·exact ⟨h.id,h.dd⟩
 ·exact ⟨h.id,h.dd⟩
theorem stG_step (h:∀s ∈ A,StG os s) (hx:evB os e=true) (hs:stepG A n e=some A'):∀s ∈ A',StG os s:=by
 rcases stepG_cases hs with⟨-,-,-,rfl⟩|⟨k,s,s',-,hk,-,hm,rfl⟩
 ·intro s hs
  rcases List.mem_append.1 hs with hs|hs
  ·exact h s hs
  ·obtain rfl:=List.mem_singleton.1 hs
   exact⟨(evB_all hx).1,fun d hd=>by cases hd⟩
 ·intro t ht
  rcases List.mem_or_eq_of_mem_set ht with ht|rfl
  ·exact h t ht
  ·exact (h s (List.mem_of_getElem? hk)).move hx hm
theorem stG_run:∀{l:List Ev} {A A':Au} {n:Nat},(∀s ∈ A,StG os s)→(∀e ∈ l,evB os e=true)→runG A n l=some A'→∀s ∈ A',StG os s
 |[],A,A',n,h,_,hr=>by
  simp only[runG,Option.some.injEq] at hr
  exact hr▸h
 |e::l,A,A',n,h,he,hr=>by
  simp only[runG] at hr
  obtain⟨B,hB,hr⟩:=Option.bind_eq_some_iff.1 hr
  exact stG_run (stG_step h (he e (by simp)) hB) (fun q hq=>he q (by simp[hq])) hr
theorem table_parts (h:tableG os es=some A):os.length≤8∧es.length≤400∧(∀e ∈ es,evB os e=true)∧runG [] 0 es=some A:=by
 unfold tableG at h
 split at h
 ·rename_i hh
  unfold histB at hh
  simp only[Bool.and_eq_true,decide_eq_true_eq,List.all_eq_true] at hh
  exact⟨hh.1.1.1,hh.1.1.2,hh.2,h⟩
 ·cases h
theorem table_stG (h:tableG os es=some A):∀s ∈ A,StG os s:=by
 obtain⟨-,-,he,hr⟩:=table_parts h
 exact stG_run (fun s hs=>by cases hs) he hr
theorem table_len (h:tableG os es=some A):A.length≤es.length:=by
 obtain⟨-,-,-,hr⟩:=table_parts h
 have:=runG_bound (m:=0) hr ⟨by simp,fun s hs=>(nomatch hs)⟩
 omega
theorem table_dvOk (h:tableG os es=some A):DvOk os A:=by
 have hG:=table_stG h
 have hb:=tableG_bound A h
 refine⟨(table_parts h).1,hb.1,hb.2,fun s hs=>dI_val9 (by have:=(hG s hs).id;omega),fun s hs d hd=>⟨((hG s hs).dd d hd).obj,((hG s hs).dd d hd).lt⟩,fun s hs d hd=>⟨dI_val9 ((hG s hs).dd d hd).val,dI_val9 ((hG s hs).dd d hd).got⟩⟩
theorem ofOp_one {k:Int}:ofOp k=1→k=1∨k=2:=by
 unfold ofOp
 split
 ·exact fun _=>‹_›
 ·split
  ·intro h;omega
  ·split
   ·intro h;omega
   ·split
    ·intro h;omega
    ·intro h;omega
theorem premO_reg:∀{l:List Dd} {rd:List Int} {wr wr':List (Int×Int)},premO os rd wr l=some wr'→∀d ∈ l,∃o,os[d.obj.toNat]?=some o∧o.kind=1
 |[],_,_,_,_=>fun d hd=>by cases hd
 |d::l,rd,wr,wr',h=>by
  unfold premO at h
  cases ho:os[d.obj.toNat]? with
  |none=>rw[ho] at h;cases h
  |some o=>
   rw[ho] at h
   simp only at h
   split at h
   ·rename_i hk
    have hrest:∀q ∈ l,∃o,os[q.obj.toNat]?=some o∧o.kind=1:=by
     split at h
     ·exact premO_reg h
     ·split at h
      ·exact premO_reg h
      ·cases h
    intro q hq
    rcases List.mem_cons.1 hq with rfl|hq
    ·exact ⟨o,ho,hk⟩
    ·exact hrest q hq
   ·cases h
theorem premA_reg:∀{A:Au} {wr:List (Int×Int)},premA os wr A=true→∀s ∈ A,∀d ∈ s.deeds,∃o,os[d.obj.toNat]?=some o∧o.kind=1
 |[],_,_=>fun s hs=>by cases hs
 |t::A,wr,h=>by
  unfold premA at h
  cases hp:premO os [] wr t.deeds with
  |none=>rw[hp] at h;cases h
  |some wr'=>
   rw[hp] at h
   intro s hs
   rcases List.mem_cons.1 hs with rfl|hs
   ·exact premO_reg hp
   ·exact premA_reg h s hs
theorem prem_regD (h:tableG os es=some A) (hp:premA os [] A=true):RegD A:=fun s hs d hd=>by
 obtain⟨o,ho,hk⟩:=premA_reg hp s hs d hd
 obtain⟨o',ho',hk'⟩:=((table_stG h s hs).dd d hd).kind
 rw[ho] at ho'
 obtain rfl:=Option.some.inj ho'
 exact ofOp_one (hk'.trans hk)
theorem prem_fed (h:tableG os es=some A) (hp:premA os [] A=true):Fed es A:=fed_table h (prem_regD h hp)
theorem prem_ids (h:tableG os es=some A) (hp:premA os [] A=true):(A.map (·.id)).Nodup:=fed_ids (prem_fed h hp)
theorem prem_deeds (h:tableG os es=some A) (hp:premA os [] A=true):∀s ∈ A,DeedsOk s:=fun s hs=>by
 have hr:=prem_regD h hp s hs
 have hF:=prem_fed h hp
 refine⟨hr,fun d hd=>?_,fun j k d e hjk hj hk=>?_⟩
 ·rcases ((table_stG h s hs).dd d hd).ret with e|e
  ·exact .inl e
  ·right
   rcases hr d hd with e1|e1 <;> rw[e1] at e <;> simp[fitsB,valuedB] at e
   ·exact .inr ⟨e1,e⟩
   ·exact .inl ⟨e1,e⟩
 ·have hkl:=(List.getElem?_eq_some_iff.1 hk).1
  refine fed_drop hF s hs d (List.mem_of_getElem? (i:=j) ?_)
  rw[List.getElem?_dropLast,if_pos (by omega)]
  exact hj
theorem premO_mono:∀{l:List Dd} {rd:List Int} {wr wr' wr0:List (Int×Int)},premO os rd wr l=some wr'→(∀p ∈ wr0,p ∈ wr)→∃wr1,premO os rd wr0 l=some wr1∧∀p ∈ wr1,p ∈ wr'
 |[],rd,wr,wr',wr0,h,hs=>by
  simp only[premO,Option.some.injEq] at h
  exact⟨wr0,rfl,h▸hs⟩
 |d::l,rd,wr,wr',wr0,h,hs=>by
  unfold premO at h ⊢
  cases ho:os[d.obj.toNat]? with
  |none=>rw[ho] at h;cases h
  |some o=>
   rw[ho] at h
   simp only at h ⊢
   split at h
   ·rename_i hk
    rw[if_pos hk]
    split at h
    ·rename_i h1
     rw[if_pos h1]
     exact premO_mono h hs
    ·rename_i h1
     rw[if_neg h1]
     split at h
     ·rename_i h2
      rw[if_pos ⟨h2.1,fun q=>h2.2.1 (hs _ q),h2.2.2⟩]
      refine premO_mono h fun p hp=>?_
      rcases List.mem_cons.1 hp with rfl|hp
      ·simp
      ·exact List.mem_cons_of_mem _ (hs p hp)
     ·cases h
   ·cases h
theorem premA_mono:∀{A:Au} {wr wr0:List (Int×Int)},premA os wr A=true→(∀p ∈ wr0,p ∈ wr)→premA os wr0 A=true
 |[],_,_,_,_=>rfl
 |s::A,wr,wr0,h,hs=>by
  unfold premA at h ⊢
  cases hp:premO os [] wr s.deeds with
  |none=>rw[hp] at h;cases h
  |some wr'=>
   rw[hp] at h
   obtain⟨wr1,h1,h2⟩:=premO_mono hp hs
   rw[h1]
   exact premA_mono h h2
def PremLe (os:List Ob) (l l':List Dd):Prop:=∀(rd:List Int) (wr wr':List (Int×Int)),premO os rd wr l'=some wr'→∃wr1,premO os rd wr l=some wr1∧∀p ∈ wr1,p ∈ wr'
theorem PremLe.cons {d:Dd} {l l':List Dd} (h:PremLe os l l'):PremLe os (d::l) (d::l'):=fun rd wr wr' hp=>by
 unfold premO at hp ⊢
 cases ho:os[d.obj.toNat]? with
 |none=>rw[ho] at hp;cases hp
 |some o=>
  rw[ho] at hp
  simp only at hp ⊢
  split at hp
  ·rename_i hk
   rw[if_pos hk]
   split at hp
   ·rename_i h1
    rw[if_pos h1]
    exact h _ _ _ hp
   ·rename_i h1
    rw[if_neg h1]
    split at hp
    ·rename_i h2
     rw[if_pos h2]
     exact h _ _ _ hp
    ·cases hp
  ·cases hp
theorem PremLe.app {l l':List Dd} (h:PremLe os l l'):∀m:List Dd,PremLe os (m++l) (m++l')
 |[]=>h
 |_::m=>(PremLe.app h m).cons
theorem premLe_one (d:Dd):PremLe os [] [d]:=fun rd wr wr' hp=>by
 refine⟨wr,rfl,?_⟩
 exact(premO_wr hp).1
theorem premLe_ret {d d':Dd} (h1:d.obj=d'.obj) (h2:d.op=d'.op) (h3:d.val=d'.val):PremLe os [d] [d']:=fun rd wr wr' hp=>by
 refine⟨wr',?_,fun p hp=>hp⟩
 unfold premO at hp ⊢
 simp only[premO] at hp ⊢
 rw[h1,h2,h3]
 exact hp
theorem premA_set {s s':St} (hd:PremLe os s.deeds s'.deeds):∀{A:Au} {k:Nat} {wr wr0:List (Int×Int)},A[k]?=some s→premA os wr (A.set k s')=true→(∀p ∈ wr0,p ∈ wr)→premA os wr0 A=true
 |[],k,wr,wr0,hk,h,hs=>by cases hk
 |t::A,0,wr,wr0,hk,h,hs=>by
  obtain rfl:t=s:=by simpa using hk
  simp only[List.set_cons_zero] at h
  unfold premA at h ⊢
  cases hp:premO os [] wr s'.deeds with
  |none=>rw[hp] at h;cases h
  |some wr'=>
   rw[hp] at h
   obtain⟨wr1,h1,h2⟩:=hd _ _ _ hp
   obtain⟨wr2,h3,h4⟩:=premO_mono h1 hs
   rw[h3]
   exact premA_mono h fun p hp=>h2 p (h4 p hp)
 |t::A,k+1,wr,wr0,hk,h,hs=>by
  simp only[List.set_cons_succ] at h
  unfold premA at h ⊢
  cases hp:premO os [] wr t.deeds with
  |none=>rw[hp] at h;cases h
  |some wr'=>
   rw[hp] at h
   obtain⟨wr1,h1,h2⟩:=premO_mono hp hs
   rw[h1]
   exact premA_set hd (by simpa using hk) h h2
theorem premA_app:∀{A B:Au} {wr:List (Int×Int)},premA os wr (A++B)=true→premA os wr A=true
 |[],_,_,_=>rfl
 |s::A,B,wr,h=>by
  simp only[List.cons_append] at h
  unfold premA at h ⊢
  cases hp:premO os [] wr s.deeds with
  |none=>rw[hp] at h;cases h
  |some wr'=>
   rw[hp] at h
   exact premA_app h
theorem prem_step (hs:stepG A n e=some A') (h:premA os [] A'=true):premA os [] A=true:=by
 rcases stepG_cases hs with⟨-,-,-,rfl⟩|⟨k,s,s',-,hk,-,hm,rfl⟩
 ·exact premA_app h
 ·refine premA_set ?_ hk h fun p hp=>hp
  have same:s.deeds=s'.deeds→PremLe os s.deeds s'.deeds:=fun e=>by
   rw[←e]
   exact fun rd wr wr' hp=>⟨wr',hp,fun p hp=>hp⟩
  rcases moveG_cases hm with⟨-,-,rfl⟩|⟨-,-,d,hd,-,rfl⟩|⟨-,-,rfl⟩|⟨-,-,rfl⟩|⟨-,-,rfl⟩|⟨-,-,rfl⟩
  ·have:=(premLe_one (os:=os) (newDd e n)).app s.deeds
   rw[List.append_nil] at this
   exact this
  ·have e1:retSt e.ret e.val n s={s with stand:=1,deeds:=s.deeds.dropLast++[retDd d e.ret e.val n]}:=by unfold retSt;rw[hd]
   rw[e1]
   have:=(premLe_ret (os:=os) (d:=d) (d':=retDd d e.ret e.val n) rfl rfl rfl).app s.deeds.dropLast
   rw[←dd_last hd] at this
   exact this
  ·exact same rfl
  ·exact same rfl
  ·exact same rfl
  ·exact same rfl
theorem prem_takes:∀{l m:List Ev} {A:Au},runG [] 0 (m++l)=some A→premA os [] A=true→∃B,runG [] 0 m=some B∧premA os [] B=true
 |[],m,A,h,hp=>⟨A,by simpa using h,hp⟩
 |e::l,m,A,h,hp=>by
  obtain⟨B,h1,h2⟩:=prem_takes (l:=l) (m:=m++[e]) (by simpa using h) hp
  rw[runG_snoc] at h1
  obtain⟨C,h3,h4⟩:=Option.bind_eq_some_iff.1 h1
  exact⟨C,h3,prem_step h4 h2⟩
theorem prem_take (h:tableG os es=some A) (hp:premA os [] A=true) (i:Nat):∃B,tableG os (es.take i)=some B∧premA os [] B=true:=by
 have hh:histB os es=true:=by
  unfold tableG at h
  split at h
  ·assumption
  ·cases h
 obtain⟨-,-,-,hr⟩:=table_parts h
 rw[←List.take_append_drop i es] at hr
 obtain⟨B,h1,h2⟩:=prem_takes hr hp
 refine⟨B,?_,h2⟩
 unfold tableG
 rw[if_pos ?_]
 ·exact h1
 ·unfold histB at hh ⊢
  simp only[Bool.and_eq_true,decide_eq_true_eq,List.all_eq_true] at hh ⊢
  exact⟨⟨⟨hh.1.1.1,by rw[List.length_take];omega⟩,hh.1.2⟩,fun e he=>hh.2 e (List.mem_of_mem_take he)⟩
theorem premR_take (h:premR os (tableG os es)=some A) (i:Nat):∃B,premR os (tableG os (es.take i))=some B:=by
 cases ht:tableG os es with
 |none=>rw[ht] at h;cases h
 |some A0=>
  rw[ht] at h
  unfold premR at h
  simp only at h
  split at h
  ·rename_i hp
   obtain⟨B,h1,h2⟩:=prem_take ht hp i
   refine⟨B,?_⟩
   rw[h1]
   unfold premR
   simp only
   rw[if_pos h2]
  ·cases h
end
section
attribute [local irreducible] wpL
attribute [local go_sem] Oper.semAt_some
theorem infoZ:(Tryz.prog.info? 28).map (fun i=>(i.zero,i.size,i.bytes))=some (some (.slice none 0 0),1,24):=by kernel_rfl
theorem wpListIn_appF {α:Type} {f:α→List Value} {e:TypeId} {sz B:Nat} {v:Value} {l:List α} {F:Fence} {n:Nat} {P:Program} {ops:Array Oper} {rest:List Oper} {o:Oper} {a:Act} {Q:Exit→Act→World→Prop} (hgd:o.guard=none) (s x:Operand) (t:TypeId)
  (ho:o.op=.call {callee:=.builtin .append,args:=#[s,x],argTypes:=#[t,t]})
  (z:Value) (bytes:Nat) (ht:P.underlying t=some (.slice e)) (hinfo:(P.info? e).map (fun i=>(i.zero,i.size,i.bytes))=some (some z,sz,bytes))
  (hzs:z.cells.size=sz) {w0:World} (hown:OwnF f e sz w0 B v l) (y:α) (hbase:B≤w0.heap.size) (hs:a.eval s=v)
  {g0:Nat} (hx:a.eval x=.slice (some ⟨g0,0,none⟩) 1 1) (hg0:g0=w0.heap.size) (hl:(f y).length=sz) (h1:∀u ∈ f y,u.oneCell'=true) (hn:l.length+1≤9223372036854775807) (hby:(l.length+1)*bytes≤140737488355328)
  (hK:∀g cap w',OwnF f e sz w' B (.slice (some ⟨g,0,none⟩) (l.length+1) cap) (l++[y])→Grw w0 w' v (.slice (some ⟨g,0,none⟩) (l.length+1) cap)→wpListIn F n P ops Q rest (a.put o.dst (.slice (some ⟨g,0,none⟩) (l.length+1) cap)) w'):
  wpListIn F n P ops Q (o::rest) a (w0.alloc (.cells (f y).toArray e)):=by
 subst hg0
 obtain⟨i0,hi,hz0,hz1,hz2⟩:=info_parts hinfo
 obtain⟨g,cap,w',hr,hown',hgrow,hg⟩:=run_append1 (P:=P) (w0.alloc (.cells (f y).toArray e)) B t o.type e i0 z sz bytes ht hi hz0 hz1 hz2 hzs v l.length (l.flatMap f) (hown.alloc _) _ 1 1 (by omega) (f y) (by simpa using hl)
  (cells_new_add w0 (f y) e) h1 (by unfold maxLen;omega) hby (by simp;omega)
 refine wpListIn_plain hgd fun K hK'=>?_
 unfold Oper.wpIn
 refine⟨?_,?_⟩
 ·simp [Oper.about,ho,resolve,Target.leads,Sem.run_pure]
 ·rw [Oper.semAt_plain F _ _ (by rw[ho];intro c hc';cases hc')]
  simp[execOp,ho,resolve,invoke,builtin,hs,hx,hr,Result.andThen]
  refine hK' _ _ (hK g cap w' (by simpa[OwnF,List.flatMap_append] using hown') ⟨?_,?_⟩)
  ·exact ⟨hgrow.os,hgrow.tape,hgrow.output,Nat.le_trans (by simp) hgrow.size,fun k hk hne=>(hgrow.block k (by simp;omega) hne).trans (Below.heap_alloc w0 _ k hk)⟩
  ·intro k hk
   simp only[Value.ownBlock,Option.some.injEq] at hk
   subst hk
   rcases hg with hg|hg
   ·right;rw[hg];simp
   ·exact .inl hg
structure HisG (w:World) (ov vv:Value) (os:List Ob) (es:List Ev):Prop where
 ho:Sl w w.heap.size 2 ov os.length (os.flatMap Ob.cells)
 he:Sl w w.heap.size 8 vv es.length (es.flatMap Ev.cells)
 hod:∀o ∈ os,dI o.kind
 hed:∀e ∈ es,dI e.ret
 wd:WordsG w
 er:ErrsF w
 pr:ErrIn w 6
theorem HisG.below {w W:World} {ov vv:Value} {os:List Ob} {es:List Ev} (h:HisG w ov vv os es) (hb:Below w.heap.size w W):HisG W ov vv os es:=
 ⟨(h.ho.below hb).more hb.size,(h.he.below hb).more hb.size,h.hod,h.hed,h.wd.below hb,h.er.below hb,h.pr.below hb⟩
theorem HisG.take {w W:World} {ov vv ov' vv':Value} {os:List Ob} {es:List Ev} (h:HisG w ov vv os es) (hb:Below w.heap.size w W) {i:Nat} (ho:Sl W W.heap.size 2 ov' os.length (os.flatMap Ob.cells)) (he:Sl W W.heap.size 8 vv' (es.take i).length ((es.take i).flatMap Ev.cells)):HisG W ov' vv' os (es.take i):=
 ⟨ho,he,h.hod,fun e hm=>h.hed e (List.mem_of_mem_take hm),h.wd.below hb,h.er.below hb,h.pr.below hb⟩
theorem HisG.toT {w:World} {ov vv:Value} {os:List Ob} {es:List Ev} (h:HisG w ov vv os es):HisT w ov vv os (tableG os es):=by
 obtain⟨a,c,hv,-⟩:=h.he.ex
 obtain⟨hl,t,v,hc⟩:=h.pr
 refine⟨h.ho,⟨a,_,c,hv⟩,fun W hW=>?_,fun A hA=>table_dvOk hA,⟨t,v,hc⟩,hl⟩
 have k:=h.below hW
 have g:=g_Table ov vv os es W k.ho k.he k.hod k.hed k.wd k.er
 refine g.mono ?_
 intro e w' hr
 unfold TableRet at hr
 unfold TabRet
 exact hr
def PreIs (os:List Ob) (es:List Ev) (i:Nat) (a:FAn):Prop:=∃A,premR os (tableG os (es.take i))=some A∧JudgeIs 3 (os.map (·.init)) A a
structure AllI (w:World) (os:List Ob) (es:List Ev) (bv D:Nat) (i:Nat) (A:World):Prop where
 box:∃(lv:Value) (L:List Value),A.heap[bv]?=some (.cells #[.int .i64 1,.slice none 0 0,lv,.int .i64 0,.int .i64 0,.int .i64 0,.slice none 0 0] 32 (0,0))∧OwnF valC 28 1 A bv lv L∧L.length=i∧∀k,lv.ownBlock=some k→k≠D
 r0:A.heap[w.heap.size+1]?=some (.cells #[.int .i64 0,.slice none 0 0,.slice none 0 0,.int .i64 0,.int .i64 0,.int .i64 0,.slice none 0 0] 32 (0,0))
 r1:A.heap[w.heap.size+1+1]?=some (.cells #[.nilIface] 34 (0,0))
 bel:Below w.heap.size w A
 yes:∀j,j < i→∃a,PreIs os es j a∧a.kind=1
structure AllX (w:World) (os:List Ob) (es:List Ev) (D:Nat) (A:World):Prop where
 r0:∃(j:Nat) (a:FAn) (vs vc:Value),j≤es.length∧PreIs os es j a∧a.kind≠1∧A.heap[w.heap.size+1]?=some (.cells #[.int .i64 a.kind,vs,.slice none 0 0,.int .i64 j,.int .i64 a.tx,.int .i64 a.deed,vc] 32 (0,0))∧AnsAt A (D+1) vs vc a
 r1:A.heap[w.heap.size+1+1]?=some (.cells #[.nilIface] 34 (0,0))
 bel:Below w.heap.size w A
def J4Ret (w:World) (os:List Ob) (es:List Ev) (e:Ending) (w':World):Prop:=
 ((∃va,e=.returned (.tuple #[.agg #[.int .i64 1,.slice none 0 0,va,.int .i64 0,.int .i64 0,.int .i64 0,.slice none 0 0],.nilIface])∧(∃a n c,va=.slice a n c)∧∀j,j≤es.length→∃a,PreIs os es j a∧a.kind=1)∨
  ∃(j:Nat) (a:FAn) (vs vc:Value),j≤es.length∧PreIs os es j a∧a.kind≠1∧e=.returned (.tuple #[ansV {a with pre:=j} vs vc,.nilIface])∧AnsAt w' w.heap.size vs vc a)∧Below w.heap.size w w'
abbrev s7 (W:World) (p:Nat) (c0 c1 c2 c3 c4 c5 c6:Value):World:=((((((W.setCell ⟨p,0,none⟩ c0).setCell ⟨p,1,none⟩ c1).setCell ⟨p,2,none⟩ c2).setCell ⟨p,3,none⟩ c3).setCell ⟨p,4,none⟩ c4).setCell ⟨p,5,none⟩ c5).setCell ⟨p,6,none⟩ c6
section
variable {W W0:World} {p k N:Nat} {t:TypeId} {x0 x1 x2 x3 x4 x5 x6 c0 c1 c2 c3 c4 c5 c6:Value}
theorem s7_row (h:W.heap[p]?=some (.cells #[x0,x1,x2,x3,x4,x5,x6] t (0,0))):(s7 W p c0 c1 c2 c3 c4 c5 c6).heap[p]?=some (.cells #[c0,c1,c2,c3,c4,c5,c6] t (0,0)):=by
 simpa using row_set (row_set (row_set (row_set (row_set (row_set (row_set h 0 c0) 1 c1) 2 c2) 3 c3) 4 c4) 5 c5) 6 c6
theorem s7_other (h:k≠p):(s7 W p c0 c1 c2 c3 c4 c5 c6).heap[k]?=W.heap[k]?:=
 (Below.heap_setCell _ _ _ _ h).trans ((Below.heap_setCell _ _ _ _ h).trans ((Below.heap_setCell _ _ _ _ h).trans ((Below.heap_setCell _ _ _ _ h).trans ((Below.heap_setCell _ _ _ _ h).trans ((Below.heap_setCell _ _ _ _ h).trans (Below.heap_setCell _ _ _ _ h))))))
theorem s7_below (h:Below N W0 W) (hp:N≤p):Below N W0 (s7 W p c0 c1 c2 c3 c4 c5 c6):=
 ((((((h.setCell (p:=⟨p,0,none⟩) hp _).setCell (p:=⟨p,1,none⟩) hp _).setCell (p:=⟨p,2,none⟩) hp _).setCell (p:=⟨p,3,none⟩) hp _).setCell (p:=⟨p,4,none⟩) hp _).setCell (p:=⟨p,5,none⟩) hp _).setCell (p:=⟨p,6,none⟩) hp _
end
section
variable {w:World} {ov vv:Value} {os:List Ob} {es:List Ev} {A:Au}
theorem f_Judge4 (h:HisG w ov vv os es) (e:premR os (tableG os es)=some A) (hel:es.length≤200):Calls Tryz.prog 9 #[.agg #[ov,vv],.int .i64 4] w (J4Ret w os es):=by
 obtain⟨ao,co,hov,-⟩:=h.ho.ex
 obtain⟨av,cv,hvv,-⟩:=h.he.ex
 have HH:=hid h
 have HE:=hid e
 have HT:=hid (premR_take e)
 have hol:os.length≤8:=(table_parts (premR_some e).1).1
 have b0:Below w.heap.size w (((w.alloc (.cells #[ov,vv] 25)).alloc (.cells #[.int .i64 0,.slice none 0 0,.slice none 0 0,.int .i64 0,.int .i64 0,.int .i64 0,.slice none 0 0] 32)).alloc (.cells #[.nilIface] 34)):=(((Below.refl _ w).alloc (Nat.le_refl _) _).alloc (by simp) _).alloc (by simp;omega) _
 have z0:(((w.alloc (.cells #[ov,vv] 25)).alloc (.cells #[.int .i64 0,.slice none 0 0,.slice none 0 0,.int .i64 0,.int .i64 0,.int .i64 0,.slice none 0 0] 32)).alloc (.cells #[.nilIface] 34)).heap.size=w.heap.size+3:=by simp
 have r0:=row_old (o:=.cells #[.nilIface] 34) (row_old (o:=.cells #[.int .i64 0,.slice none 0 0,.slice none 0 0,.int .i64 0,.int .i64 0,.int .i64 0,.slice none 0 0] 32) (row_new w (.cells #[ov,vv] 25)))
 have r1:=row_old (o:=.cells #[.nilIface] 34) (row_new (w.alloc (.cells #[ov,vv] 25)) (.cells #[.int .i64 0,.slice none 0 0,.slice none 0 0,.int .i64 0,.int .i64 0,.int .i64 0,.slice none 0 0] 32))
 have r2:=row_new ((w.alloc (.cells #[ov,vv] 25)).alloc (.cells #[.int .i64 0,.slice none 0 0,.slice none 0 0,.int .i64 0,.int .i64 0,.int .i64 0,.slice none 0 0] 32)) (.cells #[.nilIface] 34)
 simp only[World.size_alloc] at r1 r2
 subst hov hvv
 have B0:=hid b0
 have R0:=hid r0
 have R1:=hid r1
 have R2:=hid r2
 have Z0:=hid z0
 clear b0 r0 r1 r2 z0 h e
 refine(callsIn_wide (n:=3+2)).1 ?_
 refine callsIn_of_wp_marks Tryz.func9 rfl trivial ?_ rfl
 simp only[Tryz.ntmps9,List.size_toArray,List.length_cons,List.length_nil,Nat.reduceAdd,Nat.reduceSub,Array.replicate_succ,Array.replicate_zero,List.push_toArray,List.append_toArray,List.nil_append,List.cons_append]
 gi_wp2_with fail
 obtain⟨W,hW0⟩:∃W,W=(((w.alloc (.cells #[.slice ao os.length co,.slice av es.length cv] 25)).alloc (.cells #[.int .i64 0,.slice none 0 0,.slice none 0 0,.int .i64 0,.int .i64 0,.int .i64 0,.slice none 0 0] 32)).alloc (.cells #[.nilIface] 34)):=⟨_,rfl⟩
 rw[←hW0] at B0 R0 R1 R2 Z0 ⊢
 clear hW0
 have PC:=hid (f_Premise (HH.out.below B0.out).toT)
 rw[HE.out] at PC
 refine⟨trivial,(callsIn_wide.2 PC.out).mono ?_⟩
 rintro e w1 ⟨rfl,b1⟩
 have hz1:=b1.size
 have R0:=hid (row_below R0.out b1 (row_lt R0.out))
 have R1:=hid (row_below R1.out b1 (row_lt R1.out))
 have R2:=hid (row_below R2.out b1 (row_lt R2.out))
 have B1:=hid (B0.out.trans (b1.mono B0.out.size))
 have y:=row_cell R0.out
 have y0:=y 0
 have y1:=y 1
 simp at y0 y1
 have yl:=row_lt R0.out
 have ba:Below w1.heap.size w1 (w1.alloc (.cells #[.int .i64 1,.slice none 0 0,.slice none 0 0,.int .i64 0,.int .i64 0,.int .i64 0,.slice none 0 0] 32)):=(Below.refl _ w1).alloc (Nat.le_refl _) _
 have hba:=HH.out.below (B1.out.trans (ba.mono B1.out.size))
 have CP:=hid (c_Prefixes _ _ os es _ hba.ho hba.he (by omega) (by omega))
 have S0:=hid (row_new w1 (.cells #[.int .i64 1,.slice none 0 0,.slice none 0 0,.int .i64 0,.int .i64 0,.int .i64 0,.slice none 0 0] 32))
 have BA:=hid ba
 have hza:(w1.alloc (.cells #[.int .i64 1,.slice none 0 0,.slice none 0 0,.int .i64 0,.int .i64 0,.int .i64 0,.slice none 0 0] 32)).heap.size=w1.heap.size+1:=by simp
 have HZA:=hid hza
 clear y PC b1 ba hba hza
 gi_wp2_with fail
 refine⟨trivial,(callsIn_wide.2 CP.out).mono ?_⟩
 rintro e w2 ⟨rfl,hH,b2⟩
 rw[HZA.out] at hH b2 ⊢
 have hzw:w.heap.size+3≤w1.heap.size:=by have:=Z0.out;omega
 have hz2:w1.heap.size+1≤w2.heap.size:=by have:=b2.size;have:=HZA.out;omega
 have bw:Below w.heap.size w w2:=(B1.out.trans (BA.out.mono B1.out.size)).trans (b2.mono (by omega))
 have S0':=row_below S0.out b2 (by have:=row_lt S0.out;omega)
 have t0':=row_below (row_below R1.out BA.out (row_lt R1.out)) b2 (by have:=row_lt R1.out;omega)
 have t1':=row_below (row_below R2.out BA.out (row_lt R2.out)) b2 (by have:=row_lt R2.out;omega)
 have IT:=hid (c_iter 3 w2 (fun k=>k=w1.heap.size∨k=w.heap.size+1∨k=w.heap.size+1+1) (w1.heap.size+1) (w1.heap.size+1) os es (by omega) (by omega) hH (Nat.le_refl _) (by rintro k (rfl|rfl|rfl) <;> omega))
 have BW:=hid bw
 have hI:∀(q:Nat→Prop) (i:Nat) (A B:World),q=(fun _=>False)→AllI w os es w1.heap.size (w2.heap.size+1) i A→w2.heap.size≤A.heap.size→Below w2.heap.size A B→(∀k,k < A.heap.size→k≠w2.heap.size+1→¬q k→B.heap[k]?=A.heap[k]?)→AllI w os es w1.heap.size (w2.heap.size+1) i B:=by
  rintro q i A B rfl ⟨⟨lv,L,h1,h2,h3,h4⟩,h5,h6,h7,h8⟩ hs hb he
  have ne:∀j,j≤w1.heap.size→j≠w2.heap.size+1:=fun j hj=>by omega
  exact⟨⟨lv,L,(he _ (row_lt h1) (ne _ (Nat.le_refl _)) id).trans h1,OwnF.sameB h2 fun k hk=>he k (OwnF.lt h2 k hk).2 (h4 k hk) id,h3,h4⟩,
   (he _ (row_lt h5) (ne _ (by omega)) id).trans h5,(he _ (row_lt h6) (ne _ (by omega)) id).trans h6,h7.trans (hb.mono (by omega)),h8⟩
 have hIx:∀(q:Nat→Prop) (c:Code) (i:Nat) (A B:World),q=(fun _=>False)→(c=.ret∧AllX w os es (w2.heap.size+1) A)→w2.heap.size≤A.heap.size→Below w2.heap.size A B→(∀k,k < A.heap.size→k≠w2.heap.size+1→¬q k→B.heap[k]?=A.heap[k]?)→c=.ret∧AllX w os es (w2.heap.size+1) B:=by
  rintro q c i A B rfl ⟨rfl,⟨j,a,vs,vc,g1,g2,g3,g4,g5⟩,h6,h7⟩ hs hb he
  have ne:∀j,j≤w1.heap.size→j≠w2.heap.size+1:=fun j hj=>by omega
  exact⟨rfl,⟨j,a,vs,vc,g1,g2,g3,(he _ (row_lt g4) (ne _ (by omega)) id).trans g4,OwnF.sameB g5.1 fun k hk=>he k (OwnF.lt g5.1 k hk).2 (by have:=(OwnF.lt g5.1 k hk).1;omega) id,OwnF.sameB g5.2 fun k hk=>he k (OwnF.lt g5.2 k hk).2 (by have:=(OwnF.lt g5.2 k hk).1;omega) id⟩,
   (he _ (row_lt h6) (ne _ (by omega)) id).trans h6,h7.trans (hb.mono (by omega))⟩
 clear hH b2 bw CP y0 y1 yl S0 BA HZA R0 R1 R2
 gi_wp2_with fail
 refine wpIn_range_ownC (M:=MStep) (L:=Lb w2.heap.size fun k=>k=w1.heap.size∨k=w.heap.size+1∨k=w.heap.size+1+1) (Qs:=fun q=>q=fun _=>False) (G:=fun _=>True) (m:=3) (gf:=69) (N:=es.length+1) (H:=HandX os es) rfl (enters_of Tryz.func69 (by kernel_rfl) rfl) (fun _ h=>h.1) IT.out (fun _ i W hb args h=>by obtain⟨_,_,rfl,-⟩:=h;rfl)
  (fun q i A=>AllI w os es w1.heap.size (w2.heap.size+1) i A) (fun q c i A=>c=.ret∧AllX w os es (w2.heap.size+1) A) hI hIx (fun q i A _ h=>trivial) (fun q _ hq=>⟨⟨.slice none 0 0,[],S0',OwnF.nil _ _,rfl,fun k e=>by cases e⟩,t0',t1',BW.out,fun j hj=>by omega⟩) (fun W hW=>hW) (fun r h=>by obtain⟨_,_,h⟩:=h;cases h) (fun r h=>by obtain⟨_,_,h⟩:=h;cases h) ?_ ?_ ?_
 ·rintro q i W1 hb args hi rfl hIi hq hlo hhi ⟨ov',vv',rfl,o',v'⟩
  clear IT
  obtain⟨a3,c3,rfl⟩:=OwnF.slv o'
  obtain⟨a4,c4,rfl⟩:=OwnF.slv v'
  have hti:(es.take i).length=i:=by rw[List.length_take];omega
  gi_wp2_with fail
  refine⟨(Below.refl _ _).alloc (Nat.le_refl _) _,?_⟩
  intro w3 z3 k3 b3
  have bf:Below w2.heap.size W1 w3:=((Below.refl w2.heap.size W1).alloc (by omega) _).trans b3
  have kf:∀k,k < W1.heap.size→k≠w2.heap.size+1→w3.heap[k]?=W1.heap[k]?:=fun k hk hn=>(k3 k hn).trans (Below.heap_alloc _ _ _ (by omega))
  obtain⟨⟨lv,L,h1,h2,h3,h4⟩,h5,h6,h7,h8⟩:=hI _ i W1 w3 rfl hIi (by omega) bf fun k hk hn _=>kf k hk hn
  have o2:=OwnF.sameB o' fun k hk=>kf k (OwnF.lt o' k hk).2 (by have:=(OwnF.lt o' k hk).1;omega)
  have v2:=OwnF.sameB v' fun k hk=>kf k (OwnF.lt v' k hk).2 (by have:=(OwnF.lt v' k hk).1;omega)
  rw[hti] at v2
  have r9:w3.heap[W1.heap.size]?=some (.cells #[.slice a3 os.length c3,.slice a4 i c4] 25 (0,0)):=(k3 _ (by omega)).trans (row_new W1 _)
  have z9:w3.heap.size=W1.heap.size+1:=z3
  have HGp:HisG w3 (.slice a3 os.length c3) (.slice a4 i c4) os (es.take i):=HH.out.take h7 (OwnF.sl o2) (by rw[hti];have:=OwnF.sl v2;rw[hti] at this;exact this)
  obtain⟨Ai,hAi⟩:=HT.out i
  have hALi:Ai.length≤200:=by have:=table_len (premR_some hAi).1;rw[hti] at this;omega
  have HNDi:=hid (prem_ids (premR_some hAi).1 (premR_some hAi).2)
  have HDi:=hid (table_dvOk (premR_some hAi).1)
  have LC:=hid (f_lookS (lev:=3) HGp.toT hAi)
  have HAi:=hid hAi
  have HGP:=hid HGp
  have H1:=hid h1
  have H2:=hid h2
  have H3:=hid h3
  have H4:=hid h4
  have H5:=hid h5
  have H6:=hid h6
  have H7:=hid h7
  have H8:=hid h8
  have Z9:=hid z9
  have BF:=hid bf
  have KF:=hid kf
  generalize hp9:W1.heap.size=p9 at *
  have y:=row_cell r9
  have y0:=y 0
  have y1:=y 1
  simp at y0 y1
  have yl:=row_lt r9
  clear y h1 h2 h3 h4 h5 h6 h7 h8 z9 z3 k3 b3 bf kf hI hIx hIi o' v' o2 v2 r9 HGp hAi hti
  gi_wp2_with fail
  refine⟨trivial,(callsIn_wide.2 LC.out).mono ?_⟩
  rintro e w4 ⟨pW,bB,ms,lv2,rfl,hF,b4⟩
  have JC:=hid (f_judge hF (HGP.out.below b4).ho ⟨_,_,_,rfl⟩ HDi.out HDi.out.mv hALi HNDi.out (.inr (.inr rfl)) (Nat.le_refl _))
  have hz4:=b4.size
  have B4:=hid b4
  clear hF b4 LC y0 y1
  gi_wp2_with fail
  refine⟨trivial,(callsIn_wide.2 JC.out).mono ?_⟩
  rintro e w5 ⟨a,vs,vc,rfl,hJ,hA,b5⟩
  obtain⟨aS,cS,e1⟩:=OwnF.sli hA.1
  obtain⟨aC,cC,e2⟩:=OwnF.sli hA.2
  subst e1 e2
  have HJ:=hid hJ
  have B5:=hid (B4.out.trans (b5.mono hz4))
  have hz5:=B5.out.size
  have S1:=hid (OwnF.base hA.1 hz4)
  have S2:=hid (OwnF.base hA.2 hz4)
  have hPre:=hid (show PreIs os es i a from⟨Ai,HAi.out,hJ⟩)
  clear hJ hA b5 JC
  unfold ansV
  have hm1:w1.heap.size < w3.heap.size:=by omega
  have RV:=hid (row_below H1.out B5.out hm1)
  have RR:=hid (row_below H5.out B5.out (by omega))
  have RE:=hid (row_below H6.out B5.out (by omega))
  have h35:=B5.out.size
  have OL:=hid (OwnF.below H2.out B5.out)
  obtain⟨al,cl,e4⟩:=OwnF.slv OL.out
  subst e4
  have hLm:L.length≤400:=by have:=H3.out;omega
  by_cases hk:a.kind=1
  ·have hkd:(a.kind !=1)=false:=by simp[hk]
   have HK:=hid hk
   have x2:=row_cell RV.out 2
   simp at x2
   have xl:=row_lt RV.out
   have xf:=row_free RV.out 2
   have oT:=hid (OwnF.alloc OL.out (.cells #[.int .i64 a.kind,.slice aS a.steps.length cS,.slice none 0 0,.int .i64 a.pre,.int .i64 a.tx,.int .i64 a.deed,.slice aC a.cyc.length cC] 32))
   have hbs:w1.heap.size≤(w5.alloc (.cells #[.int .i64 a.kind,.slice aS a.steps.length cS,.slice none 0 0,.int .i64 a.pre,.int .i64 a.tx,.int .i64 a.deed,.slice aC a.cyc.length cC] 32)).heap.size:=by simp;omega
   clear hk
   gi_wp2_with (gi_at_builtin;refine wpListIn_appF rfl _ _ _ rfl _ 24 Tryz.underlying29 infoZ rfl oT.out (.slice aS a.steps.length cS) hbs (by rfl) (by rfl) (by first|rfl|simp) rfl (val_one _) (by omega) (by omega) ?_;refine Stop.halt ?_)
   refine Stop.go ?_
   intro g1 c1 w6 o6 G6
   have rT:=row_old (o:=(.cells #[.int .i64 a.kind,.slice aS a.steps.length cS,.slice none 0 0,.int .i64 a.pre,.int .i64 a.tx,.int .i64 a.deed,.slice aC a.cyc.length cC] 32)) RV.out
   have neV:(Value.slice al L.length cl).ownBlock≠some w1.heap.size:=OwnF.neT oT.out rT (by decide)
   have r4:=row_grw rT G6 neV
   have z2:=row_cell r4 2
   simp at z2
   have zf:=row_free r4 2
   have zl4:=row_lt r4
   have oF:=hid (OwnF.other (j:=2) o6 (OwnF.neT o6 r4 (by decide)) (.slice (some ⟨g1,0,none⟩) (L.length+1) c1))
   have rF:=hid (row_set r4 2 (.slice (some ⟨g1,0,none⟩) (L.length+1) c1))
   have gk:=hid (show ∀(k:Nat) (O:Obj),k≠w1.heap.size→(Value.slice al L.length cl).ownBlock≠some k→w5.heap[k]?=some O→(w6.setCell ⟨w1.heap.size,2,none⟩ (.slice (some ⟨g1,0,none⟩) (L.length+1) c1)).heap[k]?=some O from fun k O hk hn hO=>
    (Below.heap_setCell _ _ _ _ hk).trans ((G6.grown.block k (by have:=row_lt hO;simp;omega) (fun e=>hn e.symm)).trans (row_old hO)))
   have bw5:=(H7.out.trans (B5.out.mono (by have:=H7.out.size;omega)))
   have bF:=hid (((bw5.alloc bw5.size (.cells #[.int .i64 a.kind,.slice aS a.steps.length cS,.slice none 0 0,.int .i64 a.pre,.int .i64 a.tx,.int .i64 a.deed,.slice aC a.cyc.length cC] 32)).trans (G6.below (B:=w.heap.size) (by simp;have:=bw5.size;omega) fun j hj=>by have:=(OwnF.lt oT.out j hj).1;omega)).setCell (p:=⟨w1.heap.size,2,none⟩) (show w.heap.size≤w1.heap.size by omega) (.slice (some ⟨g1,0,none⟩) (L.length+1) c1))
   have b0F:=hid ((((B5.out.mono (Nat.zero_le _)).alloc (Nat.zero_le _) (.cells #[.int .i64 a.kind,.slice aS a.steps.length cS,.slice none 0 0,.int .i64 a.pre,.int .i64 a.tx,.int .i64 a.deed,.slice aC a.cyc.length cC] 32)).trans (G6.below (B:=0) (Nat.zero_le _) fun j hj=>Nat.zero_le _)).setCell (p:=⟨w1.heap.size,2,none⟩) (Nat.zero_le _) (.slice (some ⟨g1,0,none⟩) (L.length+1) c1))
   have nF:=hid (show g1≠w2.heap.size+1 from by
    rcases G6.own g1 rfl with e|e
    ·exact H4.out g1 e
    ·simp at e
     omega)
   have hT5:=hid (show ∀k:Nat,(Value.slice al L.length cl).ownBlock=some k→∃cs,w5.heap[k]?=some (.cells cs 28 (0,0)) from fun k hk=>OwnF.keepObj OL.out k hk)
   clear rT neV o6 G6 r4 bw5 x2 xf
   gi_wp2_with fail
   refine⟨⟨⟨⟨_,_,by simpa using rF.out,oF.out,by simp[H3.out],fun k e=>?_⟩,gk.out _ _ (by omega) (fun e=>?_) RR.out,gk.out _ _ (by omega) (fun e=>?_) RE.out,bF.out,fun j hj=>?_⟩,b0F.out,fun k O hk1 hk2 hO hM=>?_⟩,trivial⟩
   ·cases e;exact nF.out
   ·obtain ⟨cs,h⟩:=hT5.out _ e
    rw[RR.out] at h;cases h
   ·obtain ⟨cs,h⟩:=hT5.out _ e
    rw[RE.out] at h;cases h
   ·by_cases hji:j < i
    ·exact H8.out j hji
    ·obtain rfl:j=i:=by omega
     exact⟨a,hPre.out,HK.out⟩
   ·have hk3:k < w3.heap.size:=row_lt hO
    refine gk.out k O (fun e=>?_) (fun e=>?_) ((B5.out.block k hk3).trans hO)
    ·rcases hk1 with⟨-,h⟩|h
     ·exact h (.inl e)
     ·omega
    ·obtain ⟨cs,h⟩:=hT5.out _ e
     rw[(B5.out.block k hk3).trans hO] at h
     exact hM ⟨_,_,Option.some.inj h⟩
  ·have hkd:(a.kind !=1)=true:=by simp[hk]
   have HK:=hid hk
   have x:=row_cell RR.out
   have x0:=x 0
   have x1:=x 1
   have x2:=x 2
   have x3:=x 3
   have x4:=x 4
   have x5:=x 5
   have x6:=x 6
   have u:=row_cell RE.out 0
   simp at x0 x1 x2 x3 x4 x5 x6 u
   have xl:=row_lt RR.out
   have ul:=row_lt RE.out
   have xf:=fun j=>row_free RR.out j
   have uf:=row_free RE.out 0
   clear hk x
   gi_wp2_with fail
   have bw5:=(H7.out.trans (B5.out.mono (by have:=H7.out.size;omega)))
   have f0:(s7 w5 (w.heap.size+1) (.int .i64 a.kind) (.slice aS a.steps.length cS) (.slice none 0 0) (.int .i64 (i:Int)) (.int .i64 a.tx) (.int .i64 a.deed) (.slice aC a.cyc.length cC)).heap[w.heap.size+1]?=some (.cells #[.int .i64 a.kind,.slice aS a.steps.length cS,.slice none 0 0,.int .i64 (i:Int),.int .i64 a.tx,.int .i64 a.deed,.slice aC a.cyc.length cC] 32 (0,0)):=s7_row RR.out
   obtain⟨X,hX⟩:∃X,X=((s7 w5 (w.heap.size+1) (.int .i64 a.kind) (.slice aS a.steps.length cS) (.slice none 0 0) (.int .i64 (i:Int)) (.int .i64 a.tx) (.int .i64 a.deed) (.slice aC a.cyc.length cC)).setCell ⟨w.heap.size+1+1,0,none⟩ .nilIface).alloc (.cells #[.int .i64 a.kind,.slice aS a.steps.length cS,.slice none 0 0,.int .i64 (i:Int),.int .i64 a.tx,.int .i64 a.deed,.slice aC a.cyc.length cC] 32):=⟨_,rfl⟩
   have g0:X.heap[w.heap.size+1]?=some (.cells #[.int .i64 a.kind,.slice aS a.steps.length cS,.slice none 0 0,.int .i64 (i:Int),.int .i64 a.tx,.int .i64 a.deed,.slice aC a.cyc.length cC] 32 (0,0)):=by
    rw[hX]
    exact row_old ((Below.heap_setCell _ _ _ _ (by show w.heap.size+1≠w.heap.size+1+1;omega)).trans f0)
   have g1:X.heap[w.heap.size+1+1]?=some (.cells #[.nilIface] 34 (0,0)):=by
    rw[hX]
    exact row_old (by simpa using row_set ((s7_other (W:=w5) (p:=w.heap.size+1) (k:=w.heap.size+1+1) (by omega)).trans RE.out) 0 .nilIface)
   have gb:Below w.heap.size w X:=by
    rw[hX]
    have k1:=(s7_below (p:=w.heap.size+1) (c0:=.int .i64 a.kind) (c1:=.slice aS a.steps.length cS) (c2:=.slice none 0 0) (c3:=.int .i64 (i:Int)) (c4:=.int .i64 a.tx) (c5:=.int .i64 a.deed) (c6:=.slice aC a.cyc.length cC) bw5 (Nat.le_succ _)).setCell (p:=⟨w.heap.size+1+1,0,none⟩) (show w.heap.size≤w.heap.size+1+1 by omega) .nilIface
    exact k1.alloc k1.size _
   have gb0:Below 0 w3 X:=by
    rw[hX]
    exact((s7_below (p:=w.heap.size+1) (c0:=.int .i64 a.kind) (c1:=.slice aS a.steps.length cS) (c2:=.slice none 0 0) (c3:=.int .i64 (i:Int)) (c4:=.int .i64 a.tx) (c5:=.int .i64 a.deed) (c6:=.slice aC a.cyc.length cC) (B5.out.mono (Nat.zero_le _)) (Nat.zero_le _)).setCell (p:=⟨w.heap.size+1+1,0,none⟩) (Nat.zero_le _) .nilIface).alloc (Nat.zero_le _) _
   have fo:∀k,k < w5.heap.size→k≠w.heap.size+1→k≠w.heap.size+1+1→X.heap[k]?=w5.heap[k]?:=fun k hk h1 h2=>by
    rw[hX]
    refine(Below.heap_alloc _ _ _ (by simp[s7];exact hk)).trans ((Below.heap_setCell _ _ _ _ h2).trans (s7_other h1))
   have n1:∀(v:Value) (k:Nat),(∀k,v.ownBlock=some k→w3.heap.size≤k∧k < w5.heap.size)→v.ownBlock=some k→X.heap[k]?=w5.heap[k]?:=fun v k hv hk=>fo k (hv k hk).2 (by have:=(hv k hk).1;omega) (by have:=(hv k hk).1;omega)
   have sS:OwnF stpC 87 2 X (w2.heap.size+1+1) (.slice aS a.steps.length cS) a.steps:=OwnF.base (OwnF.sameB S1.out fun k hk=>n1 _ k (OwnF.lt S1.out) hk) (by omega)
   have sC:OwnI X (w2.heap.size+1+1) (.slice aC a.cyc.length cC) a.cyc:=OwnF.base (OwnF.sameB S2.out fun k hk=>n1 _ k (OwnF.lt S2.out) hk) (by omega)
   have hX':=hX
   simp only[s7] at hX'
   rw[←hX']
   clear hX hX' f0
   refine⟨⟨rfl,⟨i,a,_,_,by omega,hPre.out,HK.out,g0,sS,sC⟩,g1,gb⟩,gb0,fun k O hk1 hk2 hO hM=>?_⟩
   have hk3:k < w3.heap.size:=row_lt hO
   refine(fo k (by omega) ?_ ?_).trans ((B5.out.block k hk3).trans hO)
   ·rcases hk1 with⟨-,h⟩|h
    ·exact fun e=>h (.inr (.inl e))
    ·omega
   ·rcases hk1 with⟨-,h⟩|h
    ·exact fun e=>h (.inr (.inr e))
    ·omega
 ·rintro q W3 rfl ⟨⟨lv,L,h1,h2,h3,h4⟩,h5,h6,h7,h8⟩ hz hd
  obtain⟨al,cl,rfl⟩:=OwnF.slv h2
  have y:=row_cell h1
  have y0:=y 0
  have y1:=y 1
  have y2:=y 2
  have y3:=y 3
  have y4:=y 4
  have y5:=y 5
  have y6:=y 6
  simp at y0 y1 y2 y3 y4 y5 y6
  have yl:=row_lt h1
  have x:=row_cell h5
  have x0:=x 0
  have x1:=x 1
  have x2:=x 2
  have x3:=x 3
  have x4:=x 4
  have x5:=x 5
  have x6:=x 6
  have u:=row_cell h6 0
  simp at x0 x1 x2 x3 x4 x5 x6 u
  have xl:=row_lt h5
  have ul:=row_lt h6
  have xf:=fun j=>row_free h5 j
  have uf:=row_free h6 0
  have H5:=hid h5
  have H6:=hid h6
  have H7:=hid h7
  have H8:=hid h8
  have HD:=hid hd
  clear y x h1 h2 h3 h4 h5 h6 h7 h8 hd IT hI hIx
  gi_wp2_with fail
  have f0:=s7_row (c0:=.int .i64 1) (c1:=.slice none 0 0) (c2:=.slice al L.length cl) (c3:=.int .i64 0) (c4:=.int .i64 0) (c5:=.int .i64 0) (c6:=.slice none 0 0) H5.out
  obtain⟨X,hX⟩:∃X,X=(s7 W3 (w.heap.size+1) (.int .i64 1) (.slice none 0 0) (.slice al L.length cl) (.int .i64 0) (.int .i64 0) (.int .i64 0) (.slice none 0 0)).setCell ⟨w.heap.size+1+1,0,none⟩ .nilIface:=⟨_,rfl⟩
  have k1':X.heap[w.heap.size+1]?=some (.cells #[.int .i64 1,.slice none 0 0,.slice al L.length cl,.int .i64 0,.int .i64 0,.int .i64 0,.slice none 0 0] 32 (0,0)):=by
   rw[hX]
   exact(Below.heap_setCell _ _ _ _ (by show w.heap.size+1≠w.heap.size+1+1;omega)).trans f0
  have k2':X.heap[w.heap.size+1+1]?=some (.cells #[.nilIface] 34 (0,0)):=by
   rw[hX]
   simpa using row_set ((s7_other (W:=W3) (p:=w.heap.size+1) (k:=w.heap.size+1+1) (by omega)).trans H6.out) 0 .nilIface
  have bX:Below w.heap.size w X:=by
   rw[hX]
   exact(s7_below H7.out (Nat.le_succ _)).setCell (p:=⟨w.heap.size+1+1,0,none⟩) (show w.heap.size≤w.heap.size+1+1 by omega) .nilIface
  have kd:X.heap[w2.heap.size]?=some (.deferred (some [])):=by
   rw[hX]
   exact((Below.heap_setCell _ _ _ _ (by show w2.heap.size≠w.heap.size+1+1;omega)).trans (s7_other (by omega))).trans HD.out
  have hX':=hX
  simp only[s7] at hX'
  rw[←hX']
  clear hX hX' f0
  refine leaves_mark1 kd fun w' hb' he=>LeavesIn.fin (v:=.tuple #[.agg #[.int .i64 1,.slice none 0 0,.slice al L.length cl,.int .i64 0,.int .i64 0,.int .i64 0,.slice none 0 0],.nilIface]) ?_ ⟨.inl ⟨_,rfl,⟨_,_,_,rfl⟩,fun j hj=>H8.out j (by omega)⟩,bX.trans (hb'.mono (by omega))⟩
  have c:=row_cell ((he _ (by omega)).trans k1')
  have c0:=c 0
  have c1:=c 1
  have c2:=c 2
  have c3:=c 3
  have c4:=c 4
  have c5:=c 5
  have c6:=c 6
  have c7:=row_cell ((he _ (by omega)).trans k2') 0
  simp at c0 c1 c2 c3 c4 c5 c6 c7
  simp[results,Tryz.results9,go_sem,c0,c1,c2,c3,c4,c5,c6,c7]
 ·rintro q c i W3 hi0 hiN rfl ⟨rfl,⟨j,a,vs,vc,q1,q2,q3,q4,q5,q6⟩,h6,h7⟩ hz hd
  obtain⟨aS,cS,e1⟩:=OwnF.sli q5
  obtain⟨aC,cC,e2⟩:=OwnF.sli q6
  subst e1 e2
  clear IT hI hIx
  gi_wp2_with fail
  refine leaves_mark1 hd fun w' hb' he=>LeavesIn.fin (v:=.tuple #[ansV {a with pre:=j} (.slice aS a.steps.length cS) (.slice aC a.cyc.length cC),.nilIface]) ?_ ⟨.inr ⟨j,a,_,_,q1,q2,q3,rfl,OwnF.base (OwnF.sameB q5 fun k hk=>he k (by have:=(OwnF.lt q5 k hk).1;omega)) (by omega),OwnF.base (OwnF.sameB q6 fun k hk=>he k (by have:=(OwnF.lt q6 k hk).1;omega)) (by omega)⟩,h7.trans (hb'.mono (by omega))⟩
  have c:=row_cell ((he _ (by omega)).trans q4)
  have c0:=c 0
  have c1:=c 1
  have c2:=c 2
  have c3:=c 3
  have c4:=c 4
  have c5:=c 5
  have c6:=c 6
  have c7:=row_cell ((he _ (by omega)).trans h6) 0
  simp at c0 c1 c2 c3 c4 c5 c6 c7
  simp[results,Tryz.results9,go_sem,ansV,c0,c1,c2,c3,c4,c5,c6,c7]
end
end
def exRd (x:Int):List Ev:=[⟨2,x,0,0,1,0,0,0⟩,⟨3,x,0,0,0,0,0,3⟩]
def exWr (x:Int):List Ev:=[⟨2,x,0,0,2,0,x,0⟩,⟨3,x,0,0,0,0,0,1⟩]
def exE:List Ev:=[⟨1,1,0,0,0,0,0,0⟩,⟨1,2,1,0,0,0,0,0⟩]++exRd 1++exRd 2++exWr 1++exWr 2++[⟨4,1,0,0,0,0,0,0⟩,⟨5,1,0,0,0,0,0,0⟩,⟨4,2,0,0,0,0,0,0⟩]
def exK:List Ev:=exE++[⟨5,2,0,0,0,0,0,0⟩]
def exA (n:Nat):Au:=(runG [] 0 (exK.take n)).getD []
theorem exK_take:exK.take 13=exE:=rfl
theorem ex_run:∀n,n≤14→(runG [] 0 (exK.take n)).isSome=true:=by decide
theorem ex_yes:∀n,n < 14→badF 3 [0] (exA n) (takenF 3 (exA n))=none∧(topoF (prs (graphF 3 (exA n) (takenF 3 (exA n))).2) (graphF 3 (exA n) (takenF 3 (exA n))).1).isSome=true:=by decide
theorem ex_steps:topoF (prs (graphF 3 (exA 13) (takenF 3 (exA 13))).2) (graphF 3 (exA 13) (takenF 3 (exA 13))).1=some [2,1]:=by decide
theorem ex_circle:badF 3 [0] (exA 14) (takenF 3 (exA 14))=none∧topoF (prs (graphF 3 (exA 14) (takenF 3 (exA 14))).2) (graphF 3 (exA 14) (takenF 3 (exA 14))).1=none:=by decide
theorem ex_pairs:prs (graphF 3 (exA 14) (takenF 3 (exA 14))).2=[(1,2),(2,1)]∧(graphF 3 (exA 14) (takenF 3 (exA 14))).1=[1,2]:=by decide
theorem cyc12 {c:List Int} (h:IsCyc [(1,2),(2,1)] [1,2] c):c=[1,2]:=by
 have t1:Tc [((1:Int),(2:Int)),(2,1)] 1 1:=.more (.one (b:=2) (by simp)) (by simp)
 have d2:Dist [((1:Int),(2:Int)),(2,1)] 1 2 1:=(dist_succ (n:=1) (by decide)).2 ⟨⟨2,by simp,by decide,dist_one.2 (by simp)⟩,fun m h1 h2 hd=>by
  obtain rfl:m=1:=by omega
  have:=dist_one.1 hd
  simp at this⟩
 rcases h with⟨rfl,h⟩|⟨k,n,l,h1,h2,h3,h4,rfl⟩
 ·exact absurd t1 (h 1 (by simp))
 ·obtain rfl:k=1:=by
   simp at h1
   rcases h1 with rfl|rfl
   ·rfl
   ·exact absurd t1 (h2 1 (by simp) (by decide))
  obtain rfl:=h3.uniq d2
  obtain⟨b,r,rfl,hb,-,-,-,hr⟩:=h4
  unfold Chain at hr
  subst hr
  simp at hb
  rw[hb]
theorem ex_judge {a:FAn} (h:JudgeIs 3 [0] (exA 14) a):a.kind=3∧a.cyc=[1,2]:=by
 unfold JudgeIs at h
 rw[ex_circle.1] at h
 simp only at h
 rw[ex_circle.2] at h
 obtain⟨c,hc,rfl⟩:=h
 rw[ex_pairs.1,ex_pairs.2] at hc
 exact⟨rfl,cyc12 hc⟩
theorem ex_judge_yes {n:Nat} (hn:n < 14) {a:FAn} (h:JudgeIs 3 [0] (exA n) a):a.kind=1:=by
 obtain⟨h1,h2⟩:=ex_yes n hn
 unfold JudgeIs at h
 rw[h1] at h
 simp only at h
 cases e:topoF (prs (graphF 3 (exA n) (takenF 3 (exA n))).2) (graphF 3 (exA n) (takenF 3 (exA n))).1 with
 |none=>rw[e] at h2;cases h2
 |some l=>rw[e] at h;rw[h]
theorem ex_judge13 {a:FAn} (h:JudgeIs 3 [0] (exA 13) a):a.kind=1∧a.steps=[(2,false),(1,true)]:=by
 unfold JudgeIs at h
 rw[(ex_yes 13 (by decide)).1] at h
 simp only at h
 rw[ex_steps] at h
 simp only at h
 rw[h]
 exact⟨rfl,by show stepsF 3 (exA 13) (takenF 3 (exA 13)) [2,1]=_;decide⟩
theorem ex_vers:versF 1 [0] (exA 13) 0=([0,1],true):=by decide
