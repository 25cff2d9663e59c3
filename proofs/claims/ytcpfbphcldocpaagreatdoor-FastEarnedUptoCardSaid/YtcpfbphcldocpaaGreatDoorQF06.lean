/- Parts of the proof, merged by program out of 8 texts (OrA, SeP, SeQ, FsA, FtA, FeA, EvA, EvB): the first: Orders of transactions, played on registers: plain lists. Conditions: those of each theorem, as typed. -/
import Derived.Test.YtcpfbphcldocpaaGreatDoorQF05
set_option linter.unusedVariables false
set_option linter.unusedSimpArgs false
set_option linter.unusedSectionVars false
set_option maxRecDepth 100000
set_option maxHeartbeats 4000000
namespace Go.Proofs.YtcpfbphcldocpaaGreatDoor
open Go.RowKit
theorem moveSt_keeps {n:Nat} {e:Ev} {s s':St} (h:moveSt n e s=some s'):s'.id=s.id∧s'.beg=s.beg∧s'.thread=s.thread∧(s'.fin=s.fin∨s'.fin=n):=by
 unfold moveSt at h
 split at h
 ·split at h
  ·cases h;exact⟨rfl,rfl,rfl,.inl rfl⟩
  ·cases h
 ·split at h
  ·split at h
   ·split at h
    ·split at h
     ·cases h;exact⟨rfl,rfl,rfl,.inl rfl⟩
     ·cases h
    ·cases h
   ·cases h
  ·split at h
   ·split at h
    ·cases h;exact⟨rfl,rfl,rfl,.inl rfl⟩
    ·cases h
   ·split at h
    ·split at h
     ·cases h;exact⟨rfl,rfl,rfl,.inr rfl⟩
     ·cases h
    ·split at h
     ·split at h
      ·cases h;exact⟨rfl,rfl,rfl,.inr rfl⟩
      ·cases h
     ·split at h
      ·split at h
       ·cases h;exact⟨rfl,rfl,rfl,.inl rfl⟩
       ·cases h
      ·cases h
def FullD (s:St):Prop:=(s.stand=1∨s.stand=3∨s.stand=4∨s.status=3→∀d ∈ s.deeds,d.ret≠0)∧(s.stand=2→s.status=1∧∀d ∈ s.deeds.dropLast,d.ret≠0)∧(s.stand=1∨s.stand=4→s.status=1)∧(s.stand=3→s.status=2)∧(s.stand=1∨s.stand=2∨s.stand=3∨s.stand=4∨s.stand=5)
theorem moveSt_full {n:Nat} {e:Ev} {s s':St} (hF:FullD s) (h:moveSt n e s=some s'):FullD s':=by
 obtain⟨h1,h2,h3,h4,h5⟩:=hF
 unfold moveSt at h
 split at h
 ·split at h
  ·rename_i hk hs
   cases h
   refine⟨fun hc=>?_,fun _=>⟨h3 (.inl hs),fun d hd=>?_⟩,fun hc=>?_,fun hc=>?_,.inr (.inl rfl)⟩
   ·have e1:=h3 (.inl hs)
    simp only[e1] at hc
    omega
   ·simp only[List.dropLast_concat] at hd
    exact h1 (.inl hs) d hd
   ·simp only at hc;omega
   ·simp only at hc;omega
  ·cases h
 ·split at h
  ·split at h
   ·rename_i hs
    split at h
    ·rename_i d hd
     split at h
     ·rename_i hf
      cases h
      have hr:e.ret≠0:=by unfold fitsR at hf;omega
      obtain⟨e1,e2⟩:=h2 hs
      refine⟨fun _ y hy=>?_,fun hc=>by simp only at hc;omega,fun _=>e1,fun hc=>by simp only at hc;omega,.inl rfl⟩
      simp only[List.mem_append,List.mem_singleton] at hy
      rcases hy with hy|rfl
      ·exact e2 y hy
      ·exact hr
     ·cases h
    ·cases h
   ·cases h
  ·split at h
   ·split at h
    ·rename_i hs
     cases h
     exact⟨fun _=>h1 (.inl hs),fun hc=>by simp only at hc;omega,fun hc=>by simp only at hc;omega,fun _=>rfl,.inr (.inr (.inl rfl))⟩
    ·cases h
   ·split at h
    ·split at h
     ·rename_i hs
      cases h
      exact⟨fun _=>h1 (.inr (.inl hs)),fun hc=>by simp only at hc;omega,fun hc=>by simp only at hc;omega,fun hc=>by simp only at hc;omega,.inr (.inr (.inr (.inr rfl)))⟩
     ·cases h
    ·split at h
     ·split at h
      ·rename_i hs
       cases h
       exact⟨fun hc=>by simp only at hc;omega,fun hc=>by simp only at hc;omega,fun hc=>by simp only at hc;omega,fun hc=>by simp only at hc;omega,.inr (.inr (.inr (.inr rfl)))⟩
      ·cases h
     ·split at h
      ·split at h
       ·rename_i hs
        cases h
        exact⟨fun _=>h1 (.inl hs),fun hc=>by simp only at hc;omega,fun _=>h3 (.inl hs),fun hc=>by simp only at hc;omega,.inr (.inr (.inr (.inl rfl)))⟩
       ·cases h
      ·cases h
theorem fed_full:∀{l:List Ev} {A:Au},Fed l A→∀s ∈ A,FullD s:=by
 intro l A h
 induction h with
 |nil=>intro s hs;cases hs
 |@snoc l A A' e h hf ih=>
  cases hf with
  |begin hk hi hb=>
   intro s hs
   rcases List.mem_append.1 hs with hs|hs
   ·exact ih s hs
   ·obtain rfl:s=newSt e l.length:=by simpa using hs
    exact⟨fun _ d hd=>(nomatch hd),fun h=>by simp[newSt] at h,fun _=>rfl,fun h=>by simp[newSt] at h,.inl rfl⟩
  |move k s s' hk hs hi hm=>
   intro x hx
   obtain⟨j,hj⟩:=List.mem_iff_getElem?.1 hx
   rcases get_set hj with⟨-,rfl⟩|⟨-,hj⟩
   ·exact moveSt_full (ih s (List.mem_of_getElem? hs)) hm
   ·exact ih x (List.mem_of_getElem? hj)
theorem fed_ids:∀{l:List Ev} {A:Au},Fed l A→(A.map (·.id)).Nodup:=by
 intro l A h
 induction h with
 |nil=>simp
 |@snoc l A A' e h hf ih=>
  cases hf with
  |begin hk hi hb=>
   rw[List.map_append]
   refine List.nodup_append.2 ⟨ih,by simp,fun a ha b hb'=>?_⟩
   rintro rfl
   obtain⟨s,hs,he⟩:=List.mem_map.1 ha
   obtain rfl:a=e.tx:=by simpa[newSt] using hb'
   exact hi ⟨s,hs,he⟩
  |move k s s' hk hs hi hm=>
   rw[ids_set hs (moveSt_keeps hm).1]
   exact ih
def cntd (lev:Int) (s:St):Bool:=if lev=1∨lev=2 then decide (s.status=3∨s.status=2) else decide (lev=3)
def rly (a b:St):Bool:=decide (0≤a.fin)&&decide (a.fin < b.beg)
def isRead (d:Dd):Bool:=decide (d.op=1∧d.ret=3)
def readsF:List Int→List Dd→List Dd
 |_,[]=>[]
 |met,d::l=>(if isRead d&&!met.contains d.obj then[d] else[])++readsF (if isRead d||decide (d.op=2) then d.obj::met else met) l
def writesF (l:List Dd):List Dd:=l.foldl (fun out d=>if d.op=2∧d.ret=1 then out.filter (fun o=>o.obj !=d.obj)++[d] else out) []
abbrev Mi:=List (Int×Int)
def rdM (s:St):Mi:=(readsF [] s.deeds).foldl (fun m d=>upd d.obj d.got m) []
def wrM (s:St):Mi:=(writesF s.deeds).foldl (fun m d=>upd d.obj d.val m) []
def mayT (s:St):Bool:=decide (s.status=3∨s.status=2)
def by1 (A:Au) (o v:Int) (r:Option Nat) (i:Nat):Option Nat:=match A[i]? with
 |some s=>if mayT s&&(fnd o (wrM s)==some v) then some i else r
 |none=>r
def byF (A:Au) (o v:Int):Option Nat:=(List.range A.length).foldl (by1 A o v) none
def mark1 (A:Au) (i:Nat) (T:List Bool) (p:Int×Int):List Bool:=match byF A p.1 p.2 with
 |some j=>if j=i then T else T.set j true
 |none=>T
def markF (A:Au) (i:Nat) (m:Mi) (T:List Bool):List Bool:=m.foldl (mark1 A i) T
def pass1 (lev:Int) (A:Au) (T:List Bool) (i:Nat):List Bool:=match A[i]? with
 |some s=>if T.getD i false||decide (lev=3) then markF A i (rdM s) T else T
 |none=>T
def passF (lev:Int) (A:Au) (T:List Bool):List Bool:=(List.range A.length).foldl (pass1 lev A) T
def firstT (A:Au):List Bool:=A.map fun s=>decide (s.status=3)
def fixT (lev:Int) (A:Au):Nat→List Bool→List Bool
 |0,T=>T
 |n+1,T=>fixT lev A n (passF lev A T)
def takenF (lev:Int) (A:Au):List Bool:=fixT lev A (A.length+1) (firstT A)
def lookF (lev:Int) (T:List Bool) (i:Nat):Bool:=T.getD i false||decide (lev=3)
def explF (inits:List Int) (A:Au) (T:List Bool) (i:Nat) (rd:Mi):Nat→Mi→List Dd→Option Nat
 |_,_,[]=>none
 |k,own,d::l=>
  if d.op=2 then explF inits A T i rd (k+1) (upd d.obj d.val own) l
  else if d.ret=0 then explF inits A T i rd (k+1) own l
  else match fnd d.obj own with
   |some v=>if d.got=v then explF inits A T i rd (k+1) own l else some k
   |none=>if d.got=(fnd d.obj rd).getD 0∧(d.got=inits.getD d.obj.toNat 0∨(match byF A d.obj d.got with
     |some j=>decide (j≠i)&&T.getD j false
     |none=>false)=true) then explF inits A T i rd (k+1) own l else some k
def ruleReal (lev:Int) (a b:St):Bool:=decide (lev≠1)&&rly a b
def sameM (l m:Mi) (f:Int→Bool):Bool:=l.any fun p=>(fnd p.1 m==some p.2)&&f p.1
def ruleFrom (ta:Bool) (a b:St):Bool:=ta&&sameM (wrM a) (rdM b) fun _=>true
def ruleWrite (ta tb:Bool) (a b:St):Bool:=ta&&tb&&sameM (wrM a) (rdM b) fun o=>(fnd o (wrM b)).isSome
def ruleAnti (tb:Bool) (a b:St):Bool:=tb&&sameM (rdM a) (rdM b) fun o=>(fnd o (wrM b)).isSome
section
variable {lev:Int} {A:Au}
def cntT (T:List Bool):Nat:=T.count true
theorem cntT_set {T:List Bool} {j:Nat} (hj:j < T.length) (h:T.getD j false=false):cntT (T.set j true)=cntT T+1:=by
 unfold cntT
 rw[List.count_set hj]
 have e:T[j]=false:=by rw[List.getD_eq_getElem?_getD,List.getElem?_eq_getElem hj] at h;simpa using h
 simp[e]
theorem cntT_le (T:List Bool):cntT T≤T.length:=List.count_le_length
theorem getD_set {T:List Bool} {j k:Nat} (hj:j < T.length):(T.set j true).getD k false=(T.getD k false||decide (k=j)):=by
 rw[List.getD_eq_getElem?_getD,List.getD_eq_getElem?_getD,List.getElem?_set]
 by_cases h:j=k
 ·subst h;simp[hj]
 ·simp [h,show ¬k=j from fun e=>h e.symm]
theorem by1_lt {o v:Int} {n:Nat}:∀{l:List Nat} {r:Option Nat} {j:Nat},(∀i ∈ l,i < n)→(∀j,r=some j→j < n)→l.foldl (by1 A o v) r=some j→j < n
 |[],r,j,_,hr,h=>hr j h
 |i::l,r,j,hl,hr,h=>by
  refine by1_lt (l:=l) (fun x hx=>hl x (List.mem_cons_of_mem _ hx)) (fun k hk=>?_) h
  unfold by1 at hk
  split at hk
  ·split at hk
   ·exact Option.some.inj hk▸hl i (List.mem_cons_self ..)
   ·exact hr k hk
  ·exact hr k hk
theorem byF_lt {o v:Int} {j:Nat} (h:byF A o v=some j):j < A.length:=by1_lt (r:=none) (fun i hi=>List.mem_range.1 hi) (fun j h=>by cases h) h
def Turns (A:Au) (i j:Nat) (p:Int×Int):Prop:=byF A p.1 p.2=some j∧j≠i
theorem mark1_len {i:Nat} {T:List Bool} {p:Int×Int}:(mark1 A i T p).length=T.length:=by
 unfold mark1
 split
 ·split <;> simp
 ·rfl
theorem markF_len {i:Nat}:∀{m:Mi} {T:List Bool},(markF A i m T).length=T.length
 |[],T=>rfl
 |p::m,T=>by
  unfold markF
  rw[List.foldl_cons]
  exact(markF_len (m:=m)).trans mark1_len
theorem mark1_get {i j:Nat} {T:List Bool} {p:Int×Int} (hT:T.length=A.length):(mark1 A i T p).getD j false=true↔T.getD j false=true∨Turns A i j p:=by
 unfold mark1 Turns
 cases h:byF A p.1 p.2 with
 |none=>simp
 |some k=>
  have hk:=byF_lt h
  simp only
  split
  ·rename_i e
   subst e
   constructor
   ·exact .inl
   ·rintro (h|⟨h1,h2⟩)
    ·exact h
    ·exact absurd (Option.some.inj h1).symm h2
  ·rename_i e
   rw[getD_set (by omega)]
   simp only[Bool.or_eq_true,decide_eq_true_eq,Option.some.injEq]
   constructor
   ·rintro (h|rfl)
    ·exact .inl h
    ·exact .inr ⟨rfl,e⟩
   ·rintro (h|⟨rfl,-⟩)
    ·exact .inl h
    ·exact .inr rfl
theorem markF_get {i j:Nat}:∀{m:Mi} {T:List Bool},T.length=A.length→((markF A i m T).getD j false=true↔T.getD j false=true∨∃p ∈ m,Turns A i j p)
 |[],T,_=>by simp[markF]
 |p::m,T,hT=>by
  have:=markF_get (i:=i) (j:=j) (m:=m) (T:=mark1 A i T p) (by rw[mark1_len,hT])
  unfold markF at this ⊢
  rw[List.foldl_cons,this,mark1_get hT]
  simp only[List.mem_cons,exists_eq_or_imp]
  constructor
  ·rintro ((h|h)|h)
   ·exact .inl h
   ·exact .inr (.inl h)
   ·exact .inr (.inr h)
  ·rintro (h|h|h)
   ·exact .inl (.inl h)
   ·exact .inl (.inr h)
   ·exact .inr h
theorem flags_ext {T T':List Bool} (hl:T.length=T'.length) (h:∀j,T.getD j false=true↔T'.getD j false=true):T=T':=by
 refine List.ext_getElem hl fun j h1 h2=>?_
 have:=h j
 rw[List.getD_eq_getElem?_getD,List.getD_eq_getElem?_getD,List.getElem?_eq_getElem h1,List.getElem?_eq_getElem h2] at this
 simp only[Option.getD_some] at this
 cases e1:T[j] <;> cases e2:T'[j] <;> simp_all
theorem pass1_len {T:List Bool} {i:Nat}:(pass1 lev A T i).length=T.length:=by
 unfold pass1
 split
 ·split
  ·exact markF_len
  ·rfl
 ·rfl
theorem fixT_succ:∀(k:Nat) (T:List Bool),fixT lev A (k+1) T=passF lev A (fixT lev A k T)
 |0,T=>rfl
 |k+1,T=>by rw[fixT,fixT_succ k];rfl
theorem fixT_stay {T:List Bool} (h:passF lev A T=T):∀k,fixT lev A k T=T
 |0=>rfl
 |k+1=>by rw[fixT,h,fixT_stay h k]
theorem fixT_add (T:List Bool):∀(j k:Nat),fixT lev A (k+j) T=fixT lev A j (fixT lev A k T)
 |0,k=>rfl
 |j+1,k=>by rw[←Nat.add_assoc,fixT_succ,fixT_succ,fixT_add T j k]
theorem taken_of {T:List Bool} {k:Nat} (h:passF lev A T=T) (hk:k≤A.length+1) (hT:fixT lev A k (firstT A)=T):takenF lev A=T:=by
 unfold takenF
 obtain⟨j,hj⟩:=Nat.le.dest hk
 rw[←hj,fixT_add,hT,fixT_stay h]
theorem firstT_len:(firstT A).length=A.length:=by simp[firstT]
end
def premO (os:List Ob):List Int→List (Int×Int)→List Dd→Option (List (Int×Int))
 |_,wr,[]=>some wr
 |rd,wr,d::l=>match os[d.obj.toNat]? with
  |none=>none
  |some o=>if o.kind=1 then
    if d.op=1 then premO os (if d.ret=3 then d.obj::rd else rd) wr l
    else if d.obj ∈ rd∧(d.obj,d.val) ∉ wr∧o.init≠d.val then premO os rd ((d.obj,d.val)::wr) l
    else none
   else none
def premA (os:List Ob):List (Int×Int)→Au→Bool
 |_,[]=>true
 |wr,s::A=>match premO os [] wr s.deeds with
  |some wr'=>premA os wr' A
  |none=>false
def lastO (g:Dd→Int) (o:Int) (X:List Dd) (r:Option Int):Option Int:=X.foldl (fun r d=>if d.obj=o then some (g d) else r) r
section
variable {g:Dd→Int} {o:Int}
theorem lastO_app (X Y:List Dd) (r:Option Int):lastO g o (X++Y) r=lastO g o Y (lastO g o X r):=by unfold lastO;rw[List.foldl_append]
theorem lastO_none:∀{X:List Dd} {r:Option Int},(∀d ∈ X,d.obj≠o)→lastO g o X r=r
 |[],r,_=>rfl
 |d::X,r,h=>by
  unfold lastO
  rw[List.foldl_cons,if_neg (h d (List.mem_cons_self ..))]
  exact lastO_none fun x hx=>h x (List.mem_cons_of_mem _ hx)
theorem lastO_all {v:Int}:∀{X:List Dd} {r:Option Int},(∀d ∈ X,d.obj=o→g d=v)→(r=some v∨∃d ∈ X,d.obj=o)→lastO g o X r=some v
 |[],r,_,h=>by
  rcases h with h|⟨d,hd,-⟩
  ·exact h
  ·cases hd
 |d::X,r,hv,h=>by
  unfold lastO
  rw[List.foldl_cons]
  by_cases e:d.obj=o
  ·rw [if_pos e,hv d (List.mem_cons_self ..) e]
   exact lastO_all (fun x hx=>hv x (List.mem_cons_of_mem _ hx)) (.inl rfl)
  ·rw [if_neg e]
   refine lastO_all (fun x hx=>hv x (List.mem_cons_of_mem _ hx)) ?_
   rcases h with h|⟨x,hx,hxo⟩
   ·exact .inl h
   ·rcases List.mem_cons.1 hx with rfl|hx
    ·exact absurd hxo e
    ·exact .inr ⟨x,hx,hxo⟩
theorem lastO_filter {c:Int} (hc:c≠o):∀(X:List Dd) (r:Option Int),lastO g o (X.filter fun x=>x.obj !=c) r=lastO g o X r
 |[],r=>rfl
 |d::X,r=>by
  have ih:=lastO_filter hc X
  by_cases e:d.obj=c
  ·rw [List.filter_cons_of_neg (by simp[e])]
   rw[ih]
   unfold lastO
   rw[List.foldl_cons,if_neg (by rw[e];exact hc)]
  ·rw [List.filter_cons_of_pos (by simp[e])]
   unfold lastO at ih ⊢
   rw[List.foldl_cons,List.foldl_cons,ih]
theorem fnd_foldU:∀{X:List Dd} {M:Mi},KSrt M→fnd o (X.foldl (fun m d=>upd d.obj (g d) m) M)=lastO g o X (fnd o M)
 |[],M,_=>rfl
 |d::X,M,h=>by
  rw[List.foldl_cons,fnd_foldU (srt_upd h)]
  unfold lastO
  rw[List.foldl_cons]
  by_cases e:d.obj=o
  ·rw [if_pos e,e,fnd_upd_same h]
  ·rw [if_neg e,fnd_upd_other h fun h=>e h.symm]
theorem srt_foldU:∀{X:List Dd} {M:Mi},KSrt M→KSrt (X.foldl (fun m d=>upd d.obj (g d) m) M)
 |[],M,h=>h
 |d::X,M,h=>by rw[List.foldl_cons];exact srt_foldU (srt_upd h)
end
theorem srt_rdM (s:St):KSrt (rdM s):=srt_foldU List.Pairwise.nil
theorem srt_wrM (s:St):KSrt (wrM s):=srt_foldU List.Pairwise.nil
theorem rdM_last (s:St) (o:Int):fnd o (rdM s)=lastO Dd.got o (readsF [] s.deeds) none:=fnd_foldU List.Pairwise.nil
theorem wrM_last (s:St) (o:Int):fnd o (wrM s)=lastO Dd.val o (writesF s.deeds) none:=fnd_foldU List.Pairwise.nil
def lwR (l:List Dd) (o:Int):Option Int:=l.foldl (fun r d=>if d.op=2∧d.ret=1∧d.obj=o then some d.val else r) none
def lwA (l:List Dd) (o:Int):Option Int:=l.foldl (fun r d=>if d.op=2∧d.obj=o then some d.val else r) none
def lastW (l:List Dd) (o:Int):Option Int:=((writesF l).find? fun d=>d.obj==o).map Dd.val
theorem snoc_ind {α:Type} {p:List α→Prop} (h0:p []) (h1:∀l a,p l→p (l++[a])) (l:List α):p l:=by
 rw[←List.reverse_reverse l]
 generalize l.reverse=r
 induction r with
 |nil=>exact h0
 |cons a r ih=>rw[List.reverse_cons];exact h1 _ _ ih
theorem writesF_snoc (l:List Dd) (d:Dd):writesF (l++[d])=if d.op=2∧d.ret=1 then(writesF l).filter (fun o=>o.obj !=d.obj)++[d] else writesF l:=by unfold writesF;rw[List.foldl_append];rfl
theorem lwR_snoc (l:List Dd) (d:Dd) (o:Int):lwR (l++[d]) o=if d.op=2∧d.ret=1∧d.obj=o then some d.val else lwR l o:=by unfold lwR;rw[List.foldl_append];rfl
theorem lwA_snoc (l:List Dd) (d:Dd) (o:Int):lwA (l++[d]) o=if d.op=2∧d.obj=o then some d.val else lwA l o:=by unfold lwA;rw[List.foldl_append];rfl
theorem last_writesF (o:Int) (l:List Dd):lastO Dd.val o (writesF l) none=lwR l o:=by
 induction l using snoc_ind with
 |h0=>rfl
 |h1 l d ih=>
  rw[writesF_snoc,lwR_snoc]
  by_cases hw:d.op=2∧d.ret=1
  ·rw [if_pos hw,lastO_app]
   by_cases e:d.obj=o
   ·rw [if_pos ⟨hw.1,hw.2,e⟩]
    simp[lastO,e]
   ·rw [if_neg (fun h=>e h.2.2),lastO_filter e,ih]
    simp[lastO,e]
  ·rw [if_neg hw,if_neg (fun h=>hw ⟨h.1,h.2.1⟩),ih]
theorem lastW_eq (o:Int) (l:List Dd):lastW l o=lwR l o:=by
 induction l using snoc_ind with
 |h0=>rfl
 |h1 l d ih=>
  unfold lastW at ih ⊢
  rw[writesF_snoc,lwR_snoc]
  by_cases hw:d.op=2∧d.ret=1
  ·rw [if_pos hw,List.find?_append,List.find?_filter]
   by_cases e:d.obj=o
   ·rw [if_pos ⟨hw.1,hw.2,e⟩]
    have:(writesF l).find? (fun a=>decide ((a.obj !=d.obj)=true∧(a.obj==o)=true))=none:=by
     rw[List.find?_eq_none]
     intro x hx
     simp only[decide_eq_true_eq,bne_iff_ne,beq_iff_eq]
     rintro⟨h1,h2⟩
     exact h1 (h2.trans e.symm)
    rw[this]
    simp[e]
   ·rw [if_neg (fun h=>e h.2.2),←ih]
    have:(writesF l).find? (fun a=>decide ((a.obj !=d.obj)=true∧(a.obj==o)=true))=(writesF l).find? fun a=>a.obj==o:=by
     congr 1
     funext a
     by_cases h:a.obj=o
     ·simp [h,show ¬o=d.obj from fun h=>e h.symm]
     ·simp [h]
    rw[this]
    cases (writesF l).find? fun a=>a.obj==o with
    |some x=>rfl
    |none=>simp[e]
  ·rw [if_neg hw,if_neg (fun h=>hw ⟨h.1,h.2.1⟩),ih]
theorem fnd_wrM (s:St) (o:Int):fnd o (wrM s)=lwR s.deeds o:=(wrM_last s o).trans (last_writesF o s.deeds)
theorem lw_full {l:List Dd} (h:∀d ∈ l,d.op=2→d.ret=1) (o:Int):lwA l o=lwR l o:=by
 induction l using snoc_ind with
 |h0=>rfl
 |h1 l d ih=>
  rw[lwA_snoc,lwR_snoc,ih fun x hx=>h x (by simp[hx])]
  have:=h d (by simp)
  by_cases e:d.op=2
  ·simp [e,this e]
  ·simp [e]
theorem lwR_mem {l:List Dd} {o v:Int} (h:lwR l o=some v):∃d ∈ l,d.op=2∧d.ret=1∧d.obj=o∧d.val=v:=by
 induction l using snoc_ind with
 |h0=>cases h
 |h1 l d ih=>
  rw[lwR_snoc] at h
  split at h
  ·rename_i e
   exact⟨d,by simp,e.1,e.2.1,e.2.2,Option.some.inj h⟩
  ·obtain ⟨x,hx,h⟩:=ih h
   exact⟨x,by simp[hx],h⟩
theorem lwA_none {l:List Dd} {o:Int} (h:lwA l o=none):∀d ∈ l,¬(d.op=2∧d.obj=o):=by
 induction l using snoc_ind with
 |h0=>intro d hd;cases hd
 |h1 l d ih=>
  rw[lwA_snoc] at h
  split at h
  ·cases h
  ·rename_i e
   intro x hx
   rcases List.mem_append.1 hx with hx|hx
   ·exact ih h x hx
   ·rw [List.mem_singleton.1 hx];exact e
def metF (met:List Int) (l:List Dd):List Int:=l.foldl (fun met d=>if isRead d||decide (d.op=2) then d.obj::met else met) met
theorem readsF_app:∀(l m:List Dd) (met:List Int),readsF met (l++m)=readsF met l++readsF (metF met l) m
 |[],m,met=>rfl
 |d::l,m,met=>by
  rw[List.cons_append,readsF,readsF,readsF_app l m,List.append_assoc]
  rfl
theorem metF_sub:∀{l:List Dd} {met:List Int} {x:Int},x ∈ met→x ∈ metF met l
 |[],_,_,h=>h
 |d::l,met,x,h=>by
  unfold metF
  rw[List.foldl_cons]
  refine metF_sub (l:=l) ?_
  split
  ·exact List.mem_cons_of_mem _ h
  ·exact h
theorem readsF_mem:∀{l:List Dd} {met:List Int} {r:Dd},r ∈ readsF met l→r ∈ l∧isRead r=true∧r.obj ∉ met∧r.obj ∈ metF met l
 |[],_,_,h=>by cases h
 |d::l,met,r,h=>by
  rw[readsF] at h
  rcases List.mem_append.1 h with h|h
  ·split at h
   ·rename_i e
    rw[List.mem_singleton.1 h]
    simp only[Bool.and_eq_true,Bool.not_eq_true'] at e
    refine⟨List.mem_cons_self ..,e.1,by simpa using e.2,?_⟩
    unfold metF
    rw[List.foldl_cons]
    refine metF_sub (l:=l) ?_
    rw[e.1]
    simp
   ·cases h
  ·obtain ⟨h1,h2,h3,h4⟩:=readsF_mem h
   refine⟨List.mem_cons_of_mem _ h1,h2,fun hm=>h3 ?_,?_⟩
   ·split
    ·exact List.mem_cons_of_mem _ hm
    ·exact hm
   ·unfold metF at h4 ⊢
    rw[List.foldl_cons]
    exact h4
theorem met_reads {o:Int}:∀{l:List Dd} {met:List Int},o ∈ metF met l→o ∉ met→(∀d ∈ l,¬(d.op=2∧d.obj=o))→∃r ∈ readsF met l,r.obj=o
 |[],met,h,hn,_=>absurd h hn
 |d::l,met,h,hn,hw=>by
  rw[readsF]
  by_cases e:isRead d=true∧d.obj=o
  ·refine ⟨d,List.mem_append.2 (.inl ?_),e.2⟩
   have:(isRead d&&!met.contains d.obj)=true:=by simp[e.1,e.2,hn]
   rw[if_pos this]
   simp
  ·have h':o ∈ metF (if (isRead d||decide (d.op=2))=true then d.obj::met else met) l:=h
   obtain⟨r,hr,ho⟩:=met_reads (l:=l) h' (by
    split
    ·rename_i h2
     intro hm
     rcases List.mem_cons.1 hm with hm|hm
     ·simp only[Bool.or_eq_true,decide_eq_true_eq] at h2
      rcases h2 with h2|h2
      ·exact e ⟨h2,hm.symm⟩
      ·exact hw d (List.mem_cons_self ..) ⟨h2,hm.symm⟩
     ·exact hn hm
    ·exact hn) fun x hx=>hw x (List.mem_cons_of_mem _ hx)
   exact⟨r,List.mem_append.2 (.inr hr),ho⟩
theorem rd_first {s:St} {l1 l2:List Dd} {d:Dd} (hs:s.deeds=l1++d::l2) (hd:isRead d=true) (hw:∀x ∈ l1,¬(x.op=2∧x.obj=d.obj)) (hr:∀r ∈ readsF [] l1,r.obj=d.obj→r.got=d.got):fnd d.obj (rdM s)=some d.got:=by
 rw[rdM_last,hs,readsF_app]
 by_cases hm:d.obj ∈ metF [] l1
 ·obtain ⟨r,hr1,hr2⟩:=met_reads hm (by simp) hw
  rw[lastO_app,lastO_none (X:=readsF (metF [] l1) (d::l2)) fun x hx e=>(readsF_mem hx).2.2.1 (e▸hm)]
  exact lastO_all hr (.inr ⟨r,hr1,hr2⟩)
 ·rw [lastO_app,lastO_none (X:=readsF [] l1) fun x hx (e:x.obj=d.obj)=>hm (e▸(readsF_mem hx).2.2.2)]
  refine lastO_all (fun x hx e=>?_) (.inr ⟨d,?_,rfl⟩)
  ·rw [readsF] at hx
   rcases List.mem_append.1 hx with hx|hx
   ·split at hx
    ·rw [List.mem_singleton.1 hx]
    ·cases hx
   ·exfalso
    apply(readsF_mem hx).2.2.1
    rw[hd,e]
    simp
  ·rw [readsF]
   have:(isRead d&&!(metF [] l1).contains d.obj)=true:=by simp[hd,hm]
   rw[if_pos this]
   simp
section
variable {A:Au} {o v:Int}
def Wrs (A:Au) (o v:Int) (j:Nat):Prop:=∃s,A[j]?=some s∧mayT s=true∧fnd o (wrM s)=some v
theorem by1_wrs {r:Option Nat} {i j:Nat} (h:by1 A o v r i=some j):Wrs A o v j∨r=some j:=by
 unfold by1 at h
 split at h
 ·rename_i s hs
  split at h
  ·rename_i hc
   simp only[Bool.and_eq_true,beq_iff_eq] at hc
   obtain rfl:=Option.some.inj h
   exact .inl ⟨s,hs,hc⟩
  ·exact .inr h
 ·exact .inr h
theorem byL_wrs:∀{l:List Nat} {r:Option Nat} {j:Nat},l.foldl (by1 A o v) r=some j→Wrs A o v j∨r=some j
 |[],r,j,h=>.inr h
 |i::l,r,j,h=>by
  rw[List.foldl_cons] at h
  rcases byL_wrs h with h|h
  ·exact .inl h
  ·exact by1_wrs h
theorem byF_wrs {j:Nat} (h:byF A o v=some j):Wrs A o v j:=by
 rcases byL_wrs h with h|h
 ·exact h
 ·cases h
theorem byL_some:∀{l:List Nat} {r:Option Nat} {j:Nat},Wrs A o v j→(j ∈ l∨r≠none)→l.foldl (by1 A o v) r≠none
 |[],r,j,_,h=>by
  rcases h with h|h
  ·cases h
  ·exact h
 |i::l,r,j,hw,h=>by
  rw[List.foldl_cons]
  by_cases e:i=j
  ·subst e
   refine byL_some hw (.inr ?_)
   obtain⟨s,hs,h1,h2⟩:=hw
   unfold by1
   rw[hs]
   simp[h1,h2]
  ·refine byL_some hw ?_
   rcases h with h|h
   ·rcases List.mem_cons.1 h with h|h
    ·exact absurd h.symm e
    ·exact .inl h
   ·refine .inr ?_
    unfold by1
    split
    ·split
     ·simp
     ·exact h
    ·exact h
theorem byF_one {j:Nat} (h:Wrs A o v j) (hu:∀k,Wrs A o v k→k=j):byF A o v=some j:=by
 have hj:j < A.length:=by obtain⟨s,hs,-⟩:=h;exact(List.getElem?_eq_some_iff.1 hs).1
 cases e:byF A o v with
 |none=>exact absurd e (byL_some h (.inl (List.mem_range.2 hj)))
 |some k=>rw[hu k (byF_wrs e)]
def MayF (A:Au) (T:List Bool):Prop:=∀j,T.getD j false=true→∃s,A[j]?=some s∧mayT s=true
theorem may_first:MayF A (firstT A):=fun j h=>by
 unfold firstT at h
 rw[List.getD_eq_getElem?_getD,List.getElem?_map] at h
 cases hs:A[j]? with
 |none=>rw[hs] at h;simp at h
 |some s=>
  rw[hs] at h
  simp at h
  exact⟨s,rfl,by simp[mayT,h]⟩
theorem may_mark1 {i:Nat} {T:List Bool} {p:Int×Int} (h:MayF A T):MayF A (mark1 A i T p):=by
 unfold mark1
 split
 ·rename_i k hk
  split
  ·exact h
  ·intro j hj
   by_cases hkl:k < T.length
   ·rw [getD_set hkl] at hj
    simp only[Bool.or_eq_true,decide_eq_true_eq] at hj
    rcases hj with hj|rfl
    ·exact h j hj
    ·obtain ⟨s,hs,h1,-⟩:=byF_wrs hk
     exact⟨s,hs,h1⟩
   ·rw [List.set_eq_of_length_le (by omega)] at hj
    exact h j hj
 ·exact h
theorem may_markF {i:Nat}:∀{m:Mi} {T:List Bool},MayF A T→MayF A (markF A i m T)
 |[],T,h=>h
 |p::m,T,h=>by
  unfold markF
  rw[List.foldl_cons]
  exact may_markF (m:=m) (may_mark1 h)
theorem may_pass1 {lev:Int} {i:Nat} {T:List Bool} (h:MayF A T):MayF A (pass1 lev A T i):=by
 unfold pass1
 split
 ·split
  ·exact may_markF h
  ·exact h
 ·exact h
theorem may_passL {lev:Int}:∀{l:List Nat} {T:List Bool},MayF A T→MayF A (l.foldl (pass1 lev A) T)
 |[],T,h=>h
 |i::l,T,h=>by rw[List.foldl_cons];exact may_passL (may_pass1 h)
theorem may_fix {lev:Int}:∀{n:Nat} {T:List Bool},MayF A T→MayF A (fixT lev A n T)
 |0,T,h=>h
 |n+1,T,h=>by rw[fixT];exact may_fix (may_passL h)
theorem may_taken {lev:Int}:MayF A (takenF lev A):=may_fix may_first
theorem premO_wr {os:List Ob}:∀{l:List Dd} {rd:List Int} {wr wr':List (Int×Int)},premO os rd wr l=some wr'→(∀p ∈ wr,p ∈ wr')∧∀d ∈ l,d.op≠1→(d.obj,d.val) ∈ wr'∧(d.obj,d.val) ∉ wr
 |[],rd,wr,wr',h=>by
  simp only[premO,Option.some.injEq] at h
  subst h
  exact⟨fun p hp=>hp,fun d hd=>nomatch hd⟩
 |d::l,rd,wr,wr',h=>by
  rw[premO] at h
  split at h
  ·cases h
  ·split at h
   ·split at h
    ·rename_i hd
     obtain⟨h1,h2⟩:=premO_wr h
     refine⟨h1,fun x hx hne=>?_⟩
     rcases List.mem_cons.1 hx with rfl|hx
     ·exact absurd hd hne
     ·exact h2 x hx hne
    ·split at h
     ·rename_i hc
      obtain⟨h1,h2⟩:=premO_wr h
      refine⟨fun p hp=>h1 p (List.mem_cons_of_mem _ hp),fun x hx hne=>?_⟩
      rcases List.mem_cons.1 hx with rfl|hx
      ·exact ⟨h1 _ (List.mem_cons_self ..),hc.2.1⟩
      ·obtain ⟨h3,h4⟩:=h2 x hx hne
       exact⟨h3,fun hm=>h4 (List.mem_cons_of_mem _ hm)⟩
     ·cases h
   ·cases h
theorem premA_at {os:List Ob}:∀{A:Au} {wr:List (Int×Int)},premA os wr A=true→∀(j k:Nat) (s t:St),A[j]?=some s→A[k]?=some t→∀d ∈ s.deeds,∀e ∈ t.deeds,d.op≠1→e.op≠1→(d.obj,d.val)=(e.obj,e.val)→j≤k∧(d.obj,d.val) ∉ wr
 |[],wr,_,j,k,s,t,hs,_,d,_,e,_,_,_,_=>by simp at hs
 |a::A,wr,h,j,k,s,t,hs,ht,d,hd,e,he,h1,h2,heq=>by
  rw[premA] at h
  cases hp:premO os [] wr a.deeds with
  |none=>rw[hp] at h;cases h
  |some wr'=>
   rw[hp] at h
   obtain⟨g1,g2⟩:=premO_wr hp
   cases j with
   |zero=>
    simp at hs
    subst hs
    exact⟨Nat.zero_le _,(g2 d hd h1).2⟩
   |succ j=>
    cases k with
    |zero=>
     simp at hs ht
     subst ht
     have:=(premA_at h j j s s hs hs d hd d hd h1 h1 rfl).2
     rw[heq] at this
     exact absurd (g2 e he h2).1 this
    |succ k=>
     simp at hs ht
     obtain⟨q1,q2⟩:=premA_at h j k s t hs ht d hd e he h1 h2 heq
     exact⟨by omega,fun hm=>q2 (g1 _ hm)⟩
theorem wrs_one {os:List Ob} (h:premA os [] A=true) {j k:Nat} (hj:Wrs A o v j) (hk:Wrs A o v k):j=k:=by
 obtain⟨s,hs,-,h1⟩:=hj
 obtain⟨t,ht,-,h2⟩:=hk
 rw[fnd_wrM] at h1 h2
 obtain⟨d,hd,d1,d2,d3,d4⟩:=lwR_mem h1
 obtain⟨e,he,e1,e2,e3,e4⟩:=lwR_mem h2
 have q1:=(premA_at h j k s t hs ht d hd e he (by omega) (by omega) (by rw[d3,d4,e3,e4])).1
 have q2:=(premA_at h k j t s ht hs e he d hd (by omega) (by omega) (by rw[d3,d4,e3,e4])).1
 omega
theorem by_taken {os:List Ob} (h:premA os [] A=true) {j:Nat} (hj:Wrs A o v j):byF A o v=some j:=byF_one hj fun k hk=>wrs_one h hk hj
end
section
attribute [local irreducible] wpL
structure Fd where
 f:FuncId
 tb:Int
 lo:Int
 hi:Int
def Fd.cells (x:Fd):List Value:=[.func (.func x.f) #[] #[],.int .i64 x.tb,.int .i64 x.lo,.int .i64 x.hi]
abbrev Fd.val (x:Fd):Value:=.agg #[.func (.func x.f) #[] #[],.int .i64 x.tb,.int .i64 x.lo,.int .i64 x.hi]
theorem Fd.len (x:Fd):x.cells.length=4:=rfl
theorem infoFd:(Tryz.prog.info? 260).map (fun i=>(i.zero,i.size,i.bytes))=some (some (.agg #[.nilFunc,.int .i64 0,.int .i64 0,.int .i64 0]),4,32):=by kernel_rfl
def fdTx:Fd:=⟨214,0,1,1000⟩
theorem e_tx (w:World):Calls Tryz.prog 181 #[] w fun e w'=>e=.returned fdTx.val∧Below w.heap.size w w':=by
 have hb:=(Below.refl w.heap.size w).alloc (Nat.le_refl _) (.cells #[.nilFunc,.int .i64 0,.int .i64 0,.int .i64 0] 260)
 go_enter Tryz.func181,Tryz.ntmps181
 go_wp2
 refine bodyPost_ret (v:=fdTx.val) (by simp[results,Tryz.results181,go_sem,fdTx]) rfl ⟨rfl,?_⟩
 exact(Below.refl w.heap.size w).alloc (Nat.le_refl _) _
theorem e_tx1 (b:Nat) (w:World):Calls Tryz.prog 214 #[.pointer (some ⟨b,0,none⟩)] w fun e w'=>e=.returned (.pointer (some ⟨b,1,none⟩))∧w'=w:=by
 go_enter Tryz.func214,Tryz.ntmps214
 go_wp2
 go_ret
 exact⟨rfl,rfl⟩
def fdTh:Fd:=⟨215,0,0,7⟩
theorem e_thread (w:World):Calls Tryz.prog 182 #[] w fun e w'=>e=.returned fdTh.val∧Below w.heap.size w w':=by
 have hb:=(Below.refl w.heap.size w).alloc (Nat.le_refl _) (.cells #[.nilFunc,.int .i64 0,.int .i64 0,.int .i64 0] 260)
 go_enter Tryz.func182,Tryz.ntmps182
 go_wp2
 refine bodyPost_ret (v:=fdTh.val) (by simp[results,Tryz.results182,go_sem,fdTh]) rfl ⟨rfl,?_⟩
 exact(Below.refl w.heap.size w).alloc (Nat.le_refl _) _
theorem e_thread1 (b:Nat) (w:World):Calls Tryz.prog 215 #[.pointer (some ⟨b,0,none⟩)] w fun e w'=>e=.returned (.pointer (some ⟨b,2,none⟩))∧w'=w:=by
 go_enter Tryz.func215,Tryz.ntmps215
 go_wp2
 go_ret
 exact⟨rfl,rfl⟩
def fdOb:Fd:=⟨216,0,0,7⟩
theorem e_obj (w:World):Calls Tryz.prog 184 #[] w fun e w'=>e=.returned fdOb.val∧Below w.heap.size w w':=by
 have hb:=(Below.refl w.heap.size w).alloc (Nat.le_refl _) (.cells #[.nilFunc,.int .i64 0,.int .i64 0,.int .i64 0] 260)
 go_enter Tryz.func184,Tryz.ntmps184
 go_wp2
 refine bodyPost_ret (v:=fdOb.val) (by simp[results,Tryz.results184,go_sem,fdOb]) rfl ⟨rfl,?_⟩
 exact(Below.refl w.heap.size w).alloc (Nat.le_refl _) _
theorem e_obj1 (b:Nat) (w:World):Calls Tryz.prog 216 #[.pointer (some ⟨b,0,none⟩)] w fun e w'=>e=.returned (.pointer (some ⟨b,3,none⟩))∧w'=w:=by
 go_enter Tryz.func216,Tryz.ntmps216
 go_wp2
 go_ret
 exact⟨rfl,rfl⟩
def fdOp:Fd:=⟨217,3,1,9⟩
theorem e_op (w:World):Calls Tryz.prog 185 #[] w fun e w'=>e=.returned fdOp.val∧Below w.heap.size w w':=by
 have hb:=(Below.refl w.heap.size w).alloc (Nat.le_refl _) (.cells #[.nilFunc,.int .i64 0,.int .i64 0,.int .i64 0] 260)
 go_enter Tryz.func185,Tryz.ntmps185
 go_wp2
 refine bodyPost_ret (v:=fdOp.val) (by simp[results,Tryz.results185,go_sem,fdOp]) rfl ⟨rfl,?_⟩
 exact(Below.refl w.heap.size w).alloc (Nat.le_refl _) _
theorem e_op1 (b:Nat) (w:World):Calls Tryz.prog 217 #[.pointer (some ⟨b,0,none⟩)] w fun e w'=>e=.returned (.pointer (some ⟨b,4,none⟩))∧w'=w:=by
 go_enter Tryz.func217,Tryz.ntmps217
 go_wp2
 go_ret
 exact⟨rfl,rfl⟩
def fdVa:Fd:=⟨219,0,(-1000000000),1000000000⟩
theorem e_val (w:World):Calls Tryz.prog 187 #[] w fun e w'=>e=.returned fdVa.val∧Below w.heap.size w w':=by
 have hb:=(Below.refl w.heap.size w).alloc (Nat.le_refl _) (.cells #[.nilFunc,.int .i64 0,.int .i64 0,.int .i64 0] 260)
 go_enter Tryz.func187,Tryz.ntmps187
 go_wp2
 refine bodyPost_ret (v:=fdVa.val) (by simp[results,Tryz.results187,go_sem,fdVa]) rfl ⟨rfl,?_⟩
 exact(Below.refl w.heap.size w).alloc (Nat.le_refl _) _
theorem e_val1 (b:Nat) (w:World):Calls Tryz.prog 219 #[.pointer (some ⟨b,0,none⟩)] w fun e w'=>e=.returned (.pointer (some ⟨b,6,none⟩))∧w'=w:=by
 go_enter Tryz.func219,Tryz.ntmps219
 go_wp2
 go_ret
 exact⟨rfl,rfl⟩
def fdRe:Fd:=⟨220,4,1,3⟩
theorem e_ret (w:World):Calls Tryz.prog 189 #[] w fun e w'=>e=.returned fdRe.val∧Below w.heap.size w w':=by
 have hb:=(Below.refl w.heap.size w).alloc (Nat.le_refl _) (.cells #[.nilFunc,.int .i64 0,.int .i64 0,.int .i64 0] 260)
 go_enter Tryz.func189,Tryz.ntmps189
 go_wp2
 refine bodyPost_ret (v:=fdRe.val) (by simp[results,Tryz.results189,go_sem,fdRe]) rfl ⟨rfl,?_⟩
 exact(Below.refl w.heap.size w).alloc (Nat.le_refl _) _
theorem e_ret1 (b:Nat) (w:World):Calls Tryz.prog 220 #[.pointer (some ⟨b,0,none⟩)] w fun e w'=>e=.returned (.pointer (some ⟨b,7,none⟩))∧w'=w:=by
 go_enter Tryz.func220,Tryz.ntmps220
 go_wp2
 go_ret
 exact⟨rfl,rfl⟩
theorem e_list (v:Value) (hv:∃a n c,v=.slice a n c) (w:World):Calls Tryz.prog 179 #[v] w fun e w'=>e=.returned (.func (.func 180) #[] #[.pointer (some ⟨w.heap.size,0,none⟩)])∧w'=w.alloc (.cells #[v] 304):=by
 obtain⟨a,n,c,rfl⟩:=hv
 go_enter Tryz.func179,Tryz.ntmps179
 go_wp2
 go_ret
 exact⟨rfl,rfl⟩
end
section
attribute [local irreducible] wpL
abbrev fdZ:Value:=.agg #[.nilFunc,.int .i64 0,.int .i64 0,.int .i64 0]
def FdRet (l:List Fd) (i:Nat) (w:World) (e:Ending) (w':World):Prop:=e=.returned (match l[i]? with|some x=>.tuple #[x.val,.bool true]|none=>.tuple #[fdZ,.bool false])∧Below w.heap.size w w'
section
variable {w:World}
theorem e_next (x:Ev) (i:Nat) (hi:i≤100) (b:Nat) (v:Value) (l:List Fd) (h:w.heap[b]?=some (.cells #[v] 304 (0,0))) (hs:Sl w w.heap.size 4 v l.length (l.flatMap Fd.cells)):
  Calls Tryz.prog 180 #[evV x,.int .i64 i,.pointer (some ⟨b,0,none⟩)] w (FdRet l i w):=by
 obtain⟨a,c,rfl,-⟩:=hs.ex
 have d0:=row_cell h 0
 have lb:=row_lt h
 have B0:=hid (((Below.refl w.heap.size w).alloc (Nat.le_refl _) (.cells #[.int .i64 x.kind,.int .i64 x.tx,.int .i64 x.thread,.int .i64 x.obj,.int .i64 x.op,.int .i64 x.key,.int .i64 x.val,.int .i64 x.ret] 69)))
 by_cases hlt:i < l.length
 ·obtain ⟨g,off,y,rfl,hg,hy,hc⟩:=hs.atF Fd.len rfl hlt
  have c0:w.cell? ⟨g,off+i*4,none⟩=some (.func (.func y.f) #[] #[]):=hc 0 (by decide)
  have c1:w.cell? ⟨g,off+i*4+1,none⟩=some (.int .i64 y.tb):=hc 1 (by decide)
  have c2:w.cell? ⟨g,off+i*4+2,none⟩=some (.int .i64 y.lo):=hc 2 (by decide)
  have c3:w.cell? ⟨g,off+i*4+3,none⟩=some (.int .i64 y.hi):=hc 3 (by decide)
  unfold FdRet
  rw[hy]
  clear hs hc hy h
  generalize l.length=n at *
  go_enter Tryz.func180,Tryz.ntmps180
  go_wp2
  refine bodyPost_ret (v:=.tuple #[y.val,.bool true]) (by simp[results,Tryz.results180,go_sem]) rfl ⟨rfl,?_⟩
  exact B0.out.alloc (by simp) _
 ·have hn:l[i]?=none:=List.getElem?_eq_none (by omega)
  unfold FdRet
  rw[hn]
  clear hs h
  generalize l.length=n at *
  go_enter Tryz.func180,Tryz.ntmps180
  go_wp2
  refine bodyPost_ret (v:=.tuple #[fdZ,.bool false]) (by simp[results,Tryz.results180,go_sem]) rfl ⟨rfl,?_⟩
  exact B0.out.alloc (by simp) _
end
theorem e_answer1 {w:World} {b i:Nat} {s:ByteArray} (hi:i < 3) (h:w.heap[b]?=some (.cells #[.int .i64 i] 3 (0,0))) (hs:w.cell? ⟨21,i,none⟩=some (.string s)) (hl:21 < w.heap.size):Calls Tryz.prog 211 #[.pointer (some ⟨b,0,none⟩)] w fun e w'=>e=.returned (.string s)∧w'=w:=by
 have d0:=row_cell h 0
 have lb:=row_lt h
 have q1:decide ((i:Int) < 0)=false:=by simp
 have q2:decide ((3:Int)≤i)=false:=by simp;omega
 have q3:decide ((i:Int)≥3)=false:=by simp;omega
 have q4:decide (3≤i)=false:=by simp;omega
 clear h
 go_enter Tryz.func211,Tryz.ntmps211
 go_wp2
 go_ret
 exact⟨rfl,rfl⟩
theorem e_answer2 {w:World} {b i:Nat} {s:ByteArray} (hi:i < 3) (h:w.heap[b]?=some (.cells #[.int .i64 i] 3 (0,0))) (hs:w.cell? ⟨21,i,none⟩=some (.string s)) (hl:21 < w.heap.size):Calls Tryz.prog 207 #[.int .i64 i,.int .i64 3,.func (.func 211) #[] #[.pointer (some ⟨b,0,none⟩)]] w fun e w'=>e=.returned (.tuple #[.string s,.int .i64 3])∧w'=w:=by
 have q1:decide ((i:Int) < 0)=false:=by simp
 have q3:decide ((i:Int)≥3)=false:=by simp;omega
 have HC:=hid (e_answer1 hi h hs hl)
 clear h hs
 go_enter Tryz.func207,Tryz.ntmps207
 go_wp2_with fail
 refine(HC.out).mono ?_
 rintro e w1 ⟨rfl,rfl⟩
 go_wp2
 go_ret2
 exact⟨rfl,rfl⟩
theorem e_answer3 {w:World} {i:Nat} {s:ByteArray} (hi:i < 3) (hs:w.cell? ⟨21,i,none⟩=some (.string s)) (hl:21 < w.heap.size):Calls Tryz.prog 178 #[.int .i64 4,.int .i64 i] w fun e w'=>e=.returned (.tuple #[.string s,.int .i64 3])∧Below w.heap.size w w':=by
 have b0:Below w.heap.size w (w.alloc (.cells #[.int .i64 i] 3)):=(Below.refl _ w).alloc (Nat.le_refl _) _
 have HC:=hid (e_answer2 hi (row_new w (.cells #[.int .i64 i] 3)) (cell_below b0 hl hs) (by simp;omega))
 have B0:=hid b0
 clear b0 hs
 go_enter Tryz.func178,Tryz.ntmps178
 go_wp2_with fail
 refine(HC.out).mono ?_
 rintro e w1 ⟨rfl,rfl⟩
 go_wp2
 go_ret2
 exact⟨rfl,B0.out⟩
theorem e_answer {w:World} {i:Nat} {s:ByteArray} (hi:i < 3) (hs:w.cell? ⟨21,i,none⟩=some (.string s)) (hl:21 < w.heap.size):Calls Tryz.prog 130 #[.int .i64 4,.int .i64 ((i:Int)+1)] w fun e w'=>e=.returned (.string s)∧Below w.heap.size w w':=by
 have q1:max ((i:Int)+1) 0=(i:Int)+1:=by omega
 have q2:wrap64 ((i:Int)+1 - 1)=(i:Int):=by rw[IntWalk.wrap64_in _ (by omega)];omega
 have q3:decide ((i:Int)+1 < 0)=false:=by simp <;> omega
 have q4:decide (0 < (i:Int)+1)=true:=by simp <;> omega
 have HC:=hid (e_answer3 hi hs hl)
 clear hs
 go_enter Tryz.func130,Tryz.ntmps130
 go_wp2_with fail
 refine(HC.out).mono ?_
 rintro e w1 ⟨rfl,hb⟩
 have HB:=hid hb
 clear hb
 go_wp2
 go_ret
 exact⟨rfl,HB.out⟩
theorem e_object1 {w:World} {b i:Nat} {s:ByteArray} (hi:i < 4) (h:w.heap[b]?=some (.cells #[.int .i64 i] 3 (0,0))) (hs:w.cell? ⟨18,i,none⟩=some (.string s)) (hl:18 < w.heap.size):Calls Tryz.prog 208 #[.pointer (some ⟨b,0,none⟩)] w fun e w'=>e=.returned (.string s)∧w'=w:=by
 have d0:=row_cell h 0
 have lb:=row_lt h
 have q1:decide ((i:Int) < 0)=false:=by simp
 have q2:decide ((4:Int)≤i)=false:=by simp;omega
 have q3:decide ((i:Int)≥4)=false:=by simp;omega
 have q4:decide (4≤i)=false:=by simp;omega
 clear h
 go_enter Tryz.func208,Tryz.ntmps208
 go_wp2
 go_ret
 exact⟨rfl,rfl⟩
theorem e_object2 {w:World} {b i:Nat} {s:ByteArray} (hi:i < 4) (h:w.heap[b]?=some (.cells #[.int .i64 i] 3 (0,0))) (hs:w.cell? ⟨18,i,none⟩=some (.string s)) (hl:18 < w.heap.size):Calls Tryz.prog 207 #[.int .i64 i,.int .i64 4,.func (.func 208) #[] #[.pointer (some ⟨b,0,none⟩)]] w fun e w'=>e=.returned (.tuple #[.string s,.int .i64 4])∧w'=w:=by
 have q1:decide ((i:Int) < 0)=false:=by simp
 have q3:decide ((i:Int)≥4)=false:=by simp;omega
 have HC:=hid (e_object1 hi h hs hl)
 clear h hs
 go_enter Tryz.func207,Tryz.ntmps207
 go_wp2_with fail
 refine(HC.out).mono ?_
 rintro e w1 ⟨rfl,rfl⟩
 go_wp2
 go_ret2
 exact⟨rfl,rfl⟩
theorem e_object3 {w:World} {i:Nat} {s:ByteArray} (hi:i < 4) (hs:w.cell? ⟨18,i,none⟩=some (.string s)) (hl:18 < w.heap.size):Calls Tryz.prog 178 #[.int .i64 1,.int .i64 i] w fun e w'=>e=.returned (.tuple #[.string s,.int .i64 4])∧Below w.heap.size w w':=by
 have b0:Below w.heap.size w (w.alloc (.cells #[.int .i64 i] 3)):=(Below.refl _ w).alloc (Nat.le_refl _) _
 have HC:=hid (e_object2 hi (row_new w (.cells #[.int .i64 i] 3)) (cell_below b0 hl hs) (by simp;omega))
 have B0:=hid b0
 clear b0 hs
 go_enter Tryz.func178,Tryz.ntmps178
 go_wp2_with fail
 refine(HC.out).mono ?_
 rintro e w1 ⟨rfl,rfl⟩
 go_wp2
 go_ret2
 exact⟨rfl,B0.out⟩
theorem e_object {w:World} {i:Nat} {s:ByteArray} (hi:i < 4) (hs:w.cell? ⟨18,i,none⟩=some (.string s)) (hl:18 < w.heap.size):Calls Tryz.prog 130 #[.int .i64 1,.int .i64 ((i:Int)+1)] w fun e w'=>e=.returned (.string s)∧Below w.heap.size w w':=by
 have q1:max ((i:Int)+1) 0=(i:Int)+1:=by omega
 have q2:wrap64 ((i:Int)+1 - 1)=(i:Int):=by rw[IntWalk.wrap64_in _ (by omega)];omega
 have q3:decide ((i:Int)+1 < 0)=false:=by simp <;> omega
 have q4:decide (0 < (i:Int)+1)=true:=by simp <;> omega
 have HC:=hid (e_object3 hi hs hl)
 clear hs
 go_enter Tryz.func130,Tryz.ntmps130
 go_wp2_with fail
 refine(HC.out).mono ?_
 rintro e w1 ⟨rfl,hb⟩
 have HB:=hid hb
 clear hb
 go_wp2
 go_ret
 exact⟨rfl,HB.out⟩
end
