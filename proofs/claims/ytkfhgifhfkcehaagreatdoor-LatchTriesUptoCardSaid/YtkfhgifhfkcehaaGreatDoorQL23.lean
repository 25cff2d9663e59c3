/- Parts of the proof, merged by program out of 4 texts (OrB, ShM, ShN, ShL): the first: Deeds done again; orders of transactions, played on registers: plain lists. Conditions: those of each theorem, as typed. -/
import Derived.Test.YtkfhgifhfkcehaaGreatDoorQL20
import Derived.Test.YtkfhgifhfkcehaaGreatDoorQL22
import Derived.Test.YtkfhgifhfkcehaaGreatDoorQL01
import Derived.Test.YtkfhgifhfkcehaaGreatDoorQL16
set_option linter.unusedVariables false
set_option linter.unusedSimpArgs false
set_option linter.unusedSectionVars false
set_option maxRecDepth 100000
set_option maxHeartbeats 4000000
namespace Go.Proofs.YtkfhgifhfkcehaaGreatDoor
open Go.Maps Go.RowKit
def doD (σ:List Int) (d:Dd):Option (List Int):=
 if d.ret=0 then some σ
 else if d.op=2 then(if d.ret=1∧d.got=0 then some (σ.set d.obj.toNat d.val) else none)
 else(if d.ret=3∧σ[d.obj.toNat]?=some d.got then some σ else none)
def rep:List Int→List Dd→Option (List Int)
 |σ,[]=>some σ
 |σ,d::l=>match doD σ d with
  |some τ=>rep τ l
  |none=>none
theorem rep_app {l m:List Dd}:∀{σ:List Int},rep σ (l++m)=match rep σ l with
  |some τ=>rep τ m
  |none=>none:=by
 induction l with
 |nil=>intro σ;rfl
 |cons d l ih=>
  intro σ
  simp only[List.cons_append,rep]
  cases doD σ d with
  |none=>rfl
  |some τ=>exact ih
theorem rep_snoc {l:List Dd} {d:Dd} {σ τ:List Int} (h:rep σ l=some τ):rep σ (l++[d])=doD τ d:=by
 rw[rep_app,h]
 simp only[rep]
 cases doD τ d <;> rfl
theorem rep_call {l:List Dd} {d:Dd} {σ:List Int} (h:d.ret=0):rep σ (l++[d])=rep σ l:=by
 rw[rep_app]
 cases rep σ l with
 |none=>rfl
 |some τ=>simp[rep,doD,h]
theorem doD_len {σ τ:List Int} {d:Dd} (h:doD σ d=some τ):τ.length=σ.length:=by
 unfold doD at h
 split at h
 ·cases h;rfl
 ·split at h
  ·split at h
   ·cases h;simp
   ·cases h
  ·split at h
   ·cases h;rfl
   ·cases h
theorem rep_len:∀{l:List Dd} {σ τ:List Int},rep σ l=some τ→τ.length=σ.length
 |[],σ,τ,h=>by cases h;rfl
 |d::l,σ,τ,h=>by
  simp only[rep] at h
  cases hd:doD σ d with
  |none=>rw[hd] at h;cases h
  |some ρ=>rw[hd] at h;rw[rep_len h,doD_len hd]
theorem doD_val {σ τ:List Int} {d:Dd} (hd:-1000000000≤d.val∧d.val≤1000000000) (hs:∀x ∈ σ,-1000000000≤x∧x≤1000000000) (h:doD σ d=some τ):∀x ∈ τ,-1000000000≤x∧x≤1000000000:=by
 unfold doD at h
 split at h
 ·cases h;exact hs
 ·split at h
  ·split at h
   ·cases h
    intro x hx
    rcases List.mem_or_eq_of_mem_set hx with hx|rfl
    ·exact hs x hx
    ·exact hd
   ·cases h
  ·split at h
   ·cases h;exact hs
   ·cases h
theorem rep_val:∀{l:List Dd} {σ τ:List Int},(∀d ∈ l,-1000000000≤d.val∧d.val≤1000000000)→(∀x ∈ σ,-1000000000≤x∧x≤1000000000)→rep σ l=some τ→∀x ∈ τ,-1000000000≤x∧x≤1000000000
 |[],σ,τ,_,hs,h=>by cases h;exact hs
 |d::l,σ,τ,hd,hs,h=>by
  simp only[rep] at h
  cases he:doD σ d with
  |none=>rw[he] at h;cases h
  |some ρ=>
   rw[he] at h
   exact rep_val (fun e hx=>hd e (List.mem_cons_of_mem _ hx)) (doD_val (hd d (List.mem_cons_self ..)) hs he) h
def stepO (dl:Int→List Dd) (fin:Bool) (σ:List Int) (p:Int×Bool):Option (List Int):=
 if p.2=false∧fin=false then some σ
 else match rep σ (dl p.1) with
  |some τ=>some (if p.2=true then τ else σ)
  |none=>none
def playO (dl:Int→List Dd) (fin:Bool):List Int→List (Int×Bool)→Option (List Int)
 |σ,[]=>some σ
 |σ,p::l=>match stepO dl fin σ p with
  |some τ=>playO dl fin τ l
  |none=>none
section
variable {dl dl':Int→List Dd} {fin:Bool}
theorem playO_app {l m:List (Int×Bool)}:∀{σ:List Int},playO dl fin σ (l++m)=match playO dl fin σ l with
  |some τ=>playO dl fin τ m
  |none=>none:=by
 induction l with
 |nil=>intro σ;rfl
 |cons d l ih=>
  intro σ
  simp only[List.cons_append,playO]
  cases stepO dl fin σ d with
  |none=>rfl
  |some τ=>exact ih
theorem playO_snoc {l:List (Int×Bool)} {p:Int×Bool} {σ τ:List Int} (h:playO dl fin σ l=some τ):playO dl fin σ (l++[p])=stepO dl fin τ p:=by
 rw[playO_app,h]
 simp only[playO]
 cases stepO dl fin τ p <;> rfl
theorem playO_congr:∀{l:List (Int×Bool)} {σ:List Int},(∀p ∈ l,∀ρ,rep ρ (dl p.1)=rep ρ (dl' p.1))→playO dl fin σ l=playO dl' fin σ l
 |[],_,_=>rfl
 |p::l,σ,h=>by
  have e:stepO dl fin σ p=stepO dl' fin σ p:=by unfold stepO;rw[h p (List.mem_cons_self ..) σ]
  simp only[playO,e]
  cases stepO dl' fin σ p with
  |none=>rfl
  |some τ=>exact playO_congr fun q hq=>h q (List.mem_cons_of_mem _ hq)
theorem playO_filter {f:Int×Bool→Bool}:∀{l:List (Int×Bool)} {σ τ:List Int},(∀q ∈ l,f q=false→q.2=false)→playO dl fin σ l=some τ→playO dl fin σ (l.filter f)=some τ
 |[],_,_,_,h=>h
 |p::l,σ,τ,hf,h=>by
  simp only[playO] at h
  cases hs:stepO dl fin σ p with
  |none=>rw[hs] at h;cases h
  |some ρ=>
   rw[hs] at h
   have ih:=playO_filter (f:=f) (fun q hq=>hf q (List.mem_cons_of_mem _ hq)) h
   cases hp:f p with
   |true=>
    rw[List.filter_cons_of_pos hp]
    simp only[playO,hs]
    exact ih
   |false=>
    rw[List.filter_cons_of_neg (by simp[hp])]
    have h2:=hf p (List.mem_cons_self ..) hp
    have:ρ=σ:=by
     unfold stepO at hs
     rw[h2] at hs
     split at hs
     ·cases hs;rfl
     ·cases hr:rep σ (dl p.1) with
      |none=>rw[hr] at hs;cases hs
      |some x=>rw[hr] at hs;simp at hs;exact hs.symm
    rw[←this]
    exact ih
theorem stepO_len {σ τ:List Int} {p:Int×Bool} (h:stepO dl fin σ p=some τ):τ.length=σ.length:=by
 unfold stepO at h
 split at h
 ·cases h;rfl
 ·cases hr:rep σ (dl p.1) with
  |none=>rw[hr] at h;cases h
  |some x=>
   rw[hr] at h
   simp only[Option.some.injEq] at h
   rw[←h]
   split
   ·exact rep_len hr
   ·rfl
theorem playO_len:∀{l:List (Int×Bool)} {σ τ:List Int},playO dl fin σ l=some τ→τ.length=σ.length
 |[],σ,τ,h=>by cases h;rfl
 |p::l,σ,τ,h=>by
  simp only[playO] at h
  cases hd:stepO dl fin σ p with
  |none=>rw[hd] at h;cases h
  |some ρ=>rw[hd] at h;rw[playO_len h,stepO_len hd]
def toEnd (x:Int) (c:Bool) (l:List (Int×Bool)):List (Int×Bool):=l.filter (fun p=>!(p.1==x))++[(x,c)]
theorem mem_toEnd {x:Int} {c:Bool} {l:List (Int×Bool)} {p:Int×Bool}:p ∈ toEnd x c l↔p=(x,c)∨(p ∈ l∧p.1≠x):=by
 unfold toEnd
 simp only[List.mem_append,List.mem_filter,List.mem_singleton,Bool.not_eq_true',beq_eq_false_iff_ne]
 exact Or.comm
theorem toEnd_play {x:Int} {c:Bool} {l:List (Int×Bool)} {σ τ:List Int} (h:playO dl fin σ l=some τ) (hn:∀b,(x,b) ∈ l→b=false) (hs:∀y,y≠x→∀ρ,rep ρ (dl' y)=rep ρ (dl y)):playO dl' fin σ (toEnd x c l)=stepO dl' fin τ (x,c):=by
 unfold toEnd
 refine playO_snoc ?_
 rw[playO_congr (dl':=dl) fun p hp ρ=>?_]
 ·refine playO_filter (fun q hq hf=>?_) h
  have h1:q.1=x:=by simpa using hf
  exact hn q.2 (by rw[←h1];exact hq)
 ·have:=(List.mem_filter.1 hp).2
  exact hs p.1 (by simpa using this) ρ
theorem perm_toEnd {x:Int} {c b:Bool} {l:List (Int×Bool)} (hx:(x,b) ∈ l) (hn:(l.map (·.1)).Nodup):((toEnd x c l).map (·.1)).Perm (l.map (·.1)):=by
 induction l with
 |nil=>cases hx
 |cons p l ih=>
  simp only[List.map_cons,List.nodup_cons] at hn
  unfold toEnd
  by_cases hp:p.1=x
  ·rw [List.filter_cons_of_neg (by simp[hp])]
   have:l.filter (fun q=>!(q.1==x))=l:=by
    rw[List.filter_eq_self]
    intro q hq
    have:q.1≠x:=fun e=>hn.1 (by rw[hp,←e];exact List.mem_map_of_mem hq)
    simpa using this
   rw[this,List.map_append,List.map_cons,List.map_cons,hp]
   exact List.perm_append_comm
  ·rw [List.filter_cons_of_pos (by simpa using hp)]
   simp only[List.cons_append,List.map_cons]
   refine List.Perm.cons _ (ih ?_ hn.2)
   rcases List.mem_cons.1 hx with h|h
   ·exact absurd (by rw[←h]) hp
   ·exact h
end
section
attribute [local irreducible] wpL
structure Chg (S:Nat→Prop) (w w':World):Prop where
 os:w'.os=w.os
 tape:w'.tape=w.tape
 output:w'.output=w.output
 size:w.heap.size≤w'.heap.size
 keep:∀k,k < w.heap.size→¬S k→w'.heap[k]?=w.heap[k]?
section
variable {S T:Nat→Prop} {w w' w1:World}
theorem Chg.refl (w:World):Chg S w w:=⟨rfl,rfl,rfl,Nat.le_refl _,fun _ _ _=>rfl⟩
theorem Chg.trans (h:Chg S w w1) (k:Chg T w1 w') (hT:∀j,j < w.heap.size→T j→S j):Chg S w w':=
 ⟨k.os.trans h.os,k.tape.trans h.tape,k.output.trans h.output,Nat.le_trans h.size k.size,fun j hj hs=>(k.keep j (Nat.lt_of_lt_of_le hj h.size) fun ht=>hs (hT j hj ht)).trans (h.keep j hj hs)⟩
theorem Chg.mono (h:Chg S w w') (hS:∀j,S j→T j):Chg T w w':=⟨h.os,h.tape,h.output,h.size,fun j hj ht=>h.keep j hj fun hs=>ht (hS j hs)⟩
theorem Chg.of_below (h:Below w.heap.size w w'):Chg S w w':=⟨h.os,h.tape,h.output,h.size,fun j hj _=>h.block j hj⟩
theorem Chg.below {B:Nat} (h:Chg S w w') (hS:∀j,S j→B≤j) (hB:B≤w.heap.size):Below B w w':=⟨h.os,h.tape,h.output,h.size,fun j hj=>h.keep j (by omega) fun hs=>by have:=hS j hs;omega⟩
theorem Chg.set (h:Chg S w w') {g j:Nat} {v:Value} (hg:S g):Chg S w (w'.setCell ⟨g,j,none⟩ v):=
 ⟨h.os,h.tape,h.output,by have:=h.size;rw[show (w'.setCell ⟨g,j,none⟩ v).heap.size=w'.heap.size from by simp];exact this,fun k hk hs=>(Go.RowKit.Below.heap_setCell _ _ _ _ (by rintro rfl;exact hs hg)).trans (h.keep k hk hs)⟩
theorem Chg.alloc (h:Chg S w w') (o:Obj):Chg S w (w'.alloc o):=⟨h.os,h.tape,h.output,by have:=h.size;simp;omega,fun k hk hs=>(heap_alloc_old w' o (by have:=h.size;omega)).trans (h.keep k hk hs)⟩
theorem Chg.drew (h:Chg S w w'):Chg S w w'.drew:=⟨h.os,h.tape,h.output,h.size,h.keep⟩
theorem Chg.turned {b:Nat} (h:w.mapTurned w' b) (hb:S b):Chg S w w':=by
 obtain⟨es,c,es',c',hh,rfl⟩:=h
 exact⟨rfl,rfl,rfl,by simp[ChangeMaps.setBlock],fun k hk hs=>Go.ChangeMaps.heap_setBlock_other hh _ (by rintro rfl;exact hs hb)⟩
theorem Chg.grw {v v':Value} (h:Grw w w' v v') (hv:∀k,v.ownBlock=some k→S k):Chg S w w':=
 ⟨h.grown.os,h.grown.tape,h.grown.output,h.grown.size,fun k hk hs=>h.grown.block k hk fun e=>hs (hv k e.symm)⟩
theorem Chg.row {g:Nat} {x:Obj} (h:Chg S w w') (hg:w.heap[g]?=some x) (hs:¬S g):w'.heap[g]?=some x:=(h.keep g (row_lt hg) hs).trans hg
theorem OwnF.typ {α:Type} {f:α→List Value} {e:TypeId} {sz B:Nat} {v:Value} {l:List α} (h:OwnF f e sz w B v l) {g:Nat} (hg:v.ownBlock=some g):∃cs fz,w.heap[g]?=some (.cells cs e fz):=by
 obtain⟨-,h2⟩:=h
 rcases h2 with⟨rfl,-⟩|⟨g',cap,cur,rfl,-,hh,-⟩
 ·cases hg
 ·simp only[Value.ownBlock,Option.some.injEq] at hg
  subst hg
  exact⟨_,_,hh⟩
theorem OwnF.chg {α:Type} {f:α→List Value} {e:TypeId} {sz B:Nat} {v:Value} {l:List α} (h:OwnF f e sz w B v l) (hc:Chg S w w') (hs:∀g,v.ownBlock=some g→¬S g):OwnF f e sz w' B v l:=by
 obtain⟨h1,h2⟩:=h
 refine⟨h1,?_⟩
 rcases h2 with h2|⟨g,cap,cur,rfl,hg,hh,r⟩
 ·exact .inl h2
 ·exact .inr ⟨g,cap,cur,rfl,hg,hc.row hh (hs g rfl),r⟩
theorem RawM.chg {b:Nat} {M:Int→Option Value} (h:RawM w b M) (hc:Chg S w w') (hs:¬S b):RawM w' b M:=h.obj (hc.keep b h.lt hs)
end
def stCs (s:St) (dv:Value):List Value:=[.int .i64 s.id,.int .i64 s.thread,.int .i64 s.status,.int .i64 s.beg,.int .i64 s.fin,.int .i64 s.tri,dv,.int .i64 s.stand]
abbrev OwnD (w:World) (B:Nat) (v:Value) (l:List Dd):Prop:=OwnF Dd.cells 291 8 w B v l
structure StAt (w:World) (B:Nat) (p:Nat×Value) (s:St):Prop where
 row:w.heap[p.1]?=some (.cells (stCs s p.2).toArray 151 (0,0))
 hB:B≤p.1
 dds:OwnD w B p.2 s.deeds
def stS (p:Nat×Value):Nat→Prop:=fun k=>k=p.1∨p.2.ownBlock=some k
def ptrV (g:Nat):Value:=.pointer (some ⟨g,0,none⟩)
structure AuIn (w:World) (B bA bY bZ:Nat) (ov tv:Value) (os:List Ob) (n:Nat) (A:Au) (Z:Int→Prop) (bs:List (Nat×Value)):Prop where
 row:w.heap[bA]?=some (.cells #[ov,.int .i64 n,tv,.map (some bY),.map (some bZ)] 148 (0,0))
 hB:B≤bA
 obs:OwnF Ob.cells 96 2 w B ov os
 txs:OwnF valC 149 1 w B tv (bs.map fun p=>ptrV p.1)
 len:bs.length=A.length
 sts:∀(k:Nat) (p:Nat×Value) (s:St),bs[k]?=some p→A[k]?=some s→StAt w B p s
 nod:(bs.map (·.1)).Nodup
 dis:∀(j k:Nat) (p q:Nat×Value),bs[j]?=some p→bs[k]?=some q→j≠k→∀g,p.2.ownBlock=some g→q.2.ownBlock≠some g
 by_:B≤bY∧∃M,RawM w bY M∧(∀(k:Nat) (p:Nat×Value) (s:St),bs[k]?=some p→A[k]?=some s→M s.id=some (ptrV p.1))∧∀x,¬hasId x A→M x=none
 bz:B≤bZ∧∃M,RawM w bZ M∧∀x,¬Z x→M x=none
 ne:bY≠bZ
def AuAt (w:World) (B bA:Nat) (os:List Ob) (n:Nat) (A:Au):Prop:=∃bY bZ ov tv bs,AuIn w B bA bY bZ ov tv os n A (fun x=>isBusy x A) bs
section
variable {w w':World} {B bA bY bZ n:Nat} {ov tv:Value} {os:List Ob} {A:Au} {Z:Int→Prop} {bs:List (Nat×Value)}
theorem StAt.typ {p:Nat×Value} {s:St} (h:StAt w B p s) {k:Nat} (hk:stS p k):∃cs t fz,w.heap[k]?=some (.cells cs t fz)∧(t=151∨t=291):=by
 rcases hk with rfl|hk
 ·exact ⟨_,_,_,h.row,.inl rfl⟩
 ·obtain ⟨cs,fz,hh⟩:=OwnF.typ h.dds hk
  exact⟨_,_,_,hh,.inr rfl⟩
theorem StAt.ge {p:Nat×Value} {s:St} (h:StAt w B p s) {k:Nat} (hk:stS p k):B≤k:=by
 rcases hk with rfl|hk
 ·exact h.hB
 ·exact (OwnF.lt h.dds k hk).1
theorem StAt.notCells {p:Nat×Value} {s:St} (h:StAt w B p s) {g:Nat} {cs:Array Value} {t:TypeId} {fz:Nat×Nat} (hg:w.heap[g]?=some (.cells cs t fz)) (h1:t≠151) (h2:t≠291):¬stS p g:=fun hk=>by
 obtain⟨cs',t',fz',hh,ht⟩:=h.typ hk
 rw[hg] at hh
 simp only[Option.some.injEq,Obj.cells.injEq] at hh
 rcases ht with ht|ht
 ·exact h1 (hh.2.1.trans ht)
 ·exact h2 (hh.2.1.trans ht)
theorem StAt.notMap {p:Nat×Value} {s:St} (h:StAt w B p s) {g:Nat} (hg:∃es c,w.heap[g]?=some (.map es c)):¬stS p g:=fun hk=>by
 obtain⟨cs',t',fz',hh,-⟩:=h.typ hk
 obtain⟨es,c,hg⟩:=hg
 rw[hg] at hh
 cases hh
theorem AuIn.get (h:AuIn w B bA bY bZ ov tv os n A Z bs) {k:Nat} {s:St} (hs:A[k]?=some s):∃p,bs[k]?=some p∧StAt w B p s:=by
 have hk:=(List.getElem?_eq_some_iff.1 hs).1
 obtain⟨p,hp⟩:∃p,bs[k]?=some p:=⟨_,List.getElem?_eq_getElem (by rw[h.len];exact hk)⟩
 exact⟨p,hp,h.sts k p s hp hs⟩
theorem AuIn.apart (h:AuIn w B bA bY bZ ov tv os n A Z bs) {j k:Nat} {p q:Nat×Value} {s t:St} (hp:bs[j]?=some p) (hq:bs[k]?=some q) (hs:A[j]?=some s) (ht:A[k]?=some t) (hne:j≠k) {g:Nat} (hg:stS p g):¬stS q g:=by
 have hj:=(List.getElem?_eq_some_iff.1 hp).1
 rcases hg with rfl|hg
 ·rintro (hk|hk)
  ·have:=(List.getElem?_inj (i:=j) (j:=k) (by simpa using hj) h.nod).1 (by simp[hp,hq,hk])
   exact hne this
  ·obtain ⟨cs,fz,hh⟩:=OwnF.typ (h.sts k q t hq ht).dds hk
   rw[(h.sts j p s hp hs).row] at hh
   simp at hh
 ·rintro (hk|hk)
  ·obtain ⟨cs,fz,hh⟩:=OwnF.typ (h.sts j p s hp hs).dds hg
   rw[hk,(h.sts k q t hq ht).row] at hh
   simp at hh
  ·exact h.dis j k p q hp hq hne g hg hk
theorem StAt.chg {S:Nat→Prop} {p:Nat×Value} {s:St} (h:StAt w B p s) (hc:Chg S w w') (hs:∀g,stS p g→¬S g):StAt w' B p s:=⟨hc.row h.row (hs _ (.inl rfl)),h.hB,OwnF.chg h.dds hc fun g hg=>hs g (.inr hg)⟩
theorem AuIn.chg {S:Nat→Prop} (h:AuIn w B bA bY bZ ov tv os n A Z bs) (hc:Chg S w w') (hS:∀k,k < w.heap.size→¬S k):AuIn w' B bA bY bZ ov tv os n A Z bs:=by
 have hw:∀k x,w.heap[k]?=some x→¬S k:=fun k x hx=>hS k (row_lt hx)
 refine⟨hc.row h.row (hw _ _ h.row),h.hB,OwnF.chg h.obs hc fun g hg=>hS g (OwnF.lt h.obs g hg).2,OwnF.chg h.txs hc fun g hg=>hS g (OwnF.lt h.txs g hg).2,h.len,fun k p s hp hs=>(h.sts k p s hp hs).chg hc fun g hg=>?_,h.nod,h.dis,⟨h.by_.1,?_⟩,⟨h.bz.1,?_⟩,h.ne⟩
 ·obtain ⟨cs,t,fz,hh,-⟩:=(h.sts k p s hp hs).typ hg
  exact hw _ _ hh
 ·obtain ⟨M,h1,h2⟩:=h.by_.2
  exact⟨M,h1.chg hc (hS _ h1.lt),h2⟩
 ·obtain ⟨M,h1,h2⟩:=h.bz.2
  exact⟨M,h1.chg hc (hS _ h1.lt),h2⟩
theorem AuIn.below (h:AuIn w B bA bY bZ ov tv os n A Z bs) (hb:Below w.heap.size w w'):AuIn w' B bA bY bZ ov tv os n A Z bs:=h.chg (S:=fun _=>False) (Chg.of_below hb) (fun _ _ h=>h)
theorem AuIn.moved (h:AuIn w B bA bY bZ ov tv os n A Z bs) {k:Nat} {p:Nat×Value} {s s':St} (hp:bs[k]?=some p) (hs:A[k]?=some s) (hc:Chg (stS p) w w') {dv:Value} (hst:StAt w' B (p.1,dv) s') (hid:s'.id=s.id) (hth:s'.thread=s.thread)
  (hdv:∀g,dv.ownBlock=some g→p.2.ownBlock=some g∨w.heap.size≤g):AuIn w' B bA bY bZ ov tv os n (A.set k s') Z (bs.set k (p.1,dv)):=by
 have hsp:=h.sts k p s hp hs
 have hmap:(bs.set k (p.1,dv)).map (fun p=>ptrV p.1)=bs.map fun p=>ptrV p.1:=by
  apply List.ext_getElem?
  intro j
  by_cases e:k=j
  ·subst e
   rw[List.getElem?_map,List.getElem?_map,List.getElem?_set_self (List.getElem?_eq_some_iff.1 hp).1,hp];rfl
  ·rw [List.getElem?_map,List.getElem?_map,List.getElem?_set_ne e]
 have hmap1:(bs.set k (p.1,dv)).map (·.1)=bs.map (·.1):=by
  apply List.ext_getElem?
  intro j
  by_cases e:k=j
  ·subst e
   rw[List.getElem?_map,List.getElem?_map,List.getElem?_set_self (List.getElem?_eq_some_iff.1 hp).1,hp];rfl
  ·rw [List.getElem?_map,List.getElem?_map,List.getElem?_set_ne e]
 have fresh:∀(j:Nat) (q:Nat×Value) (t:St),bs[j]?=some q→A[j]?=some t→∀g,q.2.ownBlock=some g→g < w.heap.size:=fun j q t hq ht g hg=>(OwnF.lt (h.sts j q t hq ht).dds g hg).2
 have getA:∀(j:Nat) (q:Nat×Value),bs[j]?=some q→∃t,A[j]?=some t:=fun j q hq=>⟨_,List.getElem?_eq_getElem (by rw[←h.len];exact(List.getElem?_eq_some_iff.1 hq).1)⟩
 refine⟨hc.row h.row (hsp.notCells h.row (by decide) (by decide)),h.hB,OwnF.chg h.obs hc fun g hg=>?_,?_,by simpa using h.len,fun j q t hq ht=>?_,by rw[hmap1];exact h.nod,fun i j q r hq hr hne g hg=>?_,⟨h.by_.1,?_⟩,⟨h.bz.1,?_⟩,h.ne⟩
 ·obtain ⟨cs,fz,hh⟩:=OwnF.typ h.obs hg
  exact hsp.notCells hh (by decide) (by decide)
 ·rw [hmap]
  refine OwnF.chg h.txs hc fun g hg=>?_
  obtain⟨cs,fz,hh⟩:=OwnF.typ h.txs hg
  exact hsp.notCells hh (by decide) (by decide)
 ·rcases get_set hq with⟨rfl,rfl⟩|⟨hne,hq⟩
  ·rcases get_set ht with⟨-,rfl⟩|⟨hne,-⟩
   ·exact hst
   ·exact absurd rfl hne
  ·rw [List.getElem?_set_ne hne] at ht
   exact(h.sts j q t hq ht).chg hc fun g hg=>h.apart hq hp ht hs (Ne.symm hne) hg
 ·rcases get_set hq with⟨rfl,rfl⟩|⟨hne1,hq⟩
  ·rw [List.getElem?_set_ne hne] at hr
   obtain⟨t,ht⟩:=getA j r hr
   rcases hdv g hg with h1|h1
   ·exact h.dis k j p r hp hr hne g h1
   ·intro h2
    have:=fresh j r t hr ht g h2
    omega
  ·rcases get_set hr with⟨rfl,rfl⟩|⟨hne2,hr⟩
   ·intro h2
    obtain⟨t,ht⟩:=getA i q hq
    rcases hdv g h2 with h1|h1
    ·exact h.dis i k q p hq hp hne g hg h1
    ·have:=fresh i q t hq ht g hg
     omega
   ·exact h.dis i j q r hq hr hne g hg
 ·obtain ⟨M,h1,h2,h3⟩:=h.by_.2
  refine⟨M,h1.chg hc (hsp.notMap h1.isMap),fun j q t hq ht=>?_,fun x hx=>h3 x fun hh=>hx ?_⟩
  ·rcases get_set hq with⟨rfl,rfl⟩|⟨hne,hq⟩
   ·rcases get_set ht with⟨-,rfl⟩|⟨hne,-⟩
    ·rw [hid];exact h2 k p s hp hs
    ·exact absurd rfl hne
   ·rw [List.getElem?_set_ne hne] at ht
    exact h2 j q t hq ht
  ·obtain ⟨t,ht,hti⟩:=hh
   obtain⟨j,hj⟩:=List.mem_iff_getElem?.1 ht
   by_cases e:k=j
   ·subst e
    rw[hs] at hj
    obtain rfl:=Option.some.inj hj
    exact⟨s',mem_set_self hs,hid.trans hti⟩
   ·exact ⟨t,List.mem_iff_getElem?.2 ⟨j,by rw[List.getElem?_set_ne e];exact hj⟩,hti⟩
 ·obtain ⟨M,h1,h2⟩:=h.bz.2
  exact⟨M,h1.chg hc (hsp.notMap h1.isMap),h2⟩
theorem AuIn.zmono {Z':Int→Prop} (h:AuIn w B bA bY bZ ov tv os n A Z bs) (hz:∀x,Z x→Z' x):AuIn w B bA bY bZ ov tv os n A Z' bs:=
 ⟨h.row,h.hB,h.obs,h.txs,h.len,h.sts,h.nod,h.dis,h.by_,⟨h.bz.1,let ⟨M,h1,h2⟩:=h.bz.2;⟨M,h1,fun x hx=>h2 x fun e=>hx (hz x e)⟩⟩,h.ne⟩
end
end
section
attribute [local irreducible] wpL
def MvRet (w:World) (B:Nat) (p:Nat×Value) (s':St) (e:Ending) (w':World):Prop:=e=.returned .nilIface∧∃dv,StAt w' B (p.1,dv) s'∧Chg (stS p) w w'∧∀g,dv.ownBlock=some g→p.2.ownBlock=some g∨w.heap.size≤g
theorem StAt.size {w:World} {B:Nat} {p:Nat×Value} {s:St} (h:StAt w B p s):p.1 < w.heap.size:=row_lt h.row
theorem StAt.own {w w':World} {B p:Nat} {dv:Value} {s s':St} (h:StAt w B (p,dv) s) (hc:Chg (fun k=>k=p) w w') (hr:w'.heap[p]?=some (.cells (stCs s' dv).toArray 151 (0,0))) (hd:s'.deeds=s.deeds):∃dv',StAt w' B (p,dv') s'∧Chg (stS (p,dv)) w w'∧∀g,dv'.ownBlock=some g→dv.ownBlock=some g∨w.heap.size≤g:=by
 refine⟨dv,⟨hr,h.hB,?_⟩,hc.mono fun j hj=>.inl hj,fun g hg=>.inl hg⟩
 rw[hd]
 refine OwnF.chg h.dds hc fun g hg hk=>?_
 obtain⟨cs,fz,hh⟩:=OwnF.typ h.dds hg
 rw[hk,h.row] at hh
 simp at hh
section
variable {w:World} {B p:Nat} {dv:Value} {s:St}
theorem mv_can (xk xx xh xj xo xy xv xr:Int) (n:Nat) (h:StAt w B (p,dv) s):
  Calls Tryz.prog 158 #[.pointer (some ⟨p,0,none⟩),evV ⟨xk,xx,xh,xj,xo,xy,xv,xr⟩,.int .i64 n] w (MvRet w B (p,dv) (canS s)):=by
 have l0:=row_lt h.row
 have H:=hid h
 have r0:=h.row
 have y:=row_cell r0
 have y0:=y 0
 have y1:=y 1
 have y2:=y 2
 have y3:=y 3
 have y4:=y 4
 have y5:=y 5
 have y6:=y 6
 have y7:=y 7
 simp[stCs] at y0 y1 y2 y3 y4 y5 y6 y7
 have yf:∀j,w.frozen? ⟨p,j,none⟩=false:=fun j=>row_free r0 j
 have R0:=hid r0
 clear y h r0
 go_enter Tryz.func158,Tryz.ntmps158
 go_wp2
 go_ret
 have r1:=row_set R0.out 7 (.int .i64 4)
 have rz:=row_old (o:=.cells #[.int .i64 xk,.int .i64 xx,.int .i64 xh,.int .i64 xj,.int .i64 xo,.int .i64 xy,.int .i64 xv,.int .i64 xr] 53) r1
 exact⟨rfl,H.out.own (s':=(canS s)) (((Chg.refl (S:=fun k=>k=p) w).set (g:=p) (j:=7) rfl (v:=.int .i64 4)).alloc _) rz rfl⟩
theorem mv_try (xk xx xh xj xo xy xv xr:Int) (n:Nat) (h:StAt w B (p,dv) s):
  Calls Tryz.prog 157 #[.pointer (some ⟨p,0,none⟩),evV ⟨xk,xx,xh,xj,xo,xy,xv,xr⟩,.int .i64 n] w (MvRet w B (p,dv) (tryS n s)):=by
 have l0:=row_lt h.row
 have H:=hid h
 have r0:=h.row
 have y:=row_cell r0
 have y0:=y 0
 have y1:=y 1
 have y2:=y 2
 have y3:=y 3
 have y4:=y 4
 have y5:=y 5
 have y6:=y 6
 have y7:=y 7
 simp[stCs] at y0 y1 y2 y3 y4 y5 y6 y7
 have yf:∀j,w.frozen? ⟨p,j,none⟩=false:=fun j=>row_free r0 j
 have R0:=hid r0
 clear y h r0
 go_enter Tryz.func157,Tryz.ntmps157
 go_wp2
 go_ret
 have r1:=row_set R0.out 7 (.int .i64 3)
 have r2:=row_set r1 5 (.int .i64 n)
 have r3:=row_set r2 2 (.int .i64 2)
 have rz:=row_old (o:=.cells #[.int .i64 xk,.int .i64 xx,.int .i64 xh,.int .i64 xj,.int .i64 xo,.int .i64 xy,.int .i64 xv,.int .i64 xr] 53) r3
 exact⟨rfl,H.out.own (s':=(tryS n s)) (((((Chg.refl (S:=fun k=>k=p) w).set (g:=p) (j:=7) rfl (v:=.int .i64 3)).set (g:=p) (j:=5) rfl (v:=.int .i64 n)).set (g:=p) (j:=2) rfl (v:=.int .i64 2)).alloc _) rz rfl⟩
theorem mv_end (xk xx xh xj xo xy xv xr:Int) (n:Nat) (c:Nat) (st:Int) (hc:w.heap[c]?=some (.cells #[.int .i64 st] 3 (0,0))) (hcp:c≠p) (h:StAt w B (p,dv) s):
  Calls Tryz.prog 153 #[.pointer (some ⟨p,0,none⟩),evV ⟨xk,xx,xh,xj,xo,xy,xv,xr⟩,.int .i64 n,.pointer (some ⟨c,0,none⟩)] w (MvRet w B (p,dv) (endS st n s)):=by
 have l0:=row_lt h.row
 have H:=hid h
 have r0:=h.row
 have y:=row_cell r0
 have y0:=y 0
 have y1:=y 1
 have y2:=y 2
 have y3:=y 3
 have y4:=y 4
 have y5:=y 5
 have y6:=y 6
 have y7:=y 7
 simp[stCs] at y0 y1 y2 y3 y4 y5 y6 y7
 have yf:∀j,w.frozen? ⟨p,j,none⟩=false:=fun j=>row_free r0 j
 have R0:=hid r0
 clear y h r0
 have hc0:=row_cell hc 0
 have lc:=row_lt hc
 simp at hc0
 clear hc
 go_enter Tryz.func153,Tryz.ntmps153
 go_wp2_with fail
 obtain⟨W,hW⟩:∃W,W=w.alloc (.cells #[.int .i64 xk,.int .i64 xx,.int .i64 xh,.int .i64 xj,.int .i64 xo,.int .i64 xy,.int .i64 xv,.int .i64 xr] 53):=⟨_,rfl⟩
 have bW:Below w.heap.size w W:=by rw[hW];exact(Below.refl _ w).alloc (Nat.le_refl _) _
 rw[←hW]
 have r1:=row_below R0.out bW l0
 clear y0 y1 y2 y3 y4 y5 y6 y7 yf
 have y:=row_cell r1
 have y0:=y 0
 have y1:=y 1
 have y2:=y 2
 have y3:=y 3
 have y4:=y 4
 have y5:=y 5
 have y6:=y 6
 have y7:=y 7
 simp[stCs] at y0 y1 y2 y3 y4 y5 y6 y7
 have yf:∀j,W.frozen? ⟨p,j,none⟩=false:=fun j=>row_free r1 j
 have l1:=row_lt r1
 have lcW:w.heap.size≤W.heap.size:=bW.size
 have hc0:=cell_below bW lc hc0
 have lc1:c < W.heap.size:=by omega
 have R1:=hid r1
 have BW:=hid bW
 clear y r1 bW hW
 refine wp_rK (fun k=>k=c) [0,0,0,0,1,0,0,3,0,0,0,3,0,0,0,3] (.fin [0,1,2,3,4,5,6,7,8,9,10,11,12,13,14,15]) (by kernel_rfl) ?_
 simp only[wpT,selX,guardAt,sD,sE,sF,sG]
 repeat first|(refine wpL_p fun K hK=>?_;go_simp;refine hK _ _ ?_;clear hK K)|(apply wpL_s;(intro w2 hw2;have hk1:=hw2.cell;(try simp only at hk1);have hk3:=hw2.1;clear hw2;go_simp;with_reducible rfl);simp only[Act.put,sA,sB,sC])
 refine wpL_k (fun K hK=>?_)
 go_simp
 refine hK _ _ (RK.KeepsN.set _ _ _ (fun h=>hcp h.symm)) ?_
 clear hK K
 repeat (refine wpL_p fun K hK=>?_;go_simp;refine hK _ _ ?_;clear hK K)
 refine wpL_k (fun K hK=>?_)
 go_simp
 refine hK _ _ (RK.KeepsN.set _ _ _ (fun h=>hcp h.symm)) ?_
 clear hK K
 repeat (refine wpL_p fun K hK=>?_;go_simp;refine hK _ _ ?_;clear hK K)
 refine wpL_k (fun K hK=>?_)
 go_simp
 refine hK _ _ (RK.KeepsN.set _ _ _ (fun h=>hcp h.symm)) ?_
 clear hK K
 repeat refine wpL_nil ?_
 go_wp2
 go_ret
 have r2:=row_set (row_drew R1.out) 7 (.int .i64 5)
 have r3:=row_set r2 4 (.int .i64 n)
 have r4:=row_set r3 2 (.int .i64 st)
 have hcg:Chg (fun k=>k=p) w W.drew:=(Chg.of_below BW.out).drew
 exact⟨rfl,H.out.own (s':=endS st n s) (((hcg.set (g:=p) (j:=7) rfl (v:=.int .i64 5)).set (g:=p) (j:=4) rfl (v:=.int .i64 n)).set (g:=p) (j:=2) rfl (v:=.int .i64 st)) r4 rfl⟩
end
end
section
attribute [local irreducible] wpL
theorem e_Fits (k r:Int) (hk:k=1∧r=3∨k=2∧r=1) (w:World):Calls Tryz.prog 156 #[.int .i64 k,.int .i64 r] w fun e w'=>e=.returned (.bool true)∧w'=w:=by
 rcases hk with⟨rfl,rfl⟩|⟨rfl,rfl⟩
 ·go_enter Tryz.func156,Tryz.ntmps156
  go_wp2_with fail
  refine(e_Valued 1 (.inl rfl) _).mono ?_
  rintro e w1 ⟨rfl,rfl⟩
  go_wp2
  go_ret
  exact⟨rfl,rfl⟩
 ·go_enter Tryz.func156,Tryz.ntmps156
  go_wp2_with fail
  refine(e_Valued 2 (.inr rfl) _).mono ?_
  rintro e w1 ⟨rfl,rfl⟩
  go_wp2
  go_ret
  exact⟨rfl,rfl⟩
theorem s_Index (v:Value) (l:List Int) (x:Int) (j:Nat) (w:World) (h:Sl w w.heap.size 1 v l.length (l.map (.int .i64))) (hj:l[j]?=some x) (hn:∀i:Nat,i < j→l[i]?≠some x):
  Calls Tryz.prog 159 #[v,.int .i64 x] w fun e w'=>e=.returned (.int .i64 j)∧w'=w:=by
 obtain⟨a,c,rfl,hm⟩:=h.ex
 have hl:=(List.getElem?_eq_some_iff.1 hj).1
 have H:=hid h
 have HJ:=hid hj
 have HN:=hid hn
 clear h hj hn
 go_enter Tryz.func159,Tryz.ntmps159
 go_wp2_with fail
 obtain⟨W,rfl⟩:∃W,W=w:=⟨_,rfl⟩
 go_loopw [8] (fun p wr=>∃i:Nat,i≤j∧p=.int .i64 i∧wr=W) (fun p _=>j - (intOf p).toNat)
 case atStart=>exact⟨0,by omega,by go_num,rfl⟩
 case round=>
  obtain⟨i,hi,rfl,rfl⟩:=hrel
  have hil:i < l.length:=by omega
  obtain⟨b,off,u,hat,hb,hx,hc⟩:=H.out.at1 hil
  subst hat
  have hx2:∃y,l[i]?=some y∧u=.int .i64 y:=by
   rw[List.getElem?_map] at hx
   cases hy:l[i]? with
   |none=>rw[hy] at hx;cases hx
   |some y=>rw[hy] at hx;exact⟨y,rfl,by simpa using hx.symm⟩
  obtain⟨y,hy,rfl⟩:=hx2
  clear hx
  by_cases hij:i=j
  ·subst hij
   have e1:y=x:=by rw[HJ.out] at hy;exact(Option.some.inj hy).symm
   subst e1
   clear hy
   go_wp2
   go_ret
   exact⟨rfl,rfl⟩
  ·have e1:(x==y)=false:=by
    have:=HN.out i (by omega)
    rw[hy] at this
    simp only[ne_eq,Option.some.injEq] at this
    simp;omega
   clear hy
   go_wp2_with fail
   go_roundw
   case rel=>exact⟨i+1,by omega,by go_num,trivial⟩
   case measure=>simp[intOf];omega
theorem first_at (l:List Int) (x:Int) (h:x ∈ l):∃j:Nat,l[j]?=some x∧∀i:Nat,i < j→l[i]?≠some x:=by
 induction l with
 |nil=>cases h
 |cons y l ih=>
  by_cases e:y=x
  ·subst e
   exact⟨0,rfl,fun i hi=>by omega⟩
  ·have:x ∈ l:=by
    rcases List.mem_cons.1 h with h|h
    ·exact absurd h.symm e
    ·exact h
   obtain⟨j,h1,h2⟩:=ih this
   refine⟨j+1,by simpa using h1,fun i hi=>?_⟩
   cases i with
   |zero=>simpa using e
   |succ i=>simpa using h2 i (by omega)
theorem s_Contains (v:Value) (l:List Int) (x:Int) (w:World) (h:Sl w w.heap.size 1 v l.length (l.map (.int .i64))) (hx:x ∈ l):
  Calls Tryz.prog 118 #[v,.int .i64 x] w fun e w'=>e=.returned (.bool true)∧w'=w:=by
 obtain⟨a,c,rfl,hm⟩:=h.ex
 obtain⟨j,h1,h2⟩:=first_at l x hx
 have hl:=(List.getElem?_eq_some_iff.1 h1).1
 have hi:=hid (s_Index _ l x j w h h1 h2)
 clear h h1 h2 hx
 have q:decide ((j:Int)≥0)=true:=by simp
 have q2:decide (0≤(j:Int))=true:=by simp
 go_enter Tryz.func118,Tryz.ntmps118
 go_wp2_with fail
 refine hi.out.mono ?_
 rintro e w1 ⟨rfl,rfl⟩
 go_wp2
 go_ret
 exact⟨rfl,rfl⟩
end
