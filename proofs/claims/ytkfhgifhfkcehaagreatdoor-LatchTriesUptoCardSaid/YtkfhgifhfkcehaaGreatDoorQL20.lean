/- Parts of the proof, merged by program out of 1 texts (ShA): the first: Histories of registers, transaction by transaction: what the automaton of well-formed histories does, as plain lists. Conditions: those of each theorem, as typed. -/
import Derived.Test.YtkfhgifhfkcehaaGreatDoorQL19
set_option linter.unusedVariables false
set_option linter.unusedSimpArgs false
set_option linter.unusedSectionVars false
set_option maxRecDepth 100000
set_option maxHeartbeats 4000000
namespace Go.Proofs.YtkfhgifhfkcehaaGreatDoor
structure Dd where
 obj:Int
 op:Int
 key:Int
 val:Int
 ret:Int
 got:Int
 at_:Int
 back:Int
def Dd.cells (d:Dd):List Value:=[.int .i64 d.obj,.int .i64 d.op,.int .i64 d.key,.int .i64 d.val,.int .i64 d.ret,.int .i64 d.got,.int .i64 d.at_,.int .i64 d.back]
theorem Dd.len (d:Dd):d.cells.length=8:=rfl
structure St where
 id:Int
 thread:Int
 status:Int
 beg:Int
 fin:Int
 tri:Int
 deeds:List Dd
 stand:Int
def newDd (e:Ev) (n:Nat):Dd:=⟨e.obj,e.op,e.key,e.val,0,0,n,-1⟩
def newSt (e:Ev) (n:Nat):St:=⟨e.tx,e.thread,1,n,-1,-1,[],1⟩
def fitsR (op ret:Int):Prop:=op=2∧ret=1∨op=1∧ret=3
instance (op ret:Int):Decidable (fitsR op ret):=by unfold fitsR;infer_instance
def moveSt (n:Nat) (e:Ev) (s:St):Option St:=
 if e.kind=2 then(if s.stand=1 then some {s with stand:=2,deeds:=s.deeds++[newDd e n]} else none)
 else if e.kind=3 then(if s.stand=2 then match s.deeds.getLast? with
  |some d=>if fitsR d.op e.ret then some {s with stand:=1,deeds:=s.deeds.dropLast++[{d with ret:=e.ret,got:=e.val,back:=n}]} else none
  |none=>none
  else none)
 else if e.kind=4 then(if s.stand=1 then some {s with stand:=3,tri:=n,status:=2} else none)
 else if e.kind=5 then(if s.stand=3 then some {s with stand:=5,fin:=n,status:=3} else none)
 else if e.kind=6 then(if s.stand=1∨s.stand=2∨s.stand=3∨s.stand=4 then some {s with stand:=5,fin:=n,status:=4} else none)
 else if e.kind=7 then(if s.stand=1 then some {s with stand:=4} else none)
 else none
abbrev Au:=List St
def hasId (x:Int) (A:Au):Prop:=∃s ∈ A,s.id=x
def isBusy (x:Int) (A:Au):Prop:=∃s ∈ A,s.thread=x∧s.stand≠5
inductive Feed (A:Au) (n:Nat) (e:Ev):Au→Prop
 |begin (hk:e.kind=1) (hi:¬hasId e.tx A) (hb:¬isBusy e.thread A):Feed A n e (A++[newSt e n])
 |move (k:Nat) (s s':St) (hk:e.kind≠1) (hs:A[k]?=some s) (hi:s.id=e.tx) (hm:moveSt n e s=some s'):Feed A n e (A.set k s')
inductive Fed:List Ev→Au→Prop
 |nil:Fed [] []
 |snoc {l:List Ev} {A A':Au} {e:Ev} (h:Fed l A) (hf:Feed A l.length e A'):Fed (l++[e]) A'
structure EvOk (m:Nat) (e:Ev):Prop where
 tx:1≤e.tx∧e.tx≤1000
 form:(∃i:Int,0≤i∧i≤7∧e=⟨1,e.tx,i,0,0,0,0,0⟩)∨(∃c:Nat,c < m∧c≤7∧e=⟨2,e.tx,0,c,1,0,0,0⟩)∨(∃(c:Nat) (v:Int),c < m∧c≤7∧-1000000000≤v∧v≤1000000000∧e=⟨2,e.tx,0,c,2,0,v,0⟩)∨
  e=⟨3,e.tx,0,0,0,0,0,1⟩∨(∃v:Int,-1000000000≤v∧v≤1000000000∧e=⟨3,e.tx,0,0,0,0,v,3⟩)∨(∃k:Int,(k=4∨k=5∨k=6∨k=7)∧e=⟨k,e.tx,0,0,0,0,0,0⟩)
def standOf (t:Th):Int:=if t.waits=0 then 1 else if t.waits=2 then 2 else if t.waits=4 then 3 else 4
def hTh (t:Th):Nat:=27*t.tx+(if t.begun then 1 else 0)+4*t.act+(if t.adding then 2 else 0)+(if t.waits=0 then 0 else 1)
def sumTh (l:List Th):Nat:=(l.map hTh).sum
def PendOk (t:Th) (a:Ac) (d:Dd):Prop:=(isWr t a→d.op=2∧d.val=wrVal t a)∧(isRd t a→d.op=1)∧d.obj=a.cell
structure JInv (P:Pg) (S:Wst) (A:Au):Prop where
 fed:Fed S.evs A
 evs:∀e ∈ S.evs,EvOk P.cells.length e
 cnt:S.evs.length≤sumTh S.ths
 old:∀(i:Nat) (t:Th),S.ths[i]?=some t→∀k,k < t.tx→∃s ∈ A,s.id=idOf i k
 cur:∀(i:Nat) (t:Th),S.ths[i]?=some t→t.begun=true→∃(j:Nat) (s:St),A[j]?=some s∧s.id=idOf i t.tx∧s.thread=i∧s.stand=standOf t
 all:∀s ∈ A,∃(i:Nat) (t:Th) (k:Nat),S.ths[i]?=some t∧s.id=idOf i k∧s.thread=i∧(k < t.tx∧s.stand=5∧0≤s.fin∨k=t.tx∧t.begun=true∧s.stand=standOf t)
 ids:(A.map (·.id)).Nodup
 wt:∀(i:Nat) (t:Th),S.ths[i]?=some t→(t.waits=0∨t.begun=true∧(t.waits=2∨t.waits=4∨t.waits=7))∧(t.begun=false→t.act=0∧t.adding=false)∧(t.adding=true→∃a,(P.acts i t.tx)[t.act]?=some a∧a.kind=3)
 bt:∀(i:Nat) (t:Th),S.ths[i]?=some t→t.tx≤3∧(t.begun=true→t.tx < 3)
 dd:∀s ∈ A,s.stand=2→∃d,s.deeds.getLast?=some d
 pend:∀(i:Nat) (t:Th) (s:St) (d:Dd) (a:Ac),S.ths[i]?=some t→s ∈ A→s.id=idOf i t.tx→t.waits=2→(P.acts i t.tx)[t.act]?=some a→s.deeds.getLast?=some d→PendOk t a d
inductive Wk1 (P:Pg) (S:Wst) (i:Nat) (t:Th):Wst→Prop
 |same:Wk1 P S i t S
 |begin (hw:t.waits=0) (hb:t.begun=false):Wk1 P S i t (S.put i ({t with begun:=true},withTx {ev0 1 with thread:=i} (idOf i t.tx)))
 |call (a:Ac) (hw:t.waits=0) (hb:t.begun=true) (ha:(P.acts i t.tx)[t.act]?=some a) (hk:a.kind≠4):Wk1 P S i t (S.put i ({t with waits:=2},withTx (askOf t a) (idOf i t.tx)))
 |cancel (a:Ac) (hw:t.waits=0) (hb:t.begun=true) (ha:(P.acts i t.tx)[t.act]?=some a) (hk:a.kind=4):Wk1 P S i t (S.put i ({t with waits:=7},withTx (ev0 7) (idOf i t.tx)))
 |try_ (hw:t.waits=0) (hb:t.begun=true) (ha:(P.acts i t.tx)[t.act]?=none):Wk1 P S i t (S.put i ({t with waits:=4},withTx (ev0 4) (idOf i t.tx)))
 |wrote (a:Ac) (hw:t.waits=2) (hb:t.begun=true) (ha:(P.acts i t.tx)[t.act]?=some a) (hk:isWr t a):Wk1 P S i t (S.put i (wrTh t,withTx {ev0 3 with ret:=1} (idOf i t.tx)))
 |read (a:Ac) (v:Int) (hw:t.waits=2) (hb:t.begun=true) (ha:(P.acts i t.tx)[t.act]?=some a) (hk:isRd t a) (hv:-1000000000≤v∧v≤1000000000):Wk1 P S i t (S.put i (rdTh t a v,withTx {ev0 3 with ret:=3,val:=v} (idOf i t.tx)))
 |abort (hw:t.waits=2∨t.waits=4∨t.waits=7) (hb:t.begun=true):Wk1 P S i t (S.put i (endTh t,withTx (ev0 6) (idOf i t.tx)))
 |commit (hw:t.waits=4) (hb:t.begun=true):Wk1 P S i t (S.put i (endTh t,withTx (ev0 5) (idOf i t.tx)))
section
variable {P:Pg} {S S':Wst} {A:Au}
theorem idOf_inj {i j k l:Nat} (hk:k < 3) (hl:l < 3) (h:idOf i k=idOf j l):i=j∧k=l:=by unfold idOf at h;omega
theorem sum_set:∀(l:List Th) (i:Nat) (t t':Th),l[i]?=some t→sumTh (l.set i t')+hTh t=sumTh l+hTh t'
 |[],i,t,t',h=>by simp at h
 |y::l,0,t,t',h=>by
  simp only[List.getElem?_cons_zero,Option.some.injEq] at h
  subst h
  simp[sumTh];omega
 |y::l,i+1,t,t',h=>by
  have:=sum_set l i t t' (by simpa using h)
  simp only[sumTh,List.set_cons_succ,List.map_cons,List.sum_cons] at this ⊢
  omega
theorem ids_unique (h:(A.map (·.id)).Nodup) {s s':St} (hs:s ∈ A) (hs':s' ∈ A) (he:s.id=s'.id):s=s':=by
 obtain⟨j,hj⟩:=List.mem_iff_getElem?.1 hs
 obtain⟨k,hk⟩:=List.mem_iff_getElem?.1 hs'
 have hl:j < (A.map (·.id)).length:=by have:=(List.getElem?_eq_some_iff.1 hj).1;simpa using this
 have:=(List.getElem?_inj hl h (j:=k)).1 (by simp[hj,hk,he])
 subst this
 rw[hj] at hk
 exact Option.some.inj hk
theorem mem_set {A:Au} {k:Nat} {s s' x:St} (hs:A[k]?=some s) (h:x ∈ A.set k s') (hn:(A.map (·.id)).Nodup):x=s'∨(x ∈ A∧x.id≠s.id):=by
 obtain⟨j,hj⟩:=List.mem_iff_getElem?.1 h
 rcases get_set hj with⟨rfl,rfl⟩|⟨hne,hj⟩
 ·exact .inl rfl
 ·refine .inr ⟨List.mem_of_getElem? hj,fun he=>hne ?_⟩
  have hl:j < (A.map (·.id)).length:=by have:=(List.getElem?_eq_some_iff.1 hj).1;simpa using this
  exact((List.getElem?_inj hl hn (j:=k)).1 (by simp[hj,hs,he])).symm
theorem set_mem {A:Au} {k:Nat} {s s' x:St} (hs:A[k]?=some s) (h:x ∈ A) (hne:x.id≠s.id):x ∈ A.set k s':=by
 obtain⟨j,hj⟩:=List.mem_iff_getElem?.1 h
 refine List.mem_iff_getElem?.2 ⟨j,?_⟩
 rw[List.getElem?_set_ne (by
  rintro rfl
  rw[hs] at hj
  exact hne (by rw[Option.some.inj hj]))]
 exact hj
theorem mem_set_self {A:Au} {k:Nat} {s s':St} (hs:A[k]?=some s):s' ∈ A.set k s':=List.mem_iff_getElem?.2 ⟨k,List.getElem?_set_self (List.getElem?_eq_some_iff.1 hs).1⟩
theorem ids_set {A:Au} {k:Nat} {s s':St} (hs:A[k]?=some s) (he:s'.id=s.id):(A.set k s').map (·.id)=A.map (·.id):=by
 apply List.ext_getElem?
 intro j
 rw[List.getElem?_map,List.getElem?_map]
 by_cases e:k=j
 ·subst e
  rw[List.getElem?_set_self (List.getElem?_eq_some_iff.1 hs).1,hs]
  simp[he]
 ·rw [List.getElem?_set_ne e]
theorem JInv.moved (h:JInv P S A) {i:Nat} {t t':Th} {e:Ev} (ht:S.ths[i]?=some t) (hb:t.begun=true)
  (he1:e.tx=idOf i t.tx) (hk:e.kind≠1) (hok:EvOk P.cells.length e) (hc:hTh t+1≤hTh t')
  (hwt:(t'.waits=0∨t'.begun=true∧(t'.waits=2∨t'.waits=4∨t'.waits=7))∧(t'.begun=false→t'.act=0∧t'.adding=false)∧(t'.adding=true→∃a,(P.acts i t'.tx)[t'.act]?=some a∧a.kind=3))
  (hm:∀s:St,s.id=idOf i t.tx→s.stand=standOf t→(s.stand=2→∃d,s.deeds.getLast?=some d∧∀a,(P.acts i t.tx)[t.act]?=some a→PendOk t a d)→∃s',moveSt S.evs.length e s=some s'∧s'.id=s.id∧s'.thread=s.thread∧(s'.stand=2→∃d,s'.deeds.getLast?=some d)∧
   (t'.tx=t.tx∧t'.begun=true∧s'.stand=standOf t'∧(t'.waits=2→∀d a,(P.acts i t'.tx)[t'.act]?=some a→s'.deeds.getLast?=some d→PendOk t' a d)∨t'.tx=t.tx+1∧t'.begun=false∧s'.stand=5∧0≤s'.fin)):
  ∃(k:Nat) (s s':St),A[k]?=some s∧s.id=idOf i t.tx∧s.thread=i∧s.stand=standOf t∧moveSt S.evs.length e s=some s'∧Feed A S.evs.length e (A.set k s')∧JInv P (S.put i (t',e)) (A.set k s'):=by
 obtain⟨k,s,hs,hid,hth,hst⟩:=h.cur i t ht hb
 have hsA:=List.mem_of_getElem? hs
 have htx3:=(h.bt i t ht).2 hb
 have hst2:s.stand=2→t.waits=2:=fun e2=>by
  rw[hst] at e2
  unfold standOf at e2
  by_cases e0:t.waits=0
  ·rw [if_pos e0] at e2;omega
  ·rw [if_neg e0] at e2
   by_cases e3:t.waits=2
   ·exact e3
   ·rw [if_neg e3] at e2
    split at e2 <;> omega
 obtain⟨s',hmv,hid',hth',hdd,hcase⟩:=hm s hid hst fun h2=>by
  obtain⟨d,hd⟩:=h.dd s hsA h2
  exact⟨d,hd,fun a ha=>h.pend i t s d a ht hsA hid (hst2 h2) ha hd⟩
 have hf:Feed A S.evs.length e (A.set k s'):=.move k s s' hk hs (by rw[he1,hid]) hmv
 have hil:=(List.getElem?_eq_some_iff.1 ht).1
 have ne_of:∀x ∈ A,x.id≠s.id→∀(j:Nat) (u:Th) (l:Nat),S.ths[j]?=some u→x.id=idOf j l→(l < u.tx∨l=u.tx)→j=i→l≠t.tx:=fun x hx hne j u l hu hxl hl hji hlt=>hne (by rw[hxl,hid,hji,hlt])
 refine⟨k,s,s',hs,hid,hth,hst,hmv,hf,⟨?_,?_,?_,?_,?_,?_,?_,?_,?_,?_,?_⟩⟩
 ·exact .snoc h.fed hf
 ·intro e' he'
  simp only[Wst.put,List.mem_append,List.mem_singleton] at he'
  rcases he' with he'|rfl
  ·exact h.evs e' he'
  ·exact hok
 ·have h1:=sum_set S.ths i t t' ht
  have h2:=h.cnt
  simp only[Wst.put,List.length_append,List.length_cons,List.length_nil]
  omega
 ·intro j u hu l hl
  have keep:∀x ∈ A,∃y ∈ A.set k s',y.id=x.id:=fun x hx=>by
   by_cases hxs:x.id=s.id
   ·exact ⟨s',mem_set_self hs,by rw[hid',hxs]⟩
   ·exact ⟨x,set_mem hs hx hxs,rfl⟩
  rcases get_set (l:=S.ths) (i:=i) (x:=t') (by simpa[Wst.put] using hu) with⟨rfl,rfl⟩|⟨hne,hu⟩
  ·by_cases hlt:l < t.tx
   ·obtain ⟨x,hx,hxi⟩:=h.old i t ht l hlt
    obtain⟨y,hy,hyi⟩:=keep x hx
    exact⟨y,hy,by rw[hyi,hxi]⟩
   ·have:l=t.tx:=by
     rcases hcase with⟨h1,-⟩|⟨h1,-⟩ <;> omega
    subst this
    exact⟨s',mem_set_self hs,by rw[hid',hid]⟩
  ·obtain ⟨x,hx,hxi⟩:=h.old j u hu l hl
   obtain⟨y,hy,hyi⟩:=keep x hx
   exact⟨y,hy,by rw[hyi,hxi]⟩
 ·intro j u hu hub
  rcases get_set (l:=S.ths) (i:=i) (x:=t') (by simpa[Wst.put] using hu) with⟨rfl,rfl⟩|⟨hne,hu⟩
  ·rcases hcase with⟨h1,h2,h4,-⟩|⟨h1,h2,-⟩
   ·exact ⟨k,s',List.getElem?_set_self (List.getElem?_eq_some_iff.1 hs).1,by rw[hid',hid,h1],by rw[hth',hth],h4⟩
   ·rw [h2] at hub;cases hub
  ·obtain ⟨l,x,hx,hxi,hxt,hxs⟩:=h.cur j u hu hub
   have hkl:k≠l:=by
    rintro rfl
    rw[hs] at hx
    obtain rfl:=Option.some.inj hx
    rw[hth] at hxt
    exact hne (by omega)
   exact⟨l,x,by rw[List.getElem?_set_ne hkl];exact hx,hxi,hxt,hxs⟩
 ·intro x hx
  rcases mem_set hs hx h.ids with rfl|⟨hx,hxn⟩
  ·refine ⟨i,t',t.tx,by simp[Wst.put,hil],by rw[hid',hid],by rw[hth',hth],?_⟩
   rcases hcase with⟨h1,h2,h4,-⟩|⟨h1,h2,h4,h5⟩
   ·exact .inr ⟨h1.symm,h2,h4⟩
   ·exact .inl ⟨by omega,h4,h5⟩
  ·obtain ⟨j,u,l,hu,hxl,hxt,hc'⟩:=h.all x hx
   by_cases hji:i=j
   ·subst hji
    rw[ht] at hu
    obtain rfl:=Option.some.inj hu
    have hlt:l≠t.tx:=fun e=>hxn (by rw[hxl,hid,e])
    refine⟨i,t',l,by simp[Wst.put,hil],hxl,hxt,.inl ?_⟩
    rcases hc' with⟨h1,h2,h4⟩|⟨h1,-⟩
    ·refine ⟨?_,h2,h4⟩
     rcases hcase with⟨h5,-⟩|⟨h5,-⟩ <;> omega
    ·exact absurd h1 hlt
   ·exact ⟨j,u,l,by simp[Wst.put,List.getElem?_set_ne hji,hu],hxl,hxt,hc'⟩
 ·rw [ids_set hs hid'];exact h.ids
 ·intro j u hu
  rcases get_set (l:=S.ths) (i:=i) (x:=t') (by simpa[Wst.put] using hu) with⟨rfl,rfl⟩|⟨hne,hu⟩
  ·exact hwt
  ·exact h.wt j u hu
 ·intro j u hu
  rcases get_set (l:=S.ths) (i:=i) (x:=t') (by simpa[Wst.put] using hu) with⟨rfl,rfl⟩|⟨hne,hu⟩
  ·rcases hcase with⟨h1,h2,-⟩|⟨h1,h2,-⟩
   ·exact ⟨by omega,fun _=>by omega⟩
   ·exact ⟨by omega,fun h=>by rw[h2] at h;cases h⟩
  ·exact h.bt j u hu
 ·intro x hx
  rcases mem_set hs hx h.ids with rfl|⟨hx,hxn⟩
  ·exact hdd
  ·exact h.dd x hx
 ·intro j u x d a hu hx hxi huw ha hd
  rcases get_set (l:=S.ths) (i:=i) (x:=t') (by simpa[Wst.put] using hu) with⟨rfl,rfl⟩|⟨hne,hu⟩
  ·rcases hcase with⟨h1,h2,h4,h5⟩|⟨h1,h2,h4,-⟩
   ·rcases mem_set hs hx h.ids with rfl|⟨hx,hxn⟩
    ·exact h5 huw d a ha hd
    ·exact absurd (by rw[hxi,hid,h1]) hxn
   ·exfalso
    rcases hwt.1 with h6|⟨h6,-⟩
    ·omega
    ·rw [h2] at h6;cases h6
  ·rcases mem_set hs hx h.ids with rfl|⟨hx,hxn⟩
   ·exfalso
    have hub:u.begun=true:=by
     rcases(h.wt j u hu).1 with h6|⟨h6,-⟩
     ·omega
     ·exact h6
    have h7:=hid'.symm.trans hxi
    rw[hid] at h7
    obtain⟨l,y,hy,hyi,hyt,-⟩:=h.cur j u hu hub
    have:=ids_unique h.ids hsA (List.mem_of_getElem? hy) (by rw[hid,h7,hyi])
    subst this
    rw[hth] at hyt
    exact hne (by omega)
   ·exact h.pend j u x d a hu hx hxi huw ha hd
theorem JInv.begun (h:JInv P S A) {i:Nat} {t:Th} (ht:S.ths[i]?=some t) (hb:t.begun=false) (h3:t.tx < 3) (hi:i≤7) (hw:t.waits=0):
  Feed A S.evs.length (withTx {ev0 1 with thread:=i} (idOf i t.tx)) (A++[newSt (withTx {ev0 1 with thread:=i} (idOf i t.tx)) S.evs.length])∧JInv P (S.put i ({t with begun:=true},withTx {ev0 1 with thread:=i} (idOf i t.tx))) (A++[newSt (withTx {ev0 1 with thread:=i} (idOf i t.tx)) S.evs.length]):=by
 have hil:=(List.getElem?_eq_some_iff.1 ht).1
 have hact:=(h.wt i t ht).2.1 hb
 have lt3:∀(j:Nat) (u:Th) (l:Nat),S.ths[j]?=some u→(l < u.tx∨l=u.tx∧u.begun=true)→l < 3:=fun j u l hu hl=>by
  have:=h.bt j u hu
  rcases hl with h1|⟨h1,h2⟩
  ·omega
  ·have:=this.2 h2;omega
 have hno:¬hasId (idOf i t.tx) A:=by
  rintro⟨s,hs,he⟩
  obtain⟨j,u,l,hu,hl,-,hc⟩:=h.all s hs
  have hl3:=lt3 j u l hu (hc.imp (fun h=>h.1) fun h=>⟨h.1,h.2.1⟩)
  obtain⟨rfl,rfl⟩:=idOf_inj h3 hl3 (he.symm.trans hl)
  rw[ht] at hu
  obtain rfl:=Option.some.inj hu
  rcases hc with⟨h1,-⟩|⟨-,h2,-⟩
  ·omega
  ·rw [hb] at h2;cases h2
 have hnb:¬isBusy (i:Int) A:=by
  rintro⟨s,hs,hth,hst⟩
  obtain⟨j,u,l,hu,-,hxt,hc⟩:=h.all s hs
  have:i=j:=by rw[hth] at hxt;omega
  subst this
  rw[ht] at hu
  obtain rfl:=Option.some.inj hu
  rcases hc with⟨-,h1,-⟩|⟨-,h2,-⟩
  ·exact hst h1
  ·rw [hb] at h2;cases h2
 have hf:Feed A S.evs.length (withTx {ev0 1 with thread:=i} (idOf i t.tx)) (A++[newSt (withTx {ev0 1 with thread:=i} (idOf i t.tx)) S.evs.length]):=.begin rfl hno hnb
 have hnm:newSt (withTx {ev0 1 with thread:=i} (idOf i t.tx)) S.evs.length ∈ A++[newSt (withTx {ev0 1 with thread:=i} (idOf i t.tx)) S.evs.length]:=by simp
 refine⟨hf,⟨?_,?_,?_,?_,?_,?_,?_,?_,?_,?_,?_⟩⟩
 ·exact .snoc h.fed hf
 ·intro e' he'
  simp only[Wst.put,List.mem_append,List.mem_singleton] at he'
  rcases he' with he'|rfl
  ·exact h.evs e' he'
  ·refine ⟨?_,.inl ⟨i,by omega,by omega,rfl⟩⟩
   show 1≤idOf i t.tx∧idOf i t.tx≤1000
   unfold idOf
   omega
 ·have h1:=sum_set S.ths i t {t with begun:=true} ht
  have h2:=h.cnt
  simp only[Wst.put,List.length_append,List.length_cons,List.length_nil]
  simp only[hTh,hb] at h1
  simp at h1
  omega
 ·intro j u hu l hl
  rcases get_set (l:=S.ths) (i:=i) (x:={t with begun:=true}) (by simpa[Wst.put] using hu) with⟨rfl,rfl⟩|⟨hne,hu⟩
  ·obtain ⟨x,hx,hxi⟩:=h.old i t ht l hl
   exact⟨x,by simp[hx],hxi⟩
  ·obtain ⟨x,hx,hxi⟩:=h.old j u hu l hl
   exact⟨x,by simp[hx],hxi⟩
 ·intro j u hu hub
  rcases get_set (l:=S.ths) (i:=i) (x:={t with begun:=true}) (by simpa[Wst.put] using hu) with⟨rfl,rfl⟩|⟨hne,hu⟩
  ·exact ⟨A.length,_,by simp;rfl,rfl,rfl,by simp[standOf,hw,newSt]⟩
  ·obtain ⟨l,x,hx,r⟩:=h.cur j u hu hub
   exact⟨l,x,by rw[List.getElem?_append_left (List.getElem?_eq_some_iff.1 hx).1];exact hx,r⟩
 ·intro x hx
  simp only[List.mem_append,List.mem_singleton] at hx
  rcases hx with hx|rfl
  ·obtain ⟨j,u,l,hu,hxl,hxt,hc'⟩:=h.all x hx
   by_cases hji:i=j
   ·subst hji
    rw[ht] at hu
    obtain rfl:=Option.some.inj hu
    refine⟨i,{t with begun:=true},l,by simp[Wst.put,hil],hxl,hxt,?_⟩
    rcases hc' with hc'|⟨-,h2,-⟩
    ·exact .inl hc'
    ·rw [hb] at h2;cases h2
   ·exact ⟨j,u,l,by simp[Wst.put,List.getElem?_set_ne hji,hu],hxl,hxt,hc'⟩
  ·exact ⟨i,{t with begun:=true},t.tx,by simp[Wst.put,hil],rfl,rfl,.inr ⟨rfl,rfl,by simp[standOf,hw,newSt]⟩⟩
 ·rw [List.map_append]
  refine List.nodup_append.2 ⟨h.ids,by simp,?_⟩
  intro a ha b hb2
  simp only[List.map_cons,List.map_nil,List.mem_singleton] at hb2
  subst hb2
  obtain⟨x,hx,rfl⟩:=List.mem_map.1 ha
  exact fun e=>hno ⟨x,hx,e⟩
 ·intro j u hu
  rcases get_set (l:=S.ths) (i:=i) (x:={t with begun:=true}) (by simpa[Wst.put] using hu) with⟨rfl,rfl⟩|⟨hne,hu⟩
  ·exact ⟨.inl hw,(fun h=>by cases h),fun h=>by have h:t.adding=true:=h;rw[hact.2] at h;cases h⟩
  ·exact h.wt j u hu
 ·intro j u hu
  rcases get_set (l:=S.ths) (i:=i) (x:={t with begun:=true}) (by simpa[Wst.put] using hu) with⟨rfl,rfl⟩|⟨hne,hu⟩
  ·exact ⟨by show t.tx≤3;omega,fun _=>h3⟩
  ·exact h.bt j u hu
 ·intro x hx h2
  simp only[List.mem_append,List.mem_singleton] at hx
  rcases hx with hx|rfl
  ·exact h.dd x hx h2
  ·simp [newSt] at h2
 ·intro j u x d a hu hx hxi huw ha hd
  simp only[List.mem_append,List.mem_singleton] at hx
  rcases get_set (l:=S.ths) (i:=i) (x:={t with begun:=true}) (by simpa[Wst.put] using hu) with⟨rfl,rfl⟩|⟨hne,hu⟩
  ·rw [hw] at huw;cases huw
  ·rcases hx with hx|rfl
   ·exact h.pend j u x d a hu hx hxi huw ha hd
   ·simp [newSt] at hd
def Mv (P:Pg) (S':Wst) (A:Au) (i:Nat) (t:Th) (f:St→St):Prop:=∃(k:Nat) (s:St),A[k]?=some s∧s.id=idOf i t.tx∧s.thread=i∧s.stand=standOf t∧JInv P S' (A.set k (f s))
def retDd (d:Dd) (ret got:Int) (n:Nat):Dd:={d with ret:=ret,got:=got,back:=n}
def retSt (ret got:Int) (n:Nat) (s:St):St:=match s.deeds.getLast? with
 |some d=>{s with stand:=1,deeds:=s.deeds.dropLast++[retDd d ret got n]}
 |none=>s
def callSt (e:Ev) (n:Nat) (s:St):St:={s with stand:=2,deeds:=s.deeds++[newDd e n]}
def tryS (n:Nat) (s:St):St:={s with stand:=3,tri:=n,status:=2}
def canS (s:St):St:={s with stand:=4}
def endS (status:Int) (n:Nat) (s:St):St:={s with stand:=5,fin:=n,status:=status}
theorem JInv.called (h:JInv P S A) {i:Nat} {t:Th} {a:Ac} (ht:S.ths[i]?=some t) (hb:t.begun=true) (hw:t.waits=0) (ha:(P.acts i t.tx)[t.act]?=some a) (hk:a.kind≠4) (hi:i≤7)
  (hc:0≤a.cell∧a.cell < P.cells.length∧a.cell≤7) (hv:isWr t a→-1000000000≤wrVal t a∧wrVal t a≤1000000000):
  Mv P (S.put i ({t with waits:=2},withTx (askOf t a) (idOf i t.tx))) A i t (callSt (withTx (askOf t a) (idOf i t.tx)) S.evs.length):=by
 have htx3:=(h.bt i t ht).2 hb
 have hid:1≤idOf i t.tx∧idOf i t.tx≤1000:=by unfold idOf;omega
 have hkind:(withTx (askOf t a) (idOf i t.tx)).kind=2:=by simp only[withTx];unfold askOf;split <;> (first|rfl|(split <;> rfl))
 obtain⟨c,hcc⟩:∃c:Nat,a.cell=c:=⟨a.cell.toNat,by omega⟩
 have hstand:standOf t=1:=by simp[standOf,hw]
 have key:=h.moved (t':={t with waits:=2}) (e:=withTx (askOf t a) (idOf i t.tx)) ht hb rfl (by rw[hkind];decide) ?_ (by simp[hTh,hw]) ⟨.inr ⟨hb,.inl rfl⟩,fun h=>by simp[hb] at h,(h.wt i t ht).2.2⟩ ?_
 ·obtain ⟨k,s,s',h1,h2,h3,h4,h5,-,h6⟩:=key
  refine⟨k,s,h1,h2,h3,h4,?_⟩
  have:s'=callSt (withTx (askOf t a) (idOf i t.tx)) S.evs.length s:=by
   unfold moveSt at h5
   rw[hkind,h4,hstand] at h5
   simp at h5
   exact h5.symm
  rw[←this]
  exact h6
 ·refine ⟨hid,?_⟩
  unfold askOf
  split
  ·rename_i hk2
   have:=hv (.inl hk2)
   refine .inr (.inr (.inl ⟨c,a.val,by omega,by omega,?_,?_,by rw[hcc];rfl⟩))
   ·unfold wrVal at this;rw[if_pos hk2] at this;exact this.1
   ·unfold wrVal at this;rw[if_pos hk2] at this;exact this.2
  ·rename_i hk2
   split
   ·rename_i hk3
    have:=hv (.inr hk3)
    refine .inr (.inr (.inl ⟨c,a.val+t.read,by omega,by omega,?_,?_,by rw[hcc];rfl⟩))
    ·unfold wrVal at this;rw[if_neg hk2] at this;exact this.1
    ·unfold wrVal at this;rw[if_neg hk2] at this;exact this.2
   ·exact .inr (.inl ⟨c,by omega,by omega,by rw[hcc];rfl⟩)
 ·intro s hs hst hdd
  refine⟨callSt (withTx (askOf t a) (idOf i t.tx)) S.evs.length s,?_,rfl,rfl,fun _=>⟨_,by simp[callSt];rfl⟩,.inl ⟨rfl,hb,by simp[callSt,standOf],?_⟩⟩
  ·unfold moveSt
   rw[hkind,hst,hstand]
   simp[callSt]
  ·intro _ d b hb2 hd
   have hab:b=a:=by
    have:(P.acts i t.tx)[t.act]?=some b:=hb2
    rw[ha] at this
    exact(Option.some.inj this).symm
   subst hab
   simp only[callSt,List.getLast?_append,List.getLast?_singleton,Option.some_or,Option.some.injEq] at hd
   subst hd
   show PendOk t b _
   have hobj:(askOf t b).obj=b.cell:=by unfold askOf;split <;> (first|rfl|(split <;> rfl))
   refine⟨fun h8=>?_,fun h8=>?_,hobj⟩
   ·simp only[newDd,withTx]
    unfold askOf wrVal
    rcases h8 with h8|⟨h8,h9⟩
    ·rw [if_pos h8,if_pos h8];exact⟨rfl,rfl⟩
    ·rw [if_neg (by omega),if_pos ⟨h8,h9⟩,if_neg (by omega)];exact⟨rfl,rfl⟩
   ·simp only[newDd,withTx]
    unfold askOf
    rw[if_neg (by rcases h8 with h8|⟨h8,-⟩ <;> omega),if_neg (by
     rintro⟨h9,h10⟩
     rcases h8 with h8|⟨-,h8⟩
     ·omega
     ·rw [h10] at h8;cases h8)]
theorem JInv.tried (h:JInv P S A) {i:Nat} {t:Th} (ht:S.ths[i]?=some t) (hb:t.begun=true) (hw:t.waits=0) (hi:i≤7):
  Mv P (S.put i ({t with waits:=4},withTx (ev0 4) (idOf i t.tx))) A i t (tryS S.evs.length):=by
 have htx3:=(h.bt i t ht).2 hb
 have hid:1≤idOf i t.tx∧idOf i t.tx≤1000:=by unfold idOf;omega
 have hstand:standOf t=1:=by simp[standOf,hw]
 have key:=h.moved (t':={t with waits:=4}) (e:=withTx (ev0 4) (idOf i t.tx)) ht hb rfl (by simp[withTx,ev0]) ⟨hid,.inr (.inr (.inr (.inr (.inr ⟨4,.inl rfl,rfl⟩))))⟩ (by simp[hTh,hw]) ⟨.inr ⟨hb,.inr (.inl rfl)⟩,fun h=>by simp[hb] at h,(h.wt i t ht).2.2⟩ ?_
 ·obtain ⟨k,s,s',h1,h2,h3,h4,h5,-,h6⟩:=key
  refine⟨k,s,h1,h2,h3,h4,?_⟩
  have:s'=tryS S.evs.length s:=by
   unfold moveSt at h5
   rw[h4,hstand] at h5
   simp[withTx,ev0] at h5
   exact h5.symm
  rw[←this]
  exact h6
 ·intro s hs hst hdd
  refine⟨tryS S.evs.length s,?_,rfl,rfl,fun h=>by simp[tryS] at h,.inl ⟨rfl,hb,by simp[tryS,standOf],fun h=>by simp at h⟩⟩
  unfold moveSt
  rw[hst,hstand]
  simp[withTx,ev0,tryS]
theorem JInv.cancelled (h:JInv P S A) {i:Nat} {t:Th} (ht:S.ths[i]?=some t) (hb:t.begun=true) (hw:t.waits=0) (hi:i≤7):
  Mv P (S.put i ({t with waits:=7},withTx (ev0 7) (idOf i t.tx))) A i t canS:=by
 have htx3:=(h.bt i t ht).2 hb
 have hid:1≤idOf i t.tx∧idOf i t.tx≤1000:=by unfold idOf;omega
 have hstand:standOf t=1:=by simp[standOf,hw]
 have key:=h.moved (t':={t with waits:=7}) (e:=withTx (ev0 7) (idOf i t.tx)) ht hb rfl (by simp[withTx,ev0]) ⟨hid,.inr (.inr (.inr (.inr (.inr ⟨7,.inr (.inr (.inr rfl)),rfl⟩))))⟩ (by simp[hTh,hw]) ⟨.inr ⟨hb,.inr (.inr rfl)⟩,fun h=>by simp[hb] at h,(h.wt i t ht).2.2⟩ ?_
 ·obtain ⟨k,s,s',h1,h2,h3,h4,h5,-,h6⟩:=key
  refine⟨k,s,h1,h2,h3,h4,?_⟩
  have:s'=canS s:=by
   unfold moveSt at h5
   rw[h4,hstand] at h5
   simp[withTx,ev0] at h5
   exact h5.symm
  rw[←this]
  exact h6
 ·intro s hs hst hdd
  refine⟨canS s,?_,rfl,rfl,fun h=>by simp[canS] at h,.inl ⟨rfl,hb,by simp[canS,standOf],fun h=>by simp at h⟩⟩
  unfold moveSt
  rw[hst,hstand]
  simp[withTx,ev0,canS]
theorem JInv.ended (h:JInv P S A) {i:Nat} {t:Th} (ht:S.ths[i]?=some t) (hb:t.begun=true) (hi:i≤7) (ha6:(P.acts i t.tx).length≤6) (hal:t.act≤(P.acts i t.tx).length) (hkt:t.waits=2→t.act < (P.acts i t.tx).length) {kind status:Int} (hk:kind=5∧status=3∧t.waits=4∨kind=6∧status=4∧(t.waits=2∨t.waits=4∨t.waits=7)):
  Mv P (S.put i (endTh t,withTx (ev0 kind) (idOf i t.tx))) A i t (endS status S.evs.length):=by
 have htx3:=(h.bt i t ht).2 hb
 have hid:1≤idOf i t.tx∧idOf i t.tx≤1000:=by unfold idOf;omega
 have hkk:kind=5∨kind=6:=by rcases hk with⟨h1,-⟩|⟨h1,-⟩ <;> simp[h1]
 have hmv:∀s:St,s.stand=standOf t→moveSt S.evs.length (withTx (ev0 kind) (idOf i t.tx)) s=some (endS status S.evs.length s):=fun s hst=>by
  unfold moveSt
  rcases hk with⟨rfl,rfl,h4⟩|⟨rfl,rfl,h4⟩
  ·simp [withTx,ev0,hst,standOf,h4,endS]
  ·rcases h4 with h4|h4|h4 <;> simp[withTx,ev0,hst,standOf,h4,endS]
 have key:=h.moved (t':=endTh t) (e:=withTx (ev0 kind) (idOf i t.tx)) ht hb rfl (by simp only[withTx,ev0];omega) ⟨hid,.inr (.inr (.inr (.inr (.inr ⟨kind,by omega,rfl⟩))))⟩ ?_ ⟨.inl rfl,fun _=>⟨rfl,rfl⟩,fun h=>by cases h⟩ ?_
 ·obtain ⟨k,s,s',h1,h2,h3,h4,h5,-,h6⟩:=key
  refine⟨k,s,h1,h2,h3,h4,?_⟩
  rw[hmv s h4] at h5
  rw[Option.some.inj h5]
  exact h6
 ·unfold hTh endTh
  simp only[hb,Th.zero]
  have:=(h.wt i t ht).1
  by_cases had:t.adding=true
  ·obtain ⟨b,hb2,-⟩:=(h.wt i t ht).2.2 had
   have:=(List.getElem?_eq_some_iff.1 hb2).1
   simp[had]
   split <;> omega
  ·by_cases h2:t.waits=2
   ·have:=hkt h2
    simp[had,h2]
    omega
   ·simp [had]
    split <;> omega
 ·intro s hs hst hdd
  exact⟨endS status S.evs.length s,hmv s hst,rfl,rfl,fun h=>by simp[endS] at h,.inr ⟨rfl,rfl,rfl,by simp[endS]⟩⟩
theorem JInv.answered (h:JInv P S A) {i:Nat} {t t':Th} {a:Ac} (ht:S.ths[i]?=some t) (hb:t.begun=true) (hw:t.waits=2) (hi:i≤7) (ha:(P.acts i t.tx)[t.act]?=some a) {ret got:Int}
  (hc:isWr t a∧ret=1∧got=0∧t'=wrTh t∨isRd t a∧ret=3∧t'=rdTh t a got) (hv:-1000000000≤got∧got≤1000000000):
  Mv P (S.put i (t',withTx {ev0 3 with ret:=ret,val:=got} (idOf i t.tx))) A i t (retSt ret got S.evs.length):=by
 have htx3:=(h.bt i t ht).2 hb
 have hid:1≤idOf i t.tx∧idOf i t.tx≤1000:=by unfold idOf;omega
 have hstand:standOf t=2:=by simp[standOf,hw]
 have hmv:∀s:St,s.stand=standOf t→(s.stand=2→∃d,s.deeds.getLast?=some d∧∀b,(P.acts i t.tx)[t.act]?=some b→PendOk t b d)→moveSt S.evs.length (withTx {ev0 3 with ret:=ret,val:=got} (idOf i t.tx)) s=some (retSt ret got S.evs.length s):=fun s hst hd=>by
  obtain⟨d,hd,hop⟩:=hd (by rw[hst,hstand])
  have hop:=hop a ha
  unfold moveSt retSt
  simp only[withTx,ev0,hst,hstand,hd]
  have hf:fitsR d.op ret:=by
   rcases hc with⟨h1,h2,-⟩|⟨h1,h2,-⟩
   ·exact .inl ⟨(hop.1 h1).1,h2⟩
   ·exact .inr ⟨hop.2.1 h1,h2⟩
  simp[hf,retDd]
 have t1:t'.tx=t.tx∧t'.begun=true∧t'.waits=0∧hTh t+1≤hTh t':=by
  rcases hc with⟨h1,-,-,rfl⟩|⟨h1,-,rfl⟩
  ·refine ⟨rfl,hb,rfl,?_⟩
   simp[hTh,wrTh,hw,hb]
   split <;> omega
  ·unfold rdTh
   rcases h1 with h1|⟨h1,h2⟩
   ·rw [if_neg (by omega)]
    refine⟨rfl,hb,rfl,?_⟩
    simp[hTh,hw,hb]
    omega
   ·rw [if_pos h1]
    refine⟨rfl,hb,rfl,?_⟩
    simp[hTh,hw,hb,h2]
 have t2:t'.adding=true→∃b,(P.acts i t'.tx)[t'.act]?=some b∧b.kind=3:=by
  intro had
  rcases hc with⟨h1,-,-,rfl⟩|⟨h1,-,rfl⟩
  ·cases had
  ·unfold rdTh at had ⊢
   rcases h1 with h1|⟨h1,h2⟩
   ·exfalso
    rw[if_neg (by omega)] at had
    obtain⟨b,hb2,hb3⟩:=(h.wt i t ht).2.2 had
    rw[ha] at hb2
    obtain rfl:=Option.some.inj hb2
    omega
   ·rw [if_pos h1]
    exact⟨a,ha,h1⟩
 have key:=h.moved (t':=t') (e:=withTx {ev0 3 with ret:=ret,val:=got} (idOf i t.tx)) ht hb rfl (by simp[withTx,ev0]) ?_ t1.2.2.2 ⟨.inl t1.2.2.1,(fun h=>by rw[t1.2.1] at h;cases h),t2⟩ ?_
 ·obtain ⟨k,s,s',h1,h2,h3,h4,h5,-,h6⟩:=key
  refine⟨k,s,h1,h2,h3,h4,?_⟩
  have hd:s.stand=2→∃d,s.deeds.getLast?=some d∧∀b,(P.acts i t.tx)[t.act]?=some b→PendOk t b d:=fun hs2=>by
   obtain⟨d,hd⟩:=h.dd s (List.mem_of_getElem? h1) hs2
   exact⟨d,hd,fun b hb2=>h.pend i t s d b ht (List.mem_of_getElem? h1) h2 hw hb2 hd⟩
  rw[hmv s h4 hd] at h5
  rw[Option.some.inj h5]
  exact h6
 ·refine ⟨hid,?_⟩
  rcases hc with⟨-,rfl,rfl,-⟩|⟨-,rfl,-⟩
  ·exact .inr (.inr (.inr (.inl rfl)))
  ·exact .inr (.inr (.inr (.inr (.inl ⟨got,hv.1,hv.2,rfl⟩))))
 ·intro s hs hst hdd
  refine⟨_,hmv s hst hdd,?_,?_,?_,.inl ⟨t1.1,t1.2.1,?_,fun h=>by omega⟩⟩ <;>
  ·obtain ⟨d,hd,-⟩:=hdd (by rw[hst,hstand])
   unfold retSt
   simp[hd,standOf,t1.2.2.1]
end
