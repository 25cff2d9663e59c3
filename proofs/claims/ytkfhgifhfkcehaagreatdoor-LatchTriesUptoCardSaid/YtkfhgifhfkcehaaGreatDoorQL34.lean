/- Parts of the proof, merged by program out of 3 texts (ToA, ToB, ToC): the first: The engine latch: what it is, where it lies, what keeps it. Conditions: those of each theorem, as typed. -/
import Derived.Test.YtkfhgifhfkcehaaGreatDoorQL18
import Derived.Deep.LoopGhost
set_option linter.unusedVariables false
set_option linter.unusedSimpArgs false
set_option linter.unusedSectionVars false
set_option maxRecDepth 100000
set_option maxHeartbeats 4000000
namespace Go.Proofs.YtkfhgifhfkcehaaGreatDoor
open Go.Maps Go.RowKit
section
attribute [local irreducible] wpL
structure Ce where
 val:Int
 own:Int
def Ce.cells (c:Ce):List Value:=[.int .i64 c.val,.int .i64 c.own]
theorem Ce.len (c:Ce):c.cells.length=2:=rfl
abbrev Wo:=Option (MB×MI)
inductive Nx where
 |none
 |abort
 |rel (l:List Int)
 |ans (e:Ev)
structure LM where
 W:Wst
 cs:List Ce
 ws:List Wo
 nx:List Nx
def reactOf (r:MB) (e:Ev):Nx:=if e.kind=1 then .none else if e.kind=7 then .abort else if e.kind=4 then .rel (r.map (·.1)) else .ans e
def bkS (s:MI) (S:Int→Bool) (cs:List Ce):List Ce:=cs.mapIdx fun k c=>match fnd (k:Int) s with
 |some v=>if S k then c else⟨v,c.own⟩
 |none=>c
def goS (r:MB) (S:Int→Bool) (cs:List Ce):List Ce:=cs.mapIdx fun k c=>match fnd (k:Int) r with
 |some _=>if S k then c else⟨c.val,0⟩
 |none=>c
def offCs (r:MB) (s:MI) (cs:List Ce):List Ce:=goS r (fun _=>false) (bkS s (fun _=>false) cs)
def ceAt (cs:List Ce) (k:Int):Ce:=match cs[k.toNat]? with
 |some c=>c
 |none=>⟨0,0⟩
def abortStep (P:Pg) (M:LM) (i:Nat) (t:Th) (r:MB) (s:MI):LM:={M with W:=M.W.putO i (ansOf P i t 0 true),cs:=offCs r s M.cs}
def taken (i:Nat) (t:Th) (c:Ce):Bool:=!(c.own==0)&&!(c.own==idOf i t.tx)
def ansStep (P:Pg) (M:LM) (i:Nat) (t:Th) (e:Ev) (r:MB) (s:MI):LM:=
 if taken i t (ceAt M.cs e.obj)=true then abortStep P M i t r s
 else if e.op=2 then {M with W:=M.W.putO i (ansOf P i t e.val false),cs:=M.cs.set e.obj.toNat ⟨e.val,idOf i t.tx⟩,ws:=M.ws.set i (some (upd e.obj () r,if (fnd e.obj s).isSome then s else upd e.obj (ceAt M.cs e.obj).val s))}
 else {M with W:=M.W.putO i (ansOf P i t (ceAt M.cs e.obj).val false),cs:=M.cs.set e.obj.toNat ⟨(ceAt M.cs e.obj).val,idOf i t.tx⟩,ws:=M.ws.set i (some (upd e.obj () r,s))}
def relStep (P:Pg) (M:LM) (i:Nat) (t:Th):List Int→LM×Nx
 |[]=>({M with W:=M.W.putO i (ansOf P i t 0 false)},.none)
 |k::l=>({M with cs:=M.cs.set k.toNat ⟨(ceAt M.cs k).val,0⟩},.rel l)
def ownStep (P:Pg) (M:LM) (i:Nat) (t:Th) (r:MB):LM×Nx:=
 match nextOf P i t with
 |none=>(M,.none)
 |some y=>({M with W:=M.W.put i y,ws:=if y.2.kind=1 then M.ws.set i (some ([],[])) else M.ws},reactOf r y.2)
def doStep (P:Pg) (M:LM) (i:Nat) (t:Th) (x:Nx) (r:MB) (s:MI):LM×Nx:=
 match x with
 |.none=>ownStep P M i t r
 |.abort=>(abortStep P M i t r s,.none)
 |.rel l=>relStep P M i t l
 |.ans e=>(ansStep P M i t e r s,.none)
def woR (o:Option Wo):MB:=match o with
 |some (some (r,_))=>r
 |_=>[]
def woS (o:Option Wo):MI:=match o with
 |some (some (_,s))=>s
 |_=>[]
structure LC where
 B:Nat
 bM:Nat
 bD:Nat
 bW:Nat
 gT:Nat
 gN:Nat
 gW:Nat
 vc:Value
 vt:Value
 pc:Value
 pt:Value
 ce:Value
 F:Nat→Array Value→Prop
abbrev LC.rf (C:LC):Value:=.func (.func 35) #[.pointer (some ⟨C.bM,0,none⟩)] #[]
def WoAt (w:World) (B:Nat) (u:Value×Value):Wo→Prop
 |none=>u=(.map none,.map none)
 |some (r,s)=>∃br bs,u=(.map (some br),.map (some bs))∧B≤br∧B≤bs∧br≠bs∧IsMB w br r.length r∧IsMI w bs s.length s∧KCe r∧KSrt r∧KCe s∧KSrt s
def BxM (w:World) (C:LC) (i p1 p2:Nat):Prop:=w.heap[p1]?=some (.cells #[.pointer (some ⟨C.bM,0,none⟩)] 28 (0,0))∧w.heap[p2]?=some (.cells #[.int .i64 i] 3 (0,0))∧C.B≤p1∧C.B≤p2
def LsBx (w:World) (C:LC) (p3:Nat) (l:List Int):Prop:=∃(g off cap:Nat) (cs:Array Value),w.heap[p3]?=some (.cells #[.slice (some ⟨g,off,none⟩) l.length cap] 22 (0,0))∧w.heap[g]?=some (.cells cs 3 (0,0))∧C.B≤p3∧C.B≤g∧l.length≤cap∧∀(j:Nat) (x:Int),l[j]?=some x→cs[off+j]?=some (.int .i64 x)
def NxAt (w:World) (C:LC) (i:Nat) (ve v:Value):Nx→Prop
 |.none=>v=.nilFunc
 |.abort=>∃p1 p2,v=.func (.func 105) #[] #[.pointer (some ⟨p1,0,none⟩),.pointer (some ⟨p2,0,none⟩)]∧BxM w C i p1 p2
 |.rel []=>∃p1 p2,v=.func (.func 107) #[] #[.pointer (some ⟨p1,0,none⟩),.pointer (some ⟨p2,0,none⟩)]∧BxM w C i p1 p2
 |.rel (k::l)=>∃p1 p2 p3,v=.func (.func 108) #[] #[.pointer (some ⟨p1,0,none⟩),.pointer (some ⟨p3,0,none⟩),.pointer (some ⟨p2,0,none⟩)]∧BxM w C i p1 p2∧LsBx w C p3 (k::l)
 |.ans e=>∃p1 p2 p3,v=.func (.func 64) #[] #[.pointer (some ⟨p1,0,none⟩),.pointer (some ⟨p2,0,none⟩),.pointer (some ⟨p3,0,none⟩)]∧BxM w C i p1 p2∧w.heap[p3]?=some (.cells e.cells.toArray 53 (0,0))∧ve.ownBlock≠some p3∧C.B≤p3
structure WksAt (w:World) (C:LC) (n:Nat) (us:List (Value×Value)) (ws:List Wo):Prop where
 own:OwnF moC 135 2 w C.B (.slice (some ⟨C.gW,0,none⟩) n n) us
 len:ws.length=n
 maps:∀(i:Nat) (u:Value×Value) (o:Wo),us[i]?=some u→ws[i]?=some o→WoAt w C.B u o
 apart:∀(i j:Nat) (u u':Value×Value),us[i]?=some u→us[j]?=some u'→i≠j→∀b,mbs u b→¬mbs u' b
structure LaAt (w:World) (C:LC) (ve:Value) (us:List (Value×Value)) (P:Pg) (M:LM):Prop where
 row:w.heap[C.bM]?=some (.cells #[.pointer (some ⟨C.bD,0,none⟩),C.ce,.slice (some ⟨C.gW,0,none⟩) P.threads.length P.threads.length] 85 (0,0))
 hB:C.B≤C.bM
 dr:∃vs,DrAt w C.B C.bD C.bW C.gT C.gN C.vc C.vt ve C.pc C.pt C.rf P M.W vs∧M.nx.length=P.threads.length∧∀(i:Nat) (v:Value) (x:Nx),vs[i]?=some v→M.nx[i]?=some x→NxAt w C i ve v x
 cells:OwnF Ce.cells 90 2 w C.B C.ce M.cs
 clen:M.cs.length=P.cells.length
 wks:WksAt w C P.threads.length us M.ws
 fr:∀(k:Nat) (cs:Array Value),C.F k cs→w.heap[k]?=some (.cells cs 37 (0,0))
section
variable {w w':World} {C:LC} {ve ve':Value} {P:Pg} {M:LM} {us:List (Value×Value)}
theorem BxM.keep {i p1 p2:Nat} (h:BxM w C i p1 p2)
  (h1:∀(p:Nat) (u:Value),w.heap[p]?=some (.cells #[u] 28 (0,0))→w'.heap[p]?=some (.cells #[u] 28 (0,0)))
  (h2:∀(p:Nat) (u:Array Value),w.heap[p]?=some (.cells u 3 (0,0))→w'.heap[p]?=some (.cells u 3 (0,0))):BxM w' C i p1 p2:=⟨h1 _ _ h.1,h2 _ _ h.2.1,h.2.2⟩
theorem NxAt.keep {i:Nat} {v:Value} {x:Nx} (h:NxAt w C i ve v x)
  (h1:∀(p:Nat) (u:Value),w.heap[p]?=some (.cells #[u] 28 (0,0))→w'.heap[p]?=some (.cells #[u] 28 (0,0)))
  (h2:∀(p:Nat) (u:Array Value),w.heap[p]?=some (.cells u 3 (0,0))→w'.heap[p]?=some (.cells u 3 (0,0)))
  (h4:∀(p:Nat) (u:Value),w.heap[p]?=some (.cells #[u] 22 (0,0))→w'.heap[p]?=some (.cells #[u] 22 (0,0)))
  (h3:∀(p:Nat) (cs:Array Value),w.heap[p]?=some (.cells cs 53 (0,0))→ve.ownBlock≠some p→w'.heap[p]?=some (.cells cs 53 (0,0))∧ve'.ownBlock≠some p):NxAt w' C i ve' v x:=by
 cases x with
 |none=>exact h
 |abort=>
  obtain⟨p1,p2,hv,k⟩:=h
  exact⟨p1,p2,hv,k.keep h1 h2⟩
 |rel l=>
  cases l with
  |nil=>
   obtain⟨p1,p2,hv,k⟩:=h
   exact⟨p1,p2,hv,k.keep h1 h2⟩
  |cons a l=>
   obtain⟨p1,p2,p3,hv,k,g,off,cap,cs,k3,k4,r⟩:=h
   exact⟨p1,p2,p3,hv,k.keep h1 h2,g,off,cap,cs,h4 _ _ k3,h2 _ _ k4,r⟩
 |ans e=>
  obtain⟨p1,p2,p3,hv,k,k3,k4,r⟩:=h
  obtain⟨k5,k6⟩:=h3 _ _ k3 k4
  exact⟨p1,p2,p3,hv,k.keep h1 h2,k5,k6,r⟩
theorem WoAt.keep {B:Nat} {u:Value×Value} {o:Wo} (h:WoAt w B u o) (hk:∀b:Nat,mbs u b→w'.heap[b]?=w.heap[b]?):WoAt w' B u o:=by
 cases o with
 |none=>exact h
 |some p=>
  obtain⟨br,bs,rfl,h1,h2,h3,h6,h7,h8⟩:=h
  exact⟨br,bs,rfl,h1,h2,h3,h6.obj (hk br (.inl rfl)),h7.obj (hk bs (.inr rfl)),h8⟩
theorem WoAt.isMap {B:Nat} {u:Value×Value} {o:Wo} (h:WoAt w B u o):∀b,mbs u b→B≤b∧∃es c,w.heap[b]?=some (.map es c):=by
 cases o with
 |none=>
  obtain rfl:=h
  rintro b (h|h) <;> cases h
 |some p=>
  obtain⟨br,bs,rfl,h1,h2,h3,⟨es,c,h6,-⟩,⟨es',c',h7,-⟩,h8⟩:=h
  rintro b (h|h)
  ·cases h;exact⟨h1,es,c,h6⟩
  ·cases h;exact⟨h2,es',c',h7⟩
theorem WksAt.at {n:Nat} {us:List (Value×Value)} {ws:List Wo} (h:WksAt w C n us ws) {i:Nat} {u:Value×Value} (hu:us[i]?=some u):∃o,ws[i]?=some o∧WoAt w C.B u o:=by
 have hl:=h.own.len
 have hi:i < us.length:=(List.getElem?_eq_some_iff.1 hu).1
 obtain⟨o,ho⟩:∃o,ws[i]?=some o:=⟨_,List.getElem?_eq_getElem (by rw[h.len];omega)⟩
 exact⟨o,ho,h.maps i u o hu ho⟩
theorem WksAt.keep {n:Nat} {us:List (Value×Value)} {ws:List Wo} (h:WksAt w C n us ws)
  (h1:OwnF moC 135 2 w' C.B (.slice (some ⟨C.gW,0,none⟩) n n) us)
  (hk:∀(b:Nat) (es:Array MapEntry) (c:Nat),w.heap[b]?=some (.map es c)→w'.heap[b]?=some (.map es c)):WksAt w' C n us ws:=
 ⟨h1,h.len,fun i u o hu ho=>(h.maps i u o hu ho).keep fun b hb=>by
  obtain⟨-,es,c,hm⟩:=(h.maps i u o hu ho).isMap b hb
  rw[hk b es c hm,hm],h.apart⟩
theorem LaAt.below (h:LaAt w C ve us P M) (hb:Below w.heap.size w w'):LaAt w' C ve us P M:=by
 obtain⟨vs,h1,h2,h3⟩:=h.dr
 refine⟨row_below h.row hb (row_lt h.row),h.hB,⟨vs,h1.below hb,h2,fun i v x hv hx=>NxAt.keep (h3 i v x hv hx) (fun p u hp=>row_below hp hb (row_lt hp)) (fun p u hp=>row_below hp hb (row_lt hp)) (fun p u hp=>row_below hp hb (row_lt hp)) fun p cs hp he=>⟨row_below hp hb (row_lt hp),he⟩⟩,OwnF.below h.cells hb,h.clen,?_,fun k cs hf=>row_below (h.fr k cs hf) hb (row_lt (h.fr k cs hf))⟩
 exact h.wks.keep (OwnF.below h.wks.own hb) fun b es c hm=>row_below hm hb (row_lt hm)
theorem LaAt.walked {S':Wst} (h:LaAt w C ve us P M) (hk:Kp Mw ve w w') (hw:WkAt w' C.B C.bW C.gT C.vc C.vt ve' P S') (ho:∀k,ve'.ownBlock=some k→ve.ownBlock=some k∨w.heap.size≤k):LaAt w' C ve' us P {M with W:=S'}:=by
 obtain⟨vs,h1,h2,h3⟩:=h.dr
 refine⟨hk.rowW h.row (by decide) (by decide) (by decide),h.hB,⟨vs,h1.walked hk hw,h2,fun i v x hv hx=>NxAt.keep (h3 i v x hv hx) (fun p u hp=>hk.rowW hp (by decide) (by decide) (by decide)) (fun p u hp=>hk.rowW hp (by decide) (by decide) (by decide)) (fun p u hp=>hk.rowW hp (by decide) (by decide) (by decide)) fun p cs hp he=>⟨hk.cells p cs _ _ hp (by unfold Mw;decide) (fun _=>he),fun e=>?_⟩⟩,OwnF.kpW h.cells hk (by decide) (by decide) (by decide),h.clen,?_,fun k cs hf=>hk.rowW (h.fr k cs hf) (by decide) (by decide) (by decide)⟩
 ·rcases ho p e with h|h
  ·exact he h
  ·have:=row_lt hp;omega
 ·exact h.wks.keep (OwnF.kpW h.wks.own hk (by decide) (by decide) (by decide)) fun b es c hm=>hk.maps b es c hm
end
section
variable {w w' w1:World} {C:LC} {ve ve':Value} {P:Pg} {M:LM} {us:List (Value×Value)} {T T':TypeId→Prop}
def Ml (t:TypeId):Prop:=t=90∨t=135
theorem WkAt.kd {B bW gT:Nat} {vc vt:Value} {S:Wst} (h:WkAt w B bW gT vc vt ve P S) (hk:Kd Ml w w'):WkAt w' B bW gT vc vt ve P S:=
 ⟨hk _ _ _ _ h.row (by unfold Ml;decide),h.hB,OwnF.kd h.cells hk (by unfold Ml;decide),h.thr.kd hk (by unfold Ml;decide) (by unfold Ml;decide) (by unfold Ml;decide),OwnF.kd h.ths hk (by unfold Ml;decide),OwnF.kd h.evs hk (by unfold Ml;decide),h.ok,h.tok⟩
theorem DrAt.kd {B bD bW gT gN:Nat} {vc vt pc pt rf:Value} {S:Wst} {nx:List Value} (h:DrAt w B bD bW gT gN vc vt ve pc pt rf P S nx) (hk:Kd Ml w w'):DrAt w' B bD bW gT gN vc vt ve pc pt rf P S nx:=
 ⟨hk _ _ _ _ h.row (by unfold Ml;decide),h.hB,h.walk.kd hk,OwnF.kd h.pcells hk (by unfold Ml;decide),h.pthr.kd hk (by unfold Ml;decide) (by unfold Ml;decide) (by unfold Ml;decide),OwnF.kd h.next hk (by unfold Ml;decide)⟩
theorem LaAt.turn {us':List (Value×Value)} {cs':List Ce} {ws':List Wo} (h:LaAt w C ve us P M) (hk:Kd Ml w w') (hce:OwnF Ce.cells 90 2 w' C.B C.ce cs') (hcl:cs'.length=P.cells.length) (hwk:WksAt w' C P.threads.length us' ws'):LaAt w' C ve us' P {M with cs:=cs',ws:=ws'}:=by
 obtain⟨vs,h1,h2,h3⟩:=h.dr
 exact⟨hk _ _ _ _ h.row (by unfold Ml;decide),h.hB,⟨vs,h1.kd hk,h2,fun i v x hv hx=>NxAt.keep (h3 i v x hv hx) (fun p u hp=>hk _ _ _ _ hp (by unfold Ml;decide)) (fun p u hp=>hk _ _ _ _ hp (by unfold Ml;decide)) (fun p u hp=>hk _ _ _ _ hp (by unfold Ml;decide)) fun p cs hp he=>⟨hk _ _ _ _ hp (by unfold Ml;decide),he⟩⟩,hce,hcl,hwk,fun k cs hf=>hk _ _ _ _ (h.fr k cs hf) (by unfold Ml;decide)⟩
theorem LaAt.frame (h:LaAt w C ve us P M) {F':Nat→Array Value→Prop} (hf:∀(k:Nat) (cs:Array Value),F' k cs→w.heap[k]?=some (.cells cs 37 (0,0))):LaAt w {C with F:=F'} ve us P M:=by
 obtain⟨vs,h1,h2,h3⟩:=h.dr
 refine⟨h.row,h.hB,⟨vs,h1,h2,fun i v x hv hx=>?_⟩,h.cells,h.clen,⟨h.wks.own,h.wks.len,h.wks.maps,h.wks.apart⟩,hf⟩
 have:=h3 i v x hv hx
 cases x with
 |none=>exact this
 |abort=>exact this
 |rel l=>cases l <;> exact this
 |ans e=>exact this
theorem WksAt.store {n:Nat} {ws:List Wo} (h:WksAt w C n us ws) {i b:Nat} {u:Value×Value} {o':Wo} (hu:us[i]?=some u) (hb:mbs u b) (ht:w.mapTurned w' b) (hw:WoAt w' C.B u o'):WksAt w' C n us (ws.set i o'):=by
 refine⟨OwnF.kd h.own (Kd.turned (T:=fun _=>False) ht) (fun h=>h),by rw[List.length_set];exact h.len,fun j v o hv ho=>?_,h.apart⟩
 by_cases e:i=j
 ·subst e
  rw[hu] at hv
  obtain rfl:=Option.some.inj hv
  rw[List.getElem?_set_self (by have:=(List.getElem?_eq_some_iff.1 ho).1;simpa using this)] at ho
  rw[←Option.some.inj ho]
  exact hw
 ·rw [List.getElem?_set_ne e] at ho
  refine(h.maps j v o hv ho).keep fun b' hb'=>turned_other ht ?_
  rintro rfl
  exact h.apart i j u v hu hv e _ hb hb'
theorem WksAt.begin {n:Nat} {ws:List Wo} (h:WksAt w C n us ws) {i:Nat} {u:Value×Value} {o':Wo} (hm:KmAll w w') (h1:OwnF moC 135 2 w' C.B (.slice (some ⟨C.gW,0,none⟩) n n) (us.set i u)) (hnew:∀b,mbs u b→w.heap.size≤b) (hw:WoAt w' C.B u o'):WksAt w' C n (us.set i u) (ws.set i o'):=by
 refine⟨h1,by rw[List.length_set];exact h.len,fun j v o hv ho=>?_,fun j k v v' hv hv' hne b hb hb'=>?_⟩
 ·by_cases e:i=j
  ·subst e
   rw[List.getElem?_set_self (by have:=(List.getElem?_eq_some_iff.1 ho).1;simpa using this)] at ho
   rw[List.getElem?_set_self (by have:=(List.getElem?_eq_some_iff.1 hv).1;simpa using this)] at hv
   rw[←Option.some.inj ho,←Option.some.inj hv]
   exact hw
  ·rw [List.getElem?_set_ne e] at ho hv
   refine(h.maps j v o hv ho).keep fun b' hb'=>?_
   obtain⟨-,es,c,hh⟩:=(h.maps j v o hv ho).isMap b' hb'
   rw[hm _ _ _ hh,hh]
 ·have old:∀(j:Nat) (v:Value×Value),us[j]?=some v→∀b,mbs v b→b < w.heap.size:=fun j v hv b hb=>by
   obtain⟨o,-,ho⟩:=h.at hv
   obtain⟨-,es,c,hh⟩:=ho.isMap b hb
   exact row_lt hh
  by_cases e:i=j
  ·subst e
   rw[List.getElem?_set_self (by have:=(List.getElem?_eq_some_iff.1 hv).1;simpa using this)] at hv
   rw[List.getElem?_set_ne hne] at hv'
   obtain rfl:=Option.some.inj hv
   have:=hnew b hb
   have:=old k v' hv' b hb'
   omega
  ·rw [List.getElem?_set_ne e] at hv
   by_cases e2:i=k
   ·subst e2
    rw[List.getElem?_set_self (by have:=(List.getElem?_eq_some_iff.1 hv').1;simpa using this)] at hv'
    obtain rfl:=Option.some.inj hv'
    have:=hnew b hb'
    have:=old j v hv b hb
    omega
   ·rw [List.getElem?_set_ne e2] at hv'
    exact h.apart j k v v' hv hv' hne b hb hb'
end
end
section
attribute [local irreducible] wpL
structure WoCan (P:Pg) (r:MB) (s:MI):Prop where
 rin:∀q ∈ r,q.1 < P.cells.length
 sin:∀q ∈ s,q.1 < P.cells.length∧-999999000≤q.2∧q.2≤999999000
def LaPost (C:LC) (P:Pg) (M':LM) (v:Value) (w:World) (e:Ending) (w':World):Prop:=e=.returned v∧Below C.B w w'∧∃ve' us',LaAt w' C ve' us' P M'
theorem PgOk.acVal {P:Pg} (h:PgOk P) {i:Nat} (hi:i < P.threads.length) {k j:Nat} {a:Ac} (ha:(P.acts i k)[j]?=some a):-1000≤a.val∧a.val≤1000:=by
 unfold Pg.acts Pg.txs at ha
 obtain⟨x,hx⟩:∃x,P.threads[i]?=some x:=⟨_,List.getElem?_eq_getElem hi⟩
 simp only[List.getD_eq_getElem?_getD,hx,Option.getD_some] at ha
 cases hl:x[k]? with
 |none=>rw[hl] at ha;simp at ha
 |some l=>
  rw[hl,Option.getD_some] at ha
  rcases h.act x (List.mem_of_getElem? hx) l (List.mem_of_getElem? hl) j a ha with h|h <;> omega
section
variable {w:World} {C:LC} {ve:Value} {P:Pg} {M:LM} {us:List (Value×Value)}
theorem LaAt.size (h:LaAt w C ve us P M):C.B≤w.heap.size:=by have:=row_lt h.row;have:=h.hB;omega
theorem LaAt.ok (h:LaAt w C ve us P M):PgOk P:=let ⟨_,h1,_⟩:=h.dr;h1.walk.ok
theorem la_said (h:LaAt w C ve us P M) (i:Nat) (hi:i < P.threads.length) {t:Th} (ht:M.W.ths[i]?=some t) (val:Int) (abort:Bool) (hv:-999999000≤val∧val≤999999000) (hl:M.W.evs.length≤100000):
  Calls Tryz.prog 106 #[.pointer (some ⟨C.bD,0,none⟩),.int .i64 i,.int .i64 val,.bool abort] w (LaPost C P {M with W:=M.W.putO i (ansOf P i t val abort)} (.tuple #[]) w):=by
 obtain⟨vs,h1,h2,h3⟩:=h.dr
 have hok:=h.ok
 refine(d_answer h1 h.size i hi ht val abort (by simp[within9];omega) (fun a ha _ _=>by have:=hok.acVal hi ha;simp[within9];omega) hl).mono ?_
 rintro e w1 ⟨rfl,hb,hk,ve',hd,ho⟩
 refine⟨rfl,hb,ve',us,?_⟩
 cases hr:ansOf P i t val abort with
 |none=>rw[hr] at hd;exact h.walked hk hd.walk ho
 |some y=>rw[hr] at hd;exact h.walked hk hd.walk ho
theorem BxM.below {w':World} {i p1 p2:Nat} (h:BxM w C i p1 p2) (hb:Below w.heap.size w w'):BxM w' C i p1 p2:=h.keep (fun p u hp=>row_below hp hb (row_lt hp)) (fun p u hp=>row_below hp hb (row_lt hp))
theorem LsBx.below {w':World} {p3:Nat} {l:List Int} (h:LsBx w C p3 l) (hb:Below w.heap.size w w'):LsBx w' C p3 l:=by
 obtain⟨g,off,cap,cs,h1,h2,r⟩:=h
 exact⟨g,off,cap,cs,row_below h1 hb (row_lt h1),row_below h2 hb (row_lt h2),r⟩
theorem la_tx (h:LaAt w C ve us P M) (i:Nat) (hi:i < P.threads.length) {t:Th} (ht:M.W.ths[i]?=some t) (hd:thDone P i t=false) (hb:t.begun=true):
  Calls Tryz.prog 112 #[.pointer (some ⟨C.bD,0,none⟩),.int .i64 i] w fun e w'=>e=.returned (.int .i64 (idOf i t.tx))∧Below w.heap.size w w':=by
 obtain⟨vs,h1,h2,h3⟩:=h.dr
 have d2:=row_cell h1.row 2
 have lD:=row_lt h1.row
 have hc:=wk_tx h1.walk i hi ht
 rw[if_pos ⟨hd,hb⟩] at hc
 have HC:=hid hc
 clear h h1 h3 hc
 go_enter Tryz.func112,Tryz.ntmps112
 go_wp2_with fail
 refine(HC.out).mono ?_
 rintro e w1 ⟨rfl,rfl⟩
 clear HC
 go_wp2
 go_ret
 exact⟨rfl,(Below.refl _ _).drew⟩
end
end
section
attribute [local irreducible] wpL
def LaNext (C:LC) (P:Pg) (i:Nat) (y:LM×Nx) (w:World) (e:Ending) (w':World):Prop:=∃v ve' us',e=.returned v∧Below C.B w w'∧LaAt w' C ve' us' P y.1∧NxAt w' C i ve' v y.2
theorem bkS_get (s:MI) (S:Int→Bool) (cs:List Ce) (k:Nat):(bkS s S cs)[k]?=cs[k]?.map fun c=>match fnd (k:Int) s with
  |some v=>if S k then c else⟨v,c.own⟩
  |none=>c:=by simp[bkS,List.getElem?_mapIdx] <;> rfl
theorem goS_get (r:MB) (S:Int→Bool) (cs:List Ce) (k:Nat):(goS r S cs)[k]?=cs[k]?.map fun c=>match fnd (k:Int) r with
  |some _=>if S k then c else⟨c.val,0⟩
  |none=>c:=by simp[goS,List.getElem?_mapIdx] <;> rfl
theorem bkS_len (s:MI) (S:Int→Bool) (cs:List Ce):(bkS s S cs).length=cs.length:=by simp[bkS]
theorem goS_len (r:MB) (S:Int→Bool) (cs:List Ce):(goS r S cs).length=cs.length:=by simp[goS]
theorem offCs_len (r:MB) (s:MI) (cs:List Ce):(offCs r s cs).length=cs.length:=by simp[offCs,goS_len,bkS_len]
theorem bkS_start (s:MI) (cs:List Ce):bkS s (fun _=>true) cs=cs:=by
 apply List.ext_getElem?
 intro k
 rw[bkS_get]
 cases cs[k]? with
 |none=>rfl
 |some c=>cases fnd (k:Int) s <;> simp
theorem bkS_end {s:MI} {S:Int→Bool} (hs:KSrt s) (h:∀p ∈ s,S p.1=false) (cs:List Ce):bkS s S cs=bkS s (fun _=>false) cs:=by
 apply List.ext_getElem?
 intro k
 rw[bkS_get,bkS_get]
 cases cs[k]? with
 |none=>rfl
 |some c=>
  cases hf:fnd (k:Int) s with
  |none=>rfl
  |some v=>have:=h _ ((fnd_some hs).1 hf);simp only at this;simp[this]
theorem bkS_step {s:MI} {S:Int→Bool} (hs:KSrt s) {k:Nat} {u:Int} (hm:((k:Int),u) ∈ s) {cs:List Ce} {c:Ce} (hc:cs[k]?=some c):(bkS s S cs).set k ⟨u,c.own⟩=bkS s (fun z=>S z&&!(z==(k:Int))) cs:=by
 apply List.ext_getElem?
 intro j
 by_cases e:k=j
 ·subst e
  rw[List.getElem?_set_self (by rw[bkS_len];exact(List.getElem?_eq_some_iff.1 hc).1),bkS_get,hc,(fnd_some hs).2 hm]
  simp
 ·rw [List.getElem?_set_ne e,bkS_get,bkS_get]
  have e2:((j:Int)==(k:Int))=false:=by simp;omega
  simp[e2]
theorem bkS_at {s:MI} {S:Int→Bool} (hs:KSrt s) {k:Nat} {u:Int} (hm:((k:Int),u) ∈ s) (hS:S k=true) {cs:List Ce} {c:Ce} (hc:cs[k]?=some c):(bkS s S cs)[k]?=some c:=by
 rw[bkS_get,hc,(fnd_some hs).2 hm]
 simp[hS]
theorem goS_start (r:MB) (cs:List Ce):goS r (fun _=>true) cs=cs:=by
 apply List.ext_getElem?
 intro k
 rw[goS_get]
 cases cs[k]? with
 |none=>rfl
 |some c=>cases fnd (k:Int) r <;> simp
theorem goS_end {r:MB} {S:Int→Bool} (hs:KSrt r) (h:∀p ∈ r,S p.1=false) (cs:List Ce):goS r S cs=goS r (fun _=>false) cs:=by
 apply List.ext_getElem?
 intro k
 rw[goS_get,goS_get]
 cases cs[k]? with
 |none=>rfl
 |some c=>
  cases hf:fnd (k:Int) r with
  |none=>rfl
  |some v=>have:=h _ ((fnd_some hs).1 hf);simp only at this;simp[this]
theorem goS_step {r:MB} {S:Int→Bool} (hs:KSrt r) {k:Nat} {u:Unit} (hm:((k:Int),u) ∈ r) {cs:List Ce} {c:Ce} (hc:cs[k]?=some c):(goS r S cs).set k ⟨c.val,0⟩=goS r (fun z=>S z&&!(z==(k:Int))) cs:=by
 apply List.ext_getElem?
 intro j
 by_cases e:k=j
 ·subst e
  rw[List.getElem?_set_self (by rw[goS_len];exact(List.getElem?_eq_some_iff.1 hc).1),goS_get,hc,(fnd_some hs).2 hm]
  simp
 ·rw [List.getElem?_set_ne e,goS_get,goS_get]
  have e2:((j:Int)==(k:Int))=false:=by simp;omega
  simp[e2]
theorem goS_at {r:MB} {S:Int→Bool} (hs:KSrt r) {k:Nat} {u:Unit} (hm:((k:Int),u) ∈ r) (hS:S k=true) {cs:List Ce} {c:Ce} (hc:cs[k]?=some c):(goS r S cs)[k]?=some c:=by
 rw[goS_get,hc,(fnd_some hs).2 hm]
 simp[hS]
section
variable {w w':World} {C:LC} {ve:Value} {P:Pg} {M:LM} {us:List (Value×Value)}
theorem LaAt.still (h:LaAt w C ve us P M) (hk:Kd (fun _=>False) w w') (hm:KmAll w w'):LaAt w' C ve us P M:=
 h.turn (cs':=M.cs) (ws':=M.ws) (fun k cs t fz hb _=>hk k cs t fz hb (fun h=>h)) (OwnF.kd h.cells hk fun h=>h) h.clen (h.wks.keep (OwnF.kd h.wks.own hk fun h=>h) hm)
theorem LaAt.ceForm (h:LaAt w C ve us P M):∃gC cc,C.ce=.slice (some ⟨gC,0,none⟩) P.cells.length cc:=by
 have h1:=h.ok.cells.1
 have h2:=h.clen
 rcases h.cells.form with⟨-,hv⟩|⟨g,cap,hv,-⟩
 ·rw [hv] at h2;simp at h2;omega
 ·exact ⟨g,cap,by rw[hv,h2]⟩
theorem LaAt.ceAt (h:LaAt w C ve us P M) {gC cc:Nat} (hce:C.ce=.slice (some ⟨gC,0,none⟩) P.cells.length cc) {k:Nat} (hk:k < P.cells.length):
  gC < w.heap.size∧∃c,M.cs[k]?=some c∧w.cell? ⟨gC,k*2,none⟩=some (.int .i64 c.val)∧w.cell? ⟨gC,k*2+1,none⟩=some (.int .i64 c.own):=by
 have h2:=h.clen
 have hcl:=h.cells
 rw[hce,←h2] at hcl
 obtain⟨g,off,c,hb,hgC,hc,hcc⟩:=Sl.atF Ce.len hcl.sl rfl (k:=k) (by omega)
 simp only[Option.some.injEq,Addr.mk.injEq,and_true] at hb
 obtain⟨rfl,rfl⟩:=hb
 refine⟨hgC,c,hc,?_,?_⟩
 ·have:=hcc 0 (by decide);simpa[Ce.cells] using this
 ·have:=hcc 1 (by decide);simpa[Ce.cells] using this
theorem LaAt.ceRow (h:LaAt w C ve us P M) {gC cc:Nat} (hce:C.ce=.slice (some ⟨gC,0,none⟩) P.cells.length cc):∃cs,w.heap[gC]?=some (.cells cs 90 (0,0)):=by
 have hcl:=h.cells
 rw[hce] at hcl
 exact hcl.keepObj gC rfl
theorem LaAt.ceSet (h:LaAt w C ve us P M) {gC cc:Nat} (hce:C.ce=.slice (some ⟨gC,0,none⟩) P.cells.length cc) {k j:Nat} {c u:Ce} {a:Value} (hc:M.cs[k]?=some c) (hj:j < 2) (hu:u.cells=c.cells.set j a):
  LaAt (w.setCell ⟨gC,k*2+j,none⟩ a) C ve us P {M with cs:=M.cs.set k u}∧C.B≤gC∧Kd (fun t=>t=90) w (w.setCell ⟨gC,k*2+j,none⟩ a)∧KmAll w (w.setCell ⟨gC,k*2+j,none⟩ a)∧∀q,q≠gC→(w.setCell ⟨gC,k*2+j,none⟩ a).heap[q]?=w.heap[q]?:=by
 obtain⟨csr,hrC⟩:=h.ceRow hce
 have kd1:Kd (fun t=>t=90) w (w.setCell ⟨gC,k*2+j,none⟩ a):=Kd.set (T:=fun t=>t=90) hrC rfl _
 have km1:KmAll w (w.setCell ⟨gC,k*2+j,none⟩ a):=KmAll.set hrC _
 refine⟨h.turn (ws':=M.ws) (fun k cs t fz h1 h2=>kd1 k cs t fz h1 (fun e=>h2 (.inl e))) ?_ (by rw[List.length_set];exact h.clen) (h.wks.keep (OwnF.kd h.wks.own kd1 (by decide)) km1),(h.cells.lt gC (by rw[hce];rfl)).1,kd1,km1,fun q hq=>Below.heap_setCell _ ⟨gC,k*2+j,none⟩ _ q hq⟩
 have h1:=h.cells
 rw[hce] at h1 ⊢
 exact own_setN h1 Ce.len hj hc hu
theorem LaAt.woAt (h:LaAt w C ve us P M) {i:Nat} (hi:i < P.threads.length) {r:MB} {s:MI} (hws:M.ws[i]?=some (some (r,s))):∃br bs,us[i]?=some (.map (some br),.map (some bs))∧WoAt w C.B (.map (some br),.map (some bs)) (some (r,s))∧C.gW < w.heap.size∧
  w.cell? ⟨C.gW,i*2,none⟩=some (.map (some br))∧w.cell? ⟨C.gW,i*2+1,none⟩=some (.map (some bs)):=by
 obtain⟨u,hu⟩:∃u,us[i]?=some u:=⟨_,List.getElem?_eq_getElem (by have:=h.wks.own.len;omega)⟩
 obtain⟨o,ho,hwo⟩:=h.wks.at hu
 rw[hws] at ho
 obtain rfl:=Option.some.inj ho
 obtain⟨br,bs,rfl,rest⟩:=id hwo
 obtain⟨gW',off,x,hb,hgW,hx,hcw⟩:=Sl.atF moC_len (show Sl w w.heap.size 2 (.slice (some ⟨C.gW,0,none⟩) P.threads.length P.threads.length) P.threads.length (us.flatMap moC) from by have h2:=h.wks.own;have h3:=h2.len;rw[←h3] at h2 ⊢;exact h2.sl) h.wks.own.len hi
 simp only[Option.some.injEq,Addr.mk.injEq,and_true] at hb
 obtain⟨rfl,rfl⟩:=hb
 rw[hu] at hx
 obtain rfl:=Option.some.inj hx
 refine⟨br,bs,hu,hwo,hgW,?_,?_⟩
 ·have:=hcw 0 (by decide);simpa[moC] using this
 ·have:=hcw 1 (by decide);simpa[moC] using this
theorem BxM.kd {i p1 p2:Nat} {T:TypeId→Prop} (h:BxM w C i p1 p2) (hk:Kd T w w') (h1:¬T 28) (h2:¬T 3):BxM w' C i p1 p2:=h.keep (fun p u hp=>hk _ _ _ _ hp h1) fun p u hp=>hk _ _ _ _ hp h2
theorem la_abort1 (h:LaAt w C ve us P M) (i:Nat) (hi:i < P.threads.length) {t:Th} (ht:M.W.ths[i]?=some t) (hl:M.W.evs.length≤100000) {r:MB} {s:MI} (hws:M.ws[i]?=some (some (r,s)))
  (hcn:WoCan P r s) {p1 p2:Nat} (hx:BxM w C i p1 p2):
  Calls Tryz.prog 105 #[.pointer (some ⟨p1,0,none⟩),.pointer (some ⟨p2,0,none⟩)] w (LaPost C P (abortStep P M i t r s) .nilFunc w):=by
 have hn4:=h.ok.threads.2
 obtain⟨gC,cc,hce⟩:=h.ceForm
 obtain⟨br,bs,hu,hwo,hgW,w0,w1⟩:=h.woAt hi hws
 have d1:=row_cell h.row 1
 have d2:=row_cell h.row 2
 rw[hce] at d1
 have lM:=row_lt h.row
 have x0:=row_cell hx.1 0
 have x1:=row_cell hx.2.1 0
 have l1:=row_lt hx.1
 have l2:=row_lt hx.2.1
 have H:=hid h
 have HT:=hid ht
 have HP:=hid hwo
 have HCN:=hid hcn
 have HCE:=hid hce
 have HBX:=hid hx
 clear h hu ht hws hwo hcn hce hx
 go_enter Tryz.func105,Tryz.ntmps105
 go_wp2_with fail
 refine wp_rN (w.heap.size) [1,0,0,1,1,0,1,3,3] (.fin [0,1,2,3,4,5,6,7,8]) (by kernel_rfl) ?_
 simp only[wpT,selX,guardAt,sD,sE,sF,sG]
 repeat first|(refine wpL_p fun K hK=>?_;go_simp;refine hK _ _ ?_;clear hK K)|(apply wpL_s;(intro w2 hw2;have hk1:=hw2.cell;have hk3:=hw2.1;clear hw2;go_simp;with_reducible rfl);simp only[Act.put,sA,sB,sC])|refine wpL_yes rfl rfl ?_|(refine wpL_no rfl rfl fun K hK=>?_;simp only[Act.put,sA,sB,sC];refine hK _ _ ?_;clear hK K)|refine wpL_nil ?_
 refine wpL_k (fun K hK=>?_)
 go_simp
 refine hK _ _ (RN.KeepsN.alloc _ _ (by first|omega|exact Nat.le_refl _)) ?_
 clear hK K
 refine wpL_k (fun K hK=>?_)
 go_simp
 refine hK _ _ (KeepsN.both (W:=w) (RN.KeepsN.alloc _ _ (Nat.le_refl _)) (RN.KeepsN.alloc _ _ (Nat.le_refl _)) (by simp)) ?_
 clear hK K
 repeat first|(refine wpL_p fun K hK=>?_;go_simp;refine hK _ _ ?_;clear hK K)|(apply wpL_s;(intro w2 hw2;have hk1:=hw2.cell;have hk3:=hw2.1;clear hw2;go_simp;with_reducible rfl);simp only[Act.put,sA,sB,sC])|refine wpL_yes rfl rfl ?_|(refine wpL_no rfl rfl fun K hK=>?_;simp only[Act.put,sA,sB,sC];refine hK _ _ ?_;clear hK K)|refine wpL_nil ?_
 have bX:Below w.heap.size w (w.alloc (.cells #[.map (some br),.map (some bs)] 135)).drew:=((Below.refl w.heap.size w).alloc (Nat.le_refl _) _).drew
 have rX:(w.alloc (.cells #[.map (some br),.map (some bs)] 135)).drew.heap[w.heap.size]?=some (.cells #[.map (some br),.map (some bs)] 135 (0,0)):=row_new w _
 have zX:(w.alloc (.cells #[.map (some br),.map (some bs)] 135)).drew.heap.size=w.heap.size+1:=by simp
 generalize (w.alloc (.cells #[.map (some br),.map (some bs)] 135)).drew=X at *
 have x71:=row_cell rX 1
 have lXW:=row_lt rX
 have HX:=hid (H.out.below bX)
 have HQX:=hid (HP.out.keep fun b hb=>by
   obtain⟨-,es,cl,hh⟩:=HP.out.isMap b hb
   rw[row_below hh bX (row_lt hh),hh])
 have hBX:C.B≤w.heap.size:=H.out.size
 have BX:=hid (bX.mono hBX)
 have BXM:=hid (HBX.out.below bX)
 have RX:=hid rX
 have ZX:=hid zX
 clear bX rX zX H HP HBX d1 d2 w0 w1 x0 x1
 obtain⟨br',bs',hu',hbr,hbs,hne,hmr,hms,hcr,hsr,hcs,hss⟩:=HQX.out
 simp only[Prod.mk.injEq,Value.map.injEq,Option.some.injEq] at hu'
 obtain⟨rfl,rfl⟩:=hu'
 have HMR:=hid hmr
 have HMS:=hid hms
 have HCR:=hid hcr
 have HCS:=hid hcs
 have HSR:=hid hsr
 have HSS:=hid hss
 clear hmr hms hcr hsr hcs hss HQX
 have hrX:=HMR.out.lt
 go_wp2_with (at_range;refine Stop.halt ?_)
 refine Stop.go ?_
 refine HMS.out.wpList_range keyI HCS.out.dom HSS.out Tryz.underlying133 rfl rfl (by rfl) ?_
 intro Y hrg hg hz
 have HG:=hid hrg
 have bY:=below_ranged (Below.refl X.heap.size X) hg (Nat.le_refl _)
 have hzX:C.B≤X.heap.size:=by have:=ZX.out;omega
 have LY:=hid (show LaAt Y C ve us P {M with cs:=bkS s (fun _=>true) M.cs} from by rw[bkS_start];exact HX.out.below bY)
 have BY:=hid (BX.out.trans (bY.mono hzX))
 have BXY:=hid (BXM.out.below bY)
 have RY:=hid (row_below RX.out bY lXW)
 have MRY:=hid (HMR.out.below bY hrX)
 have hzY:X.heap.size+1≤Y.heap.size:=by omega
 clear hrg hg hz bY x71 HMR BXM RX BX
 go_wp2_with fail
 go_frame
 go_loopg [17] s.length (fun k _ wr=>∃S,RngI wr bs X.heap.size s S k∧LaAt wr C ve us P {M with cs:=bkS s S M.cs}∧Below C.B w wr∧X.heap.size+1≤wr.heap.size∧BxM wr C i p1 p2∧wr.heap[w.heap.size]?=some (.cells #[.map (some br),.map (some bs)] 135 (0,0))∧IsMB wr br r.length r)
 case atStart=>exact⟨_,HG.out,LY.out,BY.out,hzY,BXY.out,RY.out,MRY.out⟩
 case round=>
  obtain⟨S,hrg,hL,hB,hz,hbx,hrw,hmr⟩:=hrel
  have HG:=hid hrg
  have HL:=hid hL
  have HB:=hid hB
  have HBX:=hid hbx
  have HRW:=hid hrw
  have HMR:=hid hmr
  clear hrg hL hB hbx hrw hmr hzY LY BY BXY RY MRY
  go_wp2_with (at_next;refine Stop.halt ?_)
  refine Stop.go ?_
  refine HG.out.wpList_next keyI elem_int HCS.out.dom HSS.out rfl rfl (by rfl) ?_ ?_
  ·intro hd
   have HL2:=hid (show LaAt wr C ve us P {M with cs:=bkS s (fun _=>false) M.cs} from by rw[←bkS_end HSS.out hd];exact HL.out)
   clear hd HL
   have x70:=row_cell HRW.out 0
   have lx7:=row_lt HRW.out
   go_wp2_with (at_range;refine Stop.halt ?_)
   refine Stop.go ?_
   refine(HMR.out).wpList_range keyI HCR.out.dom HSR.out Tryz.underlying132 rfl rfl (by rfl) ?_
   intro Z hrg2 hg2 hz2
   have HG2:=hid hrg2
   have bZ:=below_ranged (Below.refl wr.heap.size wr) hg2 (Nat.le_refl _)
   have zr:=HL2.out.size
   have LZ:=hid (show LaAt Z C ve us P {M with cs:=goS r (fun _=>true) (bkS s (fun _=>false) M.cs)} from by rw[goS_start];exact HL2.out.below bZ)
   have BZ:=hid (HB.out.trans (bZ.mono zr))
   have BXZ:=hid (HBX.out.below bZ)
   have hzZ:wr.heap.size+1≤Z.heap.size:=by omega
   obtain⟨w5,rfl⟩:∃w5,w5=wr:=⟨_,rfl⟩
   clear hrg2 hg2 hz2 bZ x70 lx7 hz HB HG HL2 HBX HRW HX ZX
   obtain⟨cs1,hcs1⟩:∃cs1,cs1=bkS s (fun _=>false) M.cs:=⟨_,rfl⟩
   have HCS1:=hid hcs1
   have hl1:cs1.length=M.cs.length:=by rw[hcs1,bkS_len]
   rw[←hcs1] at LZ
   clear hcs1
   go_wp2_with fail
   go_frame
   go_loopg [33] r.length (fun k _ wr=>∃S,RngB wr br w5.heap.size r S k∧LaAt wr C ve us P {M with cs:=goS r S cs1}∧Below C.B w wr∧w5.heap.size+1≤wr.heap.size∧BxM wr C i p1 p2)
   case atStart=>exact⟨_,HG2.out,LZ.out,BZ.out,hzZ,BXZ.out⟩
   case round=>
    obtain⟨S2,hrg,hL,hB,hz,hbx⟩:=hrel
    have HG:=hid hrg
    have HL:=hid hL
    have HB:=hid hB
    have HBX:=hid hbx
    clear hrg hL hB hbx hzZ LZ BZ BXZ
    go_wp2_with (at_next;refine Stop.halt ?_)
    refine Stop.go ?_
    refine HG.out.wpList_next keyI elem_bool HCR.out.dom HSR.out rfl rfl (by rfl) ?_ ?_
    ·intro hd
     have HL2:=hid (show LaAt wr C ve us P {M with cs:=offCs r s M.cs} from by
      unfold offCs
      rw[←HCS1.out,←goS_end HSR.out hd];exact HL.out)
     clear hd HL
     have y0:=row_cell HBX.out.1 0
     have y1:=row_cell HBX.out.2.1 0
     have k0:=row_lt HBX.out.1
     have k1:=row_lt HBX.out.2.1
     have e0:=row_cell HL2.out.row 0
     have lm:=row_lt HL2.out.row
     have zr:=HL2.out.size
     go_wp2_with fail
     refine wp_region_x [1,0,0,1,1,2] [0,1,2,3,4,5] (by kernel_rfl) ?_
     simp only[selX,guardAt,sD,sE,sF,sG]
     repeat first|(refine wpL_p fun K hK=>?_;go_simp;refine hK _ _ ?_;clear hK K)|(apply wpL_s;(intro w2 hw2;have hk1:=hw2.cell;have hk3:=hw2.heap;clear hw2;go_simp;with_reducible rfl);simp only[Act.put,sA,sB,sC])|refine wpL_yes rfl rfl ?_|(refine wpL_no rfl rfl fun K hK=>?_;simp only[Act.put,sA,sB,sC];refine hK _ _ ?_;clear hK K)|refine wpL_nil ?_
     refine wpL_e (fun K hK=>?_)
     go_simp
     refine(la_said (HL2.out.below (Below.refl _ wr).drew) i hi HT.out 0 true (by omega) hl).mono ?_
     rintro e X2 ⟨rfl,hb,ve',us',hla⟩
     refine hK _ _ ?_
     clear hK K
     have B2:=hid (HB.out.drew.trans hb)
     have L2:=hid hla
     clear hb hla y0 y1 e0
     repeat first|(refine wpL_p fun K hK=>?_;go_simp;refine hK _ _ ?_;clear hK K)|(apply wpL_s;(intro w2 hw2;have hk1:=hw2.cell;have hk3:=hw2.heap;clear hw2;go_simp;with_reducible rfl);simp only[Act.put,sA,sB,sC])|refine wpL_yes rfl rfl ?_|(refine wpL_no rfl rfl fun K hK=>?_;simp only[Act.put,sA,sB,sC];refine hK _ _ ?_;clear hK K)|refine wpL_nil ?_
     go_wp2
     go_ret
     exact⟨rfl,B2.out,ve',us',L2.out⟩
    ·intro x u w3 k3 hxm hS hrg3 hlt3 hg3 hz3 hen
     have hit:=HG.out.iter
     have hit':∃b since seen c0,wr.heap[w5.heap.size]?=some (.mapIter b since seen c0):=⟨_,hit⟩
     have L3:=HL.out.still (Kd.next hg3 hit') (KmAll.next hg3 hit')
     have hB5:C.B≤w5.heap.size:=zr
     have HB3:=hid (below_next HB.out hg3 HL.out.size hB5)
     have bx3:=HBX.out.kd (Kd.next (T:=fun _=>False) hg3 hit') (fun h=>h) (fun h=>h)
     have HG3:=hid hrg3
     have HS3:=hid hS
     have hx0:=HCR.out _ hxm
     have hxn:=HCN.out.rin _ hxm
     simp only at hx0 hxn
     obtain⟨k,rfl⟩:∃k:Nat,x=k:=⟨x.toNat,by omega⟩
     have hkn:k < P.cells.length:=by omega
     obtain⟨c,hc⟩:∃c,cs1[k]?=some c:=⟨_,List.getElem?_eq_getElem (by rw[hl1];have:=L3.clen;rw[goS_len,hl1] at this;omega)⟩
     have hc3:=goS_at HSR.out hxm hS hc
     obtain⟨lC,c',hc',c0,c1⟩:=L3.ceAt HCE.out hkn
     rw[hc3] at hc'
     obtain rfl:=Option.some.inj hc'
     obtain⟨L4,hBC,kd1,km1,ro⟩:=L3.ceSet HCE.out (k:=k) (j:=1) (c:=c) (u:=⟨c.val,0⟩) (a:=.int .i64 0) hc3 (by decide) rfl
     rw[goS_step HSR.out hxm hc] at L4
     obtain⟨csr,hrC⟩:=L3.ceRow HCE.out
     have e1:=row_cell L3.row 1
     rw[HCE.out] at e1
     have lM3:=row_lt L3.row
     have y0:=row_cell bx3.1 0
     have f3:=row_lt bx3.1
     have ff1:=row_free hrC (k*2+1)
     have hz4:w5.heap.size+1≤w3.heap.size:=by omega
     have bx4:=bx3.kd kd1 (by decide) (by decide)
     have b4:Below C.B w (w3.setCell ⟨gC,k*2+1,none⟩ (.int .i64 0)):=HB3.out.setCell (p:=⟨gC,k*2+1,none⟩) hBC _
     have g4:=HG3.out.obj (ro br (by
      rintro rfl
      obtain⟨es,cl,hm,-⟩:=HG3.out.owns
      rw[hrC] at hm
      cases hm)) (ro w5.heap.size (by
      intro e
      obtain⟨s1,s2,s3,hi⟩:=HG3.out.iter
      rw[e,hrC] at hi
      cases hi))
     have z4:(w3.setCell ⟨gC,k*2+1,none⟩ (.int .i64 0)).heap.size=w3.heap.size:=by simp
     have HG4:=hid g4
     have HL4:=hid L4
     have HB4:=hid b4
     have HX4:=hid bx4
     clear hrg3 hg3 hS hxm hz3 hc hit hit' L3 bx3 hrC HL HB HG HBX L4 kd1 km1 ro bx4 b4 g4 hc3
     go_wp2_with fail
     go_roundg k3
     case measure=>exact hlt3
     case rel=>exact⟨_,HG4.out,HL4.out,HB4.out,by omega,HX4.out⟩
  ·intro x u w3 k3 hxm hS hrg3 hlt3 hg3 hz3 hen
   have hit:=HG.out.iter
   have hit':∃b since seen c0,wr.heap[X.heap.size]?=some (.mapIter b since seen c0):=⟨_,hit⟩
   have L3:=HL.out.still (Kd.next hg3 hit') (KmAll.next hg3 hit')
   have HB3:=hid (below_next HB.out hg3 HL.out.size hzX)
   have bx3:=HBX.out.kd (Kd.next (T:=fun _=>False) hg3 hit') (fun h=>h) (fun h=>h)
   have rw3:=Kd.next (T:=fun _=>False) hg3 hit' _ _ _ _ HRW.out (fun h=>h)
   have mr3:=HMR.out.obj (by
    obtain⟨es,cl,hm,-⟩:=HMR.out
    rw[KmAll.next hg3 hit' _ _ _ hm,hm])
   have HG3:=hid hrg3
   have HS3:=hid hS
   have hx0:=HCS.out _ hxm
   have hxn:=(HCN.out.sin _ hxm).1
   simp only at hx0 hxn
   obtain⟨k,rfl⟩:∃k:Nat,x=k:=⟨x.toNat,by omega⟩
   have hkn:k < P.cells.length:=by omega
   obtain⟨c,hc⟩:∃c,M.cs[k]?=some c:=⟨_,List.getElem?_eq_getElem (by have:=L3.clen;rw[bkS_len] at this;omega)⟩
   have hc3:=bkS_at HSS.out hxm hS hc
   obtain⟨lC,c',hc',c0,c1⟩:=L3.ceAt HCE.out hkn
   rw[hc3] at hc'
   obtain rfl:=Option.some.inj hc'
   obtain⟨L4,hBC,kd1,km1,ro⟩:=L3.ceSet HCE.out (k:=k) (j:=0) (c:=c) (u:=⟨u,c.own⟩) (a:=.int .i64 u) hc3 (by decide) rfl
   rw[bkS_step HSS.out hxm hc] at L4
   obtain⟨csr,hrC⟩:=L3.ceRow HCE.out
   have e1:=row_cell L3.row 1
   rw[HCE.out] at e1
   have lM3:=row_lt L3.row
   have y0:=row_cell bx3.1 0
   have f3:=row_lt bx3.1
   have ff1:=row_free hrC (k*2)
   have hz4:X.heap.size+1≤w3.heap.size:=by omega
   have bx4:=bx3.kd kd1 (by decide) (by decide)
   have b4:Below C.B w (w3.setCell ⟨gC,k*2,none⟩ (.int .i64 u)):=HB3.out.setCell (p:=⟨gC,k*2,none⟩) hBC _
   have rw4:=kd1 _ _ _ _ rw3 (by decide)
   have mr4:=mr3.obj (ro br (by
    rintro rfl
    obtain⟨es,cl,hm,-⟩:=mr3
    rw[hrC] at hm
    cases hm))
   have g4:=HG3.out.obj (ro bs (by
    rintro rfl
    obtain⟨es,cl,hm,-⟩:=HG3.out.owns
    rw[hrC] at hm
    cases hm)) (ro X.heap.size (by
    intro e
    obtain⟨s1,s2,s3,hi⟩:=HG3.out.iter
    rw[e,hrC] at hi
    cases hi))
   have z4:(w3.setCell ⟨gC,k*2,none⟩ (.int .i64 u)).heap.size=w3.heap.size:=by simp
   have HG4:=hid g4
   have HL4:=hid L4
   have HB4:=hid b4
   have HX4:=hid bx4
   have RW4:=hid rw4
   have MR4:=hid mr4
   clear hrg3 hg3 hS hxm hz3 hc hit hit' L3 bx3 hrC HL HB HG HBX HRW HMR L4 kd1 km1 ro bx4 b4 g4 hc3 rw3 rw4 mr3 mr4
   go_wp2_with fail
   go_roundg k3
   case measure=>exact hlt3
   case rel=>exact⟨_,HG4.out,HL4.out,HB4.out,by omega,HX4.out,RW4.out,MR4.out⟩
end
end
