/- Parts of the proof, merged by program out of 4 texts (Lib, Sam, EmA, App): the first: Words for memory: a slice that shows a list of cells, and what keeps it. Conditions: those of each theorem, as typed. -/
import Derived.Test.YtkfhgifhfkcehaaGreatDoorQL01
import Derived.WalkKit
import Derived.ProofKit
import Derived.Deep.Draws
import Derived.Test.YtkfhgifhfkcehaaGreatDoorChecked
import Derived.Outline
set_option linter.unusedVariables false
set_option linter.unusedSimpArgs false
set_option linter.unusedSectionVars false
set_option maxRecDepth 100000
set_option maxHeartbeats 4000000
namespace Go.Proofs.YtkfhgifhfkcehaaGreatDoor
open Go.RowKit
theorem hid {p:Prop} (h:p):Hid p:=h
def Stop (p:Prop):Prop:=p
theorem Stop.halt {p:Prop} (h:Stop p):p:=h
theorem Stop.go {p:Prop} (h:p):Stop p:=h
def Sl (w:World) (B sz:Nat) (v:Value) (n:Nat) (xs:List Value):Prop:=
 ∃a cap,v=.slice a n cap∧n≤9223372036854775807∧xs.length=n*sz∧(0 < n→∃b off,a=some ⟨b,off,none⟩∧b < B∧∀j u,xs[j]?=some u→w.cell? ⟨b,off+j,none⟩=some u)
section
variable {w w':World} {B B' sz n:Nat} {v:Value} {xs:List Value}
theorem Sl.ex (h:Sl w B sz v n xs):∃a cap,v=.slice a n cap∧n≤9223372036854775807:=let ⟨a,cap,hv,hn,_⟩:=h;⟨a,cap,hv,hn⟩
theorem Sl.len (h:Sl w B sz v n xs):xs.length=n*sz:=let ⟨_,_,_,_,hl,_⟩:=h;hl
theorem Sl.keep (h:Sl w B sz v n xs) (hk:∀b off,b < B→w'.cell? ⟨b,off,none⟩=w.cell? ⟨b,off,none⟩):Sl w' B sz v n xs:=by
 obtain⟨a,cap,hv,hn,hl,h⟩:=h
 exact⟨a,cap,hv,hn,hl,fun h0=>let ⟨b,off,ha,hb,hc⟩:=h h0;⟨b,off,ha,hb,fun j u hu=>(hk b _ hb).trans (hc j u hu)⟩⟩
theorem Sl.more (h:Sl w B sz v n xs) (hB:B≤B'):Sl w B' sz v n xs:=by
 obtain⟨a,cap,hv,hn,hl,h⟩:=h
 exact⟨a,cap,hv,hn,hl,fun h0=>let ⟨b,off,ha,hb,hc⟩:=h h0;⟨b,off,ha,by omega,hc⟩⟩
theorem Sl.below (h:Sl w B sz v n xs) (hb:Below B w w'):Sl w' B sz v n xs:=h.keep fun b off hlt=>hb.cell (p:=⟨b,off,none⟩) hlt
theorem Sl.drew (h:Sl w B sz v n xs):Sl w.drew B sz v n xs:=h
theorem Sl.alloc (h:Sl w B sz v n xs) (hB:B≤w.heap.size) (o:Obj):Sl (w.alloc o) B sz v n xs:=
 h.keep fun b off hlt=>World.cell?_alloc_lt w o ⟨b,off,none⟩ (by show b < _;omega)
theorem Sl.of_own {e:TypeId} {base:Nat} (h:w.ownsRow base e sz v n xs):Sl w w.heap.size sz v n xs:=by
 obtain⟨hl,h⟩:=h
 rcases h with⟨rfl,rfl⟩|⟨g,cap,cur,rfl,hg,hh,hnc,hcm,hs,ht⟩
 ·exact ⟨none,0,rfl,by omega,hl,fun h=>absurd h (by omega)⟩
 ·refine ⟨some ⟨g,0,none⟩,cap,rfl,by unfold maxLen at hcm;omega,hl,fun _=>⟨g,0,rfl,(Array.getElem?_eq_some_iff.1 hh).1,fun j u hu=>?_⟩⟩
  have hj:j < n*sz:=by have:=(List.getElem?_eq_some_iff.1 hu).1;omega
  rw[←ht,List.getElem?_take,if_pos hj] at hu
  simp only[World.cell?,hh,Option.isSome_none,Bool.false_eq_true,if_false,Nat.zero_add]
  simpa using hu
end
theorem Sl.at1 {w:World} {B n cap:Nat} {a:Option Addr} {xs:List Value} (h:Sl w B 1 (.slice a n cap) n xs) {k:Nat} (hk:k < n):
  ∃b off u,a=some ⟨b,off,none⟩∧b < B∧xs[k]?=some u∧w.cell? ⟨b,off+k,none⟩=some u:=by
 obtain⟨a',cap',hv,hm,hl,h⟩:=h
 simp only[Value.slice.injEq] at hv
 obtain⟨rfl,-,rfl⟩:=hv
 obtain⟨b,off,rfl,hb,hc⟩:=h (by omega)
 have hkl:k < xs.length:=by omega
 exact⟨b,off,xs[k],rfl,hb,List.getElem?_eq_getElem hkl,hc k _ (List.getElem?_eq_getElem hkl)⟩
theorem flat_get {α:Type} (f:α→List Value) (sz:Nat) (hf:∀x,(f x).length=sz):∀(l:List α) (k j:Nat) (x:α),l[k]?=some x→j < sz→(l.flatMap f)[k*sz+j]?=(f x)[j]?
 |[],k,j,x,h,_=>by simp at h
 |y::l,0,j,x,h,hj=>by
  simp only[List.getElem?_cons_zero,Option.some.injEq] at h
  subst h
  simp only[List.flatMap_cons,Nat.zero_mul,Nat.zero_add]
  rw[List.getElem?_append_left (by rw[hf];exact hj)]
 |y::l,k+1,j,x,h,hj=>by
  simp only[List.getElem?_cons_succ] at h
  simp only[List.flatMap_cons]
  rw[List.getElem?_append_right (by rw[hf,Nat.add_mul];omega),hf,show(k+1)*sz+j - sz=k*sz+j from by rw[Nat.add_mul];omega]
  exact flat_get f sz hf l k j x h hj
theorem flat_length {α:Type} (f:α→List Value) (sz:Nat) (hf:∀x,(f x).length=sz) (l:List α):(l.flatMap f).length=l.length*sz:=by
 induction l with
 |nil=>simp
 |cons x l ih=>simp only[List.flatMap_cons,List.length_append,ih,hf,List.length_cons,Nat.add_mul];omega
theorem Sl.atF {α:Type} {w:World} {B sz n cap:Nat} {a:Option Addr} {f:α→List Value} {l:List α} (hf:∀x,(f x).length=sz) (h:Sl w B sz (.slice a n cap) n (l.flatMap f)) (hln:l.length=n) {k:Nat} (hk:k < n):
  ∃b off x,a=some ⟨b,off,none⟩∧b < B∧l[k]?=some x∧∀j,j < sz→w.cell? ⟨b,off+k*sz+j,none⟩=(f x)[j]?:=by
 obtain⟨a',cap',hv,hm,hl,h⟩:=h
 simp only[Value.slice.injEq] at hv
 obtain⟨rfl,-,rfl⟩:=hv
 obtain⟨b,off,rfl,hb,hc⟩:=h (by omega)
 have hkl:k < l.length:=by omega
 refine⟨b,off,l[k],rfl,hb,List.getElem?_eq_getElem hkl,fun j hj=>?_⟩
 have h1:=flat_get f sz hf l k j _ (List.getElem?_eq_getElem hkl) hj
 have h2:j < (f l[k]).length:=by rw[hf];exact hj
 rw[List.getElem?_eq_getElem h2] at h1 ⊢
 rw[Nat.add_assoc]
 exact hc _ _ h1
theorem cell_new (w:World) (cs:Array Value) (t:TypeId) (fz:Nat×Nat) (j:Nat):(w.alloc (.cells cs t fz)).cell? ⟨w.heap.size,j,none⟩=cs[j]?:=by
 have h:(w.alloc (.cells cs t fz)).heap[w.heap.size]?=some (.cells cs t fz):=heap_alloc_new w _
 simp only[World.cell?,h,Option.isSome_none,Bool.false_eq_true,if_false]
theorem cell_below {B:Nat} {w w':World} {b off:Nat} {v:Value} (hb:Below B w w') (h:b < B) (hv:w.cell? ⟨b,off,none⟩=some v):w'.cell? ⟨b,off,none⟩=some v:=
 (hb.cell (p:=⟨b,off,none⟩) h).trans hv
def IsL {α:Type} (R:World→Nat→Value→α→Prop) (w:World) (B:Nat) (v:Value) (l:List α):Prop:=
 ∃vs:List Value,Sl w B 1 v l.length vs∧∀(k:Nat) (u:Value) (x:α),vs[k]?=some u→l[k]?=some x→R w B u x
section
variable {α:Type} {R:World→Nat→Value→α→Prop} {w w':World} {B B':Nat} {v:Value} {l:List α}
theorem IsL.below (hR:∀u x,R w B u x→R w' B u x) (h:IsL R w B v l) (hb:Below B w w'):IsL R w' B v l:=
 let ⟨vs,h1,h2⟩:=h;⟨vs,h1.below hb,fun k u x hu hx=>hR u x (h2 k u x hu hx)⟩
theorem IsL.more (hR:∀u x,R w B u x→R w B' u x) (h:IsL R w B v l) (hB:B≤B'):IsL R w B' v l:=
 let ⟨vs,h1,h2⟩:=h;⟨vs,h1.more hB,fun k u x hu hx=>hR u x (h2 k u x hu hx)⟩
theorem IsL.ex (h:IsL R w B v l):∃a cap,v=.slice a l.length cap∧l.length≤9223372036854775807:=let ⟨_,h1,_⟩:=h;h1.ex
theorem IsL.at (h:IsL R w B v l) {a:Option Addr} {n cap:Nat} (hv:v=.slice a n cap) {k:Nat} (hk:k < n):
  ∃b off u x,a=some ⟨b,off,none⟩∧b < B∧l[k]?=some x∧w.cell? ⟨b,off+k,none⟩=some u∧R w B u x:=by
 obtain⟨vs,h1,h2⟩:=h
 have hn:l.length=n:=by
  obtain⟨a',cap',e,_⟩:=h1.ex
  rw[hv] at e
  simp only[Value.slice.injEq] at e
  exact e.2.1.symm
 rw[hn,hv] at h1
 obtain⟨b,off,u,rfl,hb,hu,hc⟩:=h1.at1 hk
 have hx:l[k]?=some l[k]:=List.getElem?_eq_getElem (by omega)
 exact⟨b,off,u,_,rfl,hb,hx,hc,h2 k u _ hu hx⟩
end
structure Ob where
 kind:Int
 init:Int
structure Ev where
 kind:Int
 tx:Int
 thread:Int
 obj:Int
 op:Int
 key:Int
 val:Int
 ret:Int
structure Ac where
 kind:Int
 cell:Int
 val:Int
def Ob.cells (x:Ob):List Value:=[.int .i64 x.kind,.int .i64 x.init]
def Ev.cells (x:Ev):List Value:=[.int .i64 x.kind,.int .i64 x.tx,.int .i64 x.thread,.int .i64 x.obj,.int .i64 x.op,.int .i64 x.key,.int .i64 x.val,.int .i64 x.ret]
def Ac.cells (x:Ac):List Value:=[.int .i64 x.kind,.int .i64 x.cell,.int .i64 x.val]
theorem Ob.len (x:Ob):x.cells.length=2:=rfl
theorem Ev.len (x:Ev):x.cells.length=8:=rfl
theorem Ac.len (x:Ac):x.cells.length=3:=rfl
def IsActs (w:World) (B:Nat) (v:Value) (l:List Ac):Prop:=Sl w B 3 v l.length (l.flatMap Ac.cells)
def IsTxs (w:World) (B:Nat) (v:Value) (l:List (List Ac)):Prop:=IsL IsActs w B v l
def IsThr (w:World) (B:Nat) (v:Value) (l:List (List (List Ac))):Prop:=IsL IsTxs w B v l
theorem IsTxs.below {w w':World} {B:Nat} {v:Value} {l:List (List Ac)} (h:IsTxs w B v l) (hb:Below B w w'):IsTxs w' B v l:=IsL.below (fun _ _ h=>h.below hb) h hb
theorem IsThr.below {w w':World} {B:Nat} {v:Value} {l:List (List (List Ac))} (h:IsThr w B v l) (hb:Below B w w'):IsThr w' B v l:=IsL.below (fun _ _ h=>h.below hb) h hb
theorem IsTxs.more {w:World} {B B':Nat} {v:Value} {l:List (List Ac)} (h:IsTxs w B v l) (hb:B≤B'):IsTxs w B' v l:=IsL.more (fun _ _ h=>h.more hb) h hb
theorem IsThr.more {w:World} {B B':Nat} {v:Value} {l:List (List (List Ac))} (h:IsThr w B v l) (hb:B≤B'):IsThr w B' v l:=IsL.more (fun _ _ h=>h.more hb) h hb
structure Pg where
 cells:List Int
 threads:List (List (List Ac))
structure Th where
 tx:Nat
 act:Nat
 begun:Bool
 adding:Bool
 read:Int
 waits:Int
def Th.zero:Th:=⟨0,0,false,false,0,0⟩
def Th.cells (t:Th):List Value:=[.int .i64 t.tx,.int .i64 t.act,.bool t.begun,.bool t.adding,.int .i64 t.read,.int .i64 t.waits]
theorem Th.len (t:Th):t.cells.length=6:=rfl
structure Wst where
 ths:List Th
 evs:List Ev
def idOf (i k:Nat):Int:=3*i+k+1
def ev0 (kind:Int):Ev:=⟨kind,0,0,0,0,0,0,0⟩
def Pg.txs (p:Pg) (i:Nat):List (List Ac):=p.threads.getD i []
def Pg.acts (p:Pg) (i k:Nat):List Ac:=(p.txs i).getD k []
def thDone (p:Pg) (i:Nat) (t:Th):Bool:=t.tx==(p.txs i).length
def askOf (t:Th) (a:Ac):Ev:=
 if a.kind=2 then⟨2,0,0,a.cell,2,0,a.val,0⟩
 else if a.kind=3∧t.adding=true then⟨2,0,0,a.cell,2,0,a.val+t.read,0⟩
 else⟨2,0,0,a.cell,1,0,0,0⟩
def ownEv (p:Pg) (i:Nat) (t:Th):Ev:=
 if t.begun=false then {ev0 1 with thread:=i}
 else match (p.acts i t.tx)[t.act]? with
  |none=>ev0 4
  |some a=>if a.kind=4 then ev0 7 else askOf t a
def withTx (e:Ev) (x:Int):Ev:={e with tx:=x}
def nextOf (p:Pg) (i:Nat) (t:Th):Option (Th×Ev):=
 if thDone p i t=true∨t.waits≠0 then none
 else
  let e:=withTx (ownEv p i t) (idOf i t.tx)
  if t.begun=false then some ({t with begun:=true},e) else some ({t with waits:=e.kind},e)
def within9 (n:Int):Bool:=decide (-1000000000≤n)&&decide (n≤1000000000)
def ansOf (p:Pg) (i:Nat) (t:Th) (val:Int) (abort:Bool):Option (Th×Ev):=
 if thDone p i t=true∨t.waits=0 then none
 else if abort=true then some ({Th.zero with tx:=t.tx+1},withTx (ev0 6) (idOf i t.tx))
 else if t.waits=4 then some ({Th.zero with tx:=t.tx+1},withTx (ev0 5) (idOf i t.tx))
 else if t.waits=7 then none
 else match (p.acts i t.tx)[t.act]? with
  |none=>none
  |some a=>
   if a.kind=1∨(a.kind=3∧t.adding=false) then
    if within9 val=false∨(a.kind=3∧within9 (val+a.val)=false) then none
    else if a.kind=3 then some ({t with waits:=0,adding:=true,read:=val},withTx {ev0 3 with ret:=3,val:=val} (idOf i t.tx))
    else some ({t with waits:=0,act:=t.act+1},withTx {ev0 3 with ret:=3,val:=val} (idOf i t.tx))
   else some ({t with waits:=0,adding:=false,act:=t.act+1},withTx {ev0 3 with ret:=1} (idOf i t.tx))
def Wst.put (s:Wst) (i:Nat) (x:Th×Ev):Wst:=⟨s.ths.set i x.1,s.evs++[x.2]⟩
structure PgOk (p:Pg):Prop where
 cells:1≤p.cells.length∧p.cells.length≤4
 cell:∀c ∈ p.cells,-1000000≤c∧c≤1000000
 threads:1≤p.threads.length∧p.threads.length≤4
 txs:∀t ∈ p.threads,t.length≤3
 acts:∀t ∈ p.threads,∀l ∈ t,1≤l.length∧l.length≤6
 act:∀t ∈ p.threads,∀l ∈ t,∀(k:Nat) (a:Ac),l[k]?=some a→(a.kind=4∧k+1=l.length∧a.cell=0∧a.val=0)∨((a.kind=1∧a.val=0∨a.kind=2∨a.kind=3)∧0≤a.cell∧a.cell < p.cells.length∧-1000≤a.val∧a.val≤1000)
structure ThOk (p:Pg) (i:Nat) (t:Th):Prop where
 tx:t.tx≤(p.txs i).length
 act:t.act≤(p.acts i t.tx).length
 waits:t.waits=0∨t.begun=true∧((t.waits=2∧∃a,(p.acts i t.tx)[t.act]?=some a∧a.kind≠4)∨(t.waits=4∧t.act=(p.acts i t.tx).length)∨(t.waits=7∧∃a,(p.acts i t.tx)[t.act]?=some a∧a.kind=4))
 read:-1000000000≤t.read∧t.read≤1000000000
theorem cells_new_add (w:World) (l:List Value) (t:TypeId):∀(j:Nat) (u:Value),l[j]?=some u→(w.alloc (.cells l.toArray t)).cell? ((⟨w.heap.size,0,none⟩:Addr).add j)=some u:=by
 intro j u hu
 have hadd:((⟨w.heap.size,0,none⟩:Addr).add j)=⟨w.heap.size,j,none⟩:=by unfold Addr.add;split <;> simp_all
 rw[hadd,cell_new]
 simpa using hu
theorem own_fresh {w:World} {base n m old:Nat} {e:TypeId} {i:TypeInfo} {z:Value} {xs news:List Value} (hl:(xs++news).length=(n+m)*i.size) (hzs:z.cells.size=i.size)
  (h63:n+m≤maxLen) (hbase:base≤w.heap.size) (row:Option Nat):
  (w.drew.alloc (.cells (xs.toArray++news.toArray++Builtin.zeroCells z.cells (grownCap w (n+m) old e - (n+m))) e)).ownsRow base e i.size
    (.slice (some ⟨w.heap.size,0,none⟩) (n+m) (grownCap w (n+m) old e)) (n+m) (xs++news)∧
   w.grownBy (w.drew.alloc (.cells (xs.toArray++news.toArray++Builtin.zeroCells z.cells (grownCap w (n+m) old e - (n+m))) e)) row:=by
 have hge:=grownCap_ge w (n+m) old e
 have hcm:grownCap w (n+m) old e≤maxLen:=grownCap_le_maxLen w (n+m) old e h63
 have hl2:xs.length+news.length=(n+m)*i.size:=by rw[←List.length_append];exact hl
 refine⟨⟨hl,.inr ⟨w.heap.size,_,_,rfl,hbase,heap_alloc_new w.drew _,hge,hcm,?_,?_⟩⟩,⟨rfl,rfl,rfl,by simp,fun k hk _=>Below.heap_alloc w.drew _ k hk⟩⟩
 ·simp only[Array.size_append,List.size_toArray,size_zeroCells,hzs]
  rw[hl2,←Nat.add_mul]
  congr 1
  omega
 ·simp only[Array.toList_append,List.append_assoc]
  rw[←List.append_assoc,←hl]
  exact List.take_left
theorem run_append1 {P:Program} (w:World) (base:Nat) (t ty e:TypeId) (i:TypeInfo) (z:Value) (size bytes:Nat) (ht:P.underlying t=some (.slice e)) (hi:P.info? e=some i) (hz:i.zero=some z)
  (hsize:i.size=size) (hby:i.bytes=bytes) (hzs:z.cells.size=size) (v:Value) (n:Nat) (xs:List Value) (hown:w.ownsRow base e size v n xs)
  (a:Addr) (m c:Nat) (hm:0 < m) (news:List Value) (hl:news.length=m*size) (hnews:∀j u,news[j]?=some u→w.cell? (a.add j)=some u) (h1:∀u ∈ news,u.oneCell'=true)
  (h63:n+m≤maxLen) (hbytes:(n+m)*bytes≤140737488355328) (hbase:base≤w.heap.size):
  ∃g cap w',(Builtin.append_ #[t,t] ty #[v,.slice (some a) m c]).run P w=.ok (.slice (some ⟨g,0,none⟩) (n+m) cap) w'∧w'.ownsRow base e size (.slice (some ⟨g,0,none⟩) (n+m) cap) (n+m) (xs++news)∧w.grownBy w' v.ownBlock∧
   (g=w.heap.size∨v.ownBlock=some g):=by
 subst hsize
 subst hby
 have hsmall:n+m≤9223372036854775807:=by simp only[maxLen] at h63;omega
 have hlen:(xs++news).length=(n+m)*i.size:=by rw[List.length_append,hown.1,hl,Nat.add_mul]
 rcases hown.2 with⟨rfl,rfl⟩|⟨g,cap,cur,rfl,hbg,hg,hnc,hcm,hcs,htake⟩
 ·have hx:xs=[]:=List.eq_nil_of_length_eq_zero (by simpa using hown.1)
  subst hx
  have hr:=run_append_nil (P:=P) w t ty e i z ht hi hz a m c news hl hnews hm (by omega) (by have hb:=hbytes;simp only[Nat.zero_add] at hb;omega)
  have hgr:=own_fresh (old:=0) (e:=e) (z:=z) hlen hzs h63 hbase (Value.ownBlock (.slice none 0 0))
  simp only[Nat.zero_add,List.nil_append,Array.empty_append] at hgr ⊢
  exact⟨_,_,_,hr,hgr.1,hgr.2,.inl rfl⟩
 ·by_cases hroom:n+m≤cap
  ·have hfit:n*i.size+news.length≤cur.size:=by rw[hl,hcs,←Nat.add_mul];exact Nat.mul_le_mul_right _ hroom
   have hr:=run_append_room (P:=P) w t ty e i ht hi g n cap cur hg a m c news hl hnews h1 hroom hfit
   refine⟨g,cap,_,hr,⟨hlen,.inr ⟨g,cap,_,rfl,hbg,setRow_heap w g cur _ e _ hg,hroom,hcm,?_,?_⟩⟩,⟨rfl,rfl,rfl,by simp,fun k _ hk=>setRow_other w g k _ (fun e=>hk (by simp[Value.ownBlock,e]))⟩,.inr rfl⟩
   ·simp only[List.size_toArray,List.length_append,List.length_take,List.length_drop,Array.length_toList]
    omega
   ·rw [htake,←hlen]
    exact List.take_left
  ·have holds:∀j u,xs[j]?=some u→w.cell? ((⟨g,0,none⟩:Addr).add j)=some u:=hown.cells (g:=g) rfl
   have hr:=run_append_grow (P:=P) w t ty e i z ht hi hz ⟨g,0,none⟩ n cap xs hown.1 holds a m c news hl hnews (by omega) (by omega) (growslice_fits (by omega) hbytes)
   have hgr:=own_fresh (old:=cap) (e:=e) (z:=z) hlen hzs h63 hbase (Value.ownBlock (.slice (some ⟨g,0,none⟩) n cap))
   exact⟨_,_,_,hr,hgr.1,hgr.2,.inl rfl⟩
structure Grw (w w':World) (v v':Value):Prop where
 grown:w.grownBy w' v.ownBlock
 own:∀k,v'.ownBlock=some k→v.ownBlock=some k∨w.heap.size≤k
theorem Grw.refl (w:World) (v:Value):Grw w w v v:=⟨⟨rfl,rfl,rfl,Nat.le_refl _,fun _ _ _=>rfl⟩,fun _ h=>.inl h⟩
theorem Grw.trans {w w1 w2:World} {v v1 v2:Value} (h:Grw w w1 v v1) (k:Grw w1 w2 v1 v2):Grw w w2 v v2:=by
 refine⟨⟨k.grown.os.trans h.grown.os,k.grown.tape.trans h.grown.tape,k.grown.output.trans h.grown.output,Nat.le_trans h.grown.size k.grown.size,fun b hb hne=>?_⟩,fun b hb=>?_⟩
 ·have h1:=h.grown.block b hb hne
  have hb1:b < w1.heap.size:=Nat.lt_of_lt_of_le hb h.grown.size
  refine(k.grown.block b hb1 fun e=>?_).trans h1
  rcases h.own b e.symm with h2|h2
  ·exact hne h2.symm
  ·omega
 ·rcases k.own b hb with h2|h2
  ·exact h.own b h2
  ·exact .inr (Nat.le_trans h.grown.size h2)
theorem Grw.below {w w':World} {v v':Value} {B:Nat} (h:Grw w w' v v') (hB:B≤w.heap.size) (hv:∀k,v.ownBlock=some k→B≤k):Below B w w':=
 (Below.refl B w).grown h.grown hB hv
theorem Grw.size {w w':World} {v v':Value} (h:Grw w w' v v'):w.heap.size≤w'.heap.size:=h.grown.size
theorem Grw.drew {w w':World} {v v':Value} (h:Grw w w' v v'):Grw w w'.drew v v':=⟨⟨h.grown.os,h.grown.tape,h.grown.output,h.grown.size,h.grown.block⟩,h.own⟩
theorem wp_append1 {P:Program} {o:Oper} {a:Act} {K:Act→World→Prop} {Q:Exit→Act→World→Prop} (s x:Operand) (t:TypeId)
  (ho:o.op=.call {callee:=.builtin .append,args:=#[s,x],argTypes:=#[t,t]})
  (e:TypeId) (z:Value) (size bytes:Nat) (ht:P.underlying t=some (.slice e)) (hinfo:(P.info? e).map (fun i=>(i.zero,i.size,i.bytes))=some (some z,size,bytes))
  (hzs:z.cells.size=size) {base n m:Nat} {v:Value} {xs news:List Value} {w0:World} (hs:a.eval s=v) (hown:w0.ownsRow base e size v n xs) (hbase:base≤w0.heap.size) (hm:0 < m)
  {g0:Nat} (hx:a.eval x=.slice (some ⟨g0,0,none⟩) m m) (hg0:g0=w0.heap.size) (hl:news.length=m*size) (h1:∀u ∈ news,u.oneCell'=true) (hn:n+m≤9223372036854775807) (hby:(n+m)*bytes≤140737488355328)
  (hK:∀g cap w',w'.ownsRow base e size (.slice (some ⟨g,0,none⟩) (n+m) cap) (n+m) (xs++news)→Grw w0 w' v (.slice (some ⟨g,0,none⟩) (n+m) cap)→K (a.put o.dst (.slice (some ⟨g,0,none⟩) (n+m) cap)) w'):
  o.wp P a (w0.alloc (.cells news.toArray e)) K Q:=by
 subst hg0
 obtain⟨i0,hi,hz0,hz1,hz2⟩:=info_parts hinfo
 obtain⟨g,cap,w',hr,hown',hgrow,hg⟩:=run_append1 (P:=P) (w0.alloc (.cells news.toArray e)) base t o.type e i0 z size bytes ht hi hz0 hz1 hz2 hzs v n xs (hown.alloc _) _ m m hm news hl
  (cells_new_add w0 news e) h1 (by unfold maxLen;omega) hby (by simp;omega)
 unfold Oper.wp execOp
 simp only[ho,resolve,invoke,builtin,Sem.run_bind,Sem.run_pure,Result.andThen_ok,List.map_toArray,List.map_cons,List.map_nil,hs,hx,hr]
 refine hK g cap w' hown' ⟨?_,?_⟩
 ·exact ⟨hgrow.os,hgrow.tape,hgrow.output,Nat.le_trans (by simp) hgrow.size,fun k hk hne=>(hgrow.block k (by simp;omega) hne).trans (Below.heap_alloc w0 _ k hk)⟩
 ·intro k hk
  simp only[Value.ownBlock,Option.some.injEq] at hk
  subst hk
  rcases hg with hg|hg
  ·right;rw[hg];simp
  ·exact .inl hg
def OwnF {α:Type} (f:α→List Value) (e:TypeId) (sz:Nat) (w:World) (B:Nat) (v:Value) (l:List α):Prop:=w.ownsRow B e sz v l.length (l.flatMap f)
section
variable {α:Type} {f:α→List Value} {e:TypeId} {sz:Nat} {w w':World} {B:Nat} {v:Value} {l:List α}
theorem OwnF.sl (h:OwnF f e sz w B v l):Sl w w.heap.size sz v l.length (l.flatMap f):=Sl.of_own h
theorem OwnF.nil (w:World) (B:Nat):OwnF f e sz w B (.slice none 0 0) []:=World.ownsRow_nil w B e sz
theorem OwnF.lt (h:OwnF f e sz w B v l):∀k,v.ownBlock=some k→B≤k∧k < w.heap.size:=World.ownsRow.lt h
theorem OwnF.kept (h:OwnF f e sz w B v l) {row:Option Nat} (hg:w.grownBy w' row) (hne:v.ownBlock=none∨v.ownBlock≠row):OwnF f e sz w' B v l:=World.ownsRow.kept h hg hne
theorem OwnF.below (h:OwnF f e sz w B v l) (hb:Below w.heap.size w w'):OwnF f e sz w' B v l:=
 World.ownsRow.kept h (row:=none) ⟨hb.os,hb.tape,hb.output,hb.size,fun k hk _=>hb.block k hk⟩ (by cases v.ownBlock <;> simp)
theorem OwnF.drew (h:OwnF f e sz w B v l):OwnF f e sz w.drew B v l:=h
theorem OwnF.alloc (h:OwnF f e sz w B v l) (o:Obj):OwnF f e sz (w.alloc o) B v l:=World.ownsRow.alloc h o
theorem OwnF.base {B':Nat} (h:OwnF f e sz w B v l) (hB:B'≤B):OwnF f e sz w B' v l:=by
 obtain⟨h1,h2⟩:=h
 refine⟨h1,?_⟩
 rcases h2 with h2|⟨g,cap,cur,hv,hg,r⟩
 ·exact .inl h2
 ·exact .inr ⟨g,cap,cur,hv,by omega,r⟩
theorem OwnF.form (h:OwnF f e sz w B v l):(v=.slice none 0 0∧l=[])∨∃g cap,v=.slice (some ⟨g,0,none⟩) l.length cap∧B≤g∧g < w.heap.size:=by
 obtain⟨h1,h2⟩:=h
 rcases h2 with⟨h2,h3⟩|⟨g,cap,cur,hv,hg,hh,r⟩
 ·exact .inl ⟨h2,List.eq_nil_of_length_eq_zero h3⟩
 ·exact .inr ⟨g,cap,hv,hg,(Array.getElem?_eq_some_iff.1 hh).1⟩
theorem wp_appF {P:Program} {o:Oper} {a:Act} {K:Act→World→Prop} {Q:Exit→Act→World→Prop} (s x:Operand) (t:TypeId)
  (ho:o.op=.call {callee:=.builtin .append,args:=#[s,x],argTypes:=#[t,t]})
  (z:Value) (bytes:Nat) (ht:P.underlying t=some (.slice e)) (hinfo:(P.info? e).map (fun i=>(i.zero,i.size,i.bytes))=some (some z,sz,bytes))
  (hzs:z.cells.size=sz) {w0:World} (hown:OwnF f e sz w0 B v l) (y:α) (hbase:B≤w0.heap.size) (hs:a.eval s=v)
  {g0:Nat} (hx:a.eval x=.slice (some ⟨g0,0,none⟩) 1 1) (hg0:g0=w0.heap.size) (hl:(f y).length=sz) (h1:∀u ∈ f y,u.oneCell'=true) (hn:l.length+1≤9223372036854775807) (hby:(l.length+1)*bytes≤140737488355328)
  (hK:∀g cap w',OwnF f e sz w' B (.slice (some ⟨g,0,none⟩) (l.length+1) cap) (l++[y])→Grw w0 w' v (.slice (some ⟨g,0,none⟩) (l.length+1) cap)→K (a.put o.dst (.slice (some ⟨g,0,none⟩) (l.length+1) cap)) w'):
  o.wp P a (w0.alloc (.cells (f y).toArray e)) K Q:=
 wp_append1 s x t ho e z sz bytes ht hinfo hzs hs hown hbase (by omega) hx hg0 (by simpa using hl) h1 hn hby fun g cap w' h2 h3=>hK g cap w' (by simpa[OwnF,List.flatMap_append] using h2) h3
theorem wpList_appF {P:Program} {ops:Array Oper} {rest:List Oper} {o:Oper} {a:Act} {Q:Exit→Act→World→Prop} (hgd:o.guard=none) (s x:Operand) (t:TypeId)
  (ho:o.op=.call {callee:=.builtin .append,args:=#[s,x],argTypes:=#[t,t]})
  (z:Value) (bytes:Nat) (ht:P.underlying t=some (.slice e)) (hinfo:(P.info? e).map (fun i=>(i.zero,i.size,i.bytes))=some (some z,sz,bytes))
  (hzs:z.cells.size=sz) {w0:World} (hown:OwnF f e sz w0 B v l) (y:α) (hbase:B≤w0.heap.size) (hs:a.eval s=v)
  {g0:Nat} (hx:a.eval x=.slice (some ⟨g0,0,none⟩) 1 1) (hg0:g0=w0.heap.size) (hl:(f y).length=sz) (h1:∀u ∈ f y,u.oneCell'=true) (hn:l.length+1≤9223372036854775807) (hby:(l.length+1)*bytes≤140737488355328)
  (hK:∀g cap w',OwnF f e sz w' B (.slice (some ⟨g,0,none⟩) (l.length+1) cap) (l++[y])→Grw w0 w' v (.slice (some ⟨g,0,none⟩) (l.length+1) cap)→wpList P ops Q rest (a.put o.dst (.slice (some ⟨g,0,none⟩) (l.length+1) cap)) w'):
  wpList P ops Q (o::rest) a (w0.alloc (.cells (f y).toArray e)):=
 wpList_plain hgd fun _ hK'=>wp_appF s x t ho z bytes ht hinfo hzs hown y hbase hs hx hg0 hl h1 hn hby fun g cap w' h2 h3=>hK' _ _ (hK g cap w' h2 h3)
theorem OwnF.lit (w:World) (B:Nat) (hB:B≤w.heap.size) (l:List α) (hl:∀y,(f y).length=sz) (hn:l.length≤9223372036854775807):
  OwnF f e sz (w.alloc (.cells (l.flatMap f).toArray e)) B (.slice (some ⟨w.heap.size,0,none⟩) l.length l.length) l:=by
 refine⟨flat_length f sz hl l,.inr ⟨w.heap.size,l.length,_,rfl,hB,heap_alloc_new w _,Nat.le_refl _,by unfold maxLen;omega,by simp[flat_length f sz hl l],?_⟩⟩
 rw[←flat_length f sz hl l]
 exact List.take_length
end
theorem row_cell {w:World} {g:Nat} {cs:Array Value} {t:TypeId} {fz:Nat×Nat} (h:w.heap[g]?=some (.cells cs t fz)) (j:Nat):w.cell? ⟨g,j,none⟩=cs[j]?:=by
 simp only[World.cell?,h,Option.isSome_none,Bool.false_eq_true,if_false]
theorem row_free {w:World} {g:Nat} {cs:Array Value} {t:TypeId} (h:w.heap[g]?=some (.cells cs t (0,0))) (j:Nat):w.frozen? ⟨g,j,none⟩=false:=by
 simp[World.frozen?,h]
theorem row_set {w:World} {g:Nat} {cs:Array Value} {t:TypeId} {fz:Nat×Nat} (h:w.heap[g]?=some (.cells cs t fz)) (j:Nat) (v:Value):(w.setCell ⟨g,j,none⟩ v).heap[g]?=some (.cells (cs.setIfInBounds j v) t fz):=by
 simp[World.setCell,Array.getElem?_modify,h]
theorem row_new (w:World) (o:Obj):(w.alloc o).heap[w.heap.size]?=some o:=heap_alloc_new w o
theorem row_old {w:World} {o:Obj} {g:Nat} {x:Obj} (h:w.heap[g]?=some x):(w.alloc o).heap[g]?=some x:=
 (Below.heap_alloc w o g (Array.getElem?_eq_some_iff.1 h).1).trans h
theorem row_lt {w:World} {g:Nat} {x:Obj} (h:w.heap[g]?=some x):g < w.heap.size:=(Array.getElem?_eq_some_iff.1 h).1
theorem row_below {w w':World} {B g:Nat} {x:Obj} (h:w.heap[g]?=some x) (hb:Below B w w') (hg:g < B):w'.heap[g]?=some x:=(hb.block g hg).trans h
theorem row_grw {w w':World} {v v':Value} {g:Nat} {x:Obj} (h:w.heap[g]?=some x) (hb:Grw w w' v v') (hg:v.ownBlock≠some g):w'.heap[g]?=some x:=
 (hb.grown.block g (row_lt h) (fun e=>hg e.symm)).trans h
theorem row_drew {w:World} {g:Nat} {x:Obj} (h:w.heap[g]?=some x):w.drew.heap[g]?=some x:=h
theorem row_other {w:World} {g g' j:Nat} {x:Obj} {v:Value} (h:w.heap[g]?=some x) (hne:g'≠g):(w.setCell ⟨g',j,none⟩ v).heap[g]?=some x:=
 (Below.heap_setCell w ⟨g',j,none⟩ v g (fun e=>hne e.symm)).trans h
section
variable {α:Type} {f:α→List Value} {e:TypeId} {sz:Nat} {w w':World} {B:Nat} {v:Value} {l:List α}
theorem OwnF.set (h:OwnF f e sz w B v l) {g j:Nat} {u:Value} (hg:g < B):OwnF f e sz (w.setCell ⟨g,j,none⟩ u) B v l:=ownsRow_setCell_below h (a:=⟨g,j,none⟩) hg u
theorem OwnF.grw {v1 v2:Value} (h:OwnF f e sz w B v l) (hb:Grw w w' v1 v2) (hne:∀k,v.ownBlock=some k→v1.ownBlock≠some k):OwnF f e sz w' B v l:=by
 refine h.kept hb.grown ?_
 cases hv:v.ownBlock with
 |none=>exact .inl rfl
 |some k=>exact .inr (fun e=>hne k hv e.symm)
end
theorem drew_alloc (w:World) (o:Obj):(w.alloc o).drew=w.drew.alloc o:=rfl
theorem row_new' {w:World} {o:Obj} {g:Nat} (hg:g=w.heap.size):(w.alloc o).heap[g]?=some o:=by rw[hg];exact row_new w o
theorem wp_appS {α:Type} {f:α→List Value} {e:TypeId} {sz B N:Nat} {v u:Value} {l:List α} {P:Program} {o:Oper} {a:Act} {K:Act→World→Prop} {Q:Exit→Act→World→Prop} (s x:Operand) (t:TypeId)
  (ho:o.op=.call {callee:=.builtin .append,args:=#[s,x],argTypes:=#[t,t]})
  (z:Value) (bytes:Nat) (ht:P.underlying t=some (.slice e)) (hinfo:(P.info? e).map (fun i=>(i.zero,i.size,i.bytes))=some (some z,sz,bytes))
  (hzs:z.cells.size=sz) {w:World} (hown:OwnF f e sz w B v l) (ys:List α) {m:Nat} (hm:ys.length=m) (hm0:0 < m) (hsrc:Sl w N sz u m (ys.flatMap f)) (hbase:B≤w.heap.size) (hs:a.eval s=v)
  (hx:a.eval x=u) (hl:∀y,(f y).length=sz) (h1:∀y,∀u ∈ f y,u.oneCell'=true) (hn:l.length+m≤9223372036854775807) (hby:(l.length+m)*bytes≤140737488355328)
  (hK:∀g cap w',OwnF f e sz w' B (.slice (some ⟨g,0,none⟩) (l.length+m) cap) (l++ys)→Grw w w' v (.slice (some ⟨g,0,none⟩) (l.length+m) cap)→K (a.put o.dst (.slice (some ⟨g,0,none⟩) (l.length+m) cap)) w'):
  o.wp P a w K Q:=by
 obtain⟨i0,hi,hz0,hz1,hz2⟩:=info_parts hinfo
 obtain⟨ad,c,rfl,hml,hsl,hc⟩:=hsrc
 obtain⟨b,off,rfl,hb,hc⟩:=hc hm0
 obtain⟨g,cap,w',hr,hown',hgrow,hg⟩:=run_append1 (P:=P) w B t o.type e i0 z sz bytes ht hi hz0 hz1 hz2 hzs v l.length (l.flatMap f) hown ⟨b,off,none⟩ m c hm0 (ys.flatMap f) hsl
  (fun j u hu=>by
   have hadd:((⟨b,off,none⟩:Addr).add j)=⟨b,off+j,none⟩:=by unfold Addr.add;split <;> simp_all
   rw[hadd];exact hc j u hu) (fun u hu=>by obtain⟨y,_,hy⟩:=List.mem_flatMap.1 hu;exact h1 y u hy) (by unfold maxLen;omega) hby hbase
 unfold Oper.wp execOp
 simp only[ho,resolve,invoke,builtin,Sem.run_bind,Sem.run_pure,Result.andThen_ok,List.map_toArray,List.map_cons,List.map_nil,hs,hx,hr]
 refine hK g cap w' ?_ ⟨hgrow,?_⟩
 ·unfold OwnF
  rw[List.flatMap_append,List.length_append,hm]
  exact hown'
 ·intro k hk
  simp only[Value.ownBlock,Option.some.injEq] at hk
  subst hk
  rcases hg with hg|hg
  ·right;omega
  ·exact .inl hg
