/- Parts of the proof, merged by program out of 14 texts (FsB, FsC, RelM, RelQ, RefM, GrM, GrD, SnP, Queue, LayD, Stp, GsI, GsK, Clo): the first: A chain of transactions, each of which reads what the one ahead has written: plain lists. Conditions: those of each theorem, as typed. -/
import Derived.Test.YtcpfbphcldocpaaGreatDoorQF06
import Derived.Test.YtcpfbphcldocpaaGreatDoorQF16
import Derived.Test.YtcpfbphcldocpaaGreatDoorQF02
import Derived.Shelf.Slices.Delete
import Derived.Ground.Names2Prog
import Derived.Test.YtcpfbphcldocpaaGreatDoorProg
import Derived.Test.YtcpfbphcldocpaaGreatDoorChecked
import Derived.Test.YtcpfbphcldocpaaGreatDoorQF05
set_option linter.unusedVariables false
set_option linter.unusedSimpArgs false
set_option linter.unusedSectionVars false
set_option maxRecDepth 100000
set_option maxHeartbeats 4000000
namespace Go.Proofs.YtcpfbphcldocpaaGreatDoor
open Go.Maps Go.RowKit Go.Shelf
abbrev Pr:=Int×Int
def plt (x y:Pr):Prop:=x.1 < y.1∨(x.1=y.1∧x.2 < y.2)
instance (x y:Pr):Decidable (plt x y):=inferInstanceAs (Decidable (_∨_))
def Srt (l:List Pr):Prop:=l.Pairwise plt
def SrtI (l:List Int):Prop:=l.Pairwise (· < ·)
theorem plt_irrefl (x:Pr):¬plt x x:=by unfold plt;omega
theorem plt_trans {x y z:Pr} (h:plt x y) (k:plt y z):plt x z:=by unfold plt at *;omega
theorem plt_total {x y:Pr} (h:x≠y):plt x y∨plt y x:=by
 unfold plt
 have:x.1≠y.1∨x.2≠y.2:=by
  rcases Int.lt_trichotomy x.1 y.1 with h1|h1|h1
  ·exact .inl (by omega)
  ·refine .inr fun h2=>h (Prod.ext h1 h2)
  ·exact .inl (by omega)
 omega
theorem rise_ext {α:Type} {r:α→α→Prop} (hi:∀x,¬r x x) (ht:∀{x y z},r x y→r y z→r x z):∀{l l':List α},l.Pairwise r→l'.Pairwise r→(∀x,x ∈ l↔x ∈ l')→l=l'
 |[],[],_,_,_=>rfl
 |[],y::l',_,_,h=>absurd ((h y).2 (by simp)) (by simp)
 |x::l,[],_,_,h=>absurd ((h x).1 (by simp)) (by simp)
 |x::l,y::l',h1,h2,h=>by
  obtain⟨a1,a2⟩:=List.pairwise_cons.1 h1
  obtain⟨b1,b2⟩:=List.pairwise_cons.1 h2
  have e:x=y:=by
   rcases List.mem_cons.1 ((h x).1 (by simp)) with e|e
   ·exact e
   ·rcases List.mem_cons.1 ((h y).2 (by simp)) with e'|e'
    ·exact e'.symm
    ·exact absurd (ht (a1 y e') (b1 x e)) (hi x)
  subst e
  have:l=l':=rise_ext hi ht a2 b2 fun z=>by
   constructor
   ·intro hz
    rcases List.mem_cons.1 ((h z).1 (by simp[hz])) with e|e
    ·subst e;exact absurd (a1 z hz) (hi z)
    ·exact e
   ·intro hz
    rcases List.mem_cons.1 ((h z).2 (by simp[hz])) with e|e
    ·subst e;exact absurd (b1 z hz) (hi z)
    ·exact e
  rw[this]
theorem Srt.ext {l l':List Pr} (h1:Srt l) (h2:Srt l') (h:∀x,x ∈ l↔x ∈ l'):l=l':=rise_ext plt_irrefl plt_trans h1 h2 h
theorem SrtI.ext {l l':List Int} (h1:SrtI l) (h2:SrtI l') (h:∀x,x ∈ l↔x ∈ l'):l=l':=rise_ext (fun _=>Int.lt_irrefl _) Int.lt_trans h1 h2 h
theorem SrtI.nodup {l:List Int} (h:SrtI l):l.Nodup:=h.imp (fun h=>by omega)
theorem Srt.nodup {l:List Pr} (h:Srt l):l.Nodup:=h.imp (fun {a b} (h:plt a b) (e:a=b)=>plt_irrefl b (by rw[e] at h;exact h))
def insI (n:Int):List Int→List Int
 |[]=>[n]
 |y::r=>if y=n then y::r else if n < y then n::y::r else y::insI n r
theorem mem_insI {n x:Int}:∀{l:List Int},x ∈ insI n l↔x=n∨x ∈ l
 |[]=>by simp[insI]
 |y::r=>by
  unfold insI
  split
  ·rename_i h;subst h;simp
  ·split
   ·simp
   ·simp [mem_insI (l:=r)]
    constructor
    ·rintro (h|h|h) <;> simp[h]
    ·rintro (h|h|h) <;> simp[h]
theorem srt_insI {n:Int}:∀{l:List Int},SrtI l→SrtI (insI n l)
 |[],_=>by simp[insI,SrtI]
 |y::r,h=>by
  obtain⟨h1,h2⟩:=List.pairwise_cons.1 h
  unfold insI
  split
  ·exact h
  ·split
   ·rename_i h3
    refine List.pairwise_cons.2 ⟨fun z hz=>?_,h⟩
    rcases List.mem_cons.1 hz with rfl|hz
    ·exact h3
    ·have:=h1 z hz;omega
   ·refine List.pairwise_cons.2 ⟨fun z hz=>?_,srt_insI h2⟩
    rcases mem_insI.1 hz with rfl|hz
    ·omega
    ·exact h1 z hz
theorem insI_of_mem {n:Int} {l:List Int} (h:SrtI l) (hm:n ∈ l):insI n l=l:=(srt_insI h).ext h fun x=>by rw[mem_insI];constructor;(rintro(rfl|h) <;> assumption);exact .inr
theorem length_insI {n:Int}:∀{l:List Int},(insI n l).length≤l.length+1
 |[]=>by simp[insI]
 |y::r=>by
  unfold insI
  have:=length_insI (n:=n) (l:=r)
  split
  ·simp
  ·split <;> simp <;> omega
def insP (p:Pr):List Pr→List Pr
 |[]=>[p]
 |y::r=>if y=p then y::r else if plt p y then p::y::r else y::insP p r
theorem mem_insP {p x:Pr}:∀{l:List Pr},x ∈ insP p l↔x=p∨x ∈ l
 |[]=>by simp[insP]
 |y::r=>by
  unfold insP
  split
  ·rename_i h;subst h;simp
  ·split
   ·simp
   ·simp only[List.mem_cons,mem_insP (l:=r)]
    constructor
    ·rintro (h|h|h) <;> simp[h]
    ·rintro (h|h|h) <;> simp[h]
theorem srt_insP {p:Pr}:∀{l:List Pr},Srt l→Srt (insP p l)
 |[],_=>by simp[insP,Srt]
 |y::r,h=>by
  obtain⟨h1,h2⟩:=List.pairwise_cons.1 h
  unfold insP
  split
  ·exact h
  ·rename_i hne
   split
   ·rename_i h3
    refine List.pairwise_cons.2 ⟨fun z hz=>?_,h⟩
    rcases List.mem_cons.1 hz with rfl|hz
    ·exact h3
    ·exact plt_trans h3 (h1 z hz)
   ·rename_i h3
    refine List.pairwise_cons.2 ⟨fun z hz=>?_,srt_insP h2⟩
    rcases mem_insP.1 hz with rfl|hz
    ·rcases plt_total hne with h|h
     ·exact h
     ·exact absurd h h3
    ·exact h1 z hz
theorem length_insP {p:Pr}:∀{l:List Pr},(insP p l).length≤l.length+1
 |[]=>by simp[insP]
 |y::r=>by
  unfold insP
  have:=length_insP (p:=p) (l:=r)
  split
  ·simp
  ·split <;> simp <;> omega
def putAll (l:List Pr):List Pr:=l.foldl (fun m p=>insP p m) []
theorem mem_fold (x:Pr):∀(l m:List Pr),x ∈ l.foldl (fun m p=>insP p m) m↔x ∈ m∨x ∈ l
 |[],m=>by simp
 |p::l,m=>by
  rw[List.foldl_cons,mem_fold x l,mem_insP,List.mem_cons]
  constructor
  ·rintro ((h|h)|h) <;> simp[h]
  ·rintro (h|h|h) <;> simp[h]
theorem mem_putAll {x:Pr} {l:List Pr}:x ∈ putAll l↔x ∈ l:=by rw[putAll,mem_fold];simp
theorem srt_fold:∀(l m:List Pr),Srt m→Srt (l.foldl (fun m p=>insP p m) m)
 |[],_,h=>h
 |_::l,_,h=>srt_fold l _ (srt_insP h)
theorem srt_putAll (l:List Pr):Srt (putAll l):=srt_fold l [] List.Pairwise.nil
theorem length_fold:∀(l m:List Pr),(l.foldl (fun m p=>insP p m) m).length≤m.length+l.length
 |[],m=>by simp
 |p::l,m=>by
  have:=length_fold l (insP p m)
  have:=length_insP (p:=p) (l:=m)
  simp only[List.foldl_cons,List.length_cons]
  omega
theorem length_putAll (l:List Pr):(putAll l).length≤l.length:=by have:=length_fold l [];simpa[putAll] using this
def row (l:List Pr) (a:Int):List Int:=(l.filter fun p=>p.1==a).map (·.2)
theorem mem_row {l:List Pr} {a b:Int}:b ∈ row l a↔(a,b) ∈ l:=by
 unfold row
 simp only[List.mem_map,List.mem_filter,beq_iff_eq]
 constructor
 ·rintro ⟨⟨x,y⟩,⟨h,rfl⟩,rfl⟩;exact h
 ·exact fun h=>⟨(a,b),⟨h,rfl⟩,rfl⟩
theorem srt_row {l:List Pr} (h:Srt l) (a:Int):SrtI (row l a):=by
 unfold row SrtI
 rw[List.pairwise_map]
 refine List.Pairwise.imp_of_mem ?_ (h.filter _)
 intro x y hx hy hp
 have h1:=(List.mem_filter.1 hx).2
 have h2:=(List.mem_filter.1 hy).2
 simp only[beq_iff_eq] at h1 h2
 unfold plt at hp
 omega
theorem row_insP_same {l:List Pr} (h:Srt l) (a b:Int):row (insP (a,b) l) a=insI b (row l a):=
 (srt_row (srt_insP h) a).ext (srt_insI (srt_row h a)) fun x=>by
  rw[mem_row,mem_insP,mem_insI,mem_row]
  simp
theorem row_insP_other {l:List Pr} (h:Srt l) (a b:Int) {c:Int} (hc:c≠a):row (insP (a,b) l) c=row l c:=
 (srt_row (srt_insP h) c).ext (srt_row h c) fun x=>by
  rw[mem_row,mem_insP,mem_row]
  simp[hc]
theorem length_row (l:List Pr) (a:Int):(row l a).length≤l.length:=by
 unfold row
 rw[List.length_map]
 exact List.length_filter_le _ _
inductive Tc (l:List Pr):Int→Int→Prop
 |one {a b:Int}:(a,b) ∈ l→Tc l a b
 |more {a b c:Int}:Tc l a b→(b,c) ∈ l→Tc l a c
theorem Tc.trans {l:List Pr} {a b c:Int} (h:Tc l a b) (k:Tc l b c):Tc l a c:=by
 induction k with
 |one k=>exact .more h k
 |more _ k ih=>exact .more ih k
theorem Tc.head {l:List Pr} {a b:Int} (h:Tc l a b):∃c,(a,c) ∈ l:=by
 induction h with
 |one h=>exact⟨_,h⟩
 |more _ _ ih=>exact ih
theorem nodup_le {α:Type} [DecidableEq α]:∀{l m:List α},l.Nodup→(∀x ∈ l,x ∈ m)→l.length≤m.length
 |[],_,_,_=>by simp
 |x::l,m,h,hm=>by
  obtain⟨h1,h2⟩:=List.nodup_cons.1 h
  have:=nodup_le (l:=l) (m:=m.erase x) h2 fun y hy=>(List.mem_erase_of_ne (by rintro rfl;exact h1 hy)).2 (hm y (by simp[hy]))
  rw[List.length_erase_of_mem (hm x (by simp))] at this
  have:=List.length_pos_of_mem (hm x (by simp))
  simp only[List.length_cons]
  omega
abbrev Trp:=Int×Int×Int
def tlt (x y:Trp):Prop:=x.1 < y.1∨(x.1=y.1∧(x.2.1 < y.2.1∨(x.2.1=y.2.1∧x.2.2 < y.2.2)))
instance (x y:Trp):Decidable (tlt x y):=inferInstanceAs (Decidable (_∨_))
def SrtT (l:List Trp):Prop:=l.Pairwise tlt
theorem tlt_trans {x y z:Trp} (h:tlt x y) (k:tlt y z):tlt x z:=by unfold tlt at *;omega
theorem tlt_total {x y:Trp} (h:x≠y):tlt x y∨tlt y x:=by
 unfold tlt
 have:x.1≠y.1∨x.2.1≠y.2.1∨x.2.2≠y.2.2:=by
  refine Classical.byContradiction fun hn=>h ?_
  obtain⟨x1,x2,x3⟩:=x
  obtain⟨y1,y2,y3⟩:=y
  simp only[not_or,Decidable.not_not] at hn
  obtain⟨rfl,rfl,rfl⟩:=hn
  rfl
 omega
def insT (p:Trp):List Trp→List Trp
 |[]=>[p]
 |y::r=>if y=p then y::r else if tlt p y then p::y::r else y::insT p r
theorem mem_insT {p x:Trp}:∀{l:List Trp},x ∈ insT p l↔x=p∨x ∈ l
 |[]=>by simp[insT]
 |y::r=>by
  unfold insT
  split
  ·rename_i h;subst h;simp
  ·split
   ·simp
   ·simp only[List.mem_cons,mem_insT (l:=r)]
    constructor
    ·rintro (h|h|h) <;> simp[h]
    ·rintro (h|h|h) <;> simp[h]
theorem srt_insT {p:Trp}:∀{l:List Trp},SrtT l→SrtT (insT p l)
 |[],_=>by simp[insT,SrtT]
 |y::r,h=>by
  obtain⟨h1,h2⟩:=List.pairwise_cons.1 h
  unfold insT
  split
  ·exact h
  ·rename_i hne
   split
   ·rename_i h3
    refine List.pairwise_cons.2 ⟨fun z hz=>?_,h⟩
    rcases List.mem_cons.1 hz with rfl|hz
    ·exact h3
    ·exact tlt_trans h3 (h1 z hz)
   ·rename_i h3
    refine List.pairwise_cons.2 ⟨fun z hz=>?_,srt_insT h2⟩
    rcases mem_insT.1 hz with rfl|hz
    ·rcases tlt_total hne with h|h
     ·exact h
     ·exact absurd h h3
    ·exact h1 z hz
theorem length_insT {p:Trp}:∀{l:List Trp},(insT p l).length≤l.length+1
 |[]=>by simp[insT]
 |y::r=>by
  unfold insT
  have:=length_insT (p:=p) (l:=r)
  split
  ·simp
  ·split <;> simp <;> omega
def prs (E:List Trp):List Pr:=putAll (E.map fun e=>(e.1,e.2.1))
theorem mem_prs {E:List Trp} {a b:Int}:(a,b) ∈ prs E↔∃k,(a,b,k) ∈ E:=by
 unfold prs
 rw[mem_putAll,List.mem_map]
 constructor
 ·rintro ⟨⟨x,y,k⟩,h,e⟩
  simp only[Prod.mk.injEq] at e
  obtain⟨rfl,rfl⟩:=e
  exact⟨k,h⟩
 ·rintro ⟨k,h⟩
  exact⟨_,h,rfl⟩
theorem srt_prs (E:List Trp):Srt (prs E):=srt_putAll _
theorem length_prs (E:List Trp):(prs E).length≤E.length:=by
 have:=length_putAll (E.map fun e=>(e.1,e.2.1))
 simpa[prs] using this
theorem prs_ins (a b k:Int) (E:List Trp):prs (insT (a,b,k) E)=insP (a,b) (prs E):=
 (srt_prs _).ext (srt_insP (srt_prs _)) fun⟨x,y⟩=>by
  rw[mem_prs,mem_insP,mem_prs]
  constructor
  ·rintro ⟨q,hq⟩
   rcases mem_insT.1 hq with e|hq
   ·simp only[Prod.mk.injEq] at e;exact .inl (by rw[e.1,e.2.1])
   ·exact .inr ⟨q,hq⟩
  ·rintro (e|⟨q,hq⟩)
   ·simp only[Prod.mk.injEq] at e;exact⟨k,mem_insT.2 (.inl (by rw[e.1,e.2]))⟩
   ·exact ⟨q,mem_insT.2 (.inr hq)⟩
def kindsOf (E:List Trp) (a b:Int):List Int:=(E.filter fun e=>e.1==a&&e.2.1==b).map (·.2.2)
theorem mem_kindsOf {E:List Trp} {a b k:Int}:k ∈ kindsOf E a b↔(a,b,k) ∈ E:=by
 unfold kindsOf
 simp only[List.mem_map,List.mem_filter,Bool.and_eq_true,beq_iff_eq]
 constructor
 ·rintro ⟨⟨x,y,q⟩,⟨h,rfl,rfl⟩,rfl⟩;exact h
 ·exact fun h=>⟨(a,b,k),⟨h,rfl,rfl⟩,rfl⟩
theorem srt_kindsOf {E:List Trp} (h:SrtT E) (a b:Int):SrtI (kindsOf E a b):=by
 unfold kindsOf SrtI
 rw[List.pairwise_map]
 refine List.Pairwise.imp_of_mem ?_ (h.filter _)
 intro x y hx hy hp
 have h1:=(List.mem_filter.1 hx).2
 have h2:=(List.mem_filter.1 hy).2
 simp only[Bool.and_eq_true,beq_iff_eq] at h1 h2
 unfold tlt at hp
 omega
theorem length_kindsOf (E:List Trp) (a b:Int):(kindsOf E a b).length≤E.length:=by
 unfold kindsOf
 rw[List.length_map]
 exact List.length_filter_le _ _
theorem kinds_ins_same {E:List Trp} (h:SrtT E) (a b k:Int):kindsOf (insT (a,b,k) E) a b=insI k (kindsOf E a b):=
 (srt_kindsOf (srt_insT h) a b).ext (srt_insI (srt_kindsOf h a b)) fun x=>by
  rw[mem_kindsOf,mem_insT,mem_insI,mem_kindsOf]
  simp
theorem kinds_ins_other {E:List Trp} (h:SrtT E) (a b k:Int) {c d:Int} (hc:c≠a∨d≠b):kindsOf (insT (a,b,k) E) c d=kindsOf E c d:=
 (srt_kindsOf (srt_insT h) c d).ext (srt_kindsOf h c d) fun x=>by
  rw[mem_kindsOf,mem_insT,mem_kindsOf]
  constructor
  ·rintro (e|e)
   ·simp only[Prod.mk.injEq] at e;omega
   ·exact e
  ·exact .inr
theorem kinds_nil {E:List Trp} {a b:Int} (h:b ∉ row (prs E) a):kindsOf E a b=[]:=by
 rw[List.eq_nil_iff_forall_not_mem]
 exact fun k hk=>h (mem_row.2 (mem_prs.2 ⟨k,mem_kindsOf.1 hk⟩))
theorem row_prs_same (E:List Trp) (a b k:Int):row (prs (insT (a,b,k) E)) a=insI b (row (prs E) a):=by rw[prs_ins,row_insP_same (srt_prs E)]
theorem row_prs_other (E:List Trp) (a b k:Int) {c:Int} (hc:c≠a):row (prs (insT (a,b,k) E)) c=row (prs E) c:=by rw[prs_ins,row_insP_other (srt_prs E) a b hc]
structure GrOk (N:List Int) (E:List Trp):Prop where
 srtN:SrtI N
 srtE:SrtT E
 sub:∀e ∈ E,e.1 ∈ N∧e.2.1 ∈ N
theorem GrOk.nil:GrOk [] []:=⟨List.Pairwise.nil,List.Pairwise.nil,fun _ h=>by simp at h⟩
theorem GrOk.node {N:List Int} {E:List Trp} (h:GrOk N E) (a:Int):GrOk (insI a N) E:=⟨srt_insI h.srtN,h.srtE,fun e he=>⟨mem_insI.2 (.inr (h.sub e he).1),mem_insI.2 (.inr (h.sub e he).2)⟩⟩
theorem GrOk.pair {N:List Int} {E:List Trp} (h:GrOk N E) {a b:Int} (hp:(a,b) ∈ prs E):a ∈ N∧b ∈ N:=by
 obtain⟨k,hk⟩:=mem_prs.1 hp
 exact h.sub _ hk
def Wk (P:List Pr) (k:Int):Nat→Int→Prop
 |0,a=>a=k
 |n+1,a=>∃b,(a,b) ∈ P∧Wk P k n b
def Dist (P:List Pr) (k:Int) (n:Nat) (a:Int):Prop:=1≤n∧Wk P k n a∧∀m,1≤m→m < n→¬Wk P k m a
section
variable {P:List Pr} {k a b:Int} {n m:Nat}
theorem Wk.tc:∀{n:Nat} {a:Int},Wk P k (n+1) a→Tc P a k
 |0,a,⟨b,h,e⟩=>by
  have e:b=k:=e
  subst e
  exact .one h
 |n+1,a,⟨b,h,h2⟩=>by
  have:=Wk.tc h2
  exact(Tc.one h).trans this
theorem Wk.snoc:∀{n:Nat} {a b c:Int},Wk P b n a→(b,c) ∈ P→Wk P c (n+1) a
 |0,a,b,c,h,hc=>by
  have h:a=b:=h
  subst h
  exact⟨c,hc,rfl⟩
 |n+1,a,b,c,⟨d,hd,h⟩,hc=>⟨d,hd,Wk.snoc h hc⟩
theorem wk_of_tc {a k:Int} (h:Tc P a k):∃n,1≤n∧Wk P k n a:=by
 induction h with
 |one h=>exact⟨1,Nat.le_refl _,_,h,rfl⟩
 |more _ h ih=>
  obtain⟨n,hn,hw⟩:=ih
  exact⟨n+1,by omega,hw.snoc h⟩
theorem tc_iff_wk:Tc P a k↔∃n,1≤n∧Wk P k n a:=by
 refine⟨wk_of_tc,?_⟩
 rintro⟨n,hn,hw⟩
 obtain⟨m,rfl⟩:∃m,n=m+1:=⟨n - 1,by omega⟩
 exact hw.tc
theorem dist_of_wk (hn:1≤n) (h:Wk P k n a):∃m,m≤n∧Dist P k m a:=by
 induction n using Nat.strongRecOn with
 |ind n ih=>
  by_cases hm:∃m,1≤m∧m < n∧Wk P k m a
  ·obtain ⟨m,h1,h2,h3⟩:=hm
   obtain⟨q,hq,hd⟩:=ih m h2 h1 h3
   exact⟨q,by omega,hd⟩
  ·exact ⟨n,Nat.le_refl _,hn,h,fun m h1 h2 h3=>hm ⟨m,h1,h2,h3⟩⟩
theorem tc_iff_dist:Tc P a k↔∃n,Dist P k n a:=by
 rw[tc_iff_wk]
 constructor
 ·rintro ⟨n,hn,hw⟩
  obtain⟨m,-,hd⟩:=dist_of_wk hn hw
  exact⟨m,hd⟩
 ·rintro ⟨n,hd⟩
  exact⟨n,hd.1,hd.2.1⟩
theorem Dist.uniq (h:Dist P k n a) (h':Dist P k m a):n=m:=by
 rcases Nat.lt_trichotomy n m with hl|hl|hl
 ·exact absurd h.2.1 (h'.2.2 n h.1 hl)
 ·exact hl
 ·exact absurd h'.2.1 (h.2.2 m h'.1 hl)
theorem dist_one:Dist P k 1 a↔(a,k) ∈ P:=by
 constructor
 ·rintro ⟨-,⟨b,h,e⟩,-⟩
  have e:b=k:=e
  subst e
  exact h
 ·exact fun h=>⟨Nat.le_refl _,⟨k,h,rfl⟩,fun m h1 h2=>by omega⟩
theorem dist_succ (hn:1≤n):Dist P k (n+1) a↔(∃b,(a,b) ∈ P∧b≠k∧Dist P k n b)∧∀m,1≤m→m≤n→¬Dist P k m a:=by
 constructor
 ·rintro ⟨h1,⟨b,hb,hw⟩,h2⟩
  have h3:∀m,1≤m→m≤n→¬Dist P k m a:=fun m hm hmn hd=>h2 m hm (by omega) hd.2.1
  have hbk:b≠k:=by
   rintro rfl
   exact h2 1 (Nat.le_refl _) (by omega) ⟨b,hb,rfl⟩
  refine⟨⟨b,hb,hbk,hn,hw,fun m hm hmn hwm=>?_⟩,h3⟩
  exact h2 (m+1) (by omega) (by omega) ⟨b,hb,hwm⟩
 ·rintro ⟨⟨b,hb,-,hd⟩,h⟩
  refine⟨by omega,⟨b,hb,hd.2.1⟩,fun m hm hmn hw=>?_⟩
  obtain⟨q,hq,hq2⟩:=dist_of_wk hm hw
  exact h q hq2.1 (by omega) hq2
theorem Dist.next (h:Dist P k (n+1) a) (hn:1≤n):∃b,(a,b) ∈ P∧b≠k∧Dist P k n b:=((dist_succ hn).1 h).1
theorem Dist.head (h:Dist P k n a):∃b,(a,b) ∈ P:=by
 obtain⟨m,rfl⟩:∃m,n=m+1:=⟨n - 1,by have:=h.1;omega⟩
 obtain⟨b,hb,-⟩:=h.2.1
 exact⟨b,hb⟩
theorem dist_path:∀{n:Nat} {a:Int},Dist P k n a→∃l:List Int,l.length=n∧l.Nodup∧(∀x ∈ l,∃b,(x,b) ∈ P)∧∀x ∈ l,∃m,m≤n∧Dist P k m x
 |0,a,h=>absurd h.1 (by omega)
 |1,a,h=>⟨[a],rfl,by simp,fun x hx=>by simp at hx;subst hx;exact h.head,fun x hx=>by simp at hx;subst hx;exact⟨1,Nat.le_refl _,h⟩⟩
 |n+2,a,h=>by
  obtain⟨b,hb,hbk,hd⟩:=h.next (by omega)
  obtain⟨l,h1,h2,h3,h4⟩:=dist_path hd
  refine⟨a::l,by simp[h1],List.nodup_cons.2 ⟨fun ha=>?_,h2⟩,fun x hx=>?_,fun x hx=>?_⟩
  ·obtain ⟨m,hm,hdm⟩:=h4 a ha
   have:=h.uniq hdm
   omega
  ·rcases List.mem_cons.1 hx with rfl|hx
   ·exact ⟨b,hb⟩
   ·exact h3 x hx
  ·rcases List.mem_cons.1 hx with rfl|hx
   ·exact ⟨n+2,Nat.le_refl _,h⟩
   ·obtain ⟨m,hm,hdm⟩:=h4 x hx
    exact⟨m,by omega,hdm⟩
theorem Dist.le {N:List Int} (h:Dist P k n a) (hN:∀x ∈ P,x.1 ∈ N):n≤N.length:=by
 obtain⟨l,h1,h2,h3,-⟩:=dist_path h
 rw[←h1]
 exact nodup_le h2 fun x hx=>by
  obtain⟨b,hb⟩:=h3 x hx
  exact hN _ hb
end
def Chain (P:List Pr) (k:Int):Nat→Int→List Int→Prop
 |0,_,l=>l=[]
 |1,_,l=>l=[]
 |n+2,a,l=>∃b r,l=b::r∧(a,b) ∈ P∧b≠k∧Dist P k (n+1) b∧(∀c,c < b→(a,c) ∈ P→¬(c≠k∧Dist P k (n+1) c))∧Chain P k (n+1) b r
theorem Chain.length {P:List Pr} {k:Int}:∀{n:Nat} {a:Int} {l:List Int},Chain P k (n+1) a l→l.length=n
 |0,_,_,h=>by unfold Chain at h;rw[h];rfl
 |n+1,a,_,⟨b,r,e,_,_,_,_,h5⟩=>by rw[e,List.length_cons,h5.length]
def IsCyc (P:List Pr) (N:List Int) (c:List Int):Prop:=
 (c=[]∧∀k ∈ N,¬Tc P k k)∨∃k n l,k ∈ N∧(∀j ∈ N,j < k→¬Tc P j j)∧Dist P k n k∧Chain P k n k l∧c=k::l
section
attribute [local irreducible] wpL
def cntL (lev st:Int):Bool:=if lev=1∨lev=2 then decide (st=3∨st=2) else decide (lev=3)
theorem cntd_L (lev:Int) (s:St):cntd lev s=cntL lev s.status:=rfl
theorem sh_Counted (lev:Int) (hl:lev=1∨lev=2∨lev=3) (i th st be fi tr:Int) (a:Option Addr) (n c:Nat) (w:World):
  Calls Tryz.prog 61 #[.agg #[.int .i64 i,.int .i64 th,.int .i64 st,.int .i64 be,.int .i64 fi,.int .i64 tr,.slice a n c],.int .i64 lev] w fun e w'=>e=.returned (.bool (cntL lev st))∧Below w.heap.size w w':=by
 have b0:Below w.heap.size w (w.alloc (.cells #[.int .i64 i,.int .i64 th,.int .i64 st,.int .i64 be,.int .i64 fi,.int .i64 tr,.slice a n c] 49)):=(Below.refl _ w).alloc (Nat.le_refl _) _
 go_enter Tryz.func61,Tryz.ntmps61
 rcases hl with rfl|rfl|rfl
 ·by_cases h3:st=3
  ·subst h3
   go_wp2_with fail
   go_ret
   exact⟨rfl,b0⟩
  ·have q3:(st==3)=false:=by simpa using h3
   go_wp2_with fail
   go_ret
   refine⟨?_,b0⟩
   simp[cntL,h3]
   rfl
 ·by_cases h3:st=3
  ·subst h3
   go_wp2_with fail
   go_ret
   exact⟨rfl,b0⟩
  ·have q3:(st==3)=false:=by simpa using h3
   go_wp2_with fail
   go_ret
   refine⟨?_,b0⟩
   simp[cntL,h3]
   rfl
 ·go_wp2_with fail
  go_ret
  exact⟨rfl,b0⟩
theorem sh_Really (i th st be fi tr:Int) (a:Option Addr) (n c:Nat) (i2 th2 st2 be2 fi2 tr2:Int) (a2:Option Addr) (n2 c2:Nat) (w:World):
  Calls Tryz.prog 118 #[.agg #[.int .i64 i,.int .i64 th,.int .i64 st,.int .i64 be,.int .i64 fi,.int .i64 tr,.slice a n c],.agg #[.int .i64 i2,.int .i64 th2,.int .i64 st2,.int .i64 be2,.int .i64 fi2,.int .i64 tr2,.slice a2 n2 c2]] w fun e w'=>e=.returned (.bool (decide (0≤fi)&&decide (fi < be2)))∧Below w.heap.size w w':=by
 have b0:Below w.heap.size w ((w.alloc (.cells #[.int .i64 i,.int .i64 th,.int .i64 st,.int .i64 be,.int .i64 fi,.int .i64 tr,.slice a n c] 49)).alloc (.cells #[.int .i64 i2,.int .i64 th2,.int .i64 st2,.int .i64 be2,.int .i64 fi2,.int .i64 tr2,.slice a2 n2 c2] 49)):=((Below.refl _ w).alloc (Nat.le_refl _) _).alloc (by simp) _
 go_enter Tryz.func118,Tryz.ntmps118
 by_cases h:0≤fi
 ·have q:decide (0≤fi)=true:=by simpa using h
  go_wp2_with fail
  go_ret
  refine⟨?_,b0⟩
  simp[h]
 ·have q:decide (0≤fi)=false:=by simpa using h
  go_wp2_with fail
  go_ret
  refine⟨?_,b0⟩
  simp[h]
end
def del_ren:Go.Shelf.Ren:=⟨fun|23=>112|n=>n,fun|22=>30|3=>3|4=>4|0=>0|n=>n,fun|n=>n⟩
theorem del23:Go.Proofs.Lays2.n23 Tryz.prog del_ren:={
 mixed:=by kernel_rfl
 f23:=Tryz.func112.trans (congrArg some (by kernel_rfl))
 t0:=Tryz.underlying0
 a0:=Tryz.isAgg0
 z0:=Tryz.sizeOf0
 v0:=Tryz.zeroValue0
 t3:=Tryz.underlying3
 a3:=Tryz.isAgg3
 z3:=Tryz.sizeOf3
 v3:=Tryz.zeroValue3
 t4:=Tryz.underlying4
 a4:=Tryz.isAgg4
 z4:=Tryz.sizeOf4
 v4:=Tryz.zeroValue4
 t22:=Tryz.underlying30
 a22:=Tryz.isAgg30
 z22:=Tryz.sizeOf30
 v22:=Tryz.zeroValue30
 i3:=by kernel_rfl}
def stpC (u:Int×Bool):List Value:=[.int .i64 u.1,.bool u.2]
theorem stpC_len (u:Int×Bool):(stpC u).length=2:=rfl
theorem infoStep:(Tryz.prog.info? 87).map (fun i=>(i.zero,i.size,i.bytes))=some (some (.agg #[.int .i64 0,.bool false]),2,16):=by kernel_rfl
theorem step_one (u:Int×Bool):∀x ∈ stpC u,x.oneCell'=true:=by intro x hx;simp[stpC] at hx;rcases hx with rfl|rfl <;> rfl
section
attribute [local irreducible] wpL
def TableRet (w:World) (r:Option Au) (e:Ending) (w':World):Prop:=match r with
 |some A=>∃v,e=.returned (.tuple #[v,.nilIface])∧TxsAt w' w.heap.size v A∧Below w.heap.size w w'
 |none=>(∃t x,e=.returned (.tuple #[.slice none 0 0,.iface t x]))∧Below w.heap.size w w'
theorem runG_bound:∀{l:List Ev} {A A':Au} {n m:Nat},runG A n l=some A'→(A.length≤m∧∀s ∈ A,s.deeds.length≤m)→A'.length≤m+l.length∧∀s ∈ A',s.deeds.length≤m+l.length
 |[],A,A',n,m,h,hb=>by
  simp only[runG,Option.some.injEq] at h
  subst h
  exact hb
 |e::l,A,A',n,m,h,hb=>by
  simp only[runG] at h
  cases hs:stepG A n e with
  |none=>rw[hs] at h;cases h
  |some A1=>
   rw[hs] at h
   have:=runG_bound (l:=l) h (stepG_bound hs hb)
   simp only[List.length_cons]
   rw[show m+(l.length+1)=m+1+l.length by omega]
   exact this
theorem tableG_bound {os:List Ob} {es:List Ev} (A:Au) (h:tableG os es=some A):A.length≤400∧∀s ∈ A,s.deeds.length≤400:=by
 unfold tableG at h
 split at h
 ·rename_i hh
  have hl:es.length≤400:=by
   unfold histB at hh
   simp only[Bool.and_eq_true,decide_eq_true_eq] at hh
   exact hh.1.1.2
  have:=runG_bound (m:=0) h ⟨by simp,fun s hs=>(nomatch hs)⟩
  exact⟨by omega,fun s hs=>by have:=this.2 s hs;omega⟩
 ·cases h
theorem g_Table (ov vv:Value) (os:List Ob) (es:List Ev) (w:World) (ho:Sl w w.heap.size 2 ov os.length (os.flatMap Ob.cells)) (he:Sl w w.heap.size 8 vv es.length (es.flatMap Ev.cells)) (hod:∀o ∈ os,dI o.kind) (hed:∀e ∈ es,dI e.ret) (hW:WordsG w) (hG:ErrsF w):
  Calls Tryz.prog 13 #[.agg #[ov,vv]] w (TableRet w (tableG os es)):=by
 obtain⟨ao,co,rfl,mo⟩:=ho.ex
 obtain⟨ae,ce,rfl,me⟩:=he.ex
 have b0:Below w.heap.size w (w.alloc (.cells #[.slice ao os.length co,.slice ae es.length ce] 25)):=(Below.refl _ w).alloc (Nat.le_refl _) _
 have hz0:w.heap.size < (w.alloc (.cells #[.slice ao os.length co,.slice ae es.length ce] 25)).heap.size:=by simp
 have hT:=g_taken (.slice ao os.length co) (.slice ae es.length ce) os es _ ((ho.below b0).more b0.size) ((he.below b0).more b0.size) hod hed (hW.below b0) (hG.below b0)
 unfold TakenPost at hT
 have hbd:=tableG_bound (os:=os) (es:=es)
 generalize tableG os es=R at *
 have hT:=hid hT
 have B0:=hid b0
 clear ho he hod hed hW b0 hG
 go_enter Tryz.func13,Tryz.ntmps13
 go_wp2_with fail
 generalize w.alloc (.cells #[.slice ao os.length co,.slice ae es.length ce] 25)=W at *
 cases R with
 |none=>
  refine(hT.out).mono ?_
  rintro e W1 ⟨⟨te,xe,rfl⟩,b1⟩
  have B1:=hid (B0.out.trans (b1.mono B0.out.size))
  clear b1 hT
  go_wp2
  refine bodyPost_ret (v:=.tuple #[.slice none 0 0,.iface te xe]) (by simp[results,Tryz.results13,go_sem]) rfl ?_
  exact⟨⟨_,_,rfl⟩,B1.out⟩
 |some A=>
  obtain⟨hA,hdl⟩:=hbd A rfl
  clear hbd
  refine(hT.out).mono ?_
  rintro e W1 ⟨bA,rfl,hA1,b1⟩
  have hz1:=b1.size
  have hTx:=hid (sh_Txs W1 hA1 (by omega) fun s hs=>by have:=hdl s hs;omega)
  have B1:=hid (B0.out.trans (b1.mono B0.out.size))
  clear b1 hA1 hT hdl
  go_wp2_with fail
  refine(hTx.out).mono ?_
  rintro e W2 ⟨v,rfl,ht,b2⟩
  have HT:=hid (ht.base (show w.heap.size≤W1.heap.size by omega))
  have B2:=hid (B1.out.trans (b2.mono (by omega)))
  clear hTx b2 ht
  obtain⟨rs,hv,r⟩:=HT.out
  obtain⟨a,c,rfl⟩:=OwnF.slv hv
  clear hv r
  go_wp2
  refine bodyPost_ret (v:=.tuple #[.slice a rs.length c,.nilIface]) (by simp[results,Tryz.results13,go_sem]) rfl ?_
  exact⟨_,rfl,HT.out,B2.out⟩
theorem sh_Find (v:Value) (A:Au) (x:Int) (B:Nat) (w:World) (h:TxsAt w B v A) {k:Nat} {s:St} (hs:A[k]?=some s) (hx:s.id=x) (hn:∀(j:Nat) (t:St),j < k→A[j]?=some t→t.id≠x):
  Calls Tryz.prog 14 #[v,.int .i64 x] w fun e w'=>e=.returned (.tuple #[.int .i64 k,.bool true])∧Below w.heap.size w w':=by
 obtain⟨rs,hv,hvl,hvc⟩:=h
 obtain⟨a,c,rfl⟩:=OwnF.slv hv
 have hkl:=(List.getElem?_eq_some_iff.1 hs).1
 have hbig:A.length≤9223372036854775807:=by
  obtain⟨_,_,_,hb⟩:=OwnF.form2 hv
  omega
 have HV:=hid hv
 have HVC:=hid hvc
 have HN:=hid hn
 have HS:=hid hs
 clear hv hvc hn hs
 go_enter Tryz.func14,Tryz.ntmps14
 go_wp2_with fail
 obtain⟨W,rfl⟩:∃W,W=w:=⟨_,rfl⟩
 go_loopw [10] (fun p wr=>∃i:Nat,i≤k∧p=.int .i64 i∧Below W.heap.size W wr) (fun p _=>k - (intOf p).toNat)
 case atStart=>exact⟨0,by omega,by go_num,Below.refl _ _⟩
 case round=>
  obtain⟨i,hi,rfl,hB⟩:=hrel
  have hz:=hB.size
  have HB:=hid hB
  clear hB
  have hil:i < rs.length:=by omega
  obtain⟨b,off,r,hat,hb,hr,hc⟩:=(OwnF.sl HV.out).atF TxR.len rfl hil
  have c0:=cell_below HB.out hb (hc 0 (by decide))
  have c1:=cell_below HB.out hb (hc 1 (by decide))
  have c2:=cell_below HB.out hb (hc 2 (by decide))
  have c3:=cell_below HB.out hb (hc 3 (by decide))
  have c4:=cell_below HB.out hb (hc 4 (by decide))
  have c5:=cell_below HB.out hb (hc 5 (by decide))
  have c6:=cell_below HB.out hb (hc 6 (by decide))
  obtain⟨t,ht⟩:∃t,A[i]?=some t:=⟨_,List.getElem?_eq_getElem (by omega)⟩
  have hro:=(HVC.out i r t hr ht).1.1
  obtain⟨dA,dC,hdv⟩:=OwnF.slv (HVC.out i r t hr ht).2
  obtain⟨rid,rth,rst,rbe,rfi,rtr,rdv⟩:=r
  simp only at hro hdv
  subst hdv
  simp at c0 c1 c2 c3 c4 c5 c6
  have hbw:b < wr.heap.size:=by omega
  subst hat
  clear hr hc
  by_cases hik:i=k
  ·subst hik
   have e1:rid=x:=by
    rw[HS.out] at ht
    obtain rfl:=Option.some.inj ht
    rw[hro,hx]
   subst e1
   clear ht
   go_wp2
   refine bodyPost_ret (v:=.tuple #[.int .i64 i,.bool true]) (by simp[results,Tryz.results14,go_sem]) rfl ?_
   exact⟨rfl,HB.out.alloc hz _⟩
  ·have e1:(rid==x)=false:=by
    have:=HN.out i t (by omega) ht
    rw[←hro] at this
    simpa using this
   clear ht
   go_wp2_with fail
   go_roundw
   case rel=>exact⟨i+1,by omega,by go_num,HB.out.alloc hz _⟩
   case measure=>simp[intOf];omega
end
section
attribute [local irreducible] wpL
theorem h_Clone (ov ev:Value) (os:List Ob) (es:List Ev) (w:World) (ho:Sl w w.heap.size 2 ov os.length (os.flatMap Ob.cells)) (he:Sl w w.heap.size 8 ev es.length (es.flatMap Ev.cells)) (hol:os.length≤100000) (hel:es.length≤100000):
  Calls Tryz.prog 34 #[.agg #[ov,ev]] w (HistRet os es w):=by
 obtain⟨ao,co,rfl,mo⟩:=ho.ex
 obtain⟨ae,ce,rfl,me⟩:=he.ex
 have b0:Below w.heap.size w ((w.alloc (.cells #[.slice ao os.length co,.slice ae es.length ce] 25)).alloc (.cells #[.slice none 0 0,.slice none 0 0] 25)):=((Below.refl _ w).alloc (Nat.le_refl _) _).alloc (by simp) _
 have r0:=row_old (o:=.cells #[.slice none 0 0,.slice none 0 0] 25) (row_new w (.cells #[.slice ao os.length co,.slice ae es.length ce] 25))
 have r1:=row_new' (w:=w.alloc (.cells #[.slice ao os.length co,.slice ae es.length ce] 25)) (o:=.cells #[.slice none 0 0,.slice none 0 0] 25) (g:=w.heap.size+1) (by simp)
 have z0:((w.alloc (.cells #[.slice ao os.length co,.slice ae es.length ce] 25)).alloc (.cells #[.slice none 0 0,.slice none 0 0] 25)).heap.size=w.heap.size+2:=by simp
 have HO:=hid ho
 have HE:=hid he
 clear ho he
 go_enter Tryz.func34,Tryz.ntmps34
 go_wp2_with fail
 generalize (w.alloc (.cells #[.slice ao os.length co,.slice ae es.length ce] 25)).alloc (.cells #[.slice none 0 0,.slice none 0 0] 25)=W at *
 have B0:=hid b0
 have R0:=hid r0
 have R1:=hid r1
 have d0:=row_cell r0 0
 have d1:=row_cell r0 1
 simp at d0 d1
 have lw:w.heap.size < W.heap.size:=by omega
 clear b0 r0 r1
 refine wp_rN (W.heap.size) [0,1,0,3,0,1,3,0,1,0,3,0,1,3,0,2] (.frk [0,1,2,4,5,7,8,9,11,12] (.frk [3] (.fin [6,10,13,14,15]) (.fin [10,6,13,14,15])) (.fin [10,3,6,13,14,15])) (by kernel_rfl) ?_
 simp only[wpT,selX,guardAt,sD,sE,sF,sG]
 repeat first|(refine wpL_p fun K hK=>?_;go_simp;refine hK _ _ ?_;clear hK K)|(apply wpL_s;(intro w2 hw2;have hk1:=hw2.cell;have hk3:=hw2.1;clear hw2;go_simp;with_reducible rfl);simp only[Act.put,sA,sB,sC])|refine wpL_yes rfl rfl ?_|(refine wpL_no rfl rfl fun K hK=>?_;simp only[Act.put,sA,sB,sC];refine hK _ _ ?_;clear hK K)|refine wpL_nil ?_
 have b0:Below W.heap.size W W.drew:=(Below.refl _ W).drew
 have s0:=b0.size
 refine⟨?_,?_⟩
 ·refine wpL_k (fun K hK=>?_)
  refine wp_makeF (f:=Ob.cells) (e:=62) (sz:=2) (B:=W.heap.size) _ _ _ rfl _ 16 Tryz.underlying22 infoO rfl rfl (by first|omega|(simp <;> omega)) (by first|omega|(simp <;> omega)) (by first|omega|(simp <;> omega)) ?_
  intro w1 o1A g1 z1
  refine hK _ _ (RN.KeepsN.of_below (g1.mono (by have:=b0.size;omega))) ?_
  clear hK K
  have b1:Below W.heap.size W w1:=b0.trans (g1.mono b0.size)
  have s1:=b1.size
  repeat first|(refine wpL_p fun K hK=>?_;go_simp;refine hK _ _ ?_;clear hK K)|(apply wpL_s;(intro w2 hw2;have hk1:=hw2.cell;have hk3:=hw2.1;clear hw2;go_simp;with_reducible rfl);simp only[Act.put,sA,sB,sC])|refine wpL_yes rfl rfl ?_|(refine wpL_no rfl rfl fun K hK=>?_;simp only[Act.put,sA,sB,sC];refine hK _ _ ?_;clear hK K)|refine wpL_nil ?_
  refine⟨?_,?_⟩
  ·refine wpL_k (fun K hK=>?_)
   refine wp_appA _ _ _ rfl _ 16 Tryz.underlying22 infoO rfl o1A os rfl ((HO.out.below B0.out).below (b1.mono (by omega))) (by first|omega|(simp <;> omega)) rfl rfl Ob.len ob_one (by first|omega|(simp <;> omega)) (by first|omega|(simp <;> omega)) ?_
   intro v2 w2 o2A g2
   have g2b:=g2.below b1.size fun k h=>(o1A.lt k h).1
   refine hK _ _ (RN.KeepsN.of_below g2b) ?_
   clear hK K
   obtain⟨a2,c2,rfl,-⟩:=OwnF.form2 (show OwnF Ob.cells 62 2 w2 W.heap.size v2 os from o2A)
   have o2A:OwnF Ob.cells 62 2 w2 W.heap.size (.slice a2 os.length c2) os:=o2A
   have b2:Below W.heap.size W w2:=b1.trans g2b
   have s2:=b2.size
   repeat first|(refine wpL_p fun K hK=>?_;go_simp;refine hK _ _ ?_;clear hK K)|(apply wpL_s;(intro w2 hw2;have hk1:=hw2.cell;have hk3:=hw2.1;clear hw2;go_simp;with_reducible rfl);simp only[Act.put,sA,sB,sC])|refine wpL_yes rfl rfl ?_|(refine wpL_no rfl rfl fun K hK=>?_;simp only[Act.put,sA,sB,sC];refine hK _ _ ?_;clear hK K)|refine wpL_nil ?_
   refine wpL_k (fun K hK=>?_)
   refine wp_makeF (f:=Ev.cells) (e:=69) (sz:=8) (B:=W.heap.size) _ _ _ rfl _ 64 Tryz.underlying23 infoE rfl rfl (by first|omega|(simp <;> omega)) (by first|omega|(simp <;> omega)) (by first|omega|(simp <;> omega)) ?_
   intro w3 o3B g3 z3
   refine hK _ _ (RN.KeepsN.of_below (g3.mono (by have:=b2.size;omega))) ?_
   clear hK K
   have b3:Below W.heap.size W w3:=b2.trans (g3.mono b2.size)
   have s3:=b3.size
   have o3A:=OwnF.below o2A g3
   repeat first|(refine wpL_p fun K hK=>?_;go_simp;refine hK _ _ ?_;clear hK K)|(apply wpL_s;(intro w2 hw2;have hk1:=hw2.cell;have hk3:=hw2.1;clear hw2;go_simp;with_reducible rfl);simp only[Act.put,sA,sB,sC])|refine wpL_yes rfl rfl ?_|(refine wpL_no rfl rfl fun K hK=>?_;simp only[Act.put,sA,sB,sC];refine hK _ _ ?_;clear hK K)|refine wpL_nil ?_
   refine wpL_k (fun K hK=>?_)
   refine wp_appA _ _ _ rfl _ 64 Tryz.underlying23 infoE rfl o3B es rfl ((HE.out.below B0.out).below (b3.mono (by omega))) (by first|omega|(simp <;> omega)) rfl rfl Ev.len ev_one (by first|omega|(simp <;> omega)) (by first|omega|(simp <;> omega)) ?_
   intro v4 w4 o4B g4
   have g4b:=g4.below b3.size fun k h=>(o3B.lt k h).1
   refine hK _ _ (RN.KeepsN.of_below g4b) ?_
   clear hK K
   obtain⟨a4,c4,rfl,-⟩:=OwnF.form2 (show OwnF Ev.cells 69 8 w4 W.heap.size v4 es from o4B)
   have o4B:OwnF Ev.cells 69 8 w4 W.heap.size (.slice a4 es.length c4) es:=o4B
   have b4:Below W.heap.size W w4:=b3.trans g4b
   have s4:=b4.size
   have o4A:=OwnF.grwT o3A o3B (by decide) g4
   have OA:=hid o4A
   have OB:=hid o4B
   have BF:=hid b4
   have zF:=b4.size
   have RF:=hid (row_below R1.out b4 (by omega))
   have y0:=row_cell RF.out 0
   have y1:=row_cell RF.out 1
   have yf:∀j,w4.frozen? ⟨w.heap.size+1,j,none⟩=false:=fun j=>row_free RF.out j
   have ly:=row_lt RF.out
   clear g1 g2 g3 g4 b0 b1 b2 b3 b4 d0 d1 o1A o2A o3A o3B o4A o4B
   repeat first|(refine wpL_p fun K hK=>?_;go_simp;refine hK _ _ ?_;clear hK K)|(apply wpL_s;(intro w2 hw2;have hk1:=hw2.cell;have hk3:=hw2.1;clear hw2;go_simp;with_reducible rfl);simp only[Act.put,sA,sB,sC])|refine wpL_yes rfl rfl ?_|(refine wpL_no rfl rfl fun K hK=>?_;simp only[Act.put,sA,sB,sC];refine hK _ _ ?_;clear hK K)|refine wpL_nil ?_
   refine wpL_e (fun K hK=>?_)
   go_simp
   refine hK _ _ ?_
   clear hK K
   repeat first|(refine wpL_p fun K hK=>?_;go_simp;refine hK _ _ ?_;clear hK K)|(apply wpL_s;(intro w2 hw2;have hk1:=hw2.cell;have hk3:=hw2.1;clear hw2;go_simp;with_reducible rfl);simp only[Act.put,sA,sB,sC])|refine wpL_yes rfl rfl ?_|(refine wpL_no rfl rfl fun K hK=>?_;simp only[Act.put,sA,sB,sC];refine hK _ _ ?_;clear hK K)|refine wpL_nil ?_
   go_wp2
   have r4:=row2 (u1:=.slice a2 os.length c2) (u2:=.slice a4 es.length c4) RF.out
   have c0:=row_cell r4 0
   have c1:=row_cell r4 1
   simp only[List.getElem?_toArray,List.getElem?_cons_zero,List.getElem?_cons_succ] at c0 c1
   refine bodyPost_ret (v:=.agg #[.slice a2 os.length c2,.slice a4 es.length c4]) (by simp[results,Tryz.results34,go_sem,c0,c1]) rfl ⟨_,_,rfl,?_,?_,?_⟩
   ·exact OwnF.base (OwnF.box2 OA.out RF.out (by decide)) (by omega)
   ·exact OwnF.base (OwnF.box2 OB.out RF.out (by decide)) (by omega)
   ·exact ((B0.out.trans (BF.out.mono (by omega))).setCell (p:=⟨w.heap.size+1,0,none⟩) (by show w.heap.size≤w.heap.size+1;omega) _).setCell (p:=⟨w.heap.size+1,1,none⟩) (by show w.heap.size≤w.heap.size+1;omega) _
  ·refine wpL_k (fun K hK=>?_)
   refine wp_makeF (f:=Ev.cells) (e:=69) (sz:=8) (B:=W.heap.size) _ _ _ rfl _ 64 Tryz.underlying23 infoE rfl rfl (by first|omega|(simp <;> omega)) (by first|omega|(simp <;> omega)) (by first|omega|(simp <;> omega)) ?_
   intro w2 o2B g2 z2
   refine hK _ _ (RN.KeepsN.of_below (g2.mono (by have:=b1.size;omega))) ?_
   clear hK K
   have b2:Below W.heap.size W w2:=b1.trans (g2.mono b1.size)
   have s2:=b2.size
   have o2A:=OwnF.below o1A g2
   repeat first|(refine wpL_p fun K hK=>?_;go_simp;refine hK _ _ ?_;clear hK K)|(apply wpL_s;(intro w2 hw2;have hk1:=hw2.cell;have hk3:=hw2.1;clear hw2;go_simp;with_reducible rfl);simp only[Act.put,sA,sB,sC])|refine wpL_yes rfl rfl ?_|(refine wpL_no rfl rfl fun K hK=>?_;simp only[Act.put,sA,sB,sC];refine hK _ _ ?_;clear hK K)|refine wpL_nil ?_
   refine wpL_k (fun K hK=>?_)
   refine wp_appA _ _ _ rfl _ 16 Tryz.underlying22 infoO rfl o2A os rfl ((HO.out.below B0.out).below (b2.mono (by omega))) (by first|omega|(simp <;> omega)) rfl rfl Ob.len ob_one (by first|omega|(simp <;> omega)) (by first|omega|(simp <;> omega)) ?_
   intro v3 w3 o3A g3
   have g3b:=g3.below b2.size fun k h=>(o2A.lt k h).1
   refine hK _ _ (RN.KeepsN.of_below g3b) ?_
   clear hK K
   obtain⟨a3,c3,rfl,-⟩:=OwnF.form2 (show OwnF Ob.cells 62 2 w3 W.heap.size v3 os from o3A)
   have o3A:OwnF Ob.cells 62 2 w3 W.heap.size (.slice a3 os.length c3) os:=o3A
   have b3:Below W.heap.size W w3:=b2.trans g3b
   have s3:=b3.size
   have o3B:=OwnF.grwT o2B o2A (by decide) g3
   repeat first|(refine wpL_p fun K hK=>?_;go_simp;refine hK _ _ ?_;clear hK K)|(apply wpL_s;(intro w2 hw2;have hk1:=hw2.cell;have hk3:=hw2.1;clear hw2;go_simp;with_reducible rfl);simp only[Act.put,sA,sB,sC])|refine wpL_yes rfl rfl ?_|(refine wpL_no rfl rfl fun K hK=>?_;simp only[Act.put,sA,sB,sC];refine hK _ _ ?_;clear hK K)|refine wpL_nil ?_
   refine wpL_k (fun K hK=>?_)
   refine wp_appA _ _ _ rfl _ 64 Tryz.underlying23 infoE rfl o3B es rfl ((HE.out.below B0.out).below (b3.mono (by omega))) (by first|omega|(simp <;> omega)) rfl rfl Ev.len ev_one (by first|omega|(simp <;> omega)) (by first|omega|(simp <;> omega)) ?_
   intro v4 w4 o4B g4
   have g4b:=g4.below b3.size fun k h=>(o3B.lt k h).1
   refine hK _ _ (RN.KeepsN.of_below g4b) ?_
   clear hK K
   obtain⟨a4,c4,rfl,-⟩:=OwnF.form2 (show OwnF Ev.cells 69 8 w4 W.heap.size v4 es from o4B)
   have o4B:OwnF Ev.cells 69 8 w4 W.heap.size (.slice a4 es.length c4) es:=o4B
   have b4:Below W.heap.size W w4:=b3.trans g4b
   have s4:=b4.size
   have o4A:=OwnF.grwT o3A o3B (by decide) g4
   have OA:=hid o4A
   have OB:=hid o4B
   have BF:=hid b4
   have zF:=b4.size
   have RF:=hid (row_below R1.out b4 (by omega))
   have y0:=row_cell RF.out 0
   have y1:=row_cell RF.out 1
   have yf:∀j,w4.frozen? ⟨w.heap.size+1,j,none⟩=false:=fun j=>row_free RF.out j
   have ly:=row_lt RF.out
   clear g1 g2 g3 g4 b0 b1 b2 b3 b4 d0 d1 o1A o2A o2B o3A o3B o4A o4B
   repeat first|(refine wpL_p fun K hK=>?_;go_simp;refine hK _ _ ?_;clear hK K)|(apply wpL_s;(intro w2 hw2;have hk1:=hw2.cell;have hk3:=hw2.1;clear hw2;go_simp;with_reducible rfl);simp only[Act.put,sA,sB,sC])|refine wpL_yes rfl rfl ?_|(refine wpL_no rfl rfl fun K hK=>?_;simp only[Act.put,sA,sB,sC];refine hK _ _ ?_;clear hK K)|refine wpL_nil ?_
   refine wpL_e (fun K hK=>?_)
   go_simp
   refine hK _ _ ?_
   clear hK K
   repeat first|(refine wpL_p fun K hK=>?_;go_simp;refine hK _ _ ?_;clear hK K)|(apply wpL_s;(intro w2 hw2;have hk1:=hw2.cell;have hk3:=hw2.1;clear hw2;go_simp;with_reducible rfl);simp only[Act.put,sA,sB,sC])|refine wpL_yes rfl rfl ?_|(refine wpL_no rfl rfl fun K hK=>?_;simp only[Act.put,sA,sB,sC];refine hK _ _ ?_;clear hK K)|refine wpL_nil ?_
   go_wp2
   have r4:=row2 (u1:=.slice a3 os.length c3) (u2:=.slice a4 es.length c4) RF.out
   have c0:=row_cell r4 0
   have c1:=row_cell r4 1
   simp only[List.getElem?_toArray,List.getElem?_cons_zero,List.getElem?_cons_succ] at c0 c1
   refine bodyPost_ret (v:=.agg #[.slice a3 os.length c3,.slice a4 es.length c4]) (by simp[results,Tryz.results34,go_sem,c0,c1]) rfl ⟨_,_,rfl,?_,?_,?_⟩
   ·exact OwnF.base (OwnF.box2 OA.out RF.out (by decide)) (by omega)
   ·exact OwnF.base (OwnF.box2 OB.out RF.out (by decide)) (by omega)
   ·exact ((B0.out.trans (BF.out.mono (by omega))).setCell (p:=⟨w.heap.size+1,0,none⟩) (by show w.heap.size≤w.heap.size+1;omega) _).setCell (p:=⟨w.heap.size+1,1,none⟩) (by show w.heap.size≤w.heap.size+1;omega) _
 ·refine wpL_k (fun K hK=>?_)
  refine wp_makeF (f:=Ev.cells) (e:=69) (sz:=8) (B:=W.heap.size) _ _ _ rfl _ 64 Tryz.underlying23 infoE rfl rfl (by first|omega|(simp <;> omega)) (by first|omega|(simp <;> omega)) (by first|omega|(simp <;> omega)) ?_
  intro w1 o1B g1 z1
  refine hK _ _ (RN.KeepsN.of_below (g1.mono (by have:=b0.size;omega))) ?_
  clear hK K
  have b1:Below W.heap.size W w1:=b0.trans (g1.mono b0.size)
  have s1:=b1.size
  repeat first|(refine wpL_p fun K hK=>?_;go_simp;refine hK _ _ ?_;clear hK K)|(apply wpL_s;(intro w2 hw2;have hk1:=hw2.cell;have hk3:=hw2.1;clear hw2;go_simp;with_reducible rfl);simp only[Act.put,sA,sB,sC])|refine wpL_yes rfl rfl ?_|(refine wpL_no rfl rfl fun K hK=>?_;simp only[Act.put,sA,sB,sC];refine hK _ _ ?_;clear hK K)|refine wpL_nil ?_
  refine wpL_k (fun K hK=>?_)
  refine wp_makeF (f:=Ob.cells) (e:=62) (sz:=2) (B:=W.heap.size) _ _ _ rfl _ 16 Tryz.underlying22 infoO rfl rfl (by first|omega|(simp <;> omega)) (by first|omega|(simp <;> omega)) (by first|omega|(simp <;> omega)) ?_
  intro w2 o2A g2 z2
  refine hK _ _ (RN.KeepsN.of_below (g2.mono (by have:=b1.size;omega))) ?_
  clear hK K
  have b2:Below W.heap.size W w2:=b1.trans (g2.mono b1.size)
  have s2:=b2.size
  have o2B:=OwnF.below o1B g2
  repeat first|(refine wpL_p fun K hK=>?_;go_simp;refine hK _ _ ?_;clear hK K)|(apply wpL_s;(intro w2 hw2;have hk1:=hw2.cell;have hk3:=hw2.1;clear hw2;go_simp;with_reducible rfl);simp only[Act.put,sA,sB,sC])|refine wpL_yes rfl rfl ?_|(refine wpL_no rfl rfl fun K hK=>?_;simp only[Act.put,sA,sB,sC];refine hK _ _ ?_;clear hK K)|refine wpL_nil ?_
  refine wpL_k (fun K hK=>?_)
  refine wp_appA _ _ _ rfl _ 16 Tryz.underlying22 infoO rfl o2A os rfl ((HO.out.below B0.out).below (b2.mono (by omega))) (by first|omega|(simp <;> omega)) rfl rfl Ob.len ob_one (by first|omega|(simp <;> omega)) (by first|omega|(simp <;> omega)) ?_
  intro v3 w3 o3A g3
  have g3b:=g3.below b2.size fun k h=>(o2A.lt k h).1
  refine hK _ _ (RN.KeepsN.of_below g3b) ?_
  clear hK K
  obtain⟨a3,c3,rfl,-⟩:=OwnF.form2 (show OwnF Ob.cells 62 2 w3 W.heap.size v3 os from o3A)
  have o3A:OwnF Ob.cells 62 2 w3 W.heap.size (.slice a3 os.length c3) os:=o3A
  have b3:Below W.heap.size W w3:=b2.trans g3b
  have s3:=b3.size
  have o3B:=OwnF.grwT o2B o2A (by decide) g3
  repeat first|(refine wpL_p fun K hK=>?_;go_simp;refine hK _ _ ?_;clear hK K)|(apply wpL_s;(intro w2 hw2;have hk1:=hw2.cell;have hk3:=hw2.1;clear hw2;go_simp;with_reducible rfl);simp only[Act.put,sA,sB,sC])|refine wpL_yes rfl rfl ?_|(refine wpL_no rfl rfl fun K hK=>?_;simp only[Act.put,sA,sB,sC];refine hK _ _ ?_;clear hK K)|refine wpL_nil ?_
  refine wpL_k (fun K hK=>?_)
  refine wp_appA _ _ _ rfl _ 64 Tryz.underlying23 infoE rfl o3B es rfl ((HE.out.below B0.out).below (b3.mono (by omega))) (by first|omega|(simp <;> omega)) rfl rfl Ev.len ev_one (by first|omega|(simp <;> omega)) (by first|omega|(simp <;> omega)) ?_
  intro v4 w4 o4B g4
  have g4b:=g4.below b3.size fun k h=>(o3B.lt k h).1
  refine hK _ _ (RN.KeepsN.of_below g4b) ?_
  clear hK K
  obtain⟨a4,c4,rfl,-⟩:=OwnF.form2 (show OwnF Ev.cells 69 8 w4 W.heap.size v4 es from o4B)
  have o4B:OwnF Ev.cells 69 8 w4 W.heap.size (.slice a4 es.length c4) es:=o4B
  have b4:Below W.heap.size W w4:=b3.trans g4b
  have s4:=b4.size
  have o4A:=OwnF.grwT o3A o3B (by decide) g4
  have OA:=hid o4A
  have OB:=hid o4B
  have BF:=hid b4
  have zF:=b4.size
  have RF:=hid (row_below R1.out b4 (by omega))
  have y0:=row_cell RF.out 0
  have y1:=row_cell RF.out 1
  have yf:∀j,w4.frozen? ⟨w.heap.size+1,j,none⟩=false:=fun j=>row_free RF.out j
  have ly:=row_lt RF.out
  clear g1 g2 g3 g4 b0 b1 b2 b3 b4 d0 d1 o1B o2A o2B o3A o3B o4A o4B
  repeat first|(refine wpL_p fun K hK=>?_;go_simp;refine hK _ _ ?_;clear hK K)|(apply wpL_s;(intro w2 hw2;have hk1:=hw2.cell;have hk3:=hw2.1;clear hw2;go_simp;with_reducible rfl);simp only[Act.put,sA,sB,sC])|refine wpL_yes rfl rfl ?_|(refine wpL_no rfl rfl fun K hK=>?_;simp only[Act.put,sA,sB,sC];refine hK _ _ ?_;clear hK K)|refine wpL_nil ?_
  refine wpL_e (fun K hK=>?_)
  go_simp
  refine hK _ _ ?_
  clear hK K
  repeat first|(refine wpL_p fun K hK=>?_;go_simp;refine hK _ _ ?_;clear hK K)|(apply wpL_s;(intro w2 hw2;have hk1:=hw2.cell;have hk3:=hw2.1;clear hw2;go_simp;with_reducible rfl);simp only[Act.put,sA,sB,sC])|refine wpL_yes rfl rfl ?_|(refine wpL_no rfl rfl fun K hK=>?_;simp only[Act.put,sA,sB,sC];refine hK _ _ ?_;clear hK K)|refine wpL_nil ?_
  go_wp2
  have r4:=row2 (u1:=.slice a3 os.length c3) (u2:=.slice a4 es.length c4) RF.out
  have c0:=row_cell r4 0
  have c1:=row_cell r4 1
  simp only[List.getElem?_toArray,List.getElem?_cons_zero,List.getElem?_cons_succ] at c0 c1
  refine bodyPost_ret (v:=.agg #[.slice a3 os.length c3,.slice a4 es.length c4]) (by simp[results,Tryz.results34,go_sem,c0,c1]) rfl ⟨_,_,rfl,?_,?_,?_⟩
  ·exact OwnF.base (OwnF.box2 OA.out RF.out (by decide)) (by omega)
  ·exact OwnF.base (OwnF.box2 OB.out RF.out (by decide)) (by omega)
  ·exact ((B0.out.trans (BF.out.mono (by omega))).setCell (p:=⟨w.heap.size+1,0,none⟩) (by show w.heap.size≤w.heap.size+1;omega) _).setCell (p:=⟨w.heap.size+1,1,none⟩) (by show w.heap.size≤w.heap.size+1;omega) _
end
