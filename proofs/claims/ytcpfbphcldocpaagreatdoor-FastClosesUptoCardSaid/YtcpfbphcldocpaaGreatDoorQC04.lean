/- Parts of the proof; the first: Orders of transactions, played on registers: plain lists. Conditions: those of each theorem, as typed. -/
import Derived.Test.YtcpfbphcldocpaaGreatDoorQC03
import Derived.Laws.EntriesVeiled
import Derived.DeepKeys4
import Derived.Test.YtcpfbphcldocpaaGreatDoorChecked
set_option linter.unusedVariables false
set_option linter.unusedSimpArgs false
set_option linter.unusedSectionVars false
set_option maxRecDepth 100000
set_option maxHeartbeats 4000000
namespace Go.Proofs.YtcpfbphcldocpaaGreatDoor
open Go.MapKept Go.Maps Go.RowKit
def yZ (A:Au) (x:Int):List Dd:=match A.find? (fun s=>s.id==x) with
 |some s=>s.deeds
 |none=>[]
section
variable {A:Au} {n:Nat}
theorem find_id (hn:(A.map (·.id)).Nodup) {s:St} (hs:s ∈ A):A.find? (fun u=>u.id==s.id)=some s:=by
 cases hf:A.find? (fun u=>u.id==s.id) with
 |none=>
  have:=List.find?_eq_none.1 hf s hs;simp at this
 |some u=>
  have h1:=List.find?_some hf;have h2:=List.mem_of_find?_eq_some hf;rw[KH hn h2 hs (by simpa using h1)]
theorem KT (hn:(A.map (·.id)).Nodup) {s:St} (hs:s ∈ A):yZ A s.id=s.deeds:=by unfold yZ;rw[find_id hn hs]
variable {ord:List (Int×Bool)}
end
theorem UV {n:Nat} {e:Ev} {s s':St} (h:js n e s=some s'):s'.id=s.id/\s'.beg=s.beg/\s'.thread=s.thread/\(s'.fin=s.fin\/s'.fin=n):=by
 unfold js at h
 split at h
 ·split at h
  ·cases h;exact⟨rfl,rfl,rfl,.inl rfl⟩
  ·cases h
 ·split at h
  ·split at h
   ·split at h
    ·split at h
     ·cases h;exact⟨rfl,rfl,rfl,.inl rfl⟩
     ·cases h
    ·cases h
   ·cases h
  ·split at h
   ·split at h
    ·cases h;exact⟨rfl,rfl,rfl,.inl rfl⟩
    ·cases h
   ·split at h
    ·split at h
     ·cases h;exact⟨rfl,rfl,rfl,.inr rfl⟩
     ·cases h
    ·split at h
     ·split at h
      ·cases h;exact⟨rfl,rfl,rfl,.inr rfl⟩
      ·cases h
     ·split at h
      ·split at h
       ·cases h;exact⟨rfl,rfl,rfl,.inl rfl⟩
       ·cases h
      ·cases h
def FullD (s:St):Prop:=(s.stand=1\/s.stand=3\/s.stand=4\/s.status=3->∀d ∈ s.deeds,d.ret≠0)/\(s.stand=2->s.status=1/\∀d ∈ s.deeds.dropLast,d.ret≠0)/\(s.stand=1\/s.stand=4->s.status=1)/\(s.stand=3->s.status=2)/\(s.stand=1\/s.stand=2\/s.stand=3\/s.stand=4\/s.stand=5)
theorem Wj {n:Nat} {e:Ev} {s s':St} (hF:FullD s) (h:js n e s=some s'):FullD s':=by
 obtain⟨h1,h2,h3,h4,h5⟩:=hF;unfold js at h
 split at h
 ·split at h
  ·rename_i hk hs
   cases h;refine⟨fun hc=>?_,fun _=>⟨h3 (.inl hs),fun d hd=>?_⟩,fun hc=>?_,fun hc=>?_,.inr (.inl rfl)⟩
   ·have e1:=h3 (.inl hs)
    simp only[e1] at hc;omega
   ·simp only[List.dropLast_concat] at hd
    exact h1 (.inl hs) d hd
   ·simp only at hc;omega
   ·simp only at hc;omega
  ·cases h
 ·split at h
  ·split at h
   ·rename_i hs
    split at h
    ·rename_i d hd
     split at h
     ·rename_i hf
      cases h;have hr:e.ret≠0:=by unfold Uu at hf;omega
      obtain⟨e1,e2⟩:=h2 hs;refine⟨fun _ y hy=>?_,fun hc=>by simp only at hc;omega,fun _=>e1,fun hc=>by simp only at hc;omega,.inl rfl⟩;simp only[List.mem_append,List.mem_singleton] at hy;rcases hy with hy|rfl
      ·exact e2 y hy
      ·exact hr
     ·cases h
    ·cases h
   ·cases h
  ·split at h
   ·split at h
    ·rename_i hs
     cases h;exact⟨fun _=>h1 (.inl hs),fun hc=>by simp only at hc;omega,fun hc=>by simp only at hc;omega,fun _=>rfl,.inr (.inr (.inl rfl))⟩
    ·cases h
   ·split at h
    ·split at h
     ·rename_i hs
      cases h;exact⟨fun _=>h1 (.inr (.inl hs)),fun hc=>by simp only at hc;omega,fun hc=>by simp only at hc;omega,fun hc=>by simp only at hc;omega,.inr (.inr (.inr (.inr rfl)))⟩
     ·cases h
    ·split at h
     ·split at h
      ·rename_i hs
       cases h;exact⟨fun hc=>by simp only at hc;omega,fun hc=>by simp only at hc;omega,fun hc=>by simp only at hc;omega,fun hc=>by simp only at hc;omega,.inr (.inr (.inr (.inr rfl)))⟩
      ·cases h
     ·split at h
      ·split at h
       ·rename_i hs
        cases h;exact⟨fun _=>h1 (.inl hs),fun hc=>by simp only at hc;omega,fun _=>h3 (.inl hs),fun hc=>by simp only at hc;omega,.inr (.inr (.inr (.inl rfl)))⟩
       ·cases h
      ·cases h
theorem fed_full:∀{l:List Ev} {A:Au},Fed l A->∀s ∈ A,FullD s:=by
 intro l A h
 induction h with
 |nil=>intro s hs;cases hs
 |@snoc l A A' e h hf ih=>
  cases hf with
  |begin hk hi hb=>
   intro s hs;rcases List.mem_append.1 hs with hs|hs
   ·exact ih s hs
   ·obtain rfl:s=zM e l.length:=by simpa using hs
    exact⟨fun _ d hd=>(nomatch hd),fun h=>by simp[zM] at h,fun _=>rfl,fun h=>by simp[zM] at h,.inl rfl⟩
  |move k s s' hk hs hi hm=>
   intro x hx;obtain⟨j,hj⟩:=List.mem_iff_getElem?.1 hx;rcases yQ hj with⟨-,rfl⟩|⟨-,hj⟩
   ·exact Wj (ih s (List.mem_of_getElem? hs)) hm
   ·exact ih x (List.mem_of_getElem? hj)
theorem fed_ids:∀{l:List Ev} {A:Au},Fed l A->(A.map (·.id)).Nodup:=by
 intro l A h
 induction h with
 |nil=>simp
 |@snoc l A A' e h hf ih=>
  cases hf with
  |begin hk hi hb=>
   rw[List.map_append];refine List.nodup_append.2 ⟨ih,by simp,fun a ha b hb'=>?_⟩;rintro rfl;obtain⟨s,hs,he⟩:=List.mem_map.1 ha;obtain rfl:a=e.tx:=by simpa[zM] using hb'
   exact hi ⟨s,hs,he⟩
  |move k s s' hk hs hi hm=>
   rw[Rw hs (UV hm).1];exact ih
def Mh (lev:Int) (s:St):Bool:=if lev=1\/lev=2 then decide (s.status=3\/s.status=2) else decide (lev=3)
def rly (a b:St):Bool:=decide (0<=a.fin)&&decide (a.fin < b.beg)
def xu (d:Dd):Bool:=decide (d.op=1/\d.ret=3)
def xt:List Int->List Dd->List Dd
 |_,[]=>[]
 |met,d::l=>(if xu d&&!met.contains d.obj then[d] else[])++xt (if xu d||decide (d.op=2) then d.obj::met else met) l
def xX (l:List Dd):List Dd:=l.foldl (fun out d=>if d.op=2/\d.ret=1 then out.filter (fun o=>o.obj !=d.obj)++[d] else out) []
abbrev Mi:=List (Int×Int)
def yG (s:St):Mi:=(xt [] s.deeds).foldl (fun m d=>upd d.obj d.got m) []
def zb (s:St):Mi:=(xX s.deeds).foldl (fun m d=>upd d.obj d.val m) []
def Jv (s:St):Bool:=decide (s.status=3\/s.status=2)
def Mr (A:Au) (o v:Int) (r:Option Nat) (i:Nat):Option Nat:=match A[i]? with
 |some s=>if Jv s&&(fnd o (zb s)==some v) then some i else r
 |none=>r
def WV (A:Au) (o v:Int):Option Nat:=(List.range A.length).foldl (Mr A o v) none
def Ug (A:Au) (i:Nat) (T:List Bool) (p:Int×Int):List Bool:=match WV A p.1 p.2 with
 |some j=>if j=i then T else T.set j true
 |none=>T
def Zr (A:Au) (i:Nat) (m:Mi) (T:List Bool):List Bool:=m.foldl (Ug A i) T
def JZ (lev:Int) (A:Au) (T:List Bool) (i:Nat):List Bool:=match A[i]? with
 |some s=>if T.getD i false||decide (lev=3) then Zr A i (yG s) T else T
 |none=>T
def Zm (lev:Int) (A:Au) (T:List Bool):List Bool:=(List.range A.length).foldl (JZ lev A) T
def zJ (A:Au):List Bool:=A.map fun s=>decide (s.status=3)
def YE (lev:Int) (A:Au):Nat->List Bool->List Bool
 |0,T=>T
 |n+1,T=>YE lev A n (Zm lev A T)
def qT (lev:Int) (A:Au):List Bool:=YE lev A (A.length+1) (zJ A)
def qZ (lev:Int) (T:List Bool) (i:Nat):Bool:=T.getD i false||decide (lev=3)
def xF (inits:List Int) (A:Au) (T:List Bool) (i:Nat) (rd:Mi):Nat->Mi->List Dd->Option Nat
 |_,_,[]=>none
 |k,own,d::l=>
  if d.op=2 then xF inits A T i rd (k+1) (upd d.obj d.val own) l
  else if d.ret=0 then xF inits A T i rd (k+1) own l
  else match fnd d.obj own with
   |some v=>if d.got=v then xF inits A T i rd (k+1) own l else some k
   |none=>if d.got=(fnd d.obj rd).getD 0/\(d.got=inits.getD d.obj.toNat 0\/(match WV A d.obj d.got with
     |some j=>decide (j≠i)&&T.getD j false
     |none=>false)=true) then xF inits A T i rd (k+1) own l else some k
def vQ (lev:Int) (a b:St):Bool:=decide (lev≠1)&&rly a b
def Qu (l m:Mi) (f:Int->Bool):Bool:=l.any fun p=>(fnd p.1 m==some p.2)&&f p.1
def VP (ta:Bool) (a b:St):Bool:=ta&&Qu (zb a) (yG b) fun _=>true
def JR (ta tb:Bool) (a b:St):Bool:=ta&&tb&&Qu (zb a) (yG b) fun o=>(fnd o (zb b)).isSome
def VQ (tb:Bool) (a b:St):Bool:=tb&&Qu (yG a) (yG b) fun o=>(fnd o (zb b)).isSome
section
variable {lev:Int} {A:Au}
def Yf (T:List Bool):Nat:=T.count true
theorem cntT_set {T:List Bool} {j:Nat} (hj:j < T.length) (h:T.getD j false=false):Yf (T.set j true)=Yf T+1:=by
 unfold Yf;rw[List.count_set hj];have e:T[j]=false:=by rw[List.getD_eq_getElem?_getD,List.getElem?_eq_getElem hj] at h;simpa using h
 simp[e]
theorem Vq (T:List Bool):Yf T<=T.length:=List.count_le_length
theorem Xx {T:List Bool} {j k:Nat} (hj:j < T.length):(T.set j true).getD k false=(T.getD k false||decide (k=j)):=by
 rw[List.getD_eq_getElem?_getD,List.getD_eq_getElem?_getD,List.getElem?_set];by_cases h:j=k
 ·subst h;simp[hj]
 ·simp [h,show ¬k=j from fun e=>h e.symm]
theorem by1_lt {o v:Int} {n:Nat}:∀{l:List Nat} {r:Option Nat} {j:Nat},(∀i ∈ l,i < n)->(∀j,r=some j->j < n)->l.foldl (Mr A o v) r=some j->j < n
 |[],r,j,_,hr,h=>hr j h
 |i::l,r,j,hl,hr,h=>by
  refine by1_lt (l:=l) (fun x hx=>hl x (List.mem_cons_of_mem _ hx)) (fun k hk=>?_) h;unfold Mr at hk
  split at hk
  ·split at hk
   ·exact Option.some.inj hk▸hl i (List.mem_cons_self ..)
   ·exact hr k hk
  ·exact hr k hk
theorem Vs {o v:Int} {j:Nat} (h:WV A o v=some j):j < A.length:=by1_lt (r:=none) (fun i hi=>List.mem_range.1 hi) (fun j h=>by cases h) h
def vz (A:Au) (i j:Nat) (p:Int×Int):Prop:=WV A p.1 p.2=some j/\j≠i
theorem Uf {i:Nat} {T:List Bool} {p:Int×Int}:(Ug A i T p).length=T.length:=by
 unfold Ug
 split
 ·split <;> simp
 ·rfl
theorem Ud {i:Nat}:∀{m:Mi} {T:List Bool},(Zr A i m T).length=T.length
 |[],T=>rfl
 |p::m,T=>by
  unfold Zr;rw[List.foldl_cons];exact(Ud (m:=m)).trans Uf
theorem NE {i j:Nat} {T:List Bool} {p:Int×Int} (hT:T.length=A.length):(Ug A i T p).getD j false=true↔T.getD j false=true\/vz A i j p:=by
 unfold Ug vz;cases h:WV A p.1 p.2 with
 |none=>simp
 |some k=>
  have hk:=Vs h;simp only
  split
  ·rename_i e
   subst e;constructor
   ·exact .inl
   ·rintro (h|⟨h1,h2⟩)
    ·exact h
    ·exact absurd (Option.some.inj h1).symm h2
  ·rename_i e
   rw[Xx (by omega)];simp only[Bool.or_eq_true,decide_eq_true_eq,Option.some.injEq];constructor
   ·rintro (h|rfl)
    ·exact .inl h
    ·exact .inr ⟨rfl,e⟩
   ·rintro (h|⟨rfl,-⟩)
    ·exact .inl h
    ·exact .inr rfl
theorem Ue {i j:Nat}:∀{m:Mi} {T:List Bool},T.length=A.length->((Zr A i m T).getD j false=true↔T.getD j false=true\/∃p ∈ m,vz A i j p)
 |[],T,_=>by simp[Zr]
 |p::m,T,hT=>by
  have:=Ue (i:=i) (j:=j) (m:=m) (T:=Ug A i T p) (by rw[Uf,hT]);unfold Zr at this ⊢;rw[List.foldl_cons,this,NE hT];simp only[List.mem_cons,exists_eq_or_imp];constructor
  ·rintro ((h|h)|h)
   ·exact .inl h
   ·exact .inr (.inl h)
   ·exact .inr (.inr h)
  ·rintro (h|h|h)
   ·exact .inl (.inl h)
   ·exact .inl (.inr h)
   ·exact .inr h
theorem NS {T T':List Bool} (hl:T.length=T'.length) (h:∀j,T.getD j false=true↔T'.getD j false=true):T=T':=by
 refine List.ext_getElem hl fun j h1 h2=>?_;have:=h j;rw[List.getD_eq_getElem?_getD,List.getD_eq_getElem?_getD,List.getElem?_eq_getElem h1,List.getElem?_eq_getElem h2] at this;simp only[Option.getD_some] at this;cases e1:T[j] <;> cases e2:T'[j] <;> simp_all
theorem NA {T:List Bool} {i:Nat}:(JZ lev A T i).length=T.length:=by
 unfold JZ
 split
 ·split
  ·exact Ud
  ·rfl
 ·rfl
theorem Qk:∀(k:Nat) (T:List Bool),YE lev A (k+1) T=Zm lev A (YE lev A k T)
 |0,T=>rfl
 |k+1,T=>by rw[YE,Qk k];rfl
theorem Ut {T:List Bool} (h:Zm lev A T=T):∀k,YE lev A k T=T
 |0=>rfl
 |k+1=>by rw[YE,h,Ut h k]
theorem WA (T:List Bool):∀(j k:Nat),YE lev A (k+j) T=YE lev A j (YE lev A k T)
 |0,k=>rfl
 |j+1,k=>by rw[←Nat.add_assoc,Qk,Qk,WA T j k]
theorem MG {T:List Bool} {k:Nat} (h:Zm lev A T=T) (hk:k<=A.length+1) (hT:YE lev A k (zJ A)=T):qT lev A=T:=by
 unfold qT;obtain⟨j,hj⟩:=Nat.le.dest hk;rw[←hj,WA,hT,Ut h]
theorem KJ:(zJ A).length=A.length:=by simp[zJ]
end
def xH (os:List Ob):List Int->List (Int×Int)->List Dd->Option (List (Int×Int))
 |_,wr,[]=>some wr
 |rd,wr,d::l=>match os[d.obj.toNat]? with
  |none=>none
  |some o=>if o.kind=1 then
    if d.op=1 then xH os (if d.ret=3 then d.obj::rd else rd) wr l
    else if d.obj ∈ rd/\(d.obj,d.val) ∉ wr/\o.init≠d.val then xH os rd ((d.obj,d.val)::wr) l
    else none
   else none
def qU (os:List Ob):List (Int×Int)->Au->Bool
 |_,[]=>true
 |wr,s::A=>match xH os [] wr s.deeds with
  |some wr'=>qU os wr' A
  |none=>false
def vA (es:Array MapEntry) (M:Int->Option Value):Prop:=∀k v,M k=some v↔∃x ∈ es.toList,x.key=.int .i64 k/\x.val=v
def qL (w:World) (b:Nat) (M:Int->Option Value):Prop:=
 ∃(es:Array MapEntry) (c:Nat),w.heap[b]?=some (.map es c)/\(∀x ∈ es.toList,∃k:Int,x.key=.int .i64 k)/\Stamped es c/\vA es M
def UC (w:World) (b:Nat) (M:Int->Option Value) (a n:Int):Prop:=
 ∃(es:Array MapEntry) (c:Nat),w.heap[b]?=some (.map es c)/\(∀x ∈ es.toList,∃k:Int,x.key=.int .i64 k)/\Stamped es c/\vA es M/\∃x ∈ es.toList,x.key=.int .i64 a/\(x.born:Int)=n
def UN (M:Int->Option Value) (a:Int) (v:Option Value):Int->Option Value:=fun k=>if k=a then v else M k
theorem xD {M:Int->Option Value} {a:Int} {v:Option Value}:UN M a v a=v:=by simp[UN]
theorem qV {M:Int->Option Value} {a k:Int} {v:Option Value} (h:k≠a):UN M a v k=M k:=by simp[UN,h]
section
variable {P:Program} {K t e:TypeId} {w w':World} {b:Nat} {M:Int->Option Value}
theorem qL.lt (h:qL w b M):b < w.heap.size:=by
 obtain⟨es,c,hb,-⟩:=h;exact(Array.getElem?_eq_some_iff.1 hb).1
theorem qL.isMap (h:qL w b M):∃es c,w.heap[b]?=some (.map es c):=let ⟨es,c,hb,_⟩:=h;⟨es,c,hb⟩
theorem qL.obj (h:qL w b M) (hw:w'.heap[b]?=w.heap[b]?):qL w' b M:=by
 obtain⟨es,c,hb,h⟩:=h;exact⟨es,c,hw.trans hb,h⟩
theorem qL.below {B:Nat} (h:qL w b M) (hb:Below B w w') (hlt:b < B):qL w' b M:=h.obj (hb.block b hlt)
theorem qL.drew (h:qL w b M):qL w.drew b M:=h
theorem qL.set (h:qL w b M) {g j:Nat} {v:Value} (hg:b≠g):qL (w.setCell ⟨g,j,none⟩ v) b M:=h.obj (RowKit.Below.heap_setCell _ _ _ _ hg)
theorem qL.made (h:w.heap[b]?=some (.map #[] 0)):qL w b (fun _=>none):=⟨#[],0,h,by simp,stamped_empty 0,by intro k v;simp⟩
theorem qL.fun {N:Int->Option Value} (h:qL w b M) (hN:∀k,N k=M k):qL w b N:=by
 obtain⟨es,c,h1,h2,h3,h4⟩:=h;exact⟨es,c,h1,h2,h3,fun k v=>by rw[hN];exact h4 k v⟩
theorem qL.find {es:Array MapEntry} (h2:∀x ∈ es.toList,∃k:Int,x.key=.int .i64 k) (h4:vA es M) (a:Int):
  (Instr.findNow (.int .i64) (.int .i64 a) es.toList 0=some none/\(∀x ∈ es.toList,x.key≠.int .i64 a)/\M a=none)\/∃j x,Instr.findNow (.int .i64) (.int .i64 a) es.toList 0=some (some (j,x.val))/\es.toList[j]?=some x/\x.key=.int .i64 a/\M a=some x.val:=by
 have hks:∀x ∈ es.toList,IsKey (.int .i64) x.key:=fun x hx=>by
  obtain⟨k,hk⟩:=h2 x hx;rw[hk];exact rfl
 rcases findNow_spec (k:=.int .i64 a) (d:=.int .i64) rfl es.toList 0 hks with⟨h1,hn⟩|⟨j,x,h1,hj,hx⟩
 ·refine .inl ⟨h1,hn,?_⟩
  cases hM:M a with
  |none=>rfl
  |some v=>
   obtain⟨x,hx,hk,-⟩:=(h4 a v).1 hM;exact absurd hk (hn x hx)
 ·exact .inr ⟨j,x,by simpa using h1,hj,hx,(h4 a x.val).2 ⟨x,List.mem_of_getElem? hj,hx,rfl⟩⟩
theorem qL.look (h:qL w b M) (hK:P.underlying K=some (.int .i64)) (ht:P.underlying t=some (.map K e)) {zv:Value} (hz:(zeroValue e).run P w=.ok zv w) (a:Int) {r:Option Value} (hr:M a=r):
  (Instr.lookup t (.map (some b)) (.int .i64 a) false).run P w=.ok (r.getD zv) w/\(Instr.lookup t (.map (some b)) (.int .i64 a) true).run P w=.ok (.tuple #[r.getD zv,.bool r.isSome]) w:=by
 obtain⟨es,c,hb,h2,h3,h4⟩:=h;rcases qL.find h2 h4 a with⟨h1,-,hM⟩|⟨j,x,h1,-,-,hM⟩ <;>
 ·rw [hM] at hr
  subst hr;constructor <;> simp[Instr.lookup,run_underlying ht,MapKept.run_getObj_map hb,MapKept.run_checkKey hK (k:=.int .i64 a) rfl,MapKept.run_findKey hK h1,hz,Result.andThen]
theorem Uk {es:Array MapEntry} {a:Int} {v:Value} {c:Nat} (h2:∀x ∈ es.toList,∃k:Int,x.key=.int .i64 k):∀x ∈ (es.push ⟨.int .i64 a,v,c⟩).toList,∃k:Int,x.key=.int .i64 k:=by
 intro y hy;simp only[Array.toList_push,List.mem_append,List.mem_singleton] at hy;rcases hy with hy|rfl
 ·exact h2 y hy
 ·exact ⟨a,rfl⟩
theorem vA.push {es:Array MapEntry} (h4:vA es M) {a:Int} {v:Value} {c:Nat} (hn:∀x ∈ es.toList,x.key≠.int .i64 a):vA (es.push ⟨.int .i64 a,v,c⟩) (UN M a (some v)):=by
 intro k u;simp only[Array.toList_push,List.mem_append,List.mem_singleton];by_cases hk:k=a
 ·subst hk
  rw[xD];constructor
  ·intro hu
   cases hu;exact⟨_,.inr rfl,rfl,rfl⟩
  ·rintro ⟨y,hy|rfl,h5,h6⟩
   ·exact absurd h5 (hn y hy)
   ·simpa using h6
 ·rw [qV hk,h4]
  constructor
  ·rintro ⟨y,hy,h5⟩
   exact⟨y,.inl hy,h5⟩
  ·rintro ⟨y,hy|rfl,h5,h6⟩
   ·exact ⟨y,hy,h5,h6⟩
   ·simp only[Value.int.injEq,true_and] at h5
    exact absurd h5.symm hk
theorem xU {es:Array MapEntry} {c:Nat} (hs:Stamped es c) {j:Nat} {x:MapEntry} (hj:es[j]?=some x) (f:MapEntry->MapEntry) (y:MapEntry):
  y ∈ (es.modify j f).toList↔y=f x\/(y ∈ es.toList/\y.key≠x.key):=by
 have h3:=hs.2.2;rw[List.mem_iff_getElem?];constructor
 ·rintro ⟨i,hi⟩
  simp only[Array.getElem?_toList,Array.getElem?_modify] at hi
  split at hi
  ·rename_i he
   subst he;rw[hj] at hi;simp only[Option.map_some,Option.some.injEq] at hi;exact .inl hi.symm
  ·rename_i he
   refine .inr ⟨List.mem_iff_getElem?.2 ⟨i,by simpa using hi⟩,fun hk=>he ?_⟩;have hil:j < (es.toList.map (·.key)).length:=by
    have:=(Array.getElem?_eq_some_iff.1 hj).1;simpa using this
   refine(List.getElem?_inj hil h3).1 ?_;simp[hi,hj,hk]
 ·rintro (rfl|⟨hy,hne⟩)
  ·exact ⟨j,by simp[Array.getElem?_modify,hj]⟩
  ·obtain ⟨i,hi⟩:=List.mem_iff_getElem?.1 hy
   refine⟨i,?_⟩;simp only[Array.getElem?_toList,Array.getElem?_modify];rw[if_neg (by
    rintro rfl;rw[Array.getElem?_toList,hj] at hi;cases hi;exact hne rfl)]
   simpa using hi
theorem vT {es:Array MapEntry} {c:Nat} (hs:Stamped es c) (h2:∀x ∈ es.toList,∃k:Int,x.key=.int .i64 k) {j:Nat} {x:MapEntry} (hj:es[j]?=some x) {f:MapEntry->MapEntry} {a:Int} (hf:(f x).key=.int .i64 a):∀y ∈ (es.modify j f).toList,∃k:Int,y.key=.int .i64 k:=by
 intro y hy;rcases(xU hs hj f y).1 hy with rfl|⟨hy,-⟩
 ·exact ⟨a,hf⟩
 ·exact h2 y hy
theorem vA.modify {es:Array MapEntry} {c:Nat} (hs:Stamped es c) (h4:vA es M) {j:Nat} {x:MapEntry} (hj:es[j]?=some x) {f:MapEntry->MapEntry} {a:Int} (hx:x.key=.int .i64 a) (hf:(f x).key=.int .i64 a):vA (es.modify j f) (UN M a (some (f x).val)):=by
 intro k u;by_cases hk:k=a
 ·subst hk
  rw[xD];constructor
  ·intro hu
   cases hu;exact⟨_,(xU hs hj f _).2 (.inl rfl),hf,rfl⟩
  ·rintro ⟨y,hy,h5,h6⟩
   rcases(xU hs hj f y).1 hy with rfl|⟨-,hne⟩
   ·rw [h6]
   ·exact absurd (h5.trans hx.symm) hne
 ·rw [qV hk,h4]
  constructor
  ·rintro ⟨y,hy,h5,h6⟩
   exact⟨y,(xU hs hj f y).2 (.inr ⟨hy,by rw[h5,hx];simpa using hk⟩),h5,h6⟩
  ·rintro ⟨y,hy,h5,h6⟩
   rcases(xU hs hj f y).1 hy with rfl|⟨hy,-⟩
   ·rw [hf] at h5
    simp only[Value.int.injEq,true_and] at h5;exact absurd h5.symm hk
   ·exact ⟨y,hy,h5,h6⟩
theorem ur {es:Array MapEntry} {c:Nat} (hs:Stamped es c) {j:Nat} {x:MapEntry} (hj:es[j]?=some x) {f:MapEntry->MapEntry} (hb:∀y,(f y).born=y.born) (hk:(f x).key=x.key):Stamped (es.modify j f) c:=
 stamped_modify hs j f (fun y _=>hb y) fun y _ hy=>by rw[hj] at hy;cases hy;exact hk
theorem qL.store (h:qL w b M) (hK:P.underlying K=some (.int .i64)) (ht:P.underlying t=some (.map K e)) (a:Int) (v:Value):
  ∃w',(Instr.mapUpdate t (.map (some b)) (.int .i64 a) v).run P w=.ok () w'/\qL w' b (UN M a (some v))/\w.mapTurned w' b:=by
 obtain⟨es,c,hb,h2,h3,h4⟩:=h;rcases qL.find h2 h4 a with⟨h1,hn,hM⟩|⟨j,x,h1,hj,hx,hM⟩
 ·refine ⟨ChangeMaps.setBlock w b (.map (es.push ⟨.int .i64 a,v,c⟩) (c+1)),?_,⟨_,_,ChangeMaps.heap_setBlock_same hb _,Uk h2,stamped_push h3 hn,h4.push hn⟩,⟨_,_,_,_,hb,rfl⟩⟩
  simp[Instr.mapUpdate,run_underlying ht,MapKept.run_getObj_map hb,MapKept.run_checkKey hK (k:=.int .i64 a) rfl,MapKept.run_findKey hK h1,MapKept.run_setObj_map _ hb,Result.andThen,ChangeMaps.setBlock]
 ·have hj':es[j]?=some x:=by simpa using hj
  refine⟨ChangeMaps.setBlock w b (.map (es.modify j fun y=>{y with key:=.int .i64 a,val:=v}) c),?_,⟨_,_,ChangeMaps.heap_setBlock_same hb _,vT h3 h2 hj' (a:=a) rfl,ur h3 hj' (fun _=>rfl) hx.symm,vA.modify (f:=fun y=>{y with key:=.int .i64 a,val:=v}) h3 h4 hj' hx rfl⟩,⟨_,_,_,_,hb,rfl⟩⟩;simp[Instr.mapUpdate,run_underlying ht,MapKept.run_getObj_map hb,MapKept.run_checkKey hK (k:=.int .i64 a) rfl,MapKept.run_findKey hK h1,hj',hx,MapKept.run_keyThatStays (d:=.int .i64) (k:=.int .i64 a) rfl,MapKept.run_setObj_map _ hb,Result.andThen,ChangeMaps.setBlock]
theorem qL.drop (h:qL w b M) (hK:P.underlying K=some (.int .i64)) (ht:P.underlying t=some (.map K e)) (a:Int) (ty:TypeId):
  ∃w',(Builtin.delete_ #[t,K] ty #[.map (some b),.int .i64 a]).run P w=.ok (.tuple #[]) w'/\qL w' b (UN M a none)/\w.mapTurned w' b:=by
 obtain⟨es,c,hb,h2,h3,h4⟩:=h;rcases qL.find h2 h4 a with⟨h1,hn,hM⟩|⟨j,x,h1,hj,hx,hM⟩
 ·refine ⟨ChangeMaps.setBlock w b (.map es c),?_,⟨_,_,ChangeMaps.heap_setBlock_same hb _,h2,h3,?_⟩,⟨_,_,_,_,hb,rfl⟩⟩
  ·simp [Builtin.delete_,run_underlying ht,MapKept.run_getObj_map hb,MapKept.run_checkKey hK (k:=.int .i64 a) rfl,MapKept.run_findKey hK h1,MapKept.run_setObj_map _ hb,Result.andThen,ChangeMaps.setBlock]
  ·intro k u
   by_cases hk:k=a
   ·subst hk
    rw[xD];constructor
    ·intro hu;cases hu
    ·rintro ⟨y,hy,h5,-⟩
     exact absurd h5 (hn y hy)
   ·rw [qV hk];exact h4 k u
 ·have hjl:j < es.size:=by
   have:=(List.getElem?_eq_some_iff.1 hj).1;simpa using this
  have he:(es.eraseIdxIfInBounds j).toList=es.toList.eraseIdx j:=by
   unfold Array.eraseIdxIfInBounds;rw[dif_pos hjl];simp
  have hsub:List.Sublist (es.toList.eraseIdx j) es.toList:=List.eraseIdx_sublist _ _;refine⟨ChangeMaps.setBlock w b (.map (es.eraseIdxIfInBounds j) c),?_,⟨_,_,ChangeMaps.heap_setBlock_same hb _,?_,stamped_erase h3 j,?_⟩,⟨_,_,_,_,hb,rfl⟩⟩
  ·simp [Builtin.delete_,run_underlying ht,MapKept.run_getObj_map hb,MapKept.run_checkKey hK (k:=.int .i64 a) rfl,MapKept.run_findKey hK h1,MapKept.run_setObj_map _ hb,Result.andThen,ChangeMaps.setBlock]
  ·intro y hy
   rw[he] at hy;exact h2 y (hsub.subset hy)
  ·have hmem:∀y,y ∈ es.toList.eraseIdx j↔y ∈ es.toList/\y.key≠.int .i64 a:=by
    intro y;have hn:=h3.2.2;rw[List.mem_eraseIdx_iff_getElem?];constructor
    ·rintro ⟨i,hi,hy⟩
     refine⟨List.mem_of_getElem? hy,fun hk=>hi ?_⟩;have hil:j < (es.toList.map (·.key)).length:=by simpa using hjl
     refine((List.getElem?_inj hil hn).1 ?_).symm;rw[List.getElem?_map,List.getElem?_map,hy,hj];simp[hk,hx]
    ·rintro ⟨hy,hne⟩
     obtain⟨i,hi⟩:=List.mem_iff_getElem?.1 hy;refine⟨i,?_,hi⟩;rintro rfl;rw[hj] at hi;cases hi;exact hne hx
   intro k u;rw[he];by_cases hk:k=a
   ·subst hk
    rw[xD];constructor
    ·intro hu;cases hu
    ·rintro ⟨y,hy,h5,-⟩
     exact absurd h5 ((hmem y).1 hy).2
   ·rw [qV hk,h4]
    constructor
    ·rintro ⟨y,hy,h5,h6⟩
     exact⟨y,(hmem y).2 ⟨hy,by rw[h5];simpa using hk⟩,h5,h6⟩
    ·rintro ⟨y,hy,h5,h6⟩
     exact⟨y,((hmem y).1 hy).1,h5,h6⟩
theorem qL.entry (h:qL w b M) (hK:P.underlying K=some (.int .i64)) (ht:P.underlying t=some (.map K e)) {zv:Value} (hz:(zeroValue e).run P w=.ok zv w) (a:Int):
  ∃(w':World) (v:Value) (n:Int) (M':Int->Option Value),(Instr.mapEntry t (.map (some b)) (.int .i64 a)).run P w=.ok (.tuple #[v,.int .i64 n]) w'/\UC w' b M' a n/\(∀k,k≠a->M' k=M k)/\w.mapTurned w' b:=by
 obtain⟨es,c,hb,h2,h3,h4⟩:=h;rcases qL.find h2 h4 a with⟨h1,hn,hM⟩|⟨j,x,h1,hj,hx,hM⟩
 ·refine ⟨ChangeMaps.setBlock w b (.map (es.push ⟨.int .i64 a,zv,c⟩) (c+1)),zv,c,_,?_,⟨_,_,ChangeMaps.heap_setBlock_same hb _,Uk h2,stamped_push h3 hn,h4.push hn,⟨.int .i64 a,zv,c⟩,by simp,rfl,rfl⟩,fun k hk=>qV hk,⟨_,_,_,_,hb,rfl⟩⟩
  simp[Instr.mapEntry,run_underlying ht,MapKept.run_getObj_map hb,MapKept.run_checkKey hK (k:=.int .i64 a) rfl,MapKept.run_findKey hK h1,hz,MapKept.run_setObj_map _ hb,Result.andThen,ChangeMaps.setBlock,goInt]
 ·have hj':es[j]?=some x:=by simpa using hj
  refine⟨ChangeMaps.setBlock w b (.map (es.modify j fun y=>{y with key:=.int .i64 a}) c),x.val,x.born,_,?_,⟨_,_,ChangeMaps.heap_setBlock_same hb _,vT h3 h2 hj' (a:=a) rfl,ur h3 hj' (fun _=>rfl) hx.symm,vA.modify (f:=fun y=>{y with key:=.int .i64 a}) h3 h4 hj' hx rfl,_,(xU h3 hj' _ _).2 (.inl rfl),rfl,rfl⟩,fun k hk=>qV hk,⟨_,_,_,_,hb,rfl⟩⟩;simp[Instr.mapEntry,run_underlying ht,MapKept.run_getObj_map hb,MapKept.run_checkKey hK (k:=.int .i64 a) rfl,MapKept.run_findKey hK h1,hj',hx,MapKept.run_keyThatStays (d:=.int .i64) (k:=.int .i64 a) rfl,MapKept.run_setObj_map _ hb,Result.andThen,ChangeMaps.setBlock,goInt]
theorem UC.stored {a n:Int} (h:UC w b M a n) (v:Value):
  ∃w',(Instr.entryStore t (.map (some b)) (.int .i64 n) v).run P w=.ok () w'/\qL w' b (UN M a (some v))/\w.mapTurned w' b:=by
 obtain⟨es,c,hb,h2,h3,h4,x,hx,hk,hn⟩:=h;subst hn;obtain⟨j,hj⟩:=List.mem_iff_getElem?.1 hx;have hj':es[j]?=some x:=by simpa using hj
 have hjl:=(Array.getElem?_eq_some_iff.1 hj').1;have hf:es.findIdx? (fun y=>(y.born:Int)==x.born)=some j:=by
  rw[Array.findIdx?_eq_some_iff_getElem];obtain⟨hl,hv⟩:=Array.getElem?_eq_some_iff.1 hj';refine⟨hl,by simp[hv],fun i hi=>?_⟩;simp only[Bool.not_eq_true,beq_eq_false_iff_ne,ne_eq];intro he;have hil:i < (es.toList.map (·.born)).length:=by simp;omega
  have hii:es[i]?=some es[i]:=Array.getElem?_eq_getElem (by omega);have:=(List.getElem?_inj hil h3.2.1 (j:=j)).1 (by simp[hii,hj'];omega);omega
 refine⟨ChangeMaps.setBlock w b (.map (es.modify j fun y=>{y with val:=v}) c),?_,⟨_,_,ChangeMaps.heap_setBlock_same hb _,vT h3 h2 hj' (a:=a) hk,ur h3 hj' (fun _=>rfl) rfl,vA.modify (f:=fun y=>{y with val:=v}) h3 h4 hj' hk hk⟩,⟨_,_,_,_,hb,rfl⟩⟩;simp[Instr.entryStore,MapKept.run_getObj_map hb,asInt,asIntOf,hf,MapKept.run_setObj_map _ hb,Result.andThen,ChangeMaps.setBlock]
theorem qL.wp_store (h:qL w b M) (hK:P.underlying K=some (.int .i64)) (ht:P.underlying t=some (.map K e)) {a:Int} {v:Value}
  {o:Oper} {act:Act} {Q:Exit->Act->World->Prop} {K':Act->World->Prop} {m x y:Operand} (hop:o.op=Op.mapUpdate t m x y\/o.op=Op.insert t m x y) (hm:act.eval m=.map (some b)) (hx:act.eval x=.int .i64 a) (hy:act.eval y=v)
  (hQ:∀w',qL w' b (UN M a (some v))->w.mapTurned w' b->K' (act.put o.dst undef) w'):o.wp P act w K' Q:=by
 obtain⟨w',hrun,h1,h2⟩:=h.store hK ht a v;rcases hop with hop|hop <;>
 ·unfold Oper.wp
  simp only[execOp,hop,hm,hx,hy,Sem.run_bind,hrun,Result.andThen_ok,Sem.run_pure];exact hQ w' h1 h2
theorem qL.wpList_store (h:qL w b M) (hK:P.underlying K=some (.int .i64)) (ht:P.underlying t=some (.map K e)) {a:Int} {v:Value}
  {ops:Array Oper} {rest:List Oper} {o:Oper} {act:Act} {Q:Exit->Act->World->Prop} {m x y:Operand} (hg:o.guard=none) (hop:o.op=Op.mapUpdate t m x y\/o.op=Op.insert t m x y) (hm:act.eval m=.map (some b)) (hx:act.eval x=.int .i64 a) (hy:act.eval y=v)
  (hQ:∀w',qL w' b (UN M a (some v))->w.mapTurned w' b->wpList P ops Q rest (act.put o.dst undef) w'):wpList P ops Q (o::rest) act w:=
 wpList_plain hg fun _ hK'=>h.wp_store hK ht hop hm hx hy fun w' h1 h2=>hK' _ _ (hQ w' h1 h2)
theorem qL.wp_drop (h:qL w b M) (hK:P.underlying K=some (.int .i64)) (ht:P.underlying t=some (.map K e)) {a:Int}
  {o:Oper} {act:Act} {Q:Exit->Act->World->Prop} {K':Act->World->Prop} {m x:Operand} (hop:o.op=Op.call {callee:=Callee.builtin Builtin.delete,args:=#[m,x],argTypes:=#[t,K]}) (hm:act.eval m=.map (some b)) (hx:act.eval x=.int .i64 a)
  (hQ:∀w',qL w' b (UN M a none)->w.mapTurned w' b->K' (act.put o.dst (.tuple #[])) w'):o.wp P act w K' Q:=by
 obtain⟨w',hrun,r1,r2⟩:=h.drop hK ht a o.type;unfold Oper.wp;simp[execOp,hop,resolve,invoke,builtin,hm,hx,hrun,Result.andThen];exact hQ w' r1 r2
theorem qL.wp_entry (h:qL w b M) (hK:P.underlying K=some (.int .i64)) (ht:P.underlying t=some (.map K e)) {zv:Value} (hz:(zeroValue e).run P w=.ok zv w) {a:Int}
  {o:Oper} {act:Act} {Q:Exit->Act->World->Prop} {K':Act->World->Prop} {m x:Operand} (hop:o.op=Op.mapEntry t m x) (hm:act.eval m=.map (some b)) (hx:act.eval x=.int .i64 a)
  (hQ:∀(w':World) (v:Value) (n:Int) (M':Int->Option Value),UC w' b M' a n->(∀k,k≠a->M' k=M k)->w.mapTurned w' b->K' (act.put o.dst (.tuple #[v,.int .i64 n])) w'):o.wp P act w K' Q:=by
 obtain⟨w',v,n,M',hrun,h1,h2,h3⟩:=h.entry hK ht hz a;unfold Oper.wp;simp only[execOp,hop,hm,hx,Sem.run_bind,hrun,Result.andThen_ok,Sem.run_pure];exact hQ w' v n M' h1 h2 h3
theorem UC.wp_stored {a n:Int} (h:UC w b M a n) {v:Value}
  {o:Oper} {act:Act} {Q:Exit->Act->World->Prop} {K':Act->World->Prop} {m s y:Operand} (hop:o.op=Op.entryStore t m s y) (hm:act.eval m=.map (some b)) (hx:act.eval s=.int .i64 n) (hy:act.eval y=v)
  (hQ:∀w',qL w' b (UN M a (some v))->w.mapTurned w' b->K' (act.put o.dst undef) w'):o.wp P act w K' Q:=by
 obtain⟨w',hrun,h1,h2⟩:=h.stored (P:=P) (t:=t) v;unfold Oper.wp;simp only[execOp,hop,hm,hx,hy,Sem.run_bind,hrun,Result.andThen_ok,Sem.run_pure];exact hQ w' h1 h2
end
structure WT {β:Type} (P:Program) (K:TypeId) (κ:β->Value):Prop where
 inj:∀{x y:β},κ x=κ y->x=y
 keyed:Keyed P K
 ok:∀x,∃l,keyOf P K (κ x)=some l
section
variable {β:Type} {κ:β->Value} {P:Program} {K t e:TypeId} {w w':World} {b:Nat} {M:β->Option Value}
def vu (κ:β->Value) (es:Array MapEntry) (M:β->Option Value):Prop:=∀k v,M k=some v↔∃x ∈ es.toList,x.key=κ k/\x.val=v
def yM (κ:β->Value) (w:World) (b:Nat) (M:β->Option Value):Prop:=
 ∃(es:Array MapEntry) (c:Nat),w.heap[b]?=some (.map es c)/\(∀x ∈ es.toList,∃k:β,x.key=κ k)/\Stamped es c/\vu κ es M
open Classical in
noncomputable def Jr (M:β->Option Value) (a:β) (v:Option Value):β->Option Value:=fun k=>if k=a then v else M k
theorem uK {a:β} {v:Option Value}:Jr M a v a=v:=by simp[Jr]
theorem Xg {a k:β} {v:Option Value} (h:k≠a):Jr M a v k=M k:=by simp[Jr,h]
theorem yM.lt (h:yM κ w b M):b < w.heap.size:=by
 obtain⟨es,c,hb,-⟩:=h;exact(Array.getElem?_eq_some_iff.1 hb).1
theorem yM.isMap (h:yM κ w b M):∃es c,w.heap[b]?=some (.map es c):=let ⟨es,c,hb,_⟩:=h;⟨es,c,hb⟩
theorem yM.obj (h:yM κ w b M) (hw:w'.heap[b]?=w.heap[b]?):yM κ w' b M:=by
 obtain⟨es,c,hb,h⟩:=h;exact⟨es,c,hw.trans hb,h⟩
theorem yM.drew (h:yM κ w b M):yM κ w.drew b M:=h
theorem yM.made (h:w.heap[b]?=some (.map #[] 0)):yM κ w b (fun _=>none):=⟨#[],0,h,by simp,stamped_empty 0,by intro k v;simp⟩
theorem yM.fun {N:β->Option Value} (h:yM κ w b M) (hN:∀k,N k=M k):yM κ w b N:=by
 obtain⟨es,c,h1,h2,h3,h4⟩:=h;exact⟨es,c,h1,h2,h3,fun k v=>by rw[hN];exact h4 k v⟩
theorem yM.find (T:WT P K κ) {es:Array MapEntry} (h2:∀x ∈ es.toList,∃k:β,x.key=κ k) (h4:vu κ es M) (w:World) (a:β):
  ((Instr.findKey K (κ a) es.toList).run P w=.ok none w/\(∀x ∈ es.toList,x.key≠κ a)/\M a=none)\/∃j x,(Instr.findKey K (κ a) es.toList).run P w=.ok (some (j,x.val)) w/\es.toList[j]?=some x/\x.key=κ a/\M a=some x.val:=by
 obtain⟨la,ha⟩:=T.ok a;rcases T.keyed.find w ha es.toList (fun x hx=>by
  obtain⟨k,hk⟩:=h2 x hx;rw[hk];exact T.ok k) with⟨h1,hn⟩|⟨j,x,h1,hj,hx⟩
 ·refine .inl ⟨h1,hn,?_⟩
  cases hM:M a with
  |none=>rfl
  |some v=>
   obtain⟨x,hx,hk,-⟩:=(h4 a v).1 hM;exact absurd hk (hn x hx)
 ·exact .inr ⟨j,x,h1,hj,hx,(h4 a x.val).2 ⟨x,List.mem_of_getElem? hj,hx,rfl⟩⟩
theorem yM.look (T:WT P K κ) (h:yM κ w b M) (ht:P.underlying t=some (.map K e)) {zv:Value} (hz:(zeroValue e).run P w=.ok zv w) (a:β) {r:Option Value} (hr:M a=r):
  (Instr.lookup t (.map (some b)) (κ a) false).run P w=.ok (r.getD zv) w/\(Instr.lookup t (.map (some b)) (κ a) true).run P w=.ok (.tuple #[r.getD zv,.bool r.isSome]) w:=by
 obtain⟨es,c,hb,h2,h3,h4⟩:=h;obtain⟨la,ha⟩:=T.ok a;rcases yM.find T h2 h4 w a with⟨h1,-,hM⟩|⟨j,x,h1,-,-,hM⟩ <;>
 ·rw [hM] at hr
  subst hr;constructor <;> simp[Instr.lookup,run_underlying ht,MapKept.run_getObj_map hb,T.keyed.check w _ ha,h1,hz,Result.andThen]
theorem KA {es:Array MapEntry} {a:β} {v:Value} {c:Nat} (h2:∀x ∈ es.toList,∃k:β,x.key=κ k):∀x ∈ (es.push ⟨κ a,v,c⟩).toList,∃k:β,x.key=κ k:=by
 intro y hy;simp only[Array.toList_push,List.mem_append,List.mem_singleton] at hy;rcases hy with hy|rfl
 ·exact h2 y hy
 ·exact ⟨a,rfl⟩
theorem vu.push (T:WT P K κ) {es:Array MapEntry} (h4:vu κ es M) {a:β} {v:Value} {c:Nat} (hn:∀x ∈ es.toList,x.key≠κ a):vu κ (es.push ⟨κ a,v,c⟩) (Jr M a (some v)):=by
 intro k u;simp only[Array.toList_push,List.mem_append,List.mem_singleton];by_cases hk:k=a
 ·subst hk
  rw[uK];constructor
  ·intro hu
   cases hu;exact⟨_,.inr rfl,rfl,rfl⟩
  ·rintro ⟨y,hy|rfl,h5,h6⟩
   ·exact absurd h5 (hn y hy)
   ·simpa using h6
 ·rw [Xg hk,h4]
  constructor
  ·rintro ⟨y,hy,h5⟩
   exact⟨y,.inl hy,h5⟩
  ·rintro ⟨y,hy|rfl,h5,h6⟩
   ·exact ⟨y,hy,h5,h6⟩
   ·exact absurd (T.inj h5).symm hk
theorem UZ {es:Array MapEntry} {c:Nat} (hs:Stamped es c) (h2:∀x ∈ es.toList,∃k:β,x.key=κ k) {j:Nat} {x:MapEntry} (hj:es[j]?=some x) {f:MapEntry->MapEntry} {a:β} (hf:(f x).key=κ a):∀y ∈ (es.modify j f).toList,∃k:β,y.key=κ k:=by
 intro y hy;rcases(xU hs hj f y).1 hy with rfl|⟨hy,-⟩
 ·exact ⟨a,hf⟩
 ·exact h2 y hy
theorem vu.modify (T:WT P K κ) {es:Array MapEntry} {c:Nat} (hs:Stamped es c) (h4:vu κ es M) {j:Nat} {x:MapEntry} (hj:es[j]?=some x) {f:MapEntry->MapEntry} {a:β} (hx:x.key=κ a) (hf:(f x).key=κ a):vu κ (es.modify j f) (Jr M a (some (f x).val)):=by
 intro k u;by_cases hk:k=a
 ·subst hk
  rw[uK];constructor
  ·intro hu
   cases hu;exact⟨_,(xU hs hj f _).2 (.inl rfl),hf,rfl⟩
  ·rintro ⟨y,hy,h5,h6⟩
   rcases(xU hs hj f y).1 hy with rfl|⟨-,hne⟩
   ·rw [h6]
   ·exact absurd (h5.trans hx.symm) hne
 ·rw [Xg hk,h4]
  constructor
  ·rintro ⟨y,hy,h5,h6⟩
   exact⟨y,(xU hs hj f y).2 (.inr ⟨hy,by rw[h5,hx];exact fun e=>hk (T.inj e)⟩),h5,h6⟩
  ·rintro ⟨y,hy,h5,h6⟩
   rcases(xU hs hj f y).1 hy with rfl|⟨hy,-⟩
   ·rw [hf] at h5
    exact absurd (T.inj h5).symm hk
   ·exact ⟨y,hy,h5,h6⟩
theorem yM.store (T:WT P K κ) (h:yM κ w b M) (ht:P.underlying t=some (.map K e)) (a:β) (v:Value):
  ∃w',(Instr.mapUpdate t (.map (some b)) (κ a) v).run P w=.ok () w'/\yM κ w' b (Jr M a (some v))/\w.mapTurned w' b:=by
 obtain⟨es,c,hb,h2,h3,h4⟩:=h;obtain⟨la,ha⟩:=T.ok a;rcases yM.find T h2 h4 w a with⟨h1,hn,hM⟩|⟨j,x,h1,hj,hx,hM⟩
 ·refine ⟨ChangeMaps.setBlock w b (.map (es.push ⟨κ a,v,c⟩) (c+1)),?_,⟨_,_,ChangeMaps.heap_setBlock_same hb _,KA h2,stamped_push h3 hn,h4.push T hn⟩,⟨_,_,_,_,hb,rfl⟩⟩
  simp[Instr.mapUpdate,run_underlying ht,MapKept.run_getObj_map hb,T.keyed.check w _ ha,h1,MapKept.run_setObj_map _ hb,Result.andThen,ChangeMaps.setBlock]
 ·have hj':es[j]?=some x:=by simpa using hj
  refine⟨ChangeMaps.setBlock w b (.map (es.modify j fun y=>{y with key:=κ a,val:=v}) c),?_,⟨_,_,ChangeMaps.heap_setBlock_same hb _,UZ h3 h2 hj' (a:=a) rfl,ur h3 hj' (fun _=>rfl) hx.symm,vu.modify (f:=fun y=>{y with key:=κ a,val:=v}) T h3 h4 hj' hx rfl⟩,⟨_,_,_,_,hb,rfl⟩⟩;simp[Instr.mapUpdate,run_underlying ht,MapKept.run_getObj_map hb,T.keyed.check w _ ha,h1,hj',hx,T.keyed.stays w ha,MapKept.run_setObj_map _ hb,Result.andThen,ChangeMaps.setBlock]
theorem yM.wp_store (T:WT P K κ) (h:yM κ w b M) (ht:P.underlying t=some (.map K e)) {a:β} {v:Value}
  {o:Oper} {act:Act} {Q:Exit->Act->World->Prop} {K':Act->World->Prop} {m x y:Operand} (hop:o.op=Op.mapUpdate t m x y) (hm:act.eval m=.map (some b)) (hx:act.eval x=κ a) (hy:act.eval y=v)
  (hQ:∀w',yM κ w' b (Jr M a (some v))->w.mapTurned w' b->K' (act.put o.dst undef) w'):o.wp P act w K' Q:=by
 obtain⟨w',hrun,h1,h2⟩:=h.store T ht a v;unfold Oper.wp;simp only[execOp,hop,hm,hx,hy,Sem.run_bind,hrun,Result.andThen_ok,Sem.run_pure];exact hQ w' h1 h2
theorem yM.wpList_store (T:WT P K κ) (h:yM κ w b M) (ht:P.underlying t=some (.map K e)) {a:β} {v:Value}
  {ops:Array Oper} {rest:List Oper} {o:Oper} {act:Act} {Q:Exit->Act->World->Prop} {m x y:Operand} (hg:o.guard=none) (hop:o.op=Op.mapUpdate t m x y) (hm:act.eval m=.map (some b)) (hx:act.eval x=κ a) (hy:act.eval y=v)
  (hQ:∀w',yM κ w' b (Jr M a (some v))->w.mapTurned w' b->wpList P ops Q rest (act.put o.dst undef) w'):wpList P ops Q (o::rest) act w:=
 wpList_plain hg fun _ hK'=>h.wp_store T ht hop hm hx hy fun w' h1 h2=>hK' _ _ (hQ w' h1 h2)
end
def Ck:Type:={c:Int×Int // dI c.1/\dI c.2}
def YH (o v:Int) (h:dI o/\dI v):Ck:=⟨(o,v),h⟩
theorem jv (o v:Int) (h:dI o/\dI v):(YH o v h).1=(o,v):=rfl
def YG (c:Ck):Value:=.agg #[.int .i64 c.1.1,.int .i64 c.1.2]
theorem NH:laidOutB Tryz.prog=true:=by kernel_rfl
theorem KV:Keyed Tryz.prog 157:=Keyed.of_law (deep_law_laid NH (m:=3) (by omega) (by decide+kernel) (by kernel_rfl) (by kernel_rfl))
theorem Vz:∃m,Tryz.prog.types.size=m+1+1:=⟨Tryz.prog.types.size - 2,by kernel_rfl⟩
theorem ck_ok (c:Ck):∃l,keyOf Tryz.prog 157 (YG c)=some l:=by
 obtain⟨⟨o,v⟩,ho,hv⟩:=c;have ho:(Lit.int .i64 o).wf=true:=ho;have hv:(Lit.int .i64 v).wf=true:=hv;obtain⟨k,hk⟩:=Vz;have h1:Tryz.prog.keyType 157=true:=by kernel_rfl
 have h2:(YG ⟨(o,v),ho,hv⟩:Value).formed Tryz.prog 157=true:=by kernel_rfl
 have h3:Tryz.prog.cellsOf 157=2:=by kernel_rfl
 have h4:Tryz.prog.cellsOf 3=1:=by kernel_rfl
 unfold keyOf;rw[Tryz.underlying157];simp only;rw[if_pos (by rw[h1,h2];rfl),hk];simp[Program.keyLits,Tryz.underlying157,Tryz.underlying3,h3,h4,YG,Value.cells,ho,hv]
theorem ck_inj {x y:Ck} (h:YG x=YG y):x=y:=by
 obtain⟨⟨o,v⟩,hx⟩:=x;obtain⟨⟨p,u⟩,hy⟩:=y;simp only[YG,Value.agg.injEq,Array.mk.injEq,List.cons.injEq,Value.int.injEq,true_and,and_true] at h;obtain⟨rfl,rfl⟩:=h;rfl
theorem ck:WT Tryz.prog 157 YG:=⟨ck_inj,KV,ck_ok⟩
theorem YU (w:World):(zeroValue 4).run Tryz.prog w=.ok (.bool false) w:=by kernel_rfl
def jK (w:World) (b:Nat) (l:List (Int×Int)):Prop:=∃M,yM YG w b M/\∀c:Ck,(M c).getD (.bool false)=.bool (decide (c.1 ∈ l))
def zi (w:World) (b:Nat) (l:List Int):Prop:=∃M,qL w b M/\∀k:Int,(M k).getD (.bool false)=.bool (decide (k ∈ l))
section
variable {w w':World} {b:Nat} {l:List (Int×Int)} {rd:List Int}
theorem jK.obj (h:jK w b l) (hw:w'.heap[b]?=w.heap[b]?):jK w' b l:=let ⟨M,h1,h2⟩:=h;⟨M,h1.obj hw,h2⟩
theorem jK.lt (h:jK w b l):b < w.heap.size:=let ⟨M,h1,h2⟩:=h;h1.lt
theorem jK.made (h:w.heap[b]?=some (.map #[] 0)):jK w b []:=⟨_,yM.made h,fun c=>by simp⟩
theorem jK.look (h:jK w b l) (c:Ck):(Instr.lookup 180 (.map (some b)) (YG c) false).run Tryz.prog w=.ok (.bool (decide (c.1 ∈ l))) w:=by
 obtain⟨M,h1,h2⟩:=h;have:=(h1.look ck Tryz.underlying180 (YU w) c rfl).1;rw[h2] at this;exact this
theorem jK.put {M:Ck->Option Value} {c:Ck} (h:yM YG w' b (Jr M c (some (.bool true)))) (h2:∀c:Ck,(M c).getD (.bool false)=.bool (decide (c.1 ∈ l))):jK w' b (c.1::l):=by
 refine⟨_,h,fun k=>?_⟩;by_cases e:k=c
 ·subst e;rw[uK];simp
 ·rw [Xg e,h2]
  have:k.1≠c.1:=fun h=>e (Subtype.ext h);simp[this]
theorem zi.obj (h:zi w b rd) (hw:w'.heap[b]?=w.heap[b]?):zi w' b rd:=let ⟨M,h1,h2⟩:=h;⟨M,h1.obj hw,h2⟩
theorem zi.lt (h:zi w b rd):b < w.heap.size:=let ⟨M,h1,h2⟩:=h;h1.lt
theorem zi.made (h:w.heap[b]?=some (.map #[] 0)):zi w b []:=⟨_,qL.made h,fun c=>by simp⟩
theorem zi.look (h:zi w b rd) (a:Int):(Instr.lookup 102 (.map (some b)) (.int .i64 a) false).run Tryz.prog w=.ok (.bool (decide (a ∈ rd))) w:=by
 obtain⟨M,h1,h2⟩:=h;have:=(h1.look Tryz.underlying3 Tryz.underlying102 (YU w) a rfl).1;rw[h2] at this;exact this
theorem zi.put {M:Int->Option Value} {a:Int} {x:Bool} {rd':List Int} (h:qL w' b (UN M a (some (.bool x)))) (h2:∀k:Int,(M k).getD (.bool false)=.bool (decide (k ∈ rd))) (hx:x=decide (a ∈ rd')) (hr:∀k,k≠a->(k ∈ rd'↔k ∈ rd)):zi w' b rd':=by
 refine⟨_,h,fun k=>?_⟩;by_cases e:k=a
 ·subst e;rw[xD,hx];rfl
 ·rw [qV e,h2]
  simp[hr k e]
end
section
attribute [local irreducible] xL
structure Fd where
 f:FuncId
 tb:Int
 lo:Int
 hi:Int
def Fd.cells (x:Fd):List Value:=[.func (.func x.f) #[] #[],.int .i64 x.tb,.int .i64 x.lo,.int .i64 x.hi]
abbrev Fd.val (x:Fd):Value:=.agg #[.func (.func x.f) #[] #[],.int .i64 x.tb,.int .i64 x.lo,.int .i64 x.hi]
theorem Fd.len (x:Fd):x.cells.length=4:=rfl
theorem Zz:(Tryz.prog.info? 260).map (fun i=>(i.zero,i.size,i.bytes))=some (some (.agg #[.nilFunc,.int .i64 0,.int .i64 0,.int .i64 0]),4,32):=by kernel_rfl
def qB:Fd:=⟨214,0,1,1000⟩
theorem KQ (w:World):Calls Tryz.prog 181 #[] w fun e w'=>e=.returned qB.val/\Below w.heap.size w w':=by
 have hb:=(Below.refl w.heap.size w).alloc (Nat.le_refl _) (.cells #[.nilFunc,.int .i64 0,.int .i64 0,.int .i64 0] 260);go_enter Tryz.func181,Tryz.ntmps181;go_wp2;refine bodyPost_ret (v:=qB.val) (by simp[results,Tryz.results181,go_sem,qB]) rfl ⟨rfl,?_⟩;exact(Below.refl w.heap.size w).alloc (Nat.le_refl _) _
theorem e_tx1 (b:Nat) (w:World):Calls Tryz.prog 214 #[.pointer (some ⟨b,0,none⟩)] w fun e w'=>e=.returned (.pointer (some ⟨b,1,none⟩))/\w'=w:=by
 go_enter Tryz.func214,Tryz.ntmps214;go_wp2;go_ret;exact⟨rfl,rfl⟩
def xm:Fd:=⟨215,0,0,7⟩
theorem ZP (w:World):Calls Tryz.prog 182 #[] w fun e w'=>e=.returned xm.val/\Below w.heap.size w w':=by
 have hb:=(Below.refl w.heap.size w).alloc (Nat.le_refl _) (.cells #[.nilFunc,.int .i64 0,.int .i64 0,.int .i64 0] 260);go_enter Tryz.func182,Tryz.ntmps182;go_wp2;refine bodyPost_ret (v:=xm.val) (by simp[results,Tryz.results182,go_sem,xm]) rfl ⟨rfl,?_⟩;exact(Below.refl w.heap.size w).alloc (Nat.le_refl _) _
theorem NX (b:Nat) (w:World):Calls Tryz.prog 215 #[.pointer (some ⟨b,0,none⟩)] w fun e w'=>e=.returned (.pointer (some ⟨b,2,none⟩))/\w'=w:=by
 go_enter Tryz.func215,Tryz.ntmps215;go_wp2;go_ret;exact⟨rfl,rfl⟩
def xW:Fd:=⟨216,0,0,7⟩
theorem e_obj (w:World):Calls Tryz.prog 184 #[] w fun e w'=>e=.returned xW.val/\Below w.heap.size w w':=by
 have hb:=(Below.refl w.heap.size w).alloc (Nat.le_refl _) (.cells #[.nilFunc,.int .i64 0,.int .i64 0,.int .i64 0] 260);go_enter Tryz.func184,Tryz.ntmps184;go_wp2;refine bodyPost_ret (v:=xW.val) (by simp[results,Tryz.results184,go_sem,xW]) rfl ⟨rfl,?_⟩;exact(Below.refl w.heap.size w).alloc (Nat.le_refl _) _
theorem e_obj1 (b:Nat) (w:World):Calls Tryz.prog 216 #[.pointer (some ⟨b,0,none⟩)] w fun e w'=>e=.returned (.pointer (some ⟨b,3,none⟩))/\w'=w:=by
 go_enter Tryz.func216,Tryz.ntmps216;go_wp2;go_ret;exact⟨rfl,rfl⟩
def yu:Fd:=⟨217,3,1,9⟩
theorem e_op (w:World):Calls Tryz.prog 185 #[] w fun e w'=>e=.returned yu.val/\Below w.heap.size w w':=by
 have hb:=(Below.refl w.heap.size w).alloc (Nat.le_refl _) (.cells #[.nilFunc,.int .i64 0,.int .i64 0,.int .i64 0] 260);go_enter Tryz.func185,Tryz.ntmps185;go_wp2;refine bodyPost_ret (v:=yu.val) (by simp[results,Tryz.results185,go_sem,yu]) rfl ⟨rfl,?_⟩;exact(Below.refl w.heap.size w).alloc (Nat.le_refl _) _
theorem e_op1 (b:Nat) (w:World):Calls Tryz.prog 217 #[.pointer (some ⟨b,0,none⟩)] w fun e w'=>e=.returned (.pointer (some ⟨b,4,none⟩))/\w'=w:=by
 go_enter Tryz.func217,Tryz.ntmps217;go_wp2;go_ret;exact⟨rfl,rfl⟩
def jV:Fd:=⟨219,0,(-1000000000),1000000000⟩
theorem e_val (w:World):Calls Tryz.prog 187 #[] w fun e w'=>e=.returned jV.val/\Below w.heap.size w w':=by
 have hb:=(Below.refl w.heap.size w).alloc (Nat.le_refl _) (.cells #[.nilFunc,.int .i64 0,.int .i64 0,.int .i64 0] 260);go_enter Tryz.func187,Tryz.ntmps187;go_wp2;refine bodyPost_ret (v:=jV.val) (by simp[results,Tryz.results187,go_sem,jV]) rfl ⟨rfl,?_⟩;exact(Below.refl w.heap.size w).alloc (Nat.le_refl _) _
theorem e_val1 (b:Nat) (w:World):Calls Tryz.prog 219 #[.pointer (some ⟨b,0,none⟩)] w fun e w'=>e=.returned (.pointer (some ⟨b,6,none⟩))/\w'=w:=by
 go_enter Tryz.func219,Tryz.ntmps219;go_wp2;go_ret;exact⟨rfl,rfl⟩
def qO:Fd:=⟨220,4,1,3⟩
theorem e_ret (w:World):Calls Tryz.prog 189 #[] w fun e w'=>e=.returned qO.val/\Below w.heap.size w w':=by
 have hb:=(Below.refl w.heap.size w).alloc (Nat.le_refl _) (.cells #[.nilFunc,.int .i64 0,.int .i64 0,.int .i64 0] 260);go_enter Tryz.func189,Tryz.ntmps189;go_wp2;refine bodyPost_ret (v:=qO.val) (by simp[results,Tryz.results189,go_sem,qO]) rfl ⟨rfl,?_⟩;exact(Below.refl w.heap.size w).alloc (Nat.le_refl _) _
theorem e_ret1 (b:Nat) (w:World):Calls Tryz.prog 220 #[.pointer (some ⟨b,0,none⟩)] w fun e w'=>e=.returned (.pointer (some ⟨b,7,none⟩))/\w'=w:=by
 go_enter Tryz.func220,Tryz.ntmps220;go_wp2;go_ret;exact⟨rfl,rfl⟩
theorem ju (v:Value) (hv:∃a n c,v=.slice a n c) (w:World):Calls Tryz.prog 179 #[v] w fun e w'=>e=.returned (.func (.func 180) #[] #[.pointer (some ⟨w.heap.size,0,none⟩)])/\w'=w.alloc (.cells #[v] 304):=by
 obtain⟨a,n,c,rfl⟩:=hv;go_enter Tryz.func179,Tryz.ntmps179;go_wp2;go_ret;exact⟨rfl,rfl⟩
theorem e_Of (k:Int) (hk:k=1\/k=2) (w:World):Calls Tryz.prog 82 #[.int .i64 k] w fun e w'=>e=.returned (.int .i64 1)/\w'=w:=by
 rcases hk with rfl|rfl <;>
 ·go_enter Tryz.func82,Tryz.ntmps82
  go_wp2;go_ret;exact⟨rfl,rfl⟩
theorem e_Keyed (k:Int) (hk:k=1\/k=2) (w:World):Calls Tryz.prog 88 #[.int .i64 k] w fun e w'=>e=.returned (.bool false)/\w'=w:=by
 rcases hk with rfl|rfl <;>
 ·go_enter Tryz.func88,Tryz.ntmps88
  go_wp2;go_ret;exact⟨rfl,rfl⟩
theorem e_Valued (k:Int) (hk:k=1\/k=2) (w:World):Calls Tryz.prog 89 #[.int .i64 k] w fun e w'=>e=.returned (.bool (k==2))/\w'=w:=by
 rcases hk with rfl|rfl <;>
 ·go_enter Tryz.func89,Tryz.ntmps89
  go_wp2;go_ret;exact⟨rfl,rfl⟩
end
section
attribute [local irreducible] xL
abbrev fdZ:Value:=.agg #[.nilFunc,.int .i64 0,.int .i64 0,.int .i64 0]
def zE (l:List Fd) (i:Nat) (w:World) (e:Ending) (w':World):Prop:=e=.returned (match l[i]? with|some x=>.tuple #[x.val,.bool true]|none=>.tuple #[fdZ,.bool false])/\Below w.heap.size w w'
section
variable {w:World}
theorem vY (x:Ev) (i:Nat) (hi:i<=100) (b:Nat) (v:Value) (l:List Fd) (h:w.heap[b]?=some (.cells #[v] 304 (0,0))) (hs:Sl w w.heap.size 4 v l.length (l.flatMap Fd.cells)):
  Calls Tryz.prog 180 #[Ql x,.int .i64 i,.pointer (some ⟨b,0,none⟩)] w (zE l i w):=by
 obtain⟨a,c,rfl,-⟩:=hs.ex;have d0:=qa h 0;have lb:=qe h;have B0:=qd (((Below.refl w.heap.size w).alloc (Nat.le_refl _) (.cells #[.int .i64 x.kind,.int .i64 x.tx,.int .i64 x.thread,.int .i64 x.obj,.int .i64 x.op,.int .i64 x.key,.int .i64 x.val,.int .i64 x.ret] 69)));by_cases hlt:i < l.length
 ·obtain ⟨g,off,y,rfl,hg,hy,hc⟩:=hs.atF Fd.len rfl hlt
  have c0:w.cell? ⟨g,off+i*4,none⟩=some (.func (.func y.f) #[] #[]):=hc 0 (by decide);have c1:w.cell? ⟨g,off+i*4+1,none⟩=some (.int .i64 y.tb):=hc 1 (by decide);have c2:w.cell? ⟨g,off+i*4+2,none⟩=some (.int .i64 y.lo):=hc 2 (by decide);have c3:w.cell? ⟨g,off+i*4+3,none⟩=some (.int .i64 y.hi):=hc 3 (by decide);unfold zE;rw[hy];clear hs hc hy h;generalize l.length=n at *;go_enter Tryz.func180,Tryz.ntmps180;go_wp2;refine bodyPost_ret (v:=.tuple #[y.val,.bool true]) (by simp[results,Tryz.results180,go_sem]) rfl ⟨rfl,?_⟩;exact B0.o.alloc (by simp) _
 ·have hn:l[i]?=none:=List.getElem?_eq_none (by omega)
  unfold zE;rw[hn];clear hs h;generalize l.length=n at *;go_enter Tryz.func180,Tryz.ntmps180;go_wp2;refine bodyPost_ret (v:=.tuple #[fdZ,.bool false]) (by simp[results,Tryz.results180,go_sem]) rfl ⟨rfl,?_⟩;exact B0.o.alloc (by simp) _
end
theorem Me {w:World} {b i:Nat} {s:ByteArray} (hi:i < 3) (h:w.heap[b]?=some (.cells #[.int .i64 i] 3 (0,0))) (hs:w.cell? ⟨21,i,none⟩=some (.string s)) (hl:21 < w.heap.size):Calls Tryz.prog 211 #[.pointer (some ⟨b,0,none⟩)] w fun e w'=>e=.returned (.string s)/\w'=w:=by
 have d0:=qa h 0;have lb:=qe h;have q1:decide ((i:Int) < 0)=false:=by simp
 have q2:decide ((3:Int)<=i)=false:=by simp;omega
 have q3:decide ((i:Int)>=3)=false:=by simp;omega
 have q4:decide (3<=i)=false:=by simp;omega
 clear h;go_enter Tryz.func211,Tryz.ntmps211;go_wp2;go_ret;exact⟨rfl,rfl⟩
theorem Md {w:World} {b i:Nat} {s:ByteArray} (hi:i < 3) (h:w.heap[b]?=some (.cells #[.int .i64 i] 3 (0,0))) (hs:w.cell? ⟨21,i,none⟩=some (.string s)) (hl:21 < w.heap.size):Calls Tryz.prog 207 #[.int .i64 i,.int .i64 3,.func (.func 211) #[] #[.pointer (some ⟨b,0,none⟩)]] w fun e w'=>e=.returned (.tuple #[.string s,.int .i64 3])/\w'=w:=by
 have q1:decide ((i:Int) < 0)=false:=by simp
 have q3:decide ((i:Int)>=3)=false:=by simp;omega
 have HC:=qd (Me hi h hs hl);clear h hs;go_enter Tryz.func207,Tryz.ntmps207;go_wp2_with fail;refine(HC.o).mono ?_;rintro e w1 ⟨rfl,rfl⟩;go_wp2
 go_ret2
 exact⟨rfl,rfl⟩
theorem Mc {w:World} {i:Nat} {s:ByteArray} (hi:i < 3) (hs:w.cell? ⟨21,i,none⟩=some (.string s)) (hl:21 < w.heap.size):Calls Tryz.prog 178 #[.int .i64 4,.int .i64 i] w fun e w'=>e=.returned (.tuple #[.string s,.int .i64 3])/\Below w.heap.size w w':=by
 have b0:Below w.heap.size w (w.alloc (.cells #[.int .i64 i] 3)):=(Below.refl _ w).alloc (Nat.le_refl _) _;have HC:=qd (Md hi (qs w (.cells #[.int .i64 i] 3)) (qp b0 hl hs) (by simp;omega));have B0:=qd b0;clear b0 hs;go_enter Tryz.func178,Tryz.ntmps178;go_wp2_with fail;refine(HC.o).mono ?_;rintro e w1 ⟨rfl,rfl⟩;go_wp2
 go_ret2
 exact⟨rfl,B0.o⟩
theorem ZR {w:World} {i:Nat} {s:ByteArray} (hi:i < 3) (hs:w.cell? ⟨21,i,none⟩=some (.string s)) (hl:21 < w.heap.size):Calls Tryz.prog 130 #[.int .i64 4,.int .i64 ((i:Int)+1)] w fun e w'=>e=.returned (.string s)/\Below w.heap.size w w':=by
 have q1:max ((i:Int)+1) 0=(i:Int)+1:=by omega
 have q2:wrap64 ((i:Int)+1 - 1)=(i:Int):=by rw[IntWalk.wrap64_in _ (by omega)];omega
 have q3:decide ((i:Int)+1 < 0)=false:=by simp <;> omega
 have q4:decide (0 < (i:Int)+1)=true:=by simp <;> omega
 have HC:=qd (Mc hi hs hl);clear hs;go_enter Tryz.func130,Tryz.ntmps130;go_wp2_with fail;refine(HC.o).mono ?_;rintro e w1 ⟨rfl,hb⟩;have HB:=qd hb;clear hb;go_wp2;go_ret;exact⟨rfl,HB.o⟩
theorem Ma {w:World} {b i:Nat} {s:ByteArray} (hi:i < 4) (h:w.heap[b]?=some (.cells #[.int .i64 i] 3 (0,0))) (hs:w.cell? ⟨18,i,none⟩=some (.string s)) (hl:18 < w.heap.size):Calls Tryz.prog 208 #[.pointer (some ⟨b,0,none⟩)] w fun e w'=>e=.returned (.string s)/\w'=w:=by
 have d0:=qa h 0;have lb:=qe h;have q1:decide ((i:Int) < 0)=false:=by simp
 have q2:decide ((4:Int)<=i)=false:=by simp;omega
 have q3:decide ((i:Int)>=4)=false:=by simp;omega
 have q4:decide (4<=i)=false:=by simp;omega
 clear h;go_enter Tryz.func208,Tryz.ntmps208;go_wp2;go_ret;exact⟨rfl,rfl⟩
theorem NZ {w:World} {b i:Nat} {s:ByteArray} (hi:i < 4) (h:w.heap[b]?=some (.cells #[.int .i64 i] 3 (0,0))) (hs:w.cell? ⟨18,i,none⟩=some (.string s)) (hl:18 < w.heap.size):Calls Tryz.prog 207 #[.int .i64 i,.int .i64 4,.func (.func 208) #[] #[.pointer (some ⟨b,0,none⟩)]] w fun e w'=>e=.returned (.tuple #[.string s,.int .i64 4])/\w'=w:=by
 have q1:decide ((i:Int) < 0)=false:=by simp
 have q3:decide ((i:Int)>=4)=false:=by simp;omega
 have HC:=qd (Ma hi h hs hl);clear h hs;go_enter Tryz.func207,Tryz.ntmps207;go_wp2_with fail;refine(HC.o).mono ?_;rintro e w1 ⟨rfl,rfl⟩;go_wp2
 go_ret2
 exact⟨rfl,rfl⟩
theorem NY {w:World} {i:Nat} {s:ByteArray} (hi:i < 4) (hs:w.cell? ⟨18,i,none⟩=some (.string s)) (hl:18 < w.heap.size):Calls Tryz.prog 178 #[.int .i64 1,.int .i64 i] w fun e w'=>e=.returned (.tuple #[.string s,.int .i64 4])/\Below w.heap.size w w':=by
 have b0:Below w.heap.size w (w.alloc (.cells #[.int .i64 i] 3)):=(Below.refl _ w).alloc (Nat.le_refl _) _;have HC:=qd (NZ hi (qs w (.cells #[.int .i64 i] 3)) (qp b0 hl hs) (by simp;omega));have B0:=qd b0;clear b0 hs;go_enter Tryz.func178,Tryz.ntmps178;go_wp2_with fail;refine(HC.o).mono ?_;rintro e w1 ⟨rfl,rfl⟩;go_wp2
 go_ret2
 exact⟨rfl,B0.o⟩
theorem XE {w:World} {i:Nat} {s:ByteArray} (hi:i < 4) (hs:w.cell? ⟨18,i,none⟩=some (.string s)) (hl:18 < w.heap.size):Calls Tryz.prog 130 #[.int .i64 1,.int .i64 ((i:Int)+1)] w fun e w'=>e=.returned (.string s)/\Below w.heap.size w w':=by
 have q1:max ((i:Int)+1) 0=(i:Int)+1:=by omega
 have q2:wrap64 ((i:Int)+1 - 1)=(i:Int):=by rw[IntWalk.wrap64_in _ (by omega)];omega
 have q3:decide ((i:Int)+1 < 0)=false:=by simp <;> omega
 have q4:decide (0 < (i:Int)+1)=true:=by simp <;> omega
 have HC:=qd (NY hi hs hl);clear hs;go_enter Tryz.func130,Tryz.ntmps130;go_wp2_with fail;refine(HC.o).mono ?_;rintro e w1 ⟨rfl,hb⟩;have HB:=qd hb;clear hb;go_wp2;go_ret;exact⟨rfl,HB.o⟩
end
