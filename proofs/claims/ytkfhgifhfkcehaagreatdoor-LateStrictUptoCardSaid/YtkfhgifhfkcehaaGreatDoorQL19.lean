/- Parts of the proof, merged by program out of 2 texts (Kds, Wlk): the first: What all engines have in common: maps of cells, blocks of one type, one element written. Conditions: those of each theorem, as typed. -/
import Derived.Test.YtkfhgifhfkcehaaGreatDoorQL18
import Derived.Test.YtkfhgifhfkcehaaGreatDoorQL01
set_option linter.unusedVariables false
set_option linter.unusedSimpArgs false
set_option linter.unusedSectionVars false
set_option maxRecDepth 100000
set_option maxHeartbeats 4000000
namespace Go.Proofs.YtkfhgifhfkcehaaGreatDoor
open Go.Maps Go.RowKit
section
attribute [local irreducible] wpL
abbrev MI:=List (Int×Int)
def Wst.putO (s:Wst) (i:Nat):Option (Th×Ev)→Wst
 |none=>s
 |some y=>s.put i y
def moC (u:Value×Value):List Value:=[u.1,u.2]
theorem moC_len (u:Value×Value):(moC u).length=2:=rfl
abbrev IsMI (w:World) (b n:Nat) (M:MI):Prop:=IsMapK Tryz.prog 3 Rint (Lit.int .i64) (fun n:Int=>.lit (.int .i64 n)) w b n M
def KCe {ε:Type} (r:List (Int×ε)):Prop:=∀p ∈ r,0≤p.1∧p.1 < 4
theorem KCe.dom {ε:Type} {r:List (Int×ε)} (h:KCe r):KDom dI r:=fun p hp=>by have:=h p hp;unfold dI Lit.wf;simp[IntKind.min,IntKind.max,IntKind.bits,IntKind.signed];omega
theorem ksrt_len {ε:Type}:∀(l:List (Int×ε)) (a b:Int),KSrt l→(∀p ∈ l,a≤p.1∧p.1 < b)→(l.length:Int)≤max 0 (b - a)
 |[],a,b,_,_=>by simp;omega
 |x::l,a,b,h,hb=>by
  obtain⟨h1,h2⟩:=List.pairwise_cons.1 h
  have h3:=hb x (by simp)
  have:=ksrt_len l (x.1+1) b h2 fun p hp=>⟨by have:=h1 p hp;omega,(hb p (by simp[hp])).2⟩
  simp only[List.length_cons]
  omega
theorem KCe.len {ε:Type} {r:List (Int×ε)} (h:KCe r) (hs:KSrt r):r.length≤4:=by have:=ksrt_len r 0 4 hs h;omega
def mbOf:Value→Option Nat
 |.map b=>b
 |_=>none
def mbs (u:Value×Value) (b:Nat):Prop:=mbOf u.1=some b∨mbOf u.2=some b
abbrev MB:=List (Int×Unit)
abbrev IsMB (w:World) (b n:Nat) (M:MB):Prop:=IsMapK Tryz.prog 3 Rbool (Lit.int .i64) (fun _:Unit=>.lit (.bool true)) w b n M
def Kd (M:TypeId→Prop) (w w':World):Prop:=∀(k:Nat) (cs:Array Value) (t:TypeId) (fz:Nat×Nat),w.heap[k]?=some (.cells cs t fz)→¬M t→w'.heap[k]?=some (.cells cs t fz)
def KmAll (w w':World):Prop:=∀(b:Nat) (es:Array MapEntry) (c:Nat),w.heap[b]?=some (.map es c)→w'.heap[b]?=some (.map es c)
theorem turned_other {w w':World} {b i:Nat} (h:w.mapTurned w' b) (hi:i≠b):w'.heap[i]?=w.heap[i]?:=by
 obtain⟨es,c,es',c',hb,rfl⟩:=h
 exact Go.ChangeMaps.heap_setBlock_other hb _ hi
theorem turned_size {w w':World} {b:Nat} (h:w.mapTurned w' b):w'.heap.size=w.heap.size:=by
 obtain⟨es,c,es',c',hb,rfl⟩:=h
 simp[ChangeMaps.setBlock]
theorem Below.turned {w w':World} {b B:Nat} (h:w.mapTurned w' b) (hB:B≤b):Below B w w':=by
 obtain⟨es,c,es',c',hb,rfl⟩:=h
 exact⟨rfl,rfl,rfl,by simp[ChangeMaps.setBlock],fun i hi=>Go.ChangeMaps.heap_setBlock_other hb _ (by omega)⟩
section
variable {w w' w1:World} {T T':TypeId→Prop}
theorem Kd.refl (w:World):Kd T w w:=fun _ _ _ _ h _=>h
theorem Kd.trans (h:Kd T w w1) (k:Kd T w1 w'):Kd T w w':=fun b cs t fz hb ht=>k b cs t fz (h b cs t fz hb ht) ht
theorem Kd.below (h:Below w.heap.size w w'):Kd T w w':=fun _ _ _ _ hb _=>row_below hb h (row_lt hb)
theorem Kd.set {g j:Nat} {cs:Array Value} {t:TypeId} {fz:Nat×Nat} (hg:w.heap[g]?=some (.cells cs t fz)) (ht:T t) (v:Value):Kd T w (w.setCell ⟨g,j,none⟩ v):=fun b cs' t' fz' hb hT=>row_other hb (by
 rintro rfl
 rw[hg] at hb
 simp only[Option.some.injEq,Obj.cells.injEq] at hb
 exact hT (hb.2.1▸ht))
theorem Kd.turned {b:Nat} (h:w.mapTurned w' b):Kd T w w':=fun k cs t fz hk _=>(turned_other h (by
 rintro rfl
 obtain⟨es,c,es',c',hb,-⟩:=h
 rw[hb] at hk
 cases hk)).trans hk
theorem KmAll.refl (w:World):KmAll w w:=fun _ _ _ h=>h
theorem KmAll.trans (h:KmAll w w1) (k:KmAll w1 w'):KmAll w w':=fun b es c hb=>k b es c (h b es c hb)
theorem KmAll.below (h:Below w.heap.size w w'):KmAll w w':=fun _ _ _ hb=>row_below hb h (row_lt hb)
theorem KmAll.set {g j:Nat} {cs:Array Value} {t:TypeId} {fz:Nat×Nat} (hg:w.heap[g]?=some (.cells cs t fz)) (v:Value):KmAll w (w.setCell ⟨g,j,none⟩ v):=fun b es c hb=>row_other hb (by
 rintro rfl
 rw[hg] at hb
 cases hb)
theorem OwnF.kd {α:Type} {f:α→List Value} {e:TypeId} {sz B:Nat} {v:Value} {l:List α} (h:OwnF f e sz w B v l) (hk:Kd T w w') (he:¬T e):OwnF f e sz w' B v l:=by
 obtain⟨h1,h2⟩:=h
 refine⟨h1,?_⟩
 rcases h2 with h2|⟨g,cap,cur,rfl,hg,hh,r⟩
 ·exact .inl h2
 ·exact .inr ⟨g,cap,cur,rfl,hg,hk g cur e _ hh he,r⟩
theorem OwnThr.kd {B:Nat} {v:Value} {l:List (List (List Ac))} (h:OwnThr w B v l) (hk:Kd T w w') (h0:¬T 79) (h1:¬T 80) (h2:¬T 118):OwnThr w' B v l:=
 h.map (fun _ h=>OwnF.kd h hk h0) (fun _ _ h=>h.map (fun _ h=>OwnF.kd h hk h1) (fun _ _ h=>OwnF.kd h hk h2))
theorem Kd.mono {T T':TypeId→Prop} (h:Kd T w w') (hT:∀t,T t→T' t):Kd T' w w':=fun k cs t fz hk ht=>h k cs t fz hk fun e=>ht (hT t e)
theorem Kd.grw {β:Type} {f1:β→List Value} {e1:TypeId} {sz1 B1:Nat} {v1 v2:Value} {l1:List β} (h1:OwnF f1 e1 sz1 w B1 v1 l1) (hb:Grw w w' v1 v2):Kd (fun t=>t=e1) w w':=fun k cs t fz hk ht=>row_grw hk hb (OwnF.neT h1 hk ht)
end
theorem flat_set1:∀(l:List Value) (k:Nat) (u:Value),(l.flatMap valC).set k u=(l.set k u).flatMap valC:=fun l k u=>by rw[flat_val,flat_val]
theorem flat_set2 {α:Type} {f:α→List Value} (hf:∀x,(f x).length=2) {u:α} {a b:Value} (hu:f u=[a,b]):∀(l:List α) (k:Nat),((l.flatMap f).set (k*2) a).set (k*2+1) b=(l.set k u).flatMap f
 |[],k=>by simp
 |x::l,0=>by
  have h:=hf x
  match hx:f x,h with
  |[p,q],_=>simp[hx,hu]
 |x::l,k+1=>by
  have ih:=flat_set2 hf hu l k
  have h:=hf x
  match hx:f x,h with
  |[p,q],_=>
   rw[show (k+1)*2=k*2+1+1 by omega]
   simp[hx,ih]
theorem own_set2 {α:Type} {f:α→List Value} {e:TypeId} {w:World} {B g n c:Nat} {l:List α} (h:OwnF f e 2 w B (.slice (some ⟨g,0,none⟩) n c) l) (hf:∀x,(f x).length=2) {u:α} {a b:Value} (hu:f u=[a,b]) (k:Nat):
  OwnF f e 2 ((w.setCell ⟨g,k*2,none⟩ a).setCell ⟨g,k*2+1,none⟩ b) B (.slice (some ⟨g,0,none⟩) n c) (l.set k u):=by
 have hn:=h.len
 subst hn
 have:=ownsRow_set (ownsRow_set h (k*2) a) (k*2+1) b
 rw[flat_set2 hf hu] at this
 unfold OwnF
 rw[List.length_set]
 exact this
theorem own_set1 {e:TypeId} {w:World} {B g n c:Nat} {l:List Value} (h:OwnF valC e 1 w B (.slice (some ⟨g,0,none⟩) n c) l) (u:Value) (k:Nat):OwnF valC e 1 (w.setCell ⟨g,k,none⟩ u) B (.slice (some ⟨g,0,none⟩) n c) (l.set k u):=by
 have hn:=h.len
 subst hn
 have:=ownsRow_set h k u
 rw[flat_set1] at this
 unfold OwnF
 rw[List.length_set]
 exact this
theorem flat_setN {α:Type} {f:α→List Value} {n:Nat} (hf:∀x,(f x).length=n) {u c:α} {a:Value} {j:Nat} (hj:j < n) (hu:f u=(f c).set j a):∀(l:List α) (k:Nat),l[k]?=some c→(l.flatMap f).set (k*n+j) a=(l.set k u).flatMap f
 |[],k,h=>by simp at h
 |x::l,0,h=>by
  obtain rfl:x=c:=by simpa using h
  simp only[List.flatMap_cons,List.set_cons_zero,Nat.zero_mul,Nat.zero_add,hu]
  rw[List.set_append_left _ _ (by rw[hf];exact hj)]
 |x::l,k+1,h=>by
  have ih:=flat_setN hf hj hu l k (by simpa using h)
  simp only[List.flatMap_cons,List.set_cons_succ]
  have e:(k+1)*n=k*n+n:=Nat.succ_mul k n
  rw[List.set_append_right _ _ (by rw[hf,e];omega),hf,show(k+1)*n+j - n=k*n+j by rw[e];omega,ih]
theorem own_setN {α:Type} {f:α→List Value} {e:TypeId} {w:World} {B g n m c:Nat} {l:List α} (h:OwnF f e n w B (.slice (some ⟨g,0,none⟩) m c) l) (hf:∀x,(f x).length=n) {u x:α} {a:Value} {j:Nat} (hj:j < n) {k:Nat} (hk:l[k]?=some x) (hu:f u=(f x).set j a):
  OwnF f e n (w.setCell ⟨g,k*n+j,none⟩ a) B (.slice (some ⟨g,0,none⟩) m c) (l.set k u):=by
 have hn:=h.len
 subst hn
 have:=ownsRow_set h (k*n+j) a
 rw[flat_setN hf hj hu l k hk] at this
 unfold OwnF
 rw[List.length_set]
 exact this
theorem zeroI (w:World):(zeroValue 3).run Tryz.prog w=.ok (.int .i64 0) w:=by kernel_rfl
abbrev keyI:KeyT Tryz.prog 3 (.int .i64) (.int .i64) dI:=keyT_int Tryz.underlying3
theorem lookOkI {w:World} {f n:Nat} {F:MI} (h:IsMI w f n F) (hd:KDom dI F) {a:Int} (ha:dI a) {r:Option Int} (hf:fnd a F=r):(Instr.lookup 133 (.map (some f)) (.int .i64 a) true).run Tryz.prog w=.ok (.tuple #[.int .i64 (r.getD 0),.bool r.isSome]) w:=by
 have:=h.lookOk keyI elem_int hd Tryz.underlying133 (zeroI w) ha
 rw[this,hf]
 cases r <;> rfl
theorem dI_small {x:Int} (h0:0≤x) (h1:x < 4):dI x:=by
 unfold dI Lit.wf
 simp[IntKind.min,IntKind.max,IntKind.bits,IntKind.signed]
 omega
theorem IsMapK.tight {P:Program} {K:TypeId} {R:RdU} {kl:Int→Lit} {ε:Type} {ed:ε→DU} {w:World} {b n:Nat} {M:List (Int×ε)} (h:IsMapK P K R kl ed w b n M):IsMapK P K R kl ed w b M.length M:=by
 obtain⟨es,c,hb,F,hs,hD⟩:=h
 refine⟨es,c,hb,F,?_,hD⟩
 have:=congrArg Maps.size hD
 rw[mapD_size] at this
 simp only[Maps.size,length_sorted,List.length_map,Array.length_toList] at this
 omega
theorem KCe.upd {ε:Type} {r:List (Int×ε)} (h:KCe r) {a:Int} {v:ε} (h0:0≤a) (h1:a < 4):KCe (upd a v r):=fun p hp=>by
 rcases keys_upd.1 ⟨p.2,hp⟩ with e|⟨u,hu⟩
 ·rw [e];exact⟨h0,h1⟩
 ·exact h (p.1,u) hu
theorem KeepsN.both {N:Nat} {W X Y:World} (h1:RN.KeepsN N W X) (h2:RN.KeepsN N W Y) (hs:X.heap.size≤Y.heap.size):RN.KeepsN N X Y:=⟨hs,fun k hk=>(h2.2 k hk).trans (h1.2 k hk).symm⟩
abbrev RngI (w:World) (b r:Nat) (M:MI) (S:Int→Bool) (cnt:Nat):Prop:=Rng Tryz.prog 3 Rint (Lit.int .i64) (fun n:Int=>.lit (.int .i64 n)) w b r M.length M S cnt
theorem below_next {B r:Nat} {w w1 w2:World} (h:Below B w w1) (hg:w1.grownBy w2 (some r)) (hB:B≤w1.heap.size) (hr:B≤r):Below B w w2:=
 h.grown hg hB fun k e=>by cases e;exact hr
theorem below_ranged {B:Nat} {w w1 w2:World} (h:Below B w w1) (hg:w1.grownBy w2 none) (hB:B≤w1.heap.size):Below B w w2:=
 h.grown hg hB fun k e=>by cases e
theorem Kd.next {T:TypeId→Prop} {w w':World} {r:Nat} (hg:w.grownBy w' (some r)) (hi:∃b since seen c0,w.heap[r]?=some (.mapIter b since seen c0)):Kd T w w':=fun k cs t fz hk _=>(hg.block k (row_lt hk) (by
 rintro e
 cases e
 obtain⟨b,s,s',c,hi⟩:=hi
 rw[hi] at hk
 cases hk)).trans hk
theorem KmAll.next {w w':World} {r:Nat} (hg:w.grownBy w' (some r)) (hi:∃b since seen c0,w.heap[r]?=some (.mapIter b since seen c0)):KmAll w w':=fun k es c hk=>(hg.block k (row_lt hk) (by
 rintro e
 cases e
 obtain⟨b,s,s',c,hi⟩:=hi
 rw[hi] at hk
 cases hk)).trans hk
theorem isMI_new {w:World} {b:Nat} (h:w.heap[b]?=some (.map #[] 0)):IsMI w b 0 []:=by
 obtain⟨es,c,h1,h2⟩:IsMI (w.alloc (.map #[] 0)) w.heap.size 0 []:=IsMapK.made w
 rw[row_new] at h1
 obtain⟨rfl,rfl⟩:#[]=es∧0=c:=by simpa using h1
 exact⟨_,_,h,h2⟩
theorem isMB_new {w:World} {b:Nat} (h:w.heap[b]?=some (.map #[] 0)):IsMB w b 0 []:=by
 obtain⟨es,c,h1,h2⟩:IsMB (w.alloc (.map #[] 0)) w.heap.size 0 []:=IsMapK.made w
 rw[row_new] at h1
 obtain⟨rfl,rfl⟩:#[]=es∧0=c:=by simpa using h1
 exact⟨_,_,h,h2⟩
abbrev RngB (w:World) (b r:Nat) (M:MB) (S:Int→Bool) (cnt:Nat):Prop:=Rng Tryz.prog 3 Rbool (Lit.int .i64) (fun _:Unit=>.lit (.bool true)) w b r M.length M S cnt
section
variable {α:Type} {f:α→List Value} {e:TypeId} {sz B:Nat} {P:Program} {o:Oper} {a:Act} {Q:Exit→Act→World→Prop}
theorem wpList_makeN {ops:Array Oper} {rest:List Oper} (hgd:o.guard=none) (s c:Operand) (t:TypeId) (ho:o.op=.makeSlice t s c) (z:Value) (bytes:Nat) (ht:P.underlying t=some (.slice e)) (hinfo:(P.info? e).map (fun i=>(i.zero,i.size,i.bytes))=some (some z,sz,bytes))
  {w:World} {n:Nat} (hs:a.eval s=.int .i64 n) (hc:a.eval c=.int .i64 n) (hn:n≤9223372036854775807) (hby:bytes*n≤140737488355328) (hB:B≤w.heap.size) (x:α) (hx:f x=z.cells.toList) (hz:z.cells.size=sz) (h0:0 < sz)
  (hK:∀w',OwnF f e sz w' B (.slice (some ⟨w.heap.size,0,none⟩) n n) (List.replicate n x)→Below w.heap.size w w'→w.heap.size+1≤w'.heap.size→wpList P ops Q rest (a.put o.dst (.slice (some ⟨w.heap.size,0,none⟩) n n)) w'):
  wpList P ops Q (o::rest) a w:=
 wpList_plain hgd fun _ hK'=>wp_makeN s c t ho z bytes ht hinfo hs hc hn hby hB x hx hz h0 fun w' h1 h2 h3=>hK' _ _ (hK w' h1 h2 h3)
end
section
variable {w w':World} {ve:Value} {P:Pg}
theorem DrAt.base {B B' bD bW gT gN:Nat} {vc vt pc pt rf:Value} {S:Wst} {nx:List Value} (h:DrAt w B bD bW gT gN vc vt ve pc pt rf P S nx) (hB:B'≤B):DrAt w B' bD bW gT gN vc vt ve pc pt rf P S nx:=
 ⟨h.row,Nat.le_trans hB h.hB,h.walk.base hB,OwnF.base h.pcells hB,h.pthr.map2 hB (fun _ h=>OwnF.base h hB) (fun _ h=>OwnF.base h hB) (fun _ _ h=>OwnF.base h hB),OwnF.base h.next hB⟩
theorem wDone_in {S:Wst} {i:Int} (hl:S.ths.length=P.threads.length) (h:wDone P S i=false):∃k:Nat,i=k∧k < P.threads.length:=by
 unfold wDone at h
 split at h
 ·cases h
 ·split at h
  ·rename_i h1 t h2
   refine⟨i.toNat,by omega,?_⟩
   have:=(List.getElem?_eq_some_iff.1 h2).1
   omega
  ·cases h
end
def upI (n:Nat):List Int:=(List.range n).map fun i:Nat=>(i:Int)
theorem upI_succ (n:Nat):upI (n+1)=upI n++[(n:Int)]:=by simp[upI,List.range_succ]
end
def VB (k:Nat):Int:=1000000+1000*k
def inB (k:Nat) (v:Int):Prop:=-VB k≤v∧v≤VB k
theorem inB.more {k k':Nat} {v:Int} (h:inB k v) (hk:k≤k'):inB k' v:=by unfold inB VB at *;omega
theorem set_same {α:Type} {l:List α} {i:Nat} {x:α} (h:l[i]?=some x):l.set i x=l:=by
 apply List.ext_getElem?
 intro j
 by_cases e:i=j
 ·subst e;rw[List.getElem?_set_self (List.getElem?_eq_some_iff.1 h).1,h]
 ·rw [List.getElem?_set_ne e]
theorem get_set {α:Type} {l:List α} {i j:Nat} {x y:α} (h:(l.set i x)[j]?=some y):(i=j∧y=x)∨(i≠j∧l[j]?=some y):=by
 by_cases e:i=j
 ·subst e
  have hl:i < l.length:=by have:=(List.getElem?_eq_some_iff.1 h).1;simpa using this
  rw[List.getElem?_set_self hl] at h
  exact .inl ⟨rfl,(Option.some.inj h).symm⟩
 ·rw [List.getElem?_set_ne e] at h
  exact .inr ⟨e,h⟩
def isWr (t:Th) (a:Ac):Prop:=a.kind=2∨a.kind=3∧t.adding=true
def isRd (t:Th) (a:Ac):Prop:=a.kind=1∨a.kind=3∧t.adding=false
def wrVal (t:Th) (a:Ac):Int:=if a.kind=2 then a.val else a.val+t.read
def rdTh (t:Th) (a:Ac) (v:Int):Th:=if a.kind=3 then {t with waits:=0,adding:=true,read:=v} else {t with waits:=0,act:=t.act+1}
def wrTh (t:Th):Th:={t with waits:=0,adding:=false,act:=t.act+1}
def endTh (t:Th):Th:={Th.zero with tx:=t.tx+1}
section
variable {P:Pg}
theorem wDone_th {S:Wst} {i:Nat} {t:Th} (ht:S.ths[i]?=some t):wDone P S i=thDone P i t:=by
 unfold wDone
 rw[if_neg (by omega)]
 simp only[Int.toNat_natCast,ht]
theorem ThOk.begun {i:Nat} {t:Th} (h:ThOk P i t) (hw:t.waits≠0):t.begun=true:=by
 rcases h.waits with h|⟨h,-⟩
 ·exact absurd h hw
 ·exact h
theorem acts_le (h:PgOk P) {i:Nat} (hi:i < P.threads.length) (k:Nat):(P.acts i k).length≤6:=by
 unfold Pg.acts Pg.txs
 obtain⟨x,hx⟩:∃x,P.threads[i]?=some x:=⟨_,List.getElem?_eq_getElem hi⟩
 simp only[List.getD_eq_getElem?_getD,hx,Option.getD_some]
 cases hl:x[k]? with
 |none=>simp
 |some l=>exact(h.acts x (List.mem_of_getElem? hx) l (List.mem_of_getElem? hl)).2
theorem bput {S:Wst} {i:Nat} {t':Th} {e:Ev} (hB:∀(i:Nat) (t:Th),S.ths[i]?=some t→t.begun=true→t.tx < (P.txs i).length) (h1:t'.begun=true→t'.tx < (P.txs i).length):∀(j:Nat) (u:Th),(S.put i (t',e)).ths[j]?=some u→u.begun=true→u.tx < (P.txs j).length:=by
 intro j u hu hb
 rcases get_set (l:=S.ths) (i:=i) (x:=t') (by simpa[Wst.put] using hu) with⟨rfl,rfl⟩|⟨hne,hu⟩
 ·exact h1 hb
 ·exact hB j u hu hb
end
