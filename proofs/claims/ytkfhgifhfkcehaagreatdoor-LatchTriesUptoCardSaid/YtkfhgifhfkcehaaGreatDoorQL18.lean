/- Parts of the proof, merged by program out of 2 texts (Kds, Raw): the first: What all engines have in common: maps of cells, blocks of one type, one element written. Conditions: those of each theorem, as typed. -/
import Derived.Test.YtkfhgifhfkcehaaGreatDoorQL15
import Derived.Test.YtkfhgifhfkcehaaGreatDoorQL05
import Derived.Laws.EntriesVeiled
set_option linter.unusedVariables false
set_option linter.unusedSimpArgs false
set_option linter.unusedSectionVars false
set_option maxRecDepth 100000
set_option maxHeartbeats 4000000
namespace Go.Proofs.YtkfhgifhfkcehaaGreatDoor
open Go.MapKept Go.Maps Go.RowKit
section
attribute [local irreducible] wpL
abbrev MI:=List (Int×Int)
def Wst.putO (s:Wst) (i:Nat):Option (Th×Ev)→Wst
 |none=>s
 |some y=>s.put i y
def moC (u:Value×Value):List Value:=[u.1,u.2]
theorem moC_len (u:Value×Value):(moC u).length=2:=rfl
abbrev IsMI (w:World) (b n:Nat) (M:MI):Prop:=IsMapK Tryz.prog 3 Rint (Lit.int .i64) (fun n:Int=>.lit (.int .i64 n)) w b n M
def KCe {ε:Type} (r:List (Int×ε)):Prop:=∀p ∈ r,0≤p.1∧p.1 < 4
theorem KCe.dom {ε:Type} {r:List (Int×ε)} (h:KCe r):KDom dI r:=fun p hp=>by have:=h p hp;unfold dI Lit.wf;simp[IntKind.min,IntKind.max,IntKind.bits,IntKind.signed];omega
theorem ksrt_len {ε:Type}:∀(l:List (Int×ε)) (a b:Int),KSrt l→(∀p ∈ l,a≤p.1∧p.1 < b)→(l.length:Int)≤max 0 (b - a)
 |[],a,b,_,_=>by simp;omega
 |x::l,a,b,h,hb=>by
  obtain⟨h1,h2⟩:=List.pairwise_cons.1 h
  have h3:=hb x (by simp)
  have:=ksrt_len l (x.1+1) b h2 fun p hp=>⟨by have:=h1 p hp;omega,(hb p (by simp[hp])).2⟩
  simp only[List.length_cons]
  omega
theorem KCe.len {ε:Type} {r:List (Int×ε)} (h:KCe r) (hs:KSrt r):r.length≤4:=by have:=ksrt_len r 0 4 hs h;omega
def mbOf:Value→Option Nat
 |.map b=>b
 |_=>none
def mbs (u:Value×Value) (b:Nat):Prop:=mbOf u.1=some b∨mbOf u.2=some b
abbrev MB:=List (Int×Unit)
abbrev IsMB (w:World) (b n:Nat) (M:MB):Prop:=IsMapK Tryz.prog 3 Rbool (Lit.int .i64) (fun _:Unit=>.lit (.bool true)) w b n M
def Kd (M:TypeId→Prop) (w w':World):Prop:=∀(k:Nat) (cs:Array Value) (t:TypeId) (fz:Nat×Nat),w.heap[k]?=some (.cells cs t fz)→¬M t→w'.heap[k]?=some (.cells cs t fz)
def KmAll (w w':World):Prop:=∀(b:Nat) (es:Array MapEntry) (c:Nat),w.heap[b]?=some (.map es c)→w'.heap[b]?=some (.map es c)
theorem turned_other {w w':World} {b i:Nat} (h:w.mapTurned w' b) (hi:i≠b):w'.heap[i]?=w.heap[i]?:=by
 obtain⟨es,c,es',c',hb,rfl⟩:=h
 exact Go.ChangeMaps.heap_setBlock_other hb _ hi
theorem turned_size {w w':World} {b:Nat} (h:w.mapTurned w' b):w'.heap.size=w.heap.size:=by
 obtain⟨es,c,es',c',hb,rfl⟩:=h
 simp[ChangeMaps.setBlock]
theorem Below.turned {w w':World} {b B:Nat} (h:w.mapTurned w' b) (hB:B≤b):Below B w w':=by
 obtain⟨es,c,es',c',hb,rfl⟩:=h
 exact⟨rfl,rfl,rfl,by simp[ChangeMaps.setBlock],fun i hi=>Go.ChangeMaps.heap_setBlock_other hb _ (by omega)⟩
section
variable {w w' w1:World} {T T':TypeId→Prop}
theorem Kd.refl (w:World):Kd T w w:=fun _ _ _ _ h _=>h
theorem Kd.trans (h:Kd T w w1) (k:Kd T w1 w'):Kd T w w':=fun b cs t fz hb ht=>k b cs t fz (h b cs t fz hb ht) ht
theorem Kd.below (h:Below w.heap.size w w'):Kd T w w':=fun _ _ _ _ hb _=>row_below hb h (row_lt hb)
theorem Kd.set {g j:Nat} {cs:Array Value} {t:TypeId} {fz:Nat×Nat} (hg:w.heap[g]?=some (.cells cs t fz)) (ht:T t) (v:Value):Kd T w (w.setCell ⟨g,j,none⟩ v):=fun b cs' t' fz' hb hT=>row_other hb (by
 rintro rfl
 rw[hg] at hb
 simp only[Option.some.injEq,Obj.cells.injEq] at hb
 exact hT (hb.2.1▸ht))
theorem Kd.turned {b:Nat} (h:w.mapTurned w' b):Kd T w w':=fun k cs t fz hk _=>(turned_other h (by
 rintro rfl
 obtain⟨es,c,es',c',hb,-⟩:=h
 rw[hb] at hk
 cases hk)).trans hk
theorem KmAll.refl (w:World):KmAll w w:=fun _ _ _ h=>h
theorem KmAll.trans (h:KmAll w w1) (k:KmAll w1 w'):KmAll w w':=fun b es c hb=>k b es c (h b es c hb)
theorem KmAll.below (h:Below w.heap.size w w'):KmAll w w':=fun _ _ _ hb=>row_below hb h (row_lt hb)
theorem KmAll.set {g j:Nat} {cs:Array Value} {t:TypeId} {fz:Nat×Nat} (hg:w.heap[g]?=some (.cells cs t fz)) (v:Value):KmAll w (w.setCell ⟨g,j,none⟩ v):=fun b es c hb=>row_other hb (by
 rintro rfl
 rw[hg] at hb
 cases hb)
theorem OwnF.kd {α:Type} {f:α→List Value} {e:TypeId} {sz B:Nat} {v:Value} {l:List α} (h:OwnF f e sz w B v l) (hk:Kd T w w') (he:¬T e):OwnF f e sz w' B v l:=by
 obtain⟨h1,h2⟩:=h
 refine⟨h1,?_⟩
 rcases h2 with h2|⟨g,cap,cur,rfl,hg,hh,r⟩
 ·exact .inl h2
 ·exact .inr ⟨g,cap,cur,rfl,hg,hk g cur e _ hh he,r⟩
theorem OwnThr.kd {B:Nat} {v:Value} {l:List (List (List Ac))} (h:OwnThr w B v l) (hk:Kd T w w') (h0:¬T 79) (h1:¬T 80) (h2:¬T 118):OwnThr w' B v l:=
 h.map (fun _ h=>OwnF.kd h hk h0) (fun _ _ h=>h.map (fun _ h=>OwnF.kd h hk h1) (fun _ _ h=>OwnF.kd h hk h2))
theorem Kd.mono {T T':TypeId→Prop} (h:Kd T w w') (hT:∀t,T t→T' t):Kd T' w w':=fun k cs t fz hk ht=>h k cs t fz hk fun e=>ht (hT t e)
theorem Kd.grw {β:Type} {f1:β→List Value} {e1:TypeId} {sz1 B1:Nat} {v1 v2:Value} {l1:List β} (h1:OwnF f1 e1 sz1 w B1 v1 l1) (hb:Grw w w' v1 v2):Kd (fun t=>t=e1) w w':=fun k cs t fz hk ht=>row_grw hk hb (OwnF.neT h1 hk ht)
end
theorem flat_set1:∀(l:List Value) (k:Nat) (u:Value),(l.flatMap valC).set k u=(l.set k u).flatMap valC:=fun l k u=>by rw[flat_val,flat_val]
theorem flat_set2 {α:Type} {f:α→List Value} (hf:∀x,(f x).length=2) {u:α} {a b:Value} (hu:f u=[a,b]):∀(l:List α) (k:Nat),((l.flatMap f).set (k*2) a).set (k*2+1) b=(l.set k u).flatMap f
 |[],k=>by simp
 |x::l,0=>by
  have h:=hf x
  match hx:f x,h with
  |[p,q],_=>simp[hx,hu]
 |x::l,k+1=>by
  have ih:=flat_set2 hf hu l k
  have h:=hf x
  match hx:f x,h with
  |[p,q],_=>
   rw[show (k+1)*2=k*2+1+1 by omega]
   simp[hx,ih]
theorem own_set2 {α:Type} {f:α→List Value} {e:TypeId} {w:World} {B g n c:Nat} {l:List α} (h:OwnF f e 2 w B (.slice (some ⟨g,0,none⟩) n c) l) (hf:∀x,(f x).length=2) {u:α} {a b:Value} (hu:f u=[a,b]) (k:Nat):
  OwnF f e 2 ((w.setCell ⟨g,k*2,none⟩ a).setCell ⟨g,k*2+1,none⟩ b) B (.slice (some ⟨g,0,none⟩) n c) (l.set k u):=by
 have hn:=h.len
 subst hn
 have:=ownsRow_set (ownsRow_set h (k*2) a) (k*2+1) b
 rw[flat_set2 hf hu] at this
 unfold OwnF
 rw[List.length_set]
 exact this
theorem own_set1 {e:TypeId} {w:World} {B g n c:Nat} {l:List Value} (h:OwnF valC e 1 w B (.slice (some ⟨g,0,none⟩) n c) l) (u:Value) (k:Nat):OwnF valC e 1 (w.setCell ⟨g,k,none⟩ u) B (.slice (some ⟨g,0,none⟩) n c) (l.set k u):=by
 have hn:=h.len
 subst hn
 have:=ownsRow_set h k u
 rw[flat_set1] at this
 unfold OwnF
 rw[List.length_set]
 exact this
theorem flat_setN {α:Type} {f:α→List Value} {n:Nat} (hf:∀x,(f x).length=n) {u c:α} {a:Value} {j:Nat} (hj:j < n) (hu:f u=(f c).set j a):∀(l:List α) (k:Nat),l[k]?=some c→(l.flatMap f).set (k*n+j) a=(l.set k u).flatMap f
 |[],k,h=>by simp at h
 |x::l,0,h=>by
  obtain rfl:x=c:=by simpa using h
  simp only[List.flatMap_cons,List.set_cons_zero,Nat.zero_mul,Nat.zero_add,hu]
  rw[List.set_append_left _ _ (by rw[hf];exact hj)]
 |x::l,k+1,h=>by
  have ih:=flat_setN hf hj hu l k (by simpa using h)
  simp only[List.flatMap_cons,List.set_cons_succ]
  have e:(k+1)*n=k*n+n:=Nat.succ_mul k n
  rw[List.set_append_right _ _ (by rw[hf,e];omega),hf,show(k+1)*n+j - n=k*n+j by rw[e];omega,ih]
theorem own_setN {α:Type} {f:α→List Value} {e:TypeId} {w:World} {B g n m c:Nat} {l:List α} (h:OwnF f e n w B (.slice (some ⟨g,0,none⟩) m c) l) (hf:∀x,(f x).length=n) {u x:α} {a:Value} {j:Nat} (hj:j < n) {k:Nat} (hk:l[k]?=some x) (hu:f u=(f x).set j a):
  OwnF f e n (w.setCell ⟨g,k*n+j,none⟩ a) B (.slice (some ⟨g,0,none⟩) m c) (l.set k u):=by
 have hn:=h.len
 subst hn
 have:=ownsRow_set h (k*n+j) a
 rw[flat_setN hf hj hu l k hk] at this
 unfold OwnF
 rw[List.length_set]
 exact this
theorem zeroI (w:World):(zeroValue 3).run Tryz.prog w=.ok (.int .i64 0) w:=by kernel_rfl
abbrev keyI:KeyT Tryz.prog 3 (.int .i64) (.int .i64) dI:=keyT_int Tryz.underlying3
theorem lookOkI {w:World} {f n:Nat} {F:MI} (h:IsMI w f n F) (hd:KDom dI F) {a:Int} (ha:dI a) {r:Option Int} (hf:fnd a F=r):(Instr.lookup 133 (.map (some f)) (.int .i64 a) true).run Tryz.prog w=.ok (.tuple #[.int .i64 (r.getD 0),.bool r.isSome]) w:=by
 have:=h.lookOk keyI elem_int hd Tryz.underlying133 (zeroI w) ha
 rw[this,hf]
 cases r <;> rfl
theorem dI_small {x:Int} (h0:0≤x) (h1:x < 4):dI x:=by
 unfold dI Lit.wf
 simp[IntKind.min,IntKind.max,IntKind.bits,IntKind.signed]
 omega
theorem IsMapK.tight {P:Program} {K:TypeId} {R:RdU} {kl:Int→Lit} {ε:Type} {ed:ε→DU} {w:World} {b n:Nat} {M:List (Int×ε)} (h:IsMapK P K R kl ed w b n M):IsMapK P K R kl ed w b M.length M:=by
 obtain⟨es,c,hb,F,hs,hD⟩:=h
 refine⟨es,c,hb,F,?_,hD⟩
 have:=congrArg Maps.size hD
 rw[mapD_size] at this
 simp only[Maps.size,length_sorted,List.length_map,Array.length_toList] at this
 omega
theorem KCe.upd {ε:Type} {r:List (Int×ε)} (h:KCe r) {a:Int} {v:ε} (h0:0≤a) (h1:a < 4):KCe (upd a v r):=fun p hp=>by
 rcases keys_upd.1 ⟨p.2,hp⟩ with e|⟨u,hu⟩
 ·rw [e];exact⟨h0,h1⟩
 ·exact h (p.1,u) hu
theorem KeepsN.both {N:Nat} {W X Y:World} (h1:RN.KeepsN N W X) (h2:RN.KeepsN N W Y) (hs:X.heap.size≤Y.heap.size):RN.KeepsN N X Y:=⟨hs,fun k hk=>(h2.2 k hk).trans (h1.2 k hk).symm⟩
abbrev RngI (w:World) (b r:Nat) (M:MI) (S:Int→Bool) (cnt:Nat):Prop:=Rng Tryz.prog 3 Rint (Lit.int .i64) (fun n:Int=>.lit (.int .i64 n)) w b r M.length M S cnt
theorem below_next {B r:Nat} {w w1 w2:World} (h:Below B w w1) (hg:w1.grownBy w2 (some r)) (hB:B≤w1.heap.size) (hr:B≤r):Below B w w2:=
 h.grown hg hB fun k e=>by cases e;exact hr
theorem below_ranged {B:Nat} {w w1 w2:World} (h:Below B w w1) (hg:w1.grownBy w2 none) (hB:B≤w1.heap.size):Below B w w2:=
 h.grown hg hB fun k e=>by cases e
theorem Kd.next {T:TypeId→Prop} {w w':World} {r:Nat} (hg:w.grownBy w' (some r)) (hi:∃b since seen c0,w.heap[r]?=some (.mapIter b since seen c0)):Kd T w w':=fun k cs t fz hk _=>(hg.block k (row_lt hk) (by
 rintro e
 cases e
 obtain⟨b,s,s',c,hi⟩:=hi
 rw[hi] at hk
 cases hk)).trans hk
theorem KmAll.next {w w':World} {r:Nat} (hg:w.grownBy w' (some r)) (hi:∃b since seen c0,w.heap[r]?=some (.mapIter b since seen c0)):KmAll w w':=fun k es c hk=>(hg.block k (row_lt hk) (by
 rintro e
 cases e
 obtain⟨b,s,s',c,hi⟩:=hi
 rw[hi] at hk
 cases hk)).trans hk
theorem isMI_new {w:World} {b:Nat} (h:w.heap[b]?=some (.map #[] 0)):IsMI w b 0 []:=by
 obtain⟨es,c,h1,h2⟩:IsMI (w.alloc (.map #[] 0)) w.heap.size 0 []:=IsMapK.made w
 rw[row_new] at h1
 obtain⟨rfl,rfl⟩:#[]=es∧0=c:=by simpa using h1
 exact⟨_,_,h,h2⟩
theorem isMB_new {w:World} {b:Nat} (h:w.heap[b]?=some (.map #[] 0)):IsMB w b 0 []:=by
 obtain⟨es,c,h1,h2⟩:IsMB (w.alloc (.map #[] 0)) w.heap.size 0 []:=IsMapK.made w
 rw[row_new] at h1
 obtain⟨rfl,rfl⟩:#[]=es∧0=c:=by simpa using h1
 exact⟨_,_,h,h2⟩
abbrev RngB (w:World) (b r:Nat) (M:MB) (S:Int→Bool) (cnt:Nat):Prop:=Rng Tryz.prog 3 Rbool (Lit.int .i64) (fun _:Unit=>.lit (.bool true)) w b r M.length M S cnt
section
variable {α:Type} {f:α→List Value} {e:TypeId} {sz B:Nat} {P:Program} {o:Oper} {a:Act} {Q:Exit→Act→World→Prop}
theorem wpList_makeN {ops:Array Oper} {rest:List Oper} (hgd:o.guard=none) (s c:Operand) (t:TypeId) (ho:o.op=.makeSlice t s c) (z:Value) (bytes:Nat) (ht:P.underlying t=some (.slice e)) (hinfo:(P.info? e).map (fun i=>(i.zero,i.size,i.bytes))=some (some z,sz,bytes))
  {w:World} {n:Nat} (hs:a.eval s=.int .i64 n) (hc:a.eval c=.int .i64 n) (hn:n≤9223372036854775807) (hby:bytes*n≤140737488355328) (hB:B≤w.heap.size) (x:α) (hx:f x=z.cells.toList) (hz:z.cells.size=sz) (h0:0 < sz)
  (hK:∀w',OwnF f e sz w' B (.slice (some ⟨w.heap.size,0,none⟩) n n) (List.replicate n x)→Below w.heap.size w w'→w.heap.size+1≤w'.heap.size→wpList P ops Q rest (a.put o.dst (.slice (some ⟨w.heap.size,0,none⟩) n n)) w'):
  wpList P ops Q (o::rest) a w:=
 wpList_plain hgd fun _ hK'=>wp_makeN s c t ho z bytes ht hinfo hs hc hn hby hB x hx hz h0 fun w' h1 h2 h3=>hK' _ _ (hK w' h1 h2 h3)
end
section
variable {w w':World} {ve:Value} {P:Pg}
theorem DrAt.base {B B' bD bW gT gN:Nat} {vc vt pc pt rf:Value} {S:Wst} {nx:List Value} (h:DrAt w B bD bW gT gN vc vt ve pc pt rf P S nx) (hB:B'≤B):DrAt w B' bD bW gT gN vc vt ve pc pt rf P S nx:=
 ⟨h.row,Nat.le_trans hB h.hB,h.walk.base hB,OwnF.base h.pcells hB,h.pthr.map2 hB (fun _ h=>OwnF.base h hB) (fun _ h=>OwnF.base h hB) (fun _ _ h=>OwnF.base h hB),OwnF.base h.next hB⟩
theorem wDone_in {S:Wst} {i:Int} (hl:S.ths.length=P.threads.length) (h:wDone P S i=false):∃k:Nat,i=k∧k < P.threads.length:=by
 unfold wDone at h
 split at h
 ·cases h
 ·split at h
  ·rename_i h1 t h2
   refine⟨i.toNat,by omega,?_⟩
   have:=(List.getElem?_eq_some_iff.1 h2).1
   omega
  ·cases h
end
def upI (n:Nat):List Int:=(List.range n).map fun i:Nat=>(i:Int)
theorem upI_succ (n:Nat):upI (n+1)=upI n++[(n:Int)]:=by simp[upI,List.range_succ]
end
def Tells (es:Array MapEntry) (M:Int→Option Value):Prop:=∀k v,M k=some v↔∃x ∈ es.toList,x.key=.int .i64 k∧x.val=v
def RawM (w:World) (b:Nat) (M:Int→Option Value):Prop:=
 ∃(es:Array MapEntry) (c:Nat),w.heap[b]?=some (.map es c)∧(∀x ∈ es.toList,∃k:Int,x.key=.int .i64 k)∧Stamped es c∧Tells es M
def RawAt (w:World) (b:Nat) (M:Int→Option Value) (a n:Int):Prop:=
 ∃(es:Array MapEntry) (c:Nat),w.heap[b]?=some (.map es c)∧(∀x ∈ es.toList,∃k:Int,x.key=.int .i64 k)∧Stamped es c∧Tells es M∧∃x ∈ es.toList,x.key=.int .i64 a∧(x.born:Int)=n
def rup (M:Int→Option Value) (a:Int) (v:Option Value):Int→Option Value:=fun k=>if k=a then v else M k
theorem rup_same {M:Int→Option Value} {a:Int} {v:Option Value}:rup M a v a=v:=by simp[rup]
theorem rup_ne {M:Int→Option Value} {a k:Int} {v:Option Value} (h:k≠a):rup M a v k=M k:=by simp[rup,h]
section
variable {P:Program} {K t e:TypeId} {w w':World} {b:Nat} {M:Int→Option Value}
theorem RawM.lt (h:RawM w b M):b < w.heap.size:=by
 obtain⟨es,c,hb,-⟩:=h
 exact(Array.getElem?_eq_some_iff.1 hb).1
theorem RawM.isMap (h:RawM w b M):∃es c,w.heap[b]?=some (.map es c):=let ⟨es,c,hb,_⟩:=h;⟨es,c,hb⟩
theorem RawM.obj (h:RawM w b M) (hw:w'.heap[b]?=w.heap[b]?):RawM w' b M:=by
 obtain⟨es,c,hb,h⟩:=h
 exact⟨es,c,hw.trans hb,h⟩
theorem RawM.below {B:Nat} (h:RawM w b M) (hb:Below B w w') (hlt:b < B):RawM w' b M:=h.obj (hb.block b hlt)
theorem RawM.drew (h:RawM w b M):RawM w.drew b M:=h
theorem RawM.set (h:RawM w b M) {g j:Nat} {v:Value} (hg:b≠g):RawM (w.setCell ⟨g,j,none⟩ v) b M:=h.obj (RowKit.Below.heap_setCell _ _ _ _ hg)
theorem RawM.made (h:w.heap[b]?=some (.map #[] 0)):RawM w b (fun _=>none):=⟨#[],0,h,by simp,stamped_empty 0,by intro k v;simp⟩
theorem RawM.fun {N:Int→Option Value} (h:RawM w b M) (hN:∀k,N k=M k):RawM w b N:=by
 obtain⟨es,c,h1,h2,h3,h4⟩:=h
 exact⟨es,c,h1,h2,h3,fun k v=>by rw[hN];exact h4 k v⟩
theorem RawAt.raw {a n:Int} (h:RawAt w b M a n):RawM w b M:=let ⟨es,c,h1,h2,h3,h4,_⟩:=h;⟨es,c,h1,h2,h3,h4⟩
theorem RawAt.obj {a n:Int} (h:RawAt w b M a n) (hw:w'.heap[b]?=w.heap[b]?):RawAt w' b M a n:=by
 obtain⟨es,c,hb,h⟩:=h
 exact⟨es,c,hw.trans hb,h⟩
theorem RawM.find {es:Array MapEntry} (h2:∀x ∈ es.toList,∃k:Int,x.key=.int .i64 k) (h4:Tells es M) (a:Int):
  (Instr.findNow (.int .i64) (.int .i64 a) es.toList 0=some none∧(∀x ∈ es.toList,x.key≠.int .i64 a)∧M a=none)∨∃j x,Instr.findNow (.int .i64) (.int .i64 a) es.toList 0=some (some (j,x.val))∧es.toList[j]?=some x∧x.key=.int .i64 a∧M a=some x.val:=by
 have hks:∀x ∈ es.toList,IsKey (.int .i64) x.key:=fun x hx=>by
  obtain⟨k,hk⟩:=h2 x hx
  rw[hk]
  exact rfl
 rcases findNow_spec (k:=.int .i64 a) (d:=.int .i64) rfl es.toList 0 hks with⟨h1,hn⟩|⟨j,x,h1,hj,hx⟩
 ·refine .inl ⟨h1,hn,?_⟩
  cases hM:M a with
  |none=>rfl
  |some v=>
   obtain⟨x,hx,hk,-⟩:=(h4 a v).1 hM
   exact absurd hk (hn x hx)
 ·exact .inr ⟨j,x,by simpa using h1,hj,hx,(h4 a x.val).2 ⟨x,List.mem_of_getElem? hj,hx,rfl⟩⟩
theorem RawM.look (h:RawM w b M) (hK:P.underlying K=some (.int .i64)) (ht:P.underlying t=some (.map K e)) {zv:Value} (hz:(zeroValue e).run P w=.ok zv w) (a:Int) {r:Option Value} (hr:M a=r):
  (Instr.lookup t (.map (some b)) (.int .i64 a) false).run P w=.ok (r.getD zv) w∧(Instr.lookup t (.map (some b)) (.int .i64 a) true).run P w=.ok (.tuple #[r.getD zv,.bool r.isSome]) w:=by
 obtain⟨es,c,hb,h2,h3,h4⟩:=h
 rcases RawM.find h2 h4 a with⟨h1,-,hM⟩|⟨j,x,h1,-,-,hM⟩ <;>
 ·rw [hM] at hr
  subst hr
  constructor <;> simp[Instr.lookup,run_underlying ht,MapKept.run_getObj_map hb,MapKept.run_checkKey hK (k:=.int .i64 a) rfl,MapKept.run_findKey hK h1,hz,Result.andThen]
theorem keys_push {es:Array MapEntry} {a:Int} {v:Value} {c:Nat} (h2:∀x ∈ es.toList,∃k:Int,x.key=.int .i64 k):∀x ∈ (es.push ⟨.int .i64 a,v,c⟩).toList,∃k:Int,x.key=.int .i64 k:=by
 intro y hy
 simp only[Array.toList_push,List.mem_append,List.mem_singleton] at hy
 rcases hy with hy|rfl
 ·exact h2 y hy
 ·exact ⟨a,rfl⟩
theorem Tells.push {es:Array MapEntry} (h4:Tells es M) {a:Int} {v:Value} {c:Nat} (hn:∀x ∈ es.toList,x.key≠.int .i64 a):Tells (es.push ⟨.int .i64 a,v,c⟩) (rup M a (some v)):=by
 intro k u
 simp only[Array.toList_push,List.mem_append,List.mem_singleton]
 by_cases hk:k=a
 ·subst hk
  rw[rup_same]
  constructor
  ·intro hu
   cases hu
   exact⟨_,.inr rfl,rfl,rfl⟩
  ·rintro ⟨y,hy|rfl,h5,h6⟩
   ·exact absurd h5 (hn y hy)
   ·simpa using h6
 ·rw [rup_ne hk,h4]
  constructor
  ·rintro ⟨y,hy,h5⟩
   exact⟨y,.inl hy,h5⟩
  ·rintro ⟨y,hy|rfl,h5,h6⟩
   ·exact ⟨y,hy,h5,h6⟩
   ·simp only[Value.int.injEq,true_and] at h5
    exact absurd h5.symm hk
theorem mem_modify {es:Array MapEntry} {c:Nat} (hs:Stamped es c) {j:Nat} {x:MapEntry} (hj:es[j]?=some x) (f:MapEntry→MapEntry) (y:MapEntry):
  y ∈ (es.modify j f).toList↔y=f x∨(y ∈ es.toList∧y.key≠x.key):=by
 have h3:=hs.2.2
 rw[List.mem_iff_getElem?]
 constructor
 ·rintro ⟨i,hi⟩
  simp only[Array.getElem?_toList,Array.getElem?_modify] at hi
  split at hi
  ·rename_i he
   subst he
   rw[hj] at hi
   simp only[Option.map_some,Option.some.injEq] at hi
   exact .inl hi.symm
  ·rename_i he
   refine .inr ⟨List.mem_iff_getElem?.2 ⟨i,by simpa using hi⟩,fun hk=>he ?_⟩
   have hil:j < (es.toList.map (·.key)).length:=by
    have:=(Array.getElem?_eq_some_iff.1 hj).1
    simpa using this
   refine(List.getElem?_inj hil h3).1 ?_
   simp[hi,hj,hk]
 ·rintro (rfl|⟨hy,hne⟩)
  ·exact ⟨j,by simp[Array.getElem?_modify,hj]⟩
  ·obtain ⟨i,hi⟩:=List.mem_iff_getElem?.1 hy
   refine⟨i,?_⟩
   simp only[Array.getElem?_toList,Array.getElem?_modify]
   rw[if_neg (by
    rintro rfl
    rw[Array.getElem?_toList,hj] at hi
    cases hi
    exact hne rfl)]
   simpa using hi
theorem keys_modify {es:Array MapEntry} {c:Nat} (hs:Stamped es c) (h2:∀x ∈ es.toList,∃k:Int,x.key=.int .i64 k) {j:Nat} {x:MapEntry} (hj:es[j]?=some x) {f:MapEntry→MapEntry} {a:Int} (hf:(f x).key=.int .i64 a):∀y ∈ (es.modify j f).toList,∃k:Int,y.key=.int .i64 k:=by
 intro y hy
 rcases(mem_modify hs hj f y).1 hy with rfl|⟨hy,-⟩
 ·exact ⟨a,hf⟩
 ·exact h2 y hy
theorem Tells.modify {es:Array MapEntry} {c:Nat} (hs:Stamped es c) (h4:Tells es M) {j:Nat} {x:MapEntry} (hj:es[j]?=some x) {f:MapEntry→MapEntry} {a:Int} (hx:x.key=.int .i64 a) (hf:(f x).key=.int .i64 a):Tells (es.modify j f) (rup M a (some (f x).val)):=by
 intro k u
 by_cases hk:k=a
 ·subst hk
  rw[rup_same]
  constructor
  ·intro hu
   cases hu
   exact⟨_,(mem_modify hs hj f _).2 (.inl rfl),hf,rfl⟩
  ·rintro ⟨y,hy,h5,h6⟩
   rcases(mem_modify hs hj f y).1 hy with rfl|⟨-,hne⟩
   ·rw [h6]
   ·exact absurd (h5.trans hx.symm) hne
 ·rw [rup_ne hk,h4]
  constructor
  ·rintro ⟨y,hy,h5,h6⟩
   exact⟨y,(mem_modify hs hj f y).2 (.inr ⟨hy,by rw[h5,hx];simpa using hk⟩),h5,h6⟩
  ·rintro ⟨y,hy,h5,h6⟩
   rcases(mem_modify hs hj f y).1 hy with rfl|⟨hy,-⟩
   ·rw [hf] at h5
    simp only[Value.int.injEq,true_and] at h5
    exact absurd h5.symm hk
   ·exact ⟨y,hy,h5,h6⟩
theorem stamped_mod {es:Array MapEntry} {c:Nat} (hs:Stamped es c) {j:Nat} {x:MapEntry} (hj:es[j]?=some x) {f:MapEntry→MapEntry} (hb:∀y,(f y).born=y.born) (hk:(f x).key=x.key):Stamped (es.modify j f) c:=
 stamped_modify hs j f (fun y _=>hb y) fun y _ hy=>by rw[hj] at hy;cases hy;exact hk
theorem RawM.store (h:RawM w b M) (hK:P.underlying K=some (.int .i64)) (ht:P.underlying t=some (.map K e)) (a:Int) (v:Value):
  ∃w',(Instr.mapUpdate t (.map (some b)) (.int .i64 a) v).run P w=.ok () w'∧RawM w' b (rup M a (some v))∧w.mapTurned w' b:=by
 obtain⟨es,c,hb,h2,h3,h4⟩:=h
 rcases RawM.find h2 h4 a with⟨h1,hn,hM⟩|⟨j,x,h1,hj,hx,hM⟩
 ·refine ⟨ChangeMaps.setBlock w b (.map (es.push ⟨.int .i64 a,v,c⟩) (c+1)),?_,⟨_,_,ChangeMaps.heap_setBlock_same hb _,keys_push h2,stamped_push h3 hn,h4.push hn⟩,⟨_,_,_,_,hb,rfl⟩⟩
  simp[Instr.mapUpdate,run_underlying ht,MapKept.run_getObj_map hb,MapKept.run_checkKey hK (k:=.int .i64 a) rfl,MapKept.run_findKey hK h1,MapKept.run_setObj_map _ hb,Result.andThen,ChangeMaps.setBlock]
 ·have hj':es[j]?=some x:=by simpa using hj
  refine⟨ChangeMaps.setBlock w b (.map (es.modify j fun y=>{y with key:=.int .i64 a,val:=v}) c),?_,⟨_,_,ChangeMaps.heap_setBlock_same hb _,keys_modify h3 h2 hj' (a:=a) rfl,stamped_mod h3 hj' (fun _=>rfl) hx.symm,Tells.modify (f:=fun y=>{y with key:=.int .i64 a,val:=v}) h3 h4 hj' hx rfl⟩,⟨_,_,_,_,hb,rfl⟩⟩
  simp[Instr.mapUpdate,run_underlying ht,MapKept.run_getObj_map hb,MapKept.run_checkKey hK (k:=.int .i64 a) rfl,MapKept.run_findKey hK h1,hj',hx,MapKept.run_keyThatStays (d:=.int .i64) (k:=.int .i64 a) rfl,MapKept.run_setObj_map _ hb,Result.andThen,ChangeMaps.setBlock]
theorem RawM.drop (h:RawM w b M) (hK:P.underlying K=some (.int .i64)) (ht:P.underlying t=some (.map K e)) (a:Int) (ty:TypeId):
  ∃w',(Builtin.delete_ #[t,K] ty #[.map (some b),.int .i64 a]).run P w=.ok (.tuple #[]) w'∧RawM w' b (rup M a none)∧w.mapTurned w' b:=by
 obtain⟨es,c,hb,h2,h3,h4⟩:=h
 rcases RawM.find h2 h4 a with⟨h1,hn,hM⟩|⟨j,x,h1,hj,hx,hM⟩
 ·refine ⟨ChangeMaps.setBlock w b (.map es c),?_,⟨_,_,ChangeMaps.heap_setBlock_same hb _,h2,h3,?_⟩,⟨_,_,_,_,hb,rfl⟩⟩
  ·simp [Builtin.delete_,run_underlying ht,MapKept.run_getObj_map hb,MapKept.run_checkKey hK (k:=.int .i64 a) rfl,MapKept.run_findKey hK h1,MapKept.run_setObj_map _ hb,Result.andThen,ChangeMaps.setBlock]
  ·intro k u
   by_cases hk:k=a
   ·subst hk
    rw[rup_same]
    constructor
    ·intro hu;cases hu
    ·rintro ⟨y,hy,h5,-⟩
     exact absurd h5 (hn y hy)
   ·rw [rup_ne hk];exact h4 k u
 ·have hjl:j < es.size:=by
   have:=(List.getElem?_eq_some_iff.1 hj).1
   simpa using this
  have he:(es.eraseIdxIfInBounds j).toList=es.toList.eraseIdx j:=by
   unfold Array.eraseIdxIfInBounds
   rw[dif_pos hjl]
   simp
  have hsub:List.Sublist (es.toList.eraseIdx j) es.toList:=List.eraseIdx_sublist _ _
  refine⟨ChangeMaps.setBlock w b (.map (es.eraseIdxIfInBounds j) c),?_,⟨_,_,ChangeMaps.heap_setBlock_same hb _,?_,stamped_erase h3 j,?_⟩,⟨_,_,_,_,hb,rfl⟩⟩
  ·simp [Builtin.delete_,run_underlying ht,MapKept.run_getObj_map hb,MapKept.run_checkKey hK (k:=.int .i64 a) rfl,MapKept.run_findKey hK h1,MapKept.run_setObj_map _ hb,Result.andThen,ChangeMaps.setBlock]
  ·intro y hy
   rw[he] at hy
   exact h2 y (hsub.subset hy)
  ·have hmem:∀y,y ∈ es.toList.eraseIdx j↔y ∈ es.toList∧y.key≠.int .i64 a:=by
    intro y
    have hn:=h3.2.2
    rw[List.mem_eraseIdx_iff_getElem?]
    constructor
    ·rintro ⟨i,hi,hy⟩
     refine⟨List.mem_of_getElem? hy,fun hk=>hi ?_⟩
     have hil:j < (es.toList.map (·.key)).length:=by simpa using hjl
     refine((List.getElem?_inj hil hn).1 ?_).symm
     rw[List.getElem?_map,List.getElem?_map,hy,hj]
     simp[hk,hx]
    ·rintro ⟨hy,hne⟩
     obtain⟨i,hi⟩:=List.mem_iff_getElem?.1 hy
     refine⟨i,?_,hi⟩
     rintro rfl
     rw[hj] at hi
     cases hi
     exact hne hx
   intro k u
   rw[he]
   by_cases hk:k=a
   ·subst hk
    rw[rup_same]
    constructor
    ·intro hu;cases hu
    ·rintro ⟨y,hy,h5,-⟩
     exact absurd h5 ((hmem y).1 hy).2
   ·rw [rup_ne hk,h4]
    constructor
    ·rintro ⟨y,hy,h5,h6⟩
     exact⟨y,(hmem y).2 ⟨hy,by rw[h5];simpa using hk⟩,h5,h6⟩
    ·rintro ⟨y,hy,h5,h6⟩
     exact⟨y,((hmem y).1 hy).1,h5,h6⟩
theorem RawM.entry (h:RawM w b M) (hK:P.underlying K=some (.int .i64)) (ht:P.underlying t=some (.map K e)) {zv:Value} (hz:(zeroValue e).run P w=.ok zv w) (a:Int):
  ∃(w':World) (v:Value) (n:Int) (M':Int→Option Value),(Instr.mapEntry t (.map (some b)) (.int .i64 a)).run P w=.ok (.tuple #[v,.int .i64 n]) w'∧RawAt w' b M' a n∧(∀k,k≠a→M' k=M k)∧w.mapTurned w' b:=by
 obtain⟨es,c,hb,h2,h3,h4⟩:=h
 rcases RawM.find h2 h4 a with⟨h1,hn,hM⟩|⟨j,x,h1,hj,hx,hM⟩
 ·refine ⟨ChangeMaps.setBlock w b (.map (es.push ⟨.int .i64 a,zv,c⟩) (c+1)),zv,c,_,?_,⟨_,_,ChangeMaps.heap_setBlock_same hb _,keys_push h2,stamped_push h3 hn,h4.push hn,⟨.int .i64 a,zv,c⟩,by simp,rfl,rfl⟩,fun k hk=>rup_ne hk,⟨_,_,_,_,hb,rfl⟩⟩
  simp[Instr.mapEntry,run_underlying ht,MapKept.run_getObj_map hb,MapKept.run_checkKey hK (k:=.int .i64 a) rfl,MapKept.run_findKey hK h1,hz,MapKept.run_setObj_map _ hb,Result.andThen,ChangeMaps.setBlock,goInt]
 ·have hj':es[j]?=some x:=by simpa using hj
  refine⟨ChangeMaps.setBlock w b (.map (es.modify j fun y=>{y with key:=.int .i64 a}) c),x.val,x.born,_,?_,⟨_,_,ChangeMaps.heap_setBlock_same hb _,keys_modify h3 h2 hj' (a:=a) rfl,stamped_mod h3 hj' (fun _=>rfl) hx.symm,Tells.modify (f:=fun y=>{y with key:=.int .i64 a}) h3 h4 hj' hx rfl,_,(mem_modify h3 hj' _ _).2 (.inl rfl),rfl,rfl⟩,fun k hk=>rup_ne hk,⟨_,_,_,_,hb,rfl⟩⟩
  simp[Instr.mapEntry,run_underlying ht,MapKept.run_getObj_map hb,MapKept.run_checkKey hK (k:=.int .i64 a) rfl,MapKept.run_findKey hK h1,hj',hx,MapKept.run_keyThatStays (d:=.int .i64) (k:=.int .i64 a) rfl,MapKept.run_setObj_map _ hb,Result.andThen,ChangeMaps.setBlock,goInt]
theorem RawAt.stored {a n:Int} (h:RawAt w b M a n) (v:Value):
  ∃w',(Instr.entryStore t (.map (some b)) (.int .i64 n) v).run P w=.ok () w'∧RawM w' b (rup M a (some v))∧w.mapTurned w' b:=by
 obtain⟨es,c,hb,h2,h3,h4,x,hx,hk,hn⟩:=h
 subst hn
 obtain⟨j,hj⟩:=List.mem_iff_getElem?.1 hx
 have hj':es[j]?=some x:=by simpa using hj
 have hjl:=(Array.getElem?_eq_some_iff.1 hj').1
 have hf:es.findIdx? (fun y=>(y.born:Int)==x.born)=some j:=by
  rw[Array.findIdx?_eq_some_iff_getElem]
  obtain⟨hl,hv⟩:=Array.getElem?_eq_some_iff.1 hj'
  refine⟨hl,by simp[hv],fun i hi=>?_⟩
  simp only[Bool.not_eq_true,beq_eq_false_iff_ne,ne_eq]
  intro he
  have hil:i < (es.toList.map (·.born)).length:=by simp;omega
  have hii:es[i]?=some es[i]:=Array.getElem?_eq_getElem (by omega)
  have:=(List.getElem?_inj hil h3.2.1 (j:=j)).1 (by simp[hii,hj'];omega)
  omega
 refine⟨ChangeMaps.setBlock w b (.map (es.modify j fun y=>{y with val:=v}) c),?_,⟨_,_,ChangeMaps.heap_setBlock_same hb _,keys_modify h3 h2 hj' (a:=a) hk,stamped_mod h3 hj' (fun _=>rfl) rfl,Tells.modify (f:=fun y=>{y with val:=v}) h3 h4 hj' hk hk⟩,⟨_,_,_,_,hb,rfl⟩⟩
 simp[Instr.entryStore,MapKept.run_getObj_map hb,asInt,asIntOf,hf,MapKept.run_setObj_map _ hb,Result.andThen,ChangeMaps.setBlock]
theorem RawM.wp_store (h:RawM w b M) (hK:P.underlying K=some (.int .i64)) (ht:P.underlying t=some (.map K e)) {a:Int} {v:Value}
  {o:Oper} {act:Act} {Q:Exit→Act→World→Prop} {K':Act→World→Prop} {m x y:Operand} (hop:o.op=Op.mapUpdate t m x y∨o.op=Op.insert t m x y) (hm:act.eval m=.map (some b)) (hx:act.eval x=.int .i64 a) (hy:act.eval y=v)
  (hQ:∀w',RawM w' b (rup M a (some v))→w.mapTurned w' b→K' (act.put o.dst undef) w'):o.wp P act w K' Q:=by
 obtain⟨w',hrun,h1,h2⟩:=h.store hK ht a v
 rcases hop with hop|hop <;>
 ·unfold Oper.wp
  simp only[execOp,hop,hm,hx,hy,Sem.run_bind,hrun,Result.andThen_ok,Sem.run_pure]
  exact hQ w' h1 h2
theorem RawM.wpList_store (h:RawM w b M) (hK:P.underlying K=some (.int .i64)) (ht:P.underlying t=some (.map K e)) {a:Int} {v:Value}
  {ops:Array Oper} {rest:List Oper} {o:Oper} {act:Act} {Q:Exit→Act→World→Prop} {m x y:Operand} (hg:o.guard=none) (hop:o.op=Op.mapUpdate t m x y∨o.op=Op.insert t m x y) (hm:act.eval m=.map (some b)) (hx:act.eval x=.int .i64 a) (hy:act.eval y=v)
  (hQ:∀w',RawM w' b (rup M a (some v))→w.mapTurned w' b→wpList P ops Q rest (act.put o.dst undef) w'):wpList P ops Q (o::rest) act w:=
 wpList_plain hg fun _ hK'=>h.wp_store hK ht hop hm hx hy fun w' h1 h2=>hK' _ _ (hQ w' h1 h2)
theorem RawM.wp_drop (h:RawM w b M) (hK:P.underlying K=some (.int .i64)) (ht:P.underlying t=some (.map K e)) {a:Int}
  {o:Oper} {act:Act} {Q:Exit→Act→World→Prop} {K':Act→World→Prop} {m x:Operand} (hop:o.op=Op.call {callee:=Callee.builtin Builtin.delete,args:=#[m,x],argTypes:=#[t,K]}) (hm:act.eval m=.map (some b)) (hx:act.eval x=.int .i64 a)
  (hQ:∀w',RawM w' b (rup M a none)→w.mapTurned w' b→K' (act.put o.dst (.tuple #[])) w'):o.wp P act w K' Q:=by
 obtain⟨w',hrun,r1,r2⟩:=h.drop hK ht a o.type
 unfold Oper.wp
 simp[execOp,hop,resolve,invoke,builtin,hm,hx,hrun,Result.andThen]
 exact hQ w' r1 r2
theorem RawM.wp_entry (h:RawM w b M) (hK:P.underlying K=some (.int .i64)) (ht:P.underlying t=some (.map K e)) {zv:Value} (hz:(zeroValue e).run P w=.ok zv w) {a:Int}
  {o:Oper} {act:Act} {Q:Exit→Act→World→Prop} {K':Act→World→Prop} {m x:Operand} (hop:o.op=Op.mapEntry t m x) (hm:act.eval m=.map (some b)) (hx:act.eval x=.int .i64 a)
  (hQ:∀(w':World) (v:Value) (n:Int) (M':Int→Option Value),RawAt w' b M' a n→(∀k,k≠a→M' k=M k)→w.mapTurned w' b→K' (act.put o.dst (.tuple #[v,.int .i64 n])) w'):o.wp P act w K' Q:=by
 obtain⟨w',v,n,M',hrun,h1,h2,h3⟩:=h.entry hK ht hz a
 unfold Oper.wp
 simp only[execOp,hop,hm,hx,Sem.run_bind,hrun,Result.andThen_ok,Sem.run_pure]
 exact hQ w' v n M' h1 h2 h3
theorem RawAt.wp_stored {a n:Int} (h:RawAt w b M a n) {v:Value}
  {o:Oper} {act:Act} {Q:Exit→Act→World→Prop} {K':Act→World→Prop} {m s y:Operand} (hop:o.op=Op.entryStore t m s y) (hm:act.eval m=.map (some b)) (hx:act.eval s=.int .i64 n) (hy:act.eval y=v)
  (hQ:∀w',RawM w' b (rup M a (some v))→w.mapTurned w' b→K' (act.put o.dst undef) w'):o.wp P act w K' Q:=by
 obtain⟨w',hrun,h1,h2⟩:=h.stored (P:=P) (t:=t) v
 unfold Oper.wp
 simp only[execOp,hop,hm,hx,hy,Sem.run_bind,hrun,Result.andThen_ok,Sem.run_pure]
 exact hQ w' h1 h2
end
