/- Parts of the proof; the first: What all engines have in common: maps of cells, blocks of one type, one element written. Conditions: those of each theorem, as typed. -/
import Derived.Test.YtkfhgifhfkcehaaGreatDoorQO10
import Derived.Test.YtkfhgifhfkcehaaGreatDoorQO03
import Derived.Test.YtkfhgifhfkcehaaGreatDoorQO04
set_option linter.unusedVariables false
set_option linter.unusedSimpArgs false
set_option linter.unusedSectionVars false
set_option maxRecDepth 100000
set_option maxHeartbeats 4000000
namespace Go.Proofs.YtkfhgifhfkcehaaGreatDoor
open Go.Maps Go.RowKit
section
attribute [local irreducible] xF
abbrev MI:=List (Int×Int)
def yq.putO (s:yq) (i:Nat):Option (Th×Ev)->yq
 |none=>s
 |some y=>s.put i y
def moC (u:Value×Value):List Value:=[u.1,u.2]
theorem moC_len (u:Value×Value):(moC u).length=2:=rfl
abbrev IsMI (w:World) (b n:Nat) (M:MI):Prop:=xg Tryz.prog 3 Rint (Lit.int .i64) (fun n:Int=>.lit (.int .i64 n)) w b n M
def KCe {ε:Type} (r:List (Int×ε)):Prop:=∀p ∈ r,0<=p.1/\p.1 < 4
theorem KCe.dom {ε:Type} {r:List (Int×ε)} (h:KCe r):KDom dI r:=fun p hp=>by have:=h p hp;unfold dI Lit.wf;simp[IntKind.min,IntKind.max,IntKind.bits,IntKind.signed];omega
theorem ksrt_len {ε:Type}:∀(l:List (Int×ε)) (a b:Int),KSrt l->(∀p ∈ l,a<=p.1/\p.1 < b)->(l.length:Int)<=max 0 (b - a)
 |[],a,b,_,_=>by simp;omega
 |x::l,a,b,h,hb=>by
  obtain⟨h1,h2⟩:=List.pairwise_cons.1 h;have h3:=hb x (by simp);have:=ksrt_len l (x.1+1) b h2 fun p hp=>⟨by have:=h1 p hp;omega,(hb p (by simp[hp])).2⟩
  simp only[List.length_cons];omega
theorem KCe.len {ε:Type} {r:List (Int×ε)} (h:KCe r) (hs:KSrt r):r.length<=4:=by have:=ksrt_len r 0 4 hs h;omega
def mbOf:Value->Option Nat
 |.map b=>b
 |_=>none
def mbs (u:Value×Value) (b:Nat):Prop:=mbOf u.1=some b\/mbOf u.2=some b
abbrev MB:=List (Int×Unit)
abbrev IsMB (w:World) (b n:Nat) (M:MB):Prop:=xg Tryz.prog 3 Rbool (Lit.int .i64) (fun _:Unit=>.lit (.bool true)) w b n M
def Kd (M:TypeId->Prop) (w w':World):Prop:=∀(k:Nat) (cs:Array Value) (t:TypeId) (fz:Nat×Nat),w.heap[k]?=some (.cells cs t fz)->¬M t->w'.heap[k]?=some (.cells cs t fz)
def yI (w w':World):Prop:=∀(b:Nat) (es:Array MapEntry) (c:Nat),w.heap[b]?=some (.map es c)->w'.heap[b]?=some (.map es c)
theorem xb {w w':World} {b i:Nat} (h:w.mapTurned w' b) (hi:i≠b):w'.heap[i]?=w.heap[i]?:=by
 obtain⟨es,c,es',c',hb,rfl⟩:=h;exact Go.ChangeMaps.heap_setBlock_other hb _ hi
theorem turned_size {w w':World} {b:Nat} (h:w.mapTurned w' b):w'.heap.size=w.heap.size:=by
 obtain⟨es,c,es',c',hb,rfl⟩:=h;simp[ChangeMaps.setBlock]
theorem Below.turned {w w':World} {b B:Nat} (h:w.mapTurned w' b) (hB:B<=b):Below B w w':=by
 obtain⟨es,c,es',c',hb,rfl⟩:=h;exact⟨rfl,rfl,rfl,by simp[ChangeMaps.setBlock],fun i hi=>Go.ChangeMaps.heap_setBlock_other hb _ (by omega)⟩
section
variable {w w' w1:World} {T T':TypeId->Prop}
theorem Kd.trans (h:Kd T w w1) (k:Kd T w1 w'):Kd T w w':=fun b cs t fz hb ht=>k b cs t fz (h b cs t fz hb ht) ht
theorem Kd.below (h:Below w.heap.size w w'):Kd T w w':=fun _ _ _ _ hb _=>qj hb h (qg hb)
theorem Kd.set {g j:Nat} {cs:Array Value} {t:TypeId} {fz:Nat×Nat} (hg:w.heap[g]?=some (.cells cs t fz)) (ht:T t) (v:Value):Kd T w (w.setCell ⟨g,j,none⟩ v):=fun b cs' t' fz' hb hT=>qH hb (by
 rintro rfl;rw[hg] at hb;simp only[Option.some.injEq,Obj.cells.injEq] at hb;exact hT (hb.2.1▸ht))
theorem Kd.turned {b:Nat} (h:w.mapTurned w' b):Kd T w w':=fun k cs t fz hk _=>(xb h (by
 rintro rfl;obtain⟨es,c,es',c',hb,-⟩:=h;rw[hb] at hk;cases hk)).trans hk
theorem yI.trans (h:yI w w1) (k:yI w1 w'):yI w w':=fun b es c hb=>k b es c (h b es c hb)
theorem yI.below (h:Below w.heap.size w w'):yI w w':=fun _ _ _ hb=>qj hb h (qg hb)
theorem yI.set {g j:Nat} {cs:Array Value} {t:TypeId} {fz:Nat×Nat} (hg:w.heap[g]?=some (.cells cs t fz)) (v:Value):yI w (w.setCell ⟨g,j,none⟩ v):=fun b es c hb=>qH hb (by
 rintro rfl;rw[hg] at hb;cases hb)
theorem qp.kd {α:Type} {f:α->List Value} {e:TypeId} {sz B:Nat} {v:Value} {l:List α} (h:qp f e sz w B v l) (hk:Kd T w w') (he:¬T e):qp f e sz w' B v l:=by
 obtain⟨h1,h2⟩:=h;refine⟨h1,?_⟩;rcases h2 with h2|⟨g,cap,cur,rfl,hg,hh,r⟩
 ·exact .inl h2
 ·exact .inr ⟨g,cap,cur,rfl,hg,hk g cur e _ hh he,r⟩
theorem xq.kd {B:Nat} {v:Value} {l:List (List (List Ac))} (h:xq w B v l) (hk:Kd T w w') (h0:¬T 79) (h1:¬T 80) (h2:¬T 118):xq w' B v l:=
 h.map (fun _ h=>qp.kd h hk h0) (fun _ _ h=>h.map (fun _ h=>qp.kd h hk h1) (fun _ _ h=>qp.kd h hk h2))
theorem Kd.mono {T T':TypeId->Prop} (h:Kd T w w') (hT:∀t,T t->T' t):Kd T' w w':=fun k cs t fz hk ht=>h k cs t fz hk fun e=>ht (hT t e)
theorem Kd.grw {β:Type} {f1:β->List Value} {e1:TypeId} {sz1 B1:Nat} {v1 v2:Value} {l1:List β} (h1:qp f1 e1 sz1 w B1 v1 l1) (hb:Grw w w' v1 v2):Kd (fun t=>t=e1) w w':=fun k cs t fz hk ht=>qN hk hb (qp.neT h1 hk ht)
end
theorem flat_set1:∀(l:List Value) (k:Nat) (u:Value),(l.flatMap yv).set k u=(l.set k u).flatMap yv:=fun l k u=>by rw[flat_val,flat_val]
theorem flat_set2 {α:Type} {f:α->List Value} (hf:∀x,(f x).length=2) {u:α} {a b:Value} (hu:f u=[a,b]):∀(l:List α) (k:Nat),((l.flatMap f).set (k*2) a).set (k*2+1) b=(l.set k u).flatMap f
 |[],k=>by simp
 |x::l,0=>by
  have h:=hf x
  match hx:f x,h with
  |[p,q],_=>simp[hx,hu]
 |x::l,k+1=>by
  have ih:=flat_set2 hf hu l k;have h:=hf x
  match hx:f x,h with
  |[p,q],_=>
   rw[show (k+1)*2=k*2+1+1 by omega];simp[hx,ih]
theorem own_set2 {α:Type} {f:α->List Value} {e:TypeId} {w:World} {B g n c:Nat} {l:List α} (h:qp f e 2 w B (.slice (some ⟨g,0,none⟩) n c) l) (hf:∀x,(f x).length=2) {u:α} {a b:Value} (hu:f u=[a,b]) (k:Nat):
  qp f e 2 ((w.setCell ⟨g,k*2,none⟩ a).setCell ⟨g,k*2+1,none⟩ b) B (.slice (some ⟨g,0,none⟩) n c) (l.set k u):=by
 have hn:=h.len;subst hn;have:=xG (xG h (k*2) a) (k*2+1) b;rw[flat_set2 hf hu] at this;unfold qp;rw[List.length_set];exact this
theorem own_set1 {e:TypeId} {w:World} {B g n c:Nat} {l:List Value} (h:qp yv e 1 w B (.slice (some ⟨g,0,none⟩) n c) l) (u:Value) (k:Nat):qp yv e 1 (w.setCell ⟨g,k,none⟩ u) B (.slice (some ⟨g,0,none⟩) n c) (l.set k u):=by
 have hn:=h.len;subst hn;have:=xG h k u;rw[flat_set1] at this;unfold qp;rw[List.length_set];exact this
theorem flat_setN {α:Type} {f:α->List Value} {n:Nat} (hf:∀x,(f x).length=n) {u c:α} {a:Value} {j:Nat} (hj:j < n) (hu:f u=(f c).set j a):∀(l:List α) (k:Nat),l[k]?=some c->(l.flatMap f).set (k*n+j) a=(l.set k u).flatMap f
 |[],k,h=>by simp at h
 |x::l,0,h=>by
  obtain rfl:x=c:=by simpa using h
  simp only[List.flatMap_cons,List.set_cons_zero,Nat.zero_mul,Nat.zero_add,hu];rw[List.set_append_left _ _ (by rw[hf];exact hj)]
 |x::l,k+1,h=>by
  have ih:=flat_setN hf hj hu l k (by simpa using h);simp only[List.flatMap_cons,List.set_cons_succ];have e:(k+1)*n=k*n+n:=Nat.succ_mul k n;rw[List.set_append_right _ _ (by rw[hf,e];omega),hf,show(k+1)*n+j - n=k*n+j by rw[e];omega,ih]
theorem own_setN {α:Type} {f:α->List Value} {e:TypeId} {w:World} {B g n m c:Nat} {l:List α} (h:qp f e n w B (.slice (some ⟨g,0,none⟩) m c) l) (hf:∀x,(f x).length=n) {u x:α} {a:Value} {j:Nat} (hj:j < n) {k:Nat} (hk:l[k]?=some x) (hu:f u=(f x).set j a):
  qp f e n (w.setCell ⟨g,k*n+j,none⟩ a) B (.slice (some ⟨g,0,none⟩) m c) (l.set k u):=by
 have hn:=h.len;subst hn;have:=xG h (k*n+j) a;rw[flat_setN hf hj hu l k hk] at this;unfold qp;rw[List.length_set];exact this
theorem zeroI (w:World):(zeroValue 3).run Tryz.prog w=.ok (.int .i64 0) w:=by kernel_rfl
abbrev keyI:KeyT Tryz.prog 3 (.int .i64) (.int .i64) dI:=keyT_int Tryz.underlying3
theorem lookOkI {w:World} {f n:Nat} {F:MI} (h:IsMI w f n F) (hd:KDom dI F) {a:Int} (ha:dI a) {r:Option Int} (hf:yz a F=r):(Instr.lookup 133 (.map (some f)) (.int .i64 a) true).run Tryz.prog w=.ok (.tuple #[.int .i64 (r.getD 0),.bool r.isSome]) w:=by
 have:=h.lookOk keyI elem_int hd Tryz.underlying133 (zeroI w) ha;rw[this,hf];cases r <;> rfl
theorem dI_small {x:Int} (h0:0<=x) (h1:x < 4):dI x:=by
 unfold dI Lit.wf;simp[IntKind.min,IntKind.max,IntKind.bits,IntKind.signed];omega
theorem xg.tight {P:Program} {K:TypeId} {R:RdU} {kl:Int->Lit} {ε:Type} {ed:ε->DU} {w:World} {b n:Nat} {M:List (Int×ε)} (h:xg P K R kl ed w b n M):xg P K R kl ed w b M.length M:=by
 obtain⟨es,c,hb,F,hs,hD⟩:=h;refine⟨es,c,hb,F,?_,hD⟩;have:=congrArg Maps.size hD;rw[mapD_size] at this;simp only[Maps.size,length_sorted,List.length_map,Array.length_toList] at this;omega
theorem KCe.upd {ε:Type} {r:List (Int×ε)} (h:KCe r) {a:Int} {v:ε} (h0:0<=a) (h1:a < 4):KCe (upd a v r):=fun p hp=>by
 rcases keys_upd.1 ⟨p.2,hp⟩ with e|⟨u,hu⟩
 ·rw [e];exact⟨h0,h1⟩
 ·exact h (p.1,u) hu
theorem KeepsN.both {N:Nat} {W X Y:World} (h1:RN.KeepsN N W X) (h2:RN.KeepsN N W Y) (hs:X.heap.size<=Y.heap.size):RN.KeepsN N X Y:=⟨hs,fun k hk=>(h2.2 k hk).trans (h1.2 k hk).symm⟩
abbrev RngI (w:World) (b r:Nat) (M:MI) (S:Int->Bool) (cnt:Nat):Prop:=Rng Tryz.prog 3 Rint (Lit.int .i64) (fun n:Int=>.lit (.int .i64 n)) w b r M.length M S cnt
theorem below_next {B r:Nat} {w w1 w2:World} (h:Below B w w1) (hg:w1.grownBy w2 (some r)) (hB:B<=w1.heap.size) (hr:B<=r):Below B w w2:=
 h.grown hg hB fun k e=>by cases e;exact hr
theorem below_ranged {B:Nat} {w w1 w2:World} (h:Below B w w1) (hg:w1.grownBy w2 none) (hB:B<=w1.heap.size):Below B w w2:=
 h.grown hg hB fun k e=>by cases e
theorem Kd.next {T:TypeId->Prop} {w w':World} {r:Nat} (hg:w.grownBy w' (some r)) (hi:∃b since seen c0,w.heap[r]?=some (.mapIter b since seen c0)):Kd T w w':=fun k cs t fz hk _=>(hg.block k (qg hk) (by
 rintro e;cases e;obtain⟨b,s,s',c,hi⟩:=hi;rw[hi] at hk;cases hk)).trans hk
theorem yI.next {w w':World} {r:Nat} (hg:w.grownBy w' (some r)) (hi:∃b since seen c0,w.heap[r]?=some (.mapIter b since seen c0)):yI w w':=fun k es c hk=>(hg.block k (qg hk) (by
 rintro e;cases e;obtain⟨b,s,s',c,hi⟩:=hi;rw[hi] at hk;cases hk)).trans hk
theorem isMI_new {w:World} {b:Nat} (h:w.heap[b]?=some (.map #[] 0)):IsMI w b 0 []:=by
 obtain⟨es,c,h1,h2⟩:IsMI (w.alloc (.map #[] 0)) w.heap.size 0 []:=xg.made w;rw[qu] at h1;obtain⟨rfl,rfl⟩:#[]=es/\0=c:=by simpa using h1
 exact⟨_,_,h,h2⟩
theorem isMB_new {w:World} {b:Nat} (h:w.heap[b]?=some (.map #[] 0)):IsMB w b 0 []:=by
 obtain⟨es,c,h1,h2⟩:IsMB (w.alloc (.map #[] 0)) w.heap.size 0 []:=xg.made w;rw[qu] at h1;obtain⟨rfl,rfl⟩:#[]=es/\0=c:=by simpa using h1
 exact⟨_,_,h,h2⟩
abbrev RngB (w:World) (b r:Nat) (M:MB) (S:Int->Bool) (cnt:Nat):Prop:=Rng Tryz.prog 3 Rbool (Lit.int .i64) (fun _:Unit=>.lit (.bool true)) w b r M.length M S cnt
section
variable {α:Type} {f:α->List Value} {e:TypeId} {sz B:Nat} {P:Program} {o:Oper} {a:Act} {Q:Exit->Act->World->Prop}
theorem wpList_makeN {ops:Array Oper} {rest:List Oper} (hgd:o.guard=none) (s c:Operand) (t:TypeId) (ho:o.op=.makeSlice t s c) (z:Value) (bytes:Nat) (ht:P.underlying t=some (.slice e)) (hinfo:(P.info? e).map (fun i=>(i.zero,i.size,i.bytes))=some (some z,sz,bytes))
  {w:World} {n:Nat} (hs:a.eval s=.int .i64 n) (hc:a.eval c=.int .i64 n) (hn:n<=9223372036854775807) (hby:bytes*n<=140737488355328) (hB:B<=w.heap.size) (x:α) (hx:f x=z.cells.toList) (hz:z.cells.size=sz) (h0:0 < sz)
  (hK:∀w',qp f e sz w' B (.slice (some ⟨w.heap.size,0,none⟩) n n) (List.replicate n x)->Below w.heap.size w w'->w.heap.size+1<=w'.heap.size->wpList P ops Q rest (a.put o.dst (.slice (some ⟨w.heap.size,0,none⟩) n n)) w'):
  wpList P ops Q (o::rest) a w:=
 wpList_plain hgd fun _ hK'=>wp_makeN s c t ho z bytes ht hinfo hs hc hn hby hB x hx hz h0 fun w' h1 h2 h3=>hK' _ _ (hK w' h1 h2 h3)
end
section
variable {w w':World} {ve:Value} {P:Pg}
theorem DrAt.base {B B' bD bW gT gN:Nat} {vc vt pc pt rf:Value} {S:yq} {nx:List Value} (h:DrAt w B bD bW gT gN vc vt ve pc pt rf P S nx) (hB:B'<=B):DrAt w B' bD bW gT gN vc vt ve pc pt rf P S nx:=
 ⟨h.row,Nat.le_trans hB h.hB,h.walk.base hB,qp.base h.pcells hB,h.pthr.map2 hB (fun _ h=>qp.base h hB) (fun _ h=>qp.base h hB) (fun _ _ h=>qp.base h hB),qp.base h.next hB⟩
theorem wDone_in {S:yq} {i:Int} (hl:S.ths.length=P.threads.length) (h:xW P S i=false):∃k:Nat,i=k/\k < P.threads.length:=by
 unfold xW at h
 split at h
 ·cases h
 ·split at h
  ·rename_i h1 t h2
   refine⟨i.toNat,by omega,?_⟩;have:=(List.getElem?_eq_some_iff.1 h2).1;omega
  ·cases h
end
def upI (n:Nat):List Int:=(List.range n).map fun i:Nat=>(i:Int)
theorem upI_succ (n:Nat):upI (n+1)=upI n++[(n:Int)]:=by simp[upI,List.range_succ]
end
section
attribute [local irreducible] xF
theorem h_Clone (ov ev:Value) (os:List Ob) (es:List Ev) (w:World) (ho:Sl w w.heap.size 2 ov os.length (os.flatMap Ob.cells)) (he:Sl w w.heap.size 8 ev es.length (es.flatMap Ev.cells)) (hol:os.length<=100000) (hel:es.length<=100000):
  Calls Tryz.prog 188 #[.agg #[ov,ev]] w (HistRet os es w):=by
 obtain⟨ao,co,rfl,mo⟩:=ho.ex;obtain⟨ae,ce,rfl,me⟩:=he.ex;have b0:Below w.heap.size w ((w.alloc (.cells #[.slice ao os.length co,.slice ae es.length ce] 37)).alloc (.cells #[.slice none 0 0,.slice none 0 0] 37)):=((Below.refl _ w).alloc (Nat.le_refl _) _).alloc (by simp) _;have r0:=qF (o:=.cells #[.slice none 0 0,.slice none 0 0] 37) (qu w (.cells #[.slice ao os.length co,.slice ae es.length ce] 37));have r1:=qL (w:=w.alloc (.cells #[.slice ao os.length co,.slice ae es.length ce] 37)) (o:=.cells #[.slice none 0 0,.slice none 0 0] 37) (g:=w.heap.size+1) (by simp);have z0:((w.alloc (.cells #[.slice ao os.length co,.slice ae es.length ce] 37)).alloc (.cells #[.slice none 0 0,.slice none 0 0] 37)).heap.size=w.heap.size+2:=by simp
 have HO:=qh ho;have HE:=qh he;clear ho he;go_enter Tryz.func188,Tryz.ntmps188;go_wp2_with fail;generalize (w.alloc (.cells #[.slice ao os.length co,.slice ae es.length ce] 37)).alloc (.cells #[.slice none 0 0,.slice none 0 0] 37)=W at *;have B0:=qh b0;have R0:=qh r0;have R1:=qh r1;have d0:=qd r0 0;have d1:=qd r0 1;simp at d0 d1;have lw:w.heap.size < W.heap.size:=by omega
 clear b0 r0 r1;refine qQ (W.heap.size) [0,1,0,3,0,1,3,0,1,0,3,0,1,3,0,2] (.frk [0,1,2,4,5,7,8,9,11,12] (.frk [3] (.fin [6,10,13,14,15]) (.fin [10,6,13,14,15])) (.fin [10,3,6,13,14,15])) (by kernel_rfl) ?_;simp only[yn,qO,qD,sD,sE,sF,sG]
 repeat first|(refine qB fun K hK=>?_;go_simp;refine hK _ _ ?_;clear hK K)|(apply qI;(intro w2 hw2;have hk1:=hw2.cell;have hk3:=hw2.1;clear hw2;go_simp;with_reducible rfl);simp only[Act.put,sA,sB,sC])|refine xH rfl rfl ?_|(refine yB rfl rfl fun K hK=>?_;simp only[Act.put,sA,sB,sC];refine hK _ _ ?_;clear hK K)|refine qy ?_
 have b0:Below W.heap.size W W.drew:=(Below.refl _ W).drew;have s0:=b0.size;refine⟨?_,?_⟩
 ·refine qG (fun K hK=>?_)
  refine yF (f:=Ob.cells) (e:=96) (sz:=2) (B:=W.heap.size) _ _ _ rfl _ 16 Tryz.underlying34 infoO rfl rfl (by first|omega|(simp <;> omega)) (by first|omega|(simp <;> omega)) (by first|omega|(simp <;> omega)) ?_;intro w1 o1A g1 z1;refine hK _ _ (RN.KeepsN.of_below (g1.mono (by have:=b0.size;omega))) ?_;clear hK K;have b1:Below W.heap.size W w1:=b0.trans (g1.mono b0.size);have s1:=b1.size
  repeat first|(refine qB fun K hK=>?_;go_simp;refine hK _ _ ?_;clear hK K)|(apply qI;(intro w2 hw2;have hk1:=hw2.cell;have hk3:=hw2.1;clear hw2;go_simp;with_reducible rfl);simp only[Act.put,sA,sB,sC])|refine xH rfl rfl ?_|(refine yB rfl rfl fun K hK=>?_;simp only[Act.put,sA,sB,sC];refine hK _ _ ?_;clear hK K)|refine qy ?_
  refine⟨?_,?_⟩
  ·refine qG (fun K hK=>?_)
   refine yC _ _ _ rfl _ 16 Tryz.underlying34 infoO rfl o1A os rfl ((HO.o.below B0.o).below (b1.mono (by omega))) (by first|omega|(simp <;> omega)) rfl rfl Ob.len ob_one (by first|omega|(simp <;> omega)) (by first|omega|(simp <;> omega)) ?_;intro v2 w2 o2A g2;have g2b:=g2.below b1.size fun k h=>(o1A.lt k h).1;refine hK _ _ (RN.KeepsN.of_below g2b) ?_;clear hK K;obtain⟨a2,c2,rfl,-⟩:=qp.form2 (show qp Ob.cells 96 2 w2 W.heap.size v2 os from o2A);have o2A:qp Ob.cells 96 2 w2 W.heap.size (.slice a2 os.length c2) os:=o2A;have b2:Below W.heap.size W w2:=b1.trans g2b;have s2:=b2.size
   repeat first|(refine qB fun K hK=>?_;go_simp;refine hK _ _ ?_;clear hK K)|(apply qI;(intro w2 hw2;have hk1:=hw2.cell;have hk3:=hw2.1;clear hw2;go_simp;with_reducible rfl);simp only[Act.put,sA,sB,sC])|refine xH rfl rfl ?_|(refine yB rfl rfl fun K hK=>?_;simp only[Act.put,sA,sB,sC];refine hK _ _ ?_;clear hK K)|refine qy ?_
   refine qG (fun K hK=>?_);refine yF (f:=Ev.cells) (e:=53) (sz:=8) (B:=W.heap.size) _ _ _ rfl _ 64 Tryz.underlying35 infoE rfl rfl (by first|omega|(simp <;> omega)) (by first|omega|(simp <;> omega)) (by first|omega|(simp <;> omega)) ?_;intro w3 o3B g3 z3;refine hK _ _ (RN.KeepsN.of_below (g3.mono (by have:=b2.size;omega))) ?_;clear hK K;have b3:Below W.heap.size W w3:=b2.trans (g3.mono b2.size);have s3:=b3.size;have o3A:=qp.below o2A g3
   repeat first|(refine qB fun K hK=>?_;go_simp;refine hK _ _ ?_;clear hK K)|(apply qI;(intro w2 hw2;have hk1:=hw2.cell;have hk3:=hw2.1;clear hw2;go_simp;with_reducible rfl);simp only[Act.put,sA,sB,sC])|refine xH rfl rfl ?_|(refine yB rfl rfl fun K hK=>?_;simp only[Act.put,sA,sB,sC];refine hK _ _ ?_;clear hK K)|refine qy ?_
   refine qG (fun K hK=>?_);refine yC _ _ _ rfl _ 64 Tryz.underlying35 infoE rfl o3B es rfl ((HE.o.below B0.o).below (b3.mono (by omega))) (by first|omega|(simp <;> omega)) rfl rfl Ev.len ev_one (by first|omega|(simp <;> omega)) (by first|omega|(simp <;> omega)) ?_;intro v4 w4 o4B g4;have g4b:=g4.below b3.size fun k h=>(o3B.lt k h).1;refine hK _ _ (RN.KeepsN.of_below g4b) ?_;clear hK K;obtain⟨a4,c4,rfl,-⟩:=qp.form2 (show qp Ev.cells 53 8 w4 W.heap.size v4 es from o4B);have o4B:qp Ev.cells 53 8 w4 W.heap.size (.slice a4 es.length c4) es:=o4B;have b4:Below W.heap.size W w4:=b3.trans g4b;have s4:=b4.size;have o4A:=qp.grwT o3A o3B (by decide) g4;have OA:=qh o4A;have OB:=qh o4B;have BF:=qh b4;have zF:=b4.size;have RF:=qh (qj R1.o b4 (by omega));have y0:=qd RF.o 0;have y1:=qd RF.o 1;have yf:∀j,w4.frozen? ⟨w.heap.size+1,j,none⟩=false:=fun j=>qq RF.o j;have ly:=qg RF.o;clear g1 g2 g3 g4 b0 b1 b2 b3 b4 d0 d1 o1A o2A o3A o3B o4A o4B
   repeat first|(refine qB fun K hK=>?_;go_simp;refine hK _ _ ?_;clear hK K)|(apply qI;(intro w2 hw2;have hk1:=hw2.cell;have hk3:=hw2.1;clear hw2;go_simp;with_reducible rfl);simp only[Act.put,sA,sB,sC])|refine xH rfl rfl ?_|(refine yB rfl rfl fun K hK=>?_;simp only[Act.put,sA,sB,sC];refine hK _ _ ?_;clear hK K)|refine qy ?_
   refine qK (fun K hK=>?_);go_simp;refine hK _ _ ?_;clear hK K
   repeat first|(refine qB fun K hK=>?_;go_simp;refine hK _ _ ?_;clear hK K)|(apply qI;(intro w2 hw2;have hk1:=hw2.cell;have hk3:=hw2.1;clear hw2;go_simp;with_reducible rfl);simp only[Act.put,sA,sB,sC])|refine xH rfl rfl ?_|(refine yB rfl rfl fun K hK=>?_;simp only[Act.put,sA,sB,sC];refine hK _ _ ?_;clear hK K)|refine qy ?_
   go_wp2;have r4:=row2 (u1:=.slice a2 os.length c2) (u2:=.slice a4 es.length c4) RF.o;have c0:=qd r4 0;have c1:=qd r4 1;simp only[List.getElem?_toArray,List.getElem?_cons_zero,List.getElem?_cons_succ] at c0 c1;refine bodyPost_ret (v:=.agg #[.slice a2 os.length c2,.slice a4 es.length c4]) (by simp[results,Tryz.results188,go_sem,c0,c1]) rfl ⟨_,_,rfl,?_,?_,?_⟩
   ·exact qp.base (qp.box2 OA.o RF.o (by decide)) (by omega)
   ·exact qp.base (qp.box2 OB.o RF.o (by decide)) (by omega)
   ·exact ((B0.o.trans (BF.o.mono (by omega))).setCell (p:=⟨w.heap.size+1,0,none⟩) (by show w.heap.size<=w.heap.size+1;omega) _).setCell (p:=⟨w.heap.size+1,1,none⟩) (by show w.heap.size<=w.heap.size+1;omega) _
  ·refine qG (fun K hK=>?_)
   refine yF (f:=Ev.cells) (e:=53) (sz:=8) (B:=W.heap.size) _ _ _ rfl _ 64 Tryz.underlying35 infoE rfl rfl (by first|omega|(simp <;> omega)) (by first|omega|(simp <;> omega)) (by first|omega|(simp <;> omega)) ?_;intro w2 o2B g2 z2;refine hK _ _ (RN.KeepsN.of_below (g2.mono (by have:=b1.size;omega))) ?_;clear hK K;have b2:Below W.heap.size W w2:=b1.trans (g2.mono b1.size);have s2:=b2.size;have o2A:=qp.below o1A g2
   repeat first|(refine qB fun K hK=>?_;go_simp;refine hK _ _ ?_;clear hK K)|(apply qI;(intro w2 hw2;have hk1:=hw2.cell;have hk3:=hw2.1;clear hw2;go_simp;with_reducible rfl);simp only[Act.put,sA,sB,sC])|refine xH rfl rfl ?_|(refine yB rfl rfl fun K hK=>?_;simp only[Act.put,sA,sB,sC];refine hK _ _ ?_;clear hK K)|refine qy ?_
   refine qG (fun K hK=>?_);refine yC _ _ _ rfl _ 16 Tryz.underlying34 infoO rfl o2A os rfl ((HO.o.below B0.o).below (b2.mono (by omega))) (by first|omega|(simp <;> omega)) rfl rfl Ob.len ob_one (by first|omega|(simp <;> omega)) (by first|omega|(simp <;> omega)) ?_;intro v3 w3 o3A g3;have g3b:=g3.below b2.size fun k h=>(o2A.lt k h).1;refine hK _ _ (RN.KeepsN.of_below g3b) ?_;clear hK K;obtain⟨a3,c3,rfl,-⟩:=qp.form2 (show qp Ob.cells 96 2 w3 W.heap.size v3 os from o3A);have o3A:qp Ob.cells 96 2 w3 W.heap.size (.slice a3 os.length c3) os:=o3A;have b3:Below W.heap.size W w3:=b2.trans g3b;have s3:=b3.size;have o3B:=qp.grwT o2B o2A (by decide) g3
   repeat first|(refine qB fun K hK=>?_;go_simp;refine hK _ _ ?_;clear hK K)|(apply qI;(intro w2 hw2;have hk1:=hw2.cell;have hk3:=hw2.1;clear hw2;go_simp;with_reducible rfl);simp only[Act.put,sA,sB,sC])|refine xH rfl rfl ?_|(refine yB rfl rfl fun K hK=>?_;simp only[Act.put,sA,sB,sC];refine hK _ _ ?_;clear hK K)|refine qy ?_
   refine qG (fun K hK=>?_);refine yC _ _ _ rfl _ 64 Tryz.underlying35 infoE rfl o3B es rfl ((HE.o.below B0.o).below (b3.mono (by omega))) (by first|omega|(simp <;> omega)) rfl rfl Ev.len ev_one (by first|omega|(simp <;> omega)) (by first|omega|(simp <;> omega)) ?_;intro v4 w4 o4B g4;have g4b:=g4.below b3.size fun k h=>(o3B.lt k h).1;refine hK _ _ (RN.KeepsN.of_below g4b) ?_;clear hK K;obtain⟨a4,c4,rfl,-⟩:=qp.form2 (show qp Ev.cells 53 8 w4 W.heap.size v4 es from o4B);have o4B:qp Ev.cells 53 8 w4 W.heap.size (.slice a4 es.length c4) es:=o4B;have b4:Below W.heap.size W w4:=b3.trans g4b;have s4:=b4.size;have o4A:=qp.grwT o3A o3B (by decide) g4;have OA:=qh o4A;have OB:=qh o4B;have BF:=qh b4;have zF:=b4.size;have RF:=qh (qj R1.o b4 (by omega));have y0:=qd RF.o 0;have y1:=qd RF.o 1;have yf:∀j,w4.frozen? ⟨w.heap.size+1,j,none⟩=false:=fun j=>qq RF.o j;have ly:=qg RF.o;clear g1 g2 g3 g4 b0 b1 b2 b3 b4 d0 d1 o1A o2A o2B o3A o3B o4A o4B
   repeat first|(refine qB fun K hK=>?_;go_simp;refine hK _ _ ?_;clear hK K)|(apply qI;(intro w2 hw2;have hk1:=hw2.cell;have hk3:=hw2.1;clear hw2;go_simp;with_reducible rfl);simp only[Act.put,sA,sB,sC])|refine xH rfl rfl ?_|(refine yB rfl rfl fun K hK=>?_;simp only[Act.put,sA,sB,sC];refine hK _ _ ?_;clear hK K)|refine qy ?_
   refine qK (fun K hK=>?_);go_simp;refine hK _ _ ?_;clear hK K
   repeat first|(refine qB fun K hK=>?_;go_simp;refine hK _ _ ?_;clear hK K)|(apply qI;(intro w2 hw2;have hk1:=hw2.cell;have hk3:=hw2.1;clear hw2;go_simp;with_reducible rfl);simp only[Act.put,sA,sB,sC])|refine xH rfl rfl ?_|(refine yB rfl rfl fun K hK=>?_;simp only[Act.put,sA,sB,sC];refine hK _ _ ?_;clear hK K)|refine qy ?_
   go_wp2;have r4:=row2 (u1:=.slice a3 os.length c3) (u2:=.slice a4 es.length c4) RF.o;have c0:=qd r4 0;have c1:=qd r4 1;simp only[List.getElem?_toArray,List.getElem?_cons_zero,List.getElem?_cons_succ] at c0 c1;refine bodyPost_ret (v:=.agg #[.slice a3 os.length c3,.slice a4 es.length c4]) (by simp[results,Tryz.results188,go_sem,c0,c1]) rfl ⟨_,_,rfl,?_,?_,?_⟩
   ·exact qp.base (qp.box2 OA.o RF.o (by decide)) (by omega)
   ·exact qp.base (qp.box2 OB.o RF.o (by decide)) (by omega)
   ·exact ((B0.o.trans (BF.o.mono (by omega))).setCell (p:=⟨w.heap.size+1,0,none⟩) (by show w.heap.size<=w.heap.size+1;omega) _).setCell (p:=⟨w.heap.size+1,1,none⟩) (by show w.heap.size<=w.heap.size+1;omega) _
 ·refine qG (fun K hK=>?_)
  refine yF (f:=Ev.cells) (e:=53) (sz:=8) (B:=W.heap.size) _ _ _ rfl _ 64 Tryz.underlying35 infoE rfl rfl (by first|omega|(simp <;> omega)) (by first|omega|(simp <;> omega)) (by first|omega|(simp <;> omega)) ?_;intro w1 o1B g1 z1;refine hK _ _ (RN.KeepsN.of_below (g1.mono (by have:=b0.size;omega))) ?_;clear hK K;have b1:Below W.heap.size W w1:=b0.trans (g1.mono b0.size);have s1:=b1.size
  repeat first|(refine qB fun K hK=>?_;go_simp;refine hK _ _ ?_;clear hK K)|(apply qI;(intro w2 hw2;have hk1:=hw2.cell;have hk3:=hw2.1;clear hw2;go_simp;with_reducible rfl);simp only[Act.put,sA,sB,sC])|refine xH rfl rfl ?_|(refine yB rfl rfl fun K hK=>?_;simp only[Act.put,sA,sB,sC];refine hK _ _ ?_;clear hK K)|refine qy ?_
  refine qG (fun K hK=>?_);refine yF (f:=Ob.cells) (e:=96) (sz:=2) (B:=W.heap.size) _ _ _ rfl _ 16 Tryz.underlying34 infoO rfl rfl (by first|omega|(simp <;> omega)) (by first|omega|(simp <;> omega)) (by first|omega|(simp <;> omega)) ?_;intro w2 o2A g2 z2;refine hK _ _ (RN.KeepsN.of_below (g2.mono (by have:=b1.size;omega))) ?_;clear hK K;have b2:Below W.heap.size W w2:=b1.trans (g2.mono b1.size);have s2:=b2.size;have o2B:=qp.below o1B g2
  repeat first|(refine qB fun K hK=>?_;go_simp;refine hK _ _ ?_;clear hK K)|(apply qI;(intro w2 hw2;have hk1:=hw2.cell;have hk3:=hw2.1;clear hw2;go_simp;with_reducible rfl);simp only[Act.put,sA,sB,sC])|refine xH rfl rfl ?_|(refine yB rfl rfl fun K hK=>?_;simp only[Act.put,sA,sB,sC];refine hK _ _ ?_;clear hK K)|refine qy ?_
  refine qG (fun K hK=>?_);refine yC _ _ _ rfl _ 16 Tryz.underlying34 infoO rfl o2A os rfl ((HO.o.below B0.o).below (b2.mono (by omega))) (by first|omega|(simp <;> omega)) rfl rfl Ob.len ob_one (by first|omega|(simp <;> omega)) (by first|omega|(simp <;> omega)) ?_;intro v3 w3 o3A g3;have g3b:=g3.below b2.size fun k h=>(o2A.lt k h).1;refine hK _ _ (RN.KeepsN.of_below g3b) ?_;clear hK K;obtain⟨a3,c3,rfl,-⟩:=qp.form2 (show qp Ob.cells 96 2 w3 W.heap.size v3 os from o3A);have o3A:qp Ob.cells 96 2 w3 W.heap.size (.slice a3 os.length c3) os:=o3A;have b3:Below W.heap.size W w3:=b2.trans g3b;have s3:=b3.size;have o3B:=qp.grwT o2B o2A (by decide) g3
  repeat first|(refine qB fun K hK=>?_;go_simp;refine hK _ _ ?_;clear hK K)|(apply qI;(intro w2 hw2;have hk1:=hw2.cell;have hk3:=hw2.1;clear hw2;go_simp;with_reducible rfl);simp only[Act.put,sA,sB,sC])|refine xH rfl rfl ?_|(refine yB rfl rfl fun K hK=>?_;simp only[Act.put,sA,sB,sC];refine hK _ _ ?_;clear hK K)|refine qy ?_
  refine qG (fun K hK=>?_);refine yC _ _ _ rfl _ 64 Tryz.underlying35 infoE rfl o3B es rfl ((HE.o.below B0.o).below (b3.mono (by omega))) (by first|omega|(simp <;> omega)) rfl rfl Ev.len ev_one (by first|omega|(simp <;> omega)) (by first|omega|(simp <;> omega)) ?_;intro v4 w4 o4B g4;have g4b:=g4.below b3.size fun k h=>(o3B.lt k h).1;refine hK _ _ (RN.KeepsN.of_below g4b) ?_;clear hK K;obtain⟨a4,c4,rfl,-⟩:=qp.form2 (show qp Ev.cells 53 8 w4 W.heap.size v4 es from o4B);have o4B:qp Ev.cells 53 8 w4 W.heap.size (.slice a4 es.length c4) es:=o4B;have b4:Below W.heap.size W w4:=b3.trans g4b;have s4:=b4.size;have o4A:=qp.grwT o3A o3B (by decide) g4;have OA:=qh o4A;have OB:=qh o4B;have BF:=qh b4;have zF:=b4.size;have RF:=qh (qj R1.o b4 (by omega));have y0:=qd RF.o 0;have y1:=qd RF.o 1;have yf:∀j,w4.frozen? ⟨w.heap.size+1,j,none⟩=false:=fun j=>qq RF.o j;have ly:=qg RF.o;clear g1 g2 g3 g4 b0 b1 b2 b3 b4 d0 d1 o1B o2A o2B o3A o3B o4A o4B
  repeat first|(refine qB fun K hK=>?_;go_simp;refine hK _ _ ?_;clear hK K)|(apply qI;(intro w2 hw2;have hk1:=hw2.cell;have hk3:=hw2.1;clear hw2;go_simp;with_reducible rfl);simp only[Act.put,sA,sB,sC])|refine xH rfl rfl ?_|(refine yB rfl rfl fun K hK=>?_;simp only[Act.put,sA,sB,sC];refine hK _ _ ?_;clear hK K)|refine qy ?_
  refine qK (fun K hK=>?_);go_simp;refine hK _ _ ?_;clear hK K
  repeat first|(refine qB fun K hK=>?_;go_simp;refine hK _ _ ?_;clear hK K)|(apply qI;(intro w2 hw2;have hk1:=hw2.cell;have hk3:=hw2.1;clear hw2;go_simp;with_reducible rfl);simp only[Act.put,sA,sB,sC])|refine xH rfl rfl ?_|(refine yB rfl rfl fun K hK=>?_;simp only[Act.put,sA,sB,sC];refine hK _ _ ?_;clear hK K)|refine qy ?_
  go_wp2;have r4:=row2 (u1:=.slice a3 os.length c3) (u2:=.slice a4 es.length c4) RF.o;have c0:=qd r4 0;have c1:=qd r4 1;simp only[List.getElem?_toArray,List.getElem?_cons_zero,List.getElem?_cons_succ] at c0 c1;refine bodyPost_ret (v:=.agg #[.slice a3 os.length c3,.slice a4 es.length c4]) (by simp[results,Tryz.results188,go_sem,c0,c1]) rfl ⟨_,_,rfl,?_,?_,?_⟩
  ·exact qp.base (qp.box2 OA.o RF.o (by decide)) (by omega)
  ·exact qp.base (qp.box2 OB.o RF.o (by decide)) (by omega)
  ·exact ((B0.o.trans (BF.o.mono (by omega))).setCell (p:=⟨w.heap.size+1,0,none⟩) (by show w.heap.size<=w.heap.size+1;omega) _).setCell (p:=⟨w.heap.size+1,1,none⟩) (by show w.heap.size<=w.heap.size+1;omega) _
end
section
attribute [local irreducible] xF
theorem qp.cap {α:Type} {f:α->List Value} {e:TypeId} {sz n c B:Nat} {a:Option Addr} {w:World} {l:List α} (h:qp f e sz w B (.slice a n c) l):l.length<=c:=by
 obtain⟨-,h|⟨g,cap,cur,hv,-,-,hc,-⟩⟩:=h
 ·omega
 ·simp only[Value.slice.injEq] at hv
  omega
theorem Sl.take {α:Type} {f:α->List Value} {w:World} {B sz n c:Nat} {a:Option Addr} {l:List α} (hf:∀x,(f x).length=sz) (h:Sl w B sz (.slice a n c) n (l.flatMap f)) (hl:l.length=n) {m:Nat} (hm:m<=n):Sl w B sz (.slice a m c) m ((l.take m).flatMap f):=by
 obtain⟨a',c',hv,hn,hlen,hc⟩:=h;simp only[Value.slice.injEq,true_and] at hv;obtain⟨rfl,rfl⟩:=hv;refine⟨a,c,rfl,by omega,?_,fun h0=>?_⟩
 ·have:∀l:List α,(l.flatMap f).length=l.length*sz:=by
   intro l
   induction l with
   |nil=>simp
   |cons x l ih=>simp[ih,hf,Nat.add_mul,Nat.add_comm]
  rw[this,List.length_take];congr 1;omega
 ·obtain ⟨b,off,ha,hb,hcc⟩:=hc (by omega)
  refine⟨b,off,ha,hb,fun j u hu=>hcc j u ?_⟩;have hp:(l.take m).flatMap f <+:l.flatMap f:=by
   rw[←List.take_append_drop m l,List.flatMap_append,List.take_append_drop];exact List.prefix_append _ _
  obtain⟨r,hr⟩:=hp;rw[←hr];exact List.getElem?_append_left (List.getElem?_eq_some_iff.1 hu).1▸hu
theorem sizeE (w:World):(sizeOf (Tryz.prog.elem 35)).run Tryz.prog w=.ok 8 w:=by kernel_rfl
theorem h_Prefix (ov:Value) (ae:Option Addr) (ce:Nat) (os:List Ob) (es:List Ev) (n:Nat) (w:World) (ho:Sl w w.heap.size 2 ov os.length (os.flatMap Ob.cells)) (he:Sl w w.heap.size 8 (.slice ae es.length ce) es.length (es.flatMap Ev.cells)) (hcap:es.length<=ce) (hol:os.length<=100000) (hel:es.length<=100000):
  Calls Tryz.prog 190 #[.agg #[ov,.slice ae es.length ce],.int .i64 n] w (HistRet os (es.take n) w):=by
 obtain⟨ao,co,rfl,mo⟩:=ho.ex;obtain⟨m,hm⟩:∃m,m=min n es.length:=⟨_,rfl⟩
 have hmin:∀(ts:Array TypeId) (ty:TypeId) (X:World),(Builtin.min_ ts ty #[.int .i64 (n:Int),.int .i64 (es.length:Int)]).run Tryz.prog X=.ok (.int .i64 (m:Int)) X:=fun ts ty X=>by
  rw[run_min_int2,hm];congr 2;split <;> omega
 have hmax:∀(ts:Array TypeId) (ty:TypeId) (X:World),(Builtin.max_ ts ty #[.int .i64 (0:Int),.int .i64 (m:Int)]).run Tryz.prog X=.ok (.int .i64 (m:Int)) X:=fun ts ty X=>by
  rw[run_max_int2];congr 2;split <;> omega
 have hsl:∀X:World,(Instr.slice 35 (.slice ae es.length ce) none (some (.int .i64 (m:Int))) none).run Tryz.prog X=.ok (.slice ae m ce) X:=fun X=>by
  rw[run_slice_h X _ _ _ _ Tryz.underlying35 _ _ (by omega) (by omega),sizeE];simp only[Result.andThen,sliced,Int.toNat_natCast,Nat.sub_zero];congr 2
  split
  ·rfl
  ·cases ae <;> simp[Addr.add]
 have hst:es.take n=es.take m:=by
  rw[hm];rcases Nat.le_total n es.length with h|h
  ·rw [Nat.min_eq_left h]
  ·rw [Nat.min_eq_right h,List.take_of_length_le h,List.take_length]
 rw[hst];have hml:m<=es.length:=by omega
 have hlt:(es.take m).length=m:=by rw[List.length_take];omega
 have b0:Below w.heap.size w ((w.alloc (.cells #[.slice ao os.length co,.slice ae m ce] 37)).alloc (.cells #[.slice none 0 0,.slice none 0 0] 37)):=((Below.refl _ w).alloc (Nat.le_refl _) _).alloc (by simp) _;have r0:=qF (o:=.cells #[.slice none 0 0,.slice none 0 0] 37) (qu w (.cells #[.slice ao os.length co,.slice ae m ce] 37));have r1:=qL (w:=w.alloc (.cells #[.slice ao os.length co,.slice ae m ce] 37)) (o:=.cells #[.slice none 0 0,.slice none 0 0] 37) (g:=w.heap.size+1) (by simp);have z0:((w.alloc (.cells #[.slice ao os.length co,.slice ae m ce] 37)).alloc (.cells #[.slice none 0 0,.slice none 0 0] 37)).heap.size=w.heap.size+2:=by simp
 have hcl:=qh (h_Clone _ _ os (es.take m) _ ((ho.below b0).more (by omega)) (show Sl _ _ 8 (.slice ae m ce) (es.take m).length _ from by rw[hlt];exact((he.take Ev.len rfl hml).below b0).more (by omega)) hol (by rw[hlt];omega));have HLT:=qh hlt;clear ho he hst hm hlt;generalize es.take m=t at *;go_enter Tryz.func190,Tryz.ntmps190;go_wp2_with fail;have B0:=qh b0;have R1:=qh r1;clear b0 r1 r0;generalize (w.alloc (.cells #[.slice ao os.length co,.slice ae m ce] 37)).alloc (.cells #[.slice none 0 0,.slice none 0 0] 37)=W at *;refine(hcl.o).mono ?_;rintro e V ⟨vo,ve,rfl,oo,oe,bV⟩;obtain⟨a2,c2,rfl,-⟩:=oo.form2;obtain⟨a4,c4,rfl,-⟩:=oe.form2;have OA:=qh oo;have OB:=qh oe;have BF:=qh bV;have zF:=bV.size;have RF:=qh (qj R1.o bV (by omega));have y0:=qd RF.o 0;have y1:=qd RF.o 1;have yf:∀j,V.frozen? ⟨w.heap.size+1,j,none⟩=false:=fun j=>qq RF.o j;have ly:=qg RF.o;clear oo oe bV hcl;go_wp2;have r4:=row2 (u1:=.slice a2 os.length c2) (u2:=.slice a4 t.length c4) RF.o;have c0:=qd r4 0;have c1:=qd r4 1;simp only[List.getElem?_toArray,List.getElem?_cons_zero,List.getElem?_cons_succ] at c0 c1;refine bodyPost_ret (v:=.agg #[.slice a2 os.length c2,.slice a4 t.length c4]) (by simp[results,Tryz.results190,go_sem,c0,c1]) rfl ⟨_,_,rfl,?_,?_,?_⟩
 ·exact qp.base (qp.box2 OA.o RF.o (by decide)) (by omega)
 ·exact qp.base (qp.box2 OB.o RF.o (by decide)) (by omega)
 ·exact ((B0.o.trans (BF.o.mono (by omega))).setCell (p:=⟨w.heap.size+1,0,none⟩) (by show w.heap.size<=w.heap.size+1;omega) _).setCell (p:=⟨w.heap.size+1,1,none⟩) (by show w.heap.size<=w.heap.size+1;omega) _
end
section
attribute [local irreducible] xF
def SC (x:Int):List Value:=[.int .i64 1,.int .i64 x,.slice none 0 0,.slice none 0 0]
theorem SC_len (x:Int):(SC x).length=4:=rfl
abbrev scV (x:Int):Value:=.agg #[.int .i64 1,.int .i64 x,.slice none 0 0,.slice none 0 0]
theorem infoSC:(Tryz.prog.info? 99).map (fun i=>(i.zero,i.size,i.bytes))=some (some (.agg #[.int .i64 0,.int .i64 0,.slice none 0 0,.slice none 0 0]),4,64):=by kernel_rfl
theorem sc_one (x:Int):∀u ∈ SC x,u.oneCell'=true:=by intro u hu;simp[SC] at hu;rcases hu with rfl|rfl|rfl <;> rfl
abbrev OwnS:=qp SC 99 4
abbrev SlS (w:World) (B:Nat) (v:Value) (σ:List Int):Prop:=Sl w B 4 v σ.length (σ.flatMap SC)
abbrev stV (v:Value):Value:=.agg #[v]
theorem qp.objT {α:Type} {f:α->List Value} {e:TypeId} {sz:Nat} {w:World} {B g n c:Nat} {l:List α} (h:qp f e sz w B (.slice (some ⟨g,0,none⟩) n c) l):∃cs,w.heap[g]?=some (.cells cs e (0,0)):=by
 obtain⟨-,h2⟩:=h;rcases h2 with⟨h2,-⟩|⟨g',cap,cur,hv,-,hh,-⟩
 ·cases h2
 ·simp only[Value.slice.injEq,Option.some.injEq,Addr.mk.injEq,and_true] at hv
  obtain⟨rfl,-,-⟩:=hv;exact⟨cur,hh⟩
theorem flat_setS:∀(l:List Int) (k:Nat) (x:Int),k < l.length->(((((l.flatMap SC).set (k*4) (.int .i64 1)).set (k*4+1) (.int .i64 x)).set (k*4+2) (.slice none 0 0)).set (k*4+3) (.slice none 0 0))=(l.set k x).flatMap SC
 |[],k,x,h=>by simp at h
 |y::l,0,x,h=>by simp[SC]
 |y::l,k+1,x,h=>by
  have ih:=flat_setS l k x (by simpa using h);rw[show (k+1)*4=k*4+1+1+1+1 by omega];simp only[SC,List.flatMap_cons,List.cons_append,List.nil_append,List.set_cons_succ,List.cons.injEq,true_and];exact ih
theorem ownS_set {w:World} {B g n c:Nat} {l:List Int} (h:OwnS w B (.slice (some ⟨g,0,none⟩) n c) l) {k:Nat} (hk:k < l.length) (x:Int):
  OwnS ((((w.setCell ⟨g,k*4,none⟩ (.int .i64 1)).setCell ⟨g,k*4+1,none⟩ (.int .i64 x)).setCell ⟨g,k*4+2,none⟩ (.slice none 0 0)).setCell ⟨g,k*4+3,none⟩ (.slice none 0 0)) B (.slice (some ⟨g,0,none⟩) n c) (l.set k x):=by
 have hn:=qp.len h;subst hn;have:=xG (xG (xG (xG h (k*4) (.int .i64 1)) (k*4+1) (.int .i64 x)) (k*4+2) (.slice none 0 0)) (k*4+3) (.slice none 0 0);rw[flat_setS l k x hk] at this;unfold OwnS qp;rw[List.length_set];exact this
def SmallV (σ:List Int):Prop:=∀x ∈ σ,-1000000000<=x/\x<=1000000000
theorem l_All (v:Value) (σ:List Int) (w:World) (h:SlS w w.heap.size v σ) (hl:σ.length<=1000):
  Calls Tryz.prog 75 #[.agg #[v]] w fun e w'=>∃v',e=.returned v'/\OwnS w' w.heap.size v' σ/\Below w.heap.size w w':=by
 obtain⟨a,c,rfl,hm⟩:=h.ex;have b0:Below w.heap.size w (w.alloc (.cells #[.slice a σ.length c] 44)):=(Below.refl _ w).alloc (Nat.le_refl _) _;have r0:=qu w (.cells #[.slice a σ.length c] 44);have h1:=h.below b0;have hz0:w.heap.size < (w.alloc (.cells #[.slice a σ.length c] 44)).heap.size:=by simp
 go_enter Tryz.func75,Tryz.ntmps75;go_wp2;generalize w.alloc (.cells #[.slice a σ.length c] 44)=W at *;have y0:=qd r0 0;simp at y0;have H:=qh h1;have B0:=qh b0;clear h h1 b0 r0;refine qQ (W.heap.size) [0,1,0,3,0,1,2,0] (.fin [0,1,2,4,5,3,6,7]) (by kernel_rfl) ?_;simp only[yn,qO,qD,sD,sE,sF,sG]
 repeat first|(refine qB fun K hK=>?_;go_simp;refine hK _ _ ?_;clear hK K)|(apply qI;(intro w2 hw2;have hk1:=hw2.cell;have hk3:=hw2.1;clear hw2;go_simp;with_reducible rfl);simp only[Act.put,sA,sB,sC])
 refine qG (fun K hK=>?_);refine yF (f:=SC) (e:=99) (sz:=4) (B:=W.heap.size) _ _ _ rfl _ 64 Tryz.underlying42 infoSC rfl rfl (by first|omega|(simp <;> omega)) (by first|omega|(simp <;> omega)) (by first|omega|(simp <;> omega)) ?_;intro w1 o1 b1 z1;refine hK _ _ (RN.KeepsN.of_below b1) ?_;have b1:Below W.heap.size W w1:=(Below.refl _ W).drew.trans b1;have z1:W.heap.size+1<=w1.heap.size:=z1;clear hK K;refine qK (fun K hK=>?_);refine yC _ _ _ rfl _ 64 Tryz.underlying42 infoSC rfl o1 σ rfl (H.o.below (b1.mono (Nat.le_of_lt hz0))) (by first|omega|(simp <;> omega)) rfl rfl SC_len sc_one (by first|omega|(simp <;> omega)) (by first|omega|(simp <;> omega)) ?_;intro v' w2 o2 g2;refine hK _ _ ?_;clear hK K;have b2:=b1.trans (g2.below b1.size fun k h=>(o1.lt k h).1);have O2:=qh ((show OwnS w2 W.heap.size v' σ from o2).base (Nat.le_of_lt hz0));have B2:=qh (B0.o.trans (b2.mono (Nat.le_of_lt hz0)));clear o1 b1 g2 o2 b2
 repeat first|(refine qB fun K hK=>?_;go_simp;refine hK _ _ ?_;clear hK K)|refine qy ?_
 go_wp2;go_ret;exact⟨v',rfl,O2.o,B2.o⟩
theorem l_Of (v:Value) (σ:List Int) (w:World) (h:SlS w w.heap.size v σ) (hl:σ.length<=1000):
  Calls Tryz.prog 83 #[v] w fun e w'=>∃v',e=.returned (.agg #[v'])/\OwnS w' w.heap.size v' σ/\Below w.heap.size w w':=by
 obtain⟨a,c,rfl,hm⟩:=h.ex;have b0:Below w.heap.size w (w.alloc (.cells #[.slice none 0 0] 44)):=(Below.refl _ w).alloc (Nat.le_refl _) _;have r0:=qu w (.cells #[.slice none 0 0] 44);have h1:=h.below b0;have hz0:w.heap.size < (w.alloc (.cells #[.slice none 0 0] 44)).heap.size:=by simp
 go_enter Tryz.func83,Tryz.ntmps83;go_wp2_with (at_make;refine wpList_makeF (f:=SC) (e:=99) (sz:=4) (B:=w.heap.size+1) rfl _ _ _ rfl _ 64 Tryz.underlying42 infoSC rfl rfl (by first|omega|(simp <;> omega)) (by first|omega|(simp <;> omega)) (by first|omega|(simp <;> omega)) ?_;refine qW.halt ?_)
 refine qW.go ?_;generalize w.alloc (.cells #[.slice none 0 0] 44)=W at *;intro w1 o1 b1 z1;have r1:=qj r0 b1 (by omega);have src:=h1.below (b1.mono (by omega));have hzW:w.heap.size+1<=W.heap.size:=by omega
 go_wp2_with (at_builtin;refine wpList_appA rfl _ _ _ rfl _ 64 Tryz.underlying42 infoSC rfl o1 σ rfl src (by first|omega|(simp <;> omega)) rfl rfl SC_len sc_one (by first|omega|(simp <;> omega)) (by first|omega|(simp <;> omega)) ?_;refine qW.halt ?_)
 refine qW.go ?_;intro v' w2 o2 g2;have b2:=b1.trans (g2.below (by omega) fun k h=>(o1.lt k h).1);have r2:=qj r0 b2 (by omega);have o2:OwnS w2 (w.heap.size+1) v' σ:=o2;obtain⟨a',c',rfl,-⟩:=(qp.sl o2).ex;have y0:=qd r2 0;simp at y0;have yf:=qq r2 0;have l2:=qg r2;have o3:=qp.set (j:=0) (u:=.slice a' σ.length c') o2 (show w.heap.size < w.heap.size+1 by omega);have r3:=qA r2 0 (.slice a' σ.length c');have b3:Below w.heap.size w (w2.setCell ⟨w.heap.size,0,none⟩ (.slice a' σ.length c')):=(b0.trans (b2.mono (by omega))).setCell (p:=⟨w.heap.size,0,none⟩) (Nat.le_refl _) _;have R3:=qh r3;clear r0 r1 r2 r3 o1 o2 b1 b2 g2 h h1 src z1;go_wp2;have c0:=qd R3.o 0;simp at c0;refine bodyPost_ret (v:=.agg #[.slice a' σ.length c']) (by simp[results,Tryz.results83,go_sem,c0]) rfl ?_;exact⟨_,rfl,o3.base (by omega),b3⟩
theorem l_At (v:Value) (σ:List Int) (i:Nat) (x:Int) (w:World) (h:SlS w w.heap.size v σ) (hx:σ[i]?=some x):
  Calls Tryz.prog 78 #[.agg #[v],.int .i64 i] w fun e w'=>e=.returned (.tuple #[scV x,.bool true])/\Below w.heap.size w w':=by
 obtain⟨a,c,rfl,hm⟩:=h.ex;have hil:=(List.getElem?_eq_some_iff.1 hx).1;obtain⟨b,off,y,rfl,hb,hy,hc⟩:=h.atF SC_len rfl hil;rw[hx] at hy;obtain rfl:=Option.some.inj hy;have c0:=hc 0 (by decide);have c1:=hc 1 (by decide);have c2:=hc 2 (by decide);have c3:=hc 3 (by decide);simp[SC] at c0 c1 c2 c3;have q1:decide ((i:Int) < 0)=false:=by simp
 have q2:decide ((σ.length:Int)<=(i:Int))=false:=by simp;omega
 clear hc h hx hy;go_enter Tryz.func78,Tryz.ntmps78;go_wp2;refine bodyPost_ret (v:=.tuple #[scV x,.bool true]) (by simp[results,Tryz.results78,go_sem]) rfl ?_;exact⟨rfl,((Below.refl _ w).alloc (Nat.le_refl _) _).alloc (by simp) _⟩
theorem l_With (v:Value) (σ:List Int) (i:Nat) (x:Int) (w:World) (h:SlS w w.heap.size v σ) (hl:σ.length<=1000) (hi:i < σ.length):
  Calls Tryz.prog 47 #[.agg #[v],.int .i64 i,scV x] w fun e w'=>∃v',e=.returned (.agg #[v'])/\OwnS w' w.heap.size v' (σ.set i x)/\Below w.heap.size w w':=by
 obtain⟨a,c,rfl,hm⟩:=h.ex;have q1:decide ((i:Int) < 0)=false:=by simp
 have q2:decide ((σ.length:Int)<=(i:Int))=false:=by simp;omega
 have b0:Below w.heap.size w (((w.alloc (.cells #[.slice a σ.length c] 44)).alloc (.cells #[.int .i64 1,.int .i64 x,.slice none 0 0,.slice none 0 0] 99)).alloc (.cells #[.slice none 0 0] 44)):=(((Below.refl _ w).alloc (Nat.le_refl _) _).alloc (by simp) _).alloc (by simp;omega) _;go_enter Tryz.func47,Tryz.ntmps47;go_wp2_with fail;have r0:=qu ((w.alloc (.cells #[.slice a σ.length c] 44)).alloc (.cells #[.int .i64 1,.int .i64 x,.slice none 0 0,.slice none 0 0] 99)) (.cells #[.slice none 0 0] 44);have r1:=qF (o:=.cells #[.slice none 0 0] 44) (qu (w.alloc (.cells #[.slice a σ.length c] 44)) (.cells #[.int .i64 1,.int .i64 x,.slice none 0 0,.slice none 0 0] 99));simp only[World.size_alloc] at r0 r1;have hz:(((w.alloc (.cells #[.slice a σ.length c] 44)).alloc (.cells #[.int .i64 1,.int .i64 x,.slice none 0 0,.slice none 0 0] 99)).alloc (.cells #[.slice none 0 0] 44)).heap.size=w.heap.size+3:=by simp
 generalize ((w.alloc (.cells #[.slice a σ.length c] 44)).alloc (.cells #[.int .i64 1,.int .i64 x,.slice none 0 0,.slice none 0 0] 99)).alloc (.cells #[.slice none 0 0] 44)=W at *;refine(l_Of _ σ W ((h.below b0).more b0.size) hl).mono ?_;rintro e W1 ⟨v',rfl,o1,b1⟩;obtain⟨g,cap,hv,hg,hgl⟩:=(qp.form o1).resolve_left (fun h=>by rw[h.2] at hi;simp at hi);subst hv;have r0:=qj r0 b1 (by omega);have r1:=qj r1 b1 (by omega);have y:=qd r1;have y0:=y 0;have y1:=y 1;have y2:=y 2;have y3:=y 3;simp at y0 y1 y2 y3;have yr:=qd r0 0;simp at yr;have yf:=qq r0 0;have l0:=qg r0;have l1:=qg r1;have hzz:W.heap.size<=W1.heap.size:=b1.size;obtain⟨cs,hgc⟩:=qp.objT o1;have gf:∀j,W1.frozen? ⟨g,j,none⟩=false:=fun j=>qq hgc j;obtain⟨bq,oq,z,hq,-,-,hz4⟩:=(qp.sl o1).atF SC_len rfl hi;simp only[Option.some.injEq,Addr.mk.injEq,and_true] at hq;obtain⟨rfl,rfl⟩:=hq;have g0:=hz4 0 (by decide);have g1:=hz4 1 (by decide);have g2:=hz4 2 (by decide);have g3:=hz4 3 (by decide);simp[SC] at g0 g1 g2 g3;have gl:=qg hgc;clear hgc hz4;have oF:=qp.set (j:=0) (u:=.slice (some ⟨g,0,none⟩) σ.length cap) (ownS_set o1 hi x) (show w.heap.size+2 < W.heap.size by omega);have bF:=((((b1.setCell (p:=⟨g,i*4,none⟩) hg (.int .i64 1)).setCell (p:=⟨g,i*4+1,none⟩) hg (.int .i64 x)).setCell (p:=⟨g,i*4+2,none⟩) hg (.slice none 0 0)).setCell (p:=⟨g,i*4+3,none⟩) hg (.slice none 0 0))
 have rF:=qA (qH (j:=i*4+3) (v:=.slice none 0 0) (qH (j:=i*4+2) (v:=.slice none 0 0) (qH (j:=i*4+1) (v:=.int .i64 x) (qH (j:=i*4) (v:=.int .i64 1) r0 (show g≠w.heap.size+2 by omega)) (show g≠w.heap.size+2 by omega)) (show g≠w.heap.size+2 by omega)) (show g≠w.heap.size+2 by omega)) 0 (.slice (some ⟨g,0,none⟩) σ.length cap);have BF:=qh ((b0.trans (bF.mono (by omega))).setCell (p:=⟨w.heap.size+2,0,none⟩) (show w.heap.size<=w.heap.size+2 by omega) (.slice (some ⟨g,0,none⟩) σ.length cap));have OF:=qh oF;have RF:=qh rF;clear y r0 r1 b0 b1 h o1 oF bF rF;go_wp2_with fail;have c0:=qd (qF (o:=.cells #[.slice (some ⟨g,0,none⟩) σ.length cap] 44) RF.o) 0;simp at c0;refine bodyPost_ret (v:=.agg #[.slice (some ⟨g,0,none⟩) σ.length cap]) (by simp[results,Tryz.results47,go_sem,c0]) rfl ?_;exact⟨_,rfl,by have:=(qp.alloc OF.o (.cells #[.slice (some ⟨g,0,none⟩) σ.length cap] 44)).base (show w.heap.size<=W.heap.size by omega);simpa using this,BF.o.alloc BF.o.size _⟩
end
section
attribute [local irreducible] xF
structure Fd where
 f:FuncId
 tb:Int
 lo:Int
 hi:Int
def Fd.cells (x:Fd):List Value:=[.func (.func x.f) #[] #[],.int .i64 x.tb,.int .i64 x.lo,.int .i64 x.hi]
abbrev Fd.val (x:Fd):Value:=.agg #[.func (.func x.f) #[] #[],.int .i64 x.tb,.int .i64 x.lo,.int .i64 x.hi]
theorem Fd.len (x:Fd):x.cells.length=4:=rfl
theorem infoFd:(Tryz.prog.info? 233).map (fun i=>(i.zero,i.size,i.bytes))=some (some (.agg #[.nilFunc,.int .i64 0,.int .i64 0,.int .i64 0]),4,32):=by kernel_rfl
def qJ:Fd:=⟨221,0,1,1000⟩
theorem e_tx (w:World):Calls Tryz.prog 163 #[] w fun e w'=>e=.returned qJ.val/\Below w.heap.size w w':=by
 have hb:=(Below.refl w.heap.size w).alloc (Nat.le_refl _) (.cells #[.nilFunc,.int .i64 0,.int .i64 0,.int .i64 0] 233);go_enter Tryz.func163,Tryz.ntmps163;go_wp2;refine bodyPost_ret (v:=qJ.val) (by simp[results,Tryz.results163,go_sem,qJ]) rfl ⟨rfl,?_⟩;exact(Below.refl w.heap.size w).alloc (Nat.le_refl _) _
theorem e_tx1 (b:Nat) (w:World):Calls Tryz.prog 221 #[.pointer (some ⟨b,0,none⟩)] w fun e w'=>e=.returned (.pointer (some ⟨b,1,none⟩))/\w'=w:=by
 go_enter Tryz.func221,Tryz.ntmps221;go_wp2;go_ret;exact⟨rfl,rfl⟩
def xt:Fd:=⟨222,0,0,7⟩
theorem e_thread (w:World):Calls Tryz.prog 164 #[] w fun e w'=>e=.returned xt.val/\Below w.heap.size w w':=by
 have hb:=(Below.refl w.heap.size w).alloc (Nat.le_refl _) (.cells #[.nilFunc,.int .i64 0,.int .i64 0,.int .i64 0] 233);go_enter Tryz.func164,Tryz.ntmps164;go_wp2;refine bodyPost_ret (v:=xt.val) (by simp[results,Tryz.results164,go_sem,xt]) rfl ⟨rfl,?_⟩;exact(Below.refl w.heap.size w).alloc (Nat.le_refl _) _
theorem e_thread1 (b:Nat) (w:World):Calls Tryz.prog 222 #[.pointer (some ⟨b,0,none⟩)] w fun e w'=>e=.returned (.pointer (some ⟨b,2,none⟩))/\w'=w:=by
 go_enter Tryz.func222,Tryz.ntmps222;go_wp2;go_ret;exact⟨rfl,rfl⟩
def xV:Fd:=⟨223,0,0,7⟩
theorem e_obj (w:World):Calls Tryz.prog 166 #[] w fun e w'=>e=.returned xV.val/\Below w.heap.size w w':=by
 have hb:=(Below.refl w.heap.size w).alloc (Nat.le_refl _) (.cells #[.nilFunc,.int .i64 0,.int .i64 0,.int .i64 0] 233);go_enter Tryz.func166,Tryz.ntmps166;go_wp2;refine bodyPost_ret (v:=xV.val) (by simp[results,Tryz.results166,go_sem,xV]) rfl ⟨rfl,?_⟩;exact(Below.refl w.heap.size w).alloc (Nat.le_refl _) _
theorem e_obj1 (b:Nat) (w:World):Calls Tryz.prog 223 #[.pointer (some ⟨b,0,none⟩)] w fun e w'=>e=.returned (.pointer (some ⟨b,3,none⟩))/\w'=w:=by
 go_enter Tryz.func223,Tryz.ntmps223;go_wp2;go_ret;exact⟨rfl,rfl⟩
def xU:Fd:=⟨224,3,1,9⟩
theorem e_op (w:World):Calls Tryz.prog 167 #[] w fun e w'=>e=.returned xU.val/\Below w.heap.size w w':=by
 have hb:=(Below.refl w.heap.size w).alloc (Nat.le_refl _) (.cells #[.nilFunc,.int .i64 0,.int .i64 0,.int .i64 0] 233);go_enter Tryz.func167,Tryz.ntmps167;go_wp2;refine bodyPost_ret (v:=xU.val) (by simp[results,Tryz.results167,go_sem,xU]) rfl ⟨rfl,?_⟩;exact(Below.refl w.heap.size w).alloc (Nat.le_refl _) _
theorem e_op1 (b:Nat) (w:World):Calls Tryz.prog 224 #[.pointer (some ⟨b,0,none⟩)] w fun e w'=>e=.returned (.pointer (some ⟨b,4,none⟩))/\w'=w:=by
 go_enter Tryz.func224,Tryz.ntmps224;go_wp2;go_ret;exact⟨rfl,rfl⟩
def fdVa:Fd:=⟨226,0,(-1000000000),1000000000⟩
theorem e_val (w:World):Calls Tryz.prog 169 #[] w fun e w'=>e=.returned fdVa.val/\Below w.heap.size w w':=by
 have hb:=(Below.refl w.heap.size w).alloc (Nat.le_refl _) (.cells #[.nilFunc,.int .i64 0,.int .i64 0,.int .i64 0] 233);go_enter Tryz.func169,Tryz.ntmps169;go_wp2;refine bodyPost_ret (v:=fdVa.val) (by simp[results,Tryz.results169,go_sem,fdVa]) rfl ⟨rfl,?_⟩;exact(Below.refl w.heap.size w).alloc (Nat.le_refl _) _
theorem e_val1 (b:Nat) (w:World):Calls Tryz.prog 226 #[.pointer (some ⟨b,0,none⟩)] w fun e w'=>e=.returned (.pointer (some ⟨b,6,none⟩))/\w'=w:=by
 go_enter Tryz.func226,Tryz.ntmps226;go_wp2;go_ret;exact⟨rfl,rfl⟩
def xp:Fd:=⟨227,4,1,3⟩
theorem e_ret (w:World):Calls Tryz.prog 171 #[] w fun e w'=>e=.returned xp.val/\Below w.heap.size w w':=by
 have hb:=(Below.refl w.heap.size w).alloc (Nat.le_refl _) (.cells #[.nilFunc,.int .i64 0,.int .i64 0,.int .i64 0] 233);go_enter Tryz.func171,Tryz.ntmps171;go_wp2;refine bodyPost_ret (v:=xp.val) (by simp[results,Tryz.results171,go_sem,xp]) rfl ⟨rfl,?_⟩;exact(Below.refl w.heap.size w).alloc (Nat.le_refl _) _
theorem e_ret1 (b:Nat) (w:World):Calls Tryz.prog 227 #[.pointer (some ⟨b,0,none⟩)] w fun e w'=>e=.returned (.pointer (some ⟨b,7,none⟩))/\w'=w:=by
 go_enter Tryz.func227,Tryz.ntmps227;go_wp2;go_ret;exact⟨rfl,rfl⟩
theorem e_list (v:Value) (hv:∃a n c,v=.slice a n c) (w:World):Calls Tryz.prog 161 #[v] w fun e w'=>e=.returned (.func (.func 162) #[] #[.pointer (some ⟨w.heap.size,0,none⟩)])/\w'=w.alloc (.cells #[v] 297):=by
 obtain⟨a,n,c,rfl⟩:=hv;go_enter Tryz.func161,Tryz.ntmps161;go_wp2;go_ret;exact⟨rfl,rfl⟩
theorem e_Of (k:Int) (hk:k=1\/k=2) (w:World):Calls Tryz.prog 74 #[.int .i64 k] w fun e w'=>e=.returned (.int .i64 1)/\w'=w:=by
 rcases hk with rfl|rfl <;>
 ·go_enter Tryz.func74,Tryz.ntmps74
  go_wp2;go_ret;exact⟨rfl,rfl⟩
theorem e_Keyed (k:Int) (hk:k=1\/k=2) (w:World):Calls Tryz.prog 79 #[.int .i64 k] w fun e w'=>e=.returned (.bool false)/\w'=w:=by
 rcases hk with rfl|rfl <;>
 ·go_enter Tryz.func79,Tryz.ntmps79
  go_wp2;go_ret;exact⟨rfl,rfl⟩
theorem e_Valued (k:Int) (hk:k=1\/k=2) (w:World):Calls Tryz.prog 80 #[.int .i64 k] w fun e w'=>e=.returned (.bool (k==2))/\w'=w:=by
 rcases hk with rfl|rfl <;>
 ·go_enter Tryz.func80,Tryz.ntmps80
  go_wp2;go_ret;exact⟨rfl,rfl⟩
end
section
attribute [local irreducible] xF
abbrev fdZ:Value:=.agg #[.nilFunc,.int .i64 0,.int .i64 0,.int .i64 0]
def FdRet (l:List Fd) (i:Nat) (w:World) (e:Ending) (w':World):Prop:=e=.returned (match l[i]? with|some x=>.tuple #[x.val,.bool true]|none=>.tuple #[fdZ,.bool false])/\Below w.heap.size w w'
section
variable {w:World}
theorem e_next (x:Ev) (i:Nat) (hi:i<=100) (b:Nat) (v:Value) (l:List Fd) (h:w.heap[b]?=some (.cells #[v] 297 (0,0))) (hs:Sl w w.heap.size 4 v l.length (l.flatMap Fd.cells)):
  Calls Tryz.prog 162 #[yp x,.int .i64 i,.pointer (some ⟨b,0,none⟩)] w (FdRet l i w):=by
 obtain⟨a,c,rfl,-⟩:=hs.ex;have d0:=qd h 0;have lb:=qg h;have B0:=qh (((Below.refl w.heap.size w).alloc (Nat.le_refl _) (.cells #[.int .i64 x.kind,.int .i64 x.tx,.int .i64 x.thread,.int .i64 x.obj,.int .i64 x.op,.int .i64 x.key,.int .i64 x.val,.int .i64 x.ret] 53)));by_cases hlt:i < l.length
 ·obtain ⟨g,off,y,rfl,hg,hy,hc⟩:=hs.atF Fd.len rfl hlt
  have c0:w.cell? ⟨g,off+i*4,none⟩=some (.func (.func y.f) #[] #[]):=hc 0 (by decide);have c1:w.cell? ⟨g,off+i*4+1,none⟩=some (.int .i64 y.tb):=hc 1 (by decide);have c2:w.cell? ⟨g,off+i*4+2,none⟩=some (.int .i64 y.lo):=hc 2 (by decide);have c3:w.cell? ⟨g,off+i*4+3,none⟩=some (.int .i64 y.hi):=hc 3 (by decide);unfold FdRet;rw[hy];clear hs hc hy h;generalize l.length=n at *;go_enter Tryz.func162,Tryz.ntmps162;go_wp2;refine bodyPost_ret (v:=.tuple #[y.val,.bool true]) (by simp[results,Tryz.results162,go_sem]) rfl ⟨rfl,?_⟩;exact B0.o.alloc (by simp) _
 ·have hn:l[i]?=none:=List.getElem?_eq_none (by omega)
  unfold FdRet;rw[hn];clear hs h;generalize l.length=n at *;go_enter Tryz.func162,Tryz.ntmps162;go_wp2;refine bodyPost_ret (v:=.tuple #[fdZ,.bool false]) (by simp[results,Tryz.results162,go_sem]) rfl ⟨rfl,?_⟩;exact B0.o.alloc (by simp) _
end
theorem e_answer1 {w:World} {b i:Nat} {s:ByteArray} (hi:i < 3) (h:w.heap[b]?=some (.cells #[.int .i64 i] 3 (0,0))) (hs:w.cell? ⟨19,i,none⟩=some (.string s)) (hl:19 < w.heap.size):Calls Tryz.prog 218 #[.pointer (some ⟨b,0,none⟩)] w fun e w'=>e=.returned (.string s)/\w'=w:=by
 have d0:=qd h 0;have lb:=qg h;have q1:decide ((i:Int) < 0)=false:=by simp
 have q2:decide ((3:Int)<=i)=false:=by simp;omega
 have q3:decide ((i:Int)>=3)=false:=by simp;omega
 have q4:decide (3<=i)=false:=by simp;omega
 clear h;go_enter Tryz.func218,Tryz.ntmps218;go_wp2;go_ret;exact⟨rfl,rfl⟩
theorem e_answer2 {w:World} {b i:Nat} {s:ByteArray} (hi:i < 3) (h:w.heap[b]?=some (.cells #[.int .i64 i] 3 (0,0))) (hs:w.cell? ⟨19,i,none⟩=some (.string s)) (hl:19 < w.heap.size):Calls Tryz.prog 214 #[.int .i64 i,.int .i64 3,.func (.func 218) #[] #[.pointer (some ⟨b,0,none⟩)]] w fun e w'=>e=.returned (.tuple #[.string s,.int .i64 3])/\w'=w:=by
 have q1:decide ((i:Int) < 0)=false:=by simp
 have q3:decide ((i:Int)>=3)=false:=by simp;omega
 have HC:=qh (e_answer1 hi h hs hl);clear h hs;go_enter Tryz.func214,Tryz.ntmps214;go_wp2_with fail;refine(HC.o).mono ?_;rintro e w1 ⟨rfl,rfl⟩;go_wp2
 go_ret2
 exact⟨rfl,rfl⟩
theorem e_answer3 {w:World} {i:Nat} {s:ByteArray} (hi:i < 3) (hs:w.cell? ⟨19,i,none⟩=some (.string s)) (hl:19 < w.heap.size):Calls Tryz.prog 160 #[.int .i64 4,.int .i64 i] w fun e w'=>e=.returned (.tuple #[.string s,.int .i64 3])/\Below w.heap.size w w':=by
 have b0:Below w.heap.size w (w.alloc (.cells #[.int .i64 i] 3)):=(Below.refl _ w).alloc (Nat.le_refl _) _;have HC:=qh (e_answer2 hi (qu w (.cells #[.int .i64 i] 3)) (qx b0 hl hs) (by simp;omega));have B0:=qh b0;clear b0 hs;go_enter Tryz.func160,Tryz.ntmps160;go_wp2_with fail;refine(HC.o).mono ?_;rintro e w1 ⟨rfl,rfl⟩;go_wp2
 go_ret2
 exact⟨rfl,B0.o⟩
theorem e_answer {w:World} {i:Nat} {s:ByteArray} (hi:i < 3) (hs:w.cell? ⟨19,i,none⟩=some (.string s)) (hl:19 < w.heap.size):Calls Tryz.prog 119 #[.int .i64 4,.int .i64 ((i:Int)+1)] w fun e w'=>e=.returned (.string s)/\Below w.heap.size w w':=by
 have q1:max ((i:Int)+1) 0=(i:Int)+1:=by omega
 have q2:wrap64 ((i:Int)+1 - 1)=(i:Int):=by rw[IntWalk.wrap64_in _ (by omega)];omega
 have q3:decide ((i:Int)+1 < 0)=false:=by simp <;> omega
 have q4:decide (0 < (i:Int)+1)=true:=by simp <;> omega
 have HC:=qh (e_answer3 hi hs hl);clear hs;go_enter Tryz.func119,Tryz.ntmps119;go_wp2_with fail;refine(HC.o).mono ?_;rintro e w1 ⟨rfl,hb⟩;have HB:=qh hb;clear hb;go_wp2;go_ret;exact⟨rfl,HB.o⟩
theorem e_object1 {w:World} {b i:Nat} {s:ByteArray} (hi:i < 4) (h:w.heap[b]?=some (.cells #[.int .i64 i] 3 (0,0))) (hs:w.cell? ⟨16,i,none⟩=some (.string s)) (hl:16 < w.heap.size):Calls Tryz.prog 215 #[.pointer (some ⟨b,0,none⟩)] w fun e w'=>e=.returned (.string s)/\w'=w:=by
 have d0:=qd h 0;have lb:=qg h;have q1:decide ((i:Int) < 0)=false:=by simp
 have q2:decide ((4:Int)<=i)=false:=by simp;omega
 have q3:decide ((i:Int)>=4)=false:=by simp;omega
 have q4:decide (4<=i)=false:=by simp;omega
 clear h;go_enter Tryz.func215,Tryz.ntmps215;go_wp2;go_ret;exact⟨rfl,rfl⟩
theorem e_object2 {w:World} {b i:Nat} {s:ByteArray} (hi:i < 4) (h:w.heap[b]?=some (.cells #[.int .i64 i] 3 (0,0))) (hs:w.cell? ⟨16,i,none⟩=some (.string s)) (hl:16 < w.heap.size):Calls Tryz.prog 214 #[.int .i64 i,.int .i64 4,.func (.func 215) #[] #[.pointer (some ⟨b,0,none⟩)]] w fun e w'=>e=.returned (.tuple #[.string s,.int .i64 4])/\w'=w:=by
 have q1:decide ((i:Int) < 0)=false:=by simp
 have q3:decide ((i:Int)>=4)=false:=by simp;omega
 have HC:=qh (e_object1 hi h hs hl);clear h hs;go_enter Tryz.func214,Tryz.ntmps214;go_wp2_with fail;refine(HC.o).mono ?_;rintro e w1 ⟨rfl,rfl⟩;go_wp2
 go_ret2
 exact⟨rfl,rfl⟩
theorem e_object3 {w:World} {i:Nat} {s:ByteArray} (hi:i < 4) (hs:w.cell? ⟨16,i,none⟩=some (.string s)) (hl:16 < w.heap.size):Calls Tryz.prog 160 #[.int .i64 1,.int .i64 i] w fun e w'=>e=.returned (.tuple #[.string s,.int .i64 4])/\Below w.heap.size w w':=by
 have b0:Below w.heap.size w (w.alloc (.cells #[.int .i64 i] 3)):=(Below.refl _ w).alloc (Nat.le_refl _) _;have HC:=qh (e_object2 hi (qu w (.cells #[.int .i64 i] 3)) (qx b0 hl hs) (by simp;omega));have B0:=qh b0;clear b0 hs;go_enter Tryz.func160,Tryz.ntmps160;go_wp2_with fail;refine(HC.o).mono ?_;rintro e w1 ⟨rfl,rfl⟩;go_wp2
 go_ret2
 exact⟨rfl,B0.o⟩
theorem e_object {w:World} {i:Nat} {s:ByteArray} (hi:i < 4) (hs:w.cell? ⟨16,i,none⟩=some (.string s)) (hl:16 < w.heap.size):Calls Tryz.prog 119 #[.int .i64 1,.int .i64 ((i:Int)+1)] w fun e w'=>e=.returned (.string s)/\Below w.heap.size w w':=by
 have q1:max ((i:Int)+1) 0=(i:Int)+1:=by omega
 have q2:wrap64 ((i:Int)+1 - 1)=(i:Int):=by rw[IntWalk.wrap64_in _ (by omega)];omega
 have q3:decide ((i:Int)+1 < 0)=false:=by simp <;> omega
 have q4:decide (0 < (i:Int)+1)=true:=by simp <;> omega
 have HC:=qh (e_object3 hi hs hl);clear hs;go_enter Tryz.func119,Tryz.ntmps119;go_wp2_with fail;refine(HC.o).mono ?_;rintro e w1 ⟨rfl,hb⟩;have HB:=qh hb;clear hb;go_wp2;go_ret;exact⟨rfl,HB.o⟩
end
