/- Parts of the proof; the first: Programs that may be: valid, Valid. Conditions: those of each theorem, as typed. -/
import Derived.Test.YtcpfbphcldocpaaGreatDoorQC01
import Derived.Laws.MakeOwn
import Derived.OwnWalk
import Derived.Laws.EntriesVeiled
set_option linter.unusedVariables false
set_option linter.unusedSimpArgs false
set_option linter.unusedSectionVars false
set_option maxRecDepth 100000
set_option maxHeartbeats 4000000
namespace Go.Proofs.YtcpfbphcldocpaaGreatDoor
open Go.RowKit
section
attribute [local irreducible] xL
theorem Sl.intAt {w:World} {B n cap:Nat} {a:Option Addr} {l:List Int} (h:Sl w B 1 (.slice a n cap) n (l.map (.int .i64))) {k:Nat} (hk:k < n):∃b off c,a=some ⟨b,off,none⟩/\b < B/\l[k]?=some c/\w.cell? ⟨b,off+k,none⟩=some (.int .i64 c):=by
 obtain⟨b,off,u,rfl,hb,hu,hc⟩:=h.at1 hk;rw[List.getElem?_map] at hu;cases hl:l[k]? with
 |none=>rw[hl] at hu;simp at hu
 |some c=>rw[hl] at hu;simp at hu;subst hu;exact⟨b,off,c,rfl,hb,rfl,hc⟩
end
section
attribute [local irreducible] xL
section
variable {α:Type} {f:α->List Value} {e:TypeId} {sz B:Nat} {P:Program} {o:Oper} {a:Act} {K:Act->World->Prop} {Q:Exit->Act->World->Prop}
theorem jB (s c:Operand) (t:TypeId) (ho:o.op=.makeSlice t s c) (z:Value) (bytes:Nat) (ht:P.underlying t=some (.slice e)) (hinfo:(P.info? e).map (fun i=>(i.zero,i.size,i.bytes))=some (some z,sz,bytes))
  {w:World} {n:Nat} (hs:a.eval s=.int .i64 0) (hc:a.eval c=.int .i64 n) (hn:n<=9223372036854775807) (hby:bytes*n<=140737488355328) (hB:B<=w.heap.size)
  (hK:∀w',qj f e sz w' B (.slice (some ⟨w.heap.size,0,none⟩) 0 n) []->Below w.heap.size w w'->w.heap.size+1<=w'.heap.size->K (a.put o.dst (.slice (some ⟨w.heap.size,0,none⟩) 0 n)) w'):
  o.wp P a w K Q:=by
 obtain⟨i0,hi,hz0,hz1,hz2⟩:=info_parts hinfo;obtain⟨w',hr,h1,h2⟩:=run_make_own (P:=P) w B t e i0 z sz ht hi hz0 hz1 .i64 .i64 n (by rw[hz2];omega) (by unfold maxLen;omega) hB;unfold Oper.wp execOp;have hr':(Instr.makeSlice t (.int .i64 0) (.int .i64 (n:Int))).run P w=.ok (.slice (some ⟨w.heap.size,0,none⟩) 0 n) w':=hr;simp[ho,hs,hc,hr',Result.andThen];refine hK w' h1 ((Below.refl w.heap.size w).grown h2 (Nat.le_refl _) (fun _ h=>by cases h)) ?_;obtain⟨-,h3⟩:=h1;rcases h3 with⟨h3,-⟩|⟨g,cap,cur,hv,-,hh,-⟩
 ·cases h3
 ·simp only[Value.slice.injEq,Option.some.injEq,Addr.mk.injEq,and_true] at hv
  obtain⟨rfl,-⟩:=hv;exact qe hh
theorem jw {N:Nat} {v u:Value} {l:List α} (s x:Operand) (t:TypeId)
  (ho:o.op=.call {callee:=.builtin .append,args:=#[s,x],argTypes:=#[t,t]})
  (z:Value) (bytes:Nat) (ht:P.underlying t=some (.slice e)) (hinfo:(P.info? e).map (fun i=>(i.zero,i.size,i.bytes))=some (some z,sz,bytes))
  (hzs:z.cells.size=sz) {w:World} (hown:qj f e sz w B v l) (ys:List α) {m:Nat} (hm:ys.length=m) (hsrc:Sl w N sz u m (ys.flatMap f)) (hbase:B<=w.heap.size) (hs:a.eval s=v)
  (hx:a.eval x=u) (hl:∀y,(f y).length=sz) (h1:∀y,∀u ∈ f y,u.oneCell'=true) (hn:l.length+m<=9223372036854775807) (hby:(l.length+m)*bytes<=140737488355328)
  (hK:∀v' w',qj f e sz w' B v' (l++ys)->Yz w w' v v'->K (a.put o.dst v') w'):
  o.wp P a w K Q:=by
 by_cases hm0:0 < m
 ·exact wp_appS s x t ho z bytes ht hinfo hzs hown ys hm hm0 hsrc hbase hs hx hl h1 hn hby fun g cap w' h2 h3=>hK _ w' h2 h3
 ·obtain rfl:m=0:=by omega
  have hys:ys=[]:=List.eq_nil_of_length_eq_zero hm;subst hys;obtain⟨ad,c,rfl,-⟩:=hsrc.ex;obtain⟨i0,hi,hz0,hz1,hz2⟩:=info_parts hinfo;unfold Oper.wp execOp;obtain⟨av,cv,rfl,-⟩:=hown.sl.ex;have hr:(Builtin.append_ #[t,t] o.type #[.slice av l.length cv,.slice ad 0 c]).run P w=.ok (.slice av l.length cv) w:=by
   rcases hown.2 with⟨hv,-⟩|⟨g,cap,cur,hv,_,_,hnc,_⟩
   ·rw [hv]
    cases ad <;> simp[Builtin.append_,run_underlying ht,sizeOf,typeInfo,hi,Builtin.lenOf,Builtin.firstCells,loadCells,loadCellsFrom]
   ·rw [hv]
    cases ad <;> simp[Builtin.append_,run_underlying ht,sizeOf,typeInfo,hi,Builtin.lenOf,Builtin.firstCells,hnc,storeCells,loadCells,loadCellsFrom]
  simp only[ho,resolve,invoke,builtin,Sem.run_bind,Sem.run_pure,Result.andThen_ok,List.map_toArray,List.map_cons,List.map_nil,hs,hx,hr];exact hK _ w (by simpa using hown) (Yz.refl w _)
theorem uU {ops:Array Oper} {rest:List Oper} (hgd:o.guard=none) (s c:Operand) (t:TypeId) (ho:o.op=.makeSlice t s c) (z:Value) (bytes:Nat) (ht:P.underlying t=some (.slice e)) (hinfo:(P.info? e).map (fun i=>(i.zero,i.size,i.bytes))=some (some z,sz,bytes))
  {w:World} {n:Nat} (hs:a.eval s=.int .i64 0) (hc:a.eval c=.int .i64 n) (hn:n<=9223372036854775807) (hby:bytes*n<=140737488355328) (hB:B<=w.heap.size)
  (hK:∀w',qj f e sz w' B (.slice (some ⟨w.heap.size,0,none⟩) 0 n) []->Below w.heap.size w w'->w.heap.size+1<=w'.heap.size->wpList P ops Q rest (a.put o.dst (.slice (some ⟨w.heap.size,0,none⟩) 0 n)) w'):
  wpList P ops Q (o::rest) a w:=
 wpList_plain hgd fun _ hK'=>jB s c t ho z bytes ht hinfo hs hc hn hby hB fun w' h1 h2 h3=>hK' _ _ (hK w' h1 h2 h3)
theorem yN {ops:Array Oper} {rest:List Oper} {N:Nat} {v u:Value} {l:List α} (hgd:o.guard=none) (s x:Operand) (t:TypeId)
  (ho:o.op=.call {callee:=.builtin .append,args:=#[s,x],argTypes:=#[t,t]})
  (z:Value) (bytes:Nat) (ht:P.underlying t=some (.slice e)) (hinfo:(P.info? e).map (fun i=>(i.zero,i.size,i.bytes))=some (some z,sz,bytes))
  (hzs:z.cells.size=sz) {w:World} (hown:qj f e sz w B v l) (ys:List α) {m:Nat} (hm:ys.length=m) (hsrc:Sl w N sz u m (ys.flatMap f)) (hbase:B<=w.heap.size) (hs:a.eval s=v)
  (hx:a.eval x=u) (hl:∀y,(f y).length=sz) (h1:∀y,∀u ∈ f y,u.oneCell'=true) (hn:l.length+m<=9223372036854775807) (hby:(l.length+m)*bytes<=140737488355328)
  (hK:∀v' w',qj f e sz w' B v' (l++ys)->Yz w w' v v'->wpList P ops Q rest (a.put o.dst v') w'):
  wpList P ops Q (o::rest) a w:=
 wpList_plain hgd fun _ hK'=>jw s x t ho z bytes ht hinfo hzs hown ys hm hsrc hbase hs hx hl h1 hn hby fun v' w' h2 h3=>hK' _ _ (hK v' w' h2 h3)
end
end
section
attribute [local irreducible] xL
theorem Yt:(Tryz.prog.info? 3).map (fun i=>(i.zero,i.size,i.bytes))=some (some (.int .i64 0),1,8):=by kernel_rfl
theorem Zy (x:Int):(jF x).length=1:=rfl
theorem QT (x:Int):∀u ∈ jF x,u.oneCell'=true:=by intro u hu;simp[jF] at hu;subst hu;rfl
theorem val_one (a:Option Addr) {n c:Nat}:∀u ∈ XL (.slice a n c),u.oneCell'=true:=by intro u hu;simp[XL] at hu;subst hu;rfl
theorem qj.box2 {α:Type} {f:α->List Value} {e T:TypeId} {sz B p:Nat} {X:World} {v x y u1 u2:Value} {l:List α} (h:qj f e sz X B v l) (r:X.heap[p]?=some (.cells #[x,y] T (0,0))) (he:T≠e):
  qj f e sz ((X.setCell ⟨p,0,none⟩ u1).setCell ⟨p,1,none⟩ u2) B v l:=
 qj.other (qj.other h (qj.neT h r he) u1) (qj.neT h r he) u2
theorem Nq {X:World} {p:Nat} {x y u1 u2:Value} {T:TypeId} (r:X.heap[p]?=some (.cells #[x,y] T (0,0))):((X.setCell ⟨p,0,none⟩ u1).setCell ⟨p,1,none⟩ u2).heap[p]?=some (.cells #[u1,u2] T (0,0)):=
 qn (qn r 0 u1) 1 u2
theorem qj.grwT {α β:Type} {f:α->List Value} {f1:β->List Value} {e e1:TypeId} {sz sz1 B B1:Nat} {w w':World} {v v1 v2:Value} {l:List α} {l1:List β} (h:qj f e sz w B v l) (h1:qj f1 e1 sz1 w B1 v1 l1) (he:e≠e1) (hb:Yz w w' v1 v2):qj f e sz w' B v l:=
 h.grw hb fun k hk hk1=>by
  obtain⟨c1,r1⟩:=h.keepObj k hk;obtain⟨c2,r2⟩:=h1.keepObj k hk1;rw[r1] at r2;simp only[Option.some.injEq,Obj.cells.injEq] at r2;exact he r2.2.1
theorem zk {α:Type} {l:List α} {k:Nat} {x:α} (h:l[k]?=some x):l.take (k+1)=l.take k++[x]:=by rw[List.take_add_one,h];rfl
end
section
attribute [local irreducible] xL
theorem zL {w:World} {B sz n g cap:Nat} {e:TypeId} {xs:List Value} (h:w.ownsRow B e sz (.slice (some ⟨g,0,none⟩) n cap) n xs) (j:Nat) (u:Value):
  (w.setCell ⟨g,j,none⟩ u).ownsRow B e sz (.slice (some ⟨g,0,none⟩) n cap) n (xs.set j u):=by
 obtain⟨h1,h2⟩:=h;refine⟨by simpa using h1,?_⟩;rcases h2 with⟨h2,-⟩|⟨g',cap',cur,hv,hg,hh,hnc,hcm,hs,ht⟩
 ·cases h2
 ·simp only[Value.slice.injEq,Option.some.injEq,Addr.mk.injEq,and_true,true_and] at hv
  obtain⟨rfl,rfl⟩:=hv;refine .inr ⟨g,cap,cur.setIfInBounds j u,rfl,hg,qn hh j u,hnc,hcm,by simpa using hs,?_⟩;rw[←ht,Array.toList_setIfInBounds,List.take_set]
end
