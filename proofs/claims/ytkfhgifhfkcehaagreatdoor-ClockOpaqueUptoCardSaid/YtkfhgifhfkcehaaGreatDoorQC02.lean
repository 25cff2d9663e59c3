/- Parts of the proof; the first: Words for memory that the call makes: append, lists that are written out, blocks. Conditions: those of each theorem, as typed. -/
import Derived.Test.YtkfhgifhfkcehaaGreatDoorQC01
import Derived.OneCell
set_option linter.unusedVariables false
set_option linter.unusedSimpArgs false
set_option linter.unusedSectionVars false
set_option maxRecDepth 100000
set_option maxHeartbeats 4000000
namespace Go.Proofs.YtkfhgifhfkcehaaGreatDoor
open Go.RowKit
theorem cells_new_add (w:World) (l:List Value) (t:TypeId):∀(j:Nat) (u:Value),l[j]?=some u->(w.alloc (.cells l.toArray t)).cell? ((⟨w.heap.size,0,none⟩:Addr).add j)=some u:=by
 intro j u hu;have hadd:((⟨w.heap.size,0,none⟩:Addr).add j)=⟨w.heap.size,j,none⟩:=by unfold Addr.add;split <;> simp_all
 rw[hadd,cell_new];simpa using hu
theorem own_fresh {w:World} {base n m old:Nat} {e:TypeId} {i:TypeInfo} {z:Value} {xs news:List Value} (hl:(xs++news).length=(n+m)*i.size) (hzs:z.cells.size=i.size)
  (h63:n+m<=maxLen) (hbase:base<=w.heap.size) (row:Option Nat):
  (w.drew.alloc (.cells (xs.toArray++news.toArray++Builtin.zeroCells z.cells (grownCap w (n+m) old e - (n+m))) e)).ownsRow base e i.size
    (.slice (some ⟨w.heap.size,0,none⟩) (n+m) (grownCap w (n+m) old e)) (n+m) (xs++news)/\
   w.grownBy (w.drew.alloc (.cells (xs.toArray++news.toArray++Builtin.zeroCells z.cells (grownCap w (n+m) old e - (n+m))) e)) row:=by
 have hge:=grownCap_ge w (n+m) old e;have hcm:grownCap w (n+m) old e<=maxLen:=grownCap_le_maxLen w (n+m) old e h63;have hl2:xs.length+news.length=(n+m)*i.size:=by rw[←List.length_append];exact hl
 refine⟨⟨hl,.inr ⟨w.heap.size,_,_,rfl,hbase,heap_alloc_new w.drew _,hge,hcm,?_,?_⟩⟩,⟨rfl,rfl,rfl,by simp,fun k hk _=>Below.heap_alloc w.drew _ k hk⟩⟩
 ·simp only[Array.size_append,List.size_toArray,size_zeroCells,hzs]
  rw[hl2,←Nat.add_mul];congr 1;omega
 ·simp only[Array.toList_append,List.append_assoc]
  rw[←List.append_assoc,←hl];exact List.take_left
theorem run_append1 {P:Program} (w:World) (base:Nat) (t ty e:TypeId) (i:TypeInfo) (z:Value) (size bytes:Nat) (ht:P.underlying t=some (.slice e)) (hi:P.info? e=some i) (hz:i.zero=some z)
  (hsize:i.size=size) (hby:i.bytes=bytes) (hzs:z.cells.size=size) (v:Value) (n:Nat) (xs:List Value) (hown:w.ownsRow base e size v n xs)
  (a:Addr) (m c:Nat) (hm:0 < m) (news:List Value) (hl:news.length=m*size) (hnews:∀j u,news[j]?=some u->w.cell? (a.add j)=some u) (h1:∀u ∈ news,u.oneCell'=true)
  (h63:n+m<=maxLen) (hbytes:(n+m)*bytes<=140737488355328) (hbase:base<=w.heap.size):
  ∃g cap w',(Builtin.append_ #[t,t] ty #[v,.slice (some a) m c]).run P w=.ok (.slice (some ⟨g,0,none⟩) (n+m) cap) w'/\w'.ownsRow base e size (.slice (some ⟨g,0,none⟩) (n+m) cap) (n+m) (xs++news)/\w.grownBy w' v.ownBlock/\
   (g=w.heap.size\/v.ownBlock=some g):=by
 subst hsize;subst hby;have hsmall:n+m<=9223372036854775807:=by simp only[maxLen] at h63;omega
 have hlen:(xs++news).length=(n+m)*i.size:=by rw[List.length_append,hown.1,hl,Nat.add_mul]
 rcases hown.2 with⟨rfl,rfl⟩|⟨g,cap,cur,rfl,hbg,hg,hnc,hcm,hcs,htake⟩
 ·have hx:xs=[]:=List.eq_nil_of_length_eq_zero (by simpa using hown.1)
  subst hx;have hr:=run_append_nil (P:=P) w t ty e i z ht hi hz a m c news hl hnews hm (by omega) (by have hb:=hbytes;simp only[Nat.zero_add] at hb;omega);have hgr:=own_fresh (old:=0) (e:=e) (z:=z) hlen hzs h63 hbase (Value.ownBlock (.slice none 0 0));simp only[Nat.zero_add,List.nil_append,Array.empty_append] at hgr ⊢;exact⟨_,_,_,hr,hgr.1,hgr.2,.inl rfl⟩
 ·by_cases hroom:n+m<=cap
  ·have hfit:n*i.size+news.length<=cur.size:=by rw[hl,hcs,←Nat.add_mul];exact Nat.mul_le_mul_right _ hroom
   have hr:=run_append_room (P:=P) w t ty e i ht hi g n cap cur hg a m c news hl hnews h1 hroom hfit;refine⟨g,cap,_,hr,⟨hlen,.inr ⟨g,cap,_,rfl,hbg,setRow_heap w g cur _ e _ hg,hroom,hcm,?_,?_⟩⟩,⟨rfl,rfl,rfl,by simp,fun k _ hk=>setRow_other w g k _ (fun e=>hk (by simp[Value.ownBlock,e]))⟩,.inr rfl⟩
   ·simp only[List.size_toArray,List.length_append,List.length_take,List.length_drop,Array.length_toList]
    omega
   ·rw [htake,←hlen]
    exact List.take_left
  ·have holds:∀j u,xs[j]?=some u->w.cell? ((⟨g,0,none⟩:Addr).add j)=some u:=hown.cells (g:=g) rfl
   have hr:=run_append_grow (P:=P) w t ty e i z ht hi hz ⟨g,0,none⟩ n cap xs hown.1 holds a m c news hl hnews (by omega) (by omega) (growslice_fits (by omega) hbytes);have hgr:=own_fresh (old:=cap) (e:=e) (z:=z) hlen hzs h63 hbase (Value.ownBlock (.slice (some ⟨g,0,none⟩) n cap));exact⟨_,_,_,hr,hgr.1,hgr.2,.inl rfl⟩
structure Grw (w w':World) (v v':Value):Prop where
 grown:w.grownBy w' v.ownBlock
 own:∀k,v'.ownBlock=some k->v.ownBlock=some k\/w.heap.size<=k
theorem Grw.refl (w:World) (v:Value):Grw w w v v:=⟨⟨rfl,rfl,rfl,Nat.le_refl _,fun _ _ _=>rfl⟩,fun _ h=>.inl h⟩
theorem Grw.below {w w':World} {v v':Value} {B:Nat} (h:Grw w w' v v') (hB:B<=w.heap.size) (hv:∀k,v.ownBlock=some k->B<=k):Below B w w':=
 (Below.refl B w).grown h.grown hB hv
theorem Grw.size {w w':World} {v v':Value} (h:Grw w w' v v'):w.heap.size<=w'.heap.size:=h.grown.size
theorem wp_append1 {P:Program} {o:Oper} {a:Act} {K:Act->World->Prop} {Q:Exit->Act->World->Prop} (s x:Operand) (t:TypeId)
  (ho:o.op=.call {callee:=.builtin .append,args:=#[s,x],argTypes:=#[t,t]})
  (e:TypeId) (z:Value) (size bytes:Nat) (ht:P.underlying t=some (.slice e)) (hinfo:(P.info? e).map (fun i=>(i.zero,i.size,i.bytes))=some (some z,size,bytes))
  (hzs:z.cells.size=size) {base n m:Nat} {v:Value} {xs news:List Value} {w0:World} (hs:a.eval s=v) (hown:w0.ownsRow base e size v n xs) (hbase:base<=w0.heap.size) (hm:0 < m)
  {g0:Nat} (hx:a.eval x=.slice (some ⟨g0,0,none⟩) m m) (hg0:g0=w0.heap.size) (hl:news.length=m*size) (h1:∀u ∈ news,u.oneCell'=true) (hn:n+m<=9223372036854775807) (hby:(n+m)*bytes<=140737488355328)
  (hK:∀g cap w',w'.ownsRow base e size (.slice (some ⟨g,0,none⟩) (n+m) cap) (n+m) (xs++news)->Grw w0 w' v (.slice (some ⟨g,0,none⟩) (n+m) cap)->K (a.put o.dst (.slice (some ⟨g,0,none⟩) (n+m) cap)) w'):
  o.wp P a (w0.alloc (.cells news.toArray e)) K Q:=by
 subst hg0;obtain⟨i0,hi,hz0,hz1,hz2⟩:=info_parts hinfo;obtain⟨g,cap,w',hr,hown',hgrow,hg⟩:=run_append1 (P:=P) (w0.alloc (.cells news.toArray e)) base t o.type e i0 z size bytes ht hi hz0 hz1 hz2 hzs v n xs (hown.alloc _) _ m m hm news hl
  (cells_new_add w0 news e) h1 (by unfold maxLen;omega) hby (by simp;omega)
 unfold Oper.wp execOp;simp only[ho,resolve,invoke,builtin,Sem.run_bind,Sem.run_pure,Result.andThen_ok,List.map_toArray,List.map_cons,List.map_nil,hs,hx,hr];refine hK g cap w' hown' ⟨?_,?_⟩
 ·exact ⟨hgrow.os,hgrow.tape,hgrow.output,Nat.le_trans (by simp) hgrow.size,fun k hk hne=>(hgrow.block k (by simp;omega) hne).trans (Below.heap_alloc w0 _ k hk)⟩
 ·intro k hk
  simp only[Value.ownBlock,Option.some.injEq] at hk;subst hk;rcases hg with hg|hg
  ·right;rw[hg];simp
  ·exact .inl hg
def qq {α:Type} (f:α->List Value) (e:TypeId) (sz:Nat) (w:World) (B:Nat) (v:Value) (l:List α):Prop:=w.ownsRow B e sz v l.length (l.flatMap f)
section
variable {α:Type} {f:α->List Value} {e:TypeId} {sz:Nat} {w w':World} {B:Nat} {v:Value} {l:List α}
theorem qq.sl (h:qq f e sz w B v l):Sl w w.heap.size sz v l.length (l.flatMap f):=Sl.of_own h
theorem qq.nil (w:World) (B:Nat):qq f e sz w B (.slice none 0 0) []:=World.ownsRow_nil w B e sz
theorem qq.lt (h:qq f e sz w B v l):∀k,v.ownBlock=some k->B<=k/\k < w.heap.size:=World.ownsRow.lt h
theorem qq.kept (h:qq f e sz w B v l) {row:Option Nat} (hg:w.grownBy w' row) (hne:v.ownBlock=none\/v.ownBlock≠row):qq f e sz w' B v l:=World.ownsRow.kept h hg hne
theorem qq.below (h:qq f e sz w B v l) (hb:Below w.heap.size w w'):qq f e sz w' B v l:=
 World.ownsRow.kept h (row:=none) ⟨hb.os,hb.tape,hb.output,hb.size,fun k hk _=>hb.block k hk⟩ (by cases v.ownBlock <;> simp)
theorem qq.drew (h:qq f e sz w B v l):qq f e sz w.drew B v l:=h
theorem qq.alloc (h:qq f e sz w B v l) (o:Obj):qq f e sz (w.alloc o) B v l:=World.ownsRow.alloc h o
theorem qq.base {B':Nat} (h:qq f e sz w B v l) (hB:B'<=B):qq f e sz w B' v l:=by
 obtain⟨h1,h2⟩:=h;refine⟨h1,?_⟩;rcases h2 with h2|⟨g,cap,cur,hv,hg,r⟩
 ·exact .inl h2
 ·exact .inr ⟨g,cap,cur,hv,by omega,r⟩
theorem qq.form (h:qq f e sz w B v l):(v=.slice none 0 0/\l=[])\/∃g cap,v=.slice (some ⟨g,0,none⟩) l.length cap/\B<=g/\g < w.heap.size:=by
 obtain⟨h1,h2⟩:=h;rcases h2 with⟨h2,h3⟩|⟨g,cap,cur,hv,hg,hh,r⟩
 ·exact .inl ⟨h2,List.eq_nil_of_length_eq_zero h3⟩
 ·exact .inr ⟨g,cap,hv,hg,(Array.getElem?_eq_some_iff.1 hh).1⟩
theorem wp_appF {P:Program} {o:Oper} {a:Act} {K:Act->World->Prop} {Q:Exit->Act->World->Prop} (s x:Operand) (t:TypeId)
  (ho:o.op=.call {callee:=.builtin .append,args:=#[s,x],argTypes:=#[t,t]})
  (z:Value) (bytes:Nat) (ht:P.underlying t=some (.slice e)) (hinfo:(P.info? e).map (fun i=>(i.zero,i.size,i.bytes))=some (some z,sz,bytes))
  (hzs:z.cells.size=sz) {w0:World} (hown:qq f e sz w0 B v l) (y:α) (hbase:B<=w0.heap.size) (hs:a.eval s=v)
  {g0:Nat} (hx:a.eval x=.slice (some ⟨g0,0,none⟩) 1 1) (hg0:g0=w0.heap.size) (hl:(f y).length=sz) (h1:∀u ∈ f y,u.oneCell'=true) (hn:l.length+1<=9223372036854775807) (hby:(l.length+1)*bytes<=140737488355328)
  (hK:∀g cap w',qq f e sz w' B (.slice (some ⟨g,0,none⟩) (l.length+1) cap) (l++[y])->Grw w0 w' v (.slice (some ⟨g,0,none⟩) (l.length+1) cap)->K (a.put o.dst (.slice (some ⟨g,0,none⟩) (l.length+1) cap)) w'):
  o.wp P a (w0.alloc (.cells (f y).toArray e)) K Q:=
 wp_append1 s x t ho e z sz bytes ht hinfo hzs hs hown hbase (by omega) hx hg0 (by simpa using hl) h1 hn hby fun g cap w' h2 h3=>hK g cap w' (by simpa[qq,List.flatMap_append] using h2) h3
theorem qU {P:Program} {ops:Array Oper} {rest:List Oper} {o:Oper} {a:Act} {Q:Exit->Act->World->Prop} (hgd:o.guard=none) (s x:Operand) (t:TypeId)
  (ho:o.op=.call {callee:=.builtin .append,args:=#[s,x],argTypes:=#[t,t]})
  (z:Value) (bytes:Nat) (ht:P.underlying t=some (.slice e)) (hinfo:(P.info? e).map (fun i=>(i.zero,i.size,i.bytes))=some (some z,sz,bytes))
  (hzs:z.cells.size=sz) {w0:World} (hown:qq f e sz w0 B v l) (y:α) (hbase:B<=w0.heap.size) (hs:a.eval s=v)
  {g0:Nat} (hx:a.eval x=.slice (some ⟨g0,0,none⟩) 1 1) (hg0:g0=w0.heap.size) (hl:(f y).length=sz) (h1:∀u ∈ f y,u.oneCell'=true) (hn:l.length+1<=9223372036854775807) (hby:(l.length+1)*bytes<=140737488355328)
  (hK:∀g cap w',qq f e sz w' B (.slice (some ⟨g,0,none⟩) (l.length+1) cap) (l++[y])->Grw w0 w' v (.slice (some ⟨g,0,none⟩) (l.length+1) cap)->wpList P ops Q rest (a.put o.dst (.slice (some ⟨g,0,none⟩) (l.length+1) cap)) w'):
  wpList P ops Q (o::rest) a (w0.alloc (.cells (f y).toArray e)):=
 wpList_plain hgd fun _ hK'=>wp_appF s x t ho z bytes ht hinfo hzs hown y hbase hs hx hg0 hl h1 hn hby fun g cap w' h2 h3=>hK' _ _ (hK g cap w' h2 h3)
theorem qq.lit (w:World) (B:Nat) (hB:B<=w.heap.size) (l:List α) (hl:∀y,(f y).length=sz) (hn:l.length<=9223372036854775807):
  qq f e sz (w.alloc (.cells (l.flatMap f).toArray e)) B (.slice (some ⟨w.heap.size,0,none⟩) l.length l.length) l:=by
 refine⟨flat_length f sz hl l,.inr ⟨w.heap.size,l.length,_,rfl,hB,heap_alloc_new w _,Nat.le_refl _,by unfold maxLen;omega,by simp[flat_length f sz hl l],?_⟩⟩;rw[←flat_length f sz hl l];exact List.take_length
end
theorem qg {w:World} {g:Nat} {cs:Array Value} {t:TypeId} {fz:Nat×Nat} (h:w.heap[g]?=some (.cells cs t fz)) (j:Nat):w.cell? ⟨g,j,none⟩=cs[j]?:=by
 simp only[World.cell?,h,Option.isSome_none,Bool.false_eq_true,if_false]
theorem qx {w:World} {g:Nat} {cs:Array Value} {t:TypeId} (h:w.heap[g]?=some (.cells cs t (0,0))) (j:Nat):w.frozen? ⟨g,j,none⟩=false:=by
 simp[World.frozen?,h]
theorem qB {w:World} {g:Nat} {cs:Array Value} {t:TypeId} {fz:Nat×Nat} (h:w.heap[g]?=some (.cells cs t fz)) (j:Nat) (v:Value):(w.setCell ⟨g,j,none⟩ v).heap[g]?=some (.cells (cs.setIfInBounds j v) t fz):=by
 simp[World.setCell,Array.getElem?_modify,h]
theorem qy (w:World) (o:Obj):(w.alloc o).heap[w.heap.size]?=some o:=heap_alloc_new w o
theorem qF {w:World} {o:Obj} {g:Nat} {x:Obj} (h:w.heap[g]?=some x):(w.alloc o).heap[g]?=some x:=
 (Below.heap_alloc w o g (Array.getElem?_eq_some_iff.1 h).1).trans h
theorem qh {w:World} {g:Nat} {x:Obj} (h:w.heap[g]?=some x):g < w.heap.size:=(Array.getElem?_eq_some_iff.1 h).1
theorem qp {w w':World} {B g:Nat} {x:Obj} (h:w.heap[g]?=some x) (hb:Below B w w') (hg:g < B):w'.heap[g]?=some x:=(hb.block g hg).trans h
theorem qQ {w w':World} {v v':Value} {g:Nat} {x:Obj} (h:w.heap[g]?=some x) (hb:Grw w w' v v') (hg:v.ownBlock≠some g):w'.heap[g]?=some x:=
 (hb.grown.block g (qh h) (fun e=>hg e.symm)).trans h
theorem row_drew {w:World} {g:Nat} {x:Obj} (h:w.heap[g]?=some x):w.drew.heap[g]?=some x:=h
theorem qK {w:World} {g g' j:Nat} {x:Obj} {v:Value} (h:w.heap[g]?=some x) (hne:g'≠g):(w.setCell ⟨g',j,none⟩ v).heap[g]?=some x:=
 (Below.heap_setCell w ⟨g',j,none⟩ v g (fun e=>hne e.symm)).trans h
section
variable {α:Type} {f:α->List Value} {e:TypeId} {sz:Nat} {w w':World} {B:Nat} {v:Value} {l:List α}
theorem qq.set (h:qq f e sz w B v l) {g j:Nat} {u:Value} (hg:g < B):qq f e sz (w.setCell ⟨g,j,none⟩ u) B v l:=ownsRow_setCell_below h (a:=⟨g,j,none⟩) hg u
theorem qq.grw {v1 v2:Value} (h:qq f e sz w B v l) (hb:Grw w w' v1 v2) (hne:∀k,v.ownBlock=some k->v1.ownBlock≠some k):qq f e sz w' B v l:=by
 refine h.kept hb.grown ?_;cases hv:v.ownBlock with
 |none=>exact .inl rfl
 |some k=>exact .inr (fun e=>hne k hv e.symm)
end
theorem drew_alloc (w:World) (o:Obj):(w.alloc o).drew=w.drew.alloc o:=rfl
theorem qL {w:World} {o:Obj} {g:Nat} (hg:g=w.heap.size):(w.alloc o).heap[g]?=some o:=by rw[hg];exact qy w o
theorem wp_appS {α:Type} {f:α->List Value} {e:TypeId} {sz B N:Nat} {v u:Value} {l:List α} {P:Program} {o:Oper} {a:Act} {K:Act->World->Prop} {Q:Exit->Act->World->Prop} (s x:Operand) (t:TypeId)
  (ho:o.op=.call {callee:=.builtin .append,args:=#[s,x],argTypes:=#[t,t]})
  (z:Value) (bytes:Nat) (ht:P.underlying t=some (.slice e)) (hinfo:(P.info? e).map (fun i=>(i.zero,i.size,i.bytes))=some (some z,sz,bytes))
  (hzs:z.cells.size=sz) {w:World} (hown:qq f e sz w B v l) (ys:List α) {m:Nat} (hm:ys.length=m) (hm0:0 < m) (hsrc:Sl w N sz u m (ys.flatMap f)) (hbase:B<=w.heap.size) (hs:a.eval s=v)
  (hx:a.eval x=u) (hl:∀y,(f y).length=sz) (h1:∀y,∀u ∈ f y,u.oneCell'=true) (hn:l.length+m<=9223372036854775807) (hby:(l.length+m)*bytes<=140737488355328)
  (hK:∀g cap w',qq f e sz w' B (.slice (some ⟨g,0,none⟩) (l.length+m) cap) (l++ys)->Grw w w' v (.slice (some ⟨g,0,none⟩) (l.length+m) cap)->K (a.put o.dst (.slice (some ⟨g,0,none⟩) (l.length+m) cap)) w'):
  o.wp P a w K Q:=by
 obtain⟨i0,hi,hz0,hz1,hz2⟩:=info_parts hinfo;obtain⟨ad,c,rfl,hml,hsl,hc⟩:=hsrc;obtain⟨b,off,rfl,hb,hc⟩:=hc hm0;obtain⟨g,cap,w',hr,hown',hgrow,hg⟩:=run_append1 (P:=P) w B t o.type e i0 z sz bytes ht hi hz0 hz1 hz2 hzs v l.length (l.flatMap f) hown ⟨b,off,none⟩ m c hm0 (ys.flatMap f) hsl
  (fun j u hu=>by
   have hadd:((⟨b,off,none⟩:Addr).add j)=⟨b,off+j,none⟩:=by unfold Addr.add;split <;> simp_all
   rw[hadd];exact hc j u hu) (fun u hu=>by obtain⟨y,_,hy⟩:=List.mem_flatMap.1 hu;exact h1 y u hy) (by unfold maxLen;omega) hby hbase
 unfold Oper.wp execOp;simp only[ho,resolve,invoke,builtin,Sem.run_bind,Sem.run_pure,Result.andThen_ok,List.map_toArray,List.map_cons,List.map_nil,hs,hx,hr];refine hK g cap w' ?_ ⟨hgrow,?_⟩
 ·unfold qq
  rw[List.flatMap_append,List.length_append,hm];exact hown'
 ·intro k hk
  simp only[Value.ownBlock,Option.some.injEq] at hk;subst hk;rcases hg with hg|hg
  ·right;omega
  ·exact .inl hg
section
attribute [local irreducible] xL
def intC (x:Int):List Value:=[.int .i64 x]
abbrev yY:=qq intC 3 1
theorem flat_int (l:List Int):l.flatMap intC=l.map (.int .i64):=by induction l with|nil=>rfl|cons x l ih=>simp[intC,ih]
def yz (v:Value):List Value:=[v]
theorem flat_val (l:List Value):l.flatMap yz=l:=by induction l with|nil=>rfl|cons x l ih=>simp[yz,ih]
abbrev OwnActs:=qq Ac.cells 118 3
def xO (w:World) (B:Nat) (v:Value) (l:List (List Ac)):Prop:=∃vs,qq yz 80 1 w B v vs/\vs.length=l.length/\∀(k:Nat) (u:Value) (x:List Ac),vs[k]?=some u->l[k]?=some x->OwnActs w B u x
def xu (w:World) (B:Nat) (v:Value) (l:List (List (List Ac))):Prop:=∃vs,qq yz 79 1 w B v vs/\vs.length=l.length/\∀(k:Nat) (u:Value) (x:List (List Ac)),vs[k]?=some u->l[k]?=some x->xO w B u x
theorem qq.at1 {e:TypeId} {w:World} {B n c:Nat} {a:Option Addr} {vs:List Value} (h:qq yz e 1 w B (.slice a n c) vs) (hn:vs.length=n) {k:Nat} (hk:k < n):∃g u,a=some ⟨g,0,none⟩/\g < w.heap.size/\vs[k]?=some u/\w.cell? ⟨g,k,none⟩=some u:=by
 have hs:Sl w w.heap.size 1 (.slice a n c) n (vs.flatMap yz):=by rw[←hn] at h ⊢;exact h.sl
 rcases h.form with⟨-,rfl⟩|⟨g,cap',e,hB,hg⟩
 ·simp at hn;omega
 ·simp only[Value.slice.injEq,Option.some.injEq] at e
  obtain⟨rfl,-,rfl⟩:=e;obtain⟨b,off,u,hb,-,hu,hc⟩:=hs.at1 hk;simp only[Option.some.injEq,Addr.mk.injEq,and_true] at hb;obtain⟨rfl,rfl⟩:=hb;rw[flat_val] at hu;exact⟨g,u,rfl,hg,hu,by simpa using hc⟩
theorem qq.len {α:Type} {f:α->List Value} {e:TypeId} {sz B n c:Nat} {a:Option Addr} {w:World} {l:List α} (h:qq f e sz w B (.slice a n c) l):l.length=n:=by
 rcases h.form with⟨h1,h2⟩|⟨g,cap,h1,-⟩
 ·simp only[Value.slice.injEq] at h1
  rw[h2,h1.2.1];rfl
 ·simp only[Value.slice.injEq] at h1
  exact h1.2.1.symm
theorem qq.form2 {α:Type} {f:α->List Value} {e:TypeId} {sz B:Nat} {v:Value} {w:World} {l:List α} (h:qq f e sz w B v l):∃a c,v=.slice a l.length c/\l.length<=9223372036854775807:=h.sl.ex
structure qW (w:World) (B bW gT:Nat) (vc vt ve:Value) (P:Pg) (S:yk):Prop where
 row:w.heap[bW]?=some (.cells #[vc,vt,.slice (some ⟨gT,0,none⟩) P.threads.length P.threads.length,ve] 210 (0,0))
 hB:B<=bW
 cells:yY w B vc P.cells
 thr:xu w B vt P.threads
 ths:qq Th.cells 283 6 w B (.slice (some ⟨gT,0,none⟩) P.threads.length P.threads.length) S.ths
 evs:qq Ev.cells 53 8 w B ve S.evs
 ok:PgOk P
 tok:∀(i:Nat) (t:Th),S.ths[i]?=some t->ThOk P i t
theorem qW.at {w:World} {B bW gT:Nat} {vc vt ve:Value} {P:Pg} {S:yk} (h:qW w B bW gT vc vt ve P S) {i:Nat} (hi:i < P.threads.length):∃t,S.ths[i]?=some t/\ThOk P i t/\gT < w.heap.size/\∀j,j < 6->w.cell? ⟨gT,i*6+j,none⟩=t.cells[j]?:=by
 have hl:=h.ths.len;have hs:Sl w w.heap.size 6 (.slice (some ⟨gT,0,none⟩) P.threads.length P.threads.length) P.threads.length (S.ths.flatMap Th.cells):=by
  have h2:=h.ths;rw[←hl] at h2 ⊢;exact h2.sl
 obtain⟨b,off,t,hb,hlt,ht,hc⟩:=Sl.atF Th.len hs hl hi;simp only[Option.some.injEq,Addr.mk.injEq,and_true] at hb;obtain⟨rfl,rfl⟩:=hb;exact⟨t,ht,h.tok i t ht,hlt,fun j hj=>by have:=hc j hj;rwa [Nat.zero_add] at this⟩
theorem Pg.txs_at {P:Pg} {i:Nat} {x:List (List Ac)} (h:P.threads[i]?=some x):P.txs i=x:=by unfold Pg.txs;rw[List.getD_eq_getElem?_getD,h];rfl
theorem qW.txs {w:World} {B bW gT:Nat} {vc vt ve:Value} {P:Pg} {S:yk} (h:qW w B bW gT vc vt ve P S) {i:Nat} (hi:i < P.threads.length):∃gt ct u c,vt=.slice (some ⟨gt,0,none⟩) P.threads.length ct/\gt < w.heap.size/\w.cell? ⟨gt,i,none⟩=some (.slice u (P.txs i).length c)/\xO w B (.slice u (P.txs i).length c) (P.txs i):=by
 obtain⟨vs,h1,h2,h3⟩:=h.thr;obtain⟨a,ct,rfl,-⟩:=h1.form2;rw[h2] at h1 ⊢;obtain⟨g,u,rfl,hg,hu,hc⟩:=h1.at1 h2 hi;obtain⟨x,hx⟩:∃x,P.threads[i]?=some x:=⟨_,List.getElem?_eq_getElem hi⟩
 have h4:=h3 i u x hu hx;rw[←Pg.txs_at hx] at h4;obtain⟨ws,k1,k2,k3⟩:=h4;obtain⟨b,c,rfl,-⟩:=k1.form2;rw[k2] at k1 hc;exact⟨g,ct,b,c,rfl,hg,hc,ws,k1,k2,k3⟩
section
variable {w:World} {B bW gT:Nat} {vc vt ve:Value} {P:Pg} {S:yk}
theorem wk_id (i k:Nat) (hi:i < 4) (hk:k < 3) (w:World):Calls Tryz.prog 210 #[.int .i64 i,.int .i64 k] w fun e w'=>e=.returned (.int .i64 (qG i k))/\w=w':=by
 have h1:wrap64 (3*(i:Int))=3*(i:Int):=IntWalk.wrap64_in _ (by omega);have h2:wrap64 (3*(i:Int)+k)=3*(i:Int)+k:=IntWalk.wrap64_in _ (by omega);have h3:wrap64 (3*(i:Int)+k+1)=3*(i:Int)+k+1:=IntWalk.wrap64_in _ (by omega);go_enter Tryz.func210,Tryz.ntmps210;go_wp2;go_ret;exact⟨rfl,rfl⟩
theorem wk_within (n:Int) (w:World):Calls Tryz.prog 198 #[.int .i64 n] w fun e w'=>e=.returned (.bool (xN n))/\w=w':=by
 go_enter Tryz.func198,Tryz.ntmps198;by_cases h:-1000000000<=n
 ·go_wp2
  go_ret;exact⟨by simp[xN,h],rfl⟩
 ·go_wp2
  go_ret;exact⟨by simp[xN];omega,rfl⟩
theorem wk_of_out (h:qW w B bW gT vc vt ve P S) (i:Int) (hi:i < 0\/(P.threads.length:Int)<=i):Calls Tryz.prog 113 #[.pointer (some ⟨bW,0,none⟩),.int .i64 i] w fun e w'=>e=.returned (.tuple #[.pointer none,.bool false])/\w'=w.drew:=by
 have hr:=qg h.row;have d2:w.cell? ⟨bW,2,none⟩=some (.slice (some ⟨gT,0,none⟩) P.threads.length P.threads.length):=hr 2;have hm:P.threads.length<=4:=h.ok.threads.2;clear h hr;generalize P.threads.length=n at *;go_enter Tryz.func113,Tryz.ntmps113;by_cases h0:i < 0
 ·have q1:decide (i < 0)=true:=by simpa using h0
  go_wp2;refine qH [0,0,0,0,0,0,0,1,0,0,0,0,0,0,0,1,0,0,0,1,0,0,0,0,1,0,0,1,0,0,0] [0,1,2,3,4,5,6,7,8,9,10,11,12,13,14,15,16,17,18,19,20,21,22,23,24,25,26,27,28,29,30] (by kernel_rfl) ?_;simp only[qP,qD,sD,sE,sF,sG,Option.bind_some]
  repeat first|(refine qC fun K hK=>?_;go_simp;refine hK _ _ ?_;clear hK K)|(refine xX rfl rfl fun K hK=>?_;simp only[Act.put,sA,sB,sC];refine hK _ _ ?_;clear hK K)|refine qA ?_
  go_wp2;refine bodyPost_ret (v:=.tuple #[.pointer none,.bool false]) (by simp[results,Tryz.results113,go_sem]) rfl ⟨rfl,rfl⟩
 ·have q1:decide (i < 0)=false:=by simpa using h0
  have q2:decide ((n:Int)<=i)=true:=by simp;omega
  have q3:decide (i>=(n:Int))=true:=by simp;omega
  go_wp2;refine qH [0,0,0,0,0,0,0,1,0,0,0,0,0,0,0,1,0,0,0,1,0,0,0,0,1,0,0,1,0,0,0] [0,1,2,3,4,5,6,7,8,9,10,11,12,13,14,15,16,17,18,19,20,21,22,23,24,25,26,27,28,29,30] (by kernel_rfl) ?_;simp only[qP,qD,sD,sE,sF,sG,Option.bind_some]
  repeat first|(refine qC fun K hK=>?_;go_simp;refine hK _ _ ?_;clear hK K)|(apply qJ;(intro w2 hw2;have hk1:=hw2.cell;have hk3:=hw2.heap;clear hw2;go_simp;with_reducible rfl);simp only[Act.put,sA,sB,sC])|refine qZ rfl rfl ?_|(refine xX rfl rfl fun K hK=>?_;simp only[Act.put,sA,sB,sC];refine hK _ _ ?_;clear hK K)|refine qA ?_
  go_wp2;refine bodyPost_ret (v:=.tuple #[.pointer none,.bool false]) (by simp[results,Tryz.results113,go_sem]) rfl ⟨rfl,rfl⟩
theorem xD (h:qW w B bW gT vc vt ve P S) (i:Nat) (hi:i < P.threads.length) {t:Th} (ht:S.ths[i]?=some t):Calls Tryz.prog 113 #[.pointer (some ⟨bW,0,none⟩),.int .i64 i] w fun e w'=>
  e=.returned (.tuple #[if qR P i t=true then .pointer none else .pointer (some ⟨gT,i*6,none⟩),.bool !qR P i t])/\w'=w.drew:=by
 have hr:=qg h.row;have d2:w.cell? ⟨bW,2,none⟩=some (.slice (some ⟨gT,0,none⟩) P.threads.length P.threads.length):=hr 2;obtain⟨t',ht',htk,hgl,hc⟩:=h.at hi;rw[ht] at ht';obtain rfl:=Option.some.inj ht';obtain⟨gt,ct,u,c,rfl,hgtl,hct,-⟩:=h.txs hi;have d1:w.cell? ⟨bW,1,none⟩=some (.slice (some ⟨gt,0,none⟩) P.threads.length ct):=hr 1;have c0:w.cell? ⟨gT,i*6,none⟩=some (.int .i64 t.tx):=hc 0 (by decide);have hm:P.threads.length<=4:=h.ok.threads.2;have hdn:((t.tx:Int)==((P.txs i).length:Int))=qR P i t:=by unfold qR;rw[Bool.eq_iff_iff];simp;omega
 clear h hr hc ht ht' htk;generalize P.threads.length=n at *;generalize (P.txs i).length=m at *;generalize qR P i t=dn at *;have q1:decide ((i:Int) < 0)=false:=by simp
 have q2:decide ((n:Int)<=i)=false:=by simp;omega
 have q3:decide ((i:Int)>=(n:Int))=false:=by simp;omega
 have q4:decide (n<=i)=false:=by simp;omega
 cases dn with
 |true=>
  go_enter Tryz.func113,Tryz.ntmps113;go_wp2;refine qH [0,0,0,0,0,0,0,1,0,0,0,0,0,0,0,1,0,0,0,1,0,0,0,0,1,0,0,1,0,0,0] [0,1,2,3,4,5,6,7,8,9,10,11,12,13,14,15,16,17,18,19,20,21,22,23,24,25,26,27,28,29,30] (by kernel_rfl) ?_;simp only[qP,qD,sD,sE,sF,sG,Option.bind_some]
  repeat first|(refine qC fun K hK=>?_;go_simp;refine hK _ _ ?_;clear hK K)|(apply qJ;(intro w2 hw2;have hk1:=hw2.cell;have hk3:=hw2.heap;clear hw2;go_simp;with_reducible rfl);simp only[Act.put,sA,sB,sC])|refine qZ rfl rfl ?_|refine qA ?_
  go_wp2;refine bodyPost_ret (v:=.tuple #[.pointer none,.bool false]) (by simp[results,Tryz.results113,go_sem]) rfl ⟨rfl,rfl⟩
 |false=>
  go_enter Tryz.func113,Tryz.ntmps113;go_wp2;refine qH [0,0,0,0,0,0,0,1,0,0,0,0,0,0,0,1,0,0,0,1,0,0,0,0,1,0,0,1,0,0,0] [0,1,2,3,4,5,6,7,8,9,10,11,12,13,14,15,16,17,18,19,20,21,22,23,24,25,26,27,28,29,30] (by kernel_rfl) ?_;simp only[qP,qD,sD,sE,sF,sG,Option.bind_some]
  repeat first|(refine qC fun K hK=>?_;go_simp;refine hK _ _ ?_;clear hK K)|(apply qJ;(intro w2 hw2;have hk1:=hw2.cell;have hk3:=hw2.heap;clear hw2;go_simp;with_reducible rfl);simp only[Act.put,sA,sB,sC])|refine qZ rfl rfl ?_|refine qA ?_
  go_wp2;refine bodyPost_ret (v:=.tuple #[.pointer (some ⟨gT,i*6,none⟩),.bool true]) (by simp[results,Tryz.results113,go_sem]) rfl ⟨rfl,rfl⟩
def ye (P:Pg) (S:yk) (i:Int):Bool:=if i < 0 then true else match S.ths[i.toNat]? with
 |some t=>qR P i.toNat t
 |none=>true
theorem wk_done (h:qW w B bW gT vc vt ve P S) (i:Int):Calls Tryz.prog 66 #[.pointer (some ⟨bW,0,none⟩),.int .i64 i] w fun e w'=>e=.returned (.bool (ye P S i))/\w'=w.drew:=by
 have hl:=h.ths.len;have H:=qj h;clear h;by_cases hi:i < 0\/(P.threads.length:Int)<=i
 ·have hw:ye P S i=true:=by
   unfold ye;by_cases h0:i < 0
   ·rw [if_pos h0]
   ·rw [if_neg h0,List.getElem?_eq_none (by omega)]
  rw[hw];clear hw hl;go_enter Tryz.func66,Tryz.ntmps66;go_wp2_with fail;refine(wk_of_out H.o i hi).mono ?_;rintro e w1 ⟨rfl,rfl⟩;go_wp2;go_ret;exact⟨rfl,rfl⟩
 ·obtain ⟨k,rfl⟩:∃k:Nat,i=k:=⟨i.toNat,by omega⟩
  have hk:k < P.threads.length:=by omega
  obtain⟨t,ht,-⟩:=H.o.at hk;have hw:ye P S k=qR P k t:=by
   unfold ye;rw[if_neg (by omega)];simp only[Int.toNat_natCast,ht]
  rw[hw];clear hw hl hi;go_enter Tryz.func66,Tryz.ntmps66;go_wp2_with fail;refine(xD H.o k hk ht).mono ?_;rintro e w1 ⟨rfl,rfl⟩;cases hd:qR P k t <;>
  ·go_wp2
   go_ret;exact⟨by rw[hd];rfl,rfl⟩
theorem wk_tx (h:qW w B bW gT vc vt ve P S) (i:Nat) (hi:i < P.threads.length) {t:Th} (ht:S.ths[i]?=some t):Calls Tryz.prog 149 #[.pointer (some ⟨bW,0,none⟩),.int .i64 i] w fun e w'=>
  e=.returned (.tuple #[.int .i64 (if qR P i t=false/\t.begun=true then qG i t.tx else 0),.bool (!qR P i t&&t.begun)])/\w'=w.drew:=by
 obtain⟨t',ht',htk,hgl,hc⟩:=h.at hi;rw[ht] at ht';obtain rfl:=Option.some.inj ht';have c0:w.cell? ⟨gT,i*6,none⟩=some (.int .i64 t.tx):=hc 0 (by decide);have c2:w.cell? ⟨gT,i*6+2,none⟩=some (.bool t.begun):=hc 2 (by decide);have hm:P.threads.length<=4:=h.ok.threads.2;have htx:t.tx<=3:=by
  obtain⟨x,hx⟩:∃x,P.threads[i]?=some x:=⟨_,List.getElem?_eq_getElem hi⟩
  have h1:=h.ok.txs x (List.mem_of_getElem? hx);have h2:=htk.tx;rw[Pg.txs_at hx] at h2;omega
 have htd:qR P i t=false->t.tx < 3:=by
  intro hd;obtain⟨x,hx⟩:∃x,P.threads[i]?=some x:=⟨_,List.getElem?_eq_getElem hi⟩
  have h1:=h.ok.txs x (List.mem_of_getElem? hx);have h2:=htk.tx;unfold qR at hd;rw[Pg.txs_at hx] at h2 hd;have h3:t.tx≠x.length:=by simpa using hd
  omega
 have H:=qj h;have HT:=qj ht;clear h hc ht' htk;go_enter Tryz.func149,Tryz.ntmps149;go_wp2_with fail;refine(xD H.o i hi HT.o).mono ?_;rintro e w1 ⟨rfl,rfl⟩;cases hd:qR P i t with
 |true=>
  go_wp2
  all_goals refine bodyPost_ret (v:=.tuple #[.int .i64 0,.bool false]) (by simp[results,Tryz.results149,go_sem]) rfl ⟨by simp[hd],rfl⟩
 |false=>
  cases hb:t.begun with
  |false=>
   rw[hb] at c2;go_wp2
   all_goals refine bodyPost_ret (v:=.tuple #[.int .i64 0,.bool false]) (by simp[results,Tryz.results149,go_sem]) rfl ⟨by simp[hd];try simp[hb],rfl⟩
  |true=>
   rw[hb] at c2;have htx3:=htd hd;go_wp2_with fail;refine(wk_id i t.tx (by omega) htx3 _).mono ?_;rintro e w2 ⟨rfl,rfl⟩;go_wp2
   all_goals refine bodyPost_ret (v:=.tuple #[.int .i64 (qG i t.tx),.bool true]) (by simp[results,Tryz.results149,go_sem]) rfl ⟨by simp[hd];try simp[hb],rfl⟩
end
end
section
attribute [local irreducible] xL
theorem qq.keepObj {α:Type} {f:α->List Value} {e:TypeId} {sz:Nat} {w:World} {B:Nat} {v:Value} {l:List α} (h:qq f e sz w B v l):∀k,v.ownBlock=some k->∃cs,w.heap[k]?=some (.cells cs e (0,0)):=by
 intro k hk;obtain⟨-,h2⟩:=h;rcases h2 with⟨rfl,-⟩|⟨g,cap,cur,rfl,-,hh,-⟩
 ·cases hk
 ·simp only[Value.ownBlock,Option.some.injEq] at hk
  subst hk;exact⟨cur,hh⟩
structure Kp (M:TypeId->Prop) (ev:Value) (w w':World):Prop where
 base:Below 0 w w'
 cells:∀(k:Nat) (cs:Array Value) (t:TypeId) (fz:Nat×Nat),w.heap[k]?=some (.cells cs t fz)->¬M t->(t=53->ev.ownBlock≠some k)->w'.heap[k]?=some (.cells cs t fz)
 maps:∀(k:Nat) (es:Array MapEntry) (c:Nat),w.heap[k]?=some (.map es c)->w'.heap[k]?=some (.map es c)
section
variable {M M':TypeId->Prop} {ev ev':Value} {w w1 w2 w':World}
theorem Kp.size (h:Kp M ev w w'):w.heap.size<=w'.heap.size:=h.base.size
theorem Kp.of_below (h:Below w.heap.size w w'):Kp M ev w w':=⟨h.mono (Nat.zero_le _),fun _ _ _ _ hk _ _=>qp hk h (qh hk),fun _ _ _ hk=>qp hk h (qh hk)⟩
theorem Kp.trans (h:Kp M ev w w1) (k:Kp M ev' w1 w2) (hv:∀b,ev'.ownBlock=some b->ev.ownBlock=some b\/w.heap.size<=b):Kp M ev w w2:=
 ⟨h.base.trans k.base,fun b cs t fz hb hm he=>k.cells b cs t fz (h.cells b cs t fz hb hm he) hm fun ht e=>by
  rcases hv b e with h1|h1
  ·exact he ht h1
  ·have:=qh hb;omega,fun b es c hb=>k.maps b es c (h.maps b es c hb)⟩
theorem Kp.more (h:Kp M ev w w') (hm:∀t,M t->M' t):Kp M' ev w w':=⟨h.base,fun b cs t fz hb hn he=>h.cells b cs t fz hb (fun ht=>hn (hm t ht)) he,h.maps⟩
theorem qq.kp {α:Type} {f:α->List Value} {e:TypeId} {sz B:Nat} {v:Value} {l:List α} (h:qq f e sz w B v l) (hk:Kp M ev w w') (he:¬M e) (hev:e≠53):qq f e sz w' B v l:=by
 obtain⟨h1,h2⟩:=h;refine⟨h1,?_⟩;rcases h2 with h2|⟨g,cap,cur,rfl,hg,hh,r⟩
 ·exact .inl h2
 ·exact .inr ⟨g,cap,cur,rfl,hg,hk.cells g cur e _ hh he (fun h=>absurd h hev),r⟩
theorem xO.kp {B:Nat} {v:Value} {l:List (List Ac)} (h:xO w B v l) (hk:Kp M ev w w') (h1:¬M 80) (h2:¬M 118):xO w' B v l:=
 let ⟨vs,a,b,c⟩:=h;⟨vs,qq.kp a hk h1 (by decide),b,fun k u x hu hx=>qq.kp (c k u x hu hx) hk h2 (by decide)⟩
theorem xu.kp {B:Nat} {v:Value} {l:List (List (List Ac))} (h:xu w B v l) (hk:Kp M ev w w') (h0:¬M 79) (h1:¬M 80) (h2:¬M 118):xu w' B v l:=
 let ⟨vs,a,b,c⟩:=h;⟨vs,qq.kp a hk h0 (by decide),b,fun k u x hu hx=>(c k u x hu hx).kp hk h1 h2⟩
end
structure Wr (g:Nat) (cs:Array Value) (t:TypeId) (w w':World):Prop where
 os:w'.os=w.os
 tape:w'.tape=w.tape
 output:w'.output=w.output
 size:w'.heap.size=w.heap.size
 other:∀k,k≠g->w'.heap[k]?=w.heap[k]?
 row:w'.heap[g]?=some (.cells cs t (0,0))
theorem Wr.set {g:Nat} {cs:Array Value} {t:TypeId} {w w':World} (h:Wr g cs t w w') (j:Nat) (v:Value):Wr g (cs.setIfInBounds j v) t w (w'.setCell ⟨g,j,none⟩ v):=
 ⟨h.os,h.tape,h.output,by rw[World.size_setCell];exact h.size,fun k hk=>(Below.heap_setCell w' ⟨g,j,none⟩ v k hk).trans (h.other k hk),qB h.row j v⟩
theorem Wr.start {g:Nat} {cs:Array Value} {t:TypeId} {w:World} (h:w.heap[g]?=some (.cells cs t (0,0))):Wr g cs t w w:=⟨rfl,rfl,rfl,rfl,fun _ _=>rfl,h⟩
theorem Wr.below {g:Nat} {cs:Array Value} {t:TypeId} {w w':World} {B:Nat} (h:Wr g cs t w w') (hB:B<=g):Below B w w':=⟨h.os,h.tape,h.output,Nat.le_of_eq h.size.symm,fun k hk=>h.other k (by omega)⟩
theorem qq.other {α:Type} {f:α->List Value} {e:TypeId} {sz B g j:Nat} {v:Value} {l:List α} {w:World} (h:qq f e sz w B v l) (hg:v.ownBlock≠some g) (u:Value):qq f e sz (w.setCell ⟨g,j,none⟩ u) B v l:=
 ownsRow_setCell_other (a:=⟨g,j,none⟩) h hg u
theorem qq.wr {α:Type} {f:α->List Value} {e:TypeId} {sz B g:Nat} {v:Value} {l:List α} {w w':World} {cs:Array Value} {t:TypeId} (h:qq f e sz w B v l) (hw:Wr g cs t w w') (hg:v.ownBlock≠some g):qq f e sz w' B v l:=by
 obtain⟨h1,h2⟩:=h;refine⟨h1,?_⟩;rcases h2 with h2|⟨q,cap,cur,rfl,hq,hh,r⟩
 ·exact .inl h2
 ·exact .inr ⟨q,cap,cur,rfl,hq,(hw.other q fun e=>hg (by rw[←e];rfl)).trans hh,r⟩
theorem qq.neT {α:Type} {f:α->List Value} {e:TypeId} {sz B g:Nat} {v:Value} {l:List α} {w:World} {cs:Array Value} {t:TypeId} {fz:Nat×Nat} (h:qq f e sz w B v l) (hg:w.heap[g]?=some (.cells cs t fz)) (he:t≠e):v.ownBlock≠some g:=fun hk=>by
 obtain⟨c2,h2⟩:=h.keepObj g hk;rw[hg] at h2;simp only[Option.some.injEq,Obj.cells.injEq] at h2;exact he h2.2.1
theorem Kp.set {M:TypeId->Prop} {ev:Value} {w:World} {g j:Nat} {cs:Array Value} {t:TypeId} {fz:Nat×Nat} (hg:w.heap[g]?=some (.cells cs t fz)) (ht:M t) (v:Value):Kp M ev w (w.setCell ⟨g,j,none⟩ v):=by
 refine⟨(Below.refl 0 w).setCell (p:=⟨g,j,none⟩) (Nat.zero_le _) v,fun k c ty f hk hm _=>?_,fun k es c hk=>?_⟩
 ·refine qK hk ?_
  rintro rfl;rw[hg] at hk;simp only[Option.some.injEq,Obj.cells.injEq] at hk;exact hm (hk.2.1▸ht)
 ·refine qK hk ?_
  rintro rfl;rw[hg] at hk;cases hk
theorem Kp.wr {M:TypeId->Prop} {ev:Value} {w w1 w':World} {g:Nat} {cs:Array Value} {t:TypeId} (h:Kp M ev w w1) (hw:Wr g cs t w1 w') (hg:w.heap.size<=g):Kp M ev w w':=
 ⟨h.base.trans (hw.below (Nat.zero_le _)),fun k c ty f hk hm he=>(hw.other k (by have:=qh hk;omega)).trans (h.cells k c ty f hk hm he),fun k es c hk=>(hw.other k (by have:=qh hk;omega)).trans (h.maps k es c hk)⟩
def Mw (t:TypeId):Prop:=t=210\/t=283
theorem qW.turn {w w':World} {B bW gT:Nat} {vc vt ve ve':Value} {P:Pg} {S S':yk} (h:qW w B bW gT vc vt ve P S) (hk:Kp Mw ve w w')
  (hr:w'.heap[bW]?=some (.cells #[vc,vt,.slice (some ⟨gT,0,none⟩) P.threads.length P.threads.length,ve'] 210 (0,0)))
  (ht:qq Th.cells 283 6 w' B (.slice (some ⟨gT,0,none⟩) P.threads.length P.threads.length) S'.ths) (hev:qq Ev.cells 53 8 w' B ve' S'.evs)
  (htk:∀(i:Nat) (t:Th),S'.ths[i]?=some t->ThOk P i t):qW w' B bW gT vc vt ve' P S':=
 ⟨hr,h.hB,qq.kp h.cells hk (by unfold Mw;decide) (by decide),h.thr.kp hk (by unfold Mw;decide) (by unfold Mw;decide) (by unfold Mw;decide),ht,hev,h.ok,htk⟩
theorem qW.below {w w':World} {B bW gT:Nat} {vc vt ve:Value} {P:Pg} {S:yk} (h:qW w B bW gT vc vt ve P S) (hb:Below w.heap.size w w'):qW w' B bW gT vc vt ve P S:=
 h.turn (Kp.of_below hb) (qp h.row hb (qh h.row)) (qq.below h.ths hb) (qq.below h.evs hb) h.tok
theorem infoE:(Tryz.prog.info? 53).map (fun i=>(i.zero,i.size,i.bytes))=some (some (.agg #[.int .i64 0,.int .i64 0,.int .i64 0,.int .i64 0,.int .i64 0,.int .i64 0,.int .i64 0,.int .i64 0]),8,64):=by kernel_rfl
theorem ev_one (x:Ev):∀u ∈ x.cells,u.oneCell'=true:=by intro u hu;simp[Ev.cells] at hu;rcases hu with rfl|rfl|rfl|rfl|rfl|rfl|rfl|rfl <;> rfl
theorem Pg.tx3 {P:Pg} (h:PgOk P) {i:Nat} (hi:i < P.threads.length):(P.txs i).length<=3:=by
 obtain⟨x,hx⟩:∃x,P.threads[i]?=some x:=⟨_,List.getElem?_eq_getElem hi⟩
 rw[Pg.txs_at hx];exact h.txs x (List.mem_of_getElem? hx)
theorem zb {P:Pg} (h:PgOk P) {i:Nat} (hi:i < P.threads.length) {t:Th} (ht:ThOk P i t) (hd:qR P i t=false):t.tx < (P.txs i).length:=by
 have h1:=ht.tx;unfold qR at hd;have h3:t.tx≠(P.txs i).length:=by simpa using hd
 omega
abbrev yv (e:Ev):Value:=.agg #[.int .i64 e.kind,.int .i64 e.tx,.int .i64 e.thread,.int .i64 e.obj,.int .i64 e.op,.int .i64 e.key,.int .i64 e.val,.int .i64 e.ret]
section
variable {w:World} {B bW gT:Nat} {vc vt ve:Value} {P:Pg} {S:yk}
theorem xP (h:qW w B bW gT vc vt ve P S) (hBw:B<=w.heap.size) (i:Nat) (hi:i < P.threads.length) {t:Th} (ht:S.ths[i]?=some t) (htx:t.tx < 3) (e:Ev) (hl:S.evs.length<=100000):
  Calls Tryz.prog 150 #[.pointer (some ⟨bW,0,none⟩),.int .i64 i,yv e] w fun x w'=>
  x=.returned (.tuple #[yv (qE e (qG i t.tx)),.bool true])/\∃ve',qW w' B bW gT vc vt ve' P ⟨S.ths,S.evs++[qE e (qG i t.tx)]⟩/\Kp Mw ve w w'/\Below B w w'/\∀k,ve'.ownBlock=some k->ve.ownBlock=some k\/w.heap.size<=k:=by
 obtain⟨t',ht',htk,hgl,hc⟩:=h.at hi;rw[ht] at ht';obtain rfl:=Option.some.inj ht';have hm:P.threads.length<=4:=h.ok.threads.2;have hi4:i < 4:=by omega
 obtain⟨ae,ce,rfl,hme⟩:=h.evs.form2;have hr:=qg h.row;have d2:w.cell? ⟨bW,2,none⟩=some (.slice (some ⟨gT,0,none⟩) P.threads.length P.threads.length):=hr 2;have d3:w.cell? ⟨bW,3,none⟩=some (.slice ae S.evs.length ce):=hr 3;have f3:w.frozen? ⟨bW,3,none⟩=false:=qx h.row 3;have c0:w.cell? ⟨gT,i*6,none⟩=some (.int .i64 t.tx):=hc 0 (by decide);have hbl:=qh h.row;have hlt0:=h.evs.lt;have HLT:=qj hlt0;have hBw:=qj hBw;have H:=qj h;have HT:=qj ht;clear h ht hr hc htk hlt0;obtain⟨k1,k2,k3,k4,k5,k6,k7,k8⟩:=e;go_enter Tryz.func150,Tryz.ntmps150;go_wp2_with fail;refine(wk_id i t.tx hi4 htx _).mono ?_;rintro x w1 ⟨rfl,rfl⟩;go_wp2;have ba:Below w.heap.size w (w.alloc (.cells #[.int .i64 k1,.int .i64 (qG i t.tx),.int .i64 k3,.int .i64 k4,.int .i64 k5,.int .i64 k6,.int .i64 k7,.int .i64 k8] 53)):=(Below.refl _ _).alloc (Nat.le_refl _) _;have bz:=ba.alloc (by simp) (.cells #[.int .i64 0,.int .i64 0,.int .i64 0,.int .i64 0,.int .i64 0,.int .i64 0,.int .i64 0,.int .i64 0] 53);have rA:=qF (o:=.cells #[.int .i64 0,.int .i64 0,.int .i64 0,.int .i64 0,.int .i64 0,.int .i64 0,.int .i64 0,.int .i64 0] 53) (qy w (.cells #[.int .i64 k1,.int .i64 (qG i t.tx),.int .i64 k3,.int .i64 k4,.int .i64 k5,.int .i64 k6,.int .i64 k7,.int .i64 k8] 53));have rZ:=qL (w:=w.alloc (.cells #[.int .i64 k1,.int .i64 (qG i t.tx),.int .i64 k3,.int .i64 k4,.int .i64 k5,.int .i64 k6,.int .i64 k7,.int .i64 k8] 53)) (o:=.cells #[.int .i64 0,.int .i64 0,.int .i64 0,.int .i64 0,.int .i64 0,.int .i64 0,.int .i64 0,.int .i64 0] 53) (g:=w.heap.size+1) (by simp);obtain⟨W,hW⟩:∃W,W=(w.alloc (.cells #[.int .i64 k1,.int .i64 (qG i t.tx),.int .i64 k3,.int .i64 k4,.int .i64 k5,.int .i64 k6,.int .i64 k7,.int .i64 k8] 53)).alloc (.cells #[.int .i64 0,.int .i64 0,.int .i64 0,.int .i64 0,.int .i64 0,.int .i64 0,.int .i64 0,.int .i64 0] 53):=⟨_,rfl⟩
 have zW:W.heap.size=w.heap.size+2:=by rw[hW];simp
 rw[←hW] at bz rA rZ ⊢;have BZ:=qj bz;have RA:=qj rA;have RZ:=qj rZ;have HW:=qj (H.o.below bz);have e0:=qg rA;have q0:W.cell? ⟨w.heap.size,0,none⟩=some (.int .i64 k1):=e0 0;have q1:W.cell? ⟨w.heap.size,1,none⟩=some (.int .i64 (qG i t.tx)):=e0 1;have q2:W.cell? ⟨w.heap.size,2,none⟩=some (.int .i64 k3):=e0 2;have q3:W.cell? ⟨w.heap.size,3,none⟩=some (.int .i64 k4):=e0 3;have q4:W.cell? ⟨w.heap.size,4,none⟩=some (.int .i64 k5):=e0 4;have q5:W.cell? ⟨w.heap.size,5,none⟩=some (.int .i64 k6):=e0 5;have q6:W.cell? ⟨w.heap.size,6,none⟩=some (.int .i64 k7):=e0 6;have q7:W.cell? ⟨w.heap.size,7,none⟩=some (.int .i64 k8):=e0 7;have g3:W.cell? ⟨bW,3,none⟩=some (.slice ae S.evs.length ce):=qg HW.o.row 3;have zW':w.heap.size+2<=W.heap.size:=Nat.le_of_eq zW.symm;clear bz rA rZ hW ba e0 d2 d3 f3 c0 zW;refine qH [0,0,0,0,1,1,3,2,0,0,2] [0,1,2,3,4,5,6,7,8,9,10] (by kernel_rfl) ?_;simp only[qP,qD,sD,sE,sF,sG]
 repeat first|(refine qC fun K hK=>?_;go_simp;refine hK _ _ ?_;clear hK K)|(apply qJ;(intro w2 hw2;have hk1:=hw2.cell;have hk3:=hw2.heap;clear hw2;go_simp;with_reducible rfl);simp only[Act.put,sA,sB,sC])
 refine qI (fun K hK=>?_);go_simp;refine hK _ _ (xU.alloc _ _) ?_;clear hK K;refine qN (fun K hK=>?_);rw[drew_alloc];have hge:=HW.o.evs.lt;refine wp_appF _ _ _ rfl _ 64 Tryz.underlying35 infoE rfl HW.o.evs.drew ⟨k1,qG i t.tx,k3,k4,k5,k6,k7,k8⟩ (by first|omega|(simp <;> omega)) (by rfl) (by rfl) (by first|rfl|simp) rfl (ev_one _) (by first|omega|(simp only[List.length_append,List.length_cons,List.length_nil,List.length_replicate];omega)) (by first|omega|(simp only[List.length_append,List.length_cons,List.length_nil,List.length_replicate];omega)) ?_;intro g1 k9 w1 h1 G1;have hlW:∀(k:Nat) (o:Obj),W.heap[k]?=some o->(Value.slice ae S.evs.length ce).ownBlock≠some k->w1.heap[k]?=some o:=fun k o hk hne=>qQ (show W.drew.heap[k]?=some o from hk) G1 hne;have hneT:∀(k:Nat) (cs:Array Value) (ty:TypeId),W.heap[k]?=some (.cells cs ty (0,0))->ty≠53->(Value.slice ae S.evs.length ce).ownBlock≠some k:=fun k cs ty hk ht e=>by
  obtain⟨c2,h2⟩:=HW.o.evs.keepObj k e;rw[hk] at h2;simp only[Option.some.injEq,Obj.cells.injEq] at h2;exact ht h2.2.1
 have r1:=hlW bW _ HW.o.row (hneT bW _ _ HW.o.row (by decide));have KPW:Kp (fun _=>False) (.slice ae S.evs.length ce) W w1:=⟨⟨G1.grown.os,G1.grown.tape,G1.grown.output,G1.grown.size,fun k hk=>absurd hk (by omega)⟩,fun k cs ty fz hk _ he=>by
   by_cases hty:ty=53
   ·exact hlW k _ hk (he hty)
   ·exact hlW k _ hk fun e=>by
     obtain⟨c2,h2⟩:=HW.o.evs.keepObj k e;rw[hk] at h2;simp only[Option.some.injEq,Obj.cells.injEq] at h2;exact hty h2.2.1,fun k es c hk=>hlW k _ hk fun e=>by
    obtain⟨c2,h2⟩:=HW.o.evs.keepObj k e;rw[hk] at h2;cases h2⟩
 have neA:∀k,w.heap.size<=k->(Value.slice ae S.evs.length ce).ownBlock≠some k:=fun k hk e=>by have:=(HLT.o k e).2;omega
 have rA1:=hlW w.heap.size _ RA.o (neA _ (Nat.le_refl _));have rZ1:=hlW (w.heap.size+1) _ RZ.o (neA _ (by omega));have T1:=qj (show qq Th.cells 283 6 w1 B _ S.ths from qq.kp HW.o.ths KPW (fun h=>h) (by decide));have O1:=qj (show qq Ev.cells 53 8 w1 B (.slice (some ⟨g1,0,none⟩) (S.evs.length+1) k9) (S.evs++[⟨k1,qG i t.tx,k3,k4,k5,k6,k7,k8⟩]) from h1);have HOW:=qj (show ∀k,(Value.slice (some ⟨g1,0,none⟩) (S.evs.length+1) k9).ownBlock=some k->(Value.slice ae S.evs.length ce).ownBlock=some k\/W.heap.size<=k from G1.own);have KPW1:=qj KPW;have HW1:=qj (show Below B W w1 from(Below.refl B W).drew.trans (G1.below (by show B<=W.heap.size;have:=hBw.o;omega) fun k h=>(HLT.o k h).1));have R1:=qj r1;have RA1:=qj rA1;have RZ1:=qj rZ1;have m3:w1.cell? ⟨bW,3,none⟩=some (.slice ae S.evs.length ce):=qg r1 3;have mf:w1.frozen? ⟨bW,3,none⟩=false:=qx r1 3;clear hlW hneT r1 KPW neA rA1 rZ1 h1 G1 hge RA RZ q0 q1 q2 q3 q4 q5 q6 q7 g3;refine hK _ _ ?_;clear hK K
 repeat (refine qC fun K hK=>?_;go_simp;refine hK _ _ ?_;clear hK K)
 refine qN (fun K hK=>?_);go_simp;refine hK _ _ ?_;clear hK K
 repeat refine qA ?_
 have e0:=qg (qK RA1.o (g':=bW) (j:=3) (v:=.slice (some ⟨g1,0,none⟩) (S.evs.length+1) k9) (by omega));have z0:=qK RZ1.o (g':=bW) (j:=3) (v:=.slice (some ⟨g1,0,none⟩) (S.evs.length+1) k9) (by omega);obtain⟨W2,hW2⟩:∃W2,W2=w1.setCell ⟨bW,3,none⟩ (.slice (some ⟨g1,0,none⟩) (S.evs.length+1) k9):=⟨_,rfl⟩
 rw[←hW2] at e0 z0 ⊢;have x0:W2.cell? ⟨w.heap.size,0,none⟩=some (.int .i64 k1):=e0 0;have x1:W2.cell? ⟨w.heap.size,1,none⟩=some (.int .i64 (qG i t.tx)):=e0 1;have x2:W2.cell? ⟨w.heap.size,2,none⟩=some (.int .i64 k3):=e0 2;have x3:W2.cell? ⟨w.heap.size,3,none⟩=some (.int .i64 k4):=e0 3;have x4:W2.cell? ⟨w.heap.size,4,none⟩=some (.int .i64 k5):=e0 4;have x5:W2.cell? ⟨w.heap.size,5,none⟩=some (.int .i64 k6):=e0 5;have x6:W2.cell? ⟨w.heap.size,6,none⟩=some (.int .i64 k7):=e0 6;have x7:W2.cell? ⟨w.heap.size,7,none⟩=some (.int .i64 k8):=e0 7;have zf:∀j,W2.frozen? ⟨w.heap.size+1,j,none⟩=false:=fun j=>qx z0 j;have zc:=qg z0;have y0:W2.cell? ⟨w.heap.size+1,0,none⟩=some (.int .i64 0):=zc 0;have y1:W2.cell? ⟨w.heap.size+1,1,none⟩=some (.int .i64 0):=zc 1;have y2:W2.cell? ⟨w.heap.size+1,2,none⟩=some (.int .i64 0):=zc 2;have y3:W2.cell? ⟨w.heap.size+1,3,none⟩=some (.int .i64 0):=zc 3;have y4:W2.cell? ⟨w.heap.size+1,4,none⟩=some (.int .i64 0):=zc 4;have y5:W2.cell? ⟨w.heap.size+1,5,none⟩=some (.int .i64 0):=zc 5;have y6:W2.cell? ⟨w.heap.size+1,6,none⟩=some (.int .i64 0):=zc 6;have y7:W2.cell? ⟨w.heap.size+1,7,none⟩=some (.int .i64 0):=zc 7;have HW2:=qj hW2;have Z0:=qj z0;clear e0 z0 hW2 zc m3 mf;go_wp2;have WR:=((((((((Wr.start Z0.o).set 0 (.int .i64 k1)).set 1 (.int .i64 (qG i t.tx))).set 2 (.int .i64 k3)).set 3 (.int .i64 k4)).set 4 (.int .i64 k5)).set 5 (.int .i64 k6)).set 6 (.int .i64 k7)).set 7 (.int .i64 k8);generalize (((((((W2.setCell ⟨w.heap.size+1,0,none⟩ (.int .i64 k1)).setCell ⟨w.heap.size+1,1,none⟩ (.int .i64 (qG i t.tx))).setCell ⟨w.heap.size+1,2,none⟩ (.int .i64 k3)).setCell ⟨w.heap.size+1,3,none⟩ (.int .i64 k4)).setCell ⟨w.heap.size+1,4,none⟩ (.int .i64 k5)).setCell ⟨w.heap.size+1,5,none⟩ (.int .i64 k6)).setCell ⟨w.heap.size+1,6,none⟩ (.int .i64 k7)).setCell ⟨w.heap.size+1,7,none⟩ (.int .i64 k8)=W3 at *;have KS:Kp Mw (.slice ae S.evs.length ce) w1 W2:=by rw[HW2.o];exact Kp.set R1.o (.inl rfl) _
 have KT:Kp Mw (.slice ae S.evs.length ce) w W3:=Kp.wr ((Kp.of_below BZ.o).trans ((KPW1.o.more (M':=Mw) fun _ h=>h.elim).trans KS fun b h=>.inl h) fun b h=>.inl h) WR (by omega);have cc:=qg WR.row;have cc0:=cc 0;have cc1:=cc 1;have cc2:=cc 2;have cc3:=cc 3;have cc4:=cc 4;have cc5:=cc 5;have cc6:=cc 6;have cc7:=cc 7;simp at cc0 cc1 cc2 cc3 cc4 cc5 cc6 cc7;refine bodyPost_ret (v:=.tuple #[yv ⟨k1,qG i t.tx,k3,k4,k5,k6,k7,k8⟩,.bool true]) (by simp[results,Tryz.results150,go_sem,cc0,cc1,cc2,cc3,cc4,cc5,cc6,cc7]) rfl ⟨rfl,.slice (some ⟨g1,0,none⟩) (S.evs.length+1) k9,?_,?_,?_,?_⟩
 ·have hbg:bW≠w.heap.size+1:=by omega
  have tne:=qq.neT T1.o R1.o (by decide);have one:=qq.neT O1.o R1.o (by decide);have hT2:qq Th.cells 283 6 W2 B (.slice (some ⟨gT,0,none⟩) P.threads.length P.threads.length) S.ths:=by rw[HW2.o];exact qq.other T1.o tne _
  have hO2:qq Ev.cells 53 8 W2 B (.slice (some ⟨g1,0,none⟩) (S.evs.length+1) k9) (S.evs++[⟨k1,qG i t.tx,k3,k4,k5,k6,k7,k8⟩]):=by rw[HW2.o];exact qq.other O1.o one _
  have hR2:W2.heap[bW]?=some (.cells #[vc,vt,.slice (some ⟨gT,0,none⟩) P.threads.length P.threads.length,.slice (some ⟨g1,0,none⟩) (S.evs.length+1) k9] 210 (0,0)):=by rw[HW2.o];exact qB R1.o 3 _
  refine H.o.turn KT ((WR.other bW hbg).trans hR2) (qq.wr hT2 WR fun e=>?_) (qq.wr hO2 WR fun e=>?_) H.o.tok
  ·have h1:=(H.o.ths.lt _ e).2
   omega
  ·rcases HOW.o _ e with h|h
   ·have:=(HLT.o _ h).2;omega
   ·omega
 ·exact KT
 ·refine ((BZ.o.mono hBw.o).trans (HW1.o.trans ?_)).trans (WR.below (by have:=hBw.o;omega))
  rw[HW2.o];exact(Below.refl B w1).setCell (p:=⟨bW,3,none⟩) H.o.hB _
 ·intro k hk
  rcases HOW.o k hk with h|h
  ·exact .inl h
  ·exact .inr (by omega)
end
end
