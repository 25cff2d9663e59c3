/- Parts of the proof, merged by program out of 10 texts (App, EmB, EmC, EnA, EnB, EnC, EmD, EmE, EmF, EmG): the first: Words for memory that the call makes: append, lists that are written out, blocks. Conditions: those of each theorem, as typed. -/
import Derived.Test.YtcpfbphcldocpaaGreatDoorQF01
import Derived.OneCell
import Derived.Laws.MakeOwn
import Derived.OwnWalk
import Derived.Laws.EntriesVeiled
set_option linter.unusedVariables false
set_option linter.unusedSimpArgs false
set_option linter.unusedSectionVars false
set_option maxRecDepth 100000
set_option maxHeartbeats 4000000
namespace Go.Proofs.YtcpfbphcldocpaaGreatDoor
open Go.RowKit
theorem cells_new_add (w:World) (l:List Value) (t:TypeId):∀(j:Nat) (u:Value),l[j]?=some u→(w.alloc (.cells l.toArray t)).cell? ((⟨w.heap.size,0,none⟩:Addr).add j)=some u:=by
 intro j u hu
 have hadd:((⟨w.heap.size,0,none⟩:Addr).add j)=⟨w.heap.size,j,none⟩:=by unfold Addr.add;split <;> simp_all
 rw[hadd,cell_new]
 simpa using hu
theorem own_fresh {w:World} {base n m old:Nat} {e:TypeId} {i:TypeInfo} {z:Value} {xs news:List Value} (hl:(xs++news).length=(n+m)*i.size) (hzs:z.cells.size=i.size)
  (h63:n+m≤maxLen) (hbase:base≤w.heap.size) (row:Option Nat):
  (w.drew.alloc (.cells (xs.toArray++news.toArray++Builtin.zeroCells z.cells (grownCap w (n+m) old e - (n+m))) e)).ownsRow base e i.size
    (.slice (some ⟨w.heap.size,0,none⟩) (n+m) (grownCap w (n+m) old e)) (n+m) (xs++news)∧
   w.grownBy (w.drew.alloc (.cells (xs.toArray++news.toArray++Builtin.zeroCells z.cells (grownCap w (n+m) old e - (n+m))) e)) row:=by
 have hge:=grownCap_ge w (n+m) old e
 have hcm:grownCap w (n+m) old e≤maxLen:=grownCap_le_maxLen w (n+m) old e h63
 have hl2:xs.length+news.length=(n+m)*i.size:=by rw[←List.length_append];exact hl
 refine⟨⟨hl,.inr ⟨w.heap.size,_,_,rfl,hbase,heap_alloc_new w.drew _,hge,hcm,?_,?_⟩⟩,⟨rfl,rfl,rfl,by simp,fun k hk _=>Below.heap_alloc w.drew _ k hk⟩⟩
 ·simp only[Array.size_append,List.size_toArray,size_zeroCells,hzs]
  rw[hl2,←Nat.add_mul]
  congr 1
  omega
 ·simp only[Array.toList_append,List.append_assoc]
  rw[←List.append_assoc,←hl]
  exact List.take_left
theorem run_append1 {P:Program} (w:World) (base:Nat) (t ty e:TypeId) (i:TypeInfo) (z:Value) (size bytes:Nat) (ht:P.underlying t=some (.slice e)) (hi:P.info? e=some i) (hz:i.zero=some z)
  (hsize:i.size=size) (hby:i.bytes=bytes) (hzs:z.cells.size=size) (v:Value) (n:Nat) (xs:List Value) (hown:w.ownsRow base e size v n xs)
  (a:Addr) (m c:Nat) (hm:0 < m) (news:List Value) (hl:news.length=m*size) (hnews:∀j u,news[j]?=some u→w.cell? (a.add j)=some u) (h1:∀u ∈ news,u.oneCell'=true)
  (h63:n+m≤maxLen) (hbytes:(n+m)*bytes≤140737488355328) (hbase:base≤w.heap.size):
  ∃g cap w',(Builtin.append_ #[t,t] ty #[v,.slice (some a) m c]).run P w=.ok (.slice (some ⟨g,0,none⟩) (n+m) cap) w'∧w'.ownsRow base e size (.slice (some ⟨g,0,none⟩) (n+m) cap) (n+m) (xs++news)∧w.grownBy w' v.ownBlock∧
   (g=w.heap.size∨v.ownBlock=some g):=by
 subst hsize
 subst hby
 have hsmall:n+m≤9223372036854775807:=by simp only[maxLen] at h63;omega
 have hlen:(xs++news).length=(n+m)*i.size:=by rw[List.length_append,hown.1,hl,Nat.add_mul]
 rcases hown.2 with⟨rfl,rfl⟩|⟨g,cap,cur,rfl,hbg,hg,hnc,hcm,hcs,htake⟩
 ·have hx:xs=[]:=List.eq_nil_of_length_eq_zero (by simpa using hown.1)
  subst hx
  have hr:=run_append_nil (P:=P) w t ty e i z ht hi hz a m c news hl hnews hm (by omega) (by have hb:=hbytes;simp only[Nat.zero_add] at hb;omega)
  have hgr:=own_fresh (old:=0) (e:=e) (z:=z) hlen hzs h63 hbase (Value.ownBlock (.slice none 0 0))
  simp only[Nat.zero_add,List.nil_append,Array.empty_append] at hgr ⊢
  exact⟨_,_,_,hr,hgr.1,hgr.2,.inl rfl⟩
 ·by_cases hroom:n+m≤cap
  ·have hfit:n*i.size+news.length≤cur.size:=by rw[hl,hcs,←Nat.add_mul];exact Nat.mul_le_mul_right _ hroom
   have hr:=run_append_room (P:=P) w t ty e i ht hi g n cap cur hg a m c news hl hnews h1 hroom hfit
   refine⟨g,cap,_,hr,⟨hlen,.inr ⟨g,cap,_,rfl,hbg,setRow_heap w g cur _ e _ hg,hroom,hcm,?_,?_⟩⟩,⟨rfl,rfl,rfl,by simp,fun k _ hk=>setRow_other w g k _ (fun e=>hk (by simp[Value.ownBlock,e]))⟩,.inr rfl⟩
   ·simp only[List.size_toArray,List.length_append,List.length_take,List.length_drop,Array.length_toList]
    omega
   ·rw [htake,←hlen]
    exact List.take_left
  ·have holds:∀j u,xs[j]?=some u→w.cell? ((⟨g,0,none⟩:Addr).add j)=some u:=hown.cells (g:=g) rfl
   have hr:=run_append_grow (P:=P) w t ty e i z ht hi hz ⟨g,0,none⟩ n cap xs hown.1 holds a m c news hl hnews (by omega) (by omega) (growslice_fits (by omega) hbytes)
   have hgr:=own_fresh (old:=cap) (e:=e) (z:=z) hlen hzs h63 hbase (Value.ownBlock (.slice (some ⟨g,0,none⟩) n cap))
   exact⟨_,_,_,hr,hgr.1,hgr.2,.inl rfl⟩
structure Grw (w w':World) (v v':Value):Prop where
 grown:w.grownBy w' v.ownBlock
 own:∀k,v'.ownBlock=some k→v.ownBlock=some k∨w.heap.size≤k
theorem Grw.refl (w:World) (v:Value):Grw w w v v:=⟨⟨rfl,rfl,rfl,Nat.le_refl _,fun _ _ _=>rfl⟩,fun _ h=>.inl h⟩
theorem Grw.below {w w':World} {v v':Value} {B:Nat} (h:Grw w w' v v') (hB:B≤w.heap.size) (hv:∀k,v.ownBlock=some k→B≤k):Below B w w':=
 (Below.refl B w).grown h.grown hB hv
theorem Grw.size {w w':World} {v v':Value} (h:Grw w w' v v'):w.heap.size≤w'.heap.size:=h.grown.size
theorem wp_append1 {P:Program} {o:Oper} {a:Act} {K:Act→World→Prop} {Q:Exit→Act→World→Prop} (s x:Operand) (t:TypeId)
  (ho:o.op=.call {callee:=.builtin .append,args:=#[s,x],argTypes:=#[t,t]})
  (e:TypeId) (z:Value) (size bytes:Nat) (ht:P.underlying t=some (.slice e)) (hinfo:(P.info? e).map (fun i=>(i.zero,i.size,i.bytes))=some (some z,size,bytes))
  (hzs:z.cells.size=size) {base n m:Nat} {v:Value} {xs news:List Value} {w0:World} (hs:a.eval s=v) (hown:w0.ownsRow base e size v n xs) (hbase:base≤w0.heap.size) (hm:0 < m)
  {g0:Nat} (hx:a.eval x=.slice (some ⟨g0,0,none⟩) m m) (hg0:g0=w0.heap.size) (hl:news.length=m*size) (h1:∀u ∈ news,u.oneCell'=true) (hn:n+m≤9223372036854775807) (hby:(n+m)*bytes≤140737488355328)
  (hK:∀g cap w',w'.ownsRow base e size (.slice (some ⟨g,0,none⟩) (n+m) cap) (n+m) (xs++news)→Grw w0 w' v (.slice (some ⟨g,0,none⟩) (n+m) cap)→K (a.put o.dst (.slice (some ⟨g,0,none⟩) (n+m) cap)) w'):
  o.wp P a (w0.alloc (.cells news.toArray e)) K Q:=by
 subst hg0
 obtain⟨i0,hi,hz0,hz1,hz2⟩:=info_parts hinfo
 obtain⟨g,cap,w',hr,hown',hgrow,hg⟩:=run_append1 (P:=P) (w0.alloc (.cells news.toArray e)) base t o.type e i0 z size bytes ht hi hz0 hz1 hz2 hzs v n xs (hown.alloc _) _ m m hm news hl
  (cells_new_add w0 news e) h1 (by unfold maxLen;omega) hby (by simp;omega)
 unfold Oper.wp execOp
 simp only[ho,resolve,invoke,builtin,Sem.run_bind,Sem.run_pure,Result.andThen_ok,List.map_toArray,List.map_cons,List.map_nil,hs,hx,hr]
 refine hK g cap w' hown' ⟨?_,?_⟩
 ·exact ⟨hgrow.os,hgrow.tape,hgrow.output,Nat.le_trans (by simp) hgrow.size,fun k hk hne=>(hgrow.block k (by simp;omega) hne).trans (Below.heap_alloc w0 _ k hk)⟩
 ·intro k hk
  simp only[Value.ownBlock,Option.some.injEq] at hk
  subst hk
  rcases hg with hg|hg
  ·right;rw[hg];simp
  ·exact .inl hg
def OwnF {α:Type} (f:α→List Value) (e:TypeId) (sz:Nat) (w:World) (B:Nat) (v:Value) (l:List α):Prop:=w.ownsRow B e sz v l.length (l.flatMap f)
section
variable {α:Type} {f:α→List Value} {e:TypeId} {sz:Nat} {w w':World} {B:Nat} {v:Value} {l:List α}
theorem OwnF.sl (h:OwnF f e sz w B v l):Sl w w.heap.size sz v l.length (l.flatMap f):=Sl.of_own h
theorem OwnF.nil (w:World) (B:Nat):OwnF f e sz w B (.slice none 0 0) []:=World.ownsRow_nil w B e sz
theorem OwnF.lt (h:OwnF f e sz w B v l):∀k,v.ownBlock=some k→B≤k∧k < w.heap.size:=World.ownsRow.lt h
theorem OwnF.kept (h:OwnF f e sz w B v l) {row:Option Nat} (hg:w.grownBy w' row) (hne:v.ownBlock=none∨v.ownBlock≠row):OwnF f e sz w' B v l:=World.ownsRow.kept h hg hne
theorem OwnF.below (h:OwnF f e sz w B v l) (hb:Below w.heap.size w w'):OwnF f e sz w' B v l:=
 World.ownsRow.kept h (row:=none) ⟨hb.os,hb.tape,hb.output,hb.size,fun k hk _=>hb.block k hk⟩ (by cases v.ownBlock <;> simp)
theorem OwnF.drew (h:OwnF f e sz w B v l):OwnF f e sz w.drew B v l:=h
theorem OwnF.alloc (h:OwnF f e sz w B v l) (o:Obj):OwnF f e sz (w.alloc o) B v l:=World.ownsRow.alloc h o
theorem OwnF.base {B':Nat} (h:OwnF f e sz w B v l) (hB:B'≤B):OwnF f e sz w B' v l:=by
 obtain⟨h1,h2⟩:=h
 refine⟨h1,?_⟩
 rcases h2 with h2|⟨g,cap,cur,hv,hg,r⟩
 ·exact .inl h2
 ·exact .inr ⟨g,cap,cur,hv,by omega,r⟩
theorem OwnF.form (h:OwnF f e sz w B v l):(v=.slice none 0 0∧l=[])∨∃g cap,v=.slice (some ⟨g,0,none⟩) l.length cap∧B≤g∧g < w.heap.size:=by
 obtain⟨h1,h2⟩:=h
 rcases h2 with⟨h2,h3⟩|⟨g,cap,cur,hv,hg,hh,r⟩
 ·exact .inl ⟨h2,List.eq_nil_of_length_eq_zero h3⟩
 ·exact .inr ⟨g,cap,hv,hg,(Array.getElem?_eq_some_iff.1 hh).1⟩
theorem wp_appF {P:Program} {o:Oper} {a:Act} {K:Act→World→Prop} {Q:Exit→Act→World→Prop} (s x:Operand) (t:TypeId)
  (ho:o.op=.call {callee:=.builtin .append,args:=#[s,x],argTypes:=#[t,t]})
  (z:Value) (bytes:Nat) (ht:P.underlying t=some (.slice e)) (hinfo:(P.info? e).map (fun i=>(i.zero,i.size,i.bytes))=some (some z,sz,bytes))
  (hzs:z.cells.size=sz) {w0:World} (hown:OwnF f e sz w0 B v l) (y:α) (hbase:B≤w0.heap.size) (hs:a.eval s=v)
  {g0:Nat} (hx:a.eval x=.slice (some ⟨g0,0,none⟩) 1 1) (hg0:g0=w0.heap.size) (hl:(f y).length=sz) (h1:∀u ∈ f y,u.oneCell'=true) (hn:l.length+1≤9223372036854775807) (hby:(l.length+1)*bytes≤140737488355328)
  (hK:∀g cap w',OwnF f e sz w' B (.slice (some ⟨g,0,none⟩) (l.length+1) cap) (l++[y])→Grw w0 w' v (.slice (some ⟨g,0,none⟩) (l.length+1) cap)→K (a.put o.dst (.slice (some ⟨g,0,none⟩) (l.length+1) cap)) w'):
  o.wp P a (w0.alloc (.cells (f y).toArray e)) K Q:=
 wp_append1 s x t ho e z sz bytes ht hinfo hzs hs hown hbase (by omega) hx hg0 (by simpa using hl) h1 hn hby fun g cap w' h2 h3=>hK g cap w' (by simpa[OwnF,List.flatMap_append] using h2) h3
theorem wpList_appF {P:Program} {ops:Array Oper} {rest:List Oper} {o:Oper} {a:Act} {Q:Exit→Act→World→Prop} (hgd:o.guard=none) (s x:Operand) (t:TypeId)
  (ho:o.op=.call {callee:=.builtin .append,args:=#[s,x],argTypes:=#[t,t]})
  (z:Value) (bytes:Nat) (ht:P.underlying t=some (.slice e)) (hinfo:(P.info? e).map (fun i=>(i.zero,i.size,i.bytes))=some (some z,sz,bytes))
  (hzs:z.cells.size=sz) {w0:World} (hown:OwnF f e sz w0 B v l) (y:α) (hbase:B≤w0.heap.size) (hs:a.eval s=v)
  {g0:Nat} (hx:a.eval x=.slice (some ⟨g0,0,none⟩) 1 1) (hg0:g0=w0.heap.size) (hl:(f y).length=sz) (h1:∀u ∈ f y,u.oneCell'=true) (hn:l.length+1≤9223372036854775807) (hby:(l.length+1)*bytes≤140737488355328)
  (hK:∀g cap w',OwnF f e sz w' B (.slice (some ⟨g,0,none⟩) (l.length+1) cap) (l++[y])→Grw w0 w' v (.slice (some ⟨g,0,none⟩) (l.length+1) cap)→wpList P ops Q rest (a.put o.dst (.slice (some ⟨g,0,none⟩) (l.length+1) cap)) w'):
  wpList P ops Q (o::rest) a (w0.alloc (.cells (f y).toArray e)):=
 wpList_plain hgd fun _ hK'=>wp_appF s x t ho z bytes ht hinfo hzs hown y hbase hs hx hg0 hl h1 hn hby fun g cap w' h2 h3=>hK' _ _ (hK g cap w' h2 h3)
theorem OwnF.lit (w:World) (B:Nat) (hB:B≤w.heap.size) (l:List α) (hl:∀y,(f y).length=sz) (hn:l.length≤9223372036854775807):
  OwnF f e sz (w.alloc (.cells (l.flatMap f).toArray e)) B (.slice (some ⟨w.heap.size,0,none⟩) l.length l.length) l:=by
 refine⟨flat_length f sz hl l,.inr ⟨w.heap.size,l.length,_,rfl,hB,heap_alloc_new w _,Nat.le_refl _,by unfold maxLen;omega,by simp[flat_length f sz hl l],?_⟩⟩
 rw[←flat_length f sz hl l]
 exact List.take_length
end
theorem row_cell {w:World} {g:Nat} {cs:Array Value} {t:TypeId} {fz:Nat×Nat} (h:w.heap[g]?=some (.cells cs t fz)) (j:Nat):w.cell? ⟨g,j,none⟩=cs[j]?:=by
 simp only[World.cell?,h,Option.isSome_none,Bool.false_eq_true,if_false]
theorem row_free {w:World} {g:Nat} {cs:Array Value} {t:TypeId} (h:w.heap[g]?=some (.cells cs t (0,0))) (j:Nat):w.frozen? ⟨g,j,none⟩=false:=by
 simp[World.frozen?,h]
theorem row_set {w:World} {g:Nat} {cs:Array Value} {t:TypeId} {fz:Nat×Nat} (h:w.heap[g]?=some (.cells cs t fz)) (j:Nat) (v:Value):(w.setCell ⟨g,j,none⟩ v).heap[g]?=some (.cells (cs.setIfInBounds j v) t fz):=by
 simp[World.setCell,Array.getElem?_modify,h]
theorem row_new (w:World) (o:Obj):(w.alloc o).heap[w.heap.size]?=some o:=heap_alloc_new w o
theorem row_old {w:World} {o:Obj} {g:Nat} {x:Obj} (h:w.heap[g]?=some x):(w.alloc o).heap[g]?=some x:=
 (Below.heap_alloc w o g (Array.getElem?_eq_some_iff.1 h).1).trans h
theorem row_lt {w:World} {g:Nat} {x:Obj} (h:w.heap[g]?=some x):g < w.heap.size:=(Array.getElem?_eq_some_iff.1 h).1
theorem row_below {w w':World} {B g:Nat} {x:Obj} (h:w.heap[g]?=some x) (hb:Below B w w') (hg:g < B):w'.heap[g]?=some x:=(hb.block g hg).trans h
theorem row_grw {w w':World} {v v':Value} {g:Nat} {x:Obj} (h:w.heap[g]?=some x) (hb:Grw w w' v v') (hg:v.ownBlock≠some g):w'.heap[g]?=some x:=
 (hb.grown.block g (row_lt h) (fun e=>hg e.symm)).trans h
theorem row_drew {w:World} {g:Nat} {x:Obj} (h:w.heap[g]?=some x):w.drew.heap[g]?=some x:=h
theorem row_other {w:World} {g g' j:Nat} {x:Obj} {v:Value} (h:w.heap[g]?=some x) (hne:g'≠g):(w.setCell ⟨g',j,none⟩ v).heap[g]?=some x:=
 (Below.heap_setCell w ⟨g',j,none⟩ v g (fun e=>hne e.symm)).trans h
section
variable {α:Type} {f:α→List Value} {e:TypeId} {sz:Nat} {w w':World} {B:Nat} {v:Value} {l:List α}
theorem OwnF.grw {v1 v2:Value} (h:OwnF f e sz w B v l) (hb:Grw w w' v1 v2) (hne:∀k,v.ownBlock=some k→v1.ownBlock≠some k):OwnF f e sz w' B v l:=by
 refine h.kept hb.grown ?_
 cases hv:v.ownBlock with
 |none=>exact .inl rfl
 |some k=>exact .inr (fun e=>hne k hv e.symm)
end
theorem drew_alloc (w:World) (o:Obj):(w.alloc o).drew=w.drew.alloc o:=rfl
theorem row_new' {w:World} {o:Obj} {g:Nat} (hg:g=w.heap.size):(w.alloc o).heap[g]?=some o:=by rw[hg];exact row_new w o
theorem wp_appS {α:Type} {f:α→List Value} {e:TypeId} {sz B N:Nat} {v u:Value} {l:List α} {P:Program} {o:Oper} {a:Act} {K:Act→World→Prop} {Q:Exit→Act→World→Prop} (s x:Operand) (t:TypeId)
  (ho:o.op=.call {callee:=.builtin .append,args:=#[s,x],argTypes:=#[t,t]})
  (z:Value) (bytes:Nat) (ht:P.underlying t=some (.slice e)) (hinfo:(P.info? e).map (fun i=>(i.zero,i.size,i.bytes))=some (some z,sz,bytes))
  (hzs:z.cells.size=sz) {w:World} (hown:OwnF f e sz w B v l) (ys:List α) {m:Nat} (hm:ys.length=m) (hm0:0 < m) (hsrc:Sl w N sz u m (ys.flatMap f)) (hbase:B≤w.heap.size) (hs:a.eval s=v)
  (hx:a.eval x=u) (hl:∀y,(f y).length=sz) (h1:∀y,∀u ∈ f y,u.oneCell'=true) (hn:l.length+m≤9223372036854775807) (hby:(l.length+m)*bytes≤140737488355328)
  (hK:∀g cap w',OwnF f e sz w' B (.slice (some ⟨g,0,none⟩) (l.length+m) cap) (l++ys)→Grw w w' v (.slice (some ⟨g,0,none⟩) (l.length+m) cap)→K (a.put o.dst (.slice (some ⟨g,0,none⟩) (l.length+m) cap)) w'):
  o.wp P a w K Q:=by
 obtain⟨i0,hi,hz0,hz1,hz2⟩:=info_parts hinfo
 obtain⟨ad,c,rfl,hml,hsl,hc⟩:=hsrc
 obtain⟨b,off,rfl,hb,hc⟩:=hc hm0
 obtain⟨g,cap,w',hr,hown',hgrow,hg⟩:=run_append1 (P:=P) w B t o.type e i0 z sz bytes ht hi hz0 hz1 hz2 hzs v l.length (l.flatMap f) hown ⟨b,off,none⟩ m c hm0 (ys.flatMap f) hsl
  (fun j u hu=>by
   have hadd:((⟨b,off,none⟩:Addr).add j)=⟨b,off+j,none⟩:=by unfold Addr.add;split <;> simp_all
   rw[hadd];exact hc j u hu) (fun u hu=>by obtain⟨y,_,hy⟩:=List.mem_flatMap.1 hu;exact h1 y u hy) (by unfold maxLen;omega) hby hbase
 unfold Oper.wp execOp
 simp only[ho,resolve,invoke,builtin,Sem.run_bind,Sem.run_pure,Result.andThen_ok,List.map_toArray,List.map_cons,List.map_nil,hs,hx,hr]
 refine hK g cap w' ?_ ⟨hgrow,?_⟩
 ·unfold OwnF
  rw[List.flatMap_append,List.length_append,hm]
  exact hown'
 ·intro k hk
  simp only[Value.ownBlock,Option.some.injEq] at hk
  subst hk
  rcases hg with hg|hg
  ·right;omega
  ·exact .inl hg
section
attribute [local irreducible] wpL
def intC (x:Int):List Value:=[.int .i64 x]
abbrev OwnI:=OwnF intC 3 1
theorem flat_int (l:List Int):l.flatMap intC=l.map (.int .i64):=by induction l with|nil=>rfl|cons x l ih=>simp[intC,ih]
def valC (v:Value):List Value:=[v]
theorem flat_val (l:List Value):l.flatMap valC=l:=by induction l with|nil=>rfl|cons x l ih=>simp[valC,ih]
theorem OwnF.at1 {e:TypeId} {w:World} {B n c:Nat} {a:Option Addr} {vs:List Value} (h:OwnF valC e 1 w B (.slice a n c) vs) (hn:vs.length=n) {k:Nat} (hk:k < n):∃g u,a=some ⟨g,0,none⟩∧g < w.heap.size∧vs[k]?=some u∧w.cell? ⟨g,k,none⟩=some u:=by
 have hs:Sl w w.heap.size 1 (.slice a n c) n (vs.flatMap valC):=by rw[←hn] at h ⊢;exact h.sl
 rcases h.form with⟨-,rfl⟩|⟨g,cap',e,hB,hg⟩
 ·simp at hn;omega
 ·simp only[Value.slice.injEq,Option.some.injEq] at e
  obtain⟨rfl,-,rfl⟩:=e
  obtain⟨b,off,u,hb,-,hu,hc⟩:=hs.at1 hk
  simp only[Option.some.injEq,Addr.mk.injEq,and_true] at hb
  obtain⟨rfl,rfl⟩:=hb
  rw[flat_val] at hu
  exact⟨g,u,rfl,hg,hu,by simpa using hc⟩
theorem OwnF.len {α:Type} {f:α→List Value} {e:TypeId} {sz B n c:Nat} {a:Option Addr} {w:World} {l:List α} (h:OwnF f e sz w B (.slice a n c) l):l.length=n:=by
 rcases h.form with⟨h1,h2⟩|⟨g,cap,h1,-⟩
 ·simp only[Value.slice.injEq] at h1
  rw[h2,h1.2.1];rfl
 ·simp only[Value.slice.injEq] at h1
  exact h1.2.1.symm
theorem OwnF.form2 {α:Type} {f:α→List Value} {e:TypeId} {sz B:Nat} {v:Value} {w:World} {l:List α} (h:OwnF f e sz w B v l):∃a c,v=.slice a l.length c∧l.length≤9223372036854775807:=h.sl.ex
end
section
attribute [local irreducible] wpL
theorem OwnF.keepObj {α:Type} {f:α→List Value} {e:TypeId} {sz:Nat} {w:World} {B:Nat} {v:Value} {l:List α} (h:OwnF f e sz w B v l):∀k,v.ownBlock=some k→∃cs,w.heap[k]?=some (.cells cs e (0,0)):=by
 intro k hk
 obtain⟨-,h2⟩:=h
 rcases h2 with⟨rfl,-⟩|⟨g,cap,cur,rfl,-,hh,-⟩
 ·cases hk
 ·simp only[Value.ownBlock,Option.some.injEq] at hk
  subst hk
  exact⟨cur,hh⟩
theorem OwnF.other {α:Type} {f:α→List Value} {e:TypeId} {sz B g j:Nat} {v:Value} {l:List α} {w:World} (h:OwnF f e sz w B v l) (hg:v.ownBlock≠some g) (u:Value):OwnF f e sz (w.setCell ⟨g,j,none⟩ u) B v l:=
 ownsRow_setCell_other (a:=⟨g,j,none⟩) h hg u
theorem OwnF.neT {α:Type} {f:α→List Value} {e:TypeId} {sz B g:Nat} {v:Value} {l:List α} {w:World} {cs:Array Value} {t:TypeId} {fz:Nat×Nat} (h:OwnF f e sz w B v l) (hg:w.heap[g]?=some (.cells cs t fz)) (he:t≠e):v.ownBlock≠some g:=fun hk=>by
 obtain⟨c2,h2⟩:=h.keepObj g hk
 rw[hg] at h2
 simp only[Option.some.injEq,Obj.cells.injEq] at h2
 exact he h2.2.1
theorem infoE:(Tryz.prog.info? 69).map (fun i=>(i.zero,i.size,i.bytes))=some (some (.agg #[.int .i64 0,.int .i64 0,.int .i64 0,.int .i64 0,.int .i64 0,.int .i64 0,.int .i64 0,.int .i64 0]),8,64):=by kernel_rfl
theorem ev_one (x:Ev):∀u ∈ x.cells,u.oneCell'=true:=by intro u hu;simp[Ev.cells] at hu;rcases hu with rfl|rfl|rfl|rfl|rfl|rfl|rfl|rfl <;> rfl
abbrev evV (e:Ev):Value:=.agg #[.int .i64 e.kind,.int .i64 e.tx,.int .i64 e.thread,.int .i64 e.obj,.int .i64 e.op,.int .i64 e.key,.int .i64 e.val,.int .i64 e.ret]
end
section
attribute [local irreducible] wpL
theorem Sl.intAt {w:World} {B n cap:Nat} {a:Option Addr} {l:List Int} (h:Sl w B 1 (.slice a n cap) n (l.map (.int .i64))) {k:Nat} (hk:k < n):∃b off c,a=some ⟨b,off,none⟩∧b < B∧l[k]?=some c∧w.cell? ⟨b,off+k,none⟩=some (.int .i64 c):=by
 obtain⟨b,off,u,rfl,hb,hu,hc⟩:=h.at1 hk
 rw[List.getElem?_map] at hu
 cases hl:l[k]? with
 |none=>rw[hl] at hu;simp at hu
 |some c=>rw[hl] at hu;simp at hu;subst hu;exact⟨b,off,c,rfl,hb,rfl,hc⟩
end
section
attribute [local irreducible] wpL
section
variable {α:Type} {f:α→List Value} {e:TypeId} {sz B:Nat} {P:Program} {o:Oper} {a:Act} {K:Act→World→Prop} {Q:Exit→Act→World→Prop}
theorem wp_makeF (s c:Operand) (t:TypeId) (ho:o.op=.makeSlice t s c) (z:Value) (bytes:Nat) (ht:P.underlying t=some (.slice e)) (hinfo:(P.info? e).map (fun i=>(i.zero,i.size,i.bytes))=some (some z,sz,bytes))
  {w:World} {n:Nat} (hs:a.eval s=.int .i64 0) (hc:a.eval c=.int .i64 n) (hn:n≤9223372036854775807) (hby:bytes*n≤140737488355328) (hB:B≤w.heap.size)
  (hK:∀w',OwnF f e sz w' B (.slice (some ⟨w.heap.size,0,none⟩) 0 n) []→Below w.heap.size w w'→w.heap.size+1≤w'.heap.size→K (a.put o.dst (.slice (some ⟨w.heap.size,0,none⟩) 0 n)) w'):
  o.wp P a w K Q:=by
 obtain⟨i0,hi,hz0,hz1,hz2⟩:=info_parts hinfo
 obtain⟨w',hr,h1,h2⟩:=run_make_own (P:=P) w B t e i0 z sz ht hi hz0 hz1 .i64 .i64 n (by rw[hz2];omega) (by unfold maxLen;omega) hB
 unfold Oper.wp execOp
 have hr':(Instr.makeSlice t (.int .i64 0) (.int .i64 (n:Int))).run P w=.ok (.slice (some ⟨w.heap.size,0,none⟩) 0 n) w':=hr
 simp[ho,hs,hc,hr',Result.andThen]
 refine hK w' h1 ((Below.refl w.heap.size w).grown h2 (Nat.le_refl _) (fun _ h=>by cases h)) ?_
 obtain⟨-,h3⟩:=h1
 rcases h3 with⟨h3,-⟩|⟨g,cap,cur,hv,-,hh,-⟩
 ·cases h3
 ·simp only[Value.slice.injEq,Option.some.injEq,Addr.mk.injEq,and_true] at hv
  obtain⟨rfl,-⟩:=hv
  exact row_lt hh
theorem wp_appA {N:Nat} {v u:Value} {l:List α} (s x:Operand) (t:TypeId)
  (ho:o.op=.call {callee:=.builtin .append,args:=#[s,x],argTypes:=#[t,t]})
  (z:Value) (bytes:Nat) (ht:P.underlying t=some (.slice e)) (hinfo:(P.info? e).map (fun i=>(i.zero,i.size,i.bytes))=some (some z,sz,bytes))
  (hzs:z.cells.size=sz) {w:World} (hown:OwnF f e sz w B v l) (ys:List α) {m:Nat} (hm:ys.length=m) (hsrc:Sl w N sz u m (ys.flatMap f)) (hbase:B≤w.heap.size) (hs:a.eval s=v)
  (hx:a.eval x=u) (hl:∀y,(f y).length=sz) (h1:∀y,∀u ∈ f y,u.oneCell'=true) (hn:l.length+m≤9223372036854775807) (hby:(l.length+m)*bytes≤140737488355328)
  (hK:∀v' w',OwnF f e sz w' B v' (l++ys)→Grw w w' v v'→K (a.put o.dst v') w'):
  o.wp P a w K Q:=by
 by_cases hm0:0 < m
 ·exact wp_appS s x t ho z bytes ht hinfo hzs hown ys hm hm0 hsrc hbase hs hx hl h1 hn hby fun g cap w' h2 h3=>hK _ w' h2 h3
 ·obtain rfl:m=0:=by omega
  have hys:ys=[]:=List.eq_nil_of_length_eq_zero hm
  subst hys
  obtain⟨ad,c,rfl,-⟩:=hsrc.ex
  obtain⟨i0,hi,hz0,hz1,hz2⟩:=info_parts hinfo
  unfold Oper.wp execOp
  obtain⟨av,cv,rfl,-⟩:=hown.sl.ex
  have hr:(Builtin.append_ #[t,t] o.type #[.slice av l.length cv,.slice ad 0 c]).run P w=.ok (.slice av l.length cv) w:=by
   rcases hown.2 with⟨hv,-⟩|⟨g,cap,cur,hv,_,_,hnc,_⟩
   ·rw [hv]
    cases ad <;> simp[Builtin.append_,run_underlying ht,sizeOf,typeInfo,hi,Builtin.lenOf,Builtin.firstCells,loadCells,loadCellsFrom]
   ·rw [hv]
    cases ad <;> simp[Builtin.append_,run_underlying ht,sizeOf,typeInfo,hi,Builtin.lenOf,Builtin.firstCells,hnc,storeCells,loadCells,loadCellsFrom]
  simp only[ho,resolve,invoke,builtin,Sem.run_bind,Sem.run_pure,Result.andThen_ok,List.map_toArray,List.map_cons,List.map_nil,hs,hx,hr]
  exact hK _ w (by simpa using hown) (Grw.refl w _)
theorem wpList_makeF {ops:Array Oper} {rest:List Oper} (hgd:o.guard=none) (s c:Operand) (t:TypeId) (ho:o.op=.makeSlice t s c) (z:Value) (bytes:Nat) (ht:P.underlying t=some (.slice e)) (hinfo:(P.info? e).map (fun i=>(i.zero,i.size,i.bytes))=some (some z,sz,bytes))
  {w:World} {n:Nat} (hs:a.eval s=.int .i64 0) (hc:a.eval c=.int .i64 n) (hn:n≤9223372036854775807) (hby:bytes*n≤140737488355328) (hB:B≤w.heap.size)
  (hK:∀w',OwnF f e sz w' B (.slice (some ⟨w.heap.size,0,none⟩) 0 n) []→Below w.heap.size w w'→w.heap.size+1≤w'.heap.size→wpList P ops Q rest (a.put o.dst (.slice (some ⟨w.heap.size,0,none⟩) 0 n)) w'):
  wpList P ops Q (o::rest) a w:=
 wpList_plain hgd fun _ hK'=>wp_makeF s c t ho z bytes ht hinfo hs hc hn hby hB fun w' h1 h2 h3=>hK' _ _ (hK w' h1 h2 h3)
theorem wpList_appA {ops:Array Oper} {rest:List Oper} {N:Nat} {v u:Value} {l:List α} (hgd:o.guard=none) (s x:Operand) (t:TypeId)
  (ho:o.op=.call {callee:=.builtin .append,args:=#[s,x],argTypes:=#[t,t]})
  (z:Value) (bytes:Nat) (ht:P.underlying t=some (.slice e)) (hinfo:(P.info? e).map (fun i=>(i.zero,i.size,i.bytes))=some (some z,sz,bytes))
  (hzs:z.cells.size=sz) {w:World} (hown:OwnF f e sz w B v l) (ys:List α) {m:Nat} (hm:ys.length=m) (hsrc:Sl w N sz u m (ys.flatMap f)) (hbase:B≤w.heap.size) (hs:a.eval s=v)
  (hx:a.eval x=u) (hl:∀y,(f y).length=sz) (h1:∀y,∀u ∈ f y,u.oneCell'=true) (hn:l.length+m≤9223372036854775807) (hby:(l.length+m)*bytes≤140737488355328)
  (hK:∀v' w',OwnF f e sz w' B v' (l++ys)→Grw w w' v v'→wpList P ops Q rest (a.put o.dst v') w'):
  wpList P ops Q (o::rest) a w:=
 wpList_plain hgd fun _ hK'=>wp_appA s x t ho z bytes ht hinfo hzs hown ys hm hsrc hbase hs hx hl h1 hn hby fun v' w' h2 h3=>hK' _ _ (hK v' w' h2 h3)
end
end
section
attribute [local irreducible] wpL
theorem infoI:(Tryz.prog.info? 3).map (fun i=>(i.zero,i.size,i.bytes))=some (some (.int .i64 0),1,8):=by kernel_rfl
theorem intC_len (x:Int):(intC x).length=1:=rfl
theorem in_one (x:Int):∀u ∈ intC x,u.oneCell'=true:=by intro u hu;simp[intC] at hu;subst hu;rfl
theorem val_one (a:Option Addr) {n c:Nat}:∀u ∈ valC (.slice a n c),u.oneCell'=true:=by intro u hu;simp[valC] at hu;subst hu;rfl
theorem OwnF.box2 {α:Type} {f:α→List Value} {e T:TypeId} {sz B p:Nat} {X:World} {v x y u1 u2:Value} {l:List α} (h:OwnF f e sz X B v l) (r:X.heap[p]?=some (.cells #[x,y] T (0,0))) (he:T≠e):
  OwnF f e sz ((X.setCell ⟨p,0,none⟩ u1).setCell ⟨p,1,none⟩ u2) B v l:=
 OwnF.other (OwnF.other h (OwnF.neT h r he) u1) (OwnF.neT h r he) u2
theorem row2 {X:World} {p:Nat} {x y u1 u2:Value} {T:TypeId} (r:X.heap[p]?=some (.cells #[x,y] T (0,0))):((X.setCell ⟨p,0,none⟩ u1).setCell ⟨p,1,none⟩ u2).heap[p]?=some (.cells #[u1,u2] T (0,0)):=
 row_set (row_set r 0 u1) 1 u2
theorem OwnF.grwT {α β:Type} {f:α→List Value} {f1:β→List Value} {e e1:TypeId} {sz sz1 B B1:Nat} {w w':World} {v v1 v2:Value} {l:List α} {l1:List β} (h:OwnF f e sz w B v l) (h1:OwnF f1 e1 sz1 w B1 v1 l1) (he:e≠e1) (hb:Grw w w' v1 v2):OwnF f e sz w' B v l:=
 h.grw hb fun k hk hk1=>by
  obtain⟨c1,r1⟩:=h.keepObj k hk
  obtain⟨c2,r2⟩:=h1.keepObj k hk1
  rw[r1] at r2
  simp only[Option.some.injEq,Obj.cells.injEq] at r2
  exact he r2.2.1
theorem take_step {α:Type} {l:List α} {k:Nat} {x:α} (h:l[k]?=some x):l.take (k+1)=l.take k++[x]:=by rw[List.take_add_one,h];rfl
end
section
attribute [local irreducible] wpL
theorem ownsRow_set {w:World} {B sz n g cap:Nat} {e:TypeId} {xs:List Value} (h:w.ownsRow B e sz (.slice (some ⟨g,0,none⟩) n cap) n xs) (j:Nat) (u:Value):
  (w.setCell ⟨g,j,none⟩ u).ownsRow B e sz (.slice (some ⟨g,0,none⟩) n cap) n (xs.set j u):=by
 obtain⟨h1,h2⟩:=h
 refine⟨by simpa using h1,?_⟩
 rcases h2 with⟨h2,-⟩|⟨g',cap',cur,hv,hg,hh,hnc,hcm,hs,ht⟩
 ·cases h2
 ·simp only[Value.slice.injEq,Option.some.injEq,Addr.mk.injEq,and_true,true_and] at hv
  obtain⟨rfl,rfl⟩:=hv
  refine .inr ⟨g,cap,cur.setIfInBounds j u,rfl,hg,row_set hh j u,hnc,hcm,by simpa using hs,?_⟩
  rw[←ht,Array.toList_setIfInBounds,List.take_set]
end
