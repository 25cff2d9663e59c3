/- Parts of the proof; the first: Frames by blocks; a set anew; queues of nodes: what is put, what is taken. Conditions: those of each theorem, as typed. -/
import Derived.Test.YtkfhgifhfkcehaaGreatDoorQC18
import Derived.RangeFuncNested
import Derived.RangeFuncBound
import Derived.RangeFuncCalls
import Derived.RangeFuncLeaves
import Derived.Shelf.Abstract
import Derived.WalkKit
import Derived.OwnWalkIn
import Derived.TacticsInMore
import Derived.LoopNIn
import Derived.LoopIn
import Derived.Test.YtkfhgifhfkcehaaGreatDoorQC01
import Derived.OrdersIn
import Derived.TacticsIn
import Derived.RangeFuncIn
import Derived.Test.YtkfhgifhfkcehaaGreatDoorQC17
import Derived.Test.YtkfhgifhfkcehaaGreatDoorQC15
set_option linter.unusedVariables false
set_option linter.unusedSimpArgs false
set_option linter.unusedSectionVars false
set_option maxRecDepth 100000
set_option maxHeartbeats 4000000
namespace Go.Proofs.YtkfhgifhfkcehaaGreatDoor
open Go.Maps Go.RowKit
section
attribute [local irreducible] xL
structure Fr (S:Nat->Prop) (w w':World):Prop where
 base:Below 0 w w'
 blk:∀k,k < w.heap.size->¬S k->w'.heap[k]?=w.heap[k]?
section
variable {S S':Nat->Prop} {w w1 w':World}
theorem Fr.refl (w:World):Fr S w w:=⟨Below.refl _ _,fun _ _ _=>rfl⟩
theorem Fr.trans (h:Fr S w w1) (k:Fr S' w1 w') (hS:∀b,b < w.heap.size->S' b->S b):Fr S w w':=
 ⟨h.base.trans k.base,fun b hb hn=>(k.blk b (Nat.lt_of_lt_of_le hb h.base.size) fun e=>hn (hS b hb e)).trans (h.blk b hb hn)⟩
theorem Fr.below (h:Below w.heap.size w w'):Fr S w w':=⟨h.mono (Nat.zero_le _),fun k hk _=>h.block k hk⟩
theorem Fr.setB {g:Nat} (hg:S g) (j:Nat) (v:Value):Fr S w (w.setCell ⟨g,j,none⟩ v):=
 ⟨(Below.refl 0 w).setCell (p:=⟨g,j,none⟩) (Nat.zero_le _) v,fun k _ hn=>Below.heap_setCell _ _ _ _ (by rintro rfl;exact hn hg)⟩
theorem Fr.grw {v v':Value} (h:Grw w w' v v'):Fr (fun k=>v.ownBlock=some k) w w':=
 ⟨⟨h.grown.os,h.grown.tape,h.grown.output,h.grown.size,fun _ hk=>absurd hk (Nat.not_lt_zero _)⟩,fun k hk hn=>h.grown.block k hk fun e=>hn e.symm⟩
theorem Fr.drew (h:Fr S w w'):Fr S w w'.drew:=⟨h.base.drew,h.blk⟩
theorem Fr.mono (h:Fr S w w') (hS:∀k,k < w.heap.size->S k->S' k):Fr S' w w':=⟨h.base,fun k hk hn=>h.blk k hk fun e=>hn (hS k hk e)⟩
theorem Fr.toBelow {B:Nat} (h:Fr S w w') (hB:B<=w.heap.size) (hS:∀k,k < B->¬S k):Below B w w':=
 ⟨h.base.os,h.base.tape,h.base.output,h.base.size,fun k hk=>h.blk k (Nat.lt_of_lt_of_le hk hB) (hS k hk)⟩
theorem Fr.row {g:Nat} {O:Obj} (h:Fr S w w') (hr:w.heap[g]?=some O) (hg:¬S g):w'.heap[g]?=some O:=(h.blk g (Array.getElem?_eq_some_iff.1 hr).1 hg).trans hr
theorem Fr.kd {T:TypeId->Prop} (h:Fr S w w') (hS:∀k cs t fz,S k->w.heap[k]?=some (.cells cs t fz)->T t):Kd T w w':=fun k cs t fz hk ht=>h.row hk fun e=>ht (hS k cs t fz e hk)
theorem qq.fr {α:Type} {f:α->List Value} {e:TypeId} {sz B:Nat} {v:Value} {l:List α} (h:qq f e sz w B v l) (hk:Fr S w w') (hn:∀k,v.ownBlock=some k->¬S k):qq f e sz w' B v l:=by
 obtain⟨h1,h2⟩:=h;refine⟨h1,?_⟩;rcases h2 with h2|⟨g,cap,cur,rfl,hg,hh,r⟩
 ·exact .inl h2
 ·exact .inr ⟨g,cap,cur,rfl,hg,hk.row hh (hn g rfl),r⟩
end
theorem m_New (m most:Nat) (w:World) (hm:most<=70000):Calls Tryz.prog 90 #[.int .i64 most] w fun e w'=>
  e=.returned (.pointer (some ⟨w.heap.size+1,0,none⟩))/\SetAt m w' w.heap.size (w.heap.size+1) w.heap.size most (.slice none 0 0) []/\Below w.heap.size w w':=by
 have hmk:∀X:World,Sem.run Tryz.prog (Instr.makeMap 259 none) X=.ok (.map (some X.heap.size)) (X.alloc (.map #[] 0)):=fun X=>by kernel_rfl
 have q:max (most:Int) 0=most:=by omega
 go_enter Tryz.func90,Tryz.ntmps90;go_wp2_with fail;go_ret;refine⟨rfl,⟨by have:=qy (w.alloc (.map #[] 0)) (.cells #[.int .i64 (most:Nat),.map (some w.heap.size),.slice none 0 0] 262);simpa using this,⟨_,(yL.made (qy w (.map #[] 0))).below ((Below.refl (w.heap.size+1) _).alloc (by simp) _) (Nat.lt_succ_self _),by simp,by simp⟩,qq.nil _ _,by simp,by simp⟩,((Below.refl _ w).alloc (Nat.le_refl _) _).alloc (by simp) _⟩
structure QueueAt (w:World) (B bQ:Nat) (qv:Value) (rows:List NR) (n:Nat):Prop where
 row:w.heap[bQ]?=some (.cells #[qv,.int .i64 n] 179 (0,0))
 own:qq NR.cells 181 2 w B qv rows
 le:n<=rows.length
 hB:B<=bQ
def QS (bQ:Nat) (qv:Value) (k:Nat):Prop:=k=bQ\/qv.ownBlock=some k
theorem QueueAt.fr {S:Nat->Prop} {w w':World} {B bQ n:Nat} {qv:Value} {rows:List NR} (h:QueueAt w B bQ qv rows n) (hk:Fr S w w') (hn:∀k,QS bQ qv k->¬S k):QueueAt w' B bQ qv rows n:=
 ⟨hk.row h.row (hn _ (.inl rfl)),qq.fr h.own hk fun k e=>hn k (.inr e),h.le,h.hB⟩
theorem m_Put {w:World} {B bQ n:Nat} {qv:Value} {rows:List NR} (h:QueueAt w B bQ qv rows n) (hB:B<=w.heap.size) (hl:rows.length<=70000) (p:Nat) (a:Option Addr) (l c:Nat):
  Calls Tryz.prog 94 #[.pointer (some ⟨bQ,0,none⟩),.agg #[.int .i64 p,.slice a l c]] w fun e w'=>e=.returned (.tuple #[])/\
   ∃qv',QueueAt w' B bQ qv' (rows++[⟨p,.slice a l c⟩]) n/\Fr (QS bQ qv) w w'/\∀k,qv'.ownBlock=some k->qv.ownBlock=some k\/w.heap.size<=k:=by
 have b0:Below w.heap.size w (w.alloc (.cells #[.int .i64 p,.slice a l c] 181)):=(Below.refl _ w).alloc (Nat.le_refl _) _;have r0:=qy w (.cells #[.int .i64 p,.slice a l c] 181);have r1:=qp h.row b0 (qh h.row);have o1:=qq.below h.own b0;have hlQ:=qh h.row;have hz:(w.alloc (.cells #[.int .i64 p,.slice a l c] 181)).heap.size=w.heap.size+1:=by simp
 go_enter Tryz.func94,Tryz.ntmps94;go_wp2_with fail;generalize w.alloc (.cells #[.int .i64 p,.slice a l c] 181)=W at *;obtain⟨aq,cq,rfl,-⟩:=(qq.sl o1).ex;have y:=qg r1;have y0:=y 0;have y1:=y 1;simp at y0 y1;have yl:=qh r1;have z:=qg r0;have z0:=z 0;have z1:=z 1;simp at z0 z1;have zl:=qh r0;have hBW:B<=W.heap.size:=by omega
 have B0:=qj b0;clear y z b0 r0 hz;refine qT (W.heap.size) [0,0,0,0,1,1,3,2,0,0,2] (.fin [0,1,2,3,4,5,6,7,8,9,10]) (by kernel_rfl) ?_;simp only[yp,qP,qD,sD,sE,sF,sG]
 repeat first|(refine qC fun K hK=>?_;go_simp;refine hK _ _ ?_;clear hK K)|(apply qJ;(intro w2 hw2;have hk1:=hw2.cell;have hk3:=hw2.1;clear hw2;go_simp;with_reducible rfl);simp only[Act.put,sA,sB,sC])
 refine qI (fun K hK=>?_);go_simp;refine hK _ _ (RN.KeepsN.alloc W.drew _ (Nat.le_refl _)) ?_;clear hK K;refine qN (fun K hK=>?_);rw[drew_alloc];refine wp_appF _ _ _ rfl _ 32 Tryz.underlying177 infoNd rfl o1.drew (NR.mk p (.slice a l c)) (show B<=W.drew.heap.size from hBW) (by rfl) (by rfl) (by first|rfl|simp) rfl (nd_one _) (by first|omega|(simp only[List.length_append,List.length_cons,List.length_nil,List.length_replicate];omega)) (by first|omega|(simp only[List.length_append,List.length_cons,List.length_nil,List.length_replicate];omega)) ?_;intro g1 c1 w3 o3 G3;refine hK _ _ ?_;clear hK K;have ne:(Value.slice aq rows.length cq).ownBlock≠some bQ:=qq.neT o1 r1 (by decide);have r3:w3.heap[bQ]?=some _:=qQ (w:=W.drew) r1 G3 ne;have y:=qg r3;have y0:=y 0;simp at y0;have yf:=qx r3 0;have yl3:=qh r3;have oF:=qj (qq.other (j:=0) o3 (qq.neT o3 r3 (by decide)) (.slice (some ⟨g1,0,none⟩) (rows.length+1) c1));have rF:=qj (qB r3 0 (.slice (some ⟨g1,0,none⟩) (rows.length+1) c1));have f3:Fr (QS bQ (.slice aq rows.length cq)) W w3:=(Fr.refl W).drew.trans (Fr.grw (w:=W.drew) G3) fun k _ e=>Or.inr e;have fF:=qj (((Fr.below (S:=QS bQ (.slice aq rows.length cq)) B0.o).trans f3 fun _ _ e=>e).trans (Fr.setB (S:=QS bQ (.slice aq rows.length cq)) (.inl rfl) 0 (.slice (some ⟨g1,0,none⟩) (rows.length+1) c1)) fun _ _ e=>e);have own:=qj G3.own;clear y y1 o1 r1 o3 r3 f3 G3 ne
 repeat (refine qC fun K hK=>?_;go_simp;refine hK _ _ ?_;clear hK K)
 refine qN (fun K hK=>?_);go_simp;refine hK _ _ ?_;clear hK K
 repeat refine qA ?_
 go_wp2_with fail;refine bodyPost_end (v:=.tuple #[]) (by simp[results,Tryz.results94,go_sem]) rfl ?_;refine⟨rfl,_,⟨by simpa using rF.o,by simpa using oF.o,by have:=h.le;simp;omega,h.hB⟩,fF.o,fun k e=>?_⟩;rcases own.o k e with e|e
 ·exact .inl e
 ·exact .inr (Nat.le_trans B0.o.size e)
theorem m_TakeNone {w:World} {B bQ n:Nat} {qv:Value} {rows:List NR} (h:QueueAt w B bQ qv rows n) (hn:n=rows.length) (hl:rows.length<=70000):
  Calls Tryz.prog 95 #[.pointer (some ⟨bQ,0,none⟩)] w fun e w'=>e=.returned (.tuple #[.agg #[.int .i64 0,.slice none 0 0],.bool false])/\Below w.heap.size w w':=by
 subst hn;have b0:Below w.heap.size w ((w.alloc (.cells #[.int .i64 0,.slice none 0 0] 181)).alloc (.cells #[.int .i64 0,.slice none 0 0] 181)):=((Below.refl _ w).alloc (Nat.le_refl _) _).alloc (by simp) _;have rR:=qF (o:=.cells #[.int .i64 0,.slice none 0 0] 181) (qy w (.cells #[.int .i64 0,.slice none 0 0] 181));have rN:=qy (w.alloc (.cells #[.int .i64 0,.slice none 0 0] 181)) (.cells #[.int .i64 0,.slice none 0 0] 181);simp only[World.size_alloc] at rN;have r1:=qp h.row b0 (qh h.row);have o1:=qq.below h.own b0;go_enter Tryz.func95,Tryz.ntmps95;go_wp2_with fail;generalize (w.alloc (.cells #[.int .i64 0,.slice none 0 0] 181)).alloc (.cells #[.int .i64 0,.slice none 0 0] 181)=W at *;obtain⟨aq,cq,rfl,-⟩:=(qq.sl o1).ex;have y:=qg r1;have y0:=y 0;have y1:=y 1;simp at y0 y1;have yl:=qh r1;have z:=qg rN;have z0:=z 0;have z1:=z 1;have x:=qg rR;have x0:=x 0;have x1:=x 1;simp at z0 z1 x0 x1;have zl:=qh rN;have xl:=qh rR;have xf:=fun j=>qx rR j;have B0:=qj b0;have RR:=qj rR;clear x y z b0 r1 o1 rR rN;refine qT (W.heap.size) [0,0,0,1,0,0,0,1,0,0] (.fin [0,1,2,3,4,5,6,7,8,9]) (by kernel_rfl) ?_;simp only[yp,qP,qD,sD,sE,sF,sG]
 repeat first|(refine qC fun K hK=>?_;go_simp;refine hK _ _ ?_;clear hK K)|(apply qJ;(intro w2 hw2;have hk1:=hw2.cell;have hk3:=hw2.1;clear hw2;go_simp;with_reducible rfl);simp only[Act.put,sA,sB,sC])|refine qA ?_
 go_wp2_with fail;have rF:=qB (qB RR.o 0 (.int .i64 0)) 1 (.slice none 0 0);have c:=qg rF;have c0:=c 0;have c1:=c 1;simp at c0 c1;refine bodyPost_ret (v:=.tuple #[.agg #[.int .i64 0,.slice none 0 0],.bool false]) (by simp[results,Tryz.results95,go_sem,c0,c1]) rfl ?_;exact⟨rfl,(B0.o.drew.setCell (p:=⟨w.heap.size,0,none⟩) (Nat.le_refl _) _).setCell (p:=⟨w.heap.size,1,none⟩) (Nat.le_refl _) _⟩
theorem m_Take {w:World} {B bQ n:Nat} {qv:Value} {rows:List NR} (h:QueueAt w B bQ qv rows n) (hB:B<=w.heap.size) (hl:rows.length<=70000) {r:NR} (hr:rows[n]?=some r) {a:Option Addr} {l c:Nat} (hs:r.sv=.slice a l c):
  Calls Tryz.prog 95 #[.pointer (some ⟨bQ,0,none⟩)] w fun e w'=>e=.returned (.tuple #[r.val,.bool true])/\
   ∃qv' rows' n',QueueAt w' B bQ qv' rows' n'/\rows'.drop n'=rows.drop (n+1)/\rows'.length<=rows.length/\Fr (QS bQ qv) w w'/\∀k,qv'.ownBlock=some k->qv.ownBlock=some k:=by
 obtain⟨p,sv⟩:=r;simp only at hs;subst hs;have hn:n < rows.length:=(List.getElem?_eq_some_iff.1 hr).1;have b0:Below w.heap.size w ((w.alloc (.cells #[.int .i64 0,.slice none 0 0] 181)).alloc (.cells #[.int .i64 0,.slice none 0 0] 181)):=((Below.refl _ w).alloc (Nat.le_refl _) _).alloc (by simp) _;have rR:=qF (o:=.cells #[.int .i64 0,.slice none 0 0] 181) (qy w (.cells #[.int .i64 0,.slice none 0 0] 181));have rN:=qy (w.alloc (.cells #[.int .i64 0,.slice none 0 0] 181)) (.cells #[.int .i64 0,.slice none 0 0] 181);simp only[World.size_alloc] at rN;have r1:=qp h.row b0 (qh h.row);have o1:=qq.below h.own b0;have hz:((w.alloc (.cells #[.int .i64 0,.slice none 0 0] 181)).alloc (.cells #[.int .i64 0,.slice none 0 0] 181)).heap.size=w.heap.size+2:=by simp
 obtain⟨gq,cq,rfl,hBg,hgl⟩:=(qq.form h.own).resolve_left (fun h=>by rw[h.2] at hn;simp at hn);have ne:gq≠bQ:=fun e=>qq.neT h.own h.row (by decide) (by rw[e];rfl);have hlQ:=qh h.row;have HZ:=qj hz;clear hz;go_enter Tryz.func95,Tryz.ntmps95;go_wp2_with fail;generalize (w.alloc (.cells #[.int .i64 0,.slice none 0 0] 181)).alloc (.cells #[.int .i64 0,.slice none 0 0] 181)=W at *;obtain⟨bq,oq,z,hq,-,hz1,hz2⟩:=(qq.sl o1).atF NR.len rfl hn;simp only[Option.some.injEq,Addr.mk.injEq,and_true] at hq;obtain⟨rfl,rfl⟩:=hq;rw[hr] at hz1;obtain rfl:=Option.some.inj hz1;have s0:=hz2 0 (by decide);have s1:=hz2 1 (by decide);simp[NR.cells] at s0 s1;obtain⟨cs,hgc⟩:=qq.objT o1;have gf:∀j,W.frozen? ⟨gq,j,none⟩=false:=fun j=>qx hgc j;have gl:=qh hgc;have y:=qg r1;have y0:=y 0;have y1:=y 1;simp at y0 y1;have yl:=qh r1;have z:=qg rN;have z0:=z 0;have z1:=z 1;simp at z0 z1;have zl:=qh rN;have B0:=qj b0;have RR:=qj rR;have RN':=qj rN;have R1:=qj r1;have O1:=qj o1;have q1:((n:Int)==(rows.length:Int))=false:=by simp;omega
 have q2:decide ((n:Int) < 0)=false:=by simp
 have q3:decide ((rows.length:Int)<=(n:Int))=false:=by simp;omega
 clear y z b0 r1 o1 rR rN hz1 hz2 hr hgc;refine qT (W.heap.size) [0,0,0,1,0,0,0,1,0,0] (.fin [0,1,2,3,4,5,6,7,8,9]) (by kernel_rfl) ?_;simp only[yp,qP,qD,sD,sE,sF,sG]
 repeat first|(refine qC fun K hK=>?_;go_simp;refine hK _ _ ?_;clear hK K)|(apply qJ;(intro w2 hw2;have hk1:=hw2.cell;have hk3:=hw2.1;clear hw2;go_simp;with_reducible rfl);simp only[Act.put,sA,sB,sC])|refine qA ?_
 go_wp2_with fail;refine qT (W.heap.size) [0,0,0,1,0,0,0,1,0,1,3,2] (.fin [0,1,2,3,4,5,6,7,8,9,10,11]) (by kernel_rfl) ?_;simp only[yp,qP,qD,sD,sE,sF,sG]
 repeat first|(refine qC fun K hK=>?_;go_simp;refine hK _ _ ?_;clear hK K)|(apply qJ;(intro w2 hw2;have hk1:=hw2.cell;have hk3:=hw2.1;clear hw2;go_simp;with_reducible rfl);simp only[Act.put,sA,sB,sC])
 refine qI (fun K hK=>?_);go_simp;refine hK _ _ (RN.KeepsN.alloc W.drew.drew _ (Nat.le_refl _)) ?_;clear hK K;refine qN (fun K hK=>?_);go_simp;refine hK _ _ ?_;clear hK K
 repeat refine qA ?_
 have bX:Below W.heap.size W (W.alloc (.cells #[.int .i64 p,.slice a l c] 181)):=(Below.refl _ W).alloc (Nat.le_refl _) _;have rX:=qy W (.cells #[.int .i64 p,.slice a l c] 181);have zX:(W.alloc (.cells #[.int .i64 p,.slice a l c] 181)).heap.size=W.heap.size+1:=by simp
 have r1:=qp R1.o bX yl;have rR:=qp RR.o bX (qh RR.o);have rN:=qp RN'.o bX (qh RN'.o);have o1:=qq.below O1.o bX;have gn:gq≠W.heap.size:=by omega
 clear s0 s1 gf gl y0 y1 yl z0 z1 zl;generalize W.alloc (.cells #[.int .i64 p,.slice a l c] 181)=W4 at *;have ZX:=qj zX;have hz5:=HZ.o;obtain⟨bq,oq,z,hq,-,hz1,hz2⟩:=(qq.sl o1).atF NR.len rfl hn;simp only[Option.some.injEq,Addr.mk.injEq,and_true] at hq;obtain⟨rfl,rfl⟩:=hq;have s0:=hz2 0 (by decide);have s1:=hz2 1 (by decide);simp[NR.cells] at s0 s1;obtain⟨cs,hgc⟩:=qq.objT o1;have gf:∀j,W4.frozen? ⟨gq,j,none⟩=false:=fun j=>qx hgc j;have gl:=qh hgc;have y:=qg r1;have y0:=y 0;have y1:=y 1;simp at y0 y1;have yl:=qh r1;have z:=qg rN;have z0:=z 0;have z1:=z 1;simp at z0 z1;have zl:=qh rN;have R1:=qj r1;have RR:=qj rR;have RX:=qj rX;have O1:=qj o1;have BX:=qj bX;have gN:gq≠w.heap.size+1:=by omega
 have gR:gq≠w.heap.size:=by omega
 clear y z hz1 hz2 hgc r1 rR rN rX o1 bX zX hz5;go_wp2_with fail;refine qT (W4.heap.size) [0,0,0,1,0,0,0,1,1,0,2] (.fin [0,1,2,3,4,5,6,7,8,9,10]) (by kernel_rfl) ?_;simp only[yp,qP,qD,sD,sE,sF,sG]
 repeat first|(refine qC fun K hK=>?_;go_simp;refine hK _ _ ?_;clear hK K)|(apply qJ;(intro w2 hw2;have hk1:=hw2.cell;have hk3:=hw2.1;clear hw2;go_simp;with_reducible rfl);simp only[Act.put,sA,sB,sC])
 refine qN (fun K hK=>?_);go_simp;refine hK _ _ ?_;clear hK K
 repeat refine qA ?_
 have b5:Below w.heap.size w W4:=B0.o.trans (BX.o.mono (by have:=HZ.o;omega));have f5:Fr (QS bQ (.slice (some ⟨gq,0,none⟩) rows.length cq)) w ((W4.setCell ⟨gq,n*2,none⟩ (.int .i64 0)).setCell ⟨gq,n*2+1,none⟩ (.slice none 0 0)):=
  ((Fr.below (S:=QS bQ (.slice (some ⟨gq,0,none⟩) rows.length cq)) b5).trans (Fr.setB (S:=QS bQ (.slice (some ⟨gq,0,none⟩) rows.length cq)) (.inr rfl) _ _) fun _ _ e=>e).trans (Fr.setB (S:=QS bQ (.slice (some ⟨gq,0,none⟩) rows.length cq)) (.inr rfl) _ _) fun _ _ e=>e
 have o5:qq NR.cells 181 2 ((W4.setCell ⟨gq,n*2,none⟩ (.int .i64 0)).setCell ⟨gq,n*2+1,none⟩ (.slice none 0 0)) B (.slice (some ⟨gq,0,none⟩) rows.length cq) (rows.set n ⟨0,.slice none 0 0⟩):=by
  have:=xR (xR O1.o (n*2) (.int .i64 0)) (n*2+1) (.slice none 0 0);rw[flat_set2 (f:=NR.cells) (a:=.int .i64 0) (b:=.slice none 0 0) NR.len (u:=⟨0,.slice none 0 0⟩) rfl rows n] at this;unfold qq;rw[List.length_set];exact this
 have r1:=qK (j:=n*2+1) (v:=.slice none 0 0) (qK (j:=n*2) (v:=.int .i64 0) R1.o ne) ne;have rR:=qK (j:=n*2+1) (v:=.slice none 0 0) (qK (j:=n*2) (v:=.int .i64 0) RR.o gR) gR;have rX:=qK (j:=n*2+1) (v:=.slice none 0 0) (qK (j:=n*2) (v:=.int .i64 0) RX.o gn) gn;have z5:((W4.setCell ⟨gq,n*2,none⟩ (.int .i64 0)).setCell ⟨gq,n*2+1,none⟩ (.slice none 0 0)).heap.size=W4.heap.size:=by simp
 generalize (W4.setCell ⟨gq,n*2,none⟩ (.int .i64 0)).setCell ⟨gq,n*2+1,none⟩ (.slice none 0 0)=W5 at *;clear s0 s1 gf gl y0 y1 yl z0 z1 zl;have Z5:=qj z5;have F5:=qj f5;have O5:=qj o5;have RR:=qj rR;have RX:=qj rX;have y:=qg r1;have y0:=y 0;have y1:=y 1;simp at y0 y1;have yl:=qh r1;have yf:=qx r1 1;have R1:=qj r1;clear y z5 f5 o5 rR rX r1 q1 q2 q3 b5;go_wp2_with fail;have f6:=F5.o.trans (Fr.setB (S:=QS bQ (.slice (some ⟨gq,0,none⟩) rows.length cq)) (g:=bQ) (.inl rfl) 1 (.int .i64 ((n:Int)+1))) fun _ _ e=>e;have o6:=qq.other (g:=bQ) (j:=1) O5.o (fun e=>ne (by simpa[Value.ownBlock] using e)) (.int .i64 ((n:Int)+1));have neR:bQ≠w.heap.size:=by omega
 have neX:bQ≠W.heap.size:=by have:=HZ.o;omega
 have r6:=qB R1.o 1 (.int .i64 ((n:Int)+1));have rR:=qK (j:=1) (v:=.int .i64 ((n:Int)+1)) RR.o neR;have rX:=qK (j:=1) (v:=.int .i64 ((n:Int)+1)) RX.o neX;generalize W5.setCell ⟨bQ,1,none⟩ (.int .i64 ((n:Int)+1))=W6 at *;have y:=qg r6;have y0:=y 0;have y1:=y 1;simp at y0 y1;have yl:=qh r6;have yf:=fun j=>qx r6 j;have x:=qg rX;have x0:=x 0;have x1:=x 1;simp at x0 x1;have xl:=qh rX;have zl:=qh rR;have zf:=fun j=>qx rR j;have z:=qg rR;have z0:=z 0;have z1:=z 1;simp at z0 z1;have F6:=qj f6;have O6:=qj o6;have R6:=qj r6;have RR6:=qj rR;have RX6:=qj rX;clear y x z f6 o6 r6 rR rX R1 O5 F5 RR RX;by_cases e:n+1=rows.length
 ·have q:((n:Int)+1==(rows.length:Int))=true:=by simp;omega
  refine qT (W6.heap.size) [0,0,0,1,0,0,0,1,0,0] (.fin [0,1,2,3,4,5,6,7,8,9]) (by kernel_rfl) ?_;simp only[yp,qP,qD,sD,sE,sF,sG]
  repeat first|(refine qC fun K hK=>?_;go_simp;refine hK _ _ ?_;clear hK K)|(apply qJ;(intro w2 hw2;have hk1:=hw2.cell;have hk3:=hw2.1;clear hw2;go_simp;with_reducible rfl);simp only[Act.put,sA,sB,sC])|refine qA ?_
  go_wp2_with fail;have F7:=((F6.o.drew.drew.drew.drew).trans (Fr.setB (S:=QS bQ (.slice (some ⟨gq,0,none⟩) rows.length cq)) (g:=bQ) (.inl rfl) 0 (.slice none 0 0)) fun _ _ e=>e).trans (Fr.setB (S:=QS bQ (.slice (some ⟨gq,0,none⟩) rows.length cq)) (g:=bQ) (.inl rfl) 1 (.int .i64 0)) fun _ _ e=>e;have RR7:=qK (j:=1) (v:=.int .i64 0) (qK (j:=0) (v:=.slice none 0 0) RR6.o neR) neR;have R7:=qB (qB R6.o 0 (.slice none 0 0)) 1 (.int .i64 0);have rF:=qB (qB RR7 0 (.int .i64 (p:Nat))) 1 (.slice a l c);have cc:=qg rF;have c0:=cc 0;have c1:=cc 1;simp at c0 c1;refine bodyPost_ret (v:=.tuple #[.agg #[.int .i64 (p:Nat),.slice a l c],.bool true]) (by simp[results,Tryz.results95,go_sem,c0,c1]) rfl ?_;have fin:Fr (QS bQ (.slice (some ⟨gq,0,none⟩) rows.length cq)) w ((((W6.drew.drew.drew.drew.setCell ⟨bQ,0,none⟩ (.slice none 0 0)).setCell ⟨bQ,1,none⟩ (.int .i64 0)).setCell ⟨w.heap.size,0,none⟩ (.int .i64 (p:Nat))).setCell ⟨w.heap.size,1,none⟩ (.slice a l c)):=
   (F7.trans (Fr.setB (S:=fun k=>k=w.heap.size) (g:=w.heap.size) rfl 0 (.int .i64 (p:Nat))) fun b hb e=>absurd e (Nat.ne_of_lt hb)).trans (Fr.setB (S:=fun k=>k=w.heap.size) (g:=w.heap.size) rfl 1 (.slice a l c)) fun b hb e=>absurd e (Nat.ne_of_lt hb)
  have neO:(Value.slice (some ⟨gq,0,none⟩) rows.length cq).ownBlock≠some w.heap.size:=fun e=>gR (by simpa[Value.ownBlock] using e);refine⟨rfl,.slice none 0 0,[],0,⟨?_,qq.nil _ _,by simp,h.hB⟩,by simp[e],by simp,fin,fun k e=>by cases e⟩;have:=qK (j:=1) (v:=.slice a l c) (qK (j:=0) (v:=.int .i64 (p:Nat)) R7 neR.symm) neR.symm;simp at this ⊢;exact this
 ·have q:((n:Int)+1==(rows.length:Int))=false:=by simp;omega
  refine qT (W6.heap.size) [0,0,0,1,0,0,0,1,0,0] (.fin [0,1,2,3,4,5,6,7,8,9]) (by kernel_rfl) ?_;simp only[yp,qP,qD,sD,sE,sF,sG]
  repeat first|(refine qC fun K hK=>?_;go_simp;refine hK _ _ ?_;clear hK K)|(apply qJ;(intro w2 hw2;have hk1:=hw2.cell;have hk3:=hw2.1;clear hw2;go_simp;with_reducible rfl);simp only[Act.put,sA,sB,sC])|refine qA ?_
  go_wp2_with fail;have F7:=F6.o.drew.drew.drew.drew;have RR7:=RR6.o;have rF:=qB (qB RR7 0 (.int .i64 (p:Nat))) 1 (.slice a l c);have cc:=qg rF;have c0:=cc 0;have c1:=cc 1;simp at c0 c1;refine bodyPost_ret (v:=.tuple #[.agg #[.int .i64 (p:Nat),.slice a l c],.bool true]) (by simp[results,Tryz.results95,go_sem,c0,c1]) rfl ?_;have fin:Fr (QS bQ (.slice (some ⟨gq,0,none⟩) rows.length cq)) w (((W6.drew.drew.drew.drew).setCell ⟨w.heap.size,0,none⟩ (.int .i64 (p:Nat))).setCell ⟨w.heap.size,1,none⟩ (.slice a l c)):=
   (F7.trans (Fr.setB (S:=fun k=>k=w.heap.size) (g:=w.heap.size) rfl 0 (.int .i64 (p:Nat))) fun b hb e=>absurd e (Nat.ne_of_lt hb)).trans (Fr.setB (S:=fun k=>k=w.heap.size) (g:=w.heap.size) rfl 1 (.slice a l c)) fun b hb e=>absurd e (Nat.ne_of_lt hb)
  have neO:(Value.slice (some ⟨gq,0,none⟩) rows.length cq).ownBlock≠some w.heap.size:=fun e=>gR (by simpa[Value.ownBlock] using e);refine⟨rfl,_,rows.set n ⟨0,.slice none 0 0⟩,n+1,⟨?_,?_,by simp;omega,h.hB⟩,?_,by simp,fin,fun k e=>e⟩
  ·have:=qK (j:=1) (v:=.slice a l c) (qK (j:=0) (v:=.int .i64 (p:Nat)) R6.o neR.symm) neR.symm
   simp at this ⊢;exact this
  ·exact qq.other (j:=1) (qq.other (j:=0) O6.o neO (.int .i64 (p:Nat))) neO (.slice a l c)
  ·rw [List.drop_set_of_lt (by omega)]
end
def mark (D:Nat):Deferred:={target:=.collected D,args:=#[]}
theorem below_put {B:Nat} (W:World) (l:Nat) (o:Obj) (hl:B<=l) (h:l < W.heap.size):Below B W (W.putObj l o):=
 (Below.refl B W).grown (grownBy_putObj' W l o) (by omega) (fun k e=>by cases e;omega)
def Marks (base:Nat) (Ds:List Nat) (w:World):Prop:=Ds.Nodup/\∀D ∈ Ds,base<=D/\w.heap[D]?=some (.deferred (some []))
theorem leaves_marks {F:Fence} {n:Nat} {P:Program} {fn:Func} {tmps:Array Value} {R:Ending->World->Prop} {base:Nat}:∀(Ds:List Nat) (w:World),Marks base Ds w->
  (∀w',Below base w w'->LeavesIn F n P fn tmps R [] .returning w')->LeavesInM F n P fn tmps R (Ds.map mark) .returning w
 |[],w,_,h=>h w (Below.refl _ _)
 |D::Ds,w,hM,h=>by
  obtain⟨hn,hM⟩:=hM;rw[List.nodup_cons] at hn;obtain⟨hb,hd⟩:=hM D (by simp);have hlt:D < w.heap.size:=(Array.getElem?_eq_some_iff.1 hd).1;refine⟨by simp,.inl ⟨D,_,rfl,run_takeDeferred hd,leaves_marks Ds _ ⟨hn.2,fun E hE=>⟨(hM E (by simp[hE])).1,?_⟩⟩ (fun w' hb'=>h w' ((below_put w D _ hb hlt).trans hb'))⟩⟩;have hne:E≠D:=fun e=>hn.1 (e▸hE);exact(World.putObj_heap_other (by omega)).trans (hM E (by simp[hE])).2
structure xM (M:Obj->Prop) (L:Nat->Prop) (lo hb:Nat) (A B:World):Prop where
 base:Below 0 A B
 block:∀k O,L k\/lo<=k->k < hb->A.heap[k]?=some O->¬M O->B.heap[k]?=some O
theorem xM.size {M:Obj->Prop} {L:Nat->Prop} {lo hb:Nat} {A B:World} (h:xM M L lo hb A B):A.heap.size<=B.heap.size:=h.base.size
theorem xM.trans {M:Obj->Prop} {L:Nat->Prop} {lo hb:Nat} {A B C:World} (h:xM M L lo hb A B) (k:xM M L lo hb B C):xM M L lo hb A C:=⟨h.base.trans k.base,fun j O h1 h2 h3 h4=>k.block j O h1 h2 (h.block j O h1 h2 h3 h4) h4⟩
theorem xM.below {M:Obj->Prop} {L:Nat->Prop} {lo hb N:Nat} {A B:World} (h:Below N A B) (hN:hb<=N):xM M L lo hb A B:=⟨h.mono (Nat.zero_le _),fun k O _ hk hO _=>(h.block k (by omega)).trans hO⟩
theorem xM.set {M:Obj->Prop} {L:Nat->Prop} {lo hb g j:Nat} {A:World} (v:Value) (hg:g < lo/\¬L g\/hb<=g):xM M L lo hb A (A.setCell ⟨g,j,none⟩ v):=⟨(Below.refl 0 A).setCell (p:=⟨g,j,none⟩) (Nat.zero_le _) v,fun k O h1 h2 hO _=>(Below.heap_setCell _ _ _ _ (by
 show k≠g;rintro rfl;rcases hg with⟨h3,h4⟩|h3
 ·exact h1.elim h4 (by omega)
 ·omega)).trans hO⟩
theorem LeavesIn.fin {F:Fence} {n:Nat} {P:Program} {fn:Func} {tmps:Array Value} {R:Ending->World->Prop} {w:World} {v:Value} (h:(results fn tmps).run P w=.ok v w) (hR:R (.returned v) w):LeavesIn F n P fn tmps R [] .returning w:=⟨v,h,hR⟩
theorem leaves_mark1 {F:Fence} {n:Nat} {P:Program} {fn:Func} {tmps:Array Value} {R:Ending->World->Prop} {D:Nat} {w:World} (hd:w.heap[D]?=some (.deferred (some [])))
  (h:∀w',Below D w w'->(∀k,k≠D->w'.heap[k]?=w.heap[k]?)->LeavesIn F n P fn tmps R [] .returning w'):LeavesInM F n P fn tmps R [mark D] .returning w:=
 ⟨by simp,.inl ⟨D,_,rfl,run_takeDeferred hd,h _ (below_put w D _ (Nat.le_refl _) (Array.getElem?_eq_some_iff.1 hd).1) fun k hk=>World.putObj_heap_other hk⟩⟩
def IterC (P:Program) (M:Obj->Prop) (L:Nat->Prop) (Qs:(Nat->Prop)->Prop) (G:Array Value->Prop) (gf:Nat) (cs:Array Value) (m:Nat) (Pre Gd:World->Prop) (H:(Nat->Prop)->Nat->World->Nat->Array Value->Prop) (N:Nat):Prop:=
 ∀(l:Nat) (J Jx:(Nat->Prop)->Nat->World->Prop) (W:World),Pre W->(∀q i A,Qs q->J q i A->Gd A)->(∀q i A B,Qs q->J q i A->W.heap.size<=A.heap.size->Below W.heap.size A B->(∀k,k < A.heap.size->¬q k->B.heap[k]?=A.heap[k]?)->J q i B)->
  (∀q i A B,Qs q->Jx q i A->W.heap.size<=A.heap.size->Below W.heap.size A B->(∀k,k < A.heap.size->¬q k->B.heap[k]?=A.heap[k]?)->Jx q i B)->
  (∀(q:Nat->Prop) (i:Nat) (W1:World) (hb:Nat) (args:Array Value),i < N->Qs q->J q i W1->(∀k,q k->W.heap.size<=k/\k < hb)->W.heap.size<=hb->hb<=W1.heap.size->H q i W1 hb args->
   YieldAt Fence.wide m P l args W1 fun e W'=>(e=.returned (.bool true)/\(J q (i+1) W'/\xM M L W.heap.size hb W1 W')/\G args)\/(e=.returned (.bool false)/\Jx q (i+1) W'/\xM M L W.heap.size hb W1 W'))->
  (∀q,Qs q->(∀k,q k->W.heap.size<=k)->J q 0 W)->
  CallsIn Fence.wide (m+1) P gf (#[.func (.yield l) #[] #[]]++cs) W fun e W'=>(∃v,e=.returned v)/\∃q,Qs q/\(J q N W'\/∃i,0 < i/\i<=N/\Jx q i W')
def Lb (n0:Nat) (E:Nat->Prop):Nat->Prop:=fun k=>k < n0/\¬E k
def roundM (g:Prop) (M:Obj->Prop) (L:Nat->Prop) (lo hb:Nat) (I:Nat->World->Prop) (Ix:Code->Nat->World->Prop) (i:Nat) (W:World):Exit->Act->World->Prop
 |.normal,_,W'=>(I i W'/\xM M L lo hb W W')/\g
 |.ret,_,W'=>Ix .ret i W'/\xM M L lo hb W W'
 |.exit id,_,W'=>Ix (.exit id) i W'/\xM M L lo hb W W'
 |.goto t,_,W'=>Ix (.goto t) i W'/\xM M L lo hb W W'
 |.panic _,_,_=>False
 |.outgrown,_,_=>False
theorem wpIn_range_ownC {P:Program} {M:Obj->Prop} {L:Nat->Prop} {Qs:(Nat->Prop)->Prop} {G:Array Value->Prop} {m gf N:Nat} {cs:Array Value} {Pre Gd:World->Prop} {H:(Nat->Prop)->Nat->World->Nat->Array Value->Prop} {g:Operand} {ps:Array Tmp} {assign body:Code} {Q:Exit->Act->World->Prop} {a:Act} {w:World}
  (hg:a.eval g=.func (.func gf) #[] cs) (eg:∀args w,(callFunc gf args).run P w=.ok (.enter gf args) w) (hL:∀k,L k->k < w.heap.size) (hit:IterC P M L Qs G gf cs m Pre Gd H N) (hps:∀q i W hb args,H q i W hb args->args.size=ps.size)
  (I:(Nat->Prop)->Nat->World->Prop) (Ix:(Nat->Prop)->Code->Nat->World->Prop) (hI:∀q i A B,Qs q->I q i A->w.heap.size<=A.heap.size->Below w.heap.size A B->(∀k,k < A.heap.size->k≠w.heap.size+1->¬q k->B.heap[k]?=A.heap[k]?)->I q i B) (hIx:∀q c i A B,Qs q->Ix q c i A->w.heap.size<=A.heap.size->Below w.heap.size A B->(∀k,k < A.heap.size->k≠w.heap.size+1->¬q k->B.heap[k]?=A.heap[k]?)->Ix q c i B)
  (hGd:∀q i A,Qs q->I q i A->Gd A) (h0:∀q,Qs q->(∀k,q k->w.heap.size+2<=k)->I q 0 w) (hpre:∀W,Below w.heap.size w W->Pre W) (hM1:∀r,¬M (.loop r)) (hM2:∀d,¬M (.deferred d))
  (hround:∀(q:Nat->Prop) (i:Nat) (W1:World) (hb:Nat) (args:Array Value),i < N->Qs q->I q i W1->(∀k,q k->w.heap.size+2<=k/\k < hb)->w.heap.size+2<=hb->hb<=W1.heap.size->H q i W1 hb args->
   assign.wpIn (Fence.wide.inRound (w.heap.size+1)) m P (Exit.then (fun a₁ w₁=>Below W1.heap.size W1 w₁/\∀w₂,w₂.heap.size=w₁.heap.size->(∀k,k≠w.heap.size+1->w₂.heap[k]?=w₁.heap[k]?)->Below w.heap.size w₁ w₂->
    body.wpIn (Fence.wide.inRound (w.heap.size+1)) m P (roundM (G args) M L w.heap.size hb (I q) (Ix q) (i+1) w₂) a₁ w₂) (fun _ _ _=>False))
    {tmps:=(ps.zip args).foldl (fun t (p,v)=>t.setIfInBounds p v) a.tmps,defers:=[]} W1)
  (hdone:∀(q:Nat->Prop) (W:World),Qs q->I q N W->w.heap.size+2<=W.heap.size->W.heap[w.heap.size]?=some (.deferred (some []))->Q .normal {a with defers:=mark w.heap.size::a.defers} W)
  (hstop:∀(q:Nat->Prop) (c:Code) (i:Nat) (W:World),0 < i->i<=N->Qs q->Ix q c i W->w.heap.size+2<=W.heap.size->W.heap[w.heap.size]?=some (.deferred (some []))->c.wpIn Fence.wide (m+2) P Q {a with defers:=mark w.heap.size::a.defers} W):
  (Code.rangeFunc g ps assign body).wpIn Fence.wide (m+2) P Q a w:=by
 refine wpIn_rangeFunc ?_;intro fn hfn;obtain⟨rc,hrc⟩:∃rc:LoopState->Option Code->Loop,rc=fun st pe=>{state:=st,pending:=pe,fn,tmps:=a.tmps,params:=ps,assign,body,defers:=w.heap.size}:=⟨_,rfl⟩
 obtain⟨W0,hW0⟩:∃W0,(w.alloc (.deferred (some []))).alloc (.loop (rc .ready none))=W0:=⟨_,rfl⟩
 have s0:W0.heap.size=w.heap.size+2:=by rw[←hW0];simp
 have l0:W0.heap[w.heap.size+1]?=some (.loop (rc .ready none)):=by
  rw[←hW0];have:=World.alloc_heap_new (w.alloc (.deferred (some []))) (.loop (rc .ready none));rwa [World.size_alloc] at this
 have d0:W0.heap[w.heap.size]?=some (.deferred (some [])):=by
  rw[←hW0];exact(Below.heap_alloc _ _ _ (by simp)).trans (World.alloc_heap_new w _)
 have b0:Below w.heap.size w W0:=by rw[←hW0];exact((Below.refl _ w).alloc (Nat.le_refl _) _).alloc (by simp) _
 refine⟨w.heap.size+1,[mark w.heap.size],W0,{target:=.fn (.func gf) cs,args:=#[.func (.yield (w.heap.size+1)) #[] #[]]},W0,gf,#[.func (.yield (w.heap.size+1)) #[] #[]]++cs,W0,?_,?_,?_,?_,fun _=>by omega,?_⟩
 ·rw [←hW0,hrc];exact run_enterLoop_outer _ _ _ _ _
 ·simp only[resolve,hg]
  simp[go_sem]
 ·exact fun _ _=>trivial
 ·simp [invoke,go_sem,eg]
 ·have hK:∀{A B:World},Below A.heap.size A B->w.heap.size+2<=A.heap.size->∀{k:Nat} {o:Obj},k < w.heap.size+2->A.heap[k]?=some o->B.heap[k]?=some o:=
   fun hb hs k o hk h=>(hb.block k (by omega)).trans h
  refine CallsIn.mono (hit (w.heap.size+1)
   (fun q i W=>I q i W/\w.heap.size+2<=W.heap.size/\W.heap[w.heap.size+1]?=some (.loop (rc .ready none))/\W.heap[w.heap.size]?=some (.deferred (some [])))
   (fun q i W=>∃c,Ix q c i W/\w.heap.size+2<=W.heap.size/\W.heap[w.heap.size+1]?=some (.loop (rc .done (some c)))/\W.heap[w.heap.size]?=some (.deferred (some [])))
   W0 (hpre _ b0) (fun q i A hQ h=>hGd q i A hQ h.1) ?_ ?_ ?_ (fun q hQ hq=>⟨hI _ _ _ _ hQ (h0 q hQ fun k hk=>s0▸hq k hk) (Nat.le_refl _) b0 (fun k hk _ _=>b0.block k hk),by omega,l0,d0⟩)) ?_
  ·rintro q i A B hQ ⟨h1,h2,h3,h4⟩ hs hb he
   exact⟨hI _ _ _ _ hQ h1 (by omega) (hb.mono (by omega)) (fun k hk _ hT=>he k hk hT),by have:=hb.size;omega,(hb.block _ (by omega)).trans h3,(hb.block _ (by omega)).trans h4⟩
  ·rintro q i A B hQ ⟨c,h1,h2,h3,h4⟩ hs hb he
   exact⟨c,hIx _ _ _ _ _ hQ h1 (by omega) (hb.mono (by omega)) (fun k hk _ hT=>he k hk hT),by have:=hb.size;omega,(hb.block _ (by omega)).trans h3,(hb.block _ (by omega)).trans h4⟩
  ·rintro q i W1 hb args hi hQ ⟨h1,h2,h3,h4⟩ hq hlo hhi hH
   have hlt:w.heap.size+1 < W1.heap.size:=by omega
   have hy:=run_yield (P:=P) (args:=args) h3 (by rw[hrc];exact hps _ _ _ _ _ hH);rw[hrc] at hy;refine⟨fn,_,assign,body,hy,roundIn_of_wpIn hfn ?_⟩;refine wpIn_mono (hround q i W1 hb args hi hQ h1 (fun k hk=>s0▸hq k hk) (by omega) hhi hH) ?_;intro e a1 w1 he;cases e with
   |normal=>
    obtain⟨hb1,hbody⟩:=he;have sz1:=hb1.size;have r1:w1.heap[w.heap.size+1]?=some (.loop (rc .ready none)):=hK hb1 h2 (by omega) h3;have r2:w1.heap[w.heap.size]?=some (.deferred (some [])):=hK hb1 h2 (by omega) h4;refine⟨_,run_beginRound r1 (by rw[hrc]),?_⟩;obtain⟨w2,hw2⟩:∃w2,w1.putObj (w.heap.size+1) (.loop {rc .ready none with state:=.busy})=w2:=⟨_,rfl⟩
    have q1:w2.heap[w.heap.size+1]?=some (.loop {rc .ready none with state:=.busy}):=by rw[←hw2];exact World.putObj_heap_same (by omega)
    have q2:∀k,k≠w.heap.size+1->w2.heap[k]?=w1.heap[k]?:=fun k hk=>by rw[←hw2];exact World.putObj_heap_other hk
    have q3:w2.heap.size=w1.heap.size:=by rw[←hw2];simp[World.putObj]
    have q4:Below w.heap.size w1 w2:=by rw[←hw2];exact below_put w1 _ _ (by omega) (by omega)
    have q5:=(q2 w.heap.size (by omega)).trans r2;rw[hw2];refine wpIn_mono (hbody w2 q3 q2 q4) ?_;have fin:∀(jump:Option Code) (W3:World),xM M L w.heap.size hb w2 W3->
      (Instr.endRound (w.heap.size+1) jump).run P W3=.ok (.bool jump.isNone) (W3.putObj (w.heap.size+1) (.loop (rc (if jump.isNone then .ready else .done) jump)))/\
      w.heap.size+2<=W3.heap.size/\Below w.heap.size W3 (W3.putObj (w.heap.size+1) (.loop (rc (if jump.isNone then .ready else .done) jump)))/\
      (W3.putObj (w.heap.size+1) (.loop (rc (if jump.isNone then .ready else .done) jump))).heap[w.heap.size+1]?=some (.loop (rc (if jump.isNone then .ready else .done) jump))/\
      (W3.putObj (w.heap.size+1) (.loop (rc (if jump.isNone then .ready else .done) jump))).heap[w.heap.size]?=some (.deferred (some [])):=fun jump W3 hk3=>by
     have t1:W3.heap[w.heap.size+1]?=some (.loop {rc .ready none with state:=.busy}):=hk3.block _ _ (.inr (by omega)) (by omega) q1 (hM1 _);have t2:W3.heap[w.heap.size]?=some (.deferred (some [])):=hk3.block _ _ (.inr (by omega)) (by omega) q5 (hM2 _);have t3:=hk3.size;have t4:=run_endRound (P:=P) jump t1;rw[hrc] at t4 ⊢;exact⟨t4,by omega,below_put W3 _ _ (by omega) (by omega),World.putObj_heap_same (by omega),(World.putObj_heap_other (by omega)).trans t2⟩
    have keep:∀(W3:World) (o:Obj),xM M L w.heap.size hb w2 W3->Below w.heap.size W3 (W3.putObj (w.heap.size+1) o)->
      xM M L W0.heap.size hb W1 (W3.putObj (w.heap.size+1) o):=fun W3 o hk hs=>by
     refine⟨(((hb1.mono (Nat.zero_le _)).trans (q4.mono (Nat.zero_le _))).trans hk.base).trans (hs.mono (Nat.zero_le _)),fun k O hk1 hk2 hO hMO=>?_⟩;rw[s0] at hk1;have hk0:k≠w.heap.size+1:=hk1.elim (fun h=>by have:=hL k h;omega) (fun h=>by omega);exact(World.putObj_heap_other hk0).trans (hk.block k O (hk1.imp id fun h=>by omega) hk2 ((q2 k hk0).trans ((hb1.block k (by omega)).trans hO)) hMO)
    rintro e a3 W3 hp;cases e with
    |normal=>
     obtain⟨⟨hi3,hk3⟩,hg3⟩:=hp;obtain⟨hr,f1,f2,f3,f4⟩:=fin none W3 hk3;exact⟨_,_,hr,.inl ⟨rfl,⟨⟨hI _ _ _ _ hQ hi3 (by omega) f2 (fun k _ hk _=>World.putObj_heap_other hk),by simp[World.putObj];omega,f3,f4⟩,keep W3 _ hk3 f2⟩,hg3⟩⟩
    |ret=>
     obtain⟨hi3,hk3⟩:=hp;obtain⟨hr,f1,f2,f3,f4⟩:=fin (some .ret) W3 hk3;exact⟨_,_,hr,.inr ⟨rfl,⟨_,hIx _ _ _ _ _ hQ hi3 (by omega) f2 (fun k _ hk _=>World.putObj_heap_other hk),by simp[World.putObj];omega,f3,f4⟩,keep W3 _ hk3 f2⟩⟩
    |exit id=>
     obtain⟨hi3,hk3⟩:=hp;obtain⟨hr,f1,f2,f3,f4⟩:=fin (some (.exit id)) W3 hk3;exact⟨_,_,hr,.inr ⟨rfl,⟨_,hIx _ _ _ _ _ hQ hi3 (by omega) f2 (fun k _ hk _=>World.putObj_heap_other hk),by simp[World.putObj];omega,f3,f4⟩,keep W3 _ hk3 f2⟩⟩
    |goto t=>
     obtain⟨hi3,hk3⟩:=hp;obtain⟨hr,f1,f2,f3,f4⟩:=fin (some (.goto t)) W3 hk3;exact⟨_,_,hr,.inr ⟨rfl,⟨_,hIx _ _ _ _ _ hQ hi3 (by omega) f2 (fun k _ hk _=>World.putObj_heap_other hk),by simp[World.putObj];omega,f3,f4⟩,keep W3 _ hk3 f2⟩⟩
    |panic ch=>exact hp.elim
    |outgrown=>exact hp.elim
   |ret=>exact he.elim
   |exit id=>exact he.elim
   |goto t=>exact he.elim
   |panic ch=>exact he.elim
   |outgrown=>exact he.elim
  ·rintro e W2 ⟨⟨v,rfl⟩,q,hQ,(⟨h1,h2,h3,h4⟩|⟨i,hi0,hi1,c,h1,h2,h3,h4⟩)⟩
   ·exact ⟨none,_,by have:=run_endLoop (P:=P) h3 (by rw[hrc];simp);rw[hrc] at this;exact this,
     hdone q _ hQ (hI _ _ _ _ hQ h1 (by omega) (below_put W2 _ _ (by omega) (by omega)) (fun k _ hk _=>World.putObj_heap_other hk)) (by simp[World.putObj];omega) ((World.putObj_heap_other (by omega)).trans h4)⟩
   ·exact ⟨some c,_,by have:=run_endLoop (P:=P) h3 (by rw[hrc];simp);rw[hrc] at this;exact this,
     hstop q c i _ hi0 hi1 hQ (hIx _ _ _ _ _ hQ h1 (by omega) (below_put W2 _ _ (by omega) (by omega)) (fun k _ hk _=>World.putObj_heap_other hk)) (by simp[World.putObj];omega) ((World.putObj_heap_other (by omega)).trans h4)⟩
namespace RN
section
variable {R:World->World->Prop} [Rgl R] {n:Nat} {P:Program} {Q:Exit->Act->World->Prop} {md:Region.Mode} {kd:Nat->Nat} {ops:Array Oper}
theorem wp_onlyIn {o:Oper} {a:Act} {w:World} {K K':Act->World->Prop} (hd:∀c,o.op≠.defer c) (h:∀a w,K a w->K' a w) (l:Nat)
  (hh:o.wp P a w K (Only Q)):o.wpIn (Fence.wide.inRound l) n P a w K' Q:=by
 refine⟨fun _ _=>trivial,?_⟩;have e:Oper.semAt (Fence.wide.inRound l).round a.eval o=execOp a.eval o:=Oper.semAt_some l a.eval o hd;rw[e];unfold Oper.wp at hh;generalize (execOp a.eval o).run P w=r at *;cases r with
 |ok x w'=>
  cases x <;> simp only[Oper.upon,Oper.uponIn] at hh ⊢ <;>
   first
    |exact h _ _ hh
    |exact⟨fun hx=>(Bool.false_ne_true hx).elim,CallsIn.inRound l (callsIn_wide.2 (Calls.mono hh (fun e w'' he=>by cases e <;> first|exact h _ _ he|exact(he:False).elim|exact(yJ he).elim)))⟩
    |exact⟨fun hx=>(Bool.false_ne_true hx).elim,fun c cs _=>let ⟨v,w',r,s⟩:=hh c cs;⟨v,w',h _ _ r,stepsIn_wide.2 s⟩⟩
    |exact hh.elim
 |halt x w'=>cases x <;> simp only[Oper.upon,Oper.uponIn] at hh ⊢ <;> exact(hh:False).elim
theorem wpOpIn_of_wpOpX {i l:Nat} {a:Act} {w:World} {K K':Act->World->Prop} (hd:∀o ∈ ops.toList,∀c,o.op≠.defer c) (h:∀a w,K a w->K' a w)
  (hh:yT R P ops kd Q i K a w):wpOpIn (Fence.wide.inRound l) n P ops Q i K' a w:=by
 unfold yT at hh;unfold wpOpIn;cases ho:ops[i]? with
 |none=>simp only[ho] at hh ⊢;exact h _ _ hh
 |some o=>
  have hdo:=hd o (by rw[←Array.getElem?_toList] at ho;exact List.mem_of_getElem? ho);have e:∀a:Act,Oper.semAt (Fence.wide.inRound l).round a.eval o=execOp a.eval o:=fun a=>Oper.semAt_some l a.eval o hdo;simp only[ho] at hh ⊢
  split
  ·rename_i hw
   simp only[hw,if_true] at hh;rcases Nat.lt_or_ge (kd i) 2 with hk|hk
   ·rcases Nat.lt_or_ge (kd i) 1 with hk'|hk'
    ·obtain ⟨v,h1,h2⟩:=hh.1 (by omega)
     refine⟨fun _ _=>trivial,?_⟩;rw[e,h1 w];exact h _ _ h2
    ·obtain ⟨v,h1,h2⟩:=hh.2.1 (by omega)
     refine⟨fun _ _=>trivial,?_⟩;rw[e,h1 w (Rgl.refl w)];exact h _ _ h2
   ·rcases Nat.lt_or_ge (kd i) 3 with hk'|hk'
    ·exact wp_onlyIn hdo h l (hh.2.2.1 (by omega))
    ·exact wp_onlyIn hdo (fun a w h'=>h a w h'.2) l (hh.2.2.2 hk')
  ·rename_i hw
   simp only[hw] at hh;exact⟨fun _ _=>trivial,h _ _ hh⟩
theorem wpAnyIn_of_X (l:Nat) (hd:∀o ∈ ops.toList,∀c,o.op≠.defer c):∀(fuel:Nat) (listed:Array Bool) (a:Act) (w:World),wpAnyX R P md ops kd Q fuel listed a w->wpAnyIn (Fence.wide.inRound l) n P md ops Q fuel listed a w
 |0,_,_,_,h=>h
 |fuel+1,_,_,_,h=>⟨h.1,fun i hi=>wpOpIn_of_wpOpX hd (fun a w=>wpAnyIn_of_X l hd fuel _ a w) (h.2 i hi)⟩
end
def noDefer (l:List Oper):Bool:=l.all fun o=>match o.op with|.defer _=>false|_=>true
theorem noDefer_ne {l:List Oper} (h:noDefer l=true):∀o ∈ l.toArray.toList,∀c,o.op≠.defer c:=by
 intro o ho c e;have:=List.all_eq_true.1 h o (by simpa using ho);rw[e] at this;cases this
theorem wpIn_region_t {n:Nat} {P:Program} {Q:Exit->Act->World->Prop} {l:List Oper} {id rd:Nat} {a:Act} {w:World} (M:Nat) (ks:List Nat) (t:Tr)
  (hB:(P.follows .mixedOrders&&Region.noSelect l.toArray&&Nat.beq t.len l.length&&checkT l ks t (Array.replicate l.length false)&&noDefer l)=true) (h:yp (KeepsN M) P Q l ks t a w.drew):(Code.region id l.toArray true).wpIn (Fence.wide.inRound rd) n P Q a w:=by
 simp only[Bool.and_eq_true] at hB;obtain⟨⟨⟨⟨hm,hs⟩,hn⟩,hB⟩,hd⟩:=hB;refine wpIn_region_any hm (wpAnyIn_of_X (R:=KeepsN M) (kd:=fun i=>ks.getD i 2) rd (noDefer_ne hd) _ _ _ _ ?_);have:=wpT_any hs t (Array.replicate l.length false) a _ (closed_none _) hB h;rw[Nat.eq_of_beq_eq_true hn] at this;simpa using this
end RN
def Rl (A:Au) (p q:Int×Bool):Prop:=∀a ∈ A,∀b ∈ A,a.id=p.1->b.id=q.1->¬(0<=b.fin/\b.fin < a.beg)
def deedsOf (A:Au) (x:Int):List Dd:=match A.find? (fun s=>s.id==x) with
 |some s=>s.deeds
 |none=>[]
section
variable {A:Au} {n:Nat}
theorem find_id (hn:(A.map (·.id)).Nodup) {s:St} (hs:s ∈ A):A.find? (fun u=>u.id==s.id)=some s:=by
 cases hf:A.find? (fun u=>u.id==s.id) with
 |none=>
  have:=List.find?_eq_none.1 hf s hs;simp at this
 |some u=>
  have h1:=List.find?_some hf;have h2:=List.mem_of_find?_eq_some hf;rw[ids_unique hn h2 hs (by simpa using h1)]
theorem deedsOf_id (hn:(A.map (·.id)).Nodup) {s:St} (hs:s ∈ A):deedsOf A s.id=s.deeds:=by unfold deedsOf;rw[find_id hn hs]
structure OrdOk (A:Au) (n:Nat) (ord:List (Int×Bool)):Prop where
 perm:(ord.map (·.1)).Perm (A.map (·.id))
 rt:ord.Pairwise (Rl A)
 tm:∀s ∈ A,s.beg < n/\s.fin < n
variable {ord:List (Int×Bool)}
theorem OrdOk.nodup (h:OrdOk A n ord) (hn:(A.map (·.id)).Nodup):(ord.map (·.1)).Nodup:=h.perm.nodup_iff.2 hn
theorem OrdOk.has (h:OrdOk A n ord) {s:St} (hs:s ∈ A):∃c,(s.id,c) ∈ ord:=by
 have:=h.perm.mem_iff.2 (List.mem_map_of_mem (f:=fun s:St=>s.id) hs);obtain⟨p,hp,he⟩:=List.mem_map.1 this;exact⟨p.2,by rw[←he];exact hp⟩
theorem OrdOk.mem (h:OrdOk A n ord) {p:Int×Bool} (hp:p ∈ ord):∃s ∈ A,s.id=p.1:=by
 have:=h.perm.mem_iff.1 (List.mem_map_of_mem (f:=fun q:Int×Bool=>q.1) hp);exact List.mem_map.1 this
end
theorem dd_snoc {l:List Dd} {d:Dd} (h:l.getLast?=some d):l=l.dropLast++[d]:=by
 obtain⟨ys,rfl⟩:=List.getLast?_eq_some_iff.1 h;simp
theorem JInv.fresh {P:Pg} {S:yk} {A:Au} (h:JInv P S A) {i:Nat} {t:Th} (ht:S.ths[i]?=some t) (hb:t.begun=false) (h3:t.tx < 3):¬hasId (qG i t.tx) A:=by
 have lt3:∀(j:Nat) (u:Th) (l:Nat),S.ths[j]?=some u->(l < u.tx\/l=u.tx/\u.begun=true)->l < 3:=fun j u l hu hl=>by
  have:=h.bt j u hu;rcases hl with h1|⟨h1,h2⟩
  ·omega
  ·have:=this.2 h2;omega
 rintro⟨s,hs,he⟩;obtain⟨j,u,l,hu,hl,-,hc⟩:=h.all s hs;have hl3:=lt3 j u l hu (hc.imp (fun h=>h.1) fun h=>⟨h.1,h.2.1⟩);obtain⟨rfl,rfl⟩:=idOf_inj h3 hl3 (he.symm.trans hl);rw[ht] at hu;obtain rfl:=Option.some.inj hu;rcases hc with⟨h1,-⟩|⟨-,h2,-⟩
 ·omega
 ·rw [hb] at h2;cases h2
structure DdOk (m:Nat) (d:Dd):Prop where
 obj:0<=d.obj/\d.obj < m
 op:d.op=1/\d.val=0\/d.op=2/\-1000000000<=d.val/\d.val<=1000000000
 key:d.key=0
 ret:d.ret=0\/fitsR d.op d.ret
 got:-1000000000<=d.got/\d.got<=1000000000
 got0:d.ret≠3->d.got=0
structure TxOk (m:Nat) (s:St):Prop where
 deeds:∀d ∈ s.deeds,DdOk m d
 last:s.stand=2->∃d,s.deeds.getLast?=some d/\d.ret=0
 status:(s.tri < 0->s.status=1\/s.status=4)/\(0<=s.tri->s.stand=3/\s.status=2\/s.stand=5/\(s.status=3\/s.status=4))
 stand:s.stand=1\/s.stand=2\/s.stand=3\/s.stand=4\/s.stand=5
 fin:s.stand≠5->s.fin=-1
 st3:s.stand=3↔s.status=2
theorem fed_txs {m:Nat}:∀{l:List Ev} {A:Au},Fed l A->(∀e ∈ l,EvOk m e)->∀s ∈ A,TxOk m s:=by
 intro l A h
 induction h with
 |nil=>intro _ s hs;cases hs
 |@snoc l A A' e h hf ih=>
  intro he;have ih:=ih fun x hx=>he x (List.mem_append_left _ hx);have hev:=(he e (by simp)).form;cases hf with
  |begin hk hi hb=>
   intro s hs;rcases List.mem_append.1 hs with hs|hs
   ·exact ih s hs
   ·obtain rfl:s=yE e l.length:=by simpa using hs
    exact⟨fun d hd=>(nomatch hd),fun h=>by simp[yE] at h,⟨fun _=>.inl rfl,fun h=>by simp[yE] at h⟩,.inl rfl,fun _=>rfl,by simp[yE]⟩
  |move k s s' hk hs hi hm=>
   intro x hx;obtain⟨j,hj⟩:=List.mem_iff_getElem?.1 hx;rcases xd hj with⟨-,rfl⟩|⟨-,hj⟩
   ·have hS:=ih s (List.mem_of_getElem? hs)
    obtain⟨h1,h2,⟨h3,h3'⟩,h4,h5,h6⟩:=hS;rcases hev with⟨i,-,-,he⟩|⟨c,hc,-,he⟩|⟨c,v,hc,-,hv,hv',he⟩|he|⟨v,hv,hv',he⟩|⟨q,hq,he⟩
    ·rw [he] at hk;simp at hk
    ·have k1:e.kind=2:=by rw[he]
     have k2:e.obj=c:=by rw[he]
     have k3:e.op=1:=by rw[he]
     have k4:e.key=0:=by rw[he]
     have k5:e.val=0:=by rw[he]
     unfold xJ at hm;rw[if_pos k1] at hm;by_cases hst:s.stand=1
     ·rw [if_pos hst] at hm
      cases hm;refine⟨fun d hd=>?_,fun _=>⟨newDd e l.length,by simp,rfl⟩,⟨h3,fun h=>?_⟩,.inr (.inl rfl),fun _=>h5 (by omega),?_⟩
      ·simp only[List.mem_append,List.mem_singleton] at hd
       rcases hd with hd|rfl
       ·exact h1 d hd
       ·refine ⟨?_,?_,k4,.inl rfl,⟨by show(-1000000000:Int)<=0;omega,by show(0:Int)<=1000000000;omega⟩,fun _=>rfl⟩
        ·show 0<=e.obj/\e.obj < m
         omega
        ·show e.op=1/\e.val=0\/e.op=2/\-1000000000<=e.val/\e.val<=1000000000
         omega
      ·rcases h3' h with h|h <;> omega
      ·show (2:Int)=3↔s.status=2
       constructor
       ·intro h;omega
       ·intro h;have:=h6.2 h;omega
     ·rw [if_neg hst] at hm;cases hm
    ·have k1:e.kind=2:=by rw[he]
     have k2:e.obj=c:=by rw[he]
     have k3:e.op=2:=by rw[he]
     have k4:e.key=0:=by rw[he]
     have k5:e.val=v:=by rw[he]
     unfold xJ at hm;rw[if_pos k1] at hm;by_cases hst:s.stand=1
     ·rw [if_pos hst] at hm
      cases hm;refine⟨fun d hd=>?_,fun _=>⟨newDd e l.length,by simp,rfl⟩,⟨h3,fun h=>?_⟩,.inr (.inl rfl),fun _=>h5 (by omega),?_⟩
      ·simp only[List.mem_append,List.mem_singleton] at hd
       rcases hd with hd|rfl
       ·exact h1 d hd
       ·refine ⟨?_,?_,k4,.inl rfl,⟨by show(-1000000000:Int)<=0;omega,by show(0:Int)<=1000000000;omega⟩,fun _=>rfl⟩
        ·show 0<=e.obj/\e.obj < m
         omega
        ·show e.op=1/\e.val=0\/e.op=2/\-1000000000<=e.val/\e.val<=1000000000
         omega
      ·rcases h3' h with h|h <;> omega
      ·show (2:Int)=3↔s.status=2
       constructor
       ·intro h;omega
       ·intro h;have:=h6.2 h;omega
     ·rw [if_neg hst] at hm;cases hm
    ·have k1:e.kind=3:=by rw[he]
     have k2:e.ret=1:=by rw[he]
     have k3:e.val=0:=by rw[he]
     unfold xJ at hm;rw[if_neg (by omega),if_pos k1] at hm;by_cases hst:s.stand=2
     ·rw [if_pos hst] at hm
      obtain⟨d,hd,hd0⟩:=h2 hst;rw[hd] at hm;simp only at hm;by_cases hf:fitsR d.op e.ret
      ·rw [if_pos hf] at hm
       cases hm;have hdO:=h1 d (List.mem_of_getLast? hd);refine⟨fun y hy=>?_,fun h=>by simp at h,⟨h3,fun h=>?_⟩,.inl rfl,fun _=>h5 (by omega),?_⟩
       ·simp only[List.mem_append,List.mem_singleton] at hy
        rcases hy with hy|rfl
        ·exact h1 y ((List.dropLast_sublist _).subset hy)
        ·refine ⟨hdO.obj,hdO.op,hdO.key,.inr hf,?_,fun hr=>?_⟩
         ·show -1000000000<=e.val/\e.val<=1000000000
          omega
         ·have hr:e.ret≠3:=hr
          show e.val=0;omega
       ·rcases h3' h with h|h <;> omega
       ·show (1:Int)=3↔s.status=2
        constructor
        ·intro h;omega
        ·intro h;have:=h6.2 h;omega
      ·rw [if_neg hf] at hm;cases hm
     ·rw [if_neg hst] at hm;cases hm
    ·have k1:e.kind=3:=by rw[he]
     have k2:e.ret=3:=by rw[he]
     have k3:e.val=v:=by rw[he]
     unfold xJ at hm;rw[if_neg (by omega),if_pos k1] at hm;by_cases hst:s.stand=2
     ·rw [if_pos hst] at hm
      obtain⟨d,hd,hd0⟩:=h2 hst;rw[hd] at hm;simp only at hm;by_cases hf:fitsR d.op e.ret
      ·rw [if_pos hf] at hm
       cases hm;have hdO:=h1 d (List.mem_of_getLast? hd);refine⟨fun y hy=>?_,fun h=>by simp at h,⟨h3,fun h=>?_⟩,.inl rfl,fun _=>h5 (by omega),?_⟩
       ·simp only[List.mem_append,List.mem_singleton] at hy
        rcases hy with hy|rfl
        ·exact h1 y ((List.dropLast_sublist _).subset hy)
        ·refine ⟨hdO.obj,hdO.op,hdO.key,.inr hf,?_,fun hr=>?_⟩
         ·show -1000000000<=e.val/\e.val<=1000000000
          omega
         ·have hr:e.ret≠3:=hr
          show e.val=0;omega
       ·rcases h3' h with h|h <;> omega
       ·show (1:Int)=3↔s.status=2
        constructor
        ·intro h;omega
        ·intro h;have:=h6.2 h;omega
      ·rw [if_neg hf] at hm;cases hm
     ·rw [if_neg hst] at hm;cases hm
    ·have k1:e.kind=q:=by rw[he]
     unfold xJ at hm;rcases hq with rfl|rfl|rfl|rfl
     ·rw [if_neg (by omega),if_neg (by omega),if_pos k1] at hm
      by_cases hst:s.stand=1
      ·rw [if_pos hst] at hm
       cases hm;exact⟨h1,fun h=>by simp at h,⟨fun h=>absurd h (by show ¬((l.length:Int) < 0);omega),fun _=>.inl ⟨rfl,rfl⟩⟩,.inr (.inr (.inl rfl)),fun _=>h5 (by omega),⟨fun _=>rfl,fun _=>rfl⟩⟩
      ·rw [if_neg hst] at hm;cases hm
     ·rw [if_neg (by omega),if_neg (by omega),if_neg (by omega),if_pos k1] at hm
      by_cases hst:s.stand=3
      ·rw [if_pos hst] at hm
       cases hm;refine⟨h1,fun h=>by simp at h,⟨fun h=>?_,fun _=>.inr ⟨rfl,.inl rfl⟩⟩,.inr (.inr (.inr (.inr rfl))),fun h=>absurd rfl h,?_⟩
       ·have:=h6.1 hst
        rcases h3 h with h|h <;> omega
       ·show (5:Int)=3↔(3:Int)=2
        omega
      ·rw [if_neg hst] at hm;cases hm
     ·rw [if_neg (by omega),if_neg (by omega),if_neg (by omega),if_neg (by omega),if_pos k1] at hm
      by_cases hst:s.stand=1\/s.stand=2\/s.stand=3\/s.stand=4
      ·rw [if_pos hst] at hm
       cases hm;refine⟨h1,fun h=>by simp at h,⟨fun h=>.inr rfl,fun _=>.inr ⟨rfl,.inr rfl⟩⟩,.inr (.inr (.inr (.inr rfl))),fun h=>absurd rfl h,?_⟩;show(5:Int)=3↔(4:Int)=2;omega
      ·rw [if_neg hst] at hm;cases hm
     ·rw [if_neg (by omega),if_neg (by omega),if_neg (by omega),if_neg (by omega),if_neg (by omega),if_pos k1] at hm
      by_cases hst:s.stand=1
      ·rw [if_pos hst] at hm
       cases hm;refine⟨h1,fun h=>by simp at h,⟨h3,fun h=>?_⟩,.inr (.inr (.inr (.inl rfl))),fun _=>h5 (by omega),?_⟩
       ·rcases h3' h with h|h <;> omega
       ·show (4:Int)=3↔s.status=2
        constructor
        ·intro h;omega
        ·intro h;have:=h6.2 h;omega
      ·rw [if_neg hst] at hm;cases hm
   ·exact ih x (List.mem_of_getElem? hj)
theorem moveSt_keeps {n:Nat} {e:Ev} {s s':St} (h:xJ n e s=some s'):s'.id=s.id/\s'.beg=s.beg/\s'.thread=s.thread/\(s'.fin=s.fin\/s'.fin=n):=by
 unfold xJ at h
 split at h
 ·split at h
  ·cases h;exact⟨rfl,rfl,rfl,.inl rfl⟩
  ·cases h
 ·split at h
  ·split at h
   ·split at h
    ·split at h
     ·cases h;exact⟨rfl,rfl,rfl,.inl rfl⟩
     ·cases h
    ·cases h
   ·cases h
  ·split at h
   ·split at h
    ·cases h;exact⟨rfl,rfl,rfl,.inl rfl⟩
    ·cases h
   ·split at h
    ·split at h
     ·cases h;exact⟨rfl,rfl,rfl,.inr rfl⟩
     ·cases h
    ·split at h
     ·split at h
      ·cases h;exact⟨rfl,rfl,rfl,.inr rfl⟩
      ·cases h
     ·split at h
      ·split at h
       ·cases h;exact⟨rfl,rfl,rfl,.inl rfl⟩
       ·cases h
      ·cases h
theorem fed_times:∀{l:List Ev} {A:Au},Fed l A->∀s ∈ A,0<=s.beg/\s.beg < l.length/\(s.fin=-1\/s.beg < s.fin/\s.fin < l.length):=by
 intro l A h
 induction h with
 |nil=>intro s hs;cases hs
 |@snoc l A A' e h hf ih=>
  have hl:(l++[e]).length=l.length+1:=by simp
  rw[hl];cases hf with
  |begin hk hi hb=>
   intro s hs;rcases List.mem_append.1 hs with hs|hs
   ·have:=ih s hs;omega
   ·obtain rfl:s=yE e l.length:=by simpa using hs
    exact⟨by show(0:Int)<=(l.length:Int);omega,by show(l.length:Int) < _;omega,.inl rfl⟩
  |move k s s' hk hs hi hm=>
   intro x hx;obtain⟨j,hj⟩:=List.mem_iff_getElem?.1 hx;rcases xd hj with⟨-,rfl⟩|⟨-,hj⟩
   ·have:=ih s (List.mem_of_getElem? hs)
    obtain⟨-,h2,-,h3⟩:=moveSt_keeps hm;omega
   ·have:=ih x (List.mem_of_getElem? hj);omega
def FullD (s:St):Prop:=(s.stand=1\/s.stand=3\/s.stand=4\/s.status=3->∀d ∈ s.deeds,d.ret≠0)/\(s.stand=2->s.status=1/\∀d ∈ s.deeds.dropLast,d.ret≠0)/\(s.stand=1\/s.stand=4->s.status=1)/\(s.stand=3->s.status=2)/\(s.stand=1\/s.stand=2\/s.stand=3\/s.stand=4\/s.stand=5)
theorem moveSt_full {n:Nat} {e:Ev} {s s':St} (hF:FullD s) (h:xJ n e s=some s'):FullD s':=by
 obtain⟨h1,h2,h3,h4,h5⟩:=hF;unfold xJ at h
 split at h
 ·split at h
  ·rename_i hk hs
   cases h;refine⟨fun hc=>?_,fun _=>⟨h3 (.inl hs),fun d hd=>?_⟩,fun hc=>?_,fun hc=>?_,.inr (.inl rfl)⟩
   ·have e1:=h3 (.inl hs)
    simp only[e1] at hc;omega
   ·simp only[List.dropLast_concat] at hd
    exact h1 (.inl hs) d hd
   ·simp only at hc;omega
   ·simp only at hc;omega
  ·cases h
 ·split at h
  ·split at h
   ·rename_i hs
    split at h
    ·rename_i d hd
     split at h
     ·rename_i hf
      cases h;have hr:e.ret≠0:=by unfold fitsR at hf;omega
      obtain⟨e1,e2⟩:=h2 hs;refine⟨fun _ y hy=>?_,fun hc=>by simp only at hc;omega,fun _=>e1,fun hc=>by simp only at hc;omega,.inl rfl⟩;simp only[List.mem_append,List.mem_singleton] at hy;rcases hy with hy|rfl
      ·exact e2 y hy
      ·exact hr
     ·cases h
    ·cases h
   ·cases h
  ·split at h
   ·split at h
    ·rename_i hs
     cases h;exact⟨fun _=>h1 (.inl hs),fun hc=>by simp only at hc;omega,fun hc=>by simp only at hc;omega,fun _=>rfl,.inr (.inr (.inl rfl))⟩
    ·cases h
   ·split at h
    ·split at h
     ·rename_i hs
      cases h;exact⟨fun _=>h1 (.inr (.inl hs)),fun hc=>by simp only at hc;omega,fun hc=>by simp only at hc;omega,fun hc=>by simp only at hc;omega,.inr (.inr (.inr (.inr rfl)))⟩
     ·cases h
    ·split at h
     ·split at h
      ·rename_i hs
       cases h;exact⟨fun hc=>by simp only at hc;omega,fun hc=>by simp only at hc;omega,fun hc=>by simp only at hc;omega,fun hc=>by simp only at hc;omega,.inr (.inr (.inr (.inr rfl)))⟩
      ·cases h
     ·split at h
      ·split at h
       ·rename_i hs
        cases h;exact⟨fun _=>h1 (.inl hs),fun hc=>by simp only at hc;omega,fun _=>h3 (.inl hs),fun hc=>by simp only at hc;omega,.inr (.inr (.inr (.inl rfl)))⟩
       ·cases h
      ·cases h
theorem fed_full:∀{l:List Ev} {A:Au},Fed l A->∀s ∈ A,FullD s:=by
 intro l A h
 induction h with
 |nil=>intro s hs;cases hs
 |@snoc l A A' e h hf ih=>
  cases hf with
  |begin hk hi hb=>
   intro s hs;rcases List.mem_append.1 hs with hs|hs
   ·exact ih s hs
   ·obtain rfl:s=yE e l.length:=by simpa using hs
    exact⟨fun _ d hd=>(nomatch hd),fun h=>by simp[yE] at h,fun _=>rfl,fun h=>by simp[yE] at h,.inl rfl⟩
  |move k s s' hk hs hi hm=>
   intro x hx;obtain⟨j,hj⟩:=List.mem_iff_getElem?.1 hx;rcases xd hj with⟨-,rfl⟩|⟨-,hj⟩
   ·exact moveSt_full (ih s (List.mem_of_getElem? hs)) hm
   ·exact ih x (List.mem_of_getElem? hj)
