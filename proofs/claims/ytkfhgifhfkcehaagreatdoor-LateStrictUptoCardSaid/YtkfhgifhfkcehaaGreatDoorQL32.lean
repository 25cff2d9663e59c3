/- Parts of the proof, merged by program out of 2 texts (SeB, Range): the first: Frames by blocks; a set anew; queues of nodes: what is put, what is taken. Conditions: those of each theorem, as typed. -/
import Derived.Test.YtkfhgifhfkcehaaGreatDoorQL31
import Derived.RangeFuncNested
import Derived.RangeFuncBound
import Derived.RangeFuncCalls
import Derived.RangeFuncLeaves
import Derived.Shelf.Abstract
import Derived.WalkKit
import Derived.OwnWalkIn
import Derived.TacticsInMore
import Derived.LoopNIn
import Derived.LoopIn
set_option linter.unusedVariables false
set_option linter.unusedSimpArgs false
set_option linter.unusedSectionVars false
set_option maxRecDepth 100000
set_option maxHeartbeats 4000000
namespace Go.Proofs.YtkfhgifhfkcehaaGreatDoor
open Go.Maps Go.RowKit
section
attribute [local irreducible] wpL
structure Fr (S:Nat→Prop) (w w':World):Prop where
 base:Below 0 w w'
 blk:∀k,k < w.heap.size→¬S k→w'.heap[k]?=w.heap[k]?
section
variable {S S':Nat→Prop} {w w1 w':World}
theorem Fr.refl (w:World):Fr S w w:=⟨Below.refl _ _,fun _ _ _=>rfl⟩
theorem Fr.trans (h:Fr S w w1) (k:Fr S' w1 w') (hS:∀b,b < w.heap.size→S' b→S b):Fr S w w':=
 ⟨h.base.trans k.base,fun b hb hn=>(k.blk b (Nat.lt_of_lt_of_le hb h.base.size) fun e=>hn (hS b hb e)).trans (h.blk b hb hn)⟩
theorem Fr.below (h:Below w.heap.size w w'):Fr S w w':=⟨h.mono (Nat.zero_le _),fun k hk _=>h.block k hk⟩
theorem Fr.setB {g:Nat} (hg:S g) (j:Nat) (v:Value):Fr S w (w.setCell ⟨g,j,none⟩ v):=
 ⟨(Below.refl 0 w).setCell (p:=⟨g,j,none⟩) (Nat.zero_le _) v,fun k _ hn=>Below.heap_setCell _ _ _ _ (by rintro rfl;exact hn hg)⟩
theorem Fr.grw {v v':Value} (h:Grw w w' v v'):Fr (fun k=>v.ownBlock=some k) w w':=
 ⟨⟨h.grown.os,h.grown.tape,h.grown.output,h.grown.size,fun _ hk=>absurd hk (Nat.not_lt_zero _)⟩,fun k hk hn=>h.grown.block k hk fun e=>hn e.symm⟩
theorem Fr.drew (h:Fr S w w'):Fr S w w'.drew:=⟨h.base.drew,h.blk⟩
theorem Fr.mono (h:Fr S w w') (hS:∀k,k < w.heap.size→S k→S' k):Fr S' w w':=⟨h.base,fun k hk hn=>h.blk k hk fun e=>hn (hS k hk e)⟩
theorem Fr.toBelow {B:Nat} (h:Fr S w w') (hB:B≤w.heap.size) (hS:∀k,k < B→¬S k):Below B w w':=
 ⟨h.base.os,h.base.tape,h.base.output,h.base.size,fun k hk=>h.blk k (Nat.lt_of_lt_of_le hk hB) (hS k hk)⟩
theorem Fr.row {g:Nat} {O:Obj} (h:Fr S w w') (hr:w.heap[g]?=some O) (hg:¬S g):w'.heap[g]?=some O:=(h.blk g (Array.getElem?_eq_some_iff.1 hr).1 hg).trans hr
theorem Fr.kd {T:TypeId→Prop} (h:Fr S w w') (hS:∀k cs t fz,S k→w.heap[k]?=some (.cells cs t fz)→T t):Kd T w w':=fun k cs t fz hk ht=>h.row hk fun e=>ht (hS k cs t fz e hk)
theorem OwnF.fr {α:Type} {f:α→List Value} {e:TypeId} {sz B:Nat} {v:Value} {l:List α} (h:OwnF f e sz w B v l) (hk:Fr S w w') (hn:∀k,v.ownBlock=some k→¬S k):OwnF f e sz w' B v l:=by
 obtain⟨h1,h2⟩:=h
 refine⟨h1,?_⟩
 rcases h2 with h2|⟨g,cap,cur,rfl,hg,hh,r⟩
 ·exact .inl h2
 ·exact .inr ⟨g,cap,cur,rfl,hg,hk.row hh (hn g rfl),r⟩
end
theorem m_New (m most:Nat) (w:World) (hm:most≤70000):Calls Tryz.prog 90 #[.int .i64 most] w fun e w'=>
  e=.returned (.pointer (some ⟨w.heap.size+1,0,none⟩))∧SetAt m w' w.heap.size (w.heap.size+1) w.heap.size most (.slice none 0 0) []∧Below w.heap.size w w':=by
 have hmk:∀X:World,Sem.run Tryz.prog (Instr.makeMap 259 none) X=.ok (.map (some X.heap.size)) (X.alloc (.map #[] 0)):=fun X=>by kernel_rfl
 have q:max (most:Int) 0=most:=by omega
 go_enter Tryz.func90,Tryz.ntmps90
 go_wp2_with fail
 go_ret
 refine⟨rfl,⟨by have:=row_new (w.alloc (.map #[] 0)) (.cells #[.int .i64 (most:Nat),.map (some w.heap.size),.slice none 0 0] 262);simpa using this,⟨_,(RawV.made (row_new w (.map #[] 0))).below ((Below.refl (w.heap.size+1) _).alloc (by simp) _) (Nat.lt_succ_self _),by simp,by simp⟩,OwnF.nil _ _,by simp,by simp⟩,((Below.refl _ w).alloc (Nat.le_refl _) _).alloc (by simp) _⟩
structure QueueAt (w:World) (B bQ:Nat) (qv:Value) (rows:List NR) (n:Nat):Prop where
 row:w.heap[bQ]?=some (.cells #[qv,.int .i64 n] 179 (0,0))
 own:OwnF NR.cells 181 2 w B qv rows
 le:n≤rows.length
 hB:B≤bQ
def QS (bQ:Nat) (qv:Value) (k:Nat):Prop:=k=bQ∨qv.ownBlock=some k
theorem QueueAt.fr {S:Nat→Prop} {w w':World} {B bQ n:Nat} {qv:Value} {rows:List NR} (h:QueueAt w B bQ qv rows n) (hk:Fr S w w') (hn:∀k,QS bQ qv k→¬S k):QueueAt w' B bQ qv rows n:=
 ⟨hk.row h.row (hn _ (.inl rfl)),OwnF.fr h.own hk fun k e=>hn k (.inr e),h.le,h.hB⟩
theorem m_Put {w:World} {B bQ n:Nat} {qv:Value} {rows:List NR} (h:QueueAt w B bQ qv rows n) (hB:B≤w.heap.size) (hl:rows.length≤70000) (p:Nat) (a:Option Addr) (l c:Nat):
  Calls Tryz.prog 94 #[.pointer (some ⟨bQ,0,none⟩),.agg #[.int .i64 p,.slice a l c]] w fun e w'=>e=.returned (.tuple #[])∧
   ∃qv',QueueAt w' B bQ qv' (rows++[⟨p,.slice a l c⟩]) n∧Fr (QS bQ qv) w w'∧∀k,qv'.ownBlock=some k→qv.ownBlock=some k∨w.heap.size≤k:=by
 have b0:Below w.heap.size w (w.alloc (.cells #[.int .i64 p,.slice a l c] 181)):=(Below.refl _ w).alloc (Nat.le_refl _) _
 have r0:=row_new w (.cells #[.int .i64 p,.slice a l c] 181)
 have r1:=row_below h.row b0 (row_lt h.row)
 have o1:=OwnF.below h.own b0
 have hlQ:=row_lt h.row
 have hz:(w.alloc (.cells #[.int .i64 p,.slice a l c] 181)).heap.size=w.heap.size+1:=by simp
 go_enter Tryz.func94,Tryz.ntmps94
 go_wp2_with fail
 generalize w.alloc (.cells #[.int .i64 p,.slice a l c] 181)=W at *
 obtain⟨aq,cq,rfl,-⟩:=(OwnF.sl o1).ex
 have y:=row_cell r1
 have y0:=y 0
 have y1:=y 1
 simp at y0 y1
 have yl:=row_lt r1
 have z:=row_cell r0
 have z0:=z 0
 have z1:=z 1
 simp at z0 z1
 have zl:=row_lt r0
 have hBW:B≤W.heap.size:=by omega
 have B0:=hid b0
 clear y z b0 r0 hz
 refine wp_rN (W.heap.size) [0,0,0,0,1,1,3,2,0,0,2] (.fin [0,1,2,3,4,5,6,7,8,9,10]) (by kernel_rfl) ?_
 simp only[wpT,selX,guardAt,sD,sE,sF,sG]
 repeat first|(refine wpL_p fun K hK=>?_;go_simp;refine hK _ _ ?_;clear hK K)|(apply wpL_s;(intro w2 hw2;have hk1:=hw2.cell;have hk3:=hw2.1;clear hw2;go_simp;with_reducible rfl);simp only[Act.put,sA,sB,sC])
 refine wpL_k (fun K hK=>?_)
 go_simp
 refine hK _ _ (RN.KeepsN.alloc W.drew _ (Nat.le_refl _)) ?_
 clear hK K
 refine wpL_e (fun K hK=>?_)
 rw[drew_alloc]
 refine wp_appF _ _ _ rfl _ 32 Tryz.underlying177 infoNd rfl o1.drew (NR.mk p (.slice a l c)) (show B≤W.drew.heap.size from hBW) (by rfl) (by rfl) (by first|rfl|simp) rfl (nd_one _) (by first|omega|(simp only[List.length_append,List.length_cons,List.length_nil,List.length_replicate];omega)) (by first|omega|(simp only[List.length_append,List.length_cons,List.length_nil,List.length_replicate];omega)) ?_
 intro g1 c1 w3 o3 G3
 refine hK _ _ ?_
 clear hK K
 have ne:(Value.slice aq rows.length cq).ownBlock≠some bQ:=OwnF.neT o1 r1 (by decide)
 have r3:w3.heap[bQ]?=some _:=row_grw (w:=W.drew) r1 G3 ne
 have y:=row_cell r3
 have y0:=y 0
 simp at y0
 have yf:=row_free r3 0
 have yl3:=row_lt r3
 have oF:=hid (OwnF.other (j:=0) o3 (OwnF.neT o3 r3 (by decide)) (.slice (some ⟨g1,0,none⟩) (rows.length+1) c1))
 have rF:=hid (row_set r3 0 (.slice (some ⟨g1,0,none⟩) (rows.length+1) c1))
 have f3:Fr (QS bQ (.slice aq rows.length cq)) W w3:=(Fr.refl W).drew.trans (Fr.grw (w:=W.drew) G3) fun k _ e=>Or.inr e
 have fF:=hid (((Fr.below (S:=QS bQ (.slice aq rows.length cq)) B0.out).trans f3 fun _ _ e=>e).trans (Fr.setB (S:=QS bQ (.slice aq rows.length cq)) (.inl rfl) 0 (.slice (some ⟨g1,0,none⟩) (rows.length+1) c1)) fun _ _ e=>e)
 have own:=hid G3.own
 clear y y1 o1 r1 o3 r3 f3 G3 ne
 repeat (refine wpL_p fun K hK=>?_;go_simp;refine hK _ _ ?_;clear hK K)
 refine wpL_e (fun K hK=>?_)
 go_simp
 refine hK _ _ ?_
 clear hK K
 repeat refine wpL_nil ?_
 go_wp2_with fail
 refine bodyPost_end (v:=.tuple #[]) (by simp[results,Tryz.results94,go_sem]) rfl ?_
 refine⟨rfl,_,⟨by simpa using rF.out,by simpa using oF.out,by have:=h.le;simp;omega,h.hB⟩,fF.out,fun k e=>?_⟩
 rcases own.out k e with e|e
 ·exact .inl e
 ·exact .inr (Nat.le_trans B0.out.size e)
theorem m_TakeNone {w:World} {B bQ n:Nat} {qv:Value} {rows:List NR} (h:QueueAt w B bQ qv rows n) (hn:n=rows.length) (hl:rows.length≤70000):
  Calls Tryz.prog 95 #[.pointer (some ⟨bQ,0,none⟩)] w fun e w'=>e=.returned (.tuple #[.agg #[.int .i64 0,.slice none 0 0],.bool false])∧Below w.heap.size w w':=by
 subst hn
 have b0:Below w.heap.size w ((w.alloc (.cells #[.int .i64 0,.slice none 0 0] 181)).alloc (.cells #[.int .i64 0,.slice none 0 0] 181)):=((Below.refl _ w).alloc (Nat.le_refl _) _).alloc (by simp) _
 have rR:=row_old (o:=.cells #[.int .i64 0,.slice none 0 0] 181) (row_new w (.cells #[.int .i64 0,.slice none 0 0] 181))
 have rN:=row_new (w.alloc (.cells #[.int .i64 0,.slice none 0 0] 181)) (.cells #[.int .i64 0,.slice none 0 0] 181)
 simp only[World.size_alloc] at rN
 have r1:=row_below h.row b0 (row_lt h.row)
 have o1:=OwnF.below h.own b0
 go_enter Tryz.func95,Tryz.ntmps95
 go_wp2_with fail
 generalize (w.alloc (.cells #[.int .i64 0,.slice none 0 0] 181)).alloc (.cells #[.int .i64 0,.slice none 0 0] 181)=W at *
 obtain⟨aq,cq,rfl,-⟩:=(OwnF.sl o1).ex
 have y:=row_cell r1
 have y0:=y 0
 have y1:=y 1
 simp at y0 y1
 have yl:=row_lt r1
 have z:=row_cell rN
 have z0:=z 0
 have z1:=z 1
 have x:=row_cell rR
 have x0:=x 0
 have x1:=x 1
 simp at z0 z1 x0 x1
 have zl:=row_lt rN
 have xl:=row_lt rR
 have xf:=fun j=>row_free rR j
 have B0:=hid b0
 have RR:=hid rR
 clear x y z b0 r1 o1 rR rN
 refine wp_rN (W.heap.size) [0,0,0,1,0,0,0,1,0,0] (.fin [0,1,2,3,4,5,6,7,8,9]) (by kernel_rfl) ?_
 simp only[wpT,selX,guardAt,sD,sE,sF,sG]
 repeat first|(refine wpL_p fun K hK=>?_;go_simp;refine hK _ _ ?_;clear hK K)|(apply wpL_s;(intro w2 hw2;have hk1:=hw2.cell;have hk3:=hw2.1;clear hw2;go_simp;with_reducible rfl);simp only[Act.put,sA,sB,sC])|refine wpL_nil ?_
 go_wp2_with fail
 have rF:=row_set (row_set RR.out 0 (.int .i64 0)) 1 (.slice none 0 0)
 have c:=row_cell rF
 have c0:=c 0
 have c1:=c 1
 simp at c0 c1
 refine bodyPost_ret (v:=.tuple #[.agg #[.int .i64 0,.slice none 0 0],.bool false]) (by simp[results,Tryz.results95,go_sem,c0,c1]) rfl ?_
 exact⟨rfl,(B0.out.drew.setCell (p:=⟨w.heap.size,0,none⟩) (Nat.le_refl _) _).setCell (p:=⟨w.heap.size,1,none⟩) (Nat.le_refl _) _⟩
theorem m_Take {w:World} {B bQ n:Nat} {qv:Value} {rows:List NR} (h:QueueAt w B bQ qv rows n) (hB:B≤w.heap.size) (hl:rows.length≤70000) {r:NR} (hr:rows[n]?=some r) {a:Option Addr} {l c:Nat} (hs:r.sv=.slice a l c):
  Calls Tryz.prog 95 #[.pointer (some ⟨bQ,0,none⟩)] w fun e w'=>e=.returned (.tuple #[r.val,.bool true])∧
   ∃qv' rows' n',QueueAt w' B bQ qv' rows' n'∧rows'.drop n'=rows.drop (n+1)∧rows'.length≤rows.length∧Fr (QS bQ qv) w w'∧∀k,qv'.ownBlock=some k→qv.ownBlock=some k:=by
 obtain⟨p,sv⟩:=r
 simp only at hs
 subst hs
 have hn:n < rows.length:=(List.getElem?_eq_some_iff.1 hr).1
 have b0:Below w.heap.size w ((w.alloc (.cells #[.int .i64 0,.slice none 0 0] 181)).alloc (.cells #[.int .i64 0,.slice none 0 0] 181)):=((Below.refl _ w).alloc (Nat.le_refl _) _).alloc (by simp) _
 have rR:=row_old (o:=.cells #[.int .i64 0,.slice none 0 0] 181) (row_new w (.cells #[.int .i64 0,.slice none 0 0] 181))
 have rN:=row_new (w.alloc (.cells #[.int .i64 0,.slice none 0 0] 181)) (.cells #[.int .i64 0,.slice none 0 0] 181)
 simp only[World.size_alloc] at rN
 have r1:=row_below h.row b0 (row_lt h.row)
 have o1:=OwnF.below h.own b0
 have hz:((w.alloc (.cells #[.int .i64 0,.slice none 0 0] 181)).alloc (.cells #[.int .i64 0,.slice none 0 0] 181)).heap.size=w.heap.size+2:=by simp
 obtain⟨gq,cq,rfl,hBg,hgl⟩:=(OwnF.form h.own).resolve_left (fun h=>by rw[h.2] at hn;simp at hn)
 have ne:gq≠bQ:=fun e=>OwnF.neT h.own h.row (by decide) (by rw[e];rfl)
 have hlQ:=row_lt h.row
 have HZ:=hid hz
 clear hz
 go_enter Tryz.func95,Tryz.ntmps95
 go_wp2_with fail
 generalize (w.alloc (.cells #[.int .i64 0,.slice none 0 0] 181)).alloc (.cells #[.int .i64 0,.slice none 0 0] 181)=W at *
 obtain⟨bq,oq,z,hq,-,hz1,hz2⟩:=(OwnF.sl o1).atF NR.len rfl hn
 simp only[Option.some.injEq,Addr.mk.injEq,and_true] at hq
 obtain⟨rfl,rfl⟩:=hq
 rw[hr] at hz1
 obtain rfl:=Option.some.inj hz1
 have s0:=hz2 0 (by decide)
 have s1:=hz2 1 (by decide)
 simp[NR.cells] at s0 s1
 obtain⟨cs,hgc⟩:=OwnF.objT o1
 have gf:∀j,W.frozen? ⟨gq,j,none⟩=false:=fun j=>row_free hgc j
 have gl:=row_lt hgc
 have y:=row_cell r1
 have y0:=y 0
 have y1:=y 1
 simp at y0 y1
 have yl:=row_lt r1
 have z:=row_cell rN
 have z0:=z 0
 have z1:=z 1
 simp at z0 z1
 have zl:=row_lt rN
 have B0:=hid b0
 have RR:=hid rR
 have RN':=hid rN
 have R1:=hid r1
 have O1:=hid o1
 have q1:((n:Int)==(rows.length:Int))=false:=by simp;omega
 have q2:decide ((n:Int) < 0)=false:=by simp
 have q3:decide ((rows.length:Int)≤(n:Int))=false:=by simp;omega
 clear y z b0 r1 o1 rR rN hz1 hz2 hr hgc
 refine wp_rN (W.heap.size) [0,0,0,1,0,0,0,1,0,0] (.fin [0,1,2,3,4,5,6,7,8,9]) (by kernel_rfl) ?_
 simp only[wpT,selX,guardAt,sD,sE,sF,sG]
 repeat first|(refine wpL_p fun K hK=>?_;go_simp;refine hK _ _ ?_;clear hK K)|(apply wpL_s;(intro w2 hw2;have hk1:=hw2.cell;have hk3:=hw2.1;clear hw2;go_simp;with_reducible rfl);simp only[Act.put,sA,sB,sC])|refine wpL_nil ?_
 go_wp2_with fail
 refine wp_rN (W.heap.size) [0,0,0,1,0,0,0,1,0,1,3,2] (.fin [0,1,2,3,4,5,6,7,8,9,10,11]) (by kernel_rfl) ?_
 simp only[wpT,selX,guardAt,sD,sE,sF,sG]
 repeat first|(refine wpL_p fun K hK=>?_;go_simp;refine hK _ _ ?_;clear hK K)|(apply wpL_s;(intro w2 hw2;have hk1:=hw2.cell;have hk3:=hw2.1;clear hw2;go_simp;with_reducible rfl);simp only[Act.put,sA,sB,sC])
 refine wpL_k (fun K hK=>?_)
 go_simp
 refine hK _ _ (RN.KeepsN.alloc W.drew.drew _ (Nat.le_refl _)) ?_
 clear hK K
 refine wpL_e (fun K hK=>?_)
 go_simp
 refine hK _ _ ?_
 clear hK K
 repeat refine wpL_nil ?_
 have bX:Below W.heap.size W (W.alloc (.cells #[.int .i64 p,.slice a l c] 181)):=(Below.refl _ W).alloc (Nat.le_refl _) _
 have rX:=row_new W (.cells #[.int .i64 p,.slice a l c] 181)
 have zX:(W.alloc (.cells #[.int .i64 p,.slice a l c] 181)).heap.size=W.heap.size+1:=by simp
 have r1:=row_below R1.out bX yl
 have rR:=row_below RR.out bX (row_lt RR.out)
 have rN:=row_below RN'.out bX (row_lt RN'.out)
 have o1:=OwnF.below O1.out bX
 have gn:gq≠W.heap.size:=by omega
 clear s0 s1 gf gl y0 y1 yl z0 z1 zl
 generalize W.alloc (.cells #[.int .i64 p,.slice a l c] 181)=W4 at *
 have ZX:=hid zX
 have hz5:=HZ.out
 obtain⟨bq,oq,z,hq,-,hz1,hz2⟩:=(OwnF.sl o1).atF NR.len rfl hn
 simp only[Option.some.injEq,Addr.mk.injEq,and_true] at hq
 obtain⟨rfl,rfl⟩:=hq
 have s0:=hz2 0 (by decide)
 have s1:=hz2 1 (by decide)
 simp[NR.cells] at s0 s1
 obtain⟨cs,hgc⟩:=OwnF.objT o1
 have gf:∀j,W4.frozen? ⟨gq,j,none⟩=false:=fun j=>row_free hgc j
 have gl:=row_lt hgc
 have y:=row_cell r1
 have y0:=y 0
 have y1:=y 1
 simp at y0 y1
 have yl:=row_lt r1
 have z:=row_cell rN
 have z0:=z 0
 have z1:=z 1
 simp at z0 z1
 have zl:=row_lt rN
 have R1:=hid r1
 have RR:=hid rR
 have RX:=hid rX
 have O1:=hid o1
 have BX:=hid bX
 have gN:gq≠w.heap.size+1:=by omega
 have gR:gq≠w.heap.size:=by omega
 clear y z hz1 hz2 hgc r1 rR rN rX o1 bX zX hz5
 go_wp2_with fail
 refine wp_rN (W4.heap.size) [0,0,0,1,0,0,0,1,1,0,2] (.fin [0,1,2,3,4,5,6,7,8,9,10]) (by kernel_rfl) ?_
 simp only[wpT,selX,guardAt,sD,sE,sF,sG]
 repeat first|(refine wpL_p fun K hK=>?_;go_simp;refine hK _ _ ?_;clear hK K)|(apply wpL_s;(intro w2 hw2;have hk1:=hw2.cell;have hk3:=hw2.1;clear hw2;go_simp;with_reducible rfl);simp only[Act.put,sA,sB,sC])
 refine wpL_e (fun K hK=>?_)
 go_simp
 refine hK _ _ ?_
 clear hK K
 repeat refine wpL_nil ?_
 have b5:Below w.heap.size w W4:=B0.out.trans (BX.out.mono (by have:=HZ.out;omega))
 have f5:Fr (QS bQ (.slice (some ⟨gq,0,none⟩) rows.length cq)) w ((W4.setCell ⟨gq,n*2,none⟩ (.int .i64 0)).setCell ⟨gq,n*2+1,none⟩ (.slice none 0 0)):=
  ((Fr.below (S:=QS bQ (.slice (some ⟨gq,0,none⟩) rows.length cq)) b5).trans (Fr.setB (S:=QS bQ (.slice (some ⟨gq,0,none⟩) rows.length cq)) (.inr rfl) _ _) fun _ _ e=>e).trans (Fr.setB (S:=QS bQ (.slice (some ⟨gq,0,none⟩) rows.length cq)) (.inr rfl) _ _) fun _ _ e=>e
 have o5:OwnF NR.cells 181 2 ((W4.setCell ⟨gq,n*2,none⟩ (.int .i64 0)).setCell ⟨gq,n*2+1,none⟩ (.slice none 0 0)) B (.slice (some ⟨gq,0,none⟩) rows.length cq) (rows.set n ⟨0,.slice none 0 0⟩):=by
  have:=ownsRow_set (ownsRow_set O1.out (n*2) (.int .i64 0)) (n*2+1) (.slice none 0 0)
  rw[flat_set2 (f:=NR.cells) (a:=.int .i64 0) (b:=.slice none 0 0) NR.len (u:=⟨0,.slice none 0 0⟩) rfl rows n] at this
  unfold OwnF
  rw[List.length_set]
  exact this
 have r1:=row_other (j:=n*2+1) (v:=.slice none 0 0) (row_other (j:=n*2) (v:=.int .i64 0) R1.out ne) ne
 have rR:=row_other (j:=n*2+1) (v:=.slice none 0 0) (row_other (j:=n*2) (v:=.int .i64 0) RR.out gR) gR
 have rX:=row_other (j:=n*2+1) (v:=.slice none 0 0) (row_other (j:=n*2) (v:=.int .i64 0) RX.out gn) gn
 have z5:((W4.setCell ⟨gq,n*2,none⟩ (.int .i64 0)).setCell ⟨gq,n*2+1,none⟩ (.slice none 0 0)).heap.size=W4.heap.size:=by simp
 generalize (W4.setCell ⟨gq,n*2,none⟩ (.int .i64 0)).setCell ⟨gq,n*2+1,none⟩ (.slice none 0 0)=W5 at *
 clear s0 s1 gf gl y0 y1 yl z0 z1 zl
 have Z5:=hid z5
 have F5:=hid f5
 have O5:=hid o5
 have RR:=hid rR
 have RX:=hid rX
 have y:=row_cell r1
 have y0:=y 0
 have y1:=y 1
 simp at y0 y1
 have yl:=row_lt r1
 have yf:=row_free r1 1
 have R1:=hid r1
 clear y z5 f5 o5 rR rX r1 q1 q2 q3 b5
 go_wp2_with fail
 have f6:=F5.out.trans (Fr.setB (S:=QS bQ (.slice (some ⟨gq,0,none⟩) rows.length cq)) (g:=bQ) (.inl rfl) 1 (.int .i64 ((n:Int)+1))) fun _ _ e=>e
 have o6:=OwnF.other (g:=bQ) (j:=1) O5.out (fun e=>ne (by simpa[Value.ownBlock] using e)) (.int .i64 ((n:Int)+1))
 have neR:bQ≠w.heap.size:=by omega
 have neX:bQ≠W.heap.size:=by have:=HZ.out;omega
 have r6:=row_set R1.out 1 (.int .i64 ((n:Int)+1))
 have rR:=row_other (j:=1) (v:=.int .i64 ((n:Int)+1)) RR.out neR
 have rX:=row_other (j:=1) (v:=.int .i64 ((n:Int)+1)) RX.out neX
 generalize W5.setCell ⟨bQ,1,none⟩ (.int .i64 ((n:Int)+1))=W6 at *
 have y:=row_cell r6
 have y0:=y 0
 have y1:=y 1
 simp at y0 y1
 have yl:=row_lt r6
 have yf:=fun j=>row_free r6 j
 have x:=row_cell rX
 have x0:=x 0
 have x1:=x 1
 simp at x0 x1
 have xl:=row_lt rX
 have zl:=row_lt rR
 have zf:=fun j=>row_free rR j
 have z:=row_cell rR
 have z0:=z 0
 have z1:=z 1
 simp at z0 z1
 have F6:=hid f6
 have O6:=hid o6
 have R6:=hid r6
 have RR6:=hid rR
 have RX6:=hid rX
 clear y x z f6 o6 r6 rR rX R1 O5 F5 RR RX
 by_cases e:n+1=rows.length
 ·have q:((n:Int)+1==(rows.length:Int))=true:=by simp;omega
  refine wp_rN (W6.heap.size) [0,0,0,1,0,0,0,1,0,0] (.fin [0,1,2,3,4,5,6,7,8,9]) (by kernel_rfl) ?_
  simp only[wpT,selX,guardAt,sD,sE,sF,sG]
  repeat first|(refine wpL_p fun K hK=>?_;go_simp;refine hK _ _ ?_;clear hK K)|(apply wpL_s;(intro w2 hw2;have hk1:=hw2.cell;have hk3:=hw2.1;clear hw2;go_simp;with_reducible rfl);simp only[Act.put,sA,sB,sC])|refine wpL_nil ?_
  go_wp2_with fail
  have F7:=((F6.out.drew.drew.drew.drew).trans (Fr.setB (S:=QS bQ (.slice (some ⟨gq,0,none⟩) rows.length cq)) (g:=bQ) (.inl rfl) 0 (.slice none 0 0)) fun _ _ e=>e).trans (Fr.setB (S:=QS bQ (.slice (some ⟨gq,0,none⟩) rows.length cq)) (g:=bQ) (.inl rfl) 1 (.int .i64 0)) fun _ _ e=>e
  have RR7:=row_other (j:=1) (v:=.int .i64 0) (row_other (j:=0) (v:=.slice none 0 0) RR6.out neR) neR
  have R7:=row_set (row_set R6.out 0 (.slice none 0 0)) 1 (.int .i64 0)
  have rF:=row_set (row_set RR7 0 (.int .i64 (p:Nat))) 1 (.slice a l c)
  have cc:=row_cell rF
  have c0:=cc 0
  have c1:=cc 1
  simp at c0 c1
  refine bodyPost_ret (v:=.tuple #[.agg #[.int .i64 (p:Nat),.slice a l c],.bool true]) (by simp[results,Tryz.results95,go_sem,c0,c1]) rfl ?_
  have fin:Fr (QS bQ (.slice (some ⟨gq,0,none⟩) rows.length cq)) w ((((W6.drew.drew.drew.drew.setCell ⟨bQ,0,none⟩ (.slice none 0 0)).setCell ⟨bQ,1,none⟩ (.int .i64 0)).setCell ⟨w.heap.size,0,none⟩ (.int .i64 (p:Nat))).setCell ⟨w.heap.size,1,none⟩ (.slice a l c)):=
   (F7.trans (Fr.setB (S:=fun k=>k=w.heap.size) (g:=w.heap.size) rfl 0 (.int .i64 (p:Nat))) fun b hb e=>absurd e (Nat.ne_of_lt hb)).trans (Fr.setB (S:=fun k=>k=w.heap.size) (g:=w.heap.size) rfl 1 (.slice a l c)) fun b hb e=>absurd e (Nat.ne_of_lt hb)
  have neO:(Value.slice (some ⟨gq,0,none⟩) rows.length cq).ownBlock≠some w.heap.size:=fun e=>gR (by simpa[Value.ownBlock] using e)
  refine⟨rfl,.slice none 0 0,[],0,⟨?_,OwnF.nil _ _,by simp,h.hB⟩,by simp[e],by simp,fin,fun k e=>by cases e⟩
  have:=row_other (j:=1) (v:=.slice a l c) (row_other (j:=0) (v:=.int .i64 (p:Nat)) R7 neR.symm) neR.symm
  simp at this ⊢
  exact this
 ·have q:((n:Int)+1==(rows.length:Int))=false:=by simp;omega
  refine wp_rN (W6.heap.size) [0,0,0,1,0,0,0,1,0,0] (.fin [0,1,2,3,4,5,6,7,8,9]) (by kernel_rfl) ?_
  simp only[wpT,selX,guardAt,sD,sE,sF,sG]
  repeat first|(refine wpL_p fun K hK=>?_;go_simp;refine hK _ _ ?_;clear hK K)|(apply wpL_s;(intro w2 hw2;have hk1:=hw2.cell;have hk3:=hw2.1;clear hw2;go_simp;with_reducible rfl);simp only[Act.put,sA,sB,sC])|refine wpL_nil ?_
  go_wp2_with fail
  have F7:=F6.out.drew.drew.drew.drew
  have RR7:=RR6.out
  have rF:=row_set (row_set RR7 0 (.int .i64 (p:Nat))) 1 (.slice a l c)
  have cc:=row_cell rF
  have c0:=cc 0
  have c1:=cc 1
  simp at c0 c1
  refine bodyPost_ret (v:=.tuple #[.agg #[.int .i64 (p:Nat),.slice a l c],.bool true]) (by simp[results,Tryz.results95,go_sem,c0,c1]) rfl ?_
  have fin:Fr (QS bQ (.slice (some ⟨gq,0,none⟩) rows.length cq)) w (((W6.drew.drew.drew.drew).setCell ⟨w.heap.size,0,none⟩ (.int .i64 (p:Nat))).setCell ⟨w.heap.size,1,none⟩ (.slice a l c)):=
   (F7.trans (Fr.setB (S:=fun k=>k=w.heap.size) (g:=w.heap.size) rfl 0 (.int .i64 (p:Nat))) fun b hb e=>absurd e (Nat.ne_of_lt hb)).trans (Fr.setB (S:=fun k=>k=w.heap.size) (g:=w.heap.size) rfl 1 (.slice a l c)) fun b hb e=>absurd e (Nat.ne_of_lt hb)
  have neO:(Value.slice (some ⟨gq,0,none⟩) rows.length cq).ownBlock≠some w.heap.size:=fun e=>gR (by simpa[Value.ownBlock] using e)
  refine⟨rfl,_,rows.set n ⟨0,.slice none 0 0⟩,n+1,⟨?_,?_,by simp;omega,h.hB⟩,?_,by simp,fin,fun k e=>e⟩
  ·have:=row_other (j:=1) (v:=.slice a l c) (row_other (j:=0) (v:=.int .i64 (p:Nat)) R6.out neR.symm) neR.symm
   simp at this ⊢
   exact this
  ·exact OwnF.other (j:=1) (OwnF.other (j:=0) O6.out neO (.int .i64 (p:Nat))) neO (.slice a l c)
  ·rw [List.drop_set_of_lt (by omega)]
end
structure KeepIn (lo hb:Nat) (A B:World):Prop where
 size:A.heap.size≤B.heap.size
 block:∀k,lo≤k→k < hb→B.heap[k]?=A.heap[k]?
def Iter (P:Program) (gf m:Nat) (H:Nat→World→Nat→Array Value→Prop) (N:Nat):Prop:=
 ∀(l:Nat) (J Jx:Nat→World→Prop) (W:World),(∀i A B,J i A→W.heap.size≤A.heap.size→Below A.heap.size A B→J i B)→
  (∀(i:Nat) (W1:World) (hb:Nat) (args:Array Value),i < N→J i W1→W.heap.size≤hb→hb≤W1.heap.size→H i W1 hb args→
   YieldAt Fence.wide m P l args W1 fun e W'=>(e=.returned (.bool true)∧J (i+1) W'∧KeepIn W.heap.size hb W1 W')∨(e=.returned (.bool false)∧Jx (i+1) W'))→
  J 0 W→
  CallsIn Fence.wide (m+1) P gf #[.func (.yield l) #[] #[]] W fun e W'=>(∃v,e=.returned v)∧(J N W'∨∃i,0 < i∧i≤N∧Jx i W')
def mark (D:Nat):Deferred:={target:=.collected D,args:=#[]}
def roundQ (lo hb:Nat) (I:Nat→World→Prop) (Ix:Code→Nat→World→Prop) (i:Nat) (W:World):Exit→Act→World→Prop
 |.normal,_,W'=>I i W'∧KeepIn lo hb W W'
 |.ret,_,W'=>Ix .ret i W'∧KeepIn lo hb W W'
 |.exit id,_,W'=>Ix (.exit id) i W'∧KeepIn lo hb W W'
 |.goto t,_,W'=>Ix (.goto t) i W'∧KeepIn lo hb W W'
 |.panic _,_,_=>False
 |.outgrown,_,_=>False
theorem below_put {B:Nat} (W:World) (l:Nat) (o:Obj) (hl:B≤l) (h:l < W.heap.size):Below B W (W.putObj l o):=
 (Below.refl B W).grown (grownBy_putObj' W l o) (by omega) (fun k e=>by cases e;omega)
theorem wpIn_range_own {P:Program} {m gf N:Nat} {H:Nat→World→Nat→Array Value→Prop} {g:Operand} {ps:Array Tmp} {assign body:Code} {Q:Exit→Act→World→Prop} {a:Act} {w:World}
  (hg:a.eval g=.func (.func gf) #[] #[]) (eg:∀args w,(callFunc gf args).run P w=.ok (.enter gf args) w) (hit:Iter P gf m H N) (hps:∀i W hb args,H i W hb args→args.size=ps.size)
  (I:Nat→World→Prop) (Ix:Code→Nat→World→Prop) (hI:∀i A B,I i A→w.heap.size≤A.heap.size→Below w.heap.size A B→I i B) (hIx:∀c i A B,Ix c i A→w.heap.size≤A.heap.size→Below w.heap.size A B→Ix c i B)
  (h0:I 0 w)
  (hround:∀(i:Nat) (W1:World) (hb:Nat) (args:Array Value),i < N→I i W1→w.heap.size+2≤hb→hb≤W1.heap.size→H i W1 hb args→
   assign.wpIn (Fence.wide.inRound (w.heap.size+1)) m P (Exit.then (fun a₁ w₁=>Below W1.heap.size W1 w₁∧∀w₂,w₂.heap.size=w₁.heap.size→(∀k,k≠w.heap.size+1→w₂.heap[k]?=w₁.heap[k]?)→Below w.heap.size w₁ w₂→
    body.wpIn (Fence.wide.inRound (w.heap.size+1)) m P (roundQ w.heap.size hb I Ix (i+1) w₂) a₁ w₂) (fun _ _ _=>False))
    {tmps:=(ps.zip args).foldl (fun t (p,v)=>t.setIfInBounds p v) a.tmps,defers:=[]} W1)
  (hdone:∀(W:World),I N W→w.heap.size+2≤W.heap.size→W.heap[w.heap.size]?=some (.deferred (some []))→Q .normal {a with defers:=mark w.heap.size::a.defers} W)
  (hstop:∀(c:Code) (i:Nat) (W:World),0 < i→i≤N→Ix c i W→w.heap.size+2≤W.heap.size→W.heap[w.heap.size]?=some (.deferred (some []))→c.wpIn Fence.wide (m+2) P Q {a with defers:=mark w.heap.size::a.defers} W):
  (Code.rangeFunc g ps assign body).wpIn Fence.wide (m+2) P Q a w:=by
 refine wpIn_rangeFunc ?_
 intro fn hfn
 obtain⟨rc,hrc⟩:∃rc:LoopState→Option Code→Loop,rc=fun st pe=>{state:=st,pending:=pe,fn,tmps:=a.tmps,params:=ps,assign,body,defers:=w.heap.size}:=⟨_,rfl⟩
 obtain⟨W0,hW0⟩:∃W0,(w.alloc (.deferred (some []))).alloc (.loop (rc .ready none))=W0:=⟨_,rfl⟩
 have s0:W0.heap.size=w.heap.size+2:=by rw[←hW0];simp
 have l0:W0.heap[w.heap.size+1]?=some (.loop (rc .ready none)):=by
  rw[←hW0];have:=World.alloc_heap_new (w.alloc (.deferred (some []))) (.loop (rc .ready none));rwa [World.size_alloc] at this
 have d0:W0.heap[w.heap.size]?=some (.deferred (some [])):=by
  rw[←hW0];exact(Below.heap_alloc _ _ _ (by simp)).trans (World.alloc_heap_new w _)
 have b0:Below w.heap.size w W0:=by rw[←hW0];exact((Below.refl _ w).alloc (Nat.le_refl _) _).alloc (by simp) _
 refine⟨w.heap.size+1,[mark w.heap.size],W0,{target:=.fn (.func gf) #[],args:=#[.func (.yield (w.heap.size+1)) #[] #[]]},W0,gf,#[.func (.yield (w.heap.size+1)) #[] #[]],W0,?_,?_,?_,?_,fun _=>by omega,?_⟩
 ·rw [←hW0,hrc];exact run_enterLoop_outer _ _ _ _ _
 ·simp only[resolve,hg]
  simp[go_sem]
 ·exact fun _ _=>trivial
 ·simp [invoke,go_sem,eg]
 ·have hK:∀{A B:World},Below A.heap.size A B→w.heap.size+2≤A.heap.size→∀{k:Nat} {o:Obj},k < w.heap.size+2→A.heap[k]?=some o→B.heap[k]?=some o:=
   fun hb hs k o hk h=>(hb.block k (by omega)).trans h
  refine CallsIn.mono (hit (w.heap.size+1)
   (fun i W=>I i W∧w.heap.size+2≤W.heap.size∧W.heap[w.heap.size+1]?=some (.loop (rc .ready none))∧W.heap[w.heap.size]?=some (.deferred (some [])))
   (fun i W=>∃c,Ix c i W∧w.heap.size+2≤W.heap.size∧W.heap[w.heap.size+1]?=some (.loop (rc .done (some c)))∧W.heap[w.heap.size]?=some (.deferred (some [])))
   W0 ?_ ?_ ⟨hI _ _ _ h0 (Nat.le_refl _) b0,by omega,l0,d0⟩) ?_
  ·rintro i A B ⟨h1,h2,h3,h4⟩ hs hb
   exact⟨hI _ _ _ h1 (by omega) (hb.mono (by omega)),by have:=hb.size;omega,hK hb h2 (by omega) h3,hK hb h2 (by omega) h4⟩
  ·rintro i W1 hb args hi ⟨h1,h2,h3,h4⟩ hlo hhi hH
   have hlt:w.heap.size+1 < W1.heap.size:=by omega
   have hy:=run_yield (P:=P) (args:=args) h3 (by rw[hrc];exact hps _ _ _ _ hH)
   rw[hrc] at hy
   refine⟨fn,_,assign,body,hy,roundIn_of_wpIn hfn ?_⟩
   refine wpIn_mono (hround i W1 hb args hi h1 (by omega) hhi hH) ?_
   intro e a1 w1 he
   cases e with
   |normal=>
    obtain⟨hb1,hbody⟩:=he
    have sz1:=hb1.size
    have r1:w1.heap[w.heap.size+1]?=some (.loop (rc .ready none)):=hK hb1 h2 (by omega) h3
    have r2:w1.heap[w.heap.size]?=some (.deferred (some [])):=hK hb1 h2 (by omega) h4
    refine⟨_,run_beginRound r1 (by rw[hrc]),?_⟩
    obtain⟨w2,hw2⟩:∃w2,w1.putObj (w.heap.size+1) (.loop {rc .ready none with state:=.busy})=w2:=⟨_,rfl⟩
    have q1:w2.heap[w.heap.size+1]?=some (.loop {rc .ready none with state:=.busy}):=by rw[←hw2];exact World.putObj_heap_same (by omega)
    have q2:∀k,k≠w.heap.size+1→w2.heap[k]?=w1.heap[k]?:=fun k hk=>by rw[←hw2];exact World.putObj_heap_other hk
    have q3:w2.heap.size=w1.heap.size:=by rw[←hw2];simp[World.putObj]
    have q4:Below w.heap.size w1 w2:=by rw[←hw2];exact below_put w1 _ _ (by omega) (by omega)
    have q5:=(q2 w.heap.size (by omega)).trans r2
    rw[hw2]
    refine wpIn_mono (hbody w2 q3 q2 q4) ?_
    have fin:∀(jump:Option Code) (W3:World),KeepIn w.heap.size hb w2 W3→
      (Instr.endRound (w.heap.size+1) jump).run P W3=.ok (.bool jump.isNone) (W3.putObj (w.heap.size+1) (.loop (rc (if jump.isNone then .ready else .done) jump)))∧
      w.heap.size+2≤W3.heap.size∧Below w.heap.size W3 (W3.putObj (w.heap.size+1) (.loop (rc (if jump.isNone then .ready else .done) jump)))∧
      (W3.putObj (w.heap.size+1) (.loop (rc (if jump.isNone then .ready else .done) jump))).heap[w.heap.size+1]?=some (.loop (rc (if jump.isNone then .ready else .done) jump))∧
      (W3.putObj (w.heap.size+1) (.loop (rc (if jump.isNone then .ready else .done) jump))).heap[w.heap.size]?=some (.deferred (some [])):=fun jump W3 hk3=>by
     have t1:W3.heap[w.heap.size+1]?=some (.loop {rc .ready none with state:=.busy}):=(hk3.block _ (by omega) (by omega)).trans q1
     have t2:W3.heap[w.heap.size]?=some (.deferred (some [])):=(hk3.block _ (by omega) (by omega)).trans q5
     have t3:=hk3.size
     have t4:=run_endRound (P:=P) jump t1
     rw[hrc] at t4 ⊢
     exact⟨t4,by omega,below_put W3 _ _ (by omega) (by omega),World.putObj_heap_same (by omega),(World.putObj_heap_other (by omega)).trans t2⟩
    have keep:∀(W3:World) (o:Obj),KeepIn w.heap.size hb w2 W3→(W3.putObj (w.heap.size+1) (.loop (rc .ready none))).heap.size=W3.heap.size→
      KeepIn W0.heap.size hb W1 (W3.putObj (w.heap.size+1) (.loop (rc .ready none))):=fun W3 o hk hs=>by
     refine⟨by rw[hs];have:=hk.size;omega,fun k hk1 hk2=>?_⟩
     rw[s0] at hk1
     rw[World.putObj_heap_other (by omega),hk.block k (by omega) hk2,q2 k (by omega),hb1.block k (by omega)]
    rintro e a3 W3 hp
    cases e with
    |normal=>
     obtain⟨hi3,hk3⟩:=hp
     obtain⟨hr,f1,f2,f3,f4⟩:=fin none W3 hk3
     exact⟨_,_,hr,.inl ⟨rfl,⟨hI _ _ _ hi3 (by omega) f2,by simp[World.putObj];omega,f3,f4⟩,keep W3 (.deferred none) hk3 (by simp[World.putObj])⟩⟩
    |ret=>
     obtain⟨hi3,hk3⟩:=hp
     obtain⟨hr,f1,f2,f3,f4⟩:=fin (some .ret) W3 hk3
     exact⟨_,_,hr,.inr ⟨rfl,_,hIx _ _ _ _ hi3 (by omega) f2,by simp[World.putObj];omega,f3,f4⟩⟩
    |exit id=>
     obtain⟨hi3,hk3⟩:=hp
     obtain⟨hr,f1,f2,f3,f4⟩:=fin (some (.exit id)) W3 hk3
     exact⟨_,_,hr,.inr ⟨rfl,_,hIx _ _ _ _ hi3 (by omega) f2,by simp[World.putObj];omega,f3,f4⟩⟩
    |goto t=>
     obtain⟨hi3,hk3⟩:=hp
     obtain⟨hr,f1,f2,f3,f4⟩:=fin (some (.goto t)) W3 hk3
     exact⟨_,_,hr,.inr ⟨rfl,_,hIx _ _ _ _ hi3 (by omega) f2,by simp[World.putObj];omega,f3,f4⟩⟩
    |panic ch=>exact hp.elim
    |outgrown=>exact hp.elim
   |ret=>exact he.elim
   |exit id=>exact he.elim
   |goto t=>exact he.elim
   |panic ch=>exact he.elim
   |outgrown=>exact he.elim
  ·rintro e W2 ⟨⟨v,rfl⟩,(⟨h1,h2,h3,h4⟩|⟨i,hi0,hi1,c,h1,h2,h3,h4⟩)⟩
   ·exact ⟨none,_,by have:=run_endLoop (P:=P) h3 (by rw[hrc];simp);rw[hrc] at this;exact this,
     hdone _ (hI _ _ _ h1 (by omega) (below_put W2 _ _ (by omega) (by omega))) (by simp[World.putObj];omega) ((World.putObj_heap_other (by omega)).trans h4)⟩
   ·exact ⟨some c,_,by have:=run_endLoop (P:=P) h3 (by rw[hrc];simp);rw[hrc] at this;exact this,
     hstop c i _ hi0 hi1 (hIx _ _ _ _ h1 (by omega) (below_put W2 _ _ (by omega) (by omega))) (by simp[World.putObj];omega) ((World.putObj_heap_other (by omega)).trans h4)⟩
def Marks (base:Nat) (Ds:List Nat) (w:World):Prop:=Ds.Nodup∧∀D ∈ Ds,base≤D∧w.heap[D]?=some (.deferred (some []))
theorem leaves_marks {F:Fence} {n:Nat} {P:Program} {fn:Func} {tmps:Array Value} {R:Ending→World→Prop} {base:Nat}:∀(Ds:List Nat) (w:World),Marks base Ds w→
  (∀w',Below base w w'→LeavesIn F n P fn tmps R [] .returning w')→LeavesInM F n P fn tmps R (Ds.map mark) .returning w
 |[],w,_,h=>h w (Below.refl _ _)
 |D::Ds,w,hM,h=>by
  obtain⟨hn,hM⟩:=hM
  rw[List.nodup_cons] at hn
  obtain⟨hb,hd⟩:=hM D (by simp)
  have hlt:D < w.heap.size:=(Array.getElem?_eq_some_iff.1 hd).1
  refine⟨by simp,.inl ⟨D,_,rfl,run_takeDeferred hd,leaves_marks Ds _ ⟨hn.2,fun E hE=>⟨(hM E (by simp[hE])).1,?_⟩⟩ (fun w' hb'=>h w' ((below_put w D _ hb hlt).trans hb'))⟩⟩
  have hne:E≠D:=fun e=>hn.1 (e▸hE)
  exact(World.putObj_heap_other (by omega)).trans (hM E (by simp[hE])).2
