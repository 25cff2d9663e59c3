/- Parts of the proof. Conditions: those of each theorem, as typed. -/
import Derived.Test.YtcpfbphcldocpaaGreatDoorQW14
import Derived.Test.YtcpfbphcldocpaaGreatDoorQW01
import Derived.OrdersIn
import Derived.TacticsIn
import Derived.RangeFuncCalls
import Derived.RangeFuncIn
set_option linter.unusedVariables false
set_option linter.unusedSimpArgs false
set_option linter.unusedSectionVars false
set_option maxRecDepth 100000
set_option maxHeartbeats 4000000
namespace Go.Proofs.YtcpfbphcldocpaaGreatDoor
open Go.Maps Go.RowKit
section
attribute [local irreducible] xE
theorem qgQ (m most:Nat) (w:World) (hm:most<=70000):Calls Tryz.prog 94 #[.int .i64 most] w fun e w'=>
  e=.returned (.pointer (some ⟨w.heap.size+1,0,none⟩))/\uN m w' w.heap.size (w.heap.size+1) w.heap.size most (.slice none 0 0) []/\Below w.heap.size w w':=by
 have hmk:∀X:World,Sem.run Tryz.prog (Instr.makeMap 276 none) X=.ok (.map (some X.heap.size)) (X.alloc (.map #[] 0)):=fun X=>by kernel_rfl
 have q:max (most:Int) 0=most:=by omega
 go_enter Tryz.func94,Tryz.ntmps94;go_wp2_with fail;go_ret;refine⟨rfl,⟨by have:=qy (w.alloc (.map #[] 0)) (.cells #[.int .i64 (most:Nat),.map (some w.heap.size),.slice none 0 0] 279);simpa using this,⟨_,(xI.made (qy w (.map #[] 0))).below ((Below.refl (w.heap.size+1) _).alloc (by simp) _) (Nat.lt_succ_self _),by simp,by simp⟩,qj.nil _ _,by simp,by simp⟩,((Below.refl _ w).alloc (Nat.le_refl _) _).alloc (by simp) _⟩
structure jK (w:World) (B bQ:Nat) (qv:Value) (rows:List NR) (n:Nat):Prop where
 row:w.heap[bQ]?=some (.cells #[qv,.int .i64 n] 204 (0,0))
 own:qj NR.cells 206 2 w B qv rows
 le:n<=rows.length
 hB:B<=bQ
def QS (bQ:Nat) (qv:Value) (k:Nat):Prop:=k=bQ\/qv.ownBlock=some k
theorem jK.fr {S:Nat->Prop} {w w':World} {B bQ n:Nat} {qv:Value} {rows:List NR} (h:jK w B bQ qv rows n) (hk:Fr S w w') (hn:∀k,QS bQ qv k->¬S k):jK w' B bQ qv rows n:=
 ⟨hk.row h.row (hn _ (.inl rfl)),qj.fr h.own hk fun k e=>hn k (.inr e),h.le,h.hB⟩
theorem qgP {w:World} {B bQ n:Nat} {qv:Value} {rows:List NR} (h:jK w B bQ qv rows n) (hB:B<=w.heap.size) (hl:rows.length<=70000) (p:Nat) (a:Option Addr) (l c:Nat):
  Calls Tryz.prog 98 #[.pointer (some ⟨bQ,0,none⟩),.agg #[.int .i64 p,.slice a l c]] w fun e w'=>e=.returned (.tuple #[])/\
   ∃qv',jK w' B bQ qv' (rows++[⟨p,.slice a l c⟩]) n/\Fr (QS bQ qv) w w'/\∀k,qv'.ownBlock=some k->qv.ownBlock=some k\/w.heap.size<=k:=by
 have b0:Below w.heap.size w (w.alloc (.cells #[.int .i64 p,.slice a l c] 206)):=(Below.refl _ w).alloc (Nat.le_refl _) _;have r0:=qy w (.cells #[.int .i64 p,.slice a l c] 206);have r1:=qp h.row b0 (qd h.row);have o1:=qj.below h.own b0;have hlQ:=qd h.row;have hz:(w.alloc (.cells #[.int .i64 p,.slice a l c] 206)).heap.size=w.heap.size+1:=by simp
 go_enter Tryz.func98,Tryz.ntmps98;go_wp2_with fail;generalize w.alloc (.cells #[.int .i64 p,.slice a l c] 206)=W at *;obtain⟨aq,cq,rfl,-⟩:=(qj.sl o1).ex;have y:=qa r1;have y0:=y 0;have y1:=y 1;simp at y0 y1;have yl:=qd r1;have z:=qa r0;have z0:=z 0;have z1:=z 1;simp at z0 z1;have zl:=qd r0;have hBW:B<=W.heap.size:=by omega
 have B0:=qh b0;clear y z b0 r0 hz;refine qI (W.heap.size) [0,0,0,0,1,1,3,2,0,0,2] (.fin [0,1,2,3,4,5,6,7,8,9,10]) (by kernel_rfl) ?_;simp only[xi,qP,qA,sD,sE,sF,sG]
 repeat first|(refine qz fun K hK=>?_;go_simp;refine hK _ _ ?_;clear hK K)|(apply qC;(intro w2 hw2;have hk1:=hw2.cell;have hk3:=hw2.1;clear hw2;go_simp;with_reducible rfl);simp only[Act.put,sA,sB,sC])
 refine qG (fun K hK=>?_);go_simp;refine hK _ _ (RN.KeepsN.alloc W.drew _ (Nat.le_refl _)) ?_;clear hK K;refine qM (fun K hK=>?_);rw[uz];refine ui _ _ _ rfl _ 32 Tryz.underlying202 qcj rfl o1.drew (NR.mk p (.slice a l c)) (show B<=W.drew.heap.size from hBW) (by rfl) (by rfl) (by first|rfl|simp) rfl (qbK _) (by first|omega|(simp only[List.length_append,List.length_cons,List.length_nil,List.length_replicate];omega)) (by first|omega|(simp only[List.length_append,List.length_cons,List.length_nil,List.length_replicate];omega)) ?_;intro g1 c1 w3 o3 G3;refine hK _ _ ?_;clear hK K;have ne:(Value.slice aq rows.length cq).ownBlock≠some bQ:=qj.neT o1 r1 (by decide);have r3:w3.heap[bQ]?=some _:=qL (w:=W.drew) r1 G3 ne;have y:=qa r3;have y0:=y 0;simp at y0;have yf:=qB r3 0;have yl3:=qd r3;have oF:=qh (qj.other (j:=0) o3 (qj.neT o3 r3 (by decide)) (.slice (some ⟨g1,0,none⟩) (rows.length+1) c1));have rF:=qh (qq r3 0 (.slice (some ⟨g1,0,none⟩) (rows.length+1) c1));have f3:Fr (QS bQ (.slice aq rows.length cq)) W w3:=(Fr.refl W).drew.trans (Fr.grw (w:=W.drew) G3) fun k _ e=>Or.inr e;have fF:=qh (((Fr.below (S:=QS bQ (.slice aq rows.length cq)) B0.o).trans f3 fun _ _ e=>e).trans (Fr.setB (S:=QS bQ (.slice aq rows.length cq)) (.inl rfl) 0 (.slice (some ⟨g1,0,none⟩) (rows.length+1) c1)) fun _ _ e=>e);have own:=qh G3.own;clear y y1 o1 r1 o3 r3 f3 G3 ne
 repeat (refine qz fun K hK=>?_;go_simp;refine hK _ _ ?_;clear hK K)
 refine qM (fun K hK=>?_);go_simp;refine hK _ _ ?_;clear hK K
 repeat refine qu ?_
 go_wp2_with fail;refine bodyPost_end (v:=.tuple #[]) (by simp[results,Tryz.results98,go_sem]) rfl ?_;refine⟨rfl,_,⟨by simpa using rF.o,by simpa using oF.o,by have:=h.le;simp;omega,h.hB⟩,fF.o,fun k e=>?_⟩;rcases own.o k e with e|e
 ·exact .inl e
 ·exact .inr (Nat.le_trans B0.o.size e)
theorem Na {w:World} {B bQ n:Nat} {qv:Value} {rows:List NR} (h:jK w B bQ qv rows n) (hn:n=rows.length) (hl:rows.length<=70000):
  Calls Tryz.prog 99 #[.pointer (some ⟨bQ,0,none⟩)] w fun e w'=>e=.returned (.tuple #[.agg #[.int .i64 0,.slice none 0 0],.bool false])/\Below w.heap.size w w':=by
 subst hn;have b0:Below w.heap.size w ((w.alloc (.cells #[.int .i64 0,.slice none 0 0] 206)).alloc (.cells #[.int .i64 0,.slice none 0 0] 206)):=((Below.refl _ w).alloc (Nat.le_refl _) _).alloc (by simp) _;have rR:=qD (o:=.cells #[.int .i64 0,.slice none 0 0] 206) (qy w (.cells #[.int .i64 0,.slice none 0 0] 206));have rN:=qy (w.alloc (.cells #[.int .i64 0,.slice none 0 0] 206)) (.cells #[.int .i64 0,.slice none 0 0] 206);simp only[World.size_alloc] at rN;have r1:=qp h.row b0 (qd h.row);have o1:=qj.below h.own b0;go_enter Tryz.func99,Tryz.ntmps99;go_wp2_with fail;generalize (w.alloc (.cells #[.int .i64 0,.slice none 0 0] 206)).alloc (.cells #[.int .i64 0,.slice none 0 0] 206)=W at *;obtain⟨aq,cq,rfl,-⟩:=(qj.sl o1).ex;have y:=qa r1;have y0:=y 0;have y1:=y 1;simp at y0 y1;have yl:=qd r1;have z:=qa rN;have z0:=z 0;have z1:=z 1;have x:=qa rR;have x0:=x 0;have x1:=x 1;simp at z0 z1 x0 x1;have zl:=qd rN;have xl:=qd rR;have xf:=fun j=>qB rR j;have B0:=qh b0;have RR:=qh rR;clear x y z b0 r1 o1 rR rN;refine qI (W.heap.size) [0,0,0,1,0,0,0,1,0,0] (.fin [0,1,2,3,4,5,6,7,8,9]) (by kernel_rfl) ?_;simp only[xi,qP,qA,sD,sE,sF,sG]
 repeat first|(refine qz fun K hK=>?_;go_simp;refine hK _ _ ?_;clear hK K)|(apply qC;(intro w2 hw2;have hk1:=hw2.cell;have hk3:=hw2.1;clear hw2;go_simp;with_reducible rfl);simp only[Act.put,sA,sB,sC])|refine qu ?_
 go_wp2_with fail;have rF:=qq (qq RR.o 0 (.int .i64 0)) 1 (.slice none 0 0);have c:=qa rF;have c0:=c 0;have c1:=c 1;simp at c0 c1;refine bodyPost_ret (v:=.tuple #[.agg #[.int .i64 0,.slice none 0 0],.bool false]) (by simp[results,Tryz.results99,go_sem,c0,c1]) rfl ?_;exact⟨rfl,(B0.o.drew.setCell (p:=⟨w.heap.size,0,none⟩) (Nat.le_refl _) _).setCell (p:=⟨w.heap.size,1,none⟩) (Nat.le_refl _) _⟩
theorem qfM {w:World} {B bQ n:Nat} {qv:Value} {rows:List NR} (h:jK w B bQ qv rows n) (hB:B<=w.heap.size) (hl:rows.length<=70000) {r:NR} (hr:rows[n]?=some r) {a:Option Addr} {l c:Nat} (hs:r.sv=.slice a l c):
  Calls Tryz.prog 99 #[.pointer (some ⟨bQ,0,none⟩)] w fun e w'=>e=.returned (.tuple #[r.val,.bool true])/\
   ∃qv' rows' n',jK w' B bQ qv' rows' n'/\rows'.drop n'=rows.drop (n+1)/\rows'.length<=rows.length/\Fr (QS bQ qv) w w'/\∀k,qv'.ownBlock=some k->qv.ownBlock=some k:=by
 obtain⟨p,sv⟩:=r;simp only at hs;subst hs;have hn:n < rows.length:=(List.getElem?_eq_some_iff.1 hr).1;have b0:Below w.heap.size w ((w.alloc (.cells #[.int .i64 0,.slice none 0 0] 206)).alloc (.cells #[.int .i64 0,.slice none 0 0] 206)):=((Below.refl _ w).alloc (Nat.le_refl _) _).alloc (by simp) _;have rR:=qD (o:=.cells #[.int .i64 0,.slice none 0 0] 206) (qy w (.cells #[.int .i64 0,.slice none 0 0] 206));have rN:=qy (w.alloc (.cells #[.int .i64 0,.slice none 0 0] 206)) (.cells #[.int .i64 0,.slice none 0 0] 206);simp only[World.size_alloc] at rN;have r1:=qp h.row b0 (qd h.row);have o1:=qj.below h.own b0;have hz:((w.alloc (.cells #[.int .i64 0,.slice none 0 0] 206)).alloc (.cells #[.int .i64 0,.slice none 0 0] 206)).heap.size=w.heap.size+2:=by simp
 obtain⟨gq,cq,rfl,hBg,hgl⟩:=(qj.form h.own).resolve_left (fun h=>by rw[h.2] at hn;simp at hn);have ne:gq≠bQ:=fun e=>qj.neT h.own h.row (by decide) (by rw[e];rfl);have hlQ:=qd h.row;have HZ:=qh hz;clear hz;go_enter Tryz.func99,Tryz.ntmps99;go_wp2_with fail;generalize (w.alloc (.cells #[.int .i64 0,.slice none 0 0] 206)).alloc (.cells #[.int .i64 0,.slice none 0 0] 206)=W at *;obtain⟨bq,oq,z,hq,-,hz1,hz2⟩:=(qj.sl o1).atF NR.len rfl hn;simp only[Option.some.injEq,Addr.mk.injEq,and_true] at hq;obtain⟨rfl,rfl⟩:=hq;rw[hr] at hz1;obtain rfl:=Option.some.inj hz1;have s0:=hz2 0 (by decide);have s1:=hz2 1 (by decide);simp[NR.cells] at s0 s1;obtain⟨cs,hgc⟩:=qj.objT o1;have gf:∀j,W.frozen? ⟨gq,j,none⟩=false:=fun j=>qB hgc j;have gl:=qd hgc;have y:=qa r1;have y0:=y 0;have y1:=y 1;simp at y0 y1;have yl:=qd r1;have z:=qa rN;have z0:=z 0;have z1:=z 1;simp at z0 z1;have zl:=qd rN;have B0:=qh b0;have RR:=qh rR;have RN':=qh rN;have R1:=qh r1;have O1:=qh o1;have q1:((n:Int)==(rows.length:Int))=false:=by simp;omega
 have q2:decide ((n:Int) < 0)=false:=by simp
 have q3:decide ((rows.length:Int)<=(n:Int))=false:=by simp;omega
 clear y z b0 r1 o1 rR rN hz1 hz2 hr hgc;refine qI (W.heap.size) [0,0,0,1,0,0,0,1,0,0] (.fin [0,1,2,3,4,5,6,7,8,9]) (by kernel_rfl) ?_;simp only[xi,qP,qA,sD,sE,sF,sG]
 repeat first|(refine qz fun K hK=>?_;go_simp;refine hK _ _ ?_;clear hK K)|(apply qC;(intro w2 hw2;have hk1:=hw2.cell;have hk3:=hw2.1;clear hw2;go_simp;with_reducible rfl);simp only[Act.put,sA,sB,sC])|refine qu ?_
 go_wp2_with fail;refine qI (W.heap.size) [0,0,0,1,0,0,0,1,0,1,3,2] (.fin [0,1,2,3,4,5,6,7,8,9,10,11]) (by kernel_rfl) ?_;simp only[xi,qP,qA,sD,sE,sF,sG]
 repeat first|(refine qz fun K hK=>?_;go_simp;refine hK _ _ ?_;clear hK K)|(apply qC;(intro w2 hw2;have hk1:=hw2.cell;have hk3:=hw2.1;clear hw2;go_simp;with_reducible rfl);simp only[Act.put,sA,sB,sC])
 refine qG (fun K hK=>?_);go_simp;refine hK _ _ (RN.KeepsN.alloc W.drew.drew _ (Nat.le_refl _)) ?_;clear hK K;refine qM (fun K hK=>?_);go_simp;refine hK _ _ ?_;clear hK K
 repeat refine qu ?_
 have bX:Below W.heap.size W (W.alloc (.cells #[.int .i64 p,.slice a l c] 206)):=(Below.refl _ W).alloc (Nat.le_refl _) _;have rX:=qy W (.cells #[.int .i64 p,.slice a l c] 206);have zX:(W.alloc (.cells #[.int .i64 p,.slice a l c] 206)).heap.size=W.heap.size+1:=by simp
 have r1:=qp R1.o bX yl;have rR:=qp RR.o bX (qd RR.o);have rN:=qp RN'.o bX (qd RN'.o);have o1:=qj.below O1.o bX;have gn:gq≠W.heap.size:=by omega
 clear s0 s1 gf gl y0 y1 yl z0 z1 zl;generalize W.alloc (.cells #[.int .i64 p,.slice a l c] 206)=W4 at *;have ZX:=qh zX;have hz5:=HZ.o;obtain⟨bq,oq,z,hq,-,hz1,hz2⟩:=(qj.sl o1).atF NR.len rfl hn;simp only[Option.some.injEq,Addr.mk.injEq,and_true] at hq;obtain⟨rfl,rfl⟩:=hq;have s0:=hz2 0 (by decide);have s1:=hz2 1 (by decide);simp[NR.cells] at s0 s1;obtain⟨cs,hgc⟩:=qj.objT o1;have gf:∀j,W4.frozen? ⟨gq,j,none⟩=false:=fun j=>qB hgc j;have gl:=qd hgc;have y:=qa r1;have y0:=y 0;have y1:=y 1;simp at y0 y1;have yl:=qd r1;have z:=qa rN;have z0:=z 0;have z1:=z 1;simp at z0 z1;have zl:=qd rN;have R1:=qh r1;have RR:=qh rR;have RX:=qh rX;have O1:=qh o1;have BX:=qh bX;have gN:gq≠w.heap.size+1:=by omega
 have gR:gq≠w.heap.size:=by omega
 clear y z hz1 hz2 hgc r1 rR rN rX o1 bX zX hz5;go_wp2_with fail;refine qI (W4.heap.size) [0,0,0,1,0,0,0,1,1,0,2] (.fin [0,1,2,3,4,5,6,7,8,9,10]) (by kernel_rfl) ?_;simp only[xi,qP,qA,sD,sE,sF,sG]
 repeat first|(refine qz fun K hK=>?_;go_simp;refine hK _ _ ?_;clear hK K)|(apply qC;(intro w2 hw2;have hk1:=hw2.cell;have hk3:=hw2.1;clear hw2;go_simp;with_reducible rfl);simp only[Act.put,sA,sB,sC])
 refine qM (fun K hK=>?_);go_simp;refine hK _ _ ?_;clear hK K
 repeat refine qu ?_
 have b5:Below w.heap.size w W4:=B0.o.trans (BX.o.mono (by have:=HZ.o;omega));have f5:Fr (QS bQ (.slice (some ⟨gq,0,none⟩) rows.length cq)) w ((W4.setCell ⟨gq,n*2,none⟩ (.int .i64 0)).setCell ⟨gq,n*2+1,none⟩ (.slice none 0 0)):=
  ((Fr.below (S:=QS bQ (.slice (some ⟨gq,0,none⟩) rows.length cq)) b5).trans (Fr.setB (S:=QS bQ (.slice (some ⟨gq,0,none⟩) rows.length cq)) (.inr rfl) _ _) fun _ _ e=>e).trans (Fr.setB (S:=QS bQ (.slice (some ⟨gq,0,none⟩) rows.length cq)) (.inr rfl) _ _) fun _ _ e=>e
 have o5:qj NR.cells 206 2 ((W4.setCell ⟨gq,n*2,none⟩ (.int .i64 0)).setCell ⟨gq,n*2+1,none⟩ (.slice none 0 0)) B (.slice (some ⟨gq,0,none⟩) rows.length cq) (rows.set n ⟨0,.slice none 0 0⟩):=by
  have:=yC (yC O1.o (n*2) (.int .i64 0)) (n*2+1) (.slice none 0 0);rw[Vn (f:=NR.cells) (a:=.int .i64 0) (b:=.slice none 0 0) NR.len (u:=⟨0,.slice none 0 0⟩) rfl rows n] at this;unfold qj;rw[List.length_set];exact this
 have r1:=qJ (j:=n*2+1) (v:=.slice none 0 0) (qJ (j:=n*2) (v:=.int .i64 0) R1.o ne) ne;have rR:=qJ (j:=n*2+1) (v:=.slice none 0 0) (qJ (j:=n*2) (v:=.int .i64 0) RR.o gR) gR;have rX:=qJ (j:=n*2+1) (v:=.slice none 0 0) (qJ (j:=n*2) (v:=.int .i64 0) RX.o gn) gn;have z5:((W4.setCell ⟨gq,n*2,none⟩ (.int .i64 0)).setCell ⟨gq,n*2+1,none⟩ (.slice none 0 0)).heap.size=W4.heap.size:=by simp
 generalize (W4.setCell ⟨gq,n*2,none⟩ (.int .i64 0)).setCell ⟨gq,n*2+1,none⟩ (.slice none 0 0)=W5 at *;clear s0 s1 gf gl y0 y1 yl z0 z1 zl;have Z5:=qh z5;have F5:=qh f5;have O5:=qh o5;have RR:=qh rR;have RX:=qh rX;have y:=qa r1;have y0:=y 0;have y1:=y 1;simp at y0 y1;have yl:=qd r1;have yf:=qB r1 1;have R1:=qh r1;clear y z5 f5 o5 rR rX r1 q1 q2 q3 b5;go_wp2_with fail;have f6:=F5.o.trans (Fr.setB (S:=QS bQ (.slice (some ⟨gq,0,none⟩) rows.length cq)) (g:=bQ) (.inl rfl) 1 (.int .i64 ((n:Int)+1))) fun _ _ e=>e;have o6:=qj.other (g:=bQ) (j:=1) O5.o (fun e=>ne (by simpa[Value.ownBlock] using e)) (.int .i64 ((n:Int)+1));have neR:bQ≠w.heap.size:=by omega
 have neX:bQ≠W.heap.size:=by have:=HZ.o;omega
 have r6:=qq R1.o 1 (.int .i64 ((n:Int)+1));have rR:=qJ (j:=1) (v:=.int .i64 ((n:Int)+1)) RR.o neR;have rX:=qJ (j:=1) (v:=.int .i64 ((n:Int)+1)) RX.o neX;generalize W5.setCell ⟨bQ,1,none⟩ (.int .i64 ((n:Int)+1))=W6 at *;have y:=qa r6;have y0:=y 0;have y1:=y 1;simp at y0 y1;have yl:=qd r6;have yf:=fun j=>qB r6 j;have x:=qa rX;have x0:=x 0;have x1:=x 1;simp at x0 x1;have xl:=qd rX;have zl:=qd rR;have zf:=fun j=>qB rR j;have z:=qa rR;have z0:=z 0;have z1:=z 1;simp at z0 z1;have F6:=qh f6;have O6:=qh o6;have R6:=qh r6;have RR6:=qh rR;have RX6:=qh rX;clear y x z f6 o6 r6 rR rX R1 O5 F5 RR RX;by_cases e:n+1=rows.length
 ·have q:((n:Int)+1==(rows.length:Int))=true:=by simp;omega
  refine qI (W6.heap.size) [0,0,0,1,0,0,0,1,0,0] (.fin [0,1,2,3,4,5,6,7,8,9]) (by kernel_rfl) ?_;simp only[xi,qP,qA,sD,sE,sF,sG]
  repeat first|(refine qz fun K hK=>?_;go_simp;refine hK _ _ ?_;clear hK K)|(apply qC;(intro w2 hw2;have hk1:=hw2.cell;have hk3:=hw2.1;clear hw2;go_simp;with_reducible rfl);simp only[Act.put,sA,sB,sC])|refine qu ?_
  go_wp2_with fail;have F7:=((F6.o.drew.drew.drew.drew).trans (Fr.setB (S:=QS bQ (.slice (some ⟨gq,0,none⟩) rows.length cq)) (g:=bQ) (.inl rfl) 0 (.slice none 0 0)) fun _ _ e=>e).trans (Fr.setB (S:=QS bQ (.slice (some ⟨gq,0,none⟩) rows.length cq)) (g:=bQ) (.inl rfl) 1 (.int .i64 0)) fun _ _ e=>e;have RR7:=qJ (j:=1) (v:=.int .i64 0) (qJ (j:=0) (v:=.slice none 0 0) RR6.o neR) neR;have R7:=qq (qq R6.o 0 (.slice none 0 0)) 1 (.int .i64 0);have rF:=qq (qq RR7 0 (.int .i64 (p:Nat))) 1 (.slice a l c);have cc:=qa rF;have c0:=cc 0;have c1:=cc 1;simp at c0 c1;refine bodyPost_ret (v:=.tuple #[.agg #[.int .i64 (p:Nat),.slice a l c],.bool true]) (by simp[results,Tryz.results99,go_sem,c0,c1]) rfl ?_;have fin:Fr (QS bQ (.slice (some ⟨gq,0,none⟩) rows.length cq)) w ((((W6.drew.drew.drew.drew.setCell ⟨bQ,0,none⟩ (.slice none 0 0)).setCell ⟨bQ,1,none⟩ (.int .i64 0)).setCell ⟨w.heap.size,0,none⟩ (.int .i64 (p:Nat))).setCell ⟨w.heap.size,1,none⟩ (.slice a l c)):=
   (F7.trans (Fr.setB (S:=fun k=>k=w.heap.size) (g:=w.heap.size) rfl 0 (.int .i64 (p:Nat))) fun b hb e=>absurd e (Nat.ne_of_lt hb)).trans (Fr.setB (S:=fun k=>k=w.heap.size) (g:=w.heap.size) rfl 1 (.slice a l c)) fun b hb e=>absurd e (Nat.ne_of_lt hb)
  have neO:(Value.slice (some ⟨gq,0,none⟩) rows.length cq).ownBlock≠some w.heap.size:=fun e=>gR (by simpa[Value.ownBlock] using e);refine⟨rfl,.slice none 0 0,[],0,⟨?_,qj.nil _ _,by simp,h.hB⟩,by simp[e],by simp,fin,fun k e=>by cases e⟩;have:=qJ (j:=1) (v:=.slice a l c) (qJ (j:=0) (v:=.int .i64 (p:Nat)) R7 neR.symm) neR.symm;simp at this ⊢;exact this
 ·have q:((n:Int)+1==(rows.length:Int))=false:=by simp;omega
  refine qI (W6.heap.size) [0,0,0,1,0,0,0,1,0,0] (.fin [0,1,2,3,4,5,6,7,8,9]) (by kernel_rfl) ?_;simp only[xi,qP,qA,sD,sE,sF,sG]
  repeat first|(refine qz fun K hK=>?_;go_simp;refine hK _ _ ?_;clear hK K)|(apply qC;(intro w2 hw2;have hk1:=hw2.cell;have hk3:=hw2.1;clear hw2;go_simp;with_reducible rfl);simp only[Act.put,sA,sB,sC])|refine qu ?_
  go_wp2_with fail;have F7:=F6.o.drew.drew.drew.drew;have RR7:=RR6.o;have rF:=qq (qq RR7 0 (.int .i64 (p:Nat))) 1 (.slice a l c);have cc:=qa rF;have c0:=cc 0;have c1:=cc 1;simp at c0 c1;refine bodyPost_ret (v:=.tuple #[.agg #[.int .i64 (p:Nat),.slice a l c],.bool true]) (by simp[results,Tryz.results99,go_sem,c0,c1]) rfl ?_;have fin:Fr (QS bQ (.slice (some ⟨gq,0,none⟩) rows.length cq)) w (((W6.drew.drew.drew.drew).setCell ⟨w.heap.size,0,none⟩ (.int .i64 (p:Nat))).setCell ⟨w.heap.size,1,none⟩ (.slice a l c)):=
   (F7.trans (Fr.setB (S:=fun k=>k=w.heap.size) (g:=w.heap.size) rfl 0 (.int .i64 (p:Nat))) fun b hb e=>absurd e (Nat.ne_of_lt hb)).trans (Fr.setB (S:=fun k=>k=w.heap.size) (g:=w.heap.size) rfl 1 (.slice a l c)) fun b hb e=>absurd e (Nat.ne_of_lt hb)
  have neO:(Value.slice (some ⟨gq,0,none⟩) rows.length cq).ownBlock≠some w.heap.size:=fun e=>gR (by simpa[Value.ownBlock] using e);refine⟨rfl,_,rows.set n ⟨0,.slice none 0 0⟩,n+1,⟨?_,?_,by simp;omega,h.hB⟩,?_,by simp,fin,fun k e=>e⟩
  ·have:=qJ (j:=1) (v:=.slice a l c) (qJ (j:=0) (v:=.int .i64 (p:Nat)) R6.o neR.symm) neR.symm
   simp at this ⊢;exact this
  ·exact qj.other (j:=1) (qj.other (j:=0) O6.o neO (.int .i64 (p:Nat))) neO (.slice a l c)
  ·rw [List.drop_set_of_lt (by omega)]
end
namespace RN
section
variable {R:World->World->Prop} [Wz R] {n:Nat} {P:Program} {Q:Exit->Act->World->Prop} {md:Region.Mode} {kd:Nat->Nat} {ops:Array Oper}
theorem UH {o:Oper} {a:Act} {w:World} {K K':Act->World->Prop} (hd:∀c,o.op≠.defer c) (h:∀a w,K a w->K' a w) (l:Nat)
  (hh:o.wp P a w K (WA Q)):o.wpIn (Fence.wide.inRound l) n P a w K' Q:=by
 refine⟨fun _ _=>trivial,?_⟩;have e:Oper.semAt (Fence.wide.inRound l).round a.eval o=execOp a.eval o:=Oper.semAt_some l a.eval o hd;rw[e];unfold Oper.wp at hh;generalize (execOp a.eval o).run P w=r at *;cases r with
 |ok x w'=>
  cases x <;> simp only[Oper.upon,Oper.uponIn] at hh ⊢ <;>
   first
    |exact h _ _ hh
    |exact⟨fun hx=>(Bool.false_ne_true hx).elim,CallsIn.inRound l (callsIn_wide.2 (Calls.mono hh (fun e w'' he=>by cases e <;> first|exact h _ _ he|exact(he:False).elim|exact(zw he).elim)))⟩
    |exact⟨fun hx=>(Bool.false_ne_true hx).elim,fun c cs _=>let ⟨v,w',r,s⟩:=hh c cs;⟨v,w',h _ _ r,stepsIn_wide.2 s⟩⟩
    |exact hh.elim
 |halt x w'=>cases x <;> simp only[Oper.upon,Oper.uponIn] at hh ⊢ <;> exact(hh:False).elim
theorem Zv {i l:Nat} {a:Act} {w:World} {K K':Act->World->Prop} (hd:∀o ∈ ops.toList,∀c,o.op≠.defer c) (h:∀a w,K a w->K' a w)
  (hh:zP R P ops kd Q i K a w):wpOpIn (Fence.wide.inRound l) n P ops Q i K' a w:=by
 unfold zP at hh;unfold wpOpIn;cases ho:ops[i]? with
 |none=>simp only[ho] at hh ⊢;exact h _ _ hh
 |some o=>
  have hdo:=hd o (by rw[←Array.getElem?_toList] at ho;exact List.mem_of_getElem? ho);have e:∀a:Act,Oper.semAt (Fence.wide.inRound l).round a.eval o=execOp a.eval o:=fun a=>Oper.semAt_some l a.eval o hdo;simp only[ho] at hh ⊢
  split
  ·rename_i hw
   simp only[hw,if_true] at hh;rcases Nat.lt_or_ge (kd i) 2 with hk|hk
   ·rcases Nat.lt_or_ge (kd i) 1 with hk'|hk'
    ·obtain ⟨v,h1,h2⟩:=hh.1 (by omega)
     refine⟨fun _ _=>trivial,?_⟩;rw[e,h1 w];exact h _ _ h2
    ·obtain ⟨v,h1,h2⟩:=hh.2.1 (by omega)
     refine⟨fun _ _=>trivial,?_⟩;rw[e,h1 w (Wz.refl w)];exact h _ _ h2
   ·rcases Nat.lt_or_ge (kd i) 3 with hk'|hk'
    ·exact UH hdo h l (hh.2.2.1 (by omega))
    ·exact UH hdo (fun a w h'=>h a w h'.2) l (hh.2.2.2 hk')
  ·rename_i hw
   simp only[hw] at hh;exact⟨fun _ _=>trivial,h _ _ hh⟩
theorem XJ (l:Nat) (hd:∀o ∈ ops.toList,∀c,o.op≠.defer c):∀(fuel:Nat) (listed:Array Bool) (a:Act) (w:World),uQ R P md ops kd Q fuel listed a w->wpAnyIn (Fence.wide.inRound l) n P md ops Q fuel listed a w
 |0,_,_,_,h=>h
 |fuel+1,_,_,_,h=>⟨h.1,fun i hi=>Zv hd (fun a w=>XJ l hd fuel _ a w) (h.2 i hi)⟩
end
def Md (l:List Oper):Bool:=l.all fun o=>match o.op with|.defer _=>false|_=>true
theorem RI {l:List Oper} (h:Md l=true):∀o ∈ l.toArray.toList,∀c,o.op≠.defer c:=by
 intro o ho c e;have:=List.all_eq_true.1 h o (by simpa using ho);rw[e] at this;cases this
theorem wpIn_region_t {n:Nat} {P:Program} {Q:Exit->Act->World->Prop} {l:List Oper} {id rd:Nat} {a:Act} {w:World} (M:Nat) (ks:List Nat) (t:Tr)
  (hB:(P.follows .mixedOrders&&Region.noSelect l.toArray&&Nat.beq t.len l.length&&uA l ks t (Array.replicate l.length false)&&Md l)=true) (h:xi (KeepsN M) P Q l ks t a w.drew):(Code.region id l.toArray true).wpIn (Fence.wide.inRound rd) n P Q a w:=by
 simp only[Bool.and_eq_true] at hB;obtain⟨⟨⟨⟨hm,hs⟩,hn⟩,hB⟩,hd⟩:=hB;refine wpIn_region_any hm (XJ (R:=KeepsN M) (kd:=fun i=>ks.getD i 2) rd (RI hd) _ _ _ _ ?_);have:=NN hs t (Array.replicate l.length false) a _ (Zo _) hB h;rw[Nat.eq_of_beq_eq_true hn] at this;simpa using this
end RN
