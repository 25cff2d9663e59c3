/- Parts of the proof, merged by program out of 2 texts (EmP, EmQ): the first: The walk through a program, in memory: Next where an addition asks. Conditions: those of each theorem, as typed. -/
import Derived.Test.YtkfhgifhfkcehaaGreatDoorQL12
import Derived.Test.YtkfhgifhfkcehaaGreatDoorQL11
import Derived.Test.YtkfhgifhfkcehaaGreatDoorQL13
set_option linter.unusedVariables false
set_option linter.unusedSimpArgs false
set_option linter.unusedSectionVars false
set_option maxRecDepth 100000
set_option maxHeartbeats 4000000
namespace Go.Proofs.YtkfhgifhfkcehaaGreatDoor
open Go.RowKit
section
attribute [local irreducible] wpL
section
variable {w:World} {B bW gT:Nat} {vc vt ve:Value} {P:Pg} {S:Wst}
theorem wk_next_ask3r (h:WkAt w B bW gT vc vt ve P S) (hBw:B≤w.heap.size) (i:Nat) (hi:i < P.threads.length) {t:Th} (ht:S.ths[i]?=some t) (hd:thDone P i t=false) (hw:t.waits=0) (hb:t.begun=true) {a:Ac} (ha:(P.acts i t.tx)[t.act]?=some a) (hk:a.kind=3) (hv:-1000≤a.val∧a.val≤1000) (had:t.adding=false) (hl:S.evs.length≤100000):
  Calls Tryz.prog 115 #[.pointer (some ⟨bW,0,none⟩),.int .i64 i] w fun x w'=>
  x=.returned (.tuple #[evV (withTx ⟨2,0,0,a.cell,1,0,0,0⟩ (idOf i t.tx)),.bool true])∧∃ve',WkAt w' B bW gT vc vt ve' P ⟨S.ths.set i {t with waits:=2},S.evs++[withTx ⟨2,0,0,a.cell,1,0,0,0⟩ (idOf i t.tx)]⟩∧Kp Mw ve w w'∧Below B w w'∧∀k,ve'.ownBlock=some k→ve.ownBlock=some k∨w.heap.size≤k:=by
 have H:=hid h
 have HT:=hid ht
 have hB':=hid hBw
 have hgT:=(h.ths.lt gT rfl).2
 have htk:=h.tok i t ht
 have htx:=tx_lt h.ok hi htk hd
 have ht3:=Pg.tx3 h.ok hi
 have hm:P.threads.length≤4:=h.ok.threads.2
 clear h ht
 have ba:Below w.heap.size w (w.alloc (.cells #[.int .i64 0,.int .i64 0,.int .i64 0,.int .i64 0,.int .i64 0,.int .i64 0,.int .i64 0,.int .i64 0] 53)):=(Below.refl _ _).alloc (Nat.le_refl _) _
 have RZ:=hid (row_new w (.cells #[.int .i64 0,.int .i64 0,.int .i64 0,.int .i64 0,.int .i64 0,.int .i64 0,.int .i64 0,.int .i64 0] 53))
 go_enter Tryz.func115,Tryz.ntmps115
 go_wp2_with fail
 obtain⟨W0,hW⟩:∃W,W=w.alloc (.cells #[.int .i64 0,.int .i64 0,.int .i64 0,.int .i64 0,.int .i64 0,.int .i64 0,.int .i64 0,.int .i64 0] 53):=⟨_,rfl⟩
 have zW0:W0.heap.size=w.heap.size+1:=by rw[hW];simp
 rw[←hW] at ba RZ ⊢
 have BA0:=hid ba
 have HW0:=hid (H.out.below ba)
 clear ba hW
 refine(wk_of_in HW0.out i hi HT.out).mono ?_
 rintro x w1 ⟨rfl,rfl⟩
 rw[hd]
 have bd:Below W0.heap.size W0 W0.drew:=(Below.refl _ _).drew
 have RZ:W0.drew.heap[w.heap.size]?=_:=RZ.out
 have zW:W0.drew.heap.size=w.heap.size+1:=zW0
 obtain⟨W,hW⟩:∃W,W=W0.drew:=⟨_,rfl⟩
 rw[←hW] at bd RZ zW ⊢
 have zW':w.heap.size+1≤W.heap.size:=Nat.le_of_eq zW.symm
 have BA:=hid (BA0.out.trans (bd.mono (by omega)))
 have HW:=hid (HW0.out.below bd)
 have RZ:=hid RZ
 clear bd hW HW0 BA0 zW0 zW
 obtain⟨t2,ht2,-,-,hc⟩:=HW.out.at hi
 rw[HT.out] at ht2
 obtain rfl:=Option.some.inj ht2
 have c5:W.cell? ⟨gT,i*6+5,none⟩=some (.int .i64 t.waits):=hc 5 (by decide)
 have c0:W.cell? ⟨gT,i*6,none⟩=some (.int .i64 t.tx):=hc 0 (by decide)
 have c1:W.cell? ⟨gT,i*6+1,none⟩=some (.int .i64 t.act):=hc 1 (by decide)
 have c2:W.cell? ⟨gT,i*6+2,none⟩=some (.bool t.begun):=hc 2 (by decide)
 rw[hw] at c5
 rw[hb] at c2
 obtain⟨csT,rT⟩:=OwnF.keepObj HW.out.ths gT rfl
 have fT:∀j,W.frozen? ⟨gT,j,none⟩=false:=fun j=>row_free rT j
 have zgT:=row_lt rT
 have RT:=hid rT
 clear hc ht2 rT
 obtain⟨gt,ct,gx,cx,ga,ca,rfl,d4,d5,hj,hl6,a0,a1,a2,zgt,zgx,zga⟩:=HW.out.acts hi htx ha
 have d1:W.cell? ⟨bW,1,none⟩=some (.slice (some ⟨gt,0,none⟩) P.threads.length ct):=row_cell HW.out.row 1
 obtain⟨n1,hn1⟩:∃n,n=P.threads.length:=⟨_,rfl⟩
 obtain⟨n2,hn2⟩:∃n,n=(P.txs i).length:=⟨_,rfl⟩
 obtain⟨n3,hn3⟩:∃n,n=(P.acts i t.tx).length:=⟨_,rfl⟩
 have hi':i < n1:=by omega
 have htx':t.tx < n2:=by omega
 have hj':t.act < n3:=by omega
 have hjb:((t.act:Int)==(n3:Int))=false:=beq_eq_false_iff_ne.2 (by omega)
 rw[←hn1] at d1
 rw[←hn2] at d4
 rw[←hn3] at d5
 have HN:=hid (And.intro hn1 (And.intro hn2 hn3))
 have HA:=hid ha
 have HK:=hid hk
 have HE0:=hid (show askOf t ⟨3,a.cell,a.val⟩=⟨2,0,0,a.cell,1,0,0,0⟩ by unfold askOf;simp[had])
 clear had
 rw[hk] at a0
 clear hk
 clear hn1 hn2 hn3 ha
 go_wp2_with fail
 refine wp_region_x [0,0,0,0,1,0,0,1,0,0,0,1,0,1,0] [0,1,2,3,4,5,6,7,8,9,10,11,12,13,14] (by kernel_rfl) ?_
 simp only[selX,guardAt,sD,sE,sF,sG]
 repeat first|(refine wpL_p fun K hK=>?_;go_simp;refine hK _ _ ?_;clear hK K)|(apply wpL_s;(intro w2 hw2;have hk1:=hw2.cell;have hk3:=hw2.heap;clear hw2;go_simp;with_reducible rfl);simp only[Act.put,sA,sB,sC])|refine wpL_nil ?_
 clear d1 d4 d5 c0 c2 c5
 go_wp2_with fail
 have bY:Below W.heap.size W (W.alloc (.cells #[.int .i64 0,.int .i64 0,.int .i64 0,.int .i64 0,.int .i64 0,.int .i64 0,.int .i64 0,.int .i64 0] 53)).drew:=((Below.refl _ _).alloc (Nat.le_refl _) _).drew
 have rE:(W.alloc (.cells #[.int .i64 0,.int .i64 0,.int .i64 0,.int .i64 0,.int .i64 0,.int .i64 0,.int .i64 0,.int .i64 0] 53)).drew.heap[W.heap.size]?=some (.cells #[.int .i64 0,.int .i64 0,.int .i64 0,.int .i64 0,.int .i64 0,.int .i64 0,.int .i64 0,.int .i64 0] 53 (0,0)):=row_new W _
 have sY:W.heap.size+1≤(W.alloc (.cells #[.int .i64 0,.int .i64 0,.int .i64 0,.int .i64 0,.int .i64 0,.int .i64 0,.int .i64 0,.int .i64 0] 53)).drew.heap.size:=by show _≤(W.alloc _).heap.size;simp
 generalize (W.alloc (.cells #[.int .i64 0,.int .i64 0,.int .i64 0,.int .i64 0,.int .i64 0,.int .i64 0,.int .i64 0,.int .i64 0] 53)).drew=Y at *
 have HY:=hid (HW.out.below bY)
 have RTY:=hid (row_below RT.out bY zgT)
 have RZY:=hid (row_below RZ.out bY (by omega))
 have c1:=cell_below bY zgT c1
 have a0:=cell_below bY zga a0
 have a1:=cell_below bY zga a1
 have a2:=cell_below bY zga a2
 have BY:=hid (BA.out.trans (bY.mono (by omega)))
 have RE:=hid rE
 have gTY:gT < Y.heap.size:=by omega
 have gaY:ga < Y.heap.size:=by omega
 have HWW:=hid HW.out
 have BWY:=hid bY
 clear bY rE fT HW RT RZ
 refine wp_region_x [3,0,0,0,0,1,0,0,1,0,1,0,0,0,0,0,1,0,1,2,2] [1,2,3,4,5,6,7,8,11,12,13,14,15,16,17,18,0,9,10,19,20] (by kernel_rfl) ?_
 simp only[selX,guardAt,sD,sE,sF,sG]
 repeat first|(refine wpL_p fun K hK=>?_;go_simp;refine hK _ _ ?_;clear hK K)|(apply wpL_s;(intro w2 hw2;have hk1:=hw2.cell;have hk3:=hw2.heap;clear hw2;go_simp;with_reducible rfl);simp only[Act.put,sA,sB,sC])
 refine wpL_k (fun K hK=>?_)
 go_simp
 refine(ask_all _).mono ?_
 rintro e w2 ⟨g,b1,b2,rfl,r1,r2,r3,q2⟩
 refine hK _ _ (Keeps.of_below q2) ?_
 clear hK K
 have q3:Below Y.heap.size Y w2:=(Below.refl _ Y).drew.trans q2
 have s2:=q3.size
 have g1:w2.cell? ⟨g,3,none⟩=some (.func (.func 213) #[] #[.pointer (some ⟨b1,0,none⟩),.pointer (some ⟨b2,0,none⟩)]):=row_cell r1 3
 have lg:=row_lt r1
 clear q2
 repeat first|(refine wpL_p fun K hK=>?_;go_simp;refine hK _ _ ?_;clear hK K)|(apply wpL_s;(intro w2 hw2;have hk1:=hw2.cell;have hk3:=hw2.heap;clear hw2;go_simp;with_reducible rfl);simp only[Act.put,sA,sB,sC])
 have H2:=hid (HY.out.below q3)
 refine wpL_e (fun K hK=>?_)
 clear c1 a0 a1 a2 g1
 go_simp
 refine(HE0.out▸ask_add H2.out i hi HT.out ⟨3,a.cell,a.val⟩ hv rfl b1 b2 r2 r3).mono ?_
 rintro e w3 ⟨rfl,q4⟩
 have q5:=q3.trans (q4.mono s2)
 have s3:=q4.size
 have re:=row_below RE.out q5 (by omega)
 refine hK _ _ ?_
 clear hK K
 have yf:∀j,w3.frozen? ⟨W.heap.size,j,none⟩=false:=fun j=>row_free re j
 have yc:=row_cell re
 have y0:w3.cell? ⟨W.heap.size,0,none⟩=some (.int .i64 0):=yc 0
 have y1:w3.cell? ⟨W.heap.size,1,none⟩=some (.int .i64 0):=yc 1
 have y2:w3.cell? ⟨W.heap.size,2,none⟩=some (.int .i64 0):=yc 2
 have y3:w3.cell? ⟨W.heap.size,3,none⟩=some (.int .i64 0):=yc 3
 have y4:w3.cell? ⟨W.heap.size,4,none⟩=some (.int .i64 0):=yc 4
 have y5:w3.cell? ⟨W.heap.size,5,none⟩=some (.int .i64 0):=yc 5
 have y6:w3.cell? ⟨W.heap.size,6,none⟩=some (.int .i64 0):=yc 6
 have y7:w3.cell? ⟨W.heap.size,7,none⟩=some (.int .i64 0):=yc 7
 clear yc
 have RE3:=hid re
 have Q5:=hid q5
 clear re RE q4 q5 q3 r1 r2 r3 lg
 refine wpL_e (fun K hK=>?_)
 go_simp
 refine hK _ _ ?_
 clear hK K
 repeat refine wpL_nil ?_
 have WR4:=(((((((((Wr.start RE3.out).set 0 (.int .i64 2)).set 1 (.int .i64 0)).set 2 (.int .i64 0)).set 3 (.int .i64 a.cell)).set 4 (.int .i64 1)).set 5 (.int .i64 0)).set 6 (.int .i64 0)).set 7 (.int .i64 0))
 generalize ((((((((w3).setCell ⟨W.heap.size,0,none⟩ (.int .i64 2)).setCell ⟨W.heap.size,1,none⟩ (.int .i64 0)).setCell ⟨W.heap.size,2,none⟩ (.int .i64 0)).setCell ⟨W.heap.size,3,none⟩ (.int .i64 a.cell)).setCell ⟨W.heap.size,4,none⟩ (.int .i64 1)).setCell ⟨W.heap.size,5,none⟩ (.int .i64 0)).setCell ⟨W.heap.size,6,none⟩ (.int .i64 0)).setCell ⟨W.heap.size,7,none⟩ (.int .i64 0)=W4 at *
 obtain⟨hw4,k4⟩:=WkAt.wrR HWW.out (HY.out.below Q5.out) (Kp.of_below (ev:=ve) (BWY.out.trans (Q5.out.mono (by omega)))) (fun k hk=>.inl hk) rfl WR4
 have r4:=WR4.row
 have RT4:=hid ((WR4.other gT (by omega)).trans (row_below RTY.out Q5.out gTY))
 have RZ4:=hid ((WR4.other w.heap.size (by omega)).trans (row_below RZY.out Q5.out (by omega)))
 have B4:=hid ((BA.out.mono hB'.out).trans ((((BWY.out.trans (Q5.out.mono (by omega))).mono (show B≤W.heap.size by omega))).trans (WR4.below (by omega))))
 have s4:=WR4.size
 have K4:=hid ((Kp.of_below (ev:=ve) BA.out).trans k4 fun _ h=>.inl h)
 obtain⟨t3,ht3,-,-,hc⟩:=hw4.at hi
 rw[HT.out] at ht3
 obtain rfl:=Option.some.inj ht3
 have m5:W4.cell? ⟨gT,i*6+5,none⟩=some (.int .i64 t.waits):=hc 5 (by decide)
 have fT:∀j,W4.frozen? ⟨gT,j,none⟩=false:=fun j=>row_free RT4.out j
 have H4:=hid hw4
 have qc:∀j,W4.cell? ⟨W.heap.size,j,none⟩=_:=row_cell r4
 have q0:W4.cell? ⟨W.heap.size,0,none⟩=some (.int .i64 2):=qc 0
 have q1:W4.cell? ⟨W.heap.size,1,none⟩=some (.int .i64 0):=qc 1
 have q2:W4.cell? ⟨W.heap.size,2,none⟩=some (.int .i64 0):=qc 2
 have q3:W4.cell? ⟨W.heap.size,3,none⟩=some (.int .i64 a.cell):=qc 3
 have q4:W4.cell? ⟨W.heap.size,4,none⟩=some (.int .i64 1):=qc 4
 have q5:W4.cell? ⟨W.heap.size,5,none⟩=some (.int .i64 0):=qc 5
 have q6:W4.cell? ⟨W.heap.size,6,none⟩=some (.int .i64 0):=qc 6
 have q7:W4.cell? ⟨W.heap.size,7,none⟩=some (.int .i64 0):=qc 7
 clear qc
 have lE:=row_lt r4
 have lT:gT < W4.heap.size:=by omega
 clear hc ht3 r4 hw4 k4 WR4
 go_wp2_with fail
 have hgTB:=(H.out.ths.lt gT rfl).1
 have WR3:=(Wr.start RT4.out).set (i*6+5) (.int .i64 2)
 have g:∀(l:List Th) (x:Th),i < l.length→(l.set i x)[i]?=some x:=fun l x h=>List.getElem?_set_self h
 have hlen:S.ths.length=P.threads.length:=H4.out.ths.len
 have s1:OwnF Th.cells 283 6 (W4.setCell ⟨gT,i*6+5,none⟩ (.int .i64 2)) B (.slice (some ⟨gT,0,none⟩) P.threads.length P.threads.length) (S.ths.set i {t with waits:=2}):=ths_set (j:=5) H4.out.ths (u:={t with waits:=2}) HT.out (by decide) (by rfl)
 generalize W4.setCell ⟨gT,i*6+5,none⟩ (.int .i64 2)=Y4 at *
 have neR:bW≠gT:=by
  rintro rfl
  have h1:=H4.out.row
  rw[RT4.out] at h1
  simp only[Option.some.injEq,Obj.cells.injEq] at h1
  exact absurd h1.2.1 (by decide)
 have K3:Kp Mw ve W4 Y4:=Kp.wrT RT4.out (.inr rfl) WR3
 have HY4:=hid (H4.out.ths_put hi (u:={t with waits:=2}) ⟨htk.tx,htk.act,.inr ⟨hb,.inl ⟨rfl,a,HA.out,by rw[HK.out];decide⟩⟩,htk.read⟩ K3 (WR3.other bW neR) s1 (OwnF.wr H4.out.evs WR3 (OwnF.neT H4.out.evs RT4.out (by decide))))
 have zY:w.heap.size+1≤Y4.heap.size:=by have:=WR3.size;omega
 refine(wk_happens HY4.out (by omega) i hi (g _ _ (by omega)) (show t.tx < 3 by omega) ⟨2,0,0,a.cell,1,0,0,0⟩ hl).mono ?_
 rintro x w1 ⟨rfl,ve1,h1,kp1,b1,ow1⟩
 clear m5 fT q0 q1 q2 q3 q4 q5 q6 q7
 have RQ:Hid (w1.heap[w.heap.size]?=some (.cells #[.int .i64 0,.int .i64 0,.int .i64 0,.int .i64 0,.int .i64 0,.int .i64 0,.int .i64 0,.int .i64 0] 53 (0,0))):=hid (by
  refine kp1.cells _ _ _ _ ((WR3.other w.heap.size (by omega)).trans RZ4.out) (fun hM=>?_) fun _ e=>?_
  ·rcases hM with h|h <;> exact absurd h (by decide)
  ·have:=(H.out.evs.lt _ e).2;omega)
 have KPA:Hid (Kp Mw ve w w1):=hid ((K4.out.trans K3 fun _ h=>.inl h).trans kp1 fun _ h=>.inl h)
 have BAL:Hid (Below B w w1):=hid ((B4.out.trans (WR3.below hgTB)).trans b1)
 have H1:=hid h1
 have OW1:=hid ow1
 have z1:w.heap.size+1≤w1.heap.size:=by have:=kp1.size;omega
 clear h1 kp1 b1 ow1 WR3 K3 s1 g
 generalize hE:withTx ⟨2,0,0,a.cell,1,0,0,0⟩ (idOf i t.tx)=E at *
 obtain⟨k1,k2,k3,k4,k5,k6,k7,k8⟩:=E
 have zf:∀j,w1.frozen? ⟨w.heap.size,j,none⟩=false:=fun j=>row_free RQ.out j
 have zc:=row_cell RQ.out
 have y0:w1.cell? ⟨w.heap.size,0,none⟩=some (.int .i64 0):=zc 0
 have y1:w1.cell? ⟨w.heap.size,1,none⟩=some (.int .i64 0):=zc 1
 have y2:w1.cell? ⟨w.heap.size,2,none⟩=some (.int .i64 0):=zc 2
 have y3:w1.cell? ⟨w.heap.size,3,none⟩=some (.int .i64 0):=zc 3
 have y4:w1.cell? ⟨w.heap.size,4,none⟩=some (.int .i64 0):=zc 4
 have y5:w1.cell? ⟨w.heap.size,5,none⟩=some (.int .i64 0):=zc 5
 have y6:w1.cell? ⟨w.heap.size,6,none⟩=some (.int .i64 0):=zc 6
 have y7:w1.cell? ⟨w.heap.size,7,none⟩=some (.int .i64 0):=zc 7
 clear zc
 go_wp2
 have WR6:=((((((((Wr.start RQ.out).set 0 (.int .i64 k1)).set 1 (.int .i64 k2)).set 2 (.int .i64 k3)).set 3 (.int .i64 k4)).set 4 (.int .i64 k5)).set 5 (.int .i64 k6)).set 6 (.int .i64 k7)).set 7 (.int .i64 k8)
 generalize ((((((((w1).setCell ⟨w.heap.size,0,none⟩ (.int .i64 k1)).setCell ⟨w.heap.size,1,none⟩ (.int .i64 k2)).setCell ⟨w.heap.size,2,none⟩ (.int .i64 k3)).setCell ⟨w.heap.size,3,none⟩ (.int .i64 k4)).setCell ⟨w.heap.size,4,none⟩ (.int .i64 k5)).setCell ⟨w.heap.size,5,none⟩ (.int .i64 k6)).setCell ⟨w.heap.size,6,none⟩ (.int .i64 k7)).setCell ⟨w.heap.size,7,none⟩ (.int .i64 k8)=W6 at *
 obtain⟨hf1,hf2⟩:=WkAt.wrR H.out H1.out KPA.out (fun k hk=>(OW1.out k hk).imp id fun h=>by omega) rfl WR6
 have cc:=row_cell WR6.row
 have cc0:=cc 0
 have cc1:=cc 1
 have cc2:=cc 2
 have cc3:=cc 3
 have cc4:=cc 4
 have cc5:=cc 5
 have cc6:=cc 6
 have cc7:=cc 7
 simp at cc0 cc1 cc2 cc3 cc4 cc5 cc6 cc7
 refine bodyPost_ret (v:=.tuple #[evV ⟨k1,k2,k3,k4,k5,k6,k7,k8⟩,.bool true]) (by simp[results,Tryz.results115,go_sem,cc0,cc1,cc2,cc3,cc4,cc5,cc6,cc7]) rfl ⟨by first|rfl|rw[hE],ve1,by first|exact hf1|(rw[hE];exact hf1),hf2,?_,fun k hk=>(OW1.out k hk).imp id fun h=>by omega⟩
 exact BAL.out.trans (WR6.below hB'.out)
theorem wk_next_ask3w (h:WkAt w B bW gT vc vt ve P S) (hBw:B≤w.heap.size) (i:Nat) (hi:i < P.threads.length) {t:Th} (ht:S.ths[i]?=some t) (hd:thDone P i t=false) (hw:t.waits=0) (hb:t.begun=true) {a:Ac} (ha:(P.acts i t.tx)[t.act]?=some a) (hk:a.kind=3) (hv:-1000≤a.val∧a.val≤1000) (had:t.adding=true) (hl:S.evs.length≤100000):
  Calls Tryz.prog 115 #[.pointer (some ⟨bW,0,none⟩),.int .i64 i] w fun x w'=>
  x=.returned (.tuple #[evV (withTx ⟨2,0,0,a.cell,2,0,a.val+t.read,0⟩ (idOf i t.tx)),.bool true])∧∃ve',WkAt w' B bW gT vc vt ve' P ⟨S.ths.set i {t with waits:=2},S.evs++[withTx ⟨2,0,0,a.cell,2,0,a.val+t.read,0⟩ (idOf i t.tx)]⟩∧Kp Mw ve w w'∧Below B w w'∧∀k,ve'.ownBlock=some k→ve.ownBlock=some k∨w.heap.size≤k:=by
 have H:=hid h
 have HT:=hid ht
 have hB':=hid hBw
 have hgT:=(h.ths.lt gT rfl).2
 have htk:=h.tok i t ht
 have htx:=tx_lt h.ok hi htk hd
 have ht3:=Pg.tx3 h.ok hi
 have hm:P.threads.length≤4:=h.ok.threads.2
 clear h ht
 have ba:Below w.heap.size w (w.alloc (.cells #[.int .i64 0,.int .i64 0,.int .i64 0,.int .i64 0,.int .i64 0,.int .i64 0,.int .i64 0,.int .i64 0] 53)):=(Below.refl _ _).alloc (Nat.le_refl _) _
 have RZ:=hid (row_new w (.cells #[.int .i64 0,.int .i64 0,.int .i64 0,.int .i64 0,.int .i64 0,.int .i64 0,.int .i64 0,.int .i64 0] 53))
 go_enter Tryz.func115,Tryz.ntmps115
 go_wp2_with fail
 obtain⟨W0,hW⟩:∃W,W=w.alloc (.cells #[.int .i64 0,.int .i64 0,.int .i64 0,.int .i64 0,.int .i64 0,.int .i64 0,.int .i64 0,.int .i64 0] 53):=⟨_,rfl⟩
 have zW0:W0.heap.size=w.heap.size+1:=by rw[hW];simp
 rw[←hW] at ba RZ ⊢
 have BA0:=hid ba
 have HW0:=hid (H.out.below ba)
 clear ba hW
 refine(wk_of_in HW0.out i hi HT.out).mono ?_
 rintro x w1 ⟨rfl,rfl⟩
 rw[hd]
 have bd:Below W0.heap.size W0 W0.drew:=(Below.refl _ _).drew
 have RZ:W0.drew.heap[w.heap.size]?=_:=RZ.out
 have zW:W0.drew.heap.size=w.heap.size+1:=zW0
 obtain⟨W,hW⟩:∃W,W=W0.drew:=⟨_,rfl⟩
 rw[←hW] at bd RZ zW ⊢
 have zW':w.heap.size+1≤W.heap.size:=Nat.le_of_eq zW.symm
 have BA:=hid (BA0.out.trans (bd.mono (by omega)))
 have HW:=hid (HW0.out.below bd)
 have RZ:=hid RZ
 clear bd hW HW0 BA0 zW0 zW
 obtain⟨t2,ht2,-,-,hc⟩:=HW.out.at hi
 rw[HT.out] at ht2
 obtain rfl:=Option.some.inj ht2
 have c5:W.cell? ⟨gT,i*6+5,none⟩=some (.int .i64 t.waits):=hc 5 (by decide)
 have c0:W.cell? ⟨gT,i*6,none⟩=some (.int .i64 t.tx):=hc 0 (by decide)
 have c1:W.cell? ⟨gT,i*6+1,none⟩=some (.int .i64 t.act):=hc 1 (by decide)
 have c2:W.cell? ⟨gT,i*6+2,none⟩=some (.bool t.begun):=hc 2 (by decide)
 rw[hw] at c5
 rw[hb] at c2
 obtain⟨csT,rT⟩:=OwnF.keepObj HW.out.ths gT rfl
 have fT:∀j,W.frozen? ⟨gT,j,none⟩=false:=fun j=>row_free rT j
 have zgT:=row_lt rT
 have RT:=hid rT
 clear hc ht2 rT
 obtain⟨gt,ct,gx,cx,ga,ca,rfl,d4,d5,hj,hl6,a0,a1,a2,zgt,zgx,zga⟩:=HW.out.acts hi htx ha
 have d1:W.cell? ⟨bW,1,none⟩=some (.slice (some ⟨gt,0,none⟩) P.threads.length ct):=row_cell HW.out.row 1
 obtain⟨n1,hn1⟩:∃n,n=P.threads.length:=⟨_,rfl⟩
 obtain⟨n2,hn2⟩:∃n,n=(P.txs i).length:=⟨_,rfl⟩
 obtain⟨n3,hn3⟩:∃n,n=(P.acts i t.tx).length:=⟨_,rfl⟩
 have hi':i < n1:=by omega
 have htx':t.tx < n2:=by omega
 have hj':t.act < n3:=by omega
 have hjb:((t.act:Int)==(n3:Int))=false:=beq_eq_false_iff_ne.2 (by omega)
 rw[←hn1] at d1
 rw[←hn2] at d4
 rw[←hn3] at d5
 have HN:=hid (And.intro hn1 (And.intro hn2 hn3))
 have HA:=hid ha
 have HK:=hid hk
 have HE0:=hid (show askOf t ⟨3,a.cell,a.val⟩=⟨2,0,0,a.cell,2,0,a.val+t.read,0⟩ by unfold askOf;simp[had])
 clear had
 rw[hk] at a0
 clear hk
 clear hn1 hn2 hn3 ha
 go_wp2_with fail
 refine wp_region_x [0,0,0,0,1,0,0,1,0,0,0,1,0,1,0] [0,1,2,3,4,5,6,7,8,9,10,11,12,13,14] (by kernel_rfl) ?_
 simp only[selX,guardAt,sD,sE,sF,sG]
 repeat first|(refine wpL_p fun K hK=>?_;go_simp;refine hK _ _ ?_;clear hK K)|(apply wpL_s;(intro w2 hw2;have hk1:=hw2.cell;have hk3:=hw2.heap;clear hw2;go_simp;with_reducible rfl);simp only[Act.put,sA,sB,sC])|refine wpL_nil ?_
 clear d1 d4 d5 c0 c2 c5
 go_wp2_with fail
 have bY:Below W.heap.size W (W.alloc (.cells #[.int .i64 0,.int .i64 0,.int .i64 0,.int .i64 0,.int .i64 0,.int .i64 0,.int .i64 0,.int .i64 0] 53)).drew:=((Below.refl _ _).alloc (Nat.le_refl _) _).drew
 have rE:(W.alloc (.cells #[.int .i64 0,.int .i64 0,.int .i64 0,.int .i64 0,.int .i64 0,.int .i64 0,.int .i64 0,.int .i64 0] 53)).drew.heap[W.heap.size]?=some (.cells #[.int .i64 0,.int .i64 0,.int .i64 0,.int .i64 0,.int .i64 0,.int .i64 0,.int .i64 0,.int .i64 0] 53 (0,0)):=row_new W _
 have sY:W.heap.size+1≤(W.alloc (.cells #[.int .i64 0,.int .i64 0,.int .i64 0,.int .i64 0,.int .i64 0,.int .i64 0,.int .i64 0,.int .i64 0] 53)).drew.heap.size:=by show _≤(W.alloc _).heap.size;simp
 generalize (W.alloc (.cells #[.int .i64 0,.int .i64 0,.int .i64 0,.int .i64 0,.int .i64 0,.int .i64 0,.int .i64 0,.int .i64 0] 53)).drew=Y at *
 have HY:=hid (HW.out.below bY)
 have RTY:=hid (row_below RT.out bY zgT)
 have RZY:=hid (row_below RZ.out bY (by omega))
 have c1:=cell_below bY zgT c1
 have a0:=cell_below bY zga a0
 have a1:=cell_below bY zga a1
 have a2:=cell_below bY zga a2
 have BY:=hid (BA.out.trans (bY.mono (by omega)))
 have RE:=hid rE
 have gTY:gT < Y.heap.size:=by omega
 have gaY:ga < Y.heap.size:=by omega
 have HWW:=hid HW.out
 have BWY:=hid bY
 clear bY rE fT HW RT RZ
 refine wp_region_x [3,0,0,0,0,1,0,0,1,0,1,0,0,0,0,0,1,0,1,2,2] [1,2,3,4,5,6,7,8,11,12,13,14,15,16,17,18,0,9,10,19,20] (by kernel_rfl) ?_
 simp only[selX,guardAt,sD,sE,sF,sG]
 repeat first|(refine wpL_p fun K hK=>?_;go_simp;refine hK _ _ ?_;clear hK K)|(apply wpL_s;(intro w2 hw2;have hk1:=hw2.cell;have hk3:=hw2.heap;clear hw2;go_simp;with_reducible rfl);simp only[Act.put,sA,sB,sC])
 refine wpL_k (fun K hK=>?_)
 go_simp
 refine(ask_all _).mono ?_
 rintro e w2 ⟨g,b1,b2,rfl,r1,r2,r3,q2⟩
 refine hK _ _ (Keeps.of_below q2) ?_
 clear hK K
 have q3:Below Y.heap.size Y w2:=(Below.refl _ Y).drew.trans q2
 have s2:=q3.size
 have g1:w2.cell? ⟨g,3,none⟩=some (.func (.func 213) #[] #[.pointer (some ⟨b1,0,none⟩),.pointer (some ⟨b2,0,none⟩)]):=row_cell r1 3
 have lg:=row_lt r1
 clear q2
 repeat first|(refine wpL_p fun K hK=>?_;go_simp;refine hK _ _ ?_;clear hK K)|(apply wpL_s;(intro w2 hw2;have hk1:=hw2.cell;have hk3:=hw2.heap;clear hw2;go_simp;with_reducible rfl);simp only[Act.put,sA,sB,sC])
 have H2:=hid (HY.out.below q3)
 refine wpL_e (fun K hK=>?_)
 clear c1 a0 a1 a2 g1
 go_simp
 refine(HE0.out▸ask_add H2.out i hi HT.out ⟨3,a.cell,a.val⟩ hv rfl b1 b2 r2 r3).mono ?_
 rintro e w3 ⟨rfl,q4⟩
 have q5:=q3.trans (q4.mono s2)
 have s3:=q4.size
 have re:=row_below RE.out q5 (by omega)
 refine hK _ _ ?_
 clear hK K
 have yf:∀j,w3.frozen? ⟨W.heap.size,j,none⟩=false:=fun j=>row_free re j
 have yc:=row_cell re
 have y0:w3.cell? ⟨W.heap.size,0,none⟩=some (.int .i64 0):=yc 0
 have y1:w3.cell? ⟨W.heap.size,1,none⟩=some (.int .i64 0):=yc 1
 have y2:w3.cell? ⟨W.heap.size,2,none⟩=some (.int .i64 0):=yc 2
 have y3:w3.cell? ⟨W.heap.size,3,none⟩=some (.int .i64 0):=yc 3
 have y4:w3.cell? ⟨W.heap.size,4,none⟩=some (.int .i64 0):=yc 4
 have y5:w3.cell? ⟨W.heap.size,5,none⟩=some (.int .i64 0):=yc 5
 have y6:w3.cell? ⟨W.heap.size,6,none⟩=some (.int .i64 0):=yc 6
 have y7:w3.cell? ⟨W.heap.size,7,none⟩=some (.int .i64 0):=yc 7
 clear yc
 have RE3:=hid re
 have Q5:=hid q5
 clear re RE q4 q5 q3 r1 r2 r3 lg
 refine wpL_e (fun K hK=>?_)
 go_simp
 refine hK _ _ ?_
 clear hK K
 repeat refine wpL_nil ?_
 have WR4:=(((((((((Wr.start RE3.out).set 0 (.int .i64 2)).set 1 (.int .i64 0)).set 2 (.int .i64 0)).set 3 (.int .i64 a.cell)).set 4 (.int .i64 2)).set 5 (.int .i64 0)).set 6 (.int .i64 (a.val+t.read))).set 7 (.int .i64 0))
 generalize ((((((((w3).setCell ⟨W.heap.size,0,none⟩ (.int .i64 2)).setCell ⟨W.heap.size,1,none⟩ (.int .i64 0)).setCell ⟨W.heap.size,2,none⟩ (.int .i64 0)).setCell ⟨W.heap.size,3,none⟩ (.int .i64 a.cell)).setCell ⟨W.heap.size,4,none⟩ (.int .i64 2)).setCell ⟨W.heap.size,5,none⟩ (.int .i64 0)).setCell ⟨W.heap.size,6,none⟩ (.int .i64 (a.val+t.read))).setCell ⟨W.heap.size,7,none⟩ (.int .i64 0)=W4 at *
 obtain⟨hw4,k4⟩:=WkAt.wrR HWW.out (HY.out.below Q5.out) (Kp.of_below (ev:=ve) (BWY.out.trans (Q5.out.mono (by omega)))) (fun k hk=>.inl hk) rfl WR4
 have r4:=WR4.row
 have RT4:=hid ((WR4.other gT (by omega)).trans (row_below RTY.out Q5.out gTY))
 have RZ4:=hid ((WR4.other w.heap.size (by omega)).trans (row_below RZY.out Q5.out (by omega)))
 have B4:=hid ((BA.out.mono hB'.out).trans ((((BWY.out.trans (Q5.out.mono (by omega))).mono (show B≤W.heap.size by omega))).trans (WR4.below (by omega))))
 have s4:=WR4.size
 have K4:=hid ((Kp.of_below (ev:=ve) BA.out).trans k4 fun _ h=>.inl h)
 obtain⟨t3,ht3,-,-,hc⟩:=hw4.at hi
 rw[HT.out] at ht3
 obtain rfl:=Option.some.inj ht3
 have m5:W4.cell? ⟨gT,i*6+5,none⟩=some (.int .i64 t.waits):=hc 5 (by decide)
 have fT:∀j,W4.frozen? ⟨gT,j,none⟩=false:=fun j=>row_free RT4.out j
 have H4:=hid hw4
 have qc:∀j,W4.cell? ⟨W.heap.size,j,none⟩=_:=row_cell r4
 have q0:W4.cell? ⟨W.heap.size,0,none⟩=some (.int .i64 2):=qc 0
 have q1:W4.cell? ⟨W.heap.size,1,none⟩=some (.int .i64 0):=qc 1
 have q2:W4.cell? ⟨W.heap.size,2,none⟩=some (.int .i64 0):=qc 2
 have q3:W4.cell? ⟨W.heap.size,3,none⟩=some (.int .i64 a.cell):=qc 3
 have q4:W4.cell? ⟨W.heap.size,4,none⟩=some (.int .i64 2):=qc 4
 have q5:W4.cell? ⟨W.heap.size,5,none⟩=some (.int .i64 0):=qc 5
 have q6:W4.cell? ⟨W.heap.size,6,none⟩=some (.int .i64 (a.val+t.read)):=qc 6
 have q7:W4.cell? ⟨W.heap.size,7,none⟩=some (.int .i64 0):=qc 7
 clear qc
 have lE:=row_lt r4
 have lT:gT < W4.heap.size:=by omega
 clear hc ht3 r4 hw4 k4 WR4
 go_wp2_with fail
 have hgTB:=(H.out.ths.lt gT rfl).1
 have WR3:=(Wr.start RT4.out).set (i*6+5) (.int .i64 2)
 have g:∀(l:List Th) (x:Th),i < l.length→(l.set i x)[i]?=some x:=fun l x h=>List.getElem?_set_self h
 have hlen:S.ths.length=P.threads.length:=H4.out.ths.len
 have s1:OwnF Th.cells 283 6 (W4.setCell ⟨gT,i*6+5,none⟩ (.int .i64 2)) B (.slice (some ⟨gT,0,none⟩) P.threads.length P.threads.length) (S.ths.set i {t with waits:=2}):=ths_set (j:=5) H4.out.ths (u:={t with waits:=2}) HT.out (by decide) (by rfl)
 generalize W4.setCell ⟨gT,i*6+5,none⟩ (.int .i64 2)=Y4 at *
 have neR:bW≠gT:=by
  rintro rfl
  have h1:=H4.out.row
  rw[RT4.out] at h1
  simp only[Option.some.injEq,Obj.cells.injEq] at h1
  exact absurd h1.2.1 (by decide)
 have K3:Kp Mw ve W4 Y4:=Kp.wrT RT4.out (.inr rfl) WR3
 have HY4:=hid (H4.out.ths_put hi (u:={t with waits:=2}) ⟨htk.tx,htk.act,.inr ⟨hb,.inl ⟨rfl,a,HA.out,by rw[HK.out];decide⟩⟩,htk.read⟩ K3 (WR3.other bW neR) s1 (OwnF.wr H4.out.evs WR3 (OwnF.neT H4.out.evs RT4.out (by decide))))
 have zY:w.heap.size+1≤Y4.heap.size:=by have:=WR3.size;omega
 refine(wk_happens HY4.out (by omega) i hi (g _ _ (by omega)) (show t.tx < 3 by omega) ⟨2,0,0,a.cell,2,0,a.val+t.read,0⟩ hl).mono ?_
 rintro x w1 ⟨rfl,ve1,h1,kp1,b1,ow1⟩
 clear m5 fT q0 q1 q2 q3 q4 q5 q6 q7
 have RQ:Hid (w1.heap[w.heap.size]?=some (.cells #[.int .i64 0,.int .i64 0,.int .i64 0,.int .i64 0,.int .i64 0,.int .i64 0,.int .i64 0,.int .i64 0] 53 (0,0))):=hid (by
  refine kp1.cells _ _ _ _ ((WR3.other w.heap.size (by omega)).trans RZ4.out) (fun hM=>?_) fun _ e=>?_
  ·rcases hM with h|h <;> exact absurd h (by decide)
  ·have:=(H.out.evs.lt _ e).2;omega)
 have KPA:Hid (Kp Mw ve w w1):=hid ((K4.out.trans K3 fun _ h=>.inl h).trans kp1 fun _ h=>.inl h)
 have BAL:Hid (Below B w w1):=hid ((B4.out.trans (WR3.below hgTB)).trans b1)
 have H1:=hid h1
 have OW1:=hid ow1
 have z1:w.heap.size+1≤w1.heap.size:=by have:=kp1.size;omega
 clear h1 kp1 b1 ow1 WR3 K3 s1 g
 generalize hE:withTx ⟨2,0,0,a.cell,2,0,a.val+t.read,0⟩ (idOf i t.tx)=E at *
 obtain⟨k1,k2,k3,k4,k5,k6,k7,k8⟩:=E
 have zf:∀j,w1.frozen? ⟨w.heap.size,j,none⟩=false:=fun j=>row_free RQ.out j
 have zc:=row_cell RQ.out
 have y0:w1.cell? ⟨w.heap.size,0,none⟩=some (.int .i64 0):=zc 0
 have y1:w1.cell? ⟨w.heap.size,1,none⟩=some (.int .i64 0):=zc 1
 have y2:w1.cell? ⟨w.heap.size,2,none⟩=some (.int .i64 0):=zc 2
 have y3:w1.cell? ⟨w.heap.size,3,none⟩=some (.int .i64 0):=zc 3
 have y4:w1.cell? ⟨w.heap.size,4,none⟩=some (.int .i64 0):=zc 4
 have y5:w1.cell? ⟨w.heap.size,5,none⟩=some (.int .i64 0):=zc 5
 have y6:w1.cell? ⟨w.heap.size,6,none⟩=some (.int .i64 0):=zc 6
 have y7:w1.cell? ⟨w.heap.size,7,none⟩=some (.int .i64 0):=zc 7
 clear zc
 go_wp2
 have WR6:=((((((((Wr.start RQ.out).set 0 (.int .i64 k1)).set 1 (.int .i64 k2)).set 2 (.int .i64 k3)).set 3 (.int .i64 k4)).set 4 (.int .i64 k5)).set 5 (.int .i64 k6)).set 6 (.int .i64 k7)).set 7 (.int .i64 k8)
 generalize ((((((((w1).setCell ⟨w.heap.size,0,none⟩ (.int .i64 k1)).setCell ⟨w.heap.size,1,none⟩ (.int .i64 k2)).setCell ⟨w.heap.size,2,none⟩ (.int .i64 k3)).setCell ⟨w.heap.size,3,none⟩ (.int .i64 k4)).setCell ⟨w.heap.size,4,none⟩ (.int .i64 k5)).setCell ⟨w.heap.size,5,none⟩ (.int .i64 k6)).setCell ⟨w.heap.size,6,none⟩ (.int .i64 k7)).setCell ⟨w.heap.size,7,none⟩ (.int .i64 k8)=W6 at *
 obtain⟨hf1,hf2⟩:=WkAt.wrR H.out H1.out KPA.out (fun k hk=>(OW1.out k hk).imp id fun h=>by omega) rfl WR6
 have cc:=row_cell WR6.row
 have cc0:=cc 0
 have cc1:=cc 1
 have cc2:=cc 2
 have cc3:=cc 3
 have cc4:=cc 4
 have cc5:=cc 5
 have cc6:=cc 6
 have cc7:=cc 7
 simp at cc0 cc1 cc2 cc3 cc4 cc5 cc6 cc7
 refine bodyPost_ret (v:=.tuple #[evV ⟨k1,k2,k3,k4,k5,k6,k7,k8⟩,.bool true]) (by simp[results,Tryz.results115,go_sem,cc0,cc1,cc2,cc3,cc4,cc5,cc6,cc7]) rfl ⟨by first|rfl|rw[hE],ve1,by first|exact hf1|(rw[hE];exact hf1),hf2,?_,fun k hk=>(OW1.out k hk).imp id fun h=>by omega⟩
 exact BAL.out.trans (WR6.below hB'.out)
end
end
section
attribute [local irreducible] wpL
theorem PgOk.at {P:Pg} (h:PgOk P) {i k j:Nat} {a:Ac} (hi:i < P.threads.length) (hk:k < (P.txs i).length) (ha:(P.acts i k)[j]?=some a):
  (a.kind=4∧j+1=(P.acts i k).length∧a.cell=0∧a.val=0)∨((a.kind=1∧a.val=0∨a.kind=2∨a.kind=3)∧0≤a.cell∧a.cell < P.cells.length∧-1000≤a.val∧a.val≤1000):=by
 obtain⟨y,hy⟩:∃y,P.threads[i]?=some y:=⟨_,List.getElem?_eq_getElem hi⟩
 obtain⟨x,hx⟩:∃x,(P.txs i)[k]?=some x:=⟨_,List.getElem?_eq_getElem hk⟩
 have hax:P.acts i k=x:=by unfold Pg.acts;rw[List.getD_eq_getElem?_getD,hx];rfl
 rw[hax] at ha ⊢
 rw[Pg.txs_at hy] at hx
 exact h.act y (List.mem_of_getElem? hy) x (List.mem_of_getElem? hx) j a ha
def NextPost (B bW gT:Nat) (vc vt ve:Value) (P:Pg) (S:Wst) (i:Nat) (w:World) (r:Option (Th×Ev)) (x:Ending) (w':World):Prop:=
 match r with
 |none=>x=.returned (.tuple #[evV ⟨0,0,0,0,0,0,0,0⟩,.bool false])∧Below w.heap.size w w'
 |some y=>x=.returned (.tuple #[evV y.2,.bool true])∧∃ve',WkAt w' B bW gT vc vt ve' P (S.put i y)∧Kp Mw ve w w'∧Below B w w'∧∀k,ve'.ownBlock=some k→ve.ownBlock=some k∨w.heap.size≤k
section
variable {w:World} {B bW gT:Nat} {vc vt ve:Value} {P:Pg} {S:Wst}
theorem wk_next (h:WkAt w B bW gT vc vt ve P S) (hBw:B≤w.heap.size) (i:Nat) (hi:i < P.threads.length) {t:Th} (ht:S.ths[i]?=some t) (hl:S.evs.length≤100000):
  Calls Tryz.prog 115 #[.pointer (some ⟨bW,0,none⟩),.int .i64 i] w (NextPost B bW gT vc vt ve P S i w (nextOf P i t)):=by
 have htk:=h.tok i t ht
 unfold nextOf
 cases hd:thDone P i t with
 |true=>rw[if_pos (.inl rfl)];exact wk_next_done h i hi ht hd
 |false=>
  by_cases hw:t.waits=0
  ·rw [if_neg (by simp[hw])]
   by_cases hb:t.begun=true
   case neg=>
    have hb:t.begun=false:=by simpa using hb
    have e:ownEv P i t={ev0 1 with thread:=i}:=by unfold ownEv;rw[if_pos hb]
    simp only[e]
    rw[if_pos hb]
    exact wk_next_begin h hBw i hi ht hd hw hb hl
   case pos=>
    have htx:=tx_lt h.ok hi htk hd
    have hnb:¬t.begun=false:=by simp[hb]
    simp only[]
    rw[if_neg hnb]
    cases ha:(P.acts i t.tx)[t.act]? with
    |none=>
     have e:ownEv P i t=ev0 4:=by unfold ownEv;rw[if_neg (by simp[hb]),ha]
     have hx:t.act=(P.acts i t.tx).length:=by have:=htk.act;have:=List.getElem?_eq_none_iff.1 ha;omega
     rw[e]
     exact wk_next_try h hBw i hi ht hd hw hb hx hl
    |some a=>
     rcases h.ok.at hi htx ha with⟨hk,-⟩|⟨hk,-,-,hv⟩
     ·have e:ownEv P i t=ev0 7:=by unfold ownEv;rw[if_neg (by simp[hb]),ha];simp[hk]
      rw[e]
      exact wk_next_cancel h hBw i hi ht hd hw hb ha hk hl
     ·rcases hk with⟨hk,-⟩|hk|hk
      ·have e:ownEv P i t=⟨2,0,0,a.cell,1,0,0,0⟩:=by unfold ownEv askOf;rw[if_neg (by simp[hb]),ha];simp[hk]
       rw[e]
       exact wk_next_ask1 h hBw i hi ht hd hw hb ha hk hl
      ·have e:ownEv P i t=⟨2,0,0,a.cell,2,0,a.val,0⟩:=by unfold ownEv askOf;rw[if_neg (by simp[hb]),ha];simp[hk]
       rw[e]
       exact wk_next_ask2 h hBw i hi ht hd hw hb ha hk hl
      ·by_cases had:t.adding=true
       case neg=>
        have had:t.adding=false:=by simpa using had
        have e:ownEv P i t=⟨2,0,0,a.cell,1,0,0,0⟩:=by unfold ownEv askOf;rw[if_neg (by simp[hb]),ha];simp[hk,had]
        rw[e]
        exact wk_next_ask3r h hBw i hi ht hd hw hb ha hk hv had hl
       case pos=>
        have e:ownEv P i t=⟨2,0,0,a.cell,2,0,a.val+t.read,0⟩:=by unfold ownEv askOf;rw[if_neg (by simp[hb]),ha];simp[hk,had]
        rw[e]
        exact wk_next_ask3w h hBw i hi ht hd hw hb ha hk hv had hl
  ·rw [if_pos (.inr hw)]
   exact wk_next_still h i hi ht hd hw
theorem wk_answer (h:WkAt w B bW gT vc vt ve P S) (hBw:B≤w.heap.size) (i:Nat) (hi:i < P.threads.length) {t:Th} (ht:S.ths[i]?=some t) (val:Int) (abort:Bool) (hv:within9 val=true) (hv2:∀a,(P.acts i t.tx)[t.act]?=some a→a.kind=3→t.adding=false→within9 (val+a.val)=true) (hl:S.evs.length≤100000):
  Calls Tryz.prog 145 #[.pointer (some ⟨bW,0,none⟩),.int .i64 i,.int .i64 val,.bool abort] w (NextPost B bW gT vc vt ve P S i w (ansOf P i t val abort)):=by
 have htk:=h.tok i t ht
 unfold ansOf
 cases hd:thDone P i t with
 |true=>rw[if_pos (.inl rfl)];exact wk_answer_done h i hi ht hd val abort
 |false=>
  by_cases hw:t.waits=0
  ·rw [if_pos (.inr hw)]
   exact wk_answer_still h i hi ht hd hw val abort
  ·rw [if_neg (by simp[hw])]
   have htx:=tx_lt h.ok hi htk hd
   cases abort with
   |true=>rw[if_pos rfl];exact wk_answer_abort h hBw i hi ht hd hw val hl
   |false=>
    rw[if_neg (by simp)]
    rcases htk.waits with hw0|⟨-,⟨hw2,a,ha,hk4⟩|⟨hw4,-⟩|⟨hw7,-⟩⟩
    ·exact absurd hw0 hw
    ·rw [if_neg (by omega),if_neg (by omega),ha]
     dsimp only
     rcases h.ok.at hi htx ha with⟨hk,-⟩|⟨hk,-,-,-⟩
     ·exact absurd hk hk4
     ·rcases hk with⟨hk,-⟩|hk|hk
      ·rw [if_pos (.inl hk),if_neg (by simp[hv,hk]),if_neg (by omega)]
       exact wk_answer_read h hBw i hi ht hd hw2 ha hk val hv hl
      ·rw [if_neg (by simp[hk])]
       exact wk_answer_write h hBw i hi ht hd hw2 ha hk val hl
      ·by_cases had:t.adding=true
       case neg=>
        have had:t.adding=false:=by simpa using had
        have hv2:=hv2 a ha hk had
        rw[if_pos (.inr ⟨hk,had⟩),if_neg (by simp[hv,hv2]),if_pos hk]
        exact wk_answer_add h hBw i hi ht hd hw2 ha hk had val hv hv2 hl
       case pos=>
        rw[if_neg (by simp[hk,had])]
        exact wk_answer_added h hBw i hi ht hd hw2 ha hk had val hl
    ·rw [if_pos hw4]
     exact wk_answer_try h hBw i hi ht hd hw4 val hl
    ·rw [if_neg (by omega),if_pos hw7]
     exact wk_answer_cancel h i hi ht hd hw7 val
end
end
