/- Parts of the proof, merged by program out of 2 texts (EmL, EmN): the first: The walk through a program, in memory: Next where nothing happens, and where a transaction begins. Conditions: those of each theorem, as typed. -/
import Derived.Test.YtkfhgifhfkcehaaGreatDoorQL11
set_option linter.unusedVariables false
set_option linter.unusedSimpArgs false
set_option linter.unusedSectionVars false
set_option maxRecDepth 100000
set_option maxHeartbeats 4000000
namespace Go.Proofs.YtkfhgifhfkcehaaGreatDoor
open Go.RowKit
section
attribute [local irreducible] wpL
section
variable {w:World} {B bW gT:Nat} {vc vt ve:Value} {P:Pg} {S:Wst}
theorem wk_next_done (h:WkAt w B bW gT vc vt ve P S) (i:Nat) (hi:i < P.threads.length) {t:Th} (ht:S.ths[i]?=some t) (hd:thDone P i t=true):
  Calls Tryz.prog 115 #[.pointer (some ⟨bW,0,none⟩),.int .i64 i] w fun x w'=>
  x=.returned (.tuple #[evV ⟨0,0,0,0,0,0,0,0⟩,.bool false])∧Below w.heap.size w w':=by
 have H:=hid h
 have HT:=hid ht
 clear h ht
 have ba:Below w.heap.size w (w.alloc (.cells #[.int .i64 0,.int .i64 0,.int .i64 0,.int .i64 0,.int .i64 0,.int .i64 0,.int .i64 0,.int .i64 0] 53)):=(Below.refl _ _).alloc (Nat.le_refl _) _
 have RZ:=hid (row_new w (.cells #[.int .i64 0,.int .i64 0,.int .i64 0,.int .i64 0,.int .i64 0,.int .i64 0,.int .i64 0,.int .i64 0] 53))
 go_enter Tryz.func115,Tryz.ntmps115
 go_wp2_with fail
 obtain⟨W0,hW⟩:∃W,W=w.alloc (.cells #[.int .i64 0,.int .i64 0,.int .i64 0,.int .i64 0,.int .i64 0,.int .i64 0,.int .i64 0,.int .i64 0] 53):=⟨_,rfl⟩
 have zW0:W0.heap.size=w.heap.size+1:=by rw[hW];simp
 rw[←hW] at ba RZ ⊢
 have BA0:=hid ba
 have HW0:=hid (H.out.below ba)
 clear ba hW
 refine(wk_of_in HW0.out i hi HT.out).mono ?_
 rintro x w1 ⟨rfl,rfl⟩
 rw[hd]
 have bd:Below W0.heap.size W0 W0.drew:=(Below.refl _ _).drew
 have RZ:W0.drew.heap[w.heap.size]?=_:=RZ.out
 have zW:W0.drew.heap.size=w.heap.size+1:=zW0
 obtain⟨W,hW⟩:∃W,W=W0.drew:=⟨_,rfl⟩
 rw[←hW] at bd RZ zW ⊢
 have zW':w.heap.size+1≤W.heap.size:=Nat.le_of_eq zW.symm
 have BA:=hid (BA0.out.trans (bd.mono (by omega)))
 have HW:=hid (HW0.out.below bd)
 have RZ:=hid RZ
 clear bd hW HW0 BA0 zW0 zW
 have zf:∀j,W.frozen? ⟨w.heap.size,j,none⟩=false:=fun j=>row_free RZ.out j
 have zc:=row_cell RZ.out
 have y0:W.cell? ⟨w.heap.size,0,none⟩=some (.int .i64 0):=zc 0
 have y1:W.cell? ⟨w.heap.size,1,none⟩=some (.int .i64 0):=zc 1
 have y2:W.cell? ⟨w.heap.size,2,none⟩=some (.int .i64 0):=zc 2
 have y3:W.cell? ⟨w.heap.size,3,none⟩=some (.int .i64 0):=zc 3
 have y4:W.cell? ⟨w.heap.size,4,none⟩=some (.int .i64 0):=zc 4
 have y5:W.cell? ⟨w.heap.size,5,none⟩=some (.int .i64 0):=zc 5
 have y6:W.cell? ⟨w.heap.size,6,none⟩=some (.int .i64 0):=zc 6
 have y7:W.cell? ⟨w.heap.size,7,none⟩=some (.int .i64 0):=zc 7
 clear zc
 go_wp2
 all_goals have WR6:=((((((((Wr.start RZ.out).set 0 (.int .i64 0)).set 1 (.int .i64 0)).set 2 (.int .i64 0)).set 3 (.int .i64 0)).set 4 (.int .i64 0)).set 5 (.int .i64 0)).set 6 (.int .i64 0)).set 7 (.int .i64 0)
 all_goals generalize ((((((((W).setCell ⟨w.heap.size,0,none⟩ (.int .i64 0)).setCell ⟨w.heap.size,1,none⟩ (.int .i64 0)).setCell ⟨w.heap.size,2,none⟩ (.int .i64 0)).setCell ⟨w.heap.size,3,none⟩ (.int .i64 0)).setCell ⟨w.heap.size,4,none⟩ (.int .i64 0)).setCell ⟨w.heap.size,5,none⟩ (.int .i64 0)).setCell ⟨w.heap.size,6,none⟩ (.int .i64 0)).setCell ⟨w.heap.size,7,none⟩ (.int .i64 0)=W6 at *
 all_goals have cc:=row_cell WR6.row
 all_goals have cc0:=cc 0
 all_goals have cc1:=cc 1
 all_goals have cc2:=cc 2
 all_goals have cc3:=cc 3
 all_goals have cc4:=cc 4
 all_goals have cc5:=cc 5
 all_goals have cc6:=cc 6
 all_goals have cc7:=cc 7
 all_goals simp at cc0 cc1 cc2 cc3 cc4 cc5 cc6 cc7
 all_goals refine bodyPost_ret (v:=.tuple #[evV ⟨0,0,0,0,0,0,0,0⟩,.bool false]) (by simp[results,Tryz.results115,go_sem,cc0,cc1,cc2,cc3,cc4,cc5,cc6,cc7]) rfl ⟨rfl,BA.out.trans (WR6.below (Nat.le_refl _))⟩
theorem wk_next_still (h:WkAt w B bW gT vc vt ve P S) (i:Nat) (hi:i < P.threads.length) {t:Th} (ht:S.ths[i]?=some t) (hd:thDone P i t=false) (hw:t.waits≠0):
  Calls Tryz.prog 115 #[.pointer (some ⟨bW,0,none⟩),.int .i64 i] w fun x w'=>
  x=.returned (.tuple #[evV ⟨0,0,0,0,0,0,0,0⟩,.bool false])∧Below w.heap.size w w':=by
 have H:=hid h
 have HT:=hid ht
 clear h ht
 have ba:Below w.heap.size w (w.alloc (.cells #[.int .i64 0,.int .i64 0,.int .i64 0,.int .i64 0,.int .i64 0,.int .i64 0,.int .i64 0,.int .i64 0] 53)):=(Below.refl _ _).alloc (Nat.le_refl _) _
 have RZ:=hid (row_new w (.cells #[.int .i64 0,.int .i64 0,.int .i64 0,.int .i64 0,.int .i64 0,.int .i64 0,.int .i64 0,.int .i64 0] 53))
 go_enter Tryz.func115,Tryz.ntmps115
 go_wp2_with fail
 obtain⟨W0,hW⟩:∃W,W=w.alloc (.cells #[.int .i64 0,.int .i64 0,.int .i64 0,.int .i64 0,.int .i64 0,.int .i64 0,.int .i64 0,.int .i64 0] 53):=⟨_,rfl⟩
 have zW0:W0.heap.size=w.heap.size+1:=by rw[hW];simp
 rw[←hW] at ba RZ ⊢
 have BA0:=hid ba
 have HW0:=hid (H.out.below ba)
 clear ba hW
 refine(wk_of_in HW0.out i hi HT.out).mono ?_
 rintro x w1 ⟨rfl,rfl⟩
 rw[hd]
 have bd:Below W0.heap.size W0 W0.drew:=(Below.refl _ _).drew
 have RZ:W0.drew.heap[w.heap.size]?=_:=RZ.out
 have zW:W0.drew.heap.size=w.heap.size+1:=zW0
 obtain⟨W,hW⟩:∃W,W=W0.drew:=⟨_,rfl⟩
 rw[←hW] at bd RZ zW ⊢
 have zW':w.heap.size+1≤W.heap.size:=Nat.le_of_eq zW.symm
 have BA:=hid (BA0.out.trans (bd.mono (by omega)))
 have HW:=hid (HW0.out.below bd)
 have RZ:=hid RZ
 clear bd hW HW0 BA0 zW0 zW
 have zf:∀j,W.frozen? ⟨w.heap.size,j,none⟩=false:=fun j=>row_free RZ.out j
 have zc:=row_cell RZ.out
 have y0:W.cell? ⟨w.heap.size,0,none⟩=some (.int .i64 0):=zc 0
 have y1:W.cell? ⟨w.heap.size,1,none⟩=some (.int .i64 0):=zc 1
 have y2:W.cell? ⟨w.heap.size,2,none⟩=some (.int .i64 0):=zc 2
 have y3:W.cell? ⟨w.heap.size,3,none⟩=some (.int .i64 0):=zc 3
 have y4:W.cell? ⟨w.heap.size,4,none⟩=some (.int .i64 0):=zc 4
 have y5:W.cell? ⟨w.heap.size,5,none⟩=some (.int .i64 0):=zc 5
 have y6:W.cell? ⟨w.heap.size,6,none⟩=some (.int .i64 0):=zc 6
 have y7:W.cell? ⟨w.heap.size,7,none⟩=some (.int .i64 0):=zc 7
 obtain⟨t2,ht2,-,-,hc⟩:=HW.out.at hi
 rw[HT.out] at ht2
 obtain rfl:=Option.some.inj ht2
 have c5:W.cell? ⟨gT,i*6+5,none⟩=some (.int .i64 t.waits):=hc 5 (by decide)
 have hw0:(t.waits==0)=false:=by simpa using hw
 have hw1:(t.waits !=0)=true:=by simpa using hw
 clear hc ht2
 clear zc
 go_wp2
 all_goals have WR6:=((((((((Wr.start RZ.out).set 0 (.int .i64 0)).set 1 (.int .i64 0)).set 2 (.int .i64 0)).set 3 (.int .i64 0)).set 4 (.int .i64 0)).set 5 (.int .i64 0)).set 6 (.int .i64 0)).set 7 (.int .i64 0)
 all_goals generalize ((((((((W).setCell ⟨w.heap.size,0,none⟩ (.int .i64 0)).setCell ⟨w.heap.size,1,none⟩ (.int .i64 0)).setCell ⟨w.heap.size,2,none⟩ (.int .i64 0)).setCell ⟨w.heap.size,3,none⟩ (.int .i64 0)).setCell ⟨w.heap.size,4,none⟩ (.int .i64 0)).setCell ⟨w.heap.size,5,none⟩ (.int .i64 0)).setCell ⟨w.heap.size,6,none⟩ (.int .i64 0)).setCell ⟨w.heap.size,7,none⟩ (.int .i64 0)=W6 at *
 all_goals have cc:=row_cell WR6.row
 all_goals have cc0:=cc 0
 all_goals have cc1:=cc 1
 all_goals have cc2:=cc 2
 all_goals have cc3:=cc 3
 all_goals have cc4:=cc 4
 all_goals have cc5:=cc 5
 all_goals have cc6:=cc 6
 all_goals have cc7:=cc 7
 all_goals simp at cc0 cc1 cc2 cc3 cc4 cc5 cc6 cc7
 all_goals refine bodyPost_ret (v:=.tuple #[evV ⟨0,0,0,0,0,0,0,0⟩,.bool false]) (by simp[results,Tryz.results115,go_sem,cc0,cc1,cc2,cc3,cc4,cc5,cc6,cc7]) rfl ⟨rfl,BA.out.trans (WR6.below (Nat.le_refl _))⟩
theorem wk_next_begin (h:WkAt w B bW gT vc vt ve P S) (hBw:B≤w.heap.size) (i:Nat) (hi:i < P.threads.length) {t:Th} (ht:S.ths[i]?=some t) (hd:thDone P i t=false) (hw:t.waits=0) (hb:t.begun=false) (hl:S.evs.length≤100000):
  Calls Tryz.prog 115 #[.pointer (some ⟨bW,0,none⟩),.int .i64 i] w fun x w'=>
  x=.returned (.tuple #[evV (withTx {ev0 1 with thread:=i} (idOf i t.tx)),.bool true])∧∃ve',WkAt w' B bW gT vc vt ve' P ⟨S.ths.set i {t with begun:=true},S.evs++[withTx {ev0 1 with thread:=i} (idOf i t.tx)]⟩∧Kp Mw ve w w'∧Below B w w'∧∀k,ve'.ownBlock=some k→ve.ownBlock=some k∨w.heap.size≤k:=by
 have H:=hid h
 have HT:=hid ht
 have hB':=hid hBw
 have hgT:=(h.ths.lt gT rfl).2
 have htk:=h.tok i t ht
 have htx:=tx_lt h.ok hi htk hd
 have ht3:=Pg.tx3 h.ok hi
 have hm:P.threads.length≤4:=h.ok.threads.2
 clear h ht
 have ba:Below w.heap.size w (w.alloc (.cells #[.int .i64 0,.int .i64 0,.int .i64 0,.int .i64 0,.int .i64 0,.int .i64 0,.int .i64 0,.int .i64 0] 53)):=(Below.refl _ _).alloc (Nat.le_refl _) _
 have RZ:=hid (row_new w (.cells #[.int .i64 0,.int .i64 0,.int .i64 0,.int .i64 0,.int .i64 0,.int .i64 0,.int .i64 0,.int .i64 0] 53))
 go_enter Tryz.func115,Tryz.ntmps115
 go_wp2_with fail
 obtain⟨W0,hW⟩:∃W,W=w.alloc (.cells #[.int .i64 0,.int .i64 0,.int .i64 0,.int .i64 0,.int .i64 0,.int .i64 0,.int .i64 0,.int .i64 0] 53):=⟨_,rfl⟩
 have zW0:W0.heap.size=w.heap.size+1:=by rw[hW];simp
 rw[←hW] at ba RZ ⊢
 have BA0:=hid ba
 have HW0:=hid (H.out.below ba)
 clear ba hW
 refine(wk_of_in HW0.out i hi HT.out).mono ?_
 rintro x w1 ⟨rfl,rfl⟩
 rw[hd]
 have bd:Below W0.heap.size W0 W0.drew:=(Below.refl _ _).drew
 have RZ:W0.drew.heap[w.heap.size]?=_:=RZ.out
 have zW:W0.drew.heap.size=w.heap.size+1:=zW0
 obtain⟨W,hW⟩:∃W,W=W0.drew:=⟨_,rfl⟩
 rw[←hW] at bd RZ zW ⊢
 have zW':w.heap.size+1≤W.heap.size:=Nat.le_of_eq zW.symm
 have BA:=hid (BA0.out.trans (bd.mono (by omega)))
 have HW:=hid (HW0.out.below bd)
 have RZ:=hid RZ
 clear bd hW HW0 BA0 zW0 zW
 obtain⟨t2,ht2,-,-,hc⟩:=HW.out.at hi
 rw[HT.out] at ht2
 obtain rfl:=Option.some.inj ht2
 have c5:W.cell? ⟨gT,i*6+5,none⟩=some (.int .i64 t.waits):=hc 5 (by decide)
 have c2:W.cell? ⟨gT,i*6+2,none⟩=some (.bool t.begun):=hc 2 (by decide)
 rw[hw] at c5
 rw[hb] at c2
 obtain⟨csT,rT⟩:=OwnF.keepObj HW.out.ths gT rfl
 have fT:∀j,W.frozen? ⟨gT,j,none⟩=false:=fun j=>row_free rT j
 have RTX:=hid rT
 have HX:=hid HW.out
 have RZX:=hid RZ.out
 clear hc ht2 rT
 go_wp2_with fail
 have hgTB:=(H.out.ths.lt gT rfl).1
 have WR3:=(Wr.start RTX.out).set (i*6+2) (.bool true)
 have g:∀(l:List Th) (x:Th),i < l.length→(l.set i x)[i]?=some x:=fun l x h=>List.getElem?_set_self h
 have hlen:S.ths.length=P.threads.length:=HX.out.ths.len
 have s1:OwnF Th.cells 283 6 (W.setCell ⟨gT,i*6+2,none⟩ (.bool true)) B (.slice (some ⟨gT,0,none⟩) P.threads.length P.threads.length) (S.ths.set i {t with begun:=true}):=ths_set (j:=2) HX.out.ths (u:={t with begun:=true}) HT.out (by decide) (by rfl)
 generalize W.setCell ⟨gT,i*6+2,none⟩ (.bool true)=X3 at *
 have neR:bW≠gT:=by
  rintro rfl
  have h1:=HX.out.row
  rw[RTX.out] at h1
  simp only[Option.some.injEq,Obj.cells.injEq] at h1
  exact absurd h1.2.1 (by decide)
 have K3:Kp Mw ve W X3:=Kp.wrT RTX.out (.inr rfl) WR3
 have HX3:=hid (HX.out.ths_put hi (u:={t with begun:=true}) ⟨htk.tx,htk.act,.inl hw,htk.read⟩ K3 (WR3.other bW neR) s1 (OwnF.wr HX.out.evs WR3 (OwnF.neT HX.out.evs RTX.out (by decide))))
 have zX3:w.heap.size+1≤X3.heap.size:=by have:=WR3.size;omega
 refine(wk_happens HX3.out (by omega) i hi (g _ _ (by omega)) (show t.tx < 3 by omega) ({ev0 1 with thread:=i}) hl).mono ?_
 rintro x w1 ⟨rfl,ve1,h1,kp1,b1,ow1⟩
 clear RTX c2 c5 fT
 have RQ:Hid (w1.heap[w.heap.size]?=some (.cells #[.int .i64 0,.int .i64 0,.int .i64 0,.int .i64 0,.int .i64 0,.int .i64 0,.int .i64 0,.int .i64 0] 53 (0,0))):=hid (by
  refine kp1.cells _ _ _ _ ((WR3.other w.heap.size (by omega)).trans RZX.out) (fun hM=>?_) fun _ e=>?_
  ·rcases hM with h|h <;> exact absurd h (by decide)
  ·have:=(H.out.evs.lt _ e).2;omega)
 have KPA:Hid (Kp Mw ve w w1):=hid (((Kp.of_below (ev:=ve) BA.out).trans K3 fun _ h=>.inl h).trans kp1 fun _ h=>.inl h)
 have BAL:Hid (Below B w w1):=hid (((BA.out.mono hB'.out).trans (WR3.below hgTB)).trans b1)
 have H1:=hid h1
 have OW1:=hid ow1
 have z1:w.heap.size+1≤w1.heap.size:=by have:=kp1.size;omega
 clear h1 kp1 b1 ow1 WR3 K3 s1 g RZX
 generalize hE:withTx {ev0 1 with thread:=i} (idOf i t.tx)=E at *
 obtain⟨k1,k2,k3,k4,k5,k6,k7,k8⟩:=E
 have zf:∀j,w1.frozen? ⟨w.heap.size,j,none⟩=false:=fun j=>row_free RQ.out j
 have zc:=row_cell RQ.out
 have y0:w1.cell? ⟨w.heap.size,0,none⟩=some (.int .i64 0):=zc 0
 have y1:w1.cell? ⟨w.heap.size,1,none⟩=some (.int .i64 0):=zc 1
 have y2:w1.cell? ⟨w.heap.size,2,none⟩=some (.int .i64 0):=zc 2
 have y3:w1.cell? ⟨w.heap.size,3,none⟩=some (.int .i64 0):=zc 3
 have y4:w1.cell? ⟨w.heap.size,4,none⟩=some (.int .i64 0):=zc 4
 have y5:w1.cell? ⟨w.heap.size,5,none⟩=some (.int .i64 0):=zc 5
 have y6:w1.cell? ⟨w.heap.size,6,none⟩=some (.int .i64 0):=zc 6
 have y7:w1.cell? ⟨w.heap.size,7,none⟩=some (.int .i64 0):=zc 7
 clear zc
 go_wp2
 have WR6:=((((((((Wr.start RQ.out).set 0 (.int .i64 k1)).set 1 (.int .i64 k2)).set 2 (.int .i64 k3)).set 3 (.int .i64 k4)).set 4 (.int .i64 k5)).set 5 (.int .i64 k6)).set 6 (.int .i64 k7)).set 7 (.int .i64 k8)
 generalize ((((((((w1).setCell ⟨w.heap.size,0,none⟩ (.int .i64 k1)).setCell ⟨w.heap.size,1,none⟩ (.int .i64 k2)).setCell ⟨w.heap.size,2,none⟩ (.int .i64 k3)).setCell ⟨w.heap.size,3,none⟩ (.int .i64 k4)).setCell ⟨w.heap.size,4,none⟩ (.int .i64 k5)).setCell ⟨w.heap.size,5,none⟩ (.int .i64 k6)).setCell ⟨w.heap.size,6,none⟩ (.int .i64 k7)).setCell ⟨w.heap.size,7,none⟩ (.int .i64 k8)=W6 at *
 obtain⟨hf1,hf2⟩:=WkAt.wrR H.out H1.out KPA.out (fun k hk=>(OW1.out k hk).imp id fun h=>by omega) rfl WR6
 have cc:=row_cell WR6.row
 have cc0:=cc 0
 have cc1:=cc 1
 have cc2:=cc 2
 have cc3:=cc 3
 have cc4:=cc 4
 have cc5:=cc 5
 have cc6:=cc 6
 have cc7:=cc 7
 simp at cc0 cc1 cc2 cc3 cc4 cc5 cc6 cc7
 refine bodyPost_ret (v:=.tuple #[evV ⟨k1,k2,k3,k4,k5,k6,k7,k8⟩,.bool true]) (by simp[results,Tryz.results115,go_sem,cc0,cc1,cc2,cc3,cc4,cc5,cc6,cc7]) rfl ⟨by first|rfl|rw[hE],ve1,by first|exact hf1|(rw[hE];exact hf1),hf2,?_,fun k hk=>(OW1.out k hk).imp id fun h=>by omega⟩
 exact BAL.out.trans (WR6.below hB'.out)
end
end
section
attribute [local irreducible] wpL
section
variable {w:World} {B bW gT:Nat} {vc vt ve:Value} {P:Pg} {S:Wst}
theorem WkAt.actsL (h:WkAt w B bW gT vc vt ve P S) {i:Nat} (hi:i < P.threads.length) {k:Nat} (hk:k < (P.txs i).length):
  ∃gt ct gx cx ga ca,vt=.slice (some ⟨gt,0,none⟩) P.threads.length ct∧w.cell? ⟨gt,i,none⟩=some (.slice (some ⟨gx,0,none⟩) (P.txs i).length cx)∧
   w.cell? ⟨gx,k,none⟩=some (.slice ga (P.acts i k).length ca)∧(P.acts i k).length≤6∧gt < w.heap.size∧gx < w.heap.size:=by
 obtain⟨gt,ct,u,c,rfl,hgt,hct,hx⟩:=h.txs hi
 obtain⟨vs,h1,h2,h3⟩:=hx
 obtain⟨gx,ux,rfl,hgx,hux,hcx⟩:=h1.at1 h2 hk
 obtain⟨x,hx⟩:∃x,(P.txs i)[k]?=some x:=⟨_,List.getElem?_eq_getElem hk⟩
 have hax:P.acts i k=x:=by unfold Pg.acts;rw[List.getD_eq_getElem?_getD,hx];rfl
 have h4:=h3 k ux x hux hx
 rw[hax]
 obtain⟨b,ca,rfl,-⟩:=OwnF.form2 h4
 have hl6:x.length≤6:=by
  obtain⟨y,hy⟩:∃y,P.threads[i]?=some y:=⟨_,List.getElem?_eq_getElem hi⟩
  rw[Pg.txs_at hy] at hx
  exact(h.ok.acts y (List.mem_of_getElem? hy) x (List.mem_of_getElem? hx)).2
 exact⟨gt,ct,gx,c,b,ca,rfl,hct,hcx,hl6,hgt,hgx⟩
theorem wk_next_try (h:WkAt w B bW gT vc vt ve P S) (hBw:B≤w.heap.size) (i:Nat) (hi:i < P.threads.length) {t:Th} (ht:S.ths[i]?=some t) (hd:thDone P i t=false) (hw:t.waits=0) (hb:t.begun=true) (hx:t.act=(P.acts i t.tx).length) (hl:S.evs.length≤100000):
  Calls Tryz.prog 115 #[.pointer (some ⟨bW,0,none⟩),.int .i64 i] w fun x w'=>
  x=.returned (.tuple #[evV (withTx (ev0 4) (idOf i t.tx)),.bool true])∧∃ve',WkAt w' B bW gT vc vt ve' P ⟨S.ths.set i {t with waits:=4},S.evs++[withTx (ev0 4) (idOf i t.tx)]⟩∧Kp Mw ve w w'∧Below B w w'∧∀k,ve'.ownBlock=some k→ve.ownBlock=some k∨w.heap.size≤k:=by
 have H:=hid h
 have HT:=hid ht
 have hB':=hid hBw
 have hgT:=(h.ths.lt gT rfl).2
 have htk:=h.tok i t ht
 have htx:=tx_lt h.ok hi htk hd
 have ht3:=Pg.tx3 h.ok hi
 have hm:P.threads.length≤4:=h.ok.threads.2
 clear h ht
 have ba:Below w.heap.size w (w.alloc (.cells #[.int .i64 0,.int .i64 0,.int .i64 0,.int .i64 0,.int .i64 0,.int .i64 0,.int .i64 0,.int .i64 0] 53)):=(Below.refl _ _).alloc (Nat.le_refl _) _
 have RZ:=hid (row_new w (.cells #[.int .i64 0,.int .i64 0,.int .i64 0,.int .i64 0,.int .i64 0,.int .i64 0,.int .i64 0,.int .i64 0] 53))
 go_enter Tryz.func115,Tryz.ntmps115
 go_wp2_with fail
 obtain⟨W0,hW⟩:∃W,W=w.alloc (.cells #[.int .i64 0,.int .i64 0,.int .i64 0,.int .i64 0,.int .i64 0,.int .i64 0,.int .i64 0,.int .i64 0] 53):=⟨_,rfl⟩
 have zW0:W0.heap.size=w.heap.size+1:=by rw[hW];simp
 rw[←hW] at ba RZ ⊢
 have BA0:=hid ba
 have HW0:=hid (H.out.below ba)
 clear ba hW
 refine(wk_of_in HW0.out i hi HT.out).mono ?_
 rintro x w1 ⟨rfl,rfl⟩
 rw[hd]
 have bd:Below W0.heap.size W0 W0.drew:=(Below.refl _ _).drew
 have RZ:W0.drew.heap[w.heap.size]?=_:=RZ.out
 have zW:W0.drew.heap.size=w.heap.size+1:=zW0
 obtain⟨W,hW⟩:∃W,W=W0.drew:=⟨_,rfl⟩
 rw[←hW] at bd RZ zW ⊢
 have zW':w.heap.size+1≤W.heap.size:=Nat.le_of_eq zW.symm
 have BA:=hid (BA0.out.trans (bd.mono (by omega)))
 have HW:=hid (HW0.out.below bd)
 have RZ:=hid RZ
 clear bd hW HW0 BA0 zW0 zW
 obtain⟨t2,ht2,-,-,hc⟩:=HW.out.at hi
 rw[HT.out] at ht2
 obtain rfl:=Option.some.inj ht2
 have c5:W.cell? ⟨gT,i*6+5,none⟩=some (.int .i64 t.waits):=hc 5 (by decide)
 have c0:W.cell? ⟨gT,i*6,none⟩=some (.int .i64 t.tx):=hc 0 (by decide)
 have c1:W.cell? ⟨gT,i*6+1,none⟩=some (.int .i64 t.act):=hc 1 (by decide)
 have c2:W.cell? ⟨gT,i*6+2,none⟩=some (.bool t.begun):=hc 2 (by decide)
 rw[hw] at c5
 rw[hb] at c2
 obtain⟨csT,rT⟩:=OwnF.keepObj HW.out.ths gT rfl
 have fT:∀j,W.frozen? ⟨gT,j,none⟩=false:=fun j=>row_free rT j
 have zgT:=row_lt rT
 have RT:=hid rT
 clear hc ht2 rT
 obtain⟨gt,ct,gx,cx,ga,ca,rfl,d4,d5,hl6,zgt,zgx⟩:=HW.out.actsL hi htx
 have d1:W.cell? ⟨bW,1,none⟩=some (.slice (some ⟨gt,0,none⟩) P.threads.length ct):=row_cell HW.out.row 1
 obtain⟨n1,hn1⟩:∃n,n=P.threads.length:=⟨_,rfl⟩
 obtain⟨n2,hn2⟩:∃n,n=(P.txs i).length:=⟨_,rfl⟩
 obtain⟨n3,hn3⟩:∃n,n=(P.acts i t.tx).length:=⟨_,rfl⟩
 have hi':i < n1:=by omega
 have htx':t.tx < n2:=by omega
 have hj':t.act=n3:=by omega
 have hjb:((t.act:Int)==(n3:Int))=true:=by rw[hj'];simp
 rw[←hn1] at d1
 rw[←hn2] at d4
 rw[←hn3] at d5
 have HN:=hid (And.intro hn1 (And.intro hn2 hn3))
 have HX0:=hid hx
 clear hn1 hn2 hn3 hx hj'
 go_wp2_with fail
 refine wp_region_x [0,0,0,0,1,0,0,1,0,0,0,1,0,1,0] [0,1,2,3,4,5,6,7,8,9,10,11,12,13,14] (by kernel_rfl) ?_
 simp only[selX,guardAt,sD,sE,sF,sG]
 repeat first|(refine wpL_p fun K hK=>?_;go_simp;refine hK _ _ ?_;clear hK K)|(apply wpL_s;(intro w2 hw2;have hk1:=hw2.cell;have hk3:=hw2.heap;clear hw2;go_simp;with_reducible rfl);simp only[Act.put,sA,sB,sC])|refine wpL_nil ?_
 clear d1 d4 d5 c0
 go_wp2_with fail
 have hgTB:=(H.out.ths.lt gT rfl).1
 have WR3:=(Wr.start RT.out).set (i*6+5) (.int .i64 4)
 have g:∀(l:List Th) (x:Th),i < l.length→(l.set i x)[i]?=some x:=fun l x h=>List.getElem?_set_self h
 have hlen:S.ths.length=P.threads.length:=HW.out.ths.len
 have s1:OwnF Th.cells 283 6 (W.setCell ⟨gT,i*6+5,none⟩ (.int .i64 4)) B (.slice (some ⟨gT,0,none⟩) P.threads.length P.threads.length) (S.ths.set i {t with waits:=4}):=ths_set (j:=5) HW.out.ths (u:={t with waits:=4}) HT.out (by decide) (by rfl)
 generalize W.setCell ⟨gT,i*6+5,none⟩ (.int .i64 4)=X3 at *
 have neR:bW≠gT:=by
  rintro rfl
  have h1:=HW.out.row
  rw[RT.out] at h1
  simp only[Option.some.injEq,Obj.cells.injEq] at h1
  exact absurd h1.2.1 (by decide)
 have K3:Kp Mw ve W X3:=Kp.wrT RT.out (.inr rfl) WR3
 have hx3:=HW.out.ths_put hi (u:={t with waits:=4}) ⟨htk.tx,htk.act,.inr ⟨hb,.inr (.inl ⟨rfl,HX0.out⟩)⟩,htk.read⟩ K3 (WR3.other bW neR) s1 (OwnF.wr HW.out.evs WR3 (OwnF.neT HW.out.evs RT.out (by decide)))
 have zX3:w.heap.size+1≤X3.heap.size:=by have:=WR3.size;omega
 have bY:Below X3.heap.size X3 (X3.alloc (.cells #[.int .i64 4,.int .i64 0,.int .i64 0,.int .i64 0,.int .i64 0,.int .i64 0,.int .i64 0,.int .i64 0] 53)).drew:=((Below.refl _ _).alloc (Nat.le_refl _) _).drew
 have HY:=hid (hx3.below bY)
 have zY:w.heap.size+1≤(X3.alloc (.cells #[.int .i64 4,.int .i64 0,.int .i64 0,.int .i64 0,.int .i64 0,.int .i64 0,.int .i64 0,.int .i64 0] 53)).drew.heap.size:=by have:=bY.size;omega
 clear hx3
 generalize (X3.alloc (.cells #[.int .i64 4,.int .i64 0,.int .i64 0,.int .i64 0,.int .i64 0,.int .i64 0,.int .i64 0,.int .i64 0] 53)).drew=Y at *
 refine(wk_happens HY.out (by omega) i hi (g _ _ (by omega)) (show t.tx < 3 by omega) (ev0 4) hl).mono ?_
 rintro x w1 ⟨rfl,ve1,h1,kp1,b1,ow1⟩
 clear c1 c2 c5 fT
 have RQ:Hid (w1.heap[w.heap.size]?=some (.cells #[.int .i64 0,.int .i64 0,.int .i64 0,.int .i64 0,.int .i64 0,.int .i64 0,.int .i64 0,.int .i64 0] 53 (0,0))):=hid (by
  refine kp1.cells _ _ _ _ (row_below ((WR3.other w.heap.size (by omega)).trans RZ.out) bY (by have:=WR3.size;omega)) (fun hM=>?_) fun _ e=>?_
  ·rcases hM with h|h <;> exact absurd h (by decide)
  ·have:=(H.out.evs.lt _ e).2;omega)
 have KPA:Hid (Kp Mw ve w w1):=hid ((((Kp.of_below (ev:=ve) BA.out).trans K3 fun _ h=>.inl h).trans (Kp.of_below bY) fun _ h=>.inl h).trans kp1 fun _ h=>.inl h)
 have BAL:Hid (Below B w w1):=hid ((((BA.out.mono hB'.out).trans (WR3.below hgTB)).trans (bY.mono (by have:=WR3.size;omega))).trans b1)
 have H1:=hid h1
 have OW1:=hid ow1
 have z1:w.heap.size+1≤w1.heap.size:=by have:=kp1.size;omega
 clear h1 kp1 b1 ow1 WR3 K3 s1 g bY
 generalize hE:withTx (ev0 4) (idOf i t.tx)=E at *
 obtain⟨k1,k2,k3,k4,k5,k6,k7,k8⟩:=E
 have zf:∀j,w1.frozen? ⟨w.heap.size,j,none⟩=false:=fun j=>row_free RQ.out j
 have zc:=row_cell RQ.out
 have y0:w1.cell? ⟨w.heap.size,0,none⟩=some (.int .i64 0):=zc 0
 have y1:w1.cell? ⟨w.heap.size,1,none⟩=some (.int .i64 0):=zc 1
 have y2:w1.cell? ⟨w.heap.size,2,none⟩=some (.int .i64 0):=zc 2
 have y3:w1.cell? ⟨w.heap.size,3,none⟩=some (.int .i64 0):=zc 3
 have y4:w1.cell? ⟨w.heap.size,4,none⟩=some (.int .i64 0):=zc 4
 have y5:w1.cell? ⟨w.heap.size,5,none⟩=some (.int .i64 0):=zc 5
 have y6:w1.cell? ⟨w.heap.size,6,none⟩=some (.int .i64 0):=zc 6
 have y7:w1.cell? ⟨w.heap.size,7,none⟩=some (.int .i64 0):=zc 7
 clear zc
 go_wp2
 have WR6:=((((((((Wr.start RQ.out).set 0 (.int .i64 k1)).set 1 (.int .i64 k2)).set 2 (.int .i64 k3)).set 3 (.int .i64 k4)).set 4 (.int .i64 k5)).set 5 (.int .i64 k6)).set 6 (.int .i64 k7)).set 7 (.int .i64 k8)
 generalize ((((((((w1).setCell ⟨w.heap.size,0,none⟩ (.int .i64 k1)).setCell ⟨w.heap.size,1,none⟩ (.int .i64 k2)).setCell ⟨w.heap.size,2,none⟩ (.int .i64 k3)).setCell ⟨w.heap.size,3,none⟩ (.int .i64 k4)).setCell ⟨w.heap.size,4,none⟩ (.int .i64 k5)).setCell ⟨w.heap.size,5,none⟩ (.int .i64 k6)).setCell ⟨w.heap.size,6,none⟩ (.int .i64 k7)).setCell ⟨w.heap.size,7,none⟩ (.int .i64 k8)=W6 at *
 obtain⟨hf1,hf2⟩:=WkAt.wrR H.out H1.out KPA.out (fun k hk=>(OW1.out k hk).imp id fun h=>by omega) rfl WR6
 have cc:=row_cell WR6.row
 have cc0:=cc 0
 have cc1:=cc 1
 have cc2:=cc 2
 have cc3:=cc 3
 have cc4:=cc 4
 have cc5:=cc 5
 have cc6:=cc 6
 have cc7:=cc 7
 simp at cc0 cc1 cc2 cc3 cc4 cc5 cc6 cc7
 refine bodyPost_ret (v:=.tuple #[evV ⟨k1,k2,k3,k4,k5,k6,k7,k8⟩,.bool true]) (by simp[results,Tryz.results115,go_sem,cc0,cc1,cc2,cc3,cc4,cc5,cc6,cc7]) rfl ⟨by first|rfl|rw[hE],ve1,by first|exact hf1|(rw[hE];exact hf1),hf2,?_,fun k hk=>(OW1.out k hk).imp id fun h=>by omega⟩
 exact BAL.out.trans (WR6.below hB'.out)
theorem wk_next_cancel (h:WkAt w B bW gT vc vt ve P S) (hBw:B≤w.heap.size) (i:Nat) (hi:i < P.threads.length) {t:Th} (ht:S.ths[i]?=some t) (hd:thDone P i t=false) (hw:t.waits=0) (hb:t.begun=true) {a:Ac} (ha:(P.acts i t.tx)[t.act]?=some a) (hk:a.kind=4) (hl:S.evs.length≤100000):
  Calls Tryz.prog 115 #[.pointer (some ⟨bW,0,none⟩),.int .i64 i] w fun x w'=>
  x=.returned (.tuple #[evV (withTx (ev0 7) (idOf i t.tx)),.bool true])∧∃ve',WkAt w' B bW gT vc vt ve' P ⟨S.ths.set i {t with waits:=7},S.evs++[withTx (ev0 7) (idOf i t.tx)]⟩∧Kp Mw ve w w'∧Below B w w'∧∀k,ve'.ownBlock=some k→ve.ownBlock=some k∨w.heap.size≤k:=by
 have H:=hid h
 have HT:=hid ht
 have hB':=hid hBw
 have hgT:=(h.ths.lt gT rfl).2
 have htk:=h.tok i t ht
 have htx:=tx_lt h.ok hi htk hd
 have ht3:=Pg.tx3 h.ok hi
 have hm:P.threads.length≤4:=h.ok.threads.2
 clear h ht
 have ba:Below w.heap.size w (w.alloc (.cells #[.int .i64 0,.int .i64 0,.int .i64 0,.int .i64 0,.int .i64 0,.int .i64 0,.int .i64 0,.int .i64 0] 53)):=(Below.refl _ _).alloc (Nat.le_refl _) _
 have RZ:=hid (row_new w (.cells #[.int .i64 0,.int .i64 0,.int .i64 0,.int .i64 0,.int .i64 0,.int .i64 0,.int .i64 0,.int .i64 0] 53))
 go_enter Tryz.func115,Tryz.ntmps115
 go_wp2_with fail
 obtain⟨W0,hW⟩:∃W,W=w.alloc (.cells #[.int .i64 0,.int .i64 0,.int .i64 0,.int .i64 0,.int .i64 0,.int .i64 0,.int .i64 0,.int .i64 0] 53):=⟨_,rfl⟩
 have zW0:W0.heap.size=w.heap.size+1:=by rw[hW];simp
 rw[←hW] at ba RZ ⊢
 have BA0:=hid ba
 have HW0:=hid (H.out.below ba)
 clear ba hW
 refine(wk_of_in HW0.out i hi HT.out).mono ?_
 rintro x w1 ⟨rfl,rfl⟩
 rw[hd]
 have bd:Below W0.heap.size W0 W0.drew:=(Below.refl _ _).drew
 have RZ:W0.drew.heap[w.heap.size]?=_:=RZ.out
 have zW:W0.drew.heap.size=w.heap.size+1:=zW0
 obtain⟨W,hW⟩:∃W,W=W0.drew:=⟨_,rfl⟩
 rw[←hW] at bd RZ zW ⊢
 have zW':w.heap.size+1≤W.heap.size:=Nat.le_of_eq zW.symm
 have BA:=hid (BA0.out.trans (bd.mono (by omega)))
 have HW:=hid (HW0.out.below bd)
 have RZ:=hid RZ
 clear bd hW HW0 BA0 zW0 zW
 obtain⟨t2,ht2,-,-,hc⟩:=HW.out.at hi
 rw[HT.out] at ht2
 obtain rfl:=Option.some.inj ht2
 have c5:W.cell? ⟨gT,i*6+5,none⟩=some (.int .i64 t.waits):=hc 5 (by decide)
 have c0:W.cell? ⟨gT,i*6,none⟩=some (.int .i64 t.tx):=hc 0 (by decide)
 have c1:W.cell? ⟨gT,i*6+1,none⟩=some (.int .i64 t.act):=hc 1 (by decide)
 have c2:W.cell? ⟨gT,i*6+2,none⟩=some (.bool t.begun):=hc 2 (by decide)
 rw[hw] at c5
 rw[hb] at c2
 obtain⟨csT,rT⟩:=OwnF.keepObj HW.out.ths gT rfl
 have fT:∀j,W.frozen? ⟨gT,j,none⟩=false:=fun j=>row_free rT j
 have zgT:=row_lt rT
 have RT:=hid rT
 clear hc ht2 rT
 obtain⟨gt,ct,gx,cx,ga,ca,rfl,d4,d5,hj,hl6,a0,a1,a2,zgt,zgx,zga⟩:=HW.out.acts hi htx ha
 have d1:W.cell? ⟨bW,1,none⟩=some (.slice (some ⟨gt,0,none⟩) P.threads.length ct):=row_cell HW.out.row 1
 obtain⟨n1,hn1⟩:∃n,n=P.threads.length:=⟨_,rfl⟩
 obtain⟨n2,hn2⟩:∃n,n=(P.txs i).length:=⟨_,rfl⟩
 obtain⟨n3,hn3⟩:∃n,n=(P.acts i t.tx).length:=⟨_,rfl⟩
 have hi':i < n1:=by omega
 have htx':t.tx < n2:=by omega
 have hj':t.act < n3:=by omega
 have hjb:((t.act:Int)==(n3:Int))=false:=beq_eq_false_iff_ne.2 (by omega)
 rw[←hn1] at d1
 rw[←hn2] at d4
 rw[←hn3] at d5
 have HN:=hid (And.intro hn1 (And.intro hn2 hn3))
 have HA:=hid ha
 have HK:=hid hk
 rw[hk] at a0
 clear hk
 clear hn1 hn2 hn3 ha
 go_wp2_with fail
 refine wp_region_x [0,0,0,0,1,0,0,1,0,0,0,1,0,1,0] [0,1,2,3,4,5,6,7,8,9,10,11,12,13,14] (by kernel_rfl) ?_
 simp only[selX,guardAt,sD,sE,sF,sG]
 repeat first|(refine wpL_p fun K hK=>?_;go_simp;refine hK _ _ ?_;clear hK K)|(apply wpL_s;(intro w2 hw2;have hk1:=hw2.cell;have hk3:=hw2.heap;clear hw2;go_simp;with_reducible rfl);simp only[Act.put,sA,sB,sC])|refine wpL_nil ?_
 clear d1 d4 d5 c0
 go_wp2_with fail
 have hgTB:=(H.out.ths.lt gT rfl).1
 have WR3:=(Wr.start RT.out).set (i*6+5) (.int .i64 7)
 have g:∀(l:List Th) (x:Th),i < l.length→(l.set i x)[i]?=some x:=fun l x h=>List.getElem?_set_self h
 have hlen:S.ths.length=P.threads.length:=HW.out.ths.len
 have s1:OwnF Th.cells 283 6 (W.setCell ⟨gT,i*6+5,none⟩ (.int .i64 7)) B (.slice (some ⟨gT,0,none⟩) P.threads.length P.threads.length) (S.ths.set i {t with waits:=7}):=ths_set (j:=5) HW.out.ths (u:={t with waits:=7}) HT.out (by decide) (by rfl)
 generalize W.setCell ⟨gT,i*6+5,none⟩ (.int .i64 7)=X3 at *
 have neR:bW≠gT:=by
  rintro rfl
  have h1:=HW.out.row
  rw[RT.out] at h1
  simp only[Option.some.injEq,Obj.cells.injEq] at h1
  exact absurd h1.2.1 (by decide)
 have K3:Kp Mw ve W X3:=Kp.wrT RT.out (.inr rfl) WR3
 have hx3:=HW.out.ths_put hi (u:={t with waits:=7}) ⟨htk.tx,htk.act,.inr ⟨hb,.inr (.inr ⟨rfl,a,HA.out,HK.out⟩)⟩,htk.read⟩ K3 (WR3.other bW neR) s1 (OwnF.wr HW.out.evs WR3 (OwnF.neT HW.out.evs RT.out (by decide)))
 have zX3:w.heap.size+1≤X3.heap.size:=by have:=WR3.size;omega
 have bY:Below X3.heap.size X3 (X3.alloc (.cells #[.int .i64 7,.int .i64 0,.int .i64 0,.int .i64 0,.int .i64 0,.int .i64 0,.int .i64 0,.int .i64 0] 53)).drew:=((Below.refl _ _).alloc (Nat.le_refl _) _).drew
 have HY:=hid (hx3.below bY)
 have zY:w.heap.size+1≤(X3.alloc (.cells #[.int .i64 7,.int .i64 0,.int .i64 0,.int .i64 0,.int .i64 0,.int .i64 0,.int .i64 0,.int .i64 0] 53)).drew.heap.size:=by have:=bY.size;omega
 clear hx3
 generalize (X3.alloc (.cells #[.int .i64 7,.int .i64 0,.int .i64 0,.int .i64 0,.int .i64 0,.int .i64 0,.int .i64 0,.int .i64 0] 53)).drew=Y at *
 refine(wk_happens HY.out (by omega) i hi (g _ _ (by omega)) (show t.tx < 3 by omega) (ev0 7) hl).mono ?_
 rintro x w1 ⟨rfl,ve1,h1,kp1,b1,ow1⟩
 clear c1 c2 c5 fT a0 a1 a2
 have RQ:Hid (w1.heap[w.heap.size]?=some (.cells #[.int .i64 0,.int .i64 0,.int .i64 0,.int .i64 0,.int .i64 0,.int .i64 0,.int .i64 0,.int .i64 0] 53 (0,0))):=hid (by
  refine kp1.cells _ _ _ _ (row_below ((WR3.other w.heap.size (by omega)).trans RZ.out) bY (by have:=WR3.size;omega)) (fun hM=>?_) fun _ e=>?_
  ·rcases hM with h|h <;> exact absurd h (by decide)
  ·have:=(H.out.evs.lt _ e).2;omega)
 have KPA:Hid (Kp Mw ve w w1):=hid ((((Kp.of_below (ev:=ve) BA.out).trans K3 fun _ h=>.inl h).trans (Kp.of_below bY) fun _ h=>.inl h).trans kp1 fun _ h=>.inl h)
 have BAL:Hid (Below B w w1):=hid ((((BA.out.mono hB'.out).trans (WR3.below hgTB)).trans (bY.mono (by have:=WR3.size;omega))).trans b1)
 have H1:=hid h1
 have OW1:=hid ow1
 have z1:w.heap.size+1≤w1.heap.size:=by have:=kp1.size;omega
 clear h1 kp1 b1 ow1 WR3 K3 s1 g bY
 generalize hE:withTx (ev0 7) (idOf i t.tx)=E at *
 obtain⟨k1,k2,k3,k4,k5,k6,k7,k8⟩:=E
 have zf:∀j,w1.frozen? ⟨w.heap.size,j,none⟩=false:=fun j=>row_free RQ.out j
 have zc:=row_cell RQ.out
 have y0:w1.cell? ⟨w.heap.size,0,none⟩=some (.int .i64 0):=zc 0
 have y1:w1.cell? ⟨w.heap.size,1,none⟩=some (.int .i64 0):=zc 1
 have y2:w1.cell? ⟨w.heap.size,2,none⟩=some (.int .i64 0):=zc 2
 have y3:w1.cell? ⟨w.heap.size,3,none⟩=some (.int .i64 0):=zc 3
 have y4:w1.cell? ⟨w.heap.size,4,none⟩=some (.int .i64 0):=zc 4
 have y5:w1.cell? ⟨w.heap.size,5,none⟩=some (.int .i64 0):=zc 5
 have y6:w1.cell? ⟨w.heap.size,6,none⟩=some (.int .i64 0):=zc 6
 have y7:w1.cell? ⟨w.heap.size,7,none⟩=some (.int .i64 0):=zc 7
 clear zc
 go_wp2
 have WR6:=((((((((Wr.start RQ.out).set 0 (.int .i64 k1)).set 1 (.int .i64 k2)).set 2 (.int .i64 k3)).set 3 (.int .i64 k4)).set 4 (.int .i64 k5)).set 5 (.int .i64 k6)).set 6 (.int .i64 k7)).set 7 (.int .i64 k8)
 generalize ((((((((w1).setCell ⟨w.heap.size,0,none⟩ (.int .i64 k1)).setCell ⟨w.heap.size,1,none⟩ (.int .i64 k2)).setCell ⟨w.heap.size,2,none⟩ (.int .i64 k3)).setCell ⟨w.heap.size,3,none⟩ (.int .i64 k4)).setCell ⟨w.heap.size,4,none⟩ (.int .i64 k5)).setCell ⟨w.heap.size,5,none⟩ (.int .i64 k6)).setCell ⟨w.heap.size,6,none⟩ (.int .i64 k7)).setCell ⟨w.heap.size,7,none⟩ (.int .i64 k8)=W6 at *
 obtain⟨hf1,hf2⟩:=WkAt.wrR H.out H1.out KPA.out (fun k hk=>(OW1.out k hk).imp id fun h=>by omega) rfl WR6
 have cc:=row_cell WR6.row
 have cc0:=cc 0
 have cc1:=cc 1
 have cc2:=cc 2
 have cc3:=cc 3
 have cc4:=cc 4
 have cc5:=cc 5
 have cc6:=cc 6
 have cc7:=cc 7
 simp at cc0 cc1 cc2 cc3 cc4 cc5 cc6 cc7
 refine bodyPost_ret (v:=.tuple #[evV ⟨k1,k2,k3,k4,k5,k6,k7,k8⟩,.bool true]) (by simp[results,Tryz.results115,go_sem,cc0,cc1,cc2,cc3,cc4,cc5,cc6,cc7]) rfl ⟨by first|rfl|rw[hE],ve1,by first|exact hf1|(rw[hE];exact hf1),hf2,?_,fun k hk=>(OW1.out k hk).imp id fun h=>by omega⟩
 exact BAL.out.trans (WR6.below hB'.out)
end
end
