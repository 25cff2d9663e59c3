/- Parts of the proof, merged by program out of 2 texts (EmF, EmG): the first: The walk through a program, in memory: Answer where nothing happens. Conditions: those of each theorem, as typed. -/
import Derived.Test.YtkfhgifhfkcehaaGreatDoorQL06
set_option linter.unusedVariables false
set_option linter.unusedSimpArgs false
set_option linter.unusedSectionVars false
set_option maxRecDepth 100000
set_option maxHeartbeats 4000000
namespace Go.Proofs.YtkfhgifhfkcehaaGreatDoor
open Go.RowKit
section
attribute [local irreducible] wpL
section
variable {w:World} {B bW gT:Nat} {vc vt ve:Value} {P:Pg} {S:Wst}
theorem wk_answer_done (h:WkAt w B bW gT vc vt ve P S) (i:Nat) (hi:i < P.threads.length) {t:Th} (ht:S.ths[i]?=some t) (hd:thDone P i t=true) (val:Int) (abort:Bool):
  Calls Tryz.prog 145 #[.pointer (some ⟨bW,0,none⟩),.int .i64 i,.int .i64 val,.bool abort] w fun x w'=>
  x=.returned (.tuple #[evV ⟨0,0,0,0,0,0,0,0⟩,.bool false])∧Below w.heap.size w w':=by
 have H:=hid h
 have HT:=hid ht
 clear h ht
 have ba:Below w.heap.size w (w.alloc (.cells #[.int .i64 0,.int .i64 0,.int .i64 0,.int .i64 0,.int .i64 0,.int .i64 0,.int .i64 0,.int .i64 0] 53)):=(Below.refl _ _).alloc (Nat.le_refl _) _
 have RZ:=hid (row_new w (.cells #[.int .i64 0,.int .i64 0,.int .i64 0,.int .i64 0,.int .i64 0,.int .i64 0,.int .i64 0,.int .i64 0] 53))
 go_enter Tryz.func145,Tryz.ntmps145
 go_wp2_with fail
 obtain⟨W0,hW⟩:∃W,W=w.alloc (.cells #[.int .i64 0,.int .i64 0,.int .i64 0,.int .i64 0,.int .i64 0,.int .i64 0,.int .i64 0,.int .i64 0] 53):=⟨_,rfl⟩
 have zW0:W0.heap.size=w.heap.size+1:=by rw[hW];simp
 rw[←hW] at ba RZ ⊢
 have BA0:=hid ba
 have HW0:=hid (H.out.below ba)
 clear ba hW
 refine(wk_of_in HW0.out i hi HT.out).mono ?_
 rintro x w1 ⟨rfl,rfl⟩
 rw[hd]
 have bd:Below W0.heap.size W0 W0.drew:=(Below.refl _ _).drew
 have RZ:W0.drew.heap[w.heap.size]?=_:=RZ.out
 have zW:W0.drew.heap.size=w.heap.size+1:=zW0
 obtain⟨W,hW⟩:∃W,W=W0.drew:=⟨_,rfl⟩
 rw[←hW] at bd RZ zW ⊢
 have BA:=hid (BA0.out.trans (bd.mono (by omega)))
 have HW:=hid (HW0.out.below bd)
 clear bd hW HW0 BA0 zW0
 have zf:∀j,W.frozen? ⟨w.heap.size,j,none⟩=false:=fun j=>row_free RZ j
 have zc:=row_cell RZ
 have RZ:=hid RZ
 have y0:W.cell? ⟨w.heap.size,0,none⟩=some (.int .i64 0):=zc 0
 have y1:W.cell? ⟨w.heap.size,1,none⟩=some (.int .i64 0):=zc 1
 have y2:W.cell? ⟨w.heap.size,2,none⟩=some (.int .i64 0):=zc 2
 have y3:W.cell? ⟨w.heap.size,3,none⟩=some (.int .i64 0):=zc 3
 have y4:W.cell? ⟨w.heap.size,4,none⟩=some (.int .i64 0):=zc 4
 have y5:W.cell? ⟨w.heap.size,5,none⟩=some (.int .i64 0):=zc 5
 have y6:W.cell? ⟨w.heap.size,6,none⟩=some (.int .i64 0):=zc 6
 have y7:W.cell? ⟨w.heap.size,7,none⟩=some (.int .i64 0):=zc 7
 clear zc
 go_wp2
 all_goals have WR6:=((((((((Wr.start RZ.out).set 0 (.int .i64 0)).set 1 (.int .i64 0)).set 2 (.int .i64 0)).set 3 (.int .i64 0)).set 4 (.int .i64 0)).set 5 (.int .i64 0)).set 6 (.int .i64 0)).set 7 (.int .i64 0)
 all_goals generalize ((((((((W).setCell ⟨w.heap.size,0,none⟩ (.int .i64 0)).setCell ⟨w.heap.size,1,none⟩ (.int .i64 0)).setCell ⟨w.heap.size,2,none⟩ (.int .i64 0)).setCell ⟨w.heap.size,3,none⟩ (.int .i64 0)).setCell ⟨w.heap.size,4,none⟩ (.int .i64 0)).setCell ⟨w.heap.size,5,none⟩ (.int .i64 0)).setCell ⟨w.heap.size,6,none⟩ (.int .i64 0)).setCell ⟨w.heap.size,7,none⟩ (.int .i64 0)=W6 at *
 all_goals have cc:=row_cell WR6.row
 all_goals have cc0:=cc 0
 all_goals have cc1:=cc 1
 all_goals have cc2:=cc 2
 all_goals have cc3:=cc 3
 all_goals have cc4:=cc 4
 all_goals have cc5:=cc 5
 all_goals have cc6:=cc 6
 all_goals have cc7:=cc 7
 all_goals simp at cc0 cc1 cc2 cc3 cc4 cc5 cc6 cc7
 all_goals refine bodyPost_ret (v:=.tuple #[evV ⟨0,0,0,0,0,0,0,0⟩,.bool false]) (by simp[results,Tryz.results145,go_sem,cc0,cc1,cc2,cc3,cc4,cc5,cc6,cc7]) rfl ⟨rfl,BA.out.trans (WR6.below (Nat.le_refl _))⟩
theorem wk_answer_still (h:WkAt w B bW gT vc vt ve P S) (i:Nat) (hi:i < P.threads.length) {t:Th} (ht:S.ths[i]?=some t) (hd:thDone P i t=false) (hw:t.waits=0) (val:Int) (abort:Bool):
  Calls Tryz.prog 145 #[.pointer (some ⟨bW,0,none⟩),.int .i64 i,.int .i64 val,.bool abort] w fun x w'=>
  x=.returned (.tuple #[evV ⟨0,0,0,0,0,0,0,0⟩,.bool false])∧Below w.heap.size w w':=by
 have H:=hid h
 have HT:=hid ht
 clear h ht
 have ba:Below w.heap.size w (w.alloc (.cells #[.int .i64 0,.int .i64 0,.int .i64 0,.int .i64 0,.int .i64 0,.int .i64 0,.int .i64 0,.int .i64 0] 53)):=(Below.refl _ _).alloc (Nat.le_refl _) _
 have RZ:=hid (row_new w (.cells #[.int .i64 0,.int .i64 0,.int .i64 0,.int .i64 0,.int .i64 0,.int .i64 0,.int .i64 0,.int .i64 0] 53))
 go_enter Tryz.func145,Tryz.ntmps145
 go_wp2_with fail
 obtain⟨W0,hW⟩:∃W,W=w.alloc (.cells #[.int .i64 0,.int .i64 0,.int .i64 0,.int .i64 0,.int .i64 0,.int .i64 0,.int .i64 0,.int .i64 0] 53):=⟨_,rfl⟩
 have zW0:W0.heap.size=w.heap.size+1:=by rw[hW];simp
 rw[←hW] at ba RZ ⊢
 have BA0:=hid ba
 have HW0:=hid (H.out.below ba)
 clear ba hW
 refine(wk_of_in HW0.out i hi HT.out).mono ?_
 rintro x w1 ⟨rfl,rfl⟩
 rw[hd]
 have bd:Below W0.heap.size W0 W0.drew:=(Below.refl _ _).drew
 have RZ:W0.drew.heap[w.heap.size]?=_:=RZ.out
 have zW:W0.drew.heap.size=w.heap.size+1:=zW0
 obtain⟨W,hW⟩:∃W,W=W0.drew:=⟨_,rfl⟩
 rw[←hW] at bd RZ zW ⊢
 have BA:=hid (BA0.out.trans (bd.mono (by omega)))
 have HW:=hid (HW0.out.below bd)
 clear bd hW HW0 BA0 zW0
 have zf:∀j,W.frozen? ⟨w.heap.size,j,none⟩=false:=fun j=>row_free RZ j
 have zc:=row_cell RZ
 have RZ:=hid RZ
 have y0:W.cell? ⟨w.heap.size,0,none⟩=some (.int .i64 0):=zc 0
 have y1:W.cell? ⟨w.heap.size,1,none⟩=some (.int .i64 0):=zc 1
 have y2:W.cell? ⟨w.heap.size,2,none⟩=some (.int .i64 0):=zc 2
 have y3:W.cell? ⟨w.heap.size,3,none⟩=some (.int .i64 0):=zc 3
 have y4:W.cell? ⟨w.heap.size,4,none⟩=some (.int .i64 0):=zc 4
 have y5:W.cell? ⟨w.heap.size,5,none⟩=some (.int .i64 0):=zc 5
 have y6:W.cell? ⟨w.heap.size,6,none⟩=some (.int .i64 0):=zc 6
 have y7:W.cell? ⟨w.heap.size,7,none⟩=some (.int .i64 0):=zc 7
 obtain⟨t2,ht2,-,-,hc⟩:=HW.out.at hi
 rw[HT.out] at ht2
 obtain rfl:=Option.some.inj ht2
 have c5:W.cell? ⟨gT,i*6+5,none⟩=some (.int .i64 t.waits):=hc 5 (by decide)
 rw[hw] at c5
 clear hc ht2 zc
 go_wp2
 all_goals have WR6:=((((((((Wr.start RZ.out).set 0 (.int .i64 0)).set 1 (.int .i64 0)).set 2 (.int .i64 0)).set 3 (.int .i64 0)).set 4 (.int .i64 0)).set 5 (.int .i64 0)).set 6 (.int .i64 0)).set 7 (.int .i64 0)
 all_goals generalize ((((((((W).setCell ⟨w.heap.size,0,none⟩ (.int .i64 0)).setCell ⟨w.heap.size,1,none⟩ (.int .i64 0)).setCell ⟨w.heap.size,2,none⟩ (.int .i64 0)).setCell ⟨w.heap.size,3,none⟩ (.int .i64 0)).setCell ⟨w.heap.size,4,none⟩ (.int .i64 0)).setCell ⟨w.heap.size,5,none⟩ (.int .i64 0)).setCell ⟨w.heap.size,6,none⟩ (.int .i64 0)).setCell ⟨w.heap.size,7,none⟩ (.int .i64 0)=W6 at *
 all_goals have cc:=row_cell WR6.row
 all_goals have cc0:=cc 0
 all_goals have cc1:=cc 1
 all_goals have cc2:=cc 2
 all_goals have cc3:=cc 3
 all_goals have cc4:=cc 4
 all_goals have cc5:=cc 5
 all_goals have cc6:=cc 6
 all_goals have cc7:=cc 7
 all_goals simp at cc0 cc1 cc2 cc3 cc4 cc5 cc6 cc7
 all_goals refine bodyPost_ret (v:=.tuple #[evV ⟨0,0,0,0,0,0,0,0⟩,.bool false]) (by simp[results,Tryz.results145,go_sem,cc0,cc1,cc2,cc3,cc4,cc5,cc6,cc7]) rfl ⟨rfl,BA.out.trans (WR6.below (Nat.le_refl _))⟩
theorem wk_answer_cancel (h:WkAt w B bW gT vc vt ve P S) (i:Nat) (hi:i < P.threads.length) {t:Th} (ht:S.ths[i]?=some t) (hd:thDone P i t=false) (hw:t.waits=7) (val:Int):
  Calls Tryz.prog 145 #[.pointer (some ⟨bW,0,none⟩),.int .i64 i,.int .i64 val,.bool false] w fun x w'=>
  x=.returned (.tuple #[evV ⟨0,0,0,0,0,0,0,0⟩,.bool false])∧Below w.heap.size w w':=by
 have H:=hid h
 have HT:=hid ht
 clear h ht
 have ba:Below w.heap.size w (w.alloc (.cells #[.int .i64 0,.int .i64 0,.int .i64 0,.int .i64 0,.int .i64 0,.int .i64 0,.int .i64 0,.int .i64 0] 53)):=(Below.refl _ _).alloc (Nat.le_refl _) _
 have RZ:=hid (row_new w (.cells #[.int .i64 0,.int .i64 0,.int .i64 0,.int .i64 0,.int .i64 0,.int .i64 0,.int .i64 0,.int .i64 0] 53))
 go_enter Tryz.func145,Tryz.ntmps145
 go_wp2_with fail
 obtain⟨W0,hW⟩:∃W,W=w.alloc (.cells #[.int .i64 0,.int .i64 0,.int .i64 0,.int .i64 0,.int .i64 0,.int .i64 0,.int .i64 0,.int .i64 0] 53):=⟨_,rfl⟩
 have zW0:W0.heap.size=w.heap.size+1:=by rw[hW];simp
 rw[←hW] at ba RZ ⊢
 have BA0:=hid ba
 have HW0:=hid (H.out.below ba)
 clear ba hW
 refine(wk_of_in HW0.out i hi HT.out).mono ?_
 rintro x w1 ⟨rfl,rfl⟩
 rw[hd]
 have bd:Below W0.heap.size W0 W0.drew:=(Below.refl _ _).drew
 have RZ:W0.drew.heap[w.heap.size]?=_:=RZ.out
 have zW:W0.drew.heap.size=w.heap.size+1:=zW0
 obtain⟨W,hW⟩:∃W,W=W0.drew:=⟨_,rfl⟩
 rw[←hW] at bd RZ zW ⊢
 have BA:=hid (BA0.out.trans (bd.mono (by omega)))
 have HW:=hid (HW0.out.below bd)
 clear bd hW HW0 BA0 zW0
 have zf:∀j,W.frozen? ⟨w.heap.size,j,none⟩=false:=fun j=>row_free RZ j
 have zc:=row_cell RZ
 have RZ:=hid RZ
 have y0:W.cell? ⟨w.heap.size,0,none⟩=some (.int .i64 0):=zc 0
 have y1:W.cell? ⟨w.heap.size,1,none⟩=some (.int .i64 0):=zc 1
 have y2:W.cell? ⟨w.heap.size,2,none⟩=some (.int .i64 0):=zc 2
 have y3:W.cell? ⟨w.heap.size,3,none⟩=some (.int .i64 0):=zc 3
 have y4:W.cell? ⟨w.heap.size,4,none⟩=some (.int .i64 0):=zc 4
 have y5:W.cell? ⟨w.heap.size,5,none⟩=some (.int .i64 0):=zc 5
 have y6:W.cell? ⟨w.heap.size,6,none⟩=some (.int .i64 0):=zc 6
 have y7:W.cell? ⟨w.heap.size,7,none⟩=some (.int .i64 0):=zc 7
 obtain⟨t2,ht2,-,-,hc⟩:=HW.out.at hi
 rw[HT.out] at ht2
 obtain rfl:=Option.some.inj ht2
 have c5:W.cell? ⟨gT,i*6+5,none⟩=some (.int .i64 t.waits):=hc 5 (by decide)
 rw[hw] at c5
 clear hc ht2 zc
 go_wp2
 all_goals have WR6:=((((((((Wr.start RZ.out).set 0 (.int .i64 0)).set 1 (.int .i64 0)).set 2 (.int .i64 0)).set 3 (.int .i64 0)).set 4 (.int .i64 0)).set 5 (.int .i64 0)).set 6 (.int .i64 0)).set 7 (.int .i64 0)
 all_goals generalize ((((((((W).setCell ⟨w.heap.size,0,none⟩ (.int .i64 0)).setCell ⟨w.heap.size,1,none⟩ (.int .i64 0)).setCell ⟨w.heap.size,2,none⟩ (.int .i64 0)).setCell ⟨w.heap.size,3,none⟩ (.int .i64 0)).setCell ⟨w.heap.size,4,none⟩ (.int .i64 0)).setCell ⟨w.heap.size,5,none⟩ (.int .i64 0)).setCell ⟨w.heap.size,6,none⟩ (.int .i64 0)).setCell ⟨w.heap.size,7,none⟩ (.int .i64 0)=W6 at *
 all_goals have cc:=row_cell WR6.row
 all_goals have cc0:=cc 0
 all_goals have cc1:=cc 1
 all_goals have cc2:=cc 2
 all_goals have cc3:=cc 3
 all_goals have cc4:=cc 4
 all_goals have cc5:=cc 5
 all_goals have cc6:=cc 6
 all_goals have cc7:=cc 7
 all_goals simp at cc0 cc1 cc2 cc3 cc4 cc5 cc6 cc7
 all_goals refine bodyPost_ret (v:=.tuple #[evV ⟨0,0,0,0,0,0,0,0⟩,.bool false]) (by simp[results,Tryz.results145,go_sem,cc0,cc1,cc2,cc3,cc4,cc5,cc6,cc7]) rfl ⟨rfl,BA.out.trans (WR6.below (Nat.le_refl _))⟩
end
end
section
attribute [local irreducible] wpL
theorem OwnF.atK {α:Type} {f:α→List Value} {e:TypeId} {sz:Nat} (hsz:∀x,(f x).length=sz) {w:World} {B n c:Nat} {a:Option Addr} {l:List α} (h:OwnF f e sz w B (.slice a n c) l) (hn:l.length=n) {k:Nat} (hk:k < n):∃g x,a=some ⟨g,0,none⟩∧g < w.heap.size∧l[k]?=some x∧∀j,j < sz→w.cell? ⟨g,k*sz+j,none⟩=(f x)[j]?:=by
 subst hn
 have hs:Sl w w.heap.size sz (.slice a l.length c) l.length (l.flatMap f):=h.sl
 obtain⟨b,off,x,hb,hlt,hx,hc⟩:=Sl.atF hsz hs rfl hk
 rcases h.form with⟨-,rfl⟩|⟨g,cap',e,hB,hg⟩
 ·simp at hk
 ·simp only[Value.slice.injEq,Option.some.injEq] at e
  obtain⟨rfl,-,rfl⟩:=e
  simp only[Option.some.injEq,Addr.mk.injEq,and_true] at hb
  obtain⟨rfl,rfl⟩:=hb
  exact⟨g,x,rfl,hg,hx,fun j hj=>by have:=hc j hj;rwa [Nat.zero_add] at this⟩
section
variable {w:World} {B bW gT:Nat} {vc vt ve:Value} {P:Pg} {S:Wst}
theorem WkAt.acts (h:WkAt w B bW gT vc vt ve P S) {i:Nat} (hi:i < P.threads.length) {k j:Nat} (hk:k < (P.txs i).length) {a:Ac} (ha:(P.acts i k)[j]?=some a):
  ∃gt ct gx cx ga ca,vt=.slice (some ⟨gt,0,none⟩) P.threads.length ct∧w.cell? ⟨gt,i,none⟩=some (.slice (some ⟨gx,0,none⟩) (P.txs i).length cx)∧
   w.cell? ⟨gx,k,none⟩=some (.slice (some ⟨ga,0,none⟩) (P.acts i k).length ca)∧j < (P.acts i k).length∧(P.acts i k).length≤6∧
   w.cell? ⟨ga,j*3,none⟩=some (.int .i64 a.kind)∧w.cell? ⟨ga,j*3+1,none⟩=some (.int .i64 a.cell)∧w.cell? ⟨ga,j*3+2,none⟩=some (.int .i64 a.val)∧gt < w.heap.size∧gx < w.heap.size∧ga < w.heap.size:=by
 obtain⟨gt,ct,u,c,rfl,hgt,hct,hx⟩:=h.txs hi
 obtain⟨vs,h1,h2,h3⟩:=hx
 obtain⟨gx,ux,rfl,hgx,hux,hcx⟩:=h1.at1 h2 hk
 obtain⟨x,hx⟩:∃x,(P.txs i)[k]?=some x:=⟨_,List.getElem?_eq_getElem hk⟩
 have hax:P.acts i k=x:=by unfold Pg.acts;rw[List.getD_eq_getElem?_getD,hx];rfl
 have h4:=h3 k ux x hux hx
 rw[hax] at ha ⊢
 have hj:=(List.getElem?_eq_some_iff.1 ha).1
 obtain⟨b,ca,rfl,-⟩:=OwnF.form2 h4
 obtain⟨ga,a',rfl,hga,ha',hc⟩:=OwnF.atK Ac.len h4 rfl hj
 rw[ha] at ha'
 obtain rfl:=Option.some.inj ha'
 have hl6:x.length≤6:=by
  obtain⟨y,hy⟩:∃y,P.threads[i]?=some y:=⟨_,List.getElem?_eq_getElem hi⟩
  rw[Pg.txs_at hy] at hx
  exact(h.ok.acts y (List.mem_of_getElem? hy) x (List.mem_of_getElem? hx)).2
 exact⟨gt,ct,gx,c,ga,ca,rfl,hct,hcx,hj,hl6,hc 0 (by decide),hc 1 (by decide),hc 2 (by decide),hgt,hgx,hga⟩
end
end
