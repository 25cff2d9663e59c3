/- Parts of the proof, merged by program out of 2 texts (EmK, EmM): the first: The walk through a program, in memory: Answer to the read of an addition. Conditions: those of each theorem, as typed. -/
import Derived.Test.YtkfhgifhfkcehaaGreatDoorQL10
import Derived.Test.YtkfhgifhfkcehaaGreatDoorQL07
import Derived.Laws.EntriesVeiled
set_option linter.unusedVariables false
set_option linter.unusedSimpArgs false
set_option linter.unusedSectionVars false
set_option maxRecDepth 100000
set_option maxHeartbeats 4000000
namespace Go.Proofs.YtkfhgifhfkcehaaGreatDoor
open Go.RowKit
section
attribute [local irreducible] wpL
section
variable {w:World} {B bW gT:Nat} {vc vt ve:Value} {P:Pg} {S:Wst}
theorem wk_answer_add (h:WkAt w B bW gT vc vt ve P S) (hBw:B≤w.heap.size) (i:Nat) (hi:i < P.threads.length) {t:Th} (ht:S.ths[i]?=some t) (hd:thDone P i t=false) (hw:t.waits=2) {a:Ac} (ha:(P.acts i t.tx)[t.act]?=some a) (hk:a.kind=3) (hadd:t.adding=false) (val:Int) (hv:within9 val=true) (hv2:within9 (val+a.val)=true) (hl:S.evs.length≤100000):
  Calls Tryz.prog 145 #[.pointer (some ⟨bW,0,none⟩),.int .i64 i,.int .i64 val,.bool false] w fun x w'=>
  x=.returned (.tuple #[evV (withTx {ev0 3 with ret:=3,val:=val} (idOf i t.tx)),.bool true])∧∃ve',WkAt w' B bW gT vc vt ve' P ⟨S.ths.set i {t with waits:=0,adding:=true,read:=val},S.evs++[withTx {ev0 3 with ret:=3,val:=val} (idOf i t.tx)]⟩∧Kp Mw ve w w'∧Below B w w'∧∀k,ve'.ownBlock=some k→ve.ownBlock=some k∨w.heap.size≤k:=by
 have H:=hid h
 have HT:=hid ht
 have hB':=hid hBw
 have hgT:=(h.ths.lt gT rfl).2
 have htk:=h.tok i t ht
 have htx:=tx_lt h.ok hi htk hd
 have ht3:=Pg.tx3 h.ok hi
 have hm:P.threads.length≤4:=h.ok.threads.2
 clear h ht
 have ba:Below w.heap.size w (w.alloc (.cells #[.int .i64 0,.int .i64 0,.int .i64 0,.int .i64 0,.int .i64 0,.int .i64 0,.int .i64 0,.int .i64 0] 53)):=(Below.refl _ _).alloc (Nat.le_refl _) _
 have RZ:=hid (row_new w (.cells #[.int .i64 0,.int .i64 0,.int .i64 0,.int .i64 0,.int .i64 0,.int .i64 0,.int .i64 0,.int .i64 0] 53))
 go_enter Tryz.func145,Tryz.ntmps145
 go_wp2_with fail
 obtain⟨W0,hW⟩:∃W,W=w.alloc (.cells #[.int .i64 0,.int .i64 0,.int .i64 0,.int .i64 0,.int .i64 0,.int .i64 0,.int .i64 0,.int .i64 0] 53):=⟨_,rfl⟩
 have zW0:W0.heap.size=w.heap.size+1:=by rw[hW];simp
 rw[←hW] at ba RZ ⊢
 have BA0:=hid ba
 have HW0:=hid (H.out.below ba)
 clear ba hW
 refine(wk_of_in HW0.out i hi HT.out).mono ?_
 rintro x w1 ⟨rfl,rfl⟩
 rw[hd]
 have bd:Below W0.heap.size W0 W0.drew:=(Below.refl _ _).drew
 have RZ:W0.drew.heap[w.heap.size]?=_:=RZ.out
 have zW:W0.drew.heap.size=w.heap.size+1:=zW0
 obtain⟨W,hW⟩:∃W,W=W0.drew:=⟨_,rfl⟩
 rw[←hW] at bd RZ zW ⊢
 have zW':w.heap.size+1≤W.heap.size:=Nat.le_of_eq zW.symm
 have BA:=hid (BA0.out.trans (bd.mono (by omega)))
 have HW:=hid (HW0.out.below bd)
 have RZ:=hid RZ
 clear bd hW HW0 BA0 zW0 zW
 obtain⟨gt,ct,gx,cx,ga,ca,rfl,d4,d5,hj,hl6,a0,a1,a2,zgt,zgx,zga⟩:=HW.out.acts hi htx ha
 have d1:W.cell? ⟨bW,1,none⟩=some (.slice (some ⟨gt,0,none⟩) P.threads.length ct):=row_cell HW.out.row 1
 obtain⟨t2,ht2,-,-,hc⟩:=HW.out.at hi
 rw[HT.out] at ht2
 obtain rfl:=Option.some.inj ht2
 obtain⟨csT,rT⟩:=OwnF.keepObj HW.out.ths gT rfl
 have fT:∀j,W.frozen? ⟨gT,j,none⟩=false:=fun j=>row_free rT j
 have RT:=hid rT
 have c0:W.cell? ⟨gT,i*6,none⟩=some (.int .i64 t.tx):=hc 0 (by decide)
 have c1:W.cell? ⟨gT,i*6+1,none⟩=some (.int .i64 t.act):=hc 1 (by decide)
 have c3:W.cell? ⟨gT,i*6+3,none⟩=some (.bool t.adding):=hc 3 (by decide)
 have c5:W.cell? ⟨gT,i*6+5,none⟩=some (.int .i64 t.waits):=hc 5 (by decide)
 rw[hw] at c5
 rw[hk] at a0
 rw[hadd] at c3
 clear hc ht2 rT htk
 obtain⟨n1,hn1⟩:∃n,n=P.threads.length:=⟨_,rfl⟩
 obtain⟨n2,hn2⟩:∃n,n=(P.txs i).length:=⟨_,rfl⟩
 obtain⟨n3,hn3⟩:∃n,n=(P.acts i t.tx).length:=⟨_,rfl⟩
 have hi':i < n1:=by omega
 have htx':t.tx < n2:=by omega
 have hj':t.act < n3:=by omega
 rw[←hn1] at d1
 rw[←hn2] at d4
 rw[←hn3] at d5
 have HN:=hid (And.intro hn1 (And.intro hn2 hn3))
 clear hn1 hn2 hn3
 go_wp2_with fail
 refine wp_region_x [0,0,0,0,1,0,0,1,0,0,0,1,0,1,0,0,0,1,0,1,3,2] [0,1,2,3,4,5,6,7,8,9,10,11,12,13,14,15,16,17,18,19,20,21] (by kernel_rfl) ?_
 simp only[selX,guardAt,sD,sE,sF,sG]
 repeat first|(refine wpL_p fun K hK=>?_;go_simp;refine hK _ _ ?_;clear hK K)|(apply wpL_s;(intro w2 hw2;have hk1:=hw2.cell;have hk3:=hw2.heap;clear hw2;go_simp;with_reducible rfl);simp only[Act.put,sA,sB,sC])
 refine wpL_k (fun K hK=>?_)
 go_simp
 refine hK _ _ (Keeps.alloc _ _) ?_
 clear hK K
 refine wpL_e (fun K hK=>?_)
 clear d1 d4 d5 c0
 go_simp
 refine hK _ _ ?_
 clear hK K
 repeat refine wpL_nil ?_
 have bX:Below W.heap.size W (W.alloc (.cells #[.int .i64 3,.int .i64 a.cell,.int .i64 a.val] 118)).drew:=((Below.refl _ _).alloc (Nat.le_refl _) _).drew
 have rX:(W.alloc (.cells #[.int .i64 3,.int .i64 a.cell,.int .i64 a.val] 118)).drew.heap[W.heap.size]?=_:=row_new W (.cells #[.int .i64 3,.int .i64 a.cell,.int .i64 a.val] 118)
 have zX:(W.alloc (.cells #[.int .i64 3,.int .i64 a.cell,.int .i64 a.val] 118)).drew.heap.size=W.heap.size+1:=by show(W.alloc _).heap.size=_;simp
 obtain⟨X,hX⟩:∃X,X=(W.alloc (.cells #[.int .i64 3,.int .i64 a.cell,.int .i64 a.val] 118)).drew:=⟨_,rfl⟩
 rw[←hX] at bX rX zX ⊢
 have zX':W.heap.size+1≤X.heap.size:=Nat.le_of_eq zX.symm
 have HX:=hid (HW.out.below bX)
 have RTX:=hid (row_below RT.out bX (row_lt RT.out))
 have RZX:=hid (row_below RZ.out bX (row_lt RZ.out))
 have eX:=row_cell rX
 have x0:X.cell? ⟨W.heap.size,0,none⟩=some (.int .i64 3):=eX 0
 have x1:X.cell? ⟨W.heap.size,1,none⟩=some (.int .i64 a.cell):=eX 1
 have x2:X.cell? ⟨W.heap.size,2,none⟩=some (.int .i64 a.val):=eX 2
 obtain⟨t2,ht2,-,-,hc⟩:=HX.out.at hi
 rw[HT.out] at ht2
 obtain rfl:=Option.some.inj ht2
 have fT:∀j,X.frozen? ⟨gT,j,none⟩=false:=fun j=>row_free RTX.out j
 have m1:X.cell? ⟨gT,i*6+1,none⟩=some (.int .i64 t.act):=hc 1 (by decide)
 have m3:X.cell? ⟨gT,i*6+3,none⟩=some (.bool t.adding):=hc 3 (by decide)
 have m5:X.cell? ⟨gT,i*6+5,none⟩=some (.int .i64 t.waits):=hc 5 (by decide)
 rw[hw] at m5
 rw[hadd] at m3
 have BX:=hid bX
 have hm4:Hid (X.cell? ⟨gT,i*6+4,none⟩=some (.int .i64 t.read)):=hid (hc 4 (by decide))
 clear hc ht2 a0 a1 a2 c1 c3 c5 bX rX hX eX
 have gTW:gT < W.heap.size:=by omega
 have hb1:-1000000000≤val∧val≤1000000000:=by simpa[within9] using hv
 have hb2:-1000000000≤val+a.val∧val+a.val≤1000000000:=by simpa[within9] using hv2
 have hwv:wrap64 (val+a.val)=val+a.val:=IntWalk.wrap64_in _ (by omega)
 have m4:X.cell? ⟨gT,i*6+4,none⟩=some (.int .i64 t.read):=hm4.out
 go_wp2_with fail
 refine(wk_within val _).mono ?_
 rintro x w1 ⟨rfl,rfl⟩
 rw[hv]
 go_wp2_with fail
 refine(wk_within (val+a.val) _).mono ?_
 rintro x w1 ⟨rfl,rfl⟩
 rw[hv2]
 go_wp2_with fail
 have hgTB:=(H.out.ths.lt gT rfl).1
 have WR3:=(((Wr.start RTX.out).set (i*6+5) (.int .i64 0)).set (i*6+3) (.bool true)).set (i*6+4) (.int .i64 val)
 have g:∀(l:List Th) (x:Th),i < l.length→(l.set i x)[i]?=some x:=fun l x h=>List.getElem?_set_self h
 have hlen:S.ths.length=P.threads.length:=HX.out.ths.len
 have s1:=ths_set (j:=5) HX.out.ths (u:={t with waits:=0,adding:=true,read:=val}) HT.out (by decide) (by rfl)
 have s2:=ths_set (j:=3) s1 (u:={t with waits:=0,adding:=true,read:=val}) (g _ _ (by omega)) (by decide) (by rfl)
 have s3:=ths_set (j:=4) s2 (u:={t with waits:=0,adding:=true,read:=val}) (g _ _ (by simp;omega)) (by decide) (by rfl)
 simp only[List.set_set] at s3
 have s3:OwnF Th.cells 283 6 (((X.setCell ⟨gT,i*6+5,none⟩ (.int .i64 0)).setCell ⟨gT,i*6+3,none⟩ (.bool true)).setCell ⟨gT,i*6+4,none⟩ (.int .i64 val)) B (.slice (some ⟨gT,0,none⟩) P.threads.length P.threads.length) (S.ths.set i {t with waits:=0,adding:=true,read:=val}):=s3
 generalize ((X.setCell ⟨gT,i*6+5,none⟩ (.int .i64 0)).setCell ⟨gT,i*6+3,none⟩ (.bool true)).setCell ⟨gT,i*6+4,none⟩ (.int .i64 val)=X3 at *
 have neR:bW≠gT:=by
  rintro rfl
  have h1:=HX.out.row
  rw[RTX.out] at h1
  simp only[Option.some.injEq,Obj.cells.injEq] at h1
  exact absurd h1.2.1 (by decide)
 have K3:Kp Mw ve X X3:=Kp.wrT RTX.out (.inr rfl) WR3
 have HX3:=hid (HX.out.ths_put hi (u:={t with waits:=0,adding:=true,read:=val}) ⟨(H.out.tok i t HT.out).tx,(H.out.tok i t HT.out).act,.inl rfl,hb1⟩ K3 (WR3.other bW neR) s3 (OwnF.wr HX.out.evs WR3 (OwnF.neT HX.out.evs RTX.out (by decide))))
 have zX3:w.heap.size+1≤X3.heap.size:=by have:=WR3.size;omega
 refine(wk_happens HX3.out (by omega) i hi (g _ _ (by omega)) (show t.tx < 3 by omega) {ev0 3 with ret:=3,val:=val} hl).mono ?_
 rintro x w1 ⟨rfl,ve1,h1,kp1,b1,ow1⟩
 have RQ:Hid (w1.heap[w.heap.size]?=some (.cells #[.int .i64 0,.int .i64 0,.int .i64 0,.int .i64 0,.int .i64 0,.int .i64 0,.int .i64 0,.int .i64 0] 53 (0,0))):=hid (by
  refine kp1.cells _ _ _ _ ((WR3.other w.heap.size (by omega)).trans RZX.out) (fun hM=>?_) fun _ e=>?_
  ·rcases hM with h|h <;> exact absurd h (by decide)
  ·have:=(H.out.evs.lt _ e).2;omega)
 have KPA:Hid (Kp Mw ve w w1):=hid ((((Kp.of_below BA.out).trans (Kp.of_below (ev:=ve) BX.out) fun _ h=>.inl h).trans K3 fun _ h=>.inl h).trans kp1 fun _ h=>.inl h)
 have BAL:Hid (Below B w w1):=hid ((((BA.out.mono hB'.out).trans (BX.out.mono (by have:=BA.out.size;omega))).trans (WR3.below hgTB)).trans b1)
 have H1:=hid h1
 have OW1:=hid ow1
 have z1:w.heap.size+1≤w1.heap.size:=by have:=kp1.size;omega
 clear h1 kp1 b1 ow1 WR3 K3 s1 s2 s3 g RTX RZX x0 x1 x2 m1 m3 m4 m5 fT
 have RQ:=RQ
 generalize hE:withTx {ev0 3 with ret:=3,val:=val} (idOf i t.tx)=E at *
 obtain⟨k1,k2,k3,k4,k5,k6,k7,k8⟩:=E
 have zf:∀j,w1.frozen? ⟨w.heap.size,j,none⟩=false:=fun j=>row_free RQ.out j
 have zc:=row_cell RQ.out
 have y0:w1.cell? ⟨w.heap.size,0,none⟩=some (.int .i64 0):=zc 0
 have y1:w1.cell? ⟨w.heap.size,1,none⟩=some (.int .i64 0):=zc 1
 have y2:w1.cell? ⟨w.heap.size,2,none⟩=some (.int .i64 0):=zc 2
 have y3:w1.cell? ⟨w.heap.size,3,none⟩=some (.int .i64 0):=zc 3
 have y4:w1.cell? ⟨w.heap.size,4,none⟩=some (.int .i64 0):=zc 4
 have y5:w1.cell? ⟨w.heap.size,5,none⟩=some (.int .i64 0):=zc 5
 have y6:w1.cell? ⟨w.heap.size,6,none⟩=some (.int .i64 0):=zc 6
 have y7:w1.cell? ⟨w.heap.size,7,none⟩=some (.int .i64 0):=zc 7
 clear zc
 go_wp2
 have WR6:=((((((((Wr.start RQ.out).set 0 (.int .i64 k1)).set 1 (.int .i64 k2)).set 2 (.int .i64 k3)).set 3 (.int .i64 k4)).set 4 (.int .i64 k5)).set 5 (.int .i64 k6)).set 6 (.int .i64 k7)).set 7 (.int .i64 k8)
 generalize ((((((((w1).setCell ⟨w.heap.size,0,none⟩ (.int .i64 k1)).setCell ⟨w.heap.size,1,none⟩ (.int .i64 k2)).setCell ⟨w.heap.size,2,none⟩ (.int .i64 k3)).setCell ⟨w.heap.size,3,none⟩ (.int .i64 k4)).setCell ⟨w.heap.size,4,none⟩ (.int .i64 k5)).setCell ⟨w.heap.size,5,none⟩ (.int .i64 k6)).setCell ⟨w.heap.size,6,none⟩ (.int .i64 k7)).setCell ⟨w.heap.size,7,none⟩ (.int .i64 k8)=W6 at *
 obtain⟨hf1,hf2⟩:=WkAt.wrR H.out H1.out KPA.out (fun k hk=>(OW1.out k hk).imp id fun h=>by omega) rfl WR6
 have cc:=row_cell WR6.row
 have cc0:=cc 0
 have cc1:=cc 1
 have cc2:=cc 2
 have cc3:=cc 3
 have cc4:=cc 4
 have cc5:=cc 5
 have cc6:=cc 6
 have cc7:=cc 7
 simp at cc0 cc1 cc2 cc3 cc4 cc5 cc6 cc7
 refine bodyPost_ret (v:=.tuple #[evV ⟨k1,k2,k3,k4,k5,k6,k7,k8⟩,.bool true]) (by simp[results,Tryz.results145,go_sem,cc0,cc1,cc2,cc3,cc4,cc5,cc6,cc7]) rfl ⟨by first|rfl|rw[hE],ve1,by first|exact hf1|(rw[hE];exact hf1),hf2,?_,fun k hk=>(OW1.out k hk).imp id fun h=>by omega⟩
 exact BAL.out.trans (WR6.below hB'.out)
end
end
section
attribute [local irreducible] wpL
abbrev acV (a:Ac):Value:=.agg #[.int .i64 a.kind,.int .i64 a.cell,.int .i64 a.val]
def RetV (w:World) (v:Value) (e:Ending) (w':World):Prop:=e=.returned v∧Below w.heap.size w w'
theorem cell_heap {A B:World} {g j:Nat} (h:B.heap[g]?=A.heap[g]?):B.cell? ⟨g,j,none⟩=A.cell? ⟨g,j,none⟩:=by
 simp only[World.cell?,h]
theorem ask_read (t:Option Addr) (a:Ac) (w:World):Calls Tryz.prog 211 #[.pointer t,acV a] w (RetV w (evV ⟨2,0,0,a.cell,1,0,0,0⟩)):=by
 go_enter Tryz.func211,Tryz.ntmps211
 go_wp2
 refine bodyPost_ret (v:=evV ⟨2,0,0,a.cell,1,0,0,0⟩) (by simp[results,Tryz.results211,go_sem]) rfl ⟨rfl,((Below.refl _ _).alloc (Nat.le_refl _) _).alloc (by simp) _⟩
theorem ask_write (t:Option Addr) (a:Ac) (w:World):Calls Tryz.prog 212 #[.pointer t,acV a] w (RetV w (evV ⟨2,0,0,a.cell,2,0,a.val,0⟩)):=by
 go_enter Tryz.func212,Tryz.ntmps212
 go_wp2
 refine bodyPost_ret (v:=evV ⟨2,0,0,a.cell,2,0,a.val,0⟩) (by simp[results,Tryz.results212,go_sem]) rfl ⟨rfl,((Below.refl _ _).alloc (Nat.le_refl _) _).alloc (by simp) _⟩
theorem ask_all (w:World):Calls Tryz.prog 151 #[] w fun e w'=>∃g b1 b2,e=.returned (.slice (some ⟨g,0,none⟩) 5 5)∧
  w'.heap[g]?=some (.cells #[.nilFunc,.func (.func 211) #[] #[],.func (.func 212) #[] #[],.func (.func 213) #[] #[.pointer (some ⟨b1,0,none⟩),.pointer (some ⟨b2,0,none⟩)],.nilFunc] 286 (0,0))∧
  w'.heap[b1]?=some (.cells #[.func (.func 211) #[] #[]] 285 (0,0))∧
  w'.heap[b2]?=some (.cells #[.func (.func 212) #[] #[]] 285 (0,0))∧Below w.heap.size w w':=by
 go_enter Tryz.func151,Tryz.ntmps151
 go_wp2
 go_ret
 exact⟨w.heap.size+1+1,w.heap.size,w.heap.size+1,rfl,row_new' (by simp),row_old (row_old (row_new w _)),row_old (row_new' (by simp)),(((Below.refl _ _).alloc (Nat.le_refl _) _).alloc (by simp) _).alloc (by simp;omega) _⟩
section
variable {w:World} {B bW gT:Nat} {vc vt ve:Value} {P:Pg} {S:Wst}
theorem ask_add (h:WkAt w B bW gT vc vt ve P S) (i:Nat) (hi:i < P.threads.length) {t:Th} (ht:S.ths[i]?=some t) (a:Ac) (ha:-1000≤a.val∧a.val≤1000) (hk:a.kind=3) (b1 b2:Nat)
  (h1:w.heap[b1]?=some (.cells #[.func (.func 211) #[] #[]] 285 (0,0)))
  (h2:w.heap[b2]?=some (.cells #[.func (.func 212) #[] #[]] 285 (0,0))):
  Calls Tryz.prog 213 #[.pointer (some ⟨gT,i*6,none⟩),acV a,.pointer (some ⟨b1,0,none⟩),.pointer (some ⟨b2,0,none⟩)] w (RetV w (evV (askOf t a))):=by
 obtain⟨t',ht',htk,hgl,hc⟩:=h.at hi
 rw[ht] at ht'
 obtain rfl:=Option.some.inj ht'
 have c3:w.cell? ⟨gT,i*6+3,none⟩=some (.bool t.adding):=hc 3 (by decide)
 have c4:w.cell? ⟨gT,i*6+4,none⟩=some (.int .i64 t.read):=hc 4 (by decide)
 have d1:=row_cell h1 0
 have d2:=row_cell h2 0
 have l1:=row_lt h1
 have l2:=row_lt h2
 have hr:=htk.read
 have hwr:wrap64 (a.val+t.read)=a.val+t.read:=IntWalk.wrap64_in _ (by omega)
 have hwr':IntKind.i64.wrap (a.val+t.read)=a.val+t.read:=IntWalk.i64_in _ (by omega)
 clear h hc ht ht' htk h1 h2 hr ha
 obtain⟨ak,al,av⟩:=a
 obtain rfl:ak=3:=hk
 dsimp only at hwr hwr'
 go_enter Tryz.func213,Tryz.ntmps213
 cases had:t.adding with
 |false=>
  rw[had] at c3
  go_wp2_with fail
  refine(ask_read _ ⟨3,al,av⟩ _).mono ?_
  rintro e w1 ⟨rfl,q1⟩
  have rz:w1.heap[w.heap.size+1]?=some (.cells #[.int .i64 0,.int .i64 0,.int .i64 0,.int .i64 0,.int .i64 0,.int .i64 0,.int .i64 0,.int .i64 0] 53 (0,0)):=row_below (row_new' (by simp)) q1 (by simp)
  have z1:w.heap.size+2≤w1.heap.size:=by have:=q1.size;simp at this;omega
  have Q1:=hid ((((Below.refl _ w).alloc (Nat.le_refl _) (.cells #[.int .i64 3,.int .i64 al,.int .i64 av] 118)).alloc (by simp) (.cells #[.int .i64 0,.int .i64 0,.int .i64 0,.int .i64 0,.int .i64 0,.int .i64 0,.int .i64 0,.int .i64 0] 53)).trans (q1.mono (by simp;omega)))
  have yf:∀j,w1.frozen? ⟨w.heap.size+1,j,none⟩=false:=fun j=>row_free rz j
  have yc:=row_cell rz
  have y0:w1.cell? ⟨w.heap.size+1,0,none⟩=some (.int .i64 0):=yc 0
  have y1:w1.cell? ⟨w.heap.size+1,1,none⟩=some (.int .i64 0):=yc 1
  have y2:w1.cell? ⟨w.heap.size+1,2,none⟩=some (.int .i64 0):=yc 2
  have y3:w1.cell? ⟨w.heap.size+1,3,none⟩=some (.int .i64 0):=yc 3
  have y4:w1.cell? ⟨w.heap.size+1,4,none⟩=some (.int .i64 0):=yc 4
  have y5:w1.cell? ⟨w.heap.size+1,5,none⟩=some (.int .i64 0):=yc 5
  have y6:w1.cell? ⟨w.heap.size+1,6,none⟩=some (.int .i64 0):=yc 6
  have y7:w1.cell? ⟨w.heap.size+1,7,none⟩=some (.int .i64 0):=yc 7
  clear yc
  have RZ:=hid rz
  clear rz q1 c3 c4 d1 d2
  go_wp2
  have WR6:=(((((((((Wr.start RZ.out).set 0 (.int .i64 2)).set 1 (.int .i64 0)).set 2 (.int .i64 0)).set 3 (.int .i64 al)).set 4 (.int .i64 1)).set 5 (.int .i64 0)).set 6 (.int .i64 0)).set 7 (.int .i64 0))
  generalize ((((((((w1).setCell ⟨w.heap.size+1,0,none⟩ (.int .i64 2)).setCell ⟨w.heap.size+1,1,none⟩ (.int .i64 0)).setCell ⟨w.heap.size+1,2,none⟩ (.int .i64 0)).setCell ⟨w.heap.size+1,3,none⟩ (.int .i64 al)).setCell ⟨w.heap.size+1,4,none⟩ (.int .i64 1)).setCell ⟨w.heap.size+1,5,none⟩ (.int .i64 0)).setCell ⟨w.heap.size+1,6,none⟩ (.int .i64 0)).setCell ⟨w.heap.size+1,7,none⟩ (.int .i64 0)=W6 at *
  have cc:=row_cell WR6.row
  have cc0:=cc 0
  have cc1:=cc 1
  have cc2:=cc 2
  have cc3:=cc 3
  have cc4:=cc 4
  have cc5:=cc 5
  have cc6:=cc 6
  have cc7:=cc 7
  simp at cc0 cc1 cc2 cc3 cc4 cc5 cc6 cc7
  refine bodyPost_ret (v:=evV (askOf t ⟨3,al,av⟩)) (by simp[results,Tryz.results213,go_sem,cc0,cc1,cc2,cc3,cc4,cc5,cc6,cc7,askOf,had]) rfl ⟨rfl,Q1.out.trans (WR6.below (by omega))⟩
 |true=>
  rw[had] at c3
  go_wp2_with fail
  have bX:Below w.heap.size w ((w.alloc (.cells #[.int .i64 3,.int .i64 al,.int .i64 av] 118)).alloc (.cells #[.int .i64 0,.int .i64 0,.int .i64 0,.int .i64 0,.int .i64 0,.int .i64 0,.int .i64 0,.int .i64 0] 53)):=((Below.refl _ w).alloc (Nat.le_refl _) _).alloc (by simp) _
  have rA:=row_old (o:=.cells #[.int .i64 0,.int .i64 0,.int .i64 0,.int .i64 0,.int .i64 0,.int .i64 0,.int .i64 0,.int .i64 0] 53) (row_new w (.cells #[.int .i64 3,.int .i64 al,.int .i64 av] 118))
  have rZ:=row_new' (w:=w.alloc (.cells #[.int .i64 3,.int .i64 al,.int .i64 av] 118)) (o:=.cells #[.int .i64 0,.int .i64 0,.int .i64 0,.int .i64 0,.int .i64 0,.int .i64 0,.int .i64 0,.int .i64 0] 53) (g:=w.heap.size+1) (by simp)
  have zX:w.heap.size+2≤((w.alloc (.cells #[.int .i64 3,.int .i64 al,.int .i64 av] 118)).alloc (.cells #[.int .i64 0,.int .i64 0,.int .i64 0,.int .i64 0,.int .i64 0,.int .i64 0,.int .i64 0,.int .i64 0] 53)).heap.size:=by simp
  generalize (w.alloc (.cells #[.int .i64 3,.int .i64 al,.int .i64 av] 118)).alloc (.cells #[.int .i64 0,.int .i64 0,.int .i64 0,.int .i64 0,.int .i64 0,.int .i64 0,.int .i64 0,.int .i64 0] 53)=X at *
  have c4:=cell_below bX hgl c4
  have d1:=cell_below bX l1 d1
  have d2:=cell_below bX l2 d2
  have a0:X.cell? ⟨w.heap.size,0,none⟩=some (.int .i64 3):=row_cell rA 0
  have a1:X.cell? ⟨w.heap.size,1,none⟩=some (.int .i64 al):=row_cell rA 1
  have a2:X.cell? ⟨w.heap.size,2,none⟩=some (.int .i64 av):=row_cell rA 2
  have f2:X.frozen? ⟨w.heap.size,2,none⟩=false:=row_free rA 2
  have RA:=hid rA
  have RZ:=hid rZ
  have BX:=hid bX
  clear rA rZ bX
  refine wp_region_x [0,1,0,0,0,1,0,0,2] [0,1,2,3,4,5,6,7,8] (by kernel_rfl) ?_
  simp only[selX,guardAt,sD,sE,sF,sG]
  repeat first|(refine wpL_p fun K hK=>?_;go_simp;refine hK _ _ ?_;clear hK K)|(apply wpL_s;(intro w2 hw2;have hk1:=hw2.cell;have hk3:=hw2.heap;clear hw2;go_simp;with_reducible rfl);simp only[Act.put,sA,sB,sC])
  refine wpL_e (fun K hK=>?_)
  clear c4 d1
  go_simp
  refine hK _ _ ?_
  clear hK K
  repeat refine wpL_nil ?_
  have rA:=row_set RA.out 2 (.int .i64 (av+t.read))
  have rZ:=row_other RZ.out (g':=w.heap.size) (j:=2) (v:=.int .i64 (av+t.read)) (by omega)
  have zY:=World.size_setCell X ⟨w.heap.size,2,none⟩ (.int .i64 (av+t.read))
  have bY:=BX.out.setCell (p:=⟨w.heap.size,2,none⟩) (by exact Nat.le_refl _) (.int .i64 (av+t.read))
  have e2:(X.setCell ⟨w.heap.size,2,none⟩ (.int .i64 (av+t.read))).cell? ⟨b2,0,none⟩=some (.func (.func 212) #[] #[]):=by rw[cell_heap (Below.heap_setCell X ⟨w.heap.size,2,none⟩ _ b2 (by show b2≠w.heap.size;omega))];exact d2
  clear a0 a1 a2 f2 d2 RA RZ BX
  generalize X.setCell ⟨w.heap.size,2,none⟩ (.int .i64 (av+t.read))=Y at *
  have a0:Y.cell? ⟨w.heap.size,0,none⟩=some (.int .i64 3):=row_cell rA 0
  have a1:Y.cell? ⟨w.heap.size,1,none⟩=some (.int .i64 al):=row_cell rA 1
  have a2:Y.cell? ⟨w.heap.size,2,none⟩=some (.int .i64 (av+t.read)):=row_cell rA 2
  go_wp2_with fail
  refine(ask_write _ ⟨3,al,av+t.read⟩ _).mono ?_
  rintro e w1 ⟨rfl,q1⟩
  have rz:w1.heap[w.heap.size+1]?=some (.cells #[.int .i64 0,.int .i64 0,.int .i64 0,.int .i64 0,.int .i64 0,.int .i64 0,.int .i64 0,.int .i64 0] 53 (0,0)):=row_below (w:=Y.drew) (row_drew rZ) q1 (by show _ < Y.heap.size;omega)
  have z1:w.heap.size+2≤w1.heap.size:=by have:=q1.size;have h2:Y.drew.heap.size=Y.heap.size:=rfl;omega
  have Q1:=hid (bY.drew.trans (q1.mono (by show _≤Y.heap.size;omega)))
  have yf:∀j,w1.frozen? ⟨w.heap.size+1,j,none⟩=false:=fun j=>row_free rz j
  have yc:=row_cell rz
  have y0:w1.cell? ⟨w.heap.size+1,0,none⟩=some (.int .i64 0):=yc 0
  have y1:w1.cell? ⟨w.heap.size+1,1,none⟩=some (.int .i64 0):=yc 1
  have y2:w1.cell? ⟨w.heap.size+1,2,none⟩=some (.int .i64 0):=yc 2
  have y3:w1.cell? ⟨w.heap.size+1,3,none⟩=some (.int .i64 0):=yc 3
  have y4:w1.cell? ⟨w.heap.size+1,4,none⟩=some (.int .i64 0):=yc 4
  have y5:w1.cell? ⟨w.heap.size+1,5,none⟩=some (.int .i64 0):=yc 5
  have y6:w1.cell? ⟨w.heap.size+1,6,none⟩=some (.int .i64 0):=yc 6
  have y7:w1.cell? ⟨w.heap.size+1,7,none⟩=some (.int .i64 0):=yc 7
  clear yc
  have RZ:=hid rz
  clear rz q1 a0 a1 a2 rZ rA bY
  go_wp2
  have WR6:=(((((((((Wr.start RZ.out).set 0 (.int .i64 2)).set 1 (.int .i64 0)).set 2 (.int .i64 0)).set 3 (.int .i64 al)).set 4 (.int .i64 2)).set 5 (.int .i64 0)).set 6 (.int .i64 (av+t.read))).set 7 (.int .i64 0))
  generalize ((((((((w1).setCell ⟨w.heap.size+1,0,none⟩ (.int .i64 2)).setCell ⟨w.heap.size+1,1,none⟩ (.int .i64 0)).setCell ⟨w.heap.size+1,2,none⟩ (.int .i64 0)).setCell ⟨w.heap.size+1,3,none⟩ (.int .i64 al)).setCell ⟨w.heap.size+1,4,none⟩ (.int .i64 2)).setCell ⟨w.heap.size+1,5,none⟩ (.int .i64 0)).setCell ⟨w.heap.size+1,6,none⟩ (.int .i64 (av+t.read))).setCell ⟨w.heap.size+1,7,none⟩ (.int .i64 0)=W6 at *
  have cc:=row_cell WR6.row
  have cc0:=cc 0
  have cc1:=cc 1
  have cc2:=cc 2
  have cc3:=cc 3
  have cc4:=cc 4
  have cc5:=cc 5
  have cc6:=cc 6
  have cc7:=cc 7
  simp at cc0 cc1 cc2 cc3 cc4 cc5 cc6 cc7
  refine bodyPost_ret (v:=evV (askOf t ⟨3,al,av⟩)) (by simp[results,Tryz.results213,go_sem,cc0,cc1,cc2,cc3,cc4,cc5,cc6,cc7,askOf,had]) rfl ⟨rfl,Q1.out.trans (WR6.below (by omega))⟩
end
end
