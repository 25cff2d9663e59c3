/- Parts of the proof, merged by program out of 5 texts (TaM, GlP, Wjs, SeQ, GloT): the first: The chapters' examples: the programs. Conditions: those of each theorem, as typed. -/
import Derived.Test.YtkfhgifhfkcehaaGreatDoorQL36
import Derived.Test.YtkfhgifhfkcehaaGreatDoorQL03
import Derived.Test.YtkfhgifhfkcehaaGreatDoorQL26
import Derived.Test.YtkfhgifhfkcehaaGreatDoorQL15
import Derived.Test.YtkfhgifhfkcehaaGreatDoorQL29
import Derived.Test.YtkfhgifhfkcehaaGreatDoorQL31
import Derived.Test.YtkfhgifhfkcehaaGreatDoorQL28
set_option linter.unusedVariables false
set_option linter.unusedSimpArgs false
set_option linter.unusedSectionVars false
set_option maxRecDepth 100000
set_option maxHeartbeats 4000000
namespace Go.Proofs.YtkfhgifhfkcehaaGreatDoor
open Go.Maps Go.RowKit
section
attribute [local irreducible] wpL
def ExPost (P:Pg) (w:World) (e:Ending) (w':World):Prop:=∃vc vt,e=.returned (.agg #[vc,vt])∧PgIs w' w'.heap.size vc vt P∧Below w.heap.size w w'
theorem sl_row {w:World} {g:Nat} {cs:Array Value} {t:TypeId} {sz n c:Nat} (h:w.heap[g]?=some (.cells cs t (0,0))) (hn:n≤9223372036854775807) (hs:cs.size=n*sz):Sl w w.heap.size sz (.slice (some ⟨g,0,none⟩) n c) n cs.toList:=
 ⟨_,_,rfl,hn,by simpa using hs,fun _=>⟨g,0,rfl,row_lt h,fun j u hu=>by rw[Nat.zero_add,row_cell h];simpa using hu⟩⟩
theorem isl_row1 {α:Type} {R:World→Nat→Value→α→Prop} {w:World} {g c:Nat} {u:Value} {t:TypeId} {x:α} (h:w.heap[g]?=some (.cells #[u] t (0,0))) (hu:R w w.heap.size u x):IsL R w w.heap.size (.slice (some ⟨g,0,none⟩) 1 c) [x]:=
 ⟨_,sl_row h (by decide) rfl,fun k v y hv hy=>by
  rcases k with _|k
  ·simp at hv hy;subst hv hy;exact hu
  ·simp at hy⟩
theorem isl_row2 {α:Type} {R:World→Nat→Value→α→Prop} {w:World} {g c:Nat} {u u':Value} {t:TypeId} {x x':α} (h:w.heap[g]?=some (.cells #[u,u'] t (0,0))) (hu:R w w.heap.size u x) (hu':R w w.heap.size u' x'):IsL R w w.heap.size (.slice (some ⟨g,0,none⟩) 2 c) [x,x']:=
 ⟨_,sl_row h (by decide) rfl,fun k v y hv hy=>by
  rcases k with _|_|k
  ·simp at hv hy;subst hv hy;exact hu
  ·simp at hv hy;subst hv hy;exact hu'
  ·simp at hy⟩
theorem l_ex20_1 (c:Int) (w:World):Calls Tryz.prog 56 #[.int .i64 c] w fun e w'=>e=.returned (.agg #[.int .i64 3,.int .i64 c,.int .i64 1])∧Below w.heap.size w w':=by
 go_enter Tryz.func56,Tryz.ntmps56
 go_wp2
 refine bodyPost_ret (v:=.agg #[.int .i64 3,.int .i64 c,.int .i64 1]) (by simp[results,Tryz.results56,go_sem]) rfl ⟨rfl,?_⟩
 exact(Below.refl w.heap.size w).alloc (Nat.le_refl _) _
theorem l_ex20_2 (c:Int) (w:World):Calls Tryz.prog 57 #[.int .i64 c] w fun e w'=>e=.returned (.agg #[.int .i64 1,.int .i64 c,.int .i64 0])∧Below w.heap.size w w':=by
 go_enter Tryz.func57,Tryz.ntmps57
 go_wp2
 refine bodyPost_ret (v:=.agg #[.int .i64 1,.int .i64 c,.int .i64 0]) (by simp[results,Tryz.results57,go_sem]) rfl ⟨rfl,?_⟩
 exact(Below.refl w.heap.size w).alloc (Nat.le_refl _) _
def exP20:Pg:=⟨[0,0],[[[⟨3,0,1⟩,⟨3,1,1⟩]],[[⟨1,0,0⟩,⟨1,1,0⟩]]]⟩
theorem l_ex20 (w:World):Calls Tryz.prog 33 #[] w (ExPost exP20 w):=by
 have b0:Below w.heap.size w ((w.alloc (.cells #[.slice none 0 0,.slice none 0 0] 25)).alloc (.cells #[.int .i64 0,.int .i64 0] 3)):=((Below.refl _ w).alloc (Nat.le_refl _) _).alloc (by simp) _
 have r0:=row_old (o:=.cells #[.int .i64 0,.int .i64 0] 3) (row_new w (.cells #[.slice none 0 0,.slice none 0 0] 25))
 have r1:=row_new' (w:=w.alloc (.cells #[.slice none 0 0,.slice none 0 0] 25)) (o:=.cells #[.int .i64 0,.int .i64 0] 3) (g:=w.heap.size+1) (by simp)
 go_enter Tryz.func33,Tryz.ntmps33
 go_wp2_with fail
 generalize (w.alloc (.cells #[.slice none 0 0,.slice none 0 0] 25)).alloc (.cells #[.int .i64 0,.int .i64 0] 3)=W at *
 refine(l_ex20_1 0 _).mono ?_
 rintro e W1 ⟨rfl,b1⟩
 go_wp2_with fail
 refine(l_ex20_1 1 _).mono ?_
 rintro e W2 ⟨rfl,b2⟩
 have b2:=b1.trans (b2.mono b1.size)
 have r0:=row_below r0 b2 (row_lt r0)
 have r1:=row_below r1 b2 (row_lt r1)
 have lw2:=row_lt r1
 have b2:=b0.trans (b2.mono b0.size)
 clear b0 b1
 have ra:=row_old (o:=.cells #[.slice (some ⟨W2.heap.size,0,none⟩) 2 2] 80) (row_new W2 (.cells #[.int .i64 3,.int .i64 0,.int .i64 1,.int .i64 3,.int .i64 1,.int .i64 1] 118))
 have rt:=row_new' (w:=W2.alloc (.cells #[.int .i64 3,.int .i64 0,.int .i64 1,.int .i64 3,.int .i64 1,.int .i64 1] 118)) (o:=.cells #[.slice (some ⟨W2.heap.size,0,none⟩) 2 2] 80) (g:=W2.heap.size+1) (by simp)
 have bx:Below W2.heap.size W2 ((W2.alloc (.cells #[.int .i64 3,.int .i64 0,.int .i64 1,.int .i64 3,.int .i64 1,.int .i64 1] 118)).alloc (.cells #[.slice (some ⟨W2.heap.size,0,none⟩) 2 2] 80)):=((Below.refl _ W2).alloc (Nat.le_refl _) _).alloc (by simp) _
 have r0:=row_below r0 bx (row_lt r0)
 have r1:=row_below r1 bx (row_lt r1)
 have b2:=b2.trans (bx.mono b2.size)
 go_wp2_with fail
 generalize (W2.alloc (.cells #[.int .i64 3,.int .i64 0,.int .i64 1,.int .i64 3,.int .i64 1,.int .i64 1] 118)).alloc (.cells #[.slice (some ⟨W2.heap.size,0,none⟩) 2 2] 80)=X at *
 refine(l_ex20_2 0 _).mono ?_
 rintro e W3 ⟨rfl,b3⟩
 go_wp2_with fail
 refine(l_ex20_2 1 _).mono ?_
 rintro e W4 ⟨rfl,b4⟩
 have b4:=b3.trans (b4.mono b3.size)
 have r0:=row_below r0 b4 (row_lt r0)
 have r1:=row_below r1 b4 (row_lt r1)
 have ra:=row_below ra b4 (row_lt ra)
 have rt:=row_below rt b4 (row_lt rt)
 have b5:=b2.trans (b4.mono b2.size)
 have l0:=row_lt r0
 have l1:w.heap.size < W4.heap.size+1:=by omega
 have l2:w.heap.size < W4.heap.size+1+1:=by omega
 have y0:=row_cell r0 0
 have y1:=row_cell r0 1
 simp at y0 y1
 have yf:∀j,W4.frozen? ⟨w.heap.size,j,none⟩=false:=fun j=>row_free r0 j
 have R0:=hid r0
 have R1:=hid r1
 have RA:=hid ra
 have RT:=hid rt
 have B5:=hid b5
 clear r0 r1 ra rt b2 b3 b4 b5 bx
 go_wp2
 have hsz:((W4.setCell ⟨w.heap.size,0,none⟩ (.slice (some ⟨w.heap.size+1,0,none⟩) 2 2)).setCell ⟨w.heap.size,1,none⟩ (.slice (some ⟨W4.heap.size+1+1,0,none⟩) 2 2)).heap.size=W4.heap.size:=by simp
 have hsz1:(((W4.setCell ⟨w.heap.size,0,none⟩ (.slice (some ⟨w.heap.size+1,0,none⟩) 2 2)).setCell ⟨w.heap.size,1,none⟩ (.slice (some ⟨W4.heap.size+1+1,0,none⟩) 2 2)).alloc (.cells #[.int .i64 1,.int .i64 0,.int .i64 0,.int .i64 1,.int .i64 1,.int .i64 0] 118)).heap.size=W4.heap.size+1:=by simp
 have hsz2:((((W4.setCell ⟨w.heap.size,0,none⟩ (.slice (some ⟨w.heap.size+1,0,none⟩) 2 2)).setCell ⟨w.heap.size,1,none⟩ (.slice (some ⟨W4.heap.size+1+1,0,none⟩) 2 2)).alloc (.cells #[.int .i64 1,.int .i64 0,.int .i64 0,.int .i64 1,.int .i64 1,.int .i64 0] 118)).alloc (.cells #[.slice (some ⟨W4.heap.size,0,none⟩) 2 2] 80)).heap.size=W4.heap.size+1+1:=by simp
 have nA:w.heap.size≠W2.heap.size:=by omega
 have nT:w.heap.size≠W2.heap.size+1:=by omega
 have k0:=row_old (o:=.cells #[.slice (some ⟨W2.heap.size+1,0,none⟩) 1 1,.slice (some ⟨W4.heap.size+1,0,none⟩) 1 1] 79) (row_old (o:=.cells #[.slice (some ⟨W4.heap.size,0,none⟩) 2 2] 80) (row_old (o:=.cells #[.int .i64 1,.int .i64 0,.int .i64 0,.int .i64 1,.int .i64 1,.int .i64 0] 118) (row_set (row_set R0.out 0 (.slice (some ⟨w.heap.size+1,0,none⟩) 2 2)) 1 (.slice (some ⟨W4.heap.size+1+1,0,none⟩) 2 2))))
 have k1:=row_old (o:=.cells #[.slice (some ⟨W2.heap.size+1,0,none⟩) 1 1,.slice (some ⟨W4.heap.size+1,0,none⟩) 1 1] 79) (row_old (o:=.cells #[.slice (some ⟨W4.heap.size,0,none⟩) 2 2] 80) (row_old (o:=.cells #[.int .i64 1,.int .i64 0,.int .i64 0,.int .i64 1,.int .i64 1,.int .i64 0] 118) (row_other (g':=w.heap.size) (j:=1) (v:=.slice (some ⟨W4.heap.size+1+1,0,none⟩) 2 2) (row_other (g':=w.heap.size) (j:=0) (v:=.slice (some ⟨w.heap.size+1,0,none⟩) 2 2) R1.out (by omega)) (by omega))))
 have ka:=row_old (o:=.cells #[.slice (some ⟨W2.heap.size+1,0,none⟩) 1 1,.slice (some ⟨W4.heap.size+1,0,none⟩) 1 1] 79) (row_old (o:=.cells #[.slice (some ⟨W4.heap.size,0,none⟩) 2 2] 80) (row_old (o:=.cells #[.int .i64 1,.int .i64 0,.int .i64 0,.int .i64 1,.int .i64 1,.int .i64 0] 118) (row_other (g':=w.heap.size) (j:=1) (v:=.slice (some ⟨W4.heap.size+1+1,0,none⟩) 2 2) (row_other (g':=w.heap.size) (j:=0) (v:=.slice (some ⟨w.heap.size+1,0,none⟩) 2 2) RA.out nA) nA)))
 have kt:=row_old (o:=.cells #[.slice (some ⟨W2.heap.size+1,0,none⟩) 1 1,.slice (some ⟨W4.heap.size+1,0,none⟩) 1 1] 79) (row_old (o:=.cells #[.slice (some ⟨W4.heap.size,0,none⟩) 2 2] 80) (row_old (o:=.cells #[.int .i64 1,.int .i64 0,.int .i64 0,.int .i64 1,.int .i64 1,.int .i64 0] 118) (row_other (g':=w.heap.size) (j:=1) (v:=.slice (some ⟨W4.heap.size+1+1,0,none⟩) 2 2) (row_other (g':=w.heap.size) (j:=0) (v:=.slice (some ⟨w.heap.size+1,0,none⟩) 2 2) RT.out nT) nT)))
 have ma:=row_old (o:=.cells #[.slice (some ⟨W2.heap.size+1,0,none⟩) 1 1,.slice (some ⟨W4.heap.size+1,0,none⟩) 1 1] 79) (row_old (o:=.cells #[.slice (some ⟨W4.heap.size,0,none⟩) 2 2] 80) (row_new' (o:=.cells #[.int .i64 1,.int .i64 0,.int .i64 0,.int .i64 1,.int .i64 1,.int .i64 0] 118) hsz.symm))
 have mt:=row_old (o:=.cells #[.slice (some ⟨W2.heap.size+1,0,none⟩) 1 1,.slice (some ⟨W4.heap.size+1,0,none⟩) 1 1] 79) (row_new' (o:=.cells #[.slice (some ⟨W4.heap.size,0,none⟩) 2 2] 80) hsz1.symm)
 have mh:=row_new' (o:=.cells #[.slice (some ⟨W2.heap.size+1,0,none⟩) 1 1,.slice (some ⟨W4.heap.size+1,0,none⟩) 1 1] 79) hsz2.symm
 have bz:Below w.heap.size w (((((W4.setCell ⟨w.heap.size,0,none⟩ (.slice (some ⟨w.heap.size+1,0,none⟩) 2 2)).setCell ⟨w.heap.size,1,none⟩ (.slice (some ⟨W4.heap.size+1+1,0,none⟩) 2 2)).alloc (.cells #[.int .i64 1,.int .i64 0,.int .i64 0,.int .i64 1,.int .i64 1,.int .i64 0] 118)).alloc (.cells #[.slice (some ⟨W4.heap.size,0,none⟩) 2 2] 80)).alloc (.cells #[.slice (some ⟨W2.heap.size+1,0,none⟩) 1 1,.slice (some ⟨W4.heap.size+1,0,none⟩) 1 1] 79)):=
  ((((B5.out.setCell (p:=⟨w.heap.size,0,none⟩) (Nat.le_refl _) _).setCell (p:=⟨w.heap.size,1,none⟩) (Nat.le_refl _) _).alloc (by omega) _).alloc (by omega) _).alloc (by omega) _
 generalize ((((W4.setCell ⟨w.heap.size,0,none⟩ (.slice (some ⟨w.heap.size+1,0,none⟩) 2 2)).setCell ⟨w.heap.size,1,none⟩ (.slice (some ⟨W4.heap.size+1+1,0,none⟩) 2 2)).alloc (.cells #[.int .i64 1,.int .i64 0,.int .i64 0,.int .i64 1,.int .i64 1,.int .i64 0] 118)).alloc (.cells #[.slice (some ⟨W4.heap.size,0,none⟩) 2 2] 80)).alloc (.cells #[.slice (some ⟨W2.heap.size+1,0,none⟩) 1 1,.slice (some ⟨W4.heap.size+1,0,none⟩) 1 1] 79)=Z at *
 have c0:=row_cell k0 0
 have c1:=row_cell k0 1
 simp at c0 c1
 refine bodyPost_ret (v:=.agg #[.slice (some ⟨w.heap.size+1,0,none⟩) 2 2,.slice (some ⟨W4.heap.size+1+1,0,none⟩) 2 2]) (by simp[results,Tryz.results33,go_sem,c0,c1]) rfl ⟨_,_,rfl,⟨sl_row k1 (by decide) rfl,?_⟩,bz⟩
 exact isl_row2 mh (isl_row1 kt (sl_row ka (by decide) rfl)) (isl_row1 mt (sl_row ma (by decide) rfl))
end
structure GlobP (w:World):Prop where
 big:2 < w.heap.size
 prog:∃t v,w.cell? ⟨2,0,none⟩=some (.iface t v)
theorem GlobP.below {w w':World} (h:GlobP w) (hb:Below w.heap.size w w'):GlobP w':=let ⟨h1,t,v,h2⟩:=h;⟨by have:=hb.size;omega,t,v,cell_below hb h1 h2⟩
section
variable {P:Pg} {S S':Wst} {A:Au}
theorem acts_kinds (hok:PgOk P) {i:Nat} (hi:i < P.threads.length) {t:Th} (hd:thDone P i t=false) (htk:ThOk P i t) {a:Ac} (ha:(P.acts i t.tx)[t.act]?=some a) (hk:a.kind≠4):(a.kind=1∧a.val=0∨a.kind=2∨a.kind=3)∧0≤a.cell∧a.cell < P.cells.length∧-1000≤a.val∧a.val≤1000:=by
 have htx:=tx_lt hok hi htk hd
 rcases hok.at hi htx ha with⟨hk',-⟩|h
 ·exact absurd hk' hk
 ·exact h
theorem jstep (hJ:JInv P S A) (hok:PgOk P) {i:Nat} (hi:i < P.threads.length) {t:Th} (ht:S.ths[i]?=some t) (hd:thDone P i t=false) (htk:ThOk P i t) (htr:-900000000≤t.read∧t.read≤900000000) (hw:Wk1 P S i t S'):
  ∃A',JInv P S' A':=by
 have hi4:i < 4:=by have:=hok.threads.2;omega
 have htx:=tx_lt hok hi htk hd
 have ht3:=Pg.tx3 hok hi
 have ha6:=acts_le hok hi t.tx
 have hcl:P.cells.length≤4:=hok.cells.2
 cases hw with
 |same=>exact⟨A,hJ⟩
 |begin hw hb=>exact⟨_,(hJ.begun ht hb (by omega) (by omega) hw).2⟩
 |call a hw hb ha hk=>
  obtain⟨hkk,hc0,hc1,hv0,hv1⟩:=acts_kinds hok hi hd htk ha hk
  obtain⟨k,s,hs,hid,hth,hst,hj'⟩:=hJ.called ht hb hw ha hk (by omega) ⟨hc0,hc1,by omega⟩ (fun _=>by unfold wrVal;split <;> omega)
  exact⟨_,hj'⟩
 |cancel a hw hb ha hk=>
  obtain⟨k,s,hs,hid,hth,hst,hj'⟩:=hJ.cancelled ht hb hw (by omega)
  exact⟨_,hj'⟩
 |try_ hw hb ha=>
  obtain⟨k,s,hs,hid,hth,hst,hj'⟩:=hJ.tried ht hb hw (by omega)
  exact⟨_,hj'⟩
 |wrote a hw hb ha hk=>
  obtain⟨k,s,hs,hid,hth,hst,hj'⟩:=hJ.answered (ret:=1) (got:=0) ht hb hw (by omega) ha (.inl ⟨hk,rfl,rfl,rfl⟩) (by omega)
  exact⟨_,hj'⟩
 |read a v hw hb ha hk hv=>
  obtain⟨k,s,hs,hid,hth,hst,hj'⟩:=hJ.answered (ret:=3) (got:=v) ht hb hw (by omega) ha (.inr ⟨hk,rfl,rfl⟩) hv
  exact⟨_,hj'⟩
 |abort hw hb=>
  obtain⟨k,s,hs,hid,hth,hst,hj'⟩:=hJ.ended (kind:=6) (status:=4) ht hb (by omega) ha6 htk.act (fun h=>by
   rcases htk.waits with h1|⟨-,⟨-,a,ha,-⟩|⟨h1,-⟩|⟨h1,-⟩⟩
   ·omega
   ·exact (List.getElem?_eq_some_iff.1 ha).1
   ·omega
   ·omega) (.inr ⟨rfl,rfl,hw⟩)
  exact⟨_,hj'⟩
 |commit hw hb=>
  obtain⟨k,s,hs,hid,hth,hst,hj'⟩:=hJ.ended (kind:=5) (status:=3) ht hb (by omega) ha6 htk.act (fun h=>by omega) (.inl ⟨rfl,rfl,hw⟩)
  exact⟨_,hj'⟩
def BInv (P:Pg) (S:Wst):Prop:=∀(i:Nat) (t:Th),S.ths[i]?=some t→t.begun=true→t.tx < (P.txs i).length
theorem bstep (hok:PgOk P) (hB:BInv P S) {i:Nat} (hi:i < P.threads.length) {t:Th} (ht:S.ths[i]?=some t) (hd:thDone P i t=false) (htk:ThOk P i t) (hs:Wk1 P S i t S'):BInv P S':=by
 have hlt:=tx_lt hok hi htk hd
 have e1:∀u:Th,(endTh u).begun=false:=fun _=>rfl
 cases hs with
 |same=>exact hB
 |begin hw hb=>exact bput hB fun _=>hlt
 |call a hw hb ha hk=>exact bput hB fun _=>hlt
 |cancel a hw hb ha hk=>exact bput hB fun _=>hlt
 |try_ hw hb ha=>exact bput hB fun _=>hlt
 |wrote a hw hb ha hk=>exact bput hB fun _=>hlt
 |read a v hw hb ha hk hv=>exact bput hB fun _=>by unfold rdTh;split <;> exact hlt
 |abort hw hb=>exact bput hB fun h=>by rw[e1] at h;cases h
 |commit hw hb=>exact bput hB fun h=>by rw[e1] at h;cases h
theorem jzero (P:Pg):JInv P ⟨List.replicate P.threads.length Th.zero,[]⟩ []:=by
 have hz:∀(i:Nat) (t:Th),(List.replicate P.threads.length Th.zero)[i]?=some t→t=Th.zero:=fun i t ht=>List.eq_of_mem_replicate (List.mem_of_getElem? ht)
 refine⟨.nil,fun e he=>(nomatch he),Nat.zero_le _,fun i t ht k hk=>?_,fun i t ht hb=>?_,fun s hs=>(nomatch hs),List.nodup_nil,fun i t ht=>?_,fun i t ht=>?_,fun s hs=>(nomatch hs),fun i t s d a ht hs=>(nomatch hs)⟩
 ·rw [hz i t ht] at hk;cases hk
 ·rw [hz i t ht] at hb;cases hb
 ·rw [hz i t ht];exact⟨.inl rfl,fun _=>⟨rfl,rfl⟩,fun h=>by cases h⟩
 ·rw [hz i t ht];exact⟨Nat.zero_le _,fun h=>by cases h⟩
theorem bzero (P:Pg):BInv P ⟨List.replicate P.threads.length Th.zero,[]⟩:=fun i t ht hb=>by
 have:t=Th.zero:=List.eq_of_mem_replicate (List.mem_of_getElem? ht)
 rw[this] at hb;cases hb
theorem jevs (hJ:JInv P S A) (hok:PgOk P) (hthl:S.ths.length=P.threads.length) (htk:∀(i:Nat) (t:Th),S.ths[i]?=some t→ThOk P i t):S.evs.length≤400:=by
 have h1:=hJ.cnt
 have h2:∀t ∈ S.ths,hTh t≤99:=fun t ht=>by
  obtain⟨i,hi⟩:=List.mem_iff_getElem?.1 ht
  have h3:=hJ.bt i t hi
  have h4:=(htk i t hi).act
  have h5:(P.acts i t.tx).length≤6:=acts_le hok (by rw[←hthl];exact(List.getElem?_eq_some_iff.1 hi).1) _
  have h6:=(hJ.wt i t hi).2.1
  unfold hTh
  cases hb:t.begun with
  |false=>
   obtain⟨h7,h8⟩:=h6 hb
   rw[h7,h8]
   simp
   split <;> omega
  |true=>
   have:=h3.2 hb
   simp
   split <;> split <;> omega
 have h3:∀(l:List Th),(∀t ∈ l,hTh t≤99)→sumTh l≤99*l.length:=fun l=>by
  induction l with
  |nil=>intro _;simp[sumTh]
  |cons x l ih=>
   intro hl
   have:=ih fun t ht=>hl t (List.mem_cons_of_mem _ ht)
   have:=hl x (List.mem_cons_self ..)
   simp only[sumTh,List.map_cons,List.sum_cons,List.length_cons] at *
   omega
 have:=h3 _ h2
 rw[hthl] at this
 have:=hok.threads.2
 omega
theorem jended (hJ:JInv P S A) (hB:BInv P S) (hthl:S.ths.length=P.threads.length) (hd:allDone P S=true):∀s ∈ A,s.stand=5∧0≤s.fin:=by
 intro s hs
 obtain⟨i,t,k,ht,hid,hth,hc⟩:=hJ.all s hs
 rcases hc with⟨-,h1,h2⟩|⟨-,hb,-⟩
 ·exact ⟨h1,h2⟩
 ·have:=hB i t ht hb
  have hi:i < P.threads.length:=by rw[←hthl];exact(List.getElem?_eq_some_iff.1 ht).1
  have h2:=List.all_eq_true.1 hd i (List.mem_range.2 hi)
  rw[wDone_th ht] at h2
  have h3:t.tx=(P.txs i).length:=by simpa[thDone] using h2
  omega
theorem jcount (hJ:JInv P S A) (hB:BInv P S) (hok:PgOk P) (hthl:S.ths.length=P.threads.length) (hd:allDone P S=true):A.length=cntTxs P:=by
 rw[←allIds_len,←List.length_map (f:=fun s:St=>s.id)]
 refine((List.perm_ext_iff_of_nodup hJ.ids (allIds_nodup hok)).2 fun x=>?_).length_eq
 have hdone:∀(i:Nat) (t:Th),S.ths[i]?=some t→i < P.threads.length∧t.tx=(P.txs i).length:=fun i t ht=>by
  have hi:i < P.threads.length:=by rw[←hthl];exact(List.getElem?_eq_some_iff.1 ht).1
  have h2:=List.all_eq_true.1 hd i (List.mem_range.2 hi)
  rw[wDone_th ht] at h2
  exact⟨hi,by simpa[thDone] using h2⟩
 rw[mem_allIds]
 constructor
 ·intro hx
  obtain⟨s,hs,rfl⟩:=List.mem_map.1 hx
  obtain⟨i,t,k,ht,hid,hth,hc⟩:=hJ.all s hs
  obtain⟨hi,htx⟩:=hdone i t ht
  refine⟨i,k,hi,?_,hid⟩
  rcases hc with⟨hk,-⟩|⟨-,hb,-⟩
  ·omega
  ·have:=hB i t ht hb
   omega
 ·rintro ⟨i,k,hi,hk,rfl⟩
  obtain⟨t,ht⟩:∃t,S.ths[i]?=some t:=⟨_,List.getElem?_eq_getElem (by rw[hthl];exact hi)⟩
  obtain⟨-,htx⟩:=hdone i t ht
  obtain⟨s,hs,hid⟩:=hJ.old i t ht k (by omega)
  exact List.mem_map.2 ⟨s,hs,hid⟩
end
def maskN (f:Nat→Bool):Nat→Nat
 |0=>0
 |n+1=>maskN f n|||(if f n then 2 ^ n else 0)
theorem maskN_bit (f:Nat→Bool):∀(n j:Nat),(maskN f n).testBit j=(decide (j < n)&&f j)
 |0,j=>by simp[maskN]
 |n+1,j=>by
  simp only[maskN,Nat.testBit_or,maskN_bit f n j]
  by_cases e:n=j
  ·subst e
   cases hf:f n <;> simp
  ·by_cases hl:j < n
   ·have h1:j < n+1:=by omega
    cases hf:f n <;> simp[hl,h1,Nat.testBit_two_pow,e]
   ·have h1:¬j < n+1:=by omega
    cases hf:f n <;> simp[hl,h1,Nat.testBit_two_pow,e]
def cntd (lev:Int) (s:St):Bool:=if lev=1∨lev=2 then decide (s.status=3∨s.status=2) else decide (lev=3)
def rly (a b:St):Bool:=decide (0≤a.fin)&&decide (a.fin < b.beg)
def mskF (lev:Int) (l:List St) (b:St) (i:Nat):Bool:=match l[i]? with
 |some a=>decide (lev≠1)&&rly a b
 |none=>false
def mskOf (lev:Int) (l:List St) (b:St):Nat:=maskN (mskF lev l b) l.length
def gmOf (lev:Int) (A:Au):Gm:=⟨lev,A.filter (cntd lev),(A.filter (cntd lev)).map (mskOf lev (A.filter (cntd lev)))⟩
theorem filter_nodup_ids {A:Au} (hn:(A.map (·.id)).Nodup) (f:St→Bool) {i j:Nat} {s u:St} (hs:(A.filter f)[i]?=some s) (hu:(A.filter f)[j]?=some u) (he:s.id=u.id):i=j:=by
 have hn':((A.filter f).map (·.id)).Nodup:=hn.sublist (List.filter_sublist.map _)
 have hl:i < ((A.filter f).map (·.id)).length:=by have:=(List.getElem?_eq_some_iff.1 hs).1;simpa using this
 exact(List.getElem?_inj hl hn' (j:=j)).1 (by simp only[List.getElem?_map,hs,hu,Option.map_some,he])
theorem find_mem_id {A:Au} (hn:(A.map (·.id)).Nodup) {s u:St} (hs:s ∈ A) (hu:u ∈ A) (he:s.id=u.id):s=u:=by
 have h1:=find_id hn hs
 have h2:=find_id hn hu
 rw[he] at h1
 rw[h1] at h2
 exact Option.some.inj h2
def ComOk (A:Au) (ord:List (Int×Bool)):Prop:=∀s ∈ A,∀c,(s.id,c) ∈ ord→(c=true→s.status=3∨s.status=2)∧(c=false→s.status≠3)
theorem ends_gm {lev:Int} (hlev:lev=1∨lev=2∨lev=3) {A:Au} {n:Nat} {ord:List (Int×Bool)} {σ τ:List Int} (hn:(A.map (·.id)).Nodup) (ho:OrdOk A n ord) (hc:ComOk A ord) (htm:∀s ∈ A,s.fin=-1∨s.beg < s.fin)
  (hp:playO (deedsOf A) (decide (lev=3)) σ ord=some τ):(gmOf lev A).Ends (0,σ):=by
 let inc:Int×Bool→Bool:=fun p=>A.any fun s=>s.id==p.1&&cntd lev s
 have inc_id:∀(s:St) (c:Bool),s ∈ A→inc (s.id,c)=cntd lev s:=fun s c hs=>by
  show(A.any fun u=>u.id==s.id&&cntd lev u)=_
  cases h:cntd lev s with
  |true=>exact List.any_eq_true.2 ⟨s,hs,by simp[h]⟩
  |false=>
   refine Bool.eq_false_iff.2 fun hA=>?_
   obtain⟨u,hu,h2⟩:=List.any_eq_true.1 hA
   simp only[Bool.and_eq_true,beq_iff_eq] at h2
   have:=find_mem_id hn hu hs h2.1
   subst this
   rw[h] at h2
   exact absurd h2.2 (by simp)
 have hord:=ho.nodup hn
 have hfilter:playO (deedsOf A) (decide (lev=3)) σ (ord.filter inc)=some τ:=by
  rcases hlev with rfl|rfl|rfl
  ·refine playO_filter (fun q hq hf=>?_) hp
   obtain⟨s,hs,he⟩:=ho.mem hq
   obtain⟨qi,qc⟩:=q
   simp only at he
   subst he
   rw[inc_id s qc hs] at hf
   cases qc with
   |false=>rfl
   |true=>
    have:=(hc s hs true hq).1 rfl
    simp[cntd] at hf
    omega
  ·refine playO_filter (fun q hq hf=>?_) hp
   obtain⟨s,hs,he⟩:=ho.mem hq
   obtain⟨qi,qc⟩:=q
   simp only at he
   subst he
   rw[inc_id s qc hs] at hf
   cases qc with
   |false=>rfl
   |true=>
    have:=(hc s hs true hq).1 rfl
    simp[cntd] at hf
    omega
  ·have:ord.filter inc=ord:=List.filter_eq_self.2 fun q hq=>by
    obtain⟨s,hs,he⟩:=ho.mem hq
    obtain⟨qi,qc⟩:=q
    simp only at he
    subst he
    rw[inc_id s qc hs]
    simp[cntd]
   rw[this];exact hp
 have memF:∀{p:Int×Bool},p ∈ ord.filter inc↔p ∈ ord∧∃s ∈ A,s.id=p.1∧cntd lev s=true:=fun {p}=>by
  rw[List.mem_filter]
  constructor
  ·rintro ⟨h1,h2⟩
   obtain⟨s,hs,h3⟩:=List.any_eq_true.1 h2
   simp only[Bool.and_eq_true,beq_iff_eq] at h3
   exact⟨h1,s,hs,h3⟩
  ·rintro ⟨h1,s,hs,h2,h3⟩
   exact⟨h1,List.any_eq_true.2 ⟨s,hs,by simp[h2,h3]⟩⟩
 have hid:∀{s:St},s ∈ (gmOf lev A).txs→s.id ∈ (ord.filter inc).map (·.1):=fun {s} hs=>by
  have hs':=List.mem_filter.1 hs
  obtain⟨c,hcm⟩:=ho.has hs'.1
  exact List.mem_map.2 ⟨(s.id,c),memF.2 ⟨hcm,s,hs'.1,rfl,hs'.2⟩,rfl⟩
 refine ends_suf (deedsOf A) (fun s hs=>deedsOf_id hn (List.mem_filter.1 hs).1) (by by_cases h:lev=3 <;> simp[gmOf,h]) (ord.filter inc) 0 σ τ (Nat.two_pow_pos _) (fun i s hs=>?_) (hord.sublist (List.filter_sublist.map _)) (fun x hx=>?_) (fun a b x i s he hs hi j hj=>?_) hfilter (fun i j s u hs hu he=>filter_nodup_ids hn _ hs hu he)
 ·constructor
  ·intro h;simp at h
  ·intro h;exact absurd (hid (List.mem_of_getElem? hs)) h
 ·obtain ⟨h1,s,hs,h2,h3⟩:=memF.1 hx
  have hsF:s ∈ (gmOf lev A).txs:=List.mem_filter.2 ⟨hs,h3⟩
  obtain⟨i,hi⟩:=List.mem_iff_getElem?.1 hsF
  obtain⟨xi,xc⟩:=x
  simp only at h2
  subst h2
  exact⟨i,s,hi,rfl,hc s hs xc h1⟩
 ·have hmask:(gmOf lev A).masks.getD i 0=mskOf lev (A.filter (cntd lev)) s:=by
   show((A.filter (cntd lev)).map _).getD i 0=_
   rw[List.getD_eq_getElem?_getD,List.getElem?_map]
   rw[show (A.filter (cntd lev))[i]?=some s from hs]
   rfl
  rw[hmask] at hj
  unfold mskOf at hj
  rw[maskN_bit] at hj
  simp only[Bool.and_eq_true,decide_eq_true_eq] at hj
  obtain⟨hj1,hj2⟩:=hj
  have hu:=List.getElem?_eq_getElem hj1
  refine⟨_,hu,fun hin=>?_⟩
  unfold mskF at hj2
  rw[hu] at hj2
  simp only[Bool.and_eq_true,decide_eq_true_eq,rly] at hj2
  obtain⟨-,h0,hlt⟩:=hj2
  generalize (A.filter (cntd lev))[j]=u at *
  have huA:=(List.mem_filter.1 (List.mem_of_getElem? hu)).1
  have hsA:=(List.mem_filter.1 (List.mem_of_getElem? hs)).1
  simp only[List.map_cons,List.mem_cons] at hin
  rcases hin with hin|hin
  ·have:=find_mem_id hn huA hsA (hin.trans hi.symm)
   subst this
   have:=htm u huA
   omega
  ·obtain ⟨y,hy,hyu⟩:=List.mem_map.1 hin
   have hrt:=(ho.rt.sublist (List.filter_sublist (p:=inc)))
   rw[he] at hrt
   have h1:=(List.pairwise_append.1 hrt).2.1
   have h2:=(List.pairwise_cons.1 h1).1 y hy
   exact h2 s hsA u huA hi hyu.symm ⟨h0,hlt⟩
structure GlobT (w:World):Prop where
 prog:GlobP w
 words:WordsAt w
 ans:ErrAt 15 w
theorem GlobT.below {w w':World} (h:GlobT w) (hb:Below w.heap.size w w'):GlobT w':=⟨h.prog.below hb,h.words.below hb,h.ans.below hb⟩
