/- Parts of the proof, merged by program out of 2 texts (EmB, EmC): the first: The walk through a program, in memory: of, Done, Tx, ID. Conditions: those of each theorem, as typed. -/
import Derived.Test.YtkfhgifhfkcehaaGreatDoorQL02
import Derived.OneCell
set_option linter.unusedVariables false
set_option linter.unusedSimpArgs false
set_option linter.unusedSectionVars false
set_option maxRecDepth 100000
set_option maxHeartbeats 4000000
namespace Go.Proofs.YtkfhgifhfkcehaaGreatDoor
open Go.RowKit
section
attribute [local irreducible] wpL
def intC (x:Int):List Value:=[.int .i64 x]
abbrev OwnI:=OwnF intC 3 1
theorem flat_int (l:List Int):l.flatMap intC=l.map (.int .i64):=by induction l with|nil=>rfl|cons x l ih=>simp[intC,ih]
def valC (v:Value):List Value:=[v]
theorem flat_val (l:List Value):l.flatMap valC=l:=by induction l with|nil=>rfl|cons x l ih=>simp[valC,ih]
abbrev OwnActs:=OwnF Ac.cells 118 3
def OwnTxs (w:World) (B:Nat) (v:Value) (l:List (List Ac)):Prop:=∃vs,OwnF valC 80 1 w B v vs∧vs.length=l.length∧∀(k:Nat) (u:Value) (x:List Ac),vs[k]?=some u→l[k]?=some x→OwnActs w B u x
def OwnThr (w:World) (B:Nat) (v:Value) (l:List (List (List Ac))):Prop:=∃vs,OwnF valC 79 1 w B v vs∧vs.length=l.length∧∀(k:Nat) (u:Value) (x:List (List Ac)),vs[k]?=some u→l[k]?=some x→OwnTxs w B u x
theorem OwnF.at1 {e:TypeId} {w:World} {B n c:Nat} {a:Option Addr} {vs:List Value} (h:OwnF valC e 1 w B (.slice a n c) vs) (hn:vs.length=n) {k:Nat} (hk:k < n):∃g u,a=some ⟨g,0,none⟩∧g < w.heap.size∧vs[k]?=some u∧w.cell? ⟨g,k,none⟩=some u:=by
 have hs:Sl w w.heap.size 1 (.slice a n c) n (vs.flatMap valC):=by rw[←hn] at h ⊢;exact h.sl
 rcases h.form with⟨-,rfl⟩|⟨g,cap',e,hB,hg⟩
 ·simp at hn;omega
 ·simp only[Value.slice.injEq,Option.some.injEq] at e
  obtain⟨rfl,-,rfl⟩:=e
  obtain⟨b,off,u,hb,-,hu,hc⟩:=hs.at1 hk
  simp only[Option.some.injEq,Addr.mk.injEq,and_true] at hb
  obtain⟨rfl,rfl⟩:=hb
  rw[flat_val] at hu
  exact⟨g,u,rfl,hg,hu,by simpa using hc⟩
theorem OwnF.len {α:Type} {f:α→List Value} {e:TypeId} {sz B n c:Nat} {a:Option Addr} {w:World} {l:List α} (h:OwnF f e sz w B (.slice a n c) l):l.length=n:=by
 rcases h.form with⟨h1,h2⟩|⟨g,cap,h1,-⟩
 ·simp only[Value.slice.injEq] at h1
  rw[h2,h1.2.1];rfl
 ·simp only[Value.slice.injEq] at h1
  exact h1.2.1.symm
theorem OwnF.form2 {α:Type} {f:α→List Value} {e:TypeId} {sz B:Nat} {v:Value} {w:World} {l:List α} (h:OwnF f e sz w B v l):∃a c,v=.slice a l.length c∧l.length≤9223372036854775807:=h.sl.ex
structure WkAt (w:World) (B bW gT:Nat) (vc vt ve:Value) (P:Pg) (S:Wst):Prop where
 row:w.heap[bW]?=some (.cells #[vc,vt,.slice (some ⟨gT,0,none⟩) P.threads.length P.threads.length,ve] 210 (0,0))
 hB:B≤bW
 cells:OwnI w B vc P.cells
 thr:OwnThr w B vt P.threads
 ths:OwnF Th.cells 283 6 w B (.slice (some ⟨gT,0,none⟩) P.threads.length P.threads.length) S.ths
 evs:OwnF Ev.cells 53 8 w B ve S.evs
 ok:PgOk P
 tok:∀(i:Nat) (t:Th),S.ths[i]?=some t→ThOk P i t
theorem WkAt.at {w:World} {B bW gT:Nat} {vc vt ve:Value} {P:Pg} {S:Wst} (h:WkAt w B bW gT vc vt ve P S) {i:Nat} (hi:i < P.threads.length):∃t,S.ths[i]?=some t∧ThOk P i t∧gT < w.heap.size∧∀j,j < 6→w.cell? ⟨gT,i*6+j,none⟩=t.cells[j]?:=by
 have hl:=h.ths.len
 have hs:Sl w w.heap.size 6 (.slice (some ⟨gT,0,none⟩) P.threads.length P.threads.length) P.threads.length (S.ths.flatMap Th.cells):=by
  have h2:=h.ths
  rw[←hl] at h2 ⊢
  exact h2.sl
 obtain⟨b,off,t,hb,hlt,ht,hc⟩:=Sl.atF Th.len hs hl hi
 simp only[Option.some.injEq,Addr.mk.injEq,and_true] at hb
 obtain⟨rfl,rfl⟩:=hb
 exact⟨t,ht,h.tok i t ht,hlt,fun j hj=>by have:=hc j hj;rwa [Nat.zero_add] at this⟩
theorem Pg.txs_at {P:Pg} {i:Nat} {x:List (List Ac)} (h:P.threads[i]?=some x):P.txs i=x:=by unfold Pg.txs;rw[List.getD_eq_getElem?_getD,h];rfl
theorem WkAt.txs {w:World} {B bW gT:Nat} {vc vt ve:Value} {P:Pg} {S:Wst} (h:WkAt w B bW gT vc vt ve P S) {i:Nat} (hi:i < P.threads.length):∃gt ct u c,vt=.slice (some ⟨gt,0,none⟩) P.threads.length ct∧gt < w.heap.size∧w.cell? ⟨gt,i,none⟩=some (.slice u (P.txs i).length c)∧OwnTxs w B (.slice u (P.txs i).length c) (P.txs i):=by
 obtain⟨vs,h1,h2,h3⟩:=h.thr
 obtain⟨a,ct,rfl,-⟩:=h1.form2
 rw[h2] at h1 ⊢
 obtain⟨g,u,rfl,hg,hu,hc⟩:=h1.at1 h2 hi
 obtain⟨x,hx⟩:∃x,P.threads[i]?=some x:=⟨_,List.getElem?_eq_getElem hi⟩
 have h4:=h3 i u x hu hx
 rw[←Pg.txs_at hx] at h4
 obtain⟨ws,k1,k2,k3⟩:=h4
 obtain⟨b,c,rfl,-⟩:=k1.form2
 rw[k2] at k1 hc
 exact⟨g,ct,b,c,rfl,hg,hc,ws,k1,k2,k3⟩
section
variable {w:World} {B bW gT:Nat} {vc vt ve:Value} {P:Pg} {S:Wst}
theorem wk_id (i k:Nat) (hi:i < 4) (hk:k < 3) (w:World):Calls Tryz.prog 210 #[.int .i64 i,.int .i64 k] w fun e w'=>e=.returned (.int .i64 (idOf i k))∧w=w':=by
 have h1:wrap64 (3*(i:Int))=3*(i:Int):=IntWalk.wrap64_in _ (by omega)
 have h2:wrap64 (3*(i:Int)+k)=3*(i:Int)+k:=IntWalk.wrap64_in _ (by omega)
 have h3:wrap64 (3*(i:Int)+k+1)=3*(i:Int)+k+1:=IntWalk.wrap64_in _ (by omega)
 go_enter Tryz.func210,Tryz.ntmps210
 go_wp2
 go_ret
 exact⟨rfl,rfl⟩
theorem wk_within (n:Int) (w:World):Calls Tryz.prog 198 #[.int .i64 n] w fun e w'=>e=.returned (.bool (within9 n))∧w=w':=by
 go_enter Tryz.func198,Tryz.ntmps198
 by_cases h:-1000000000≤n
 ·go_wp2
  go_ret
  exact⟨by simp[within9,h],rfl⟩
 ·go_wp2
  go_ret
  exact⟨by simp[within9];omega,rfl⟩
theorem wk_of_out (h:WkAt w B bW gT vc vt ve P S) (i:Int) (hi:i < 0∨(P.threads.length:Int)≤i):Calls Tryz.prog 113 #[.pointer (some ⟨bW,0,none⟩),.int .i64 i] w fun e w'=>e=.returned (.tuple #[.pointer none,.bool false])∧w'=w.drew:=by
 have hr:=row_cell h.row
 have d2:w.cell? ⟨bW,2,none⟩=some (.slice (some ⟨gT,0,none⟩) P.threads.length P.threads.length):=hr 2
 have hm:P.threads.length≤4:=h.ok.threads.2
 clear h hr
 generalize P.threads.length=n at *
 go_enter Tryz.func113,Tryz.ntmps113
 by_cases h0:i < 0
 ·have q1:decide (i < 0)=true:=by simpa using h0
  go_wp2
  refine wp_region_x [0,0,0,0,0,0,0,1,0,0,0,0,0,0,0,1,0,0,0,1,0,0,0,0,1,0,0,1,0,0,0] [0,1,2,3,4,5,6,7,8,9,10,11,12,13,14,15,16,17,18,19,20,21,22,23,24,25,26,27,28,29,30] (by kernel_rfl) ?_
  simp only[selX,guardAt,sD,sE,sF,sG,Option.bind_some]
  repeat first|(refine wpL_p fun K hK=>?_;go_simp;refine hK _ _ ?_;clear hK K)|(refine wpL_no rfl rfl fun K hK=>?_;simp only[Act.put,sA,sB,sC];refine hK _ _ ?_;clear hK K)|refine wpL_nil ?_
  go_wp2
  refine bodyPost_ret (v:=.tuple #[.pointer none,.bool false]) (by simp[results,Tryz.results113,go_sem]) rfl ⟨rfl,rfl⟩
 ·have q1:decide (i < 0)=false:=by simpa using h0
  have q2:decide ((n:Int)≤i)=true:=by simp;omega
  have q3:decide (i≥(n:Int))=true:=by simp;omega
  go_wp2
  refine wp_region_x [0,0,0,0,0,0,0,1,0,0,0,0,0,0,0,1,0,0,0,1,0,0,0,0,1,0,0,1,0,0,0] [0,1,2,3,4,5,6,7,8,9,10,11,12,13,14,15,16,17,18,19,20,21,22,23,24,25,26,27,28,29,30] (by kernel_rfl) ?_
  simp only[selX,guardAt,sD,sE,sF,sG,Option.bind_some]
  repeat first|(refine wpL_p fun K hK=>?_;go_simp;refine hK _ _ ?_;clear hK K)|(apply wpL_s;(intro w2 hw2;have hk1:=hw2.cell;have hk3:=hw2.heap;clear hw2;go_simp;with_reducible rfl);simp only[Act.put,sA,sB,sC])|refine wpL_yes rfl rfl ?_|(refine wpL_no rfl rfl fun K hK=>?_;simp only[Act.put,sA,sB,sC];refine hK _ _ ?_;clear hK K)|refine wpL_nil ?_
  go_wp2
  refine bodyPost_ret (v:=.tuple #[.pointer none,.bool false]) (by simp[results,Tryz.results113,go_sem]) rfl ⟨rfl,rfl⟩
theorem wk_of_in (h:WkAt w B bW gT vc vt ve P S) (i:Nat) (hi:i < P.threads.length) {t:Th} (ht:S.ths[i]?=some t):Calls Tryz.prog 113 #[.pointer (some ⟨bW,0,none⟩),.int .i64 i] w fun e w'=>
  e=.returned (.tuple #[if thDone P i t=true then .pointer none else .pointer (some ⟨gT,i*6,none⟩),.bool !thDone P i t])∧w'=w.drew:=by
 have hr:=row_cell h.row
 have d2:w.cell? ⟨bW,2,none⟩=some (.slice (some ⟨gT,0,none⟩) P.threads.length P.threads.length):=hr 2
 obtain⟨t',ht',htk,hgl,hc⟩:=h.at hi
 rw[ht] at ht'
 obtain rfl:=Option.some.inj ht'
 obtain⟨gt,ct,u,c,rfl,hgtl,hct,-⟩:=h.txs hi
 have d1:w.cell? ⟨bW,1,none⟩=some (.slice (some ⟨gt,0,none⟩) P.threads.length ct):=hr 1
 have c0:w.cell? ⟨gT,i*6,none⟩=some (.int .i64 t.tx):=hc 0 (by decide)
 have hm:P.threads.length≤4:=h.ok.threads.2
 have hdn:((t.tx:Int)==((P.txs i).length:Int))=thDone P i t:=by unfold thDone;rw[Bool.eq_iff_iff];simp;omega
 clear h hr hc ht ht' htk
 generalize P.threads.length=n at *
 generalize (P.txs i).length=m at *
 generalize thDone P i t=dn at *
 have q1:decide ((i:Int) < 0)=false:=by simp
 have q2:decide ((n:Int)≤i)=false:=by simp;omega
 have q3:decide ((i:Int)≥(n:Int))=false:=by simp;omega
 have q4:decide (n≤i)=false:=by simp;omega
 cases dn with
 |true=>
  go_enter Tryz.func113,Tryz.ntmps113
  go_wp2
  refine wp_region_x [0,0,0,0,0,0,0,1,0,0,0,0,0,0,0,1,0,0,0,1,0,0,0,0,1,0,0,1,0,0,0] [0,1,2,3,4,5,6,7,8,9,10,11,12,13,14,15,16,17,18,19,20,21,22,23,24,25,26,27,28,29,30] (by kernel_rfl) ?_
  simp only[selX,guardAt,sD,sE,sF,sG,Option.bind_some]
  repeat first|(refine wpL_p fun K hK=>?_;go_simp;refine hK _ _ ?_;clear hK K)|(apply wpL_s;(intro w2 hw2;have hk1:=hw2.cell;have hk3:=hw2.heap;clear hw2;go_simp;with_reducible rfl);simp only[Act.put,sA,sB,sC])|refine wpL_yes rfl rfl ?_|refine wpL_nil ?_
  go_wp2
  refine bodyPost_ret (v:=.tuple #[.pointer none,.bool false]) (by simp[results,Tryz.results113,go_sem]) rfl ⟨rfl,rfl⟩
 |false=>
  go_enter Tryz.func113,Tryz.ntmps113
  go_wp2
  refine wp_region_x [0,0,0,0,0,0,0,1,0,0,0,0,0,0,0,1,0,0,0,1,0,0,0,0,1,0,0,1,0,0,0] [0,1,2,3,4,5,6,7,8,9,10,11,12,13,14,15,16,17,18,19,20,21,22,23,24,25,26,27,28,29,30] (by kernel_rfl) ?_
  simp only[selX,guardAt,sD,sE,sF,sG,Option.bind_some]
  repeat first|(refine wpL_p fun K hK=>?_;go_simp;refine hK _ _ ?_;clear hK K)|(apply wpL_s;(intro w2 hw2;have hk1:=hw2.cell;have hk3:=hw2.heap;clear hw2;go_simp;with_reducible rfl);simp only[Act.put,sA,sB,sC])|refine wpL_yes rfl rfl ?_|refine wpL_nil ?_
  go_wp2
  refine bodyPost_ret (v:=.tuple #[.pointer (some ⟨gT,i*6,none⟩),.bool true]) (by simp[results,Tryz.results113,go_sem]) rfl ⟨rfl,rfl⟩
def wDone (P:Pg) (S:Wst) (i:Int):Bool:=if i < 0 then true else match S.ths[i.toNat]? with
 |some t=>thDone P i.toNat t
 |none=>true
theorem wk_done (h:WkAt w B bW gT vc vt ve P S) (i:Int):Calls Tryz.prog 66 #[.pointer (some ⟨bW,0,none⟩),.int .i64 i] w fun e w'=>e=.returned (.bool (wDone P S i))∧w'=w.drew:=by
 have hl:=h.ths.len
 have H:=hid h
 clear h
 by_cases hi:i < 0∨(P.threads.length:Int)≤i
 ·have hw:wDone P S i=true:=by
   unfold wDone
   by_cases h0:i < 0
   ·rw [if_pos h0]
   ·rw [if_neg h0,List.getElem?_eq_none (by omega)]
  rw[hw]
  clear hw hl
  go_enter Tryz.func66,Tryz.ntmps66
  go_wp2_with fail
  refine(wk_of_out H.out i hi).mono ?_
  rintro e w1 ⟨rfl,rfl⟩
  go_wp2
  go_ret
  exact⟨rfl,rfl⟩
 ·obtain ⟨k,rfl⟩:∃k:Nat,i=k:=⟨i.toNat,by omega⟩
  have hk:k < P.threads.length:=by omega
  obtain⟨t,ht,-⟩:=H.out.at hk
  have hw:wDone P S k=thDone P k t:=by
   unfold wDone
   rw[if_neg (by omega)]
   simp only[Int.toNat_natCast,ht]
  rw[hw]
  clear hw hl hi
  go_enter Tryz.func66,Tryz.ntmps66
  go_wp2_with fail
  refine(wk_of_in H.out k hk ht).mono ?_
  rintro e w1 ⟨rfl,rfl⟩
  cases hd:thDone P k t <;>
  ·go_wp2
   go_ret
   exact⟨by rw[hd];rfl,rfl⟩
theorem wk_tx (h:WkAt w B bW gT vc vt ve P S) (i:Nat) (hi:i < P.threads.length) {t:Th} (ht:S.ths[i]?=some t):Calls Tryz.prog 149 #[.pointer (some ⟨bW,0,none⟩),.int .i64 i] w fun e w'=>
  e=.returned (.tuple #[.int .i64 (if thDone P i t=false∧t.begun=true then idOf i t.tx else 0),.bool (!thDone P i t&&t.begun)])∧w'=w.drew:=by
 obtain⟨t',ht',htk,hgl,hc⟩:=h.at hi
 rw[ht] at ht'
 obtain rfl:=Option.some.inj ht'
 have c0:w.cell? ⟨gT,i*6,none⟩=some (.int .i64 t.tx):=hc 0 (by decide)
 have c2:w.cell? ⟨gT,i*6+2,none⟩=some (.bool t.begun):=hc 2 (by decide)
 have hm:P.threads.length≤4:=h.ok.threads.2
 have htx:t.tx≤3:=by
  obtain⟨x,hx⟩:∃x,P.threads[i]?=some x:=⟨_,List.getElem?_eq_getElem hi⟩
  have h1:=h.ok.txs x (List.mem_of_getElem? hx)
  have h2:=htk.tx
  rw[Pg.txs_at hx] at h2
  omega
 have htd:thDone P i t=false→t.tx < 3:=by
  intro hd
  obtain⟨x,hx⟩:∃x,P.threads[i]?=some x:=⟨_,List.getElem?_eq_getElem hi⟩
  have h1:=h.ok.txs x (List.mem_of_getElem? hx)
  have h2:=htk.tx
  unfold thDone at hd
  rw[Pg.txs_at hx] at h2 hd
  have h3:t.tx≠x.length:=by simpa using hd
  omega
 have H:=hid h
 have HT:=hid ht
 clear h hc ht' htk
 go_enter Tryz.func149,Tryz.ntmps149
 go_wp2_with fail
 refine(wk_of_in H.out i hi HT.out).mono ?_
 rintro e w1 ⟨rfl,rfl⟩
 cases hd:thDone P i t with
 |true=>
  go_wp2
  all_goals refine bodyPost_ret (v:=.tuple #[.int .i64 0,.bool false]) (by simp[results,Tryz.results149,go_sem]) rfl ⟨by simp[hd],rfl⟩
 |false=>
  cases hb:t.begun with
  |false=>
   rw[hb] at c2
   go_wp2
   all_goals refine bodyPost_ret (v:=.tuple #[.int .i64 0,.bool false]) (by simp[results,Tryz.results149,go_sem]) rfl ⟨by simp[hd];try simp[hb],rfl⟩
  |true=>
   rw[hb] at c2
   have htx3:=htd hd
   go_wp2_with fail
   refine(wk_id i t.tx (by omega) htx3 _).mono ?_
   rintro e w2 ⟨rfl,rfl⟩
   go_wp2
   all_goals refine bodyPost_ret (v:=.tuple #[.int .i64 (idOf i t.tx),.bool true]) (by simp[results,Tryz.results149,go_sem]) rfl ⟨by simp[hd];try simp[hb],rfl⟩
end
end
section
attribute [local irreducible] wpL
theorem OwnF.keepObj {α:Type} {f:α→List Value} {e:TypeId} {sz:Nat} {w:World} {B:Nat} {v:Value} {l:List α} (h:OwnF f e sz w B v l):∀k,v.ownBlock=some k→∃cs,w.heap[k]?=some (.cells cs e (0,0)):=by
 intro k hk
 obtain⟨-,h2⟩:=h
 rcases h2 with⟨rfl,-⟩|⟨g,cap,cur,rfl,-,hh,-⟩
 ·cases hk
 ·simp only[Value.ownBlock,Option.some.injEq] at hk
  subst hk
  exact⟨cur,hh⟩
structure Kp (M:TypeId→Prop) (ev:Value) (w w':World):Prop where
 base:Below 0 w w'
 cells:∀(k:Nat) (cs:Array Value) (t:TypeId) (fz:Nat×Nat),w.heap[k]?=some (.cells cs t fz)→¬M t→(t=53→ev.ownBlock≠some k)→w'.heap[k]?=some (.cells cs t fz)
 maps:∀(k:Nat) (es:Array MapEntry) (c:Nat),w.heap[k]?=some (.map es c)→w'.heap[k]?=some (.map es c)
section
variable {M M':TypeId→Prop} {ev ev':Value} {w w1 w2 w':World}
theorem Kp.size (h:Kp M ev w w'):w.heap.size≤w'.heap.size:=h.base.size
theorem Kp.refl (M:TypeId→Prop) (ev:Value) (w:World):Kp M ev w w:=⟨Below.refl 0 w,fun _ _ _ _ h _ _=>h,fun _ _ _ h=>h⟩
theorem Kp.of_below (h:Below w.heap.size w w'):Kp M ev w w':=⟨h.mono (Nat.zero_le _),fun _ _ _ _ hk _ _=>row_below hk h (row_lt hk),fun _ _ _ hk=>row_below hk h (row_lt hk)⟩
theorem Kp.trans (h:Kp M ev w w1) (k:Kp M ev' w1 w2) (hv:∀b,ev'.ownBlock=some b→ev.ownBlock=some b∨w.heap.size≤b):Kp M ev w w2:=
 ⟨h.base.trans k.base,fun b cs t fz hb hm he=>k.cells b cs t fz (h.cells b cs t fz hb hm he) hm fun ht e=>by
  rcases hv b e with h1|h1
  ·exact he ht h1
  ·have:=row_lt hb;omega,fun b es c hb=>k.maps b es c (h.maps b es c hb)⟩
theorem Kp.more (h:Kp M ev w w') (hm:∀t,M t→M' t):Kp M' ev w w':=⟨h.base,fun b cs t fz hb hn he=>h.cells b cs t fz hb (fun ht=>hn (hm t ht)) he,h.maps⟩
theorem OwnF.kp {α:Type} {f:α→List Value} {e:TypeId} {sz B:Nat} {v:Value} {l:List α} (h:OwnF f e sz w B v l) (hk:Kp M ev w w') (he:¬M e) (hev:e≠53):OwnF f e sz w' B v l:=by
 obtain⟨h1,h2⟩:=h
 refine⟨h1,?_⟩
 rcases h2 with h2|⟨g,cap,cur,rfl,hg,hh,r⟩
 ·exact .inl h2
 ·exact .inr ⟨g,cap,cur,rfl,hg,hk.cells g cur e _ hh he (fun h=>absurd h hev),r⟩
theorem OwnTxs.kp {B:Nat} {v:Value} {l:List (List Ac)} (h:OwnTxs w B v l) (hk:Kp M ev w w') (h1:¬M 80) (h2:¬M 118):OwnTxs w' B v l:=
 let ⟨vs,a,b,c⟩:=h;⟨vs,OwnF.kp a hk h1 (by decide),b,fun k u x hu hx=>OwnF.kp (c k u x hu hx) hk h2 (by decide)⟩
theorem OwnThr.kp {B:Nat} {v:Value} {l:List (List (List Ac))} (h:OwnThr w B v l) (hk:Kp M ev w w') (h0:¬M 79) (h1:¬M 80) (h2:¬M 118):OwnThr w' B v l:=
 let ⟨vs,a,b,c⟩:=h;⟨vs,OwnF.kp a hk h0 (by decide),b,fun k u x hu hx=>(c k u x hu hx).kp hk h1 h2⟩
end
structure Wr (g:Nat) (cs:Array Value) (t:TypeId) (w w':World):Prop where
 os:w'.os=w.os
 tape:w'.tape=w.tape
 output:w'.output=w.output
 size:w'.heap.size=w.heap.size
 other:∀k,k≠g→w'.heap[k]?=w.heap[k]?
 row:w'.heap[g]?=some (.cells cs t (0,0))
theorem Wr.set {g:Nat} {cs:Array Value} {t:TypeId} {w w':World} (h:Wr g cs t w w') (j:Nat) (v:Value):Wr g (cs.setIfInBounds j v) t w (w'.setCell ⟨g,j,none⟩ v):=
 ⟨h.os,h.tape,h.output,by rw[World.size_setCell];exact h.size,fun k hk=>(Below.heap_setCell w' ⟨g,j,none⟩ v k hk).trans (h.other k hk),row_set h.row j v⟩
theorem Wr.start {g:Nat} {cs:Array Value} {t:TypeId} {w:World} (h:w.heap[g]?=some (.cells cs t (0,0))):Wr g cs t w w:=⟨rfl,rfl,rfl,rfl,fun _ _=>rfl,h⟩
theorem Wr.below {g:Nat} {cs:Array Value} {t:TypeId} {w w':World} {B:Nat} (h:Wr g cs t w w') (hB:B≤g):Below B w w':=⟨h.os,h.tape,h.output,Nat.le_of_eq h.size.symm,fun k hk=>h.other k (by omega)⟩
theorem OwnF.other {α:Type} {f:α→List Value} {e:TypeId} {sz B g j:Nat} {v:Value} {l:List α} {w:World} (h:OwnF f e sz w B v l) (hg:v.ownBlock≠some g) (u:Value):OwnF f e sz (w.setCell ⟨g,j,none⟩ u) B v l:=
 ownsRow_setCell_other (a:=⟨g,j,none⟩) h hg u
theorem OwnF.wr {α:Type} {f:α→List Value} {e:TypeId} {sz B g:Nat} {v:Value} {l:List α} {w w':World} {cs:Array Value} {t:TypeId} (h:OwnF f e sz w B v l) (hw:Wr g cs t w w') (hg:v.ownBlock≠some g):OwnF f e sz w' B v l:=by
 obtain⟨h1,h2⟩:=h
 refine⟨h1,?_⟩
 rcases h2 with h2|⟨q,cap,cur,rfl,hq,hh,r⟩
 ·exact .inl h2
 ·exact .inr ⟨q,cap,cur,rfl,hq,(hw.other q fun e=>hg (by rw[←e];rfl)).trans hh,r⟩
theorem OwnF.neT {α:Type} {f:α→List Value} {e:TypeId} {sz B g:Nat} {v:Value} {l:List α} {w:World} {cs:Array Value} {t:TypeId} {fz:Nat×Nat} (h:OwnF f e sz w B v l) (hg:w.heap[g]?=some (.cells cs t fz)) (he:t≠e):v.ownBlock≠some g:=fun hk=>by
 obtain⟨c2,h2⟩:=h.keepObj g hk
 rw[hg] at h2
 simp only[Option.some.injEq,Obj.cells.injEq] at h2
 exact he h2.2.1
theorem Kp.set {M:TypeId→Prop} {ev:Value} {w:World} {g j:Nat} {cs:Array Value} {t:TypeId} {fz:Nat×Nat} (hg:w.heap[g]?=some (.cells cs t fz)) (ht:M t) (v:Value):Kp M ev w (w.setCell ⟨g,j,none⟩ v):=by
 refine⟨(Below.refl 0 w).setCell (p:=⟨g,j,none⟩) (Nat.zero_le _) v,fun k c ty f hk hm _=>?_,fun k es c hk=>?_⟩
 ·refine row_other hk ?_
  rintro rfl
  rw[hg] at hk
  simp only[Option.some.injEq,Obj.cells.injEq] at hk
  exact hm (hk.2.1▸ht)
 ·refine row_other hk ?_
  rintro rfl
  rw[hg] at hk
  cases hk
theorem Kp.wr {M:TypeId→Prop} {ev:Value} {w w1 w':World} {g:Nat} {cs:Array Value} {t:TypeId} (h:Kp M ev w w1) (hw:Wr g cs t w1 w') (hg:w.heap.size≤g):Kp M ev w w':=
 ⟨h.base.trans (hw.below (Nat.zero_le _)),fun k c ty f hk hm he=>(hw.other k (by have:=row_lt hk;omega)).trans (h.cells k c ty f hk hm he),fun k es c hk=>(hw.other k (by have:=row_lt hk;omega)).trans (h.maps k es c hk)⟩
def Mw (t:TypeId):Prop:=t=210∨t=283
theorem WkAt.turn {w w':World} {B bW gT:Nat} {vc vt ve ve':Value} {P:Pg} {S S':Wst} (h:WkAt w B bW gT vc vt ve P S) (hk:Kp Mw ve w w')
  (hr:w'.heap[bW]?=some (.cells #[vc,vt,.slice (some ⟨gT,0,none⟩) P.threads.length P.threads.length,ve'] 210 (0,0)))
  (ht:OwnF Th.cells 283 6 w' B (.slice (some ⟨gT,0,none⟩) P.threads.length P.threads.length) S'.ths) (hev:OwnF Ev.cells 53 8 w' B ve' S'.evs)
  (htk:∀(i:Nat) (t:Th),S'.ths[i]?=some t→ThOk P i t):WkAt w' B bW gT vc vt ve' P S':=
 ⟨hr,h.hB,OwnF.kp h.cells hk (by unfold Mw;decide) (by decide),h.thr.kp hk (by unfold Mw;decide) (by unfold Mw;decide) (by unfold Mw;decide),ht,hev,h.ok,htk⟩
theorem WkAt.below {w w':World} {B bW gT:Nat} {vc vt ve:Value} {P:Pg} {S:Wst} (h:WkAt w B bW gT vc vt ve P S) (hb:Below w.heap.size w w'):WkAt w' B bW gT vc vt ve P S:=
 h.turn (Kp.of_below hb) (row_below h.row hb (row_lt h.row)) (OwnF.below h.ths hb) (OwnF.below h.evs hb) h.tok
theorem infoE:(Tryz.prog.info? 53).map (fun i=>(i.zero,i.size,i.bytes))=some (some (.agg #[.int .i64 0,.int .i64 0,.int .i64 0,.int .i64 0,.int .i64 0,.int .i64 0,.int .i64 0,.int .i64 0]),8,64):=by kernel_rfl
theorem ev_one (x:Ev):∀u ∈ x.cells,u.oneCell'=true:=by intro u hu;simp[Ev.cells] at hu;rcases hu with rfl|rfl|rfl|rfl|rfl|rfl|rfl|rfl <;> rfl
theorem Pg.tx3 {P:Pg} (h:PgOk P) {i:Nat} (hi:i < P.threads.length):(P.txs i).length≤3:=by
 obtain⟨x,hx⟩:∃x,P.threads[i]?=some x:=⟨_,List.getElem?_eq_getElem hi⟩
 rw[Pg.txs_at hx]
 exact h.txs x (List.mem_of_getElem? hx)
theorem tx_lt {P:Pg} (h:PgOk P) {i:Nat} (hi:i < P.threads.length) {t:Th} (ht:ThOk P i t) (hd:thDone P i t=false):t.tx < (P.txs i).length:=by
 have h1:=ht.tx
 unfold thDone at hd
 have h3:t.tx≠(P.txs i).length:=by simpa using hd
 omega
abbrev evV (e:Ev):Value:=.agg #[.int .i64 e.kind,.int .i64 e.tx,.int .i64 e.thread,.int .i64 e.obj,.int .i64 e.op,.int .i64 e.key,.int .i64 e.val,.int .i64 e.ret]
section
variable {w:World} {B bW gT:Nat} {vc vt ve:Value} {P:Pg} {S:Wst}
theorem wk_happens (h:WkAt w B bW gT vc vt ve P S) (hBw:B≤w.heap.size) (i:Nat) (hi:i < P.threads.length) {t:Th} (ht:S.ths[i]?=some t) (htx:t.tx < 3) (e:Ev) (hl:S.evs.length≤100000):
  Calls Tryz.prog 150 #[.pointer (some ⟨bW,0,none⟩),.int .i64 i,evV e] w fun x w'=>
  x=.returned (.tuple #[evV (withTx e (idOf i t.tx)),.bool true])∧∃ve',WkAt w' B bW gT vc vt ve' P ⟨S.ths,S.evs++[withTx e (idOf i t.tx)]⟩∧Kp Mw ve w w'∧Below B w w'∧∀k,ve'.ownBlock=some k→ve.ownBlock=some k∨w.heap.size≤k:=by
 obtain⟨t',ht',htk,hgl,hc⟩:=h.at hi
 rw[ht] at ht'
 obtain rfl:=Option.some.inj ht'
 have hm:P.threads.length≤4:=h.ok.threads.2
 have hi4:i < 4:=by omega
 obtain⟨ae,ce,rfl,hme⟩:=h.evs.form2
 have hr:=row_cell h.row
 have d2:w.cell? ⟨bW,2,none⟩=some (.slice (some ⟨gT,0,none⟩) P.threads.length P.threads.length):=hr 2
 have d3:w.cell? ⟨bW,3,none⟩=some (.slice ae S.evs.length ce):=hr 3
 have f3:w.frozen? ⟨bW,3,none⟩=false:=row_free h.row 3
 have c0:w.cell? ⟨gT,i*6,none⟩=some (.int .i64 t.tx):=hc 0 (by decide)
 have hbl:=row_lt h.row
 have hlt0:=h.evs.lt
 have HLT:=hid hlt0
 have hBw:=hid hBw
 have H:=hid h
 have HT:=hid ht
 clear h ht hr hc htk hlt0
 obtain⟨k1,k2,k3,k4,k5,k6,k7,k8⟩:=e
 go_enter Tryz.func150,Tryz.ntmps150
 go_wp2_with fail
 refine(wk_id i t.tx hi4 htx _).mono ?_
 rintro x w1 ⟨rfl,rfl⟩
 go_wp2
 have ba:Below w.heap.size w (w.alloc (.cells #[.int .i64 k1,.int .i64 (idOf i t.tx),.int .i64 k3,.int .i64 k4,.int .i64 k5,.int .i64 k6,.int .i64 k7,.int .i64 k8] 53)):=(Below.refl _ _).alloc (Nat.le_refl _) _
 have bz:=ba.alloc (by simp) (.cells #[.int .i64 0,.int .i64 0,.int .i64 0,.int .i64 0,.int .i64 0,.int .i64 0,.int .i64 0,.int .i64 0] 53)
 have rA:=row_old (o:=.cells #[.int .i64 0,.int .i64 0,.int .i64 0,.int .i64 0,.int .i64 0,.int .i64 0,.int .i64 0,.int .i64 0] 53) (row_new w (.cells #[.int .i64 k1,.int .i64 (idOf i t.tx),.int .i64 k3,.int .i64 k4,.int .i64 k5,.int .i64 k6,.int .i64 k7,.int .i64 k8] 53))
 have rZ:=row_new' (w:=w.alloc (.cells #[.int .i64 k1,.int .i64 (idOf i t.tx),.int .i64 k3,.int .i64 k4,.int .i64 k5,.int .i64 k6,.int .i64 k7,.int .i64 k8] 53)) (o:=.cells #[.int .i64 0,.int .i64 0,.int .i64 0,.int .i64 0,.int .i64 0,.int .i64 0,.int .i64 0,.int .i64 0] 53) (g:=w.heap.size+1) (by simp)
 obtain⟨W,hW⟩:∃W,W=(w.alloc (.cells #[.int .i64 k1,.int .i64 (idOf i t.tx),.int .i64 k3,.int .i64 k4,.int .i64 k5,.int .i64 k6,.int .i64 k7,.int .i64 k8] 53)).alloc (.cells #[.int .i64 0,.int .i64 0,.int .i64 0,.int .i64 0,.int .i64 0,.int .i64 0,.int .i64 0,.int .i64 0] 53):=⟨_,rfl⟩
 have zW:W.heap.size=w.heap.size+2:=by rw[hW];simp
 rw[←hW] at bz rA rZ ⊢
 have BZ:=hid bz
 have RA:=hid rA
 have RZ:=hid rZ
 have HW:=hid (H.out.below bz)
 have e0:=row_cell rA
 have q0:W.cell? ⟨w.heap.size,0,none⟩=some (.int .i64 k1):=e0 0
 have q1:W.cell? ⟨w.heap.size,1,none⟩=some (.int .i64 (idOf i t.tx)):=e0 1
 have q2:W.cell? ⟨w.heap.size,2,none⟩=some (.int .i64 k3):=e0 2
 have q3:W.cell? ⟨w.heap.size,3,none⟩=some (.int .i64 k4):=e0 3
 have q4:W.cell? ⟨w.heap.size,4,none⟩=some (.int .i64 k5):=e0 4
 have q5:W.cell? ⟨w.heap.size,5,none⟩=some (.int .i64 k6):=e0 5
 have q6:W.cell? ⟨w.heap.size,6,none⟩=some (.int .i64 k7):=e0 6
 have q7:W.cell? ⟨w.heap.size,7,none⟩=some (.int .i64 k8):=e0 7
 have g3:W.cell? ⟨bW,3,none⟩=some (.slice ae S.evs.length ce):=row_cell HW.out.row 3
 have zW':w.heap.size+2≤W.heap.size:=Nat.le_of_eq zW.symm
 clear bz rA rZ hW ba e0 d2 d3 f3 c0 zW
 refine wp_region_x [0,0,0,0,1,1,3,2,0,0,2] [0,1,2,3,4,5,6,7,8,9,10] (by kernel_rfl) ?_
 simp only[selX,guardAt,sD,sE,sF,sG]
 repeat first|(refine wpL_p fun K hK=>?_;go_simp;refine hK _ _ ?_;clear hK K)|(apply wpL_s;(intro w2 hw2;have hk1:=hw2.cell;have hk3:=hw2.heap;clear hw2;go_simp;with_reducible rfl);simp only[Act.put,sA,sB,sC])
 refine wpL_k (fun K hK=>?_)
 go_simp
 refine hK _ _ (Keeps.alloc _ _) ?_
 clear hK K
 refine wpL_e (fun K hK=>?_)
 rw[drew_alloc]
 have hge:=HW.out.evs.lt
 refine wp_appF _ _ _ rfl _ 64 Tryz.underlying35 infoE rfl HW.out.evs.drew ⟨k1,idOf i t.tx,k3,k4,k5,k6,k7,k8⟩ (by first|omega|(simp <;> omega)) (by rfl) (by rfl) (by first|rfl|simp) rfl (ev_one _) (by first|omega|(simp only[List.length_append,List.length_cons,List.length_nil,List.length_replicate];omega)) (by first|omega|(simp only[List.length_append,List.length_cons,List.length_nil,List.length_replicate];omega)) ?_
 intro g1 k9 w1 h1 G1
 have hlW:∀(k:Nat) (o:Obj),W.heap[k]?=some o→(Value.slice ae S.evs.length ce).ownBlock≠some k→w1.heap[k]?=some o:=fun k o hk hne=>row_grw (show W.drew.heap[k]?=some o from hk) G1 hne
 have hneT:∀(k:Nat) (cs:Array Value) (ty:TypeId),W.heap[k]?=some (.cells cs ty (0,0))→ty≠53→(Value.slice ae S.evs.length ce).ownBlock≠some k:=fun k cs ty hk ht e=>by
  obtain⟨c2,h2⟩:=HW.out.evs.keepObj k e
  rw[hk] at h2
  simp only[Option.some.injEq,Obj.cells.injEq] at h2
  exact ht h2.2.1
 have r1:=hlW bW _ HW.out.row (hneT bW _ _ HW.out.row (by decide))
 have KPW:Kp (fun _=>False) (.slice ae S.evs.length ce) W w1:=⟨⟨G1.grown.os,G1.grown.tape,G1.grown.output,G1.grown.size,fun k hk=>absurd hk (by omega)⟩,fun k cs ty fz hk _ he=>by
   by_cases hty:ty=53
   ·exact hlW k _ hk (he hty)
   ·exact hlW k _ hk fun e=>by
     obtain⟨c2,h2⟩:=HW.out.evs.keepObj k e
     rw[hk] at h2
     simp only[Option.some.injEq,Obj.cells.injEq] at h2
     exact hty h2.2.1,fun k es c hk=>hlW k _ hk fun e=>by
    obtain⟨c2,h2⟩:=HW.out.evs.keepObj k e
    rw[hk] at h2
    cases h2⟩
 have neA:∀k,w.heap.size≤k→(Value.slice ae S.evs.length ce).ownBlock≠some k:=fun k hk e=>by have:=(HLT.out k e).2;omega
 have rA1:=hlW w.heap.size _ RA.out (neA _ (Nat.le_refl _))
 have rZ1:=hlW (w.heap.size+1) _ RZ.out (neA _ (by omega))
 have T1:=hid (show OwnF Th.cells 283 6 w1 B _ S.ths from OwnF.kp HW.out.ths KPW (fun h=>h) (by decide))
 have O1:=hid (show OwnF Ev.cells 53 8 w1 B (.slice (some ⟨g1,0,none⟩) (S.evs.length+1) k9) (S.evs++[⟨k1,idOf i t.tx,k3,k4,k5,k6,k7,k8⟩]) from h1)
 have HOW:=hid (show ∀k,(Value.slice (some ⟨g1,0,none⟩) (S.evs.length+1) k9).ownBlock=some k→(Value.slice ae S.evs.length ce).ownBlock=some k∨W.heap.size≤k from G1.own)
 have KPW1:=hid KPW
 have HW1:=hid (show Below B W w1 from(Below.refl B W).drew.trans (G1.below (by show B≤W.heap.size;have:=hBw.out;omega) fun k h=>(HLT.out k h).1))
 have R1:=hid r1
 have RA1:=hid rA1
 have RZ1:=hid rZ1
 have m3:w1.cell? ⟨bW,3,none⟩=some (.slice ae S.evs.length ce):=row_cell r1 3
 have mf:w1.frozen? ⟨bW,3,none⟩=false:=row_free r1 3
 clear hlW hneT r1 KPW neA rA1 rZ1 h1 G1 hge RA RZ q0 q1 q2 q3 q4 q5 q6 q7 g3
 refine hK _ _ ?_
 clear hK K
 repeat (refine wpL_p fun K hK=>?_;go_simp;refine hK _ _ ?_;clear hK K)
 refine wpL_e (fun K hK=>?_)
 go_simp
 refine hK _ _ ?_
 clear hK K
 repeat refine wpL_nil ?_
 have e0:=row_cell (row_other RA1.out (g':=bW) (j:=3) (v:=.slice (some ⟨g1,0,none⟩) (S.evs.length+1) k9) (by omega))
 have z0:=row_other RZ1.out (g':=bW) (j:=3) (v:=.slice (some ⟨g1,0,none⟩) (S.evs.length+1) k9) (by omega)
 obtain⟨W2,hW2⟩:∃W2,W2=w1.setCell ⟨bW,3,none⟩ (.slice (some ⟨g1,0,none⟩) (S.evs.length+1) k9):=⟨_,rfl⟩
 rw[←hW2] at e0 z0 ⊢
 have x0:W2.cell? ⟨w.heap.size,0,none⟩=some (.int .i64 k1):=e0 0
 have x1:W2.cell? ⟨w.heap.size,1,none⟩=some (.int .i64 (idOf i t.tx)):=e0 1
 have x2:W2.cell? ⟨w.heap.size,2,none⟩=some (.int .i64 k3):=e0 2
 have x3:W2.cell? ⟨w.heap.size,3,none⟩=some (.int .i64 k4):=e0 3
 have x4:W2.cell? ⟨w.heap.size,4,none⟩=some (.int .i64 k5):=e0 4
 have x5:W2.cell? ⟨w.heap.size,5,none⟩=some (.int .i64 k6):=e0 5
 have x6:W2.cell? ⟨w.heap.size,6,none⟩=some (.int .i64 k7):=e0 6
 have x7:W2.cell? ⟨w.heap.size,7,none⟩=some (.int .i64 k8):=e0 7
 have zf:∀j,W2.frozen? ⟨w.heap.size+1,j,none⟩=false:=fun j=>row_free z0 j
 have zc:=row_cell z0
 have y0:W2.cell? ⟨w.heap.size+1,0,none⟩=some (.int .i64 0):=zc 0
 have y1:W2.cell? ⟨w.heap.size+1,1,none⟩=some (.int .i64 0):=zc 1
 have y2:W2.cell? ⟨w.heap.size+1,2,none⟩=some (.int .i64 0):=zc 2
 have y3:W2.cell? ⟨w.heap.size+1,3,none⟩=some (.int .i64 0):=zc 3
 have y4:W2.cell? ⟨w.heap.size+1,4,none⟩=some (.int .i64 0):=zc 4
 have y5:W2.cell? ⟨w.heap.size+1,5,none⟩=some (.int .i64 0):=zc 5
 have y6:W2.cell? ⟨w.heap.size+1,6,none⟩=some (.int .i64 0):=zc 6
 have y7:W2.cell? ⟨w.heap.size+1,7,none⟩=some (.int .i64 0):=zc 7
 have HW2:=hid hW2
 have Z0:=hid z0
 clear e0 z0 hW2 zc m3 mf
 go_wp2
 have WR:=((((((((Wr.start Z0.out).set 0 (.int .i64 k1)).set 1 (.int .i64 (idOf i t.tx))).set 2 (.int .i64 k3)).set 3 (.int .i64 k4)).set 4 (.int .i64 k5)).set 5 (.int .i64 k6)).set 6 (.int .i64 k7)).set 7 (.int .i64 k8)
 generalize (((((((W2.setCell ⟨w.heap.size+1,0,none⟩ (.int .i64 k1)).setCell ⟨w.heap.size+1,1,none⟩ (.int .i64 (idOf i t.tx))).setCell ⟨w.heap.size+1,2,none⟩ (.int .i64 k3)).setCell ⟨w.heap.size+1,3,none⟩ (.int .i64 k4)).setCell ⟨w.heap.size+1,4,none⟩ (.int .i64 k5)).setCell ⟨w.heap.size+1,5,none⟩ (.int .i64 k6)).setCell ⟨w.heap.size+1,6,none⟩ (.int .i64 k7)).setCell ⟨w.heap.size+1,7,none⟩ (.int .i64 k8)=W3 at *
 have KS:Kp Mw (.slice ae S.evs.length ce) w1 W2:=by rw[HW2.out];exact Kp.set R1.out (.inl rfl) _
 have KT:Kp Mw (.slice ae S.evs.length ce) w W3:=Kp.wr ((Kp.of_below BZ.out).trans ((KPW1.out.more (M':=Mw) fun _ h=>h.elim).trans KS fun b h=>.inl h) fun b h=>.inl h) WR (by omega)
 have cc:=row_cell WR.row
 have cc0:=cc 0
 have cc1:=cc 1
 have cc2:=cc 2
 have cc3:=cc 3
 have cc4:=cc 4
 have cc5:=cc 5
 have cc6:=cc 6
 have cc7:=cc 7
 simp at cc0 cc1 cc2 cc3 cc4 cc5 cc6 cc7
 refine bodyPost_ret (v:=.tuple #[evV ⟨k1,idOf i t.tx,k3,k4,k5,k6,k7,k8⟩,.bool true]) (by simp[results,Tryz.results150,go_sem,cc0,cc1,cc2,cc3,cc4,cc5,cc6,cc7]) rfl ⟨rfl,.slice (some ⟨g1,0,none⟩) (S.evs.length+1) k9,?_,?_,?_,?_⟩
 ·have hbg:bW≠w.heap.size+1:=by omega
  have tne:=OwnF.neT T1.out R1.out (by decide)
  have one:=OwnF.neT O1.out R1.out (by decide)
  have hT2:OwnF Th.cells 283 6 W2 B (.slice (some ⟨gT,0,none⟩) P.threads.length P.threads.length) S.ths:=by rw[HW2.out];exact OwnF.other T1.out tne _
  have hO2:OwnF Ev.cells 53 8 W2 B (.slice (some ⟨g1,0,none⟩) (S.evs.length+1) k9) (S.evs++[⟨k1,idOf i t.tx,k3,k4,k5,k6,k7,k8⟩]):=by rw[HW2.out];exact OwnF.other O1.out one _
  have hR2:W2.heap[bW]?=some (.cells #[vc,vt,.slice (some ⟨gT,0,none⟩) P.threads.length P.threads.length,.slice (some ⟨g1,0,none⟩) (S.evs.length+1) k9] 210 (0,0)):=by rw[HW2.out];exact row_set R1.out 3 _
  refine H.out.turn KT ((WR.other bW hbg).trans hR2) (OwnF.wr hT2 WR fun e=>?_) (OwnF.wr hO2 WR fun e=>?_) H.out.tok
  ·have h1:=(H.out.ths.lt _ e).2
   omega
  ·rcases HOW.out _ e with h|h
   ·have:=(HLT.out _ h).2;omega
   ·omega
 ·exact KT
 ·refine ((BZ.out.mono hBw.out).trans (HW1.out.trans ?_)).trans (WR.below (by have:=hBw.out;omega))
  rw[HW2.out]
  exact(Below.refl B w1).setCell (p:=⟨bW,3,none⟩) H.out.hB _
 ·intro k hk
  rcases HOW.out k hk with h|h
  ·exact .inl h
  ·exact .inr (by omega)
end
end
