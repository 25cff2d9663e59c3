/- Parts of the proof, merged by program out of 3 texts (SnA, SnB, SnG): the first: A store anew. Conditions: those of each theorem, as typed. -/
import Derived.Test.YtkfhgifhfkcehaaGreatDoorQL35
import Derived.Test.YtkfhgifhfkcehaaGreatDoorQL26
import Derived.Conc.LoneSelect
set_option linter.unusedVariables false
set_option linter.unusedSimpArgs false
set_option linter.unusedSectionVars false
set_option maxRecDepth 100000
set_option maxHeartbeats 4000000
namespace Go.Proofs.YtkfhgifhfkcehaaGreatDoor
open Go.Conc Go.Maps Go.RowKit
section
attribute [local irreducible] wpL
theorem l_And (v:Value) (σ:List Int) (x:Int) (w:World) (h:SlS w w.heap.size v σ) (hl:σ.length≤1000):
  Calls Tryz.prog 43 #[.agg #[v],scV x] w fun e w'=>∃v',e=.returned (.agg #[v'])∧OwnS w' w.heap.size v' (σ++[x])∧Below w.heap.size w w':=by
 obtain⟨a,c,rfl,hm⟩:=h.ex
 have b0:Below w.heap.size w (((w.alloc (.cells #[.slice a σ.length c] 44)).alloc (.cells #[.int .i64 1,.int .i64 x,.slice none 0 0,.slice none 0 0] 99)).alloc (.cells #[.slice none 0 0] 44)):=(((Below.refl _ w).alloc (Nat.le_refl _) _).alloc (by simp) _).alloc (by simp;omega) _
 go_enter Tryz.func43,Tryz.ntmps43
 go_wp2_with fail
 have r2:(((w.alloc (.cells #[.slice a σ.length c] 44)).alloc (.cells #[.int .i64 1,.int .i64 x,.slice none 0 0,.slice none 0 0] 99)).alloc (.cells #[.slice none 0 0] 44)).heap[w.heap.size]?=some (.cells #[.slice a σ.length c] 44 (0,0)):=row_old (row_old (row_new w _))
 have r1:(((w.alloc (.cells #[.slice a σ.length c] 44)).alloc (.cells #[.int .i64 1,.int .i64 x,.slice none 0 0,.slice none 0 0] 99)).alloc (.cells #[.slice none 0 0] 44)).heap[w.heap.size+1]?=some (.cells #[.int .i64 1,.int .i64 x,.slice none 0 0,.slice none 0 0] 99 (0,0)):=row_old (row_new' (by simp))
 have r0:(((w.alloc (.cells #[.slice a σ.length c] 44)).alloc (.cells #[.int .i64 1,.int .i64 x,.slice none 0 0,.slice none 0 0] 99)).alloc (.cells #[.slice none 0 0] 44)).heap[w.heap.size+1+1]?=some (.cells #[.slice none 0 0] 44 (0,0)):=row_new' (by simp)
 have hz:=hid (show(((w.alloc (.cells #[.slice a σ.length c] 44)).alloc (.cells #[.int .i64 1,.int .i64 x,.slice none 0 0,.slice none 0 0] 99)).alloc (.cells #[.slice none 0 0] 44)).heap.size=w.heap.size+3 by simp)
 generalize ((w.alloc (.cells #[.slice a σ.length c] 44)).alloc (.cells #[.int .i64 1,.int .i64 x,.slice none 0 0,.slice none 0 0] 99)).alloc (.cells #[.slice none 0 0] 44)=W at *
 have hs:=(h.below b0).more b0.size
 have AC:=hid (l_All _ σ W.drew hs hl)
 have HS:=hid hs
 have B0:=hid b0
 have R0:=hid r0
 have u0:=row_cell r2 0
 have y:=row_cell r1
 have y0:=y 0
 have y1:=y 1
 have y2:=y 2
 have y3:=y 3
 simp at u0 y0 y1 y2 y3
 have ul:=row_lt r2
 have yl:=row_lt r1
 clear y r0 r1 r2 b0 hs h
 refine wp_rN (W.heap.size) [1,3,1,3,2,0,2] (.frk [0,2] (.fin [1,3,4,5,6]) (.fin [3,1,4,5,6])) (by kernel_rfl) ?_
 simp only[wpT,selX,guardAt,sD,sE,sF,sG]
 repeat first|(apply wpL_s;(intro w2 hw2;have hk1:=hw2.cell;have hk3:=hw2.1;clear hw2;go_simp;with_reducible rfl);simp only[Act.put,sA,sB,sC])|refine wpL_nil ?_
 refine⟨?_,?_⟩
 ·refine wpL_k (fun K hK=>?_)
  go_simp
  refine AC.out.mono ?_
  rintro e w1 ⟨v',rfl,o1,b1⟩
  obtain⟨a1,c1,rfl,-⟩:=(OwnF.sl o1).ex
  refine hK _ _ (RN.KeepsN.of_below b1) ?_
  clear hK K
  refine wpL_k (fun K hK=>?_)
  go_simp
  refine hK _ _ (RN.KeepsN.alloc w1 _ b1.size) ?_
  clear hK K
  have hz1:W.heap.size≤w1.heap.size:=b1.size
  refine wpL_e (fun K hK=>?_)
  refine wp_appF _ _ _ rfl _ 64 Tryz.underlying42 infoSC rfl o1 x hz1 (by rfl) (by rfl) (by first|rfl|simp) rfl (sc_one _) (by first|omega|(simp only[List.length_append,List.length_cons,List.length_nil,List.length_replicate];omega)) (by first|omega|(simp only[List.length_append,List.length_cons,List.length_nil,List.length_replicate];omega)) ?_
  intro g1 c1 w2 o2 G2
  refine hK _ _ ?_
  clear hK K
  have b2:Below W.heap.size W w2:=((Below.refl _ W).drew.trans b1).trans (G2.below hz1 fun j hj=>(OwnF.lt o1 j hj).1)
  have r2:=row_below R0.out b2 (row_lt R0.out)
  have y:=row_cell r2 0
  simp at y
  have yf:=row_free r2 0
  have yl2:=row_lt r2
  have hB2:=hid ((B0.out.trans (b2.mono B0.out.size)).setCell (p:=⟨w.heap.size+1+1,0,none⟩) (by show w.heap.size≤w.heap.size+1+1;omega) (.slice (some ⟨g1,0,none⟩) (σ.length+1) c1))
  have oF:=hid (OwnF.set (j:=0) (u:=.slice (some ⟨g1,0,none⟩) (σ.length+1) c1) o2 (show w.heap.size+1+1 < W.heap.size by have:=hz.out;omega))
  have rF:=hid (row_set r2 0 (.slice (some ⟨g1,0,none⟩) (σ.length+1) c1))
  clear r2 b2 b1 o1 G2 o2 AC
  repeat (refine wpL_p fun K hK=>?_;go_simp;refine hK _ _ ?_;clear hK K)
  refine wpL_e (fun K hK=>?_)
  go_simp
  refine hK _ _ ?_
  clear hK K
  repeat refine wpL_nil ?_
  go_wp2_with fail
  have c0:=row_cell rF.out 0
  simp at c0
  refine bodyPost_ret (v:=.agg #[.slice (some ⟨g1,0,none⟩) (σ.length+1) c1]) (by simp[results,Tryz.results43,go_sem,c0]) rfl ?_
  refine⟨_,rfl,?_,hB2.out⟩
  have:=OwnF.base oF.out (show w.heap.size≤W.heap.size from B0.out.size)
  simpa using this
 ·refine wpL_k (fun K hK=>?_)
  go_simp
  refine hK _ _ (RN.KeepsN.alloc W.drew _ (Nat.le_refl _)) ?_
  clear hK K
  have ba:Below W.heap.size W (W.drew.alloc (.cells #[.int .i64 1,.int .i64 x,.slice none 0 0,.slice none 0 0] 99)):=(Below.refl _ W).drew.alloc (Nat.le_refl _) _
  have ra:=row_new W.drew (.cells #[.int .i64 1,.int .i64 x,.slice none 0 0,.slice none 0 0] 99)
  have AC2:=hid (l_All _ σ (W.drew.alloc (.cells #[.int .i64 1,.int .i64 x,.slice none 0 0,.slice none 0 0] 99)) ((HS.out.below ba).more ba.size) hl)
  have hza:=ba.size
  refine wpL_k (fun K hK=>?_)
  go_simp
  refine AC2.out.mono ?_
  rintro e w1 ⟨v',rfl,o1,b1⟩
  obtain⟨a1,c1,rfl,-⟩:=(OwnF.sl o1).ex
  refine hK _ _ (RN.KeepsN.of_below (b1.mono hza)) ?_
  clear hK K
  have hz1:W.heap.size≤w1.heap.size:=Nat.le_trans hza b1.size
  have src:SlS w1 w1.heap.size (.slice (some ⟨W.heap.size,0,none⟩) 1 1) [x]:=OwnF.sl (OwnF.ofRow (B:=0) (l:=[x]) (row_below ra b1 (row_lt ra)) (Nat.zero_le _) rfl rfl (by decide))
  have o1':=OwnF.base o1 hza
  refine wpL_e (fun K hK=>?_)
  refine wp_appA _ _ _ rfl _ 64 Tryz.underlying42 infoSC rfl o1' [x] rfl src (by first|omega|(simp <;> omega)) rfl rfl SC_len sc_one (by first|omega|(simp <;> omega)) (by first|omega|(simp <;> omega)) ?_
  intro v2 w2 o2 G2
  refine hK _ _ ?_
  clear hK K
  obtain⟨a2,c2,hv2,-⟩:=(OwnF.sl o2).ex
  rw[show (σ++[x]).length=σ.length+1 by simp] at hv2
  subst hv2
  have b2:Below W.heap.size W w2:=(ba.trans (b1.mono hza)).trans (G2.below hz1 fun j hj=>(OwnF.lt o1' j hj).1)
  have r2:=row_below R0.out b2 (row_lt R0.out)
  have y:=row_cell r2 0
  simp at y
  have yf:=row_free r2 0
  have yl2:=row_lt r2
  have hB2:=hid ((B0.out.trans (b2.mono B0.out.size)).setCell (p:=⟨w.heap.size+1+1,0,none⟩) (by show w.heap.size≤w.heap.size+1+1;omega) (.slice a2 (σ.length+1) c2))
  have oF:=hid (OwnF.set (j:=0) (u:=.slice a2 (σ.length+1) c2) o2 (show w.heap.size+1+1 < W.heap.size by have:=hz.out;omega))
  have rF:=hid (row_set r2 0 (.slice a2 (σ.length+1) c2))
  clear r2 b2 b1 o1 o1' G2 o2 AC AC2 ra src
  repeat (refine wpL_p fun K hK=>?_;go_simp;refine hK _ _ ?_;clear hK K)
  refine wpL_e (fun K hK=>?_)
  go_simp
  refine hK _ _ ?_
  clear hK K
  repeat refine wpL_nil ?_
  go_wp2_with fail
  have c0:=row_cell rF.out 0
  simp at c0
  refine bodyPost_ret (v:=.agg #[.slice a2 (σ.length+1) c2]) (by simp[results,Tryz.results43,go_sem,c0]) rfl ?_
  refine⟨_,rfl,?_,hB2.out⟩
  have:=OwnF.base oF.out (show w.heap.size≤W.heap.size from B0.out.size)
  simpa using this
theorem sp_New (x:Int) (h1:-1000000000≤x) (h2:x≤1000000000) (w:World) (hW:WordsAt w):
  Calls Tryz.prog 42 #[.agg #[.int .i64 1,.int .i64 x]] w fun e w'=>e=.returned (.tuple #[scV x,.nilIface])∧Below w.heap.size w w':=by
 have b0:Below w.heap.size w ((w.alloc (.cells #[.int .i64 1,.int .i64 x] 96)).alloc (.cells #[.int .i64 0,.int .i64 0,.slice none 0 0,.slice none 0 0] 99)):=((Below.refl _ w).alloc (Nat.le_refl _) _).alloc (by simp) _
 have r0:((w.alloc (.cells #[.int .i64 1,.int .i64 x] 96)).alloc (.cells #[.int .i64 0,.int .i64 0,.slice none 0 0,.slice none 0 0] 99)).heap[w.heap.size]?=some (.cells #[.int .i64 1,.int .i64 x] 96 (0,0)):=row_old (row_new w _)
 have r1:((w.alloc (.cells #[.int .i64 1,.int .i64 x] 96)).alloc (.cells #[.int .i64 0,.int .i64 0,.slice none 0 0,.slice none 0 0] 99)).heap[w.heap.size+1]?=some (.cells #[.int .i64 0,.int .i64 0,.slice none 0 0,.slice none 0 0] 99 (0,0)):=row_new' (by simp)
 have hz:=hid (show((w.alloc (.cells #[.int .i64 1,.int .i64 x] 96)).alloc (.cells #[.int .i64 0,.int .i64 0,.slice none 0 0,.slice none 0 0] 99)).heap.size=w.heap.size+2 by simp)
 go_enter Tryz.func42,Tryz.ntmps42
 go_wp2_with fail
 generalize (w.alloc (.cells #[.int .i64 1,.int .i64 x] 96)).alloc (.cells #[.int .i64 0,.int .i64 0,.slice none 0 0,.slice none 0 0] 99)=W at *
 refine(e_ValidObject x h1 h2 W (hW.below b0)).mono ?_
 rintro e W1 ⟨rfl,b1⟩
 have r0:=row_below r0 b1 (row_lt r0)
 have r1:=row_below r1 b1 (row_lt r1)
 have B1:=hid (b0.trans (b1.mono b0.size))
 have y:=row_cell r0
 have y0:=y 0
 have y1:=y 1
 have z:=row_cell r1
 have z0:=z 0
 have z1:=z 1
 have z2:=z 2
 have z3:=z 3
 simp at y0 y1 z0 z1 z2 z3
 have yl:=row_lt r0
 have zl:=row_lt r1
 have zf:=fun j=>row_free r1 j
 have R1:=hid r1
 clear y z r0 r1 b0 b1
 go_wp2_with fail
 have rF:=row_set (row_set (row_set (row_set R1.out 0 (.int .i64 1)) 1 (.int .i64 x)) 2 (.slice none 0 0)) 3 (.slice none 0 0)
 have c:=row_cell rF
 have c0:=c 0
 have c1:=c 1
 have c2:=c 2
 have c3:=c 3
 simp at c0 c1 c2 c3
 refine bodyPost_ret (v:=.tuple #[scV x,.nilIface]) (by simp[results,Tryz.results42,go_sem,c0,c1,c2,c3,scV]) rfl ?_
 exact⟨rfl,(((B1.out.setCell (p:=⟨w.heap.size+1,0,none⟩) (Nat.le_succ _) _).setCell (p:=⟨w.heap.size+1,1,none⟩) (Nat.le_succ _) _).setCell (p:=⟨w.heap.size+1,2,none⟩) (Nat.le_succ _) _).setCell (p:=⟨w.heap.size+1,3,none⟩) (Nat.le_succ _) _⟩
theorem s_New (v:Value) (os:List Ob) (w:World) (h:Sl w w.heap.size 2 v os.length (os.flatMap Ob.cells)) (hr:RegOk os) (hW:WordsAt w):
  Calls Tryz.prog 14 #[v] w fun e w'=>∃v',e=.returned (.tuple #[.agg #[v'],.nilIface])∧OwnS w' w.heap.size v' (os.map (·.init))∧Below w.heap.size w w':=by
 obtain⟨a,c,rfl,hm⟩:=h.ex
 obtain⟨hr8,hro⟩:=hr
 have b0:Below w.heap.size w (w.alloc (.cells #[.slice none 0 0] 46)):=(Below.refl _ w).alloc (Nat.le_refl _) _
 have r0:=row_new w (.cells #[.slice none 0 0] 46)
 have hv:=hid (h_Valid (.slice a os.length c) (.slice none 0 0) os [] _ ((h.below b0).more b0.size) ⟨none,0,rfl,by simp,by simp,fun h=>by simp at h⟩ ⟨hr8,hro⟩ (by simp) (fun e he=>(nomatch he)) (hW.below b0))
 have hz0:(w.alloc (.cells #[.slice none 0 0] 46)).heap.size=w.heap.size+1:=by simp
 have H:=hid h
 have HW:=hid hW
 have HRO:=hid hro
 clear h hW hro
 go_enter Tryz.func14,Tryz.ntmps14
 go_wp2_with fail
 generalize w.alloc (.cells #[.slice none 0 0] 46)=W at *
 refine(hv.out).mono ?_
 rintro e W1 ⟨rfl,b1⟩
 have B1:=hid (b0.trans (b1.mono b0.size))
 have R1:=hid (row_below r0 b1 (row_lt r0))
 have hz1:w.heap.size+1≤W1.heap.size:=by have:=b1.size;omega
 clear r0 b0 b1 hz0 hv
 go_wp2_with fail
 have RL:=hid (row_new W1 (.cells #[.slice none 0 0] 44))
 have R2:=hid (row_old (o:=.cells #[.slice none 0 0] 44) R1.out)
 have B2:=hid (B1.out.alloc B1.out.size (.cells #[.slice none 0 0] 44))
 have hz2:=hid (show(W1.alloc (.cells #[.slice none 0 0] 44)).heap.size=W1.heap.size+1 by simp)
 generalize W1.alloc (.cells #[.slice none 0 0] 44)=W2 at *
 generalize W1.heap.size=bl at *
 go_loopw [19] (fun p wr=>∃(k:Nat) (u:Value),k≤os.length∧p=.int .i64 k∧wr.heap[w.heap.size]?=some (.cells #[.slice none 0 0] 46 (0,0))∧wr.heap[bl]?=some (.cells #[u] 44 (0,0))∧OwnS wr w.heap.size u ((os.take k).map (·.init))∧Below w.heap.size w wr) (fun p _=>os.length - (intOf p).toNat)
 case atStart=>exact⟨0,_,by omega,by go_num,R2.out,RL.out,OwnF.nil _ _,B2.out⟩
 case round=>
  obtain⟨k,u,hk,rfl,q0,ql,qo,qb⟩:=hrel
  clear R2 RL B2 R1 B1 hz2 W1 W2
  have hsz:=qb.size
  obtain⟨L,hL⟩:∃L,(os.take k).map (·.init)=L:=⟨_,rfl⟩
  rw[hL] at qo
  have hLk:=hid (show L.length=k by rw[←hL];simp;omega)
  have hLm:L.length≤8:=by have:=hLk.out;omega
  have HL:=hid hL
  clear hL
  obtain⟨au,cu,rfl,-⟩:=(OwnF.sl qo).ex
  have y0:=row_cell ql 0
  simp at y0
  have yl:=row_lt ql
  have Q0:=hid q0
  have QL:=hid ql
  have QO:=hid qo
  have QB:=hid qb
  clear q0 ql qo qb
  by_cases hlt:k < os.length
  ·have src:=(H.out.below QB.out).more hsz
   obtain⟨b,off,o,rfl,hb,hox,hc⟩:=src.atF Ob.len rfl hlt
   obtain⟨ok,o1,o2⟩:=HRO.out o (List.mem_of_getElem? hox)
   obtain⟨okd,x⟩:=o
   simp only at ok o1 o2
   subst ok
   have c0:wr.cell? ⟨b,off+k*2,none⟩=some (.int .i64 1):=hc 0 (by decide)
   have c1:wr.cell? ⟨b,off+k*2+1,none⟩=some (.int .i64 x):=hc 1 (by decide)
   have HX:=hid (show(os.take (k+1)).map (·.init)=L++[x] by rw[List.take_add_one,List.map_append,hox,HL.out];rfl)
   clear hc src hox
   have b3:Below wr.heap.size wr (wr.alloc (.cells #[.int .i64 1,.int .i64 x] 96)):=(Below.refl _ wr).alloc (Nat.le_refl _) _
   have r3:=row_new wr (.cells #[.int .i64 1,.int .i64 x] 96)
   go_wp2_with fail
   generalize wr.alloc (.cells #[.int .i64 1,.int .i64 x] 96)=W3 at *
   refine(sp_New x o1 o2 W3 (HW.out.below (QB.out.trans (b3.mono hsz)))).mono ?_
   rintro e W4 ⟨rfl,b4⟩
   have b34:=b3.trans (b4.mono b3.size)
   have b5:Below wr.heap.size wr (W4.alloc (.cells #[.int .i64 1,.int .i64 x,.slice none 0 0,.slice none 0 0] 99)):=b34.alloc b34.size _
   have r5:=row_new W4 (.cells #[.int .i64 1,.int .i64 x,.slice none 0 0,.slice none 0 0] 99)
   have hz4:=b34.size
   have rb:=row_below QL.out b5 yl
   have d0:=row_cell rb 0
   have e:=row_cell r5
   have e0:=e 0
   have e1:=e 1
   have e2:=e 2
   have e3:=e 3
   have QO5:=OwnF.below QO.out b5
   have zl5:=row_lt r5
   have zb5:=row_lt rb
   clear e r3 b3 b4 b34 r5 rb c0 c1 y0
   go_wp2_with fail
   generalize W4.alloc (.cells #[.int .i64 1,.int .i64 x,.slice none 0 0,.slice none 0 0] 99)=W5 at *
   have hz5:=b5.size
   refine(l_And _ _ x W5 (OwnF.sl QO5) (by omega)).mono ?_
   rintro e W6 ⟨v',rfl,o6,b6⟩
   obtain⟨a6,c6,hv6,-⟩:=(OwnF.sl o6).ex
   rw[show (L++[x]).length=L.length+1 by simp] at hv6
   subst hv6
   have b56:=b5.trans (b6.mono hz5)
   have rl6:=row_below QL.out b56 yl
   have r06:=row_below Q0.out b56 (row_lt Q0.out)
   have B6:=hid (QB.out.trans (b56.mono hsz))
   have yl6:=row_lt rl6
   have d6:=row_cell rl6 0
   simp at d6
   have f6:=row_free rl6 0
   have oF:=hid (OwnF.set (j:=0) (g:=bl) (u:=.slice a6 (L.length+1) c6) o6 (show bl < W5.heap.size by omega))
   have rlF:=hid (row_set rl6 0 (.slice a6 (L.length+1) c6))
   have r0F:=hid (row_other (j:=0) (v:=.slice a6 (L.length+1) c6) r06 (show bl≠w.heap.size by omega))
   have bF:=hid (B6.out.setCell (p:=⟨bl,0,none⟩) (by show w.heap.size≤bl;omega) (.slice a6 (L.length+1) c6))
   have oF:=hid (OwnF.base oF.out (show w.heap.size≤W5.heap.size by omega))
   clear QO5 b5 b6 b56 rl6 r06
   go_wp2_with fail
   refine⟨⟨k+1,_,by omega,by go_num,r0F.out,by simpa using rlF.out,?_,bF.out⟩,by simp[intOf];omega⟩
   rw[HX.out]
   exact oF.out
  ·obtain rfl:k=os.length:=by omega
   have hq:decide ((os.length:Int) < (os.length:Int))=false:=by simp
   have x0:=row_cell Q0.out 0
   simp at x0
   have xl:=row_lt Q0.out
   have xf:=row_free Q0.out 0
   have rF:=row_set Q0.out 0 (.slice au L.length cu)
   have hne:bl≠w.heap.size:=fun e=>by have:=Q0.out;rw[←e,QL.out] at this;simp at this
   have oo:=QO.out
   have hLe:=hid (show L=os.map (·.init) by rw[←HL.out,List.take_length])
   have oF:=OwnF.other (j:=0) oo (OwnF.neT oo Q0.out (by decide)) (.slice au L.length cu)
   have bF:=hid (QB.out.setCell (p:=⟨w.heap.size,0,none⟩) (Nat.le_refl _) (.slice au L.length cu))
   have oF:=hid oF
   have c0:=row_cell rF 0
   simp at c0
   clear oo rF
   go_wp2_with fail
   refine bodyPost_ret (v:=.tuple #[.agg #[.slice au L.length cu],.nilIface]) (by simp[results,Tryz.results14,go_sem,c0]) rfl ?_
   exact⟨_,rfl,hLe.out▸oF.out,bF.out⟩
end
section
attribute [local irreducible] wpL
theorem n_pair {w:World} (h:PowAt w) (hW:WordsAt w) (p:Nat) (v:Value) (σ:List Int) (hs:SlS w w.heap.size v σ) (hl:σ.length≤8) (hv:SmallV σ):
  Calls Tryz.prog 93 #[.agg #[.int .i64 p,v]] w fun e w'=>e=.returned (.agg #[.int .i64 p,.string (keyB σ)])∧Below w.heap.size w w':=by
 obtain⟨av,cv,rfl,-⟩:=hs.ex
 have b0:Below w.heap.size w ((w.alloc (.cells #[.int .i64 p,.slice av σ.length cv] 181)).alloc (.cells #[.int .i64 0,.string ⟨#[]⟩] 176)):=((Below.refl _ w).alloc (Nat.le_refl _) _).alloc (by simp) _
 have r0:((w.alloc (.cells #[.int .i64 p,.slice av σ.length cv] 181)).alloc (.cells #[.int .i64 0,.string ⟨#[]⟩] 176)).heap[w.heap.size]?=some (.cells #[.int .i64 p,.slice av σ.length cv] 181 (0,0)):=row_old (row_new w _)
 have r1:((w.alloc (.cells #[.int .i64 p,.slice av σ.length cv] 181)).alloc (.cells #[.int .i64 0,.string ⟨#[]⟩] 176)).heap[w.heap.size+1]?=some (.cells #[.int .i64 0,.string ⟨#[]⟩] 176 (0,0)):=row_new' (by simp)
 go_enter Tryz.func93,Tryz.ntmps93
 go_wp2_with fail
 generalize (w.alloc (.cells #[.int .i64 p,.slice av σ.length cv] 181)).alloc (.cells #[.int .i64 0,.string ⟨#[]⟩] 176)=W at *
 have KC:=hid (s_Key (w:=W.drew) (h.below b0.drew) (hW.below b0.drew) (.slice av σ.length cv) σ ((hs.below b0).more b0.size) hl hv)
 have y:=row_cell r0
 have y0:=y 0
 have y1:=y 1
 simp at y0 y1
 have yl:=row_lt r0
 have R1:=hid r1
 have B0:=hid b0
 clear y r0 r1 b0 h hW hs
 refine wp_rN (W.heap.size) [0,1,0,1,3,0,2] (.fin [0,1,2,3,4,5,6]) (by kernel_rfl) ?_
 simp only[wpT,selX,guardAt,sD,sE,sF,sG]
 repeat first|(refine wpL_p fun K hK=>?_;go_simp;refine hK _ _ ?_;clear hK K)|(apply wpL_s;(intro w2 hw2;have hk1:=hw2.cell;have hk3:=hw2.1;clear hw2;go_simp;with_reducible rfl);simp only[Act.put,sA,sB,sC])
 refine wpL_k (fun K hK=>?_)
 go_simp
 refine KC.out.mono ?_
 rintro e w1 ⟨rfl,b1⟩
 refine hK _ _ (RN.KeepsN.of_below b1) ?_
 clear hK K
 have b1':Below W.heap.size W w1:=(Below.refl _ W).drew.trans b1
 have r1:=row_below R1.out b1' (row_lt R1.out)
 have z:=row_cell r1
 have z0:=z 0
 have z1:=z 1
 simp at z0 z1
 have zl:=row_lt r1
 have zf:=fun j=>row_free r1 j
 have BF:=hid (((B0.out.trans (b1'.mono B0.out.size)).setCell (p:=⟨w.heap.size+1,0,none⟩) (Nat.le_succ _) (.int .i64 p)).setCell (p:=⟨w.heap.size+1,1,none⟩) (Nat.le_succ _) (.string (keyB σ)))
 have rF:=row_set (row_set r1 0 (.int .i64 p)) 1 (.string (keyB σ))
 have c:=row_cell rF
 have c0:=c 0
 have c1:=c 1
 simp at c0 c1
 clear z r1 rF c b1 b1'
 repeat (refine wpL_p fun K hK=>?_;go_simp;refine hK _ _ ?_;clear hK K)
 refine wpL_e (fun K hK=>?_)
 go_simp
 refine hK _ _ ?_
 clear hK K
 repeat refine wpL_nil ?_
 go_wp2_with fail
 refine bodyPost_ret (v:=.agg #[.int .i64 p,.string (keyB σ)]) (by simp[results,Tryz.results93,go_sem,c0,c1]) rfl ?_
 exact⟨rfl,BF.out⟩
theorem g_all {w:World} {bG n:Nat} {lv mv fv:Value} {a:Option Addr} {c:Nat} (h:w.heap[bG]?=some (.cells #[lv,.slice a n c,mv,fv] 188 (0,0))) (hn:n≤12):
  Calls Tryz.prog 141 #[.pointer (some ⟨bG,0,none⟩)] w fun e w'=>e=.returned (.int .i64 (2 ^ n - 1:Nat))∧w'=w:=by
 have y1:=row_cell h 1
 simp at y1
 have yl:=row_lt h
 have q:wrap64 (wrap64 (2 ^ n) - 1)=((2 ^ n - 1:Nat):Int):=by
  have hc:n=0∨n=1∨n=2∨n=3∨n=4∨n=5∨n=6∨n=7∨n=8∨n=9∨n=10∨n=11∨n=12:=by omega
  rcases hc with rfl|rfl|rfl|rfl|rfl|rfl|rfl|rfl|rfl|rfl|rfl|rfl|rfl <;> simp[wrap64]
 have Q:=hid q
 clear q
 go_enter Tryz.func141,Tryz.ntmps141
 go_wp2_with fail
 have q:=Q.out
 refine bodyPost_ret (v:=.int .i64 (2 ^ n - 1:Nat)) (by simp only[q];simp[results,Tryz.results141,go_sem]) rfl ⟨rfl,rfl⟩
def baseA (f:FuncId):Frame:={(default:Frame) with fn:=f,kind:=.normal}
theorem n_asked (w:World):Calls Tryz.prog 96 #[.chan none] w fun e w'=>e=.returned (.bool false)∧w'=w:=by
 refine calls_of_loneTo fun cs=>?_
 have e:Frame.enter Tryz.prog 96 #[.chan none] .normal=(baseA 96).at ⟨#[.chan none,undef,undef,undef,undef,undef,undef],[]⟩ [.code (Tryz.f96.body.getD .skip)]:=by
  simp[Frame.enter,Frame.at,Tryz.func96,baseA,Tryz.f96]
 rw[e]
 refine LoneTo.goes (n:=10) ?_
 simp only[Tryz.f96,Option.getD_some]
 s_c stepG_seq
 s_reg
 s_op
 s_c stepG_region_end
 s_c stepG_seq
 s_reg
 s_op
 s_c stepG_region_end
 s_c stepG_seq
 s_reg
 s_stop
 refine LoneTo.step (step_lone_select_recv_nil (z:=.agg #[]) (stepG_comm (cases:=#[rcaseNil (.agg #[])]) (blocking:=false) (shape:=.select) (w':=w) rfl rfl (by decide) (by simp[go_sem,execOp,rcaseNil,Act.eval]))) ?_
 rw[Frame.finish_at]
 walk_nrm
 refine LoneTo.goes (n:=10) ?_
 s_op
 s_op
 s_c stepG_region_end
 s_c stepG_block
 s_cond false
 s_c stepG_seq
 s_reg
 s_op
 s_c stepG_region_end
 s_c stepG_ret'
 s_stop
 exact LoneTo.done ⟨.returned (.bool false),_,rfl,⟨rfl,rfl⟩,rfl,rfl,rfl,rfl,_,Tryz.func96,by simp[results,Tryz.f96,Frame.at]⟩
end
section
attribute [local irreducible] wpL
structure MemAt (m:Nat) (w:World) (B b12 b13 b14 bS bm most:Nat) (cv qv ov:Value) (L:List (NdK m)) (rows orows:List NR) (n:Nat):Prop where
 var:w.heap[b12]?=some (.cells #[.pointer (some ⟨bS,0,none⟩)] 173 (0,0))
 set:SetAt m w B bS bm most cv L
 que:QueueAt w B b13 qv rows n
 ord:w.heap[b14]?=some (.cells #[ov] 177 (0,0))
 own:OwnF NR.cells 181 2 w B ov orows
 dis:∀k,qv.ownBlock=some k→ov.ownBlock≠some k
 hB:B≤b12∧B≤b14
theorem SetAt.fr {S:Nat→Prop} {m B bS bm most:Nat} {cv:Value} {L:List (NdK m)} {w w':World} (h:SetAt m w B bS bm most cv L) (hk:Fr S w w') (hn:∀j,j=bS∨j=bm∨cv.ownBlock=some j→¬S j):SetAt m w' B bS bm most cv L:=by
 obtain⟨h1,⟨M,h2,h3⟩,h4,h5⟩:=h
 exact⟨hk.row h1 (hn _ (.inl rfl)),⟨M,h2.obj (hk.blk bm h2.lt (hn _ (.inr (.inl rfl)))),h3⟩,OwnF.fr h4 hk fun j e=>hn j (.inr (.inr e)),h5⟩
def SeT (t:TypeId):Prop:=t=262∨t=176∨t=179∨t=181∨t=177
section
variable {m B b12 b13 b14 bS bm most n:Nat} {cv qv ov:Value} {L:List (NdK m)} {rows orows:List NR} {w w':World}
theorem MemAt.below (h:MemAt m w B b12 b13 b14 bS bm most cv qv ov L rows orows n) (hb:Below w.heap.size w w'):MemAt m w' B b12 b13 b14 bS bm most cv qv ov L rows orows n:=
 ⟨row_below h.var hb (row_lt h.var),h.set.below hb,h.que.fr (Fr.below (S:=fun _=>False) hb) (fun _ _ h=>h),row_below h.ord hb (row_lt h.ord),OwnF.below h.own hb,h.dis,h.hB⟩
theorem MemAt.setTurn (h:MemAt m w B b12 b13 b14 bS bm most cv qv ov L rows orows n) {cv':Value} {L':List (NdK m)} (hs:SetAt m w' B bS bm most cv' L') (hk:Kd (fun t=>t=262∨t=176) w w'):
  MemAt m w' B b12 b13 b14 bS bm most cv' qv ov L' rows orows n:=
 ⟨hk _ _ _ _ h.var (by decide),hs,⟨hk _ _ _ _ h.que.row (by decide),OwnF.kd h.que.own hk (by decide),h.que.le,h.que.hB⟩,hk _ _ _ _ h.ord (by decide),OwnF.kd h.own hk (by decide),h.dis,h.hB⟩
def PutPost (m:Nat) (w:World) (B b12 b13 b14 bS bm most:Nat) (qv ov:Value) (L:List (NdK m)) (rows orows:List NR) (n:Nat) (k:NdK m) (r:NR) (ev:Value) (e:Ending) (w':World):Prop:=
 (k ∈ L∧e=.returned .nilIface∧Below w.heap.size w w')∨
 (k ∉ L∧L.length=most∧e=.returned ev∧Below w.heap.size w w')∨
 (k ∉ L∧L.length < most∧e=.returned .nilIface∧(∃cv' qv' ov',MemAt m w' B b12 b13 b14 bS bm most cv' qv' ov' (L++[k]) (rows++[r]) (orows++[r]) n)∧Kd SeT w w'∧Below B w w')
theorem s_put (h:MemAt m w B b12 b13 b14 bS bm most cv qv ov L rows orows n) (hB:B≤w.heap.size) (hl:L.length≤most) (hm:most≤65536) (hr:rows.length≤65536) (hor:orows.length≤65536) (k:NdK m) {a:Option Addr} {c:Nat} (hs:OwnS w 0 (.slice a k.1.2.length c) k.1.2) (hP:PowAt w) (hW:WordsAt w) {t0:TypeId} {v0:Value} (hev:w.cell? ⟨0,0,none⟩=some (.iface t0 v0)) (hel:0 < w.heap.size):
  Calls Tryz.prog 91 #[.agg #[.int .i64 (k.1.1:Nat),.slice a k.1.2.length c],.pointer (some ⟨b12,0,none⟩),.pointer (some ⟨b13,0,none⟩),.pointer (some ⟨b14,0,none⟩)] w (PutPost m w B b12 b13 b14 bS bm most qv ov L rows orows n k ⟨k.1.1,.slice a k.1.2.length c⟩ (.iface t0 v0)):=by
 have b0:Below w.heap.size w (w.alloc (.cells #[.int .i64 (k.1.1:Nat),.slice a k.1.2.length c] 181)):=(Below.refl _ w).alloc (Nat.le_refl _) _
 have r0:=hid (row_new w (.cells #[.int .i64 (k.1.1:Nat),.slice a k.1.2.length c] 181))
 have hz0:=hid (show(w.alloc (.cells #[.int .i64 (k.1.1:Nat),.slice a k.1.2.length c] 181)).heap.size=w.heap.size+1 by simp)
 go_enter Tryz.func91,Tryz.ntmps91
 go_wp2_with fail
 generalize w.alloc (.cells #[.int .i64 (k.1.1:Nat),.slice a k.1.2.length c] 181)=W at *
 have h1:=h.below b0
 have hev1:=cell_below b0 hel hev
 have hel1:0 < W.heap.size:=by have:=b0.size;omega
 have PC:=hid (n_pair (w:=W.drew) (hP.below b0.drew) (hW.below b0.drew) k.1.1 (.slice a k.1.2.length c) k.1.2 (OwnF.sl (OwnF.below hs b0.drew)) (by have:=k.2;omega) k.2.2.2.2)
 have x0:=row_cell h1.var 0
 have z:=row_cell r0.out
 have z0:=z 0
 have z1:=z 1
 simp at x0 z0 z1
 have xl:=row_lt h1.var
 have zl:=row_lt r0.out
 have HQL:=hid (fun j hj=>(OwnF.lt h.que.own j hj).2)
 have HOL:=hid (fun j hj=>(OwnF.lt h.own j hj).2)
 have H1:=hid h1
 have B0:=hid b0
 have HS:=hid hs
 clear z h1 b0 h hP hW hs hev hel
 refine wp_rN (W.heap.size) [1,1,3,2,0,0,0,0,0] (.fin [0,1,2,3,4,5,6,7,8]) (by kernel_rfl) ?_
 simp only[wpT,selX,guardAt,sD,sE,sF,sG]
 repeat (apply wpL_s;(intro w2 hw2;have hk1:=hw2.cell;have hk3:=hw2.1;clear hw2;go_simp;with_reducible rfl);simp only[Act.put,sA,sB,sC])
 refine wpL_k (fun K hK=>?_)
 go_simp
 refine PC.out.mono ?_
 rintro e w1 ⟨rfl,b1⟩
 refine hK _ _ (RN.KeepsN.of_below b1) ?_
 clear hK K
 have b1':Below W.heap.size W w1:=(Below.refl _ W).drew.trans b1
 have hev2:=cell_below b1' hel1 hev1
 have h2:=H1.out.below b1'
 have hB1:B≤w1.heap.size:=by have:=B0.out.size;have:=b1'.size;omega
 have AC:=hid (m_Add h2.set hB1 hl (by omega) k hev2 (by have:=b1'.size;omega))
 unfold kapV at AC
 refine wpL_e (fun K hK=>?_)
 go_simp
 refine AC.out.mono ?_
 intro e w2 hpost
 have R1:=hid (row_below r0.out b1' zl)
 have BB1:=hid (B0.out.trans (b1'.mono B0.out.size))
 rcases hpost with⟨hk,rfl,b2⟩|⟨hk,hfull,rfl,b2⟩|⟨hk,hlt,rfl,⟨cv',hs2⟩,hf⟩
 ·refine hK _ _ ?_
  clear hK K
  repeat first|(refine wpL_p fun K hK=>?_;go_simp;refine hK _ _ ?_;clear hK K)|refine wpL_nil ?_
  go_wp2_with fail
  go_ret
  exact .inl ⟨hk,rfl,BB1.out.trans (b2.mono BB1.out.size)⟩
 ·refine hK _ _ ?_
  clear hK K
  repeat first|(refine wpL_p fun K hK=>?_;go_simp;refine hK _ _ ?_;clear hK K)|refine wpL_nil ?_
  go_wp2_with fail
  go_ret
  exact .inr (.inl ⟨hk,hfull,rfl,BB1.out.trans (b2.mono BB1.out.size)⟩)
 ·refine hK _ _ ?_
  clear hK K
  have h3:=h2.setTurn hs2 hf.1
  have r3:=hf.1 _ _ _ _ R1.out (by decide)
  have z:=row_cell r3
  have z0:=z 0
  have z1:=z 1
  simp at z0 z1
  have zl:=row_lt r3
  have H3:=hid h3
  have HF:=hid hf
  have R3:=hid r3
  have hB2:B≤w2.heap.size:=Nat.le_trans hB1 hf.2.size
  clear z h3 h2 r3 hf hs2 PC AC b1 b1'
  repeat first|(refine wpL_p fun K hK=>?_;go_simp;refine hK _ _ ?_;clear hK K)|refine wpL_nil ?_
  go_wp2_with fail
  refine(m_Put H3.out.que hB2 (by omega) k.1.1 a k.1.2.length c).mono ?_
  rintro e w4 ⟨rfl,qv',q4,f4,own4⟩
  have hqlt:=HQL.out
  have holt:=HOL.out
  have hq2:=OwnF.lt H3.out.que.own
  have ho2:=OwnF.lt H3.out.own
  have hz1:w.heap.size < w2.heap.size:=row_lt R3.out
  have r4:w4.heap[w.heap.size]?=some (.cells #[.int .i64 (k.1.1:Nat),.slice a k.1.2.length c] 181 (0,0)):=f4.row R3.out (fun hq=>by
   rcases hq with e|hq
   ·have:=H3.out.que.row;rw[←e,R3.out] at this;simp at this
   ·exact absurd (hqlt _ hq) (Nat.lt_irrefl _))
  have nQS:∀j,ov.ownBlock=some j→¬QS b13 qv j:=fun j hj hq=>by
   rcases hq with rfl|hq
   ·exact OwnF.neT H3.out.own H3.out.que.row (by decide) hj
   ·exact H3.out.dis j hq hj
  have n14:¬QS b13 qv b14:=fun hq=>by
   rcases hq with e|hq
   ·have:=H3.out.que.row;rw[←e,H3.out.ord] at this;simp at this
   ·exact OwnF.neT H3.out.que.own H3.out.ord (by decide) hq
  have ro4:=f4.row H3.out.ord n14
  have oo4:=OwnF.fr H3.out.own f4 nQS
  have hz24:w2.heap.size≤w4.heap.size:=f4.base.size
  have hB4:B≤w4.heap.size:=by omega
  obtain⟨ao,co,rfl,-⟩:=(OwnF.sl oo4).ex
  have z:=row_cell r4
  have z0:=z 0
  have z1:=z 1
  have y0:=row_cell ro4 0
  simp at z0 z1 y0
  have zl:=row_lt r4
  have yl:=row_lt ro4
  have RO4:=hid ro4
  have F4:=hid f4
  have Q4:=hid q4
  have NQS:=hid nQS
  have OWN4:=hid own4
  clear z r4 ro4 f4 q4 nQS own4 hqlt holt hz1
  have hor2:orows.length≤70000:=by omega
  go_wp2_with (at_builtin;refine wpList_appF rfl _ _ _ rfl _ 32 Tryz.underlying177 infoNd rfl oo4 (NR.mk k.1.1 (.slice a k.1.2.length c)) hB4 (by rfl) (by rfl) (by first|rfl|simp) rfl (nd_one _) (by first|omega|(simp only[List.length_append,List.length_cons,List.length_nil,List.length_replicate];omega)) (by first|omega|(simp only[List.length_append,List.length_cons,List.length_nil,List.length_replicate];omega)) ?_;refine Stop.halt ?_)
  refine Stop.go ?_
  intro g5 c5 w5 o5 G5
  have ne5:=OwnF.neT oo4 RO4.out (by decide)
  have r5:w5.heap[b14]?=some _:=row_grw RO4.out G5 ne5
  have y5:=row_cell r5 0
  simp at y5
  have yf:=row_free r5 0
  have yl5:=row_lt r5
  have oF:=hid (OwnF.other (j:=0) o5 (OwnF.neT o5 r5 (by decide)) (.slice (some ⟨g5,0,none⟩) (orows.length+1) c5))
  have rF:=hid (row_set r5 0 (.slice (some ⟨g5,0,none⟩) (orows.length+1) c5))
  have f46:Fr (fun j=>j=b14∨(Value.slice ao orows.length co).ownBlock=some j) w4 (w5.setCell ⟨b14,0,none⟩ (.slice (some ⟨g5,0,none⟩) (orows.length+1) c5)):=
   ((Fr.grw G5).mono fun j _ e=>Or.inr e).trans (Fr.setB (S:=fun j=>j=b14∨(Value.slice ao orows.length co).ownBlock=some j) (.inl rfl) 0 _) fun _ _ e=>e
  have FF:Fr (fun j=>QS b13 qv j∨j=b14∨(Value.slice ao orows.length co).ownBlock=some j) w2 (w5.setCell ⟨b14,0,none⟩ (.slice (some ⟨g5,0,none⟩) (orows.length+1) c5)):=
   (F4.out.mono fun j _ e=>Or.inl e).trans f46 fun j _ e=>Or.inr e
  have hty:∀j,(QS b13 qv j∨j=b14∨(Value.slice ao orows.length co).ownBlock=some j)→∃cs t,w2.heap[j]?=some (.cells cs t (0,0))∧(t=179∨t=181∨t=177):=by
   intro j hj
   rcases hj with(rfl|hj)|rfl|hj
   ·exact ⟨_,_,H3.out.que.row,.inl rfl⟩
   ·obtain ⟨cs,hcs⟩:=OwnF.keepObj H3.out.que.own j hj;exact⟨cs,_,hcs,.inr (.inl rfl)⟩
   ·exact ⟨_,_,H3.out.ord,.inr (.inr rfl)⟩
   ·obtain ⟨cs,hcs⟩:=OwnF.keepObj H3.out.own j hj;exact⟨cs,_,hcs,.inr (.inl rfl)⟩
  have nty:∀j cs t fz,w2.heap[j]?=some (.cells cs t fz)→(t≠179∧t≠181∧t≠177)→¬(QS b13 qv j∨j=b14∨(Value.slice ao orows.length co).ownBlock=some j):=by
   intro j cs t fz hj ht hS
   obtain⟨cs',t',h1,h2⟩:=hty j hS
   rw[hj] at h1
   simp only[Option.some.injEq,Obj.cells.injEq] at h1
   obtain⟨-,rfl,-⟩:=h1
   rcases h2 with h2|h2|h2
   ·exact ht.1 h2
   ·exact ht.2.1 h2
   ·exact ht.2.2 h2
  have set6:=H3.out.set.fr FF (fun j hj=>by
   rcases hj with rfl|rfl|hj
   ·exact nty _ _ _ _ H3.out.set.row (by decide)
   ·intro hS
    obtain⟨cs',t',h1,-⟩:=hty _ hS
    obtain⟨M,hM,-⟩:=H3.out.set.map
    obtain⟨es,cl,hes⟩:=hM.isMap
    rw[hes] at h1
    cases h1
   ·obtain ⟨cs,hcs⟩:=OwnF.keepObj H3.out.set.came j hj
    exact nty _ _ _ _ hcs (by decide))
  have var6:=FF.row H3.out.var (nty _ _ _ _ H3.out.var (by decide))
  have que6:=Q4.out.fr f46 (fun j hj=>by
   rintro(rfl|hov)
   ·rcases hj with e|hj
    ·have:=Q4.out.row;rw[←e,RO4.out] at this;simp at this
    ·exact OwnF.neT Q4.out.own RO4.out (by decide) hj
   ·rcases hj with rfl|hj
    ·exact NQS.out _ hov (.inl rfl)
    ·rcases OWN4.out j hj with e|e
     ·exact NQS.out _ hov (.inr e)
     ·have:=(ho2 j hov).2;omega)
  have dis6:∀j,qv'.ownBlock=some j→(Value.slice (some ⟨g5,0,none⟩) (orows.length+1) c5).ownBlock≠some j:=by
   intro j hj hg
   rcases G5.own j hg with e|e
   ·rcases OWN4.out j hj with e2|e2
    ·exact NQS.out _ e (.inr e2)
    ·have:=(ho2 j e).2;omega
   ·have:=(OwnF.lt Q4.out.own j hj).2;omega
  have kd6:Kd SeT w2 (w5.setCell ⟨b14,0,none⟩ (.slice (some ⟨g5,0,none⟩) (orows.length+1) c5)):=FF.kd fun j cs t fz hS hj=>by
   obtain⟨cs',t',h1,h2⟩:=hty j hS
   rw[hj] at h1
   simp only[Option.some.injEq,Obj.cells.injEq] at h1
   obtain⟨-,rfl,-⟩:=h1
   rcases h2 with h2|h2|h2
   ·exact .inr (.inr (.inl h2))
   ·exact .inr (.inr (.inr (.inl h2)))
   ·exact .inr (.inr (.inr (.inr h2)))
  have bel6:Below B w2 (w5.setCell ⟨b14,0,none⟩ (.slice (some ⟨g5,0,none⟩) (orows.length+1) c5)):=FF.toBelow hB2 fun j hj=>by
   rintro((rfl|hq)|rfl|hq)
   ·have:=H3.out.que.hB;omega
   ·have:=(hq2 j hq).1;omega
   ·have:=H3.out.hB.2;omega
   ·have:=(ho2 j hq).1;omega
  have FIN:=hid (show MemAt m (w5.setCell ⟨b14,0,none⟩ (.slice (some ⟨g5,0,none⟩) (orows.length+1) c5)) B b12 b13 b14 bS bm most cv' qv' (.slice (some ⟨g5,0,none⟩) (orows.length+1) c5) (L++[k]) (rows++[⟨k.1.1,.slice a k.1.2.length c⟩]) (orows++[⟨k.1.1,.slice a k.1.2.length c⟩]) n from
   ⟨var6,set6,que6,by simpa using rF.out,oF.out,dis6,H3.out.hB⟩)
  have KF:=hid ((((Kd.below BB1.out:Kd SeT w w1).trans (HF.out.1.mono fun t e=>by rcases e with e|e;exact .inl e;exact .inr (.inl e))).trans kd6))
  have BF:=hid (((BB1.out.mono (by omega)).trans HF.out.2).trans bel6)
  clear FF hty nty set6 var6 que6 dis6 kd6 bel6 f46 ne5 r5 o5 G5 oo4 hq2 ho2
  go_wp2_with fail
  go_ret
  exact .inr (.inr ⟨hk,hlt,rfl,⟨_,_,_,FIN.out⟩,KF.out,BF.out⟩)
end
end
