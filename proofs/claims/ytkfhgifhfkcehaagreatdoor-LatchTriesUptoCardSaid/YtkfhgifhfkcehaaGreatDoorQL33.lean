/- Parts of the proof, merged by program out of 1 texts (SnA): the first: A store anew. Conditions: those of each theorem, as typed. -/
import Derived.Test.YtkfhgifhfkcehaaGreatDoorQL22
set_option linter.unusedVariables false
set_option linter.unusedSimpArgs false
set_option linter.unusedSectionVars false
set_option maxRecDepth 100000
set_option maxHeartbeats 4000000
namespace Go.Proofs.YtkfhgifhfkcehaaGreatDoor
open Go.Maps Go.RowKit
section
attribute [local irreducible] wpL
theorem l_And (v:Value) (σ:List Int) (x:Int) (w:World) (h:SlS w w.heap.size v σ) (hl:σ.length≤1000):
  Calls Tryz.prog 43 #[.agg #[v],scV x] w fun e w'=>∃v',e=.returned (.agg #[v'])∧OwnS w' w.heap.size v' (σ++[x])∧Below w.heap.size w w':=by
 obtain⟨a,c,rfl,hm⟩:=h.ex
 have b0:Below w.heap.size w (((w.alloc (.cells #[.slice a σ.length c] 44)).alloc (.cells #[.int .i64 1,.int .i64 x,.slice none 0 0,.slice none 0 0] 99)).alloc (.cells #[.slice none 0 0] 44)):=(((Below.refl _ w).alloc (Nat.le_refl _) _).alloc (by simp) _).alloc (by simp;omega) _
 go_enter Tryz.func43,Tryz.ntmps43
 go_wp2_with fail
 have r2:(((w.alloc (.cells #[.slice a σ.length c] 44)).alloc (.cells #[.int .i64 1,.int .i64 x,.slice none 0 0,.slice none 0 0] 99)).alloc (.cells #[.slice none 0 0] 44)).heap[w.heap.size]?=some (.cells #[.slice a σ.length c] 44 (0,0)):=row_old (row_old (row_new w _))
 have r1:(((w.alloc (.cells #[.slice a σ.length c] 44)).alloc (.cells #[.int .i64 1,.int .i64 x,.slice none 0 0,.slice none 0 0] 99)).alloc (.cells #[.slice none 0 0] 44)).heap[w.heap.size+1]?=some (.cells #[.int .i64 1,.int .i64 x,.slice none 0 0,.slice none 0 0] 99 (0,0)):=row_old (row_new' (by simp))
 have r0:(((w.alloc (.cells #[.slice a σ.length c] 44)).alloc (.cells #[.int .i64 1,.int .i64 x,.slice none 0 0,.slice none 0 0] 99)).alloc (.cells #[.slice none 0 0] 44)).heap[w.heap.size+1+1]?=some (.cells #[.slice none 0 0] 44 (0,0)):=row_new' (by simp)
 have hz:=hid (show(((w.alloc (.cells #[.slice a σ.length c] 44)).alloc (.cells #[.int .i64 1,.int .i64 x,.slice none 0 0,.slice none 0 0] 99)).alloc (.cells #[.slice none 0 0] 44)).heap.size=w.heap.size+3 by simp)
 generalize ((w.alloc (.cells #[.slice a σ.length c] 44)).alloc (.cells #[.int .i64 1,.int .i64 x,.slice none 0 0,.slice none 0 0] 99)).alloc (.cells #[.slice none 0 0] 44)=W at *
 have hs:=(h.below b0).more b0.size
 have AC:=hid (l_All _ σ W.drew hs hl)
 have HS:=hid hs
 have B0:=hid b0
 have R0:=hid r0
 have u0:=row_cell r2 0
 have y:=row_cell r1
 have y0:=y 0
 have y1:=y 1
 have y2:=y 2
 have y3:=y 3
 simp at u0 y0 y1 y2 y3
 have ul:=row_lt r2
 have yl:=row_lt r1
 clear y r0 r1 r2 b0 hs h
 refine wp_rN (W.heap.size) [1,3,1,3,2,0,2] (.frk [0,2] (.fin [1,3,4,5,6]) (.fin [3,1,4,5,6])) (by kernel_rfl) ?_
 simp only[wpT,selX,guardAt,sD,sE,sF,sG]
 repeat first|(apply wpL_s;(intro w2 hw2;have hk1:=hw2.cell;have hk3:=hw2.1;clear hw2;go_simp;with_reducible rfl);simp only[Act.put,sA,sB,sC])|refine wpL_nil ?_
 refine⟨?_,?_⟩
 ·refine wpL_k (fun K hK=>?_)
  go_simp
  refine AC.out.mono ?_
  rintro e w1 ⟨v',rfl,o1,b1⟩
  obtain⟨a1,c1,rfl,-⟩:=(OwnF.sl o1).ex
  refine hK _ _ (RN.KeepsN.of_below b1) ?_
  clear hK K
  refine wpL_k (fun K hK=>?_)
  go_simp
  refine hK _ _ (RN.KeepsN.alloc w1 _ b1.size) ?_
  clear hK K
  have hz1:W.heap.size≤w1.heap.size:=b1.size
  refine wpL_e (fun K hK=>?_)
  refine wp_appF _ _ _ rfl _ 64 Tryz.underlying42 infoSC rfl o1 x hz1 (by rfl) (by rfl) (by first|rfl|simp) rfl (sc_one _) (by first|omega|(simp only[List.length_append,List.length_cons,List.length_nil,List.length_replicate];omega)) (by first|omega|(simp only[List.length_append,List.length_cons,List.length_nil,List.length_replicate];omega)) ?_
  intro g1 c1 w2 o2 G2
  refine hK _ _ ?_
  clear hK K
  have b2:Below W.heap.size W w2:=((Below.refl _ W).drew.trans b1).trans (G2.below hz1 fun j hj=>(OwnF.lt o1 j hj).1)
  have r2:=row_below R0.out b2 (row_lt R0.out)
  have y:=row_cell r2 0
  simp at y
  have yf:=row_free r2 0
  have yl2:=row_lt r2
  have hB2:=hid ((B0.out.trans (b2.mono B0.out.size)).setCell (p:=⟨w.heap.size+1+1,0,none⟩) (by show w.heap.size≤w.heap.size+1+1;omega) (.slice (some ⟨g1,0,none⟩) (σ.length+1) c1))
  have oF:=hid (OwnF.set (j:=0) (u:=.slice (some ⟨g1,0,none⟩) (σ.length+1) c1) o2 (show w.heap.size+1+1 < W.heap.size by have:=hz.out;omega))
  have rF:=hid (row_set r2 0 (.slice (some ⟨g1,0,none⟩) (σ.length+1) c1))
  clear r2 b2 b1 o1 G2 o2 AC
  repeat (refine wpL_p fun K hK=>?_;go_simp;refine hK _ _ ?_;clear hK K)
  refine wpL_e (fun K hK=>?_)
  go_simp
  refine hK _ _ ?_
  clear hK K
  repeat refine wpL_nil ?_
  go_wp2_with fail
  have c0:=row_cell rF.out 0
  simp at c0
  refine bodyPost_ret (v:=.agg #[.slice (some ⟨g1,0,none⟩) (σ.length+1) c1]) (by simp[results,Tryz.results43,go_sem,c0]) rfl ?_
  refine⟨_,rfl,?_,hB2.out⟩
  have:=OwnF.base oF.out (show w.heap.size≤W.heap.size from B0.out.size)
  simpa using this
 ·refine wpL_k (fun K hK=>?_)
  go_simp
  refine hK _ _ (RN.KeepsN.alloc W.drew _ (Nat.le_refl _)) ?_
  clear hK K
  have ba:Below W.heap.size W (W.drew.alloc (.cells #[.int .i64 1,.int .i64 x,.slice none 0 0,.slice none 0 0] 99)):=(Below.refl _ W).drew.alloc (Nat.le_refl _) _
  have ra:=row_new W.drew (.cells #[.int .i64 1,.int .i64 x,.slice none 0 0,.slice none 0 0] 99)
  have AC2:=hid (l_All _ σ (W.drew.alloc (.cells #[.int .i64 1,.int .i64 x,.slice none 0 0,.slice none 0 0] 99)) ((HS.out.below ba).more ba.size) hl)
  have hza:=ba.size
  refine wpL_k (fun K hK=>?_)
  go_simp
  refine AC2.out.mono ?_
  rintro e w1 ⟨v',rfl,o1,b1⟩
  obtain⟨a1,c1,rfl,-⟩:=(OwnF.sl o1).ex
  refine hK _ _ (RN.KeepsN.of_below (b1.mono hza)) ?_
  clear hK K
  have hz1:W.heap.size≤w1.heap.size:=Nat.le_trans hza b1.size
  have src:SlS w1 w1.heap.size (.slice (some ⟨W.heap.size,0,none⟩) 1 1) [x]:=OwnF.sl (OwnF.ofRow (B:=0) (l:=[x]) (row_below ra b1 (row_lt ra)) (Nat.zero_le _) rfl rfl (by decide))
  have o1':=OwnF.base o1 hza
  refine wpL_e (fun K hK=>?_)
  refine wp_appA _ _ _ rfl _ 64 Tryz.underlying42 infoSC rfl o1' [x] rfl src (by first|omega|(simp <;> omega)) rfl rfl SC_len sc_one (by first|omega|(simp <;> omega)) (by first|omega|(simp <;> omega)) ?_
  intro v2 w2 o2 G2
  refine hK _ _ ?_
  clear hK K
  obtain⟨a2,c2,hv2,-⟩:=(OwnF.sl o2).ex
  rw[show (σ++[x]).length=σ.length+1 by simp] at hv2
  subst hv2
  have b2:Below W.heap.size W w2:=(ba.trans (b1.mono hza)).trans (G2.below hz1 fun j hj=>(OwnF.lt o1' j hj).1)
  have r2:=row_below R0.out b2 (row_lt R0.out)
  have y:=row_cell r2 0
  simp at y
  have yf:=row_free r2 0
  have yl2:=row_lt r2
  have hB2:=hid ((B0.out.trans (b2.mono B0.out.size)).setCell (p:=⟨w.heap.size+1+1,0,none⟩) (by show w.heap.size≤w.heap.size+1+1;omega) (.slice a2 (σ.length+1) c2))
  have oF:=hid (OwnF.set (j:=0) (u:=.slice a2 (σ.length+1) c2) o2 (show w.heap.size+1+1 < W.heap.size by have:=hz.out;omega))
  have rF:=hid (row_set r2 0 (.slice a2 (σ.length+1) c2))
  clear r2 b2 b1 o1 o1' G2 o2 AC AC2 ra src
  repeat (refine wpL_p fun K hK=>?_;go_simp;refine hK _ _ ?_;clear hK K)
  refine wpL_e (fun K hK=>?_)
  go_simp
  refine hK _ _ ?_
  clear hK K
  repeat refine wpL_nil ?_
  go_wp2_with fail
  have c0:=row_cell rF.out 0
  simp at c0
  refine bodyPost_ret (v:=.agg #[.slice a2 (σ.length+1) c2]) (by simp[results,Tryz.results43,go_sem,c0]) rfl ?_
  refine⟨_,rfl,?_,hB2.out⟩
  have:=OwnF.base oF.out (show w.heap.size≤W.heap.size from B0.out.size)
  simpa using this
theorem sp_New (x:Int) (h1:-1000000000≤x) (h2:x≤1000000000) (w:World) (hW:WordsAt w):
  Calls Tryz.prog 42 #[.agg #[.int .i64 1,.int .i64 x]] w fun e w'=>e=.returned (.tuple #[scV x,.nilIface])∧Below w.heap.size w w':=by
 have b0:Below w.heap.size w ((w.alloc (.cells #[.int .i64 1,.int .i64 x] 96)).alloc (.cells #[.int .i64 0,.int .i64 0,.slice none 0 0,.slice none 0 0] 99)):=((Below.refl _ w).alloc (Nat.le_refl _) _).alloc (by simp) _
 have r0:((w.alloc (.cells #[.int .i64 1,.int .i64 x] 96)).alloc (.cells #[.int .i64 0,.int .i64 0,.slice none 0 0,.slice none 0 0] 99)).heap[w.heap.size]?=some (.cells #[.int .i64 1,.int .i64 x] 96 (0,0)):=row_old (row_new w _)
 have r1:((w.alloc (.cells #[.int .i64 1,.int .i64 x] 96)).alloc (.cells #[.int .i64 0,.int .i64 0,.slice none 0 0,.slice none 0 0] 99)).heap[w.heap.size+1]?=some (.cells #[.int .i64 0,.int .i64 0,.slice none 0 0,.slice none 0 0] 99 (0,0)):=row_new' (by simp)
 have hz:=hid (show((w.alloc (.cells #[.int .i64 1,.int .i64 x] 96)).alloc (.cells #[.int .i64 0,.int .i64 0,.slice none 0 0,.slice none 0 0] 99)).heap.size=w.heap.size+2 by simp)
 go_enter Tryz.func42,Tryz.ntmps42
 go_wp2_with fail
 generalize (w.alloc (.cells #[.int .i64 1,.int .i64 x] 96)).alloc (.cells #[.int .i64 0,.int .i64 0,.slice none 0 0,.slice none 0 0] 99)=W at *
 refine(e_ValidObject x h1 h2 W (hW.below b0)).mono ?_
 rintro e W1 ⟨rfl,b1⟩
 have r0:=row_below r0 b1 (row_lt r0)
 have r1:=row_below r1 b1 (row_lt r1)
 have B1:=hid (b0.trans (b1.mono b0.size))
 have y:=row_cell r0
 have y0:=y 0
 have y1:=y 1
 have z:=row_cell r1
 have z0:=z 0
 have z1:=z 1
 have z2:=z 2
 have z3:=z 3
 simp at y0 y1 z0 z1 z2 z3
 have yl:=row_lt r0
 have zl:=row_lt r1
 have zf:=fun j=>row_free r1 j
 have R1:=hid r1
 clear y z r0 r1 b0 b1
 go_wp2_with fail
 have rF:=row_set (row_set (row_set (row_set R1.out 0 (.int .i64 1)) 1 (.int .i64 x)) 2 (.slice none 0 0)) 3 (.slice none 0 0)
 have c:=row_cell rF
 have c0:=c 0
 have c1:=c 1
 have c2:=c 2
 have c3:=c 3
 simp at c0 c1 c2 c3
 refine bodyPost_ret (v:=.tuple #[scV x,.nilIface]) (by simp[results,Tryz.results42,go_sem,c0,c1,c2,c3,scV]) rfl ?_
 exact⟨rfl,(((B1.out.setCell (p:=⟨w.heap.size+1,0,none⟩) (Nat.le_succ _) _).setCell (p:=⟨w.heap.size+1,1,none⟩) (Nat.le_succ _) _).setCell (p:=⟨w.heap.size+1,2,none⟩) (Nat.le_succ _) _).setCell (p:=⟨w.heap.size+1,3,none⟩) (Nat.le_succ _) _⟩
theorem s_New (v:Value) (os:List Ob) (w:World) (h:Sl w w.heap.size 2 v os.length (os.flatMap Ob.cells)) (hr:RegOk os) (hW:WordsAt w):
  Calls Tryz.prog 14 #[v] w fun e w'=>∃v',e=.returned (.tuple #[.agg #[v'],.nilIface])∧OwnS w' w.heap.size v' (os.map (·.init))∧Below w.heap.size w w':=by
 obtain⟨a,c,rfl,hm⟩:=h.ex
 obtain⟨hr8,hro⟩:=hr
 have b0:Below w.heap.size w (w.alloc (.cells #[.slice none 0 0] 46)):=(Below.refl _ w).alloc (Nat.le_refl _) _
 have r0:=row_new w (.cells #[.slice none 0 0] 46)
 have hv:=hid (h_Valid (.slice a os.length c) (.slice none 0 0) os [] _ ((h.below b0).more b0.size) ⟨none,0,rfl,by simp,by simp,fun h=>by simp at h⟩ ⟨hr8,hro⟩ (by simp) (fun e he=>(nomatch he)) (hW.below b0))
 have hz0:(w.alloc (.cells #[.slice none 0 0] 46)).heap.size=w.heap.size+1:=by simp
 have H:=hid h
 have HW:=hid hW
 have HRO:=hid hro
 clear h hW hro
 go_enter Tryz.func14,Tryz.ntmps14
 go_wp2_with fail
 generalize w.alloc (.cells #[.slice none 0 0] 46)=W at *
 refine(hv.out).mono ?_
 rintro e W1 ⟨rfl,b1⟩
 have B1:=hid (b0.trans (b1.mono b0.size))
 have R1:=hid (row_below r0 b1 (row_lt r0))
 have hz1:w.heap.size+1≤W1.heap.size:=by have:=b1.size;omega
 clear r0 b0 b1 hz0 hv
 go_wp2_with fail
 have RL:=hid (row_new W1 (.cells #[.slice none 0 0] 44))
 have R2:=hid (row_old (o:=.cells #[.slice none 0 0] 44) R1.out)
 have B2:=hid (B1.out.alloc B1.out.size (.cells #[.slice none 0 0] 44))
 have hz2:=hid (show(W1.alloc (.cells #[.slice none 0 0] 44)).heap.size=W1.heap.size+1 by simp)
 generalize W1.alloc (.cells #[.slice none 0 0] 44)=W2 at *
 generalize W1.heap.size=bl at *
 go_loopw [19] (fun p wr=>∃(k:Nat) (u:Value),k≤os.length∧p=.int .i64 k∧wr.heap[w.heap.size]?=some (.cells #[.slice none 0 0] 46 (0,0))∧wr.heap[bl]?=some (.cells #[u] 44 (0,0))∧OwnS wr w.heap.size u ((os.take k).map (·.init))∧Below w.heap.size w wr) (fun p _=>os.length - (intOf p).toNat)
 case atStart=>exact⟨0,_,by omega,by go_num,R2.out,RL.out,OwnF.nil _ _,B2.out⟩
 case round=>
  obtain⟨k,u,hk,rfl,q0,ql,qo,qb⟩:=hrel
  clear R2 RL B2 R1 B1 hz2 W1 W2
  have hsz:=qb.size
  obtain⟨L,hL⟩:∃L,(os.take k).map (·.init)=L:=⟨_,rfl⟩
  rw[hL] at qo
  have hLk:=hid (show L.length=k by rw[←hL];simp;omega)
  have hLm:L.length≤8:=by have:=hLk.out;omega
  have HL:=hid hL
  clear hL
  obtain⟨au,cu,rfl,-⟩:=(OwnF.sl qo).ex
  have y0:=row_cell ql 0
  simp at y0
  have yl:=row_lt ql
  have Q0:=hid q0
  have QL:=hid ql
  have QO:=hid qo
  have QB:=hid qb
  clear q0 ql qo qb
  by_cases hlt:k < os.length
  ·have src:=(H.out.below QB.out).more hsz
   obtain⟨b,off,o,rfl,hb,hox,hc⟩:=src.atF Ob.len rfl hlt
   obtain⟨ok,o1,o2⟩:=HRO.out o (List.mem_of_getElem? hox)
   obtain⟨okd,x⟩:=o
   simp only at ok o1 o2
   subst ok
   have c0:wr.cell? ⟨b,off+k*2,none⟩=some (.int .i64 1):=hc 0 (by decide)
   have c1:wr.cell? ⟨b,off+k*2+1,none⟩=some (.int .i64 x):=hc 1 (by decide)
   have HX:=hid (show(os.take (k+1)).map (·.init)=L++[x] by rw[List.take_add_one,List.map_append,hox,HL.out];rfl)
   clear hc src hox
   have b3:Below wr.heap.size wr (wr.alloc (.cells #[.int .i64 1,.int .i64 x] 96)):=(Below.refl _ wr).alloc (Nat.le_refl _) _
   have r3:=row_new wr (.cells #[.int .i64 1,.int .i64 x] 96)
   go_wp2_with fail
   generalize wr.alloc (.cells #[.int .i64 1,.int .i64 x] 96)=W3 at *
   refine(sp_New x o1 o2 W3 (HW.out.below (QB.out.trans (b3.mono hsz)))).mono ?_
   rintro e W4 ⟨rfl,b4⟩
   have b34:=b3.trans (b4.mono b3.size)
   have b5:Below wr.heap.size wr (W4.alloc (.cells #[.int .i64 1,.int .i64 x,.slice none 0 0,.slice none 0 0] 99)):=b34.alloc b34.size _
   have r5:=row_new W4 (.cells #[.int .i64 1,.int .i64 x,.slice none 0 0,.slice none 0 0] 99)
   have hz4:=b34.size
   have rb:=row_below QL.out b5 yl
   have d0:=row_cell rb 0
   have e:=row_cell r5
   have e0:=e 0
   have e1:=e 1
   have e2:=e 2
   have e3:=e 3
   have QO5:=OwnF.below QO.out b5
   have zl5:=row_lt r5
   have zb5:=row_lt rb
   clear e r3 b3 b4 b34 r5 rb c0 c1 y0
   go_wp2_with fail
   generalize W4.alloc (.cells #[.int .i64 1,.int .i64 x,.slice none 0 0,.slice none 0 0] 99)=W5 at *
   have hz5:=b5.size
   refine(l_And _ _ x W5 (OwnF.sl QO5) (by omega)).mono ?_
   rintro e W6 ⟨v',rfl,o6,b6⟩
   obtain⟨a6,c6,hv6,-⟩:=(OwnF.sl o6).ex
   rw[show (L++[x]).length=L.length+1 by simp] at hv6
   subst hv6
   have b56:=b5.trans (b6.mono hz5)
   have rl6:=row_below QL.out b56 yl
   have r06:=row_below Q0.out b56 (row_lt Q0.out)
   have B6:=hid (QB.out.trans (b56.mono hsz))
   have yl6:=row_lt rl6
   have d6:=row_cell rl6 0
   simp at d6
   have f6:=row_free rl6 0
   have oF:=hid (OwnF.set (j:=0) (g:=bl) (u:=.slice a6 (L.length+1) c6) o6 (show bl < W5.heap.size by omega))
   have rlF:=hid (row_set rl6 0 (.slice a6 (L.length+1) c6))
   have r0F:=hid (row_other (j:=0) (v:=.slice a6 (L.length+1) c6) r06 (show bl≠w.heap.size by omega))
   have bF:=hid (B6.out.setCell (p:=⟨bl,0,none⟩) (by show w.heap.size≤bl;omega) (.slice a6 (L.length+1) c6))
   have oF:=hid (OwnF.base oF.out (show w.heap.size≤W5.heap.size by omega))
   clear QO5 b5 b6 b56 rl6 r06
   go_wp2_with fail
   refine⟨⟨k+1,_,by omega,by go_num,r0F.out,by simpa using rlF.out,?_,bF.out⟩,by simp[intOf];omega⟩
   rw[HX.out]
   exact oF.out
  ·obtain rfl:k=os.length:=by omega
   have hq:decide ((os.length:Int) < (os.length:Int))=false:=by simp
   have x0:=row_cell Q0.out 0
   simp at x0
   have xl:=row_lt Q0.out
   have xf:=row_free Q0.out 0
   have rF:=row_set Q0.out 0 (.slice au L.length cu)
   have hne:bl≠w.heap.size:=fun e=>by have:=Q0.out;rw[←e,QL.out] at this;simp at this
   have oo:=QO.out
   have hLe:=hid (show L=os.map (·.init) by rw[←HL.out,List.take_length])
   have oF:=OwnF.other (j:=0) oo (OwnF.neT oo Q0.out (by decide)) (.slice au L.length cu)
   have bF:=hid (QB.out.setCell (p:=⟨w.heap.size,0,none⟩) (Nat.le_refl _) (.slice au L.length cu))
   have oF:=hid oF
   have c0:=row_cell rF 0
   simp at c0
   clear oo rF
   go_wp2_with fail
   refine bodyPost_ret (v:=.tuple #[.agg #[.slice au L.length cu],.nilIface]) (by simp[results,Tryz.results14,go_sem,c0]) rfl ?_
   exact⟨_,rfl,hLe.out▸oF.out,bF.out⟩
end
