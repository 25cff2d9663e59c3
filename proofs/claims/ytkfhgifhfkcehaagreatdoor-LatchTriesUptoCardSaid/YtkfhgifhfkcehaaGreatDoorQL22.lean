/- Parts of the proof, merged by program out of 3 texts (StB, EvH, StC): the first: What a register answers. Conditions: those of each theorem, as typed. -/
import Derived.Test.YtkfhgifhfkcehaaGreatDoorQL05
import Derived.Test.YtkfhgifhfkcehaaGreatDoorQL21
import Derived.Test.YtkfhgifhfkcehaaGreatDoorQL18
import Derived.Deep.CutRange
import Derived.Shelf.Abstract
set_option linter.unusedVariables false
set_option linter.unusedSimpArgs false
set_option linter.unusedSectionVars false
set_option maxRecDepth 100000
set_option maxHeartbeats 4000000
namespace Go.Proofs.YtkfhgifhfkcehaaGreatDoor
open Go.Maps Go.RowKit Go.Shelf
section
attribute [local irreducible] wpL
abbrev fnV (f:FuncId):Value:=.func (.func f) #[] #[]
theorem dv_store {X:World} {bm:Nat} {M:Int→Option Value} (h:RawM X bm M) (k:Int) (v:Value):∃Y,Sem.run Tryz.prog (Instr.mapUpdate 162 (.map (some bm)) (.int .i64 k) v) X=.ok () Y∧RawM Y bm (rup M k (some v))∧X.mapTurned Y bm:=
 h.store Tryz.underlying3 Tryz.underlying162 k v
def DeedsRet (w:World) (e:Ending) (w':World):Prop:=∃bm M,e=.returned (.map (some bm))∧RawM w' bm M∧M 1=some (fnV 122)∧M 2=some (fnV 123)∧Below w.heap.size w w'∧w.heap.size≤bm
theorem sp_deeds (w:World):Calls Tryz.prog 82 #[] w (DeedsRet w):=by
 have hmk:∀X:World,Sem.run Tryz.prog (Instr.makeMap 162 none) X=.ok (.map (some X.heap.size)) (X.alloc (.map #[] 0)):=fun X=>by kernel_rfl
 have b0:Below w.heap.size w (w.alloc (.map #[] 0)):=(Below.refl _ w).alloc (Nat.le_refl _) _
 have h0:RawM (w.alloc (.map #[] 0)) w.heap.size (fun _=>none):=RawM.made (row_new w _)
 obtain⟨X1,r1,h1,t1⟩:=dv_store h0 1 (fnV 122)
 obtain⟨X2,r2,h2,t2⟩:=dv_store h1 4 (fnV 122)
 obtain⟨X3,r3,h3,t3⟩:=dv_store h2 2 (fnV 123)
 obtain⟨X4,r4,h4,t4⟩:=dv_store h3 3 (fnV 124)
 obtain⟨X5,r5,h5,t5⟩:=dv_store h4 5 (fnV 125)
 obtain⟨X6,r6,h6,t6⟩:=dv_store h5 6 (fnV 127)
 obtain⟨X7,r7,h7,t7⟩:=dv_store h6 7 (fnV 128)
 obtain⟨X8,r8,h8,t8⟩:=dv_store h7 8 (fnV 132)
 obtain⟨X9,r9,h9,t9⟩:=dv_store h8 9 (fnV 134)
 have tr:∀{X Y:World},X.mapTurned Y w.heap.size→Below w.heap.size w X→Below w.heap.size w Y:=fun ht hb=>hb.trans (Below.turned ht (Nat.le_refl _))
 have b9:=tr t9 (tr t8 (tr t7 (tr t6 (tr t5 (tr t4 (tr t3 (tr t2 (tr t1 b0))))))))
 have H9:=hid h9
 have B9:=hid b9
 clear h0 h1 h2 h3 h4 h5 h6 h7 h8 h9 b0 b9 t1 t2 t3 t4 t5 t6 t7 t8 t9 tr
 go_enter Tryz.func82,Tryz.ntmps82
 go_wp2_with fail
 go_ret
 refine⟨_,_,rfl,H9.out,?_,?_,B9.out,Nat.le_refl _⟩
 ·rw [rup_ne (by decide),rup_ne (by decide),rup_ne (by decide),rup_ne (by decide),rup_ne (by decide),rup_ne (by decide),rup_ne (by decide),rup_ne (by decide),rup_same]
 ·rw [rup_ne (by decide),rup_ne (by decide),rup_ne (by decide),rup_ne (by decide),rup_ne (by decide),rup_ne (by decide),rup_same]
theorem keeps4 {N g:Nat} (W:World) (hg:N≤g) (a b c d:Value):RN.KeepsN N W.drew ((((W.setCell ⟨g,0,none⟩ a).setCell ⟨g,1,none⟩ b).setCell ⟨g,2,none⟩ c).setCell ⟨g,3,none⟩ d).drew:=
 (((RN.KeepsN.set W ⟨g,0,none⟩ a hg).trans (RN.KeepsN.set _ ⟨g,1,none⟩ b hg)).trans (RN.KeepsN.set _ ⟨g,2,none⟩ c hg)).trans (RN.KeepsN.set _ ⟨g,3,none⟩ d hg)
theorem sp_read (x k v:Int) (w:World):Calls Tryz.prog 122 #[scV x,.int .i64 k,.int .i64 v] w fun e w'=>e=.returned (.tuple #[scV x,.int .i64 3,.int .i64 x])∧Below w.heap.size w w':=by
 go_enter Tryz.func122,Tryz.ntmps122
 go_wp2_with fail
 have b0:Below w.heap.size w ((w.alloc (.cells #[.int .i64 1,.int .i64 x,.slice none 0 0,.slice none 0 0] 99)).alloc (.cells #[.int .i64 0,.int .i64 0,.slice none 0 0,.slice none 0 0] 99)):=((Below.refl _ w).alloc (Nat.le_refl _) _).alloc (by simp) _
 have r0:=row_old (o:=.cells #[.int .i64 0,.int .i64 0,.slice none 0 0,.slice none 0 0] 99) (row_new w (.cells #[.int .i64 1,.int .i64 x,.slice none 0 0,.slice none 0 0] 99))
 have r1:=row_new (w.alloc (.cells #[.int .i64 1,.int .i64 x,.slice none 0 0,.slice none 0 0] 99)) (.cells #[.int .i64 0,.int .i64 0,.slice none 0 0,.slice none 0 0] 99)
 simp only[World.size_alloc] at r1
 generalize (w.alloc (.cells #[.int .i64 1,.int .i64 x,.slice none 0 0,.slice none 0 0] 99)).alloc (.cells #[.int .i64 0,.int .i64 0,.slice none 0 0,.slice none 0 0] 99)=W at *
 have y:=row_cell r0
 have y0:=y 0
 have y1:=y 1
 have y2:=y 2
 have y3:=y 3
 have z:=row_cell r1
 have z0:=z 0
 have z1:=z 1
 have z2:=z 2
 have z3:=z 3
 simp at y0 y1 y2 y3 z0 z1 z2 z3
 have zf:=fun j=>row_free r1 j
 have l0:=row_lt r0
 have l1:=row_lt r1
 have B0:=hid b0
 have R1:=hid r1
 clear y z r0 r1 b0
 refine wp_rN (w.heap.size+1) [1,0,1,3,0,0] (.fin [0,1,2,3,4,5]) (by kernel_rfl) ?_
 simp only[wpT,selX,guardAt,sD,sE,sF,sG]
 repeat first|(refine wpL_p fun K hK=>?_;go_simp;refine hK _ _ ?_;clear hK K)|(apply wpL_s;(intro w2 hw2;have hk1:=hw2.cell;have hk3:=hw2.1;clear hw2;go_simp;with_reducible rfl);simp only[Act.put,sA,sB,sC])
 refine wpL_k (fun K hK=>?_)
 go_simp
 refine hK _ _ (keeps4 W (Nat.le_refl _) _ _ _ _) ?_
 clear hK K
 repeat first|(refine wpL_p fun K hK=>?_;go_simp;refine hK _ _ ?_;clear hK K)|refine wpL_nil ?_
 have b1:Below w.heap.size w ((((W.setCell ⟨w.heap.size+1,0,none⟩ (.int .i64 1)).setCell ⟨w.heap.size+1,1,none⟩ (.int .i64 x)).setCell ⟨w.heap.size+1,2,none⟩ (.slice none 0 0)).setCell ⟨w.heap.size+1,3,none⟩ (.slice none 0 0)):=
  (((B0.out.setCell (p:=⟨w.heap.size+1,0,none⟩) (Nat.le_succ _) _).setCell (p:=⟨w.heap.size+1,1,none⟩) (Nat.le_succ _) _).setCell (p:=⟨w.heap.size+1,2,none⟩) (Nat.le_succ _) _).setCell (p:=⟨w.heap.size+1,3,none⟩) (Nat.le_succ _) _
 have r2:=row_set (row_set (row_set (row_set R1.out 0 (.int .i64 1)) 1 (.int .i64 x)) 2 (.slice none 0 0)) 3 (.slice none 0 0)
 have c:=row_cell r2
 have c0:=c 0
 have c1:=c 1
 have c2:=c 2
 have c3:=c 3
 simp at c0 c1 c2 c3
 go_wp2_with fail
 refine bodyPost_ret (v:=.tuple #[scV x,.int .i64 3,.int .i64 x]) (by simp[results,Tryz.results122,go_sem,c0,c1,c2,c3]) rfl ⟨rfl,b1.drew⟩
theorem sp_write (x k v:Int) (w:World):Calls Tryz.prog 123 #[scV x,.int .i64 k,.int .i64 v] w fun e w'=>e=.returned (.tuple #[scV v,.int .i64 1,.int .i64 0])∧Below w.heap.size w w':=by
 go_enter Tryz.func123,Tryz.ntmps123
 go_wp2_with fail
 refine bodyPost_ret (v:=.tuple #[scV v,.int .i64 1,.int .i64 0]) (by simp[results,Tryz.results123,go_sem]) rfl ⟨rfl,?_⟩
 exact((Below.refl _ w).alloc (Nat.le_refl _) _).alloc (by simp) _
def doR (x op val:Int):Int×Int×Int:=if op=2 then(val,1,0) else(x,3,x)
theorem keepsA {N g:Nat} (W:World) (hg:N≤g) (a b c d:Value):RN.KeepsN N W ((((W.setCell ⟨g,0,none⟩ a).setCell ⟨g,1,none⟩ b).setCell ⟨g,2,none⟩ c).setCell ⟨g,3,none⟩ d):=keeps4 W hg a b c d
theorem sp_Do (x op val:Int) (hop:op=1∧val=0∨op=2∧-1000000000≤val∧val≤1000000000) (w:World):
  Calls Tryz.prog 46 #[scV x,.int .i64 op,.int .i64 0,.int .i64 val] w fun e w'=>e=.returned (.tuple #[scV (doR x op val).1,.int .i64 (doR x op val).2.1,.int .i64 (doR x op val).2.2,.nilIface])∧Below w.heap.size w w':=by
 have hk:op=1∨op=2:=by omega
 have q1:(op==3)=false:=by rw[beq_eq_false_iff_ne];omega
 have q2:decide (val < -1000000000)=false:=by simp;omega
 have q3:decide (1000000000 < val)=false:=by simp;omega
 have hV:=fun X=>e_Valued op hk X
 have hK:=fun X=>e_Keyed op hk X
 have hO:=fun X=>e_Of op hk X
 have q4:(val !=0)=true→(op==2)=true:=fun h=>by rcases hop with h2|h2 <;> simp_all
 have b0:Below w.heap.size w ((w.alloc (.cells #[.int .i64 1,.int .i64 x,.slice none 0 0,.slice none 0 0] 99)).alloc (.cells #[.int .i64 0,.int .i64 0,.slice none 0 0,.slice none 0 0] 99)):=((Below.refl _ w).alloc (Nat.le_refl _) _).alloc (by simp) _
 have r0:=row_old (o:=.cells #[.int .i64 0,.int .i64 0,.slice none 0 0,.slice none 0 0] 99) (row_new w (.cells #[.int .i64 1,.int .i64 x,.slice none 0 0,.slice none 0 0] 99))
 have r1:=row_new (w.alloc (.cells #[.int .i64 1,.int .i64 x,.slice none 0 0,.slice none 0 0] 99)) (.cells #[.int .i64 0,.int .i64 0,.slice none 0 0,.slice none 0 0] 99)
 simp only[World.size_alloc] at r1
 have hz:((w.alloc (.cells #[.int .i64 1,.int .i64 x,.slice none 0 0,.slice none 0 0] 99)).alloc (.cells #[.int .i64 0,.int .i64 0,.slice none 0 0,.slice none 0 0] 99)).heap.size=w.heap.size+2:=by simp
 go_enter Tryz.func46,Tryz.ntmps46
 go_wp2_with fail
 generalize (w.alloc (.cells #[.int .i64 1,.int .i64 x,.slice none 0 0,.slice none 0 0] 99)).alloc (.cells #[.int .i64 0,.int .i64 0,.slice none 0 0,.slice none 0 0] 99)=W at *
 have y:=row_cell r0
 have y0:=y 0
 have y1:=y 1
 have y2:=y 2
 have y3:=y 3
 simp at y0 y1 y2 y3
 have l0:=row_lt r0
 have l1:=row_lt r1
 have B0:=hid b0
 have R0:=hid r0
 have R1:=hid r1
 clear y r0 r1 b0
 refine wp_rN (W.heap.size) [0,1,0,0,0,3,0,1,0,0] (.fin [0,1,2,3,4,6,7,5,8,9]) (by kernel_rfl) ?_
 simp only[wpT,selX,guardAt,sD,sE,sF,sG,Option.bind_some]
 repeat first|(refine wpL_p fun K hK=>?_;go_simp;refine hK _ _ ?_;clear hK K)|(apply wpL_s;(intro w2 hw2;have hk1:=hw2.cell;have hk3:=hw2.1;clear hw2;go_simp;with_reducible rfl);simp only[Act.put,sA,sB,sC])|refine wpL_yes rfl rfl ?_
 refine wpL_k (fun K hK'=>?_)
 go_simp
 refine(hO _).mono ?_
 rintro e w' ⟨rfl,rfl⟩
 refine hK' _ _ (RN.KeepsN.refl _ _) ?_
 clear hK' K
 repeat first|(refine wpL_p fun K hK=>?_;go_simp;refine hK _ _ ?_;clear hK K)|refine wpL_yes rfl rfl ?_|refine wpL_nil ?_
 go_upto_region 3 with fail
 go_cut [58] from 27 to 87 (fun c wx=>c=.bool false∧wx=W.drew)
 case first=>
  by_cases hv0:val=0
  ·subst hv0
   go_wp2_with fail
   go_meet
   case rel=>exact⟨rfl,rfl⟩
  ·have q5:(val !=0)=true:=by simpa using hv0
   have q6:=q4 q5
   go_wp2_with fail
   refine(hV _).mono ?_
   rintro e w' ⟨rfl,rfl⟩
   go_wp2_with fail
   go_meet
   case rel=>exact⟨rfl,rfl⟩
 case rest=>
 obtain⟨rfl,rfl⟩:=hcut
 clear q2 q3 q4 hV hK hO
 obtain⟨F,hent,hF,hC⟩:∃F:FuncId,(∀(args:Array Value) (w:World),Sem.run Tryz.prog (callFunc F args) w=.ok (.enter F args) w)∧(∀M:Int→Option Value,M 1=some (fnV 122)→M 2=some (fnV 123)→M op=some (fnV F))∧∀X:World,Calls Tryz.prog F #[scV x,.int .i64 0,.int .i64 val] X fun e w'=>e=.returned (.tuple #[scV (doR x op val).1,.int .i64 (doR x op val).2.1,.int .i64 (doR x op val).2.2])∧Below X.heap.size X w':=by
  rcases hop with⟨rfl,rfl⟩|⟨rfl,-⟩
  ·exact ⟨_,fun args w=>enters_of Tryz.func122 (by kernel_rfl) rfl args w,fun M h1 _=>h1,fun X=>sp_read x 0 0 X⟩
  ·exact ⟨_,fun args w=>enters_of Tryz.func123 (by kernel_rfl) rfl args w,fun M _ h2=>h2,fun X=>sp_write x 0 val X⟩
 generalize hD:doR x op val=D at hC
 obtain⟨D1,D2,D3⟩:=D
 have HD:=hid hD
 clear hD
 have hLk:=fun(X:World) (bm:Nat) (M:Int→Option Value) (h:RawM X bm M) (k:Int) (v:Value) (hv:M k=some v)=>(h.look (P:=Tryz.prog) (t:=162) Tryz.underlying3 Tryz.underlying162 (zv:=.nilFunc) (by kernel_rfl) k hv).1
 go_upto_region 7 with fail
 go_cut [12,13,14] from 74 to 87 (fun p r g wx=>∃b:Nat,p=.pointer (some ⟨b,0,none⟩)∧r=.int .i64 D2∧g=.int .i64 D3∧wx.heap[b]?=some (.cells #[.int .i64 1,.int .i64 D1,.slice none 0 0,.slice none 0 0] 99 (0,0))∧Below W.heap.size W wx)
 case first=>
  refine wp_rN (W.heap.size) [3,0,3,1,0,0,3,0,0,0,0,3,3,0,0] (.frk [1,3,4,5] (.frk [0] (.frk [2] (.fin [6,7,8,9,10,11,12,13,14]) (.fin [11,6,7,8,9,10,12,13,14])) (.fin [11,2,6,7,8,9,10,12,13,14])) (.fin [11,0,2,6,7,8,9,10,12,13,14])) (by kernel_rfl) ?_
  simp only[wpT,selX,guardAt,sD,sE,sF,sG]
  have bX:Below W.heap.size W W.drew:=(Below.refl _ W).drew
  repeat first|(refine wpL_p fun K hK=>?_;go_simp;refine hK _ _ ?_;clear hK K)|(apply wpL_s;(intro w2 hw2;have hk1:=hw2.cell;have hk3:=hw2.1;clear hw2;go_simp;with_reducible rfl);simp only[Act.put,sA,sB,sC])|refine wpL_nil ?_
  have bX:Below W.heap.size W W.drew.drew:=(Below.refl _ W).drew.drew
  generalize W.drew.drew=V at *
  refine⟨?_,?_⟩
  ·
   refine wpL_k (fun K hK'=>?_)
   go_simp
   refine(sp_deeds _).mono ?_
   rintro e X1 ⟨bm,M,rfl,hM,h1,h2,bd,-⟩
   refine hK' _ _ (RN.KeepsN.of_below (bd.mono bX.size)) ?_
   clear hK' K
   have bX:=bX.trans (bd.mono bX.size)
   clear bd
   repeat refine wpL_nil ?_
   refine⟨?_,?_⟩
   ·
    have hlk:=hLk _ bm M hM op _ (hF M h1 h2)
    refine wpL_k (fun K hK'=>?_)
    go_simp
    refine hK' _ _ (RN.KeepsN.refl _ _) ?_
    clear hK' K hlk
    repeat refine wpL_nil ?_
    refine⟨?_,?_⟩
    ·
     refine wpL_k (fun K hK'=>?_)
     go_simp
     refine(hC _).mono ?_
     rintro e X2 ⟨rfl,bd⟩
     refine hK' _ _ (RN.KeepsN.of_below (bd.mono bX.size)) ?_
     clear hK' K
     have bX:=bX.trans (bd.mono bX.size)
     clear bd
     repeat (refine wpL_p fun K hK=>?_;go_simp;refine hK _ _ ?_;clear hK K)
     refine wpL_k (fun K hK'=>?_)
     go_simp
     refine hK' _ _ (RN.KeepsN.alloc _ _ bX.size) ?_
     clear hK' K
     have rA:=row_new X2 (.cells #[.int .i64 0,.int .i64 0,.slice none 0 0,.slice none 0 0] 99)
     have ba:Below X2.heap.size X2 (X2.alloc (.cells #[.int .i64 0,.int .i64 0,.slice none 0 0,.slice none 0 0] 99)):=(Below.refl _ _).alloc (Nat.le_refl _) _
     have lA:=bX.size
     have bX:=bX.trans (ba.mono bX.size)
     clear ba
     generalize X2.alloc (.cells #[.int .i64 0,.int .i64 0,.slice none 0 0,.slice none 0 0] 99)=X3 at *
     generalize X2.heap.size=bA at *
     have y:=row_cell rA
     have z0:=y 0
     have z1:=y 1
     have z2:=y 2
     have z3:=y 3
     simp at z0 z1 z2 z3
     have zf:=fun j=>row_free rA j
     have zl:=row_lt rA
     have RA:=hid rA
     clear y rA
     refine wpL_k (fun K hK'=>?_)
     go_simp
     refine hK' _ _ (keepsA X3 lA _ _ _ _) ?_
     clear hK' K z0 z1 z2 z3 zf
     repeat first|(refine wpL_p fun K hK=>?_;go_simp;refine hK _ _ ?_;clear hK K)|refine wpL_nil ?_
     go_wp2_with fail
     go_meet
     case rel=>
      refine⟨bA,rfl,rfl,rfl,?_,(((bX.setCell (p:=⟨bA,0,none⟩) lA _).setCell (p:=⟨bA,1,none⟩) lA _).setCell (p:=⟨bA,2,none⟩) lA _).setCell (p:=⟨bA,3,none⟩) lA _⟩
      have:=row_set (row_set (row_set (row_set RA.out 0 (.int .i64 1)) 1 (.int .i64 D1)) 2 (.slice none 0 0)) 3 (.slice none 0 0)
      simpa using this
    ·
     refine wpL_k (fun K hK'=>?_)
     go_simp
     refine hK' _ _ (RN.KeepsN.alloc _ _ bX.size) ?_
     clear hK' K
     have rA:=row_new X1 (.cells #[.int .i64 0,.int .i64 0,.slice none 0 0,.slice none 0 0] 99)
     have ba:Below X1.heap.size X1 (X1.alloc (.cells #[.int .i64 0,.int .i64 0,.slice none 0 0,.slice none 0 0] 99)):=(Below.refl _ _).alloc (Nat.le_refl _) _
     have lA:=bX.size
     have bX:=bX.trans (ba.mono bX.size)
     clear ba
     generalize X1.alloc (.cells #[.int .i64 0,.int .i64 0,.slice none 0 0,.slice none 0 0] 99)=X2 at *
     generalize X1.heap.size=bA at *
     refine wpL_k (fun K hK'=>?_)
     go_simp
     refine(hC _).mono ?_
     rintro e X3 ⟨rfl,bd⟩
     refine hK' _ _ (RN.KeepsN.of_below (bd.mono bX.size)) ?_
     clear hK' K
     have bX:=bX.trans (bd.mono bX.size)
     have rA:=row_below rA bd (row_lt rA)
     clear bd
     repeat (refine wpL_p fun K hK=>?_;go_simp;refine hK _ _ ?_;clear hK K)
     have y:=row_cell rA
     have z0:=y 0
     have z1:=y 1
     have z2:=y 2
     have z3:=y 3
     simp at z0 z1 z2 z3
     have zf:=fun j=>row_free rA j
     have zl:=row_lt rA
     have RA:=hid rA
     clear y rA
     refine wpL_k (fun K hK'=>?_)
     go_simp
     refine hK' _ _ (keepsA X3 lA _ _ _ _) ?_
     clear hK' K z0 z1 z2 z3 zf
     repeat first|(refine wpL_p fun K hK=>?_;go_simp;refine hK _ _ ?_;clear hK K)|refine wpL_nil ?_
     go_wp2_with fail
     go_meet
     case rel=>
      refine⟨bA,rfl,rfl,rfl,?_,(((bX.setCell (p:=⟨bA,0,none⟩) lA _).setCell (p:=⟨bA,1,none⟩) lA _).setCell (p:=⟨bA,2,none⟩) lA _).setCell (p:=⟨bA,3,none⟩) lA _⟩
      have:=row_set (row_set (row_set (row_set RA.out 0 (.int .i64 1)) 1 (.int .i64 D1)) 2 (.slice none 0 0)) 3 (.slice none 0 0)
      simpa using this
   ·
    refine wpL_k (fun K hK'=>?_)
    go_simp
    refine hK' _ _ (RN.KeepsN.alloc _ _ bX.size) ?_
    clear hK' K
    have rA:=row_new X1 (.cells #[.int .i64 0,.int .i64 0,.slice none 0 0,.slice none 0 0] 99)
    have ba:Below X1.heap.size X1 (X1.alloc (.cells #[.int .i64 0,.int .i64 0,.slice none 0 0,.slice none 0 0] 99)):=(Below.refl _ _).alloc (Nat.le_refl _) _
    have lA:=bX.size
    have bX:=bX.trans (ba.mono bX.size)
    have hM:=hM.below ba hM.lt
    clear ba
    generalize X1.alloc (.cells #[.int .i64 0,.int .i64 0,.slice none 0 0,.slice none 0 0] 99)=X2 at *
    generalize X1.heap.size=bA at *
    have hlk:=hLk _ bm M hM op _ (hF M h1 h2)
    refine wpL_k (fun K hK'=>?_)
    go_simp
    refine hK' _ _ (RN.KeepsN.refl _ _) ?_
    clear hK' K hlk
    refine wpL_k (fun K hK'=>?_)
    go_simp
    refine(hC _).mono ?_
    rintro e X3 ⟨rfl,bd⟩
    refine hK' _ _ (RN.KeepsN.of_below (bd.mono bX.size)) ?_
    clear hK' K
    have bX:=bX.trans (bd.mono bX.size)
    have rA:=row_below rA bd (row_lt rA)
    clear bd
    repeat (refine wpL_p fun K hK=>?_;go_simp;refine hK _ _ ?_;clear hK K)
    have y:=row_cell rA
    have z0:=y 0
    have z1:=y 1
    have z2:=y 2
    have z3:=y 3
    simp at z0 z1 z2 z3
    have zf:=fun j=>row_free rA j
    have zl:=row_lt rA
    have RA:=hid rA
    clear y rA
    refine wpL_k (fun K hK'=>?_)
    go_simp
    refine hK' _ _ (keepsA X3 lA _ _ _ _) ?_
    clear hK' K z0 z1 z2 z3 zf
    repeat first|(refine wpL_p fun K hK=>?_;go_simp;refine hK _ _ ?_;clear hK K)|refine wpL_nil ?_
    go_wp2_with fail
    go_meet
    case rel=>
     refine⟨bA,rfl,rfl,rfl,?_,(((bX.setCell (p:=⟨bA,0,none⟩) lA _).setCell (p:=⟨bA,1,none⟩) lA _).setCell (p:=⟨bA,2,none⟩) lA _).setCell (p:=⟨bA,3,none⟩) lA _⟩
     have:=row_set (row_set (row_set (row_set RA.out 0 (.int .i64 1)) 1 (.int .i64 D1)) 2 (.slice none 0 0)) 3 (.slice none 0 0)
     simpa using this
  ·
   refine wpL_k (fun K hK'=>?_)
   go_simp
   refine hK' _ _ (RN.KeepsN.alloc _ _ bX.size) ?_
   clear hK' K
   have rA:=row_new V (.cells #[.int .i64 0,.int .i64 0,.slice none 0 0,.slice none 0 0] 99)
   have ba:Below V.heap.size V (V.alloc (.cells #[.int .i64 0,.int .i64 0,.slice none 0 0,.slice none 0 0] 99)):=(Below.refl _ _).alloc (Nat.le_refl _) _
   have lA:=bX.size
   have bX:=bX.trans (ba.mono bX.size)
   clear ba
   generalize V.alloc (.cells #[.int .i64 0,.int .i64 0,.slice none 0 0,.slice none 0 0] 99)=X1 at *
   generalize V.heap.size=bA at *
   refine wpL_k (fun K hK'=>?_)
   go_simp
   refine(sp_deeds _).mono ?_
   rintro e X2 ⟨bm,M,rfl,hM,h1,h2,bd,-⟩
   refine hK' _ _ (RN.KeepsN.of_below (bd.mono bX.size)) ?_
   clear hK' K
   have bX:=bX.trans (bd.mono bX.size)
   have rA:=row_below rA bd (row_lt rA)
   clear bd
   have hlk:=hLk _ bm M hM op _ (hF M h1 h2)
   refine wpL_k (fun K hK'=>?_)
   go_simp
   refine hK' _ _ (RN.KeepsN.refl _ _) ?_
   clear hK' K hlk
   refine wpL_k (fun K hK'=>?_)
   go_simp
   refine(hC _).mono ?_
   rintro e X3 ⟨rfl,bd⟩
   refine hK' _ _ (RN.KeepsN.of_below (bd.mono bX.size)) ?_
   clear hK' K
   have bX:=bX.trans (bd.mono bX.size)
   have rA:=row_below rA bd (row_lt rA)
   clear bd
   repeat (refine wpL_p fun K hK=>?_;go_simp;refine hK _ _ ?_;clear hK K)
   have y:=row_cell rA
   have z0:=y 0
   have z1:=y 1
   have z2:=y 2
   have z3:=y 3
   simp at z0 z1 z2 z3
   have zf:=fun j=>row_free rA j
   have zl:=row_lt rA
   have RA:=hid rA
   clear y rA
   refine wpL_k (fun K hK'=>?_)
   go_simp
   refine hK' _ _ (keepsA X3 lA _ _ _ _) ?_
   clear hK' K z0 z1 z2 z3 zf
   repeat first|(refine wpL_p fun K hK=>?_;go_simp;refine hK _ _ ?_;clear hK K)|refine wpL_nil ?_
   go_wp2_with fail
   go_meet
   case rel=>
    refine⟨bA,rfl,rfl,rfl,?_,(((bX.setCell (p:=⟨bA,0,none⟩) lA _).setCell (p:=⟨bA,1,none⟩) lA _).setCell (p:=⟨bA,2,none⟩) lA _).setCell (p:=⟨bA,3,none⟩) lA _⟩
    have:=row_set (row_set (row_set (row_set RA.out 0 (.int .i64 1)) 1 (.int .i64 D1)) 2 (.slice none 0 0)) 3 (.slice none 0 0)
    simpa using this
 case rest=>
 obtain⟨b,rfl,rfl,rfl,hb,hB⟩:=hcut
 have r1:=row_below R1.out hB l1
 have y:=row_cell hb
 have y0:=y 0
 have y1:=y 1
 have y2:=y 2
 have y3:=y 3
 have z:=row_cell r1
 have z0:=z 0
 have z1:=z 1
 have z2:=z 2
 have z3:=z 3
 simp at y0 y1 y2 y3 z0 z1 z2 z3
 have zf:=fun j=>row_free r1 j
 have zl:=row_lt r1
 have hbl:=row_lt hb
 have RZ:=hid r1
 have BZ:=hid (B0.out.trans (hB.mono (by omega)))
 clear y z r1 hb
 go_wp2_with fail
 have hf:=row_cell (row_set (row_set (row_set (row_set RZ.out 0 (.int .i64 1)) 1 (.int .i64 D1)) 2 (.slice none 0 0)) 3 (.slice none 0 0))
 have c0:=hf 0
 have c1:=hf 1
 have c2:=hf 2
 have c3:=hf 3
 simp at c0 c1 c2 c3
 refine bodyPost_ret (v:=.tuple #[scV D1,.int .i64 D2,.int .i64 D3,.nilIface]) (by simp[results,Tryz.results46,go_sem,c0,c1,c2,c3]) rfl ⟨by rw[HD.out],?_⟩
 exact(((BZ.out.setCell (p:=⟨w.heap.size+1,0,none⟩) (Nat.le_succ _) _).setCell (p:=⟨w.heap.size+1,1,none⟩) (Nat.le_succ _) _).setCell (p:=⟨w.heap.size+1,2,none⟩) (Nat.le_succ _) _).setCell (p:=⟨w.heap.size+1,3,none⟩) (Nat.le_succ _) _
end
section
attribute [local irreducible] wpL
def RegOk (os:List Ob):Prop:=os.length≤8∧∀o ∈ os,o.kind=1∧-1000000000≤o.init∧o.init≤1000000000
theorem h_Valid (ov vv:Value) (os:List Ob) (es:List Ev) (w:World) (ho:Sl w w.heap.size 2 ov os.length (os.flatMap Ob.cells)) (he:Sl w w.heap.size 8 vv es.length (es.flatMap Ev.cells)) (hr:RegOk os) (hel:es.length≤400) (hes:∀e ∈ es,EvOk os.length e) (hW:WordsAt w):
  Calls Tryz.prog 41 #[.agg #[ov,vv]] w (ValRet w):=by
 obtain⟨ao,co,rfl,mo⟩:=ho.ex
 obtain⟨ae,ce,rfl,me⟩:=he.ex
 obtain⟨hr8,hro⟩:=hr
 have HO:=hid ho
 have HE:=hid he
 have HR:=hid hro
 have HES:=hid hes
 have HW:=hid hW
 have b0:Below w.heap.size w (w.alloc (.cells #[.slice ao os.length co,.slice ae es.length ce] 37)):=(Below.refl _ w).alloc (Nat.le_refl _) _
 have r0:=row_new w (.cells #[.slice ao os.length co,.slice ae es.length ce] 37)
 clear ho he hro hes hW
 have q1:decide (8 < os.length)=false:=by simp;omega
 have q2:decide (400 < es.length)=false:=by simp;omega
 go_enter Tryz.func41,Tryz.ntmps41
 go_wp2_with fail
 have hz0:w.heap.size < (w.alloc (.cells #[.slice ao os.length co,.slice ae es.length ce] 37)).heap.size:=by simp
 generalize w.alloc (.cells #[.slice ao os.length co,.slice ae es.length ce] 37)=W at *
 have R0:=hid r0
 have B0:=hid b0
 clear r0 b0
 go_loopw [23] (fun p wr=>∃i:Nat,i≤os.length∧p=.int .i64 i∧Below W.heap.size W wr) (fun p _=>os.length - (intOf p).toNat)
 case atStart=>exact⟨0,by omega,by go_num,Below.refl _ _⟩
 case round=>
  obtain⟨i,hi,rfl,hB⟩:=hrel
  have hz:=hB.size
  have HB:=hid hB
  clear hB
  by_cases hlt:i < os.length
  ·obtain ⟨b,off,x,hat,hb,hx,hc⟩:=HO.out.atF Ob.len rfl hlt
   have c0:=cell_below ((B0.out.trans (HB.out.mono (by omega)))) hb (hc 0 (by decide))
   have c1:=cell_below ((B0.out.trans (HB.out.mono (by omega)))) hb (hc 1 (by decide))
   obtain⟨hk,hn1,hn2⟩:=HR.out x (List.mem_of_getElem? hx)
   obtain⟨xk,xn⟩:=x
   simp only at hk hn1 hn2
   subst hk
   simp at c0 c1
   have hbw:b < wr.heap.size:=by omega
   subst hat
   have HX:=hid hx
   clear hx hc
   have bz:Below wr.heap.size wr (wr.alloc (.cells #[.int .i64 1,.int .i64 xn] 96)):=(Below.refl _ wr).alloc (Nat.le_refl _) _
   have hv:=hid (e_ValidObject xn hn1 hn2 (wr.alloc (.cells #[.int .i64 1,.int .i64 xn] 96)) ((HW.out.below B0.out).below (HB.out.trans (bz.mono hz))))
   have BZ:=hid bz
   clear bz hn1 hn2
   go_wp2_with fail
   generalize wr.alloc (.cells #[.int .i64 1,.int .i64 xn] 96)=W1 at *
   refine(hv.out).mono ?_
   rintro e W2 ⟨he,b2⟩
   subst he
   have B2:=hid ((HB.out.trans (BZ.out.mono hz)).trans (b2.mono (by have:=BZ.out.size;omega)))
   clear b2 hv
   go_wp2_with fail
   go_roundw
   case rel=>exact⟨i+1,by omega,by go_num,B2.out⟩
   case measure=>simp[intOf];omega
  ·obtain rfl:i=os.length:=by omega
   have r0:=row_below R0.out HB.out hz0
   have y0:=row_cell r0 0
   have y1:=row_cell r0 1
   simp at y0 y1
   have l0:=row_lt r0
   clear r0
   go_wp2_with fail
   have B1:=hid (B0.out.trans (HB.out.mono (by omega)))
   have hz1:W.heap.size≤wr.heap.size:=hz
   obtain⟨W2,rfl⟩:∃W2,W2=wr:=⟨_,rfl⟩
   have R1:=hid (row_below R0.out HB.out hz0)
   clear y0 y1 l0 R0 HB hz hi B0
   go_loopw [39] (fun p wr=>∃i:Nat,i≤es.length∧p=.int .i64 i∧Below W2.heap.size W2 wr) (fun p _=>es.length - (intOf p).toNat)
   case atStart=>exact⟨0,by omega,by go_num,Below.refl _ _⟩
   case round=>
    obtain⟨i,hi,rfl,hB⟩:=hrel
    have hz:=hB.size
    have HB:=hid hB
    clear hB
    by_cases hlt:i < es.length
    ·obtain ⟨b,off,x,hat,hb,hx,hc⟩:=HE.out.atF Ev.len rfl hlt
     have BW:=hid (B1.out.trans (HB.out.mono (by omega)))
     have c0:=cell_below BW.out hb (hc 0 (by decide))
     have c1:=cell_below BW.out hb (hc 1 (by decide))
     have c2:=cell_below BW.out hb (hc 2 (by decide))
     have c3:=cell_below BW.out hb (hc 3 (by decide))
     have c4:=cell_below BW.out hb (hc 4 (by decide))
     have c5:=cell_below BW.out hb (hc 5 (by decide))
     have c6:=cell_below BW.out hb (hc 6 (by decide))
     have c7:=cell_below BW.out hb (hc 7 (by decide))
     have hok:=HES.out x (List.mem_of_getElem? hx)
     have HOK:=hid hok
     obtain⟨xk,xx,xh,xj,xo,xy,xv,xr⟩:=x
     simp at c0 c1 c2 c3 c4 c5 c6 c7
     have hbw:b < wr.heap.size:=by omega
     subst hat
     clear hx hc hok
     have bz:Below wr.heap.size wr (wr.alloc (.cells #[.int .i64 xk,.int .i64 xx,.int .i64 xh,.int .i64 xj,.int .i64 xo,.int .i64 xy,.int .i64 xv,.int .i64 xr] 53)):=(Below.refl _ wr).alloc (Nat.le_refl _) _
     have rz:=row_new wr (.cells #[.int .i64 xk,.int .i64 xx,.int .i64 xh,.int .i64 xj,.int .i64 xo,.int .i64 xy,.int .i64 xv,.int .i64 xr] 53)
     have hv:=hid (e_Valid ⟨xk,xx,xh,xj,xo,xy,xv,xr⟩ _ HOK.out (wr.alloc (.cells #[.int .i64 xk,.int .i64 xx,.int .i64 xh,.int .i64 xj,.int .i64 xo,.int .i64 xy,.int .i64 xv,.int .i64 xr] 53)) ((HW.out.below B1.out).below (HB.out.trans (bz.mono hz))))
     have BZ:=hid bz
     have RZ:=hid rz
     clear bz rz
     go_wp2_with fail
     generalize wr.alloc (.cells #[.int .i64 xk,.int .i64 xx,.int .i64 xh,.int .i64 xj,.int .i64 xo,.int .i64 xy,.int .i64 xv,.int .i64 xr] 53)=W3 at *
     refine(hv.out).mono ?_
     rintro e W4 ⟨he,b2⟩
     subst he
     have hz3:=BZ.out.size
     have B2:=hid ((HB.out.trans (BZ.out.mono hz)).trans (b2.mono (by omega)))
     have BX:=hid (BW.out.trans ((BZ.out.trans (b2.mono hz3)).mono (by omega)))
     have r4:=row_below RZ.out b2 (row_lt RZ.out)
     have l4:=row_lt r4
     have y:=row_cell r4
     have y0:=y 0
     have y3:=y 3
     have y4:=y 4
     simp at y0 y3 y4
     have rh:=row_below R1.out B2.out (row_lt R1.out)
     have lh:=row_lt rh
     have h0:=row_cell rh 0
     simp at h0
     clear y r4 b2 hv c0 c1 c2 c3 c4 c5 c6 c7 rh
     by_cases hk:xk=2
     ·subst hk
      have hcall:∃c:Nat,c < os.length∧xj=c∧(xo=1∨xo=2):=by
       rcases HOK.out.form with⟨i,h1,h2,h⟩|⟨c,h1,h2,h⟩|⟨c,v,h1,h2,h3,h4,h⟩|h|⟨v,h3,h4,h⟩|⟨k,hk,h⟩ <;> simp only[Ev.mk.injEq,true_and] at h
       ·exact absurd h.1 (by decide)
       ·exact ⟨c,h1,h.2.1,.inl h.2.2.1⟩
       ·exact ⟨c,h1,h.2.1,.inr h.2.2.1⟩
       ·exact absurd h.1 (by decide)
       ·exact absurd h.1 (by decide)
       ·omega
      obtain⟨c,hcl,rfl,hop⟩:=hcall
      obtain⟨b',off',o,hat',hb',hx',hc'⟩:=HO.out.atF Ob.len rfl hcl
      have k0:=cell_below BX.out hb' (hc' 0 (by decide))
      obtain⟨hk1,-⟩:=HR.out o (List.mem_of_getElem? hx')
      obtain⟨ok,on⟩:=o
      simp only at hk1
      subst hk1
      simp at k0
      have hzB:=BX.out.size
      have hbw':b' < W4.heap.size:=by omega
      have q5:decide (os.length≤c)=false:=by simp;omega
      subst hat'
      clear hx' hc'
      go_wp2_with fail
      have Z4:=hid (Below.refl W4.heap.size W4)
      refine wp_rN (W4.heap.size) [0,1,3,0,1,0,1,0,0,1,0] (.fin [0,1,3,4,5,6,7,8,9,2,10]) (by kernel_rfl) ?_
      simp only[wpT,selX,guardAt,sD,sE,sF,sG]
      repeat first|(refine wpL_p fun K hK=>?_;go_simp;refine hK _ _ ?_;clear hK K)|(apply wpL_s;(intro w2 hw2;have hk1:=hw2.cell;have hk3:=hw2.1;clear hw2;go_simp;with_reducible rfl);simp only[Act.put,sA,sB,sC])
      refine wpL_k (fun K hK=>?_)
      go_simp
      refine(e_Of xo hop _).mono ?_
      rintro e W5 ⟨he,hw5⟩
      subst he
      refine hK _ _ (by rw[hw5];exact RN.KeepsN.of_below (Below.refl _ _)) ?_
      clear hK K
      rw[hw5]
      clear hw5 W5
      repeat first|(refine wpL_p fun K hK=>?_;go_simp;refine hK _ _ ?_;clear hK K)|refine wpL_nil ?_
      go_wp2_with fail
      go_roundw
      case rel=>exact⟨i+1,by omega,by go_num,B2.out.drew⟩
      case measure=>simp[intOf];omega
     ·have q5:(xk==2)=false:=by simpa using hk
      have q6:(xk !=2)=true:=by simpa using hk
      go_wp2_with fail
      go_roundw
      case rel=>exact⟨i+1,by omega,by go_num,B2.out⟩
      case measure=>simp[intOf];omega
    ·obtain rfl:i=es.length:=by omega
     go_wp2
     go_ret
     exact⟨rfl,B1.out.trans (HB.out.mono B1.out.size)⟩
end
section
attribute [local irreducible] wpL
theorem OwnF.ofRow {α:Type} {f:α→List Value} {e:TypeId} {sz B g n:Nat} {w:World} {l:List α} (h:w.heap[g]?=some (.cells (l.flatMap f).toArray e (0,0))) (hB:B≤g) (hn:l.length=n) (hl:(l.flatMap f).length=n*sz) (hm:n≤maxLen):OwnF f e sz w B (.slice (some ⟨g,0,none⟩) n n) l:=by
 subst hn
 exact⟨hl,.inr ⟨g,_,_,rfl,hB,h,Nat.le_refl _,hm,by simpa using hl,show List.take (l.length*sz) (l.flatMap f)=l.flatMap f from List.take_of_length_le (Nat.le_of_eq hl)⟩⟩
theorem st_At (v:Value) (σ:List Int) (i:Nat) (x:Int) (w:World) (h:SlS w w.heap.size v σ) (hx:σ[i]?=some x):
  Calls Tryz.prog 45 #[stV v,.int .i64 i] w fun e w'=>e=.returned (.tuple #[scV x,.bool true])∧Below w.heap.size w w':=by
 obtain⟨a,c,rfl,hm⟩:=h.ex
 have b0:Below w.heap.size w ((w.alloc (.cells #[.slice a σ.length c] 46)).alloc (.cells #[.int .i64 0,.int .i64 0,.slice none 0 0,.slice none 0 0] 99)):=((Below.refl _ w).alloc (Nat.le_refl _) _).alloc (by simp) _
 have r1:=row_new (w.alloc (.cells #[.slice a σ.length c] 46)) (.cells #[.int .i64 0,.int .i64 0,.slice none 0 0,.slice none 0 0] 99)
 have hz:((w.alloc (.cells #[.slice a σ.length c] 46)).alloc (.cells #[.int .i64 0,.int .i64 0,.slice none 0 0,.slice none 0 0] 99)).heap.size=w.heap.size+2:=by simp
 simp only[World.size_alloc] at r1
 go_enter Tryz.func45,Tryz.ntmps45
 go_wp2_with fail
 generalize (w.alloc (.cells #[.slice a σ.length c] 46)).alloc (.cells #[.int .i64 0,.int .i64 0,.slice none 0 0,.slice none 0 0] 99)=W at *
 refine(l_At _ σ i x W ((h.below b0).more b0.size) hx).mono ?_
 rintro e W1 ⟨rfl,b1⟩
 have r1:=row_below r1 b1 (by omega)
 have z:=row_cell r1
 have z0:=z 0
 have z1:=z 1
 have z2:=z 2
 have z3:=z 3
 simp at z0 z1 z2 z3
 have zf:=fun j=>row_free r1 j
 have zl:=row_lt r1
 have RZ:=hid r1
 have BZ:=hid (b0.trans (b1.mono (by omega)))
 clear z r1 b1 b0 h
 go_wp2_with fail
 have hf:=row_cell (row_set (row_set (row_set (row_set RZ.out 0 (.int .i64 1)) 1 (.int .i64 x)) 2 (.slice none 0 0)) 3 (.slice none 0 0))
 have c0:=hf 0
 have c1:=hf 1
 have c2:=hf 2
 have c3:=hf 3
 simp at c0 c1 c2 c3
 refine bodyPost_ret (v:=.tuple #[scV x,.bool true]) (by simp[results,Tryz.results45,go_sem,c0,c1,c2,c3]) rfl ⟨rfl,?_⟩
 exact(((BZ.out.setCell (p:=⟨w.heap.size+1,0,none⟩) (Nat.le_succ _) _).setCell (p:=⟨w.heap.size+1,1,none⟩) (Nat.le_succ _) _).setCell (p:=⟨w.heap.size+1,2,none⟩) (Nat.le_succ _) _).setCell (p:=⟨w.heap.size+1,3,none⟩) (Nat.le_succ _) _
theorem st_Do (v:Value) (σ:List Int) (i:Nat) (x op val:Int) (w:World) (h:SlS w w.heap.size v σ) (hl:σ.length≤1000) (hx:σ[i]?=some x) (hop:op=1∧val=0∨op=2∧-1000000000≤val∧val≤1000000000):
  Calls Tryz.prog 18 #[stV v,.int .i64 i,.int .i64 op,.int .i64 0,.int .i64 val] w fun e w'=>∃v',e=.returned (.tuple #[stV v',.int .i64 (doR x op val).2.1,.int .i64 (doR x op val).2.2,.nilIface])∧OwnS w' w.heap.size v' (σ.set i (doR x op val).1)∧Below w.heap.size w w':=by
 obtain⟨a,c,rfl,hm⟩:=h.ex
 have hDo:=fun X=>sp_Do x op val hop X
 have hil:=(List.getElem?_eq_some_iff.1 hx).1
 generalize doR x op val=D at *
 obtain⟨D1,D2,D3⟩:=D
 have b0:Below w.heap.size w ((w.alloc (.cells #[.slice a σ.length c] 46)).alloc (.cells #[.slice none 0 0] 46)):=((Below.refl _ w).alloc (Nat.le_refl _) _).alloc (by simp) _
 have r0:=row_old (o:=.cells #[.slice none 0 0] 46) (row_new w (.cells #[.slice a σ.length c] 46))
 have r1:=row_new (w.alloc (.cells #[.slice a σ.length c] 46)) (.cells #[.slice none 0 0] 46)
 have hz:((w.alloc (.cells #[.slice a σ.length c] 46)).alloc (.cells #[.slice none 0 0] 46)).heap.size=w.heap.size+2:=by simp
 simp only[World.size_alloc] at r1
 go_enter Tryz.func18,Tryz.ntmps18
 go_wp2_with fail
 generalize (w.alloc (.cells #[.slice a σ.length c] 46)).alloc (.cells #[.slice none 0 0] 46)=W at *
 refine(st_At _ σ i x W ((h.below b0).more b0.size) hx).mono ?_
 rintro e W1 ⟨rfl,b1⟩
 have hz1:=b1.size
 have b1:Below W.heap.size W (W1.alloc (.cells #[.int .i64 1,.int .i64 x,.slice none 0 0,.slice none 0 0] 99)):=b1.alloc hz1 _
 have R0:=hid r0
 have R1:=hid r1
 have B0:=hid b0
 have B1:=hid b1
 clear r0 r1 b0 b1
 go_wp2_with fail
 refine(hDo _).mono ?_
 rintro e W2 ⟨rfl,b2⟩
 have b2:Below W.heap.size W W2:=B1.out.trans (b2.mono (B1.out.size))
 have hz2:=b2.size
 have y0:=row_cell (row_below R0.out b2 (by omega)) 0
 simp at y0
 have b3:Below W.heap.size W (W2.alloc (.cells #[.int .i64 1,.int .i64 D1,.slice none 0 0,.slice none 0 0] 99)):=b2.alloc hz2 _
 have yl:w.heap.size < W2.heap.size:=by omega
 have B3:=hid b3
 clear b2 b3
 go_wp2_with fail
 refine(l_With _ σ i D1 _ (((h.below B0.out).more B0.out.size).below B3.out |>.more B3.out.size) hl hil).mono ?_
 rintro e W3 ⟨v',rfl,o3,b3⟩
 obtain⟨a',c',rfl,-⟩:=(OwnF.sl o3).ex
 have b3:Below W.heap.size W W3:=B3.out.trans (b3.mono B3.out.size)
 have hz3:=b3.size
 have r1:=row_below R1.out b3 (by omega)
 have z0:=row_cell r1 0
 simp at z0
 have zf:=row_free r1 0
 have zl:=row_lt r1
 have o4:=OwnF.set (j:=0) (u:=.slice a' σ.length c') (g:=w.heap.size+1) (OwnF.base o3 (show W.heap.size≤_ from B3.out.size)) (by omega)
 have R3:=hid (row_set r1 0 (.slice a' σ.length c'))
 have B4:=hid ((B0.out.trans (b3.mono (by omega))).setCell (p:=⟨w.heap.size+1,0,none⟩) (show w.heap.size≤w.heap.size+1 by omega) (.slice a' σ.length c'))
 simp only[List.length_set] at o4 R3 B4
 clear r1 o3 b3
 go_wp2_with fail
 have c0:=row_cell R3.out 0
 simp at c0
 refine bodyPost_ret (v:=.tuple #[stV (.slice a' σ.length c'),.int .i64 D2,.int .i64 D3,.nilIface]) (by simp[results,Tryz.results18,go_sem,c0]) rfl ?_
 exact⟨_,rfl,OwnF.base o4 (by omega),B4.out⟩
end
