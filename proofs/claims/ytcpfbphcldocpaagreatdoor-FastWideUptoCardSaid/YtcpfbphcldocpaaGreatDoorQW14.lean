/- Parts of the proof. Conditions: those of each theorem, as typed. -/
import Derived.Test.YtcpfbphcldocpaaGreatDoorQW13
import Derived.Test.YtcpfbphcldocpaaGreatDoorQW06
import Derived.Test.YtcpfbphcldocpaaGreatDoorQW03
import Derived.Deep.CutRange
import Derived.Shelf.Abstract
import Derived.Lib.ItoaNum
import Derived.Lib.Join
import Derived.Test.YtcpfbphcldocpaaGreatDoorChecked
import Derived.Test.YtcpfbphcldocpaaGreatDoorQW12
set_option linter.unusedVariables false
set_option linter.unusedSimpArgs false
set_option linter.unusedSectionVars false
set_option maxRecDepth 100000
set_option maxHeartbeats 4000000
namespace Go.Proofs.YtcpfbphcldocpaaGreatDoor
open Go.MapKept Go.Maps Go.RowKit Go.Shelf
open Go.Lib (decDigits decDigits_length itoa join nDigits nDigits_big nDigits_pos nDigits_small)
section
attribute [local irreducible] xE
abbrev Mo (f:FuncId):Value:=.func (.func f) #[] #[]
theorem jk {X:World} {bm:Nat} {M:Int->Option Value} (h:qS X bm M) (k:Int) (v:Value):∃Y,Sem.run Tryz.prog (Instr.mapUpdate 191 (.map (some bm)) (.int .i64 k) v) X=.ok () Y/\qS Y bm (VM M k (some v))/\X.mapTurned Y bm:=
 h.store Tryz.underlying3 Tryz.underlying191 k v
def qdz (w:World) (e:Ending) (w':World):Prop:=∃bm M,e=.returned (.map (some bm))/\qS w' bm M/\M 1=some (Mo 133)/\M 2=some (Mo 134)/\Below w.heap.size w w'/\w.heap.size<=bm
theorem WR (w:World):Calls Tryz.prog 91 #[] w (qdz w):=by
 have hmk:∀X:World,Sem.run Tryz.prog (Instr.makeMap 191 none) X=.ok (.map (some X.heap.size)) (X.alloc (.map #[] 0)):=fun X=>by kernel_rfl
 have b0:Below w.heap.size w (w.alloc (.map #[] 0)):=(Below.refl _ w).alloc (Nat.le_refl _) _;have h0:qS (w.alloc (.map #[] 0)) w.heap.size (fun _=>none):=qS.made (qy w _);obtain⟨X1,r1,h1,t1⟩:=jk h0 1 (Mo 133);obtain⟨X2,r2,h2,t2⟩:=jk h1 4 (Mo 133);obtain⟨X3,r3,h3,t3⟩:=jk h2 2 (Mo 134);obtain⟨X4,r4,h4,t4⟩:=jk h3 3 (Mo 135);obtain⟨X5,r5,h5,t5⟩:=jk h4 5 (Mo 136);obtain⟨X6,r6,h6,t6⟩:=jk h5 6 (Mo 138);obtain⟨X7,r7,h7,t7⟩:=jk h6 7 (Mo 139);obtain⟨X8,r8,h8,t8⟩:=jk h7 8 (Mo 143);obtain⟨X9,r9,h9,t9⟩:=jk h8 9 (Mo 145);have tr:∀{X Y:World},X.mapTurned Y w.heap.size->Below w.heap.size w X->Below w.heap.size w Y:=fun ht hb=>hb.trans (Below.turned ht (Nat.le_refl _));have b9:=tr t9 (tr t8 (tr t7 (tr t6 (tr t5 (tr t4 (tr t3 (tr t2 (tr t1 b0))))))));have H9:=qh h9;have B9:=qh b9;clear h0 h1 h2 h3 h4 h5 h6 h7 h8 h9 b0 b9 t1 t2 t3 t4 t5 t6 t7 t8 t9 tr;go_enter Tryz.func91,Tryz.ntmps91;go_wp2_with fail;go_ret;refine⟨_,_,rfl,H9.o,?_,?_,B9.o,Nat.le_refl _⟩
 ·rw [qZ (by decide),qZ (by decide),qZ (by decide),qZ (by decide),qZ (by decide),qZ (by decide),qZ (by decide),qZ (by decide),xC]
 ·rw [qZ (by decide),qZ (by decide),qZ (by decide),qZ (by decide),qZ (by decide),qZ (by decide),xC]
theorem qch {N g:Nat} (W:World) (hg:N<=g) (a b c d:Value):RN.KeepsN N W.drew ((((W.setCell ⟨g,0,none⟩ a).setCell ⟨g,1,none⟩ b).setCell ⟨g,2,none⟩ c).setCell ⟨g,3,none⟩ d).drew:=
 (((RN.KeepsN.set W ⟨g,0,none⟩ a hg).trans (RN.KeepsN.set _ ⟨g,1,none⟩ b hg)).trans (RN.KeepsN.set _ ⟨g,2,none⟩ c hg)).trans (RN.KeepsN.set _ ⟨g,3,none⟩ d hg)
theorem qdH (x k v:Int) (w:World):Calls Tryz.prog 133 #[Um x,.int .i64 k,.int .i64 v] w fun e w'=>e=.returned (.tuple #[Um x,.int .i64 3,.int .i64 x])/\Below w.heap.size w w':=by
 go_enter Tryz.func133,Tryz.ntmps133;go_wp2_with fail;have b0:Below w.heap.size w ((w.alloc (.cells #[.int .i64 1,.int .i64 x,.slice none 0 0,.slice none 0 0] 119)).alloc (.cells #[.int .i64 0,.int .i64 0,.slice none 0 0,.slice none 0 0] 119)):=((Below.refl _ w).alloc (Nat.le_refl _) _).alloc (by simp) _;have r0:=qD (o:=.cells #[.int .i64 0,.int .i64 0,.slice none 0 0,.slice none 0 0] 119) (qy w (.cells #[.int .i64 1,.int .i64 x,.slice none 0 0,.slice none 0 0] 119));have r1:=qy (w.alloc (.cells #[.int .i64 1,.int .i64 x,.slice none 0 0,.slice none 0 0] 119)) (.cells #[.int .i64 0,.int .i64 0,.slice none 0 0,.slice none 0 0] 119);simp only[World.size_alloc] at r1;generalize (w.alloc (.cells #[.int .i64 1,.int .i64 x,.slice none 0 0,.slice none 0 0] 119)).alloc (.cells #[.int .i64 0,.int .i64 0,.slice none 0 0,.slice none 0 0] 119)=W at *;have y:=qa r0;have y0:=y 0;have y1:=y 1;have y2:=y 2;have y3:=y 3;have z:=qa r1;have z0:=z 0;have z1:=z 1;have z2:=z 2;have z3:=z 3;simp at y0 y1 y2 y3 z0 z1 z2 z3;have zf:=fun j=>qB r1 j;have l0:=qd r0;have l1:=qd r1;have B0:=qh b0;have R1:=qh r1;clear y z r0 r1 b0;refine qI (w.heap.size+1) [1,0,1,3,0,0] (.fin [0,1,2,3,4,5]) (by kernel_rfl) ?_;simp only[xi,qP,qA,sD,sE,sF,sG]
 repeat first|(refine qz fun K hK=>?_;go_simp;refine hK _ _ ?_;clear hK K)|(apply qC;(intro w2 hw2;have hk1:=hw2.cell;have hk3:=hw2.1;clear hw2;go_simp;with_reducible rfl);simp only[Act.put,sA,sB,sC])
 refine qG (fun K hK=>?_);go_simp;refine hK _ _ (qch W (Nat.le_refl _) _ _ _ _) ?_;clear hK K
 repeat first|(refine qz fun K hK=>?_;go_simp;refine hK _ _ ?_;clear hK K)|refine qu ?_
 have b1:Below w.heap.size w ((((W.setCell ⟨w.heap.size+1,0,none⟩ (.int .i64 1)).setCell ⟨w.heap.size+1,1,none⟩ (.int .i64 x)).setCell ⟨w.heap.size+1,2,none⟩ (.slice none 0 0)).setCell ⟨w.heap.size+1,3,none⟩ (.slice none 0 0)):=
  (((B0.o.setCell (p:=⟨w.heap.size+1,0,none⟩) (Nat.le_succ _) _).setCell (p:=⟨w.heap.size+1,1,none⟩) (Nat.le_succ _) _).setCell (p:=⟨w.heap.size+1,2,none⟩) (Nat.le_succ _) _).setCell (p:=⟨w.heap.size+1,3,none⟩) (Nat.le_succ _) _
 have r2:=qq (qq (qq (qq R1.o 0 (.int .i64 1)) 1 (.int .i64 x)) 2 (.slice none 0 0)) 3 (.slice none 0 0);have c:=qa r2;have c0:=c 0;have c1:=c 1;have c2:=c 2;have c3:=c 3;simp at c0 c1 c2 c3;go_wp2_with fail;refine bodyPost_ret (v:=.tuple #[Um x,.int .i64 3,.int .i64 x]) (by simp[results,Tryz.results133,go_sem,c0,c1,c2,c3]) rfl ⟨rfl,b1.drew⟩
theorem qbl (x k v:Int) (w:World):Calls Tryz.prog 134 #[Um x,.int .i64 k,.int .i64 v] w fun e w'=>e=.returned (.tuple #[Um v,.int .i64 1,.int .i64 0])/\Below w.heap.size w w':=by
 go_enter Tryz.func134,Tryz.ntmps134;go_wp2_with fail;refine bodyPost_ret (v:=.tuple #[Um v,.int .i64 1,.int .i64 0]) (by simp[results,Tryz.results134,go_sem]) rfl ⟨rfl,?_⟩;exact((Below.refl _ w).alloc (Nat.le_refl _) _).alloc (by simp) _
def Rd (x op val:Int):Int×Int×Int:=if op=2 then(val,1,0) else(x,3,x)
theorem Wd {N g:Nat} (W:World) (hg:N<=g) (a b c d:Value):RN.KeepsN N W ((((W.setCell ⟨g,0,none⟩ a).setCell ⟨g,1,none⟩ b).setCell ⟨g,2,none⟩ c).setCell ⟨g,3,none⟩ d):=qch W hg a b c d
theorem qgF (x op val:Int) (hop:op=1/\val=0\/op=2/\-1000000000<=val/\val<=1000000000) (w:World):
  Calls Tryz.prog 56 #[Um x,.int .i64 op,.int .i64 0,.int .i64 val] w fun e w'=>e=.returned (.tuple #[Um (Rd x op val).1,.int .i64 (Rd x op val).2.1,.int .i64 (Rd x op val).2.2,.nilIface])/\Below w.heap.size w w':=by
 have hk:op=1\/op=2:=by omega
 have q1:(op==3)=false:=by rw[beq_eq_false_iff_ne];omega
 have q2:decide (val < -1000000000)=false:=by simp;omega
 have q3:decide (1000000000 < val)=false:=by simp;omega
 have hV:=fun X=>qcU op hk X;have hK:=fun X=>qeC op hk X;have hO:=fun X=>e_Of op hk X;have q4:(val !=0)=true->(op==2)=true:=fun h=>by rcases hop with h2|h2 <;> simp_all
 have b0:Below w.heap.size w ((w.alloc (.cells #[.int .i64 1,.int .i64 x,.slice none 0 0,.slice none 0 0] 119)).alloc (.cells #[.int .i64 0,.int .i64 0,.slice none 0 0,.slice none 0 0] 119)):=((Below.refl _ w).alloc (Nat.le_refl _) _).alloc (by simp) _;have r0:=qD (o:=.cells #[.int .i64 0,.int .i64 0,.slice none 0 0,.slice none 0 0] 119) (qy w (.cells #[.int .i64 1,.int .i64 x,.slice none 0 0,.slice none 0 0] 119));have r1:=qy (w.alloc (.cells #[.int .i64 1,.int .i64 x,.slice none 0 0,.slice none 0 0] 119)) (.cells #[.int .i64 0,.int .i64 0,.slice none 0 0,.slice none 0 0] 119);simp only[World.size_alloc] at r1;have hz:((w.alloc (.cells #[.int .i64 1,.int .i64 x,.slice none 0 0,.slice none 0 0] 119)).alloc (.cells #[.int .i64 0,.int .i64 0,.slice none 0 0,.slice none 0 0] 119)).heap.size=w.heap.size+2:=by simp
 go_enter Tryz.func56,Tryz.ntmps56;go_wp2_with fail;generalize (w.alloc (.cells #[.int .i64 1,.int .i64 x,.slice none 0 0,.slice none 0 0] 119)).alloc (.cells #[.int .i64 0,.int .i64 0,.slice none 0 0,.slice none 0 0] 119)=W at *;have y:=qa r0;have y0:=y 0;have y1:=y 1;have y2:=y 2;have y3:=y 3;simp at y0 y1 y2 y3;have l0:=qd r0;have l1:=qd r1;have B0:=qh b0;have R0:=qh r0;have R1:=qh r1;clear y r0 r1 b0;refine qI (W.heap.size) [0,1,0,0,0,3,0,1,0,0] (.fin [0,1,2,3,4,6,7,5,8,9]) (by kernel_rfl) ?_;simp only[xi,qP,qA,sD,sE,sF,sG,Option.bind_some]
 repeat first|(refine qz fun K hK=>?_;go_simp;refine hK _ _ ?_;clear hK K)|(apply qC;(intro w2 hw2;have hk1:=hw2.cell;have hk3:=hw2.1;clear hw2;go_simp;with_reducible rfl);simp only[Act.put,sA,sB,sC])|refine qH rfl rfl ?_
 refine qG (fun K hK'=>?_);go_simp;refine(hO _).mono ?_;rintro e w' ⟨rfl,rfl⟩;refine hK' _ _ (RN.KeepsN.refl _ _) ?_;clear hK' K
 repeat first|(refine qz fun K hK=>?_;go_simp;refine hK _ _ ?_;clear hK K)|refine qH rfl rfl ?_|refine qu ?_
 go_upto_region 3 with fail
 go_cut [58] from 27 to 87 (fun c wx=>c=.bool false/\wx=W.drew)
 case first=>
  by_cases hv0:val=0
  ·subst hv0
   go_wp2_with fail
   go_meet
   case rel=>exact⟨rfl,rfl⟩
  ·have q5:(val !=0)=true:=by simpa using hv0
   have q6:=q4 q5;go_wp2_with fail;refine(hV _).mono ?_;rintro e w' ⟨rfl,rfl⟩;go_wp2_with fail
   go_meet
   case rel=>exact⟨rfl,rfl⟩
 case rest=>
 obtain⟨rfl,rfl⟩:=hcut;clear q2 q3 q4 hV hK hO;obtain⟨F,hent,hF,hC⟩:∃F:FuncId,(∀(args:Array Value) (w:World),Sem.run Tryz.prog (callFunc F args) w=.ok (.enter F args) w)/\(∀M:Int->Option Value,M 1=some (Mo 133)->M 2=some (Mo 134)->M op=some (Mo F))/\∀X:World,Calls Tryz.prog F #[Um x,.int .i64 0,.int .i64 val] X fun e w'=>e=.returned (.tuple #[Um (Rd x op val).1,.int .i64 (Rd x op val).2.1,.int .i64 (Rd x op val).2.2])/\Below X.heap.size X w':=by
  rcases hop with⟨rfl,rfl⟩|⟨rfl,-⟩
  ·exact ⟨_,fun args w=>enters_of Tryz.func133 (by kernel_rfl) rfl args w,fun M h1 _=>h1,fun X=>qdH x 0 0 X⟩
  ·exact ⟨_,fun args w=>enters_of Tryz.func134 (by kernel_rfl) rfl args w,fun M _ h2=>h2,fun X=>qbl x 0 val X⟩
 generalize hD:Rd x op val=D at hC;obtain⟨D1,D2,D3⟩:=D;have HD:=qh hD;clear hD;have hLk:=fun(X:World) (bm:Nat) (M:Int->Option Value) (h:qS X bm M) (k:Int) (v:Value) (hv:M k=some v)=>(h.look (P:=Tryz.prog) (t:=191) Tryz.underlying3 Tryz.underlying191 (zv:=.nilFunc) (by kernel_rfl) k hv).1
 go_upto_region 7 with fail
 go_cut [12,13,14] from 74 to 87 (fun p r g wx=>∃b:Nat,p=.pointer (some ⟨b,0,none⟩)/\r=.int .i64 D2/\g=.int .i64 D3/\wx.heap[b]?=some (.cells #[.int .i64 1,.int .i64 D1,.slice none 0 0,.slice none 0 0] 119 (0,0))/\Below W.heap.size W wx)
 case first=>
  refine qI (W.heap.size) [3,0,3,1,0,0,3,0,0,0,0,3,3,0,0] (.frk [1,3,4,5] (.frk [0] (.frk [2] (.fin [6,7,8,9,10,11,12,13,14]) (.fin [11,6,7,8,9,10,12,13,14])) (.fin [11,2,6,7,8,9,10,12,13,14])) (.fin [11,0,2,6,7,8,9,10,12,13,14])) (by kernel_rfl) ?_;simp only[xi,qP,qA,sD,sE,sF,sG];have bX:Below W.heap.size W W.drew:=(Below.refl _ W).drew
  repeat first|(refine qz fun K hK=>?_;go_simp;refine hK _ _ ?_;clear hK K)|(apply qC;(intro w2 hw2;have hk1:=hw2.cell;have hk3:=hw2.1;clear hw2;go_simp;with_reducible rfl);simp only[Act.put,sA,sB,sC])|refine qu ?_
  have bX:Below W.heap.size W W.drew.drew:=(Below.refl _ W).drew.drew;generalize W.drew.drew=V at *;refine⟨?_,?_⟩
  ·
   refine qG (fun K hK'=>?_);go_simp;refine(WR _).mono ?_;rintro e X1 ⟨bm,M,rfl,hM,h1,h2,bd,-⟩;refine hK' _ _ (RN.KeepsN.of_below (bd.mono bX.size)) ?_;clear hK' K;have bX:=bX.trans (bd.mono bX.size);clear bd
   repeat refine qu ?_
   refine⟨?_,?_⟩
   ·
    have hlk:=hLk _ bm M hM op _ (hF M h1 h2);refine qG (fun K hK'=>?_);go_simp;refine hK' _ _ (RN.KeepsN.refl _ _) ?_;clear hK' K hlk
    repeat refine qu ?_
    refine⟨?_,?_⟩
    ·
     refine qG (fun K hK'=>?_);go_simp;refine(hC _).mono ?_;rintro e X2 ⟨rfl,bd⟩;refine hK' _ _ (RN.KeepsN.of_below (bd.mono bX.size)) ?_;clear hK' K;have bX:=bX.trans (bd.mono bX.size);clear bd
     repeat (refine qz fun K hK=>?_;go_simp;refine hK _ _ ?_;clear hK K)
     refine qG (fun K hK'=>?_);go_simp;refine hK' _ _ (RN.KeepsN.alloc _ _ bX.size) ?_;clear hK' K;have rA:=qy X2 (.cells #[.int .i64 0,.int .i64 0,.slice none 0 0,.slice none 0 0] 119);have ba:Below X2.heap.size X2 (X2.alloc (.cells #[.int .i64 0,.int .i64 0,.slice none 0 0,.slice none 0 0] 119)):=(Below.refl _ _).alloc (Nat.le_refl _) _;have lA:=bX.size;have bX:=bX.trans (ba.mono bX.size);clear ba;generalize X2.alloc (.cells #[.int .i64 0,.int .i64 0,.slice none 0 0,.slice none 0 0] 119)=X3 at *;generalize X2.heap.size=bA at *;have y:=qa rA;have z0:=y 0;have z1:=y 1;have z2:=y 2;have z3:=y 3;simp at z0 z1 z2 z3;have zf:=fun j=>qB rA j;have zl:=qd rA;have RA:=qh rA;clear y rA;refine qG (fun K hK'=>?_);go_simp;refine hK' _ _ (Wd X3 lA _ _ _ _) ?_;clear hK' K z0 z1 z2 z3 zf
     repeat first|(refine qz fun K hK=>?_;go_simp;refine hK _ _ ?_;clear hK K)|refine qu ?_
     go_wp2_with fail
     go_meet
     case rel=>
      refine⟨bA,rfl,rfl,rfl,?_,(((bX.setCell (p:=⟨bA,0,none⟩) lA _).setCell (p:=⟨bA,1,none⟩) lA _).setCell (p:=⟨bA,2,none⟩) lA _).setCell (p:=⟨bA,3,none⟩) lA _⟩;have:=qq (qq (qq (qq RA.o 0 (.int .i64 1)) 1 (.int .i64 D1)) 2 (.slice none 0 0)) 3 (.slice none 0 0);simpa using this
    ·
     refine qG (fun K hK'=>?_);go_simp;refine hK' _ _ (RN.KeepsN.alloc _ _ bX.size) ?_;clear hK' K;have rA:=qy X1 (.cells #[.int .i64 0,.int .i64 0,.slice none 0 0,.slice none 0 0] 119);have ba:Below X1.heap.size X1 (X1.alloc (.cells #[.int .i64 0,.int .i64 0,.slice none 0 0,.slice none 0 0] 119)):=(Below.refl _ _).alloc (Nat.le_refl _) _;have lA:=bX.size;have bX:=bX.trans (ba.mono bX.size);clear ba;generalize X1.alloc (.cells #[.int .i64 0,.int .i64 0,.slice none 0 0,.slice none 0 0] 119)=X2 at *;generalize X1.heap.size=bA at *;refine qG (fun K hK'=>?_);go_simp;refine(hC _).mono ?_;rintro e X3 ⟨rfl,bd⟩;refine hK' _ _ (RN.KeepsN.of_below (bd.mono bX.size)) ?_;clear hK' K;have bX:=bX.trans (bd.mono bX.size);have rA:=qp rA bd (qd rA);clear bd
     repeat (refine qz fun K hK=>?_;go_simp;refine hK _ _ ?_;clear hK K)
     have y:=qa rA;have z0:=y 0;have z1:=y 1;have z2:=y 2;have z3:=y 3;simp at z0 z1 z2 z3;have zf:=fun j=>qB rA j;have zl:=qd rA;have RA:=qh rA;clear y rA;refine qG (fun K hK'=>?_);go_simp;refine hK' _ _ (Wd X3 lA _ _ _ _) ?_;clear hK' K z0 z1 z2 z3 zf
     repeat first|(refine qz fun K hK=>?_;go_simp;refine hK _ _ ?_;clear hK K)|refine qu ?_
     go_wp2_with fail
     go_meet
     case rel=>
      refine⟨bA,rfl,rfl,rfl,?_,(((bX.setCell (p:=⟨bA,0,none⟩) lA _).setCell (p:=⟨bA,1,none⟩) lA _).setCell (p:=⟨bA,2,none⟩) lA _).setCell (p:=⟨bA,3,none⟩) lA _⟩;have:=qq (qq (qq (qq RA.o 0 (.int .i64 1)) 1 (.int .i64 D1)) 2 (.slice none 0 0)) 3 (.slice none 0 0);simpa using this
   ·
    refine qG (fun K hK'=>?_);go_simp;refine hK' _ _ (RN.KeepsN.alloc _ _ bX.size) ?_;clear hK' K;have rA:=qy X1 (.cells #[.int .i64 0,.int .i64 0,.slice none 0 0,.slice none 0 0] 119);have ba:Below X1.heap.size X1 (X1.alloc (.cells #[.int .i64 0,.int .i64 0,.slice none 0 0,.slice none 0 0] 119)):=(Below.refl _ _).alloc (Nat.le_refl _) _;have lA:=bX.size;have bX:=bX.trans (ba.mono bX.size);have hM:=hM.below ba hM.lt;clear ba;generalize X1.alloc (.cells #[.int .i64 0,.int .i64 0,.slice none 0 0,.slice none 0 0] 119)=X2 at *;generalize X1.heap.size=bA at *;have hlk:=hLk _ bm M hM op _ (hF M h1 h2);refine qG (fun K hK'=>?_);go_simp;refine hK' _ _ (RN.KeepsN.refl _ _) ?_;clear hK' K hlk;refine qG (fun K hK'=>?_);go_simp;refine(hC _).mono ?_;rintro e X3 ⟨rfl,bd⟩;refine hK' _ _ (RN.KeepsN.of_below (bd.mono bX.size)) ?_;clear hK' K;have bX:=bX.trans (bd.mono bX.size);have rA:=qp rA bd (qd rA);clear bd
    repeat (refine qz fun K hK=>?_;go_simp;refine hK _ _ ?_;clear hK K)
    have y:=qa rA;have z0:=y 0;have z1:=y 1;have z2:=y 2;have z3:=y 3;simp at z0 z1 z2 z3;have zf:=fun j=>qB rA j;have zl:=qd rA;have RA:=qh rA;clear y rA;refine qG (fun K hK'=>?_);go_simp;refine hK' _ _ (Wd X3 lA _ _ _ _) ?_;clear hK' K z0 z1 z2 z3 zf
    repeat first|(refine qz fun K hK=>?_;go_simp;refine hK _ _ ?_;clear hK K)|refine qu ?_
    go_wp2_with fail
    go_meet
    case rel=>
     refine⟨bA,rfl,rfl,rfl,?_,(((bX.setCell (p:=⟨bA,0,none⟩) lA _).setCell (p:=⟨bA,1,none⟩) lA _).setCell (p:=⟨bA,2,none⟩) lA _).setCell (p:=⟨bA,3,none⟩) lA _⟩;have:=qq (qq (qq (qq RA.o 0 (.int .i64 1)) 1 (.int .i64 D1)) 2 (.slice none 0 0)) 3 (.slice none 0 0);simpa using this
  ·
   refine qG (fun K hK'=>?_);go_simp;refine hK' _ _ (RN.KeepsN.alloc _ _ bX.size) ?_;clear hK' K;have rA:=qy V (.cells #[.int .i64 0,.int .i64 0,.slice none 0 0,.slice none 0 0] 119);have ba:Below V.heap.size V (V.alloc (.cells #[.int .i64 0,.int .i64 0,.slice none 0 0,.slice none 0 0] 119)):=(Below.refl _ _).alloc (Nat.le_refl _) _;have lA:=bX.size;have bX:=bX.trans (ba.mono bX.size);clear ba;generalize V.alloc (.cells #[.int .i64 0,.int .i64 0,.slice none 0 0,.slice none 0 0] 119)=X1 at *;generalize V.heap.size=bA at *;refine qG (fun K hK'=>?_);go_simp;refine(WR _).mono ?_;rintro e X2 ⟨bm,M,rfl,hM,h1,h2,bd,-⟩;refine hK' _ _ (RN.KeepsN.of_below (bd.mono bX.size)) ?_;clear hK' K;have bX:=bX.trans (bd.mono bX.size);have rA:=qp rA bd (qd rA);clear bd;have hlk:=hLk _ bm M hM op _ (hF M h1 h2);refine qG (fun K hK'=>?_);go_simp;refine hK' _ _ (RN.KeepsN.refl _ _) ?_;clear hK' K hlk;refine qG (fun K hK'=>?_);go_simp;refine(hC _).mono ?_;rintro e X3 ⟨rfl,bd⟩;refine hK' _ _ (RN.KeepsN.of_below (bd.mono bX.size)) ?_;clear hK' K;have bX:=bX.trans (bd.mono bX.size);have rA:=qp rA bd (qd rA);clear bd
   repeat (refine qz fun K hK=>?_;go_simp;refine hK _ _ ?_;clear hK K)
   have y:=qa rA;have z0:=y 0;have z1:=y 1;have z2:=y 2;have z3:=y 3;simp at z0 z1 z2 z3;have zf:=fun j=>qB rA j;have zl:=qd rA;have RA:=qh rA;clear y rA;refine qG (fun K hK'=>?_);go_simp;refine hK' _ _ (Wd X3 lA _ _ _ _) ?_;clear hK' K z0 z1 z2 z3 zf
   repeat first|(refine qz fun K hK=>?_;go_simp;refine hK _ _ ?_;clear hK K)|refine qu ?_
   go_wp2_with fail
   go_meet
   case rel=>
    refine⟨bA,rfl,rfl,rfl,?_,(((bX.setCell (p:=⟨bA,0,none⟩) lA _).setCell (p:=⟨bA,1,none⟩) lA _).setCell (p:=⟨bA,2,none⟩) lA _).setCell (p:=⟨bA,3,none⟩) lA _⟩;have:=qq (qq (qq (qq RA.o 0 (.int .i64 1)) 1 (.int .i64 D1)) 2 (.slice none 0 0)) 3 (.slice none 0 0);simpa using this
 case rest=>
 obtain⟨b,rfl,rfl,rfl,hb,hB⟩:=hcut;have r1:=qp R1.o hB l1;have y:=qa hb;have y0:=y 0;have y1:=y 1;have y2:=y 2;have y3:=y 3;have z:=qa r1;have z0:=z 0;have z1:=z 1;have z2:=z 2;have z3:=z 3;simp at y0 y1 y2 y3 z0 z1 z2 z3;have zf:=fun j=>qB r1 j;have zl:=qd r1;have hbl:=qd hb;have RZ:=qh r1;have BZ:=qh (B0.o.trans (hB.mono (by omega)));clear y z r1 hb;go_wp2_with fail;have hf:=qa (qq (qq (qq (qq RZ.o 0 (.int .i64 1)) 1 (.int .i64 D1)) 2 (.slice none 0 0)) 3 (.slice none 0 0));have c0:=hf 0;have c1:=hf 1;have c2:=hf 2;have c3:=hf 3;simp at c0 c1 c2 c3;refine bodyPost_ret (v:=.tuple #[Um D1,.int .i64 D2,.int .i64 D3,.nilIface]) (by simp[results,Tryz.results56,go_sem,c0,c1,c2,c3]) rfl ⟨by rw[HD.o],?_⟩;exact(((BZ.o.setCell (p:=⟨w.heap.size+1,0,none⟩) (Nat.le_succ _) _).setCell (p:=⟨w.heap.size+1,1,none⟩) (Nat.le_succ _) _).setCell (p:=⟨w.heap.size+1,2,none⟩) (Nat.le_succ _) _).setCell (p:=⟨w.heap.size+1,3,none⟩) (Nat.le_succ _) _
end
section
attribute [local irreducible] xE
theorem qj.ofRow {α:Type} {f:α->List Value} {e:TypeId} {sz B g n:Nat} {w:World} {l:List α} (h:w.heap[g]?=some (.cells (l.flatMap f).toArray e (0,0))) (hB:B<=g) (hn:l.length=n) (hl:(l.flatMap f).length=n*sz) (hm:n<=maxLen):qj f e sz w B (.slice (some ⟨g,0,none⟩) n n) l:=by
 subst hn;exact⟨hl,.inr ⟨g,_,_,rfl,hB,h,Nat.le_refl _,hm,by simpa using hl,show List.take (l.length*sz) (l.flatMap f)=l.flatMap f from List.take_of_length_le (Nat.le_of_eq hl)⟩⟩
theorem qgE (v:Value) (σ:List Int) (i:Nat) (x:Int) (w:World) (h:SlS w w.heap.size v σ) (hx:σ[i]?=some x):
  Calls Tryz.prog 55 #[NP v,.int .i64 i] w fun e w'=>e=.returned (.tuple #[Um x,.bool true])/\Below w.heap.size w w':=by
 obtain⟨a,c,rfl,hm⟩:=h.ex;have b0:Below w.heap.size w ((w.alloc (.cells #[.slice a σ.length c] 57)).alloc (.cells #[.int .i64 0,.int .i64 0,.slice none 0 0,.slice none 0 0] 119)):=((Below.refl _ w).alloc (Nat.le_refl _) _).alloc (by simp) _;have r1:=qy (w.alloc (.cells #[.slice a σ.length c] 57)) (.cells #[.int .i64 0,.int .i64 0,.slice none 0 0,.slice none 0 0] 119);have hz:((w.alloc (.cells #[.slice a σ.length c] 57)).alloc (.cells #[.int .i64 0,.int .i64 0,.slice none 0 0,.slice none 0 0] 119)).heap.size=w.heap.size+2:=by simp
 simp only[World.size_alloc] at r1;go_enter Tryz.func55,Tryz.ntmps55;go_wp2_with fail;generalize (w.alloc (.cells #[.slice a σ.length c] 57)).alloc (.cells #[.int .i64 0,.int .i64 0,.slice none 0 0,.slice none 0 0] 119)=W at *;refine(l_At _ σ i x W ((h.below b0).more b0.size) hx).mono ?_;rintro e W1 ⟨rfl,b1⟩;have r1:=qp r1 b1 (by omega);have z:=qa r1;have z0:=z 0;have z1:=z 1;have z2:=z 2;have z3:=z 3;simp at z0 z1 z2 z3;have zf:=fun j=>qB r1 j;have zl:=qd r1;have RZ:=qh r1;have BZ:=qh (b0.trans (b1.mono (by omega)));clear z r1 b1 b0 h;go_wp2_with fail;have hf:=qa (qq (qq (qq (qq RZ.o 0 (.int .i64 1)) 1 (.int .i64 x)) 2 (.slice none 0 0)) 3 (.slice none 0 0));have c0:=hf 0;have c1:=hf 1;have c2:=hf 2;have c3:=hf 3;simp at c0 c1 c2 c3;refine bodyPost_ret (v:=.tuple #[Um x,.bool true]) (by simp[results,Tryz.results55,go_sem,c0,c1,c2,c3]) rfl ⟨rfl,?_⟩;exact(((BZ.o.setCell (p:=⟨w.heap.size+1,0,none⟩) (Nat.le_succ _) _).setCell (p:=⟨w.heap.size+1,1,none⟩) (Nat.le_succ _) _).setCell (p:=⟨w.heap.size+1,2,none⟩) (Nat.le_succ _) _).setCell (p:=⟨w.heap.size+1,3,none⟩) (Nat.le_succ _) _
theorem qgD (v:Value) (σ:List Int) (i:Nat) (x op val:Int) (w:World) (h:SlS w w.heap.size v σ) (hl:σ.length<=1000) (hx:σ[i]?=some x) (hop:op=1/\val=0\/op=2/\-1000000000<=val/\val<=1000000000):
  Calls Tryz.prog 21 #[NP v,.int .i64 i,.int .i64 op,.int .i64 0,.int .i64 val] w fun e w'=>∃v',e=.returned (.tuple #[NP v',.int .i64 (Rd x op val).2.1,.int .i64 (Rd x op val).2.2,.nilIface])/\js w' w.heap.size v' (σ.set i (Rd x op val).1)/\Below w.heap.size w w':=by
 obtain⟨a,c,rfl,hm⟩:=h.ex;have hDo:=fun X=>qgF x op val hop X;have hil:=(List.getElem?_eq_some_iff.1 hx).1;generalize Rd x op val=D at *;obtain⟨D1,D2,D3⟩:=D;have b0:Below w.heap.size w ((w.alloc (.cells #[.slice a σ.length c] 57)).alloc (.cells #[.slice none 0 0] 57)):=((Below.refl _ w).alloc (Nat.le_refl _) _).alloc (by simp) _;have r0:=qD (o:=.cells #[.slice none 0 0] 57) (qy w (.cells #[.slice a σ.length c] 57));have r1:=qy (w.alloc (.cells #[.slice a σ.length c] 57)) (.cells #[.slice none 0 0] 57);have hz:((w.alloc (.cells #[.slice a σ.length c] 57)).alloc (.cells #[.slice none 0 0] 57)).heap.size=w.heap.size+2:=by simp
 simp only[World.size_alloc] at r1;go_enter Tryz.func21,Tryz.ntmps21;go_wp2_with fail;generalize (w.alloc (.cells #[.slice a σ.length c] 57)).alloc (.cells #[.slice none 0 0] 57)=W at *;refine(qgE _ σ i x W ((h.below b0).more b0.size) hx).mono ?_;rintro e W1 ⟨rfl,b1⟩;have hz1:=b1.size;have b1:Below W.heap.size W (W1.alloc (.cells #[.int .i64 1,.int .i64 x,.slice none 0 0,.slice none 0 0] 119)):=b1.alloc hz1 _;have R0:=qh r0;have R1:=qh r1;have B0:=qh b0;have B1:=qh b1;clear r0 r1 b0 b1;go_wp2_with fail;refine(hDo _).mono ?_;rintro e W2 ⟨rfl,b2⟩;have b2:Below W.heap.size W W2:=B1.o.trans (b2.mono (B1.o.size));have hz2:=b2.size;have y0:=qa (qp R0.o b2 (by omega)) 0;simp at y0;have b3:Below W.heap.size W (W2.alloc (.cells #[.int .i64 1,.int .i64 D1,.slice none 0 0,.slice none 0 0] 119)):=b2.alloc hz2 _;have yl:w.heap.size < W2.heap.size:=by omega
 have B3:=qh b3;clear b2 b3;go_wp2_with fail;refine(qfN _ σ i D1 _ (((h.below B0.o).more B0.o.size).below B3.o |>.more B3.o.size) hl hil).mono ?_;rintro e W3 ⟨v',rfl,o3,b3⟩;obtain⟨a',c',rfl,-⟩:=(qj.sl o3).ex;have b3:Below W.heap.size W W3:=B3.o.trans (b3.mono B3.o.size);have hz3:=b3.size;have r1:=qp R1.o b3 (by omega);have z0:=qa r1 0;simp at z0;have zf:=qB r1 0;have zl:=qd r1;have o4:=qj.set (j:=0) (u:=.slice a' σ.length c') (g:=w.heap.size+1) (qj.base o3 (show W.heap.size<=_ from B3.o.size)) (by omega);have R3:=qh (qq r1 0 (.slice a' σ.length c'));have B4:=qh ((B0.o.trans (b3.mono (by omega))).setCell (p:=⟨w.heap.size+1,0,none⟩) (show w.heap.size<=w.heap.size+1 by omega) (.slice a' σ.length c'));simp only[List.length_set] at o4 R3 B4;clear r1 o3 b3;go_wp2_with fail;have c0:=qa R3.o 0;simp at c0;refine bodyPost_ret (v:=.tuple #[NP (.slice a' σ.length c'),.int .i64 D2,.int .i64 D3,.nilIface]) (by simp[results,Tryz.results21,go_sem,c0]) rfl ?_;exact⟨_,rfl,qj.base o4 (by omega),B4.o⟩
end
section
attribute [local irreducible] xE
theorem qgT (v:Value) (σ:List Int) (x:Int) (w:World) (h:SlS w w.heap.size v σ) (hl:σ.length<=1000):
  Calls Tryz.prog 48 #[.agg #[v],Um x] w fun e w'=>∃v',e=.returned (.agg #[v'])/\js w' w.heap.size v' (σ++[x])/\Below w.heap.size w w':=by
 obtain⟨a,c,rfl,hm⟩:=h.ex;have b0:Below w.heap.size w (((w.alloc (.cells #[.slice a σ.length c] 55)).alloc (.cells #[.int .i64 1,.int .i64 x,.slice none 0 0,.slice none 0 0] 119)).alloc (.cells #[.slice none 0 0] 55)):=(((Below.refl _ w).alloc (Nat.le_refl _) _).alloc (by simp) _).alloc (by simp;omega) _;go_enter Tryz.func48,Tryz.ntmps48;go_wp2_with fail;have r2:(((w.alloc (.cells #[.slice a σ.length c] 55)).alloc (.cells #[.int .i64 1,.int .i64 x,.slice none 0 0,.slice none 0 0] 119)).alloc (.cells #[.slice none 0 0] 55)).heap[w.heap.size]?=some (.cells #[.slice a σ.length c] 55 (0,0)):=qD (qD (qy w _));have r1:(((w.alloc (.cells #[.slice a σ.length c] 55)).alloc (.cells #[.int .i64 1,.int .i64 x,.slice none 0 0,.slice none 0 0] 119)).alloc (.cells #[.slice none 0 0] 55)).heap[w.heap.size+1]?=some (.cells #[.int .i64 1,.int .i64 x,.slice none 0 0,.slice none 0 0] 119 (0,0)):=qD (qV (by simp));have r0:(((w.alloc (.cells #[.slice a σ.length c] 55)).alloc (.cells #[.int .i64 1,.int .i64 x,.slice none 0 0,.slice none 0 0] 119)).alloc (.cells #[.slice none 0 0] 55)).heap[w.heap.size+1+1]?=some (.cells #[.slice none 0 0] 55 (0,0)):=qV (by simp);have hz:=qh (show(((w.alloc (.cells #[.slice a σ.length c] 55)).alloc (.cells #[.int .i64 1,.int .i64 x,.slice none 0 0,.slice none 0 0] 119)).alloc (.cells #[.slice none 0 0] 55)).heap.size=w.heap.size+3 by simp);generalize ((w.alloc (.cells #[.slice a σ.length c] 55)).alloc (.cells #[.int .i64 1,.int .i64 x,.slice none 0 0,.slice none 0 0] 119)).alloc (.cells #[.slice none 0 0] 55)=W at *;have hs:=(h.below b0).more b0.size;have AC:=qh (qcd _ σ W.drew hs hl);have HS:=qh hs;have B0:=qh b0;have R0:=qh r0;have u0:=qa r2 0;have y:=qa r1;have y0:=y 0;have y1:=y 1;have y2:=y 2;have y3:=y 3;simp at u0 y0 y1 y2 y3;have ul:=qd r2;have yl:=qd r1;clear y r0 r1 r2 b0 hs h;refine qI (W.heap.size) [1,3,1,3,2,0,2] (.frk [0,2] (.fin [1,3,4,5,6]) (.fin [3,1,4,5,6])) (by kernel_rfl) ?_;simp only[xi,qP,qA,sD,sE,sF,sG]
 repeat first|(apply qC;(intro w2 hw2;have hk1:=hw2.cell;have hk3:=hw2.1;clear hw2;go_simp;with_reducible rfl);simp only[Act.put,sA,sB,sC])|refine qu ?_
 refine⟨?_,?_⟩
 ·refine qG (fun K hK=>?_)
  go_simp;refine AC.o.mono ?_;rintro e w1 ⟨v',rfl,o1,b1⟩;obtain⟨a1,c1,rfl,-⟩:=(qj.sl o1).ex;refine hK _ _ (RN.KeepsN.of_below b1) ?_;clear hK K;refine qG (fun K hK=>?_);go_simp;refine hK _ _ (RN.KeepsN.alloc w1 _ b1.size) ?_;clear hK K;have hz1:W.heap.size<=w1.heap.size:=b1.size;refine qM (fun K hK=>?_);refine ui _ _ _ rfl _ 64 Tryz.underlying53 YK rfl o1 x hz1 (by rfl) (by rfl) (by first|rfl|simp) rfl (VK _) (by first|omega|(simp only[List.length_append,List.length_cons,List.length_nil,List.length_replicate];omega)) (by first|omega|(simp only[List.length_append,List.length_cons,List.length_nil,List.length_replicate];omega)) ?_;intro g1 c1 w2 o2 G2;refine hK _ _ ?_;clear hK K;have b2:Below W.heap.size W w2:=((Below.refl _ W).drew.trans b1).trans (G2.below hz1 fun j hj=>(qj.lt o1 j hj).1);have r2:=qp R0.o b2 (qd R0.o);have y:=qa r2 0;simp at y;have yf:=qB r2 0;have yl2:=qd r2;have hB2:=qh ((B0.o.trans (b2.mono B0.o.size)).setCell (p:=⟨w.heap.size+1+1,0,none⟩) (by show w.heap.size<=w.heap.size+1+1;omega) (.slice (some ⟨g1,0,none⟩) (σ.length+1) c1));have oF:=qh (qj.set (j:=0) (u:=.slice (some ⟨g1,0,none⟩) (σ.length+1) c1) o2 (show w.heap.size+1+1 < W.heap.size by have:=hz.o;omega));have rF:=qh (qq r2 0 (.slice (some ⟨g1,0,none⟩) (σ.length+1) c1));clear r2 b2 b1 o1 G2 o2 AC
  repeat (refine qz fun K hK=>?_;go_simp;refine hK _ _ ?_;clear hK K)
  refine qM (fun K hK=>?_);go_simp;refine hK _ _ ?_;clear hK K
  repeat refine qu ?_
  go_wp2_with fail;have c0:=qa rF.o 0;simp at c0;refine bodyPost_ret (v:=.agg #[.slice (some ⟨g1,0,none⟩) (σ.length+1) c1]) (by simp[results,Tryz.results48,go_sem,c0]) rfl ?_;refine⟨_,rfl,?_,hB2.o⟩;have:=qj.base oF.o (show w.heap.size<=W.heap.size from B0.o.size);simpa using this
 ·refine qG (fun K hK=>?_)
  go_simp;refine hK _ _ (RN.KeepsN.alloc W.drew _ (Nat.le_refl _)) ?_;clear hK K;have ba:Below W.heap.size W (W.drew.alloc (.cells #[.int .i64 1,.int .i64 x,.slice none 0 0,.slice none 0 0] 119)):=(Below.refl _ W).drew.alloc (Nat.le_refl _) _;have ra:=qy W.drew (.cells #[.int .i64 1,.int .i64 x,.slice none 0 0,.slice none 0 0] 119);have AC2:=qh (qcd _ σ (W.drew.alloc (.cells #[.int .i64 1,.int .i64 x,.slice none 0 0,.slice none 0 0] 119)) ((HS.o.below ba).more ba.size) hl);have hza:=ba.size;refine qG (fun K hK=>?_);go_simp;refine AC2.o.mono ?_;rintro e w1 ⟨v',rfl,o1,b1⟩;obtain⟨a1,c1,rfl,-⟩:=(qj.sl o1).ex;refine hK _ _ (RN.KeepsN.of_below (b1.mono hza)) ?_;clear hK K;have hz1:W.heap.size<=w1.heap.size:=Nat.le_trans hza b1.size;have src:SlS w1 w1.heap.size (.slice (some ⟨W.heap.size,0,none⟩) 1 1) [x]:=qj.sl (qj.ofRow (B:=0) (l:=[x]) (qp ra b1 (qd ra)) (Nat.zero_le _) rfl rfl (by decide));have o1':=qj.base o1 hza;refine qM (fun K hK=>?_);refine jH _ _ _ rfl _ 64 Tryz.underlying53 YK rfl o1' [x] rfl src (by first|omega|(simp <;> omega)) rfl rfl YU VK (by first|omega|(simp <;> omega)) (by first|omega|(simp <;> omega)) ?_;intro v2 w2 o2 G2;refine hK _ _ ?_;clear hK K;obtain⟨a2,c2,hv2,-⟩:=(qj.sl o2).ex;rw[show (σ++[x]).length=σ.length+1 by simp] at hv2;subst hv2;have b2:Below W.heap.size W w2:=(ba.trans (b1.mono hza)).trans (G2.below hz1 fun j hj=>(qj.lt o1' j hj).1);have r2:=qp R0.o b2 (qd R0.o);have y:=qa r2 0;simp at y;have yf:=qB r2 0;have yl2:=qd r2;have hB2:=qh ((B0.o.trans (b2.mono B0.o.size)).setCell (p:=⟨w.heap.size+1+1,0,none⟩) (by show w.heap.size<=w.heap.size+1+1;omega) (.slice a2 (σ.length+1) c2));have oF:=qh (qj.set (j:=0) (u:=.slice a2 (σ.length+1) c2) o2 (show w.heap.size+1+1 < W.heap.size by have:=hz.o;omega));have rF:=qh (qq r2 0 (.slice a2 (σ.length+1) c2));clear r2 b2 b1 o1 o1' G2 o2 AC AC2 ra src
  repeat (refine qz fun K hK=>?_;go_simp;refine hK _ _ ?_;clear hK K)
  refine qM (fun K hK=>?_);go_simp;refine hK _ _ ?_;clear hK K
  repeat refine qu ?_
  go_wp2_with fail;have c0:=qa rF.o 0;simp at c0;refine bodyPost_ret (v:=.agg #[.slice a2 (σ.length+1) c2]) (by simp[results,Tryz.results48,go_sem,c0]) rfl ?_;refine⟨_,rfl,?_,hB2.o⟩;have:=qj.base oF.o (show w.heap.size<=W.heap.size from B0.o.size);simpa using this
theorem qfp (x:Int) (h1:-1000000000<=x) (h2:x<=1000000000) (w:World) (hW:yR w):
  Calls Tryz.prog 47 #[.agg #[.int .i64 1,.int .i64 x]] w fun e w'=>e=.returned (.tuple #[Um x,.nilIface])/\Below w.heap.size w w':=by
 have b0:Below w.heap.size w ((w.alloc (.cells #[.int .i64 1,.int .i64 x] 62)).alloc (.cells #[.int .i64 0,.int .i64 0,.slice none 0 0,.slice none 0 0] 119)):=((Below.refl _ w).alloc (Nat.le_refl _) _).alloc (by simp) _;have r0:((w.alloc (.cells #[.int .i64 1,.int .i64 x] 62)).alloc (.cells #[.int .i64 0,.int .i64 0,.slice none 0 0,.slice none 0 0] 119)).heap[w.heap.size]?=some (.cells #[.int .i64 1,.int .i64 x] 62 (0,0)):=qD (qy w _);have r1:((w.alloc (.cells #[.int .i64 1,.int .i64 x] 62)).alloc (.cells #[.int .i64 0,.int .i64 0,.slice none 0 0,.slice none 0 0] 119)).heap[w.heap.size+1]?=some (.cells #[.int .i64 0,.int .i64 0,.slice none 0 0,.slice none 0 0] 119 (0,0)):=qV (by simp);have hz:=qh (show((w.alloc (.cells #[.int .i64 1,.int .i64 x] 62)).alloc (.cells #[.int .i64 0,.int .i64 0,.slice none 0 0,.slice none 0 0] 119)).heap.size=w.heap.size+2 by simp);go_enter Tryz.func47,Tryz.ntmps47;go_wp2_with fail;generalize (w.alloc (.cells #[.int .i64 1,.int .i64 x] 62)).alloc (.cells #[.int .i64 0,.int .i64 0,.slice none 0 0,.slice none 0 0] 119)=W at *;refine(Uv x h1 h2 W (hW.below b0)).mono ?_;rintro e W1 ⟨rfl,b1⟩;have r0:=qp r0 b1 (qd r0);have r1:=qp r1 b1 (qd r1);have B1:=qh (b0.trans (b1.mono b0.size));have y:=qa r0;have y0:=y 0;have y1:=y 1;have z:=qa r1;have z0:=z 0;have z1:=z 1;have z2:=z 2;have z3:=z 3;simp at y0 y1 z0 z1 z2 z3;have yl:=qd r0;have zl:=qd r1;have zf:=fun j=>qB r1 j;have R1:=qh r1;clear y z r0 r1 b0 b1;go_wp2_with fail;have rF:=qq (qq (qq (qq R1.o 0 (.int .i64 1)) 1 (.int .i64 x)) 2 (.slice none 0 0)) 3 (.slice none 0 0);have c:=qa rF;have c0:=c 0;have c1:=c 1;have c2:=c 2;have c3:=c 3;simp at c0 c1 c2 c3;refine bodyPost_ret (v:=.tuple #[Um x,.nilIface]) (by simp[results,Tryz.results47,go_sem,c0,c1,c2,c3,Um]) rfl ?_;exact⟨rfl,(((B1.o.setCell (p:=⟨w.heap.size+1,0,none⟩) (Nat.le_succ _) _).setCell (p:=⟨w.heap.size+1,1,none⟩) (Nat.le_succ _) _).setCell (p:=⟨w.heap.size+1,2,none⟩) (Nat.le_succ _) _).setCell (p:=⟨w.heap.size+1,3,none⟩) (Nat.le_succ _) _⟩
theorem qgI (v:Value) (os:List Ob) (w:World) (h:Sl w w.heap.size 2 v os.length (os.flatMap Ob.cells)) (hr:Ra os) (hW:yR w) (hX:WX w):
  Calls Tryz.prog 18 #[v] w fun e w'=>∃v',e=.returned (.tuple #[.agg #[v'],.nilIface])/\js w' w.heap.size v' (os.map (·.init))/\Below w.heap.size w w':=by
 obtain⟨a,c,rfl,hm⟩:=h.ex;obtain⟨hr8,hro⟩:=hr;have b0:Below w.heap.size w (w.alloc (.cells #[.slice none 0 0] 57)):=(Below.refl _ w).alloc (Nat.le_refl _) _;have r0:=qy w (.cells #[.slice none 0 0] 57);have hg:=JH (.slice a os.length c) (.slice none 0 0) os [] _ ((h.below b0).more b0.size) ⟨none,0,rfl,by simp,by simp,fun h=>by simp at h⟩ (fun o ho=>by rw[(hro o ho).1];exact qcW (by omega) (by omega)) (fun e he=>(nomatch he)) (hX.wd.below b0) (hX.er.below b0);rw[qcm ⟨hr8,hro⟩] at hg;have hv:=qh hg;have hz0:(w.alloc (.cells #[.slice none 0 0] 57)).heap.size=w.heap.size+1:=by simp
 have H:=qh h;have HW:=qh hW;have HRO:=qh hro;clear h hW hro hX hg;go_enter Tryz.func18,Tryz.ntmps18;go_wp2_with fail;generalize w.alloc (.cells #[.slice none 0 0] 57)=W at *;refine(hv.o).mono ?_;rintro e W1 ⟨⟨x9,rfl,hx9,-⟩,b1⟩;obtain rfl:=hx9 rfl;clear hx9;have B1:=qh (b0.trans (b1.mono b0.size));have R1:=qh (qp r0 b1 (qd r0));have hz1:w.heap.size+1<=W1.heap.size:=by have:=b1.size;omega
 clear r0 b0 b1 hz0 hv;go_wp2_with fail;have RL:=qh (qy W1 (.cells #[.slice none 0 0] 55));have R2:=qh (qD (o:=.cells #[.slice none 0 0] 55) R1.o);have B2:=qh (B1.o.alloc B1.o.size (.cells #[.slice none 0 0] 55));have hz2:=qh (show(W1.alloc (.cells #[.slice none 0 0] 55)).heap.size=W1.heap.size+1 by simp);generalize W1.alloc (.cells #[.slice none 0 0] 55)=W2 at *;generalize W1.heap.size=bl at *
 go_loopw [19] (fun p wr=>∃(k:Nat) (u:Value),k<=os.length/\p=.int .i64 k/\wr.heap[w.heap.size]?=some (.cells #[.slice none 0 0] 57 (0,0))/\wr.heap[bl]?=some (.cells #[u] 55 (0,0))/\js wr w.heap.size u ((os.take k).map (·.init))/\Below w.heap.size w wr) (fun p _=>os.length - (intOf p).toNat)
 case atStart=>exact⟨0,_,by omega,by go_num,R2.o,RL.o,qj.nil _ _,B2.o⟩
 case round=>
  obtain⟨k,u,hk,rfl,q0,ql,qo,qb⟩:=hrel;clear R2 RL B2 R1 B1 hz2 W1 W2;have hsz:=qb.size;obtain⟨L,hL⟩:∃L,(os.take k).map (·.init)=L:=⟨_,rfl⟩
  rw[hL] at qo;have hLk:=qh (show L.length=k by rw[←hL];simp;omega);have hLm:L.length<=8:=by have:=hLk.o;omega
  have HL:=qh hL;clear hL;obtain⟨au,cu,rfl,-⟩:=(qj.sl qo).ex;have y0:=qa ql 0;simp at y0;have yl:=qd ql;have Q0:=qh q0;have QL:=qh ql;have QO:=qh qo;have QB:=qh qb;clear q0 ql qo qb;by_cases hlt:k < os.length
  ·have src:=(H.o.below QB.o).more hsz
   obtain⟨b,off,o,rfl,hb,hox,hc⟩:=src.atF Ob.len rfl hlt;obtain⟨ok,o1,o2⟩:=HRO.o o (List.mem_of_getElem? hox);obtain⟨okd,x⟩:=o;simp only at ok o1 o2;subst ok;have c0:wr.cell? ⟨b,off+k*2,none⟩=some (.int .i64 1):=hc 0 (by decide);have c1:wr.cell? ⟨b,off+k*2+1,none⟩=some (.int .i64 x):=hc 1 (by decide);have HX:=qh (show(os.take (k+1)).map (·.init)=L++[x] by rw[List.take_add_one,List.map_append,hox,HL.o];rfl);clear hc src hox;have b3:Below wr.heap.size wr (wr.alloc (.cells #[.int .i64 1,.int .i64 x] 62)):=(Below.refl _ wr).alloc (Nat.le_refl _) _;have r3:=qy wr (.cells #[.int .i64 1,.int .i64 x] 62);go_wp2_with fail;generalize wr.alloc (.cells #[.int .i64 1,.int .i64 x] 62)=W3 at *;refine(qfp x o1 o2 W3 (HW.o.below (QB.o.trans (b3.mono hsz)))).mono ?_;rintro e W4 ⟨rfl,b4⟩;have b34:=b3.trans (b4.mono b3.size);have b5:Below wr.heap.size wr (W4.alloc (.cells #[.int .i64 1,.int .i64 x,.slice none 0 0,.slice none 0 0] 119)):=b34.alloc b34.size _;have r5:=qy W4 (.cells #[.int .i64 1,.int .i64 x,.slice none 0 0,.slice none 0 0] 119);have hz4:=b34.size;have rb:=qp QL.o b5 yl;have d0:=qa rb 0;have e:=qa r5;have e0:=e 0;have e1:=e 1;have e2:=e 2;have e3:=e 3;have QO5:=qj.below QO.o b5;have zl5:=qd r5;have zb5:=qd rb;clear e r3 b3 b4 b34 r5 rb c0 c1 y0;go_wp2_with fail;generalize W4.alloc (.cells #[.int .i64 1,.int .i64 x,.slice none 0 0,.slice none 0 0] 119)=W5 at *;have hz5:=b5.size;refine(qgT _ _ x W5 (qj.sl QO5) (by omega)).mono ?_;rintro e W6 ⟨v',rfl,o6,b6⟩;obtain⟨a6,c6,hv6,-⟩:=(qj.sl o6).ex;rw[show (L++[x]).length=L.length+1 by simp] at hv6;subst hv6;have b56:=b5.trans (b6.mono hz5);have rl6:=qp QL.o b56 yl;have r06:=qp Q0.o b56 (qd Q0.o);have B6:=qh (QB.o.trans (b56.mono hsz));have yl6:=qd rl6;have d6:=qa rl6 0;simp at d6;have f6:=qB rl6 0;have oF:=qh (qj.set (j:=0) (g:=bl) (u:=.slice a6 (L.length+1) c6) o6 (show bl < W5.heap.size by omega));have rlF:=qh (qq rl6 0 (.slice a6 (L.length+1) c6));have r0F:=qh (qJ (j:=0) (v:=.slice a6 (L.length+1) c6) r06 (show bl≠w.heap.size by omega));have bF:=qh (B6.o.setCell (p:=⟨bl,0,none⟩) (by show w.heap.size<=bl;omega) (.slice a6 (L.length+1) c6));have oF:=qh (qj.base oF.o (show w.heap.size<=W5.heap.size by omega));clear QO5 b5 b6 b56 rl6 r06;go_wp2_with fail;refine⟨⟨k+1,_,by omega,by go_num,r0F.o,by simpa using rlF.o,?_,bF.o⟩,by simp[intOf];omega⟩;rw[HX.o];exact oF.o
  ·obtain rfl:k=os.length:=by omega
   have hq:decide ((os.length:Int) < (os.length:Int))=false:=by simp
   have x0:=qa Q0.o 0;simp at x0;have xl:=qd Q0.o;have xf:=qB Q0.o 0;have rF:=qq Q0.o 0 (.slice au L.length cu);have hne:bl≠w.heap.size:=fun e=>by have:=Q0.o;rw[←e,QL.o] at this;simp at this
   have oo:=QO.o;have hLe:=qh (show L=os.map (·.init) by rw[←HL.o,List.take_length]);have oF:=qj.other (j:=0) oo (qj.neT oo Q0.o (by decide)) (.slice au L.length cu);have bF:=qh (QB.o.setCell (p:=⟨w.heap.size,0,none⟩) (Nat.le_refl _) (.slice au L.length cu));have oF:=qh oF;have c0:=qa rF 0;simp at c0;clear oo rF;go_wp2_with fail;refine bodyPost_ret (v:=.tuple #[.agg #[.slice au L.length cu],.nilIface]) (by simp[results,Tryz.results18,go_sem,c0]) rfl ?_;exact⟨_,rfl,hLe.o▸oF.o,bF.o⟩
end
def Kg (l:List UInt8):Nat:=l.foldl (fun a c=>10*a+(c.toNat - 48)) 0
theorem RD (l:List UInt8) (c:UInt8):Kg (l++[c])=10*Kg l+(c.toNat - 48):=by simp[Kg,List.foldl_append]
theorem Xd {d:Nat} (h:d < 10):(UInt8.ofNat (48+d)).toNat=48+d:=by
 rw[UInt8.toNat_ofNat'];omega
theorem UY (u:Nat):Kg (decDigits u)=u:=by
 induction u using Nat.strongRecOn with
 |_ u ih=>
  by_cases h:u < 10
  ·rw [decDigits,dif_pos h]
   simp only[Kg,List.foldl_cons,List.foldl_nil,Xd h];omega
  ·rw [decDigits,dif_neg h,RD,ih (u / 10) (by omega),Xd (Nat.mod_lt _ (by omega))]
   omega
theorem Xe (u:Nat):∀c ∈ decDigits u,48<=c.toNat/\c.toNat<=57:=by
 induction u using Nat.strongRecOn with
 |_ u ih=>
  intro c hc;by_cases h:u < 10
  ·rw [decDigits,dif_pos h] at hc
   obtain rfl:=List.mem_singleton.1 hc;rw[Xd h];omega
  ·rw [decDigits,dif_neg h] at hc
   rcases List.mem_append.1 hc with hc|hc
   ·exact ih (u / 10) (by omega) c hc
   ·obtain rfl:=List.mem_singleton.1 hc
    rw[Xd (Nat.mod_lt _ (by omega))];omega
theorem My {a b:Nat} (h:decDigits a=decDigits b):a=b:=by rw[←UY a,h,UY]
theorem qci {a b:Int} (h:itoa a=itoa b):a=b:=by
 unfold itoa at h
 split at h
 ·split at h
  ·have:=My (List.cons.inj h).2
   omega
  ·exfalso
   have h1:(45:UInt8) ∈ decDigits b.toNat:=by rw[←h];exact List.mem_cons_self ..
   have:=(Xe _ _ h1).1;have e:(45:UInt8).toNat=45:=rfl;omega
 ·split at h
  ·exfalso
   have h1:(45:UInt8) ∈ decDigits a.toNat:=by rw[h];exact List.mem_cons_self ..
   have:=(Xe _ _ h1).1;have e:(45:UInt8).toNat=45:=rfl;omega
  ·have:=My h
   omega
theorem Nj (x:Int):∀c ∈ itoa x,c≠59:=by
 intro c hc e;subst e;have e:(59:UInt8).toNat=59:=rfl;unfold itoa at hc
 split at hc
 ·rcases List.mem_cons.1 hc with h|h
  ·exact absurd h (by decide)
  ·have:=(Xe _ _ h).2;omega
 ·have:=(Xe _ _ hc).2;omega
def vB (x:Int):List UInt8:=[114,101,103,105,115,116,101,114,32]++itoa x
def Jz (σ:List Int):List UInt8:=join (σ.map vB) [59,32]
theorem Ji (x:Int):∀c ∈ vB x,c≠59:=by
 intro c hc;unfold vB at hc;rcases List.mem_append.1 hc with h|h
 ·simp at h
  rcases h with rfl|rfl|rfl|rfl|rfl|rfl|rfl|rfl|rfl <;> decide
 ·exact Nj x c h
theorem Ka {x y:Int} (h:vB x=vB y):x=y:=qci (List.append_cancel_left h)
theorem JA (a b:List UInt8) (l:List (List UInt8)) (s:List UInt8):join (a::b::l) s=a++(s++join (b::l) s):=by
 unfold join;rw[List.intercalate_cons_cons];simp
theorem qbk {a b:List UInt8} (ha:∀c ∈ a,c≠59) (hb:∀c ∈ b,c≠59) {r t:List UInt8} (h:a++59::r=b++59::t):a=b/\r=t:=by
 induction a generalizing b with
 |nil=>
  cases b with
  |nil=>simpa using h
  |cons y b=>
   simp at h;exact absurd h.1.symm (hb y (List.mem_cons_self ..))
 |cons x a ih=>
  cases b with
  |nil=>
   simp at h;exact absurd h.1 (ha x (List.mem_cons_self ..))
  |cons y b=>
   simp only[List.cons_append,List.cons.injEq] at h;obtain⟨rfl,h2⟩:=h;obtain⟨rfl,h3⟩:=ih (fun c hc=>ha c (List.mem_cons_of_mem _ hc)) (fun c hc=>hb c (List.mem_cons_of_mem _ hc)) h2;exact⟨rfl,h3⟩
theorem Ks:∀{σ τ:List Int},σ.length=τ.length->Jz σ=Jz τ->σ=τ
 |[],[],_,_=>rfl
 |[],_::_,h,_=>by simp at h
 |_::_,[],h,_=>by simp at h
 |[x],[y],_,h=>by
  have:vB x=vB y:=by simpa[Jz,join] using h
  rw[Ka this]
 |[_],_::_::_,h,_=>by simp at h
 |_::_::_,[_],h,_=>by simp at h
 |x::x2::σ,y::y2::τ,hl,h=>by
  have e:∀(z z2:Int) (ρ:List Int),Jz (z::z2::ρ)=vB z++59::([32]++Jz (z2::ρ)):=fun z z2 ρ=>by
   show join (vB z::vB z2::ρ.map vB) _=_;rw[JA];rfl
  rw[e,e] at h;obtain⟨h1,h2⟩:=qbk (Ji x) (Ji y) h;rw[Ka h1,Ks (σ:=x2::σ) (τ:=y2::τ) (by simpa using hl) (List.append_cancel_left h2)]
theorem Ku {x:Int} (h0:-1000000000<=x) (h1:x<=1000000000):(itoa x).length<=12:=by
 have key:∀u:Nat,u<=1000000000->(decDigits u).length<=10:=fun u hu=>by
  rw[decDigits_length];by_cases h:u=0
  ·subst h;rw[nDigits_small (by omega)];omega
  ·have hp:=nDigits_pos u
   rcases Nat.lt_or_ge 10 (nDigits u) with hlt|hge
   ·exfalso
    have:10 ^ (nDigits u - 1)<=u:=by
     have key2:∀v:Nat,v≠0->10 ^ (nDigits v - 1)<=v:=fun v=>by
      induction v using Nat.strongRecOn with
      |_ v ih=>
       intro hv;by_cases h:v < 10
       ·rw [nDigits_small h];simp;omega
       ·rw [nDigits_big h]
        have:=ih (v / 10) (by omega) (by omega);have h3:=nDigits_pos (v / 10);rw[show nDigits (v / 10)+1 - 1=(nDigits (v / 10) - 1)+1 by omega,Nat.pow_succ];omega
     exact key2 u h
    have h2:10 ^ 10<=10 ^ (nDigits u - 1):=Nat.pow_le_pow_right (by omega) (by omega);omega
   ·exact hge
 unfold itoa
 split
 ·have:=key x.natAbs (by omega)
  simp only[List.length_cons];omega
 ·have:=key x.toNat (by omega)
  omega
def XH (m:Nat):Type:={n:Nd // n.1 < 4096/\n.2.length=m/\m<=8/\∀x ∈ n.2,-1000000000<=x/\x<=1000000000}
def uv (σ:List Int):ByteArray:=⟨(Jz σ).toArray⟩
theorem qcg {σ τ:List Int} (hl:σ.length=τ.length) (h:uv σ=uv τ):σ=τ:=by
 refine Ks hl ?_;have:=congrArg (fun b:ByteArray=>b.data.toList) h;simpa[uv] using this
theorem Kt {n:Nat}:∀(l:List (List UInt8)),(∀x ∈ l,x.length<=n)->(Lib.join l [59,32]).length<=l.length*(n+2)
 |[],_=>by simp[Lib.join]
 |[x],h=>by
  have:=h x (by simp);simp[Lib.join];omega
 |x::y::l,h=>by
  rw[JA];have h1:=h x (by simp);have h2:=Kt (y::l) fun z hz=>h z (List.mem_cons_of_mem _ hz);simp only[List.length_append,List.length_cons,List.length_nil,Nat.add_mul] at *;omega
theorem Kr {σ:List Int} (hv:∀x ∈ σ,-1000000000<=x/\x<=1000000000):(Jz σ).length<=σ.length*23:=by
 have:=Kt (n:=21) (σ.map vB) fun x hx=>by
  obtain⟨y,hy,rfl⟩:=List.mem_map.1 hx;have:=Ku (hv y hy).1 (hv y hy).2;simp only[vB,List.length_append,List.length_cons,List.length_nil];omega
 simpa[Jz] using this
def vI {m:Nat} (n:XH m):Value:=.agg #[.int .i64 (n.1.1:Nat),.string (uv n.1.2)]
theorem qcb:laidOutB Tryz.prog=true:=by kernel_rfl
theorem Rz:Keyed Tryz.prog 201:=Keyed.of_law (deep_law_laid qcb (m:=3) (by omega) (by decide+kernel) (by kernel_rfl) (by kernel_rfl))
theorem Ri:∃m,Tryz.prog.types.size=m+1+1:=⟨Tryz.prog.types.size - 2,by kernel_rfl⟩
theorem qfO {m:Nat} (n:XH m):∃l,keyOf Tryz.prog 201 (vI n)=some l:=by
 obtain⟨⟨p,σ⟩,hp,hl,hm,hv⟩:=n;have hsz:(uv σ).size<=maxLen:=by
  have:=Kr hv;simp only at hl this;show(Jz σ).toArray.size<=_;simp only[List.size_toArray];unfold maxLen;omega
 have hw:(Lit.int .i64 (p:Int)).wf=true:=by
  have hp:p < 4096:=hp;unfold Lit.wf;simp[IntKind.min,IntKind.max,IntKind.bits,IntKind.signed];omega
 obtain⟨k,hk⟩:=Ri;have h1:Tryz.prog.keyType 201=true:=by kernel_rfl
 have h2:(vI ⟨(p,σ),hp,hl,hm,hv⟩:Value).formed Tryz.prog 201=true:=by kernel_rfl
 have h3:Tryz.prog.cellsOf 201=2:=by kernel_rfl
 have h4:Tryz.prog.cellsOf 3=1:=by kernel_rfl
 have h5:Tryz.prog.cellsOf 9=1:=by kernel_rfl
 unfold keyOf;rw[Tryz.underlying201];simp only;rw[if_pos (by rw[h1,h2];rfl),hk];simp[Program.keyLits,Tryz.underlying201,Tryz.underlying3,Tryz.underlying9,h3,h4,h5,vI,Value.cells,hw,hsz]
theorem qed {m:Nat} {x y:XH m} (h:vI x=vI y):x=y:=by
 obtain⟨⟨p,σ⟩,hx⟩:=x;obtain⟨⟨q,τ⟩,hy⟩:=y;simp only[vI,Value.agg.injEq,Array.mk.injEq,List.cons.injEq,Value.int.injEq,Value.string.injEq,true_and,and_true] at h;obtain⟨h1,h2⟩:=h;have e1:p=q:=by omega
 have e2:σ=τ:=qcg (by rw[hx.2.1,hy.2.1]) h2;subst e1 e2;rfl
theorem kap (m:Nat):WE Tryz.prog 201 (vI (m:=m)):=⟨qed,Rz,qfO⟩
section
attribute [local irreducible] xE
def uO (g:Nat) (w:World):Prop:=g < w.heap.size/\∃t v,w.cell? ⟨g,0,none⟩=some (.iface t v)
theorem uO.below {g:Nat} {w w':World} (h:uO g w) (hb:Below w.heap.size w w'):uO g w':=by
 obtain⟨h1,t,v,h2⟩:=h;exact⟨by have:=hb.size;omega,t,v,qx hb h1 h2⟩
structure DdR (m:Nat) (d:Dd):Prop where
 obj:0<=d.obj/\d.obj < m
 op:d.op=1/\d.val=0\/d.op=2/\-1000000000<=d.val/\d.val<=1000000000
 key:d.key=0
theorem qhg {ρ:List Int} {d:Dd} {m c:Nat} {x:Int} (h:DdR m d) (hr:d.ret≠0) (hc:d.obj=c) (hx:ρ[c]?=some x):
  Mx ρ d=if (Rd x d.op d.val).2.1=d.ret/\(Rd x d.op d.val).2.2=d.got then some (ρ.set c (Rd x d.op d.val).1) else none:=by
 unfold Mx Rd;rw[if_neg hr,hc,Int.toNat_natCast];rcases h.op with⟨h1,h2⟩|⟨h1,h2⟩
 ·have:¬d.op=2:=by omega
  rw[if_neg this,if_neg this,hx];have hs:ρ.set c x=ρ:=by
   apply List.ext_getElem?;intro j;by_cases e:c=j
   ·subst e;rw[List.getElem?_set_self (List.getElem?_eq_some_iff.1 hx).1,hx]
   ·rw [List.getElem?_set_ne e]
  simp only[hs,Option.some.injEq];by_cases h3:d.ret=3
  ·by_cases h4:x=d.got
   ·rw [if_pos ⟨h3,h4⟩,if_pos ⟨h3.symm,h4⟩]
   ·rw [if_neg (fun h=>h4 h.2),if_neg (fun h=>h4 h.2)]
  ·rw [if_neg (fun h=>h3 h.1),if_neg (fun h=>h3 h.1.symm)]
 ·rw [if_pos h1,if_pos h1]
  by_cases h3:d.ret=1/\d.got=0
  ·rw [if_pos h3,if_pos ⟨h3.1.symm,h3.2.symm⟩]
  ·rw [if_neg h3,if_neg (fun h=>h3 ⟨h.1.symm,h.2.symm⟩)]
theorem Kc (d:Dd) (w:World):
  Calls Tryz.prog 190 #[.agg d.cells.toArray,.int .i64 d.ret,.int .i64 d.got] w fun e w'=>e=.returned .nilIface/\Below w.heap.size w w':=by
 obtain⟨o,p,k,v,r,g,a,b⟩:=d;have b0:Below w.heap.size w (w.alloc (.cells #[.int .i64 o,.int .i64 p,.int .i64 k,.int .i64 v,.int .i64 r,.int .i64 g,.int .i64 a,.int .i64 b] 112)):=(Below.refl _ w).alloc (Nat.le_refl _) _;have q1:(r !=r)=false:=by simp
 have q2:(g !=g)=false:=by simp
 simp only[Dd.cells];go_enter Tryz.func190,Tryz.ntmps190;go_wp2;go_ret;exact⟨rfl,b0⟩
theorem Rx (d:Dd) (ret got:Int) (hne:¬(ret=d.ret/\got=d.got)) (w:World) (hE:uO 16 w):
  Calls Tryz.prog 190 #[.agg d.cells.toArray,.int .i64 ret,.int .i64 got] w fun e w'=>(∃t v,e=.returned (.iface t v))/\Below w.heap.size w w':=by
 obtain⟨hg,ty,va,hv⟩:=hE;obtain⟨o,p,k,v,r,g,a,b⟩:=d;have b0:Below w.heap.size w (w.alloc (.cells #[.int .i64 o,.int .i64 p,.int .i64 k,.int .i64 v,.int .i64 r,.int .i64 g,.int .i64 a,.int .i64 b] 112)):=(Below.refl _ w).alloc (Nat.le_refl _) _;simp only[Dd.cells] at hne ⊢;by_cases h1:ret=r
 ·have q1:(ret !=r)=false:=by simpa using h1
  have q2:(got !=g)=true:=by simpa using fun h2=>hne ⟨h1,h2⟩
  clear h1 hne;go_enter Tryz.func190,Tryz.ntmps190;go_wp2;go_ret;exact⟨⟨ty,va,rfl⟩,b0⟩
 ·have q1:(ret !=r)=true:=by simpa using h1
  clear h1 hne;go_enter Tryz.func190,Tryz.ntmps190;go_wp2;go_ret;exact⟨⟨ty,va,rfl⟩,b0⟩
theorem qbx {σ:List Int} {ds:List Dd} {k:Nat} (h:Jh σ (ds.take k)=none):Jh σ ds=none:=by
 rw[←List.take_append_drop k ds,NV,h]
def qeX (w:World) (v:Value) (o:Option (List Int)) (e:Ending) (w':World):Prop:=(match o with
 |some τ=>∃v',e=.returned (.tuple #[NP v',.nilIface])/\js w' 0 v' τ/\(v'=v\/∀k,v'.ownBlock=some k->w.heap.size<=k)
 |none=>∃t v,e=.returned (.tuple #[NP (.slice none 0 0),.iface t v]))/\Below w.heap.size w w'
def qgt (w:World) (o:Option (List Int)) (e:Ending) (w':World):Prop:=(match o with
 |some τ=>∃v',e=.returned (.tuple #[NP v',.nilIface])/\js w' 0 v' τ
 |none=>∃t v,e=.returned (.tuple #[NP (.slice none 0 0),.iface t v]))/\Below w.heap.size w w'
theorem qdV (v dv:Value) (σ:List Int) (ds:List Dd) (w:World) (h:js w 0 v σ) (hl:σ.length<=1000) (hd:Sl w w.heap.size 8 dv ds.length (ds.flatMap Dd.cells)) (hok:∀d ∈ ds,DdR σ.length d) (hE:uO 16 w):
  Calls Tryz.prog 132 #[NP v,dv] w (qeX w v (Jh σ ds)):=by
 obtain⟨a,c,rfl,hm⟩:=(qj.sl h).ex;obtain⟨ad,cd,rfl,md⟩:=hd.ex;have b0:Below w.heap.size w ((w.alloc (.cells #[.slice a σ.length c] 57)).alloc (.cells #[.slice none 0 0] 57)):=((Below.refl _ w).alloc (Nat.le_refl _) _).alloc (by simp) _;have r0:=qD (o:=.cells #[.slice none 0 0] 57) (qy w (.cells #[.slice a σ.length c] 57));have r1:=qy (w.alloc (.cells #[.slice a σ.length c] 57)) (.cells #[.slice none 0 0] 57);have hz:((w.alloc (.cells #[.slice a σ.length c] 57)).alloc (.cells #[.slice none 0 0] 57)).heap.size=w.heap.size+2:=by simp
 simp only[World.size_alloc] at r1;obtain⟨n0,hn0⟩:∃n0,n0=w.heap.size:=⟨_,rfl⟩
 go_enter Tryz.func132,Tryz.ntmps132;go_wp2_with fail;generalize (w.alloc (.cells #[.slice a σ.length c] 57)).alloc (.cells #[.slice none 0 0] 57)=W at *;have R0:=qh r0;have R1:=qh r1;have B0:=qh b0;have H:=qh h;have HD:=qh hd;have HOK:=qh hok;have HE:=qh hE;clear r0 r1 b0 h hd hok hE
 go_loopw [14] (fun p wr=>∃(i:Nat) (u:Value) (ρ:List Int),i<=ds.length/\p=.int .i64 i/\Jh σ (ds.take i)=some ρ/\wr.heap[w.heap.size]?=some (.cells #[u] 57 (0,0))/\wr.heap[w.heap.size+1]?=some (.cells #[.slice none 0 0] 57 (0,0))/\js wr 0 u ρ/\Below w.heap.size w wr/\W.heap.size<=wr.heap.size/\(u=.slice a σ.length c\/∀k,u.ownBlock=some k->w.heap.size<=k)) (fun p _=>ds.length - (intOf p).toNat)
 case atStart=>exact⟨0,_,σ,by omega,by go_num,rfl,R0.o,R1.o,qj.below H.o B0.o,B0.o,Nat.le_refl _,.inl rfl⟩
 case round=>
  obtain⟨i,u,ρ,hi,rfl,hrep,q0,q1,ho,hB,hz2,hu⟩:=hrel;have HU:=qh hu;have hρl:=VO hrep;obtain⟨au,cu,rfl,-⟩:=(qj.sl ho).ex;have HRL:=qh hρl;have HREP:=qh hrep;have HO:=qh ho;have HB:=qh hB;have Q0:=qh q0;have Q1:=qh q1;clear hrep ho hB q0 q1 hρl hu;by_cases hlt:i < ds.length
  ·obtain ⟨b,off,d,hat,hb,hx,hc⟩:=(HD.o.below HB.o).atF Dd.len rfl hlt
   have c0:=hc 0 (by decide);have c1:=hc 1 (by decide);have c2:=hc 2 (by decide);have c3:=hc 3 (by decide);have c4:=hc 4 (by decide);have c5:=hc 5 (by decide);have c6:=hc 6 (by decide);have c7:=hc 7 (by decide);have hdr:=HOK.o d (List.mem_of_getElem? hx);have htk:ds.take (i+1)=ds.take i++[d]:=by rw[List.take_add_one,hx];rfl
   have hsn:Jh σ (ds.take (i+1))=Mx ρ d:=by rw[htk,qbw HREP.o]
   have hbw:b < wr.heap.size:=by omega
   obtain⟨o,p,k,vl,r,g,at0,bk⟩:=d;simp[Dd.cells] at c0 c1 c2 c3 c4 c5 c6 c7;have hkey:k=0:=hdr.key;subst hkey hat;have HX:=qh hx;have HS:=qh hsn;have HDR:=qh hdr;clear hc hx hsn htk hdr;by_cases hr0:r=0
   ·subst hr0
    go_wp2_with fail;go_roundw
    case rel=>
     have hb:=HB.o.alloc (show w.heap.size<=wr.heap.size by omega) (.cells #[.int .i64 o,.int .i64 p,.int .i64 0,.int .i64 vl,.int .i64 0,.int .i64 g,.int .i64 at0,.int .i64 bk] 112);refine⟨i+1,_,ρ,by omega,by go_num,by rw[HS.o];simp[Mx],qD Q0.o,qD Q1.o,qj.alloc HO.o _,hb,by simp;omega,HU.o⟩
    case measure=>simp[intOf];omega
   ·have q1:(r==0)=false:=by simpa using hr0
    obtain⟨cc,hcc⟩:=Int.eq_ofNat_of_zero_le HDR.o.obj.1;simp only at hcc;subst hcc;have hcl:cc < ρ.length:=by have:=HDR.o.obj.2;have:=HRL.o;simp only at *;omega
    obtain⟨x,hxx⟩:∃x,ρ[cc]?=some x:=⟨_,List.getElem?_eq_getElem hcl⟩
    have hdo:=qhg HDR.o hr0 rfl hxx;have hop:=HDR.o.op;simp only at hdo hop;have hDo:=fun(X:World) (hX:SlS X X.heap.size (.slice au ρ.length cu) ρ)=>qgD _ ρ cc x p vl X hX (by have:=HRL.o;omega) hxx hop;generalize Rd x p vl=D at *;obtain⟨D1,D2,D3⟩:=D;simp only at hdo;have HDO:=qh hdo;have y0:=qa Q0.o 0;simp at y0;have y0l:=qd Q0.o;obtain⟨W2,rfl⟩:∃W2,W2=wr:=⟨_,rfl⟩
    clear hdo hop hxx;go_wp2_with fail;have b2:Below W2.heap.size W2 (W2.alloc (.cells #[.int .i64 (cc:Int),.int .i64 p,.int .i64 0,.int .i64 vl,.int .i64 r,.int .i64 g,.int .i64 at0,.int .i64 bk] 112)):=(Below.refl _ W2).alloc (Nat.le_refl _) _;have rd:=qy W2 (.cells #[.int .i64 (cc:Int),.int .i64 p,.int .i64 0,.int .i64 vl,.int .i64 r,.int .i64 g,.int .i64 at0,.int .i64 bk] 112);have zd:W2.heap.size < (W2.alloc (.cells #[.int .i64 (cc:Int),.int .i64 p,.int .i64 0,.int .i64 vl,.int .i64 r,.int .i64 g,.int .i64 at0,.int .i64 bk] 112)).heap.size:=by simp
    generalize W2.alloc (.cells #[.int .i64 (cc:Int),.int .i64 p,.int .i64 0,.int .i64 vl,.int .i64 r,.int .i64 g,.int .i64 at0,.int .i64 bk] 112)=W3 at *;refine(hDo W3 (((qj.sl HO.o).below b2).more b2.size)).mono ?_;rintro e W4 ⟨v',rfl,o4,b4⟩;obtain⟨a',c',rfl,-⟩:=(qj.sl o4).ex;have rd:=qp rd b4 zd;have y:=qa rd;have e0:=y 0;have e1:=y 1;have e2:=y 2;have e3:=y 3;have e4:=y 4;have e5:=y 5;have e6:=y 6;have e7:=y 7;simp at e0 e1 e2 e3 e4 e5 e6 e7;have b5:Below W2.heap.size W2 W4:=b2.trans (b4.mono b2.size);have hz5:=b5.size;have rdl:=qd rd;have O4:=qh o4;have B5:=qh b5;clear y rd b2 b4 b5 o4;by_cases hfit:D2=r/\D3=g
    ·have hdo:=HDO.o
     rw[if_pos hfit] at hdo;obtain⟨rfl,rfl⟩:=hfit;go_wp2_with fail;have b6:Below W4.heap.size W4 (W4.alloc (.cells #[.slice a' ρ.length c'] 57)):=(Below.refl _ W4).alloc (Nat.le_refl _) _;have r6:=qy W4 (.cells #[.slice a' ρ.length c'] 57);have z6:W4.heap.size < (W4.alloc (.cells #[.slice a' ρ.length c'] 57)).heap.size:=by simp
     generalize W4.alloc (.cells #[.slice a' ρ.length c'] 57)=W5 at *;refine(Kc ⟨cc,p,0,vl,D2,D3,at0,bk⟩ W5).mono ?_;rintro e W6 ⟨rfl,b7⟩;have r7:=qp r6 b7 z6;have f0:=qa r7 0;simp at f0;have f0l:=qd r7;have b8:Below W2.heap.size W2 W6:=B5.o.trans ((b6.mono hz5).trans (b7.mono (by omega)));have q0:=qp Q0.o b8 y0l;have q1:=qp Q1.o b8 (qd Q1.o);have p0:=qa q0 0;simp at p0;have p0f:=qB q0 0;have p0l:=qd q0;have hq0:=qq q0 0 (.slice a' ρ.length c');have hq1:=qJ (g':=w.heap.size) (j:=0) (v:=.slice a' ρ.length c') q1 (by omega);have o8:=qj.below (qj.below O4.o b6) b7;have o9:=qj.other (j:=0) o8 (qj.neT o8 q0 (by decide)) (.slice a' ρ.length c');have B9:=qh ((HB.o.trans (b8.mono (by omega))).setCell (p:=⟨w.heap.size,0,none⟩) (Nat.le_refl _) (.slice a' ρ.length c'));have hz9:=b8.size;have Q0':=qh hq0;have Q1':=qh hq1;have O9:=qh o9;clear r6 r7 b6 b7 b8 q0 q1 hq0 hq1 o8 o9;go_wp2_with fail;go_roundw
     case rel=>exact⟨i+1,.slice a' ρ.length c',ρ.set cc D1,by omega,by go_num,by rw[HS.o,hdo],Q0'.o,Q1'.o,by simpa using qj.base O9.o (Nat.zero_le _),B9.o,by simp;omega,.inr fun k e=>by have:=(qj.lt O9.o k (by rwa [List.length_set])).1;omega⟩
     case measure=>simp[intOf];omega
    ·have hdo:=HDO.o
     rw[if_neg hfit] at hdo;go_wp2_with fail;have b6:Below W4.heap.size W4 (W4.alloc (.cells #[.slice a' ρ.length c'] 57)):=(Below.refl _ W4).alloc (Nat.le_refl _) _;generalize W4.alloc (.cells #[.slice a' ρ.length c'] 57)=W5 at *;have hE5:uO 16 W5:=((HE.o.below HB.o).below B5.o).below b6;refine(Rx ⟨cc,p,0,vl,r,g,at0,bk⟩ D2 D3 hfit W5 hE5).mono ?_;rintro e W6 ⟨⟨ty,va,rfl⟩,b7⟩;have b8:Below W2.heap.size W2 W6:=B5.o.trans ((b6.mono hz5).trans (b7.mono (by have:=b6.size;omega)));have q1:=qp Q1.o b8 (qd Q1.o);have p0:=qa q1 0;simp at p0;have p0f:=qB q1 0;have p0l:=qd q1;have hq1:=qq q1 0 (.slice none 0 0);have B9:=qh ((HB.o.trans (b8.mono (by omega))).setCell (p:=⟨w.heap.size+1,0,none⟩) (show w.heap.size<=w.heap.size+1 by omega) (.slice none 0 0));have Q1':=qh hq1;clear b6 b7 b8 q1 hq1 hE5;go_wp2_with fail;have b10:=B9.o.alloc B9.o.size (.cells #[.int .i64 i,.iface ty va] 130);have c0:=qa (qD (o:=.cells #[.int .i64 i,.iface ty va] 130) Q1'.o) 0;simp at c0;refine bodyPost_ret (v:=.tuple #[NP (.slice none 0 0),.iface 128 (.pointer (some ⟨W6.heap.size,0,none⟩))]) (by simp[results,Tryz.results132,go_sem,c0]) rfl ?_;refine⟨?_,b10⟩;rw[qbx (HS.o.trans hdo)];exact⟨_,_,rfl⟩
  ·obtain rfl:i=ds.length:=by omega
   have q0:=qa Q0.o 0;have q1:=qa Q1.o 0;simp at q0 q1;have q1f:=qB Q1.o 0;have ql0:=qd Q0.o;have ql1:=qd Q1.o;have hq1:=qh (qq Q1.o 0 (.slice au ρ.length cu));go_wp2_with fail;have c0:=qa hq1.o 0;simp at c0;refine bodyPost_ret (v:=.tuple #[NP (.slice au ρ.length cu),.nilIface]) (by simp[results,Tryz.results132,go_sem,c0]) rfl ?_;have hrep:=HREP.o;rw[List.take_length] at hrep;refine⟨?_,HB.o.setCell (p:=⟨w.heap.size+1,0,none⟩) (show w.heap.size<=w.heap.size+1 by omega) _⟩;rw[hrep];exact⟨_,rfl,qj.other (j:=0) HO.o (qj.neT HO.o Q1.o (by decide)) _,HU.o⟩
theorem qfE (v dv:Value) (σ:List Int) (ds:List Dd) (w:World) (h:js w 0 v σ) (hl:σ.length<=1000) (hd:Sl w w.heap.size 8 dv ds.length (ds.flatMap Dd.cells)) (hok:∀d ∈ ds,DdR σ.length d) (hE:uO 16 w):
  Calls Tryz.prog 132 #[NP v,dv] w (qgt w (Jh σ ds)):=(qdV v dv σ ds w h hl hd hok hE).mono fun e w' ⟨h1,h2⟩=>⟨by
 cases hr:Jh σ ds with
 |none=>rw[hr] at h1;exact h1
 |some τ=>rw[hr] at h1;obtain⟨v',k1,k2,-⟩:=h1;exact⟨v',k1,k2⟩,h2⟩
end
section
attribute [local irreducible] xE
def paC {m:Nat} (n:XH m):List Value:=[.int .i64 (n.1.1:Nat),.string (uv n.1.2)]
theorem qfQ:(Tryz.prog.info? 201).map (fun i=>(i.zero,i.size,i.bytes))=some (some (.agg #[.int .i64 0,.string ⟨#[]⟩]),2,24):=by kernel_rfl
theorem qfF {m:Nat} (n:XH m):∀u ∈ paC n,u.oneCell'=true:=by intro u hu;simp[paC] at hu;rcases hu with rfl|rfl <;> rfl
structure NR where
 p:Nat
 sv:Value
def NR.cells (r:NR):List Value:=[.int .i64 (r.p:Nat),r.sv]
theorem NR.len (r:NR):r.cells.length=2:=rfl
abbrev NR.val (r:NR):Value:=.agg #[.int .i64 (r.p:Nat),r.sv]
theorem qcj:(Tryz.prog.info? 206).map (fun i=>(i.zero,i.size,i.bytes))=some (some (.agg #[.int .i64 0,.slice none 0 0]),2,32):=by kernel_rfl
theorem qbK (p:Nat) {a:Option Addr} {n c:Nat}:∀u ∈ NR.cells ⟨p,.slice a n c⟩,u.oneCell'=true:=by intro u hu;simp[NR.cells] at hu;rcases hu with rfl|rfl <;> rfl
def zG (w:World) (r:NR) (n:Nd):Prop:=r.p=n.1/\js w 0 r.sv n.2
theorem zG.below {w w':World} {r:NR} {n:Nd} (h:zG w r n) (hb:Below w.heap.size w w'):zG w' r n:=⟨h.1,qj.below h.2 hb⟩
theorem zG.kd {w w':World} {r:NR} {n:Nd} {T:TypeId->Prop} (h:zG w r n) (hk:Kd T w w') (ht:¬T 119):zG w' r n:=⟨h.1,qj.kd h.2 hk ht⟩
theorem zG.slv {w:World} {r:NR} {n:Nd} (h:zG w r n):∃a c,r.sv=.slice a n.2.length c:=let ⟨a,c,e,_⟩:=(qj.sl h.2).ex;⟨a,c,e⟩
structure uN (m:Nat) (w:World) (B bS bm:Nat) (most:Nat) (cv:Value) (L:List (XH m)):Prop where
 row:w.heap[bS]?=some (.cells #[.int .i64 (most:Nat),.map (some bm),cv] 279 (0,0))
 map:∃M:XH m->Option Value,xI vI w bm M/\(∀k,(M k).isSome=true↔k ∈ L)/\∀k u,M k=some u->∃n:Int,u=.int .i64 n
 came:qj paC 201 2 w B cv L
 hB:B<=bS/\B<=bm
section
variable {m B bS bm most:Nat} {cv:Value} {L:List (XH m)} {w w':World}
theorem uN.below (h:uN m w B bS bm most cv L) (hb:Below w.heap.size w w'):uN m w' B bS bm most cv L:=by
 obtain⟨h1,⟨M,h2,h3⟩,h4,h5⟩:=h;exact⟨qp h1 hb (qd h1),⟨M,h2.below hb h2.lt,h3⟩,qj.below h4 hb,h5⟩
theorem NK (w:World):(zeroValue 3).run Tryz.prog w=.ok (.int .i64 0) w:=by kernel_rfl
theorem qbo (h:uN m w B bS bm most cv L) (k:XH m) {b:Bool} (hb:b=true↔k ∈ L):∃v,∀X:World,X.heap[bm]?=w.heap[bm]?->(Instr.lookup 276 (.map (some bm)) (vI k) true).run Tryz.prog X=.ok (.tuple #[.int .i64 v,.bool b]) X:=by
 obtain⟨M,h2,h3,h4⟩:=h.map;have e:(M k).isSome=b:=by
  cases hM:(M k).isSome with
  |true=>exact(hb.2 ((h3 k).1 hM)).symm
  |false=>
   cases hbb:b with
   |false=>rfl
   |true=>rw[(h3 k).2 (hb.1 hbb)] at hM;cases hM
 cases hM:M k with
 |none=>
  refine⟨0,fun X hX=>?_⟩;have:=((h2.obj hX).look (kap m) Tryz.underlying276 (NK X) k rfl).2;rw[e,hM] at this;exact this
 |some u=>
  obtain⟨n,rfl⟩:=h4 k u hM;refine⟨n,fun X hX=>?_⟩;have:=((h2.obj hX).look (kap m) Tryz.underlying276 (NK X) k rfl).2;rw[e,hM] at this;exact this
theorem qgR (h:uN m w B bS bm most cv L) (k:XH m) {p:Nat} {s:ByteArray} (hk:vI k=.agg #[.int .i64 p,.string s]) {b:Bool} (hb:b=true↔k ∈ L):
  Calls Tryz.prog 148 #[.pointer (some ⟨bS,0,none⟩),.agg #[.int .i64 p,.string s]] w fun e w'=>e=.returned (.bool b)/\Below w.heap.size w w':=by
 have b0:Below w.heap.size w (w.alloc (.cells #[.int .i64 p,.string s] 201)):=(Below.refl _ w).alloc (Nat.le_refl _) _;have h0:=h.below b0;have y1:=qa h0.row 1;simp at y1;have yl:=qd h0.row;have r0:=qy w (.cells #[.int .i64 p,.string s] 201);have bl:bm < w.heap.size:=by obtain⟨M,h2,-⟩:=h.map;exact h2.lt
 go_enter Tryz.func148,Tryz.ntmps148;go_wp2_with fail;have hz:w.heap.size < (w.alloc (.cells #[.int .i64 p,.string s] 201)).heap.size:=by simp
 generalize w.alloc (.cells #[.int .i64 p,.string s] 201)=W at *;have z0:=qa r0 0;have z1:=qa r0 1;simp at z0 z1;have zl:=qd r0;obtain⟨v,lk⟩:=qbo h0 k hb;rw[hk] at lk;have blW:bm < W.heap.size:=by omega
 refine qI (W.heap.size) [0,0,0,1,1,1,0,0,0,0,0] (.fin [0,1,2,3,4,5,6,7,8,9,10]) (by kernel_rfl) ?_;simp only[xi,qP,qA,sD,sE,sF,sG]
 repeat first|(refine qz fun K hK=>?_;go_simp;refine hK _ _ ?_;clear hK K)|(apply qC;(intro w2 hw2;have hk1:=hw2.cell;have hk3:=hw2.1;clear hw2;go_simp;with_reducible rfl);simp only[Act.put,sA,sB,sC])
 refine xM (fun K hK=>?_);refine⟨.tuple #[.int .i64 v,.bool b],fun w2 hw2=>?_,?_⟩
 ·have:=lk w2 (hw2.2 bm blW)
  go_simp
 refine hK _ _ ?_;clear hK K
 repeat first|(refine qz fun K hK=>?_;go_simp;refine hK _ _ ?_;clear hK K)|refine qu ?_
 go_wp2;go_ret;exact⟨rfl,b0.drew⟩
def SFr (w w':World) (B:Nat):Prop:=Kd (fun t=>t=279\/t=201) w w'/\Below B w w'
def qfb (m:Nat) (w:World) (B bS bm most:Nat) (L:List (XH m)) (k:XH m) (ev:Value) (e:Ending) (w':World):Prop:=
 (k ∈ L/\e=.returned (.tuple #[.bool false,.nilIface])/\Below w.heap.size w w')\/
 (k ∉ L/\L.length=most/\e=.returned (.tuple #[.bool false,ev])/\Below w.heap.size w w')\/
 (k ∉ L/\L.length < most/\e=.returned (.tuple #[.bool true,.nilIface])/\(∃cv',uN m w' B bS bm most cv' (L++[k]))/\SFr w w' B)
theorem qgS (h:uN m w B bS bm most cv L) (hB:B<=w.heap.size) (hl:L.length<=most) (hm:most<=70000) (k:XH m) {t0:TypeId} {v0:Value} (hev:w.cell? ⟨1,0,none⟩=some (.iface t0 v0)) (hel:1 < w.heap.size):
  Calls Tryz.prog 96 #[.pointer (some ⟨bS,0,none⟩),vI k] w (qfb m w B bS bm most L k (.iface t0 v0)):=by
 classical
 have b0:Below w.heap.size w (w.alloc (.cells #[.int .i64 (k.1.1:Nat),.string (uv k.1.2)] 201)):=(Below.refl _ w).alloc (Nat.le_refl _) _;have h0:=h.below b0;have r0:=qy w (.cells #[.int .i64 (k.1.1:Nat),.string (uv k.1.2)] 201);have hev0:=qx b0 hel hev;have hz:(w.alloc (.cells #[.int .i64 (k.1.1:Nat),.string (uv k.1.2)] 201)).heap.size=w.heap.size+1:=by simp
 unfold vI;go_enter Tryz.func96,Tryz.ntmps96;go_wp2_with fail;generalize w.alloc (.cells #[.int .i64 (k.1.1:Nat),.string (uv k.1.2)] 201)=W at *;obtain⟨bb,hbb⟩:∃bb:Bool,bb=true↔k ∈ L:=⟨decide (k ∈ L),by simp⟩
 refine(qgR h0 k rfl hbb).mono ?_;rintro e W1 ⟨rfl,b1⟩;have h1:=h0.below b1;have r1:=qp r0 b1 (by omega);have hev1:=qx b1 (by omega) hev0;have B1:=qh (b0.trans (b1.mono (by omega)));have hz1:=b1.size;have hel1:1 < W1.heap.size:=by omega
 clear h h0 r0 hev hev0 b0 b1;cases hbc:bb with
 |true=>
  have hkL:k ∈ L:=hbb.1 hbc;clear hbb;subst hbc;go_wp2_with fail;refine bodyPost_ret (v:=.tuple #[.bool false,.nilIface]) (by simp[results,Tryz.results96,go_sem]) rfl ?_;exact .inl ⟨hkL,rfl,B1.o⟩
 |false=>
  subst hbc;have hnk:k ∉ L:=fun hk=>by have:=hbb.2 hk;cases this
  obtain⟨ac,cc,rfl,-⟩:=(qj.sl h1.came).ex;have y:=qa h1.row;have y0:=y 0;have y1:=y 1;have y2:=y 2;simp at y0 y1 y2;have yl:=qd h1.row;have z0:=qa r1 0;have z1:=qa r1 1;simp at z0 z1;have zl:=qd r1;have HN:=qh hnk;clear y hbb hnk;by_cases hfull:L.length=most
  ·have q1:((L.length:Int)==(most:Int))=true:=by simp;omega
   go_wp2_with fail;refine qI (W1.heap.size) [0,0,0,1,0,0,0,0,1,0] (.fin [0,1,2,3,4,5,6,7,8,9]) (by kernel_rfl) ?_;simp only[xi,qP,qA,sD,sE,sF,sG]
   repeat first|(refine qz fun K hK=>?_;go_simp;refine hK _ _ ?_;clear hK K)|(apply qC;(intro w2 hw2;have hk1:=hw2.cell;have hk3:=hw2.1;clear hw2;go_simp;with_reducible rfl);simp only[Act.put,sA,sB,sC])|refine qu ?_
   go_wp2_with fail;refine qI (W1.heap.size) [1,0,0] (.fin [0,1,2]) (by kernel_rfl) ?_;simp only[xi,qP,qA,sD,sE,sF,sG]
   repeat first|(refine qz fun K hK=>?_;go_simp;refine hK _ _ ?_;clear hK K)|(apply qC;(intro w2 hw2;have hk1:=hw2.cell;have hk3:=hw2.1;clear hw2;go_simp;with_reducible rfl);simp only[Act.put,sA,sB,sC])|refine qu ?_
   go_wp2_with fail;refine bodyPost_ret (v:=.tuple #[.bool false,.iface t0 v0]) (by simp[results,Tryz.results96,go_sem]) rfl ?_;exact .inr (.inl ⟨HN.o,hfull,rfl,B1.o.drew.drew⟩)
  ·have q1:((L.length:Int)==(most:Int))=false:=by simp;omega
   have hltm:L.length < most:=by omega
   clear hfull;go_wp2_with fail;refine qI (W1.heap.size) [0,0,0,1,0,0,0,0,1,0] (.fin [0,1,2,3,4,5,6,7,8,9]) (by kernel_rfl) ?_;simp only[xi,qP,qA,sD,sE,sF,sG]
   repeat first|(refine qz fun K hK=>?_;go_simp;refine hK _ _ ?_;clear hK K)|(apply qC;(intro w2 hw2;have hk1:=hw2.cell;have hk3:=hw2.1;clear hw2;go_simp;with_reducible rfl);simp only[Act.put,sA,sB,sC])|refine qu ?_
   go_wp2_with fail;obtain⟨M,hM,hM2,hM3'⟩:=h1.map;refine qI (W1.heap.size) [0,0,0,1,1,0,0,0,1,0,2] (.fin [0,1,2,3,4,5,6,7,8,9,10]) (by kernel_rfl) ?_;simp only[xi,qP,qA,sD,sE,sF,sG]
   repeat first|(refine qz fun K hK=>?_;go_simp;refine hK _ _ ?_;clear hK K)|(apply qC;(intro w2 hw2;have hk1:=hw2.cell;have hk3:=hw2.1;clear hw2;go_simp;with_reducible rfl);simp only[Act.put,sA,sB,sC])
   refine qM (fun K hK=>?_);obtain⟨w2,hrun,hMw,ht⟩:=hM.drew.drew.store (kap m) (t:=276) Tryz.underlying276 k (.int .i64 L.length);unfold vI at hrun;go_simp;refine hK _ _ ?_;clear hK K
   repeat refine qu ?_
   have bt:Below B W1 w2:=(Below.refl _ W1).drew.drew.trans (Below.turned ht h1.hB.2);have hz2:w2.heap.size=W1.heap.size:=qU (w:=W1.drew.drew) ht;have hBw2:B<=w2.heap.size:=by have:=h1.hB.1;have:=yl;omega
   have rS:w2.heap[bS]?=_:=(qY (w:=W1.drew.drew) ht (g:=bS) h1.row).trans h1.row;have rP:w2.heap[w.heap.size]?=_:=(qY (w:=W1.drew.drew) ht (g:=w.heap.size) r1).trans r1;have oC:qj paC 201 2 w2 B (.slice ac L.length cc) L:=qj.kd (T:=fun _=>False) h1.came (Kd.turned (w:=W1.drew.drew) ht) (fun h=>h);have kd2:Kd (fun t=>t=279\/t=201) W1 w2:=Kd.turned (w:=W1.drew.drew) ht;have y:=qa rS;have y0:=y 0;have y1:=y 1;have y2:=y 2;simp at y0 y1 y2;have yl:=qd rS;have z:=qa rP;have z0:=z 0;have z1:=z 1;simp at z0 z1;have zl:=qd rP;have zf:=fun j=>qB rS j;clear y z hz2;go_wp2_with fail;refine qI (w2.heap.size) [0,0,0,0,1,1,3,2,0,0,2] (.fin [0,1,2,3,4,5,6,7,8,9,10]) (by kernel_rfl) ?_;simp only[xi,qP,qA,sD,sE,sF,sG]
   repeat first|(refine qz fun K hK=>?_;go_simp;refine hK _ _ ?_;clear hK K)|(apply qC;(intro w2 hw2;have hk1:=hw2.cell;have hk3:=hw2.1;clear hw2;go_simp;with_reducible rfl);simp only[Act.put,sA,sB,sC])
   refine qG (fun K hK=>?_);go_simp;refine hK _ _ (RN.KeepsN.alloc w2.drew _ (Nat.le_refl _)) ?_;clear hK K;refine qM (fun K hK=>?_);rw[uz];refine ui _ _ _ rfl _ 24 Tryz.underlying277 qfQ rfl oC.drew k (show B<=w2.drew.heap.size from hBw2) (by rfl) (by rfl) (by first|rfl|simp) rfl (qfF _) (by first|omega|(simp only[List.length_append,List.length_cons,List.length_nil,List.length_replicate];omega)) (by first|omega|(simp only[List.length_append,List.length_cons,List.length_nil,List.length_replicate];omega)) ?_;intro g1 c1 w3 o3 G3;refine hK _ _ ?_;clear hK K;have neS:(Value.slice ac L.length cc).ownBlock≠some bS:=qj.neT oC rS (by decide);have neM:(Value.slice ac L.length cc).ownBlock≠some bm:=fun e=>by
    obtain⟨es,cl,hes⟩:=hMw.isMap;obtain⟨c2,hc2⟩:=oC.keepObj bm e;rw[hes] at hc2;cases hc2
   have rS3:w3.heap[bS]?=some _:=qL (w:=w2.drew) rS G3 neS;have hM3:w3.heap[bm]?=w2.heap[bm]?:=G3.grown.block bm hMw.lt fun e=>neM e.symm;have y:=qa rS3;have y2:=y 2;simp at y2;have yf:=qB rS3 2;have yl3:=qd rS3;have z3:w2.heap.size<=w3.heap.size:=G3.size;have rF:=qq rS3 2 (.slice (some ⟨g1,0,none⟩) (L.length+1) c1);have oF:=qj.other (j:=2) o3 (qj.neT o3 rS3 (by decide)) (.slice (some ⟨g1,0,none⟩) (L.length+1) c1);have hMF:xI vI (w3.setCell ⟨bS,2,none⟩ (.slice (some ⟨g1,0,none⟩) (L.length+1) c1)) bm (Jd M k (some (.int .i64 L.length))):=(hMw.obj hM3).set fun e=>by
    subst e;obtain⟨es,cl,hes⟩:=hMw.isMap;rw[rS] at hes;cases hes
   have bF:Below B w3 (w3.setCell ⟨bS,2,none⟩ (.slice (some ⟨g1,0,none⟩) (L.length+1) c1)):=(Below.refl _ w3).setCell (p:=⟨bS,2,none⟩) h1.hB.1 _;have kF:Kd (fun t=>t=279\/t=201) w3 (w3.setCell ⟨bS,2,none⟩ (.slice (some ⟨g1,0,none⟩) (L.length+1) c1)):=Kd.set rS3 (.inl rfl) _;have k3:Kd (fun t=>t=279\/t=201) w2 w3:=(Kd.grw (w:=w2.drew) oC.drew G3).mono fun t e=>.inr e;have b3:Below B w2 w3:=(Below.refl B w2).drew.trans (G3.below (show B<=w2.drew.heap.size from hBw2) fun j hj=>(qj.lt oC j hj).1);have BF:=qh ((((B1.o.mono hB).trans bt).trans b3).trans bF);have KF:=qh (((Kd.below B1.o).trans (kd2.trans k3)).trans kF);have RF:=qh rF;have OF:=qh oF;have MF:=qh hMF;clear y y0 y1 bt oC kd2 rS rP hMw hM3 G3 o3 rS3 rF oF hMF bF kF k3 b3 neS neM hM
   repeat (refine qz fun K hK=>?_;go_simp;refine hK _ _ ?_;clear hK K)
   refine qM (fun K hK=>?_);go_simp;refine hK _ _ ?_;clear hK K
   repeat refine qu ?_
   go_wp2_with fail;refine bodyPost_ret (v:=.tuple #[.bool true,.nilIface]) (by simp[results,Tryz.results96,go_sem]) rfl ?_;refine .inr (.inr ⟨HN.o,hltm,rfl,⟨_,⟨by simpa using RF.o,⟨_,MF.o,fun x=>?_,fun x u hx=>?_⟩,by simpa using OF.o,h1.hB⟩⟩,KF.o,BF.o⟩)
   ·by_cases e:x=k
    ·subst e;simp[zS]
    ·rw [uL e,hM2 x];simp[e]
   ·by_cases e:x=k
    ·subst e;rw[zS] at hx;exact⟨_,(Option.some.inj hx).symm⟩
    ·rw [uL e] at hx;exact hM3' x u hx
end
end
structure Fr (S:Nat->Prop) (w w':World):Prop where
 base:Below 0 w w'
 blk:∀k,k < w.heap.size->¬S k->w'.heap[k]?=w.heap[k]?
section
variable {S S':Nat->Prop} {w w1 w':World}
theorem Fr.refl (w:World):Fr S w w:=⟨Below.refl _ _,fun _ _ _=>rfl⟩
theorem Fr.trans (h:Fr S w w1) (k:Fr S' w1 w') (hS:∀b,b < w.heap.size->S' b->S b):Fr S w w':=
 ⟨h.base.trans k.base,fun b hb hn=>(k.blk b (Nat.lt_of_lt_of_le hb h.base.size) fun e=>hn (hS b hb e)).trans (h.blk b hb hn)⟩
theorem Fr.below (h:Below w.heap.size w w'):Fr S w w':=⟨h.mono (Nat.zero_le _),fun k hk _=>h.block k hk⟩
theorem Fr.setB {g:Nat} (hg:S g) (j:Nat) (v:Value):Fr S w (w.setCell ⟨g,j,none⟩ v):=
 ⟨(Below.refl 0 w).setCell (p:=⟨g,j,none⟩) (Nat.zero_le _) v,fun k _ hn=>Below.heap_setCell _ _ _ _ (by rintro rfl;exact hn hg)⟩
theorem Fr.grw {v v':Value} (h:Yt w w' v v'):Fr (fun k=>v.ownBlock=some k) w w':=
 ⟨⟨h.grown.os,h.grown.tape,h.grown.output,h.grown.size,fun _ hk=>absurd hk (Nat.not_lt_zero _)⟩,fun k hk hn=>h.grown.block k hk fun e=>hn e.symm⟩
theorem Fr.drew (h:Fr S w w'):Fr S w w'.drew:=⟨h.base.drew,h.blk⟩
theorem Fr.mono (h:Fr S w w') (hS:∀k,k < w.heap.size->S k->S' k):Fr S' w w':=⟨h.base,fun k hk hn=>h.blk k hk fun e=>hn (hS k hk e)⟩
theorem Fr.toBelow {B:Nat} (h:Fr S w w') (hB:B<=w.heap.size) (hS:∀k,k < B->¬S k):Below B w w':=
 ⟨h.base.os,h.base.tape,h.base.output,h.base.size,fun k hk=>h.blk k (Nat.lt_of_lt_of_le hk hB) (hS k hk)⟩
theorem Fr.row {g:Nat} {O:Obj} (h:Fr S w w') (hr:w.heap[g]?=some O) (hg:¬S g):w'.heap[g]?=some O:=(h.blk g (Array.getElem?_eq_some_iff.1 hr).1 hg).trans hr
theorem Fr.kd {T:TypeId->Prop} (h:Fr S w w') (hS:∀k cs t fz,S k->w.heap[k]?=some (.cells cs t fz)->T t):Kd T w w':=fun k cs t fz hk ht=>h.row hk fun e=>ht (hS k cs t fz e hk)
theorem qj.fr {α:Type} {f:α->List Value} {e:TypeId} {sz B:Nat} {v:Value} {l:List α} (h:qj f e sz w B v l) (hk:Fr S w w') (hn:∀k,v.ownBlock=some k->¬S k):qj f e sz w' B v l:=by
 obtain⟨h1,h2⟩:=h;refine⟨h1,?_⟩;rcases h2 with h2|⟨g,cap,cur,rfl,hg,hh,r⟩
 ·exact .inl h2
 ·exact .inr ⟨g,cap,cur,rfl,hg,hk.row hh (hn g rfl),r⟩
end
