/- Parts of the proof; the first: The library's contracts on the keys of a map[int]bool and on sorting, laid at this program's numbers. Conditions: those of each theorem, as typed. -/
import Derived.Shelf.SlIter.Nil
import Derived.Shelf.SlIterI.Nil
import Derived.Shelf.SortM.Plain
import Derived.Shelf.SortM.SortNone
import Derived.Ground.GgzProg
import Derived.Ground.SlgmProg
import Derived.Test.YtkfhgifhfkcehaaGreatDoorProg
import Derived.Test.YtkfhgifhfkcehaaGreatDoorQO10
import Derived.Test.YtkfhgifhfkcehaaGreatDoorQO27
set_option linter.unusedVariables false
set_option linter.unusedSimpArgs false
set_option linter.unusedSectionVars false
set_option maxRecDepth 100000
set_option maxHeartbeats 4000000
namespace Go.Proofs.YtkfhgifhfkcehaaGreatDoor
open Go.Maps Go.RowKit Go.Shelf Go.Sort
def keys97_ren:Go.Shelf.Ren:=⟨fun|7=>63|10=>111|n=>n,fun|23=>132|26=>3|3=>4|28=>140|0=>0|27=>139|33=>33|4=>4|n=>n,fun|n=>n⟩
theorem keys97:SlLaysZI.n7 Tryz.prog keys97_ren:={
 mixed:=by kernel_rfl
 f7:=⟨Tryz.f63.name,by decide,Tryz.func63.trans (congrArg some (by kernel_rfl))⟩
 f10:=⟨Tryz.f111.name,by decide,Tryz.func111.trans (congrArg some (by kernel_rfl))⟩
 t0:=Tryz.underlying0
 a0:=Tryz.isAgg0
 z0:=Tryz.sizeOf0
 v0:=Tryz.zeroValue0
 t4:=Tryz.underlying4
 a4:=Tryz.isAgg4
 z4:=Tryz.sizeOf4
 v4:=Tryz.zeroValue4
 t23:=Tryz.underlying132
 a23:=Tryz.isAgg132
 z23:=Tryz.sizeOf132
 v23:=Tryz.zeroValue132
 t26:=Tryz.underlying3
 a26:=Tryz.isAgg3
 z26:=Tryz.sizeOf3
 v26:=Tryz.zeroValue3
 t27:=Tryz.underlying139
 a27:=Tryz.isAgg139
 z27:=Tryz.sizeOf139
 v27:=Tryz.zeroValue139
 t28:=Tryz.underlying140
 a28:=Tryz.isAgg140
 z28:=Tryz.sizeOf140
 v28:=Tryz.zeroValue140
 t33:=Tryz.underlying33
 a33:=Tryz.isAgg33
 z33:=Tryz.sizeOf33
 v33:=Tryz.zeroValue33}
def sorted96_ren:Go.Shelf.Ren:=⟨fun|6=>62|8=>109|9=>110|11=>146|13=>148|12=>147|23=>208|24=>209|14=>199|15=>200|16=>201|17=>202|18=>203|19=>204|20=>205|21=>206|22=>207|25=>241|26=>242|27=>243|28=>244|29=>245|30=>246|31=>253|n=>n,fun|26=>3|28=>140|24=>22|0=>0|3=>3|37=>281|48=>332|50=>334|4=>4|40=>326|39=>325|45=>50|5=>5|9=>9|51=>352|55=>235|57=>360|58=>245|33=>33|n=>n,fun|n=>n⟩
theorem sorted96:SlLaysZI.n6 Tryz.prog sorted96_ren:={
 mixed:=by kernel_rfl
 f6:=⟨Tryz.f62.name,by decide,Tryz.func62.trans (congrArg some (by kernel_rfl))⟩
 f8:=⟨Tryz.f109.name,by decide,Tryz.func109.trans (congrArg some (by kernel_rfl))⟩
 f11:=⟨Tryz.f146.name,by decide,Tryz.func146.trans (congrArg some (by kernel_rfl))⟩
 t0:=Tryz.underlying0
 a0:=Tryz.isAgg0
 z0:=Tryz.sizeOf0
 v0:=Tryz.zeroValue0
 t24:=Tryz.underlying22
 a24:=Tryz.isAgg22
 z24:=Tryz.sizeOf22
 v24:=Tryz.zeroValue22
 t26:=Tryz.underlying3
 a26:=Tryz.isAgg3
 z26:=Tryz.sizeOf3
 v26:=Tryz.zeroValue3
 t28:=Tryz.underlying140
 a28:=Tryz.isAgg140
 z28:=Tryz.sizeOf140
 v28:=Tryz.zeroValue140
 i26:=by kernel_rfl}
def sort134_ren:Go.Shelf.Ren:=⟨fun|5=>110|8=>148|7=>147|19=>208|20=>209|10=>199|11=>200|12=>201|13=>202|14=>203|15=>204|16=>205|17=>206|18=>207|30=>241|31=>242|32=>243|33=>244|34=>245|35=>246|40=>253|n=>n,fun|23=>22|25=>3|3=>3|32=>281|22=>22|0=>0|44=>332|46=>334|4=>4|36=>326|35=>325|41=>50|5=>5|9=>9|53=>352|57=>235|63=>360|64=>245|n=>n,fun|n=>n⟩
theorem sort134:SlLaysM.n5 Tryz.prog sort134_ren:={
 mixed:=by kernel_rfl
 f5:=⟨Tryz.f110.name,by decide,Tryz.func110.trans (congrArg some (by kernel_rfl))⟩
 f7:=⟨Tryz.f147.name,by decide,Tryz.func147.trans (congrArg some (by kernel_rfl))⟩
 f8:=Tryz.func148.trans (congrArg some (by kernel_rfl))
 f10:=⟨Tryz.f199.name,by decide,Tryz.func199.trans (congrArg some (by kernel_rfl))⟩
 f11:=⟨Tryz.f200.name,by decide,Tryz.func200.trans (congrArg some (by kernel_rfl))⟩
 f12:=⟨Tryz.f201.name,by decide,Tryz.func201.trans (congrArg some (by kernel_rfl))⟩
 f13:=⟨Tryz.f202.name,by decide,Tryz.func202.trans (congrArg some (by kernel_rfl))⟩
 f14:=⟨Tryz.f203.name,by decide,Tryz.func203.trans (congrArg some (by kernel_rfl))⟩
 f15:=⟨Tryz.f204.name,by decide,Tryz.func204.trans (congrArg some (by kernel_rfl))⟩
 f16:=⟨Tryz.f205.name,by decide,Tryz.func205.trans (congrArg some (by kernel_rfl))⟩
 f17:=⟨Tryz.f206.name,by decide,Tryz.func206.trans (congrArg some (by kernel_rfl))⟩
 f18:=⟨Tryz.f207.name,by decide,Tryz.func207.trans (congrArg some (by kernel_rfl))⟩
 f19:=Tryz.func208.trans (congrArg some (by kernel_rfl))
 f20:=Tryz.func209.trans (congrArg some (by kernel_rfl))
 f30:=⟨Tryz.f241.name,by decide,Tryz.func241.trans (congrArg some (by kernel_rfl))⟩
 f31:=Tryz.func242.trans (congrArg some (by kernel_rfl))
 f32:=Tryz.func243.trans (congrArg some (by kernel_rfl))
 f33:=⟨Tryz.f244.name,by decide,Tryz.func244.trans (congrArg some (by kernel_rfl))⟩
 f34:=⟨Tryz.f245.name,by decide,Tryz.func245.trans (congrArg some (by kernel_rfl))⟩
 f35:=⟨Tryz.f246.name,by decide,Tryz.func246.trans (congrArg some (by kernel_rfl))⟩
 f40:=⟨Tryz.f253.name,by decide,Tryz.func253.trans (congrArg some (by kernel_rfl))⟩
 t0:=Tryz.underlying0
 a0:=Tryz.isAgg0
 z0:=Tryz.sizeOf0
 v0:=Tryz.zeroValue0
 t3:=Tryz.underlying3
 a3:=Tryz.isAgg3
 z3:=Tryz.sizeOf3
 v3:=Tryz.zeroValue3
 t4:=Tryz.underlying4
 a4:=Tryz.isAgg4
 z4:=Tryz.sizeOf4
 v4:=Tryz.zeroValue4
 t5:=Tryz.underlying5
 a5:=Tryz.isAgg5
 z5:=Tryz.sizeOf5
 v5:=Tryz.zeroValue5
 t9:=Tryz.underlying9
 a9:=Tryz.isAgg9
 z9:=Tryz.sizeOf9
 v9:=Tryz.zeroValue9
 t22:=Tryz.underlying22
 a22:=Tryz.isAgg22
 z22:=Tryz.sizeOf22
 v22:=Tryz.zeroValue22
 t23:=Tryz.underlying22
 a23:=Tryz.isAgg22
 z23:=Tryz.sizeOf22
 v23:=Tryz.zeroValue22
 t25:=Tryz.underlying3
 a25:=Tryz.isAgg3
 z25:=Tryz.sizeOf3
 v25:=Tryz.zeroValue3
 t32:=Tryz.underlying281
 a32:=Tryz.isAgg281
 z32:=Tryz.sizeOf281
 v32:=Tryz.zeroValue281
 t35:=Tryz.underlying325
 a35:=Tryz.isAgg325
 z35:=Tryz.sizeOf325
 v35:=Tryz.zeroValue325
 t36:=Tryz.underlying326
 a36:=Tryz.isAgg326
 z36:=Tryz.sizeOf326
 v36:=Tryz.zeroValue326
 t41:=Tryz.underlying50
 a41:=Tryz.isAgg50
 z41:=Tryz.sizeOf50
 v41:=Tryz.zeroValue50
 t44:=Tryz.underlying332
 a44:=Tryz.isAgg332
 z44:=Tryz.sizeOf332
 v44:=Tryz.zeroValue332
 t46:=Tryz.underlying334
 a46:=Tryz.isAgg334
 z46:=Tryz.sizeOf334
 v46:=Tryz.zeroValue334
 t53:=Tryz.underlying352
 a53:=Tryz.isAgg352
 z53:=Tryz.sizeOf352
 v53:=Tryz.zeroValue352
 t57:=Tryz.underlying235
 a57:=Tryz.isAgg235
 z57:=Tryz.sizeOf235
 v57:=Tryz.zeroValue235
 t63:=Tryz.underlying360
 a63:=Tryz.isAgg360
 z63:=Tryz.sizeOf360
 v63:=Tryz.zeroValue360
 t64:=Tryz.underlying245
 a64:=Tryz.isAgg245
 z64:=Tryz.sizeOf245
 v64:=Tryz.zeroValue245}
theorem sorts96 (m:Nat):AnyZI.SortsIn Tryz.prog sorted96_ren Fence.wide m:=
 ⟨fun blk off cap ss W hH hblk hsz=>callsIn_wide.2 (AnyM.slices_Sort_int sort134 blk off cap ss W hH hblk hsz),
  fun p cap W=>callsIn_wide.2 (AnyM.slices_Sort_int_none sort134 p cap W)⟩
def SrtI (l:List Int):Prop:=l.Pairwise fun a b=>a < b
theorem srt_leI {l:List Int} (h:SrtI l):l.Pairwise fun a b=>leI a b=true:=h.imp fun {a b} h=>by simp[leI];omega
theorem mergeSort_srt {l ss:List Int} (hp:ss.Perm l) (h:SrtI l):ss.mergeSort leI=l:=by
 rw[mergeSort_of_perm_i hp];exact List.mergeSort_of_pairwise (srt_leI h)
theorem intKeys_mapD {ε:Type} (ed:ε->DU) (M:List (Int×ε)):intKeys (mapD (.int .i64) ed M)=M.map (·.1):=by
 simp[intKeys,mapD,Go.intOf]
theorem own_of_row {w:World} {B n:Nat} {v:Value} {l:List Int} (h:w.ownsRow B 3 1 v n (l.map (.int .i64))) (hn:n=l.length):zg w B v l:=by
 subst hn;show w.ownsRow B _ 1 v l.length (l.flatMap intC);rw[flat_int];exact h
theorem KSrt.keys {ε:Type} {M:List (Int×ε)} (h:KSrt M):SrtI (M.map (·.1)):=by
 unfold SrtI;rw[List.pairwise_map];exact h
theorem keysB (mb:Option Nat) (W:World):Calls Tryz.prog 63 #[.map mb] W fun e w'=>e=.returned (.func (.func 111) #[] #[.pointer (some ⟨W.heap.size,0,none⟩)])/\w'=W.alloc (.cells #[.map mb] 132):=
 (callsIn_wide (n:=5)).1 (AnyZI.keys_in keys97 Fence.wide 5 trivial rfl mb W)
theorem sortedB {ε:Type} {R:RdU} {ed:ε->DU} {M:List (Int×ε)} {w:World} {b n:Nat} (h:xg Tryz.prog 3 R (.int .i64) ed w b n M) (hs:KSrt M) (hn:n<=1000000):
  Calls Tryz.prog 62 #[.func (.func 111) #[] #[.pointer (some ⟨w.heap.size,0,none⟩)]] (w.alloc (.cells #[.map (some b)] 132)) fun e w'=>∃v,e=.returned v/\zg w' (w.heap.size+1) v (M.map (·.1))/\
   Below (w.heap.size+1) (w.alloc (.cells #[.map (some b)] 132)) w':=by
 have hlen:=h.length_le;have hbl:=h.lt;have hseq:SeqGives Fence.wide 2 Tryz.prog 111 #[.pointer (some ⟨w.heap.size,0,none⟩)] encZ (fun ss=>ss.Perm (intKeys (mapD (.int .i64) ed M))) (Maps.size (mapD (.int .i64) ed M)) (w.alloc (.cells #[.map (some b)] 132)):=
  AnyZI.keys_gives (ρ:=keys97_ren) {keys97 with} Fence.wide _ trivial rfl (by omega) w.heap.size b n _ _ (by simp) (by simp) (by
   obtain⟨es,clock,hb,Ft,hs,hD⟩:=h;exact⟨es,clock,(Below.heap_alloc _ _ b hbl).trans hb,Ft,hs,hD⟩)
 refine((callsIn_wide (n:=5)).1 (AnyZI.sorted_in sorted96 Fence.wide 5 trivial trivial trivial trivial rfl (by omega) (sorts96 _) (enters_of Tryz.func110 (by kernel_rfl) rfl) 111 #[.pointer (some ⟨w.heap.size,0,none⟩)] trivial (enters_of Tryz.func111 (by kernel_rfl) rfl) _ _ (by rw[mapD_size];unfold maxLen;omega) (by rw[mapD_size];omega) _ hseq)).mono ?_;rintro e w' ⟨v,ss,rfl,hp,hrow,-,hb⟩;rw[intKeys_mapD] at hp;have hm:=mergeSort_srt hp hs.keys;rw[show (ss.mergeSort fun x y=>decide (x<=y))=M.map (·.1) from hm] at hrow;rw[World.size_alloc] at hrow hb;exact⟨v,rfl,own_of_row hrow (by have:=hp.length_eq;simpa using this),hb⟩
section
attribute [local irreducible] xF
section
variable {w w':World} {C:LC} {ve:Value} {P:Pg} {M:LM} {us:List (Value×Value)}
theorem qV.wkCell (h:qV w C ve us P M) {i:Nat} (hi:i < P.threads.length):∃u,us[i]?=some u/\w.cell? ⟨C.gW,i*2,none⟩=some u.1/\w.cell? ⟨C.gW,i*2+1,none⟩=some u.2:=by
 obtain⟨gW',off,x,hb,hgW,hx,hcw⟩:=Sl.atF moC_len (show Sl w w.heap.size 2 (.slice (some ⟨C.gW,0,none⟩) P.threads.length P.threads.length) P.threads.length (us.flatMap moC) from by have h2:=h.wks.own;have h3:=h2.len;rw[←h3] at h2 ⊢;exact h2.sl) h.wks.own.len hi;simp only[Option.some.injEq,Addr.mk.injEq,and_true] at hb;obtain⟨rfl,rfl⟩:=hb;refine⟨x,hx,?_,?_⟩
 ·have:=hcw 0 (by decide);simpa[moC] using this
 ·have:=hcw 1 (by decide);simpa[moC] using this
def BegMid (C:LC) (P:Pg) (w W:World) (i:Nat) (ex eh ej eo ey ev er:Int):Exit->Act->World->Prop:=fun e a' X=>
 ∃(b1 b2:Nat) (Y:World),e=.normal/\a'={tmps:=#[.pointer (some ⟨C.bM,0,none⟩),.int .i64 i,yp ⟨1,ex,eh,ej,eo,ey,ev,er⟩,.pointer (some ⟨w.heap.size,0,none⟩),.pointer (some ⟨w.heap.size+1,0,none⟩),.pointer (some ⟨w.heap.size+1+1,0,none⟩),.nilFunc,.pointer (some ⟨w.heap.size+1+1,0,none⟩),.int .i64 1,.bool true,.bool true,.pointer (some ⟨C.bM,0,none⟩),.pointer (some ⟨C.bM,0,none⟩),.pointer (some ⟨C.bM,2,none⟩),.slice (some ⟨C.gW,0,none⟩) P.threads.length P.threads.length,.int .i64 i,.map (some b1),.map (some b2),.agg #[.map (some b1),.map (some b2)],.pointer (some ⟨C.gW,i*2,none⟩),undef,undef,undef,undef,undef,undef,undef,undef,undef,undef,undef,undef,undef,undef,undef,undef,undef,undef,undef,undef,undef],defers:=[]}/\X=((Y.setCell ⟨C.gW,i*2,none⟩ (.map (some b1))).setCell ⟨C.gW,i*2+1,none⟩ (.map (some b2)))/\Below W.heap.size W Y/\Y.heap[b1]?=some (.map #[] 0)/\Y.heap[b2]?=some (.map #[] 0)/\b1≠b2/\W.heap.size<=b1/\W.heap.size<=b2
theorem la_react1 (h:qV w C ve us P M) (i:Nat) (hi:i < P.threads.length) (ex eh ej eo ey ev er:Int):
  Calls Tryz.prog 35 #[.pointer (some ⟨C.bM,0,none⟩),.int .i64 i,yp ⟨1,ex,eh,ej,eo,ey,ev,er⟩] w (LaNext C P i ({M with ws:=M.ws.set i (some ([],[]))},.none) w):=by
 have hn4:=h.ok.threads.2;have d2:=qd h.row 2;obtain⟨u,hu,w0,w1⟩:=h.wkCell hi;have lM:=qg h.row;obtain⟨csW,rW⟩:=h.wks.own.keepObj C.gW rfl;have lW:=qg rW;have H:=qh h;clear h;go_enter Tryz.func35,Tryz.ntmps35;go_wp2_with fail;have bA:Below w.heap.size w (((w.alloc (.cells #[.pointer (some ⟨C.bM,0,none⟩)] 28)).alloc (.cells #[.int .i64 i] 3)).alloc (.cells #[.int .i64 1,.int .i64 ex,.int .i64 eh,.int .i64 ej,.int .i64 eo,.int .i64 ey,.int .i64 ev,.int .i64 er] 53)):=(((Below.refl w.heap.size w).alloc (Nat.le_refl _) _).alloc (by simp) _).alloc (by simp;omega) _;have zA:(((w.alloc (.cells #[.pointer (some ⟨C.bM,0,none⟩)] 28)).alloc (.cells #[.int .i64 i] 3)).alloc (.cells #[.int .i64 1,.int .i64 ex,.int .i64 eh,.int .i64 ej,.int .i64 eo,.int .i64 ey,.int .i64 ev,.int .i64 er] 53)).heap.size=w.heap.size+3:=by simp
 have rA:=qF (o:=.cells #[.int .i64 1,.int .i64 ex,.int .i64 eh,.int .i64 ej,.int .i64 eo,.int .i64 ey,.int .i64 ev,.int .i64 er] 53) (qF (o:=.cells #[.int .i64 i] 3) (qu w (.cells #[.pointer (some ⟨C.bM,0,none⟩)] 28)));have rB:=qF (o:=.cells #[.int .i64 1,.int .i64 ex,.int .i64 eh,.int .i64 ej,.int .i64 eo,.int .i64 ey,.int .i64 ev,.int .i64 er] 53) (qL (w:=w.alloc (.cells #[.pointer (some ⟨C.bM,0,none⟩)] 28)) (o:=.cells #[.int .i64 i] 3) (g:=w.heap.size+1) (by simp));generalize ((w.alloc (.cells #[.pointer (some ⟨C.bM,0,none⟩)] 28)).alloc (.cells #[.int .i64 i] 3)).alloc (.cells #[.int .i64 1,.int .i64 ex,.int .i64 eh,.int .i64 ej,.int .i64 eo,.int .i64 ey,.int .i64 ev,.int .i64 er] 53)=W at *;have lA:w.heap.size < W.heap.size:=by omega
 have lB:w.heap.size+1 < W.heap.size:=by omega
 have lM':C.bM < W.heap.size:=by omega
 have lW':C.gW < W.heap.size:=by omega
 have d2:=qx bA lM d2;have w0:=qx bA lW w0;have w1:=qx bA lW w1;have xA:=qd rA 0;have xB:=qd rB 0;have rWW:=qj rW bA lW;have HA:=qh (H.o.below bA);have BA:=qh (bA.mono H.o.size);have RW:=qh rWW;have ZA:=qh zA;clear bA rA rB zA rW rWW H;have nW:∀q,W.heap.size<=q->q≠C.gW:=fun q hq=>by omega
 refine wp_mono (Q:=BegMid C P w W i ex eh ej eo ey ev er) ?_ ?_
 ·
  refine qQ (W.heap.size) [1,0,0,1,1,3,3,0,0,2] (.frk [0,1,2,3,4] (.fin [5,6,7,8,9]) (.fin [6,5,7,8,9])) (by kernel_rfl) ?_;simp only[yn,qO,qD,sD,sE,sF,sG]
  repeat first|(refine qB fun K hK=>?_;go_simp;refine hK _ _ ?_;clear hK K)|(apply qI;(intro w2 hw2;have hk1:=hw2.cell;have hk3:=hw2.1;clear hw2;go_simp;with_reducible rfl);simp only[Act.put,sA,sB,sC])|refine qy ?_
  refine⟨?_,?_⟩
  ·refine qG (fun K hK=>?_)
   go_simp;refine hK _ _ (RN.KeepsN.alloc _ _ (by first|omega|exact Nat.le_refl _)) ?_;clear hK K;refine qG (fun K hK=>?_);go_simp;refine hK _ _ (RN.KeepsN.alloc _ _ (by simp)) ?_;clear hK K
   repeat (refine qB fun K hK=>?_;go_simp;refine hK _ _ ?_;clear hK K)
   change xF _ _ _ _ _ ((W.drew.alloc (.map #[] 0)).alloc (.map #[] 0));have bY:Below W.heap.size W ((W.drew.alloc (.map #[] 0)).alloc (.map #[] 0)):=(((Below.refl W.heap.size W).drew).alloc (Nat.le_refl _) _).alloc (by simp) _;have rb1:((W.drew.alloc (.map #[] 0)).alloc (.map #[] 0)).heap[W.heap.size]?=some (.map #[] 0):=qF (qu W.drew _);have rb2:((W.drew.alloc (.map #[] 0)).alloc (.map #[] 0)).heap[W.heap.size+1]?=some (.map #[] 0):=qL (by simp);have zY:((W.drew.alloc (.map #[] 0)).alloc (.map #[] 0)).heap.size=W.heap.size+2:=by simp
   generalize (W.drew.alloc (.map #[] 0)).alloc (.map #[] 0)=Y at *;have w0:=qx bY lW' w0;have w1:=qx bY lW' w1;have ff:∀j,Y.frozen? ⟨C.gW,j,none⟩=false:=fun j=>qq (qj RW.o bY lW') j;have lWY:C.gW < Y.heap.size:=by omega
   refine qK (fun K hK=>?_);go_simp;refine hK _ _ ?_;clear hK K
   repeat refine qy ?_
   exact⟨W.heap.size,W.heap.size+1,_,rfl,rfl,rfl,bY,rb1,rb2,by omega,Nat.le_refl _,by omega⟩
  ·refine qG (fun K hK=>?_)
   go_simp;refine hK _ _ (RN.KeepsN.alloc _ _ (by first|omega|exact Nat.le_refl _)) ?_;clear hK K;refine qG (fun K hK=>?_);go_simp;refine hK _ _ (RN.KeepsN.alloc _ _ (by simp)) ?_;clear hK K
   repeat (refine qB fun K hK=>?_;go_simp;refine hK _ _ ?_;clear hK K)
   change xF _ _ _ _ _ ((W.drew.alloc (.map #[] 0)).alloc (.map #[] 0));have bY:Below W.heap.size W ((W.drew.alloc (.map #[] 0)).alloc (.map #[] 0)):=(((Below.refl W.heap.size W).drew).alloc (Nat.le_refl _) _).alloc (by simp) _;have rb1:((W.drew.alloc (.map #[] 0)).alloc (.map #[] 0)).heap[W.heap.size]?=some (.map #[] 0):=qF (qu W.drew _);have rb2:((W.drew.alloc (.map #[] 0)).alloc (.map #[] 0)).heap[W.heap.size+1]?=some (.map #[] 0):=qL (by simp);have zY:((W.drew.alloc (.map #[] 0)).alloc (.map #[] 0)).heap.size=W.heap.size+2:=by simp
   generalize (W.drew.alloc (.map #[] 0)).alloc (.map #[] 0)=Y at *;have w0:=qx bY lW' w0;have w1:=qx bY lW' w1;have ff:∀j,Y.frozen? ⟨C.gW,j,none⟩=false:=fun j=>qq (qj RW.o bY lW') j;have lWY:C.gW < Y.heap.size:=by omega
   refine qK (fun K hK=>?_);go_simp;refine hK _ _ ?_;clear hK K
   repeat refine qy ?_
   exact⟨W.heap.size+1,W.heap.size,_,rfl,rfl,rfl,bY,rb2,rb1,by omega,by omega,Nat.le_refl _⟩
 ·rintro e a' X ⟨b1,b2,Y,rfl,rfl,rfl,bY,r1,r2,hne,h1,h2⟩
  have hk:Kd (fun t=>t=135) Y ((Y.setCell ⟨C.gW,i*2,none⟩ (.map (some b1))).setCell ⟨C.gW,i*2+1,none⟩ (.map (some b2))):=by
   have:=qj RW.o bY lW';exact Kd.trans (T:=fun t=>t=135) (Kd.set (T:=fun t=>t=135) this rfl _) (Kd.set (T:=fun t=>t=135) (qA this (i*2) (.map (some b1))) rfl _)
  have hm:yI W ((Y.setCell ⟨C.gW,i*2,none⟩ (.map (some b1))).setCell ⟨C.gW,i*2+1,none⟩ (.map (some b2))):=by
   have:=qj RW.o bY lW';exact(yI.below bY).trans ((yI.set this _).trans (yI.set (qA this (i*2) (.map (some b1))) _))
  have how:=own_set2 (qp.below HA.o.wks.own bY) moC_len (u:=(.map (some b1),.map (some b2))) rfl i;have hr1:((Y.setCell ⟨C.gW,i*2,none⟩ (.map (some b1))).setCell ⟨C.gW,i*2+1,none⟩ (.map (some b2))).heap[b1]?=some (.map #[] 0):=qH (qH r1 (nW b1 h1).symm) (nW b1 h1).symm;have hr2:((Y.setCell ⟨C.gW,i*2,none⟩ (.map (some b1))).setCell ⟨C.gW,i*2+1,none⟩ (.map (some b2))).heap[b2]?=some (.map #[] 0):=qH (qH r2 (nW b2 h2).symm) (nW b2 h2).symm;have hB2:C.B<=W.heap.size:=HA.o.size;have hBW:C.B<=C.gW:=(HA.o.wks.own.lt C.gW rfl).1;have hb:Below C.B w ((Y.setCell ⟨C.gW,i*2,none⟩ (.map (some b1))).setCell ⟨C.gW,i*2+1,none⟩ (.map (some b2))):=((BA.o.trans (bY.mono hB2)).setCell (p:=⟨C.gW,i*2,none⟩) hBW _).setCell (p:=⟨C.gW,i*2+1,none⟩) hBW _;have hL:=(HA.o.below bY).turn (cs':=M.cs) (fun k cs t fz h1 h2=>hk k cs t fz h1 (fun e=>h2 (.inr e))) (qp.kd (HA.o.below bY).cells hk (by decide)) HA.o.clen (HA.o.wks.begin (i:=i) (u:=(.map (some b1),.map (some b2))) (o':=some ([],[])) hm how (by
   rintro q (e|e) <;> cases e <;> assumption) ⟨b1,b2,rfl,by omega,by omega,hne,isMB_new hr1,isMI_new hr2,(fun _ h=>by cases h),List.Pairwise.nil,(fun _ h=>by cases h),List.Pairwise.nil⟩)
  generalize (Y.setCell ⟨C.gW,i*2,none⟩ (.map (some b1))).setCell ⟨C.gW,i*2+1,none⟩ (.map (some b2))=V at *;have HL:=qh hL;have HB:=qh hb;clear hk hm how hr1 hr2 hb hL r1 r2 bY d2 w0 w1 xA xB;go_wp2;go_ret;exact⟨_,ve,_,rfl,HB.o,HL.o,rfl⟩
theorem la_react (h:qV w C ve us P M) (i:Nat) (hi:i < P.threads.length) (ek ex eh ej eo ey ev er:Int) (he:ek≠1) {r:MB} {s:MI} (hws:M.ws[i]?=some (some (r,s))):
  Calls Tryz.prog 35 #[.pointer (some ⟨C.bM,0,none⟩),.int .i64 i,yp ⟨ek,ex,eh,ej,eo,ey,ev,er⟩] w (LaNext C P i (M,ya (woR M.ws[i]?) ⟨ek,ex,eh,ej,eo,ey,ev,er⟩) w):=by
 have hn4:=h.ok.threads.2;obtain⟨br,bs,hu,hwo,hgW,w0,w1⟩:=h.woAt hi hws;have d2:=qd h.row 2;have lM:=qg h.row;have e1:woR M.ws[i]?=r:=by rw[hws];rfl
 rw[e1];have H:=qh h;have HP:=qh hwo;clear h hws e1 hu hwo;go_enter Tryz.func35,Tryz.ntmps35;have bA:Below w.heap.size w (((w.alloc (.cells #[.pointer (some ⟨C.bM,0,none⟩)] 28)).alloc (.cells #[.int .i64 i] 3)).alloc (.cells #[.int .i64 ek,.int .i64 ex,.int .i64 eh,.int .i64 ej,.int .i64 eo,.int .i64 ey,.int .i64 ev,.int .i64 er] 53)):=(((Below.refl w.heap.size w).alloc (Nat.le_refl _) _).alloc (by simp) _).alloc (by simp;omega) _;have rA:=qF (o:=.cells #[.int .i64 ek,.int .i64 ex,.int .i64 eh,.int .i64 ej,.int .i64 eo,.int .i64 ey,.int .i64 ev,.int .i64 er] 53) (qF (o:=.cells #[.int .i64 i] 3) (qu w (.cells #[.pointer (some ⟨C.bM,0,none⟩)] 28)));have rB:=qF (o:=.cells #[.int .i64 ek,.int .i64 ex,.int .i64 eh,.int .i64 ej,.int .i64 eo,.int .i64 ey,.int .i64 ev,.int .i64 er] 53) (qL (w:=w.alloc (.cells #[.pointer (some ⟨C.bM,0,none⟩)] 28)) (o:=.cells #[.int .i64 i] 3) (g:=w.heap.size+1) (by simp));have rC:=qL (w:=(w.alloc (.cells #[.pointer (some ⟨C.bM,0,none⟩)] 28)).alloc (.cells #[.int .i64 i] 3)) (o:=.cells #[.int .i64 ek,.int .i64 ex,.int .i64 eh,.int .i64 ej,.int .i64 eo,.int .i64 ey,.int .i64 ev,.int .i64 er] 53) (g:=w.heap.size+1+1) (by simp);have hve:ve.ownBlock≠some (w.heap.size+1+1):=fun e=>by
  obtain⟨vs,h1,-⟩:=H.o.dr;have:=(h1.walk.evs.lt _ e).2;omega
 have zA:(((w.alloc (.cells #[.pointer (some ⟨C.bM,0,none⟩)] 28)).alloc (.cells #[.int .i64 i] 3)).alloc (.cells #[.int .i64 ek,.int .i64 ex,.int .i64 eh,.int .i64 ej,.int .i64 eo,.int .i64 ey,.int .i64 ev,.int .i64 er] 53)).heap.size=w.heap.size+3:=by simp
 have hB:=H.o.size;have HA:=qh (H.o.below bA);have BA:=qh (bA.mono hB);have RA:=qh rA;have RB:=qh rB;have RC:=qh rC;have HVE:=qh hve;have HQ:=qh (HP.o.keep fun b hb=>by
  obtain⟨-,es,cl,hh⟩:=HP.o.isMap b hb;rw[qj hh bA (qg hh),hh])
 have d2:=qx bA lM d2;have w0:=qx bA hgW w0;have ZA:=qh zA;have BW:=qh bA;have q1:(ek==1)=false:=by simpa using he
 by_cases h7:ek=7
 ·subst h7
  clear bA rA rB rC hve H HP d2 w0 w1 zA;go_wp2_with fail;generalize ((w.alloc (.cells #[.pointer (some ⟨C.bM,0,none⟩)] 28)).alloc (.cells #[.int .i64 i] 3)).alloc (.cells #[.int .i64 7,.int .i64 ex,.int .i64 eh,.int .i64 ej,.int .i64 eo,.int .i64 ey,.int .i64 ev,.int .i64 er] 53)=W at *;have hBW:C.B<=W.heap.size:=HA.o.size;refine(la_mkAbort _ _ _).mono ?_;rintro e X1 ⟨rfl,hX1⟩;have b1:Below W.heap.size W X1:=by rw[hX1];exact((Below.refl _ W).alloc (Nat.le_refl _) _).alloc (by simp) _
  have hbx:BxM X1 C i W.heap.size (W.heap.size+1):=by
   rw[hX1];exact⟨qF (qu W _),qL (by simp),hBW,by omega⟩
  have B1:=qh (BA.o.trans (b1.mono hBW));have L1:=qh (HA.o.below b1);have HX:=qh hbx;clear hX1 b1 hbx;go_wp2;go_ret;exact⟨_,ve,us,rfl,B1.o,L1.o,W.heap.size,W.heap.size+1,rfl,HX.o⟩
 ·have q7:(ek==7)=false:=by simpa using h7
  by_cases h4:ek=4
  ·subst h4
   have hre:ya r ⟨4,ex,eh,ej,eo,ey,ev,er⟩=.rel (r.map (·.1)):=by simp[ya]
   rw[hre];have xA:=qd rA 0;have xB:=qd rB 0;clear bA rA rB rC hve H HP;go_wp2_with fail;generalize ((w.alloc (.cells #[.pointer (some ⟨C.bM,0,none⟩)] 28)).alloc (.cells #[.int .i64 i] 3)).alloc (.cells #[.int .i64 4,.int .i64 ex,.int .i64 eh,.int .i64 ej,.int .i64 eo,.int .i64 ey,.int .i64 ev,.int .i64 er] 53)=W at *;have lA:w.heap.size < W.heap.size:=by omega
   have lB:w.heap.size+1 < W.heap.size:=by omega
   have lM':C.bM < W.heap.size:=by omega
   have lW':C.gW < W.heap.size:=by omega
   have hBW:C.B<=W.heap.size:=HA.o.size;obtain⟨br',bs',hu,hbr,hbs,hne,hmr,hms,hcr,hsr,hcs,hss⟩:=HQ.o;simp only[Prod.mk.injEq,Value.map.injEq,Option.some.injEq] at hu;obtain⟨rfl,rfl⟩:=hu;have hr4:=hcr.len hsr;have HSR:=qh hsr;have HMR:=qh hmr;clear hmr hms hcr hsr hcs hss zA;refine qQ (W.heap.size) [1,1,1,0,0,1,1,0,0,1,3,3,2,0] (.fin [0,1,2,3,4,5,6,7,8,9,10,11,12,13]) (by kernel_rfl) ?_;simp only[yn,qO,qD,sD,sE,sF,sG]
   repeat first|(refine qB fun K hK=>?_;go_simp;refine hK _ _ ?_;clear hK K)|(apply qI;(intro w2 hw2;have hk1:=hw2.cell;have hk3:=hw2.1;clear hw2;go_simp;with_reducible rfl);simp only[Act.put,sA,sB,sC])
   refine qG (fun K hK=>?_);go_simp;refine(keysB (some br) W.drew).mono ?_;rintro e W1 ⟨rfl,rfl⟩;refine hK _ _ (RN.KeepsN.alloc _ _ (Nat.le_refl _)) ?_;clear hK K;refine qG (fun K hK=>?_);go_simp;refine(sortedB (w:=W.drew) (HMR.o.drew) HSR.o (by omega)).mono ?_;rintro e W2 ⟨v,rfl,ho,hb2⟩;have b2:Below W.heap.size W W2:=((Below.refl _ W).drew.alloc (Nat.le_refl _) _).trans (hb2.mono (by show W.heap.size<=W.heap.size+1;omega));refine hK _ _ (RN.KeepsN.of_below (hb2.mono (by show W.heap.size<=W.heap.size+1;omega))) ?_;clear hK K;have L2:=qh (HA.o.below b2);have LS:=qh (LsAt.ofOwn (C:=C) ho (show C.B<=W.heap.size+1 by omega));have B2:=qh (BA.o.trans (b2.mono hBW));clear ho hb2 b2;refine qK (fun K hK=>?_);go_simp;refine(la_release L2.o i v _ LS.o (by rw[List.length_map];exact hr4)).mono ?_;rintro e W3 ⟨v3,ve',us',rfl,hb,hla,hx⟩;refine hK _ _ ?_;clear hK K;have B3:=qh (B2.o.trans hb);have L3:=qh hla;have X3:=qh hx;clear hb hla hx xA xB d2 w0 w1
   repeat first|(refine qB fun K hK=>?_;go_simp;refine hK _ _ ?_;clear hK K)|refine qy ?_
   go_wp2;go_ret;exact⟨v3,ve',us',rfl,B3.o,L3.o,X3.o⟩
  ·have q4:(ek==4)=false:=by simpa using h4
   have hre:ya r ⟨ek,ex,eh,ej,eo,ey,ev,er⟩=.ans ⟨ek,ex,eh,ej,eo,ey,ev,er⟩:=by simp[ya,he,h7,h4]
   rw[hre];clear bA rA rB rC hve H HP d2 w0 w1 zA;go_wp2;go_ret;exact⟨_,ve,us,rfl,BA.o,HA.o,w.heap.size,w.heap.size+1,w.heap.size+1+1,rfl,⟨RA.o,RB.o,hB,by omega⟩,RC.o,HVE.o,by omega⟩
theorem la_ans1 (h:qV w C ve us P M) (i:Nat) (hi:i < P.threads.length) {t:Th} (ht:M.W.ths[i]?=some t) (hd:qP P i t=false) (hbg:t.begun=true) (hl:M.W.evs.length<=100000) {r:MB} {s:MI} (hws:M.ws[i]?=some (some (r,s))) (hcn:WoCan P r s)
  (k:Nat) (ek ex eh eo ey ev er:Int) (hk:k < P.cells.length) (hev:-999999000<=ev/\ev<=999999000) (hb2:∀c ∈ M.cs,-999999000<=c.val/\c.val<=999999000)
  {p1 p2 p3:Nat} (hx:BxM w C i p1 p2) (h3:w.heap[p3]?=some (.cells #[.int .i64 ek,.int .i64 ex,.int .i64 eh,.int .i64 (k:Nat),.int .i64 eo,.int .i64 ey,.int .i64 ev,.int .i64 er] 53 (0,0))):
  Calls Tryz.prog 64 #[.pointer (some ⟨p1,0,none⟩),.pointer (some ⟨p2,0,none⟩),.pointer (some ⟨p3,0,none⟩)] w (yS C P (ansStep P M i t ⟨ek,ex,eh,(k:Nat),eo,ey,ev,er⟩ r s) .nilFunc w):=by
 have d0:=qd hx.1 0;have d1:=qd hx.2.1 0;have l0:=qg hx.1;have l1:=qg hx.2.1;have l2:=qg h3;have f0:=qd h3 0;have f1:=qd h3 1;have f2:=qd h3 2;have f3:=qd h3 3;have f4:=qd h3 4;have f5:=qd h3 5;have f6:=qd h3 6;have f7:=qd h3 7;have hc:=qh (la_answer h i hi ht hd hbg hl hws hcn k ek ex eh eo ey ev er hk hev hb2);clear h hx h3 hws ht hcn hb2;generalize ansStep P M i t ⟨ek,ex,eh,(k:Nat),eo,ey,ev,er⟩ r s=y at *;go_enter Tryz.func64,Tryz.ntmps64;go_wp2_with fail;refine(hc.o).mono ?_;clear hc;rintro e w1 ⟨rfl,hb,ve',us',hla⟩;have HB:=qh hb;have HL:=qh hla;clear hb hla d0 d1 f0 f1 f2 f3 f4 f5 f6 f7;go_wp2;go_ret;exact⟨rfl,HB.o,ve',us',HL.o⟩
end
end
section
attribute [local irreducible] xF
section
variable {w w':World} {C:LC} {ve:Value} {P:Pg} {M:LM} {us:List (Value×Value)}
def GoBox (C:LC) (i p1 p2:Nat) (X:World):Prop:=X.heap[p1]?=some (.cells #[.pointer (some ⟨C.bD,0,none⟩)] 82 (0,0))/\X.heap[p2]?=some (.cells #[.int .i64 i] 3 (0,0))
theorem GoBox.below {i p1 p2:Nat} (h:GoBox C i p1 p2 w) (hb:Below w.heap.size w w'):GoBox C i p1 p2 w':=⟨qj h.1 hb (qg h.1),qj h.2 hb (qg h.2)⟩
theorem GoBox.kp {i p1 p2:Nat} (h:GoBox C i p1 p2 w) (hk:Kp Mw ve w w'):GoBox C i p1 p2 w':=⟨hk.rowW h.1 (by decide) (by decide) (by decide),hk.rowW h.2 (by decide) (by decide) (by decide)⟩
def GoMid (C:LC) (P:Pg) (us:List (Value×Value)) (w:World) (i p1 p2:Nat) (M':LM) (ek ex eh ej eo ey ev er:Int):Exit->Act->World->Prop:=fun e a' X=>
 ∃b3:Nat,e=.normal/\a'={tmps:=#[.pointer (some ⟨p1,0,none⟩),.pointer (some ⟨p2,0,none⟩),.nilFunc,.pointer (some ⟨b3,0,none⟩),.bool true,.tuple #[yp ⟨ek,ex,eh,ej,eo,ey,ev,er⟩,.bool true],.pointer (some ⟨C.bD,0,none⟩),.pointer (some ⟨C.bD,0,none⟩),.pointer (some ⟨C.bD,2,none⟩),.pointer (some ⟨C.bW,0,none⟩),.int .i64 i,.tuple #[yp ⟨ek,ex,eh,ej,eo,ey,ev,er⟩,.bool true],yp ⟨ek,ex,eh,ej,eo,ey,ev,er⟩,.bool true,undef,undef,undef,undef,undef,undef,undef,undef,undef],defers:=[]}/\X.heap[b3]?=some (.cells #[.int .i64 ek,.int .i64 ex,.int .i64 eh,.int .i64 ej,.int .i64 eo,.int .i64 ey,.int .i64 ev,.int .i64 er] 53 (0,0))/\Below C.B w X/\GoBox C i p1 p2 X/\∃ve',qV X C ve' us P M'
def GoMidZ (C:LC) (P:Pg) (us:List (Value×Value)) (w:World) (i p1 p2:Nat) (M':LM):Exit->Act->World->Prop:=fun e a' X=>
 ∃b3:Nat,e=.normal/\a'={tmps:=#[.pointer (some ⟨p1,0,none⟩),.pointer (some ⟨p2,0,none⟩),.nilFunc,.pointer (some ⟨b3,0,none⟩),.bool false,.tuple #[yp ⟨0,0,0,0,0,0,0,0⟩,.bool false],.pointer (some ⟨C.bD,0,none⟩),.pointer (some ⟨C.bD,0,none⟩),.pointer (some ⟨C.bD,2,none⟩),.pointer (some ⟨C.bW,0,none⟩),.int .i64 i,.tuple #[yp ⟨0,0,0,0,0,0,0,0⟩,.bool false],yp ⟨0,0,0,0,0,0,0,0⟩,.bool false,undef,undef,undef,undef,undef,undef,undef,undef,undef],defers:=[]}/\Below C.B w X/\∃ve',qV X C ve' us P M'
theorem nextOf_begun {P:Pg} {i:Nat} {t:Th} {y:Th×Ev} (h:nextOf P i t=some y) (hk:y.2.kind≠1):t.begun=true:=by
 cases hb:t.begun with
 |true=>rfl
 |false=>
  unfold nextOf at h
  split at h
  ·cases h
  ·simp only[hb,if_true] at h
   obtain rfl:=Option.some.inj h;exact absurd (by simp[qC,yx,hb,xD]) hk
theorem la_goOn (h:qV w C ve us P M) (i:Nat) (hi:i < P.threads.length) {t:Th} (ht:M.W.ths[i]?=some t) (hl:M.W.evs.length<=100000) (hw0:t.begun=true->∃r s,M.ws[i]?=some (some (r,s))) {p1 p2:Nat} (hp:GoBox C i p1 p2 w):
  Calls Tryz.prog 114 #[.pointer (some ⟨p1,0,none⟩),.pointer (some ⟨p2,0,none⟩)] w (LaNext C P i (ownStep P M i t (woR M.ws[i]?)) w):=by
 have hn4:=h.ok.threads.2;have d0:=qd hp.1 0;have d1:=qd hp.2 0;have l0:=qg hp.1;have l1:=qg hp.2;have hB:=h.size;obtain⟨vs,hdr,-,-⟩:=h.dr;have e2:w.cell? ⟨C.bD,2,none⟩=some (.pointer (some ⟨C.bW,0,none⟩)):=qd hdr.row 2;have lD:=qg hdr.row;have H:=qh h;have HW:=qh hdr.walk;have HP:=qh hp;have HT:=qh ht;have hcA:=qh (wk_next (hdr.walk.below (Below.refl _ w).drew) hB i hi ht hl);have hcB:=qh (fun o=>wk_next (hdr.walk.below (((Below.refl w.heap.size w).drew).alloc (Nat.le_refl _) o)) (by simp;omega) i hi ht hl);clear h hp hdr ht;have hk4:∀y,nextOf P i t=some y->y.2.kind≠1->∃r s,M.ws[i]?=some (some (r,s)):=fun y hy hk=>hw0 (nextOf_begun hy hk);have hown:ownStep P M i t (woR M.ws[i]?)=(match nextOf P i t with|none=>(M,.none)|some y=>({M with W:=M.W.put i y,ws:=if y.2.kind=1 then M.ws.set i (some ([],[])) else M.ws},ya (woR M.ws[i]?) y.2)):=rfl;rw[hown];clear hown hw0;generalize nextOf P i t=r at *;cases r with
 |none=>
  clear hk4;go_enter Tryz.func114,Tryz.ntmps114;go_wp2_with fail;refine wp_mono (Q:=GoMidZ C P us w i p1 p2 M) ?_ ?_
  ·
   refine qQ (w.heap.size) [1,0,0,1,1,2,0,0,0,3,3,0] (.frk [0,1,2,3,4] (.fin [5,6,7,8,9,10,11]) (.fin [9,5,6,7,8,10,11])) (by kernel_rfl) ?_;simp only[yn,qO,qD,sD,sE,sF,sG]
   repeat first|(refine qB fun K hK=>?_;go_simp;refine hK _ _ ?_;clear hK K)|(apply qI;(intro w2 hw2;have hk1:=hw2.cell;have hk3:=hw2.1;clear hw2;go_simp;with_reducible rfl);simp only[Act.put,sA,sB,sC])|refine qy ?_
   refine⟨?_,?_⟩
   ·refine qK (fun K hK=>?_)
    go_simp;refine(hcA.o).mono ?_;rintro e X1 ⟨rfl,b1⟩;refine hK _ _ ?_;clear hK K;have b1:Below w.heap.size w X1:=(Below.refl _ w).drew.trans b1;have z1:=b1.size
    repeat (refine qB fun K hK=>?_;go_simp;refine hK _ _ ?_;clear hK K)
    refine qG (fun K hK=>?_);go_simp;refine hK _ _ (RN.KeepsN.alloc _ _ (by first|omega|exact Nat.le_refl _)) ?_;clear hK K;refine qG (fun K hK=>?_);go_simp;refine hK _ _ (RN.KeepsN.refl _ _) ?_;clear hK K
    repeat first|(refine qB fun K hK=>?_;go_simp;refine hK _ _ ?_;clear hK K)|refine qy ?_
    have b3:=b1.alloc z1 (.cells #[.int .i64 0,.int .i64 0,.int .i64 0,.int .i64 0,.int .i64 0,.int .i64 0,.int .i64 0,.int .i64 0] 53);exact⟨X1.heap.size,rfl,rfl,b3.mono hB,ve,H.o.below b3⟩
   ·refine qG (fun K hK=>?_)
    go_simp;refine hK _ _ (RN.KeepsN.alloc _ _ (by first|omega|exact Nat.le_refl _)) ?_;clear hK K;refine qK (fun K hK=>?_);go_simp;refine(hcB.o _).mono ?_;rintro e X1 ⟨rfl,b1⟩;refine hK _ _ ?_;clear hK K;have RZ:=qj (qL (w:=w.drew) (o:=.cells #[.int .i64 0,.int .i64 0,.int .i64 0,.int .i64 0,.int .i64 0,.int .i64 0,.int .i64 0,.int .i64 0] 53) (g:=w.heap.size) rfl) b1 (by simp);have b1:Below w.heap.size w X1:=((Below.refl _ w).drew.alloc (Nat.le_refl _) _).trans (b1.mono (by simp));have z1:=b1.size;have lz:=qg RZ;have yf:∀j,X1.frozen? ⟨w.heap.size,j,none⟩=false:=fun j=>qq RZ j;have yc:=qd RZ;have y0:X1.cell? ⟨w.heap.size,0,none⟩=some (.int .i64 0):=yc 0;have y1:X1.cell? ⟨w.heap.size,1,none⟩=some (.int .i64 0):=yc 1;have y2:X1.cell? ⟨w.heap.size,2,none⟩=some (.int .i64 0):=yc 2;have y3:X1.cell? ⟨w.heap.size,3,none⟩=some (.int .i64 0):=yc 3;have y4:X1.cell? ⟨w.heap.size,4,none⟩=some (.int .i64 0):=yc 4;have y5:X1.cell? ⟨w.heap.size,5,none⟩=some (.int .i64 0):=yc 5;have y6:X1.cell? ⟨w.heap.size,6,none⟩=some (.int .i64 0):=yc 6;have y7:X1.cell? ⟨w.heap.size,7,none⟩=some (.int .i64 0):=yc 7;clear yc
    repeat (refine qB fun K hK=>?_;go_simp;refine hK _ _ ?_;clear hK K)
    refine qG (fun K hK=>?_);go_simp;have WR6:=(((((((((Wr.start RZ).set 0 (.int .i64 0)).set 1 (.int .i64 0)).set 2 (.int .i64 0)).set 3 (.int .i64 0)).set 4 (.int .i64 0)).set 5 (.int .i64 0)).set 6 (.int .i64 0)).set 7 (.int .i64 0))
    generalize ((((((((X1).setCell ⟨w.heap.size,0,none⟩ (.int .i64 0)).setCell ⟨w.heap.size,1,none⟩ (.int .i64 0)).setCell ⟨w.heap.size,2,none⟩ (.int .i64 0)).setCell ⟨w.heap.size,3,none⟩ (.int .i64 0)).setCell ⟨w.heap.size,4,none⟩ (.int .i64 0)).setCell ⟨w.heap.size,5,none⟩ (.int .i64 0)).setCell ⟨w.heap.size,6,none⟩ (.int .i64 0)).setCell ⟨w.heap.size,7,none⟩ (.int .i64 0)=Y at *;refine hK _ _ (RN.KeepsN.of_below (WR6.below (Nat.le_refl _))) ?_;clear hK K
    repeat first|(refine qB fun K hK=>?_;go_simp;refine hK _ _ ?_;clear hK K)|refine qy ?_
    have b3:=b1.trans (WR6.below (Nat.le_refl _));exact⟨w.heap.size,rfl,rfl,b3.mono hB,ve,H.o.below b3⟩
  ·rintro e a' X ⟨b3,rfl,rfl,hb,ve',hla⟩
   have HB:=qh hb;have HL:=qh hla;clear hb hla d0 d1 e2 hcA hcB;go_wp2;go_ret;exact⟨_,ve',us,rfl,HB.o,HL.o,rfl⟩
 |some y=>
  obtain⟨t',ek,ex,eh,ej,eo,ey,ev,er⟩:=y;obtain⟨Y0,hY0⟩:∃Y0:LM×Nx,Y0=({M with W:=M.W.put i (t',⟨ek,ex,eh,ej,eo,ey,ev,er⟩),ws:=if ek=1 then M.ws.set i (some ([],[])) else M.ws},ya (woR M.ws[i]?) ⟨ek,ex,eh,ej,eo,ey,ev,er⟩):=⟨_,rfl⟩
  show Calls _ _ _ _ (LaNext C P i ({M with W:=M.W.put i (t',⟨ek,ex,eh,ej,eo,ey,ev,er⟩),ws:=if ek=1 then M.ws.set i (some ([],[])) else M.ws},ya (woR M.ws[i]?) ⟨ek,ex,eh,ej,eo,ey,ev,er⟩) w);rw[←hY0];have hk4:ek≠1->∃r s,M.ws[i]?=some (some (r,s)):=hk4 _ rfl;have HK4:=qh hk4;clear hk4;have HY0:=qh hY0;clear hY0;go_enter Tryz.func114,Tryz.ntmps114;go_wp2_with fail;refine wp_mono (Q:=GoMid C P us w i p1 p2 {M with W:=M.W.put i (t',⟨ek,ex,eh,ej,eo,ey,ev,er⟩)} ek ex eh ej eo ey ev er) ?_ ?_
  ·
   refine qQ (w.heap.size) [1,0,0,1,1,2,0,0,0,3,3,0] (.frk [0,1,2,3,4] (.fin [5,6,7,8,9,10,11]) (.fin [9,5,6,7,8,10,11])) (by kernel_rfl) ?_;simp only[yn,qO,qD,sD,sE,sF,sG]
   repeat first|(refine qB fun K hK=>?_;go_simp;refine hK _ _ ?_;clear hK K)|(apply qI;(intro w2 hw2;have hk1:=hw2.cell;have hk3:=hw2.1;clear hw2;go_simp;with_reducible rfl);simp only[Act.put,sA,sB,sC])|refine qy ?_
   refine⟨?_,?_⟩
   ·refine qK (fun K hK=>?_)
    go_simp;refine(hcA.o).mono ?_;rintro e X1 ⟨rfl,ve',hwk,hkp,hb,ho⟩;refine hK _ _ ?_;clear hK K;have hkp:Kp Mw ve w X1:=(Kp.of_below (ev:=ve) (Below.refl w.heap.size w).drew).trans hkp fun _ h=>.inl h;have hL:=H.o.walked hkp hwk ho;have z1:w.heap.size<=X1.heap.size:=hkp.size;have hb:Below C.B w X1:=(Below.refl _ w).drew.trans hb
    repeat (refine qB fun K hK=>?_;go_simp;refine hK _ _ ?_;clear hK K)
    refine qG (fun K hK=>?_);go_simp;refine hK _ _ (RN.KeepsN.alloc _ _ (by first|omega|exact Nat.le_refl _)) ?_;clear hK K;refine qG (fun K hK=>?_);go_simp;refine hK _ _ (KeepsN.both (W:=X1) (RN.KeepsN.alloc _ _ z1) (RN.KeepsN.alloc _ _ z1) (by simp)) ?_;clear hK K
    repeat first|(refine qB fun K hK=>?_;go_simp;refine hK _ _ ?_;clear hK K)|refine qy ?_
    have b3:=(Below.refl X1.heap.size X1).alloc (Nat.le_refl _) (.cells #[.int .i64 ek,.int .i64 ex,.int .i64 eh,.int .i64 ej,.int .i64 eo,.int .i64 ey,.int .i64 ev,.int .i64 er] 53);exact⟨X1.heap.size,rfl,rfl,qu X1 _,hb.alloc (by omega) _,(HP.o.kp hkp).below b3,ve',hL.below b3⟩
   ·refine qG (fun K hK=>?_)
    go_simp;refine hK _ _ (RN.KeepsN.alloc _ _ (by first|omega|exact Nat.le_refl _)) ?_;clear hK K;refine qK (fun K hK=>?_);go_simp;refine(hcB.o _).mono ?_;rintro e X1 ⟨rfl,ve',hwk,hkp,hb,ho⟩;refine hK _ _ ?_;clear hK K;have bz:Below w.heap.size w (w.drew.alloc (.cells #[.int .i64 0,.int .i64 0,.int .i64 0,.int .i64 0,.int .i64 0,.int .i64 0,.int .i64 0,.int .i64 0] 53)):=(Below.refl _ w).drew.alloc (Nat.le_refl _) _;have RZ:X1.heap[w.heap.size]?=some (.cells #[.int .i64 0,.int .i64 0,.int .i64 0,.int .i64 0,.int .i64 0,.int .i64 0,.int .i64 0,.int .i64 0] 53 (0,0)):=hkp.cells _ _ _ _ (qL (w:=w.drew) (o:=.cells #[.int .i64 0,.int .i64 0,.int .i64 0,.int .i64 0,.int .i64 0,.int .i64 0,.int .i64 0,.int .i64 0] 53) (g:=w.heap.size) rfl) (by unfold Mw;decide) (fun _ e=>by have:=(HW.o.evs.lt _ e).2;omega);have hkp:Kp Mw ve w X1:=(Kp.of_below (ev:=ve) bz).trans hkp fun _ h=>.inl h;have ho':∀k,ve'.ownBlock=some k->ve.ownBlock=some k\/w.heap.size < k:=fun k e=>(ho k e).imp id fun h=>by simp at h;omega
    have z1:w.heap.size<=X1.heap.size:=hkp.size;have hb:Below C.B w X1:=(bz.mono hB).trans hb;have lz:=qg RZ;have yf:∀j,X1.frozen? ⟨w.heap.size,j,none⟩=false:=fun j=>qq RZ j;have yc:=qd RZ;have y0:X1.cell? ⟨w.heap.size,0,none⟩=some (.int .i64 0):=yc 0;have y1:X1.cell? ⟨w.heap.size,1,none⟩=some (.int .i64 0):=yc 1;have y2:X1.cell? ⟨w.heap.size,2,none⟩=some (.int .i64 0):=yc 2;have y3:X1.cell? ⟨w.heap.size,3,none⟩=some (.int .i64 0):=yc 3;have y4:X1.cell? ⟨w.heap.size,4,none⟩=some (.int .i64 0):=yc 4;have y5:X1.cell? ⟨w.heap.size,5,none⟩=some (.int .i64 0):=yc 5;have y6:X1.cell? ⟨w.heap.size,6,none⟩=some (.int .i64 0):=yc 6;have y7:X1.cell? ⟨w.heap.size,7,none⟩=some (.int .i64 0):=yc 7;clear yc
    repeat (refine qB fun K hK=>?_;go_simp;refine hK _ _ ?_;clear hK K)
    refine qG (fun K hK=>?_);go_simp;have WR6:=(((((((((Wr.start RZ).set 0 (.int .i64 ek)).set 1 (.int .i64 ex)).set 2 (.int .i64 eh)).set 3 (.int .i64 ej)).set 4 (.int .i64 eo)).set 5 (.int .i64 ey)).set 6 (.int .i64 ev)).set 7 (.int .i64 er))
    generalize ((((((((X1).setCell ⟨w.heap.size,0,none⟩ (.int .i64 ek)).setCell ⟨w.heap.size,1,none⟩ (.int .i64 ex)).setCell ⟨w.heap.size,2,none⟩ (.int .i64 eh)).setCell ⟨w.heap.size,3,none⟩ (.int .i64 ej)).setCell ⟨w.heap.size,4,none⟩ (.int .i64 eo)).setCell ⟨w.heap.size,5,none⟩ (.int .i64 ey)).setCell ⟨w.heap.size,6,none⟩ (.int .i64 ev)).setCell ⟨w.heap.size,7,none⟩ (.int .i64 er)=Y at *;refine hK _ _ (RN.KeepsN.of_below (WR6.below (Nat.le_refl _))) ?_;clear hK K
    repeat first|(refine qB fun K hK=>?_;go_simp;refine hK _ _ ?_;clear hK K)|refine qy ?_
    obtain⟨hw2,hk2⟩:=HW.o.wrR hwk hkp ho' rfl WR6;exact⟨w.heap.size,rfl,rfl,WR6.row,hb.trans (WR6.below hB),HP.o.kp hk2,ve',H.o.walked hk2 hw2 fun k e=>(ho' k e).imp id fun h=>by omega⟩
  ·rintro e a' X ⟨b3,rfl,rfl,r3,hb,hgb,ve',hla⟩
   have HB:=qh hb;have HL:=qh hla;have x0:=qd hgb.1 0;have x1:=qd hgb.2 0;have lx0:=qg hgb.1;have lx1:=qg hgb.2;obtain⟨vs',hdr,-⟩:=hla.dr;have x4:X.cell? ⟨C.bD,4,none⟩=some (.func (.func 35) #[.pointer (some ⟨C.bM,0,none⟩)] #[]):=qd hdr.row 4;have lxD:=qg hdr.row;have R3:=qh r3;have qc:=qd R3.o;have q0:X.cell? ⟨b3,0,none⟩=some (.int .i64 ek):=qc 0;have q1:X.cell? ⟨b3,1,none⟩=some (.int .i64 ex):=qc 1;have q2:X.cell? ⟨b3,2,none⟩=some (.int .i64 eh):=qc 2;have q3:X.cell? ⟨b3,3,none⟩=some (.int .i64 ej):=qc 3;have q4:X.cell? ⟨b3,4,none⟩=some (.int .i64 eo):=qc 4;have q5:X.cell? ⟨b3,5,none⟩=some (.int .i64 ey):=qc 5;have q6:X.cell? ⟨b3,6,none⟩=some (.int .i64 ev):=qc 6;have q7:X.cell? ⟨b3,7,none⟩=some (.int .i64 er):=qc 7;clear qc;have lx3:=qg R3.o;clear hb hgb hla hdr r3 d0 d1 e2 hcA hcB;go_wp2_with fail;have hfin:Calls Tryz.prog 35 #[.pointer (some ⟨C.bM,0,none⟩),.int .i64 i,yp ⟨ek,ex,eh,ej,eo,ey,ev,er⟩] X.drew (LaNext C P i Y0 X.drew):=by
    by_cases he:ek=1
    ·subst he
     rw[HY0.o];exact la_react1 (HL.o.below (Below.refl _ X).drew) i hi ex eh ej eo ey ev er
    ·rw [HY0.o,if_neg he]
     obtain⟨r,s,hws⟩:=HK4.o he;exact la_react (HL.o.below (Below.refl _ X).drew) i hi ek ex eh ej eo ey ev er he hws
   have HF:=qh hfin;clear hfin;refine qM [1,0,0,1,1,1,2,0] [0,1,2,3,4,5,6,7] (by kernel_rfl) ?_;simp only[qO,qD,sD,sE,sF,sG]
   repeat first|(refine qB fun K hK=>?_;go_simp;refine hK _ _ ?_;clear hK K)|(apply qI;(intro w2 hw2;have hk1:=hw2.cell;have hk3:=hw2.heap;clear hw2;go_simp;with_reducible rfl);simp only[Act.put,sA,sB,sC])
   refine qK (fun K hK=>?_);go_simp;refine(HF.o).mono ?_;rintro e X1 ⟨v,ve',us',rfl,hb,hla,hx⟩;refine hK _ _ ?_;clear hK K HF;have HB1:=qh (HB.o.trans ((Below.refl C.B X).drew.trans hb));have HL1:=qh hla;have HX1:=qh hx;clear hb hla hx x0 x1 x4 q0 q1 q2 q3 q4 q5 q6 q7
   repeat first|(refine qB fun K hK=>?_;go_simp;refine hK _ _ ?_;clear hK K)|refine qy ?_
   go_wp2;go_ret;exact⟨_,ve',us',rfl,HB1.o,HL1.o,HX1.o⟩
end
end
section
attribute [local irreducible] xF
section
variable {w w':World} {C:LC} {ve:Value} {P:Pg} {M:LM} {us:List (Value×Value)}
theorem NxAt.form {i:Nat} {v:Value} {x:Nx} (h:NxAt w C i ve v x):v=.nilFunc\/∃f a c,v=.func f a c:=by
 cases x with
 |none=>exact .inl h
 |abort=>obtain⟨_,_,rfl,-⟩:=h;exact .inr ⟨_,_,_,rfl⟩
 |rel l=>
  cases l
  ·obtain ⟨_,_,rfl,-⟩:=h;exact .inr ⟨_,_,_,rfl⟩
  ·obtain ⟨_,_,_,rfl,-⟩:=h;exact .inr ⟨_,_,_,rfl⟩
 |ans e=>obtain⟨_,_,_,rfl,-⟩:=h;exact .inr ⟨_,_,_,rfl⟩
theorem qV.drRow (h:qV w C ve us P M):w.heap[C.bD]?=some (.cells #[C.pc,C.pt,.pointer (some ⟨C.bW,0,none⟩),.slice (some ⟨C.gN,0,none⟩) P.threads.length P.threads.length,C.rf] 129 (0,0)):=let ⟨_,h1,_⟩:=h.dr;h1.row
theorem qV.nxRow (h:qV w C ve us P M):∃cs,w.heap[C.gN]?=some (.cells cs 131 (0,0)):=by
 obtain⟨_,h1,_⟩:=h.dr;exact h1.next.keepObj C.gN rfl
theorem qV.nxB (h:qV w C ve us P M):C.B<=C.gN:=by
 obtain⟨_,h1,_⟩:=h.dr;exact(h1.next.lt C.gN rfl).1
theorem qV.nxCell (h:qV w C ve us P M) {i:Nat} (hi:i < P.threads.length):∃v,w.cell? ⟨C.gN,i,none⟩=some v:=by
 obtain⟨vs,h1,_⟩:=h.dr;obtain⟨g,u,hg,-,-,hu⟩:=h1.next.at1 h1.next.len hi
 simp only[Option.some.injEq,Addr.mk.injEq,and_true] at hg;subst hg;exact⟨u,hu⟩
theorem qV.nxAt (h:qV w C ve us P M) {i:Nat} (hi:i < P.threads.length):∃v x,w.cell? ⟨C.gN,i,none⟩=some v/\M.nx[i]?=some x/\NxAt w C i ve v x:=by
 obtain⟨vs,h1,h2,h3⟩:=h.dr;obtain⟨g,u,hg,-,hv,hu⟩:=h1.next.at1 h1.next.len hi
 simp only[Option.some.injEq,Addr.mk.injEq,and_true] at hg;subst hg;obtain⟨x,hx⟩:∃x,M.nx[i]?=some x:=⟨_,List.getElem?_eq_getElem (by omega)⟩
 exact⟨u,x,hu,hx,h3 i u x hv hx⟩
def Ms (t:TypeId):Prop:=t=131
theorem DrAt.setNext {B bD bW gT gN:Nat} {vc vt pc pt rf:Value} {S:yq} {nx:List Value} (h:DrAt w B bD bW gT gN vc vt ve pc pt rf P S nx) (i:Nat) (v:Value):DrAt (w.setCell ⟨gN,i,none⟩ v) B bD bW gT gN vc vt ve pc pt rf P S (nx.set i v):=by
 obtain⟨cs,hr⟩:=h.next.keepObj gN rfl
 have hk:Kd Ms w (w.setCell ⟨gN,i,none⟩ v):=Kd.set (T:=Ms) hr rfl v;exact⟨hk _ _ _ _ h.row (by unfold Ms;decide),h.hB,⟨hk _ _ _ _ h.walk.row (by unfold Ms;decide),h.walk.hB,qp.kd h.walk.cells hk (by unfold Ms;decide),h.walk.thr.kd hk (by unfold Ms;decide) (by unfold Ms;decide) (by unfold Ms;decide),qp.kd h.walk.ths hk (by unfold Ms;decide),qp.kd h.walk.evs hk (by unfold Ms;decide),h.walk.ok,h.walk.tok⟩,qp.kd h.pcells hk (by unfold Ms;decide),h.pthr.kd hk (by unfold Ms;decide) (by unfold Ms;decide) (by unfold Ms;decide),own_set1 h.next v i⟩
theorem qV.nxSet (h:qV w C ve us P M) {i:Nat} (hi:i < P.threads.length) {v:Value} {x:Nx} (hx:NxAt w C i ve v x):qV (w.setCell ⟨C.gN,i,none⟩ v) C ve us P {M with nx:=M.nx.set i x}:=by
 obtain⟨cs,hr⟩:=h.nxRow;obtain⟨vs,h1,h2,h3⟩:=h.dr;have hk:Kd Ms w (w.setCell ⟨C.gN,i,none⟩ v):=Kd.set (T:=Ms) hr rfl v;have kp:∀{j:Nat} {u:Value} {z:Nx},NxAt w C j ve u z->NxAt (w.setCell ⟨C.gN,i,none⟩ v) C j ve u z:=fun hn=>NxAt.keep hn (fun p u hp=>hk _ _ _ _ hp (by unfold Ms;decide)) (fun p u hp=>hk _ _ _ _ hp (by unfold Ms;decide)) (fun p u hp=>hk _ _ _ _ hp (by unfold Ms;decide)) fun p cs hp he=>⟨hk _ _ _ _ hp (by unfold Ms;decide),he⟩
 refine⟨hk _ _ _ _ h.row (by unfold Ms;decide),h.hB,⟨vs.set i v,h1.setNext i v,by rw[List.length_set];exact h2,fun j u z hu hz=>?_⟩,qp.kd h.cells hk (by unfold Ms;decide),h.clen,h.wks.keep (qp.kd h.wks.own hk (by unfold Ms;decide)) (yI.set hr v),fun k cs hf=>hk _ _ _ _ (h.fr k cs hf) (by unfold Ms;decide)⟩;by_cases e:i=j
 ·subst e
  rw[List.getElem?_set_self (by have:=(List.getElem?_eq_some_iff.1 hu).1;simpa using this)] at hu;rw[List.getElem?_set_self (by have:=(List.getElem?_eq_some_iff.1 hz).1;simpa using this)] at hz;obtain rfl:=Option.some.inj hu;obtain rfl:=Option.some.inj hz;exact kp hx
 ·rw [List.getElem?_set_ne e] at hu hz
  exact kp (h3 j u z hu hz)
def StepMidXX (C:LC) (P:Pg) (w:World) (i:Nat) (fid:FuncId) (caps:Array Value) (y:LM×Nx):Exit->Act->World->Prop:=fun e a' X=>
 ∃(v:Value),e=.normal/\a'={tmps:=#[.pointer (some ⟨C.bD,0,none⟩),.int .i64 i,undef,undef,.bool false,.func (.func fid) #[] caps,.pointer (some ⟨C.bD,0,none⟩),.pointer (some ⟨C.bD,0,none⟩),.pointer (some ⟨C.bD,2,none⟩),.pointer (some ⟨C.bW,0,none⟩),.int .i64 i,.bool false,.pointer (some ⟨C.bD,0,none⟩),.pointer (some ⟨C.bD,0,none⟩),.pointer (some ⟨C.bD,3,none⟩),.slice (some ⟨C.gN,0,none⟩) P.threads.length P.threads.length,.int .i64 i,.pointer (some ⟨C.gN,i,none⟩),.func (.func fid) #[] caps,.func (.func fid) #[] caps,.bool false,undef,undef,undef,.pointer (some ⟨C.bD,0,none⟩),.pointer (some ⟨C.bD,0,none⟩),.pointer (some ⟨C.bD,3,none⟩),.slice (some ⟨C.gN,0,none⟩) P.threads.length P.threads.length,.int .i64 i,.func (.func fid) #[] caps,v,.pointer (some ⟨C.gN,i,none⟩)],defers:=[]}/\Below C.B w X/\∃ve' us',qV X C ve' us' P {y.1 with nx:=y.1.nx.set i y.2}
theorem d_stepXX (h:qV w C ve us P M) (i:Nat) (hi:i < P.threads.length) (hd:xW P M.W i=false) {fid:FuncId} {caps:Array Value} (hv:w.cell? ⟨C.gN,i,none⟩=some (.func (.func fid) #[] caps)) {y:LM×Nx} (hent:∀(args:Array Value) (w:World),Sem.run Tryz.prog (callFunc fid args) w=.ok (.enter fid args) w)
  (hc:∀w',Below w.heap.size w w'->Calls Tryz.prog fid caps w' (LaNext C P i y w')):
  Calls Tryz.prog 36 #[.pointer (some ⟨C.bD,0,none⟩),.int .i64 i] w (yS C P {y.1 with nx:=y.1.nx.set i y.2} (.bool true) w):=by
 have hn4:=h.ok.threads.2;have hdr:=h.drRow;have d2:=qd hdr 2;have d3:=qd hdr 3;have lD:=qg hdr;obtain⟨csN,rN⟩:=h.nxRow;have lN:=qg rN;obtain⟨vs,hdr2,-,-⟩:=h.dr;have hwd:=qh (wk_done hdr2.walk i);have H:=qh h;have HC:=qh (hc w.drew.drew ((Below.refl w.heap.size w).drew.drew));have HCA:=qh hc;have qn:Sem.run Tryz.prog (binOp BinOp.eql 131 (.func (.func fid) #[] caps) Value.nilFunc) w.drew=.ok (.bool false) w.drew:=by kernel_rfl
 have BW:=qh (Below.refl C.B w).drew;rw[hd] at hwd;clear h hc hdr hdr2 rN;go_enter Tryz.func36,Tryz.ntmps36;go_wp2_with fail;refine(hwd.o).mono ?_;rintro e w1 ⟨rfl,rfl⟩;go_wp2_with fail;refine wp_mono (Q:=StepMidXX C P w i fid caps y) ?_ ?_
 ·
  refine qQ (w.heap.size) [0,0,0,1,0,0,2,0,2] (.frk [0,1,2,4,5] (.fin [3,6,7,8]) (.fin [6,3,7,8])) (by kernel_rfl) ?_;simp only[yn,qO,qD,sD,sE,sF,sG]
  repeat first|(refine qB fun K hK=>?_;go_simp;refine hK _ _ ?_;clear hK K)|refine qy ?_
  refine⟨?_,?_⟩
  ·
   repeat (apply qI;(intro w2 hw2;have hk1:=hw2.cell;have hk3:=hw2.1;clear hw2;go_simp;with_reducible rfl);simp only[Act.put,sA,sB,sC])
   refine qK (fun K hK=>?_);go_simp;refine(HC.o).mono ?_;rintro e X1 ⟨v,ve',us',rfl,hb,hla,hx⟩;refine hK _ _ ?_;clear hK K;have hb1:Below C.B w.drew X1:=(Below.refl C.B w.drew).drew.trans hb;have f2:=hla.nxCell hi;have f3:=hla.nxRow;have f4:=qg hla.drRow;have f5:=qg f3.choose_spec;have f6:=qq f3.choose_spec i;have f7:X1.cell? ⟨C.bD,3,none⟩=some (.slice (some ⟨C.gN,0,none⟩) P.threads.length P.threads.length):=qd hla.drRow 3;obtain⟨ov,f2⟩:=f2;have HL1:=qh hla;have HX1:=qh hx;have HB1:=qh hb1;clear hb hla hx f3 hb1;rcases HX1.o.form with rfl|⟨fa,fb,fc,rfl⟩
   all_goals
    repeat (refine qB fun K hK=>?_;go_simp;refine hK _ _ ?_;clear hK K)
    refine qK (fun K hK=>?_);go_simp;refine hK _ _ ?_;clear hK K
    repeat refine qy ?_
    exact⟨_,rfl,rfl,(BW.o.trans HB1.o).setCell (p:=⟨C.gN,i,none⟩) HL1.o.nxB _,ve',us',HL1.o.nxSet hi HX1.o⟩
  ·
   refine qK (fun K hK=>?_);go_simp;refine(HC.o).mono ?_;rintro e X1 ⟨v,ve',us',rfl,hb,hla,hx⟩;refine hK _ _ ?_;clear hK K;have hb1:Below C.B w.drew X1:=(Below.refl C.B w.drew).drew.trans hb;have f2:=hla.nxCell hi;have f3:=hla.nxRow;have f4:=qg hla.drRow;have f5:=qg f3.choose_spec;have f6:=qq f3.choose_spec i;have f7:X1.cell? ⟨C.bD,3,none⟩=some (.slice (some ⟨C.gN,0,none⟩) P.threads.length P.threads.length):=qd hla.drRow 3;obtain⟨ov,f2⟩:=f2;have HL1:=qh hla;have HX1:=qh hx;have HB1:=qh hb1;clear hb hla hx f3 hb1;rcases HX1.o.form with rfl|⟨fa,fb,fc,rfl⟩
   all_goals
    repeat first|(refine qB fun K hK=>?_;go_simp;refine hK _ _ ?_;clear hK K)|(apply qI;(intro w2 hw2;have hk1:=hw2.cell;have hk3:=hw2.1;clear hw2;go_simp;with_reducible rfl);simp only[Act.put,sA,sB,sC])
    refine qK (fun K hK=>?_);go_simp;refine hK _ _ ?_;clear hK K
    repeat refine qy ?_
    exact⟨_,rfl,rfl,(BW.o.trans HB1.o).setCell (p:=⟨C.gN,i,none⟩) HL1.o.nxB _,ve',us',HL1.o.nxSet hi HX1.o⟩
 ·rintro e a' X ⟨v,rfl,rfl,hb,ve',us',hla⟩
  have HB:=qh hb;have HL:=qh hla;clear hb hla HC;go_wp2;go_ret;exact⟨rfl,HB.o,ve',us',HL.o⟩
def StepMidGO (C:LC) (P:Pg) (w:World) (i:Nat) (p1 p2:Nat) (y:LM×Nx):Exit->Act->World->Prop:=fun e a' X=>
 ∃(v:Value),e=.normal/\a'={tmps:=#[.pointer (some ⟨C.bD,0,none⟩),.int .i64 i,undef,undef,.bool false,.func (.func 114) #[] #[.pointer (some ⟨p1,0,none⟩),.pointer (some ⟨p2,0,none⟩)],.pointer (some ⟨C.bD,0,none⟩),.pointer (some ⟨C.bD,0,none⟩),.pointer (some ⟨C.bD,2,none⟩),.pointer (some ⟨C.bW,0,none⟩),.int .i64 i,.bool false,.pointer (some ⟨C.bD,0,none⟩),.pointer (some ⟨C.bD,0,none⟩),.pointer (some ⟨C.bD,3,none⟩),.slice (some ⟨C.gN,0,none⟩) P.threads.length P.threads.length,.int .i64 i,.pointer (some ⟨C.gN,i,none⟩),.nilFunc,.nilFunc,.bool true,.pointer (some ⟨C.bD,0,none⟩),.int .i64 i,.func (.func 114) #[] #[.pointer (some ⟨p1,0,none⟩),.pointer (some ⟨p2,0,none⟩)],.pointer (some ⟨C.bD,0,none⟩),.pointer (some ⟨C.bD,0,none⟩),.pointer (some ⟨C.bD,3,none⟩),.slice (some ⟨C.gN,0,none⟩) P.threads.length P.threads.length,.int .i64 i,.func (.func 114) #[] #[.pointer (some ⟨p1,0,none⟩),.pointer (some ⟨p2,0,none⟩)],v,.pointer (some ⟨C.gN,i,none⟩)],defers:=[]}/\Below C.B w X/\∃ve' us',qV X C ve' us' P {y.1 with nx:=y.1.nx.set i y.2}
theorem d_goOn (b:Nat) (i:Int) (w:World):Calls Tryz.prog 67 #[.pointer (some ⟨b,0,none⟩),.int .i64 i] w fun e w'=>e=.returned (.func (.func 114) #[] #[.pointer (some ⟨w.heap.size,0,none⟩),.pointer (some ⟨w.heap.size+1,0,none⟩)])/\w'=(w.alloc (.cells #[.pointer (some ⟨b,0,none⟩)] 82)).alloc (.cells #[.int .i64 i] 3):=by
 go_enter Tryz.func67,Tryz.ntmps67;go_wp2;go_ret;exact⟨rfl,rfl⟩
theorem d_stepGO (h:qV w C ve us P M) (i:Nat) (hi:i < P.threads.length) (hd:xW P M.W i=false) (hv:w.cell? ⟨C.gN,i,none⟩=some .nilFunc) {y:LM×Nx}
  (hc:∀w' p1 p2,Below w.heap.size w w'->GoBox C i p1 p2 w'->Calls Tryz.prog 114 #[.pointer (some ⟨p1,0,none⟩),.pointer (some ⟨p2,0,none⟩)] w' (LaNext C P i y w')):
  Calls Tryz.prog 36 #[.pointer (some ⟨C.bD,0,none⟩),.int .i64 i] w (yS C P {y.1 with nx:=y.1.nx.set i y.2} (.bool true) w):=by
 have hn4:=h.ok.threads.2;have hdr:=h.drRow;have d2:=qd hdr 2;have d3:=qd hdr 3;have lD:=qg hdr;obtain⟨csN,rN⟩:=h.nxRow;have lN:=qg rN;obtain⟨vs,hdr2,-,-⟩:=h.dr;have hwd:=qh (wk_done hdr2.walk i);have H:=qh h;have HCA:=qh hc;have qn:Sem.run Tryz.prog (binOp BinOp.eql 131 .nilFunc Value.nilFunc) w.drew=.ok (.bool true) w.drew:=by kernel_rfl
 rw[hd] at hwd;clear h hc hdr hdr2 rN;go_enter Tryz.func36,Tryz.ntmps36;go_wp2_with fail;refine(hwd.o).mono ?_;rintro e w1 ⟨rfl,rfl⟩;go_wp2_with fail;refine(d_goOn _ _ _).mono ?_;rintro e w1 ⟨rfl,hw1⟩;have bX:Below w.heap.size w w1:=by rw[hw1];exact((Below.refl w.heap.size w).drew.alloc (Nat.le_refl _) _).alloc (by simp) _
 have hgb:GoBox C i w.heap.size (w.heap.size+1) w1:=by
  rw[hw1];exact⟨qF (qL (w:=w.drew) rfl),qL (by simp)⟩
 obtain⟨p1,hp1⟩:∃p,p=w.heap.size:=⟨_,rfl⟩
 obtain⟨p2,hp2⟩:∃p,p=w.heap.size+1:=⟨_,rfl⟩
 have d3:=qx bX lD d3;have zX:=bX.size;have hBw:=H.o.size;have HC:=qh (HCA.o w1.drew _ _ (bX.drew) (show GoBox C i w.heap.size (w.heap.size+1) w1.drew from hgb));have BW:=qh (bX.mono hBw);have lDX:C.bD < w1.heap.size:=by omega
 have e1:w.drew.heap.size=w.heap.size:=rfl;rw[e1];rw[←hp2,←hp1] at HC ⊢;have HP:=qh (And.intro hp1 hp2);clear hw1 bX hgb qn hp1 hp2 e1 d2;go_wp2_with fail;refine wp_mono (Q:=StepMidGO C P w i p1 p2 y) ?_ ?_
 ·
  refine qQ (w.heap.size) [0,0,0,1,0,0,2,0,2] (.frk [0,1,2,4,5] (.fin [3,6,7,8]) (.fin [6,3,7,8])) (by kernel_rfl) ?_;simp only[yn,qO,qD,sD,sE,sF,sG]
  repeat first|(refine qB fun K hK=>?_;go_simp;refine hK _ _ ?_;clear hK K)|refine qy ?_
  refine⟨?_,?_⟩
  ·
   repeat (apply qI;(intro w2 hw2;have hk1:=hw2.cell;have hk3:=hw2.1;clear hw2;go_simp;with_reducible rfl);simp only[Act.put,sA,sB,sC])
   refine qK (fun K hK=>?_);go_simp;refine(HC.o).mono ?_;rintro e X1 ⟨v,ve',us',rfl,hb,hla,hx⟩;refine hK _ _ ?_;clear hK K;have hb1:Below C.B w1 X1:=(Below.refl C.B w1).drew.trans hb;have f2:=hla.nxCell hi;have f3:=hla.nxRow;have f4:=qg hla.drRow;have f5:=qg f3.choose_spec;have f6:=qq f3.choose_spec i;have f7:X1.cell? ⟨C.bD,3,none⟩=some (.slice (some ⟨C.gN,0,none⟩) P.threads.length P.threads.length):=qd hla.drRow 3;obtain⟨ov,f2⟩:=f2;have HL1:=qh hla;have HX1:=qh hx;have HB1:=qh hb1;clear hb hla hx f3 hb1;rcases HX1.o.form with rfl|⟨fa,fb,fc,rfl⟩
   all_goals
    repeat (refine qB fun K hK=>?_;go_simp;refine hK _ _ ?_;clear hK K)
    refine qK (fun K hK=>?_);go_simp;refine hK _ _ ?_;clear hK K
    repeat refine qy ?_
    exact⟨_,rfl,rfl,(BW.o.trans HB1.o).setCell (p:=⟨C.gN,i,none⟩) HL1.o.nxB _,ve',us',HL1.o.nxSet hi HX1.o⟩
  ·
   refine qK (fun K hK=>?_);go_simp;refine(HC.o).mono ?_;rintro e X1 ⟨v,ve',us',rfl,hb,hla,hx⟩;refine hK _ _ ?_;clear hK K;have hb1:Below C.B w1 X1:=(Below.refl C.B w1).drew.trans hb;have f2:=hla.nxCell hi;have f3:=hla.nxRow;have f4:=qg hla.drRow;have f5:=qg f3.choose_spec;have f6:=qq f3.choose_spec i;have f7:X1.cell? ⟨C.bD,3,none⟩=some (.slice (some ⟨C.gN,0,none⟩) P.threads.length P.threads.length):=qd hla.drRow 3;obtain⟨ov,f2⟩:=f2;have HL1:=qh hla;have HX1:=qh hx;have HB1:=qh hb1;clear hb hla hx f3 hb1;rcases HX1.o.form with rfl|⟨fa,fb,fc,rfl⟩
   all_goals
    repeat first|(refine qB fun K hK=>?_;go_simp;refine hK _ _ ?_;clear hK K)|(apply qI;(intro w2 hw2;have hk1:=hw2.cell;have hk3:=hw2.1;clear hw2;go_simp;with_reducible rfl);simp only[Act.put,sA,sB,sC])
    refine qK (fun K hK=>?_);go_simp;refine hK _ _ ?_;clear hK K
    repeat refine qy ?_
    exact⟨_,rfl,rfl,(BW.o.trans HB1.o).setCell (p:=⟨C.gN,i,none⟩) HL1.o.nxB _,ve',us',HL1.o.nxSet hi HX1.o⟩
 ·rintro e a' X ⟨v,rfl,rfl,hb,ve',us',hla⟩
  have HB:=qh hb;have HL:=qh hla;clear hb hla HC;go_wp2;go_ret;exact⟨rfl,HB.o,ve',us',HL.o⟩
end
end
