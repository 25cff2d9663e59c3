/- Parts of the proof, merged by program out of 3 texts (LayB, KeysB, ToE): the first: The library's contracts on the keys of a map[int]bool and on sorting, laid at this program's numbers. Conditions: those of each theorem, as typed. -/
import Derived.Shelf.SlIter.Nil
import Derived.Shelf.SlIterI.Nil
import Derived.Shelf.SortM.Plain
import Derived.Shelf.SortM.SortNone
import Derived.Ground.GgzProg
import Derived.Ground.SlgmProg
import Derived.Test.YtkfhgifhfkcehaaGreatDoorProg
import Derived.Test.YtkfhgifhfkcehaaGreatDoorQL15
import Derived.Test.YtkfhgifhfkcehaaGreatDoorQL05
import Derived.Test.YtkfhgifhfkcehaaGreatDoorQL36
set_option linter.unusedVariables false
set_option linter.unusedSimpArgs false
set_option linter.unusedSectionVars false
set_option maxRecDepth 100000
set_option maxHeartbeats 4000000
namespace Go.Proofs.YtkfhgifhfkcehaaGreatDoor
open Go.Maps Go.RowKit Go.Shelf Go.Sort
def keys97_ren:Go.Shelf.Ren:=⟨fun|7=>63|10=>111|n=>n,fun|23=>132|26=>3|3=>4|28=>140|0=>0|27=>139|33=>33|4=>4|n=>n,fun|n=>n⟩
theorem keys97:SlLaysZI.n7 Tryz.prog keys97_ren:={
 mixed:=by kernel_rfl
 f7:=⟨Tryz.f63.name,by decide,Tryz.func63.trans (congrArg some (by kernel_rfl))⟩
 f10:=⟨Tryz.f111.name,by decide,Tryz.func111.trans (congrArg some (by kernel_rfl))⟩
 t0:=Tryz.underlying0
 a0:=Tryz.isAgg0
 z0:=Tryz.sizeOf0
 v0:=Tryz.zeroValue0
 t4:=Tryz.underlying4
 a4:=Tryz.isAgg4
 z4:=Tryz.sizeOf4
 v4:=Tryz.zeroValue4
 t23:=Tryz.underlying132
 a23:=Tryz.isAgg132
 z23:=Tryz.sizeOf132
 v23:=Tryz.zeroValue132
 t26:=Tryz.underlying3
 a26:=Tryz.isAgg3
 z26:=Tryz.sizeOf3
 v26:=Tryz.zeroValue3
 t27:=Tryz.underlying139
 a27:=Tryz.isAgg139
 z27:=Tryz.sizeOf139
 v27:=Tryz.zeroValue139
 t28:=Tryz.underlying140
 a28:=Tryz.isAgg140
 z28:=Tryz.sizeOf140
 v28:=Tryz.zeroValue140
 t33:=Tryz.underlying33
 a33:=Tryz.isAgg33
 z33:=Tryz.sizeOf33
 v33:=Tryz.zeroValue33}
def sorted96_ren:Go.Shelf.Ren:=⟨fun|6=>62|8=>109|9=>110|11=>146|13=>148|12=>147|23=>208|24=>209|14=>199|15=>200|16=>201|17=>202|18=>203|19=>204|20=>205|21=>206|22=>207|25=>241|26=>242|27=>243|28=>244|29=>245|30=>246|31=>253|n=>n,fun|26=>3|28=>140|24=>22|0=>0|3=>3|37=>281|48=>332|50=>334|4=>4|40=>326|39=>325|45=>50|5=>5|9=>9|51=>352|55=>235|57=>360|58=>245|33=>33|n=>n,fun|n=>n⟩
theorem sorted96:SlLaysZI.n6 Tryz.prog sorted96_ren:={
 mixed:=by kernel_rfl
 f6:=⟨Tryz.f62.name,by decide,Tryz.func62.trans (congrArg some (by kernel_rfl))⟩
 f8:=⟨Tryz.f109.name,by decide,Tryz.func109.trans (congrArg some (by kernel_rfl))⟩
 f11:=⟨Tryz.f146.name,by decide,Tryz.func146.trans (congrArg some (by kernel_rfl))⟩
 t0:=Tryz.underlying0
 a0:=Tryz.isAgg0
 z0:=Tryz.sizeOf0
 v0:=Tryz.zeroValue0
 t24:=Tryz.underlying22
 a24:=Tryz.isAgg22
 z24:=Tryz.sizeOf22
 v24:=Tryz.zeroValue22
 t26:=Tryz.underlying3
 a26:=Tryz.isAgg3
 z26:=Tryz.sizeOf3
 v26:=Tryz.zeroValue3
 t28:=Tryz.underlying140
 a28:=Tryz.isAgg140
 z28:=Tryz.sizeOf140
 v28:=Tryz.zeroValue140
 i26:=by kernel_rfl}
def sort134_ren:Go.Shelf.Ren:=⟨fun|5=>110|8=>148|7=>147|19=>208|20=>209|10=>199|11=>200|12=>201|13=>202|14=>203|15=>204|16=>205|17=>206|18=>207|30=>241|31=>242|32=>243|33=>244|34=>245|35=>246|40=>253|n=>n,fun|23=>22|25=>3|3=>3|32=>281|22=>22|0=>0|44=>332|46=>334|4=>4|36=>326|35=>325|41=>50|5=>5|9=>9|53=>352|57=>235|63=>360|64=>245|n=>n,fun|n=>n⟩
theorem sort134:SlLaysM.n5 Tryz.prog sort134_ren:={
 mixed:=by kernel_rfl
 f5:=⟨Tryz.f110.name,by decide,Tryz.func110.trans (congrArg some (by kernel_rfl))⟩
 f7:=⟨Tryz.f147.name,by decide,Tryz.func147.trans (congrArg some (by kernel_rfl))⟩
 f8:=Tryz.func148.trans (congrArg some (by kernel_rfl))
 f10:=⟨Tryz.f199.name,by decide,Tryz.func199.trans (congrArg some (by kernel_rfl))⟩
 f11:=⟨Tryz.f200.name,by decide,Tryz.func200.trans (congrArg some (by kernel_rfl))⟩
 f12:=⟨Tryz.f201.name,by decide,Tryz.func201.trans (congrArg some (by kernel_rfl))⟩
 f13:=⟨Tryz.f202.name,by decide,Tryz.func202.trans (congrArg some (by kernel_rfl))⟩
 f14:=⟨Tryz.f203.name,by decide,Tryz.func203.trans (congrArg some (by kernel_rfl))⟩
 f15:=⟨Tryz.f204.name,by decide,Tryz.func204.trans (congrArg some (by kernel_rfl))⟩
 f16:=⟨Tryz.f205.name,by decide,Tryz.func205.trans (congrArg some (by kernel_rfl))⟩
 f17:=⟨Tryz.f206.name,by decide,Tryz.func206.trans (congrArg some (by kernel_rfl))⟩
 f18:=⟨Tryz.f207.name,by decide,Tryz.func207.trans (congrArg some (by kernel_rfl))⟩
 f19:=Tryz.func208.trans (congrArg some (by kernel_rfl))
 f20:=Tryz.func209.trans (congrArg some (by kernel_rfl))
 f30:=⟨Tryz.f241.name,by decide,Tryz.func241.trans (congrArg some (by kernel_rfl))⟩
 f31:=Tryz.func242.trans (congrArg some (by kernel_rfl))
 f32:=Tryz.func243.trans (congrArg some (by kernel_rfl))
 f33:=⟨Tryz.f244.name,by decide,Tryz.func244.trans (congrArg some (by kernel_rfl))⟩
 f34:=⟨Tryz.f245.name,by decide,Tryz.func245.trans (congrArg some (by kernel_rfl))⟩
 f35:=⟨Tryz.f246.name,by decide,Tryz.func246.trans (congrArg some (by kernel_rfl))⟩
 f40:=⟨Tryz.f253.name,by decide,Tryz.func253.trans (congrArg some (by kernel_rfl))⟩
 t0:=Tryz.underlying0
 a0:=Tryz.isAgg0
 z0:=Tryz.sizeOf0
 v0:=Tryz.zeroValue0
 t3:=Tryz.underlying3
 a3:=Tryz.isAgg3
 z3:=Tryz.sizeOf3
 v3:=Tryz.zeroValue3
 t4:=Tryz.underlying4
 a4:=Tryz.isAgg4
 z4:=Tryz.sizeOf4
 v4:=Tryz.zeroValue4
 t5:=Tryz.underlying5
 a5:=Tryz.isAgg5
 z5:=Tryz.sizeOf5
 v5:=Tryz.zeroValue5
 t9:=Tryz.underlying9
 a9:=Tryz.isAgg9
 z9:=Tryz.sizeOf9
 v9:=Tryz.zeroValue9
 t22:=Tryz.underlying22
 a22:=Tryz.isAgg22
 z22:=Tryz.sizeOf22
 v22:=Tryz.zeroValue22
 t23:=Tryz.underlying22
 a23:=Tryz.isAgg22
 z23:=Tryz.sizeOf22
 v23:=Tryz.zeroValue22
 t25:=Tryz.underlying3
 a25:=Tryz.isAgg3
 z25:=Tryz.sizeOf3
 v25:=Tryz.zeroValue3
 t32:=Tryz.underlying281
 a32:=Tryz.isAgg281
 z32:=Tryz.sizeOf281
 v32:=Tryz.zeroValue281
 t35:=Tryz.underlying325
 a35:=Tryz.isAgg325
 z35:=Tryz.sizeOf325
 v35:=Tryz.zeroValue325
 t36:=Tryz.underlying326
 a36:=Tryz.isAgg326
 z36:=Tryz.sizeOf326
 v36:=Tryz.zeroValue326
 t41:=Tryz.underlying50
 a41:=Tryz.isAgg50
 z41:=Tryz.sizeOf50
 v41:=Tryz.zeroValue50
 t44:=Tryz.underlying332
 a44:=Tryz.isAgg332
 z44:=Tryz.sizeOf332
 v44:=Tryz.zeroValue332
 t46:=Tryz.underlying334
 a46:=Tryz.isAgg334
 z46:=Tryz.sizeOf334
 v46:=Tryz.zeroValue334
 t53:=Tryz.underlying352
 a53:=Tryz.isAgg352
 z53:=Tryz.sizeOf352
 v53:=Tryz.zeroValue352
 t57:=Tryz.underlying235
 a57:=Tryz.isAgg235
 z57:=Tryz.sizeOf235
 v57:=Tryz.zeroValue235
 t63:=Tryz.underlying360
 a63:=Tryz.isAgg360
 z63:=Tryz.sizeOf360
 v63:=Tryz.zeroValue360
 t64:=Tryz.underlying245
 a64:=Tryz.isAgg245
 z64:=Tryz.sizeOf245
 v64:=Tryz.zeroValue245}
theorem sorts96 (m:Nat):AnyZI.SortsIn Tryz.prog sorted96_ren Fence.wide m:=
 ⟨fun blk off cap ss W hH hblk hsz=>callsIn_wide.2 (AnyM.slices_Sort_int sort134 blk off cap ss W hH hblk hsz),
  fun p cap W=>callsIn_wide.2 (AnyM.slices_Sort_int_none sort134 p cap W)⟩
def SrtI (l:List Int):Prop:=l.Pairwise fun a b=>a < b
theorem srt_leI {l:List Int} (h:SrtI l):l.Pairwise fun a b=>leI a b=true:=h.imp fun {a b} h=>by simp[leI];omega
theorem mergeSort_srt {l ss:List Int} (hp:ss.Perm l) (h:SrtI l):ss.mergeSort leI=l:=by
 rw[mergeSort_of_perm_i hp]
 exact List.mergeSort_of_pairwise (srt_leI h)
theorem intKeys_mapD {ε:Type} (ed:ε→DU) (M:List (Int×ε)):intKeys (mapD (.int .i64) ed M)=M.map (·.1):=by
 simp[intKeys,mapD,Go.intOf]
theorem own_of_row {w:World} {B n:Nat} {v:Value} {l:List Int} (h:w.ownsRow B 3 1 v n (l.map (.int .i64))) (hn:n=l.length):OwnI w B v l:=by
 subst hn
 show w.ownsRow B _ 1 v l.length (l.flatMap intC)
 rw[flat_int]
 exact h
theorem KSrt.keys {ε:Type} {M:List (Int×ε)} (h:KSrt M):SrtI (M.map (·.1)):=by
 unfold SrtI
 rw[List.pairwise_map]
 exact h
theorem keysB (mb:Option Nat) (W:World):Calls Tryz.prog 63 #[.map mb] W fun e w'=>e=.returned (.func (.func 111) #[] #[.pointer (some ⟨W.heap.size,0,none⟩)])∧w'=W.alloc (.cells #[.map mb] 132):=
 (callsIn_wide (n:=5)).1 (AnyZI.keys_in keys97 Fence.wide 5 trivial rfl mb W)
theorem sortedB {ε:Type} {R:RdU} {ed:ε→DU} {M:List (Int×ε)} {w:World} {b n:Nat} (h:IsMapK Tryz.prog 3 R (.int .i64) ed w b n M) (hs:KSrt M) (hn:n≤1000000):
  Calls Tryz.prog 62 #[.func (.func 111) #[] #[.pointer (some ⟨w.heap.size,0,none⟩)]] (w.alloc (.cells #[.map (some b)] 132)) fun e w'=>∃v,e=.returned v∧OwnI w' (w.heap.size+1) v (M.map (·.1))∧
   Below (w.heap.size+1) (w.alloc (.cells #[.map (some b)] 132)) w':=by
 have hlen:=h.length_le
 have hbl:=h.lt
 have hseq:SeqGives Fence.wide 2 Tryz.prog 111 #[.pointer (some ⟨w.heap.size,0,none⟩)] encZ (fun ss=>ss.Perm (intKeys (mapD (.int .i64) ed M))) (Maps.size (mapD (.int .i64) ed M)) (w.alloc (.cells #[.map (some b)] 132)):=
  AnyZI.keys_gives (ρ:=keys97_ren) {keys97 with} Fence.wide _ trivial rfl (by omega) w.heap.size b n _ _ (by simp) (by simp) (by
   obtain⟨es,clock,hb,Ft,hs,hD⟩:=h
   exact⟨es,clock,(Below.heap_alloc _ _ b hbl).trans hb,Ft,hs,hD⟩)
 refine((callsIn_wide (n:=5)).1 (AnyZI.sorted_in sorted96 Fence.wide 5 trivial trivial trivial trivial rfl (by omega) (sorts96 _) (enters_of Tryz.func110 (by kernel_rfl) rfl) 111 #[.pointer (some ⟨w.heap.size,0,none⟩)] trivial (enters_of Tryz.func111 (by kernel_rfl) rfl) _ _ (by rw[mapD_size];unfold maxLen;omega) (by rw[mapD_size];omega) _ hseq)).mono ?_
 rintro e w' ⟨v,ss,rfl,hp,hrow,-,hb⟩
 rw[intKeys_mapD] at hp
 have hm:=mergeSort_srt hp hs.keys
 rw[show (ss.mergeSort fun x y=>decide (x≤y))=M.map (·.1) from hm] at hrow
 rw[World.size_alloc] at hrow hb
 exact⟨v,rfl,own_of_row hrow (by have:=hp.length_eq;simpa using this),hb⟩
section
attribute [local irreducible] wpL
section
variable {w w':World} {C:LC} {ve:Value} {P:Pg} {M:LM} {us:List (Value×Value)}
theorem LaAt.wkCell (h:LaAt w C ve us P M) {i:Nat} (hi:i < P.threads.length):∃u,us[i]?=some u∧w.cell? ⟨C.gW,i*2,none⟩=some u.1∧w.cell? ⟨C.gW,i*2+1,none⟩=some u.2:=by
 obtain⟨gW',off,x,hb,hgW,hx,hcw⟩:=Sl.atF moC_len (show Sl w w.heap.size 2 (.slice (some ⟨C.gW,0,none⟩) P.threads.length P.threads.length) P.threads.length (us.flatMap moC) from by have h2:=h.wks.own;have h3:=h2.len;rw[←h3] at h2 ⊢;exact h2.sl) h.wks.own.len hi
 simp only[Option.some.injEq,Addr.mk.injEq,and_true] at hb
 obtain⟨rfl,rfl⟩:=hb
 refine⟨x,hx,?_,?_⟩
 ·have:=hcw 0 (by decide);simpa[moC] using this
 ·have:=hcw 1 (by decide);simpa[moC] using this
def BegMid (C:LC) (P:Pg) (w W:World) (i:Nat) (ex eh ej eo ey ev er:Int):Exit→Act→World→Prop:=fun e a' X=>
 ∃(b1 b2:Nat) (Y:World),e=.normal∧a'={tmps:=#[.pointer (some ⟨C.bM,0,none⟩),.int .i64 i,evV ⟨1,ex,eh,ej,eo,ey,ev,er⟩,.pointer (some ⟨w.heap.size,0,none⟩),.pointer (some ⟨w.heap.size+1,0,none⟩),.pointer (some ⟨w.heap.size+1+1,0,none⟩),.nilFunc,.pointer (some ⟨w.heap.size+1+1,0,none⟩),.int .i64 1,.bool true,.bool true,.pointer (some ⟨C.bM,0,none⟩),.pointer (some ⟨C.bM,0,none⟩),.pointer (some ⟨C.bM,2,none⟩),.slice (some ⟨C.gW,0,none⟩) P.threads.length P.threads.length,.int .i64 i,.map (some b1),.map (some b2),.agg #[.map (some b1),.map (some b2)],.pointer (some ⟨C.gW,i*2,none⟩),undef,undef,undef,undef,undef,undef,undef,undef,undef,undef,undef,undef,undef,undef,undef,undef,undef,undef,undef,undef,undef],defers:=[]}∧X=((Y.setCell ⟨C.gW,i*2,none⟩ (.map (some b1))).setCell ⟨C.gW,i*2+1,none⟩ (.map (some b2)))∧Below W.heap.size W Y∧Y.heap[b1]?=some (.map #[] 0)∧Y.heap[b2]?=some (.map #[] 0)∧b1≠b2∧W.heap.size≤b1∧W.heap.size≤b2
theorem la_react1 (h:LaAt w C ve us P M) (i:Nat) (hi:i < P.threads.length) (ex eh ej eo ey ev er:Int):
  Calls Tryz.prog 35 #[.pointer (some ⟨C.bM,0,none⟩),.int .i64 i,evV ⟨1,ex,eh,ej,eo,ey,ev,er⟩] w (LaNext C P i ({M with ws:=M.ws.set i (some ([],[]))},.none) w):=by
 have hn4:=h.ok.threads.2
 have d2:=row_cell h.row 2
 obtain⟨u,hu,w0,w1⟩:=h.wkCell hi
 have lM:=row_lt h.row
 obtain⟨csW,rW⟩:=h.wks.own.keepObj C.gW rfl
 have lW:=row_lt rW
 have H:=hid h
 clear h
 go_enter Tryz.func35,Tryz.ntmps35
 go_wp2_with fail
 have bA:Below w.heap.size w (((w.alloc (.cells #[.pointer (some ⟨C.bM,0,none⟩)] 28)).alloc (.cells #[.int .i64 i] 3)).alloc (.cells #[.int .i64 1,.int .i64 ex,.int .i64 eh,.int .i64 ej,.int .i64 eo,.int .i64 ey,.int .i64 ev,.int .i64 er] 53)):=(((Below.refl w.heap.size w).alloc (Nat.le_refl _) _).alloc (by simp) _).alloc (by simp;omega) _
 have zA:(((w.alloc (.cells #[.pointer (some ⟨C.bM,0,none⟩)] 28)).alloc (.cells #[.int .i64 i] 3)).alloc (.cells #[.int .i64 1,.int .i64 ex,.int .i64 eh,.int .i64 ej,.int .i64 eo,.int .i64 ey,.int .i64 ev,.int .i64 er] 53)).heap.size=w.heap.size+3:=by simp
 have rA:=row_old (o:=.cells #[.int .i64 1,.int .i64 ex,.int .i64 eh,.int .i64 ej,.int .i64 eo,.int .i64 ey,.int .i64 ev,.int .i64 er] 53) (row_old (o:=.cells #[.int .i64 i] 3) (row_new w (.cells #[.pointer (some ⟨C.bM,0,none⟩)] 28)))
 have rB:=row_old (o:=.cells #[.int .i64 1,.int .i64 ex,.int .i64 eh,.int .i64 ej,.int .i64 eo,.int .i64 ey,.int .i64 ev,.int .i64 er] 53) (row_new' (w:=w.alloc (.cells #[.pointer (some ⟨C.bM,0,none⟩)] 28)) (o:=.cells #[.int .i64 i] 3) (g:=w.heap.size+1) (by simp))
 generalize ((w.alloc (.cells #[.pointer (some ⟨C.bM,0,none⟩)] 28)).alloc (.cells #[.int .i64 i] 3)).alloc (.cells #[.int .i64 1,.int .i64 ex,.int .i64 eh,.int .i64 ej,.int .i64 eo,.int .i64 ey,.int .i64 ev,.int .i64 er] 53)=W at *
 have lA:w.heap.size < W.heap.size:=by omega
 have lB:w.heap.size+1 < W.heap.size:=by omega
 have lM':C.bM < W.heap.size:=by omega
 have lW':C.gW < W.heap.size:=by omega
 have d2:=cell_below bA lM d2
 have w0:=cell_below bA lW w0
 have w1:=cell_below bA lW w1
 have xA:=row_cell rA 0
 have xB:=row_cell rB 0
 have rWW:=row_below rW bA lW
 have HA:=hid (H.out.below bA)
 have BA:=hid (bA.mono H.out.size)
 have RW:=hid rWW
 have ZA:=hid zA
 clear bA rA rB zA rW rWW H
 have nW:∀q,W.heap.size≤q→q≠C.gW:=fun q hq=>by omega
 refine wp_mono (Q:=BegMid C P w W i ex eh ej eo ey ev er) ?_ ?_
 ·
  refine wp_rN (W.heap.size) [1,0,0,1,1,3,3,0,0,2] (.frk [0,1,2,3,4] (.fin [5,6,7,8,9]) (.fin [6,5,7,8,9])) (by kernel_rfl) ?_
  simp only[wpT,selX,guardAt,sD,sE,sF,sG]
  repeat first|(refine wpL_p fun K hK=>?_;go_simp;refine hK _ _ ?_;clear hK K)|(apply wpL_s;(intro w2 hw2;have hk1:=hw2.cell;have hk3:=hw2.1;clear hw2;go_simp;with_reducible rfl);simp only[Act.put,sA,sB,sC])|refine wpL_yes rfl rfl ?_|(refine wpL_no rfl rfl fun K hK=>?_;simp only[Act.put,sA,sB,sC];refine hK _ _ ?_;clear hK K)|refine wpL_nil ?_
  refine⟨?_,?_⟩
  ·refine wpL_k (fun K hK=>?_)
   go_simp
   refine hK _ _ (RN.KeepsN.alloc _ _ (by first|omega|exact Nat.le_refl _)) ?_
   clear hK K
   refine wpL_k (fun K hK=>?_)
   go_simp
   refine hK _ _ (RN.KeepsN.alloc _ _ (by simp)) ?_
   clear hK K
   repeat first|(refine wpL_p fun K hK=>?_;go_simp;refine hK _ _ ?_;clear hK K)|(apply wpL_s;(intro w2 hw2;have hk1:=hw2.cell;have hk3:=hw2.1;clear hw2;go_simp;with_reducible rfl);simp only[Act.put,sA,sB,sC])|refine wpL_yes rfl rfl ?_|(refine wpL_no rfl rfl fun K hK=>?_;simp only[Act.put,sA,sB,sC];refine hK _ _ ?_;clear hK K)|refine wpL_nil ?_
   change wpL _ _ _ _ _ ((W.drew.alloc (.map #[] 0)).alloc (.map #[] 0))
   have bY:Below W.heap.size W ((W.drew.alloc (.map #[] 0)).alloc (.map #[] 0)):=(((Below.refl W.heap.size W).drew).alloc (Nat.le_refl _) _).alloc (by simp) _
   have rb1:((W.drew.alloc (.map #[] 0)).alloc (.map #[] 0)).heap[W.heap.size]?=some (.map #[] 0):=row_old (row_new W.drew _)
   have rb2:((W.drew.alloc (.map #[] 0)).alloc (.map #[] 0)).heap[W.heap.size+1]?=some (.map #[] 0):=row_new' (by simp)
   have zY:((W.drew.alloc (.map #[] 0)).alloc (.map #[] 0)).heap.size=W.heap.size+2:=by simp
   generalize (W.drew.alloc (.map #[] 0)).alloc (.map #[] 0)=Y at *
   have w0:=cell_below bY lW' w0
   have w1:=cell_below bY lW' w1
   have ff:∀j,Y.frozen? ⟨C.gW,j,none⟩=false:=fun j=>row_free (row_below RW.out bY lW') j
   have lWY:C.gW < Y.heap.size:=by omega
   refine wpL_e (fun K hK=>?_)
   go_simp
   refine hK _ _ ?_
   clear hK K
   repeat first|(refine wpL_p fun K hK=>?_;go_simp;refine hK _ _ ?_;clear hK K)|(apply wpL_s;(intro w2 hw2;have hk1:=hw2.cell;have hk3:=hw2.1;clear hw2;go_simp;with_reducible rfl);simp only[Act.put,sA,sB,sC])|refine wpL_yes rfl rfl ?_|(refine wpL_no rfl rfl fun K hK=>?_;simp only[Act.put,sA,sB,sC];refine hK _ _ ?_;clear hK K)|refine wpL_nil ?_
   exact⟨W.heap.size,W.heap.size+1,_,rfl,rfl,rfl,bY,rb1,rb2,by omega,Nat.le_refl _,by omega⟩
  ·refine wpL_k (fun K hK=>?_)
   go_simp
   refine hK _ _ (RN.KeepsN.alloc _ _ (by first|omega|exact Nat.le_refl _)) ?_
   clear hK K
   refine wpL_k (fun K hK=>?_)
   go_simp
   refine hK _ _ (RN.KeepsN.alloc _ _ (by simp)) ?_
   clear hK K
   repeat first|(refine wpL_p fun K hK=>?_;go_simp;refine hK _ _ ?_;clear hK K)|(apply wpL_s;(intro w2 hw2;have hk1:=hw2.cell;have hk3:=hw2.1;clear hw2;go_simp;with_reducible rfl);simp only[Act.put,sA,sB,sC])|refine wpL_yes rfl rfl ?_|(refine wpL_no rfl rfl fun K hK=>?_;simp only[Act.put,sA,sB,sC];refine hK _ _ ?_;clear hK K)|refine wpL_nil ?_
   change wpL _ _ _ _ _ ((W.drew.alloc (.map #[] 0)).alloc (.map #[] 0))
   have bY:Below W.heap.size W ((W.drew.alloc (.map #[] 0)).alloc (.map #[] 0)):=(((Below.refl W.heap.size W).drew).alloc (Nat.le_refl _) _).alloc (by simp) _
   have rb1:((W.drew.alloc (.map #[] 0)).alloc (.map #[] 0)).heap[W.heap.size]?=some (.map #[] 0):=row_old (row_new W.drew _)
   have rb2:((W.drew.alloc (.map #[] 0)).alloc (.map #[] 0)).heap[W.heap.size+1]?=some (.map #[] 0):=row_new' (by simp)
   have zY:((W.drew.alloc (.map #[] 0)).alloc (.map #[] 0)).heap.size=W.heap.size+2:=by simp
   generalize (W.drew.alloc (.map #[] 0)).alloc (.map #[] 0)=Y at *
   have w0:=cell_below bY lW' w0
   have w1:=cell_below bY lW' w1
   have ff:∀j,Y.frozen? ⟨C.gW,j,none⟩=false:=fun j=>row_free (row_below RW.out bY lW') j
   have lWY:C.gW < Y.heap.size:=by omega
   refine wpL_e (fun K hK=>?_)
   go_simp
   refine hK _ _ ?_
   clear hK K
   repeat first|(refine wpL_p fun K hK=>?_;go_simp;refine hK _ _ ?_;clear hK K)|(apply wpL_s;(intro w2 hw2;have hk1:=hw2.cell;have hk3:=hw2.1;clear hw2;go_simp;with_reducible rfl);simp only[Act.put,sA,sB,sC])|refine wpL_yes rfl rfl ?_|(refine wpL_no rfl rfl fun K hK=>?_;simp only[Act.put,sA,sB,sC];refine hK _ _ ?_;clear hK K)|refine wpL_nil ?_
   exact⟨W.heap.size+1,W.heap.size,_,rfl,rfl,rfl,bY,rb2,rb1,by omega,by omega,Nat.le_refl _⟩
 ·rintro e a' X ⟨b1,b2,Y,rfl,rfl,rfl,bY,r1,r2,hne,h1,h2⟩
  have hk:Kd (fun t=>t=135) Y ((Y.setCell ⟨C.gW,i*2,none⟩ (.map (some b1))).setCell ⟨C.gW,i*2+1,none⟩ (.map (some b2))):=by
   have:=row_below RW.out bY lW'
   exact Kd.trans (T:=fun t=>t=135) (Kd.set (T:=fun t=>t=135) this rfl _) (Kd.set (T:=fun t=>t=135) (row_set this (i*2) (.map (some b1))) rfl _)
  have hm:KmAll W ((Y.setCell ⟨C.gW,i*2,none⟩ (.map (some b1))).setCell ⟨C.gW,i*2+1,none⟩ (.map (some b2))):=by
   have:=row_below RW.out bY lW'
   exact(KmAll.below bY).trans ((KmAll.set this _).trans (KmAll.set (row_set this (i*2) (.map (some b1))) _))
  have how:=own_set2 (OwnF.below HA.out.wks.own bY) moC_len (u:=(.map (some b1),.map (some b2))) rfl i
  have hr1:((Y.setCell ⟨C.gW,i*2,none⟩ (.map (some b1))).setCell ⟨C.gW,i*2+1,none⟩ (.map (some b2))).heap[b1]?=some (.map #[] 0):=row_other (row_other r1 (nW b1 h1).symm) (nW b1 h1).symm
  have hr2:((Y.setCell ⟨C.gW,i*2,none⟩ (.map (some b1))).setCell ⟨C.gW,i*2+1,none⟩ (.map (some b2))).heap[b2]?=some (.map #[] 0):=row_other (row_other r2 (nW b2 h2).symm) (nW b2 h2).symm
  have hB2:C.B≤W.heap.size:=HA.out.size
  have hBW:C.B≤C.gW:=(HA.out.wks.own.lt C.gW rfl).1
  have hb:Below C.B w ((Y.setCell ⟨C.gW,i*2,none⟩ (.map (some b1))).setCell ⟨C.gW,i*2+1,none⟩ (.map (some b2))):=((BA.out.trans (bY.mono hB2)).setCell (p:=⟨C.gW,i*2,none⟩) hBW _).setCell (p:=⟨C.gW,i*2+1,none⟩) hBW _
  have hL:=(HA.out.below bY).turn (cs':=M.cs) (fun k cs t fz h1 h2=>hk k cs t fz h1 (fun e=>h2 (.inr e))) (OwnF.kd (HA.out.below bY).cells hk (by decide)) HA.out.clen (HA.out.wks.begin (i:=i) (u:=(.map (some b1),.map (some b2))) (o':=some ([],[])) hm how (by
   rintro q (e|e) <;> cases e <;> assumption) ⟨b1,b2,rfl,by omega,by omega,hne,isMB_new hr1,isMI_new hr2,(fun _ h=>by cases h),List.Pairwise.nil,(fun _ h=>by cases h),List.Pairwise.nil⟩)
  generalize (Y.setCell ⟨C.gW,i*2,none⟩ (.map (some b1))).setCell ⟨C.gW,i*2+1,none⟩ (.map (some b2))=V at *
  have HL:=hid hL
  have HB:=hid hb
  clear hk hm how hr1 hr2 hb hL r1 r2 bY d2 w0 w1 xA xB
  go_wp2
  go_ret
  exact⟨_,ve,_,rfl,HB.out,HL.out,rfl⟩
theorem la_react (h:LaAt w C ve us P M) (i:Nat) (hi:i < P.threads.length) (ek ex eh ej eo ey ev er:Int) (he:ek≠1) {r:MB} {s:MI} (hws:M.ws[i]?=some (some (r,s))):
  Calls Tryz.prog 35 #[.pointer (some ⟨C.bM,0,none⟩),.int .i64 i,evV ⟨ek,ex,eh,ej,eo,ey,ev,er⟩] w (LaNext C P i (M,reactOf (woR M.ws[i]?) ⟨ek,ex,eh,ej,eo,ey,ev,er⟩) w):=by
 have hn4:=h.ok.threads.2
 obtain⟨br,bs,hu,hwo,hgW,w0,w1⟩:=h.woAt hi hws
 have d2:=row_cell h.row 2
 have lM:=row_lt h.row
 have e1:woR M.ws[i]?=r:=by rw[hws];rfl
 rw[e1]
 have H:=hid h
 have HP:=hid hwo
 clear h hws e1 hu hwo
 go_enter Tryz.func35,Tryz.ntmps35
 have bA:Below w.heap.size w (((w.alloc (.cells #[.pointer (some ⟨C.bM,0,none⟩)] 28)).alloc (.cells #[.int .i64 i] 3)).alloc (.cells #[.int .i64 ek,.int .i64 ex,.int .i64 eh,.int .i64 ej,.int .i64 eo,.int .i64 ey,.int .i64 ev,.int .i64 er] 53)):=(((Below.refl w.heap.size w).alloc (Nat.le_refl _) _).alloc (by simp) _).alloc (by simp;omega) _
 have rA:=row_old (o:=.cells #[.int .i64 ek,.int .i64 ex,.int .i64 eh,.int .i64 ej,.int .i64 eo,.int .i64 ey,.int .i64 ev,.int .i64 er] 53) (row_old (o:=.cells #[.int .i64 i] 3) (row_new w (.cells #[.pointer (some ⟨C.bM,0,none⟩)] 28)))
 have rB:=row_old (o:=.cells #[.int .i64 ek,.int .i64 ex,.int .i64 eh,.int .i64 ej,.int .i64 eo,.int .i64 ey,.int .i64 ev,.int .i64 er] 53) (row_new' (w:=w.alloc (.cells #[.pointer (some ⟨C.bM,0,none⟩)] 28)) (o:=.cells #[.int .i64 i] 3) (g:=w.heap.size+1) (by simp))
 have rC:=row_new' (w:=(w.alloc (.cells #[.pointer (some ⟨C.bM,0,none⟩)] 28)).alloc (.cells #[.int .i64 i] 3)) (o:=.cells #[.int .i64 ek,.int .i64 ex,.int .i64 eh,.int .i64 ej,.int .i64 eo,.int .i64 ey,.int .i64 ev,.int .i64 er] 53) (g:=w.heap.size+1+1) (by simp)
 have hve:ve.ownBlock≠some (w.heap.size+1+1):=fun e=>by
  obtain⟨vs,h1,-⟩:=H.out.dr
  have:=(h1.walk.evs.lt _ e).2
  omega
 have zA:(((w.alloc (.cells #[.pointer (some ⟨C.bM,0,none⟩)] 28)).alloc (.cells #[.int .i64 i] 3)).alloc (.cells #[.int .i64 ek,.int .i64 ex,.int .i64 eh,.int .i64 ej,.int .i64 eo,.int .i64 ey,.int .i64 ev,.int .i64 er] 53)).heap.size=w.heap.size+3:=by simp
 have hB:=H.out.size
 have HA:=hid (H.out.below bA)
 have BA:=hid (bA.mono hB)
 have RA:=hid rA
 have RB:=hid rB
 have RC:=hid rC
 have HVE:=hid hve
 have HQ:=hid (HP.out.keep fun b hb=>by
  obtain⟨-,es,cl,hh⟩:=HP.out.isMap b hb
  rw[row_below hh bA (row_lt hh),hh])
 have d2:=cell_below bA lM d2
 have w0:=cell_below bA hgW w0
 have ZA:=hid zA
 have BW:=hid bA
 have q1:(ek==1)=false:=by simpa using he
 by_cases h7:ek=7
 ·subst h7
  clear bA rA rB rC hve H HP d2 w0 w1 zA
  go_wp2_with fail
  generalize ((w.alloc (.cells #[.pointer (some ⟨C.bM,0,none⟩)] 28)).alloc (.cells #[.int .i64 i] 3)).alloc (.cells #[.int .i64 7,.int .i64 ex,.int .i64 eh,.int .i64 ej,.int .i64 eo,.int .i64 ey,.int .i64 ev,.int .i64 er] 53)=W at *
  have hBW:C.B≤W.heap.size:=HA.out.size
  refine(la_mkAbort _ _ _).mono ?_
  rintro e X1 ⟨rfl,hX1⟩
  have b1:Below W.heap.size W X1:=by rw[hX1];exact((Below.refl _ W).alloc (Nat.le_refl _) _).alloc (by simp) _
  have hbx:BxM X1 C i W.heap.size (W.heap.size+1):=by
   rw[hX1]
   exact⟨row_old (row_new W _),row_new' (by simp),hBW,by omega⟩
  have B1:=hid (BA.out.trans (b1.mono hBW))
  have L1:=hid (HA.out.below b1)
  have HX:=hid hbx
  clear hX1 b1 hbx
  go_wp2
  go_ret
  exact⟨_,ve,us,rfl,B1.out,L1.out,W.heap.size,W.heap.size+1,rfl,HX.out⟩
 ·have q7:(ek==7)=false:=by simpa using h7
  by_cases h4:ek=4
  ·subst h4
   have hre:reactOf r ⟨4,ex,eh,ej,eo,ey,ev,er⟩=.rel (r.map (·.1)):=by simp[reactOf]
   rw[hre]
   have xA:=row_cell rA 0
   have xB:=row_cell rB 0
   clear bA rA rB rC hve H HP
   go_wp2_with fail
   generalize ((w.alloc (.cells #[.pointer (some ⟨C.bM,0,none⟩)] 28)).alloc (.cells #[.int .i64 i] 3)).alloc (.cells #[.int .i64 4,.int .i64 ex,.int .i64 eh,.int .i64 ej,.int .i64 eo,.int .i64 ey,.int .i64 ev,.int .i64 er] 53)=W at *
   have lA:w.heap.size < W.heap.size:=by omega
   have lB:w.heap.size+1 < W.heap.size:=by omega
   have lM':C.bM < W.heap.size:=by omega
   have lW':C.gW < W.heap.size:=by omega
   have hBW:C.B≤W.heap.size:=HA.out.size
   obtain⟨br',bs',hu,hbr,hbs,hne,hmr,hms,hcr,hsr,hcs,hss⟩:=HQ.out
   simp only[Prod.mk.injEq,Value.map.injEq,Option.some.injEq] at hu
   obtain⟨rfl,rfl⟩:=hu
   have hr4:=hcr.len hsr
   have HSR:=hid hsr
   have HMR:=hid hmr
   clear hmr hms hcr hsr hcs hss zA
   refine wp_rN (W.heap.size) [1,1,1,0,0,1,1,0,0,1,3,3,2,0] (.fin [0,1,2,3,4,5,6,7,8,9,10,11,12,13]) (by kernel_rfl) ?_
   simp only[wpT,selX,guardAt,sD,sE,sF,sG]
   repeat first|(refine wpL_p fun K hK=>?_;go_simp;refine hK _ _ ?_;clear hK K)|(apply wpL_s;(intro w2 hw2;have hk1:=hw2.cell;have hk3:=hw2.1;clear hw2;go_simp;with_reducible rfl);simp only[Act.put,sA,sB,sC])|refine wpL_yes rfl rfl ?_|(refine wpL_no rfl rfl fun K hK=>?_;simp only[Act.put,sA,sB,sC];refine hK _ _ ?_;clear hK K)|refine wpL_nil ?_
   refine wpL_k (fun K hK=>?_)
   go_simp
   refine(keysB (some br) W.drew).mono ?_
   rintro e W1 ⟨rfl,rfl⟩
   refine hK _ _ (RN.KeepsN.alloc _ _ (Nat.le_refl _)) ?_
   clear hK K
   repeat first|(refine wpL_p fun K hK=>?_;go_simp;refine hK _ _ ?_;clear hK K)|(apply wpL_s;(intro w2 hw2;have hk1:=hw2.cell;have hk3:=hw2.1;clear hw2;go_simp;with_reducible rfl);simp only[Act.put,sA,sB,sC])|refine wpL_yes rfl rfl ?_|(refine wpL_no rfl rfl fun K hK=>?_;simp only[Act.put,sA,sB,sC];refine hK _ _ ?_;clear hK K)|refine wpL_nil ?_
   refine wpL_k (fun K hK=>?_)
   go_simp
   refine(sortedB (w:=W.drew) (HMR.out.drew) HSR.out (by omega)).mono ?_
   rintro e W2 ⟨v,rfl,ho,hb2⟩
   have b2:Below W.heap.size W W2:=((Below.refl _ W).drew.alloc (Nat.le_refl _) _).trans (hb2.mono (by show W.heap.size≤W.heap.size+1;omega))
   refine hK _ _ (RN.KeepsN.of_below (hb2.mono (by show W.heap.size≤W.heap.size+1;omega))) ?_
   clear hK K
   have L2:=hid (HA.out.below b2)
   have LS:=hid (LsAt.ofOwn (C:=C) ho (show C.B≤W.heap.size+1 by omega))
   have B2:=hid (BA.out.trans (b2.mono hBW))
   clear ho hb2 b2
   repeat first|(refine wpL_p fun K hK=>?_;go_simp;refine hK _ _ ?_;clear hK K)|(apply wpL_s;(intro w2 hw2;have hk1:=hw2.cell;have hk3:=hw2.1;clear hw2;go_simp;with_reducible rfl);simp only[Act.put,sA,sB,sC])|refine wpL_yes rfl rfl ?_|(refine wpL_no rfl rfl fun K hK=>?_;simp only[Act.put,sA,sB,sC];refine hK _ _ ?_;clear hK K)|refine wpL_nil ?_
   refine wpL_e (fun K hK=>?_)
   go_simp
   refine(la_release L2.out i v _ LS.out (by rw[List.length_map];exact hr4)).mono ?_
   rintro e W3 ⟨v3,ve',us',rfl,hb,hla,hx⟩
   refine hK _ _ ?_
   clear hK K
   have B3:=hid (B2.out.trans hb)
   have L3:=hid hla
   have X3:=hid hx
   clear hb hla hx xA xB d2 w0 w1
   repeat first|(refine wpL_p fun K hK=>?_;go_simp;refine hK _ _ ?_;clear hK K)|(apply wpL_s;(intro w2 hw2;have hk1:=hw2.cell;have hk3:=hw2.1;clear hw2;go_simp;with_reducible rfl);simp only[Act.put,sA,sB,sC])|refine wpL_yes rfl rfl ?_|(refine wpL_no rfl rfl fun K hK=>?_;simp only[Act.put,sA,sB,sC];refine hK _ _ ?_;clear hK K)|refine wpL_nil ?_
   go_wp2
   go_ret
   exact⟨v3,ve',us',rfl,B3.out,L3.out,X3.out⟩
  ·have q4:(ek==4)=false:=by simpa using h4
   have hre:reactOf r ⟨ek,ex,eh,ej,eo,ey,ev,er⟩=.ans ⟨ek,ex,eh,ej,eo,ey,ev,er⟩:=by simp[reactOf,he,h7,h4]
   rw[hre]
   clear bA rA rB rC hve H HP d2 w0 w1 zA
   go_wp2
   go_ret
   exact⟨_,ve,us,rfl,BA.out,HA.out,w.heap.size,w.heap.size+1,w.heap.size+1+1,rfl,⟨RA.out,RB.out,hB,by omega⟩,RC.out,HVE.out,by omega⟩
theorem la_ans1 (h:LaAt w C ve us P M) (i:Nat) (hi:i < P.threads.length) {t:Th} (ht:M.W.ths[i]?=some t) (hd:thDone P i t=false) (hbg:t.begun=true) (hl:M.W.evs.length≤100000) {r:MB} {s:MI} (hws:M.ws[i]?=some (some (r,s))) (hcn:WoCan P r s)
  (k:Nat) (ek ex eh eo ey ev er:Int) (hk:k < P.cells.length) (hev:-999999000≤ev∧ev≤999999000) (hb2:∀c ∈ M.cs,-999999000≤c.val∧c.val≤999999000)
  {p1 p2 p3:Nat} (hx:BxM w C i p1 p2) (h3:w.heap[p3]?=some (.cells #[.int .i64 ek,.int .i64 ex,.int .i64 eh,.int .i64 (k:Nat),.int .i64 eo,.int .i64 ey,.int .i64 ev,.int .i64 er] 53 (0,0))):
  Calls Tryz.prog 64 #[.pointer (some ⟨p1,0,none⟩),.pointer (some ⟨p2,0,none⟩),.pointer (some ⟨p3,0,none⟩)] w (LaPost C P (ansStep P M i t ⟨ek,ex,eh,(k:Nat),eo,ey,ev,er⟩ r s) .nilFunc w):=by
 have d0:=row_cell hx.1 0
 have d1:=row_cell hx.2.1 0
 have l0:=row_lt hx.1
 have l1:=row_lt hx.2.1
 have l2:=row_lt h3
 have f0:=row_cell h3 0
 have f1:=row_cell h3 1
 have f2:=row_cell h3 2
 have f3:=row_cell h3 3
 have f4:=row_cell h3 4
 have f5:=row_cell h3 5
 have f6:=row_cell h3 6
 have f7:=row_cell h3 7
 have hc:=hid (la_answer h i hi ht hd hbg hl hws hcn k ek ex eh eo ey ev er hk hev hb2)
 clear h hx h3 hws ht hcn hb2
 generalize ansStep P M i t ⟨ek,ex,eh,(k:Nat),eo,ey,ev,er⟩ r s=y at *
 go_enter Tryz.func64,Tryz.ntmps64
 go_wp2_with fail
 refine(hc.out).mono ?_
 clear hc
 rintro e w1 ⟨rfl,hb,ve',us',hla⟩
 have HB:=hid hb
 have HL:=hid hla
 clear hb hla d0 d1 f0 f1 f2 f3 f4 f5 f6 f7
 go_wp2
 go_ret
 exact⟨rfl,HB.out,ve',us',HL.out⟩
end
end
