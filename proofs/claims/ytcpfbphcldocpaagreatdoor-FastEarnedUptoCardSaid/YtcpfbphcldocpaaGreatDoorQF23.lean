/- Parts of the proof, merged by program out of 11 texts (Lay, KeysI, GrT, RelP, RelF, RelG, RefA, RefB, GrQ, GrE, FsD): the first: The library's contracts on the keys of maps and on sorting, laid at this program's numbers. Conditions: those of each theorem, as typed. -/
import Derived.Shelf.SlIter.Nil
import Derived.Shelf.SlIterI.Nil
import Derived.Shelf.SortM.Plain
import Derived.Shelf.SortM.SortNone
import Derived.Ground.GgzProg
import Derived.Ground.SlgmProg
import Derived.Test.YtcpfbphcldocpaaGreatDoorProg
import Derived.Test.YtcpfbphcldocpaaGreatDoorQF21
import Derived.Test.YtcpfbphcldocpaaGreatDoorQF05
import Derived.Test.YtcpfbphcldocpaaGreatDoorQF09
import Derived.WalkSpells
import Derived.Test.YtcpfbphcldocpaaGreatDoorQF01
set_option linter.unusedVariables false
set_option linter.unusedSimpArgs false
set_option linter.unusedSectionVars false
set_option maxRecDepth 100000
set_option maxHeartbeats 4000000
namespace Go.Proofs.YtcpfbphcldocpaaGreatDoor
open Go.Maps Go.RowKit Go.Shelf Go.Sort
def keys87_ren:Go.Shelf.Ren:=⟨fun|7=>38|10=>76|n=>n,fun|23=>102|26=>3|3=>4|28=>100|0=>0|27=>99|33=>165|4=>4|n=>n,fun|n=>n⟩
theorem keys87:SlLaysZI.n7 Tryz.prog keys87_ren:={
 mixed:=by kernel_rfl
 f7:=⟨Tryz.f38.name,by decide,Tryz.func38.trans (congrArg some (by kernel_rfl))⟩
 f10:=⟨Tryz.f76.name,by decide,Tryz.func76.trans (congrArg some (by kernel_rfl))⟩
 t0:=Tryz.underlying0
 a0:=Tryz.isAgg0
 z0:=Tryz.sizeOf0
 v0:=Tryz.zeroValue0
 t4:=Tryz.underlying4
 a4:=Tryz.isAgg4
 z4:=Tryz.sizeOf4
 v4:=Tryz.zeroValue4
 t23:=Tryz.underlying102
 a23:=Tryz.isAgg102
 z23:=Tryz.sizeOf102
 v23:=Tryz.zeroValue102
 t26:=Tryz.underlying3
 a26:=Tryz.isAgg3
 z26:=Tryz.sizeOf3
 v26:=Tryz.zeroValue3
 t27:=Tryz.underlying99
 a27:=Tryz.isAgg99
 z27:=Tryz.sizeOf99
 v27:=Tryz.zeroValue99
 t28:=Tryz.underlying100
 a28:=Tryz.isAgg100
 z28:=Tryz.sizeOf100
 v28:=Tryz.zeroValue100
 t33:=Tryz.underlying165
 a33:=Tryz.isAgg165
 z33:=Tryz.sizeOf165
 v33:=Tryz.zeroValue165}
def keys84_ren:Go.Shelf.Ren:=⟨fun|7=>158|10=>200|n=>n,fun|23=>103|26=>3|3=>102|28=>100|0=>0|27=>99|33=>165|4=>4|n=>n,fun|n=>n⟩
theorem keys84:SlLaysZI.n7 Tryz.prog keys84_ren:={
 mixed:=by kernel_rfl
 f7:=⟨Tryz.f158.name,by decide,Tryz.func158.trans (congrArg some (by kernel_rfl))⟩
 f10:=⟨Tryz.f200.name,by decide,Tryz.func200.trans (congrArg some (by kernel_rfl))⟩
 t0:=Tryz.underlying0
 a0:=Tryz.isAgg0
 z0:=Tryz.sizeOf0
 v0:=Tryz.zeroValue0
 t4:=Tryz.underlying4
 a4:=Tryz.isAgg4
 z4:=Tryz.sizeOf4
 v4:=Tryz.zeroValue4
 t23:=Tryz.underlying103
 a23:=Tryz.isAgg103
 z23:=Tryz.sizeOf103
 v23:=Tryz.zeroValue103
 t26:=Tryz.underlying3
 a26:=Tryz.isAgg3
 z26:=Tryz.sizeOf3
 v26:=Tryz.zeroValue3
 t27:=Tryz.underlying99
 a27:=Tryz.isAgg99
 z27:=Tryz.sizeOf99
 v27:=Tryz.zeroValue99
 t28:=Tryz.underlying100
 a28:=Tryz.isAgg100
 z28:=Tryz.sizeOf100
 v28:=Tryz.zeroValue100
 t33:=Tryz.underlying165
 a33:=Tryz.isAgg165
 z33:=Tryz.sizeOf165
 v33:=Tryz.zeroValue165}
def keys94_ren:Go.Shelf.Ren:=⟨fun|7=>157|10=>199|n=>n,fun|23=>104|26=>3|3=>103|28=>100|0=>0|27=>99|33=>165|4=>4|n=>n,fun|n=>n⟩
theorem keys94:SlLaysZI.n7 Tryz.prog keys94_ren:={
 mixed:=by kernel_rfl
 f7:=⟨Tryz.f157.name,by decide,Tryz.func157.trans (congrArg some (by kernel_rfl))⟩
 f10:=⟨Tryz.f199.name,by decide,Tryz.func199.trans (congrArg some (by kernel_rfl))⟩
 t0:=Tryz.underlying0
 a0:=Tryz.isAgg0
 z0:=Tryz.sizeOf0
 v0:=Tryz.zeroValue0
 t4:=Tryz.underlying4
 a4:=Tryz.isAgg4
 z4:=Tryz.sizeOf4
 v4:=Tryz.zeroValue4
 t23:=Tryz.underlying104
 a23:=Tryz.isAgg104
 z23:=Tryz.sizeOf104
 v23:=Tryz.zeroValue104
 t26:=Tryz.underlying3
 a26:=Tryz.isAgg3
 z26:=Tryz.sizeOf3
 v26:=Tryz.zeroValue3
 t27:=Tryz.underlying99
 a27:=Tryz.isAgg99
 z27:=Tryz.sizeOf99
 v27:=Tryz.zeroValue99
 t28:=Tryz.underlying100
 a28:=Tryz.isAgg100
 z28:=Tryz.sizeOf100
 v28:=Tryz.zeroValue100
 t33:=Tryz.underlying165
 a33:=Tryz.isAgg165
 z33:=Tryz.sizeOf165
 v33:=Tryz.zeroValue165}
def sorted83_ren:Go.Shelf.Ren:=⟨fun|6=>37|8=>74|9=>75|11=>124|13=>126|12=>125|23=>168|24=>169|14=>159|15=>160|16=>161|17=>162|18=>163|19=>164|20=>165|21=>166|22=>167|25=>201|26=>202|27=>203|28=>204|29=>205|30=>206|31=>228|n=>n,fun|26=>3|28=>100|24=>30|0=>0|3=>3|37=>245|48=>296|50=>298|4=>4|40=>290|39=>289|45=>45|5=>5|9=>9|51=>319|55=>262|57=>339|58=>272|33=>165|n=>n,fun|n=>n⟩
theorem sorted83:SlLaysZI.n6 Tryz.prog sorted83_ren:={
 mixed:=by kernel_rfl
 f6:=⟨Tryz.f37.name,by decide,Tryz.func37.trans (congrArg some (by kernel_rfl))⟩
 f8:=⟨Tryz.f74.name,by decide,Tryz.func74.trans (congrArg some (by kernel_rfl))⟩
 f11:=⟨Tryz.f124.name,by decide,Tryz.func124.trans (congrArg some (by kernel_rfl))⟩
 t0:=Tryz.underlying0
 a0:=Tryz.isAgg0
 z0:=Tryz.sizeOf0
 v0:=Tryz.zeroValue0
 t24:=Tryz.underlying30
 a24:=Tryz.isAgg30
 z24:=Tryz.sizeOf30
 v24:=Tryz.zeroValue30
 t26:=Tryz.underlying3
 a26:=Tryz.isAgg3
 z26:=Tryz.sizeOf3
 v26:=Tryz.zeroValue3
 t28:=Tryz.underlying100
 a28:=Tryz.isAgg100
 z28:=Tryz.sizeOf100
 v28:=Tryz.zeroValue100
 i26:=by kernel_rfl}
def sort85_ren:Go.Shelf.Ren:=⟨fun|5=>75|8=>126|7=>125|19=>168|20=>169|10=>159|11=>160|12=>161|13=>162|14=>163|15=>164|16=>165|17=>166|18=>167|30=>201|31=>202|32=>203|33=>204|34=>205|35=>206|40=>228|n=>n,fun|23=>30|25=>3|3=>3|32=>245|22=>30|0=>0|44=>296|46=>298|4=>4|36=>290|35=>289|41=>45|5=>5|9=>9|53=>319|57=>262|63=>339|64=>272|n=>n,fun|n=>n⟩
theorem sort85:SlLaysM.n5 Tryz.prog sort85_ren:={
 mixed:=by kernel_rfl
 f5:=⟨Tryz.f75.name,by decide,Tryz.func75.trans (congrArg some (by kernel_rfl))⟩
 f7:=⟨Tryz.f125.name,by decide,Tryz.func125.trans (congrArg some (by kernel_rfl))⟩
 f8:=Tryz.func126.trans (congrArg some (by kernel_rfl))
 f10:=⟨Tryz.f159.name,by decide,Tryz.func159.trans (congrArg some (by kernel_rfl))⟩
 f11:=⟨Tryz.f160.name,by decide,Tryz.func160.trans (congrArg some (by kernel_rfl))⟩
 f12:=⟨Tryz.f161.name,by decide,Tryz.func161.trans (congrArg some (by kernel_rfl))⟩
 f13:=⟨Tryz.f162.name,by decide,Tryz.func162.trans (congrArg some (by kernel_rfl))⟩
 f14:=⟨Tryz.f163.name,by decide,Tryz.func163.trans (congrArg some (by kernel_rfl))⟩
 f15:=⟨Tryz.f164.name,by decide,Tryz.func164.trans (congrArg some (by kernel_rfl))⟩
 f16:=⟨Tryz.f165.name,by decide,Tryz.func165.trans (congrArg some (by kernel_rfl))⟩
 f17:=⟨Tryz.f166.name,by decide,Tryz.func166.trans (congrArg some (by kernel_rfl))⟩
 f18:=⟨Tryz.f167.name,by decide,Tryz.func167.trans (congrArg some (by kernel_rfl))⟩
 f19:=Tryz.func168.trans (congrArg some (by kernel_rfl))
 f20:=Tryz.func169.trans (congrArg some (by kernel_rfl))
 f30:=⟨Tryz.f201.name,by decide,Tryz.func201.trans (congrArg some (by kernel_rfl))⟩
 f31:=Tryz.func202.trans (congrArg some (by kernel_rfl))
 f32:=Tryz.func203.trans (congrArg some (by kernel_rfl))
 f33:=⟨Tryz.f204.name,by decide,Tryz.func204.trans (congrArg some (by kernel_rfl))⟩
 f34:=⟨Tryz.f205.name,by decide,Tryz.func205.trans (congrArg some (by kernel_rfl))⟩
 f35:=⟨Tryz.f206.name,by decide,Tryz.func206.trans (congrArg some (by kernel_rfl))⟩
 f40:=⟨Tryz.f228.name,by decide,Tryz.func228.trans (congrArg some (by kernel_rfl))⟩
 t0:=Tryz.underlying0
 a0:=Tryz.isAgg0
 z0:=Tryz.sizeOf0
 v0:=Tryz.zeroValue0
 t3:=Tryz.underlying3
 a3:=Tryz.isAgg3
 z3:=Tryz.sizeOf3
 v3:=Tryz.zeroValue3
 t4:=Tryz.underlying4
 a4:=Tryz.isAgg4
 z4:=Tryz.sizeOf4
 v4:=Tryz.zeroValue4
 t5:=Tryz.underlying5
 a5:=Tryz.isAgg5
 z5:=Tryz.sizeOf5
 v5:=Tryz.zeroValue5
 t9:=Tryz.underlying9
 a9:=Tryz.isAgg9
 z9:=Tryz.sizeOf9
 v9:=Tryz.zeroValue9
 t22:=Tryz.underlying30
 a22:=Tryz.isAgg30
 z22:=Tryz.sizeOf30
 v22:=Tryz.zeroValue30
 t23:=Tryz.underlying30
 a23:=Tryz.isAgg30
 z23:=Tryz.sizeOf30
 v23:=Tryz.zeroValue30
 t25:=Tryz.underlying3
 a25:=Tryz.isAgg3
 z25:=Tryz.sizeOf3
 v25:=Tryz.zeroValue3
 t32:=Tryz.underlying245
 a32:=Tryz.isAgg245
 z32:=Tryz.sizeOf245
 v32:=Tryz.zeroValue245
 t35:=Tryz.underlying289
 a35:=Tryz.isAgg289
 z35:=Tryz.sizeOf289
 v35:=Tryz.zeroValue289
 t36:=Tryz.underlying290
 a36:=Tryz.isAgg290
 z36:=Tryz.sizeOf290
 v36:=Tryz.zeroValue290
 t41:=Tryz.underlying45
 a41:=Tryz.isAgg45
 z41:=Tryz.sizeOf45
 v41:=Tryz.zeroValue45
 t44:=Tryz.underlying296
 a44:=Tryz.isAgg296
 z44:=Tryz.sizeOf296
 v44:=Tryz.zeroValue296
 t46:=Tryz.underlying298
 a46:=Tryz.isAgg298
 z46:=Tryz.sizeOf298
 v46:=Tryz.zeroValue298
 t53:=Tryz.underlying319
 a53:=Tryz.isAgg319
 z53:=Tryz.sizeOf319
 v53:=Tryz.zeroValue319
 t57:=Tryz.underlying262
 a57:=Tryz.isAgg262
 z57:=Tryz.sizeOf262
 v57:=Tryz.zeroValue262
 t63:=Tryz.underlying339
 a63:=Tryz.isAgg339
 z63:=Tryz.sizeOf339
 v63:=Tryz.zeroValue339
 t64:=Tryz.underlying272
 a64:=Tryz.isAgg272
 z64:=Tryz.sizeOf272
 v64:=Tryz.zeroValue272}
theorem sorts83 (m:Nat):AnyZI.SortsIn Tryz.prog sorted83_ren Fence.wide m:=
 ⟨fun blk off cap ss W hH hblk hsz=>callsIn_wide.2 (AnyM.slices_Sort_int sort85 blk off cap ss W hH hblk hsz),
  fun p cap W=>callsIn_wide.2 (AnyM.slices_Sort_int_none sort85 p cap W)⟩
theorem srt_leI {l:List Int} (h:SrtI l):l.Pairwise fun a b=>leI a b=true:=h.imp fun {a b} h=>by simp[leI];omega
theorem mergeSort_srt {l ss:List Int} (hp:ss.Perm l) (h:SrtI l):ss.mergeSort leI=l:=by
 rw[mergeSort_of_perm_i hp]
 exact List.mergeSort_of_pairwise (srt_leI h)
theorem intKeys_mapD {ε:Type} (ed:ε→DU) (M:List (Int×ε)):intKeys (mapD (.int .i64) ed M)=M.map (·.1):=by
 simp[intKeys,mapD,Go.intOf]
theorem own_of_row {w:World} {B n:Nat} {v:Value} {l:List Int} (h:w.ownsRow B 3 1 v n (l.map (.int .i64))) (hn:n=l.length):OwnI w B v l:=by
 subst hn
 show w.ownsRow B _ 1 v l.length (l.flatMap intC)
 rw[flat_int]
 exact h
theorem KSrt.keys {ε:Type} {M:List (Int×ε)} (h:KSrt M):SrtI (M.map (·.1)):=by
 unfold SrtI
 rw[List.pairwise_map]
 exact h
theorem keysB (mb:Option Nat) (W:World):Calls Tryz.prog 38 #[.map mb] W fun e w'=>e=.returned (.func (.func 76) #[] #[.pointer (some ⟨W.heap.size,0,none⟩)])∧w'=W.alloc (.cells #[.map mb] 102):=
 (callsIn_wide (n:=5)).1 (AnyZI.keys_in keys87 Fence.wide 5 trivial rfl mb W)
theorem sortedB {ε:Type} {R:RdU} {ed:ε→DU} {M:List (Int×ε)} {w:World} {b n:Nat} (h:IsMapK Tryz.prog 3 R (.int .i64) ed w b n M) (hs:KSrt M) (hn:n≤1000000):
  Calls Tryz.prog 37 #[.func (.func 76) #[] #[.pointer (some ⟨w.heap.size,0,none⟩)]] (w.alloc (.cells #[.map (some b)] 102)) fun e w'=>∃v,e=.returned v∧OwnI w' (w.heap.size+1) v (M.map (·.1))∧
   Below (w.heap.size+1) (w.alloc (.cells #[.map (some b)] 102)) w':=by
 have hlen:=h.length_le
 have hbl:=h.lt
 have hseq:SeqGives Fence.wide 2 Tryz.prog 76 #[.pointer (some ⟨w.heap.size,0,none⟩)] encZ (fun ss=>ss.Perm (intKeys (mapD (.int .i64) ed M))) (Maps.size (mapD (.int .i64) ed M)) (w.alloc (.cells #[.map (some b)] 102)):=
  AnyZI.keys_gives (ρ:=keys87_ren) {keys87 with} Fence.wide _ trivial rfl (by omega) w.heap.size b n _ _ (by simp) (by simp) (by
   obtain⟨es,clock,hb,Ft,hs,hD⟩:=h
   exact⟨es,clock,(Below.heap_alloc _ _ b hbl).trans hb,Ft,hs,hD⟩)
 refine((callsIn_wide (n:=5)).1 (AnyZI.sorted_in sorted83 Fence.wide 5 trivial trivial trivial trivial rfl (by omega) (sorts83 _) (enters_of Tryz.func75 (by kernel_rfl) rfl) 76 #[.pointer (some ⟨w.heap.size,0,none⟩)] trivial (enters_of Tryz.func76 (by kernel_rfl) rfl) _ _ (by rw[mapD_size];unfold maxLen;omega) (by rw[mapD_size];omega) _ hseq)).mono ?_
 rintro e w' ⟨v,ss,rfl,hp,hrow,-,hb⟩
 rw[intKeys_mapD] at hp
 have hm:=mergeSort_srt hp hs.keys
 rw[show (ss.mergeSort fun x y=>decide (x≤y))=M.map (·.1) from hm] at hrow
 rw[World.size_alloc] at hrow hb
 exact⟨v,rfl,own_of_row hrow (by have:=hp.length_eq;simpa using this),hb⟩
theorem sortedB_nil (w:World):
  Calls Tryz.prog 37 #[.func (.func 76) #[] #[.pointer (some ⟨w.heap.size,0,none⟩)]] (w.alloc (.cells #[.map none] 102)) fun e w'=>∃v,e=.returned v∧OwnI w' (w.heap.size+1) v []∧
   Below (w.heap.size+1) (w.alloc (.cells #[.map none] 102)) w':=by
 have hseq:SeqGives Fence.wide 2 Tryz.prog 76 #[.pointer (some ⟨w.heap.size,0,none⟩)] encZ (fun ss:List Int=>ss=[]) 0 (w.alloc (.cells #[.map none] 102)):=
  AnyZI.keys_gives_nil (ρ:=keys87_ren) {keys87 with} Fence.wide _ trivial rfl w.heap.size _ (by simp) (by simp)
 refine((callsIn_wide (n:=5)).1 (AnyZI.sorted_in sorted83 Fence.wide 5 trivial trivial trivial trivial rfl (by omega) (sorts83 _) (enters_of Tryz.func75 (by kernel_rfl) rfl) 76 #[.pointer (some ⟨w.heap.size,0,none⟩)] trivial (enters_of Tryz.func76 (by kernel_rfl) rfl) _ 0 (Nat.zero_le _) (by omega) _ hseq)).mono ?_
 rintro e w' ⟨v,ss,rfl,rfl,hrow,-,hb⟩
 rw[World.size_alloc,List.mergeSort_nil] at hrow
 rw[World.size_alloc] at hb
 exact⟨v,rfl,own_of_row hrow rfl,hb⟩
theorem keysM (mb:Option Nat) (W:World):Calls Tryz.prog 158 #[.map mb] W fun e w'=>e=.returned (.func (.func 200) #[] #[.pointer (some ⟨W.heap.size,0,none⟩)])∧w'=W.alloc (.cells #[.map mb] 103):=
 (callsIn_wide (n:=5)).1 (AnyZI.keys_in keys84 Fence.wide 5 trivial rfl mb W)
theorem sortedM {ε:Type} {R:RdU} {ed:ε→DU} {M:List (Int×ε)} {w:World} {b n:Nat} (h:IsMapK Tryz.prog 3 R (.int .i64) ed w b n M) (hs:KSrt M) (hn:n≤1000000):
  Calls Tryz.prog 37 #[.func (.func 200) #[] #[.pointer (some ⟨w.heap.size,0,none⟩)]] (w.alloc (.cells #[.map (some b)] 103)) fun e w'=>∃v,e=.returned v∧OwnI w' (w.heap.size+1) v (M.map (·.1))∧
   Below (w.heap.size+1) (w.alloc (.cells #[.map (some b)] 103)) w':=by
 have hlen:=h.length_le
 have hbl:=h.lt
 have hseq:SeqGives Fence.wide 2 Tryz.prog 200 #[.pointer (some ⟨w.heap.size,0,none⟩)] encZ (fun ss=>ss.Perm (intKeys (mapD (.int .i64) ed M))) (Maps.size (mapD (.int .i64) ed M)) (w.alloc (.cells #[.map (some b)] 103)):=
  AnyZI.keys_gives (ρ:=keys84_ren) {keys84 with} Fence.wide _ trivial rfl (by omega) w.heap.size b n _ _ (by simp) (by simp) (by
   obtain⟨es,clock,hb,Ft,hs,hD⟩:=h
   exact⟨es,clock,(Below.heap_alloc _ _ b hbl).trans hb,Ft,hs,hD⟩)
 refine((callsIn_wide (n:=5)).1 (AnyZI.sorted_in sorted83 Fence.wide 5 trivial trivial trivial trivial rfl (by omega) (sorts83 _) (enters_of Tryz.func75 (by kernel_rfl) rfl) 200 #[.pointer (some ⟨w.heap.size,0,none⟩)] trivial (enters_of Tryz.func200 (by kernel_rfl) rfl) _ _ (by rw[mapD_size];unfold maxLen;omega) (by rw[mapD_size];omega) _ hseq)).mono ?_
 rintro e w' ⟨v,ss,rfl,hp,hrow,-,hb⟩
 rw[intKeys_mapD] at hp
 have hm:=mergeSort_srt hp hs.keys
 rw[show (ss.mergeSort fun x y=>decide (x≤y))=M.map (·.1) from hm] at hrow
 rw[World.size_alloc] at hrow hb
 exact⟨v,rfl,own_of_row hrow (by have:=hp.length_eq;simpa using this),hb⟩
theorem sortedM_nil (w:World):
  Calls Tryz.prog 37 #[.func (.func 200) #[] #[.pointer (some ⟨w.heap.size,0,none⟩)]] (w.alloc (.cells #[.map none] 103)) fun e w'=>∃v,e=.returned v∧OwnI w' (w.heap.size+1) v []∧
   Below (w.heap.size+1) (w.alloc (.cells #[.map none] 103)) w':=by
 have hseq:SeqGives Fence.wide 2 Tryz.prog 200 #[.pointer (some ⟨w.heap.size,0,none⟩)] encZ (fun ss:List Int=>ss=[]) 0 (w.alloc (.cells #[.map none] 103)):=
  AnyZI.keys_gives_nil (ρ:=keys84_ren) {keys84 with} Fence.wide _ trivial rfl w.heap.size _ (by simp) (by simp)
 refine((callsIn_wide (n:=5)).1 (AnyZI.sorted_in sorted83 Fence.wide 5 trivial trivial trivial trivial rfl (by omega) (sorts83 _) (enters_of Tryz.func75 (by kernel_rfl) rfl) 200 #[.pointer (some ⟨w.heap.size,0,none⟩)] trivial (enters_of Tryz.func200 (by kernel_rfl) rfl) _ 0 (Nat.zero_le _) (by omega) _ hseq)).mono ?_
 rintro e w' ⟨v,ss,rfl,rfl,hrow,-,hb⟩
 rw[World.size_alloc,List.mergeSort_nil] at hrow
 rw[World.size_alloc] at hb
 exact⟨v,rfl,own_of_row hrow rfl,hb⟩
theorem keysG (mb:Option Nat) (W:World):Calls Tryz.prog 157 #[.map mb] W fun e w'=>e=.returned (.func (.func 199) #[] #[.pointer (some ⟨W.heap.size,0,none⟩)])∧w'=W.alloc (.cells #[.map mb] 104):=
 (callsIn_wide (n:=5)).1 (AnyZI.keys_in keys94 Fence.wide 5 trivial rfl mb W)
theorem sortedG {ε:Type} {R:RdU} {ed:ε→DU} {M:List (Int×ε)} {w:World} {b n:Nat} (h:IsMapK Tryz.prog 3 R (.int .i64) ed w b n M) (hs:KSrt M) (hn:n≤1000000):
  Calls Tryz.prog 37 #[.func (.func 199) #[] #[.pointer (some ⟨w.heap.size,0,none⟩)]] (w.alloc (.cells #[.map (some b)] 104)) fun e w'=>∃v,e=.returned v∧OwnI w' (w.heap.size+1) v (M.map (·.1))∧
   Below (w.heap.size+1) (w.alloc (.cells #[.map (some b)] 104)) w':=by
 have hlen:=h.length_le
 have hbl:=h.lt
 have hseq:SeqGives Fence.wide 2 Tryz.prog 199 #[.pointer (some ⟨w.heap.size,0,none⟩)] encZ (fun ss=>ss.Perm (intKeys (mapD (.int .i64) ed M))) (Maps.size (mapD (.int .i64) ed M)) (w.alloc (.cells #[.map (some b)] 104)):=
  AnyZI.keys_gives (ρ:=keys94_ren) {keys94 with} Fence.wide _ trivial rfl (by omega) w.heap.size b n _ _ (by simp) (by simp) (by
   obtain⟨es,clock,hb,Ft,hs,hD⟩:=h
   exact⟨es,clock,(Below.heap_alloc _ _ b hbl).trans hb,Ft,hs,hD⟩)
 refine((callsIn_wide (n:=5)).1 (AnyZI.sorted_in sorted83 Fence.wide 5 trivial trivial trivial trivial rfl (by omega) (sorts83 _) (enters_of Tryz.func75 (by kernel_rfl) rfl) 199 #[.pointer (some ⟨w.heap.size,0,none⟩)] trivial (enters_of Tryz.func199 (by kernel_rfl) rfl) _ _ (by rw[mapD_size];unfold maxLen;omega) (by rw[mapD_size];omega) _ hseq)).mono ?_
 rintro e w' ⟨v,ss,rfl,hp,hrow,-,hb⟩
 rw[intKeys_mapD] at hp
 have hm:=mergeSort_srt hp hs.keys
 rw[show (ss.mergeSort fun x y=>decide (x≤y))=M.map (·.1) from hm] at hrow
 rw[World.size_alloc] at hrow hb
 exact⟨v,rfl,own_of_row hrow (by have:=hp.length_eq;simpa using this),hb⟩
def freeB (P:List Pr) (out:List Int) (x:Int):Bool:=P.all fun q=>q.2 !=x||out.contains q.1
theorem freeB_iff {P:List Pr} {out:List Int} {x:Int}:freeB P out x=true↔∀a,(a,x) ∈ P→a ∈ out:=by
 unfold freeB
 simp only[List.all_eq_true,Bool.or_eq_true,bne_iff_ne,List.contains_eq_mem,decide_eq_true_eq]
 constructor
 ·intro h a ha
  rcases h _ ha with h|h
  ·exact absurd rfl h
  ·exact h
 ·rintro h ⟨a,y⟩ hq
  by_cases e:y=x
  ·subst e;exact .inr (h a hq)
  ·exact .inl e
def okB (P:List Pr) (out:List Int) (x:Int):Bool:=!out.contains x&&freeB P out x
theorem okB_iff {P:List Pr} {out:List Int} {x:Int}:okB P out x=true↔x ∉ out∧∀a,(a,x) ∈ P→a ∈ out:=by
 unfold okB
 rw[Bool.and_eq_true,freeB_iff]
 simp
def nextF (P:List Pr) (N out:List Int):Option Int:=N.find? (okB P out)
def topoGo (P:List Pr) (N:List Int):Nat→List Int→Option (List Int)
 |0,out=>some out
 |m+1,out=>match nextF P N out with
  |none=>none
  |some x=>topoGo P N m (out++[x])
def topoF (P:List Pr) (N:List Int):Option (List Int):=topoGo P N N.length []
theorem topoGo_none {P:List Pr} {N out:List Int} {m:Nat} (h:nextF P N out=none):topoGo P N (m+1) out=none:=by simp[topoGo,h]
theorem topoGo_some {P:List Pr} {N out:List Int} {m:Nat} {x:Int} (h:nextF P N out=some x):topoGo P N (m+1) out=topoGo P N m (out++[x]):=by simp[topoGo,h]
def leftF (N out:List Int):List Int:=N.filter fun x=>!out.contains x
theorem mem_left {N out:List Int} {x:Int}:x ∈ leftF N out↔x ∈ N∧x ∉ out:=by unfold leftF;simp
theorem left_nil (N:List Int):leftF N []=N:=by unfold leftF;simp
theorem next_left {P:List Pr} {N out:List Int}:nextF P N out=(leftF N out).find? (freeB P out):=by
 unfold nextF leftF
 rw[List.find?_filter]
 congr 1
 funext a
 unfold okB
 cases (!out.contains a) <;> cases freeB P out a <;> rfl
theorem srt_left {N:List Int} (h:SrtI N) (out:List Int):SrtI (leftF N out):=List.Pairwise.filter _ h
theorem left_erase {N out:List Int} {i:Nat} {x:Int} (h:SrtI N) (hx:(leftF N out)[i]?=some x):(leftF N out).eraseIdx i=leftF N (out++[x]):=by
 have hs:=srt_left h out
 refine SrtI.ext (List.Pairwise.sublist (List.eraseIdx_sublist _ _) hs) (srt_left h _) fun y=>?_
 rw[mem_left,List.mem_append,List.mem_singleton]
 have hi:=(List.getElem?_eq_some_iff.1 hx).1
 have hxi:(leftF N out)[i]=x:=(List.getElem?_eq_some_iff.1 hx).2
 rw[List.mem_eraseIdx_iff_getElem]
 constructor
 ·rintro ⟨j,hj,hne,rfl⟩
  have hm:=mem_left.1 (List.getElem_mem hj)
  refine⟨hm.1,?_⟩
  rintro(h1|h1)
  ·exact hm.2 h1
  ·have hnd:=(SrtI.nodup hs)
   exact hne ((List.getElem_inj hnd).1 (h1.trans hxi.symm))
 ·rintro ⟨h1,h2⟩
  have hm:y ∈ leftF N out:=mem_left.2 ⟨h1,fun h=>h2 (.inl h)⟩
  obtain⟨j,hj,e⟩:=List.getElem_of_mem hm
  refine⟨j,hj,?_,e⟩
  rintro rfl
  exact h2 (.inr (by rw[←e,←hxi]))
theorem left_length {N out:List Int} {i:Nat} {x:Int} (h:SrtI N) (hx:(leftF N out)[i]?=some x):(leftF N (out++[x])).length+1=(leftF N out).length:=by
 rw[←left_erase h hx]
 have hi:=(List.getElem?_eq_some_iff.1 hx).1
 rw[List.length_eraseIdx,if_pos hi]
 omega
theorem find_at {l:List Int} {p:Int→Bool} {i:Nat} {x:Int} (hx:l[i]?=some x) (hp:p x=true) (hn:∀y ∈ l.take i,p y=false):l.find? p=some x:=by
 have h:l=l.take i++x::l.drop (i+1):=by
  have hi:=(List.getElem?_eq_some_iff.1 hx).1
  have:=(List.getElem?_eq_some_iff.1 hx).2
  rw[←this,←List.drop_eq_getElem_cons hi,List.take_append_drop]
 rw[h,List.find?_append,List.find?_eq_none.2 fun y hy=>by rw[hn y hy];simp]
 simp[hp]
theorem find_none {l:List Int} {p:Int→Bool} (hn:∀y ∈ l,p y=false):l.find? p=none:=List.find?_eq_none.2 fun y hy=>by rw[hn y hy];simp
def indeg (P:List Pr) (p:Int→Bool) (x:Int):Nat:=(P.filter fun q=>q.2==x&&p q.1).length
theorem indeg_none (P:List Pr) (p:Int→Bool) (x:Int) (h:∀a,p a=false):indeg P p x=0:=by
 unfold indeg
 rw[List.filter_eq_nil_iff.2 fun q _=>by simp[h q.1],List.length_nil]
theorem indeg_le (P:List Pr) (p:Int→Bool) (x:Int):indeg P p x≤P.length:=List.length_filter_le _ _
theorem indeg_congr {P:List Pr} {p p':Int→Bool} {x:Int} (h:∀a,(a,x) ∈ P→p a=p' a):indeg P p x=indeg P p' x:=by
 unfold indeg
 congr 1
 refine List.filter_congr fun q hq=>?_
 by_cases e:q.2=x
 ·rw [h q.1 (by rw[←e];exact hq)]
 ·have:(q.2==x)=false:=by simpa using e
  simp[this]
theorem indeg_zero {P:List Pr} {p:Int→Bool} {x:Int}:indeg P p x=0↔∀a,(a,x) ∈ P→p a=false:=by
 unfold indeg
 rw[List.length_eq_zero_iff,List.filter_eq_nil_iff]
 constructor
 ·intro h a ha
  have:=h _ ha
  simpa using this
 ·rintro h ⟨a,y⟩ hq
  simp only[Bool.and_eq_true,beq_iff_eq,not_and]
  rintro rfl
  rw[h a hq]
  simp
theorem indeg_one {P:List Pr} (hP:P.Nodup) {p p':Int→Bool} (a x:Int) (ha:p a=false) (h:∀z,p' z=(p z||z==a)):indeg P p' x=indeg P p x+if (a,x) ∈ P then 1 else 0:=by
 induction P with
 |nil=>simp[indeg]
 |cons q P ih=>
  obtain⟨hq,hP⟩:=List.nodup_cons.1 hP
  have ih:=ih hP
  have e:∀p:Int→Bool,indeg (q::P) p x=(if (q.2==x&&p q.1)=true then 1 else 0)+indeg P p x:=fun p=>by
   unfold indeg
   cases hc:(q.2==x&&p q.1) <;> simp[List.filter_cons,hc];omega
  rw[e,e,ih,h]
  obtain⟨q1,q2⟩:=q
  by_cases e1:q2=x
  ·subst e1
   by_cases e2:q1=a
   ·subst e2
    simp only[List.mem_cons,true_or,if_true,ha,beq_self_eq_true,Bool.and_false,Bool.false_or,Bool.and_true]
    rw[if_neg hq]
    simp;omega
   ·have e3:(q1==a)=false:=by simpa using e2
    have e4:((a,q2) ∈ (q1,q2)::P)↔(a,q2) ∈ P:=by simp[Ne.symm e2]
    simp only[e3,Bool.or_false,e4]
    omega
  ·have e3:(q2==x)=false:=by simpa using e1
   have e4:((a,x) ∈ (q1,q2)::P)↔(a,x) ∈ P:=by simp[Ne.symm e1]
   simp only[e3,Bool.false_and,e4]
   simp
theorem indeg_less {P:List Pr} (hP:P.Nodup) {p p':Int→Bool} (a x:Int) (ha:p a=true) (h:∀z,p' z=(p z&&!(z==a))):indeg P p x=indeg P p' x+if (a,x) ∈ P then 1 else 0:=
 indeg_one hP a x (by rw[h];simp) fun z=>by
  rw[h]
  by_cases e:z=a
  ·subst e;simp[ha]
  ·have:(z==a)=false:=by simpa using e
   simp[this]
structure DegIs (N:List Int) (D:List (Int×Int)) (c:Int→Nat):Prop where
 srt:KSrt D
 keys:∀q ∈ D,q.1 ∈ N
 at':∀x,(fnd x D).getD 0=(c x:Int)
theorem DegIs.nil (N:List Int) (c:Int→Nat) (h:∀x,c x=0):DegIs N [] c:=⟨List.Pairwise.nil,fun _ h=>by simp at h,fun x=>by simp[fnd,h]⟩
theorem DegIs.congr {N:List Int} {D:List (Int×Int)} {c c':Int→Nat} (h:DegIs N D c) (hc:∀x,c' x=c x):DegIs N D c':=⟨h.srt,h.keys,fun x=>by rw[h.at',hc]⟩
theorem DegIs.put {N:List Int} {D:List (Int×Int)} {c c':Int→Nat} (h:DegIs N D c) {b:Int} (hb:b ∈ N) {v:Int} (hv:v=(c' b:Int)) (hc:∀x,x≠b→c' x=c x):DegIs N (upd b v D) c':=by
 refine⟨srt_upd h.srt,fun q hq=>?_,fun x=>?_⟩
 ·rcases (mem_upd h.srt).1 hq with e|⟨hq,-⟩
  ·rw [e];exact hb
  ·exact h.keys q hq
 ·by_cases e:x=b
  ·subst e;rw[fnd_upd_same h.srt,hv];rfl
  ·rw [fnd_upd_other h.srt e,h.at',hc x e]
theorem DegIs.length {N:List Int} {D:List (Int×Int)} {c:Int→Nat} (h:DegIs N D c):D.length≤N.length:=by
 have h1:(D.map (·.1)).length≤N.length:=nodup_le h.srt.keys.nodup fun z hz=>by
  obtain⟨q,hq,rfl⟩:=List.mem_map.1 hz
  exact h.keys q hq
 simpa using h1
structure Keep (w w':World):Prop where
 size:w.heap.size≤w'.heap.size
 obj:∀(i:Nat) (o:Obj),w.heap[i]?=some o→(∀es c,o≠.map es c)→w'.heap[i]?=some o
theorem Keep.cells {w w':World} (h:Keep w w') {i:Nat} {cs:Array Value} {t:TypeId} {fz:Nat×Nat} (hi:w.heap[i]?=some (.cells cs t fz)):w'.heap[i]?=some (.cells cs t fz):=h.obj i _ hi fun _ _ e=>by cases e
theorem Keep.refl (w:World):Keep w w:=⟨Nat.le_refl _,fun _ _ h _=>h⟩
theorem Keep.trans {a b c:World} (h:Keep a b) (k:Keep b c):Keep a c:=⟨Nat.le_trans h.size k.size,fun i o hi ho=>k.obj i o (h.obj i o hi ho) ho⟩
theorem Keep.alloc (w:World) (o:Obj):Keep w (w.alloc o):=⟨by simp,fun _ _ hi _=>row_old hi⟩
theorem Keep.turned {w w':World} {b:Nat} (h:w.mapTurned w' b):Keep w w':=by
 refine⟨Nat.le_of_eq (turned_size h).symm,fun i o hi ho=>?_⟩
 obtain⟨es,c,es',c',hb,e⟩:=id h
 rw[turned_other h (by rintro rfl;rw[hb] at hi;cases hi;exact ho _ _ rfl)]
 exact hi
section
variable {w w':World} {B sz n:Nat} {v:Value} {xs:List Value}
theorem OwnF.keepC {α:Type} {f:α→List Value} {e:TypeId} {l:List α} (h:OwnF f e sz w B v l) (hk:Keep w w'):OwnF f e sz w' B v l:=by
 obtain⟨h1,h2⟩:=h
 refine⟨h1,?_⟩
 rcases h2 with h2|⟨g,cap,cur,rfl,hg,hh,r⟩
 ·exact .inl h2
 ·exact .inr ⟨g,cap,cur,rfl,hg,hk.cells hh,r⟩
end
abbrev MapO (w:World) (b:Nat) (M:List (Int×Nat)):Prop:=IsMapK Tryz.prog 3 Rmap (.int .i64) (fun r:Nat=>.lit (.int .i64 r)) w b M.length M
abbrev MapB (w:World) (b:Nat) (M:List (Int×Unit)):Prop:=IsMapK Tryz.prog 3 Rbool (.int .i64) (fun _:Unit=>.lit (.bool true)) w b M.length M
def units (l:List Int):List (Int×Unit):=l.map fun x=>(x,())
theorem units_keys (l:List Int):(units l).map (·.1)=l:=by simp[units,Function.comp_def]
theorem units_length (l:List Int):(units l).length=l.length:=by simp[units]
theorem units_srt {l:List Int} (h:SrtI l):KSrt (units l):=by unfold KSrt units;rw[List.pairwise_map];exact h
theorem units_upd (a:Int):∀l:List Int,upd a () (units l)=units (insI a l)
 |[]=>rfl
 |x::l=>by
  have ih:=units_upd a l
  simp only[units,List.map_cons,upd,insI] at ih ⊢
  split
  ·rename_i h;subst h;rfl
  ·split
   ·rfl
   ·rw [ih];rfl
theorem units_fnd (a:Int):∀l:List Int,fnd a (units l)=if a ∈ l then some () else none
 |[]=>rfl
 |x::l=>by
  have ih:=units_fnd a l
  simp only[units,List.map_cons,fnd] at ih ⊢
  by_cases h:x=a
  ·subst h;simp
  ·rw [if_neg h,ih]
   have h':¬a=x:=fun e=>h e.symm
   simp[h']
theorem units_dom {dom:Int→Prop} {l:List Int} (h:∀x ∈ l,dom x):KDom dom (units l):=fun p hp=>by
 obtain⟨x,hx,rfl⟩:=List.mem_map.1 hp
 exact h x hx
theorem upd_keys {ε:Type} (a:Int) (v:ε):∀M:List (Int×ε),(upd a v M).map (·.1)=insI a (M.map (·.1))
 |[]=>rfl
 |(x,u)::M=>by
  have ih:=upd_keys a v M
  simp only[upd,List.map_cons,insI]
  split
  ·rename_i h;subst h;rfl
  ·split
   ·rfl
   ·rw [List.map_cons,ih]
theorem zeroM (w:World):(zeroValue 102).run Tryz.prog w=.ok (.map none) w:=by kernel_rfl
section
variable {w:World} {lo hi p b:Nat} {M:List (Int×Nat)} {L:List Pr}
theorem look_bool {u:Nat} {l:List Int} (h:MapB w u (units l)) (hl:∀x ∈ l,dI x) {c:Int} (hc:dI c):(Instr.lookup 102 (.map (some u)) (.int .i64 c) false).run Tryz.prog w=.ok (.bool (decide (c ∈ l))) w:=by
 have:=h.look keyI elem_bool (units_dom hl) Tryz.underlying102 (zeroBl w) hc
 rw[units_fnd] at this
 rw[this]
 by_cases e:c ∈ l <;> simp[e]
end
abbrev RngO (w:World) (b r:Nat) (M:List (Int×Nat)) (S:Int→Bool) (cnt:Nat):Prop:=Rng Tryz.prog 3 Rmap (.int .i64) (fun r:Nat=>.lit (.int .i64 r)) w b r M.length M S cnt
theorem Sl.ints {w:World} {B n cap:Nat} {a:Option Addr} {l:List Int} (h:Sl w B 1 (.slice a n cap) n (l.flatMap intC)) {k:Nat} (hk:k < n) (hl:l.length=n):
  ∃b off x,a=some ⟨b,off,none⟩∧b < B∧l[k]?=some x∧w.cell? ⟨b,off+k,none⟩=some (.int .i64 x):=by
 obtain⟨b,off,x,ha,hb,hx,hc⟩:=h.atF intC_len hl hk
 exact⟨b,off,x,ha,hb,hx,by have:=hc 0 (by omega);simpa[intC] using this⟩
theorem OwnI.at {w:World} {B n cap:Nat} {a:Option Addr} {l:List Int} (h:OwnI w B (.slice a n cap) l) (hl:l.length=n) {k:Nat} (hk:k < n):∃g x,a=some ⟨g,0,none⟩∧B≤g∧g < w.heap.size∧l[k]?=some x∧w.cell? ⟨g,k,none⟩=some (.int .i64 x):=by
 have h0:=h.sl
 rcases h.form with⟨-,rfl⟩|⟨g,cap',e,hB,hg⟩
 ·simp at hl;omega
 ·simp only[Value.slice.injEq] at e
  obtain⟨rfl,e2,rfl⟩:=e
  subst hl
  obtain⟨b,off,x,ha,hb,hx,hc⟩:=h0.ints hk rfl
  simp only[Option.some.injEq,Addr.mk.injEq,and_true] at ha
  obtain⟨rfl,rfl⟩:=ha
  exact⟨g,x,rfl,hB,hg,hx,by simpa using hc⟩
section
attribute [local irreducible] wpL
theorem mem_take_step {α:Type} {L:List α} {k:Nat} {x y:α} (hx:L[k]?=some x):y ∈ L.take (k+1)↔y ∈ L.take k∨y=x:=by
 rw[take_step hx,List.mem_append,List.mem_singleton]
end
def Mut (P:List Pr) (a b:Int):Prop:=a=b∨(Tc P a b∧Tc P b a)
section
variable {P:List Pr} {N l:List Int}
def TopoIs (P:List Pr) (N l:List Int):Prop:=l.length=N.length∧∀(i:Nat) (x:Int),l[i]?=some x→nextF P N (l.take i)=some x
theorem topoGo_is:∀{m:Nat} {out:List Int},topoGo P N m out=some l→∃r,l=out++r∧r.length=m∧∀(i:Nat) (x:Int),r[i]?=some x→nextF P N (out++r.take i)=some x
 |0,out,h=>⟨[],by simpa[topoGo] using h.symm,rfl,fun i x hx=>by simp at hx⟩
 |m+1,out,h=>by
  unfold topoGo at h
  cases hn:nextF P N out with
  |none=>rw[hn] at h;cases h
  |some x=>
   rw[hn] at h
   obtain⟨r,h1,h2,h3⟩:=topoGo_is h
   refine⟨x::r,by rw[h1];simp,by simp[h2],fun i y hy=>?_⟩
   cases i with
   |zero=>
    simp only[List.getElem?_cons_zero,Option.some.injEq] at hy
    subst hy
    simpa using hn
   |succ i=>
    have:=h3 i y (by simpa using hy)
    simpa using this
theorem topoF_is (h:topoF P N=some l):TopoIs P N l:=by
 obtain⟨r,h1,h2,h3⟩:=topoGo_is h
 simp only[List.nil_append] at h1 h3
 subst h1
 exact⟨h2,h3⟩
theorem next_yes {out:List Int} {x:Int} (h:nextF P N out=some x):x ∈ N∧x ∉ out∧∀a,(a,x) ∈ P→a ∈ out:=
 ⟨List.mem_of_find?_eq_some h,okB_iff.1 (List.find?_some h)⟩
theorem TopoIs.nodup (h:TopoIs P N l):l.Nodup:=by
 unfold List.Nodup
 rw[List.pairwise_iff_getElem]
 intro i j hi hj hij e
 have hx:=List.getElem?_eq_getElem hi
 have h1:=next_yes (h.2 j _ ((List.getElem?_eq_getElem hj).trans (congrArg some e.symm)))
 exact h1.2.1 (List.mem_iff_getElem?.2 ⟨i,by rw[List.getElem?_take_of_lt hij,hx]⟩)
theorem TopoIs.sub (h:TopoIs P N l):∀x ∈ l,x ∈ N:=fun x hx=>by
 obtain⟨i,hi⟩:=List.mem_iff_getElem?.1 hx
 exact(next_yes (h.2 i x hi)).1
theorem all_of_len {l m:List Int} (h:l.Nodup) (hs:∀x ∈ l,x ∈ m) (hl:m.length≤l.length):∀x ∈ m,x ∈ l:=fun x hx=>by
 by_cases hxl:x ∈ l
 ·exact hxl
 ·exfalso
  have:=nodup_le (l:=x::l) (m:=m) (List.nodup_cons.2 ⟨hxl,h⟩) fun y hy=>by
   rcases List.mem_cons.1 hy with rfl|hy
   ·exact hx
   ·exact hs y hy
  simp at this
  omega
theorem TopoIs.all (h:TopoIs P N l):∀x ∈ N,x ∈ l:=all_of_len h.nodup h.sub (by rw[h.1];exact Nat.le_refl _)
theorem TopoIs.lead (h:TopoIs P N l) {a x:Int} {i:Nat} (hx:l[i]?=some x) (hp:(a,x) ∈ P):∃j,j < i∧l[j]?=some a:=by
 have:=(next_yes (h.2 i x hx)).2.2 a hp
 obtain⟨j,hj⟩:=List.mem_iff_getElem?.1 this
 rw[List.getElem?_take] at hj
 by_cases hji:j < i
 ·exact ⟨j,hji,by simpa[hji] using hj⟩
 ·simp [hji] at hj
theorem TopoIs.tc (h:TopoIs P N l) {a x:Int} (ht:Tc P a x):∀i:Nat,l[i]?=some x→∃j:Nat,j < i∧l[j]?=some a:=by
 induction ht with
 |one hp=>exact fun i hx=>h.lead hx hp
 |more _ hp ih=>
  intro i hx
  obtain⟨j,hj,hy⟩:=h.lead hx hp
  obtain⟨q,hq,hz⟩:=ih j hy
  exact⟨q,by omega,hz⟩
theorem TopoIs.same (h:TopoIs P N l) {i j:Nat} {x:Int} (hi:l[i]?=some x) (hj:l[j]?=some x):i=j:=by
 obtain⟨hi',ei⟩:=List.getElem?_eq_some_iff.1 hi
 obtain⟨hj',ej⟩:=List.getElem?_eq_some_iff.1 hj
 exact(List.getElem_inj h.nodup).1 (ei.trans ej.symm)
theorem least_of {R:Int→Int→Prop} (hir:∀a,¬R a a) (htr:∀a b c,R a b→R b c→R a c):∀l:List Int,l≠[]→∃m ∈ l,∀a ∈ l,¬R a m
 |[],h=>absurd rfl h
 |[x],_=>⟨x,by simp,fun a ha=>by simp at ha;subst ha;exact hir a⟩
 |x::y::l,_=>by
  obtain⟨m,hm,hno⟩:=least_of hir htr (y::l) (by simp)
  by_cases hxm:R x m
  ·refine ⟨x,by simp,fun a ha hax=>?_⟩
   rcases List.mem_cons.1 ha with rfl|ha
   ·exact hir _ hax
   ·exact hno a ha (htr a x m hax hxm)
  ·refine ⟨m,List.mem_cons.2 (.inr hm),fun a ha=>?_⟩
   rcases List.mem_cons.1 ha with rfl|ha
   ·exact hxm
   ·exact hno a ha
theorem stuck_tc {out:List Int} (hP:∀a b,(a,b) ∈ P→a ∈ N) (hn:nextF P N out=none) (hne:leftF N out≠[]):∃k ∈ N,Tc P k k:=by
 apply Classical.byContradiction
 intro hno
 have hir:∀a,¬Tc P a a:=fun a h=>by
  obtain⟨c,hc⟩:=h.head
  exact hno ⟨a,hP _ _ hc,h⟩
 obtain⟨m,hm,hmin⟩:=least_of hir (fun a b c h k=>h.trans k) (leftF N out) hne
 have h1:=List.find?_eq_none.1 hn m (mem_left.1 hm).1
 refine h1 (okB_iff.2 ⟨(mem_left.1 hm).2,fun a ha=>?_⟩)
 apply Classical.byContradiction
 intro hao
 exact hmin a (mem_left.2 ⟨hP _ _ ha,hao⟩) (.one ha)
theorem topoGo_none_tc (hs:SrtI N) (hP:∀a b,(a,b) ∈ P→a ∈ N):∀{m:Nat} {out:List Int},out.length+m=N.length→topoGo P N m out=none→∃k ∈ N,Tc P k k
 |0,out,_,h=>by simp[topoGo] at h
 |m+1,out,hl,h=>by
  unfold topoGo at h
  cases hn:nextF P N out with
  |none=>
   refine stuck_tc hP hn fun e=>?_
   have:=nodup_le (SrtI.nodup hs) (m:=out) fun x hx=>Classical.byContradiction fun hxo=>by
    have:=mem_left.2 ⟨hx,hxo⟩
    rw[e] at this
    simp at this
   omega
  |some x=>
   rw[hn] at h
   exact topoGo_none_tc hs hP (by simp;omega) h
theorem topo_none (hs:SrtI N) (hP:∀a b,(a,b) ∈ P→a ∈ N):topoF P N=none↔∃k ∈ N,Tc P k k:=by
 refine⟨topoGo_none_tc hs hP (by simp),?_⟩
 rintro⟨k,hk,ht⟩
 cases h:topoF P N with
 |none=>rfl
 |some l=>
  have hl:=topoF_is h
  obtain⟨i,hi⟩:=List.mem_iff_getElem?.1 (hl.all k hk)
  obtain⟨j,hj,hz⟩:=hl.tc ht i hi
  have:=hl.same hi hz
  omega
theorem kinds_zero {E:List Trp} {a b:Int}:(kindsOf E a b).length=0↔(a,b) ∉ prs E:=by
 rw[List.length_eq_zero_iff,List.eq_nil_iff_forall_not_mem]
 constructor
 ·intro h hp
  obtain⟨k,hk⟩:=mem_prs.1 hp
  exact h k (mem_kindsOf.2 hk)
 ·exact fun h k hk=>h (mem_prs.2 ⟨k,mem_kindsOf.1 hk⟩)
end
abbrev Gp:=List Int×List Trp
def putE (g:Gp) (e:Trp):Gp:=(insI e.2.1 (insI e.1 g.1),insT e g.2)
def ruleK (lev:Int) (T:List Bool) (i j:Nat) (a b:St):Nat→Bool
 |0=>ruleReal lev a b
 |1=>ruleFrom (T.getD i false) a b
 |2=>ruleWrite (T.getD i false) (T.getD j false) a b
 |_=>ruleAnti (T.getD j false) a b
def edge1 (lev:Int) (T:List Bool) (i j:Nat) (a b:St) (g:Gp) (k:Nat):Gp:=if lookF lev T j&&decide (i≠j)&&ruleK lev T i j a b k then putE g (a.id,b.id,((k+1:Nat):Int)) else g
def edges1 (lev:Int) (A:Au) (T:List Bool) (i:Nat) (a:St) (g:Gp) (j:Nat):Gp:=match A[j]? with
 |some b=>(List.range 4).foldl (edge1 lev T i j a b) g
 |none=>g
def node1 (lev:Int) (A:Au) (T:List Bool) (g:Gp) (i:Nat):Gp:=match A[i]? with
 |some a=>if lookF lev T i then(List.range A.length).foldl (edges1 lev A T i a) (insI a.id g.1,g.2) else g
 |none=>g
def graphF (lev:Int) (A:Au) (T:List Bool):Gp:=(List.range A.length).foldl (node1 lev A T) ([],[])
structure GpOk (N0:Int→Prop) (R:Trp→Prop) (g:Gp):Prop where
 srtN:SrtI g.1
 srtE:SrtT g.2
 mem:∀x ∈ g.1,N0 x
 rule:∀e ∈ g.2,R e
 ends:∀e ∈ g.2,e.1 ∈ g.1∧e.2.1 ∈ g.1
theorem GpOk.nil {N0:Int→Prop} {R:Trp→Prop}:GpOk N0 R ([],[]):=⟨List.Pairwise.nil,List.Pairwise.nil,by simp,by simp,by simp⟩
theorem GpOk.node {N0:Int→Prop} {R:Trp→Prop} {g:Gp} (h:GpOk N0 R g) {a:Int} (ha:N0 a):GpOk N0 R (insI a g.1,g.2):=
 ⟨srt_insI h.srtN,h.srtE,fun x hx=>by
  rcases mem_insI.1 hx with rfl|hx
  ·exact ha
  ·exact h.mem x hx,h.rule,fun e he=>⟨mem_insI.2 (.inr (h.ends e he).1),mem_insI.2 (.inr (h.ends e he).2)⟩⟩
theorem GpOk.put {N0:Int→Prop} {R:Trp→Prop} {g:Gp} (h:GpOk N0 R g) {e:Trp} (h1:N0 e.1) (h2:N0 e.2.1) (hR:R e):GpOk N0 R (putE g e):=
 ⟨srt_insI (srt_insI h.srtN),srt_insT h.srtE,fun x hx=>by
  rcases mem_insI.1 hx with rfl|hx
  ·exact h2
  ·rcases mem_insI.1 hx with rfl|hx
   ·exact h1
   ·exact h.mem x hx,fun f hf=>by
  rcases mem_insT.1 hf with rfl|hf
  ·exact hR
  ·exact h.rule f hf,fun f hf=>by
  unfold putE
  rcases mem_insT.1 hf with rfl|hf
  ·exact ⟨mem_insI.2 (.inr (mem_insI.2 (.inl rfl))),mem_insI.2 (.inl rfl)⟩
  ·exact ⟨mem_insI.2 (.inr (mem_insI.2 (.inr (h.ends f hf).1))),mem_insI.2 (.inr (mem_insI.2 (.inr (h.ends f hf).2)))⟩⟩
theorem foldl_inv {α β:Type} {f:β→α→β} {I:β→Prop} (hf:∀b a,I b→I (f b a)):∀(l:List α) (b:β),I b→I (l.foldl f b)
 |[],b,h=>h
 |a::l,b,h=>foldl_inv hf l (f b a) (hf b a h)
theorem foldl_has {α β:Type} {f:β→α→β} {I:β→Prop} (hf:∀b a,I b→I (f b a)) {x:α} (hx:∀b,I (f b x)):∀(l:List α) (b:β),x ∈ l→I (l.foldl f b)
 |a::l,b,h=>by
  rcases List.mem_cons.1 h with rfl|h
  ·exact foldl_inv hf l _ (hx b)
  ·exact foldl_has hf hx l _ h
section
variable {lev:Int} {A:Au} {T:List Bool}
def EdgeOf (lev:Int) (A:Au) (T:List Bool) (e:Trp):Prop:=∃(i j k:Nat) (a b:St),A[i]?=some a∧A[j]?=some b∧lookF lev T i=true∧lookF lev T j=true∧i≠j∧k < 4∧ruleK lev T i j a b k=true∧e=(a.id,b.id,((k+1:Nat):Int))
def NodeOf (lev:Int) (A:Au) (T:List Bool) (x:Int):Prop:=∃(i:Nat) (a:St),A[i]?=some a∧lookF lev T i=true∧x=a.id
theorem graph_ok:GpOk (NodeOf lev A T) (EdgeOf lev A T) (graphF lev A T):=by
 unfold graphF
 refine foldl_inv (I:=GpOk (NodeOf lev A T) (EdgeOf lev A T)) (fun g i hg=>?_) _ _ .nil
 unfold node1
 cases ha:A[i]? with
 |none=>exact hg
 |some a=>
  simp only
  split
  ·rename_i hl
   refine foldl_inv (I:=GpOk (NodeOf lev A T) (EdgeOf lev A T)) (fun g j hg=>?_) _ _ (hg.node ⟨i,a,ha,hl,rfl⟩)
   unfold edges1
   cases hb:A[j]? with
   |none=>exact hg
   |some b=>
    simp only
    have:∀(l:List Nat) (g:Gp),(∀k ∈ l,k < 4)→GpOk (NodeOf lev A T) (EdgeOf lev A T) g→GpOk (NodeOf lev A T) (EdgeOf lev A T) (l.foldl (edge1 lev T i j a b) g):=by
     intro l
     induction l with
     |nil=>exact fun g _ h=>h
     |cons k l ih=>
      intro g hk hg
      refine ih _ (fun q hq=>hk q (List.mem_cons_of_mem _ hq)) ?_
      unfold edge1
      split
      ·rename_i hc
       simp only[Bool.and_eq_true,decide_eq_true_eq] at hc
       exact hg.put ⟨i,a,ha,hl,rfl⟩ ⟨j,b,hb,hc.1.1,rfl⟩ ⟨i,j,k,a,b,ha,hb,hl,hc.1.1,hc.1.2,hk k (List.mem_cons_self ..),hc.2,rfl⟩
      ·exact hg
    exact this _ g (fun k hk=>List.mem_range.1 hk) hg
  ·exact hg
theorem putE_mem {g:Gp} {e f:Trp} (h:f ∈ g.2):f ∈ (putE g e).2:=mem_insT.2 (.inr h)
theorem edge1_mem {i j k:Nat} {a b:St} {g:Gp} {f:Trp} (h:f ∈ g.2):f ∈ (edge1 lev T i j a b g k).2:=by
 unfold edge1
 split
 ·exact putE_mem h
 ·exact h
theorem edges1_mem {i j:Nat} {a:St} {g:Gp} {f:Trp} (h:f ∈ g.2):f ∈ (edges1 lev A T i a g j).2:=by
 unfold edges1
 split
 ·exact foldl_inv (I:=fun g:Gp=>f ∈ g.2) (fun g k hg=>edge1_mem hg) _ _ h
 ·exact h
theorem node1_mem {i:Nat} {g:Gp} {f:Trp} (h:f ∈ g.2):f ∈ (node1 lev A T g i).2:=by
 unfold node1
 split
 ·split
  ·exact foldl_inv (I:=fun g:Gp=>f ∈ g.2) (fun g k hg=>edges1_mem hg) _ _ h
  ·exact h
 ·exact h
theorem graph_mem {e:Trp}:e ∈ (graphF lev A T).2↔EdgeOf lev A T e:=by
 refine⟨graph_ok.rule e,?_⟩
 rintro⟨i,j,k,a,b,ha,hb,hl,hl2,hne,hk,hr,rfl⟩
 have hi:=List.getElem?_eq_some_iff.1 ha |>.1
 have hj:=List.getElem?_eq_some_iff.1 hb |>.1
 unfold graphF
 refine foldl_has (I:=fun g:Gp=>_ ∈ g.2) (fun g i hg=>node1_mem hg) (x:=i) (fun g=>?_) _ _ (List.mem_range.2 hi)
 unfold node1
 rw[ha]
 simp only[hl,if_true]
 refine foldl_has (I:=fun g:Gp=>_ ∈ g.2) (fun g i hg=>edges1_mem hg) (x:=j) (fun g=>?_) _ _ (List.mem_range.2 hj)
 unfold edges1
 rw[hb]
 refine foldl_has (I:=fun g:Gp=>_ ∈ g.2) (fun g i hg=>edge1_mem hg) (x:=k) (fun g=>?_) _ _ (List.mem_range.2 hk)
 unfold edge1
 rw[if_pos (by simp[hl2,hne,hr])]
 exact mem_insT.2 (.inl rfl)
theorem insI_keep {a x:Int} {N:List Int} (h:x ∈ N):x ∈ insI a N:=mem_insI.2 (.inr h)
theorem graph_node {x:Int}:x ∈ (graphF lev A T).1↔NodeOf lev A T x:=by
 refine⟨graph_ok.mem x,?_⟩
 rintro⟨i,a,ha,hl,rfl⟩
 have hi:=List.getElem?_eq_some_iff.1 ha |>.1
 have e1:∀(i j k:Nat) (a b:St) (g:Gp) (x:Int),x ∈ g.1→x ∈ (edge1 lev T i j a b g k).1:=fun i j k a b g x h=>by
  unfold edge1
  split
  ·exact insI_keep (insI_keep h)
  ·exact h
 have e2:∀(i j:Nat) (a:St) (g:Gp) (x:Int),x ∈ g.1→x ∈ (edges1 lev A T i a g j).1:=fun i j a g x h=>by
  unfold edges1
  split
  ·exact foldl_inv (I:=fun g:Gp=>x ∈ g.1) (fun g k hg=>e1 _ _ _ _ _ _ _ hg) _ _ h
  ·exact h
 unfold graphF
 refine foldl_has (I:=fun g:Gp=>_ ∈ g.1) (fun g i hg=>?_) (x:=i) (fun g=>?_) _ _ (List.mem_range.2 hi)
 ·unfold node1
  split
  ·split
   ·exact foldl_inv (I:=fun g:Gp=>_ ∈ g.1) (fun g k hg=>e2 _ _ _ _ _ hg) _ _ (insI_keep hg)
   ·exact hg
  ·exact hg
 ·unfold node1
  rw[ha]
  simp only[hl,if_true]
  exact foldl_inv (I:=fun g:Gp=>_ ∈ g.1) (fun g k hg=>e2 _ _ _ _ _ hg) _ _ (mem_insI.2 (.inl rfl))
end
