/- Parts of the proof; the first: The library's contracts on the keys of maps and on sorting, laid at this program's numbers. Conditions: those of each theorem, as typed. -/
import Derived.Shelf.SlIter.Nil
import Derived.Shelf.SlIterI.Nil
import Derived.Shelf.SortM.Plain
import Derived.Shelf.SortM.SortNone
import Derived.Ground.GgzProg
import Derived.Ground.SlgmProg
import Derived.Test.YtcpfbphcldocpaaGreatDoorProg
import Derived.Test.YtcpfbphcldocpaaGreatDoorQC16
import Derived.Test.YtcpfbphcldocpaaGreatDoorQC03
import Derived.Test.YtcpfbphcldocpaaGreatDoorQC13
import Derived.Test.YtcpfbphcldocpaaGreatDoorQC04
import Derived.WalkSpells
import Derived.Test.YtcpfbphcldocpaaGreatDoorQC01
import Derived.Test.YtcpfbphcldocpaaGreatDoorQC15
import Derived.Test.YtcpfbphcldocpaaGreatDoorQC17
set_option linter.unusedVariables false
set_option linter.unusedSimpArgs false
set_option linter.unusedSectionVars false
set_option maxRecDepth 100000
set_option maxHeartbeats 4000000
namespace Go.Proofs.YtcpfbphcldocpaaGreatDoor
open Go.Maps Go.RowKit Go.Shelf Go.Sort
def QS:Go.Shelf.Ren:=⟨fun|7=>158|10=>200|n=>n,fun|23=>103|26=>3|3=>102|28=>100|0=>0|27=>99|33=>165|4=>4|n=>n,fun|n=>n⟩
theorem KB:SlLaysZI.n7 Tryz.prog QS:={
 mixed:=by kernel_rfl
 f7:=⟨Tryz.f158.name,by decide,Tryz.func158.trans (congrArg some (by kernel_rfl))⟩
 f10:=⟨Tryz.f200.name,by decide,Tryz.func200.trans (congrArg some (by kernel_rfl))⟩
 t0:=Tryz.underlying0
 a0:=Tryz.isAgg0
 z0:=Tryz.sizeOf0
 v0:=Tryz.zeroValue0
 t4:=Tryz.underlying4
 a4:=Tryz.isAgg4
 z4:=Tryz.sizeOf4
 v4:=Tryz.zeroValue4
 t23:=Tryz.underlying103
 a23:=Tryz.isAgg103
 z23:=Tryz.sizeOf103
 v23:=Tryz.zeroValue103
 t26:=Tryz.underlying3
 a26:=Tryz.isAgg3
 z26:=Tryz.sizeOf3
 v26:=Tryz.zeroValue3
 t27:=Tryz.underlying99
 a27:=Tryz.isAgg99
 z27:=Tryz.sizeOf99
 v27:=Tryz.zeroValue99
 t28:=Tryz.underlying100
 a28:=Tryz.isAgg100
 z28:=Tryz.sizeOf100
 v28:=Tryz.zeroValue100
 t33:=Tryz.underlying165
 a33:=Tryz.isAgg165
 z33:=Tryz.sizeOf165
 v33:=Tryz.zeroValue165}
def Zx:Go.Shelf.Ren:=⟨fun|7=>157|10=>199|n=>n,fun|23=>104|26=>3|3=>103|28=>100|0=>0|27=>99|33=>165|4=>4|n=>n,fun|n=>n⟩
theorem keys94:SlLaysZI.n7 Tryz.prog Zx:={
 mixed:=by kernel_rfl
 f7:=⟨Tryz.f157.name,by decide,Tryz.func157.trans (congrArg some (by kernel_rfl))⟩
 f10:=⟨Tryz.f199.name,by decide,Tryz.func199.trans (congrArg some (by kernel_rfl))⟩
 t0:=Tryz.underlying0
 a0:=Tryz.isAgg0
 z0:=Tryz.sizeOf0
 v0:=Tryz.zeroValue0
 t4:=Tryz.underlying4
 a4:=Tryz.isAgg4
 z4:=Tryz.sizeOf4
 v4:=Tryz.zeroValue4
 t23:=Tryz.underlying104
 a23:=Tryz.isAgg104
 z23:=Tryz.sizeOf104
 v23:=Tryz.zeroValue104
 t26:=Tryz.underlying3
 a26:=Tryz.isAgg3
 z26:=Tryz.sizeOf3
 v26:=Tryz.zeroValue3
 t27:=Tryz.underlying99
 a27:=Tryz.isAgg99
 z27:=Tryz.sizeOf99
 v27:=Tryz.zeroValue99
 t28:=Tryz.underlying100
 a28:=Tryz.isAgg100
 z28:=Tryz.sizeOf100
 v28:=Tryz.zeroValue100
 t33:=Tryz.underlying165
 a33:=Tryz.isAgg165
 z33:=Tryz.sizeOf165
 v33:=Tryz.zeroValue165}
def Xd:Go.Shelf.Ren:=⟨fun|6=>37|8=>74|9=>75|11=>124|13=>126|12=>125|23=>168|24=>169|14=>159|15=>160|16=>161|17=>162|18=>163|19=>164|20=>165|21=>166|22=>167|25=>201|26=>202|27=>203|28=>204|29=>205|30=>206|31=>228|n=>n,fun|26=>3|28=>100|24=>30|0=>0|3=>3|37=>245|48=>296|50=>298|4=>4|40=>290|39=>289|45=>45|5=>5|9=>9|51=>319|55=>262|57=>339|58=>272|33=>165|n=>n,fun|n=>n⟩
theorem Zb:SlLaysZI.n6 Tryz.prog Xd:={
 mixed:=by kernel_rfl
 f6:=⟨Tryz.f37.name,by decide,Tryz.func37.trans (congrArg some (by kernel_rfl))⟩
 f8:=⟨Tryz.f74.name,by decide,Tryz.func74.trans (congrArg some (by kernel_rfl))⟩
 f11:=⟨Tryz.f124.name,by decide,Tryz.func124.trans (congrArg some (by kernel_rfl))⟩
 t0:=Tryz.underlying0
 a0:=Tryz.isAgg0
 z0:=Tryz.sizeOf0
 v0:=Tryz.zeroValue0
 t24:=Tryz.underlying30
 a24:=Tryz.isAgg30
 z24:=Tryz.sizeOf30
 v24:=Tryz.zeroValue30
 t26:=Tryz.underlying3
 a26:=Tryz.isAgg3
 z26:=Tryz.sizeOf3
 v26:=Tryz.zeroValue3
 t28:=Tryz.underlying100
 a28:=Tryz.isAgg100
 z28:=Tryz.sizeOf100
 v28:=Tryz.zeroValue100
 i26:=by kernel_rfl}
def Kg:Go.Shelf.Ren:=⟨fun|5=>75|8=>126|7=>125|19=>168|20=>169|10=>159|11=>160|12=>161|13=>162|14=>163|15=>164|16=>165|17=>166|18=>167|30=>201|31=>202|32=>203|33=>204|34=>205|35=>206|40=>228|n=>n,fun|23=>30|25=>3|3=>3|32=>245|22=>30|0=>0|44=>296|46=>298|4=>4|36=>290|35=>289|41=>45|5=>5|9=>9|53=>319|57=>262|63=>339|64=>272|n=>n,fun|n=>n⟩
theorem ML:SlLaysM.n5 Tryz.prog Kg:={
 mixed:=by kernel_rfl
 f5:=⟨Tryz.f75.name,by decide,Tryz.func75.trans (congrArg some (by kernel_rfl))⟩
 f7:=⟨Tryz.f125.name,by decide,Tryz.func125.trans (congrArg some (by kernel_rfl))⟩
 f8:=Tryz.func126.trans (congrArg some (by kernel_rfl))
 f10:=⟨Tryz.f159.name,by decide,Tryz.func159.trans (congrArg some (by kernel_rfl))⟩
 f11:=⟨Tryz.f160.name,by decide,Tryz.func160.trans (congrArg some (by kernel_rfl))⟩
 f12:=⟨Tryz.f161.name,by decide,Tryz.func161.trans (congrArg some (by kernel_rfl))⟩
 f13:=⟨Tryz.f162.name,by decide,Tryz.func162.trans (congrArg some (by kernel_rfl))⟩
 f14:=⟨Tryz.f163.name,by decide,Tryz.func163.trans (congrArg some (by kernel_rfl))⟩
 f15:=⟨Tryz.f164.name,by decide,Tryz.func164.trans (congrArg some (by kernel_rfl))⟩
 f16:=⟨Tryz.f165.name,by decide,Tryz.func165.trans (congrArg some (by kernel_rfl))⟩
 f17:=⟨Tryz.f166.name,by decide,Tryz.func166.trans (congrArg some (by kernel_rfl))⟩
 f18:=⟨Tryz.f167.name,by decide,Tryz.func167.trans (congrArg some (by kernel_rfl))⟩
 f19:=Tryz.func168.trans (congrArg some (by kernel_rfl))
 f20:=Tryz.func169.trans (congrArg some (by kernel_rfl))
 f30:=⟨Tryz.f201.name,by decide,Tryz.func201.trans (congrArg some (by kernel_rfl))⟩
 f31:=Tryz.func202.trans (congrArg some (by kernel_rfl))
 f32:=Tryz.func203.trans (congrArg some (by kernel_rfl))
 f33:=⟨Tryz.f204.name,by decide,Tryz.func204.trans (congrArg some (by kernel_rfl))⟩
 f34:=⟨Tryz.f205.name,by decide,Tryz.func205.trans (congrArg some (by kernel_rfl))⟩
 f35:=⟨Tryz.f206.name,by decide,Tryz.func206.trans (congrArg some (by kernel_rfl))⟩
 f40:=⟨Tryz.f228.name,by decide,Tryz.func228.trans (congrArg some (by kernel_rfl))⟩
 t0:=Tryz.underlying0
 a0:=Tryz.isAgg0
 z0:=Tryz.sizeOf0
 v0:=Tryz.zeroValue0
 t3:=Tryz.underlying3
 a3:=Tryz.isAgg3
 z3:=Tryz.sizeOf3
 v3:=Tryz.zeroValue3
 t4:=Tryz.underlying4
 a4:=Tryz.isAgg4
 z4:=Tryz.sizeOf4
 v4:=Tryz.zeroValue4
 t5:=Tryz.underlying5
 a5:=Tryz.isAgg5
 z5:=Tryz.sizeOf5
 v5:=Tryz.zeroValue5
 t9:=Tryz.underlying9
 a9:=Tryz.isAgg9
 z9:=Tryz.sizeOf9
 v9:=Tryz.zeroValue9
 t22:=Tryz.underlying30
 a22:=Tryz.isAgg30
 z22:=Tryz.sizeOf30
 v22:=Tryz.zeroValue30
 t23:=Tryz.underlying30
 a23:=Tryz.isAgg30
 z23:=Tryz.sizeOf30
 v23:=Tryz.zeroValue30
 t25:=Tryz.underlying3
 a25:=Tryz.isAgg3
 z25:=Tryz.sizeOf3
 v25:=Tryz.zeroValue3
 t32:=Tryz.underlying245
 a32:=Tryz.isAgg245
 z32:=Tryz.sizeOf245
 v32:=Tryz.zeroValue245
 t35:=Tryz.underlying289
 a35:=Tryz.isAgg289
 z35:=Tryz.sizeOf289
 v35:=Tryz.zeroValue289
 t36:=Tryz.underlying290
 a36:=Tryz.isAgg290
 z36:=Tryz.sizeOf290
 v36:=Tryz.zeroValue290
 t41:=Tryz.underlying45
 a41:=Tryz.isAgg45
 z41:=Tryz.sizeOf45
 v41:=Tryz.zeroValue45
 t44:=Tryz.underlying296
 a44:=Tryz.isAgg296
 z44:=Tryz.sizeOf296
 v44:=Tryz.zeroValue296
 t46:=Tryz.underlying298
 a46:=Tryz.isAgg298
 z46:=Tryz.sizeOf298
 v46:=Tryz.zeroValue298
 t53:=Tryz.underlying319
 a53:=Tryz.isAgg319
 z53:=Tryz.sizeOf319
 v53:=Tryz.zeroValue319
 t57:=Tryz.underlying262
 a57:=Tryz.isAgg262
 z57:=Tryz.sizeOf262
 v57:=Tryz.zeroValue262
 t63:=Tryz.underlying339
 a63:=Tryz.isAgg339
 z63:=Tryz.sizeOf339
 v63:=Tryz.zeroValue339
 t64:=Tryz.underlying272
 a64:=Tryz.isAgg272
 z64:=Tryz.sizeOf272
 v64:=Tryz.zeroValue272}
theorem UJ (m:Nat):AnyZI.SortsIn Tryz.prog Xd Fence.wide m:=
 ⟨fun blk off cap ss W hH hblk hsz=>callsIn_wide.2 (AnyM.slices_Sort_int ML blk off cap ss W hH hblk hsz),
  fun p cap W=>callsIn_wide.2 (AnyM.slices_Sort_int_none ML p cap W)⟩
theorem srt_leI {l:List Int} (h:jJ l):l.Pairwise fun a b=>leI a b=true:=h.imp fun {a b} h=>by simp[leI];omega
theorem Qx {l ss:List Int} (hp:ss.Perm l) (h:jJ l):ss.mergeSort leI=l:=by
 rw[mergeSort_of_perm_i hp];exact List.mergeSort_of_pairwise (srt_leI h)
theorem Xv {ε:Type} (ed:ε->DU) (M:List (Int×ε)):intKeys (vg (.int .i64) ed M)=M.map (·.1):=by
 simp[intKeys,vg,Go.intOf]
theorem QR {w:World} {B n:Nat} {v:Value} {l:List Int} (h:w.ownsRow B 3 1 v n (l.map (.int .i64))) (hn:n=l.length):yF w B v l:=by
 subst hn;show w.ownsRow B _ 1 v l.length (l.flatMap jF);rw[vV];exact h
theorem za.keys {ε:Type} {M:List (Int×ε)} (h:za M):jJ (M.map (·.1)):=by
 unfold jJ;rw[List.pairwise_map];exact h
theorem keysM (mb:Option Nat) (W:World):Calls Tryz.prog 158 #[.map mb] W fun e w'=>e=.returned (.func (.func 200) #[] #[.pointer (some ⟨W.heap.size,0,none⟩)])/\w'=W.alloc (.cells #[.map mb] 103):=
 (callsIn_wide (n:=5)).1 (AnyZI.keys_in KB Fence.wide 5 trivial rfl mb W)
theorem sortedM {ε:Type} {R:Ms} {ed:ε->DU} {M:List (Int×ε)} {w:World} {b n:Nat} (h:qG Tryz.prog 3 R (.int .i64) ed w b n M) (hs:za M) (hn:n<=1000000):
  Calls Tryz.prog 37 #[.func (.func 200) #[] #[.pointer (some ⟨w.heap.size,0,none⟩)]] (w.alloc (.cells #[.map (some b)] 103)) fun e w'=>∃v,e=.returned v/\yF w' (w.heap.size+1) v (M.map (·.1))/\
   Below (w.heap.size+1) (w.alloc (.cells #[.map (some b)] 103)) w':=by
 have hlen:=h.length_le;have hbl:=h.lt;have hseq:SeqGives Fence.wide 2 Tryz.prog 200 #[.pointer (some ⟨w.heap.size,0,none⟩)] encZ (fun ss=>ss.Perm (intKeys (vg (.int .i64) ed M))) (Maps.size (vg (.int .i64) ed M)) (w.alloc (.cells #[.map (some b)] 103)):=
  AnyZI.keys_gives (ρ:=QS) {KB with} Fence.wide _ trivial rfl (by omega) w.heap.size b n _ _ (by simp) (by simp) (by
   obtain⟨es,clock,hb,Ft,hs,hD⟩:=h;exact⟨es,clock,(Below.heap_alloc _ _ b hbl).trans hb,Ft,hs,hD⟩)
 refine((callsIn_wide (n:=5)).1 (AnyZI.sorted_in Zb Fence.wide 5 trivial trivial trivial trivial rfl (by omega) (UJ _) (enters_of Tryz.func75 (by kernel_rfl) rfl) 200 #[.pointer (some ⟨w.heap.size,0,none⟩)] trivial (enters_of Tryz.func200 (by kernel_rfl) rfl) _ _ (by rw[zO];unfold maxLen;omega) (by rw[zO];omega) _ hseq)).mono ?_;rintro e w' ⟨v,ss,rfl,hp,hrow,-,hb⟩;rw[Xv] at hp;have hm:=Qx hp hs.keys;rw[show (ss.mergeSort fun x y=>decide (x<=y))=M.map (·.1) from hm] at hrow;rw[World.size_alloc] at hrow hb;exact⟨v,rfl,QR hrow (by have:=hp.length_eq;simpa using this),hb⟩
theorem VK (w:World):
  Calls Tryz.prog 37 #[.func (.func 200) #[] #[.pointer (some ⟨w.heap.size,0,none⟩)]] (w.alloc (.cells #[.map none] 103)) fun e w'=>∃v,e=.returned v/\yF w' (w.heap.size+1) v []/\
   Below (w.heap.size+1) (w.alloc (.cells #[.map none] 103)) w':=by
 have hseq:SeqGives Fence.wide 2 Tryz.prog 200 #[.pointer (some ⟨w.heap.size,0,none⟩)] encZ (fun ss:List Int=>ss=[]) 0 (w.alloc (.cells #[.map none] 103)):=
  AnyZI.keys_gives_nil (ρ:=QS) {KB with} Fence.wide _ trivial rfl w.heap.size _ (by simp) (by simp)
 refine((callsIn_wide (n:=5)).1 (AnyZI.sorted_in Zb Fence.wide 5 trivial trivial trivial trivial rfl (by omega) (UJ _) (enters_of Tryz.func75 (by kernel_rfl) rfl) 200 #[.pointer (some ⟨w.heap.size,0,none⟩)] trivial (enters_of Tryz.func200 (by kernel_rfl) rfl) _ 0 (Nat.zero_le _) (by omega) _ hseq)).mono ?_;rintro e w' ⟨v,ss,rfl,rfl,hrow,-,hb⟩;rw[World.size_alloc,List.mergeSort_nil] at hrow;rw[World.size_alloc] at hb;exact⟨v,rfl,QR hrow rfl,hb⟩
theorem keysG (mb:Option Nat) (W:World):Calls Tryz.prog 157 #[.map mb] W fun e w'=>e=.returned (.func (.func 199) #[] #[.pointer (some ⟨W.heap.size,0,none⟩)])/\w'=W.alloc (.cells #[.map mb] 104):=
 (callsIn_wide (n:=5)).1 (AnyZI.keys_in keys94 Fence.wide 5 trivial rfl mb W)
theorem sortedG {ε:Type} {R:Ms} {ed:ε->DU} {M:List (Int×ε)} {w:World} {b n:Nat} (h:qG Tryz.prog 3 R (.int .i64) ed w b n M) (hs:za M) (hn:n<=1000000):
  Calls Tryz.prog 37 #[.func (.func 199) #[] #[.pointer (some ⟨w.heap.size,0,none⟩)]] (w.alloc (.cells #[.map (some b)] 104)) fun e w'=>∃v,e=.returned v/\yF w' (w.heap.size+1) v (M.map (·.1))/\
   Below (w.heap.size+1) (w.alloc (.cells #[.map (some b)] 104)) w':=by
 have hlen:=h.length_le;have hbl:=h.lt;have hseq:SeqGives Fence.wide 2 Tryz.prog 199 #[.pointer (some ⟨w.heap.size,0,none⟩)] encZ (fun ss=>ss.Perm (intKeys (vg (.int .i64) ed M))) (Maps.size (vg (.int .i64) ed M)) (w.alloc (.cells #[.map (some b)] 104)):=
  AnyZI.keys_gives (ρ:=Zx) {keys94 with} Fence.wide _ trivial rfl (by omega) w.heap.size b n _ _ (by simp) (by simp) (by
   obtain⟨es,clock,hb,Ft,hs,hD⟩:=h;exact⟨es,clock,(Below.heap_alloc _ _ b hbl).trans hb,Ft,hs,hD⟩)
 refine((callsIn_wide (n:=5)).1 (AnyZI.sorted_in Zb Fence.wide 5 trivial trivial trivial trivial rfl (by omega) (UJ _) (enters_of Tryz.func75 (by kernel_rfl) rfl) 199 #[.pointer (some ⟨w.heap.size,0,none⟩)] trivial (enters_of Tryz.func199 (by kernel_rfl) rfl) _ _ (by rw[zO];unfold maxLen;omega) (by rw[zO];omega) _ hseq)).mono ?_;rintro e w' ⟨v,ss,rfl,hp,hrow,-,hb⟩;rw[Xv] at hp;have hm:=Qx hp hs.keys;rw[show (ss.mergeSort fun x y=>decide (x<=y))=M.map (·.1) from hm] at hrow;rw[World.size_alloc] at hrow hb;exact⟨v,rfl,QR hrow (by have:=hp.length_eq;simpa using this),hb⟩
def Uq (P:List Pr) (out:List Int) (x:Int):Bool:=P.all fun q=>q.2 !=x||out.contains q.1
theorem Up {P:List Pr} {out:List Int} {x:Int}:Uq P out x=true↔∀a,(a,x) ∈ P->a ∈ out:=by
 unfold Uq;simp only[List.all_eq_true,Bool.or_eq_true,bne_iff_ne,List.contains_eq_mem,decide_eq_true_eq];constructor
 ·intro h a ha
  rcases h _ ha with h|h
  ·exact absurd rfl h
  ·exact h
 ·rintro h ⟨a,y⟩ hq
  by_cases e:y=x
  ·subst e;exact .inr (h a hq)
  ·exact .inl e
def okB (P:List Pr) (out:List Int) (x:Int):Bool:=!out.contains x&&Uq P out x
theorem okB_iff {P:List Pr} {out:List Int} {x:Int}:okB P out x=true↔x ∉ out/\∀a,(a,x) ∈ P->a ∈ out:=by
 unfold okB;rw[Bool.and_eq_true,Up];simp
def Qw (P:List Pr) (N out:List Int):Option Int:=N.find? (okB P out)
def zI (P:List Pr) (N:List Int):Nat->List Int->Option (List Int)
 |0,out=>some out
 |m+1,out=>match Qw P N out with
  |none=>none
  |some x=>zI P N m (out++[x])
def uq (P:List Pr) (N:List Int):Option (List Int):=zI P N N.length []
theorem VB {P:List Pr} {N out:List Int} {m:Nat} (h:Qw P N out=none):zI P N (m+1) out=none:=by simp[zI,h]
theorem VA {P:List Pr} {N out:List Int} {m:Nat} {x:Int} (h:Qw P N out=some x):zI P N (m+1) out=zI P N m (out++[x]):=by simp[zI,h]
def yi (N out:List Int):List Int:=N.filter fun x=>!out.contains x
theorem uL {N out:List Int} {x:Int}:x ∈ yi N out↔x ∈ N/\x ∉ out:=by unfold yi;simp
theorem left_nil (N:List Int):yi N []=N:=by unfold yi;simp
theorem ND {P:List Pr} {N out:List Int}:Qw P N out=(yi N out).find? (Uq P out):=by
 unfold Qw yi;rw[List.find?_filter];congr 1;funext a;unfold okB;cases (!out.contains a) <;> cases Uq P out a <;> rfl
theorem VH {N:List Int} (h:jJ N) (out:List Int):jJ (yi N out):=List.Pairwise.filter _ h
theorem Zv {N out:List Int} {i:Nat} {x:Int} (h:jJ N) (hx:(yi N out)[i]?=some x):(yi N out).eraseIdx i=yi N (out++[x]):=by
 have hs:=VH h out;refine jJ.ext (List.Pairwise.sublist (List.eraseIdx_sublist _ _) hs) (VH h _) fun y=>?_;rw[uL,List.mem_append,List.mem_singleton];have hi:=(List.getElem?_eq_some_iff.1 hx).1;have hxi:(yi N out)[i]=x:=(List.getElem?_eq_some_iff.1 hx).2;rw[List.mem_eraseIdx_iff_getElem];constructor
 ·rintro ⟨j,hj,hne,rfl⟩
  have hm:=uL.1 (List.getElem_mem hj);refine⟨hm.1,?_⟩;rintro(h1|h1)
  ·exact hm.2 h1
  ·have hnd:=(jJ.nodup hs)
   exact hne ((List.getElem_inj hnd).1 (h1.trans hxi.symm))
 ·rintro ⟨h1,h2⟩
  have hm:y ∈ yi N out:=uL.2 ⟨h1,fun h=>h2 (.inl h)⟩;obtain⟨j,hj,e⟩:=List.getElem_of_mem hm;refine⟨j,hj,?_,e⟩;rintro rfl;exact h2 (.inr (by rw[←e,←hxi]))
theorem Wo {N out:List Int} {i:Nat} {x:Int} (h:jJ N) (hx:(yi N out)[i]?=some x):(yi N (out++[x])).length+1=(yi N out).length:=by
 rw[←Zv h hx];have hi:=(List.getElem?_eq_some_iff.1 hx).1;rw[List.length_eraseIdx,if_pos hi];omega
theorem find_at {l:List Int} {p:Int->Bool} {i:Nat} {x:Int} (hx:l[i]?=some x) (hp:p x=true) (hn:∀y ∈ l.take i,p y=false):l.find? p=some x:=by
 have h:l=l.take i++x::l.drop (i+1):=by
  have hi:=(List.getElem?_eq_some_iff.1 hx).1;have:=(List.getElem?_eq_some_iff.1 hx).2;rw[←this,←List.drop_eq_getElem_cons hi,List.take_append_drop]
 rw[h,List.find?_append,List.find?_eq_none.2 fun y hy=>by rw[hn y hy];simp];simp[hp]
theorem NT {l:List Int} {p:Int->Bool} (hn:∀y ∈ l,p y=false):l.find? p=none:=List.find?_eq_none.2 fun y hy=>by rw[hn y hy];simp
def xA (P:List Pr) (p:Int->Bool) (x:Int):Nat:=(P.filter fun q=>q.2==x&&p q.1).length
theorem KD (P:List Pr) (p:Int->Bool) (x:Int) (h:∀a,p a=false):xA P p x=0:=by
 unfold xA;rw[List.filter_eq_nil_iff.2 fun q _=>by simp[h q.1],List.length_nil]
theorem indeg_le (P:List Pr) (p:Int->Bool) (x:Int):xA P p x<=P.length:=List.length_filter_le _ _
theorem Wu {P:List Pr} {p p':Int->Bool} {x:Int} (h:∀a,(a,x) ∈ P->p a=p' a):xA P p x=xA P p' x:=by
 unfold xA;congr 1;refine List.filter_congr fun q hq=>?_;by_cases e:q.2=x
 ·rw [h q.1 (by rw[←e];exact hq)]
 ·have:(q.2==x)=false:=by simpa using e
  simp[this]
theorem ZB {P:List Pr} {p:Int->Bool} {x:Int}:xA P p x=0↔∀a,(a,x) ∈ P->p a=false:=by
 unfold xA;rw[List.length_eq_zero_iff,List.filter_eq_nil_iff];constructor
 ·intro h a ha
  have:=h _ ha;simpa using this
 ·rintro h ⟨a,y⟩ hq
  simp only[Bool.and_eq_true,beq_iff_eq,not_and];rintro rfl;rw[h a hq];simp
theorem Um {P:List Pr} (hP:P.Nodup) {p p':Int->Bool} (a x:Int) (ha:p a=false) (h:∀z,p' z=(p z||z==a)):xA P p' x=xA P p x+if (a,x) ∈ P then 1 else 0:=by
 induction P with
 |nil=>simp[xA]
 |cons q P ih=>
  obtain⟨hq,hP⟩:=List.nodup_cons.1 hP;have ih:=ih hP;have e:∀p:Int->Bool,xA (q::P) p x=(if (q.2==x&&p q.1)=true then 1 else 0)+xA P p x:=fun p=>by
   unfold xA;cases hc:(q.2==x&&p q.1) <;> simp[List.filter_cons,hc];omega
  rw[e,e,ih,h];obtain⟨q1,q2⟩:=q;by_cases e1:q2=x
  ·subst e1
   by_cases e2:q1=a
   ·subst e2
    simp only[List.mem_cons,true_or,if_true,ha,beq_self_eq_true,Bool.and_false,Bool.false_or,Bool.and_true];rw[if_neg hq];simp;omega
   ·have e3:(q1==a)=false:=by simpa using e2
    have e4:((a,q2) ∈ (q1,q2)::P)↔(a,q2) ∈ P:=by simp[Ne.symm e2]
    simp only[e3,Bool.or_false,e4];omega
  ·have e3:(q2==x)=false:=by simpa using e1
   have e4:((a,x) ∈ (q1,q2)::P)↔(a,x) ∈ P:=by simp[Ne.symm e1]
   simp only[e3,Bool.false_and,e4];simp
theorem KE {P:List Pr} (hP:P.Nodup) {p p':Int->Bool} (a x:Int) (ha:p a=true) (h:∀z,p' z=(p z&&!(z==a))):xA P p x=xA P p' x+if (a,x) ∈ P then 1 else 0:=
 Um hP a x (by rw[h];simp) fun z=>by
  rw[h];by_cases e:z=a
  ·subst e;simp[ha]
  ·have:(z==a)=false:=by simpa using e
   simp[this]
structure ji (N:List Int) (D:List (Int×Int)) (c:Int->Nat):Prop where
 srt:za D
 keys:∀q ∈ D,q.1 ∈ N
 at':∀x,(fnd x D).getD 0=(c x:Int)
theorem ji.nil (N:List Int) (c:Int->Nat) (h:∀x,c x=0):ji N [] c:=⟨List.Pairwise.nil,fun _ h=>by simp at h,fun x=>by simp[fnd,h]⟩
theorem ji.congr {N:List Int} {D:List (Int×Int)} {c c':Int->Nat} (h:ji N D c) (hc:∀x,c' x=c x):ji N D c':=⟨h.srt,h.keys,fun x=>by rw[h.at',hc]⟩
theorem ji.put {N:List Int} {D:List (Int×Int)} {c c':Int->Nat} (h:ji N D c) {b:Int} (hb:b ∈ N) {v:Int} (hv:v=(c' b:Int)) (hc:∀x,x≠b->c' x=c x):ji N (upd b v D) c':=by
 refine⟨zG h.srt,fun q hq=>?_,fun x=>?_⟩
 ·rcases (yX h.srt).1 hq with e|⟨hq,-⟩
  ·rw [e];exact hb
  ·exact h.keys q hq
 ·by_cases e:x=b
  ·subst e;rw[ja h.srt,hv];rfl
  ·rw [jz h.srt e,h.at',hc x e]
theorem ji.length {N:List Int} {D:List (Int×Int)} {c:Int->Nat} (h:ji N D c):D.length<=N.length:=by
 have h1:(D.map (·.1)).length<=N.length:=jZ h.srt.keys.nodup fun z hz=>by
  obtain⟨q,hq,rfl⟩:=List.mem_map.1 hz;exact h.keys q hq
 simpa using h1
structure jP (w w':World):Prop where
 size:w.heap.size<=w'.heap.size
 obj:∀(i:Nat) (o:Obj),w.heap[i]?=some o->(∀es c,o≠.map es c)->w'.heap[i]?=some o
theorem jP.cells {w w':World} (h:jP w w') {i:Nat} {cs:Array Value} {t:TypeId} {fz:Nat×Nat} (hi:w.heap[i]?=some (.cells cs t fz)):w'.heap[i]?=some (.cells cs t fz):=h.obj i _ hi fun _ _ e=>by cases e
theorem jP.refl (w:World):jP w w:=⟨Nat.le_refl _,fun _ _ h _=>h⟩
theorem jP.trans {a b c:World} (h:jP a b) (k:jP b c):jP a c:=⟨Nat.le_trans h.size k.size,fun i o hi ho=>k.obj i o (h.obj i o hi ho) ho⟩
theorem jP.alloc (w:World) (o:Obj):jP w (w.alloc o):=⟨by simp,fun _ _ hi _=>qy hi⟩
theorem jP.turned {w w':World} {b:Nat} (h:w.mapTurned w' b):jP w w':=by
 refine⟨Nat.le_of_eq (qP h).symm,fun i o hi ho=>?_⟩;obtain⟨es,c,es',c',hb,e⟩:=id h;rw[qA h (by rintro rfl;rw[hb] at hi;cases hi;exact ho _ _ rfl)];exact hi
section
variable {w w':World} {B sz n:Nat} {v:Value} {xs:List Value}
theorem qj.keepC {α:Type} {f:α->List Value} {e:TypeId} {l:List α} (h:qj f e sz w B v l) (hk:jP w w'):qj f e sz w' B v l:=by
 obtain⟨h1,h2⟩:=h;refine⟨h1,?_⟩;rcases h2 with h2|⟨g,cap,cur,rfl,hg,hh,r⟩
 ·exact .inl h2
 ·exact .inr ⟨g,cap,cur,rfl,hg,hk.cells hh,r⟩
end
abbrev Mp (w:World) (b:Nat) (M:List (Int×Nat)):Prop:=qG Tryz.prog 3 Ra (.int .i64) (fun r:Nat=>.lit (.int .i64 r)) w b M.length M
abbrev Mq (w:World) (b:Nat) (M:List (Int×Unit)):Prop:=qG Tryz.prog 3 Nb (.int .i64) (fun _:Unit=>.lit (.bool true)) w b M.length M
def jl (l:List Int):List (Int×Unit):=l.map fun x=>(x,())
theorem UG (l:List Int):(jl l).length=l.length:=by simp[jl]
theorem Ni {l:List Int} (h:jJ l):za (jl l):=by unfold za jl;rw[List.pairwise_map];exact h
theorem JI (a:Int):∀l:List Int,upd a () (jl l)=jl (yL a l)
 |[]=>rfl
 |x::l=>by
  have ih:=JI a l;simp only[jl,List.map_cons,upd,yL] at ih ⊢
  split
  ·rename_i h;subst h;rfl
  ·split
   ·rfl
   ·rw [ih];rfl
theorem JJ (a:Int):∀l:List Int,fnd a (jl l)=if a ∈ l then some () else none
 |[]=>rfl
 |x::l=>by
  have ih:=JJ a l;simp only[jl,List.map_cons,fnd] at ih ⊢;by_cases h:x=a
  ·subst h;simp
  ·rw [if_neg h,ih]
   have h':¬a=x:=fun e=>h e.symm;simp[h']
theorem JK {dom:Int->Prop} {l:List Int} (h:∀x ∈ l,dom x):yE dom (jl l):=fun p hp=>by
 obtain⟨x,hx,rfl⟩:=List.mem_map.1 hp;exact h x hx
theorem YX {ε:Type} (a:Int) (v:ε):∀M:List (Int×ε),(upd a v M).map (·.1)=yL a (M.map (·.1))
 |[]=>rfl
 |(x,u)::M=>by
  have ih:=YX a v M;simp only[upd,List.map_cons,yL]
  split
  ·rename_i h;subst h;rfl
  ·split
   ·rfl
   ·rw [List.map_cons,ih]
theorem zeroM (w:World):(zeroValue 102).run Tryz.prog w=.ok (.map none) w:=by kernel_rfl
section
variable {w:World} {lo hi p b:Nat} {M:List (Int×Nat)} {L:List Pr}
theorem Uh {u:Nat} {l:List Int} (h:Mq w u (jl l)) (hl:∀x ∈ l,dI x) {c:Int} (hc:dI c):(Instr.lookup 102 (.map (some u)) (.int .i64 c) false).run Tryz.prog w=.ok (.bool (decide (c ∈ l))) w:=by
 have:=h.look zm Yd (JK hl) Tryz.underlying102 (YU w) hc;rw[JJ] at this;rw[this];by_cases e:c ∈ l <;> simp[e]
end
abbrev KZ (w:World) (b r:Nat) (M:List (Int×Nat)) (S:Int->Bool) (cnt:Nat):Prop:=uS Tryz.prog 3 Ra (.int .i64) (fun r:Nat=>.lit (.int .i64 r)) w b r M.length M S cnt
theorem Sl.ints {w:World} {B n cap:Nat} {a:Option Addr} {l:List Int} (h:Sl w B 1 (.slice a n cap) n (l.flatMap jF)) {k:Nat} (hk:k < n) (hl:l.length=n):
  ∃b off x,a=some ⟨b,off,none⟩/\b < B/\l[k]?=some x/\w.cell? ⟨b,off+k,none⟩=some (.int .i64 x):=by
 obtain⟨b,off,x,ha,hb,hx,hc⟩:=h.atF Zy hl hk;exact⟨b,off,x,ha,hb,hx,by have:=hc 0 (by omega);simpa[jF] using this⟩
theorem yF.at {w:World} {B n cap:Nat} {a:Option Addr} {l:List Int} (h:yF w B (.slice a n cap) l) (hl:l.length=n) {k:Nat} (hk:k < n):∃g x,a=some ⟨g,0,none⟩/\B<=g/\g < w.heap.size/\l[k]?=some x/\w.cell? ⟨g,k,none⟩=some (.int .i64 x):=by
 have h0:=h.sl;rcases h.form with⟨-,rfl⟩|⟨g,cap',e,hB,hg⟩
 ·simp at hl;omega
 ·simp only[Value.slice.injEq] at e
  obtain⟨rfl,e2,rfl⟩:=e;subst hl;obtain⟨b,off,x,ha,hb,hx,hc⟩:=h0.ints hk rfl;simp only[Option.some.injEq,Addr.mk.injEq,and_true] at ha;obtain⟨rfl,rfl⟩:=ha;exact⟨g,x,rfl,hB,hg,hx,by simpa using hc⟩
section
attribute [local irreducible] xL
theorem zD {α:Type} {L:List α} {k:Nat} {x y:α} (hx:L[k]?=some x):y ∈ L.take (k+1)↔y ∈ L.take k\/y=x:=by
 rw[zk hx,List.mem_append,List.mem_singleton]
end
section
variable {P:List Pr} {N l:List Int}
def jN (P:List Pr) (N l:List Int):Prop:=l.length=N.length/\∀(i:Nat) (x:Int),l[i]?=some x->Qw P N (l.take i)=some x
theorem JL:∀{m:Nat} {out:List Int},zI P N m out=some l->∃r,l=out++r/\r.length=m/\∀(i:Nat) (x:Int),r[i]?=some x->Qw P N (out++r.take i)=some x
 |0,out,h=>⟨[],by simpa[zI] using h.symm,rfl,fun i x hx=>by simp at hx⟩
 |m+1,out,h=>by
  unfold zI at h;cases hn:Qw P N out with
  |none=>rw[hn] at h;cases h
  |some x=>
   rw[hn] at h;obtain⟨r,h1,h2,h3⟩:=JL h;refine⟨x::r,by rw[h1];simp,by simp[h2],fun i y hy=>?_⟩;cases i with
   |zero=>
    simp only[List.getElem?_cons_zero,Option.some.injEq] at hy;subst hy;simpa using hn
   |succ i=>
    have:=h3 i y (by simpa using hy);simpa using this
theorem ME (h:uq P N=some l):jN P N l:=by
 obtain⟨r,h1,h2,h3⟩:=JL h;simp only[List.nil_append] at h1 h3;subst h1;exact⟨h2,h3⟩
theorem Zn {out:List Int} {x:Int} (h:Qw P N out=some x):x ∈ N/\x ∉ out/\∀a,(a,x) ∈ P->a ∈ out:=
 ⟨List.mem_of_find?_eq_some h,okB_iff.1 (List.find?_some h)⟩
theorem jN.nodup (h:jN P N l):l.Nodup:=by
 unfold List.Nodup;rw[List.pairwise_iff_getElem];intro i j hi hj hij e;have hx:=List.getElem?_eq_getElem hi;have h1:=Zn (h.2 j _ ((List.getElem?_eq_getElem hj).trans (congrArg some e.symm)));exact h1.2.1 (List.mem_iff_getElem?.2 ⟨i,by rw[List.getElem?_take_of_lt hij,hx]⟩)
theorem jN.sub (h:jN P N l):∀x ∈ l,x ∈ N:=fun x hx=>by
 obtain⟨i,hi⟩:=List.mem_iff_getElem?.1 hx;exact(Zn (h.2 i x hi)).1
theorem KX {l m:List Int} (h:l.Nodup) (hs:∀x ∈ l,x ∈ m) (hl:m.length<=l.length):∀x ∈ m,x ∈ l:=fun x hx=>by
 by_cases hxl:x ∈ l
 ·exact hxl
 ·exfalso
  have:=jZ (l:=x::l) (m:=m) (List.nodup_cons.2 ⟨hxl,h⟩) fun y hy=>by
   rcases List.mem_cons.1 hy with rfl|hy
   ·exact hx
   ·exact hs y hy
  simp at this;omega
theorem jN.all (h:jN P N l):∀x ∈ N,x ∈ l:=KX h.nodup h.sub (by rw[h.1];exact Nat.le_refl _)
theorem jN.lead (h:jN P N l) {a x:Int} {i:Nat} (hx:l[i]?=some x) (hp:(a,x) ∈ P):∃j,j < i/\l[j]?=some a:=by
 have:=(Zn (h.2 i x hx)).2.2 a hp;obtain⟨j,hj⟩:=List.mem_iff_getElem?.1 this;rw[List.getElem?_take] at hj;by_cases hji:j < i
 ·exact ⟨j,hji,by simpa[hji] using hj⟩
 ·simp [hji] at hj
end
abbrev Gp:=List Int×List jI
def UQ (g:Gp) (e:jI):Gp:=(yL e.2.1 (yL e.1 g.1),vj e g.2)
def JS (lev:Int) (T:List Bool) (i j:Nat) (a b:St):Nat->Bool
 |0=>vQ lev a b
 |1=>VP (T.getD i false) a b
 |2=>JR (T.getD i false) (T.getD j false) a b
 |_=>VQ (T.getD j false) a b
def yP (lev:Int) (T:List Bool) (i j:Nat) (a b:St) (g:Gp) (k:Nat):Gp:=if qZ lev T j&&decide (i≠j)&&JS lev T i j a b k then UQ g (a.id,b.id,((k+1:Nat):Int)) else g
def yR (lev:Int) (A:Au) (T:List Bool) (i:Nat) (a:St) (g:Gp) (j:Nat):Gp:=match A[j]? with
 |some b=>(List.range 4).foldl (yP lev T i j a b) g
 |none=>g
def zC (lev:Int) (A:Au) (T:List Bool) (g:Gp) (i:Nat):Gp:=match A[i]? with
 |some a=>if qZ lev T i then(List.range A.length).foldl (yR lev A T i a) (yL a.id g.1,g.2) else g
 |none=>g
def qR (lev:Int) (A:Au) (T:List Bool):Gp:=(List.range A.length).foldl (zC lev A T) ([],[])
structure Yh (N0:Int->Prop) (R:jI->Prop) (g:Gp):Prop where
 srtN:jJ g.1
 srtE:WO g.2
 mem:∀x ∈ g.1,N0 x
 rule:∀e ∈ g.2,R e
 ends:∀e ∈ g.2,e.1 ∈ g.1/\e.2.1 ∈ g.1
theorem Yh.nil {N0:Int->Prop} {R:jI->Prop}:Yh N0 R ([],[]):=⟨List.Pairwise.nil,List.Pairwise.nil,by simp,by simp,by simp⟩
theorem Yh.node {N0:Int->Prop} {R:jI->Prop} {g:Gp} (h:Yh N0 R g) {a:Int} (ha:N0 a):Yh N0 R (yL a g.1,g.2):=
 ⟨jE h.srtN,h.srtE,fun x hx=>by
  rcases qY.1 hx with rfl|hx
  ·exact ha
  ·exact h.mem x hx,h.rule,fun e he=>⟨qY.2 (.inr (h.ends e he).1),qY.2 (.inr (h.ends e he).2)⟩⟩
theorem Yh.put {N0:Int->Prop} {R:jI->Prop} {g:Gp} (h:Yh N0 R g) {e:jI} (h1:N0 e.1) (h2:N0 e.2.1) (hR:R e):Yh N0 R (UQ g e):=
 ⟨jE (jE h.srtN),uI h.srtE,fun x hx=>by
  rcases qY.1 hx with rfl|hx
  ·exact h2
  ·rcases qY.1 hx with rfl|hx
   ·exact h1
   ·exact h.mem x hx,fun f hf=>by
  rcases xV.1 hf with rfl|hf
  ·exact hR
  ·exact h.rule f hf,fun f hf=>by
  unfold UQ;rcases xV.1 hf with rfl|hf
  ·exact ⟨qY.2 (.inr (qY.2 (.inl rfl))),qY.2 (.inl rfl)⟩
  ·exact ⟨qY.2 (.inr (qY.2 (.inr (h.ends f hf).1))),qY.2 (.inr (qY.2 (.inr (h.ends f hf).2)))⟩⟩
theorem zn {α β:Type} {f:β->α->β} {I:β->Prop} (hf:∀b a,I b->I (f b a)):∀(l:List α) (b:β),I b->I (l.foldl f b)
 |[],b,h=>h
 |a::l,b,h=>zn hf l (f b a) (hf b a h)
theorem uO {α β:Type} {f:β->α->β} {I:β->Prop} (hf:∀b a,I b->I (f b a)) {x:α} (hx:∀b,I (f b x)):∀(l:List α) (b:β),x ∈ l->I (l.foldl f b)
 |a::l,b,h=>by
  rcases List.mem_cons.1 h with rfl|h
  ·exact zn hf l _ (hx b)
  ·exact uO hf hx l _ h
section
variable {lev:Int} {A:Au} {T:List Bool}
def Yi (lev:Int) (A:Au) (T:List Bool) (e:jI):Prop:=∃(i j k:Nat) (a b:St),A[i]?=some a/\A[j]?=some b/\qZ lev T i=true/\qZ lev T j=true/\i≠j/\k < 4/\JS lev T i j a b k=true/\e=(a.id,b.id,((k+1:Nat):Int))
def Yg (lev:Int) (A:Au) (T:List Bool) (x:Int):Prop:=∃(i:Nat) (a:St),A[i]?=some a/\qZ lev T i=true/\x=a.id
theorem Wv:Yh (Yg lev A T) (Yi lev A T) (qR lev A T):=by
 unfold qR;refine zn (I:=Yh (Yg lev A T) (Yi lev A T)) (fun g i hg=>?_) _ _ .nil;unfold zC;cases ha:A[i]? with
 |none=>exact hg
 |some a=>
  simp only
  split
  ·rename_i hl
   refine zn (I:=Yh (Yg lev A T) (Yi lev A T)) (fun g j hg=>?_) _ _ (hg.node ⟨i,a,ha,hl,rfl⟩);unfold yR;cases hb:A[j]? with
   |none=>exact hg
   |some b=>
    simp only;have:∀(l:List Nat) (g:Gp),(∀k ∈ l,k < 4)->Yh (Yg lev A T) (Yi lev A T) g->Yh (Yg lev A T) (Yi lev A T) (l.foldl (yP lev T i j a b) g):=by
     intro l
     induction l with
     |nil=>exact fun g _ h=>h
     |cons k l ih=>
      intro g hk hg;refine ih _ (fun q hq=>hk q (List.mem_cons_of_mem _ hq)) ?_;unfold yP
      split
      ·rename_i hc
       simp only[Bool.and_eq_true,decide_eq_true_eq] at hc;exact hg.put ⟨i,a,ha,hl,rfl⟩ ⟨j,b,hb,hc.1.1,rfl⟩ ⟨i,j,k,a,b,ha,hb,hl,hc.1.1,hc.1.2,hk k (List.mem_cons_self ..),hc.2,rfl⟩
      ·exact hg
    exact this _ g (fun k hk=>List.mem_range.1 hk) hg
  ·exact hg
theorem MR {g:Gp} {e f:jI} (h:f ∈ g.2):f ∈ (UQ g e).2:=xV.2 (.inr h)
theorem Uy {i j k:Nat} {a b:St} {g:Gp} {f:jI} (h:f ∈ g.2):f ∈ (yP lev T i j a b g k).2:=by
 unfold yP
 split
 ·exact MR h
 ·exact h
theorem ZO {i j:Nat} {a:St} {g:Gp} {f:jI} (h:f ∈ g.2):f ∈ (yR lev A T i a g j).2:=by
 unfold yR
 split
 ·exact zn (I:=fun g:Gp=>f ∈ g.2) (fun g k hg=>Uy hg) _ _ h
 ·exact h
theorem NB {i:Nat} {g:Gp} {f:jI} (h:f ∈ g.2):f ∈ (zC lev A T g i).2:=by
 unfold zC
 split
 ·split
  ·exact zn (I:=fun g:Gp=>f ∈ g.2) (fun g k hg=>ZO hg) _ _ h
  ·exact h
 ·exact h
theorem NQ {e:jI}:e ∈ (qR lev A T).2↔Yi lev A T e:=by
 refine⟨Wv.rule e,?_⟩;rintro⟨i,j,k,a,b,ha,hb,hl,hl2,hne,hk,hr,rfl⟩;have hi:=List.getElem?_eq_some_iff.1 ha |>.1;have hj:=List.getElem?_eq_some_iff.1 hb |>.1;unfold qR;refine uO (I:=fun g:Gp=>_ ∈ g.2) (fun g i hg=>NB hg) (x:=i) (fun g=>?_) _ _ (List.mem_range.2 hi);unfold zC;rw[ha];simp only[hl,if_true];refine uO (I:=fun g:Gp=>_ ∈ g.2) (fun g i hg=>ZO hg) (x:=j) (fun g=>?_) _ _ (List.mem_range.2 hj);unfold yR;rw[hb];refine uO (I:=fun g:Gp=>_ ∈ g.2) (fun g i hg=>Uy hg) (x:=k) (fun g=>?_) _ _ (List.mem_range.2 hk);unfold yP;rw[if_pos (by simp[hl2,hne,hr])];exact xV.2 (.inl rfl)
theorem XZ {a x:Int} {N:List Int} (h:x ∈ N):x ∈ yL a N:=qY.2 (.inr h)
theorem vm {x:Int}:x ∈ (qR lev A T).1↔Yg lev A T x:=by
 refine⟨Wv.mem x,?_⟩;rintro⟨i,a,ha,hl,rfl⟩;have hi:=List.getElem?_eq_some_iff.1 ha |>.1;have e1:∀(i j k:Nat) (a b:St) (g:Gp) (x:Int),x ∈ g.1->x ∈ (yP lev T i j a b g k).1:=fun i j k a b g x h=>by
  unfold yP
  split
  ·exact XZ (XZ h)
  ·exact h
 have e2:∀(i j:Nat) (a:St) (g:Gp) (x:Int),x ∈ g.1->x ∈ (yR lev A T i a g j).1:=fun i j a g x h=>by
  unfold yR
  split
  ·exact zn (I:=fun g:Gp=>x ∈ g.1) (fun g k hg=>e1 _ _ _ _ _ _ _ hg) _ _ h
  ·exact h
 unfold qR;refine uO (I:=fun g:Gp=>_ ∈ g.1) (fun g i hg=>?_) (x:=i) (fun g=>?_) _ _ (List.mem_range.2 hi)
 ·unfold zC
  split
  ·split
   ·exact zn (I:=fun g:Gp=>_ ∈ g.1) (fun g k hg=>e2 _ _ _ _ _ hg) _ _ (XZ hg)
   ·exact hg
  ·exact hg
 ·unfold zC
  rw[ha];simp only[hl,if_true];exact zn (I:=fun g:Gp=>_ ∈ g.1) (fun g k hg=>e2 _ _ _ _ _ hg) _ _ (qY.2 (.inl rfl))
end
section
attribute [local irreducible] xL
def PredI (g:Nat) (lb:Array Value) (p:Int->Bool) (w:World):Prop:=
 ∀(W:World) (x:Int),dI x->Below w.heap.size w W->Calls Tryz.prog g (#[.int .i64 x]++lb) W fun e w'=>e=.returned (.bool (p x))/\Below W.heap.size W w'
theorem VN {M1 M2:Mi} {f:Int->Bool}:(∃p ∈ M1,fnd p.1 M2=some p.2/\f p.1=true)↔Qu M1 M2 f=true:=by
 unfold Qu;rw[List.any_eq_true];constructor
 ·rintro ⟨p,h1,h2,h3⟩;exact⟨p,h1,by simp[h2,h3]⟩
 ·rintro ⟨p,h1,h2⟩
  simp only[Bool.and_eq_true,beq_iff_eq] at h2;exact⟨p,h1,h2.1,h2.2⟩
theorem Km {w:World} {M1 M2:MI} {b1 b2:Nat} (h1:vH w b1 M1.length M1) (h2:vH w b2 M2.length M2) (d1:yE dI M1) (s1:za M1) (d2:yE dI M2) {g:Nat} {lb:Array Value} {p:Int->Bool} (eg:∀args w,(callFunc g args).run Tryz.prog w=.ok (.enter g args) w) (hp:PredI g lb p w):
  Calls Tryz.prog 115 #[.map (some b1),.map (some b2),.func (.func g) #[] lb] w fun e w'=>e=.returned (.bool (Qu M1 M2 p))/\Below w.heap.size w w':=by
 obtain⟨R,hR⟩:∃R,Qu M1 M2 p=R:=⟨_,rfl⟩
 rw[hR];have HRR:=qd hR;have H1:=qd h1;have H2:=qd h2;have D1:=qd d1;have S1:=qd s1;have D2:=qd d2;have HP:=qd hp;clear h1 h2 d1 s1 d2 hp hR;go_enter Tryz.func115,Tryz.ntmps115;go_wp2_with (at_range;refine qH.halt ?_)
 refine qH.go ?_;refine H1.o.wpList_range zm D1.o S1.o Tryz.underlying138 rfl rfl (by rfl) ?_;intro Y hrg hg hz;have HG:=qd hrg;have BY:=qd (yz (Below.refl w.heap.size w) hg (Nat.le_refl _));have hzY:w.heap.size < Y.heap.size:=by omega
 clear hrg hg hz;obtain⟨w5,hw5⟩:∃w5,w5=w:=⟨_,rfl⟩
 subst hw5;go_wp2_with fail
 go_frame
 go_loopg [7] M1.length (fun kk _ wq=>∃(S:Int->Bool),RngI wq b1 w5.heap.size M1 S kk/\(∀q ∈ M1,S q.1=false->¬(fnd q.1 M2=some q.2/\p q.1=true))/\Below w5.heap.size w5 wq/\w5.heap.size < wq.heap.size)
 case atStart=>exact⟨_,HG.o,(fun q _ h=>by cases h),BY.o,hzY⟩
 case round=>
  obtain⟨S,hrg,hno,hB,hz⟩:=hrel;have HG:=qd hrg;have HNO:=qd hno;have HB:=qd hB;clear hrg hno hB BY hzY;go_wp2_with (at_next;refine qH.halt ?_)
  refine qH.go ?_;refine HG.o.wpList_next zm yK D1.o S1.o rfl rfl (by rfl) ?_ ?_
  ·intro hd
   have HRF:=qd (show R=false by
    rw[←HRR.o];cases e:Qu M1 M2 p with
    |false=>rfl
    |true=>
     obtain⟨q,h1,h2⟩:=VN.2 e;exact absurd h2 (HNO.o q h1 (hd q h1)))
   clear hd HG;go_wp2_with fail;refine bodyPost_ret (v:=.bool false) (by simp[results,Tryz.results115,go_sem]) rfl ?_;exact⟨by rw[HRF.o],HB.o⟩
  ·intro x u w3 k3 hxm hS hrg3 hlt3 hg3 hz3 hen
   have HB3:=qd (zK HB.o hg3 HB.o.size (Nat.le_refl _));have HG3:=qd hrg3;have HX:=qd hxm;have hdx:=D1.o _ hxm;have hz3':w5.heap.size < w3.heap.size:=by omega
   have lk:=Xt (H2.o.below HB3.o H2.o.lt) D2.o hdx (r:=fnd x M2) rfl;have HSK:=qd (fun(hn:¬(fnd x M2=some u/\p x=true))=>(fun q hq h=>by
    by_cases e:q.1=x
    ·have q1:=(fnd_some S1.o (a:=q.1) (u:=q.2)).2 hq
     have q2:=(fnd_some S1.o).2 HX.o;rw[e,q2] at q1;rw[e,←Option.some.inj q1];exact hn
    ·have e2:(q.1==x)=false:=by simpa using e
     rw[e2] at h;exact HNO.o q hq (by simpa using h):∀q ∈ M1,(S q.1&&!(q.1==x))=false->¬(fnd q.1 M2=some q.2/\p q.1=true)))
   have HCL:=qd (HP.o w3 x hdx HB3.o);clear hrg3 hg3 HG hz3 hdx;cases hf:fnd x M2 with
   |none=>
    rw[hf] at lk;simp only[Option.getD_none,Option.isSome_none] at lk;have HF:=qd hf;clear hf;go_wp2_with fail
    go_roundg k3
    case measure=>exact hlt3
    case rel=>exact⟨_,HG3.o,HSK.o (fun h=>by rw[HF.o] at h;cases h.1),HB3.o,hz3'⟩
   |some v=>
    rw[hf] at lk;simp only[Option.getD_some,Option.isSome_some] at lk;have HF:=qd hf;clear hf;by_cases hvu:v=u
    ·subst hvu
     obtain⟨r,hr⟩:∃r,p x=r:=⟨_,rfl⟩
     rw[hr] at HCL;have HPR:=qd hr;clear hr;have qv:(v==v)=true:=by simp
     go_wp2_with fail;refine(HCL.o).mono ?_;rintro e w4 ⟨rfl,b4⟩;have HB4:=qd (HB3.o.trans (b4.mono (by omega)));have HG4:=qd (HG3.o.below b4 (by have:=H1.o.lt;omega) hz3');have hz4:w5.heap.size < w4.heap.size:=by have:=b4.size;omega
     clear b4 HCL;cases r with
     |true=>
      go_wp2_with fail;refine bodyPost_ret (v:=.bool true) (by simp[results,Tryz.results115,go_sem]) rfl ?_;refine⟨?_,HB4.o⟩;rw[←HRR.o,VN.1 ⟨_,HX.o,HF.o,HPR.o⟩]
     |false=>
      go_wp2_with fail
      go_roundg k3
      case measure=>exact hlt3
      case rel=>exact⟨_,HG4.o,HSK.o (fun h=>by rw[HPR.o] at h;cases h.2),HB4.o,hz4⟩
    ·have qv:(v==u)=false:=by simpa using hvu
     have HVU:=qd hvu;clear hvu;go_wp2_with fail
     go_roundg k3
     case measure=>exact hlt3
     case rel=>exact⟨_,HG3.o,HSK.o (fun h=>by rw[HF.o] at h;exact HVU.o (Option.some.inj h.1)),HB3.o,hz3'⟩
theorem r_any (W:World) (x:Int):Calls Tryz.prog 116 #[.int .i64 x] W fun e w'=>e=.returned (.bool true)/\Below W.heap.size W w':=by
 go_enter Tryz.func116,Tryz.ntmps116;go_wp2;go_ret;exact⟨rfl,Below.refl _ _⟩
structure yA (w:World) (pW n:Nat):Prop where
 wd:w.heap[n]?=some (.cells #[.pointer (some ⟨pW,0,none⟩)] 89 (0,0))
 same:w.heap[n+1]?=some (.cells #[.func (.func 115) #[] #[]] 240 (0,0))
 any_:w.heap[n+1+1]?=some (.cells #[.func (.func 116) #[] #[]] 165 (0,0))
 list:w.heap[n+1+1+1]?=some (.cells #[.int .i64 1,.func (.func 117) #[] #[.pointer (some ⟨n,0,none⟩)],.int .i64 2,.func (.func 119) #[] #[.pointer (some ⟨n+1,0,none⟩),.pointer (some ⟨n+1+1,0,none⟩)],.int .i64 3,.func (.func 120) #[] #[.pointer (some ⟨n+1,0,none⟩)],.int .i64 4,.func (.func 122) #[] #[.pointer (some ⟨n+1,0,none⟩)]] 168 (0,0))
theorem yA.below {w w':World} {pW n K:Nat} (h:yA w pW n) (hb:Below K w w') (hK:n+1+1+1 < K):yA w' pW n:=⟨qh h.wd hb (by omega),qh h.same hb (by omega),qh h.any_ hb (by omega),qh h.list hb hK⟩
theorem r_rules (w:World) (pW:Nat):Calls Tryz.prog 71 #[.pointer (some ⟨pW,0,none⟩)] w fun e w'=>e=.returned (.slice (some ⟨w.heap.size+1+1+1,0,none⟩) 4 4)/\yA w' pW w.heap.size/\Below w.heap.size w w':=by
 go_enter Tryz.func71,Tryz.ntmps71;go_wp2;go_ret;refine⟨rfl,⟨?_,?_,?_,?_⟩,(((Below.refl _ w).alloc (Nat.le_refl _) _).alloc (by simp) _).alloc (by first|(simp;done)|(simp;omega)) _ |>.alloc (by first|(simp;done)|(simp;omega)) _⟩
 ·rw [Below.heap_alloc _ _ _ (by first|(simp;done)|(simp;omega)),Below.heap_alloc _ _ _ (by first|(simp;done)|(simp;omega)),Below.heap_alloc _ _ _ (by simp)]
  exact heap_alloc_new w _
 ·rw [Below.heap_alloc _ _ _ (by first|(simp;done)|(simp;omega)),Below.heap_alloc _ _ _ (by simp)]
  have:=heap_alloc_new (w.alloc (.cells #[.pointer (some ⟨pW,0,none⟩)] 89)) (.cells #[.func (.func 115) #[] #[]] 240);simpa using this
 ·rw [Below.heap_alloc _ _ _ (by simp)]
  have:=heap_alloc_new ((w.alloc (.cells #[.pointer (some ⟨pW,0,none⟩)] 89)).alloc (.cells #[.func (.func 115) #[] #[]] 240)) (.cells #[.func (.func 116) #[] #[]] 165);simpa using this
 ·have:=heap_alloc_new (((w.alloc (.cells #[.pointer (some ⟨pW,0,none⟩)] 89)).alloc (.cells #[.func (.func 115) #[] #[]] 240)).alloc (.cells #[.func (.func 116) #[] #[]] 165)) (.cells #[.int .i64 1,.func (.func 117) #[] #[.pointer (some ⟨w.heap.size,0,none⟩)],.int .i64 2,.func (.func 119) #[] #[.pointer (some ⟨w.heap.size+1,0,none⟩),.pointer (some ⟨w.heap.size+1+1,0,none⟩)],.int .i64 3,.func (.func 120) #[] #[.pointer (some ⟨w.heap.size+1,0,none⟩)],.int .i64 4,.func (.func 122) #[] #[.pointer (some ⟨w.heap.size+1,0,none⟩)]] 168)
  simpa using this
section
variable {w:World} {lo hi pW bB n:Nat} {lev:Int} {ov vv lv:Value} {ms:List xz} {A:Au} {T:List Bool} {i j:Nat} {m m':xz} {a a':St}
theorem r_real (h:xN w lo hi pW bB lev ov vv ms lv A T) (hov:∃x y z,ov=.slice x y z) (hvv:∃x y z,vv=.slice x y z) (hr:yA w pW n) (h1:ms[i]?=some m) (h2:ms[j]?=some m') (g1:A[i]?=some a) (g2:A[j]?=some a'):
  Calls Tryz.prog 117 #[.pointer (some ⟨m.p,0,none⟩),.pointer (some ⟨m'.p,0,none⟩),.pointer (some ⟨n,0,none⟩)] w fun e w'=>e=.returned (.bool (vQ lev a a'))/\Below w.heap.size w w':=by
 have q1:=h.mv i m a h1 g1;have q2:=h.mv j m' a' h2 g2;obtain⟨d1,c1,e1⟩:=qj.sli q1.dds;obtain⟨d2,c2,e2⟩:=qj.sli q2.dds;have r1:=q1.row;have r2:=q2.row;unfold Rr at r1 r2;rw[e1] at r1;rw[e2] at r2;have hw:=qa hr.wd 0;have hwl:=qe hr.wd;have hl:=qa h.row 2;have hll:=qe h.row;simp at hw hl;have s1:=qa r1;have s2:=qa r2;have x0:=s1 0;have x1:=s1 1;have x2:=s1 2;have x3:=s1 3;have x4:=s1 4;have x5:=s1 5;have x6:=s1 6;have z0:=s2 0;have z1:=s2 1;have z2:=s2 2;have z3:=s2 3;have z4:=s2 4;have z5:=s2 5;have z6:=s2 6;simp at x0 x1 x2 x3 x4 x5 x6 z0 z1 z2 z3 z4 z5 z6;have xl:=qe r1;have zl:=qe r2;clear s1 s2 r1 r2 e1 e2 q1 q2 h hr g1 g2 h1 h2;go_enter Tryz.func117,Tryz.ntmps117;go_wp2_with fail;by_cases hlev:lev=1
 ·have ql:(lev !=1)=false:=by simp[hlev]
  have HL:=qd hlev;clear hlev;refine qD (w.heap.size) [1,0,0,1,0,0,0,0,0,1,0,0,0,1,2,0,0] (.fin [0,1,2,3,4,5,6,7,8,9,10,11,12,13,14,15,16]) (by kernel_rfl) ?_;simp only[xC,qJ,qu,sD,sE,sF,sG,Option.bind_some]
  repeat first|(refine qq fun K hK=>?_;go_simp;refine hK _ _ ?_;clear hK K)|(apply qx;(intro w2 hw2;have hk1:=hw2.cell;have hk3:=hw2.1;clear hw2;go_simp;with_reducible rfl);simp only[Act.put,sA,sB,sC])|refine qz rfl rfl ?_|(refine qE rfl rfl fun K hK=>?_;simp only[Act.put,sA,sB,sC];refine hK _ _ ?_;clear hK K)|(refine qQ rfl fun K hK=>?_;simp only[Act.put,sA,sB,sC];refine hK _ _ ?_;clear hK K)|refine qm ?_
  go_wp2;go_ret;exact⟨by unfold vQ;rw[HL.o];rfl,(Below.refl _ w).drew⟩
 ·have ql:(lev !=1)=true:=by simpa using hlev
  have HL:=qd hlev;clear hlev;refine qD (w.heap.size) [1,0,0,1,0,0,0,0,0,1,0,0,0,1,2,0,0] (.fin [0,1,2,3,4,5,6,7,8,9,10,11,12,13,14,15,16]) (by kernel_rfl) ?_;simp only[xC,qJ,qu,sD,sE,sF,sG,Option.bind_some]
  repeat first|(refine qq fun K hK=>?_;go_simp;refine hK _ _ ?_;clear hK K)|(apply qx;(intro w2 hw2;have hk1:=hw2.cell;have hk3:=hw2.1;clear hw2;go_simp;with_reducible rfl);simp only[Act.put,sA,sB,sC])|refine qz rfl rfl ?_|(refine qE rfl rfl fun K hK=>?_;simp only[Act.put,sA,sB,sC];refine hK _ _ ?_;clear hK K)
  refine qF (fun K hK=>?_);go_simp;refine(No a.id a.thread a.status a.beg a.fin a.tri d1 a.deeds.length c1 a'.id a'.thread a'.status a'.beg a'.fin a'.tri d2 a'.deeds.length c2 w.drew).mono ?_;rintro e X2 ⟨rfl,hb⟩;refine hK _ _ ?_;clear hK K;have BX:=qd ((Below.refl w.heap.size w).drew.trans hb);have HRL:=qd (show vQ lev a a'=(decide (0<=a.fin)&&decide (a.fin < a'.beg)) by unfold vQ rly;simp[HL.o]);obtain⟨rb,hrb⟩:∃rb,(decide (0<=a.fin)&&decide (a.fin < a'.beg))=rb:=⟨_,rfl⟩
  rw[hrb] at HRL ⊢;clear hb hrb
  repeat first|(refine qq fun K hK=>?_;go_simp;refine hK _ _ ?_;clear hK K)|refine qm ?_
  go_wp2;go_ret;exact⟨by rw[HRL.o];rfl,BX.o⟩
def vB (A:Au):Prop:=∀s ∈ A,yE dI (yG s)/\yE dI (zb s)
theorem r_from (h:xN w lo hi pW bB lev ov vv ms lv A T) (hd:vB A) (hr:yA w pW n) (h1:ms[i]?=some m) (h2:ms[j]?=some m') (g1:A[i]?=some a) (g2:A[j]?=some a'):
  Calls Tryz.prog 119 #[.pointer (some ⟨m.p,0,none⟩),.pointer (some ⟨m'.p,0,none⟩),.pointer (some ⟨n+1,0,none⟩),.pointer (some ⟨n+1+1,0,none⟩)] w fun e w'=>e=.returned (.bool (VP (T.getD i false) a a'))/\Below w.heap.size w w':=by
 have q1:=h.mv i m a h1 g1;have q2:=h.mv j m' a' h2 g2;have r1:=q1.row;have r2:=q2.row;have hsm:=qa hr.same 0;have hsl:=qe hr.same;have han:=qa hr.any_ 0;have hal:=qe hr.any_;simp at hsm han;have s1:=qa r1;have s2:=qa r2;have x7:=s1 7;have x8:=s1 8;have x10:=s1 10;have z7:=s2 7;have z8:=s2 8;have z10:=s2 10;simp at x7 x8 x10 z7 z8 z10;rw[←List.getD_eq_getElem?_getD] at x10 z10;obtain⟨ta,hta⟩:∃ta,T.getD i false=ta:=⟨_,rfl⟩
 obtain⟨tb,htb⟩:∃tb,T.getD j false=tb:=⟨_,rfl⟩
 rw[hta] at x10;rw[htb] at z10;have xl:=qe r1;have zl:=qe r2;have R1:=qd q1.rd;have V1:=qd q1.wr;have R2:=qd q2.rd;have V2:=qd q2.wr;have D1:=qd (hd a (List.mem_of_getElem? g1));have D2:=qd (hd a' (List.mem_of_getElem? g2));have r2':=qd r2;have SC:=qd (Km (w:=w.drew) V1.o.drew R2.o.drew D1.o.2 (Qe a) D2.o.1 (lb:=#[]) (p:=fun _=>true) (enters_of Tryz.func116 (by kernel_rfl) rfl) (fun W x _ _=>r_any W x));rw[hta];clear s1 s2 r1 r2 q1 q2 h hr g1 g2 h1 h2 hta htb hd;go_enter Tryz.func119,Tryz.ntmps119;go_wp2_with fail;cases ta with
 |false=>
  refine qD (w.heap.size) [0,0,0,1,0,1,0,0,0,1,0,0,0,1,1,2,0,0] (.fin [0,1,2,3,4,5,6,7,8,9,10,11,12,13,14,15,16,17]) (by kernel_rfl) ?_;simp only[xC,qJ,qu,sD,sE,sF,sG,Option.bind_some]
  repeat first|(refine qq fun K hK=>?_;go_simp;refine hK _ _ ?_;clear hK K)|(apply qx;(intro w2 hw2;have hk1:=hw2.cell;have hk3:=hw2.1;clear hw2;go_simp;with_reducible rfl);simp only[Act.put,sA,sB,sC])|refine qz rfl rfl ?_|(refine qE rfl rfl fun K hK=>?_;simp only[Act.put,sA,sB,sC];refine hK _ _ ?_;clear hK K)|(refine qQ rfl fun K hK=>?_;simp only[Act.put,sA,sB,sC];refine hK _ _ ?_;clear hK K)|refine qm ?_
  go_wp2;go_ret;exact⟨rfl,(Below.refl _ w).drew⟩
 |true=>
  refine qD (w.heap.size) [0,0,0,1,0,1,0,0,0,1,0,0,0,1,1,2,0,0] (.fin [0,1,2,3,4,5,6,7,8,9,10,11,12,13,14,15,16,17]) (by kernel_rfl) ?_;simp only[xC,qJ,qu,sD,sE,sF,sG,Option.bind_some]
  repeat first|(refine qq fun K hK=>?_;go_simp;refine hK _ _ ?_;clear hK K)|(apply qx;(intro w2 hw2;have hk1:=hw2.cell;have hk3:=hw2.1;clear hw2;go_simp;with_reducible rfl);simp only[Act.put,sA,sB,sC])|refine qz rfl rfl ?_|(refine qE rfl rfl fun K hK=>?_;simp only[Act.put,sA,sB,sC];refine hK _ _ ?_;clear hK K)
  refine qF (fun K hK=>?_);go_simp;refine(SC.o).mono ?_;rintro e X2 ⟨rfl,hb⟩;refine hK _ _ ?_;clear hK K;have BX:=qd ((Below.refl w.heap.size w).drew.trans hb);clear hb
  repeat first|(refine qq fun K hK=>?_;go_simp;refine hK _ _ ?_;clear hK K)|refine qm ?_
  go_wp2;go_ret;exact⟨rfl,BX.o⟩
theorem Kl {w:World} {b:Nat} {m':xz} {a':St} (hb:w.heap[b]?=some (.cells #[.pointer (some ⟨m'.p,0,none⟩)] 133 (0,0))) {cs:Array Value} (hm:w.heap[m'.p]?=some (.cells cs 140 (0,0))) (h8:w.cell? ⟨m'.p,8,none⟩=some (.map (some m'.wm))) (hw:vH w m'.wm (zb a').length (zb a')) (hd:yE dI (zb a')):
  PredI 121 #[.pointer (some ⟨b,0,none⟩)] (fun o=>(fnd o (zb a')).isSome) w:=by
 intro W x hx hB;have c0:=qa (qh hb hB (qe hb)) 0;simp at c0;have c8:=qp hB (qe hm) h8;have l0:=qe (qh hb hB (qe hb));have l8:m'.p < W.heap.size:=Nat.lt_of_lt_of_le (qe hm) hB.size;have lk:=Xt (hw.below hB hw.lt) hd hx (r:=fnd x (zb a')) rfl;have ea:∀a b:Value,(#[a]++#[b]:Array Value)=#[a,b]:=fun a b=>by simp
 rw[ea];obtain⟨r,hr⟩:∃r,fnd x (zb a')=r:=⟨_,rfl⟩
 rw[hr] at lk;show Calls _ _ _ W fun e w'=>e=.returned (.bool (fnd x (zb a')).isSome)/\Below W.heap.size W w';rw[hr];clear hr hb hm h8 hw hB ea;go_enter Tryz.func121,Tryz.ntmps121;go_wp2;go_ret;exact⟨rfl,Below.refl _ _⟩
theorem Ns {w:World} {b:Nat} {m':xz} {a':St} (hb:w.heap[b]?=some (.cells #[.pointer (some ⟨m'.p,0,none⟩)] 133 (0,0))) {cs:Array Value} (hm:w.heap[m'.p]?=some (.cells cs 140 (0,0))) (h8:w.cell? ⟨m'.p,8,none⟩=some (.map (some m'.wm))) (hw:vH w m'.wm (zb a').length (zb a')) (hd:yE dI (zb a')):
  PredI 123 #[.pointer (some ⟨b,0,none⟩)] (fun o=>(fnd o (zb a')).isSome) w:=by
 intro W x hx hB;have c0:=qa (qh hb hB (qe hb)) 0;simp at c0;have c8:=qp hB (qe hm) h8;have l0:=qe (qh hb hB (qe hb));have l8:m'.p < W.heap.size:=Nat.lt_of_lt_of_le (qe hm) hB.size;have lk:=Xt (hw.below hB hw.lt) hd hx (r:=fnd x (zb a')) rfl;have ea:∀a b:Value,(#[a]++#[b]:Array Value)=#[a,b]:=fun a b=>by simp
 rw[ea];obtain⟨r,hr⟩:∃r,fnd x (zb a')=r:=⟨_,rfl⟩
 rw[hr] at lk;show Calls _ _ _ W fun e w'=>e=.returned (.bool (fnd x (zb a')).isSome)/\Below W.heap.size W w';rw[hr];clear hr hb hm h8 hw hB ea;go_enter Tryz.func123,Tryz.ntmps123;go_wp2;go_ret;exact⟨rfl,Below.refl _ _⟩
theorem r_write (h:xN w lo hi pW bB lev ov vv ms lv A T) (hd:vB A) (hr:yA w pW n) (h1:ms[i]?=some m) (h2:ms[j]?=some m') (g1:A[i]?=some a) (g2:A[j]?=some a'):
  Calls Tryz.prog 120 #[.pointer (some ⟨m.p,0,none⟩),.pointer (some ⟨m'.p,0,none⟩),.pointer (some ⟨n+1,0,none⟩)] w fun e w'=>e=.returned (.bool (JR (T.getD i false) (T.getD j false) a a'))/\Below w.heap.size w w':=by
 have q1:=h.mv i m a h1 g1;have q2:=h.mv j m' a' h2 g2;have r1:=q1.row;have r2:=q2.row;have hsm:=qa hr.same 0;have hsl:=qe hr.same;have han:=qa hr.any_ 0;have hal:=qe hr.any_;simp at hsm han;have s1:=qa r1;have s2:=qa r2;have x7:=s1 7;have x8:=s1 8;have x10:=s1 10;have z7:=s2 7;have z8:=s2 8;have z10:=s2 10;simp at x7 x8 x10 z7 z8 z10;rw[←List.getD_eq_getElem?_getD] at x10 z10;obtain⟨ta,hta⟩:∃ta,T.getD i false=ta:=⟨_,rfl⟩
 obtain⟨tb,htb⟩:∃tb,T.getD j false=tb:=⟨_,rfl⟩
 rw[hta] at x10;rw[htb] at z10;have xl:=qe r1;have zl:=qe r2;have R1:=qd q1.rd;have V1:=qd q1.wr;have R2:=qd q2.rd;have V2:=qd q2.wr;have D1:=qd (hd a (List.mem_of_getElem? g1));have D2:=qd (hd a' (List.mem_of_getElem? g2));have r2':=qd r2;have BB:=qd (show Below w.heap.size w (w.alloc (.cells #[.pointer (some ⟨m'.p,0,none⟩)] 133)) from(Below.refl _ w).alloc (Nat.le_refl _) _);have rb:=qs w (.cells #[.pointer (some ⟨m'.p,0,none⟩)] 133);have yb:(w.alloc (.cells #[.pointer (some ⟨m'.p,0,none⟩)] 133)).cell? ⟨w.heap.size,0,none⟩=some (.pointer (some ⟨m'.p,0,none⟩)):=qa rb 0;have ybl:=qe rb;have PC:=qd (Kl (w:=(w.alloc (.cells #[.pointer (some ⟨m'.p,0,none⟩)] 133)).drew) rb (qh r2 BB.o.drew (qe r2)) (qp BB.o.drew (qe r2) z8) (V2.o.below BB.o.drew V2.o.lt) D2.o.2);have SC:=qd (Km (w:=(w.alloc (.cells #[.pointer (some ⟨m'.p,0,none⟩)] 133)).drew) (V1.o.below BB.o V1.o.lt).drew (R2.o.below BB.o R2.o.lt).drew D1.o.2 (Qe a) D2.o.1 (enters_of Tryz.func121 (by kernel_rfl) rfl) PC.o);have x7:=qp BB.o xl x7;have x8:=qp BB.o xl x8;have x10:=qp BB.o xl x10;have z7:=qp BB.o zl z7;have z8:=qp BB.o zl z8;have z10:=qp BB.o zl z10;have hsm:=qp BB.o hsl hsm;have xl:m.p < (w.alloc (.cells #[.pointer (some ⟨m'.p,0,none⟩)] 133)).heap.size:=Nat.lt_of_lt_of_le xl BB.o.size;have zl:m'.p < (w.alloc (.cells #[.pointer (some ⟨m'.p,0,none⟩)] 133)).heap.size:=Nat.lt_of_lt_of_le zl BB.o.size;have hsl:n+1 < (w.alloc (.cells #[.pointer (some ⟨m'.p,0,none⟩)] 133)).heap.size:=Nat.lt_of_lt_of_le hsl BB.o.size;rw[hta,htb];clear s1 s2 r1 r2 r2' q1 q2 h hr g1 g2 h1 h2 hta htb hd rb hal han;go_enter Tryz.func120,Tryz.ntmps120;go_wp2_with fail;generalize w.alloc (.cells #[.pointer (some ⟨m'.p,0,none⟩)] 133)=W at *;cases ta with
 |false=>
  refine qD (W.heap.size) [0,0,0,1,0,1,0,0,1,0,0,1,0,0,0,1,1,0,0,1,0,2,0,0] (.fin [0,1,2,3,4,5,6,7,8,9,10,11,12,13,14,15,16,17,18,19,20,21,22,23]) (by kernel_rfl) ?_;simp only[xC,qJ,qu,sD,sE,sF,sG,Option.bind_some]
  repeat first|(refine qq fun K hK=>?_;go_simp;refine hK _ _ ?_;clear hK K)|(apply qx;(intro w2 hw2;have hk1:=hw2.cell;have hk3:=hw2.1;clear hw2;go_simp;with_reducible rfl);simp only[Act.put,sA,sB,sC])|refine qz rfl rfl ?_|(refine qE rfl rfl fun K hK=>?_;simp only[Act.put,sA,sB,sC];refine hK _ _ ?_;clear hK K)|(refine qQ rfl fun K hK=>?_;simp only[Act.put,sA,sB,sC];refine hK _ _ ?_;clear hK K)|refine qm ?_
  go_wp2;go_ret;exact⟨rfl,BB.o.drew⟩
 |true=>
  cases tb with
  |false=>
   refine qD (W.heap.size) [0,0,0,1,0,1,0,0,1,0,0,1,0,0,0,1,1,0,0,1,0,2,0,0] (.fin [0,1,2,3,4,5,6,7,8,9,10,11,12,13,14,15,16,17,18,19,20,21,22,23]) (by kernel_rfl) ?_;simp only[xC,qJ,qu,sD,sE,sF,sG,Option.bind_some]
   repeat first|(refine qq fun K hK=>?_;go_simp;refine hK _ _ ?_;clear hK K)|(apply qx;(intro w2 hw2;have hk1:=hw2.cell;have hk3:=hw2.1;clear hw2;go_simp;with_reducible rfl);simp only[Act.put,sA,sB,sC])|refine qz rfl rfl ?_|(refine qE rfl rfl fun K hK=>?_;simp only[Act.put,sA,sB,sC];refine hK _ _ ?_;clear hK K)|(refine qQ rfl fun K hK=>?_;simp only[Act.put,sA,sB,sC];refine hK _ _ ?_;clear hK K)|refine qm ?_
   go_wp2;go_ret;exact⟨rfl,BB.o.drew⟩
  |true=>
   refine qD (W.heap.size) [0,0,0,1,0,1,0,0,1,0,0,1,0,0,0,1,1,0,0,1,0,2,0,0] (.fin [0,1,2,3,4,5,6,7,8,9,10,11,12,13,14,15,16,17,18,19,20,21,22,23]) (by kernel_rfl) ?_;simp only[xC,qJ,qu,sD,sE,sF,sG,Option.bind_some]
   repeat first|(refine qq fun K hK=>?_;go_simp;refine hK _ _ ?_;clear hK K)|(apply qx;(intro w2 hw2;have hk1:=hw2.cell;have hk3:=hw2.1;clear hw2;go_simp;with_reducible rfl);simp only[Act.put,sA,sB,sC])|refine qz rfl rfl ?_|(refine qE rfl rfl fun K hK=>?_;simp only[Act.put,sA,sB,sC];refine hK _ _ ?_;clear hK K)
   refine qF (fun K hK=>?_);go_simp;refine(SC.o).mono ?_;rintro e X2 ⟨rfl,hb⟩;refine hK _ _ ?_;clear hK K;have BX:=qd (BB.o.trans ((show Below W.heap.size W X2 from(Below.refl _ W).drew.trans hb).mono BB.o.size));clear hb
   repeat first|(refine qq fun K hK=>?_;go_simp;refine hK _ _ ?_;clear hK K)|refine qm ?_
   go_wp2;go_ret;exact⟨rfl,BX.o⟩
theorem r_anti (h:xN w lo hi pW bB lev ov vv ms lv A T) (hd:vB A) (hr:yA w pW n) (h1:ms[i]?=some m) (h2:ms[j]?=some m') (g1:A[i]?=some a) (g2:A[j]?=some a'):
  Calls Tryz.prog 122 #[.pointer (some ⟨m.p,0,none⟩),.pointer (some ⟨m'.p,0,none⟩),.pointer (some ⟨n+1,0,none⟩)] w fun e w'=>e=.returned (.bool (VQ (T.getD j false) a a'))/\Below w.heap.size w w':=by
 have q1:=h.mv i m a h1 g1;have q2:=h.mv j m' a' h2 g2;have r1:=q1.row;have r2:=q2.row;have hsm:=qa hr.same 0;have hsl:=qe hr.same;have han:=qa hr.any_ 0;have hal:=qe hr.any_;simp at hsm han;have s1:=qa r1;have s2:=qa r2;have x7:=s1 7;have x8:=s1 8;have x10:=s1 10;have z7:=s2 7;have z8:=s2 8;have z10:=s2 10;simp at x7 x8 x10 z7 z8 z10;rw[←List.getD_eq_getElem?_getD] at x10 z10;obtain⟨ta,hta⟩:∃ta,T.getD i false=ta:=⟨_,rfl⟩
 obtain⟨tb,htb⟩:∃tb,T.getD j false=tb:=⟨_,rfl⟩
 rw[hta] at x10;rw[htb] at z10;have xl:=qe r1;have zl:=qe r2;have R1:=qd q1.rd;have V1:=qd q1.wr;have R2:=qd q2.rd;have V2:=qd q2.wr;have D1:=qd (hd a (List.mem_of_getElem? g1));have D2:=qd (hd a' (List.mem_of_getElem? g2));have r2':=qd r2;have BB:=qd (show Below w.heap.size w (w.alloc (.cells #[.pointer (some ⟨m'.p,0,none⟩)] 133)) from(Below.refl _ w).alloc (Nat.le_refl _) _);have rb:=qs w (.cells #[.pointer (some ⟨m'.p,0,none⟩)] 133);have yb:(w.alloc (.cells #[.pointer (some ⟨m'.p,0,none⟩)] 133)).cell? ⟨w.heap.size,0,none⟩=some (.pointer (some ⟨m'.p,0,none⟩)):=qa rb 0;have ybl:=qe rb;have PC:=qd (Ns (w:=(w.alloc (.cells #[.pointer (some ⟨m'.p,0,none⟩)] 133)).drew) rb (qh r2 BB.o.drew (qe r2)) (qp BB.o.drew (qe r2) z8) (V2.o.below BB.o.drew V2.o.lt) D2.o.2);have SC:=qd (Km (w:=(w.alloc (.cells #[.pointer (some ⟨m'.p,0,none⟩)] 133)).drew) (R1.o.below BB.o R1.o.lt).drew (R2.o.below BB.o R2.o.lt).drew D1.o.1 (YL a) D2.o.1 (enters_of Tryz.func123 (by kernel_rfl) rfl) PC.o);have x7:=qp BB.o xl x7;have x8:=qp BB.o xl x8;have x10:=qp BB.o xl x10;have z7:=qp BB.o zl z7;have z8:=qp BB.o zl z8;have z10:=qp BB.o zl z10;have hsm:=qp BB.o hsl hsm;have xl:m.p < (w.alloc (.cells #[.pointer (some ⟨m'.p,0,none⟩)] 133)).heap.size:=Nat.lt_of_lt_of_le xl BB.o.size;have zl:m'.p < (w.alloc (.cells #[.pointer (some ⟨m'.p,0,none⟩)] 133)).heap.size:=Nat.lt_of_lt_of_le zl BB.o.size;have hsl:n+1 < (w.alloc (.cells #[.pointer (some ⟨m'.p,0,none⟩)] 133)).heap.size:=Nat.lt_of_lt_of_le hsl BB.o.size;rw[htb];clear s1 s2 r1 r2 r2' q1 q2 h hr g1 g2 h1 h2 hta htb hd rb hal han;go_enter Tryz.func122,Tryz.ntmps122;go_wp2_with fail;generalize w.alloc (.cells #[.pointer (some ⟨m'.p,0,none⟩)] 133)=W at *;cases tb with
 |false=>
  refine qD (W.heap.size) [1,0,0,1,0,1,0,0,0,1,1,0,0,1,0,2,0,0] (.fin [0,1,2,3,4,5,6,7,8,9,10,11,12,13,14,15,16,17]) (by kernel_rfl) ?_;simp only[xC,qJ,qu,sD,sE,sF,sG,Option.bind_some]
  repeat first|(refine qq fun K hK=>?_;go_simp;refine hK _ _ ?_;clear hK K)|(apply qx;(intro w2 hw2;have hk1:=hw2.cell;have hk3:=hw2.1;clear hw2;go_simp;with_reducible rfl);simp only[Act.put,sA,sB,sC])|refine qz rfl rfl ?_|(refine qE rfl rfl fun K hK=>?_;simp only[Act.put,sA,sB,sC];refine hK _ _ ?_;clear hK K)|(refine qQ rfl fun K hK=>?_;simp only[Act.put,sA,sB,sC];refine hK _ _ ?_;clear hK K)|refine qm ?_
  go_wp2;go_ret;exact⟨rfl,BB.o.drew⟩
 |true=>
  refine qD (W.heap.size) [1,0,0,1,0,1,0,0,0,1,1,0,0,1,0,2,0,0] (.fin [0,1,2,3,4,5,6,7,8,9,10,11,12,13,14,15,16,17]) (by kernel_rfl) ?_;simp only[xC,qJ,qu,sD,sE,sF,sG,Option.bind_some]
  repeat first|(refine qq fun K hK=>?_;go_simp;refine hK _ _ ?_;clear hK K)|(apply qx;(intro w2 hw2;have hk1:=hw2.cell;have hk3:=hw2.1;clear hw2;go_simp;with_reducible rfl);simp only[Act.put,sA,sB,sC])|refine qz rfl rfl ?_|(refine qE rfl rfl fun K hK=>?_;simp only[Act.put,sA,sB,sC];refine hK _ _ ?_;clear hK K)
  refine qF (fun K hK=>?_);go_simp;refine(SC.o).mono ?_;rintro e X2 ⟨rfl,hb⟩;refine hK _ _ ?_;clear hK K;have BX:=qd (BB.o.trans ((show Below W.heap.size W X2 from(Below.refl _ W).drew.trans hb).mono BB.o.size));clear hb
  repeat first|(refine qq fun K hK=>?_;go_simp;refine hK _ _ ?_;clear hK K)|refine qm ?_
  go_wp2;go_ret;exact⟨rfl,BX.o⟩
end
end
