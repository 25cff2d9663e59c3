/- Parts of the proof. Conditions: those of each theorem, as typed. -/
import Derived.Shelf.SlIter.Nil
import Derived.Shelf.SlIterI.Nil
import Derived.Shelf.SortM.Plain
import Derived.Shelf.SortM.SortNone
import Derived.Ground.GgzProg
import Derived.Ground.SlgmProg
import Derived.Test.YtcpfbphcldocpaaGreatDoorProg
import Derived.Test.YtcpfbphcldocpaaGreatDoorQW12
import Derived.Test.YtcpfbphcldocpaaGreatDoorQW03
import Derived.Test.YtcpfbphcldocpaaGreatDoorQW10
import Derived.WalkSpells
import Derived.Test.YtcpfbphcldocpaaGreatDoorQW01
import Derived.Test.YtcpfbphcldocpaaGreatDoorQW11
set_option linter.unusedVariables false
set_option linter.unusedSimpArgs false
set_option linter.unusedSectionVars false
set_option maxRecDepth 100000
set_option maxHeartbeats 4000000
namespace Go.Proofs.YtcpfbphcldocpaaGreatDoor
open Go.Maps Go.RowKit Go.Shelf Go.Sort
def XB:Go.Shelf.Ren:=⟨fun|7=>158|10=>200|n=>n,fun|23=>103|26=>3|3=>102|28=>100|0=>0|27=>99|33=>165|4=>4|n=>n,fun|n=>n⟩
theorem Ni:SlLaysZI.n7 Tryz.prog XB:={
 mixed:=by kernel_rfl
 f7:=⟨Tryz.f158.name,by decide,Tryz.func158.trans (congrArg some (by kernel_rfl))⟩
 f10:=⟨Tryz.f200.name,by decide,Tryz.func200.trans (congrArg some (by kernel_rfl))⟩
 t0:=Tryz.underlying0
 a0:=Tryz.isAgg0
 z0:=Tryz.sizeOf0
 v0:=Tryz.zeroValue0
 t4:=Tryz.underlying4
 a4:=Tryz.isAgg4
 z4:=Tryz.sizeOf4
 v4:=Tryz.zeroValue4
 t23:=Tryz.underlying103
 a23:=Tryz.isAgg103
 z23:=Tryz.sizeOf103
 v23:=Tryz.zeroValue103
 t26:=Tryz.underlying3
 a26:=Tryz.isAgg3
 z26:=Tryz.sizeOf3
 v26:=Tryz.zeroValue3
 t27:=Tryz.underlying99
 a27:=Tryz.isAgg99
 z27:=Tryz.sizeOf99
 v27:=Tryz.zeroValue99
 t28:=Tryz.underlying100
 a28:=Tryz.isAgg100
 z28:=Tryz.sizeOf100
 v28:=Tryz.zeroValue100
 t33:=Tryz.underlying165
 a33:=Tryz.isAgg165
 z33:=Tryz.sizeOf165
 v33:=Tryz.zeroValue165}
def Jy:Go.Shelf.Ren:=⟨fun|7=>157|10=>199|n=>n,fun|23=>104|26=>3|3=>103|28=>100|0=>0|27=>99|33=>165|4=>4|n=>n,fun|n=>n⟩
theorem qce:SlLaysZI.n7 Tryz.prog Jy:={
 mixed:=by kernel_rfl
 f7:=⟨Tryz.f157.name,by decide,Tryz.func157.trans (congrArg some (by kernel_rfl))⟩
 f10:=⟨Tryz.f199.name,by decide,Tryz.func199.trans (congrArg some (by kernel_rfl))⟩
 t0:=Tryz.underlying0
 a0:=Tryz.isAgg0
 z0:=Tryz.sizeOf0
 v0:=Tryz.zeroValue0
 t4:=Tryz.underlying4
 a4:=Tryz.isAgg4
 z4:=Tryz.sizeOf4
 v4:=Tryz.zeroValue4
 t23:=Tryz.underlying104
 a23:=Tryz.isAgg104
 z23:=Tryz.sizeOf104
 v23:=Tryz.zeroValue104
 t26:=Tryz.underlying3
 a26:=Tryz.isAgg3
 z26:=Tryz.sizeOf3
 v26:=Tryz.zeroValue3
 t27:=Tryz.underlying99
 a27:=Tryz.isAgg99
 z27:=Tryz.sizeOf99
 v27:=Tryz.zeroValue99
 t28:=Tryz.underlying100
 a28:=Tryz.isAgg100
 z28:=Tryz.sizeOf100
 v28:=Tryz.zeroValue100
 t33:=Tryz.underlying165
 a33:=Tryz.isAgg165
 z33:=Tryz.sizeOf165
 v33:=Tryz.zeroValue165}
def XP:Go.Shelf.Ren:=⟨fun|6=>37|8=>74|9=>75|11=>124|13=>126|12=>125|23=>168|24=>169|14=>159|15=>160|16=>161|17=>162|18=>163|19=>164|20=>165|21=>166|22=>167|25=>201|26=>202|27=>203|28=>204|29=>205|30=>206|31=>228|n=>n,fun|26=>3|28=>100|24=>30|0=>0|3=>3|37=>245|48=>296|50=>298|4=>4|40=>290|39=>289|45=>45|5=>5|9=>9|51=>319|55=>262|57=>339|58=>272|33=>165|n=>n,fun|n=>n⟩
theorem Jb:SlLaysZI.n6 Tryz.prog XP:={
 mixed:=by kernel_rfl
 f6:=⟨Tryz.f37.name,by decide,Tryz.func37.trans (congrArg some (by kernel_rfl))⟩
 f8:=⟨Tryz.f74.name,by decide,Tryz.func74.trans (congrArg some (by kernel_rfl))⟩
 f11:=⟨Tryz.f124.name,by decide,Tryz.func124.trans (congrArg some (by kernel_rfl))⟩
 t0:=Tryz.underlying0
 a0:=Tryz.isAgg0
 z0:=Tryz.sizeOf0
 v0:=Tryz.zeroValue0
 t24:=Tryz.underlying30
 a24:=Tryz.isAgg30
 z24:=Tryz.sizeOf30
 v24:=Tryz.zeroValue30
 t26:=Tryz.underlying3
 a26:=Tryz.isAgg3
 z26:=Tryz.sizeOf3
 v26:=Tryz.zeroValue3
 t28:=Tryz.underlying100
 a28:=Tryz.isAgg100
 z28:=Tryz.sizeOf100
 v28:=Tryz.zeroValue100
 i26:=by kernel_rfl}
def Rp:Go.Shelf.Ren:=⟨fun|5=>75|8=>126|7=>125|19=>168|20=>169|10=>159|11=>160|12=>161|13=>162|14=>163|15=>164|16=>165|17=>166|18=>167|30=>201|31=>202|32=>203|33=>204|34=>205|35=>206|40=>228|n=>n,fun|23=>30|25=>3|3=>3|32=>245|22=>30|0=>0|44=>296|46=>298|4=>4|36=>290|35=>289|41=>45|5=>5|9=>9|53=>319|57=>262|63=>339|64=>272|n=>n,fun|n=>n⟩
theorem qbm:SlLaysM.n5 Tryz.prog Rp:={
 mixed:=by kernel_rfl
 f5:=⟨Tryz.f75.name,by decide,Tryz.func75.trans (congrArg some (by kernel_rfl))⟩
 f7:=⟨Tryz.f125.name,by decide,Tryz.func125.trans (congrArg some (by kernel_rfl))⟩
 f8:=Tryz.func126.trans (congrArg some (by kernel_rfl))
 f10:=⟨Tryz.f159.name,by decide,Tryz.func159.trans (congrArg some (by kernel_rfl))⟩
 f11:=⟨Tryz.f160.name,by decide,Tryz.func160.trans (congrArg some (by kernel_rfl))⟩
 f12:=⟨Tryz.f161.name,by decide,Tryz.func161.trans (congrArg some (by kernel_rfl))⟩
 f13:=⟨Tryz.f162.name,by decide,Tryz.func162.trans (congrArg some (by kernel_rfl))⟩
 f14:=⟨Tryz.f163.name,by decide,Tryz.func163.trans (congrArg some (by kernel_rfl))⟩
 f15:=⟨Tryz.f164.name,by decide,Tryz.func164.trans (congrArg some (by kernel_rfl))⟩
 f16:=⟨Tryz.f165.name,by decide,Tryz.func165.trans (congrArg some (by kernel_rfl))⟩
 f17:=⟨Tryz.f166.name,by decide,Tryz.func166.trans (congrArg some (by kernel_rfl))⟩
 f18:=⟨Tryz.f167.name,by decide,Tryz.func167.trans (congrArg some (by kernel_rfl))⟩
 f19:=Tryz.func168.trans (congrArg some (by kernel_rfl))
 f20:=Tryz.func169.trans (congrArg some (by kernel_rfl))
 f30:=⟨Tryz.f201.name,by decide,Tryz.func201.trans (congrArg some (by kernel_rfl))⟩
 f31:=Tryz.func202.trans (congrArg some (by kernel_rfl))
 f32:=Tryz.func203.trans (congrArg some (by kernel_rfl))
 f33:=⟨Tryz.f204.name,by decide,Tryz.func204.trans (congrArg some (by kernel_rfl))⟩
 f34:=⟨Tryz.f205.name,by decide,Tryz.func205.trans (congrArg some (by kernel_rfl))⟩
 f35:=⟨Tryz.f206.name,by decide,Tryz.func206.trans (congrArg some (by kernel_rfl))⟩
 f40:=⟨Tryz.f228.name,by decide,Tryz.func228.trans (congrArg some (by kernel_rfl))⟩
 t0:=Tryz.underlying0
 a0:=Tryz.isAgg0
 z0:=Tryz.sizeOf0
 v0:=Tryz.zeroValue0
 t3:=Tryz.underlying3
 a3:=Tryz.isAgg3
 z3:=Tryz.sizeOf3
 v3:=Tryz.zeroValue3
 t4:=Tryz.underlying4
 a4:=Tryz.isAgg4
 z4:=Tryz.sizeOf4
 v4:=Tryz.zeroValue4
 t5:=Tryz.underlying5
 a5:=Tryz.isAgg5
 z5:=Tryz.sizeOf5
 v5:=Tryz.zeroValue5
 t9:=Tryz.underlying9
 a9:=Tryz.isAgg9
 z9:=Tryz.sizeOf9
 v9:=Tryz.zeroValue9
 t22:=Tryz.underlying30
 a22:=Tryz.isAgg30
 z22:=Tryz.sizeOf30
 v22:=Tryz.zeroValue30
 t23:=Tryz.underlying30
 a23:=Tryz.isAgg30
 z23:=Tryz.sizeOf30
 v23:=Tryz.zeroValue30
 t25:=Tryz.underlying3
 a25:=Tryz.isAgg3
 z25:=Tryz.sizeOf3
 v25:=Tryz.zeroValue3
 t32:=Tryz.underlying245
 a32:=Tryz.isAgg245
 z32:=Tryz.sizeOf245
 v32:=Tryz.zeroValue245
 t35:=Tryz.underlying289
 a35:=Tryz.isAgg289
 z35:=Tryz.sizeOf289
 v35:=Tryz.zeroValue289
 t36:=Tryz.underlying290
 a36:=Tryz.isAgg290
 z36:=Tryz.sizeOf290
 v36:=Tryz.zeroValue290
 t41:=Tryz.underlying45
 a41:=Tryz.isAgg45
 z41:=Tryz.sizeOf45
 v41:=Tryz.zeroValue45
 t44:=Tryz.underlying296
 a44:=Tryz.isAgg296
 z44:=Tryz.sizeOf296
 v44:=Tryz.zeroValue296
 t46:=Tryz.underlying298
 a46:=Tryz.isAgg298
 z46:=Tryz.sizeOf298
 v46:=Tryz.zeroValue298
 t53:=Tryz.underlying319
 a53:=Tryz.isAgg319
 z53:=Tryz.sizeOf319
 v53:=Tryz.zeroValue319
 t57:=Tryz.underlying262
 a57:=Tryz.isAgg262
 z57:=Tryz.sizeOf262
 v57:=Tryz.zeroValue262
 t63:=Tryz.underlying339
 a63:=Tryz.isAgg339
 z63:=Tryz.sizeOf339
 v63:=Tryz.zeroValue339
 t64:=Tryz.underlying272
 a64:=Tryz.isAgg272
 z64:=Tryz.sizeOf272
 v64:=Tryz.zeroValue272}
theorem VI (m:Nat):AnyZI.SortsIn Tryz.prog XP Fence.wide m:=
 ⟨fun blk off cap ss W hH hblk hsz=>callsIn_wide.2 (AnyM.slices_Sort_int qbm blk off cap ss W hH hblk hsz),
  fun p cap W=>callsIn_wide.2 (AnyM.slices_Sort_int_none qbm p cap W)⟩
theorem qdG {l:List Int} (h:zE l):l.Pairwise fun a b=>leI a b=true:=h.imp fun {a b} h=>by simp[leI];omega
theorem Xn {l ss:List Int} (hp:ss.Perm l) (h:zE l):ss.mergeSort leI=l:=by
 rw[mergeSort_of_perm_i hp];exact List.mergeSort_of_pairwise (qdG h)
theorem Yh {ε:Type} (ed:ε->DU) (M:List (Int×ε)):intKeys (vG (.int .i64) ed M)=M.map (·.1):=by
 simp[intKeys,vG,Go.intOf]
theorem XA {w:World} {B n:Nat} {v:Value} {l:List Int} (h:w.ownsRow B 3 1 v n (l.map (.int .i64))) (hn:n=l.length):xJ w B v l:=by
 subst hn;show w.ownsRow B _ 1 v l.length (l.flatMap zK);rw[ux];exact h
theorem zm.keys {ε:Type} {M:List (Int×ε)} (h:zm M):zE (M.map (·.1)):=by
 unfold zE;rw[List.pairwise_map];exact h
theorem qff (mb:Option Nat) (W:World):Calls Tryz.prog 158 #[.map mb] W fun e w'=>e=.returned (.func (.func 200) #[] #[.pointer (some ⟨W.heap.size,0,none⟩)])/\w'=W.alloc (.cells #[.map mb] 103):=
 (callsIn_wide (n:=5)).1 (AnyZI.keys_in Ni Fence.wide 5 trivial rfl mb W)
theorem qdI {ε:Type} {R:RdU} {ed:ε->DU} {M:List (Int×ε)} {w:World} {b n:Nat} (h:qO Tryz.prog 3 R (.int .i64) ed w b n M) (hs:zm M) (hn:n<=1000000):
  Calls Tryz.prog 37 #[.func (.func 200) #[] #[.pointer (some ⟨w.heap.size,0,none⟩)]] (w.alloc (.cells #[.map (some b)] 103)) fun e w'=>∃v,e=.returned v/\xJ w' (w.heap.size+1) v (M.map (·.1))/\
   Below (w.heap.size+1) (w.alloc (.cells #[.map (some b)] 103)) w':=by
 have hlen:=h.length_le;have hbl:=h.lt;have hseq:SeqGives Fence.wide 2 Tryz.prog 200 #[.pointer (some ⟨w.heap.size,0,none⟩)] encZ (fun ss=>ss.Perm (intKeys (vG (.int .i64) ed M))) (Maps.size (vG (.int .i64) ed M)) (w.alloc (.cells #[.map (some b)] 103)):=
  AnyZI.keys_gives (ρ:=XB) {Ni with} Fence.wide _ trivial rfl (by omega) w.heap.size b n _ _ (by simp) (by simp) (by
   obtain⟨es,clock,hb,Ft,hs,hD⟩:=h;exact⟨es,clock,(Below.heap_alloc _ _ b hbl).trans hb,Ft,hs,hD⟩)
 refine((callsIn_wide (n:=5)).1 (AnyZI.sorted_in Jb Fence.wide 5 trivial trivial trivial trivial rfl (by omega) (VI _) (enters_of Tryz.func75 (by kernel_rfl) rfl) 200 #[.pointer (some ⟨w.heap.size,0,none⟩)] trivial (enters_of Tryz.func200 (by kernel_rfl) rfl) _ _ (by rw[zT];unfold maxLen;omega) (by rw[zT];omega) _ hseq)).mono ?_;rintro e w' ⟨v,ss,rfl,hp,hrow,-,hb⟩;rw[Yh] at hp;have hm:=Xn hp hs.keys;rw[show (ss.mergeSort fun x y=>decide (x<=y))=M.map (·.1) from hm] at hrow;rw[World.size_alloc] at hrow hb;exact⟨v,rfl,XA hrow (by have:=hp.length_eq;simpa using this),hb⟩
theorem WS (w:World):
  Calls Tryz.prog 37 #[.func (.func 200) #[] #[.pointer (some ⟨w.heap.size,0,none⟩)]] (w.alloc (.cells #[.map none] 103)) fun e w'=>∃v,e=.returned v/\xJ w' (w.heap.size+1) v []/\
   Below (w.heap.size+1) (w.alloc (.cells #[.map none] 103)) w':=by
 have hseq:SeqGives Fence.wide 2 Tryz.prog 200 #[.pointer (some ⟨w.heap.size,0,none⟩)] encZ (fun ss:List Int=>ss=[]) 0 (w.alloc (.cells #[.map none] 103)):=
  AnyZI.keys_gives_nil (ρ:=XB) {Ni with} Fence.wide _ trivial rfl w.heap.size _ (by simp) (by simp)
 refine((callsIn_wide (n:=5)).1 (AnyZI.sorted_in Jb Fence.wide 5 trivial trivial trivial trivial rfl (by omega) (VI _) (enters_of Tryz.func75 (by kernel_rfl) rfl) 200 #[.pointer (some ⟨w.heap.size,0,none⟩)] trivial (enters_of Tryz.func200 (by kernel_rfl) rfl) _ 0 (Nat.zero_le _) (by omega) _ hseq)).mono ?_;rintro e w' ⟨v,ss,rfl,rfl,hrow,-,hb⟩;rw[World.size_alloc,List.mergeSort_nil] at hrow;rw[World.size_alloc] at hb;exact⟨v,rfl,XA hrow rfl,hb⟩
theorem qgU (mb:Option Nat) (W:World):Calls Tryz.prog 157 #[.map mb] W fun e w'=>e=.returned (.func (.func 199) #[] #[.pointer (some ⟨W.heap.size,0,none⟩)])/\w'=W.alloc (.cells #[.map mb] 104):=
 (callsIn_wide (n:=5)).1 (AnyZI.keys_in qce Fence.wide 5 trivial rfl mb W)
theorem qdJ {ε:Type} {R:RdU} {ed:ε->DU} {M:List (Int×ε)} {w:World} {b n:Nat} (h:qO Tryz.prog 3 R (.int .i64) ed w b n M) (hs:zm M) (hn:n<=1000000):
  Calls Tryz.prog 37 #[.func (.func 199) #[] #[.pointer (some ⟨w.heap.size,0,none⟩)]] (w.alloc (.cells #[.map (some b)] 104)) fun e w'=>∃v,e=.returned v/\xJ w' (w.heap.size+1) v (M.map (·.1))/\
   Below (w.heap.size+1) (w.alloc (.cells #[.map (some b)] 104)) w':=by
 have hlen:=h.length_le;have hbl:=h.lt;have hseq:SeqGives Fence.wide 2 Tryz.prog 199 #[.pointer (some ⟨w.heap.size,0,none⟩)] encZ (fun ss=>ss.Perm (intKeys (vG (.int .i64) ed M))) (Maps.size (vG (.int .i64) ed M)) (w.alloc (.cells #[.map (some b)] 104)):=
  AnyZI.keys_gives (ρ:=Jy) {qce with} Fence.wide _ trivial rfl (by omega) w.heap.size b n _ _ (by simp) (by simp) (by
   obtain⟨es,clock,hb,Ft,hs,hD⟩:=h;exact⟨es,clock,(Below.heap_alloc _ _ b hbl).trans hb,Ft,hs,hD⟩)
 refine((callsIn_wide (n:=5)).1 (AnyZI.sorted_in Jb Fence.wide 5 trivial trivial trivial trivial rfl (by omega) (VI _) (enters_of Tryz.func75 (by kernel_rfl) rfl) 199 #[.pointer (some ⟨w.heap.size,0,none⟩)] trivial (enters_of Tryz.func199 (by kernel_rfl) rfl) _ _ (by rw[zT];unfold maxLen;omega) (by rw[zT];omega) _ hseq)).mono ?_;rintro e w' ⟨v,ss,rfl,hp,hrow,-,hb⟩;rw[Yh] at hp;have hm:=Xn hp hs.keys;rw[show (ss.mergeSort fun x y=>decide (x<=y))=M.map (·.1) from hm] at hrow;rw[World.size_alloc] at hrow hb;exact⟨v,rfl,XA hrow (by have:=hp.length_eq;simpa using this),hb⟩
def Vk (P:List Pr) (out:List Int) (x:Int):Bool:=P.all fun q=>q.2 !=x||out.contains q.1
theorem Vj {P:List Pr} {out:List Int} {x:Int}:Vk P out x=true↔∀a,(a,x) ∈ P->a ∈ out:=by
 unfold Vk;simp only[List.all_eq_true,Bool.or_eq_true,bne_iff_ne,List.contains_eq_mem,decide_eq_true_eq];constructor
 ·intro h a ha
  rcases h _ ha with h|h
  ·exact absurd rfl h
  ·exact h
 ·rintro h ⟨a,y⟩ hq
  by_cases e:y=x
  ·subst e;exact .inr (h a hq)
  ·exact .inl e
def okB (P:List Pr) (out:List Int) (x:Int):Bool:=!out.contains x&&Vk P out x
theorem Ma {P:List Pr} {out:List Int} {x:Int}:okB P out x=true↔x ∉ out/\∀a,(a,x) ∈ P->a ∈ out:=by
 unfold okB;rw[Bool.and_eq_true,Vj];simp
def Qb (P:List Pr) (N out:List Int):Option Int:=N.find? (okB P out)
def yX (P:List Pr) (N:List Int):Nat->List Int->Option (List Int)
 |0,out=>some out
 |m+1,out=>match Qb P N out with
  |none=>none
  |some x=>yX P N m (out++[x])
def jv (P:List Pr) (N:List Int):Option (List Int):=yX P N N.length []
theorem WM {P:List Pr} {N out:List Int} {m:Nat} (h:Qb P N out=none):yX P N (m+1) out=none:=by simp[yX,h]
theorem WL {P:List Pr} {N out:List Int} {m:Nat} {x:Int} (h:Qb P N out=some x):yX P N (m+1) out=yX P N m (out++[x]):=by simp[yX,h]
def yi (N out:List Int):List Int:=N.filter fun x=>!out.contains x
theorem zJ {N out:List Int} {x:Int}:x ∈ yi N out↔x ∈ N/\x ∉ out:=by unfold yi;simp
theorem qbY (N:List Int):yi N []=N:=by unfold yi;simp
theorem qam {P:List Pr} {N out:List Int}:Qb P N out=(yi N out).find? (Vk P out):=by
 unfold Qb yi;rw[List.find?_filter];congr 1;funext a;unfold okB;cases (!out.contains a) <;> cases Vk P out a <;> rfl
theorem WP {N:List Int} (h:zE N) (out:List Int):zE (yi N out):=List.Pairwise.filter _ h
theorem Jv {N out:List Int} {i:Nat} {x:Int} (h:zE N) (hx:(yi N out)[i]?=some x):(yi N out).eraseIdx i=yi N (out++[x]):=by
 have hs:=WP h out;refine zE.ext (List.Pairwise.sublist (List.eraseIdx_sublist _ _) hs) (WP h _) fun y=>?_;rw[zJ,List.mem_append,List.mem_singleton];have hi:=(List.getElem?_eq_some_iff.1 hx).1;have hxi:(yi N out)[i]=x:=(List.getElem?_eq_some_iff.1 hx).2;rw[List.mem_eraseIdx_iff_getElem];constructor
 ·rintro ⟨j,hj,hne,rfl⟩
  have hm:=zJ.1 (List.getElem_mem hj);refine⟨hm.1,?_⟩;rintro(h1|h1)
  ·exact hm.2 h1
  ·have hnd:=(zE.nodup hs)
   exact hne ((List.getElem_inj hnd).1 (h1.trans hxi.symm))
 ·rintro ⟨h1,h2⟩
  have hm:y ∈ yi N out:=zJ.2 ⟨h1,fun h=>h2 (.inl h)⟩;obtain⟨j,hj,e⟩:=List.getElem_of_mem hm;refine⟨j,hj,?_,e⟩;rintro rfl;exact h2 (.inr (by rw[←e,←hxi]))
theorem Ko {N out:List Int} {i:Nat} {x:Int} (h:zE N) (hx:(yi N out)[i]?=some x):(yi N (out++[x])).length+1=(yi N out).length:=by
 rw[←Jv h hx];have hi:=(List.getElem?_eq_some_iff.1 hx).1;rw[List.length_eraseIdx,if_pos hi];omega
theorem qeu {l:List Int} {p:Int->Bool} {i:Nat} {x:Int} (hx:l[i]?=some x) (hp:p x=true) (hn:∀y ∈ l.take i,p y=false):l.find? p=some x:=by
 have h:l=l.take i++x::l.drop (i+1):=by
  have hi:=(List.getElem?_eq_some_iff.1 hx).1;have:=(List.getElem?_eq_some_iff.1 hx).2;rw[←this,←List.drop_eq_getElem_cons hi,List.take_append_drop]
 rw[h,List.find?_append,List.find?_eq_none.2 fun y hy=>by rw[hn y hy];simp];simp[hp]
theorem qaA {l:List Int} {p:Int->Bool} (hn:∀y ∈ l,p y=false):l.find? p=none:=List.find?_eq_none.2 fun y hy=>by rw[hn y hy];simp
def xB (P:List Pr) (p:Int->Bool) (x:Int):Nat:=(P.filter fun q=>q.2==x&&p q.1).length
theorem Nk (P:List Pr) (p:Int->Bool) (x:Int) (h:∀a,p a=false):xB P p x=0:=by
 unfold xB;rw[List.filter_eq_nil_iff.2 fun q _=>by simp[h q.1],List.length_nil]
theorem qck (P:List Pr) (p:Int->Bool) (x:Int):xB P p x<=P.length:=List.length_filter_le _ _
theorem Kv {P:List Pr} {p p':Int->Bool} {x:Int} (h:∀a,(a,x) ∈ P->p a=p' a):xB P p x=xB P p' x:=by
 unfold xB;congr 1;refine List.filter_congr fun q hq=>?_;by_cases e:q.2=x
 ·rw [h q.1 (by rw[←e];exact hq)]
 ·have:(q.2==x)=false:=by simpa using e
  simp[this]
theorem JG {P:List Pr} {p:Int->Bool} {x:Int}:xB P p x=0↔∀a,(a,x) ∈ P->p a=false:=by
 unfold xB;rw[List.length_eq_zero_iff,List.filter_eq_nil_iff];constructor
 ·intro h a ha
  have:=h _ ha;simpa using this
 ·rintro h ⟨a,y⟩ hq
  simp only[Bool.and_eq_true,beq_iff_eq,not_and];rintro rfl;rw[h a hq];simp
theorem Vh {P:List Pr} (hP:P.Nodup) {p p':Int->Bool} (a x:Int) (ha:p a=false) (h:∀z,p' z=(p z||z==a)):xB P p' x=xB P p x+if (a,x) ∈ P then 1 else 0:=by
 induction P with
 |nil=>simp[xB]
 |cons q P ih=>
  obtain⟨hq,hP⟩:=List.nodup_cons.1 hP;have ih:=ih hP;have e:∀p:Int->Bool,xB (q::P) p x=(if (q.2==x&&p q.1)=true then 1 else 0)+xB P p x:=fun p=>by
   unfold xB;cases hc:(q.2==x&&p q.1) <;> simp[List.filter_cons,hc];omega
  rw[e,e,ih,h];obtain⟨q1,q2⟩:=q;by_cases e1:q2=x
  ·subst e1
   by_cases e2:q1=a
   ·subst e2
    simp only[List.mem_cons,true_or,if_true,ha,beq_self_eq_true,Bool.and_false,Bool.false_or,Bool.and_true];rw[if_neg hq];simp;omega
   ·have e3:(q1==a)=false:=by simpa using e2
    have e4:((a,q2) ∈ (q1,q2)::P)↔(a,q2) ∈ P:=by simp[Ne.symm e2]
    simp only[e3,Bool.or_false,e4];omega
  ·have e3:(q2==x)=false:=by simpa using e1
   have e4:((a,x) ∈ (q1,q2)::P)↔(a,x) ∈ P:=by simp[Ne.symm e1]
   simp only[e3,Bool.false_and,e4];simp
theorem Nl {P:List Pr} (hP:P.Nodup) {p p':Int->Bool} (a x:Int) (ha:p a=true) (h:∀z,p' z=(p z&&!(z==a))):xB P p x=xB P p' x+if (a,x) ∈ P then 1 else 0:=
 Vh hP a x (by rw[h];simp) fun z=>by
  rw[h];by_cases e:z=a
  ·subst e;simp[ha]
  ·have:(z==a)=false:=by simpa using e
   simp[this]
structure jq (N:List Int) (D:List (Int×Int)) (c:Int->Nat):Prop where
 srt:zm D
 keys:∀q ∈ D,q.1 ∈ N
 at':∀x,(fnd x D).getD 0=(c x:Int)
theorem jq.nil (N:List Int) (c:Int->Nat) (h:∀x,c x=0):jq N [] c:=⟨List.Pairwise.nil,fun _ h=>by simp at h,fun x=>by simp[fnd,h]⟩
theorem jq.congr {N:List Int} {D:List (Int×Int)} {c c':Int->Nat} (h:jq N D c) (hc:∀x,c' x=c x):jq N D c':=⟨h.srt,h.keys,fun x=>by rw[h.at',hc]⟩
theorem jq.put {N:List Int} {D:List (Int×Int)} {c c':Int->Nat} (h:jq N D c) {b:Int} (hb:b ∈ N) {v:Int} (hv:v=(c' b:Int)) (hc:∀x,x≠b->c' x=c x):jq N (upd b v D) c':=by
 refine⟨je h.srt,fun q hq=>?_,fun x=>?_⟩
 ·rcases (za h.srt).1 hq with e|⟨hq,-⟩
  ·rw [e];exact hb
  ·exact h.keys q hq
 ·by_cases e:x=b
  ·subst e;rw[un h.srt,hv];rfl
  ·rw [uS h.srt e,h.at',hc x e]
theorem jq.length {N:List Int} {D:List (Int×Int)} {c:Int->Nat} (h:jq N D c):D.length<=N.length:=by
 have h1:(D.map (·.1)).length<=N.length:=uu h.srt.keys.nodup fun z hz=>by
  obtain⟨q,hq,rfl⟩:=List.mem_map.1 hz;exact h.keys q hq
 simpa using h1
structure uc (w w':World):Prop where
 size:w.heap.size<=w'.heap.size
 obj:∀(i:Nat) (o:Obj),w.heap[i]?=some o->(∀es c,o≠.map es c)->w'.heap[i]?=some o
theorem uc.cells {w w':World} (h:uc w w') {i:Nat} {cs:Array Value} {t:TypeId} {fz:Nat×Nat} (hi:w.heap[i]?=some (.cells cs t fz)):w'.heap[i]?=some (.cells cs t fz):=h.obj i _ hi fun _ _ e=>by cases e
theorem uc.refl (w:World):uc w w:=⟨Nat.le_refl _,fun _ _ h _=>h⟩
theorem uc.trans {a b c:World} (h:uc a b) (k:uc b c):uc a c:=⟨Nat.le_trans h.size k.size,fun i o hi ho=>k.obj i o (h.obj i o hi ho) ho⟩
theorem uc.alloc (w:World) (o:Obj):uc w (w.alloc o):=⟨by simp,fun _ _ hi _=>qD hi⟩
theorem uc.turned {w w':World} {b:Nat} (h:w.mapTurned w' b):uc w w':=by
 refine⟨Nat.le_of_eq (qU h).symm,fun i o hi ho=>?_⟩;obtain⟨es,c,es',c',hb,e⟩:=id h;rw[qE h (by rintro rfl;rw[hb] at hi;cases hi;exact ho _ _ rfl)];exact hi
section
variable {w w':World} {B sz n:Nat} {v:Value} {xs:List Value}
theorem qj.keepC {α:Type} {f:α->List Value} {e:TypeId} {l:List α} (h:qj f e sz w B v l) (hk:uc w w'):qj f e sz w' B v l:=by
 obtain⟨h1,h2⟩:=h;refine⟨h1,?_⟩;rcases h2 with h2|⟨g,cap,cur,rfl,hg,hh,r⟩
 ·exact .inl h2
 ·exact .inr ⟨g,cap,cur,rfl,hg,hk.cells hh,r⟩
end
abbrev qaT (w:World) (b:Nat) (M:List (Int×Nat)):Prop:=qO Tryz.prog 3 NI (.int .i64) (fun r:Nat=>.lit (.int .i64 r)) w b M.length M
abbrev qaU (w:World) (b:Nat) (M:List (Int×Unit)):Prop:=qO Tryz.prog 3 MH (.int .i64) (fun _:Unit=>.lit (.bool true)) w b M.length M
def ju (l:List Int):List (Int×Unit):=l.map fun x=>(x,())
theorem VD (l:List Int):(ju l).length=l.length:=by simp[ju]
theorem MP {l:List Int} (h:zE l):zm (ju l):=by unfold zm ju;rw[List.pairwise_map];exact h
theorem UJ (a:Int):∀l:List Int,upd a () (ju l)=ju (yL a l)
 |[]=>rfl
 |x::l=>by
  have ih:=UJ a l;simp only[ju,List.map_cons,upd,yL] at ih ⊢
  split
  ·rename_i h;subst h;rfl
  ·split
   ·rfl
   ·rw [ih];rfl
theorem UK (a:Int):∀l:List Int,fnd a (ju l)=if a ∈ l then some () else none
 |[]=>rfl
 |x::l=>by
  have ih:=UK a l;simp only[ju,List.map_cons,fnd] at ih ⊢;by_cases h:x=a
  ·subst h;simp
  ·rw [if_neg h,ih]
   have h':¬a=x:=fun e=>h e.symm;simp[h']
theorem UL {dom:Int->Prop} {l:List Int} (h:∀x ∈ l,dom x):yJ dom (ju l):=fun p hp=>by
 obtain⟨x,hx,rfl⟩:=List.mem_map.1 hp;exact h x hx
theorem ZU {ε:Type} (a:Int) (v:ε):∀M:List (Int×ε),(upd a v M).map (·.1)=yL a (M.map (·.1))
 |[]=>rfl
 |(x,u)::M=>by
  have ih:=ZU a v M;simp only[upd,List.map_cons,yL]
  split
  ·rename_i h;subst h;rfl
  ·split
   ·rfl
   ·rw [List.map_cons,ih]
theorem qgB (w:World):(zeroValue 102).run Tryz.prog w=.ok (.map none) w:=by kernel_rfl
section
variable {w:World} {lo hi p b:Nat} {M:List (Int×Nat)} {L:List Pr}
theorem Vd {u:Nat} {l:List Int} (h:qaU w u (ju l)) (hl:∀x ∈ l,dI x) {c:Int} (hc:dI c):(Instr.lookup 102 (.map (some u)) (.int .i64 c) false).run Tryz.prog w=.ok (.bool (decide (c ∈ l))) w:=by
 have:=h.look zy YO (UL hl) Tryz.underlying102 (ZR w) hc;rw[UK] at this;rw[this];by_cases e:c ∈ l <;> simp[e]
end
abbrev NH (w:World) (b r:Nat) (M:List (Int×Nat)) (S:Int->Bool) (cnt:Nat):Prop:=vr Tryz.prog 3 NI (.int .i64) (fun r:Nat=>.lit (.int .i64 r)) w b r M.length M S cnt
theorem Sl.ints {w:World} {B n cap:Nat} {a:Option Addr} {l:List Int} (h:Sl w B 1 (.slice a n cap) n (l.flatMap zK)) {k:Nat} (hk:k < n) (hl:l.length=n):
  ∃b off x,a=some ⟨b,off,none⟩/\b < B/\l[k]?=some x/\w.cell? ⟨b,off+k,none⟩=some (.int .i64 x):=by
 obtain⟨b,off,x,ha,hb,hx,hc⟩:=h.atF Qx hl hk;exact⟨b,off,x,ha,hb,hx,by have:=hc 0 (by omega);simpa[zK] using this⟩
theorem xJ.at {w:World} {B n cap:Nat} {a:Option Addr} {l:List Int} (h:xJ w B (.slice a n cap) l) (hl:l.length=n) {k:Nat} (hk:k < n):∃g x,a=some ⟨g,0,none⟩/\B<=g/\g < w.heap.size/\l[k]?=some x/\w.cell? ⟨g,k,none⟩=some (.int .i64 x):=by
 have h0:=h.sl;rcases h.form with⟨-,rfl⟩|⟨g,cap',e,hB,hg⟩
 ·simp at hl;omega
 ·simp only[Value.slice.injEq] at e
  obtain⟨rfl,e2,rfl⟩:=e;subst hl;obtain⟨b,off,x,ha,hb,hx,hc⟩:=h0.ints hk rfl;simp only[Option.some.injEq,Addr.mk.injEq,and_true] at ha;obtain⟨rfl,rfl⟩:=ha;exact⟨g,x,rfl,hB,hg,hx,by simpa using hc⟩
section
attribute [local irreducible] xE
theorem zI {α:Type} {L:List α} {k:Nat} {x y:α} (hx:L[k]?=some x):y ∈ L.take (k+1)↔y ∈ L.take k\/y=x:=by
 rw[jA hx,List.mem_append,List.mem_singleton]
end
section
variable {P:List Pr} {N l:List Int}
def jG (P:List Pr) (N l:List Int):Prop:=l.length=N.length/\∀(i:Nat) (x:Int),l[i]?=some x->Qb P N (l.take i)=some x
theorem UN:∀{m:Nat} {out:List Int},yX P N m out=some l->∃r,l=out++r/\r.length=m/\∀(i:Nat) (x:Int),r[i]?=some x->Qb P N (out++r.take i)=some x
 |0,out,h=>⟨[],by simpa[yX] using h.symm,rfl,fun i x hx=>by simp at hx⟩
 |m+1,out,h=>by
  unfold yX at h;cases hn:Qb P N out with
  |none=>rw[hn] at h;cases h
  |some x=>
   rw[hn] at h;obtain⟨r,h1,h2,h3⟩:=UN h;refine⟨x::r,by rw[h1];simp,by simp[h2],fun i y hy=>?_⟩;cases i with
   |zero=>
    simp only[List.getElem?_cons_zero,Option.some.injEq] at hy;subst hy;simpa using hn
   |succ i=>
    have:=h3 i y (by simpa using hy);simpa using this
theorem WN (h:jv P N=some l):jG P N l:=by
 obtain⟨r,h1,h2,h3⟩:=UN h;simp only[List.nil_append] at h1 h3;subst h1;exact⟨h2,h3⟩
theorem Jo {out:List Int} {x:Int} (h:Qb P N out=some x):x ∈ N/\x ∉ out/\∀a,(a,x) ∈ P->a ∈ out:=
 ⟨List.mem_of_find?_eq_some h,Ma.1 (List.find?_some h)⟩
theorem jG.nodup (h:jG P N l):l.Nodup:=by
 unfold List.Nodup;rw[List.pairwise_iff_getElem];intro i j hi hj hij e;have hx:=List.getElem?_eq_getElem hi;have h1:=Jo (h.2 j _ ((List.getElem?_eq_getElem hj).trans (congrArg some e.symm)));exact h1.2.1 (List.mem_iff_getElem?.2 ⟨i,by rw[List.getElem?_take_of_lt hij,hx]⟩)
theorem jG.sub (h:jG P N l):∀x ∈ l,x ∈ N:=fun x hx=>by
 obtain⟨i,hi⟩:=List.mem_iff_getElem?.1 hx;exact(Jo (h.2 i x hi)).1
theorem NE {l m:List Int} (h:l.Nodup) (hs:∀x ∈ l,x ∈ m) (hl:m.length<=l.length):∀x ∈ m,x ∈ l:=fun x hx=>by
 by_cases hxl:x ∈ l
 ·exact hxl
 ·exfalso
  have:=uu (l:=x::l) (m:=m) (List.nodup_cons.2 ⟨hxl,h⟩) fun y hy=>by
   rcases List.mem_cons.1 hy with rfl|hy
   ·exact hx
   ·exact hs y hy
  simp at this;omega
theorem jG.all (h:jG P N l):∀x ∈ N,x ∈ l:=NE h.nodup h.sub (by rw[h.1];exact Nat.le_refl _)
theorem jG.lead (h:jG P N l) {a x:Int} {i:Nat} (hx:l[i]?=some x) (hp:(a,x) ∈ P):∃j,j < i/\l[j]?=some a:=by
 have:=(Jo (h.2 i x hx)).2.2 a hp;obtain⟨j,hj⟩:=List.mem_iff_getElem?.1 this;rw[List.getElem?_take] at hj;by_cases hji:j < i
 ·exact ⟨j,hji,by simpa[hji] using hj⟩
 ·simp [hji] at hj
theorem jG.tc (h:jG P N l) {a x:Int} (ht:Tc P a x):∀i:Nat,l[i]?=some x->∃j:Nat,j < i/\l[j]?=some a:=by
 induction ht with
 |one hp=>exact fun i hx=>h.lead hx hp
 |more _ hp ih=>
  intro i hx;obtain⟨j,hj,hy⟩:=h.lead hx hp;obtain⟨q,hq,hz⟩:=ih j hy;exact⟨q,by omega,hz⟩
theorem jG.same (h:jG P N l) {i j:Nat} {x:Int} (hi:l[i]?=some x) (hj:l[j]?=some x):i=j:=by
 obtain⟨hi',ei⟩:=List.getElem?_eq_some_iff.1 hi;obtain⟨hj',ej⟩:=List.getElem?_eq_some_iff.1 hj;exact(List.getElem_inj h.nodup).1 (ei.trans ej.symm)
theorem Kp {R:Int->Int->Prop} (hir:∀a,¬R a a) (htr:∀a b c,R a b->R b c->R a c):∀l:List Int,l≠[]->∃m ∈ l,∀a ∈ l,¬R a m
 |[],h=>absurd rfl h
 |[x],_=>⟨x,by simp,fun a ha=>by simp at ha;subst ha;exact hir a⟩
 |x::y::l,_=>by
  obtain⟨m,hm,hno⟩:=Kp hir htr (y::l) (by simp);by_cases hxm:R x m
  ·refine ⟨x,by simp,fun a ha hax=>?_⟩
   rcases List.mem_cons.1 ha with rfl|ha
   ·exact hir _ hax
   ·exact hno a ha (htr a x m hax hxm)
  ·refine ⟨m,List.mem_cons.2 (.inr hm),fun a ha=>?_⟩
   rcases List.mem_cons.1 ha with rfl|ha
   ·exact hxm
   ·exact hno a ha
theorem qbg {out:List Int} (hP:∀a b,(a,b) ∈ P->a ∈ N) (hn:Qb P N out=none) (hne:yi N out≠[]):∃k ∈ N,Tc P k k:=by
 apply Classical.byContradiction;intro hno;have hir:∀a,¬Tc P a a:=fun a h=>by
  obtain⟨c,hc⟩:=h.head;exact hno ⟨a,hP _ _ hc,h⟩
 obtain⟨m,hm,hmin⟩:=Kp hir (fun a b c h k=>h.trans k) (yi N out) hne;have h1:=List.find?_eq_none.1 hn m (zJ.1 hm).1;refine h1 (Ma.2 ⟨(zJ.1 hm).2,fun a ha=>?_⟩);apply Classical.byContradiction;intro hao;exact hmin a (zJ.2 ⟨hP _ _ ha,hao⟩) (.one ha)
theorem Qm (hs:zE N) (hP:∀a b,(a,b) ∈ P->a ∈ N):∀{m:Nat} {out:List Int},out.length+m=N.length->yX P N m out=none->∃k ∈ N,Tc P k k
 |0,out,_,h=>by simp[yX] at h
 |m+1,out,hl,h=>by
  unfold yX at h;cases hn:Qb P N out with
  |none=>
   refine qbg hP hn fun e=>?_;have:=uu (zE.nodup hs) (m:=out) fun x hx=>Classical.byContradiction fun hxo=>by
    have:=zJ.2 ⟨hx,hxo⟩;rw[e] at this;simp at this
   omega
  |some x=>
   rw[hn] at h;exact Qm hs hP (by simp;omega) h
theorem MR (hs:zE N) (hP:∀a b,(a,b) ∈ P->a ∈ N):jv P N=none↔∃k ∈ N,Tc P k k:=by
 refine⟨Qm hs hP (by simp),?_⟩;rintro⟨k,hk,ht⟩;cases h:jv P N with
 |none=>rfl
 |some l=>
  have hl:=WN h;obtain⟨i,hi⟩:=List.mem_iff_getElem?.1 (hl.all k hk);obtain⟨j,hj,hz⟩:=hl.tc ht i hi;have:=hl.same hi hz;omega
theorem MQ (hs:zE N) (hP:∀a b,(a,b) ∈ P->a ∈ N):(jv P N).isSome=true↔∀k ∈ N,¬Tc P k k:=by
 have:=MR hs hP;cases h:jv P N with
 |none=>
  obtain⟨k,hk,ht⟩:=this.1 h;simp only[Option.isSome_none,Bool.false_eq_true,false_iff];exact fun hn=>hn k hk ht
 |some l=>
  simp only[Option.isSome_some,true_iff];intro k hk ht;rw[h] at this;have:=this.2 ⟨k,hk,ht⟩;cases this
end
abbrev Gp:=List Int×List jX
def VQ (g:Gp) (e:jX):Gp:=(yL e.2.1 (yL e.1 g.1),vJ e g.2)
def XU (lev:Int) (T:List Bool) (i j:Nat) (a b:St):Nat->Bool
 |0=>jS lev a b
 |1=>Je (T.getD i false) a b
 |2=>Yy (T.getD i false) (T.getD j false) a b
 |_=>vg (T.getD j false) a b
def yN (lev:Int) (T:List Bool) (i j:Nat) (a b:St) (g:Gp) (k:Nat):Gp:=if xH lev T j&&decide (i≠j)&&XU lev T i j a b k then VQ g (a.id,b.id,((k+1:Nat):Int)) else g
def yP (lev:Int) (A:Au) (T:List Bool) (i:Nat) (a:St) (g:Gp) (j:Nat):Gp:=match A[j]? with
 |some b=>(List.range 4).foldl (yN lev T i j a b) g
 |none=>g
def zH (lev:Int) (A:Au) (T:List Bool) (g:Gp) (i:Nat):Gp:=match A[i]? with
 |some a=>if xH lev T i then(List.range A.length).foldl (yP lev A T i a) (yL a.id g.1,g.2) else g
 |none=>g
def qX (lev:Int) (A:Au) (T:List Bool):Gp:=(List.range A.length).foldl (zH lev A T) ([],[])
structure YW (N0:Int->Prop) (R:jX->Prop) (g:Gp):Prop where
 srtN:zE g.1
 srtE:KY g.2
 mem:∀x ∈ g.1,N0 x
 rule:∀e ∈ g.2,R e
 ends:∀e ∈ g.2,e.1 ∈ g.1/\e.2.1 ∈ g.1
theorem YW.nil {N0:Int->Prop} {R:jX->Prop}:YW N0 R ([],[]):=⟨List.Pairwise.nil,List.Pairwise.nil,by simp,by simp,by simp⟩
theorem YW.node {N0:Int->Prop} {R:jX->Prop} {g:Gp} (h:YW N0 R g) {a:Int} (ha:N0 a):YW N0 R (yL a g.1,g.2):=
 ⟨jR h.srtN,h.srtE,fun x hx=>by
  rcases xa.1 hx with rfl|hx
  ·exact ha
  ·exact h.mem x hx,h.rule,fun e he=>⟨xa.2 (.inr (h.ends e he).1),xa.2 (.inr (h.ends e he).2)⟩⟩
theorem YW.put {N0:Int->Prop} {R:jX->Prop} {g:Gp} (h:YW N0 R g) {e:jX} (h1:N0 e.1) (h2:N0 e.2.1) (hR:R e):YW N0 R (VQ g e):=
 ⟨jR (jR h.srtN),uY h.srtE,fun x hx=>by
  rcases xa.1 hx with rfl|hx
  ·exact h2
  ·rcases xa.1 hx with rfl|hx
   ·exact h1
   ·exact h.mem x hx,fun f hf=>by
  rcases yh.1 hf with rfl|hf
  ·exact hR
  ·exact h.rule f hf,fun f hf=>by
  unfold VQ;rcases yh.1 hf with rfl|hf
  ·exact ⟨xa.2 (.inr (xa.2 (.inl rfl))),xa.2 (.inl rfl)⟩
  ·exact ⟨xa.2 (.inr (xa.2 (.inr (h.ends f hf).1))),xa.2 (.inr (xa.2 (.inr (h.ends f hf).2)))⟩⟩
theorem zC {α β:Type} {f:β->α->β} {I:β->Prop} (hf:∀b a,I b->I (f b a)):∀(l:List α) (b:β),I b->I (l.foldl f b)
 |[],b,h=>h
 |a::l,b,h=>zC hf l (f b a) (hf b a h)
theorem vi {α β:Type} {f:β->α->β} {I:β->Prop} (hf:∀b a,I b->I (f b a)) {x:α} (hx:∀b,I (f b x)):∀(l:List α) (b:β),x ∈ l->I (l.foldl f b)
 |a::l,b,h=>by
  rcases List.mem_cons.1 h with rfl|h
  ·exact zC hf l _ (hx b)
  ·exact vi hf hx l _ h
section
variable {lev:Int} {A:Au} {T:List Bool}
def YY (lev:Int) (A:Au) (T:List Bool) (e:jX):Prop:=∃(i j k:Nat) (a b:St),A[i]?=some a/\A[j]?=some b/\xH lev T i=true/\xH lev T j=true/\i≠j/\k < 4/\XU lev T i j a b k=true/\e=(a.id,b.id,((k+1:Nat):Int))
def YV (lev:Int) (A:Au) (T:List Bool) (x:Int):Prop:=∃(i:Nat) (a:St),A[i]?=some a/\xH lev T i=true/\x=a.id
theorem Qy:YW (YV lev A T) (YY lev A T) (qX lev A T):=by
 unfold qX;refine zC (I:=YW (YV lev A T) (YY lev A T)) (fun g i hg=>?_) _ _ .nil;unfold zH;cases ha:A[i]? with
 |none=>exact hg
 |some a=>
  simp only
  split
  ·rename_i hl
   refine zC (I:=YW (YV lev A T) (YY lev A T)) (fun g j hg=>?_) _ _ (hg.node ⟨i,a,ha,hl,rfl⟩);unfold yP;cases hb:A[j]? with
   |none=>exact hg
   |some b=>
    simp only;have:∀(l:List Nat) (g:Gp),(∀k ∈ l,k < 4)->YW (YV lev A T) (YY lev A T) g->YW (YV lev A T) (YY lev A T) (l.foldl (yN lev T i j a b) g):=by
     intro l
     induction l with
     |nil=>exact fun g _ h=>h
     |cons k l ih=>
      intro g hk hg;refine ih _ (fun q hq=>hk q (List.mem_cons_of_mem _ hq)) ?_;unfold yN
      split
      ·rename_i hc
       simp only[Bool.and_eq_true,decide_eq_true_eq] at hc;exact hg.put ⟨i,a,ha,hl,rfl⟩ ⟨j,b,hb,hc.1.1,rfl⟩ ⟨i,j,k,a,b,ha,hb,hl,hc.1.1,hc.1.2,hk k (List.mem_cons_self ..),hc.2,rfl⟩
      ·exact hg
    exact this _ g (fun k hk=>List.mem_range.1 hk) hg
  ·exact hg
theorem qbA {g:Gp} {e f:jX} (h:f ∈ g.2):f ∈ (VQ g e).2:=yh.2 (.inr h)
theorem Vt {i j k:Nat} {a b:St} {g:Gp} {f:jX} (h:f ∈ g.2):f ∈ (yN lev T i j a b g k).2:=by
 unfold yN
 split
 ·exact qbA h
 ·exact h
theorem JQ {i j:Nat} {a:St} {g:Gp} {f:jX} (h:f ∈ g.2):f ∈ (yP lev A T i a g j).2:=by
 unfold yP
 split
 ·exact zC (I:=fun g:Gp=>f ∈ g.2) (fun g k hg=>Vt hg) _ _ h
 ·exact h
theorem qal {i:Nat} {g:Gp} {f:jX} (h:f ∈ g.2):f ∈ (zH lev A T g i).2:=by
 unfold zH
 split
 ·split
  ·exact zC (I:=fun g:Gp=>f ∈ g.2) (fun g k hg=>JQ hg) _ _ h
  ·exact h
 ·exact h
theorem YL {e:jX}:e ∈ (qX lev A T).2↔YY lev A T e:=by
 refine⟨Qy.rule e,?_⟩;rintro⟨i,j,k,a,b,ha,hb,hl,hl2,hne,hk,hr,rfl⟩;have hi:=List.getElem?_eq_some_iff.1 ha |>.1;have hj:=List.getElem?_eq_some_iff.1 hb |>.1;unfold qX;refine vi (I:=fun g:Gp=>_ ∈ g.2) (fun g i hg=>qal hg) (x:=i) (fun g=>?_) _ _ (List.mem_range.2 hi);unfold zH;rw[ha];simp only[hl,if_true];refine vi (I:=fun g:Gp=>_ ∈ g.2) (fun g i hg=>JQ hg) (x:=j) (fun g=>?_) _ _ (List.mem_range.2 hj);unfold yP;rw[hb];refine vi (I:=fun g:Gp=>_ ∈ g.2) (fun g i hg=>Vt hg) (x:=k) (fun g=>?_) _ _ (List.mem_range.2 hk);unfold yN;rw[if_pos (by simp[hl2,hne,hr])];exact yh.2 (.inl rfl)
theorem YJ {a x:Int} {N:List Int} (h:x ∈ N):x ∈ yL a N:=xa.2 (.inr h)
theorem No {x:Int}:x ∈ (qX lev A T).1↔YV lev A T x:=by
 refine⟨Qy.mem x,?_⟩;rintro⟨i,a,ha,hl,rfl⟩;have hi:=List.getElem?_eq_some_iff.1 ha |>.1;have e1:∀(i j k:Nat) (a b:St) (g:Gp) (x:Int),x ∈ g.1->x ∈ (yN lev T i j a b g k).1:=fun i j k a b g x h=>by
  unfold yN
  split
  ·exact YJ (YJ h)
  ·exact h
 have e2:∀(i j:Nat) (a:St) (g:Gp) (x:Int),x ∈ g.1->x ∈ (yP lev A T i a g j).1:=fun i j a g x h=>by
  unfold yP
  split
  ·exact zC (I:=fun g:Gp=>x ∈ g.1) (fun g k hg=>e1 _ _ _ _ _ _ _ hg) _ _ h
  ·exact h
 unfold qX;refine vi (I:=fun g:Gp=>_ ∈ g.1) (fun g i hg=>?_) (x:=i) (fun g=>?_) _ _ (List.mem_range.2 hi)
 ·unfold zH
  split
  ·split
   ·exact zC (I:=fun g:Gp=>_ ∈ g.1) (fun g k hg=>e2 _ _ _ _ _ hg) _ _ (YJ hg)
   ·exact hg
  ·exact hg
 ·unfold zH
  rw[ha];simp only[hl,if_true];exact zC (I:=fun g:Gp=>_ ∈ g.1) (fun g k hg=>e2 _ _ _ _ _ hg) _ _ (xa.2 (.inl rfl))
end
theorem Nx {n i:Nat} (h:i < n):(List.replicate n true).getD i false=true:=by simp[List.getD_eq_getElem?_getD,h]
theorem vT {lev:Int} {n i:Nat} (h:i < n):xH lev (List.replicate n true) i=true:=by unfold xH;rw[Nx h];rfl
theorem Nw {bend:Int} {n i:Nat} {a:St} (h:(jm bend n)[i]?=some a):i < n/\a=yQ bend i:=by
 have hi:=(List.getElem?_eq_some_iff.1 h).1;rw[jl] at hi;rw[ze hi] at h;exact⟨hi,(Option.some.inj h).symm⟩
theorem Ua {bend:Int} {i:Nat}:(yQ bend i).id=((i+1:Nat):Int):=rfl
section
variable {bend:Int} {n:Nat}
theorem MB {lev:Int} {x:Int}:x ∈ (qX lev (jm bend n) (List.replicate n true)).1↔1<=x/\x<=n:=by
 rw[No];constructor
 ·rintro ⟨i,a,ha,-,rfl⟩
  obtain⟨hi,rfl⟩:=Nw ha;rw[Ua];omega
 ·rintro ⟨h1,h2⟩
  refine⟨x.toNat - 1,yQ bend (x.toNat - 1),ze (by omega),vT (by omega),?_⟩;rw[Ua];omega
theorem KP {lev:Int} (hb:¬(1<=bend/\bend<=n)) {a b:Int} (h:(a,b) ∈ xF (qX lev (jm bend n) (List.replicate n true)).2):a < b:=by
 obtain⟨k,hk⟩:=um.1 h;obtain⟨i,j,q,s,t,hs,ht,-,-,hne,hq,hr,he⟩:=YL.1 hk;obtain⟨hi,rfl⟩:=Nw hs;obtain⟨hj,rfl⟩:=Nw ht;simp only[Prod.mk.injEq,Ua] at he;have key:i < j:=by
  match q,hq,hr with
  |0,_,hr=>
   simp only[XU,jS,Bool.and_eq_true] at hr;simpa[qdc] using hr.2
  |1,_,hr=>
   simp only[XU,Je,Bool.and_eq_true] at hr;exact MD hb hj hr.2
  |2,_,hr=>
   simp only[XU,Yy,Bool.and_eq_true] at hr;exact MD hb hj hr.2
  |3,_,hr=>
   simp only[XU,vg,Bool.and_eq_true] at hr;exact absurd (qeU hb hi hj hr.2) hne
 omega
theorem qdE {P:List Pr} (h:∀a b,(a,b) ∈ P->a < b) {a b:Int} (ht:Tc P a b):a < b:=by
 induction ht with
 |one h1=>exact h _ _ h1
 |more _ h2 ih=>exact Int.lt_trans ih (h _ _ h2)
theorem qeR {lev:Int}:∀a b,(a,b) ∈ xF (qX lev (jm bend n) (List.replicate n true)).2->a ∈ (qX lev (jm bend n) (List.replicate n true)).1:=fun a b h=>by
 obtain⟨k,hk⟩:=um.1 h;exact(Qy.ends _ hk).1
theorem qaN {lev:Int} (hlev:lev≠1) (hb:2<=bend/\bend<=n):Tc (xF (qX lev (jm bend n) (List.replicate n true)).2) bend bend:=by
 obtain⟨k,hk⟩:∃k:Nat,bend=(k+2:Nat):=⟨(bend - 2).toNat,by omega⟩
 have hkn:k+1 < n:=by omega
 have h1:(bend,bend - 1) ∈ xF (qX lev (jm bend n) (List.replicate n true)).2:=by
  refine um.2 ⟨4,YL.2 ⟨k+1,k,3,_,_,ze (by omega),ze (by omega),vT (by omega),vT (by omega),by omega,by omega,?_,?_⟩⟩
  ·show vg ((List.replicate n true).getD k false) _ _=true
   rw[Nx (by omega)];exact qeS hk
  ·rw [Ua,Ua]
   simp only[Prod.mk.injEq];omega
 have h2:(bend - 1,bend) ∈ xF (qX lev (jm bend n) (List.replicate n true)).2:=by
  refine um.2 ⟨1,YL.2 ⟨k,k+1,0,_,_,ze (by omega),ze (by omega),vT (by omega),vT (by omega),by omega,by omega,?_,?_⟩⟩
  ·show jS lev _ _=true
   unfold jS;rw[qdc];simp[hlev]
  ·rw [Ua,Ua]
   simp only[Prod.mk.injEq];omega
 exact .more (.one h1) h2
theorem qeK {lev:Int} (hlev:lev≠1) (hb1:bend≠1\/n=0):(jv (xF (qX lev (jm bend n) (List.replicate n true)).2) (qX lev (jm bend n) (List.replicate n true)).1).isSome=true↔¬(1<=bend/\bend<=n):=by
 rw[MQ Qy.srtN qeR];constructor
 ·intro h hb
  exact h bend (MB.2 hb) (qaN hlev ⟨by omega,hb.2⟩)
 ·intro hb k _ ht
  exact absurd (qdE (fun a b=>KP hb) ht) (by omega)
end
section
attribute [local irreducible] xE
def qdq (g:Nat) (lb:Array Value) (p:Int->Bool) (w:World):Prop:=
 ∀(W:World) (x:Int),dI x->Below w.heap.size w W->Calls Tryz.prog g (#[.int .i64 x]++lb) W fun e w'=>e=.returned (.bool (p x))/\Below W.heap.size W w'
theorem WV {M1 M2:Mi} {f:Int->Bool}:(∃p ∈ M1,fnd p.1 M2=some p.2/\f p.1=true)↔uK M1 M2 f=true:=by
 unfold uK;rw[List.any_eq_true];constructor
 ·rintro ⟨p,h1,h2,h3⟩;exact⟨p,h1,by simp[h2,h3]⟩
 ·rintro ⟨p,h1,h2⟩
  simp only[Bool.and_eq_true,beq_iff_eq] at h2;exact⟨p,h1,h2.1,h2.2⟩
theorem Rt {w:World} {M1 M2:MI} {b1 b2:Nat} (h1:Qj w b1 M1.length M1) (h2:Qj w b2 M2.length M2) (d1:yJ dI M1) (s1:zm M1) (d2:yJ dI M2) {g:Nat} {lb:Array Value} {p:Int->Bool} (eg:∀args w,(callFunc g args).run Tryz.prog w=.ok (.enter g args) w) (hp:qdq g lb p w):
  Calls Tryz.prog 115 #[.map (some b1),.map (some b2),.func (.func g) #[] lb] w fun e w'=>e=.returned (.bool (uK M1 M2 p))/\Below w.heap.size w w':=by
 obtain⟨R,hR⟩:∃R,uK M1 M2 p=R:=⟨_,rfl⟩
 rw[hR];have HRR:=qh hR;have H1:=qh h1;have H2:=qh h2;have D1:=qh d1;have S1:=qh s1;have D2:=qh d2;have HP:=qh hp;clear h1 h2 d1 s1 d2 hp hR;go_enter Tryz.func115,Tryz.ntmps115;go_wp2_with (at_range;refine qK.halt ?_)
 refine qK.go ?_;refine H1.o.wpList_range zy D1.o S1.o Tryz.underlying138 rfl rfl (by rfl) ?_;intro Y hrg hg hz;have HG:=qh hrg;have BY:=qh (yD (Below.refl w.heap.size w) hg (Nat.le_refl _));have hzY:w.heap.size < Y.heap.size:=by omega
 clear hrg hg hz;obtain⟨w5,hw5⟩:∃w5,w5=w:=⟨_,rfl⟩
 subst hw5;go_wp2_with fail
 go_frame
 go_loopg [7] M1.length (fun kk _ wq=>∃(S:Int->Bool),qeW wq b1 w5.heap.size M1 S kk/\(∀q ∈ M1,S q.1=false->¬(fnd q.1 M2=some q.2/\p q.1=true))/\Below w5.heap.size w5 wq/\w5.heap.size < wq.heap.size)
 case atStart=>exact⟨_,HG.o,(fun q _ h=>by cases h),BY.o,hzY⟩
 case round=>
  obtain⟨S,hrg,hno,hB,hz⟩:=hrel;have HG:=qh hrg;have HNO:=qh hno;have HB:=qh hB;clear hrg hno hB BY hzY;go_wp2_with (at_next;refine qK.halt ?_)
  refine qK.go ?_;refine HG.o.wpList_next zy yK D1.o S1.o rfl rfl (by rfl) ?_ ?_
  ·intro hd
   have HRF:=qh (show R=false by
    rw[←HRR.o];cases e:uK M1 M2 p with
    |false=>rfl
    |true=>
     obtain⟨q,h1,h2⟩:=WV.2 e;exact absurd h2 (HNO.o q h1 (hd q h1)))
   clear hd HG;go_wp2_with fail;refine bodyPost_ret (v:=.bool false) (by simp[results,Tryz.results115,go_sem]) rfl ?_;exact⟨by rw[HRF.o],HB.o⟩
  ·intro x u w3 k3 hxm hS hrg3 hlt3 hg3 hz3 hen
   have HB3:=qh (zO HB.o hg3 HB.o.size (Nat.le_refl _));have HG3:=qh hrg3;have HX:=qh hxm;have hdx:=D1.o _ hxm;have hz3':w5.heap.size < w3.heap.size:=by omega
   have lk:=Yd (H2.o.below HB3.o H2.o.lt) D2.o hdx (r:=fnd x M2) rfl;have HSK:=qh (fun(hn:¬(fnd x M2=some u/\p x=true))=>(fun q hq h=>by
    by_cases e:q.1=x
    ·have q1:=(fnd_some S1.o (a:=q.1) (u:=q.2)).2 hq
     have q2:=(fnd_some S1.o).2 HX.o;rw[e,q2] at q1;rw[e,←Option.some.inj q1];exact hn
    ·have e2:(q.1==x)=false:=by simpa using e
     rw[e2] at h;exact HNO.o q hq (by simpa using h):∀q ∈ M1,(S q.1&&!(q.1==x))=false->¬(fnd q.1 M2=some q.2/\p q.1=true)))
   have HCL:=qh (HP.o w3 x hdx HB3.o);clear hrg3 hg3 HG hz3 hdx;cases hf:fnd x M2 with
   |none=>
    rw[hf] at lk;simp only[Option.getD_none,Option.isSome_none] at lk;have HF:=qh hf;clear hf;go_wp2_with fail
    go_roundg k3
    case measure=>exact hlt3
    case rel=>exact⟨_,HG3.o,HSK.o (fun h=>by rw[HF.o] at h;cases h.1),HB3.o,hz3'⟩
   |some v=>
    rw[hf] at lk;simp only[Option.getD_some,Option.isSome_some] at lk;have HF:=qh hf;clear hf;by_cases hvu:v=u
    ·subst hvu
     obtain⟨r,hr⟩:∃r,p x=r:=⟨_,rfl⟩
     rw[hr] at HCL;have HPR:=qh hr;clear hr;have qv:(v==v)=true:=by simp
     go_wp2_with fail;refine(HCL.o).mono ?_;rintro e w4 ⟨rfl,b4⟩;have HB4:=qh (HB3.o.trans (b4.mono (by omega)));have HG4:=qh (HG3.o.below b4 (by have:=H1.o.lt;omega) hz3');have hz4:w5.heap.size < w4.heap.size:=by have:=b4.size;omega
     clear b4 HCL;cases r with
     |true=>
      go_wp2_with fail;refine bodyPost_ret (v:=.bool true) (by simp[results,Tryz.results115,go_sem]) rfl ?_;refine⟨?_,HB4.o⟩;rw[←HRR.o,WV.1 ⟨_,HX.o,HF.o,HPR.o⟩]
     |false=>
      go_wp2_with fail
      go_roundg k3
      case measure=>exact hlt3
      case rel=>exact⟨_,HG4.o,HSK.o (fun h=>by rw[HPR.o] at h;cases h.2),HB4.o,hz4⟩
    ·have qv:(v==u)=false:=by simpa using hvu
     have HVU:=qh hvu;clear hvu;go_wp2_with fail
     go_roundg k3
     case measure=>exact hlt3
     case rel=>exact⟨_,HG3.o,HSK.o (fun h=>by rw[HF.o] at h;exact HVU.o (Option.some.inj h.1)),HB3.o,hz3'⟩
theorem qgM (W:World) (x:Int):Calls Tryz.prog 116 #[.int .i64 x] W fun e w'=>e=.returned (.bool true)/\Below W.heap.size W w':=by
 go_enter Tryz.func116,Tryz.ntmps116;go_wp2;go_ret;exact⟨rfl,Below.refl _ _⟩
structure yE (w:World) (pW n:Nat):Prop where
 wd:w.heap[n]?=some (.cells #[.pointer (some ⟨pW,0,none⟩)] 89 (0,0))
 same:w.heap[n+1]?=some (.cells #[.func (.func 115) #[] #[]] 240 (0,0))
 any_:w.heap[n+1+1]?=some (.cells #[.func (.func 116) #[] #[]] 165 (0,0))
 list:w.heap[n+1+1+1]?=some (.cells #[.int .i64 1,.func (.func 117) #[] #[.pointer (some ⟨n,0,none⟩)],.int .i64 2,.func (.func 119) #[] #[.pointer (some ⟨n+1,0,none⟩),.pointer (some ⟨n+1+1,0,none⟩)],.int .i64 3,.func (.func 120) #[] #[.pointer (some ⟨n+1,0,none⟩)],.int .i64 4,.func (.func 122) #[] #[.pointer (some ⟨n+1,0,none⟩)]] 168 (0,0))
theorem yE.below {w w':World} {pW n K:Nat} (h:yE w pW n) (hb:Below K w w') (hK:n+1+1+1 < K):yE w' pW n:=⟨qp h.wd hb (by omega),qp h.same hb (by omega),qp h.any_ hb (by omega),qp h.list hb hK⟩
theorem qdS (w:World) (pW:Nat):Calls Tryz.prog 71 #[.pointer (some ⟨pW,0,none⟩)] w fun e w'=>e=.returned (.slice (some ⟨w.heap.size+1+1+1,0,none⟩) 4 4)/\yE w' pW w.heap.size/\Below w.heap.size w w':=by
 go_enter Tryz.func71,Tryz.ntmps71;go_wp2;go_ret;refine⟨rfl,⟨?_,?_,?_,?_⟩,(((Below.refl _ w).alloc (Nat.le_refl _) _).alloc (by simp) _).alloc (by first|(simp;done)|(simp;omega)) _ |>.alloc (by first|(simp;done)|(simp;omega)) _⟩
 ·rw [Below.heap_alloc _ _ _ (by first|(simp;done)|(simp;omega)),Below.heap_alloc _ _ _ (by first|(simp;done)|(simp;omega)),Below.heap_alloc _ _ _ (by simp)]
  exact heap_alloc_new w _
 ·rw [Below.heap_alloc _ _ _ (by first|(simp;done)|(simp;omega)),Below.heap_alloc _ _ _ (by simp)]
  have:=heap_alloc_new (w.alloc (.cells #[.pointer (some ⟨pW,0,none⟩)] 89)) (.cells #[.func (.func 115) #[] #[]] 240);simpa using this
 ·rw [Below.heap_alloc _ _ _ (by simp)]
  have:=heap_alloc_new ((w.alloc (.cells #[.pointer (some ⟨pW,0,none⟩)] 89)).alloc (.cells #[.func (.func 115) #[] #[]] 240)) (.cells #[.func (.func 116) #[] #[]] 165);simpa using this
 ·have:=heap_alloc_new (((w.alloc (.cells #[.pointer (some ⟨pW,0,none⟩)] 89)).alloc (.cells #[.func (.func 115) #[] #[]] 240)).alloc (.cells #[.func (.func 116) #[] #[]] 165)) (.cells #[.int .i64 1,.func (.func 117) #[] #[.pointer (some ⟨w.heap.size,0,none⟩)],.int .i64 2,.func (.func 119) #[] #[.pointer (some ⟨w.heap.size+1,0,none⟩),.pointer (some ⟨w.heap.size+1+1,0,none⟩)],.int .i64 3,.func (.func 120) #[] #[.pointer (some ⟨w.heap.size+1,0,none⟩)],.int .i64 4,.func (.func 122) #[] #[.pointer (some ⟨w.heap.size+1,0,none⟩)]] 168)
  simpa using this
section
variable {w:World} {lo hi pW bB n:Nat} {lev:Int} {ov vv lv:Value} {ms:List xz} {A:Au} {T:List Bool} {i j:Nat} {m m':xz} {a a':St}
theorem qfw (h:xT w lo hi pW bB lev ov vv ms lv A T) (hov:∃x y z,ov=.slice x y z) (hvv:∃x y z,vv=.slice x y z) (hr:yE w pW n) (h1:ms[i]?=some m) (h2:ms[j]?=some m') (g1:A[i]?=some a) (g2:A[j]?=some a'):
  Calls Tryz.prog 117 #[.pointer (some ⟨m.p,0,none⟩),.pointer (some ⟨m'.p,0,none⟩),.pointer (some ⟨n,0,none⟩)] w fun e w'=>e=.returned (.bool (jS lev a a'))/\Below w.heap.size w w':=by
 have q1:=h.mv i m a h1 g1;have q2:=h.mv j m' a' h2 g2;obtain⟨d1,c1,e1⟩:=qj.sli q1.dds;obtain⟨d2,c2,e2⟩:=qj.sli q2.dds;have r1:=q1.row;have r2:=q2.row;unfold Mg at r1 r2;rw[e1] at r1;rw[e2] at r2;have hw:=qa hr.wd 0;have hwl:=qd hr.wd;have hl:=qa h.row 2;have hll:=qd h.row;simp at hw hl;have s1:=qa r1;have s2:=qa r2;have x0:=s1 0;have x1:=s1 1;have x2:=s1 2;have x3:=s1 3;have x4:=s1 4;have x5:=s1 5;have x6:=s1 6;have z0:=s2 0;have z1:=s2 1;have z2:=s2 2;have z3:=s2 3;have z4:=s2 4;have z5:=s2 5;have z6:=s2 6;simp at x0 x1 x2 x3 x4 x5 x6 z0 z1 z2 z3 z4 z5 z6;have xl:=qd r1;have zl:=qd r2;clear s1 s2 r1 r2 e1 e2 q1 q2 h hr g1 g2 h1 h2;go_enter Tryz.func117,Tryz.ntmps117;go_wp2_with fail;by_cases hlev:lev=1
 ·have ql:(lev !=1)=false:=by simp[hlev]
  have HL:=qh hlev;clear hlev;refine qI (w.heap.size) [1,0,0,1,0,0,0,0,0,1,0,0,0,1,2,0,0] (.fin [0,1,2,3,4,5,6,7,8,9,10,11,12,13,14,15,16]) (by kernel_rfl) ?_;simp only[xi,qP,qA,sD,sE,sF,sG,Option.bind_some]
  repeat first|(refine qz fun K hK=>?_;go_simp;refine hK _ _ ?_;clear hK K)|(apply qC;(intro w2 hw2;have hk1:=hw2.cell;have hk3:=hw2.1;clear hw2;go_simp;with_reducible rfl);simp only[Act.put,sA,sB,sC])|refine qH rfl rfl ?_|(refine qQ rfl rfl fun K hK=>?_;simp only[Act.put,sA,sB,sC];refine hK _ _ ?_;clear hK K)|(refine qW rfl fun K hK=>?_;simp only[Act.put,sA,sB,sC];refine hK _ _ ?_;clear hK K)|refine qu ?_
  go_wp2;go_ret;exact⟨by unfold jS;rw[HL.o];rfl,(Below.refl _ w).drew⟩
 ·have ql:(lev !=1)=true:=by simpa using hlev
  have HL:=qh hlev;clear hlev;refine qI (w.heap.size) [1,0,0,1,0,0,0,0,0,1,0,0,0,1,2,0,0] (.fin [0,1,2,3,4,5,6,7,8,9,10,11,12,13,14,15,16]) (by kernel_rfl) ?_;simp only[xi,qP,qA,sD,sE,sF,sG,Option.bind_some]
  repeat first|(refine qz fun K hK=>?_;go_simp;refine hK _ _ ?_;clear hK K)|(apply qC;(intro w2 hw2;have hk1:=hw2.cell;have hk3:=hw2.1;clear hw2;go_simp;with_reducible rfl);simp only[Act.put,sA,sB,sC])|refine qH rfl rfl ?_|(refine qQ rfl rfl fun K hK=>?_;simp only[Act.put,sA,sB,sC];refine hK _ _ ?_;clear hK K)
  refine qM (fun K hK=>?_);go_simp;refine(UP a.id a.thread a.status a.beg a.fin a.tri d1 a.deeds.length c1 a'.id a'.thread a'.status a'.beg a'.fin a'.tri d2 a'.deeds.length c2 w.drew).mono ?_;rintro e X2 ⟨rfl,hb⟩;refine hK _ _ ?_;clear hK K;have BX:=qh ((Below.refl w.heap.size w).drew.trans hb);have HRL:=qh (show jS lev a a'=(decide (0<=a.fin)&&decide (a.fin < a'.beg)) by unfold jS rly;simp[HL.o]);obtain⟨rb,hrb⟩:∃rb,(decide (0<=a.fin)&&decide (a.fin < a'.beg))=rb:=⟨_,rfl⟩
  rw[hrb] at HRL ⊢;clear hb hrb
  repeat first|(refine qz fun K hK=>?_;go_simp;refine hK _ _ ?_;clear hK K)|refine qu ?_
  go_wp2;go_ret;exact⟨by rw[HRL.o];rfl,BX.o⟩
def Qg (A:Au):Prop:=∀s ∈ A,yJ dI (zg s)/\yJ dI (ja s)
theorem qfx (h:xT w lo hi pW bB lev ov vv ms lv A T) (hd:Qg A) (hr:yE w pW n) (h1:ms[i]?=some m) (h2:ms[j]?=some m') (g1:A[i]?=some a) (g2:A[j]?=some a'):
  Calls Tryz.prog 119 #[.pointer (some ⟨m.p,0,none⟩),.pointer (some ⟨m'.p,0,none⟩),.pointer (some ⟨n+1,0,none⟩),.pointer (some ⟨n+1+1,0,none⟩)] w fun e w'=>e=.returned (.bool (Je (T.getD i false) a a'))/\Below w.heap.size w w':=by
 have q1:=h.mv i m a h1 g1;have q2:=h.mv j m' a' h2 g2;have r1:=q1.row;have r2:=q2.row;have hsm:=qa hr.same 0;have hsl:=qd hr.same;have han:=qa hr.any_ 0;have hal:=qd hr.any_;simp at hsm han;have s1:=qa r1;have s2:=qa r2;have x7:=s1 7;have x8:=s1 8;have x10:=s1 10;have z7:=s2 7;have z8:=s2 8;have z10:=s2 10;simp at x7 x8 x10 z7 z8 z10;rw[←List.getD_eq_getElem?_getD] at x10 z10;obtain⟨ta,hta⟩:∃ta,T.getD i false=ta:=⟨_,rfl⟩
 obtain⟨tb,htb⟩:∃tb,T.getD j false=tb:=⟨_,rfl⟩
 rw[hta] at x10;rw[htb] at z10;have xl:=qd r1;have zl:=qd r2;have R1:=qh q1.rd;have V1:=qh q1.wr;have R2:=qh q2.rd;have V2:=qh q2.wr;have D1:=qh (hd a (List.mem_of_getElem? g1));have D2:=qh (hd a' (List.mem_of_getElem? g2));have r2':=qh r2;have SC:=qh (Rt (w:=w.drew) V1.o.drew R2.o.drew D1.o.2 (XN a) D2.o.1 (lb:=#[]) (p:=fun _=>true) (enters_of Tryz.func116 (by kernel_rfl) rfl) (fun W x _ _=>qgM W x));rw[hta];clear s1 s2 r1 r2 q1 q2 h hr g1 g2 h1 h2 hta htb hd;go_enter Tryz.func119,Tryz.ntmps119;go_wp2_with fail;cases ta with
 |false=>
  refine qI (w.heap.size) [0,0,0,1,0,1,0,0,0,1,0,0,0,1,1,2,0,0] (.fin [0,1,2,3,4,5,6,7,8,9,10,11,12,13,14,15,16,17]) (by kernel_rfl) ?_;simp only[xi,qP,qA,sD,sE,sF,sG,Option.bind_some]
  repeat first|(refine qz fun K hK=>?_;go_simp;refine hK _ _ ?_;clear hK K)|(apply qC;(intro w2 hw2;have hk1:=hw2.cell;have hk3:=hw2.1;clear hw2;go_simp;with_reducible rfl);simp only[Act.put,sA,sB,sC])|refine qH rfl rfl ?_|(refine qQ rfl rfl fun K hK=>?_;simp only[Act.put,sA,sB,sC];refine hK _ _ ?_;clear hK K)|(refine qW rfl fun K hK=>?_;simp only[Act.put,sA,sB,sC];refine hK _ _ ?_;clear hK K)|refine qu ?_
  go_wp2;go_ret;exact⟨rfl,(Below.refl _ w).drew⟩
 |true=>
  refine qI (w.heap.size) [0,0,0,1,0,1,0,0,0,1,0,0,0,1,1,2,0,0] (.fin [0,1,2,3,4,5,6,7,8,9,10,11,12,13,14,15,16,17]) (by kernel_rfl) ?_;simp only[xi,qP,qA,sD,sE,sF,sG,Option.bind_some]
  repeat first|(refine qz fun K hK=>?_;go_simp;refine hK _ _ ?_;clear hK K)|(apply qC;(intro w2 hw2;have hk1:=hw2.cell;have hk3:=hw2.1;clear hw2;go_simp;with_reducible rfl);simp only[Act.put,sA,sB,sC])|refine qH rfl rfl ?_|(refine qQ rfl rfl fun K hK=>?_;simp only[Act.put,sA,sB,sC];refine hK _ _ ?_;clear hK K)
  refine qM (fun K hK=>?_);go_simp;refine(SC.o).mono ?_;rintro e X2 ⟨rfl,hb⟩;refine hK _ _ ?_;clear hK K;have BX:=qh ((Below.refl w.heap.size w).drew.trans hb);clear hb
  repeat first|(refine qz fun K hK=>?_;go_simp;refine hK _ _ ?_;clear hK K)|refine qu ?_
  go_wp2;go_ret;exact⟨rfl,BX.o⟩
theorem Rs {w:World} {b:Nat} {m':xz} {a':St} (hb:w.heap[b]?=some (.cells #[.pointer (some ⟨m'.p,0,none⟩)] 133 (0,0))) {cs:Array Value} (hm:w.heap[m'.p]?=some (.cells cs 140 (0,0))) (h8:w.cell? ⟨m'.p,8,none⟩=some (.map (some m'.wm))) (hw:Qj w m'.wm (ja a').length (ja a')) (hd:yJ dI (ja a')):
  qdq 121 #[.pointer (some ⟨b,0,none⟩)] (fun o=>(fnd o (ja a')).isSome) w:=by
 intro W x hx hB;have c0:=qa (qp hb hB (qd hb)) 0;simp at c0;have c8:=qx hB (qd hm) h8;have l0:=qd (qp hb hB (qd hb));have l8:m'.p < W.heap.size:=Nat.lt_of_lt_of_le (qd hm) hB.size;have lk:=Yd (hw.below hB hw.lt) hd hx (r:=fnd x (ja a')) rfl;have ea:∀a b:Value,(#[a]++#[b]:Array Value)=#[a,b]:=fun a b=>by simp
 rw[ea];obtain⟨r,hr⟩:∃r,fnd x (ja a')=r:=⟨_,rfl⟩
 rw[hr] at lk;show Calls _ _ _ W fun e w'=>e=.returned (.bool (fnd x (ja a')).isSome)/\Below W.heap.size W w';rw[hr];clear hr hb hm h8 hw hB ea;go_enter Tryz.func121,Tryz.ntmps121;go_wp2;go_ret;exact⟨rfl,Below.refl _ _⟩
theorem qac {w:World} {b:Nat} {m':xz} {a':St} (hb:w.heap[b]?=some (.cells #[.pointer (some ⟨m'.p,0,none⟩)] 133 (0,0))) {cs:Array Value} (hm:w.heap[m'.p]?=some (.cells cs 140 (0,0))) (h8:w.cell? ⟨m'.p,8,none⟩=some (.map (some m'.wm))) (hw:Qj w m'.wm (ja a').length (ja a')) (hd:yJ dI (ja a')):
  qdq 123 #[.pointer (some ⟨b,0,none⟩)] (fun o=>(fnd o (ja a')).isSome) w:=by
 intro W x hx hB;have c0:=qa (qp hb hB (qd hb)) 0;simp at c0;have c8:=qx hB (qd hm) h8;have l0:=qd (qp hb hB (qd hb));have l8:m'.p < W.heap.size:=Nat.lt_of_lt_of_le (qd hm) hB.size;have lk:=Yd (hw.below hB hw.lt) hd hx (r:=fnd x (ja a')) rfl;have ea:∀a b:Value,(#[a]++#[b]:Array Value)=#[a,b]:=fun a b=>by simp
 rw[ea];obtain⟨r,hr⟩:∃r,fnd x (ja a')=r:=⟨_,rfl⟩
 rw[hr] at lk;show Calls _ _ _ W fun e w'=>e=.returned (.bool (fnd x (ja a')).isSome)/\Below W.heap.size W w';rw[hr];clear hr hb hm h8 hw hB ea;go_enter Tryz.func123,Tryz.ntmps123;go_wp2;go_ret;exact⟨rfl,Below.refl _ _⟩
theorem qdR (h:xT w lo hi pW bB lev ov vv ms lv A T) (hd:Qg A) (hr:yE w pW n) (h1:ms[i]?=some m) (h2:ms[j]?=some m') (g1:A[i]?=some a) (g2:A[j]?=some a'):
  Calls Tryz.prog 120 #[.pointer (some ⟨m.p,0,none⟩),.pointer (some ⟨m'.p,0,none⟩),.pointer (some ⟨n+1,0,none⟩)] w fun e w'=>e=.returned (.bool (Yy (T.getD i false) (T.getD j false) a a'))/\Below w.heap.size w w':=by
 have q1:=h.mv i m a h1 g1;have q2:=h.mv j m' a' h2 g2;have r1:=q1.row;have r2:=q2.row;have hsm:=qa hr.same 0;have hsl:=qd hr.same;have han:=qa hr.any_ 0;have hal:=qd hr.any_;simp at hsm han;have s1:=qa r1;have s2:=qa r2;have x7:=s1 7;have x8:=s1 8;have x10:=s1 10;have z7:=s2 7;have z8:=s2 8;have z10:=s2 10;simp at x7 x8 x10 z7 z8 z10;rw[←List.getD_eq_getElem?_getD] at x10 z10;obtain⟨ta,hta⟩:∃ta,T.getD i false=ta:=⟨_,rfl⟩
 obtain⟨tb,htb⟩:∃tb,T.getD j false=tb:=⟨_,rfl⟩
 rw[hta] at x10;rw[htb] at z10;have xl:=qd r1;have zl:=qd r2;have R1:=qh q1.rd;have V1:=qh q1.wr;have R2:=qh q2.rd;have V2:=qh q2.wr;have D1:=qh (hd a (List.mem_of_getElem? g1));have D2:=qh (hd a' (List.mem_of_getElem? g2));have r2':=qh r2;have BB:=qh (show Below w.heap.size w (w.alloc (.cells #[.pointer (some ⟨m'.p,0,none⟩)] 133)) from(Below.refl _ w).alloc (Nat.le_refl _) _);have rb:=qy w (.cells #[.pointer (some ⟨m'.p,0,none⟩)] 133);have yb:(w.alloc (.cells #[.pointer (some ⟨m'.p,0,none⟩)] 133)).cell? ⟨w.heap.size,0,none⟩=some (.pointer (some ⟨m'.p,0,none⟩)):=qa rb 0;have ybl:=qd rb;have PC:=qh (Rs (w:=(w.alloc (.cells #[.pointer (some ⟨m'.p,0,none⟩)] 133)).drew) rb (qp r2 BB.o.drew (qd r2)) (qx BB.o.drew (qd r2) z8) (V2.o.below BB.o.drew V2.o.lt) D2.o.2);have SC:=qh (Rt (w:=(w.alloc (.cells #[.pointer (some ⟨m'.p,0,none⟩)] 133)).drew) (V1.o.below BB.o V1.o.lt).drew (R2.o.below BB.o R2.o.lt).drew D1.o.2 (XN a) D2.o.1 (enters_of Tryz.func121 (by kernel_rfl) rfl) PC.o);have x7:=qx BB.o xl x7;have x8:=qx BB.o xl x8;have x10:=qx BB.o xl x10;have z7:=qx BB.o zl z7;have z8:=qx BB.o zl z8;have z10:=qx BB.o zl z10;have hsm:=qx BB.o hsl hsm;have xl:m.p < (w.alloc (.cells #[.pointer (some ⟨m'.p,0,none⟩)] 133)).heap.size:=Nat.lt_of_lt_of_le xl BB.o.size;have zl:m'.p < (w.alloc (.cells #[.pointer (some ⟨m'.p,0,none⟩)] 133)).heap.size:=Nat.lt_of_lt_of_le zl BB.o.size;have hsl:n+1 < (w.alloc (.cells #[.pointer (some ⟨m'.p,0,none⟩)] 133)).heap.size:=Nat.lt_of_lt_of_le hsl BB.o.size;rw[hta,htb];clear s1 s2 r1 r2 r2' q1 q2 h hr g1 g2 h1 h2 hta htb hd rb hal han;go_enter Tryz.func120,Tryz.ntmps120;go_wp2_with fail;generalize w.alloc (.cells #[.pointer (some ⟨m'.p,0,none⟩)] 133)=W at *;cases ta with
 |false=>
  refine qI (W.heap.size) [0,0,0,1,0,1,0,0,1,0,0,1,0,0,0,1,1,0,0,1,0,2,0,0] (.fin [0,1,2,3,4,5,6,7,8,9,10,11,12,13,14,15,16,17,18,19,20,21,22,23]) (by kernel_rfl) ?_;simp only[xi,qP,qA,sD,sE,sF,sG,Option.bind_some]
  repeat first|(refine qz fun K hK=>?_;go_simp;refine hK _ _ ?_;clear hK K)|(apply qC;(intro w2 hw2;have hk1:=hw2.cell;have hk3:=hw2.1;clear hw2;go_simp;with_reducible rfl);simp only[Act.put,sA,sB,sC])|refine qH rfl rfl ?_|(refine qQ rfl rfl fun K hK=>?_;simp only[Act.put,sA,sB,sC];refine hK _ _ ?_;clear hK K)|(refine qW rfl fun K hK=>?_;simp only[Act.put,sA,sB,sC];refine hK _ _ ?_;clear hK K)|refine qu ?_
  go_wp2;go_ret;exact⟨rfl,BB.o.drew⟩
 |true=>
  cases tb with
  |false=>
   refine qI (W.heap.size) [0,0,0,1,0,1,0,0,1,0,0,1,0,0,0,1,1,0,0,1,0,2,0,0] (.fin [0,1,2,3,4,5,6,7,8,9,10,11,12,13,14,15,16,17,18,19,20,21,22,23]) (by kernel_rfl) ?_;simp only[xi,qP,qA,sD,sE,sF,sG,Option.bind_some]
   repeat first|(refine qz fun K hK=>?_;go_simp;refine hK _ _ ?_;clear hK K)|(apply qC;(intro w2 hw2;have hk1:=hw2.cell;have hk3:=hw2.1;clear hw2;go_simp;with_reducible rfl);simp only[Act.put,sA,sB,sC])|refine qH rfl rfl ?_|(refine qQ rfl rfl fun K hK=>?_;simp only[Act.put,sA,sB,sC];refine hK _ _ ?_;clear hK K)|(refine qW rfl fun K hK=>?_;simp only[Act.put,sA,sB,sC];refine hK _ _ ?_;clear hK K)|refine qu ?_
   go_wp2;go_ret;exact⟨rfl,BB.o.drew⟩
  |true=>
   refine qI (W.heap.size) [0,0,0,1,0,1,0,0,1,0,0,1,0,0,0,1,1,0,0,1,0,2,0,0] (.fin [0,1,2,3,4,5,6,7,8,9,10,11,12,13,14,15,16,17,18,19,20,21,22,23]) (by kernel_rfl) ?_;simp only[xi,qP,qA,sD,sE,sF,sG,Option.bind_some]
   repeat first|(refine qz fun K hK=>?_;go_simp;refine hK _ _ ?_;clear hK K)|(apply qC;(intro w2 hw2;have hk1:=hw2.cell;have hk3:=hw2.1;clear hw2;go_simp;with_reducible rfl);simp only[Act.put,sA,sB,sC])|refine qH rfl rfl ?_|(refine qQ rfl rfl fun K hK=>?_;simp only[Act.put,sA,sB,sC];refine hK _ _ ?_;clear hK K)
   refine qM (fun K hK=>?_);go_simp;refine(SC.o).mono ?_;rintro e X2 ⟨rfl,hb⟩;refine hK _ _ ?_;clear hK K;have BX:=qh (BB.o.trans ((show Below W.heap.size W X2 from(Below.refl _ W).drew.trans hb).mono BB.o.size));clear hb
   repeat first|(refine qz fun K hK=>?_;go_simp;refine hK _ _ ?_;clear hK K)|refine qu ?_
   go_wp2;go_ret;exact⟨rfl,BX.o⟩
theorem qfy (h:xT w lo hi pW bB lev ov vv ms lv A T) (hd:Qg A) (hr:yE w pW n) (h1:ms[i]?=some m) (h2:ms[j]?=some m') (g1:A[i]?=some a) (g2:A[j]?=some a'):
  Calls Tryz.prog 122 #[.pointer (some ⟨m.p,0,none⟩),.pointer (some ⟨m'.p,0,none⟩),.pointer (some ⟨n+1,0,none⟩)] w fun e w'=>e=.returned (.bool (vg (T.getD j false) a a'))/\Below w.heap.size w w':=by
 have q1:=h.mv i m a h1 g1;have q2:=h.mv j m' a' h2 g2;have r1:=q1.row;have r2:=q2.row;have hsm:=qa hr.same 0;have hsl:=qd hr.same;have han:=qa hr.any_ 0;have hal:=qd hr.any_;simp at hsm han;have s1:=qa r1;have s2:=qa r2;have x7:=s1 7;have x8:=s1 8;have x10:=s1 10;have z7:=s2 7;have z8:=s2 8;have z10:=s2 10;simp at x7 x8 x10 z7 z8 z10;rw[←List.getD_eq_getElem?_getD] at x10 z10;obtain⟨ta,hta⟩:∃ta,T.getD i false=ta:=⟨_,rfl⟩
 obtain⟨tb,htb⟩:∃tb,T.getD j false=tb:=⟨_,rfl⟩
 rw[hta] at x10;rw[htb] at z10;have xl:=qd r1;have zl:=qd r2;have R1:=qh q1.rd;have V1:=qh q1.wr;have R2:=qh q2.rd;have V2:=qh q2.wr;have D1:=qh (hd a (List.mem_of_getElem? g1));have D2:=qh (hd a' (List.mem_of_getElem? g2));have r2':=qh r2;have BB:=qh (show Below w.heap.size w (w.alloc (.cells #[.pointer (some ⟨m'.p,0,none⟩)] 133)) from(Below.refl _ w).alloc (Nat.le_refl _) _);have rb:=qy w (.cells #[.pointer (some ⟨m'.p,0,none⟩)] 133);have yb:(w.alloc (.cells #[.pointer (some ⟨m'.p,0,none⟩)] 133)).cell? ⟨w.heap.size,0,none⟩=some (.pointer (some ⟨m'.p,0,none⟩)):=qa rb 0;have ybl:=qd rb;have PC:=qh (qac (w:=(w.alloc (.cells #[.pointer (some ⟨m'.p,0,none⟩)] 133)).drew) rb (qp r2 BB.o.drew (qd r2)) (qx BB.o.drew (qd r2) z8) (V2.o.below BB.o.drew V2.o.lt) D2.o.2);have SC:=qh (Rt (w:=(w.alloc (.cells #[.pointer (some ⟨m'.p,0,none⟩)] 133)).drew) (R1.o.below BB.o R1.o.lt).drew (R2.o.below BB.o R2.o.lt).drew D1.o.1 (VH a) D2.o.1 (enters_of Tryz.func123 (by kernel_rfl) rfl) PC.o);have x7:=qx BB.o xl x7;have x8:=qx BB.o xl x8;have x10:=qx BB.o xl x10;have z7:=qx BB.o zl z7;have z8:=qx BB.o zl z8;have z10:=qx BB.o zl z10;have hsm:=qx BB.o hsl hsm;have xl:m.p < (w.alloc (.cells #[.pointer (some ⟨m'.p,0,none⟩)] 133)).heap.size:=Nat.lt_of_lt_of_le xl BB.o.size;have zl:m'.p < (w.alloc (.cells #[.pointer (some ⟨m'.p,0,none⟩)] 133)).heap.size:=Nat.lt_of_lt_of_le zl BB.o.size;have hsl:n+1 < (w.alloc (.cells #[.pointer (some ⟨m'.p,0,none⟩)] 133)).heap.size:=Nat.lt_of_lt_of_le hsl BB.o.size;rw[htb];clear s1 s2 r1 r2 r2' q1 q2 h hr g1 g2 h1 h2 hta htb hd rb hal han;go_enter Tryz.func122,Tryz.ntmps122;go_wp2_with fail;generalize w.alloc (.cells #[.pointer (some ⟨m'.p,0,none⟩)] 133)=W at *;cases tb with
 |false=>
  refine qI (W.heap.size) [1,0,0,1,0,1,0,0,0,1,1,0,0,1,0,2,0,0] (.fin [0,1,2,3,4,5,6,7,8,9,10,11,12,13,14,15,16,17]) (by kernel_rfl) ?_;simp only[xi,qP,qA,sD,sE,sF,sG,Option.bind_some]
  repeat first|(refine qz fun K hK=>?_;go_simp;refine hK _ _ ?_;clear hK K)|(apply qC;(intro w2 hw2;have hk1:=hw2.cell;have hk3:=hw2.1;clear hw2;go_simp;with_reducible rfl);simp only[Act.put,sA,sB,sC])|refine qH rfl rfl ?_|(refine qQ rfl rfl fun K hK=>?_;simp only[Act.put,sA,sB,sC];refine hK _ _ ?_;clear hK K)|(refine qW rfl fun K hK=>?_;simp only[Act.put,sA,sB,sC];refine hK _ _ ?_;clear hK K)|refine qu ?_
  go_wp2;go_ret;exact⟨rfl,BB.o.drew⟩
 |true=>
  refine qI (W.heap.size) [1,0,0,1,0,1,0,0,0,1,1,0,0,1,0,2,0,0] (.fin [0,1,2,3,4,5,6,7,8,9,10,11,12,13,14,15,16,17]) (by kernel_rfl) ?_;simp only[xi,qP,qA,sD,sE,sF,sG,Option.bind_some]
  repeat first|(refine qz fun K hK=>?_;go_simp;refine hK _ _ ?_;clear hK K)|(apply qC;(intro w2 hw2;have hk1:=hw2.cell;have hk3:=hw2.1;clear hw2;go_simp;with_reducible rfl);simp only[Act.put,sA,sB,sC])|refine qH rfl rfl ?_|(refine qQ rfl rfl fun K hK=>?_;simp only[Act.put,sA,sB,sC];refine hK _ _ ?_;clear hK K)
  refine qM (fun K hK=>?_);go_simp;refine(SC.o).mono ?_;rintro e X2 ⟨rfl,hb⟩;refine hK _ _ ?_;clear hK K;have BX:=qh (BB.o.trans ((show Below W.heap.size W X2 from(Below.refl _ W).drew.trans hb).mono BB.o.size));clear hb
  repeat first|(refine qz fun K hK=>?_;go_simp;refine hK _ _ ?_;clear hK K)|refine qu ?_
  go_wp2;go_ret;exact⟨rfl,BX.o⟩
end
end
structure ug (w:World) (lo hi p b:Nat) (ow:Nat->Int) (M:List (Int×Nat)) (A:Int->List (Int×Nat)) (N:List Int) (E:List jX):Prop where
 ptr:w.heap[p]?=some (.cells #[.map (some b)] 106 (0,0))
 hp:lo<=p/\p < hi
 hb:lo<=b/\b < hi
 o:qaT w b M
 srtM:zm M
 keys:M.map (·.1)=N
 inn:∀a u,(a,u) ∈ M->(lo<=u/\u < hi/\u≠b/\ow u=a)/\qaT w u (A a)/\zm (A a)/\(A a).map (·.1)=row (xF E) a
 leaf:∀a u c v,(a,u) ∈ M->(c,v) ∈ A a->(lo<=v/\v < hi/\v≠b/\v≠u/\ow v=a)/\qaU w v (ju (zb E a c))
 inj:∀a u c c' v,(a,u) ∈ M->(c,v) ∈ A a->(c',v) ∈ A a->c=c'
 ok:UE N E
 domN:∀a ∈ N,dI a
 domE:∀e ∈ E,dI e.2.2
def jt (w:World) (lo hi p:Nat) (N:List Int) (E:List jX):Prop:=∃b ow M A,ug w lo hi p b ow M A N E
section
variable {w w':World} {lo hi p b:Nat} {ow:Nat->Int} {M:List (Int×Nat)} {A:Int->List (Int×Nat)} {N:List Int} {E:List jX}
theorem ug.below {K:Nat} (h:ug w lo hi p b ow M A N E) (hb:Below K w w') (hK:hi<=K):ug w' lo hi p b ow M A N E:=
 {h with
  ptr:=qp h.ptr hb (by have:=h.hp;omega)
  o:=h.o.below hb (by have:=h.hb;omega)
  inn:=fun a u hu=>let ⟨h1,h2,h3⟩:=h.inn a u hu;⟨h1,h2.below hb (by omega),h3⟩
  leaf:=fun a u c v hu hv=>let ⟨h1,h2⟩:=h.leaf a u c v hu hv;⟨h1,h2.below hb (by omega)⟩}
theorem jt.below {K:Nat} (h:jt w lo hi p N E) (hb:Below K w w') (hK:hi<=K):jt w' lo hi p N E:=let ⟨b,ow,M,A,h⟩:=h;⟨b,ow,M,A,h.below hb hK⟩
theorem ug.raise {hi':Nat} (h:ug w lo hi p b ow M A N E) (hh:hi<=hi'):ug w lo hi' p b ow M A N E:=
 {h with
  hp:=⟨h.hp.1,Nat.lt_of_lt_of_le h.hp.2 hh⟩
  hb:=⟨h.hb.1,Nat.lt_of_lt_of_le h.hb.2 hh⟩
  inn:=fun a u hu=>let ⟨h1,h2⟩:=h.inn a u hu;⟨⟨h1.1,Nat.lt_of_lt_of_le h1.2.1 hh,h1.2.2⟩,h2⟩
  leaf:=fun a u c v hu hv=>let ⟨h1,h2⟩:=h.leaf a u c v hu hv;⟨⟨h1.1,Nat.lt_of_lt_of_le h1.2.1 hh,h1.2.2⟩,h2⟩}
theorem jt.raise {hi':Nat} (h:jt w lo hi p N E) (hh:hi<=hi'):jt w lo hi' p N E:=let ⟨b,ow,M,A,h⟩:=h;⟨b,ow,M,A,h.raise hh⟩
theorem jt.ok (h:jt w lo hi p N E):UE N E:=let ⟨_,_,_,_,h⟩:=h;h.ok
theorem jt.domN (h:jt w lo hi p N E):∀a ∈ N,dI a:=let ⟨_,_,_,_,h⟩:=h;h.domN
theorem jt.lt (h:jt w lo hi p N E):lo<=p/\p < hi:=let ⟨_,_,_,_,h⟩:=h;h.hp
theorem ug.domM (h:ug w lo hi p b ow M A N E):yJ dI M:=fun q hq=>h.domN _ (by rw[←h.keys];exact List.mem_map.2 ⟨q,hq,rfl⟩)
theorem ug.inN (h:ug w lo hi p b ow M A N E) {a:Int} {u:Nat} (hu:(a,u) ∈ M):a ∈ N:=by rw[←h.keys];exact List.mem_map.2 ⟨_,hu,rfl⟩
theorem ug.domR (h:ug w lo hi p b ow M A N E) (a:Int):∀c ∈ row (xF E) a,dI c:=fun _ hc=>h.domN _ (h.ok.pair (xG.1 hc)).2
theorem ug.domA (h:ug w lo hi p b ow M A N E) {a:Int} {u:Nat} (hu:(a,u) ∈ M):yJ dI (A a):=fun q hq=>by
 refine h.domR a q.1 ?_;rw[←(h.inn a u hu).2.2.2];exact List.mem_map.2 ⟨q,hq,rfl⟩
theorem ug.domK (h:ug w lo hi p b ow M A N E) (a c:Int):∀k ∈ zb E a c,dI k:=fun _ hk=>h.domE _ (zi.1 hk)
theorem ug.here (h:ug w lo hi p b ow M A N E) {a:Int} {u:Nat} (hf:fnd a M=some u):(a,u) ∈ M:=(fnd_some h.srtM).1 hf
theorem ug.hereA (h:ug w lo hi p b ow M A N E) {a c:Int} {u v:Nat} (hu:(a,u) ∈ M) (hf:fnd c (A a)=some v):(c,v) ∈ A a:=(fnd_some (h.inn a u hu).2.2.1).1 hf
theorem ug.gone (h:ug w lo hi p b ow M A N E) {a:Int} (hf:fnd a M=none):a ∉ N:=fun ha=>by
 rw[←h.keys] at ha;obtain⟨q,hq,rfl⟩:=List.mem_map.1 ha;exact(fnd_none.1 hf) q.2 hq
theorem ug.gone_row (h:ug w lo hi p b ow M A N E) {a:Int} (hf:fnd a M=none):row (xF E) a=[]:=by
 rw[List.eq_nil_iff_forall_not_mem];exact fun c hc=>h.gone hf (h.ok.pair (xG.1 hc)).1
theorem ug.goneA (h:ug w lo hi p b ow M A N E) {a c:Int} {u:Nat} (hu:(a,u) ∈ M) (hf:fnd c (A a)=none):c ∉ row (xF E) a:=fun hc=>by
 rw[←(h.inn a u hu).2.2.2] at hc;obtain⟨q,hq,rfl⟩:=List.mem_map.1 hc;exact(fnd_none.1 hf) q.2 hq
theorem ug.there (h:ug w lo hi p b ow M A N E) {a:Int} (ha:a ∈ N):∃u,fnd a M=some u:=by
 cases hf:fnd a M with
 |some u=>exact⟨u,rfl⟩
 |none=>exact absurd ha (h.gone hf)
theorem ug.lenM (h:ug w lo hi p b ow M A N E):M.length=N.length:=by have:=congrArg List.length h.keys;simpa using this
theorem ug.lenA (h:ug w lo hi p b ow M A N E) {a:Int} {u:Nat} (hu:(a,u) ∈ M):(A a).length<=E.length:=by
 have h1:=congrArg List.length (h.inn a u hu).2.2.2;rw[List.length_map] at h1;have h2:=Nf (xF E) a;have h3:=Jt E;omega
theorem ZK {q:Nat} {cs:Array Value} {t:TypeId} {fz:Nat×Nat} {P:Program} {K:TypeId} {R:RdU} {kl:Int->Lit} {ε:Type} {ed:ε->DU} {n:Nat} {L:List (Int×ε)} (hp:w.heap[p]?=some (.cells cs t fz)) (h:qO P K R kl ed w q n L):p≠q:=by
 rintro rfl;obtain⟨es,c,hb,_⟩:=h;rw[hp] at hb;cases hb
theorem ug.same (h:ug w lo hi p b ow M A N E) {a:Int} {u u':Nat} (hu:(a,u) ∈ M) (hu':(a,u') ∈ M):u'=u:=Option.some.inj (((fnd_some h.srtM).2 hu').symm.trans ((fnd_some h.srtM).2 hu))
theorem ug.node_new (h:ug w lo hi p b ow M A N E) (hhi:hi<=w.heap.size) {a:Int} (hf:fnd a M=none) (hw:(w.alloc (.map #[] 0)).mapTurned w' b) (ho:qaT w' b (upd a w.heap.size M)) (ha:dI a):
  ug w' lo w'.heap.size p b (fun v=>if v=w.heap.size then a else ow v) (upd a w.heap.size M) (fun x=>if x=a then[] else A x) (yL a N) E:=by
 have hz:=qU hw;rw[World.size_alloc] at hz;have hpb:=h.hp;have hbb:=h.hb;have hna:=h.gone hf;have hrow:=h.gone_row hf;have old:∀{i:Nat},i < w.heap.size->i≠b->w'.heap[i]?=(w.alloc (.map #[] 0)).heap[i]?:=fun _ hi=>qE hw hi;have hm:qaT w' w.heap.size []:=((qO.made w):qaT _ _ []).obj (qE hw (by omega));refine⟨?_,by omega,by omega,ho,je h.srtM,?_,fun x u hu=>?_,fun x u c v hu hc=>?_,fun x u c c' v hu hc hc'=>?_,h.ok.node a,fun x hx=>?_,h.domE⟩
 ·rw [qE hw (ZK h.ptr h.o)]
  exact qD h.ptr
 ·rw [ZU,h.keys]
 ·rcases (za h.srtM).1 hu with e|⟨hu,hne⟩
  ·simp only[Prod.mk.injEq] at e
   obtain⟨rfl,rfl⟩:=e;refine⟨by simp;omega,?_⟩;simp only[if_true];exact⟨hm,List.Pairwise.nil,by rw[hrow];rfl⟩
  ·obtain ⟨h1,h2,h3⟩:=h.inn x u hu
   refine⟨⟨by omega,by omega,h1.2.2.1,by rw[if_neg (by omega)];exact h1.2.2.2⟩,?_⟩;simp only[if_neg (show ¬x=a from hne)];exact⟨(h2.alloc _).obj (qE hw h1.2.2.1),h3⟩
 ·rcases (za h.srtM).1 hu with e|⟨hu,hne⟩
  ·simp only[Prod.mk.injEq] at e
   obtain⟨rfl,rfl⟩:=e;simp at hc
  ·simp only[if_neg (show ¬x=a from hne)] at hc
   obtain⟨h1,h2⟩:=h.leaf x u c v hu hc;exact⟨⟨by omega,by omega,h1.2.2.1,h1.2.2.2.1,by rw[if_neg (by omega)];exact h1.2.2.2.2⟩,(h2.alloc _).obj (qE hw h1.2.2.1)⟩
 ·rcases (za h.srtM).1 hu with e|⟨hu,hne⟩
  ·simp only[Prod.mk.injEq] at e
   obtain⟨rfl,rfl⟩:=e;simp at hc
  ·simp only[if_neg (show ¬x=a from hne)] at hc hc'
   exact h.inj x u c c' v hu hc hc'
 ·rcases xa.1 hx with rfl|hx
  ·exact ha
  ·exact h.domN x hx
theorem ug.edge_old (h:ug w lo hi p b ow M A N E) {a c k:Int} {u v:Nat} (hu:(a,u) ∈ M) (hv:(c,v) ∈ A a) (hw:w.mapTurned w' v) (hm:qaU w' v (ju (yL k (zb E a c)))) (hk:dI k):
  ug w' lo hi p b ow M A N (vJ (a,c,k) E):=by
 have h1:=(h.leaf a u c v hu hv).1;have hc:c ∈ row (xF E) a:=by rw[←(h.inn a u hu).2.2.2];exact List.mem_map.2 ⟨_,hv,rfl⟩
 have hac:=h.ok.pair (xG.1 hc);refine⟨?_,h.hp,h.hb,h.o.obj (qE hw h1.2.2.1.symm),h.srtM,h.keys,fun x u' hu'=>?_,fun x u' c' v' hu' hc'=>?_,h.inj,?_,h.domN,fun e he=>?_⟩
 ·rw [qE hw (ZK h.ptr (h.leaf a u c v hu hv).2)]
  exact h.ptr
 ·obtain ⟨h2,h3,h4,h5⟩:=h.inn x u' hu'
  refine⟨h2,h3.obj (qE hw ?_),h4,?_⟩
  ·rintro rfl
   have e1:x=a:=h2.2.2.2.symm.trans h1.2.2.2.2;subst e1;exact h1.2.2.2.1 (h.same hu hu')
  ·by_cases e:x=a
   ·subst e
    rw[XV,Zn (QX (vA E) x) hc];exact h5
   ·rw [Xm E a c k e]
    exact h5
 ·obtain ⟨h2,h3⟩:=h.leaf x u' c' v' hu' hc'
  refine⟨h2,?_⟩;by_cases e:v'=v
  ·subst e
   have e1:x=a:=h2.2.2.2.2.symm.trans h1.2.2.2.2;subst e1;have e2:c'=c:=h.inj x u' c' c v' hu' hc' hv;subst e2;rw[Qu h.ok.srtE];exact hm
  ·rw [jZ h.ok.srtE]
   ·exact h3.obj (qE hw e)
   ·by_cases e1:x=a
    ·subst e1
     refine .inr fun e2=>e ?_;subst e2;exact Option.some.inj (((fnd_some (h.inn x u' hu').2.2.1).2 hc').symm.trans ((fnd_some (h.inn x u' hu').2.2.1).2 hv))
    ·exact .inl e1
 ·refine ⟨h.ok.srtN,uY h.ok.srtE,fun e he=>?_⟩
  rcases yh.1 he with rfl|he
  ·exact hac
  ·exact h.ok.sub e he
 ·rcases yh.1 he with rfl|he
  ·exact hk
  ·exact h.domE e he
theorem ug.edge_new (h:ug w lo hi p b ow M A N E) (hhi:hi<=w.heap.size) {a c k:Int} {u:Nat} (hu:(a,u) ∈ M) (hcN:c ∈ N) (hf:fnd c (A a)=Option.none) {w1 w2:World} (hw1:(w.alloc (.map #[] 0)).mapTurned w1 u) (hw2:w1.mapTurned w2 w.heap.size)
  (ho:qaT w1 u (upd c w.heap.size (A a))) (hm:qaU w2 w.heap.size (ju [k])) (hk:dI k):
  ug w2 lo w2.heap.size p b (fun v=>if v=w.heap.size then a else ow v) M (fun x=>if x=a then upd c w.heap.size (A a) else A x) N (vJ (a,c,k) E):=by
 have hz1:=qU hw1;have hz2:=qU hw2;rw[World.size_alloc] at hz1;have hpb:=h.hp;have hbb:=h.hb;have haN:=h.inN hu;have hnc:=h.goneA hu hf;obtain⟨i1,i2,i3,i4⟩:=h.inn a u hu;refine⟨?_,by omega,by omega,?_,h.srtM,h.keys,fun x u' hu'=>?_,fun x u' c' v' hu' hc'=>?_,fun x u' c1 c2 v' hu' hc1 hc2=>?_,?_,h.domN,fun e he=>?_⟩
 ·rw [qE hw2 (by omega),qE hw1 (ZK h.ptr i2)]
  exact qD h.ptr
 ·exact ((h.o.alloc _).obj (qE hw1 i1.2.2.1.symm)).obj (qE hw2 (by omega))
 ·obtain ⟨h2,h3,h4,h5⟩:=h.inn x u' hu'
  refine⟨⟨by omega,by omega,h2.2.2.1,by rw[if_neg (by omega)];exact h2.2.2.2⟩,?_⟩;by_cases e:x=a
  ·subst e
   have e2:=h.same hu hu';subst e2;simp only[if_true];refine⟨ho.obj (qE hw2 (by omega)),je i3,?_⟩;rw[ZU,i4,XV]
  ·simp only[if_neg e]
   refine⟨((h3.alloc _).obj (qE hw1 ?_)).obj (qE hw2 (by omega)),h4,by rw[Xm E a c k e];exact h5⟩;rintro rfl;exact e (h2.2.2.2.symm.trans i1.2.2.2)
 ·by_cases e:x=a
  ·subst e
   have e2:=h.same hu hu';subst e2;simp only[if_true] at hc';rcases(za i3).1 hc' with e3|⟨hc',hne⟩
   ·simp only[Prod.mk.injEq] at e3
    obtain⟨rfl,rfl⟩:=e3;refine⟨⟨by omega,by omega,by omega,by omega,by simp⟩,?_⟩;rw[Qu h.ok.srtE,qat hnc];exact hm
   ·obtain ⟨h2,h3⟩:=h.leaf x u' c' v' hu' hc'
    refine⟨⟨by omega,by omega,h2.2.2.1,h2.2.2.2.1,by rw[if_neg (by omega)];exact h2.2.2.2.2⟩,?_⟩;rw[jZ h.ok.srtE _ _ _ (.inr hne)];exact((h3.alloc _).obj (qE hw1 h2.2.2.2.1)).obj (qE hw2 (by omega))
  ·simp only[if_neg e] at hc'
   obtain⟨h2,h3⟩:=h.leaf x u' c' v' hu' hc';refine⟨⟨by omega,by omega,h2.2.2.1,h2.2.2.2.1,by rw[if_neg (by omega)];exact h2.2.2.2.2⟩,?_⟩;rw[jZ h.ok.srtE _ _ _ (.inl e)];refine((h3.alloc _).obj (qE hw1 ?_)).obj (qE hw2 (by omega));rintro rfl;exact e (h2.2.2.2.2.symm.trans i1.2.2.2)
 ·by_cases e:x=a
  ·subst e
   have e2:=h.same hu hu';subst e2;simp only[if_true] at hc1 hc2;rcases(za i3).1 hc1 with e3|⟨hc1,hne1⟩
   ·rcases (za i3).1 hc2 with e4|⟨hc2,hne2⟩
    ·simp only[Prod.mk.injEq] at e3 e4;rw[e3.1,e4.1]
    ·have:=(h.leaf x u' c2 v' hu' hc2).1;simp only[Prod.mk.injEq] at e3;omega
   ·rcases (za i3).1 hc2 with e4|⟨hc2,hne2⟩
    ·have:=(h.leaf x u' c1 v' hu' hc1).1;simp only[Prod.mk.injEq] at e4;omega
    ·exact h.inj x u' c1 c2 v' hu' hc1 hc2
  ·simp only[if_neg e] at hc1 hc2
   exact h.inj x u' c1 c2 v' hu' hc1 hc2
 ·refine ⟨h.ok.srtN,uY h.ok.srtE,fun e he=>?_⟩
  rcases yh.1 he with rfl|he
  ·exact ⟨haN,hcN⟩
  ·exact h.ok.sub e he
 ·rcases yh.1 he with rfl|he
  ·exact hk
  ·exact h.domE e he
end
theorem qgC (w:World):(zeroValue 103).run Tryz.prog w=.ok (.map none) w:=by kernel_rfl
section
variable {w:World} {lo hi p b:Nat} {ow:Nat->Int} {M:List (Int×Nat)} {A:Int->List (Int×Nat)} {N:List Int} {E:List jX}
theorem qfd {u n:Nat} {L:List (Int×Nat)} (h:qO Tryz.prog 3 NI (.int .i64) (fun r:Nat=>.lit (.int .i64 r)) w u n L) (hd:yJ dI L) {a:Int} (ha:dI a):(Instr.lookup 104 (.map (some u)) (.int .i64 a) false).run Tryz.prog w=.ok (.map (fnd a L)) w:=by
 have:=h.look zy jj hd Tryz.underlying104 (qgC w) ha;rw[this];cases fnd a L <;> rfl
theorem qfe {u n:Nat} {L:List (Int×Nat)} (h:qO Tryz.prog 3 NI (.int .i64) (fun r:Nat=>.lit (.int .i64 r)) w u n L) (hd:yJ dI L) {a:Int} (ha:dI a):(Instr.lookup 103 (.map (some u)) (.int .i64 a) false).run Tryz.prog w=.ok (.map (fnd a L)) w:=by
 have:=h.look zy jj hd Tryz.underlying103 (qgB w) ha;rw[this];cases fnd a L <;> rfl
theorem ug.look (h:ug w lo hi p b ow M A N E) {a:Int} (ha:dI a) {r:Option Nat} (hf:fnd a M=r):(Instr.lookup 104 (.map (some b)) (.int .i64 a) false).run Tryz.prog w=.ok (.map r) w:=by
 rw[←hf];exact qfd h.o h.domM ha
theorem ug.lookA (h:ug w lo hi p b ow M A N E) {a c:Int} {u:Nat} (hu:(a,u) ∈ M) (hc:dI c) {r:Option Nat} (hf:fnd c (A a)=r):(Instr.lookup 103 (.map (some u)) (.int .i64 c) false).run Tryz.prog w=.ok (.map r) w:=by
 rw[←hf];exact qfe (h.inn a u hu).2.1 (h.domA hu) hc
theorem ug.lookK (h:ug w lo hi p b ow M A N E) {a c k:Int} {u v:Nat} (hu:(a,u) ∈ M) (hv:(c,v) ∈ A a) (hk:dI k):(Instr.lookup 102 (.map (some v)) (.int .i64 k) false).run Tryz.prog w=.ok (.bool (decide ((a,c,k) ∈ E))) w:=by
 have:=Vd (h.leaf a u c v hu hv).2 (h.domK a c) hk;rw[this];simp only[zi]
end
