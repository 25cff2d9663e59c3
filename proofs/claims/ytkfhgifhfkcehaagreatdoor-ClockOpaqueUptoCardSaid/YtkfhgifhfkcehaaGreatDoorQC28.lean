/- Parts of the proof; the first: The library's contracts on the keys of a map[int]bool and on sorting, laid at this program's numbers. Conditions: those of each theorem, as typed. -/
import Derived.Shelf.SlIter.Nil
import Derived.Shelf.SlIterI.Nil
import Derived.Shelf.SortM.Plain
import Derived.Shelf.SortM.SortNone
import Derived.Ground.GgzProg
import Derived.Ground.SlgmProg
import Derived.Test.YtkfhgifhfkcehaaGreatDoorProg
import Derived.Test.YtkfhgifhfkcehaaGreatDoorQC10
import Derived.Test.YtkfhgifhfkcehaaGreatDoorQC26
set_option linter.unusedVariables false
set_option linter.unusedSimpArgs false
set_option linter.unusedSectionVars false
set_option maxRecDepth 100000
set_option maxHeartbeats 4000000
namespace Go.Proofs.YtkfhgifhfkcehaaGreatDoor
open Go.Maps Go.RowKit Go.Shelf Go.Sort
def keys97_ren:Go.Shelf.Ren:=⟨fun|7=>63|10=>111|n=>n,fun|23=>132|26=>3|3=>4|28=>140|0=>0|27=>139|33=>33|4=>4|n=>n,fun|n=>n⟩
theorem keys97:SlLaysZI.n7 Tryz.prog keys97_ren:={
 mixed:=by kernel_rfl
 f7:=⟨Tryz.f63.name,by decide,Tryz.func63.trans (congrArg some (by kernel_rfl))⟩
 f10:=⟨Tryz.f111.name,by decide,Tryz.func111.trans (congrArg some (by kernel_rfl))⟩
 t0:=Tryz.underlying0
 a0:=Tryz.isAgg0
 z0:=Tryz.sizeOf0
 v0:=Tryz.zeroValue0
 t4:=Tryz.underlying4
 a4:=Tryz.isAgg4
 z4:=Tryz.sizeOf4
 v4:=Tryz.zeroValue4
 t23:=Tryz.underlying132
 a23:=Tryz.isAgg132
 z23:=Tryz.sizeOf132
 v23:=Tryz.zeroValue132
 t26:=Tryz.underlying3
 a26:=Tryz.isAgg3
 z26:=Tryz.sizeOf3
 v26:=Tryz.zeroValue3
 t27:=Tryz.underlying139
 a27:=Tryz.isAgg139
 z27:=Tryz.sizeOf139
 v27:=Tryz.zeroValue139
 t28:=Tryz.underlying140
 a28:=Tryz.isAgg140
 z28:=Tryz.sizeOf140
 v28:=Tryz.zeroValue140
 t33:=Tryz.underlying33
 a33:=Tryz.isAgg33
 z33:=Tryz.sizeOf33
 v33:=Tryz.zeroValue33}
def sorted96_ren:Go.Shelf.Ren:=⟨fun|6=>62|8=>109|9=>110|11=>146|13=>148|12=>147|23=>208|24=>209|14=>199|15=>200|16=>201|17=>202|18=>203|19=>204|20=>205|21=>206|22=>207|25=>241|26=>242|27=>243|28=>244|29=>245|30=>246|31=>253|n=>n,fun|26=>3|28=>140|24=>22|0=>0|3=>3|37=>281|48=>332|50=>334|4=>4|40=>326|39=>325|45=>50|5=>5|9=>9|51=>352|55=>235|57=>360|58=>245|33=>33|n=>n,fun|n=>n⟩
theorem sorted96:SlLaysZI.n6 Tryz.prog sorted96_ren:={
 mixed:=by kernel_rfl
 f6:=⟨Tryz.f62.name,by decide,Tryz.func62.trans (congrArg some (by kernel_rfl))⟩
 f8:=⟨Tryz.f109.name,by decide,Tryz.func109.trans (congrArg some (by kernel_rfl))⟩
 f11:=⟨Tryz.f146.name,by decide,Tryz.func146.trans (congrArg some (by kernel_rfl))⟩
 t0:=Tryz.underlying0
 a0:=Tryz.isAgg0
 z0:=Tryz.sizeOf0
 v0:=Tryz.zeroValue0
 t24:=Tryz.underlying22
 a24:=Tryz.isAgg22
 z24:=Tryz.sizeOf22
 v24:=Tryz.zeroValue22
 t26:=Tryz.underlying3
 a26:=Tryz.isAgg3
 z26:=Tryz.sizeOf3
 v26:=Tryz.zeroValue3
 t28:=Tryz.underlying140
 a28:=Tryz.isAgg140
 z28:=Tryz.sizeOf140
 v28:=Tryz.zeroValue140
 i26:=by kernel_rfl}
def sort134_ren:Go.Shelf.Ren:=⟨fun|5=>110|8=>148|7=>147|19=>208|20=>209|10=>199|11=>200|12=>201|13=>202|14=>203|15=>204|16=>205|17=>206|18=>207|30=>241|31=>242|32=>243|33=>244|34=>245|35=>246|40=>253|n=>n,fun|23=>22|25=>3|3=>3|32=>281|22=>22|0=>0|44=>332|46=>334|4=>4|36=>326|35=>325|41=>50|5=>5|9=>9|53=>352|57=>235|63=>360|64=>245|n=>n,fun|n=>n⟩
theorem sort134:SlLaysM.n5 Tryz.prog sort134_ren:={
 mixed:=by kernel_rfl
 f5:=⟨Tryz.f110.name,by decide,Tryz.func110.trans (congrArg some (by kernel_rfl))⟩
 f7:=⟨Tryz.f147.name,by decide,Tryz.func147.trans (congrArg some (by kernel_rfl))⟩
 f8:=Tryz.func148.trans (congrArg some (by kernel_rfl))
 f10:=⟨Tryz.f199.name,by decide,Tryz.func199.trans (congrArg some (by kernel_rfl))⟩
 f11:=⟨Tryz.f200.name,by decide,Tryz.func200.trans (congrArg some (by kernel_rfl))⟩
 f12:=⟨Tryz.f201.name,by decide,Tryz.func201.trans (congrArg some (by kernel_rfl))⟩
 f13:=⟨Tryz.f202.name,by decide,Tryz.func202.trans (congrArg some (by kernel_rfl))⟩
 f14:=⟨Tryz.f203.name,by decide,Tryz.func203.trans (congrArg some (by kernel_rfl))⟩
 f15:=⟨Tryz.f204.name,by decide,Tryz.func204.trans (congrArg some (by kernel_rfl))⟩
 f16:=⟨Tryz.f205.name,by decide,Tryz.func205.trans (congrArg some (by kernel_rfl))⟩
 f17:=⟨Tryz.f206.name,by decide,Tryz.func206.trans (congrArg some (by kernel_rfl))⟩
 f18:=⟨Tryz.f207.name,by decide,Tryz.func207.trans (congrArg some (by kernel_rfl))⟩
 f19:=Tryz.func208.trans (congrArg some (by kernel_rfl))
 f20:=Tryz.func209.trans (congrArg some (by kernel_rfl))
 f30:=⟨Tryz.f241.name,by decide,Tryz.func241.trans (congrArg some (by kernel_rfl))⟩
 f31:=Tryz.func242.trans (congrArg some (by kernel_rfl))
 f32:=Tryz.func243.trans (congrArg some (by kernel_rfl))
 f33:=⟨Tryz.f244.name,by decide,Tryz.func244.trans (congrArg some (by kernel_rfl))⟩
 f34:=⟨Tryz.f245.name,by decide,Tryz.func245.trans (congrArg some (by kernel_rfl))⟩
 f35:=⟨Tryz.f246.name,by decide,Tryz.func246.trans (congrArg some (by kernel_rfl))⟩
 f40:=⟨Tryz.f253.name,by decide,Tryz.func253.trans (congrArg some (by kernel_rfl))⟩
 t0:=Tryz.underlying0
 a0:=Tryz.isAgg0
 z0:=Tryz.sizeOf0
 v0:=Tryz.zeroValue0
 t3:=Tryz.underlying3
 a3:=Tryz.isAgg3
 z3:=Tryz.sizeOf3
 v3:=Tryz.zeroValue3
 t4:=Tryz.underlying4
 a4:=Tryz.isAgg4
 z4:=Tryz.sizeOf4
 v4:=Tryz.zeroValue4
 t5:=Tryz.underlying5
 a5:=Tryz.isAgg5
 z5:=Tryz.sizeOf5
 v5:=Tryz.zeroValue5
 t9:=Tryz.underlying9
 a9:=Tryz.isAgg9
 z9:=Tryz.sizeOf9
 v9:=Tryz.zeroValue9
 t22:=Tryz.underlying22
 a22:=Tryz.isAgg22
 z22:=Tryz.sizeOf22
 v22:=Tryz.zeroValue22
 t23:=Tryz.underlying22
 a23:=Tryz.isAgg22
 z23:=Tryz.sizeOf22
 v23:=Tryz.zeroValue22
 t25:=Tryz.underlying3
 a25:=Tryz.isAgg3
 z25:=Tryz.sizeOf3
 v25:=Tryz.zeroValue3
 t32:=Tryz.underlying281
 a32:=Tryz.isAgg281
 z32:=Tryz.sizeOf281
 v32:=Tryz.zeroValue281
 t35:=Tryz.underlying325
 a35:=Tryz.isAgg325
 z35:=Tryz.sizeOf325
 v35:=Tryz.zeroValue325
 t36:=Tryz.underlying326
 a36:=Tryz.isAgg326
 z36:=Tryz.sizeOf326
 v36:=Tryz.zeroValue326
 t41:=Tryz.underlying50
 a41:=Tryz.isAgg50
 z41:=Tryz.sizeOf50
 v41:=Tryz.zeroValue50
 t44:=Tryz.underlying332
 a44:=Tryz.isAgg332
 z44:=Tryz.sizeOf332
 v44:=Tryz.zeroValue332
 t46:=Tryz.underlying334
 a46:=Tryz.isAgg334
 z46:=Tryz.sizeOf334
 v46:=Tryz.zeroValue334
 t53:=Tryz.underlying352
 a53:=Tryz.isAgg352
 z53:=Tryz.sizeOf352
 v53:=Tryz.zeroValue352
 t57:=Tryz.underlying235
 a57:=Tryz.isAgg235
 z57:=Tryz.sizeOf235
 v57:=Tryz.zeroValue235
 t63:=Tryz.underlying360
 a63:=Tryz.isAgg360
 z63:=Tryz.sizeOf360
 v63:=Tryz.zeroValue360
 t64:=Tryz.underlying245
 a64:=Tryz.isAgg245
 z64:=Tryz.sizeOf245
 v64:=Tryz.zeroValue245}
theorem sorts96 (m:Nat):AnyZI.SortsIn Tryz.prog sorted96_ren Fence.wide m:=
 ⟨fun blk off cap ss W hH hblk hsz=>callsIn_wide.2 (AnyM.slices_Sort_int sort134 blk off cap ss W hH hblk hsz),
  fun p cap W=>callsIn_wide.2 (AnyM.slices_Sort_int_none sort134 p cap W)⟩
def SrtI (l:List Int):Prop:=l.Pairwise fun a b=>a < b
theorem srt_leI {l:List Int} (h:SrtI l):l.Pairwise fun a b=>leI a b=true:=h.imp fun {a b} h=>by simp[leI];omega
theorem mergeSort_srt {l ss:List Int} (hp:ss.Perm l) (h:SrtI l):ss.mergeSort leI=l:=by
 rw[mergeSort_of_perm_i hp];exact List.mergeSort_of_pairwise (srt_leI h)
theorem intKeys_mapD {ε:Type} (ed:ε->DU) (M:List (Int×ε)):intKeys (mapD (.int .i64) ed M)=M.map (·.1):=by
 simp[intKeys,mapD,Go.intOf]
theorem own_of_row {w:World} {B n:Nat} {v:Value} {l:List Int} (h:w.ownsRow B 3 1 v n (l.map (.int .i64))) (hn:n=l.length):yY w B v l:=by
 subst hn;show w.ownsRow B _ 1 v l.length (l.flatMap intC);rw[flat_int];exact h
theorem KSrt.keys {ε:Type} {M:List (Int×ε)} (h:KSrt M):SrtI (M.map (·.1)):=by
 unfold SrtI;rw[List.pairwise_map];exact h
theorem keysB (mb:Option Nat) (W:World):Calls Tryz.prog 63 #[.map mb] W fun e w'=>e=.returned (.func (.func 111) #[] #[.pointer (some ⟨W.heap.size,0,none⟩)])/\w'=W.alloc (.cells #[.map mb] 132):=
 (callsIn_wide (n:=5)).1 (AnyZI.keys_in keys97 Fence.wide 5 trivial rfl mb W)
theorem sortedB {ε:Type} {R:RdU} {ed:ε->DU} {M:List (Int×ε)} {w:World} {b n:Nat} (h:xF Tryz.prog 3 R (.int .i64) ed w b n M) (hs:KSrt M) (hn:n<=1000000):
  Calls Tryz.prog 62 #[.func (.func 111) #[] #[.pointer (some ⟨w.heap.size,0,none⟩)]] (w.alloc (.cells #[.map (some b)] 132)) fun e w'=>∃v,e=.returned v/\yY w' (w.heap.size+1) v (M.map (·.1))/\
   Below (w.heap.size+1) (w.alloc (.cells #[.map (some b)] 132)) w':=by
 have hlen:=h.length_le;have hbl:=h.lt;have hseq:SeqGives Fence.wide 2 Tryz.prog 111 #[.pointer (some ⟨w.heap.size,0,none⟩)] encZ (fun ss=>ss.Perm (intKeys (mapD (.int .i64) ed M))) (Maps.size (mapD (.int .i64) ed M)) (w.alloc (.cells #[.map (some b)] 132)):=
  AnyZI.keys_gives (ρ:=keys97_ren) {keys97 with} Fence.wide _ trivial rfl (by omega) w.heap.size b n _ _ (by simp) (by simp) (by
   obtain⟨es,clock,hb,Ft,hs,hD⟩:=h;exact⟨es,clock,(Below.heap_alloc _ _ b hbl).trans hb,Ft,hs,hD⟩)
 refine((callsIn_wide (n:=5)).1 (AnyZI.sorted_in sorted96 Fence.wide 5 trivial trivial trivial trivial rfl (by omega) (sorts96 _) (enters_of Tryz.func110 (by kernel_rfl) rfl) 111 #[.pointer (some ⟨w.heap.size,0,none⟩)] trivial (enters_of Tryz.func111 (by kernel_rfl) rfl) _ _ (by rw[mapD_size];unfold maxLen;omega) (by rw[mapD_size];omega) _ hseq)).mono ?_;rintro e w' ⟨v,ss,rfl,hp,hrow,-,hb⟩;rw[intKeys_mapD] at hp;have hm:=mergeSort_srt hp hs.keys;rw[show (ss.mergeSort fun x y=>decide (x<=y))=M.map (·.1) from hm] at hrow;rw[World.size_alloc] at hrow hb;exact⟨v,rfl,own_of_row hrow (by have:=hp.length_eq;simpa using this),hb⟩
def keys105_ren:Go.Shelf.Ren:=⟨fun|7=>194|10=>240|n=>n,fun|23=>133|26=>3|3=>3|28=>140|0=>0|27=>139|33=>33|4=>4|n=>n,fun|n=>n⟩
theorem keys105:SlLaysZI.n7 Tryz.prog keys105_ren:={
 mixed:=by kernel_rfl
 f7:=⟨Tryz.f194.name,by decide,Tryz.func194.trans (congrArg some (by kernel_rfl))⟩
 f10:=⟨Tryz.f240.name,by decide,Tryz.func240.trans (congrArg some (by kernel_rfl))⟩
 t0:=Tryz.underlying0
 a0:=Tryz.isAgg0
 z0:=Tryz.sizeOf0
 v0:=Tryz.zeroValue0
 t4:=Tryz.underlying4
 a4:=Tryz.isAgg4
 z4:=Tryz.sizeOf4
 v4:=Tryz.zeroValue4
 t23:=Tryz.underlying133
 a23:=Tryz.isAgg133
 z23:=Tryz.sizeOf133
 v23:=Tryz.zeroValue133
 t26:=Tryz.underlying3
 a26:=Tryz.isAgg3
 z26:=Tryz.sizeOf3
 v26:=Tryz.zeroValue3
 t27:=Tryz.underlying139
 a27:=Tryz.isAgg139
 z27:=Tryz.sizeOf139
 v27:=Tryz.zeroValue139
 t28:=Tryz.underlying140
 a28:=Tryz.isAgg140
 z28:=Tryz.sizeOf140
 v28:=Tryz.zeroValue140
 t33:=Tryz.underlying33
 a33:=Tryz.isAgg33
 z33:=Tryz.sizeOf33
 v33:=Tryz.zeroValue33}
theorem keysI (mb:Option Nat) (W:World):Calls Tryz.prog 194 #[.map mb] W fun e w'=>e=.returned (.func (.func 240) #[] #[.pointer (some ⟨W.heap.size,0,none⟩)])/\w'=W.alloc (.cells #[.map mb] 133):=
 (callsIn_wide (n:=5)).1 (AnyZI.keys_in keys105 Fence.wide 5 trivial rfl mb W)
theorem sortedI {ε:Type} {R:RdU} {ed:ε->DU} {M:List (Int×ε)} {w:World} {b n:Nat} (h:xF Tryz.prog 3 R (.int .i64) ed w b n M) (hs:KSrt M) (hn:n<=1000000):
  Calls Tryz.prog 62 #[.func (.func 240) #[] #[.pointer (some ⟨w.heap.size,0,none⟩)]] (w.alloc (.cells #[.map (some b)] 133)) fun e w'=>∃v,e=.returned v/\yY w' (w.heap.size+1) v (M.map (·.1))/\
   Below (w.heap.size+1) (w.alloc (.cells #[.map (some b)] 133)) w':=by
 have hlen:=h.length_le;have hbl:=h.lt;have hseq:SeqGives Fence.wide 2 Tryz.prog 240 #[.pointer (some ⟨w.heap.size,0,none⟩)] encZ (fun ss=>ss.Perm (intKeys (mapD (.int .i64) ed M))) (Maps.size (mapD (.int .i64) ed M)) (w.alloc (.cells #[.map (some b)] 133)):=
  AnyZI.keys_gives (ρ:=keys105_ren) {keys105 with} Fence.wide _ trivial rfl (by omega) w.heap.size b n _ _ (by simp) (by simp) (by
   obtain⟨es,clock,hb,Ft,hs,hD⟩:=h;exact⟨es,clock,(Below.heap_alloc _ _ b hbl).trans hb,Ft,hs,hD⟩)
 refine((callsIn_wide (n:=5)).1 (AnyZI.sorted_in sorted96 Fence.wide 5 trivial trivial trivial trivial rfl (by omega) (sorts96 _) (enters_of Tryz.func110 (by kernel_rfl) rfl) 240 #[.pointer (some ⟨w.heap.size,0,none⟩)] trivial (enters_of Tryz.func240 (by kernel_rfl) rfl) _ _ (by rw[mapD_size];unfold maxLen;omega) (by rw[mapD_size];omega) _ hseq)).mono ?_;rintro e w' ⟨v,ss,rfl,hp,hrow,-,hb⟩;rw[intKeys_mapD] at hp;have hm:=mergeSort_srt hp hs.keys;rw[show (ss.mergeSort fun x y=>decide (x<=y))=M.map (·.1) from hm] at hrow;rw[World.size_alloc] at hrow hb;exact⟨v,rfl,own_of_row hrow (by have:=hp.length_eq;simpa using this),hb⟩
section
attribute [local irreducible] xL
def LsAt (w:World) (C:LC) (v:Value) (l:List Int):Prop:=∃(a:Option Addr) (cap:Nat),v=.slice a l.length cap/\(l≠[]->∃(g off:Nat) (cs:Array Value),a=some ⟨g,off,none⟩/\w.heap[g]?=some (.cells cs 3 (0,0))/\C.B<=g/\l.length<=cap/\∀(j:Nat) (x:Int),l[j]?=some x->cs[off+j]?=some (.int .i64 x))
section
variable {w w':World} {C:LC} {ve:Value} {P:Pg} {M:LM} {us:List WkV}
theorem LsAt.ofOwn {B:Nat} {v:Value} {l:List Int} (h:yY w B v l) (hB:C.B<=B):LsAt w C v l:=by
 obtain⟨a,c,rfl,hm⟩:=h.form2;refine⟨a,c,rfl,fun hne=>?_⟩;obtain⟨h1,⟨-,h2⟩|⟨g,cap,cur,hv,hg,hh,hle,hmx,hsz,htk⟩⟩:=h
 ·exact absurd (List.length_eq_zero_iff.1 h2) hne
 ·simp only[Value.slice.injEq] at hv
  obtain⟨rfl,-,rfl⟩:=hv;refine⟨g,0,cur,rfl,hh,by omega,hle,fun j x hj=>?_⟩;have hjl:=(List.getElem?_eq_some_iff.1 hj).1;have h2:(cur.toList.take (l.length*1))[j]?=some (.int .i64 x):=by rw[htk,flat_int,List.getElem?_map,hj];rfl
  rw[List.getElem?_take_of_lt (by omega)] at h2;simpa using h2
theorem LsBx.open {p3:Nat} {k:Int} {l:List Int} (h:LsBx w C p3 (k::l)):∃(g off cap n:Nat) (cs:Array Value),w.heap[p3]?=some (.cells #[.slice (some ⟨g,off,none⟩) n cap] 22 (0,0))/\w.heap[g]?=some (.cells cs 3 (0,0))/\w.cell? ⟨g,off,none⟩=some (.int .i64 k)/\0 < n/\(cap=1->n - 1=0)/\n<=cap/\
  ∀X:World,X.heap[g]?=some (.cells cs 3 (0,0))->LsAt X C (.slice (if cap=1 then some ⟨g,off,none⟩ else some ⟨g,off+1,none⟩) (n - 1) (cap - 1)) l:=by
 obtain⟨g,off,cap,cs,r3,rg,hB3,hBg,hcap,hcs⟩:=h;have hn1:(k::l).length=l.length+1:=rfl;refine⟨g,off,cap,_,cs,r3,rg,?_,by rw[hn1];omega,fun e=>by rw[hn1] at hcap ⊢;omega,hcap,fun X hX=>?_⟩
 ·rw [qg rg off]
  have:=hcs 0 k rfl;simpa using this
 ·refine ⟨_,_,by rw[hn1,Nat.add_sub_cancel],fun hne=>?_⟩
  have:l.length≠0:=fun e=>hne (List.length_eq_zero_iff.1 e);rw[if_neg (by omega)];refine⟨g,off+1,cs,rfl,hX,hBg,by omega,fun j x hj=>?_⟩;have:=hcs (j+1) x (by simpa using hj)
  rwa [show off+1+j=off+(j+1) by omega]
theorem la_lock (h:qX w C ve us P M) (i:Nat) (hi:i < P.threads.length) (v:Value) (l:List Int) (hv:LsAt w C v l) (hl4:l.length<=4):
  Calls Tryz.prog 193 #[.pointer (some ⟨C.bM,0,none⟩),.int .i64 i,v] w (yS C P i (M,yw l) w):=by
 obtain⟨a,cap,rfl,hls⟩:=hv;have hn4:=h.ok.threads.2;have bA:Below w.heap.size w ((((w).alloc (.cells #[.pointer (some ⟨C.bM,0,none⟩)] 205)).alloc (.cells #[.int .i64 i] 3)).alloc (.cells #[.slice a l.length cap] 22)):=((((Below.refl w.heap.size w).alloc (by simp <;> omega) _).alloc (by simp <;> omega) _).alloc (by simp <;> omega) _)
 have zA:((((w).alloc (.cells #[.pointer (some ⟨C.bM,0,none⟩)] 205)).alloc (.cells #[.int .i64 i] 3)).alloc (.cells #[.slice a l.length cap] 22)).heap.size=w.heap.size+3:=by simp
 have r0:=(qF (o:=.cells #[.slice a l.length cap] 22) (qF (o:=.cells #[.int .i64 i] 3) (qL (w:=w) (o:=.cells #[.pointer (some ⟨C.bM,0,none⟩)] 205) (g:=w.heap.size) (by simp))))
 have r1:=(qF (o:=.cells #[.slice a l.length cap] 22) (qL (w:=(w).alloc (.cells #[.pointer (some ⟨C.bM,0,none⟩)] 205)) (o:=.cells #[.int .i64 i] 3) (g:=w.heap.size+1) (by simp)))
 have r2:=(qL (w:=((w).alloc (.cells #[.pointer (some ⟨C.bM,0,none⟩)] 205)).alloc (.cells #[.int .i64 i] 3)) (o:=.cells #[.slice a l.length cap] 22) (g:=w.heap.size+2) (by simp))
 have hB:=h.size;have HA:=qj (h.below bA);have BA:=qj (bA.mono hB);have R0:=qj r0;have R1:=qj r1;have R2:=qj r2;have HLS:=qj hls;have BW:=qj bA;have ZA:=qj zA;clear bA h hls r0 r1 r2 zA;cases l with
 |nil=>
  have y0:=qg R0.o 0;have y1:=qg R1.o 0;have k0:=qh R0.o;have k1:=qh R1.o;go_enter Tryz.func193,Tryz.ntmps193;go_wp2_with fail;generalize (((w).alloc (.cells #[.pointer (some ⟨C.bM,0,none⟩)] 205)).alloc (.cells #[.int .i64 i] 3)).alloc (.cells #[.slice a 0 cap] 22)=X at *;refine(la_mkTick HA.o i).mono ?_;rintro e X1 ⟨p1,p2,rfl,b1,hx⟩;have B1:=qj (BA.o.trans (b1.mono HA.o.size));have L1:=qj (HA.o.below b1);have X1':=qj hx;clear b1 hx y0 y1;go_wp2;go_ret;exact⟨_,ve,us,rfl,B1.o,L1.o,p1,p2,rfl,X1'.o⟩
 |cons k l=>
  obtain⟨n,hn⟩:∃n,n=(k::l).length:=⟨_,rfl⟩
  have q0:((n:Int)==0)=false:=by simp only[List.length_cons] at hn;simp;omega
  have HN:=qj hn;rw[←hn] at HA BA R0 R1 R2 hl4 BW ZA ⊢;clear hn;go_enter Tryz.func193,Tryz.ntmps193;go_wp2;go_ret;refine⟨_,ve,us,rfl,BA.o,HA.o,w.heap.size,w.heap.size+1,w.heap.size+1+1,rfl,⟨R0.o,R1.o,hB,by omega⟩,?_⟩;obtain⟨g,off,cs,rfl,h1,h2,h3,h6⟩:=HLS.o (by simp);refine⟨g,off,cap,cs,?_,qp h1 BW.o (qh h1),by omega,h2,h3,h6⟩;rw[←HN.o];exact R2.o
theorem la_write (h:qX w C ve us P M) (i:Nat) (hi:i < P.threads.length) (now:Int) (v:Value) (l:List Int) (hv:LsAt w C v l) (hl4:l.length<=4):
  Calls Tryz.prog 257 #[.pointer (some ⟨C.bM,0,none⟩),.int .i64 i,.int .i64 now,v] w (yS C P i (M,za now l) w):=by
 obtain⟨a,cap,rfl,hls⟩:=hv;have hn4:=h.ok.threads.2;have bA:Below w.heap.size w (((((w).alloc (.cells #[.pointer (some ⟨C.bM,0,none⟩)] 205)).alloc (.cells #[.int .i64 i] 3)).alloc (.cells #[.int .i64 now] 3)).alloc (.cells #[.slice a l.length cap] 22)):=(((((Below.refl w.heap.size w).alloc (by simp <;> omega) _).alloc (by simp <;> omega) _).alloc (by simp <;> omega) _).alloc (by simp <;> omega) _)
 have zA:(((((w).alloc (.cells #[.pointer (some ⟨C.bM,0,none⟩)] 205)).alloc (.cells #[.int .i64 i] 3)).alloc (.cells #[.int .i64 now] 3)).alloc (.cells #[.slice a l.length cap] 22)).heap.size=w.heap.size+4:=by simp
 have r0:=(qF (o:=.cells #[.slice a l.length cap] 22) (qF (o:=.cells #[.int .i64 now] 3) (qF (o:=.cells #[.int .i64 i] 3) (qL (w:=w) (o:=.cells #[.pointer (some ⟨C.bM,0,none⟩)] 205) (g:=w.heap.size) (by simp)))))
 have r1:=(qF (o:=.cells #[.slice a l.length cap] 22) (qF (o:=.cells #[.int .i64 now] 3) (qL (w:=(w).alloc (.cells #[.pointer (some ⟨C.bM,0,none⟩)] 205)) (o:=.cells #[.int .i64 i] 3) (g:=w.heap.size+1) (by simp))))
 have r2:=(qF (o:=.cells #[.slice a l.length cap] 22) (qL (w:=((w).alloc (.cells #[.pointer (some ⟨C.bM,0,none⟩)] 205)).alloc (.cells #[.int .i64 i] 3)) (o:=.cells #[.int .i64 now] 3) (g:=w.heap.size+2) (by simp)))
 have r3:=(qL (w:=(((w).alloc (.cells #[.pointer (some ⟨C.bM,0,none⟩)] 205)).alloc (.cells #[.int .i64 i] 3)).alloc (.cells #[.int .i64 now] 3)) (o:=.cells #[.slice a l.length cap] 22) (g:=w.heap.size+3) (by simp))
 have hB:=h.size;have HA:=qj (h.below bA);have BA:=qj (bA.mono hB);have R0:=qj r0;have R1:=qj r1;have R2:=qj r2;have R3:=qj r3;have HLS:=qj hls;have BW:=qj bA;have ZA:=qj zA;clear bA h hls r0 r1 r2 r3 zA;cases l with
 |nil=>
  have y0:=qg R0.o 0;have y1:=qg R1.o 0;have k0:=qh R0.o;have k1:=qh R1.o;go_enter Tryz.func257,Tryz.ntmps257;go_wp2_with fail;generalize ((((w).alloc (.cells #[.pointer (some ⟨C.bM,0,none⟩)] 205)).alloc (.cells #[.int .i64 i] 3)).alloc (.cells #[.int .i64 now] 3)).alloc (.cells #[.slice a 0 cap] 22)=X at *;refine(la_mkCommit HA.o i).mono ?_;rintro e X1 ⟨p1,p2,rfl,b1,hx⟩;have B1:=qj (BA.o.trans (b1.mono HA.o.size));have L1:=qj (HA.o.below b1);have X1':=qj hx;clear b1 hx y0 y1;go_wp2;go_ret;exact⟨_,ve,us,rfl,B1.o,L1.o,p1,p2,rfl,X1'.o⟩
 |cons k l=>
  obtain⟨n,hn⟩:∃n,n=(k::l).length:=⟨_,rfl⟩
  have q0:((n:Int)==0)=false:=by simp only[List.length_cons] at hn;simp;omega
  have HN:=qj hn;rw[←hn] at HA BA R0 R1 R2 R3 hl4 BW ZA ⊢;clear hn;go_enter Tryz.func257,Tryz.ntmps257;go_wp2;go_ret;refine⟨_,ve,us,rfl,BA.o,HA.o,w.heap.size,w.heap.size+1,w.heap.size+1+1+1,w.heap.size+1+1,rfl,⟨R0.o,R1.o,hB,by omega⟩,?_,R2.o,by omega⟩;obtain⟨g,off,cs,rfl,h1,h2,h3,h6⟩:=HLS.o (by simp);refine⟨g,off,cap,cs,?_,qp h1 BW.o (qh h1),by omega,h2,h3,h6⟩;rw[←HN.o];exact R3.o
theorem la_look (h:qX w C ve us P M) (i:Nat) (hi:i < P.threads.length) (now:Int) (v:Value) (l:List Int) (hv:LsAt w C v l) (hl4:l.length<=4) {tm:Int} {r:MB} {s:MI} (hws:M.ws[i]?=some (some (tm,r,s))):
  Calls Tryz.prog 252 #[.pointer (some ⟨C.bM,0,none⟩),.int .i64 i,.int .i64 now,v] w (yS C P i (M,zh now s l) w):=by
 obtain⟨a,cap,rfl,hls⟩:=hv;have hn4:=h.ok.threads.2;have bA:Below w.heap.size w (((((w).alloc (.cells #[.pointer (some ⟨C.bM,0,none⟩)] 205)).alloc (.cells #[.int .i64 i] 3)).alloc (.cells #[.int .i64 now] 3)).alloc (.cells #[.slice a l.length cap] 22)):=(((((Below.refl w.heap.size w).alloc (by simp <;> omega) _).alloc (by simp <;> omega) _).alloc (by simp <;> omega) _).alloc (by simp <;> omega) _)
 have zA:(((((w).alloc (.cells #[.pointer (some ⟨C.bM,0,none⟩)] 205)).alloc (.cells #[.int .i64 i] 3)).alloc (.cells #[.int .i64 now] 3)).alloc (.cells #[.slice a l.length cap] 22)).heap.size=w.heap.size+4:=by simp
 have r0:=(qF (o:=.cells #[.slice a l.length cap] 22) (qF (o:=.cells #[.int .i64 now] 3) (qF (o:=.cells #[.int .i64 i] 3) (qL (w:=w) (o:=.cells #[.pointer (some ⟨C.bM,0,none⟩)] 205) (g:=w.heap.size) (by simp)))))
 have r1:=(qF (o:=.cells #[.slice a l.length cap] 22) (qF (o:=.cells #[.int .i64 now] 3) (qL (w:=(w).alloc (.cells #[.pointer (some ⟨C.bM,0,none⟩)] 205)) (o:=.cells #[.int .i64 i] 3) (g:=w.heap.size+1) (by simp))))
 have r2:=(qF (o:=.cells #[.slice a l.length cap] 22) (qL (w:=((w).alloc (.cells #[.pointer (some ⟨C.bM,0,none⟩)] 205)).alloc (.cells #[.int .i64 i] 3)) (o:=.cells #[.int .i64 now] 3) (g:=w.heap.size+2) (by simp)))
 have r3:=(qL (w:=(((w).alloc (.cells #[.pointer (some ⟨C.bM,0,none⟩)] 205)).alloc (.cells #[.int .i64 i] 3)).alloc (.cells #[.int .i64 now] 3)) (o:=.cells #[.slice a l.length cap] 22) (g:=w.heap.size+3) (by simp))
 have hB:=h.size;have HA:=qj (h.below bA);have BA:=qj (bA.mono hB);have R0:=qj r0;have R1:=qj r1;have R2:=qj r2;have R3:=qj r3;have HLS:=qj hls;have BW:=qj bA;have ZA:=qj zA;obtain⟨br,bs,hu,hwo,hgW,w0,w1,w2⟩:=HA.o.woAt hi hws;have HP:=qj hwo;have d2:=qg HA.o.row 2;have lM:=qh HA.o.row;clear bA h hls r0 r1 r2 r3 zA hu hwo hws;cases l with
 |nil=>
  have y0:=qg R0.o 0;have y1:=qg R1.o 0;have y2:=qg R2.o 0;have k0:=qh R0.o;have k1:=qh R1.o;have k2:=qh R2.o;go_enter Tryz.func252,Tryz.ntmps252;go_wp2_with fail;generalize ((((w).alloc (.cells #[.pointer (some ⟨C.bM,0,none⟩)] 205)).alloc (.cells #[.int .i64 i] 3)).alloc (.cells #[.int .i64 now] 3)).alloc (.cells #[.slice a 0 cap] 22)=W at *;have hBW:C.B<=W.heap.size:=HA.o.size;have hBs:C.B<=C.gW:=(HA.o.wks.own.lt C.gW rfl).1;obtain⟨br',bs',hu,hbr,hbs,hne,hmr,hms,hcr,hsr,hcs,hss⟩:=HP.o;simp only[Prod.mk.injEq,Value.map.injEq,Option.some.injEq,true_and] at hu;obtain⟨rfl,rfl⟩:=hu;have hs4:=hcs.len hss;have HSS:=qj hss;have HMS:=qj hms;clear hmr hms hcr hsr hcs hss;refine qT (W.heap.size) [1,1,1,1,0,0,1,1,0,0,1,3,3,2,0] (.fin [0,1,2,3,4,5,6,7,8,9,10,11,12,13,14]) (by kernel_rfl) ?_;simp only[yp,qP,qD,sD,sE,sF,sG]
  repeat first|(refine qC fun K hK=>?_;go_simp;refine hK _ _ ?_;clear hK K)|(apply qJ;(intro w2 hw2;have hk1:=hw2.cell;have hk3:=hw2.1;clear hw2;go_simp;with_reducible rfl);simp only[Act.put,sA,sB,sC])
  refine qI (fun K hK=>?_);go_simp;refine(keysI (some bs) W.drew).mono ?_;rintro e W1 ⟨rfl,rfl⟩;refine hK _ _ (RN.KeepsN.alloc _ _ (Nat.le_refl _)) ?_;clear hK K;refine qI (fun K hK=>?_);go_simp;refine(sortedI (w:=W.drew) (HMS.o.drew) HSS.o (by omega)).mono ?_;rintro e W2 ⟨v,rfl,ho,hb2⟩;have b2:Below W.heap.size W W2:=((Below.refl _ W).drew.alloc (Nat.le_refl _) _).trans (hb2.mono (by show W.heap.size<=W.heap.size+1;omega));refine hK _ _ (RN.KeepsN.of_below (hb2.mono (by show W.heap.size<=W.heap.size+1;omega))) ?_;clear hK K;have L2:=qj (HA.o.below b2);have LS:=qj (LsAt.ofOwn (C:=C) ho (show C.B<=W.heap.size+1 by omega));have B2:=qj (BA.o.trans (b2.mono hBW));clear ho hb2 b2;refine qN (fun K hK=>?_);go_simp;refine(la_write L2.o i hi now v _ LS.o (by rw[List.length_map];exact hs4)).mono ?_;rintro e W3 ⟨v3,ve',us',rfl,hb,hla,hx⟩;refine hK _ _ ?_;clear hK K;have B3:=qj (B2.o.trans hb);have L3:=qj hla;have X3:=qj hx;clear hb hla hx y0 y1 y2 d2 w0 w1 w2
  repeat first|(refine qC fun K hK=>?_;go_simp;refine hK _ _ ?_;clear hK K)|refine qA ?_
  go_wp2;go_ret;exact⟨v3,ve',us',rfl,B3.o,L3.o,X3.o⟩
 |cons k l=>
  obtain⟨n,hn⟩:∃n,n=(k::l).length:=⟨_,rfl⟩
  have q0:((n:Int)==0)=false:=by simp only[List.length_cons] at hn;simp;omega
  have HN:=qj hn;rw[←hn] at HA BA R0 R1 R2 R3 hl4 BW ZA ⊢;clear hn d2 w0 w1 w2 HP lM hgW;go_enter Tryz.func252,Tryz.ntmps252;go_wp2;go_ret;refine⟨_,ve,us,rfl,BA.o,HA.o,w.heap.size,w.heap.size+1,w.heap.size+1+1+1,w.heap.size+1+1,rfl,⟨R0.o,R1.o,hB,by omega⟩,?_,R2.o,by omega⟩;obtain⟨g,off,cs,rfl,h1,h2,h3,h6⟩:=HLS.o (by simp);refine⟨g,off,cap,cs,?_,qp h1 BW.o (qh h1),by omega,h2,h3,h6⟩;rw[←HN.o];exact R3.o
end
end
