/- Parts of the proof; the first: The library's contracts on strings.Join and strconv.Itoa, laid at this program's numbers. Conditions: those of each theorem, as typed. -/
import Derived.Shelf.Strings.OnBuilder
import Derived.Shelf.Strconv.Itoa3
import Derived.Shelf.LaysM
import Derived.Test.YtkfhgifhfkcehaaGreatDoorProg
import Derived.Test.YtkfhgifhfkcehaaGreatDoorQC19
import Derived.Test.YtkfhgifhfkcehaaGreatDoorQC14
import Derived.Lib.AppendIntMem
import Derived.Test.YtkfhgifhfkcehaaGreatDoorQC15
import Derived.Conc.LoneSelect
import Derived.Test.YtkfhgifhfkcehaaGreatDoorQC20
import Derived.Test.YtkfhgifhfkcehaaGreatDoorQC18
import Derived.Laws.Bits64b
set_option linter.unusedVariables false
set_option linter.unusedSimpArgs false
set_option linter.unusedSectionVars false
set_option maxRecDepth 100000
set_option maxHeartbeats 4000000
namespace Go.Proofs.YtkfhgifhfkcehaaGreatDoor
open Go.Conc Go.Maps Go.RowKit Go.Shelf
def lays156_ren:Go.Shelf.Ren:=⟨fun|156=>187|165=>233|166=>234|169=>235|240=>249|241=>250|276=>255|277=>256|n=>n,fun|31=>311|9=>9|3=>3|4=>4|0=>0|20=>20|72=>347|76=>349|70=>344|37=>345|75=>30|127=>358|164=>362|5=>5|80=>264|n=>n,fun|n=>n⟩
theorem lays156:Go.Proofs.Lays.n156 Tryz.prog lays156_ren:={
 mixed:=by kernel_rfl
 f156:=Tryz.func187.trans (congrArg some (by kernel_rfl))
 f165:=Tryz.func233.trans (congrArg some (by kernel_rfl))
 f166:=Tryz.func234.trans (congrArg some (by kernel_rfl))
 f169:=Tryz.func235.trans (congrArg some (by kernel_rfl))
 f240:=Tryz.func249.trans (congrArg some (by kernel_rfl))
 f241:=Tryz.func250.trans (congrArg some (by kernel_rfl))
 f276:=Tryz.func255.trans (congrArg some (by kernel_rfl))
 f277:=Tryz.func256.trans (congrArg some (by kernel_rfl))
 t0:=Tryz.underlying0
 a0:=Tryz.isAgg0
 z0:=Tryz.sizeOf0
 v0:=Tryz.zeroValue0
 t3:=Tryz.underlying3
 a3:=Tryz.isAgg3
 z3:=Tryz.sizeOf3
 v3:=Tryz.zeroValue3
 t4:=Tryz.underlying4
 a4:=Tryz.isAgg4
 z4:=Tryz.sizeOf4
 v4:=Tryz.zeroValue4
 t9:=Tryz.underlying9
 a9:=Tryz.isAgg9
 z9:=Tryz.sizeOf9
 v9:=Tryz.zeroValue9
 t20:=Tryz.underlying20
 a20:=Tryz.isAgg20
 z20:=Tryz.sizeOf20
 v20:=Tryz.zeroValue20
 t31:=Tryz.underlying311
 a31:=Tryz.isAgg311
 z31:=Tryz.sizeOf311
 v31:=Tryz.zeroValue311
 t37:=Tryz.underlying345
 a37:=Tryz.isAgg345
 z37:=Tryz.sizeOf345
 v37:=Tryz.zeroValue345
 t70:=Tryz.underlying344
 a70:=Tryz.isAgg344
 z70:=Tryz.sizeOf344
 v70:=Tryz.zeroValue344
 t72:=Tryz.underlying347
 a72:=Tryz.isAgg347
 z72:=Tryz.sizeOf347
 v72:=Tryz.zeroValue347
 t75:=Tryz.underlying30
 a75:=Tryz.isAgg30
 z75:=Tryz.sizeOf30
 v75:=Tryz.zeroValue30
 t76:=Tryz.underlying349
 a76:=Tryz.isAgg349
 z76:=Tryz.sizeOf349
 v76:=Tryz.zeroValue349
 t127:=Tryz.underlying358
 a127:=Tryz.isAgg358
 z127:=Tryz.sizeOf358
 v127:=Tryz.zeroValue358
 t164:=Tryz.underlying362
 a164:=Tryz.isAgg362
 z164:=Tryz.sizeOf362
 v164:=Tryz.zeroValue362}
theorem Builder_Extra_156:Builder.Extra Tryz.prog lays156_ren:={
 sizeBuilder:=by kernel_rfl
 liesBuilder:=by kernel_rfl
 t5:=Tryz.underlying5
 a5:=Tryz.isAgg5
 z5:=Tryz.sizeOf5
 v5:=Tryz.zeroValue5
 infoByte:=by kernel_rfl
 cellsByte:=by kernel_rfl
 sizeByte:=by kernel_rfl
 neB5:=by decide}
open Go.RowKit in
theorem strings_Join_none (a:Option Addr) (c:Nat) (sep:ByteArray) (w:World):
  Calls Tryz.prog 187 #[.slice a 0 c,.string sep] w fun e w'=>e=.returned (.string ⟨#[]⟩)/\w'=w:=Any.strings_Join_none lays156 Builder_Extra_156 a c sep w
open Go.RowKit in
theorem strings_Join (bk o c:Nat) (xs:List ByteArray) (sep:ByteArray) (w:World) (hcells:∀(j:Nat) x,xs[j]?=some x->w.cell? ⟨bk,o+j,none⟩=some (.string x)) (hbk:bk < w.heap.size) (hN:xs.length<=140737488355328) (hcap:xs.length<=c) (hlen:(Lib.join (xs.map (·.data.toList)) sep.data.toList).length<=140737488355328):
  Calls Tryz.prog 187 #[.slice (some ⟨bk,o,none⟩) xs.length c,.string sep] w fun e w'=>e=.returned (.string ⟨(Lib.join (xs.map (·.data.toList)) sep.data.toList).toArray⟩)/\Below w.heap.size w w':=Any.strings_Join lays156 Builder_Extra_156 bk o c xs sep w hcells hbk hN hcap hlen
def laysM171_ren:Go.Shelf.Ren:=⟨fun|171=>248|243=>254|246=>259|283=>261|284=>262|285=>263|286=>264|129=>209|317=>265|318=>266|319=>267|320=>268|337=>269|338=>270|n=>n,fun|3=>3|9=>9|2=>2|4=>4|171=>366|0=>0|53=>334|37=>345|5=>5|173=>368|212=>371|51=>332|20=>20|213=>372|46=>281|232=>373|233=>374|n=>n,fun|17=>23|18=>24|19=>25|n=>n⟩
theorem laysM171:Go.Proofs.LaysM.n171 Tryz.prog laysM171_ren:={
 mixed:=by kernel_rfl
 f129:=Tryz.func209.trans (congrArg some (by kernel_rfl))
 f171:=Tryz.func248.trans (congrArg some (by kernel_rfl))
 f243:=Tryz.func254.trans (congrArg some (by kernel_rfl))
 f246:=Tryz.func259.trans (congrArg some (by kernel_rfl))
 f283:=Tryz.func261.trans (congrArg some (by kernel_rfl))
 f284:=Tryz.func262.trans (congrArg some (by kernel_rfl))
 f285:=Tryz.func263.trans (congrArg some (by kernel_rfl))
 f286:=Tryz.func264.trans (congrArg some (by kernel_rfl))
 f317:=Tryz.func265.trans (congrArg some (by kernel_rfl))
 f318:=Tryz.func266.trans (congrArg some (by kernel_rfl))
 f319:=Tryz.func267.trans (congrArg some (by kernel_rfl))
 f320:=Tryz.func268.trans (congrArg some (by kernel_rfl))
 f337:=Tryz.func269.trans (congrArg some (by kernel_rfl))
 f338:=Tryz.func270.trans (congrArg some (by kernel_rfl))
 t0:=Tryz.underlying0
 a0:=Tryz.isAgg0
 z0:=Tryz.sizeOf0
 v0:=Tryz.zeroValue0
 t2:=Tryz.underlying2
 a2:=Tryz.isAgg2
 z2:=Tryz.sizeOf2
 v2:=Tryz.zeroValue2
 t3:=Tryz.underlying3
 a3:=Tryz.isAgg3
 z3:=Tryz.sizeOf3
 v3:=Tryz.zeroValue3
 t4:=Tryz.underlying4
 a4:=Tryz.isAgg4
 z4:=Tryz.sizeOf4
 v4:=Tryz.zeroValue4
 t5:=Tryz.underlying5
 a5:=Tryz.isAgg5
 z5:=Tryz.sizeOf5
 v5:=Tryz.zeroValue5
 t9:=Tryz.underlying9
 a9:=Tryz.isAgg9
 z9:=Tryz.sizeOf9
 v9:=Tryz.zeroValue9
 t20:=Tryz.underlying20
 a20:=Tryz.isAgg20
 z20:=Tryz.sizeOf20
 v20:=Tryz.zeroValue20
 t37:=Tryz.underlying345
 a37:=Tryz.isAgg345
 z37:=Tryz.sizeOf345
 v37:=Tryz.zeroValue345
 t46:=Tryz.underlying281
 a46:=Tryz.isAgg281
 z46:=Tryz.sizeOf281
 v46:=Tryz.zeroValue281
 t51:=Tryz.underlying332
 a51:=Tryz.isAgg332
 z51:=Tryz.sizeOf332
 v51:=Tryz.zeroValue332
 t53:=Tryz.underlying334
 a53:=Tryz.isAgg334
 z53:=Tryz.sizeOf334
 v53:=Tryz.zeroValue334
 t171:=Tryz.underlying366
 a171:=Tryz.isAgg366
 z171:=Tryz.sizeOf366
 v171:=Tryz.zeroValue366
 t173:=Tryz.underlying368
 a173:=Tryz.isAgg368
 z173:=Tryz.sizeOf368
 v173:=Tryz.zeroValue368
 t212:=Tryz.underlying371
 a212:=Tryz.isAgg371
 z212:=Tryz.sizeOf371
 v212:=Tryz.zeroValue371
 t213:=Tryz.underlying372
 a213:=Tryz.isAgg372
 z213:=Tryz.sizeOf372
 t232:=Tryz.underlying373
 a232:=Tryz.isAgg373
 z232:=Tryz.sizeOf373
 v232:=Tryz.zeroValue373
 t233:=Tryz.underlying374
 a233:=Tryz.isAgg374
 z233:=Tryz.sizeOf374
 v233:=Tryz.zeroValue374
 g17:=by kernel_rfl
 g18:=by kernel_rfl
 g19:=by kernel_rfl
 i0:=by kernel_rfl
 i2:=by kernel_rfl
 i3:=by kernel_rfl
 i4:=by kernel_rfl
 i5:=by kernel_rfl
 i9:=by kernel_rfl
 i20:=by kernel_rfl
 i37:=by kernel_rfl
 i46:=by kernel_rfl
 i51:=by kernel_rfl
 i53:=by kernel_rfl
 i171:=by kernel_rfl
 i173:=by kernel_rfl
 i212:=by kernel_rfl
 i232:=by kernel_rfl
 i233:=by kernel_rfl
 m17:=by kernel_rfl
 m18:=by kernel_rfl
 m19:=by kernel_rfl}
open Go.RowKit Go.Sort Go.Lib in
theorem strconv_Itoa (n:Int) (h0:-9223372036854775808<=n) (h1:n<=9223372036854775807) (w:World) (htab:Lib.TabIs Tryz.prog w "internal/strconv.uint64pow10" .u64 Lib.pow10Tab):
  Calls Tryz.prog 248 #[.int .i64 n] w fun e w'=>e=.returned (.string ⟨(Lib.itoa n).toArray⟩)/\∃k os,w'=grow (w.drewN k) os:=Any.strconv_Itoa laysM171 n h0 h1 w htab
section
attribute [local irreducible] xL
def strC (s:ByteArray):List Value:=[.string s]
theorem strC_len (s:ByteArray):(strC s).length=1:=rfl
theorem infoStr:(Tryz.prog.info? 9).map (fun i=>(i.zero,i.size,i.bytes))=some (some (.string ⟨#[]⟩),1,16):=by kernel_rfl
theorem str_one (s:ByteArray):∀u ∈ strC s,u.oneCell'=true:=by intro u hu;simp[strC] at hu;rcases hu with rfl;rfl
def PowAt (w:World):Prop:=Lib.TabIs Tryz.prog w "internal/strconv.uint64pow10" .u64 Lib.pow10Tab
theorem PowAt.below {w w':World} (h:PowAt w) (hb:Below w.heap.size w w'):PowAt w':=by
 have hg:Tryz.prog.globalNamed "internal/strconv.uint64pow10" =some 23:=by kernel_rfl
 unfold PowAt Lib.TabIs World.var? at h ⊢;rw[hg] at h ⊢;simp only[Option.bind_some] at h ⊢;have hlt:23 < w.heap.size:=by
  rcases Nat.lt_or_ge 23 w.heap.size with h'|h'
  ·exact h'
  ·rw [Array.getElem?_eq_none h'] at h;cases h
 rw[hb.block _ hlt];exact h
def itoaB (n:Int):ByteArray:=⟨(Lib.itoa n).toArray⟩
theorem e_Print {w:World} (h:PowAt w) (n:Int) (h0:-9223372036854775808<=n) (h1:n<=9223372036854775807):Calls Tryz.prog 231 #[.int .i64 n] w fun e w'=>e=.returned (.string (itoaB n))/\Below w.heap.size w w':=by
 have HC:=qj (strconv_Itoa n h0 h1 w h);go_enter Tryz.func231,Tryz.ntmps231;go_wp2_with fail;refine HC.o.mono ?_;rintro e w' ⟨rfl,k,os,rfl⟩;go_wp2_with fail;refine bodyPost_ret (v:=.string (itoaB n)) (by simp[results,Tryz.results231,go_sem,itoaB]) rfl ⟨rfl,Lib.below_grow _ _ (Nat.le_refl _) _ _⟩
def regB:ByteArray:=⟨#[114,101,103,105,115,116,101,114]⟩
theorem sl_strs {w:World} {b n c:Nat} {l:List ByteArray} {B:Nat} (h:qq strC 9 1 w B (.slice (some ⟨b,0,none⟩) n c) l) (hn:n=l.length):∀(j:Nat) x,l[j]?=some x->w.cell? ⟨b,0+j,none⟩=some (.string x):=by
 intro j x hx;subst hn;obtain⟨b',o,y,hq,hb,hy,hc⟩:=(qq.sl h).atF strC_len rfl (List.getElem?_eq_some_iff.1 hx).1;simp only[Option.some.injEq,Addr.mk.injEq,and_true] at hq;obtain⟨rfl,rfl⟩:=hq;rw[hx] at hy;obtain rfl:=Option.some.inj hy;have:=hc 0 (by decide);simpa[strC] using this
theorem qq.capLe {α:Type} {f:α->List Value} {e:TypeId} {sz:Nat} {w:World} {B g n c:Nat} {l:List α} (h:qq f e sz w B (.slice (some ⟨g,0,none⟩) n c) l):l.length<=c:=by
 obtain⟨-,h2⟩:=h;rcases h2 with⟨h2,-⟩|⟨g',cap,cur,hv,-,-,hn,-⟩
 ·cases h2
 ·simp only[Value.slice.injEq] at hv
  omega
theorem w_Join {w:World} {B g n c:Nat} {l:List ByteArray} (h:qq strC 9 1 w B (.slice (some ⟨g,0,none⟩) n c) l) (hn:n=l.length) (hlen:(Lib.join (l.map (·.data.toList)) [32]).length<=140737488355328) (hl:l.length<=70000):
  Calls Tryz.prog 232 #[.slice (some ⟨g,0,none⟩) n c] w fun e w'=>e=.returned (.string ⟨(Lib.join (l.map (·.data.toList)) [32]).toArray⟩)/\Below w.heap.size w w':=by
 have cl:=sl_strs h hn;subst hn;have HC:=qj (strings_Join g 0 c l ⟨#[32]⟩ w cl (qq.lt h g rfl).2 (by omega) (qq.capLe h) hlen);go_enter Tryz.func232,Tryz.ntmps232;go_wp2_with fail;refine HC.o.mono ?_;rintro e w' ⟨rfl,b⟩;go_wp2_with fail;refine bodyPost_ret (v:=.string ⟨(Lib.join (l.map (·.data.toList)) [32]).toArray⟩) (by simp[results,Tryz.results232,go_sem]) rfl ⟨rfl,b⟩
theorem st_Key {w:World} (h:PowAt w) (hW:xa w) (x:Int) (h0:-1000000000<=x) (h1:x<=1000000000):
  Calls Tryz.prog 186 #[scV x] w fun e w'=>e=.returned (.string ⟨(regT x).toArray⟩)/\Below w.heap.size w w':=by
 have b0:Below w.heap.size w (w.alloc (.cells #[.int .i64 1,.int .i64 x,.slice none 0 0,.slice none 0 0] 99)):=(Below.refl _ w).alloc (Nat.le_refl _) _;have r0:=qy w (.cells #[.int .i64 1,.int .i64 x,.slice none 0 0,.slice none 0 0] 99);have hz:(w.alloc (.cells #[.int .i64 1,.int .i64 x,.slice none 0 0,.slice none 0 0] 99)).heap.size=w.heap.size+1:=by simp
 go_enter Tryz.func186,Tryz.ntmps186;go_wp2_with fail;generalize w.alloc (.cells #[.int .i64 1,.int .i64 x,.slice none 0 0,.slice none 0 0] 99)=W at *;have hW0:=hW.below b0;refine(e_object (i:=0) (by omega) hW0.reg (by have:=hW0.big;omega)).mono ?_;rintro e W1 ⟨rfl,b1⟩;have r1:=qp r0 b1 (by omega);have B1:=qj (b0.trans (b1.mono (by omega)));have y:=qg r1;have y0:=y 0;have y1:=y 1;simp at y0 y1;have yl:=qh r1;have PW:=qj ((h.below B1.o));have R1:=qj r1;clear y r0 r1 hW0 b0 b1 hz;go_wp2_with fail;have b2:Below W1.heap.size W1 (W1.alloc (.cells #[.string ⟨#[114,101,103,105,115,116,101,114]⟩] 9)):=(Below.refl _ W1).alloc (Nat.le_refl _) _;have r2:=qy W1 (.cells #[.string ⟨#[114,101,103,105,115,116,101,114]⟩] 9);refine(e_Print (PW.o.below b2) x (by omega) (by omega)).mono ?_;rintro e W3 ⟨rfl,b3⟩;have hs1:=B1.o.size;have hs2:=b2.size;have hs3:=b3.size;have r3:=qp r2 b3 (qh r2);have o3:qq strC 9 1 W3 w.heap.size (.slice (some ⟨W1.heap.size,0,none⟩) 1 1) [regB]:=qq.ofRow (l:=[regB]) (n:=1) r3 hs1 rfl rfl (by decide);have hB3:w.heap.size<=W3.heap.size:=by omega
 have B3:=qj (B1.o.trans ((b2.trans (b3.mono hs2)).mono hs1));have hl1:=qh r3;clear r2 r3 b2 b3;go_wp2_with (at_builtin;refine qU rfl _ _ _ rfl _ 16 Tryz.underlying311 infoStr rfl o3 (itoaB x) hB3 (by rfl) (by rfl) (by first|rfl|simp) rfl (str_one _) (by first|omega|(simp only[List.length_append,List.length_cons,List.length_nil,List.length_replicate];omega)) (by first|omega|(simp only[List.length_append,List.length_cons,List.length_nil,List.length_replicate];omega)) ?_;refine xt.halt ?_)
 refine xt.go ?_;intro g c w4 o4 G4;have B4:=qj (B3.o.trans (G4.below hB3 fun j hj=>(qq.lt o3 j hj).1));have ej:Lib.join ([regB,itoaB x].map (·.data.toList)) [32]=regT x:=by simp[regB,itoaB,Lib.join,regT]
 have o5:qq strC 9 1 w4 w.heap.size (.slice (some ⟨g,0,none⟩) 2 c) [regB,itoaB x]:=o4;have il:=itoa_len h0 h1;have JC:=w_Join o5 rfl (by rw[ej];simp[regT];omega) (by simp);rw[ej] at JC;have JC:=qj JC;clear o3 G4;go_wp2_with fail;refine JC.o.mono ?_;rintro e w5 ⟨rfl,b5⟩;go_wp2_with fail;refine bodyPost_ret (v:=.string ⟨(regT x).toArray⟩) (by simp[results,Tryz.results186,go_sem]) rfl ⟨rfl,B4.o.trans (b5.mono B4.o.size)⟩
end
section
attribute [local irreducible] xL
attribute [local go_sem] Oper.semAt_some
def HandS (σ:List Int) (i:Nat) (w:World) (hb:Nat) (args:Array Value):Prop:=args=#[.int .i64 i,scV (σ.getD i 0)]
theorem qq.keepM {α:Type} {f:α->List Value} {e:TypeId} {sz B lo hb:Nat} {v:Value} {l:List α} {w w':World} (h:qq f e sz w B v l) {M:Obj->Prop} {L:Nat->Prop} (hk:xM M L lo hb w w') (hM:∀cs fz,¬M (.cells cs e fz)) (hB:lo<=B) (hl:∀k,v.ownBlock=some k->k < hb):qq f e sz w' B v l:=by
 obtain⟨h1,h2⟩:=h;refine⟨h1,?_⟩;rcases h2 with h2|⟨g,cap,cur,rfl,hg,hh,r⟩
 ·exact .inl h2
 ·exact .inr ⟨g,cap,cur,rfl,hg,hk.block g _ (.inr (by omega)) (hl g rfl) hh (hM _ _),r⟩
def MStr (O:Obj):Prop:=∃cs fz,O=.cells cs 9 fz
theorem s_each (m:Nat) (σ:List Int) (hl:σ.length<=1000) (bE:Nat) (v:Value):IterC Tryz.prog MStr (fun _=>False) (fun q=>q=fun _=>False) (fun _=>True) 230 #[.pointer (some ⟨bE,0,none⟩)] m
  (fun W=>W.heap[bE]?=some (.cells #[v] 46 (0,0))/\SlS W W.heap.size v σ) (fun _=>True) (fun _=>HandS σ) σ.length:=by
 intro l J Jx W hP _ hJ _ hY h0;obtain⟨hr,hs⟩:=hP;obtain⟨av,cv,rfl,hm9⟩:=hs.ex;have y0:=qg hr 0;simp at y0;have yl:=qh hr;have hm:m+1 - 1=m:=rfl;refine callsIn_of_wp Tryz.func230 rfl trivial ?_ rfl;simp only[Tryz.ntmps230,List.size_toArray,List.length_cons,List.length_nil,Nat.reduceAdd,Nat.reduceSub,Array.replicate_succ,Array.replicate_zero,List.push_toArray,List.append_toArray,List.nil_append,List.cons_append];have HC:=qj (l_All _ σ W hs hl);gi_wp2_with fail;refine⟨trivial,(callsIn_wide.2 HC.o).mono ?_⟩;rintro e w1 ⟨v',rfl,o1,b1⟩;obtain⟨a1,c1,rfl,-⟩:=(qq.sl o1).ex;have hJ1:J (fun _=>False) 0 w1:=hJ (fun _=>False) 0 _ _ rfl (h0 (fun _=>False) rfl fun k e=>by cases e) (Nat.le_refl _) b1 fun k hk _=>b1.block k hk;have s1:=b1.size;clear HC hr hs y0 yl b1 h0;have HY:=qj hY;have HJ:=qj hJ;clear hY hJ;gi_wp2_with fail;have O1:=qj o1;clear o1
 gi_loopw [9] (fun p wr=>∃i:Nat,i<=σ.length/\p=.int .i64 i/\J (fun _=>False) i wr/\W.heap.size<=wr.heap.size/\OwnS wr W.heap.size (.slice a1 σ.length c1) σ)
  (fun p _=>σ.length - (intOf p).toNat)
 case atStart=>exact⟨0,by omega,by go_num,hJ1,s1,O1.o⟩
 case round=>
  obtain⟨i,hi,rfl,hJi,hs,o⟩:=hrel;clear hJ1 s1 O1;by_cases hlt:i < σ.length
  ·obtain ⟨b,off,x,hq,hb,hx,hc⟩:=(qq.sl o).atF SC_len rfl hlt
   subst hq;have c0:wr.cell? ⟨b,off+i*4,none⟩=some (.int .i64 1):=hc 0 (by decide);have c1':wr.cell? ⟨b,off+i*4+1,none⟩=some (.int .i64 x):=hc 1 (by decide);have c2:wr.cell? ⟨b,off+i*4+2,none⟩=some (.slice none 0 0):=hc 2 (by decide);have c3:wr.cell? ⟨b,off+i*4+3,none⟩=some (.slice none 0 0):=hc 3 (by decide);have O:=qj o;have hxx:σ.getD i 0=x:=by rw[List.getD_eq_getElem?_getD,hx];rfl
   have ol:=fun k e=>(qq.lt O.o k e).2;have b2:Below wr.heap.size wr (wr.alloc (.cells #[.int .i64 1,.int .i64 x,.slice none 0 0,.slice none 0 0] 99)):=(Below.refl _ wr).alloc (Nat.le_refl _) _;obtain⟨fn,tmps,assign,body,hy,hR⟩:=HY.o (fun _=>False) i (wr.alloc (.cells #[.int .i64 1,.int .i64 x,.slice none 0 0,.slice none 0 0] 99)) wr.heap.size #[.int .i64 i,.agg #[.int .i64 1,.int .i64 x,.slice none 0 0,.slice none 0 0]] hlt rfl
    (HJ.o (fun _=>False) i _ _ rfl hJi hs (b2.mono hs) fun k hk _=>b2.block k hk) (fun k e=>by cases e) hs (by simp) (by rw[HandS,hxx])
   have O2:=qj (qq.below O.o b2);have hz2:=b2.size;clear hc o b2;gi_wp2_with fail;refine hR.mono ?_;rintro e W3 (⟨rfl,⟨hJ3,hk3⟩,-⟩|⟨rfl,hJx3,-⟩)
   ·gi_wp2_with fail
    go_roundw
    case rel=>
     have hs3:=hk3.size;refine⟨i+1,by omega,by go_num,hJ3,by omega,qq.keepM O2.o hk3 (fun cs fz h=>by obtain⟨_,_,h⟩:=h;simp at h) (Nat.le_refl _) ol⟩
    case measure=>simp[intOf];omega
   ·gi_wp2_with fail
    refine bodyPost_ret (results_none rfl _ _ _) rfl ?_;exact⟨⟨_,rfl⟩,(fun _=>False),rfl,.inr ⟨i+1,by omega,by omega,hJx3⟩⟩
  ·obtain rfl:i=σ.length:=by omega
   have hq:decide ((σ.length:Int) < (σ.length:Int))=false:=by simp
   gi_wp2_with fail;go_end0;exact⟨⟨_,rfl⟩,(fun _=>False),rfl,.inl hJi⟩
theorem s_Each {w:World} {a:Option Addr} {n c:Nat}:Calls Tryz.prog 185 #[.agg #[.slice a n c]] w fun e w'=>e=.returned (.func (.func 230) #[] #[.pointer (some ⟨w.heap.size,0,none⟩)])/\w'=w.alloc (.cells #[.slice a n c] 46):=by
 go_enter Tryz.func185,Tryz.ntmps185;go_wp2;go_ret;exact⟨rfl,rfl⟩
def regS (x:Int):ByteArray:=⟨(regT x).toArray⟩
def LTx (l0 B q:Nat) (σ:List Int) (i:Nat) (w:World):Prop:=∃lv,w.heap[l0]?=some (.cells #[lv] 311 (0,0))/\qq strC 9 1 w B lv ((σ.take i).map regS)/\∀k,lv.ownBlock=some k->k≠q
theorem s_Key {w:World} (h:PowAt w) (hW:xa w) (v:Value) (σ:List Int) (hs:SlS w w.heap.size v σ) (hl:σ.length<=8) (hv:SmallV σ):
  Calls Tryz.prog 140 #[.agg #[v]] w fun e w'=>e=.returned (.string (keyB σ))/\Below w.heap.size w w':=by
 obtain⟨av,cv,rfl,-⟩:=hs.ex;refine(callsIn_wide (n:=2+2)).1 ?_;refine callsIn_of_wp_marks Tryz.func140 rfl trivial ?_ rfl;simp only[Tryz.ntmps140,List.size_toArray,List.length_cons,List.length_nil,Nat.reduceAdd,Nat.reduceSub,Array.replicate_succ,Array.replicate_zero,List.push_toArray,List.append_toArray,List.nil_append,List.cons_append];gi_wp2_with fail;have b1:Below w.heap.size w ((w.alloc (.cells #[.slice av σ.length cv] 46)).alloc (.cells #[.slice none 0 0] 311)):=((Below.refl _ w).alloc (Nat.le_refl _) _).alloc (by simp) _;refine⟨trivial,(callsIn_wide.2 s_Each).mono ?_⟩;rintro e w1 ⟨rfl,rfl⟩;gi_wp2_with fail;have rE:(((w.alloc (.cells #[.slice av σ.length cv] 46)).alloc (.cells #[.slice none 0 0] 311)).alloc (.cells #[.slice av σ.length cv] 46)).heap[w.heap.size+1+1]?=some (.cells #[.slice av σ.length cv] 46 (0,0)):=qL (by simp);have rL:(((w.alloc (.cells #[.slice av σ.length cv] 46)).alloc (.cells #[.slice none 0 0] 311)).alloc (.cells #[.slice av σ.length cv] 46)).heap[w.heap.size+1]?=some (.cells #[.slice none 0 0] 311 (0,0)):=qF (qL (by simp));have bq:=b1.alloc b1.size (.cells #[.slice av σ.length cv] 46);have zq:(((w.alloc (.cells #[.slice av σ.length cv] 46)).alloc (.cells #[.slice none 0 0] 311)).alloc (.cells #[.slice av σ.length cv] 46)).heap.size=w.heap.size+3:=by simp
 generalize ((w.alloc (.cells #[.slice av σ.length cv] 46)).alloc (.cells #[.slice none 0 0] 311)).alloc (.cells #[.slice av σ.length cv] 46)=wq at *;have hsq:=(hs.below bq).more bq.size;have lt0:LTx (w.heap.size+1) w.heap.size (wq.heap.size+1) σ 0 wq:=⟨_,rL,qq.nil _ _,fun k e=>by cases e⟩
 have hI:∀(q:Nat->Prop) (i:Nat) (A B:World),(q=fun _=>False)->(LTx (w.heap.size+1) w.heap.size (wq.heap.size+1) σ i A/\Below w.heap.size w A)->wq.heap.size<=A.heap.size->Below wq.heap.size A B->(∀k,k < A.heap.size->k≠wq.heap.size+1->¬q k->B.heap[k]?=A.heap[k]?)->(LTx (w.heap.size+1) w.heap.size (wq.heap.size+1) σ i B/\Below w.heap.size w B):=by
  rintro q i A B rfl ⟨⟨lv,h1,h2,h3⟩,hB⟩ hs hb he;replace he:=fun k hk hn=>he k hk hn (by simp);exact⟨⟨lv,(he _ (qh h1) (by omega)).trans h1,qq.fr (S:=fun k=>k=wq.heap.size+1) h2 ⟨hb.mono (Nat.zero_le _),fun k hk hn=>he k hk hn⟩ h3,h3⟩,hB.trans (hb.mono bq.size)⟩
 refine wpIn_range_ownC (M:=MStr) (L:=fun _=>False) (Qs:=fun q=>q=fun _=>False) (G:=fun _=>True) (m:=2) (gf:=230) (N:=σ.length) (H:=fun _=>HandS σ) rfl (enters_of Tryz.func230 (by kernel_rfl) rfl) (fun _ h=>h.elim) (s_each 2 σ (by omega) _ _) (fun _ i W hb args h=>by rw[h];rfl)
  (fun _ i A=>LTx (w.heap.size+1) w.heap.size (wq.heap.size+1) σ i A/\Below w.heap.size w A) (fun _ _ _ _=>False) hI (fun _ _ _ _ _ _ h _ _ _=>h) (fun _ _ _ _ _=>trivial) (fun _ _ _=>⟨lt0,bq⟩) (fun W hW=>⟨qp rE hW (qh rE),(hsq.below hW).more hW.size⟩) (fun r h=>by obtain⟨_,_,h⟩:=h;cases h) (fun r h=>by obtain⟨_,_,h⟩:=h;cases h) ?_ ?_ ?_
 ·rintro q i W1 hb args hi rfl ⟨hL,hB⟩ - hlo hhi hH
  obtain⟨x,hx⟩:∃x,σ.getD i 0=x:=⟨_,rfl⟩
  rw[HandS,hx] at hH;subst hH;gi_wp2_with fail;refine⟨(Below.refl _ _).alloc (Nat.le_refl _) _,?_⟩;intro w2 z2 k2 b2;obtain⟨⟨lv,r1,o1,n1⟩,bW⟩:=hI (fun _=>False) i W1 w2 rfl ⟨hL,hB⟩ (by omega) (((Below.refl wq.heap.size W1).alloc (by omega) _).trans b2) (fun k hk hn _=>(k2 k hn).trans (Below.heap_alloc _ _ _ (by omega)));have r9:w2.heap[W1.heap.size]?=some (.cells #[.int .i64 1,.int .i64 x,.slice none 0 0,.slice none 0 0] 99 (0,0)):=(k2 _ (by omega)).trans (qy W1 _);have z9:w2.heap.size=W1.heap.size+1:=by rw[z2];simp
  generalize W1.heap.size=p9 at *;clear z2 k2 b2 hL hB W1;obtain⟨L,hL⟩:∃L,(σ.take i).map regS=L:=⟨_,rfl⟩
  rw[hL] at o1;have hLi:=qj (show L.length=i by rw[←hL];simp;omega);have hLm:L.length<=8:=by have:=hLi.o;omega
  have hL2:(σ.take (i+1)).map regS=L++[regS x]:=by
   rw[List.take_add_one,List.map_append,hL,List.getElem?_eq_getElem hi];rw[List.getD_eq_getElem?_getD,List.getElem?_eq_getElem hi] at hx;simp only[Option.getD_some] at hx;rw[hx];rfl
  obtain⟨al,cl,rfl,-⟩:=(qq.sl o1).ex;have y0:=qg r1 0;simp at y0;have yl:=qh r1;have z:=qg r9;have z0:=z 0;have z1:=z 1;have z2:=z 2;have z3:=z 3;simp at z0 z1 z2 z3;have zl:=qh r9;have Z9:=qj z9;have R1:=qj r1;have O1:=qj o1;have BW:=qj bW;clear z r1 o1 bW r9 z9;gi_wp2_with fail;have hvx:-1000000000<=x/\x<=1000000000:=hv x (by rw[List.getD_eq_getElem?_getD,List.getElem?_eq_getElem hi] at hx;simp only[Option.getD_some] at hx;rw[←hx];exact List.getElem_mem hi);have KC:=qj (st_Key (h.below BW.o) (hW.below BW.o) x hvx.1 hvx.2);have KC:=qj (st_Key (w:=w2.drew) (h.below BW.o.drew) (hW.below BW.o.drew) x hvx.1 hvx.2);have hwB:=BW.o.size;refine RN.wpIn_region_t (w2.heap.size) [1,1,3,3,2,2] (.fin [0,1,2,3,4,5]) (by kernel_rfl) ?_;simp only[yp,qP,qD,sD,sE,sF,sG]
  repeat (apply qJ;(intro w2 hw2;have hk1:=hw2.cell;have hk3:=hw2.1;clear hw2;go_simp;with_reducible rfl);simp only[Act.put,sA,sB,sC])
  refine qI (fun K hK=>?_);go_simp;refine KC.o.mono ?_;rintro e w3 ⟨rfl,b3⟩;refine hK _ _ (RN.KeepsN.of_below (b3.mono (Nat.le_refl w2.heap.size))) ?_;clear hK K;refine qI (fun K hK=>?_);go_simp;refine hK _ _ (RN.KeepsN.alloc w3 _ b3.size) ?_;clear hK K;have b3':Below w2.heap.size w2 w3:=(Below.refl _ w2).drew.trans b3;have o3:=qq.below O1.o b3';have r3:=qp R1.o b3' yl;have h3s:w2.heap.size<=w3.heap.size:=b3'.size;refine qN (fun K hK=>?_);refine wp_appF _ _ _ rfl _ 16 Tryz.underlying311 infoStr rfl o3 (regS x) (show w.heap.size<=w3.heap.size by omega) (by rfl) (by rfl) (by first|rfl|simp) rfl (str_one _) (by first|omega|(simp only[List.length_append,List.length_cons,List.length_nil,List.length_replicate];omega)) (by first|omega|(simp only[List.length_append,List.length_cons,List.length_nil,List.length_replicate];omega)) ?_;intro g1 c1 w4 o4 G4;refine hK _ _ ?_;clear hK K;have ne:(Value.slice al L.length cl).ownBlock≠some (w.heap.size+1):=qq.neT o3 r3 (by decide);have r4:w4.heap[w.heap.size+1]?=some _:=qQ r3 G4 ne;have y:=qg r4 0;simp at y;have yf:=qx r4 0;have yl4:=qh r4;have neF:(Value.slice (some ⟨g1,0,none⟩) (L.length+1) c1).ownBlock≠some (w.heap.size+1):=qq.neT o4 r4 (by decide);have oF:=qj (qq.other (j:=0) o4 neF (.slice (some ⟨g1,0,none⟩) (L.length+1) c1));have rF:=qj (qB r4 0 (.slice (some ⟨g1,0,none⟩) (L.length+1) c1));have nF:g1≠wq.heap.size+1:=by
   rcases G4.own g1 rfl with e|e
   ·exact n1 g1 e
   ·have:=Z9.o;omega
  have NF:=qj nF;have bF:=qj ((BW.o.trans (b3'.mono hwB)).trans ((G4.below (B:=w.heap.size) (by omega) fun j hj=>(qq.lt o3 j hj).1).setCell (p:=⟨w.heap.size+1,0,none⟩) (Nat.le_succ _) (.slice (some ⟨g1,0,none⟩) (L.length+1) c1)));have KF:Hid (xM MStr (fun _=>False) wq.heap.size hb w2 (w4.setCell ⟨w.heap.size+1,0,none⟩ (.slice (some ⟨g1,0,none⟩) (L.length+1) c1))):=qj (by
   refine xM.trans ⟨(b3'.mono (Nat.zero_le _)).trans (G4.below (B:=0) (Nat.zero_le _) fun j hj=>Nat.zero_le _),fun k O hk1 hk2 hO hM=>?_⟩ (xM.set _ (.inl ⟨by omega,id⟩));replace hk1:wq.heap.size<=k:=hk1.resolve_left id;have hO3:w3.heap[k]?=some O:=(b3'.block k (by have:=Z9.o;omega)).trans hO;refine(G4.grown.block k (Array.getElem?_eq_some_iff.1 hO3).1 fun e=>?_).trans hO3;obtain⟨cs,hcs⟩:=qq.keepObj o3 k e.symm;rw[hO3] at hcs;exact hM ⟨_,_,Option.some.inj hcs⟩)
  clear o3 o4 r3 r4 G4 ne neF nF b3 b3' n1;refine qN (fun K hK=>?_);go_simp;refine hK _ _ ?_;clear hK K
  repeat refine qA ?_
  refine⟨⟨⟨⟨_,by simpa using rF.o,?_,fun k e=>?_⟩,bF.o⟩,KF.o⟩,trivial⟩
  ·rw [hL2];exact oF.o
  ·cases e;exact NF.o
 ·rintro q W rfl ⟨⟨lv,r1,o1,-⟩,hB⟩ hz hd
  clear hI lt0;rw[List.take_length] at o1;obtain⟨al,cl,rfl,-⟩:=(qq.sl o1).ex;have y0:=qg r1 0;simp at y0;have yl:=qh r1;have ek:(Lib.join ((σ.map regS).map (·.data.toList)) [59,32])=keyT σ:=by simp[keyT,regS,Function.comp_def]
  have hkl:=keyT_len hv;have JC:Calls Tryz.prog 187 #[.slice al (σ.map regS).length cl,.string ⟨#[59,32]⟩] W fun e w'=>e=.returned (.string (keyB σ))/\Below W.heap.size W w':=by
   rcases qq.form o1 with⟨hv0,hn0⟩|⟨g,cap,hv0,-,hg⟩
   ·have:σ=[]:=by simpa using hn0
    subst this;simp only[Value.slice.injEq] at hv0;obtain⟨rfl,-,rfl⟩:=hv0;refine(strings_Join_none none 0 _ W).mono ?_;rintro e w' ⟨rfl,rfl⟩;exact⟨rfl,Below.refl _ _⟩
   ·simp only[Value.slice.injEq] at hv0
    obtain⟨rfl,-,rfl⟩:=hv0;have:=strings_Join g 0 cl (σ.map regS) ⟨#[59,32]⟩ W (sl_strs o1 rfl) hg (by simp;omega) (qq.capLe o1) (by rw[ek];omega);rw[ek] at this;exact this
  have JC:=qj JC;have BW:=qj hB;clear o1 hB r1;gi_wp2_with fail;refine⟨trivial,(callsIn_wide.2 (by simpa using JC.o)).mono ?_⟩;rintro e w9 ⟨rfl,b9⟩;gi_wp2_with fail;have M9:Marks w.heap.size [w.heap.size+3] w9:=⟨by simp,fun D hD=>by
   obtain rfl:D=w.heap.size+3:=by simpa using hD
   rw[zq] at hd;exact⟨by omega,qp hd b9 (by omega)⟩⟩
  refine leaves_marks [w.heap.size+3] _ M9 (fun w' hb'=>LeavesIn.fin (v:=.string (keyB σ)) ?_ ⟨rfl,(BW.o.trans (b9.mono BW.o.size)).trans hb'⟩);simp[results,Tryz.results140,go_sem]
 ·rintro q c i W h1 h2 - h3
  exact h3.elim
end
section
attribute [local irreducible] xL
theorem n_pair {w:World} (h:PowAt w) (hW:xa w) (p:Nat) (v:Value) (σ:List Int) (hs:SlS w w.heap.size v σ) (hl:σ.length<=8) (hv:SmallV σ):
  Calls Tryz.prog 93 #[.agg #[.int .i64 p,v]] w fun e w'=>e=.returned (.agg #[.int .i64 p,.string (keyB σ)])/\Below w.heap.size w w':=by
 obtain⟨av,cv,rfl,-⟩:=hs.ex;have b0:Below w.heap.size w ((w.alloc (.cells #[.int .i64 p,.slice av σ.length cv] 181)).alloc (.cells #[.int .i64 0,.string ⟨#[]⟩] 176)):=((Below.refl _ w).alloc (Nat.le_refl _) _).alloc (by simp) _;have r0:((w.alloc (.cells #[.int .i64 p,.slice av σ.length cv] 181)).alloc (.cells #[.int .i64 0,.string ⟨#[]⟩] 176)).heap[w.heap.size]?=some (.cells #[.int .i64 p,.slice av σ.length cv] 181 (0,0)):=qF (qy w _);have r1:((w.alloc (.cells #[.int .i64 p,.slice av σ.length cv] 181)).alloc (.cells #[.int .i64 0,.string ⟨#[]⟩] 176)).heap[w.heap.size+1]?=some (.cells #[.int .i64 0,.string ⟨#[]⟩] 176 (0,0)):=qL (by simp);go_enter Tryz.func93,Tryz.ntmps93;go_wp2_with fail;generalize (w.alloc (.cells #[.int .i64 p,.slice av σ.length cv] 181)).alloc (.cells #[.int .i64 0,.string ⟨#[]⟩] 176)=W at *;have KC:=qj (s_Key (w:=W.drew) (h.below b0.drew) (hW.below b0.drew) (.slice av σ.length cv) σ ((hs.below b0).more b0.size) hl hv);have y:=qg r0;have y0:=y 0;have y1:=y 1;simp at y0 y1;have yl:=qh r0;have R1:=qj r1;have B0:=qj b0;clear y r0 r1 b0 h hW hs;refine qT (W.heap.size) [0,1,0,1,3,0,2] (.fin [0,1,2,3,4,5,6]) (by kernel_rfl) ?_;simp only[yp,qP,qD,sD,sE,sF,sG]
 repeat first|(refine qC fun K hK=>?_;go_simp;refine hK _ _ ?_;clear hK K)|(apply qJ;(intro w2 hw2;have hk1:=hw2.cell;have hk3:=hw2.1;clear hw2;go_simp;with_reducible rfl);simp only[Act.put,sA,sB,sC])
 refine qI (fun K hK=>?_);go_simp;refine KC.o.mono ?_;rintro e w1 ⟨rfl,b1⟩;refine hK _ _ (RN.KeepsN.of_below b1) ?_;clear hK K;have b1':Below W.heap.size W w1:=(Below.refl _ W).drew.trans b1;have r1:=qp R1.o b1' (qh R1.o);have z:=qg r1;have z0:=z 0;have z1:=z 1;simp at z0 z1;have zl:=qh r1;have zf:=fun j=>qx r1 j;have BF:=qj (((B0.o.trans (b1'.mono B0.o.size)).setCell (p:=⟨w.heap.size+1,0,none⟩) (Nat.le_succ _) (.int .i64 p)).setCell (p:=⟨w.heap.size+1,1,none⟩) (Nat.le_succ _) (.string (keyB σ)));have rF:=qB (qB r1 0 (.int .i64 p)) 1 (.string (keyB σ));have c:=qg rF;have c0:=c 0;have c1:=c 1;simp at c0 c1;clear z r1 rF c b1 b1'
 repeat (refine qC fun K hK=>?_;go_simp;refine hK _ _ ?_;clear hK K)
 refine qN (fun K hK=>?_);go_simp;refine hK _ _ ?_;clear hK K
 repeat refine qA ?_
 go_wp2_with fail;refine bodyPost_ret (v:=.agg #[.int .i64 p,.string (keyB σ)]) (by simp[results,Tryz.results93,go_sem,c0,c1]) rfl ?_;exact⟨rfl,BF.o⟩
theorem g_all {w:World} {bG n:Nat} {lv mv fv:Value} {a:Option Addr} {c:Nat} (h:w.heap[bG]?=some (.cells #[lv,.slice a n c,mv,fv] 188 (0,0))) (hn:n<=12):
  Calls Tryz.prog 141 #[.pointer (some ⟨bG,0,none⟩)] w fun e w'=>e=.returned (.int .i64 (2 ^ n - 1:Nat))/\w'=w:=by
 have y1:=qg h 1;simp at y1;have yl:=qh h;have q:wrap64 (wrap64 (2 ^ n) - 1)=((2 ^ n - 1:Nat):Int):=by
  have hc:n=0\/n=1\/n=2\/n=3\/n=4\/n=5\/n=6\/n=7\/n=8\/n=9\/n=10\/n=11\/n=12:=by omega
  rcases hc with rfl|rfl|rfl|rfl|rfl|rfl|rfl|rfl|rfl|rfl|rfl|rfl|rfl <;> simp[wrap64]
 have Q:=qj q;clear q;go_enter Tryz.func141,Tryz.ntmps141;go_wp2_with fail;have q:=Q.o;refine bodyPost_ret (v:=.int .i64 (2 ^ n - 1:Nat)) (by simp only[q];simp[results,Tryz.results141,go_sem]) rfl ⟨rfl,rfl⟩
def baseA (f:FuncId):Frame:={(default:Frame) with fn:=f,kind:=.normal}
theorem n_asked (w:World):Calls Tryz.prog 96 #[.chan none] w fun e w'=>e=.returned (.bool false)/\w'=w:=by
 refine calls_of_loneTo fun cs=>?_;have e:Frame.enter Tryz.prog 96 #[.chan none] .normal=(baseA 96).at ⟨#[.chan none,undef,undef,undef,undef,undef,undef],[]⟩ [.code (Tryz.f96.body.getD .skip)]:=by
  simp[Frame.enter,Frame.at,Tryz.func96,baseA,Tryz.f96]
 rw[e];refine LoneTo.goes (n:=10) ?_;simp only[Tryz.f96,Option.getD_some]
 s_c stepG_seq
 s_reg
 s_op
 s_c stepG_region_end
 s_c stepG_seq
 s_reg
 s_op
 s_c stepG_region_end
 s_c stepG_seq
 s_reg
 s_stop
 refine LoneTo.step (step_lone_select_recv_nil (z:=.agg #[]) (stepG_comm (cases:=#[rcaseNil (.agg #[])]) (blocking:=false) (shape:=.select) (w':=w) rfl rfl (by decide) (by simp[go_sem,execOp,rcaseNil,Act.eval]))) ?_;rw[Frame.finish_at]
 walk_nrm
 refine LoneTo.goes (n:=10) ?_
 s_op
 s_op
 s_c stepG_region_end
 s_c stepG_block
 s_cond false
 s_c stepG_seq
 s_reg
 s_op
 s_c stepG_region_end
 s_c stepG_ret'
 s_stop
 exact LoneTo.done ⟨.returned (.bool false),_,rfl,⟨rfl,rfl⟩,rfl,rfl,rfl,rfl,_,Tryz.func96,by simp[results,Tryz.f96,Frame.at]⟩
end
section
attribute [local irreducible] xL
structure yX (m:Nat) (w:World) (B b12 b13 b14 bS bm most:Nat) (cv qv ov:Value) (L:List (NdK m)) (rows orows:List NR) (n:Nat):Prop where
 var:w.heap[b12]?=some (.cells #[.pointer (some ⟨bS,0,none⟩)] 173 (0,0))
 set:SetAt m w B bS bm most cv L
 que:QueueAt w B b13 qv rows n
 ord:w.heap[b14]?=some (.cells #[ov] 177 (0,0))
 own:qq NR.cells 181 2 w B ov orows
 dis:∀k,qv.ownBlock=some k->ov.ownBlock≠some k
 hB:B<=b12/\B<=b14
theorem SetAt.fr {S:Nat->Prop} {m B bS bm most:Nat} {cv:Value} {L:List (NdK m)} {w w':World} (h:SetAt m w B bS bm most cv L) (hk:Fr S w w') (hn:∀j,j=bS\/j=bm\/cv.ownBlock=some j->¬S j):SetAt m w' B bS bm most cv L:=by
 obtain⟨h1,⟨M,h2,h3⟩,h4,h5⟩:=h;exact⟨hk.row h1 (hn _ (.inl rfl)),⟨M,h2.obj (hk.blk bm h2.lt (hn _ (.inr (.inl rfl)))),h3⟩,qq.fr h4 hk fun j e=>hn j (.inr (.inr e)),h5⟩
def SeT (t:TypeId):Prop:=t=262\/t=176\/t=179\/t=181\/t=177
section
variable {m B b12 b13 b14 bS bm most n:Nat} {cv qv ov:Value} {L:List (NdK m)} {rows orows:List NR} {w w':World}
theorem yX.below (h:yX m w B b12 b13 b14 bS bm most cv qv ov L rows orows n) (hb:Below w.heap.size w w'):yX m w' B b12 b13 b14 bS bm most cv qv ov L rows orows n:=
 ⟨qp h.var hb (qh h.var),h.set.below hb,h.que.fr (Fr.below (S:=fun _=>False) hb) (fun _ _ h=>h),qp h.ord hb (qh h.ord),qq.below h.own hb,h.dis,h.hB⟩
theorem yX.setTurn (h:yX m w B b12 b13 b14 bS bm most cv qv ov L rows orows n) {cv':Value} {L':List (NdK m)} (hs:SetAt m w' B bS bm most cv' L') (hk:Kd (fun t=>t=262\/t=176) w w'):
  yX m w' B b12 b13 b14 bS bm most cv' qv ov L' rows orows n:=
 ⟨hk _ _ _ _ h.var (by decide),hs,⟨hk _ _ _ _ h.que.row (by decide),qq.kd h.que.own hk (by decide),h.que.le,h.que.hB⟩,hk _ _ _ _ h.ord (by decide),qq.kd h.own hk (by decide),h.dis,h.hB⟩
def PutPost (m:Nat) (w:World) (B b12 b13 b14 bS bm most:Nat) (qv ov:Value) (L:List (NdK m)) (rows orows:List NR) (n:Nat) (k:NdK m) (r:NR) (ev:Value) (e:Ending) (w':World):Prop:=
 (k ∈ L/\e=.returned .nilIface/\Below w.heap.size w w')\/
 (k ∉ L/\L.length=most/\e=.returned ev/\Below w.heap.size w w')\/
 (k ∉ L/\L.length < most/\e=.returned .nilIface/\(∃cv' qv' ov',yX m w' B b12 b13 b14 bS bm most cv' qv' ov' (L++[k]) (rows++[r]) (orows++[r]) n)/\Kd SeT w w'/\Below B w w')
theorem s_put (h:yX m w B b12 b13 b14 bS bm most cv qv ov L rows orows n) (hB:B<=w.heap.size) (hl:L.length<=most) (hm:most<=65536) (hr:rows.length<=65536) (hor:orows.length<=65536) (k:NdK m) {a:Option Addr} {c:Nat} (hs:OwnS w 0 (.slice a k.1.2.length c) k.1.2) (hP:PowAt w) (hW:xa w) {t0:TypeId} {v0:Value} (hev:w.cell? ⟨0,0,none⟩=some (.iface t0 v0)) (hel:0 < w.heap.size):
  Calls Tryz.prog 91 #[.agg #[.int .i64 (k.1.1:Nat),.slice a k.1.2.length c],.pointer (some ⟨b12,0,none⟩),.pointer (some ⟨b13,0,none⟩),.pointer (some ⟨b14,0,none⟩)] w (PutPost m w B b12 b13 b14 bS bm most qv ov L rows orows n k ⟨k.1.1,.slice a k.1.2.length c⟩ (.iface t0 v0)):=by
 have b0:Below w.heap.size w (w.alloc (.cells #[.int .i64 (k.1.1:Nat),.slice a k.1.2.length c] 181)):=(Below.refl _ w).alloc (Nat.le_refl _) _;have r0:=qj (qy w (.cells #[.int .i64 (k.1.1:Nat),.slice a k.1.2.length c] 181));have hz0:=qj (show(w.alloc (.cells #[.int .i64 (k.1.1:Nat),.slice a k.1.2.length c] 181)).heap.size=w.heap.size+1 by simp);go_enter Tryz.func91,Tryz.ntmps91;go_wp2_with fail;generalize w.alloc (.cells #[.int .i64 (k.1.1:Nat),.slice a k.1.2.length c] 181)=W at *;have h1:=h.below b0;have hev1:=qu b0 hel hev;have hel1:0 < W.heap.size:=by have:=b0.size;omega
 have PC:=qj (n_pair (w:=W.drew) (hP.below b0.drew) (hW.below b0.drew) k.1.1 (.slice a k.1.2.length c) k.1.2 (qq.sl (qq.below hs b0.drew)) (by have:=k.2;omega) k.2.2.2.2);have x0:=qg h1.var 0;have z:=qg r0.o;have z0:=z 0;have z1:=z 1;simp at x0 z0 z1;have xl:=qh h1.var;have zl:=qh r0.o;have HQL:=qj (fun j hj=>(qq.lt h.que.own j hj).2);have HOL:=qj (fun j hj=>(qq.lt h.own j hj).2);have H1:=qj h1;have B0:=qj b0;have HS:=qj hs;clear z h1 b0 h hP hW hs hev hel;refine qT (W.heap.size) [1,1,3,2,0,0,0,0,0] (.fin [0,1,2,3,4,5,6,7,8]) (by kernel_rfl) ?_;simp only[yp,qP,qD,sD,sE,sF,sG]
 repeat (apply qJ;(intro w2 hw2;have hk1:=hw2.cell;have hk3:=hw2.1;clear hw2;go_simp;with_reducible rfl);simp only[Act.put,sA,sB,sC])
 refine qI (fun K hK=>?_);go_simp;refine PC.o.mono ?_;rintro e w1 ⟨rfl,b1⟩;refine hK _ _ (RN.KeepsN.of_below b1) ?_;clear hK K;have b1':Below W.heap.size W w1:=(Below.refl _ W).drew.trans b1;have hev2:=qu b1' hel1 hev1;have h2:=H1.o.below b1';have hB1:B<=w1.heap.size:=by have:=B0.o.size;have:=b1'.size;omega
 have AC:=qj (m_Add h2.set hB1 hl (by omega) k hev2 (by have:=b1'.size;omega));unfold kapV at AC;refine qN (fun K hK=>?_);go_simp;refine AC.o.mono ?_;intro e w2 hpost;have R1:=qj (qp r0.o b1' zl);have BB1:=qj (B0.o.trans (b1'.mono B0.o.size));rcases hpost with⟨hk,rfl,b2⟩|⟨hk,hfull,rfl,b2⟩|⟨hk,hlt,rfl,⟨cv',hs2⟩,hf⟩
 ·refine hK _ _ ?_
  clear hK K
  repeat first|(refine qC fun K hK=>?_;go_simp;refine hK _ _ ?_;clear hK K)|refine qA ?_
  go_wp2_with fail;go_ret;exact .inl ⟨hk,rfl,BB1.o.trans (b2.mono BB1.o.size)⟩
 ·refine hK _ _ ?_
  clear hK K
  repeat first|(refine qC fun K hK=>?_;go_simp;refine hK _ _ ?_;clear hK K)|refine qA ?_
  go_wp2_with fail;go_ret;exact .inr (.inl ⟨hk,hfull,rfl,BB1.o.trans (b2.mono BB1.o.size)⟩)
 ·refine hK _ _ ?_
  clear hK K;have h3:=h2.setTurn hs2 hf.1;have r3:=hf.1 _ _ _ _ R1.o (by decide);have z:=qg r3;have z0:=z 0;have z1:=z 1;simp at z0 z1;have zl:=qh r3;have H3:=qj h3;have HF:=qj hf;have R3:=qj r3;have hB2:B<=w2.heap.size:=Nat.le_trans hB1 hf.2.size;clear z h3 h2 r3 hf hs2 PC AC b1 b1'
  repeat first|(refine qC fun K hK=>?_;go_simp;refine hK _ _ ?_;clear hK K)|refine qA ?_
  go_wp2_with fail;refine(m_Put H3.o.que hB2 (by omega) k.1.1 a k.1.2.length c).mono ?_;rintro e w4 ⟨rfl,qv',q4,f4,own4⟩;have hqlt:=HQL.o;have holt:=HOL.o;have hq2:=qq.lt H3.o.que.own;have ho2:=qq.lt H3.o.own;have hz1:w.heap.size < w2.heap.size:=qh R3.o;have r4:w4.heap[w.heap.size]?=some (.cells #[.int .i64 (k.1.1:Nat),.slice a k.1.2.length c] 181 (0,0)):=f4.row R3.o (fun hq=>by
   rcases hq with e|hq
   ·have:=H3.o.que.row;rw[←e,R3.o] at this;simp at this
   ·exact absurd (hqlt _ hq) (Nat.lt_irrefl _))
  have nQS:∀j,ov.ownBlock=some j->¬QS b13 qv j:=fun j hj hq=>by
   rcases hq with rfl|hq
   ·exact qq.neT H3.o.own H3.o.que.row (by decide) hj
   ·exact H3.o.dis j hq hj
  have n14:¬QS b13 qv b14:=fun hq=>by
   rcases hq with e|hq
   ·have:=H3.o.que.row;rw[←e,H3.o.ord] at this;simp at this
   ·exact qq.neT H3.o.que.own H3.o.ord (by decide) hq
  have ro4:=f4.row H3.o.ord n14;have oo4:=qq.fr H3.o.own f4 nQS;have hz24:w2.heap.size<=w4.heap.size:=f4.base.size;have hB4:B<=w4.heap.size:=by omega
  obtain⟨ao,co,rfl,-⟩:=(qq.sl oo4).ex;have z:=qg r4;have z0:=z 0;have z1:=z 1;have y0:=qg ro4 0;simp at z0 z1 y0;have zl:=qh r4;have yl:=qh ro4;have RO4:=qj ro4;have F4:=qj f4;have Q4:=qj q4;have NQS:=qj nQS;have OWN4:=qj own4;clear z r4 ro4 f4 q4 nQS own4 hqlt holt hz1;have hor2:orows.length<=70000:=by omega
  go_wp2_with (at_builtin;refine qU rfl _ _ _ rfl _ 32 Tryz.underlying177 infoNd rfl oo4 (NR.mk k.1.1 (.slice a k.1.2.length c)) hB4 (by rfl) (by rfl) (by first|rfl|simp) rfl (nd_one _) (by first|omega|(simp only[List.length_append,List.length_cons,List.length_nil,List.length_replicate];omega)) (by first|omega|(simp only[List.length_append,List.length_cons,List.length_nil,List.length_replicate];omega)) ?_;refine xt.halt ?_)
  refine xt.go ?_;intro g5 c5 w5 o5 G5;have ne5:=qq.neT oo4 RO4.o (by decide);have r5:w5.heap[b14]?=some _:=qQ RO4.o G5 ne5;have y5:=qg r5 0;simp at y5;have yf:=qx r5 0;have yl5:=qh r5;have oF:=qj (qq.other (j:=0) o5 (qq.neT o5 r5 (by decide)) (.slice (some ⟨g5,0,none⟩) (orows.length+1) c5));have rF:=qj (qB r5 0 (.slice (some ⟨g5,0,none⟩) (orows.length+1) c5));have f46:Fr (fun j=>j=b14\/(Value.slice ao orows.length co).ownBlock=some j) w4 (w5.setCell ⟨b14,0,none⟩ (.slice (some ⟨g5,0,none⟩) (orows.length+1) c5)):=
   ((Fr.grw G5).mono fun j _ e=>Or.inr e).trans (Fr.setB (S:=fun j=>j=b14\/(Value.slice ao orows.length co).ownBlock=some j) (.inl rfl) 0 _) fun _ _ e=>e
  have FF:Fr (fun j=>QS b13 qv j\/j=b14\/(Value.slice ao orows.length co).ownBlock=some j) w2 (w5.setCell ⟨b14,0,none⟩ (.slice (some ⟨g5,0,none⟩) (orows.length+1) c5)):=
   (F4.o.mono fun j _ e=>Or.inl e).trans f46 fun j _ e=>Or.inr e
  have hty:∀j,(QS b13 qv j\/j=b14\/(Value.slice ao orows.length co).ownBlock=some j)->∃cs t,w2.heap[j]?=some (.cells cs t (0,0))/\(t=179\/t=181\/t=177):=by
   intro j hj;rcases hj with(rfl|hj)|rfl|hj
   ·exact ⟨_,_,H3.o.que.row,.inl rfl⟩
   ·obtain ⟨cs,hcs⟩:=qq.keepObj H3.o.que.own j hj;exact⟨cs,_,hcs,.inr (.inl rfl)⟩
   ·exact ⟨_,_,H3.o.ord,.inr (.inr rfl)⟩
   ·obtain ⟨cs,hcs⟩:=qq.keepObj H3.o.own j hj;exact⟨cs,_,hcs,.inr (.inl rfl)⟩
  have nty:∀j cs t fz,w2.heap[j]?=some (.cells cs t fz)->(t≠179/\t≠181/\t≠177)->¬(QS b13 qv j\/j=b14\/(Value.slice ao orows.length co).ownBlock=some j):=by
   intro j cs t fz hj ht hS;obtain⟨cs',t',h1,h2⟩:=hty j hS;rw[hj] at h1;simp only[Option.some.injEq,Obj.cells.injEq] at h1;obtain⟨-,rfl,-⟩:=h1;rcases h2 with h2|h2|h2
   ·exact ht.1 h2
   ·exact ht.2.1 h2
   ·exact ht.2.2 h2
  have set6:=H3.o.set.fr FF (fun j hj=>by
   rcases hj with rfl|rfl|hj
   ·exact nty _ _ _ _ H3.o.set.row (by decide)
   ·intro hS
    obtain⟨cs',t',h1,-⟩:=hty _ hS;obtain⟨M,hM,-⟩:=H3.o.set.map;obtain⟨es,cl,hes⟩:=hM.isMap;rw[hes] at h1;cases h1
   ·obtain ⟨cs,hcs⟩:=qq.keepObj H3.o.set.came j hj
    exact nty _ _ _ _ hcs (by decide))
  have var6:=FF.row H3.o.var (nty _ _ _ _ H3.o.var (by decide));have que6:=Q4.o.fr f46 (fun j hj=>by
   rintro(rfl|hov)
   ·rcases hj with e|hj
    ·have:=Q4.o.row;rw[←e,RO4.o] at this;simp at this
    ·exact qq.neT Q4.o.own RO4.o (by decide) hj
   ·rcases hj with rfl|hj
    ·exact NQS.o _ hov (.inl rfl)
    ·rcases OWN4.o j hj with e|e
     ·exact NQS.o _ hov (.inr e)
     ·have:=(ho2 j hov).2;omega)
  have dis6:∀j,qv'.ownBlock=some j->(Value.slice (some ⟨g5,0,none⟩) (orows.length+1) c5).ownBlock≠some j:=by
   intro j hj hg;rcases G5.own j hg with e|e
   ·rcases OWN4.o j hj with e2|e2
    ·exact NQS.o _ e (.inr e2)
    ·have:=(ho2 j e).2;omega
   ·have:=(qq.lt Q4.o.own j hj).2;omega
  have kd6:Kd SeT w2 (w5.setCell ⟨b14,0,none⟩ (.slice (some ⟨g5,0,none⟩) (orows.length+1) c5)):=FF.kd fun j cs t fz hS hj=>by
   obtain⟨cs',t',h1,h2⟩:=hty j hS;rw[hj] at h1;simp only[Option.some.injEq,Obj.cells.injEq] at h1;obtain⟨-,rfl,-⟩:=h1;rcases h2 with h2|h2|h2
   ·exact .inr (.inr (.inl h2))
   ·exact .inr (.inr (.inr (.inl h2)))
   ·exact .inr (.inr (.inr (.inr h2)))
  have bel6:Below B w2 (w5.setCell ⟨b14,0,none⟩ (.slice (some ⟨g5,0,none⟩) (orows.length+1) c5)):=FF.toBelow hB2 fun j hj=>by
   rintro((rfl|hq)|rfl|hq)
   ·have:=H3.o.que.hB;omega
   ·have:=(hq2 j hq).1;omega
   ·have:=H3.o.hB.2;omega
   ·have:=(ho2 j hq).1;omega
  have FIN:=qj (show yX m (w5.setCell ⟨b14,0,none⟩ (.slice (some ⟨g5,0,none⟩) (orows.length+1) c5)) B b12 b13 b14 bS bm most cv' qv' (.slice (some ⟨g5,0,none⟩) (orows.length+1) c5) (L++[k]) (rows++[⟨k.1.1,.slice a k.1.2.length c⟩]) (orows++[⟨k.1.1,.slice a k.1.2.length c⟩]) n from
   ⟨var6,set6,que6,by simpa using rF.o,oF.o,dis6,H3.o.hB⟩)
  have KF:=qj ((((Kd.below BB1.o:Kd SeT w w1).trans (HF.o.1.mono fun t e=>by rcases e with e|e;exact .inl e;exact .inr (.inl e))).trans kd6));have BF:=qj (((BB1.o.mono (by omega)).trans HF.o.2).trans bel6);clear FF hty nty set6 var6 que6 dis6 kd6 bel6 f46 ne5 r5 o5 G5 oo4 hq2 ho2;go_wp2_with fail;go_ret;exact .inr (.inr ⟨hk,hlt,rfl,⟨_,_,_,FIN.o⟩,KF.o,BF.o⟩)
end
end
section
attribute [local irreducible] xL
theorem wrap64_id (n:Int) (h:-9223372036854775808<=n/\n<=9223372036854775807):wrap64 n=n:=by unfold wrap64;omega
theorem wrap_i64 (n:Int):IntKind.i64.wrap n=wrap64 n:=by simp[IntKind.wrap,IntKind.bits,IntKind.signed,wrap64];omega
theorem yI {a:Nat} (ha:a < 18446744073709551616):(BitVec.ofInt 64 (a:Int)).toNat=a:=by
 rw[BitVec.ofInt_natCast,BitVec.toNat_ofNat];exact Nat.mod_eq_of_lt (by omega)
theorem bits_or_nat {a b:Nat} (ha:a < 4611686018427387904) (hb:b < 4611686018427387904):bits .or .i64 (a:Int) (b:Int)=((a|||b:Nat):Int):=by
 have hx:a|||b < 2 ^ 62:=Nat.or_lt_two_pow (by omega) (by omega);show IntKind.i64.wrap ((BitVec.ofInt 64 (a:Int)|||BitVec.ofInt 64 (b:Int)).toNat:Int)=_;rw[BitVec.toNat_or,yI (by omega),yI (by omega),wrap_i64,wrap64_id];omega
theorem bits_and_nat {a b:Nat} (ha:a < 4611686018427387904) (hb:b < 4611686018427387904):bits .and .i64 (a:Int) (b:Int)=((a&&&b:Nat):Int):=by
 have hx:a&&&b < 2 ^ 62:=Nat.and_lt_two_pow _ (by omega);show IntKind.i64.wrap ((BitVec.ofInt 64 (a:Int)&&&BitVec.ofInt 64 (b:Int)).toNat:Int)=_;rw[BitVec.toNat_and,yI (by omega),yI (by omega),wrap_i64,wrap64_id];omega
theorem bits_andNot_nat {a b:Nat} (ha:a < 4611686018427387904) (hb:b < 4611686018427387904):(bits .andNot .i64 (a:Int) (b:Int)=0)=(a&&&b=a):=by
 have e1:bits .andNot .i64 (a:Int) (b:Int)=IntKind.i64.wrap ((BitVec.ofInt 64 (a:Int)&&&~~~ BitVec.ofInt 64 (b:Int)).toNat:Int):=rfl;have e2:(BitVec.ofInt 64 (a:Int)&&&~~~ BitVec.ofInt 64 (b:Int)).toNat<=a:=by
  rw[BitVec.toNat_and,yI (by omega)];exact Nat.and_le_left
 have e3:((BitVec.ofInt 64 (a:Int)&&&~~~ BitVec.ofInt 64 (b:Int)).toNat=0)=(a&&&b=a):=by
  refine propext ⟨fun h=>?_,fun h=>?_⟩
  ·refine Nat.eq_of_testBit_eq fun i=>?_
   have h0:(BitVec.ofInt 64 (a:Int)&&&~~~ BitVec.ofInt 64 (b:Int)).toNat.testBit i=false:=by rw[h];simp
   rw[BitVec.toNat_and,Nat.testBit_and,yI (by omega),BitVec.toNat_not,yI (by omega)] at h0;rw[Nat.testBit_and];by_cases hi:i < 64
   ·rw [show 2 ^ 64 - 1 - b=2 ^ 64 - (b+1) by omega,Nat.testBit_two_pow_sub_succ (by omega)] at h0
    simp only[hi,decide_true,Bool.true_and] at h0;cases h1:a.testBit i <;> cases h2:b.testBit i <;> simp_all
   ·have:a.testBit i=false:=Nat.testBit_lt_two_pow (Nat.lt_of_lt_of_le (show a < 2 ^ 64 by omega) (Nat.pow_le_pow_right (by omega) (by omega)))
    simp[this]
  ·refine Nat.eq_of_testBit_eq fun i=>?_
   rw[BitVec.toNat_and,Nat.testBit_and,yI (by omega),BitVec.toNat_not,yI (by omega),Nat.zero_testBit];have h0:(a&&&b).testBit i=a.testBit i:=by rw[h]
   rw[Nat.testBit_and] at h0;by_cases hi:i < 64
   ·rw [show 2 ^ 64 - 1 - b=2 ^ 64 - (b+1) by omega,Nat.testBit_two_pow_sub_succ (by omega)]
    simp only[hi,decide_true,Bool.true_and];cases h1:a.testBit i <;> cases h2:b.testBit i <;> simp_all
   ·have:a.testBit i=false:=Nat.testBit_lt_two_pow (Nat.lt_of_lt_of_le (show a < 2 ^ 64 by omega) (Nat.pow_le_pow_right (by omega) (by omega)))
    simp[this]
 rw[e1,wrap_i64,wrap64_id _ (by omega),←e3];exact propext ⟨fun h=>by omega,fun h=>by rw[h];rfl⟩
def cntL (lev st:Int):Bool:=if lev=1\/lev=2 then decide (st=3\/st=2) else decide (lev=3)
theorem cntd_L (lev:Int) (s:St):cntd lev s=cntL lev s.status:=rfl
theorem sh_Counted (lev:Int) (hl:lev=1\/lev=2\/lev=3) (i th st be fi tr:Int) (a:Option Addr) (n c:Nat) (w:World):
  Calls Tryz.prog 137 #[.agg #[.int .i64 i,.int .i64 th,.int .i64 st,.int .i64 be,.int .i64 fi,.int .i64 tr,.slice a n c],.int .i64 lev] w fun e w'=>e=.returned (.bool (cntL lev st))/\Below w.heap.size w w':=by
 have b0:Below w.heap.size w (w.alloc (.cells #[.int .i64 i,.int .i64 th,.int .i64 st,.int .i64 be,.int .i64 fi,.int .i64 tr,.slice a n c] 56)):=(Below.refl _ w).alloc (Nat.le_refl _) _;go_enter Tryz.func137,Tryz.ntmps137;rcases hl with rfl|rfl|rfl
 ·by_cases h3:st=3
  ·subst h3
   go_wp2_with fail;go_ret;exact⟨rfl,b0⟩
  ·have q3:(st==3)=false:=by simpa using h3
   go_wp2_with fail;go_ret;refine⟨?_,b0⟩;simp[cntL,h3];rfl
 ·by_cases h3:st=3
  ·subst h3
   go_wp2_with fail;go_ret;exact⟨rfl,b0⟩
  ·have q3:(st==3)=false:=by simpa using h3
   go_wp2_with fail;go_ret;refine⟨?_,b0⟩;simp[cntL,h3];rfl
 ·go_wp2_with fail
  go_ret;exact⟨rfl,b0⟩
theorem sh_Really (i th st be fi tr:Int) (a:Option Addr) (n c:Nat) (i2 th2 st2 be2 fi2 tr2:Int) (a2:Option Addr) (n2 c2:Nat) (w:World):
  Calls Tryz.prog 184 #[.agg #[.int .i64 i,.int .i64 th,.int .i64 st,.int .i64 be,.int .i64 fi,.int .i64 tr,.slice a n c],.agg #[.int .i64 i2,.int .i64 th2,.int .i64 st2,.int .i64 be2,.int .i64 fi2,.int .i64 tr2,.slice a2 n2 c2]] w fun e w'=>e=.returned (.bool (decide (0<=fi)&&decide (fi < be2)))/\Below w.heap.size w w':=by
 have b0:Below w.heap.size w ((w.alloc (.cells #[.int .i64 i,.int .i64 th,.int .i64 st,.int .i64 be,.int .i64 fi,.int .i64 tr,.slice a n c] 56)).alloc (.cells #[.int .i64 i2,.int .i64 th2,.int .i64 st2,.int .i64 be2,.int .i64 fi2,.int .i64 tr2,.slice a2 n2 c2] 56)):=((Below.refl _ w).alloc (Nat.le_refl _) _).alloc (by simp) _;go_enter Tryz.func184,Tryz.ntmps184;by_cases h:0<=fi
 ·have q:decide (0<=fi)=true:=by simpa using h
  go_wp2_with fail;go_ret;refine⟨?_,b0⟩;simp[h]
 ·have q:decide (0<=fi)=false:=by simpa using h
  go_wp2_with fail;go_ret;refine⟨?_,b0⟩;simp[h]
end
