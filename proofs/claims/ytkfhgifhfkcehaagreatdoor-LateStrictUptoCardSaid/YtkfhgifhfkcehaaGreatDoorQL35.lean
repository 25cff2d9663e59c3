/- Parts of the proof, merged by program out of 3 texts (LayS, KeyA, KeyB): the first: The library's contracts on strings.Join and strconv.Itoa, laid at this program's numbers. Conditions: those of each theorem, as typed. -/
import Derived.Shelf.Strings.OnBuilder
import Derived.Shelf.Strconv.Itoa3
import Derived.Shelf.LaysM
import Derived.Test.YtkfhgifhfkcehaaGreatDoorProg
import Derived.Test.YtkfhgifhfkcehaaGreatDoorQL32
import Derived.Test.YtkfhgifhfkcehaaGreatDoorQL25
import Derived.Lib.AppendIntMem
import Derived.Test.YtkfhgifhfkcehaaGreatDoorQL33
set_option linter.unusedVariables false
set_option linter.unusedSimpArgs false
set_option linter.unusedSectionVars false
set_option maxRecDepth 100000
set_option maxHeartbeats 4000000
namespace Go.Proofs.YtkfhgifhfkcehaaGreatDoor
open Go.Maps Go.RowKit Go.Shelf
def lays156_ren:Go.Shelf.Ren:=⟨fun|156=>187|165=>233|166=>234|169=>235|240=>249|241=>250|276=>255|277=>256|n=>n,fun|31=>311|9=>9|3=>3|4=>4|0=>0|20=>20|72=>347|76=>349|70=>344|37=>345|75=>30|127=>358|164=>362|5=>5|80=>264|n=>n,fun|n=>n⟩
theorem lays156:Go.Proofs.Lays.n156 Tryz.prog lays156_ren:={
 mixed:=by kernel_rfl
 f156:=Tryz.func187.trans (congrArg some (by kernel_rfl))
 f165:=Tryz.func233.trans (congrArg some (by kernel_rfl))
 f166:=Tryz.func234.trans (congrArg some (by kernel_rfl))
 f169:=Tryz.func235.trans (congrArg some (by kernel_rfl))
 f240:=Tryz.func249.trans (congrArg some (by kernel_rfl))
 f241:=Tryz.func250.trans (congrArg some (by kernel_rfl))
 f276:=Tryz.func255.trans (congrArg some (by kernel_rfl))
 f277:=Tryz.func256.trans (congrArg some (by kernel_rfl))
 t0:=Tryz.underlying0
 a0:=Tryz.isAgg0
 z0:=Tryz.sizeOf0
 v0:=Tryz.zeroValue0
 t3:=Tryz.underlying3
 a3:=Tryz.isAgg3
 z3:=Tryz.sizeOf3
 v3:=Tryz.zeroValue3
 t4:=Tryz.underlying4
 a4:=Tryz.isAgg4
 z4:=Tryz.sizeOf4
 v4:=Tryz.zeroValue4
 t9:=Tryz.underlying9
 a9:=Tryz.isAgg9
 z9:=Tryz.sizeOf9
 v9:=Tryz.zeroValue9
 t20:=Tryz.underlying20
 a20:=Tryz.isAgg20
 z20:=Tryz.sizeOf20
 v20:=Tryz.zeroValue20
 t31:=Tryz.underlying311
 a31:=Tryz.isAgg311
 z31:=Tryz.sizeOf311
 v31:=Tryz.zeroValue311
 t37:=Tryz.underlying345
 a37:=Tryz.isAgg345
 z37:=Tryz.sizeOf345
 v37:=Tryz.zeroValue345
 t70:=Tryz.underlying344
 a70:=Tryz.isAgg344
 z70:=Tryz.sizeOf344
 v70:=Tryz.zeroValue344
 t72:=Tryz.underlying347
 a72:=Tryz.isAgg347
 z72:=Tryz.sizeOf347
 v72:=Tryz.zeroValue347
 t75:=Tryz.underlying30
 a75:=Tryz.isAgg30
 z75:=Tryz.sizeOf30
 v75:=Tryz.zeroValue30
 t76:=Tryz.underlying349
 a76:=Tryz.isAgg349
 z76:=Tryz.sizeOf349
 v76:=Tryz.zeroValue349
 t127:=Tryz.underlying358
 a127:=Tryz.isAgg358
 z127:=Tryz.sizeOf358
 v127:=Tryz.zeroValue358
 t164:=Tryz.underlying362
 a164:=Tryz.isAgg362
 z164:=Tryz.sizeOf362
 v164:=Tryz.zeroValue362}
theorem Builder_Extra_156:Builder.Extra Tryz.prog lays156_ren:={
 sizeBuilder:=by kernel_rfl
 liesBuilder:=by kernel_rfl
 t5:=Tryz.underlying5
 a5:=Tryz.isAgg5
 z5:=Tryz.sizeOf5
 v5:=Tryz.zeroValue5
 infoByte:=by kernel_rfl
 cellsByte:=by kernel_rfl
 sizeByte:=by kernel_rfl
 neB5:=by decide}
open Go.RowKit in
theorem strings_Join_none (a:Option Addr) (c:Nat) (sep:ByteArray) (w:World):
  Calls Tryz.prog 187 #[.slice a 0 c,.string sep] w fun e w'=>e=.returned (.string ⟨#[]⟩)∧w'=w:=Any.strings_Join_none lays156 Builder_Extra_156 a c sep w
open Go.RowKit in
theorem strings_Join (bk o c:Nat) (xs:List ByteArray) (sep:ByteArray) (w:World) (hcells:∀(j:Nat) x,xs[j]?=some x→w.cell? ⟨bk,o+j,none⟩=some (.string x)) (hbk:bk < w.heap.size) (hN:xs.length≤140737488355328) (hcap:xs.length≤c) (hlen:(Lib.join (xs.map (·.data.toList)) sep.data.toList).length≤140737488355328):
  Calls Tryz.prog 187 #[.slice (some ⟨bk,o,none⟩) xs.length c,.string sep] w fun e w'=>e=.returned (.string ⟨(Lib.join (xs.map (·.data.toList)) sep.data.toList).toArray⟩)∧Below w.heap.size w w':=Any.strings_Join lays156 Builder_Extra_156 bk o c xs sep w hcells hbk hN hcap hlen
def laysM171_ren:Go.Shelf.Ren:=⟨fun|171=>248|243=>254|246=>259|283=>261|284=>262|285=>263|286=>264|129=>209|317=>265|318=>266|319=>267|320=>268|337=>269|338=>270|n=>n,fun|3=>3|9=>9|2=>2|4=>4|171=>366|0=>0|53=>334|37=>345|5=>5|173=>368|212=>371|51=>332|20=>20|213=>372|46=>281|232=>373|233=>374|n=>n,fun|17=>23|18=>24|19=>25|n=>n⟩
theorem laysM171:Go.Proofs.LaysM.n171 Tryz.prog laysM171_ren:={
 mixed:=by kernel_rfl
 f129:=Tryz.func209.trans (congrArg some (by kernel_rfl))
 f171:=Tryz.func248.trans (congrArg some (by kernel_rfl))
 f243:=Tryz.func254.trans (congrArg some (by kernel_rfl))
 f246:=Tryz.func259.trans (congrArg some (by kernel_rfl))
 f283:=Tryz.func261.trans (congrArg some (by kernel_rfl))
 f284:=Tryz.func262.trans (congrArg some (by kernel_rfl))
 f285:=Tryz.func263.trans (congrArg some (by kernel_rfl))
 f286:=Tryz.func264.trans (congrArg some (by kernel_rfl))
 f317:=Tryz.func265.trans (congrArg some (by kernel_rfl))
 f318:=Tryz.func266.trans (congrArg some (by kernel_rfl))
 f319:=Tryz.func267.trans (congrArg some (by kernel_rfl))
 f320:=Tryz.func268.trans (congrArg some (by kernel_rfl))
 f337:=Tryz.func269.trans (congrArg some (by kernel_rfl))
 f338:=Tryz.func270.trans (congrArg some (by kernel_rfl))
 t0:=Tryz.underlying0
 a0:=Tryz.isAgg0
 z0:=Tryz.sizeOf0
 v0:=Tryz.zeroValue0
 t2:=Tryz.underlying2
 a2:=Tryz.isAgg2
 z2:=Tryz.sizeOf2
 v2:=Tryz.zeroValue2
 t3:=Tryz.underlying3
 a3:=Tryz.isAgg3
 z3:=Tryz.sizeOf3
 v3:=Tryz.zeroValue3
 t4:=Tryz.underlying4
 a4:=Tryz.isAgg4
 z4:=Tryz.sizeOf4
 v4:=Tryz.zeroValue4
 t5:=Tryz.underlying5
 a5:=Tryz.isAgg5
 z5:=Tryz.sizeOf5
 v5:=Tryz.zeroValue5
 t9:=Tryz.underlying9
 a9:=Tryz.isAgg9
 z9:=Tryz.sizeOf9
 v9:=Tryz.zeroValue9
 t20:=Tryz.underlying20
 a20:=Tryz.isAgg20
 z20:=Tryz.sizeOf20
 v20:=Tryz.zeroValue20
 t37:=Tryz.underlying345
 a37:=Tryz.isAgg345
 z37:=Tryz.sizeOf345
 v37:=Tryz.zeroValue345
 t46:=Tryz.underlying281
 a46:=Tryz.isAgg281
 z46:=Tryz.sizeOf281
 v46:=Tryz.zeroValue281
 t51:=Tryz.underlying332
 a51:=Tryz.isAgg332
 z51:=Tryz.sizeOf332
 v51:=Tryz.zeroValue332
 t53:=Tryz.underlying334
 a53:=Tryz.isAgg334
 z53:=Tryz.sizeOf334
 v53:=Tryz.zeroValue334
 t171:=Tryz.underlying366
 a171:=Tryz.isAgg366
 z171:=Tryz.sizeOf366
 v171:=Tryz.zeroValue366
 t173:=Tryz.underlying368
 a173:=Tryz.isAgg368
 z173:=Tryz.sizeOf368
 v173:=Tryz.zeroValue368
 t212:=Tryz.underlying371
 a212:=Tryz.isAgg371
 z212:=Tryz.sizeOf371
 v212:=Tryz.zeroValue371
 t213:=Tryz.underlying372
 a213:=Tryz.isAgg372
 z213:=Tryz.sizeOf372
 t232:=Tryz.underlying373
 a232:=Tryz.isAgg373
 z232:=Tryz.sizeOf373
 v232:=Tryz.zeroValue373
 t233:=Tryz.underlying374
 a233:=Tryz.isAgg374
 z233:=Tryz.sizeOf374
 v233:=Tryz.zeroValue374
 g17:=by kernel_rfl
 g18:=by kernel_rfl
 g19:=by kernel_rfl
 i0:=by kernel_rfl
 i2:=by kernel_rfl
 i3:=by kernel_rfl
 i4:=by kernel_rfl
 i5:=by kernel_rfl
 i9:=by kernel_rfl
 i20:=by kernel_rfl
 i37:=by kernel_rfl
 i46:=by kernel_rfl
 i51:=by kernel_rfl
 i53:=by kernel_rfl
 i171:=by kernel_rfl
 i173:=by kernel_rfl
 i212:=by kernel_rfl
 i232:=by kernel_rfl
 i233:=by kernel_rfl
 m17:=by kernel_rfl
 m18:=by kernel_rfl
 m19:=by kernel_rfl}
open Go.RowKit Go.Sort Go.Lib in
theorem strconv_Itoa (n:Int) (h0:-9223372036854775808≤n) (h1:n≤9223372036854775807) (w:World) (htab:Lib.TabIs Tryz.prog w "internal/strconv.uint64pow10" .u64 Lib.pow10Tab):
  Calls Tryz.prog 248 #[.int .i64 n] w fun e w'=>e=.returned (.string ⟨(Lib.itoa n).toArray⟩)∧∃k os,w'=grow (w.drewN k) os:=Any.strconv_Itoa laysM171 n h0 h1 w htab
section
attribute [local irreducible] wpL
def strC (s:ByteArray):List Value:=[.string s]
theorem strC_len (s:ByteArray):(strC s).length=1:=rfl
theorem infoStr:(Tryz.prog.info? 9).map (fun i=>(i.zero,i.size,i.bytes))=some (some (.string ⟨#[]⟩),1,16):=by kernel_rfl
theorem str_one (s:ByteArray):∀u ∈ strC s,u.oneCell'=true:=by intro u hu;simp[strC] at hu;rcases hu with rfl;rfl
def PowAt (w:World):Prop:=Lib.TabIs Tryz.prog w "internal/strconv.uint64pow10" .u64 Lib.pow10Tab
theorem PowAt.below {w w':World} (h:PowAt w) (hb:Below w.heap.size w w'):PowAt w':=by
 have hg:Tryz.prog.globalNamed "internal/strconv.uint64pow10" =some 23:=by kernel_rfl
 unfold PowAt Lib.TabIs World.var? at h ⊢
 rw[hg] at h ⊢
 simp only[Option.bind_some] at h ⊢
 have hlt:23 < w.heap.size:=by
  rcases Nat.lt_or_ge 23 w.heap.size with h'|h'
  ·exact h'
  ·rw [Array.getElem?_eq_none h'] at h;cases h
 rw[hb.block _ hlt]
 exact h
def itoaB (n:Int):ByteArray:=⟨(Lib.itoa n).toArray⟩
theorem e_Print {w:World} (h:PowAt w) (n:Int) (h0:-9223372036854775808≤n) (h1:n≤9223372036854775807):Calls Tryz.prog 231 #[.int .i64 n] w fun e w'=>e=.returned (.string (itoaB n))∧Below w.heap.size w w':=by
 have HC:=hid (strconv_Itoa n h0 h1 w h)
 go_enter Tryz.func231,Tryz.ntmps231
 go_wp2_with fail
 refine HC.out.mono ?_
 rintro e w' ⟨rfl,k,os,rfl⟩
 go_wp2_with fail
 refine bodyPost_ret (v:=.string (itoaB n)) (by simp[results,Tryz.results231,go_sem,itoaB]) rfl ⟨rfl,Lib.below_grow _ _ (Nat.le_refl _) _ _⟩
theorem OwnF.ofRow {α:Type} {f:α→List Value} {e:TypeId} {sz B g n:Nat} {w:World} {l:List α} (h:w.heap[g]?=some (.cells (l.flatMap f).toArray e (0,0))) (hB:B≤g) (hn:l.length=n) (hl:(l.flatMap f).length=n*sz) (hm:n≤maxLen):OwnF f e sz w B (.slice (some ⟨g,0,none⟩) n n) l:=by
 subst hn
 exact⟨hl,.inr ⟨g,_,_,rfl,hB,h,Nat.le_refl _,hm,by simpa using hl,show List.take (l.length*sz) (l.flatMap f)=l.flatMap f from List.take_of_length_le (Nat.le_of_eq hl)⟩⟩
def regB:ByteArray:=⟨#[114,101,103,105,115,116,101,114]⟩
theorem sl_strs {w:World} {b n c:Nat} {l:List ByteArray} {B:Nat} (h:OwnF strC 9 1 w B (.slice (some ⟨b,0,none⟩) n c) l) (hn:n=l.length):∀(j:Nat) x,l[j]?=some x→w.cell? ⟨b,0+j,none⟩=some (.string x):=by
 intro j x hx
 subst hn
 obtain⟨b',o,y,hq,hb,hy,hc⟩:=(OwnF.sl h).atF strC_len rfl (List.getElem?_eq_some_iff.1 hx).1
 simp only[Option.some.injEq,Addr.mk.injEq,and_true] at hq
 obtain⟨rfl,rfl⟩:=hq
 rw[hx] at hy
 obtain rfl:=Option.some.inj hy
 have:=hc 0 (by decide)
 simpa[strC] using this
theorem OwnF.capLe {α:Type} {f:α→List Value} {e:TypeId} {sz:Nat} {w:World} {B g n c:Nat} {l:List α} (h:OwnF f e sz w B (.slice (some ⟨g,0,none⟩) n c) l):l.length≤c:=by
 obtain⟨-,h2⟩:=h
 rcases h2 with⟨h2,-⟩|⟨g',cap,cur,hv,-,-,hn,-⟩
 ·cases h2
 ·simp only[Value.slice.injEq] at hv
  omega
theorem w_Join {w:World} {B g n c:Nat} {l:List ByteArray} (h:OwnF strC 9 1 w B (.slice (some ⟨g,0,none⟩) n c) l) (hn:n=l.length) (hlen:(Lib.join (l.map (·.data.toList)) [32]).length≤140737488355328) (hl:l.length≤70000):
  Calls Tryz.prog 232 #[.slice (some ⟨g,0,none⟩) n c] w fun e w'=>e=.returned (.string ⟨(Lib.join (l.map (·.data.toList)) [32]).toArray⟩)∧Below w.heap.size w w':=by
 have cl:=sl_strs h hn
 subst hn
 have HC:=hid (strings_Join g 0 c l ⟨#[32]⟩ w cl (OwnF.lt h g rfl).2 (by omega) (OwnF.capLe h) hlen)
 go_enter Tryz.func232,Tryz.ntmps232
 go_wp2_with fail
 refine HC.out.mono ?_
 rintro e w' ⟨rfl,b⟩
 go_wp2_with fail
 refine bodyPost_ret (v:=.string ⟨(Lib.join (l.map (·.data.toList)) [32]).toArray⟩) (by simp[results,Tryz.results232,go_sem]) rfl ⟨rfl,b⟩
theorem st_Key {w:World} (h:PowAt w) (hW:WordsAt w) (x:Int) (h0:-1000000000≤x) (h1:x≤1000000000):
  Calls Tryz.prog 186 #[scV x] w fun e w'=>e=.returned (.string ⟨(regT x).toArray⟩)∧Below w.heap.size w w':=by
 have b0:Below w.heap.size w (w.alloc (.cells #[.int .i64 1,.int .i64 x,.slice none 0 0,.slice none 0 0] 99)):=(Below.refl _ w).alloc (Nat.le_refl _) _
 have r0:=row_new w (.cells #[.int .i64 1,.int .i64 x,.slice none 0 0,.slice none 0 0] 99)
 have hz:(w.alloc (.cells #[.int .i64 1,.int .i64 x,.slice none 0 0,.slice none 0 0] 99)).heap.size=w.heap.size+1:=by simp
 go_enter Tryz.func186,Tryz.ntmps186
 go_wp2_with fail
 generalize w.alloc (.cells #[.int .i64 1,.int .i64 x,.slice none 0 0,.slice none 0 0] 99)=W at *
 have hW0:=hW.below b0
 refine(e_object (i:=0) (by omega) hW0.reg (by have:=hW0.big;omega)).mono ?_
 rintro e W1 ⟨rfl,b1⟩
 have r1:=row_below r0 b1 (by omega)
 have B1:=hid (b0.trans (b1.mono (by omega)))
 have y:=row_cell r1
 have y0:=y 0
 have y1:=y 1
 simp at y0 y1
 have yl:=row_lt r1
 have PW:=hid ((h.below B1.out))
 have R1:=hid r1
 clear y r0 r1 hW0 b0 b1 hz
 go_wp2_with fail
 have b2:Below W1.heap.size W1 (W1.alloc (.cells #[.string ⟨#[114,101,103,105,115,116,101,114]⟩] 9)):=(Below.refl _ W1).alloc (Nat.le_refl _) _
 have r2:=row_new W1 (.cells #[.string ⟨#[114,101,103,105,115,116,101,114]⟩] 9)
 refine(e_Print (PW.out.below b2) x (by omega) (by omega)).mono ?_
 rintro e W3 ⟨rfl,b3⟩
 have hs1:=B1.out.size
 have hs2:=b2.size
 have hs3:=b3.size
 have r3:=row_below r2 b3 (row_lt r2)
 have o3:OwnF strC 9 1 W3 w.heap.size (.slice (some ⟨W1.heap.size,0,none⟩) 1 1) [regB]:=OwnF.ofRow (l:=[regB]) (n:=1) r3 hs1 rfl rfl (by decide)
 have hB3:w.heap.size≤W3.heap.size:=by omega
 have B3:=hid (B1.out.trans ((b2.trans (b3.mono hs2)).mono hs1))
 have hl1:=row_lt r3
 clear r2 r3 b2 b3
 go_wp2_with (at_builtin;refine wpList_appF rfl _ _ _ rfl _ 16 Tryz.underlying311 infoStr rfl o3 (itoaB x) hB3 (by rfl) (by rfl) (by first|rfl|simp) rfl (str_one _) (by first|omega|(simp only[List.length_append,List.length_cons,List.length_nil,List.length_replicate];omega)) (by first|omega|(simp only[List.length_append,List.length_cons,List.length_nil,List.length_replicate];omega)) ?_;refine Stop.halt ?_)
 refine Stop.go ?_
 intro g c w4 o4 G4
 have B4:=hid (B3.out.trans (G4.below hB3 fun j hj=>(OwnF.lt o3 j hj).1))
 have ej:Lib.join ([regB,itoaB x].map (·.data.toList)) [32]=regT x:=by simp[regB,itoaB,Lib.join,regT]
 have o5:OwnF strC 9 1 w4 w.heap.size (.slice (some ⟨g,0,none⟩) 2 c) [regB,itoaB x]:=o4
 have il:=itoa_len h0 h1
 have JC:=w_Join o5 rfl (by rw[ej];simp[regT];omega) (by simp)
 rw[ej] at JC
 have JC:=hid JC
 clear o3 G4
 go_wp2_with fail
 refine JC.out.mono ?_
 rintro e w5 ⟨rfl,b5⟩
 go_wp2_with fail
 refine bodyPost_ret (v:=.string ⟨(regT x).toArray⟩) (by simp[results,Tryz.results186,go_sem]) rfl ⟨rfl,B4.out.trans (b5.mono B4.out.size)⟩
end
section
attribute [local irreducible] wpL
attribute [local go_sem] Oper.semAt_some
def HandS (σ:List Int) (i:Nat) (w:World) (hb:Nat) (args:Array Value):Prop:=args=#[.int .i64 i,scV (σ.getD i 0)]
theorem OwnF.keepM {α:Type} {f:α→List Value} {e:TypeId} {sz B lo hb:Nat} {v:Value} {l:List α} {w w':World} (h:OwnF f e sz w B v l) {M:Obj→Prop} {L:Nat→Prop} (hk:KeepM M L lo hb w w') (hM:∀cs fz,¬M (.cells cs e fz)) (hB:lo≤B) (hl:∀k,v.ownBlock=some k→k < hb):OwnF f e sz w' B v l:=by
 obtain⟨h1,h2⟩:=h
 refine⟨h1,?_⟩
 rcases h2 with h2|⟨g,cap,cur,rfl,hg,hh,r⟩
 ·exact .inl h2
 ·exact .inr ⟨g,cap,cur,rfl,hg,hk.block g _ (.inr (by omega)) (hl g rfl) hh (hM _ _),r⟩
def MStr (O:Obj):Prop:=∃cs fz,O=.cells cs 9 fz
theorem s_each (m:Nat) (σ:List Int) (hl:σ.length≤1000) (bE:Nat) (v:Value):IterC Tryz.prog MStr (fun _=>False) 230 #[.pointer (some ⟨bE,0,none⟩)] m
  (fun W=>W.heap[bE]?=some (.cells #[v] 46 (0,0))∧SlS W W.heap.size v σ) (HandS σ) σ.length:=by
 intro l J Jx W hP hJ hY h0
 obtain⟨hr,hs⟩:=hP
 obtain⟨av,cv,rfl,hm9⟩:=hs.ex
 have y0:=row_cell hr 0
 simp at y0
 have yl:=row_lt hr
 have hm:m+1 - 1=m:=rfl
 refine callsIn_of_wp Tryz.func230 rfl trivial ?_ rfl
 simp only[Tryz.ntmps230,List.size_toArray,List.length_cons,List.length_nil,Nat.reduceAdd,Nat.reduceSub,Array.replicate_succ,Array.replicate_zero,List.push_toArray,List.append_toArray,List.nil_append,List.cons_append]
 have HC:=hid (l_All _ σ W hs hl)
 gi_wp2_with fail
 refine⟨trivial,(callsIn_wide.2 HC.out).mono ?_⟩
 rintro e w1 ⟨v',rfl,o1,b1⟩
 obtain⟨a1,c1,rfl,-⟩:=(OwnF.sl o1).ex
 have hJ1:J 0 w1:=hJ 0 _ _ h0 (Nat.le_refl _) b1
 have s1:=b1.size
 clear HC hr hs y0 yl b1 h0
 have HY:=hid hY
 have HJ:=hid hJ
 clear hY hJ
 gi_wp2_with fail
 have O1:=hid o1
 clear o1
 gi_loopw [9] (fun p wr=>∃i:Nat,i≤σ.length∧p=.int .i64 i∧J i wr∧W.heap.size≤wr.heap.size∧OwnS wr W.heap.size (.slice a1 σ.length c1) σ)
  (fun p _=>σ.length - (intOf p).toNat)
 case atStart=>exact⟨0,by omega,by go_num,hJ1,s1,O1.out⟩
 case round=>
  obtain⟨i,hi,rfl,hJi,hs,o⟩:=hrel
  clear hJ1 s1 O1
  by_cases hlt:i < σ.length
  ·obtain ⟨b,off,x,hq,hb,hx,hc⟩:=(OwnF.sl o).atF SC_len rfl hlt
   subst hq
   have c0:wr.cell? ⟨b,off+i*4,none⟩=some (.int .i64 1):=hc 0 (by decide)
   have c1':wr.cell? ⟨b,off+i*4+1,none⟩=some (.int .i64 x):=hc 1 (by decide)
   have c2:wr.cell? ⟨b,off+i*4+2,none⟩=some (.slice none 0 0):=hc 2 (by decide)
   have c3:wr.cell? ⟨b,off+i*4+3,none⟩=some (.slice none 0 0):=hc 3 (by decide)
   have O:=hid o
   have hxx:σ.getD i 0=x:=by rw[List.getD_eq_getElem?_getD,hx];rfl
   have ol:=fun k e=>(OwnF.lt O.out k e).2
   have b2:Below wr.heap.size wr (wr.alloc (.cells #[.int .i64 1,.int .i64 x,.slice none 0 0,.slice none 0 0] 99)):=(Below.refl _ wr).alloc (Nat.le_refl _) _
   obtain⟨fn,tmps,assign,body,hy,hR⟩:=HY.out i (wr.alloc (.cells #[.int .i64 1,.int .i64 x,.slice none 0 0,.slice none 0 0] 99)) wr.heap.size #[.int .i64 i,.agg #[.int .i64 1,.int .i64 x,.slice none 0 0,.slice none 0 0]] hlt
    (HJ.out i _ _ hJi hs b2) hs (by simp) (by rw[HandS,hxx])
   have O2:=hid (OwnF.below O.out b2)
   have hz2:=b2.size
   clear hc o b2
   gi_wp2_with fail
   refine hR.mono ?_
   rintro e W3 (⟨rfl,hJ3,hk3⟩|⟨rfl,hJx3⟩)
   ·gi_wp2_with fail
    go_roundw
    case rel=>
     have hs3:=hk3.size
     refine⟨i+1,by omega,by go_num,hJ3,by omega,OwnF.keepM O2.out hk3 (fun cs fz h=>by obtain⟨_,_,h⟩:=h;simp at h) (Nat.le_refl _) ol⟩
    case measure=>simp[intOf];omega
   ·gi_wp2_with fail
    refine bodyPost_ret (results_none rfl _ _ _) rfl ?_
    exact⟨⟨_,rfl⟩,.inr ⟨i+1,by omega,by omega,hJx3⟩⟩
  ·obtain rfl:i=σ.length:=by omega
   have hq:decide ((σ.length:Int) < (σ.length:Int))=false:=by simp
   gi_wp2_with fail
   go_end0
   exact⟨⟨_,rfl⟩,.inl hJi⟩
theorem LeavesIn.fin {F:Fence} {n:Nat} {P:Program} {fn:Func} {tmps:Array Value} {R:Ending→World→Prop} {w:World} {v:Value} (h:(results fn tmps).run P w=.ok v w) (hR:R (.returned v) w):LeavesIn F n P fn tmps R [] .returning w:=⟨v,h,hR⟩
theorem s_Each {w:World} {a:Option Addr} {n c:Nat}:Calls Tryz.prog 185 #[.agg #[.slice a n c]] w fun e w'=>e=.returned (.func (.func 230) #[] #[.pointer (some ⟨w.heap.size,0,none⟩)])∧w'=w.alloc (.cells #[.slice a n c] 46):=by
 go_enter Tryz.func185,Tryz.ntmps185
 go_wp2
 go_ret
 exact⟨rfl,rfl⟩
def regS (x:Int):ByteArray:=⟨(regT x).toArray⟩
def LTx (l0 B q:Nat) (σ:List Int) (i:Nat) (w:World):Prop:=∃lv,w.heap[l0]?=some (.cells #[lv] 311 (0,0))∧OwnF strC 9 1 w B lv ((σ.take i).map regS)∧∀k,lv.ownBlock=some k→k≠q
theorem s_Key {w:World} (h:PowAt w) (hW:WordsAt w) (v:Value) (σ:List Int) (hs:SlS w w.heap.size v σ) (hl:σ.length≤8) (hv:SmallV σ):
  Calls Tryz.prog 140 #[.agg #[v]] w fun e w'=>e=.returned (.string (keyB σ))∧Below w.heap.size w w':=by
 obtain⟨av,cv,rfl,-⟩:=hs.ex
 refine(callsIn_wide (n:=2+2)).1 ?_
 refine callsIn_of_wp_marks Tryz.func140 rfl trivial ?_ rfl
 simp only[Tryz.ntmps140,List.size_toArray,List.length_cons,List.length_nil,Nat.reduceAdd,Nat.reduceSub,Array.replicate_succ,Array.replicate_zero,List.push_toArray,List.append_toArray,List.nil_append,List.cons_append]
 gi_wp2_with fail
 have b1:Below w.heap.size w ((w.alloc (.cells #[.slice av σ.length cv] 46)).alloc (.cells #[.slice none 0 0] 311)):=((Below.refl _ w).alloc (Nat.le_refl _) _).alloc (by simp) _
 refine⟨trivial,(callsIn_wide.2 s_Each).mono ?_⟩
 rintro e w1 ⟨rfl,rfl⟩
 gi_wp2_with fail
 have rE:(((w.alloc (.cells #[.slice av σ.length cv] 46)).alloc (.cells #[.slice none 0 0] 311)).alloc (.cells #[.slice av σ.length cv] 46)).heap[w.heap.size+1+1]?=some (.cells #[.slice av σ.length cv] 46 (0,0)):=row_new' (by simp)
 have rL:(((w.alloc (.cells #[.slice av σ.length cv] 46)).alloc (.cells #[.slice none 0 0] 311)).alloc (.cells #[.slice av σ.length cv] 46)).heap[w.heap.size+1]?=some (.cells #[.slice none 0 0] 311 (0,0)):=row_old (row_new' (by simp))
 have bq:=b1.alloc b1.size (.cells #[.slice av σ.length cv] 46)
 have zq:(((w.alloc (.cells #[.slice av σ.length cv] 46)).alloc (.cells #[.slice none 0 0] 311)).alloc (.cells #[.slice av σ.length cv] 46)).heap.size=w.heap.size+3:=by simp
 generalize ((w.alloc (.cells #[.slice av σ.length cv] 46)).alloc (.cells #[.slice none 0 0] 311)).alloc (.cells #[.slice av σ.length cv] 46)=wq at *
 have hsq:=(hs.below bq).more bq.size
 have lt0:LTx (w.heap.size+1) w.heap.size (wq.heap.size+1) σ 0 wq:=⟨_,rL,OwnF.nil _ _,fun k e=>by cases e⟩
 have hI:∀(i:Nat) (A B:World),(LTx (w.heap.size+1) w.heap.size (wq.heap.size+1) σ i A∧Below w.heap.size w A)→wq.heap.size≤A.heap.size→Below wq.heap.size A B→(∀k,k < A.heap.size→k≠wq.heap.size+1→B.heap[k]?=A.heap[k]?)→(LTx (w.heap.size+1) w.heap.size (wq.heap.size+1) σ i B∧Below w.heap.size w B):=by
  rintro i A B ⟨⟨lv,h1,h2,h3⟩,hB⟩ hs hb he
  exact⟨⟨lv,(he _ (row_lt h1) (by omega)).trans h1,OwnF.fr (S:=fun k=>k=wq.heap.size+1) h2 ⟨hb.mono (Nat.zero_le _),fun k hk hn=>he k hk hn⟩ h3,h3⟩,hB.trans (hb.mono bq.size)⟩
 refine wpIn_range_ownC (M:=MStr) (L:=fun _=>False) (m:=2) (gf:=230) (N:=σ.length) (H:=HandS σ) rfl (enters_of Tryz.func230 (by kernel_rfl) rfl) (fun _ h=>h.elim) (s_each 2 σ (by omega) _ _) (fun i W hb args h=>by rw[h];rfl)
  (fun i A=>LTx (w.heap.size+1) w.heap.size (wq.heap.size+1) σ i A∧Below w.heap.size w A) (fun _ _ _=>False) hI (fun _ _ _ _ h _ _ _=>h) ⟨lt0,bq⟩ (fun W hW=>⟨row_below rE hW (row_lt rE),(hsq.below hW).more hW.size⟩) (fun r h=>by obtain⟨_,_,h⟩:=h;cases h) (fun r h=>by obtain⟨_,_,h⟩:=h;cases h) ?_ ?_ ?_
 ·rintro i W1 hb args hi ⟨hL,hB⟩ hlo hhi hH
  obtain⟨x,hx⟩:∃x,σ.getD i 0=x:=⟨_,rfl⟩
  rw[HandS,hx] at hH
  subst hH
  gi_wp2_with fail
  refine⟨(Below.refl _ _).alloc (Nat.le_refl _) _,?_⟩
  intro w2 z2 k2 b2
  obtain⟨⟨lv,r1,o1,n1⟩,bW⟩:=hI i W1 w2 ⟨hL,hB⟩ (by omega) (((Below.refl wq.heap.size W1).alloc (by omega) _).trans b2) (fun k hk hn=>(k2 k hn).trans (Below.heap_alloc _ _ _ (by omega)))
  have r9:w2.heap[W1.heap.size]?=some (.cells #[.int .i64 1,.int .i64 x,.slice none 0 0,.slice none 0 0] 99 (0,0)):=(k2 _ (by omega)).trans (row_new W1 _)
  have z9:w2.heap.size=W1.heap.size+1:=by rw[z2];simp
  generalize W1.heap.size=p9 at *
  clear z2 k2 b2 hL hB W1
  obtain⟨L,hL⟩:∃L,(σ.take i).map regS=L:=⟨_,rfl⟩
  rw[hL] at o1
  have hLi:=hid (show L.length=i by rw[←hL];simp;omega)
  have hLm:L.length≤8:=by have:=hLi.out;omega
  have hL2:(σ.take (i+1)).map regS=L++[regS x]:=by
   rw[List.take_add_one,List.map_append,hL,List.getElem?_eq_getElem hi]
   rw[List.getD_eq_getElem?_getD,List.getElem?_eq_getElem hi] at hx
   simp only[Option.getD_some] at hx
   rw[hx]
   rfl
  obtain⟨al,cl,rfl,-⟩:=(OwnF.sl o1).ex
  have y0:=row_cell r1 0
  simp at y0
  have yl:=row_lt r1
  have z:=row_cell r9
  have z0:=z 0
  have z1:=z 1
  have z2:=z 2
  have z3:=z 3
  simp at z0 z1 z2 z3
  have zl:=row_lt r9
  have Z9:=hid z9
  have R1:=hid r1
  have O1:=hid o1
  have BW:=hid bW
  clear z r1 o1 bW r9 z9
  gi_wp2_with fail
  have hvx:-1000000000≤x∧x≤1000000000:=hv x (by rw[List.getD_eq_getElem?_getD,List.getElem?_eq_getElem hi] at hx;simp only[Option.getD_some] at hx;rw[←hx];exact List.getElem_mem hi)
  have KC:=hid (st_Key (h.below BW.out) (hW.below BW.out) x hvx.1 hvx.2)
  have KC:=hid (st_Key (w:=w2.drew) (h.below BW.out.drew) (hW.below BW.out.drew) x hvx.1 hvx.2)
  have hwB:=BW.out.size
  refine RN.wpIn_region_t (w2.heap.size) [1,1,3,3,2,2] (.fin [0,1,2,3,4,5]) (by kernel_rfl) ?_
  simp only[wpT,selX,guardAt,sD,sE,sF,sG]
  repeat (apply wpL_s;(intro w2 hw2;have hk1:=hw2.cell;have hk3:=hw2.1;clear hw2;go_simp;with_reducible rfl);simp only[Act.put,sA,sB,sC])
  refine wpL_k (fun K hK=>?_)
  go_simp
  refine KC.out.mono ?_
  rintro e w3 ⟨rfl,b3⟩
  refine hK _ _ (RN.KeepsN.of_below (b3.mono (Nat.le_refl w2.heap.size))) ?_
  clear hK K
  refine wpL_k (fun K hK=>?_)
  go_simp
  refine hK _ _ (RN.KeepsN.alloc w3 _ b3.size) ?_
  clear hK K
  have b3':Below w2.heap.size w2 w3:=(Below.refl _ w2).drew.trans b3
  have o3:=OwnF.below O1.out b3'
  have r3:=row_below R1.out b3' yl
  have h3s:w2.heap.size≤w3.heap.size:=b3'.size
  refine wpL_e (fun K hK=>?_)
  refine wp_appF _ _ _ rfl _ 16 Tryz.underlying311 infoStr rfl o3 (regS x) (show w.heap.size≤w3.heap.size by omega) (by rfl) (by rfl) (by first|rfl|simp) rfl (str_one _) (by first|omega|(simp only[List.length_append,List.length_cons,List.length_nil,List.length_replicate];omega)) (by first|omega|(simp only[List.length_append,List.length_cons,List.length_nil,List.length_replicate];omega)) ?_
  intro g1 c1 w4 o4 G4
  refine hK _ _ ?_
  clear hK K
  have ne:(Value.slice al L.length cl).ownBlock≠some (w.heap.size+1):=OwnF.neT o3 r3 (by decide)
  have r4:w4.heap[w.heap.size+1]?=some _:=row_grw r3 G4 ne
  have y:=row_cell r4 0
  simp at y
  have yf:=row_free r4 0
  have yl4:=row_lt r4
  have neF:(Value.slice (some ⟨g1,0,none⟩) (L.length+1) c1).ownBlock≠some (w.heap.size+1):=OwnF.neT o4 r4 (by decide)
  have oF:=hid (OwnF.other (j:=0) o4 neF (.slice (some ⟨g1,0,none⟩) (L.length+1) c1))
  have rF:=hid (row_set r4 0 (.slice (some ⟨g1,0,none⟩) (L.length+1) c1))
  have nF:g1≠wq.heap.size+1:=by
   rcases G4.own g1 rfl with e|e
   ·exact n1 g1 e
   ·have:=Z9.out;omega
  have NF:=hid nF
  have bF:=hid ((BW.out.trans (b3'.mono hwB)).trans ((G4.below (B:=w.heap.size) (by omega) fun j hj=>(OwnF.lt o3 j hj).1).setCell (p:=⟨w.heap.size+1,0,none⟩) (Nat.le_succ _) (.slice (some ⟨g1,0,none⟩) (L.length+1) c1)))
  have KF:Hid (KeepM MStr (fun _=>False) wq.heap.size hb w2 (w4.setCell ⟨w.heap.size+1,0,none⟩ (.slice (some ⟨g1,0,none⟩) (L.length+1) c1))):=hid (by
   refine KeepM.trans ⟨Nat.le_trans h3s G4.size,fun k O hk1 hk2 hO hM=>?_⟩ (KeepM.set _ (.inl ⟨by omega,id⟩))
   replace hk1:wq.heap.size≤k:=hk1.resolve_left id
   have hO3:w3.heap[k]?=some O:=(b3'.block k (by have:=Z9.out;omega)).trans hO
   refine(G4.grown.block k (Array.getElem?_eq_some_iff.1 hO3).1 fun e=>?_).trans hO3
   obtain⟨cs,hcs⟩:=OwnF.keepObj o3 k e.symm
   rw[hO3] at hcs
   exact hM ⟨_,_,Option.some.inj hcs⟩)
  clear o3 o4 r3 r4 G4 ne neF nF b3 b3' n1
  refine wpL_e (fun K hK=>?_)
  go_simp
  refine hK _ _ ?_
  clear hK K
  repeat refine wpL_nil ?_
  refine⟨⟨⟨_,by simpa using rF.out,?_,fun k e=>?_⟩,bF.out⟩,KF.out⟩
  ·rw [hL2];exact oF.out
  ·cases e;exact NF.out
 ·rintro W ⟨⟨lv,r1,o1,-⟩,hB⟩ hz hd
  clear hI lt0
  rw[List.take_length] at o1
  obtain⟨al,cl,rfl,-⟩:=(OwnF.sl o1).ex
  have y0:=row_cell r1 0
  simp at y0
  have yl:=row_lt r1
  have ek:(Lib.join ((σ.map regS).map (·.data.toList)) [59,32])=keyT σ:=by simp[keyT,regS,Function.comp_def]
  have hkl:=keyT_len hv
  have JC:Calls Tryz.prog 187 #[.slice al (σ.map regS).length cl,.string ⟨#[59,32]⟩] W fun e w'=>e=.returned (.string (keyB σ))∧Below W.heap.size W w':=by
   rcases OwnF.form o1 with⟨hv0,hn0⟩|⟨g,cap,hv0,-,hg⟩
   ·have:σ=[]:=by simpa using hn0
    subst this
    simp only[Value.slice.injEq] at hv0
    obtain⟨rfl,-,rfl⟩:=hv0
    refine(strings_Join_none none 0 _ W).mono ?_
    rintro e w' ⟨rfl,rfl⟩
    exact⟨rfl,Below.refl _ _⟩
   ·simp only[Value.slice.injEq] at hv0
    obtain⟨rfl,-,rfl⟩:=hv0
    have:=strings_Join g 0 cl (σ.map regS) ⟨#[59,32]⟩ W (sl_strs o1 rfl) hg (by simp;omega) (OwnF.capLe o1) (by rw[ek];omega)
    rw[ek] at this
    exact this
  have JC:=hid JC
  have BW:=hid hB
  clear o1 hB r1
  gi_wp2_with fail
  refine⟨trivial,(callsIn_wide.2 (by simpa using JC.out)).mono ?_⟩
  rintro e w9 ⟨rfl,b9⟩
  gi_wp2_with fail
  have M9:Marks w.heap.size [w.heap.size+3] w9:=⟨by simp,fun D hD=>by
   obtain rfl:D=w.heap.size+3:=by simpa using hD
   rw[zq] at hd
   exact⟨by omega,row_below hd b9 (by omega)⟩⟩
  refine leaves_marks [w.heap.size+3] _ M9 (fun w' hb'=>LeavesIn.fin (v:=.string (keyB σ)) ?_ ⟨rfl,(BW.out.trans (b9.mono BW.out.size)).trans hb'⟩)
  simp[results,Tryz.results140,go_sem]
 ·rintro c i W h1 h2 h3
  exact h3.elim
end
