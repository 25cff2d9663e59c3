/- Parts of the proof, merged by program out of 2 texts (EvA, EvB): the first: Events: the fields, the words. Conditions: those of each theorem, as typed. -/
import Derived.Test.YtkfhgifhfkcehaaGreatDoorQL15
set_option linter.unusedVariables false
set_option linter.unusedSimpArgs false
set_option linter.unusedSectionVars false
set_option maxRecDepth 100000
set_option maxHeartbeats 4000000
namespace Go.Proofs.YtkfhgifhfkcehaaGreatDoor
open Go.RowKit
section
attribute [local irreducible] wpL
structure Fd where
 f:FuncId
 tb:Int
 lo:Int
 hi:Int
def Fd.cells (x:Fd):List Value:=[.func (.func x.f) #[] #[],.int .i64 x.tb,.int .i64 x.lo,.int .i64 x.hi]
abbrev Fd.val (x:Fd):Value:=.agg #[.func (.func x.f) #[] #[],.int .i64 x.tb,.int .i64 x.lo,.int .i64 x.hi]
theorem Fd.len (x:Fd):x.cells.length=4:=rfl
theorem infoFd:(Tryz.prog.info? 233).map (fun i=>(i.zero,i.size,i.bytes))=some (some (.agg #[.nilFunc,.int .i64 0,.int .i64 0,.int .i64 0]),4,32):=by kernel_rfl
def fdTx:Fd:=⟨221,0,1,1000⟩
theorem e_tx (w:World):Calls Tryz.prog 163 #[] w fun e w'=>e=.returned fdTx.val∧Below w.heap.size w w':=by
 have hb:=(Below.refl w.heap.size w).alloc (Nat.le_refl _) (.cells #[.nilFunc,.int .i64 0,.int .i64 0,.int .i64 0] 233)
 go_enter Tryz.func163,Tryz.ntmps163
 go_wp2
 refine bodyPost_ret (v:=fdTx.val) (by simp[results,Tryz.results163,go_sem,fdTx]) rfl ⟨rfl,?_⟩
 exact(Below.refl w.heap.size w).alloc (Nat.le_refl _) _
theorem e_tx1 (b:Nat) (w:World):Calls Tryz.prog 221 #[.pointer (some ⟨b,0,none⟩)] w fun e w'=>e=.returned (.pointer (some ⟨b,1,none⟩))∧w'=w:=by
 go_enter Tryz.func221,Tryz.ntmps221
 go_wp2
 go_ret
 exact⟨rfl,rfl⟩
def fdTh:Fd:=⟨222,0,0,7⟩
theorem e_thread (w:World):Calls Tryz.prog 164 #[] w fun e w'=>e=.returned fdTh.val∧Below w.heap.size w w':=by
 have hb:=(Below.refl w.heap.size w).alloc (Nat.le_refl _) (.cells #[.nilFunc,.int .i64 0,.int .i64 0,.int .i64 0] 233)
 go_enter Tryz.func164,Tryz.ntmps164
 go_wp2
 refine bodyPost_ret (v:=fdTh.val) (by simp[results,Tryz.results164,go_sem,fdTh]) rfl ⟨rfl,?_⟩
 exact(Below.refl w.heap.size w).alloc (Nat.le_refl _) _
theorem e_thread1 (b:Nat) (w:World):Calls Tryz.prog 222 #[.pointer (some ⟨b,0,none⟩)] w fun e w'=>e=.returned (.pointer (some ⟨b,2,none⟩))∧w'=w:=by
 go_enter Tryz.func222,Tryz.ntmps222
 go_wp2
 go_ret
 exact⟨rfl,rfl⟩
def fdOb:Fd:=⟨223,0,0,7⟩
theorem e_obj (w:World):Calls Tryz.prog 166 #[] w fun e w'=>e=.returned fdOb.val∧Below w.heap.size w w':=by
 have hb:=(Below.refl w.heap.size w).alloc (Nat.le_refl _) (.cells #[.nilFunc,.int .i64 0,.int .i64 0,.int .i64 0] 233)
 go_enter Tryz.func166,Tryz.ntmps166
 go_wp2
 refine bodyPost_ret (v:=fdOb.val) (by simp[results,Tryz.results166,go_sem,fdOb]) rfl ⟨rfl,?_⟩
 exact(Below.refl w.heap.size w).alloc (Nat.le_refl _) _
theorem e_obj1 (b:Nat) (w:World):Calls Tryz.prog 223 #[.pointer (some ⟨b,0,none⟩)] w fun e w'=>e=.returned (.pointer (some ⟨b,3,none⟩))∧w'=w:=by
 go_enter Tryz.func223,Tryz.ntmps223
 go_wp2
 go_ret
 exact⟨rfl,rfl⟩
def fdOp:Fd:=⟨224,3,1,9⟩
theorem e_op (w:World):Calls Tryz.prog 167 #[] w fun e w'=>e=.returned fdOp.val∧Below w.heap.size w w':=by
 have hb:=(Below.refl w.heap.size w).alloc (Nat.le_refl _) (.cells #[.nilFunc,.int .i64 0,.int .i64 0,.int .i64 0] 233)
 go_enter Tryz.func167,Tryz.ntmps167
 go_wp2
 refine bodyPost_ret (v:=fdOp.val) (by simp[results,Tryz.results167,go_sem,fdOp]) rfl ⟨rfl,?_⟩
 exact(Below.refl w.heap.size w).alloc (Nat.le_refl _) _
theorem e_op1 (b:Nat) (w:World):Calls Tryz.prog 224 #[.pointer (some ⟨b,0,none⟩)] w fun e w'=>e=.returned (.pointer (some ⟨b,4,none⟩))∧w'=w:=by
 go_enter Tryz.func224,Tryz.ntmps224
 go_wp2
 go_ret
 exact⟨rfl,rfl⟩
def fdVa:Fd:=⟨226,0,(-1000000000),1000000000⟩
theorem e_val (w:World):Calls Tryz.prog 169 #[] w fun e w'=>e=.returned fdVa.val∧Below w.heap.size w w':=by
 have hb:=(Below.refl w.heap.size w).alloc (Nat.le_refl _) (.cells #[.nilFunc,.int .i64 0,.int .i64 0,.int .i64 0] 233)
 go_enter Tryz.func169,Tryz.ntmps169
 go_wp2
 refine bodyPost_ret (v:=fdVa.val) (by simp[results,Tryz.results169,go_sem,fdVa]) rfl ⟨rfl,?_⟩
 exact(Below.refl w.heap.size w).alloc (Nat.le_refl _) _
theorem e_val1 (b:Nat) (w:World):Calls Tryz.prog 226 #[.pointer (some ⟨b,0,none⟩)] w fun e w'=>e=.returned (.pointer (some ⟨b,6,none⟩))∧w'=w:=by
 go_enter Tryz.func226,Tryz.ntmps226
 go_wp2
 go_ret
 exact⟨rfl,rfl⟩
def fdRe:Fd:=⟨227,4,1,3⟩
theorem e_ret (w:World):Calls Tryz.prog 171 #[] w fun e w'=>e=.returned fdRe.val∧Below w.heap.size w w':=by
 have hb:=(Below.refl w.heap.size w).alloc (Nat.le_refl _) (.cells #[.nilFunc,.int .i64 0,.int .i64 0,.int .i64 0] 233)
 go_enter Tryz.func171,Tryz.ntmps171
 go_wp2
 refine bodyPost_ret (v:=fdRe.val) (by simp[results,Tryz.results171,go_sem,fdRe]) rfl ⟨rfl,?_⟩
 exact(Below.refl w.heap.size w).alloc (Nat.le_refl _) _
theorem e_ret1 (b:Nat) (w:World):Calls Tryz.prog 227 #[.pointer (some ⟨b,0,none⟩)] w fun e w'=>e=.returned (.pointer (some ⟨b,7,none⟩))∧w'=w:=by
 go_enter Tryz.func227,Tryz.ntmps227
 go_wp2
 go_ret
 exact⟨rfl,rfl⟩
theorem e_list (v:Value) (hv:∃a n c,v=.slice a n c) (w:World):Calls Tryz.prog 161 #[v] w fun e w'=>e=.returned (.func (.func 162) #[] #[.pointer (some ⟨w.heap.size,0,none⟩)])∧w'=w.alloc (.cells #[v] 297):=by
 obtain⟨a,n,c,rfl⟩:=hv
 go_enter Tryz.func161,Tryz.ntmps161
 go_wp2
 go_ret
 exact⟨rfl,rfl⟩
theorem e_Of (k:Int) (hk:k=1∨k=2) (w:World):Calls Tryz.prog 74 #[.int .i64 k] w fun e w'=>e=.returned (.int .i64 1)∧w'=w:=by
 rcases hk with rfl|rfl <;>
 ·go_enter Tryz.func74,Tryz.ntmps74
  go_wp2
  go_ret
  exact⟨rfl,rfl⟩
theorem e_Keyed (k:Int) (hk:k=1∨k=2) (w:World):Calls Tryz.prog 79 #[.int .i64 k] w fun e w'=>e=.returned (.bool false)∧w'=w:=by
 rcases hk with rfl|rfl <;>
 ·go_enter Tryz.func79,Tryz.ntmps79
  go_wp2
  go_ret
  exact⟨rfl,rfl⟩
theorem e_Valued (k:Int) (hk:k=1∨k=2) (w:World):Calls Tryz.prog 80 #[.int .i64 k] w fun e w'=>e=.returned (.bool (k==2))∧w'=w:=by
 rcases hk with rfl|rfl <;>
 ·go_enter Tryz.func80,Tryz.ntmps80
  go_wp2
  go_ret
  exact⟨rfl,rfl⟩
end
section
attribute [local irreducible] wpL
abbrev fdZ:Value:=.agg #[.nilFunc,.int .i64 0,.int .i64 0,.int .i64 0]
def FdRet (l:List Fd) (i:Nat) (w:World) (e:Ending) (w':World):Prop:=e=.returned (match l[i]? with|some x=>.tuple #[x.val,.bool true]|none=>.tuple #[fdZ,.bool false])∧Below w.heap.size w w'
section
variable {w:World}
theorem e_next (x:Ev) (i:Nat) (hi:i≤100) (b:Nat) (v:Value) (l:List Fd) (h:w.heap[b]?=some (.cells #[v] 297 (0,0))) (hs:Sl w w.heap.size 4 v l.length (l.flatMap Fd.cells)):
  Calls Tryz.prog 162 #[evV x,.int .i64 i,.pointer (some ⟨b,0,none⟩)] w (FdRet l i w):=by
 obtain⟨a,c,rfl,-⟩:=hs.ex
 have d0:=row_cell h 0
 have lb:=row_lt h
 have B0:=hid (((Below.refl w.heap.size w).alloc (Nat.le_refl _) (.cells #[.int .i64 x.kind,.int .i64 x.tx,.int .i64 x.thread,.int .i64 x.obj,.int .i64 x.op,.int .i64 x.key,.int .i64 x.val,.int .i64 x.ret] 53)))
 by_cases hlt:i < l.length
 ·obtain ⟨g,off,y,rfl,hg,hy,hc⟩:=hs.atF Fd.len rfl hlt
  have c0:w.cell? ⟨g,off+i*4,none⟩=some (.func (.func y.f) #[] #[]):=hc 0 (by decide)
  have c1:w.cell? ⟨g,off+i*4+1,none⟩=some (.int .i64 y.tb):=hc 1 (by decide)
  have c2:w.cell? ⟨g,off+i*4+2,none⟩=some (.int .i64 y.lo):=hc 2 (by decide)
  have c3:w.cell? ⟨g,off+i*4+3,none⟩=some (.int .i64 y.hi):=hc 3 (by decide)
  unfold FdRet
  rw[hy]
  clear hs hc hy h
  generalize l.length=n at *
  go_enter Tryz.func162,Tryz.ntmps162
  go_wp2
  refine bodyPost_ret (v:=.tuple #[y.val,.bool true]) (by simp[results,Tryz.results162,go_sem]) rfl ⟨rfl,?_⟩
  exact B0.out.alloc (by simp) _
 ·have hn:l[i]?=none:=List.getElem?_eq_none (by omega)
  unfold FdRet
  rw[hn]
  clear hs h
  generalize l.length=n at *
  go_enter Tryz.func162,Tryz.ntmps162
  go_wp2
  refine bodyPost_ret (v:=.tuple #[fdZ,.bool false]) (by simp[results,Tryz.results162,go_sem]) rfl ⟨rfl,?_⟩
  exact B0.out.alloc (by simp) _
end
theorem e_answer1 {w:World} {b i:Nat} {s:ByteArray} (hi:i < 3) (h:w.heap[b]?=some (.cells #[.int .i64 i] 3 (0,0))) (hs:w.cell? ⟨19,i,none⟩=some (.string s)) (hl:19 < w.heap.size):Calls Tryz.prog 218 #[.pointer (some ⟨b,0,none⟩)] w fun e w'=>e=.returned (.string s)∧w'=w:=by
 have d0:=row_cell h 0
 have lb:=row_lt h
 have q1:decide ((i:Int) < 0)=false:=by simp
 have q2:decide ((3:Int)≤i)=false:=by simp;omega
 have q3:decide ((i:Int)≥3)=false:=by simp;omega
 have q4:decide (3≤i)=false:=by simp;omega
 clear h
 go_enter Tryz.func218,Tryz.ntmps218
 go_wp2
 go_ret
 exact⟨rfl,rfl⟩
theorem e_answer2 {w:World} {b i:Nat} {s:ByteArray} (hi:i < 3) (h:w.heap[b]?=some (.cells #[.int .i64 i] 3 (0,0))) (hs:w.cell? ⟨19,i,none⟩=some (.string s)) (hl:19 < w.heap.size):Calls Tryz.prog 214 #[.int .i64 i,.int .i64 3,.func (.func 218) #[] #[.pointer (some ⟨b,0,none⟩)]] w fun e w'=>e=.returned (.tuple #[.string s,.int .i64 3])∧w'=w:=by
 have q1:decide ((i:Int) < 0)=false:=by simp
 have q3:decide ((i:Int)≥3)=false:=by simp;omega
 have HC:=hid (e_answer1 hi h hs hl)
 clear h hs
 go_enter Tryz.func214,Tryz.ntmps214
 go_wp2_with fail
 refine(HC.out).mono ?_
 rintro e w1 ⟨rfl,rfl⟩
 go_wp2
 go_ret2
 exact⟨rfl,rfl⟩
theorem e_answer3 {w:World} {i:Nat} {s:ByteArray} (hi:i < 3) (hs:w.cell? ⟨19,i,none⟩=some (.string s)) (hl:19 < w.heap.size):Calls Tryz.prog 160 #[.int .i64 4,.int .i64 i] w fun e w'=>e=.returned (.tuple #[.string s,.int .i64 3])∧Below w.heap.size w w':=by
 have b0:Below w.heap.size w (w.alloc (.cells #[.int .i64 i] 3)):=(Below.refl _ w).alloc (Nat.le_refl _) _
 have HC:=hid (e_answer2 hi (row_new w (.cells #[.int .i64 i] 3)) (cell_below b0 hl hs) (by simp;omega))
 have B0:=hid b0
 clear b0 hs
 go_enter Tryz.func160,Tryz.ntmps160
 go_wp2_with fail
 refine(HC.out).mono ?_
 rintro e w1 ⟨rfl,rfl⟩
 go_wp2
 go_ret2
 exact⟨rfl,B0.out⟩
theorem e_answer {w:World} {i:Nat} {s:ByteArray} (hi:i < 3) (hs:w.cell? ⟨19,i,none⟩=some (.string s)) (hl:19 < w.heap.size):Calls Tryz.prog 119 #[.int .i64 4,.int .i64 ((i:Int)+1)] w fun e w'=>e=.returned (.string s)∧Below w.heap.size w w':=by
 have q1:max ((i:Int)+1) 0=(i:Int)+1:=by omega
 have q2:wrap64 ((i:Int)+1 - 1)=(i:Int):=by rw[IntWalk.wrap64_in _ (by omega)];omega
 have q3:decide ((i:Int)+1 < 0)=false:=by simp <;> omega
 have q4:decide (0 < (i:Int)+1)=true:=by simp <;> omega
 have HC:=hid (e_answer3 hi hs hl)
 clear hs
 go_enter Tryz.func119,Tryz.ntmps119
 go_wp2_with fail
 refine(HC.out).mono ?_
 rintro e w1 ⟨rfl,hb⟩
 have HB:=hid hb
 clear hb
 go_wp2
 go_ret
 exact⟨rfl,HB.out⟩
theorem e_object1 {w:World} {b i:Nat} {s:ByteArray} (hi:i < 4) (h:w.heap[b]?=some (.cells #[.int .i64 i] 3 (0,0))) (hs:w.cell? ⟨16,i,none⟩=some (.string s)) (hl:16 < w.heap.size):Calls Tryz.prog 215 #[.pointer (some ⟨b,0,none⟩)] w fun e w'=>e=.returned (.string s)∧w'=w:=by
 have d0:=row_cell h 0
 have lb:=row_lt h
 have q1:decide ((i:Int) < 0)=false:=by simp
 have q2:decide ((4:Int)≤i)=false:=by simp;omega
 have q3:decide ((i:Int)≥4)=false:=by simp;omega
 have q4:decide (4≤i)=false:=by simp;omega
 clear h
 go_enter Tryz.func215,Tryz.ntmps215
 go_wp2
 go_ret
 exact⟨rfl,rfl⟩
theorem e_object2 {w:World} {b i:Nat} {s:ByteArray} (hi:i < 4) (h:w.heap[b]?=some (.cells #[.int .i64 i] 3 (0,0))) (hs:w.cell? ⟨16,i,none⟩=some (.string s)) (hl:16 < w.heap.size):Calls Tryz.prog 214 #[.int .i64 i,.int .i64 4,.func (.func 215) #[] #[.pointer (some ⟨b,0,none⟩)]] w fun e w'=>e=.returned (.tuple #[.string s,.int .i64 4])∧w'=w:=by
 have q1:decide ((i:Int) < 0)=false:=by simp
 have q3:decide ((i:Int)≥4)=false:=by simp;omega
 have HC:=hid (e_object1 hi h hs hl)
 clear h hs
 go_enter Tryz.func214,Tryz.ntmps214
 go_wp2_with fail
 refine(HC.out).mono ?_
 rintro e w1 ⟨rfl,rfl⟩
 go_wp2
 go_ret2
 exact⟨rfl,rfl⟩
theorem e_object3 {w:World} {i:Nat} {s:ByteArray} (hi:i < 4) (hs:w.cell? ⟨16,i,none⟩=some (.string s)) (hl:16 < w.heap.size):Calls Tryz.prog 160 #[.int .i64 1,.int .i64 i] w fun e w'=>e=.returned (.tuple #[.string s,.int .i64 4])∧Below w.heap.size w w':=by
 have b0:Below w.heap.size w (w.alloc (.cells #[.int .i64 i] 3)):=(Below.refl _ w).alloc (Nat.le_refl _) _
 have HC:=hid (e_object2 hi (row_new w (.cells #[.int .i64 i] 3)) (cell_below b0 hl hs) (by simp;omega))
 have B0:=hid b0
 clear b0 hs
 go_enter Tryz.func160,Tryz.ntmps160
 go_wp2_with fail
 refine(HC.out).mono ?_
 rintro e w1 ⟨rfl,rfl⟩
 go_wp2
 go_ret2
 exact⟨rfl,B0.out⟩
theorem e_object {w:World} {i:Nat} {s:ByteArray} (hi:i < 4) (hs:w.cell? ⟨16,i,none⟩=some (.string s)) (hl:16 < w.heap.size):Calls Tryz.prog 119 #[.int .i64 1,.int .i64 ((i:Int)+1)] w fun e w'=>e=.returned (.string s)∧Below w.heap.size w w':=by
 have q1:max ((i:Int)+1) 0=(i:Int)+1:=by omega
 have q2:wrap64 ((i:Int)+1 - 1)=(i:Int):=by rw[IntWalk.wrap64_in _ (by omega)];omega
 have q3:decide ((i:Int)+1 < 0)=false:=by simp <;> omega
 have q4:decide (0 < (i:Int)+1)=true:=by simp <;> omega
 have HC:=hid (e_object3 hi hs hl)
 clear hs
 go_enter Tryz.func119,Tryz.ntmps119
 go_wp2_with fail
 refine(HC.out).mono ?_
 rintro e w1 ⟨rfl,hb⟩
 have HB:=hid hb
 clear hb
 go_wp2
 go_ret
 exact⟨rfl,HB.out⟩
end
