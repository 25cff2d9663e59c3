/- Parts of the proof, merged by program out of 1 texts (EvB): the first: Events: a list of fields, words. Conditions: those of each theorem, as typed. -/
import Derived.Test.YtcpfbphcldocpaaGreatDoorQF06
set_option linter.unusedVariables false
set_option linter.unusedSimpArgs false
set_option linter.unusedSectionVars false
set_option maxRecDepth 100000
set_option maxHeartbeats 4000000
namespace Go.Proofs.YtcpfbphcldocpaaGreatDoor
open Go.RowKit
section
attribute [local irreducible] wpL
abbrev fdZ:Value:=.agg #[.nilFunc,.int .i64 0,.int .i64 0,.int .i64 0]
def FdRet (l:List Fd) (i:Nat) (w:World) (e:Ending) (w':World):Prop:=e=.returned (match l[i]? with|some x=>.tuple #[x.val,.bool true]|none=>.tuple #[fdZ,.bool false])∧Below w.heap.size w w'
section
variable {w:World}
theorem e_next (x:Ev) (i:Nat) (hi:i≤100) (b:Nat) (v:Value) (l:List Fd) (h:w.heap[b]?=some (.cells #[v] 304 (0,0))) (hs:Sl w w.heap.size 4 v l.length (l.flatMap Fd.cells)):
  Calls Tryz.prog 180 #[evV x,.int .i64 i,.pointer (some ⟨b,0,none⟩)] w (FdRet l i w):=by
 obtain⟨a,c,rfl,-⟩:=hs.ex
 have d0:=row_cell h 0
 have lb:=row_lt h
 have B0:=hid (((Below.refl w.heap.size w).alloc (Nat.le_refl _) (.cells #[.int .i64 x.kind,.int .i64 x.tx,.int .i64 x.thread,.int .i64 x.obj,.int .i64 x.op,.int .i64 x.key,.int .i64 x.val,.int .i64 x.ret] 69)))
 by_cases hlt:i < l.length
 ·obtain ⟨g,off,y,rfl,hg,hy,hc⟩:=hs.atF Fd.len rfl hlt
  have c0:w.cell? ⟨g,off+i*4,none⟩=some (.func (.func y.f) #[] #[]):=hc 0 (by decide)
  have c1:w.cell? ⟨g,off+i*4+1,none⟩=some (.int .i64 y.tb):=hc 1 (by decide)
  have c2:w.cell? ⟨g,off+i*4+2,none⟩=some (.int .i64 y.lo):=hc 2 (by decide)
  have c3:w.cell? ⟨g,off+i*4+3,none⟩=some (.int .i64 y.hi):=hc 3 (by decide)
  unfold FdRet
  rw[hy]
  clear hs hc hy h
  generalize l.length=n at *
  go_enter Tryz.func180,Tryz.ntmps180
  go_wp2
  refine bodyPost_ret (v:=.tuple #[y.val,.bool true]) (by simp[results,Tryz.results180,go_sem]) rfl ⟨rfl,?_⟩
  exact B0.out.alloc (by simp) _
 ·have hn:l[i]?=none:=List.getElem?_eq_none (by omega)
  unfold FdRet
  rw[hn]
  clear hs h
  generalize l.length=n at *
  go_enter Tryz.func180,Tryz.ntmps180
  go_wp2
  refine bodyPost_ret (v:=.tuple #[fdZ,.bool false]) (by simp[results,Tryz.results180,go_sem]) rfl ⟨rfl,?_⟩
  exact B0.out.alloc (by simp) _
end
theorem e_answer1 {w:World} {b i:Nat} {s:ByteArray} (hi:i < 3) (h:w.heap[b]?=some (.cells #[.int .i64 i] 3 (0,0))) (hs:w.cell? ⟨21,i,none⟩=some (.string s)) (hl:21 < w.heap.size):Calls Tryz.prog 211 #[.pointer (some ⟨b,0,none⟩)] w fun e w'=>e=.returned (.string s)∧w'=w:=by
 have d0:=row_cell h 0
 have lb:=row_lt h
 have q1:decide ((i:Int) < 0)=false:=by simp
 have q2:decide ((3:Int)≤i)=false:=by simp;omega
 have q3:decide ((i:Int)≥3)=false:=by simp;omega
 have q4:decide (3≤i)=false:=by simp;omega
 clear h
 go_enter Tryz.func211,Tryz.ntmps211
 go_wp2
 go_ret
 exact⟨rfl,rfl⟩
theorem e_answer2 {w:World} {b i:Nat} {s:ByteArray} (hi:i < 3) (h:w.heap[b]?=some (.cells #[.int .i64 i] 3 (0,0))) (hs:w.cell? ⟨21,i,none⟩=some (.string s)) (hl:21 < w.heap.size):Calls Tryz.prog 207 #[.int .i64 i,.int .i64 3,.func (.func 211) #[] #[.pointer (some ⟨b,0,none⟩)]] w fun e w'=>e=.returned (.tuple #[.string s,.int .i64 3])∧w'=w:=by
 have q1:decide ((i:Int) < 0)=false:=by simp
 have q3:decide ((i:Int)≥3)=false:=by simp;omega
 have HC:=hid (e_answer1 hi h hs hl)
 clear h hs
 go_enter Tryz.func207,Tryz.ntmps207
 go_wp2_with fail
 refine(HC.out).mono ?_
 rintro e w1 ⟨rfl,rfl⟩
 go_wp2
 go_ret2
 exact⟨rfl,rfl⟩
theorem e_answer3 {w:World} {i:Nat} {s:ByteArray} (hi:i < 3) (hs:w.cell? ⟨21,i,none⟩=some (.string s)) (hl:21 < w.heap.size):Calls Tryz.prog 178 #[.int .i64 4,.int .i64 i] w fun e w'=>e=.returned (.tuple #[.string s,.int .i64 3])∧Below w.heap.size w w':=by
 have b0:Below w.heap.size w (w.alloc (.cells #[.int .i64 i] 3)):=(Below.refl _ w).alloc (Nat.le_refl _) _
 have HC:=hid (e_answer2 hi (row_new w (.cells #[.int .i64 i] 3)) (cell_below b0 hl hs) (by simp;omega))
 have B0:=hid b0
 clear b0 hs
 go_enter Tryz.func178,Tryz.ntmps178
 go_wp2_with fail
 refine(HC.out).mono ?_
 rintro e w1 ⟨rfl,rfl⟩
 go_wp2
 go_ret2
 exact⟨rfl,B0.out⟩
theorem e_answer {w:World} {i:Nat} {s:ByteArray} (hi:i < 3) (hs:w.cell? ⟨21,i,none⟩=some (.string s)) (hl:21 < w.heap.size):Calls Tryz.prog 130 #[.int .i64 4,.int .i64 ((i:Int)+1)] w fun e w'=>e=.returned (.string s)∧Below w.heap.size w w':=by
 have q1:max ((i:Int)+1) 0=(i:Int)+1:=by omega
 have q2:wrap64 ((i:Int)+1 - 1)=(i:Int):=by rw[IntWalk.wrap64_in _ (by omega)];omega
 have q3:decide ((i:Int)+1 < 0)=false:=by simp <;> omega
 have q4:decide (0 < (i:Int)+1)=true:=by simp <;> omega
 have HC:=hid (e_answer3 hi hs hl)
 clear hs
 go_enter Tryz.func130,Tryz.ntmps130
 go_wp2_with fail
 refine(HC.out).mono ?_
 rintro e w1 ⟨rfl,hb⟩
 have HB:=hid hb
 clear hb
 go_wp2
 go_ret
 exact⟨rfl,HB.out⟩
theorem e_object1 {w:World} {b i:Nat} {s:ByteArray} (hi:i < 4) (h:w.heap[b]?=some (.cells #[.int .i64 i] 3 (0,0))) (hs:w.cell? ⟨18,i,none⟩=some (.string s)) (hl:18 < w.heap.size):Calls Tryz.prog 208 #[.pointer (some ⟨b,0,none⟩)] w fun e w'=>e=.returned (.string s)∧w'=w:=by
 have d0:=row_cell h 0
 have lb:=row_lt h
 have q1:decide ((i:Int) < 0)=false:=by simp
 have q2:decide ((4:Int)≤i)=false:=by simp;omega
 have q3:decide ((i:Int)≥4)=false:=by simp;omega
 have q4:decide (4≤i)=false:=by simp;omega
 clear h
 go_enter Tryz.func208,Tryz.ntmps208
 go_wp2
 go_ret
 exact⟨rfl,rfl⟩
theorem e_object2 {w:World} {b i:Nat} {s:ByteArray} (hi:i < 4) (h:w.heap[b]?=some (.cells #[.int .i64 i] 3 (0,0))) (hs:w.cell? ⟨18,i,none⟩=some (.string s)) (hl:18 < w.heap.size):Calls Tryz.prog 207 #[.int .i64 i,.int .i64 4,.func (.func 208) #[] #[.pointer (some ⟨b,0,none⟩)]] w fun e w'=>e=.returned (.tuple #[.string s,.int .i64 4])∧w'=w:=by
 have q1:decide ((i:Int) < 0)=false:=by simp
 have q3:decide ((i:Int)≥4)=false:=by simp;omega
 have HC:=hid (e_object1 hi h hs hl)
 clear h hs
 go_enter Tryz.func207,Tryz.ntmps207
 go_wp2_with fail
 refine(HC.out).mono ?_
 rintro e w1 ⟨rfl,rfl⟩
 go_wp2
 go_ret2
 exact⟨rfl,rfl⟩
theorem e_object3 {w:World} {i:Nat} {s:ByteArray} (hi:i < 4) (hs:w.cell? ⟨18,i,none⟩=some (.string s)) (hl:18 < w.heap.size):Calls Tryz.prog 178 #[.int .i64 1,.int .i64 i] w fun e w'=>e=.returned (.tuple #[.string s,.int .i64 4])∧Below w.heap.size w w':=by
 have b0:Below w.heap.size w (w.alloc (.cells #[.int .i64 i] 3)):=(Below.refl _ w).alloc (Nat.le_refl _) _
 have HC:=hid (e_object2 hi (row_new w (.cells #[.int .i64 i] 3)) (cell_below b0 hl hs) (by simp;omega))
 have B0:=hid b0
 clear b0 hs
 go_enter Tryz.func178,Tryz.ntmps178
 go_wp2_with fail
 refine(HC.out).mono ?_
 rintro e w1 ⟨rfl,rfl⟩
 go_wp2
 go_ret2
 exact⟨rfl,B0.out⟩
theorem e_object {w:World} {i:Nat} {s:ByteArray} (hi:i < 4) (hs:w.cell? ⟨18,i,none⟩=some (.string s)) (hl:18 < w.heap.size):Calls Tryz.prog 130 #[.int .i64 1,.int .i64 ((i:Int)+1)] w fun e w'=>e=.returned (.string s)∧Below w.heap.size w w':=by
 have q1:max ((i:Int)+1) 0=(i:Int)+1:=by omega
 have q2:wrap64 ((i:Int)+1 - 1)=(i:Int):=by rw[IntWalk.wrap64_in _ (by omega)];omega
 have q3:decide ((i:Int)+1 < 0)=false:=by simp <;> omega
 have q4:decide (0 < (i:Int)+1)=true:=by simp <;> omega
 have HC:=hid (e_object3 hi hs hl)
 clear hs
 go_enter Tryz.func130,Tryz.ntmps130
 go_wp2_with fail
 refine(HC.out).mono ?_
 rintro e w1 ⟨rfl,hb⟩
 have HB:=hid hb
 clear hb
 go_wp2
 go_ret
 exact⟨rfl,HB.out⟩
end
