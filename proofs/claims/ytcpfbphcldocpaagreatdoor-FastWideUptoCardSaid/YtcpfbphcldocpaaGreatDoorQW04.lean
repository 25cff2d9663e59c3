/- Parts of the proof; the first: Events: the fields, the words. Conditions: those of each theorem, as typed. -/
import Derived.Test.YtcpfbphcldocpaaGreatDoorQW03
set_option linter.unusedVariables false
set_option linter.unusedSimpArgs false
set_option linter.unusedSectionVars false
set_option maxRecDepth 100000
set_option maxHeartbeats 4000000
namespace Go.Proofs.YtcpfbphcldocpaaGreatDoor
open Go.Maps Go.RowKit
section
attribute [local irreducible] xE
structure Fd where
 f:FuncId
 tb:Int
 lo:Int
 hi:Int
def Fd.cells (x:Fd):List Value:=[.func (.func x.f) #[] #[],.int .i64 x.tb,.int .i64 x.lo,.int .i64 x.hi]
abbrev Fd.val (x:Fd):Value:=.agg #[.func (.func x.f) #[] #[],.int .i64 x.tb,.int .i64 x.lo,.int .i64 x.hi]
theorem Fd.len (x:Fd):x.cells.length=4:=rfl
theorem JE:(Tryz.prog.info? 260).map (fun i=>(i.zero,i.size,i.bytes))=some (some (.agg #[.nilFunc,.int .i64 0,.int .i64 0,.int .i64 0]),4,32):=by kernel_rfl
def qF:Fd:=⟨214,0,1,1000⟩
theorem Nu (w:World):Calls Tryz.prog 181 #[] w fun e w'=>e=.returned qF.val/\Below w.heap.size w w':=by
 have hb:=(Below.refl w.heap.size w).alloc (Nat.le_refl _) (.cells #[.nilFunc,.int .i64 0,.int .i64 0,.int .i64 0] 260);go_enter Tryz.func181,Tryz.ntmps181;go_wp2;refine bodyPost_ret (v:=qF.val) (by simp[results,Tryz.results181,go_sem,qF]) rfl ⟨rfl,?_⟩;exact(Below.refl w.heap.size w).alloc (Nat.le_refl _) _
theorem qhd (b:Nat) (w:World):Calls Tryz.prog 214 #[.pointer (some ⟨b,0,none⟩)] w fun e w'=>e=.returned (.pointer (some ⟨b,1,none⟩))/\w'=w:=by
 go_enter Tryz.func214,Tryz.ntmps214;go_wp2;go_ret;exact⟨rfl,rfl⟩
def xm:Fd:=⟨215,0,0,7⟩
theorem JR (w:World):Calls Tryz.prog 182 #[] w fun e w'=>e=.returned xm.val/\Below w.heap.size w w':=by
 have hb:=(Below.refl w.heap.size w).alloc (Nat.le_refl _) (.cells #[.nilFunc,.int .i64 0,.int .i64 0,.int .i64 0] 260);go_enter Tryz.func182,Tryz.ntmps182;go_wp2;refine bodyPost_ret (v:=xm.val) (by simp[results,Tryz.results182,go_sem,xm]) rfl ⟨rfl,?_⟩;exact(Below.refl w.heap.size w).alloc (Nat.le_refl _) _
theorem qaD (b:Nat) (w:World):Calls Tryz.prog 215 #[.pointer (some ⟨b,0,none⟩)] w fun e w'=>e=.returned (.pointer (some ⟨b,2,none⟩))/\w'=w:=by
 go_enter Tryz.func215,Tryz.ntmps215;go_wp2;go_ret;exact⟨rfl,rfl⟩
def xS:Fd:=⟨216,0,0,7⟩
theorem qhf (w:World):Calls Tryz.prog 184 #[] w fun e w'=>e=.returned xS.val/\Below w.heap.size w w':=by
 have hb:=(Below.refl w.heap.size w).alloc (Nat.le_refl _) (.cells #[.nilFunc,.int .i64 0,.int .i64 0,.int .i64 0] 260);go_enter Tryz.func184,Tryz.ntmps184;go_wp2;refine bodyPost_ret (v:=xS.val) (by simp[results,Tryz.results184,go_sem,xS]) rfl ⟨rfl,?_⟩;exact(Below.refl w.heap.size w).alloc (Nat.le_refl _) _
theorem qgk (b:Nat) (w:World):Calls Tryz.prog 216 #[.pointer (some ⟨b,0,none⟩)] w fun e w'=>e=.returned (.pointer (some ⟨b,3,none⟩))/\w'=w:=by
 go_enter Tryz.func216,Tryz.ntmps216;go_wp2;go_ret;exact⟨rfl,rfl⟩
def yu:Fd:=⟨217,3,1,9⟩
theorem e_op (w:World):Calls Tryz.prog 185 #[] w fun e w'=>e=.returned yu.val/\Below w.heap.size w w':=by
 have hb:=(Below.refl w.heap.size w).alloc (Nat.le_refl _) (.cells #[.nilFunc,.int .i64 0,.int .i64 0,.int .i64 0] 260);go_enter Tryz.func185,Tryz.ntmps185;go_wp2;refine bodyPost_ret (v:=yu.val) (by simp[results,Tryz.results185,go_sem,yu]) rfl ⟨rfl,?_⟩;exact(Below.refl w.heap.size w).alloc (Nat.le_refl _) _
theorem qhe (b:Nat) (w:World):Calls Tryz.prog 217 #[.pointer (some ⟨b,0,none⟩)] w fun e w'=>e=.returned (.pointer (some ⟨b,4,none⟩))/\w'=w:=by
 go_enter Tryz.func217,Tryz.ntmps217;go_wp2;go_ret;exact⟨rfl,rfl⟩
def jV:Fd:=⟨219,0,(-1000000000),1000000000⟩
theorem qcS (w:World):Calls Tryz.prog 187 #[] w fun e w'=>e=.returned jV.val/\Below w.heap.size w w':=by
 have hb:=(Below.refl w.heap.size w).alloc (Nat.le_refl _) (.cells #[.nilFunc,.int .i64 0,.int .i64 0,.int .i64 0] 260);go_enter Tryz.func187,Tryz.ntmps187;go_wp2;refine bodyPost_ret (v:=jV.val) (by simp[results,Tryz.results187,go_sem,jV]) rfl ⟨rfl,?_⟩;exact(Below.refl w.heap.size w).alloc (Nat.le_refl _) _
theorem qgf (b:Nat) (w:World):Calls Tryz.prog 219 #[.pointer (some ⟨b,0,none⟩)] w fun e w'=>e=.returned (.pointer (some ⟨b,6,none⟩))/\w'=w:=by
 go_enter Tryz.func219,Tryz.ntmps219;go_wp2;go_ret;exact⟨rfl,rfl⟩
def qT:Fd:=⟨220,4,1,3⟩
theorem qcT (w:World):Calls Tryz.prog 189 #[] w fun e w'=>e=.returned qT.val/\Below w.heap.size w w':=by
 have hb:=(Below.refl w.heap.size w).alloc (Nat.le_refl _) (.cells #[.nilFunc,.int .i64 0,.int .i64 0,.int .i64 0] 260);go_enter Tryz.func189,Tryz.ntmps189;go_wp2;refine bodyPost_ret (v:=qT.val) (by simp[results,Tryz.results189,go_sem,qT]) rfl ⟨rfl,?_⟩;exact(Below.refl w.heap.size w).alloc (Nat.le_refl _) _
theorem qgj (b:Nat) (w:World):Calls Tryz.prog 220 #[.pointer (some ⟨b,0,none⟩)] w fun e w'=>e=.returned (.pointer (some ⟨b,7,none⟩))/\w'=w:=by
 go_enter Tryz.func220,Tryz.ntmps220;go_wp2;go_ret;exact⟨rfl,rfl⟩
theorem jE (v:Value) (hv:∃a n c,v=.slice a n c) (w:World):Calls Tryz.prog 179 #[v] w fun e w'=>e=.returned (.func (.func 180) #[] #[.pointer (some ⟨w.heap.size,0,none⟩)])/\w'=w.alloc (.cells #[v] 304):=by
 obtain⟨a,n,c,rfl⟩:=hv;go_enter Tryz.func179,Tryz.ntmps179;go_wp2;go_ret;exact⟨rfl,rfl⟩
theorem e_Of (k:Int) (hk:k=1\/k=2) (w:World):Calls Tryz.prog 82 #[.int .i64 k] w fun e w'=>e=.returned (.int .i64 1)/\w'=w:=by
 rcases hk with rfl|rfl <;>
 ·go_enter Tryz.func82,Tryz.ntmps82
  go_wp2;go_ret;exact⟨rfl,rfl⟩
theorem qeC (k:Int) (hk:k=1\/k=2) (w:World):Calls Tryz.prog 88 #[.int .i64 k] w fun e w'=>e=.returned (.bool false)/\w'=w:=by
 rcases hk with rfl|rfl <;>
 ·go_enter Tryz.func88,Tryz.ntmps88
  go_wp2;go_ret;exact⟨rfl,rfl⟩
theorem qcU (k:Int) (hk:k=1\/k=2) (w:World):Calls Tryz.prog 89 #[.int .i64 k] w fun e w'=>e=.returned (.bool (k==2))/\w'=w:=by
 rcases hk with rfl|rfl <;>
 ·go_enter Tryz.func89,Tryz.ntmps89
  go_wp2;go_ret;exact⟨rfl,rfl⟩
end
section
attribute [local irreducible] xE
abbrev fdZ:Value:=.agg #[.nilFunc,.int .i64 0,.int .i64 0,.int .i64 0]
def zL (l:List Fd) (i:Nat) (w:World) (e:Ending) (w':World):Prop:=e=.returned (match l[i]? with|some x=>.tuple #[x.val,.bool true]|none=>.tuple #[fdZ,.bool false])/\Below w.heap.size w w'
section
variable {w:World}
theorem QF (x:Ev) (i:Nat) (hi:i<=100) (b:Nat) (v:Value) (l:List Fd) (h:w.heap[b]?=some (.cells #[v] 304 (0,0))) (hs:Sl w w.heap.size 4 v l.length (l.flatMap Fd.cells)):
  Calls Tryz.prog 180 #[Xc x,.int .i64 i,.pointer (some ⟨b,0,none⟩)] w (zL l i w):=by
 obtain⟨a,c,rfl,-⟩:=hs.ex;have d0:=qa h 0;have lb:=qd h;have B0:=qh (((Below.refl w.heap.size w).alloc (Nat.le_refl _) (.cells #[.int .i64 x.kind,.int .i64 x.tx,.int .i64 x.thread,.int .i64 x.obj,.int .i64 x.op,.int .i64 x.key,.int .i64 x.val,.int .i64 x.ret] 69)));by_cases hlt:i < l.length
 ·obtain ⟨g,off,y,rfl,hg,hy,hc⟩:=hs.atF Fd.len rfl hlt
  have c0:w.cell? ⟨g,off+i*4,none⟩=some (.func (.func y.f) #[] #[]):=hc 0 (by decide);have c1:w.cell? ⟨g,off+i*4+1,none⟩=some (.int .i64 y.tb):=hc 1 (by decide);have c2:w.cell? ⟨g,off+i*4+2,none⟩=some (.int .i64 y.lo):=hc 2 (by decide);have c3:w.cell? ⟨g,off+i*4+3,none⟩=some (.int .i64 y.hi):=hc 3 (by decide);unfold zL;rw[hy];clear hs hc hy h;generalize l.length=n at *;go_enter Tryz.func180,Tryz.ntmps180;go_wp2;refine bodyPost_ret (v:=.tuple #[y.val,.bool true]) (by simp[results,Tryz.results180,go_sem]) rfl ⟨rfl,?_⟩;exact B0.o.alloc (by simp) _
 ·have hn:l[i]?=none:=List.getElem?_eq_none (by omega)
  unfold zL;rw[hn];clear hs h;generalize l.length=n at *;go_enter Tryz.func180,Tryz.ntmps180;go_wp2;refine bodyPost_ret (v:=.tuple #[fdZ,.bool false]) (by simp[results,Tryz.results180,go_sem]) rfl ⟨rfl,?_⟩;exact B0.o.alloc (by simp) _
end
theorem qaJ {w:World} {b i:Nat} {s:ByteArray} (hi:i < 3) (h:w.heap[b]?=some (.cells #[.int .i64 i] 3 (0,0))) (hs:w.cell? ⟨21,i,none⟩=some (.string s)) (hl:21 < w.heap.size):Calls Tryz.prog 211 #[.pointer (some ⟨b,0,none⟩)] w fun e w'=>e=.returned (.string s)/\w'=w:=by
 have d0:=qa h 0;have lb:=qd h;have q1:decide ((i:Int) < 0)=false:=by simp
 have q2:decide ((3:Int)<=i)=false:=by simp;omega
 have q3:decide ((i:Int)>=3)=false:=by simp;omega
 have q4:decide (3<=i)=false:=by simp;omega
 clear h;go_enter Tryz.func211,Tryz.ntmps211;go_wp2;go_ret;exact⟨rfl,rfl⟩
theorem qaI {w:World} {b i:Nat} {s:ByteArray} (hi:i < 3) (h:w.heap[b]?=some (.cells #[.int .i64 i] 3 (0,0))) (hs:w.cell? ⟨21,i,none⟩=some (.string s)) (hl:21 < w.heap.size):Calls Tryz.prog 207 #[.int .i64 i,.int .i64 3,.func (.func 211) #[] #[.pointer (some ⟨b,0,none⟩)]] w fun e w'=>e=.returned (.tuple #[.string s,.int .i64 3])/\w'=w:=by
 have q1:decide ((i:Int) < 0)=false:=by simp
 have q3:decide ((i:Int)>=3)=false:=by simp;omega
 have HC:=qh (qaJ hi h hs hl);clear h hs;go_enter Tryz.func207,Tryz.ntmps207;go_wp2_with fail;refine(HC.o).mono ?_;rintro e w1 ⟨rfl,rfl⟩;go_wp2
 go_ret2
 exact⟨rfl,rfl⟩
theorem qaH {w:World} {i:Nat} {s:ByteArray} (hi:i < 3) (hs:w.cell? ⟨21,i,none⟩=some (.string s)) (hl:21 < w.heap.size):Calls Tryz.prog 178 #[.int .i64 4,.int .i64 i] w fun e w'=>e=.returned (.tuple #[.string s,.int .i64 3])/\Below w.heap.size w w':=by
 have b0:Below w.heap.size w (w.alloc (.cells #[.int .i64 i] 3)):=(Below.refl _ w).alloc (Nat.le_refl _) _;have HC:=qh (qaI hi (qy w (.cells #[.int .i64 i] 3)) (qx b0 hl hs) (by simp;omega));have B0:=qh b0;clear b0 hs;go_enter Tryz.func178,Tryz.ntmps178;go_wp2_with fail;refine(HC.o).mono ?_;rintro e w1 ⟨rfl,rfl⟩;go_wp2
 go_ret2
 exact⟨rfl,B0.o⟩
theorem JS {w:World} {i:Nat} {s:ByteArray} (hi:i < 3) (hs:w.cell? ⟨21,i,none⟩=some (.string s)) (hl:21 < w.heap.size):Calls Tryz.prog 130 #[.int .i64 4,.int .i64 ((i:Int)+1)] w fun e w'=>e=.returned (.string s)/\Below w.heap.size w w':=by
 have q1:max ((i:Int)+1) 0=(i:Int)+1:=by omega
 have q2:wrap64 ((i:Int)+1 - 1)=(i:Int):=by rw[IntWalk.wrap64_in _ (by omega)];omega
 have q3:decide ((i:Int)+1 < 0)=false:=by simp <;> omega
 have q4:decide (0 < (i:Int)+1)=true:=by simp <;> omega
 have HC:=qh (qaH hi hs hl);clear hs;go_enter Tryz.func130,Tryz.ntmps130;go_wp2_with fail;refine(HC.o).mono ?_;rintro e w1 ⟨rfl,hb⟩;have HB:=qh hb;clear hb;go_wp2;go_ret;exact⟨rfl,HB.o⟩
theorem qaG {w:World} {b i:Nat} {s:ByteArray} (hi:i < 4) (h:w.heap[b]?=some (.cells #[.int .i64 i] 3 (0,0))) (hs:w.cell? ⟨18,i,none⟩=some (.string s)) (hl:18 < w.heap.size):Calls Tryz.prog 208 #[.pointer (some ⟨b,0,none⟩)] w fun e w'=>e=.returned (.string s)/\w'=w:=by
 have d0:=qa h 0;have lb:=qd h;have q1:decide ((i:Int) < 0)=false:=by simp
 have q2:decide ((4:Int)<=i)=false:=by simp;omega
 have q3:decide ((i:Int)>=4)=false:=by simp;omega
 have q4:decide (4<=i)=false:=by simp;omega
 clear h;go_enter Tryz.func208,Tryz.ntmps208;go_wp2;go_ret;exact⟨rfl,rfl⟩
theorem qaF {w:World} {b i:Nat} {s:ByteArray} (hi:i < 4) (h:w.heap[b]?=some (.cells #[.int .i64 i] 3 (0,0))) (hs:w.cell? ⟨18,i,none⟩=some (.string s)) (hl:18 < w.heap.size):Calls Tryz.prog 207 #[.int .i64 i,.int .i64 4,.func (.func 208) #[] #[.pointer (some ⟨b,0,none⟩)]] w fun e w'=>e=.returned (.tuple #[.string s,.int .i64 4])/\w'=w:=by
 have q1:decide ((i:Int) < 0)=false:=by simp
 have q3:decide ((i:Int)>=4)=false:=by simp;omega
 have HC:=qh (qaG hi h hs hl);clear h hs;go_enter Tryz.func207,Tryz.ntmps207;go_wp2_with fail;refine(HC.o).mono ?_;rintro e w1 ⟨rfl,rfl⟩;go_wp2
 go_ret2
 exact⟨rfl,rfl⟩
theorem qaE {w:World} {i:Nat} {s:ByteArray} (hi:i < 4) (hs:w.cell? ⟨18,i,none⟩=some (.string s)) (hl:18 < w.heap.size):Calls Tryz.prog 178 #[.int .i64 1,.int .i64 i] w fun e w'=>e=.returned (.tuple #[.string s,.int .i64 4])/\Below w.heap.size w w':=by
 have b0:Below w.heap.size w (w.alloc (.cells #[.int .i64 i] 3)):=(Below.refl _ w).alloc (Nat.le_refl _) _;have HC:=qh (qaF hi (qy w (.cells #[.int .i64 i] 3)) (qx b0 hl hs) (by simp;omega));have B0:=qh b0;clear b0 hs;go_enter Tryz.func178,Tryz.ntmps178;go_wp2_with fail;refine(HC.o).mono ?_;rintro e w1 ⟨rfl,rfl⟩;go_wp2
 go_ret2
 exact⟨rfl,B0.o⟩
theorem vk {w:World} {i:Nat} {s:ByteArray} (hi:i < 4) (hs:w.cell? ⟨18,i,none⟩=some (.string s)) (hl:18 < w.heap.size):Calls Tryz.prog 130 #[.int .i64 1,.int .i64 ((i:Int)+1)] w fun e w'=>e=.returned (.string s)/\Below w.heap.size w w':=by
 have q1:max ((i:Int)+1) 0=(i:Int)+1:=by omega
 have q2:wrap64 ((i:Int)+1 - 1)=(i:Int):=by rw[IntWalk.wrap64_in _ (by omega)];omega
 have q3:decide ((i:Int)+1 < 0)=false:=by simp <;> omega
 have q4:decide (0 < (i:Int)+1)=true:=by simp <;> omega
 have HC:=qh (qaE hi hs hl);clear hs;go_enter Tryz.func130,Tryz.ntmps130;go_wp2_with fail;refine(HC.o).mono ?_;rintro e w1 ⟨rfl,hb⟩;have HB:=qh hb;clear hb;go_wp2;go_ret;exact⟨rfl,HB.o⟩
end
section
attribute [local irreducible] xE
theorem JM (x:Fd):∀u ∈ x.cells,u.oneCell'=true:=by intro u hu;simp[Fd.cells] at hu;rcases hu with rfl|rfl|rfl|rfl <;> rfl
def Ui (w:World) (b:Nat):Prop:=w.heap[b]?=some (.cells #[.func (.func 179) #[] #[]] 305 (0,0))
def uR (r:Int):List Fd:=if r=3 then[qF,qT,jV] else[qF,qT]
section
variable {w:World}
theorem qgi (x:Ev) (hop:x.ret=1) (i:Nat) (hi:i<=100) (b:Nat) (h:Ui w b):
  Calls Tryz.prog 188 #[Xc x,.int .i64 i,.pointer (some ⟨b,0,none⟩)] w (zL (uR x.ret) i w):=by
 obtain⟨xk,xx,xh,xj,xo,xy,xv,xr⟩:=x;simp only at hop;subst hop;have q13:((1:Int)==3)=false:=rfl;have h0:=qa h 0;have lb:=qd h;have HL:=qh h;clear h;go_enter Tryz.func188,Tryz.ntmps188;go_wp2_with fail;have bA:Below w.heap.size w ((w.alloc (.cells #[.int .i64 xk,.int .i64 xx,.int .i64 xh,.int .i64 xj,.int .i64 xo,.int .i64 xy,.int .i64 xv,.int .i64 1] 69)).alloc (.cells #[.nilFunc,.int .i64 0,.int .i64 0,.int .i64 0] 260)):=((Below.refl w.heap.size w).alloc (Nat.le_refl _) _).alloc (by simp) _;have rA:=qD (o:=.cells #[.nilFunc,.int .i64 0,.int .i64 0,.int .i64 0] 260) (qy w (.cells #[.int .i64 xk,.int .i64 xx,.int .i64 xh,.int .i64 xj,.int .i64 xo,.int .i64 xy,.int .i64 xv,.int .i64 1] 69));have rB:=qV (w:=w.alloc (.cells #[.int .i64 xk,.int .i64 xx,.int .i64 xh,.int .i64 xj,.int .i64 xo,.int .i64 xy,.int .i64 xv,.int .i64 1] 69)) (o:=.cells #[.nilFunc,.int .i64 0,.int .i64 0,.int .i64 0] 260) (g:=w.heap.size+1) (by simp);have zA:((w.alloc (.cells #[.int .i64 xk,.int .i64 xx,.int .i64 xh,.int .i64 xj,.int .i64 xo,.int .i64 xy,.int .i64 xv,.int .i64 1] 69)).alloc (.cells #[.nilFunc,.int .i64 0,.int .i64 0,.int .i64 0] 260)).heap.size=w.heap.size+2:=by simp
 generalize (w.alloc (.cells #[.int .i64 xk,.int .i64 xx,.int .i64 xh,.int .i64 xj,.int .i64 xo,.int .i64 xy,.int .i64 xv,.int .i64 1] 69)).alloc (.cells #[.nilFunc,.int .i64 0,.int .i64 0,.int .i64 0] 260)=X at *;refine(Nu X).mono ?_;rintro e X1 ⟨rfl,b1⟩;have z1:=b1.size;have b1:=bA.trans (b1.mono (by omega));have rA:=qp rA ‹Below X.heap.size X X1› (by omega);have rB:=qp rB ‹Below X.heap.size X X1› (by omega);go_wp2_with fail;refine(qcT X1).mono ?_;rintro e X3 ⟨rfl,b3⟩;have z3:=b3.size;have rA:=qp rA b3 (by omega);have rB:=qp rB b3 (by omega);have b3:=b1.trans (b3.mono (by omega));have x4:=qa rA 7;have lA:=qd rA;have lB:=qd rB;have RA:=qh rA;have RB:=qh rB;have B3:=qh b3;clear b1 b3 bA rA rB;go_wp2_with fail;have o4:qj Fd.cells 260 4 (X3.alloc (.cells #[.func (.func qF.f) #[] #[],.int .i64 qF.tb,.int .i64 qF.lo,.int .i64 qF.hi,.func (.func qT.f) #[] #[],.int .i64 qT.tb,.int .i64 qT.lo,.int .i64 qT.hi] 260)) w.heap.size (.slice (some ⟨X3.heap.size,0,none⟩) 2 2) [qF,qT]:=qj.lit (f:=Fd.cells) X3 w.heap.size (by omega) [qF,qT] Fd.len (by decide);have b4:Below w.heap.size w (X3.alloc (.cells #[.func (.func qF.f) #[] #[],.int .i64 qF.tb,.int .i64 qF.lo,.int .i64 qF.hi,.func (.func qT.f) #[] #[],.int .i64 qT.tb,.int .i64 qT.lo,.int .i64 qT.hi] 260)):=B3.o.alloc (by omega) _;have rA:=qD (o:=.cells #[.func (.func qF.f) #[] #[],.int .i64 qF.tb,.int .i64 qF.lo,.int .i64 qF.hi,.func (.func qT.f) #[] #[],.int .i64 qT.tb,.int .i64 qT.lo,.int .i64 qT.hi] 260) RA.o;have rB:=qD (o:=.cells #[.func (.func qF.f) #[] #[],.int .i64 qF.tb,.int .i64 qF.lo,.int .i64 qF.hi,.func (.func qT.f) #[] #[],.int .i64 qT.tb,.int .i64 qT.lo,.int .i64 qT.hi] 260) RB.o;have z4:(X3.alloc (.cells #[.func (.func qF.f) #[] #[],.int .i64 qF.tb,.int .i64 qF.lo,.int .i64 qF.hi,.func (.func qT.f) #[] #[],.int .i64 qT.tb,.int .i64 qT.lo,.int .i64 qT.hi] 260)).heap.size=X3.heap.size+1:=by simp
 generalize X3.alloc (.cells #[.func (.func qF.f) #[] #[],.int .i64 qF.tb,.int .i64 qF.lo,.int .i64 qF.hi,.func (.func qT.f) #[] #[],.int .i64 qT.tb,.int .i64 qT.lo,.int .i64 qT.hi] 260)=X4 at *;obtain⟨X5,rfl⟩:∃X5,X5=X4:=⟨_,rfl⟩
 have x4:=qa rA 7;have lA:=qd rA;have lB:=qd rB;have RA4:=qh rA;have RB4:=qh rB;have B4:=qh b4;have O4:=qh o4;have Z4:=qh z4;have z4':X3.heap.size+1<=X5.heap.size:=by omega
 have hX3:w.heap.size+2<=X3.heap.size:=by omega
 have hw5:w.heap.size+3<=X5.heap.size:=by omega
 clear b4 rA rB o4 B3 RA RB z4 zA;obtain⟨X6,rfl⟩:∃X6,X6=X5:=⟨_,rfl⟩
 ·have q13:((1:Int)==3)=false:=rfl
  obtain⟨Y,rfl⟩:∃Y,Y=X6:=⟨_,rfl⟩
  have BY:=qh B4.o;have RAY:=qh RA4.o;have RBY:=qh RB4.o;have OY:=qh O4.o;clear B4 RA4 RB4 O4 x4 lA lB;have hfd:uR 1=[qF,qT]:=rfl;rw[hfd];unfold zL;generalize hr:([qF,qT]:List Fd)[i]?=r;have HR:=qh hr;clear hr;have y0:Y.cell? ⟨b,0,none⟩=some (.func (.func 179) #[] #[]):=qa (qp HL.o BY.o lb) 0;have zY:=BY.o.size;have lby:b < Y.heap.size:=by omega
  have yy:=qa RAY.o;have yy0:=yy 0;have yy1:=yy 1;have yy2:=yy 2;have yy3:=yy 3;have yy4:=yy 4;have yy5:=yy 5;have yy6:=yy 6;have yy7:=yy 7;clear yy;have ly:=qd RAY.o;have lz:=qd RBY.o;refine qI (Y.heap.size) [1,0,3,1,0,3,0,0,2,0] (.fin [0,1,3,4,2,5,6,7,8,9]) (by kernel_rfl) ?_;simp only[xi,qP,qA,sD,sE,sF,sG]
  repeat first|(refine qz fun K hK=>?_;go_simp;refine hK _ _ ?_;clear hK K)|(apply qC;(intro w2 hw2;have hk1:=hw2.cell;have hk3:=hw2.1;clear hw2;go_simp;with_reducible rfl);simp only[Act.put,sA,sB,sC])
  refine qG (fun K hK=>?_);go_simp;refine(jE _ ⟨_,_,_,rfl⟩ _).mono ?_;rintro e Z ⟨rfl,hZ⟩;have bZ:Below Y.heap.size Y Z:=by rw[hZ];exact(Below.refl _ Y).drew.alloc (Nat.le_refl _) _
  have rZ:Z.heap[Y.heap.size]?=some (.cells #[.slice (some ⟨X3.heap.size,0,none⟩) 2 2] 304 (0,0)):=by rw[hZ];exact qV (w:=Y.drew) rfl
  refine hK _ _ (RN.KeepsN.of_below (by rw[hZ];exact(Below.refl _ Y.drew).alloc (Nat.le_refl _) _)) ?_;clear hK K hZ;have zZ:=bZ.size;refine qG (fun K hK=>?_);go_simp;refine(QF ⟨xk,xx,xh,xj,xo,xy,xv,1⟩ i hi _ _ ([qF,qT]) rZ ((qj.below OY.o bZ).sl)).mono ?_;rintro e V ⟨rfl,bV⟩;rw[HR.o];cases r with
  |none=>
   refine hK _ _ (RN.KeepsN.of_below (bV.mono zZ)) ?_;clear hK K;have bW:Below Y.heap.size Y V:=bZ.trans (bV.mono zZ);have rV:=qp RBY.o bW lz;have v0:=qa rV 0;have v1:=qa rV 1;have v2:=qa rV 2;have v3:=qa rV 3;have vf:∀j,V.frozen? ⟨w.heap.size+1,j,none⟩=false:=fun j=>qB rV j;have lV:=qd rV;have BV:=qh (BY.o.trans (bW.mono (by omega)));have RV:=qh rV;clear bW rV rZ bZ bV y0 yy0 yy1 yy2 yy3 yy4 yy5 yy6 yy7
   repeat (refine qz fun K hK=>?_;go_simp;refine hK _ _ ?_;clear hK K)
   refine qM (fun K hK=>?_);go_simp;refine hK _ _ ?_;clear hK K
   repeat first|(refine qz fun K hK=>?_;go_simp;refine hK _ _ ?_;clear hK K)|refine qu ?_
   have rF:=qq (qq (qq (qq RV.o 0 .nilFunc) 1 (.int .i64 0)) 2 (.int .i64 0)) 3 (.int .i64 0);have f0:=qa rF 0;have f1:=qa rF 1;have f2:=qa rF 2;have f3:=qa rF 3;have bF:=(((BV.o.setCell (p:=⟨w.heap.size+1,0,none⟩) (by show w.heap.size<=w.heap.size+1;omega) .nilFunc).setCell (p:=⟨w.heap.size+1,1,none⟩) (by show w.heap.size<=w.heap.size+1;omega) (.int .i64 0)).setCell (p:=⟨w.heap.size+1,2,none⟩) (by show w.heap.size<=w.heap.size+1;omega) (.int .i64 0)).setCell (p:=⟨w.heap.size+1,3,none⟩) (by show w.heap.size<=w.heap.size+1;omega) (.int .i64 0);generalize (((V.setCell ⟨w.heap.size+1,0,none⟩ .nilFunc).setCell ⟨w.heap.size+1,1,none⟩ (.int .i64 0)).setCell ⟨w.heap.size+1,2,none⟩ (.int .i64 0)).setCell ⟨w.heap.size+1,3,none⟩ (.int .i64 0)=U at *;simp at f0 f1 f2 f3;have BF:=qh bF;clear bF rF v0 v1 v2 v3 vf;go_wp2;refine bodyPost_ret (v:=.tuple #[fdZ,.bool false]) (by simp[results,Tryz.results188,go_sem,f0,f1,f2,f3]) rfl ⟨by first|rfl|(rw[show uR 1=[qF,qT] from rfl,HR.o]),BF.o⟩
  |some y=>
   refine hK _ _ (RN.KeepsN.of_below (bV.mono zZ)) ?_;clear hK K;have bW:Below Y.heap.size Y V:=bZ.trans (bV.mono zZ);have rV:=qp RBY.o bW lz;have v0:=qa rV 0;have v1:=qa rV 1;have v2:=qa rV 2;have v3:=qa rV 3;have vf:∀j,V.frozen? ⟨w.heap.size+1,j,none⟩=false:=fun j=>qB rV j;have lV:=qd rV;have BV:=qh (BY.o.trans (bW.mono (by omega)));have RV:=qh rV;clear bW rV rZ bZ bV y0 yy0 yy1 yy2 yy3 yy4 yy5 yy6 yy7
   repeat (refine qz fun K hK=>?_;go_simp;refine hK _ _ ?_;clear hK K)
   refine qM (fun K hK=>?_);go_simp;refine hK _ _ ?_;clear hK K
   repeat first|(refine qz fun K hK=>?_;go_simp;refine hK _ _ ?_;clear hK K)|refine qu ?_
   have rF:=qq (qq (qq (qq RV.o 0 (.func (.func y.f) #[] #[])) 1 (.int .i64 y.tb)) 2 (.int .i64 y.lo)) 3 (.int .i64 y.hi);have f0:=qa rF 0;have f1:=qa rF 1;have f2:=qa rF 2;have f3:=qa rF 3;have bF:=(((BV.o.setCell (p:=⟨w.heap.size+1,0,none⟩) (by show w.heap.size<=w.heap.size+1;omega) (.func (.func y.f) #[] #[])).setCell (p:=⟨w.heap.size+1,1,none⟩) (by show w.heap.size<=w.heap.size+1;omega) (.int .i64 y.tb)).setCell (p:=⟨w.heap.size+1,2,none⟩) (by show w.heap.size<=w.heap.size+1;omega) (.int .i64 y.lo)).setCell (p:=⟨w.heap.size+1,3,none⟩) (by show w.heap.size<=w.heap.size+1;omega) (.int .i64 y.hi);generalize (((V.setCell ⟨w.heap.size+1,0,none⟩ (.func (.func y.f) #[] #[])).setCell ⟨w.heap.size+1,1,none⟩ (.int .i64 y.tb)).setCell ⟨w.heap.size+1,2,none⟩ (.int .i64 y.lo)).setCell ⟨w.heap.size+1,3,none⟩ (.int .i64 y.hi)=U at *;simp at f0 f1 f2 f3;have BF:=qh bF;clear bF rF v0 v1 v2 v3 vf;go_wp2;refine bodyPost_ret (v:=.tuple #[y.val,.bool true]) (by simp[results,Tryz.results188,go_sem,f0,f1,f2,f3]) rfl ⟨by first|rfl|(rw[show uR 1=[qF,qT] from rfl,HR.o]),BF.o⟩
theorem qgh (x:Ev) (hop:x.ret=3) (i:Nat) (hi:i<=100) (b:Nat) (h:Ui w b):
  Calls Tryz.prog 188 #[Xc x,.int .i64 i,.pointer (some ⟨b,0,none⟩)] w (zL (uR x.ret) i w):=by
 obtain⟨xk,xx,xh,xj,xo,xy,xv,xr⟩:=x;simp only at hop;subst hop;have q13:((3:Int)==3)=true:=rfl;have h0:=qa h 0;have lb:=qd h;have HL:=qh h;clear h;go_enter Tryz.func188,Tryz.ntmps188;go_wp2_with fail;have bA:Below w.heap.size w ((w.alloc (.cells #[.int .i64 xk,.int .i64 xx,.int .i64 xh,.int .i64 xj,.int .i64 xo,.int .i64 xy,.int .i64 xv,.int .i64 3] 69)).alloc (.cells #[.nilFunc,.int .i64 0,.int .i64 0,.int .i64 0] 260)):=((Below.refl w.heap.size w).alloc (Nat.le_refl _) _).alloc (by simp) _;have rA:=qD (o:=.cells #[.nilFunc,.int .i64 0,.int .i64 0,.int .i64 0] 260) (qy w (.cells #[.int .i64 xk,.int .i64 xx,.int .i64 xh,.int .i64 xj,.int .i64 xo,.int .i64 xy,.int .i64 xv,.int .i64 3] 69));have rB:=qV (w:=w.alloc (.cells #[.int .i64 xk,.int .i64 xx,.int .i64 xh,.int .i64 xj,.int .i64 xo,.int .i64 xy,.int .i64 xv,.int .i64 3] 69)) (o:=.cells #[.nilFunc,.int .i64 0,.int .i64 0,.int .i64 0] 260) (g:=w.heap.size+1) (by simp);have zA:((w.alloc (.cells #[.int .i64 xk,.int .i64 xx,.int .i64 xh,.int .i64 xj,.int .i64 xo,.int .i64 xy,.int .i64 xv,.int .i64 3] 69)).alloc (.cells #[.nilFunc,.int .i64 0,.int .i64 0,.int .i64 0] 260)).heap.size=w.heap.size+2:=by simp
 generalize (w.alloc (.cells #[.int .i64 xk,.int .i64 xx,.int .i64 xh,.int .i64 xj,.int .i64 xo,.int .i64 xy,.int .i64 xv,.int .i64 3] 69)).alloc (.cells #[.nilFunc,.int .i64 0,.int .i64 0,.int .i64 0] 260)=X at *;refine(Nu X).mono ?_;rintro e X1 ⟨rfl,b1⟩;have z1:=b1.size;have b1:=bA.trans (b1.mono (by omega));have rA:=qp rA ‹Below X.heap.size X X1› (by omega);have rB:=qp rB ‹Below X.heap.size X X1› (by omega);go_wp2_with fail;refine(qcT X1).mono ?_;rintro e X3 ⟨rfl,b3⟩;have z3:=b3.size;have rA:=qp rA b3 (by omega);have rB:=qp rB b3 (by omega);have b3:=b1.trans (b3.mono (by omega));have x4:=qa rA 7;have lA:=qd rA;have lB:=qd rB;have RA:=qh rA;have RB:=qh rB;have B3:=qh b3;clear b1 b3 bA rA rB;go_wp2_with fail;have o4:qj Fd.cells 260 4 (X3.alloc (.cells #[.func (.func qF.f) #[] #[],.int .i64 qF.tb,.int .i64 qF.lo,.int .i64 qF.hi,.func (.func qT.f) #[] #[],.int .i64 qT.tb,.int .i64 qT.lo,.int .i64 qT.hi] 260)) w.heap.size (.slice (some ⟨X3.heap.size,0,none⟩) 2 2) [qF,qT]:=qj.lit (f:=Fd.cells) X3 w.heap.size (by omega) [qF,qT] Fd.len (by decide);have b4:Below w.heap.size w (X3.alloc (.cells #[.func (.func qF.f) #[] #[],.int .i64 qF.tb,.int .i64 qF.lo,.int .i64 qF.hi,.func (.func qT.f) #[] #[],.int .i64 qT.tb,.int .i64 qT.lo,.int .i64 qT.hi] 260)):=B3.o.alloc (by omega) _;have rA:=qD (o:=.cells #[.func (.func qF.f) #[] #[],.int .i64 qF.tb,.int .i64 qF.lo,.int .i64 qF.hi,.func (.func qT.f) #[] #[],.int .i64 qT.tb,.int .i64 qT.lo,.int .i64 qT.hi] 260) RA.o;have rB:=qD (o:=.cells #[.func (.func qF.f) #[] #[],.int .i64 qF.tb,.int .i64 qF.lo,.int .i64 qF.hi,.func (.func qT.f) #[] #[],.int .i64 qT.tb,.int .i64 qT.lo,.int .i64 qT.hi] 260) RB.o;have z4:(X3.alloc (.cells #[.func (.func qF.f) #[] #[],.int .i64 qF.tb,.int .i64 qF.lo,.int .i64 qF.hi,.func (.func qT.f) #[] #[],.int .i64 qT.tb,.int .i64 qT.lo,.int .i64 qT.hi] 260)).heap.size=X3.heap.size+1:=by simp
 generalize X3.alloc (.cells #[.func (.func qF.f) #[] #[],.int .i64 qF.tb,.int .i64 qF.lo,.int .i64 qF.hi,.func (.func qT.f) #[] #[],.int .i64 qT.tb,.int .i64 qT.lo,.int .i64 qT.hi] 260)=X4 at *;obtain⟨X5,rfl⟩:∃X5,X5=X4:=⟨_,rfl⟩
 have x4:=qa rA 7;have lA:=qd rA;have lB:=qd rB;have RA4:=qh rA;have RB4:=qh rB;have B4:=qh b4;have O4:=qh o4;have Z4:=qh z4;have z4':X3.heap.size+1<=X5.heap.size:=by omega
 have hX3:w.heap.size+2<=X3.heap.size:=by omega
 have hw5:w.heap.size+3<=X5.heap.size:=by omega
 clear b4 rA rB o4 B3 RA RB z4 zA;obtain⟨X6,rfl⟩:∃X6,X6=X5:=⟨_,rfl⟩
 ·have q13:((3:Int)==3)=true:=rfl
  refine(qcS X6).mono ?_;rintro e X7 ⟨rfl,b7⟩;have z7:=b7.size;have B7:=qh (B4.o.trans (b7.mono (by omega)));have RA7:=qh (qp RA4.o b7 lA);have RB7:=qh (qp RB4.o b7 lB);have O7:=qh (qj.below O4.o b7);clear b7 x4;go_wp2_with (at_builtin;refine qN rfl _ _ _ rfl _ 32 Tryz.underlying304 JE rfl O7.o jV (by first|omega|(simp <;> omega)) (by rfl) (by rfl) (by first|rfl|simp) rfl (JM _) (by first|omega|(simp only[List.length_append,List.length_cons,List.length_nil,List.length_replicate];omega)) (by first|omega|(simp only[List.length_append,List.length_cons,List.length_nil,List.length_replicate];omega)) ?_;refine qK.halt ?_)
  refine qK.go ?_;intro g8 c8 Y o8 G8;have b8:=B7.o.trans (G8.below (by omega) fun q h=>(O7.o.lt q h).1);have BY:=qh b8;have RAY:=qh (qL RA7.o G8 (qj.neT O7.o RA7.o (by decide)));have RBY:=qh (qL RB7.o G8 (by simp only[Value.ownBlock,ne_eq,Option.some.injEq];omega));have OY:=qh o8;have hzY:w.heap.size+3<=Y.heap.size:=by have:=G8.size;omega
  clear B4 RA4 RB4 O4 lA lB b8 B7 RA7 RB7 O7 o8 G8;go_wp2_with fail;have hfd:uR 3=[qF,qT,jV]:=rfl;rw[hfd];unfold zL;generalize hr:([qF,qT,jV]:List Fd)[i]?=r;have HR:=qh hr;clear hr;have y0:Y.cell? ⟨b,0,none⟩=some (.func (.func 179) #[] #[]):=qa (qp HL.o BY.o lb) 0;have zY:=BY.o.size;have lby:b < Y.heap.size:=by omega
  have yy:=qa RAY.o;have yy0:=yy 0;have yy1:=yy 1;have yy2:=yy 2;have yy3:=yy 3;have yy4:=yy 4;have yy5:=yy 5;have yy6:=yy 6;have yy7:=yy 7;clear yy;have ly:=qd RAY.o;have lz:=qd RBY.o;refine qI (Y.heap.size) [1,0,3,1,0,3,0,0,2,0] (.fin [0,1,3,4,2,5,6,7,8,9]) (by kernel_rfl) ?_;simp only[xi,qP,qA,sD,sE,sF,sG]
  repeat first|(refine qz fun K hK=>?_;go_simp;refine hK _ _ ?_;clear hK K)|(apply qC;(intro w2 hw2;have hk1:=hw2.cell;have hk3:=hw2.1;clear hw2;go_simp;with_reducible rfl);simp only[Act.put,sA,sB,sC])
  refine qG (fun K hK=>?_);go_simp;refine(jE _ ⟨_,_,_,rfl⟩ _).mono ?_;rintro e Z ⟨rfl,hZ⟩;have bZ:Below Y.heap.size Y Z:=by rw[hZ];exact(Below.refl _ Y).drew.alloc (Nat.le_refl _) _
  have rZ:Z.heap[Y.heap.size]?=some (.cells #[.slice (some ⟨g8,0,none⟩) 3 c8] 304 (0,0)):=by rw[hZ];exact qV (w:=Y.drew) rfl
  refine hK _ _ (RN.KeepsN.of_below (by rw[hZ];exact(Below.refl _ Y.drew).alloc (Nat.le_refl _) _)) ?_;clear hK K hZ;have zZ:=bZ.size;refine qG (fun K hK=>?_);go_simp;refine(QF ⟨xk,xx,xh,xj,xo,xy,xv,3⟩ i hi _ _ ([qF,qT,jV]) rZ ((qj.below OY.o bZ).sl)).mono ?_;rintro e V ⟨rfl,bV⟩;rw[HR.o];cases r with
  |none=>
   refine hK _ _ (RN.KeepsN.of_below (bV.mono zZ)) ?_;clear hK K;have bW:Below Y.heap.size Y V:=bZ.trans (bV.mono zZ);have rV:=qp RBY.o bW lz;have v0:=qa rV 0;have v1:=qa rV 1;have v2:=qa rV 2;have v3:=qa rV 3;have vf:∀j,V.frozen? ⟨w.heap.size+1,j,none⟩=false:=fun j=>qB rV j;have lV:=qd rV;have BV:=qh (BY.o.trans (bW.mono (by omega)));have RV:=qh rV;clear bW rV rZ bZ bV y0 yy0 yy1 yy2 yy3 yy4 yy5 yy6 yy7
   repeat (refine qz fun K hK=>?_;go_simp;refine hK _ _ ?_;clear hK K)
   refine qM (fun K hK=>?_);go_simp;refine hK _ _ ?_;clear hK K
   repeat first|(refine qz fun K hK=>?_;go_simp;refine hK _ _ ?_;clear hK K)|refine qu ?_
   have rF:=qq (qq (qq (qq RV.o 0 .nilFunc) 1 (.int .i64 0)) 2 (.int .i64 0)) 3 (.int .i64 0);have f0:=qa rF 0;have f1:=qa rF 1;have f2:=qa rF 2;have f3:=qa rF 3;have bF:=(((BV.o.setCell (p:=⟨w.heap.size+1,0,none⟩) (by show w.heap.size<=w.heap.size+1;omega) .nilFunc).setCell (p:=⟨w.heap.size+1,1,none⟩) (by show w.heap.size<=w.heap.size+1;omega) (.int .i64 0)).setCell (p:=⟨w.heap.size+1,2,none⟩) (by show w.heap.size<=w.heap.size+1;omega) (.int .i64 0)).setCell (p:=⟨w.heap.size+1,3,none⟩) (by show w.heap.size<=w.heap.size+1;omega) (.int .i64 0);generalize (((V.setCell ⟨w.heap.size+1,0,none⟩ .nilFunc).setCell ⟨w.heap.size+1,1,none⟩ (.int .i64 0)).setCell ⟨w.heap.size+1,2,none⟩ (.int .i64 0)).setCell ⟨w.heap.size+1,3,none⟩ (.int .i64 0)=U at *;simp at f0 f1 f2 f3;have BF:=qh bF;clear bF rF v0 v1 v2 v3 vf;go_wp2;refine bodyPost_ret (v:=.tuple #[fdZ,.bool false]) (by simp[results,Tryz.results188,go_sem,f0,f1,f2,f3]) rfl ⟨by first|rfl|(rw[show uR 3=[qF,qT,jV] from rfl,HR.o]),BF.o⟩
  |some y=>
   refine hK _ _ (RN.KeepsN.of_below (bV.mono zZ)) ?_;clear hK K;have bW:Below Y.heap.size Y V:=bZ.trans (bV.mono zZ);have rV:=qp RBY.o bW lz;have v0:=qa rV 0;have v1:=qa rV 1;have v2:=qa rV 2;have v3:=qa rV 3;have vf:∀j,V.frozen? ⟨w.heap.size+1,j,none⟩=false:=fun j=>qB rV j;have lV:=qd rV;have BV:=qh (BY.o.trans (bW.mono (by omega)));have RV:=qh rV;clear bW rV rZ bZ bV y0 yy0 yy1 yy2 yy3 yy4 yy5 yy6 yy7
   repeat (refine qz fun K hK=>?_;go_simp;refine hK _ _ ?_;clear hK K)
   refine qM (fun K hK=>?_);go_simp;refine hK _ _ ?_;clear hK K
   repeat first|(refine qz fun K hK=>?_;go_simp;refine hK _ _ ?_;clear hK K)|refine qu ?_
   have rF:=qq (qq (qq (qq RV.o 0 (.func (.func y.f) #[] #[])) 1 (.int .i64 y.tb)) 2 (.int .i64 y.lo)) 3 (.int .i64 y.hi);have f0:=qa rF 0;have f1:=qa rF 1;have f2:=qa rF 2;have f3:=qa rF 3;have bF:=(((BV.o.setCell (p:=⟨w.heap.size+1,0,none⟩) (by show w.heap.size<=w.heap.size+1;omega) (.func (.func y.f) #[] #[])).setCell (p:=⟨w.heap.size+1,1,none⟩) (by show w.heap.size<=w.heap.size+1;omega) (.int .i64 y.tb)).setCell (p:=⟨w.heap.size+1,2,none⟩) (by show w.heap.size<=w.heap.size+1;omega) (.int .i64 y.lo)).setCell (p:=⟨w.heap.size+1,3,none⟩) (by show w.heap.size<=w.heap.size+1;omega) (.int .i64 y.hi);generalize (((V.setCell ⟨w.heap.size+1,0,none⟩ (.func (.func y.f) #[] #[])).setCell ⟨w.heap.size+1,1,none⟩ (.int .i64 y.tb)).setCell ⟨w.heap.size+1,2,none⟩ (.int .i64 y.lo)).setCell ⟨w.heap.size+1,3,none⟩ (.int .i64 y.hi)=U at *;simp at f0 f1 f2 f3;have BF:=qh bF;clear bF rF v0 v1 v2 v3 vf;go_wp2;refine bodyPost_ret (v:=.tuple #[y.val,.bool true]) (by simp[results,Tryz.results188,go_sem,f0,f1,f2,f3]) rfl ⟨by first|rfl|(rw[show uR 3=[qF,qT,jV] from rfl,HR.o]),BF.o⟩
theorem qgg (x:Ev) (hop:x.ret=1\/x.ret=3) (i:Nat) (hi:i<=100) (b:Nat) (h:Ui w b):
  Calls Tryz.prog 188 #[Xc x,.int .i64 i,.pointer (some ⟨b,0,none⟩)] w (zL (uR x.ret) i w):=by
 rcases hop with hop|hop
 ·exact qgi x hop i hi b h
 ·exact qgh x hop i hi b h
end
end
section
attribute [local irreducible] xE
theorem qY {w w':World} {b g:Nat} {cs:Array Value} {t:TypeId} {fz:Nat×Nat} (h:w.mapTurned w' b) (hg:w.heap[g]?=some (.cells cs t fz)):w'.heap[g]?=w.heap[g]?:=qE h (by
 rintro rfl;obtain⟨es,c,es',c',hb,-⟩:=h;rw[hb] at hg;cases hg)
def Xo (k:Int):List Fd:=if k=1 then[qF,xm] else[qF]
def UG (w:World) (B:Nat) (v:Value) (l:List Fd):Prop:=∃(bl:Nat) (sv:Value),v=.func (.func 180) #[] #[.pointer (some ⟨bl,0,none⟩)]/\w.heap[bl]?=some (.cells #[sv] 304 (0,0))/\qj Fd.cells 260 4 w B sv l
theorem UG.below {w w':World} {B:Nat} {v:Value} {l:List Fd} (h:UG w B v l) (hb:Below w.heap.size w w'):UG w' B v l:=let ⟨bl,sv,h1,h2,h3⟩:=h;⟨bl,sv,h1,qp h2 hb (qd h2),qj.below h3 hb⟩
theorem UG.turned {w w':World} {B b:Nat} {v:Value} {l:List Fd} (h:UG w B v l) (ht:w.mapTurned w' b):UG w' B v l:=let ⟨bl,sv,h1,h2,h3⟩:=h;⟨bl,sv,h1,(qY ht h2).trans h2,qj.kd h3 (Kd.turned (T:=fun _=>False) ht) fun h=>h⟩
def qgw (w W:World):Exit->Act->World->Prop:=fun e a' X=>∃bm bl gs:Nat,e=.normal/\a'={tmps:=#[.map none,.pointer (some ⟨w.heap.size,0,none⟩),.map (some bm),undef,undef,.map (some bm),.func (.func 179) #[] #[],qF.val,xm.val,.slice (some ⟨gs,0,none⟩) 2 2,.func (.func 180) #[] #[.pointer (some ⟨bl,0,none⟩)],.map (some bm),undef,undef,undef,undef,undef,undef,undef,undef,undef,undef,undef,undef,undef,undef,undef,undef,undef,undef],defers:=[]}/\qS X bm (VM (fun _=>none) 1 (some (.func (.func 180) #[] #[.pointer (some ⟨bl,0,none⟩)])))/\X.heap[bl]?=some (.cells #[.slice (some ⟨gs,0,none⟩) 2 2] 304 (0,0))/\qj Fd.cells 260 4 X W.heap.size (.slice (some ⟨gs,0,none⟩) 2 2) [qF,xm]/\Below W.heap.size W X/\W.heap.size<=bm
end
section
attribute [local irreducible] xE
def Xp:List Fd:=[qF,xm,xS,yu,jV,qT]
def Kf (f:Fd):Nat:=if f.f=214 then 1 else if f.f=215 then 2 else if f.f=216 then 3 else if f.f=217 then 4 else if f.f=219 then 6 else 7
theorem qha {f:Fd} (h:f ∈ Xp) (b:Nat) (w:World):Calls Tryz.prog f.f #[.pointer (some ⟨b,0,none⟩)] w fun e w'=>e=.returned (.pointer (some ⟨b,Kf f,none⟩))/\w'=w:=by
 simp only[Xp,List.mem_cons,List.not_mem_nil,or_false] at h;rcases h with rfl|rfl|rfl|rfl|rfl|rfl
 ·exact qhd b w
 ·exact qaD b w
 ·exact qgk b w
 ·exact qhe b w
 ·exact qgf b w
 ·exact qgj b w
theorem qhk {f:Fd} (h:f ∈ Xp) (args:Array Value) (X:World):Sem.run Tryz.prog (callFunc f.f args) X=.ok (.enter f.f args) X:=by
 simp only[Xp,List.mem_cons,List.not_mem_nil,or_false] at h;rcases h with rfl|rfl|rfl|rfl|rfl|rfl <;> kernel_rfl
theorem qfH {f:Fd} (h:f ∈ Xp):1<=Kf f/\Kf f < 8:=by
 simp only[Xp,List.mem_cons,List.not_mem_nil,or_false] at h;rcases h with rfl|rfl|rfl|rfl|rfl|rfl <;> decide
theorem VJ (cs:List Value) (j:Nat) (v:Value):cs.toArray.setIfInBounds j v=(cs.set j v).toArray:=by simp
def jW (x:Ev):List Value:=[.int .i64 0,.int .i64 x.tx,.int .i64 x.thread,.int .i64 x.obj,.int .i64 x.op,.int .i64 x.key,.int .i64 x.val,.int .i64 x.ret]
def qgr (w:World) (e:Ending) (w':World):Prop:=e=.returned .nilIface/\Below w.heap.size w w'
structure yR (w:World):Prop where
 big:21 < w.heap.size
 ok:w.cell? ⟨21,0,none⟩=some (.string ⟨#[111,107]⟩)
 val:w.cell? ⟨21,2,none⟩=some (.string ⟨#[118,97,108]⟩)
 reg:w.cell? ⟨18,0,none⟩=some (.string ⟨#[114,101,103,105,115,116,101,114]⟩)
theorem yR.below {w w':World} (h:yR w) (hb:Below w.heap.size w w'):yR w':=
 have h1:=h.big
 ⟨by have:=hb.size;omega,qx hb h1 h.ok,qx hb h1 h.val,qx hb (by omega) h.reg⟩
theorem MG (s:ByteArray):∀(n i:Nat) (r:List UInt8),s.size - i=n->ByteArray.toList.loop s i r=r.reverse++s.data.toList.drop i
 |0,i,r,h=>by
  unfold ByteArray.toList.loop;have h1:s.size=s.data.size:=rfl;rw[if_neg (by omega),List.drop_eq_nil_of_le (by simp;omega)];simp
 |n+1,i,r,h=>by
  unfold ByteArray.toList.loop;have h1:s.size=s.data.size:=rfl;rw[if_pos (by omega),MG s n (i+1) _ (by omega)];have hi:i < s.data.toList.length:=by simp;omega
  rw[List.drop_eq_getElem_cons hi];have:s.get! i=s.data.toList[i]:=by
   show s.data[i]! =_;rw[getElem!_pos s.data i (by simpa using hi)];simp
  simp[this]
theorem yW (s:ByteArray):s.toList=s.data.toList:=by
 unfold ByteArray.toList;rw[MG s _ 0 [] rfl];simp
theorem Yu (w:World):(zeroValue 255).run Tryz.prog w=.ok .nilFunc w:=by kernel_rfl
end
section
attribute [local irreducible] xE
def jT (k:Int):Int:=if k=1\/k=2 then 1 else if k=3\/k=4 then 2 else if k=5\/k=6 then 3 else if k=7\/k=8\/k=9 then 4 else 0
def Qw (k:Int):Bool:=k==7||k==8||k==9
def jc (k:Int):Bool:=k==2||k==3||k==5||k==7
def Qc (op ret:Int):Bool:=if jc op then ret==1 else if op=1\/op=4 then ret==3 else if op=6\/op=8\/op=9 then ret==2||ret==3 else false
theorem qay (k:Int) (w:World):Calls Tryz.prog 82 #[.int .i64 k] w fun e w'=>e=.returned (.int .i64 (jT k))/\w'=w:=by
 go_enter Tryz.func82,Tryz.ntmps82;go_wp2
 all_goals
  refine bodyPost_ret (v:=.int .i64 (jT k)) ?_ rfl ⟨rfl,rfl⟩
  simp_all [results,Tryz.results82,go_sem,jT]
theorem qep (k:Int) (w:World):Calls Tryz.prog 88 #[.int .i64 k] w fun e w'=>e=.returned (.bool (Qw k))/\w'=w:=by
 unfold Qw;go_enter Tryz.func88,Tryz.ntmps88;cases h1:(k==7) <;> cases h2:(k==8) <;> cases h3:(k==9) <;>
 ·go_wp2
  go_ret;exact⟨by simp,rfl⟩
theorem Ky (k:Int) (w:World):Calls Tryz.prog 89 #[.int .i64 k] w fun e w'=>e=.returned (.bool (jc k))/\w'=w:=by
 unfold jc;go_enter Tryz.func89,Tryz.ntmps89;cases h1:(k==2) <;> cases h2:(k==3) <;> cases h3:(k==5) <;> cases h4:(k==7) <;>
 ·go_wp2
  go_ret;exact⟨by simp,rfl⟩
theorem qfY (k r:Int) (w:World):Calls Tryz.prog 174 #[.int .i64 k,.int .i64 r] w fun e w'=>e=.returned (.bool (Qc k r))/\w'=w:=by
 unfold Qc;have hV:=qh (Ky k w);go_enter Tryz.func174,Tryz.ntmps174;go_wp2_with fail;refine hV.o.mono ?_;rintro e w1 ⟨rfl,rfl⟩;cases hv:jc k with
 |true=>
  go_wp2;go_ret;exact⟨by simp,rfl⟩
 |false=>
  by_cases h1:k=1
  ·subst h1
   go_wp2;go_ret;exact⟨by simp,rfl⟩
  by_cases h4:k=4
  ·subst h4
   go_wp2;go_ret;exact⟨by simp,rfl⟩
  have q1:(k==1)=false:=by simpa using h1
  have q4:(k==4)=false:=by simpa using h4
  by_cases h6:k=6\/k=8\/k=9
  ·rcases h6 with rfl|rfl|rfl <;>
   ·by_cases h2:r=2
    ·subst h2
     go_wp2;go_ret;exact⟨by simp,rfl⟩
    ·have q2:(r==2)=false:=by simpa using h2
     go_wp2;go_ret;exact⟨by simp[h2],rfl⟩
  ·have q6:(k==6)=false:=by simpa using fun h=>h6 (.inl h)
   have q8:(k==8)=false:=by simpa using fun h=>h6 (.inr (.inl h))
   have q9:(k==9)=false:=by simpa using fun h=>h6 (.inr (.inr h))
   go_wp2
   all_goals
    go_ret;exact⟨by simp[h1,h4,h6],rfl⟩
end
section
attribute [local irreducible] xE
structure xu (w:World):Prop where
 big:21 < w.heap.size
 answer0:w.cell? ⟨21,0,none⟩=some (.string ⟨#[111,107]⟩)
 answer1:w.cell? ⟨21,1,none⟩=some (.string ⟨#[110,111,110,101]⟩)
 answer2:w.cell? ⟨21,2,none⟩=some (.string ⟨#[118,97,108]⟩)
 object0:w.cell? ⟨18,0,none⟩=some (.string ⟨#[114,101,103,105,115,116,101,114]⟩)
 object1:w.cell? ⟨18,1,none⟩=some (.string ⟨#[99,111,117,110,116,101,114]⟩)
 object2:w.cell? ⟨18,2,none⟩=some (.string ⟨#[113,117,101,117,101]⟩)
 object3:w.cell? ⟨18,3,none⟩=some (.string ⟨#[109,97,112]⟩)
theorem xu.below {w w':World} (h:xu w) (hb:Below w.heap.size w w'):xu w':=
 have h1:=h.big
 ⟨by have:=hb.size;omega,qx hb (by omega) h.answer0,qx hb (by omega) h.answer1,qx hb (by omega) h.answer2,qx hb (by omega) h.object0,qx hb (by omega) h.object1,qx hb (by omega) h.object2,qx hb (by omega) h.object3⟩
theorem NZ {w:World} {i m:Int} (h:i < 0\/m<=i) {f b:Nat}:Calls Tryz.prog 207 #[.int .i64 i,.int .i64 m,.func (.func f) #[] #[.pointer (some ⟨b,0,none⟩)]] w fun e w'=>e=.returned (.tuple #[.string ⟨#[]⟩,.int .i64 m])/\w'=w:=by
 by_cases h0:i < 0
 ·have q1:decide (i < 0)=true:=by simpa using h0
  go_enter Tryz.func207,Tryz.ntmps207;go_wp2
  go_ret2
  exact⟨rfl,rfl⟩
 ·have hm:m<=i:=by omega
  have q1:decide (i < 0)=false:=by simpa using h0
  have q2:decide (i>=m)=true:=by simpa using hm
  have q3:decide (m<=i)=true:=by simpa using hm
  go_enter Tryz.func207,Tryz.ntmps207;go_wp2
  go_ret2
  exact⟨rfl,rfl⟩
def Yr (r:Int):ByteArray:=if r=1 then⟨#[111,107]⟩ else if r=2 then⟨#[110,111,110,101]⟩ else if r=3 then⟨#[118,97,108]⟩ else⟨#[]⟩
theorem Xr (r:Int):(Yr r).toList.isEmpty=!(decide (1<=r/\r<=3)):=by
 unfold Yr;by_cases h0:r=1
 ·subst h0;simp[yW]
 rw[if_neg h0];by_cases h1:r=2
 ·subst h1;simp[yW]
 rw[if_neg h1];by_cases h2:r=3
 ·subst h2;simp[yW]
 rw[if_neg h2];rw[yW];simp;omega
theorem Wn {w:World} {i:Int} (h:i < 0\/3<=i):Calls Tryz.prog 178 #[.int .i64 4,.int .i64 i] w fun e w'=>e=.returned (.tuple #[.string ⟨#[]⟩,.int .i64 3])/\Below w.heap.size w w':=by
 have b0:Below w.heap.size w (w.alloc (.cells #[.int .i64 i] 3)):=(Below.refl _ w).alloc (Nat.le_refl _) _;have HC:=qh (fun b=>NZ (w:=w.alloc (.cells #[.int .i64 i] 3)) (m:=3) h (f:=211) (b:=b));have B0:=qh b0;clear b0;go_enter Tryz.func178,Tryz.ntmps178;go_wp2_with fail;refine(HC.o _).mono ?_;rintro e w1 ⟨rfl,rfl⟩;go_wp2
 go_ret2
 exact⟨rfl,B0.o⟩
theorem Kx {w:World} (hW:xu w) (r:Int) (hr:dI r):Calls Tryz.prog 130 #[.int .i64 4,.int .i64 r] w fun e w'=>e=.returned (.string (Yr r))/\Below w.heap.size w w':=by
 have hr2:-9223372036854775808<=r/\r<=9223372036854775807:=by simpa[dI,Lit.wf,IntKind.min,IntKind.max,IntKind.signed,IntKind.bits] using hr
 by_cases hin:1<=r/\r<=3
 ·have hc:r=1\/r=2\/r=3:=by omega
  rcases hc with rfl|rfl|rfl
  ·exact JS (i:=0) (by omega) hW.answer0 (by have:=hW.big;omega)
  ·exact JS (i:=1) (by omega) hW.answer1 (by have:=hW.big;omega)
  ·exact JS (i:=2) (by omega) hW.answer2 (by have:=hW.big;omega)
 ·have hS:Yr r=⟨#[]⟩:=by
   unfold Yr;rw[if_neg (by omega),if_neg (by omega),if_neg (by omega)]
  rw[hS];obtain⟨j,hj⟩:∃j,j=max r 0 - 1:=⟨_,rfl⟩
  have q2:wrap64 (max r 0 - 1)=j:=by rw[IntWalk.wrap64_in _ (by omega),hj]
  have hmx:∀(ts:Array TypeId) (ty:TypeId) (X:World),(Builtin.max_ ts ty #[.int .i64 r,.int .i64 (0:Int)]).run Tryz.prog X=.ok (.int .i64 (max r 0)) X:=fun ts ty X=>by
   rw[run_max_int2];congr 2;split <;> omega
  have HC:=qh (Wn (w:=w) (i:=j) (by omega));clear hj hin;generalize hmr:max r 0=mr at *;clear hmr;go_enter Tryz.func130,Tryz.ntmps130;go_wp2_with fail;refine(HC.o).mono ?_;rintro e w1 ⟨rfl,hb⟩;have HB:=qh hb;clear hb;go_wp2;go_ret;exact⟨rfl,HB.o⟩
def XY (r:Int):ByteArray:=if r=1 then⟨#[114,101,103,105,115,116,101,114]⟩ else if r=2 then⟨#[99,111,117,110,116,101,114]⟩ else if r=3 then⟨#[113,117,101,117,101]⟩ else if r=4 then⟨#[109,97,112]⟩ else⟨#[]⟩
theorem Us (r:Int):(XY r).toList.isEmpty=!(decide (1<=r/\r<=4)):=by
 unfold XY;by_cases h0:r=1
 ·subst h0;simp[yW]
 rw[if_neg h0];by_cases h1:r=2
 ·subst h1;simp[yW]
 rw[if_neg h1];by_cases h2:r=3
 ·subst h2;simp[yW]
 rw[if_neg h2];by_cases h3:r=4
 ·subst h3;simp[yW]
 rw[if_neg h3];rw[yW];simp;omega
theorem Wm {w:World} {i:Int} (h:i < 0\/4<=i):Calls Tryz.prog 178 #[.int .i64 1,.int .i64 i] w fun e w'=>e=.returned (.tuple #[.string ⟨#[]⟩,.int .i64 4])/\Below w.heap.size w w':=by
 have b0:Below w.heap.size w (w.alloc (.cells #[.int .i64 i] 3)):=(Below.refl _ w).alloc (Nat.le_refl _) _;have HC:=qh (fun b=>NZ (w:=w.alloc (.cells #[.int .i64 i] 3)) (m:=4) h (f:=208) (b:=b));have B0:=qh b0;clear b0;go_enter Tryz.func178,Tryz.ntmps178;go_wp2_with fail;refine(HC.o _).mono ?_;rintro e w1 ⟨rfl,rfl⟩;go_wp2
 go_ret2
 exact⟨rfl,B0.o⟩
theorem qct {w:World} (hW:xu w) (r:Int) (hr:dI r):Calls Tryz.prog 130 #[.int .i64 1,.int .i64 r] w fun e w'=>e=.returned (.string (XY r))/\Below w.heap.size w w':=by
 have hr2:-9223372036854775808<=r/\r<=9223372036854775807:=by simpa[dI,Lit.wf,IntKind.min,IntKind.max,IntKind.signed,IntKind.bits] using hr
 by_cases hin:1<=r/\r<=4
 ·have hc:r=1\/r=2\/r=3\/r=4:=by omega
  rcases hc with rfl|rfl|rfl|rfl
  ·exact vk (i:=0) (by omega) hW.object0 (by have:=hW.big;omega)
  ·exact vk (i:=1) (by omega) hW.object1 (by have:=hW.big;omega)
  ·exact vk (i:=2) (by omega) hW.object2 (by have:=hW.big;omega)
  ·exact vk (i:=3) (by omega) hW.object3 (by have:=hW.big;omega)
 ·have hS:XY r=⟨#[]⟩:=by
   unfold XY;rw[if_neg (by omega),if_neg (by omega),if_neg (by omega),if_neg (by omega)]
  rw[hS];obtain⟨j,hj⟩:∃j,j=max r 0 - 1:=⟨_,rfl⟩
  have q2:wrap64 (max r 0 - 1)=j:=by rw[IntWalk.wrap64_in _ (by omega),hj]
  have hmx:∀(ts:Array TypeId) (ty:TypeId) (X:World),(Builtin.max_ ts ty #[.int .i64 r,.int .i64 (0:Int)]).run Tryz.prog X=.ok (.int .i64 (max r 0)) X:=fun ts ty X=>by
   rw[run_max_int2];congr 2;split <;> omega
  have HC:=qh (Wm (w:=w) (i:=j) (by omega));clear hj hin;generalize hmr:max r 0=mr at *;clear hmr;go_enter Tryz.func130,Tryz.ntmps130;go_wp2_with fail;refine(HC.o).mono ?_;rintro e w1 ⟨rfl,hb⟩;have HB:=qh hb;clear hb;go_wp2;go_ret;exact⟨rfl,HB.o⟩
end
