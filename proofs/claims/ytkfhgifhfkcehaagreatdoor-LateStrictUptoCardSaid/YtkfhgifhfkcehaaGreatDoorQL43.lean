/- Parts of the proof, merged by program out of 4 texts (LaL, LaM, EoA, EoB): the first: Small things that the laws of the engines call: which programs are looked at; how many transactions. Conditions: those of each theorem, as typed. -/
import Derived.Test.YtkfhgifhfkcehaaGreatDoorQL30
import Derived.Test.YtkfhgifhfkcehaaGreatDoorQL19
set_option linter.unusedVariables false
set_option linter.unusedSimpArgs false
set_option linter.unusedSectionVars false
set_option maxRecDepth 100000
set_option maxHeartbeats 4000000
namespace Go.Proofs.YtkfhgifhfkcehaaGreatDoor
open Go.Maps Go.RowKit
section
attribute [local irreducible] wpL
def SmallRet (P:Pg) (w:World) (e:Ending) (w':World):Prop:=∃b:Bool,e=.returned (.bool b)∧(b=true→P.threads.length≤20)∧Below w.heap.size w w'
theorem l_small21 (vc vt:Value) (P:Pg) (w:World) (h:PgIs w w.heap.size vc vt P):
  Calls Tryz.prog 20 #[.agg #[vc,vt]] w (SmallRet P w):=by
 obtain⟨ac,cc,rfl,mc⟩:=h.cells.ex
 obtain⟨at',ct,rfl,mt⟩:=h.thr.ex
 have r0:=row_new w (.cells #[.slice ac P.cells.length cc,.slice at' P.threads.length ct] 25)
 have b0:Below w.heap.size w (w.alloc (.cells #[.slice ac P.cells.length cc,.slice at' P.threads.length ct] 25)):=(Below.refl _ w).alloc (Nat.le_refl _) _
 have H0:=hid ((h.below b0).more b0.size)
 have B0:=hid b0
 have z0:=row_lt r0
 clear h b0
 go_enter Tryz.func20,Tryz.ntmps20
 go_wp2_with fail
 generalize w.alloc (.cells #[.slice ac P.cells.length cc,.slice at' P.threads.length ct] 25)=W at *
 have d0:W.cell? ⟨w.heap.size,0,none⟩=some (.slice ac P.cells.length cc):=row_cell r0 0
 have d1:W.cell? ⟨w.heap.size,1,none⟩=some (.slice at' P.threads.length ct):=row_cell r0 1
 clear r0
 go_loop [3,4] (fun n i=>∃(k:Nat) (m:Int),k≤P.threads.length∧k≤21∧i=.int .i64 k∧n=.int .i64 m) (fun _ i=>21 - (intOf i).toNat)
 case atStart=>exact⟨0,0,by omega,by omega,by go_num,rfl⟩
 case round=>
  obtain⟨k,m,hk,hk2,rfl,rfl⟩:=hrel
  by_cases hlt:k < P.threads.length
  ·by_cases h20:k≤20
   ·obtain ⟨b,off,u,t,hat,hb,ht,hu,hut⟩:=H0.out.thr.at rfl hlt
    obtain⟨au,cu,rfl,mu⟩:=hut.ex
    have HUT:=hid hut
    subst hat
    clear hut ht
    obtain⟨q,hmin⟩:∃q:Int,∀(ts:Array TypeId) (ty:TypeId) (X:World),(Builtin.min_ ts ty #[.int .i64 (t.length:Int),.int .i64 100]).run Tryz.prog X=.ok (.int .i64 q) X:=⟨_,fun ts ty X=>run_min_int2 ..⟩
    go_wp2_with fail
    clear hmin
    go_loop [3,5] (fun n i=>∃(j:Nat) (m:Int),j≤t.length∧j≤21∧i=.int .i64 j∧n=.int .i64 m) (fun _ i=>21 - (intOf i).toNat)
    case atStart=>exact⟨0,_,by omega,by omega,by go_num,rfl⟩
    case round=>
     obtain⟨j,m2,hj,hj2,rfl,rfl⟩:=hrel
     by_cases hlj:j < t.length
     ·by_cases h20j:j≤20
      ·obtain ⟨b2,off2,u2,l,hal,hb2,hl2,hu2,hul⟩:=HUT.out.at rfl hlj
       obtain⟨al,cl,rfl,ml⟩:=Sl.ex (show Sl W W.heap.size 3 u2 l.length (l.flatMap Ac.cells) from hul)
       subst hal
       clear hul hl2
       obtain⟨q2,hmin⟩:∃q:Int,∀(ts:Array TypeId) (ty:TypeId) (X:World),(Builtin.min_ ts ty #[.int .i64 (l.length:Int),.int .i64 100]).run Tryz.prog X=.ok (.int .i64 q) X:=⟨_,fun ts ty X=>run_min_int2 ..⟩
       go_wp2_with fail
       go_round
       case rel=>exact⟨j+1,_,by omega,by omega,by go_num,rfl⟩
       case measure=>simp[intOf];omega
      ·obtain rfl:j=21:=by omega
       go_wp2_with fail
       go_round
       case rel=>exact⟨k+1,_,by omega,by omega,by go_num,rfl⟩
       case measure=>simp[intOf];omega
     ·obtain rfl:j=t.length:=by omega
      go_wp2_with fail
      go_round
      case rel=>exact⟨k+1,_,by omega,by omega,by go_num,rfl⟩
      case measure=>simp[intOf];omega
   ·obtain rfl:k=21:=by omega
    have q:decide (P.threads.length≤20)=false:=by simp;omega
    go_wp2
    go_ret
    exact⟨_,rfl,fun h=>by simp at h,B0.out⟩
  ·obtain rfl:k=P.threads.length:=by omega
   by_cases h20:P.threads.length≤20
   ·by_cases hc1:P.cells.length≤100
    ·go_wp2
     go_ret
     exact⟨_,rfl,fun _=>h20,B0.out⟩
    ·have q:decide (P.cells.length≤100)=false:=by simp;omega
     go_wp2
     go_ret
     exact⟨_,rfl,fun _=>h20,B0.out⟩
   ·have q:decide (P.threads.length≤20)=false:=by simp;omega
    go_wp2
    go_ret
    exact⟨_,rfl,fun h=>by simp at h,B0.out⟩
end
section
attribute [local irreducible] wpL
def ExPost (P:Pg) (w:World) (e:Ending) (w':World):Prop:=∃vc vt,e=.returned (.agg #[vc,vt])∧PgIs w' w'.heap.size vc vt P∧Below w.heap.size w w'
theorem sl_row {w:World} {g:Nat} {cs:Array Value} {t:TypeId} {sz n c:Nat} (h:w.heap[g]?=some (.cells cs t (0,0))) (hn:n≤9223372036854775807) (hs:cs.size=n*sz):Sl w w.heap.size sz (.slice (some ⟨g,0,none⟩) n c) n cs.toList:=
 ⟨_,_,rfl,hn,by simpa using hs,fun _=>⟨g,0,rfl,row_lt h,fun j u hu=>by rw[Nat.zero_add,row_cell h];simpa using hu⟩⟩
theorem isl_row1 {α:Type} {R:World→Nat→Value→α→Prop} {w:World} {g c:Nat} {u:Value} {t:TypeId} {x:α} (h:w.heap[g]?=some (.cells #[u] t (0,0))) (hu:R w w.heap.size u x):IsL R w w.heap.size (.slice (some ⟨g,0,none⟩) 1 c) [x]:=
 ⟨_,sl_row h (by decide) rfl,fun k v y hv hy=>by
  rcases k with _|k
  ·simp at hv hy;subst hv hy;exact hu
  ·simp at hy⟩
theorem isl_row2 {α:Type} {R:World→Nat→Value→α→Prop} {w:World} {g c:Nat} {u u':Value} {t:TypeId} {x x':α} (h:w.heap[g]?=some (.cells #[u,u'] t (0,0))) (hu:R w w.heap.size u x) (hu':R w w.heap.size u' x'):IsL R w w.heap.size (.slice (some ⟨g,0,none⟩) 2 c) [x,x']:=
 ⟨_,sl_row h (by decide) rfl,fun k v y hv hy=>by
  rcases k with _|_|k
  ·simp at hv hy;subst hv hy;exact hu
  ·simp at hv hy;subst hv hy;exact hu'
  ·simp at hy⟩
theorem l_ex21_1 (c:Int) (w:World):Calls Tryz.prog 84 #[.int .i64 c] w fun e w'=>e=.returned (.agg #[.int .i64 2,.int .i64 c,.int .i64 1])∧Below w.heap.size w w':=by
 go_enter Tryz.func84,Tryz.ntmps84
 go_wp2
 refine bodyPost_ret (v:=.agg #[.int .i64 2,.int .i64 c,.int .i64 1]) (by simp[results,Tryz.results84,go_sem]) rfl ⟨rfl,?_⟩
 exact(Below.refl w.heap.size w).alloc (Nat.le_refl _) _
theorem l_ex21_2 (c:Int) (w:World):Calls Tryz.prog 85 #[.int .i64 c] w fun e w'=>e=.returned (.agg #[.int .i64 1,.int .i64 c,.int .i64 0])∧Below w.heap.size w w':=by
 go_enter Tryz.func85,Tryz.ntmps85
 go_wp2
 refine bodyPost_ret (v:=.agg #[.int .i64 1,.int .i64 c,.int .i64 0]) (by simp[results,Tryz.results85,go_sem]) rfl ⟨rfl,?_⟩
 exact(Below.refl w.heap.size w).alloc (Nat.le_refl _) _
def exP21:Pg:=⟨[0,0],[[[⟨2,0,1⟩,⟨2,1,1⟩]],[[⟨1,0,0⟩,⟨1,1,0⟩]]]⟩
theorem l_ex21 (w:World):Calls Tryz.prog 48 #[] w (ExPost exP21 w):=by
 have b0:Below w.heap.size w ((w.alloc (.cells #[.slice none 0 0,.slice none 0 0] 25)).alloc (.cells #[.int .i64 0,.int .i64 0] 3)):=((Below.refl _ w).alloc (Nat.le_refl _) _).alloc (by simp) _
 have r0:=row_old (o:=.cells #[.int .i64 0,.int .i64 0] 3) (row_new w (.cells #[.slice none 0 0,.slice none 0 0] 25))
 have r1:=row_new' (w:=w.alloc (.cells #[.slice none 0 0,.slice none 0 0] 25)) (o:=.cells #[.int .i64 0,.int .i64 0] 3) (g:=w.heap.size+1) (by simp)
 go_enter Tryz.func48,Tryz.ntmps48
 go_wp2_with fail
 generalize (w.alloc (.cells #[.slice none 0 0,.slice none 0 0] 25)).alloc (.cells #[.int .i64 0,.int .i64 0] 3)=W at *
 refine(l_ex21_1 0 _).mono ?_
 rintro e W1 ⟨rfl,b1⟩
 go_wp2_with fail
 refine(l_ex21_1 1 _).mono ?_
 rintro e W2 ⟨rfl,b2⟩
 have b2:=b1.trans (b2.mono b1.size)
 have r0:=row_below r0 b2 (row_lt r0)
 have r1:=row_below r1 b2 (row_lt r1)
 have lw2:=row_lt r1
 have b2:=b0.trans (b2.mono b0.size)
 clear b0 b1
 have ra:=row_old (o:=.cells #[.slice (some ⟨W2.heap.size,0,none⟩) 2 2] 80) (row_new W2 (.cells #[.int .i64 2,.int .i64 0,.int .i64 1,.int .i64 2,.int .i64 1,.int .i64 1] 118))
 have rt:=row_new' (w:=W2.alloc (.cells #[.int .i64 2,.int .i64 0,.int .i64 1,.int .i64 2,.int .i64 1,.int .i64 1] 118)) (o:=.cells #[.slice (some ⟨W2.heap.size,0,none⟩) 2 2] 80) (g:=W2.heap.size+1) (by simp)
 have bx:Below W2.heap.size W2 ((W2.alloc (.cells #[.int .i64 2,.int .i64 0,.int .i64 1,.int .i64 2,.int .i64 1,.int .i64 1] 118)).alloc (.cells #[.slice (some ⟨W2.heap.size,0,none⟩) 2 2] 80)):=((Below.refl _ W2).alloc (Nat.le_refl _) _).alloc (by simp) _
 have r0:=row_below r0 bx (row_lt r0)
 have r1:=row_below r1 bx (row_lt r1)
 have b2:=b2.trans (bx.mono b2.size)
 go_wp2_with fail
 generalize (W2.alloc (.cells #[.int .i64 2,.int .i64 0,.int .i64 1,.int .i64 2,.int .i64 1,.int .i64 1] 118)).alloc (.cells #[.slice (some ⟨W2.heap.size,0,none⟩) 2 2] 80)=X at *
 refine(l_ex21_2 0 _).mono ?_
 rintro e W3 ⟨rfl,b3⟩
 go_wp2_with fail
 refine(l_ex21_2 1 _).mono ?_
 rintro e W4 ⟨rfl,b4⟩
 have b4:=b3.trans (b4.mono b3.size)
 have r0:=row_below r0 b4 (row_lt r0)
 have r1:=row_below r1 b4 (row_lt r1)
 have ra:=row_below ra b4 (row_lt ra)
 have rt:=row_below rt b4 (row_lt rt)
 have b5:=b2.trans (b4.mono b2.size)
 have l0:=row_lt r0
 have l1:w.heap.size < W4.heap.size+1:=by omega
 have l2:w.heap.size < W4.heap.size+1+1:=by omega
 have y0:=row_cell r0 0
 have y1:=row_cell r0 1
 simp at y0 y1
 have yf:∀j,W4.frozen? ⟨w.heap.size,j,none⟩=false:=fun j=>row_free r0 j
 have R0:=hid r0
 have R1:=hid r1
 have RA:=hid ra
 have RT:=hid rt
 have B5:=hid b5
 clear r0 r1 ra rt b2 b3 b4 b5 bx
 go_wp2
 have hsz:((W4.setCell ⟨w.heap.size,0,none⟩ (.slice (some ⟨w.heap.size+1,0,none⟩) 2 2)).setCell ⟨w.heap.size,1,none⟩ (.slice (some ⟨W4.heap.size+1+1,0,none⟩) 2 2)).heap.size=W4.heap.size:=by simp
 have hsz1:(((W4.setCell ⟨w.heap.size,0,none⟩ (.slice (some ⟨w.heap.size+1,0,none⟩) 2 2)).setCell ⟨w.heap.size,1,none⟩ (.slice (some ⟨W4.heap.size+1+1,0,none⟩) 2 2)).alloc (.cells #[.int .i64 1,.int .i64 0,.int .i64 0,.int .i64 1,.int .i64 1,.int .i64 0] 118)).heap.size=W4.heap.size+1:=by simp
 have hsz2:((((W4.setCell ⟨w.heap.size,0,none⟩ (.slice (some ⟨w.heap.size+1,0,none⟩) 2 2)).setCell ⟨w.heap.size,1,none⟩ (.slice (some ⟨W4.heap.size+1+1,0,none⟩) 2 2)).alloc (.cells #[.int .i64 1,.int .i64 0,.int .i64 0,.int .i64 1,.int .i64 1,.int .i64 0] 118)).alloc (.cells #[.slice (some ⟨W4.heap.size,0,none⟩) 2 2] 80)).heap.size=W4.heap.size+1+1:=by simp
 have nA:w.heap.size≠W2.heap.size:=by omega
 have nT:w.heap.size≠W2.heap.size+1:=by omega
 have k0:=row_old (o:=.cells #[.slice (some ⟨W2.heap.size+1,0,none⟩) 1 1,.slice (some ⟨W4.heap.size+1,0,none⟩) 1 1] 79) (row_old (o:=.cells #[.slice (some ⟨W4.heap.size,0,none⟩) 2 2] 80) (row_old (o:=.cells #[.int .i64 1,.int .i64 0,.int .i64 0,.int .i64 1,.int .i64 1,.int .i64 0] 118) (row_set (row_set R0.out 0 (.slice (some ⟨w.heap.size+1,0,none⟩) 2 2)) 1 (.slice (some ⟨W4.heap.size+1+1,0,none⟩) 2 2))))
 have k1:=row_old (o:=.cells #[.slice (some ⟨W2.heap.size+1,0,none⟩) 1 1,.slice (some ⟨W4.heap.size+1,0,none⟩) 1 1] 79) (row_old (o:=.cells #[.slice (some ⟨W4.heap.size,0,none⟩) 2 2] 80) (row_old (o:=.cells #[.int .i64 1,.int .i64 0,.int .i64 0,.int .i64 1,.int .i64 1,.int .i64 0] 118) (row_other (g':=w.heap.size) (j:=1) (v:=.slice (some ⟨W4.heap.size+1+1,0,none⟩) 2 2) (row_other (g':=w.heap.size) (j:=0) (v:=.slice (some ⟨w.heap.size+1,0,none⟩) 2 2) R1.out (by omega)) (by omega))))
 have ka:=row_old (o:=.cells #[.slice (some ⟨W2.heap.size+1,0,none⟩) 1 1,.slice (some ⟨W4.heap.size+1,0,none⟩) 1 1] 79) (row_old (o:=.cells #[.slice (some ⟨W4.heap.size,0,none⟩) 2 2] 80) (row_old (o:=.cells #[.int .i64 1,.int .i64 0,.int .i64 0,.int .i64 1,.int .i64 1,.int .i64 0] 118) (row_other (g':=w.heap.size) (j:=1) (v:=.slice (some ⟨W4.heap.size+1+1,0,none⟩) 2 2) (row_other (g':=w.heap.size) (j:=0) (v:=.slice (some ⟨w.heap.size+1,0,none⟩) 2 2) RA.out nA) nA)))
 have kt:=row_old (o:=.cells #[.slice (some ⟨W2.heap.size+1,0,none⟩) 1 1,.slice (some ⟨W4.heap.size+1,0,none⟩) 1 1] 79) (row_old (o:=.cells #[.slice (some ⟨W4.heap.size,0,none⟩) 2 2] 80) (row_old (o:=.cells #[.int .i64 1,.int .i64 0,.int .i64 0,.int .i64 1,.int .i64 1,.int .i64 0] 118) (row_other (g':=w.heap.size) (j:=1) (v:=.slice (some ⟨W4.heap.size+1+1,0,none⟩) 2 2) (row_other (g':=w.heap.size) (j:=0) (v:=.slice (some ⟨w.heap.size+1,0,none⟩) 2 2) RT.out nT) nT)))
 have ma:=row_old (o:=.cells #[.slice (some ⟨W2.heap.size+1,0,none⟩) 1 1,.slice (some ⟨W4.heap.size+1,0,none⟩) 1 1] 79) (row_old (o:=.cells #[.slice (some ⟨W4.heap.size,0,none⟩) 2 2] 80) (row_new' (o:=.cells #[.int .i64 1,.int .i64 0,.int .i64 0,.int .i64 1,.int .i64 1,.int .i64 0] 118) hsz.symm))
 have mt:=row_old (o:=.cells #[.slice (some ⟨W2.heap.size+1,0,none⟩) 1 1,.slice (some ⟨W4.heap.size+1,0,none⟩) 1 1] 79) (row_new' (o:=.cells #[.slice (some ⟨W4.heap.size,0,none⟩) 2 2] 80) hsz1.symm)
 have mh:=row_new' (o:=.cells #[.slice (some ⟨W2.heap.size+1,0,none⟩) 1 1,.slice (some ⟨W4.heap.size+1,0,none⟩) 1 1] 79) hsz2.symm
 have bz:Below w.heap.size w (((((W4.setCell ⟨w.heap.size,0,none⟩ (.slice (some ⟨w.heap.size+1,0,none⟩) 2 2)).setCell ⟨w.heap.size,1,none⟩ (.slice (some ⟨W4.heap.size+1+1,0,none⟩) 2 2)).alloc (.cells #[.int .i64 1,.int .i64 0,.int .i64 0,.int .i64 1,.int .i64 1,.int .i64 0] 118)).alloc (.cells #[.slice (some ⟨W4.heap.size,0,none⟩) 2 2] 80)).alloc (.cells #[.slice (some ⟨W2.heap.size+1,0,none⟩) 1 1,.slice (some ⟨W4.heap.size+1,0,none⟩) 1 1] 79)):=
  ((((B5.out.setCell (p:=⟨w.heap.size,0,none⟩) (Nat.le_refl _) _).setCell (p:=⟨w.heap.size,1,none⟩) (Nat.le_refl _) _).alloc (by omega) _).alloc (by omega) _).alloc (by omega) _
 generalize ((((W4.setCell ⟨w.heap.size,0,none⟩ (.slice (some ⟨w.heap.size+1,0,none⟩) 2 2)).setCell ⟨w.heap.size,1,none⟩ (.slice (some ⟨W4.heap.size+1+1,0,none⟩) 2 2)).alloc (.cells #[.int .i64 1,.int .i64 0,.int .i64 0,.int .i64 1,.int .i64 1,.int .i64 0] 118)).alloc (.cells #[.slice (some ⟨W4.heap.size,0,none⟩) 2 2] 80)).alloc (.cells #[.slice (some ⟨W2.heap.size+1,0,none⟩) 1 1,.slice (some ⟨W4.heap.size+1,0,none⟩) 1 1] 79)=Z at *
 have c0:=row_cell k0 0
 have c1:=row_cell k0 1
 simp at c0 c1
 refine bodyPost_ret (v:=.agg #[.slice (some ⟨w.heap.size+1,0,none⟩) 2 2,.slice (some ⟨W4.heap.size+1+1,0,none⟩) 2 2]) (by simp[results,Tryz.results48,go_sem,c0,c1]) rfl ⟨_,_,rfl,⟨sl_row k1 (by decide) rfl,?_⟩,bz⟩
 exact isl_row2 mh (isl_row1 kt (sl_row ka (by decide) rfl)) (isl_row1 mt (sl_row ma (by decide) rfl))
end
section
attribute [local irreducible] wpL
structure Ce where
 val:Int
 ver:Int
def Ce.cells (c:Ce):List Value:=[.int .i64 c.val,.int .i64 c.ver]
theorem Ce.len (c:Ce):c.cells.length=2:=rfl
abbrev Wo:=Option (MI×MI)
inductive Nx where
 |none
 |ends (abort:Bool)
 |look
 |ans (e:Ev)
structure LM where
 W:Wst
 cs:List Ce
 ws:List Wo
 nx:List Nx
def reactOf (e:Ev):Nx:=if e.kind=1 then .none else if e.kind=7 then .ends true else if e.kind=4 then .look else .ans e
def wrS (s:MI) (S:Int→Bool) (cs:List Ce):List Ce:=cs.mapIdx fun k c=>match fnd (k:Int) s with
 |some v=>if S k then c else⟨v,c.ver+1⟩
 |none=>c
def verAt (cs:List Ce) (k:Int):Int:=match cs[k.toNat]? with
 |some c=>c.ver
 |none=>0
def valAt (cs:List Ce) (k:Int):Int:=match cs[k.toNat]? with
 |some c=>c.val
 |none=>0
def stands (r:MI) (cs:List Ce):Bool:=r.all fun p=>verAt cs p.1==p.2
def ansStep (P:Pg) (M:LM) (i:Nat) (t:Th) (e:Ev) (r s:MI):LM:=
 if e.op=2 then {M with W:=M.W.putO i (ansOf P i t 0 false),ws:=M.ws.set i (some (r,upd e.obj e.val s))}
 else match fnd e.obj s with
  |some v=>{M with W:=M.W.putO i (ansOf P i t v false)}
  |none=>{M with W:=M.W.putO i (ansOf P i t (valAt M.cs e.obj) false),ws:=if (fnd e.obj r).isSome then M.ws else M.ws.set i (some (upd e.obj (verAt M.cs e.obj) r,s))}
def lookStep (P:Pg) (M:LM) (i:Nat) (t:Th) (r s:MI):LM×Nx:=
 if stands r M.cs=true then({M with cs:=wrS s (fun _=>false) M.cs},.ends false)
 else({M with W:=M.W.putO i (ansOf P i t 0 true)},.none)
def ownStep (P:Pg) (M:LM) (i:Nat) (t:Th):LM×Nx:=
 match nextOf P i t with
 |none=>(M,.none)
 |some y=>({M with W:=M.W.put i y,ws:=if y.2.kind=1 then M.ws.set i (some ([],[])) else M.ws},reactOf y.2)
def doStep (P:Pg) (M:LM) (i:Nat) (t:Th) (x:Nx) (r s:MI):LM×Nx:=
 match x with
 |.none=>ownStep P M i t
 |.ends b=>({M with W:=M.W.putO i (ansOf P i t 0 b)},.none)
 |.look=>lookStep P M i t r s
 |.ans e=>(ansStep P M i t e r s,.none)
structure LC where
 B:Nat
 bM:Nat
 bD:Nat
 bW:Nat
 gT:Nat
 gN:Nat
 gW:Nat
 vc:Value
 vt:Value
 pc:Value
 pt:Value
 ce:Value
 F:Nat→Array Value→Prop
abbrev LC.rf (C:LC):Value:=.func (.func 136) #[.pointer (some ⟨C.bM,0,none⟩)] #[]
def WoAt (w:World) (B:Nat) (u:Value×Value):Wo→Prop
 |none=>u=(.map none,.map none)
 |some (r,s)=>∃br bs,u=(.map (some br),.map (some bs))∧B≤br∧B≤bs∧br≠bs∧IsMI w br r.length r∧IsMI w bs s.length s∧KCe r∧KSrt r∧KCe s∧KSrt s
def NxAt (w:World) (C:LC) (i:Nat) (ve v:Value):Nx→Prop
 |.none=>v=.nilFunc
 |.ends true=>∃p1 p2,v=.func (.func 178) #[] #[.pointer (some ⟨p1,0,none⟩),.pointer (some ⟨p2,0,none⟩)]∧w.heap[p1]?=some (.cells #[.pointer (some ⟨C.bM,0,none⟩)] 165 (0,0))∧w.heap[p2]?=some (.cells #[.int .i64 i] 3 (0,0))∧C.B≤p1∧C.B≤p2
 |.ends false=>∃p1 p2,v=.func (.func 229) #[] #[.pointer (some ⟨p1,0,none⟩),.pointer (some ⟨p2,0,none⟩)]∧w.heap[p1]?=some (.cells #[.pointer (some ⟨C.bM,0,none⟩)] 165 (0,0))∧w.heap[p2]?=some (.cells #[.int .i64 i] 3 (0,0))∧C.B≤p1∧C.B≤p2
 |.look=>∃p1 p2,v=.func (.func 180) #[] #[.pointer (some ⟨p1,0,none⟩),.pointer (some ⟨p2,0,none⟩)]∧w.heap[p1]?=some (.cells #[.pointer (some ⟨C.bM,0,none⟩)] 165 (0,0))∧w.heap[p2]?=some (.cells #[.int .i64 i] 3 (0,0))∧C.B≤p1∧C.B≤p2
 |.ans e=>∃p1 p2 p3,v=.func (.func 182) #[] #[.pointer (some ⟨p1,0,none⟩),.pointer (some ⟨p2,0,none⟩),.pointer (some ⟨p3,0,none⟩)]∧w.heap[p1]?=some (.cells #[.pointer (some ⟨C.bM,0,none⟩)] 165 (0,0))∧w.heap[p2]?=some (.cells #[.int .i64 i] 3 (0,0))∧w.heap[p3]?=some (.cells e.cells.toArray 53 (0,0))∧ve.ownBlock≠some p3∧C.B≤p1∧C.B≤p2∧C.B≤p3
structure WksAt (w:World) (C:LC) (n:Nat) (us:List (Value×Value)) (ws:List Wo):Prop where
 own:OwnF moC 308 2 w C.B (.slice (some ⟨C.gW,0,none⟩) n n) us
 len:ws.length=n
 maps:∀(i:Nat) (u:Value×Value) (o:Wo),us[i]?=some u→ws[i]?=some o→WoAt w C.B u o
 apart:∀(i j:Nat) (u u':Value×Value),us[i]?=some u→us[j]?=some u'→i≠j→∀b,mbs u b→¬mbs u' b
structure LaAt (w:World) (C:LC) (ve:Value) (us:List (Value×Value)) (P:Pg) (M:LM):Prop where
 row:w.heap[C.bM]?=some (.cells #[.pointer (some ⟨C.bD,0,none⟩),C.ce,.slice (some ⟨C.gW,0,none⟩) P.threads.length P.threads.length] 251 (0,0))
 hB:C.B≤C.bM
 dr:∃vs,DrAt w C.B C.bD C.bW C.gT C.gN C.vc C.vt ve C.pc C.pt C.rf P M.W vs∧M.nx.length=P.threads.length∧∀(i:Nat) (v:Value) (x:Nx),vs[i]?=some v→M.nx[i]?=some x→NxAt w C i ve v x
 cells:OwnF Ce.cells 253 2 w C.B C.ce M.cs
 clen:M.cs.length=P.cells.length
 wks:WksAt w C P.threads.length us M.ws
 fr:∀(k:Nat) (cs:Array Value),C.F k cs→w.heap[k]?=some (.cells cs 37 (0,0))
section
variable {w w':World} {C:LC} {ve ve':Value} {P:Pg} {M:LM} {us:List (Value×Value)}
theorem NxAt.keep {i:Nat} {v:Value} {x:Nx} (h:NxAt w C i ve v x)
  (h1:∀(p:Nat) (u:Value),w.heap[p]?=some (.cells #[u] 165 (0,0))→w'.heap[p]?=some (.cells #[u] 165 (0,0)))
  (h2:∀(p:Nat) (u:Value),w.heap[p]?=some (.cells #[u] 3 (0,0))→w'.heap[p]?=some (.cells #[u] 3 (0,0)))
  (h3:∀(p:Nat) (cs:Array Value),w.heap[p]?=some (.cells cs 53 (0,0))→ve.ownBlock≠some p→w'.heap[p]?=some (.cells cs 53 (0,0))∧ve'.ownBlock≠some p):NxAt w' C i ve' v x:=by
 cases x with
 |none=>exact h
 |ends b=>
  cases b
  ·obtain ⟨p1,p2,hv,k1,k2,r⟩:=h
   exact⟨p1,p2,hv,h1 _ _ k1,h2 _ _ k2,r⟩
  ·obtain ⟨p1,p2,hv,k1,k2,r⟩:=h
   exact⟨p1,p2,hv,h1 _ _ k1,h2 _ _ k2,r⟩
 |look=>
  obtain⟨p1,p2,hv,k1,k2,r⟩:=h
  exact⟨p1,p2,hv,h1 _ _ k1,h2 _ _ k2,r⟩
 |ans e=>
  obtain⟨p1,p2,p3,hv,k1,k2,k3,k4,r⟩:=h
  obtain⟨k5,k6⟩:=h3 _ _ k3 k4
  exact⟨p1,p2,p3,hv,h1 _ _ k1,h2 _ _ k2,k5,k6,r⟩
theorem WoAt.keep {B:Nat} {u:Value×Value} {o:Wo} (h:WoAt w B u o) (hk:∀b:Nat,mbs u b→w'.heap[b]?=w.heap[b]?):WoAt w' B u o:=by
 cases o with
 |none=>exact h
 |some p=>
  obtain⟨br,bs,rfl,h1,h2,h3,h6,h7,h8⟩:=h
  exact⟨br,bs,rfl,h1,h2,h3,h6.obj (hk br (.inl rfl)),h7.obj (hk bs (.inr rfl)),h8⟩
theorem WoAt.isMap {B:Nat} {u:Value×Value} {o:Wo} (h:WoAt w B u o):∀b,mbs u b→B≤b∧∃es c,w.heap[b]?=some (.map es c):=by
 cases o with
 |none=>
  obtain rfl:=h
  rintro b (h|h) <;> cases h
 |some p=>
  obtain⟨br,bs,rfl,h1,h2,h3,⟨es,c,h6,-⟩,⟨es',c',h7,-⟩,h8⟩:=h
  rintro b (h|h)
  ·cases h;exact⟨h1,es,c,h6⟩
  ·cases h;exact⟨h2,es',c',h7⟩
theorem WksAt.at {n:Nat} {us:List (Value×Value)} {ws:List Wo} (h:WksAt w C n us ws) {i:Nat} {u:Value×Value} (hu:us[i]?=some u):∃o,ws[i]?=some o∧WoAt w C.B u o:=by
 have hl:=h.own.len
 have hi:i < us.length:=(List.getElem?_eq_some_iff.1 hu).1
 obtain⟨o,ho⟩:∃o,ws[i]?=some o:=⟨_,List.getElem?_eq_getElem (by rw[h.len];omega)⟩
 exact⟨o,ho,h.maps i u o hu ho⟩
theorem WksAt.keep {n:Nat} {us:List (Value×Value)} {ws:List Wo} (h:WksAt w C n us ws)
  (h1:OwnF moC 308 2 w' C.B (.slice (some ⟨C.gW,0,none⟩) n n) us)
  (hk:∀(b:Nat) (es:Array MapEntry) (c:Nat),w.heap[b]?=some (.map es c)→w'.heap[b]?=some (.map es c)):WksAt w' C n us ws:=
 ⟨h1,h.len,fun i u o hu ho=>(h.maps i u o hu ho).keep fun b hb=>by
  obtain⟨-,es,c,hm⟩:=(h.maps i u o hu ho).isMap b hb
  rw[hk b es c hm,hm],h.apart⟩
theorem LaAt.below (h:LaAt w C ve us P M) (hb:Below w.heap.size w w'):LaAt w' C ve us P M:=by
 obtain⟨vs,h1,h2,h3⟩:=h.dr
 refine⟨row_below h.row hb (row_lt h.row),h.hB,⟨vs,h1.below hb,h2,fun i v x hv hx=>NxAt.keep (h3 i v x hv hx) (fun p u hp=>row_below hp hb (row_lt hp)) (fun p u hp=>row_below hp hb (row_lt hp)) fun p cs hp he=>⟨row_below hp hb (row_lt hp),he⟩⟩,OwnF.below h.cells hb,h.clen,?_,fun k cs hf=>row_below (h.fr k cs hf) hb (row_lt (h.fr k cs hf))⟩
 exact h.wks.keep (OwnF.below h.wks.own hb) fun b es c hm=>row_below hm hb (row_lt hm)
theorem LaAt.walked {S':Wst} (h:LaAt w C ve us P M) (hk:Kp Mw ve w w') (hw:WkAt w' C.B C.bW C.gT C.vc C.vt ve' P S') (ho:∀k,ve'.ownBlock=some k→ve.ownBlock=some k∨w.heap.size≤k):LaAt w' C ve' us P {M with W:=S'}:=by
 obtain⟨vs,h1,h2,h3⟩:=h.dr
 refine⟨hk.rowW h.row (by decide) (by decide) (by decide),h.hB,⟨vs,h1.walked hk hw,h2,fun i v x hv hx=>NxAt.keep (h3 i v x hv hx) (fun p u hp=>hk.rowW hp (by decide) (by decide) (by decide)) (fun p u hp=>hk.rowW hp (by decide) (by decide) (by decide)) fun p cs hp he=>⟨hk.cells p cs _ _ hp (by unfold Mw;decide) (fun _=>he),fun e=>?_⟩⟩,OwnF.kpW h.cells hk (by decide) (by decide) (by decide),h.clen,?_,fun k cs hf=>hk.rowW (h.fr k cs hf) (by decide) (by decide) (by decide)⟩
 ·rcases ho p e with h|h
  ·exact he h
  ·have:=row_lt hp;omega
 ·exact h.wks.keep (OwnF.kpW h.wks.own hk (by decide) (by decide) (by decide)) fun b es c hm=>hk.maps b es c hm
end
section
variable {w w' w1:World} {C:LC} {ve ve':Value} {P:Pg} {M:LM} {us:List (Value×Value)} {T T':TypeId→Prop}
def Ml (t:TypeId):Prop:=t=253∨t=308
theorem WkAt.kd {B bW gT:Nat} {vc vt:Value} {S:Wst} (h:WkAt w B bW gT vc vt ve P S) (hk:Kd Ml w w'):WkAt w' B bW gT vc vt ve P S:=
 ⟨hk _ _ _ _ h.row (by unfold Ml;decide),h.hB,OwnF.kd h.cells hk (by unfold Ml;decide),h.thr.kd hk (by unfold Ml;decide) (by unfold Ml;decide) (by unfold Ml;decide),OwnF.kd h.ths hk (by unfold Ml;decide),OwnF.kd h.evs hk (by unfold Ml;decide),h.ok,h.tok⟩
theorem DrAt.kd {B bD bW gT gN:Nat} {vc vt pc pt rf:Value} {S:Wst} {nx:List Value} (h:DrAt w B bD bW gT gN vc vt ve pc pt rf P S nx) (hk:Kd Ml w w'):DrAt w' B bD bW gT gN vc vt ve pc pt rf P S nx:=
 ⟨hk _ _ _ _ h.row (by unfold Ml;decide),h.hB,h.walk.kd hk,OwnF.kd h.pcells hk (by unfold Ml;decide),h.pthr.kd hk (by unfold Ml;decide) (by unfold Ml;decide) (by unfold Ml;decide),OwnF.kd h.next hk (by unfold Ml;decide)⟩
theorem LaAt.turn {us':List (Value×Value)} {cs':List Ce} {ws':List Wo} (h:LaAt w C ve us P M) (hk:Kd Ml w w') (hce:OwnF Ce.cells 253 2 w' C.B C.ce cs') (hcl:cs'.length=P.cells.length) (hwk:WksAt w' C P.threads.length us' ws'):LaAt w' C ve us' P {M with cs:=cs',ws:=ws'}:=by
 obtain⟨vs,h1,h2,h3⟩:=h.dr
 exact⟨hk _ _ _ _ h.row (by unfold Ml;decide),h.hB,⟨vs,h1.kd hk,h2,fun i v x hv hx=>NxAt.keep (h3 i v x hv hx) (fun p u hp=>hk _ _ _ _ hp (by unfold Ml;decide)) (fun p u hp=>hk _ _ _ _ hp (by unfold Ml;decide)) fun p cs hp he=>⟨hk _ _ _ _ hp (by unfold Ml;decide),he⟩⟩,hce,hcl,hwk,fun k cs hf=>hk _ _ _ _ (h.fr k cs hf) (by unfold Ml;decide)⟩
theorem LaAt.frame (h:LaAt w C ve us P M) {F':Nat→Array Value→Prop} (hf:∀(k:Nat) (cs:Array Value),F' k cs→w.heap[k]?=some (.cells cs 37 (0,0))):LaAt w {C with F:=F'} ve us P M:=by
 obtain⟨vs,h1,h2,h3⟩:=h.dr
 refine⟨h.row,h.hB,⟨vs,h1,h2,fun i v x hv hx=>?_⟩,h.cells,h.clen,⟨h.wks.own,h.wks.len,h.wks.maps,h.wks.apart⟩,hf⟩
 have:=h3 i v x hv hx
 cases x with
 |none=>exact this
 |ends b=>cases b <;> exact this
 |look=>exact this
 |ans e=>exact this
theorem WksAt.store {n:Nat} {ws:List Wo} (h:WksAt w C n us ws) {i b:Nat} {u:Value×Value} {o':Wo} (hu:us[i]?=some u) (hb:mbs u b) (ht:w.mapTurned w' b) (hw:WoAt w' C.B u o'):WksAt w' C n us (ws.set i o'):=by
 refine⟨OwnF.kd h.own (Kd.turned (T:=fun _=>False) ht) (fun h=>h),by rw[List.length_set];exact h.len,fun j v o hv ho=>?_,h.apart⟩
 by_cases e:i=j
 ·subst e
  rw[hu] at hv
  obtain rfl:=Option.some.inj hv
  rw[List.getElem?_set_self (by have:=(List.getElem?_eq_some_iff.1 ho).1;simpa using this)] at ho
  rw[←Option.some.inj ho]
  exact hw
 ·rw [List.getElem?_set_ne e] at ho
  refine(h.maps j v o hv ho).keep fun b' hb'=>turned_other ht ?_
  rintro rfl
  exact h.apart i j u v hu hv e _ hb hb'
theorem WksAt.begin {n:Nat} {ws:List Wo} (h:WksAt w C n us ws) {i:Nat} {u:Value×Value} {o':Wo} (hm:KmAll w w') (h1:OwnF moC 308 2 w' C.B (.slice (some ⟨C.gW,0,none⟩) n n) (us.set i u)) (hnew:∀b,mbs u b→w.heap.size≤b) (hw:WoAt w' C.B u o'):WksAt w' C n (us.set i u) (ws.set i o'):=by
 refine⟨h1,by rw[List.length_set];exact h.len,fun j v o hv ho=>?_,fun j k v v' hv hv' hne b hb hb'=>?_⟩
 ·by_cases e:i=j
  ·subst e
   rw[List.getElem?_set_self (by have:=(List.getElem?_eq_some_iff.1 ho).1;simpa using this)] at ho
   rw[List.getElem?_set_self (by have:=(List.getElem?_eq_some_iff.1 hv).1;simpa using this)] at hv
   rw[←Option.some.inj ho,←Option.some.inj hv]
   exact hw
  ·rw [List.getElem?_set_ne e] at ho hv
   refine(h.maps j v o hv ho).keep fun b' hb'=>?_
   obtain⟨-,es,c,hh⟩:=(h.maps j v o hv ho).isMap b' hb'
   rw[hm _ _ _ hh,hh]
 ·have old:∀(j:Nat) (v:Value×Value),us[j]?=some v→∀b,mbs v b→b < w.heap.size:=fun j v hv b hb=>by
   obtain⟨o,-,ho⟩:=h.at hv
   obtain⟨-,es,c,hh⟩:=ho.isMap b hb
   exact row_lt hh
  by_cases e:i=j
  ·subst e
   rw[List.getElem?_set_self (by have:=(List.getElem?_eq_some_iff.1 hv).1;simpa using this)] at hv
   rw[List.getElem?_set_ne hne] at hv'
   obtain rfl:=Option.some.inj hv
   have:=hnew b hb
   have:=old k v' hv' b hb'
   omega
  ·rw [List.getElem?_set_ne e] at hv
   by_cases e2:i=k
   ·subst e2
    rw[List.getElem?_set_self (by have:=(List.getElem?_eq_some_iff.1 hv').1;simpa using this)] at hv'
    obtain rfl:=Option.some.inj hv'
    have:=hnew b hb'
    have:=old j v hv b hb
    omega
   ·rw [List.getElem?_set_ne e2] at hv'
    exact h.apart j k v v' hv hv' hne b hb hb'
end
end
section
attribute [local irreducible] wpL
def LaPost (C:LC) (P:Pg) (M':LM) (v:Value) (w:World) (e:Ending) (w':World):Prop:=e=.returned v∧Below C.B w w'∧∃ve' us',LaAt w' C ve' us' P M'
theorem putO_len {s:Wst} {i:Nat} {y:Option (Th×Ev)}:s.evs.length≤(s.putO i y).evs.length:=by
 cases y <;> simp[Wst.putO,Wst.put]
theorem PgOk.acVal {P:Pg} (h:PgOk P) {i:Nat} (hi:i < P.threads.length) {k j:Nat} {a:Ac} (ha:(P.acts i k)[j]?=some a):-1000≤a.val∧a.val≤1000:=by
 unfold Pg.acts Pg.txs at ha
 obtain⟨x,hx⟩:∃x,P.threads[i]?=some x:=⟨_,List.getElem?_eq_getElem hi⟩
 simp only[List.getD_eq_getElem?_getD,hx,Option.getD_some] at ha
 cases hl:x[k]? with
 |none=>rw[hl] at ha;simp at ha
 |some l=>
  rw[hl,Option.getD_some] at ha
  rcases h.act x (List.mem_of_getElem? hx) l (List.mem_of_getElem? hl) j a ha with h|h <;> omega
section
variable {w:World} {C:LC} {ve:Value} {P:Pg} {M:LM} {us:List (Value×Value)}
theorem LaAt.size (h:LaAt w C ve us P M):C.B≤w.heap.size:=by have:=row_lt h.row;have:=h.hB;omega
theorem LaAt.ok (h:LaAt w C ve us P M):PgOk P:=let ⟨_,h1,_⟩:=h.dr;h1.walk.ok
theorem la_said (h:LaAt w C ve us P M) (i:Nat) (hi:i < P.threads.length) {t:Th} (ht:M.W.ths[i]?=some t) (val:Int) (abort:Bool) (hv:-999999000≤val∧val≤999999000) (hl:M.W.evs.length≤100000):
  Calls Tryz.prog 106 #[.pointer (some ⟨C.bD,0,none⟩),.int .i64 i,.int .i64 val,.bool abort] w (LaPost C P {M with W:=M.W.putO i (ansOf P i t val abort)} (.tuple #[]) w):=by
 obtain⟨vs,h1,h2,h3⟩:=h.dr
 have hok:=h.ok
 refine(d_answer h1 h.size i hi ht val abort (by simp[within9];omega) (fun a ha _ _=>by have:=hok.acVal hi ha;simp[within9];omega) hl).mono ?_
 rintro e w1 ⟨rfl,hb,hk,ve',hd,ho⟩
 refine⟨rfl,hb,ve',us,?_⟩
 cases hr:ansOf P i t val abort with
 |none=>rw[hr] at hd;exact h.walked hk hd.walk ho
 |some y=>rw[hr] at hd;exact h.walked hk hd.walk ho
theorem la_ends (h:LaAt w C ve us P M) (i:Nat) (hi:i < P.threads.length) {t:Th} (ht:M.W.ths[i]?=some t) (abort:Bool) (hl:M.W.evs.length≤100000):
  Calls Tryz.prog 179 #[.pointer (some ⟨C.bM,0,none⟩),.int .i64 i,.bool abort] w (LaPost C P {M with W:=M.W.putO i (ansOf P i t 0 abort)} .nilFunc w):=by
 have d0:=row_cell h.row 0
 have lM:=row_lt h.row
 have H:=hid h
 clear h
 go_enter Tryz.func179,Tryz.ntmps179
 go_wp2_with fail
 refine(la_said H.out i hi ht 0 abort (by omega) hl).mono ?_
 rintro e w1 ⟨rfl,hb,ve',us',hla⟩
 have HB:=hid hb
 have HL:=hid hla
 clear hb hla d0
 go_wp2
 go_ret
 exact⟨rfl,HB.out,ve',us',HL.out⟩
theorem la_end1 (h:LaAt w C ve us P M) (i:Nat) (hi:i < P.threads.length) {t:Th} (ht:M.W.ths[i]?=some t) (hl:M.W.evs.length≤100000) {p1 p2:Nat} (h1:w.heap[p1]?=some (.cells #[.pointer (some ⟨C.bM,0,none⟩)] 165 (0,0))) (h2:w.heap[p2]?=some (.cells #[.int .i64 i] 3 (0,0))):
  Calls Tryz.prog 178 #[.pointer (some ⟨p1,0,none⟩),.pointer (some ⟨p2,0,none⟩)] w (LaPost C P {M with W:=M.W.putO i (ansOf P i t 0 true)} .nilFunc w):=by
 have d0:=row_cell h1 0
 have d1:=row_cell h2 0
 have l0:=row_lt h1
 have l1:=row_lt h2
 have H:=hid h
 clear h h1 h2
 go_enter Tryz.func178,Tryz.ntmps178
 go_wp2_with fail
 refine(la_ends H.out i hi ht true hl).mono ?_
 rintro e w1 ⟨rfl,hb,ve',us',hla⟩
 have HB:=hid hb
 have HL:=hid hla
 clear hb hla d0 d1
 go_wp2
 go_ret
 exact⟨rfl,HB.out,ve',us',HL.out⟩
theorem la_end2 (h:LaAt w C ve us P M) (i:Nat) (hi:i < P.threads.length) {t:Th} (ht:M.W.ths[i]?=some t) (hl:M.W.evs.length≤100000) {p1 p2:Nat} (h1:w.heap[p1]?=some (.cells #[.pointer (some ⟨C.bM,0,none⟩)] 165 (0,0))) (h2:w.heap[p2]?=some (.cells #[.int .i64 i] 3 (0,0))):
  Calls Tryz.prog 229 #[.pointer (some ⟨p1,0,none⟩),.pointer (some ⟨p2,0,none⟩)] w (LaPost C P {M with W:=M.W.putO i (ansOf P i t 0 false)} .nilFunc w):=by
 have d0:=row_cell h1 0
 have d1:=row_cell h2 0
 have l0:=row_lt h1
 have l1:=row_lt h2
 have H:=hid h
 clear h h1 h2
 go_enter Tryz.func229,Tryz.ntmps229
 go_wp2_with fail
 refine(la_ends H.out i hi ht false hl).mono ?_
 rintro e w1 ⟨rfl,hb,ve',us',hla⟩
 have HB:=hid hb
 have HL:=hid hla
 clear hb hla d0 d1
 go_wp2
 go_ret
 exact⟨rfl,HB.out,ve',us',HL.out⟩
end
end
