/- Parts of the proof; the first: Small things that the laws of the engines call: which programs are looked at; how many transactions. Conditions: those of each theorem, as typed. -/
import Derived.Test.YtkfhgifhfkcehaaGreatDoorQO18
import Derived.Test.YtkfhgifhfkcehaaGreatDoorQO02
import Derived.Test.YtkfhgifhfkcehaaGreatDoorQO11
import Derived.Deep.LoopGhost
set_option linter.unusedVariables false
set_option linter.unusedSimpArgs false
set_option linter.unusedSectionVars false
set_option maxRecDepth 100000
set_option maxHeartbeats 4000000
namespace Go.Proofs.YtkfhgifhfkcehaaGreatDoor
open Go.Maps Go.RowKit
section
attribute [local irreducible] xF
def SmallRet (P:Pg) (w:World) (e:Ending) (w':World):Prop:=∃b:Bool,e=.returned (.bool b)/\(b=true->P.threads.length<=20)/\Below w.heap.size w w'
theorem l_small20 (vc vt:Value) (P:Pg) (w:World) (h:PgIs w w.heap.size vc vt P):
  Calls Tryz.prog 8 #[.agg #[vc,vt]] w (SmallRet P w):=by
 obtain⟨ac,cc,rfl,mc⟩:=h.cells.ex;obtain⟨at',ct,rfl,mt⟩:=h.thr.ex;have r0:=qu w (.cells #[.slice ac P.cells.length cc,.slice at' P.threads.length ct] 25);have b0:Below w.heap.size w (w.alloc (.cells #[.slice ac P.cells.length cc,.slice at' P.threads.length ct] 25)):=(Below.refl _ w).alloc (Nat.le_refl _) _;have H0:=qh ((h.below b0).more b0.size);have B0:=qh b0;have z0:=qg r0;clear h b0;go_enter Tryz.func8,Tryz.ntmps8;go_wp2_with fail;generalize w.alloc (.cells #[.slice ac P.cells.length cc,.slice at' P.threads.length ct] 25)=W at *;have d0:W.cell? ⟨w.heap.size,0,none⟩=some (.slice ac P.cells.length cc):=qd r0 0;have d1:W.cell? ⟨w.heap.size,1,none⟩=some (.slice at' P.threads.length ct):=qd r0 1;clear r0
 go_loop [3,4] (fun n i=>∃(k:Nat) (m:Int),k<=P.threads.length/\k<=21/\i=.int .i64 k/\n=.int .i64 m) (fun _ i=>21 - (intOf i).toNat)
 case atStart=>exact⟨0,0,by omega,by omega,by go_num,rfl⟩
 case round=>
  obtain⟨k,m,hk,hk2,rfl,rfl⟩:=hrel;by_cases hlt:k < P.threads.length
  ·by_cases h20:k<=20
   ·obtain ⟨b,off,u,t,hat,hb,ht,hu,hut⟩:=H0.o.thr.at rfl hlt
    obtain⟨au,cu,rfl,mu⟩:=hut.ex;have HUT:=qh hut;subst hat;clear hut ht;obtain⟨q,hmin⟩:∃q:Int,∀(ts:Array TypeId) (ty:TypeId) (X:World),(Builtin.min_ ts ty #[.int .i64 (t.length:Int),.int .i64 100]).run Tryz.prog X=.ok (.int .i64 q) X:=⟨_,fun ts ty X=>run_min_int2 ..⟩
    go_wp2_with fail;clear hmin
    go_loop [3,5] (fun n i=>∃(j:Nat) (m:Int),j<=t.length/\j<=21/\i=.int .i64 j/\n=.int .i64 m) (fun _ i=>21 - (intOf i).toNat)
    case atStart=>exact⟨0,_,by omega,by omega,by go_num,rfl⟩
    case round=>
     obtain⟨j,m2,hj,hj2,rfl,rfl⟩:=hrel;by_cases hlj:j < t.length
     ·by_cases h20j:j<=20
      ·obtain ⟨b2,off2,u2,l,hal,hb2,hl2,hu2,hul⟩:=HUT.o.at rfl hlj
       obtain⟨al,cl,rfl,ml⟩:=Sl.ex (show Sl W W.heap.size 3 u2 l.length (l.flatMap Ac.cells) from hul);subst hal;clear hul hl2;obtain⟨q2,hmin⟩:∃q:Int,∀(ts:Array TypeId) (ty:TypeId) (X:World),(Builtin.min_ ts ty #[.int .i64 (l.length:Int),.int .i64 100]).run Tryz.prog X=.ok (.int .i64 q) X:=⟨_,fun ts ty X=>run_min_int2 ..⟩
       go_wp2_with fail
       go_round
       case rel=>exact⟨j+1,_,by omega,by omega,by go_num,rfl⟩
       case measure=>simp[intOf];omega
      ·obtain rfl:j=21:=by omega
       go_wp2_with fail
       go_round
       case rel=>exact⟨k+1,_,by omega,by omega,by go_num,rfl⟩
       case measure=>simp[intOf];omega
     ·obtain rfl:j=t.length:=by omega
      go_wp2_with fail
      go_round
      case rel=>exact⟨k+1,_,by omega,by omega,by go_num,rfl⟩
      case measure=>simp[intOf];omega
   ·obtain rfl:k=21:=by omega
    have q:decide (P.threads.length<=20)=false:=by simp;omega
    go_wp2;go_ret;exact⟨_,rfl,fun h=>by simp at h,B0.o⟩
  ·obtain rfl:k=P.threads.length:=by omega
   by_cases h20:P.threads.length<=20
   ·by_cases hc1:P.cells.length<=100
    ·go_wp2
     go_ret;exact⟨_,rfl,fun _=>h20,B0.o⟩
    ·have q:decide (P.cells.length<=100)=false:=by simp;omega
     go_wp2;go_ret;exact⟨_,rfl,fun _=>h20,B0.o⟩
   ·have q:decide (P.threads.length<=20)=false:=by simp;omega
    go_wp2;go_ret;exact⟨_,rfl,fun h=>by simp at h,B0.o⟩
end
section
attribute [local irreducible] xF
def ExPost (P:Pg) (w:World) (e:Ending) (w':World):Prop:=∃vc vt,e=.returned (.agg #[vc,vt])/\PgIs w' w'.heap.size vc vt P/\Below w.heap.size w w'
theorem sl_row {w:World} {g:Nat} {cs:Array Value} {t:TypeId} {sz n c:Nat} (h:w.heap[g]?=some (.cells cs t (0,0))) (hn:n<=9223372036854775807) (hs:cs.size=n*sz):Sl w w.heap.size sz (.slice (some ⟨g,0,none⟩) n c) n cs.toList:=
 ⟨_,_,rfl,hn,by simpa using hs,fun _=>⟨g,0,rfl,qg h,fun j u hu=>by rw[Nat.zero_add,qd h];simpa using hu⟩⟩
theorem isl_row1 {α:Type} {R:World->Nat->Value->α->Prop} {w:World} {g c:Nat} {u:Value} {t:TypeId} {x:α} (h:w.heap[g]?=some (.cells #[u] t (0,0))) (hu:R w w.heap.size u x):IsL R w w.heap.size (.slice (some ⟨g,0,none⟩) 1 c) [x]:=
 ⟨_,sl_row h (by decide) rfl,fun k v y hv hy=>by
  rcases k with _|k
  ·simp at hv hy;subst hv hy;exact hu
  ·simp at hy⟩
theorem isl_row2 {α:Type} {R:World->Nat->Value->α->Prop} {w:World} {g c:Nat} {u u':Value} {t:TypeId} {x x':α} (h:w.heap[g]?=some (.cells #[u,u'] t (0,0))) (hu:R w w.heap.size u x) (hu':R w w.heap.size u' x'):IsL R w w.heap.size (.slice (some ⟨g,0,none⟩) 2 c) [x,x']:=
 ⟨_,sl_row h (by decide) rfl,fun k v y hv hy=>by
  rcases k with _|_|k
  ·simp at hv hy;subst hv hy;exact hu
  ·simp at hv hy;subst hv hy;exact hu'
  ·simp at hy⟩
theorem l_ex20_1 (c:Int) (w:World):Calls Tryz.prog 56 #[.int .i64 c] w fun e w'=>e=.returned (.agg #[.int .i64 3,.int .i64 c,.int .i64 1])/\Below w.heap.size w w':=by
 go_enter Tryz.func56,Tryz.ntmps56;go_wp2;refine bodyPost_ret (v:=.agg #[.int .i64 3,.int .i64 c,.int .i64 1]) (by simp[results,Tryz.results56,go_sem]) rfl ⟨rfl,?_⟩;exact(Below.refl w.heap.size w).alloc (Nat.le_refl _) _
theorem l_ex20_2 (c:Int) (w:World):Calls Tryz.prog 57 #[.int .i64 c] w fun e w'=>e=.returned (.agg #[.int .i64 1,.int .i64 c,.int .i64 0])/\Below w.heap.size w w':=by
 go_enter Tryz.func57,Tryz.ntmps57;go_wp2;refine bodyPost_ret (v:=.agg #[.int .i64 1,.int .i64 c,.int .i64 0]) (by simp[results,Tryz.results57,go_sem]) rfl ⟨rfl,?_⟩;exact(Below.refl w.heap.size w).alloc (Nat.le_refl _) _
def yE:Pg:=⟨[0,0],[[[⟨3,0,1⟩,⟨3,1,1⟩]],[[⟨1,0,0⟩,⟨1,1,0⟩]]]⟩
theorem l_ex20 (w:World):Calls Tryz.prog 33 #[] w (ExPost yE w):=by
 have b0:Below w.heap.size w ((w.alloc (.cells #[.slice none 0 0,.slice none 0 0] 25)).alloc (.cells #[.int .i64 0,.int .i64 0] 3)):=((Below.refl _ w).alloc (Nat.le_refl _) _).alloc (by simp) _;have r0:=qF (o:=.cells #[.int .i64 0,.int .i64 0] 3) (qu w (.cells #[.slice none 0 0,.slice none 0 0] 25));have r1:=qL (w:=w.alloc (.cells #[.slice none 0 0,.slice none 0 0] 25)) (o:=.cells #[.int .i64 0,.int .i64 0] 3) (g:=w.heap.size+1) (by simp);go_enter Tryz.func33,Tryz.ntmps33;go_wp2_with fail;generalize (w.alloc (.cells #[.slice none 0 0,.slice none 0 0] 25)).alloc (.cells #[.int .i64 0,.int .i64 0] 3)=W at *;refine(l_ex20_1 0 _).mono ?_;rintro e W1 ⟨rfl,b1⟩;go_wp2_with fail;refine(l_ex20_1 1 _).mono ?_;rintro e W2 ⟨rfl,b2⟩;have b2:=b1.trans (b2.mono b1.size);have r0:=qj r0 b2 (qg r0);have r1:=qj r1 b2 (qg r1);have lw2:=qg r1;have b2:=b0.trans (b2.mono b0.size);clear b0 b1;have ra:=qF (o:=.cells #[.slice (some ⟨W2.heap.size,0,none⟩) 2 2] 80) (qu W2 (.cells #[.int .i64 3,.int .i64 0,.int .i64 1,.int .i64 3,.int .i64 1,.int .i64 1] 118));have rt:=qL (w:=W2.alloc (.cells #[.int .i64 3,.int .i64 0,.int .i64 1,.int .i64 3,.int .i64 1,.int .i64 1] 118)) (o:=.cells #[.slice (some ⟨W2.heap.size,0,none⟩) 2 2] 80) (g:=W2.heap.size+1) (by simp);have bx:Below W2.heap.size W2 ((W2.alloc (.cells #[.int .i64 3,.int .i64 0,.int .i64 1,.int .i64 3,.int .i64 1,.int .i64 1] 118)).alloc (.cells #[.slice (some ⟨W2.heap.size,0,none⟩) 2 2] 80)):=((Below.refl _ W2).alloc (Nat.le_refl _) _).alloc (by simp) _;have r0:=qj r0 bx (qg r0);have r1:=qj r1 bx (qg r1);have b2:=b2.trans (bx.mono b2.size);go_wp2_with fail;generalize (W2.alloc (.cells #[.int .i64 3,.int .i64 0,.int .i64 1,.int .i64 3,.int .i64 1,.int .i64 1] 118)).alloc (.cells #[.slice (some ⟨W2.heap.size,0,none⟩) 2 2] 80)=X at *;refine(l_ex20_2 0 _).mono ?_;rintro e W3 ⟨rfl,b3⟩;go_wp2_with fail;refine(l_ex20_2 1 _).mono ?_;rintro e W4 ⟨rfl,b4⟩;have b4:=b3.trans (b4.mono b3.size);have r0:=qj r0 b4 (qg r0);have r1:=qj r1 b4 (qg r1);have ra:=qj ra b4 (qg ra);have rt:=qj rt b4 (qg rt);have b5:=b2.trans (b4.mono b2.size);have l0:=qg r0;have l1:w.heap.size < W4.heap.size+1:=by omega
 have l2:w.heap.size < W4.heap.size+1+1:=by omega
 have y0:=qd r0 0;have y1:=qd r0 1;simp at y0 y1;have yf:∀j,W4.frozen? ⟨w.heap.size,j,none⟩=false:=fun j=>qq r0 j;have R0:=qh r0;have R1:=qh r1;have RA:=qh ra;have RT:=qh rt;have B5:=qh b5;clear r0 r1 ra rt b2 b3 b4 b5 bx;go_wp2;have hsz:((W4.setCell ⟨w.heap.size,0,none⟩ (.slice (some ⟨w.heap.size+1,0,none⟩) 2 2)).setCell ⟨w.heap.size,1,none⟩ (.slice (some ⟨W4.heap.size+1+1,0,none⟩) 2 2)).heap.size=W4.heap.size:=by simp
 have hsz1:(((W4.setCell ⟨w.heap.size,0,none⟩ (.slice (some ⟨w.heap.size+1,0,none⟩) 2 2)).setCell ⟨w.heap.size,1,none⟩ (.slice (some ⟨W4.heap.size+1+1,0,none⟩) 2 2)).alloc (.cells #[.int .i64 1,.int .i64 0,.int .i64 0,.int .i64 1,.int .i64 1,.int .i64 0] 118)).heap.size=W4.heap.size+1:=by simp
 have hsz2:((((W4.setCell ⟨w.heap.size,0,none⟩ (.slice (some ⟨w.heap.size+1,0,none⟩) 2 2)).setCell ⟨w.heap.size,1,none⟩ (.slice (some ⟨W4.heap.size+1+1,0,none⟩) 2 2)).alloc (.cells #[.int .i64 1,.int .i64 0,.int .i64 0,.int .i64 1,.int .i64 1,.int .i64 0] 118)).alloc (.cells #[.slice (some ⟨W4.heap.size,0,none⟩) 2 2] 80)).heap.size=W4.heap.size+1+1:=by simp
 have nA:w.heap.size≠W2.heap.size:=by omega
 have nT:w.heap.size≠W2.heap.size+1:=by omega
 have k0:=qF (o:=.cells #[.slice (some ⟨W2.heap.size+1,0,none⟩) 1 1,.slice (some ⟨W4.heap.size+1,0,none⟩) 1 1] 79) (qF (o:=.cells #[.slice (some ⟨W4.heap.size,0,none⟩) 2 2] 80) (qF (o:=.cells #[.int .i64 1,.int .i64 0,.int .i64 0,.int .i64 1,.int .i64 1,.int .i64 0] 118) (qA (qA R0.o 0 (.slice (some ⟨w.heap.size+1,0,none⟩) 2 2)) 1 (.slice (some ⟨W4.heap.size+1+1,0,none⟩) 2 2))));have k1:=qF (o:=.cells #[.slice (some ⟨W2.heap.size+1,0,none⟩) 1 1,.slice (some ⟨W4.heap.size+1,0,none⟩) 1 1] 79) (qF (o:=.cells #[.slice (some ⟨W4.heap.size,0,none⟩) 2 2] 80) (qF (o:=.cells #[.int .i64 1,.int .i64 0,.int .i64 0,.int .i64 1,.int .i64 1,.int .i64 0] 118) (qH (g':=w.heap.size) (j:=1) (v:=.slice (some ⟨W4.heap.size+1+1,0,none⟩) 2 2) (qH (g':=w.heap.size) (j:=0) (v:=.slice (some ⟨w.heap.size+1,0,none⟩) 2 2) R1.o (by omega)) (by omega))));have ka:=qF (o:=.cells #[.slice (some ⟨W2.heap.size+1,0,none⟩) 1 1,.slice (some ⟨W4.heap.size+1,0,none⟩) 1 1] 79) (qF (o:=.cells #[.slice (some ⟨W4.heap.size,0,none⟩) 2 2] 80) (qF (o:=.cells #[.int .i64 1,.int .i64 0,.int .i64 0,.int .i64 1,.int .i64 1,.int .i64 0] 118) (qH (g':=w.heap.size) (j:=1) (v:=.slice (some ⟨W4.heap.size+1+1,0,none⟩) 2 2) (qH (g':=w.heap.size) (j:=0) (v:=.slice (some ⟨w.heap.size+1,0,none⟩) 2 2) RA.o nA) nA)));have kt:=qF (o:=.cells #[.slice (some ⟨W2.heap.size+1,0,none⟩) 1 1,.slice (some ⟨W4.heap.size+1,0,none⟩) 1 1] 79) (qF (o:=.cells #[.slice (some ⟨W4.heap.size,0,none⟩) 2 2] 80) (qF (o:=.cells #[.int .i64 1,.int .i64 0,.int .i64 0,.int .i64 1,.int .i64 1,.int .i64 0] 118) (qH (g':=w.heap.size) (j:=1) (v:=.slice (some ⟨W4.heap.size+1+1,0,none⟩) 2 2) (qH (g':=w.heap.size) (j:=0) (v:=.slice (some ⟨w.heap.size+1,0,none⟩) 2 2) RT.o nT) nT)));have ma:=qF (o:=.cells #[.slice (some ⟨W2.heap.size+1,0,none⟩) 1 1,.slice (some ⟨W4.heap.size+1,0,none⟩) 1 1] 79) (qF (o:=.cells #[.slice (some ⟨W4.heap.size,0,none⟩) 2 2] 80) (qL (o:=.cells #[.int .i64 1,.int .i64 0,.int .i64 0,.int .i64 1,.int .i64 1,.int .i64 0] 118) hsz.symm));have mt:=qF (o:=.cells #[.slice (some ⟨W2.heap.size+1,0,none⟩) 1 1,.slice (some ⟨W4.heap.size+1,0,none⟩) 1 1] 79) (qL (o:=.cells #[.slice (some ⟨W4.heap.size,0,none⟩) 2 2] 80) hsz1.symm);have mh:=qL (o:=.cells #[.slice (some ⟨W2.heap.size+1,0,none⟩) 1 1,.slice (some ⟨W4.heap.size+1,0,none⟩) 1 1] 79) hsz2.symm;have bz:Below w.heap.size w (((((W4.setCell ⟨w.heap.size,0,none⟩ (.slice (some ⟨w.heap.size+1,0,none⟩) 2 2)).setCell ⟨w.heap.size,1,none⟩ (.slice (some ⟨W4.heap.size+1+1,0,none⟩) 2 2)).alloc (.cells #[.int .i64 1,.int .i64 0,.int .i64 0,.int .i64 1,.int .i64 1,.int .i64 0] 118)).alloc (.cells #[.slice (some ⟨W4.heap.size,0,none⟩) 2 2] 80)).alloc (.cells #[.slice (some ⟨W2.heap.size+1,0,none⟩) 1 1,.slice (some ⟨W4.heap.size+1,0,none⟩) 1 1] 79)):=
  ((((B5.o.setCell (p:=⟨w.heap.size,0,none⟩) (Nat.le_refl _) _).setCell (p:=⟨w.heap.size,1,none⟩) (Nat.le_refl _) _).alloc (by omega) _).alloc (by omega) _).alloc (by omega) _
 generalize ((((W4.setCell ⟨w.heap.size,0,none⟩ (.slice (some ⟨w.heap.size+1,0,none⟩) 2 2)).setCell ⟨w.heap.size,1,none⟩ (.slice (some ⟨W4.heap.size+1+1,0,none⟩) 2 2)).alloc (.cells #[.int .i64 1,.int .i64 0,.int .i64 0,.int .i64 1,.int .i64 1,.int .i64 0] 118)).alloc (.cells #[.slice (some ⟨W4.heap.size,0,none⟩) 2 2] 80)).alloc (.cells #[.slice (some ⟨W2.heap.size+1,0,none⟩) 1 1,.slice (some ⟨W4.heap.size+1,0,none⟩) 1 1] 79)=Z at *;have c0:=qd k0 0;have c1:=qd k0 1;simp at c0 c1;refine bodyPost_ret (v:=.agg #[.slice (some ⟨w.heap.size+1,0,none⟩) 2 2,.slice (some ⟨W4.heap.size+1+1,0,none⟩) 2 2]) (by simp[results,Tryz.results33,go_sem,c0,c1]) rfl ⟨_,_,rfl,⟨sl_row k1 (by decide) rfl,?_⟩,bz⟩;exact isl_row2 mh (isl_row1 kt (sl_row ka (by decide) rfl)) (isl_row1 mt (sl_row ma (by decide) rfl))
end
structure GlobP (w:World):Prop where
 big:2 < w.heap.size
 prog:∃t v,w.cell? ⟨2,0,none⟩=some (.iface t v)
theorem GlobP.below {w w':World} (h:GlobP w) (hb:Below w.heap.size w w'):GlobP w':=let ⟨h1,t,v,h2⟩:=h;⟨by have:=hb.size;omega,t,v,qx hb h1 h2⟩
section
attribute [local irreducible] xF
structure Ce where
 val:Int
 own:Int
def Ce.cells (c:Ce):List Value:=[.int .i64 c.val,.int .i64 c.own]
theorem Ce.len (c:Ce):c.cells.length=2:=rfl
abbrev Wo:=Option (MB×MI)
inductive Nx where
 |none
 |abort
 |rel (l:List Int)
 |ans (e:Ev)
structure LM where
 W:yq
 cs:List Ce
 ws:List Wo
 nx:List Nx
def ya (r:MB) (e:Ev):Nx:=if e.kind=1 then .none else if e.kind=7 then .abort else if e.kind=4 then .rel (r.map (·.1)) else .ans e
def bkS (s:MI) (S:Int->Bool) (cs:List Ce):List Ce:=cs.mapIdx fun k c=>match yz (k:Int) s with
 |some v=>if S k then c else⟨v,c.own⟩
 |none=>c
def goS (r:MB) (S:Int->Bool) (cs:List Ce):List Ce:=cs.mapIdx fun k c=>match yz (k:Int) r with
 |some _=>if S k then c else⟨c.val,0⟩
 |none=>c
def offCs (r:MB) (s:MI) (cs:List Ce):List Ce:=goS r (fun _=>false) (bkS s (fun _=>false) cs)
def ceAt (cs:List Ce) (k:Int):Ce:=match cs[k.toNat]? with
 |some c=>c
 |none=>⟨0,0⟩
def abortStep (P:Pg) (M:LM) (i:Nat) (t:Th) (r:MB) (s:MI):LM:={M with W:=M.W.putO i (yG P i t 0 true),cs:=offCs r s M.cs}
def taken (i:Nat) (t:Th) (c:Ce):Bool:=!(c.own==0)&&!(c.own==qE i t.tx)
def ansStep (P:Pg) (M:LM) (i:Nat) (t:Th) (e:Ev) (r:MB) (s:MI):LM:=
 if taken i t (ceAt M.cs e.obj)=true then abortStep P M i t r s
 else if e.op=2 then {M with W:=M.W.putO i (yG P i t e.val false),cs:=M.cs.set e.obj.toNat ⟨e.val,qE i t.tx⟩,ws:=M.ws.set i (some (upd e.obj () r,if (yz e.obj s).isSome then s else upd e.obj (ceAt M.cs e.obj).val s))}
 else {M with W:=M.W.putO i (yG P i t (ceAt M.cs e.obj).val false),cs:=M.cs.set e.obj.toNat ⟨(ceAt M.cs e.obj).val,qE i t.tx⟩,ws:=M.ws.set i (some (upd e.obj () r,s))}
def relStep (P:Pg) (M:LM) (i:Nat) (t:Th):List Int->LM×Nx
 |[]=>({M with W:=M.W.putO i (yG P i t 0 false)},.none)
 |k::l=>({M with cs:=M.cs.set k.toNat ⟨(ceAt M.cs k).val,0⟩},.rel l)
def ownStep (P:Pg) (M:LM) (i:Nat) (t:Th) (r:MB):LM×Nx:=
 match nextOf P i t with
 |none=>(M,.none)
 |some y=>({M with W:=M.W.put i y,ws:=if y.2.kind=1 then M.ws.set i (some ([],[])) else M.ws},ya r y.2)
def doStep (P:Pg) (M:LM) (i:Nat) (t:Th) (x:Nx) (r:MB) (s:MI):LM×Nx:=
 match x with
 |.none=>ownStep P M i t r
 |.abort=>(abortStep P M i t r s,.none)
 |.rel l=>relStep P M i t l
 |.ans e=>(ansStep P M i t e r s,.none)
def woR (o:Option Wo):MB:=match o with
 |some (some (r,_))=>r
 |_=>[]
def woS (o:Option Wo):MI:=match o with
 |some (some (_,s))=>s
 |_=>[]
structure LC where
 B:Nat
 bM:Nat
 bD:Nat
 bW:Nat
 gT:Nat
 gN:Nat
 gW:Nat
 vc:Value
 vt:Value
 pc:Value
 pt:Value
 ce:Value
 F:Nat->Array Value->Prop
abbrev LC.rf (C:LC):Value:=.func (.func 35) #[.pointer (some ⟨C.bM,0,none⟩)] #[]
def WoAt (w:World) (B:Nat) (u:Value×Value):Wo->Prop
 |none=>u=(.map none,.map none)
 |some (r,s)=>∃br bs,u=(.map (some br),.map (some bs))/\B<=br/\B<=bs/\br≠bs/\IsMB w br r.length r/\IsMI w bs s.length s/\KCe r/\KSrt r/\KCe s/\KSrt s
def BxM (w:World) (C:LC) (i p1 p2:Nat):Prop:=w.heap[p1]?=some (.cells #[.pointer (some ⟨C.bM,0,none⟩)] 28 (0,0))/\w.heap[p2]?=some (.cells #[.int .i64 i] 3 (0,0))/\C.B<=p1/\C.B<=p2
def LsBx (w:World) (C:LC) (p3:Nat) (l:List Int):Prop:=∃(g off cap:Nat) (cs:Array Value),w.heap[p3]?=some (.cells #[.slice (some ⟨g,off,none⟩) l.length cap] 22 (0,0))/\w.heap[g]?=some (.cells cs 3 (0,0))/\C.B<=p3/\C.B<=g/\l.length<=cap/\∀(j:Nat) (x:Int),l[j]?=some x->cs[off+j]?=some (.int .i64 x)
def NxAt (w:World) (C:LC) (i:Nat) (ve v:Value):Nx->Prop
 |.none=>v=.nilFunc
 |.abort=>∃p1 p2,v=.func (.func 105) #[] #[.pointer (some ⟨p1,0,none⟩),.pointer (some ⟨p2,0,none⟩)]/\BxM w C i p1 p2
 |.rel []=>∃p1 p2,v=.func (.func 107) #[] #[.pointer (some ⟨p1,0,none⟩),.pointer (some ⟨p2,0,none⟩)]/\BxM w C i p1 p2
 |.rel (k::l)=>∃p1 p2 p3,v=.func (.func 108) #[] #[.pointer (some ⟨p1,0,none⟩),.pointer (some ⟨p3,0,none⟩),.pointer (some ⟨p2,0,none⟩)]/\BxM w C i p1 p2/\LsBx w C p3 (k::l)
 |.ans e=>∃p1 p2 p3,v=.func (.func 64) #[] #[.pointer (some ⟨p1,0,none⟩),.pointer (some ⟨p2,0,none⟩),.pointer (some ⟨p3,0,none⟩)]/\BxM w C i p1 p2/\w.heap[p3]?=some (.cells e.cells.toArray 53 (0,0))/\ve.ownBlock≠some p3/\C.B<=p3
structure WksAt (w:World) (C:LC) (n:Nat) (us:List (Value×Value)) (ws:List Wo):Prop where
 own:qp moC 135 2 w C.B (.slice (some ⟨C.gW,0,none⟩) n n) us
 len:ws.length=n
 maps:∀(i:Nat) (u:Value×Value) (o:Wo),us[i]?=some u->ws[i]?=some o->WoAt w C.B u o
 apart:∀(i j:Nat) (u u':Value×Value),us[i]?=some u->us[j]?=some u'->i≠j->∀b,mbs u b->¬mbs u' b
structure qV (w:World) (C:LC) (ve:Value) (us:List (Value×Value)) (P:Pg) (M:LM):Prop where
 row:w.heap[C.bM]?=some (.cells #[.pointer (some ⟨C.bD,0,none⟩),C.ce,.slice (some ⟨C.gW,0,none⟩) P.threads.length P.threads.length] 85 (0,0))
 hB:C.B<=C.bM
 dr:∃vs,DrAt w C.B C.bD C.bW C.gT C.gN C.vc C.vt ve C.pc C.pt C.rf P M.W vs/\M.nx.length=P.threads.length/\∀(i:Nat) (v:Value) (x:Nx),vs[i]?=some v->M.nx[i]?=some x->NxAt w C i ve v x
 cells:qp Ce.cells 90 2 w C.B C.ce M.cs
 clen:M.cs.length=P.cells.length
 wks:WksAt w C P.threads.length us M.ws
 fr:∀(k:Nat) (cs:Array Value),C.F k cs->w.heap[k]?=some (.cells cs 37 (0,0))
section
variable {w w':World} {C:LC} {ve ve':Value} {P:Pg} {M:LM} {us:List (Value×Value)}
theorem BxM.keep {i p1 p2:Nat} (h:BxM w C i p1 p2)
  (h1:∀(p:Nat) (u:Value),w.heap[p]?=some (.cells #[u] 28 (0,0))->w'.heap[p]?=some (.cells #[u] 28 (0,0)))
  (h2:∀(p:Nat) (u:Array Value),w.heap[p]?=some (.cells u 3 (0,0))->w'.heap[p]?=some (.cells u 3 (0,0))):BxM w' C i p1 p2:=⟨h1 _ _ h.1,h2 _ _ h.2.1,h.2.2⟩
theorem NxAt.keep {i:Nat} {v:Value} {x:Nx} (h:NxAt w C i ve v x)
  (h1:∀(p:Nat) (u:Value),w.heap[p]?=some (.cells #[u] 28 (0,0))->w'.heap[p]?=some (.cells #[u] 28 (0,0)))
  (h2:∀(p:Nat) (u:Array Value),w.heap[p]?=some (.cells u 3 (0,0))->w'.heap[p]?=some (.cells u 3 (0,0)))
  (h4:∀(p:Nat) (u:Value),w.heap[p]?=some (.cells #[u] 22 (0,0))->w'.heap[p]?=some (.cells #[u] 22 (0,0)))
  (h3:∀(p:Nat) (cs:Array Value),w.heap[p]?=some (.cells cs 53 (0,0))->ve.ownBlock≠some p->w'.heap[p]?=some (.cells cs 53 (0,0))/\ve'.ownBlock≠some p):NxAt w' C i ve' v x:=by
 cases x with
 |none=>exact h
 |abort=>
  obtain⟨p1,p2,hv,k⟩:=h;exact⟨p1,p2,hv,k.keep h1 h2⟩
 |rel l=>
  cases l with
  |nil=>
   obtain⟨p1,p2,hv,k⟩:=h;exact⟨p1,p2,hv,k.keep h1 h2⟩
  |cons a l=>
   obtain⟨p1,p2,p3,hv,k,g,off,cap,cs,k3,k4,r⟩:=h;exact⟨p1,p2,p3,hv,k.keep h1 h2,g,off,cap,cs,h4 _ _ k3,h2 _ _ k4,r⟩
 |ans e=>
  obtain⟨p1,p2,p3,hv,k,k3,k4,r⟩:=h;obtain⟨k5,k6⟩:=h3 _ _ k3 k4;exact⟨p1,p2,p3,hv,k.keep h1 h2,k5,k6,r⟩
theorem WoAt.keep {B:Nat} {u:Value×Value} {o:Wo} (h:WoAt w B u o) (hk:∀b:Nat,mbs u b->w'.heap[b]?=w.heap[b]?):WoAt w' B u o:=by
 cases o with
 |none=>exact h
 |some p=>
  obtain⟨br,bs,rfl,h1,h2,h3,h6,h7,h8⟩:=h;exact⟨br,bs,rfl,h1,h2,h3,h6.obj (hk br (.inl rfl)),h7.obj (hk bs (.inr rfl)),h8⟩
theorem WoAt.isMap {B:Nat} {u:Value×Value} {o:Wo} (h:WoAt w B u o):∀b,mbs u b->B<=b/\∃es c,w.heap[b]?=some (.map es c):=by
 cases o with
 |none=>
  obtain rfl:=h;rintro b (h|h) <;> cases h
 |some p=>
  obtain⟨br,bs,rfl,h1,h2,h3,⟨es,c,h6,-⟩,⟨es',c',h7,-⟩,h8⟩:=h;rintro b (h|h)
  ·cases h;exact⟨h1,es,c,h6⟩
  ·cases h;exact⟨h2,es',c',h7⟩
theorem WksAt.at {n:Nat} {us:List (Value×Value)} {ws:List Wo} (h:WksAt w C n us ws) {i:Nat} {u:Value×Value} (hu:us[i]?=some u):∃o,ws[i]?=some o/\WoAt w C.B u o:=by
 have hl:=h.own.len;have hi:i < us.length:=(List.getElem?_eq_some_iff.1 hu).1;obtain⟨o,ho⟩:∃o,ws[i]?=some o:=⟨_,List.getElem?_eq_getElem (by rw[h.len];omega)⟩
 exact⟨o,ho,h.maps i u o hu ho⟩
theorem WksAt.keep {n:Nat} {us:List (Value×Value)} {ws:List Wo} (h:WksAt w C n us ws)
  (h1:qp moC 135 2 w' C.B (.slice (some ⟨C.gW,0,none⟩) n n) us)
  (hk:∀(b:Nat) (es:Array MapEntry) (c:Nat),w.heap[b]?=some (.map es c)->w'.heap[b]?=some (.map es c)):WksAt w' C n us ws:=
 ⟨h1,h.len,fun i u o hu ho=>(h.maps i u o hu ho).keep fun b hb=>by
  obtain⟨-,es,c,hm⟩:=(h.maps i u o hu ho).isMap b hb;rw[hk b es c hm,hm],h.apart⟩
theorem qV.below (h:qV w C ve us P M) (hb:Below w.heap.size w w'):qV w' C ve us P M:=by
 obtain⟨vs,h1,h2,h3⟩:=h.dr;refine⟨qj h.row hb (qg h.row),h.hB,⟨vs,h1.below hb,h2,fun i v x hv hx=>NxAt.keep (h3 i v x hv hx) (fun p u hp=>qj hp hb (qg hp)) (fun p u hp=>qj hp hb (qg hp)) (fun p u hp=>qj hp hb (qg hp)) fun p cs hp he=>⟨qj hp hb (qg hp),he⟩⟩,qp.below h.cells hb,h.clen,?_,fun k cs hf=>qj (h.fr k cs hf) hb (qg (h.fr k cs hf))⟩;exact h.wks.keep (qp.below h.wks.own hb) fun b es c hm=>qj hm hb (qg hm)
theorem qV.walked {S':yq} (h:qV w C ve us P M) (hk:Kp Mw ve w w') (hw:qT w' C.B C.bW C.gT C.vc C.vt ve' P S') (ho:∀k,ve'.ownBlock=some k->ve.ownBlock=some k\/w.heap.size<=k):qV w' C ve' us P {M with W:=S'}:=by
 obtain⟨vs,h1,h2,h3⟩:=h.dr;refine⟨hk.rowW h.row (by decide) (by decide) (by decide),h.hB,⟨vs,h1.walked hk hw,h2,fun i v x hv hx=>NxAt.keep (h3 i v x hv hx) (fun p u hp=>hk.rowW hp (by decide) (by decide) (by decide)) (fun p u hp=>hk.rowW hp (by decide) (by decide) (by decide)) (fun p u hp=>hk.rowW hp (by decide) (by decide) (by decide)) fun p cs hp he=>⟨hk.cells p cs _ _ hp (by unfold Mw;decide) (fun _=>he),fun e=>?_⟩⟩,qp.kpW h.cells hk (by decide) (by decide) (by decide),h.clen,?_,fun k cs hf=>hk.rowW (h.fr k cs hf) (by decide) (by decide) (by decide)⟩
 ·rcases ho p e with h|h
  ·exact he h
  ·have:=qg hp;omega
 ·exact h.wks.keep (qp.kpW h.wks.own hk (by decide) (by decide) (by decide)) fun b es c hm=>hk.maps b es c hm
end
section
variable {w w' w1:World} {C:LC} {ve ve':Value} {P:Pg} {M:LM} {us:List (Value×Value)} {T T':TypeId->Prop}
def Ml (t:TypeId):Prop:=t=90\/t=135
theorem qT.kd {B bW gT:Nat} {vc vt:Value} {S:yq} (h:qT w B bW gT vc vt ve P S) (hk:Kd Ml w w'):qT w' B bW gT vc vt ve P S:=
 ⟨hk _ _ _ _ h.row (by unfold Ml;decide),h.hB,qp.kd h.cells hk (by unfold Ml;decide),h.thr.kd hk (by unfold Ml;decide) (by unfold Ml;decide) (by unfold Ml;decide),qp.kd h.ths hk (by unfold Ml;decide),qp.kd h.evs hk (by unfold Ml;decide),h.ok,h.tok⟩
theorem DrAt.kd {B bD bW gT gN:Nat} {vc vt pc pt rf:Value} {S:yq} {nx:List Value} (h:DrAt w B bD bW gT gN vc vt ve pc pt rf P S nx) (hk:Kd Ml w w'):DrAt w' B bD bW gT gN vc vt ve pc pt rf P S nx:=
 ⟨hk _ _ _ _ h.row (by unfold Ml;decide),h.hB,h.walk.kd hk,qp.kd h.pcells hk (by unfold Ml;decide),h.pthr.kd hk (by unfold Ml;decide) (by unfold Ml;decide) (by unfold Ml;decide),qp.kd h.next hk (by unfold Ml;decide)⟩
theorem qV.turn {us':List (Value×Value)} {cs':List Ce} {ws':List Wo} (h:qV w C ve us P M) (hk:Kd Ml w w') (hce:qp Ce.cells 90 2 w' C.B C.ce cs') (hcl:cs'.length=P.cells.length) (hwk:WksAt w' C P.threads.length us' ws'):qV w' C ve us' P {M with cs:=cs',ws:=ws'}:=by
 obtain⟨vs,h1,h2,h3⟩:=h.dr;exact⟨hk _ _ _ _ h.row (by unfold Ml;decide),h.hB,⟨vs,h1.kd hk,h2,fun i v x hv hx=>NxAt.keep (h3 i v x hv hx) (fun p u hp=>hk _ _ _ _ hp (by unfold Ml;decide)) (fun p u hp=>hk _ _ _ _ hp (by unfold Ml;decide)) (fun p u hp=>hk _ _ _ _ hp (by unfold Ml;decide)) fun p cs hp he=>⟨hk _ _ _ _ hp (by unfold Ml;decide),he⟩⟩,hce,hcl,hwk,fun k cs hf=>hk _ _ _ _ (h.fr k cs hf) (by unfold Ml;decide)⟩
theorem qV.frame (h:qV w C ve us P M) {F':Nat->Array Value->Prop} (hf:∀(k:Nat) (cs:Array Value),F' k cs->w.heap[k]?=some (.cells cs 37 (0,0))):qV w {C with F:=F'} ve us P M:=by
 obtain⟨vs,h1,h2,h3⟩:=h.dr;refine⟨h.row,h.hB,⟨vs,h1,h2,fun i v x hv hx=>?_⟩,h.cells,h.clen,⟨h.wks.own,h.wks.len,h.wks.maps,h.wks.apart⟩,hf⟩;have:=h3 i v x hv hx;cases x with
 |none=>exact this
 |abort=>exact this
 |rel l=>cases l <;> exact this
 |ans e=>exact this
theorem WksAt.store {n:Nat} {ws:List Wo} (h:WksAt w C n us ws) {i b:Nat} {u:Value×Value} {o':Wo} (hu:us[i]?=some u) (hb:mbs u b) (ht:w.mapTurned w' b) (hw:WoAt w' C.B u o'):WksAt w' C n us (ws.set i o'):=by
 refine⟨qp.kd h.own (Kd.turned (T:=fun _=>False) ht) (fun h=>h),by rw[List.length_set];exact h.len,fun j v o hv ho=>?_,h.apart⟩;by_cases e:i=j
 ·subst e
  rw[hu] at hv;obtain rfl:=Option.some.inj hv;rw[List.getElem?_set_self (by have:=(List.getElem?_eq_some_iff.1 ho).1;simpa using this)] at ho;rw[←Option.some.inj ho];exact hw
 ·rw [List.getElem?_set_ne e] at ho
  refine(h.maps j v o hv ho).keep fun b' hb'=>xb ht ?_;rintro rfl;exact h.apart i j u v hu hv e _ hb hb'
theorem WksAt.begin {n:Nat} {ws:List Wo} (h:WksAt w C n us ws) {i:Nat} {u:Value×Value} {o':Wo} (hm:yI w w') (h1:qp moC 135 2 w' C.B (.slice (some ⟨C.gW,0,none⟩) n n) (us.set i u)) (hnew:∀b,mbs u b->w.heap.size<=b) (hw:WoAt w' C.B u o'):WksAt w' C n (us.set i u) (ws.set i o'):=by
 refine⟨h1,by rw[List.length_set];exact h.len,fun j v o hv ho=>?_,fun j k v v' hv hv' hne b hb hb'=>?_⟩
 ·by_cases e:i=j
  ·subst e
   rw[List.getElem?_set_self (by have:=(List.getElem?_eq_some_iff.1 ho).1;simpa using this)] at ho;rw[List.getElem?_set_self (by have:=(List.getElem?_eq_some_iff.1 hv).1;simpa using this)] at hv;rw[←Option.some.inj ho,←Option.some.inj hv];exact hw
  ·rw [List.getElem?_set_ne e] at ho hv
   refine(h.maps j v o hv ho).keep fun b' hb'=>?_;obtain⟨-,es,c,hh⟩:=(h.maps j v o hv ho).isMap b' hb';rw[hm _ _ _ hh,hh]
 ·have old:∀(j:Nat) (v:Value×Value),us[j]?=some v->∀b,mbs v b->b < w.heap.size:=fun j v hv b hb=>by
   obtain⟨o,-,ho⟩:=h.at hv;obtain⟨-,es,c,hh⟩:=ho.isMap b hb;exact qg hh
  by_cases e:i=j
  ·subst e
   rw[List.getElem?_set_self (by have:=(List.getElem?_eq_some_iff.1 hv).1;simpa using this)] at hv;rw[List.getElem?_set_ne hne] at hv';obtain rfl:=Option.some.inj hv;have:=hnew b hb;have:=old k v' hv' b hb';omega
  ·rw [List.getElem?_set_ne e] at hv
   by_cases e2:i=k
   ·subst e2
    rw[List.getElem?_set_self (by have:=(List.getElem?_eq_some_iff.1 hv').1;simpa using this)] at hv';obtain rfl:=Option.some.inj hv';have:=hnew b hb';have:=old j v hv b hb;omega
   ·rw [List.getElem?_set_ne e2] at hv'
    exact h.apart j k v v' hv hv' hne b hb hb'
end
end
section
attribute [local irreducible] xF
structure WoCan (P:Pg) (r:MB) (s:MI):Prop where
 rin:∀q ∈ r,q.1 < P.cells.length
 sin:∀q ∈ s,q.1 < P.cells.length/\-999999000<=q.2/\q.2<=999999000
def yS (C:LC) (P:Pg) (M':LM) (v:Value) (w:World) (e:Ending) (w':World):Prop:=e=.returned v/\Below C.B w w'/\∃ve' us',qV w' C ve' us' P M'
theorem PgOk.acVal {P:Pg} (h:PgOk P) {i:Nat} (hi:i < P.threads.length) {k j:Nat} {a:Ac} (ha:(P.acts i k)[j]?=some a):-1000<=a.val/\a.val<=1000:=by
 unfold Pg.acts Pg.txs at ha;obtain⟨x,hx⟩:∃x,P.threads[i]?=some x:=⟨_,List.getElem?_eq_getElem hi⟩
 simp only[List.getD_eq_getElem?_getD,hx,Option.getD_some] at ha;cases hl:x[k]? with
 |none=>rw[hl] at ha;simp at ha
 |some l=>
  rw[hl,Option.getD_some] at ha;rcases h.act x (List.mem_of_getElem? hx) l (List.mem_of_getElem? hl) j a ha with h|h <;> omega
section
variable {w:World} {C:LC} {ve:Value} {P:Pg} {M:LM} {us:List (Value×Value)}
theorem qV.size (h:qV w C ve us P M):C.B<=w.heap.size:=by have:=qg h.row;have:=h.hB;omega
theorem qV.ok (h:qV w C ve us P M):PgOk P:=let ⟨_,h1,_⟩:=h.dr;h1.walk.ok
theorem la_said (h:qV w C ve us P M) (i:Nat) (hi:i < P.threads.length) {t:Th} (ht:M.W.ths[i]?=some t) (val:Int) (abort:Bool) (hv:-999999000<=val/\val<=999999000) (hl:M.W.evs.length<=100000):
  Calls Tryz.prog 106 #[.pointer (some ⟨C.bD,0,none⟩),.int .i64 i,.int .i64 val,.bool abort] w (yS C P {M with W:=M.W.putO i (yG P i t val abort)} (.tuple #[]) w):=by
 obtain⟨vs,h1,h2,h3⟩:=h.dr;have hok:=h.ok;refine(d_answer h1 h.size i hi ht val abort (by simp[xK];omega) (fun a ha _ _=>by have:=hok.acVal hi ha;simp[xK];omega) hl).mono ?_;rintro e w1 ⟨rfl,hb,hk,ve',hd,ho⟩;refine⟨rfl,hb,ve',us,?_⟩;cases hr:yG P i t val abort with
 |none=>rw[hr] at hd;exact h.walked hk hd.walk ho
 |some y=>rw[hr] at hd;exact h.walked hk hd.walk ho
theorem BxM.below {w':World} {i p1 p2:Nat} (h:BxM w C i p1 p2) (hb:Below w.heap.size w w'):BxM w' C i p1 p2:=h.keep (fun p u hp=>qj hp hb (qg hp)) (fun p u hp=>qj hp hb (qg hp))
theorem LsBx.below {w':World} {p3:Nat} {l:List Int} (h:LsBx w C p3 l) (hb:Below w.heap.size w w'):LsBx w' C p3 l:=by
 obtain⟨g,off,cap,cs,h1,h2,r⟩:=h;exact⟨g,off,cap,cs,qj h1 hb (qg h1),qj h2 hb (qg h2),r⟩
theorem la_tx (h:qV w C ve us P M) (i:Nat) (hi:i < P.threads.length) {t:Th} (ht:M.W.ths[i]?=some t) (hd:qP P i t=false) (hb:t.begun=true):
  Calls Tryz.prog 112 #[.pointer (some ⟨C.bD,0,none⟩),.int .i64 i] w fun e w'=>e=.returned (.int .i64 (qE i t.tx))/\Below w.heap.size w w':=by
 obtain⟨vs,h1,h2,h3⟩:=h.dr;have d2:=qd h1.row 2;have lD:=qg h1.row;have hc:=wk_tx h1.walk i hi ht;rw[if_pos ⟨hd,hb⟩] at hc;have HC:=qh hc;clear h h1 h3 hc;go_enter Tryz.func112,Tryz.ntmps112;go_wp2_with fail;refine(HC.o).mono ?_;rintro e w1 ⟨rfl,rfl⟩;clear HC;go_wp2;go_ret;exact⟨rfl,(Below.refl _ _).drew⟩
end
end
section
attribute [local irreducible] xF
def LaNext (C:LC) (P:Pg) (i:Nat) (y:LM×Nx) (w:World) (e:Ending) (w':World):Prop:=∃v ve' us',e=.returned v/\Below C.B w w'/\qV w' C ve' us' P y.1/\NxAt w' C i ve' v y.2
theorem bkS_get (s:MI) (S:Int->Bool) (cs:List Ce) (k:Nat):(bkS s S cs)[k]?=cs[k]?.map fun c=>match yz (k:Int) s with
  |some v=>if S k then c else⟨v,c.own⟩
  |none=>c:=by simp[bkS,List.getElem?_mapIdx] <;> rfl
theorem goS_get (r:MB) (S:Int->Bool) (cs:List Ce) (k:Nat):(goS r S cs)[k]?=cs[k]?.map fun c=>match yz (k:Int) r with
  |some _=>if S k then c else⟨c.val,0⟩
  |none=>c:=by simp[goS,List.getElem?_mapIdx] <;> rfl
theorem bkS_len (s:MI) (S:Int->Bool) (cs:List Ce):(bkS s S cs).length=cs.length:=by simp[bkS]
theorem goS_len (r:MB) (S:Int->Bool) (cs:List Ce):(goS r S cs).length=cs.length:=by simp[goS]
theorem offCs_len (r:MB) (s:MI) (cs:List Ce):(offCs r s cs).length=cs.length:=by simp[offCs,goS_len,bkS_len]
theorem bkS_start (s:MI) (cs:List Ce):bkS s (fun _=>true) cs=cs:=by
 apply List.ext_getElem?;intro k;rw[bkS_get];cases cs[k]? with
 |none=>rfl
 |some c=>cases yz (k:Int) s <;> simp
theorem bkS_end {s:MI} {S:Int->Bool} (hs:KSrt s) (h:∀p ∈ s,S p.1=false) (cs:List Ce):bkS s S cs=bkS s (fun _=>false) cs:=by
 apply List.ext_getElem?;intro k;rw[bkS_get,bkS_get];cases cs[k]? with
 |none=>rfl
 |some c=>
  cases hf:yz (k:Int) s with
  |none=>rfl
  |some v=>have:=h _ ((xQ hs).1 hf);simp only at this;simp[this]
theorem bkS_step {s:MI} {S:Int->Bool} (hs:KSrt s) {k:Nat} {u:Int} (hm:((k:Int),u) ∈ s) {cs:List Ce} {c:Ce} (hc:cs[k]?=some c):(bkS s S cs).set k ⟨u,c.own⟩=bkS s (fun z=>S z&&!(z==(k:Int))) cs:=by
 apply List.ext_getElem?;intro j;by_cases e:k=j
 ·subst e
  rw[List.getElem?_set_self (by rw[bkS_len];exact(List.getElem?_eq_some_iff.1 hc).1),bkS_get,hc,(xQ hs).2 hm];simp
 ·rw [List.getElem?_set_ne e,bkS_get,bkS_get]
  have e2:((j:Int)==(k:Int))=false:=by simp;omega
  simp[e2]
theorem bkS_at {s:MI} {S:Int->Bool} (hs:KSrt s) {k:Nat} {u:Int} (hm:((k:Int),u) ∈ s) (hS:S k=true) {cs:List Ce} {c:Ce} (hc:cs[k]?=some c):(bkS s S cs)[k]?=some c:=by
 rw[bkS_get,hc,(xQ hs).2 hm];simp[hS]
theorem goS_start (r:MB) (cs:List Ce):goS r (fun _=>true) cs=cs:=by
 apply List.ext_getElem?;intro k;rw[goS_get];cases cs[k]? with
 |none=>rfl
 |some c=>cases yz (k:Int) r <;> simp
theorem goS_end {r:MB} {S:Int->Bool} (hs:KSrt r) (h:∀p ∈ r,S p.1=false) (cs:List Ce):goS r S cs=goS r (fun _=>false) cs:=by
 apply List.ext_getElem?;intro k;rw[goS_get,goS_get];cases cs[k]? with
 |none=>rfl
 |some c=>
  cases hf:yz (k:Int) r with
  |none=>rfl
  |some v=>have:=h _ ((xQ hs).1 hf);simp only at this;simp[this]
theorem goS_step {r:MB} {S:Int->Bool} (hs:KSrt r) {k:Nat} {u:Unit} (hm:((k:Int),u) ∈ r) {cs:List Ce} {c:Ce} (hc:cs[k]?=some c):(goS r S cs).set k ⟨c.val,0⟩=goS r (fun z=>S z&&!(z==(k:Int))) cs:=by
 apply List.ext_getElem?;intro j;by_cases e:k=j
 ·subst e
  rw[List.getElem?_set_self (by rw[goS_len];exact(List.getElem?_eq_some_iff.1 hc).1),goS_get,hc,(xQ hs).2 hm];simp
 ·rw [List.getElem?_set_ne e,goS_get,goS_get]
  have e2:((j:Int)==(k:Int))=false:=by simp;omega
  simp[e2]
theorem goS_at {r:MB} {S:Int->Bool} (hs:KSrt r) {k:Nat} {u:Unit} (hm:((k:Int),u) ∈ r) (hS:S k=true) {cs:List Ce} {c:Ce} (hc:cs[k]?=some c):(goS r S cs)[k]?=some c:=by
 rw[goS_get,hc,(xQ hs).2 hm];simp[hS]
section
variable {w w':World} {C:LC} {ve:Value} {P:Pg} {M:LM} {us:List (Value×Value)}
theorem qV.still (h:qV w C ve us P M) (hk:Kd (fun _=>False) w w') (hm:yI w w'):qV w' C ve us P M:=
 h.turn (cs':=M.cs) (ws':=M.ws) (fun k cs t fz hb _=>hk k cs t fz hb (fun h=>h)) (qp.kd h.cells hk fun h=>h) h.clen (h.wks.keep (qp.kd h.wks.own hk fun h=>h) hm)
theorem qV.ceForm (h:qV w C ve us P M):∃gC cc,C.ce=.slice (some ⟨gC,0,none⟩) P.cells.length cc:=by
 have h1:=h.ok.cells.1;have h2:=h.clen;rcases h.cells.form with⟨-,hv⟩|⟨g,cap,hv,-⟩
 ·rw [hv] at h2;simp at h2;omega
 ·exact ⟨g,cap,by rw[hv,h2]⟩
theorem qV.ceAt (h:qV w C ve us P M) {gC cc:Nat} (hce:C.ce=.slice (some ⟨gC,0,none⟩) P.cells.length cc) {k:Nat} (hk:k < P.cells.length):
  gC < w.heap.size/\∃c,M.cs[k]?=some c/\w.cell? ⟨gC,k*2,none⟩=some (.int .i64 c.val)/\w.cell? ⟨gC,k*2+1,none⟩=some (.int .i64 c.own):=by
 have h2:=h.clen;have hcl:=h.cells;rw[hce,←h2] at hcl;obtain⟨g,off,c,hb,hgC,hc,hcc⟩:=Sl.atF Ce.len hcl.sl rfl (k:=k) (by omega);simp only[Option.some.injEq,Addr.mk.injEq,and_true] at hb;obtain⟨rfl,rfl⟩:=hb;refine⟨hgC,c,hc,?_,?_⟩
 ·have:=hcc 0 (by decide);simpa[Ce.cells] using this
 ·have:=hcc 1 (by decide);simpa[Ce.cells] using this
theorem qV.ceRow (h:qV w C ve us P M) {gC cc:Nat} (hce:C.ce=.slice (some ⟨gC,0,none⟩) P.cells.length cc):∃cs,w.heap[gC]?=some (.cells cs 90 (0,0)):=by
 have hcl:=h.cells;rw[hce] at hcl;exact hcl.keepObj gC rfl
theorem qV.ceSet (h:qV w C ve us P M) {gC cc:Nat} (hce:C.ce=.slice (some ⟨gC,0,none⟩) P.cells.length cc) {k j:Nat} {c u:Ce} {a:Value} (hc:M.cs[k]?=some c) (hj:j < 2) (hu:u.cells=c.cells.set j a):
  qV (w.setCell ⟨gC,k*2+j,none⟩ a) C ve us P {M with cs:=M.cs.set k u}/\C.B<=gC/\Kd (fun t=>t=90) w (w.setCell ⟨gC,k*2+j,none⟩ a)/\yI w (w.setCell ⟨gC,k*2+j,none⟩ a)/\∀q,q≠gC->(w.setCell ⟨gC,k*2+j,none⟩ a).heap[q]?=w.heap[q]?:=by
 obtain⟨csr,hrC⟩:=h.ceRow hce;have kd1:Kd (fun t=>t=90) w (w.setCell ⟨gC,k*2+j,none⟩ a):=Kd.set (T:=fun t=>t=90) hrC rfl _;have km1:yI w (w.setCell ⟨gC,k*2+j,none⟩ a):=yI.set hrC _;refine⟨h.turn (ws':=M.ws) (fun k cs t fz h1 h2=>kd1 k cs t fz h1 (fun e=>h2 (.inl e))) ?_ (by rw[List.length_set];exact h.clen) (h.wks.keep (qp.kd h.wks.own kd1 (by decide)) km1),(h.cells.lt gC (by rw[hce];rfl)).1,kd1,km1,fun q hq=>Below.heap_setCell _ ⟨gC,k*2+j,none⟩ _ q hq⟩;have h1:=h.cells;rw[hce] at h1 ⊢;exact own_setN h1 Ce.len hj hc hu
theorem qV.woAt (h:qV w C ve us P M) {i:Nat} (hi:i < P.threads.length) {r:MB} {s:MI} (hws:M.ws[i]?=some (some (r,s))):∃br bs,us[i]?=some (.map (some br),.map (some bs))/\WoAt w C.B (.map (some br),.map (some bs)) (some (r,s))/\C.gW < w.heap.size/\
  w.cell? ⟨C.gW,i*2,none⟩=some (.map (some br))/\w.cell? ⟨C.gW,i*2+1,none⟩=some (.map (some bs)):=by
 obtain⟨u,hu⟩:∃u,us[i]?=some u:=⟨_,List.getElem?_eq_getElem (by have:=h.wks.own.len;omega)⟩
 obtain⟨o,ho,hwo⟩:=h.wks.at hu;rw[hws] at ho;obtain rfl:=Option.some.inj ho;obtain⟨br,bs,rfl,rest⟩:=id hwo;obtain⟨gW',off,x,hb,hgW,hx,hcw⟩:=Sl.atF moC_len (show Sl w w.heap.size 2 (.slice (some ⟨C.gW,0,none⟩) P.threads.length P.threads.length) P.threads.length (us.flatMap moC) from by have h2:=h.wks.own;have h3:=h2.len;rw[←h3] at h2 ⊢;exact h2.sl) h.wks.own.len hi;simp only[Option.some.injEq,Addr.mk.injEq,and_true] at hb;obtain⟨rfl,rfl⟩:=hb;rw[hu] at hx;obtain rfl:=Option.some.inj hx;refine⟨br,bs,hu,hwo,hgW,?_,?_⟩
 ·have:=hcw 0 (by decide);simpa[moC] using this
 ·have:=hcw 1 (by decide);simpa[moC] using this
theorem BxM.kd {i p1 p2:Nat} {T:TypeId->Prop} (h:BxM w C i p1 p2) (hk:Kd T w w') (h1:¬T 28) (h2:¬T 3):BxM w' C i p1 p2:=h.keep (fun p u hp=>hk _ _ _ _ hp h1) fun p u hp=>hk _ _ _ _ hp h2
theorem la_abort1 (h:qV w C ve us P M) (i:Nat) (hi:i < P.threads.length) {t:Th} (ht:M.W.ths[i]?=some t) (hl:M.W.evs.length<=100000) {r:MB} {s:MI} (hws:M.ws[i]?=some (some (r,s)))
  (hcn:WoCan P r s) {p1 p2:Nat} (hx:BxM w C i p1 p2):
  Calls Tryz.prog 105 #[.pointer (some ⟨p1,0,none⟩),.pointer (some ⟨p2,0,none⟩)] w (yS C P (abortStep P M i t r s) .nilFunc w):=by
 have hn4:=h.ok.threads.2;obtain⟨gC,cc,hce⟩:=h.ceForm;obtain⟨br,bs,hu,hwo,hgW,w0,w1⟩:=h.woAt hi hws;have d1:=qd h.row 1;have d2:=qd h.row 2;rw[hce] at d1;have lM:=qg h.row;have x0:=qd hx.1 0;have x1:=qd hx.2.1 0;have l1:=qg hx.1;have l2:=qg hx.2.1;have H:=qh h;have HT:=qh ht;have HP:=qh hwo;have HCN:=qh hcn;have HCE:=qh hce;have HBX:=qh hx;clear h hu ht hws hwo hcn hce hx;go_enter Tryz.func105,Tryz.ntmps105;go_wp2_with fail;refine qQ (w.heap.size) [1,0,0,1,1,0,1,3,3] (.fin [0,1,2,3,4,5,6,7,8]) (by kernel_rfl) ?_;simp only[yn,qO,qD,sD,sE,sF,sG]
 repeat first|(refine qB fun K hK=>?_;go_simp;refine hK _ _ ?_;clear hK K)|(apply qI;(intro w2 hw2;have hk1:=hw2.cell;have hk3:=hw2.1;clear hw2;go_simp;with_reducible rfl);simp only[Act.put,sA,sB,sC])
 refine qG (fun K hK=>?_);go_simp;refine hK _ _ (RN.KeepsN.alloc _ _ (by first|omega|exact Nat.le_refl _)) ?_;clear hK K;refine qG (fun K hK=>?_);go_simp;refine hK _ _ (KeepsN.both (W:=w) (RN.KeepsN.alloc _ _ (Nat.le_refl _)) (RN.KeepsN.alloc _ _ (Nat.le_refl _)) (by simp)) ?_;clear hK K
 repeat refine qy ?_
 have bX:Below w.heap.size w (w.alloc (.cells #[.map (some br),.map (some bs)] 135)).drew:=((Below.refl w.heap.size w).alloc (Nat.le_refl _) _).drew;have rX:(w.alloc (.cells #[.map (some br),.map (some bs)] 135)).drew.heap[w.heap.size]?=some (.cells #[.map (some br),.map (some bs)] 135 (0,0)):=qu w _;have zX:(w.alloc (.cells #[.map (some br),.map (some bs)] 135)).drew.heap.size=w.heap.size+1:=by simp
 generalize (w.alloc (.cells #[.map (some br),.map (some bs)] 135)).drew=X at *;have x71:=qd rX 1;have lXW:=qg rX;have HX:=qh (H.o.below bX);have HQX:=qh (HP.o.keep fun b hb=>by
   obtain⟨-,es,cl,hh⟩:=HP.o.isMap b hb;rw[qj hh bX (qg hh),hh])
 have hBX:C.B<=w.heap.size:=H.o.size;have BX:=qh (bX.mono hBX);have BXM:=qh (HBX.o.below bX);have RX:=qh rX;have ZX:=qh zX;clear bX rX zX H HP HBX d1 d2 w0 w1 x0 x1;obtain⟨br',bs',hu',hbr,hbs,hne,hmr,hms,hcr,hsr,hcs,hss⟩:=HQX.o;simp only[Prod.mk.injEq,Value.map.injEq,Option.some.injEq] at hu';obtain⟨rfl,rfl⟩:=hu';have HMR:=qh hmr;have HMS:=qh hms;have HCR:=qh hcr;have HCS:=qh hcs;have HSR:=qh hsr;have HSS:=qh hss;clear hmr hms hcr hsr hcs hss HQX;have hrX:=HMR.o.lt;go_wp2_with (at_range;refine qW.halt ?_)
 refine qW.go ?_;refine HMS.o.wpList_range keyI HCS.o.dom HSS.o Tryz.underlying133 rfl rfl (by rfl) ?_;intro Y hrg hg hz;have HG:=qh hrg;have bY:=below_ranged (Below.refl X.heap.size X) hg (Nat.le_refl _);have hzX:C.B<=X.heap.size:=by have:=ZX.o;omega
 have LY:=qh (show qV Y C ve us P {M with cs:=bkS s (fun _=>true) M.cs} from by rw[bkS_start];exact HX.o.below bY);have BY:=qh (BX.o.trans (bY.mono hzX));have BXY:=qh (BXM.o.below bY);have RY:=qh (qj RX.o bY lXW);have MRY:=qh (HMR.o.below bY hrX);have hzY:X.heap.size+1<=Y.heap.size:=by omega
 clear hrg hg hz bY x71 HMR BXM RX BX;go_wp2_with fail
 go_frame
 go_loopg [17] s.length (fun k _ wr=>∃S,RngI wr bs X.heap.size s S k/\qV wr C ve us P {M with cs:=bkS s S M.cs}/\Below C.B w wr/\X.heap.size+1<=wr.heap.size/\BxM wr C i p1 p2/\wr.heap[w.heap.size]?=some (.cells #[.map (some br),.map (some bs)] 135 (0,0))/\IsMB wr br r.length r)
 case atStart=>exact⟨_,HG.o,LY.o,BY.o,hzY,BXY.o,RY.o,MRY.o⟩
 case round=>
  obtain⟨S,hrg,hL,hB,hz,hbx,hrw,hmr⟩:=hrel;have HG:=qh hrg;have HL:=qh hL;have HB:=qh hB;have HBX:=qh hbx;have HRW:=qh hrw;have HMR:=qh hmr;clear hrg hL hB hbx hrw hmr hzY LY BY BXY RY MRY;go_wp2_with (at_next;refine qW.halt ?_)
  refine qW.go ?_;refine HG.o.wpList_next keyI elem_int HCS.o.dom HSS.o rfl rfl (by rfl) ?_ ?_
  ·intro hd
   have HL2:=qh (show qV wr C ve us P {M with cs:=bkS s (fun _=>false) M.cs} from by rw[←bkS_end HSS.o hd];exact HL.o);clear hd HL;have x70:=qd HRW.o 0;have lx7:=qg HRW.o;go_wp2_with (at_range;refine qW.halt ?_)
   refine qW.go ?_;refine(HMR.o).wpList_range keyI HCR.o.dom HSR.o Tryz.underlying132 rfl rfl (by rfl) ?_;intro Z hrg2 hg2 hz2;have HG2:=qh hrg2;have bZ:=below_ranged (Below.refl wr.heap.size wr) hg2 (Nat.le_refl _);have zr:=HL2.o.size;have LZ:=qh (show qV Z C ve us P {M with cs:=goS r (fun _=>true) (bkS s (fun _=>false) M.cs)} from by rw[goS_start];exact HL2.o.below bZ);have BZ:=qh (HB.o.trans (bZ.mono zr));have BXZ:=qh (HBX.o.below bZ);have hzZ:wr.heap.size+1<=Z.heap.size:=by omega
   obtain⟨w5,rfl⟩:∃w5,w5=wr:=⟨_,rfl⟩
   clear hrg2 hg2 hz2 bZ x70 lx7 hz HB HG HL2 HBX HRW HX ZX;obtain⟨cs1,hcs1⟩:∃cs1,cs1=bkS s (fun _=>false) M.cs:=⟨_,rfl⟩
   have HCS1:=qh hcs1;have hl1:cs1.length=M.cs.length:=by rw[hcs1,bkS_len]
   rw[←hcs1] at LZ;clear hcs1;go_wp2_with fail
   go_frame
   go_loopg [33] r.length (fun k _ wr=>∃S,RngB wr br w5.heap.size r S k/\qV wr C ve us P {M with cs:=goS r S cs1}/\Below C.B w wr/\w5.heap.size+1<=wr.heap.size/\BxM wr C i p1 p2)
   case atStart=>exact⟨_,HG2.o,LZ.o,BZ.o,hzZ,BXZ.o⟩
   case round=>
    obtain⟨S2,hrg,hL,hB,hz,hbx⟩:=hrel;have HG:=qh hrg;have HL:=qh hL;have HB:=qh hB;have HBX:=qh hbx;clear hrg hL hB hbx hzZ LZ BZ BXZ;go_wp2_with (at_next;refine qW.halt ?_)
    refine qW.go ?_;refine HG.o.wpList_next keyI elem_bool HCR.o.dom HSR.o rfl rfl (by rfl) ?_ ?_
    ·intro hd
     have HL2:=qh (show qV wr C ve us P {M with cs:=offCs r s M.cs} from by
      unfold offCs;rw[←HCS1.o,←goS_end HSR.o hd];exact HL.o)
     clear hd HL;have y0:=qd HBX.o.1 0;have y1:=qd HBX.o.2.1 0;have k0:=qg HBX.o.1;have k1:=qg HBX.o.2.1;have e0:=qd HL2.o.row 0;have lm:=qg HL2.o.row;have zr:=HL2.o.size;go_wp2_with fail;refine qM [1,0,0,1,1,2] [0,1,2,3,4,5] (by kernel_rfl) ?_;simp only[qO,qD,sD,sE,sF,sG]
     repeat first|(refine qB fun K hK=>?_;go_simp;refine hK _ _ ?_;clear hK K)|(apply qI;(intro w2 hw2;have hk1:=hw2.cell;have hk3:=hw2.heap;clear hw2;go_simp;with_reducible rfl);simp only[Act.put,sA,sB,sC])
     refine qK (fun K hK=>?_);go_simp;refine(la_said (HL2.o.below (Below.refl _ wr).drew) i hi HT.o 0 true (by omega) hl).mono ?_;rintro e X2 ⟨rfl,hb,ve',us',hla⟩;refine hK _ _ ?_;clear hK K;have B2:=qh (HB.o.drew.trans hb);have L2:=qh hla;clear hb hla y0 y1 e0
     repeat refine qy ?_
     go_wp2;go_ret;exact⟨rfl,B2.o,ve',us',L2.o⟩
    ·intro x u w3 k3 hxm hS hrg3 hlt3 hg3 hz3 hen
     have hit:=HG.o.iter;have hit':∃b since seen c0,wr.heap[w5.heap.size]?=some (.mapIter b since seen c0):=⟨_,hit⟩
     have L3:=HL.o.still (Kd.next hg3 hit') (yI.next hg3 hit');have hB5:C.B<=w5.heap.size:=zr;have HB3:=qh (below_next HB.o hg3 HL.o.size hB5);have bx3:=HBX.o.kd (Kd.next (T:=fun _=>False) hg3 hit') (fun h=>h) (fun h=>h);have HG3:=qh hrg3;have HS3:=qh hS;have hx0:=HCR.o _ hxm;have hxn:=HCN.o.rin _ hxm;simp only at hx0 hxn;obtain⟨k,rfl⟩:∃k:Nat,x=k:=⟨x.toNat,by omega⟩
     have hkn:k < P.cells.length:=by omega
     obtain⟨c,hc⟩:∃c,cs1[k]?=some c:=⟨_,List.getElem?_eq_getElem (by rw[hl1];have:=L3.clen;rw[goS_len,hl1] at this;omega)⟩
     have hc3:=goS_at HSR.o hxm hS hc;obtain⟨lC,c',hc',c0,c1⟩:=L3.ceAt HCE.o hkn;rw[hc3] at hc';obtain rfl:=Option.some.inj hc';obtain⟨L4,hBC,kd1,km1,ro⟩:=L3.ceSet HCE.o (k:=k) (j:=1) (c:=c) (u:=⟨c.val,0⟩) (a:=.int .i64 0) hc3 (by decide) rfl;rw[goS_step HSR.o hxm hc] at L4;obtain⟨csr,hrC⟩:=L3.ceRow HCE.o;have e1:=qd L3.row 1;rw[HCE.o] at e1;have lM3:=qg L3.row;have y0:=qd bx3.1 0;have f3:=qg bx3.1;have ff1:=qq hrC (k*2+1);have hz4:w5.heap.size+1<=w3.heap.size:=by omega
     have bx4:=bx3.kd kd1 (by decide) (by decide);have b4:Below C.B w (w3.setCell ⟨gC,k*2+1,none⟩ (.int .i64 0)):=HB3.o.setCell (p:=⟨gC,k*2+1,none⟩) hBC _;have g4:=HG3.o.obj (ro br (by
      rintro rfl;obtain⟨es,cl,hm,-⟩:=HG3.o.owns;rw[hrC] at hm;cases hm)) (ro w5.heap.size (by
      intro e;obtain⟨s1,s2,s3,hi⟩:=HG3.o.iter;rw[e,hrC] at hi;cases hi))
     have z4:(w3.setCell ⟨gC,k*2+1,none⟩ (.int .i64 0)).heap.size=w3.heap.size:=by simp
     have HG4:=qh g4;have HL4:=qh L4;have HB4:=qh b4;have HX4:=qh bx4;clear hrg3 hg3 hS hxm hz3 hc hit hit' L3 bx3 hrC HL HB HG HBX L4 kd1 km1 ro bx4 b4 g4 hc3;go_wp2_with fail
     go_roundg k3
     case measure=>exact hlt3
     case rel=>exact⟨_,HG4.o,HL4.o,HB4.o,by omega,HX4.o⟩
  ·intro x u w3 k3 hxm hS hrg3 hlt3 hg3 hz3 hen
   have hit:=HG.o.iter;have hit':∃b since seen c0,wr.heap[X.heap.size]?=some (.mapIter b since seen c0):=⟨_,hit⟩
   have L3:=HL.o.still (Kd.next hg3 hit') (yI.next hg3 hit');have HB3:=qh (below_next HB.o hg3 HL.o.size hzX);have bx3:=HBX.o.kd (Kd.next (T:=fun _=>False) hg3 hit') (fun h=>h) (fun h=>h);have rw3:=Kd.next (T:=fun _=>False) hg3 hit' _ _ _ _ HRW.o (fun h=>h)
   have mr3:=HMR.o.obj (by
    obtain⟨es,cl,hm,-⟩:=HMR.o;rw[yI.next hg3 hit' _ _ _ hm,hm])
   have HG3:=qh hrg3;have HS3:=qh hS;have hx0:=HCS.o _ hxm;have hxn:=(HCN.o.sin _ hxm).1;simp only at hx0 hxn;obtain⟨k,rfl⟩:∃k:Nat,x=k:=⟨x.toNat,by omega⟩
   have hkn:k < P.cells.length:=by omega
   obtain⟨c,hc⟩:∃c,M.cs[k]?=some c:=⟨_,List.getElem?_eq_getElem (by have:=L3.clen;rw[bkS_len] at this;omega)⟩
   have hc3:=bkS_at HSS.o hxm hS hc;obtain⟨lC,c',hc',c0,c1⟩:=L3.ceAt HCE.o hkn;rw[hc3] at hc';obtain rfl:=Option.some.inj hc';obtain⟨L4,hBC,kd1,km1,ro⟩:=L3.ceSet HCE.o (k:=k) (j:=0) (c:=c) (u:=⟨u,c.own⟩) (a:=.int .i64 u) hc3 (by decide) rfl;rw[bkS_step HSS.o hxm hc] at L4;obtain⟨csr,hrC⟩:=L3.ceRow HCE.o;have e1:=qd L3.row 1;rw[HCE.o] at e1;have lM3:=qg L3.row;have y0:=qd bx3.1 0;have f3:=qg bx3.1;have ff1:=qq hrC (k*2);have hz4:X.heap.size+1<=w3.heap.size:=by omega
   have bx4:=bx3.kd kd1 (by decide) (by decide);have b4:Below C.B w (w3.setCell ⟨gC,k*2,none⟩ (.int .i64 u)):=HB3.o.setCell (p:=⟨gC,k*2,none⟩) hBC _;have rw4:=kd1 _ _ _ _ rw3 (by decide);have mr4:=mr3.obj (ro br (by
    rintro rfl;obtain⟨es,cl,hm,-⟩:=mr3;rw[hrC] at hm;cases hm))
   have g4:=HG3.o.obj (ro bs (by
    rintro rfl;obtain⟨es,cl,hm,-⟩:=HG3.o.owns;rw[hrC] at hm;cases hm)) (ro X.heap.size (by
    intro e;obtain⟨s1,s2,s3,hi⟩:=HG3.o.iter;rw[e,hrC] at hi;cases hi))
   have z4:(w3.setCell ⟨gC,k*2,none⟩ (.int .i64 u)).heap.size=w3.heap.size:=by simp
   have HG4:=qh g4;have HL4:=qh L4;have HB4:=qh b4;have HX4:=qh bx4;have RW4:=qh rw4;have MR4:=qh mr4;clear hrg3 hg3 hS hxm hz3 hc hit hit' L3 bx3 hrC HL HB HG HBX HRW HMR L4 kd1 km1 ro bx4 b4 g4 hc3 rw3 rw4 mr3 mr4;go_wp2_with fail
   go_roundg k3
   case measure=>exact hlt3
   case rel=>exact⟨_,HG4.o,HL4.o,HB4.o,by omega,HX4.o,RW4.o,MR4.o⟩
end
end
section
attribute [local irreducible] xF
def LsAt (w:World) (C:LC) (v:Value) (l:List Int):Prop:=∃(a:Option Addr) (cap:Nat),v=.slice a l.length cap/\(l≠[]->∃(g off:Nat) (cs:Array Value),a=some ⟨g,off,none⟩/\w.heap[g]?=some (.cells cs 3 (0,0))/\C.B<=g/\l.length<=cap/\∀(j:Nat) (x:Int),l[j]?=some x->cs[off+j]?=some (.int .i64 x))
section
variable {w w':World} {C:LC} {ve:Value} {P:Pg} {M:LM} {us:List (Value×Value)}
theorem LsAt.ofOwn {B:Nat} {v:Value} {l:List Int} (h:zg w B v l) (hB:C.B<=B):LsAt w C v l:=by
 obtain⟨a,c,rfl,hm⟩:=h.form2;refine⟨a,c,rfl,fun hne=>?_⟩;obtain⟨h1,⟨-,h2⟩|⟨g,cap,cur,hv,hg,hh,hle,hmx,hsz,htk⟩⟩:=h
 ·exact absurd (List.length_eq_zero_iff.1 h2) hne
 ·simp only[Value.slice.injEq] at hv
  obtain⟨rfl,-,rfl⟩:=hv;refine⟨g,0,cur,rfl,hh,by omega,hle,fun j x hj=>?_⟩;have hjl:=(List.getElem?_eq_some_iff.1 hj).1;have h2:(cur.toList.take (l.length*1))[j]?=some (.int .i64 x):=by rw[htk,flat_int,List.getElem?_map,hj];rfl
  rw[List.getElem?_take_of_lt (by omega)] at h2;simpa using h2
theorem la_mkAbort (b:Nat) (i:Int) (w:World):Calls Tryz.prog 60 #[.pointer (some ⟨b,0,none⟩),.int .i64 i] w fun e w'=>e=.returned (.func (.func 105) #[] #[.pointer (some ⟨w.heap.size,0,none⟩),.pointer (some ⟨w.heap.size+1,0,none⟩)])/\w'=(w.alloc (.cells #[.pointer (some ⟨b,0,none⟩)] 28)).alloc (.cells #[.int .i64 i] 3):=by
 go_enter Tryz.func60,Tryz.ntmps60;go_wp2;go_ret;exact⟨rfl,rfl⟩
theorem la_release (h:qV w C ve us P M) (i:Nat) (v:Value) (l:List Int) (hv:LsAt w C v l) (hl4:l.length<=4):
  Calls Tryz.prog 61 #[.pointer (some ⟨C.bM,0,none⟩),.int .i64 i,v] w (LaNext C P i (M,.rel l) w):=by
 obtain⟨a,cap,rfl,hls⟩:=hv;have bA:Below w.heap.size w (((w.alloc (.cells #[.pointer (some ⟨C.bM,0,none⟩)] 28)).alloc (.cells #[.int .i64 i] 3)).alloc (.cells #[.slice a l.length cap] 22)):=(((Below.refl w.heap.size w).alloc (Nat.le_refl _) _).alloc (by simp) _).alloc (by simp;omega) _;have rA:=qF (o:=.cells #[.slice a l.length cap] 22) (qF (o:=.cells #[.int .i64 i] 3) (qu w (.cells #[.pointer (some ⟨C.bM,0,none⟩)] 28)));have rB:=qF (o:=.cells #[.slice a l.length cap] 22) (qL (w:=w.alloc (.cells #[.pointer (some ⟨C.bM,0,none⟩)] 28)) (o:=.cells #[.int .i64 i] 3) (g:=w.heap.size+1) (by simp));have rC:=qL (w:=(w.alloc (.cells #[.pointer (some ⟨C.bM,0,none⟩)] 28)).alloc (.cells #[.int .i64 i] 3)) (o:=.cells #[.slice a l.length cap] 22) (g:=w.heap.size+1+1) (by simp);have hB:=h.size;have HA:=qh (h.below bA);have BA:=qh (bA.mono hB);have RA:=qh rA;have RB:=qh rB;have RC:=qh rC;have HLS:=qh hls;have BW:=qh bA;clear bA rA rB rC h hls;cases l with
 |nil=>
  go_enter Tryz.func61,Tryz.ntmps61;go_wp2;go_ret;exact⟨_,ve,us,rfl,BA.o,HA.o,w.heap.size,w.heap.size+1,rfl,RA.o,RB.o,hB,by omega⟩
 |cons k l=>
  obtain⟨n,hn⟩:∃n,n=l.length+1:=⟨_,rfl⟩
  have hlen:(k::l).length=n:=by rw[hn];rfl
  have q0:((n:Int)==0)=false:=by simp;omega
  have HN:=qh hlen;rw[hlen] at HA BA RA RB RC hl4 BW ⊢;clear hlen hn;go_enter Tryz.func61,Tryz.ntmps61;go_wp2;go_ret;refine⟨_,ve,us,rfl,BA.o,HA.o,w.heap.size,w.heap.size+1,w.heap.size+1+1,rfl,⟨RA.o,RB.o,hB,by omega⟩,?_⟩;obtain⟨g,off,cs,rfl,h1,h2,h3,h6⟩:=HLS.o (by simp);refine⟨g,off,cap,cs,?_,qj h1 BW.o (qg h1),by omega,h2,h3,h6⟩;rw[HN.o];exact RC.o
theorem la_rel1 (h:qV w C ve us P M) (i:Nat) (hi:i < P.threads.length) {t:Th} (ht:M.W.ths[i]?=some t) (hl:M.W.evs.length<=100000) {p1 p2:Nat} (hx:BxM w C i p1 p2):
  Calls Tryz.prog 107 #[.pointer (some ⟨p1,0,none⟩),.pointer (some ⟨p2,0,none⟩)] w (yS C P {M with W:=M.W.putO i (yG P i t 0 false)} .nilFunc w):=by
 have y0:=qd hx.1 0;have y1:=qd hx.2.1 0;have k0:=qg hx.1;have k1:=qg hx.2.1;have e0:=qd h.row 0;have lm:=qg h.row;have H:=qh h;have HT:=qh ht;clear h ht hx;go_enter Tryz.func107,Tryz.ntmps107;go_wp2_with fail;refine qM [1,0,0,1,1,2] [0,1,2,3,4,5] (by kernel_rfl) ?_;simp only[qO,qD,sD,sE,sF,sG]
 repeat first|(refine qB fun K hK=>?_;go_simp;refine hK _ _ ?_;clear hK K)|(apply qI;(intro w2 hw2;have hk1:=hw2.cell;have hk3:=hw2.heap;clear hw2;go_simp;with_reducible rfl);simp only[Act.put,sA,sB,sC])
 refine qK (fun K hK=>?_);go_simp;refine(la_said (H.o.below (Below.refl _ w).drew) i hi HT.o 0 false (by omega) hl).mono ?_;rintro e X2 ⟨rfl,hb,ve',us',hla⟩;refine hK _ _ ?_;clear hK K;have B2:=qh ((Below.refl C.B w).drew.trans hb);have L2:=qh hla;clear hb hla y0 y1 e0
 repeat refine qy ?_
 go_wp2;go_ret;exact⟨rfl,B2.o,ve',us',L2.o⟩
theorem la_rel2 (h:qV w C ve us P M) (i:Nat) (hi:i < P.threads.length) (k:Int) (l:List Int) (hl4:(k::l).length<=4) (hk:∀z ∈ k::l,0<=z/\z < P.cells.length) {t:Th} {p1 p2 p3:Nat} (hx:BxM w C i p1 p2) (h3:LsBx w C p3 (k::l)):
  Calls Tryz.prog 108 #[.pointer (some ⟨p1,0,none⟩),.pointer (some ⟨p3,0,none⟩),.pointer (some ⟨p2,0,none⟩)] w (LaNext C P i (relStep P M i t (k::l)) w):=by
 obtain⟨gC,cc,hce⟩:=h.ceForm;obtain⟨hk0,hk1⟩:=hk k (by simp);obtain⟨k,rfl⟩:∃z:Nat,k=z:=⟨k.toNat,by omega⟩
 have hc4:=h.ok.cells.2;have hkn:k < P.cells.length:=by omega
 obtain⟨lC,c,hc,c0,c1⟩:=h.ceAt hce hkn;obtain⟨L4,hBC,kd1,km1,ro⟩:=h.ceSet hce (k:=k) (j:=1) (c:=c) (u:=⟨c.val,0⟩) (a:=.int .i64 0) hc (by decide) rfl;obtain⟨csr,hrC⟩:=h.ceRow hce;have hst:relStep P M i t ((k:Int)::l)=({M with cs:=M.cs.set k ⟨c.val,0⟩},.rel l):=by
  simp[relStep,_root_.Go.Proofs.YtkfhgifhfkcehaaGreatDoor.ceAt,hc]
 rw[hst];obtain⟨g,off,cap,cs,r3,rg,hB3,hBg,hcap,hcs⟩:=h3;obtain⟨n,hn⟩:∃n,n=((k:Int)::l).length:=⟨_,rfl⟩
 rw[←hn] at r3 hcap hl4;have hn1:n=l.length+1:=by rw[hn];rfl
 have e1:=qd h.row 1;rw[hce] at e1;have lM:=qg h.row;have y0:=qd hx.1 0;have y1:=qd hx.2.1 0;have y3:=qd r3 0;have k0:=qg hx.1;have k1:=qg hx.2.1;have k3:=qg r3;have kg:=qg rg;have yg:w.cell? ⟨g,off,none⟩=some (.int .i64 (k:Int)):=by rw[qd rg off];have:=hcs 0 k rfl;simpa using this
 have ff1:=qq hrC (k*2+1);have bx4:=hx.kd kd1 (by decide) (by decide);have b4:Below C.B w (w.setCell ⟨gC,k*2+1,none⟩ (.int .i64 0)):=(Below.refl _ w).setCell (p:=⟨gC,k*2+1,none⟩) hBC _;have r34:=kd1 _ _ _ _ r3 (by decide);have rg4:=kd1 _ _ _ _ rg (by decide);have hv':∀X:World,X.heap[g]?=some (.cells cs 3 (0,0))->LsAt X C (.slice (if cap=1 then some ⟨g,off,none⟩ else some ⟨g,off+1,none⟩) (n - 1) (cap - 1)) l:=fun X hX=>by
  refine⟨_,_,by rw[show n - 1=l.length by omega],fun hne=>?_⟩;have:l.length≠0:=fun e=>hne (List.length_eq_zero_iff.1 e);rw[if_neg (by omega)];refine⟨g,off+1,cs,rfl,hX,hBg,by omega,fun j x hj=>?_⟩;have:=hcs (j+1) x (by simpa using hj)
  rwa [show off+1+j=off+(j+1) by omega]
 have hn2:(1:Int)<=(n:Int):=by omega
 have hn3:0 < n:=by omega
 have hn4:(0:Int) < (n:Int):=by omega
 have hl3:l.length<=4:=by omega
 have z4:(w.setCell ⟨gC,k*2+1,none⟩ (.int .i64 0)).heap.size=w.heap.size:=by simp
 have HL4:=qh L4;have HX4:=qh bx4;have HB4:=qh b4;have HV:=qh hv';have R34:=qh r34;have RG4:=qh rg4;have HN:=qh hn;clear h hx r3 rg hce hc L4 kd1 km1 ro hrC bx4 b4 hv' hst hcs r34 rg4 hn hk hn1;go_enter Tryz.func108,Tryz.ntmps108;go_wp2_with fail;refine qM [1,0,0,1,1,0,1,0,0,2] [0,1,2,3,4,5,6,7,8,9] (by kernel_rfl) ?_;simp only[qO,qD,sD,sE,sF,sG]
 repeat first|(refine qB fun K hK=>?_;go_simp;refine hK _ _ ?_;clear hK K)|(apply qI;(intro w2 hw2;have hk1:=hw2.cell;have hk3:=hw2.heap;clear hw2;go_simp;with_reducible rfl);simp only[Act.put,sA,sB,sC])
 refine qK (fun K hK=>?_);go_simp;refine hK _ _ ?_;clear hK K
 repeat refine qy ?_
 clear y0 y1 y3 yg c0 c1 e1 ff1;generalize w.setCell ⟨gC,k*2+1,none⟩ (.int .i64 0)=X at *;have y0:=qd HX4.o.1 0;have y1:=qd HX4.o.2.1 0;have y3:=qd R34.o 0;have k0:=qg HX4.o.1;have k1:=qg HX4.o.2.1;have k3:=qg R34.o;go_wp2_with fail;by_cases hc1:cap=1
 ·subst hc1
  refine qM [1,1,1,0,2,0] [0,1,2,3,4,5] (by kernel_rfl) ?_;simp only[qO,qD,sD,sE,sF,sG]
  repeat first|(refine qB fun K hK=>?_;go_simp;refine hK _ _ ?_;clear hK K)|(apply qI;(intro w2 hw2;have hk1:=hw2.cell;have hk3:=hw2.heap;clear hw2;go_simp;with_reducible rfl);simp only[Act.put,sA,sB,sC])
  refine qK (fun K hK=>?_);go_simp;refine(la_release (HL4.o.below (Below.refl _ X).drew.drew) i _ l (by have h9:=HV.o X.drew.drew RG4.o;first|exact h9|(rw[if_neg (by assumption)] at h9;exact h9)|(rw[show n - 1=0 by omega] at h9;exact h9)) hl3).mono ?_;rintro e X2 ⟨v,ve',us',rfl,hb,hla,hx2⟩;refine hK _ _ ?_;clear hK K;have B2:=qh (HB4.o.drew.drew.trans hb);have L2:=qh hla;have X2':=qh hx2;clear hb hla hx2 y0 y1 y3
  repeat first|(refine qB fun K hK=>?_;go_simp;refine hK _ _ ?_;clear hK K)|refine qy ?_
  go_wp2;go_ret;exact⟨v,ve',us',rfl,B2.o,L2.o,X2'.o⟩
 ·
  refine qM [1,1,1,0,2,0] [0,1,2,3,4,5] (by kernel_rfl) ?_;simp only[qO,qD,sD,sE,sF,sG]
  repeat first|(refine qB fun K hK=>?_;go_simp;refine hK _ _ ?_;clear hK K)|(apply qI;(intro w2 hw2;have hk1:=hw2.cell;have hk3:=hw2.heap;clear hw2;go_simp;with_reducible rfl);simp only[Act.put,sA,sB,sC])
  refine qK (fun K hK=>?_);go_simp;refine(la_release (HL4.o.below (Below.refl _ X).drew.drew) i _ l (by have h9:=HV.o X.drew.drew RG4.o;first|exact h9|(rw[if_neg (by assumption)] at h9;exact h9)|(rw[show n - 1=0 by omega] at h9;exact h9)) hl3).mono ?_;rintro e X2 ⟨v,ve',us',rfl,hb,hla,hx2⟩;refine hK _ _ ?_;clear hK K;have B2:=qh (HB4.o.drew.drew.trans hb);have L2:=qh hla;have X2':=qh hx2;clear hb hla hx2 y0 y1 y3
  repeat first|(refine qB fun K hK=>?_;go_simp;refine hK _ _ ?_;clear hK K)|refine qy ?_
  go_wp2;go_ret;exact⟨v,ve',us',rfl,B2.o,L2.o,X2'.o⟩
end
end
